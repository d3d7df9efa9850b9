/- Data in memory: a universe of plain data, and what it means that cells of a world read as a datum. -/
import Derived.Below
import Derived.WalkKit
import Derived.Test.YtdcbgkmhlpkjiaaDoorSpec
namespace Go.LF

/-- Plain data. -/
inductive Dat where
  | int (k : IntKind) (n : Int)
  | bool (b : Bool)
  | str (s : ByteArray)
  | st (fs : List Dat)
  | seq (wd : Nat) (xs : List Dat)

/-- Outside the blocks S the world w' is as w was; new blocks may be there. -/
structure Upto (S : Nat → Prop) (w w' : World) : Prop where
  os : w'.os = w.os
  tape : w'.tape = w.tape
  output : w'.output = w.output
  size : w.heap.size ≤ w'.heap.size
  block : ∀ k, k < w.heap.size → ¬ S k → w'.heap[k]? = w.heap[k]?

abbrev none' : Nat → Prop := fun _ => False

theorem Upto.refl (S : Nat → Prop) (w : World) : Upto S w w := ⟨rfl, rfl, rfl, Nat.le_refl _, fun _ _ _ => rfl⟩
theorem Upto.trans {S S' : Nat → Prop} {a b c : World} (h : Upto S a b) (k : Upto S' b c) (hs : ∀ i, i < a.heap.size → S' i → S i) : Upto S a c :=
  ⟨k.os.trans h.os, k.tape.trans h.tape, k.output.trans h.output, Nat.le_trans h.size k.size,
    fun i hi hn => (k.block i (Nat.lt_of_lt_of_le hi h.size) (fun x => hn (hs i hi x))).trans (h.block i hi hn)⟩
theorem Upto.mono {S S' : Nat → Prop} {a b : World} (h : Upto S a b) (hs : ∀ i, i < a.heap.size → S i → S' i) : Upto S' a b :=
  ⟨h.os, h.tape, h.output, h.size, fun i hi hn => h.block i hi (fun x => hn (hs i hi x))⟩
theorem Upto.drew {S : Nat → Prop} {a w : World} (h : Upto S a w) : Upto S a w.drew := ⟨h.os, h.tape, h.output, h.size, h.block⟩
theorem Upto.alloc {S : Nat → Prop} {a w : World} (h : Upto S a w) (o : Obj) : Upto S a (w.alloc o) :=
  h.trans (S' := none') ⟨rfl, rfl, rfl, by simp, fun k hk _ => RowKit.Below.heap_alloc _ _ _ hk⟩ (fun _ _ x => x.elim)
theorem Upto.setCell {S : Nat → Prop} {a w : World} (h : Upto S a w) {p : Addr} (hp : p.block < a.heap.size → S p.block) (u : Value) : Upto S a (w.setCell p u) :=
  h.trans (S' := fun k => k = p.block) ⟨rfl, rfl, rfl, by simp [World.setCell], fun k _ hk => RowKit.Below.heap_setCell _ _ _ _ hk⟩ (fun i hi e => by subst e; exact hp hi)
theorem Upto.below {B : Nat} {w w' : World} (h : Upto (fun k => B ≤ k) w w') (hB : B ≤ w.heap.size) : RowKit.Below B w w' :=
  ⟨h.os, h.tape, h.output, h.size, fun k hk => h.block k (by omega) (by omega)⟩
theorem Upto.of_below {S : Nat → Prop} {w w' : World} (h : RowKit.Below w.heap.size w w') : Upto S w w' :=
  ⟨h.os, h.tape, h.output, h.size, fun k hk _ => h.block k hk⟩
theorem Upto.cell {S : Nat → Prop} {w w' : World} (h : Upto S w w') {a : Addr} {v : Value} (hc : w.cell? a = some v) (hs : ¬ S a.block) : w'.cell? a = some v :=
  (World.cell?_of_block (h.block _ (World.block_lt_of_cell? w a hc) hs)).trans hc

mutual
/-- These cells read as this datum in w; no cell of a block of O is looked at. -/
def Rep (O : Nat → Prop) (w : World) : Dat → List Value → Prop
  | .int k n, cs => cs = [.int k n]
  | .bool b, cs => cs = [.bool b]
  | .str s, cs => cs = [.string s]
  | .st fs, cs => RepF O w fs cs
  | .seq wd xs, cs => ∃ a cap, cs = [.slice a xs.length cap] ∧ xs.length ≤ cap ∧ RepE O w wd xs a 0
/-- The fields of a struct. -/
def RepF (O : Nat → Prop) (w : World) : List Dat → List Value → Prop
  | [], cs => cs = []
  | d :: ds, cs => ∃ c1 c2, cs = c1 ++ c2 ∧ Rep O w d c1 ∧ RepF O w ds c2
/-- The elements of a slice, from an offset on. -/
def RepE (O : Nat → Prop) (w : World) (wd : Nat) : List Dat → Option Addr → Nat → Prop
  | [], _, _ => True
  | d :: ds, a, j => (∃ b o cs, a = some ⟨b, o, none⟩ ∧ b < w.heap.size ∧ ¬ O b ∧ cs.length = wd ∧ (∀ i v, cs[i]? = some v → w.cell? ⟨b, o + j + i, none⟩ = some v) ∧ Rep O w d cs) ∧
      RepE O w wd ds a (j + wd)
end

/-- Cells outside the blocks O read as they did. -/
def Cel (O : Nat → Prop) (w w' : World) : Prop := w.heap.size ≤ w'.heap.size ∧ ∀ b o v, ¬ O b → w.cell? ⟨b, o, none⟩ = some v → w'.cell? ⟨b, o, none⟩ = some v
theorem Upto.cel {O S : Nat → Prop} {w w' : World} (h : Upto S w w') (hs : ∀ k, S k → O k) : Cel O w w' := ⟨h.size, fun _ _ _ hb hv => h.cell hv (fun x => hb (hs _ x))⟩
theorem Cel.trans {O : Nat → Prop} {a b c : World} (h : Cel O a b) (k : Cel O b c) : Cel O a c := ⟨Nat.le_trans h.1 k.1, fun x o v hx hv => k.2 x o v hx (h.2 x o v hx hv)⟩
mutual
theorem Rep.carry {O : Nat → Prop} {w w' : World} (h : Cel O w w') : ∀ (d : Dat) (cs : List Value), Rep O w d cs → Rep O w' d cs
  | .int _ _, _, r => by simpa only [Rep] using r
  | .bool _, _, r => by simpa only [Rep] using r
  | .str _, _, r => by simpa only [Rep] using r
  | .st fs, cs, r => by simp only [Rep] at r ⊢; exact RepF.carry h fs cs r
  | .seq wd xs, cs, r => by
      simp only [Rep] at r ⊢
      obtain ⟨a, cap, h1, h2, h3⟩ := r
      exact ⟨a, cap, h1, h2, RepE.carry h wd xs a 0 h3⟩
theorem RepF.carry {O : Nat → Prop} {w w' : World} (h : Cel O w w') : ∀ (ds : List Dat) (cs : List Value), RepF O w ds cs → RepF O w' ds cs
  | [], _, r => by simpa only [RepF] using r
  | d :: ds, cs, r => by
      simp only [RepF] at r ⊢
      obtain ⟨c1, c2, h1, h2, h3⟩ := r
      exact ⟨c1, c2, h1, Rep.carry h d c1 h2, RepF.carry h ds c2 h3⟩
theorem RepE.carry {O : Nat → Prop} {w w' : World} (h : Cel O w w') (wd : Nat) : ∀ (ds : List Dat) (a : Option Addr) (j : Nat), RepE O w wd ds a j → RepE O w' wd ds a j
  | [], _, _, _ => by simp only [RepE]
  | d :: ds, a, j, r => by
      simp only [RepE] at r ⊢
      obtain ⟨⟨b, o, cs, h1, hb, h2, h3, h4, h5⟩, h6⟩ := r
      exact ⟨⟨b, o, cs, h1, Nat.lt_of_lt_of_le hb h.1, h2, h3, fun i v hv => h.2 _ _ _ h2 (h4 i v hv), Rep.carry h d cs h5⟩, RepE.carry h wd ds a _ h6⟩
end
theorem Rep.keep {O S : Nat → Prop} {w w' : World} (h : Upto S w w') (hs : ∀ k, S k → O k) (d : Dat) (cs : List Value) (r : Rep O w d cs) : Rep O w' d cs := Rep.carry (h.cel hs) d cs r
theorem RepE.keep {O S : Nat → Prop} {w w' : World} (h : Upto S w w') (hs : ∀ k, S k → O k) (wd : Nat) (ds : List Dat) (a : Option Addr) (j : Nat) (r : RepE O w wd ds a j) : RepE O w' wd ds a j := RepE.carry (h.cel hs) wd ds a j r

mutual
theorem Rep.weaken {O O' : Nat → Prop} {w : World} (hs : ∀ k, k < w.heap.size → O' k → O k) : ∀ (d : Dat) (cs : List Value), Rep O w d cs → Rep O' w d cs
  | .int _ _, _, r => by simpa only [Rep] using r
  | .bool _, _, r => by simpa only [Rep] using r
  | .str _, _, r => by simpa only [Rep] using r
  | .st fs, cs, r => by simp only [Rep] at r ⊢; exact RepF.weaken hs fs cs r
  | .seq wd xs, cs, r => by
      simp only [Rep] at r ⊢
      obtain ⟨a, cap, h1, h2, h3⟩ := r
      exact ⟨a, cap, h1, h2, RepE.weaken hs wd xs a 0 h3⟩
theorem RepF.weaken {O O' : Nat → Prop} {w : World} (hs : ∀ k, k < w.heap.size → O' k → O k) : ∀ (ds : List Dat) (cs : List Value), RepF O w ds cs → RepF O' w ds cs
  | [], _, r => by simpa only [RepF] using r
  | d :: ds, cs, r => by
      simp only [RepF] at r ⊢
      obtain ⟨c1, c2, h1, h2, h3⟩ := r
      exact ⟨c1, c2, h1, Rep.weaken hs d c1 h2, RepF.weaken hs ds c2 h3⟩
theorem RepE.weaken {O O' : Nat → Prop} {w : World} (hs : ∀ k, k < w.heap.size → O' k → O k) (wd : Nat) : ∀ (ds : List Dat) (a : Option Addr) (j : Nat), RepE O w wd ds a j → RepE O' w wd ds a j
  | [], _, _, _ => by simp only [RepE]
  | d :: ds, a, j, r => by
      simp only [RepE] at r ⊢
      obtain ⟨⟨b, o, cs, h1, hb, h2, h3, h4, h5⟩, h6⟩ := r
      exact ⟨⟨b, o, cs, h1, hb, fun x => h2 (hs _ hb x), h3, h4, Rep.weaken hs d cs h5⟩, RepE.weaken hs wd ds a _ h6⟩
end

theorem RepE.get {O : Nat → Prop} {w : World} {wd : Nat} : ∀ {xs : List Dat} {a : Option Addr} {j : Nat}, RepE O w wd xs a j → ∀ i (h : i < xs.length),
    ∃ b o cs, a = some ⟨b, o, none⟩ ∧ b < w.heap.size ∧ ¬ O b ∧ cs.length = wd ∧ (∀ m v, cs[m]? = some v → w.cell? ⟨b, o + j + i * wd + m, none⟩ = some v) ∧ Rep O w xs[i] cs := by
  intro xs
  induction xs with
  | nil => intro a j _ i h; simp at h
  | cons d ds ih =>
    intro a j r i h
    simp only [RepE] at r
    obtain ⟨⟨b, o, cs, h1, hb, h2, h3, h4, h5⟩, h6⟩ := r
    cases i with
    | zero => exact ⟨b, o, cs, h1, hb, h2, h3, by simpa using h4, h5⟩
    | succ i =>
      obtain ⟨b', o', cs', g1, gb, g2, g3, g4, g5⟩ := ih h6 i (by simpa using h)
      refine ⟨b', o', cs', g1, gb, g2, g3, ?_, g5⟩
      intro m v hm
      have := g4 m v hm
      rw [Nat.add_mul, Nat.one_mul]
      rw [show o' + j + (i * wd + wd) + m = o' + (j + wd) + i * wd + m from by omega]
      exact this

/-- A string as its bytes. -/
abbrev B (l : List UInt8) : ByteArray := ⟨l.toArray⟩
theorem B_size (l : List UInt8) : (B l).size = l.length := rfl

namespace Tm
mutual
def dat : Tm → Dat
  | mk k n i as => .st [.int .i64 k, .str (B n), .int .i64 i, .seq 4 (dats as)]
def dats : List Tm → List Dat
  | [] => []
  | t :: ts => dat t :: dats ts
end
theorem dats_eq (l : List Tm) : dats l = l.map dat := by
  induction l with
  | nil => rfl
  | cons t ts ih => simp [dats, ih]
end Tm

theorem rep_tm {O : Nat → Prop} {w : World} {k : Int} {n : List UInt8} {i : Int} {as : List Tm} {cs : List Value} :
    Rep O w (Tm.mk k n i as).dat cs ↔ ∃ a cap, cs = [.int .i64 k, .string (B n), .int .i64 i, .slice a as.length cap] ∧ as.length ≤ cap ∧ RepE O w 4 (as.map Tm.dat) a 0 := by
  simp only [Tm.dat, Rep, RepF, Tm.dats_eq]
  constructor
  · rintro ⟨c1, c2, rfl, rfl, c3, c4, rfl, rfl, c5, c6, rfl, rfl, c7, c8, rfl, ⟨a, cap, rfl, h1, h2⟩, rfl⟩
    exact ⟨a, cap, by simp, by simpa using h1, h2⟩
  · rintro ⟨a, cap, rfl, h1, h2⟩
    exact ⟨[_], [_, _, _], rfl, rfl, [_], [_, _], rfl, rfl, [_], [_], rfl, rfl, [.slice a as.length cap], [], rfl, ⟨a, cap, by simp, by simpa using h1, h2⟩, rfl⟩

/-- An argument of a term, in memory. -/
theorem arg_tm {O : Nat → Prop} {w : World} {as : List Tm} {a : Option Addr} (h : RepE O w 4 (as.map Tm.dat) a 0) (i : Nat) (hi : i < as.length) :
    ∃ b o k n x s c, a = some ⟨b, o, none⟩ ∧ b < w.heap.size ∧ ¬ O b ∧
      w.cell? ⟨b, o + i * 4, none⟩ = some (.int .i64 k) ∧ w.cell? ⟨b, o + i * 4 + 1, none⟩ = some (.string (B n)) ∧
      w.cell? ⟨b, o + i * 4 + 2, none⟩ = some (.int .i64 x) ∧ w.cell? ⟨b, o + i * 4 + 3, none⟩ = some (.slice s as[i].args.length c) ∧
      Rep O w as[i].dat [.int .i64 k, .string (B n), .int .i64 x, .slice s as[i].args.length c] := by
  obtain ⟨b, o, cs, h1, hb, h2, h3, h4, h5⟩ := h.get i (by simpa using hi)
  simp only [List.getElem_map] at h5
  cases hx : as[i] with
  | mk k n x bs =>
    rw [hx] at h5
    obtain ⟨s, c, rfl, g1, g2⟩ := rep_tm.1 h5
    refine ⟨b, o, k, n, x, s, c, h1, hb, h2, ?_, ?_, ?_, ?_, h5⟩
    · simpa using h4 0 _ rfl
    · simpa using h4 1 _ rfl
    · simpa using h4 2 _ rfl
    · simpa [Tm.args] using h4 3 _ rfl

theorem Cel.cell {O : Nat → Prop} {w w' : World} (h : Cel O w w') {b o : Nat} {v : Value} (hb : ¬ O b) (hv : w.cell? ⟨b, o, none⟩ = some v) : w'.cell? ⟨b, o, none⟩ = some v := h.2 b o v hb hv
theorem Cel.refl (O : Nat → Prop) (w : World) : Cel O w w := ⟨Nat.le_refl _, fun _ _ _ _ h => h⟩
theorem Cel.alloc {O : Nat → Prop} {a w : World} (h : Cel O a w) (o : Obj) : Cel O a (w.alloc o) := h.trans (((Upto.refl none' w).alloc o).cel (fun _ x => x.elim))
theorem Cel.weaken {O O' : Nat → Prop} {w w' : World} (h : Cel O w w') (hs : ∀ k, O k → O' k) : Cel O' w w' := ⟨h.1, fun b o v hb hv => h.2 b o v (fun x => hb (hs _ x)) hv⟩
/-- A box that has just been laid. -/
theorem Cel.box4 {O : Nat → Prop} {w w' : World} {c0 c1 c2 c3 : Value} {T : TypeId} (h : Cel O (w.alloc (.cells #[c0, c1, c2, c3] T)) w') (hb : ¬ O w.heap.size) :
    w'.cell? ⟨w.heap.size, 0, none⟩ = some c0 ∧ w'.cell? ⟨w.heap.size, 1, none⟩ = some c1 ∧ w'.cell? ⟨w.heap.size, 2, none⟩ = some c2 ∧ w'.cell? ⟨w.heap.size, 3, none⟩ = some c3 := by
  refine ⟨h.cell hb ?_, h.cell hb ?_, h.cell hb ?_, h.cell hb ?_⟩ <;> rw [World.cell?_alloc_new] <;> rfl
theorem Cel.box1 {O : Nat → Prop} {w w' : World} {c0 : Value} {T : TypeId} (h : Cel O (w.alloc (.cells #[c0] T)) w') (hb : ¬ O w.heap.size) :
    w'.cell? ⟨w.heap.size, 0, none⟩ = some c0 := by
  refine h.cell hb ?_; rw [World.cell?_alloc_new]; rfl
theorem Upto.behind {S : Nat → Prop} {w w' : World} {o : Obj} (h : Upto S (w.alloc o) w') (hs : ∀ k, k < w.heap.size → S k → none' k := by exact fun _ _ x => x) : Upto none' w w' :=
  ((Upto.refl none' w).alloc o).trans h hs
theorem Upto.cells {S : Nat → Prop} {W w1 : World} (hb : Upto S W w1) :
    (∀ b o, b < W.heap.size → ¬ S b → w1.cell? ⟨b, o, none⟩ = W.cell? ⟨b, o, none⟩) ∧ (∀ b o, b < W.heap.size → ¬ S b → w1.frozen? ⟨b, o, none⟩ = W.frozen? ⟨b, o, none⟩) :=
  ⟨fun b _ h n => World.cell?_of_block (hb.block b h n), fun b _ h n => World.frozen?_of_block (hb.block b h n)⟩
/-- What lay below reads as it did. -/
theorem Upto.cells0 {W w1 : World} (hb : Upto none' W w1) :
    (∀ b o, b < W.heap.size → w1.cell? ⟨b, o, none⟩ = W.cell? ⟨b, o, none⟩) ∧ (∀ b o, b < W.heap.size → w1.frozen? ⟨b, o, none⟩ = W.frozen? ⟨b, o, none⟩) :=
  ⟨fun b _ h => World.cell?_of_block (hb.block b h (fun x => x)), fun b _ h => World.frozen?_of_block (hb.block b h (fun x => x))⟩
theorem Rep.on {O : Nat → Prop} {w w' : World} {d : Dat} {cs : List Value} (r : Rep O w d cs) (h : Upto none' w w') : Rep O w' d cs := Rep.keep h (fun _ x => x.elim) d cs r
theorem RepE.cel {O : Nat → Prop} {w w' : World} {wd : Nat} {ds : List Dat} {a : Option Addr} {j : Nat} (r : RepE O w wd ds a j) (h : Cel O w w') : RepE O w' wd ds a j := RepE.carry h wd ds a j r
theorem RepE.on {O : Nat → Prop} {w w' : World} {wd : Nat} {ds : List Dat} {a : Option Addr} {j : Nat} (r : RepE O w wd ds a j) (h : Upto none' w w') : RepE O w' wd ds a j := RepE.keep h (fun _ x => x.elim) wd ds a j r
theorem Rep.new {O : Nat → Prop} {w : World} {d : Dat} {cs : List Value} (r : Rep O w d cs) (o : Obj) : Rep O (w.alloc o) d cs := r.on ((Upto.refl _ w).alloc o)
theorem hid {p : Prop} (h : p) : RowKit.Hid p := h
mutual
/-- What is read lies in blocks that are there: so it is none of those to come. -/
theorem Rep.fresh' {O : Nat → Prop} {w : World} : ∀ (d : Dat) (cs : List Value), Rep O w d cs → Rep (fun b => O b ∨ w.heap.size ≤ b) w d cs
  | .int _ _, _, r => by simpa only [Rep] using r
  | .bool _, _, r => by simpa only [Rep] using r
  | .str _, _, r => by simpa only [Rep] using r
  | .st fs, cs, r => by simp only [Rep] at r ⊢; exact RepF.fresh' fs cs r
  | .seq wd xs, cs, r => by
      simp only [Rep] at r ⊢
      obtain ⟨a, cap, h1, h2, h3⟩ := r
      exact ⟨a, cap, h1, h2, RepE.fresh' wd xs a 0 h3⟩
theorem RepF.fresh' {O : Nat → Prop} {w : World} : ∀ (ds : List Dat) (cs : List Value), RepF O w ds cs → RepF (fun b => O b ∨ w.heap.size ≤ b) w ds cs
  | [], _, r => by simpa only [RepF] using r
  | d :: ds, cs, r => by
      simp only [RepF] at r ⊢
      obtain ⟨c1, c2, h1, h2, h3⟩ := r
      exact ⟨c1, c2, h1, Rep.fresh' d c1 h2, RepF.fresh' ds c2 h3⟩
theorem RepE.fresh' {O : Nat → Prop} {w : World} (wd : Nat) : ∀ (ds : List Dat) (a : Option Addr) (j : Nat), RepE O w wd ds a j → RepE (fun b => O b ∨ w.heap.size ≤ b) w wd ds a j
  | [], _, _, _ => by simp only [RepE]
  | d :: ds, a, j, r => by
      simp only [RepE] at r ⊢
      obtain ⟨⟨b, o, cs, h1, hb, h2, h3, h4, h5⟩, h6⟩ := r
      exact ⟨⟨b, o, cs, h1, hb, fun x => x.elim h2 (fun y => by omega), h3, h4, Rep.fresh' d cs h5⟩, RepE.fresh' wd ds a _ h6⟩
end
theorem Rep.fresh {O : Nat → Prop} {w : World} {d : Dat} {cs : List Value} (r : Rep O w d cs) : Rep (fun b => w.heap.size ≤ b) w d cs := Rep.weaken (fun _ _ h => .inr h) d cs (Rep.fresh' d cs r)
theorem Rep.freshO {O : Nat → Prop} {w : World} {d : Dat} {cs : List Value} (r : Rep O w d cs) : Rep (fun b => O b ∨ w.heap.size ≤ b) w d cs := Rep.fresh' d cs r
theorem ret_int {k : IntKind} {a b : Int} (h : a = b) : Ending.returned (.int k a) = .returned (.int k b) := by rw [h]
theorem ret_bool {a b : Bool} (h : a = b) : Ending.returned (.bool a) = .returned (.bool b) := by rw [h]
theorem int_eq {k : IntKind} {a b : Int} (h : a = b) : Value.int k a = .int k b := by rw [h]
end Go.LF
