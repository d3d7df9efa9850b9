/- Cells that are kept, where what may change depends on the world: rows that grow. -/
import Derived.Test.YtdcbgkmhlpkjiaaDoorBox
namespace Go.LF
open Go.RowKit

/-- Cells outside the blocks O read as they did, and stay outside. -/
def CelW (O : World → Nat → Prop) (w w' : World) : Prop := w.heap.size ≤ w'.heap.size ∧ ∀ b, b < w.heap.size → ¬ O w b → ¬ O w' b ∧ ∀ o v, w.cell? ⟨b, o, none⟩ = some v → w'.cell? ⟨b, o, none⟩ = some v
/-- A cell outside the blocks O. -/
def At (O : World → Nat → Prop) (w : World) (b o : Nat) (v : Value) : Prop := ¬ O w b ∧ w.cell? ⟨b, o, none⟩ = some v
/-- New blocks are outside O. -/
structure Fresh (O : World → Nat → Prop) (H0 : Nat) (Ts : TypeId → Prop) : Prop where
  new : ∀ (W : World) (cs : Array Value) (T : TypeId), Ts T → H0 ≤ W.heap.size → ¬ O (W.alloc (.cells cs T)) W.heap.size
  old : ∀ (W : World) (o : Obj) (b : Nat), b < W.heap.size → ¬ O W b → ¬ O (W.alloc o) b

section
variable {O : World → Nat → Prop} {H0 : Nat} {Ts : TypeId → Prop} {w w' a b c : World}
theorem CelW.refl (O : World → Nat → Prop) (w : World) : CelW O w w := ⟨Nat.le_refl _, fun _ _ h => ⟨h, fun _ _ h' => h'⟩⟩
theorem CelW.trans {A B C : World} (h : CelW O A B) (k : CelW O B C) : CelW O A C := ⟨Nat.le_trans h.1 k.1, fun x hx hn => ⟨(k.2 x (Nat.lt_of_lt_of_le hx h.1) (h.2 x hx hn).1).1, fun o v hv => (k.2 x (Nat.lt_of_lt_of_le hx h.1) (h.2 x hx hn).1).2 o v ((h.2 x hx hn).2 o v hv)⟩⟩
theorem CelW.at {x o : Nat} {v : Value} (h : CelW O w w') (ha : At O w x o v) : At O w' x o v := by
  have := h.2 x (by simpa using World.block_lt_of_cell? w _ ha.2) ha.1
  exact ⟨this.1, this.2 o v ha.2⟩
theorem CelW.alloc' (F : Fresh O H0 Ts) (w : World) (o : Obj) : CelW O w (w.alloc o) := by
  exact ⟨by simp, fun x hl hx => ⟨F.old w o x hl hx, fun off v hv => ((Upto.refl none' w).alloc o).cell hv (fun x => x)⟩⟩
theorem CelW.alloc (F : Fresh O H0 Ts) (h : CelW O a w) (o : Obj) : CelW O a (w.alloc o) := h.trans (CelW.alloc' F w o)
theorem Fresh.box4 (F : Fresh O H0 Ts) {T : TypeId} (hT : Ts T) {W w' : World} (hH : H0 ≤ W.heap.size) {c0 c1 c2 c3 : Value} (h : CelW O (W.alloc (.cells #[c0, c1, c2, c3] T)) w') :
    At O w' W.heap.size 0 c0 ∧ At O w' W.heap.size 1 c1 ∧ At O w' W.heap.size 2 c2 ∧ At O w' W.heap.size 3 c3 := by
  have hn := F.new W #[c0, c1, c2, c3] T hT hH
  have bb := (Cel.refl none' (W.alloc (.cells #[c0, c1, c2, c3] T))).box4 (fun x => x)
  exact ⟨h.at ⟨hn, bb.1⟩, h.at ⟨hn, bb.2.1⟩, h.at ⟨hn, bb.2.2.1⟩, h.at ⟨hn, bb.2.2.2⟩⟩
mutual
theorem Rep.carryW (h : CelW O w w') : ∀ (d : Dat) (cs : List Value), Rep (O w) w d cs → Rep (O w') w' d cs
  | .int _ _, _, r => by simpa only [Rep] using r
  | .bool _, _, r => by simpa only [Rep] using r
  | .str _, _, r => by simpa only [Rep] using r
  | .st fs, cs, r => by simp only [Rep] at r ⊢; exact RepF.carryW h fs cs r
  | .seq wd xs, cs, r => by
      simp only [Rep] at r ⊢
      obtain ⟨a, cap, h1, h2, h3⟩ := r
      exact ⟨a, cap, h1, h2, RepE.carryW h wd xs a 0 h3⟩
theorem RepF.carryW (h : CelW O w w') : ∀ (ds : List Dat) (cs : List Value), RepF (O w) w ds cs → RepF (O w') w' ds cs
  | [], _, r => by simpa only [RepF] using r
  | d :: ds, cs, r => by
      simp only [RepF] at r ⊢
      obtain ⟨c1, c2, h1, h2, h3⟩ := r
      exact ⟨c1, c2, h1, Rep.carryW h d c1 h2, RepF.carryW h ds c2 h3⟩
theorem RepE.carryW (h : CelW O w w') (wd : Nat) : ∀ (ds : List Dat) (a : Option Addr) (j : Nat), RepE (O w) w wd ds a j → RepE (O w') w' wd ds a j
  | [], _, _, _ => by simp only [RepE]
  | d :: ds, a, j, r => by
      simp only [RepE] at r ⊢
      obtain ⟨⟨b, o, cs, h1, hb, h2, h3, h4, h5⟩, h6⟩ := r
      exact ⟨⟨b, o, cs, h1, Nat.lt_of_lt_of_le hb h.1, (h.2 b hb h2).1, h3, fun i v hv => (h.2 b hb h2).2 _ v (h4 i v hv), Rep.carryW h d cs h5⟩, RepE.carryW h wd ds a _ h6⟩
end
/-- Blocks that no world turns into others. -/
theorem CelW.of (O : Nat → Prop) (h : Cel O w w') : CelW (fun _ => O) w w' := ⟨h.1, fun b _ hn => ⟨hn, fun o v hv => h.2 b o v hn hv⟩⟩
theorem Fresh.of (O : Nat → Prop) (Ts : TypeId → Prop) (h : ∀ b, H0 ≤ b → ¬ O b) : Fresh (fun _ => O) H0 Ts := ⟨fun _ _ _ _ hb => h _ hb, fun _ _ _ _ h => h⟩
theorem RepE.celW {wd : Nat} {ds : List Dat} {x : Option Addr} {j : Nat} (r : RepE (O w) w wd ds x j) (h : CelW O w w') : RepE (O w') w' wd ds x j := RepE.carryW h wd ds x j r
end
end Go.LF
