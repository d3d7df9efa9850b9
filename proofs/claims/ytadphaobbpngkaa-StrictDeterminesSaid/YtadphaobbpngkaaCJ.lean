/- Layer 5's made. -/
import Derived.Test.YtadphaobbpngkaaCF
import Derived.Test.YtadphaobbpngkaaCH
import Derived.Deep.AppendLies
import Derived.Deep.CutRange
import Derived.Deep.RegionLaw
/- A tape that a law makes. -/
namespace Go.Proofs.Ytadphaobbpngkaa
open Go.RowKit Go.LF
/-- A tape that a law makes. -/
theorem tape_new {w : World} {a : Option Addr} {len cap : Nat} {l : List Int} {U : TypeId} (hl : l.length = len) (hlen : len ≤ 17592186044416) (hE : RepE none' w 1 (l.map (Dat.int .i64)) a 0) :
    TapeOk (w.alloc (.cells #[.slice a len cap, .int .i64 0] U)) w.heap.size := by
  subst hl
  refine ⟨l, a, cap, 0, ?_, ?_, ?_, Nat.zero_le _, by omega, ?_⟩
  · rw [World.cell?_alloc_new]; rfl
  · rw [World.cell?_alloc_new]; rfl
  · simp
  · have hf : RepE (fun b => w.heap.size ≤ b) w 1 (l.map (Dat.int .i64)) a 0 := RepE.weaken (fun _ _ h => .inr h) _ _ _ _ (RepE.fresh' 1 _ _ _ hE)
    exact hf.on ((Upto.refl none' w).alloc _)
end Go.Proofs.Ytadphaobbpngkaa
/- What the types and kinds are that a law makes. -/
namespace Go.LF.Tm
/-- A type that a law makes. -/
structure FitsT (t : Tm) (deep vars metas : Nat) : Prop where
  typ : t.isTyp = true
  scope : t.scope ≤ vars
  metas : ∀ b, ∀ x ∈ t.nodes b, (x.k == 6) = true → x.i < metas
  depth : t.depth ≤ deep + 1
  size : t.size + 1 ≤ 2 ^ (deep + 1)
  wt : t.wt + 5 ≤ 5 * 2 ^ (deep + 1)
theorem fitsT_atom {nm : List UInt8} {ts : List Tm} {d v m : Nat} (h : Fits (mk 4 nm 0 ts) d v m) : FitsT (mk 4 nm 0 ts) d v m := by
  have ho := h.obj
  refine ⟨?_, h.scope, h.metas, h.depth, h.size, h.wt⟩
  rw [isObj] at ho
  simp at ho
  rw [isTyp, isAtom]
  simp [ho]
theorem fitsT_pi {a b : Tm} {d v m : Nat} (ha : FitsT a d v m) (hb : FitsT b d (v + 1) m) (nm : List UInt8) (hn : (nm == [] || nm == [95] || isName nm) = true) (hl : nm.length ≤ 4) : FitsT (mk 2 nm 0 [a, b]) (d + 1) v m := by
  have h2 : 2 ^ (d + 1 + 1) = 2 * 2 ^ (d + 1) := by rw [Nat.pow_succ]; omega
  have hp : 1 ≤ 2 ^ (d + 1) := Nat.one_le_two_pow
  refine ⟨?_, ?_, ?_, ?_, ?_, ?_⟩
  · rw [isTyp]
    simp [bound, allTyp, ha.typ, hb.typ]
    right
    simpa [or_assoc] using hn
  · have := ha.scope
    have := hb.scope
    rw [Tm.scope, scopes, scopes, scopes]
    simp [under]
    omega
  · intro b' x hx h6
    rw [nodes_mk] at hx
    rcases List.mem_cons.1 hx with rfl | hx
    · simp at h6
    · simp only [nodesA, List.append_nil, List.mem_append] at hx
      rcases hx with hx | hx
      · exact ha.metas _ x hx h6
      · exact hb.metas _ x hx h6
  · have := ha.depth; have := hb.depth; simp [depths]; omega
  · have := ha.size; have := hb.size; simp [sizes]; omega
  · have := ha.wt; have := hb.wt; simp [wts]; omega
/-- A kind, a type or an object that a law makes. -/
structure FitsA (t : Tm) (sz vars metas : Nat) : Prop where
  any : t.isObj = true ∨ t.isTyp = true ∨ t.isKnd = true
  scope : t.scope ≤ vars
  metas : ∀ b, ∀ x ∈ t.nodes b, (x.k == 6) = true → x.i < metas
  depth : t.depth ≤ 20
  size : t.size ≤ sz
  wt : t.wt ≤ 5 * sz
theorem Fits.any {t : Tm} {d v m : Nat} (h : Fits t d v m) (hd : d ≤ 12) : FitsA t (2 ^ (d + 1) + 2) v m :=
  ⟨.inl h.obj, h.scope, h.metas, by have := h.depth; omega, by have := h.size; omega, by have := h.wt; omega⟩
theorem FitsT.any {t : Tm} {d v m : Nat} (h : FitsT t d v m) (hd : d ≤ 12) : FitsA t (2 ^ (d + 1) + 2) v m :=
  ⟨.inr (.inl h.typ), h.scope, h.metas, by have := h.depth; omega, by have := h.size; omega, by have := h.wt; omega⟩
/-- A kind that a law makes: so many Pis. -/
structure FitsK (t : Tm) (n d : Nat) : Prop where
  knd : t.isKnd = true
  scope : t.scope ≤ 0
  metas : ∀ b, ∀ x ∈ t.nodes b, (x.k == 6) = false
  depth : t.depth ≤ d + 1 + n
  size : t.size ≤ 1 + n * 2 ^ (d + 1)
  wt : t.wt ≤ 1 + n * (5 * 2 ^ (d + 1))
theorem fitsK_sort (d : Nat) : FitsK (mk 1 [] 0 []) 0 d := by
  refine ⟨by decide, by decide, ?_, by simp [depths], by simp [sizes], by simp [wts]⟩
  intro b x hx
  rw [nodes_mk] at hx
  simp [nodesA] at hx
  subst hx; rfl
theorem fitsK_pi {a k : Tm} {n d : Nat} (ha : FitsT a d 0 0) (hk : FitsK k n d) : FitsK (mk 2 [] 0 [a, k]) (n + 1) d := by
  have hp : 1 ≤ 2 ^ (d + 1) := Nat.one_le_two_pow
  refine ⟨?_, ?_, ?_, ?_, ?_, ?_⟩
  · rw [isKnd]; simp [bound, ha.typ, hk.knd]
  · have := ha.scope
    have := hk.scope
    rw [Tm.scope, scopes, scopes, scopes]
    simp [under]
    omega
  · intro b x hx
    rw [nodes_mk] at hx
    rcases List.mem_cons.1 hx with rfl | hx
    · rfl
    · simp only [nodesA, List.append_nil, List.mem_append] at hx
      rcases hx with hx | hx
      · cases h6 : (x.k == 6) with
        | false => rfl
        | true =>
          have h1 := ha.metas _ x hx h6
          have h2 := ((typ_ok a ha.typ _ x hx).2.1 h6).1
          omega
      · exact hk.metas _ x hx
  · have := ha.depth; have := hk.depth; simp [depths]; omega
  · have := ha.size; have := hk.size; simp [sizes, Nat.add_mul]; omega
  · have := ha.wt; have := hk.wt; simp [wts, Nat.add_mul]; omega
theorem FitsK.any {t : Tm} {n d v m : Nat} (h : FitsK t n d) (hn : n ≤ 2) (hd : d ≤ 12) : FitsA t (2 ^ (d + 2) + 2) v m := by
  have h2 : 2 ^ (d + 2) = 2 * 2 ^ (d + 1) := by rw [Nat.pow_succ]; omega
  have h1 := h.size
  have h3 := h.wt
  have h4 : n * 2 ^ (d + 1) ≤ 2 * 2 ^ (d + 1) := Nat.mul_le_mul_right _ hn
  have h5 : n * (5 * 2 ^ (d + 1)) ≤ 2 * (5 * 2 ^ (d + 1)) := Nat.mul_le_mul_right _ hn
  refine ⟨.inr (.inr h.knd), by have := h.scope; omega, fun b x hx h6 => ?_, by have := h.depth; omega, by omega, by omega⟩
  rw [h.metas b x hx] at h6
  cases h6
end Go.LF.Tm
/- The types that a law makes. -/
namespace Go.Proofs.Ytadphaobbpngkaa
open Go.RowKit Go.LF
/-- What a call that makes a type hands back: all of it in new blocks. -/
def MakesT (base : Nat) (deep vars metas : Nat) (T : Nat) (w : World) (e : Ending) (w' : World) : Prop :=
  ∃ (k i : Int) (n : List UInt8) (a : Option Addr) (len cap : Nat) (t : Tm), e = .returned (.agg #[.int .i64 k, .string (B n), .int .i64 i, .slice a len cap]) ∧
    Rep (fun b => b < base) w' t.dat [.int .i64 k, .string (B n), .int .i64 i, .slice a len cap] ∧ Tm.FitsT t deep vars metas ∧ TapeOk w' T ∧ NamesOk T w' ∧ Upto (isT T) w w'
theorem madeT_fin {W w9 : World} {w : World} {T deep vars metas base len : Nat} {kf ix : Int} {nm : List UInt8} {a : Option Addr} {cap : Nat} {ts : List Tm} {U : TypeId} {x0 x1 x2 x3 : Value} {hb : Nat} (hw : w.heap.size = hb) (hlen : len = ts.length) (hcap : len ≤ cap) (hE : RepE (fun b => b < base) W 4 (ts.map Tm.dat) a 0) (hbase : w.heap.size < base)
    (h9 : Box4 w9 hb x0 x1 x2 x3 U ∧ Upto (fun b => b = hb) W w9) (hfit : Tm.FitsT (.mk kf nm ix ts) deep vars metas) (hT : TapeOk W T) (hN : NamesOk T W) (hU : Upto (isT T) w W) (hTl : T < w.heap.size) :
    MakesT w.heap.size deep vars metas T w (.returned (.agg #[.int .i64 kf, .string (B nm), .int .i64 ix, .slice a len cap])) w9 := by
  subst hw
  refine ⟨kf, ix, nm, a, len, cap, .mk kf nm ix ts, rfl, ?_, hfit, hT.far h9.2 (fun b e => by omega), hN.far h9.2 (fun b e => by omega), hU.trans h9.2 (fun b hb e => by omega)⟩
  exact rep_tm.2 ⟨a, cap, by rw [hlen], by omega, RepE.weaken (fun b _ e => by omega) _ _ _ _ (RepE.keep h9.2 (fun b e => by omega) _ _ _ _ hE)⟩
/-- The names of families, from which one is chosen. -/
theorem famNames_at {W : World} {b : Nat} {T' : TypeId} {fr : Nat × Nat} (h : W.heap[b]? = some (.cells #[.string (B [110, 97, 116]), .string (B [118, 101, 99]), .string (B [116, 109])] T' fr)) (c : Nat) (hc : (c : Int) < 3) :
    ∃ nm, W.cell? ⟨b, c, none⟩ = some (.string (B nm)) ∧ isName nm = true ∧ nm.length ≤ 4 := by
  have hcell : ∀ i, W.cell? ⟨b, i, none⟩ = (#[.string (B [110, 97, 116]), .string (B [118, 101, 99]), .string (B [116, 109])] : Array Value)[i]? := fun i => by simp [World.cell?, h]
  match c, hc with
  | 0, _ => exact ⟨[110, 97, 116], hcell 0, by decide, by decide⟩
  | 1, _ => exact ⟨[118, 101, 99], hcell 1, by decide, by decide⟩
  | 2, _ => exact ⟨[116, 109], hcell 2, by decide, by decide⟩
  | n + 3, h => omega
/-- What the drawn region of a Pi needs of a world. -/
abbrev PiS (nb no ncap ab : Nat) (a0 a1 a2 a3 : Value) (w' : World) : Prop :=
  w'.cell? ⟨0, 0, none⟩ = some (.slice (some ⟨nb, no, none⟩) 6 ncap) ∧ (∀ j, j < 6 → w'.cell? ⟨nb, no + j, none⟩ = some (.string (B (nameAt j)))) ∧
  (w'.cell? ⟨ab, 0, none⟩ = some a0 ∧ w'.cell? ⟨ab, 1, none⟩ = some a1 ∧ w'.cell? ⟨ab, 2, none⟩ = some a2 ∧ w'.cell? ⟨ab, 3, none⟩ = some a3)
theorem PiS.keep {nb no ncap ab : Nat} {a0 a1 a2 a3 : Value} {w w' : World} {S : Nat → Prop} (h : PiS nb no ncap ab a0 a1 a2 a3 w) (hU : Upto S w w') (h0 : ¬ S 0) (hn : ¬ S nb) (ha : ¬ S ab) : PiS nb no ncap ab a0 a1 a2 a3 w' :=
  ⟨hU.cell h.1 h0, fun j hj => hU.cell (h.2.1 j hj) hn, hU.cell h.2.2.1 ha, hU.cell h.2.2.2.1 ha, hU.cell h.2.2.2.2.1 ha, hU.cell h.2.2.2.2.2 ha⟩
theorem PiS.new {nb no ncap ab : Nat} {a0 a1 a2 a3 : Value} {w : World} (h : PiS nb no ncap ab a0 a1 a2 a3 w) (o : Obj) : PiS nb no ncap ab a0 a1 a2 a3 (w.alloc o) :=
  h.keep ((Upto.refl none' w).alloc o) (fun x => x) (fun x => x) (fun x => x)
theorem PiS.set {nb no ncap ab r : Nat} {a0 a1 a2 a3 : Value} {w : World} (h : PiS nb no ncap ab a0 a1 a2 a3 w) (h0 : 0 ≠ r) (hn : nb ≠ r) (ha : ab ≠ r) (j : Nat) (v : Value) : PiS nb no ncap ab a0 a1 a2 a3 (w.setCell ⟨r, j, none⟩ v) :=
  h.keep (Upto.set (Upto.refl _ w) j v) h0 hn ha
/-- A node with two arguments, in a block of its own. -/
theorem rep_two {O : Nat → Prop} {W : World} {t u : Tm} {c0 c1 c2 c3 d0 d1 d2 d3 : Value} {b : Nat} {T : TypeId} (h : Rep O W t.dat [c0, c1, c2, c3]) (h' : Rep O W u.dat [d0, d1, d2, d3]) (hb : ¬ O b) (hB : W.heap[b]? = some (.cells #[c0, c1, c2, c3, d0, d1, d2, d3] T (0, 0))) :
    RepE O W 4 ([t, u].map Tm.dat) (some ⟨b, 0, none⟩) 0 := by
  have hlt := (Array.getElem?_eq_some_iff.1 hB).1
  have hcell : ∀ i, W.cell? ⟨b, i, none⟩ = (#[c0, c1, c2, c3, d0, d1, d2, d3] : Array Value)[i]? := fun i => by simp [World.cell?, hB]
  refine repE_of _ _ _ (fun i hi => ?_)
  match i, hi with
  | 0, _ =>
    refine ⟨b, 0, _, rfl, hlt, hb, rfl, fun m v hv => ?_, h⟩
    rw [hcell]
    match m, hv with
    | 0, hv => cases hv; rfl
    | 1, hv => cases hv; rfl
    | 2, hv => cases hv; rfl
    | 3, hv => cases hv; rfl
  | 1, _ =>
    refine ⟨b, 0, _, rfl, hlt, hb, rfl, fun m v hv => ?_, h'⟩
    rw [hcell]
    match m, hv with
    | 0, hv => cases hv; rfl
    | 1, hv => cases hv; rfl
    | 2, hv => cases hv; rfl
    | 3, hv => cases hv; rfl
end Go.Proofs.Ytadphaobbpngkaa
/- Any: a kind, a type or an object. -/
namespace Go.Proofs.Ytadphaobbpngkaa
open Go.RowKit Go.LF
/-- What a call that makes any term hands back: all of it in new blocks. -/
def MakesA (base : Nat) (sz vars metas : Nat) (T : Nat) (w : World) (e : Ending) (w' : World) : Prop :=
  ∃ (k i : Int) (n : List UInt8) (a : Option Addr) (len cap : Nat) (t : Tm), e = .returned (.agg #[.int .i64 k, .string (B n), .int .i64 i, .slice a len cap]) ∧
    Rep (fun b => b < base) w' t.dat [.int .i64 k, .string (B n), .int .i64 i, .slice a len cap] ∧ Tm.FitsA t sz vars metas ∧ TapeOk w' T ∧ NamesOk T w' ∧ Upto (isT T) w w'
theorem madeA_fin {W w9 w : World} {T sz vars metas base len cap : Nat} {k i : Int} {n : List UInt8} {a : Option Addr} {t : Tm} {U : TypeId} {x0 x1 x2 x3 : Value} {hb : Nat} (hw : w.heap.size = hb) (hR : Rep (fun b => b < base) W t.dat [.int .i64 k, .string (B n), .int .i64 i, .slice a len cap]) (hbase : w.heap.size < base)
    (h9 : Box4 w9 hb x0 x1 x2 x3 U ∧ Upto (fun b => b = hb) W w9) (hfit : Tm.FitsA t sz vars metas) (hT : TapeOk W T) (hN : NamesOk T W) (hU : Upto (isT T) w W) (hTl : T < w.heap.size) :
    MakesA w.heap.size sz vars metas T w (.returned (.agg #[.int .i64 k, .string (B n), .int .i64 i, .slice a len cap])) w9 := by
  subst hw
  exact ⟨k, i, n, a, len, cap, t, rfl, Rep.weaken (fun b _ e => by omega) _ _ (Rep.keep h9.2 (fun b e => by omega) _ _ hR), hfit, hT.far h9.2 (fun b e => by omega), hN.far h9.2 (fun b e => by omega), hU.trans h9.2 (fun b hb e => by omega)⟩
end Go.Proofs.Ytadphaobbpngkaa
/- Spoil: words. -/
namespace Go.Proofs.Ytadphaobbpngkaa
open Go.RowKit Go.LF
/-- The cells of a row of terms. -/
theorem row_cells {O : Nat → Prop} {W : World} : ∀ (ts : List Tm) (a : Option Addr) (j : Nat), RepE O W 4 (ts.map Tm.dat) a j →
    ∃ css : List (List Value), css.length = ts.length ∧ (∀ cs ∈ css, cs.length = 4) ∧ (∀ u ∈ css.flatten, u.oneCell' = true) ∧ (∀ i u, css.flatten[i]? = some u → ∃ b o, a = some ⟨b, o, none⟩ ∧ W.cell? ⟨b, o + j + i, none⟩ = some u) ∧
      ∀ i (h : i < ts.length) (h' : i < css.length), Rep O W ts[i].dat css[i]
  | [], _, _, _ => ⟨[], rfl, by simp, by simp, by simp, fun i h => by simp at h⟩
  | t :: ts, a, j, h => by
    simp only [List.map_cons, RepE] at h
    obtain ⟨⟨b, o, cs, rfl, hb, hO, hl, hc, hr⟩, hrest⟩ := h
    obtain ⟨css, h1, h2, h3, h4, h5⟩ := row_cells ts _ (j + 4) hrest
    obtain ⟨k, n, i, l, a', cap', ht, hcs, _⟩ := tm_open hr
    refine ⟨cs :: css, by simp [h1], ?_, ?_, ?_, ?_⟩
    · intro x hx
      rcases List.mem_cons.1 hx with rfl | hx
      · exact hl
      · exact h2 x hx
    · intro u hu
      rw [List.flatten_cons, List.mem_append] at hu
      rcases hu with hu | hu
      · rw [hcs] at hu
        simp only [List.mem_cons, List.not_mem_nil, or_false] at hu
        rcases hu with rfl | rfl | rfl | rfl <;> rfl
      · exact h3 u hu
    · intro m u hu
      rw [List.flatten_cons] at hu
      by_cases hm : m < cs.length
      · rw [List.getElem?_append_left hm] at hu
        exact ⟨b, o, rfl, hc m u hu⟩
      · rw [List.getElem?_append_right (by omega)] at hu
        obtain ⟨b', o', e, hc'⟩ := h4 _ u hu
        cases e
        refine ⟨b, o, rfl, ?_⟩
        rw [show o + j + m = o + (j + 4) + (m - cs.length) by omega]
        exact hc'
    · intro m hm hm'
      cases m with
      | zero => exact hr
      | succ m => exact h5 m (by simpa using hm) (by simpa using hm')
/-- The value v is a row of its own, from base on, with these terms, whose arguments lie below, outside O. -/
def RowS (O : Nat → Prop) (base : Nat) (W : World) (v : Value) (ts : List Tm) (css : List (List Value)) : Prop :=
  css.length = ts.length ∧ (∀ cs ∈ css, cs.length = 4) ∧ W.ownsRow base 32 4 v ts.length css.flatten ∧ ∀ i (h : i < ts.length) (h' : i < css.length), Rep (fun b => O b ∨ base ≤ b) W ts[i].dat css[i]
theorem RowS.keep {O : Nat → Prop} {base : Nat} {W W' : World} {v : Value} {ts : List Tm} {css : List (List Value)} {S : Nat → Prop} (h : RowS O base W v ts css) (hU : Upto S W W') (hS : ∀ b, S b → base ≤ b ∧ v.ownBlock ≠ some b) : RowS O base W' v ts css := by
  obtain ⟨h1, h2, h3, h4⟩ := h
  refine ⟨h1, h2, ⟨h3.1, ?_⟩, fun i h h' => Rep.keep hU (fun b hb => .inr (hS b hb).1) _ _ (h4 i h h')⟩
  rcases h3.2 with h5 | ⟨g, cap, cur, rfl, hb, hg, rest⟩
  · exact .inl h5
  · exact .inr ⟨g, cap, cur, rfl, hb, (hU.block g (Array.getElem?_eq_some_iff.1 hg).1 (fun e => (hS g e).2 rfl)).trans hg, rest⟩
theorem RowS.on {O : Nat → Prop} {base : Nat} {W W' : World} {v : Value} {ts : List Tm} {css : List (List Value)} (h : RowS O base W v ts css) (hU : Upto none' W W') : RowS O base W' v ts css := h.keep hU (fun _ x => x.elim)
/-- Each cell of such a row. -/
theorem RowS.cells {O : Nat → Prop} {base : Nat} {W : World} {v : Value} {ts : List Tm} {css : List (List Value)} (h : RowS O base W v ts css) : ∃ a cap, v = .slice a ts.length cap ∧ ts.length ≤ cap ∧
    ∀ i (hi : i < ts.length) (hi' : i < css.length), ∃ g, a = some ⟨g, 0, none⟩ ∧ v.ownBlock = some g ∧ base ≤ g ∧ g < W.heap.size ∧ (∀ o, W.frozen? ⟨g, o, none⟩ = false) ∧ ∀ m u, css[i][m]? = some u → W.cell? ⟨g, i * 4 + m, none⟩ = some u := by
  obtain ⟨h1, h2, h3, h4⟩ := h
  rcases h3.2 with ⟨rfl, h0⟩ | ⟨g, cap, cur, rfl, hb, hg, hnc, _⟩
  · exact ⟨none, 0, by rw [h0], by omega, fun i hi => by omega⟩
  · refine ⟨_, cap, rfl, hnc, fun i hi hi' => ⟨g, rfl, rfl, hb, (Array.getElem?_eq_some_iff.1 hg).1, fun o => by simp [World.frozen?, hg], fun m u hu => ?_⟩⟩
    have := h3.cells (g := g) rfl _ u ((flat4 css h2).2 i hi' m u hu)
    have hadd : (⟨g, 0, none⟩ : Addr).add (i * 4 + m) = ⟨g, i * 4 + m, none⟩ := by unfold Addr.add; split <;> simp_all
    rwa [hadd] at this
theorem RowS.rep {O : Nat → Prop} {base : Nat} {W : World} {v : Value} {ts : List Tm} {css : List (List Value)} (h : RowS O base W v ts css) : ∃ a cap, v = .slice a ts.length cap ∧ ts.length ≤ cap ∧ RepE (fun b => (O b ∧ b < base) ∨ (base ≤ b ∧ v.ownBlock ≠ some b)) W 4 (ts.map Tm.dat) a 0 := by
  obtain ⟨a, cap, hv, hcap, hc⟩ := h.cells
  refine ⟨a, cap, hv, hcap, repE_of _ _ _ (fun i hi => ?_)⟩
  simp only [List.length_map] at hi
  have hi' : i < css.length := by have := h.1; omega
  obtain ⟨g, rfl, hown, hb, hlt, _, hg⟩ := hc i hi hi'
  refine ⟨g, 0, css[i], rfl, hlt, fun x => x.elim (fun y => by omega) (fun y => y.2 hown), h.2.1 _ (List.getElem_mem hi'), fun m u hu => ?_, ?_⟩
  · rw [show 0 + 0 + i * 4 + m = i * 4 + m by omega]
    exact hg m u hu
  · simp only [List.getElem_map]
    exact Rep.weaken (fun _ _ x => x.elim (fun y => .inl y.1) (fun y => .inr y.1)) _ _ (h.2.2.2 i hi hi')
/-- A row that has just been copied. -/
theorem RowS.new {O : Nat → Prop} {base len : Nat} {w W w7 : World} {ts : List Tm} {css : List (List Value)} {g cap : Nat} (h1 : css.length = ts.length) (h2 : ∀ cs ∈ css, cs.length = 4) (h5 : ∀ i (h : i < ts.length) (h' : i < css.length), Rep (fun b => O b ∨ base ≤ b) w ts[i].dat css[i]) (hl : len = ts.length)
    (hU : Upto none' w W) (hown : w7.ownsRow base 32 4 (.slice (some ⟨g, 0, none⟩) (0 + len) cap) (0 + len) ([] ++ css.flatten)) (hg : W.grownBy w7 none) : RowS O base w7 (.slice (some ⟨g, 0, none⟩) len cap) ts css := by
  subst hl
  refine ⟨h1, h2, by simpa using hown, fun i h h' => ?_⟩
  have hU7 : Upto none' W w7 := ⟨hg.os, hg.tape, hg.output, hg.size, fun k hk _ => hg.block k hk (by simp)⟩
  exact ((h5 i h h').on hU).on hU7
/-- A leaf is appended. -/
theorem RowS.leaf {O : Nat → Prop} {base : Nat} {W w' : World} {v : Value} {ts : List Tm} {css : List (List Value)} {k i : Int} {n : List UInt8} {g cap : Nat} (h : RowS O base W v ts css)
    (hown : w'.ownsRow base 32 4 (.slice (some ⟨g, 0, none⟩) (ts.length + 1) cap) (ts.length + 1) (css.flatten ++ [.int .i64 k, .string (B n), .int .i64 i, .slice none 0 0])) (hg : W.grownBy w' v.ownBlock) :
    RowS O base w' (.slice (some ⟨g, 0, none⟩) (ts.length + 1) cap) (ts ++ [.mk k n i []]) (css ++ [[.int .i64 k, .string (B n), .int .i64 i, .slice none 0 0]]) := by
  obtain ⟨h1, h2, h3, h4⟩ := h
  have hcel : Cel (fun b => O b ∨ base ≤ b) W w' := ⟨hg.size, fun b o u hb hu => hg.cell hu (fun e => hb (.inr (h3.lt b e.symm).1))⟩
  refine ⟨by simp [h1], ?_, by simpa using hown, fun i hi hi' => ?_⟩
  · intro c hc
    rcases List.mem_append.1 hc with hc | hc
    · exact h2 c hc
    · obtain rfl := List.mem_singleton.1 hc
      rfl
  · by_cases hlt : i < ts.length
    · rw [List.getElem_append_left hlt, List.getElem_append_left (by omega)]
      exact Rep.carry hcel _ _ (h4 i hlt (by omega))
    · have e1 : i = ts.length := by simp at hi; omega
      subst e1
      rw [List.getElem_append_right (Nat.le_refl _), List.getElem_append_right (by omega)]
      simp only [h1, Nat.sub_self, List.getElem_cons_zero]
      exact rep_leaf _ _ _
/-- The last term of a row is taken away. -/
theorem repE_init {O : Nat → Prop} {W : World} {ts : List Tm} {a : Option Addr} (n : Nat) (h : RepE O W 4 (ts.map Tm.dat) a 0) : RepE O W 4 ((ts.take n).map Tm.dat) a 0 := by
  refine repE_of _ _ _ (fun i hi => ?_)
  have hi1 : i < (ts.map Tm.dat).length := by simp at hi ⊢; omega
  obtain ⟨b, o, cs, e1, e2, e3, e4, e5, e6⟩ := h.get i hi1
  exact ⟨b, o, cs, e1, e2, e3, e4, e5, by simpa using e6⟩
/-- What Spoil hands back: it avoids what it avoided. -/
def Spoils (O : Nat → Prop) (wt : Nat) (w : World) (e : Ending) (w' : World) : Prop :=
  ∃ (k i : Int) (n : List UInt8) (a : Option Addr) (len cap : Nat) (t : Tm), e = .returned (.agg #[.int .i64 k, .string (B n), .int .i64 i, .slice a len cap]) ∧
    Rep (fun b => O b ∧ b < w.heap.size) w' t.dat [.int .i64 k, .string (B n), .int .i64 i, .slice a len cap] ∧ t.wt ≤ wt + 10 ∧ Upto none' w w'
theorem spoil_fin {O : Nat → Prop} {w W w9 : World} {hb len cap wt : Nat} {k i : Int} {n : List UInt8} {a : Option Addr} {ts : List Tm} {x0 x1 x2 x3 : Value} {U : TypeId} (hlen : len = ts.length) (hcap : len ≤ cap) (hE : RepE (fun b => (O b ∧ b < w.heap.size) ∨ b = hb) W 4 (ts.map Tm.dat) a 0)
    (h9 : Box4 w9 hb x0 x1 x2 x3 U ∧ Upto (fun b => b = hb) W w9) (hw : w.heap.size ≤ hb) (hU : Upto none' w W) (hwt : (Tm.mk k n i ts).wt ≤ wt + 10) :
    Spoils O wt w (.returned (.agg #[.int .i64 k, .string (B n), .int .i64 i, .slice a len cap])) w9 := by
  subst hlen
  exact ⟨k, i, n, a, _, cap, .mk k n i ts, rfl, rep_tm.2 ⟨a, cap, rfl, hcap, RepE.weaken (fun _ _ x => .inl x) _ _ _ _ (RepE.keep h9.2 (fun _ e => .inr e) _ _ _ _ hE)⟩, hwt, hU.trans h9.2 (fun b hb e => by omega)⟩
theorem out_kept {W w7 : World} {b : Nat} {c0 c1 c2 c3 : Value} {T : TypeId} (hg : W.grownBy w7 (Value.slice none 0 0).ownBlock) (h : Box4 W b c0 c1 c2 c3 T) : Box4 w7 b c0 c1 c2 c3 T := (hg.block b h.lt (by simp [Value.ownBlock])).trans h
theorem grown_upto {W w7 : World} (hg : W.grownBy w7 (Value.slice none 0 0).ownBlock) : Upto none' W w7 := ⟨hg.os, hg.tape, hg.output, hg.size, fun k hk _ => hg.block k hk (by simp [Value.ownBlock])⟩
/-- The four cells of a variable. -/
abbrev TcS (b : Nat) (c0 c1 c2 c3 : Value) (w' : World) : Prop := w'.cell? ⟨b, 0, none⟩ = some c0 ∧ w'.cell? ⟨b, 1, none⟩ = some c1 ∧ w'.cell? ⟨b, 2, none⟩ = some c2 ∧ w'.cell? ⟨b, 3, none⟩ = some c3
theorem TcS.keep {b : Nat} {c0 c1 c2 c3 : Value} {w w' : World} {S : Nat → Prop} (h : TcS b c0 c1 c2 c3 w) (hU : Upto S w w') (hS : ¬ S b) : TcS b c0 c1 c2 c3 w' := ⟨hU.cell h.1 hS, hU.cell h.2.1 hS, hU.cell h.2.2.1 hS, hU.cell h.2.2.2 hS⟩
theorem TcS.new {b : Nat} {c0 c1 c2 c3 : Value} {w : World} (h : TcS b c0 c1 c2 c3 w) (o : Obj) : TcS b c0 c1 c2 c3 (w.alloc o) := h.keep ((Upto.refl none' w).alloc o) (fun x => x)
theorem TcS.set {b r : Nat} {c0 c1 c2 c3 : Value} {w : World} (h : TcS b c0 c1 c2 c3 w) (hr : b ≠ r) (j : Nat) (v : Value) : TcS b c0 c1 c2 c3 (w.setCell ⟨r, j, none⟩ v) := h.keep (Upto.set (Upto.refl _ w) j v) hr
theorem wts_set : ∀ (ts : List Tm) (j : Nat) (h : j < ts.length) (t : Tm), t.wt ≤ ts[j].wt + 10 → Tm.wts (ts.set j t) ≤ Tm.wts ts + 10
  | [], j, h, _, _ => by simp at h
  | u :: us, 0, h, t, ht => by simp only [List.getElem_cons_zero] at ht; simp only [List.set_cons_zero, Tm.wts]; omega
  | u :: us, j + 1, h, t, ht => by
    have := wts_set us j (by simpa using h) t (by simpa using ht)
    simp only [List.set_cons_succ, Tm.wts]; omega
theorem wts_take : ∀ (ts : List Tm) (n : Nat), Tm.wts (ts.take n) ≤ Tm.wts ts
  | [], n => by simp
  | _ :: _, 0 => by simp [Tm.wts]
  | u :: us, n + 1 => by have := wts_take us n; simp only [List.take_succ_cons, Tm.wts]; omega
/-- The cells of a term in a row are stored anew. -/
theorem set_cells {W : World} {g o : Nat} {c0 c1 c2 c3 d0 d1 d2 d3 : Value} (h0 : W.cell? ⟨g, o, none⟩ = some c0) (h1 : W.cell? ⟨g, o + 1, none⟩ = some c1) (h2 : W.cell? ⟨g, o + 2, none⟩ = some c2) (h3 : W.cell? ⟨g, o + 3, none⟩ = some c3) {W' : World}
    (hW : W' = (((W.setCell ⟨g, o, none⟩ d0).setCell ⟨g, o + 1, none⟩ d1).setCell ⟨g, o + 2, none⟩ d2).setCell ⟨g, o + 3, none⟩ d3) :
    (W'.cell? ⟨g, o, none⟩ = some d0 ∧ W'.cell? ⟨g, o + 1, none⟩ = some d1 ∧ W'.cell? ⟨g, o + 2, none⟩ = some d2 ∧ W'.cell? ⟨g, o + 3, none⟩ = some d3) ∧
    (∀ x, x ≠ o → x ≠ o + 1 → x ≠ o + 2 → x ≠ o + 3 → W'.cell? ⟨g, x, none⟩ = W.cell? ⟨g, x, none⟩) ∧ Upto (fun b => b = g) W W' := by
  have ne : ∀ x y : Nat, x ≠ y → (⟨g, x, none⟩ : Addr) ≠ ⟨g, y, none⟩ := fun x y h e => h (by cases e; rfl)
  have other : ∀ (V : World) (x y : Nat) (v : Value), x ≠ y → (V.setCell ⟨g, x, none⟩ v).cell? ⟨g, y, none⟩ = V.cell? ⟨g, y, none⟩ := fun V x y v h => World.cell?_setCell_other _ _ _ _ (ne x y h)
  subst hW
  refine ⟨⟨?_, ?_, ?_, ?_⟩, ?_, ?_⟩
  · rw [other _ _ _ _ (by omega), other _ _ _ _ (by omega), other _ _ _ _ (by omega)]
    exact World.cell?_setCell_same _ _ _ h0
  · rw [other _ _ _ _ (by omega), other _ _ _ _ (by omega)]
    exact World.cell?_setCell_same _ _ _ (by rw [other _ _ _ _ (by omega)]; exact h1)
  · rw [other _ _ _ _ (by omega)]
    exact World.cell?_setCell_same _ _ _ (by rw [other _ _ _ _ (by omega), other _ _ _ _ (by omega)]; exact h2)
  · exact World.cell?_setCell_same _ _ _ (by rw [other _ _ _ _ (by omega), other _ _ _ _ (by omega), other _ _ _ _ (by omega)]; exact h3)
  · intro x h0 h1 h2 h3
    rw [other _ _ _ _ (Ne.symm h3), other _ _ _ _ (Ne.symm h2), other _ _ _ _ (Ne.symm h1), other _ _ _ _ (Ne.symm h0)]
  · exact Upto.set (Upto.set (Upto.set (Upto.set (Upto.refl _ W) _ _) _ _) _ _) _ _
theorem row_set {Oe Of : Nat → Prop} {W W' : World} {g j : Nat} {ts : List Tm} {css : List (List Value)} {t5 : Tm} {d0 d1 d2 d3 : Value} (hl : css.length = ts.length) (hj : j < ts.length) (hlt : g < W.heap.size)
    (h : ∀ i (hi : i < ts.length) (hi' : i < css.length), (∀ m u, css[i][m]? = some u → W.cell? ⟨g, i * 4 + m, none⟩ = some u) ∧ css[i].length = 4 ∧ Rep Oe W ts[i].dat css[i])
    (hR5 : Rep Oe W t5.dat [d0, d1, d2, d3]) (hOg : Oe g) (hf : ∀ b, b < W'.heap.size → Of b → Oe b) (hfg : ¬ Of g)
    (hW : W' = (((W.setCell ⟨g, j * 4, none⟩ d0).setCell ⟨g, j * 4 + 1, none⟩ d1).setCell ⟨g, j * 4 + 2, none⟩ d2).setCell ⟨g, j * 4 + 3, none⟩ d3) : RepE Of W' 4 ((ts.set j t5).map Tm.dat) (some ⟨g, 0, none⟩) 0 ∧ Upto (fun b => b = g) W W' := by
  have hj4 := h j hj (by omega)
  have hcj : ∀ m, m < 4 → ∃ u, W.cell? ⟨g, j * 4 + m, none⟩ = some u := fun m hm => ⟨_, hj4.1 m _ (List.getElem?_eq_getElem (by rw [hj4.2.1]; exact hm))⟩
  obtain ⟨_, u0⟩ := hcj 0 (by omega)
  obtain ⟨_, u1⟩ := hcj 1 (by omega)
  obtain ⟨_, u2⟩ := hcj 2 (by omega)
  obtain ⟨_, u3⟩ := hcj 3 (by omega)
  obtain ⟨⟨v0, v1, v2, v3⟩, hoth, hU⟩ := set_cells (d0 := d0) (d1 := d1) (d2 := d2) (d3 := d3) u0 u1 u2 u3 hW
  refine ⟨repE_of _ _ _ (fun i hi => ?_), hU⟩
  simp only [List.length_map, List.length_set] at hi
  have hltW : g < W'.heap.size := Nat.lt_of_lt_of_le hlt hU.size
  by_cases hij : i = j
  · subst hij
    refine ⟨g, 0, [d0, d1, d2, d3], rfl, hltW, hfg, rfl, fun m u hu => ?_, ?_⟩
    · rw [show 0 + 0 + i * 4 + m = i * 4 + m by omega]
      match m, hu with
      | 0, hu => cases hu; exact v0
      | 1, hu => cases hu; exact v1
      | 2, hu => cases hu; exact v2
      | 3, hu => cases hu; exact v3
    · simp only [List.getElem_map, List.getElem_set_self]
      exact Rep.weaken hf _ _ (Rep.keep hU (fun b e => by rw [e]; exact hOg) _ _ hR5)
  · have hi2 := h i hi (by omega)
    refine ⟨g, 0, css[i]'(by omega), rfl, hltW, hfg, hi2.2.1, fun m u hu => ?_, ?_⟩
    · rw [show 0 + 0 + i * 4 + m = i * 4 + m by omega]
      have hm : m < 4 := by rw [← hi2.2.1]; exact (List.getElem?_eq_some_iff.1 hu).1
      rw [hoth _ (by omega) (by omega) (by omega) (by omega)]
      exact hi2.1 m u hu
    · simp only [List.getElem_map, List.getElem_set_ne (Ne.symm hij)]
      exact Rep.weaken hf _ _ (Rep.keep hU (fun b e => by rw [e]; exact hOg) _ _ hi2.2.2)
theorem grown_own {w w' : World} {v : Value} (h : w.grownBy w' v.ownBlock) : Upto (fun b => v.ownBlock = some b) w w' := ⟨h.os, h.tape, h.output, h.size, fun k hk hn => h.block k hk (fun e => hn e.symm)⟩
theorem ixs_at {W : World} {b : Nat} {T' : TypeId} {fr : Nat × Nat} (h : W.heap[b]? = some (.cells #[.int .i64 (-1), .int .i64 1, .int .i64 1048576, .int .i64 1048577, .int .i64 2048, .int .i64 0] T' fr)) (c : Nat) (hc : (c : Int) < 6) :
    ∃ i : Int, W.cell? ⟨b, c, none⟩ = some (.int .i64 i) := by
  have hcell : ∀ i, W.cell? ⟨b, i, none⟩ = (#[.int .i64 (-1), .int .i64 1, .int .i64 1048576, .int .i64 1048577, .int .i64 2048, .int .i64 0] : Array Value)[i]? := fun i => by simp [World.cell?, h]
  match c, hc with
  | 0, _ => exact ⟨_, hcell 0⟩
  | 1, _ => exact ⟨_, hcell 1⟩
  | 2, _ => exact ⟨_, hcell 2⟩
  | 3, _ => exact ⟨_, hcell 3⟩
  | 4, _ => exact ⟨_, hcell 4⟩
  | 5, _ => exact ⟨_, hcell 5⟩
  | n + 6, h => omega
theorem badNames_at {W : World} {b : Nat} {T' : TypeId} {fr : Nat × Nat} (h : W.heap[b]? = some (.cells #[.string (B []), .string (B [95]), .string (B [122]), .string (B [116, 121, 112, 101]), .string (B [64, 99]), .string (B [97, 32, 98]), .string (B [45, 62])] T' fr)) (c : Nat) (hc : (c : Int) < 7) :
    ∃ nm : List UInt8, W.cell? ⟨b, c, none⟩ = some (.string (B nm)) ∧ nm.length ≤ 6 := by
  have hcell : ∀ i, W.cell? ⟨b, i, none⟩ = (#[.string (B []), .string (B [95]), .string (B [122]), .string (B [116, 121, 112, 101]), .string (B [64, 99]), .string (B [97, 32, 98]), .string (B [45, 62])] : Array Value)[i]? := fun i => by simp [World.cell?, h]
  match c, hc with
  | 0, _ => exact ⟨_, hcell 0, by decide⟩
  | 1, _ => exact ⟨_, hcell 1, by decide⟩
  | 2, _ => exact ⟨_, hcell 2, by decide⟩
  | 3, _ => exact ⟨_, hcell 3, by decide⟩
  | 4, _ => exact ⟨_, hcell 4, by decide⟩
  | 5, _ => exact ⟨_, hcell 5, by decide⟩
  | 6, _ => exact ⟨_, hcell 6, by decide⟩
  | n + 7, h => omega
theorem newNames_at {W : World} {b : Nat} {T' : TypeId} {fr : Nat × Nat} (h : W.heap[b]? = some (.cells #[.string (B [122]), .string (B [110, 97, 116]), .string (B [110, 111, 98, 111, 100, 121])] T' fr)) (c : Nat) (hc : (c : Int) < 3) :
    ∃ nm : List UInt8, W.cell? ⟨b, c, none⟩ = some (.string (B nm)) ∧ nm.length ≤ 6 := by
  have hcell : ∀ i, W.cell? ⟨b, i, none⟩ = (#[.string (B [122]), .string (B [110, 97, 116]), .string (B [110, 111, 98, 111, 100, 121])] : Array Value)[i]? := fun i => by simp [World.cell?, h]
  match c, hc with
  | 0, _ => exact ⟨_, hcell 0, by decide⟩
  | 1, _ => exact ⟨_, hcell 1, by decide⟩
  | 2, _ => exact ⟨_, hcell 2, by decide⟩
  | n + 3, h => omega
end Go.Proofs.Ytadphaobbpngkaa
/- Spoil. -/
namespace Go.Proofs.Ytadphaobbpngkaa
open Go.RowKit Go.LF
end Go.Proofs.Ytadphaobbpngkaa
namespace Go.Proofs.Ytadphaobbpngkaa
open Go.RowKit Go.LF
/-- Some term of bounded size. -/
def Spoilt (w : World) (e : Ending) (w' : World) : Prop :=
  ∃ (k i : Int) (n : List UInt8) (a : Option Addr) (len cap : Nat) (t : Tm), e = .returned (.agg #[.int .i64 k, .string (B n), .int .i64 i, .slice a len cap]) ∧
    Rep none' w' t.dat [.int .i64 k, .string (B n), .int .i64 i, .slice a len cap] ∧ t.wt ≤ 10000 ∧ Upto none' w w'
/-- What the walk needs of a world: the variable t. -/
abbrev TvS (W : World) (b : Nat) (k1 : Int) (n1 : List UInt8) (i1 : Int) (a1 : Option Addr) (len1 cap1 : Nat) (w' : World) : Prop :=
  (w'.cell? ⟨b, 0, none⟩ = some (.int .i64 k1) ∧ w'.cell? ⟨b, 1, none⟩ = some (.string (B n1)) ∧ w'.cell? ⟨b, 2, none⟩ = some (.int .i64 i1) ∧ w'.cell? ⟨b, 3, none⟩ = some (.slice a1 len1 cap1)) ∧ Upto none' W w'
theorem TvS.on {W w' w1 : World} {b : Nat} {k1 : Int} {n1 : List UInt8} {i1 : Int} {a1 : Option Addr} {len1 cap1 : Nat} (h : TvS W b k1 n1 i1 a1 len1 cap1 w') (hU : Upto none' w' w1) : TvS W b k1 n1 i1 a1 len1 cap1 w1 := ⟨box_on hU h.1, h.2.and hU⟩
theorem TvS.up {W w' : World} {b : Nat} {k1 : Int} {n1 : List UInt8} {i1 : Int} {a1 : Option Addr} {len1 cap1 : Nat} (h : TvS W b k1 n1 i1 a1 len1 cap1 w') : Upto none' W w' := h.2
end Go.Proofs.Ytadphaobbpngkaa
