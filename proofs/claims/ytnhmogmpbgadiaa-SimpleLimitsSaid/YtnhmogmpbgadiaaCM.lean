/- The reference's Long. -/
import Derived.Test.YtnhmogmpbgadiaaCA
import Derived.Test.YtnhmogmpbgadiaaCF
import Derived.Test.YtnhmogmpbgadiaaCH
import Derived.Test.YtnhmogmpbgadiaaCK
import Derived.Test.YtnhmogmpbgadiaaCL
import Derived.Deep.CutBlock
import Derived.Deep.CutRange
namespace Go.LF.Tm
theorem mv_var (m : Nat) (i : Int) (h0 : 0 ≤ i) : mv (shF m 0) 0 (mk 5 [] i []) = mk 5 [] (i + m) [] := by
  have e : mvi (shF m 0) 0 5 i = i + m := by
    unfold mvi
    rw [if_pos ⟨rfl, h0⟩]
    unfold shF
    simp only
    rw [if_neg (by omega)]
    omega
  rw [mv_mk, mvA, e]
end Go.LF.Tm
namespace Go.Proofs.Ytnhmogmpbgadiaa
open Go.RowKit Go.LF
/-- What a cell holds. -/
def cellAt (b j : Nat) (w : World) : Value := (w.cell? ⟨b, j, none⟩).getD undef
theorem cellAt_eq {b j : Nat} {w : World} {v : Value} (h : w.cell? ⟨b, j, none⟩ = some v) : cellAt b j w = v := by unfold cellAt; rw [h]; rfl
theorem cellAt_some {b j : Nat} {w : World} {v : Value} (h : w.cell? ⟨b, j, none⟩ = some v) : w.cell? ⟨b, j, none⟩ = some (cellAt b j w) := by rw [cellAt_eq h]; exact h
/-- A box is there, whatever it holds. -/
abbrev BoxAt (b : Nat) (w : World) : Prop := w.cell? ⟨b, 0, none⟩ = some (cellAt b 0 w) ∧ w.cell? ⟨b, 1, none⟩ = some (cellAt b 1 w) ∧ w.cell? ⟨b, 2, none⟩ = some (cellAt b 2 w) ∧ w.cell? ⟨b, 3, none⟩ = some (cellAt b 3 w)
theorem Box4.boxAt {W : World} {g : Nat} {c0 c1 c2 c3 : Value} {T : TypeId} (h : Box4 W g c0 c1 c2 c3 T) : BoxAt g W := ⟨cellAt_some h.cells.1, cellAt_some h.cells.2.1, cellAt_some h.cells.2.2.1, cellAt_some h.cells.2.2.2⟩
theorem Box4.at {W : World} {g : Nat} {c0 c1 c2 c3 : Value} {T : TypeId} (h : Box4 W g c0 c1 c2 c3 T) : cellAt g 0 W = c0 ∧ cellAt g 1 W = c1 ∧ cellAt g 2 W = c2 ∧ cellAt g 3 W = c3 := ⟨cellAt_eq h.cells.1, cellAt_eq h.cells.2.1, cellAt_eq h.cells.2.2.1, cellAt_eq h.cells.2.2.2⟩
/-- A row of one term, in a block of its own. -/
theorem repE_one {O : Nat → Prop} {W : World} {t : Tm} {c0 c1 c2 c3 : Value} {b : Nat} {T : TypeId} (h : Rep O W t.dat [c0, c1, c2, c3]) (hb : ¬ O b) (hB : Box4 W b c0 c1 c2 c3 T) : RepE O W 4 ([t].map Tm.dat) (some ⟨b, 0, none⟩) 0 := by
  obtain ⟨a, cap, e, _, hE⟩ := rep_tm.1 (rep_one h hb hB 0 [] 0)
  simp only [List.cons.injEq, Value.slice.injEq, and_true, true_and] at e
  obtain ⟨rfl, _⟩ := e
  exact hE
theorem relayO {O : Nat → Prop} {W : World} {b : Nat} {t : Tm} {t0 t1 t2 t3 : Value} {T : TypeId} (hB : Box4 W b t0 t1 t2 t3 T) (hR : Rep O W t.dat [t0, t1, t2, t3]) (hb : O b) (hO : ∀ x, O x → x < W.heap.size) (k : Int) (n : List UInt8) (i : Int) {W' : World}
    (hW : W' = ((((W.setCell ⟨b, 0, none⟩ (.int .i64 k)).setCell ⟨b, 1, none⟩ (.string (B n))).setCell ⟨b, 2, none⟩ (.int .i64 i)).setCell ⟨b, 3, none⟩ (.slice (some ⟨W.heap.size, 0, none⟩) 1 1)).alloc (.cells #[t0, t1, t2, t3] T)) :
    Box4 W' b (.int .i64 k) (.string (B n)) (.int .i64 i) (.slice (some ⟨W.heap.size, 0, none⟩) 1 1) T ∧ Rep O W' (Tm.mk k n i [t]).dat [.int .i64 k, .string (B n), .int .i64 i, .slice (some ⟨W.heap.size, 0, none⟩) 1 1] ∧ Upto (fun x => x = b) W W' := by
  subst hW
  have hs := hB.set (d0 := .int .i64 k) (d1 := .string (B n)) (d2 := .int .i64 i) (d3 := .slice (some ⟨W.heap.size, 0, none⟩) 1 1)
  have hU := hs.2.alloc (.cells #[t0, t1, t2, t3] T)
  exact ⟨hs.1.kept ((Upto.refl none' _).alloc _), rep_one (Rep.keep hU (fun x e => by subst e; exact hb) _ _ hR) (fun e => by have := hO _ e; omega) (Box4.at_new (by simp)) k n i, hU⟩
end Go.Proofs.Ytnhmogmpbgadiaa
namespace Go.LF.Tm
/-- The eta-long form of a head, and the error of its making. -/
def etaX (h : Tm) (s : Sm) : Tm := xp (h.mv (shF s.args.length 0) 0) s
def etaE (h : Tm) (s : Sm) : Int :=
  if h.wf ≠ 0 then h.wf else if s.wf ≠ 0 then s.wf else if (h.kind != 4 && (h.kind != 5 && h.kind != 6)) = true then 32
  else if 4096 < (h.size : Int) - 1 + s.lsz then 2 else if (etaX h s).small = false then 2 else if 1048576 < (etaX h s).great then 5 else 0
def etaT (h : Tm) (s : Sm) : Tm := if etaE h s = 0 then etaX h s else mk 0 [] 0 []
end Go.LF.Tm
namespace Go.Proofs.Ytnhmogmpbgadiaa
open Go.RowKit Go.LF
end Go.Proofs.Ytnhmogmpbgadiaa
namespace Go.LF.Tm
theorem eta_small (v : Int) (h0 : 0 ≤ v) (h1 : v ≤ 1000) (s : Sm) (hs : s.FitsS 1) : (etaT (mk 5 [] v []) s).isObj = true ∧ (etaT (mk 5 [] v []) s).size ≤ 5 ∧ (etaT (mk 5 [] v []) s).wt ≤ 25 := by
  have hz : s.size ≤ 3 := by have := hs.size; simp at this; omega
  have hal : s.args.length ≤ 3 := by cases s with | mk f l => rw [Sm.size_mk] at hz; have := Sm.length_le_sizes l; simp only [Sm.args_mk]; omega
  have hx : etaX (mk 5 [] v []) s = xp (mk 5 [] (v + s.args.length) []) s := by rw [etaX, mv_var _ _ h0]
  have hxo : (etaX (mk 5 [] v []) s).isObj = true := by
    rw [hx]
    refine obj_xp s _ ?_ (by simp) (by omega)
    rw [isObj]
    simp [allObj]
    omega
  have hxs : (etaX (mk 5 [] v []) s).size ≤ 5 := by have := size_xp s (mk 5 [] (v + s.args.length) []); rw [hx]; simp [sizes] at this; omega
  have hxw : (etaX (mk 5 [] v []) s).wt ≤ 25 := by have := wt_xp s (mk 5 [] (v + s.args.length) []); rw [hx]; simp [wts] at this; omega
  have hE : etaE (mk 5 [] v []) s = 0 := by
    have e1 : (mk 5 [] v []).wf = 0 := by
      have ho : (mk 5 [] v []).isObj = true := by rw [isObj]; simp [allObj]; omega
      unfold wf small
      rw [ho]
      simp [sizes, depths]
    have e2 := hs.wf0 (by omega)
    have e3 := (Sm.lsz_bounds s).1
    have e4 : (etaX (mk 5 [] v []) s).small = true := by unfold small; have := depth_le_size (etaX (mk 5 [] v []) s); simp; omega
    have e5 : (etaX (mk 5 [] v []) s).great ≤ 1048576 := by
      rw [great_le _ _ (by omega) 0]
      intro x hx hk
      exact ((obj_ok _ hxo 0 x hx).1 (by simp [hk])).2
    unfold etaE
    rw [if_neg (by simp [e1]), if_neg (by simp [e2]), if_neg (by simp), if_neg (by simp [sizes]; omega), if_neg (by simp [e4]), if_neg (by omega)]
  rw [etaT, if_pos hE]
  exact ⟨hxo, hxs, hxw⟩
end Go.LF.Tm
namespace Go.Proofs.Ytnhmogmpbgadiaa
open Go.RowKit Go.LF
/-- What a call of occurrence hands back: all of it in new blocks. -/
def MakesO (base deep : Nat) (T : Nat) (w : World) (e : Ending) (w' : World) : Prop :=
  ∃ (k i : Int) (n : List UInt8) (a : Option Addr) (len cap : Nat) (t : Tm), e = .returned (.agg #[.int .i64 k, .string (B n), .int .i64 i, .slice a len cap]) ∧
    Rep (fun b => b < base) w' t.dat [.int .i64 k, .string (B n), .int .i64 i, .slice a len cap] ∧ t.FitsO deep ∧ TapeOk w' T ∧ NamesOk T w' ∧ Upto (isT T) w w'
theorem Terms.past {base : Nat} {W W' : World} {v : Value} {ts : List Tm} {css : List (List Value)} {S : Nat → Prop} (h : Terms base W v ts css) (hU : Upto S W W') (hS : ∀ b, S b → b < base ∨ W.heap.size ≤ b) : Terms base W' v ts css := by
  obtain ⟨h1, h2, h3, h4⟩ := h
  refine ⟨h1, h2, ⟨h3.1, ?_⟩, fun i h h' => ?_⟩
  · rcases h3.2 with h5 | ⟨g, cap, cur, rfl, hb, hg, rest⟩
    · exact .inl h5
    · have hlt := (Array.getElem?_eq_some_iff.1 hg).1
      exact .inr ⟨g, cap, cur, rfl, hb, (hU.block g hlt (fun e => by have := hS g e; omega)).trans hg, rest⟩
  · exact Rep.weaken (fun b _ e => .inl e) _ _ (Rep.keep hU (fun b e => (hS b e).elim (fun x => .inl (.inl x)) .inr) _ _ (Rep.freshO (h4 i h h')))
theorem wrapO {O : Nat → Prop} {W : World} {b : Nat} {t : Tm} {x0 x1 x2 x3 t0 t1 t2 t3 : Value} {T : TypeId} (hB : Box4 W b x0 x1 x2 x3 T) (hR : Rep O W t.dat [t0, t1, t2, t3]) (hb : O b) (hO : ∀ x, O x → x < W.heap.size) (k : Int) (n : List UInt8) (i : Int) {W' : World}
    (hW : W' = ((((W.setCell ⟨b, 0, none⟩ (.int .i64 k)).setCell ⟨b, 1, none⟩ (.string (B n))).setCell ⟨b, 2, none⟩ (.int .i64 i)).setCell ⟨b, 3, none⟩ (.slice (some ⟨W.heap.size, 0, none⟩) 1 1)).alloc (.cells #[t0, t1, t2, t3] T)) :
    Box4 W' b (.int .i64 k) (.string (B n)) (.int .i64 i) (.slice (some ⟨W.heap.size, 0, none⟩) 1 1) T ∧ Rep O W' (Tm.mk k n i [t]).dat [.int .i64 k, .string (B n), .int .i64 i, .slice (some ⟨W.heap.size, 0, none⟩) 1 1] ∧ Upto (fun x => x = b) W W' := by
  subst hW
  have hs := hB.set (d0 := .int .i64 k) (d1 := .string (B n)) (d2 := .int .i64 i) (d3 := .slice (some ⟨W.heap.size, 0, none⟩) 1 1)
  have hU := hs.2.alloc (.cells #[t0, t1, t2, t3] T)
  exact ⟨hs.1.kept ((Upto.refl none' _).alloc _), rep_one (Rep.keep hU (fun x e => by subst e; exact hb) _ _ hR) (fun e => by have := hO _ e; omega) (Box4.at_new (by simp)) k n i, hU⟩
theorem wrap2 {O : Nat → Prop} {W : World} {b : Nat} {t u : Tm} {x0 x1 x2 x3 t0 t1 t2 t3 u0 u1 u2 u3 : Value} {T : TypeId} (hB : Box4 W b x0 x1 x2 x3 T) (hR : Rep O W t.dat [t0, t1, t2, t3]) (hR' : Rep O W u.dat [u0, u1, u2, u3]) (hb : O b) (hO : ∀ x, O x → x < W.heap.size) (k : Int) (n : List UInt8) (i : Int) {W' : World}
    (hW : W' = ((((W.setCell ⟨b, 0, none⟩ (.int .i64 k)).setCell ⟨b, 1, none⟩ (.string (B n))).setCell ⟨b, 2, none⟩ (.int .i64 i)).setCell ⟨b, 3, none⟩ (.slice (some ⟨W.heap.size, 0, none⟩) 2 2)).alloc (.cells #[t0, t1, t2, t3, u0, u1, u2, u3] T)) :
    Box4 W' b (.int .i64 k) (.string (B n)) (.int .i64 i) (.slice (some ⟨W.heap.size, 0, none⟩) 2 2) T ∧ Rep O W' (Tm.mk k n i [t, u]).dat [.int .i64 k, .string (B n), .int .i64 i, .slice (some ⟨W.heap.size, 0, none⟩) 2 2] ∧ Upto (fun x => x = b) W W' := by
  subst hW
  have hs := hB.set (d0 := .int .i64 k) (d1 := .string (B n)) (d2 := .int .i64 i) (d3 := .slice (some ⟨W.heap.size, 0, none⟩) 2 2)
  have hU := hs.2.alloc (.cells #[t0, t1, t2, t3, u0, u1, u2, u3] T)
  have hnew := heap_alloc_new ((((W.setCell ⟨b, 0, none⟩ (.int .i64 k)).setCell ⟨b, 1, none⟩ (.string (B n))).setCell ⟨b, 2, none⟩ (.int .i64 i)).setCell ⟨b, 3, none⟩ (.slice (some ⟨W.heap.size, 0, none⟩) 2 2)) (.cells #[t0, t1, t2, t3, u0, u1, u2, u3] T)
  simp only [World.size_setCell] at hnew
  exact ⟨hs.1.kept ((Upto.refl none' _).alloc _), rep_tm.2 ⟨_, 2, rfl, Nat.le_refl _, rep_two (Rep.keep hU (fun x e => by subst e; exact hb) _ _ hR) (Rep.keep hU (fun x e => by subst e; exact hb) _ _ hR') (fun e => by have := hO _ e; omega) hnew⟩, hU⟩
theorem madeO_fin {W w9 w : World} {T deep base len cap : Nat} {k i : Int} {n : List UInt8} {a : Option Addr} {t : Tm} {U : TypeId} {x0 x1 x2 x3 : Value} {hb : Nat} (hw : w.heap.size = hb) (hR : Rep (fun b => b < base) W t.dat [.int .i64 k, .string (B n), .int .i64 i, .slice a len cap]) (hbase : w.heap.size < base)
    (h9 : Box4 w9 hb x0 x1 x2 x3 U ∧ Upto (fun b => b = hb) W w9) (hfit : t.FitsO deep) (hT : TapeOk W T) (hN : NamesOk T W) (hU : Upto (isT T) w W) (hTl : T < w.heap.size) :
    MakesO w.heap.size deep T w (.returned (.agg #[.int .i64 k, .string (B n), .int .i64 i, .slice a len cap])) w9 := by
  subst hw
  exact ⟨k, i, n, a, len, cap, t, rfl, Rep.weaken (fun b _ e => by omega) _ _ (Rep.keep h9.2 (fun b e => by omega) _ _ hR), hfit, hT.far h9.2 (fun b e => by omega), hN.far h9.2 (fun b e => by omega), hU.trans h9.2 (fun b hb e => by omega)⟩
end Go.Proofs.Ytnhmogmpbgadiaa
