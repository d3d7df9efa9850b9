/- The reference's Long. -/
import Derived.Test.YtadphaobbpngkaaCA
import Derived.Test.YtadphaobbpngkaaCF
import Derived.Test.YtadphaobbpngkaaCH
import Derived.Test.YtadphaobbpngkaaCK
import Derived.Test.YtadphaobbpngkaaCL
namespace Go.LF.Tm
theorem mv_var (m : Nat) (i : Int) (h0 : 0 ≤ i) : mv (shF m 0) 0 (mk 5 [] i []) = mk 5 [] (i + m) [] := by
  have e : mvi (shF m 0) 0 5 i = i + m := by
    unfold mvi
    rw [if_pos ⟨rfl, h0⟩]
    unfold shF
    simp only
    rw [if_neg (by omega)]
    omega
  rw [mv_mk, mvA, e]
end Go.LF.Tm
namespace Go.Proofs.Ytadphaobbpngkaa
open Go.RowKit Go.LF
/-- What a cell holds. -/
def cellAt (b j : Nat) (w : World) : Value := (w.cell? ⟨b, j, none⟩).getD undef
theorem cellAt_eq {b j : Nat} {w : World} {v : Value} (h : w.cell? ⟨b, j, none⟩ = some v) : cellAt b j w = v := by unfold cellAt; rw [h]; rfl
theorem cellAt_some {b j : Nat} {w : World} {v : Value} (h : w.cell? ⟨b, j, none⟩ = some v) : w.cell? ⟨b, j, none⟩ = some (cellAt b j w) := by rw [cellAt_eq h]; exact h
/-- A box is there, whatever it holds. -/
abbrev BoxAt (b : Nat) (w : World) : Prop := w.cell? ⟨b, 0, none⟩ = some (cellAt b 0 w) ∧ w.cell? ⟨b, 1, none⟩ = some (cellAt b 1 w) ∧ w.cell? ⟨b, 2, none⟩ = some (cellAt b 2 w) ∧ w.cell? ⟨b, 3, none⟩ = some (cellAt b 3 w)
theorem Box4.boxAt {W : World} {g : Nat} {c0 c1 c2 c3 : Value} {T : TypeId} (h : Box4 W g c0 c1 c2 c3 T) : BoxAt g W := ⟨cellAt_some h.cells.1, cellAt_some h.cells.2.1, cellAt_some h.cells.2.2.1, cellAt_some h.cells.2.2.2⟩
theorem Box4.at {W : World} {g : Nat} {c0 c1 c2 c3 : Value} {T : TypeId} (h : Box4 W g c0 c1 c2 c3 T) : cellAt g 0 W = c0 ∧ cellAt g 1 W = c1 ∧ cellAt g 2 W = c2 ∧ cellAt g 3 W = c3 := ⟨cellAt_eq h.cells.1, cellAt_eq h.cells.2.1, cellAt_eq h.cells.2.2.1, cellAt_eq h.cells.2.2.2⟩
/-- A row of one term, in a block of its own. -/
theorem repE_one {O : Nat → Prop} {W : World} {t : Tm} {c0 c1 c2 c3 : Value} {b : Nat} {T : TypeId} (h : Rep O W t.dat [c0, c1, c2, c3]) (hb : ¬ O b) (hB : Box4 W b c0 c1 c2 c3 T) : RepE O W 4 ([t].map Tm.dat) (some ⟨b, 0, none⟩) 0 := by
  obtain ⟨a, cap, e, _, hE⟩ := rep_tm.1 (rep_one h hb hB 0 [] 0)
  simp only [List.cons.injEq, Value.slice.injEq, and_true, true_and] at e
  obtain ⟨rfl, _⟩ := e
  exact hE
theorem relayO {O : Nat → Prop} {W : World} {b : Nat} {t : Tm} {t0 t1 t2 t3 : Value} {T : TypeId} (hB : Box4 W b t0 t1 t2 t3 T) (hR : Rep O W t.dat [t0, t1, t2, t3]) (hb : O b) (hO : ∀ x, O x → x < W.heap.size) (k : Int) (n : List UInt8) (i : Int) {W' : World}
    (hW : W' = ((((W.setCell ⟨b, 0, none⟩ (.int .i64 k)).setCell ⟨b, 1, none⟩ (.string (B n))).setCell ⟨b, 2, none⟩ (.int .i64 i)).setCell ⟨b, 3, none⟩ (.slice (some ⟨W.heap.size, 0, none⟩) 1 1)).alloc (.cells #[t0, t1, t2, t3] T)) :
    Box4 W' b (.int .i64 k) (.string (B n)) (.int .i64 i) (.slice (some ⟨W.heap.size, 0, none⟩) 1 1) T ∧ Rep O W' (Tm.mk k n i [t]).dat [.int .i64 k, .string (B n), .int .i64 i, .slice (some ⟨W.heap.size, 0, none⟩) 1 1] ∧ Upto (fun x => x = b) W W' := by
  subst hW
  have hs := hB.set (d0 := .int .i64 k) (d1 := .string (B n)) (d2 := .int .i64 i) (d3 := .slice (some ⟨W.heap.size, 0, none⟩) 1 1)
  have hU := hs.2.alloc (.cells #[t0, t1, t2, t3] T)
  exact ⟨hs.1.kept ((Upto.refl none' _).alloc _), rep_one (Rep.keep hU (fun x e => by subst e; exact hb) _ _ hR) (fun e => by have := hO _ e; omega) (Box4.at_new (by simp)) k n i, hU⟩
end Go.Proofs.Ytadphaobbpngkaa
namespace Go.LF.Tm
/-- The eta-long form of a head, and the error of its making. -/
def etaX (h : Tm) (s : Sm) : Tm := xp (h.mv (shF s.args.length 0) 0) s
def etaE (h : Tm) (s : Sm) : Int :=
  if h.wf ≠ 0 then h.wf else if s.wf ≠ 0 then s.wf else if (h.kind != 4 && (h.kind != 5 && h.kind != 6)) = true then 32
  else if 4096 < (h.size : Int) - 1 + s.lsz then 2 else if (etaX h s).small = false then 2 else if 1048576 < (etaX h s).great then 5 else 0
def etaT (h : Tm) (s : Sm) : Tm := if etaE h s = 0 then etaX h s else mk 0 [] 0 []
end Go.LF.Tm
namespace Go.Proofs.Ytadphaobbpngkaa
open Go.RowKit Go.LF
end Go.Proofs.Ytadphaobbpngkaa
namespace Go.LF.Tm
theorem eta_small (v : Int) (h0 : 0 ≤ v) (h1 : v ≤ 1000) (s : Sm) (hs : s.FitsS 1) : (etaT (mk 5 [] v []) s).isObj = true ∧ (etaT (mk 5 [] v []) s).size ≤ 5 ∧ (etaT (mk 5 [] v []) s).wt ≤ 25 := by
  have hz : s.size ≤ 3 := by have := hs.size; simp at this; omega
  have hal : s.args.length ≤ 3 := by cases s with | mk f l => rw [Sm.size_mk] at hz; have := Sm.length_le_sizes l; simp only [Sm.args_mk]; omega
  have hx : etaX (mk 5 [] v []) s = xp (mk 5 [] (v + s.args.length) []) s := by rw [etaX, mv_var _ _ h0]
  have hxo : (etaX (mk 5 [] v []) s).isObj = true := by
    rw [hx]
    refine obj_xp s _ ?_ (by simp) (by omega)
    rw [isObj]
    simp [allObj]
    omega
  have hxs : (etaX (mk 5 [] v []) s).size ≤ 5 := by have := size_xp s (mk 5 [] (v + s.args.length) []); rw [hx]; simp [sizes] at this; omega
  have hxw : (etaX (mk 5 [] v []) s).wt ≤ 25 := by have := wt_xp s (mk 5 [] (v + s.args.length) []); rw [hx]; simp [wts] at this; omega
  have hE : etaE (mk 5 [] v []) s = 0 := by
    have e1 : (mk 5 [] v []).wf = 0 := by
      have ho : (mk 5 [] v []).isObj = true := by rw [isObj]; simp [allObj]; omega
      unfold wf small
      rw [ho]
      simp [sizes, depths]
    have e2 := hs.wf0 (by omega)
    have e3 := (Sm.lsz_bounds s).1
    have e4 : (etaX (mk 5 [] v []) s).small = true := by unfold small; have := depth_le_size (etaX (mk 5 [] v []) s); simp; omega
    have e5 : (etaX (mk 5 [] v []) s).great ≤ 1048576 := by
      rw [great_le _ _ (by omega) 0]
      intro x hx hk
      exact ((obj_ok _ hxo 0 x hx).1 (by simp [hk])).2
    unfold etaE
    rw [if_neg (by simp [e1]), if_neg (by simp [e2]), if_neg (by simp), if_neg (by simp [sizes]; omega), if_neg (by simp [e4]), if_neg (by omega)]
  rw [etaT, if_pos hE]
  exact ⟨hxo, hxs, hxw⟩
end Go.LF.Tm
