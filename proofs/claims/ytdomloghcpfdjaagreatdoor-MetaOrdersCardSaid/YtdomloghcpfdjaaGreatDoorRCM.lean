/- The reference's Long. -/
import Derived.Test.YtdomloghcpfdjaaGreatDoorRCF
import Derived.Test.YtdomloghcpfdjaaGreatDoorRCK
import Derived.Test.YtdomloghcpfdjaaGreatDoorRCL
namespace Go.LF.Tm
end Go.LF.Tm
namespace Go.Proofs.YtdomloghcpfdjaaGreatDoor
open Go.RowKit Go.LF
/-- What a cell holds. -/
def cellAt (b j : Nat) (w : World) : Value := (w.cell? ⟨b, j, none⟩).getD undef
theorem cellAt_eq {b j : Nat} {w : World} {v : Value} (h : w.cell? ⟨b, j, none⟩ = some v) : cellAt b j w = v := by unfold cellAt; rw [h]; rfl
theorem Box4.at {W : World} {g : Nat} {c0 c1 c2 c3 : Value} {T : TypeId} (h : Box4 W g c0 c1 c2 c3 T) : cellAt g 0 W = c0 ∧ cellAt g 1 W = c1 ∧ cellAt g 2 W = c2 ∧ cellAt g 3 W = c3 := ⟨cellAt_eq h.cells.1, cellAt_eq h.cells.2.1, cellAt_eq h.cells.2.2.1, cellAt_eq h.cells.2.2.2⟩
/-- A row of one term, in a block of its own. -/
theorem repE_one {O : Nat → Prop} {W : World} {t : Tm} {c0 c1 c2 c3 : Value} {b : Nat} {T : TypeId} (h : Rep O W t.dat [c0, c1, c2, c3]) (hb : ¬ O b) (hB : Box4 W b c0 c1 c2 c3 T) : RepE O W 4 ([t].map Tm.dat) (some ⟨b, 0, none⟩) 0 := by
  obtain ⟨a, cap, e, _, hE⟩ := rep_tm.1 (rep_one h hb hB 0 [] 0)
  simp only [List.cons.injEq, Value.slice.injEq, and_true, true_and] at e
  obtain ⟨rfl, _⟩ := e
  exact hE
theorem relayO {O : Nat → Prop} {W : World} {b : Nat} {t : Tm} {t0 t1 t2 t3 : Value} {T : TypeId} (hB : Box4 W b t0 t1 t2 t3 T) (hR : Rep O W t.dat [t0, t1, t2, t3]) (hb : O b) (hO : ∀ x, O x → x < W.heap.size) (k : Int) (n : List UInt8) (i : Int) {W' : World}
    (hW : W' = ((((W.setCell ⟨b, 0, none⟩ (.int .i64 k)).setCell ⟨b, 1, none⟩ (.string (B n))).setCell ⟨b, 2, none⟩ (.int .i64 i)).setCell ⟨b, 3, none⟩ (.slice (some ⟨W.heap.size, 0, none⟩) 1 1)).alloc (.cells #[t0, t1, t2, t3] T)) :
    Box4 W' b (.int .i64 k) (.string (B n)) (.int .i64 i) (.slice (some ⟨W.heap.size, 0, none⟩) 1 1) T ∧ Rep O W' (Tm.mk k n i [t]).dat [.int .i64 k, .string (B n), .int .i64 i, .slice (some ⟨W.heap.size, 0, none⟩) 1 1] ∧ Upto (fun x => x = b) W W' := by
  subst hW
  have hs := hB.set (d0 := .int .i64 k) (d1 := .string (B n)) (d2 := .int .i64 i) (d3 := .slice (some ⟨W.heap.size, 0, none⟩) 1 1)
  have hU := hs.2.alloc (.cells #[t0, t1, t2, t3] T)
  exact ⟨hs.1.kept ((Upto.refl none' _).alloc _), rep_one (Rep.keep hU (fun x e => by subst e; exact hb) _ _ hR) (fun e => by have := hO _ e; omega) (Box4.at_new (by simp)) k n i, hU⟩
end Go.Proofs.YtdomloghcpfdjaaGreatDoor
