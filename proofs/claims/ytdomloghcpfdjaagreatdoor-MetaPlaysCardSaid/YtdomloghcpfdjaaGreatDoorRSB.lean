/- The reference's Machine.substitute: the step, and all of it. -/
import Derived.Test.YtdomloghcpfdjaaGreatDoorRCK
import Derived.Test.YtdomloghcpfdjaaGreatDoorRSA
import Derived.Deep.CutRange
import Derived.Deep.RegionHeld3
import Derived.Deep.RegionLaw
namespace Go.Proofs.YtdomloghcpfdjaaGreatDoor
open Go.RowKit Go.LF
/-- What the last region of substitute reads. -/
abbrev Rs8 (Y H sb so : Nat) (y0 y1 y2 y3 o3 p0 p1 : Value) (w' : World) : Prop :=
  (w'.cell? ⟨Y, 0, none⟩ = some y0 ∧ w'.cell? ⟨Y, 1, none⟩ = some y1 ∧ w'.cell? ⟨Y, 2, none⟩ = some y2 ∧ w'.cell? ⟨Y, 3, none⟩ = some y3) ∧ w'.cell? ⟨H + 1 + 1, 3, none⟩ = some o3 ∧ (w'.cell? ⟨sb, so, none⟩ = some p0 ∧ w'.cell? ⟨sb, so + 1, none⟩ = some p1)
theorem Rs8.keep {Y H sb so : Nat} {y0 y1 y2 y3 o3 p0 p1 : Value} {w w' : World} {S : Nat → Prop} (h : Rs8 Y H sb so y0 y1 y2 y3 o3 p0 p1 w) (hU : Upto S w w') (h1 : ¬ S Y) (h2 : ¬ S (H + 1 + 1)) (h3 : ¬ S sb) : Rs8 Y H sb so y0 y1 y2 y3 o3 p0 p1 w' :=
  ⟨⟨hU.cell h.1.1 h1, hU.cell h.1.2.1 h1, hU.cell h.1.2.2.1 h1, hU.cell h.1.2.2.2 h1⟩, hU.cell h.2.1 h2, hU.cell h.2.2.1 h3, hU.cell h.2.2.2 h3⟩
theorem Rs8.set4 {Y H sb so r : Nat} {y0 y1 y2 y3 o3 p0 p1 : Value} {w : World} (h : Rs8 Y H sb so y0 y1 y2 y3 o3 p0 p1 w) (h1 : ¬ Y = r) (h2 : ¬ H + 1 + 1 = r) (h3 : ¬ sb = r) (d0 d1 d2 d3 : Value) :
    Rs8 Y H sb so y0 y1 y2 y3 o3 p0 p1 ((((w.setCell ⟨r, 0, none⟩ d0).setCell ⟨r, 1, none⟩ d1).setCell ⟨r, 2, none⟩ d2).setCell ⟨r, 3, none⟩ d3) :=
  h.keep (S := fun b => b = r) (Upto.set (Upto.set (Upto.set (Upto.set (Upto.refl _ _) 0 _) 1 _) 2 _) 3 _) h1 h2 h3
end Go.Proofs.YtdomloghcpfdjaaGreatDoor
