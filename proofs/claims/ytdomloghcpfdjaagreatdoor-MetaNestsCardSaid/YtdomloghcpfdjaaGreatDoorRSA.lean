/- The reference's Machine.Applied, out of its step. -/
import Derived.Test.YtdomloghcpfdjaaGreatDoorREG
import Derived.Test.YtdomloghcpfdjaaGreatDoorRCD
import Derived.Test.YtdomloghcpfdjaaGreatDoorREF
import Derived.Deep.CutBlock
import Derived.Deep.CutRange
import Derived.Deep.RegionHeld3
namespace Go.Proofs.YtdomloghcpfdjaaGreatDoor
open Go.RowKit Go.LF
/-- The length of a slice. -/
def lenOf : Value → Nat
  | .slice _ l _ => l
  | _ => 0
/-- What the drawn region of Applied reads. -/
abbrev Ra8 (H ab ao : Nat) (s0 s1 x3 c0 c1 c2 c3 : Value) (w' : World) : Prop :=
  (w'.cell? ⟨H + 1, 0, none⟩ = some s0 ∧ w'.cell? ⟨H + 1, 1, none⟩ = some s1) ∧ w'.cell? ⟨H, 3, none⟩ = some x3 ∧
  w'.cell? ⟨ab, ao, none⟩ = some c0 ∧ w'.cell? ⟨ab, ao + 1, none⟩ = some c1 ∧ w'.cell? ⟨ab, ao + 2, none⟩ = some c2 ∧ w'.cell? ⟨ab, ao + 3, none⟩ = some c3
theorem Ra8.keep {H ab ao : Nat} {s0 s1 x3 c0 c1 c2 c3 : Value} {w w' : World} {S : Nat → Prop} (h : Ra8 H ab ao s0 s1 x3 c0 c1 c2 c3 w) (hU : Upto S w w') (h2 : ¬ S (H + 1)) (h3 : ¬ S H) (h4 : ¬ S ab) : Ra8 H ab ao s0 s1 x3 c0 c1 c2 c3 w' :=
  ⟨⟨hU.cell h.1.1 h2, hU.cell h.1.2 h2⟩, hU.cell h.2.1 h3, hU.cell h.2.2.1 h4, hU.cell h.2.2.2.1 h4, hU.cell h.2.2.2.2.1 h4, hU.cell h.2.2.2.2.2 h4⟩
end Go.Proofs.YtdomloghcpfdjaaGreatDoor
