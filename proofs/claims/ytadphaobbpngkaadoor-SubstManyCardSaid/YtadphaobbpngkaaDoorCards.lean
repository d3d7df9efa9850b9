/-
  DERIVED. GIVEN WITH THE SEED: THE CARDS: each row of YtadphaobbpngkaaDoorRows.lean that lists a variable, with what it lists TIED to the program's text (the seventh form; the later family's looks); each row that meets fmt, with fmt's text TOLD by the authors' own Lean function (tested against real Go, not proved from fmt's source: count such statements apart). THE CARD IS WHAT COUNTS. Prove the row's statement (the work); the ties are given (YtadphaobbpngkaaDoorTie.lean); close each card by the builder's one call (the guide's Derived/Test/ToyasCard.lean, 'card_holds'). Laid BY PROGRAM, IN A SANDBOX (cutbox-door.mjs). By AI agents, Wed Nov 11 2026. No macro, syntax, notation, axiom, sorry.
-/
import Derived.Test.YtadphaobbpngkaaDoorRows
import GoSem.ClaimSeven
namespace Go.Proofs.YtadphaobbpngkaaDoor
namespace Rows

/-- THE TIED CARD OF 'lfchecklaw08.SubstMany'. -/
def substManyCard : Claim7 := { stood := { row := substManyRow, standIns := [], harness := (true, "d913d5fac9cfc58d811baa1d9e3971c20ea4de1712d9963e802797014dc64515"), looks := true }, kinds := [], alts := [], laidByText := true, laidKinds := [.data], laidTests := true, laidLooks := .later }
def SubstManyCardSaid : Prop := Claim7.holds Tryd.pinned (.plain (OpenSpec.ofChange substManySpec)) substManyCard

/-- THE SECOND FORM's CARD OF 'lfchecklaw08.SubstMany'. -/
def substManyUptoCard : Claim7 := { stood := { row := substManyUptoRow, standIns := [], harness := (true, "d913d5fac9cfc58d811baa1d9e3971c20ea4de1712d9963e802797014dc64515"), looks := true }, kinds := [], alts := [], laidByText := true, laidKinds := [.data], laidTests := true, laidLooks := .later }
def SubstManyUptoCardSaid : Prop := Claim7.holds Tryd.pinned (.plain (OpenSpec.upto substManySpec)) substManyUptoCard
end Rows
end Go.Proofs.YtadphaobbpngkaaDoor
