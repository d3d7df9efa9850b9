/-
  DERIVED. GIVEN WITH THE SEED: THE CARDS: each row of YthgmimncdjhgnaaGreatDoorRows.lean that lists a variable, with what it lists TIED to the program's text (the seventh form; the later family's looks); each row that meets fmt, with fmt's text TOLD by the authors' own Lean function (tested against real Go, not proved from fmt's source: count such statements apart). THE CARD IS WHAT COUNTS. Prove the row's statement (the work); the ties are given (YthgmimncdjhgnaaGreatDoorTie.lean); close each card by the builder's one call (the guide's Derived/Test/ToyasCard.lean, 'card_holds'). Laid BY PROGRAM, IN A SANDBOX (cutbox-door.mjs). By AI agents, Wed Nov 11 2026. No macro, syntax, notation, axiom, sorry.
-/
import Derived.Test.YthgmimncdjhgnaaGreatDoorRows
import GoSem.ClaimSeven
namespace Go.Proofs.YthgmimncdjhgnaaGreatDoor
namespace Rows

/-- THE TIED CARD OF 'lfchecklaw13.MetaExpands'. -/
def metaExpandsCard : Claim7 := { stood := { row := metaExpandsRow, standIns := [], harness := (true, "49625e35d45399819bfd2f50dfa27376259bf6a34dc1f7586769d578c6c57bc6"), looks := true }, kinds := [], alts := [], laidByText := true, laidKinds := [.data], laidTests := true, laidLooks := .later }
def MetaExpandsCardSaid : Prop := Claim7.holds Tryz.pinned (.plain (OpenSpec.ofChange metaExpandsSpec)) metaExpandsCard

/-- THE TIED CARD OF 'lfchecklaw19.AbstractPlays'. -/
def abstractPlaysCard : Claim7 := { stood := { row := abstractPlaysRow, standIns := [], harness := (true, "49625e35d45399819bfd2f50dfa27376259bf6a34dc1f7586769d578c6c57bc6"), looks := true }, kinds := [], alts := [], laidByText := true, laidKinds := [.data], laidTests := true, laidLooks := .later }
def AbstractPlaysCardSaid : Prop := Claim7.holds Tryz.pinned (.plain (OpenSpec.ofChange abstractPlaysSpec)) abstractPlaysCard

/-- THE TIED CARD OF 'lfchecklaw19.AbstractRefills'. -/
def abstractRefillsCard : Claim7 := { stood := { row := abstractRefillsRow, standIns := [], harness := (true, "49625e35d45399819bfd2f50dfa27376259bf6a34dc1f7586769d578c6c57bc6"), looks := true }, kinds := [], alts := [], laidByText := true, laidKinds := [.data], laidTests := true, laidLooks := .later }
def AbstractRefillsCardSaid : Prop := Claim7.holds Tryz.pinned (.plain (OpenSpec.ofChange abstractRefillsSpec)) abstractRefillsCard

/-- THE TIED CARD OF 'lfchecklaw19.AbstractCounts'. -/
def abstractCountsCard : Claim7 := { stood := { row := abstractCountsRow, standIns := [], harness := (true, "49625e35d45399819bfd2f50dfa27376259bf6a34dc1f7586769d578c6c57bc6"), looks := true }, kinds := [], alts := [], laidByText := true, laidKinds := [.data], laidTests := true, laidLooks := .later }
def AbstractCountsCardSaid : Prop := Claim7.holds Tryz.pinned (.plain (OpenSpec.ofChange abstractCountsSpec)) abstractCountsCard

/-- THE TIED CARD OF 'lfchecklaw14.PatternVariables'. -/
def patternVariablesCard : Claim7 := { stood := { row := patternVariablesRow, standIns := [], harness := (true, "49625e35d45399819bfd2f50dfa27376259bf6a34dc1f7586769d578c6c57bc6"), looks := true }, kinds := [], alts := [], laidByText := true, laidKinds := [.data], laidTests := true, laidLooks := .later }
def PatternVariablesCardSaid : Prop := Claim7.holds Tryz.pinned (.plain (OpenSpec.ofChange patternVariablesSpec)) patternVariablesCard

/-- THE TIED CARD OF 'lfchecklaw14.PatternInverts'. -/
def patternInvertsCard : Claim7 := { stood := { row := patternInvertsRow, standIns := [], harness := (true, "49625e35d45399819bfd2f50dfa27376259bf6a34dc1f7586769d578c6c57bc6"), looks := true }, kinds := [], alts := [], laidByText := true, laidKinds := [.data], laidTests := true, laidLooks := .later }
def PatternInvertsCardSaid : Prop := Claim7.holds Tryz.pinned (.plain (OpenSpec.ofChange patternInvertsSpec)) patternInvertsCard

/-- THE TIED CARD OF 'lfchecklaw14.PatternBack'. -/
def patternBackCard : Claim7 := { stood := { row := patternBackRow, standIns := [], harness := (true, "49625e35d45399819bfd2f50dfa27376259bf6a34dc1f7586769d578c6c57bc6"), looks := true }, kinds := [], alts := [], laidByText := true, laidKinds := [.data], laidTests := true, laidLooks := .later }
def PatternBackCardSaid : Prop := Claim7.holds Tryz.pinned (.plain (OpenSpec.ofChange patternBackSpec)) patternBackCard

/-- THE SECOND FORM's CARD OF 'lfchecklaw13.MetaExpands'. -/
def metaExpandsUptoCard : Claim7 := { stood := { row := metaExpandsUptoRow, standIns := [], harness := (true, "49625e35d45399819bfd2f50dfa27376259bf6a34dc1f7586769d578c6c57bc6"), looks := true }, kinds := [], alts := [], laidByText := true, laidKinds := [.data], laidTests := true, laidLooks := .later }
def MetaExpandsUptoCardSaid : Prop := Claim7.holds Tryz.pinned (.plain (OpenSpec.upto metaExpandsSpec)) metaExpandsUptoCard

/-- THE SECOND FORM's CARD OF 'lfchecklaw19.AbstractPlays'. -/
def abstractPlaysUptoCard : Claim7 := { stood := { row := abstractPlaysUptoRow, standIns := [], harness := (true, "49625e35d45399819bfd2f50dfa27376259bf6a34dc1f7586769d578c6c57bc6"), looks := true }, kinds := [], alts := [], laidByText := true, laidKinds := [.data], laidTests := true, laidLooks := .later }
def AbstractPlaysUptoCardSaid : Prop := Claim7.holds Tryz.pinned (.plain (OpenSpec.upto abstractPlaysSpec)) abstractPlaysUptoCard

/-- THE SECOND FORM's CARD OF 'lfchecklaw19.AbstractRefills'. -/
def abstractRefillsUptoCard : Claim7 := { stood := { row := abstractRefillsUptoRow, standIns := [], harness := (true, "49625e35d45399819bfd2f50dfa27376259bf6a34dc1f7586769d578c6c57bc6"), looks := true }, kinds := [], alts := [], laidByText := true, laidKinds := [.data], laidTests := true, laidLooks := .later }
def AbstractRefillsUptoCardSaid : Prop := Claim7.holds Tryz.pinned (.plain (OpenSpec.upto abstractRefillsSpec)) abstractRefillsUptoCard

/-- THE SECOND FORM's CARD OF 'lfchecklaw19.AbstractCounts'. -/
def abstractCountsUptoCard : Claim7 := { stood := { row := abstractCountsUptoRow, standIns := [], harness := (true, "49625e35d45399819bfd2f50dfa27376259bf6a34dc1f7586769d578c6c57bc6"), looks := true }, kinds := [], alts := [], laidByText := true, laidKinds := [.data], laidTests := true, laidLooks := .later }
def AbstractCountsUptoCardSaid : Prop := Claim7.holds Tryz.pinned (.plain (OpenSpec.upto abstractCountsSpec)) abstractCountsUptoCard

/-- THE SECOND FORM's CARD OF 'lfchecklaw14.PatternVariables'. -/
def patternVariablesUptoCard : Claim7 := { stood := { row := patternVariablesUptoRow, standIns := [], harness := (true, "49625e35d45399819bfd2f50dfa27376259bf6a34dc1f7586769d578c6c57bc6"), looks := true }, kinds := [], alts := [], laidByText := true, laidKinds := [.data], laidTests := true, laidLooks := .later }
def PatternVariablesUptoCardSaid : Prop := Claim7.holds Tryz.pinned (.plain (OpenSpec.upto patternVariablesSpec)) patternVariablesUptoCard

/-- THE SECOND FORM's CARD OF 'lfchecklaw14.PatternInverts'. -/
def patternInvertsUptoCard : Claim7 := { stood := { row := patternInvertsUptoRow, standIns := [], harness := (true, "49625e35d45399819bfd2f50dfa27376259bf6a34dc1f7586769d578c6c57bc6"), looks := true }, kinds := [], alts := [], laidByText := true, laidKinds := [.data], laidTests := true, laidLooks := .later }
def PatternInvertsUptoCardSaid : Prop := Claim7.holds Tryz.pinned (.plain (OpenSpec.upto patternInvertsSpec)) patternInvertsUptoCard

/-- THE SECOND FORM's CARD OF 'lfchecklaw14.PatternBack'. -/
def patternBackUptoCard : Claim7 := { stood := { row := patternBackUptoRow, standIns := [], harness := (true, "49625e35d45399819bfd2f50dfa27376259bf6a34dc1f7586769d578c6c57bc6"), looks := true }, kinds := [], alts := [], laidByText := true, laidKinds := [.data], laidTests := true, laidLooks := .later }
def PatternBackUptoCardSaid : Prop := Claim7.holds Tryz.pinned (.plain (OpenSpec.upto patternBackSpec)) patternBackUptoCard
end Rows
end Go.Proofs.YthgmimncdjhgnaaGreatDoor
