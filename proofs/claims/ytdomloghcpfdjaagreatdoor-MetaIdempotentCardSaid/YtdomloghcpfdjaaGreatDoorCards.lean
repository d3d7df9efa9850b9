/-
  DERIVED. GIVEN WITH THE SEED: THE CARDS: each row of YtdomloghcpfdjaaGreatDoorRows.lean that lists a variable, with what it lists TIED to the program's text (the seventh form; the later family's looks); each row that meets fmt, with fmt's text TOLD by the authors' own Lean function (tested against real Go, not proved from fmt's source: count such statements apart). THE CARD IS WHAT COUNTS. Prove the row's statement (the work); the ties are given (YtdomloghcpfdjaaGreatDoorTie.lean); close each card by the builder's one call (the guide's Derived/Test/ToyasCard.lean, 'card_holds'). Laid BY PROGRAM, IN A SANDBOX (cutbox-door.mjs). By AI agents, Wed Nov 11 2026. No macro, syntax, notation, axiom, sorry.
-/
import Derived.Test.YtdomloghcpfdjaaGreatDoorRows
import GoSem.ClaimSeven
namespace Go.Proofs.YtdomloghcpfdjaaGreatDoor
namespace Rows

/-- THE TIED CARD OF 'lfchecklaw08.SubstSpines'. -/
def substSpinesCard : Claim7 := { stood := { row := substSpinesRow, standIns := [], harness := (true, "7eb155282d9193a2874ea2641ff36c8492e416c7c38187b6e75e90c8b61ff7ba"), looks := true }, kinds := [], alts := [], laidByText := true, laidKinds := [.data], laidTests := true, laidLooks := .later }
def SubstSpinesCardSaid : Prop := Claim7.holds Tryz.pinned (.plain (OpenSpec.ofChange substSpinesSpec)) substSpinesCard

/-- THE TIED CARD OF 'lfchecklaw13.MetaPlays'. -/
def metaPlaysCard : Claim7 := { stood := { row := metaPlaysRow, standIns := [], harness := (true, "7eb155282d9193a2874ea2641ff36c8492e416c7c38187b6e75e90c8b61ff7ba"), looks := true }, kinds := [], alts := [], laidByText := true, laidKinds := [.data], laidTests := true, laidLooks := .later }
def MetaPlaysCardSaid : Prop := Claim7.holds Tryz.pinned (.plain (OpenSpec.ofChange metaPlaysSpec)) metaPlaysCard

/-- THE TIED CARD OF 'lfchecklaw13.MetaValid'. -/
def metaValidCard : Claim7 := { stood := { row := metaValidRow, standIns := [], harness := (true, "7eb155282d9193a2874ea2641ff36c8492e416c7c38187b6e75e90c8b61ff7ba"), looks := true }, kinds := [], alts := [], laidByText := true, laidKinds := [.data], laidTests := true, laidLooks := .later }
def MetaValidCardSaid : Prop := Claim7.holds Tryz.pinned (.plain (OpenSpec.ofChange metaValidSpec)) metaValidCard

/-- THE TIED CARD OF 'lfchecklaw13.MetaExpands'. -/
def metaExpandsCard : Claim7 := { stood := { row := metaExpandsRow, standIns := [], harness := (true, "7eb155282d9193a2874ea2641ff36c8492e416c7c38187b6e75e90c8b61ff7ba"), looks := true }, kinds := [], alts := [], laidByText := true, laidKinds := [.data], laidTests := true, laidLooks := .later }
def MetaExpandsCardSaid : Prop := Claim7.holds Tryz.pinned (.plain (OpenSpec.ofChange metaExpandsSpec)) metaExpandsCard

/-- THE TIED CARD OF 'lfchecklaw13.MetaIdempotent'. -/
def metaIdempotentCard : Claim7 := { stood := { row := metaIdempotentRow, standIns := [], harness := (true, "7eb155282d9193a2874ea2641ff36c8492e416c7c38187b6e75e90c8b61ff7ba"), looks := true }, kinds := [], alts := [], laidByText := true, laidKinds := [.data], laidTests := true, laidLooks := .later }
def MetaIdempotentCardSaid : Prop := Claim7.holds Tryz.pinned (.plain (OpenSpec.ofChange metaIdempotentSpec)) metaIdempotentCard

/-- THE TIED CARD OF 'lfchecklaw13.MetaOrders'. -/
def metaOrdersCard : Claim7 := { stood := { row := metaOrdersRow, standIns := [], harness := (true, "7eb155282d9193a2874ea2641ff36c8492e416c7c38187b6e75e90c8b61ff7ba"), looks := true }, kinds := [], alts := [], laidByText := true, laidKinds := [.data], laidTests := true, laidLooks := .later }
def MetaOrdersCardSaid : Prop := Claim7.holds Tryz.pinned (.plain (OpenSpec.ofChange metaOrdersSpec)) metaOrdersCard

/-- THE TIED CARD OF 'lfchecklaw13.MetaNests'. -/
def metaNestsCard : Claim7 := { stood := { row := metaNestsRow, standIns := [], harness := (true, "7eb155282d9193a2874ea2641ff36c8492e416c7c38187b6e75e90c8b61ff7ba"), looks := true }, kinds := [], alts := [], laidByText := true, laidKinds := [.data], laidTests := true, laidLooks := .later }
def MetaNestsCardSaid : Prop := Claim7.holds Tryz.pinned (.plain (OpenSpec.ofChange metaNestsSpec)) metaNestsCard

/-- THE TIED CARD OF 'lfchecklaw19.AbstractPlays'. -/
def abstractPlaysCard : Claim7 := { stood := { row := abstractPlaysRow, standIns := [], harness := (true, "7eb155282d9193a2874ea2641ff36c8492e416c7c38187b6e75e90c8b61ff7ba"), looks := true }, kinds := [], alts := [], laidByText := true, laidKinds := [.data], laidTests := true, laidLooks := .later }
def AbstractPlaysCardSaid : Prop := Claim7.holds Tryz.pinned (.plain (OpenSpec.ofChange abstractPlaysSpec)) abstractPlaysCard

/-- THE TIED CARD OF 'lfchecklaw19.AbstractRefills'. -/
def abstractRefillsCard : Claim7 := { stood := { row := abstractRefillsRow, standIns := [], harness := (true, "7eb155282d9193a2874ea2641ff36c8492e416c7c38187b6e75e90c8b61ff7ba"), looks := true }, kinds := [], alts := [], laidByText := true, laidKinds := [.data], laidTests := true, laidLooks := .later }
def AbstractRefillsCardSaid : Prop := Claim7.holds Tryz.pinned (.plain (OpenSpec.ofChange abstractRefillsSpec)) abstractRefillsCard

/-- THE TIED CARD OF 'lfchecklaw19.AbstractCounts'. -/
def abstractCountsCard : Claim7 := { stood := { row := abstractCountsRow, standIns := [], harness := (true, "7eb155282d9193a2874ea2641ff36c8492e416c7c38187b6e75e90c8b61ff7ba"), looks := true }, kinds := [], alts := [], laidByText := true, laidKinds := [.data], laidTests := true, laidLooks := .later }
def AbstractCountsCardSaid : Prop := Claim7.holds Tryz.pinned (.plain (OpenSpec.ofChange abstractCountsSpec)) abstractCountsCard

/-- THE TIED CARD OF 'lfchecklaw14.PatternVariables'. -/
def patternVariablesCard : Claim7 := { stood := { row := patternVariablesRow, standIns := [], harness := (true, "7eb155282d9193a2874ea2641ff36c8492e416c7c38187b6e75e90c8b61ff7ba"), looks := true }, kinds := [], alts := [], laidByText := true, laidKinds := [.data], laidTests := true, laidLooks := .later }
def PatternVariablesCardSaid : Prop := Claim7.holds Tryz.pinned (.plain (OpenSpec.ofChange patternVariablesSpec)) patternVariablesCard

/-- THE TIED CARD OF 'lfchecklaw14.PatternInverts'. -/
def patternInvertsCard : Claim7 := { stood := { row := patternInvertsRow, standIns := [], harness := (true, "7eb155282d9193a2874ea2641ff36c8492e416c7c38187b6e75e90c8b61ff7ba"), looks := true }, kinds := [], alts := [], laidByText := true, laidKinds := [.data], laidTests := true, laidLooks := .later }
def PatternInvertsCardSaid : Prop := Claim7.holds Tryz.pinned (.plain (OpenSpec.ofChange patternInvertsSpec)) patternInvertsCard

/-- THE TIED CARD OF 'lfchecklaw14.PatternBack'. -/
def patternBackCard : Claim7 := { stood := { row := patternBackRow, standIns := [], harness := (true, "7eb155282d9193a2874ea2641ff36c8492e416c7c38187b6e75e90c8b61ff7ba"), looks := true }, kinds := [], alts := [], laidByText := true, laidKinds := [.data], laidTests := true, laidLooks := .later }
def PatternBackCardSaid : Prop := Claim7.holds Tryz.pinned (.plain (OpenSpec.ofChange patternBackSpec)) patternBackCard

/-- THE SECOND FORM's CARD OF 'lfchecklaw08.SubstSpines'. -/
def substSpinesUptoCard : Claim7 := { stood := { row := substSpinesUptoRow, standIns := [], harness := (true, "7eb155282d9193a2874ea2641ff36c8492e416c7c38187b6e75e90c8b61ff7ba"), looks := true }, kinds := [], alts := [], laidByText := true, laidKinds := [.data], laidTests := true, laidLooks := .later }
def SubstSpinesUptoCardSaid : Prop := Claim7.holds Tryz.pinned (.plain (OpenSpec.upto substSpinesSpec)) substSpinesUptoCard

/-- THE SECOND FORM's CARD OF 'lfchecklaw13.MetaPlays'. -/
def metaPlaysUptoCard : Claim7 := { stood := { row := metaPlaysUptoRow, standIns := [], harness := (true, "7eb155282d9193a2874ea2641ff36c8492e416c7c38187b6e75e90c8b61ff7ba"), looks := true }, kinds := [], alts := [], laidByText := true, laidKinds := [.data], laidTests := true, laidLooks := .later }
def MetaPlaysUptoCardSaid : Prop := Claim7.holds Tryz.pinned (.plain (OpenSpec.upto metaPlaysSpec)) metaPlaysUptoCard

/-- THE SECOND FORM's CARD OF 'lfchecklaw13.MetaValid'. -/
def metaValidUptoCard : Claim7 := { stood := { row := metaValidUptoRow, standIns := [], harness := (true, "7eb155282d9193a2874ea2641ff36c8492e416c7c38187b6e75e90c8b61ff7ba"), looks := true }, kinds := [], alts := [], laidByText := true, laidKinds := [.data], laidTests := true, laidLooks := .later }
def MetaValidUptoCardSaid : Prop := Claim7.holds Tryz.pinned (.plain (OpenSpec.upto metaValidSpec)) metaValidUptoCard

/-- THE SECOND FORM's CARD OF 'lfchecklaw13.MetaExpands'. -/
def metaExpandsUptoCard : Claim7 := { stood := { row := metaExpandsUptoRow, standIns := [], harness := (true, "7eb155282d9193a2874ea2641ff36c8492e416c7c38187b6e75e90c8b61ff7ba"), looks := true }, kinds := [], alts := [], laidByText := true, laidKinds := [.data], laidTests := true, laidLooks := .later }
def MetaExpandsUptoCardSaid : Prop := Claim7.holds Tryz.pinned (.plain (OpenSpec.upto metaExpandsSpec)) metaExpandsUptoCard

/-- THE SECOND FORM's CARD OF 'lfchecklaw13.MetaIdempotent'. -/
def metaIdempotentUptoCard : Claim7 := { stood := { row := metaIdempotentUptoRow, standIns := [], harness := (true, "7eb155282d9193a2874ea2641ff36c8492e416c7c38187b6e75e90c8b61ff7ba"), looks := true }, kinds := [], alts := [], laidByText := true, laidKinds := [.data], laidTests := true, laidLooks := .later }
def MetaIdempotentUptoCardSaid : Prop := Claim7.holds Tryz.pinned (.plain (OpenSpec.upto metaIdempotentSpec)) metaIdempotentUptoCard

/-- THE SECOND FORM's CARD OF 'lfchecklaw13.MetaOrders'. -/
def metaOrdersUptoCard : Claim7 := { stood := { row := metaOrdersUptoRow, standIns := [], harness := (true, "7eb155282d9193a2874ea2641ff36c8492e416c7c38187b6e75e90c8b61ff7ba"), looks := true }, kinds := [], alts := [], laidByText := true, laidKinds := [.data], laidTests := true, laidLooks := .later }
def MetaOrdersUptoCardSaid : Prop := Claim7.holds Tryz.pinned (.plain (OpenSpec.upto metaOrdersSpec)) metaOrdersUptoCard

/-- THE SECOND FORM's CARD OF 'lfchecklaw13.MetaNests'. -/
def metaNestsUptoCard : Claim7 := { stood := { row := metaNestsUptoRow, standIns := [], harness := (true, "7eb155282d9193a2874ea2641ff36c8492e416c7c38187b6e75e90c8b61ff7ba"), looks := true }, kinds := [], alts := [], laidByText := true, laidKinds := [.data], laidTests := true, laidLooks := .later }
def MetaNestsUptoCardSaid : Prop := Claim7.holds Tryz.pinned (.plain (OpenSpec.upto metaNestsSpec)) metaNestsUptoCard

/-- THE SECOND FORM's CARD OF 'lfchecklaw19.AbstractPlays'. -/
def abstractPlaysUptoCard : Claim7 := { stood := { row := abstractPlaysUptoRow, standIns := [], harness := (true, "7eb155282d9193a2874ea2641ff36c8492e416c7c38187b6e75e90c8b61ff7ba"), looks := true }, kinds := [], alts := [], laidByText := true, laidKinds := [.data], laidTests := true, laidLooks := .later }
def AbstractPlaysUptoCardSaid : Prop := Claim7.holds Tryz.pinned (.plain (OpenSpec.upto abstractPlaysSpec)) abstractPlaysUptoCard

/-- THE SECOND FORM's CARD OF 'lfchecklaw19.AbstractRefills'. -/
def abstractRefillsUptoCard : Claim7 := { stood := { row := abstractRefillsUptoRow, standIns := [], harness := (true, "7eb155282d9193a2874ea2641ff36c8492e416c7c38187b6e75e90c8b61ff7ba"), looks := true }, kinds := [], alts := [], laidByText := true, laidKinds := [.data], laidTests := true, laidLooks := .later }
def AbstractRefillsUptoCardSaid : Prop := Claim7.holds Tryz.pinned (.plain (OpenSpec.upto abstractRefillsSpec)) abstractRefillsUptoCard

/-- THE SECOND FORM's CARD OF 'lfchecklaw19.AbstractCounts'. -/
def abstractCountsUptoCard : Claim7 := { stood := { row := abstractCountsUptoRow, standIns := [], harness := (true, "7eb155282d9193a2874ea2641ff36c8492e416c7c38187b6e75e90c8b61ff7ba"), looks := true }, kinds := [], alts := [], laidByText := true, laidKinds := [.data], laidTests := true, laidLooks := .later }
def AbstractCountsUptoCardSaid : Prop := Claim7.holds Tryz.pinned (.plain (OpenSpec.upto abstractCountsSpec)) abstractCountsUptoCard

/-- THE SECOND FORM's CARD OF 'lfchecklaw14.PatternVariables'. -/
def patternVariablesUptoCard : Claim7 := { stood := { row := patternVariablesUptoRow, standIns := [], harness := (true, "7eb155282d9193a2874ea2641ff36c8492e416c7c38187b6e75e90c8b61ff7ba"), looks := true }, kinds := [], alts := [], laidByText := true, laidKinds := [.data], laidTests := true, laidLooks := .later }
def PatternVariablesUptoCardSaid : Prop := Claim7.holds Tryz.pinned (.plain (OpenSpec.upto patternVariablesSpec)) patternVariablesUptoCard

/-- THE SECOND FORM's CARD OF 'lfchecklaw14.PatternInverts'. -/
def patternInvertsUptoCard : Claim7 := { stood := { row := patternInvertsUptoRow, standIns := [], harness := (true, "7eb155282d9193a2874ea2641ff36c8492e416c7c38187b6e75e90c8b61ff7ba"), looks := true }, kinds := [], alts := [], laidByText := true, laidKinds := [.data], laidTests := true, laidLooks := .later }
def PatternInvertsUptoCardSaid : Prop := Claim7.holds Tryz.pinned (.plain (OpenSpec.upto patternInvertsSpec)) patternInvertsUptoCard

/-- THE SECOND FORM's CARD OF 'lfchecklaw14.PatternBack'. -/
def patternBackUptoCard : Claim7 := { stood := { row := patternBackUptoRow, standIns := [], harness := (true, "7eb155282d9193a2874ea2641ff36c8492e416c7c38187b6e75e90c8b61ff7ba"), looks := true }, kinds := [], alts := [], laidByText := true, laidKinds := [.data], laidTests := true, laidLooks := .later }
def PatternBackUptoCardSaid : Prop := Claim7.holds Tryz.pinned (.plain (OpenSpec.upto patternBackSpec)) patternBackUptoCard
end Rows
end Go.Proofs.YtdomloghcpfdjaaGreatDoor
