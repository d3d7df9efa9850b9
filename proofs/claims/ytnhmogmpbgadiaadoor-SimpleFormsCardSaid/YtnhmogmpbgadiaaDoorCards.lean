/-
  DERIVED. GIVEN WITH THE SEED: THE CARDS: each row of YtnhmogmpbgadiaaDoorRows.lean that lists a variable, with what it lists TIED to the program's text (the seventh form; the later family's looks); each row that meets fmt, with fmt's text TOLD by the authors' own Lean function (tested against real Go, not proved from fmt's source: count such statements apart). THE CARD IS WHAT COUNTS. Prove the row's statement (the work); the ties are given (YtnhmogmpbgadiaaDoorTie.lean); close each card by the builder's one call (the guide's Derived/Test/ToyasCard.lean, 'card_holds'). Laid BY PROGRAM, IN A SANDBOX (cutbox-door.mjs). By AI agents, Wed Nov 11 2026. No macro, syntax, notation, axiom, sorry.
-/
import Derived.Test.YtnhmogmpbgadiaaDoorRows
import GoSem.ClaimSeven
namespace Go.Proofs.YtnhmogmpbgadiaaDoor
namespace Rows

/-- THE TIED CARD OF 'lfchecklaw22.StrictOccurs'. -/
def strictOccursCard : Claim7 := { stood := { row := strictOccursRow, standIns := [], harness := (true, "c5a186d4a32bb9b62876bf9161a1895c1e409feb5387934774aba71ecb834abf"), looks := true }, kinds := [], alts := [], laidByText := true, laidKinds := [.data], laidTests := true, laidLooks := .later }
def StrictOccursCardSaid : Prop := Claim7.holds Tryd.pinned (.plain (OpenSpec.ofChange strictOccursSpec)) strictOccursCard

/-- THE TIED CARD OF 'lfchecklaw22.StrictPatterns'. -/
def strictPatternsCard : Claim7 := { stood := { row := strictPatternsRow, standIns := [], harness := (true, "c5a186d4a32bb9b62876bf9161a1895c1e409feb5387934774aba71ecb834abf"), looks := true }, kinds := [], alts := [], laidByText := true, laidKinds := [.data], laidTests := true, laidLooks := .later }
def StrictPatternsCardSaid : Prop := Claim7.holds Tryd.pinned (.plain (OpenSpec.ofChange strictPatternsSpec)) strictPatternsCard

/-- THE TIED CARD OF 'lfchecklaw22.StrictImplies'. -/
def strictImpliesCard : Claim7 := { stood := { row := strictImpliesRow, standIns := [], harness := (true, "c5a186d4a32bb9b62876bf9161a1895c1e409feb5387934774aba71ecb834abf"), looks := true }, kinds := [], alts := [], laidByText := true, laidKinds := [.data], laidTests := true, laidLooks := .later }
def StrictImpliesCardSaid : Prop := Claim7.holds Tryd.pinned (.plain (OpenSpec.ofChange strictImpliesSpec)) strictImpliesCard

/-- THE TIED CARD OF 'lfchecklaw22.StrictParts'. -/
def strictPartsCard : Claim7 := { stood := { row := strictPartsRow, standIns := [], harness := (true, "c5a186d4a32bb9b62876bf9161a1895c1e409feb5387934774aba71ecb834abf"), looks := true }, kinds := [], alts := [], laidByText := true, laidKinds := [.data], laidTests := true, laidLooks := .later }
def StrictPartsCardSaid : Prop := Claim7.holds Tryd.pinned (.plain (OpenSpec.ofChange strictPartsSpec)) strictPartsCard

/-- THE TIED CARD OF 'lfchecklaw07.SimpleForms'. -/
def simpleFormsCard : Claim7 := { stood := { row := simpleFormsRow, standIns := [], harness := (true, "c5a186d4a32bb9b62876bf9161a1895c1e409feb5387934774aba71ecb834abf"), looks := true }, kinds := [], alts := [], laidByText := true, laidKinds := [.data], laidTests := true, laidLooks := .later }
def SimpleFormsCardSaid : Prop := Claim7.holds Tryd.pinned (.plain (OpenSpec.ofChange simpleFormsSpec)) simpleFormsCard

/-- THE TIED CARD OF 'lfchecklaw07.SimpleEta'. -/
def simpleEtaCard : Claim7 := { stood := { row := simpleEtaRow, standIns := [], harness := (true, "c5a186d4a32bb9b62876bf9161a1895c1e409feb5387934774aba71ecb834abf"), looks := true }, kinds := [], alts := [], laidByText := true, laidKinds := [.data], laidTests := true, laidLooks := .later }
def SimpleEtaCardSaid : Prop := Claim7.holds Tryd.pinned (.plain (OpenSpec.ofChange simpleEtaSpec)) simpleEtaCard

/-- THE TIED CARD OF 'lfchecklaw07.SimpleTerms'. -/
def simpleTermsCard : Claim7 := { stood := { row := simpleTermsRow, standIns := [], harness := (true, "c5a186d4a32bb9b62876bf9161a1895c1e409feb5387934774aba71ecb834abf"), looks := true }, kinds := [], alts := [], laidByText := true, laidKinds := [.data], laidTests := true, laidLooks := .later }
def SimpleTermsCardSaid : Prop := Claim7.holds Tryd.pinned (.plain (OpenSpec.ofChange simpleTermsSpec)) simpleTermsCard

/-- THE TIED CARD OF 'lfchecklaw08.SubstMany'. -/
def substManyCard : Claim7 := { stood := { row := substManyRow, standIns := [], harness := (true, "c5a186d4a32bb9b62876bf9161a1895c1e409feb5387934774aba71ecb834abf"), looks := true }, kinds := [], alts := [], laidByText := true, laidKinds := [.data], laidTests := true, laidLooks := .later }
def SubstManyCardSaid : Prop := Claim7.holds Tryd.pinned (.plain (OpenSpec.ofChange substManySpec)) substManyCard

/-- THE SECOND FORM's CARD OF 'lfchecklaw22.StrictOccurs'. -/
def strictOccursUptoCard : Claim7 := { stood := { row := strictOccursUptoRow, standIns := [], harness := (true, "c5a186d4a32bb9b62876bf9161a1895c1e409feb5387934774aba71ecb834abf"), looks := true }, kinds := [], alts := [], laidByText := true, laidKinds := [.data], laidTests := true, laidLooks := .later }
def StrictOccursUptoCardSaid : Prop := Claim7.holds Tryd.pinned (.plain (OpenSpec.upto strictOccursSpec)) strictOccursUptoCard

/-- THE SECOND FORM's CARD OF 'lfchecklaw22.StrictPatterns'. -/
def strictPatternsUptoCard : Claim7 := { stood := { row := strictPatternsUptoRow, standIns := [], harness := (true, "c5a186d4a32bb9b62876bf9161a1895c1e409feb5387934774aba71ecb834abf"), looks := true }, kinds := [], alts := [], laidByText := true, laidKinds := [.data], laidTests := true, laidLooks := .later }
def StrictPatternsUptoCardSaid : Prop := Claim7.holds Tryd.pinned (.plain (OpenSpec.upto strictPatternsSpec)) strictPatternsUptoCard

/-- THE SECOND FORM's CARD OF 'lfchecklaw22.StrictImplies'. -/
def strictImpliesUptoCard : Claim7 := { stood := { row := strictImpliesUptoRow, standIns := [], harness := (true, "c5a186d4a32bb9b62876bf9161a1895c1e409feb5387934774aba71ecb834abf"), looks := true }, kinds := [], alts := [], laidByText := true, laidKinds := [.data], laidTests := true, laidLooks := .later }
def StrictImpliesUptoCardSaid : Prop := Claim7.holds Tryd.pinned (.plain (OpenSpec.upto strictImpliesSpec)) strictImpliesUptoCard

/-- THE SECOND FORM's CARD OF 'lfchecklaw22.StrictParts'. -/
def strictPartsUptoCard : Claim7 := { stood := { row := strictPartsUptoRow, standIns := [], harness := (true, "c5a186d4a32bb9b62876bf9161a1895c1e409feb5387934774aba71ecb834abf"), looks := true }, kinds := [], alts := [], laidByText := true, laidKinds := [.data], laidTests := true, laidLooks := .later }
def StrictPartsUptoCardSaid : Prop := Claim7.holds Tryd.pinned (.plain (OpenSpec.upto strictPartsSpec)) strictPartsUptoCard

/-- THE SECOND FORM's CARD OF 'lfchecklaw07.SimpleForms'. -/
def simpleFormsUptoCard : Claim7 := { stood := { row := simpleFormsUptoRow, standIns := [], harness := (true, "c5a186d4a32bb9b62876bf9161a1895c1e409feb5387934774aba71ecb834abf"), looks := true }, kinds := [], alts := [], laidByText := true, laidKinds := [.data], laidTests := true, laidLooks := .later }
def SimpleFormsUptoCardSaid : Prop := Claim7.holds Tryd.pinned (.plain (OpenSpec.upto simpleFormsSpec)) simpleFormsUptoCard

/-- THE SECOND FORM's CARD OF 'lfchecklaw07.SimpleEta'. -/
def simpleEtaUptoCard : Claim7 := { stood := { row := simpleEtaUptoRow, standIns := [], harness := (true, "c5a186d4a32bb9b62876bf9161a1895c1e409feb5387934774aba71ecb834abf"), looks := true }, kinds := [], alts := [], laidByText := true, laidKinds := [.data], laidTests := true, laidLooks := .later }
def SimpleEtaUptoCardSaid : Prop := Claim7.holds Tryd.pinned (.plain (OpenSpec.upto simpleEtaSpec)) simpleEtaUptoCard

/-- THE SECOND FORM's CARD OF 'lfchecklaw07.SimpleTerms'. -/
def simpleTermsUptoCard : Claim7 := { stood := { row := simpleTermsUptoRow, standIns := [], harness := (true, "c5a186d4a32bb9b62876bf9161a1895c1e409feb5387934774aba71ecb834abf"), looks := true }, kinds := [], alts := [], laidByText := true, laidKinds := [.data], laidTests := true, laidLooks := .later }
def SimpleTermsUptoCardSaid : Prop := Claim7.holds Tryd.pinned (.plain (OpenSpec.upto simpleTermsSpec)) simpleTermsUptoCard

/-- THE SECOND FORM's CARD OF 'lfchecklaw08.SubstMany'. -/
def substManyUptoCard : Claim7 := { stood := { row := substManyUptoRow, standIns := [], harness := (true, "c5a186d4a32bb9b62876bf9161a1895c1e409feb5387934774aba71ecb834abf"), looks := true }, kinds := [], alts := [], laidByText := true, laidKinds := [.data], laidTests := true, laidLooks := .later }
def SubstManyUptoCardSaid : Prop := Claim7.holds Tryd.pinned (.plain (OpenSpec.upto substManySpec)) substManyUptoCard
end Rows
end Go.Proofs.YtnhmogmpbgadiaaDoor
