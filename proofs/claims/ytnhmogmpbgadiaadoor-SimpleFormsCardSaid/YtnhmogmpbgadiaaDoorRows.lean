/-
  NARROWER THAN 'FOR EVERY INPUT', by the rows' own cells (each row's printed sentence says how): StrictOccurs: laid · StrictPatterns: laid · StrictImplies: laid · StrictParts: laid · SimpleForms: laid · SimpleEta: laid · SimpleTerms: laid · SubstMany: laid.
  DERIVED. THE GIVEN ROWS OF THIS SEAT. 8 by the template 'for every input the law returns true; each argument reads behind the call as it read before'; 0 by the template 'total and deterministic' (their statements: YtnhmogmpbgadiaaDoorTotals.lean).
  GIVEN WITH THE SEED: the statements are not yours to turn. If you find one false, say at which input.
  Laid BY PROGRAM, IN A SANDBOX (cutbox-rows.mjs): the forced cells as the released guide's own fill.sh prints them over the translation fbe298d7d5e93e5f… (all of the seat's roots in one cut). By AI agents, Wed Nov 11 2026. No macro, syntax, notation, axiom, sorry.
-/
import Derived.Test.YtnhmogmpbgadiaaDoorChecked
import GoSem.Claim
import GoSem.ClaimJoined
import GoSem.ClaimMapViews
import Derived.JoinedTies
import Derived.KernelRfl
namespace Go.Proofs.YtnhmogmpbgadiaaDoor
/- THE CELL 'sum', in the pinned program and in every row, IS THE sha256 OF THE DUMP (.gsa) THAT YtnhmogmpbgadiaaDoorProg.lean LOADS. Nothing in Lean hashes anything: it is a label: what it is worth is what the hold of that sum in a sandbox is worth. -/
noncomputable def Tryd.pinned : Pinned := { name := "ytnhmogmpbgadiaadoor", sum := "fbe298d7d5e93e5f516c7f3c8ae37893a8b37e1ea4d9358451852203aa389f11", checked := Tryd.checked }
namespace Rows
def none {H : Type} : Left H := { results := [], args := [] }

/- WHAT THE LISTED PACKAGE-LEVEL VARIABLES READ AS WHEN THE CALL BEGINS. Each datum BY PROGRAM (the guide's laid-datum.mjs) off the statement by which the dump's own 'gosem.cut.vars' lays the variable. In a bare row this is a premise. The card (YtnhmogmpbgadiaaDoorCards.lean) ties it to the program's text. -/
def laid_lfcheck_lfcheckmade_names {H : Type} : DataW H := .slice [.lit (.string [120]), .lit (.string [121]), .lit (.string [78]), .lit (.string [102]), .lit (.string [95]), .lit (.string [])] []

/-- 'lfchecklaw22.StrictOccurs': WHATEVER THE INPUT: true; the input reads as it did. -/
def strictOccursSpec : ChangeSpec := { name := "strictOccurs", fn := fun _ => fun
  | [d] => { results := [.lit (.bool true)], args := [d] }
  | _ => none }
def strictOccursRow : OpenClaim := { program := "ytnhmogmpbgadiaadoor", sum := "fbe298d7d5e93e5f516c7f3c8ae37893a8b37e1ea4d9358451852203aa389f11", func := "lfcheck/lfchecklaw22.StrictOccurs", spec := "strictOccurs", inPlace := ["internal/bytealg.IndexByteString"], unfollowed := true, recurses := true, named := ["lfcheck/lfcheckmade.names"], apart := false, laid := [("lfcheck/lfcheckmade.names", laid_lfcheck_lfcheckmade_names)] }
def StrictOccursSaid : Prop := strictOccursRow.holds Tryd.pinned (OpenSpec.ofChange strictOccursSpec)

/-- ITS FALSE NEIGHBOUR: 'it returns false'. Refute it at one input. -/
def strictOccursWrong : ChangeSpec := { name := "strictOccurs", fn := fun _ => fun
  | [d] => { results := [.lit (.bool false)], args := [d] }
  | _ => none }
def StrictOccursWrongFalsely : Prop := strictOccursRow.holds Tryd.pinned (OpenSpec.ofChange strictOccursWrong)

/-- 'lfchecklaw22.StrictPatterns': WHATEVER THE INPUT: true; the input reads as it did. -/
def strictPatternsSpec : ChangeSpec := { name := "strictPatterns", fn := fun _ => fun
  | [d1, d2] => { results := [.lit (.bool true)], args := [d1, d2] }
  | _ => none }
def strictPatternsRow : OpenClaim := { program := "ytnhmogmpbgadiaadoor", sum := "fbe298d7d5e93e5f516c7f3c8ae37893a8b37e1ea4d9358451852203aa389f11", func := "lfcheck/lfchecklaw22.StrictPatterns", spec := "strictPatterns", inPlace := ["internal/bytealg.IndexByteString"], unfollowed := true, recurses := true, named := ["lfcheck/lfcheckmade.names"], apart := false, laid := [("lfcheck/lfcheckmade.names", laid_lfcheck_lfcheckmade_names)] }
def StrictPatternsSaid : Prop := strictPatternsRow.holds Tryd.pinned (OpenSpec.ofChange strictPatternsSpec)

/-- ITS FALSE NEIGHBOUR: 'it returns false'. Refute it at one input. -/
def strictPatternsWrong : ChangeSpec := { name := "strictPatterns", fn := fun _ => fun
  | [d1, d2] => { results := [.lit (.bool false)], args := [d1, d2] }
  | _ => none }
def StrictPatternsWrongFalsely : Prop := strictPatternsRow.holds Tryd.pinned (OpenSpec.ofChange strictPatternsWrong)

/-- 'lfchecklaw22.StrictImplies': WHATEVER THE INPUT: true; the input reads as it did. -/
def strictImpliesSpec : ChangeSpec := { name := "strictImplies", fn := fun _ => fun
  | [d] => { results := [.lit (.bool true)], args := [d] }
  | _ => none }
def strictImpliesRow : OpenClaim := { program := "ytnhmogmpbgadiaadoor", sum := "fbe298d7d5e93e5f516c7f3c8ae37893a8b37e1ea4d9358451852203aa389f11", func := "lfcheck/lfchecklaw22.StrictImplies", spec := "strictImplies", inPlace := ["internal/bytealg.IndexByteString"], unfollowed := true, recurses := true, named := ["lfcheck/lfcheckmade.names"], apart := false, laid := [("lfcheck/lfcheckmade.names", laid_lfcheck_lfcheckmade_names)] }
def StrictImpliesSaid : Prop := strictImpliesRow.holds Tryd.pinned (OpenSpec.ofChange strictImpliesSpec)

/-- ITS FALSE NEIGHBOUR: 'it returns false'. Refute it at one input. -/
def strictImpliesWrong : ChangeSpec := { name := "strictImplies", fn := fun _ => fun
  | [d] => { results := [.lit (.bool false)], args := [d] }
  | _ => none }
def StrictImpliesWrongFalsely : Prop := strictImpliesRow.holds Tryd.pinned (OpenSpec.ofChange strictImpliesWrong)

/-- 'lfchecklaw22.StrictParts': WHATEVER THE INPUT: true; the input reads as it did. -/
def strictPartsSpec : ChangeSpec := { name := "strictParts", fn := fun _ => fun
  | [d] => { results := [.lit (.bool true)], args := [d] }
  | _ => none }
def strictPartsRow : OpenClaim := { program := "ytnhmogmpbgadiaadoor", sum := "fbe298d7d5e93e5f516c7f3c8ae37893a8b37e1ea4d9358451852203aa389f11", func := "lfcheck/lfchecklaw22.StrictParts", spec := "strictParts", inPlace := ["internal/bytealg.IndexByteString"], unfollowed := true, recurses := true, named := ["lfcheck/lfcheckmade.names"], apart := false, laid := [("lfcheck/lfcheckmade.names", laid_lfcheck_lfcheckmade_names)] }
def StrictPartsSaid : Prop := strictPartsRow.holds Tryd.pinned (OpenSpec.ofChange strictPartsSpec)

/-- ITS FALSE NEIGHBOUR: 'it returns false'. Refute it at one input. -/
def strictPartsWrong : ChangeSpec := { name := "strictParts", fn := fun _ => fun
  | [d] => { results := [.lit (.bool false)], args := [d] }
  | _ => none }
def StrictPartsWrongFalsely : Prop := strictPartsRow.holds Tryd.pinned (OpenSpec.ofChange strictPartsWrong)

/-- 'lfchecklaw07.SimpleForms': WHATEVER THE INPUT: true; the input reads as it did. -/
def simpleFormsSpec : ChangeSpec := { name := "simpleForms", fn := fun _ => fun
  | [d1, d2, d3, d4] => { results := [.lit (.bool true)], args := [d1, d2, d3, d4] }
  | _ => none }
def simpleFormsRow : OpenClaim := { program := "ytnhmogmpbgadiaadoor", sum := "fbe298d7d5e93e5f516c7f3c8ae37893a8b37e1ea4d9358451852203aa389f11", func := "lfcheck/lfchecklaw07.SimpleForms", spec := "simpleForms", inPlace := ["internal/bytealg.IndexByteString"], unfollowed := true, recurses := true, named := ["lfcheck/lfcheckmade.names"], apart := false, laid := [("lfcheck/lfcheckmade.names", laid_lfcheck_lfcheckmade_names)] }
def SimpleFormsSaid : Prop := simpleFormsRow.holds Tryd.pinned (OpenSpec.ofChange simpleFormsSpec)

/-- ITS FALSE NEIGHBOUR: 'it returns false'. Refute it at one input. -/
def simpleFormsWrong : ChangeSpec := { name := "simpleForms", fn := fun _ => fun
  | [d1, d2, d3, d4] => { results := [.lit (.bool false)], args := [d1, d2, d3, d4] }
  | _ => none }
def SimpleFormsWrongFalsely : Prop := simpleFormsRow.holds Tryd.pinned (OpenSpec.ofChange simpleFormsWrong)

/-- 'lfchecklaw07.SimpleEta': WHATEVER THE INPUT: true; the input reads as it did. -/
def simpleEtaSpec : ChangeSpec := { name := "simpleEta", fn := fun _ => fun
  | [d1, d2, d3, d4] => { results := [.lit (.bool true)], args := [d1, d2, d3, d4] }
  | _ => none }
def simpleEtaRow : OpenClaim := { program := "ytnhmogmpbgadiaadoor", sum := "fbe298d7d5e93e5f516c7f3c8ae37893a8b37e1ea4d9358451852203aa389f11", func := "lfcheck/lfchecklaw07.SimpleEta", spec := "simpleEta", inPlace := ["internal/bytealg.IndexByteString"], unfollowed := true, recurses := true, named := ["lfcheck/lfcheckmade.names"], apart := false, laid := [("lfcheck/lfcheckmade.names", laid_lfcheck_lfcheckmade_names)] }
def SimpleEtaSaid : Prop := simpleEtaRow.holds Tryd.pinned (OpenSpec.ofChange simpleEtaSpec)

/-- ITS FALSE NEIGHBOUR: 'it returns false'. Refute it at one input. -/
def simpleEtaWrong : ChangeSpec := { name := "simpleEta", fn := fun _ => fun
  | [d1, d2, d3, d4] => { results := [.lit (.bool false)], args := [d1, d2, d3, d4] }
  | _ => none }
def SimpleEtaWrongFalsely : Prop := simpleEtaRow.holds Tryd.pinned (OpenSpec.ofChange simpleEtaWrong)

/-- 'lfchecklaw07.SimpleTerms': WHATEVER THE INPUT: true; the input reads as it did. -/
def simpleTermsSpec : ChangeSpec := { name := "simpleTerms", fn := fun _ => fun
  | [d1, d2, d3] => { results := [.lit (.bool true)], args := [d1, d2, d3] }
  | _ => none }
def simpleTermsRow : OpenClaim := { program := "ytnhmogmpbgadiaadoor", sum := "fbe298d7d5e93e5f516c7f3c8ae37893a8b37e1ea4d9358451852203aa389f11", func := "lfcheck/lfchecklaw07.SimpleTerms", spec := "simpleTerms", inPlace := ["internal/bytealg.IndexByteString"], unfollowed := true, recurses := true, named := ["lfcheck/lfcheckmade.names"], apart := false, laid := [("lfcheck/lfcheckmade.names", laid_lfcheck_lfcheckmade_names)] }
def SimpleTermsSaid : Prop := simpleTermsRow.holds Tryd.pinned (OpenSpec.ofChange simpleTermsSpec)

/-- ITS FALSE NEIGHBOUR: 'it returns false'. Refute it at one input. -/
def simpleTermsWrong : ChangeSpec := { name := "simpleTerms", fn := fun _ => fun
  | [d1, d2, d3] => { results := [.lit (.bool false)], args := [d1, d2, d3] }
  | _ => none }
def SimpleTermsWrongFalsely : Prop := simpleTermsRow.holds Tryd.pinned (OpenSpec.ofChange simpleTermsWrong)

/-- 'lfchecklaw08.SubstMany': WHATEVER THE INPUT: true; the input reads as it did. -/
def substManySpec : ChangeSpec := { name := "substMany", fn := fun _ => fun
  | [d1, d2] => { results := [.lit (.bool true)], args := [d1, d2] }
  | _ => none }
def substManyRow : OpenClaim := { program := "ytnhmogmpbgadiaadoor", sum := "fbe298d7d5e93e5f516c7f3c8ae37893a8b37e1ea4d9358451852203aa389f11", func := "lfcheck/lfchecklaw08.SubstMany", spec := "substMany", inPlace := ["internal/bytealg.IndexByteString"], unfollowed := true, recurses := true, named := ["lfcheck/lfcheckmade.names"], apart := false, laid := [("lfcheck/lfcheckmade.names", laid_lfcheck_lfcheckmade_names)] }
def SubstManySaid : Prop := substManyRow.holds Tryd.pinned (OpenSpec.ofChange substManySpec)

/-- ITS FALSE NEIGHBOUR: 'it returns false'. Refute it at one input. -/
def substManyWrong : ChangeSpec := { name := "substMany", fn := fun _ => fun
  | [d1, d2] => { results := [.lit (.bool false)], args := [d1, d2] }
  | _ => none }
def SubstManyWrongFalsely : Prop := substManyRow.holds Tryd.pinned (OpenSpec.ofChange substManyWrong)

/- THE SECOND FORM. 'bulk': how many values and letters a reading holds, each counted each time it is reached (what is shared counts as often as it is met; a slice's spare places count too). A statement '..UptoSaid' is the law's where the arguments, and the package variables that the reading takes, are together of bulk at most 1048576: NARROWER than '..Said'. Prove '..Said' where nothing that the law and all that it calls make is longer than what came in: it says more and counts as full. Else prove '..UptoSaid'. A law counts once. -/
mutual
def uptoBulk {H : Type} : DataW H → Nat
  | .lit (.string bytes) => bytes.length + 1
  | .lit _ => 1
  | .nil => 1
  | .ptr d => uptoBulk d + 1
  | .slice elems spare => uptoBulkAll elems + uptoBulkAll spare + 1
  | .agg parts => uptoBulkAll parts + 1
  | .iface _ d => uptoBulk d + 1
  | .map entries => uptoBulkEntries entries + 1
  | .held _ => 1
def uptoBulkAll {H : Type} : List (DataW H) → Nat
  | [] => 0
  | d :: r => uptoBulk d + uptoBulkAll r
def uptoBulkEntries {H : Type} : List (Lit × DataW H) → Nat
  | [] => 0
  | x :: r => uptoBulkEntry x + uptoBulkEntries r
def uptoBulkEntry {H : Type} : Lit × DataW H → Nat
  | (.string bytes, d) => bytes.length + uptoBulk d + 1
  | (_, d) => uptoBulk d + 1
 end
def uptoSmall : (H : Type) → List (DataW H) → Bool := fun _ ds => decide (uptoBulkAll ds ≤ 1048576)
def OpenSpec.upto (s : _root_.Go.ChangeSpec) : _root_.Go.OpenSpec := { _root_.Go.OpenSpec.ofChange s with cond := some uptoSmall }

/-- 'lfchecklaw22.StrictOccurs', WHERE WHAT IT READS IS OF BULK AT MOST 1048576: true; the input reads as it did. -/
def strictOccursUptoRow : OpenClaim := { program := "ytnhmogmpbgadiaadoor", sum := "fbe298d7d5e93e5f516c7f3c8ae37893a8b37e1ea4d9358451852203aa389f11", func := "lfcheck/lfchecklaw22.StrictOccurs", spec := "strictOccurs", inPlace := ["internal/bytealg.IndexByteString"], unfollowed := true, recurses := true, named := ["lfcheck/lfcheckmade.names"], apart := false, laid := [("lfcheck/lfcheckmade.names", laid_lfcheck_lfcheckmade_names)], narrowed := true }
def StrictOccursUptoSaid : Prop := strictOccursUptoRow.holds Tryd.pinned (OpenSpec.upto strictOccursSpec)

/-- 'lfchecklaw22.StrictPatterns', WHERE WHAT IT READS IS OF BULK AT MOST 1048576: true; the input reads as it did. -/
def strictPatternsUptoRow : OpenClaim := { program := "ytnhmogmpbgadiaadoor", sum := "fbe298d7d5e93e5f516c7f3c8ae37893a8b37e1ea4d9358451852203aa389f11", func := "lfcheck/lfchecklaw22.StrictPatterns", spec := "strictPatterns", inPlace := ["internal/bytealg.IndexByteString"], unfollowed := true, recurses := true, named := ["lfcheck/lfcheckmade.names"], apart := false, laid := [("lfcheck/lfcheckmade.names", laid_lfcheck_lfcheckmade_names)], narrowed := true }
def StrictPatternsUptoSaid : Prop := strictPatternsUptoRow.holds Tryd.pinned (OpenSpec.upto strictPatternsSpec)

/-- 'lfchecklaw22.StrictImplies', WHERE WHAT IT READS IS OF BULK AT MOST 1048576: true; the input reads as it did. -/
def strictImpliesUptoRow : OpenClaim := { program := "ytnhmogmpbgadiaadoor", sum := "fbe298d7d5e93e5f516c7f3c8ae37893a8b37e1ea4d9358451852203aa389f11", func := "lfcheck/lfchecklaw22.StrictImplies", spec := "strictImplies", inPlace := ["internal/bytealg.IndexByteString"], unfollowed := true, recurses := true, named := ["lfcheck/lfcheckmade.names"], apart := false, laid := [("lfcheck/lfcheckmade.names", laid_lfcheck_lfcheckmade_names)], narrowed := true }
def StrictImpliesUptoSaid : Prop := strictImpliesUptoRow.holds Tryd.pinned (OpenSpec.upto strictImpliesSpec)

/-- 'lfchecklaw22.StrictParts', WHERE WHAT IT READS IS OF BULK AT MOST 1048576: true; the input reads as it did. -/
def strictPartsUptoRow : OpenClaim := { program := "ytnhmogmpbgadiaadoor", sum := "fbe298d7d5e93e5f516c7f3c8ae37893a8b37e1ea4d9358451852203aa389f11", func := "lfcheck/lfchecklaw22.StrictParts", spec := "strictParts", inPlace := ["internal/bytealg.IndexByteString"], unfollowed := true, recurses := true, named := ["lfcheck/lfcheckmade.names"], apart := false, laid := [("lfcheck/lfcheckmade.names", laid_lfcheck_lfcheckmade_names)], narrowed := true }
def StrictPartsUptoSaid : Prop := strictPartsUptoRow.holds Tryd.pinned (OpenSpec.upto strictPartsSpec)

/-- 'lfchecklaw07.SimpleForms', WHERE WHAT IT READS IS OF BULK AT MOST 1048576: true; the input reads as it did. -/
def simpleFormsUptoRow : OpenClaim := { program := "ytnhmogmpbgadiaadoor", sum := "fbe298d7d5e93e5f516c7f3c8ae37893a8b37e1ea4d9358451852203aa389f11", func := "lfcheck/lfchecklaw07.SimpleForms", spec := "simpleForms", inPlace := ["internal/bytealg.IndexByteString"], unfollowed := true, recurses := true, named := ["lfcheck/lfcheckmade.names"], apart := false, laid := [("lfcheck/lfcheckmade.names", laid_lfcheck_lfcheckmade_names)], narrowed := true }
def SimpleFormsUptoSaid : Prop := simpleFormsUptoRow.holds Tryd.pinned (OpenSpec.upto simpleFormsSpec)

/-- 'lfchecklaw07.SimpleEta', WHERE WHAT IT READS IS OF BULK AT MOST 1048576: true; the input reads as it did. -/
def simpleEtaUptoRow : OpenClaim := { program := "ytnhmogmpbgadiaadoor", sum := "fbe298d7d5e93e5f516c7f3c8ae37893a8b37e1ea4d9358451852203aa389f11", func := "lfcheck/lfchecklaw07.SimpleEta", spec := "simpleEta", inPlace := ["internal/bytealg.IndexByteString"], unfollowed := true, recurses := true, named := ["lfcheck/lfcheckmade.names"], apart := false, laid := [("lfcheck/lfcheckmade.names", laid_lfcheck_lfcheckmade_names)], narrowed := true }
def SimpleEtaUptoSaid : Prop := simpleEtaUptoRow.holds Tryd.pinned (OpenSpec.upto simpleEtaSpec)

/-- 'lfchecklaw07.SimpleTerms', WHERE WHAT IT READS IS OF BULK AT MOST 1048576: true; the input reads as it did. -/
def simpleTermsUptoRow : OpenClaim := { program := "ytnhmogmpbgadiaadoor", sum := "fbe298d7d5e93e5f516c7f3c8ae37893a8b37e1ea4d9358451852203aa389f11", func := "lfcheck/lfchecklaw07.SimpleTerms", spec := "simpleTerms", inPlace := ["internal/bytealg.IndexByteString"], unfollowed := true, recurses := true, named := ["lfcheck/lfcheckmade.names"], apart := false, laid := [("lfcheck/lfcheckmade.names", laid_lfcheck_lfcheckmade_names)], narrowed := true }
def SimpleTermsUptoSaid : Prop := simpleTermsUptoRow.holds Tryd.pinned (OpenSpec.upto simpleTermsSpec)

/-- 'lfchecklaw08.SubstMany', WHERE WHAT IT READS IS OF BULK AT MOST 1048576: true; the input reads as it did. -/
def substManyUptoRow : OpenClaim := { program := "ytnhmogmpbgadiaadoor", sum := "fbe298d7d5e93e5f516c7f3c8ae37893a8b37e1ea4d9358451852203aa389f11", func := "lfcheck/lfchecklaw08.SubstMany", spec := "substMany", inPlace := ["internal/bytealg.IndexByteString"], unfollowed := true, recurses := true, named := ["lfcheck/lfcheckmade.names"], apart := false, laid := [("lfcheck/lfcheckmade.names", laid_lfcheck_lfcheckmade_names)], narrowed := true }
def SubstManyUptoSaid : Prop := substManyUptoRow.holds Tryd.pinned (OpenSpec.upto substManySpec)

end Rows
end Go.Proofs.YtnhmogmpbgadiaaDoor
