/-
  NARROWER THAN 'FOR EVERY INPUT', by the rows' own cells (each row's printed sentence says how): MetaExpands: laid · AbstractPlays: laid · AbstractRefills: laid · AbstractCounts: laid · PatternVariables: laid · PatternInverts: laid · PatternBack: laid.
  DERIVED. THE GIVEN ROWS OF THIS SEAT. 7 by the template 'for every input the law returns true; each argument reads behind the call as it read before'; 0 by the template 'total and deterministic' (their statements: YthgmimncdjhgnaaGreatDoorTotals.lean).
  GIVEN WITH THE SEED: the statements are not yours to turn. If you find one false, say at which input.
  Laid BY PROGRAM, IN A SANDBOX (cutbox-rows.mjs): the forced cells as the released guide's own fill.sh prints them over the translation e5c9ce849015787c… (all of the seat's roots in one cut). By AI agents, Wed Nov 11 2026. No macro, syntax, notation, axiom, sorry.
-/
import Derived.Test.YthgmimncdjhgnaaGreatDoorChecked
import GoSem.Claim
import GoSem.ClaimJoined
import GoSem.ClaimMapViews
import Derived.JoinedTies
import Derived.KernelRfl
namespace Go.Proofs.YthgmimncdjhgnaaGreatDoor
/- THE CELL 'sum', in the pinned program and in every row, IS THE sha256 OF THE DUMP (.gsa) THAT YthgmimncdjhgnaaGreatDoorProg.lean LOADS. Nothing in Lean hashes anything: it is a label: what it is worth is what the hold of that sum in a sandbox is worth. -/
noncomputable def Tryz.pinned : Pinned := { name := "ythgmimncdjhgnaagreatdoor", sum := "e5c9ce849015787c5e8c7cdf5f1800efe4641cbb463d77c3d83f5355032dde0a", checked := Tryz.checked }
namespace Rows
def none {H : Type} : Left H := { results := [], args := [] }

/- WHAT THE LISTED PACKAGE-LEVEL VARIABLES READ AS WHEN THE CALL BEGINS. Each datum BY PROGRAM (the guide's laid-datum.mjs) off the statement by which the dump's own 'gosem.cut.vars' lays the variable. In a bare row this is a premise. The card (YthgmimncdjhgnaaGreatDoorCards.lean) ties it to the program's text. -/
def laid_lfcheck_lfcheckmade_names {H : Type} : DataW H := .slice [.lit (.string [120]), .lit (.string [121]), .lit (.string [78]), .lit (.string [102]), .lit (.string [95]), .lit (.string [])] []

/-- 'lfchecklaw13.MetaExpands': WHATEVER THE INPUT: true; the input reads as it did. -/
def metaExpandsSpec : ChangeSpec := { name := "metaExpands", fn := fun _ => fun
  | [d1, d2] => { results := [.lit (.bool true)], args := [d1, d2] }
  | _ => none }
def metaExpandsRow : OpenClaim := { program := "ythgmimncdjhgnaagreatdoor", sum := "e5c9ce849015787c5e8c7cdf5f1800efe4641cbb463d77c3d83f5355032dde0a", func := "lfcheck/lfchecklaw13.MetaExpands", spec := "metaExpands", inPlace := ["internal/bytealg.IndexByteString"], unfollowed := true, recurses := true, named := ["lfcheck/lfcheckmade.names"], apart := false, laid := [("lfcheck/lfcheckmade.names", laid_lfcheck_lfcheckmade_names)] }
def MetaExpandsSaid : Prop := metaExpandsRow.holds Tryz.pinned (OpenSpec.ofChange metaExpandsSpec)

/-- ITS FALSE NEIGHBOUR: 'it returns false'. Refute it at one input. -/
def metaExpandsWrong : ChangeSpec := { name := "metaExpands", fn := fun _ => fun
  | [d1, d2] => { results := [.lit (.bool false)], args := [d1, d2] }
  | _ => none }
def MetaExpandsWrongFalsely : Prop := metaExpandsRow.holds Tryz.pinned (OpenSpec.ofChange metaExpandsWrong)

/-- 'lfchecklaw19.AbstractPlays': WHATEVER THE INPUT: true; the input reads as it did. -/
def abstractPlaysSpec : ChangeSpec := { name := "abstractPlays", fn := fun _ => fun
  | [d1, d2, d3] => { results := [.lit (.bool true)], args := [d1, d2, d3] }
  | _ => none }
def abstractPlaysRow : OpenClaim := { program := "ythgmimncdjhgnaagreatdoor", sum := "e5c9ce849015787c5e8c7cdf5f1800efe4641cbb463d77c3d83f5355032dde0a", func := "lfcheck/lfchecklaw19.AbstractPlays", spec := "abstractPlays", inPlace := ["internal/bytealg.IndexByteString"], unfollowed := true, recurses := true, named := ["lfcheck/lfcheckmade.names"], apart := false, laid := [("lfcheck/lfcheckmade.names", laid_lfcheck_lfcheckmade_names)] }
def AbstractPlaysSaid : Prop := abstractPlaysRow.holds Tryz.pinned (OpenSpec.ofChange abstractPlaysSpec)

/-- ITS FALSE NEIGHBOUR: 'it returns false'. Refute it at one input. -/
def abstractPlaysWrong : ChangeSpec := { name := "abstractPlays", fn := fun _ => fun
  | [d1, d2, d3] => { results := [.lit (.bool false)], args := [d1, d2, d3] }
  | _ => none }
def AbstractPlaysWrongFalsely : Prop := abstractPlaysRow.holds Tryz.pinned (OpenSpec.ofChange abstractPlaysWrong)

/-- 'lfchecklaw19.AbstractRefills': WHATEVER THE INPUT: true; the input reads as it did. -/
def abstractRefillsSpec : ChangeSpec := { name := "abstractRefills", fn := fun _ => fun
  | [d1, d2, d3] => { results := [.lit (.bool true)], args := [d1, d2, d3] }
  | _ => none }
def abstractRefillsRow : OpenClaim := { program := "ythgmimncdjhgnaagreatdoor", sum := "e5c9ce849015787c5e8c7cdf5f1800efe4641cbb463d77c3d83f5355032dde0a", func := "lfcheck/lfchecklaw19.AbstractRefills", spec := "abstractRefills", inPlace := ["internal/bytealg.IndexByteString"], unfollowed := true, recurses := true, named := ["lfcheck/lfcheckmade.names"], apart := false, laid := [("lfcheck/lfcheckmade.names", laid_lfcheck_lfcheckmade_names)] }
def AbstractRefillsSaid : Prop := abstractRefillsRow.holds Tryz.pinned (OpenSpec.ofChange abstractRefillsSpec)

/-- ITS FALSE NEIGHBOUR: 'it returns false'. Refute it at one input. -/
def abstractRefillsWrong : ChangeSpec := { name := "abstractRefills", fn := fun _ => fun
  | [d1, d2, d3] => { results := [.lit (.bool false)], args := [d1, d2, d3] }
  | _ => none }
def AbstractRefillsWrongFalsely : Prop := abstractRefillsRow.holds Tryz.pinned (OpenSpec.ofChange abstractRefillsWrong)

/-- 'lfchecklaw19.AbstractCounts': WHATEVER THE INPUT: true; the input reads as it did. -/
def abstractCountsSpec : ChangeSpec := { name := "abstractCounts", fn := fun _ => fun
  | [d1, d2] => { results := [.lit (.bool true)], args := [d1, d2] }
  | _ => none }
def abstractCountsRow : OpenClaim := { program := "ythgmimncdjhgnaagreatdoor", sum := "e5c9ce849015787c5e8c7cdf5f1800efe4641cbb463d77c3d83f5355032dde0a", func := "lfcheck/lfchecklaw19.AbstractCounts", spec := "abstractCounts", inPlace := ["internal/bytealg.IndexByteString"], unfollowed := true, recurses := true, named := ["lfcheck/lfcheckmade.names"], apart := false, laid := [("lfcheck/lfcheckmade.names", laid_lfcheck_lfcheckmade_names)] }
def AbstractCountsSaid : Prop := abstractCountsRow.holds Tryz.pinned (OpenSpec.ofChange abstractCountsSpec)

/-- ITS FALSE NEIGHBOUR: 'it returns false'. Refute it at one input. -/
def abstractCountsWrong : ChangeSpec := { name := "abstractCounts", fn := fun _ => fun
  | [d1, d2] => { results := [.lit (.bool false)], args := [d1, d2] }
  | _ => none }
def AbstractCountsWrongFalsely : Prop := abstractCountsRow.holds Tryz.pinned (OpenSpec.ofChange abstractCountsWrong)

/-- 'lfchecklaw14.PatternVariables': WHATEVER THE INPUT: true; the input reads as it did. -/
def patternVariablesSpec : ChangeSpec := { name := "patternVariables", fn := fun _ => fun
  | [d1, d2] => { results := [.lit (.bool true)], args := [d1, d2] }
  | _ => none }
def patternVariablesRow : OpenClaim := { program := "ythgmimncdjhgnaagreatdoor", sum := "e5c9ce849015787c5e8c7cdf5f1800efe4641cbb463d77c3d83f5355032dde0a", func := "lfcheck/lfchecklaw14.PatternVariables", spec := "patternVariables", inPlace := ["internal/bytealg.IndexByteString"], unfollowed := true, recurses := true, named := ["lfcheck/lfcheckmade.names"], apart := false, laid := [("lfcheck/lfcheckmade.names", laid_lfcheck_lfcheckmade_names)] }
def PatternVariablesSaid : Prop := patternVariablesRow.holds Tryz.pinned (OpenSpec.ofChange patternVariablesSpec)

/-- ITS FALSE NEIGHBOUR: 'it returns false'. Refute it at one input. -/
def patternVariablesWrong : ChangeSpec := { name := "patternVariables", fn := fun _ => fun
  | [d1, d2] => { results := [.lit (.bool false)], args := [d1, d2] }
  | _ => none }
def PatternVariablesWrongFalsely : Prop := patternVariablesRow.holds Tryz.pinned (OpenSpec.ofChange patternVariablesWrong)

/-- 'lfchecklaw14.PatternInverts': WHATEVER THE INPUT: true; the input reads as it did. -/
def patternInvertsSpec : ChangeSpec := { name := "patternInverts", fn := fun _ => fun
  | [d1, d2, d3] => { results := [.lit (.bool true)], args := [d1, d2, d3] }
  | _ => none }
def patternInvertsRow : OpenClaim := { program := "ythgmimncdjhgnaagreatdoor", sum := "e5c9ce849015787c5e8c7cdf5f1800efe4641cbb463d77c3d83f5355032dde0a", func := "lfcheck/lfchecklaw14.PatternInverts", spec := "patternInverts", inPlace := ["internal/bytealg.IndexByteString"], unfollowed := true, recurses := true, named := ["lfcheck/lfcheckmade.names"], apart := false, laid := [("lfcheck/lfcheckmade.names", laid_lfcheck_lfcheckmade_names)] }
def PatternInvertsSaid : Prop := patternInvertsRow.holds Tryz.pinned (OpenSpec.ofChange patternInvertsSpec)

/-- ITS FALSE NEIGHBOUR: 'it returns false'. Refute it at one input. -/
def patternInvertsWrong : ChangeSpec := { name := "patternInverts", fn := fun _ => fun
  | [d1, d2, d3] => { results := [.lit (.bool false)], args := [d1, d2, d3] }
  | _ => none }
def PatternInvertsWrongFalsely : Prop := patternInvertsRow.holds Tryz.pinned (OpenSpec.ofChange patternInvertsWrong)

/-- 'lfchecklaw14.PatternBack': WHATEVER THE INPUT: true; the input reads as it did. -/
def patternBackSpec : ChangeSpec := { name := "patternBack", fn := fun _ => fun
  | [d1, d2] => { results := [.lit (.bool true)], args := [d1, d2] }
  | _ => none }
def patternBackRow : OpenClaim := { program := "ythgmimncdjhgnaagreatdoor", sum := "e5c9ce849015787c5e8c7cdf5f1800efe4641cbb463d77c3d83f5355032dde0a", func := "lfcheck/lfchecklaw14.PatternBack", spec := "patternBack", inPlace := ["internal/bytealg.IndexByteString"], unfollowed := true, recurses := true, named := ["lfcheck/lfcheckmade.names"], apart := false, laid := [("lfcheck/lfcheckmade.names", laid_lfcheck_lfcheckmade_names)] }
def PatternBackSaid : Prop := patternBackRow.holds Tryz.pinned (OpenSpec.ofChange patternBackSpec)

/-- ITS FALSE NEIGHBOUR: 'it returns false'. Refute it at one input. -/
def patternBackWrong : ChangeSpec := { name := "patternBack", fn := fun _ => fun
  | [d1, d2] => { results := [.lit (.bool false)], args := [d1, d2] }
  | _ => none }
def PatternBackWrongFalsely : Prop := patternBackRow.holds Tryz.pinned (OpenSpec.ofChange patternBackWrong)

/- THE SECOND FORM. 'bulk': how many values and letters a reading holds, each counted each time it is reached (what is shared counts as often as it is met; a slice's spare places count too). A statement '..UptoSaid' is the law's where the arguments, and the package variables that the reading takes, are together of bulk at most 1048576: NARROWER than '..Said'. Prove '..Said' where nothing that the law and all that it calls make is longer than what came in: it says more and counts as full. Else prove '..UptoSaid'. A law counts once. -/
mutual
def uptoBulk {H : Type} : DataW H → Nat
  | .lit (.string bytes) => bytes.length + 1
  | .lit _ => 1
  | .nil => 1
  | .ptr d => uptoBulk d + 1
  | .slice elems spare => uptoBulkAll elems + uptoBulkAll spare + 1
  | .agg parts => uptoBulkAll parts + 1
  | .iface _ d => uptoBulk d + 1
  | .map entries => uptoBulkEntries entries + 1
  | .held _ => 1
def uptoBulkAll {H : Type} : List (DataW H) → Nat
  | [] => 0
  | d :: r => uptoBulk d + uptoBulkAll r
def uptoBulkEntries {H : Type} : List (Lit × DataW H) → Nat
  | [] => 0
  | x :: r => uptoBulkEntry x + uptoBulkEntries r
def uptoBulkEntry {H : Type} : Lit × DataW H → Nat
  | (.string bytes, d) => bytes.length + uptoBulk d + 1
  | (_, d) => uptoBulk d + 1
 end
def uptoSmall : (H : Type) → List (DataW H) → Bool := fun _ ds => decide (uptoBulkAll ds ≤ 1048576)
def OpenSpec.upto (s : _root_.Go.ChangeSpec) : _root_.Go.OpenSpec := { _root_.Go.OpenSpec.ofChange s with cond := some uptoSmall }

/-- 'lfchecklaw13.MetaExpands', WHERE WHAT IT READS IS OF BULK AT MOST 1048576: true; the input reads as it did. -/
def metaExpandsUptoRow : OpenClaim := { program := "ythgmimncdjhgnaagreatdoor", sum := "e5c9ce849015787c5e8c7cdf5f1800efe4641cbb463d77c3d83f5355032dde0a", func := "lfcheck/lfchecklaw13.MetaExpands", spec := "metaExpands", inPlace := ["internal/bytealg.IndexByteString"], unfollowed := true, recurses := true, named := ["lfcheck/lfcheckmade.names"], apart := false, laid := [("lfcheck/lfcheckmade.names", laid_lfcheck_lfcheckmade_names)], narrowed := true }
def MetaExpandsUptoSaid : Prop := metaExpandsUptoRow.holds Tryz.pinned (OpenSpec.upto metaExpandsSpec)

/-- 'lfchecklaw19.AbstractPlays', WHERE WHAT IT READS IS OF BULK AT MOST 1048576: true; the input reads as it did. -/
def abstractPlaysUptoRow : OpenClaim := { program := "ythgmimncdjhgnaagreatdoor", sum := "e5c9ce849015787c5e8c7cdf5f1800efe4641cbb463d77c3d83f5355032dde0a", func := "lfcheck/lfchecklaw19.AbstractPlays", spec := "abstractPlays", inPlace := ["internal/bytealg.IndexByteString"], unfollowed := true, recurses := true, named := ["lfcheck/lfcheckmade.names"], apart := false, laid := [("lfcheck/lfcheckmade.names", laid_lfcheck_lfcheckmade_names)], narrowed := true }
def AbstractPlaysUptoSaid : Prop := abstractPlaysUptoRow.holds Tryz.pinned (OpenSpec.upto abstractPlaysSpec)

/-- 'lfchecklaw19.AbstractRefills', WHERE WHAT IT READS IS OF BULK AT MOST 1048576: true; the input reads as it did. -/
def abstractRefillsUptoRow : OpenClaim := { program := "ythgmimncdjhgnaagreatdoor", sum := "e5c9ce849015787c5e8c7cdf5f1800efe4641cbb463d77c3d83f5355032dde0a", func := "lfcheck/lfchecklaw19.AbstractRefills", spec := "abstractRefills", inPlace := ["internal/bytealg.IndexByteString"], unfollowed := true, recurses := true, named := ["lfcheck/lfcheckmade.names"], apart := false, laid := [("lfcheck/lfcheckmade.names", laid_lfcheck_lfcheckmade_names)], narrowed := true }
def AbstractRefillsUptoSaid : Prop := abstractRefillsUptoRow.holds Tryz.pinned (OpenSpec.upto abstractRefillsSpec)

/-- 'lfchecklaw19.AbstractCounts', WHERE WHAT IT READS IS OF BULK AT MOST 1048576: true; the input reads as it did. -/
def abstractCountsUptoRow : OpenClaim := { program := "ythgmimncdjhgnaagreatdoor", sum := "e5c9ce849015787c5e8c7cdf5f1800efe4641cbb463d77c3d83f5355032dde0a", func := "lfcheck/lfchecklaw19.AbstractCounts", spec := "abstractCounts", inPlace := ["internal/bytealg.IndexByteString"], unfollowed := true, recurses := true, named := ["lfcheck/lfcheckmade.names"], apart := false, laid := [("lfcheck/lfcheckmade.names", laid_lfcheck_lfcheckmade_names)], narrowed := true }
def AbstractCountsUptoSaid : Prop := abstractCountsUptoRow.holds Tryz.pinned (OpenSpec.upto abstractCountsSpec)

/-- 'lfchecklaw14.PatternVariables', WHERE WHAT IT READS IS OF BULK AT MOST 1048576: true; the input reads as it did. -/
def patternVariablesUptoRow : OpenClaim := { program := "ythgmimncdjhgnaagreatdoor", sum := "e5c9ce849015787c5e8c7cdf5f1800efe4641cbb463d77c3d83f5355032dde0a", func := "lfcheck/lfchecklaw14.PatternVariables", spec := "patternVariables", inPlace := ["internal/bytealg.IndexByteString"], unfollowed := true, recurses := true, named := ["lfcheck/lfcheckmade.names"], apart := false, laid := [("lfcheck/lfcheckmade.names", laid_lfcheck_lfcheckmade_names)], narrowed := true }
def PatternVariablesUptoSaid : Prop := patternVariablesUptoRow.holds Tryz.pinned (OpenSpec.upto patternVariablesSpec)

/-- 'lfchecklaw14.PatternInverts', WHERE WHAT IT READS IS OF BULK AT MOST 1048576: true; the input reads as it did. -/
def patternInvertsUptoRow : OpenClaim := { program := "ythgmimncdjhgnaagreatdoor", sum := "e5c9ce849015787c5e8c7cdf5f1800efe4641cbb463d77c3d83f5355032dde0a", func := "lfcheck/lfchecklaw14.PatternInverts", spec := "patternInverts", inPlace := ["internal/bytealg.IndexByteString"], unfollowed := true, recurses := true, named := ["lfcheck/lfcheckmade.names"], apart := false, laid := [("lfcheck/lfcheckmade.names", laid_lfcheck_lfcheckmade_names)], narrowed := true }
def PatternInvertsUptoSaid : Prop := patternInvertsUptoRow.holds Tryz.pinned (OpenSpec.upto patternInvertsSpec)

/-- 'lfchecklaw14.PatternBack', WHERE WHAT IT READS IS OF BULK AT MOST 1048576: true; the input reads as it did. -/
def patternBackUptoRow : OpenClaim := { program := "ythgmimncdjhgnaagreatdoor", sum := "e5c9ce849015787c5e8c7cdf5f1800efe4641cbb463d77c3d83f5355032dde0a", func := "lfcheck/lfchecklaw14.PatternBack", spec := "patternBack", inPlace := ["internal/bytealg.IndexByteString"], unfollowed := true, recurses := true, named := ["lfcheck/lfcheckmade.names"], apart := false, laid := [("lfcheck/lfcheckmade.names", laid_lfcheck_lfcheckmade_names)], narrowed := true }
def PatternBackUptoSaid : Prop := patternBackUptoRow.holds Tryz.pinned (OpenSpec.upto patternBackSpec)

end Rows
end Go.Proofs.YthgmimncdjhgnaaGreatDoor
