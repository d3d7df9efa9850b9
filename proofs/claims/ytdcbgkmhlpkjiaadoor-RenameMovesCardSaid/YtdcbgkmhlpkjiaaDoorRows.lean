/-
  NARROWER THAN 'FOR EVERY INPUT', by the rows' own cells (each row's printed sentence says how): TermForms: laid · TermSame: laid · TermBinds: laid · TermSorts: laid · TermMetas: laid · StrictOccurs: laid · StrictPatterns: laid · StrictImplies: laid · StrictParts: laid · RenameMoves: laid · RenameMaps: laid · RenameBack: laid · RenameInverts: laid · RenameComposes: laid.
  DERIVED. THE GIVEN ROWS OF THIS SEAT. 14 by the template 'for every input the law returns true; each argument reads behind the call as it read before'; 0 by the template 'total and deterministic' (their statements: YtdcbgkmhlpkjiaaDoorTotals.lean).
  GIVEN WITH THE SEED: the statements are not yours to turn. If you find one false, say at which input.
  Laid BY PROGRAM, IN A SANDBOX (cutbox-rows.mjs): the forced cells as the released guide's own fill.sh prints them over the translation f37efdd21c8d05b1… (all of the seat's roots in one cut). By AI agents, Wed Nov 11 2026. No macro, syntax, notation, axiom, sorry.
-/
import Derived.Test.YtdcbgkmhlpkjiaaDoorChecked
import GoSem.Claim
import GoSem.ClaimJoined
import GoSem.ClaimMapViews
import Derived.JoinedTies
import Derived.KernelRfl
namespace Go.Proofs.YtdcbgkmhlpkjiaaDoor
/- THE CELL 'sum', in the pinned program and in every row, IS THE sha256 OF THE DUMP (.gsa) THAT YtdcbgkmhlpkjiaaDoorProg.lean LOADS. Nothing in Lean hashes anything: it is a label: what it is worth is what the hold of that sum in a sandbox is worth. -/
noncomputable def Tryd.pinned : Pinned := { name := "ytdcbgkmhlpkjiaadoor", sum := "f37efdd21c8d05b1c0313fee11d331045dd5fbf68c8e6bc7a86a437b26ac1ed7", checked := Tryd.checked }
namespace Rows
def none {H : Type} : Left H := { results := [], args := [] }

/- WHAT THE LISTED PACKAGE-LEVEL VARIABLES READ AS WHEN THE CALL BEGINS. Each datum BY PROGRAM (the guide's laid-datum.mjs) off the statement by which the dump's own 'gosem.cut.vars' lays the variable. In a bare row this is a premise. The card (YtdcbgkmhlpkjiaaDoorCards.lean) ties it to the program's text. -/
def laid_lfcheck_lfcheckmade_names {H : Type} : DataW H := .slice [.lit (.string [120]), .lit (.string [121]), .lit (.string [78]), .lit (.string [102]), .lit (.string [95]), .lit (.string [])] []

/-- 'lfchecklaw05.TermForms': WHATEVER THE INPUT: true; the input reads as it did. -/
def termFormsSpec : ChangeSpec := { name := "termForms", fn := fun _ => fun
  | [d1, d2, d3] => { results := [.lit (.bool true)], args := [d1, d2, d3] }
  | _ => none }
def termFormsRow : OpenClaim := { program := "ytdcbgkmhlpkjiaadoor", sum := "f37efdd21c8d05b1c0313fee11d331045dd5fbf68c8e6bc7a86a437b26ac1ed7", func := "lfcheck/lfchecklaw05.TermForms", spec := "termForms", inPlace := ["internal/bytealg.IndexByteString"], unfollowed := true, recurses := true, named := ["lfcheck/lfcheckmade.names"], apart := false, laid := [("lfcheck/lfcheckmade.names", laid_lfcheck_lfcheckmade_names)] }
def TermFormsSaid : Prop := termFormsRow.holds Tryd.pinned (OpenSpec.ofChange termFormsSpec)

/-- ITS FALSE NEIGHBOUR: 'it returns false'. Refute it at one input. -/
def termFormsWrong : ChangeSpec := { name := "termForms", fn := fun _ => fun
  | [d1, d2, d3] => { results := [.lit (.bool false)], args := [d1, d2, d3] }
  | _ => none }
def TermFormsWrongFalsely : Prop := termFormsRow.holds Tryd.pinned (OpenSpec.ofChange termFormsWrong)

/-- 'lfchecklaw05.TermSame': WHATEVER THE INPUT: true; the input reads as it did. -/
def termSameSpec : ChangeSpec := { name := "termSame", fn := fun _ => fun
  | [d1, d2, d3, d4] => { results := [.lit (.bool true)], args := [d1, d2, d3, d4] }
  | _ => none }
def termSameRow : OpenClaim := { program := "ytdcbgkmhlpkjiaadoor", sum := "f37efdd21c8d05b1c0313fee11d331045dd5fbf68c8e6bc7a86a437b26ac1ed7", func := "lfcheck/lfchecklaw05.TermSame", spec := "termSame", inPlace := ["internal/bytealg.IndexByteString"], unfollowed := true, recurses := true, named := ["lfcheck/lfcheckmade.names"], apart := false, laid := [("lfcheck/lfcheckmade.names", laid_lfcheck_lfcheckmade_names)] }
def TermSameSaid : Prop := termSameRow.holds Tryd.pinned (OpenSpec.ofChange termSameSpec)

/-- ITS FALSE NEIGHBOUR: 'it returns false'. Refute it at one input. -/
def termSameWrong : ChangeSpec := { name := "termSame", fn := fun _ => fun
  | [d1, d2, d3, d4] => { results := [.lit (.bool false)], args := [d1, d2, d3, d4] }
  | _ => none }
def TermSameWrongFalsely : Prop := termSameRow.holds Tryd.pinned (OpenSpec.ofChange termSameWrong)

/-- 'lfchecklaw05.TermBinds': WHATEVER THE INPUT: true; the input reads as it did. -/
def termBindsSpec : ChangeSpec := { name := "termBinds", fn := fun _ => fun
  | [d] => { results := [.lit (.bool true)], args := [d] }
  | _ => none }
def termBindsRow : OpenClaim := { program := "ytdcbgkmhlpkjiaadoor", sum := "f37efdd21c8d05b1c0313fee11d331045dd5fbf68c8e6bc7a86a437b26ac1ed7", func := "lfcheck/lfchecklaw05.TermBinds", spec := "termBinds", inPlace := ["internal/bytealg.IndexByteString"], unfollowed := true, recurses := true, named := ["lfcheck/lfcheckmade.names"], apart := false, laid := [("lfcheck/lfcheckmade.names", laid_lfcheck_lfcheckmade_names)] }
def TermBindsSaid : Prop := termBindsRow.holds Tryd.pinned (OpenSpec.ofChange termBindsSpec)

/-- ITS FALSE NEIGHBOUR: 'it returns false'. Refute it at one input. -/
def termBindsWrong : ChangeSpec := { name := "termBinds", fn := fun _ => fun
  | [d] => { results := [.lit (.bool false)], args := [d] }
  | _ => none }
def TermBindsWrongFalsely : Prop := termBindsRow.holds Tryd.pinned (OpenSpec.ofChange termBindsWrong)

/-- 'lfchecklaw05.TermSorts': WHATEVER THE INPUT: true; the input reads as it did. -/
def termSortsSpec : ChangeSpec := { name := "termSorts", fn := fun _ => fun
  | [d1, d2] => { results := [.lit (.bool true)], args := [d1, d2] }
  | _ => none }
def termSortsRow : OpenClaim := { program := "ytdcbgkmhlpkjiaadoor", sum := "f37efdd21c8d05b1c0313fee11d331045dd5fbf68c8e6bc7a86a437b26ac1ed7", func := "lfcheck/lfchecklaw05.TermSorts", spec := "termSorts", inPlace := ["internal/bytealg.IndexByteString"], unfollowed := true, recurses := true, named := ["lfcheck/lfcheckmade.names"], apart := false, laid := [("lfcheck/lfcheckmade.names", laid_lfcheck_lfcheckmade_names)] }
def TermSortsSaid : Prop := termSortsRow.holds Tryd.pinned (OpenSpec.ofChange termSortsSpec)

/-- ITS FALSE NEIGHBOUR: 'it returns false'. Refute it at one input. -/
def termSortsWrong : ChangeSpec := { name := "termSorts", fn := fun _ => fun
  | [d1, d2] => { results := [.lit (.bool false)], args := [d1, d2] }
  | _ => none }
def TermSortsWrongFalsely : Prop := termSortsRow.holds Tryd.pinned (OpenSpec.ofChange termSortsWrong)

/-- 'lfchecklaw05.TermMetas': WHATEVER THE INPUT: true; the input reads as it did. -/
def termMetasSpec : ChangeSpec := { name := "termMetas", fn := fun _ => fun
  | [d] => { results := [.lit (.bool true)], args := [d] }
  | _ => none }
def termMetasRow : OpenClaim := { program := "ytdcbgkmhlpkjiaadoor", sum := "f37efdd21c8d05b1c0313fee11d331045dd5fbf68c8e6bc7a86a437b26ac1ed7", func := "lfcheck/lfchecklaw05.TermMetas", spec := "termMetas", inPlace := ["internal/bytealg.IndexByteString"], unfollowed := true, recurses := true, named := ["lfcheck/lfcheckmade.names"], apart := false, laid := [("lfcheck/lfcheckmade.names", laid_lfcheck_lfcheckmade_names)] }
def TermMetasSaid : Prop := termMetasRow.holds Tryd.pinned (OpenSpec.ofChange termMetasSpec)

/-- ITS FALSE NEIGHBOUR: 'it returns false'. Refute it at one input. -/
def termMetasWrong : ChangeSpec := { name := "termMetas", fn := fun _ => fun
  | [d] => { results := [.lit (.bool false)], args := [d] }
  | _ => none }
def TermMetasWrongFalsely : Prop := termMetasRow.holds Tryd.pinned (OpenSpec.ofChange termMetasWrong)

/-- 'lfchecklaw22.StrictOccurs': WHATEVER THE INPUT: true; the input reads as it did. -/
def strictOccursSpec : ChangeSpec := { name := "strictOccurs", fn := fun _ => fun
  | [d] => { results := [.lit (.bool true)], args := [d] }
  | _ => none }
def strictOccursRow : OpenClaim := { program := "ytdcbgkmhlpkjiaadoor", sum := "f37efdd21c8d05b1c0313fee11d331045dd5fbf68c8e6bc7a86a437b26ac1ed7", func := "lfcheck/lfchecklaw22.StrictOccurs", spec := "strictOccurs", inPlace := ["internal/bytealg.IndexByteString"], unfollowed := true, recurses := true, named := ["lfcheck/lfcheckmade.names"], apart := false, laid := [("lfcheck/lfcheckmade.names", laid_lfcheck_lfcheckmade_names)] }
def StrictOccursSaid : Prop := strictOccursRow.holds Tryd.pinned (OpenSpec.ofChange strictOccursSpec)

/-- ITS FALSE NEIGHBOUR: 'it returns false'. Refute it at one input. -/
def strictOccursWrong : ChangeSpec := { name := "strictOccurs", fn := fun _ => fun
  | [d] => { results := [.lit (.bool false)], args := [d] }
  | _ => none }
def StrictOccursWrongFalsely : Prop := strictOccursRow.holds Tryd.pinned (OpenSpec.ofChange strictOccursWrong)

/-- 'lfchecklaw22.StrictPatterns': WHATEVER THE INPUT: true; the input reads as it did. -/
def strictPatternsSpec : ChangeSpec := { name := "strictPatterns", fn := fun _ => fun
  | [d1, d2] => { results := [.lit (.bool true)], args := [d1, d2] }
  | _ => none }
def strictPatternsRow : OpenClaim := { program := "ytdcbgkmhlpkjiaadoor", sum := "f37efdd21c8d05b1c0313fee11d331045dd5fbf68c8e6bc7a86a437b26ac1ed7", func := "lfcheck/lfchecklaw22.StrictPatterns", spec := "strictPatterns", inPlace := ["internal/bytealg.IndexByteString"], unfollowed := true, recurses := true, named := ["lfcheck/lfcheckmade.names"], apart := false, laid := [("lfcheck/lfcheckmade.names", laid_lfcheck_lfcheckmade_names)] }
def StrictPatternsSaid : Prop := strictPatternsRow.holds Tryd.pinned (OpenSpec.ofChange strictPatternsSpec)

/-- ITS FALSE NEIGHBOUR: 'it returns false'. Refute it at one input. -/
def strictPatternsWrong : ChangeSpec := { name := "strictPatterns", fn := fun _ => fun
  | [d1, d2] => { results := [.lit (.bool false)], args := [d1, d2] }
  | _ => none }
def StrictPatternsWrongFalsely : Prop := strictPatternsRow.holds Tryd.pinned (OpenSpec.ofChange strictPatternsWrong)

/-- 'lfchecklaw22.StrictImplies': WHATEVER THE INPUT: true; the input reads as it did. -/
def strictImpliesSpec : ChangeSpec := { name := "strictImplies", fn := fun _ => fun
  | [d] => { results := [.lit (.bool true)], args := [d] }
  | _ => none }
def strictImpliesRow : OpenClaim := { program := "ytdcbgkmhlpkjiaadoor", sum := "f37efdd21c8d05b1c0313fee11d331045dd5fbf68c8e6bc7a86a437b26ac1ed7", func := "lfcheck/lfchecklaw22.StrictImplies", spec := "strictImplies", inPlace := ["internal/bytealg.IndexByteString"], unfollowed := true, recurses := true, named := ["lfcheck/lfcheckmade.names"], apart := false, laid := [("lfcheck/lfcheckmade.names", laid_lfcheck_lfcheckmade_names)] }
def StrictImpliesSaid : Prop := strictImpliesRow.holds Tryd.pinned (OpenSpec.ofChange strictImpliesSpec)

/-- ITS FALSE NEIGHBOUR: 'it returns false'. Refute it at one input. -/
def strictImpliesWrong : ChangeSpec := { name := "strictImplies", fn := fun _ => fun
  | [d] => { results := [.lit (.bool false)], args := [d] }
  | _ => none }
def StrictImpliesWrongFalsely : Prop := strictImpliesRow.holds Tryd.pinned (OpenSpec.ofChange strictImpliesWrong)

/-- 'lfchecklaw22.StrictParts': WHATEVER THE INPUT: true; the input reads as it did. -/
def strictPartsSpec : ChangeSpec := { name := "strictParts", fn := fun _ => fun
  | [d] => { results := [.lit (.bool true)], args := [d] }
  | _ => none }
def strictPartsRow : OpenClaim := { program := "ytdcbgkmhlpkjiaadoor", sum := "f37efdd21c8d05b1c0313fee11d331045dd5fbf68c8e6bc7a86a437b26ac1ed7", func := "lfcheck/lfchecklaw22.StrictParts", spec := "strictParts", inPlace := ["internal/bytealg.IndexByteString"], unfollowed := true, recurses := true, named := ["lfcheck/lfcheckmade.names"], apart := false, laid := [("lfcheck/lfcheckmade.names", laid_lfcheck_lfcheckmade_names)] }
def StrictPartsSaid : Prop := strictPartsRow.holds Tryd.pinned (OpenSpec.ofChange strictPartsSpec)

/-- ITS FALSE NEIGHBOUR: 'it returns false'. Refute it at one input. -/
def strictPartsWrong : ChangeSpec := { name := "strictParts", fn := fun _ => fun
  | [d] => { results := [.lit (.bool false)], args := [d] }
  | _ => none }
def StrictPartsWrongFalsely : Prop := strictPartsRow.holds Tryd.pinned (OpenSpec.ofChange strictPartsWrong)

/-- 'lfchecklaw06.RenameMoves': WHATEVER THE INPUT: true; the input reads as it did. -/
def renameMovesSpec : ChangeSpec := { name := "renameMoves", fn := fun _ => fun
  | [d1, d2, d3, d4] => { results := [.lit (.bool true)], args := [d1, d2, d3, d4] }
  | _ => none }
def renameMovesRow : OpenClaim := { program := "ytdcbgkmhlpkjiaadoor", sum := "f37efdd21c8d05b1c0313fee11d331045dd5fbf68c8e6bc7a86a437b26ac1ed7", func := "lfcheck/lfchecklaw06.RenameMoves", spec := "renameMoves", inPlace := ["internal/bytealg.IndexByteString"], unfollowed := true, recurses := true, named := ["lfcheck/lfcheckmade.names"], apart := false, laid := [("lfcheck/lfcheckmade.names", laid_lfcheck_lfcheckmade_names)] }
def RenameMovesSaid : Prop := renameMovesRow.holds Tryd.pinned (OpenSpec.ofChange renameMovesSpec)

/-- ITS FALSE NEIGHBOUR: 'it returns false'. Refute it at one input. -/
def renameMovesWrong : ChangeSpec := { name := "renameMoves", fn := fun _ => fun
  | [d1, d2, d3, d4] => { results := [.lit (.bool false)], args := [d1, d2, d3, d4] }
  | _ => none }
def RenameMovesWrongFalsely : Prop := renameMovesRow.holds Tryd.pinned (OpenSpec.ofChange renameMovesWrong)

/-- 'lfchecklaw06.RenameMaps': WHATEVER THE INPUT: true; the input reads as it did. -/
def renameMapsSpec : ChangeSpec := { name := "renameMaps", fn := fun _ => fun
  | [d1, d2, d3, d4] => { results := [.lit (.bool true)], args := [d1, d2, d3, d4] }
  | _ => none }
def renameMapsRow : OpenClaim := { program := "ytdcbgkmhlpkjiaadoor", sum := "f37efdd21c8d05b1c0313fee11d331045dd5fbf68c8e6bc7a86a437b26ac1ed7", func := "lfcheck/lfchecklaw06.RenameMaps", spec := "renameMaps", inPlace := ["internal/bytealg.IndexByteString"], unfollowed := true, recurses := true, named := ["lfcheck/lfcheckmade.names"], apart := false, laid := [("lfcheck/lfcheckmade.names", laid_lfcheck_lfcheckmade_names)] }
def RenameMapsSaid : Prop := renameMapsRow.holds Tryd.pinned (OpenSpec.ofChange renameMapsSpec)

/-- ITS FALSE NEIGHBOUR: 'it returns false'. Refute it at one input. -/
def renameMapsWrong : ChangeSpec := { name := "renameMaps", fn := fun _ => fun
  | [d1, d2, d3, d4] => { results := [.lit (.bool false)], args := [d1, d2, d3, d4] }
  | _ => none }
def RenameMapsWrongFalsely : Prop := renameMapsRow.holds Tryd.pinned (OpenSpec.ofChange renameMapsWrong)

/-- 'lfchecklaw06.RenameBack': WHATEVER THE INPUT: true; the input reads as it did. -/
def renameBackSpec : ChangeSpec := { name := "renameBack", fn := fun _ => fun
  | [d1, d2, d3, d4] => { results := [.lit (.bool true)], args := [d1, d2, d3, d4] }
  | _ => none }
def renameBackRow : OpenClaim := { program := "ytdcbgkmhlpkjiaadoor", sum := "f37efdd21c8d05b1c0313fee11d331045dd5fbf68c8e6bc7a86a437b26ac1ed7", func := "lfcheck/lfchecklaw06.RenameBack", spec := "renameBack", inPlace := ["internal/bytealg.IndexByteString"], unfollowed := true, recurses := true, named := ["lfcheck/lfcheckmade.names"], apart := false, laid := [("lfcheck/lfcheckmade.names", laid_lfcheck_lfcheckmade_names)] }
def RenameBackSaid : Prop := renameBackRow.holds Tryd.pinned (OpenSpec.ofChange renameBackSpec)

/-- ITS FALSE NEIGHBOUR: 'it returns false'. Refute it at one input. -/
def renameBackWrong : ChangeSpec := { name := "renameBack", fn := fun _ => fun
  | [d1, d2, d3, d4] => { results := [.lit (.bool false)], args := [d1, d2, d3, d4] }
  | _ => none }
def RenameBackWrongFalsely : Prop := renameBackRow.holds Tryd.pinned (OpenSpec.ofChange renameBackWrong)

/-- 'lfchecklaw06.RenameInverts': WHATEVER THE INPUT: true; the input reads as it did. -/
def renameInvertsSpec : ChangeSpec := { name := "renameInverts", fn := fun _ => fun
  | [d1, d2] => { results := [.lit (.bool true)], args := [d1, d2] }
  | _ => none }
def renameInvertsRow : OpenClaim := { program := "ytdcbgkmhlpkjiaadoor", sum := "f37efdd21c8d05b1c0313fee11d331045dd5fbf68c8e6bc7a86a437b26ac1ed7", func := "lfcheck/lfchecklaw06.RenameInverts", spec := "renameInverts", inPlace := ["internal/bytealg.IndexByteString"], unfollowed := true, recurses := true, named := ["lfcheck/lfcheckmade.names"], apart := false, laid := [("lfcheck/lfcheckmade.names", laid_lfcheck_lfcheckmade_names)] }
def RenameInvertsSaid : Prop := renameInvertsRow.holds Tryd.pinned (OpenSpec.ofChange renameInvertsSpec)

/-- ITS FALSE NEIGHBOUR: 'it returns false'. Refute it at one input. -/
def renameInvertsWrong : ChangeSpec := { name := "renameInverts", fn := fun _ => fun
  | [d1, d2] => { results := [.lit (.bool false)], args := [d1, d2] }
  | _ => none }
def RenameInvertsWrongFalsely : Prop := renameInvertsRow.holds Tryd.pinned (OpenSpec.ofChange renameInvertsWrong)

/-- 'lfchecklaw06.RenameComposes': WHATEVER THE INPUT: true; the input reads as it did. -/
def renameComposesSpec : ChangeSpec := { name := "renameComposes", fn := fun _ => fun
  | [d1, d2, d3] => { results := [.lit (.bool true)], args := [d1, d2, d3] }
  | _ => none }
def renameComposesRow : OpenClaim := { program := "ytdcbgkmhlpkjiaadoor", sum := "f37efdd21c8d05b1c0313fee11d331045dd5fbf68c8e6bc7a86a437b26ac1ed7", func := "lfcheck/lfchecklaw06.RenameComposes", spec := "renameComposes", inPlace := ["internal/bytealg.IndexByteString"], unfollowed := true, recurses := true, named := ["lfcheck/lfcheckmade.names"], apart := false, laid := [("lfcheck/lfcheckmade.names", laid_lfcheck_lfcheckmade_names)] }
def RenameComposesSaid : Prop := renameComposesRow.holds Tryd.pinned (OpenSpec.ofChange renameComposesSpec)

/-- ITS FALSE NEIGHBOUR: 'it returns false'. Refute it at one input. -/
def renameComposesWrong : ChangeSpec := { name := "renameComposes", fn := fun _ => fun
  | [d1, d2, d3] => { results := [.lit (.bool false)], args := [d1, d2, d3] }
  | _ => none }
def RenameComposesWrongFalsely : Prop := renameComposesRow.holds Tryd.pinned (OpenSpec.ofChange renameComposesWrong)

/- THE SECOND FORM. 'bulk': how many values and letters a reading holds, each counted each time it is reached (what is shared counts as often as it is met; a slice's spare places count too). A statement '..UptoSaid' is the law's where the arguments, and the package variables that the reading takes, are together of bulk at most 1048576: NARROWER than '..Said'. Prove '..Said' where nothing that the law and all that it calls make is longer than what came in: it says more and counts as full. Else prove '..UptoSaid'. A law counts once. -/
mutual
def uptoBulk {H : Type} : DataW H → Nat
  | .lit (.string bytes) => bytes.length + 1
  | .lit _ => 1
  | .nil => 1
  | .ptr d => uptoBulk d + 1
  | .slice elems spare => uptoBulkAll elems + uptoBulkAll spare + 1
  | .agg parts => uptoBulkAll parts + 1
  | .iface _ d => uptoBulk d + 1
  | .map entries => uptoBulkEntries entries + 1
  | .held _ => 1
def uptoBulkAll {H : Type} : List (DataW H) → Nat
  | [] => 0
  | d :: r => uptoBulk d + uptoBulkAll r
def uptoBulkEntries {H : Type} : List (Lit × DataW H) → Nat
  | [] => 0
  | x :: r => uptoBulkEntry x + uptoBulkEntries r
def uptoBulkEntry {H : Type} : Lit × DataW H → Nat
  | (.string bytes, d) => bytes.length + uptoBulk d + 1
  | (_, d) => uptoBulk d + 1
 end
def uptoSmall : (H : Type) → List (DataW H) → Bool := fun _ ds => decide (uptoBulkAll ds ≤ 1048576)
def OpenSpec.upto (s : _root_.Go.ChangeSpec) : _root_.Go.OpenSpec := { _root_.Go.OpenSpec.ofChange s with cond := some uptoSmall }

/-- 'lfchecklaw05.TermForms', WHERE WHAT IT READS IS OF BULK AT MOST 1048576: true; the input reads as it did. -/
def termFormsUptoRow : OpenClaim := { program := "ytdcbgkmhlpkjiaadoor", sum := "f37efdd21c8d05b1c0313fee11d331045dd5fbf68c8e6bc7a86a437b26ac1ed7", func := "lfcheck/lfchecklaw05.TermForms", spec := "termForms", inPlace := ["internal/bytealg.IndexByteString"], unfollowed := true, recurses := true, named := ["lfcheck/lfcheckmade.names"], apart := false, laid := [("lfcheck/lfcheckmade.names", laid_lfcheck_lfcheckmade_names)], narrowed := true }
def TermFormsUptoSaid : Prop := termFormsUptoRow.holds Tryd.pinned (OpenSpec.upto termFormsSpec)

/-- 'lfchecklaw05.TermSame', WHERE WHAT IT READS IS OF BULK AT MOST 1048576: true; the input reads as it did. -/
def termSameUptoRow : OpenClaim := { program := "ytdcbgkmhlpkjiaadoor", sum := "f37efdd21c8d05b1c0313fee11d331045dd5fbf68c8e6bc7a86a437b26ac1ed7", func := "lfcheck/lfchecklaw05.TermSame", spec := "termSame", inPlace := ["internal/bytealg.IndexByteString"], unfollowed := true, recurses := true, named := ["lfcheck/lfcheckmade.names"], apart := false, laid := [("lfcheck/lfcheckmade.names", laid_lfcheck_lfcheckmade_names)], narrowed := true }
def TermSameUptoSaid : Prop := termSameUptoRow.holds Tryd.pinned (OpenSpec.upto termSameSpec)

/-- 'lfchecklaw05.TermBinds', WHERE WHAT IT READS IS OF BULK AT MOST 1048576: true; the input reads as it did. -/
def termBindsUptoRow : OpenClaim := { program := "ytdcbgkmhlpkjiaadoor", sum := "f37efdd21c8d05b1c0313fee11d331045dd5fbf68c8e6bc7a86a437b26ac1ed7", func := "lfcheck/lfchecklaw05.TermBinds", spec := "termBinds", inPlace := ["internal/bytealg.IndexByteString"], unfollowed := true, recurses := true, named := ["lfcheck/lfcheckmade.names"], apart := false, laid := [("lfcheck/lfcheckmade.names", laid_lfcheck_lfcheckmade_names)], narrowed := true }
def TermBindsUptoSaid : Prop := termBindsUptoRow.holds Tryd.pinned (OpenSpec.upto termBindsSpec)

/-- 'lfchecklaw05.TermSorts', WHERE WHAT IT READS IS OF BULK AT MOST 1048576: true; the input reads as it did. -/
def termSortsUptoRow : OpenClaim := { program := "ytdcbgkmhlpkjiaadoor", sum := "f37efdd21c8d05b1c0313fee11d331045dd5fbf68c8e6bc7a86a437b26ac1ed7", func := "lfcheck/lfchecklaw05.TermSorts", spec := "termSorts", inPlace := ["internal/bytealg.IndexByteString"], unfollowed := true, recurses := true, named := ["lfcheck/lfcheckmade.names"], apart := false, laid := [("lfcheck/lfcheckmade.names", laid_lfcheck_lfcheckmade_names)], narrowed := true }
def TermSortsUptoSaid : Prop := termSortsUptoRow.holds Tryd.pinned (OpenSpec.upto termSortsSpec)

/-- 'lfchecklaw05.TermMetas', WHERE WHAT IT READS IS OF BULK AT MOST 1048576: true; the input reads as it did. -/
def termMetasUptoRow : OpenClaim := { program := "ytdcbgkmhlpkjiaadoor", sum := "f37efdd21c8d05b1c0313fee11d331045dd5fbf68c8e6bc7a86a437b26ac1ed7", func := "lfcheck/lfchecklaw05.TermMetas", spec := "termMetas", inPlace := ["internal/bytealg.IndexByteString"], unfollowed := true, recurses := true, named := ["lfcheck/lfcheckmade.names"], apart := false, laid := [("lfcheck/lfcheckmade.names", laid_lfcheck_lfcheckmade_names)], narrowed := true }
def TermMetasUptoSaid : Prop := termMetasUptoRow.holds Tryd.pinned (OpenSpec.upto termMetasSpec)

/-- 'lfchecklaw22.StrictOccurs', WHERE WHAT IT READS IS OF BULK AT MOST 1048576: true; the input reads as it did. -/
def strictOccursUptoRow : OpenClaim := { program := "ytdcbgkmhlpkjiaadoor", sum := "f37efdd21c8d05b1c0313fee11d331045dd5fbf68c8e6bc7a86a437b26ac1ed7", func := "lfcheck/lfchecklaw22.StrictOccurs", spec := "strictOccurs", inPlace := ["internal/bytealg.IndexByteString"], unfollowed := true, recurses := true, named := ["lfcheck/lfcheckmade.names"], apart := false, laid := [("lfcheck/lfcheckmade.names", laid_lfcheck_lfcheckmade_names)], narrowed := true }
def StrictOccursUptoSaid : Prop := strictOccursUptoRow.holds Tryd.pinned (OpenSpec.upto strictOccursSpec)

/-- 'lfchecklaw22.StrictPatterns', WHERE WHAT IT READS IS OF BULK AT MOST 1048576: true; the input reads as it did. -/
def strictPatternsUptoRow : OpenClaim := { program := "ytdcbgkmhlpkjiaadoor", sum := "f37efdd21c8d05b1c0313fee11d331045dd5fbf68c8e6bc7a86a437b26ac1ed7", func := "lfcheck/lfchecklaw22.StrictPatterns", spec := "strictPatterns", inPlace := ["internal/bytealg.IndexByteString"], unfollowed := true, recurses := true, named := ["lfcheck/lfcheckmade.names"], apart := false, laid := [("lfcheck/lfcheckmade.names", laid_lfcheck_lfcheckmade_names)], narrowed := true }
def StrictPatternsUptoSaid : Prop := strictPatternsUptoRow.holds Tryd.pinned (OpenSpec.upto strictPatternsSpec)

/-- 'lfchecklaw22.StrictImplies', WHERE WHAT IT READS IS OF BULK AT MOST 1048576: true; the input reads as it did. -/
def strictImpliesUptoRow : OpenClaim := { program := "ytdcbgkmhlpkjiaadoor", sum := "f37efdd21c8d05b1c0313fee11d331045dd5fbf68c8e6bc7a86a437b26ac1ed7", func := "lfcheck/lfchecklaw22.StrictImplies", spec := "strictImplies", inPlace := ["internal/bytealg.IndexByteString"], unfollowed := true, recurses := true, named := ["lfcheck/lfcheckmade.names"], apart := false, laid := [("lfcheck/lfcheckmade.names", laid_lfcheck_lfcheckmade_names)], narrowed := true }
def StrictImpliesUptoSaid : Prop := strictImpliesUptoRow.holds Tryd.pinned (OpenSpec.upto strictImpliesSpec)

/-- 'lfchecklaw22.StrictParts', WHERE WHAT IT READS IS OF BULK AT MOST 1048576: true; the input reads as it did. -/
def strictPartsUptoRow : OpenClaim := { program := "ytdcbgkmhlpkjiaadoor", sum := "f37efdd21c8d05b1c0313fee11d331045dd5fbf68c8e6bc7a86a437b26ac1ed7", func := "lfcheck/lfchecklaw22.StrictParts", spec := "strictParts", inPlace := ["internal/bytealg.IndexByteString"], unfollowed := true, recurses := true, named := ["lfcheck/lfcheckmade.names"], apart := false, laid := [("lfcheck/lfcheckmade.names", laid_lfcheck_lfcheckmade_names)], narrowed := true }
def StrictPartsUptoSaid : Prop := strictPartsUptoRow.holds Tryd.pinned (OpenSpec.upto strictPartsSpec)

/-- 'lfchecklaw06.RenameMoves', WHERE WHAT IT READS IS OF BULK AT MOST 1048576: true; the input reads as it did. -/
def renameMovesUptoRow : OpenClaim := { program := "ytdcbgkmhlpkjiaadoor", sum := "f37efdd21c8d05b1c0313fee11d331045dd5fbf68c8e6bc7a86a437b26ac1ed7", func := "lfcheck/lfchecklaw06.RenameMoves", spec := "renameMoves", inPlace := ["internal/bytealg.IndexByteString"], unfollowed := true, recurses := true, named := ["lfcheck/lfcheckmade.names"], apart := false, laid := [("lfcheck/lfcheckmade.names", laid_lfcheck_lfcheckmade_names)], narrowed := true }
def RenameMovesUptoSaid : Prop := renameMovesUptoRow.holds Tryd.pinned (OpenSpec.upto renameMovesSpec)

/-- 'lfchecklaw06.RenameMaps', WHERE WHAT IT READS IS OF BULK AT MOST 1048576: true; the input reads as it did. -/
def renameMapsUptoRow : OpenClaim := { program := "ytdcbgkmhlpkjiaadoor", sum := "f37efdd21c8d05b1c0313fee11d331045dd5fbf68c8e6bc7a86a437b26ac1ed7", func := "lfcheck/lfchecklaw06.RenameMaps", spec := "renameMaps", inPlace := ["internal/bytealg.IndexByteString"], unfollowed := true, recurses := true, named := ["lfcheck/lfcheckmade.names"], apart := false, laid := [("lfcheck/lfcheckmade.names", laid_lfcheck_lfcheckmade_names)], narrowed := true }
def RenameMapsUptoSaid : Prop := renameMapsUptoRow.holds Tryd.pinned (OpenSpec.upto renameMapsSpec)

/-- 'lfchecklaw06.RenameBack', WHERE WHAT IT READS IS OF BULK AT MOST 1048576: true; the input reads as it did. -/
def renameBackUptoRow : OpenClaim := { program := "ytdcbgkmhlpkjiaadoor", sum := "f37efdd21c8d05b1c0313fee11d331045dd5fbf68c8e6bc7a86a437b26ac1ed7", func := "lfcheck/lfchecklaw06.RenameBack", spec := "renameBack", inPlace := ["internal/bytealg.IndexByteString"], unfollowed := true, recurses := true, named := ["lfcheck/lfcheckmade.names"], apart := false, laid := [("lfcheck/lfcheckmade.names", laid_lfcheck_lfcheckmade_names)], narrowed := true }
def RenameBackUptoSaid : Prop := renameBackUptoRow.holds Tryd.pinned (OpenSpec.upto renameBackSpec)

/-- 'lfchecklaw06.RenameInverts', WHERE WHAT IT READS IS OF BULK AT MOST 1048576: true; the input reads as it did. -/
def renameInvertsUptoRow : OpenClaim := { program := "ytdcbgkmhlpkjiaadoor", sum := "f37efdd21c8d05b1c0313fee11d331045dd5fbf68c8e6bc7a86a437b26ac1ed7", func := "lfcheck/lfchecklaw06.RenameInverts", spec := "renameInverts", inPlace := ["internal/bytealg.IndexByteString"], unfollowed := true, recurses := true, named := ["lfcheck/lfcheckmade.names"], apart := false, laid := [("lfcheck/lfcheckmade.names", laid_lfcheck_lfcheckmade_names)], narrowed := true }
def RenameInvertsUptoSaid : Prop := renameInvertsUptoRow.holds Tryd.pinned (OpenSpec.upto renameInvertsSpec)

/-- 'lfchecklaw06.RenameComposes', WHERE WHAT IT READS IS OF BULK AT MOST 1048576: true; the input reads as it did. -/
def renameComposesUptoRow : OpenClaim := { program := "ytdcbgkmhlpkjiaadoor", sum := "f37efdd21c8d05b1c0313fee11d331045dd5fbf68c8e6bc7a86a437b26ac1ed7", func := "lfcheck/lfchecklaw06.RenameComposes", spec := "renameComposes", inPlace := ["internal/bytealg.IndexByteString"], unfollowed := true, recurses := true, named := ["lfcheck/lfcheckmade.names"], apart := false, laid := [("lfcheck/lfcheckmade.names", laid_lfcheck_lfcheckmade_names)], narrowed := true }
def RenameComposesUptoSaid : Prop := renameComposesUptoRow.holds Tryd.pinned (OpenSpec.upto renameComposesSpec)

end Rows
end Go.Proofs.YtdcbgkmhlpkjiaaDoor
