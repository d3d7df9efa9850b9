/-
  No cell of these rows narrows 'for every input' (looked for: loops, veiled, ifaces, maps, wideKeys, modest, calm, conditions, laid).
  DERIVED. THE GIVEN ROWS OF THIS SEAT. 3 by the template 'for every input the law returns true; each argument reads behind the call as it read before'; 0 by the template 'total and deterministic' (their statements: YtadphaobbpngkaaTotals.lean).
  GIVEN WITH THE SEED: the statements are not yours to turn. If you find one false, say at which input.
  Laid BY PROGRAM, IN A SANDBOX (cutbox-rows.mjs): the forced cells as the released guide's own fill.sh prints them over the translation e368d69c5f95acdb… (all of the seat's roots in one cut). By AI agents, Wed Nov 11 2026. No macro, syntax, notation, axiom, sorry.
-/
import Derived.Test.YtadphaobbpngkaaChecked
import GoSem.Claim
import GoSem.ClaimJoined
import GoSem.ClaimMapViews
import Derived.JoinedTies
import Derived.KernelRfl
namespace Go.Proofs.Ytadphaobbpngkaa
/- THE CELL 'sum', in the pinned program and in every row, IS THE sha256 OF THE DUMP (.gsa) THAT YtadphaobbpngkaaProg.lean LOADS. Nothing in Lean hashes anything: it is a label: what it is worth is what the hold of that sum in a sandbox is worth. -/
noncomputable def Try.pinned : Pinned := { name := "ytadphaobbpngkaa", sum := "e368d69c5f95acdb0a4d113c9f651015816fccf23a602e751cc54d58ee8fe511", checked := Try.checked }
namespace Rows
def none {H : Type} : Left H := { results := [], args := [] }

/-- 'lfchecklaw22.StrictDetermines': WHATEVER THE INPUT: true; the input reads as it did. -/
def strictDeterminesSpec : ChangeSpec := { name := "strictDetermines", fn := fun _ => fun
  | [d1, d2, d3] => { results := [.lit (.bool true)], args := [d1, d2, d3] }
  | _ => none }
def strictDeterminesRow : OpenClaim := { program := "ytadphaobbpngkaa", sum := "e368d69c5f95acdb0a4d113c9f651015816fccf23a602e751cc54d58ee8fe511", func := "lfcheck/lfchecklaw22.StrictDetermines", spec := "strictDetermines", inPlace := ["internal/bytealg.IndexByteString"], unfollowed := true, recurses := true, apart := false }
def StrictDeterminesSaid : Prop := strictDeterminesRow.holds Try.pinned (OpenSpec.ofChange strictDeterminesSpec)

/-- ITS FALSE NEIGHBOUR: 'it returns false'. Refute it at one input. -/
def strictDeterminesWrong : ChangeSpec := { name := "strictDetermines", fn := fun _ => fun
  | [d1, d2, d3] => { results := [.lit (.bool false)], args := [d1, d2, d3] }
  | _ => none }
def StrictDeterminesWrongFalsely : Prop := strictDeterminesRow.holds Try.pinned (OpenSpec.ofChange strictDeterminesWrong)

/-- 'lfchecklaw08.SubstShaped': WHATEVER THE INPUT: true; the input reads as it did. -/
def substShapedSpec : ChangeSpec := { name := "substShaped", fn := fun _ => fun
  | [d] => { results := [.lit (.bool true)], args := [d] }
  | _ => none }
def substShapedRow : OpenClaim := { program := "ytadphaobbpngkaa", sum := "e368d69c5f95acdb0a4d113c9f651015816fccf23a602e751cc54d58ee8fe511", func := "lfcheck/lfchecklaw08.SubstShaped", spec := "substShaped", inPlace := ["internal/bytealg.IndexByteString"], unfollowed := true, recurses := true, apart := false }
def SubstShapedSaid : Prop := substShapedRow.holds Try.pinned (OpenSpec.ofChange substShapedSpec)

/-- ITS FALSE NEIGHBOUR: 'it returns false'. Refute it at one input. -/
def substShapedWrong : ChangeSpec := { name := "substShaped", fn := fun _ => fun
  | [d] => { results := [.lit (.bool false)], args := [d] }
  | _ => none }
def SubstShapedWrongFalsely : Prop := substShapedRow.holds Try.pinned (OpenSpec.ofChange substShapedWrong)

/-- 'lfchecklaw08.SubstWork': WHATEVER THE INPUT: true; the input reads as it did. -/
def substWorkSpec : ChangeSpec := { name := "substWork", fn := fun _ => fun
  | [d] => { results := [.lit (.bool true)], args := [d] }
  | _ => none }
def substWorkRow : OpenClaim := { program := "ytadphaobbpngkaa", sum := "e368d69c5f95acdb0a4d113c9f651015816fccf23a602e751cc54d58ee8fe511", func := "lfcheck/lfchecklaw08.SubstWork", spec := "substWork", inPlace := ["internal/bytealg.IndexByteString"], unfollowed := true, recurses := true, apart := false }
def SubstWorkSaid : Prop := substWorkRow.holds Try.pinned (OpenSpec.ofChange substWorkSpec)

/-- ITS FALSE NEIGHBOUR: 'it returns false'. Refute it at one input. -/
def substWorkWrong : ChangeSpec := { name := "substWork", fn := fun _ => fun
  | [d] => { results := [.lit (.bool false)], args := [d] }
  | _ => none }
def SubstWorkWrongFalsely : Prop := substWorkRow.holds Try.pinned (OpenSpec.ofChange substWorkWrong)

/- THE SECOND FORM. 'bulk': how many values and letters a reading holds, each counted each time it is reached (what is shared counts as often as it is met; a slice's spare places count too). A statement '..UptoSaid' is the law's where the arguments, and the package variables that the reading takes, are together of bulk at most 1048576: NARROWER than '..Said'. Prove '..Said' where nothing that the law and all that it calls make is longer than what came in: it says more and counts as full. Else prove '..UptoSaid'. A law counts once. -/
mutual
def uptoBulk {H : Type} : DataW H → Nat
  | .lit (.string bytes) => bytes.length + 1
  | .lit _ => 1
  | .nil => 1
  | .ptr d => uptoBulk d + 1
  | .slice elems spare => uptoBulkAll elems + uptoBulkAll spare + 1
  | .agg parts => uptoBulkAll parts + 1
  | .iface _ d => uptoBulk d + 1
  | .map entries => uptoBulkEntries entries + 1
  | .held _ => 1
def uptoBulkAll {H : Type} : List (DataW H) → Nat
  | [] => 0
  | d :: r => uptoBulk d + uptoBulkAll r
def uptoBulkEntries {H : Type} : List (Lit × DataW H) → Nat
  | [] => 0
  | x :: r => uptoBulkEntry x + uptoBulkEntries r
def uptoBulkEntry {H : Type} : Lit × DataW H → Nat
  | (.string bytes, d) => bytes.length + uptoBulk d + 1
  | (_, d) => uptoBulk d + 1
 end
def uptoSmall : (H : Type) → List (DataW H) → Bool := fun _ ds => decide (uptoBulkAll ds ≤ 1048576)
def OpenSpec.upto (s : _root_.Go.ChangeSpec) : _root_.Go.OpenSpec := { _root_.Go.OpenSpec.ofChange s with cond := some uptoSmall }

/-- 'lfchecklaw22.StrictDetermines', WHERE WHAT IT READS IS OF BULK AT MOST 1048576: true; the input reads as it did. -/
def strictDeterminesUptoRow : OpenClaim := { program := "ytadphaobbpngkaa", sum := "e368d69c5f95acdb0a4d113c9f651015816fccf23a602e751cc54d58ee8fe511", func := "lfcheck/lfchecklaw22.StrictDetermines", spec := "strictDetermines", inPlace := ["internal/bytealg.IndexByteString"], unfollowed := true, recurses := true, apart := false, narrowed := true }
def StrictDeterminesUptoSaid : Prop := strictDeterminesUptoRow.holds Try.pinned (OpenSpec.upto strictDeterminesSpec)

/-- 'lfchecklaw08.SubstShaped', WHERE WHAT IT READS IS OF BULK AT MOST 1048576: true; the input reads as it did. -/
def substShapedUptoRow : OpenClaim := { program := "ytadphaobbpngkaa", sum := "e368d69c5f95acdb0a4d113c9f651015816fccf23a602e751cc54d58ee8fe511", func := "lfcheck/lfchecklaw08.SubstShaped", spec := "substShaped", inPlace := ["internal/bytealg.IndexByteString"], unfollowed := true, recurses := true, apart := false, narrowed := true }
def SubstShapedUptoSaid : Prop := substShapedUptoRow.holds Try.pinned (OpenSpec.upto substShapedSpec)

/-- 'lfchecklaw08.SubstWork', WHERE WHAT IT READS IS OF BULK AT MOST 1048576: true; the input reads as it did. -/
def substWorkUptoRow : OpenClaim := { program := "ytadphaobbpngkaa", sum := "e368d69c5f95acdb0a4d113c9f651015816fccf23a602e751cc54d58ee8fe511", func := "lfcheck/lfchecklaw08.SubstWork", spec := "substWork", inPlace := ["internal/bytealg.IndexByteString"], unfollowed := true, recurses := true, apart := false, narrowed := true }
def SubstWorkUptoSaid : Prop := substWorkUptoRow.holds Try.pinned (OpenSpec.upto substWorkSpec)

end Rows
end Go.Proofs.Ytadphaobbpngkaa
