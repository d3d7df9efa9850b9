/- What the iterators' users ask of a node. -/
import Derived.Test.YtdomloghcpfdjaaGreatDoorRows
import Derived.Test.YtdomloghcpfdjaaGreatDoorRCA
import Derived.Deep.RegionHeld3
namespace Go.Proofs.YtdomloghcpfdjaaGreatDoor
open Go.RowKit Go.LF
set_option maxHeartbeats 2000000 in
theorem metas1_any (k i : Int) (n : List UInt8) (a : Option Addr) (len cap : Nat) (w : World) :
    Calls Tryz.prog 175 #[.agg #[.int .i64 k, .string (B n), .int .i64 i, .slice a len cap]] w fun e w' => e = .returned (.tuple #[.int .i64 i, .bool (k == 6)]) ∧ Upto none' w w' := by
  go_enter Tryz.func175, Tryz.ntmps175
  go_wp2_with fail
  all_goals go_region
  all_goals go_wp2
  all_goals go_ret2
  all_goals exact ⟨rfl, ((Upto.refl none' w).alloc _).drew⟩
end Go.Proofs.YtdomloghcpfdjaaGreatDoor
