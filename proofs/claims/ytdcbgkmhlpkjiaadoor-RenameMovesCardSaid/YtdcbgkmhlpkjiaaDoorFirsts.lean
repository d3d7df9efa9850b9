/- What the iterators' users ask of a node. -/
import Derived.Test.YtdcbgkmhlpkjiaaDoorRows
import Derived.Test.YtdcbgkmhlpkjiaaDoorBox
import Derived.Deep.RegionHeld3
namespace Go.Proofs.YtdcbgkmhlpkjiaaDoor
open Go.RowKit Go.LF

set_option maxHeartbeats 2000000 in
theorem metas1_any (k i : Int) (n : List UInt8) (a : Option Addr) (len cap : Nat) (w : World) :
    Calls Tryd.prog 84 #[.agg #[.int .i64 k, .string (B n), .int .i64 i, .slice a len cap]] w fun e w' => e = .returned (.tuple #[.int .i64 i, .bool (k == 6)]) ∧ Upto none' w w' := by
  go_enter Tryd.func84, Tryd.ntmps84
  go_wp2_with fail
  all_goals go_region
  all_goals go_wp2
  all_goals go_ret2
  all_goals exact ⟨rfl, ((Upto.refl none' w).alloc _).drew⟩
set_option maxHeartbeats 2000000 in
theorem consts1_any (k i : Int) (n : List UInt8) (a : Option Addr) (len cap : Nat) (w : World) :
    Calls Tryd.prog 87 #[.agg #[.int .i64 k, .string (B n), .int .i64 i, .slice a len cap]] w fun e w' => e = .returned (.tuple #[.string (B n), .bool (k == 4)]) ∧ Upto none' w w' := by
  go_enter Tryd.func87, Tryd.ntmps87
  go_wp2_with fail
  all_goals go_region
  all_goals go_wp2
  all_goals go_ret2
  all_goals exact ⟨rfl, ((Upto.refl none' w).alloc _).drew⟩
end Go.Proofs.YtdcbgkmhlpkjiaaDoor
