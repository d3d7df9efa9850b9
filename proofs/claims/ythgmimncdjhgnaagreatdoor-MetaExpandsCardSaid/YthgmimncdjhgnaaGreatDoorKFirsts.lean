/- What the iterators' users ask of a node. -/
import Derived.Test.YthgmimncdjhgnaaGreatDoorRows
import Derived.Test.YthgmimncdjhgnaaGreatDoorKCA
import Derived.Deep.RegionHeld3
set_option maxHeartbeats 2000000
namespace Go.Proofs.YthgmimncdjhgnaaGreatDoor
open Go.RowKit Go.LF
theorem zE4(k i:Int)(n:List UInt8)(a:Option Addr)(len cap:Nat)(w:World):
    Calls Tryz.prog 120 #[.agg #[.int .i64 k,.string (B n),.int .i64 i,.slice a len cap]] w fun e w'=>e=.returned (.tuple #[.int .i64 i,.bool (k == 6)])/\zD zC w w':=by
  go_enter Tryz.func120,Tryz.ntmps120
  go_wp2_with fail
  all_goals go_region
  all_goals go_wp2
  all_goals go_ret2
  all_goals exact⟨rfl,((zD.refl zC w).alloc _).drew⟩
end Go.Proofs.YthgmimncdjhgnaaGreatDoor
