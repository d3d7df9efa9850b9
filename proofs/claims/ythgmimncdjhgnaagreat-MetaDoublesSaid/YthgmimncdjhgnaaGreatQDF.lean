/- A number that is cut: which one. -/
import Derived.Test.YthgmimncdjhgnaaGreatQCH
set_option maxHeartbeats 1000000
namespace Go.Proofs.YthgmimncdjhgnaaGreat
open Go.RowKit Go.LF
def zA0(x n:Int):Int:=(IntKind.u64.wrap x).tmod n
theorem zDX(x n:Int)(h0:0<n):0<=zA0 x n/\zA0 x n<n:=by
  have hx:0<=IntKind.u64.wrap x:=zC4 x;unfold zA0;rw[Int.tmod_eq_emod_of_nonneg hx];exact⟨Int.emod_nonneg _ (by omega),Int.emod_lt_of_pos _ h0⟩
theorem zFw(x n:Int)(h0:0<n)(h1:n<=1000000)(w:World):
    Calls Tryz.prog 4 #[.int .i64 x,.int .i64 n] w fun e w'=>e=.returned (.int .i64 (zA0 x n))/\w=w':=by
  go_enter Tryz.func4,Tryz.ntmps4
  go_wp2_with fail
  go_ret
  have hb:=zDX x n h0;unfold zA0 at hb;refine⟨zY ?_,rfl⟩;unfold zA0;rw[Go.IntWalk.wrap64_in _ (by omega)]
end Go.Proofs.YthgmimncdjhgnaaGreat
