/- A number that is cut. -/
import Derived.Test.YtdcbgkmhlpkjiaaDoorRows
import Derived.Test.YtdcbgkmhlpkjiaaDoorGen
import Derived.IntWalk
namespace Go.Proofs.YtdcbgkmhlpkjiaaDoor
open Go.RowKit Go.LF

theorem u64_nonneg (x : Int) : 0 ≤ IntKind.u64.wrap x := by
  unfold IntKind.wrap
  simp [IntKind.signed, IntKind.bits]
  omega

set_option maxHeartbeats 1000000 in
theorem cut_any (x n : Int) (h0 : 0 < n) (h1 : n ≤ 1000000) (w : World) :
    Calls Tryd.prog 18 #[.int .i64 x, .int .i64 n] w fun e w' => (∃ c : Nat, (c : Int) < n ∧ e = .returned (.int .i64 c)) ∧ w = w' := by
  go_enter Tryd.func18, Tryd.ntmps18
  go_wp2_with fail
  go_ret
  have hx : 0 ≤ IntKind.u64.wrap x := u64_nonneg x
  have h2 : (IntKind.u64.wrap x).tmod n = (IntKind.u64.wrap x) % n := Int.tmod_eq_emod_of_nonneg hx
  have h3 := Int.emod_nonneg (IntKind.u64.wrap x) (show n ≠ 0 by omega)
  have h4 := Int.emod_lt_of_pos (IntKind.u64.wrap x) h0
  refine ⟨⟨((IntKind.u64.wrap x) % n).toNat, by omega, ?_⟩, rfl⟩
  refine ret_int ?_
  rw [h2, Go.IntWalk.wrap64_in _ (by omega)]
  omega
end Go.Proofs.YtdcbgkmhlpkjiaaDoor
