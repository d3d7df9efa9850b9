/- Depth of a term: the program's and the reference's. -/
import Derived.Test.YtdcbgkmhlpkjiaaDoorRows
import Derived.Test.YtdcbgkmhlpkjiaaDoorGen
namespace Go.Proofs.YtdcbgkmhlpkjiaaDoor
open Go.RowKit Go.LF

set_option maxHeartbeats 1000000 in
theorem depth_any (t : Tm) : t.size ≤ 1000000 → ∀ (w : World) (cs : List Value), Rep none' w t.dat cs →
    Calls Tryd.prog 29 #[.agg cs.toArray] w fun e w' => e = .returned (.int .i64 t.depth) ∧ Upto none' w w' := by
  induction t using Tm.ind with
  | h k n i ts ih =>
    intro hs w cs h
    obtain ⟨a, cap, rfl, hcap, hE⟩ := rep_tm.1 h
    have hlen := Tm.length_le_sizes ts
    have hds := Tm.depths_le_sizes ts
    simp only [Tm.size_mk] at hs
    go_enter Tryd.func29, Tryd.ntmps29
    go_wp2_with fail
    go_loopw [3, 9] (fun v3 v9 wr => ∃ j : Nat, j ≤ ts.length ∧ v9 = .int .i64 j ∧ v3 = .int .i64 (Tm.depths (ts.take j)) ∧ Upto none' (w.alloc (.cells #[.int .i64 k, .string (B n), .int .i64 i, .slice a ts.length cap] 25)) wr)
      (fun _ v9 _ => ts.length - (intOf v9).toNat)
    case atStart => exact ⟨0, Nat.zero_le _, rfl, rfl, Upto.refl _ _⟩
    case round =>
      obtain ⟨j, hj, rfl, rfl, hU⟩ := hrel
      have hw : Upto none' w wr := hU.behind
      have hdj := Tm.depths_take_le ts j
      by_cases hlt : j < ts.length
      · obtain ⟨b, o, k1, n1, x1, s1, c1, rfl, hb, _, hc0, hc1, hc2, hc3, hR⟩ := arg_tm (hE.on hw) j hlt
        have hd1 := Tm.depth_le_depths (List.getElem_mem hlt)
        have hs1 := Tm.size_le_sizes (List.getElem_mem hlt)
        go_wp2_with fail
        refine (ih _ (List.getElem_mem hlt) (by omega) _ _ (hR.new _)).mono ?_
        rintro e w1 ⟨rfl, hU1⟩
        go_wp2
        go_roundw
        case rel =>
          refine ⟨j + 1, by omega, by go_num, int_eq ?_, hU.trans hU1.behind (fun _ _ x => x)⟩
          rw [Tm.depths_take_succ ts j hlt]
          split <;> omega
        case measure => simp [intOf]; omega
      · have hj' : ts.take j = ts := List.take_of_length_le (by omega)
        go_wp2
        go_ret
        exact ⟨ret_int (by simp), hw⟩
end Go.Proofs.YtdcbgkmhlpkjiaaDoor
