/- The reference's Size, Depth, Small, Under. -/
import Derived.Test.YtdcbgkmhlpkjiaaDoorBox
import Derived.Test.YtdcbgkmhlpkjiaaDoorRows
import Derived.Test.YtdcbgkmhlpkjiaaDoorForms
namespace Go.Proofs.YtdcbgkmhlpkjiaaDoor
open Go.RowKit Go.LF

set_option maxHeartbeats 1000000 in
theorem refSize_any (t : Tm) : t.size ≤ 1000000 → ∀ (w : World) (cs : List Value), Rep none' w t.dat cs →
    Calls Tryd.prog 28 #[.agg cs.toArray] w fun e w' => e = .returned (.int .i64 t.size) ∧ Upto none' w w' := by
  induction t using Tm.ind with
  | h k n i ts ih =>
    intro hs w cs h
    obtain ⟨a, cap, rfl, hcap, hE⟩ := rep_tm.1 h
    have hlen := Tm.length_le_sizes ts
    have hds := Tm.depths_le_sizes ts
    simp only [Tm.size_mk] at hs
    go_enter Tryd.func28, Tryd.ntmps28
    go_wp2_with fail
    go_loopw [3, 4] (fun v3 v9 wr => ∃ j : Nat, j ≤ ts.length ∧ v9 = .int .i64 j ∧ v3 = .int .i64 (1 + Tm.sizes (ts.take j)) ∧ Upto none' (w.alloc (.cells #[.int .i64 k, .string (B n), .int .i64 i, .slice a ts.length cap] 25)) wr)
      (fun _ v9 _ => ts.length - (intOf v9).toNat)
    case atStart => exact ⟨0, Nat.zero_le _, rfl, rfl, Upto.refl _ _⟩
    case round =>
      obtain ⟨j, hj, rfl, rfl, hU⟩ := hrel
      have hw : Upto none' w wr := hU.behind
      obtain ⟨b0, b1, b2, b3⟩ := box_new hU
      have hdj := Tm.sizes_take_le ts j
      by_cases hlt : j < ts.length
      · obtain ⟨b, o, k1, n1, x1, s1, c1, rfl, hb, _, hc0, hc1, hc2, hc3, hR⟩ := arg_tm (hE.on hw) j hlt
        have hd1 := Tm.depth_le_depths (List.getElem_mem hlt)
        have hs1 := Tm.size_le_sizes (List.getElem_mem hlt)
        have hsum : Tm.sizes (ts.take j) + ts[j].size ≤ Tm.sizes ts := by rw [← Tm.sizes_take_succ ts j hlt]; exact Tm.sizes_take_le ts (j + 1)
        go_wp2_with fail
        refine (ih _ (List.getElem_mem hlt) (by omega) _ _ hR).mono ?_
        rintro e w1 ⟨rfl, hU1⟩
        go_wp2
        go_roundw
        case rel =>
          refine ⟨j + 1, by omega, by go_num, int_eq ?_, hU.and hU1⟩
          rw [Tm.sizes_take_succ ts j hlt]
          omega
        case measure => simp [intOf]; omega
      · have hj' : ts.take j = ts := List.take_of_length_le (by omega)
        go_wp2
        go_ret
        exact ⟨ret_int (by rw [hj']; simp; omega), hw⟩

set_option maxHeartbeats 1000000 in
theorem refDepth_any (t : Tm) : t.size ≤ 1000000 → ∀ (w : World) (cs : List Value), Rep none' w t.dat cs →
    Calls Tryd.prog 30 #[.agg cs.toArray] w fun e w' => e = .returned (.int .i64 t.depth) ∧ Upto none' w w' := by
  induction t using Tm.ind with
  | h k n i ts ih =>
    intro hs w cs h
    obtain ⟨a, cap, rfl, hcap, hE⟩ := rep_tm.1 h
    have hlen := Tm.length_le_sizes ts
    have hds := Tm.depths_le_sizes ts
    simp only [Tm.size_mk] at hs
    go_enter Tryd.func30, Tryd.ntmps30
    go_wp2_with fail
    go_loopw [3, 4] (fun v3 v9 wr => ∃ j : Nat, j ≤ ts.length ∧ v9 = .int .i64 j ∧ v3 = .int .i64 (Tm.depths (ts.take j)) ∧ Upto none' (w.alloc (.cells #[.int .i64 k, .string (B n), .int .i64 i, .slice a ts.length cap] 25)) wr)
      (fun _ v9 _ => ts.length - (intOf v9).toNat)
    case atStart => exact ⟨0, Nat.zero_le _, rfl, rfl, Upto.refl _ _⟩
    case round =>
      obtain ⟨j, hj, rfl, rfl, hU⟩ := hrel
      have hw : Upto none' w wr := hU.behind
      obtain ⟨b0, b1, b2, b3⟩ := box_new hU
      have hdj := Tm.depths_take_le ts j
      by_cases hlt : j < ts.length
      · obtain ⟨b, o, k1, n1, x1, s1, c1, rfl, hb, _, hc0, hc1, hc2, hc3, hR⟩ := arg_tm (hE.on hw) j hlt
        have hd1 := Tm.depth_le_depths (List.getElem_mem hlt)
        have hs1 := Tm.size_le_sizes (List.getElem_mem hlt)
        go_wp2_with fail
        refine (ih _ (List.getElem_mem hlt) (by omega) _ _ hR).mono ?_
        rintro e w1 ⟨rfl, hU1⟩
        go_wp2
        go_roundw
        case rel =>
          refine ⟨j + 1, by omega, by go_num, int_eq ?_, hU.and hU1⟩
          rw [Tm.depths_take_succ ts j hlt]
          split <;> omega
        case measure => simp [intOf]; omega
      · have hj' : ts.take j = ts := List.take_of_length_le (by omega)
        go_wp2
        go_ret
        exact ⟨ret_int (by simp), hw⟩

set_option maxHeartbeats 1000000 in
theorem refSmall_any (t : Tm) (hs' : t.size ≤ 1000000) (w : World) (cs : List Value) (h : Rep none' w t.dat cs) :
    Calls Tryd.prog 79 #[.agg cs.toArray] w fun e w' => e = .returned (.bool t.small) ∧ Upto none' w w' := by
  have hp : (decide (t.size ≤ 4096) && decide (t.depth ≤ 128)) = t.small := rfl
  have HS := fun w cs h => refSize_any t hs' w cs h
  have HD := fun w cs h => refDepth_any t hs' w cs h
  obtain ⟨k, n, i, ts, a, cap, ht, rfl, hcap, hE⟩ := tm_open h
  generalize t.size = sz at *
  generalize t.depth = dp at *
  generalize t.small = sm at *
  have HT := hid ht
  have HP := hid hp
  clear ht hp hcap
  generalize ts.length = len at *
  go_enter Tryd.func79, Tryd.ntmps79
  go_wp2_with fail
  refine (HS _ _ (h.new _)).mono ?_
  rintro e w1 ⟨rfl, hU⟩
  obtain ⟨b0, b1, b2, b3⟩ := box_new hU
  have hw1 : Upto none' w w1 := hU.behind
  by_cases hsz : sz ≤ 4096
  · go_wp2_with fail
    refine (HD _ _ (h.on hw1)).mono ?_
    rintro e w2 ⟨rfl, hU2⟩
    go_wp2
    go_ret
    exact ⟨ret_bool (by rw [← HP.out, Bool.eq_iff_iff]; simp; omega), hw1.and hU2⟩
  · go_wp2_with fail
    go_ret
    exact ⟨ret_bool (by rw [← HP.out, Bool.eq_iff_iff]; simp; omega), hw1⟩

set_option maxHeartbeats 1000000 in
theorem under_any (k j : Int) (j' : Nat) (hj : j = j') (n : List UInt8) (i : Int) (s : Value) (w : World) :
    Calls Tryd.prog 116 #[.agg #[.int .i64 k, .string (B n), .int .i64 i, s], .int .i64 j] w fun e w' => e = .returned (.int .i64 (Tm.under k j')) ∧ Upto none' w w' := by
  rcases under_ways k j' with ⟨k3, hu⟩ | ⟨k3, k2, j1, hu⟩ | ⟨k3, k2, j1, hu⟩ | ⟨k3, k2, hu⟩
  all_goals
    rw [hu]
    clear hu
    subst hj
    go_enter Tryd.func116, Tryd.ntmps116
    go_wp2
    go_ret
    exact ⟨rfl, (Upto.refl _ _).alloc _⟩
end Go.Proofs.YtdcbgkmhlpkjiaaDoor
