/- The reference's Size, Depth, Small, Under. -/
import Derived.Test.YtdomloghcpfdjaaGreatDoorRCA
import Derived.Test.YtdomloghcpfdjaaGreatDoorRCB
import Derived.Test.YtdomloghcpfdjaaGreatDoorRows
namespace Go.Proofs.YtdomloghcpfdjaaGreatDoor
open Go.RowKit Go.LF
set_option maxHeartbeats 1000000 in
theorem refSize_any (t : Tm) : t.size ≤ 1000000 → ∀ (w : World) (cs : List Value), Rep none' w t.dat cs →
    Calls Tryz.prog 182 #[.agg cs.toArray] w fun e w' => e = .returned (.int .i64 t.size) ∧ Upto none' w w' := by
  induction t using Tm.ind with
  | h k n i ts ih =>
    intro hs w cs h
    obtain ⟨a, cap, rfl, hcap, hE⟩ := rep_tm.1 h
    have hlen := Tm.length_le_sizes ts
    have hds := Tm.depths_le_sizes ts
    simp only [Tm.size_mk] at hs
    go_enter Tryz.func182, Tryz.ntmps182
    go_wp2_with fail
    go_loopw [3, 4] (fun v3 v9 wr => ∃ j : Nat, j ≤ ts.length ∧ v9 = .int .i64 j ∧ v3 = .int .i64 (1 + Tm.sizes (ts.take j)) ∧ Upto none' (w.alloc (.cells #[.int .i64 k, .string (B n), .int .i64 i, .slice a ts.length cap] 29)) wr)
      (fun _ v9 _ => ts.length - (intOf v9).toNat)
    case atStart => exact ⟨0, Nat.zero_le _, rfl, rfl, Upto.refl _ _⟩
    case round =>
      obtain ⟨j, hj, rfl, rfl, hU⟩ := hrel
      have hw : Upto none' w wr := hU.behind
      obtain ⟨b0, b1, b2, b3⟩ := box_new hU
      have hdj := Tm.sizes_take_le ts j
      by_cases hlt : j < ts.length
      · obtain ⟨b, o, k1, n1, x1, s1, c1, rfl, hb, _, hc0, hc1, hc2, hc3, hR⟩ := arg_tm (hE.on hw) j hlt
        have hd1 := Tm.depth_le_depths (List.getElem_mem hlt)
        have hs1 := Tm.size_le_sizes (List.getElem_mem hlt)
        have hsum : Tm.sizes (ts.take j) + ts[j].size ≤ Tm.sizes ts := by rw [← Tm.sizes_take_succ ts j hlt]; exact Tm.sizes_take_le ts (j + 1)
        go_wp2_with fail
        refine (ih _ (List.getElem_mem hlt) (by omega) _ _ hR).mono ?_
        rintro e w1 ⟨rfl, hU1⟩
        go_wp2
        go_roundw
        case rel =>
          refine ⟨j + 1, by omega, by go_num, int_eq ?_, hU.and hU1⟩
          rw [Tm.sizes_take_succ ts j hlt]
          omega
        case measure => simp [intOf]; omega
      · have hj' : ts.take j = ts := List.take_of_length_le (by omega)
        go_wp2
        go_ret
        exact ⟨ret_int (by rw [hj']; simp; omega), hw⟩
set_option maxHeartbeats 1000000 in
theorem refDepth_any (t : Tm) : t.size ≤ 1000000 → ∀ (w : World) (cs : List Value), Rep none' w t.dat cs →
    Calls Tryz.prog 183 #[.agg cs.toArray] w fun e w' => e = .returned (.int .i64 t.depth) ∧ Upto none' w w' := by
  induction t using Tm.ind with
  | h k n i ts ih =>
    intro hs w cs h
    obtain ⟨a, cap, rfl, hcap, hE⟩ := rep_tm.1 h
    have hlen := Tm.length_le_sizes ts
    have hds := Tm.depths_le_sizes ts
    simp only [Tm.size_mk] at hs
    go_enter Tryz.func183, Tryz.ntmps183
    go_wp2_with fail
    go_loopw [3, 4] (fun v3 v9 wr => ∃ j : Nat, j ≤ ts.length ∧ v9 = .int .i64 j ∧ v3 = .int .i64 (Tm.depths (ts.take j)) ∧ Upto none' (w.alloc (.cells #[.int .i64 k, .string (B n), .int .i64 i, .slice a ts.length cap] 29)) wr)
      (fun _ v9 _ => ts.length - (intOf v9).toNat)
    case atStart => exact ⟨0, Nat.zero_le _, rfl, rfl, Upto.refl _ _⟩
    case round =>
      obtain ⟨j, hj, rfl, rfl, hU⟩ := hrel
      have hw : Upto none' w wr := hU.behind
      obtain ⟨b0, b1, b2, b3⟩ := box_new hU
      have hdj := Tm.depths_take_le ts j
      by_cases hlt : j < ts.length
      · obtain ⟨b, o, k1, n1, x1, s1, c1, rfl, hb, _, hc0, hc1, hc2, hc3, hR⟩ := arg_tm (hE.on hw) j hlt
        have hd1 := Tm.depth_le_depths (List.getElem_mem hlt)
        have hs1 := Tm.size_le_sizes (List.getElem_mem hlt)
        go_wp2_with fail
        refine (ih _ (List.getElem_mem hlt) (by omega) _ _ hR).mono ?_
        rintro e w1 ⟨rfl, hU1⟩
        go_wp2
        go_roundw
        case rel =>
          refine ⟨j + 1, by omega, by go_num, int_eq ?_, hU.and hU1⟩
          rw [Tm.depths_take_succ ts j hlt]
          split <;> omega
        case measure => simp [intOf]; omega
      · have hj' : ts.take j = ts := List.take_of_length_le (by omega)
        go_wp2
        go_ret
        exact ⟨ret_int (by simp), hw⟩
set_option maxHeartbeats 1000000 in
theorem refSmall_any (t : Tm) (hs' : t.size ≤ 1000000) (w : World) (cs : List Value) (h : Rep none' w t.dat cs) :
    Calls Tryz.prog 113 #[.agg cs.toArray] w fun e w' => e = .returned (.bool t.small) ∧ Upto none' w w' := by
  have hp : (decide (t.size ≤ 4096) && decide (t.depth ≤ 128)) = t.small := rfl
  have HS := fun w cs h => refSize_any t hs' w cs h
  have HD := fun w cs h => refDepth_any t hs' w cs h
  obtain ⟨k, n, i, ts, a, cap, ht, rfl, hcap, hE⟩ := tm_open h
  generalize t.size = sz at *
  generalize t.depth = dp at *
  generalize t.small = sm at *
  have HT := hid ht
  have HP := hid hp
  clear ht hp hcap
  generalize ts.length = len at *
  go_enter Tryz.func113, Tryz.ntmps113
  go_wp2_with fail
  refine (HS _ _ (h.new _)).mono ?_
  rintro e w1 ⟨rfl, hU⟩
  obtain ⟨b0, b1, b2, b3⟩ := box_new hU
  have hw1 : Upto none' w w1 := hU.behind
  by_cases hsz : sz ≤ 4096
  · go_wp2_with fail
    refine (HD _ _ (h.on hw1)).mono ?_
    rintro e w2 ⟨rfl, hU2⟩
    go_wp2
    go_ret
    exact ⟨ret_bool (by rw [← HP.out, Bool.eq_iff_iff]; simp; omega), hw1.and hU2⟩
  · go_wp2_with fail
    go_ret
    exact ⟨ret_bool (by rw [← HP.out, Bool.eq_iff_iff]; simp; omega), hw1⟩
set_option maxHeartbeats 1000000 in
theorem under_any (k j : Int) (j' : Nat) (hj : j = j') (n : List UInt8) (i : Int) (s : Value) (w : World) :
    Calls Tryz.prog 166 #[.agg #[.int .i64 k, .string (B n), .int .i64 i, s], .int .i64 j] w fun e w' => e = .returned (.int .i64 (Tm.under k j')) ∧ Upto none' w w' := by
  rcases under_ways k j' with ⟨k3, hu⟩ | ⟨k3, k2, j1, hu⟩ | ⟨k3, k2, j1, hu⟩ | ⟨k3, k2, hu⟩
  all_goals
    rw [hu]
    clear hu
    subst hj
    go_enter Tryz.func166, Tryz.ntmps166
    go_wp2
    go_ret
    exact ⟨rfl, (Upto.refl _ _).alloc _⟩
end Go.Proofs.YtdomloghcpfdjaaGreatDoor
namespace Go.Proofs.YtdomloghcpfdjaaGreatDoor
open Go.RowKit Go.LF
/-- The sum of the sorts of a term. -/
def sorts (t : Tm) : Int := (if t.isObj then 1 else 0) + (if t.isTyp then 2 else 0) + (if t.isKnd then 4 else 0)
set_option maxHeartbeats 4000000 in
theorem sorts1_any (k i : Int) (n : List UInt8) (ts : List Tm) (h1 : (k == 1) = true) (r : Int) (hr : (if n == [] && (i == 0 && ts.isEmpty) then 4 else 0) = r) (w : World) (a : Option Addr) (cap : Nat) :
    Calls Tryz.prog 112 #[.agg #[.int .i64 k, .string (B n), .int .i64 i, .slice a ts.length cap]] w fun e w' => e = .returned (.int .i64 r) ∧ Upto none' w w' := by
  have HR := hid hr
  clear hr
  obtain rfl : k = 1 := by simpa using h1
  clear h1
  go_enter Tryz.func112, Tryz.ntmps112
  go_wp2_with fail
  all_goals go_ret
  all_goals refine ⟨ret_int ?_, (Upto.refl _ _).alloc _⟩
  all_goals (rw [← HR.out]; cases ts <;> simp_all <;> omega)
set_option maxRecDepth 100000 in
set_option maxHeartbeats 4000000 in
theorem sorts2_no (k i : Int) (n : List UInt8) (hn : n.length ≤ 1000000) (ts : List Tm) (h1 : (k == 2) = true) (hb : Tm.bound n i ts 2 = false) (w : World) (a : Option Addr) (cap : Nat) :
    Calls Tryz.prog 112 #[.agg #[.int .i64 k, .string (B n), .int .i64 i, .slice a ts.length cap]] w fun e w' => e = .returned (.int .i64 0) ∧ Upto none' w w' := by
  have HB := hid hb
  clear hb
  obtain rfl : k = 2 := by simpa using h1
  clear h1
  go_enter Tryz.func112, Tryz.ntmps112
  go_wp2_with (first | (go_at_call 167; refine (refIsName_any _ _ hn).mono ?_; rintro e w' ⟨rfl, rfl⟩) | fail)
  all_goals try (go_ret; exact ⟨rfl, (Upto.refl _ _).alloc _⟩)
  all_goals (exfalso; have hb := HB.out; simp_all [Tm.bound]; try omega)
set_option maxRecDepth 100000 in
set_option maxHeartbeats 4000000 in
theorem sorts3_no (k i : Int) (n : List UInt8) (hn : n.length ≤ 1000000) (ts : List Tm) (h1 : (k == 3) = true) (hb : Tm.bound n i ts 1 = false) (w : World) (a : Option Addr) (cap : Nat) :
    Calls Tryz.prog 112 #[.agg #[.int .i64 k, .string (B n), .int .i64 i, .slice a ts.length cap]] w fun e w' => e = .returned (.int .i64 0) ∧ Upto none' w w' := by
  have HB := hid hb
  clear hb
  obtain rfl : k = 3 := by simpa using h1
  clear h1
  go_enter Tryz.func112, Tryz.ntmps112
  go_wp2_with (first | (go_at_call 167; refine (refIsName_any _ _ hn).mono ?_; rintro e w' ⟨rfl, rfl⟩) | fail)
  all_goals try (go_ret; exact ⟨rfl, (Upto.refl _ _).alloc _⟩)
  all_goals (exfalso; have hb := HB.out; simp_all [Tm.bound]; try omega)
theorem bits_sorts (t : Tm) (m : Int) (hm : m = 1 ∨ m = 2 ∨ m = 4 ∨ m = 6) :
    bits .and .i64 (sorts t) m = (if t.isObj then bits .and .i64 1 m else 0) + (if t.isTyp then bits .and .i64 2 m else 0) + (if t.isKnd then bits .and .i64 4 m else 0) := by
  unfold sorts
  rcases hm with rfl | rfl | rfl | rfl <;> cases t.isObj <;> cases t.isTyp <;> cases t.isKnd <;> decide
theorem bits_obj (t : Tm) : bits .and .i64 (sorts t) 1 = if t.isObj then 1 else 0 := by
  rw [bits_sorts t 1 (by simp)]; cases t.isObj <;> cases t.isTyp <;> cases t.isKnd <;> decide
theorem bits_typ (t : Tm) : bits .and .i64 (sorts t) 2 = if t.isTyp then 2 else 0 := by
  rw [bits_sorts t 2 (by simp)]; cases t.isObj <;> cases t.isTyp <;> cases t.isKnd <;> decide
theorem bits_tk (t : Tm) : bits .and .i64 (sorts t) 6 = (if t.isTyp then 2 else 0) + (if t.isKnd then 4 else 0) := by
  rw [bits_sorts t 6 (by simp)]; cases t.isObj <;> cases t.isTyp <;> cases t.isKnd <;> decide
/-- What is known of sorts at the arguments of a term. -/
def SortsAt (ts : List Tm) : Prop := ∀ x ∈ ts, ∀ (w : World) (cs : List Value), Rep none' w x.dat cs →
    Calls Tryz.prog 112 #[.agg cs.toArray] w fun e w' => e = .returned (.int .i64 (sorts x)) ∧ Upto none' w w'
end Go.Proofs.YtdomloghcpfdjaaGreatDoor
