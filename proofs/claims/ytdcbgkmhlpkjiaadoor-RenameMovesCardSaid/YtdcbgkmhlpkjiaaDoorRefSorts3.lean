/- The reference's sorts of terms, on. -/
import Derived.Test.YtdcbgkmhlpkjiaaDoorRefSorts2
namespace Go.Proofs.YtdcbgkmhlpkjiaaDoor
open Go.RowKit Go.LF

set_option maxRecDepth 100000 in
set_option maxHeartbeats 4000000 in
theorem sorts4_yes (k i : Int) (n : List UInt8) (hn : n.length ≤ 1000000) (ts : List Tm) (hlen : ts.length ≤ 1000000) (H : SortsAt ts) (h1 : (k == 4) = true) (hf : isName n = true) (hi : i = 0) (w : World) (a : Option Addr) (cap : Nat)
    (hE : RepE none' w 4 (ts.map Tm.dat) a 0) (r : Int) (hr : (if Tm.allObj ts then 3 else 0) = r) :
    Calls Tryd.prog 78 #[.agg #[.int .i64 k, .string (B n), .int .i64 i, .slice a ts.length cap]] w fun e w' => e = .returned (.int .i64 r) ∧ Upto none' w w' := by
  have HR := hid hr
  clear hr
  obtain rfl : k = 4 := by simpa using h1
  clear h1
  subst hi
  go_enter Tryd.func78, Tryd.ntmps78
  go_wp2_with (first | (go_at_call 113; refine (refIsName_any _ _ hn).mono ?_; rintro e w' ⟨rfl, rfl⟩) | fail)
  go_loopw [6] (fun v wr => ∃ j : Nat, j ≤ ts.length ∧ v = .int .i64 j ∧ (ts.take j).all Tm.isObj = true ∧ Upto none' (w.alloc (.cells #[.int .i64 4, .string (B n), .int .i64 0, .slice a ts.length cap] 25)) wr)
    (fun v _ => ts.length - (intOf v).toNat)
  case atStart => exact ⟨0, Nat.zero_le _, rfl, rfl, Upto.refl _ _⟩
  case round =>
    obtain ⟨j, hj, rfl, hA, hU⟩ := hrel
    have HA := hid hA
    clear hA
    have hw : Upto none' w wr := hU.behind
    obtain ⟨b0, b1, b2, b3⟩ := box_new hU
    by_cases hlt : j < ts.length
    · obtain ⟨b, o, k1, n1, x1, s1, c1, rfl, hb, _, hc0, hc1, hc2, hc3, hRp⟩ := arg_tm (hE.on hw) j hlt
      have Hc := H _ (List.getElem_mem hlt) _ _ hRp
      have hT := all_take_succ Tm.isObj ts j hlt
      rw [HA.out] at hT
      have hbit := bits_obj ts[j]
      have hM : ts[j].isObj = false → Tm.allObj ts = false := fun h => by
        rw [Tm.allObj_iff]; exact List.all_eq_false.2 ⟨_, List.getElem_mem hlt, by simp [h]⟩
      have HT := hid hT
      have HM := hid hM
      clear hT hM
      generalize sorts ts[j] = sx at *
      generalize ts[j].isObj = bo at *
      cases bo
      all_goals
        simp only [Bool.false_eq_true, if_false, if_true] at hbit
        go_wp2_with fail
        refine Hc.mono ?_
        rintro e w1 ⟨rfl, hU1⟩
        go_wp2
      · go_ret
        exact ⟨ret_int (by rw [← HR.out, HM.out (by trivial)]; rfl), hw.and hU1⟩
      · go_roundw
        case rel => exact ⟨j + 1, by omega, by go_num, by rw [HT.out]; rfl, hU.and hU1⟩
        case measure => simp [intOf]; omega
    · have hj' : ts.take j = ts := List.take_of_length_le (by omega)
      have HA' := HA.out
      rw [hj', ← Tm.allObj_iff] at HA'
      have HO := hid HA'
      clear HA HA' hj'
      go_wp2
      go_ret
      exact ⟨ret_int (by rw [← HR.out, HO.out]; rfl), hw⟩

set_option maxRecDepth 100000 in
set_option maxHeartbeats 4000000 in
theorem sorts5_yes (k i : Int) (n : List UInt8) (hn : n.length ≤ 1000000) (ts : List Tm) (hlen : ts.length ≤ 1000000) (H : SortsAt ts) (h1 : (k == 5) = true) (hf : n = []) (hi0 : 0 ≤ i) (hi1 : i ≤ 1048576) (w : World) (a : Option Addr) (cap : Nat)
    (hE : RepE none' w 4 (ts.map Tm.dat) a 0) (r : Int) (hr : (if Tm.allObj ts then 1 else 0) = r) :
    Calls Tryd.prog 78 #[.agg #[.int .i64 k, .string (B n), .int .i64 i, .slice a ts.length cap]] w fun e w' => e = .returned (.int .i64 r) ∧ Upto none' w w' := by
  have HR := hid hr
  clear hr
  obtain rfl : k = 5 := by simpa using h1
  clear h1
  subst hf
  go_enter Tryd.func78, Tryd.ntmps78
  go_wp2_with (first | (go_at_call 113; refine (refIsName_any _ _ hn).mono ?_; rintro e w' ⟨rfl, rfl⟩) | fail)
  go_loopw [6] (fun v wr => ∃ j : Nat, j ≤ ts.length ∧ v = .int .i64 j ∧ (ts.take j).all Tm.isObj = true ∧ Upto none' (w.alloc (.cells #[.int .i64 5, .string (B []), .int .i64 i, .slice a ts.length cap] 25)) wr)
    (fun v _ => ts.length - (intOf v).toNat)
  case atStart => exact ⟨0, Nat.zero_le _, rfl, rfl, Upto.refl _ _⟩
  case round =>
    obtain ⟨j, hj, rfl, hA, hU⟩ := hrel
    have HA := hid hA
    clear hA
    have hw : Upto none' w wr := hU.behind
    obtain ⟨b0, b1, b2, b3⟩ := box_new hU
    by_cases hlt : j < ts.length
    · obtain ⟨b, o, k1, n1, x1, s1, c1, rfl, hb, _, hc0, hc1, hc2, hc3, hRp⟩ := arg_tm (hE.on hw) j hlt
      have Hc := H _ (List.getElem_mem hlt) _ _ hRp
      have hT := all_take_succ Tm.isObj ts j hlt
      rw [HA.out] at hT
      have hbit := bits_obj ts[j]
      have hM : ts[j].isObj = false → Tm.allObj ts = false := fun h => by
        rw [Tm.allObj_iff]; exact List.all_eq_false.2 ⟨_, List.getElem_mem hlt, by simp [h]⟩
      have HT := hid hT
      have HM := hid hM
      clear hT hM
      generalize sorts ts[j] = sx at *
      generalize ts[j].isObj = bo at *
      cases bo
      all_goals
        simp only [Bool.false_eq_true, if_false, if_true] at hbit
        go_wp2_with fail
        refine Hc.mono ?_
        rintro e w1 ⟨rfl, hU1⟩
        go_wp2
      · go_ret
        exact ⟨ret_int (by rw [← HR.out, HM.out (by trivial)]; rfl), hw.and hU1⟩
      · go_roundw
        case rel => exact ⟨j + 1, by omega, by go_num, by rw [HT.out]; rfl, hU.and hU1⟩
        case measure => simp [intOf]; omega
    · have hj' : ts.take j = ts := List.take_of_length_le (by omega)
      have HA' := HA.out
      rw [hj', ← Tm.allObj_iff] at HA'
      have HO := hid HA'
      clear HA HA' hj'
      go_wp2
      go_ret
      exact ⟨ret_int (by rw [← HR.out, HO.out]; rfl), hw⟩

set_option maxRecDepth 100000 in
set_option maxHeartbeats 4000000 in
theorem sorts6_yes (k i : Int) (n : List UInt8) (hn : n.length ≤ 1000000) (ts : List Tm) (hlen : ts.length ≤ 1000000) (H : SortsAt ts) (h1 : (k == 6) = true) (hf : n = []) (hi0 : 0 ≤ i) (hi1 : i < 2048) (w : World) (a : Option Addr) (cap : Nat)
    (hE : RepE none' w 4 (ts.map Tm.dat) a 0) (r : Int) (hr : (if Tm.allObj ts then 1 else 0) = r) :
    Calls Tryd.prog 78 #[.agg #[.int .i64 k, .string (B n), .int .i64 i, .slice a ts.length cap]] w fun e w' => e = .returned (.int .i64 r) ∧ Upto none' w w' := by
  have HR := hid hr
  clear hr
  obtain rfl : k = 6 := by simpa using h1
  clear h1
  subst hf
  go_enter Tryd.func78, Tryd.ntmps78
  go_wp2_with (first | (go_at_call 113; refine (refIsName_any _ _ hn).mono ?_; rintro e w' ⟨rfl, rfl⟩) | fail)
  go_loopw [6] (fun v wr => ∃ j : Nat, j ≤ ts.length ∧ v = .int .i64 j ∧ (ts.take j).all Tm.isObj = true ∧ Upto none' (w.alloc (.cells #[.int .i64 6, .string (B []), .int .i64 i, .slice a ts.length cap] 25)) wr)
    (fun v _ => ts.length - (intOf v).toNat)
  case atStart => exact ⟨0, Nat.zero_le _, rfl, rfl, Upto.refl _ _⟩
  case round =>
    obtain ⟨j, hj, rfl, hA, hU⟩ := hrel
    have HA := hid hA
    clear hA
    have hw : Upto none' w wr := hU.behind
    obtain ⟨b0, b1, b2, b3⟩ := box_new hU
    by_cases hlt : j < ts.length
    · obtain ⟨b, o, k1, n1, x1, s1, c1, rfl, hb, _, hc0, hc1, hc2, hc3, hRp⟩ := arg_tm (hE.on hw) j hlt
      have Hc := H _ (List.getElem_mem hlt) _ _ hRp
      have hT := all_take_succ Tm.isObj ts j hlt
      rw [HA.out] at hT
      have hbit := bits_obj ts[j]
      have hM : ts[j].isObj = false → Tm.allObj ts = false := fun h => by
        rw [Tm.allObj_iff]; exact List.all_eq_false.2 ⟨_, List.getElem_mem hlt, by simp [h]⟩
      have HT := hid hT
      have HM := hid hM
      clear hT hM
      generalize sorts ts[j] = sx at *
      generalize ts[j].isObj = bo at *
      cases bo
      all_goals
        simp only [Bool.false_eq_true, if_false, if_true] at hbit
        go_wp2_with fail
        refine Hc.mono ?_
        rintro e w1 ⟨rfl, hU1⟩
        go_wp2
      · go_ret
        exact ⟨ret_int (by rw [← HR.out, HM.out (by trivial)]; rfl), hw.and hU1⟩
      · go_roundw
        case rel => exact ⟨j + 1, by omega, by go_num, by rw [HT.out]; rfl, hU.and hU1⟩
        case measure => simp [intOf]; omega
    · have hj' : ts.take j = ts := List.take_of_length_le (by omega)
      have HA' := HA.out
      rw [hj', ← Tm.allObj_iff] at HA'
      have HO := hid HA'
      clear HA HA' hj'
      go_wp2
      go_ret
      exact ⟨ret_int (by rw [← HR.out, HO.out]; rfl), hw⟩

end Go.Proofs.YtdcbgkmhlpkjiaaDoor
