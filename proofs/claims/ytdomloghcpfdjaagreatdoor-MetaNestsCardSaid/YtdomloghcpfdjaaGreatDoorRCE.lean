/- The reference's sorts of terms, on. -/
import Derived.Test.YtdomloghcpfdjaaGreatDoorRCD
namespace Go.Proofs.YtdomloghcpfdjaaGreatDoor
open Go.RowKit Go.LF
set_option maxRecDepth 100000 in
set_option maxHeartbeats 4000000 in
theorem sorts3_yes (k i : Int) (n : List UInt8) (hn : n.length ≤ 1000000) (x : Tm) (H : SortsAt [x]) (h1 : (k == 3) = true) (hb : Tm.bound n i [x] 1 = true) (w : World) (a : Option Addr) (cap : Nat)
    (hE : RepE none' w 4 ([x].map Tm.dat) a 0) :
    Calls Tryz.prog 112 #[.agg #[.int .i64 k, .string (B n), .int .i64 i, .slice a 1 cap]] w fun e w' => e = .returned (.int .i64 (if x.isObj then 1 else 0)) ∧ Upto none' w w' := by
  have HB := hid hb
  obtain ⟨hi, hnm⟩ : i = 0 ∧ (n = [] ∨ n = [95] ∨ (¬ n = [] ∧ ¬ n = [95] ∧ isName n = true)) := by
    unfold Tm.bound at hb; simp at hb
    obtain ⟨h1, (h2 | h2) | h2⟩ := hb
    · exact ⟨h1, .inl h2⟩
    · exact ⟨h1, .inr (.inl h2)⟩
    · exact ⟨h1, .inr (.inr ⟨by rintro rfl; exact absurd h2 (by decide), by rintro rfl; exact absurd h2 (by decide), h2⟩)⟩
  clear hb
  obtain rfl : k = 3 := by simpa using h1
  clear h1
  subst hi
  obtain ⟨b, o, k1, n1, x1, s1, c1, rfl, hbs, _, hc0, hc1, hc2, hc3, hR⟩ := arg_tm hE 0 (by simp)
  simp only [Nat.zero_mul, Nat.add_zero, List.getElem_cons_zero] at hc0 hc1 hc2 hc3 hR
  have Hx := H x (by simp)
  have hbit := bits_obj x
  generalize (if x.isObj then (1 : Int) else 0) = r at *
  generalize sorts x = sx at *
  clear H hE
  rcases hnm with rfl | rfl | ⟨hnm1, hnm2, hnm⟩
  all_goals
    go_enter Tryz.func112, Tryz.ntmps112
    go_wp2_with (first | (go_at_call 167; refine (refIsName_any _ _ hn).mono ?_; rintro e w' ⟨rfl, rfl⟩) | fail)
  all_goals
    refine (Hx _ _ (hR.on ((Upto.refl _ w).alloc _))).mono ?_
    rintro e w1 ⟨rfl, hU⟩
    go_wp2
    go_ret
    exact ⟨rfl, hU.behind⟩
set_option maxRecDepth 100000 in
set_option maxHeartbeats 4000000 in
theorem sorts2_yes (k i : Int) (n : List UInt8) (hn : n.length ≤ 1000000) (x y : Tm) (H : SortsAt [x, y]) (h1 : (k == 2) = true) (hb : Tm.bound n i [x, y] 2 = true) (w : World) (a : Option Addr) (cap : Nat)
    (hE : RepE none' w 4 ([x, y].map Tm.dat) a 0) (r : Int) (hr : (if x.isTyp then (if y.isTyp then 2 else 0) + (if y.isKnd then 4 else 0) else 0) = r) :
    Calls Tryz.prog 112 #[.agg #[.int .i64 k, .string (B n), .int .i64 i, .slice a 2 cap]] w fun e w' => e = .returned (.int .i64 r) ∧ Upto none' w w' := by
  have HB := hid hb
  obtain ⟨hi, hnm⟩ : i = 0 ∧ (n = [] ∨ n = [95] ∨ (¬ n = [] ∧ ¬ n = [95] ∧ isName n = true)) := by
    unfold Tm.bound at hb; simp at hb
    obtain ⟨h1, (h2 | h2) | h2⟩ := hb
    · exact ⟨h1, .inl h2⟩
    · exact ⟨h1, .inr (.inl h2)⟩
    · exact ⟨h1, .inr (.inr ⟨by rintro rfl; exact absurd h2 (by decide), by rintro rfl; exact absurd h2 (by decide), h2⟩)⟩
  clear hb
  obtain rfl : k = 2 := by simpa using h1
  clear h1
  subst hi
  obtain ⟨b, o, k1, n1, x1, s1, c1, rfl, hbs, _, p0, p1, p2, p3, hR⟩ := arg_tm hE 0 (by simp)
  obtain ⟨b', o', k2, n2, x2, s2, c2, e', hbs', _, q0, q1, q2, q3, hR2⟩ := arg_tm hE 1 (by simp)
  simp only [Option.some.injEq, Addr.mk.injEq] at e'
  obtain ⟨rfl, rfl, _⟩ := e'
  simp only [Nat.zero_mul, Nat.add_zero, Nat.one_mul, List.getElem_cons_zero, List.getElem_cons_succ] at p0 p1 p2 p3 q0 q1 q2 q3 hR hR2
  have Hx := H x (by simp)
  have Hy := H y (by simp)
  have hbit := bits_typ x
  have hbity := bits_tk y
  generalize (if y.isTyp then (2 : Int) else 0) + (if y.isKnd then (4 : Int) else 0) = ry at *
  generalize sorts x = sx at *
  generalize sorts y = sy at *
  generalize x.isTyp = bx at *
  clear H hE
  cases bx
  all_goals
    have HR := hid hr
    clear hr
    simp only [Bool.false_eq_true, if_false, if_true] at hbit
  · rcases hnm with rfl | rfl | ⟨hnm1, hnm2, hnm⟩
    all_goals
      go_enter Tryz.func112, Tryz.ntmps112
      go_wp2_with (first | (go_at_call 167; refine (refIsName_any _ _ hn).mono ?_; rintro e w' ⟨rfl, rfl⟩) | fail)
      refine (Hx _ _ (hR.on ((Upto.refl _ w).alloc _))).mono ?_
      rintro e w1 ⟨rfl, hU⟩
      obtain ⟨b0, b1, b2, b3⟩ := box_new hU
      go_wp2_with fail
      go_ret
      exact ⟨ret_int (by rw [← HR.out]; rfl), hU.behind⟩
  · rcases hnm with rfl | rfl | ⟨hnm1, hnm2, hnm⟩
    all_goals
      go_enter Tryz.func112, Tryz.ntmps112
      go_wp2_with (first | (go_at_call 167; refine (refIsName_any _ _ hn).mono ?_; rintro e w' ⟨rfl, rfl⟩) | fail)
      refine (Hx _ _ (hR.on ((Upto.refl _ w).alloc _))).mono ?_
      rintro e w1 ⟨rfl, hU⟩
      have hw1 : Upto none' w w1 := hU.behind
      obtain ⟨b0, b1, b2, b3⟩ := box_new hU
      have d0 := hw1.cell q0 (fun x => x)
      have d1 := hw1.cell q1 (fun x => x)
      have d2 := hw1.cell q2 (fun x => x)
      have d3 := hw1.cell q3 (fun x => x)
      clear q0 q1 q2 q3
      go_wp2_with fail
      refine (Hy _ _ (hR2.on hw1)).mono ?_
      rintro e w2 ⟨rfl, hU2⟩
      go_wp2_with fail
      go_ret
      exact ⟨ret_int (by rw [← HR.out]; rfl), hw1.and hU2⟩
end Go.Proofs.YtdomloghcpfdjaaGreatDoor
namespace Go.Proofs.YtdomloghcpfdjaaGreatDoor
open Go.RowKit Go.LF
set_option maxRecDepth 100000 in
set_option maxHeartbeats 4000000 in
theorem sorts4_yes (k i : Int) (n : List UInt8) (hn : n.length ≤ 1000000) (ts : List Tm) (hlen : ts.length ≤ 1000000) (H : SortsAt ts) (h1 : (k == 4) = true) (hf : isName n = true) (hi : i = 0) (w : World) (a : Option Addr) (cap : Nat)
    (hE : RepE none' w 4 (ts.map Tm.dat) a 0) (r : Int) (hr : (if Tm.allObj ts then 3 else 0) = r) :
    Calls Tryz.prog 112 #[.agg #[.int .i64 k, .string (B n), .int .i64 i, .slice a ts.length cap]] w fun e w' => e = .returned (.int .i64 r) ∧ Upto none' w w' := by
  have HR := hid hr
  clear hr
  obtain rfl : k = 4 := by simpa using h1
  clear h1
  subst hi
  go_enter Tryz.func112, Tryz.ntmps112
  go_wp2_with (first | (go_at_call 167; refine (refIsName_any _ _ hn).mono ?_; rintro e w' ⟨rfl, rfl⟩) | fail)
  go_loopw [6] (fun v wr => ∃ j : Nat, j ≤ ts.length ∧ v = .int .i64 j ∧ (ts.take j).all Tm.isObj = true ∧ Upto none' (w.alloc (.cells #[.int .i64 4, .string (B n), .int .i64 0, .slice a ts.length cap] 29)) wr)
    (fun v _ => ts.length - (intOf v).toNat)
  case atStart => exact ⟨0, Nat.zero_le _, rfl, rfl, Upto.refl _ _⟩
  case round =>
    obtain ⟨j, hj, rfl, hA, hU⟩ := hrel
    have HA := hid hA
    clear hA
    have hw : Upto none' w wr := hU.behind
    obtain ⟨b0, b1, b2, b3⟩ := box_new hU
    by_cases hlt : j < ts.length
    · obtain ⟨b, o, k1, n1, x1, s1, c1, rfl, hb, _, hc0, hc1, hc2, hc3, hRp⟩ := arg_tm (hE.on hw) j hlt
      have Hc := H _ (List.getElem_mem hlt) _ _ hRp
      have hT := all_take_succ Tm.isObj ts j hlt
      rw [HA.out] at hT
      have hbit := bits_obj ts[j]
      have hM : ts[j].isObj = false → Tm.allObj ts = false := fun h => by
        rw [Tm.allObj_iff]; exact List.all_eq_false.2 ⟨_, List.getElem_mem hlt, by simp [h]⟩
      have HT := hid hT
      have HM := hid hM
      clear hT hM
      generalize sorts ts[j] = sx at *
      generalize ts[j].isObj = bo at *
      cases bo
      all_goals
        simp only [Bool.false_eq_true, if_false, if_true] at hbit
        go_wp2_with fail
        refine Hc.mono ?_
        rintro e w1 ⟨rfl, hU1⟩
        go_wp2
      · go_ret
        exact ⟨ret_int (by rw [← HR.out, HM.out (by trivial)]; rfl), hw.and hU1⟩
      · go_roundw
        case rel => exact ⟨j + 1, by omega, by go_num, by rw [HT.out]; rfl, hU.and hU1⟩
        case measure => simp [intOf]; omega
    · have hj' : ts.take j = ts := List.take_of_length_le (by omega)
      have HA' := HA.out
      rw [hj', ← Tm.allObj_iff] at HA'
      have HO := hid HA'
      clear HA HA' hj'
      go_wp2
      go_ret
      exact ⟨ret_int (by rw [← HR.out, HO.out]; rfl), hw⟩
set_option maxRecDepth 100000 in
set_option maxHeartbeats 4000000 in
theorem sorts5_yes (k i : Int) (n : List UInt8) (hn : n.length ≤ 1000000) (ts : List Tm) (hlen : ts.length ≤ 1000000) (H : SortsAt ts) (h1 : (k == 5) = true) (hf : n = []) (hi0 : 0 ≤ i) (hi1 : i ≤ 1048576) (w : World) (a : Option Addr) (cap : Nat)
    (hE : RepE none' w 4 (ts.map Tm.dat) a 0) (r : Int) (hr : (if Tm.allObj ts then 1 else 0) = r) :
    Calls Tryz.prog 112 #[.agg #[.int .i64 k, .string (B n), .int .i64 i, .slice a ts.length cap]] w fun e w' => e = .returned (.int .i64 r) ∧ Upto none' w w' := by
  have HR := hid hr
  clear hr
  obtain rfl : k = 5 := by simpa using h1
  clear h1
  subst hf
  go_enter Tryz.func112, Tryz.ntmps112
  go_wp2_with (first | (go_at_call 167; refine (refIsName_any _ _ hn).mono ?_; rintro e w' ⟨rfl, rfl⟩) | fail)
  go_loopw [6] (fun v wr => ∃ j : Nat, j ≤ ts.length ∧ v = .int .i64 j ∧ (ts.take j).all Tm.isObj = true ∧ Upto none' (w.alloc (.cells #[.int .i64 5, .string (B []), .int .i64 i, .slice a ts.length cap] 29)) wr)
    (fun v _ => ts.length - (intOf v).toNat)
  case atStart => exact ⟨0, Nat.zero_le _, rfl, rfl, Upto.refl _ _⟩
  case round =>
    obtain ⟨j, hj, rfl, hA, hU⟩ := hrel
    have HA := hid hA
    clear hA
    have hw : Upto none' w wr := hU.behind
    obtain ⟨b0, b1, b2, b3⟩ := box_new hU
    by_cases hlt : j < ts.length
    · obtain ⟨b, o, k1, n1, x1, s1, c1, rfl, hb, _, hc0, hc1, hc2, hc3, hRp⟩ := arg_tm (hE.on hw) j hlt
      have Hc := H _ (List.getElem_mem hlt) _ _ hRp
      have hT := all_take_succ Tm.isObj ts j hlt
      rw [HA.out] at hT
      have hbit := bits_obj ts[j]
      have hM : ts[j].isObj = false → Tm.allObj ts = false := fun h => by
        rw [Tm.allObj_iff]; exact List.all_eq_false.2 ⟨_, List.getElem_mem hlt, by simp [h]⟩
      have HT := hid hT
      have HM := hid hM
      clear hT hM
      generalize sorts ts[j] = sx at *
      generalize ts[j].isObj = bo at *
      cases bo
      all_goals
        simp only [Bool.false_eq_true, if_false, if_true] at hbit
        go_wp2_with fail
        refine Hc.mono ?_
        rintro e w1 ⟨rfl, hU1⟩
        go_wp2
      · go_ret
        exact ⟨ret_int (by rw [← HR.out, HM.out (by trivial)]; rfl), hw.and hU1⟩
      · go_roundw
        case rel => exact ⟨j + 1, by omega, by go_num, by rw [HT.out]; rfl, hU.and hU1⟩
        case measure => simp [intOf]; omega
    · have hj' : ts.take j = ts := List.take_of_length_le (by omega)
      have HA' := HA.out
      rw [hj', ← Tm.allObj_iff] at HA'
      have HO := hid HA'
      clear HA HA' hj'
      go_wp2
      go_ret
      exact ⟨ret_int (by rw [← HR.out, HO.out]; rfl), hw⟩
set_option maxRecDepth 100000 in
set_option maxHeartbeats 4000000 in
theorem sorts6_yes (k i : Int) (n : List UInt8) (hn : n.length ≤ 1000000) (ts : List Tm) (hlen : ts.length ≤ 1000000) (H : SortsAt ts) (h1 : (k == 6) = true) (hf : n = []) (hi0 : 0 ≤ i) (hi1 : i < 2048) (w : World) (a : Option Addr) (cap : Nat)
    (hE : RepE none' w 4 (ts.map Tm.dat) a 0) (r : Int) (hr : (if Tm.allObj ts then 1 else 0) = r) :
    Calls Tryz.prog 112 #[.agg #[.int .i64 k, .string (B n), .int .i64 i, .slice a ts.length cap]] w fun e w' => e = .returned (.int .i64 r) ∧ Upto none' w w' := by
  have HR := hid hr
  clear hr
  obtain rfl : k = 6 := by simpa using h1
  clear h1
  subst hf
  go_enter Tryz.func112, Tryz.ntmps112
  go_wp2_with (first | (go_at_call 167; refine (refIsName_any _ _ hn).mono ?_; rintro e w' ⟨rfl, rfl⟩) | fail)
  go_loopw [6] (fun v wr => ∃ j : Nat, j ≤ ts.length ∧ v = .int .i64 j ∧ (ts.take j).all Tm.isObj = true ∧ Upto none' (w.alloc (.cells #[.int .i64 6, .string (B []), .int .i64 i, .slice a ts.length cap] 29)) wr)
    (fun v _ => ts.length - (intOf v).toNat)
  case atStart => exact ⟨0, Nat.zero_le _, rfl, rfl, Upto.refl _ _⟩
  case round =>
    obtain ⟨j, hj, rfl, hA, hU⟩ := hrel
    have HA := hid hA
    clear hA
    have hw : Upto none' w wr := hU.behind
    obtain ⟨b0, b1, b2, b3⟩ := box_new hU
    by_cases hlt : j < ts.length
    · obtain ⟨b, o, k1, n1, x1, s1, c1, rfl, hb, _, hc0, hc1, hc2, hc3, hRp⟩ := arg_tm (hE.on hw) j hlt
      have Hc := H _ (List.getElem_mem hlt) _ _ hRp
      have hT := all_take_succ Tm.isObj ts j hlt
      rw [HA.out] at hT
      have hbit := bits_obj ts[j]
      have hM : ts[j].isObj = false → Tm.allObj ts = false := fun h => by
        rw [Tm.allObj_iff]; exact List.all_eq_false.2 ⟨_, List.getElem_mem hlt, by simp [h]⟩
      have HT := hid hT
      have HM := hid hM
      clear hT hM
      generalize sorts ts[j] = sx at *
      generalize ts[j].isObj = bo at *
      cases bo
      all_goals
        simp only [Bool.false_eq_true, if_false, if_true] at hbit
        go_wp2_with fail
        refine Hc.mono ?_
        rintro e w1 ⟨rfl, hU1⟩
        go_wp2
      · go_ret
        exact ⟨ret_int (by rw [← HR.out, HM.out (by trivial)]; rfl), hw.and hU1⟩
      · go_roundw
        case rel => exact ⟨j + 1, by omega, by go_num, by rw [HT.out]; rfl, hU.and hU1⟩
        case measure => simp [intOf]; omega
    · have hj' : ts.take j = ts := List.take_of_length_le (by omega)
      have HA' := HA.out
      rw [hj', ← Tm.allObj_iff] at HA'
      have HO := hid HA'
      clear HA HA' hj'
      go_wp2
      go_ret
      exact ⟨ret_int (by rw [← HR.out, HO.out]; rfl), hw⟩
end Go.Proofs.YtdomloghcpfdjaaGreatDoor
namespace Go.Proofs.YtdomloghcpfdjaaGreatDoor
open Go.RowKit Go.LF
set_option maxRecDepth 100000 in
set_option maxHeartbeats 4000000 in
theorem sorts4_no (k i : Int) (n : List UInt8) (hn : n.length ≤ 1000000) (ts : List Tm) (h1 : (k == 4) = true) (hb : (isName n && i == 0) = false) (w : World) (a : Option Addr) (cap : Nat) :
    Calls Tryz.prog 112 #[.agg #[.int .i64 k, .string (B n), .int .i64 i, .slice a ts.length cap]] w fun e w' => e = .returned (.int .i64 0) ∧ Upto none' w w' := by
  obtain rfl : k = 4 := by simpa using h1
  clear h1
  by_cases hn1 : isName n = true
  · have hi : ¬ i = 0 := by simpa [hn1] using hb
    clear hb
    go_enter Tryz.func112, Tryz.ntmps112
    go_wp2_with (first | (go_at_call 167; refine (refIsName_any _ _ hn).mono ?_; rintro e w' ⟨rfl, rfl⟩) | fail)
    go_ret
    exact ⟨rfl, (Upto.refl _ _).alloc _⟩
  · clear hb
    have hn1 : isName n = false := by simpa using hn1
    go_enter Tryz.func112, Tryz.ntmps112
    go_wp2_with (first | (go_at_call 167; refine (refIsName_any _ _ hn).mono ?_; rintro e w' ⟨rfl, rfl⟩) | fail)
    all_goals go_ret
    all_goals exact ⟨rfl, (Upto.refl _ _).alloc _⟩
set_option maxRecDepth 100000 in
set_option maxHeartbeats 4000000 in
theorem sorts5_no (k i : Int) (n : List UInt8) (ts : List Tm) (h1 : (k == 5) = true) (hb : (n == [] && decide (0 ≤ i) && decide (i ≤ 1048576)) = false) (w : World) (a : Option Addr) (cap : Nat) :
    Calls Tryz.prog 112 #[.agg #[.int .i64 k, .string (B n), .int .i64 i, .slice a ts.length cap]] w fun e w' => e = .returned (.int .i64 0) ∧ Upto none' w w' := by
  obtain rfl : k = 5 := by simpa using h1
  clear h1
  by_cases hn1 : n = []
  · subst hn1
    by_cases h0 : 0 ≤ i
    · have h2 : ¬ i ≤ 1048576 := by simpa [h0] using hb
      clear hb
      go_enter Tryz.func112, Tryz.ntmps112
      go_wp2_with fail
      go_ret
      exact ⟨rfl, (Upto.refl _ _).alloc _⟩
    · clear hb
      go_enter Tryz.func112, Tryz.ntmps112
      go_wp2_with fail
      go_ret
      exact ⟨rfl, (Upto.refl _ _).alloc _⟩
  · clear hb
    go_enter Tryz.func112, Tryz.ntmps112
    go_wp2_with fail
    all_goals go_ret
    all_goals exact ⟨rfl, (Upto.refl _ _).alloc _⟩
set_option maxRecDepth 100000 in
set_option maxHeartbeats 4000000 in
theorem sorts6_no (k i : Int) (n : List UInt8) (ts : List Tm) (h1 : (k == 6) = true) (hb : (n == [] && decide (0 ≤ i) && decide (i < 2048)) = false) (w : World) (a : Option Addr) (cap : Nat) :
    Calls Tryz.prog 112 #[.agg #[.int .i64 k, .string (B n), .int .i64 i, .slice a ts.length cap]] w fun e w' => e = .returned (.int .i64 0) ∧ Upto none' w w' := by
  obtain rfl : k = 6 := by simpa using h1
  clear h1
  by_cases hn1 : n = []
  · subst hn1
    by_cases h0 : 0 ≤ i
    · have h2 : ¬ i < 2048 := by simpa [h0] using hb
      clear hb
      go_enter Tryz.func112, Tryz.ntmps112
      go_wp2_with fail
      go_ret
      exact ⟨rfl, (Upto.refl _ _).alloc _⟩
    · clear hb
      go_enter Tryz.func112, Tryz.ntmps112
      go_wp2_with fail
      go_ret
      exact ⟨rfl, (Upto.refl _ _).alloc _⟩
  · clear hb
    go_enter Tryz.func112, Tryz.ntmps112
    go_wp2_with fail
    all_goals go_ret
    all_goals exact ⟨rfl, (Upto.refl _ _).alloc _⟩
set_option maxRecDepth 100000 in
set_option maxHeartbeats 4000000 in
theorem sorts_none (k i : Int) (n : List UInt8) (ts : List Tm) (h1 : (k == 1) = false) (h2 : (k == 2) = false) (h3 : (k == 3) = false) (h4 : (k == 4) = false) (h5 : (k == 5) = false) (h6 : (k == 6) = false) (w : World) (a : Option Addr) (cap : Nat) :
    Calls Tryz.prog 112 #[.agg #[.int .i64 k, .string (B n), .int .i64 i, .slice a ts.length cap]] w fun e w' => e = .returned (.int .i64 0) ∧ Upto none' w w' := by
  go_enter Tryz.func112, Tryz.ntmps112
  go_wp2_with fail
  all_goals go_ret
  all_goals exact ⟨rfl, (Upto.refl _ _).alloc _⟩
end Go.Proofs.YtdomloghcpfdjaaGreatDoor
