/- Names: the reference's functions. -/
import Derived.Test.YtdcbgkmhlpkjiaaDoorRows
import Derived.Test.YtdcbgkmhlpkjiaaDoorGen
import Derived.Test.YtdcbgkmhlpkjiaaDoorForms
namespace Go.Proofs.YtdcbgkmhlpkjiaaDoor
open Go.RowKit Go.LF

set_option maxHeartbeats 1000000 in
theorem refSpecial_any (c : UInt8) (w : World) : Calls Tryd.prog 149 #[.int .u8 c.toNat] w fun e w' => e = .returned (.bool (special c)) ∧ w = w' := by
  have hc := c.toNat_lt
  go_enter Tryd.func149, Tryd.ntmps149
  go_wp2
  all_goals go_ret
  all_goals exact ⟨ret_bool (by rw [Bool.eq_iff_iff]; simp [special]; try omega), rfl⟩

set_option maxHeartbeats 1000000 in
theorem refNameByte_any (c : UInt8) (w : World) : Calls Tryd.prog 135 #[.int .u8 c.toNat] w fun e w' => e = .returned (.bool (nameByte c)) ∧ w = w' := by
  have hc := c.toNat_lt
  go_enter Tryd.func135, Tryd.ntmps135
  go_wp2_with (go_at_call 149; refine (refSpecial_any _ _).mono ?_; rintro e w' ⟨rfl, rfl⟩)
  all_goals go_ret
  all_goals refine ⟨ret_bool ?_, rfl⟩
  all_goals (rw [Bool.eq_iff_iff]; simp [nameByte, *]; try omega)

set_option maxHeartbeats 1000000 in
theorem refReserved_any (s : List UInt8) (w : World) : Calls Tryd.prog 134 #[.string (B s)] w fun e w' => e = .returned (.bool (reserved s)) ∧ w = w' := by
  go_enter Tryd.func134, Tryd.ntmps134
  go_wp2
  all_goals go_ret
  all_goals refine ⟨ret_bool ?_, rfl⟩
  all_goals (rw [Bool.eq_iff_iff]; simp [reserved, *])

theorem B_get0 (c : UInt8) (r : List UInt8) (h : 0 < (B (c :: r)).size) : (B (c :: r))[0] = c := rfl
set_option maxHeartbeats 1000000 in
theorem refIsName_any (s : List UInt8) (w : World) (hs : s.length ≤ 1000000) : Calls Tryd.prog 113 #[.string (B s)] w fun e w' => e = .returned (.bool (isName s)) ∧ w = w' := by
  cases s with
  | nil =>
    go_enter Tryd.func113, Tryd.ntmps113
    go_wp2_with fail
    go_ret
    exact ⟨ret_bool (by simp [isName]), rfl⟩
  | cons c r =>
    have h0 := B_get0 c r (by simp [B_size])
    have z1 : (((r.length : Int) + 1) == 0) = false := by simp; omega
    by_cases h1 : r.length + 1 ≤ 64
    case neg =>
      go_enter Tryd.func113, Tryd.ntmps113
      go_wp2_with fail
      go_ret
      exact ⟨ret_bool (by rw [eq_comm, isName_not_iff]; exact fun x => h1 x.1), rfl⟩
    have z2 : decide ((64 : Int) < (r.length : Int) + 1) = false := by simp; omega
    by_cases h2 : reserved (c :: r) = true
    case pos =>
      go_enter Tryd.func113, Tryd.ntmps113
      go_wp2_with (go_at_call 134; refine (refReserved_any _ _).mono ?_; rintro e w' ⟨rfl, rfl⟩)
      go_ret
      exact ⟨ret_bool (by rw [eq_comm, isName_not_iff]; simp [h2]), rfl⟩
    replace h2 : reserved (c :: r) = false := by simpa using h2
    by_cases h3 : c.toNat = 64
    case pos =>
      have h3' : ((c.toNat : Int) == 64) = true := by simp [h3]
      have H3 := hid h3
      clear h3
      go_enter Tryd.func113, Tryd.ntmps113
      go_wp2_with (go_at_call 134; refine (refReserved_any _ _).mono ?_; rintro e w' ⟨rfl, rfl⟩)
      go_ret
      exact ⟨ret_bool (by rw [eq_comm, isName_not_iff]; exact fun x => x.2.2.2 H3.out), rfl⟩
    have h3' : ((c.toNat : Int) == 64) = false := by simp; omega
    go_enter Tryd.func113, Tryd.ntmps113
    go_wp2_with (go_at_call 134; refine (refReserved_any _ _).mono ?_; rintro e w' ⟨rfl, rfl⟩)
    go_loop [3] (fun v => ∃ j : Nat, j ≤ r.length + 1 ∧ v = .int .i64 j ∧ ((c :: r).take j).all nameByte = true) (fun v => r.length + 1 - (intOf v).toNat)
    case atStart => exact ⟨0, by omega, rfl, rfl⟩
    case round =>
      obtain ⟨j, hj, rfl, hA⟩ := hrel
      have HA := hid hA
      clear hA
      by_cases hlt : j < r.length + 1
      · have hb : (B (c :: r))[j]'(by simpa [B_size] using hlt) = (c :: r)[j]'(by simpa using hlt) := rfl
        have hT := all_take_succ nameByte (c :: r) j (by simpa using hlt)
        rw [HA.out] at hT
        have HT := hid hT
        clear hT
        by_cases hn : nameByte ((c :: r)[j]'(by simpa using hlt)) = true
        all_goals go_wp2_with (go_at_call 135; refine (refNameByte_any _ _).mono ?_; rintro e w' ⟨rfl, rfl⟩)
        · go_round
          case rel => exact ⟨j + 1, by omega, by go_num, by rw [HT.out, hn]; rfl⟩
          case measure => simp [intOf]; omega
        · go_ret
          exact ⟨ret_bool (by rw [eq_comm, isName_not_iff]; exact fun x => hn (List.all_eq_true.1 x.2.1 _ (List.getElem_mem _))), rfl⟩
      · have hj' : (c :: r).take j = c :: r := List.take_of_length_le (by simp; omega)
        have HA' := HA.out
        rw [hj'] at HA'
        have H := hid ((isName_iff c r).2 ⟨h1, HA', h2, h3⟩)
        clear HA' hj'
        go_wp2
        go_ret
        exact ⟨ret_bool (by rw [H.out]), rfl⟩
end Go.Proofs.YtdcbgkmhlpkjiaaDoor
