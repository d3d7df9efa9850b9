/- Names: the program's functions. -/
import Derived.Test.YtdcbgkmhlpkjiaaDoorRows
import Derived.Test.YtdcbgkmhlpkjiaaDoorGen
import Derived.Test.YtdcbgkmhlpkjiaaDoorForms
import Derived.Test.YtdcbgkmhlpkjiaaDoorNamesR
import Derived.Laws.StandIn
import Derived.Laws.Externs
import Derived.Lib.Bytealg
namespace Go.Proofs.YtdcbgkmhlpkjiaaDoor
open Go.RowKit Go.LF

set_option maxRecDepth 100000 in
set_option maxHeartbeats 1000000 in
theorem sliteIndexByte_any (s : List UInt8) (c : UInt8) (w : World) :
    Calls Tryd.prog 153 #[.string (B s), .int .u8 c.toNat] w fun e w' => e = .returned (.int .i64 (Lib.indexByte s c)) ∧ w = w' := by
  go_enter Tryd.func153, Tryd.ntmps153
  go_wp2
  rw [run_callFunc_extern Tryd.func154 (by kernel_rfl) (by kernel_rfl) (by kernel_rfl) (e := Extern.BytealgIndexByte.indexByte) (by kernel_rfl), Lib.run_indexByteString]
  simp only [Result.andThen]
  rw [Oper.upon_value]
  go_wp2
  go_ret
  exact ⟨ret_int (by simp), rfl⟩
set_option maxRecDepth 100000 in
set_option maxHeartbeats 1000000 in
theorem indexByte_any (s : List UInt8) (c : UInt8) (w : World) :
    Calls Tryd.prog 152 #[.string (B s), .int .u8 c.toNat] w fun e w' => e = .returned (.int .i64 (Lib.indexByte s c)) ∧ w = w' := by
  go_enter Tryd.func152, Tryd.ntmps152
  go_wp2_with (go_at_call 153; refine (sliteIndexByte_any _ _ _).mono ?_; rintro e w' ⟨rfl, rfl⟩)
  go_ret
  exact ⟨rfl, rfl⟩

/-- Where a byte stands among the signs that are no part of names. -/
def punctIdx (c : UInt8) : Int := Lib.indexByte [40, 41, 91, 93, 123, 125, 58, 46, 37] c
theorem punct_all : ∀ n : Fin 256, decide (punctIdx (UInt8.ofNat n.val) < 0) = (!special (UInt8.ofNat n.val) && (UInt8.ofNat n.val).toNat != 37) := by
  decide +kernel
theorem punct (c : UInt8) : decide (punctIdx c < 0) = (!special c && c.toNat != 37) := by
  have h := punct_all ⟨c.toNat, c.toNat_lt⟩
  simpa using h
theorem indexPunct_any (c : UInt8) (w : World) :
    Calls Tryd.prog 152 #[.string (B [40, 41, 91, 93, 123, 125, 58, 46, 37]), .int .u8 c.toNat] w fun e w' => e = .returned (.int .i64 (punctIdx c)) ∧ w = w' :=
  indexByte_any _ _ _

set_option maxRecDepth 100000 in
set_option maxHeartbeats 1000000 in
theorem nameByte_any (c : UInt8) (w : World) : Calls Tryd.prog 146 #[.int .u8 c.toNat] w fun e w' => e = .returned (.bool (nameByte c)) ∧ w = w' := by
  have hc := c.toNat_lt
  go_enter Tryd.func146, Tryd.ntmps146
  go_wp2_with (go_at_call 152; refine (indexPunct_any _ _).mono ?_; rintro e w' ⟨rfl, rfl⟩)
  all_goals go_ret
  all_goals refine ⟨ret_bool ?_, rfl⟩
  · rw [punct, nameByte]
    have h1 : 33 ≤ c.toNat := by omega
    have h2 : c.toNat ≤ 126 := by omega
    simp [h1, h2]
  all_goals (rw [eq_comm, nameByte]; simp; intros; omega)

set_option maxHeartbeats 1000000 in
theorem reserved_any (s : List UInt8) (w : World) : Calls Tryd.prog 147 #[.string (B s)] w fun e w' => e = .returned (.bool (reserved s)) ∧ w = w' := by
  go_enter Tryd.func147, Tryd.ntmps147
  go_wp2
  all_goals go_ret
  all_goals refine ⟨ret_bool ?_, rfl⟩
  all_goals (rw [Bool.eq_iff_iff]; first | (simp [reserved, *]; done) | (exfalso; simp_all; done))

/-- How many bytes at the head of a text may be part of a name. -/
def nameRun : List UInt8 → Nat
  | [] => 0
  | c :: r => if nameByte c then nameRun r + 1 else 0
theorem nameRun_le (s : List UInt8) : nameRun s ≤ s.length := by
  induction s with
  | nil => simp [nameRun]
  | cons c r ih => simp only [nameRun, List.length_cons]; split <;> omega
theorem nameRun_all (s : List UInt8) : (nameRun s = s.length) ↔ s.all nameByte = true := by
  induction s with
  | nil => simp [nameRun]
  | cons c r ih =>
    simp only [nameRun, List.length_cons, List.all_cons, Bool.and_eq_true]
    split
    · rename_i h; simp only [h, true_and]; rw [← ih]; omega
    · rename_i h; simp [h]
theorem nameRun_ge (s : List UInt8) (j : Nat) (h : j ≤ s.length) (hA : (s.take j).all nameByte = true) : j ≤ nameRun s := by
  induction s generalizing j with
  | nil => simp at h; omega
  | cons c r ih =>
    cases j with
    | zero => simp
    | succ j =>
      simp only [List.take_succ_cons, List.all_cons, Bool.and_eq_true] at hA
      simp only [nameRun, hA.1, if_true]
      have := ih j (by simpa using h) hA.2
      omega
theorem nameRun_stop (s : List UInt8) (j : Nat) (h : j < s.length) (hA : (s.take j).all nameByte = true) (hn : nameByte s[j] = false) : nameRun s = j := by
  induction s generalizing j with
  | nil => simp at h
  | cons c r ih =>
    cases j with
    | zero => simp only [List.getElem_cons_zero] at hn; simp [nameRun, hn]
    | succ j =>
      simp only [List.take_succ_cons, List.all_cons, Bool.and_eq_true] at hA
      simp only [List.getElem_cons_succ] at hn
      simp only [nameRun, hA.1, if_true]
      rw [ih j (by simpa using h) hA.2 hn]

set_option maxHeartbeats 1000000 in
theorem run_any (s : List UInt8) (w : World) (hs : s.length ≤ 1000000) :
    Calls Tryd.prog 145 #[.string (B s), .int .i64 0, .func (.func 146) #[] #[]] w fun e w' => e = .returned (.int .i64 (nameRun s)) ∧ w = w' := by
  go_enter Tryd.func145, Tryd.ntmps145
  go_wp2_with fail
  go_loop [1] (fun v => ∃ j : Nat, j ≤ s.length ∧ v = .int .i64 j ∧ (s.take j).all nameByte = true) (fun v => s.length - (intOf v).toNat)
  case atStart => exact ⟨0, by omega, rfl, rfl⟩
  case round =>
    obtain ⟨j, hj, rfl, hA⟩ := hrel
    have HA := hid hA
    clear hA
    by_cases hlt : j < s.length
    · have hb : (B s)[j]'(by simpa [B_size] using hlt) = s[j] := rfl
      have hT := all_take_succ nameByte s j hlt
      rw [HA.out] at hT
      have HT := hid hT
      clear hT
      by_cases hn : nameByte s[j] = true
      · go_wp2_with (go_at_call 146; refine (nameByte_any _ _).mono ?_; rintro e w' ⟨rfl, rfl⟩)
        go_round
        case rel => exact ⟨j + 1, by omega, by go_num, by rw [HT.out, hn]; rfl⟩
        case measure => simp [intOf]; omega
      · have hst := nameRun_stop s j hlt HA.out (by simpa using hn)
        have HST := hid hst
        clear hst
        go_wp2_with (go_at_call 146; refine (nameByte_any _ _).mono ?_; rintro e w' ⟨rfl, rfl⟩)
        go_ret
        exact ⟨ret_int (by rw [HST.out]), rfl⟩
    · have h1 := nameRun_ge s j hj HA.out
      have h2 := nameRun_le s
      go_wp2_with fail
      go_ret
      exact ⟨ret_int (by omega), rfl⟩

set_option maxHeartbeats 1000000 in
theorem isName_any (s : List UInt8) (w : World) (hs : s.length ≤ 1000000) : Calls Tryd.prog 131 #[.string (B s)] w fun e w' => e = .returned (.bool (isName s)) ∧ w = w' := by
  cases s with
  | nil =>
    go_enter Tryd.func131, Tryd.ntmps131
    go_wp2_with fail
    go_ret
    exact ⟨ret_bool (by simp [isName]), rfl⟩
  | cons c r =>
    have h0 := B_get0 c r (by simp [B_size])
    have hr := nameRun_all (c :: r)
    have hl := nameRun_le (c :: r)
    simp only [List.length_cons] at hr hl hs
    have HR := hid hr
    clear hr
    generalize hx : nameRun (c :: r) = x at *
    have HX := hid hx
    clear hx
    have hrun : ∀ w, Calls Tryd.prog 145 #[.string (B (c :: r)), .int .i64 0, .func (.func 146) #[] #[]] w fun e w' => e = .returned (.int .i64 x) ∧ w = w' := by
      intro w; have := run_any (c :: r) w (by simp; omega); rwa [HX.out] at this
    go_enter Tryd.func131, Tryd.ntmps131
    go_wp2_with (first | (go_at_call 145; refine (hrun _).mono ?_; rintro e w' ⟨rfl, rfl⟩) | (go_at_call 147; refine (reserved_any _ _).mono ?_; rintro e w' ⟨rfl, rfl⟩))
    all_goals go_ret
    all_goals refine ⟨ret_bool ?_, rfl⟩
    · rename_i h
      rw [eq_comm, isName_not_iff]
      simp [h]
    · rename_i h1 h2 h3
      have h4 : x = r.length + 1 := by omega
      have h5 := HR.out.1 h4
      rw [isName_cons]
      simp only [List.all_cons, Bool.and_eq_true] at h5
      have h6 : r.length + 1 ≤ 64 := by omega
      rw [Bool.eq_iff_iff]
      simp [h5, h6, h3]
      omega
    · rename_i h1 h2
      rw [eq_comm, isName_not_iff]
      intro hh
      exact h2 (by have := HR.out.2 hh.2.1; omega)
    · rename_i h1
      rw [eq_comm, isName_not_iff]
      intro hh
      omega
end Go.Proofs.YtdcbgkmhlpkjiaaDoor
