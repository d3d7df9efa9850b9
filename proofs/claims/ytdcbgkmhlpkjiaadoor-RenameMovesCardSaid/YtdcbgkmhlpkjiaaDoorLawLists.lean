/- sameNumbers and sameNames of the laws of layer 5. -/
import Derived.Test.YtdcbgkmhlpkjiaaDoorRefConsts
namespace Go.Proofs.YtdcbgkmhlpkjiaaDoor
open Go.RowKit Go.LF

theorem take_eq_succ {α : Type} (l m : List α) (j : Nat) (h1 : j < l.length) (h2 : j < m.length) (h : l.take j = m.take j) (e : l[j] = m[j]) : l.take (j + 1) = m.take (j + 1) := by
  rw [List.take_succ_eq_append_getElem h1, List.take_succ_eq_append_getElem h2, h, e]

set_option maxHeartbeats 2000000 in
theorem sameNumbers_any (l m : List Int) (hl : l.length ≤ 10000000) (hm : m.length ≤ 10000000) {O O' : Nat → Prop} (w : World) (v u : Value) (h : Rep O w (intsD l) [v]) (h' : Rep O' w (intsD m) [u]) :
    Calls Tryd.prog 35 #[v, u] w fun e w' => e = .returned (.bool (l == m)) ∧ Upto none' w w' := by
  obtain ⟨a, cap, rfl, hcap, hE⟩ := ints_open h
  obtain ⟨a', cap', rfl, hcap', hE'⟩ := ints_open h'
  obtain ⟨r, hr⟩ : ∃ r, r = (l == m) := ⟨_, rfl⟩
  rw [← hr]
  have HR := hid hr
  clear hr h h'
  by_cases hlen : l.length = m.length
  case neg =>
    have hl2 : ((l.length : Int) != m.length) = true := by simp; omega
    have hrf : r = false := by rw [HR.out]; simp; intro e; exact hlen (by rw [e])
    subst hrf
    have HLN := hid hlen
    clear hlen
    go_enter Tryd.func35, Tryd.ntmps35
    go_wp2_with fail
    go_ret
    exact ⟨rfl, Upto.refl _ _⟩
  have hl2 : ((l.length : Int) != m.length) = false := by simp; omega
  have HLN := hid hlen
  clear hlen
  go_enter Tryd.func35, Tryd.ntmps35
  go_wp2_with fail
  go_loopw [5] (fun v5 wr => ∃ j : Nat, j ≤ l.length ∧ v5 = .int .i64 j ∧ l.take j = m.take j ∧ Upto none' w wr)
    (fun v5 _ => l.length - (intOf v5).toNat)
  case atStart => exact ⟨0, Nat.zero_le _, rfl, rfl, Upto.refl _ _⟩
  case round =>
    obtain ⟨j, hj, rfl, hA, hU⟩ := hrel
    have HA := hid hA
    clear hA
    by_cases hlt : j < l.length
    · have hlt2 : j < m.length := by have := HLN.out; omega
      obtain ⟨b, o, rfl, hb, _, hc⟩ := int_cell (hE.on hU) j hlt
      obtain ⟨b', o', rfl, hb', _, hc'⟩ := int_cell (hE'.on hU) j hlt2
      have j0 : (0 : Int) ≤ (j : Int) := by omega
      have j1 : (j : Int) < (l.length : Int) := by omega
      have j2 : (j : Int) < (m.length : Int) := by omega
      have hT := take_eq_succ l m j hlt hlt2 HA.out
      have hM : l[j] ≠ m[j] → l ≠ m := by intro hne e; subst e; exact hne rfl
      have HT := hid hT
      have HM := hid hM
      clear hT hM
      generalize l[j] = x at *
      generalize m[j] = y at *
      by_cases hx : (x != y) = true
      · have hx' := hid hx
        go_wp2_with fail
        go_region
        go_wp2
        go_ret
        refine ⟨ret_bool ?_, hU.drew⟩
        rw [HR.out]
        have := HM.out (by simpa using hx'.out)
        simpa using this
      · have hx' := hid hx
        replace hx : (x != y) = false := by simpa using hx
        go_wp2_with fail
        go_region
        go_wp2
        go_roundw
        case rel =>
          have fin : ∃ j1 : Nat, j1 ≤ l.length ∧ Value.int .i64 ((j : Int) + 1) = .int .i64 j1 ∧ l.take j1 = m.take j1 ∧ Upto none' w wr.drew :=
            ⟨j + 1, by omega, by go_num, HT.out (by simpa using hx'.out), hU.drew⟩
          first | exact fin | ((repeat apply Exists.intro); exact ⟨fin, rfl⟩)
        case measure => simp [intOf]; omega
    · have hj' : l.take j = l := List.take_of_length_le (by omega)
      have hj2 : m.take j = m := List.take_of_length_le (by have := HLN.out; omega)
      have HA' := HA.out
      rw [hj', hj2] at HA'
      have HO := hid HA'
      clear HA HA' hj' hj2
      go_wp2
      go_ret
      exact ⟨ret_bool (by rw [HR.out, HO.out]; simp), hU⟩

set_option maxHeartbeats 2000000 in
theorem sameNames_any (l m : List (List UInt8)) (hl : l.length ≤ 10000000) (hm : m.length ≤ 10000000) {O O' : Nat → Prop} (w : World) (v u : Value) (h : Rep O w (strsD l) [v]) (h' : Rep O' w (strsD m) [u]) :
    Calls Tryd.prog 38 #[v, u] w fun e w' => e = .returned (.bool (l == m)) ∧ Upto none' w w' := by
  obtain ⟨a, cap, rfl, hcap, hE⟩ := strs_open h
  obtain ⟨a', cap', rfl, hcap', hE'⟩ := strs_open h'
  obtain ⟨r, hr⟩ : ∃ r, r = (l == m) := ⟨_, rfl⟩
  rw [← hr]
  have HR := hid hr
  clear hr h h'
  by_cases hlen : l.length = m.length
  case neg =>
    have hl2 : ((l.length : Int) != m.length) = true := by simp; omega
    have hrf : r = false := by rw [HR.out]; simp; intro e; exact hlen (by rw [e])
    subst hrf
    have HLN := hid hlen
    clear hlen
    go_enter Tryd.func38, Tryd.ntmps38
    go_wp2_with fail
    go_ret
    exact ⟨rfl, Upto.refl _ _⟩
  have hl2 : ((l.length : Int) != m.length) = false := by simp; omega
  have HLN := hid hlen
  clear hlen
  go_enter Tryd.func38, Tryd.ntmps38
  go_wp2_with fail
  go_loopw [5] (fun v5 wr => ∃ j : Nat, j ≤ l.length ∧ v5 = .int .i64 j ∧ l.take j = m.take j ∧ Upto none' w wr)
    (fun v5 _ => l.length - (intOf v5).toNat)
  case atStart => exact ⟨0, Nat.zero_le _, rfl, rfl, Upto.refl _ _⟩
  case round =>
    obtain ⟨j, hj, rfl, hA, hU⟩ := hrel
    have HA := hid hA
    clear hA
    by_cases hlt : j < l.length
    · have hlt2 : j < m.length := by have := HLN.out; omega
      obtain ⟨b, o, rfl, hb, _, hc⟩ := str_cell (hE.on hU) j hlt
      obtain ⟨b', o', rfl, hb', _, hc'⟩ := str_cell (hE'.on hU) j hlt2
      have j0 : (0 : Int) ≤ (j : Int) := by omega
      have j1 : (j : Int) < (l.length : Int) := by omega
      have j2 : (j : Int) < (m.length : Int) := by omega
      have hT := take_eq_succ l m j hlt hlt2 HA.out
      have hM : l[j] ≠ m[j] → l ≠ m := by intro hne e; subst e; exact hne rfl
      have HT := hid hT
      have HM := hid hM
      clear hT hM
      generalize l[j] = x at *
      generalize m[j] = y at *
      by_cases hx : (x != y) = true
      · have hx' := hid hx
        have hx2 : (x == y) = false := by simpa [bne] using hx
        go_wp2_with fail
        go_region
        go_wp2
        go_ret
        refine ⟨ret_bool ?_, hU.drew⟩
        rw [HR.out]
        have := HM.out (by simpa using hx'.out)
        simpa using this
      · have hx' := hid hx
        replace hx : (x != y) = false := by simpa using hx
        have hx2 : (x == y) = true := by simpa [bne] using hx
        go_wp2_with fail
        go_region
        go_wp2
        have fin : ∃ j1 : Nat, j1 ≤ l.length ∧ Value.int .i64 ((j : Int) + 1) = .int .i64 j1 ∧ l.take j1 = m.take j1 ∧ Upto none' w wr.drew :=
          ⟨j + 1, by omega, by go_num, HT.out (by simpa using hx'.out), hU.drew⟩
        exact ⟨fin, by simp [intOf]; omega⟩
    · have hj' : l.take j = l := List.take_of_length_le (by omega)
      have hj2 : m.take j = m := List.take_of_length_le (by have := HLN.out; omega)
      have HA' := HA.out
      rw [hj', hj2] at HA'
      have HO := hid HA'
      clear HA HA' hj' hj2
      go_wp2
      go_ret
      exact ⟨ret_bool (by rw [HR.out, HO.out]; simp), hU⟩
end Go.Proofs.YtdcbgkmhlpkjiaaDoor
