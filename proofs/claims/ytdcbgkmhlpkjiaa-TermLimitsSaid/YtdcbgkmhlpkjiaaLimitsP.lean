/- The terms of TermLimits, as plain data. -/
import Derived.Test.YtdcbgkmhlpkjiaaForms
namespace Go.LF
/-- A constant below so many Lams. -/
def lamN : Nat → Tm
  | 0 => .mk 4 [122] 0 []
  | j + 1 => .mk 3 [] 0 [lamN j]
/-- So many variables. -/
def varsN (k : Nat) : List Tm := (List.range k).map fun i => .mk 5 [] (((i + 1) % 3 : Nat) : Int) []
abbrev wideN (k : Nat) : Tm := .mk 4 [102] 0 (varsN k)
theorem varsN_length (k : Nat) : (varsN k).length = k := by simp [varsN]
theorem varsN_succ (k : Nat) : varsN (k + 1) = varsN k ++ [.mk 5 [] (((k + 1) % 3 : Nat) : Int) []] := by simp [varsN, List.range_succ]
theorem lamN_depth (j : Nat) : (lamN j).depth = j + 1 := by
  induction j with
  | zero => rfl
  | succ j ih => rw [lamN, Tm.depth_mk]; simp [Tm.depths, ih]
theorem lamN_size (j : Nat) : (lamN j).size = j + 1 := by
  induction j with
  | zero => rfl
  | succ j ih => rw [lamN, Tm.size_mk]; simp [Tm.sizes, ih]
theorem lamN_wt (j : Nat) : (lamN j).wt = j + 2 := by
  induction j with
  | zero => rfl
  | succ j ih => rw [lamN, Tm.wt_mk]; simp [Tm.wts, ih]
theorem lamN_obj (j : Nat) : (lamN j).isObj = true := by
  induction j with
  | zero => decide
  | succ j ih => rw [lamN, Tm.isObj]; simp [Tm.bound, Tm.allObj, ih]
theorem lamN_wf (j : Nat) (h : j ≤ 1000) : (lamN j).wf = if j + 1 ≤ 128 then 0 else 2 := by
  unfold Tm.wf Tm.small
  rw [lamN_obj, lamN_size, lamN_depth]
  by_cases hj : j + 1 ≤ 128
  · have : j + 1 ≤ 4096 := by omega
    simp [hj]; omega
  · simp [hj]
theorem lamN_small (j : Nat) (h : j ≤ 1000) : ((lamN j).isObj && (lamN j).small) = decide (j + 1 ≤ 128) := by
  unfold Tm.small
  rw [lamN_obj, lamN_size, lamN_depth]
  by_cases hj : j + 1 ≤ 128
  · have : j + 1 ≤ 4096 := by omega
    simp [hj]; omega
  · simp [hj]
theorem varsN_facts (k : Nat) : Tm.sizes (varsN k) = k ∧ Tm.wts (varsN k) = k ∧ Tm.depths (varsN k) ≤ 1 ∧ Tm.allObj (varsN k) = true := by
  induction k with
  | zero => simp [varsN, Tm.sizes, Tm.wts, Tm.depths, Tm.allObj]
  | succ k ih =>
    obtain ⟨h1, h2, h3, h4⟩ := ih
    rw [varsN_succ, Tm.sizes_append, Tm.wts_append, Tm.depths_append, Tm.allObj_iff, List.all_append, ← Tm.allObj_iff, ← Tm.allObj_iff]
    have hx : ((k + 1) % 3 : Nat) ≤ 1048576 := by omega
    have hx2 : (((k + 1) % 3 : Nat) : Int) ≤ 1048576 := by omega
    refine ⟨by simp [Tm.sizes, h1], by simp [Tm.wts, h2], ?_, ?_⟩
    · simp only [Tm.depths, Tm.depth_mk]; omega
    · rw [h4]; simp only [Tm.allObj, Tm.isObj]; simp; omega
theorem wideN_size (k : Nat) : (wideN k).size = k + 1 := by rw [Tm.size_mk, (varsN_facts k).1]
theorem wideN_wt (k : Nat) : (wideN k).wt = k + 2 := by rw [Tm.wt_mk, (varsN_facts k).2.1]; simp; omega
theorem wideN_typ (k : Nat) : (wideN k).isTyp = true := by
  rw [Tm.isTyp, Tm.isAtom, (varsN_facts k).2.2.2]
  have h : ((4 : Int) == 4 && (isName [102] && (0 : Int) == 0 && true)) = true := by decide
  rw [h]; rfl
theorem wideN_small (k : Nat) : (wideN k).small = decide (k + 1 ≤ 4096) := by
  have h := (varsN_facts k).2.2.1
  unfold Tm.small
  rw [wideN_size, Tm.depth_mk]
  have : Tm.depths (varsN k) + 1 ≤ 128 := by omega
  simp [this]
theorem wideN_wf (k : Nat) : (wideN k).wf = if k + 1 ≤ 4096 then 0 else 2 := by
  unfold Tm.wf
  rw [wideN_typ, wideN_small]
  by_cases hk : k + 1 ≤ 4096 <;> simp [hk] <;> omega
theorem wideN_isType (k : Nat) : ((wideN k).isTyp && (wideN k).small) = decide (k + 1 ≤ 4096) := by rw [wideN_typ, wideN_small]; simp
end Go.LF
