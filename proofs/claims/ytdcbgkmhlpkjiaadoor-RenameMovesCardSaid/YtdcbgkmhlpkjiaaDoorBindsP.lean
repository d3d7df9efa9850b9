/- TermBinds, as plain data. -/
import Derived.Test.YtdcbgkmhlpkjiaaDoorFits
namespace Go.LF.Tm

theorem occs_lt {k v : Int} : ∀ (l : List Tm) (j : Nat) (acc : Int), (∀ t ∈ l, ∀ v, occ t v = true → v < scope t) → occs k j l v = true → v < scopes k j acc l := by
  intro l
  induction l with
  | nil => intro j acc _ h; simp [occs] at h
  | cons t ts ih =>
    intro j acc ht h
    rw [occs, Bool.or_eq_true] at h
    rw [scopes]
    rcases h with h | h
    · have h1 := ht t (by simp) _ h
      have h2 := scopes_ge k ts (j + 1) (max acc (scope t - under k j))
      omega
    · exact ih _ _ (fun u hu => ht u (by simp [hu])) h
theorem occ_lt (t : Tm) : ∀ v, occ t v = true → v < scope t := by
  induction t using ind with
  | h k n i l ih =>
    intro v h
    rw [occ, Bool.or_eq_true] at h
    rw [scope]
    rcases h with h | h
    · simp only [Bool.and_eq_true, beq_iff_eq] at h
      obtain ⟨rfl, rfl⟩ := h
      have := scopes_ge 5 l 0 (if (5 : Int) == 5 then i + 1 else 0)
      have e : (if (5 : Int) == 5 then i + 1 else 0) = i + 1 := rfl
      omega
    · exact occs_lt l 0 _ ih h
theorem scopes_occ {k : Int} : ∀ (l : List Tm) (j : Nat) (acc : Int), (∀ t ∈ l, 0 < scope t → occ t (scope t - 1) = true) → 0 < scopes k j acc l → scopes k j acc l = acc ∨ occs k j l (scopes k j acc l - 1) = true := by
  intro l
  induction l with
  | nil => intro j acc _ _; exact .inl (by simp [scopes])
  | cons t ts ih =>
    intro j acc ht h
    rw [scopes] at h ⊢
    have hu := under_le k j
    rcases ih (j + 1) (max acc (scope t - under k j)) (fun u hu => ht u (by simp [hu])) h with e | e
    · by_cases ha : scope t - under k j ≤ acc
      · exact .inl (by omega)
      · right
        rw [e] at h ⊢
        have hm : max acc (scope t - under k j) = scope t - under k j := by omega
        rw [hm] at h ⊢
        rw [occs, Bool.or_eq_true]
        left
        rw [show scope t - under k j - 1 + under k j = scope t - 1 by omega]
        exact ht t (by simp) (by omega)
    · right
      rw [occs, Bool.or_eq_true]
      exact .inr e
theorem scope_occ (t : Tm) : 0 < scope t → occ t (scope t - 1) = true := by
  induction t using ind with
  | h k n i l ih =>
    intro h
    rw [scope] at h ⊢
    rw [occ, Bool.or_eq_true]
    rcases scopes_occ l 0 _ ih h with e | e
    · left
      rw [e] at h ⊢
      by_cases h5 : (k == 5) = true
      · rw [if_pos h5] at h ⊢
        simp [h5]
      · rw [if_neg h5] at h
        omega
    · exact .inr e
/-- The greatest variable below k that occurs, or -1. -/
def lastOcc (t : Tm) : Nat → Int
  | 0 => -1
  | k + 1 => if occ t k then k else lastOcc t k
theorem lastOcc_eq (t : Tm) (h0 : 0 ≤ scope t) (k : Nat) : lastOcc t k < k ∧ -1 ≤ lastOcc t k ∧ (scope t ≤ k → lastOcc t k + 1 = scope t) := by
  induction k with
  | zero => refine ⟨by simp [lastOcc], by simp [lastOcc], fun h => ?_⟩; simp only [lastOcc]; omega
  | succ k ih =>
    rw [lastOcc]
    by_cases h : occ t k = true
    · rw [if_pos h]
      have := occ_lt t _ h
      exact ⟨by omega, by omega, fun h => by omega⟩
    · rw [if_neg h]
      refine ⟨by omega, by omega, fun hs => ih.2.2 ?_⟩
      by_cases e : scope t = (k : Int) + 1
      · exfalso
        have := scope_occ t (by omega)
        rw [e] at this
        rw [show ((k : Int) + 1 - 1) = k by omega] at this
        exact h this
      · omega
/-- A Lam around a term. -/
abbrev lam (t : Tm) : Tm := .mk 3 [] 0 [t]
theorem lam_scope (t : Tm) : (lam t).scope = max (t.scope - 1) 0 := by
  rw [scope, scopes, scopes]
  simp [under]
  omega
theorem lam_occ (t : Tm) (v : Int) : (lam t).occ v = t.occ (v + 1) := by
  rw [occ, occs, occs]
  simp [under]
theorem Fits.wf0 {t : Tm} {d v m : Nat} (h : Fits t d v m) (hd : d ≤ 10) : t.wf = 0 := by
  have h1 := h.depth
  have h2 := h.size
  have h3 := pow_mono (show d + 1 ≤ 11 by omega)
  have h4 : (2 : Nat) ^ 11 = 2048 := rfl
  unfold wf small
  rw [h.obj]
  have e1 : t.size ≤ 4096 := by omega
  have e2 : t.depth ≤ 128 := by omega
  simp [e1, e2]
theorem Fits.vars {t : Tm} {d v v' m : Nat} (h : Fits t d v m) (hv : v ≤ v') : Fits t d v' m := ⟨h.obj, by have := h.scope; omega, h.metas, h.depth, h.size, h.wt⟩
theorem Fits.lam {t : Tm} {d v m : Nat} (h : Fits t d v m) : Fits (lam t) (d + 1) v m := by
  have hl := fits_lam (h.vars (show v ≤ v + 1 by omega)) [] rfl (by simp)
  exact hl
theorem Fits.small {t : Tm} {d v m : Nat} (h : Fits t d v m) (hd : d ≤ 10) : t.wt ≤ 1000000 ∧ t.size ≤ 1000000 := by
  have h2 := h.wt
  have h3 := pow_mono (show d + 1 ≤ 11 by omega)
  have h4 : (2 : Nat) ^ 11 = 2048 := rfl
  have h5 := size_le_wt t
  omega
end Go.LF.Tm
