/- What SubstShaped's objects are: they fit their simple types, and they are not heavy. No program is in sight here. -/
import Derived.Test.YtadphaobbpngkaaShpP
namespace Go.LF.Tm
/-- n Lams around a term. -/
def lams : Nat → Tm → Tm
  | 0, t => t
  | n + 1, t => mk 3 [] 0 [lams n t]
theorem lams_wt (n : Nat) (t : Tm) : (lams n t).wt = n + t.wt := by
  induction n with
  | zero => simp [lams]
  | succ n ih => rw [lams, wt_mk]; simp only [wts, ih, List.length_nil]; omega
theorem lams_shp : ∀ (aa : List Sm) (Γ : List Sm) (t : Tm), shp (aa.reverse ++ Γ) [] t → shp Γ aa (lams aa.length t)
  | [], Γ, t, h => by simpa [lams] using h
  | s :: aa, Γ, t, h => by
    rw [List.length_cons, lams]
    exact shp_lam rfl (lams_shp aa (s :: Γ) t (by simpa using h))
/-- How heavy a made object may be. -/
def bdS : Nat → Nat
  | 0 => 20
  | n + 1 => 14 * bdS n + 20
theorem bdS_3 : bdS 3 = 59100 := by decide
theorem bdS_up (n : Nat) : bdS n ≤ bdS (n + 1) := by rw [bdS]; omega
theorem bdS_20 (n : Nat) : 20 ≤ bdS n := by cases n <;> simp [bdS]
/-- A made object. -/
structure Shd (n : Nat) (Γ aa : List Sm) (t : Tm) : Prop where
  shp : shp Γ aa t
  wt : t.wt ≤ bdS n
theorem Shd.up {n : Nat} {Γ aa : List Sm} {t : Tm} (h : Shd n Γ aa t) : Shd (n + 1) Γ aa t := ⟨h.shp, Nat.le_trans h.wt (bdS_up n)⟩
theorem shd_const (n : Nat) (Γ aa : List Sm) (ha : aa.length ≤ 14) : Shd n Γ aa (lams aa.length (mk 4 [99] 0 [])) := by
  refine ⟨lams_shp aa Γ _ ((shp_mk _ _ _ _ _ _).2 (.inr (.inl ⟨rfl, rfl, rfl⟩))), ?_⟩
  rw [lams_wt, wt_mk]
  simp only [wts, List.length_cons, List.length_nil]
  have := bdS_20 n
  omega
theorem wts_le9 {l : List Tm} {b : Nat} (h : ∀ t ∈ l, t.wt ≤ b) : wts l ≤ l.length * b := by
  induction l with
  | nil => simp [wts]
  | cons t l ih =>
    have h1 := ih (fun x hx => h x (by simp [hx]))
    have h2 := h t (by simp)
    simp only [wts, List.length_cons, Nat.add_mul, Nat.one_mul]
    omega
/-- The variable i of a context whose last element is the innermost. -/
theorem shd_var (n : Nat) (C aa : List Sm) (i : Nat) (hi : i < (C ++ aa).length) (l : List Tm) (ha : aa.length ≤ 14)
    (hl : l.length = ((C ++ aa)[(C ++ aa).length - 1 - i]'(by omega)).args.length) (hlen : l.length ≤ 14)
    (h : ∀ j (h1 : j < l.length) (h2 : j < ((C ++ aa)[(C ++ aa).length - 1 - i]'(by omega)).args.length), shp (C ++ aa).reverse (((C ++ aa)[(C ++ aa).length - 1 - i]'(by omega)).args[j]).args l[j])
    (hw : ∀ t ∈ l, t.wt ≤ bdS n) : Shd (n + 1) C.reverse aa (lams aa.length (mk 5 [] i l)) := by
  refine ⟨lams_shp aa _ _ ((shp_mk _ _ _ _ _ _).2 (.inr (.inr ⟨rfl, rfl, by omega, (C ++ aa)[(C ++ aa).length - 1 - i]'(by omega), ?_, ?_⟩))), ?_⟩
  · rw [← List.reverse_append, Int.toNat_natCast, List.getElem?_reverse hi, List.getElem?_eq_getElem]
  · rw [← List.reverse_append]
    exact shpA_of hl (fun j h1 h2 => h j h1 h2)
  · rw [lams_wt, wt_mk, bdS]
    have := wts_le9 hw
    have h3 := Nat.mul_le_mul_right (bdS n) hlen
    simp only [List.length_nil]
    omega
theorem shd_var0 (n : Nat) (C aa : List Sm) (i : Nat) (hi : i < (C ++ aa).length) (ha : aa.length ≤ 14)
    (h0 : ((C ++ aa)[(C ++ aa).length - 1 - i]'(by omega)).args = []) : Shd n C.reverse aa (lams aa.length (mk 5 [] i [])) := by
  refine ⟨lams_shp aa _ _ ((shp_mk _ _ _ _ _ _).2 (.inr (.inr ⟨rfl, rfl, by omega, (C ++ aa)[(C ++ aa).length - 1 - i]'(by omega), ?_, ?_⟩))), ?_⟩
  · rw [← List.reverse_append, Int.toNat_natCast, List.getElem?_reverse hi, List.getElem?_eq_getElem]
  · rw [h0, shpA]
  · rw [lams_wt, wt_mk]
    have := bdS_20 n
    simp only [wts, List.length_nil]
    omega
end Go.LF.Tm
