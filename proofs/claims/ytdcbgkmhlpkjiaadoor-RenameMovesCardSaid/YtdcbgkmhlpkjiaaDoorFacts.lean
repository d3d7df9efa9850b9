/- What the sum of the sorts of a term is, by its kind. No program is in sight here but for the name of the sum. -/
import Derived.Test.YtdcbgkmhlpkjiaaDoorRefSorts
import Derived.Test.YtdcbgkmhlpkjiaaDoorTermObj3
namespace Go.Proofs.YtdcbgkmhlpkjiaaDoor
open Go.LF

theorem isTyp_not (k n i ts) (h4 : (k == 4) = false) (h : (k == 2 && Tm.bound n i ts 2) = false) : (Tm.mk k n i ts).isTyp = false := by
  rw [isTyp_eq, Tm.isAtom, h4, Bool.false_and, Bool.false_or, ← Bool.and_assoc, h, Bool.false_and]
theorem sorts_1 (k n i ts) (h : (k == 1) = true) : sorts (.mk k n i ts) = if n == [] && (i == 0 && ts.isEmpty) then 4 else 0 := by
  have hk : k = 1 := by simpa using h
  subst hk
  rw [sorts, isKnd_1 _ _ _ _ h, isObj_no _ _ _ _ rfl rfl rfl rfl, isTyp_not _ _ _ _ rfl rfl]
  simp
theorem sorts_2_no (k n i ts) (h : (k == 2) = true) (hb : Tm.bound n i ts 2 = false) : sorts (.mk k n i ts) = 0 := by
  have hk : k = 2 := by simpa using h
  subst hk
  rw [sorts, isKnd_no1 _ _ _ _ rfl (by rw [hb]; rfl), isObj_no _ _ _ _ rfl rfl rfl rfl, isTyp_not _ _ _ _ rfl (by rw [hb]; rfl)]
  simp
theorem sorts_2 (k n i x y) (h : (k == 2) = true) (hb : Tm.bound n i [x, y] 2 = true) :
    sorts (.mk k n i [x, y]) = if x.isTyp then (if y.isTyp then 2 else 0) + (if y.isKnd then 4 else 0) else 0 := by
  have hk : k = 2 := by simpa using h
  subst hk
  rw [sorts, isKnd_2 _ _ _ _ _ (by rw [hb]; rfl), isObj_no _ _ _ _ rfl rfl rfl rfl, isTyp_eq, hb]
  have e : (((2 : Int) == 4) && (isName n && i == 0 && Tm.allObj [x, y]) || ((2 : Int) == 2) && (true && (x.isTyp && (y.isTyp && true)))) = (x.isTyp && y.isTyp) := by simp
  simp only [Tm.isAtom, Tm.allTyp, e]
  by_cases hx : x.isTyp = true <;> by_cases hy : y.isTyp = true <;> by_cases hz : y.isKnd = true <;> simp [hx, hy, hz]
theorem isKnd_none (k n i ts) (h1 : (k == 1) = false) (h2 : (k == 2) = false) : (Tm.mk k n i ts).isKnd = false := isKnd_no1 _ _ _ _ h1 (by rw [h2]; rfl)
theorem sorts_3_no (k n i ts) (h : (k == 3) = true) (hb : Tm.bound n i ts 1 = false) : sorts (.mk k n i ts) = 0 := by
  have hk : k = 3 := by simpa using h
  subst hk
  rw [sorts, isKnd_none _ _ _ _ rfl rfl, isObj_3 _ _ _ _ rfl, hb, isTyp_not _ _ _ _ rfl rfl]
  simp
theorem sorts_3 (k n i x) (h : (k == 3) = true) (hb : Tm.bound n i [x] 1 = true) : sorts (.mk k n i [x]) = if x.isObj then 1 else 0 := by
  have hk : k = 3 := by simpa using h
  subst hk
  rw [sorts, isKnd_none _ _ _ _ rfl rfl, isObj_3 _ _ _ _ rfl, hb, isTyp_not _ _ _ _ rfl rfl]
  simp [Tm.allObj]
theorem sorts_4_no (k n i ts) (h : (k == 4) = true) (hb : (isName n && i == 0) = false) : sorts (.mk k n i ts) = 0 := by
  have hk : k = 4 := by simpa using h
  subst hk
  rw [sorts, isKnd_none _ _ _ _ rfl rfl, isObj_4 _ _ _ _ rfl, isTyp_eq, Tm.isAtom, hb]
  simp
theorem sorts_4 (k n i ts) (h : (k == 4) = true) (hb : (isName n && i == 0) = true) : sorts (.mk k n i ts) = if Tm.allObj ts then 3 else 0 := by
  have hk : k = 4 := by simpa using h
  subst hk
  rw [sorts, isKnd_none _ _ _ _ rfl rfl, isObj_4 _ _ _ _ rfl, isTyp_eq, Tm.isAtom, hb]
  cases Tm.allObj ts <;> rfl
theorem sorts_5_no (k n i ts) (h : (k == 5) = true) (hb : (n == [] && decide (0 ≤ i) && decide (i ≤ 1048576)) = false) : sorts (.mk k n i ts) = 0 := by
  have hk : k = 5 := by simpa using h
  subst hk
  rw [sorts, isKnd_none _ _ _ _ rfl rfl, isObj_5 _ _ _ _ rfl, hb, isTyp_not _ _ _ _ rfl rfl]
  simp
theorem sorts_5 (k n i ts) (h : (k == 5) = true) (hb : (n == [] && decide (0 ≤ i) && decide (i ≤ 1048576)) = true) : sorts (.mk k n i ts) = if Tm.allObj ts then 1 else 0 := by
  have hk : k = 5 := by simpa using h
  subst hk
  rw [sorts, isKnd_none _ _ _ _ rfl rfl, isObj_5 _ _ _ _ rfl, hb, isTyp_not _ _ _ _ rfl rfl]
  simp
theorem sorts_6_no (k n i ts) (h : (k == 6) = true) (hb : (n == [] && decide (0 ≤ i) && decide (i < 2048)) = false) : sorts (.mk k n i ts) = 0 := by
  have hk : k = 6 := by simpa using h
  subst hk
  rw [sorts, isKnd_none _ _ _ _ rfl rfl, isObj_6 _ _ _ _ rfl, hb, isTyp_not _ _ _ _ rfl rfl]
  simp
theorem sorts_6 (k n i ts) (h : (k == 6) = true) (hb : (n == [] && decide (0 ≤ i) && decide (i < 2048)) = true) : sorts (.mk k n i ts) = if Tm.allObj ts then 1 else 0 := by
  have hk : k = 6 := by simpa using h
  subst hk
  rw [sorts, isKnd_none _ _ _ _ rfl rfl, isObj_6 _ _ _ _ rfl, hb, isTyp_not _ _ _ _ rfl rfl]
  simp
theorem sorts_0 (k n i ts) (h1 : (k == 1) = false) (h2 : (k == 2) = false) (h3 : (k == 3) = false) (h4 : (k == 4) = false) (h5 : (k == 5) = false) (h6 : (k == 6) = false) : sorts (.mk k n i ts) = 0 := by
  rw [sorts, isKnd_none _ _ _ _ h1 h2, isObj_no _ _ _ _ h3 h4 h5 h6, isTyp_not _ _ _ _ h4 (by rw [h2]; rfl)]
  simp
theorem sorts_wf (t : Tm) : t.wf = if sorts t == 0 then 1 else if !t.small then 2 else 0 := by
  unfold Tm.wf sorts
  cases t.isObj <;> cases t.isTyp <;> cases t.isKnd <;> rfl
end Go.Proofs.YtdcbgkmhlpkjiaaDoor
