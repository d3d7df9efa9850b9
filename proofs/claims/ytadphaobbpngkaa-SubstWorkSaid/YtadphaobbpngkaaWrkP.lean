/- A term that doubles at each step: how far a substitution in it goes. No program is in sight here. -/
import Derived.Test.YtadphaobbpngkaaED
import Derived.Test.YtadphaobbpngkaaShpP
namespace Go.LF.Tm
/-- x (x (.. (x c))) -/
def wT : Nat → Tm
  | 0 => mk 4 [99] 0 []
  | k + 1 => mk 5 [] 0 [wT k]
/-- [y] f y y -/
abbrev wM : Tm := mk 3 [] 0 [mk 4 [102] 0 [mk 5 [] 0 [], mk 5 [] 0 []]]
/-- What comes of it. -/
def wR : Nat → Tm
  | 0 => mk 4 [99] 0 []
  | k + 1 => mk 4 [102] 0 [wR k, wR k]
abbrev wN : Sm := .mk [110, 97, 116] []
abbrev wF : Sm := .mk [110, 97, 116] [wN]
theorem wR_size (k : Nat) : (wR k).size + 1 = 2 ^ (k + 1) := by
  induction k with
  | zero => simp [wR, sizes]
  | succ k ih => rw [wR, size_mk]; simp only [sizes]; rw [Nat.pow_succ]; omega
theorem wR_depth (k : Nat) : (wR k).depth = k + 1 := by
  induction k with
  | zero => simp [wR, depths]
  | succ k ih => rw [wR, depth_mk]; simp only [depths]; omega
theorem wR_small (k : Nat) : (wR k).small = decide (k ≤ 11) := by
  have h1 := wR_size k
  have h2 := wR_depth k
  unfold small
  rw [h2]
  by_cases h : k ≤ 11
  · have := Nat.pow_le_pow_right (show 0 < 2 by omega) (show k + 1 ≤ 12 by omega)
    simp only [decide_eq_true h, Bool.and_eq_true, decide_eq_true_eq]
    omega
  · have := Nat.pow_le_pow_right (show 0 < 2 by omega) (show 13 ≤ k + 1 by omega)
    rw [decide_eq_false h]
    simp only [Bool.and_eq_false_iff, decide_eq_false_iff_not]
    left; omega
theorem wR_kind (k : Nat) : (wR k).kind ≠ 3 := by cases k <;> simp [wR]
theorem mv_wR (f : To) (k : Nat) : ∀ b, mv f b (wR k) = wR k := by
  induction k with
  | zero => intro b; rw [wR, mv_mk, mvA]; rfl
  | succ k ih => intro b; rw [wR, mv_mk, mvA, mvA, mvA, ih, ih]; rfl
theorem great_wR (k : Nat) : great (wR k) ≤ 1048576 := by
  refine (great_le (wR k) 1048576 (by omega) 0).2 ?_
  generalize (0 : Int) = b
  induction k generalizing b with
  | zero => intro x hx e; simp [wR, nodes_mk, nodesA] at hx; subst hx; simp at e
  | succ k ih =>
    intro x hx e
    rw [wR, nodes_mk] at hx
    simp only [nodesA, List.append_nil, List.mem_cons, List.mem_append] at hx
    rcases hx with rfl | hx | hx
    · simp at e
    · exact ih _ x hx e
    · exact ih _ x hx e
theorem chk_wR (k w : Nat) (h : k ≤ 11) : chk (wR k) w = ⟨0, wR k, w⟩ := small_chk (by rw [wR_small]; simpa using h) w
/-- f y y with a small object for y. -/
theorem sb_body (n k w : Nat) (hk : k ≤ 11) (hw : w + 10 ≤ 262144) : sb (n + 2) [wR k] [wN] 0 (mk 4 [102] 0 [mk 5 [] 0 [], mk 5 [] 0 []]) w = chk (wR (k + 1)) (w + 3) := by
  have h1 : ∀ w, w + 1 ≤ 262144 → sb (n + 1) [wR k] [wN] (0 + 0) (mk 5 [] 0 []) w = ⟨0, wR k, w + 1⟩ := by
    intro w hw
    rw [sb_nd]
    rw [if_neg (by omega), sbA, if_pos rfl]
    unfold sbN
    rw [if_pos ⟨rfl, by omega⟩, if_pos (by simp)]
    simp only [Int.sub_self, Int.toNat_zero, List.getD_cons_zero, Int.zero_add]
    rw [mv_wR, if_neg (by have := great_wR k; omega)]
    unfold ap
    rw [if_pos (by rfl), apF_nil, if_neg (wR_kind k), chk_wR k _ hk]
  rw [sb_nd]
  rw [if_neg (by omega)]
  have h2 : sbA (fun d' t' w' => sb (n + 1) [wR k] [wN] d' t' w') 0 4 0 [mk 5 [] 0 [], mk 5 [] 0 []] (w + 1) = ⟨0, [wR k, wR k], w + 3⟩ := by
    rw [sbA, sbA, sbA]
    simp only [show under 4 0 = 0 from rfl, show under 4 (0 + 1) = 0 from rfl]
    rw [h1 _ (by omega)]
    simp only [if_true]
    rw [h1 _ (by omega)]
    simp only [if_true]
  rw [h2]
  simp only [if_true]
  unfold sbN
  rw [if_neg (by omega)]
  rfl
/-- One step more. -/
theorem sb_step (n k w w' : Nat) (hk : k ≤ 11) (hw : w' + 20 ≤ 262144) (hww : w ≤ w') (h : sb (n + 3) [wM] [wF] 0 (wT k) (w + 1) = ⟨0, wR k, w'⟩) :
    sb (n + 4) [wM] [wF] 0 (wT (k + 1)) w = chk (wR (k + 1)) (w' + 3) := by
  rw [wT, sb_nd]
  rw [if_neg (by omega)]
  have h2 : sbA (fun d' t' w' => sb (n + 3) [wM] [wF] d' t' w') 0 5 0 [wT k] (w + 1) = ⟨0, [wR k], w'⟩ := by
    rw [sbA, sbA]
    simp only [show under 5 0 = 0 from rfl, Int.add_zero]
    rw [h]
    simp only [if_true]
  rw [h2]
  simp only [if_true]
  unfold sbN
  rw [if_pos ⟨rfl, by omega⟩, if_pos (by simp)]
  simp only [Int.sub_self, Int.toNat_zero, List.getD_cons_zero]
  have hmv : mv (shF 0 0) 0 wM = wM := by simp [wM, mv_mk, mvA, mvi, under]
  have hgr : ¬ 1048576 < great wM := by simp [great, greats]; omega
  rw [hmv, if_neg hgr]
  unfold ap
  rw [if_pos (by simp), show Sm.args wF = [wN] from rfl, apF_cons, if_pos (show wM.kind = 3 from rfl)]
  simp only [show wM.args.headD none0 = mk 4 [102] 0 [mk 5 [] 0 [], mk 5 [] 0 []] from rfl]
  rw [show n + 3 = (n + 1) + 2 by omega, sb_body (n + 1) k w' hk (by omega)]
  by_cases hc : k + 1 ≤ 11
  · rw [chk_wR _ _ hc]
    simp only [if_true]
    rw [apF_nil, if_neg (wR_kind _), chk_wR _ _ hc]
  · have hch : chk (wR (k + 1)) (w' + 3) = ⟨2, none0, w' + 3⟩ := by
      unfold chk
      rw [wR_small, decide_eq_false hc]; rfl
    rw [hch]
    rfl
theorem sb_small_wT (k : Nat) (hk : k ≤ 11) : ∀ (n w : Nat), 3 * k + 4 ≤ n → w + 4 * k + 100 ≤ 262144 → sb n [wM] [wF] 0 (wT k) w = ⟨0, wR k, w + 1 + 4 * k⟩ := by
  induction k with
  | zero =>
    intro n w hn hw
    obtain ⟨n, rfl⟩ : ∃ m, n = m + 1 := ⟨n - 1, by omega⟩
    rw [wT, sb_nd]
    rw [if_neg (by omega), sbA, if_pos rfl]
    unfold sbN
    rw [if_neg (by omega)]
    exact chk_wR 0 (w + 1) (by omega)
  | succ k ih =>
    intro n w hn hw
    obtain ⟨n, rfl⟩ : ∃ m, n = m + 4 := ⟨n - 4, by omega⟩
    rw [sb_step n k w (w + 1 + 1 + 4 * k) (by omega) (by omega) (by omega) (ih (by omega) (n + 3) (w + 1) (by omega) (by omega)), chk_wR _ _ hk]
    congr 1
    omega
theorem sb_big_wT (k : Nat) : ∀ (n w : Nat), 3 * (12 + k) + 4 ≤ n → w + k + 1000 ≤ 262144 → (sb n [wM] [wF] 0 (wT (12 + k)) w).e = 2 := by
  induction k with
  | zero =>
    intro n w hn hw
    obtain ⟨n, rfl⟩ : ∃ m, n = m + 4 := ⟨n - 4, by omega⟩
    rw [show 12 + 0 = 11 + 1 from rfl, sb_step n 11 w (w + 1 + 1 + 4 * 11) (by omega) (by omega) (by omega) (sb_small_wT 11 (by omega) (n + 3) (w + 1) (by omega) (by omega))]
    unfold chk
    rw [wR_small]; rfl
  | succ k ih =>
    intro n w hn hw
    obtain ⟨n, rfl⟩ : ∃ m, n = m + 1 := ⟨n - 1, by omega⟩
    have h := ih n (w + 1) (by omega) (by omega)
    rw [show 12 + (k + 1) = (12 + k) + 1 by omega, wT, sb_nd]
    rw [if_neg (by omega)]
    have h2 : (sbA (fun d' t' w' => sb n [wM] [wF] d' t' w') 0 5 0 [wT (12 + k)] (w + 1)).e = 2 := by
      rw [sbA]
      simp only [show under 5 0 = 0 from rfl, Int.add_zero]
      rw [if_neg (by rw [h]; simp)]
      exact h
    rw [if_neg (by rw [h2]; simp)]
    exact h2
theorem sb_wT (k : Nat) (hk : k ≤ 100) : (sb 262145 [wM] [wF] 0 (wT k) 0).e = if k ≤ 11 then 0 else 2 := by
  by_cases h : k ≤ 11
  · rw [if_pos h, sb_small_wT k h _ _ (by omega) (by omega)]
  · rw [if_neg h]
    obtain ⟨j, rfl⟩ : ∃ j, k = 12 + j := ⟨k - 12, by omega⟩
    exact sb_big_wT j _ _ (by omega) (by omega)
end Go.LF.Tm
