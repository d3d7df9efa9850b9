/- Terms that fit their simple types: a substitution keeps that, and has no error of the shape. No program is in sight here. -/
import Derived.Test.YtadphaobbpngkaaEA
namespace Go.LF.Tm
mutual
/-- A term fits in a context (its innermost variable first), with these arguments still to come; the families do not matter. -/
def shp (Γ : List Sm) (ss : List Sm) : Tm → Prop
  | mk k _ i l => (k = 3 ∧ ∃ s ss', ss = s :: ss' ∧ shpA (s :: Γ) [.mk [] ss'] l) ∨ (k = 4 ∧ ss = [] ∧ l = []) ∨ (k = 5 ∧ ss = [] ∧ 0 ≤ i ∧ ∃ s, Γ[i.toNat]? = some s ∧ shpA Γ s.args l)
def shpA (Γ : List Sm) (ss : List Sm) : List Tm → Prop
  | [] => ss = []
  | t :: ts => ∃ s ss', ss = s :: ss' ∧ shp Γ s.args t ∧ shpA Γ ss' ts
end
theorem shp_mk (Γ ss k n i l) : shp Γ ss (mk k n i l) ↔ (k = 3 ∧ ∃ s ss', ss = s :: ss' ∧ shpA (s :: Γ) [.mk [] ss'] l) ∨ (k = 4 ∧ ss = [] ∧ l = []) ∨ (k = 5 ∧ ss = [] ∧ 0 ≤ i ∧ ∃ s, Γ[i.toNat]? = some s ∧ shpA Γ s.args l) := by rw [shp]
theorem shpA_length {Γ ss} {l : List Tm} (h : shpA Γ ss l) : l.length = ss.length := by
  induction l generalizing ss with
  | nil => rw [shpA] at h; subst h; rfl
  | cons t ts ih =>
    rw [shpA] at h
    obtain ⟨s, ss', rfl, _, h2⟩ := h
    simp [ih h2]
theorem shpA_get {Γ ss} {l : List Tm} (h : shpA Γ ss l) (j : Nat) (h1 : j < l.length) (h2 : j < ss.length) : shp Γ ss[j].args l[j] := by
  induction l generalizing ss j with
  | nil => simp at h1
  | cons t ts ih =>
    rw [shpA] at h
    obtain ⟨s, ss', rfl, h3, h4⟩ := h
    cases j with
    | zero => exact h3
    | succ j => exact ih h4 j (by simpa using h1) (by simpa using h2)
theorem shpA_one {Γ s} {t : Tm} : shpA Γ [s] [t] ↔ shp Γ s.args t := by
  rw [shpA]
  constructor
  · rintro ⟨s', ss', e, h, _⟩
    cases e; exact h
  · intro h
    exact ⟨s, [], rfl, h, by rw [shpA]⟩
theorem shpA_of {Γ} : ∀ {l : List Tm} {ss : List Sm}, l.length = ss.length → (∀ j (h1 : j < l.length) (h2 : j < ss.length), shp Γ ss[j].args l[j]) → shpA Γ ss l := by
  intro l
  induction l with
  | nil => intro ss hl _; rw [shpA]; exact List.length_eq_zero_iff.1 hl.symm
  | cons t ts ih =>
    intro ss hl h
    cases ss with
    | nil => simp at hl
    | cons s ss =>
      rw [shpA]
      exact ⟨s, ss, rfl, h 0 (by simp) (by simp), ih (by simpa using hl) (fun j h1 h2 => h (j + 1) (by simpa using h1) (by simpa using h2))⟩
/-- Lams around a term that fits behind their variables. -/
theorem shp_lam {Γ ss' k n i s} {b : Tm} (hk : k = 3) (h : shp (s :: Γ) ss' b) : shp Γ (s :: ss') (mk k n i [b]) := by
  rw [shp_mk]
  exact .inl ⟨hk, s, ss', rfl, shpA_one.2 h⟩
theorem under_lam (j : Nat) : under 3 j = 1 := by unfold under; simp
theorem under_var (j : Nat) : under 5 j = 0 := by unfold under; simp
theorem under_const (j : Nat) : under 4 j = 0 := by unfold under; simp
/-- A term that fits fits behind more variables, too. -/
theorem shp_shift (Δ Γ : List Sm) (t : Tm) : ∀ (Θ ss : List Sm) (b : Int), b = Θ.length → shp (Θ ++ Γ) ss t → shp (Θ ++ (Δ ++ Γ)) ss (mv (shF Δ.length 0) b t) := by
  induction t using ind with
  | h k n i l ih =>
    intro Θ ss b hb h
    have key : ∀ (l' : List Tm), (∀ t ∈ l', t ∈ l) → ∀ (Θ : List Sm) (b u : Int) (k : Int) (j : Nat) (ss : List Sm), (∀ j, under k j = u) → b + u = Θ.length → shpA (Θ ++ Γ) ss l' → shpA (Θ ++ (Δ ++ Γ)) ss (mvA (shF Δ.length 0) b k j l') := by
      intro l'
      induction l' with
      | nil => intro _ Θ b u k j ss _ _ h; rw [mvA, shpA]; rw [shpA] at h; exact h
      | cons t ts ih2 =>
        intro hm Θ b u k j ss hu hb h
        rw [shpA] at h
        obtain ⟨s, ss', rfl, h1, h2⟩ := h
        rw [mvA, shpA]
        refine ⟨s, ss', rfl, ?_, ih2 (fun t ht => hm t (by simp [ht])) Θ b u k (j + 1) ss' hu hb h2⟩
        exact ih t (hm t (by simp)) Θ s.args _ (by rw [hu]; exact hb) h1
    rw [mv_mk]
    rw [shp_mk] at h ⊢
    rcases h with ⟨rfl, s, ss', rfl, h⟩ | ⟨rfl, rfl, rfl⟩ | ⟨rfl, rfl, h0, s, hs, h⟩
    · refine .inl ⟨rfl, s, ss', rfl, ?_⟩
      exact key l (fun _ h => h) (s :: Θ) b 1 3 0 _ under_lam (by simp; omega) h
    · exact .inr (.inl ⟨rfl, rfl, by rw [mvA]⟩)
    · refine .inr (.inr ⟨rfl, rfl, ?_, s, ?_, key l (fun _ h => h) Θ b 0 5 0 _ under_var (by omega) h⟩)
      · unfold mvi shF
        split
        · simp only
          split <;> omega
        · exact h0
      · unfold mvi shF
        by_cases hlt : i < b
        · rw [if_neg (by omega)]
          have hi : i.toNat < Θ.length := by omega
          rw [List.getElem?_append_left hi] at hs ⊢
          exact hs
        · rw [if_pos ⟨rfl, by omega⟩]
          simp only
          rw [if_neg (by omega)]
          have hi : Θ.length ≤ i.toNat := by omega
          rw [List.getElem?_append_right hi] at hs
          rw [List.getElem?_append_right (by omega), List.getElem?_append_right (by omega), ← hs]
          congr 1
          omega
theorem sbA_shp (f : Int → Tm → Nat → Res) (d k u : Int) (hu : ∀ j, under k j = u) (Γ Γ' : List Sm) (l : List Tm) (hf : ∀ t ∈ l, ∀ ss w, shp Γ ss t → (f (d + u) t w).e ≠ 6 ∧ ((f (d + u) t w).e = 0 → shp Γ' ss (f (d + u) t w).t)) :
    ∀ (j w : Nat) (ss : List Sm), shpA Γ ss l → (sbA f d k j l w).e ≠ 6 ∧ ((sbA f d k j l w).e = 0 → shpA Γ' ss (sbA f d k j l w).ts) := by
  induction l with
  | nil =>
    intro j w ss h
    rw [sbA, shpA]
    rw [shpA] at h
    exact ⟨by simp, fun _ => h⟩
  | cons t ts ih =>
    intro j w ss h
    rw [shpA] at h
    obtain ⟨s, ss', rfl, h1, h2⟩ := h
    obtain ⟨g1, g2⟩ := hf t (by simp) s.args w h1
    rw [sbA, hu]
    by_cases he : (f (d + u) t w).e = 0
    · obtain ⟨i1, i2⟩ := ih (fun t ht => hf t (by simp [ht])) (j + 1) (f (d + u) t w).w ss' h2
      rw [if_pos he]
      by_cases he2 : (sbA f d k (j + 1) ts (f (d + u) t w).w).e = 0
      · rw [if_pos he2]
        refine ⟨by simp, fun _ => ?_⟩
        rw [shpA]
        exact ⟨s, ss', rfl, g2 he, i2 he2⟩
      · rw [if_neg he2]
        exact ⟨i1, fun h => absurd h he2⟩
    · rw [if_neg he]
      exact ⟨g1, fun h => absurd h he⟩
theorem chk_shp {t : Tm} {w : Nat} {Γ ss : List Sm} (h : shp Γ ss t) : (chk t w).e ≠ 6 ∧ ((chk t w).e = 0 → shp Γ ss (chk t w).t) := by
  unfold chk
  split
  · exact ⟨by simp, fun _ => h⟩
  · exact ⟨by simp, fun h => absurd h (by simp)⟩
theorem apF_shp (f : Tm → Sm → Tm → Nat → Res) (Γ : List Sm) (hf : ∀ u s b ss w, shp Γ s.args u → shp (s :: Γ) ss b → (f u s b w).e ≠ 6 ∧ ((f u s b w).e = 0 → shp Γ ss (f u s b w).t)) (us : List Tm) :
    ∀ (m : Tm) (ss : List Sm) (w : Nat), shp Γ ss m → shpA Γ ss us → (apF f m ss us w).e ≠ 6 ∧ ((apF f m ss us w).e = 0 → shp Γ [] (apF f m ss us w).t) := by
  induction us with
  | nil =>
    intro m ss w hm hA
    rw [shpA] at hA
    subst hA
    unfold apF
    cases m with
    | mk k n i l =>
      have hm' := hm
      rw [shp_mk] at hm'
      rw [if_neg]
      · exact chk_shp hm
      · rcases hm' with ⟨_, s, ss', e, _⟩ | ⟨rfl, _⟩ | ⟨rfl, _⟩
        · cases e
        · simp
        · simp
  | cons u us ih =>
    intro m ss w hm hA
    rw [shpA] at hA
    obtain ⟨s, ss', rfl, h1, h2⟩ := hA
    rw [apF]
    cases m with
    | mk k n i l =>
      rw [shp_mk] at hm
      rcases hm with ⟨rfl, s', ss2, e, hb⟩ | ⟨_, e, _⟩ | ⟨_, e, _⟩
      · cases e
        rw [if_pos (show (mk 3 n i l).kind = 3 from rfl)]
        obtain ⟨b, rfl⟩ := List.length_eq_one_iff.1 (shpA_length hb)
        have hb' := shpA_one.1 hb
        obtain ⟨g1, g2⟩ := hf u s b ss' w h1 hb'
        show (if (f u s b w).e = 0 then _ else f u s b w).e ≠ 6 ∧ _
        by_cases he : (f u s b w).e = 0
        · have := ih _ ss' (f u s b w).w (g2 he) h2
          show (if (f u s b w).e = 0 then _ else f u s b w).e ≠ 6 ∧ ((if (f u s b w).e = 0 then _ else f u s b w).e = 0 → shp Γ [] (if (f u s b w).e = 0 then _ else f u s b w).t)
          rw [if_pos he]
          exact this
        · show (if (f u s b w).e = 0 then _ else f u s b w).e ≠ 6 ∧ ((if (f u s b w).e = 0 then _ else f u s b w).e = 0 → shp Γ [] (if (f u s b w).e = 0 then _ else f u s b w).t)
          rw [if_neg he]
          exact ⟨g1, fun h => absurd h he⟩
      · cases e
      · cases e
theorem sbN_off (f : Tm → Sm → Tm → Nat → Res) (ms : List Tm) (ss : List Sm) (d k : Int) (nm : List UInt8) (i : Int) (us : List Tm) (w : Nat) (hk : k ≠ 5) : sbN f ms ss d k nm i us w = chk (mk k nm i us) w := by
  unfold sbN
  rw [if_neg (fun h => hk h.1)]
theorem sb_nd (n : Nat) (ms : List Tm) (ss : List Sm) (d k : Int) (nm : List UInt8) (i : Int) (ts : List Tm) (w : Nat) : sb (n + 1) ms ss d (mk k nm i ts) w =
    if 262144 < w + 1 then ⟨2, none0, w + 1⟩ else
    if (sbA (fun d' t' w' => sb n ms ss d' t' w') d k 0 ts (w + 1)).e = 0 then
      sbN (fun u s b w' => sb n [u] [s] 0 b w') ms ss d k nm i (sbA (fun d' t' w' => sb n ms ss d' t' w') d k 0 ts (w + 1)).ts (sbA (fun d' t' w' => sb n ms ss d' t' w') d k 0 ts (w + 1)).w
    else ⟨(sbA (fun d' t' w' => sb n ms ss d' t' w') d k 0 ts (w + 1)).e, none0, (sbA (fun d' t' w' => sb n ms ss d' t' w') d k 0 ts (w + 1)).w⟩ := by
  rw [sb]; rfl
/-- A substitution of objects that fit in a term that fits: it fits, and there is no error of the shape. -/
theorem sb_shp (n : Nat) : ∀ (Δ Γ : List Sm) (ms : List Tm) (ss : List Sm) (t : Tm) (ty : List Sm) (w : Nat) (d : Int), d = Δ.length → shpA Γ ss ms → shp (Δ ++ (ss ++ Γ)) ty t → (sb n ms ss d t w).e ≠ 6 ∧ ((sb n ms ss d t w).e = 0 → shp (Δ ++ Γ) ty (sb n ms ss d t w).t) := by
  induction n with
  | zero => intro Δ Γ ms ss t ty w d _ _ _; rw [sb]; exact ⟨by simp, fun h => absurd h (by simp)⟩
  | succ n IH =>
    intro Δ Γ ms ss t ty w d hd hms ht
    have hlen := shpA_length hms
    cases t with
    | mk k nm i l =>
      rw [sb_nd]
      by_cases hb : 262144 < w + 1
      · rw [if_pos hb]; exact ⟨by simp, fun h => absurd h (by simp)⟩
      rw [if_neg hb]
      rw [shp_mk] at ht
      rcases ht with ⟨rfl, s, ty', rfl, hl⟩ | ⟨rfl, rfl, rfl⟩ | ⟨rfl, rfl, h0, s, hs, hl⟩
      · have hA := sbA_shp (fun d' t' w' => sb n ms ss d' t' w') d 3 1 under_lam (s :: (Δ ++ (ss ++ Γ))) (s :: (Δ ++ Γ)) l
          (fun t _ ty w h => IH (s :: Δ) Γ ms ss t ty w (d + 1) (by simp; omega) hms h) 0 (w + 1) _ hl
        by_cases he : (sbA (fun d' t' w' => sb n ms ss d' t' w') d 3 0 l (w + 1)).e = 0
        · rw [if_pos he, sbN_off _ _ _ _ _ _ _ _ _ (by omega)]
          exact chk_shp ((shp_mk _ _ _ _ _ _).2 (.inl ⟨rfl, s, ty', rfl, hA.2 he⟩))
        · rw [if_neg he]
          exact ⟨hA.1, fun h => absurd h he⟩
      · rw [sbA, if_pos rfl, sbN_off _ _ _ _ _ _ _ _ _ (by omega)]
        exact chk_shp ((shp_mk _ _ _ _ _ _).2 (.inr (.inl ⟨rfl, rfl, rfl⟩)))
      · have hA := sbA_shp (fun d' t' w' => sb n ms ss d' t' w') d 5 0 under_var (Δ ++ (ss ++ Γ)) (Δ ++ Γ) l
          (fun t _ ty w h => IH Δ Γ ms ss t ty w (d + 0) (by omega) hms h) 0 (w + 1) _ hl
        by_cases he : (sbA (fun d' t' w' => sb n ms ss d' t' w') d 5 0 l (w + 1)).e = 0
        · rw [if_pos he]
          have hus := hA.2 he
          generalize (sbA (fun d' t' w' => sb n ms ss d' t' w') d 5 0 l (w + 1)).ts = us at *
          generalize (sbA (fun d' t' w' => sb n ms ss d' t' w') d 5 0 l (w + 1)).w = wj at *
          unfold sbN
          by_cases hi : d ≤ i
          · rw [if_pos ⟨rfl, hi⟩]
            have hi1 : Δ.length ≤ i.toNat := by omega
            rw [List.getElem?_append_right hi1] at hs
            by_cases hi2 : i - d < ms.length
            · rw [if_pos hi2]
              have hj1 : (i - d).toNat < ms.length := by omega
              have hj2 : (i - d).toNat < ss.length := by omega
              have e1 : i.toNat - Δ.length = (i - d).toNat := by omega
              rw [e1, List.getElem?_append_left hj2, List.getElem?_eq_getElem hj2] at hs
              cases hs
              split
              · exact ⟨by simp, fun h => absurd h (by simp)⟩
              · have hm := shpA_get hms _ hj1 hj2
                have hmv := shp_shift Δ Γ ms[(i - d).toNat] [] _ 0 (by simp) (by simpa using hm)
                simp only [List.nil_append] at hmv
                rw [← hd] at hmv
                simp only [List.getD_eq_getElem?_getD, List.getElem?_eq_getElem hj1, List.getElem?_eq_getElem hj2, Option.getD_some]
                unfold ap
                rw [if_pos (shpA_length hus)]
                exact apF_shp _ (Δ ++ Γ) (fun u s b ty w hu hb => IH [] (Δ ++ Γ) [u] [s] b ty w 0 (by simp) (shpA_one.2 hu) (by simpa using hb)) us _ _ _ hmv hus
            · rw [if_neg hi2]
              refine chk_shp ((shp_mk _ _ _ _ _ _).2 (.inr (.inr ⟨rfl, rfl, by omega, s, ?_, hus⟩)))
              rw [List.getElem?_append_right (by omega)] at hs
              rw [List.getElem?_append_right (by omega), ← hs]
              congr 1
              omega
          · rw [if_neg (fun h => hi h.2)]
            have hi1 : i.toNat < Δ.length := by omega
            rw [List.getElem?_append_left hi1] at hs
            exact chk_shp ((shp_mk _ _ _ _ _ _).2 (.inr (.inr ⟨rfl, rfl, h0, s, by rw [List.getElem?_append_left hi1]; exact hs, hus⟩)))
        · rw [if_neg he]
          exact ⟨hA.1, fun h => absurd h he⟩
/-- An application of an object that fits to arguments that fit. -/
theorem ap_shp (n : Nat) (Γ : List Sm) (m : Tm) (ss : List Sm) (us : List Tm) (w : Nat) (hm : shp Γ ss m) (hus : shpA Γ ss us) : (ap (fun u s b w => sb n [u] [s] 0 b w) m ss us w).e ≠ 6 := by
  unfold ap
  rw [if_pos (shpA_length hus)]
  exact (apF_shp _ Γ (fun u s b ty w hu hb => sb_shp n [] Γ [u] [s] b ty w 0 (by simp) (shpA_one.2 hu) (by simpa using hb)) us m ss w hm hus).1
end Go.LF.Tm
