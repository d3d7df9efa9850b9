/- A substitution in a well-formed term hands back a well-formed term. No program is in sight here. -/
import Derived.Test.YtdomloghcpfdjaaGreatDoorEA
namespace Go.LF.Tm
theorem isName_le64 {n : List UInt8} (h : isName n = true) : n.length ≤ 64 := by
  unfold isName at h
  simp only [Bool.and_eq_true, decide_eq_true_eq] at h
  exact h.1.1.1.2
theorem bound_le64 {n : List UInt8} {i : Int} {l : List Tm} {k : Nat} (h : bound n i l k = true) : n.length ≤ 64 := by
  unfold bound at h
  simp only [Bool.and_eq_true, Bool.or_eq_true, beq_iff_eq] at h
  rcases h.2 with (h | h) | h
  · rw [h]; simp
  · rw [h]; simp
  · exact isName_le64 h
theorem wts_le65 {l : List Tm} (h : ∀ t ∈ l, t.wt ≤ 65 * t.size) : wts l ≤ 65 * sizes l := by
  induction l with
  | nil => simp [wts]
  | cons t ts ih =>
    have h1 := h t (by simp)
    have h2 := ih (fun a ha => h a (by simp [ha]))
    simp only [wts, sizes]; omega
theorem obj_wt65 (t : Tm) : t.isObj = true → t.wt ≤ 65 * t.size := by
  induction t using ind with
  | h k n i l ih =>
    intro h
    obtain ⟨h1, _⟩ := obj_args h
    have h2 := wts_le65 (fun u hu => ih u hu (h1 u hu))
    have hn : n.length ≤ 64 := by
      rw [isObj] at h
      split at h
      · simp only [Bool.and_eq_true] at h
        exact bound_le64 h.1
      · split at h
        · simp only [Bool.and_eq_true] at h
          exact isName_le64 h.1.1
        · split at h
          · simp only [Bool.and_eq_true, beq_iff_eq] at h
            rw [h.1.1.1]; simp
          · split at h
            · simp only [Bool.and_eq_true, beq_iff_eq] at h
              rw [h.1.1.1]; simp
            · cases h
    rw [wt_mk, size_mk]
    omega
theorem typ_wt65 (t : Tm) : t.isTyp = true → t.wt ≤ 65 * t.size := by
  induction t using ind with
  | h k n i l ih =>
    intro h
    rw [isTyp, isAtom] at h
    simp only [Bool.or_eq_true, Bool.and_eq_true, beq_iff_eq] at h
    rw [wt_mk, size_mk]
    rcases h with h | h
    · have h3 := h.2.2
      rw [allObj_iff, List.all_eq_true] at h3
      have h2 := wts_le65 (fun u hu => obj_wt65 u (h3 u hu))
      have := isName_le64 h.2.1.1
      omega
    · have h3 := h.2.2
      rw [allTyp_iff, List.all_eq_true] at h3
      have h2 := wts_le65 (fun u hu => ih u hu (h3 u hu))
      have := bound_le64 h.2.1
      omega
theorem knd_wt65 (t : Tm) : t.isKnd = true → t.wt ≤ 65 * t.size := by
  induction t using ind with
  | h k n i l ih =>
    intro h
    unfold isKnd at h
    split at h
    · rename_i a b e
      cases e
      simp only [Bool.and_eq_true, beq_iff_eq] at h
      have h1 := typ_wt65 _ h.2.2.1
      have h2 := ih b (by simp) h.2.2.2
      have := bound_le64 h.2.1
      simp only [wt_mk, size_mk, wts, sizes]
      omega
    · rename_i e
      cases e
      simp only [Bool.and_eq_true, beq_iff_eq, List.isEmpty_iff] at h
      rw [h.2.1, h.2.2.2]
      simp [wts, sizes]
/-- A well-formed term is not heavy. -/
theorem wf_wt65 {t : Tm} (h : t.wf = 0) : t.wt ≤ 266240 := by
  have hs := (wf_any3 h).2.1
  have : t.wt ≤ 65 * t.size := by
    rcases (wf_any3 h).1 with h1 | h1 | h1
    · exact obj_wt65 t h1
    · exact typ_wt65 t h1
    · exact knd_wt65 t h1
  omega
theorem chk_t9 {t : Tm} {w : Nat} (h : (chk t w).e = 0) : (chk t w).t = t := by
  unfold chk at h ⊢
  split
  · rfl
  · rename_i h1; rw [if_neg h1] at h; simp at h
theorem sbN_off9 (f : Tm → Sm → Tm → Nat → Res) (ms : List Tm) (ss : List Sm) (d k : Int) (nm : List UInt8) (i : Int) (us : List Tm) (w : Nat) (hk : k ≠ 5) : sbN f ms ss d k nm i us w = chk (mk k nm i us) w := by
  unfold sbN
  rw [if_neg (fun h => hk h.1)]
theorem sb_nd9 (n : Nat) (ms : List Tm) (ss : List Sm) (d : Int) (k i : Int) (nm : List UInt8) (ts : List Tm) (w : Nat) : sb (n + 1) ms ss d (mk k nm i ts) w =
    if 262144 < w + 1 then ⟨2, none0, w + 1⟩ else
    if (sbA (fun d' t' w' => sb n ms ss d' t' w') d k 0 ts (w + 1)).e = 0 then
      sbN (fun u s b w' => sb n [u] [s] 0 b w') ms ss d k nm i (sbA (fun d' t' w' => sb n ms ss d' t' w') d k 0 ts (w + 1)).ts (sbA (fun d' t' w' => sb n ms ss d' t' w') d k 0 ts (w + 1)).w
    else ⟨(sbA (fun d' t' w' => sb n ms ss d' t' w') d k 0 ts (w + 1)).e, none0, (sbA (fun d' t' w' => sb n ms ss d' t' w') d k 0 ts (w + 1)).w⟩ := by
  rw [sb]; rfl
/-- A step that went well, taken apart. -/
theorem sb_parts9 {n : Nat} {ms : List Tm} {ss : List Sm} {d : Int} {k i : Int} {nm : List UInt8} {l : List Tm} {w : Nat} (h : (sb n ms ss d (mk k nm i l) w).e = 0) :
    ∃ n', n = n' + 1 ∧ (sbA (fun d' t' w' => sb n' ms ss d' t' w') d k 0 l (w + 1)).e = 0 ∧
      sb n ms ss d (mk k nm i l) w = sbN (fun u s b w' => sb n' [u] [s] 0 b w') ms ss d k nm i (sbA (fun d' t' w' => sb n' ms ss d' t' w') d k 0 l (w + 1)).ts (sbA (fun d' t' w' => sb n' ms ss d' t' w') d k 0 l (w + 1)).w := by
  cases n with
  | zero => rw [sb] at h; simp at h
  | succ n =>
    rw [sb_nd9] at h ⊢
    by_cases hb : 262144 < w + 1
    · rw [if_pos hb] at h; simp at h
    rw [if_neg hb] at h ⊢
    by_cases he : (sbA (fun d' t' w' => sb n ms ss d' t' w') d k 0 l (w + 1)).e = 0
    · exact ⟨n, rfl, he, by rw [if_pos he]⟩
    · rw [if_neg he] at h; exact absurd h he
theorem sbA_all (f : Int → Tm → Nat → Res) (P : Tm → Prop) (d k : Int) (l : List Tm) (hf : ∀ t ∈ l, ∀ j w, (f (d + under k j) t w).e = 0 → P (f (d + under k j) t w).t) : ∀ (j w : Nat), ∀ u ∈ (sbA f d k j l w).ts, P u := by
  induction l with
  | nil => intro j w u hu; simp [sbA] at hu
  | cons t ts ih =>
    intro j w u hu
    rw [sbA] at hu
    split at hu
    · rename_i h1
      split at hu
      · rcases List.mem_cons.1 hu with rfl | hu
        · exact hf t (by simp) _ _ h1
        · exact ih (fun t ht => hf t (by simp [ht])) _ _ u hu
      · simp at hu
    · simp at hu
theorem under_01 (k : Int) (j : Nat) : under k j = 0 ∨ under k j = 1 := by unfold under; split <;> simp
theorem sb_typ (n : Nat) : ∀ (ms : List Tm) (ss : List Sm) (d : Int) (t : Tm) (w : Nat), (∀ u ∈ ms, u.isObj = true ∧ u.small = true) → 0 ≤ d → d + (t.depth : Int) ≤ 1048576 → t.isTyp = true → (sb n ms ss d t w).e = 0 → (sb n ms ss d t w).t.isTyp = true := by
  induction n with
  | zero => intro ms ss d t w _ _ _ _ h; rw [sb] at h; simp at h
  | succ n ih =>
    intro ms ss d t w hms h0 h1 ht h
    cases t with
    | mk k nm i l =>
      obtain ⟨n', e, hA, hS⟩ := sb_parts9 h
      cases e
      rw [hS] at h ⊢
      have hlen := sbA_length _ _ _ _ _ _ hA
      rw [isTyp, isAtom] at ht
      simp only [Bool.or_eq_true, Bool.and_eq_true, beq_iff_eq] at ht
      rw [depth_mk] at h1
      rcases ht with ⟨rfl, ⟨h2, h3⟩, h4⟩ | ⟨rfl, h2, h4⟩
      · rw [sbN_off9 _ _ _ _ _ _ _ _ _ (by omega)] at h ⊢
        rw [chk_t9 h, isTyp, isAtom]
        rw [allObj_iff, List.all_eq_true] at h4
        have hu : allObj (sbA (fun d' t' w' => sb n ms ss d' t' w') d 4 0 l (w + 1)).ts = true := by
          rw [allObj_iff, List.all_eq_true]
          refine sbA_all _ (fun u => u.isObj = true) d 4 l (fun t ht j w he => ?_) 0 (w + 1)
          have hd := depth_le_depths ht
          have hu := under_01 4 j
          rcases sb_good n ms ss (d + under 4 j) t w hms (by omega) (by omega) (h4 t ht) with h5 | h5
          · exact h5.2.1
          · exact absurd he h5.1
        rw [hu, h2, h3]
        rfl
      · rw [sbN_off9 _ _ _ _ _ _ _ _ _ (by omega)] at h ⊢
        rw [chk_t9 h, isTyp]
        rw [allTyp_iff, List.all_eq_true] at h4
        have hu : allTyp (sbA (fun d' t' w' => sb n ms ss d' t' w') d 2 0 l (w + 1)).ts = true := by
          rw [allTyp_iff, List.all_eq_true]
          refine sbA_all _ (fun u => u.isTyp = true) d 2 l (fun t ht j w he => ?_) 0 (w + 1)
          have hd := depth_le_depths ht
          have hu := under_01 2 j
          exact ih ms ss (d + under 2 j) t w hms (by omega) (by omega) (h4 t ht) he
        rw [hu]
        unfold bound at h2 ⊢
        rw [hlen, h2]
        simp
theorem sb_knd (n : Nat) : ∀ (ms : List Tm) (ss : List Sm) (d : Int) (t : Tm) (w : Nat), (∀ u ∈ ms, u.isObj = true ∧ u.small = true) → 0 ≤ d → d + (t.depth : Int) ≤ 1048576 → t.isKnd = true → (sb n ms ss d t w).e = 0 → (sb n ms ss d t w).t.isKnd = true := by
  induction n with
  | zero => intro ms ss d t w _ _ _ _ h; rw [sb] at h; simp at h
  | succ n ih =>
    intro ms ss d t w hms h0 h1 ht h
    cases t with
    | mk k nm i l =>
      obtain ⟨n', e, hA, hS⟩ := sb_parts9 h
      cases e
      rw [hS] at h ⊢
      unfold isKnd at ht
      split at ht
      · rename_i k' n' i' a b e
        cases e
        simp only [Bool.and_eq_true, beq_iff_eq] at ht
        obtain ⟨rfl, h2, h3, h4⟩ := ht
        simp only [depth_mk, depths] at h1
        rw [sbN_off9 _ _ _ _ _ _ _ _ _ (by omega)] at h ⊢
        rw [chk_t9 h]
        have hu0 := under_01 2 0
        have hu1 := under_01 2 (0 + 1)
        rw [sbA] at hA ⊢
        by_cases he : (sb n ms ss (d + under 2 0) a (w + 1)).e = 0
        · rw [if_pos he] at hA ⊢
          rw [sbA] at hA ⊢
          by_cases he2 : (sb n ms ss (d + under 2 (0 + 1)) b (sb n ms ss (d + under 2 0) a (w + 1)).w).e = 0
          · rw [if_pos he2, sbA, if_pos rfl, if_pos rfl]
            have ha := sb_typ n ms ss (d + under 2 0) a (w + 1) hms (by omega) (by omega) h3 he
            have hb := ih ms ss (d + under 2 (0 + 1)) b _ hms (by omega) (by omega) h4 he2
            simp only [isKnd, Bool.and_eq_true, beq_iff_eq]
            refine ⟨trivial, ?_, ha, hb⟩
            unfold bound at h2 ⊢
            simpa using h2
          · rw [if_neg he2] at hA
            simp only at hA
            rw [if_neg he2] at hA
            exact absurd hA he2
        · rw [if_neg he] at hA
          exact absurd hA he
      · rename_i e
        cases e
        simp only [Bool.and_eq_true, beq_iff_eq, List.isEmpty_iff] at ht
        obtain ⟨rfl, rfl, rfl, rfl⟩ := ht
        rw [sbN_off9 _ _ _ _ _ _ _ _ _ (by omega)] at h ⊢
        rw [chk_t9 h, sbA]
        rfl
/-- The result of a substitution that went well. -/
theorem sb_wf {n : Nat} {ms : List Tm} {ss : List Sm} {t : Tm} {w : Nat} (hms : ∀ u ∈ ms, u.isObj = true ∧ u.small = true) (ht : t.isObj = true ∨ t.isTyp = true ∨ t.isKnd = true) (hd : t.depth ≤ 1000) (h : (sb n ms ss 0 t w).e = 0) : (sb n ms ss 0 t w).t.wf = 0 := by
  have hs := sb_small n ms ss 0 t w h
  unfold wf
  rw [hs]
  rcases ht with h1 | h1 | h1
  · rcases sb_good n ms ss 0 t w hms (by omega) (by omega) h1 with h5 | h5
    · rw [h5.2.1]; rfl
    · exact absurd h h5.1
  · rw [sb_typ n ms ss 0 t w hms (by omega) (by omega) h1 h]; simp
  · rw [sb_knd n ms ss 0 t w hms (by omega) (by omega) h1 h]; simp
end Go.LF.Tm
