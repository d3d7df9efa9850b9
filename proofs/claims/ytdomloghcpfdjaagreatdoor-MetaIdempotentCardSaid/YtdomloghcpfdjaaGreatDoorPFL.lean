/- How many free variables there are behind a substitution. No program is in sight here. -/
import Derived.Test.YtdomloghcpfdjaaGreatDoorPFB
import Derived.Test.YtdomloghcpfdjaaGreatDoorPFC
import Derived.Test.YtdomloghcpfdjaaGreatDoorPFJ
namespace Go.LF.Tm
mutual
/-- All free variables are less than n. -/
def lt (n : Int) : Tm → Prop
  | mk k _ i l => (k = 5 → i < n) ∧ ltA n k 0 l
def ltA (n k : Int) (j : Nat) : List Tm → Prop
  | [] => True
  | t :: ts => lt (n + under k j) t ∧ ltA n k (j + 1) ts
end
theorem lt_mk (n k nm i l) : lt n (mk k nm i l) ↔ (k = 5 → i < n) ∧ ltA n k 0 l := by rw [lt]
theorem ltA_nil (n k : Int) (j : Nat) : ltA n k j [] := by rw [ltA]; trivial
theorem ltA_cons (n k : Int) (j : Nat) (t : Tm) (ts : List Tm) : ltA n k j (t :: ts) ↔ lt (n + under k j) t ∧ ltA n k (j + 1) ts := by rw [ltA]
theorem lt_le (t : Tm) : ∀ {n n' : Int}, n ≤ n' → lt n t → lt n' t := by
  induction t using ind with
  | h k nm i l ih =>
    intro n n' hn h
    rw [lt_mk] at h ⊢
    refine ⟨fun e => by have := h.1 e; omega, ?_⟩
    have key : ∀ (l' : List Tm), (∀ t ∈ l', t ∈ l) → ∀ j, ltA n k j l' → ltA n' k j l' := by
      intro l'
      induction l' with
      | nil => intro _ j _; exact ltA_nil _ _ _
      | cons t ts ih2 =>
        intro hm j h
        rw [ltA_cons] at h ⊢
        exact ⟨ih t (hm t (by simp)) (by omega) h.1, ih2 (fun t ht => hm t (by simp [ht])) (j + 1) h.2⟩
    exact key l (fun _ h => h) 0 h.2
theorem lt_scope (t : Tm) : ∀ {n : Int}, 0 ≤ n → (lt n t ↔ scope t ≤ n) := by
  induction t using ind with
  | h k nm i l ih =>
    intro n hn
    rw [lt_mk, scope]
    have key : ∀ (l' : List Tm), (∀ t ∈ l', t ∈ l) → ∀ (j : Nat) (acc : Int), (acc ≤ n ∧ ltA n k j l') ↔ scopes k j acc l' ≤ n := by
      intro l'
      induction l' with
      | nil => intro _ j acc; rw [scopes]; exact ⟨fun h => h.1, fun h => ⟨h, ltA_nil _ _ _⟩⟩
      | cons t ts ih2 =>
        intro hm j acc
        have hu := under_le k j
        rw [scopes, ltA_cons, ← ih2 (fun t ht => hm t (by simp [ht])), ih t (hm t (by simp)) (by omega)]
        constructor
        · rintro ⟨h1, h2, h3⟩; exact ⟨by omega, h3⟩
        · rintro ⟨h1, h2⟩; exact ⟨by omega, by omega, h2⟩
    rw [← key l (fun _ h => h)]
    by_cases hk : k = 5
    · subst hk
      simp only [beq_self_eq_true, if_true, forall_const]
      constructor
      · rintro ⟨h1, h2⟩; exact ⟨by omega, h2⟩
      · rintro ⟨h1, h2⟩; exact ⟨by omega, h2⟩
    · rw [if_neg (by simpa using hk)]
      exact ⟨fun h => ⟨hn, h.2⟩, fun h => ⟨fun e => absurd e hk, h.2⟩⟩
theorem lt_none0 {n : Int} : lt n none0 := (lt_mk _ _ _ _ _).2 ⟨fun e => absurd e (by decide), ltA_nil _ _ _⟩
theorem lt_mv (t : Tm) : ∀ (by' b n : Int), 0 ≤ by' → lt n t → lt (n + by') (mv (shF by' 0) b t) := by
  induction t using ind with
  | h k nm i l ih =>
    intro by' b n h0 h
    rw [lt_mk] at h
    rw [mv_mk, lt_mk]
    refine ⟨fun e => ?_, ?_⟩
    · have := h.1 e
      unfold mvi shF
      simp only
      split
      · split <;> omega
      · omega
    have key : ∀ (l' : List Tm), (∀ t ∈ l', t ∈ l) → ∀ j, ltA n k j l' → ltA (n + by') k j (mvA (shF by' 0) b k j l') := by
      intro l'
      induction l' with
      | nil => intro _ j _; rw [mvA]; exact ltA_nil _ _ _
      | cons t ts ih2 =>
        intro hm j h
        rw [ltA_cons] at h
        rw [mvA, ltA_cons]
        refine ⟨?_, ih2 (fun t ht => hm t (by simp [ht])) (j + 1) h.2⟩
        have := ih t (hm t (by simp)) by' (b + under k j) (n + under k j) h0 h.1
        rw [show n + by' + under k j = n + under k j + by' by omega]
        exact this
    exact key l (fun _ h => h) 0 h.2
theorem chk_lt {t : Tm} {w : Nat} {n : Int} (h : lt n t) : lt n (chk t w).t := by
  unfold chk
  split
  · exact h
  · exact lt_none0
theorem apF_lt (n : Int) (f : Tm → Sm → Tm → Nat → Res) (hf : ∀ u s b w, lt n u → lt (n + 1) b → lt n (f u s b w).t) (us : List Tm) : ∀ (m : Tm) (ss : List Sm) (w : Nat), lt n m → (∀ u ∈ us, lt n u) → lt n (apF f m ss us w).t := by
  induction us with
  | nil =>
    intro m ss w hm _
    unfold apF
    split
    · exact lt_none0
    · exact chk_lt hm
  | cons u us ih =>
    intro m ss w hm hu
    cases ss with
    | nil => unfold apF; exact lt_none0
    | cons s ss =>
      rw [apF]
      split
      · rename_i hk
        have hb : lt (n + 1) (m.args.headD none0) := by
          cases m with
          | mk k nm i l =>
            rw [lt_mk] at hm
            have hk : k = 3 := hk
            subst hk
            cases l with
            | nil => exact lt_none0
            | cons t ts =>
              have := hm.2
              rw [ltA_cons] at this
              exact this.1
        have hf1 := hf u s _ w (hu u (by simp)) hb
        split
        · exact ih _ _ _ hf1 (fun u h => hu u (by simp [h]))
        · exact hf1
      · exact lt_none0
theorem sbN_lt (N : Int) (hN : 0 ≤ N) (f : Tm → Sm → Tm → Nat → Res) (ms : List Tm) (ss : List Sm) (d k : Int) (hd : 0 ≤ d) (hf : ∀ u s b w, lt (N + d) u → lt (N + d + 1) b → lt (N + d) (f u s b w).t) (nm : List UInt8) (i : Int) (us : List Tm) (w : Nat)
    (hms : ∀ m ∈ ms, lt N m) (hi : k = 5 → i < N + ms.length + d) (hu : ltA (N + d) k 0 us) : lt (N + d) (sbN f ms ss d k nm i us w).t := by
  unfold sbN
  split
  · rename_i hk
    obtain ⟨rfl, hdi⟩ := hk
    have hus : ∀ u ∈ us, lt (N + d) u := by
      have key : ∀ (l : List Tm) j, ltA (N + d) 5 j l → ∀ u ∈ l, lt (N + d) u := by
        intro l
        induction l with
        | nil => intro j _ u hu; cases hu
        | cons t ts ih =>
          intro j h u hu
          rw [ltA_cons] at h
          rcases List.mem_cons.1 hu with rfl | hu
          · have := h.1; rw [show under 5 j = 0 by unfold under; simp] at this; simpa using this
          · exact ih (j + 1) h.2 u hu
      exact key us 0 hu
    split
    · rename_i hlt
      split
      · exact lt_none0
      · unfold ap
        split
        · refine apF_lt (N + d) f hf us _ _ _ ?_ hus
          have hl : (i - d).toNat < ms.length := by omega
          rw [List.getD, List.getElem?_eq_getElem hl]
          exact lt_mv _ d 0 N hd (hms _ (List.getElem_mem hl))
        · exact lt_none0
    · refine chk_lt ((lt_mk _ _ _ _ _).2 ⟨fun _ => ?_, hu⟩)
      have := hi rfl
      omega
  · rename_i hk
    refine chk_lt ((lt_mk _ _ _ _ _).2 ⟨fun e => ?_, hu⟩)
    have : i < d := by
      by_cases h : i < d
      · exact h
      · exact absurd ⟨e, by omega⟩ hk
    omega
theorem sb_lt' (n : Nat) : ∀ (N : Int) (ms : List Tm) (ss : List Sm) (d : Int) (t : Tm) (w : Nat), 0 ≤ N → 0 ≤ d → (∀ m ∈ ms, lt N m) → lt (N + ms.length + d) t → lt (N + d) (sb n ms ss d t w).t := by
  induction n with
  | zero => intro N ms ss d t w _ _ _ _; rw [sb]; exact lt_none0
  | succ n ih =>
    intro N ms ss d t w hN hd hms ht
    rw [sb]
    split
    · exact lt_none0
    · split
      · cases t with
        | mk k nm i l =>
          simp only [kind_mk, name_mk, index_mk, args_mk] at *
          rw [lt_mk] at ht
          refine sbN_lt N hN _ ms ss d k hd (fun u s b w hu hb => ?_) nm i _ _ hms ht.1 ?_
          · have := ih (N + d) [u] [s] 0 b w (by omega) (by omega) (fun m hm => by obtain rfl := List.mem_singleton.1 hm; exact hu) (by simpa using hb)
            simpa using this
          · have key : ∀ (l' : List Tm), (∀ t ∈ l', t ∈ l) → ∀ (j w : Nat), ltA (N + ms.length + d) k j l' → ltA (N + d) k j (sbA (fun d' t' w' => sb n ms ss d' t' w') d k j l' w).ts := by
              intro l'
              induction l' with
              | nil => intro _ j w _; rw [sbA]; exact ltA_nil _ _ _
              | cons t ts ih2 =>
                intro hm j w h
                rw [ltA_cons] at h
                have hu := under_le k j
                rw [sbA]
                split
                · split
                  · show ltA _ _ _ (_ :: _)
                    rw [ltA_cons]
                    refine ⟨?_, ih2 (fun t ht => hm t (by simp [ht])) (j + 1) _ h.2⟩
                    have := ih N ms ss (d + under k j) t w hN (by omega) hms (by rw [← Int.add_assoc]; exact h.1)
                    rw [Int.add_assoc]
                    exact this
                  · exact ltA_nil _ _ _
                · exact ltA_nil _ _ _
            exact key l (fun _ h => h) 0 _ ht.2
      · exact lt_none0
theorem ap_lt (n : Nat) (N : Int) (hN : 0 ≤ N) (m : Tm) (ss : List Sm) (us : List Tm) (w : Nat) (hm : lt N m) (hu : ∀ u ∈ us, lt N u) : lt N (ap (fun u s b w' => sb n [u] [s] 0 b w') m ss us w).t := by
  unfold ap
  split
  · refine apF_lt N _ (fun u s b w h1 h2 => ?_) us m ss w hm hu
    have := sb_lt' n N [u] [s] 0 b w hN (by omega) (fun m hm => by obtain rfl := List.mem_singleton.1 hm; exact h1) (by simpa using h2)
    simpa using this
  · exact lt_none0
end Go.LF.Tm
namespace Go.LF
open Tm Go.Proofs.YtdomloghcpfdjaaGreatDoor
/-! Other numbers for the metavariables. -/
theorem renT_mk (f : Int → Int) (k n i l) : renT f (mk k n i l) = mk k n (if k = 6 then f i else i) (l.map (renT f)) := by rw [renT, renTs_map]
theorem renT_size (f : Int → Int) (t : Tm) : (renT f t).size = t.size := by
  induction t using ind with
  | h k n i l ih =>
    rw [renT_mk, size_mk, size_mk]
    have key : ∀ (l' : List Tm), (∀ t ∈ l', t ∈ l) → sizes (l'.map (renT f)) = sizes l' := by
      intro l'
      induction l' with
      | nil => intro _; rfl
      | cons t ts ih2 => intro hm; rw [List.map_cons, sizes, sizes, ih t (hm t (by simp)), ih2 (fun t ht => hm t (by simp [ht]))]
    rw [key l (fun _ h => h)]
theorem renT_depth (f : Int → Int) (t : Tm) : (renT f t).depth = t.depth := by
  induction t using ind with
  | h k n i l ih =>
    rw [renT_mk, depth_mk, depth_mk]
    have key : ∀ (l' : List Tm), (∀ t ∈ l', t ∈ l) → depths (l'.map (renT f)) = depths l' := by
      intro l'
      induction l' with
      | nil => intro _; rfl
      | cons t ts ih2 => intro hm; rw [List.map_cons, depths, depths, ih t (hm t (by simp)), ih2 (fun t ht => hm t (by simp [ht]))]
    rw [key l (fun _ h => h)]
theorem renT_small (f : Int → Int) (t : Tm) : (renT f t).small = t.small := by unfold small; rw [renT_size, renT_depth]
/-- Where the new numbers are such that a term may have them. -/
def Rok (f : Int → Int) (t : Tm) : Prop := nal (fun k _ i _ => k = 6 → 0 ≤ f i ∧ f i < 2048) t
theorem rok_args {f : Int → Int} {k i : Int} {n : List UInt8} {l : List Tm} (h : Rok f (mk k n i l)) : ∀ t ∈ l, Rok f t := fun t ht => (nalA_iff l).1 ((nal_mk _ _ _ _).1 h).2 t ht
theorem renT_obj (f : Int → Int) (t : Tm) : Rok f t → t.isObj = true → (renT f t).isObj = true := by
  induction t using ind with
  | h k n i l ih =>
    intro hr h
    have ha := rok_args hr
    have h6 := ((nal_mk _ _ _ _).1 hr).1
    have key : ∀ (l' : List Tm), (∀ t ∈ l', t ∈ l) → allObj l' = true → allObj (l'.map (renT f)) = true := by
      intro l'
      induction l' with
      | nil => intro _ h; exact h
      | cons t ts ih2 =>
        intro hm h
        rw [allObj, Bool.and_eq_true] at h
        rw [List.map_cons, allObj, ih t (hm t (by simp)) (ha t (hm t (by simp))) h.1, ih2 (fun t ht => hm t (by simp [ht])) h.2]; rfl
    rw [renT_mk, isObj]
    rw [isObj] at h
    split
    · rename_i hk; rw [if_pos hk] at h
      subst hk
      rw [if_neg (by decide)]
      unfold bound at h ⊢
      rw [List.length_map]
      rw [Bool.and_eq_true] at h ⊢; exact ⟨h.1, key l (fun _ h => h) h.2⟩
    rename_i hk3
    rw [if_neg hk3] at h
    split
    · rename_i hk; rw [if_pos hk] at h; subst hk; rw [if_neg (by decide)]; rw [Bool.and_eq_true] at h ⊢; exact ⟨h.1, key l (fun _ h => h) h.2⟩
    rename_i hk4
    rw [if_neg hk4] at h
    split
    · rename_i hk; rw [if_pos hk] at h; subst hk; rw [if_neg (by decide)]; rw [Bool.and_eq_true] at h ⊢; exact ⟨h.1, key l (fun _ h => h) h.2⟩
    rename_i hk5
    rw [if_neg hk5] at h
    split
    · rename_i hk; rw [if_pos hk] at h; subst hk
      simp only [Bool.and_eq_true, decide_eq_true_eq] at h ⊢
      exact ⟨⟨⟨h.1.1.1, (h6 rfl).1⟩, (h6 rfl).2⟩, key l (fun _ h => h) h.2⟩
    · rename_i hk; rw [if_neg hk] at h; cases h
theorem renT_objs (f : Int → Int) : ∀ (l : List Tm), (∀ t ∈ l, Rok f t) → allObj l = true → allObj (l.map (renT f)) = true
  | [], _, h => h
  | t :: ts, hr, h => by
    rw [allObj, Bool.and_eq_true] at h
    rw [List.map_cons, allObj, renT_obj f t (hr t (by simp)) h.1, renT_objs f ts (fun t ht => hr t (by simp [ht])) h.2]; rfl
theorem renT_typ (f : Int → Int) (t : Tm) : Rok f t → t.isTyp = true → (renT f t).isTyp = true := by
  induction t using ind with
  | h k n i l ih =>
    intro hr h
    have ha := rok_args hr
    have key : ∀ (l' : List Tm), (∀ t ∈ l', t ∈ l) → allTyp l' = true → allTyp (l'.map (renT f)) = true := by
      intro l'
      induction l' with
      | nil => intro _ h; exact h
      | cons t ts ih2 =>
        intro hm h
        rw [allTyp, Bool.and_eq_true] at h
        rw [List.map_cons, allTyp, ih t (hm t (by simp)) (ha t (hm t (by simp))) h.1, ih2 (fun t ht => hm t (by simp [ht])) h.2]; rfl
    rw [renT_mk]
    rw [isTyp, isAtom] at h ⊢
    unfold bound at h ⊢
    rw [List.length_map]
    simp only [Bool.or_eq_true, Bool.and_eq_true, beq_iff_eq] at h ⊢
    rcases h with ⟨rfl, ⟨h1, h2⟩, h3⟩ | ⟨rfl, h2, h3⟩
    · exact .inl ⟨rfl, ⟨h1, by rw [if_neg (by decide)]; exact h2⟩, renT_objs f l ha h3⟩
    · exact .inr ⟨rfl, by rw [if_neg (by decide)]; exact h2, key l (fun _ h => h) h3⟩
theorem knd_cases {t : Tm} (h : t.isKnd = true) : (∃ n i a b, t = mk 2 n i [a, b] ∧ bound n i [a, b] 2 = true ∧ a.isTyp = true ∧ b.isKnd = true) ∨ t = mk 1 [] 0 [] := by
  unfold isKnd at h
  split at h
  · rename_i k n i a b
    simp only [Bool.and_eq_true, beq_iff_eq] at h
    obtain ⟨rfl, h1, h2, h3⟩ := h
    exact .inl ⟨n, i, a, b, rfl, h1, h2, h3⟩
  · rename_i k n i l _
    simp only [Bool.and_eq_true, beq_iff_eq, List.isEmpty_iff] at h
    obtain ⟨rfl, rfl, rfl, rfl⟩ := h
    exact .inr rfl
theorem renT_knd (f : Int → Int) (t : Tm) : Rok f t → t.isKnd = true → (renT f t).isKnd = true := by
  induction t using ind with
  | h k n i l ih =>
    intro hr h
    have ha := rok_args hr
    rcases knd_cases h with ⟨n', i', a, b, e, h1, h2, h3⟩ | e
    · cases e
      rw [renT_mk]
      show isKnd (mk 2 n (if (2 : Int) = 6 then f i else i) [renT f a, renT f b]) = true
      rw [if_neg (by decide), isKnd]
      unfold bound at h1 ⊢
      simp only [Bool.and_eq_true] at h1 ⊢
      exact ⟨rfl, h1, renT_typ f a (ha a (by simp)) h2, ih b (by simp) (ha b (by simp)) h3⟩
    · cases e; rw [renT_mk]; rfl
theorem renT_wf (f : Int → Int) (t : Tm) (hr : Rok f t) (h : t.wf = 0) : (renT f t).wf = 0 := by
  have hs := wf_any3 h
  have hsm : (renT f t).small = true := by rw [renT_small]; unfold small; simp [hs.2.1, hs.2.2]
  unfold wf
  rw [hsm]
  rcases hs.1 with h1 | h1 | h1
  · rw [renT_obj f t hr h1]; rfl
  · rw [renT_typ f t hr h1]; simp
  · rw [renT_knd f t hr h1]; simp
theorem renT_lt (f : Int → Int) (t : Tm) : ∀ n, lt n t → lt n (renT f t) := by
  induction t using ind with
  | h k nm i l ih =>
    intro n h
    rw [lt_mk] at h
    rw [renT_mk, lt_mk]
    refine ⟨fun e => by rw [if_neg (by omega)]; exact h.1 e, ?_⟩
    have key : ∀ (l' : List Tm), (∀ t ∈ l', t ∈ l) → ∀ j, ltA n k j l' → ltA n k j (l'.map (renT f)) := by
      intro l'
      induction l' with
      | nil => intro _ j _; exact ltA_nil _ _ _
      | cons t ts ih2 =>
        intro hm j h
        rw [ltA_cons] at h
        rw [List.map_cons, ltA_cons]
        exact ⟨ih t (hm t (by simp)) _ h.1, ih2 (fun t ht => hm t (by simp [ht])) (j + 1) h.2⟩
    exact key l (fun _ h => h) 0 h.2
theorem renT_nal {N M : Int → List UInt8 → Int → Nat → Prop} (f : Int → Int) (hNM : ∀ k n i z, N k n i z → M k n (if k = 6 then f i else i) z) (t : Tm) : nal N t → nal M (renT f t) := by
  induction t using ind with
  | h k n i l ih =>
    intro h
    rw [nal_mk, nalA_iff] at h
    rw [renT_mk, nal_mk, nalA_iff, List.length_map]
    refine ⟨hNM _ _ _ _ h.1, fun u hu => ?_⟩
    obtain ⟨v, hv, rfl⟩ := List.mem_map.1 hu
    exact ih v hv (h.2 v hv)
theorem renT_id (f : Int → Int) (t : Tm) : nal (fun k _ i _ => k = 6 → f i = i) t → renT f t = t := by
  induction t using ind with
  | h k n i l ih =>
    intro h
    rw [nal_mk, nalA_iff] at h
    rw [renT_mk]
    have h1 : (if k = 6 then f i else i) = i := by split; (rename_i e; exact h.1 e); rfl
    rw [h1]
    congr 1
    have key : ∀ (l' : List Tm), (∀ t ∈ l', t ∈ l) → l'.map (renT f) = l' := by
      intro l'
      induction l' with
      | nil => intro _; rfl
      | cons t ts ih2 => intro hm; rw [List.map_cons, ih t (hm t (by simp)) (h.2 t (hm t (by simp))), ih2 (fun t ht => hm t (by simp [ht]))]
    exact key l (fun _ h => h)
/-- What a renaming without collisions makes of the list of metavariables. -/
theorem addMetas_ren {f : Int → Int} {S : Int → Prop} (hf : ∀ a b, S a → S b → f a = f b → a = b) (t : Tm) : nal (fun k _ i _ => k = 6 → S i) t → ∀ acc, (∀ a ∈ acc, S a) → addMetas (acc.map f) (renT f t) = (addMetas acc t).map f ∧ ∀ a ∈ addMetas acc t, S a := by
  induction t using ind with
  | h k n i l ih =>
    intro h acc hacc
    rw [nal_mk, nalA_iff] at h
    have key : ∀ (l' : List Tm), (∀ t ∈ l', t ∈ l) → ∀ acc, (∀ a ∈ acc, S a) → addMetasL (acc.map f) (l'.map (renT f)) = (addMetasL acc l').map f ∧ ∀ a ∈ addMetasL acc l', S a := by
      intro l'
      induction l' with
      | nil => intro _ acc hacc; rw [List.map_nil, addMetasL, addMetasL]; exact ⟨rfl, hacc⟩
      | cons t ts ih2 =>
        intro hm acc hacc
        obtain ⟨h1, h2⟩ := ih t (hm t (by simp)) (h.2 t (hm t (by simp))) acc hacc
        rw [List.map_cons, addMetasL, addMetasL, h1]
        exact ih2 (fun t ht => hm t (by simp [ht])) _ h2
    rw [renT_mk, addMetas, addMetas]
    by_cases hk : k = 6
    · subst hk
      have hS := h.1 rfl
      have hc : (acc.map f).contains (f i) = acc.contains i := by
        rw [Bool.eq_iff_iff]
        simp only [List.contains_eq_mem, decide_eq_true_eq, List.mem_map]
        exact ⟨fun ⟨a, ha, e⟩ => (hf a i (hacc a ha) hS e) ▸ ha, fun h => ⟨i, h, rfl⟩⟩
      rw [if_pos rfl, hc]
      by_cases hb : (((6 : Int) == 6) && !acc.contains i) = true
      · rw [if_pos hb, if_pos hb]
        have := key l (fun _ h => h) (acc ++ [i]) (fun a ha => by rcases List.mem_append.1 ha with ha | ha; (exact hacc a ha); rw [List.mem_singleton.1 ha]; exact hS)
        rw [List.map_append] at this
        exact this
      · rw [if_neg hb, if_neg hb]
        exact key l (fun _ h => h) acc hacc
    · have hb : ∀ (b : Bool), ¬ ((k == 6) && b) = true := fun b => by simp [hk]
      rw [if_neg (hb _), if_neg (hb _)]
      exact key l (fun _ h => h) acc hacc
theorem metas_ren {f : Int → Int} {t : Tm} (h : t.wf = 0) (hr : ∀ i ∈ Tm.metas t, 0 ≤ f i ∧ f i < 2048) (hf : ∀ a b, a ∈ Tm.metas t → b ∈ Tm.metas t → f a = f b → a = b) : Tm.metas (renT f t) = (Tm.metas t).map f ∧ (renT f t).wf = 0 := by
  have hw := renT_wf f t ((nal_metas t h).2 hr) h
  refine ⟨?_, hw⟩
  have := (addMetas_ren hf t ((nal_metas t h).2 (fun _ h => h)) [] (fun _ h => by cases h)).1
  unfold Tm.metas
  rw [if_pos (by simp [hw]), if_pos (by simp [h])]
  exact this
/-! Expansions of closed terms are closed. -/
theorem ltA_zero {n : Int} {k : Int} (hk : k ≠ 3 ∧ k ≠ 2) : ∀ (l : List Tm) (j : Nat), ltA n k j l → ∀ u ∈ l, lt n u
  | [], _, _, _, hu => by cases hu
  | t :: ts, j, h, u, hu => by
    rw [ltA_cons] at h
    rcases List.mem_cons.1 hu with rfl | hu
    · have := h.1; rw [show under k j = 0 by unfold under; simp [hk]] at this; simpa using this
    · exact ltA_zero hk ts (j + 1) h.2 u hu
theorem exT_lt (g : Int → Int → List Tm → Nat → Option Res) (hg : ∀ k i us c r, g k i us c = some r → k = 6 ∧ ∀ N : Int, 0 ≤ N → (∀ u ∈ us, lt N u) → lt N r.t) (t : Tm) : ∀ (N : Int), 0 ≤ N → lt N t → ∀ c, lt N (exT g t c).t := by
  induction t using ind with
  | h k nm i l ih =>
    intro N hN h c
    rw [lt_mk] at h
    have key : ∀ (l' : List Tm), (∀ t ∈ l', t ∈ l) → ∀ j, ltA N k j l' → ∀ c, ltA N k j (exL g l' c).ts := by
      intro l'
      induction l' with
      | nil => intro _ j _ c; rw [exL_nil]; exact ltA_nil _ _ _
      | cons t ts ih2 =>
        intro hm j h c
        rw [ltA_cons] at h
        have hu := under_le k j
        rw [exL_cons]
        split
        · split
          · show ltA _ _ _ (_ :: _)
            rw [ltA_cons]
            exact ⟨ih t (hm t (by simp)) _ (by omega) h.1 c, ih2 (fun t ht => hm t (by simp [ht])) (j + 1) h.2 _⟩
          · exact ltA_nil _ _ _
        · exact ltA_nil _ _ _
    have hA := key l (fun _ h => h) 0 h.2 c
    rw [exT_mk]
    split
    · cases hq : g k i (exL g l c).ts (exL g l c).w with
      | none => exact chk_lt ((lt_mk _ _ _ _ _).2 ⟨h.1, hA⟩)
      | some r =>
        obtain ⟨rfl, h2⟩ := hg _ _ _ _ _ hq
        exact h2 N hN (ltA_zero ⟨by decide, by decide⟩ _ 0 hA)
    · exact lt_none0
theorem exF_lt (l : List Mv) (hv : ∀ m ∈ l, ∀ v ∈ m.value, lt 0 v) (n : Nat) : ∀ t (N : Int), 0 ≤ N → lt N t → ∀ c, lt N (exF l n t c).t := by
  induction n with
  | zero => intro t N _ _ c; exact lt_none0
  | succ n ih =>
    intro t
    rw [exF_succ]
    refine exT_lt _ (fun k i us c r hr => ?_) t
    unfold exG at hr
    obtain ⟨m, hm, rfl⟩ := Option.map_eq_some_iff.1 hr
    obtain ⟨h6, _, _, _, hml, hmv⟩ := slv_some hm
    refine ⟨h6, fun N hN hus => ?_⟩
    split
    · exact lt_none0
    split
    · exact lt_none0
    rename_i h2
    refine ih _ N hN ?_ _
    unfold appT
    rw [if_pos (Decidable.not_not.1 h2)]
    refine ap_lt 262145 N hN _ _ _ _ ?_ hus
    match hv' : m.value, hmv with
    | v :: r, _ => exact lt_le _ hN (hv m hml v (by rw [hv']; simp))
theorem Plz.closed {l : List Mv} (h : Plz l) {t : Tm} (he : expE l t = 0) (ht : t.scope ≤ 0) : (expT l t).scope ≤ 0 := by
  unfold expT
  rw [if_pos he]
  refine (lt_scope _ (by omega)).1 (exF_lt l (fun m hm v hv => ?_) 16385 t 0 (by omega) ((lt_scope _ (by omega)).2 ht) 0)
  obtain ⟨_, h1, h2, h3, _⟩ := valueE_parts ((h.val m hm).2 v hv)
  exact (lt_scope _ (by omega)).2 h3
end Go.LF
namespace Go.LF
open Tm Go.Proofs.YtdomloghcpfdjaaGreatDoor
inductive Col (l : List Mv) : List Int → List Int → List Int → Prop
  | nil (o) : Col l [] o o
  | skip {m ms o o'} (h : m ∈ o) (t : Col l ms o o') : Col l (m :: ms) o o'
  | add {m ms o o1 o'} (h : m ∉ o) (he : expE l (typeOf l m) = 0) (hi : Col l (Tm.metas (expT l (typeOf l m))) o o1) (t : Col l ms (o1 ++ [m]) o') : Col l (m :: ms) o o'
theorem bel_zero {l : List Mv} {ms : List Int} (h : Bel l 0 ms) : ms = [] := by
  cases ms with
  | nil => rfl
  | cons m ms => have := (h m (by simp)).2.2; omega
theorem col_of {l : List Mv} (hP : Plz l) : ∀ R ms o, Bel l R ms → (cF l R ms ⟨o, 0⟩).e = 0 → Col l ms o (cF l R ms ⟨o, 0⟩).o := by
  intro R
  induction R with
  | zero =>
    intro ms o hb _
    rw [bel_zero hb]
    exact .nil o
  | succ R ih =>
    intro ms
    show ∀ o, Bel l (R + 1) ms → (colF l R ms ⟨o, 0⟩).e = 0 → Col l ms o (colF l R ms ⟨o, 0⟩).o
    rw [colF_cF]
    induction ms with
    | nil => intro o _ _; rw [colS]; exact .nil o
    | cons m ms ih2 =>
      intro o hb h
      have hb2 : Bel l (R + 1) ms := fun x hx => hb x (by simp [hx])
      obtain ⟨m0, ml, mr⟩ := hb m (by simp)
      rw [colS, if_neg (by simp)] at h ⊢
      by_cases h1 : o.contains m = true
      · rw [if_pos h1] at h ⊢
        exact .skip (by simpa using h1) (ih2 o hb2 h)
      rw [if_neg h1] at h ⊢
      by_cases h2 : expE l (typeOf l m) ≠ 0
      · rw [if_pos h2] at h; exact absurd h h2
      rw [if_neg h2] at h ⊢
      have hE : expE l (typeOf l m) = 0 := by omega
      have hbi := bel_exp hP m0 ml hE mr
      by_cases h3 : (cF l R (Tm.metas (expT l (typeOf l m))) ⟨o, 0⟩).e = 0
      · rw [if_pos h3] at h ⊢
        exact .add (by simpa using h1) hE (ih _ o hbi h3) (ih2 _ hb2 h)
      · rw [if_neg h3] at h; exact absurd h h3
theorem col_to {l : List Mv} (hP : Plz l) {ms o o' : List Int} (h : Col l ms o o') : ∀ R, Bel l R ms → cF l R ms ⟨o, 0⟩ = ⟨o', 0⟩ := by
  induction h with
  | nil o =>
    intro R _
    cases R with
    | zero => rfl
    | succ R => show colF l R [] _ = _; rw [colF_cF]; rfl
  | @skip m ms o o' hm _ ih =>
    intro R hb
    cases R with
    | zero => have := bel_zero hb; cases this
    | succ R =>
      have := ih (R + 1) (fun x hx => hb x (by simp [hx]))
      show colF l R _ _ = _
      have this : colF l R ms ⟨o, 0⟩ = _ := this
      rw [colF_cF] at this ⊢
      rw [colS, if_neg (by simp), if_pos (by simpa using hm), this]
  | @add m ms o o1 o' hm he _ _ ih1 ih2 =>
    intro R hb
    cases R with
    | zero => have := bel_zero hb; cases this
    | succ R =>
      obtain ⟨m0, ml, mr⟩ := hb m (by simp)
      have h1 := ih1 R (bel_exp hP m0 ml he mr)
      have h2 := ih2 (R + 1) (fun x hx => hb x (by simp [hx]))
      show colF l R _ _ = _
      have h2 : colF l R ms ⟨o1 ++ [m], 0⟩ = _ := h2
      rw [colF_cF] at h2 ⊢
      rw [colS, if_neg (by simp), if_neg (by simpa using hm), if_neg (by simp [he]), h1, if_pos rfl, h2]
theorem col_mono {l : List Mv} {ms o o' : List Int} (h : Col l ms o o') : (∀ x ∈ o, x ∈ o') ∧ ∀ m ∈ ms, m ∈ o' := by
  induction h with
  | nil o => exact ⟨fun _ h => h, fun _ h => by cases h⟩
  | skip hm _ ih => exact ⟨ih.1, fun x hx => by rcases List.mem_cons.1 hx with rfl | hx; (exact ih.1 _ hm); exact ih.2 x hx⟩
  | add _ _ _ _ ih1 ih2 => exact ⟨fun x hx => ih2.1 x (List.mem_append.2 (.inl (ih1.1 x hx))), fun x hx => by rcases List.mem_cons.1 hx with rfl | hx; (exact ih2.1 _ (by simp)); exact ih2.2 x hx⟩
/-- What is found is of lower rank than what it is found for. -/
theorem col_rank {l : List Mv} (hP : Plz l) {ms o o' : List Int} (h : Col l ms o o') : ∀ R, Bel l R ms → ∀ x ∈ o', x ∈ o ∨ (0 ≤ x ∧ x < l.length ∧ rk l x < R) := by
  induction h with
  | nil o => intro R _ x hx; exact .inl hx
  | skip hm _ ih => intro R hb x hx; exact ih R (fun y hy => hb y (by simp [hy])) x hx
  | @add m ms o o1 o' hm he _ _ ih1 ih2 =>
    intro R hb x hx
    obtain ⟨m0, ml, mr⟩ := hb m (by simp)
    rcases ih2 R (fun y hy => hb y (by simp [hy])) x hx with h | h
    · rcases List.mem_append.1 h with h | h
      · rcases ih1 (rk l m) (bel_exp hP m0 ml he (by omega)) x h with h | h
        · exact .inl h
        · exact .inr ⟨h.1, h.2.1, by omega⟩
      · rw [List.mem_singleton.1 h]; exact .inr ⟨m0, ml, mr⟩
    · exact .inr h
/-- An order: no repetitions, what a type mentions is ahead. -/
structure OrdOk (l : List Mv) (o : List Int) : Prop where
  cnt : unseen l o + o.length ≤ l.length
  inn : ∀ x ∈ o, 0 ≤ x ∧ x < l.length
  typ : ∀ p (h : p < o.length), expE l (typeOf l o[p]) = 0 ∧ ∀ j ∈ Tm.metas (expT l (typeOf l o[p])), j ∈ o.take p
theorem OrdOk.nil (l : List Mv) : OrdOk l [] := ⟨unseen_nil l, fun _ h => (by cases h), fun p h => (by simp at h)⟩
theorem col_ok {l : List Mv} (hP : Plz l) {ms o o' : List Int} (h : Col l ms o o') : ∀ R, Bel l R ms → OrdOk l o → OrdOk l o' := by
  induction h with
  | nil o => intro R _ h; exact h
  | skip hm _ ih => intro R hb h; exact ih R (fun y hy => hb y (by simp [hy])) h
  | @add m ms o o1 o' hm he hi _ ih1 ih2 =>
    intro R hb h
    obtain ⟨m0, ml, mr⟩ := hb m (by simp)
    have hbi := bel_exp hP (R := rk l m) m0 ml he (by omega)
    have h1 := ih1 _ hbi h
    have hn : m ∉ o1 := fun hx => by
      rcases col_rank hP hi _ hbi m hx with h | h
      · exact hm h
      · omega
    refine ih2 R (fun y hy => hb y (by simp [hy])) ⟨unseen_cnt h1.cnt m0 ml hn, fun x hx => ?_, fun p hp => ?_⟩
    · rcases List.mem_append.1 hx with hx | hx
      · exact h1.inn x hx
      · rw [List.mem_singleton.1 hx]; exact ⟨m0, ml⟩
    · rw [List.length_append, List.length_singleton] at hp
      by_cases e : p < o1.length
      · rw [List.getElem_append_left e, List.take_append_of_le_length (by omega)]
        exact h1.typ p e
      · obtain rfl : p = o1.length := by omega
        rw [List.getElem_append_right (by omega)]
        simp only [Nat.sub_self, List.getElem_cons_zero]
        rw [List.take_append_of_le_length (by omega), List.take_length]
        exact ⟨he, fun j hj => (col_mono hi).2 j hj⟩
/-- The same search with other numbers. -/
theorem col_ren {l k : List Mv} {f : Int → Int} {F : List Int} (hf : ∀ a b, a ∈ F → b ∈ F → f a = f b → a = b) (hty : ∀ m ∈ F, expE k (typeOf k (f m)) = 0 ∧ Tm.metas (expT k (typeOf k (f m))) = (Tm.metas (expT l (typeOf l m))).map f)
    {ms o o' : List Int} (h : Col l ms o o') : (∀ x ∈ o', x ∈ F) → Col k (ms.map f) (o.map f) (o'.map f) := by
  induction h with
  | nil o => intro _; exact .nil _
  | skip hm _ ih => intro hF; exact .skip (List.mem_map.2 ⟨_, hm, rfl⟩) (ih hF)
  | @add m ms o o1 o' hm he hi ht ih1 ih2 =>
    intro hF
    have e2 := col_mono ht
    have e1 := col_mono hi
    have hmF := hF m (e2.1 m (by simp))
    have hty := hty m hmF
    have h1 := ih1 (fun x hx => hF x (e2.1 x (by simp [hx])))
    have h2 := ih2 hF
    rw [List.map_append] at h2
    refine .add (o1 := o1.map f) (fun hx => ?_) hty.1 (by rw [hty.2]; exact h1) h2
    obtain ⟨a, ha, e⟩ := List.mem_map.1 hx
    exact hm (hf a m (hF a (e2.1 a (by simp [e1.1 a ha]))) hmF e ▸ ha)
/-- Numbers by their places. -/
theorem ixIn_lt {o : List Int} {x : Int} (h : x ∈ o) : 0 ≤ ixIn o x ∧ ixIn o x < o.length := by
  unfold ixIn
  rw [if_pos h]
  have := List.idxOf_lt_length_iff.2 h
  exact ⟨by omega, by omega⟩
theorem ixIn_at {o : List Int} (hn : o.Nodup) {p : Nat} (h : p < o.length) : ixIn o o[p] = (p : Int) := by
  unfold ixIn
  rw [if_pos (List.getElem_mem h)]
  have hk : o.idxOf o[p] < o.length := List.idxOf_lt_length_iff.2 (List.getElem_mem h)
  have := (List.getElem_inj hn).1 (List.getElem_idxOf hk)
  rw [this]
theorem ixIn_inj {o : List Int} {a b : Int} (ha : a ∈ o) (hb : b ∈ o) (h : ixIn o a = ixIn o b) : a = b := by
  unfold ixIn at h
  rw [if_pos ha, if_pos hb] at h
  have h1 : o.idxOf a < o.length := List.idxOf_lt_length_iff.2 ha
  have h2 : o.idxOf b < o.length := List.idxOf_lt_length_iff.2 hb
  have e1 : o[o.idxOf a] = a := List.getElem_idxOf h1
  have e2 : o[o.idxOf b] = b := List.getElem_idxOf h2
  rw [← e1, ← e2]
  congr 1
  omega
theorem ixIn_take {o : List Int} {p : Nat} {x : Int} (h : x ∈ o.take p) : ixIn o x < p := by
  have hx := List.mem_of_mem_take h
  unfold ixIn
  rw [if_pos hx]
  obtain ⟨q, hq, rfl⟩ := List.getElem_of_mem h
  have hq' := hq
  rw [List.length_take] at hq'
  have : o.idxOf ((o.take p)[q]) ≤ q := by
    rw [List.getElem_take]
    by_cases hc : o.idxOf o[q] ≤ q
    · exact hc
    · exfalso
      have := List.not_of_lt_findIdx (p := fun y => y == o[q]) (xs := o) (i := q) (by
        show q < o.findIdx _
        have h2 : o.idxOf o[q] = o.findIdx (fun y => y == o[q]) := rfl
        omega)
      simp at this
  omega
def upTo (n : Nat) : List Int := (List.range n).map (fun i : Nat => (i : Int))
theorem upTo_len (n : Nat) : (upTo n).length = n := by unfold upTo; simp
theorem upTo_at {n p : Nat} (h : p < (upTo n).length) : (upTo n)[p] = (p : Int) := by
  have h2 : (upTo n)[p]? = some (p : Int) := by
    unfold upTo
    rw [List.getElem?_map, List.getElem?_range (by rw [upTo_len] at h; exact h)]; rfl
  rw [List.getElem?_eq_getElem h] at h2
  exact Option.some.inj h2
theorem upTo_nodup (n : Nat) : (upTo n).Nodup := by
  unfold upTo
  refine List.Pairwise.map _ (fun a b h e => h (by omega)) List.nodup_range
theorem map_ixIn {o : List Int} (hn : o.Nodup) : o.map (ixIn o) = upTo o.length := by
  refine List.ext_getElem (by rw [List.length_map, upTo_len]) (fun p h1 h2 => ?_)
  rw [List.getElem_map, upTo_at, ixIn_at hn]
theorem ixIn_upTo {n : Nat} {x : Int} (h0 : 0 ≤ x) (h : x < n) : ixIn (upTo n) x = x := by
  have h1 : x.toNat < (upTo n).length := by rw [upTo_len]; omega
  have h2 := ixIn_at (upTo_nodup n) h1
  rw [upTo_at, show ((x.toNat : Nat) : Int) = x by omega] at h2
  exact h2
theorem checkE_of {n : Int} {name : List UInt8} {a : Tm} (h0 : name = [] ∨ isName name = true) (h1 : a.wf = 0) (h2 : a.isTyp = true) (h3 : a.small = true) (h4 : a.scope ≤ 0) (h5 : ∀ i ∈ Tm.metas a, i < n) (h6 : n < 2048) : checkE n name a = 0 := by
  unfold checkE
  rw [if_neg, if_neg (by simp [h1]), if_neg (by simp [h2, h3]), if_neg, if_neg (by omega)]
  · unfold outV
    rw [h1]
    simp only [Bool.or_eq_true, not_or, decide_eq_true_eq, List.any_eq_true, not_exists, not_and]
    exact ⟨by rw [if_pos (by rfl)]; omega, fun i hi => by have := h5 i hi; omega⟩
  · rintro ⟨h7, h8⟩
    rcases h0 with h | h
    · exact h7 h
    · rw [h] at h8; cases h8
/-- A store without values. -/
theorem exp_plain {k : List Mv} (hk : ∀ m ∈ k, m.value = []) {t : Tm} (hw : t.wf = 0) (hm : ∀ i ∈ Tm.metas t, i < k.length) : expE k t = 0 ∧ expT k t = t := by
  have hs : t.small = true := by have := (wf_any3 hw).2; unfold small; simp [this.1, this.2]
  have hu : Us k t := by
    refine nal_imp (M := fun k' _ i _ => slv k k' i = none) (N := fun _ _ _ _ => True) (fun k' _ i _ _ => ?_) t ?_
    · cases h : slv k k' i with
      | none => rfl
      | some m => obtain ⟨_, _, _, _, h1, h2⟩ := slv_some h; exact absurd (hk m h1) h2
    · clear hw hm hs
      induction t using ind with
      | h k n i l ih => exact (nal_mk _ _ _ _).2 ⟨trivial, (nalA_iff l).2 ih⟩
  have h1 := exF_same k 16384 t hu hs 0
  have h2 : expE k t = 0 := by
    unfold expE
    rw [if_neg (by simp [hw]), if_neg, h1]
    simp only [List.any_eq_true, decide_eq_true_eq, not_exists, not_and]
    exact fun i hi => by have := hm i hi; omega
  exact ⟨h2, by unfold expT; rw [if_pos h2, h1]⟩
section
variable {l : List Mv} (hP : Plz l)
include hP in
theorem expT_kn {t : Tm} (h : nal (fun _ _ _ z => z ≤ 200) t) : nal (fun _ _ _ z => z ≤ 200) (expT l t) := by
  unfold expT
  split
  · exact exF_nal (fun _ _ _ _ h => h) (Nat.zero_le _) l (fun m hm v hv => (hP.kn m hm).2 v hv) 16385 t 0 h
  · exact nal_none0 (Nat.zero_le _)
include hP in
theorem uns_col {ts : List Tm} (h : unsE l ts = 0) : allE l ts = 0 ∧ Col l ((ts.map (expT l)).flatMap Tm.metas) [] (unsO l ts) ∧ OrdOk l (unsO l ts) ∧ Bel l (l.length + 1) ((ts.map (expT l)).flatMap Tm.metas) := by
  have h0 := h
  unfold unsE at h
  by_cases h1 : allE l ts ≠ 0
  · rw [if_pos h1] at h; exact absurd h h1
  rw [if_neg h1] at h
  have hA : allE l ts = 0 := by omega
  have hR : allR l ts = ts.map (expT l) := by unfold allR; rw [if_pos hA]
  have hb : Bel l (l.length + 1) ((ts.map (expT l)).flatMap Tm.metas) := bel_top l (fun x hx => by
    obtain ⟨u, hu, hx⟩ := List.mem_flatMap.1 hx
    obtain ⟨t, ht, rfl⟩ := List.mem_map.1 hu
    exact ⟨(metas_ge x hx).1, (expT_parts hP (allE_each l ts hA t ht)).2.2 x hx⟩)
  have hO : unsO l ts = (cF l (l.length + 1) ((ts.map (expT l)).flatMap Tm.metas) ⟨[], 0⟩).o := by
    unfold unsO unsS
    rw [if_pos h0, colL_flat, hR]
    rfl
  have hE : (cF l (l.length + 1) ((ts.map (expT l)).flatMap Tm.metas) ⟨[], 0⟩).e = 0 := by
    unfold unsS at h
    rw [colL_flat, hR] at h
    exact h
  have hC := col_of hP _ _ [] hb hE
  rw [← hO] at hC
  exact ⟨hA, hC, col_ok hP hC _ hb (OrdOk.nil l), hb⟩
theorem OrdOk.nodup {o : List Int} (h : OrdOk l o) : o.Nodup := unseen_nodup l o h.cnt
theorem OrdOk.len {o : List Int} (h : OrdOk l o) : o.length ≤ l.length := by have := h.cnt; omega
/-- The canonical store, place by place. -/
def canO (l : List Mv) (o : List Int) : List Mv := o.map (canM l o)
theorem canO_len (o : List Int) : (canO l o).length = o.length := by unfold canO; simp
theorem canO_at {o : List Int} {p : Nat} (h : p < (canO l o).length) (h' : p < o.length) : (canO l o)[p] = canM l o o[p] := by
  have h2 : (canO l o)[p]? = some (canM l o o[p]) := by
    unfold canO
    rw [List.getElem?_map, List.getElem?_eq_getElem h']; rfl
  rw [List.getElem?_eq_getElem h] at h2
  exact Option.some.inj h2
theorem canO_value {o : List Int} : ∀ m ∈ canO l o, m.value = [] := by
  intro m hm
  unfold canO at hm
  obtain ⟨j, _, rfl⟩ := List.mem_map.1 hm
  rfl
include hP in
/-- A term of which all metavariables are in the order. -/
theorem canO_term {o : List Int} (ho : OrdOk l o) {t : Tm} (hw : t.wf = 0) (hm : ∀ i ∈ Tm.metas t, i ∈ o) : Tm.metas (renT (ixIn o) t) = (Tm.metas t).map (ixIn o) ∧ (renT (ixIn o) t).wf = 0 ∧ (∀ i ∈ Tm.metas (renT (ixIn o) t), 0 ≤ i ∧ i < (canO l o).length) := by
  have hl := ho.len
  have hl2 := hP.len
  obtain ⟨h1, h2⟩ := metas_ren (f := ixIn o) hw (fun i hi => by have := ixIn_lt (hm i hi); exact ⟨by omega, by omega⟩) (fun a b ha hb e => ixIn_inj (hm a ha) (hm b hb) e)
  refine ⟨h1, h2, fun i hi => ?_⟩
  rw [h1] at hi
  obtain ⟨j, hj, rfl⟩ := List.mem_map.1 hi
  rw [canO_len]
  exact ixIn_lt (hm j hj)
include hP in
theorem canO_plz {o : List Int} (ho : OrdOk l o) : Plz (canO l o) := by
  have hl := ho.len
  have hl2 := hP.len
  have key : ∀ (p : Nat) (h : p < o.length), ∃ q : Nat, q < l.length ∧ o[p] = (q : Int) := fun p h => by
    have := ho.inn _ (List.getElem_mem h)
    exact ⟨o[p].toNat, by omega, by omega⟩
  have hdown : ∀ i : Int, ∀ j ∈ succV (canO l o) i, 0 ≤ i ∧ i < (canO l o).length ∧ j < i := by
    intro i j hj
    by_cases h0 : 0 ≤ i
    · by_cases h1 : i < (canO l o).length
      · refine ⟨h0, h1, ?_⟩
        obtain ⟨p, rfl⟩ : ∃ p : Nat, i = (p : Int) := ⟨i.toNat, by omega⟩
        rw [canO_len] at h1
        have hp : p < o.length := by omega
        rw [succV_at (by rw [canO_len]; exact hp), canO_at (by rw [canO_len]; exact hp) hp] at hj
        unfold nextV at hj
        have hj : j ∈ Tm.metas (renT (ixIn o) (expT l (typeOf l o[p]))) := by
          unfold canM at hj
          simpa using hj
        obtain ⟨he, ht⟩ := ho.typ p hp
        obtain ⟨q, hq, e⟩ := key p hp
        have hw := expT_wf hP (i := o[p]) (by omega) (by omega) he
        rw [(canO_term hP ho hw (fun i hi => List.mem_of_mem_take (ht i hi))).1] at hj
        obtain ⟨x, hx, rfl⟩ := List.mem_map.1 hj
        exact ixIn_take (ht x hx)
      · rw [succV_big h1] at hj; cases hj
    · rw [succV_neg h0] at hj; cases hj
  refine ⟨by rw [canO_len]; omega, fun p hp => ?_, fun m hm => ?_, fun m hm => ?_, fun i hi j hj hr => ?_⟩
  · have hp' : p < o.length := by rw [canO_len] at hp; exact hp
    rw [canO_at hp hp']
    obtain ⟨q, hq, e⟩ := key p hp'
    obtain ⟨he, ht⟩ := ho.typ p hp'
    have hw := expT_wf hP (i := o[p]) (by omega) (by omega) he
    obtain ⟨c0, c1, c2, c3, c4, _, _⟩ := checkE_parts (hP.ok q hq)
    have hto := typeOf_at hq
    obtain ⟨r1, r2, r3⟩ := canO_term hP ho hw (fun i hi => List.mem_of_mem_take (ht i hi))
    unfold canM
    rw [e] at he ht hw r1 r2 r3 ⊢
    rw [hto] at he ht hw r1 r2 r3 ⊢
    rw [nameOf_at hq]
    have hex := (expE_wf he).2.2
    have hty : (expT l l[q].type).isTyp = true := by
      unfold expT
      rw [if_pos he]
      exact (exF_kp l 16385 _ 0 hex).2.1 c2
    have hrok : Rok (ixIn o) (expT l l[q].type) := (nal_metas _ hw).2 (fun i hi => by
      have := ixIn_lt (List.mem_of_mem_take (ht i hi))
      exact ⟨by omega, by omega⟩)
    refine checkE_of c0 r2 (renT_typ _ _ hrok hty) ?_ ?_ ?_ (by omega)
    · rw [renT_small]
      have := (wf_any3 hw).2
      unfold small; simp [this.1, this.2]
    · exact (lt_scope _ (by omega)).1 (renT_lt _ _ _ ((lt_scope _ (by omega)).2 (hP.closed he c4)))
    · intro i hi
      rw [r1] at hi
      obtain ⟨x, hx, rfl⟩ := List.mem_map.1 hi
      exact ixIn_take (ht x hx)
  · have := canO_value m hm
    rw [this]
    exact ⟨by simp, fun v hv => by cases hv⟩
  · have hv := canO_value m hm
    rw [hv]
    refine ⟨?_, fun v hv => by cases hv⟩
    obtain ⟨p, hp, rfl⟩ := List.getElem_of_mem hm
    have hp' : p < o.length := by rw [canO_len] at hp; exact hp
    rw [canO_at hp hp']
    obtain ⟨q, hq, e⟩ := key p hp'
    unfold canM
    rw [e, typeOf_at hq]
    exact renT_nal _ (fun _ _ _ _ h => h) _ (expT_kn hP (hP.kn _ (List.getElem_mem hq)).1)
  · have : ∀ {a b : Int}, Rch (canO l o) a b → b ≤ a := by
      intro a b h
      induction h with
      | refl _ => omega
      | step _ hj _ ih => have := (hdown _ _ hj).2.2; omega
    have h1 := this hr
    have h2 := (hdown _ _ hj).2.2
    omega
include hP in
/-- Canon of what Canon returns. -/
theorem canon_again {ts : List Tm} (hts : ∀ t ∈ ts, nal (fun _ _ _ z => z ≤ 200) t) (h : unsE l ts = 0) :
    Plz (canK l ts) ∧ unsE (canK l ts) (canT l ts) = 0 ∧ canK (canK l ts) (canT l ts) = canK l ts ∧ canT (canK l ts) (canT l ts) = canT l ts ∧ (canT l ts).length = ts.length ∧ ∀ x ∈ canT l ts, x.wf = 0 ∧ nal (fun _ _ _ z => z ≤ 200) x := by
  obtain ⟨hA, hC, ho, hb⟩ := uns_col hP h
  have hK : canK l ts = canO l (unsO l ts) := rfl
  have hT : canT l ts = (ts.map (expT l)).map (renT (ixIn (unsO l ts))) := by
    unfold canT
    rw [if_pos h]
    unfold allR
    rw [if_pos hA]
  rw [hK]
  obtain ⟨o, hoo⟩ : ∃ o, o = unsO l ts := ⟨_, rfl⟩
  rw [← hoo] at hC ho hT ⊢
  obtain ⟨xs, hxs⟩ : ∃ xs, xs = canT l ts := ⟨_, rfl⟩
  rw [← hxs] at hT ⊢
  have hl := ho.len
  have hl2 := hP.len
  have hZ := canO_plz hP ho
  obtain ⟨k, hk⟩ : ∃ k, k = canO l o := ⟨_, rfl⟩
  have hkv : ∀ m ∈ k, m.value = [] := by rw [hk]; exact canO_value
  have hkl : k.length = o.length := by rw [hk]; exact canO_len o
  have hterm := fun {t : Tm} => canO_term hP ho (t := t)
  rw [← hk] at hZ ⊢ hterm
  have hin : ∀ t ∈ ts, ∀ i ∈ Tm.metas (expT l t), i ∈ o := fun t ht i hi => (col_mono hC).2 i (List.mem_flatMap.2 ⟨expT l t, List.mem_map.2 ⟨t, ht, rfl⟩, hi⟩)
  have hxt : ∀ x ∈ xs, ∃ t ∈ ts, x = renT (ixIn o) (expT l t) ∧ x.wf = 0 ∧ expE k x = 0 ∧ expT k x = x ∧ Tm.metas x = (Tm.metas (expT l t)).map (ixIn o) ∧ ∀ i ∈ Tm.metas x, 0 ≤ i ∧ i < k.length := by
    intro x hx
    rw [hT, List.map_map] at hx
    obtain ⟨t, ht, rfl⟩ := List.mem_map.1 hx
    have hw := (expT_parts hP (allE_each l ts hA t ht)).1
    obtain ⟨r1, r2, r3⟩ := hterm hw (hin t ht)
    obtain ⟨r4, r5⟩ := exp_plain hkv r2 (fun i hi => (r3 i hi).2)
    exact ⟨t, ht, rfl, r2, r4, r5, r1, r3⟩
  have hall : ∀ (ys : List Tm), (∀ y ∈ ys, expE k y = 0 ∧ expT k y = y) → allE k ys = 0 ∧ allR k ys = ys := by
    intro ys hy
    have h1 : allE k ys = 0 := by
      induction ys with
      | nil => rfl
      | cons y ys ih => rw [allE, if_neg (by simp [(hy y (by simp)).1]), ih (fun z hz => hy z (by simp [hz]))]
    refine ⟨h1, ?_⟩
    unfold allR
    rw [if_pos h1]
    clear h1
    induction ys with
    | nil => rfl
    | cons y ys ih => rw [List.map_cons, (hy y (by simp)).2, ih (fun z hz => hy z (by simp [hz]))]
  obtain ⟨hA2, hR2⟩ := hall xs (fun x hx => by obtain ⟨t, _, _, _, h1, h2, _⟩ := hxt x hx; exact ⟨h1, h2⟩)
  have hty : ∀ m ∈ o, expE k (typeOf k (ixIn o m)) = 0 ∧ expT k (typeOf k (ixIn o m)) = renT (ixIn o) (expT l (typeOf l m)) ∧ Tm.metas (expT k (typeOf k (ixIn o m))) = (Tm.metas (expT l (typeOf l m))).map (ixIn o) := by
    intro m hm
    obtain ⟨p, hp, rfl⟩ := List.getElem_of_mem hm
    obtain ⟨he, ht⟩ := ho.typ p hp
    have hi := ho.inn _ hm
    have hw := expT_wf hP (i := o[p]) hi.1 hi.2 he
    obtain ⟨r1, r2, r3⟩ := hterm hw (fun i hi => List.mem_of_mem_take (ht i hi))
    have hpk : p < k.length := by omega
    have e : typeOf k (ixIn o o[p]) = renT (ixIn o) (expT l (typeOf l o[p])) := by
      rw [ixIn_at ho.nodup, typeOf_at hpk]
      have : k[p] = canM l o o[p] := by
        have hpk' := hpk
        subst hk
        exact canO_at hpk' hp
      rw [this]
      rfl
    rw [e]
    obtain ⟨r4, r5⟩ := exp_plain hkv r2 (fun i hi => (r3 i hi).2)
    rw [r5]
    exact ⟨r4, rfl, r1⟩
  have hC2 := col_ren (k := k) (f := ixIn o) (F := o) (fun a b ha hb e => ixIn_inj ha hb e) (fun m hm => ⟨(hty m hm).1, (hty m hm).2.2⟩) hC (fun x hx => hx)
  rw [List.map_nil, map_ixIn ho.nodup] at hC2
  have hms : ((ts.map (expT l)).flatMap Tm.metas).map (ixIn o) = (xs.flatMap Tm.metas) := by
    rw [hT]
    have key : ∀ us : List Tm, (∀ u ∈ us, u.wf = 0 ∧ ∀ i ∈ Tm.metas u, i ∈ o) → (us.flatMap Tm.metas).map (ixIn o) = (us.map (renT (ixIn o))).flatMap Tm.metas := by
      intro us
      induction us with
      | nil => intro _; rfl
      | cons u us ih =>
        intro hu
        rw [List.flatMap_cons, List.map_append, List.map_cons, List.flatMap_cons, ih (fun v hv => hu v (by simp [hv])), (hterm (hu u (by simp)).1 (hu u (by simp)).2).1]
    exact key _ (fun u hu => by
      obtain ⟨t, ht, rfl⟩ := List.mem_map.1 hu
      exact ⟨(expT_parts hP (allE_each l ts hA t ht)).1, hin t ht⟩)
  rw [hms] at hC2
  have hb2 : Bel k (k.length + 1) (xs.flatMap Tm.metas) := bel_top k (fun i hi => by
    obtain ⟨x, hx, hi⟩ := List.mem_flatMap.1 hi
    obtain ⟨_, _, _, _, _, _, _, h1⟩ := hxt x hx
    exact h1 i hi)
  have hF := col_to hZ hC2 _ hb2
  have hS : unsS k xs = ⟨upTo o.length, 0⟩ := by
    unfold unsS
    rw [colL_flat, hR2]
    exact hF
  have hE2 : unsE k xs = 0 := by unfold unsE; rw [if_neg (by simp [hA2]), hS]
  have hO2 : unsO k xs = upTo o.length := by unfold unsO; rw [if_pos hE2, hS]
  have hid : ∀ t : Tm, t.wf = 0 → (∀ i ∈ Tm.metas t, 0 ≤ i ∧ i < k.length) → renT (ixIn (upTo o.length)) t = t := fun t hw hm => renT_id _ t ((nal_metas t hw).2 (fun i hi => ixIn_upTo (hm i hi).1 (by have := (hm i hi).2; omega)))
  refine ⟨hZ, hE2, ?_, ?_, ?_, ?_⟩
  · unfold canK
    rw [hO2]
    refine List.ext_getElem (by rw [List.length_map, upTo_len]; exact hkl.symm) (fun p h1 h2 => ?_)
    have hp : p < o.length := by omega
    rw [List.getElem_map, upTo_at]
    have hcc := hty o[p] (List.getElem_mem hp)
    rw [ixIn_at ho.nodup] at hcc
    have hkp : k[p] = canM l o o[p] := by
      have hpk' := h2
      subst hk
      exact canO_at hpk' hp
    obtain ⟨he, ht⟩ := ho.typ p hp
    have hi := ho.inn _ (List.getElem_mem hp)
    have hw := expT_wf hP (i := o[p]) hi.1 hi.2 he
    obtain ⟨r1, r2, r3⟩ := hterm hw (fun i hi => List.mem_of_mem_take (ht i hi))
    unfold canM
    rw [hcc.2.1, nameOf_at h2, hid _ r2 r3, hkp]
    rfl
  · unfold canT
    rw [if_pos hE2, hR2, hO2]
    have : ∀ ys : List Tm, (∀ y ∈ ys, renT (ixIn (upTo o.length)) y = y) → ys.map (renT (ixIn (upTo o.length))) = ys := by
      intro ys
      induction ys with
      | nil => intro _; rfl
      | cons y ys ih => intro hy; rw [List.map_cons, hy y (by simp), ih (fun z hz => hy z (by simp [hz]))]
    exact this xs (fun x hx => by obtain ⟨_, _, _, h1, _, _, _, h2⟩ := hxt x hx; exact hid x h1 h2)
  · rw [hT]; simp
  · intro x hx
    obtain ⟨t, ht, rfl, h1, _⟩ := hxt x hx
    exact ⟨h1, renT_nal _ (fun _ _ _ _ h => h) _ (expT_kn hP (hts t ht))⟩
end
end Go.LF
namespace Go.LF
open Tm Go.Proofs.YtdomloghcpfdjaaGreatDoor
/-! What binding keeps. -/
/-- The metavariables of a term are so few. -/
abbrev Mlt (p : Int) (t : Tm) : Prop := nal (fun k _ i _ => k = 6 → 0 ≤ i ∧ i < p) t
end Go.LF
namespace Go.LF
open Tm Go.Proofs.YtdomloghcpfdjaaGreatDoor
section
variable {l : List Mv} (hP : Plz l) {ts : List Tm} (h : unsE l ts = 0)
include hP h in
theorem canK_plz : Plz (canK l ts) := canO_plz hP (uns_col hP h).2.2.1
include hP h in
theorem canT_each : (canT l ts).length = ts.length ∧ ∀ i (hi : i < ts.length) (hi' : i < (canT l ts).length), Kp ts[i] (canT l ts)[i] ∧ (canT l ts)[i].wf = 0 ∧ Mlt (canK l ts).length (canT l ts)[i] ∧ (ts[i].scope ≤ 0 → lt 0 (canT l ts)[i]) := by
  obtain ⟨hA, hC, ho, hb⟩ := uns_col hP h
  have hT : canT l ts = (ts.map (expT l)).map (renT (ixIn (unsO l ts))) := by
    unfold canT
    rw [if_pos h]
    unfold allR
    rw [if_pos hA]
  have hl := ho.len
  have hl2 := hP.len
  refine ⟨by rw [hT]; simp, fun i hi hi' => ?_⟩
  have e : (canT l ts)[i] = renT (ixIn (unsO l ts)) (expT l ts[i]) := by
    have h2 : (canT l ts)[i]? = some (renT (ixIn (unsO l ts)) (expT l ts[i])) := by
      rw [hT, List.getElem?_map, List.getElem?_map, List.getElem?_eq_getElem hi]; rfl
    rw [List.getElem?_eq_getElem hi'] at h2
    exact Option.some.inj h2
  rw [e]
  have he := allE_each l ts hA _ (List.getElem_mem hi)
  have hw := (expT_parts hP he).1
  have hin : ∀ j ∈ Tm.metas (expT l ts[i]), j ∈ unsO l ts := fun j hj => (col_mono hC).2 j (List.mem_flatMap.2 ⟨_, List.mem_map.2 ⟨_, List.getElem_mem hi, rfl⟩, hj⟩)
  obtain ⟨r1, r2, r3⟩ := canO_term hP ho hw hin
  have hex := (expE_wf he).2.2
  have hrok : Rok (ixIn (unsO l ts)) (expT l ts[i]) := (nal_metas _ hw).2 (fun j hj => by
    have := ixIn_lt (hin j hj)
    exact ⟨by omega, by omega⟩)
  have hkp : Kp ts[i] (expT l ts[i]) := by
    unfold expT
    rw [if_pos he]
    exact exF_kp l 16385 _ 0 hex
  refine ⟨⟨fun h => renT_obj _ _ hrok (hkp.1 h), fun h => renT_typ _ _ hrok (hkp.2.1 h), fun h => renT_knd _ _ hrok (hkp.2.2 h)⟩, r2, (nal_metas _ r2).2 r3, fun hs => ?_⟩
  exact renT_lt _ _ _ ((lt_scope _ (by omega)).2 (hP.closed he hs))
end
theorem wf_small {t : Tm} (h : t.isObj = true ∨ t.isTyp = true ∨ t.isKnd = true) : t.wf = if t.small = true then 0 else 2 := by
  unfold wf
  have : (!t.isObj && !t.isTyp && !t.isKnd) = false := by
    rcases h with h | h | h <;> rw [h] <;> simp
  rw [this]
  cases t.small <;> rfl
end Go.LF
namespace Go.LF
open Tm Go.Proofs.YtdomloghcpfdjaaGreatDoor
theorem Plz.stOk {l : List Mv} (h : Plz l) : StOk l := by
  refine ⟨by have := h.len; omega, fun m hm => ⟨?_, by have := (h.val m hm).1; omega, fun v hv => ?_⟩⟩
  · have := Tm.wf_wt65 (h.typ m hm); omega
  · have := Tm.wf_wt65 (h.vals m hm v hv); omega
theorem can_facts {l : List Mv} (hP : Plz l) (ts : List Tm) : StOk (canK l ts) ∧ (∀ u ∈ canT l ts, u.size ≤ 1000000) ∧ (canT l ts).length ≤ ts.length ∧ (unsO l ts).length ≤ 1000000 := by
  by_cases h : unsE l ts = 0
  · obtain ⟨e1, e2⟩ := canT_each hP h
    refine ⟨(canK_plz hP h).stOk, fun u hu => ?_, by omega, ?_⟩
    · obtain ⟨i, hi, rfl⟩ := List.getElem_of_mem hu
      have := (wf_any3 (e2 i (by omega) hi).2.1).2.1
      omega
    · have h1 := (uns_col hP h).2.2.1.len
      have h2 := hP.len
      omega
  · have h1 : unsO l ts = [] := by unfold unsO; rw [if_neg h]
    have h2 : canT l ts = [] := by unfold canT; rw [if_neg h]
    have h3 : canK l ts = [] := by unfold canK; rw [h1]; rfl
    rw [h1, h2, h3]
    exact ⟨⟨by simp, fun m hm => (by cases hm)⟩, fun u hu => (by cases hu), by simp, by simp⟩
theorem exp_size {l : List Mv} (hP : Plz l) (t : Tm) : (expT l t).size ≤ 1000000 := by
  by_cases h : expE l t = 0
  · have := (wf_any3 (expT_parts hP h).1).2.1
    omega
  · unfold expT; rw [if_neg h]; decide
end Go.LF
