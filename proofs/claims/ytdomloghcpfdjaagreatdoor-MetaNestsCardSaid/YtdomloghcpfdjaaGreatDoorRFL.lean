/- How many free variables there are behind a substitution. No program is in sight here. -/
import Derived.Test.YtdomloghcpfdjaaGreatDoorRFB
import Derived.Test.YtdomloghcpfdjaaGreatDoorRFJ
namespace Go.LF.Tm
mutual
/-- All free variables are less than n. -/
def lt (n : Int) : Tm → Prop
  | mk k _ i l => (k = 5 → i < n) ∧ ltA n k 0 l
def ltA (n k : Int) (j : Nat) : List Tm → Prop
  | [] => True
  | t :: ts => lt (n + under k j) t ∧ ltA n k (j + 1) ts
end
theorem lt_mk (n k nm i l) : lt n (mk k nm i l) ↔ (k = 5 → i < n) ∧ ltA n k 0 l := by rw [lt]
theorem ltA_nil (n k : Int) (j : Nat) : ltA n k j [] := by rw [ltA]; trivial
theorem ltA_cons (n k : Int) (j : Nat) (t : Tm) (ts : List Tm) : ltA n k j (t :: ts) ↔ lt (n + under k j) t ∧ ltA n k (j + 1) ts := by rw [ltA]
theorem lt_le (t : Tm) : ∀ {n n' : Int}, n ≤ n' → lt n t → lt n' t := by
  induction t using ind with
  | h k nm i l ih =>
    intro n n' hn h
    rw [lt_mk] at h ⊢
    refine ⟨fun e => by have := h.1 e; omega, ?_⟩
    have key : ∀ (l' : List Tm), (∀ t ∈ l', t ∈ l) → ∀ j, ltA n k j l' → ltA n' k j l' := by
      intro l'
      induction l' with
      | nil => intro _ j _; exact ltA_nil _ _ _
      | cons t ts ih2 =>
        intro hm j h
        rw [ltA_cons] at h ⊢
        exact ⟨ih t (hm t (by simp)) (by omega) h.1, ih2 (fun t ht => hm t (by simp [ht])) (j + 1) h.2⟩
    exact key l (fun _ h => h) 0 h.2
theorem lt_scope (t : Tm) : ∀ {n : Int}, 0 ≤ n → (lt n t ↔ scope t ≤ n) := by
  induction t using ind with
  | h k nm i l ih =>
    intro n hn
    rw [lt_mk, scope]
    have key : ∀ (l' : List Tm), (∀ t ∈ l', t ∈ l) → ∀ (j : Nat) (acc : Int), (acc ≤ n ∧ ltA n k j l') ↔ scopes k j acc l' ≤ n := by
      intro l'
      induction l' with
      | nil => intro _ j acc; rw [scopes]; exact ⟨fun h => h.1, fun h => ⟨h, ltA_nil _ _ _⟩⟩
      | cons t ts ih2 =>
        intro hm j acc
        have hu := under_le k j
        rw [scopes, ltA_cons, ← ih2 (fun t ht => hm t (by simp [ht])), ih t (hm t (by simp)) (by omega)]
        constructor
        · rintro ⟨h1, h2, h3⟩; exact ⟨by omega, h3⟩
        · rintro ⟨h1, h2⟩; exact ⟨by omega, by omega, h2⟩
    rw [← key l (fun _ h => h)]
    by_cases hk : k = 5
    · subst hk
      simp only [beq_self_eq_true, if_true, forall_const]
      constructor
      · rintro ⟨h1, h2⟩; exact ⟨by omega, h2⟩
      · rintro ⟨h1, h2⟩; exact ⟨by omega, h2⟩
    · rw [if_neg (by simpa using hk)]
      exact ⟨fun h => ⟨hn, h.2⟩, fun h => ⟨fun e => absurd e hk, h.2⟩⟩
theorem lt_none0 {n : Int} : lt n none0 := (lt_mk _ _ _ _ _).2 ⟨fun e => absurd e (by decide), ltA_nil _ _ _⟩
theorem lt_mv (t : Tm) : ∀ (by' b n : Int), 0 ≤ by' → lt n t → lt (n + by') (mv (shF by' 0) b t) := by
  induction t using ind with
  | h k nm i l ih =>
    intro by' b n h0 h
    rw [lt_mk] at h
    rw [mv_mk, lt_mk]
    refine ⟨fun e => ?_, ?_⟩
    · have := h.1 e
      unfold mvi shF
      simp only
      split
      · split <;> omega
      · omega
    have key : ∀ (l' : List Tm), (∀ t ∈ l', t ∈ l) → ∀ j, ltA n k j l' → ltA (n + by') k j (mvA (shF by' 0) b k j l') := by
      intro l'
      induction l' with
      | nil => intro _ j _; rw [mvA]; exact ltA_nil _ _ _
      | cons t ts ih2 =>
        intro hm j h
        rw [ltA_cons] at h
        rw [mvA, ltA_cons]
        refine ⟨?_, ih2 (fun t ht => hm t (by simp [ht])) (j + 1) h.2⟩
        have := ih t (hm t (by simp)) by' (b + under k j) (n + under k j) h0 h.1
        rw [show n + by' + under k j = n + under k j + by' by omega]
        exact this
    exact key l (fun _ h => h) 0 h.2
theorem chk_lt {t : Tm} {w : Nat} {n : Int} (h : lt n t) : lt n (chk t w).t := by
  unfold chk
  split
  · exact h
  · exact lt_none0
theorem apF_lt (n : Int) (f : Tm → Sm → Tm → Nat → Res) (hf : ∀ u s b w, lt n u → lt (n + 1) b → lt n (f u s b w).t) (us : List Tm) : ∀ (m : Tm) (ss : List Sm) (w : Nat), lt n m → (∀ u ∈ us, lt n u) → lt n (apF f m ss us w).t := by
  induction us with
  | nil =>
    intro m ss w hm _
    unfold apF
    split
    · exact lt_none0
    · exact chk_lt hm
  | cons u us ih =>
    intro m ss w hm hu
    cases ss with
    | nil => unfold apF; exact lt_none0
    | cons s ss =>
      rw [apF]
      split
      · rename_i hk
        have hb : lt (n + 1) (m.args.headD none0) := by
          cases m with
          | mk k nm i l =>
            rw [lt_mk] at hm
            have hk : k = 3 := hk
            subst hk
            cases l with
            | nil => exact lt_none0
            | cons t ts =>
              have := hm.2
              rw [ltA_cons] at this
              exact this.1
        have hf1 := hf u s _ w (hu u (by simp)) hb
        split
        · exact ih _ _ _ hf1 (fun u h => hu u (by simp [h]))
        · exact hf1
      · exact lt_none0
theorem sbN_lt (N : Int) (hN : 0 ≤ N) (f : Tm → Sm → Tm → Nat → Res) (ms : List Tm) (ss : List Sm) (d k : Int) (hd : 0 ≤ d) (hf : ∀ u s b w, lt (N + d) u → lt (N + d + 1) b → lt (N + d) (f u s b w).t) (nm : List UInt8) (i : Int) (us : List Tm) (w : Nat)
    (hms : ∀ m ∈ ms, lt N m) (hi : k = 5 → i < N + ms.length + d) (hu : ltA (N + d) k 0 us) : lt (N + d) (sbN f ms ss d k nm i us w).t := by
  unfold sbN
  split
  · rename_i hk
    obtain ⟨rfl, hdi⟩ := hk
    have hus : ∀ u ∈ us, lt (N + d) u := by
      have key : ∀ (l : List Tm) j, ltA (N + d) 5 j l → ∀ u ∈ l, lt (N + d) u := by
        intro l
        induction l with
        | nil => intro j _ u hu; cases hu
        | cons t ts ih =>
          intro j h u hu
          rw [ltA_cons] at h
          rcases List.mem_cons.1 hu with rfl | hu
          · have := h.1; rw [show under 5 j = 0 by unfold under; simp] at this; simpa using this
          · exact ih (j + 1) h.2 u hu
      exact key us 0 hu
    split
    · rename_i hlt
      split
      · exact lt_none0
      · unfold ap
        split
        · refine apF_lt (N + d) f hf us _ _ _ ?_ hus
          have hl : (i - d).toNat < ms.length := by omega
          rw [List.getD, List.getElem?_eq_getElem hl]
          exact lt_mv _ d 0 N hd (hms _ (List.getElem_mem hl))
        · exact lt_none0
    · refine chk_lt ((lt_mk _ _ _ _ _).2 ⟨fun _ => ?_, hu⟩)
      have := hi rfl
      omega
  · rename_i hk
    refine chk_lt ((lt_mk _ _ _ _ _).2 ⟨fun e => ?_, hu⟩)
    have : i < d := by
      by_cases h : i < d
      · exact h
      · exact absurd ⟨e, by omega⟩ hk
    omega
theorem sb_lt' (n : Nat) : ∀ (N : Int) (ms : List Tm) (ss : List Sm) (d : Int) (t : Tm) (w : Nat), 0 ≤ N → 0 ≤ d → (∀ m ∈ ms, lt N m) → lt (N + ms.length + d) t → lt (N + d) (sb n ms ss d t w).t := by
  induction n with
  | zero => intro N ms ss d t w _ _ _ _; rw [sb]; exact lt_none0
  | succ n ih =>
    intro N ms ss d t w hN hd hms ht
    rw [sb]
    split
    · exact lt_none0
    · split
      · cases t with
        | mk k nm i l =>
          simp only [kind_mk, name_mk, index_mk, args_mk] at *
          rw [lt_mk] at ht
          refine sbN_lt N hN _ ms ss d k hd (fun u s b w hu hb => ?_) nm i _ _ hms ht.1 ?_
          · have := ih (N + d) [u] [s] 0 b w (by omega) (by omega) (fun m hm => by obtain rfl := List.mem_singleton.1 hm; exact hu) (by simpa using hb)
            simpa using this
          · have key : ∀ (l' : List Tm), (∀ t ∈ l', t ∈ l) → ∀ (j w : Nat), ltA (N + ms.length + d) k j l' → ltA (N + d) k j (sbA (fun d' t' w' => sb n ms ss d' t' w') d k j l' w).ts := by
              intro l'
              induction l' with
              | nil => intro _ j w _; rw [sbA]; exact ltA_nil _ _ _
              | cons t ts ih2 =>
                intro hm j w h
                rw [ltA_cons] at h
                have hu := under_le k j
                rw [sbA]
                split
                · split
                  · show ltA _ _ _ (_ :: _)
                    rw [ltA_cons]
                    refine ⟨?_, ih2 (fun t ht => hm t (by simp [ht])) (j + 1) _ h.2⟩
                    have := ih N ms ss (d + under k j) t w hN (by omega) hms (by rw [← Int.add_assoc]; exact h.1)
                    rw [Int.add_assoc]
                    exact this
                  · exact ltA_nil _ _ _
                · exact ltA_nil _ _ _
            exact key l (fun _ h => h) 0 _ ht.2
      · exact lt_none0
theorem ap_lt (n : Nat) (N : Int) (hN : 0 ≤ N) (m : Tm) (ss : List Sm) (us : List Tm) (w : Nat) (hm : lt N m) (hu : ∀ u ∈ us, lt N u) : lt N (ap (fun u s b w' => sb n [u] [s] 0 b w') m ss us w).t := by
  unfold ap
  split
  · refine apF_lt N _ (fun u s b w h1 h2 => ?_) us m ss w hm hu
    have := sb_lt' n N [u] [s] 0 b w hN (by omega) (fun m hm => by obtain rfl := List.mem_singleton.1 hm; exact h1) (by simpa using h2)
    simpa using this
  · exact lt_none0
end Go.LF.Tm
namespace Go.LF
open Tm Go.Proofs.YtdomloghcpfdjaaGreatDoor
/-! Other numbers for the metavariables. -/
/-! Expansions of closed terms are closed. -/
theorem ltA_zero {n : Int} {k : Int} (hk : k ≠ 3 ∧ k ≠ 2) : ∀ (l : List Tm) (j : Nat), ltA n k j l → ∀ u ∈ l, lt n u
  | [], _, _, _, hu => by cases hu
  | t :: ts, j, h, u, hu => by
    rw [ltA_cons] at h
    rcases List.mem_cons.1 hu with rfl | hu
    · have := h.1; rw [show under k j = 0 by unfold under; simp [hk]] at this; simpa using this
    · exact ltA_zero hk ts (j + 1) h.2 u hu
theorem exT_lt (g : Int → Int → List Tm → Nat → Option Res) (hg : ∀ k i us c r, g k i us c = some r → k = 6 ∧ ∀ N : Int, 0 ≤ N → (∀ u ∈ us, lt N u) → lt N r.t) (t : Tm) : ∀ (N : Int), 0 ≤ N → lt N t → ∀ c, lt N (exT g t c).t := by
  induction t using ind with
  | h k nm i l ih =>
    intro N hN h c
    rw [lt_mk] at h
    have key : ∀ (l' : List Tm), (∀ t ∈ l', t ∈ l) → ∀ j, ltA N k j l' → ∀ c, ltA N k j (exL g l' c).ts := by
      intro l'
      induction l' with
      | nil => intro _ j _ c; rw [exL_nil]; exact ltA_nil _ _ _
      | cons t ts ih2 =>
        intro hm j h c
        rw [ltA_cons] at h
        have hu := under_le k j
        rw [exL_cons]
        split
        · split
          · show ltA _ _ _ (_ :: _)
            rw [ltA_cons]
            exact ⟨ih t (hm t (by simp)) _ (by omega) h.1 c, ih2 (fun t ht => hm t (by simp [ht])) (j + 1) h.2 _⟩
          · exact ltA_nil _ _ _
        · exact ltA_nil _ _ _
    have hA := key l (fun _ h => h) 0 h.2 c
    rw [exT_mk]
    split
    · cases hq : g k i (exL g l c).ts (exL g l c).w with
      | none => exact chk_lt ((lt_mk _ _ _ _ _).2 ⟨h.1, hA⟩)
      | some r =>
        obtain ⟨rfl, h2⟩ := hg _ _ _ _ _ hq
        exact h2 N hN (ltA_zero ⟨by decide, by decide⟩ _ 0 hA)
    · exact lt_none0
theorem exF_lt (l : List Mv) (hv : ∀ m ∈ l, ∀ v ∈ m.value, lt 0 v) (n : Nat) : ∀ t (N : Int), 0 ≤ N → lt N t → ∀ c, lt N (exF l n t c).t := by
  induction n with
  | zero => intro t N _ _ c; exact lt_none0
  | succ n ih =>
    intro t
    rw [exF_succ]
    refine exT_lt _ (fun k i us c r hr => ?_) t
    unfold exG at hr
    obtain ⟨m, hm, rfl⟩ := Option.map_eq_some_iff.1 hr
    obtain ⟨h6, _, _, _, hml, hmv⟩ := slv_some hm
    refine ⟨h6, fun N hN hus => ?_⟩
    split
    · exact lt_none0
    split
    · exact lt_none0
    rename_i h2
    refine ih _ N hN ?_ _
    unfold appT
    rw [if_pos (Decidable.not_not.1 h2)]
    refine ap_lt 262145 N hN _ _ _ _ ?_ hus
    match hv' : m.value, hmv with
    | v :: r, _ => exact lt_le _ hN (hv m hml v (by rw [hv']; simp))
theorem Plz.closed {l : List Mv} (h : Plz l) {t : Tm} (he : expE l t = 0) (ht : t.scope ≤ 0) : (expT l t).scope ≤ 0 := by
  unfold expT
  rw [if_pos he]
  refine (lt_scope _ (by omega)).1 (exF_lt l (fun m hm v hv => ?_) 16385 t 0 (by omega) ((lt_scope _ (by omega)).2 ht) 0)
  obtain ⟨_, h1, h2, h3, _⟩ := valueE_parts ((h.val m hm).2 v hv)
  exact (lt_scope _ (by omega)).2 h3
end Go.LF
namespace Go.LF
open Tm Go.Proofs.YtdomloghcpfdjaaGreatDoor
/-- An order: no repetitions, what a type mentions is ahead. -/
structure OrdOk (l : List Mv) (o : List Int) : Prop where
  cnt : unseen l o + o.length ≤ l.length
  inn : ∀ x ∈ o, 0 ≤ x ∧ x < l.length
  typ : ∀ p (h : p < o.length), expE l (typeOf l o[p]) = 0 ∧ ∀ j ∈ Tm.metas (expT l (typeOf l o[p])), j ∈ o.take p
theorem OrdOk.nil (l : List Mv) : OrdOk l [] := ⟨unseen_nil l, fun _ h => (by cases h), fun p h => (by simp at h)⟩
section
variable {l : List Mv} (hP : Plz l)
include hP in
theorem expT_kn {t : Tm} (h : nal (fun _ _ _ z => z ≤ 200) t) : nal (fun _ _ _ z => z ≤ 200) (expT l t) := by
  unfold expT
  split
  · exact exF_nal (fun _ _ _ _ h => h) (Nat.zero_le _) l (fun m hm v hv => (hP.kn m hm).2 v hv) 16385 t 0 h
  · exact nal_none0 (Nat.zero_le _)
theorem OrdOk.len {o : List Int} (h : OrdOk l o) : o.length ≤ l.length := by have := h.cnt; omega
end
end Go.LF
