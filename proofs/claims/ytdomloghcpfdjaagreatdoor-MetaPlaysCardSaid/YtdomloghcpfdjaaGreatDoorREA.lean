/- Hereditary substitution as plain data. -/
import Derived.Test.YtdomloghcpfdjaaGreatDoorRCA
import Derived.Test.YtdomloghcpfdjaaGreatDoorRCF
import Derived.Test.YtdomloghcpfdjaaGreatDoorRCH
import Derived.Test.YtdomloghcpfdjaaGreatDoorRCK
import Derived.Test.YtdomloghcpfdjaaGreatDoorRCM
import Derived.WalkLawsBesides
namespace Go.LF.Tm
abbrev none0 : Tm := .mk 0 [] 0 []
/-- A step's result: its error (0: none), the term, and the work done so far. -/
structure Res where
  e : Int
  t : Tm
  w : Nat
/-- A result that is small enough. -/
def chk (t : Tm) (w : Nat) : Res := if t.small = true then ⟨0, t, w⟩ else ⟨2, none0, w⟩
/-- The arguments, one behind the other. -/
structure ResA where
  e : Int
  ts : List Tm
  w : Nat
def sbA (f : Int → Tm → Nat → Res) (d k : Int) (j : Nat) : List Tm → Nat → ResA
  | [], w => ⟨0, [], w⟩
  | t :: ts, w =>
    if (f (d + under k j) t w).e = 0 then
      (if (sbA f d k (j + 1) ts (f (d + under k j) t w).w).e = 0 then ⟨0, (f (d + under k j) t w).t :: (sbA f d k (j + 1) ts (f (d + under k j) t w).w).ts, (sbA f d k (j + 1) ts (f (d + under k j) t w).w).w⟩
        else ⟨(sbA f d k (j + 1) ts (f (d + under k j) t w).w).e, [], (sbA f d k (j + 1) ts (f (d + under k j) t w).w).w⟩)
    else ⟨(f (d + under k j) t w).e, [], (f (d + under k j) t w).w⟩
/-- An application, argument by argument. -/
def apF (f : Tm → Sm → Tm → Nat → Res) : Tm → List Sm → List Tm → Nat → Res
  | m, _, [], w => if m.kind = 3 then ⟨6, none0, w⟩ else chk m w
  | _, [], _ :: _, w => ⟨6, none0, w⟩
  | m, s :: ss, u :: us, w =>
    if m.kind = 3 then (if (f u s (m.args.headD none0) w).e = 0 then apF f (f u s (m.args.headD none0) w).t ss us (f u s (m.args.headD none0) w).w else f u s (m.args.headD none0) w)
    else ⟨6, none0, w⟩
def ap (f : Tm → Sm → Tm → Nat → Res) (m : Tm) (ss : List Sm) (us : List Tm) (w : Nat) : Res := if us.length = ss.length then apF f m ss us w else ⟨6, none0, w⟩
/-- A node whose arguments are done. -/
def sbN (f : Tm → Sm → Tm → Nat → Res) (ms : List Tm) (ss : List Sm) (d k : Int) (nm : List UInt8) (i : Int) (us : List Tm) (w : Nat) : Res :=
  if k = 5 ∧ d ≤ i then
    if i - d < ms.length then
      (if 1048576 < great ((ms.getD (i - d).toNat none0).mv (shF d 0) 0) then ⟨5, none0, w⟩
        else ap f ((ms.getD (i - d).toNat none0).mv (shF d 0) 0) (ss.getD (i - d).toNat (.mk [] [])).args us w)
    else chk (mk k nm (i - ms.length) us) w
  else chk (mk k nm i us) w
/-- The objects ms for the variables d, .. in a term; n: how much fuel there is. -/
def sb : Nat → List Tm → List Sm → Int → Tm → Nat → Res
  | 0, _, _, _, _, w => ⟨2, none0, w + 1⟩
  | n + 1, ms, ss, d, t, w =>
    if 262144 < w + 1 then ⟨2, none0, w + 1⟩ else
    if (sbA (fun d' t' w' => sb n ms ss d' t' w') d t.kind 0 t.args (w + 1)).e = 0 then
      sbN (fun u s b w' => sb n [u] [s] 0 b w') ms ss d t.kind t.name t.index (sbA (fun d' t' w' => sb n ms ss d' t' w') d t.kind 0 t.args (w + 1)).ts (sbA (fun d' t' w' => sb n ms ss d' t' w') d t.kind 0 t.args (w + 1)).w
    else ⟨(sbA (fun d' t' w' => sb n ms ss d' t' w') d t.kind 0 t.args (w + 1)).e, none0, (sbA (fun d' t' w' => sb n ms ss d' t' w') d t.kind 0 t.args (w + 1)).w⟩
theorem sbA_err (f : Int → Tm → Nat → Res) (d k : Int) (l : List Tm) : ∀ (j w : Nat), (sbA f d k j l w).e ≠ 0 → (sbA f d k j l w).ts = [] := by
  cases l with
  | nil => intro j w h; exact absurd rfl h
  | cons t ts =>
    intro j w h
    rw [sbA] at h ⊢
    split
    · split
      · rename_i h1 h2
        rw [if_pos h1, if_pos h2] at h
        exact absurd rfl h
      · rfl
    · rfl
theorem sbA_append (f : Int → Tm → Nat → Res) (d k : Int) (l m : List Tm) : ∀ (j w : Nat), sbA f d k j (l ++ m) w =
    if (sbA f d k j l w).e = 0 then
      (if (sbA f d k (j + l.length) m (sbA f d k j l w).w).e = 0 then ⟨0, (sbA f d k j l w).ts ++ (sbA f d k (j + l.length) m (sbA f d k j l w).w).ts, (sbA f d k (j + l.length) m (sbA f d k j l w).w).w⟩
        else ⟨(sbA f d k (j + l.length) m (sbA f d k j l w).w).e, [], (sbA f d k (j + l.length) m (sbA f d k j l w).w).w⟩)
    else sbA f d k j l w := by
  induction l with
  | nil =>
    intro j w
    show sbA f d k j m w = if (0 : Int) = 0 then (if (sbA f d k (j + 0) m w).e = 0 then ⟨0, [] ++ (sbA f d k (j + 0) m w).ts, (sbA f d k (j + 0) m w).w⟩ else ⟨(sbA f d k (j + 0) m w).e, [], (sbA f d k (j + 0) m w).w⟩) else ⟨0, [], w⟩
    have he := sbA_err f d k m j w
    rw [if_pos rfl, Nat.add_zero]
    generalize sbA f d k j m w = r at *
    obtain ⟨re, rt, rw'⟩ := r
    by_cases h : re = 0
    · subst h; rfl
    · have := he h
      simp only at this
      subst this
      rw [if_neg h]
  | cons t ts ih =>
    intro j w
    rw [List.cons_append, sbA, sbA, ih, List.length_cons, show j + (ts.length + 1) = j + 1 + ts.length by omega]
    generalize f (d + under k j) t w = r
    by_cases h1 : r.e = 0
    · rw [if_pos h1, if_pos h1]
      by_cases h2 : (sbA f d k (j + 1) ts r.w).e = 0
      · rw [if_pos h2, if_pos h2, if_pos rfl]
        by_cases h3 : (sbA f d k (j + 1 + ts.length) m (sbA f d k (j + 1) ts r.w).w).e = 0
        · rw [if_pos h3, if_pos h3, if_pos rfl]; rfl
        · rw [if_neg h3, if_neg h3, if_neg h3]
      · rw [if_neg h2, if_neg h2, if_neg h2]
    · rw [if_neg h1, if_neg h1, if_neg h1]
/-- One argument more. -/
theorem sbA_take_succ (f : Int → Tm → Nat → Res) (d k : Int) (l : List Tm) (w j : Nat) (h : j < l.length) (h0 : (sbA f d k 0 (l.take j) w).e = 0) : sbA f d k 0 (l.take (j + 1)) w =
    if (f (d + under k j) l[j] (sbA f d k 0 (l.take j) w).w).e = 0 then ⟨0, (sbA f d k 0 (l.take j) w).ts ++ [(f (d + under k j) l[j] (sbA f d k 0 (l.take j) w).w).t], (f (d + under k j) l[j] (sbA f d k 0 (l.take j) w).w).w⟩
    else ⟨(f (d + under k j) l[j] (sbA f d k 0 (l.take j) w).w).e, [], (f (d + under k j) l[j] (sbA f d k 0 (l.take j) w).w).w⟩ := by
  rw [List.take_succ_eq_append_getElem h, sbA_append, if_pos h0, List.length_take, Nat.min_eq_left (Nat.le_of_lt h), Nat.zero_add, sbA, sbA]
  split <;> simp_all
/-- An error among the first ones is the error of all. -/
theorem sbA_stop (f : Int → Tm → Nat → Res) (d k : Int) (l : List Tm) (w j : Nat) (h0 : (sbA f d k 0 (l.take j) w).e ≠ 0) : sbA f d k 0 l w = sbA f d k 0 (l.take j) w := by
  conv => lhs; rw [← List.take_append_drop j l]
  rw [sbA_append, if_neg h0]
theorem sbA_length (f : Int → Tm → Nat → Res) (d k : Int) (l : List Tm) : ∀ (j w : Nat), (sbA f d k j l w).e = 0 → (sbA f d k j l w).ts.length = l.length := by
  induction l with
  | nil => intro j w _; rfl
  | cons t ts ih =>
    intro j w h
    rw [sbA] at h ⊢
    split at h
    · rename_i h1
      rw [if_pos h1]
      split at h
      · rename_i h2
        rw [if_pos h2]
        simp [ih _ _ h2]
      · rename_i h2; exact absurd h h2
    · rename_i h1; exact absurd h h1
theorem sbA_le (f : Int → Tm → Nat → Res) (hf : ∀ d t w, w ≤ (f d t w).w) (d k : Int) (l : List Tm) : ∀ (j w : Nat), w ≤ (sbA f d k j l w).w := by
  induction l with
  | nil => intro j w; exact Nat.le_refl _
  | cons t ts ih =>
    intro j w
    have h1 := hf (d + under k j) t w
    have h2 := ih (j + 1) (f (d + under k j) t w).w
    rw [sbA]
    split
    · split <;> exact Nat.le_trans h1 h2
    · exact h1
theorem chk_w (t : Tm) (w : Nat) : (chk t w).w = w := by unfold chk; split <;> rfl
theorem apF_le (f : Tm → Sm → Tm → Nat → Res) (hf : ∀ u s b w, w ≤ (f u s b w).w) (us : List Tm) : ∀ (m : Tm) (ss : List Sm) (w : Nat), w ≤ (apF f m ss us w).w := by
  induction us with
  | nil => intro m ss w; unfold apF; split <;> simp [chk_w]
  | cons u us ih =>
    intro m ss w
    cases ss with
    | nil => unfold apF; exact Nat.le_refl _
    | cons s ss =>
      rw [apF]
      have h1 := hf u s (m.args.headD none0) w
      split
      · split
        · exact Nat.le_trans h1 (ih _ _ _)
        · exact h1
      · exact Nat.le_refl _
theorem sbN_le (f : Tm → Sm → Tm → Nat → Res) (hf : ∀ u s b w, w ≤ (f u s b w).w) (ms : List Tm) (ss : List Sm) (d k : Int) (nm : List UInt8) (i : Int) (us : List Tm) (w : Nat) : w ≤ (sbN f ms ss d k nm i us w).w := by
  unfold sbN
  split
  · split
    · split
      · exact Nat.le_refl _
      · unfold ap; split
        · exact apF_le f hf _ _ _ _
        · exact Nat.le_refl _
    · rw [chk_w]; exact Nat.le_refl _
  · rw [chk_w]; exact Nat.le_refl _
theorem sb_lt (n : Nat) : ∀ ms ss d t w, w < (sb n ms ss d t w).w := by
  induction n with
  | zero => intro ms ss d t w; exact Nat.lt_succ_self _
  | succ n ih =>
    intro ms ss d t w
    have h1 := sbA_le (fun d' t' w' => sb n ms ss d' t' w') (fun d t w => Nat.le_of_lt (ih _ _ _ _ _)) d t.kind t.args 0 (w + 1)
    rw [sb]
    split
    · exact Nat.lt_succ_self _
    · split
      · exact Nat.lt_of_lt_of_le (Nat.lt_of_succ_le h1) (sbN_le _ (fun u s b w => Nat.le_of_lt (ih _ _ _ _ _)) _ _ _ _ _ _ _ _)
      · exact Nat.lt_of_succ_le h1
/-- A good result: an error and no term, or an object that is small. -/
def Good (r : Res) : Prop := (r.e = 0 ∧ r.t.isObj = true ∧ r.t.small = true) ∨ (r.e ≠ 0 ∧ r.t = none0)
theorem chk_good (t : Tm) (w : Nat) (h : t.isObj = true) : Good (chk t w) := by
  unfold chk
  split
  · rename_i h1; exact .inl ⟨rfl, h, h1⟩
  · exact .inr ⟨by simp, rfl⟩
theorem obj_lam {m : Tm} (h : m.isObj = true) (hk : m.kind = 3) : (m.args.headD none0).isObj = true ∧ m.args = [m.args.headD none0] := by
  cases m with
  | mk k n i l =>
    obtain ⟨h1, h2⟩ := obj_args h
    obtain ⟨u, rfl⟩ := List.length_eq_one_iff.1 (h2 hk)
    exact ⟨h1 u (by simp), rfl⟩
theorem obj_lam_depth {m : Tm} (h : m.isObj = true) (hk : m.kind = 3) (hs : m.small = true) : (m.args.headD none0).depth ≤ 128 := by
  have h1 := (obj_lam h hk).2
  cases m with
  | mk k n i l =>
    simp only [args_mk] at h1 ⊢
    unfold small at hs
    rw [h1] at hs
    simp only [depth_mk, depths, Bool.and_eq_true, decide_eq_true_eq] at hs
    omega
theorem apF_good (f : Tm → Sm → Tm → Nat → Res) (hf : ∀ u s b w, u.isObj = true → u.small = true → b.isObj = true → b.depth ≤ 128 → Good (f u s b w)) (us : List Tm) : ∀ (m : Tm) (ss : List Sm) (w : Nat),
    (∀ u ∈ us, u.isObj = true ∧ u.small = true) → m.isObj = true → m.small = true → Good (apF f m ss us w) := by
  induction us with
  | nil =>
    intro m ss w _ hm _
    unfold apF
    split
    · exact .inr ⟨by simp, rfl⟩
    · exact chk_good _ _ hm
  | cons u us ih =>
    intro m ss w hu hm hs
    cases ss with
    | nil => unfold apF; exact .inr ⟨by simp, rfl⟩
    | cons s ss =>
      rw [apF]
      split
      · rename_i hk
        have hg := hf u s (m.args.headD none0) w (hu u (by simp)).1 (hu u (by simp)).2 (obj_lam hm hk).1 (obj_lam_depth hm hk hs)
        split
        · rename_i he
          rcases hg with ⟨_, g1, g2⟩ | ⟨g1, _⟩
          · exact ih _ _ _ (fun u h => hu u (by simp [h])) g1 g2
          · exact absurd he g1
        · exact hg
      · exact .inr ⟨by simp, rfl⟩
theorem ap_good (f : Tm → Sm → Tm → Nat → Res) (hf : ∀ u s b w, u.isObj = true → u.small = true → b.isObj = true → b.depth ≤ 128 → Good (f u s b w)) (us : List Tm) (m : Tm) (ss : List Sm) (w : Nat)
    (hu : ∀ u ∈ us, u.isObj = true ∧ u.small = true) (hm : m.isObj = true) (hs : m.small = true) : Good (ap f m ss us w) := by
  unfold ap
  split
  · exact apF_good f hf us m ss w hu hm hs
  · exact .inr ⟨by simp, rfl⟩
theorem small_wf {t : Tm} (h : t.isObj = true) (hs : t.small = true) : t.wf = 0 := by unfold wf; rw [h, hs]; rfl
/-- An object that is moved up, where that is possible. -/
theorem mv_obj {m : Tm} (h : m.isObj = true) (hs : m.small = true) (d : Int) (h0 : 0 ≤ d) (h1 : d ≤ 1048576) (hg : ¬ 1048576 < great (mv (shF d 0) 0 m)) : (mv (shF d 0) 0 m).isObj = true := by
  obtain ⟨e1, e2⟩ := shift_ref m (small_wf h hs) d 0 h0 h1 (by omega) (by omega)
  rw [e1]
  exact obj_mv _ _ h 0 (by omega) (e2.1 (by omega))
theorem small_mv (f : To) (d : Int) (m : Tm) : (mv f d m).small = m.small := by unfold small; rw [size_mv, depth_mv]
theorem sbN_good (f : Tm → Sm → Tm → Nat → Res) (hf : ∀ u s b w, u.isObj = true → u.small = true → b.isObj = true → b.depth ≤ 128 → Good (f u s b w)) (ms : List Tm) (ss : List Sm) (d k : Int) (nm : List UInt8) (i : Int) (l us : List Tm) (w : Nat)
    (hms : ∀ u ∈ ms, u.isObj = true ∧ u.small = true) (h0 : 0 ≤ d) (h1 : d ≤ 1048576) (ho : (mk k nm i l).isObj = true) (hl : us.length = l.length) (hu : ∀ u ∈ us, u.isObj = true ∧ u.small = true) : Good (sbN f ms ss d k nm i us w) := by
  have hal : allObj us = true := by rw [allObj_iff, List.all_eq_true]; exact fun u h => (hu u h).1
  have hnode : ∀ i', (k = 5 → 0 ≤ i' ∧ i' ≤ 1048576) → (k ≠ 5 → i' = i) → (mk k nm i' us).isObj = true := by
    intro i' h5 hn
    rw [isObj] at ho ⊢
    by_cases k3 : k = 3
    · rw [if_pos k3] at ho ⊢
      rw [hn (by omega)]
      simp only [bound, Bool.and_eq_true, beq_iff_eq] at ho ⊢
      exact ⟨⟨⟨ho.1.1.1, by rw [hl]; exact ho.1.1.2⟩, ho.1.2⟩, hal⟩
    rw [if_neg k3] at ho ⊢
    by_cases k4 : k = 4
    · rw [if_pos k4] at ho ⊢
      rw [hn (by omega)]
      simp only [Bool.and_eq_true] at ho ⊢
      exact ⟨ho.1, hal⟩
    rw [if_neg k4] at ho ⊢
    by_cases k5 : k = 5
    · rw [if_pos k5] at ho ⊢
      have := h5 k5
      simp only [Bool.and_eq_true, decide_eq_true_eq] at ho ⊢
      exact ⟨⟨⟨ho.1.1.1, this.1⟩, this.2⟩, hal⟩
    rw [if_neg k5] at ho ⊢
    by_cases k6 : k = 6
    · rw [if_pos k6] at ho ⊢
      rw [hn k5]
      simp only [Bool.and_eq_true] at ho ⊢
      exact ⟨ho.1, hal⟩
    · rw [if_neg k6] at ho
      cases ho
  have hidx : k = 5 → 0 ≤ i ∧ i ≤ 1048576 := by
    intro k5
    subst k5
    rw [isObj] at ho
    simp at ho
    omega
  unfold sbN
  split
  · rename_i hk
    split
    · rename_i hlt
      split
      · exact .inr ⟨by simp, rfl⟩
      · rename_i hg
        have hmem : ms.getD (i - d).toNat none0 ∈ ms := by
          have hlt' : (i - d).toNat < ms.length := by omega
          rw [List.getD, List.getElem?_eq_getElem hlt']
          exact List.getElem_mem _
        exact ap_good f hf us _ _ _ hu (mv_obj (hms _ hmem).1 (hms _ hmem).2 d h0 h1 hg) (by rw [small_mv]; exact (hms _ hmem).2)
    · have := hidx hk.1
      exact chk_good _ _ (hnode _ (fun _ => by omega) (fun h => absurd hk.1 h))
  · exact chk_good _ _ (hnode _ hidx (fun _ => rfl))
theorem sbA_good (f : Int → Tm → Nat → Res) (d k : Int) (h0 : 0 ≤ d) (D : Int) (l : List Tm) (hf : ∀ d' t w, 0 ≤ d' → d' ≤ D + 1 → t ∈ l → Good (f d' t w)) (hd : d ≤ D) : ∀ (j w : Nat), ∀ u ∈ (sbA f d k j l w).ts, u.isObj = true ∧ u.small = true := by
  induction l with
  | nil => intro j w u hu; simp [sbA] at hu
  | cons t ts ih =>
    intro j w u hu
    have hud : under k j = 0 ∨ under k j = 1 := by unfold under; split <;> simp
    have hg := hf (d + under k j) t w (by omega) (by omega) (by simp)
    rw [sbA] at hu
    split at hu
    · rename_i h1
      split at hu
      · rcases List.mem_cons.1 hu with rfl | hu
        · rcases hg with ⟨_, h2⟩ | ⟨h2, _⟩
          · exact h2
          · exact absurd h1 h2
        · exact ih (fun d' t w a b c => hf d' t w a b (by simp [c])) _ _ u hu
      · simp at hu
    · simp at hu
theorem sb_good (n : Nat) : ∀ ms ss d t w, (∀ u ∈ ms, u.isObj = true ∧ u.small = true) → 0 ≤ d → d + (t.depth : Int) ≤ 1048576 → t.isObj = true → Good (sb n ms ss d t w) := by
  induction n with
  | zero => intro ms ss d t w _ _ _ _; exact .inr ⟨by rw [sb]; simp, rfl⟩
  | succ n ih =>
    intro ms ss d t w hms h0 h1 ho
    rw [sb]
    split
    · exact .inr ⟨by simp, rfl⟩
    · split
      · rename_i hA
        cases t with
        | mk k nm i l =>
          simp only [kind_mk, name_mk, index_mk, args_mk, depth_mk] at *
          obtain ⟨g1, g2⟩ := obj_args ho
          refine sbN_good _ ?_ ms ss d k nm i l _ _ hms h0 (by omega) ho (sbA_length _ _ _ _ _ _ hA) ?_
          · intro u s b w hu hu' hb hd
            exact ih [u] [s] 0 b w (fun x hx => by obtain rfl : x = u := by simpa using hx
                                                   exact ⟨hu, hu'⟩) (by omega) (by omega) hb
          · refine sbA_good _ d k h0 d l (fun d' t w a b c => ?_) (Int.le_refl _) 0 (w + 1)
            have := depth_le_depths c
            exact ih ms ss d' t w hms a (by omega) (g1 t c)
      · rename_i hA
        exact .inr ⟨hA, rfl⟩
end Go.LF.Tm
namespace Go.LF.Tm
mutual
/-- The arguments of each variable are objects. -/
def vok : Tm → Prop
  | mk k _ _ l => (k = 5 → allObj l = true) ∧ vokA l
def vokA : List Tm → Prop
  | [] => True
  | t :: ts => vok t ∧ vokA ts
end
theorem vok_mk (k n i l) : vok (mk k n i l) ↔ (k = 5 → allObj l = true) ∧ vokA l := by rw [vok]
theorem vokA_iff (l : List Tm) : vokA l ↔ ∀ t ∈ l, vok t := by
  induction l with
  | nil => simp [vokA]
  | cons t ts ih => simp [vokA, ih]
theorem allObj_mem {l : List Tm} (h : allObj l = true) : ∀ t ∈ l, t.isObj = true := by rw [allObj_iff, List.all_eq_true] at h; exact h
theorem obj_all {k i : Int} {n : List UInt8} {l : List Tm} (h : (mk k n i l).isObj = true) : allObj l = true := by
  rw [isObj] at h
  split at h <;> (try split at h) <;> (try split at h) <;> (try split at h) <;> simp_all
theorem obj_vok (t : Tm) : t.isObj = true → t.vok := by
  induction t using ind with
  | h k n i l ih =>
    intro h
    have hA := obj_all h
    exact (vok_mk _ _ _ _).2 ⟨fun _ => hA, (vokA_iff l).2 fun t ht => ih t ht (allObj_mem hA t ht)⟩
theorem wts_le (c : Nat) (l : List Tm) (h : ∀ t ∈ l, t.wt ≤ c * t.size) : wts l ≤ c * sizes l := by
  induction l with
  | nil => simp [wts]
  | cons t ts ih =>
    have h1 := h t (by simp)
    have h2 := ih (fun u hu => h u (by simp [hu]))
    simp only [wts, sizes, Nat.mul_add]
    omega
theorem obj_wt (t : Tm) : t.isObj = true → t.wt ≤ 65 * t.size := by
  induction t using ind with
  | h k n i l ih =>
    intro h
    have hA := allObj_mem (obj_all h)
    have hl := wts_le 65 l (fun t ht => ih t ht (hA t ht))
    have hn : n.length ≤ 64 := by
      rw [isObj] at h
      have hb : bound n i l 1 = true → n.length ≤ 64 := by
        intro hb
        simp [bound] at hb
        rcases hb.2 with h | h
        · rcases h with h | h <;> simp [h]
        · exact isName_len n h
      split at h
      · simp at h; exact hb h.1
      · split at h
        · simp at h; exact isName_len n h.1.1
        · split at h
          · simp at h; simp [h.1.1.1]
          · split at h
            · simp at h; simp [h.1.1.1]
            · cases h
    simp only [wt_mk, size_mk, Nat.mul_add]
    omega
theorem small_wt {t : Tm} (h : t.isObj = true) (hs : t.small = true) : t.wt ≤ 300000 := by
  have h1 := obj_wt t h
  unfold small at hs
  simp at hs
  omega
theorem chk_small (t : Tm) (w : Nat) (h : (chk t w).e = 0) : (chk t w).t.small = true := by
  unfold chk at h ⊢
  split
  · rename_i hs; exact hs
  · rename_i hs; rw [if_neg hs] at h; simp at h
theorem apF_small (f : Tm → Sm → Tm → Nat → Res) (us : List Tm) : ∀ (m : Tm) (ss : List Sm) (w : Nat), (apF f m ss us w).e = 0 → (apF f m ss us w).t.small = true := by
  induction us with
  | nil =>
    intro m ss w h
    unfold apF at h ⊢
    split
    · rename_i hk; rw [if_pos hk] at h; simp at h
    · rename_i hk; rw [if_neg hk] at h; exact chk_small _ _ h
  | cons u us ih =>
    intro m ss w h
    cases ss with
    | nil => unfold apF at h; simp at h
    | cons s ss =>
      rw [apF] at h ⊢
      split
      · rename_i hk
        rw [if_pos hk] at h
        split
        · rename_i he
          rw [if_pos he] at h
          exact ih _ _ _ h
        · rename_i he
          rw [if_neg he] at h
          exact absurd h he
      · rename_i hk; rw [if_neg hk] at h; simp at h
theorem sbN_small (f : Tm → Sm → Tm → Nat → Res) (ms : List Tm) (ss : List Sm) (d k : Int) (nm : List UInt8) (i : Int) (us : List Tm) (w : Nat) (h : (sbN f ms ss d k nm i us w).e = 0) : (sbN f ms ss d k nm i us w).t.small = true := by
  revert h
  unfold sbN
  split
  · split
    · split
      · intro h; simp at h
      · unfold ap
        split
        · exact apF_small _ _ _ _ _
        · intro h; simp at h
    · exact chk_small _ _
  · exact chk_small _ _
theorem sb_small (n : Nat) (ms : List Tm) (ss : List Sm) (d : Int) (t : Tm) (w : Nat) (h : (sb n ms ss d t w).e = 0) : (sb n ms ss d t w).t.small = true := by
  cases n with
  | zero => rw [sb] at h; simp at h
  | succ n =>
    rw [sb] at h ⊢
    split
    · rename_i h1; rw [if_pos h1] at h; simp at h
    · rename_i h1
      rw [if_neg h1] at h
      split
      · rename_i h2
        rw [if_pos h2] at h
        exact sbN_small _ _ _ _ _ _ _ _ _ h
      · rename_i h2
        rw [if_neg h2] at h
        exact absurd h h2
theorem sbA_small (f : Int → Tm → Nat → Res) (hf : ∀ d t w, (f d t w).e = 0 → (f d t w).t.small = true) (d k : Int) (l : List Tm) : ∀ (j w : Nat), ∀ u ∈ (sbA f d k j l w).ts, u.small = true := by
  induction l with
  | nil => intro j w u hu; simp [sbA] at hu
  | cons t ts ih =>
    intro j w u hu
    rw [sbA] at hu
    split at hu
    · rename_i h1
      split at hu
      · rcases List.mem_cons.1 hu with rfl | hu
        · exact hf _ _ _ h1
        · exact ih _ _ u hu
      · simp at hu
    · simp at hu
theorem sizes_le_of (c : Nat) (l : List Tm) (h : ∀ t ∈ l, t.size ≤ c) : sizes l ≤ c * l.length := by
  induction l with
  | nil => simp [sizes]
  | cons t ts ih =>
    have h1 := h t (by simp)
    have h2 := ih (fun u hu => h u (by simp [hu]))
    simp only [sizes, List.length_cons, Nat.mul_add, Nat.mul_one]
    omega
theorem small_size {t : Tm} (h : t.small = true) : t.size ≤ 4096 := by
  unfold small at h
  simp at h
  omega
end Go.LF.Tm
namespace Go.Proofs.YtdomloghcpfdjaaGreatDoor
open Go.RowKit Go.LF
theorem flatW (wd : Nat) : ∀ (css : List (List Value)), (∀ cs ∈ css, cs.length = wd) → css.flatten.length = css.length * wd ∧ ∀ i (h : i < css.length) m v, css[i][m]? = some v → css.flatten[i * wd + m]? = some v
  | [], _ => ⟨by simp, fun i h => by simp at h⟩
  | c :: css, hl => by
    obtain ⟨h1, h2⟩ := flatW wd css (fun cs hc => hl cs (by simp [hc]))
    have hc := hl c (by simp)
    refine ⟨by simp [h1, hc, Nat.add_mul]; omega, fun i h m v hv => ?_⟩
    cases i with
    | zero =>
      simp only [List.getElem_cons_zero] at hv
      have hm : m < c.length := (List.getElem?_eq_some_iff.1 hv).1
      simp only [List.flatten_cons, Nat.zero_mul, Nat.zero_add]
      rw [List.getElem?_append_left hm]
      exact hv
    | succ i =>
      simp only [List.getElem_cons_succ] at hv
      simp only [List.flatten_cons]
      have e : (i + 1) * wd = i * wd + wd := by rw [Nat.add_mul, Nat.one_mul]
      rw [List.getElem?_append_right (by rw [hc, e]; omega), hc, e, show i * wd + wd + m - wd = i * wd + m by omega]
      exact h2 i (by simpa using h) m v hv
/-- The value v is a row of its own, from base on, with these elements; all that they hold lies in other blocks, outside O. -/
def RowD (T : TypeId) (wd : Nat) (O : Nat → Prop) (base : Nat) (W : World) (v : Value) (ds : List Dat) (css : List (List Value)) : Prop :=
  css.length = ds.length ∧ (∀ cs ∈ css, cs.length = wd) ∧ W.ownsRow base T wd v ds.length css.flatten ∧
    ∀ i (h : i < ds.length) (h' : i < css.length), Rep (fun b => O b ∨ v.ownBlock = some b) W ds[i] css[i]
section
variable {T : TypeId} {wd : Nat} {O : Nat → Prop} {base : Nat} {W W' : World} {v : Value} {ds : List Dat} {css : List (List Value)}
theorem RowD.nil (T : TypeId) (wd : Nat) (O : Nat → Prop) (base : Nat) (W : World) : RowD T wd O base W (.slice none 0 0) [] [] := ⟨rfl, by simp, World.ownsRow_nil _ _ _ _, fun i h => by simp at h⟩
theorem RowD.keep {S : Nat → Prop} (h : RowD T wd O base W v ds css) (hU : Upto S W W') (hS : ∀ b, S b → O b) (hO : ∀ b, O b → b < base) : RowD T wd O base W' v ds css := by
  obtain ⟨h1, h2, h3, h4⟩ := h
  refine ⟨h1, h2, ⟨h3.1, ?_⟩, fun i h h' => Rep.keep hU (fun b hb => .inl (hS b hb)) _ _ (h4 i h h')⟩
  rcases h3.2 with h5 | ⟨g, cap, cur, rfl, hb, hg, rest⟩
  · exact .inl h5
  · exact .inr ⟨g, cap, cur, rfl, hb, (hU.block g (Array.getElem?_eq_some_iff.1 hg).1 (fun e => by have := hO g (hS g e); omega)).trans hg, rest⟩
theorem RowD.on (h : RowD T wd O base W v ds css) (hU : Upto none' W W') (hO : ∀ b, O b → b < base) : RowD T wd O base W' v ds css := h.keep hU (fun _ x => x.elim) hO
/-- Each cell of such a row. -/
theorem RowD.cells (h : RowD T wd O base W v ds css) : ∃ a cap, v = .slice a ds.length cap ∧ ds.length ≤ cap ∧
    ∀ i (hi : i < ds.length) (hi' : i < css.length), ∃ g, a = some ⟨g, 0, none⟩ ∧ v.ownBlock = some g ∧ base ≤ g ∧ g < W.heap.size ∧ (∀ o, W.frozen? ⟨g, o, none⟩ = false) ∧ ∀ m u, css[i][m]? = some u → W.cell? ⟨g, i * wd + m, none⟩ = some u := by
  obtain ⟨h1, h2, h3, h4⟩ := h
  rcases h3.2 with ⟨rfl, h0⟩ | ⟨g, cap, cur, rfl, hb, hg, hnc, _⟩
  · exact ⟨none, 0, by rw [h0], by omega, fun i hi => by omega⟩
  · refine ⟨_, cap, rfl, hnc, fun i hi hi' => ⟨g, rfl, rfl, hb, (Array.getElem?_eq_some_iff.1 hg).1, fun o => by simp [World.frozen?, hg], fun m u hu => ?_⟩⟩
    have := h3.cells (g := g) rfl _ u ((flatW wd css h2).2 i hi' m u hu)
    have hadd : (⟨g, 0, none⟩ : Addr).add (i * wd + m) = ⟨g, i * wd + m, none⟩ := by unfold Addr.add; split <;> simp_all
    rwa [hadd] at this
theorem RowD.rep (h : RowD T wd O base W v ds css) (hO : ∀ b, O b → b < base) : ∃ a cap, v = .slice a ds.length cap ∧ ds.length ≤ cap ∧ RepE O W wd ds a 0 := by
  obtain ⟨a, cap, hv, hcap, hc⟩ := h.cells
  refine ⟨a, cap, hv, hcap, repE_of _ _ _ (fun i hi => ?_)⟩
  have hi' : i < css.length := by have := h.1; omega
  obtain ⟨g, rfl, hown, hb, hlt, _, hg⟩ := hc i hi hi'
  refine ⟨g, 0, css[i], rfl, hlt, fun e => by have := hO g e; omega, h.2.1 _ (List.getElem_mem hi'), fun m u hu => ?_, Rep.weaken (fun b _ e => .inl e) _ _ (h.2.2.2 i hi hi')⟩
  rw [show 0 + 0 + i * wd + m = i * wd + m by omega]
  exact hg m u hu
/-- One element more. -/
theorem RowD.appended {d : Dat} {cs : List Value} {g cap H : Nat} (h : RowD T wd O base W v ds css) (hcs : cs.length = wd)
    (hr : Rep (fun b => O b ∨ v.ownBlock = some b) W d cs) (hown : W'.ownsRow base T wd (.slice (some ⟨g, 0, none⟩) (ds.length + 1) cap) (ds.length + 1) (css.flatten ++ cs)) (hg : W.grownBy W' v.ownBlock)
    (hat : v.ownBlock = some g ∨ g = H) (hH : W.heap.size ≤ H) : RowD T wd O base W' (.slice (some ⟨g, 0, none⟩) (ds.length + 1) cap) (ds ++ [d]) (css ++ [cs]) := by
  obtain ⟨h1, h2, h3, h4⟩ := h
  have hcel : Cel (fun b => (O b ∨ v.ownBlock = some b) ∨ W.heap.size ≤ b) W W' := by
    refine ⟨hg.size, fun b o u hb hu => hg.cell hu (fun e => hb (.inl (.inr ?_)))⟩
    exact e.symm
  have key : ∀ (d : Dat) (cs : List Value), Rep (fun b => O b ∨ v.ownBlock = some b) W d cs → Rep (fun b => O b ∨ (Value.slice (some ⟨g, 0, none⟩) (ds.length + 1) cap).ownBlock = some b) W' d cs := by
    intro d cs h
    refine Rep.weaken (fun b _ e => ?_) _ _ (Rep.carry hcel _ _ (Rep.freshO h))
    rcases e with e | e
    · exact .inl (.inl e)
    · simp only [Value.ownBlock, Option.some.injEq] at e
      subst e
      rcases hat with hat | rfl
      · exact .inl (.inr hat)
      · exact .inr hH
  refine ⟨by simp [h1], ?_, by simpa using hown, fun i hi hi' => ?_⟩
  · intro c hc
    rcases List.mem_append.1 hc with hc | hc
    · exact h2 c hc
    · obtain rfl : c = cs := by simpa using hc
      exact hcs
  · by_cases hlt : i < ds.length
    · have hlt' : i < css.length := by omega
      rw [List.getElem_append_left hlt, List.getElem_append_left hlt']
      exact key _ _ (h4 i hlt hlt')
    · have e1 : i = ds.length := by simp at hi; omega
      subst e1
      rw [List.getElem_append_right (Nat.le_refl _), List.getElem_append_right (by omega)]
      simp only [h1, Nat.sub_self, List.getElem_cons_zero]
      exact key _ _ hr
theorem Box4.rowD {g : Nat} {c0 c1 c2 c3 : Value} {T' : TypeId} (h : Box4 W g c0 c1 c2 c3 T') (hg : W.grownBy W' v.ownBlock) (ht : RowD T wd O base W v ds css) (hb : g < base) : Box4 W' g c0 c1 c2 c3 T' :=
  (hg.block g h.lt (fun e => by have := (ht.2.2.1.lt g e.symm).1; omega)).trans h
theorem Box2.rowD {g : Nat} {c0 c1 : Value} {T' : TypeId} (h : Box2 W g c0 c1 T') (hg : W.grownBy W' v.ownBlock) (ht : RowD T wd O base W v ds css) (hb : g < base) : Box2 W' g c0 c1 T' :=
  (hg.block g h.lt (fun e => by have := (ht.2.2.1.lt g e.symm).1; omega)).trans h
theorem RowD.upto (h : RowD T wd O base W v ds css) (hg : W.grownBy W' v.ownBlock) : Upto (fun k => base ≤ k) W W' := Upto.ofRow (RowUp.grown h.2.2.1 hg)
end
end Go.Proofs.YtdomloghcpfdjaaGreatDoor
namespace Go.Proofs.YtdomloghcpfdjaaGreatDoor
open Go.RowKit Go.LF
/-- A box with six cells. -/
def Box6 (W : World) (g : Nat) (c0 c1 c2 c3 c4 c5 : Value) (T : TypeId) : Prop := W.heap[g]? = some (.cells #[c0, c1, c2, c3, c4, c5] T (0, 0))
section
variable {W W' : World} {g b : Nat} {c0 c1 c2 c3 c4 c5 : Value} {T : TypeId} {S : Nat → Prop}
theorem Box6.at_new (hb : W.heap.size = b) : Box6 (W.alloc (.cells #[c0, c1, c2, c3, c4, c5] T)) b c0 c1 c2 c3 c4 c5 T := by subst hb; exact heap_alloc_new W _
theorem Box6.lt (h : Box6 W g c0 c1 c2 c3 c4 c5 T) : g < W.heap.size := (Array.getElem?_eq_some_iff.1 h).1
theorem Box6.cells (h : Box6 W g c0 c1 c2 c3 c4 c5 T) : W.cell? ⟨g, 0, none⟩ = some c0 ∧ W.cell? ⟨g, 1, none⟩ = some c1 ∧ W.cell? ⟨g, 2, none⟩ = some c2 ∧ W.cell? ⟨g, 3, none⟩ = some c3 ∧ W.cell? ⟨g, 4, none⟩ = some c4 ∧ W.cell? ⟨g, 5, none⟩ = some c5 := by unfold Box6 at h; refine ⟨?_, ?_, ?_, ?_, ?_, ?_⟩ <;> simp [World.cell?, h]
theorem Box6.frozens (h : Box6 W g c0 c1 c2 c3 c4 c5 T) : W.frozen? ⟨g, 0, none⟩ = false ∧ W.frozen? ⟨g, 1, none⟩ = false ∧ W.frozen? ⟨g, 2, none⟩ = false ∧ W.frozen? ⟨g, 3, none⟩ = false ∧ W.frozen? ⟨g, 4, none⟩ = false ∧ W.frozen? ⟨g, 5, none⟩ = false := by unfold Box6 at h; refine ⟨?_, ?_, ?_, ?_, ?_, ?_⟩ <;> simp [World.frozen?, h]
theorem Box6.keep (h : Box6 W g c0 c1 c2 c3 c4 c5 T) (hU : Upto S W W') (hS : ¬ S g) : Box6 W' g c0 c1 c2 c3 c4 c5 T := (hU.block g h.lt hS).trans h
theorem Box6.kept (h : Box6 W g c0 c1 c2 c3 c4 c5 T) (hU : Upto none' W W') : Box6 W' g c0 c1 c2 c3 c4 c5 T := h.keep hU (fun x => x)
theorem Box6.set0 (h : Box6 W g c0 c1 c2 c3 c4 c5 T) (v : Value) : Box6 (W.setCell ⟨g, 0, none⟩ v) g v c1 c2 c3 c4 c5 T := by
  obtain ⟨hlt, hk⟩ := Array.getElem?_eq_some_iff.1 h
  show (W.heap.modify g _)[g]? = _
  rw [Array.getElem?_eq_getElem (by rw [Array.size_modify]; exact hlt), Array.getElem_modify_self, hk]
  rfl
theorem Box6.set1 (h : Box6 W g c0 c1 c2 c3 c4 c5 T) (v : Value) : Box6 (W.setCell ⟨g, 1, none⟩ v) g c0 v c2 c3 c4 c5 T := by
  obtain ⟨hlt, hk⟩ := Array.getElem?_eq_some_iff.1 h
  show (W.heap.modify g _)[g]? = _
  rw [Array.getElem?_eq_getElem (by rw [Array.size_modify]; exact hlt), Array.getElem_modify_self, hk]
  rfl
theorem Box6.set2 (h : Box6 W g c0 c1 c2 c3 c4 c5 T) (v : Value) : Box6 (W.setCell ⟨g, 2, none⟩ v) g c0 c1 v c3 c4 c5 T := by
  obtain ⟨hlt, hk⟩ := Array.getElem?_eq_some_iff.1 h
  show (W.heap.modify g _)[g]? = _
  rw [Array.getElem?_eq_getElem (by rw [Array.size_modify]; exact hlt), Array.getElem_modify_self, hk]
  rfl
theorem Box6.set3 (h : Box6 W g c0 c1 c2 c3 c4 c5 T) (v : Value) : Box6 (W.setCell ⟨g, 3, none⟩ v) g c0 c1 c2 v c4 c5 T := by
  obtain ⟨hlt, hk⟩ := Array.getElem?_eq_some_iff.1 h
  show (W.heap.modify g _)[g]? = _
  rw [Array.getElem?_eq_getElem (by rw [Array.size_modify]; exact hlt), Array.getElem_modify_self, hk]
  rfl
theorem Box6.set4 (h : Box6 W g c0 c1 c2 c3 c4 c5 T) (v : Value) : Box6 (W.setCell ⟨g, 4, none⟩ v) g c0 c1 c2 c3 v c5 T := by
  obtain ⟨hlt, hk⟩ := Array.getElem?_eq_some_iff.1 h
  show (W.heap.modify g _)[g]? = _
  rw [Array.getElem?_eq_getElem (by rw [Array.size_modify]; exact hlt), Array.getElem_modify_self, hk]
  rfl
theorem Box6.set5 (h : Box6 W g c0 c1 c2 c3 c4 c5 T) (v : Value) : Box6 (W.setCell ⟨g, 5, none⟩ v) g c0 c1 c2 c3 c4 v T := by
  obtain ⟨hlt, hk⟩ := Array.getElem?_eq_some_iff.1 h
  show (W.heap.modify g _)[g]? = _
  rw [Array.getElem?_eq_getElem (by rw [Array.size_modify]; exact hlt), Array.getElem_modify_self, hk]
  rfl
theorem Box6.set {d0 d1 d2 d3 d4 d5 : Value} (h : Box6 W g c0 c1 c2 c3 c4 c5 T) : Box6 ((((((W.setCell ⟨g, 0, none⟩ d0).setCell ⟨g, 1, none⟩ d1).setCell ⟨g, 2, none⟩ d2).setCell ⟨g, 3, none⟩ d3).setCell ⟨g, 4, none⟩ d4).setCell ⟨g, 5, none⟩ d5) g d0 d1 d2 d3 d4 d5 T ∧ Upto (fun x => x = g) W ((((((W.setCell ⟨g, 0, none⟩ d0).setCell ⟨g, 1, none⟩ d1).setCell ⟨g, 2, none⟩ d2).setCell ⟨g, 3, none⟩ d3).setCell ⟨g, 4, none⟩ d4).setCell ⟨g, 5, none⟩ d5) :=
  ⟨((((((h.set0 _).set1 _).set2 _).set3 _).set4 _).set5 _), Upto.set (Upto.set (Upto.set (Upto.set (Upto.set (Upto.set (Upto.refl _ W) 0 _) 1 _) 2 _) 3 _) 4 _) 5 _⟩
theorem Box6.rowD {T' : TypeId} {wd : Nat} {O : Nat → Prop} {base : Nat} {v : Value} {ds : List Dat} {css : List (List Value)} (h : Box6 W g c0 c1 c2 c3 c4 c5 T) (hg : W.grownBy W' v.ownBlock) (ht : RowD T' wd O base W v ds css) (hb : g < base) : Box6 W' g c0 c1 c2 c3 c4 c5 T :=
  (hg.block g h.lt (fun e => by have := (ht.2.2.1.lt g e.symm).1; omega)).trans h
end
/-- A result with its size and its depth, as data. -/
def mdat (t : Tm) : Dat := .st [t.dat, .int .i64 t.size, .int .i64 t.depth]
theorem rep_mdat {O : Nat → Prop} {W : World} {t : Tm} {c0 c1 c2 c3 c4 c5 : Value} : Rep O W (mdat t) [c0, c1, c2, c3, c4, c5] ↔ Rep O W t.dat [c0, c1, c2, c3] ∧ c4 = .int .i64 t.size ∧ c5 = .int .i64 t.depth := by
  constructor
  · intro h
    simp only [mdat, Rep, RepF] at h
    obtain ⟨x, y, e1, h1, z, u, e2, h2, v, q, e3, h3, h4⟩ := h
    obtain ⟨k, n, i, ts, a, cap, _, hx, _⟩ := tm_open h1
    subst hx h2 h3 h4
    subst e2 e3
    simp at e1
    obtain ⟨r0, r1, r2, r3, r4, r5⟩ := e1
    subst r0 r1 r2 r3 r4 r5
    exact ⟨h1, rfl, rfl⟩
  · rintro ⟨h, rfl, rfl⟩
    simp only [mdat, Rep, RepF]
    exact ⟨_, [.int .i64 t.size, .int .i64 t.depth], rfl, h, [_], [_], rfl, rfl, [_], [], rfl, rfl, rfl⟩
/-- The cells of such a result. -/
theorem mdat_open {O : Nat → Prop} {W : World} {t : Tm} {cs : List Value} (h : Rep O W (mdat t) cs) : ∃ k n i a cap, cs = [.int .i64 k, .string (B n), .int .i64 i, .slice a t.args.length cap, .int .i64 t.size, .int .i64 t.depth] ∧ Rep O W t.dat [.int .i64 k, .string (B n), .int .i64 i, .slice a t.args.length cap] := by
  have h' := h
  simp only [mdat, Rep, RepF] at h'
  obtain ⟨x, y, e1, h1, z, u, e2, h2, v, q, e3, h3, h4⟩ := h'
  obtain ⟨k, n, i, ts, a, cap, ht, hx, _⟩ := tm_open h1
  subst hx h2 h3 h4
  subst e2 e3
  have hl : t.args.length = ts.length := by rw [ht]; rfl
  rw [hl]
  exact ⟨k, n, i, a, cap, by rw [e1]; rfl, h1⟩
/-- An element of a row of results. -/
theorem arg_made {O : Nat → Prop} {w : World} {us : List Tm} {a : Option Addr} (h : RepE O w 6 (us.map mdat) a 0) (j : Nat) (hj : j < us.length) :
    ∃ b o k n i s c, a = some ⟨b, o, none⟩ ∧ b < w.heap.size ∧ ¬ O b ∧ w.cell? ⟨b, o + j * 6, none⟩ = some (.int .i64 k) ∧ w.cell? ⟨b, o + j * 6 + 1, none⟩ = some (.string (B n)) ∧ w.cell? ⟨b, o + j * 6 + 2, none⟩ = some (.int .i64 i) ∧
      w.cell? ⟨b, o + j * 6 + 3, none⟩ = some (.slice s us[j].args.length c) ∧ w.cell? ⟨b, o + j * 6 + 4, none⟩ = some (.int .i64 us[j].size) ∧ w.cell? ⟨b, o + j * 6 + 5, none⟩ = some (.int .i64 us[j].depth) ∧ Rep O w us[j].dat [.int .i64 k, .string (B n), .int .i64 i, .slice s us[j].args.length c] := by
  obtain ⟨b, o, cs, h1, hb, h2, h3, h4, h5⟩ := h.get j (by simpa using hj)
  rw [List.getElem_map] at h5
  obtain ⟨k, n, i, s, c, rfl, hr⟩ := mdat_open h5
  refine ⟨b, o, k, n, i, s, c, h1, hb, h2, ?_, ?_, ?_, ?_, ?_, ?_, hr⟩
  · have := h4 0 _ rfl; simpa using this
  · have := h4 1 _ rfl; simpa using this
  · have := h4 2 _ rfl; simpa using this
  · have := h4 3 _ rfl; simpa using this
  · have := h4 4 _ rfl; simpa using this
  · have := h4 5 _ rfl; simpa using this
/-- A call leaves by panic with this error. -/
def perr (e : Int) : Ending := .panicked [{ v := .iface 36 (.int .i64 e), recovered := false }]
/-- What a step of a substitution hands back. -/
def OfR (O : Nat → Prop) (r : Tm.Res) (e : Ending) (w' : World) : Prop :=
  (r.e = 0 ∧ ∃ k n i a len cap, e = .returned (.agg #[.int .i64 k, .string (B n), .int .i64 i, .slice a len cap, .int .i64 r.t.size, .int .i64 r.t.depth]) ∧ Rep O w' r.t.dat [.int .i64 k, .string (B n), .int .i64 i, .slice a len cap]) ∨ (r.e ≠ 0 ∧ e = perr r.e)
set_option maxRecDepth 100000 in
set_option maxHeartbeats 4000000 in
theorem checked_any (k i sz dp : Int) (n : List UInt8) (a : Option Addr) (len cap : Nat) (w : World) :
    Calls Tryz.prog 208 #[.agg #[.int .i64 k, .string (B n), .int .i64 i, .slice a len cap, .int .i64 sz, .int .i64 dp]] w fun e w' =>
      e = (if 4096 < sz ∨ 128 < dp then perr 2 else .returned (.agg #[.int .i64 k, .string (B n), .int .i64 i, .slice a len cap, .int .i64 sz, .int .i64 dp])) ∧ Upto none' w w' := by
  have hU : ∀ o o' : Obj, Upto none' w ((w.alloc o).alloc o') := fun o o' => ((Upto.refl none' w).alloc o).alloc o'
  by_cases h1 : 4096 < sz
  · rw [if_pos (.inl h1)]
    go_enter Tryz.func208, Tryz.ntmps208
    go_wp2_with fail
    exact ⟨rfl, rfl, hU _ _⟩
  · by_cases h2 : 128 < dp
    · rw [if_pos (.inr h2)]
      go_enter Tryz.func208, Tryz.ntmps208
      go_wp2_with fail
      exact ⟨rfl, rfl, hU _ _⟩
    · have h3 : ¬ (4096 < sz ∨ 128 < dp) := fun h => h.elim h1 h2
      rw [if_neg h3]
      obtain ⟨w1, hw1⟩ : ∃ w1, w1 = (w.alloc (.cells #[.int .i64 k, .string (B n), .int .i64 i, .slice a len cap, .int .i64 sz, .int .i64 dp] 92)).alloc (.cells #[.int .i64 0, .string (B []), .int .i64 0, .slice none 0 0, .int .i64 0, .int .i64 0] 92) := ⟨_, rfl⟩
      have hU1 : Upto none' w w1 := by rw [hw1]; exact hU _ _
      have hb1 : Box6 w1 w.heap.size (.int .i64 k) (.string (B n)) (.int .i64 i) (.slice a len cap) (.int .i64 sz) (.int .i64 dp) 92 := by rw [hw1]; exact (Box6.at_new rfl).kept ((Upto.refl none' _).alloc _)
      have hr1 : Box6 w1 (w.heap.size + 1) (.int .i64 0) (.string (B [])) (.int .i64 0) (.slice none 0 0) (.int .i64 0) (.int .i64 0) 92 := by rw [hw1]; exact Box6.at_new (by simp)
      have HW := hid hw1
      clear hw1 h3
      obtain ⟨x0, x1, x2, x3, x4, x5⟩ := hb1.cells
      obtain ⟨y0, y1, y2, y3, y4, y5⟩ := hr1.cells
      obtain ⟨z0, z1, z2, z3, z4, z5⟩ := hr1.frozens
      have hset := hr1.set (d0 := .int .i64 k) (d1 := .string (B n)) (d2 := .int .i64 i) (d3 := .slice a len cap) (d4 := .int .i64 sz) (d5 := .int .i64 dp)
      obtain ⟨e0, e1, e2, e3, e4, e5⟩ := hset.1.cells
      have HE := hid (And.intro e0 (And.intro e1 (And.intro e2 (And.intro e3 (And.intro e4 (And.intro e5 hset.2))))))
      have hlt := hr1.lt
      clear e0 e1 e2 e3 e4 e5 hset
      go_enter Tryz.func208, Tryz.ntmps208
      go_upto_region 1 with fail
      rw [← show B [] = { data := #[] } from rfl, ← HW.out]
      go_wp2_with fail
      obtain ⟨e0, e1, e2, e3, e4, e5, hset⟩ := HE.out
      refine bodyPost_ret (v := .agg #[.int .i64 k, .string (B n), .int .i64 i, .slice a len cap, .int .i64 sz, .int .i64 dp]) ?_ rfl ?_
      · simp [results, Tryz.f208, go_sem, e0, e1, e2, e3, e4, e5]
      · exact ⟨rfl, hU1.trans hset (fun b hb e => by omega)⟩
end Go.Proofs.YtdomloghcpfdjaaGreatDoor
