/- A property of all nodes that a substitution keeps: variables may have any index. No program is in sight here. -/
import Derived.Test.YtdomloghcpfdjaaGreatDoorRCH
import Derived.Test.YtdomloghcpfdjaaGreatDoorRDC
import Derived.Test.YtdomloghcpfdjaaGreatDoorREA
import Derived.Test.YtdomloghcpfdjaaGreatDoorRFA
import Derived.Test.YtdomloghcpfdjaaGreatDoorRSC
namespace Go.LF.Tm
mutual
/-- All nodes of a term are such. -/
def nal (N : Int → List UInt8 → Int → Nat → Prop) : Tm → Prop
  | mk k n i l => N k n i l.length ∧ nalA N l
def nalA (N : Int → List UInt8 → Int → Nat → Prop) : List Tm → Prop
  | [] => True
  | t :: ts => nal N t ∧ nalA N ts
end
section
variable {N : Int → List UInt8 → Int → Nat → Prop}
theorem nal_mk (k n i l) : nal N (mk k n i l) ↔ N k n i l.length ∧ nalA N l := by rw [nal]
theorem nalA_iff (l : List Tm) : nalA N l ↔ ∀ t ∈ l, nal N t := by
  induction l with
  | nil => simp [nalA]
  | cons t ts ih => simp [nalA, ih]
theorem nalA_nil : nalA N [] := by rw [nalA]; trivial
theorem nal_imp {M : Int → List UInt8 → Int → Nat → Prop} (hNM : ∀ k n i z, N k n i z → M k n i z) (t : Tm) : nal N t → nal M t := by
  induction t using ind with
  | h k n i l ih =>
    intro h
    rw [nal_mk, nalA_iff] at h ⊢
    exact ⟨hNM _ _ _ _ h.1, fun u hu => ih u hu (h.2 u hu)⟩
theorem nal_nodes {M : Int → List UInt8 → Int → Prop} (t : Tm) : ∀ b, nal (fun k n i _ => M k n i) t ↔ ∀ x ∈ nodes b t, M x.k x.n x.i := by
  induction t using ind with
  | h k n i l ih =>
    intro b
    have key : ∀ (l' : List Tm), (∀ t ∈ l', t ∈ l) → ∀ j, nalA (fun k n i _ => M k n i) l' ↔ ∀ x ∈ nodesA b k j l', M x.k x.n x.i := by
      intro l'
      induction l' with
      | nil => intro _ j; simp [nalA, nodesA]
      | cons t ts ih2 =>
        intro hm j
        rw [nalA, nodesA, ih t (hm t (by simp)) (b + under k j), ih2 (fun t ht => hm t (by simp [ht])) (j + 1)]
        simp only [List.mem_append]
        exact ⟨fun h x hx => hx.elim (h.1 x) (h.2 x), fun h => ⟨fun x hx => h x (.inl hx), fun x hx => h x (.inr hx)⟩⟩
    rw [nal_mk, nodes_mk, key l (fun _ h => h) 0]
    simp
theorem nal_size {c : Nat} (t : Tm) : t.size ≤ c → nal (fun _ _ _ z => z ≤ c) t := by
  induction t using ind with
  | h k n i l ih =>
    intro h
    rw [size_mk] at h
    have := length_le_sizes l
    rw [nal_mk, nalA_iff]
    exact ⟨by omega, fun u hu => ih u hu (by have := size_le_sizes hu; omega)⟩
variable (hv : ∀ n i i' z, N 5 n i z → N 5 n i' z) (h0 : N 0 [] 0 0)
include h0 in
theorem nal_none0 : nal N none0 := (nal_mk _ _ _ _).2 ⟨h0, nalA_nil⟩
include hv in
theorem nal_mv (f : To) (t : Tm) : ∀ b, nal N t → nal N (mv f b t) := by
  induction t using ind with
  | h k n i l ih =>
    intro b h
    rw [nal_mk] at h
    rw [mv_mk, nal_mk]
    refine ⟨?_, ?_⟩
    · by_cases hk : k = 5
      · subst hk; rw [mvA_length]; exact hv _ _ _ _ h.1
      · unfold mvi; rw [if_neg (fun e => hk e.1), mvA_length]; exact h.1
    have key : ∀ (l' : List Tm), (∀ t ∈ l', t ∈ l) → nalA N l' → ∀ j, nalA N (mvA f b k j l') := by
      intro l'
      induction l' with
      | nil => intro _ _ j; rw [mvA]; exact nalA_nil
      | cons t ts ih2 =>
        intro hm hn j
        rw [nalA] at hn
        rw [mvA, nalA]
        exact ⟨ih t (hm t (by simp)) _ hn.1, ih2 (fun t ht => hm t (by simp [ht])) hn.2 (j + 1)⟩
    exact key l (fun _ h => h) h.2 0
include h0 in
theorem chk_nal {t : Tm} {w : Nat} (h : nal N t) : nal N (chk t w).t := by
  unfold chk
  split
  · exact h
  · exact nal_none0 h0
theorem sbA_nal (f : Int → Tm → Nat → Res) (d k : Int) (l : List Tm) (hf : ∀ t ∈ l, ∀ d w, nal N (f d t w).t) : ∀ j w, nalA N (sbA f d k j l w).ts := by
  induction l with
  | nil => intro j w; rw [sbA]; exact nalA_nil
  | cons t ts ih =>
    intro j w
    rw [sbA]
    split
    · split
      · show nalA N (_ :: _)
        rw [nalA]
        exact ⟨hf t (by simp) _ _, ih (fun t ht => hf t (by simp [ht])) _ _⟩
      · exact nalA_nil
    · exact nalA_nil
include h0 in
theorem apF_nal (f : Tm → Sm → Tm → Nat → Res) (hf : ∀ u s b w, nal N u → nal N b → nal N (f u s b w).t) (us : List Tm) : ∀ (m : Tm) (ss : List Sm) (w : Nat), nal N m → nalA N us → nal N (apF f m ss us w).t := by
  induction us with
  | nil =>
    intro m ss w hm _
    unfold apF
    split
    · exact nal_none0 h0
    · exact chk_nal h0 hm
  | cons u us ih =>
    intro m ss w hm hu
    rw [nalA] at hu
    cases ss with
    | nil => unfold apF; exact nal_none0 h0
    | cons s ss =>
      rw [apF]
      have hb : nal N (m.args.headD none0) := by
        cases m with
        | mk k n i l =>
          rw [nal_mk] at hm
          cases l with
          | nil => exact nal_none0 h0
          | cons t ts =>
            have := hm.2
            rw [nalA] at this
            exact this.1
      have hf1 := hf u s _ w hu.1 hb
      split
      · split
        · exact ih _ _ _ hf1 hu.2
        · exact hf1
      · exact nal_none0 h0
include hv h0 in
theorem sbN_nal (f : Tm → Sm → Tm → Nat → Res) (hf : ∀ u s b w, nal N u → nal N b → nal N (f u s b w).t) (ms : List Tm) (ss : List Sm) (d k : Int) (nm : List UInt8) (i : Int) (us : List Tm) (w : Nat)
    (hms : nalA N ms) (hn : N k nm i us.length) (hu : nalA N us) : nal N (sbN f ms ss d k nm i us w).t := by
  unfold sbN
  split
  · rename_i hk
    split
    · rename_i hlt
      split
      · exact nal_none0 h0
      · unfold ap
        split
        · refine apF_nal h0 f hf us _ _ _ (nal_mv hv _ _ _ ?_) hu
          by_cases h : (i - d).toNat < ms.length
          · rw [List.getD, List.getElem?_eq_getElem h]
            exact (nalA_iff ms).1 hms _ (List.getElem_mem _)
          · rw [List.getD, List.getElem?_eq_none (by omega)]
            exact nal_none0 h0
        · exact nal_none0 h0
    · refine chk_nal h0 ((nal_mk _ _ _ _).2 ⟨?_, hu⟩)
      obtain ⟨rfl, _⟩ := hk
      exact hv _ _ _ _ hn
  · exact chk_nal h0 ((nal_mk _ _ _ _).2 ⟨hn, hu⟩)
include hv h0 in
theorem sb_nal (n : Nat) : ∀ ms ss d t w, nalA N ms → nal N t → nal N (sb n ms ss d t w).t := by
  induction n with
  | zero => intro ms ss d t w _ _; rw [sb]; exact nal_none0 h0
  | succ n ih =>
    intro ms ss d t w hms ht
    rw [sb]
    split
    · exact nal_none0 h0
    · split
      · rename_i hA
        cases t with
        | mk k nm i l =>
          simp only [kind_mk, name_mk, index_mk, args_mk] at *
          rw [nal_mk] at ht
          refine sbN_nal hv h0 _ (fun u s b w hu hb => ih [u] [s] 0 b w ?_ hb) ms ss d k nm i _ _ hms (by rw [sbA_length _ _ _ _ _ _ hA]; exact ht.1) ?_
          · rw [nalA]; exact ⟨hu, nalA_nil⟩
          · exact sbA_nal _ d k l (fun t ht' d w => ih ms ss d t w hms ((nalA_iff l).1 ht.2 t ht')) 0 (w + 1)
      · exact nal_none0 h0
include hv h0 in
theorem ap_nal (n : Nat) (m : Tm) (ss : List Sm) (us : List Tm) (w : Nat) (hm : nal N m) (hu : nalA N us) : nal N (ap (fun u s b w' => sb n [u] [s] 0 b w') m ss us w).t := by
  unfold ap
  split
  · exact apF_nal h0 _ (fun u s b w h1 h2 => sb_nal hv h0 n [u] [s] 0 b w (by rw [nalA]; exact ⟨h1, nalA_nil⟩) h2) us m ss w hm hu
  · exact nal_none0 h0
end
end Go.LF.Tm
namespace Go.LF
open Tm
mutual
/-- The expansion of a term; g: what becomes of a node whose arguments are done. The counter goes along. -/
def exT (g : Int → Int → List Tm → Nat → Option Res) : Tm → Nat → Res
  | mk k n i l, c => if (exL g l c).e = 0 then ((g k i (exL g l c).ts (exL g l c).w).getD (chk (mk k n i (exL g l c).ts) (exL g l c).w)) else ⟨(exL g l c).e, none0, (exL g l c).w⟩
def exL (g : Int → Int → List Tm → Nat → Option Res) : List Tm → Nat → ResA
  | [], c => ⟨0, [], c⟩
  | t :: ts, c =>
    if (exT g t c).e = 0 then
      (if (exL g ts (exT g t c).w).e = 0 then ⟨0, (exT g t c).t :: (exL g ts (exT g t c).w).ts, (exL g ts (exT g t c).w).w⟩
        else ⟨(exL g ts (exT g t c).w).e, [], (exL g ts (exT g t c).w).w⟩)
    else ⟨(exT g t c).e, [], (exT g t c).w⟩
end
theorem exT_mk (g k n i l c) : exT g (mk k n i l) c = if (exL g l c).e = 0 then ((g k i (exL g l c).ts (exL g l c).w).getD (chk (mk k n i (exL g l c).ts) (exL g l c).w)) else ⟨(exL g l c).e, none0, (exL g l c).w⟩ := by rw [exT]
theorem exL_sbA (g : Int → Int → List Tm → Nat → Option Res) (l : List Tm) : ∀ (j c : Nat), exL g l c = sbA (fun _ t c => exT g t c) 0 0 j l c := by
  induction l with
  | nil => intro j c; rw [exL, sbA]
  | cons t ts ih => intro j c; rw [exL, sbA, ih (j + 1)]
theorem exL_take_succ (g : Int → Int → List Tm → Nat → Option Res) (l : List Tm) (c j : Nat) (h : j < l.length) (h0 : (exL g (l.take j) c).e = 0) : exL g (l.take (j + 1)) c =
    if (exT g l[j] (exL g (l.take j) c).w).e = 0 then ⟨0, (exL g (l.take j) c).ts ++ [(exT g l[j] (exL g (l.take j) c).w).t], (exT g l[j] (exL g (l.take j) c).w).w⟩
    else ⟨(exT g l[j] (exL g (l.take j) c).w).e, [], (exT g l[j] (exL g (l.take j) c).w).w⟩ := by
  rw [exL_sbA g _ 0, exL_sbA g _ 0] at *
  rw [sbA_take_succ _ _ _ _ _ _ h h0]
theorem exL_stop (g : Int → Int → List Tm → Nat → Option Res) (l : List Tm) (c j : Nat) (h0 : (exL g (l.take j) c).e ≠ 0) : exL g l c = exL g (l.take j) c := by
  rw [exL_sbA g _ 0, exL_sbA g _ 0] at *
  exact sbA_stop _ _ _ _ _ _ h0
theorem exL_length (g : Int → Int → List Tm → Nat → Option Res) (l : List Tm) (c : Nat) (h : (exL g l c).e = 0) : (exL g l c).ts.length = l.length := by
  rw [exL_sbA g _ 0] at *; exact sbA_length _ _ _ _ _ _ h
theorem exL_nil (g : Int → Int → List Tm → Nat → Option Res) (c : Nat) : exL g [] c = ⟨0, [], c⟩ := by rw [exL]
theorem exL_cons (g : Int → Int → List Tm → Nat → Option Res) (t : Tm) (ts : List Tm) (c : Nat) : exL g (t :: ts) c = if (exT g t c).e = 0 then
      (if (exL g ts (exT g t c).w).e = 0 then ⟨0, (exT g t c).t :: (exL g ts (exT g t c).w).ts, (exL g ts (exT g t c).w).w⟩
        else ⟨(exL g ts (exT g t c).w).e, [], (exL g ts (exT g t c).w).w⟩)
    else ⟨(exT g t c).e, [], (exT g t c).w⟩ := by rw [exL]
/-- The solved metavariable of a node. -/
def slv (l : List Mv) (k i : Int) : Option Mv := if k = 6 ∧ 0 ≤ i then (match l[i.toNat]? with | some m => if m.value = [] then none else some m | none => none) else none
theorem slv_some {l : List Mv} {k i : Int} {m : Mv} (h : slv l k i = some m) : k = 6 ∧ 0 ≤ i ∧ i < l.length ∧ l[i.toNat]? = some m ∧ m ∈ l ∧ m.value ≠ [] := by
  unfold slv at h
  split at h
  · rename_i hk
    split at h
    · rename_i m' hm
      split at h
      · cases h
      · rename_i hv
        cases h
        obtain ⟨h1, h2⟩ := List.getElem?_eq_some_iff.1 hm
        exact ⟨hk.1, hk.2, by omega, hm, h2 ▸ List.getElem_mem _, hv⟩
    · cases h
  · cases h
/-- A solved metavariable is replaced by its value, which is expanded in turn. -/
def exG (l : List Mv) (f : Tm → Nat → Res) (k i : Int) (us : List Tm) (c : Nat) : Option Res :=
  (slv l k i).map fun m => if 16384 < c + 1 then ⟨2, none0, c + 1⟩ else
    if appE (m.value.headD none0) (er m.type) us ≠ 0 then ⟨appE (m.value.headD none0) (er m.type) us, none0, c + 1⟩ else f (appT (m.value.headD none0) (er m.type) us) (c + 1)
def exF (l : List Mv) : Nat → Tm → Nat → Res
  | 0 => fun _ c => ⟨2, none0, c + 1⟩
  | n + 1 => exT (exG l (exF l n))
theorem exF_succ (l : List Mv) (n : Nat) : exF l (n + 1) = exT (exG l (exF l n)) := by rw [exF]
/-- What replaces a metavariable. -/
def exR (l : List Mv) (n : Nat) (m : Mv) (us : List Tm) (c : Nat) : Res := if 16384 < c + 1 then ⟨2, none0, c + 1⟩ else
    if appE (m.value.headD none0) (er m.type) us ≠ 0 then ⟨appE (m.value.headD none0) (er m.type) us, none0, c + 1⟩ else exF l n (appT (m.value.headD none0) (er m.type) us) (c + 1)
theorem exG_some {l : List Mv} {n : Nat} {k i : Int} {m : Mv} (h : slv l k i = some m) (us : List Tm) (c : Nat) : exG l (exF l n) k i us c = some (exR l n m us c) := by unfold exG exR; rw [h]; rfl
theorem exG_none {l : List Mv} {f : Tm → Nat → Res} {k i : Int} (h : slv l k i = none) (us : List Tm) (c : Nat) : exG l f k i us c = none := by unfold exG; rw [h]; rfl
/-- A metavariable that fits a store of n: a closed type, at most one value. -/
structure MvG (n : Int) (m : Mv) : Prop where
  typ : m.type.isTyp = true ∧ m.type.small = true
  val : ∀ v ∈ m.value, v.isObj = true ∧ v.small = true
  one : m.value.length ≤ 1
  kn : nal (fun k _ i z => (k = 6 → i < n) ∧ z ≤ 200) m.type ∧ ∀ v ∈ m.value, nal (fun k _ i z => (k = 6 → i < n) ∧ z ≤ 200) v
/-- What a term is that can be expanded: metavariables are there, no node has very many arguments. -/
abbrev Kn (n : Int) (t : Tm) : Prop := nal (fun k _ i z => (k = 6 → i < n) ∧ z ≤ 200) t
structure StG (l : List Mv) : Prop where
  len : l.length ≤ 40
  mv : ∀ m ∈ l, MvG l.length m
theorem StG.slv {l : List Mv} (h : StG l) {k i : Int} {m : Mv} (hs : slv l k i = some m) : ∃ v, m.value = [v] ∧ v.isObj = true ∧ v.small = true ∧ Kn l.length v ∧ m.type.isTyp = true ∧ m.type.small = true := by
  obtain ⟨_, _, _, _, hm, hv⟩ := slv_some hs
  have hg := h.mv m hm
  have h1 := hg.one
  match hm' : m.value, hv with
  | [v], _ =>
    rw [hm'] at h1
    have h2 := hg.val v (by rw [hm']; simp)
    exact ⟨v, rfl, h2.1, h2.2, hg.kn.2 v (by rw [hm']; simp), hg.typ.1, hg.typ.2⟩
  | a :: b :: r, _ => rw [hm'] at h1; simp at h1
theorem appT_parts {m : Tm} {s : Sm} {us : List Tm} (h : appE m s us = 0) : (m.isObj = true ∧ m.small = true) ∧ (∀ u ∈ us, u.isObj = true ∧ u.small = true) ∧ (Tm.ap (Tm.sb1 262145) m s.args us 0).e = 0 ∧ appT m s us = (Tm.ap (Tm.sb1 262145) m s.args us 0).t := by
  have h0 := h
  unfold appE at h
  split at h
  · rename_i h1; exact absurd h h1
  split at h
  · rename_i h1; exact absurd h h1
  split at h
  · omega
  rename_i h1
  simp only [List.any_cons, Bool.or_eq_true, not_or, List.any_eq_true, Bool.not_eq_true', Bool.and_eq_false_iff] at h1
  refine ⟨?_, fun u hu => ?_, h, by unfold appT; rw [if_pos h0]⟩
  · have := h1.1
    simp only [Bool.not_eq_false] at this
    exact this
  · have h2 := h1.2
    by_cases hc : u.isObj = true ∧ u.small = true
    · exact hc
    · exact absurd ⟨u, hu, by
        cases h3 : u.isObj <;> cases h4 : u.small <;> simp_all⟩ h2
theorem ap_small2 (f : Tm → Sm → Tm → Nat → Res) (m : Tm) (ss : List Sm) (us : List Tm) (w : Nat) (h : (ap f m ss us w).e = 0) : (ap f m ss us w).t.small = true := by
  unfold ap at h ⊢
  split
  · rename_i hl
    rw [if_pos hl] at h
    exact apF_small _ _ _ _ _ h
  · rename_i hl
    rw [if_neg hl] at h
    simp at h
theorem appT_obj {m : Tm} {s : Sm} {us : List Tm} (h : appE m s us = 0) : (appT m s us).isObj = true ∧ (appT m s us).small = true := by
  obtain ⟨h1, h2, h3, h4⟩ := appT_parts h
  rw [h4]
  refine ⟨?_, ap_small2 _ _ _ _ _ h3⟩
  rcases ap_good (sb1 262145) (fun u s b w hu hs hb hd => sb_good 262145 [u] [s] 0 b w (fun x hx => by obtain rfl : x = u := (by simpa using hx); exact ⟨hu, hs⟩) (by omega) (by omega) hb) us m s.args 0 h2 h1.1 h1.2 with h5 | h5
  · exact h5.2.1
  · exact absurd h3 h5.1
theorem appT_nal {N : Int → List UInt8 → Int → Nat → Prop} (hv : ∀ n i i' z, N 5 n i z → N 5 n i' z) (h0 : N 0 [] 0 0) {m : Tm} {s : Sm} {us : List Tm} (hm : nal N m) (hu : nalA N us) : nal N (appT m s us) := by
  unfold appT
  split
  · exact ap_nal hv h0 262145 m s.args us 0 hm hu
  · exact nal_none0 h0
theorem kn_var {n : Int} : ∀ (_ : List UInt8) (i i' : Int) (z : Nat), ((5 : Int) = 6 → i < n) ∧ z ≤ 200 → ((5 : Int) = 6 → i' < n) ∧ z ≤ 200 := fun _ _ _ _ h => ⟨fun e => absurd e (by decide), h.2⟩
theorem kn_none {n : Int} : ((0 : Int) = 6 → (0 : Int) < n) ∧ 0 ≤ 200 := ⟨fun e => absurd e (by decide), by decide⟩
/-- Element by element. -/
inductive Pw {α β : Type} (P : α → β → Prop) : List α → List β → Prop
  | nil : Pw P [] []
  | cons {a b l m} (h : P a b) (t : Pw P l m) : Pw P (a :: l) (b :: m)
/-- What a law says of a step's result, put through the arguments. -/
theorem exL_ind (g : Int → Int → List Tm → Nat → Option Res) (P : Tm → Tm → Prop) (l : List Tm) (h : ∀ t ∈ l, ∀ c, (exT g t c).e = 0 → P t (exT g t c).t) : ∀ c, (exL g l c).e = 0 → Pw P l (exL g l c).ts := by
  induction l with
  | nil => intro c _; rw [exL_nil]; exact .nil
  | cons t ts ih =>
    intro c h0
    rw [exL_cons] at h0 ⊢
    by_cases h1 : (exT g t c).e = 0
    · rw [if_pos h1] at h0 ⊢
      by_cases h2 : (exL g ts (exT g t c).w).e = 0
      · rw [if_pos h2]
        exact .cons (h t (by simp) c h1) (ih (fun t ht => h t (by simp [ht])) _ h2)
      · rw [if_neg h2] at h0; exact absurd h0 h2
    · rw [if_neg h1] at h0; exact absurd h0 h1
theorem exL_le (g : Int → Int → List Tm → Nat → Option Res) (l : List Tm) (h : ∀ t ∈ l, ∀ c, c ≤ (exT g t c).w) : ∀ c, c ≤ (exL g l c).w := by
  have key : ∀ (l : List Tm), (∀ t ∈ l, ∀ c, c ≤ (exT g t c).w) → ∀ j c, c ≤ (sbA (fun _ t c => exT g t c) 0 0 j l c).w := by
    intro l
    induction l with
    | nil => intro _ j c; rw [sbA]; exact Nat.le_refl _
    | cons t ts ih =>
      intro h j c
      have h1 := h t (by simp) c
      have h2 := ih (fun t ht => h t (by simp [ht])) (j + 1) (exT g t c).w
      rw [sbA]
      split
      · split
        · exact Nat.le_trans h1 h2
        · exact Nat.le_trans h1 h2
      · exact h1
  intro c
  rw [exL_sbA g _ 0]
  exact key l h 0 c
theorem exT_le (g : Int → Int → List Tm → Nat → Option Res) (hg : ∀ k i us c r, g k i us c = some r → c ≤ r.w) (t : Tm) : ∀ c, c ≤ (exT g t c).w := by
  induction t using ind with
  | h k n i l ih =>
    intro c
    have h1 := exL_le g l ih c
    rw [exT_mk]
    split
    · cases hq : g k i (exL g l c).ts (exL g l c).w with
      | none => show c ≤ (chk _ _).w; rw [chk_w]; exact h1
      | some r => exact Nat.le_trans h1 (hg _ _ _ _ _ hq)
    · exact h1
theorem exF_le (l : List Mv) (n : Nat) : ∀ t c, c ≤ (exF l n t c).w := by
  induction n with
  | zero => intro t c; exact Nat.le_succ c
  | succ n ih =>
    intro t c
    rw [exF_succ]
    refine exT_le _ (fun k i us c r h => ?_) t c
    unfold exG at h
    obtain ⟨m, _, rfl⟩ := Option.map_eq_some_iff.1 h
    split
    · exact Nat.le_succ c
    · split
      · exact Nat.le_succ c
      · exact Nat.le_trans (Nat.le_succ c) (ih _ _)
theorem exG_le (l : List Mv) (n : Nat) (k i : Int) (us : List Tm) (c : Nat) (r : Res) (h : exG l (exF l n) k i us c = some r) : c ≤ r.w := by
  unfold exG at h
  obtain ⟨m, _, rfl⟩ := Option.map_eq_some_iff.1 h
  split
  · exact Nat.le_succ c
  · split
    · exact Nat.le_succ c
    · exact Nat.le_trans (Nat.le_succ c) (exF_le l n _ _)
/-- An error leaves no term. -/
theorem exF_none (l : List Mv) (n : Nat) : ∀ t c, (exF l n t c).e ≠ 0 → (exF l n t c).t = none0 := by
  induction n with
  | zero => intro t c _; rfl
  | succ n ih =>
    intro t c h
    rw [exF_succ] at h ⊢
    cases t with
    | mk k nm i ts =>
      rw [exT_mk] at h ⊢
      split
      · rename_i h0
        rw [if_pos h0] at h
        cases hq : exG l (exF l n) k i (exL (exG l (exF l n)) ts c).ts (exL (exG l (exF l n)) ts c).w with
        | none =>
          rw [hq] at h
          show (chk _ _).t = _
          have h : (chk (mk k nm i (exL (exG l (exF l n)) ts c).ts) (exL (exG l (exF l n)) ts c).w).e ≠ 0 := h
          unfold chk at h ⊢
          split
          · rename_i h1; rw [if_pos h1] at h; exact absurd rfl h
          · rfl
        | some r =>
          rw [hq] at h
          show r.t = _
          have h : r.e ≠ 0 := h
          unfold exG at hq
          obtain ⟨m, _, rfl⟩ := Option.map_eq_some_iff.1 hq
          split
          · rfl
          · rename_i h1
            rw [if_neg h1] at h
            split
            · rfl
            · rename_i h2
              rw [if_neg h2] at h
              exact ih _ _ h
      · rfl
/-- Any result is small. -/
theorem exF_small (l : List Mv) (n : Nat) : ∀ t c, (exF l n t c).e = 0 → (exF l n t c).t.small = true := by
  induction n with
  | zero => intro t c h; simp [exF] at h
  | succ n ih =>
    intro t c h
    rw [exF_succ] at h ⊢
    cases t with
    | mk k nm i ts =>
      rw [exT_mk] at h ⊢
      split
      · rename_i h0
        rw [if_pos h0] at h
        cases hq : exG l (exF l n) k i (exL (exG l (exF l n)) ts c).ts (exL (exG l (exF l n)) ts c).w with
        | none => rw [hq] at h; exact chk_small _ _ h
        | some r =>
          rw [hq] at h
          show r.t.small = _
          have h : r.e = 0 := h
          unfold exG at hq
          obtain ⟨m, _, rfl⟩ := Option.map_eq_some_iff.1 hq
          split
          · rename_i h1; rw [if_pos h1] at h; simp at h
          · rename_i h1
            rw [if_neg h1] at h
            split
            · rename_i h2; rw [if_pos h2] at h; exact absurd h h2
            · rename_i h2
              rw [if_neg h2] at h
              exact ih _ _ h
      · rename_i h0; rw [if_neg h0] at h; exact absurd h h0
/-- What the nodes of an expansion are, where those of the term and of the values are such. -/
theorem exT_nal {N : Int → List UInt8 → Int → Nat → Prop} (h0 : N 0 [] 0 0) (g : Int → Int → List Tm → Nat → Option Res) (hg : ∀ k i us c r, nalA N us → g k i us c = some r → nal N r.t) (t : Tm) : nal N t → ∀ c, nal N (exT g t c).t := by
  induction t using ind with
  | h k n i l ih =>
    intro ht c
    rw [nal_mk] at ht
    rw [exT_mk]
    split
    · rename_i he
      have hA : nalA N (exL g l c).ts := by
        rw [nalA_iff]
        have hF := exL_ind g (fun _ r => nal N r) l (fun t h c _ => ih t h ((nalA_iff l).1 ht.2 t h) c) c he
        generalize (exL g l c).ts = us at hF
        clear he ih ht
        induction hF with
        | nil => simp
        | cons h1 _ ih => intro u hu; rcases List.mem_cons.1 hu with rfl | hu; (exact h1); exact ih u hu
      cases hq : g k i (exL g l c).ts (exL g l c).w with
      | none => exact chk_nal h0 ((nal_mk _ _ _ _).2 ⟨by rw [exL_length g l c he]; exact ht.1, hA⟩)
      | some r => exact hg _ _ _ _ _ hA hq
    · exact nal_none0 h0
theorem exF_nal {N : Int → List UInt8 → Int → Nat → Prop} (hv : ∀ n i i' z, N 5 n i z → N 5 n i' z) (h0 : N 0 [] 0 0) (l : List Mv) (hl : ∀ m ∈ l, ∀ v ∈ m.value, nal N v) (n : Nat) : ∀ t c, nal N t → nal N (exF l n t c).t := by
  induction n with
  | zero => intro t c _; exact nal_none0 h0
  | succ n ih =>
    intro t c ht
    rw [exF_succ]
    refine exT_nal h0 _ (fun k i us c r hus h => ?_) t ht c
    unfold exG at h
    obtain ⟨m, hm, rfl⟩ := Option.map_eq_some_iff.1 h
    obtain ⟨_, _, _, _, hml, hmv⟩ := slv_some hm
    split
    · exact nal_none0 h0
    · split
      · exact nal_none0 h0
      · refine ih _ _ (appT_nal hv h0 ?_ hus)
        match hv' : m.value, hmv with
        | v :: r, _ => exact hl m hml v (by rw [hv']; simp)
end Go.LF
namespace Go.LF
open Tm
theorem chk_tx {t : Tm} {w : Nat} (h : (chk t w).e = 0) : (chk t w).t = t := by
  unfold chk at h ⊢
  split
  · rfl
  · rename_i h1; rw [if_neg h1] at h; simp at h
/-- Of the same sort. -/
def Kp (t r : Tm) : Prop := (t.isObj = true → r.isObj = true) ∧ (t.isTyp = true → r.isTyp = true) ∧ (t.isKnd = true → r.isKnd = true)
theorem kp_obj {l us : List Tm} (h : Pw Kp l us) : allObj l = true → allObj us = true := by
  induction h with
  | nil => exact fun h => h
  | cons h1 _ ih => intro h; rw [allObj, Bool.and_eq_true] at h ⊢; exact ⟨h1.1 h.1, ih h.2⟩
theorem kp_typ {l us : List Tm} (h : Pw Kp l us) : allTyp l = true → allTyp us = true := by
  induction h with
  | nil => exact fun h => h
  | cons h1 _ ih => intro h; rw [allTyp, Bool.and_eq_true] at h ⊢; exact ⟨h1.2.1 h.1, ih h.2⟩
theorem kp_len {l us : List Tm} (h : Pw Kp l us) : us.length = l.length := by
  induction h with
  | nil => rfl
  | cons _ _ ih => simp [ih]
theorem kp_node {k i : Int} {n : List UInt8} {l us : List Tm} (h : Pw Kp l us) : Kp (mk k n i l) (mk k n i us) := by
  have hl := kp_len h
  have ho := kp_obj h
  have ht := kp_typ h
  refine ⟨fun e => ?_, fun e => ?_, fun e => ?_⟩
  · rw [isObj] at e ⊢
    unfold bound at e ⊢
    rw [hl]
    split at e
    · rename_i hk; rw [if_pos hk]; rw [Bool.and_eq_true] at e ⊢; exact ⟨e.1, ho e.2⟩
    · rename_i hk
      rw [if_neg hk]
      split at e
      · rename_i hk; rw [if_pos hk]; rw [Bool.and_eq_true] at e ⊢; exact ⟨e.1, ho e.2⟩
      · rename_i hk
        rw [if_neg hk]
        split at e
        · rename_i hk; rw [if_pos hk]; rw [Bool.and_eq_true] at e ⊢; exact ⟨e.1, ho e.2⟩
        · rename_i hk
          rw [if_neg hk]
          split at e
          · rename_i hk; rw [if_pos hk]; rw [Bool.and_eq_true] at e ⊢; exact ⟨e.1, ho e.2⟩
          · cases e
  · rw [isTyp, isAtom] at e ⊢
    unfold bound at e ⊢
    rw [hl]
    simp only [Bool.or_eq_true, Bool.and_eq_true] at e ⊢
    rcases e with e | e
    · exact .inl ⟨e.1, e.2.1, ho e.2.2⟩
    · exact .inr ⟨e.1, e.2.1, ht e.2.2⟩
  · unfold isKnd at e
    split at e
    · rename_i heq
      cases heq
      cases h with
      | cons h1 h2 =>
        cases h2 with
        | cons h3 h4 =>
          cases h4
          rw [isKnd]
          unfold bound at e ⊢
          simp only [Bool.and_eq_true] at e ⊢
          exact ⟨e.1, e.2.1, h1.2.1 e.2.2.1, h3.2.2 e.2.2.2⟩
    · rename_i heq
      cases heq
      simp only [Bool.and_eq_true, List.isEmpty_iff] at e
      obtain ⟨h1, h2, h3, h4⟩ := e
      subst h4
      cases h
      rw [isKnd]
      · simp [h1, h2, h3]
      · intro a b hab; cases hab
theorem kp_meta {n : List UInt8} {i : Int} {l : List Tm} {r : Tm} (h : r.isObj = true) : Kp (mk 6 n i l) r := by
  refine ⟨fun _ => h, fun e => ?_, fun e => ?_⟩
  · rw [isTyp, isAtom] at e; simp at e
  · unfold isKnd at e
    split at e
    · rename_i heq; cases heq; simp at e
    · rename_i heq; cases heq; simp at e
theorem exT_kp (g : Int → Int → List Tm → Nat → Option Res) (hg : ∀ k i us c r, g k i us c = some r → r.e = 0 → k = 6 ∧ r.t.isObj = true) (t : Tm) : ∀ c, (exT g t c).e = 0 → Kp t (exT g t c).t := by
  induction t using ind with
  | h k n i l ih =>
    intro c h
    rw [exT_mk] at h ⊢
    split
    · rename_i he
      rw [if_pos he] at h
      have hF := exL_ind g Kp l ih c he
      cases hq : g k i (exL g l c).ts (exL g l c).w with
      | none =>
        rw [hq] at h
        show Kp _ (chk _ _).t
        have h : (chk (mk k n i (exL g l c).ts) (exL g l c).w).e = 0 := h
        rw [chk_tx h]
        exact kp_node hF
      | some r =>
        rw [hq] at h
        obtain ⟨rfl, h2⟩ := hg _ _ _ _ _ hq h
        exact kp_meta h2
    · rename_i he; rw [if_neg he] at h; exact absurd h he
theorem exF_kp (l : List Mv) (n : Nat) : ∀ t c, (exF l n t c).e = 0 → Kp t (exF l n t c).t := by
  induction n with
  | zero => intro t c h; simp [exF] at h
  | succ n ih =>
    intro t c h
    rw [exF_succ] at h ⊢
    refine exT_kp _ (fun k i us c r hr h0 => ?_) t c h
    unfold exG at hr
    obtain ⟨m, hm, rfl⟩ := Option.map_eq_some_iff.1 hr
    refine ⟨(slv_some hm).1, ?_⟩
    split at h0
    · simp at h0
    · rename_i h1
      rw [if_neg h1]
      split at h0
      · rename_i h2; exact absurd h0 h2
      · rename_i h2
        rw [if_neg h2]
        exact (ih _ _ h0).1 (appT_obj (by simpa using h2)).1
theorem exF_wf (l : List Mv) (n : Nat) (t : Tm) (c : Nat) (ht : t.wf = 0) (h : (exF l n t c).e = 0) : (exF l n t c).t.wf = 0 := by
  obtain ⟨h1, h2, h3⟩ := exF_kp l n t c h
  have hs := exF_small l n t c h
  unfold wf
  rw [hs]
  rcases (wf_any3 ht).1 with h4 | h4 | h4
  · rw [h1 h4]; rfl
  · rw [h2 h4]; simp
  · rw [h3 h4]; simp
/-- The count stays in its bound where there is no error. -/
theorem exT_cap (g : Int → Int → List Tm → Nat → Option Res) (N : Nat) (hg : ∀ k i us c r, g k i us c = some r → c ≤ N → r.e = 0 → r.w ≤ N) (t : Tm) : ∀ c, c ≤ N → (exT g t c).e = 0 → (exT g t c).w ≤ N := by
  induction t using ind with
  | h k n i l ih =>
    intro c hc h
    have key : ∀ (us : List Tm), (∀ t ∈ us, t ∈ l) → ∀ c, c ≤ N → (exL g us c).e = 0 → (exL g us c).w ≤ N := by
      intro us
      induction us with
      | nil => intro _ c hc _; rw [exL_nil]; exact hc
      | cons t ts ih2 =>
        intro hm c hc h
        rw [exL_cons] at h ⊢
        split
        · rename_i h1
          rw [if_pos h1] at h
          split
          · rename_i h2
            exact ih2 (fun t ht => hm t (by simp [ht])) _ (ih t (hm t (by simp)) c hc h1) h2
          · rename_i h2; rw [if_neg h2] at h; exact absurd h h2
        · rename_i h1; rw [if_neg h1] at h; exact absurd h h1
    rw [exT_mk] at h ⊢
    split
    · rename_i he
      rw [if_pos he] at h
      have h1 := key l (fun _ h => h) c hc he
      cases hq : g k i (exL g l c).ts (exL g l c).w with
      | none => show (chk _ _).w ≤ N; rw [chk_w]; exact h1
      | some r => rw [hq] at h; exact hg _ _ _ _ _ hq h1 h
    · rename_i he; rw [if_neg he] at h; exact absurd h he
theorem exF_cap (l : List Mv) (n : Nat) : ∀ t c, c ≤ 16384 → (exF l n t c).e = 0 → (exF l n t c).w ≤ 16384 := by
  induction n with
  | zero => intro t c _ h; simp [exF] at h
  | succ n ih =>
    intro t
    rw [exF_succ]
    refine exT_cap _ 16384 (fun k i us c r hr hc h0 => ?_) t
    unfold exG at hr
    obtain ⟨m, hm, rfl⟩ := Option.map_eq_some_iff.1 hr
    split at h0
    · simp at h0
    · rename_i h1
      split at h0
      · rename_i h2; exact absurd h0 h2
      · rename_i h2
        rw [if_neg h1, if_neg h2]
        exact ih _ _ (by omega) h0
/-- An expansion mentions unsolved metavariables only. -/
abbrev Us (l : List Mv) (t : Tm) : Prop := nal (fun k _ i _ => slv l k i = none) t
theorem slv_off {l : List Mv} {k i : Int} (h : k ≠ 6) : slv l k i = none := by unfold slv; rw [if_neg (fun e => h e.1)]
theorem exT_us (l : List Mv) (g : Int → Int → List Tm → Nat → Option Res) (hg : ∀ k i us c r, g k i us c = some r → Us l r.t) (hn : ∀ k i us c, g k i us c = none → slv l k i = none) (t : Tm) : ∀ c, Us l (exT g t c).t := by
  induction t using ind with
  | h k n i ts ih =>
    intro c
    rw [exT_mk]
    split
    · rename_i he
      have hA : nalA (fun k _ i _ => slv l k i = none) (exL g ts c).ts := by
        rw [nalA_iff]
        have hF := exL_ind g (fun _ r => Us l r) ts (fun t h c _ => ih t h c) c he
        generalize (exL g ts c).ts = us at hF
        clear he ih
        induction hF with
        | nil => simp
        | cons h1 _ ih => intro u hu; rcases List.mem_cons.1 hu with rfl | hu; (exact h1); exact ih u hu
      cases hq : g k i (exL g ts c).ts (exL g ts c).w with
      | none => exact chk_nal (slv_off (by decide)) ((nal_mk _ _ _ _).2 ⟨hn _ _ _ _ hq, hA⟩)
      | some r => exact hg _ _ _ _ _ hq
    · exact nal_none0 (slv_off (by decide))
theorem exF_us (l : List Mv) (n : Nat) : ∀ t c, Us l (exF l n t c).t := by
  induction n with
  | zero => intro t c; exact nal_none0 (slv_off (by decide))
  | succ n ih =>
    intro t c
    rw [exF_succ]
    refine exT_us l _ (fun k i us c r h => ?_) (fun k i us c h => ?_) t c
    · unfold exG at h
      obtain ⟨m, hm, rfl⟩ := Option.map_eq_some_iff.1 h
      split
      · exact nal_none0 (slv_off (by decide))
      · split
        · exact nal_none0 (slv_off (by decide))
        · exact ih _ _
    · unfold exG at h
      exact Option.map_eq_none_iff.1 h
theorem arg_small {k i : Int} {n : List UInt8} {l : List Tm} (h : (mk k n i l).small = true) : ∀ u ∈ l, u.small = true := by
  intro u hu
  unfold small at h ⊢
  rw [Bool.and_eq_true, decide_eq_true_eq, decide_eq_true_eq] at h ⊢
  rw [size_mk, depth_mk] at h
  have := size_le_sizes hu
  have := depth_le_depths hu
  exact ⟨by omega, by omega⟩
/-- An expanded term is not expanded any further. -/
theorem exT_same (l : List Mv) (f : Tm → Nat → Res) (t : Tm) : Us l t → t.small = true → ∀ c, exT (exG l f) t c = ⟨0, t, c⟩ := by
  induction t using ind with
  | h k n i ts ih =>
    intro hU hs c
    have hU := (nal_mk _ _ _ _).1 hU
    have h1 : ∀ t ∈ ts, ∀ c, exT (exG l f) t c = ⟨0, t, c⟩ := fun t ht c => ih t ht ((nalA_iff ts).1 hU.2 t ht) (arg_small hs t ht) c
    have key : ∀ (us : List Tm), (∀ t ∈ us, ∀ c, exT (exG l f) t c = ⟨0, t, c⟩) → ∀ c, exL (exG l f) us c = ⟨0, us, c⟩ := by
      intro us
      induction us with
      | nil => intro _ c; rw [exL_nil]
      | cons t us ih2 =>
        intro h1 c
        rw [exL_cons, h1 t (by simp), if_pos rfl, ih2 (fun t ht => h1 t (by simp [ht])), if_pos rfl]
    have hA : ∀ c, exL (exG l f) ts c = ⟨0, ts, c⟩ := key ts h1
    rw [exT_mk, hA, if_pos rfl]
    simp only
    rw [exG_none hU.1]
    show chk _ _ = _
    unfold chk
    rw [if_pos hs]
end Go.LF
namespace Go.Proofs.YtdomloghcpfdjaaGreatDoor
open Go.RowKit Go.LF
end Go.Proofs.YtdomloghcpfdjaaGreatDoor
namespace Go.LF
open Tm Go.Proofs.YtdomloghcpfdjaaGreatDoor
/-- The expansion of a term over a store. -/
def expE (l : List Mv) (t : Tm) : Int := if t.wf ≠ 0 then t.wf else if (Tm.metas t).any (fun i => decide ((l.length : Int) ≤ i)) = true then 3 else (exF l 16385 t 0).e
def expT (l : List Mv) (t : Tm) : Tm := if expE l t = 0 then (exF l 16385 t 0).t else none0
theorem mem_metas (t : Tm) (h : t.wf = 0) (i : Int) : i ∈ Tm.metas t ↔ ∃ x ∈ nodes 0 t, x.k = 6 ∧ x.i = i := by
  unfold Tm.metas Tm.addMetas0
  rw [if_pos (by simp [h]), ← metas_fold t 0 []]
  have key : ∀ (xs : List Nd0) (acc : List Int), i ∈ xs.foldl metaStep acc ↔ i ∈ acc ∨ ∃ x ∈ xs, x.k = 6 ∧ x.i = i := by
    intro xs
    induction xs with
    | nil => intro acc; simp
    | cons x xs ih =>
      intro acc
      rw [List.foldl_cons, ih]
      have hs : i ∈ metaStep acc x ↔ i ∈ acc ∨ (x.k = 6 ∧ x.i = i) := by
        unfold metaStep
        split
        · rename_i hc
          simp only [Bool.and_eq_true, beq_iff_eq] at hc
          rw [List.mem_append, List.mem_singleton]
          exact ⟨fun h => h.imp id (fun h => ⟨hc.1, h.symm⟩), fun h => h.imp id (fun h => h.2.symm)⟩
        · rename_i hc
          refine ⟨.inl, fun h => h.elim id (fun h => ?_)⟩
          obtain ⟨h1, rfl⟩ := h
          simpa [h1] using hc
      rw [hs]
      constructor
      · rintro ((h | h) | ⟨y, hy, h⟩)
        · exact .inl h
        · exact .inr ⟨x, by simp, h⟩
        · exact .inr ⟨y, by simp [hy], h⟩
      · rintro (h | ⟨y, hy, h⟩)
        · exact .inl (.inl h)
        · rcases List.mem_cons.1 hy with rfl | hy
          · exact .inl (.inr h)
          · exact .inr ⟨y, hy, h⟩
  rw [key]
  simp
theorem metas_nil (t : Tm) (h : ¬ t.wf = 0) : Tm.metas t = [] := by
  unfold Tm.metas
  rw [if_neg (by simpa using h)]
theorem nal_metas {N : Int → Prop} (t : Tm) (h : t.wf = 0) : nal (fun k _ i _ => k = 6 → N i) t ↔ ∀ i ∈ Tm.metas t, N i := by
  rw [nal_nodes (M := fun k _ i => k = 6 → N i) t 0]
  constructor
  · intro hn i hi
    obtain ⟨x, hx, h6, rfl⟩ := (mem_metas t h i).1 hi
    exact hn x hx h6
  · intro hn x hx h6
    exact hn _ ((mem_metas t h _).2 ⟨x, hx, h6, rfl⟩)
theorem nal_and {N M : Int → List UInt8 → Int → Nat → Prop} (t : Tm) : nal N t → nal M t → nal (fun k n i z => N k n i z ∧ M k n i z) t := by
  induction t using ind with
  | h k n i l ih =>
    intro h1 h2
    rw [nal_mk, nalA_iff] at h1 h2 ⊢
    exact ⟨⟨h1.1, h2.1⟩, fun u hu => ih u hu (h1.2 u hu) (h2.2 u hu)⟩
theorem kn_metas {n : Int} (t : Tm) (h : t.wf = 0) (hs : t.size ≤ 200) (hm : ∀ i ∈ Tm.metas t, i < n) : Kn n t := nal_and t ((nal_metas t h).2 hm) (nal_size t hs)
theorem metas_lt {n : Int} {t : Tm} (hm : Kn n t) : ∀ i ∈ Tm.metas t, i < n := by
  intro i hi
  by_cases h : t.wf = 0
  · exact (nal_metas (N := fun i => i < n) t h).1 (nal_imp (fun _ _ _ _ h => h.1) t hm) i hi
  · rw [metas_nil t h] at hi; cases hi
theorem metas_ge {t : Tm} : ∀ i ∈ Tm.metas t, 0 ≤ i ∧ i < 2048 := by
  intro i hi
  by_cases h : t.wf = 0
  · obtain ⟨x, hx, h6, rfl⟩ := (mem_metas t h i).1 hi
    exact ((wf_ok t h).1 0 x hx).2.1 (by simp [h6])
  · rw [metas_nil t h] at hi; cases hi
/-- Metavariables of a list, and of the types of theirs, those first. -/
structure Ord where
  o : List Int
  e : Int
def typeOf (l : List Mv) (i : Int) : Tm := match l[i.toNat]? with | some m => m.type | none => none0
def colS (l : List Mv) (f : List Int → Ord → Ord) : List Int → Ord → Ord
  | [], s => s
  | m :: ms, s =>
    if s.e ≠ 0 then s else if s.o.contains m = true then colS l f ms s else
    if expE l (typeOf l m) ≠ 0 then ⟨s.o, expE l (typeOf l m)⟩ else
    if (f (Tm.metas (expT l (typeOf l m))) s).e = 0 then colS l f ms ⟨(f (Tm.metas (expT l (typeOf l m))) s).o ++ [m], 0⟩ else f (Tm.metas (expT l (typeOf l m))) s
def colF (l : List Mv) : Nat → List Int → Ord → Ord
  | 0 => colS l (fun _ s => s)
  | d + 1 => colS l (colF l d)
theorem colS_err (l : List Mv) (f : List Int → Ord → Ord) (ms : List Int) (s : Ord) (h : s.e ≠ 0) : colS l f ms s = s := by
  cases ms with
  | nil => rfl
  | cons m ms => rw [colS, if_pos h]
theorem colS_append (l : List Mv) (f : List Int → Ord → Ord) (a b : List Int) : ∀ s, colS l f (a ++ b) s = colS l f b (colS l f a s) := by
  induction a with
  | nil => intro s; rfl
  | cons m ms ih =>
    intro s
    rw [List.cons_append, colS, colS]
    by_cases h0 : s.e ≠ 0
    · rw [if_pos h0, if_pos h0, colS_err l f b s h0]
    rw [if_neg h0, if_neg h0]
    by_cases h1 : s.o.contains m = true
    · rw [if_pos h1, if_pos h1, ih]
    rw [if_neg h1, if_neg h1]
    by_cases h2 : expE l (typeOf l m) ≠ 0
    · rw [if_pos h2, if_pos h2, colS_err l f b _ h2]
    rw [if_neg h2, if_neg h2]
    by_cases h3 : (f (Tm.metas (expT l (typeOf l m))) s).e = 0
    · rw [if_pos h3, if_pos h3, ih]
    · rw [if_neg h3, if_neg h3, colS_err l f b _ h3]
theorem colS_one (l : List Mv) (f : List Int → Ord → Ord) (m : Int) (s : Ord) : colS l f [m] s =
    if s.e ≠ 0 then s else if s.o.contains m = true then s else
    if expE l (typeOf l m) ≠ 0 then ⟨s.o, expE l (typeOf l m)⟩ else
    if (f (Tm.metas (expT l (typeOf l m))) s).e = 0 then ⟨(f (Tm.metas (expT l (typeOf l m))) s).o ++ [m], 0⟩ else f (Tm.metas (expT l (typeOf l m))) s := by
  rw [colS, colS, colS]
theorem colS_take_succ (l : List Mv) (f : List Int → Ord → Ord) (ms : List Int) (j : Nat) (h : j < ms.length) (s : Ord) : colS l f (ms.take (j + 1)) s = colS l f [ms[j]] (colS l f (ms.take j) s) := by
  rw [List.take_succ_eq_append_getElem h, colS_append]
/-- One term behind the other. -/
def colL (l : List Mv) (d : Nat) : List Tm → Ord → Ord
  | [], s => s
  | t :: ts, s => colL l d ts (colF l d (Tm.metas t) s)
end Go.LF
namespace Go.LF
open Tm Go.Proofs.YtdomloghcpfdjaaGreatDoor
/-- No metavariable reaches itself. -/
def Acy (l : List Mv) : Prop := ∀ i : Int, i < l.length → ∀ j ∈ succV l i, ¬ Rch l j i
open Classical in
/-- How many metavariables one reaches. -/
noncomputable def rk (l : List Mv) (i : Int) : Nat := ((List.range l.length).filter (fun j : Nat => decide (Rch l i (j : Int)))).length
theorem rk_le (l : List Mv) (i : Int) : rk l i ≤ l.length := by
  unfold rk
  refine Nat.le_trans (List.length_filter_le _ _) ?_
  simp
theorem rk_lt {l : List Mv} (hA : Acy l) {i j : Int} (h0 : 0 ≤ i) (hi : i < l.length) (hj : j ∈ succV l i) (_hn : ¬ j < l.length ∨ True) : rk l j < rk l i := by
  classical
  unfold rk
  have e : ∀ k : Nat, Rch l j (k : Int) → Rch l i (k : Int) := fun k h => .step hi hj h
  rw [show (List.range l.length).filter (fun k : Nat => decide (Rch l j (k : Int))) = ((List.range l.length).filter (fun k : Nat => decide (Rch l i (k : Int)))).filter (fun k : Nat => decide (Rch l j (k : Int))) by
    rw [List.filter_filter]
    refine List.filter_congr (fun k _ => ?_)
    rw [Bool.eq_iff_iff]
    simp only [decide_eq_true_eq, Bool.and_eq_true]
    exact ⟨fun h => ⟨h, e k h⟩, fun h => h.1⟩]
  rw [List.length_filter_lt_length_iff_exists]
  refine ⟨i.toNat, ?_, ?_⟩
  · rw [List.mem_filter]
    refine ⟨List.mem_range.2 (by omega), ?_⟩
    simp only [decide_eq_true_eq]
    rw [show ((i.toNat : Nat) : Int) = i by omega]
    exact .refl hi
  · simp only [decide_eq_true_eq]
    rw [show ((i.toNat : Nat) : Int) = i by omega]
    exact hA i hi j hj
theorem typeOf_mem {l : List Mv} {i : Int} (h0 : 0 ≤ i) (hi : i < l.length) : ∃ m ∈ l, l[i.toNat]? = some m ∧ typeOf l i = m.type := by
  have h : i.toNat < l.length := by omega
  refine ⟨l[i.toNat], List.getElem_mem h, List.getElem?_eq_getElem h, ?_⟩
  unfold typeOf
  rw [List.getElem?_eq_getElem h]
/-- What an expansion mentions is reached from what the term mentions. -/
theorem exp_rch (l : List Mv) (n : Nat) (t : Tm) (S : Int → Prop) (hc : ∀ i, S i → ∀ j ∈ succV l i, S j) (ht : ∀ i ∈ Tm.metas t, S i) (hw : t.wf = 0) (hv : ∀ m ∈ l, ∀ v ∈ m.value, v.wf = 0) (c : Nat) (h : (exF l n t c).e = 0) : ∀ i ∈ Tm.metas (exF l n t c).t, S i := by
  have hN : nal (fun k _ i _ => k = 6 → S i) t := (nal_metas t hw).2 ht
  have hw' := exF_wf l n t c hw h
  rw [← nal_metas (N := S) _ hw']
  revert h hw'
  clear hw ht
  induction n generalizing t c with
  | zero => intro h; simp [exF] at h
  | succ n ih =>
    intro h _
    rw [exF_succ] at h ⊢
    have key : ∀ (t : Tm), nal (fun k _ i _ => k = 6 → S i) t → ∀ c, (exT (exG l (exF l n)) t c).e = 0 → nal (fun k _ i _ => k = 6 → S i) (exT (exG l (exF l n)) t c).t := by
      intro t
      induction t using ind with
      | h k nm i ts ih2 =>
        intro ht c h
        rw [nal_mk, nalA_iff] at ht
        rw [exT_mk] at h ⊢
        split
        · rename_i he
          rw [if_pos he] at h
          have hA : nalA (fun k _ i _ => k = 6 → S i) (exL (exG l (exF l n)) ts c).ts := by
            rw [nalA_iff]
            have hF := exL_ind (exG l (exF l n)) (fun t r => nal (fun k _ i _ => k = 6 → S i) t → nal (fun k _ i _ => k = 6 → S i) r) ts (fun t h c he ht => ih2 t h ht c he) c he
            generalize (exL (exG l (exF l n)) ts c).ts = us at hF
            have h2 := ht.2
            clear he h ih2 ht
            induction hF with
            | nil => simp
            | cons h1 _ ih3 =>
              intro u hu
              rcases List.mem_cons.1 hu with rfl | hu
              · exact h1 (h2 _ (by simp))
              · exact ih3 (fun a ha => h2 a (by simp [ha])) u hu
          cases hs : slv l k i with
          | none =>
            rw [exG_none hs]
            exact chk_nal (fun e => absurd e (by decide)) ((nal_mk _ _ _ _).2 ⟨ht.1, hA⟩)
          | some m =>
            rw [exG_some hs] at h ⊢
            have h : (exR l n m (exL (exG l (exF l n)) ts c).ts (exL (exG l (exF l n)) ts c).w).e = 0 := h
            show nal _ (exR l n m _ _).t
            unfold exR at h ⊢
            split
            · rename_i h1; rw [if_pos h1] at h; simp at h
            · rename_i h1
              rw [if_neg h1] at h
              split
              · rename_i h2; rw [if_pos h2] at h; exact absurd h h2
              · rename_i h2
                rw [if_neg h2] at h
                obtain ⟨h6, h0, hl, hm, hml, hmv⟩ := slv_some hs
                have ho := appT_obj (Decidable.not_not.1 h2)
                refine ih _ _ ?_ h (exF_wf l n _ _ (small_wf ho.1 ho.2) h)
                refine appT_nal (fun _ _ _ _ h e => absurd e (by decide)) (fun e => absurd e (by decide)) ?_ hA
                match hv' : m.value, hmv with
                | v :: r, _ =>
                  show nal _ v
                  have hvm : v ∈ m.value := by rw [hv']; simp
                  rw [nal_metas v (hv m hml v hvm)]
                  intro j hj
                  refine hc i (ht.1 h6) j ?_
                  unfold succV
                  rw [if_pos h0, hm]
                  show j ∈ nextV m
                  unfold nextV
                  exact List.mem_append.2 (.inr (List.mem_flatMap.2 ⟨v, hvm, hj⟩))
        · exact nal_none0 (fun e => absurd e (by decide))
    exact key t hN c h
/-- The metavariables of an expanded type are of lower rank. -/
theorem exp_rk {l : List Mv} (hA : Acy l) (hG : StG l) (hT : ∀ m ∈ l, m.type.wf = 0) (hV : ∀ m ∈ l, ∀ v ∈ m.value, v.wf = 0) {i : Int} (h0 : 0 ≤ i) (hi : i < l.length) (he : expE l (typeOf l i) = 0) : ∀ j ∈ Tm.metas (expT l (typeOf l i)), j < l.length ∧ rk l j < rk l i := by
  obtain ⟨m, hm, hmi, ht⟩ := typeOf_mem h0 hi
  have hs : ∀ j ∈ Tm.metas m.type, j ∈ succV l i := by
    intro j hj
    unfold succV
    rw [if_pos h0, hmi]
    exact List.mem_append.2 (.inl hj)
  have he2 := he
  unfold expE at he2
  rw [ht, if_neg (by rw [hT m hm]; simp)] at he2
  split at he2
  · omega
  intro j hj
  have e1 : expT l (typeOf l i) = (exF l 16385 m.type 0).t := by unfold expT; rw [if_pos he, ht]
  rw [e1] at hj
  refine exp_rch l 16385 m.type (fun j => j < l.length ∧ rk l j < rk l i) ?_ ?_ (hT m hm) hV 0 he2 j hj
  · rintro k ⟨hk, hr⟩ j hj
    by_cases h : 0 ≤ k
    · have h1 := rk_lt hA h hk hj (.inr trivial)
      refine ⟨?_, by omega⟩
      unfold succV at hj
      rw [if_pos h, List.getElem?_eq_getElem (by omega)] at hj
      have hg := hG.mv _ (List.getElem_mem (show k.toNat < l.length by omega))
      rcases List.mem_append.1 hj with hj | hj
      · exact metas_lt hg.kn.1 j hj
      · obtain ⟨v, hv, hj⟩ := List.mem_flatMap.1 hj
        exact metas_lt (hg.kn.2 v hv) j hj
    · unfold succV at hj
      rw [if_neg h] at hj
      cases hj
  · intro j hj
    exact ⟨metas_lt (hG.mv m hm).kn.1 j hj, rk_lt hA h0 hi (hs j hj) (.inr trivial)⟩
end Go.LF
namespace Go.LF
open Tm Go.Proofs.YtdomloghcpfdjaaGreatDoor
open Classical in
/-- A value mentions what reaches the metavariable. -/
noncomputable def reachB (l : List Mv) (is : List Int) (i : Int) : Bool := decide (∃ x ∈ is, Rch l x i)
/-- The error of Solve. -/
noncomputable def solveE (l : List Mv) (i : Int) (m : Tm) : Int :=
  if ¬ (0 ≤ i ∧ i < l.length) then 3 else if (match l[i.toNat]? with | some v => v.value | none => []) ≠ [] then 53 else if valueE m l.length ≠ 0 then valueE m l.length else if reachB l (Tm.metas m) i = true then 51 else 0
def setV (l : List Mv) (i : Int) (m : Tm) : List Mv := match l[i.toNat]? with | some v => l.set i.toNat ⟨v.name, v.type, [m]⟩ | none => l
noncomputable def solveS (l : List Mv) (i : Int) (m : Tm) : List Mv := if solveE l i m ≠ 0 then l else setV l i m
/-- The first metavariable of a store that is not right in itself. -/
def mvE (n : Nat) (i : Nat) (m : Mv) : Int := if checkE i m.name m.type ≠ 0 then checkE i m.name m.type else if 1 < m.value.length then 7 else firstE (fun v => valueE v n) m.value
def badA (n : Nat) : Nat → List Mv → Int × Int
  | i, [] => (i, 0)
  | i, m :: ms => if mvE n i m ≠ 0 then (i, mvE n i m) else badA n (i + 1) ms
open Classical in
noncomputable def badC (l : List Mv) : Nat → Nat → Int × Int
  | i, 0 => (i, 0)
  | i, k + 1 => if ∃ j ∈ succV l i, Rch l j i then ((i : Int), 51) else badC l (i + 1) k
noncomputable def validR (l : List Mv) : Int × Int := if (badA l.length 0 l).2 ≠ 0 then badA l.length 0 l else badC l 0 l.length
/-- A store that New and Solve have made. -/
structure Play (l : List Mv) : Prop where
  len : l.length ≤ 40
  ok : ∀ i (h : i < l.length), checkE i l[i].name l[i].type = 0
  val : ∀ m ∈ l, m.value.length ≤ 1 ∧ ∀ v ∈ m.value, valueE v l.length = 0
  ar : ∀ m ∈ l, m.type.size ≤ 200 ∧ ∀ v ∈ m.value, v.size ≤ 200
  acy : Acy l
/-- The same of a store that Canon makes: its types may be larger. -/
structure Plz (l : List Mv) : Prop where
  len : l.length ≤ 40
  ok : ∀ i (h : i < l.length), checkE i l[i].name l[i].type = 0
  val : ∀ m ∈ l, m.value.length ≤ 1 ∧ ∀ v ∈ m.value, valueE v l.length = 0
  kn : ∀ m ∈ l, nal (fun _ _ _ z => z ≤ 200) m.type ∧ ∀ v ∈ m.value, nal (fun _ _ _ z => z ≤ 200) v
  acy : Acy l
theorem Play.plz {l : List Mv} (h : Play l) : Plz l := ⟨h.len, h.ok, h.val, fun m hm => ⟨nal_size _ (h.ar m hm).1, fun v hv => nal_size _ ((h.ar m hm).2 v hv)⟩, h.acy⟩
theorem checkE_parts {n : Int} {name : List UInt8} {a : Tm} (h : checkE n name a = 0) : (name = [] ∨ isName name = true) ∧ a.wf = 0 ∧ a.isTyp = true ∧ a.small = true ∧ a.scope ≤ 0 ∧ (∀ i ∈ Tm.metas a, i < n) ∧ n < 2048 := by
  unfold checkE at h
  split at h
  · omega
  rename_i h1
  split at h
  · rename_i h2; exact absurd h h2
  rename_i h2
  split at h
  · omega
  rename_i h3
  split at h
  · omega
  rename_i h4
  split at h
  · omega
  rename_i h5
  have h2 : a.wf = 0 := by simpa using h2
  have h3 : a.isTyp = true ∧ a.small = true := by simpa using h3
  unfold outV at h4
  rw [h2] at h4
  simp only [Bool.or_eq_true, not_or, decide_eq_true_eq, List.any_eq_true, not_exists, not_and] at h4
  refine ⟨?_, h2, h3.1, h3.2, ?_, fun i hi => ?_, by omega⟩
  · by_cases hn : name = []
    · exact .inl hn
    · refine .inr ?_
      cases hb : isName name with
      | true => rfl
      | false => exact absurd ⟨hn, hb⟩ h1
  · have := h4.1
    rw [if_pos (by rfl)] at this
    omega
  · have := h4.2 i hi
    omega
theorem valueE_parts {n : Int} {a : Tm} (h : valueE a n = 0) : a.wf = 0 ∧ a.isObj = true ∧ a.small = true ∧ a.scope ≤ 0 ∧ (∀ i ∈ Tm.metas a, i < n) := by
  unfold valueE at h
  split at h
  · rename_i h2; exact absurd h h2
  rename_i h2
  split at h
  · omega
  rename_i h3
  split at h
  · omega
  rename_i h4
  have h2 : a.wf = 0 := by simpa using h2
  have h3 : a.isObj = true ∧ a.small = true := by simpa using h3
  unfold outV at h4
  rw [h2] at h4
  simp only [Bool.or_eq_true, not_or, decide_eq_true_eq, List.any_eq_true, not_exists, not_and] at h4
  refine ⟨h2, h3.1, h3.2, ?_, fun i hi => ?_⟩
  · have := h4.1
    rw [if_pos (by rfl)] at this
    omega
  · have := h4.2 i hi
    omega
theorem valueE_of {n : Int} {a : Tm} (h1 : a.isObj = true) (h2 : a.small = true) (h3 : a.scope ≤ 0) (h4 : ∀ i ∈ Tm.metas a, i < n) : valueE a n = 0 := by
  have hw := small_wf h1 h2
  unfold valueE
  rw [if_neg (by simp [hw]), if_neg (by simp [h1, h2]), if_neg]
  unfold outV
  simp only [hw, Bool.or_eq_true, not_or, decide_eq_true_eq, List.any_eq_true, not_exists, not_and]
  exact ⟨by rw [if_pos (by rfl)]; omega, fun i hi => by have := h4 i hi; omega⟩
theorem Plz.good {l : List Mv} (h : Plz l) : StG l := by
  refine ⟨h.len, fun m hm => ?_⟩
  obtain ⟨i, hi, rfl⟩ := List.getElem_of_mem hm
  obtain ⟨_, h1, h2, h3, h4, h5, _⟩ := checkE_parts (h.ok i hi)
  obtain ⟨h6, h7⟩ := h.val _ hm
  obtain ⟨h8, h9⟩ := h.kn _ hm
  refine ⟨⟨h2, h3⟩, fun v hv => ?_, h6, nal_and _ ((nal_metas _ h1).2 (fun j hj => by have := h5 j hj; omega)) h8, fun v hv => ?_⟩
  · obtain ⟨_, h10, h11, _⟩ := valueE_parts (h7 v hv)
    exact ⟨h10, h11⟩
  · obtain ⟨h10, _, _, _, h11⟩ := valueE_parts (h7 v hv)
    exact nal_and _ ((nal_metas _ h10).2 h11) (h9 v hv)
theorem Play.good {l : List Mv} (h : Play l) : StG l := h.plz.good
theorem Plz.typ {l : List Mv} (h : Plz l) : ∀ m ∈ l, m.type.wf = 0 := by
  intro m hm
  obtain ⟨i, hi, rfl⟩ := List.getElem_of_mem hm
  exact (checkE_parts (h.ok i hi)).2.1
theorem Plz.vals {l : List Mv} (h : Plz l) : ∀ m ∈ l, ∀ v ∈ m.value, v.wf = 0 := fun m hm v hv => (valueE_parts ((h.val m hm).2 v hv)).1
theorem Play.typ {l : List Mv} (h : Play l) : ∀ m ∈ l, m.type.wf = 0 := h.plz.typ
theorem Play.vals {l : List Mv} (h : Play l) : ∀ m ∈ l, ∀ v ∈ m.value, v.wf = 0 := h.plz.vals
theorem Play.nil : Play [] := by
  refine ⟨by simp, fun i h => (by simp at h), fun m h => (by cases h), fun m h => (by cases h), fun i h1 j hj => ?_⟩
  unfold succV at hj
  split at hj
  · simp at hj
  · cases hj
theorem succV_at {l : List Mv} {i : Nat} (h : i < l.length) : succV l (i : Int) = nextV l[i] := by
  unfold succV
  rw [if_pos (by omega), List.getElem?_eq_getElem (by simpa using h)]
  rfl
/-- A metavariable more: what is reached. -/
theorem succV_append {l : List Mv} {m : Mv} {i : Int} (h : i < l.length) : succV (l ++ [m]) i = succV l i := by
  unfold succV
  split
  · rw [List.getElem?_append_left (by omega)]
  · rfl
theorem rch_append {l : List Mv} {m : Mv} (hk : ∀ i : Int, ∀ j ∈ succV l i, j < l.length) {i j : Int} (h : Rch (l ++ [m]) i j) : i < l.length → Rch l i j := by
  induction h with
  | refl _ => intro h; exact .refl h
  | step h hj hk' ih =>
    intro hi
    rw [succV_append hi] at hj
    exact .step hi hj (ih (hk _ _ hj))
theorem succ_lt {l : List Mv} (hG : StG l) : ∀ i : Int, ∀ j ∈ succV l i, j < l.length := by
  intro i j hj
  unfold succV at hj
  split at hj
  · split at hj
    · rename_i m hm
      have hg := hG.mv m (List.mem_of_getElem? hm)
      rcases List.mem_append.1 hj with hj | hj
      · exact metas_lt hg.kn.1 j hj
      · obtain ⟨v, hv, hj⟩ := List.mem_flatMap.1 hj
        exact metas_lt (hg.kn.2 v hv) j hj
    · cases hj
  · cases hj
theorem Play.new {l : List Mv} (h : Play l) {name : List UInt8} {a : Tm} (hl : l.length < 40) (ha : a.size ≤ 200) : Play (newS l name a) := by
  unfold newS
  split
  · exact h
  · rename_i hc
    have hc : checkE l.length name a = 0 := by simpa using hc
    obtain ⟨_, h1, h2, h3, h4, h5, h6⟩ := checkE_parts hc
    refine ⟨by simp; omega, fun i hi => ?_, fun m hm => ?_, fun m hm => ?_, ?_⟩
    · rw [List.length_append, List.length_singleton] at hi
      by_cases e : i < l.length
      · rw [List.getElem_append_left e]; exact h.ok i e
      · obtain rfl : i = l.length := by omega
        simpa using hc
    · rcases List.mem_append.1 hm with hm | hm
      · obtain ⟨h7, h8⟩ := h.val m hm
        refine ⟨h7, fun v hv => ?_⟩
        obtain ⟨_, e1, e2, e3, e4⟩ := valueE_parts (h8 v hv)
        exact valueE_of e1 e2 e3 (fun i hi => by have := e4 i hi; simp; omega)
      · obtain rfl := List.mem_singleton.1 hm
        exact ⟨by simp, fun v hv => by cases hv⟩
    · rcases List.mem_append.1 hm with hm | hm
      · exact h.ar m hm
      · obtain rfl := List.mem_singleton.1 hm
        exact ⟨ha, fun v hv => by cases hv⟩
    · intro i hi j hj hr
      have hk := succ_lt h.good
      by_cases e : i < l.length
      · rw [succV_append e] at hj
        exact h.acy i e j hj (rch_append hk hr (hk _ _ hj))
      · have hi' : i = l.length := by simp at hi; omega
        subst hi'
        have hj' : j ∈ nextV (⟨name, a, []⟩ : Mv) := by
          rw [show ((l.length : Nat) : Int) = ((l.length : Nat) : Int) from rfl, succV_at (by simp)] at hj
          simpa using hj
        have hjl : j < l.length := by
          unfold nextV at hj'
          simp only [List.flatMap_nil, List.append_nil] at hj'
          exact h5 j hj'
        have := (rch_append hk hr hjl).lt'
        omega
/-- A value more: what is reached. -/
theorem setV_some {l : List Mv} {i : Int} {v : Mv} (h : l[i.toNat]? = some v) (m : Tm) : setV l i m = l.set i.toNat ⟨v.name, v.type, [m]⟩ := by unfold setV; rw [h]
theorem setV_length (l : List Mv) (i : Int) (m : Tm) : (setV l i m).length = l.length := by unfold setV; split <;> simp
theorem solve_parts {l : List Mv} {i : Int} {m : Tm} (h : solveE l i m = 0) : (0 ≤ i ∧ i < l.length) ∧ (∃ v, l[i.toNat]? = some v ∧ v.value = [] ∧ v ∈ l) ∧ valueE m l.length = 0 ∧ ∀ x ∈ Tm.metas m, ¬ Rch l x i := by
  unfold solveE at h
  by_cases h1 : 0 ≤ i ∧ i < l.length
  case neg => rw [if_pos h1] at h; omega
  rw [if_neg (by simpa using h1)] at h
  have hi : i.toNat < l.length := by omega
  rw [List.getElem?_eq_getElem hi] at h
  simp only at h
  by_cases h2 : l[i.toNat].value ≠ []
  · rw [if_pos h2] at h; omega
  rw [if_neg h2] at h
  by_cases h3 : valueE m l.length ≠ 0
  · rw [if_pos h3] at h; exact absurd h h3
  rw [if_neg h3] at h
  by_cases h4 : reachB l (Tm.metas m) i = true
  · rw [if_pos h4] at h; omega
  refine ⟨h1, ⟨l[i.toNat], List.getElem?_eq_getElem hi, by simpa using h2, List.getElem_mem _⟩, by simpa using h3, fun x hx hr => h4 ?_⟩
  unfold reachB
  classical
  exact decide_eq_true ⟨x, hx, hr⟩
theorem solve_of {l : List Mv} {i : Int} {m : Tm} {v : Mv} (h1 : 0 ≤ i ∧ i < l.length) (h2 : l[i.toNat]? = some v) (h3 : v.value = []) (h4 : valueE m l.length = 0) (h5 : ∀ x ∈ Tm.metas m, ¬ Rch l x i) : solveE l i m = 0 := by
  unfold solveE
  rw [if_neg (by simp [h1]), if_neg (by rw [h2]; simp [h3]), if_neg (by simp [h4]), if_neg]
  unfold reachB
  classical
  intro h
  obtain ⟨x, hx, hr⟩ := of_decide_eq_true h
  exact h5 x hx hr
section
variable {l : List Mv} {i : Int} {m : Tm} {v : Mv} (h0 : 0 ≤ i) (hi : i < l.length) (hv : l[i.toNat]? = some v) (hn : v.value = [])
include h0 hv in
theorem succ_set {k : Int} (hk : k ≠ i) : succV (setV l i m) k = succV l k := by
  rw [setV_some hv]
  unfold succV
  split
  · rw [List.getElem?_set_ne (by omega)]
  · rfl
include h0 hi hv hn in
theorem succ_seti : succV (setV l i m) i = succV l i ++ Tm.metas m := by
  rw [setV_some hv]
  unfold succV
  rw [if_pos h0, if_pos h0, List.getElem?_set_self (by omega), hv]
  unfold nextV
  simp [hn]
include h0 hi hv hn in
theorem rch_mono {a b : Int} (h : Rch l a b) : Rch (setV l i m) a b := by
  induction h with
  | refl h => exact .refl (by rw [setV_length]; exact h)
  | @step a j k h hj _ ih =>
    refine .step (by rw [setV_length]; exact h) ?_ ih
    by_cases e : a = i
    · subst e
      rw [succ_seti h0 hi hv hn]
      exact List.mem_append.2 (.inl hj)
    · rw [succ_set h0 hv e]; exact hj
include h0 hi hv hn in
theorem rch_set {a b : Int} (h : Rch (setV l i m) a b) : Rch l a b ∨ (Rch l a i ∧ ∃ x ∈ Tm.metas m, Rch (setV l i m) x b) := by
  induction h with
  | refl h => exact .inl (.refl (by rw [setV_length] at h; exact h))
  | @step a j k h hj hr ih =>
    rw [setV_length] at h
    by_cases e : a = i
    · subst e
      rw [succ_seti h0 hi hv hn] at hj
      rcases List.mem_append.1 hj with hj | hj
      · rcases ih with ih | ⟨ih, hx⟩
        · exact .inl (.step h hj ih)
        · exact .inr ⟨.refl h, hx⟩
      · exact .inr ⟨.refl h, j, hj, hr⟩
    · rw [succ_set h0 hv e] at hj
      rcases ih with ih | ⟨ih, hx⟩
      · exact .inl (.step h hj ih)
      · exact .inr ⟨.step h hj ih, hx⟩
include h0 hi hv hn in
theorem rch_off {a b : Int} (h : Rch (setV l i m) a b) : ¬ Rch l a i → Rch l a b := by
  intro ha
  rcases rch_set h0 hi hv hn h with h | h
  · exact h
  · exact absurd h.1 ha
include h0 hi hv hn in
theorem acy_set (hA : Acy l) (hm : ∀ x ∈ Tm.metas m, ¬ Rch l x i) : Acy (setV l i m) := by
  intro k hk j hj hr
  rw [setV_length] at hk
  rcases rch_set h0 hi hv hn hr with h | ⟨h1, x, hx, h2⟩
  · by_cases e : k = i
    · subst e
      rw [succ_seti h0 hi hv hn] at hj
      rcases List.mem_append.1 hj with hj | hj
      · exact hA k hk j hj h
      · exact hm j hj h
    · rw [succ_set h0 hv e] at hj
      exact hA k hk j hj h
  · have h3 := rch_off h0 hi hv hn h2 (hm x hx)
    by_cases e : k = i
    · subst e; exact hm x hx h3
    · rw [succ_set h0 hv e] at hj
      exact hm x hx (h3.trans (.step hk hj h1))
end
theorem Play.solve {l : List Mv} (h : Play l) {i : Int} {m : Tm} (hm : m.size ≤ 200) : Play (solveS l i m) := by
  unfold solveS
  split
  · exact h
  · rename_i hs
    obtain ⟨⟨h0, hi⟩, ⟨v, hv, hn, hvl⟩, h3, h4⟩ := solve_parts (by simpa using hs)
    have hmem : ∀ u ∈ setV l i m, u ∈ l ∨ u = ⟨v.name, v.type, [m]⟩ := by
      intro u hu
      rw [setV_some hv] at hu
      exact (List.mem_or_eq_of_mem_set hu)
    refine ⟨by rw [setV_length]; exact h.len, fun k hk => ?_, fun u hu => ?_, fun u hu => ?_, acy_set h0 hi hv hn h.acy h4⟩
    · rw [setV_length] at hk
      have hk2 := h.ok k hk
      have e : (setV l i m)[k]? = if i.toNat = k then some ⟨v.name, v.type, [m]⟩ else l[k]? := by
        rw [setV_some hv, List.getElem?_set]
        split
        · rename_i e; subst e; simp [hk]
        · rfl
      by_cases e2 : i.toNat = k
      · rw [if_pos e2] at e
        subst e2
        rw [List.getElem?_eq_getElem (by rw [setV_length]; exact hk)] at e
        rw [Option.some.inj e]
        rw [List.getElem?_eq_getElem hk] at hv
        rw [← Option.some.inj hv]
        exact hk2
      · rw [if_neg e2, List.getElem?_eq_getElem (by rw [setV_length]; exact hk), List.getElem?_eq_getElem hk] at e
        rw [Option.some.inj e]
        exact hk2
    · rw [setV_length]
      rcases hmem u hu with hu | rfl
      · exact h.val u hu
      · exact ⟨by simp, fun x hx => by obtain rfl := List.mem_singleton.1 hx; exact h3⟩
    · rcases hmem u hu with hu | rfl
      · exact h.ar u hu
      · exact ⟨(h.ar v hvl).1, fun x hx => by obtain rfl := List.mem_singleton.1 hx; exact hm⟩
theorem firstE_only {α : Type} (f : α → Int) (x : α) (h : f x = 0) : firstE f [x] = 0 := by
  unfold firstE
  rw [if_neg (by simp [h])]
  unfold firstE
  rfl
theorem badA_ok (n : Nat) (l : List Mv) : ∀ k, (∀ i (h : i < l.length), mvE n (k + i) l[i] = 0) → badA n k l = (((k + l.length : Nat) : Int), 0) := by
  induction l with
  | nil => intro k _; rfl
  | cons m ms ih =>
    intro k h
    have h0 := h 0 (by simp)
    simp only [Nat.add_zero, List.getElem_cons_zero] at h0
    rw [badA, if_neg (by simp [h0]), ih (k + 1) (fun i hi => by have := h (i + 1) (by simpa using hi); rw [show k + 1 + i = k + (i + 1) by omega]; simpa using this)]
    simp only [List.length_cons]
    rw [show k + 1 + ms.length = k + (ms.length + 1) by omega]
theorem badC_ok {l : List Mv} (hA : Acy l) (k : Nat) : ∀ i, i + k ≤ l.length → badC l i k = (((i + k : Nat) : Int), 0) := by
  induction k with
  | zero => intro i _; rfl
  | succ k ih =>
    intro i hi
    rw [badC, if_neg, ih (i + 1) (by omega), show i + 1 + k = i + (k + 1) by omega]
    rintro ⟨j, hj, hr⟩
    exact hA i (by omega) j hj hr
theorem Plz.mvE {l : List Mv} (h : Plz l) (i : Nat) (hi : i < l.length) : mvE l.length i l[i] = 0 := by
  unfold LF.mvE
  obtain ⟨h1, h2⟩ := h.val _ (List.getElem_mem hi)
  rw [if_neg (by simp [h.ok i hi]), if_neg (by omega)]
  match hv : l[i].value with
  | [] => rfl
  | [v] => exact firstE_only _ v (h2 v (by rw [hv]; simp))
  | a :: b :: r => rw [hv] at h1; simp at h1
theorem Plz.valid {l : List Mv} (h : Plz l) : validR l = ((l.length : Int), 0) := by
  unfold validR
  have h1 := badA_ok l.length l 0 (fun i hi => by rw [Nat.zero_add]; exact h.mvE i hi)
  rw [h1, if_neg (by simp)]
  rw [badC_ok h.acy l.length 0 (by omega), Nat.zero_add]
theorem Play.valid {l : List Mv} (h : Play l) : validR l = ((l.length : Int), 0) := h.plz.valid
/-- The order of two solutions does not matter. -/
theorem orders_one {l : List Mv} {i k : Int} {x y : Tm} (hik : i ≠ k) (h1 : solveE l i x = 0) (h2 : solveE (setV l i x) k y = 0) : solveE l k y = 0 ∧ solveE (setV l k y) i x = 0 ∧ setV (setV l i x) k y = setV (setV l k y) i x := by
  obtain ⟨⟨i0, i1⟩, ⟨v, hv, vn, hvl⟩, xv, xr⟩ := solve_parts h1
  obtain ⟨⟨k0, k1⟩, ⟨u, hu, un, hul⟩, yv, yr⟩ := solve_parts h2
  rw [setV_length] at k1 yv
  have hne : i.toNat ≠ k.toNat := by omega
  have hu' : l[k.toNat]? = some u := by
    rw [setV_some hv, List.getElem?_set_ne hne] at hu
    exact hu
  have yr' : ∀ p ∈ Tm.metas y, ¬ Rch l p k := fun p hp hr => yr p hp (rch_mono i0 i1 hv vn hr)
  have hv' : (setV l k y)[i.toNat]? = some v := by rw [setV_some hu', List.getElem?_set_ne hne.symm]; exact hv
  refine ⟨solve_of ⟨k0, k1⟩ hu' un yv yr', solve_of ⟨i0, by rw [setV_length]; exact i1⟩ hv' vn (by rw [setV_length]; exact xv) (fun p hp hr => ?_), ?_⟩
  · rcases rch_set k0 k1 hu' un hr with h | ⟨h3, q, hq, h4⟩
    · exact xr p hp h
    · have h5 := rch_off k0 k1 hu' un h4 (yr' q hq)
      refine yr q hq ((rch_mono i0 i1 hv vn h5).trans (.step (by rw [setV_length]; exact i1) ?_ (rch_mono i0 i1 hv vn h3)))
      rw [succ_seti i0 i1 hv vn]
      exact List.mem_append.2 (.inr hp)
  · rw [setV_some hu, setV_some hv', setV_some hv, setV_some hu', List.set_comm _ _ hne]
theorem orders_iff {l : List Mv} {i k : Int} {x y : Tm} (hik : i ≠ k) : (solveE l i x = 0 ∧ solveE (solveS l i x) k y = 0) ↔ (solveE l k y = 0 ∧ solveE (solveS l k y) i x = 0) := by
  unfold solveS
  constructor
  · rintro ⟨h1, h2⟩
    rw [if_neg (by simp [h1])] at h2
    obtain ⟨h3, h4, _⟩ := orders_one hik h1 h2
    exact ⟨h3, by rw [if_neg (by simp [h3])]; exact h4⟩
  · rintro ⟨h1, h2⟩
    rw [if_neg (by simp [h1])] at h2
    obtain ⟨h3, h4, _⟩ := orders_one (Ne.symm hik) h1 h2
    exact ⟨h3, by rw [if_neg (by simp [h3])]; exact h4⟩
theorem orders_same {l : List Mv} {i k : Int} {x y : Tm} (hik : i ≠ k) (h1 : solveE l i x = 0) (h2 : solveE (solveS l i x) k y = 0) : solveS (solveS l i x) k y = solveS (solveS l k y) i x := by
  have e1 : solveS l i x = setV l i x := if_neg (by simp [h1])
  rw [e1] at h2 ⊢
  obtain ⟨h3, h4, h6⟩ := orders_one hik h1 h2
  have e2 : solveS l k y = setV l k y := if_neg (by simp [h3])
  rw [e2]
  have e3 : solveS (setV l i x) k y = setV (setV l i x) k y := if_neg (by simp [h2])
  have e4 : solveS (setV l k y) i x = setV (setV l k y) i x := if_neg (by simp [h4])
  rw [e3, e4, h6]
end Go.LF
namespace Go.LF
open Tm Go.Proofs.YtdomloghcpfdjaaGreatDoor
/-- With a lesser count. -/
def Less (r r' : Res) (c c' : Nat) : Prop := r'.e = 0 ∧ r'.t = r.t ∧ r'.w + c = r.w + c'
theorem exT_mono (g : Int → Int → List Tm → Nat → Option Res) (hg : ∀ k i us c c', c' ≤ c → (∀ r, g k i us c = some r → r.e = 0 → ∃ r', g k i us c' = some r' ∧ Less r r' c c') ∧ (g k i us c = none → g k i us c' = none))
    (_hle : ∀ t c, c ≤ (exT g t c).w) (t : Tm) : ∀ c c', c' ≤ c → (exT g t c).e = 0 → Less (exT g t c) (exT g t c') c c' := by
  induction t using ind with
  | h k n i l ih =>
    intro c c' hc h
    have hA : ∀ (l : List Tm), (∀ t ∈ l, ∀ c c', c' ≤ c → (exT g t c).e = 0 → Less (exT g t c) (exT g t c') c c') → ∀ c c', c' ≤ c → (exL g l c).e = 0 → (exL g l c').e = 0 ∧ (exL g l c').ts = (exL g l c).ts ∧ (exL g l c').w + c = (exL g l c).w + c' := by
      intro l
      induction l with
      | nil => intro _ c c' _ _; rw [exL_nil, exL_nil]; exact ⟨rfl, rfl, by simp; omega⟩
      | cons t ts ih2 =>
        intro hm c c' hc h
        rw [exL_cons] at h
        split at h
        · rename_i h1
          split at h
          · rename_i h2
            obtain ⟨a1, a2, a3⟩ := hm t (by simp) c c' hc h1
            have hcc : (exT g t c').w ≤ (exT g t c).w := by omega
            obtain ⟨b1, b2, b3⟩ := ih2 (fun t ht => hm t (by simp [ht])) _ _ hcc h2
            rw [exL_cons, exL_cons, if_pos a1, if_pos h1, if_pos b1, if_pos h2]
            refine ⟨rfl, ?_, ?_⟩
            · simp only [a2, b2]
            · simp only; omega
          · rename_i h2; exact absurd h h2
        · rename_i h1; exact absurd h h1
    rw [exT_mk] at h ⊢
    rw [exT_mk]
    split at h
    · rename_i he
      obtain ⟨a1, a2, a3⟩ := hA l ih c c' hc he
      have hcc : (exL g l c').w ≤ (exL g l c).w := by omega
      rw [if_pos he, if_pos a1, a2]
      obtain ⟨g1, g2⟩ := hg k i (exL g l c).ts _ _ hcc
      cases hq : g k i (exL g l c).ts (exL g l c).w with
      | none =>
        rw [g2 hq]
        rw [hq] at h
        have h : (chk (mk k n i (exL g l c).ts) (exL g l c).w).e = 0 := h
        show Less (chk _ _) (chk _ _) c c'
        unfold chk at h ⊢
        split
        · exact ⟨rfl, rfl, a3⟩
        · rename_i hs; rw [if_neg hs] at h; simp at h
      | some r =>
        rw [hq] at h
        obtain ⟨r', e1, e2⟩ := g1 r hq h
        rw [e1]
        refine ⟨e2.1, e2.2.1, ?_⟩
        have := e2.2.2
        show r'.w + c = r.w + c'
        omega
    · rename_i he; exact absurd h he
theorem exF_mono (l : List Mv) (n : Nat) : ∀ t c c', c' ≤ c → (exF l n t c).e = 0 → Less (exF l n t c) (exF l n t c') c c' := by
  induction n with
  | zero => intro t c c' _ h; simp [exF] at h
  | succ n ih =>
    intro t
    rw [exF_succ]
    refine exT_mono _ (fun k i us c c' hc => ⟨fun r hr h0 => ?_, fun hn => ?_⟩) (exT_le _ (exG_le l n)) t
    · cases hs : slv l k i with
      | none => rw [exG_none hs] at hr; cases hr
      | some m =>
        rw [exG_some hs] at hr ⊢
        obtain rfl := Option.some.inj hr
        refine ⟨_, rfl, ?_⟩
        unfold exR at h0 ⊢
        split at h0
        · simp at h0
        · rename_i h1
          split at h0
          · rename_i h2; exact absurd h0 h2
          · rename_i h2
            rw [if_neg h1, if_neg h2, if_neg (by omega), if_neg h2]
            obtain ⟨a1, a2, a3⟩ := ih _ _ _ (show c' + 1 ≤ c + 1 by omega) h0
            exact ⟨a1, a2, by omega⟩
    · cases hs : slv l k i with
      | none => rw [exG_none hs]
      | some m => rw [exG_some hs] at hn; cases hn
theorem exL_each (g : Int → Int → List Tm → Nat → Option Res) (l : List Tm) : ∀ c, (exL g l c).e = 0 → Pw (fun t x => ∃ cj, (exT g t cj).e = 0 ∧ x = (exT g t cj).t) l (exL g l c).ts := by
  intro c h
  exact exL_ind g _ l (fun t _ c h => ⟨c, h, rfl⟩) c h
theorem expE_wf {l : List Mv} {t : Tm} (h : expE l t = 0) : t.wf = 0 ∧ (∀ i ∈ Tm.metas t, i < l.length) ∧ (exF l 16385 t 0).e = 0 := by
  unfold expE at h
  split at h
  · rename_i h1; exact absurd h h1
  rename_i h1
  split at h
  · omega
  rename_i h2
  refine ⟨by simpa using h1, fun i hi => ?_, h⟩
  simp only [List.any_eq_true, not_exists, not_and, decide_eq_true_eq] at h2
  have := h2 i hi
  omega
theorem expE_of {l : List Mv} {t : Tm} (h1 : t.wf = 0) (h2 : ∀ i ∈ Tm.metas t, i < l.length) (h3 : (exF l 16385 t 0).e = 0) : expE l t = 0 := by
  unfold expE
  rw [if_neg (by simp [h1]), if_neg, h3]
  simp only [List.any_eq_true, not_exists, not_and, decide_eq_true_eq]
  intro i hi
  have := h2 i hi
  omega
theorem nests {l : List Mv} (hG : StG l) {k i : Int} {n : List UInt8} {ps : List Tm} (ho : (mk k n i ps).isObj = true) (h : expE l (mk k n i ps) = 0) :
    (∀ a ∈ ps, expE l a = 0) ∧ ((mk k n i (ps.map (expT l))).wf = 0 → expE l (mk k n i (ps.map (expT l))) = 0 ∧ expT l (mk k n i (ps.map (expT l))) = expT l (mk k n i ps)) := by
  obtain ⟨h1, h2, h3⟩ := expE_wf h
  have hobj := (obj_args ho).1
  have hsm := (wf_any3 h1)
  have hms : ∀ a ∈ ps, a.small = true := arg_small (k := k) (n := n) (i := i) (by
    unfold small
    rw [Bool.and_eq_true, decide_eq_true_eq, decide_eq_true_eq]
    exact ⟨hsm.2.1, by have := hsm.2.2; omega⟩)
  have hN := (nal_metas (N := fun i => i < (l.length : Int)) _ h1).2 h2
  rw [nal_mk, nalA_iff] at hN
  have h3' := h3
  rw [show (16385 : Nat) = 16384 + 1 from rfl, exF_succ, exT_mk] at h3
  split at h3
  case isFalse he => exact absurd h3 he
  rename_i he
  have hE := exL_each _ ps 0 he
  have key : ∀ a ∈ ps, expE l a = 0 := by
    have h5 : ∀ a ∈ ps, ∃ cj, (exT (exG l (exF l 16384)) a cj).e = 0 := by
      clear h3 he
      generalize (exL (exG l (exF l 16384)) ps 0).ts = us at hE
      clear h h1 h2 ho hobj hsm hms hN h3'
      induction hE with
      | nil => intro a ha; cases ha
      | cons hx _ ih =>
        intro a ha
        rcases List.mem_cons.1 ha with rfl | ha
        · obtain ⟨cj, hcj, _⟩ := hx; exact ⟨cj, hcj⟩
        · exact ih a ha
    intro a ha
    obtain ⟨cj, hcj⟩ := h5 a ha
    have hwa := small_wf (hobj a ha) (hms a ha)
    refine expE_of hwa ((nal_metas (N := fun i => i < (l.length : Int)) a hwa).1 (hN.2 a ha)) ?_
    rw [← exF_succ] at hcj
    exact (exF_mono l 16385 a cj 0 (Nat.zero_le _) hcj).1
  refine ⟨key, fun hw => ?_⟩
  have hts : (exL (exG l (exF l 16384)) ps 0).ts = ps.map (expT l) := by
    have h6 : ∀ (ps us : List Tm), (∀ a ∈ ps, expE l a = 0) → Pw (fun t x => ∃ cj, (exT (exG l (exF l 16384)) t cj).e = 0 ∧ x = (exT (exG l (exF l 16384)) t cj).t) ps us → us = ps.map (expT l) := by
      intro ps us hk hF
      induction hF with
      | nil => rfl
      | @cons a x ps us hx _ ih =>
        obtain ⟨cj, hcj, rfl⟩ := hx
        rw [List.map_cons, ← ih (fun a ha => hk a (by simp [ha]))]
        congr 1
        rw [← exF_succ] at hcj ⊢
        have h7 := (exF_mono l 16385 a cj 0 (Nat.zero_le _) hcj).2.1
        unfold expT
        rw [if_pos (hk a (by simp)), h7]
    exact h6 ps _ key hE
  have hU : ∀ x ∈ ps.map (expT l), Us l x ∧ x.small = true := by
    intro x hx
    obtain ⟨a, ha, rfl⟩ := List.mem_map.1 hx
    have e := key a ha
    unfold expT
    rw [if_pos e]
    exact ⟨exF_us l _ _ _, exF_small l _ _ _ (expE_wf e).2.2⟩
  have hL : ∀ (xs : List Tm), (∀ x ∈ xs, Us l x ∧ x.small = true) → ∀ c, exL (exG l (exF l 16384)) xs c = ⟨0, xs, c⟩ := by
    intro xs
    induction xs with
    | nil => intro _ c; rw [exL_nil]
    | cons x xs ih =>
      intro hx c
      rw [exL_cons, exT_same l _ x (hx x (by simp)).1 (hx x (by simp)).2, if_pos rfl, ih (fun y hy => hx y (by simp [hy])), if_pos rfl]
  have hout : (exF l 16385 (mk k n i (ps.map (expT l))) 0).e = 0 ∧ (exF l 16385 (mk k n i (ps.map (expT l))) 0).t = (exF l 16385 (mk k n i ps) 0).t := by
    rw [show (16385 : Nat) = 16384 + 1 from rfl, exF_succ, exT_mk, exT_mk, hL _ hU, if_pos rfl, if_pos he, hts]
    rw [hts] at h3
    simp only
    cases hs : slv l k i with
    | none =>
      rw [exG_none hs] at h3 ⊢
      rw [exG_none hs]
      have h3 : (chk (mk k n i (ps.map (expT l))) (exL (exG l (exF l 16384)) ps 0).w).e = 0 := h3
      show (chk _ _).e = 0 ∧ (chk _ _).t = (chk _ _).t
      unfold chk at h3 ⊢
      split
      · exact ⟨rfl, rfl⟩
      · rename_i h8; rw [if_neg h8] at h3; simp at h3
    | some m =>
      rw [exG_some hs] at h3 ⊢
      rw [exG_some hs]
      have h3 : (exR l 16384 m (ps.map (expT l)) (exL (exG l (exF l 16384)) ps 0).w).e = 0 := h3
      show (exR _ _ _ _ _).e = 0 ∧ (exR _ _ _ _ _).t = (exR _ _ _ _ _).t
      unfold exR at h3 ⊢
      split at h3
      · simp at h3
      rename_i h8
      split at h3
      · rename_i h9; exact absurd h3 h9
      rename_i h9
      rw [if_neg h8, if_neg h9, if_neg (by omega), if_neg h9]
      obtain ⟨a1, a2, _⟩ := exF_mono l 16384 _ _ (0 + 1) (by omega) h3
      exact ⟨a1, a2⟩
  have hkn : ∀ j ∈ Tm.metas (mk k n i (ps.map (expT l))), j < (l.length : Int) := by
    refine (nal_metas (N := fun i => i < (l.length : Int)) _ hw).1 ((nal_mk _ _ _ _).2 ⟨hN.1, (nalA_iff _).2 fun x hx => ?_⟩)
    obtain ⟨a, ha, rfl⟩ := List.mem_map.1 hx
    unfold expT
    rw [if_pos (key a ha)]
    refine exF_nal (fun _ _ _ _ _ e => absurd e (by decide)) (fun e => absurd e (by decide)) l (fun m hm v hv => ?_) _ _ _ (hN.2 a ha)
    exact nal_imp (fun _ _ _ _ h => h.1) v ((hG.mv m hm).kn.2 v hv)
  have h10 := expE_of hw hkn hout.1
  refine ⟨h10, ?_⟩
  have e1 : expT l (mk k n i (ps.map (expT l))) = (exF l 16385 (mk k n i (ps.map (expT l))) 0).t := if_pos h10
  have e2 : expT l (mk k n i ps) = (exF l 16385 (mk k n i ps) 0).t := if_pos h
  rw [e1, e2, hout.2]
end Go.LF
