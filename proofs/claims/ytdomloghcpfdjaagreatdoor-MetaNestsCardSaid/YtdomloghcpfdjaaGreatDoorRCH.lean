/- What the sum of the sorts of a term is, by its kind. No program is in sight here but for the name of the sum. -/
import Derived.Test.YtdomloghcpfdjaaGreatDoorRCA
import Derived.Test.YtdomloghcpfdjaaGreatDoorRCC
import Derived.Test.YtdomloghcpfdjaaGreatDoorRCD
import Derived.Test.YtdomloghcpfdjaaGreatDoorRCE
import Derived.Test.YtdomloghcpfdjaaGreatDoorRCF
import Derived.Test.YtdomloghcpfdjaaGreatDoorRCG
import Derived.Test.YtdomloghcpfdjaaGreatDoorRows
import Derived.Below
import Derived.ChangeSame
import Derived.Deep.RegionHeld3
import Derived.Deep.RegionLaw
import Derived.IntWalk
import Derived.LaidMore
import Derived.Laws.AppendOwn
import Derived.MakeChecks
import Derived.OpenShut
import Derived.ProofKit
import Derived.SevenTiedAt
import Derived.SizedLaws
import Derived.Stop.Joined
namespace Go.Proofs.YtdomloghcpfdjaaGreatDoor
open Go.LF
theorem isTyp_not (k n i ts) (h4 : (k == 4) = false) (h : (k == 2 && Tm.bound n i ts 2) = false) : (Tm.mk k n i ts).isTyp = false := by
  rw [isTyp_eq, Tm.isAtom, h4, Bool.false_and, Bool.false_or, ← Bool.and_assoc, h, Bool.false_and]
theorem sorts_1 (k n i ts) (h : (k == 1) = true) : sorts (.mk k n i ts) = if n == [] && (i == 0 && ts.isEmpty) then 4 else 0 := by
  have hk : k = 1 := by simpa using h
  subst hk
  rw [sorts, isKnd_1 _ _ _ _ h, isObj_no _ _ _ _ rfl rfl rfl rfl, isTyp_not _ _ _ _ rfl rfl]
  simp
theorem sorts_2_no (k n i ts) (h : (k == 2) = true) (hb : Tm.bound n i ts 2 = false) : sorts (.mk k n i ts) = 0 := by
  have hk : k = 2 := by simpa using h
  subst hk
  rw [sorts, isKnd_no1 _ _ _ _ rfl (by rw [hb]; rfl), isObj_no _ _ _ _ rfl rfl rfl rfl, isTyp_not _ _ _ _ rfl (by rw [hb]; rfl)]
  simp
theorem sorts_2 (k n i x y) (h : (k == 2) = true) (hb : Tm.bound n i [x, y] 2 = true) :
    sorts (.mk k n i [x, y]) = if x.isTyp then (if y.isTyp then 2 else 0) + (if y.isKnd then 4 else 0) else 0 := by
  have hk : k = 2 := by simpa using h
  subst hk
  rw [sorts, isKnd_2 _ _ _ _ _ (by rw [hb]; rfl), isObj_no _ _ _ _ rfl rfl rfl rfl, isTyp_eq, hb]
  have e : (((2 : Int) == 4) && (isName n && i == 0 && Tm.allObj [x, y]) || ((2 : Int) == 2) && (true && (x.isTyp && (y.isTyp && true)))) = (x.isTyp && y.isTyp) := by simp
  simp only [Tm.isAtom, Tm.allTyp, e]
  by_cases hx : x.isTyp = true <;> by_cases hy : y.isTyp = true <;> by_cases hz : y.isKnd = true <;> simp [hx, hy, hz]
theorem isKnd_none (k n i ts) (h1 : (k == 1) = false) (h2 : (k == 2) = false) : (Tm.mk k n i ts).isKnd = false := isKnd_no1 _ _ _ _ h1 (by rw [h2]; rfl)
theorem sorts_3_no (k n i ts) (h : (k == 3) = true) (hb : Tm.bound n i ts 1 = false) : sorts (.mk k n i ts) = 0 := by
  have hk : k = 3 := by simpa using h
  subst hk
  rw [sorts, isKnd_none _ _ _ _ rfl rfl, isObj_3 _ _ _ _ rfl, hb, isTyp_not _ _ _ _ rfl rfl]
  simp
theorem sorts_3 (k n i x) (h : (k == 3) = true) (hb : Tm.bound n i [x] 1 = true) : sorts (.mk k n i [x]) = if x.isObj then 1 else 0 := by
  have hk : k = 3 := by simpa using h
  subst hk
  rw [sorts, isKnd_none _ _ _ _ rfl rfl, isObj_3 _ _ _ _ rfl, hb, isTyp_not _ _ _ _ rfl rfl]
  simp [Tm.allObj]
theorem sorts_4_no (k n i ts) (h : (k == 4) = true) (hb : (isName n && i == 0) = false) : sorts (.mk k n i ts) = 0 := by
  have hk : k = 4 := by simpa using h
  subst hk
  rw [sorts, isKnd_none _ _ _ _ rfl rfl, isObj_4 _ _ _ _ rfl, isTyp_eq, Tm.isAtom, hb]
  simp
theorem sorts_4 (k n i ts) (h : (k == 4) = true) (hb : (isName n && i == 0) = true) : sorts (.mk k n i ts) = if Tm.allObj ts then 3 else 0 := by
  have hk : k = 4 := by simpa using h
  subst hk
  rw [sorts, isKnd_none _ _ _ _ rfl rfl, isObj_4 _ _ _ _ rfl, isTyp_eq, Tm.isAtom, hb]
  cases Tm.allObj ts <;> rfl
theorem sorts_5_no (k n i ts) (h : (k == 5) = true) (hb : (n == [] && decide (0 ≤ i) && decide (i ≤ 1048576)) = false) : sorts (.mk k n i ts) = 0 := by
  have hk : k = 5 := by simpa using h
  subst hk
  rw [sorts, isKnd_none _ _ _ _ rfl rfl, isObj_5 _ _ _ _ rfl, hb, isTyp_not _ _ _ _ rfl rfl]
  simp
theorem sorts_5 (k n i ts) (h : (k == 5) = true) (hb : (n == [] && decide (0 ≤ i) && decide (i ≤ 1048576)) = true) : sorts (.mk k n i ts) = if Tm.allObj ts then 1 else 0 := by
  have hk : k = 5 := by simpa using h
  subst hk
  rw [sorts, isKnd_none _ _ _ _ rfl rfl, isObj_5 _ _ _ _ rfl, hb, isTyp_not _ _ _ _ rfl rfl]
  simp
theorem sorts_6_no (k n i ts) (h : (k == 6) = true) (hb : (n == [] && decide (0 ≤ i) && decide (i < 2048)) = false) : sorts (.mk k n i ts) = 0 := by
  have hk : k = 6 := by simpa using h
  subst hk
  rw [sorts, isKnd_none _ _ _ _ rfl rfl, isObj_6 _ _ _ _ rfl, hb, isTyp_not _ _ _ _ rfl rfl]
  simp
theorem sorts_6 (k n i ts) (h : (k == 6) = true) (hb : (n == [] && decide (0 ≤ i) && decide (i < 2048)) = true) : sorts (.mk k n i ts) = if Tm.allObj ts then 1 else 0 := by
  have hk : k = 6 := by simpa using h
  subst hk
  rw [sorts, isKnd_none _ _ _ _ rfl rfl, isObj_6 _ _ _ _ rfl, hb, isTyp_not _ _ _ _ rfl rfl]
  simp
theorem sorts_0 (k n i ts) (h1 : (k == 1) = false) (h2 : (k == 2) = false) (h3 : (k == 3) = false) (h4 : (k == 4) = false) (h5 : (k == 5) = false) (h6 : (k == 6) = false) : sorts (.mk k n i ts) = 0 := by
  rw [sorts, isKnd_none _ _ _ _ h1 h2, isObj_no _ _ _ _ h3 h4 h5 h6, isTyp_not _ _ _ _ h4 (by rw [h2]; rfl)]
  simp
theorem sorts_wf (t : Tm) : t.wf = if sorts t == 0 then 1 else if !t.small then 2 else 0 := by
  unfold Tm.wf sorts
  cases t.isObj <;> cases t.isTyp <;> cases t.isKnd <;> rfl
end Go.Proofs.YtdomloghcpfdjaaGreatDoor
namespace Go.Proofs.YtdomloghcpfdjaaGreatDoor
open Go.RowKit Go.LF
theorem sorts_any (t : Tm) : t.wt ≤ 1000000 → ∀ (w : World) (cs : List Value), Rep none' w t.dat cs →
    Calls Tryz.prog 112 #[.agg cs.toArray] w fun e w' => e = .returned (.int .i64 (sorts t)) ∧ Upto none' w w' := by
  induction t using Tm.ind with
  | h k n i ts ih =>
    intro hs w cs h
    obtain ⟨a, cap, rfl, hcap, hE⟩ := rep_tm.1 h
    simp only [Tm.wt_mk] at hs
    have hlen : ts.length ≤ 1000000 := by have := Tm.length_le_sizes ts; have := Tm.sizes_le_wts ts; omega
    have hn : n.length ≤ 1000000 := by omega
    have H : SortsAt ts := fun x hx w cs h => ih x hx (by have := Tm.wt_le_wts hx; omega) w cs h
    clear ih h hcap hs
    have key : ∀ r : Int, sorts (.mk k n i ts) = r → Calls Tryz.prog 112 #[.agg #[.int .i64 k, .string (B n), .int .i64 i, .slice a ts.length cap]] w (fun e w' => e = .returned (.int .i64 r) ∧ Upto none' w w') →
        Calls Tryz.prog 112 #[.agg #[.int .i64 k, .string (B n), .int .i64 i, .slice a ts.length cap]] w (fun e w' => e = .returned (.int .i64 (sorts (.mk k n i ts))) ∧ Upto none' w w') := by
      intro r hr hc; rw [hr]; exact hc
    cases h1 : (k == 1)
    case true => exact key _ (sorts_1 k n i ts h1) (sorts1_any k i n ts h1 _ rfl w a cap)
    cases h2 : (k == 2)
    case true =>
      cases hb : Tm.bound n i ts 2
      · exact key _ (sorts_2_no k n i ts h2 hb) (sorts2_no k i n hn ts h2 hb w a cap)
      · have hb1 : ts.length = 2 := by unfold Tm.bound at hb; simp at hb; exact hb.1.2
        obtain ⟨x, y, rfl⟩ : ∃ x y, ts = [x, y] := by match ts, hb1 with | [x, y], _ => exact ⟨x, y, rfl⟩
        exact key _ (sorts_2 k n i x y h2 hb) (sorts2_yes k i n hn x y H h2 hb w a cap hE _ rfl)
    cases h3 : (k == 3)
    case true =>
      cases hb : Tm.bound n i ts 1
      · exact key _ (sorts_3_no k n i ts h3 hb) (sorts3_no k i n hn ts h3 hb w a cap)
      · have hb1 : ts.length = 1 := by unfold Tm.bound at hb; simp at hb; exact hb.1.2
        obtain ⟨x, rfl⟩ : ∃ x, ts = [x] := List.length_eq_one_iff.1 hb1
        exact key _ (sorts_3 k n i x h3 hb) (sorts3_yes k i n hn x H h3 hb w a cap hE)
    cases h4 : (k == 4)
    case true =>
      cases hb : (isName n && i == 0)
      · exact key _ (sorts_4_no k n i ts h4 hb) (sorts4_no k i n hn ts h4 hb w a cap)
      · obtain ⟨hf, hi⟩ : isName n = true ∧ i = 0 := by simpa using hb
        exact key _ (sorts_4 k n i ts h4 hb) (sorts4_yes k i n hn ts hlen H h4 hf hi w a cap hE _ rfl)
    cases h5 : (k == 5)
    case true =>
      cases hb : (n == [] && decide (0 ≤ i) && decide (i ≤ 1048576))
      · exact key _ (sorts_5_no k n i ts h5 hb) (sorts5_no k i n ts h5 hb w a cap)
      · obtain ⟨⟨hf, hi⟩, hj⟩ : (n = [] ∧ 0 ≤ i) ∧ i ≤ 1048576 := by simpa using hb
        exact key _ (sorts_5 k n i ts h5 hb) (sorts5_yes k i n hn ts hlen H h5 hf hi hj w a cap hE _ rfl)
    cases h6 : (k == 6)
    case true =>
      cases hb : (n == [] && decide (0 ≤ i) && decide (i < 2048))
      · exact key _ (sorts_6_no k n i ts h6 hb) (sorts6_no k i n ts h6 hb w a cap)
      · obtain ⟨⟨hf, hi⟩, hj⟩ : (n = [] ∧ 0 ≤ i) ∧ i < 2048 := by simpa using hb
        exact key _ (sorts_6 k n i ts h6 hb) (sorts6_yes k i n hn ts hlen H h6 hf hi hj w a cap hE _ rfl)
    exact key _ (sorts_0 k n i ts h1 h2 h3 h4 h5 h6) (sorts_none k i n ts h1 h2 h3 h4 h5 h6 w a cap)
set_option maxHeartbeats 1000000 in
theorem refIsType_any (t : Tm) (hs : t.wt ≤ 1000000) (w : World) (cs : List Value) (h : Rep none' w t.dat cs) :
    Calls Tryz.prog 83 #[.agg cs.toArray] w fun e w' => e = .returned (.bool (t.isTyp && t.small)) ∧ Upto none' w w' := by
  have HK := fun w cs h => sorts_any t hs w cs h
  have HS := fun w cs h => refSmall_any t (by have := Tm.size_le_wt t; omega) w cs h
  have hbit := bits_typ t
  obtain ⟨k, n, i, ts, a, cap, ht, rfl, hcap, hE⟩ := tm_open h
  generalize sorts t = st at *
  generalize t.isTyp = bk at *
  generalize t.small = sm at *
  have HT := hid ht
  clear ht hcap
  generalize ts.length = len at *
  cases bk
  all_goals
    simp only [Bool.false_eq_true, if_false, if_true] at hbit
    go_enter Tryz.func83, Tryz.ntmps83
    go_wp2_with fail
    refine (HK _ _ (h.new _)).mono ?_
    rintro e w1 ⟨rfl, hU⟩
    obtain ⟨b0, b1, b2, b3⟩ := box_new hU
    have hw1 : Upto none' w w1 := hU.behind
    go_wp2_with fail
  · go_ret
    exact ⟨rfl, hw1⟩
  · refine (HS _ _ (h.on hw1)).mono ?_
    rintro e w2 ⟨rfl, hU2⟩
    go_wp2
    go_ret
    exact ⟨rfl, hw1.and hU2⟩
set_option maxHeartbeats 1000000 in
theorem refIsObject_any (t : Tm) (hs : t.wt ≤ 1000000) (w : World) (cs : List Value) (h : Rep none' w t.dat cs) :
    Calls Tryz.prog 78 #[.agg cs.toArray] w fun e w' => e = .returned (.bool (t.isObj && t.small)) ∧ Upto none' w w' := by
  have HK := fun w cs h => sorts_any t hs w cs h
  have HS := fun w cs h => refSmall_any t (by have := Tm.size_le_wt t; omega) w cs h
  have hbit := bits_obj t
  obtain ⟨k, n, i, ts, a, cap, ht, rfl, hcap, hE⟩ := tm_open h
  generalize sorts t = st at *
  generalize t.isObj = bk at *
  generalize t.small = sm at *
  have HT := hid ht
  clear ht hcap
  generalize ts.length = len at *
  cases bk
  all_goals
    simp only [Bool.false_eq_true, if_false, if_true] at hbit
    go_enter Tryz.func78, Tryz.ntmps78
    go_wp2_with fail
    refine (HK _ _ (h.new _)).mono ?_
    rintro e w1 ⟨rfl, hU⟩
    obtain ⟨b0, b1, b2, b3⟩ := box_new hU
    have hw1 : Upto none' w w1 := hU.behind
    go_wp2_with fail
  · go_ret
    exact ⟨rfl, hw1⟩
  · refine (HS _ _ (h.on hw1)).mono ?_
    rintro e w2 ⟨rfl, hU2⟩
    go_wp2
    go_ret
    exact ⟨rfl, hw1.and hU2⟩
set_option maxHeartbeats 1000000 in
theorem refWellFormed_any (t : Tm) (hs : t.wt ≤ 1000000) (w : World) (cs : List Value) (h : Rep none' w t.dat cs) :
    Calls Tryz.prog 47 #[.agg cs.toArray] w fun e w' => e = .returned (.int .i64 t.wf) ∧ Upto none' w w' := by
  have HK := fun w cs h => sorts_any t hs w cs h
  have HS := fun w cs h => refSmall_any t (by have := Tm.size_le_wt t; omega) w cs h
  have hp := sorts_wf t
  obtain ⟨k, n, i, ts, a, cap, ht, rfl, hcap, hE⟩ := tm_open h
  generalize sorts t = st at *
  generalize t.small = sm at *
  generalize t.wf = r at *
  have HT := hid ht
  have HP := hid hp
  clear ht hcap hp
  generalize ts.length = len at *
  cases hz : (st == 0)
  all_goals
    go_enter Tryz.func47, Tryz.ntmps47
    go_wp2_with fail
    refine (HK _ _ (h.new _)).mono ?_
    rintro e w1 ⟨rfl, hU⟩
    obtain ⟨b0, b1, b2, b3⟩ := box_new hU
    have hw1 : Upto none' w w1 := hU.behind
    go_wp2_with fail
  · refine (HS _ _ (h.on hw1)).mono ?_
    rintro e w2 ⟨rfl, hU2⟩
    cases sm
    all_goals
      go_wp2
      go_ret
      exact ⟨ret_int (by rw [HP.out, hz]; rfl), hw1.and hU2⟩
  · go_ret
    exact ⟨ret_int (by rw [HP.out, hz]; rfl), hw1⟩
end Go.Proofs.YtdomloghcpfdjaaGreatDoor
namespace Go.LF.Tm
theorem scopes_take_succ (k : Int) (l : List Tm) : ∀ (j0 : Nat) (a : Int) (j : Nat) (h : j < l.length), scopes k j0 a (l.take (j + 1)) = max (scopes k j0 a (l.take j)) (scope l[j] - under k (j0 + j)) := by
  induction l with
  | nil => intro j0 a j h; simp at h
  | cons t ts ih =>
    intro j0 a j h
    cases j with
    | zero => simp [scopes]
    | succ j =>
      simp only [List.take_succ_cons, scopes, List.getElem_cons_succ]
      rw [ih (j0 + 1) _ j (by simpa using h)]
      rw [show j0 + 1 + j = j0 + (j + 1) by omega]
/-- All numbers in a term are those of a well-formed one. -/
def ok (t : Tm) : Prop := ∀ b, ∀ x ∈ nodes b t, x.ok
theorem ok_arg {k i : Int} {n : List UInt8} {l : List Tm} (h : (mk k n i l).ok) (j : Nat) (hj : j < l.length) : (l[j]).ok := by
  intro b x hx
  refine h (b - under k j) x ?_
  rw [nodes_mk]
  refine List.mem_cons.2 (.inr ?_)
  refine (nodesA_take_prefix l (b - under k j) k (j + 1)).subset ?_
  rw [nodesA_take_succ _ _ _ _ hj]
  refine List.mem_append.2 (.inr ?_)
  rw [show b - under k j + under k j = b by omega]
  exact hx
theorem ok_head {k i : Int} {n : List UInt8} {l : List Tm} (h : (mk k n i l).ok) : (k == 5) = true → 0 ≤ i ∧ i ≤ 1048576 := (h 0 ⟨0, k, n, i⟩ (by rw [nodes_mk]; simp)).1
theorem scope_le (t : Tm) : t.ok → 0 ≤ scope t ∧ scope t ≤ 1048577 := by
  induction t using ind with
  | h k n i l ih =>
    intro h
    have hh := ok_head h
    refine ⟨scope_nonneg _ (fun e => (hh e).1), ?_⟩
    rw [scope]
    have key : ∀ (l' : List Tm), (∀ t ∈ l', t.scope ≤ 1048577) → ∀ (j : Nat) (a : Int), a ≤ 1048577 → scopes k j a l' ≤ 1048577 := by
      intro l'
      induction l' with
      | nil => intro _ j a h; simpa [scopes] using h
      | cons t ts ih2 =>
        intro h j a ha
        rw [scopes]
        have := h t (by simp)
        have := under_le k j
        exact ih2 (fun t ht => h t (by simp [ht])) _ _ (by omega)
    refine key l (fun t ht => ?_) 0 _ ?_
    rotate_left
    · by_cases h5 : (k == 5) = true
      · have := hh h5; rw [if_pos h5]; omega
      · rw [if_neg h5]; omega
    obtain ⟨j, hj, rfl⟩ := List.mem_iff_getElem.1 ht
    exact (ih _ ht (ok_arg h j hj)).2
theorem scopes_le {k i : Int} {n : List UInt8} {l : List Tm} (h : (mk k n i l).ok) (j : Nat) : 0 ≤ scopes k 0 (if k == 5 then i + 1 else 0) (l.take j) ∧ scopes k 0 (if k == 5 then i + 1 else 0) (l.take j) ≤ 1048577 := by
  have := scope_le (mk k n i (l.take j)) (fun b x hx => h b x (by
    rw [nodes_mk] at hx ⊢
    rcases List.mem_cons.1 hx with rfl | hx
    · simp
    · exact List.mem_cons.2 (.inr ((nodesA_take_prefix l b k j).subset hx))))
  rw [scope] at this
  exact this
end Go.LF.Tm
namespace Go.Proofs.YtdomloghcpfdjaaGreatDoor
open Go.RowKit Go.LF
set_option maxRecDepth 100000 in
set_option maxHeartbeats 4000000 in
theorem refscope_any (t : Tm) : t.size ≤ 1000000 → t.ok → ∀ (w : World) (cs : List Value), Rep none' w t.dat cs →
    Calls Tryz.prog 129 #[.agg cs.toArray] w fun e w' => e = .returned (.int .i64 t.scope) ∧ Upto none' w w' := by
  induction t using Tm.ind with
  | h k n i ts ih =>
    intro hs hok w cs h
    obtain ⟨a, cap, rfl, hcap, hE⟩ := rep_tm.1 h
    have hlen := Tm.length_le_sizes ts
    simp only [Tm.size_mk] at hs
    have hi := Tm.ok_head hok
    have hr : (Tm.mk k n i ts).scope = Tm.scopes k 0 (if k == 5 then i + 1 else 0) ts := by rw [Tm.scope]
    generalize (Tm.mk k n i ts).scope = r at *
    have HR := hid hr
    have HOK := hid hok
    clear hr hok h
    obtain ⟨s0, hs0⟩ : ∃ s0, s0 = (if k == 5 then i + 1 else 0) := ⟨_, rfl⟩
    have hs1 : 0 ≤ s0 ∧ s0 ≤ 1048577 := by
      rw [hs0]
      by_cases h5 : (k == 5) = true
      · have := hi h5; rw [if_pos h5]; omega
      · rw [if_neg h5]; omega
    have HS := hid hs0
    have hsl : ∀ j, 0 ≤ Tm.scopes k 0 s0 (ts.take j) ∧ Tm.scopes k 0 s0 (ts.take j) ≤ 1048577 := by rw [hs0]; exact Tm.scopes_le HOK.out
    have HSL := hid hsl
    clear hsl
    have hw0 : ((k == 5) = true ∧ s0 = i + 1 ∧ 0 ≤ i ∧ i ≤ 1048576) ∨ ((k == 5) = false ∧ s0 = 0) := by
      by_cases h5 : (k == 5) = true
      · exact .inl ⟨h5, by rw [hs0, if_pos h5], hi h5⟩
      · exact .inr ⟨by simpa using h5, by rw [hs0, if_neg h5]⟩
    rw [← hs0] at HR
    clear hi hs0
    rcases hw0 with ⟨h5, hs2, hi0, hi1⟩ | ⟨h5, hs2⟩
    all_goals
      have HS2 := hid hs2
      clear hs2
      go_enter Tryz.func129, Tryz.ntmps129
      go_wp2_with fail
      go_loopw [3, 4] (fun v3 v4 wr => ∃ j : Nat, j ≤ ts.length ∧ v4 = .int .i64 j ∧ v3 = .int .i64 (Tm.scopes k 0 s0 (ts.take j)) ∧ Upto none' (w.alloc (.cells #[.int .i64 k, .string (B n), .int .i64 i, .slice a ts.length cap] 29)) wr)
        (fun _ v4 _ => ts.length - (intOf v4).toNat)
      case atStart => exact ⟨0, Nat.zero_le _, rfl, int_eq (by rw [HS2.out]; simp [Tm.scopes]), Upto.refl _ _⟩
      case round =>
        obtain ⟨j, hj, rfl, rfl, hU⟩ := hrel
        have hw : Upto none' w wr := hU.behind
        obtain ⟨b0, b1, b2, b3⟩ := box_new hU
        obtain ⟨c0, c1⟩ := HSL.out j
        by_cases hlt : j < ts.length
        · obtain ⟨b, o, k1, n1, x1, s1, cp, rfl, hb, _, p0, p1, p2, p3, hRp⟩ := arg_tm (hE.on hw) j hlt
          have hT := Tm.scopes_take_succ k ts 0 s0 j hlt
          rw [Nat.zero_add] at hT
          have hs4 := Tm.size_le_sizes (List.getElem_mem hlt)
          have hok := Tm.ok_arg HOK.out j hlt
          obtain ⟨d0, d1⟩ := Tm.scope_le _ hok
          obtain ⟨e0, e1⟩ := Tm.under_le k j
          have hd : Upto none' wr wr.drew := (Upto.refl none' wr).drew
          have H1 := fun w' (hU : Upto none' wr w') => (ih _ (List.getElem_mem hlt) (by omega) hok w' _ (hRp.on hU)).mono fun _ _ ⟨he, hV⟩ => (⟨he, hU.and hV⟩ : _ ∧ Upto none' wr _)
          have H2 := fun w' (hU : Upto none' wr w') => (under_any k j j rfl n i (.slice (some ⟨b, o, none⟩) ts.length cap) w').mono fun _ _ ⟨he, hV⟩ => (⟨he, hU.and hV⟩ : _ ∧ Upto none' wr _)
          have HT := hid hT
          clear hT hok
          have j0 : (0 : Int) ≤ (j : Int) := by omega
          have j1 : (j : Int) < (ts.length : Int) := by omega
          generalize ts[j].scope = sc at *
          generalize Tm.under k j = u at *
          generalize Tm.scopes k 0 s0 (ts.take j) = acc at *
          go_wp2_with fail
          go_region_held3 (fun w' => (w'.cell? ⟨w.heap.size, 0, none⟩ = some (.int .i64 k) ∧ w'.cell? ⟨w.heap.size, 1, none⟩ = some (.string (B n)) ∧ w'.cell? ⟨w.heap.size, 2, none⟩ = some (.int .i64 i) ∧ w'.cell? ⟨w.heap.size, 3, none⟩ = some (.slice (some ⟨b, o, none⟩) ts.length cap)) ∧
              w'.cell? ⟨b, o + j * 4, none⟩ = some (.int .i64 k1) ∧ w'.cell? ⟨b, o + j * 4 + 1, none⟩ = some (.string (B n1)) ∧ w'.cell? ⟨b, o + j * 4 + 2, none⟩ = some (.int .i64 x1) ∧ w'.cell? ⟨b, o + j * 4 + 3, none⟩ = some (.slice s1 ts[j].args.length cp))
            (first | go_keep | (exact ⟨⟨hU1.cell b0 (fun x => x), hU1.cell b1 (fun x => x), hU1.cell b2 (fun x => x), hU1.cell b3 (fun x => x)⟩, hU1.cell p0 (fun x => x), hU1.cell p1 (fun x => x), hU1.cell p2 (fun x => x), hU1.cell p3 (fun x => x)⟩))
            (first | (go_at_call 129; refine (H1 _ (by first | exact hU1 | exact hd)).mono ?_; rintro e w1 ⟨rfl, hU1⟩) | (go_at_call 166; refine (H2 _ (by first | exact hU1 | exact hd)).mono ?_; rintro e w1 ⟨rfl, hU1⟩))
          go_wp2
          go_roundw
          case rel =>
            have fin : ∃ j1 : Nat, j1 ≤ ts.length ∧ Value.int .i64 ((j : Int) + 1) = .int .i64 j1 ∧ Value.int .i64 (if acc < IntKind.i64.wrap (sc - u) then IntKind.i64.wrap (sc - u) else acc) = .int .i64 (Tm.scopes k 0 s0 (ts.take j1)) ∧ Upto none' _ w1 :=
              ⟨j + 1, by omega, by go_num, int_eq (by rw [HT.out, Go.IntWalk.i64_left, Go.IntWalk.wrap64_in _ (by omega)]; split <;> omega), hU.and hU1⟩
            first | exact fin | ((repeat apply Exists.intro); exact ⟨fin, rfl⟩)
          case measure => simp [intOf]; omega
        · have hj' : ts.take j = ts := List.take_of_length_le (by omega)
          rw [hj'] at *
          go_wp2
          go_ret
          exact ⟨ret_int HR.out.symm, hw⟩
set_option maxHeartbeats 2000000 in
theorem refScope_any (t : Tm) (hwt : t.wt ≤ 1000000) (w : World) (cs : List Value) (h : Rep none' w t.dat cs) :
    Calls Tryz.prog 55 #[.agg cs.toArray] w fun e w' => e = .returned (.int .i64 (if t.wf == 0 then t.scope else 0)) ∧ Upto none' w w' := by
  have HW := fun w cs h => refWellFormed_any t hwt w cs h
  have HS := fun (hok : t.ok) w cs h => refscope_any t (Nat.le_trans (Tm.size_le_wt t) hwt) hok w cs h
  have hq : t.wf = 0 → t.ok := fun h => (Tm.wf_ok t h).1
  obtain ⟨k, n, i, ts, a, cap, ht, rfl, hcap, hE⟩ := tm_open h
  generalize t.scope = sc at *
  generalize t.wf = wf at *
  have HT := hid ht
  clear ht hcap
  generalize ts.length = len at *
  by_cases hz : (wf == 0) = true
  · have z1 : (wf != 0) = false := by simp [bne, hz]
    have hok := hq (by simpa using hz)
    simp only [hz, if_true]
    clear hq
    go_enter Tryz.func55, Tryz.ntmps55
    go_wp2_with fail
    refine (HW _ _ (h.new _)).mono ?_
    rintro e w1 ⟨rfl, hU⟩
    obtain ⟨b0, b1, b2, b3⟩ := box_new hU
    have hw1 : Upto none' w w1 := hU.behind'
    go_wp2_with fail
    refine (HS hok _ _ (h.on hw1)).mono ?_
    rintro e w2 ⟨rfl, hU2⟩
    go_wp2
    go_ret
    exact ⟨rfl, hw1.and hU2⟩
  · have z1 : (wf != 0) = true := by simp at hz; simp [bne, hz]
    simp only [hz]
    clear hq
    go_enter Tryz.func55, Tryz.ntmps55
    go_wp2_with fail
    refine (HW _ _ (h.new _)).mono ?_
    rintro e w1 ⟨rfl, hU⟩
    have hw1 : Upto none' w w1 := hU.behind'
    go_wp2
    go_ret
    exact ⟨rfl, hw1⟩
end Go.Proofs.YtdomloghcpfdjaaGreatDoor
namespace Go.Proofs.YtdomloghcpfdjaaGreatDoor
open Go.RowKit Go.LF
theorem contains_take (l : List Int) (n : Int) (j : Nat) (h : j < l.length) : (l.take (j + 1)).contains n = ((l.take j).contains n || l[j] == n) := by
  rw [List.take_succ_eq_append_getElem h, List.contains_eq_any_beq, List.contains_eq_any_beq, List.any_append]
  simp [Bool.beq_comm]
theorem contains_at (l : List Int) (n : Int) (j : Nat) (h : j < l.length) (e : (l[j] == n) = true) : l.contains n = true := by
  have : l[j] = n := by simpa using e
  rw [← this]
  simp
set_option maxHeartbeats 1000000 in
theorem hasInt_any (l : List Int) (hl : l.length ≤ 10000000) (n : Int) {O : Nat → Prop} (w : World) (v : Value) (h : Rep O w (intsD l) [v]) :
    Calls Tryz.prog 134 #[v, .int .i64 n] w fun e w' => e = .returned (.bool (l.contains n)) ∧ Upto none' w w' := by
  obtain ⟨a, cap, rfl, hcap, hE⟩ := ints_open h
  obtain ⟨r, hr⟩ : ∃ r, r = l.contains n := ⟨_, rfl⟩
  rw [← hr]
  have HR := hid hr
  clear hr h
  go_enter Tryz.func134, Tryz.ntmps134
  go_wp2_with fail
  go_loopw [5] (fun v5 wr => ∃ j : Nat, j ≤ l.length ∧ v5 = .int .i64 j ∧ (l.take j).contains n = false ∧ w = wr)
    (fun v5 _ => l.length - (intOf v5).toNat)
  case atStart => exact ⟨0, Nat.zero_le _, rfl, rfl, rfl⟩
  case round =>
    obtain ⟨j, hj, rfl, hA, rfl⟩ := hrel
    have HA := hid hA
    clear hA
    by_cases hlt : j < l.length
    · obtain ⟨b, o, rfl, hb, _, hc⟩ := int_cell hE j hlt
      have hT := contains_take l n j hlt
      have hM := contains_at l n j hlt
      rw [HA.out, Bool.false_or] at hT
      have HT := hid hT
      have HM := hid hM
      clear hT hM
      generalize l[j] = x at *
      by_cases hx : (x == n) = true
      · have hx' := hid hx
        go_wp2
        go_ret
        exact ⟨ret_bool (by rw [HR.out, HM.out hx'.out]), Upto.refl _ _⟩
      · have hx' := hid hx
        replace hx : (x == n) = false := by simpa using hx
        go_wp2
        go_roundw
        case rel =>
          have fin : ∃ j1 : Nat, j1 ≤ l.length ∧ Value.int .i64 ((j : Int) + 1) = .int .i64 j1 ∧ (l.take j1).contains n = false ∧ True :=
            ⟨j + 1, by omega, by go_num, by rw [HT.out]; simpa using hx'.out, trivial⟩
          first | exact fin | ((repeat apply Exists.intro); exact ⟨fin, rfl⟩)
        case measure => simp [intOf]; omega
    · have hj' : l.take j = l := List.take_of_length_le (by omega)
      have HA' := HA.out
      rw [hj'] at HA'
      have HO := hid HA'
      clear HA HA' hj'
      go_wp2
      go_ret
      exact ⟨ret_bool (by rw [HR.out, HO.out]), Upto.refl _ _⟩
theorem addMetasL_take_succ (l : List Tm) : ∀ (acc : List Int) (j : Nat) (h : j < l.length), Tm.addMetasL acc (l.take (j + 1)) = Tm.addMetas (Tm.addMetasL acc (l.take j)) l[j] := by
  induction l with
  | nil => intro acc j h; simp at h
  | cons t ts ih =>
    intro acc j h
    cases j with
    | zero => simp [Tm.addMetasL]
    | succ j => simp only [List.take_succ_cons, Tm.addMetasL, List.getElem_cons_succ]; exact ih _ j (by simpa using h)
theorem addMetas_len (t : Tm) (acc : List Int) : (Tm.addMetas acc t).length ≤ acc.length + t.size := by
  rw [← Tm.metas_fold t 0 acc, ← Tm.nodes_length t 0]
  have key : ∀ (ys : List Tm.Nd0) (a : List Int), (ys.foldl Tm.metaStep a).length ≤ a.length + ys.length := by
    intro ys
    induction ys with
    | nil => intro a; simp
    | cons y ys ih =>
      intro a
      rw [List.foldl_cons]
      have := ih (Tm.metaStep a y)
      have h2 : (Tm.metaStep a y).length ≤ a.length + 1 := by unfold Tm.metaStep; split <;> simp
      simp only [List.length_cons]
      omega
  exact key _ _
theorem addMetasL_len (l : List Tm) : ∀ (acc : List Int), (Tm.addMetasL acc l).length ≤ acc.length + Tm.sizes l := by
  induction l with
  | nil => intro acc; simp [Tm.addMetasL]
  | cons t ts ih => intro acc; simp only [Tm.addMetasL, Tm.sizes]; have := ih (Tm.addMetas acc t); have := addMetas_len t acc; omega
set_option maxRecDepth 100000 in
set_option maxHeartbeats 4000000 in
theorem addMetas_any (t : Tm) : t.size ≤ 1000000 → ∀ (acc : List Int) (base : Nat) (w : World) (v : Value) (cs : List Value), acc.length + t.size ≤ 2000000 → base ≤ w.heap.size → Ints base w v acc → Rep (fun b => base ≤ b) w t.dat cs →
    Calls Tryz.prog 109 #[v, .agg cs.toArray] w fun e w' => ∃ v', e = .returned v' ∧ Ints base w' v' (Tm.addMetas acc t) ∧ RowUp 3 base w w' := by
  induction t using Tm.ind with
  | h k n i ts ih =>
    intro hs acc base w v cs hac hbw hv h
    obtain ⟨a, cap, rfl, hcap, hE⟩ := rep_tm.1 h
    have hlen := Tm.length_le_sizes ts
    simp only [Tm.size_mk] at hs hac
    have hr : Tm.addMetas acc (Tm.mk k n i ts) = Tm.addMetasL (if k == 6 && !acc.contains i then acc ++ [i] else acc) ts := by rw [Tm.addMetas]
    generalize Tm.addMetas acc (Tm.mk k n i ts) = r at *
    have HR := hid hr
    clear hr h
    have HI := fun w v h => hasInt_any acc (by omega) i (O := fun b => b < base) w v h
    obtain ⟨i0, hi, hi0, hi1, hi2⟩ := info_parts info_int
    have hvr := hv.rep
    obtain ⟨va, vcap, hva, _, _⟩ := ints_open hvr
    subst hva
    obtain ⟨ct, hct⟩ : ∃ ct, ct = acc.contains i := ⟨_, rfl⟩
    rw [← hct] at HR HI
    obtain ⟨acc0, hacc0⟩ : ∃ acc0, acc0 = (if k == 6 && !ct then acc ++ [i] else acc) := ⟨_, rfl⟩
    rw [← hacc0] at HR
    have hB0 := Box4.new w (.int .i64 k) (.string (B n)) (.int .i64 i) (.slice a ts.length cap) 29
    have hal0 : acc0.length + Tm.sizes ts ≤ 2000000 := by rw [hacc0]; split <;> (try simp only [List.length_append, List.length_cons, List.length_nil]) <;> omega
    have hways : ((k == 6) = false ∧ acc0 = acc) ∨ ((k == 6) = true ∧ ct = true ∧ acc0 = acc) ∨ ((k == 6) = true ∧ ct = false ∧ acc0 = acc ++ [i]) := by
      cases h6 : (k == 6)
      · exact .inl ⟨rfl, by rw [hacc0, h6]; rfl⟩
      · cases ct
        · exact .inr (.inr ⟨rfl, rfl, by rw [hacc0, h6]; rfl⟩)
        · exact .inr (.inl ⟨rfl, rfl, by rw [hacc0, h6]; rfl⟩)
    clear hacc0 hct
    have hvl : acc.length ≤ 2000000 := by omega
    rcases hways with ⟨h6, h0⟩ | ⟨h6, hc, h0⟩ | ⟨h6, hc, h0⟩
    case' inl =>
      subst h0
      go_enter Tryz.func109, Tryz.ntmps109
      go_wp2_with fail
      obtain ⟨w0, hw0⟩ : ∃ w0, w0 = w.alloc (.cells #[.int .i64 k, .string (B n), .int .i64 i, .slice a ts.length cap] 29) := ⟨_, rfl⟩
      have hv0 : Ints base w0 (.slice va acc0.length vcap) acc0 := by rw [hw0]; exact World.ownsRow.alloc hv _
      have hU0 : RowUp 3 base w w0 := by rw [hw0]; exact (RowUp.refl _ _ _).alloc _
      rw [← hw0] at hB0 ⊢
      clear hw0 hv
    case' inr.inl =>
      subst h0 hc
      go_enter Tryz.func109, Tryz.ntmps109
      go_wp2_with fail
      refine (HI _ _ (Ints.rep (World.ownsRow.alloc hv _))).mono ?_
      rintro e w0 ⟨rfl, hU1⟩
      have hv0 : Ints base w0 (.slice va acc0.length vcap) acc0 := (World.ownsRow.alloc hv _).kept (upto_grown hU1) (own_none _)
      have hU0 : RowUp 3 base w w0 := ((RowUp.refl _ _ _).alloc _).on hU1
      replace hB0 := hB0.kept hU1
      have hcl := hB0.cells
      clear hU1 hv
      go_wp2_with fail
      clear hcl
    case' inr.inr =>
      subst hc
      go_enter Tryz.func109, Tryz.ntmps109
      go_wp2_with fail
      refine (HI _ _ (Ints.rep (World.ownsRow.alloc hv _))).mono ?_
      rintro e wa ⟨rfl, hU1⟩
      have hva : Ints base wa (.slice va acc.length vcap) acc := (World.ownsRow.alloc hv _).kept (upto_grown hU1) (own_none _)
      have hUa : RowUp 3 base w wa := ((RowUp.refl _ _ _).alloc _).on hU1
      replace hB0 := hB0.kept hU1
      have hcl := hB0.cells
      have hbwa : base ≤ wa.heap.size := Nat.le_trans hbw hUa.size
      clear hU1 hv
      go_wp2_with (at_builtin; refine wpList_append_own _ rfl _ _ 22 rfl base 3 i0 (.int .i64 0) 1 8 (by kernel_rfl) hi hi0 hi1 hi2 rfl (by decide) _ _ _ rfl (World.ownsRow.alloc hva _) ⟨wa.heap.size, 0, none⟩ 1 1 [.int .i64 i] rfl rfl (cell_one_new _ _ _) (by simp [Value.oneCell']) (by simp only [maxLen]; omega) (by omega) (by simp; omega) ?_; intro v' w0 hown' hgrow _; obtain ⟨g', cap', rfl⟩ := ownsRow_succ hown')
      have hv0 : Ints base w0 (.slice (some ⟨g', 0, none⟩) (acc.length + 1) cap') acc0 := by rw [h0]; unfold Ints; simpa using hown'
      have hU0 : RowUp 3 base w w0 := (hUa.alloc _).trans (RowUp.grown (World.ownsRow.alloc hva _) hgrow)
      replace hB0 : Box4 w0 w.heap.size _ _ _ _ _ := ((hB0.kept ((Upto.refl none' wa).alloc _)).up (RowUp.grown (World.ownsRow.alloc hva _) hgrow) (by decide))
      clear hva hUa hcl hown' hgrow
    all_goals
      go_loopw [0, 5] (fun v0 v5 wr => ∃ j : Nat, j ≤ ts.length ∧ v5 = .int .i64 j ∧ Ints base wr v0 (Tm.addMetasL acc0 (ts.take j)) ∧ Box4 wr w.heap.size (.int .i64 k) (.string (B n)) (.int .i64 i) (.slice a ts.length cap) 29 ∧ RowUp 3 base w wr)
        (fun _ v5 _ => ts.length - (intOf v5).toNat)
      case atStart => exact ⟨0, Nat.zero_le _, rfl, hv0, hB0, hU0⟩
      case round =>
        obtain ⟨j, hj, rfl, hvj, hBj, hUj⟩ := hrel
        clear hv0 hB0 hU0
        obtain ⟨b0, b1, b2, b3⟩ := hBj.cells
        by_cases hlt : j < ts.length
        · obtain ⟨b, o, k1, n1, x1, s1, cp, rfl, hb, _, p0, p1, p2, p3, hRp⟩ := arg_tm (hE.cel hUj.cel) j hlt
          have hs4 := Tm.size_le_sizes (List.getElem_mem hlt)
          have hl1 := addMetasL_len (ts.take j) acc0
          have hl2 := Tm.sizes_take_succ ts j hlt
          have hl3 := Tm.sizes_take_le ts (j + 1)
          have hT := addMetasL_take_succ ts acc0 j hlt
          have HT := hid hT
          have key := ih _ (List.getElem_mem hlt) (by omega) _ base wr _ _ (by omega) (Nat.le_trans hbw hUj.size) hvj hRp
          clear hT hl1 hl2 hl3
          go_wp2_with fail
          refine key.mono ?_
          rintro e w1 ⟨v', rfl, hv', hU1⟩
          go_wp2
          go_roundw
          case rel =>
            have fin : ∃ j1 : Nat, j1 ≤ ts.length ∧ Value.int .i64 ((j : Int) + 1) = .int .i64 j1 ∧ Ints base w1 v' (Tm.addMetasL acc0 (ts.take j1)) ∧ Box4 w1 w.heap.size (.int .i64 k) (.string (B n)) (.int .i64 i) (.slice (some ⟨b, o, none⟩) ts.length cap) 29 ∧ RowUp 3 base w w1 :=
              ⟨j + 1, by omega, by go_num, by rw [HT.out]; exact hv', hBj.up hU1 (by decide), hUj.trans hU1⟩
            first | exact fin | ((repeat apply Exists.intro); exact ⟨fin, rfl⟩)
          case measure => simp [intOf]; omega
        · have hj' : ts.take j = ts := List.take_of_length_le (by omega)
          rw [hj', ← HR.out] at hvj
          clear hj'
          go_wp2
          go_ret
          exact ⟨_, rfl, hvj, hUj⟩
set_option maxHeartbeats 2000000 in
theorem refMetas_any (t : Tm) (hwt : t.wt ≤ 1000000) (w : World) (cs : List Value) (h : Rep none' w t.dat cs) :
    Calls Tryz.prog 45 #[.agg cs.toArray] w fun e w' => ∃ v, e = .returned v ∧ Ints w.heap.size w' v (Tm.metas t) ∧ Upto none' w w' := by
  have HW := fun w cs h => refWellFormed_any t hwt w cs h
  have HS := fun w v cs (h : Rep (fun b => w.heap.size ≤ b) w t.dat cs) hv => addMetas_any t (Nat.le_trans (Tm.size_le_wt t) hwt) [] w.heap.size w v cs (by have := Tm.size_le_wt t; simp; omega) (Nat.le_refl _) hv h
  have hm : Tm.metas t = if t.wf == 0 then Tm.addMetas [] t else [] := rfl
  obtain ⟨k, n, i, ts, a, cap, ht, rfl, hcap, hE⟩ := tm_open h
  generalize Tm.metas t = r at *
  generalize Tm.addMetas [] t = r' at *
  generalize t.wf = wf at *
  have HT := hid ht
  clear ht hcap
  generalize ts.length = len at *
  by_cases hz : (wf == 0) = true
  · have z1 : (wf != 0) = false := by simp [bne, hz]
    rw [if_pos hz] at hm
    subst hm
    go_enter Tryz.func45, Tryz.ntmps45
    go_wp2_with fail
    refine (HW _ _ (h.new _)).mono ?_
    rintro e w1 ⟨rfl, hU⟩
    obtain ⟨b0, b1, b2, b3⟩ := box_new hU
    have hw1 : Upto none' w w1 := hU.behind'
    go_wp2_with fail
    refine (HS _ _ _ (Rep.fresh (h.on hw1)) (World.ownsRow_nil _ _ _ _)).mono ?_
    rintro e w2 ⟨v, rfl, hv, hU2⟩
    go_wp2
    go_ret
    exact ⟨v, rfl, hv.mono hw1.size, hw1.and (hU2.upto (Nat.le_refl _))⟩
  · have z1 : (wf != 0) = true := by simp at hz; simp [bne, hz]
    rw [if_neg hz] at hm
    subst hm
    go_enter Tryz.func45, Tryz.ntmps45
    go_wp2_with fail
    refine (HW _ _ (h.new _)).mono ?_
    rintro e w1 ⟨rfl, hU⟩
    have hw1 : Upto none' w w1 := hU.behind'
    go_wp2
    go_ret
    exact ⟨_, rfl, World.ownsRow_nil _ _ _ _, hw1⟩
end Go.Proofs.YtdomloghcpfdjaaGreatDoor
namespace Go.Proofs.YtdomloghcpfdjaaGreatDoor
open Go.RowKit Go.LF
end Go.Proofs.YtdomloghcpfdjaaGreatDoor
namespace Go.Proofs.YtdomloghcpfdjaaGreatDoor
open Go.RowKit Go.LF
end Go.Proofs.YtdomloghcpfdjaaGreatDoor
namespace Go.Proofs.YtdomloghcpfdjaaGreatDoor
open Go.RowKit Go.LF
theorem u64_nonneg (x : Int) : 0 ≤ IntKind.u64.wrap x := by
  unfold IntKind.wrap
  simp [IntKind.signed, IntKind.bits]
  omega
set_option maxHeartbeats 1000000 in
theorem cut_any (x n : Int) (h0 : 0 < n) (h1 : n ≤ 1000000) (w : World) :
    Calls Tryz.prog 18 #[.int .i64 x, .int .i64 n] w fun e w' => (∃ c : Nat, (c : Int) < n ∧ e = .returned (.int .i64 c)) ∧ w = w' := by
  go_enter Tryz.func18, Tryz.ntmps18
  go_wp2_with fail
  go_ret
  have hx : 0 ≤ IntKind.u64.wrap x := u64_nonneg x
  have h2 : (IntKind.u64.wrap x).tmod n = (IntKind.u64.wrap x) % n := Int.tmod_eq_emod_of_nonneg hx
  have h3 := Int.emod_nonneg (IntKind.u64.wrap x) (show n ≠ 0 by omega)
  have h4 := Int.emod_lt_of_pos (IntKind.u64.wrap x) h0
  refine ⟨⟨((IntKind.u64.wrap x) % n).toNat, by omega, ?_⟩, rfl⟩
  refine ret_int ?_
  rw [h2, Go.IntWalk.wrap64_in _ (by omega)]
  omega
end Go.Proofs.YtdomloghcpfdjaaGreatDoor
namespace Go.Proofs.YtdomloghcpfdjaaGreatDoor
open Go.RowKit Go.LF
/-- A tape at block T. -/
def TapeOk (W : World) (T : Nat) : Prop := ∃ (l : List Int) (a : Option Addr) (cap i : Nat), W.cell? ⟨T, 0, none⟩ = some (.slice a l.length cap) ∧ W.cell? ⟨T, 1, none⟩ = some (.int .i64 i) ∧ W.frozen? ⟨T, 1, none⟩ = false ∧
  i ≤ l.length ∧ l.length ≤ 4611686018427387904 ∧ RepE (fun b => T ≤ b) W 1 (l.map (Dat.int .i64)) a 0
abbrev isT (T : Nat) : Nat → Prop := fun b => b = T
theorem TapeOk.on {W W' : World} {T : Nat} (h : TapeOk W T) (hU : Upto none' W W') : TapeOk W' T := by
  obtain ⟨l, a, cap, i, h1, h2, h3, h4, h5, h6⟩ := h
  refine ⟨l, a, cap, i, hU.cell h1 (fun x => x), hU.cell h2 (fun x => x), ?_, h4, h5, h6.on hU⟩
  rw [hU.cells0.2 _ _ (World.block_lt_of_cell? W _ h2)]
  exact h3
/-- What lies behind the tape's block may change. -/
theorem TapeOk.far {W W' : World} {T : Nat} {S : Nat → Prop} (h : TapeOk W T) (hU : Upto S W W') (hS : ∀ b, S b → T < b) : TapeOk W' T := by
  obtain ⟨l, a, cap, i, h1, h2, h3, h4, h5, h6⟩ := h
  have hn : ¬ S T := fun e => by have := hS T e; omega
  refine ⟨l, a, cap, i, hU.cell h1 hn, hU.cell h2 hn, ?_, h4, h5, RepE.keep hU (fun b e => Nat.le_of_lt (hS b e)) _ _ _ _ h6⟩
  rw [World.frozen?_of_block (hU.block T (World.block_lt_of_cell? W _ h2) hn)]
  exact h3
theorem TapeOk.lt {W : World} {T : Nat} (h : TapeOk W T) : T < W.heap.size := by
  obtain ⟨l, a, cap, i, h1, _⟩ := h
  exact World.block_lt_of_cell? W _ h1
set_option maxRecDepth 100000 in
set_option maxHeartbeats 4000000 in
theorem next_any (n : Int) (h0 : 0 < n) (h1 : n ≤ 1000000) (T : Nat) (w : World) (hT : TapeOk w T) :
    Calls Tryz.prog 30 #[.pointer (some ⟨T, 0, none⟩), .int .i64 n] w fun e w' => (∃ c : Nat, (c : Int) < n ∧ e = .returned (.int .i64 c)) ∧ TapeOk w' T ∧ Upto (isT T) w w' := by
  obtain ⟨l, a, cap, i, c0, c1, f1, hi, hll, hE⟩ := hT
  by_cases hlt : i < l.length
  · obtain ⟨b, o, rfl, hb, hbT, hc⟩ := int_cell hE i hlt
    have HC := fun x w => cut_any x n h0 h1 w
    have j0 : (0 : Int) ≤ (i : Int) := by omega
    have j1 : (i : Int) < (l.length : Int) := by omega
    have j2 : IntKind.i64.wrap ((i : Int) + 1 - 1) = (i : Int) := by rw [Go.IntWalk.i64_left, Go.IntWalk.wrap64_in _ (by omega)]; omega
    have j3 : IntKind.i64.wrap (i : Int) = (i : Int) := by rw [Go.IntWalk.i64_left, Go.IntWalk.wrap64_in _ (by omega)]
    generalize l[i] = x at *
    go_enter Tryz.func30, Tryz.ntmps30
    go_wp2_with fail
    go_region
    go_wp2_with fail
    obtain ⟨W, hW⟩ : ∃ W, W = (w.setCell ⟨T, 1, none⟩ (.int .i64 ((i : Int) + 1))).drew := ⟨_, rfl⟩
    have d0 : W.cell? ⟨T, 0, none⟩ = some (.slice (some ⟨b, o, none⟩) l.length cap) := by rw [hW]; exact (World.cell?_setCell_other _ _ _ _ (by simp)).trans c0
    have d1 : W.cell? ⟨T, 1, none⟩ = some (.int .i64 ((i : Int) + 1)) := by rw [hW]; exact World.cell?_setCell_same _ _ _ c1
    have d2 : W.cell? ⟨b, o + i, none⟩ = some (.int .i64 x) := by rw [hW]; exact (World.cell?_setCell_other _ _ _ _ (by intro e; have e2 : T = b := congrArg Addr.block e; exact hbT (Nat.le_of_eq e2))).trans hc
    have dU : Upto (isT T) w W := by rw [hW]; exact ((Upto.refl (isT T) w).setCell (fun _ => rfl) _).drew
    have df : W.frozen? ⟨T, 1, none⟩ = false := by rw [hW]; exact (World.frozen?_setCell _ _ _ _).trans f1
    have hE' : RepE (fun b => T ≤ b) W 1 (l.map (Dat.int .i64)) (some ⟨b, o, none⟩) 0 := RepE.keep dU (fun _ h => Nat.le_of_eq h.symm) _ _ _ _ hE
    rw [← hW]
    clear hW c0 c1 f1 hc hE
    go_region_held3 (fun w' => w'.cell? ⟨T, 0, none⟩ = some (.slice (some ⟨b, o, none⟩) l.length cap) ∧ w'.cell? ⟨T, 1, none⟩ = some (.int .i64 ((i : Int) + 1)) ∧ w'.cell? ⟨b, o + i, none⟩ = some (.int .i64 x))
      (first | go_keep | (exact ⟨d0, d1, d2⟩))
      ((go_at_call 18; refine (HC _ _).mono ?_; rintro e w1 ⟨⟨c, hcn, rfl⟩, rfl⟩))
    go_wp2
    go_ret
    exact ⟨⟨c, hcn, rfl⟩, ⟨l, _, cap, i + 1, d0, d1, df, by omega, hll, RepE.keep ((Upto.refl (isT T) W).drew) (fun _ h => Nat.le_of_eq h.symm) _ _ _ _ hE'⟩, dU.drew⟩
  · have hil : (i : Int) = l.length := by omega
    go_enter Tryz.func30, Tryz.ntmps30
    go_wp2_with fail
    go_region
    go_wp2
    go_ret
    exact ⟨⟨0, by omega, rfl⟩, ⟨l, a, cap, i, c0, c1, f1, hi, hll, RepE.keep ((Upto.refl (isT T) w).drew) (fun _ h => Nat.le_of_eq h.symm) _ _ _ _ hE⟩, (Upto.refl _ _).drew⟩
end Go.Proofs.YtdomloghcpfdjaaGreatDoor
namespace Go.LF.Tm
/-- An object that a law makes: so many free variables and metavariables, so deep. -/
structure Fits (t : Tm) (deep vars metas : Nat) : Prop where
  obj : t.isObj = true
  scope : t.scope ≤ vars
  metas : ∀ b, ∀ x ∈ t.nodes b, (x.k == 6) = true → x.i < metas
  depth : t.depth ≤ deep + 1
  size : t.size + 1 ≤ 2 ^ (deep + 1)
  wt : t.wt + 5 ≤ 5 * 2 ^ (deep + 1)
  nml : ∀ b, ∀ x ∈ t.nodes b, x.n.length ≤ 4
theorem scopes_bound {k : Int} {v : Int} : ∀ (l : List Tm) (j : Nat) (a : Int), a ≤ v → (∀ t ∈ l, t.scope ≤ v) → scopes k j a l ≤ v := by
  intro l
  induction l with
  | nil => intro j a h _; simpa [scopes] using h
  | cons t ts ih =>
    intro j a ha h
    rw [scopes]
    have := h t (by simp)
    have := under_le k j
    exact ih _ _ (by omega) (fun t ht => h t (by simp [ht]))
theorem pow_mono {a b : Nat} (h : a ≤ b) : 2 ^ a ≤ 2 ^ b := Nat.pow_le_pow_right (by omega) h
theorem Fits.mono {t : Tm} {d d' v m : Nat} (h : Fits t d v m) (hd : d ≤ d') : Fits t d' v m :=
  ⟨h.obj, h.scope, h.metas, by have := h.depth; omega, by have := h.size; have := pow_mono (show d + 1 ≤ d' + 1 by omega); omega, by have := h.wt; have := pow_mono (show d + 1 ≤ d' + 1 by omega); omega, h.nml⟩
theorem fits_lam {t : Tm} {d v m : Nat} (h : Fits t d (v + 1) m) (nm : List UInt8) (hn : (nm == [] || nm == [95] || isName nm) = true) (hl : nm.length ≤ 4) : Fits (mk 3 nm 0 [t]) (d + 1) v m := by
  have h2 : 2 ^ (d + 1 + 1) = 2 * 2 ^ (d + 1) := by rw [Nat.pow_succ]; omega
  have hp : 1 ≤ 2 ^ (d + 1) := Nat.one_le_two_pow
  refine ⟨?_, ?_, ?_, ?_, ?_, ?_, ?_⟩
  · rw [isObj]; simp only [if_true]
    simp [bound, allObj, h.obj]
    simpa [or_assoc] using hn
  · have := h.scope
    rw [Tm.scope, scopes, scopes]
    simp [under]
    omega
  · intro b x hx h6
    rw [nodes_mk] at hx
    rcases List.mem_cons.1 hx with rfl | hx
    · simp at h6
    · simp only [nodesA, List.append_nil] at hx
      exact h.metas _ x hx h6
  · have := h.depth; simp [depths]; omega
  · have := h.size; simp [sizes]; omega
  · have := h.wt; simp [wts]; omega
  · intro b x hx
    rw [nodes_mk] at hx
    rcases List.mem_cons.1 hx with rfl | hx
    · exact hl
    · simp only [nodesA, List.append_nil] at hx
      exact h.nml _ x hx
theorem fits_node {k i : Int} {nm : List UInt8} {ts : List Tm} {d v m : Nat} (hk : k = 4 ∨ k = 5 ∨ k = 6) (hlen : ts.length ≤ 2) (hts : ∀ t ∈ ts, Fits t d v m) (h4 : k = 4 → isName nm = true ∧ i = 0) (h5 : k = 5 → nm = [] ∧ 0 ≤ i ∧ i < v) (h6 : k = 6 → nm = [] ∧ 0 ≤ i ∧ i < m)
    (hv : v ≤ 100000) (hm : m ≤ 2000) (hl : nm.length ≤ 4) : Fits (mk k nm i ts) (d + 1) v m := by
  have h2 : 2 ^ (d + 1 + 1) = 2 * 2 ^ (d + 1) := by rw [Nat.pow_succ]; omega
  have hp : 1 ≤ 2 ^ (d + 1) := Nat.one_le_two_pow
  have hall : allObj ts = true := by rw [allObj_iff, List.all_eq_true]; exact fun t ht => (hts t ht).obj
  have hsz : sizes ts + ts.length ≤ ts.length * 2 ^ (d + 1) ∧ depths ts ≤ d + 1 ∧ wts ts + 5 * ts.length ≤ 5 * (ts.length * 2 ^ (d + 1)) := by
    clear hlen hall
    induction ts with
    | nil => simp [sizes, depths, wts]
    | cons t ts ih =>
      have := ih (fun t ht => hts t (by simp [ht]))
      have h := hts t (by simp)
      have := h.size
      have := h.depth
      have := h.wt
      simp only [sizes, depths, wts, List.length_cons, Nat.add_mul, Nat.one_mul]
      omega
  have hmul : ts.length * 2 ^ (d + 1) ≤ 2 * 2 ^ (d + 1) := Nat.mul_le_mul_right _ hlen
  obtain ⟨hs, hd, hw⟩ := hsz
  refine ⟨?_, ?_, ?_, ?_, ?_, ?_, ?_⟩
  · rw [isObj]
    rcases hk with rfl | rfl | rfl
    · simp [h4 rfl, hall]
    · have := h5 rfl; simp [this, hall]; omega
    · have := h6 rfl; simp [this, hall]; omega
  · rw [Tm.scope]
    refine scopes_bound ts 0 _ ?_ (fun t ht => (hts t ht).scope)
    by_cases e : (k == 5) = true
    · rw [if_pos e]; have := h5 (by simpa using e); omega
    · rw [if_neg e]; omega
  · intro b x hx e6
    rw [nodes_mk] at hx
    rcases List.mem_cons.1 hx with rfl | hx
    · exact (h6 (by simpa using e6)).2.2
    · exact nodesA_all (p := fun x => (x.k == 6) = true → x.i < m) (fun t ht b x hx => (hts t ht).metas b x hx) 0 x hx e6
  · simp; omega
  · have : ts.length = 0 ∨ ts.length = 1 ∨ ts.length = 2 := by omega
    simp only [size_mk]
    rcases this with e | e | e <;> rw [e] at hs <;> omega
  · have : ts.length = 0 ∨ ts.length = 1 ∨ ts.length = 2 := by omega
    simp only [wt_mk]
    rcases this with e | e | e <;> rw [e] at hw <;> omega
  · intro b x hx
    rw [nodes_mk] at hx
    rcases List.mem_cons.1 hx with rfl | hx
    · exact hl
    · exact nodesA_all (p := fun x => x.n.length ≤ 4) (fun t ht b x hx => (hts t ht).nml b x hx) 0 x hx
theorem fits_leaf {k i : Int} {nm : List UInt8} {v m : Nat} (hk : k = 4 ∨ k = 5 ∨ k = 6) (h4 : k = 4 → isName nm = true ∧ i = 0) (h5 : k = 5 → nm = [] ∧ 0 ≤ i ∧ i < v) (h6 : k = 6 → nm = [] ∧ 0 ≤ i ∧ i < m)
    (hv : v ≤ 100000) (hm : m ≤ 2000) (hl : nm.length ≤ 4) : Fits (mk k nm i []) 0 v m := by
  have hN := fits_node (d := 0) (ts := []) hk (by simp) (by simp) h4 h5 h6 hv hm hl
  refine ⟨hN.obj, hN.scope, hN.metas, by simp [depths], by simp [sizes], ?_, hN.nml⟩
  simp only [wt_mk, wts]; omega
end Go.LF.Tm
namespace Go.LF.Tm
theorem Fits.vars {t : Tm} {d v v' m : Nat} (h : Fits t d v m) (hv : v ≤ v') : Fits t d v' m := ⟨h.obj, by have := h.scope; omega, h.metas, h.depth, h.size, h.wt, h.nml⟩
theorem Fits.small {t : Tm} {d v m : Nat} (h : Fits t d v m) (hd : d ≤ 10) : t.wt ≤ 1000000 ∧ t.size ≤ 1000000 := by
  have h2 := h.wt
  have h3 := pow_mono (show d + 1 ≤ 11 by omega)
  have h4 : (2 : Nat) ^ 11 = 2048 := rfl
  have h5 := size_le_wt t
  omega
end Go.LF.Tm
namespace Go.Proofs.YtdomloghcpfdjaaGreatDoor
open Go.RowKit Go.LF
/-- The package's list of names. -/
def nameList : List (List UInt8) := [[120], [121], [78], [102], [95], []]
def nameAt (j : Nat) : List UInt8 := nameList.getD j []
theorem nameAt_ok (j : Nat) : (nameAt j == [] || nameAt j == [95] || isName (nameAt j)) = true ∧ (nameAt j).length ≤ 4 := by
  match j with
  | 0 => decide
  | 1 => decide
  | 2 => decide
  | 3 => decide
  | 4 => decide
  | 5 => decide
  | n + 6 => exact ⟨rfl, by show (0 : Nat) ≤ 4; omega⟩
/-- The package's names as they were laid; the tape is another block. -/
def NamesOk (T : Nat) (W : World) : Prop := T ≠ 0 ∧ ∃ v, W.cell? ⟨0, 0, none⟩ = some v ∧ Rep (fun b => T ≤ b) W (strsD nameList) [v]
/-- The six cells of the package's names. -/
def NameCells (nb no : Nat) (w' : World) : Prop := ∀ j, j < 6 → w'.cell? ⟨nb, no + j, none⟩ = some (.string (B (nameAt j)))
theorem NamesOk.open {T : Nat} {W : World} (h : NamesOk T W) : ∃ nb no ncap, 6 ≤ ncap ∧ T ≠ 0 ∧ nb < T ∧ W.cell? ⟨0, 0, none⟩ = some (.slice (some ⟨nb, no, none⟩) 6 ncap) ∧ NameCells nb no W := by
  obtain ⟨hT0, nv, hnc, hnr⟩ := h
  obtain ⟨na, ncap, rfl, hcap, hnE⟩ := strs_open hnr
  obtain ⟨nb, no, rfl, _, hnb, _⟩ := str_cell hnE 0 (by decide)
  refine ⟨nb, no, ncap, hcap, hT0, by omega, hnc, fun j hj => ?_⟩
  obtain ⟨b, o, e, _, _, hc⟩ := str_cell hnE j hj
  cases e
  rw [hc]
  unfold nameAt
  rw [List.getD_eq_getElem?_getD, List.getElem?_eq_getElem hj]
  rfl
theorem NameCells.keep {nb no T : Nat} {W W' : World} (h : NameCells nb no W) (hU : Upto (isT T) W W') (hT : nb < T) : NameCells nb no W' := fun j hj => hU.cell (h j hj) (fun e => by simp only [isT] at e; omega)
theorem NamesOk.keep {T : Nat} {W W' : World} (h : NamesOk T W) (hU : Upto (isT T) W W') : NamesOk T W' := by
  obtain ⟨h0, v, h1, h2⟩ := h
  exact ⟨h0, v, hU.cell h1 (fun e => h0 e.symm), Rep.keep hU (fun _ e => Nat.le_of_eq e.symm) _ _ h2⟩
theorem NamesOk.far {T : Nat} {W W' : World} {S : Nat → Prop} (h : NamesOk T W) (hU : Upto S W W') (hS : ∀ b, S b → T ≤ b) : NamesOk T W' := by
  obtain ⟨h0, v, h1, h2⟩ := h
  exact ⟨h0, v, hU.cell h1 (fun e => by have := hS 0 e; omega), Rep.keep hU hS _ _ h2⟩
theorem NamesOk.on {T : Nat} {W W' : World} (h : NamesOk T W) (hU : Upto none' W W') : NamesOk T W' := h.keep (hU.mono (fun _ _ x => x.elim))
end Go.Proofs.YtdomloghcpfdjaaGreatDoor
namespace Go.Proofs.YtdomloghcpfdjaaGreatDoor
open Go.RowKit Go.LF
/-- What a call that makes an object hands back: all of it in new blocks. -/
def Makes (base : Nat) (deep vars metas : Nat) (T : Nat) (w : World) (e : Ending) (w' : World) : Prop :=
  ∃ (k i : Int) (n : List UInt8) (a : Option Addr) (len cap : Nat) (t : Tm), e = .returned (.agg #[.int .i64 k, .string (B n), .int .i64 i, .slice a len cap]) ∧
    Rep (fun b => b < base) w' t.dat [.int .i64 k, .string (B n), .int .i64 i, .slice a len cap] ∧ Tm.Fits t deep vars metas ∧ TapeOk w' T ∧ NamesOk T w' ∧ Upto (isT T) w w'
/-- The kinds of objects, from which one is chosen. -/
theorem kinds_at {W : World} {b : Nat} {T' : TypeId} {fr : Nat × Nat} (h : W.heap[b]? = some (.cells #[.int .i64 3, .int .i64 4, .int .i64 4, .int .i64 5, .int .i64 6] T' fr)) (c : Nat) (hc : (c : Int) < 5) :
    ∃ k : Int, W.cell? ⟨b, c, none⟩ = some (.int .i64 k) ∧ (k = 3 ∨ k = 4 ∨ k = 5 ∨ k = 6) := by
  have hcell : ∀ i, W.cell? ⟨b, i, none⟩ = (#[.int .i64 3, .int .i64 4, .int .i64 4, .int .i64 5, .int .i64 6] : Array Value)[i]? := fun i => by simp [World.cell?, h]
  match c, hc with
  | 0, _ => exact ⟨3, hcell 0, .inl rfl⟩
  | 1, _ => exact ⟨4, hcell 1, .inr (.inl rfl)⟩
  | 2, _ => exact ⟨4, hcell 2, .inr (.inl rfl)⟩
  | 3, _ => exact ⟨5, hcell 3, .inr (.inr (.inl rfl))⟩
  | 4, _ => exact ⟨6, hcell 4, .inr (.inr (.inr rfl))⟩
  | n + 5, h => omega
/-- The names of constants, from which one is chosen. -/
theorem constNames_at {W : World} {b : Nat} {T' : TypeId} {fr : Nat × Nat} (h : W.heap[b]? = some (.cells #[.string (B [122]), .string (B [115]), .string (B [99]), .string (B [97, 112, 112])] T' fr)) (c : Nat) (hc : (c : Int) < 4) :
    ∃ nm, W.cell? ⟨b, c, none⟩ = some (.string (B nm)) ∧ isName nm = true ∧ nm.length ≤ 4 := by
  have hcell : ∀ i, W.cell? ⟨b, i, none⟩ = (#[.string (B [122]), .string (B [115]), .string (B [99]), .string (B [97, 112, 112])] : Array Value)[i]? := fun i => by simp [World.cell?, h]
  match c, hc with
  | 0, _ => exact ⟨[122], hcell 0, by decide, by decide⟩
  | 1, _ => exact ⟨[115], hcell 1, by decide, by decide⟩
  | 2, _ => exact ⟨[99], hcell 2, by decide, by decide⟩
  | 3, _ => exact ⟨[97, 112, 112], hcell 3, by decide, by decide⟩
  | n + 4, h => omega
/-- The end of a call that makes an object: out is stored into the result. -/
theorem made_fin {W w9 : World} {w : World} {T deep vars metas base len : Nat} {kf ix : Int} {nm : List UInt8} {a : Option Addr} {cap : Nat} {ts : List Tm} {U : TypeId} {x0 x1 x2 x3 : Value} {hb : Nat} (hw : w.heap.size = hb) (hlen : len = ts.length) (hcap : len ≤ cap) (hE : RepE (fun b => b < base) W 4 (ts.map Tm.dat) a 0) (hbase : w.heap.size < base)
    (h9 : Box4 w9 hb x0 x1 x2 x3 U ∧ Upto (fun b => b = hb) W w9) (hfit : Tm.Fits (.mk kf nm ix ts) deep vars metas) (hT : TapeOk W T) (hN : NamesOk T W) (hU : Upto (isT T) w W) (hTl : T < w.heap.size) :
    Makes w.heap.size deep vars metas T w (.returned (.agg #[.int .i64 kf, .string (B nm), .int .i64 ix, .slice a len cap])) w9 := by
  subst hw
  refine ⟨kf, ix, nm, a, len, cap, .mk kf nm ix ts, rfl, ?_, hfit, hT.far h9.2 (fun b e => by omega), hN.far h9.2 (fun b e => by omega), hU.trans h9.2 (fun b hb e => by omega)⟩
  exact rep_tm.2 ⟨a, cap, by rw [hlen], by omega, RepE.weaken (fun b _ e => by omega) _ _ _ _ (RepE.keep h9.2 (fun b e => by omega) _ _ _ _ hE)⟩
end Go.Proofs.YtdomloghcpfdjaaGreatDoor
namespace Go.Proofs.YtdomloghcpfdjaaGreatDoor
open Go.RowKit Go.LF
set_option maxRecDepth 100000 in
set_option maxHeartbeats 8000000 in
theorem leaf_any (vars metas : Nat) (hv : vars ≤ 1000) (hm : metas ≤ 1000) (T : Nat) (w : World) (hT : TapeOk w T) (hN : NamesOk T w) :
    Calls Tryz.prog 31 #[.pointer (some ⟨T, 0, none⟩), .int .i64 ((0 : Nat) : Int), .int .i64 vars, .int .i64 metas] w (Makes w.heap.size 0 vars metas T w) := by
  
  obtain ⟨D, hD⟩ : ∃ D : Int, D = ((0 : Nat) : Int) := ⟨_, rfl⟩
  obtain ⟨V, hV⟩ : ∃ V : Int, V = (vars : Int) := ⟨_, rfl⟩
  obtain ⟨M, hM⟩ : ∃ M : Int, M = (metas : Int) := ⟨_, rfl⟩
  rw [← hD, ← hV, ← hM]
  have NX := fun (n : Int) h0 h1 w hT => next_any n h0 h1 T w hT
  have D0 : ¬ 0 < D := by omega
  have D1 : D ≤ 0 := by omega
  have V0 : 0 ≤ V := by omega
  have V1 : V ≤ 1000 := by omega
  have M0 : 0 ≤ M := by omega
  have M1 : M ≤ 1000 := by omega
  have HD := hid hD
  have HV := hid hV
  have HM := hid hM
  clear hD hV hM
  have hTl := hT.lt
  go_enter Tryz.func31, Tryz.ntmps31
  go_wp2_with fail
  refine (NX _ (by omega) (by omega) _ ((hT.on ((Upto.refl none' w).alloc _)).on ((Upto.refl none' _).alloc _))).mono ?_
  rintro e w1 ⟨⟨c, hc, rfl⟩, hT1, hU1⟩
  have hk0 : w1.heap[w.heap.size + 1]? = some (.cells #[.int .i64 3, .int .i64 4, .int .i64 4, .int .i64 5, .int .i64 6] 3 (0, 0)) := by
    rw [hU1.block _ (by simp) (fun e => by simp only [isT] at e; omega)]
    have := heap_alloc_new (w.alloc (.cells #[.int .i64 0, .string (B []), .int .i64 0, .slice none 0 0] 29)) (.cells #[.int .i64 3, .int .i64 4, .int .i64 4, .int .i64 5, .int .i64 6] 3)
    rw [World.size_alloc] at this
    exact this
  obtain ⟨kk, hkc, hkk⟩ := kinds_at hk0 c hc
  have hw1 : Upto (isT T) w w1 := (((Upto.refl (isT T) w).alloc _).alloc _).trans hU1 (fun _ _ x => x)
  have c0 : (0 : Int) ≤ (c : Int) := by omega
  have c5 : (c : Int) < 5 := hc
  clear hk0 hT
  have hres : Box4 w1 w.heap.size (.int .i64 0) (.string (B [])) (.int .i64 0) (.slice none 0 0) 29 := by
    unfold Box4
    rw [hU1.block _ (by simp; omega) (fun e => by simp only [isT] at e; omega)]
    exact (heap_old _ _ _ (by simp)).trans (heap_alloc_new w _)
  clear hU1
  have hNl : NamesOk T w1 := hN.keep hw1
  clear hN
  have hresne : w.heap.size ≠ T := by omega
  have hways : kk = 3 ∨ kk = 4 ∨ (kk = 5 ∧ V = 0) ∨ (kk = 6 ∧ M = 0) ∨ (kk = 5 ∧ (V == 0) = false ∧ 0 < V) ∨ (kk = 6 ∧ (M == 0) = false ∧ 0 < M) := by
    rcases hkk with rfl | rfl | rfl | rfl
    · exact .inl rfl
    · exact .inr (.inl rfl)
    · by_cases h : V = 0
      · exact .inr (.inr (.inl ⟨rfl, h⟩))
      · exact .inr (.inr (.inr (.inr (.inl ⟨rfl, by simpa using h, by omega⟩))))
    · by_cases h : M = 0
      · exact .inr (.inr (.inr (.inl ⟨rfl, h⟩)))
      · exact .inr (.inr (.inr (.inr (.inr ⟨rfl, by simpa using h, by omega⟩))))
  clear hkk
  rcases hways with rfl | rfl | ⟨rfl, rfl⟩ | ⟨rfl, rfl⟩ | ⟨rfl, hp0, hp⟩ | ⟨rfl, hp0, hp⟩
  case inl | inr.inl | inr.inr.inl | inr.inr.inr.inl =>
    go_wp2_with fail
    refine (NX _ (by omega) (by omega) _ ((hT1.on ((Upto.refl none' w1).alloc _)).on ((Upto.refl none' _).alloc _))).mono ?_
    rintro e w3 ⟨⟨c2, hc2, rfl⟩, hT3, hU3⟩
    have hk3 : w3.heap[w1.heap.size + 1]? = some (.cells #[.string (B [122]), .string (B [115]), .string (B [99]), .string (B [97, 112, 112])] 9 (0, 0)) := by
      rw [hU3.block _ (by simp) (fun e => by simp only [isT] at e; have := hT1.lt; omega)]
      have := heap_alloc_new (w1.alloc (.cells #[.int .i64 4, .string (B []), .int .i64 0, .slice none 0 0] 29)) (.cells #[.string (B [122]), .string (B [115]), .string (B [99]), .string (B [97, 112, 112])] 9)
      rw [World.size_alloc] at this
      exact this
    obtain ⟨nm, hnm, hnn, hnl⟩ := constNames_at hk3 c2 hc2
    have d0 : (0 : Int) ≤ (c2 : Int) := by omega
    have hoT : w1.heap.size ≠ T := by have := hT1.lt; omega
    have hout3 : Box4 w3 w1.heap.size (.int .i64 4) (.string (B [])) (.int .i64 0) (.slice none 0 0) 29 := by
      unfold Box4
      rw [hU3.block _ (by simp; omega) (fun e => by simp only [isT] at e; omega)]
      exact (heap_old _ _ _ (by simp)).trans (heap_alloc_new w1 _)
    have hw13 : Upto (isT T) w1 w3 := (((Upto.refl (isT T) w1).alloc _).alloc _).trans hU3 (fun _ _ x => x)
    clear hU3 hk3
    obtain ⟨y0, y1, y2, y3⟩ := hout3.cells
    obtain ⟨g0, g1, g2, g3⟩ := hout3.frozens
    have q1 : w.heap.size < w1.heap.size := hres.lt
    have hres3 := hres.keep hw13 hresne
    obtain ⟨z0, z1, z2, z3⟩ := hres3.cells
    obtain ⟨e0, e1, e2, e3⟩ := hres3.frozens
    go_wp2_with fail
    obtain ⟨wp, hwp⟩ : ∃ wp, wp = w3.setCell ⟨w1.heap.size, 1, none⟩ (.string (B nm)) := ⟨_, rfl⟩
    have hset : Upto (fun b => b = w1.heap.size) w3 wp := by rw [hwp]; exact Upto.set (Upto.refl _ _) 1 _
    have hoT1 : T < w1.heap.size := by omega
    have hresp := hres3.keep hset (by omega)
    have hset9 := hresp.set (d0 := .int .i64 4) (d1 := .string (B nm)) (d2 := .int .i64 0) (d3 := .slice none 0 0)
    have hTp := hT3.far hset (fun b e => by omega)
    have hNp : NamesOk T wp := (hNl.keep hw13).far hset (fun b e => by omega)
    have hwpU : Upto (isT T) w wp := (hw1.trans hw13 (fun _ _ x => x)).trans hset (fun b hb e => by omega)
    rw [← hwp]
    have hfit : Tm.Fits (.mk 4 nm 0 []) 0 vars metas := Tm.fits_leaf (.inl rfl) (fun _ => ⟨hnn, rfl⟩) (fun e => by omega) (fun e => by omega) (by omega) (by omega) hnl
    obtain ⟨w9, hw9⟩ : ∃ w9, w9 = (((wp.setCell ⟨w.heap.size, 0, none⟩ (.int .i64 4)).setCell ⟨w.heap.size, 1, none⟩ (.string (B nm))).setCell ⟨w.heap.size, 2, none⟩ (.int .i64 0)).setCell ⟨w.heap.size, 3, none⟩ (.slice none 0 0) := ⟨_, rfl⟩
    rw [← hw9] at hset9
    rw [← hw9]
    clear hw9 hwp y0 y1 y2 y3 z0 z1 z2 z3
    obtain ⟨x0, x1, x2, x3⟩ := hset9.1.cells
    refine bodyPost_ret (v := .agg #[.int .i64 4, .string (B nm), .int .i64 0, .slice none 0 0]) ?_ rfl ?_
    · simp [results, Tryz.f31, go_sem, x0, x1, x2, x3]
    · exact made_fin (base := w.heap.size + 1) (ts := []) rfl rfl (Nat.le_refl _) (by simp only [List.map_nil, RepE]) (by omega) hset9 hfit hTp hNp hwpU hTl
  case inr.inr.inr.inr.inl =>
    go_wp2_with fail
    refine (NX _ (by omega) (by omega) _ (hT1.on ((Upto.refl none' w1).alloc _))).mono ?_
    rintro e w3 ⟨⟨c2, hc2, rfl⟩, hT3, hU3⟩
    have hoT : w1.heap.size ≠ T := by have := hT1.lt; omega
    have hout3 : Box4 w3 w1.heap.size (.int .i64 5) (.string (B [])) (.int .i64 0) (.slice none 0 0) 29 := by
      unfold Box4
      rw [hU3.block _ (by simp) (fun e => by simp only [isT] at e; omega)]
      exact heap_alloc_new w1 _
    have hw13 : Upto (isT T) w1 w3 := ((Upto.refl (isT T) w1).alloc _).trans hU3 (fun _ _ x => x)
    clear hU3
    obtain ⟨y0, y1, y2, y3⟩ := hout3.cells
    obtain ⟨g0, g1, g2, g3⟩ := hout3.frozens
    have q1 : w.heap.size < w1.heap.size := hres.lt
    have hres3 := hres.keep hw13 hresne
    obtain ⟨z0, z1, z2, z3⟩ := hres3.cells
    obtain ⟨e0, e1, e2, e3⟩ := hres3.frozens
    go_wp2_with fail
    obtain ⟨wp, hwp⟩ : ∃ wp, wp = w3.setCell ⟨w1.heap.size, 2, none⟩ (.int .i64 c2) := ⟨_, rfl⟩
    have hset : Upto (fun b => b = w1.heap.size) w3 wp := by rw [hwp]; exact Upto.set (Upto.refl _ _) 2 _
    have hoT1 : T < w1.heap.size := by omega
    have hresp := hres3.keep hset (by omega)
    have hset9 := hresp.set (d0 := .int .i64 5) (d1 := .string (B [])) (d2 := .int .i64 c2) (d3 := .slice none 0 0)
    have hTp := hT3.far hset (fun b e => by omega)
    have hNp : NamesOk T wp := (hNl.keep hw13).far hset (fun b e => by omega)
    have hwpU : Upto (isT T) w wp := (hw1.trans hw13 (fun _ _ x => x)).trans hset (fun b hb e => by omega)
    rw [← hwp]
    have hfit : Tm.Fits (.mk 5 [] c2 []) 0 vars metas := Tm.fits_leaf (.inr (.inl rfl)) (fun e => by omega) (fun _ => ⟨rfl, by omega, by have := HV.out; omega⟩) (fun e => by omega) (by omega) (by omega) (by simp)
    obtain ⟨w9, hw9⟩ : ∃ w9, w9 = (((wp.setCell ⟨w.heap.size, 0, none⟩ (.int .i64 5)).setCell ⟨w.heap.size, 1, none⟩ (.string (B []))).setCell ⟨w.heap.size, 2, none⟩ (.int .i64 c2)).setCell ⟨w.heap.size, 3, none⟩ (.slice none 0 0) := ⟨_, rfl⟩
    rw [← hw9] at hset9
    rw [← hw9]
    clear hw9 hwp y0 y1 y2 y3 z0 z1 z2 z3
    obtain ⟨x0, x1, x2, x3⟩ := hset9.1.cells
    refine bodyPost_ret (v := .agg #[.int .i64 5, .string (B []), .int .i64 c2, .slice none 0 0]) ?_ rfl ?_
    · simp [results, Tryz.f31, go_sem, x0, x1, x2, x3]
    · exact made_fin (base := w.heap.size + 1) (ts := []) rfl rfl (Nat.le_refl _) (by simp only [List.map_nil, RepE]) (by omega) hset9 hfit hTp hNp hwpU hTl
  case inr.inr.inr.inr.inr =>
    go_wp2_with fail
    refine (NX _ (by omega) (by omega) _ (hT1.on ((Upto.refl none' w1).alloc _))).mono ?_
    rintro e w3 ⟨⟨c2, hc2, rfl⟩, hT3, hU3⟩
    have hoT : w1.heap.size ≠ T := by have := hT1.lt; omega
    have hout3 : Box4 w3 w1.heap.size (.int .i64 6) (.string (B [])) (.int .i64 0) (.slice none 0 0) 29 := by
      unfold Box4
      rw [hU3.block _ (by simp) (fun e => by simp only [isT] at e; omega)]
      exact heap_alloc_new w1 _
    have hw13 : Upto (isT T) w1 w3 := ((Upto.refl (isT T) w1).alloc _).trans hU3 (fun _ _ x => x)
    clear hU3
    obtain ⟨y0, y1, y2, y3⟩ := hout3.cells
    obtain ⟨g0, g1, g2, g3⟩ := hout3.frozens
    have q1 : w.heap.size < w1.heap.size := hres.lt
    have hres3 := hres.keep hw13 hresne
    obtain ⟨z0, z1, z2, z3⟩ := hres3.cells
    obtain ⟨e0, e1, e2, e3⟩ := hres3.frozens
    go_wp2_with fail
    obtain ⟨wp, hwp⟩ : ∃ wp, wp = w3.setCell ⟨w1.heap.size, 2, none⟩ (.int .i64 c2) := ⟨_, rfl⟩
    have hset : Upto (fun b => b = w1.heap.size) w3 wp := by rw [hwp]; exact Upto.set (Upto.refl _ _) 2 _
    have hoT1 : T < w1.heap.size := by omega
    have hresp := hres3.keep hset (by omega)
    have hset9 := hresp.set (d0 := .int .i64 6) (d1 := .string (B [])) (d2 := .int .i64 c2) (d3 := .slice none 0 0)
    have hTp := hT3.far hset (fun b e => by omega)
    have hNp : NamesOk T wp := (hNl.keep hw13).far hset (fun b e => by omega)
    have hwpU : Upto (isT T) w wp := (hw1.trans hw13 (fun _ _ x => x)).trans hset (fun b hb e => by omega)
    rw [← hwp]
    have hfit : Tm.Fits (.mk 6 [] c2 []) 0 vars metas := Tm.fits_leaf (.inr (.inr rfl)) (fun e => by omega) (fun e => by omega) (fun _ => ⟨rfl, by omega, by have := HM.out; omega⟩) (by omega) (by omega) (by simp)
    obtain ⟨w9, hw9⟩ : ∃ w9, w9 = (((wp.setCell ⟨w.heap.size, 0, none⟩ (.int .i64 6)).setCell ⟨w.heap.size, 1, none⟩ (.string (B []))).setCell ⟨w.heap.size, 2, none⟩ (.int .i64 c2)).setCell ⟨w.heap.size, 3, none⟩ (.slice none 0 0) := ⟨_, rfl⟩
    rw [← hw9] at hset9
    rw [← hw9]
    clear hw9 hwp y0 y1 y2 y3 z0 z1 z2 z3
    obtain ⟨x0, x1, x2, x3⟩ := hset9.1.cells
    refine bodyPost_ret (v := .agg #[.int .i64 6, .string (B []), .int .i64 c2, .slice none 0 0]) ?_ rfl ?_
    · simp [results, Tryz.f31, go_sem, x0, x1, x2, x3]
    · exact made_fin (base := w.heap.size + 1) (ts := []) rfl rfl (Nat.le_refl _) (by simp only [List.map_nil, RepE]) (by omega) hset9 hfit hTp hNp hwpU hTl
end Go.Proofs.YtdomloghcpfdjaaGreatDoor
namespace Go.Proofs.YtdomloghcpfdjaaGreatDoor
open Go.ChangeShapes Go.WideShapes Go.ChangeAt Go.RowKit Go.LF
section
variable {H : Type} {enc : TypeId × Value → H} {P : Program}
end
theorem Upto.toBelow {w w' : World} (h : Upto none' w w') : Below w.heap.size w w' := Upto.below (h.mono (fun _ _ x => x.elim)) (Nat.le_refl _)
theorem own : ownKnob Tryz.prog.godebug = none := by kernel_rfl
end Go.Proofs.YtdomloghcpfdjaaGreatDoor
namespace Go.Proofs.YtdomloghcpfdjaaGreatDoor
open Go.ChangeShapes Go.WideShapes Go.ChangeAt Go.RowKit Go.LF
theorem laidOut : laidOutB Tryz.prog = true := by kernel_rfl
theorem cells_int : Tryz.prog.cellsOf 3 = 1 := by kernel_rfl
theorem cells_str : Tryz.prog.cellsOf 9 = 1 := by kernel_rfl
theorem bytes_int : Tryz.prog.bytesOf 3 = 8 := by kernel_rfl
/-- An argument of type []int. -/
theorem ints_arg {H : Type} {enc : TypeId × Value → H} {W : World} {a0 : Option Addr} {len cap : Nat} {d : DataW H} {p : List MemPlace} {ts : List TypeId} {ds : List (DataW H)} {j : Nat}
    (hj : DataW.Trod enc Tryz.prog W 0 (fun _ => true) true 22 (Value.slice a0 len cap) d p) (hsz : (DataW.weightsEach Tryz.prog ts ds).all (· ≤ reachBytes) = true) (ht : ts[j]? = some 22) (hd : ds[j]? = some d) :
    ∃ l : List Int, l.length = len ∧ len ≤ cap ∧ len ≤ 17592186044416 ∧ RepE none' W 1 (l.map (Dat.int .i64)) a0 0 := by
  obtain ⟨fuel, hf⟩ := hj
  rcases open_ints Tryz.underlying22 Tryz.underlying3 cells_int hf with ⟨hcs, hx⟩ | ⟨a, len', cap', zs, hcs, _, hl, hm, hz, hx, hcell, hwz⟩
  · simp [Value.cells] at hcs
    obtain ⟨rfl, rfl, rfl⟩ := hcs
    exact ⟨[], rfl, Nat.le_refl _, by omega, by simp only [List.map_nil, RepE]⟩
  · simp [Value.cells] at hcs
    obtain ⟨rfl, rfl, rfl⟩ := hcs
    simp only [Prod.mk.injEq] at hx
    obtain ⟨rfl, rfl⟩ := hx
    simp only [if_true] at hz
    have hw := sized_slice hsz ht hd Tryz.underlying22
    rw [bytes_int] at hw
    simp only [lits, List.length_map, List.length_take, List.length_drop, reachBytes] at hw
    have hlz : (zs.take len).length = len := by simp; omega
    refine ⟨zs.take len, hlz, hl, by omega, repE_of _ _ _ (fun i hi => ?_)⟩
    have hi' : i < len := by rw [List.length_map, hlz] at hi; exact hi
    have hc := hcell i (by omega)
    obtain ⟨b, o, s⟩ := a
    have hs : s = none := by
      have := World.cell?_spot hc
      unfold Addr.add at this
      split at this
      · exact this
      · have h0 := World.cell?_spot (hcell 0 (by omega))
        unfold Addr.add at h0
        simpa using h0
    subst hs
    have hadd : (⟨b, o, none⟩ : Addr).add i = ⟨b, o + i, none⟩ := by unfold Addr.add; split <;> simp_all
    rw [hadd] at hc
    refine ⟨b, o, [.int .i64 (zs.getD i 0)], rfl, by simpa using World.block_lt_of_cell? W _ hc, fun x => x, rfl, fun m v hv => ?_, ?_⟩
    · cases m with
      | zero => cases hv; simpa using hc
      | succ m => simp at hv
    · simp [Rep, List.getD, List.getElem?_eq_getElem (show i < zs.length by omega)]
theorem door_met (os : Os) (args : Array Value) : laidMetH Tryz.prog [("lfcheck/lfcheckmade.names", Rows.laid_lfcheck_lfcheckmade_names)] ((World.doorLaid Tryz.prog 400 os).forCall (fun _ _ => 0) ⟨#[], args, []⟩).memory :=
  laidMetH_of_parts3 (fuel := 8) (laidMet_of_run' 8 (by kernel_rfl) (by kernel_rfl)) (by kernel_rfl) (by kernel_rfl)
/-- The package's names, as they were laid. -/
def NamesRead (W : World) : Prop := ∃ v, W.cell? ⟨0, 0, none⟩ = some v ∧ Rep none' W (strsD nameList) [v]
theorem NamesRead.ok {W W' : World} {T : Nat} (h : NamesRead W) (hU : Upto none' W W') (hT : W.heap.size ≤ T) : NamesOk T W' := by
  obtain ⟨v, h1, h2⟩ := h
  have h0 : 0 < W.heap.size := by simpa using World.block_lt_of_cell? W _ h1
  exact ⟨by omega, v, hU.cell h1 (fun x => x), (Rep.weaken (fun b _ e => by omega) _ _ (Rep.fresh h2)).on hU⟩
theorem gNames : Tryz.prog.globalNamed "lfcheck/lfcheckmade.names" = some 0 := by kernel_rfl
theorem tNames : (Tryz.prog.globals[0]?).map (·.type) = some 54 := by kernel_rfl
theorem names_of_laid {W : World} (h : laidMetH Tryz.prog [("lfcheck/lfcheckmade.names", Rows.laid_lfcheck_lfcheckmade_names)] W) : NamesRead W := by
  rw [MakeChecks.laidMetH_plain _ _ _ (by kernel_rfl)] at h
  obtain ⟨ps, ⟨g0, t0, cs0, f0, p0, q0, hg0, ht0, hv0, hd0, _⟩, _⟩ := h
  obtain rfl := Option.some.inj (gNames.symm.trans hg0)
  obtain rfl := Option.some.inj (tNames.symm.trans ht0)
  have hcell := World.var?_cell hg0 hv0 0
  rcases open_strings Tryz.underlying54 Tryz.underlying9 cells_str hd0 with ⟨_, hx⟩ | ⟨a, len, cap, ss, hcs, _, hl, hm, hz, hx, hc, hws⟩
  · simp [Rows.laid_lfcheck_lfcheckmade_names] at hx
  · simp only [Prod.mk.injEq, Rows.laid_lfcheck_lfcheckmade_names, DataW.slice.injEq] at hx
    have hl6 : (ss.take len).map (fun s => s.data.toList) = nameList := by
      have h1 := hx.1.1
      have h2 := congrArg (List.map fun d : DataW Unit => match d with | .lit (.string b) => b | _ => []) h1
      simp only [strs, List.map_map] at h2
      exact h2.symm
    have hlen : (ss.take len).length = 6 := by
      have := congrArg List.length hl6
      simpa [nameList] using this
    have hlz : len ≤ ss.length := by simp only [if_true] at hz; omega
    have h6 : len = 6 := by simp at hlen; omega
    subst h6
    obtain ⟨l1⟩ := cs0
    obtain rfl : l1 = [.slice (some a) 6 cap] := hcs
    refine ⟨_, by simpa using hcell, ?_⟩
    simp only [Rep]
    refine ⟨some a, cap, by simp [nameList], by simpa [nameList] using hl, repE_of _ _ _ (fun i hi => ?_)⟩
    have hi' : i < 6 := by simpa [nameList] using hi
    have hci := hc i (by omega)
    obtain ⟨b, o, s⟩ := a
    have hs : s = none := by
      have h0 := World.cell?_spot (hc 0 (by omega))
      unfold Addr.add at h0
      simpa using h0
    subst hs
    have hadd : (⟨b, o, none⟩ : Addr).add i = ⟨b, o + i, none⟩ := by unfold Addr.add; split <;> simp_all
    rw [hadd] at hci
    have hsi : ss.getD i ByteArray.empty = B (nameList[i]'(by simpa [nameList] using hi')) := by
      have h1 : ((ss.take 6).map (fun s => s.data.toList))[i]? = nameList[i]? := by rw [hl6]
      rw [List.getElem?_map, List.getElem?_take_of_lt hi', List.getElem?_eq_getElem (show i < ss.length by omega), List.getElem?_eq_getElem (by simpa [nameList] using hi')] at h1
      simp only [Option.map_some, Option.some.injEq] at h1
      rw [List.getD, List.getElem?_eq_getElem (show i < ss.length by omega), ← h1]
      rfl
    rw [hsi] at hci
    refine ⟨b, o, [.string (B (nameList[i]'(by simpa [nameList] using hi')))], rfl, by simpa using World.block_lt_of_cell? W _ hci, fun x => x, rfl, fun m v hv => ?_, ?_⟩
    · cases m with
      | zero => cases hv; simpa using hci
      | succ m => simp at hv
    · simp [Rep]
end Go.Proofs.YtdomloghcpfdjaaGreatDoor
