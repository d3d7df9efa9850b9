/- The reference's sorts of terms, whole; WellFormed, IsKind, IsType, IsObject. -/
import Derived.Test.YtdcbgkmhlpkjiaaDoorRefSorts4
import Derived.Test.YtdcbgkmhlpkjiaaDoorFacts
namespace Go.Proofs.YtdcbgkmhlpkjiaaDoor
open Go.RowKit Go.LF

theorem sorts_any (t : Tm) : t.wt ≤ 1000000 → ∀ (w : World) (cs : List Value), Rep none' w t.dat cs →
    Calls Tryd.prog 78 #[.agg cs.toArray] w fun e w' => e = .returned (.int .i64 (sorts t)) ∧ Upto none' w w' := by
  induction t using Tm.ind with
  | h k n i ts ih =>
    intro hs w cs h
    obtain ⟨a, cap, rfl, hcap, hE⟩ := rep_tm.1 h
    simp only [Tm.wt_mk] at hs
    have hlen : ts.length ≤ 1000000 := by have := Tm.length_le_sizes ts; have := Tm.sizes_le_wts ts; omega
    have hn : n.length ≤ 1000000 := by omega
    have H : SortsAt ts := fun x hx w cs h => ih x hx (by have := Tm.wt_le_wts hx; omega) w cs h
    clear ih h hcap hs
    have key : ∀ r : Int, sorts (.mk k n i ts) = r → Calls Tryd.prog 78 #[.agg #[.int .i64 k, .string (B n), .int .i64 i, .slice a ts.length cap]] w (fun e w' => e = .returned (.int .i64 r) ∧ Upto none' w w') →
        Calls Tryd.prog 78 #[.agg #[.int .i64 k, .string (B n), .int .i64 i, .slice a ts.length cap]] w (fun e w' => e = .returned (.int .i64 (sorts (.mk k n i ts))) ∧ Upto none' w w') := by
      intro r hr hc; rw [hr]; exact hc
    cases h1 : (k == 1)
    case true => exact key _ (sorts_1 k n i ts h1) (sorts1_any k i n ts h1 _ rfl w a cap)
    cases h2 : (k == 2)
    case true =>
      cases hb : Tm.bound n i ts 2
      · exact key _ (sorts_2_no k n i ts h2 hb) (sorts2_no k i n hn ts h2 hb w a cap)
      · have hb1 : ts.length = 2 := by unfold Tm.bound at hb; simp at hb; exact hb.1.2
        obtain ⟨x, y, rfl⟩ : ∃ x y, ts = [x, y] := by match ts, hb1 with | [x, y], _ => exact ⟨x, y, rfl⟩
        exact key _ (sorts_2 k n i x y h2 hb) (sorts2_yes k i n hn x y H h2 hb w a cap hE _ rfl)
    cases h3 : (k == 3)
    case true =>
      cases hb : Tm.bound n i ts 1
      · exact key _ (sorts_3_no k n i ts h3 hb) (sorts3_no k i n hn ts h3 hb w a cap)
      · have hb1 : ts.length = 1 := by unfold Tm.bound at hb; simp at hb; exact hb.1.2
        obtain ⟨x, rfl⟩ : ∃ x, ts = [x] := List.length_eq_one_iff.1 hb1
        exact key _ (sorts_3 k n i x h3 hb) (sorts3_yes k i n hn x H h3 hb w a cap hE)
    cases h4 : (k == 4)
    case true =>
      cases hb : (isName n && i == 0)
      · exact key _ (sorts_4_no k n i ts h4 hb) (sorts4_no k i n hn ts h4 hb w a cap)
      · obtain ⟨hf, hi⟩ : isName n = true ∧ i = 0 := by simpa using hb
        exact key _ (sorts_4 k n i ts h4 hb) (sorts4_yes k i n hn ts hlen H h4 hf hi w a cap hE _ rfl)
    cases h5 : (k == 5)
    case true =>
      cases hb : (n == [] && decide (0 ≤ i) && decide (i ≤ 1048576))
      · exact key _ (sorts_5_no k n i ts h5 hb) (sorts5_no k i n ts h5 hb w a cap)
      · obtain ⟨⟨hf, hi⟩, hj⟩ : (n = [] ∧ 0 ≤ i) ∧ i ≤ 1048576 := by simpa using hb
        exact key _ (sorts_5 k n i ts h5 hb) (sorts5_yes k i n hn ts hlen H h5 hf hi hj w a cap hE _ rfl)
    cases h6 : (k == 6)
    case true =>
      cases hb : (n == [] && decide (0 ≤ i) && decide (i < 2048))
      · exact key _ (sorts_6_no k n i ts h6 hb) (sorts6_no k i n ts h6 hb w a cap)
      · obtain ⟨⟨hf, hi⟩, hj⟩ : (n = [] ∧ 0 ≤ i) ∧ i < 2048 := by simpa using hb
        exact key _ (sorts_6 k n i ts h6 hb) (sorts6_yes k i n hn ts hlen H h6 hf hi hj w a cap hE _ rfl)
    exact key _ (sorts_0 k n i ts h1 h2 h3 h4 h5 h6) (sorts_none k i n ts h1 h2 h3 h4 h5 h6 w a cap)

set_option maxHeartbeats 1000000 in
theorem refIsKind_any (t : Tm) (hs : t.wt ≤ 1000000) (w : World) (cs : List Value) (h : Rep none' w t.dat cs) :
    Calls Tryd.prog 22 #[.agg cs.toArray] w fun e w' => e = .returned (.bool (t.isKnd && t.small)) ∧ Upto none' w w' := by
  have HK := fun w cs h => sorts_any t hs w cs h
  have HS := fun w cs h => refSmall_any t (by have := Tm.size_le_wt t; omega) w cs h
  have hbit := bits_knd t
  obtain ⟨k, n, i, ts, a, cap, ht, rfl, hcap, hE⟩ := tm_open h
  generalize sorts t = st at *
  generalize t.isKnd = bk at *
  generalize t.small = sm at *
  have HT := hid ht
  clear ht hcap
  generalize ts.length = len at *
  cases bk
  all_goals
    simp only [Bool.false_eq_true, if_false, if_true] at hbit
    go_enter Tryd.func22, Tryd.ntmps22
    go_wp2_with fail
    refine (HK _ _ (h.new _)).mono ?_
    rintro e w1 ⟨rfl, hU⟩
    obtain ⟨b0, b1, b2, b3⟩ := box_new hU
    have hw1 : Upto none' w w1 := hU.behind
    go_wp2_with fail
  · go_ret
    exact ⟨rfl, hw1⟩
  · refine (HS _ _ (h.on hw1)).mono ?_
    rintro e w2 ⟨rfl, hU2⟩
    go_wp2
    go_ret
    exact ⟨rfl, hw1.and hU2⟩

set_option maxHeartbeats 1000000 in
theorem refIsType_any (t : Tm) (hs : t.wt ≤ 1000000) (w : World) (cs : List Value) (h : Rep none' w t.dat cs) :
    Calls Tryd.prog 24 #[.agg cs.toArray] w fun e w' => e = .returned (.bool (t.isTyp && t.small)) ∧ Upto none' w w' := by
  have HK := fun w cs h => sorts_any t hs w cs h
  have HS := fun w cs h => refSmall_any t (by have := Tm.size_le_wt t; omega) w cs h
  have hbit := bits_typ t
  obtain ⟨k, n, i, ts, a, cap, ht, rfl, hcap, hE⟩ := tm_open h
  generalize sorts t = st at *
  generalize t.isTyp = bk at *
  generalize t.small = sm at *
  have HT := hid ht
  clear ht hcap
  generalize ts.length = len at *
  cases bk
  all_goals
    simp only [Bool.false_eq_true, if_false, if_true] at hbit
    go_enter Tryd.func24, Tryd.ntmps24
    go_wp2_with fail
    refine (HK _ _ (h.new _)).mono ?_
    rintro e w1 ⟨rfl, hU⟩
    obtain ⟨b0, b1, b2, b3⟩ := box_new hU
    have hw1 : Upto none' w w1 := hU.behind
    go_wp2_with fail
  · go_ret
    exact ⟨rfl, hw1⟩
  · refine (HS _ _ (h.on hw1)).mono ?_
    rintro e w2 ⟨rfl, hU2⟩
    go_wp2
    go_ret
    exact ⟨rfl, hw1.and hU2⟩

set_option maxHeartbeats 1000000 in
theorem refIsObject_any (t : Tm) (hs : t.wt ≤ 1000000) (w : World) (cs : List Value) (h : Rep none' w t.dat cs) :
    Calls Tryd.prog 26 #[.agg cs.toArray] w fun e w' => e = .returned (.bool (t.isObj && t.small)) ∧ Upto none' w w' := by
  have HK := fun w cs h => sorts_any t hs w cs h
  have HS := fun w cs h => refSmall_any t (by have := Tm.size_le_wt t; omega) w cs h
  have hbit := bits_obj t
  obtain ⟨k, n, i, ts, a, cap, ht, rfl, hcap, hE⟩ := tm_open h
  generalize sorts t = st at *
  generalize t.isObj = bk at *
  generalize t.small = sm at *
  have HT := hid ht
  clear ht hcap
  generalize ts.length = len at *
  cases bk
  all_goals
    simp only [Bool.false_eq_true, if_false, if_true] at hbit
    go_enter Tryd.func26, Tryd.ntmps26
    go_wp2_with fail
    refine (HK _ _ (h.new _)).mono ?_
    rintro e w1 ⟨rfl, hU⟩
    obtain ⟨b0, b1, b2, b3⟩ := box_new hU
    have hw1 : Upto none' w w1 := hU.behind
    go_wp2_with fail
  · go_ret
    exact ⟨rfl, hw1⟩
  · refine (HS _ _ (h.on hw1)).mono ?_
    rintro e w2 ⟨rfl, hU2⟩
    go_wp2
    go_ret
    exact ⟨rfl, hw1.and hU2⟩

set_option maxHeartbeats 1000000 in
theorem refWellFormed_any (t : Tm) (hs : t.wt ≤ 1000000) (w : World) (cs : List Value) (h : Rep none' w t.dat cs) :
    Calls Tryd.prog 20 #[.agg cs.toArray] w fun e w' => e = .returned (.int .i64 t.wf) ∧ Upto none' w w' := by
  have HK := fun w cs h => sorts_any t hs w cs h
  have HS := fun w cs h => refSmall_any t (by have := Tm.size_le_wt t; omega) w cs h
  have hp := sorts_wf t
  obtain ⟨k, n, i, ts, a, cap, ht, rfl, hcap, hE⟩ := tm_open h
  generalize sorts t = st at *
  generalize t.small = sm at *
  generalize t.wf = r at *
  have HT := hid ht
  have HP := hid hp
  clear ht hcap hp
  generalize ts.length = len at *
  cases hz : (st == 0)
  all_goals
    go_enter Tryd.func20, Tryd.ntmps20
    go_wp2_with fail
    refine (HK _ _ (h.new _)).mono ?_
    rintro e w1 ⟨rfl, hU⟩
    obtain ⟨b0, b1, b2, b3⟩ := box_new hU
    have hw1 : Upto none' w w1 := hU.behind
    go_wp2_with fail
  · refine (HS _ _ (h.on hw1)).mono ?_
    rintro e w2 ⟨rfl, hU2⟩
    cases sm
    all_goals
      go_wp2
      go_ret
      exact ⟨ret_int (by rw [HP.out, hz]; rfl), hw1.and hU2⟩
  · go_ret
    exact ⟨ret_int (by rw [HP.out, hz]; rfl), hw1⟩
end Go.Proofs.YtdcbgkmhlpkjiaaDoor
