/- Well-formed terms: the program's functions. -/
import Derived.Test.YtdcbgkmhlpkjiaaDoorTermObj3
import Derived.Test.YtdcbgkmhlpkjiaaDoorBox
namespace Go.Proofs.YtdcbgkmhlpkjiaaDoor
open Go.RowKit Go.LF

set_option maxHeartbeats 1000000 in
theorem isKind_any (t : Tm) (hs : t.wt ≤ 1000000) (w : World) (cs : List Value) (h : Rep none' w t.dat cs) :
    Calls Tryd.prog 21 #[.agg cs.toArray] w fun e w' => e = .returned (.bool (t.isKnd && t.small)) ∧ Upto none' w w' := by
  have HK := fun w cs h => kind_any t hs w cs h
  have HS := fun w cs h => small_any t hs w cs h
  obtain ⟨k, n, i, ts, a, cap, ht, rfl, hcap, hE⟩ := tm_open h
  generalize t.isKnd = bk at *
  generalize t.small = sm at *
  have HT := hid ht
  clear ht hcap
  generalize ts.length = len at *
  go_enter Tryd.func21, Tryd.ntmps21
  go_wp2_with fail
  refine (HK _ _ (h.new _)).mono ?_
  rintro e w1 ⟨rfl, hU⟩
  obtain ⟨b0, b1, b2, b3⟩ := box_new hU
  have hw1 : Upto none' w w1 := hU.behind
  cases bk
  · go_wp2_with fail
    go_ret
    exact ⟨rfl, hw1⟩
  · go_wp2_with fail
    refine (HS _ _ (h.on hw1)).mono ?_
    rintro e w2 ⟨rfl, hU2⟩
    go_wp2
    go_ret
    exact ⟨rfl, hw1.and hU2⟩

set_option maxHeartbeats 1000000 in
theorem isType_any (t : Tm) (hs : t.wt ≤ 1000000) (w : World) (cs : List Value) (h : Rep none' w t.dat cs) :
    Calls Tryd.prog 23 #[.agg cs.toArray] w fun e w' => e = .returned (.bool (t.isTyp && t.small)) ∧ Upto none' w w' := by
  have HK := fun w cs h => typed_any t hs w cs h
  have HS := fun w cs h => small_any t hs w cs h
  obtain ⟨k, n, i, ts, a, cap, ht, rfl, hcap, hE⟩ := tm_open h
  generalize t.isTyp = bk at *
  generalize t.small = sm at *
  have HT := hid ht
  clear ht hcap
  generalize ts.length = len at *
  go_enter Tryd.func23, Tryd.ntmps23
  go_wp2_with fail
  refine (HK _ _ (h.new _)).mono ?_
  rintro e w1 ⟨rfl, hU⟩
  obtain ⟨b0, b1, b2, b3⟩ := box_new hU
  have hw1 : Upto none' w w1 := hU.behind
  cases bk
  · go_wp2_with fail
    go_ret
    exact ⟨rfl, hw1⟩
  · go_wp2_with fail
    refine (HS _ _ (h.on hw1)).mono ?_
    rintro e w2 ⟨rfl, hU2⟩
    go_wp2
    go_ret
    exact ⟨rfl, hw1.and hU2⟩

set_option maxHeartbeats 1000000 in
theorem isObject_any (t : Tm) (hs : t.wt ≤ 1000000) (w : World) (cs : List Value) (h : Rep none' w t.dat cs) :
    Calls Tryd.prog 25 #[.agg cs.toArray] w fun e w' => e = .returned (.bool (t.isObj && t.small)) ∧ Upto none' w w' := by
  have HK := fun w cs h => object_any t hs w cs h
  have HS := fun w cs h => small_any t hs w cs h
  obtain ⟨k, n, i, ts, a, cap, ht, rfl, hcap, hE⟩ := tm_open h
  generalize t.isObj = bk at *
  generalize t.small = sm at *
  have HT := hid ht
  clear ht hcap
  generalize ts.length = len at *
  go_enter Tryd.func25, Tryd.ntmps25
  go_wp2_with fail
  refine (HK _ _ (h.new _)).mono ?_
  rintro e w1 ⟨rfl, hU⟩
  obtain ⟨b0, b1, b2, b3⟩ := box_new hU
  have hw1 : Upto none' w w1 := hU.behind
  cases bk
  · go_wp2_with fail
    go_ret
    exact ⟨rfl, hw1⟩
  · go_wp2_with fail
    refine (HS _ _ (h.on hw1)).mono ?_
    rintro e w2 ⟨rfl, hU2⟩
    go_wp2
    go_ret
    exact ⟨rfl, hw1.and hU2⟩

set_option maxHeartbeats 1000000 in
theorem wellFormed_any (t : Tm) (hs : t.wt ≤ 1000000) (w : World) (cs : List Value) (h : Rep none' w t.dat cs) :
    Calls Tryd.prog 19 #[.agg cs.toArray] w fun e w' => e = .returned (.int .i64 t.wf) ∧ Upto none' w w' := by
  have HO := fun w cs h => object_any t hs w cs h
  have HY := fun w cs h => typed_any t hs w cs h
  have HK := fun w cs h => kind_any t hs w cs h
  have HS := fun w cs h => small_any t hs w cs h
  have hp : (if !t.isObj && !t.isTyp && !t.isKnd then 1 else if !t.small then 2 else 0) = t.wf := rfl
  obtain ⟨k, n, i, ts, a, cap, ht, rfl, hcap, hE⟩ := tm_open h
  generalize t.isObj = bo at *
  generalize t.isTyp = bt at *
  generalize t.isKnd = bk at *
  generalize t.small = sm at *
  generalize t.wf = r at *
  have HT := hid ht
  have HP := hid hp
  clear ht hcap hp
  generalize ts.length = len at *
  have fin : ∀ w1, Upto none' w w1 → w1.cell? ⟨w.heap.size, 0, none⟩ = some (.int .i64 k) ∧ w1.cell? ⟨w.heap.size, 1, none⟩ = some (.string (B n)) ∧ w1.cell? ⟨w.heap.size, 2, none⟩ = some (.int .i64 i) ∧ w1.cell? ⟨w.heap.size, 3, none⟩ = some (.slice a len cap) →
      Calls Tryd.prog 77 #[.agg #[.int .i64 k, .string (B n), .int .i64 i, .slice a len cap]] w1 fun e w' => e = .returned (.bool sm) ∧ Upto none' w w' :=
    fun w1 hU _ => (HS _ _ (h.on hU)).mono fun _ _ ⟨he, hU2⟩ => ⟨he, hU.and hU2⟩
  have FIN := hid fin
  clear fin
  cases bo
  · cases bt
    · cases bk
      all_goals
        go_enter Tryd.func19, Tryd.ntmps19
        go_wp2_with fail
        refine (HO _ _ (h.new _)).mono ?_
        rintro e w1 ⟨rfl, hU⟩
        have B1 := box_new hU
        obtain ⟨b0, b1, b2, b3⟩ := B1
        have hw1 : Upto none' w w1 := hU.behind
        go_wp2_with fail
        refine (HY _ _ (h.on hw1)).mono ?_
        rintro e w2 ⟨rfl, hU2⟩
        have B2 := box_on hU2 ⟨b0, b1, b2, b3⟩
        obtain ⟨c0, c1, c2, c3⟩ := B2
        have hw2 := hw1.and hU2
        go_wp2_with fail
        refine (HK _ _ (h.on hw2)).mono ?_
        rintro e w3 ⟨rfl, hU3⟩
        have B3 := box_on hU3 ⟨c0, c1, c2, c3⟩
        obtain ⟨d0, d1, d2, d3⟩ := B3
        have hw3 := hw2.and hU3
        go_wp2_with fail
      · go_ret
        exact ⟨ret_int (by rw [← HP.out]; rfl), hw3⟩
      · refine (FIN.out _ hw3 ⟨d0, d1, d2, d3⟩).mono ?_
        rintro e w4 ⟨rfl, hU4⟩
        cases sm
        all_goals
          go_wp2
          go_ret
          exact ⟨ret_int (by rw [← HP.out]; rfl), hU4⟩
    · go_enter Tryd.func19, Tryd.ntmps19
      go_wp2_with fail
      refine (HO _ _ (h.new _)).mono ?_
      rintro e w1 ⟨rfl, hU⟩
      have B1 := box_new hU
      obtain ⟨b0, b1, b2, b3⟩ := B1
      have hw1 : Upto none' w w1 := hU.behind
      go_wp2_with fail
      refine (HY _ _ (h.on hw1)).mono ?_
      rintro e w2 ⟨rfl, hU2⟩
      have B2 := box_on hU2 ⟨b0, b1, b2, b3⟩
      obtain ⟨c0, c1, c2, c3⟩ := B2
      have hw2 := hw1.and hU2
      go_wp2_with fail
      refine (FIN.out _ hw2 ⟨c0, c1, c2, c3⟩).mono ?_
      rintro e w4 ⟨rfl, hU4⟩
      cases sm
      all_goals
        go_wp2
        go_ret
        exact ⟨ret_int (by rw [← HP.out]; cases bk <;> rfl), hU4⟩
  · go_enter Tryd.func19, Tryd.ntmps19
    go_wp2_with fail
    refine (HO _ _ (h.new _)).mono ?_
    rintro e w1 ⟨rfl, hU⟩
    have B1 := box_new hU
    obtain ⟨b0, b1, b2, b3⟩ := B1
    have hw1 : Upto none' w w1 := hU.behind
    go_wp2_with fail
    refine (FIN.out _ hw1 ⟨b0, b1, b2, b3⟩).mono ?_
    rintro e w4 ⟨rfl, hU4⟩
    cases sm
    all_goals
      go_wp2
      go_ret
      exact ⟨ret_int (by rw [← HP.out]; cases bt <;> cases bk <;> rfl), hU4⟩
end Go.Proofs.YtdcbgkmhlpkjiaaDoor
