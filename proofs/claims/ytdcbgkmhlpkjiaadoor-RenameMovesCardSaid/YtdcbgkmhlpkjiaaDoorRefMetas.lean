/- The reference's HasInt, AddMetas, Metas. -/
import Derived.Test.YtdcbgkmhlpkjiaaDoorRows2
import Derived.Test.YtdcbgkmhlpkjiaaDoorRefBinds
import Derived.Laws.AppendOwn
namespace Go.Proofs.YtdcbgkmhlpkjiaaDoor
open Go.RowKit Go.LF

theorem contains_take (l : List Int) (n : Int) (j : Nat) (h : j < l.length) : (l.take (j + 1)).contains n = ((l.take j).contains n || l[j] == n) := by
  rw [List.take_succ_eq_append_getElem h, List.contains_eq_any_beq, List.contains_eq_any_beq, List.any_append]
  simp [Bool.beq_comm]
theorem contains_at (l : List Int) (n : Int) (j : Nat) (h : j < l.length) (e : (l[j] == n) = true) : l.contains n = true := by
  have : l[j] = n := by simpa using e
  rw [← this]
  simp

set_option maxHeartbeats 1000000 in
theorem hasInt_any (l : List Int) (hl : l.length ≤ 10000000) (n : Int) {O : Nat → Prop} (w : World) (v : Value) (h : Rep O w (intsD l) [v]) :
    Calls Tryd.prog 117 #[v, .int .i64 n] w fun e w' => e = .returned (.bool (l.contains n)) ∧ Upto none' w w' := by
  obtain ⟨a, cap, rfl, hcap, hE⟩ := ints_open h
  obtain ⟨r, hr⟩ : ∃ r, r = l.contains n := ⟨_, rfl⟩
  rw [← hr]
  have HR := hid hr
  clear hr h
  go_enter Tryd.func117, Tryd.ntmps117
  go_wp2_with fail
  go_loopw [5] (fun v5 wr => ∃ j : Nat, j ≤ l.length ∧ v5 = .int .i64 j ∧ (l.take j).contains n = false ∧ w = wr)
    (fun v5 _ => l.length - (intOf v5).toNat)
  case atStart => exact ⟨0, Nat.zero_le _, rfl, rfl, rfl⟩
  case round =>
    obtain ⟨j, hj, rfl, hA, rfl⟩ := hrel
    have HA := hid hA
    clear hA
    by_cases hlt : j < l.length
    · obtain ⟨b, o, rfl, hb, _, hc⟩ := int_cell hE j hlt
      have hT := contains_take l n j hlt
      have hM := contains_at l n j hlt
      rw [HA.out, Bool.false_or] at hT
      have HT := hid hT
      have HM := hid hM
      clear hT hM
      generalize l[j] = x at *
      by_cases hx : (x == n) = true
      · have hx' := hid hx
        go_wp2
        go_ret
        exact ⟨ret_bool (by rw [HR.out, HM.out hx'.out]), Upto.refl _ _⟩
      · have hx' := hid hx
        replace hx : (x == n) = false := by simpa using hx
        go_wp2
        go_roundw
        case rel =>
          have fin : ∃ j1 : Nat, j1 ≤ l.length ∧ Value.int .i64 ((j : Int) + 1) = .int .i64 j1 ∧ (l.take j1).contains n = false ∧ True :=
            ⟨j + 1, by omega, by go_num, by rw [HT.out]; simpa using hx'.out, trivial⟩
          first | exact fin | ((repeat apply Exists.intro); exact ⟨fin, rfl⟩)
        case measure => simp [intOf]; omega
    · have hj' : l.take j = l := List.take_of_length_le (by omega)
      have HA' := HA.out
      rw [hj'] at HA'
      have HO := hid HA'
      clear HA HA' hj'
      go_wp2
      go_ret
      exact ⟨ret_bool (by rw [HR.out, HO.out]), Upto.refl _ _⟩

theorem addMetasL_take_succ (l : List Tm) : ∀ (acc : List Int) (j : Nat) (h : j < l.length), Tm.addMetasL acc (l.take (j + 1)) = Tm.addMetas (Tm.addMetasL acc (l.take j)) l[j] := by
  induction l with
  | nil => intro acc j h; simp at h
  | cons t ts ih =>
    intro acc j h
    cases j with
    | zero => simp [Tm.addMetasL]
    | succ j => simp only [List.take_succ_cons, Tm.addMetasL, List.getElem_cons_succ]; exact ih _ j (by simpa using h)
theorem addMetas_len (t : Tm) (acc : List Int) : (Tm.addMetas acc t).length ≤ acc.length + t.size := by
  rw [← Tm.metas_fold t 0 acc, ← Tm.nodes_length t 0]
  have key : ∀ (ys : List Tm.Nd0) (a : List Int), (ys.foldl Tm.metaStep a).length ≤ a.length + ys.length := by
    intro ys
    induction ys with
    | nil => intro a; simp
    | cons y ys ih =>
      intro a
      rw [List.foldl_cons]
      have := ih (Tm.metaStep a y)
      have h2 : (Tm.metaStep a y).length ≤ a.length + 1 := by unfold Tm.metaStep; split <;> simp
      simp only [List.length_cons]
      omega
  exact key _ _
theorem addMetasL_len (l : List Tm) : ∀ (acc : List Int), (Tm.addMetasL acc l).length ≤ acc.length + Tm.sizes l := by
  induction l with
  | nil => intro acc; simp [Tm.addMetasL]
  | cons t ts ih => intro acc; simp only [Tm.addMetasL, Tm.sizes]; have := ih (Tm.addMetas acc t); have := addMetas_len t acc; omega

set_option maxRecDepth 100000 in
set_option maxHeartbeats 4000000 in
theorem addMetas_any (t : Tm) : t.size ≤ 1000000 → ∀ (acc : List Int) (base : Nat) (w : World) (v : Value) (cs : List Value), acc.length + t.size ≤ 2000000 → base ≤ w.heap.size → Ints base w v acc → Rep (fun b => base ≤ b) w t.dat cs →
    Calls Tryd.prog 85 #[v, .agg cs.toArray] w fun e w' => ∃ v', e = .returned v' ∧ Ints base w' v' (Tm.addMetas acc t) ∧ RowUp 3 base w w' := by
  induction t using Tm.ind with
  | h k n i ts ih =>
    intro hs acc base w v cs hac hbw hv h
    obtain ⟨a, cap, rfl, hcap, hE⟩ := rep_tm.1 h
    have hlen := Tm.length_le_sizes ts
    simp only [Tm.size_mk] at hs hac
    have hr : Tm.addMetas acc (Tm.mk k n i ts) = Tm.addMetasL (if k == 6 && !acc.contains i then acc ++ [i] else acc) ts := by rw [Tm.addMetas]
    generalize Tm.addMetas acc (Tm.mk k n i ts) = r at *
    have HR := hid hr
    clear hr h
    have HI := fun w v h => hasInt_any acc (by omega) i (O := fun b => b < base) w v h
    obtain ⟨i0, hi, hi0, hi1, hi2⟩ := info_parts info_int
    have hvr := hv.rep
    obtain ⟨va, vcap, hva, _, _⟩ := ints_open hvr
    subst hva
    obtain ⟨ct, hct⟩ : ∃ ct, ct = acc.contains i := ⟨_, rfl⟩
    rw [← hct] at HR HI
    obtain ⟨acc0, hacc0⟩ : ∃ acc0, acc0 = (if k == 6 && !ct then acc ++ [i] else acc) := ⟨_, rfl⟩
    rw [← hacc0] at HR
    have hB0 := Box4.new w (.int .i64 k) (.string (B n)) (.int .i64 i) (.slice a ts.length cap) 25
    have hal0 : acc0.length + Tm.sizes ts ≤ 2000000 := by rw [hacc0]; split <;> (try simp only [List.length_append, List.length_cons, List.length_nil]) <;> omega
    have hways : ((k == 6) = false ∧ acc0 = acc) ∨ ((k == 6) = true ∧ ct = true ∧ acc0 = acc) ∨ ((k == 6) = true ∧ ct = false ∧ acc0 = acc ++ [i]) := by
      cases h6 : (k == 6)
      · exact .inl ⟨rfl, by rw [hacc0, h6]; rfl⟩
      · cases ct
        · exact .inr (.inr ⟨rfl, rfl, by rw [hacc0, h6]; rfl⟩)
        · exact .inr (.inl ⟨rfl, rfl, by rw [hacc0, h6]; rfl⟩)
    clear hacc0 hct
    have hvl : acc.length ≤ 2000000 := by omega
    rcases hways with ⟨h6, h0⟩ | ⟨h6, hc, h0⟩ | ⟨h6, hc, h0⟩
    case' inl =>
      subst h0
      go_enter Tryd.func85, Tryd.ntmps85
      go_wp2_with fail
      obtain ⟨w0, hw0⟩ : ∃ w0, w0 = w.alloc (.cells #[.int .i64 k, .string (B n), .int .i64 i, .slice a ts.length cap] 25) := ⟨_, rfl⟩
      have hv0 : Ints base w0 (.slice va acc0.length vcap) acc0 := by rw [hw0]; exact World.ownsRow.alloc hv _
      have hU0 : RowUp 3 base w w0 := by rw [hw0]; exact (RowUp.refl _ _ _).alloc _
      rw [← hw0] at hB0 ⊢
      clear hw0 hv
    case' inr.inl =>
      subst h0 hc
      go_enter Tryd.func85, Tryd.ntmps85
      go_wp2_with fail
      refine (HI _ _ (Ints.rep (World.ownsRow.alloc hv _))).mono ?_
      rintro e w0 ⟨rfl, hU1⟩
      have hv0 : Ints base w0 (.slice va acc0.length vcap) acc0 := (World.ownsRow.alloc hv _).kept (upto_grown hU1) (own_none _)
      have hU0 : RowUp 3 base w w0 := ((RowUp.refl _ _ _).alloc _).on hU1
      replace hB0 := hB0.kept hU1
      have hcl := hB0.cells
      clear hU1 hv
      go_wp2_with fail
      clear hcl
    case' inr.inr =>
      subst hc
      go_enter Tryd.func85, Tryd.ntmps85
      go_wp2_with fail
      refine (HI _ _ (Ints.rep (World.ownsRow.alloc hv _))).mono ?_
      rintro e wa ⟨rfl, hU1⟩
      have hva : Ints base wa (.slice va acc.length vcap) acc := (World.ownsRow.alloc hv _).kept (upto_grown hU1) (own_none _)
      have hUa : RowUp 3 base w wa := ((RowUp.refl _ _ _).alloc _).on hU1
      replace hB0 := hB0.kept hU1
      have hcl := hB0.cells
      have hbwa : base ≤ wa.heap.size := Nat.le_trans hbw hUa.size
      clear hU1 hv
      go_wp2_with (at_builtin; refine wpList_append_own _ rfl _ _ 22 rfl base 3 i0 (.int .i64 0) 1 8 (by kernel_rfl) hi hi0 hi1 hi2 rfl (by decide) _ _ _ rfl (World.ownsRow.alloc hva _) ⟨wa.heap.size, 0, none⟩ 1 1 [.int .i64 i] rfl rfl (cell_one_new _ _ _) (by simp [Value.oneCell']) (by simp only [maxLen]; omega) (by omega) (by simp; omega) ?_; intro v' w0 hown' hgrow _; obtain ⟨g', cap', rfl⟩ := ownsRow_succ hown')
      have hv0 : Ints base w0 (.slice (some ⟨g', 0, none⟩) (acc.length + 1) cap') acc0 := by rw [h0]; unfold Ints; simpa using hown'
      have hU0 : RowUp 3 base w w0 := (hUa.alloc _).trans (RowUp.grown (World.ownsRow.alloc hva _) hgrow)
      replace hB0 : Box4 w0 w.heap.size _ _ _ _ _ := ((hB0.kept ((Upto.refl none' wa).alloc _)).up (RowUp.grown (World.ownsRow.alloc hva _) hgrow) (by decide))
      clear hva hUa hcl hown' hgrow
    all_goals
      go_loopw [0, 5] (fun v0 v5 wr => ∃ j : Nat, j ≤ ts.length ∧ v5 = .int .i64 j ∧ Ints base wr v0 (Tm.addMetasL acc0 (ts.take j)) ∧ Box4 wr w.heap.size (.int .i64 k) (.string (B n)) (.int .i64 i) (.slice a ts.length cap) 25 ∧ RowUp 3 base w wr)
        (fun _ v5 _ => ts.length - (intOf v5).toNat)
      case atStart => exact ⟨0, Nat.zero_le _, rfl, hv0, hB0, hU0⟩
      case round =>
        obtain ⟨j, hj, rfl, hvj, hBj, hUj⟩ := hrel
        clear hv0 hB0 hU0
        obtain ⟨b0, b1, b2, b3⟩ := hBj.cells
        by_cases hlt : j < ts.length
        · obtain ⟨b, o, k1, n1, x1, s1, cp, rfl, hb, _, p0, p1, p2, p3, hRp⟩ := arg_tm (hE.cel hUj.cel) j hlt
          have hs4 := Tm.size_le_sizes (List.getElem_mem hlt)
          have hl1 := addMetasL_len (ts.take j) acc0
          have hl2 := Tm.sizes_take_succ ts j hlt
          have hl3 := Tm.sizes_take_le ts (j + 1)
          have hT := addMetasL_take_succ ts acc0 j hlt
          have HT := hid hT
          have key := ih _ (List.getElem_mem hlt) (by omega) _ base wr _ _ (by omega) (Nat.le_trans hbw hUj.size) hvj hRp
          clear hT hl1 hl2 hl3
          go_wp2_with fail
          refine key.mono ?_
          rintro e w1 ⟨v', rfl, hv', hU1⟩
          go_wp2
          go_roundw
          case rel =>
            have fin : ∃ j1 : Nat, j1 ≤ ts.length ∧ Value.int .i64 ((j : Int) + 1) = .int .i64 j1 ∧ Ints base w1 v' (Tm.addMetasL acc0 (ts.take j1)) ∧ Box4 w1 w.heap.size (.int .i64 k) (.string (B n)) (.int .i64 i) (.slice (some ⟨b, o, none⟩) ts.length cap) 25 ∧ RowUp 3 base w w1 :=
              ⟨j + 1, by omega, by go_num, by rw [HT.out]; exact hv', hBj.up hU1 (by decide), hUj.trans hU1⟩
            first | exact fin | ((repeat apply Exists.intro); exact ⟨fin, rfl⟩)
          case measure => simp [intOf]; omega
        · have hj' : ts.take j = ts := List.take_of_length_le (by omega)
          rw [hj', ← HR.out] at hvj
          clear hj'
          go_wp2
          go_ret
          exact ⟨_, rfl, hvj, hUj⟩

set_option maxHeartbeats 2000000 in
theorem refMetas_any (t : Tm) (hwt : t.wt ≤ 1000000) (w : World) (cs : List Value) (h : Rep none' w t.dat cs) :
    Calls Tryd.prog 37 #[.agg cs.toArray] w fun e w' => ∃ v, e = .returned v ∧ Ints w.heap.size w' v (Tm.metas t) ∧ Upto none' w w' := by
  have HW := fun w cs h => refWellFormed_any t hwt w cs h
  have HS := fun w v cs (h : Rep (fun b => w.heap.size ≤ b) w t.dat cs) hv => addMetas_any t (Nat.le_trans (Tm.size_le_wt t) hwt) [] w.heap.size w v cs (by have := Tm.size_le_wt t; simp; omega) (Nat.le_refl _) hv h
  have hm : Tm.metas t = if t.wf == 0 then Tm.addMetas [] t else [] := rfl
  obtain ⟨k, n, i, ts, a, cap, ht, rfl, hcap, hE⟩ := tm_open h
  generalize Tm.metas t = r at *
  generalize Tm.addMetas [] t = r' at *
  generalize t.wf = wf at *
  have HT := hid ht
  clear ht hcap
  generalize ts.length = len at *
  by_cases hz : (wf == 0) = true
  · have z1 : (wf != 0) = false := by simp [bne, hz]
    rw [if_pos hz] at hm
    subst hm
    go_enter Tryd.func37, Tryd.ntmps37
    go_wp2_with fail
    refine (HW _ _ (h.new _)).mono ?_
    rintro e w1 ⟨rfl, hU⟩
    obtain ⟨b0, b1, b2, b3⟩ := box_new hU
    have hw1 : Upto none' w w1 := hU.behind'
    go_wp2_with fail
    refine (HS _ _ _ (Rep.fresh (h.on hw1)) (World.ownsRow_nil _ _ _ _)).mono ?_
    rintro e w2 ⟨v, rfl, hv, hU2⟩
    go_wp2
    go_ret
    exact ⟨v, rfl, hv.mono hw1.size, hw1.and (hU2.upto (Nat.le_refl _))⟩
  · have z1 : (wf != 0) = true := by simp at hz; simp [bne, hz]
    rw [if_neg hz] at hm
    subst hm
    go_enter Tryd.func37, Tryd.ntmps37
    go_wp2_with fail
    refine (HW _ _ (h.new _)).mono ?_
    rintro e w1 ⟨rfl, hU⟩
    have hw1 : Upto none' w w1 := hU.behind'
    go_wp2
    go_ret
    exact ⟨_, rfl, World.ownsRow_nil _ _ _ _, hw1⟩
end Go.Proofs.YtdcbgkmhlpkjiaaDoor
