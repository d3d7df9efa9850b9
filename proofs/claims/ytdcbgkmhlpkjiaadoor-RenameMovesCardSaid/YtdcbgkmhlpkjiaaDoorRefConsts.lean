/- The reference's consts, Consts. (Written by tools/mkconsts.py.) -/
import Derived.Test.YtdcbgkmhlpkjiaaDoorRefMetas
namespace Go.Proofs.YtdcbgkmhlpkjiaaDoor
open Go.RowKit Go.LF

theorem containsN_take (l : List (List UInt8)) (n : List UInt8) (j : Nat) (h : j < l.length) : (l.take (j + 1)).contains n = ((l.take j).contains n || l[j] == n) := by
  rw [List.take_succ_eq_append_getElem h, List.contains_eq_any_beq, List.contains_eq_any_beq, List.any_append]
  simp [Bool.beq_comm]

theorem addConstsL_take_succ (l : List Tm) : ∀ (acc : List (List UInt8)) (j : Nat) (h : j < l.length), Tm.addConstsL acc (l.take (j + 1)) = Tm.addConsts (Tm.addConstsL acc (l.take j)) l[j] := by
  induction l with
  | nil => intro acc j h; simp at h
  | cons t ts ih =>
    intro acc j h
    cases j with
    | zero => simp [Tm.addConstsL]
    | succ j => simp only [List.take_succ_cons, Tm.addConstsL, List.getElem_cons_succ]; exact ih _ j (by simpa using h)
theorem addConsts_len (t : Tm) (acc : List (List UInt8)) : (Tm.addConsts acc t).length ≤ acc.length + t.size := by
  rw [← Tm.consts_fold t 0 acc, ← Tm.nodes_length t 0]
  have key : ∀ (ys : List Tm.Nd0) (a : List (List UInt8)), (ys.foldl Tm.constStep a).length ≤ a.length + ys.length := by
    intro ys
    induction ys with
    | nil => intro a; simp
    | cons y ys ih =>
      intro a
      rw [List.foldl_cons]
      have := ih (Tm.constStep a y)
      have h2 : (Tm.constStep a y).length ≤ a.length + 1 := by unfold Tm.constStep; split <;> simp
      simp only [List.length_cons]
      omega
  exact key _ _
theorem addConstsL_len (l : List Tm) : ∀ (acc : List (List UInt8)), (Tm.addConstsL acc l).length ≤ acc.length + Tm.sizes l := by
  induction l with
  | nil => intro acc; simp [Tm.addConstsL]
  | cons t ts ih => intro acc; simp only [Tm.addConstsL, Tm.sizes]; have := ih (Tm.addConsts acc t); have := addConsts_len t acc; omega

set_option maxRecDepth 100000 in
set_option maxHeartbeats 4000000 in
theorem addConsts_any (t : Tm) : t.size ≤ 1000000 → ∀ (acc : List (List UInt8)) (base : Nat) (w : World) (v : Value) (cs : List Value), acc.length + t.size ≤ 2000000 → base ≤ w.heap.size → Strs base w v acc → Rep (fun b => base ≤ b) w t.dat cs →
    Calls Tryd.prog 88 #[v, .agg cs.toArray] w fun e w' => ∃ v', e = .returned v' ∧ Strs base w' v' (Tm.addConsts acc t) ∧ RowUp 9 base w w' := by
  induction t using Tm.ind with
  | h k n i ts ih =>
    intro hs acc base w v cs hac hbw hv h
    obtain ⟨a, cap, rfl, hcap, hE⟩ := rep_tm.1 h
    have hlen := Tm.length_le_sizes ts
    simp only [Tm.size_mk] at hs hac
    have hr : Tm.addConsts acc (Tm.mk k n i ts) = Tm.addConstsL (if k == 4 && !acc.contains n then acc ++ [n] else acc) ts := by rw [Tm.addConsts]
    generalize Tm.addConsts acc (Tm.mk k n i ts) = r at *
    have HR := hid hr
    clear hr h
    obtain ⟨i0, hi, hi0, hi1, hi2⟩ := info_parts info_str
    have hvr := hv.rep
    obtain ⟨va, vcap, hva, _, _⟩ := strs_open hvr
    subst hva
    obtain ⟨ct, hct⟩ : ∃ ct, ct = acc.contains n := ⟨_, rfl⟩
    rw [← hct] at HR
    obtain ⟨acc0, hacc0⟩ : ∃ acc0, acc0 = (if k == 4 && !ct then acc ++ [n] else acc) := ⟨_, rfl⟩
    rw [← hacc0] at HR
    have hB0 := Box4.new w (.int .i64 k) (.string (B n)) (.int .i64 i) (.slice a ts.length cap) 25
    have hal0 : acc0.length + Tm.sizes ts ≤ 2000000 := by rw [hacc0]; split <;> (try simp only [List.length_append, List.length_cons, List.length_nil]) <;> omega
    have HA0 := hid hacc0
    have HCT := hid hct
    clear hacc0 hct
    have hvl : acc.length ≤ 2000000 := by omega
    have hways : ((k == 4) = false ∧ acc0 = acc) ∨ (k == 4) = true := by
      cases h6 : (k == 4)
      · exact .inl ⟨rfl, by rw [HA0.out, h6]; rfl⟩
      · exact .inr rfl
    rcases hways with ⟨h6, h0⟩ | h6
    case inl =>
      subst h0
      go_enter Tryd.func88, Tryd.ntmps88
      go_wp2_with fail
      obtain ⟨w0, hw0⟩ : ∃ w0, w0 = w.alloc (.cells #[.int .i64 k, .string (B n), .int .i64 i, .slice a ts.length cap] 25) := ⟨_, rfl⟩
      have hv0 : Strs base w0 (.slice va acc0.length vcap) acc0 := by rw [hw0]; exact World.ownsRow.alloc hv _
      have hU0 : RowUp 9 base w w0 := by rw [hw0]; exact (RowUp.refl _ _ _).alloc _
      rw [← hw0] at hB0 ⊢
      clear hw0 hv
      go_loopw [0, 7] (fun v0 v5 wr => ∃ j : Nat, j ≤ ts.length ∧ v5 = .int .i64 j ∧ Strs base wr v0 (Tm.addConstsL acc0 (ts.take j)) ∧ Box4 wr w.heap.size (.int .i64 k) (.string (B n)) (.int .i64 i) (.slice a ts.length cap) 25 ∧ RowUp 9 base w wr)
        (fun _ v5 _ => ts.length - (intOf v5).toNat)
      case atStart => exact ⟨0, Nat.zero_le _, rfl, hv0, hB0, hU0⟩
      case round =>
        obtain ⟨j, hj, rfl, hvj, hBj, hUj⟩ := hrel
        clear hv0 hB0 hU0
        obtain ⟨b0, b1, b2, b3⟩ := hBj.cells
        by_cases hlt : j < ts.length
        · obtain ⟨b, o, k1, n1, x1, s1, cp, rfl, hb, _, p0, p1, p2, p3, hRp⟩ := arg_tm (hE.cel hUj.cel) j hlt
          have hs4 := Tm.size_le_sizes (List.getElem_mem hlt)
          have hl1 := addConstsL_len (ts.take j) acc0
          have hl2 := Tm.sizes_take_succ ts j hlt
          have hl3 := Tm.sizes_take_le ts (j + 1)
          have hT := addConstsL_take_succ ts acc0 j hlt
          have HT := hid hT
          have key := ih _ (List.getElem_mem hlt) (by omega) _ base wr _ _ (by omega) (Nat.le_trans hbw hUj.size) hvj hRp
          clear hT hl1 hl2 hl3
          go_wp2_with fail
          refine key.mono ?_
          rintro e w1 ⟨v', rfl, hv', hU1⟩
          go_wp2
          go_roundw
          case rel =>
            have fin : ∃ j1 : Nat, j1 ≤ ts.length ∧ Value.int .i64 ((j : Int) + 1) = .int .i64 j1 ∧ Strs base w1 v' (Tm.addConstsL acc0 (ts.take j1)) ∧ Box4 w1 w.heap.size (.int .i64 k) (.string (B n)) (.int .i64 i) (.slice (some ⟨b, o, none⟩) ts.length cap) 25 ∧ RowUp 9 base w w1 :=
              ⟨j + 1, by omega, by go_num, by rw [HT.out]; exact hv', hBj.up hU1 (by decide), hUj.trans hU1⟩
            first | exact fin | ((repeat apply Exists.intro); exact ⟨fin, rfl⟩)
          case measure => simp [intOf]; omega
        · have hj' : ts.take j = ts := List.take_of_length_le (by omega)
          rw [hj', ← HR.out] at hvj
          clear hj'
          go_wp2
          go_ret
          exact ⟨_, rfl, hvj, hUj⟩
    case inr =>
      go_enter Tryd.func88, Tryd.ntmps88
      go_wp2_with fail
      obtain ⟨wb, hwb⟩ : ∃ wb, wb = w.alloc (.cells #[.int .i64 k, .string (B n), .int .i64 i, .slice a ts.length cap] 25) := ⟨_, rfl⟩
      have hvb : Strs base wb (.slice va acc.length vcap) acc := by rw [hwb]; exact World.ownsRow.alloc hv _
      have hUb : RowUp 9 base w wb := by rw [hwb]; exact (RowUp.refl _ _ _).alloc _
      rw [← hwb] at hB0 ⊢
      clear hwb hv
      go_loopw [5, 6] (fun v5 v6 wr => ∃ (j : Nat) (f : Bool), j ≤ acc.length ∧ v6 = .int .i64 j ∧ v5 = .bool f ∧ f = (acc.take j).contains n ∧ Upto none' wb wr)
        (fun _ v6 _ => acc.length - (intOf v6).toNat)
      case atStart => exact ⟨0, false, Nat.zero_le _, rfl, rfl, by simp, Upto.refl _ _⟩
      case round =>
        obtain ⟨j, f, hj, rfl, rfl, hf, hUr⟩ := hrel
        have HF := hid hf
        clear hf
        have hvr := hvb.kept (upto_grown hUr) (own_none _)
        by_cases hlt : j < acc.length
        · obtain ⟨va', vcap', hve, _, hE2⟩ := strs_open (Strs.rep hvr)
          cases hve
          obtain ⟨b, o, rfl, hb, _, hc⟩ := str_cell hE2 j hlt
          obtain ⟨b0, b1, b2, b3⟩ := (hB0.kept hUr).cells
          have hT := containsN_take acc n j hlt
          rw [← HF.out] at hT
          have HT := hid hT
          clear hT hvr
          obtain ⟨xe, hxe⟩ : ∃ xe, (acc[j] == n) = xe := ⟨_, rfl⟩
          rw [hxe] at HT
          generalize acc[j] = x at *
          have j0 : (0 : Int) ≤ (j : Int) := by omega
          have j1 : (j : Int) < (acc.length : Int) := by omega
          cases f
          all_goals
            go_wp2_with fail
            go_region
            go_wp2
          all_goals
            go_roundw
            case rel =>
              have fin : ∃ (j1 : Nat) (f : Bool), j1 ≤ acc.length ∧ Value.int .i64 ((j : Int) + 1) = .int .i64 j1 ∧ Value.bool _ = .bool f ∧ f = (acc.take j1).contains n ∧ Upto none' wb wr.drew :=
                ⟨j + 1, _, by omega, by go_num, rfl, by rw [HT.out], hUr.drew⟩
              first | exact fin | ((repeat apply Exists.intro); exact ⟨fin, rfl⟩)
            case measure => simp [intOf]; omega
        · have hfc : f = ct := by rw [HF.out, HCT.out, List.take_of_length_le (by omega)]
          subst hfc
          have hUa : RowUp 9 base w wr := hUb.on hUr
          replace hB0 := hB0.kept hUr
          have hcl := hB0.cells
          have hbwa : base ≤ wr.heap.size := Nat.le_trans hbw hUa.size
          clear hvb hUb hUr
          cases f
          · have h0 : acc0 = acc ++ [n] := by rw [HA0.out, h6]; rfl
            have hva := hvr
            clear hvr
            go_wp2_with (at_builtin; refine wpList_append_own _ rfl _ _ 36 rfl base 9 i0 (.string (B [])) 1 16 (by kernel_rfl) hi hi0 hi1 hi2 rfl (by decide) _ _ _ rfl (World.ownsRow.alloc hva _) ⟨wr.heap.size, 0, none⟩ 1 1 [.string (B n)] rfl rfl (cell_one_new _ _ _) (by simp [Value.oneCell']) (by simp only [maxLen]; omega) (by omega) (by simp; omega) ?_; intro v' w0 hown' hgrow _; obtain ⟨g', cap', rfl⟩ := ownsRow_succ hown')
            have hv0 : Strs base w0 (.slice (some ⟨g', 0, none⟩) (acc.length + 1) cap') acc0 := by rw [h0]; unfold Strs; simpa using hown'
            have hU0 : RowUp 9 base w w0 := (hUa.alloc _).trans (RowUp.grown (World.ownsRow.alloc hva _) hgrow)
            replace hB0 : Box4 w0 w.heap.size _ _ _ _ _ := ((hB0.kept ((Upto.refl none' wr).alloc _)).up (RowUp.grown (World.ownsRow.alloc hva _) hgrow) (by decide))
            clear hva hUa hcl hown' hgrow
            go_loopw [0, 7] (fun v0 v5 wr => ∃ j : Nat, j ≤ ts.length ∧ v5 = .int .i64 j ∧ Strs base wr v0 (Tm.addConstsL acc0 (ts.take j)) ∧ Box4 wr w.heap.size (.int .i64 k) (.string (B n)) (.int .i64 i) (.slice a ts.length cap) 25 ∧ RowUp 9 base w wr)
              (fun _ v5 _ => ts.length - (intOf v5).toNat)
            case atStart => exact ⟨0, Nat.zero_le _, rfl, hv0, hB0, hU0⟩
            case round =>
              obtain ⟨j, hj, rfl, hvj, hBj, hUj⟩ := hrel
              clear hv0 hB0 hU0
              obtain ⟨b0, b1, b2, b3⟩ := hBj.cells
              by_cases hlt : j < ts.length
              · obtain ⟨b, o, k1, n1, x1, s1, cp, rfl, hb, _, p0, p1, p2, p3, hRp⟩ := arg_tm (hE.cel hUj.cel) j hlt
                have hs4 := Tm.size_le_sizes (List.getElem_mem hlt)
                have hl1 := addConstsL_len (ts.take j) acc0
                have hl2 := Tm.sizes_take_succ ts j hlt
                have hl3 := Tm.sizes_take_le ts (j + 1)
                have hT := addConstsL_take_succ ts acc0 j hlt
                have HT := hid hT
                have key := ih _ (List.getElem_mem hlt) (by omega) _ base wr _ _ (by omega) (Nat.le_trans hbw hUj.size) hvj hRp
                clear hT hl1 hl2 hl3
                go_wp2_with fail
                refine key.mono ?_
                rintro e w1 ⟨v', rfl, hv', hU1⟩
                go_wp2
                go_roundw
                case rel =>
                  have fin : ∃ j1 : Nat, j1 ≤ ts.length ∧ Value.int .i64 ((j : Int) + 1) = .int .i64 j1 ∧ Strs base w1 v' (Tm.addConstsL acc0 (ts.take j1)) ∧ Box4 w1 w.heap.size (.int .i64 k) (.string (B n)) (.int .i64 i) (.slice (some ⟨b, o, none⟩) ts.length cap) 25 ∧ RowUp 9 base w w1 :=
                    ⟨j + 1, by omega, by go_num, by rw [HT.out]; exact hv', hBj.up hU1 (by decide), hUj.trans hU1⟩
                  first | exact fin | ((repeat apply Exists.intro); exact ⟨fin, rfl⟩)
                case measure => simp [intOf]; omega
              · have hj' : ts.take j = ts := List.take_of_length_le (by omega)
                rw [hj', ← HR.out] at hvj
                clear hj'
                go_wp2
                go_ret
                exact ⟨_, rfl, hvj, hUj⟩
          · have h0 : acc0 = acc := by rw [HA0.out, h6]; rfl
            have hv0 : Strs base wr (.slice va acc.length vcap) acc0 := by rw [h0]; exact hvr
            have hU0 := hUa
            go_wp2_with fail
            clear hcl hvr
            go_loopw [0, 7] (fun v0 v5 wr => ∃ j : Nat, j ≤ ts.length ∧ v5 = .int .i64 j ∧ Strs base wr v0 (Tm.addConstsL acc0 (ts.take j)) ∧ Box4 wr w.heap.size (.int .i64 k) (.string (B n)) (.int .i64 i) (.slice a ts.length cap) 25 ∧ RowUp 9 base w wr)
              (fun _ v5 _ => ts.length - (intOf v5).toNat)
            case atStart => exact ⟨0, Nat.zero_le _, rfl, hv0, hB0, hU0⟩
            case round =>
              obtain ⟨j, hj, rfl, hvj, hBj, hUj⟩ := hrel
              clear hv0 hB0 hU0
              obtain ⟨b0, b1, b2, b3⟩ := hBj.cells
              by_cases hlt : j < ts.length
              · obtain ⟨b, o, k1, n1, x1, s1, cp, rfl, hb, _, p0, p1, p2, p3, hRp⟩ := arg_tm (hE.cel hUj.cel) j hlt
                have hs4 := Tm.size_le_sizes (List.getElem_mem hlt)
                have hl1 := addConstsL_len (ts.take j) acc0
                have hl2 := Tm.sizes_take_succ ts j hlt
                have hl3 := Tm.sizes_take_le ts (j + 1)
                have hT := addConstsL_take_succ ts acc0 j hlt
                have HT := hid hT
                have key := ih _ (List.getElem_mem hlt) (by omega) _ base wr _ _ (by omega) (Nat.le_trans hbw hUj.size) hvj hRp
                clear hT hl1 hl2 hl3
                go_wp2_with fail
                refine key.mono ?_
                rintro e w1 ⟨v', rfl, hv', hU1⟩
                go_wp2
                go_roundw
                case rel =>
                  have fin : ∃ j1 : Nat, j1 ≤ ts.length ∧ Value.int .i64 ((j : Int) + 1) = .int .i64 j1 ∧ Strs base w1 v' (Tm.addConstsL acc0 (ts.take j1)) ∧ Box4 w1 w.heap.size (.int .i64 k) (.string (B n)) (.int .i64 i) (.slice (some ⟨b, o, none⟩) ts.length cap) 25 ∧ RowUp 9 base w w1 :=
                    ⟨j + 1, by omega, by go_num, by rw [HT.out]; exact hv', hBj.up hU1 (by decide), hUj.trans hU1⟩
                  first | exact fin | ((repeat apply Exists.intro); exact ⟨fin, rfl⟩)
                case measure => simp [intOf]; omega
              · have hj' : ts.take j = ts := List.take_of_length_le (by omega)
                rw [hj', ← HR.out] at hvj
                clear hj'
                go_wp2
                go_ret
                exact ⟨_, rfl, hvj, hUj⟩

set_option maxHeartbeats 2000000 in
theorem refConsts_any (t : Tm) (hwt : t.wt ≤ 1000000) (w : World) (cs : List Value) (h : Rep none' w t.dat cs) :
    Calls Tryd.prog 40 #[.agg cs.toArray] w fun e w' => ∃ v, e = .returned v ∧ Strs w.heap.size w' v (Tm.consts t) ∧ Upto none' w w' := by
  have HW := fun w cs h => refWellFormed_any t hwt w cs h
  have HS := fun w v cs (h : Rep (fun b => w.heap.size ≤ b) w t.dat cs) hv => addConsts_any t (Nat.le_trans (Tm.size_le_wt t) hwt) [] w.heap.size w v cs (by have := Tm.size_le_wt t; simp; omega) (Nat.le_refl _) hv h
  have hm : Tm.consts t = if t.wf == 0 then Tm.addConsts [] t else [] := rfl
  obtain ⟨k, n, i, ts, a, cap, ht, rfl, hcap, hE⟩ := tm_open h
  generalize Tm.consts t = r at *
  generalize Tm.addConsts [] t = r' at *
  generalize t.wf = wf at *
  have HT := hid ht
  clear ht hcap
  generalize ts.length = len at *
  by_cases hz : (wf == 0) = true
  · have z1 : (wf != 0) = false := by simp [bne, hz]
    rw [if_pos hz] at hm
    subst hm
    go_enter Tryd.func40, Tryd.ntmps40
    go_wp2_with fail
    refine (HW _ _ (h.new _)).mono ?_
    rintro e w1 ⟨rfl, hU⟩
    obtain ⟨b0, b1, b2, b3⟩ := box_new hU
    have hw1 : Upto none' w w1 := hU.behind'
    go_wp2_with fail
    refine (HS _ _ _ (Rep.fresh (h.on hw1)) (World.ownsRow_nil _ _ _ _)).mono ?_
    rintro e w2 ⟨v, rfl, hv, hU2⟩
    go_wp2
    go_ret
    exact ⟨v, rfl, hv.mono hw1.size, hw1.and (hU2.upto (Nat.le_refl _))⟩
  · have z1 : (wf != 0) = true := by simp at hz; simp [bne, hz]
    rw [if_neg hz] at hm
    subst hm
    go_enter Tryd.func40, Tryd.ntmps40
    go_wp2_with fail
    refine (HW _ _ (h.new _)).mono ?_
    rintro e w1 ⟨rfl, hU⟩
    have hw1 : Upto none' w w1 := hU.behind'
    go_wp2
    go_ret
    exact ⟨_, rfl, World.ownsRow_nil _ _ _ _, hw1⟩
end Go.Proofs.YtdcbgkmhlpkjiaaDoor
