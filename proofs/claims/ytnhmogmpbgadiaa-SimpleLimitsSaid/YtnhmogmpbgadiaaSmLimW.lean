/- SimpleLimits: its walk. -/
import Derived.Test.YtnhmogmpbgadiaaDF
import Derived.Test.YtnhmogmpbgadiaaDA
import Derived.Test.YtnhmogmpbgadiaaCF
import Derived.Test.YtnhmogmpbgadiaaCH
import Derived.Deep.CutRange
import Derived.Deep.DeepCutAuto
namespace Go.Proofs.Ytnhmogmpbgadiaa
open Go.RowKit Go.LF
/-- A variable of a simple type becomes the one argument of a new one. -/
theorem relay2 {W : World} {b : Nat} {t : Sm} {t0 t1 : Value} {T : TypeId} (hB : Box2 W b t0 t1 T) (hR : Rep (fun x => x = b) W t.dat [t0, t1]) (n : List UInt8) {W' : World}
    (hW : W' = ((W.setCell ⟨b, 0, none⟩ (.string (B n))).setCell ⟨b, 1, none⟩ (.slice (some ⟨W.heap.size, 0, none⟩) 1 1)).alloc (.cells #[t0, t1] T)) :
    Box2 W' b (.string (B n)) (.slice (some ⟨W.heap.size, 0, none⟩) 1 1) T ∧ Rep (fun x => x = b) W' (Sm.mk n [t]).dat [.string (B n), .slice (some ⟨W.heap.size, 0, none⟩) 1 1] ∧ Upto (fun x => x = b) W W' := by
  subst hW
  have hs := hB.set (d0 := .string (B n)) (d1 := .slice (some ⟨W.heap.size, 0, none⟩) 1 1)
  have hU := hs.2.alloc (.cells #[t0, t1] T)
  have hlt := hB.lt
  have hsz : ((W.setCell ⟨b, 0, none⟩ (.string (B n))).setCell ⟨b, 1, none⟩ (.slice (some ⟨W.heap.size, 0, none⟩) 1 1)).heap.size = W.heap.size := by simp
  have hnew : Box2 (((W.setCell ⟨b, 0, none⟩ (.string (B n))).setCell ⟨b, 1, none⟩ (.slice (some ⟨W.heap.size, 0, none⟩) 1 1)).alloc (.cells #[t0, t1] T)) W.heap.size t0 t1 T := Box2.at_new hsz
  refine ⟨hs.1.kept ((Upto.refl none' _).alloc _), rep_sm.2 ⟨_, 1, rfl, Nat.le_refl _, repE_of _ _ _ (fun i hi => ?_)⟩, hU⟩
  obtain rfl : i = 0 := by simpa using hi
  refine ⟨W.heap.size, 0, _, rfl, hnew.lt, by omega, rfl, fun m v hv => ?_, Rep.keep hU (fun _ e => e) _ _ hR⟩
  match m, hv with
  | 0, hv => cases hv; exact hnew.cells.1
  | 1, hv => cases hv; exact hnew.cells.2
  | m + 2, hv => simp at hv
abbrev leafS : Sm := .mk [110, 97, 116] []
abbrev leafT : Tm := .mk 4 [122] 0 []
set_option maxRecDepth 100000 in
set_option maxHeartbeats 16000000 in
theorem simpleLimits_walk (by' : Int) (w : World) : Calls Try.prog 5 #[.int .i64 by'] w fun e w' => e = .returned (.bool true) ∧ Upto none' w w' := by
  go_enter Try.func5, Try.ntmps5
  go_wp2_with fail
  refine (cut_any by' 4 (by omega) (by omega) _).mono ?_
  rintro e w' ⟨⟨c, hc, rfl⟩, rfl⟩
  have c0 : (0 : Int) ≤ (c : Int) := by omega
  have c4 : (c : Int) < 4 := hc
  go_wp2_with fail
  have hbt : Box2 (w.alloc (.cells #[.string (B [110, 97, 116]), .slice none 0 0] 29)) w.heap.size (.string (B [110, 97, 116])) (.slice none 0 0) 29 := Box2.at_new rfl
  go_loopw [5] (fun v5 wr => ∃ (j : Nat) (t0 t1 : Value), v5 = .int .i64 ((j : Int) + 1) ∧ j ≤ 126 + c ∧ Box2 wr w.heap.size t0 t1 29 ∧ Rep (fun b => b = w.heap.size) wr (Tm.chainS j).dat [t0, t1] ∧ Upto none' w wr)
    (fun v5 _ => 200 - (intOf v5).toNat)
  case atStart => exact ⟨0, _, _, rfl, by omega, hbt, rep_sm_leaf _, (Upto.refl none' w).alloc _⟩
  case round =>
    obtain ⟨j, t0, t1, rfl, hj, hB, hR, hU⟩ := hrel
    obtain ⟨x0, x1⟩ := hB.cells
    obtain ⟨f0, f1⟩ := hB.frozens
    have q := hB.lt
    have u1 : ((j : Int) + 1) ≤ 1000 := by omega
    by_cases hlt : (j : Int) + 1 < 128 + (c : Int) - 1
    · go_wp2_with fail
      obtain ⟨wn, hwn⟩ : ∃ wn, wn = ((wr.setCell ⟨w.heap.size, 0, none⟩ (.string (B [110, 97, 116]))).setCell ⟨w.heap.size, 1, none⟩ (.slice (some ⟨wr.heap.size, 0, none⟩) 1 1)).alloc (.cells #[t0, t1] 29) := ⟨_, rfl⟩
      obtain ⟨hB', hR', hU'⟩ := relay2 hB hR [110, 97, 116] hwn
      rw [← hwn]
      clear hwn
      go_roundw
      case rel => exact ⟨j + 1, _, _, by go_num, by omega, hB', hR', hU.trans hU' (fun i hi e => by omega)⟩
      case measure => simp [intOf]; omega
    · have hj' : j = 126 + c := by omega
      have HJ := hid hj'
      clear hj'
      have hRs0 : Rep none' wr (Tm.chainS j).dat [t0, t1] := rep_pre hR
      clear hR x0 x1 f0 f1 q u1 hbt
      obtain ⟨wo, rfl⟩ : ∃ q, q = wr := ⟨wr, rfl⟩
      go_upto_if 28 with fail
      go_cut [6] (fun v6 wx => v6 = .int .i64 (if 1 < c then 2 else 0) ∧ wo = wx)
      case first =>
        by_cases hc1 : (1 : Int) < (c : Int)
        all_goals
          go_wp2_with fail
          go_meet
        all_goals
          have hc2 : 1 < c ∨ ¬ 1 < c := by omega
          rcases hc2 with hc2 | hc2
        all_goals first
          | (exfalso; omega)
          | (rw [if_pos hc2]; exact ⟨rfl, rfl⟩)
          | (rw [if_neg hc2]; exact ⟨rfl, rfl⟩)
      case rest =>
        obtain ⟨rfl, rfl⟩ := hcut
        obtain ⟨W2, hW2⟩ : ∃ x : Int, x = if 1 < c then 2 else 0 := ⟨_, rfl⟩
        rw [← hW2]
        have HW2 := hid hW2
        clear hW2
        go_wp2_with fail
        obtain ⟨w1, hw1⟩ : ∃ w1, w1 = wo.alloc (.cells #[.string (B [110, 97, 116]), .slice none 0 0] 29) := ⟨_, rfl⟩
        have hU1 : Upto none' wo w1 := by rw [hw1]; exact (Upto.refl none' _).alloc _
        have hW1 : Box2 w1 wo.heap.size (.string (B [110, 97, 116])) (.slice none 0 0) 29 := by rw [hw1]; exact Box2.at_new rfl
        have hB1 := hB.kept hU1
        have hR1 := ((Rep.fresh' _ _ hRs0)).on hU1
        have hw : Upto none' w w1 := hU.and hU1
        have hz : wo.heap.size < w1.heap.size := hW1.lt
        have hzs := hB.lt
        obtain ⟨Y, hY⟩ : ∃ Y, Y = wo.heap.size := ⟨_, rfl⟩
        rw [← hY] at hW1 hR1 hz hzs
        have HY := hid hY
        rw [← hw1, ← hY]
        clear hw1 hRs0 hB hU hU1 hY
        obtain ⟨i0, hi, hi0, hi1, hi2⟩ := info_parts info_simple
        go_loopw [8] (fun v8 wr => ∃ (k : Nat) (v : Value) (css : List (List Value)), v8 = .int .i64 (k : Int) ∧ k ≤ 120 ∧ Sims w1.heap.size wr v (List.replicate k leafS) css ∧ Box2 wr Y (.string (B [110, 97, 116])) v 29 ∧ Upto (fun b => b = Y) w1 wr)
          (fun v8 _ => 200 - (intOf v8).toNat)
        case atStart => exact ⟨0, _, [], rfl, by omega, Sims.nil _ _, hW1, Upto.refl _ _⟩
        case round =>
          obtain ⟨k, v, css, rfl, hk, hT, hW, hU⟩ := hrel
          obtain ⟨x0, x1⟩ := hW.cells
          obtain ⟨f0, f1⟩ := hW.frozens
          have q := hW.lt
          have u2 : (k : Int) ≤ 1000 := by omega
          have u3 : (0 : Int) ≤ (k : Int) := by omega
          by_cases hlt : (k : Int) < 120
          · have hTb := hT.on ((Upto.refl none' wr).alloc (.cells #[.string (B [110, 97, 116]), .slice none 0 0] 29))
            have hWb := hW.kept ((Upto.refl none' wr).alloc (.cells #[.string (B [110, 97, 116]), .slice none 0 0] 29))
            have hvl : (List.replicate k leafS).length = k := List.length_replicate
            have hsz := hU.size
            have hown := hTb.2.2.1
            rw [hvl] at hown
            have HVL := hid hvl
            clear hvl
            go_wp2_with (at_builtin; refine wpList_append_lies _ (by rfl) _ _ 27 (by rfl) w1.heap.size 29 i0 (.agg #[.string (B []), .slice none 0 0]) 2 40 (by kernel_rfl) hi hi0 hi1 hi2 rfl (by omega) v k css.flatten rfl hown ⟨wr.heap.size, 0, none⟩ 1 1 [.string (B [110, 97, 116]), .slice none 0 0] rfl rfl (World.news_of_block (heap_alloc_new wr _)) (by simp [Value.oneCell']) (by omega) (by simp only [maxLen]; omega) (by omega) (by simp; omega) (wr.heap.size + 1) (by simp) ?_; intro g cap' w7 hown7 hgrow hat hlt7; have hW7 := hWb.row hgrow hTb (by omega); have c7 := hW7.cells.2; have z7 := hW7.frozens.2)
            have hown7' : w7.ownsRow w1.heap.size 29 2 (.slice (some ⟨g, 0, none⟩) ((List.replicate k leafS).length + 1) cap') ((List.replicate k leafS).length + 1) (css.flatten ++ [.string (B [110, 97, 116]), .slice none 0 0]) := by rw [HVL.out]; exact hown7
            have hT7 := hTb.appended (t := leafS) rfl (rep_sm_leaf _) hown7' hgrow hat (by simp)
            rw [HVL.out, ← List.replicate_succ'] at hT7
            have hU7 := Upto.row (hU.alloc (.cells #[.string (B [110, 97, 116]), .slice none 0 0] 29)) (RowUp.grown hTb.2.2.1 hgrow) (Nat.le_refl _)
            have hset : Upto (fun b => b = Y) w7 (w7.setCell ⟨Y, 1, none⟩ (.slice (some ⟨g, 0, none⟩) (k + 1) cap')) := Upto.set (Upto.refl _ _) 1 _
            go_roundw
            case rel => exact ⟨k + 1, _, _, by go_num, by omega, hT7.keep hset (fun b e => by omega), hW7.set1 _, hU7.trans hset (fun _ _ e => e)⟩
            case measure => simp [intOf]; omega
          · have hk' : k = 120 := by omega
            subst hk'
            have hBs := hB1.keep hU (by omega)
            have hRs : Rep (fun b => none' b ∨ Y ≤ b) wr (Tm.chainS j).dat [t0, t1] := Rep.keep hU (fun b e => .inr (by omega)) _ _ hR1
            obtain ⟨a, cap, rfl, hcap, hE⟩ := hT.rep
            have hRw : Rep (fun b => b < w1.heap.size) wr (Tm.wideS 120).dat [.string (B [110, 97, 116]), .slice a (List.replicate 120 leafS).length cap] := rep_sm.2 ⟨a, cap, rfl, hcap, hE⟩
            have hwr : Upto none' w wr := hw.trans hU (fun i hi e => by omega)
            have hzr := hU.size
            rw [show (List.replicate 120 leafS).length = 120 from List.length_replicate] at hRw hW
            clear hB1 hR1 hT hU x0 x1 f0 f1 hE hcap hW1 hi hi0 hi1 hi2 q
            obtain ⟨w2, rfl⟩ : ∃ q, q = wr := ⟨wr, rfl⟩
            go_wp2_with fail
            obtain ⟨w3, hw3⟩ : ∃ w3, w3 = w2.alloc (.cells #[.int .i64 4, .string (B [99]), .int .i64 0, .slice none 0 0] 32) := ⟨_, rfl⟩
            have hU3 : Upto none' w2 w3 := by rw [hw3]; exact (Upto.refl none' _).alloc _
            have hX3 : Box4 w3 w2.heap.size (.int .i64 4) (.string (B [99])) (.int .i64 0) (.slice none 0 0) 32 := by rw [hw3]; exact Box4.at_new rfl
            have hBs3 := hBs.kept hU3
            have hRs3 := (Rep.freshO (rep_pre hRs)).on hU3
            have hY3 := hW.kept hU3
            have hYl := hW.lt
            have hRw3 := (Rep.freshO (rep_pre hRw)).on hU3
            have hBsl := hBs.lt
            have hwr3 := hwr.and hU3
            obtain ⟨Z, hZ⟩ : ∃ Z, Z = w2.heap.size := ⟨_, rfl⟩
            rw [← hZ] at hX3 hRs3 hRw3 hYl hBsl
            have HZ := hid hZ
            have hz3 : Z < w3.heap.size := hX3.lt
            rw [← hw3, ← hZ]
            clear hw3 hZ hU3 hBs hRs hW hRw hwr hzr
            obtain ⟨i0, hi, hi0, hi1, hi2⟩ := info_parts info_term
            go_loopw [10] (fun v10 wr => ∃ (k : Nat) (v : Value) (css : List (List Value)), v10 = .int .i64 (k : Int) ∧ k ≤ 3854 + c ∧ Terms w3.heap.size wr v (List.replicate k leafT) css ∧ Box4 wr Z (.int .i64 4) (.string (B [99])) (.int .i64 0) v 32 ∧ Upto (fun b => b = Z) w3 wr)
              (fun v10 _ => 5000 - (intOf v10).toNat)
            case atStart => exact ⟨0, _, [], rfl, by omega, Terms.nil _ _, hX3, Upto.refl _ _⟩
            case round =>
              obtain ⟨k, v, css, rfl, hk, hT, hX, hU⟩ := hrel
              obtain ⟨x0, x1, x2, x3⟩ := hX.cells
              obtain ⟨f0, f1, f2, f3⟩ := hX.frozens
              have q := hX.lt
              have u4 : (k : Int) ≤ 10000 := by omega
              have u5 : (0 : Int) ≤ (k : Int) := by omega
              by_cases hlt : (k : Int) < 3854 + (c : Int)
              · have hTb := hT.on ((Upto.refl none' wr).alloc (.cells #[.int .i64 4, .string (B [122]), .int .i64 0, .slice none 0 0] 32))
                have hXb := hX.kept ((Upto.refl none' wr).alloc (.cells #[.int .i64 4, .string (B [122]), .int .i64 0, .slice none 0 0] 32))
                have hvl : (List.replicate k leafT).length = k := List.length_replicate
                have hsz := hU.size
                have hown := hTb.2.2.1
                rw [hvl] at hown
                have HVL := hid hvl
                clear hvl
                go_wp2_with (at_builtin; refine wpList_append_lies _ (by rfl) _ _ 30 (by rfl) w3.heap.size 32 i0 (.agg #[.int .i64 0, .string (B []), .int .i64 0, .slice none 0 0]) 4 56 (by kernel_rfl) hi hi0 hi1 hi2 rfl (by omega) v k css.flatten rfl hown ⟨wr.heap.size, 0, none⟩ 1 1 [.int .i64 4, .string (B [122]), .int .i64 0, .slice none 0 0] rfl rfl (World.news_of_block (heap_alloc_new wr _)) (by simp [Value.oneCell']) (by omega) (by simp only [maxLen]; omega) (by omega) (by simp; omega) (wr.heap.size + 1) (by simp) ?_; intro g cap' w7 hown7 hgrow hat hlt7; have hX7 := hXb.row hgrow hTb (by omega); have c7 := hX7.cells.2.2.2; have z7 := hX7.frozen 3)
                have hown7' : w7.ownsRow w3.heap.size 32 4 (.slice (some ⟨g, 0, none⟩) ((List.replicate k leafT).length + 1) cap') ((List.replicate k leafT).length + 1) (css.flatten ++ [.int .i64 4, .string (B [122]), .int .i64 0, .slice none 0 0]) := by rw [HVL.out]; exact hown7
                have hT7 := hTb.appended (t := leafT) rfl (rep_leaf _ _ _) hown7' hgrow hat (by simp)
                rw [HVL.out, ← List.replicate_succ'] at hT7
                have hU7 := Upto.row (hU.alloc (.cells #[.int .i64 4, .string (B [122]), .int .i64 0, .slice none 0 0] 32)) (RowUp.grown hTb.2.2.1 hgrow) (Nat.le_refl _)
                have hset : Upto (fun b => b = Z) w7 (w7.setCell ⟨Z, 3, none⟩ (.slice (some ⟨g, 0, none⟩) (k + 1) cap')) := Upto.set (Upto.refl _ _) 3 _
                go_roundw
                case rel => exact ⟨k + 1, _, _, by go_num, by omega, hT7.keep hset (fun b e => by omega), hX7.set3 _, hU7.trans hset (fun _ _ e => e)⟩
                case measure => simp [intOf]; omega
              · have hk' : k = 3854 + c := by omega
                subst hk'
                have hBs9 := hBs3.keep hU (by omega)
                have hRs9 : Rep none' wr (Tm.chainS j).dat [t0, t1] := rep_pre (Rep.keep hU (fun b e => .inr (by omega)) _ _ hRs3)
                have hY9 := hY3.keep hU (by omega)
                have hRw9 : Rep none' wr (Tm.wideS 120).dat [.string (B [110, 97, 116]), .slice a 120 cap] := rep_pre (Rep.keep hU (fun b e => .inr (by omega)) _ _ hRw3)
                obtain ⟨a', cap', rfl, hcap', hE'⟩ := hT.rep
                have hRt9 : Rep none' wr (Tm.wideT (3854 + c)).dat [.int .i64 4, .string (B [99]), .int .i64 0, .slice a' (List.replicate (3854 + c) leafT).length cap'] := rep_pre (rep_tm.2 ⟨a', cap', rfl, hcap', hE'⟩)
                have hwr9 : Upto none' w wr := hwr3.trans hU (fun i hi e => by have := hwr3.size; have := HZ.out; have := HY.out; omega)
                generalize (List.replicate (3854 + c) leafT).length = tl at *
                clear hBs3 hRs3 hY3 hRw3 hT hU x0 x1 x2 x3 f0 f1 f2 f3 hE' hcap' hX3 hi hi0 hi1 hi2 q hwr3
                have HE := Tm.wide_eta c (by omega)
                have HF := Tm.chainS_wf c (by omega)
                have F1 := (Tm.wideT_facts (3854 + c)).2.2.2.1
                have F2 := (Tm.wideS_facts 120).2.2.2.1
                have F3 := (Tm.chainS_facts (126 + c)).2.2.2
                have C1 := fun W cs ds h h' => progEta_any (Tm.wideT (3854 + c)) (by omega) (Tm.wideS 120) (by omega) W cs ds h h'
                have C2 := fun W cs h => smWf_any (Tm.chainS (126 + c)) (by omega) W cs h
                rw [HE] at C1
                rw [HF] at C2
                rw [HJ.out] at hRs9
                have hW2' : (if 1 < c then (2 : Int) else 0) = W2 := HW2.out.symm
                rw [hW2'] at C1 C2
                clear HE HF F1 F2 F3 hW2'
                generalize (Tm.wideT (3854 + c)).etaT (Tm.wideS 120) = X at *
                generalize Tm.wideT (3854 + c) = ht at *
                generalize Tm.wideS 120 = hs at *
                generalize Tm.chainS (126 + c) = hc' at *
                have hww : (W2 == W2) = true := by simp
                obtain ⟨x0, x1, x2, x3⟩ := hX.cells
                obtain ⟨s0, s1⟩ := hY9.cells
                go_wp2_with fail
                refine (C1 _ _ _ hRt9 hRw9).mono ?_
                rintro e w10 ⟨k10, i10, n10, a10, len10, cap10, rfl, hR10, hU10⟩
                have hBs10 := hBs9.kept hU10
                have hRs10 := hRs9.on hU10
                have hwr10 := hwr9.and hU10
                clear x0 x1 x2 x3 s0 s1 hY9 hX hBs9 hRs9 hwr9 hR10 hU10 hRt9 hRw9 C1
                go_upto_region 21 with fail
                obtain ⟨w11, hw11⟩ : ∃ w11, w11 = w10.alloc (.cells #[.int .i64 k10, .string (B n10), .int .i64 i10, .slice a10 len10 cap10] 32) := ⟨_, rfl⟩
                have hU11 : Upto none' w10 w11 := by rw [hw11]; exact (Upto.refl none' _).alloc _
                rw [← hw11]
                have hBs11 := hBs10.kept hU11
                have hRs11 := hRs10.on hU11
                have hwr11 := hwr10.and hU11
                clear hw11 hU11 hBs10 hRs10 hwr10
                go_upto_if 60 with fail
                go_cut [13] (fun v13 wx => v13 = .int .i64 W2 ∧ w11 = wx)
                case first =>
                  by_cases hc1 : (1 : Int) < (c : Int)
                  all_goals
                    go_wp2_with fail
                    go_meet
                  all_goals
                    rw [HW2.out]
                    have hc2 : 1 < c ∨ ¬ 1 < c := by omega
                    rcases hc2 with hc2 | hc2
                  all_goals first
                    | (exfalso; omega)
                    | (rw [if_pos hc2]; exact ⟨rfl, rfl⟩)
                    | (rw [if_neg hc2]; exact ⟨rfl, rfl⟩)
                case rest =>
                  obtain ⟨rfl, rfl⟩ := hcut
                  obtain ⟨s0, s1⟩ := hBs11.cells
                  go_wp2_with fail
                  refine (C2 _ _ hRs11).mono ?_
                  rintro e w12 ⟨rfl, hU12⟩
                  go_wp2_with fail
                  refine (awake07 _).mono ?_
                  rintro e w13 ⟨rfl, hU13⟩
                  go_wp2_with fail
                  go_ret
                  exact ⟨rfl, (hwr11.and hU12).and hU13⟩
end Go.Proofs.Ytnhmogmpbgadiaa
