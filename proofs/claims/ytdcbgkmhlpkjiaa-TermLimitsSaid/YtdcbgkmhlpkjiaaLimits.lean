/- TermLimits: its walk. -/
import Derived.Test.YtdcbgkmhlpkjiaaAwake05
import Derived.Test.YtdcbgkmhlpkjiaaLimitsP
import Derived.Test.YtdcbgkmhlpkjiaaCut
namespace Go.Proofs.Ytdcbgkmhlpkjiaa
open Go.RowKit Go.LF

set_option maxRecDepth 100000 in
set_option maxHeartbeats 4000000 in
theorem limits_walk (by' : Int) (w : World) : Calls Try.prog 3 #[.int .i64 by'] w fun e w' => e = .returned (.bool true) ∧ Upto none' w w' := by
  go_enter Try.func3, Try.ntmps3
  go_wp2_with fail
  refine (cut_any by' 4 (by omega) (by omega) _).mono ?_
  rintro e w' ⟨⟨c, hc, rfl⟩, rfl⟩
  have c0 : (0 : Int) ≤ (c : Int) := by omega
  have c4 : (c : Int) < 4 := hc
  go_wp2_with fail
  have hbt : Box4 (w.alloc (.cells #[.int .i64 4, .string (B [122]), .int .i64 0, .slice none 0 0] 25)) w.heap.size (.int .i64 4) (.string (B [122])) (.int .i64 0) (.slice none 0 0) 25 := Box4.at_new rfl
  go_loopw [5] (fun v5 wr => ∃ (j : Nat) (t0 t1 t2 t3 : Value), v5 = .int .i64 ((j : Int) + 1) ∧ j ≤ 126 + c ∧ Box4 wr w.heap.size t0 t1 t2 t3 25 ∧ Rep (fun b => b = w.heap.size) wr (lamN j).dat [t0, t1, t2, t3] ∧ Upto none' w wr)
    (fun v5 _ => 200 - (intOf v5).toNat)
  case atStart => exact ⟨0, _, _, _, _, rfl, by omega, hbt, rep_leaf 4 [122] 0, (Upto.refl none' w).alloc _⟩
  case round =>
    obtain ⟨j, t0, t1, t2, t3, rfl, hj, hB, hR, hU⟩ := hrel
    obtain ⟨x0, x1, x2, x3⟩ := hB.cells
    obtain ⟨f0, f1, f2, f3⟩ := hB.frozens
    have q := hB.lt
    have u1 : ((j : Int) + 1) ≤ 1000 := by omega
    by_cases hlt : (j : Int) + 1 < 128 + (c : Int) - 1
    · go_wp2_with fail
      obtain ⟨wn, hwn⟩ : ∃ wn, wn = ((((wr.setCell ⟨w.heap.size, 0, none⟩ (.int .i64 3)).setCell ⟨w.heap.size, 1, none⟩ (.string (B []))).setCell ⟨w.heap.size, 2, none⟩ (.int .i64 0)).setCell ⟨w.heap.size, 3, none⟩ (.slice (some ⟨wr.heap.size, 0, none⟩) 1 1)).alloc (.cells #[t0, t1, t2, t3] 25) := ⟨_, rfl⟩
      obtain ⟨hB', hR', hU'⟩ := relay hB hR 3 [] 0 hwn
      rw [← hwn]
      clear hwn
      go_roundw
      case rel => exact ⟨j + 1, _, _, _, _, by go_num, by omega, hB', hR', hU.trans hU' (fun i hi e => by omega)⟩
      case measure => simp [intOf]; omega
    · have hj' : j = 126 + c := by omega
      have HJ := hid hj'
      clear hj'
      go_wp2_with fail
      obtain ⟨w1, hw1⟩ : ∃ w1, w1 = wr.alloc (.cells #[.int .i64 4, .string (B [102]), .int .i64 0, .slice none 0 0] 25) := ⟨_, rfl⟩
      have hU1 : Upto none' wr w1 := by rw [hw1]; exact (Upto.refl none' _).alloc _
      have hW1 : Box4 w1 wr.heap.size (.int .i64 4) (.string (B [102])) (.int .i64 0) (.slice none 0 0) 25 := by rw [hw1]; exact Box4.at_new rfl
      have hR0 : Rep none' wr (lamN j).dat [t0, t1, t2, t3] := Rep.weaken (fun _ _ x => x.elim) _ _ hR
      have hR1 : Rep (fun b => wr.heap.size ≤ b) w1 (lamN j).dat [t0, t1, t2, t3] := (Rep.fresh hR0).on hU1
      have hB1 := hB.kept hU1
      have hw : Upto none' w w1 := hU.and hU1
      have hz : wr.heap.size < w1.heap.size := hW1.lt
      rw [← hw1]
      clear hw1 hR hR0 hB hU x0 x1 x2 x3 f0 f1 f2 f3
      obtain ⟨wo, rfl⟩ : ∃ wo : World, wo = wr := ⟨_, rfl⟩
      obtain ⟨i0, hi, hi0, hi1, hi2⟩ := info_parts info_term
      go_loopw [7] (fun v7 wr => ∃ (k : Nat) (v : Value) (css : List (List Value)), v7 = .int .i64 ((k : Int) + 1) ∧ k ≤ 4094 + c ∧ Terms w1.heap.size wr v (varsN k) css ∧ Box4 wr wo.heap.size (.int .i64 4) (.string (B [102])) (.int .i64 0) v 25 ∧ Upto (fun b => b = wo.heap.size) w1 wr)
        (fun v7 _ => 5000 - (intOf v7).toNat)
      case atStart => exact ⟨0, _, [], rfl, by omega, Terms.nil _ _, hW1, Upto.refl _ _⟩
      case round =>
        obtain ⟨k, v, css, rfl, hk, hT, hW, hU⟩ := hrel
        obtain ⟨x0, x1, x2, x3⟩ := hW.cells
        obtain ⟨f0, f1, f2, f3⟩ := hW.frozens
        have q := hW.lt
        have u2 : ((k : Int) + 1) ≤ 10000 := by omega
        by_cases hlt : (k : Int) + 1 < 4096 + (c : Int) - 1
        · have hk3 : ((k : Int) + 1) % 3 = (((k + 1) % 3 : Nat) : Int) := by omega
          have HK3 := hid hk3
          clear hk3
          have hTb := hT.on ((Upto.refl none' wr).alloc (.cells #[.int .i64 5, .string (B []), .int .i64 (((k : Int) + 1) % 3), .slice none 0 0] 25))
          have hWb := hW.kept ((Upto.refl none' wr).alloc (.cells #[.int .i64 5, .string (B []), .int .i64 (((k : Int) + 1) % 3), .slice none 0 0] 25))
          have hvl := varsN_length k
          have hsz := hU.size
          have hown := hTb.2.2.1
          rw [hvl] at hown
          have HVL := hid hvl
          clear hvl
          go_wp2_with (at_builtin; refine wpList_append_lies _ (by rfl) _ _ 23 (by rfl) w1.heap.size 25 i0 (.agg #[.int .i64 0, .string (B []), .int .i64 0, .slice none 0 0]) 4 56 (by kernel_rfl) hi hi0 hi1 hi2 rfl (by omega) v k css.flatten rfl hown ⟨wr.heap.size, 0, none⟩ 1 1 [.int .i64 5, .string (B []), .int .i64 (((k : Int) + 1) % 3), .slice none 0 0] rfl rfl (World.news_of_block (heap_alloc_new wr _)) (by simp [Value.oneCell']) (by omega) (by simp only [maxLen]; omega) (by omega) (by simp; omega) (wr.heap.size + 1) (by simp) ?_; intro g cap' w7 hown7 hgrow hat hlt7; have hW7 := hWb.row hgrow hTb (by omega); have c7 := hW7.cells.2.2.2; have z7 := hW7.frozen 3)
          have hown7' : w7.ownsRow w1.heap.size 25 4 (.slice (some ⟨g, 0, none⟩) ((varsN k).length + 1) cap') ((varsN k).length + 1) (css.flatten ++ [.int .i64 5, .string (B []), .int .i64 (((k : Int) + 1) % 3), .slice none 0 0]) := by rw [HVL.out]; exact hown7
          have hT7 := hTb.appended (t := .mk 5 [] (((k : Int) + 1) % 3) []) rfl (rep_leaf _ _ _) hown7' hgrow hat (by simp)
          rw [HVL.out, HK3.out, ← varsN_succ] at hT7
          have hU7 := Upto.row (hU.alloc (.cells #[.int .i64 5, .string (B []), .int .i64 (((k : Int) + 1) % 3), .slice none 0 0] 25)) (RowUp.grown hTb.2.2.1 hgrow) (Nat.le_refl _)
          have hset : Upto (fun b => b = wo.heap.size) w7 (w7.setCell ⟨wo.heap.size, 3, none⟩ (.slice (some ⟨g, 0, none⟩) (k + 1) cap')) := Upto.set (Upto.refl _ _) 3 _
          go_roundw
          case rel => exact ⟨k + 1, _, _, by go_num, by omega, hT7.keep hset (fun b e => by omega), hW7.set3 _, hU7.trans hset (fun _ _ e => e)⟩
          case measure => simp [intOf]; omega
        · have hk' : k = 4094 + c := by omega
          have HK := hid hk'
          clear hk'
          have hBt := hB1.keep hU (by omega)
          have hRt : Rep none' wr (lamN j).dat [t0, t1, t2, t3] := Rep.weaken (fun _ _ x => x.elim) _ _ (Rep.keep hU (fun b e => Nat.le_of_eq e.symm) _ _ hR1)
          obtain ⟨a, cap, rfl, hcap, hE⟩ := hT.rep
          have hRw : Rep none' wr (wideN k).dat [.int .i64 4, .string (B [102]), .int .i64 0, .slice a (varsN k).length cap] := rep_tm.2 ⟨a, cap, rfl, hcap, RepE.weaken (fun _ _ x => x.elim) _ _ _ _ hE⟩
          have hwr : Upto none' w wr := hw.trans hU (fun i hi e => by omega)
          clear hB1 hR1 hT hU x0 x1 x2 x3 f0 f1 f2 f3 hE hcap hW1
          generalize (varsN k).length = len at *
          have d1 : ((lamN j).depth : Int) = 128 + (c : Int) - 1 := by rw [lamN_depth]; have := HJ.out; omega
          have d2 : (lamN j).size ≤ 1000000 := by rw [lamN_size]; omega
          have d3 : (lamN j).wt ≤ 1000000 := by rw [lamN_wt]; omega
          have d4 : ((wideN k).size : Int) = 4096 + (c : Int) - 1 := by rw [wideN_size]; have := HK.out; omega
          have d5 : (wideN k).size ≤ 1000000 := by rw [wideN_size]; omega
          have d6 : (wideN k).wt ≤ 1000000 := by rw [wideN_wt]; omega
          have D := hid (And.intro d1 (And.intro d2 (And.intro d3 (And.intro d4 (And.intro d5 d6)))))
          clear d1 d2 d3 d4 d5 d6
          obtain ⟨n1, bb, hways⟩ : ∃ (n1 : Int) (bb : Bool), (lamN j).wf = n1 ∧ ((lamN j).isObj && (lamN j).small) = bb ∧ (wideN k).wf = n1 ∧ ((wideN k).isTyp && (wideN k).small) = bb ∧ ((n1 = 0 ∧ bb = true ∧ ¬ (1 : Int) < c ∧ (c : Int) < 2) ∨ (n1 = 2 ∧ bb = false ∧ (1 : Int) < c ∧ ¬ (c : Int) < 2)) := by
            rw [lamN_wf j (by omega), lamN_small j (by omega), wideN_wf, wideN_isType]
            have h1 := HJ.out
            have h2 := HK.out
            by_cases hcc : c < 2
            · refine ⟨0, true, ?_, ?_, ?_, ?_, .inl ⟨rfl, rfl, by omega, by omega⟩⟩
              · rw [if_pos (by omega)]
              · exact decide_eq_true (by omega)
              · rw [if_pos (by omega)]
              · exact decide_eq_true (by omega)
            · refine ⟨2, false, ?_, ?_, ?_, ?_, .inr ⟨rfl, rfl, by omega, by omega⟩⟩
              · rw [if_neg (by omega)]
              · exact decide_eq_false (by omega)
              · rw [if_neg (by omega)]
              · exact decide_eq_false (by omega)
          obtain ⟨e1, e2, e3, e4, hways⟩ := hways
          have E := hid (And.intro e1 (And.intro e2 (And.intro e3 e4)))
          clear e1 e2 e3 e4
          rcases hways with ⟨rfl, rfl, g1, g2⟩ | ⟨rfl, rfl, g1, g2⟩
          case' inl => have g3 : decide ((c : Int) < 2) = true := decide_eq_true g2
          case' inr => have g3 : decide ((c : Int) < 2) = false := decide_eq_false g2
          all_goals
            obtain ⟨x0, x1, x2, x3⟩ := hBt.cells
            go_wp2_with fail
            refine (depth_at (lamN j) _ D.out.2.1 D.out.1 hRt).mono ?_
            rintro e w8 ⟨rfl, U8⟩
            have B8 := hBt.kept U8
            obtain ⟨y0, y1, y2, y3⟩ := B8.cells
            go_wp2_with fail
            refine (wellFormed_at (lamN j) _ D.out.2.2.1 E.out.1 (hRt.on U8)).mono ?_
            rintro e w9 ⟨rfl, U9⟩
            have B9 := B8.kept U9
            clear y0 y1 y2 y3
            obtain ⟨y0, y1, y2, y3⟩ := B9.cells
            go_wp2_with fail
            refine (isObject_at (lamN j) _ D.out.2.2.1 E.out.2.1 ((hRt.on U8).on U9)).mono ?_
            rintro e w10 ⟨rfl, U10⟩
            have V10 := (U8.and U9).and U10
            have W10 := hW.kept V10
            clear y0 y1 y2 y3
            obtain ⟨y0, y1, y2, y3⟩ := W10.cells
            go_wp2_with fail
            refine (size_at (wideN k) _ D.out.2.2.2.2.1 D.out.2.2.2.1 (hRw.on V10)).mono ?_
            rintro e w11 ⟨rfl, U11⟩
            have V11 := V10.and U11
            have W11 := hW.kept V11
            clear y0 y1 y2 y3
            obtain ⟨y0, y1, y2, y3⟩ := W11.cells
            go_wp2_with fail
            refine (wellFormed_at (wideN k) _ D.out.2.2.2.2.2 E.out.2.2.1 (hRw.on V11)).mono ?_
            rintro e w12 ⟨rfl, U12⟩
            have V12 := V11.and U12
            have W12 := hW.kept V12
            clear y0 y1 y2 y3
            obtain ⟨y0, y1, y2, y3⟩ := W12.cells
            go_wp2_with fail
            refine (isType_at (wideN k) _ D.out.2.2.2.2.2 E.out.2.2.2 (hRw.on V12)).mono ?_
            rintro e w13 ⟨rfl, U13⟩
            go_wp2_with fail
            refine (awake05 _).mono ?_
            rintro e w14 ⟨rfl, U14⟩
            go_wp2
            go_ret
            exact ⟨by first | rfl | (simp only [g3]; rfl), ((hwr.and V12).and U13).and U14⟩
end Go.Proofs.Ytdcbgkmhlpkjiaa
