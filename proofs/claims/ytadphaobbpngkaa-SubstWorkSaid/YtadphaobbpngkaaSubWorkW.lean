/- SubstWork: its walk. -/
import Derived.Test.YtadphaobbpngkaaSubAwake
import Derived.Test.YtadphaobbpngkaaSubMtP
import Derived.Test.YtadphaobbpngkaaWrkP
import Derived.Test.YtadphaobbpngkaaCG
import Derived.Test.YtadphaobbpngkaaCH
import Derived.Deep.CutRange
namespace Go.LF
theorem wT_wf : ∀ k, k < 43 → firstE Tm.wf [Tm.wT k, Tm.wM] = 0 ∧ (Tm.wT k).wt ≤ 1000 := by decide +kernel
theorem manyE_wT (k : Nat) (hk : k < 43) : manyE (Tm.wT k) [Tm.wM] [Tm.wF] = if k ≤ 11 then 0 else 2 := by
  unfold manyE
  rw [if_neg (by rw [(wT_wf k hk).1]; simp), if_neg (by decide +kernel), if_neg (by simp), if_neg (by decide +kernel), Tm.sb_wT k (by omega)]
theorem wMF_wt : Tm.wM.wt ≤ 1000 ∧ Tm.wF.wt ≤ 1000 := by decide +kernel
end Go.LF
namespace Go.Proofs.Ytadphaobbpngkaa
open Go.RowKit Go.LF
/-- What SubstWork needs of a world. -/
structure Wk8 (H : Nat) (w' : World) : Prop where
  fn : Box2 w' (H + 1 + 1) (.string (B [110, 97, 116])) (.slice (some ⟨H + 1, 0, none⟩) 1 1) 29
  repS : Rep (fun b => b = H + 1 + 1 + 1) w' Tm.wF.dat [.string (B [110, 97, 116]), .slice (some ⟨H + 1, 0, none⟩) 1 1]
theorem Wk8.keep {H : Nat} {w' w1 : World} (h : Wk8 H w') (hU : Upto (fun b => b = H + 1 + 1 + 1) w' w1) : Wk8 H w1 :=
  ⟨h.fn.keep hU (by omega), Rep.keep hU (fun b e => e) _ _ h.repS⟩
theorem Wk8.on {H : Nat} {w' w1 : World} (h : Wk8 H w') (hU : Upto none' w' w1) : Wk8 H w1 := ⟨h.fn.kept hU, h.repS.on hU⟩
set_option maxRecDepth 100000 in
set_option maxHeartbeats 16000000 in
theorem substWork_walk (by' : Int) (w : World) : Calls Try.prog 5 #[.int .i64 by'] w fun e w' => e = .returned (.bool true) ∧ Upto none' w w' := by
  go_enter Try.func5, Try.ntmps5
  go_wp2_with fail
  refine (cut_any by' 40 (by omega) (by omega) _).mono ?_
  rintro e w' ⟨⟨c, hc, rfl⟩, rfl⟩
  have c0 : (0 : Int) ≤ (c : Int) := by omega
  have c4 : (c : Int) < 40 := hc
  go_upto_region 5 with fail
  obtain ⟨w3, hw3⟩ : ∃ w3, w3 = (((w.alloc (.cells #[.string (B [110, 97, 116]), .slice none 0 0] 29)).alloc (.cells #[.string (B [110, 97, 116]), .slice none 0 0] 29)).alloc (.cells #[.string (B [110, 97, 116]), .slice (some ⟨w.heap.size + 1, 0, none⟩) 1 1] 29)).alloc (.cells #[.int .i64 4, .string (B [99]), .int .i64 0, .slice none 0 0] 32) := ⟨_, rfl⟩
  have a1 : ∀ (W : World) (o : Obj), Upto none' W (W.alloc o) := fun W o => (Upto.refl none' W).alloc o
  have W3 : Wk8 w.heap.size w3 := by
    rw [hw3]
    refine ⟨(Box2.at_new (by simp)).kept (a1 _ _), rep_sm.2 ⟨some ⟨w.heap.size + 1, 0, none⟩, 1, rfl, Nat.le_refl _, repE_oneS (rep_sm_leaf8 _) (by omega) (T := 29) (((Box2.at_new (by simp)).kept (a1 _ _)).kept (a1 _ _))⟩⟩
  have hbt : Box4 w3 (w.heap.size + 1 + 1 + 1) (.int .i64 4) (.string (B [99])) (.int .i64 0) (.slice none 0 0) 32 := by rw [hw3]; exact Box4.at_new (by simp)
  have hU3 : Upto none' w w3 := by rw [hw3]; exact ((((Upto.refl none' w).alloc _).alloc _).alloc _).alloc _
  obtain ⟨H, hH⟩ : ∃ H, H = w.heap.size := ⟨_, rfl⟩
  rw [← hH] at W3 hbt
  have HW := hid hw3
  have HH := hid hH
  clear hw3 hH
  rw [← show B [110, 97, 116] = { data := #[110, 97, 116] } from rfl, ← show B [99] = { data := #[99] } from rfl, ← HW.out, ← HH.out]
  go_wp2_with fail
  go_loopw [7] (fun v7 wr => ∃ (j : Nat) (t0 t1 t2 t3 : Value), v7 = .int .i64 (j : Int) ∧ j ≤ 2 + c ∧ Box4 wr (H + 1 + 1 + 1) t0 t1 t2 t3 32 ∧ Rep (fun b => b = H + 1 + 1 + 1) wr (Tm.wT j).dat [t0, t1, t2, t3] ∧ Wk8 H wr ∧ Upto none' w wr)
    (fun v7 _ => 200 - (intOf v7).toNat)
  case atStart => exact ⟨0, _, _, _, _, rfl, by omega, hbt, rep_leaf 4 [99] 0, W3, hU3⟩
  case round =>
    obtain ⟨j, t0, t1, t2, t3, rfl, hj, hB, hR, hK, hU⟩ := hrel
    obtain ⟨x0, x1, x2, x3⟩ := hB.cells
    obtain ⟨f0, f1, f2, f3⟩ := hB.frozens
    have q := hB.lt
    have u1 : (j : Int) ≤ 1000 := by omega
    by_cases hlt : (j : Int) < 2 + (c : Int)
    · go_wp2_with fail
      obtain ⟨wn, hwn⟩ : ∃ wn, wn = ((((wr.setCell ⟨H + 1 + 1 + 1, 0, none⟩ (.int .i64 5)).setCell ⟨H + 1 + 1 + 1, 1, none⟩ (.string (B []))).setCell ⟨H + 1 + 1 + 1, 2, none⟩ (.int .i64 0)).setCell ⟨H + 1 + 1 + 1, 3, none⟩ (.slice (some ⟨wr.heap.size, 0, none⟩) 1 1)).alloc (.cells #[t0, t1, t2, t3] 32) := ⟨_, rfl⟩
      obtain ⟨hB', hR', hU'⟩ := relay hB hR 5 [] 0 hwn
      rw [← hwn]
      clear hwn
      go_roundw
      case rel => exact ⟨j + 1, _, _, _, _, by go_num, by omega, hB', hR', hK.keep hU', hU.trans hU' (fun i hi e => by have := HH.out; omega)⟩
      case measure => simp [intOf]; omega
    · have hj' : j = 2 + c := by omega
      have HJ := hid hj'
      clear hj'
      have hRj : Rep none' wr (Tm.wT j).dat [t0, t1, t2, t3] := rep_pre hR
      have hSj : Rep none' wr Tm.wF.dat [.string (B [110, 97, 116]), .slice (some ⟨H + 1, 0, none⟩) 1 1] := rep_pre hK.repS
      go_upto_region 11 with fail
      obtain ⟨w5, hw5⟩ : ∃ w5, w5 = (((wr.alloc (.cells #[.int .i64 5, .string (B []), .int .i64 0, .slice none 0 0] 32)).alloc (.cells #[.int .i64 5, .string (B []), .int .i64 0, .slice none 0 0, .int .i64 5, .string (B []), .int .i64 0, .slice none 0 0] 32)).alloc (.cells #[.int .i64 4, .string (B [102]), .int .i64 0, .slice (some ⟨wr.heap.size + 1, 0, none⟩) 2 2] 32)).alloc (.cells #[.int .i64 3, .string (B []), .int .i64 0, .slice (some ⟨wr.heap.size + 1 + 1, 0, none⟩) 1 1] 32) := ⟨_, rfl⟩
      have hU5 : Upto none' wr w5 := by rw [hw5]; exact ((((Upto.refl none' wr).alloc _).alloc _).alloc _).alloc _
      have hm5 : Box4 w5 (wr.heap.size + 1 + 1 + 1) (.int .i64 3) (.string (B [])) (.int .i64 0) (.slice (some ⟨wr.heap.size + 1 + 1, 0, none⟩) 1 1) 32 := by rw [hw5]; exact Box4.at_new (by simp)
      have hM5 : Rep none' w5 Tm.wM.dat [.int .i64 3, .string (B []), .int .i64 0, .slice (some ⟨wr.heap.size + 1 + 1, 0, none⟩) 1 1] := by
        refine rep_one (b := wr.heap.size + 1 + 1) (t := .mk 4 [102] 0 [.mk 5 [] 0 [], .mk 5 [] 0 []]) (T := 32) (c0 := .int .i64 4) (c1 := .string (B [102])) (c2 := .int .i64 0) (c3 := .slice (some ⟨wr.heap.size + 1, 0, none⟩) 2 2) ?_ (fun x => x) ?_ 3 [] 0
        · refine rep_tm.2 ⟨_, 2, rfl, Nat.le_refl _, rep_two (T := 32) (rep_leaf 5 [] 0) (rep_leaf 5 [] 0) (fun x => x) ?_⟩
          have h1 := heap_alloc_new (wr.alloc (.cells #[.int .i64 5, .string (B []), .int .i64 0, .slice none 0 0] 32)) (.cells #[.int .i64 5, .string (B []), .int .i64 0, .slice none 0 0, .int .i64 5, .string (B []), .int .i64 0, .slice none 0 0] 32)
          rw [World.size_alloc] at h1
          have h2 : Upto none' ((wr.alloc (.cells #[.int .i64 5, .string (B []), .int .i64 0, .slice none 0 0] 32)).alloc (.cells #[.int .i64 5, .string (B []), .int .i64 0, .slice none 0 0, .int .i64 5, .string (B []), .int .i64 0, .slice none 0 0] 32)) w5 := by rw [hw5]; exact ((Upto.refl none' _).alloc _).alloc _
          rw [h2.block _ (by simp) (fun x => x)]
          exact h1
        · rw [hw5]; exact (Box4.at_new (by simp)).kept (a1 _ _)
      have hB5 := hB.kept hU5
      have hR5 := hRj.on hU5
      have hF5 := hK.fn.kept hU5
      have hS5 := hSj.on hU5
      have hUw := hU.and hU5
      obtain ⟨M, hM⟩ : ∃ M, M = wr.heap.size := ⟨_, rfl⟩
      rw [← hM] at hm5 hM5
      have HW5 := hid hw5
      have HM := hid hM
      clear hw5 hM hRj hSj hK hB hR hU x0 x1 x2 x3 f0 f1 f2 f3 q hU5 hbt hU3 W3
      rw [← show B [] = { data := #[] } from rfl, ← show B [102] = { data := #[102] } from rfl, ← HW5.out, ← HM.out]
      have hjk : j < 43 := by have := HJ.out; omega
      have hwt := (wT_wf j hjk).2
      have hX := manyT_le (Tm.wT j) [Tm.wM] [Tm.wF]
      have SP := fun (W : World) (hu : Upto none' w5 W) => subst_any none' (Tm.wT j) Tm.wM Tm.wF (by omega) (by have := wMF_wt; omega) (by have := wMF_wt; omega) W (fun _ x => x.elim) _ _ _ (hR5.on hu) (hM5.on hu) (hS5.on hu)
      have SR := fun (W : World) (hu : Upto none' w5 W) => refSubst_any none' (Tm.wT j) Tm.wM Tm.wF (by omega) (by have := wMF_wt; omega) (by have := wMF_wt; omega) W (fun _ x => x.elim) _ _ _ (hR5.on hu) (hM5.on hu) (hS5.on hu)
      have hEv := manyE_wT j hjk
      obtain ⟨E, hE⟩ : ∃ E, E = manyE (Tm.wT j) [Tm.wM] [Tm.wF] := ⟨_, rfl⟩
      obtain ⟨X, hXe⟩ : ∃ X, X = manyT (Tm.wT j) [Tm.wM] [Tm.wF] := ⟨_, rfl⟩
      rw [← hXe] at hX SP SR
      rw [← hE] at hEv SP SR
      have SA := fun (W : World) cs ds h h' => refSame_any X (by omega) X W cs ds h h'
      rw [Tm.same_refl] at SA
      have HE := hid hEv
      clear hE hXe hEv hwt
      obtain ⟨x0, x1, x2, x3⟩ := hB5.cells
      obtain ⟨m0, m1, m2, m3⟩ := hm5.cells
      obtain ⟨s0, s1⟩ := hF5.cells
      go_wp2_with fail
      (with_reducible refine (SP w5 (Upto.refl _ _)).mono ?_)
      rintro e w6 ⟨k6, i6, n6, a6, len6, cap6, rfl, hR6, hU6⟩
      obtain ⟨w7, hw7⟩ : ∃ w7, w7 = w6.alloc (.cells #[.int .i64 k6, .string (B n6), .int .i64 i6, .slice a6 len6 cap6] 32) := ⟨_, rfl⟩
      have hUa : Upto none' w6 w7 := by rw [hw7]; exact (Upto.refl none' _).alloc _
      have hx7 : Box4 w7 w6.heap.size (.int .i64 k6) (.string (B n6)) (.int .i64 i6) (.slice a6 len6 cap6) 32 := by rw [hw7]; exact Box4.at_new rfl
      have hU57 := hU6.and hUa
      have hB7 := hB5.kept hU57
      have hm7 := hm5.kept hU57
      have hF7 := hF5.kept hU57
      have hX7 := hR6.on hUa
      obtain ⟨Y, hY⟩ : ∃ Y, Y = w6.heap.size := ⟨_, rfl⟩
      rw [← hY] at hx7
      have HY := hid hY
      have HW7 := hid hw7
      clear hw7 hY hUa hR6 hU6 SP x0 x1 x2 x3 m0 m1 m2 m3 s0 s1 hB5 hm5 hF5
      go_upto_region 12 with fail
      rw [← HW7.out, ← HY.out]
      obtain ⟨x0, x1, x2, x3⟩ := hB7.cells
      obtain ⟨m0, m1, m2, m3⟩ := hm7.cells
      obtain ⟨s0, s1⟩ := hF7.cells
      go_wp2_with fail
      (with_reducible refine (SR w7 hU57).mono ?_)
      rintro e w8 ⟨k8, i8, n8, a8, len8, cap8, rfl, hR8, hU8⟩
      obtain ⟨w9, hw9⟩ : ∃ w9, w9 = w8.alloc (.cells #[.int .i64 k8, .string (B n8), .int .i64 i8, .slice a8 len8 cap8] 32) := ⟨_, rfl⟩
      have hUa : Upto none' w8 w9 := by rw [hw9]; exact (Upto.refl none' _).alloc _
      have hy9 : Box4 w9 w8.heap.size (.int .i64 k8) (.string (B n8)) (.int .i64 i8) (.slice a8 len8 cap8) 32 := by rw [hw9]; exact Box4.at_new rfl
      have hU79 := hU8.and hUa
      have hx9 := hx7.kept hU79
      have hX9 := hX7.on hU79
      have hY9 := hR8.on hUa
      have hU9 := (hUw.and hU57).and hU79
      obtain ⟨Z, hZ⟩ : ∃ Z, Z = w8.heap.size := ⟨_, rfl⟩
      rw [← hZ] at hy9
      have HZ := hid hZ
      have HW9 := hid hw9
      clear hw9 hZ hUa hR8 hU8 SR x0 x1 x2 x3 m0 m1 m2 m3 s0 s1 hB7 hm7 hF7 hx7
      go_upto_region 13 with fail
      rw [← HW9.out, ← HZ.out]
      obtain ⟨x0, x1, x2, x3⟩ := hx9.cells
      obtain ⟨y0, y1, y2, y3⟩ := hy9.cells
      have SA9 := SA w9 _ _ hX9 hY9
      have AW := fun W => awake08 W
      clear SA
      have hcase : (E = 0 ∧ decide ((11 : Int) < 2 + (c : Int)) = false) ∨ (E = 2 ∧ decide ((11 : Int) < 2 + (c : Int)) = true) := by
        have h1 := HE.out
        have h2 := HJ.out
        by_cases h : j ≤ 11
        · rw [if_pos h] at h1; exact .inl ⟨h1, decide_eq_false (by omega)⟩
        · rw [if_neg h] at h1; exact .inr ⟨h1, decide_eq_true (by omega)⟩
      rcases hcase with ⟨rfl, hcc⟩ | ⟨rfl, hcc⟩
      all_goals
        go_wp2_with (first | ((go_at_call 11); (with_reducible refine SA9.mono ?_); rintro e w10 ⟨rfl, hU10⟩) | ((go_at_call 16); (with_reducible refine (AW _).mono ?_); rintro e w11 ⟨rfl, hU11⟩))
        go_ret
        exact ⟨rfl, (hU9.and hU10).and hU11⟩
end Go.Proofs.Ytadphaobbpngkaa
