/- StrictImplies: its walk. -/
import Derived.Test.YtnhmogmpbgadiaaDoorCQ
namespace Go.Proofs.YtnhmogmpbgadiaaDoor
open Go.RowKit Go.LF
set_option maxRecDepth 100000 in
set_option maxHeartbeats 8000000 in
theorem strImplies_walk (l : List Int) (a : Option Addr) (len cap : Nat) (hl : l.length = len) (hlen : len ≤ 17592186044416) (w : World) (hE : RepE none' w 1 (l.map (Dat.int .i64)) a 0) (hN : NamesRead w) :
    Calls Tryd.prog 5 #[.slice a len cap] w fun e w' => e = .returned (.bool true) ∧ Upto none' w w' := by
  have hT := tape_new (cap := cap) (U := 25) hl hlen hE
  have hN1 : NamesOk w.heap.size (w.alloc (.cells #[.slice a len cap, .int .i64 0] 25)) := hN.ok ((Upto.refl none' w).alloc _) (Nat.le_refl _)
  have hU1 : Upto none' w (w.alloc (.cells #[.slice a len cap, .int .i64 0] 25)) := (Upto.refl none' w).alloc _
  clear hE hN hl hlen
  obtain ⟨T, hTT⟩ : ∃ T, T = w.heap.size := ⟨_, rfl⟩
  rw [← hTT] at hT hN1
  have KI := fun (W : World) h => kinds22_any T W h
  have TE := fun (W : World) h h' => term22_any T W h h'
  have HTT := hid hTT
  clear hTT
  go_enter Tryd.func5, Tryd.ntmps5
  go_wp2_with fail
  rw [← HTT.out]
  refine (KI _ hT).mono ?_
  rintro e w1 ⟨ks, ka, kc, rfl, hks, hK, hT1, hU2⟩
  have hN2 := hN1.keep hU2
  have hU3 : Upto none' w w1 := hU1.trans hU2 (fun b hb e => by simp only [isT] at e; have := HTT.out; omega)
  clear hT hN1 hU1 hU2
  go_wp2_with fail
  refine (TE _ hT1 hN2).mono ?_
  rintro e w2 ⟨k1, i1, n1, a1, len1, cap1, t, rfl, hR, hwt, hU4⟩
  have hU5 : Upto none' w w2 := hU3.trans hU4 (fun b hb e => by simp only [isT] at e; have := HTT.out; omega)
  have hK2 : RepE none' w2 1 (ks.map (Dat.int .i64)) ka 0 := RepE.weaken (fun _ _ x => x.elim) _ _ _ _ (RepE.keep hU4 (fun b e => by simp only [isT] at e; have := HTT.out; rw [World.size_alloc]; omega) _ _ _ _ hK)
  obtain ⟨w3, hw3⟩ : ∃ w3, w3 = w2.alloc (.cells #[.int .i64 k1, .string (B n1), .int .i64 i1, .slice a1 len1 cap1] 29) := ⟨_, rfl⟩
  have S3 : Lay22 w2.heap.size k1 n1 i1 a1 len1 cap1 t ks ka w w3 := by
    rw [hw3]; exact lay22_new (Rep.weaken (fun _ _ x => x.elim) _ _ hR) hK2 hU5
  obtain ⟨A, hA⟩ : ∃ A, A = w2.heap.size := ⟨_, rfl⟩
  rw [← hA] at S3
  have HW := hid hw3
  have HA := hid hA
  have C1 := fun W (h : Lay22 A k1 n1 i1 a1 len1 cap1 t ks ka w W) => occur_any t (by omega) ks (by omega) ka kc W _ h.kin h.rep
  have C2 := fun W (h : Lay22 A k1 n1 i1 a1 len1 cap1 t ks ka w W) => strict_any t (by omega) ks (by omega) ka kc W _ h.kin h.rep
  have C3 := fun W (h : Lay22 A k1 n1 i1 a1 len1 cap1 t ks ka w W) => patterns_any t (by omega) ks (by omega) ka kc W _ h.kin h.rep
  have P := strict_implies t ks
  have e1 := occurV_length t ks
  have e2 := strictV_length t ks
  have hks6 : ks.length ≤ 6 := hks
  generalize occurV t ks = L1 at *
  generalize strictV t ks = L2 at *
  generalize patternsV t ks = pt at *
  have g1 : ((L1.length : Int) != ks.length) = false := by simp; omega
  have g2 : ((L2.length : Int) != ks.length) = false := by simp; omega
  have HE := hid (And.intro e1 (And.intro e2 hks6))
  have HP := hid P
  have AW := awake22
  clear hw3 hA hT1 hN2 hR hK hK2 hU3 hU4 hU5 hwt KI TE hks e1 e2 hks6 P
  go_upto_region 4 with fail
  rw [← HW.out, ← HA.out]
  have Sd := S3.on (Upto.refl none' w3).drew
  go_region_held3 (fun w' => TcS A (.int .i64 k1) (.string (B n1)) (.int .i64 i1) (.slice a1 len1 cap1) w')
    (first | (with_reducible assumption) | (with_reducible exact Sd.box))
    (first
      | ((go_at_call 14); (with_reducible refine (C1 _ Sd).mono ?_); rintro e w5 ⟨q5, rfl, hL5, hq5, hU5⟩; have S5 := Sd.on hU5; have B5 := S5.box)
      | ((go_at_call 16); (with_reducible refine (C2 _ S5).mono ?_); rintro e w6 ⟨q6, rfl, hL6, hq6, hU6⟩; have S6 := S5.on hU6; have B6 := S6.box; have hL56 := hL5.kept hU6))
  go_wp2_with fail
  obtain ⟨b0, b1, b2, b3⟩ := B6
  go_wp2_with fail
  refine (C3 _ S6).mono ?_
  rintro e w7 ⟨rfl, hU7⟩
  have S7 := S6.on hU7
  have hLa := hL56.kept hU7
  have hLb := hL6.kept hU7
  have hU8 := S7.up
  clear S3 Sd S5 B5 S6 S7 hL5 hL6 hL56 hU5 hU6 hU7 b0 b1 b2 b3 C1 C2 C3
  go_wp2_with fail
  go_loopw [9] (fun v9 wr => ∃ j : Nat, j ≤ ks.length ∧ v9 = .int .i64 j ∧ Upto none' w7 wr) (fun v9 _ => ks.length - (intOf v9).toNat)
  case atStart => exact ⟨0, Nat.zero_le _, rfl, Upto.refl _ _⟩
  case round =>
    obtain ⟨j, hj, rfl, hU⟩ := hrel
    by_cases hlt : j < ks.length
    · have hj1 : j < L1.length := by have := HE.out; omega
      have hj2 : j < L2.length := by have := HE.out; omega
      have c1 := (hLa.kept hU).cell j hj1
      have c2 := (hLb.kept hU).cell j hj2
      have j0 : (0 : Int) ≤ (j : Int) := by omega
      have j1 : (j : Int) < (L1.length : Int) := by omega
      have j2 : (j : Int) < (L2.length : Int) := by omega
      have j3 : (j : Int) < (ks.length : Int) := by omega
      have j6 : (j : Int) < 6 := by have := HE.out.2.2; omega
      have hP := HP.out j hlt
      rw [getD_at L1 j hj1, getD_at L2 j hj2] at hP
      have HJ := hid hlt
      clear hlt
      generalize L1[j] = x at *
      generalize L2[j] = y at *
      have fin : ∀ W, Upto none' wr W → ∃ j1 : Nat, j1 ≤ ks.length ∧ Value.int .i64 ((j : Int) + 1) = .int .i64 j1 ∧ Upto none' w7 W := fun W h => ⟨j + 1, by have := HJ.out; omega, by go_num, hU.and h⟩
      have HF := hid fin
      clear fin
      cases x <;> cases y <;> cases pt <;> first | (exfalso; revert hP; decide) | skip
      all_goals
        clear hP
        go_wp2_with fail
        go_region
        go_wp2
        go_roundw
        case rel => exact HF.out _ (Upto.refl none' wr).drew
        case measure => (have := HJ.out; simp [intOf]; omega)
    · have j3 : ¬ (j : Int) < (ks.length : Int) := by omega
      obtain rfl : j = ks.length := by omega
      go_wp2_with fail
      refine (AW _).mono ?_
      rintro e w9 ⟨rfl, hU9⟩
      go_wp2_with fail
      go_ret
      exact ⟨rfl, (hU8.and hU).and hU9⟩
end Go.Proofs.YtnhmogmpbgadiaaDoor
