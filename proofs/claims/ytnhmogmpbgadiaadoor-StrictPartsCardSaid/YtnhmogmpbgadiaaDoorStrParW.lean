/- StrictParts: its walk. -/
import Derived.Test.YtnhmogmpbgadiaaDoorCQ
namespace Go.Proofs.YtnhmogmpbgadiaaDoor
open Go.RowKit Go.LF
/-- What the walk needs of a world: the variables x and y, the whole and the kinds. -/
structure LayP (A : Nat) (k1 : Int) (n1 : List UInt8) (i1 : Int) (a1 : Option Addr) (len1 cap1 : Nat) (k2 : Int) (n2 : List UInt8) (i2 : Int) (a2 : Option Addr) (len2 cap2 : Nat) (t u : Tm) (ks : List Int) (ka : Option Addr) (w w' : World) : Prop where
  box : TcS A (.int .i64 k1) (.string (B n1)) (.int .i64 i1) (.slice a1 len1 cap1) w' ∧ TcS (A + 1) (.int .i64 k2) (.string (B n2)) (.int .i64 i2) (.slice a2 len2 cap2) w'
  rep : Rep none' w' t.dat [.int .i64 k1, .string (B n1), .int .i64 i1, .slice a1 len1 cap1]
  rep2 : Rep none' w' u.dat [.int .i64 k2, .string (B n2), .int .i64 i2, .slice a2 len2 cap2]
  whole : Rep none' w' (Tm.mk 4 [99] 0 [t, u]).dat [.int .i64 4, .string (B [99]), .int .i64 0, .slice (some ⟨A + 1 + 1, 0, none⟩) 2 2]
  kin : RepE none' w' 1 (ks.map (Dat.int .i64)) ka 0
  up : Upto none' w w'
section
variable {A : Nat} {k1 k2 : Int} {n1 n2 : List UInt8} {i1 i2 : Int} {a1 a2 : Option Addr} {len1 cap1 len2 cap2 : Nat} {t u : Tm} {ks : List Int} {ka : Option Addr} {w w' w1 : World}
theorem LayP.on (h : LayP A k1 n1 i1 a1 len1 cap1 k2 n2 i2 a2 len2 cap2 t u ks ka w w') (hU : Upto none' w' w1) : LayP A k1 n1 i1 a1 len1 cap1 k2 n2 i2 a2 len2 cap2 t u ks ka w w1 := ⟨⟨box_on hU h.box.1, box_on hU h.box.2⟩, h.rep.on hU, h.rep2.on hU, h.whole.on hU, h.kin.on hU, h.up.and hU⟩
theorem layP_new (hR : Rep none' w' t.dat [.int .i64 k1, .string (B n1), .int .i64 i1, .slice a1 len1 cap1]) (hR2 : Rep none' w' u.dat [.int .i64 k2, .string (B n2), .int .i64 i2, .slice a2 len2 cap2])
    (hK : RepE none' w' 1 (ks.map (Dat.int .i64)) ka 0) (hU : Upto none' w w') :
    LayP w'.heap.size k1 n1 i1 a1 len1 cap1 k2 n2 i2 a2 len2 cap2 t u ks ka w (((w'.alloc (.cells #[.int .i64 k1, .string (B n1), .int .i64 i1, .slice a1 len1 cap1] 29)).alloc (.cells #[.int .i64 k2, .string (B n2), .int .i64 i2, .slice a2 len2 cap2] 29)).alloc
      (.cells #[.int .i64 k1, .string (B n1), .int .i64 i1, .slice a1 len1 cap1, .int .i64 k2, .string (B n2), .int .i64 i2, .slice a2 len2 cap2] 29)) := by
  have hU3 : Upto none' w' (((w'.alloc (.cells #[.int .i64 k1, .string (B n1), .int .i64 i1, .slice a1 len1 cap1] 29)).alloc (.cells #[.int .i64 k2, .string (B n2), .int .i64 i2, .slice a2 len2 cap2] 29)).alloc
      (.cells #[.int .i64 k1, .string (B n1), .int .i64 i1, .slice a1 len1 cap1, .int .i64 k2, .string (B n2), .int .i64 i2, .slice a2 len2 cap2] 29)) := (((Upto.refl none' w').alloc _).alloc _).alloc _
  have hnew := heap_alloc_new ((w'.alloc (.cells #[.int .i64 k1, .string (B n1), .int .i64 i1, .slice a1 len1 cap1] 29)).alloc (.cells #[.int .i64 k2, .string (B n2), .int .i64 i2, .slice a2 len2 cap2] 29)) (.cells #[.int .i64 k1, .string (B n1), .int .i64 i1, .slice a1 len1 cap1, .int .i64 k2, .string (B n2), .int .i64 i2, .slice a2 len2 cap2] 29)
  simp only [World.size_alloc] at hnew
  refine ⟨⟨(((Box4.at_new (T := 29) rfl).kept ((Upto.refl none' _).alloc _)).kept ((Upto.refl none' _).alloc _)).cells, ((Box4.at_new (T := 29) (by simp)).kept ((Upto.refl none' _).alloc _)).cells⟩, hR.on hU3, hR2.on hU3, ?_, hK.on hU3, hU.and hU3⟩
  exact rep_tm.2 ⟨_, 2, rfl, Nat.le_refl _, rep_two (hR.on hU3) (hR2.on hU3) (fun x => x) hnew⟩
end
set_option maxRecDepth 100000 in
set_option maxHeartbeats 8000000 in
theorem strParts_walk (l : List Int) (a : Option Addr) (len cap : Nat) (hl : l.length = len) (hlen : len ≤ 17592186044416) (w : World) (hE : RepE none' w 1 (l.map (Dat.int .i64)) a 0) (hN : NamesRead w) :
    Calls Tryd.prog 6 #[.slice a len cap] w fun e w' => e = .returned (.bool true) ∧ Upto none' w w' := by
  have hT := tape_new (cap := cap) (U := 25) hl hlen hE
  have hN1 : NamesOk w.heap.size (w.alloc (.cells #[.slice a len cap, .int .i64 0] 25)) := hN.ok ((Upto.refl none' w).alloc _) (Nat.le_refl _)
  have hU1 : Upto none' w (w.alloc (.cells #[.slice a len cap, .int .i64 0] 25)) := (Upto.refl none' w).alloc _
  clear hE hN hl hlen
  obtain ⟨T, hTT⟩ : ∃ T, T = w.heap.size := ⟨_, rfl⟩
  rw [← hTT] at hT hN1
  have KI := fun (W : World) h => kinds22_any T W h
  have TE : ∀ W, TapeOk W T → NamesOk T W → Calls Tryd.prog 23 #[.pointer (some ⟨T, 0, none⟩), .int .i64 2, .int .i64 4] W (MakesO W.heap.size 2 T W) := fun W h1 h2 => occ_any 2 (by omega) T 4 (by omega) W h1 h2
  have HTT := hid hTT
  clear hTT
  go_enter Tryd.func6, Tryd.ntmps6
  go_wp2_with fail
  rw [← HTT.out]
  refine (KI _ hT).mono ?_
  rintro e w1 ⟨ks, ka, kc, rfl, hks, hK, hT1, hU2⟩
  have hN2 := hN1.keep hU2
  have hU3 : Upto none' w w1 := hU1.trans hU2 (fun b hb e => by simp only [isT] at e; have := HTT.out; omega)
  clear hT hN1 hU1 hU2
  go_wp2_with fail
  refine (TE _ hT1 hN2).mono ?_
  rintro e w2 ⟨k1, i1, n1, a1, len1, cap1, t, rfl, hR, hF, hT2, hN3, hU4⟩
  have hU5 : Upto none' w w2 := hU3.trans hU4 (fun b hb e => by simp only [isT] at e; have := HTT.out; omega)
  have hTl : T < w1.heap.size := hT1.lt
  have hTl2 : T < w2.heap.size := hT2.lt
  have hK2 := RepE.keep hU4 (fun b e => by simp only [isT] at e; have := HTT.out; rw [World.size_alloc]; omega) _ _ _ _ hK
  go_wp2_with fail
  refine (TE _ hT2 hN3).mono ?_
  rintro e w3 ⟨k2, i2, n2, a2, len2, cap2, u, rfl, hR2, hF2, hT3, hN4, hU6⟩
  have hU7 : Upto none' w w3 := hU5.trans hU6 (fun b hb e => by simp only [isT] at e; have := HTT.out; omega)
  have hK3 : RepE none' w3 1 (ks.map (Dat.int .i64)) ka 0 := RepE.weaken (fun _ _ x => x.elim) _ _ _ _ (RepE.keep hU6 (fun b e => by simp only [isT] at e; have := HTT.out; rw [World.size_alloc]; omega) _ _ _ _ hK2)
  have hRx : Rep none' w3 t.dat [.int .i64 k1, .string (B n1), .int .i64 i1, .slice a1 len1 cap1] := Rep.weaken (fun _ _ x => x.elim) _ _ (Rep.keep hU6 (fun b e => by simp only [isT] at e; omega) _ _ hR)
  obtain ⟨w4, hw4⟩ : ∃ w4, w4 = (((w3.alloc (.cells #[.int .i64 k1, .string (B n1), .int .i64 i1, .slice a1 len1 cap1] 29)).alloc (.cells #[.int .i64 k2, .string (B n2), .int .i64 i2, .slice a2 len2 cap2] 29)).alloc
      (.cells #[.int .i64 k1, .string (B n1), .int .i64 i1, .slice a1 len1 cap1, .int .i64 k2, .string (B n2), .int .i64 i2, .slice a2 len2 cap2] 29)) := ⟨_, rfl⟩
  have S4 : LayP w3.heap.size k1 n1 i1 a1 len1 cap1 k2 n2 i2 a2 len2 cap2 t u ks ka w w4 := by
    rw [hw4]; exact layP_new hRx (Rep.weaken (fun _ _ x => x.elim) _ _ hR2) hK3 hU7
  obtain ⟨A, hA⟩ : ∃ A, A = w3.heap.size := ⟨_, rfl⟩
  rw [← hA] at S4
  have HW := hid hw4
  have HA := hid hA
  have hwt := hF.wt0 (by omega)
  have hwt2 := hF2.wt0 (by omega)
  have hFw : Tm.FitsO (.mk 4 [99] 0 [t, u]) 3 := Tm.fitsO_node (by simp) (fun x hx => by
    rcases List.mem_cons.1 hx with rfl | hx
    · exact hF.arg
    · obtain rfl := List.mem_singleton.1 hx
      exact hF2.arg) (by simp) (.inr (.inl ⟨rfl, rfl, rfl⟩))
  have hwt3 := hFw.wt0 (by omega)
  have P := strict_parts t u (hF.wf0 (by omega)) (hF2.wf0 (by omega)) (hFw.wf0 (by omega)) ks
  have C1 := fun W (h : LayP A k1 n1 i1 a1 len1 cap1 k2 n2 i2 a2 len2 cap2 t u ks ka w W) => strict_any (.mk 4 [99] 0 [t, u]) (by omega) ks (by omega) ka kc W _ h.kin h.whole
  have C2 := fun W (h : LayP A k1 n1 i1 a1 len1 cap1 k2 n2 i2 a2 len2 cap2 t u ks ka w W) => strict_any t (by omega) ks (by omega) ka kc W _ h.kin h.rep
  have C3 := fun W (h : LayP A k1 n1 i1 a1 len1 cap1 k2 n2 i2 a2 len2 cap2 t u ks ka w W) => strict_any u (by omega) ks (by omega) ka kc W _ h.kin h.rep2
  have e1 := strictV_length (.mk 4 [99] 0 [t, u]) ks
  have e2 := strictV_length t ks
  have e3 := strictV_length u ks
  have hks6 : ks.length ≤ 6 := hks
  generalize strictV (.mk 4 [99] 0 [t, u]) ks = L1 at *
  generalize strictV t ks = L2 at *
  generalize strictV u ks = L3 at *
  have g1 : ((L1.length : Int) != ks.length) = false := by simp; omega
  have g2 : ((L2.length : Int) != ks.length) = false := by simp; omega
  have g3 : ((L3.length : Int) != ks.length) = false := by simp; omega
  have HE := hid (And.intro e1 (And.intro e2 (And.intro e3 hks6)))
  have HP := hid P
  have AW := awake22
  clear hw4 hA hT1 hN2 hR hK hK2 hK3 hU3 hU4 hU5 hU6 hU7 hwt hwt2 hwt3 hFw hF hF2 KI TE hks e1 e2 e3 hks6 P hT2 hN3 hT3 hN4 hR2 hRx hTl hTl2
  go_wp2_with fail
  rw [← HW.out, ← HA.out]
  refine (C1 _ S4).mono ?_
  rintro e w5 ⟨q5, rfl, hL5, hq5, hU5⟩
  have S5 := S4.on hU5
  clear S4
  go_upto_region 5 with fail
  have Sd := S5.on (Upto.refl none' w5).drew
  have hL5d := hL5.kept (Upto.refl none' w5).drew
  go_region_held3 (fun w' => TcS A (.int .i64 k1) (.string (B n1)) (.int .i64 i1) (.slice a1 len1 cap1) w' ∧ TcS (A + 1) (.int .i64 k2) (.string (B n2)) (.int .i64 i2) (.slice a2 len2 cap2) w')
    (first | (with_reducible assumption) | (with_reducible exact Sd.box))
    (first
      | ((go_at_call 16); (with_reducible refine (C3 _ S6).mono ?_); rintro e w7 ⟨q7, rfl, hL7, hq7, hU7⟩; have S7 := S6.on hU7; have B7 := S7.box; have hL57 := hL56.kept hU7; have hL67 := hL6.kept hU7)
      | ((go_at_call 16); (with_reducible refine (C2 _ Sd).mono ?_); rintro e w6 ⟨q6, rfl, hL6, hq6, hU6⟩; have S6 := Sd.on hU6; have B6 := S6.box; have hL56 := hL5d.kept hU6))
  have hU8 := S7.up
  clear Sd S5 S6 S7 B6 B7 hL5 hL5d hL6 hL56 hU5 hU6 hU7 C1 C2 C3
  go_wp2_with fail
  go_loopw [10] (fun v9 wr => ∃ j : Nat, j ≤ ks.length ∧ v9 = .int .i64 j ∧ Upto none' w7 wr) (fun v9 _ => ks.length - (intOf v9).toNat)
  case atStart => exact ⟨0, Nat.zero_le _, rfl, Upto.refl _ _⟩
  case round =>
    obtain ⟨j, hj, rfl, hU⟩ := hrel
    by_cases hlt : j < ks.length
    · have hj1 : j < L1.length := by have := HE.out; omega
      have hj2 : j < L2.length := by have := HE.out; omega
      have hj3 : j < L3.length := by have := HE.out; omega
      have c1 := (hL57.kept hU).cell j hj1
      have c2 := (hL67.kept hU).cell j hj2
      have c3 := (hL7.kept hU).cell j hj3
      have j0 : (0 : Int) ≤ (j : Int) := by omega
      have j1 : (j : Int) < (L1.length : Int) := by omega
      have j2 : (j : Int) < (L2.length : Int) := by omega
      have j3 : (j : Int) < (L3.length : Int) := by omega
      have j4 : (j : Int) < (ks.length : Int) := by omega
      have j6 : (j : Int) < 6 := by have := HE.out.2.2; omega
      have hP := HP.out j hlt
      rw [getD_at L1 j hj1, getD_at L2 j hj2, getD_at L3 j hj3] at hP
      have HJ := hid hlt
      clear hlt
      generalize L1[j] = z at *
      generalize L2[j] = x at *
      generalize L3[j] = y at *
      have fin : ∀ W, Upto none' wr W → ∃ j1 : Nat, j1 ≤ ks.length ∧ Value.int .i64 ((j : Int) + 1) = .int .i64 j1 ∧ Upto none' w7 W := fun W h => ⟨j + 1, by have := HJ.out; omega, by go_num, hU.and h⟩
      have HF := hid fin
      clear fin
      cases x <;> cases y <;> cases z <;> first | (exfalso; revert hP; decide) | skip
      all_goals
        clear hP
        go_wp2_with fail
        go_region
        go_wp2
        go_roundw
        case rel => exact HF.out _ (Upto.refl none' wr).drew
        case measure => (have := HJ.out; simp [intOf]; omega)
    · have j4 : ¬ (j : Int) < (ks.length : Int) := by omega
      obtain rfl : j = ks.length := by omega
      go_wp2_with fail
      refine (AW _).mono ?_
      rintro e w9 ⟨rfl, hU9⟩
      go_wp2_with fail
      go_ret
      exact ⟨rfl, (hU8.and hU).and hU9⟩
end Go.Proofs.YtnhmogmpbgadiaaDoor
