/- MetaOrders: its walk. -/
import Derived.Test.YtdomloghcpfdjaaGreatDoorRFR
namespace Go.Proofs.YtdomloghcpfdjaaGreatDoor
open Go.RowKit Go.LF
set_option maxRecDepth 100000 in
set_option maxHeartbeats 8000000 in
theorem metaOrders_walk (l0 : List Int) (a0 : Option Addr) (len0 cap0 : Nat) (hl0 : l0.length = len0) (hlen0 : len0 ≤ 17592186044416) (m0 : List Int) (b0 : Option Addr) (len1 cap1 : Nat) (hl1 : m0.length = len1) (hlen1 : len1 ≤ 17592186044416) (w : World) (hE0 : RepE none' w 1 (l0.map (Dat.int .i64)) a0 0) (hE1 : RepE none' w 1 (m0.map (Dat.int .i64)) b0 0) (hN : NamesRead w) :
    Calls Tryz.prog 8 #[.slice a0 len0 cap0, .slice b0 len1 cap1] w fun e w' => e = .returned (.bool true) ∧ Upto none' w w' := by
  have PL := play_any l0 a0 len0 cap0 hl0 hlen0 w hE0 hN
  clear hE0 hl0
  go_enter Tryz.func8, Tryz.ntmps8
  go_wp2_with fail
  (with_reducible refine PL.mono ?_)
  rintro e w1 ⟨L, va, vc, rfl, hP, hlc, hL, hU1⟩
  obtain ⟨w2, hw2⟩ : ∃ w2, w2 = w1.alloc (.cells #[.slice b0 len1 cap1, .int .i64 0] 26) := ⟨_, rfl⟩
  have hU2 : Upto none' w1 w2 := by rw [hw2]; exact (Upto.refl none' _).alloc _
  have hT2 : TapeOk w2 w1.heap.size := by
    rw [hw2]
    exact tape_new (w := w1) (cap := cap1) (U := 26) hl1 hlen1 (hE1.on hU1)
  have hK2 : NamesOk w1.heap.size w2 := hN.ok (hU1.and hU2) hU1.size
  have hL2 := (RepE.fresh' _ _ _ _ hL).on hU2
  obtain ⟨T, hT⟩ : ∃ T, T = w1.heap.size := ⟨_, rfl⟩
  rw [← hT] at hT2 hK2 hL2
  have HT := hid hT
  have HW2 := hid hw2
  have hL40 := hP.len
  obtain ⟨Ll, hLl⟩ : ∃ Ll, Ll = L.length := ⟨_, rfl⟩
  rw [← hLl] at hL40 hlc
  rw [← hLl]
  have HLl := hid hLl
  have hLi : (Ll : Int) ≤ 40 := by omega
  have hU12 := hU1.and hU2
  clear hw2 hT hLl hL hE1 hN PL hl1
  go_upto_region 5 with fail
  rw [← HT.out, ← HW2.out]
  by_cases h2 : Ll < 2
  · have h2i : (Ll : Int) < 2 := by omega
    go_wp2_with fail
    (with_reducible refine (awake13 w2).mono ?_)
    rintro e w3 ⟨rfl, hU3⟩
    have hU13 := hU12.and hU3
    go_wp2_with fail
    go_ret
    exact ⟨rfl, hU13⟩
  have h2i : ¬ (Ll : Int) < 2 := by omega
  have hL2 : RepE (isT T) w2 6 (L.map Mv.dat) va 0 := RepE.weaken (fun b _ e => .inr (by simp only [isT] at e; omega)) _ _ _ _ hL2
  have N1 := next_any (Ll : Int) (by omega) (by omega) T w2 hT2
  go_upto_region 7 with fail
  go_wp2_with fail
  (with_reducible refine N1.mono ?_)
  rintro e w3 ⟨⟨c1, hc1, rfl⟩, hT3, hU3⟩
  have hL3 := RepE.keep hU3 (fun _ e => e) _ _ _ _ hL2
  have hK3 := hK2.keep hU3
  have N2 := next_any (Ll : Int) (by omega) (by omega) T w3 hT3
  clear N1 hL2 hK2 hT2
  go_wp2_with fail
  (with_reducible refine N2.mono ?_)
  rintro e w4 ⟨⟨c2, hc2, rfl⟩, hT4, hU4⟩
  have hL4 := RepE.keep hU4 (fun _ e => e) _ _ _ _ hL3
  have hK4 := hK3.keep hU4
  have hU24 := hU3.trans hU4 (fun _ _ e => e)
  have T1 := term_any 2 (by omega) 0 Ll (by omega) (by omega) T w4 hT4 hK4
  rw [show ((2 : Nat) : Int) = 2 from rfl, show ((0 : Nat) : Int) = 0 from rfl] at T1
  clear N2 hL3 hK3 hT3 hU3 hU4
  go_upto_region 8 with fail
  go_wp2_with fail
  (with_reducible refine T1.mono ?_)
  rintro e w5 ⟨kx, ix, nx, ax, lx, qx, x, rfl, hRx, hFx, hT5, hK5, hU5⟩
  have hL5 := RepE.keep hU5 (fun _ e => e) _ _ _ _ hL4
  have T2 := term_any 2 (by omega) 0 Ll (by omega) (by omega) T w5 hT5 hK5
  rw [show ((2 : Nat) : Int) = 2 from rfl, show ((0 : Nat) : Int) = 0 from rfl] at T2
  have hxw : x.wt ≤ 35 := by have := hFx.wt; omega
  have hTx := hT4.lt
  clear T1 hL4 hK4 hT4 hFx
  go_wp2_with fail
  (with_reducible refine T2.mono ?_)
  rintro e w6 ⟨ky, iy, ny, ay, ly, qy, y, rfl, hRy, hFy, hT6, hK6, hU6⟩
  have hL6 := RepE.keep hU6 (fun _ e => e) _ _ _ _ hL5
  have hyw : y.wt ≤ 35 := by have := hFy.wt; omega
  have hT5x := hT5.lt
  have hRx6 : Rep none' w6 x.dat [.int .i64 kx, .string (B nx), .int .i64 ix, .slice ax lx qx] := Rep.weaken (O := isT T) (fun _ _ e => e.elim) _ _ (Rep.keep hU6 (fun _ e => e) _ _ (Rep.weaken (fun b _ e => by simp only [isT] at e; omega) _ _ hRx))
  have hRy6 : Rep none' w6 y.dat [.int .i64 ky, .string (B ny), .int .i64 iy, .slice ay ly qy] := rep_pre hRy
  have hU26 := (hU24.trans hU5 (fun _ _ e => e)).trans hU6 (fun _ _ e => e)
  have hL6' : RepE none' w6 6 (L.map Mv.dat) va 0 := RepE.weaken (fun _ _ e => e.elim) _ _ _ _ hL6
  have hUw6 : Upto none' w w6 := hU12.trans hU26 (fun b hb e => by have := HT.out; have := hU1.size; simp only [isT] at e; omega)
  clear T2 hL5 hK5 hT5 hFy hRx hRy hU5 hU6 hU24 hU26 hL6 hK6 hT6
  obtain ⟨w7, hw7⟩ : ∃ w7, w7 = (w6.alloc (.cells #[.int .i64 kx, .string (B nx), .int .i64 ix, .slice ax lx qx] 29)).alloc (.cells #[.int .i64 ky, .string (B ny), .int .i64 iy, .slice ay ly qy] 29) := ⟨_, rfl⟩
  have hU7 : Upto none' w6 w7 := by rw [hw7]; exact ((Upto.refl none' _).alloc _).alloc _
  have hbx : Box4 w7 w6.heap.size (.int .i64 kx) (.string (B nx)) (.int .i64 ix) (.slice ax lx qx) 29 := by rw [hw7]; exact (Box4.at_new rfl).kept ((Upto.refl none' _).alloc _)
  have hby : Box4 w7 (w6.heap.size + 1) (.int .i64 ky) (.string (B ny)) (.int .i64 iy) (.slice ay ly qy) 29 := by rw [hw7]; exact Box4.at_new (by simp)
  obtain ⟨X, hX⟩ : ∃ X, X = w6.heap.size := ⟨_, rfl⟩
  rw [← hX] at hbx hby
  have HX := hid hX
  have HW7 := hid hw7
  have hL7 := hL6'.on hU7
  have hRx7 := hRx6.on hU7
  have hRy7 := hRy6.on hU7
  have hUw7 := hUw6.and hU7
  clear hw7 hX hL6' hRx6 hRy6 hUw6 hU7
  go_upto_region 9 with fail
  rw [← HX.out, ← HW7.out]
  by_cases hik : c1 = c2
  · subst hik
    go_wp2_with fail
    (with_reducible refine (awake13 w7).mono ?_)
    rintro e w8 ⟨rfl, hU8⟩
    have hU13 := hUw7.and hU8
    go_wp2_with fail
    go_ret
    exact ⟨rfl, hU13⟩
  have hne : ((c1 : Int) == (c2 : Int)) = false := by rw [beq_eq_false_iff_ne]; omega
  have hik' : (c1 : Int) ≠ (c2 : Int) := by omega
  have HIK := hid hik'
  have hxs := Tm.size_le_wt x
  have hys := Tm.size_le_wt y
  have P1 := hP.solve (i := (c1 : Int)) (m := x) (by omega)
  have P2 := P1.solve (i := (c2 : Int)) (m := y) (by omega)
  have P3 := hP.solve (i := (c2 : Int)) (m := y) (by omega)
  have S1 := fun (W : World) (h : Upto none' w7 W) => solve13_any L hP.stR (c1 : Int) x (by omega) W va vc _ (hL7.on h) (hRx7.on h)
  have S2 := fun (W : World) (h : Upto none' w7 W) a c hh => solve13_any (solveS L (c1 : Int) x) P1.stR (c2 : Int) y (by omega) W a c _ hh (hRy7.on h)
  have S3 := fun (W : World) (h : Upto none' w7 W) => solve13_any L hP.stR (c2 : Int) y (by omega) W va vc _ (hL7.on h) (hRy7.on h)
  have S4 := fun (W : World) (h : Upto none' w7 W) a c hh => solve13_any (solveS L (c2 : Int) y) P3.stR (c1 : Int) x (by omega) W a c _ hh (hRx7.on h)
  have hiff := orders_iff (l := L) (x := x) (y := y) hik'
  have hsame := fun h1 h2 => orders_same (l := L) (x := x) (y := y) hik' h1 h2
  have SS := fun (W : World) a a2 c c2' h1 h2 => sameStore_same (solveS (solveS L (c1 : Int) x) (c2 : Int) y) P2.stOk W a a2 c c2' h1 h2
  rw [← HLl.out] at S1 S3
  obtain ⟨E1, hE1⟩ : ∃ E, E = solveE L (c1 : Int) x := ⟨_, rfl⟩
  obtain ⟨E3, hE3⟩ : ∃ E, E = solveE L (c2 : Int) y := ⟨_, rfl⟩
  obtain ⟨L1, hL1⟩ : ∃ E, E = solveS L (c1 : Int) x := ⟨_, rfl⟩
  obtain ⟨L3, hL3⟩ : ∃ E, E = solveS L (c2 : Int) y := ⟨_, rfl⟩
  rw [← hE1, ← hL1] at S1
  rw [← hL1] at S2
  rw [← hE3, ← hL3] at S3
  rw [← hL3] at S4
  rw [← hE1, ← hE3, ← hL1, ← hL3] at hiff
  rw [← hE1, ← hL1, ← hL3] at hsame
  rw [← hL1] at SS
  obtain ⟨E2, hE2⟩ : ∃ E, E = solveE L1 (c2 : Int) y := ⟨_, rfl⟩
  obtain ⟨E4, hE4⟩ : ∃ E, E = solveE L3 (c1 : Int) x := ⟨_, rfl⟩
  obtain ⟨L2, hL2⟩ : ∃ E, E = solveS L1 (c2 : Int) y := ⟨_, rfl⟩
  obtain ⟨L4, hL4⟩ : ∃ E, E = solveS L3 (c1 : Int) x := ⟨_, rfl⟩
  rw [← hE2, ← hL2] at S2
  rw [← hE4, ← hL4] at S4
  rw [← hE2, ← hE4] at hiff
  rw [← hE2, ← hL2, ← hL4] at hsame
  rw [← hL2] at SS
  have HFA := hid (And.intro hiff hsame)
  clear hE1 hE2 hE3 hE4 hL1 hL2 hL3 hL4 hiff hsame hik hik' hxs hys P1 P2 P3 hRx7 hRy7 hP hxw hyw hL7
  obtain ⟨x0, x1, x2, x3⟩ := hbx.cells
  have S1w := S1 w7 (Upto.refl none' _)
  go_upto_region 11 with fail
  go_wp2_with fail
  (with_reducible refine S1w.mono ?_)
  rintro e w8 ⟨a8, c8, rfl, hc8, hR8, hU8⟩
  have S2w := S2 w8 hU8 a8 c8 hR8
  clear S1w S1 S2 x0 x1 x2 x3
  obtain ⟨x0, x1, x2, x3⟩ := (hby.kept hU8).cells
  generalize L1.length = n1 at *
  go_wp2_with fail
  (with_reducible refine S2w.mono ?_)
  rintro e w9 ⟨a9, c9, rfl, hc9, hR9, hU9⟩
  have hU79 := hU8.and hU9
  have S3w := S3 w9 hU79
  clear S2w S3 x0 x1 x2 x3 hR8
  obtain ⟨x0, x1, x2, x3⟩ := (hby.kept hU79).cells
  go_wp2_with fail
  (with_reducible refine S3w.mono ?_)
  rintro e w10 ⟨a10, c10, rfl, hc10, hR10, hU10⟩
  have hU710 := hU79.and hU10
  have S4w := S4 w10 hU710 a10 c10 hR10
  clear S3w S4 x0 x1 x2 x3
  obtain ⟨x0, x1, x2, x3⟩ := (hbx.kept hU710).cells
  generalize L3.length = n3 at *
  go_wp2_with fail
  (with_reducible refine S4w.mono ?_)
  rintro e w11 ⟨a11, c11, rfl, hc11, hR11, hU11⟩
  have hU711 := hU710.and hU11
  have hUw11 := hUw7.and hU711
  have hR9' := hR9.on (hU10.and hU11)
  clear S4w x0 x1 x2 x3 hbx hby
  by_cases hone : E1 = 0 ∧ E2 = 0
  · obtain ⟨g1, g2⟩ := HFA.out.1.1 hone
    have hL24 := HFA.out.2 hone.1 hone.2
    obtain ⟨h1, h2⟩ := hone
    subst h1 h2 g1 g2
    rw [← hL24] at hR11
    have SSw := SS w11 a9 a11 c9 c11 hR9' hR11
    rw [← hL24]
    generalize L2.length = n2 at *
    clear SS HFA hL24
    go_wp2_with fail
    (with_reducible refine SSw.mono ?_)
    rintro e w12 ⟨rfl, hU12⟩
    have hUw12 := hUw11.and hU12
    clear SSw
    go_wp2_with fail
    (with_reducible refine (awake13 w12).mono ?_)
    rintro e w13 ⟨rfl, hU13⟩
    have hUw13 := hUw12.and hU13
    go_wp2_with fail
    go_ret
    exact ⟨rfl, hUw13⟩
  · have htwo : ¬ (E3 = 0 ∧ E4 = 0) := fun h => hone (HFA.out.1.2 h)
    have w1' : (E1 == 0) = false ∨ ((E1 == 0) = true ∧ (E2 == 0) = false) := by
      by_cases h : E1 = 0
      · exact .inr ⟨by simpa using h, by simpa using fun h2 => hone ⟨h, h2⟩⟩
      · exact .inl (by simpa using h)
    have w2' : (E3 == 0) = false ∨ ((E3 == 0) = true ∧ (E4 == 0) = false) := by
      by_cases h : E3 = 0
      · exact .inr ⟨by simpa using h, by simpa using fun h2 => htwo ⟨h, h2⟩⟩
      · exact .inl (by simpa using h)
    clear hone htwo SS HFA hR9' hR11 hR9 hR10
    generalize L2.length = n2 at *
    generalize L4.length = n4 at *
    rcases w1' with h1 | ⟨h1, h1'⟩ <;> rcases w2' with h2 | ⟨h2, h2'⟩
    all_goals
      go_wp2_with fail
      (with_reducible refine (awake13 w11).mono ?_)
      rintro e w13 ⟨rfl, hU13⟩
      have hUw13 := hUw11.and hU13
      go_wp2_with fail
      go_ret
      exact ⟨rfl, hUw13⟩
end Go.Proofs.YtdomloghcpfdjaaGreatDoor
