/- A number that is cut: which one. -/
import Derived.Test.YtnhmogmpbgadiaaCH
import Derived.Test.YtnhmogmpbgadiaaDB
import Derived.Test.YtnhmogmpbgadiaaDC
import Derived.Test.YtnhmogmpbgadiaaDE
namespace Go.Proofs.Ytnhmogmpbgadiaa
open Go.RowKit Go.LF
/-- The number itself. -/
def cutV (x n : Int) : Int := (IntKind.u64.wrap x).tmod n
theorem cutV_bd (x n : Int) (h0 : 0 < n) : 0 ≤ cutV x n ∧ cutV x n < n := by
  have hx : 0 ≤ IntKind.u64.wrap x := u64_nonneg x
  unfold cutV
  rw [Int.tmod_eq_emod_of_nonneg hx]
  exact ⟨Int.emod_nonneg _ (by omega), Int.emod_lt_of_pos _ h0⟩
set_option maxHeartbeats 1000000 in
theorem cut_val (x n : Int) (h0 : 0 < n) (h1 : n ≤ 1000000) (w : World) :
    Calls Try.prog 16 #[.int .i64 x, .int .i64 n] w fun e w' => e = .returned (.int .i64 (cutV x n)) ∧ w = w' := by
  go_enter Try.func16, Try.ntmps16
  go_wp2_with fail
  go_ret
  have hb := cutV_bd x n h0
  unfold cutV at hb
  refine ⟨ret_int ?_, rfl⟩
  unfold cutV
  rw [Go.IntWalk.wrap64_in _ (by omega)]
end Go.Proofs.Ytnhmogmpbgadiaa
namespace Go.Proofs.Ytnhmogmpbgadiaa
open Go.RowKit Go.LF
abbrev sNat : Sm := .mk [110, 97, 116] []
abbrev sFun : Sm := .mk [110, 97, 116] [sNat]
abbrev sNone : Sm := .mk [] []
abbrev tHd : Tm := .mk 5 [] 0 []
abbrev tEta : Tm := .mk 3 [] 0 [.mk 5 [] 1 [.mk 5 [] 0 []]]
abbrev tNt : Tm := .mk 4 [110, 97, 116] 0 []
abbrev tNv : Tm := .mk 4 [110, 97, 116] 0 [.mk 5 [] 0 []]
abbrev tPi7 : Tm := .mk 2 [] 0 [tNt, tNv]
theorem aw7a : tHd.etaE sFun = 0 := by decide +kernel
theorem aw7x : tHd.etaX sFun = tEta := by
  simp [Tm.etaX, Tm.mv_mk, Tm.mvA, Tm.mvi, Tm.shF, Tm.xp_mk, Tm.xpA, Tm.lamN, Tm.more]
theorem aw7b : tHd.etaT sFun = tEta := by rw [Tm.etaT, if_pos aw7a, aw7x]
theorem aw7c : tEta.vrw = some 0 := by decide +kernel
theorem aw7d : tPi7.erE = 0 := by decide +kernel
theorem aw7e : tPi7.erV = sFun := by rw [Tm.erV, if_pos aw7d]; simp [Tm.er_mk, Tm.erA_two]
theorem aw7f : sFun.same sFun = true := by decide +kernel
theorem aw7g : sFun.same sNat = false := by decide +kernel
theorem aw7h : sFun.orderV = 1 := by decide +kernel
theorem aw7i : sFun.size = 2 := by decide +kernel
theorem aw7j : tEta.fitsV sFun.args.length = true := by decide +kernel
theorem aw7k : sNone.wf = 1 := by decide +kernel
theorem aw7w : tHd.wt ≤ 1000 ∧ tEta.wt ≤ 1000 ∧ tPi7.wt ≤ 1000 ∧ sFun.wt ≤ 1000 ∧ sNone.wt ≤ 1000 ∧ sFun.size ≤ 1000 := by decide +kernel
theorem rep_sm_leaf {O : Nat → Prop} {W : World} (f : List UInt8) : Rep O W (Sm.mk f []).dat [.string (B f), .slice none 0 0] := rep_sm.2 ⟨none, 0, rfl, Nat.le_refl _, by simp only [List.map_nil, RepE]⟩
theorem rep_sm_one {O : Nat → Prop} {W : World} {b : Nat} {f n : List UInt8} {T : TypeId} (hO : ¬ O b) (hB : Box2 W b (.string (B f)) (.slice none 0 0) T) : Rep O W (Sm.mk n [.mk f []]).dat [.string (B n), .slice (some ⟨b, 0, none⟩) 1 1] := by
  refine rep_sm.2 ⟨some ⟨b, 0, none⟩, 1, rfl, Nat.le_refl _, repE_of _ _ _ (fun i hi => ?_)⟩
  obtain rfl : i = 0 := by simpa using hi
  refine ⟨b, 0, _, rfl, hB.lt, hO, rfl, fun m v hv => ?_, rep_sm_leaf f⟩
  match m, hv with
  | 0, hv => cases hv; exact hB.cells.1
  | 1, hv => cases hv; exact hB.cells.2
  | m + 2, hv => simp at hv
/-- What awake needs of a world: the two simple types. -/
structure Aw7 (b : Nat) (w w' : World) : Prop where
  nat : Box2 w' b (.string (B [110, 97, 116])) (.slice none 0 0) 29
  fn : Box2 w' (b + 1 + 1) (.string (B [110, 97, 116])) (.slice (some ⟨b + 1, 0, none⟩) 1 1) 29
  rep : Rep none' w' sFun.dat [.string (B [110, 97, 116]), .slice (some ⟨b + 1, 0, none⟩) 1 1]
  up : Upto none' w w'
theorem Aw7.on {b : Nat} {w w' w1 : World} (h : Aw7 b w w') (hU : Upto none' w' w1) : Aw7 b w w1 := ⟨h.nat.kept hU, h.fn.kept hU, h.rep.on hU, h.up.and hU⟩
theorem aw7_lay (w w3 : World) (h : w3 = ((w.alloc (.cells #[.string (B [110, 97, 116]), .slice none 0 0] 29)).alloc (.cells #[.string (B [110, 97, 116]), .slice none 0 0] 29)).alloc (.cells #[.string (B [110, 97, 116]), .slice (some ⟨w.heap.size + 1, 0, none⟩) 1 1] 29)) : Aw7 w.heap.size w w3 := by
  subst h
  exact ⟨((Box2.at_new rfl).kept ((Upto.refl none' _).alloc _)).kept ((Upto.refl none' _).alloc _), Box2.at_new (by simp), rep_sm_one (fun x => x) ((Box2.at_new (T := 29) (by simp)).kept ((Upto.refl none' _).alloc _)), (((Upto.refl none' w).alloc _).alloc _).alloc _⟩
set_option maxRecDepth 100000 in
set_option maxHeartbeats 8000000 in
theorem awake07 (w : World) : Calls Try.prog 21 #[] w fun e w' => e = .returned (.bool true) ∧ Upto none' w w' := by
  obtain ⟨w3, hw3⟩ : ∃ w3, w3 = ((w.alloc (.cells #[.string (B [110, 97, 116]), .slice none 0 0] 29)).alloc (.cells #[.string (B [110, 97, 116]), .slice none 0 0] 29)).alloc (.cells #[.string (B [110, 97, 116]), .slice (some ⟨w.heap.size + 1, 0, none⟩) 1 1] 29) := ⟨_, rfl⟩
  have A3 := aw7_lay w w3 hw3
  have HW := hid hw3
  clear hw3
  obtain ⟨X, hX⟩ : ∃ X, X = w.heap.size := ⟨_, rfl⟩
  rw [← hX] at A3
  have HX := hid hX
  clear hX
  obtain ⟨z1, z2, z3, z4, z5, z6⟩ := aw7w
  have C1 := fun (W : World) (h : Aw7 X w W) => progEta_any tHd (by omega) sFun (by omega) W _ _ (rep_leaf 5 [] 0) h.rep
  rw [aw7a, aw7b] at C1
  have C2 := fun (W : World) cs h => variable_any tEta (by omega) W cs h
  rw [aw7c, optV_some] at C2
  have C3 := fun (W : World) cs h => eraseF_any tPi7 (by omega) W cs h
  rw [aw7d, aw7e] at C3
  have C4 := fun (W : World) cs ds h h' => smSame_any sFun (by omega) sFun W cs ds h h'
  rw [aw7f] at C4
  have C5 := fun (W : World) cs ds h h' => smSame_any sFun (by omega) sNat W cs ds h h'
  rw [aw7g] at C5
  have C6 := fun (W : World) cs h => smOrder_any sFun (by omega) W cs h
  rw [aw7h] at C6
  have C7 := fun (W : World) cs h => smSize_any sFun (by omega) W cs h
  rw [aw7i] at C7
  have C8 := fun (W : World) cs ds h h' => fits_any tEta (by omega) sFun (by omega) W cs ds h h'
  rw [aw7j] at C8
  have C9 := fun (W : World) cs h => smWf_any sNone (by omega) W cs h
  rw [aw7k] at C9
  go_enter Try.func21, Try.ntmps21
  go_wp2_with fail
  rw [← show B [] = { data := #[] } from rfl, ← HW.out, ← HX.out]
  refine (C1 w3 A3).mono ?_
  rintro e w4 h4
  obtain ⟨a4, cap4, rfl, hR4, hU4⟩ := gives_mk h4
  simp only [List.length_cons, List.length_nil, Nat.zero_add] at hR4 ⊢
  have A4 := A3.on hU4
  clear C1 h4
  obtain ⟨w5, hw5⟩ : ∃ w5, w5 = w4.alloc (.cells #[.int .i64 3, .string (B []), .int .i64 0, .slice a4 1 cap4] 32) := ⟨_, rfl⟩
  have hUa5 : Upto none' w4 w5 := by rw [hw5]; exact (Upto.refl none' w4).alloc _
  have ht5 : Box4 w5 w4.heap.size (.int .i64 3) (.string (B [])) (.int .i64 0) (.slice a4 1 cap4) 32 := by rw [hw5]; exact Box4.at_new rfl
  have A5 := A4.on hUa5
  have hR5 : Rep none' w5 tEta.dat [.int .i64 3, .string (B []), .int .i64 0, .slice a4 1 cap4] := rep_pre (hR4.on hUa5)
  obtain ⟨Y, hY⟩ : ∃ Y, Y = w4.heap.size := ⟨_, rfl⟩
  rw [← hY] at ht5
  have HW5 := hid hw5
  have HY := hid hY
  clear hw5 hY hR4 hUa5 hU4 A3 A4
  go_upto_region 4 with fail
  rw [← HW5.out, ← HY.out]
  obtain ⟨x0, x1, x2, x3⟩ := ht5.cells
  go_wp2_with fail
  refine (C2 _ _ hR5).mono ?_
  rintro e w6 ⟨rfl, hU6⟩
  have A6 := A5.on hU6
  have ht6 := ht5.kept hU6
  have hR6 := hR5.on hU6
  clear A5 ht5 hR5 x0 x1 x2 x3
  obtain ⟨w7, hw7⟩ : ∃ w7, w7 = ((w6.alloc (.cells #[.int .i64 5, .string (B []), .int .i64 0, .slice none 0 0] 32)).alloc (.cells #[.int .i64 4, .string (B [110, 97, 116]), .int .i64 0, .slice none 0 0, .int .i64 4, .string (B [110, 97, 116]), .int .i64 0, .slice (some ⟨w6.heap.size, 0, none⟩) 1 1] 32)).alloc (.cells #[.int .i64 2, .string (B []), .int .i64 0, .slice (some ⟨w6.heap.size + 1, 0, none⟩) 2 2] 32) := ⟨_, rfl⟩
  have hUa7 : Upto none' w6 w7 := by rw [hw7]; exact (((Upto.refl none' w6).alloc _).alloc _).alloc _
  have hA7 : Box4 w7 w6.heap.size (.int .i64 5) (.string (B [])) (.int .i64 0) (.slice none 0 0) 32 := by rw [hw7]; exact ((Box4.at_new rfl).kept ((Upto.refl none' _).alloc _)).kept ((Upto.refl none' _).alloc _)
  have hB7 : w7.heap[w6.heap.size + 1]? = some (.cells #[.int .i64 4, .string (B [110, 97, 116]), .int .i64 0, .slice none 0 0, .int .i64 4, .string (B [110, 97, 116]), .int .i64 0, .slice (some ⟨w6.heap.size, 0, none⟩) 1 1] 32 (0, 0)) := by
    rw [hw7, heap_old _ _ _ (by simp)]
    have := heap_alloc_new (w6.alloc (.cells #[.int .i64 5, .string (B []), .int .i64 0, .slice none 0 0] 32)) (.cells #[.int .i64 4, .string (B [110, 97, 116]), .int .i64 0, .slice none 0 0, .int .i64 4, .string (B [110, 97, 116]), .int .i64 0, .slice (some ⟨w6.heap.size, 0, none⟩) 1 1] 32)
    rwa [World.size_alloc] at this
  have hp7 : Box4 w7 (w6.heap.size + 1 + 1) (.int .i64 2) (.string (B [])) (.int .i64 0) (.slice (some ⟨w6.heap.size + 1, 0, none⟩) 2 2) 32 := by rw [hw7]; exact Box4.at_new (by simp)
  have hRp : Rep none' w7 tPi7.dat [.int .i64 2, .string (B []), .int .i64 0, .slice (some ⟨w6.heap.size + 1, 0, none⟩) 2 2] :=
    rep_tm.2 ⟨_, 2, rfl, Nat.le_refl _, rep_two (rep_leaf 4 [110, 97, 116] 0) (rep_one (rep_leaf 5 [] 0) (fun x => x) hA7 4 [110, 97, 116] 0) (fun x => x) hB7⟩
  have A7 := A6.on hUa7
  have ht7 := ht6.kept hUa7
  have hR7 := hR6.on hUa7
  have HW7 := hid hw7
  clear hw7 hUa7 hA7 hB7 A6 ht6 hR6
  go_upto_region 6 with fail
  try rw [← show B [] = { data := #[] } from rfl]
  rw [← HW7.out]
  obtain ⟨x0, x1, x2, x3⟩ := hp7.cells
  go_wp2_with fail
  refine (C3 _ _ hRp).mono ?_
  rintro e w8 ⟨f8, a8, len8, cap8, rfl, hR8, hU8⟩
  obtain ⟨w9, hw9⟩ : ∃ w9, w9 = w8.alloc (.cells #[.string (B f8), .slice a8 len8 cap8] 29) := ⟨_, rfl⟩
  have hUa9 : Upto none' w8 w9 := by rw [hw9]; exact (Upto.refl none' w8).alloc _
  have hU79 := hU8.and hUa9
  have hx9 : Box2 w9 w8.heap.size (.string (B f8)) (.slice a8 len8 cap8) 29 := by rw [hw9]; exact Box2.at_new rfl
  have hRx : Rep none' w9 sFun.dat [.string (B f8), .slice a8 len8 cap8] := rep_pre (hR8.on hUa9)
  have A9 := A7.on hU79
  have ht9 := ht7.kept hU79
  have hR9 := hR7.on hU79
  obtain ⟨Z, hZ⟩ : ∃ Z, Z = w8.heap.size := ⟨_, rfl⟩
  rw [← hZ] at hx9
  have HW9 := hid hw9
  have HZ := hid hZ
  clear hw9 hZ hR8 hUa9 hU79 hU8 A7 ht7 hR7 hRp hp7 x0 x1 x2 x3
  go_upto_region 7 with fail
  rw [← HW9.out, ← HZ.out]
  obtain ⟨n0, n1⟩ := A9.nat.cells
  obtain ⟨s0, s1⟩ := A9.fn.cells
  obtain ⟨x0, x1⟩ := hx9.cells
  obtain ⟨t0, t1, t2, t3⟩ := ht9.cells
  go_wp2_with fail
  refine (C4 _ _ _ hRx A9.rep).mono ?_
  rintro e w10 ⟨rfl, hU10⟩
  have A10 := A9.on hU10
  have ht10 := ht9.kept hU10
  have hR10 := hR9.on hU10
  have hx10 := hx9.kept hU10
  have hRx10 := hRx.on hU10
  clear n0 n1 s0 s1 x0 x1 t0 t1 t2 t3 A9 ht9 hR9 hx9 hRx
  obtain ⟨n0, n1⟩ := A10.nat.cells
  obtain ⟨s0, s1⟩ := A10.fn.cells
  obtain ⟨x0, x1⟩ := hx10.cells
  obtain ⟨t0, t1, t2, t3⟩ := ht10.cells
  go_wp2_with fail
  refine (C5 _ _ _ hRx10 (rep_sm_leaf [110, 97, 116])).mono ?_
  rintro e w11 ⟨rfl, hU11⟩
  have A11 := A10.on hU11
  have ht11 := ht10.kept hU11
  have hR11 := hR10.on hU11
  clear n0 n1 s0 s1 x0 x1 t0 t1 t2 t3 A10 ht10 hR10 hx10 hRx10
  obtain ⟨s0, s1⟩ := A11.fn.cells
  obtain ⟨t0, t1, t2, t3⟩ := ht11.cells
  go_wp2_with fail
  refine (C6 _ _ A11.rep).mono ?_
  rintro e w12 ⟨rfl, hU12⟩
  have A12 := A11.on hU12
  have ht12 := ht11.kept hU12
  have hR12 := hR11.on hU12
  clear s0 s1 t0 t1 t2 t3 A11 ht11 hR11
  obtain ⟨s0, s1⟩ := A12.fn.cells
  obtain ⟨t0, t1, t2, t3⟩ := ht12.cells
  go_wp2_with fail
  refine (C7 _ _ A12.rep).mono ?_
  rintro e w13 ⟨rfl, hU13⟩
  have A13 := A12.on hU13
  have ht13 := ht12.kept hU13
  have hR13 := hR12.on hU13
  clear s0 s1 t0 t1 t2 t3 A12 ht12 hR12
  obtain ⟨s0, s1⟩ := A13.fn.cells
  obtain ⟨t0, t1, t2, t3⟩ := ht13.cells
  go_wp2_with fail
  refine (C8 _ _ _ hR13 A13.rep).mono ?_
  rintro e w14 ⟨rfl, hU14⟩
  have A14 := A13.on hU14
  go_wp2_with fail
  refine (C9 _ _ (rep_sm_leaf [])).mono ?_
  rintro e w15 ⟨rfl, hU15⟩
  go_wp2_with fail
  go_ret
  exact ⟨rfl, (A14.on hU15).up⟩
end Go.Proofs.Ytnhmogmpbgadiaa
