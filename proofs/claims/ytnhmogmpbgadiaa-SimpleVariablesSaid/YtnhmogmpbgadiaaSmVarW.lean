/- SimpleVariables: its walk. -/
import Derived.Test.YtnhmogmpbgadiaaDF
import Derived.Test.YtnhmogmpbgadiaaDA
import Derived.Test.YtnhmogmpbgadiaaCL
import Derived.Test.YtnhmogmpbgadiaaCK
import Derived.Test.YtnhmogmpbgadiaaCG
import Derived.Test.YtnhmogmpbgadiaaDB
import Derived.Test.YtnhmogmpbgadiaaCH
import Derived.Deep.CutRange
import Derived.Deep.RegionHeld3
namespace Go.Proofs.Ytnhmogmpbgadiaa
open Go.RowKit Go.LF
/-- What the drawn region reads: the simple type and the two forms. -/
abbrev Vs7 (W : World) (S P Q : Nat) (s0 s1 t0 t1 t2 t3 u0 u1 u2 u3 : Value) (w' : World) : Prop :=
  (w'.cell? ⟨S, 0, none⟩ = some s0 ∧ w'.cell? ⟨S, 1, none⟩ = some s1) ∧
  (w'.cell? ⟨P, 0, none⟩ = some t0 ∧ w'.cell? ⟨P, 1, none⟩ = some t1 ∧ w'.cell? ⟨P, 2, none⟩ = some t2 ∧ w'.cell? ⟨P, 3, none⟩ = some t3) ∧
  (w'.cell? ⟨Q, 0, none⟩ = some u0 ∧ w'.cell? ⟨Q, 1, none⟩ = some u1 ∧ w'.cell? ⟨Q, 2, none⟩ = some u2 ∧ w'.cell? ⟨Q, 3, none⟩ = some u3) ∧ Upto none' W w'
section
variable {W w' w1 : World} {S P Q : Nat} {s0 s1 t0 t1 t2 t3 u0 u1 u2 u3 : Value}
theorem Vs7.up (h : Vs7 W S P Q s0 s1 t0 t1 t2 t3 u0 u1 u2 u3 w') : Upto none' W w' := h.2.2.2
theorem Vs7.on (h : Vs7 W S P Q s0 s1 t0 t1 t2 t3 u0 u1 u2 u3 w') (hU : Upto none' w' w1) : Vs7 W S P Q s0 s1 t0 t1 t2 t3 u0 u1 u2 u3 w1 :=
  ⟨⟨hU.cell h.1.1 (fun x => x), hU.cell h.1.2 (fun x => x)⟩, box_on hU h.2.1, box_on hU h.2.2.1, h.up.and hU⟩
end
set_option maxRecDepth 100000 in
set_option maxHeartbeats 16000000 in
theorem simpleVariables_walk (l0 : List Int) (a0 : Option Addr) (len0 cap0 : Nat) (hl0 : l0.length = len0) (hlen0 : len0 ≤ 17592186044416) (i by' : Int) (w : World)
    (hE0 : RepE none' w 1 (l0.map (Dat.int .i64)) a0 0) :
    Calls Try.prog 4 #[.slice a0 len0 cap0, .int .i64 i, .int .i64 by'] w fun e w' => e = .returned (.bool true) ∧ Upto none' w w' := by
  have hT := tape_new (cap := cap0) (U := 25) hl0 hlen0 hE0
  obtain ⟨T, hTT⟩ : ∃ T, T = w.heap.size := ⟨_, rfl⟩
  rw [← hTT] at hT
  have SM : ∀ W, TapeOk W T → Calls Try.prog 15 #[.pointer (some ⟨T, 0, none⟩), .int .i64 3] W (MakesS W.heap.size 3 T W) := fun W h => simple_any 3 (by omega) T W h
  have HTT := hid hTT
  clear hTT hE0 hl0 hlen0
  have b1 := cutV_bd i 50 (by omega)
  have K1 := fun W => cut_val i 50 (by omega) (by omega) W
  have b2 := cutV_bd by' 50 (by omega)
  have K2 := fun W => cut_val by' 50 (by omega) (by omega) W
  generalize cutV i 50 = v at *
  generalize cutV by' 50 = n at *
  go_enter Try.func4, Try.ntmps4
  go_wp2_with fail
  rw [← HTT.out]
  refine (SM _ hT).mono ?_
  rintro e w2 ⟨f, sa, sl, sc, s, rfl, hS, hFS, -, hU2⟩
  have hU2' : Upto none' w w2 := ((Upto.refl none' w).alloc _).trans hU2 (fun b hb e => by simp only [isT] at e; have := HTT.out; omega)
  have hsz : s.size ≤ 60 := by have := hFS.size; omega
  have hswt : s.wt ≤ 200 := by have := hFS.wt; omega
  have hwf := hFS.wf0 (by omega)
  obtain ⟨P1, P2, P3⟩ := Tm.simple_variables s hwf hsz v n (by omega) (by omega) (by omega) (by omega)
  obtain ⟨E0, -, o1, z1, t1, -⟩ := Tm.eta_mid v (by omega) (by omega) s hwf hsz
  obtain ⟨E1, -, -, z2, t2, -⟩ := Tm.eta_mid (v + n) (by omega) (by omega) s hwf hsz
  have C1 := fun W ds h => progEta_any (.mk 5 [] v []) (by simp [Tm.wts]) s (by omega) W _ ds (rep_leaf 5 [] v) h
  have C2 := fun W ds h => progEta_any (.mk 5 [] (v + n) []) (by simp [Tm.wts]) s (by omega) W _ ds (rep_leaf 5 [] (v + n)) h
  rw [E0] at C1
  rw [E1] at C2
  generalize (Tm.mk 5 [] v []).etaT s = X at *
  generalize (Tm.mk 5 [] (v + n) []).etaT s = Y at *
  have C3 := fun W cs h => variable_any X (by omega) W cs h
  rw [P1, optV_some] at C3
  have C4 := fun W cs ds h h' => fits_any X (by omega) s (by omega) W cs ds h h'
  rw [P2] at C4
  have C5 := fun W cs h => refMove_any n 0 (by omega) (by omega) (by omega) (by omega) X (by omega) (Tm.obj_ok X o1) 0 0 W cs (by omega) (by omega) (by omega) h
  rw [P3] at C5
  have C6 := fun W cs ds h h' => refSame_any Y (by omega) Y W cs ds h h'
  rw [Tm.same_refl] at C6
  obtain ⟨w3, hw3⟩ : ∃ w3, w3 = w2.alloc (.cells #[.string (B f), .slice sa sl sc] 29) := ⟨_, rfl⟩
  have hUa : Upto none' w2 w3 := by rw [hw3]; exact (Upto.refl none' w2).alloc _
  have hs3 : Box2 w3 w2.heap.size (.string (B f)) (.slice sa sl sc) 29 := by rw [hw3]; exact Box2.at_new rfl
  have hUw3 := hU2'.and hUa
  have hR3 : Rep none' w3 s.dat [.string (B f), .slice sa sl sc] := (rep_pre hS).on hUa
  obtain ⟨S, hSS⟩ : ∃ S, S = w2.heap.size := ⟨_, rfl⟩
  rw [← hSS] at hs3
  have HS := hid hSS
  have HW3 := hid hw3
  have wv : IntKind.i64.wrap (v + n) = v + n := Go.IntWalk.i64_in _ (by omega)
  have HWV := hid wv
  clear hw3 hSS hUa hS hU2 hU2' hFS hT SM P1 P2 P3 E0 E1 o1 z1 t1 z2 t2 hwf hsz hswt wv
  go_upto_region 2 with fail
  rw [← HS.out, ← HW3.out]
  obtain ⟨s0, s1⟩ := hs3.cells
  go_wp2_with (first | ((go_at_call 16); (with_reducible refine (K1 _).mono ?_); rintro e w7 ⟨rfl, rfl⟩) | ((go_at_call 16); (with_reducible refine (K2 _).mono ?_); rintro e w7 ⟨rfl, rfl⟩))
  clear K1 K2
  try rw [← show B [] = { data := #[] } from rfl]
  refine (C1 _ _ hR3).mono ?_
  rintro e w4 ⟨k4, i4, n4, a4, len4, cap4, rfl, hR4, hU4⟩
  obtain ⟨w5, hw5⟩ : ∃ w5, w5 = w4.alloc (.cells #[.int .i64 k4, .string (B n4), .int .i64 i4, .slice a4 len4 cap4] 32) := ⟨_, rfl⟩
  have hUa : Upto none' w4 w5 := by rw [hw5]; exact (Upto.refl none' w4).alloc _
  have hx5 : Box4 w5 w4.heap.size (.int .i64 k4) (.string (B n4)) (.int .i64 i4) (.slice a4 len4 cap4) 32 := by rw [hw5]; exact Box4.at_new rfl
  have hRx5 := (rep_pre hR4).on hUa
  have hU35 := hU4.and hUa
  have hs5 := hs3.kept hU35
  have hR5 := hR3.on hU35
  have hUw5 := hUw3.and hU35
  obtain ⟨P, hP⟩ : ∃ P, P = w4.heap.size := ⟨_, rfl⟩
  rw [← hP] at hx5
  have HP := hid hP
  have HW5 := hid hw5
  clear hw5 hP hUa hR4 hU4 hU35 hs3 hR3 hUw3 s0 s1 C1
  obtain ⟨v0, v1⟩ := b1
  obtain ⟨n0, n1⟩ := b2
  go_upto_region 4 with fail
  rw [← HP.out, ← HW5.out]
  obtain ⟨s0, s1⟩ := hs5.cells
  go_wp2_with fail
  try rw [← show B [] = { data := #[] } from rfl]
  (with_reducible refine (C2 _ _ hR5).mono ?_)
  rintro e w6 ⟨k6, i6, n6, a6, len6, cap6, rfl, hR6, hU6⟩
  obtain ⟨w7, hw7⟩ : ∃ w7, w7 = w6.alloc (.cells #[.int .i64 k6, .string (B n6), .int .i64 i6, .slice a6 len6 cap6] 32) := ⟨_, rfl⟩
  have hUa : Upto none' w6 w7 := by rw [hw7]; exact (Upto.refl none' w6).alloc _
  have hy7 : Box4 w7 w6.heap.size (.int .i64 k6) (.string (B n6)) (.int .i64 i6) (.slice a6 len6 cap6) 32 := by rw [hw7]; exact Box4.at_new rfl
  have hRy7 := (rep_pre hR6).on hUa
  have hU57 := hU6.and hUa
  have hs7 := hs5.kept hU57
  have hx7 := hx5.kept hU57
  have hR7 := hR5.on hU57
  have hRx7 := hRx5.on hU57
  have hUw7 := hUw5.and hU57
  obtain ⟨Q, hQ⟩ : ∃ Q, Q = w6.heap.size := ⟨_, rfl⟩
  rw [← hQ] at hy7
  have HQ := hid hQ
  have HW7 := hid hw7
  clear hw7 hQ hUa hR6 hU6 hU57 hs5 hR5 hUw5 s0 s1 C2 hx5 hRx5
  go_upto_region 5 with fail
  rw [← HQ.out, ← HW7.out]
  obtain ⟨x0, x1, x2, x3⟩ := hx7.cells
  go_wp2_with fail
  refine (C3 _ _ hRx7).mono ?_
  rintro e w8 ⟨rfl, hU8⟩
  have hs8 := hs7.kept hU8
  have hx8 := hx7.kept hU8
  have hy8 := hy7.kept hU8
  have hR8 := hR7.on hU8
  have hRx8 := hRx7.on hU8
  have hRy8 := hRy7.on hU8
  have hUw8 := hUw7.and hU8
  clear x0 x1 x2 x3 hs7 hx7 hy7 hR7 hRx7 hRy7 hUw7 hU8 C3
  have S8 : Vs7 w8 S P Q _ _ _ _ _ _ _ _ _ _ w8 := ⟨hs8.cells, hx8.cells, hy8.cells, Upto.refl _ _⟩
  have Sd := S8.on (Upto.refl none' w8).drew
  clear S8
  go_upto_region 6 with fail
  go_region_held3 (fun w' => Vs7 w8 S P Q (.string (B f)) (.slice sa sl sc) (.int .i64 k4) (.string (B n4)) (.int .i64 i4) (.slice a4 len4 cap4) (.int .i64 k6) (.string (B n6)) (.int .i64 i6) (.slice a6 len6 cap6) w') (first | assumption | exact Sd | exact Vs7.on (by assumption) (by assumption) | go_keep)
    (first
      | (go_at_call 19; refine (C4 _ _ _ (hRx8.on (Vs7.up (by assumption))) (hR8.on (Vs7.up (by assumption)))).mono ?_; rintro e w9 ⟨rfl, hU9⟩)
      | (go_at_call 20; refine (C5 _ _ (hRx8.on (Vs7.up (by assumption)))).mono ?_; rintro e w10 ⟨k10, i10, n10, a10, len10, cap10, rfl, hR10, hU10⟩)
      | (go_at_call 13; refine (C6 _ _ _ (rep_pre hR10) (hRy8.on (Vs7.up (by assumption)))).mono ?_; rintro e w11 ⟨rfl, hU11⟩)
      | (go_at_call 21; refine (awake07 _).mono ?_; rintro e w12 ⟨rfl, hU12⟩))
  go_wp2_with fail
  go_ret
  exact ⟨rfl, hUw8.and (Vs7.up (by assumption))⟩
end Go.Proofs.Ytnhmogmpbgadiaa
