/- Layer 8's awake: it answers true. -/
import Derived.Test.YtdomloghcpfdjaaGreatDoorSubAwP
namespace Go.Proofs.YtdomloghcpfdjaaGreatDoor
open Go.RowKit Go.LF
/-- What awake needs of a world. -/
structure Aw8 (b : Nat) (w w' : World) : Prop where
  fn : Box2 w' (b + 1 + 1) (.string (B [110, 97, 116])) (.slice (some ⟨b + 1, 0, none⟩) 1 1) 33
  idb : Box4 w' (b + 1 + 1 + 1 + 1) (.int .i64 3) (.string (B [])) (.int .i64 0) (.slice (some ⟨b + 1 + 1 + 1, 0, none⟩) 1 1) 29
  cb : Box4 w' (b + 1 + 1 + 1 + 1 + 1) (.int .i64 4) (.string (B [99])) (.int .i64 0) (.slice none 0 0) 29
  repS : Rep none' w' wFun.dat [.string (B [110, 97, 116]), .slice (some ⟨b + 1, 0, none⟩) 1 1]
  repI : Rep none' w' wId.dat [.int .i64 3, .string (B []), .int .i64 0, .slice (some ⟨b + 1 + 1 + 1, 0, none⟩) 1 1]
  up : Upto none' w w'
theorem Aw8.on {b : Nat} {w w' w1 : World} (h : Aw8 b w w') (hU : Upto none' w' w1) : Aw8 b w w1 := ⟨h.fn.kept hU, h.idb.kept hU, h.cb.kept hU, h.repS.on hU, h.repI.on hU, h.up.and hU⟩
theorem rep_sm_leaf8 {O : Nat → Prop} {W : World} (f : List UInt8) : Rep O W (Sm.mk f []).dat [.string (B f), .slice none 0 0] := rep_sm.2 ⟨none, 0, rfl, Nat.le_refl _, by simp only [List.map_nil, RepE]⟩
theorem aw8_lay (w w3 : World) (h : w3 = (((((w.alloc (.cells #[.string (B [110, 97, 116]), .slice none 0 0] 33)).alloc (.cells #[.string (B [110, 97, 116]), .slice none 0 0] 33)).alloc (.cells #[.string (B [110, 97, 116]), .slice (some ⟨w.heap.size + 1, 0, none⟩) 1 1] 33)).alloc (.cells #[.int .i64 5, .string (B []), .int .i64 0, .slice none 0 0] 29)).alloc (.cells #[.int .i64 3, .string (B []), .int .i64 0, .slice (some ⟨w.heap.size + 1 + 1 + 1, 0, none⟩) 1 1] 29)).alloc (.cells #[.int .i64 4, .string (B [99]), .int .i64 0, .slice none 0 0] 29)) : Aw8 w.heap.size w w3 := by
  subst h
  have a1 : ∀ (W : World) (o : Obj), Upto none' W (W.alloc o) := fun W o => (Upto.refl none' W).alloc o
  refine ⟨(((Box2.at_new (by simp)).kept (a1 _ _)).kept (a1 _ _)).kept (a1 _ _), (Box4.at_new (by simp)).kept (a1 _ _), Box4.at_new (by simp), ?_, ?_, ((((((Upto.refl none' w).alloc _).alloc _).alloc _).alloc _).alloc _).alloc _⟩
  · refine rep_sm.2 ⟨some ⟨w.heap.size + 1, 0, none⟩, 1, rfl, Nat.le_refl _, repE_oneS (rep_sm_leaf8 _) (fun x => x) (T := 33) (((((Box2.at_new (by simp)).kept (a1 _ _)).kept (a1 _ _)).kept (a1 _ _)).kept (a1 _ _))⟩
  · exact rep_one (t := .mk 5 [] 0 []) (T := 29) (rep_leaf 5 [] 0) (fun x => x) (((Box4.at_new (by simp)).kept (a1 _ _)).kept (a1 _ _)) 3 [] 0
theorem givesE_mk {O : Nat → Prop} {E k i : Int} {n : List UInt8} {l : List Tm} {w w' : World} {e : Ending} (h : GivesE O E (.mk k n i l) w e w') :
    ∃ a cap, e = .returned (.tuple #[.agg #[.int .i64 k, .string (B n), .int .i64 i, .slice a l.length cap], .int .i64 E]) ∧ Rep O w' (Tm.mk k n i l).dat [.int .i64 k, .string (B n), .int .i64 i, .slice a l.length cap] ∧ Upto none' w w' := by
  obtain ⟨k', i', n', a, len, cap, rfl, hR, hU⟩ := h
  obtain ⟨a', cap', e, hc, hE⟩ := rep_tm.1 hR
  simp only [List.cons.injEq, Value.int.injEq, Value.string.injEq, Value.slice.injEq, and_true, true_and] at e
  obtain ⟨rfl, en, rfl, rfl, rfl, rfl⟩ := e
  exact ⟨a, cap, by rw [en], by rw [en] at hR; exact hR, hU⟩
set_option maxRecDepth 100000 in
set_option maxHeartbeats 8000000 in
theorem awake08 (w : World) : Calls Tryz.prog 26 #[] w fun e w' => e = .returned (.bool true) ∧ Upto none' w w' := by
  obtain ⟨w3, hw3⟩ : ∃ w3, w3 = (((((w.alloc (.cells #[.string (B [110, 97, 116]), .slice none 0 0] 33)).alloc (.cells #[.string (B [110, 97, 116]), .slice none 0 0] 33)).alloc (.cells #[.string (B [110, 97, 116]), .slice (some ⟨w.heap.size + 1, 0, none⟩) 1 1] 33)).alloc (.cells #[.int .i64 5, .string (B []), .int .i64 0, .slice none 0 0] 29)).alloc (.cells #[.int .i64 3, .string (B []), .int .i64 0, .slice (some ⟨w.heap.size + 1 + 1 + 1, 0, none⟩) 1 1] 29)).alloc (.cells #[.int .i64 4, .string (B [99]), .int .i64 0, .slice none 0 0] 29) := ⟨_, rfl⟩
  have A3 := aw8_lay w w3 hw3
  have HW := hid hw3
  clear hw3
  obtain ⟨X, hX⟩ : ∃ X, X = w.heap.size := ⟨_, rfl⟩
  rw [← hX] at A3
  have HX := hid hX
  clear hX
  obtain ⟨z1, z2, z3, z4, z5⟩ := w8w
  have hrX : ∀ (W : World) (P : Nat), Box4 W P (.int .i64 4) (.string (B [99])) (.int .i64 0) (.slice none 0 0) 29 → Rep none' W wX.dat [.int .i64 5, .string (B []), .int .i64 0, .slice (some ⟨P, 0, none⟩) 1 1] := fun W P h => rep_one (t := wC) (rep_leaf 4 [99] 0) (fun x => x) h 5 [] 0
  have C1 := fun (W : World) (P : Nat) (hA : Aw8 X w W) (hP : Box4 W P (.int .i64 4) (.string (B [99])) (.int .i64 0) (.slice none 0 0) 29) => subst_any none' wX wId wFun (by omega) (by omega) (by omega) W (fun _ x => x.elim) _ _ _ (hrX W P hP) hA.repI hA.repS
  rw [w8a.1, w8a.2] at C1
  have C2 := fun (W : World) (P : Nat) (hA : Aw8 X w W) (hP : Box4 W P (.int .i64 4) (.string (B [99])) (.int .i64 0) (.slice none 0 0) 29) => subst_any none' wX wC wFun (by omega) (by omega) (by omega) W (fun _ x => x.elim) _ _ _ (hrX W P hP) (rep_leaf 4 [99] 0) hA.repS
  rw [w8b, w8b2] at C2
  have C3 := fun (W : World) (P : Nat) (hA : Aw8 X w W) (hP : Box4 W P (.int .i64 4) (.string (B [99])) (.int .i64 0) (.slice none 0 0) 29) => applyF_any none' wId wFun [wC] (by omega) (by intro u hu; obtain rfl := List.mem_singleton.1 hu; omega) (by omega) (by simp) W (fun _ x => x.elim) _ _ (some ⟨P, 0, none⟩) 1 hA.repI hA.repS (repE_one (rep_leaf 4 [99] 0) (fun x => x) hP)
  rw [w8c, w8c2] at C3
  have C4 := fun (W : World) (cs : List Value) (hR : Rep none' W wPi.dat cs) => instantiate_any none' wPi wC (by omega) (by omega) W (fun _ x => x.elim) cs _ hR (rep_leaf 4 [99] 0)
  rw [w8d, w8d2] at C4
  simp only [List.length_cons, List.length_nil, Nat.zero_add] at C3
  have hal : ∀ W : World, Upto none' W (W.alloc (.cells #[.int .i64 4, .string (B [99]), .int .i64 0, .slice none 0 0] 29)) := fun W => (Upto.refl none' W).alloc _
  go_enter Tryz.func26, Tryz.ntmps26
  go_upto_region 5 with fail
  rw [← show B [] = { data := #[] } from rfl, ← show B [110, 97, 116] = { data := #[110, 97, 116] } from rfl, ← show B [99] = { data := #[99] } from rfl, ← HW.out, ← HX.out]
  obtain ⟨b0, b1, b2, b3⟩ := A3.cb.cells
  obtain ⟨i0, i1, i2, i3⟩ := A3.idb.cells
  obtain ⟨s0, s1⟩ := A3.fn.cells
  have q1 := A3.cb.lt
  have q2 := A3.idb.lt
  have q3 := A3.fn.lt
  go_wp2_with fail
  (with_reducible refine (C1 _ w3.heap.size (A3.on (hal w3)) (Box4.at_new rfl)).mono ?_)
  rintro e w4 h4
  obtain ⟨a4, cap4, rfl, hR4, hU4⟩ := givesE_mk h4
  have A4 := (A3.on (hal w3)).on hU4
  obtain ⟨w5, hw5⟩ : ∃ w5, w5 = w4.alloc (.cells #[.int .i64 4, .string (B [99]), .int .i64 0, .slice a4 0 cap4] 29) := ⟨_, rfl⟩
  have hUa : Upto none' w4 w5 := by rw [hw5]; exact (Upto.refl none' _).alloc _
  have ht5 : Box4 w5 w4.heap.size (.int .i64 4) (.string (B [99])) (.int .i64 0) (.slice a4 0 cap4) 29 := by rw [hw5]; exact Box4.at_new rfl
  have A5 := A4.on hUa
  obtain ⟨P5, hP5⟩ : ∃ P, P = w4.heap.size := ⟨_, rfl⟩
  rw [← hP5] at ht5
  have HW5 := hid hw5
  have HP5 := hid hP5
  clear hw5 hP5 hUa A4 A3 h4 hR4 hU4 b0 b1 b2 b3 i0 i1 i2 i3 s0 s1 q1 q2 q3 C1
  simp only [List.length_nil]
  go_upto_region 6 with fail
  rw [← HW5.out, ← HP5.out]
  obtain ⟨b0, b1, b2, b3⟩ := A5.cb.cells
  obtain ⟨s0, s1⟩ := A5.fn.cells
  have q1 := A5.cb.lt
  have q3 := A5.fn.lt
  go_wp2_with fail
  (with_reducible refine (C2 _ w5.heap.size (A5.on (hal w5)) (Box4.at_new rfl)).mono ?_)
  rintro e w6 ⟨k6, i6, n6, a6, len6, cap6, rfl, hR6, hU6⟩
  obtain ⟨w7, hw7⟩ : ∃ w7, w7 = w6.alloc (.cells #[.int .i64 k6, .string (B n6), .int .i64 i6, .slice a6 len6 cap6] 29) := ⟨_, rfl⟩
  have hUa : Upto none' w6 w7 := by rw [hw7]; exact (Upto.refl none' _).alloc _
  have hU57 := ((hal w5).and hU6).and hUa
  have A7 := A5.on hU57
  have ht7 := ht5.kept hU57
  have HW7 := hid hw7
  clear hw7 hUa hU57 A5 ht5 hR6 hU6 b0 b1 b2 b3 s0 s1 q1 q3 C2
  go_upto_region 7 with fail
  rw [← HW7.out]
  obtain ⟨b0, b1, b2, b3⟩ := A7.cb.cells
  obtain ⟨i0, i1, i2, i3⟩ := A7.idb.cells
  obtain ⟨s0, s1⟩ := A7.fn.cells
  have q1 := A7.cb.lt
  have q2 := A7.idb.lt
  have q3 := A7.fn.lt
  go_wp2_with fail
  (with_reducible refine (C3 _ w7.heap.size (A7.on (hal w7)) (Box4.at_new rfl)).mono ?_)
  rintro e w8 h8
  obtain ⟨a8, cap8, rfl, hR8, hU8⟩ := givesE_mk h8
  obtain ⟨w9, hw9⟩ : ∃ w9, w9 = w8.alloc (.cells #[.int .i64 4, .string (B [99]), .int .i64 0, .slice a8 0 cap8] 29) := ⟨_, rfl⟩
  have hUa : Upto none' w8 w9 := by rw [hw9]; exact (Upto.refl none' _).alloc _
  have hx9 : Box4 w9 w8.heap.size (.int .i64 4) (.string (B [99])) (.int .i64 0) (.slice a8 0 cap8) 29 := by rw [hw9]; exact Box4.at_new rfl
  have hU79 := ((hal w7).and hU8).and hUa
  have A9 := A7.on hU79
  have ht9 := ht7.kept hU79
  obtain ⟨P9, hP9⟩ : ∃ P, P = w8.heap.size := ⟨_, rfl⟩
  rw [← hP9] at hx9
  have HW9 := hid hw9
  have HP9 := hid hP9
  clear hw9 hP9 hUa hU79 A7 ht7 h8 hR8 hU8 b0 b1 b2 b3 i0 i1 i2 i3 s0 s1 q1 q2 q3 C3
  simp only [List.length_nil]
  go_upto_region 8 with fail
  rw [← HW9.out, ← HP9.out]
  obtain ⟨b0, b1, b2, b3⟩ := A9.cb.cells
  have q1 := A9.cb.lt
  have q1' : X + 1 + 1 + 1 + 1 + 1 < w9.heap.size + 1 := by omega
  have q1'' : X + 1 + 1 + 1 + 1 + 1 < w9.heap.size + 1 + 1 := by omega
  obtain ⟨w10, hw10⟩ : ∃ w10, w10 = (w9.alloc (.cells #[.int .i64 5, .string (B []), .int .i64 0, .slice none 0 0] 29)).alloc (.cells #[.int .i64 4, .string (B [99]), .int .i64 0, .slice none 0 0, .int .i64 4, .string (B [118]), .int .i64 0, .slice (some ⟨w9.heap.size, 0, none⟩) 1 1] 29) := ⟨_, rfl⟩
  have hUb : Upto none' w9 w10 := by rw [hw10]; exact ((Upto.refl none' _).alloc _).alloc _
  have hRp : Rep none' w10 wPi.dat [.int .i64 2, .string (B []), .int .i64 0, .slice (some ⟨w9.heap.size + 1, 0, none⟩) 2 2] := by
    refine rep_tm.2 ⟨_, 2, rfl, Nat.le_refl _, ?_⟩
    refine rep_two (T := 29) (rep_leaf 4 [99] 0) (rep_one (b := w9.heap.size) (t := .mk 5 [] 0 []) (T := 29) (rep_leaf 5 [] 0) (fun x => x) ?_ 4 [118] 0) (fun x => x) ?_
    · rw [hw10]; exact (Box4.at_new rfl).kept ((Upto.refl none' _).alloc _)
    · rw [hw10]
      have := heap_alloc_new (w9.alloc (.cells #[.int .i64 5, .string (B []), .int .i64 0, .slice none 0 0] 29)) (.cells #[.int .i64 4, .string (B [99]), .int .i64 0, .slice none 0 0, .int .i64 4, .string (B [118]), .int .i64 0, .slice (some ⟨w9.heap.size, 0, none⟩) 1 1] 29)
      rw [World.size_alloc] at this
      exact this
  have HW10 := hid hw10
  clear hw10
  go_wp2_with fail
  rw [← show B [] = { data := #[] } from rfl, ← show B [118] = { data := #[118] } from rfl, ← HW10.out]
  (with_reducible refine (C4 _ _ hRp).mono ?_)
  rintro e w11 h11
  obtain ⟨a11, cap11, rfl, hR11, hU11⟩ := givesE_mk h11
  have hU911 := hUb.and hU11
  have A11 := A9.on hU911
  have ht11 := ht9.kept hU911
  have hx11 := hx9.kept hU911
  obtain ⟨ra, rc, re, _, hE11⟩ := rep_tm.1 hR11
  simp only [List.cons.injEq, Value.slice.injEq, and_true, true_and] at re
  obtain ⟨rfl, _, rfl⟩ := re
  obtain ⟨gb, go', gk, gn, gi, gs, gc, rfl, _, _, g0, g1, g2, g3, hRg⟩ := arg_tm hE11 0 (by simp)
  simp only [List.getElem_cons_zero] at hRg
  obtain ⟨_, _, re, _, _⟩ := rep_tm.1 hRg
  simp only [List.cons.injEq, Value.int.injEq, Value.string.injEq, Value.slice.injEq, and_true, true_and] at re
  obtain ⟨_, en, _, _⟩ := re
  rw [en] at g1
  simp only [Nat.zero_mul, Nat.add_zero] at g1
  obtain ⟨w12, hw12⟩ : ∃ w12, w12 = w11.alloc (.cells #[.int .i64 4, .string (B [118]), .int .i64 0, .slice (some ⟨gb, go', none⟩) 1 cap11] 29) := ⟨_, rfl⟩
  have hUc : Upto none' w11 w12 := by rw [hw12]; exact (Upto.refl none' _).alloc _
  have hy12 : Box4 w12 w11.heap.size (.int .i64 4) (.string (B [118])) (.int .i64 0) (.slice (some ⟨gb, go', none⟩) 1 cap11) 29 := by rw [hw12]; exact Box4.at_new rfl
  have ht12 := ht11.kept hUc
  have hx12 := hx11.kept hUc
  have G1 := hUc.cell g1 (fun x => x)
  have A12 := A11.on hUc
  have HW12 := hid hw12
  clear hw12 g0 g1 g2 g3 hRg hE11 hR11 A9 A11 ht9 ht11 hx9 hx11 b0 b1 b2 b3 q1 q1' q1'' en hUc hU911 C4
  simp only [List.length_cons, List.length_nil, Nat.zero_add]
  go_upto_region 9 with fail
  rw [← HW12.out]
  obtain ⟨_, t1, _, _⟩ := ht12.cells
  obtain ⟨_, x1, _, _⟩ := hx12.cells
  obtain ⟨_, y1, _, y3⟩ := hy12.cells
  go_wp2_with fail
  go_ret
  exact ⟨rfl, A12.up⟩
end Go.Proofs.YtdomloghcpfdjaaGreatDoor
