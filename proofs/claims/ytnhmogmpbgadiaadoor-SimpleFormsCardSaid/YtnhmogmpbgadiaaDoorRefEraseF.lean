/- The erasure of a type or a kind, or its error: the reference's Erase. -/
import Derived.Test.YtnhmogmpbgadiaaDoorDC
import Derived.Test.YtnhmogmpbgadiaaDoorRefErased
import Derived.Test.YtnhmogmpbgadiaaDoorCH
namespace Go.Proofs.YtnhmogmpbgadiaaDoor
open Go.RowKit Go.LF
set_option maxRecDepth 100000 in
set_option maxHeartbeats 8000000 in
theorem refEraseF_any (t : Tm) (hs : t.wt ≤ 100000) (w : World) (cs : List Value) (h : Rep none' w t.dat cs) :
    Calls Tryd.prog 29 #[.agg cs.toArray] w (GivesS t.erV (.int .i64 t.erE) w) := by
  have H1 := fun W hc => refWellFormed_any t (by omega) W cs hc
  have H2 := fun W hc => refIsType_any t (by omega) W cs hc
  have H3 := fun W hc => refIsKind_any t (by omega) W cs hc
  have H4 := fun (e : t.wf = 0) W hc => erased_any t (by have := Tm.size_le_wt t; omega) (Tm.wf_any3 e).1 W cs hc
  have hsm : t.wf = 0 → t.small = true := Tm.wf_small
  obtain ⟨k, n, i, ts, a, cap, ht, rfl, hcap, _⟩ := tm_open h
  obtain ⟨E, hE⟩ : ∃ E, E = t.erE := ⟨_, rfl⟩
  obtain ⟨X, hX⟩ : ∃ X, X = t.erV := ⟨_, rfl⟩
  rw [← hE, ← hX]
  unfold Tm.erV at hX
  rw [← hE] at hX
  unfold Tm.erE at hE
  generalize t.wf = wf at *
  generalize t.small = sm at *
  generalize t.isTyp = ty at *
  generalize t.isKnd = kd at *
  generalize t.er = r at *
  have HX := hid (And.intro hE hX)
  clear hE hX ht hcap
  obtain ⟨w1, hw1⟩ : ∃ w1, w1 = (w.alloc (.cells #[.int .i64 k, .string (B n), .int .i64 i, .slice a ts.length cap] 29)).alloc (.cells #[.string (B []), .slice none 0 0] 43) := ⟨_, rfl⟩
  have hU1 : Upto none' w w1 := by rw [hw1]; exact ((Upto.refl none' w).alloc _).alloc _
  have hb1 : Box4 w1 w.heap.size (.int .i64 k) (.string (B n)) (.int .i64 i) (.slice a ts.length cap) 29 := by rw [hw1]; exact (Box4.at_new rfl).kept ((Upto.refl none' _).alloc _)
  have hr1 : Box2 w1 (w.heap.size + 1) (.string (B [])) (.slice none 0 0) 43 := by rw [hw1]; exact Box2.at_new (by simp)
  have HW := hid hw1
  clear hw1
  generalize ts.length = tl at *
  have RN : ∀ W9 (e : Value), Upto none' w W9 → GivesS (.mk [] []) e w (.returned (.tuple #[.agg #[.string (B []), .slice none 0 0], e])) W9 := fun W9 e hU => ⟨[], none, 0, 0, rfl, rep_sm.2 ⟨none, 0, rfl, Nat.le_refl _, by simp only [List.map_nil, RepE]⟩, hU⟩
  by_cases hwf : wf = 0
  case neg =>
    have hwf' : (wf != 0) = true := by simpa using hwf
    have hE0 : E = wf := by rw [HX.out.1, if_pos hwf]
    have hX0 : X = .mk [] [] := by rw [HX.out.2, if_neg (by rw [hE0]; exact hwf)]
    have H0 := hid (And.intro hE0 hX0)
    clear hE0 hX0 hwf
    go_enter Tryd.func29, Tryd.ntmps29
    go_wp2_with fail
    rw [← show B [] = { data := #[] } from rfl, ← HW.out]
    refine (H1 w1 (h.on hU1)).mono ?_
    rintro e w2 ⟨rfl, hU2⟩
    have hr2 := hr1.kept hU2
    have hw2 := hU1.and hU2
    obtain ⟨x0, x1⟩ := hr2.cells
    obtain ⟨y0, y1⟩ := hr2.frozens
    have hrz := hr2.lt
    have hset := hr2.set (d0 := .string (B [])) (d1 := .slice none 0 0)
    obtain ⟨e0, e1⟩ := hset.1.cells
    have HE := hid (And.intro e0 (And.intro e1 hset.2))
    clear e0 e1 hset
    go_wp2_with fail
    obtain ⟨e0, e1, hset⟩ := HE.out
    refine bodyPost_ret (v := .tuple #[.agg #[.string (B []), .slice none 0 0], .int .i64 wf]) ?_ rfl ?_
    · simp [results, Tryd.f29, go_sem, e0, e1]
    · rw [H0.out.1, H0.out.2]; exact RN _ _ (hw2.trans hset (fun b hb e => by omega))
  subst hwf
  obtain rfl := hsm rfl
  simp only [Bool.and_true] at H2 H3
  by_cases htk : (ty || kd) = true
  case neg =>
    obtain ⟨rfl, rfl⟩ : ty = false ∧ kd = false := by cases ty <;> cases kd <;> simp_all
    have hE0 : E = 32 := by rw [HX.out.1]; rfl
    have hX0 : X = .mk [] [] := by rw [HX.out.2, if_neg (by rw [hE0]; omega)]
    have H0 := hid (And.intro hE0 hX0)
    clear hE0 hX0 htk
    go_enter Tryd.func29, Tryd.ntmps29
    go_wp2_with fail
    rw [← show B [] = { data := #[] } from rfl, ← HW.out]
    refine (H1 w1 (h.on hU1)).mono ?_
    rintro e w2 ⟨rfl, hU2⟩
    have hb2 := hb1.kept hU2
    have b2 := hb2.cells
    go_wp2_with fail
    refine (H2 w2 (h.on (hU1.and hU2))).mono ?_
    rintro e w3 ⟨rfl, hU3⟩
    have hb3 := hb2.kept hU3
    have b3 := hb3.cells
    go_wp2_with fail
    refine (H3 w3 (h.on ((hU1.and hU2).and hU3))).mono ?_
    rintro e w4 ⟨rfl, hU4⟩
    have hr4 := ((hr1.kept hU2).kept hU3).kept hU4
    have hw4 := ((hU1.and hU2).and hU3).and hU4
    obtain ⟨x0, x1⟩ := hr4.cells
    obtain ⟨y0, y1⟩ := hr4.frozens
    have hrz := hr4.lt
    have hset := hr4.set (d0 := .string (B [])) (d1 := .slice none 0 0)
    obtain ⟨e0, e1⟩ := hset.1.cells
    have HE := hid (And.intro e0 (And.intro e1 hset.2))
    clear e0 e1 hset
    go_wp2_with fail
    obtain ⟨e0, e1, hset⟩ := HE.out
    refine bodyPost_ret (v := .tuple #[.agg #[.string (B []), .slice none 0 0], .int .i64 32]) ?_ rfl ?_
    · simp [results, Tryd.f29, go_sem, e0, e1]
    · rw [H0.out.1, H0.out.2]; exact RN _ _ (hw4.trans hset (fun b hb e => by omega))
  have hE0 : E = 0 := by rw [HX.out.1]; cases ty <;> cases kd <;> simp_all
  have hX0 : X = r := by rw [HX.out.2, if_pos hE0]
  subst hE0 hX0
  clear HX RN
  cases ty
  · obtain rfl : kd = true := by simpa using htk
    go_enter Tryd.func29, Tryd.ntmps29
    go_wp2_with fail
    rw [← show B [] = { data := #[] } from rfl, ← HW.out]
    refine (H1 w1 (h.on hU1)).mono ?_
    rintro e w2 ⟨rfl, hU2⟩
    have hb2 := hb1.kept hU2
    have b2 := hb2.cells
    go_wp2_with fail
    refine (H2 w2 (h.on (hU1.and hU2))).mono ?_
    rintro e w3 ⟨rfl, hU3⟩
    have hb3 := hb2.kept hU3
    have b3 := hb3.cells
    go_wp2_with fail
    refine (H3 w3 (h.on ((hU1.and hU2).and hU3))).mono ?_
    rintro e w4 ⟨rfl, hU4⟩
    have hb4 := hb3.kept hU4
    have b4 := hb4.cells
    have hw4 := ((hU1.and hU2).and hU3).and hU4
    have hr4 := ((hr1.kept hU2).kept hU3).kept hU4
    go_wp2_with fail
    refine (H4 trivial _ (h.on hw4)).mono ?_
    rintro e w5 ⟨f5, a5, len5, cap5, rfl, hR5, hU5⟩
    have hr5 := hr4.kept hU5
    have hw5 := hw4.and hU5
    have hz4 := hr4.lt
    obtain ⟨x0, x1⟩ := hr5.cells
    obtain ⟨y0, y1⟩ := hr5.frozens
    have hrz := hr5.lt
    have hset := hr5.set (d0 := .string (B f5)) (d1 := .slice a5 len5 cap5)
    obtain ⟨e0, e1⟩ := hset.1.cells
    have HE := hid (And.intro e0 (And.intro e1 hset.2))
    clear e0 e1 hset
    go_wp2_with fail
    obtain ⟨e0, e1, hset⟩ := HE.out
    refine bodyPost_ret (v := .tuple #[.agg #[.string (B f5), .slice a5 len5 cap5], .int .i64 0]) ?_ rfl ?_
    · simp [results, Tryd.f29, go_sem, e0, e1]
    · exact ⟨f5, a5, len5, cap5, rfl, Rep.weaken (fun b _ e => by omega) _ _ (Rep.keep hset (fun b e => by omega) _ _ hR5), hw5.trans hset (fun b hb e => by omega)⟩
  ·
    go_enter Tryd.func29, Tryd.ntmps29
    go_wp2_with fail
    rw [← show B [] = { data := #[] } from rfl, ← HW.out]
    refine (H1 w1 (h.on hU1)).mono ?_
    rintro e w2 ⟨rfl, hU2⟩
    have hb2 := hb1.kept hU2
    have b2 := hb2.cells
    go_wp2_with fail
    refine (H2 w2 (h.on (hU1.and hU2))).mono ?_
    rintro e w3 ⟨rfl, hU3⟩
    have hb3 := hb2.kept hU3
    have b3 := hb3.cells
    go_wp2_with fail
    have hw4 := (hU1.and hU2).and hU3
    have hr4 := (hr1.kept hU2).kept hU3
    refine (H4 trivial _ (h.on hw4)).mono ?_
    rintro e w5 ⟨f5, a5, len5, cap5, rfl, hR5, hU5⟩
    have hr5 := hr4.kept hU5
    have hw5 := hw4.and hU5
    have hz4 := hr4.lt
    obtain ⟨x0, x1⟩ := hr5.cells
    obtain ⟨y0, y1⟩ := hr5.frozens
    have hrz := hr5.lt
    have hset := hr5.set (d0 := .string (B f5)) (d1 := .slice a5 len5 cap5)
    obtain ⟨e0, e1⟩ := hset.1.cells
    have HE := hid (And.intro e0 (And.intro e1 hset.2))
    clear e0 e1 hset
    go_wp2_with fail
    obtain ⟨e0, e1, hset⟩ := HE.out
    refine bodyPost_ret (v := .tuple #[.agg #[.string (B f5), .slice a5 len5 cap5], .int .i64 0]) ?_ rfl ?_
    · simp [results, Tryd.f29, go_sem, e0, e1]
    · exact ⟨f5, a5, len5, cap5, rfl, Rep.weaken (fun b _ e => by omega) _ _ (Rep.keep hset (fun b e => by omega) _ _ hR5), hw5.trans hset (fun b hb e => by omega)⟩
end Go.Proofs.YtnhmogmpbgadiaaDoor
