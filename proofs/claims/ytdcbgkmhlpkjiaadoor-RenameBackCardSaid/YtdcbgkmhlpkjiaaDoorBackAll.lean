/- For every input RenameBack returns true, and each argument reads afterwards as it read before; the package's names of binders are as its own text lays them (the card ties that). No other conditions. -/
import Derived.Test.YtdcbgkmhlpkjiaaDoorRen06A
import Derived.Test.YtdcbgkmhlpkjiaaDoorMade05All
import Derived.Test.YtdcbgkmhlpkjiaaDoorRefSame
import Derived.Test.YtdcbgkmhlpkjiaaDoorArgs
import Derived.Test.YtdcbgkmhlpkjiaaDoorCards
import Derived.Test.YtdcbgkmhlpkjiaaDoorTie
/- RenameBack, RenameInverts, RenameComposes, as plain data. -/
namespace Go.LF.Tm

theorem mvok_of (f : To) (t : Tm) (h : ∀ x ∈ nodes 0 t, x.k = 5 → x.b ≤ x.i → (f (x.i - x.b)).2 = true ∧ 0 ≤ (f (x.i - x.b)).1 ∧ (f (x.i - x.b)).1 ≤ 1048576 - x.b) : mvok f 0 t = true := by
  rw [mvok_nodes, List.all_eq_true]
  intro x hx
  unfold oki
  by_cases hk : x.k = 5 ∧ x.b ≤ x.i
  · obtain ⟨h1, h2, h3⟩ := h x hx hk.1 hk.2
    simp [h1, h2, h3]
  · have : (x.k == 5 && decide (x.b ≤ x.i)) = false := by rw [Bool.eq_false_iff]; intro e; exact hk (by simpa using e)
    rw [this]; rfl
theorem mvok_mv_of (f g : To) (t : Tm) (h : ∀ x ∈ nodes 0 t, x.k = 5 → x.b ≤ x.i → 0 ≤ (f (x.i - x.b)).1 ∧ (g (f (x.i - x.b)).1).2 = true ∧ 0 ≤ (g (f (x.i - x.b)).1).1 ∧ (g (f (x.i - x.b)).1).1 ≤ 1048576 - x.b) : mvok g 0 (mv f 0 t) = true := by
  refine mvok_of g _ ?_
  rw [nodes_mv]
  intro y hy
  obtain ⟨x, hx, rfl⟩ := List.mem_map.1 hy
  simp only
  intro h5 hbi
  unfold mvi at hbi ⊢
  by_cases hk : x.k = 5 ∧ x.b ≤ x.i
  · rw [if_pos hk]
    obtain ⟨h1, h2, h3, h4⟩ := h x hx hk.1 hk.2
    rw [show (f (x.i - x.b)).1 + x.b - x.b = (f (x.i - x.b)).1 by omega]
    exact ⟨h2, h3, h4⟩
  · rw [if_neg hk] at hbi
    exact absurd ⟨h5, hbi⟩ hk
theorem mvi_eq {f g : To} {x : Nd0} (h : x.k = 5 → x.b ≤ x.i → (f (x.i - x.b)).1 = (g (x.i - x.b)).1) : mvi f x.b x.k x.i = mvi g x.b x.k x.i := by
  unfold mvi
  by_cases hk : x.k = 5 ∧ x.b ≤ x.i
  · rw [if_pos hk, if_pos hk, h hk.1 hk.2]
  · rw [if_neg hk, if_neg hk]
/-- The free variables of a term that a law makes, and the binders around its nodes. -/
theorem FitsA.free {t : Tm} {sz v m : Nat} (h : FitsA t sz v m) (hs : sz ≤ 4096) : ∀ x ∈ nodes 0 t, x.k = 5 → x.b ≤ x.i → 0 ≤ x.i - x.b ∧ x.i - x.b < v ∧ 0 ≤ x.b ∧ x.b ≤ 4096 := by
  intro x hx hk hb
  have h1 := free_lt t x hx hk
  have h2 := nodes_b t 0 x hx
  have := h.scope
  have := h.size
  omega
theorem shiftF_small {a c v : Int} (ha : 0 ≤ a) (ha2 : a ≤ 1048576) (hv : 0 ≤ v) (hv2 : v ≤ 1048576) : shiftF a c v = (if v < c then v else v + a, true) := by
  unfold shiftF
  by_cases h : v < c
  · rw [if_pos h, if_pos h]
  · rw [if_neg h, if_neg h, decide_eq_true ha2]
    congr 1
    unfold Go.RowKit.wrap64
    omega

theorem back {t : Tm} {sz m : Nat} (h : FitsA t sz 5 m) (hs : sz ≤ 4096) (a b c : Nat) (ha : a ≤ 8) (hb : b ≤ 8) (hc : c ≤ 6) :
    ∃ x y : Tm, t.shiftE a c = 0 ∧ t.shiftT a c = x ∧ x.lowerB c a = true ∧ x.lowerT c a = t ∧ x.shiftE b c = 0 ∧ x.shiftT b c = y ∧ t.shiftE ((a + b : Nat) : Int) c = 0 ∧ t.shiftT ((a + b : Nat) : Int) c = y ∧ x.wt = t.wt ∧ y.wt = t.wt := by
  have hf := h.free hs
  have hw := h.wf hs
  have sh : ∀ (t : Tm) (d : Nat), t.wf = 0 → mvok (shiftF d c) 0 t = true → t.shiftE d c = 0 ∧ t.shiftT d c = mv (shiftF d c) 0 t := by
    intro t d hw hm
    have e : t.shiftE d c = 0 := by unfold shiftE; rw [hw, if_neg (by omega), if_neg (by omega), hm]; rfl
    exact ⟨e, by unfold shiftT; rw [e, if_pos rfl]⟩
  have ok1 : ∀ d : Nat, d ≤ 100 → mvok (shiftF d c) 0 t = true := by
    intro d hd
    refine mvok_of _ _ (fun x hx hk hb => ?_)
    have := hf x hx hk hb
    rw [shiftF_small (by omega) (by omega) (by omega) (by omega)]
    refine ⟨rfl, ?_⟩
    simp only
    split <;> omega
  have wx : (mv (shiftF a c) 0 t).wf = 0 := wf_mv _ _ hw (ok1 a (by omega))
  have ok2 : mvok (shiftF b c) 0 (mv (shiftF a c) 0 t) = true := by
    refine mvok_mv_of _ _ _ (fun x hx hk hb => ?_)
    have := hf x hx hk hb
    rw [shiftF_small (a := a) (by omega) (by omega) (by omega) (by omega)]
    simp only
    by_cases hv : x.i - x.b < (c : Int)
    · rw [if_pos hv, shiftF_small (by omega) (by omega) (by omega) (by omega), if_pos hv]
      refine ⟨by omega, rfl, ?_, ?_⟩ <;> simp only <;> omega
    · rw [if_neg hv, shiftF_small (by omega) (by omega) (by omega) (by omega), if_neg (by omega)]
      refine ⟨by omega, rfl, ?_, ?_⟩ <;> simp only <;> omega
  have nn : ∀ x ∈ nodes 0 t, x.k = 5 → x.b ≤ x.i → 0 ≤ (shiftF a c (x.i - x.b)).1 := by
    intro x hx hk hb
    have := hf x hx hk hb
    rw [shiftF_small (by omega) (by omega) (by omega) (by omega)]
    simp only
    split <;> omega
  have ok3 : mvok (lowerF c a) 0 (mv (shiftF a c) 0 t) = true := by
    refine mvok_mv_of _ _ _ (fun x hx hk hb => ?_)
    have := hf x hx hk hb
    rw [shiftF_small (a := a) (by omega) (by omega) (by omega) (by omega)]
    simp only
    unfold lowerF
    by_cases hv : x.i - x.b < (c : Int)
    · rw [if_pos hv, if_pos hv]
      refine ⟨by omega, rfl, ?_, ?_⟩ <;> simp only <;> omega
    · rw [if_neg hv, if_neg (by omega)]
      refine ⟨by omega, by simp only [decide_eq_true_eq]; omega, ?_, ?_⟩ <;> simp only <;> omega
  obtain ⟨e1, e2⟩ := sh t a hw (ok1 a (by omega))
  obtain ⟨e3, e4⟩ := sh _ b wx ok2
  obtain ⟨e5, e6⟩ := sh t (a + b) hw (ok1 (a + b) (by omega))
  have hlB : (mv (shiftF a c) 0 t).lowerB c a = true := by unfold lowerB; rw [ok3, wx, decide_eq_true (by omega), decide_eq_true (by omega)]; rfl
  refine ⟨_, _, e1, e2, hlB, ?_, e3, e4, e5, ?_, wt_mv _ _ _, by rw [wt_mv, wt_mv]⟩
  · unfold lowerT
    rw [hlB, if_pos rfl, mv_mv _ _ _ _ nn]
    refine mv_id _ _ _ (fun x hx => ?_)
    refine (mvi_eq (g := fun i => (i, true)) (fun hk hb => ?_)).trans (mvi_id _ _ _)
    have := hf x hx hk hb
    rw [shiftF_small (by omega) (by omega) (by omega) (by omega)]
    simp only
    unfold lowerF
    by_cases hv : x.i - x.b < (c : Int)
    · rw [if_pos hv, if_pos hv]
    · rw [if_neg hv, if_neg (by omega)]; simp only; omega
  · rw [e6, mv_mv _ _ _ _ nn]
    refine mv_congr _ _ _ _ (fun x hx => mvi_eq (fun hk hb => ?_))
    have := hf x hx hk hb
    rw [shiftF_small (by omega) (by omega) (by omega) (by omega), shiftF_small (a := a) (by omega) (by omega) (by omega) (by omega)]
    simp only
    by_cases hv : x.i - x.b < (c : Int)
    · rw [if_pos hv, if_pos hv, shiftF_small (by omega) (by omega) (by omega) (by omega), if_pos hv]
    · rw [if_neg hv, if_neg hv, shiftF_small (by omega) (by omega) (by omega) (by omega), if_neg (by omega)]; simp only; omega
end Go.LF.Tm

/- RenameBack: its walk. -/
namespace Go.Proofs.YtdcbgkmhlpkjiaaDoor
open Go.RowKit Go.LF

set_option maxRecDepth 100000 in
set_option maxHeartbeats 8000000 in
theorem renBack_walk (l : List Int) (a : Option Addr) (len cap : Nat) (hl : l.length = len) (hlen : len ≤ 17592186044416) (n k fr : Int) (w : World) (hE : RepE none' w 1 (l.map (Dat.int .i64)) a 0) (hN : NamesRead w) :
    Calls Tryd.prog 14 #[.slice a len cap, .int .i64 n, .int .i64 k, .int .i64 fr] w fun e w' => e = .returned (.bool true) ∧ Upto none' w w' := by
  have hT := tape_new (w := w) (cap := cap) (U := 46) hl hlen hE
  have hN1 : NamesOk w.heap.size (w.alloc (.cells #[.slice a len cap, .int .i64 0] 46)) := hN.ok ((Upto.refl none' w).alloc _) (Nat.le_refl _)
  have HA := anyTerm_any 3 (by omega) 5 2 (by omega) (by omega) w.heap.size _ hT hN1
  have HC := fun (x n : Int) h0 h1 w => cut_any x n h0 h1 w
  clear hT hN1 hE hN hl hlen
  go_enter Tryd.func14, Tryd.ntmps14
  go_wp2_with fail
  refine HA.mono ?_
  rintro e w1 ⟨k1, i1, n1, a1, len1, cap1, t, rfl, hR, hF, _, _, hU⟩
  have hU1 : Upto none' w w1 := ((Upto.refl none' w).alloc _).trans hU (fun b hb e => by simp only [isT] at e; omega)
  have hR1 := rep_pre hR
  clear HA hU hR
  obtain ⟨w2, hw2⟩ : ∃ w2, w2 = w1.alloc (.cells #[.int .i64 k1, .string (B n1), .int .i64 i1, .slice a1 len1 cap1] 25) := ⟨_, rfl⟩
  have hU2 : Upto none' w1 w2 := by rw [hw2]; exact (Upto.refl none' w1).alloc _
  have hA2 : Box4 w2 w1.heap.size (.int .i64 k1) (.string (B n1)) (.int .i64 i1) (.slice a1 len1 cap1) 25 := by rw [hw2]; exact Box4.at_new rfl
  have hR2 := hR1.on hU2
  have hUw2 := hU1.and hU2
  have HW2 := hid hw2
  clear hw2 hR1 hU1 hU2
  go_wp2_with fail
  rw [← HW2.out]
  refine (HC _ 9 (by omega) (by omega) _).mono ?_
  rintro e wd ⟨⟨ca, hca, rfl⟩, rfl⟩
  go_wp2_with fail
  refine (HC _ 9 (by omega) (by omega) _).mono ?_
  rintro e wd2 ⟨⟨cb, hcb, rfl⟩, rfl⟩
  go_wp2_with fail
  refine (HC _ 7 (by omega) (by omega) _).mono ?_
  rintro e wd3 ⟨⟨cc, hcc, rfl⟩, rfl⟩
  obtain ⟨x, y, e1, e2, e3, e4, e5, e6, e7, e8, hwx, hwy⟩ := Tm.back hF (by omega) ca cb cc (by omega) (by omega) (by omega)
  have hwt : t.wt ≤ 1000 := by have := hF.wt; omega
  have hst : t.size ≤ 1000000 := by have := Tm.size_le_wt t; omega
  have hsy : y.size ≤ 1000000 := by have := Tm.size_le_wt y; omega
  rw [Int.natCast_add] at e7 e8
  have S1 := fun w' cs h => shift_any t (by omega) (ca : Int) (cc : Int) w' cs h
  have S2 := fun w' cs h => lower_any x (by omega) (cc : Int) (ca : Int) (by omega) w' cs h
  have S3 := fun w' cs h => shift_any x (by omega) (cb : Int) (cc : Int) w' cs h
  have S4 := fun w' cs h => shift_any t (by omega) ((ca : Int) + (cb : Int)) (cc : Int) w' cs h
  have Q1 := fun w' cs ds h h' => refSame_any t hst t w' cs ds h h'
  have Q2 := fun w' cs ds h h' => refSame_any y hsy y w' cs ds h h'
  rw [e1, e2] at S1
  rw [e3, e4] at S2
  rw [e5, e6] at S3
  rw [e7, e8] at S4
  rw [Tm.same_refl] at Q1 Q2
  have hca0 : (0 : Int) ≤ (ca : Int) := by omega
  have hcb0 : (0 : Int) ≤ (cb : Int) := by omega
  clear e1 e2 e3 e4 e5 e6 e7 e8 hwx hwy hF hwt hst hsy HC
  obtain ⟨x0, x1, x2, x3⟩ := hA2.cells
  go_wp2_with fail
  refine (S1 _ _ hR2).mono ?_
  rintro e w3 ⟨k3, i3, n3, a3, len3, cap3, rfl, hR3, hU3⟩
  clear S1 x0 x1 x2 x3
  have hRn := rep_pre hR3
  have hBA3 := hA2.kept hU3
  obtain ⟨w4, hw4⟩ : ∃ w4, w4 = w3.alloc (.cells #[.int .i64 k3, .string (B n3), .int .i64 i3, .slice a3 len3 cap3] 25) := ⟨_, rfl⟩
  have hU4 : Upto none' w3 w4 := by rw [hw4]; exact (Upto.refl none' w3).alloc _
  have hBB4 : Box4 w4 w3.heap.size (.int .i64 k3) (.string (B n3)) (.int .i64 i3) (.slice a3 len3 cap3) 25 := by rw [hw4]; exact Box4.at_new rfl
  have hBA4 := hBA3.kept hU4
  have hRA4 := (hR2.on hU3).on hU4
  have hRB4 := hRn.on hU4
  have hUw4 := (hUw2.and hU3).and hU4
  have HW4 := hid hw4
  obtain ⟨x0, x1, x2, x3⟩ := hBB4.cells
  clear hw4 hRn hR3 hU3 hU4 hUw2 hA2 hBA3 hR2
  go_wp2_with fail
  rw [← HW4.out]
  refine (S2 _ _ hRB4).mono ?_
  rintro e w5 ⟨k5, i5, n5, a5, len5, cap5, rfl, hR5, hU5⟩
  clear S2 x0 x1 x2 x3
  have hRn := rep_pre hR5
  have hBA5 := hBA4.kept hU5
  have hBB5 := hBB4.kept hU5
  obtain ⟨w6, hw6⟩ : ∃ w6, w6 = w5.alloc (.cells #[.int .i64 k5, .string (B n5), .int .i64 i5, .slice a5 len5 cap5] 25) := ⟨_, rfl⟩
  have hU6 : Upto none' w5 w6 := by rw [hw6]; exact (Upto.refl none' w5).alloc _
  have hBC6 : Box4 w6 w5.heap.size (.int .i64 k5) (.string (B n5)) (.int .i64 i5) (.slice a5 len5 cap5) 25 := by rw [hw6]; exact Box4.at_new rfl
  have hBA6 := hBA5.kept hU6
  have hBB6 := hBB5.kept hU6
  have hRA6 := (hRA4.on hU5).on hU6
  have hRB6 := (hRB4.on hU5).on hU6
  have hRC6 := hRn.on hU6
  have hUw6 := (hUw4.and hU5).and hU6
  have HW6 := hid hw6
  obtain ⟨x0, x1, x2, x3⟩ := hBB5.cells
  have q5 := hBB5.lt
  clear hw6 hRn hR5 hU5 hU6 hUw4 hBA4 hBA5 hBB4 hBB5 hRA4 hRB4
  go_wp2_with fail
  rw [← HW6.out]
  refine (S3 _ _ hRB6).mono ?_
  rintro e w7 ⟨k7, i7, n7, a7, len7, cap7, rfl, hR7, hU7⟩
  clear S3 x0 x1 x2 x3
  have hRn := rep_pre hR7
  have hBA7 := hBA6.kept hU7
  have hBB7 := hBB6.kept hU7
  have hBC7 := hBC6.kept hU7
  obtain ⟨w8, hw8⟩ : ∃ w8, w8 = w7.alloc (.cells #[.int .i64 k7, .string (B n7), .int .i64 i7, .slice a7 len7 cap7] 25) := ⟨_, rfl⟩
  have hU8 : Upto none' w7 w8 := by rw [hw8]; exact (Upto.refl none' w7).alloc _
  have hBD8 : Box4 w8 w7.heap.size (.int .i64 k7) (.string (B n7)) (.int .i64 i7) (.slice a7 len7 cap7) 25 := by rw [hw8]; exact Box4.at_new rfl
  have hBA8 := hBA7.kept hU8
  have hBB8 := hBB7.kept hU8
  have hBC8 := hBC7.kept hU8
  have hRA8 := (hRA6.on hU7).on hU8
  have hRB8 := (hRB6.on hU7).on hU8
  have hRC8 := (hRC6.on hU7).on hU8
  have hRD8 := hRn.on hU8
  have hUw8 := (hUw6.and hU7).and hU8
  have HW8 := hid hw8
  obtain ⟨x0, x1, x2, x3⟩ := hBA7.cells
  have q7 := hBA7.lt
  clear hw8 hRn hR7 hU7 hU8 hUw6 hBA6 hBA7 hBB6 hBB7 hBC6 hBC7 hRA6 hRB6 hRC6
  go_wp2_with fail
  rw [← HW8.out]
  refine (S4 _ _ hRA8).mono ?_
  rintro e w9 ⟨k9, i9, n9, a9, len9, cap9, rfl, hR9, hU9⟩
  clear S4 x0 x1 x2 x3
  have hRn := rep_pre hR9
  have hBA9 := hBA8.kept hU9
  have hBB9 := hBB8.kept hU9
  have hBC9 := hBC8.kept hU9
  have hBD9 := hBD8.kept hU9
  obtain ⟨w10, hw10⟩ : ∃ w10, w10 = w9.alloc (.cells #[.int .i64 k9, .string (B n9), .int .i64 i9, .slice a9 len9 cap9] 25) := ⟨_, rfl⟩
  have hU10 : Upto none' w9 w10 := by rw [hw10]; exact (Upto.refl none' w9).alloc _
  have hBE10 : Box4 w10 w9.heap.size (.int .i64 k9) (.string (B n9)) (.int .i64 i9) (.slice a9 len9 cap9) 25 := by rw [hw10]; exact Box4.at_new rfl
  have hBA10 := hBA9.kept hU10
  have hBB10 := hBB9.kept hU10
  have hBC10 := hBC9.kept hU10
  have hBD10 := hBD9.kept hU10
  have hRA10 := (hRA8.on hU9).on hU10
  have hRB10 := (hRB8.on hU9).on hU10
  have hRC10 := (hRC8.on hU9).on hU10
  have hRD10 := (hRD8.on hU9).on hU10
  have hRE10 := hRn.on hU10
  have hUw10 := (hUw8.and hU9).and hU10
  have HW10 := hid hw10
  obtain ⟨x0, x1, x2, x3⟩ := hBC9.cells
  obtain ⟨y0, y1, y2, y3⟩ := hBA9.cells
  have q9 := hBC9.lt
  have q'9 := hBA9.lt
  clear hw10 hRn hR9 hU9 hU10 hUw8 hBA8 hBA9 hBB8 hBB9 hBC8 hBC9 hBD8 hBD9 hRA8 hRB8 hRC8 hRD8
  go_wp2_with fail
  rw [← HW10.out]
  refine (Q1 _ _ _ hRC10 hRA10).mono ?_
  rintro e w11 ⟨rfl, hU11⟩
  clear x0 x1 x2 x3 y0 y1 y2 y3
  have hBD11 := hBD10.kept hU11
  have hBE11 := hBE10.kept hU11
  have hRD11 := hRD10.on hU11
  have hRE11 := hRE10.on hU11
  have hUw11 := hUw10.and hU11
  obtain ⟨x0, x1, x2, x3⟩ := hBD11.cells
  obtain ⟨y0, y1, y2, y3⟩ := hBE11.cells
  go_wp2_with fail
  refine (Q2 _ _ _ hRD11 hRE11).mono ?_
  rintro e w12 ⟨rfl, hU12⟩
  go_wp2_with fail
  refine (awake06 _).mono ?_
  rintro e w13 ⟨rfl, hU13⟩
  go_wp2
  go_ret
  exact ⟨rfl, (hUw11.and hU12).and hU13⟩
end Go.Proofs.YtdcbgkmhlpkjiaaDoor

namespace Go.Proofs.YtdcbgkmhlpkjiaaDoor
open Go.ChangeShapes Go.WideShapes Go.ChangeAt Go.RowKit Go.LF

set_option maxRecDepth 100000 in
theorem renameBack_lifted (os : Os) (started : os.Started) (H : Type) (enc : TypeId × Value → H) :
    ReturnsInHanded {} Tryd.checked os 14 .any (fun w args => (Rows.renameBackSpec.pre enc Tryd.prog Tryd.f14 [] false w args ∧ laidMetH Tryd.prog [("lfcheck/lfcheckmade.names", Rows.laid_lfcheck_lfcheckmade_names)] w) ∧ sizedMet enc Tryd.prog Tryd.f14 (OpenSpec.ofChange Rows.renameBackSpec) false w args)
      (Rows.renameBackSpec.post enc Tryd.prog Tryd.f14 false true false false) := by
  refine returnsInHanded_of_change_and (C := Tryd.checked) (X := fun w _ => laidMetH Tryd.prog [("lfcheck/lfcheckmade.names", Rows.laid_lfcheck_lfcheckmade_names)] w) (fun _ _ _ hh h => h.of_heap hh) own started (by kernel_rfl) Tryd.func14
    (ChangeSpec.witness_shaped (enc := enc) (C := Tryd.checked) (os := os) (X := fun w _ => laidMetH Tryd.prog [("lfcheck/lfcheckmade.names", Rows.laid_lfcheck_lfcheckmade_names)] w) false (World.doorLaid Tryd.prog 400 os) #[.slice none 0 0, .int .i64 0, .int .i64 0, .int .i64 0] 8 rfl (World.shaped_of_RefB (by kernel_rfl) (by kernel_rfl)) (by kernel_rfl) (by kernel_rfl) (by kernel_rfl) (door_met os _)) ?_
  intro W base args ds gs before hval0 hW _ hsz0 hL _
  have hsz : (DataW.weightsEach Tryd.prog (Tryd.f14.params.toList ++ Rows.renameBackSpec.plain.varTypes Tryd.prog) (ds ++ gs)).all (· ≤ reachBytes) = true := hsz0
  clear hsz0
  have hval : ∀ (j : Nat) t v, Tryd.f14.params[j]? = some t → args[j]? = some v → Value.okWide Tryd.prog W .any base t v := hval0
  have hW' := hW
  obtain ⟨p, q, hA0, hV, rfl, hfz, hnd⟩ := hW
  have hA : DataW.TrodAll enc Tryd.prog W 0 (fun _ => true) true Tryd.f14.params.toList args.toList ds p := hA0
  rw [Tryd.params14] at hA hval hsz
  obtain ⟨v0, vs0, d0, ds0, p0, q0, hargs, rfl, rfl, h0, r0⟩ := trodAll_cons hA
  obtain ⟨v1, vs1, d1, ds1, p1, q1, rfl, rfl, rfl, h1, r1⟩ := trodAll_cons r0
  obtain ⟨v2, vs2, d2, ds2, p2, q2, rfl, rfl, rfl, h2, r2⟩ := trodAll_cons r1
  obtain ⟨v3, vs3, d3, ds3, p3, q3, rfl, rfl, rfl, h3, r3⟩ := trodAll_cons r2
  obtain ⟨rfl, rfl, rfl⟩ := trodAll_nil r3
  obtain rfl : args = #[v0, v1, v2, v3] := Array.ext' hargs
  obtain ⟨rfl, rfl⟩ := trodVars_none hV
  clear hA0 hval0
  simp only [List.append_nil] at hW'
  have hlt : ∀ x, x ∈ p0 ∨ x ∈ p1 ∨ x ∈ p2 ∨ x ∈ p3 → x.block < W.heap.size := fun x hx => hW'.lt x (by simpa [List.mem_append, or_assoc] using hx)
  have hNR := names_of_laid hL
  have h0k := h0
  obtain ⟨a0, len0, cap0, rfl⟩ := okWide_slice Tryd.underlying22 (hval 0 22 v0 rfl rfl)
  obtain ⟨l0, hl0, _, hlen0, hE0⟩ := ints_arg h0 hsz (j := 0) rfl rfl
  obtain ⟨n1, rfl, rfl, rfl, wf1⟩ := open_int Tryd.underlying3 (hval 1 3 v1 rfl rfl) h1
  obtain ⟨n2, rfl, rfl, rfl, wf2⟩ := open_int Tryd.underlying3 (hval 2 3 v2 rfl rfl) h2
  obtain ⟨n3, rfl, rfl, rfl, wf3⟩ := open_int Tryd.underlying3 (hval 3 3 v3 rfl rfl) h3
  refine (renBack_walk l0 a0 len0 cap0 hl0 hlen0 n1 n2 n3 W hE0 hNR).mono fun e W' ⟨he, hU⟩ => ?_
  subst he
  have hb := Upto.toBelow hU
  exact ⟨_, rfl, _, _, _, [], _, [], hW', (trodAll_cons_mk (shut_bool Tryd.underlying4 _) trodAll_mk0), (trodAll_cons_mk (Below.trod laidOut (by kernel_rfl) (of_decide_eq_true (by kernel_rfl)) h0k hb (fun x hx => hlt x (by simp [hx]))) (trodAll_cons_mk (shut_int Tryd.underlying3 wf1) (trodAll_cons_mk (shut_int Tryd.underlying3 wf2) (trodAll_cons_mk (shut_int Tryd.underlying3 wf3) trodAll_mk0)))), rfl, hb.frame _, fun h => by cases h⟩

theorem renameBack_holds : Rows.RenameBackSaid :=
  OpenClaim.holds_of_wide 14 Tryd.f14 rfl rfl rfl rfl rfl rfl rfl ⟨rfl, rfl, rfl, rfl, rfl⟩ rfl rfl rfl rfl rfl (by kernel_rfl) Tryd.func14 (by kernel_rfl)
    (of_decide_eq_true (by kernel_rfl)) (by unfold Func.isWrapper; first | (rw [if_pos (by decide +kernel)]; kernel_rfl) | (rw [if_neg (by decide +kernel)]; exact ⟨rfl, rfl⟩))
    (fun os started H enc _ => renameBack_lifted os started H enc)

theorem renameBack_card_holds : Rows.RenameBackCardSaid :=
  Claim7.holds_tied_plain_at .later [] [.data] true Rows.renameBackCard.stood.harness false
    renameBack_holds (fun _ h => by cases h) (by kernel_rfl) (fun _ h => by cases h) renameBack_row_tie rfl ⟨rfl, rfl⟩ (by kernel_rfl) rfl
    (fun f fn hf hfn => by
      obtain rfl : f = 14 := Option.some.inj ((show Tryd.prog.funcNamed Rows.renameBackRow.func = some 14 by kernel_rfl).symm.trans hf) |>.symm
      obtain rfl : fn = Tryd.f14 := (Option.some.inj (Tryd.func14.symm.trans hfn)).symm
      exact ⟨by kernel_rfl, fun j t ht => by
        rw [Tryd.params14] at ht
        have hm : t ∈ [22, 3, 3, 3] := by simpa using Array.mem_of_getElem? ht
        have hall : ([22, 3, 3, 3].all fun u => !Tryd.prog.wantsStandIn u) = true := by kernel_rfl
        exact (show Tryd.prog.wantsStandIn t = false by simpa using List.all_eq_true.1 hall t hm)⟩)
    (by kernel_rfl)
end Go.Proofs.YtdcbgkmhlpkjiaaDoor
