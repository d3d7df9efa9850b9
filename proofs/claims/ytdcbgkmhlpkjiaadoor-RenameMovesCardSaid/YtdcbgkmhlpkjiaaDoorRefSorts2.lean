/- The reference's sorts of terms, on. -/
import Derived.Test.YtdcbgkmhlpkjiaaDoorRefSorts
namespace Go.Proofs.YtdcbgkmhlpkjiaaDoor
open Go.RowKit Go.LF

set_option maxRecDepth 100000 in
set_option maxHeartbeats 4000000 in
theorem sorts3_yes (k i : Int) (n : List UInt8) (hn : n.length ≤ 1000000) (x : Tm) (H : SortsAt [x]) (h1 : (k == 3) = true) (hb : Tm.bound n i [x] 1 = true) (w : World) (a : Option Addr) (cap : Nat)
    (hE : RepE none' w 4 ([x].map Tm.dat) a 0) :
    Calls Tryd.prog 78 #[.agg #[.int .i64 k, .string (B n), .int .i64 i, .slice a 1 cap]] w fun e w' => e = .returned (.int .i64 (if x.isObj then 1 else 0)) ∧ Upto none' w w' := by
  have HB := hid hb
  obtain ⟨hi, hnm⟩ : i = 0 ∧ (n = [] ∨ n = [95] ∨ (¬ n = [] ∧ ¬ n = [95] ∧ isName n = true)) := by
    unfold Tm.bound at hb; simp at hb
    obtain ⟨h1, (h2 | h2) | h2⟩ := hb
    · exact ⟨h1, .inl h2⟩
    · exact ⟨h1, .inr (.inl h2)⟩
    · exact ⟨h1, .inr (.inr ⟨by rintro rfl; exact absurd h2 (by decide), by rintro rfl; exact absurd h2 (by decide), h2⟩)⟩
  clear hb
  obtain rfl : k = 3 := by simpa using h1
  clear h1
  subst hi
  obtain ⟨b, o, k1, n1, x1, s1, c1, rfl, hbs, _, hc0, hc1, hc2, hc3, hR⟩ := arg_tm hE 0 (by simp)
  simp only [Nat.zero_mul, Nat.add_zero, List.getElem_cons_zero] at hc0 hc1 hc2 hc3 hR
  have Hx := H x (by simp)
  have hbit := bits_obj x
  generalize (if x.isObj then (1 : Int) else 0) = r at *
  generalize sorts x = sx at *
  clear H hE
  rcases hnm with rfl | rfl | ⟨hnm1, hnm2, hnm⟩
  all_goals
    go_enter Tryd.func78, Tryd.ntmps78
    go_wp2_with (first | (go_at_call 113; refine (refIsName_any _ _ hn).mono ?_; rintro e w' ⟨rfl, rfl⟩) | fail)
  all_goals
    refine (Hx _ _ (hR.on ((Upto.refl _ w).alloc _))).mono ?_
    rintro e w1 ⟨rfl, hU⟩
    go_wp2
    go_ret
    exact ⟨rfl, hU.behind⟩

set_option maxRecDepth 100000 in
set_option maxHeartbeats 4000000 in
theorem sorts2_yes (k i : Int) (n : List UInt8) (hn : n.length ≤ 1000000) (x y : Tm) (H : SortsAt [x, y]) (h1 : (k == 2) = true) (hb : Tm.bound n i [x, y] 2 = true) (w : World) (a : Option Addr) (cap : Nat)
    (hE : RepE none' w 4 ([x, y].map Tm.dat) a 0) (r : Int) (hr : (if x.isTyp then (if y.isTyp then 2 else 0) + (if y.isKnd then 4 else 0) else 0) = r) :
    Calls Tryd.prog 78 #[.agg #[.int .i64 k, .string (B n), .int .i64 i, .slice a 2 cap]] w fun e w' => e = .returned (.int .i64 r) ∧ Upto none' w w' := by
  have HB := hid hb
  obtain ⟨hi, hnm⟩ : i = 0 ∧ (n = [] ∨ n = [95] ∨ (¬ n = [] ∧ ¬ n = [95] ∧ isName n = true)) := by
    unfold Tm.bound at hb; simp at hb
    obtain ⟨h1, (h2 | h2) | h2⟩ := hb
    · exact ⟨h1, .inl h2⟩
    · exact ⟨h1, .inr (.inl h2)⟩
    · exact ⟨h1, .inr (.inr ⟨by rintro rfl; exact absurd h2 (by decide), by rintro rfl; exact absurd h2 (by decide), h2⟩)⟩
  clear hb
  obtain rfl : k = 2 := by simpa using h1
  clear h1
  subst hi
  obtain ⟨b, o, k1, n1, x1, s1, c1, rfl, hbs, _, p0, p1, p2, p3, hR⟩ := arg_tm hE 0 (by simp)
  obtain ⟨b', o', k2, n2, x2, s2, c2, e', hbs', _, q0, q1, q2, q3, hR2⟩ := arg_tm hE 1 (by simp)
  simp only [Option.some.injEq, Addr.mk.injEq] at e'
  obtain ⟨rfl, rfl, _⟩ := e'
  simp only [Nat.zero_mul, Nat.add_zero, Nat.one_mul, List.getElem_cons_zero, List.getElem_cons_succ] at p0 p1 p2 p3 q0 q1 q2 q3 hR hR2
  have Hx := H x (by simp)
  have Hy := H y (by simp)
  have hbit := bits_typ x
  have hbity := bits_tk y
  generalize (if y.isTyp then (2 : Int) else 0) + (if y.isKnd then (4 : Int) else 0) = ry at *
  generalize sorts x = sx at *
  generalize sorts y = sy at *
  generalize x.isTyp = bx at *
  clear H hE
  cases bx
  all_goals
    have HR := hid hr
    clear hr
    simp only [Bool.false_eq_true, if_false, if_true] at hbit
  · rcases hnm with rfl | rfl | ⟨hnm1, hnm2, hnm⟩
    all_goals
      go_enter Tryd.func78, Tryd.ntmps78
      go_wp2_with (first | (go_at_call 113; refine (refIsName_any _ _ hn).mono ?_; rintro e w' ⟨rfl, rfl⟩) | fail)
      refine (Hx _ _ (hR.on ((Upto.refl _ w).alloc _))).mono ?_
      rintro e w1 ⟨rfl, hU⟩
      obtain ⟨b0, b1, b2, b3⟩ := box_new hU
      go_wp2_with fail
      go_ret
      exact ⟨ret_int (by rw [← HR.out]; rfl), hU.behind⟩
  · rcases hnm with rfl | rfl | ⟨hnm1, hnm2, hnm⟩
    all_goals
      go_enter Tryd.func78, Tryd.ntmps78
      go_wp2_with (first | (go_at_call 113; refine (refIsName_any _ _ hn).mono ?_; rintro e w' ⟨rfl, rfl⟩) | fail)
      refine (Hx _ _ (hR.on ((Upto.refl _ w).alloc _))).mono ?_
      rintro e w1 ⟨rfl, hU⟩
      have hw1 : Upto none' w w1 := hU.behind
      obtain ⟨b0, b1, b2, b3⟩ := box_new hU
      have d0 := hw1.cell q0 (fun x => x)
      have d1 := hw1.cell q1 (fun x => x)
      have d2 := hw1.cell q2 (fun x => x)
      have d3 := hw1.cell q3 (fun x => x)
      clear q0 q1 q2 q3
      go_wp2_with fail
      refine (Hy _ _ (hR2.on hw1)).mono ?_
      rintro e w2 ⟨rfl, hU2⟩
      go_wp2_with fail
      go_ret
      exact ⟨ret_int (by rw [← HR.out]; rfl), hw1.and hU2⟩

end Go.Proofs.YtdcbgkmhlpkjiaaDoor
