/- Which terms are objects, types and kinds: the program's functions, on. -/
import Derived.Test.YtdcbgkmhlpkjiaaDoorTermObj
namespace Go.Proofs.YtdcbgkmhlpkjiaaDoor
open Go.RowKit Go.LF

theorem isObj_3 (k i n ts) (h : (k == 3) = true) : (Tm.mk k n i ts).isObj = (Tm.bound n i ts 1 && Tm.allObj ts) := by
  have : k = 3 := by simpa using h
  rw [Tm.isObj]; simp [this]
theorem isObj_4 (k i n ts) (h : (k == 4) = true) : (Tm.mk k n i ts).isObj = (Tm.mk k n i ts).isAtom := by
  have : k = 4 := by simpa using h
  rw [Tm.isObj, Tm.isAtom]; simp [this]
theorem isObj_5 (k i n ts) (h : (k == 5) = true) : (Tm.mk k n i ts).isObj = (n == [] && decide (0 ≤ i) && decide (i ≤ 1048576) && Tm.allObj ts) := by
  have : k = 5 := by simpa using h
  rw [Tm.isObj]; simp [this]
theorem isObj_6 (k i n ts) (h : (k == 6) = true) : (Tm.mk k n i ts).isObj = (n == [] && decide (0 ≤ i) && decide (i < 2048) && Tm.allObj ts) := by
  have : k = 6 := by simpa using h
  rw [Tm.isObj]; simp [this]
theorem isObj_no (k i n ts) (h3 : (k == 3) = false) (h4 : (k == 4) = false) (h5 : (k == 5) = false) (h6 : (k == 6) = false) : (Tm.mk k n i ts).isObj = false := by
  rw [Tm.isObj]; simp at h3 h4 h5 h6; simp [h3, h4, h5, h6]
theorem kind_ways (k : Int) : (k == 3) = true ∨ ((k == 3) = false ∧ (k == 4) = true) ∨ ((k == 3) = false ∧ (k == 4) = false ∧ (k == 5) = true) ∨
    ((k == 3) = false ∧ (k == 4) = false ∧ (k == 5) = false ∧ (k == 6) = true) ∨ ((k == 3) = false ∧ (k == 4) = false ∧ (k == 5) = false ∧ (k == 6) = false) := by
  cases (k == 3) <;> cases (k == 4) <;> cases (k == 5) <;> cases (k == 6) <;> simp

set_option maxHeartbeats 2000000 in
theorem object_any (t : Tm) : t.wt ≤ 1000000 → ∀ (w : World) (cs : List Value), Rep none' w t.dat cs →
    Calls Tryd.prog 74 #[.agg cs.toArray] w fun e w' => e = .returned (.bool t.isObj) ∧ Upto none' w w' := by
  induction t using Tm.ind with
  | h k n i ts ih =>
    intro hs w cs h
    obtain ⟨a, cap, rfl, hcap, hE⟩ := rep_tm.1 h
    simp only [Tm.wt_mk] at hs
    have hlen : ts.length ≤ 1000000 := by have := Tm.length_le_sizes ts; have := Tm.sizes_le_wts ts; omega
    have hn : n.length ≤ 1000000 := by omega
    have H : ObjAt ts := fun x hx w cs h => ih x hx (by have := Tm.wt_le_wts hx; omega) w cs h
    clear ih h
    rcases kind_ways k with h3 | ⟨h3, h4⟩ | ⟨h3, h4, h5⟩ | ⟨h3, h4, h5, h6⟩ | ⟨h3, h4, h5, h6⟩
    · rw [isObj_3 k i n ts h3]
      by_cases hb : Tm.bound n i ts 1 = true
      · have hb1 : ts.length = 1 := by unfold Tm.bound at hb; simp at hb; exact hb.1.2
        have hbb := bound_eq n i ts 1
        rw [hb] at hbb
        obtain ⟨x, rfl⟩ : ∃ x, ts = [x] := List.length_eq_one_iff.1 hb1
        have hlt : (0 : Nat) < ([x] : List Tm).length := by simp
        obtain ⟨b, o, k1, n1, x1, s1, c1, rfl, hbs, _, hc0, hc1, hc2, hc3, hR⟩ := arg_tm hE 0 hlt
        simp only [Nat.zero_mul, Nat.add_zero, List.getElem_cons_zero] at hc0 hc1 hc2 hc3 hR
        simp only [List.length_cons, List.length_nil, Nat.zero_add] at *
        have HB := fun k i W h => bound_any k i 1 n (some ⟨b, o, none⟩) 1 cap W hn true h
        have Hx := H x (by simp)
        have hO : (true && Tm.allObj [x]) = x.isObj := by simp [Tm.allObj]
        rw [hb, hO]
        have HBB := hid hbb.symm
        clear hbb hb hb1 hO H
        go_enter Tryd.func74, Tryd.ntmps74
        go_wp2_with fail
        refine (HB _ _ _ HBB.out).mono ?_
        rintro e w1 ⟨rfl, hU⟩
        obtain ⟨b0, b1, b2, b3⟩ := (hU.cel (O := none') (fun _ x => x)).box4 (fun x => x)
        have hw1 : Upto none' w w1 := hU.behind
        have d0 := hw1.cell hc0 (fun x => x)
        have d1 := hw1.cell hc1 (fun x => x)
        have d2 := hw1.cell hc2 (fun x => x)
        have d3 := hw1.cell hc3 (fun x => x)
        clear hc0 hc1 hc2 hc3
        go_wp2_with fail
        refine (Hx _ _ (hR.on hw1)).mono ?_
        rintro e w2 ⟨rfl, hU2⟩
        go_wp2
        go_ret
        exact ⟨rfl, hw1.trans hU2 (fun _ _ x => x)⟩
      · have hbb := bound_eq n i ts 1
        have hbf : Tm.bound n i ts 1 = false := by simpa using hb
        rw [hbf] at hbb
        have HB := fun k i W h => bound_any k i 1 n a ts.length cap W hn false h
        have HBB := hid hbb.symm
        rw [hbf, Bool.false_and]
        clear hbb hb hbf H
        go_enter Tryd.func74, Tryd.ntmps74
        go_wp2_with fail
        refine (HB _ _ _ HBB.out).mono ?_
        rintro e w1 ⟨rfl, hU⟩
        go_wp2
        go_ret
        exact ⟨rfl, hU.behind⟩
    · rw [isObj_4 k i n ts h4]
      have HA := atom_any H hlen k i n hn a cap (w.alloc (.cells #[.int .i64 k, .string (B n), .int .i64 i, .slice a ts.length cap] 25)) (hE.on ((Upto.refl _ w).alloc _))
      generalize (Tm.mk k n i ts).isAtom = r at *
      clear H
      go_enter Tryd.func74, Tryd.ntmps74
      go_wp2_with fail
      refine HA.mono ?_
      rintro e w1 ⟨rfl, hU⟩
      go_wp2
      go_ret
      exact ⟨rfl, hU.behind⟩
    · have hp := isObj_5 k i n ts h5
      generalize (Tm.mk k n i ts).isObj = r at *
      generalize hA : Tm.allObj ts = al at *
      have H1 := fun k i n W hW => all_any H hlen k i n a cap W hW al hA
      have HP := hid hp
      clear hp hA H
      go_enter Tryd.func74, Tryd.ntmps74
      go_wp2_with (go_at_call 112; refine (H1 _ _ _ _ (hE.on ((Upto.refl _ w).alloc _))).mono ?_; rintro e w1 ⟨rfl, hU⟩)
      all_goals go_ret
      all_goals first | refine ⟨ret_bool ?_, hU.behind⟩ | refine ⟨ret_bool ?_, (Upto.refl _ _).alloc _⟩
      all_goals (clear H1 hE; rw [HP.out, Bool.eq_iff_iff]; simp [*] <;> (intros; omega))
    · have hp := isObj_6 k i n ts h6
      generalize (Tm.mk k n i ts).isObj = r at *
      generalize hA : Tm.allObj ts = al at *
      have H1 := fun k i n W hW => all_any H hlen k i n a cap W hW al hA
      have HP := hid hp
      clear hp hA H
      go_enter Tryd.func74, Tryd.ntmps74
      go_wp2_with (go_at_call 112; refine (H1 _ _ _ _ (hE.on ((Upto.refl _ w).alloc _))).mono ?_; rintro e w1 ⟨rfl, hU⟩)
      all_goals go_ret
      all_goals first | refine ⟨ret_bool ?_, hU.behind⟩ | refine ⟨ret_bool ?_, (Upto.refl _ _).alloc _⟩
      all_goals (clear H1 hE; rw [HP.out, Bool.eq_iff_iff]; simp [*] <;> (intros; omega))
    · have hp := isObj_no k i n ts h3 h4 h5 h6
      rw [hp]
      clear hp H
      go_enter Tryd.func74, Tryd.ntmps74
      go_wp2_with fail
      go_ret
      exact ⟨rfl, (Upto.refl _ _).alloc _⟩

theorem objAt {ts : List Tm} (h : Tm.wts ts ≤ 1000000) : ObjAt ts := fun x hx w cs hr => object_any x (by have := Tm.wt_le_wts hx; omega) w cs hr
theorem isTyp_eq (k i n ts) : (Tm.mk k n i ts).isTyp = ((Tm.mk k n i ts).isAtom || (k == 2 && (Tm.bound n i ts 2 && Tm.allTyp ts))) := by rw [Tm.isTyp]

set_option maxHeartbeats 2000000 in
theorem typed_any (t : Tm) : t.wt ≤ 1000000 → ∀ (w : World) (cs : List Value), Rep none' w t.dat cs →
    Calls Tryd.prog 75 #[.agg cs.toArray] w fun e w' => e = .returned (.bool t.isTyp) ∧ Upto none' w w' := by
  induction t using Tm.ind with
  | h k n i ts ih =>
    intro hs w cs h
    obtain ⟨a, cap, rfl, hcap, hE⟩ := rep_tm.1 h
    simp only [Tm.wt_mk] at hs
    have hlen : ts.length ≤ 1000000 := by have := Tm.length_le_sizes ts; have := Tm.sizes_le_wts ts; omega
    have hn : n.length ≤ 1000000 := by omega
    have H : ∀ x ∈ ts, ∀ (w : World) (cs : List Value), Rep none' w x.dat cs → Calls Tryd.prog 75 #[.agg cs.toArray] w fun e w' => e = .returned (.bool x.isTyp) ∧ Upto none' w w' :=
      fun x hx w cs h => ih x hx (by have := Tm.wt_le_wts hx; omega) w cs h
    clear ih h
    have HA := atom_any (objAt (ts := ts) (by omega)) hlen k i n hn a cap (w.alloc (.cells #[.int .i64 k, .string (B n), .int .i64 i, .slice a ts.length cap] 25)) (hE.on ((Upto.refl _ w).alloc _))
    have hp := isTyp_eq k i n ts
    generalize (Tm.mk k n i ts).isTyp = r at *
    generalize (Tm.mk k n i ts).isAtom = at' at *
    cases at'
    case true =>
      have HR := hid hp
      clear hp H
      go_enter Tryd.func75, Tryd.ntmps75
      go_wp2_with fail
      refine HA.mono ?_
      rintro e w1 ⟨rfl, hU⟩
      obtain ⟨b0, b1, b2, b3⟩ := (hU.cel (O := none') (fun _ x => x)).box4 (fun x => x)
      go_wp2_with fail
      go_ret
      exact ⟨ret_bool (by rw [HR.out]; rfl), hU.behind⟩
    rw [Bool.false_or] at hp
    cases h2 : (k == 2)
    · rw [h2, Bool.false_and] at hp
      have HR := hid hp
      clear hp H
      go_enter Tryd.func75, Tryd.ntmps75
      go_wp2_with fail
      refine HA.mono ?_
      rintro e w1 ⟨rfl, hU⟩
      obtain ⟨b0, b1, b2, b3⟩ := (hU.cel (O := none') (fun _ x => x)).box4 (fun x => x)
      go_wp2_with fail
      go_ret
      exact ⟨ret_bool (by rw [HR.out]), hU.behind⟩
    rw [h2, Bool.true_and] at hp
    have hbb := bound_eq n i ts 2
    cases hb : Tm.bound n i ts 2
    · rw [hb] at hbb
      rw [hb, Bool.false_and] at hp
      have HB := fun k i W h => bound_any k i 2 n a ts.length cap W hn false h
      have HBB := hid hbb.symm
      have HR := hid hp
      clear hbb hb hp H
      go_enter Tryd.func75, Tryd.ntmps75
      go_wp2_with fail
      refine HA.mono ?_
      rintro e w1 ⟨rfl, hU⟩
      obtain ⟨b0, b1, b2, b3⟩ := (hU.cel (O := none') (fun _ x => x)).box4 (fun x => x)
      go_wp2_with fail
      refine (HB _ _ _ HBB.out).mono ?_
      rintro e w2 ⟨rfl, hU2⟩
      go_wp2_with fail
      go_ret
      exact ⟨ret_bool (by rw [HR.out]), hU.behind.trans hU2 (fun _ _ x => x)⟩
    rw [hb] at hbb
    rw [hb, Bool.true_and] at hp
    have hb1 : ts.length = 2 := by unfold Tm.bound at hb; simp at hb; exact hb.1.2
    obtain ⟨x, y, rfl⟩ : ∃ x y, ts = [x, y] := by match ts, hb1 with | [x, y], _ => exact ⟨x, y, rfl⟩
    have hl0 : (0 : Nat) < ([x, y] : List Tm).length := by simp
    have hl1 : (1 : Nat) < ([x, y] : List Tm).length := by simp
    obtain ⟨b, o, k1, n1, x1, s1, c1, rfl, hbs, _, p0, p1, p2, p3, hR⟩ := arg_tm hE 0 hl0
    obtain ⟨b', o', k2, n2, x2, s2, c2, e', hbs', _, q0, q1, q2, q3, hR2⟩ := arg_tm hE 1 hl1
    simp only [Option.some.injEq, Addr.mk.injEq] at e'
    obtain ⟨rfl, rfl, _⟩ := e'
    simp only [Nat.zero_mul, Nat.add_zero, Nat.one_mul, List.getElem_cons_zero, List.getElem_cons_succ] at p0 p1 p2 p3 q0 q1 q2 q3 hR hR2
    simp only [List.length_cons, List.length_nil, Nat.zero_add] at *
    have HB := fun k i W h => bound_any k i 2 n (some ⟨b, o, none⟩) 2 cap W hn true h
    have Hx := H x (by simp)
    have Hy := H y (by simp)
    have hO : Tm.allTyp [x, y] = (x.isTyp && y.isTyp) := by simp [Tm.allTyp]
    rw [hO] at hp
    have HBB := hid hbb.symm
    have HR := hid hp
    clear hbb hb hb1 hO hp H
    generalize x.isTyp = bx at *
    generalize y.isTyp = by' at *
    cases bx
    all_goals
      go_enter Tryd.func75, Tryd.ntmps75
      go_wp2_with fail
      refine HA.mono ?_
      rintro e w1 ⟨rfl, hU⟩
      obtain ⟨b0, b1, b2, b3⟩ := (hU.cel (O := none') (fun _ x => x)).box4 (fun x => x)
      have hw1 : Upto none' w w1 := hU.behind
      go_wp2_with fail
      refine (HB _ _ _ HBB.out).mono ?_
      rintro e w2 ⟨rfl, hU2⟩
      have hw2 := hw1.trans hU2 (fun _ _ x => x)
      have e0 := hU2.cell b0 (fun x => x)
      have e1 := hU2.cell b1 (fun x => x)
      have e2 := hU2.cell b2 (fun x => x)
      have e3 := hU2.cell b3 (fun x => x)
      have f0 := hw2.cell p0 (fun x => x)
      have f1 := hw2.cell p1 (fun x => x)
      have f2 := hw2.cell p2 (fun x => x)
      have f3 := hw2.cell p3 (fun x => x)
      clear b0 b1 b2 b3 p0 p1 p2 p3
      go_wp2_with fail
      refine (Hx _ _ (hR.on hw2)).mono ?_
      rintro e w3 ⟨rfl, hU3⟩
      have hw3 := hw2.trans hU3 (fun _ _ x => x)
    · go_wp2_with fail
      go_ret
      exact ⟨ret_bool (by rw [HR.out]; rfl), hw3⟩
    · have g0 := hU3.cell e0 (fun x => x)
      have g1 := hU3.cell e1 (fun x => x)
      have g2 := hU3.cell e2 (fun x => x)
      have g3 := hU3.cell e3 (fun x => x)
      have r0 := hw3.cell q0 (fun x => x)
      have r1 := hw3.cell q1 (fun x => x)
      have r2 := hw3.cell q2 (fun x => x)
      have r3 := hw3.cell q3 (fun x => x)
      clear e0 e1 e2 e3 q0 q1 q2 q3
      go_wp2_with fail
      refine (Hy _ _ (hR2.on hw3)).mono ?_
      rintro e w4 ⟨rfl, hU4⟩
      go_wp2_with fail
      go_ret
      exact ⟨ret_bool (by rw [HR.out]; rfl), hw3.trans hU4 (fun _ _ x => x)⟩
end Go.Proofs.YtdcbgkmhlpkjiaaDoor
