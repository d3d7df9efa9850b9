/- Which terms are kinds, small, well formed: the program's functions. -/
import Derived.Test.YtdcbgkmhlpkjiaaDoorTermObj2
namespace Go.Proofs.YtdcbgkmhlpkjiaaDoor
open Go.RowKit Go.LF

theorem isKnd_1 (k i n ts) (h : (k == 1) = true) : (Tm.mk k n i ts).isKnd = (n == [] && (i == 0 && ts.isEmpty)) := by
  have : k = 1 := by simpa using h
  subst this
  unfold Tm.isKnd
  split <;> simp_all
  rename_i h2; obtain ⟨rfl, rfl, rfl, rfl⟩ := h2; simp
theorem isKnd_no1 (k i n ts) (h : (k == 1) = false) (hb : (k == 2 && Tm.bound n i ts 2) = false) : (Tm.mk k n i ts).isKnd = false := by
  match ts, hb with
  | [a, b], hb => unfold Tm.isKnd; rw [Bool.and_eq_false_iff] at hb; rcases hb with hb | hb <;> simp [hb]
  | [], _ => unfold Tm.isKnd; simp [h]
  | [_], _ => unfold Tm.isKnd; simp [h]
  | _ :: _ :: _ :: _, _ => unfold Tm.isKnd; simp [h]
theorem isKnd_2 (k i n x y) (hb : (k == 2 && Tm.bound n i [x, y] 2) = true) : (Tm.mk k n i [x, y]).isKnd = (x.isTyp && y.isKnd) := by
  rw [Bool.and_eq_true] at hb
  rw [Tm.isKnd, hb.1, hb.2]; simp

set_option maxHeartbeats 2000000 in
theorem kind_any (t : Tm) : t.wt ≤ 1000000 → ∀ (w : World) (cs : List Value), Rep none' w t.dat cs →
    Calls Tryd.prog 76 #[.agg cs.toArray] w fun e w' => e = .returned (.bool t.isKnd) ∧ Upto none' w w' := by
  induction t using Tm.ind with
  | h k n i ts ih =>
    intro hs w cs h
    obtain ⟨a, cap, rfl, hcap, hE⟩ := rep_tm.1 h
    simp only [Tm.wt_mk] at hs
    have hlen : ts.length ≤ 1000000 := by have := Tm.length_le_sizes ts; have := Tm.sizes_le_wts ts; omega
    have hn : n.length ≤ 1000000 := by omega
    have H : ∀ x ∈ ts, ∀ (w : World) (cs : List Value), Rep none' w x.dat cs → Calls Tryd.prog 76 #[.agg cs.toArray] w fun e w' => e = .returned (.bool x.isKnd) ∧ Upto none' w w' :=
      fun x hx w cs h => ih x hx (by have := Tm.wt_le_wts hx; omega) w cs h
    have HT : ∀ x ∈ ts, ∀ (w : World) (cs : List Value), Rep none' w x.dat cs → Calls Tryd.prog 75 #[.agg cs.toArray] w fun e w' => e = .returned (.bool x.isTyp) ∧ Upto none' w w' :=
      fun x hx w cs h => typed_any x (by have := Tm.wt_le_wts hx; omega) w cs h
    clear ih h
    cases h1 : (k == 1)
    case true =>
      have hp := isKnd_1 k i n ts h1
      generalize (Tm.mk k n i ts).isKnd = r at *
      have hz : ((ts.length : Int) == 0) = ts.isEmpty := by cases ts <;> simp; omega
      have HP := hid hp
      have HZ := hid hz
      clear hp hz H HT
      go_enter Tryd.func76, Tryd.ntmps76
      go_wp2
      all_goals go_ret
      all_goals refine ⟨ret_bool ?_, (Upto.refl _ _).alloc _⟩
      all_goals (clear hE; rw [HP.out, Bool.eq_iff_iff]; simp [*])
    cases h2 : (k == 2)
    · rw [isKnd_no1 k i n ts h1 (by rw [h2]; rfl)]
      clear H HT
      go_enter Tryd.func76, Tryd.ntmps76
      go_wp2
      go_ret
      exact ⟨rfl, (Upto.refl _ _).alloc _⟩
    have hbb := bound_eq n i ts 2
    cases hb : Tm.bound n i ts 2
    · rw [hb] at hbb
      rw [isKnd_no1 k i n ts h1 (by rw [h2, hb]; rfl)]
      have HB := fun k i W h => bound_any k i 2 n a ts.length cap W hn false h
      have HBB := hid hbb.symm
      clear hbb hb H HT
      go_enter Tryd.func76, Tryd.ntmps76
      go_wp2_with fail
      refine (HB _ _ _ HBB.out).mono ?_
      rintro e w2 ⟨rfl, hU2⟩
      go_wp2_with fail
      go_ret
      exact ⟨rfl, hU2.behind⟩
    rw [hb] at hbb
    have hb1 : ts.length = 2 := by unfold Tm.bound at hb; simp at hb; exact hb.1.2
    obtain ⟨x, y, rfl⟩ : ∃ x y, ts = [x, y] := by match ts, hb1 with | [x, y], _ => exact ⟨x, y, rfl⟩
    have hp := isKnd_2 k i n x y (by rw [h2, hb]; rfl)
    have hl0 : (0 : Nat) < ([x, y] : List Tm).length := by simp
    have hl1 : (1 : Nat) < ([x, y] : List Tm).length := by simp
    obtain ⟨b, o, k1, n1, x1, s1, c1, rfl, hbs, _, p0, p1, p2, p3, hR⟩ := arg_tm hE 0 hl0
    obtain ⟨b', o', k2, n2, x2, s2, c2, e', hbs', _, q0, q1, q2, q3, hR2⟩ := arg_tm hE 1 hl1
    simp only [Option.some.injEq, Addr.mk.injEq] at e'
    obtain ⟨rfl, rfl, _⟩ := e'
    simp only [Nat.zero_mul, Nat.add_zero, Nat.one_mul, List.getElem_cons_zero, List.getElem_cons_succ] at p0 p1 p2 p3 q0 q1 q2 q3 hR hR2
    simp only [List.length_cons, List.length_nil, Nat.zero_add] at *
    have HB := fun k i W h => bound_any k i 2 n (some ⟨b, o, none⟩) 2 cap W hn true h
    have Hx := HT x (by simp)
    have Hy := H y (by simp)
    generalize (Tm.mk k n i [x, y]).isKnd = r at *
    have HBB := hid hbb.symm
    have HR := hid hp
    clear hbb hb hb1 hp H HT
    generalize x.isTyp = bx at *
    generalize y.isKnd = by' at *
    cases bx
    all_goals
      go_enter Tryd.func76, Tryd.ntmps76
      go_wp2_with fail
      refine (HB _ _ _ HBB.out).mono ?_
      rintro e w2 ⟨rfl, hU2⟩
      obtain ⟨e0, e1, e2, e3⟩ := (hU2.cel (O := none') (fun _ x => x)).box4 (fun x => x)
      have hw2 : Upto none' w w2 := hU2.behind
      have f0 := hw2.cell p0 (fun x => x)
      have f1 := hw2.cell p1 (fun x => x)
      have f2 := hw2.cell p2 (fun x => x)
      have f3 := hw2.cell p3 (fun x => x)
      clear p0 p1 p2 p3
      go_wp2_with fail
      refine (Hx _ _ (hR.on hw2)).mono ?_
      rintro e w3 ⟨rfl, hU3⟩
      have hw3 := hw2.trans hU3 (fun _ _ x => x)
    · go_wp2_with fail
      go_ret
      exact ⟨ret_bool (by rw [HR.out]; rfl), hw3⟩
    · have g0 := hU3.cell e0 (fun x => x)
      have g1 := hU3.cell e1 (fun x => x)
      have g2 := hU3.cell e2 (fun x => x)
      have g3 := hU3.cell e3 (fun x => x)
      have r0 := hw3.cell q0 (fun x => x)
      have r1 := hw3.cell q1 (fun x => x)
      have r2 := hw3.cell q2 (fun x => x)
      have r3 := hw3.cell q3 (fun x => x)
      clear e0 e1 e2 e3 q0 q1 q2 q3
      go_wp2_with fail
      refine (Hy _ _ (hR2.on hw3)).mono ?_
      rintro e w4 ⟨rfl, hU4⟩
      go_wp2_with fail
      go_ret
      exact ⟨ret_bool (by rw [HR.out]; rfl), hw3.trans hU4 (fun _ _ x => x)⟩

set_option maxHeartbeats 1000000 in
theorem small_any (t : Tm) (hs : t.wt ≤ 1000000) (w : World) (cs : List Value) (h : Rep none' w t.dat cs) :
    Calls Tryd.prog 77 #[.agg cs.toArray] w fun e w' => e = .returned (.bool t.small) ∧ Upto none' w w' := by
  have hs' : t.size ≤ 1000000 := by have := Tm.size_le_wt t; omega
  have hp : (decide (t.size ≤ 4096) && decide (t.depth ≤ 128)) = t.small := rfl
  have HS := fun w cs h => size_any t hs' w cs h
  have HD := fun w cs h => depth_any t hs' w cs h
  obtain ⟨k, n, i, ts, a, cap, ht, rfl, hcap, hE⟩ := tm_open h
  generalize t.size = sz at *
  generalize t.depth = dp at *
  generalize t.small = sm at *
  have HT := hid ht
  have HP := hid hp
  clear ht hp hcap
  generalize ts.length = len at *
  go_enter Tryd.func77, Tryd.ntmps77
  go_wp2_with fail
  refine (HS _ _ (h.new _)).mono ?_
  rintro e w1 ⟨rfl, hU⟩
  obtain ⟨b0, b1, b2, b3⟩ := (hU.cel (O := none') (fun _ x => x)).box4 (fun x => x)
  have hw1 : Upto none' w w1 := hU.behind
  by_cases hsz : sz ≤ 4096
  · go_wp2_with fail
    refine (HD _ _ (h.on hw1)).mono ?_
    rintro e w2 ⟨rfl, hU2⟩
    go_wp2
    go_ret
    exact ⟨ret_bool (by rw [← HP.out, Bool.eq_iff_iff]; simp; omega), hw1.trans hU2 (fun _ _ x => x)⟩
  · go_wp2_with fail
    go_ret
    exact ⟨ret_bool (by rw [← HP.out, Bool.eq_iff_iff]; simp; omega), hw1⟩
end Go.Proofs.YtdcbgkmhlpkjiaaDoor
