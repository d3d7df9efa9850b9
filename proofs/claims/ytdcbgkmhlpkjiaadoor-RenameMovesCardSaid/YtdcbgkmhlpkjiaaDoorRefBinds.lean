/- The reference's Scope, Occurs. -/
import Derived.Test.YtdcbgkmhlpkjiaaDoorRefWf
import Derived.Test.YtdcbgkmhlpkjiaaDoorRefSame
import Derived.Test.YtdcbgkmhlpkjiaaDoorBinds
namespace Go.LF.Tm
theorem scopes_take_succ (k : Int) (l : List Tm) : ∀ (j0 : Nat) (a : Int) (j : Nat) (h : j < l.length), scopes k j0 a (l.take (j + 1)) = max (scopes k j0 a (l.take j)) (scope l[j] - under k (j0 + j)) := by
  induction l with
  | nil => intro j0 a j h; simp at h
  | cons t ts ih =>
    intro j0 a j h
    cases j with
    | zero => simp [scopes]
    | succ j =>
      simp only [List.take_succ_cons, scopes, List.getElem_cons_succ]
      rw [ih (j0 + 1) _ j (by simpa using h)]
      rw [show j0 + 1 + j = j0 + (j + 1) by omega]
theorem occs_take_succ (k : Int) (l : List Tm) (v : Int) : ∀ (j0 : Nat) (j : Nat) (h : j < l.length), occs k j0 (l.take (j + 1)) v = (occs k j0 (l.take j) v || occ l[j] (v + under k (j0 + j))) := by
  induction l with
  | nil => intro j0 j h; simp at h
  | cons t ts ih =>
    intro j0 j h
    cases j with
    | zero => simp [occs]
    | succ j =>
      simp only [List.take_succ_cons, occs, List.getElem_cons_succ]
      rw [ih (j0 + 1) j (by simpa using h), Bool.or_assoc]
      rw [show j0 + 1 + j = j0 + (j + 1) by omega]
theorem occs_true (k : Int) (l : List Tm) (v : Int) (j : Nat) (h : j < l.length) (ho : occ l[j] (v + under k j) = true) : occs k 0 l v = true := by
  have h1 := occs_take_succ k l v 0 j h
  rw [Nat.zero_add, ho, Bool.or_true] at h1
  have key : ∀ (l : List Tm) (j0 n : Nat), occs k j0 (l.take n) v = true → occs k j0 l v = true := by
    intro l
    induction l with
    | nil => intro j0 n h; simpa using h
    | cons t ts ih =>
      intro j0 n h
      cases n with
      | zero => simp [occs] at h
      | succ n =>
        simp only [List.take_succ_cons, occs, Bool.or_eq_true] at h ⊢
        exact h.imp (fun x => x) (ih _ _)
  exact key l 0 (j + 1) h1
/-- All numbers in a term are those of a well-formed one. -/
def ok (t : Tm) : Prop := ∀ b, ∀ x ∈ nodes b t, x.ok
theorem ok_arg {k i : Int} {n : List UInt8} {l : List Tm} (h : (mk k n i l).ok) (j : Nat) (hj : j < l.length) : (l[j]).ok := by
  intro b x hx
  refine h (b - under k j) x ?_
  rw [nodes_mk]
  refine List.mem_cons.2 (.inr ?_)
  refine (nodesA_take_prefix l (b - under k j) k (j + 1)).subset ?_
  rw [nodesA_take_succ _ _ _ _ hj]
  refine List.mem_append.2 (.inr ?_)
  rw [show b - under k j + under k j = b by omega]
  exact hx
theorem ok_head {k i : Int} {n : List UInt8} {l : List Tm} (h : (mk k n i l).ok) : (k == 5) = true → 0 ≤ i ∧ i ≤ 1048576 := (h 0 ⟨0, k, n, i⟩ (by rw [nodes_mk]; simp)).1
theorem ok_head6 {k i : Int} {n : List UInt8} {l : List Tm} (h : (mk k n i l).ok) : (k == 6) = true → 0 ≤ i ∧ i < 2048 := (h 0 ⟨0, k, n, i⟩ (by rw [nodes_mk]; simp)).2.1
theorem scope_le (t : Tm) : t.ok → 0 ≤ scope t ∧ scope t ≤ 1048577 := by
  induction t using ind with
  | h k n i l ih =>
    intro h
    have hh := ok_head h
    refine ⟨scope_nonneg _ (fun e => (hh e).1), ?_⟩
    rw [scope]
    have key : ∀ (l' : List Tm), (∀ t ∈ l', t.scope ≤ 1048577) → ∀ (j : Nat) (a : Int), a ≤ 1048577 → scopes k j a l' ≤ 1048577 := by
      intro l'
      induction l' with
      | nil => intro _ j a h; simpa [scopes] using h
      | cons t ts ih2 =>
        intro h j a ha
        rw [scopes]
        have := h t (by simp)
        have := under_le k j
        exact ih2 (fun t ht => h t (by simp [ht])) _ _ (by omega)
    refine key l (fun t ht => ?_) 0 _ ?_
    rotate_left
    · by_cases h5 : (k == 5) = true
      · have := hh h5; rw [if_pos h5]; omega
      · rw [if_neg h5]; omega
    obtain ⟨j, hj, rfl⟩ := List.mem_iff_getElem.1 ht
    exact (ih _ ht (ok_arg h j hj)).2
theorem scopes_le {k i : Int} {n : List UInt8} {l : List Tm} (h : (mk k n i l).ok) (j : Nat) : 0 ≤ scopes k 0 (if k == 5 then i + 1 else 0) (l.take j) ∧ scopes k 0 (if k == 5 then i + 1 else 0) (l.take j) ≤ 1048577 := by
  have := scope_le (mk k n i (l.take j)) (fun b x hx => h b x (by
    rw [nodes_mk] at hx ⊢
    rcases List.mem_cons.1 hx with rfl | hx
    · simp
    · exact List.mem_cons.2 (.inr ((nodesA_take_prefix l b k j).subset hx))))
  rw [scope] at this
  exact this
end Go.LF.Tm
namespace Go.Proofs.YtdcbgkmhlpkjiaaDoor
open Go.RowKit Go.LF

set_option maxRecDepth 100000 in
set_option maxHeartbeats 4000000 in
theorem refscope_any (t : Tm) : t.size ≤ 1000000 → t.ok → ∀ (w : World) (cs : List Value), Rep none' w t.dat cs →
    Calls Tryd.prog 81 #[.agg cs.toArray] w fun e w' => e = .returned (.int .i64 t.scope) ∧ Upto none' w w' := by
  induction t using Tm.ind with
  | h k n i ts ih =>
    intro hs hok w cs h
    obtain ⟨a, cap, rfl, hcap, hE⟩ := rep_tm.1 h
    have hlen := Tm.length_le_sizes ts
    simp only [Tm.size_mk] at hs
    have hi := Tm.ok_head hok
    have hr : (Tm.mk k n i ts).scope = Tm.scopes k 0 (if k == 5 then i + 1 else 0) ts := by rw [Tm.scope]
    generalize (Tm.mk k n i ts).scope = r at *
    have HR := hid hr
    have HOK := hid hok
    clear hr hok h
    obtain ⟨s0, hs0⟩ : ∃ s0, s0 = (if k == 5 then i + 1 else 0) := ⟨_, rfl⟩
    have hs1 : 0 ≤ s0 ∧ s0 ≤ 1048577 := by
      rw [hs0]
      by_cases h5 : (k == 5) = true
      · have := hi h5; rw [if_pos h5]; omega
      · rw [if_neg h5]; omega
    have HS := hid hs0
    have hsl : ∀ j, 0 ≤ Tm.scopes k 0 s0 (ts.take j) ∧ Tm.scopes k 0 s0 (ts.take j) ≤ 1048577 := by rw [hs0]; exact Tm.scopes_le HOK.out
    have HSL := hid hsl
    clear hsl
    have hw0 : ((k == 5) = true ∧ s0 = i + 1 ∧ 0 ≤ i ∧ i ≤ 1048576) ∨ ((k == 5) = false ∧ s0 = 0) := by
      by_cases h5 : (k == 5) = true
      · exact .inl ⟨h5, by rw [hs0, if_pos h5], hi h5⟩
      · exact .inr ⟨by simpa using h5, by rw [hs0, if_neg h5]⟩
    rw [← hs0] at HR
    clear hi hs0
    rcases hw0 with ⟨h5, hs2, hi0, hi1⟩ | ⟨h5, hs2⟩
    all_goals
      have HS2 := hid hs2
      clear hs2
      go_enter Tryd.func81, Tryd.ntmps81
      go_wp2_with fail
      go_loopw [3, 4] (fun v3 v4 wr => ∃ j : Nat, j ≤ ts.length ∧ v4 = .int .i64 j ∧ v3 = .int .i64 (Tm.scopes k 0 s0 (ts.take j)) ∧ Upto none' (w.alloc (.cells #[.int .i64 k, .string (B n), .int .i64 i, .slice a ts.length cap] 25)) wr)
        (fun _ v4 _ => ts.length - (intOf v4).toNat)
      case atStart => exact ⟨0, Nat.zero_le _, rfl, int_eq (by rw [HS2.out]; simp [Tm.scopes]), Upto.refl _ _⟩
      case round =>
        obtain ⟨j, hj, rfl, rfl, hU⟩ := hrel
        have hw : Upto none' w wr := hU.behind
        obtain ⟨b0, b1, b2, b3⟩ := box_new hU
        obtain ⟨c0, c1⟩ := HSL.out j
        by_cases hlt : j < ts.length
        · obtain ⟨b, o, k1, n1, x1, s1, cp, rfl, hb, _, p0, p1, p2, p3, hRp⟩ := arg_tm (hE.on hw) j hlt
          have hT := Tm.scopes_take_succ k ts 0 s0 j hlt
          rw [Nat.zero_add] at hT
          have hs4 := Tm.size_le_sizes (List.getElem_mem hlt)
          have hok := Tm.ok_arg HOK.out j hlt
          obtain ⟨d0, d1⟩ := Tm.scope_le _ hok
          obtain ⟨e0, e1⟩ := Tm.under_le k j
          have hd : Upto none' wr wr.drew := (Upto.refl none' wr).drew
          have H1 := fun w' (hU : Upto none' wr w') => (ih _ (List.getElem_mem hlt) (by omega) hok w' _ (hRp.on hU)).mono fun _ _ ⟨he, hV⟩ => (⟨he, hU.and hV⟩ : _ ∧ Upto none' wr _)
          have H2 := fun w' (hU : Upto none' wr w') => (under_any k j j rfl n i (.slice (some ⟨b, o, none⟩) ts.length cap) w').mono fun _ _ ⟨he, hV⟩ => (⟨he, hU.and hV⟩ : _ ∧ Upto none' wr _)
          have HT := hid hT
          clear hT hok
          have j0 : (0 : Int) ≤ (j : Int) := by omega
          have j1 : (j : Int) < (ts.length : Int) := by omega
          generalize ts[j].scope = sc at *
          generalize Tm.under k j = u at *
          generalize Tm.scopes k 0 s0 (ts.take j) = acc at *
          go_wp2_with fail
          go_region_held3 (fun w' => (w'.cell? ⟨w.heap.size, 0, none⟩ = some (.int .i64 k) ∧ w'.cell? ⟨w.heap.size, 1, none⟩ = some (.string (B n)) ∧ w'.cell? ⟨w.heap.size, 2, none⟩ = some (.int .i64 i) ∧ w'.cell? ⟨w.heap.size, 3, none⟩ = some (.slice (some ⟨b, o, none⟩) ts.length cap)) ∧
              w'.cell? ⟨b, o + j * 4, none⟩ = some (.int .i64 k1) ∧ w'.cell? ⟨b, o + j * 4 + 1, none⟩ = some (.string (B n1)) ∧ w'.cell? ⟨b, o + j * 4 + 2, none⟩ = some (.int .i64 x1) ∧ w'.cell? ⟨b, o + j * 4 + 3, none⟩ = some (.slice s1 ts[j].args.length cp))
            (first | go_keep | (exact ⟨⟨hU1.cell b0 (fun x => x), hU1.cell b1 (fun x => x), hU1.cell b2 (fun x => x), hU1.cell b3 (fun x => x)⟩, hU1.cell p0 (fun x => x), hU1.cell p1 (fun x => x), hU1.cell p2 (fun x => x), hU1.cell p3 (fun x => x)⟩))
            (first | (go_at_call 81; refine (H1 _ (by first | exact hU1 | exact hd)).mono ?_; rintro e w1 ⟨rfl, hU1⟩) | (go_at_call 116; refine (H2 _ (by first | exact hU1 | exact hd)).mono ?_; rintro e w1 ⟨rfl, hU1⟩))
          go_wp2
          go_roundw
          case rel =>
            have fin : ∃ j1 : Nat, j1 ≤ ts.length ∧ Value.int .i64 ((j : Int) + 1) = .int .i64 j1 ∧ Value.int .i64 (if acc < IntKind.i64.wrap (sc - u) then IntKind.i64.wrap (sc - u) else acc) = .int .i64 (Tm.scopes k 0 s0 (ts.take j1)) ∧ Upto none' _ w1 :=
              ⟨j + 1, by omega, by go_num, int_eq (by rw [HT.out, Go.IntWalk.i64_left, Go.IntWalk.wrap64_in _ (by omega)]; split <;> omega), hU.and hU1⟩
            first | exact fin | ((repeat apply Exists.intro); exact ⟨fin, rfl⟩)
          case measure => simp [intOf]; omega
        · have hj' : ts.take j = ts := List.take_of_length_le (by omega)
          rw [hj'] at *
          go_wp2
          go_ret
          exact ⟨ret_int HR.out.symm, hw⟩

set_option maxRecDepth 100000 in
set_option maxHeartbeats 4000000 in
theorem refoccurs_any (t : Tm) : t.size ≤ 1000000 → ∀ (v : Int), -1000000000 ≤ v → v + t.size ≤ 2000000000 → ∀ (w : World) (cs : List Value), Rep none' w t.dat cs →
    Calls Tryd.prog 82 #[.agg cs.toArray, .int .i64 v] w fun e w' => e = .returned (.bool (t.occ v)) ∧ Upto none' w w' := by
  induction t using Tm.ind with
  | h k n i ts ih =>
    intro hs v hv0 hv1 w cs h
    obtain ⟨a, cap, rfl, hcap, hE⟩ := rep_tm.1 h
    have hlen := Tm.length_le_sizes ts
    simp only [Tm.size_mk] at hs hv1
    have hr : (Tm.mk k n i ts).occ v = ((k == 5 && i == v) || Tm.occs k 0 ts v) := by rw [Tm.occ]
    generalize (Tm.mk k n i ts).occ v = r at *
    have HR := hid hr
    clear hr h
    by_cases h5 : (k == 5 && i == v) = true
    · have hr : r = true := by rw [HR.out, h5]; rfl
      subst hr
      simp only [Bool.and_eq_true] at h5
      obtain ⟨h5, h6⟩ := h5
      go_enter Tryd.func82, Tryd.ntmps82
      go_wp2_with fail
      go_ret
      exact ⟨rfl, (Upto.refl none' w).alloc _⟩
    have hr : r = Tm.occs k 0 ts v := by rw [HR.out]; simp only [Bool.not_eq_true] at h5; rw [h5]; rfl
    have HR := hid hr
    clear hr
    have hw0 : ((k == 5) = false) ∨ ((k == 5) = true ∧ (i == v) = false) := by
      cases h : (k == 5)
      · exact .inl rfl
      · rw [h] at h5; exact .inr ⟨rfl, by simpa using h5⟩
    clear h5
    rcases hw0 with h5 | ⟨h5, h6⟩
    all_goals
      go_enter Tryd.func82, Tryd.ntmps82
      go_wp2_with fail
      go_loopw [5] (fun v4 wr => ∃ j : Nat, j ≤ ts.length ∧ v4 = .int .i64 j ∧ Tm.occs k 0 (ts.take j) v = false ∧ Upto none' (w.alloc (.cells #[.int .i64 k, .string (B n), .int .i64 i, .slice a ts.length cap] 25)) wr)
        (fun v4 _ => ts.length - (intOf v4).toNat)
      case atStart => exact ⟨0, Nat.zero_le _, rfl, rfl, Upto.refl _ _⟩
      case round =>
        obtain ⟨j, hj, rfl, hA, hU⟩ := hrel
        have hw : Upto none' w wr := hU.behind
        obtain ⟨b0, b1, b2, b3⟩ := box_new hU
        have HA := hid hA
        clear hA
        by_cases hlt : j < ts.length
        · obtain ⟨b, o, k1, n1, x1, s1, cp, rfl, hb, _, p0, p1, p2, p3, hRp⟩ := arg_tm (hE.on hw) j hlt
          have hT := Tm.occs_take_succ k ts v 0 j hlt
          rw [Nat.zero_add, HA.out, Bool.false_or] at hT
          have hM := Tm.occs_true k ts v j hlt
          have hs4 := Tm.size_le_sizes (List.getElem_mem hlt)
          obtain ⟨e0, e1⟩ := Tm.under_le k j
          have hd : Upto none' wr wr.drew := (Upto.refl none' wr).drew
          have H1 : ∀ (z : Int) (w' : World), z = v + Tm.under k j → Upto none' wr w' → Calls Tryd.prog 82 #[.agg #[.int .i64 k1, .string (B n1), .int .i64 x1, .slice s1 ts[j].args.length cp], .int .i64 z] w' fun e w'' =>
              e = Ending.returned (.bool (ts[j].occ (v + Tm.under k j))) ∧ Upto none' wr w'' := by
            intro z w' hz hU
            subst hz
            exact (ih _ (List.getElem_mem hlt) (by omega) _ (by omega) (by omega) w' _ (hRp.on hU)).mono fun _ _ ⟨he, hV⟩ => ⟨he, hU.and hV⟩
          have H2 := fun w' (hU : Upto none' wr w') => (under_any k j j rfl n i (.slice (some ⟨b, o, none⟩) ts.length cap) w').mono fun _ _ ⟨he, hV⟩ => (⟨he, hU.and hV⟩ : _ ∧ Upto none' wr _)
          have HT := hid hT
          have HM := hid hM
          clear hT hM
          have j0 : (0 : Int) ≤ (j : Int) := by omega
          have j1 : (j : Int) < (ts.length : Int) := by omega
          generalize ts[j].occ (v + Tm.under k j) = bo at *
          generalize Tm.under k j = u at *
          go_wp2_with fail
          go_region_held3 (fun w' => (w'.cell? ⟨w.heap.size, 0, none⟩ = some (.int .i64 k) ∧ w'.cell? ⟨w.heap.size, 1, none⟩ = some (.string (B n)) ∧ w'.cell? ⟨w.heap.size, 2, none⟩ = some (.int .i64 i) ∧ w'.cell? ⟨w.heap.size, 3, none⟩ = some (.slice (some ⟨b, o, none⟩) ts.length cap)) ∧
              w'.cell? ⟨b, o + j * 4, none⟩ = some (.int .i64 k1) ∧ w'.cell? ⟨b, o + j * 4 + 1, none⟩ = some (.string (B n1)) ∧ w'.cell? ⟨b, o + j * 4 + 2, none⟩ = some (.int .i64 x1) ∧ w'.cell? ⟨b, o + j * 4 + 3, none⟩ = some (.slice s1 ts[j].args.length cp))
            (first | go_keep | (exact ⟨⟨hU1.cell b0 (fun x => x), hU1.cell b1 (fun x => x), hU1.cell b2 (fun x => x), hU1.cell b3 (fun x => x)⟩, hU1.cell p0 (fun x => x), hU1.cell p1 (fun x => x), hU1.cell p2 (fun x => x), hU1.cell p3 (fun x => x)⟩))
            (first | (go_at_call 82; refine (H1 _ _ (by first | rfl | (rw [Go.IntWalk.i64_left, Go.IntWalk.wrap64_in _ (by omega)])) (by first | exact hU1 | exact hd)).mono ?_; rintro e w1 ⟨rfl, hU1⟩) | (go_at_call 116; refine (H2 _ (by first | exact hU1 | exact hd)).mono ?_; rintro e w1 ⟨rfl, hU1⟩))
          cases bo
          all_goals go_wp2
          · go_roundw
            case rel =>
              have fin : ∃ j1 : Nat, j1 ≤ ts.length ∧ Value.int .i64 ((j : Int) + 1) = .int .i64 j1 ∧ Tm.occs k 0 (ts.take j1) v = false ∧ Upto none' _ w1 :=
                ⟨j + 1, by omega, by go_num, HT.out, hU.and hU1⟩
              first | exact fin | ((repeat apply Exists.intro); exact ⟨fin, rfl⟩)
            case measure => simp [intOf]; omega
          · go_ret
            exact ⟨ret_bool (by rw [HR.out]; exact (HM.out (by trivial)).symm), hw.and hU1⟩
        · have hj' : ts.take j = ts := List.take_of_length_le (by omega)
          have HA' := HA.out
          rw [hj'] at HA'
          have HO := hid HA'
          clear HA HA' hj'
          go_wp2
          go_ret
          exact ⟨ret_bool (by rw [HR.out, HO.out]), hw⟩

set_option maxHeartbeats 2000000 in
theorem refScope_any (t : Tm) (hwt : t.wt ≤ 1000000) (w : World) (cs : List Value) (h : Rep none' w t.dat cs) :
    Calls Tryd.prog 32 #[.agg cs.toArray] w fun e w' => e = .returned (.int .i64 (if t.wf == 0 then t.scope else 0)) ∧ Upto none' w w' := by
  have HW := fun w cs h => refWellFormed_any t hwt w cs h
  have HS := fun (hok : t.ok) w cs h => refscope_any t (Nat.le_trans (Tm.size_le_wt t) hwt) hok w cs h
  have hq : t.wf = 0 → t.ok := fun h => (Tm.wf_ok t h).1
  obtain ⟨k, n, i, ts, a, cap, ht, rfl, hcap, hE⟩ := tm_open h
  generalize t.scope = sc at *
  generalize t.wf = wf at *
  have HT := hid ht
  clear ht hcap
  generalize ts.length = len at *
  by_cases hz : (wf == 0) = true
  · have z1 : (wf != 0) = false := by simp [bne, hz]
    have hok := hq (by simpa using hz)
    simp only [hz, if_true]
    clear hq
    go_enter Tryd.func32, Tryd.ntmps32
    go_wp2_with fail
    refine (HW _ _ (h.new _)).mono ?_
    rintro e w1 ⟨rfl, hU⟩
    obtain ⟨b0, b1, b2, b3⟩ := box_new hU
    have hw1 : Upto none' w w1 := hU.behind'
    go_wp2_with fail
    refine (HS hok _ _ (h.on hw1)).mono ?_
    rintro e w2 ⟨rfl, hU2⟩
    go_wp2
    go_ret
    exact ⟨rfl, hw1.and hU2⟩
  · have z1 : (wf != 0) = true := by simp at hz; simp [bne, hz]
    simp only [hz]
    clear hq
    go_enter Tryd.func32, Tryd.ntmps32
    go_wp2_with fail
    refine (HW _ _ (h.new _)).mono ?_
    rintro e w1 ⟨rfl, hU⟩
    have hw1 : Upto none' w w1 := hU.behind'
    go_wp2
    go_ret
    exact ⟨rfl, hw1⟩

set_option maxHeartbeats 2000000 in
theorem refOccurs_any (t : Tm) (hwt : t.wt ≤ 1000000) (v : Int) (hv : v ≤ 1000000000) (w : World) (cs : List Value) (h : Rep none' w t.dat cs) :
    Calls Tryd.prog 34 #[.agg cs.toArray, .int .i64 v] w fun e w' => e = .returned (.bool (t.wf == 0 && (decide (0 ≤ v) && t.occ v))) ∧ Upto none' w w' := by
  have hs : t.size ≤ 1000000 := Nat.le_trans (Tm.size_le_wt t) hwt
  have HW := fun w cs h => refWellFormed_any t hwt w cs h
  have HS := fun (h0 : 0 ≤ v) w cs h => refoccurs_any t hs v (by omega) (by omega) w cs h
  obtain ⟨k, n, i, ts, a, cap, ht, rfl, hcap, hE⟩ := tm_open h
  generalize t.occ v = oc at *
  generalize t.wf = wf at *
  have HT := hid ht
  clear ht hcap
  generalize ts.length = len at *
  by_cases hz : (wf == 0) = true
  · have z1 : (wf != 0) = false := by simp [bne, hz]
    by_cases h0 : 0 ≤ v
    · rw [hz, decide_eq_true h0]
      go_enter Tryd.func34, Tryd.ntmps34
      go_wp2_with fail
      refine (HW _ _ (h.new _)).mono ?_
      rintro e w1 ⟨rfl, hU⟩
      obtain ⟨b0, b1, b2, b3⟩ := box_new hU
      have hw1 : Upto none' w w1 := hU.behind'
      go_wp2_with fail
      refine (HS h0 _ _ (h.on hw1)).mono ?_
      rintro e w2 ⟨rfl, hU2⟩
      go_wp2
      go_ret
      exact ⟨rfl, hw1.and hU2⟩
    · rw [decide_eq_false h0, Bool.false_and, Bool.and_false]
      go_enter Tryd.func34, Tryd.ntmps34
      go_wp2
      go_ret
      exact ⟨rfl, (Upto.refl none' w).alloc _⟩
  · have z1 : (wf != 0) = true := by simp at hz; simp [bne, hz]
    replace hz : (wf == 0) = false := by simpa using hz
    rw [hz, Bool.false_and]
    by_cases h0 : 0 ≤ v
    · go_enter Tryd.func34, Tryd.ntmps34
      go_wp2_with fail
      refine (HW _ _ (h.new _)).mono ?_
      rintro e w1 ⟨rfl, hU⟩
      have hw1 : Upto none' w w1 := hU.behind'
      go_wp2
      go_ret
      exact ⟨rfl, hw1⟩
    · go_enter Tryd.func34, Tryd.ntmps34
      go_wp2
      go_ret
      exact ⟨rfl, (Upto.refl none' w).alloc _⟩
end Go.Proofs.YtdcbgkmhlpkjiaaDoor
