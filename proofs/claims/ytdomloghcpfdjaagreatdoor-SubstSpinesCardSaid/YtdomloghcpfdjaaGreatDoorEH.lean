/- The reference's Size, Depth, Small once more: of larger terms. -/
import Derived.Test.YtdomloghcpfdjaaGreatDoorCD
import Derived.Test.YtdomloghcpfdjaaGreatDoorEF
namespace Go.Proofs.YtdomloghcpfdjaaGreatDoor
open Go.RowKit Go.LF
set_option maxHeartbeats 1000000 in
theorem refSizeB_any (t : Tm) : t.size ≤ 100000000 → ∀ (w : World) (cs : List Value), Rep none' w t.dat cs →
    Calls Tryz.prog 182 #[.agg cs.toArray] w fun e w' => e = .returned (.int .i64 t.size) ∧ Upto none' w w' := by
  induction t using Tm.ind with
  | h k n i ts ih =>
    intro hs w cs h
    obtain ⟨a, cap, rfl, hcap, hE⟩ := rep_tm.1 h
    have hlen := Tm.length_le_sizes ts
    have hds := Tm.depths_le_sizes ts
    simp only [Tm.size_mk] at hs
    go_enter Tryz.func182, Tryz.ntmps182
    go_wp2_with fail
    go_loopw [3, 4] (fun v3 v9 wr => ∃ j : Nat, j ≤ ts.length ∧ v9 = .int .i64 j ∧ v3 = .int .i64 (1 + Tm.sizes (ts.take j)) ∧ Upto none' (w.alloc (.cells #[.int .i64 k, .string (B n), .int .i64 i, .slice a ts.length cap] 29)) wr)
      (fun _ v9 _ => ts.length - (intOf v9).toNat)
    case atStart => exact ⟨0, Nat.zero_le _, rfl, rfl, Upto.refl _ _⟩
    case round =>
      obtain ⟨j, hj, rfl, rfl, hU⟩ := hrel
      have hw : Upto none' w wr := hU.behind
      obtain ⟨b0, b1, b2, b3⟩ := box_new hU
      have hdj := Tm.sizes_take_le ts j
      by_cases hlt : j < ts.length
      · obtain ⟨b, o, k1, n1, x1, s1, c1, rfl, hb, _, hc0, hc1, hc2, hc3, hR⟩ := arg_tm (hE.on hw) j hlt
        have hd1 := Tm.depth_le_depths (List.getElem_mem hlt)
        have hs1 := Tm.size_le_sizes (List.getElem_mem hlt)
        have hsum : Tm.sizes (ts.take j) + ts[j].size ≤ Tm.sizes ts := by rw [← Tm.sizes_take_succ ts j hlt]; exact Tm.sizes_take_le ts (j + 1)
        go_wp2_with fail
        refine (ih _ (List.getElem_mem hlt) (by omega) _ _ hR).mono ?_
        rintro e w1 ⟨rfl, hU1⟩
        go_wp2
        go_roundw
        case rel =>
          refine ⟨j + 1, by omega, by go_num, int_eq ?_, hU.and hU1⟩
          rw [Tm.sizes_take_succ ts j hlt]
          omega
        case measure => simp [intOf]; omega
      · have hj' : ts.take j = ts := List.take_of_length_le (by omega)
        go_wp2
        go_ret
        exact ⟨ret_int (by rw [hj']; simp; omega), hw⟩
set_option maxHeartbeats 1000000 in
theorem refDepthB_any (t : Tm) : t.size ≤ 100000000 → ∀ (w : World) (cs : List Value), Rep none' w t.dat cs →
    Calls Tryz.prog 183 #[.agg cs.toArray] w fun e w' => e = .returned (.int .i64 t.depth) ∧ Upto none' w w' := by
  induction t using Tm.ind with
  | h k n i ts ih =>
    intro hs w cs h
    obtain ⟨a, cap, rfl, hcap, hE⟩ := rep_tm.1 h
    have hlen := Tm.length_le_sizes ts
    have hds := Tm.depths_le_sizes ts
    simp only [Tm.size_mk] at hs
    go_enter Tryz.func183, Tryz.ntmps183
    go_wp2_with fail
    go_loopw [3, 4] (fun v3 v9 wr => ∃ j : Nat, j ≤ ts.length ∧ v9 = .int .i64 j ∧ v3 = .int .i64 (Tm.depths (ts.take j)) ∧ Upto none' (w.alloc (.cells #[.int .i64 k, .string (B n), .int .i64 i, .slice a ts.length cap] 29)) wr)
      (fun _ v9 _ => ts.length - (intOf v9).toNat)
    case atStart => exact ⟨0, Nat.zero_le _, rfl, rfl, Upto.refl _ _⟩
    case round =>
      obtain ⟨j, hj, rfl, rfl, hU⟩ := hrel
      have hw : Upto none' w wr := hU.behind
      obtain ⟨b0, b1, b2, b3⟩ := box_new hU
      have hdj := Tm.depths_take_le ts j
      by_cases hlt : j < ts.length
      · obtain ⟨b, o, k1, n1, x1, s1, c1, rfl, hb, _, hc0, hc1, hc2, hc3, hR⟩ := arg_tm (hE.on hw) j hlt
        have hd1 := Tm.depth_le_depths (List.getElem_mem hlt)
        have hs1 := Tm.size_le_sizes (List.getElem_mem hlt)
        go_wp2_with fail
        refine (ih _ (List.getElem_mem hlt) (by omega) _ _ hR).mono ?_
        rintro e w1 ⟨rfl, hU1⟩
        go_wp2
        go_roundw
        case rel =>
          refine ⟨j + 1, by omega, by go_num, int_eq ?_, hU.and hU1⟩
          rw [Tm.depths_take_succ ts j hlt]
          split <;> omega
        case measure => simp [intOf]; omega
      · have hj' : ts.take j = ts := List.take_of_length_le (by omega)
        go_wp2
        go_ret
        exact ⟨ret_int (by simp), hw⟩
set_option maxHeartbeats 1000000 in
theorem refSmallB_any (t : Tm) (hs' : t.size ≤ 100000000) (w : World) (cs : List Value) (h : Rep none' w t.dat cs) :
    Calls Tryz.prog 113 #[.agg cs.toArray] w fun e w' => e = .returned (.bool t.small) ∧ Upto none' w w' := by
  have hp : (decide (t.size ≤ 4096) && decide (t.depth ≤ 128)) = t.small := rfl
  have HS := fun w cs h => refSizeB_any t hs' w cs h
  have HD := fun w cs h => refDepthB_any t hs' w cs h
  obtain ⟨k, n, i, ts, a, cap, ht, rfl, hcap, hE⟩ := tm_open h
  generalize t.size = sz at *
  generalize t.depth = dp at *
  generalize t.small = sm at *
  have HT := hid ht
  have HP := hid hp
  clear ht hp hcap
  generalize ts.length = len at *
  go_enter Tryz.func113, Tryz.ntmps113
  go_wp2_with fail
  refine (HS _ _ (h.new _)).mono ?_
  rintro e w1 ⟨rfl, hU⟩
  obtain ⟨b0, b1, b2, b3⟩ := box_new hU
  have hw1 : Upto none' w w1 := hU.behind
  by_cases hsz : sz ≤ 4096
  · go_wp2_with fail
    refine (HD _ _ (h.on hw1)).mono ?_
    rintro e w2 ⟨rfl, hU2⟩
    go_wp2
    go_ret
    exact ⟨ret_bool (by rw [← HP.out, Bool.eq_iff_iff]; simp; omega), hw1.and hU2⟩
  · go_wp2_with fail
    go_ret
    exact ⟨ret_bool (by rw [← HP.out, Bool.eq_iff_iff]; simp; omega), hw1⟩
end Go.Proofs.YtdomloghcpfdjaaGreatDoor
namespace Go.Proofs.YtdomloghcpfdjaaGreatDoor
open Go.RowKit Go.LF
/-- What a step of the reference's machine hands back: the term, and the machine's error. -/
def RefR (O : Nat → Prop) (x : Nat) (r : Tm.Res) (e : Ending) (w' : World) : Prop :=
  (∃ k n i a len cap, e = .returned (.agg #[.int .i64 k, .string (B n), .int .i64 i, .slice a len cap]) ∧ Rep O w' r.t.dat [.int .i64 k, .string (B n), .int .i64 i, .slice a len cap]) ∧ Box2 w' x (.int .i64 (r.w : Int)) (.int .i64 r.e) 103
set_option maxRecDepth 100000 in
set_option maxHeartbeats 8000000 in
theorem refChecked_any (t : Tm) (hs : t.size ≤ 100000000) (x wj : Nat) (O : Nat → Prop) (w : World) (hx : O x) (hO : ∀ b, O b → b < w.heap.size) (k i : Int) (n : List UInt8) (a : Option Addr) (len cap : Nat) (hX : Box2 w x (.int .i64 (wj : Int)) (.int .i64 0) 103) (hR : Rep O w t.dat [.int .i64 k, .string (B n), .int .i64 i, .slice a len cap]) :
    Calls Tryz.prog 158 #[.pointer (some ⟨x, 0, none⟩), .agg #[.int .i64 k, .string (B n), .int .i64 i, .slice a len cap]] w fun e w' => RefR O x (Tm.chk t wj) e w' ∧ Upto (fun b => b = x) w w' := by
  obtain ⟨w1, hw1⟩ : ∃ w1, w1 = (w.alloc (.cells #[.int .i64 k, .string (B n), .int .i64 i, .slice a len cap] 29)).alloc (.cells #[.int .i64 0, .string (B []), .int .i64 0, .slice none 0 0] 29) := ⟨_, rfl⟩
  have hU1 : Upto none' w w1 := by rw [hw1]; exact ((Upto.refl none' w).alloc _).alloc _
  have ht1 : Box4 w1 w.heap.size (.int .i64 k) (.string (B n)) (.int .i64 i) (.slice a len cap) 29 := by rw [hw1]; exact (Box4.at_new rfl).kept ((Upto.refl none' _).alloc _)
  have hr1 : Box4 w1 (w.heap.size + 1) (.int .i64 0) (.string (B [])) (.int .i64 0) (.slice none 0 0) 29 := by rw [hw1]; exact Box4.at_new (by simp)
  have hX1 := hX.kept hU1
  have hR1 := (Rep.freshO hR).on hU1
  have C := refSmallB_any t hs w1 _ (rep_pre hR1)
  have HW := hid hw1
  obtain ⟨H, hH⟩ : ∃ H, H = w.heap.size := ⟨_, rfl⟩
  have HH := hid hH
  rw [← hH] at ht1 hr1 hR1
  have hxH : x < H := by rw [hH]; exact hO x hx
  obtain ⟨r, hr⟩ : ∃ r, r = Tm.chk t wj := ⟨_, rfl⟩
  rw [← hr]
  have HRR := hid hr
  obtain ⟨sm, hsm⟩ : ∃ sm, sm = t.small := ⟨_, rfl⟩
  rw [← hsm] at C
  have HSM := hid hsm
  clear hw1 hH hO hX hR hr hsm
  obtain ⟨c0, c1⟩ := hX1.cells
  go_enter Tryz.func158, Tryz.ntmps158
  go_upto_region 1 with fail
  rw [← show B [] = { data := #[] } from rfl, ← HW.out, ← HH.out]
  obtain ⟨t0, t1, t2, t3⟩ := ht1.cells
  go_wp2_with fail
  refine C.mono ?_
  rintro e w2 ⟨rfl, hU2⟩
  have hX2 := hX1.kept hU2
  have hr2 := hr1.kept hU2
  have ht2 := ht1.kept hU2
  have hR2 := hR1.on hU2
  obtain ⟨d0, d1⟩ := hX2.cells
  obtain ⟨g0, g1⟩ := hX2.frozens
  clear c0 c1 t0 t1 t2 t3
  obtain ⟨t0, t1, t2, t3⟩ := ht2.cells
  obtain ⟨y0, y1, y2, y3⟩ := hr2.cells
  obtain ⟨z0, z1, z2, z3⟩ := hr2.frozens
  have hlr := hr2.lt
  cases sm
  · have hrc : r = ⟨2, Tm.none0, wj⟩ := by rw [HRR.out]; unfold Tm.chk; rw [← HSM.out]; rfl
    have hs3 := hX2.set1 (.int .i64 2)
    have hU3 : Upto (fun b => b = x) w2 (w2.setCell ⟨x, 1, none⟩ (.int .i64 2)) := Upto.set (Upto.refl _ _) 1 _
    have hr3 := hr2.keep hU3 (by omega)
    have hset := hr3.set (d0 := .int .i64 0) (d1 := .string (B [])) (d2 := .int .i64 0) (d3 := .slice none 0 0)
    obtain ⟨e0, e1, e2, e3⟩ := hset.1.cells
    have HEE := hid (And.intro e0 (And.intro e1 (And.intro e2 (And.intro e3 (And.intro hset.2 (And.intro hs3 (And.intro hU3 hrc)))))))
    have hne : ¬ x = H + 1 := by omega
    clear e0 e1 e2 e3 hset hs3 hU3 hr3 hrc
    go_wp2_with fail
    obtain ⟨e0, e1, e2, e3, hset, hs3, hU3, hrc⟩ := HEE.out
    refine bodyPost_ret (v := .agg #[.int .i64 0, .string (B []), .int .i64 0, .slice none 0 0]) ?_ rfl ?_
    · simp [results, Tryz.f158, go_sem, e0, e1, e2, e3]
    · refine ⟨⟨⟨0, [], 0, none, 0, 0, rfl, by rw [hrc]; exact rep_leaf 0 [] 0⟩, ?_⟩, (((hU1.and hU2).mono (fun _ _ x => x.elim)).trans hU3 (fun _ _ e => e)).trans hset (fun b hb e => by have := HH.out; omega)⟩
      rw [hrc]
      exact hs3.keep hset hne
  · have hrc : r = ⟨0, t, wj⟩ := by rw [HRR.out]; exact Tm.small_chk HSM.out.symm wj
    have hset := hr2.set (d0 := .int .i64 k) (d1 := .string (B n)) (d2 := .int .i64 i) (d3 := .slice a len cap)
    obtain ⟨e0, e1, e2, e3⟩ := hset.1.cells
    have HEE := hid (And.intro e0 (And.intro e1 (And.intro e2 (And.intro e3 (And.intro hset.2 hrc)))))
    have hne : ¬ x = H + 1 := by omega
    clear e0 e1 e2 e3 hset hrc
    go_wp2_with fail
    obtain ⟨e0, e1, e2, e3, hset, hrc⟩ := HEE.out
    refine bodyPost_ret (v := .agg #[.int .i64 k, .string (B n), .int .i64 i, .slice a len cap]) ?_ rfl ?_
    · simp [results, Tryz.f158, go_sem, e0, e1, e2, e3]
    · refine ⟨⟨⟨k, n, i, a, len, cap, rfl, by rw [hrc]; exact Rep.weaken (fun b _ e => .inl e) _ _ (Rep.keep hset (fun b e => .inr (by omega)) _ _ hR2)⟩, ?_⟩, ((hU1.and hU2).mono (fun _ _ x => x.elim)).trans hset (fun b hb e => by have := HH.out; omega)⟩
      rw [hrc]
      exact hX2.keep hset hne
end Go.Proofs.YtdomloghcpfdjaaGreatDoor
