/- Occurs, by the iterator. -/
import Derived.Test.YtdcbgkmhlpkjiaaDoorTermScope
namespace Go.Proofs.YtdcbgkmhlpkjiaaDoor
open Go.RowKit Go.LF Go.Shelf
attribute [local go_sem] Oper.semAt_some

def occW (v : Int) (x : Nd) : Bool := x.k == 5 && wrap64 (x.i - x.b) == v
theorem occW_eq (t : Tm) (h : t.wf = 0) (v : Int) (x : Nd) (hx : x.bare ∈ t.nodes 0) : occW v x = Tm.occStep v x.bare := by
  obtain ⟨ho, hs, _⟩ := Tm.wf_ok t h
  have h1 := ho 0 _ hx
  have h2 := Tm.nodes_b t 0 _ hx
  simp only [Nd.bare] at h1 h2
  unfold Tm.occStep occW
  simp only [Nd.bare]
  by_cases hk : (x.k == 5) = true
  · have h3 := h1.1 hk
    simp only at h3
    rw [Go.IntWalk.wrap64_in (x.i - x.b) (by omega)]
  · simp only [Bool.not_eq_true] at hk
    simp [hk]
theorem occW_none (t : Tm) (h : t.wf = 0) (v : Int) (xs : List Nd) (hx : xs.map Nd.bare = t.nodes 0) (hn : xs.any (occW v) = false) : t.occ v = false := by
  have := Tm.occ_any t 0 v
  rw [Int.add_zero] at this
  rw [← this, ← hx, List.any_map]
  rw [List.any_eq_false] at hn ⊢
  intro x hm
  have := hn x hm
  rw [occW_eq t h v x (by rw [← hx]; exact List.mem_map_of_mem hm)] at this
  exact this
theorem occW_some (t : Tm) (h : t.wf = 0) (v : Int) (xs : List Nd) (hx : xs.map Nd.bare <+: t.nodes 0) (hn : xs.any (occW v) = true) : t.occ v = true := by
  have := Tm.occ_any t 0 v
  rw [Int.add_zero] at this
  rw [← this]
  obtain ⟨x, hm, hx2⟩ := List.any_eq_true.1 hn
  have hm' := hx.subset (List.mem_map_of_mem hm)
  rw [occW_eq t h v x hm'] at hx2
  exact List.any_eq_true.2 ⟨_, hm', hx2⟩

theorem boxes2 {w w1 : World} {c0 c1 c2 c3 d : Value} {T T2 : TypeId} (hU : Upto none' ((w.alloc (.cells #[c0, c1, c2, c3] T)).alloc (.cells #[d] T2)) w1) :
    (w1.cell? ⟨w.heap.size, 0, none⟩ = some c0 ∧ w1.cell? ⟨w.heap.size, 1, none⟩ = some c1 ∧ w1.cell? ⟨w.heap.size, 2, none⟩ = some c2 ∧ w1.cell? ⟨w.heap.size, 3, none⟩ = some c3) ∧
      w1.cell? ⟨w.heap.size + 1, 0, none⟩ = some d ∧ Upto none' w w1 ∧ w.heap.size + 1 < w1.heap.size := by
  have hz : (w.alloc (.cells #[c0, c1, c2, c3] T)).heap.size = w.heap.size + 1 := by simp
  have h1 := (Cel.refl none' (w.alloc (.cells #[c0, c1, c2, c3] T))).box4 (fun x => x)
  have h2 := cell_new1 (w.alloc (.cells #[c0, c1, c2, c3] T)) d T2
  rw [hz] at h2
  refine ⟨⟨?_, ?_, ?_, ?_⟩, ?_, ?_, ?_⟩
  · exact hU.cell (cell_alloc1 _ h1.1) (fun x => x)
  · exact hU.cell (cell_alloc1 _ h1.2.1) (fun x => x)
  · exact hU.cell (cell_alloc1 _ h1.2.2.1) (fun x => x)
  · exact hU.cell (cell_alloc1 _ h1.2.2.2) (fun x => x)
  · exact hU.cell h2.1 (fun x => x)
  · exact (((Upto.refl none' w).alloc _).alloc _).and hU
  · have := hU.size; simp at this; omega
theorem boxes3 {w w1 : World} {c0 c1 c2 c3 d e : Value} {T T2 T3 : TypeId} (hU : Upto none' (((w.alloc (.cells #[c0, c1, c2, c3] T)).alloc (.cells #[d] T2)).alloc (.cells #[e] T3)) w1) :
    (w1.cell? ⟨w.heap.size, 0, none⟩ = some c0 ∧ w1.cell? ⟨w.heap.size, 1, none⟩ = some c1 ∧ w1.cell? ⟨w.heap.size, 2, none⟩ = some c2 ∧ w1.cell? ⟨w.heap.size, 3, none⟩ = some c3) ∧
      w1.cell? ⟨w.heap.size + 1, 0, none⟩ = some d ∧ (w1.cell? ⟨w.heap.size + 1 + 1, 0, none⟩ = some e ∧ w1.frozen? ⟨w.heap.size + 1 + 1, 0, none⟩ = false) ∧ Upto none' w w1 ∧ w.heap.size + 1 + 1 < w1.heap.size := by
  have hz : (w.alloc (.cells #[c0, c1, c2, c3] T)).heap.size = w.heap.size + 1 := by simp
  have hz2 : ((w.alloc (.cells #[c0, c1, c2, c3] T)).alloc (.cells #[d] T2)).heap.size = w.heap.size + 1 + 1 := by simp
  have h1 := (Cel.refl none' (w.alloc (.cells #[c0, c1, c2, c3] T))).box4 (fun x => x)
  have h2 := cell_new1 (w.alloc (.cells #[c0, c1, c2, c3] T)) d T2
  have h3 := cell_new1 ((w.alloc (.cells #[c0, c1, c2, c3] T)).alloc (.cells #[d] T2)) e T3
  rw [hz] at h2
  rw [hz2] at h3
  refine ⟨⟨?_, ?_, ?_, ?_⟩, ?_, ⟨?_, ?_⟩, ?_, ?_⟩
  · exact hU.cell (cell_alloc1 _ (cell_alloc1 _ h1.1)) (fun x => x)
  · exact hU.cell (cell_alloc1 _ (cell_alloc1 _ h1.2.1)) (fun x => x)
  · exact hU.cell (cell_alloc1 _ (cell_alloc1 _ h1.2.2.1)) (fun x => x)
  · exact hU.cell (cell_alloc1 _ (cell_alloc1 _ h1.2.2.2)) (fun x => x)
  · exact hU.cell (cell_alloc1 _ h2.1) (fun x => x)
  · exact hU.cell h3.1 (fun x => x)
  · rw [hU.cells0.2 _ _ (by simp)]; exact h3.2
  · exact ((((Upto.refl none' w).alloc _).alloc _).alloc _).and hU
  · have := hU.size; simp at this; omega

set_option maxRecDepth 100000 in
set_option maxHeartbeats 4000000 in
theorem occurs_in (t : Tm) (hwt : t.wt ≤ 1000000) (v : Int) (w : World) (cs : List Value) (h : Rep none' w t.dat cs) :
    CallsIn Fence.wide 3 Tryd.prog 33 #[.agg cs.toArray, .int .i64 v] w fun e w' => e = .returned (.bool (t.wf == 0 && (decide (0 ≤ v) && t.occ v))) ∧ Upto none' w w' := by
  have hs : t.size ≤ 1000000 := Nat.le_trans (Tm.size_le_wt t) hwt
  have HW := fun w cs h => callsIn_wide (n := 2) |>.2 (wellFormed_any t hwt w cs h)
  obtain ⟨k, nm, i, ts, a, cap, ht, rfl, hcap, hE⟩ := tm_open h
  have hr : (t.wf == 0 && (decide (0 ≤ v) && t.occ v)) = (t.wf == 0 && (decide (0 ≤ v) && t.occ v)) := rfl
  generalize hq : (t.wf == 0 && (decide (0 ≤ v) && t.occ v)) = r at *
  have HQ := hid hq
  have HT := hid ht
  clear hq hr ht hcap
  generalize hl : ts.length = len at *
  clear hl
  obtain ⟨wf, hwf⟩ : ∃ wf, wf = t.wf := ⟨_, rfl⟩
  rw [← hwf] at HW
  have HF := hid hwf
  by_cases hz : (wf == 0) = true
  · have z1 : (wf != 0) = false := by simp [bne, hz]
    have z2 : wf = 0 := by simpa using hz
    have HZ := hid (z2.symm.trans hwf).symm
    clear z2 hwf
    by_cases hv : v < 0
    · have hr : r = false := by rw [← HQ.out, decide_eq_false (by omega)]; simp
      subst hr
      refine callsIn_of_wp_marks Tryd.func33 rfl trivial ?_ rfl
      simp only [Tryd.ntmps33, List.size_toArray, List.length_cons, List.length_nil, Nat.reduceAdd, Nat.reduceSub, Array.replicate_succ, Array.replicate_zero, List.push_toArray, List.append_toArray, List.nil_append, List.cons_append]
      gi_wp2_with fail
      refine ⟨trivial, ?_⟩
      refine (HW _ _ (((h.new _).new _).new _)).mono ?_
      rintro e w1 ⟨rfl, hU1⟩
      obtain ⟨⟨b0, b1, b2, b3⟩, b4, ⟨b5, b6⟩, hw1, hz1⟩ := boxes3 hU1
      have q0 := World.block_lt_of_cell? w1 _ b0
      have q1 := World.block_lt_of_cell? w1 _ b4
      simp only at q0 q1
      clear hU1
      gi_wp2_with fail
      have hc5 := World.cell?_setCell_same w1 ⟨w.heap.size + 1 + 1, 0, none⟩ (.bool false) b5
      refine ⟨.bool false, ?_, rfl, Upto.of_below ((upto_below hw1).setCell (p := ⟨w.heap.size + 1 + 1, 0, none⟩) (by simp; omega) _)⟩
      simp [results, Tryd.f33, go_sem, hc5]
    have hr : r = t.occ v := by rw [← HQ.out, decide_eq_true (by omega), HZ.out]; simp
    have HR := hid hr
    clear hr
    refine callsIn_of_wp_marks Tryd.func33 rfl trivial ?_ rfl
    simp only [Tryd.ntmps33, List.size_toArray, List.length_cons, List.length_nil, Nat.reduceAdd, Nat.reduceSub, Array.replicate_succ, Array.replicate_zero, List.push_toArray, List.append_toArray, List.nil_append, List.cons_append]
    gi_wp2_with fail
    refine ⟨trivial, ?_⟩
    refine (HW _ _ (((h.new _).new _).new _)).mono ?_
    rintro e w1 ⟨rfl, hU1⟩
    obtain ⟨⟨b0, b1, b2, b3⟩, b4, ⟨b5, b6⟩, hw1, hz1⟩ := boxes3 hU1
    have q0 := World.block_lt_of_cell? w1 _ b0
    have q1 := World.block_lt_of_cell? w1 _ b4
    simp only at q0 q1
    clear hU1
    gi_wp2_with fail
    refine ⟨trivial, ?_⟩
    refine (callsIn_wide.2 (nodes_any _ _ _ _ _)).mono ?_
    rintro e w' ⟨rfl, rfl⟩
    gi_wp2
    have hB1 : Below w.heap.size w w1 := upto_below hw1
    have hR1 : Rep (fun b => b = w.heap.size + 1 + 1) w1 t.dat [.int .i64 k, .string (B nm), .int .i64 i, .slice a len cap] := 
      Rep.weaken (O := fun b => w.heap.size ≤ b) (fun b _ e => by omega) _ _ (Rep.carry (O := fun b => w.heap.size ≤ b) (hw1.cel (fun _ x => x.elim)) _ _ (Rep.fresh h))
    have hz0 : w.heap.size ≤ w1.heap.size := hw1.size
    clear h b0 b1 b2 b3 q0
    have hW2 : Below w.heap.size w (w1.alloc (.cells #[.int .i64 k, .string (B nm), .int .i64 i, .slice a len cap] 25)) := hB1.alloc (by omega) _
    refine wpIn_rangeFunc_ownH (w := w1.alloc (.cells #[.int .i64 k, .string (B nm), .int .i64 i, .slice a len cap] 25)) rfl (by omega) (gf := 114) (lb := #[.pointer (some ⟨w1.heap.size, 0, none⟩)]) rfl trivial (enters_of Tryd.func114 (by kernel_rfl) rfl)
      (nodes_stops 2 (fun _ b => b = w.heap.size + 1 + 1) w1.heap.size w1.heap.size (Fresh.of _ _ (fun b hb e => by omega)) (fun _ _ _ _ _ h => h) t hs
        (w1.alloc (.cells #[.int .i64 k, .string (B nm), .int .i64 i, .slice a len cap] 25)) (by simp) k nm i a len cap (hR1.new _)
        (by rw [World.cell?_alloc_new]; rfl) (by rw [World.cell?_alloc_new]; rfl) (by rw [World.cell?_alloc_new]; rfl) (by rw [World.cell?_alloc_new]; rfl))
      CelW.trans (fun W l o o' _ ho hc _ => CelW.of _ (cel_putObj W l o o' ho hc)) (Below.refl _ _) (fun _ => rfl)
      (fun pre W => ((W.cell? ⟨w.heap.size + 1 + 1, 0, none⟩ = some (.bool false) ∧ W.frozen? ⟨w.heap.size + 1 + 1, 0, none⟩ = false) ∧ W.cell? ⟨w.heap.size + 1, 0, none⟩ = some (.int .i64 v) ∧ pre.any (occW v) = false) ∧ Below w.heap.size w W)
      (fun c pre W => (c = .ret ∧ pre.any (occW v) = true ∧ W.cell? ⟨w.heap.size + 1 + 1, 0, none⟩ = some (.bool true)) ∧ Below w.heap.size w W)
      (OwnFrom.and (Own.from (fun s A B row hs hg hr => ⟨⟨cell_kept hs.1.1 hg hr, (frozen_kept hs.1.1 hg hr).trans hs.1.2⟩, cell_kept hs.2.1 hg hr, hs.2.2⟩) _) (ownFrom_below (by omega) (by simp; omega)))
      (fun c => OwnFrom.and (Own.from (fun s A B row hs hg hr => ⟨hs.1, hs.2.1, cell_kept hs.2.2 hg hr⟩) _) (ownFrom_below (by omega) (by simp; omega)))
      ⟨⟨⟨cell_alloc1 _ b5, frozen_alloc1 _ b5 b6⟩, cell_alloc1 _ b4, rfl⟩, hW2⟩
      (fun x a' W => ∃ Bx, w.heap.size + 1 + 1 < Bx ∧ (W.cell? ⟨Bx, 0, none⟩ = some (.int .i64 x.k) ∧ W.cell? ⟨Bx, 2, none⟩ = some (.int .i64 x.i)) ∧ a' = { tmps := #[.agg #[.int .i64 k, .string (B nm), .int .i64 i, .slice a len cap], .int .i64 v, .pointer (some ⟨w.heap.size, 0, none⟩), .pointer (some ⟨w.heap.size + 1, 0, none⟩), .pointer (some ⟨w.heap.size + 1 + 1, 0, none⟩), .int .i64 x.b, .pointer (some ⟨Bx, 0, none⟩),
        .agg #[.int .i64 k, .string (B nm), .int .i64 i, .slice a len cap], .int .i64 wf, .bool false, .bool false, .int .i64 v, .bool (decide (v < 0)), .bool (decide (v < 0)), .agg #[.int .i64 k, .string (B nm), .int .i64 i, .slice a len cap], .func (.func 114) #[] #[.pointer (some ⟨w1.heap.size, 0, none⟩)], .int .i64 x.b, .agg #[.int .i64 x.k, .string (B x.n), .int .i64 x.i, .slice x.a x.len x.cap], undef, undef, undef, undef, undef, undef, undef, undef, undef, undef, undef], defers := [] })
      (fun x a' _ X Y row hs hg hr => by obtain ⟨Bx, h1, h2, h3⟩ := hs; exact ⟨Bx, h1, ⟨cell_kept h2.1 hg (fun r e => (hr r e).2), cell_kept h2.2 hg (fun r e => (hr r e).2)⟩, h3⟩) ?assign ?body ?done ?stop
    case assign =>
      rintro l pre x W K ⟨⟨⟨hc, hf⟩, hv3, hp⟩, hB⟩ hK
      simp [Nd.enc]
      gi_wp2
      have q1 := World.block_lt_of_cell? W _ hc
      have bb := (Cel.refl none' (W.alloc (.cells #[.int .i64 x.k, .string (B x.n), .int .i64 x.i, .slice x.a x.len x.cap] 25))).box4 (fun x => x)
      exact hK _ _ ((KeepsOthers.alloc _ _).from _) (CelW.of _ ((Cel.refl _ W).alloc _)) ⟨⟨⟨cell_alloc1 _ hc, frozen_alloc1 _ hc hf⟩, cell_alloc1 _ hv3, hp⟩, hB.alloc hB.size _⟩ ⟨W.heap.size, q1, ⟨bb.1, bb.2.2.1⟩, rfl⟩
    case body =>
      rintro l pre x a' W hl _ ⟨⟨⟨hc, hf⟩, hv3, hp⟩, hB⟩ ⟨Bx, hBx, ⟨x0, x2⟩, rfl⟩ hlt
      have HA := hid (List.any_append (f := occW v) (xs := pre) (ys := [x]))
      have HP := hid hp
      have HV := hid (show occW v x = (x.k == 5 && wrap64 (x.i - x.b) == v) from rfl)
      clear hp
      by_cases h5 : (x.k == 5) = true
      · have h5' := hid h5
        by_cases h6 : (wrap64 (x.i - x.b) == v) = true
        · have h6' := hid h6
          gi_wp2
          exact ⟨(KeepsOthers.setCell _ _ _).from _, ⟨rfl, by rw [HA.out, HP.out]; simp [HV.out, h5'.out, h6'.out], World.cell?_setCell_same W ⟨w.heap.size + 1 + 1, 0, none⟩ _ hc⟩, hB.setCell (p := ⟨w.heap.size + 1 + 1, 0, none⟩) (by simp; omega) _⟩
        · have h6' := hid h6
          replace h6 : (wrap64 (x.i - x.b) == v) = false := by simpa using h6
          gi_wp2
          exact ⟨KeepsFrom.refl _ _, CelW.refl _ _, ⟨⟨hc, hf⟩, hv3, by rw [HA.out, HP.out]; simp [HV.out, h5'.out, h6'.out]⟩, hB⟩
      · have h5' := hid h5
        replace h5 : (x.k == 5) = false := by simpa using h5
        gi_wp2
        exact ⟨KeepsFrom.refl _ _, CelW.refl _ _, ⟨⟨hc, hf⟩, hv3, by rw [HA.out, HP.out]; simp [HV.out, h5'.out]⟩, hB⟩
    case done =>
      rintro D ys W hD hys ⟨⟨⟨hc, hf⟩, hv3, hp⟩, hB⟩ hK
      have hr : r = false := by rw [HR.out]; exact occW_none t HZ.out v ys hys hp
      subst hr
      clear hys hp
      gi_wp2
      have hK' := (KeepsOthers.setCell W ⟨w.heap.size + 1 + 1, 0, none⟩ (.bool false)).same D _ hK rfl
      refine ⟨by simp, .inl ⟨_, _, rfl, run_takeDeferred hK', ?_⟩⟩
      have hc5 := cell_kept (World.cell?_setCell_same W ⟨w.heap.size + 1 + 1, 0, none⟩ (.bool false) hc) (grownBy_putObj' _ D (.deferred none)) (fun r e => by cases e; exact ⟨_, hK', rfl⟩)
      refine ⟨.bool false, ?_, rfl, Upto.of_below ((hB.setCell (p := ⟨w.heap.size + 1 + 1, 0, none⟩) (by simp; omega) _).trans (belowK_b (w := w) (Nat.le_refl _) _ D _ _ (by simp at hD; omega) hK' rfl rfl))⟩
      simp [results, Tryd.f33, go_sem, hc5]
    case stop =>
      rintro D c pre W hD hpre ⟨⟨rfl, hp, hc⟩, hB⟩ hK
      have hr : r = true := by rw [HR.out]; exact occW_some t HZ.out v pre hpre hp
      subst hr
      clear hpre hp
      gi_wp2
      refine ⟨by simp, .inl ⟨_, _, rfl, run_takeDeferred hK, ?_⟩⟩
      have hc5 := cell_kept hc (grownBy_putObj' _ D (.deferred none)) (fun r e => by cases e; exact ⟨_, hK, rfl⟩)
      refine ⟨.bool true, ?_, rfl, Upto.of_below (hB.trans (belowK_b (w := w) (Nat.le_refl _) _ D _ _ (by simp at hD; omega) hK rfl rfl))⟩
      simp [results, Tryd.f33, go_sem, hc5]
  · have z1 : (wf != 0) = true := by simp at hz; simp [bne, hz]
    have hr : r = false := by rw [← HQ.out, ← hwf]; simp at hz; simp [hz]
    subst hr
    clear hwf
    refine callsIn_of_wp_marks Tryd.func33 rfl trivial ?_ rfl
    simp only [Tryd.ntmps33, List.size_toArray, List.length_cons, List.length_nil, Nat.reduceAdd, Nat.reduceSub, Array.replicate_succ, Array.replicate_zero, List.push_toArray, List.append_toArray, List.nil_append, List.cons_append]
    gi_wp2_with fail
    refine ⟨trivial, ?_⟩
    refine (HW _ _ (((h.new _).new _).new _)).mono ?_
    rintro e w1 ⟨rfl, hU1⟩
    obtain ⟨⟨b0, b1, b2, b3⟩, b4, ⟨b5, b6⟩, hw1, hz1⟩ := boxes3 hU1
    have q0 := World.block_lt_of_cell? w1 _ b0
    have q1 := World.block_lt_of_cell? w1 _ b4
    simp only at q0 q1
    clear hU1
    gi_wp2_with fail
    have hc5 := World.cell?_setCell_same w1 ⟨w.heap.size + 1 + 1, 0, none⟩ (.bool false) b5
    refine ⟨.bool false, ?_, rfl, Upto.of_below ((upto_below hw1).setCell (p := ⟨w.heap.size + 1 + 1, 0, none⟩) (by simp; omega) _)⟩
    simp [results, Tryd.f33, go_sem, hc5]
theorem occurs_any (t : Tm) (hwt : t.wt ≤ 1000000) (v : Int) (w : World) (cs : List Value) (h : Rep none' w t.dat cs) :
    Calls Tryd.prog 33 #[.agg cs.toArray, .int .i64 v] w fun e w' => e = .returned (.bool (t.wf == 0 && (decide (0 ≤ v) && t.occ v))) ∧ Upto none' w w' := callsIn_wide.1 (occurs_in t hwt v w cs h)
end Go.Proofs.YtdcbgkmhlpkjiaaDoor
