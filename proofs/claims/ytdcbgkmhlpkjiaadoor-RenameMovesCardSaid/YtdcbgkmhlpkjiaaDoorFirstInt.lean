/- The metavariables of a term: by the iterator and a set. (FirstStr.lean.t is this file, turned by tools/turnfirst.py.) -/
import Derived.Test.YtdcbgkmhlpkjiaaDoorTermFirst
namespace Go.Proofs.YtdcbgkmhlpkjiaaDoor
open Go.RowKit Go.LF Go.Shelf
attribute [local go_sem] Oper.semAt_some

def ms (xs : List Nd) : List Int := (xs.map Nd.bare).foldl Tm.metaStep []
theorem ms_hit (pre : List Nd) (x : Nd) (h : (x.k == 6) = true) (hc : (ms pre).contains x.i = false) : ms (pre ++ [x]) = ms pre ++ [x.i] := by
  unfold ms at *
  rw [List.map_append, List.foldl_append]
  simp only [List.map_cons, List.map_nil, List.foldl_cons, List.foldl_nil, Tm.metaStep, Nd.bare]
  rw [h, hc]; rfl
theorem ms_miss (pre : List Nd) (x : Nd) (h : ((x.k == 6) && !(ms pre).contains x.i) = false) : ms (pre ++ [x]) = ms pre := by
  unfold ms at *
  rw [List.map_append, List.foldl_append]
  simp only [List.map_cons, List.map_nil, List.foldl_cons, List.foldl_nil, Tm.metaStep, Nd.bare]
  rw [h]; rfl
theorem ms_len (xs : List Nd) : (ms xs).length ≤ xs.length := by
  have key : ∀ (ys : List Tm.Nd0) (a : List Int), (ys.foldl Tm.metaStep a).length ≤ a.length + ys.length := by
    intro ys
    induction ys with
    | nil => intro a; simp
    | cons y ys ih =>
      intro a
      rw [List.foldl_cons]
      have := ih (Tm.metaStep a y)
      have h2 : (Tm.metaStep a y).length ≤ a.length + 1 := by unfold Tm.metaStep; split <;> simp
      simp only [List.length_cons]
      omega
  have := key (xs.map Nd.bare) []
  simpa [ms] using this

theorem info_int : (Tryd.prog.info? 3).map (fun i => (i.zero, i.size, i.bytes)) = some (some (.int .i64 0), 1, 8) := by kernel_rfl
theorem int_key (l : List Int) : ∀ k ∈ l.map (Value.int .i64), MapKept.IsKey (.int .i64) k := by
  intro k hk
  obtain ⟨x, _, rfl⟩ := List.mem_map.1 hk
  rfl
theorem zero_bool (W : World) : (zeroValue 4).run Tryd.prog W = .ok (.bool false) W := by kernel_rfl

set_option maxRecDepth 100000 in
set_option maxHeartbeats 4000000 in
theorem firstInt_in (t : Tm) (hwt : t.wt ≤ 1000000) (w : World) (cs : List Value) (h : Rep none' w t.dat cs) :
    CallsIn Fence.wide 3 Tryd.prog 83 #[.agg cs.toArray, .func (.func 84) #[] #[]] w fun e w' =>
      ∃ v, e = .returned v ∧ w'.ownsRow w.heap.size 3 1 v (if t.wf == 0 then t.addMetas0 else []).length ((if t.wf == 0 then t.addMetas0 else []).map (Value.int .i64)) ∧ Upto none' w w' := by
  have hs : t.size ≤ 1000000 := Nat.le_trans (Tm.size_le_wt t) hwt
  have HW := fun w cs h => callsIn_wide (n := 2) |>.2 (wellFormed_any t hwt w cs h)
  obtain ⟨k, nm, i, ts, a, cap, ht, rfl, hcap, hE⟩ := tm_open h
  generalize hq : (if t.wf == 0 then t.addMetas0 else []) = r at *
  have HQ := hid hq
  have HT := hid ht
  clear hq ht hcap
  generalize hl : ts.length = len at *
  clear hl
  obtain ⟨wf, hwf⟩ : ∃ wf, wf = t.wf := ⟨_, rfl⟩
  rw [← hwf] at HW
  have HF := hid hwf
  have hmm := @run_makeMap Tryd.prog
  by_cases hz : (wf == 0) = true
  · have z1 : (wf != 0) = false := by simp [bne, hz]
    have z2 : wf = 0 := by simpa using hz
    have HZ := hid (z2.symm.trans hwf).symm
    clear z2 hwf
    refine callsIn_of_wp_marks Tryd.func83 rfl trivial ?_ rfl
    simp only [Tryd.ntmps83, List.size_toArray, List.length_cons, List.length_nil, Nat.reduceAdd, Nat.reduceSub, Array.replicate_succ, Array.replicate_zero, List.push_toArray, List.append_toArray, List.nil_append, List.cons_append]
    gi_wp2_with fail
    refine ⟨trivial, ?_⟩
    refine (HW _ _ ((h.new _).new _)).mono ?_
    rintro e w1 ⟨rfl, hU1⟩
    obtain ⟨⟨b0, b1, b2, b3⟩, b4, hw1, hz1⟩ := boxes2 hU1
    have q0 := World.block_lt_of_cell? w1 _ b0
    have q1 := World.block_lt_of_cell? w1 _ b4
    simp only at q0 q1
    have q2 : w.heap.size < w1.heap.size + 1 := by omega
    have q3 : w.heap.size < w1.heap.size + 1 + 1 := by omega
    clear hU1
    gi_wp2_with fail
    refine ⟨trivial, ?_⟩
    refine (callsIn_wide.2 (nodes_any _ _ _ _ _)).mono ?_
    rintro e w' ⟨rfl, rfl⟩
    gi_wp2
    obtain ⟨W0, hW0⟩ : ∃ W0, W0 = ((w1.alloc (.cells #[.slice none 0 0] 22)).alloc (.map #[] 0)).alloc (.cells #[.map (some (w1.heap.size + 1))] 103) := ⟨_, rfl⟩
    have hz0 : W0.heap.size = w1.heap.size + 1 + 1 + 1 := by rw [hW0]; simp
    have bO : Boxed W0 w1.heap.size 22 (.slice none 0 0) := by rw [hW0]; exact ((Boxed.new _ _ _).alloc _).alloc _
    have bS : Seen W0 (w1.heap.size + 1) [] := by
      have := (Seen.made (w1.alloc (.cells #[.slice none 0 0] 22))).kept (World.grownBy_alloc _ (.cells #[.map (some (w1.heap.size + 1))] 103) none) (by simp)
      rw [World.size_alloc] at this
      rw [hW0]; exact this
    have bM : Boxed W0 (w1.heap.size + 1 + 1) 103 (.map (some (w1.heap.size + 1))) := by
      have := Boxed.new ((w1.alloc (.cells #[.slice none 0 0] 22)).alloc (.map #[] 0)) 103 (.map (some (w1.heap.size + 1)))
      rw [World.size_alloc, World.size_alloc] at this
      rw [hW0]; exact this
    have hU0 : Upto none' w1 W0 := by rw [hW0]; exact (((Upto.refl none' w1).alloc _).alloc _).alloc _
    have bF : W0.cell? ⟨w.heap.size + 1, 0, none⟩ = some (.func (.func 84) #[] #[]) := hU0.cell b4 (fun x => x)
    have hUW : Upto none' w W0 := hw1.and hU0
    have hB1 : Below w.heap.size w W0 := upto_below hUW
    have hR1 : Rep (Bad w.heap.size W0) W0 t.dat [.int .i64 k, .string (B nm), .int .i64 i, .slice a len cap] :=
      Rep.weaken (O := fun b => w.heap.size ≤ b) (fun b _ e => e.1) _ _ (Rep.carry (O := fun b => w.heap.size ≤ b) (hUW.cel (fun _ x => x.elim)) _ _ (Rep.fresh h))
    rw [← hW0, ← hz0]
    clear hW0 h b0 b1 b2 b3 b4 q0 q1 hU0 hmm
    have hW2 : Below w.heap.size w (W0.alloc (.cells #[.int .i64 k, .string (B nm), .int .i64 i, .slice a len cap] 25)) := hB1.alloc (by omega) _
    refine wpIn_rangeFunc_ownH (w := W0.alloc (.cells #[.int .i64 k, .string (B nm), .int .i64 i, .slice a len cap] 25)) rfl (by omega) (gf := 114) (lb := #[.pointer (some ⟨W0.heap.size, 0, none⟩)]) rfl trivial (enters_of Tryd.func114 (by kernel_rfl) rfl)
      (nodes_stops 2 (Bad w.heap.size) W0.heap.size W0.heap.size (bad_fresh _ _) (fun _ _ _ _ h hn => bad_heap h hn) t hs
        (W0.alloc (.cells #[.int .i64 k, .string (B nm), .int .i64 i, .slice a len cap] 25)) (by simp) k nm i a len cap (Rep.carryW (CelW.alloc' (bad_fresh _ 0) W0 _) _ _ hR1)
        (by rw [World.cell?_alloc_new]; rfl) (by rw [World.cell?_alloc_new]; rfl) (by rw [World.cell?_alloc_new]; rfl) (by rw [World.cell?_alloc_new]; rfl))
      CelW.trans (fun W l o o' hl ho hc _ => bad_put W l o o' (by simp at hl; omega) ho hc) (Below.refl _ _) (fun _ => rfl)
      (fun pre W => ((∃ v, Boxed W w1.heap.size 22 v ∧ W.ownsRow w1.heap.size 3 1 v (ms pre).length ((ms pre).map (Value.int .i64)) ∧ True) ∧
        (Seen W (w1.heap.size + 1) ((ms pre).map (Value.int .i64)) ∧ Boxed W (w1.heap.size + 1 + 1) 103 (.map (some (w1.heap.size + 1))) ∧ W.cell? ⟨w.heap.size + 1, 0, none⟩ = some (.func (.func 84) #[] #[]))) ∧ Below w.heap.size w W)
      (fun _ _ _ => False)
      (OwnFrom.and (OwnFrom.and (Own.from (holdsRow_own w1.heap.size w1.heap.size 22 3 1 (fun pre => (ms pre).length) (fun pre => (ms pre).map (Value.int .i64)) (fun _ _ => True)) _)
        (fun s A B row hs hg hr => ⟨hs.1.kept hg (fun e => by have := (hr _ e.symm).1; simp at this; omega), hs.2.1.kept hg (fun e => by have := (hr _ e.symm).1; simp at this; omega), cell_kept hs.2.2 hg (fun r e => (hr r e).2)⟩)) (ownFrom_below (by omega) (by simp; omega)))
      (fun _ _ _ _ _ hs _ _ => hs)
      ⟨⟨⟨_, bO.alloc _, World.ownsRow_nil _ _ _ _, trivial⟩, bS.kept (World.grownBy_alloc _ _ none) (by simp), bM.alloc _, cell_alloc1 _ bF⟩, hW2⟩
      (fun x a' W => ∃ Bx, w1.heap.size + 1 + 1 < Bx ∧ (W.cell? ⟨Bx, 0, none⟩ = some (.int .i64 x.k) ∧ W.cell? ⟨Bx, 1, none⟩ = some (.string (B x.n)) ∧ W.cell? ⟨Bx, 2, none⟩ = some (.int .i64 x.i) ∧ W.cell? ⟨Bx, 3, none⟩ = some (.slice x.a x.len x.cap)) ∧
        a' = { tmps := #[.agg #[.int .i64 k, .string (B nm), .int .i64 i, .slice a len cap], .func (.func 84) #[] #[], .pointer (some ⟨w.heap.size, 0, none⟩), .pointer (some ⟨w.heap.size + 1, 0, none⟩), .slice none 0 0, .pointer (some ⟨w1.heap.size, 0, none⟩), .pointer (some ⟨w1.heap.size + 1 + 1, 0, none⟩), undef, .pointer (some ⟨Bx, 0, none⟩), undef, undef,
        .agg #[.int .i64 k, .string (B nm), .int .i64 i, .slice a len cap], .int .i64 wf, .bool false, .map (some (w1.heap.size + 1)), .agg #[.int .i64 k, .string (B nm), .int .i64 i, .slice a len cap], .func (.func 114) #[] #[.pointer (some ⟨W0.heap.size, 0, none⟩)], .int .i64 x.b, .agg #[.int .i64 x.k, .string (B x.n), .int .i64 x.i, .slice x.a x.len x.cap],
        undef, undef, undef, undef, undef, undef, undef, undef, undef, undef, undef, undef, undef, undef, undef, undef, undef, undef, undef, undef], defers := [] })
      (fun x a' _ X Y row hs hg hr => by obtain ⟨Bx, h1, h2, h3⟩ := hs; exact ⟨Bx, h1, ⟨cell_kept h2.1 hg (fun r e => (hr r e).2), cell_kept h2.2.1 hg (fun r e => (hr r e).2), cell_kept h2.2.2.1 hg (fun r e => (hr r e).2), cell_kept h2.2.2.2 hg (fun r e => (hr r e).2)⟩, h3⟩) ?assign ?body ?done ?stop
    case assign =>
      rintro l pre x W K ⟨⟨⟨v, hv, hrow, _⟩, hS, hM, hF⟩, hB⟩ hK
      clear hz0
      simp [Nd.enc]
      gi_wp2
      have q1 := hM.lt
      have bb := (Cel.refl none' (W.alloc (.cells #[.int .i64 x.k, .string (B x.n), .int .i64 x.i, .slice x.a x.len x.cap] 25))).box4 (fun x => x)
      exact hK _ _ ((KeepsOthers.alloc _ _).from _) (CelW.alloc' (bad_fresh _ 0) _ _) ⟨⟨⟨v, hv.alloc _, hrow.alloc _, trivial⟩, hS.kept (World.grownBy_alloc _ _ none) (by simp), hM.alloc _, cell_alloc1 _ hF⟩, hB.alloc hB.size _⟩ ⟨W.heap.size, q1, bb, rfl⟩
    case body =>
      rintro l pre x a' W hl _ ⟨⟨⟨v, hv, hrow, _⟩, hS, hM, hF⟩, hB⟩ ⟨Bx, hBx, ⟨x0, x1, x2, x3⟩, rfl⟩ hlt
      have hc := hv.cell
      have HM1 := hid (ms_miss pre x)
      have HM2 := hid (ms_hit pre x)
      have hpl := ms_len pre
      gi_wp2_with fail
      refine ⟨trivial, ?_⟩
      refine (CallsIn.inRound l (callsIn_wide (n := 0) |>.2 (metas1_any x.k x.i x.n x.a x.len x.cap W))).mono ?_
      rintro e W2 ⟨rfl, hU2⟩
      have g2 := upto_grown hU2
      have hC2 : CelW (Bad w.heap.size) W W2 := bad_grown g2 (fun r e => by cases e)
      have hK2 : KeepsFrom (W0.alloc (.cells #[.int .i64 k, .string (B nm), .int .i64 i, .slice a len cap] 25)).heap.size W W2 := KeepsFrom.of_grownBy g2 (fun r e => by cases e)
      have hv2 := hv.kept g2 (by simp)
      have hrow2 := hrow.kept g2 (by cases v.ownBlock <;> simp)
      have hS2 := hS.kept g2 (by simp)
      have hM2 := hM.kept g2 (by simp)
      have hm2 := hM2.cell
      have hF2 := hU2.cell hF (fun x => x)
      have hB2 : Below w.heap.size w W2 := hB.grown g2 hB.size (fun r e => by cases e)
      have hc2 := hv2.cell
      have hf2 := hv2.frozen
      clear hv hrow hS hM hF hc hB hU2 g2 x0 x1 x2 x3
      by_cases h6 : (x.k == 6) = true
      · have h6' := hid h6
        by_cases hc6 : (ms pre).contains x.i = true
        · have hlk := hS2.lookup (P := Tryd.prog) (mt := 103) (kt := 3) (bt := 4) (key := .int .i64 x.i) (by kernel_rfl) (by kernel_rfl) (zero_bool W2) (int_key _) rfl true (by simp at hc6; simp [hc6])
          have hm := HM1.out (by rw [h6'.out, hc6]; rfl)
          have HMM := hid hm
          clear hm hc6
          gi_wp2
          exact ⟨hK2, hC2, ⟨⟨⟨v, hv2, by rw [HMM.out]; exact hrow2, trivial⟩, by rw [HMM.out]; exact hS2, hM2, hF2⟩, hB2⟩⟩
        · have hlk := hS2.lookup (P := Tryd.prog) (mt := 103) (kt := 3) (bt := 4) (key := .int .i64 x.i) (by kernel_rfl) (by kernel_rfl) (zero_bool W2) (int_key _) rfl false (by simp at hc6; simp [hc6])
          have hm := HM2.out h6'.out (by simpa using hc6)
          have HMM := hid hm
          obtain ⟨W3, hup, hS3, g3, hz3⟩ := hS2.store (P := Tryd.prog) (mt := 103) (kt := 3) (bt := 4) (key := .int .i64 x.i) (by kernel_rfl) (by kernel_rfl) (int_key _) rfl (by simp at hc6; simp [hc6])
          clear hm hc6
          obtain ⟨i0, hi, hi0, hi1, hi2⟩ := info_parts info_int
          have hnm := row_ne_map hrow2 hS2
          have hv3 := hv2.kept g3 (by simp)
          have hrow3 := hrow2.kept g3 (.inr hnm)
          have hM3 := hM2.kept g3 (by simp)
          have hm3 := hM3.cell
          have hF3 := cell_grown hF2 g3 (fun r e => by cases e; omega)
          have hB3 : Below w.heap.size w W3 := hB2.grown g3 hB2.size (fun r e => by cases e; omega)
          have hC3 : CelW (Bad w.heap.size) W2 W3 := by
            refine bad_grown g3 (fun r e => ?_)
            cases e
            obtain ⟨es, clock, h1, _⟩ := hS2
            refine ⟨by omega, ?_⟩
            rintro ⟨cur, T, fr, _, h⟩
            rw [h1] at h
            cases h
          have hK3 : KeepsFrom (W0.alloc (.cells #[.int .i64 k, .string (B nm), .int .i64 i, .slice a len cap] 25)).heap.size W2 W3 := KeepsFrom.of_grownBy g3 (fun r e => by cases e; simp; omega)
          have hc3 := hv3.cell
          have hlen : (ms pre).length ≤ 1000000 := by omega
          have hzb : w1.heap.size ≤ W3.heap.size := Nat.le_of_lt hv3.lt
          clear hrow2 hv2
          gi_wp2_with (gi_at_builtin; refine wpListIn_append_own _ rfl _ _ 22 rfl w1.heap.size 3 i0 (.int .i64 0) 1 8 (by kernel_rfl) hi hi0 hi1 hi2 rfl (by decide) _ _ _ rfl (hrow3.alloc _) ⟨W3.heap.size, 0, none⟩ 1 1 [.int .i64 x.i] rfl rfl (cell_one_new _ _ _) (by simp [Value.oneCell']) (by simp only [maxLen]; omega) (by omega) (by simp; omega) ?_; intro v' w4 hown' hgrow _; obtain ⟨g', cap', rfl⟩ := ownsRow_succ hown'; obtain ⟨hv4, hv5, hr5, hk5, hb5⟩ := hv3.appended (by decide) hrow3 hzb (Nat.le_refl _) hown' hgrow; have hc4 := hv4.cell; have hf4 := hv4.frozen)
          have ga := World.grownBy_alloc W3 (.cells #[.int .i64 x.i] 3) none
          have gs := grownBy_setCell' w4 w1.heap.size (.slice (some ⟨g', 0, none⟩) ((ms pre).length + 1) cap')
          have hne3 : some (w1.heap.size + 1) ≠ v.ownBlock := fun e => row_ne_map hrow3 hS3 e.symm
          have hS5 := ((hS3.kept ga (by simp)).kept hgrow hne3).kept gs (by simp)
          have hC5 := ((CelW.alloc' (bad_fresh w.heap.size 0) W3 (.cells #[.int .i64 x.i] 3)).trans (bad_grown hgrow (bad_row (hrow3.alloc _) (by omega) (by simp [NodeT])))).trans (bad_grown gs (fun r e => by cases e; exact bad_of_type (by omega) hv4 (by simp [NodeT])))
          have hM5 := (((hM3.kept ga (by simp)).kept hgrow (hM3.not_row (by decide) hrow3)).kept gs (by simp; omega))
          have hF5 := cell_grown (cell_grown (cell_grown hF3 ga (fun r e => by cases e)) hgrow (fun r e h => by subst h; have := hrow3.lt _ e; omega)) gs (fun r e => by cases e; omega)
          exact ⟨(hK2.trans hK3).trans (hk5.from _), (hC2.trans hC3).trans hC5, ⟨⟨_, hv5, by rw [HMM.out]; simpa using hr5, trivial⟩, by rw [HMM.out]; simpa using hS5, hM5, hF5⟩, hB3.trans (hb5.mono (by omega))⟩
      · have h6' := hid h6
        replace h6 : (x.k == 6) = false := by simpa using h6
        have hm := HM1.out (by rw [h6]; rfl)
        have HMM := hid hm
        clear hm
        gi_wp2
        exact ⟨hK2, hC2, ⟨⟨⟨v, hv2, by rw [HMM.out]; exact hrow2, trivial⟩, by rw [HMM.out]; exact hS2, hM2, hF2⟩, hB2⟩⟩
    case done =>
      rintro D ys W hD hys ⟨⟨⟨v, hv, hrow, _⟩, hS, hM, hF⟩, hB⟩ hK
      have hc := hv.cell
      have hr : ms ys = r := by rw [← HQ.out, HZ.out]; unfold ms; rw [hys]; exact Tm.metas_fold t 0 []
      rw [hr] at hrow
      clear hr hys
      gi_wp2
      refine ⟨by simp, .inl ⟨_, _, rfl, run_takeDeferred hK, ?_⟩⟩
      exact ⟨_, results_tmp rfl _ _ _, v, rfl, (ownsRow_putObj hrow _ hK rfl).mono hw1.size, Upto.of_below (hB.trans (belowK_b (w := w) (Nat.le_refl _) W D _ _ (by simp at hD; omega) hK rfl rfl))⟩
    case stop =>
      rintro D c pre W _ _ h _
      exact h.elim
  · have z1 : (wf != 0) = true := by simp at hz; simp [bne, hz]
    have hr : r = [] := by rw [← HQ.out, ← hwf]; simp at hz; simp [hz]
    subst hr
    clear hwf
    refine callsIn_of_wp_marks Tryd.func83 rfl trivial ?_ rfl
    simp only [Tryd.ntmps83, List.size_toArray, List.length_cons, List.length_nil, Nat.reduceAdd, Nat.reduceSub, Array.replicate_succ, Array.replicate_zero, List.push_toArray, List.append_toArray, List.nil_append, List.cons_append]
    gi_wp2_with fail
    refine ⟨trivial, ?_⟩
    refine (HW _ _ ((h.new _).new _)).mono ?_
    rintro e w1 ⟨rfl, hU1⟩
    obtain ⟨⟨b0, b1, b2, b3⟩, b4, hw1, hz1⟩ := boxes2 hU1
    gi_wp2_with fail
    exact ⟨_, results_tmp rfl _ _ _, _, rfl, World.ownsRow_nil _ _ _ _, hw1⟩
end Go.Proofs.YtdcbgkmhlpkjiaaDoor
