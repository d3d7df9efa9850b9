/- Scope, by the iterator. -/
import Derived.RangeFuncNested
import Derived.RangeFuncBound
import Derived.RangeFuncCalls
import Derived.RangeFuncLeaves
import Derived.RangeFuncFrom
import Derived.Test.YtdcbgkmhlpkjiaaDoorTermSize
import Derived.Test.YtdcbgkmhlpkjiaaDoorTermWf
import Derived.Test.YtdcbgkmhlpkjiaaDoorBinds
namespace Go.Proofs.YtdcbgkmhlpkjiaaDoor
open Go.RowKit Go.LF Go.Shelf
attribute [local go_sem] Oper.semAt_some

theorem upto_below {w w' : World} (h : Upto none' w w') : Below w.heap.size w w' := ⟨h.os, h.tape, h.output, h.size, fun k hk => h.block k hk (fun x => x)⟩
/-- What a round of Scope's loop makes of its number. -/
def scopeW (xs : List Nd) : Int := xs.foldl (fun acc x => if x.k == 5 then max acc (wrap64 (wrap64 (x.i - x.b) + 1)) else acc) 0
theorem scopeW_snoc (pre : List Nd) (x : Nd) : scopeW (pre ++ [x]) = if x.k == 5 then max (scopeW pre) (wrap64 (wrap64 (x.i - x.b) + 1)) else scopeW pre := by simp [scopeW]
theorem foldl_eq {α β γ : Type} (f : γ → α → γ) (g : γ → β → γ) (m : α → β) : ∀ (xs : List α) (a : γ), (∀ x ∈ xs, ∀ a, f a x = g a (m x)) → xs.foldl f a = (xs.map m).foldl g a := by
  intro xs
  induction xs with
  | nil => intro a _; rfl
  | cons x xs ih => intro a h; simp only [List.foldl_cons, List.map_cons, h x (by simp), ih _ (fun y hy => h y (by simp [hy]))]
theorem scopeW_eq (t : Tm) (h : t.wf = 0) (xs : List Nd) (hx : xs.map Nd.bare = t.nodes 0) : scopeW xs = t.scope := by
  obtain ⟨ho, hs, _⟩ := Tm.wf_ok t h
  rw [← Tm.scope_nodes t (fun hk => ?_), ← hx]
  · refine foldl_eq _ Tm.scopeStep Nd.bare xs 0 (fun x hm a => ?_)
    have hm' : x.bare ∈ t.nodes 0 := by rw [← hx]; exact List.mem_map_of_mem hm
    have h1 := ho 0 _ hm'
    have h2 := Tm.nodes_b t 0 _ hm'
    simp only [Nd.bare] at h1 h2
    unfold Tm.scopeStep
    simp only [Nd.bare]
    by_cases hk : (x.k == 5) = true
    · have h3 := h1.1 hk
      simp only at h3
      simp only [hk, if_true]
      rw [Go.IntWalk.wrap64_in (x.i - x.b) (by omega), Go.IntWalk.wrap64_in _ (by omega)]
    · simp only [hk]
      rfl
  · cases t with
    | mk k n i l =>
      have := (ho 0 ⟨0, k, n, i⟩ (by rw [Tm.nodes_mk]; simp)).1 hk
      exact this.1

set_option maxRecDepth 100000 in
set_option maxHeartbeats 2000000 in
theorem scope_in (t : Tm) (hwt : t.wt ≤ 1000000) (w : World) (cs : List Value) (h : Rep none' w t.dat cs) :
    CallsIn Fence.wide 3 Tryd.prog 31 #[.agg cs.toArray] w fun e w' => e = .returned (.int .i64 (if t.wf == 0 then t.scope else 0)) ∧ Upto none' w w' := by
  have hs : t.size ≤ 1000000 := Nat.le_trans (Tm.size_le_wt t) hwt
  have HW := fun w cs h => callsIn_wide (n := 2) |>.2 (wellFormed_any t hwt w cs h)
  obtain ⟨k, nm, i, ts, a, cap, ht, rfl, hcap, hE⟩ := tm_open h
  have hr : (if t.wf == 0 then t.scope else 0) = (if t.wf == 0 then t.scope else 0) := rfl
  generalize hq : (if t.wf == 0 then t.scope else 0) = r at *
  have HQ := hid hq
  have HT := hid ht
  clear hq hr ht hcap
  generalize hl : ts.length = len at *
  clear hl
  obtain ⟨wf, hwf⟩ : ∃ wf, wf = t.wf := ⟨_, rfl⟩
  rw [← hwf] at HW
  have HF := hid hwf
  by_cases hz : (wf == 0) = true
  · have z1 : (wf != 0) = false := by simp [bne, hz]
    have z2 : wf = 0 := by simpa using hz
    have HZ := hid (z2.symm.trans hwf).symm
    clear z2 hwf
    refine callsIn_of_wp_marks Tryd.func31 rfl trivial ?_ rfl
    simp only [Tryd.ntmps31, List.size_toArray, List.length_cons, List.length_nil, Nat.reduceAdd, Nat.reduceSub, Array.replicate_succ, Array.replicate_zero, List.push_toArray, List.append_toArray, List.nil_append, List.cons_append]
    gi_wp2_with fail
    refine ⟨trivial, ?_⟩
    refine (HW _ _ (h.new _)).mono ?_
    rintro e w1 ⟨rfl, hU1⟩
    obtain ⟨b0, b1, b2, b3⟩ := box_new hU1
    have hw1 : Upto none' w w1 := hU1.behind
    have q0 := World.block_lt_of_cell? w1 _ b0
    simp only at q0
    gi_wp2_with fail
    refine ⟨trivial, ?_⟩
    refine (callsIn_wide.2 (nodes_any _ _ _ _ _)).mono ?_
    rintro e w' ⟨rfl, rfl⟩
    gi_wp2
    obtain ⟨W1, hW1⟩ : ∃ W1, W1 = w1.alloc (.cells #[.int .i64 0] 3) := ⟨_, rfl⟩
    have hz1 : W1.heap.size = w1.heap.size + 1 := by rw [hW1]; simp
    have hn : W1.cell? ⟨w1.heap.size, 0, none⟩ = some (.int .i64 0) ∧ W1.frozen? ⟨w1.heap.size, 0, none⟩ = false := by rw [hW1]; exact cell_new1 _ _ _
    have hB1 : Below w.heap.size w W1 := by rw [hW1]; exact (upto_below hw1).alloc (by have := hw1.size; omega) _
    have hR1 : Rep (fun b => b = w1.heap.size) W1 t.dat [.int .i64 k, .string (B nm), .int .i64 i, .slice a len cap] := by
      rw [hW1]
      exact Rep.weaken (O := fun b => w1.heap.size ≤ b) (fun b _ e => by omega) _ _ (Rep.carry (O := fun b => w1.heap.size ≤ b) (((Upto.refl none' w1).alloc _).cel (fun _ x => x.elim)) _ _ (Rep.fresh (h.on hw1)))
    have hz0 : w.heap.size ≤ w1.heap.size := hw1.size
    rw [← hW1, ← hz1]
    clear hW1 h b0 b1 b2 b3 q0 hU1
    have hW2 : Below w.heap.size w (W1.alloc (.cells #[.int .i64 k, .string (B nm), .int .i64 i, .slice a len cap] 25)) := hB1.alloc (by omega) _
    refine wpIn_rangeFunc_ownH (w := W1.alloc (.cells #[.int .i64 k, .string (B nm), .int .i64 i, .slice a len cap] 25)) rfl (by omega) (gf := 114) (lb := #[.pointer (some ⟨W1.heap.size, 0, none⟩)]) rfl trivial (enters_of Tryd.func114 (by kernel_rfl) rfl)
      (nodes_stops 2 (fun _ b => b = w1.heap.size) W1.heap.size (w1.heap.size + 1) (Fresh.of _ _ (fun b hb e => by omega)) (fun _ _ _ _ _ h => h) t hs
        (W1.alloc (.cells #[.int .i64 k, .string (B nm), .int .i64 i, .slice a len cap] 25)) (by simp; omega) k nm i a len cap (hR1.new _)
        (by rw [World.cell?_alloc_new]; rfl) (by rw [World.cell?_alloc_new]; rfl) (by rw [World.cell?_alloc_new]; rfl) (by rw [World.cell?_alloc_new]; rfl))
      CelW.trans (fun W l o o' _ ho hc _ => CelW.of _ (cel_putObj W l o o' ho hc)) (Below.refl _ _) (fun _ => rfl)
      (fun pre W => (W.cell? ⟨w1.heap.size, 0, none⟩ = some (.int .i64 (scopeW pre)) ∧ W.frozen? ⟨w1.heap.size, 0, none⟩ = false) ∧ Below w.heap.size w W)
      (fun _ _ _ => False)
      (OwnFrom.and (Own.from (fun s A B row hs hg hr => ⟨cell_kept hs.1 hg hr, (frozen_kept hs.1 hg hr).trans hs.2⟩) _) (ownFrom_below (by omega) (by simp; omega)))
      (fun _ _ _ _ _ hs _ _ => hs)
      ⟨⟨cell_alloc1 _ hn.1, frozen_alloc1 _ hn.1 hn.2⟩, hW2⟩
      (fun x a' W => ∃ Bx, w1.heap.size < Bx ∧ (W.cell? ⟨Bx, 0, none⟩ = some (.int .i64 x.k) ∧ W.cell? ⟨Bx, 2, none⟩ = some (.int .i64 x.i)) ∧ a' = { tmps := #[.agg #[.int .i64 k, .string (B nm), .int .i64 i, .slice a len cap], .pointer (some ⟨w.heap.size, 0, none⟩), .int .i64 0, .pointer (some ⟨w1.heap.size, 0, none⟩), .int .i64 x.b, .pointer (some ⟨Bx, 0, none⟩),
        .agg #[.int .i64 k, .string (B nm), .int .i64 i, .slice a len cap], .int .i64 wf, .bool false, .agg #[.int .i64 k, .string (B nm), .int .i64 i, .slice a len cap], .func (.func 114) #[] #[.pointer (some ⟨W1.heap.size, 0, none⟩)], .int .i64 x.b, .agg #[.int .i64 x.k, .string (B x.n), .int .i64 x.i, .slice x.a x.len x.cap], undef, undef, undef, undef, undef, undef, undef, undef, undef, undef, undef], defers := [] })
      (fun x a' _ X Y row hs hg hr => by obtain ⟨Bx, h1, h2, h3⟩ := hs; exact ⟨Bx, h1, ⟨cell_kept h2.1 hg (fun r e => (hr r e).2), cell_kept h2.2 hg (fun r e => (hr r e).2)⟩, h3⟩) ?assign ?body ?done ?stop
    case assign =>
      rintro l pre x W K ⟨⟨hc, hf⟩, hB⟩ hK
      simp [Nd.enc]
      gi_wp2
      have q1 := World.block_lt_of_cell? W _ hc
      have bb := (Cel.refl none' (W.alloc (.cells #[.int .i64 x.k, .string (B x.n), .int .i64 x.i, .slice x.a x.len x.cap] 25))).box4 (fun x => x)
      exact hK _ _ ((KeepsOthers.alloc _ _).from _) (CelW.of _ ((Cel.refl _ W).alloc _)) ⟨⟨cell_alloc1 _ hc, frozen_alloc1 _ hc hf⟩, hB.alloc hB.size _⟩ ⟨W.heap.size, q1, ⟨bb.1, bb.2.2.1⟩, rfl⟩
    case body =>
      rintro l pre x a' W hl _ ⟨⟨hc, hf⟩, hB⟩ ⟨Bx, hBx, ⟨x0, x2⟩, rfl⟩ hlt
      have HS := hid (scopeW_snoc pre x)
      by_cases h5 : (x.k == 5) = true
      · have h5' := hid h5
        gi_wp2
        all_goals exact ⟨(KeepsOthers.setCell _ _ _).from _, CelW.of _ (cel_setCell W ⟨w1.heap.size, 0, none⟩ _ rfl), ⟨by rw [World.cell?_setCell_same W ⟨w1.heap.size, 0, none⟩ _ hc, HS.out, if_pos h5'.out]; exact congrArg some (int_eq (by omega)), by rw [World.frozen?_setCell]; exact hf⟩, hB.setCell (p := ⟨w1.heap.size, 0, none⟩) (by simp; omega) _⟩
      · have h5' := hid h5
        replace h5 : (x.k == 5) = false := by simpa using h5
        gi_wp2
        exact ⟨KeepsFrom.refl _ _, CelW.refl _ _, ⟨by rw [HS.out, if_neg h5'.out]; exact hc, hf⟩, hB⟩
    case done =>
      rintro D ys W hD hys ⟨⟨hc, _⟩, hB⟩ hK
      have hr : scopeW ys = r := by rw [scopeW_eq t HZ.out ys hys, ← HQ.out, HZ.out]; rfl
      rw [hr] at hc
      gi_wp2
      refine ⟨by simp, .inl ⟨_, _, rfl, run_takeDeferred hK, ?_⟩⟩
      exact ⟨_, results_tmp rfl _ _ _, rfl, Upto.of_below (hB.trans (belowK_b (w := w) (Nat.le_refl _) W D _ _ (by simp at hD; omega) hK rfl rfl))⟩
    case stop =>
      rintro D c pre W _ _ h _
      exact h.elim
  · have z1 : (wf != 0) = true := by simp at hz; simp [bne, hz]
    have hr : r = 0 := by rw [← HQ.out, ← hwf]; simp at hz; simp [hz]
    subst hr
    clear hwf
    refine callsIn_of_wp_marks Tryd.func31 rfl trivial ?_ rfl
    simp only [Tryd.ntmps31, List.size_toArray, List.length_cons, List.length_nil, Nat.reduceAdd, Nat.reduceSub, Array.replicate_succ, Array.replicate_zero, List.push_toArray, List.append_toArray, List.nil_append, List.cons_append]
    gi_wp2_with fail
    refine ⟨trivial, ?_⟩
    refine (HW _ _ (h.new _)).mono ?_
    rintro e w1 ⟨rfl, hU1⟩
    obtain ⟨b0, b1, b2, b3⟩ := box_new hU1
    have hw1 : Upto none' w w1 := hU1.behind
    have q0 := World.block_lt_of_cell? w1 _ b0
    simp only at q0
    gi_wp2_with fail
    exact ⟨_, results_tmp rfl _ _ _, rfl, hw1⟩
theorem scope_any (t : Tm) (hwt : t.wt ≤ 1000000) (w : World) (cs : List Value) (h : Rep none' w t.dat cs) :
    Calls Tryd.prog 31 #[.agg cs.toArray] w fun e w' => e = .returned (.int .i64 (if t.wf == 0 then t.scope else 0)) ∧ Upto none' w w' := callsIn_wide.1 (scope_in t hwt w cs h)
end Go.Proofs.YtdcbgkmhlpkjiaaDoor
