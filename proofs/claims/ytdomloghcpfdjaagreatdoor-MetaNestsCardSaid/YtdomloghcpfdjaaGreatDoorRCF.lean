/- Scope, by the iterator. -/
import Derived.Test.YtdomloghcpfdjaaGreatDoorRCA
import Derived.Test.YtdomloghcpfdjaaGreatDoorRCB
import Derived.Test.YtdomloghcpfdjaaGreatDoorRCC
import Derived.Test.YtdomloghcpfdjaaGreatDoorRFirsts
import Derived.Test.YtdomloghcpfdjaaGreatDoorRows
import Derived.Deep.AppendLies
import Derived.Deep.Onto
import Derived.Deep.RegionHeld3
import Derived.Laws.OwnMore
import Derived.Maps.AppendAt
import Derived.Maps.OwnIn
import Derived.RangeFuncBound
import Derived.RangeFuncCalls
import Derived.RangeFuncFrom
import Derived.RangeFuncLeaves
import Derived.RangeFuncNested
namespace Go.Proofs.YtdomloghcpfdjaaGreatDoor
open Go.RowKit Go.LF Go.Shelf
attribute [local go_sem] Oper.semAt_some
theorem upto_below {w w' : World} (h : Upto none' w w') : Below w.heap.size w w' := ⟨h.os, h.tape, h.output, h.size, fun k hk => h.block k hk (fun x => x)⟩
/-- What a round of Scope's loop makes of its number. -/
def scopeW (xs : List Nd) : Int := xs.foldl (fun acc x => if x.k == 5 then max acc (wrap64 (wrap64 (x.i - x.b) + 1)) else acc) 0
theorem scopeW_snoc (pre : List Nd) (x : Nd) : scopeW (pre ++ [x]) = if x.k == 5 then max (scopeW pre) (wrap64 (wrap64 (x.i - x.b) + 1)) else scopeW pre := by simp [scopeW]
theorem foldl_eq {α β γ : Type} (f : γ → α → γ) (g : γ → β → γ) (m : α → β) : ∀ (xs : List α) (a : γ), (∀ x ∈ xs, ∀ a, f a x = g a (m x)) → xs.foldl f a = (xs.map m).foldl g a := by
  intro xs
  induction xs with
  | nil => intro a _; rfl
  | cons x xs ih => intro a h; simp only [List.foldl_cons, List.map_cons, h x (by simp), ih _ (fun y hy => h y (by simp [hy]))]
theorem scopeW_eq (t : Tm) (h : t.wf = 0) (xs : List Nd) (hx : xs.map Nd.bare = t.nodes 0) : scopeW xs = t.scope := by
  obtain ⟨ho, hs, _⟩ := Tm.wf_ok t h
  rw [← Tm.scope_nodes t (fun hk => ?_), ← hx]
  · refine foldl_eq _ Tm.scopeStep Nd.bare xs 0 (fun x hm a => ?_)
    have hm' : x.bare ∈ t.nodes 0 := by rw [← hx]; exact List.mem_map_of_mem hm
    have h1 := ho 0 _ hm'
    have h2 := Tm.nodes_b t 0 _ hm'
    simp only [Nd.bare] at h1 h2
    unfold Tm.scopeStep
    simp only [Nd.bare]
    by_cases hk : (x.k == 5) = true
    · have h3 := h1.1 hk
      simp only at h3
      simp only [hk, if_true]
      rw [Go.IntWalk.wrap64_in (x.i - x.b) (by omega), Go.IntWalk.wrap64_in _ (by omega)]
    · simp only [hk]
      rfl
  · cases t with
    | mk k n i l =>
      have := (ho 0 ⟨0, k, n, i⟩ (by rw [Tm.nodes_mk]; simp)).1 hk
      exact this.1
set_option maxRecDepth 100000 in
set_option maxHeartbeats 2000000 in
theorem scope_in (t : Tm) (hwt : t.wt ≤ 1000000) (w : World) (cs : List Value) (h : Rep none' w t.dat cs) :
    CallsIn Fence.wide 3 Tryz.prog 120 #[.agg cs.toArray] w fun e w' => e = .returned (.int .i64 (if t.wf == 0 then t.scope else 0)) ∧ Upto none' w w' := by
  have hs : t.size ≤ 1000000 := Nat.le_trans (Tm.size_le_wt t) hwt
  have HW := fun w cs h => callsIn_wide (n := 2) |>.2 (wellFormed_any t hwt w cs h)
  obtain ⟨k, nm, i, ts, a, cap, ht, rfl, hcap, hE⟩ := tm_open h
  have hr : (if t.wf == 0 then t.scope else 0) = (if t.wf == 0 then t.scope else 0) := rfl
  generalize hq : (if t.wf == 0 then t.scope else 0) = r at *
  have HQ := hid hq
  have HT := hid ht
  clear hq hr ht hcap
  generalize hl : ts.length = len at *
  clear hl
  obtain ⟨wf, hwf⟩ : ∃ wf, wf = t.wf := ⟨_, rfl⟩
  rw [← hwf] at HW
  have HF := hid hwf
  by_cases hz : (wf == 0) = true
  · have z1 : (wf != 0) = false := by simp [bne, hz]
    have z2 : wf = 0 := by simpa using hz
    have HZ := hid (z2.symm.trans hwf).symm
    clear z2 hwf
    refine callsIn_of_wp_marks Tryz.func120 rfl trivial ?_ rfl
    simp only [Tryz.ntmps120, List.size_toArray, List.length_cons, List.length_nil, Nat.reduceAdd, Nat.reduceSub, Array.replicate_succ, Array.replicate_zero, List.push_toArray, List.append_toArray, List.nil_append, List.cons_append]
    gi_wp2_with fail
    refine ⟨trivial, ?_⟩
    refine (HW _ _ (h.new _)).mono ?_
    rintro e w1 ⟨rfl, hU1⟩
    obtain ⟨b0, b1, b2, b3⟩ := box_new hU1
    have hw1 : Upto none' w w1 := hU1.behind
    have q0 := World.block_lt_of_cell? w1 _ b0
    simp only at q0
    gi_wp2_with fail
    refine ⟨trivial, ?_⟩
    refine (callsIn_wide.2 (nodes_any _ _ _ _ _)).mono ?_
    rintro e w' ⟨rfl, rfl⟩
    gi_wp2
    obtain ⟨W1, hW1⟩ : ∃ W1, W1 = w1.alloc (.cells #[.int .i64 0] 3) := ⟨_, rfl⟩
    have hz1 : W1.heap.size = w1.heap.size + 1 := by rw [hW1]; simp
    have hn : W1.cell? ⟨w1.heap.size, 0, none⟩ = some (.int .i64 0) ∧ W1.frozen? ⟨w1.heap.size, 0, none⟩ = false := by rw [hW1]; exact cell_new1 _ _ _
    have hB1 : Below w.heap.size w W1 := by rw [hW1]; exact (upto_below hw1).alloc (by have := hw1.size; omega) _
    have hR1 : Rep (fun b => b = w1.heap.size) W1 t.dat [.int .i64 k, .string (B nm), .int .i64 i, .slice a len cap] := by
      rw [hW1]
      exact Rep.weaken (O := fun b => w1.heap.size ≤ b) (fun b _ e => by omega) _ _ (Rep.carry (O := fun b => w1.heap.size ≤ b) (((Upto.refl none' w1).alloc _).cel (fun _ x => x.elim)) _ _ (Rep.fresh (h.on hw1)))
    have hz0 : w.heap.size ≤ w1.heap.size := hw1.size
    rw [← hW1, ← hz1]
    clear hW1 h b0 b1 b2 b3 q0 hU1
    have hW2 : Below w.heap.size w (W1.alloc (.cells #[.int .i64 k, .string (B nm), .int .i64 i, .slice a len cap] 29)) := hB1.alloc (by omega) _
    refine wpIn_rangeFunc_ownH (w := W1.alloc (.cells #[.int .i64 k, .string (B nm), .int .i64 i, .slice a len cap] 29)) rfl (by omega) (gf := 225) (lb := #[.pointer (some ⟨W1.heap.size, 0, none⟩)]) rfl trivial (enters_of Tryz.func225 (by kernel_rfl) rfl)
      (nodes_stops 2 (fun _ b => b = w1.heap.size) W1.heap.size (w1.heap.size + 1) (Fresh.of _ _ (fun b hb e => by omega)) (fun _ _ _ _ _ h => h) t hs
        (W1.alloc (.cells #[.int .i64 k, .string (B nm), .int .i64 i, .slice a len cap] 29)) (by simp; omega) k nm i a len cap (hR1.new _)
        (by rw [World.cell?_alloc_new]; rfl) (by rw [World.cell?_alloc_new]; rfl) (by rw [World.cell?_alloc_new]; rfl) (by rw [World.cell?_alloc_new]; rfl))
      CelW.trans (fun W l o o' _ ho hc _ => CelW.of _ (cel_putObj W l o o' ho hc)) (Below.refl _ _) (fun _ => rfl)
      (fun pre W => (W.cell? ⟨w1.heap.size, 0, none⟩ = some (.int .i64 (scopeW pre)) ∧ W.frozen? ⟨w1.heap.size, 0, none⟩ = false) ∧ Below w.heap.size w W)
      (fun _ _ _ => False)
      (OwnFrom.and (Own.from (fun s A B row hs hg hr => ⟨cell_kept hs.1 hg hr, (frozen_kept hs.1 hg hr).trans hs.2⟩) _) (ownFrom_below (by omega) (by simp; omega)))
      (fun _ _ _ _ _ hs _ _ => hs)
      ⟨⟨cell_alloc1 _ hn.1, frozen_alloc1 _ hn.1 hn.2⟩, hW2⟩
      (fun x a' W => ∃ Bx, w1.heap.size < Bx ∧ (W.cell? ⟨Bx, 0, none⟩ = some (.int .i64 x.k) ∧ W.cell? ⟨Bx, 2, none⟩ = some (.int .i64 x.i)) ∧ a' = { tmps := #[.agg #[.int .i64 k, .string (B nm), .int .i64 i, .slice a len cap], .pointer (some ⟨w.heap.size, 0, none⟩), .int .i64 0, .pointer (some ⟨w1.heap.size, 0, none⟩), .int .i64 x.b, .pointer (some ⟨Bx, 0, none⟩),
        .agg #[.int .i64 k, .string (B nm), .int .i64 i, .slice a len cap], .int .i64 wf, .bool false, .agg #[.int .i64 k, .string (B nm), .int .i64 i, .slice a len cap], .func (.func 225) #[] #[.pointer (some ⟨W1.heap.size, 0, none⟩)], .int .i64 x.b, .agg #[.int .i64 x.k, .string (B x.n), .int .i64 x.i, .slice x.a x.len x.cap], undef, undef, undef, undef, undef, undef, undef, undef, undef, undef, undef], defers := [] })
      (fun x a' _ X Y row hs hg hr => by obtain ⟨Bx, h1, h2, h3⟩ := hs; exact ⟨Bx, h1, ⟨cell_kept h2.1 hg (fun r e => (hr r e).2), cell_kept h2.2 hg (fun r e => (hr r e).2)⟩, h3⟩) ?assign ?body ?done ?stop
    case assign =>
      rintro l pre x W K ⟨⟨hc, hf⟩, hB⟩ hK
      simp [Nd.enc]
      gi_wp2
      have q1 := World.block_lt_of_cell? W _ hc
      have bb := (Cel.refl none' (W.alloc (.cells #[.int .i64 x.k, .string (B x.n), .int .i64 x.i, .slice x.a x.len x.cap] 29))).box4 (fun x => x)
      exact hK _ _ ((KeepsOthers.alloc _ _).from _) (CelW.of _ ((Cel.refl _ W).alloc _)) ⟨⟨cell_alloc1 _ hc, frozen_alloc1 _ hc hf⟩, hB.alloc hB.size _⟩ ⟨W.heap.size, q1, ⟨bb.1, bb.2.2.1⟩, rfl⟩
    case body =>
      rintro l pre x a' W hl _ ⟨⟨hc, hf⟩, hB⟩ ⟨Bx, hBx, ⟨x0, x2⟩, rfl⟩ hlt
      have HS := hid (scopeW_snoc pre x)
      by_cases h5 : (x.k == 5) = true
      · have h5' := hid h5
        gi_wp2
        all_goals exact ⟨(KeepsOthers.setCell _ _ _).from _, CelW.of _ (cel_setCell W ⟨w1.heap.size, 0, none⟩ _ rfl), ⟨by rw [World.cell?_setCell_same W ⟨w1.heap.size, 0, none⟩ _ hc, HS.out, if_pos h5'.out]; exact congrArg some (int_eq (by omega)), by rw [World.frozen?_setCell]; exact hf⟩, hB.setCell (p := ⟨w1.heap.size, 0, none⟩) (by simp; omega) _⟩
      · have h5' := hid h5
        replace h5 : (x.k == 5) = false := by simpa using h5
        gi_wp2
        exact ⟨KeepsFrom.refl _ _, CelW.refl _ _, ⟨by rw [HS.out, if_neg h5'.out]; exact hc, hf⟩, hB⟩
    case done =>
      rintro D ys W hD hys ⟨⟨hc, _⟩, hB⟩ hK
      have hr : scopeW ys = r := by rw [scopeW_eq t HZ.out ys hys, ← HQ.out, HZ.out]; rfl
      rw [hr] at hc
      gi_wp2
      refine ⟨by simp, .inl ⟨_, _, rfl, run_takeDeferred hK, ?_⟩⟩
      exact ⟨_, results_tmp rfl _ _ _, rfl, Upto.of_below (hB.trans (belowK_b (w := w) (Nat.le_refl _) W D _ _ (by simp at hD; omega) hK rfl rfl))⟩
    case stop =>
      rintro D c pre W _ _ h _
      exact h.elim
  · have z1 : (wf != 0) = true := by simp at hz; simp [bne, hz]
    have hr : r = 0 := by rw [← HQ.out, ← hwf]; simp at hz; simp [hz]
    subst hr
    clear hwf
    refine callsIn_of_wp_marks Tryz.func120 rfl trivial ?_ rfl
    simp only [Tryz.ntmps120, List.size_toArray, List.length_cons, List.length_nil, Nat.reduceAdd, Nat.reduceSub, Array.replicate_succ, Array.replicate_zero, List.push_toArray, List.append_toArray, List.nil_append, List.cons_append]
    gi_wp2_with fail
    refine ⟨trivial, ?_⟩
    refine (HW _ _ (h.new _)).mono ?_
    rintro e w1 ⟨rfl, hU1⟩
    obtain ⟨b0, b1, b2, b3⟩ := box_new hU1
    have hw1 : Upto none' w w1 := hU1.behind
    have q0 := World.block_lt_of_cell? w1 _ b0
    simp only at q0
    gi_wp2_with fail
    exact ⟨_, results_tmp rfl _ _ _, rfl, hw1⟩
theorem scope_any (t : Tm) (hwt : t.wt ≤ 1000000) (w : World) (cs : List Value) (h : Rep none' w t.dat cs) :
    Calls Tryz.prog 120 #[.agg cs.toArray] w fun e w' => e = .returned (.int .i64 (if t.wf == 0 then t.scope else 0)) ∧ Upto none' w w' := callsIn_wide.1 (scope_in t hwt w cs h)
end Go.Proofs.YtdomloghcpfdjaaGreatDoor
namespace Go.Proofs.YtdomloghcpfdjaaGreatDoor
open Go.RowKit Go.LF Go.Shelf
attribute [local go_sem] Oper.semAt_some
theorem boxes2 {w w1 : World} {c0 c1 c2 c3 d : Value} {T T2 : TypeId} (hU : Upto none' ((w.alloc (.cells #[c0, c1, c2, c3] T)).alloc (.cells #[d] T2)) w1) :
    (w1.cell? ⟨w.heap.size, 0, none⟩ = some c0 ∧ w1.cell? ⟨w.heap.size, 1, none⟩ = some c1 ∧ w1.cell? ⟨w.heap.size, 2, none⟩ = some c2 ∧ w1.cell? ⟨w.heap.size, 3, none⟩ = some c3) ∧
      w1.cell? ⟨w.heap.size + 1, 0, none⟩ = some d ∧ Upto none' w w1 ∧ w.heap.size + 1 < w1.heap.size := by
  have hz : (w.alloc (.cells #[c0, c1, c2, c3] T)).heap.size = w.heap.size + 1 := by simp
  have h1 := (Cel.refl none' (w.alloc (.cells #[c0, c1, c2, c3] T))).box4 (fun x => x)
  have h2 := cell_new1 (w.alloc (.cells #[c0, c1, c2, c3] T)) d T2
  rw [hz] at h2
  refine ⟨⟨?_, ?_, ?_, ?_⟩, ?_, ?_, ?_⟩
  · exact hU.cell (cell_alloc1 _ h1.1) (fun x => x)
  · exact hU.cell (cell_alloc1 _ h1.2.1) (fun x => x)
  · exact hU.cell (cell_alloc1 _ h1.2.2.1) (fun x => x)
  · exact hU.cell (cell_alloc1 _ h1.2.2.2) (fun x => x)
  · exact hU.cell h2.1 (fun x => x)
  · exact (((Upto.refl none' w).alloc _).alloc _).and hU
  · have := hU.size; simp at this; omega
end Go.Proofs.YtdomloghcpfdjaaGreatDoor
namespace Go.Proofs.YtdomloghcpfdjaaGreatDoor
open Go.RowKit Go.LF Go.Shelf
/-- From n0 on: all but the boxes that the iterator lays. -/
def Bad (n0 : Nat) (W : World) (b : Nat) : Prop := n0 ≤ b ∧ ¬ ∃ cur T fr, NodeT T ∧ W.heap[b]? = some (.cells cur T fr)
theorem bad_heap {n0 : Nat} {W W' : World} {b : Nat} (h : W'.heap[b]? = W.heap[b]?) (hn : ¬ Bad n0 W b) : ¬ Bad n0 W' b := by
  unfold Bad at *
  rw [h]
  exact hn
theorem bad_fresh (n0 H0 : Nat) : Fresh (Bad n0) H0 NodeT := by
  refine ⟨fun W cs T hT _ hb => hb.2 ⟨cs, T, _, hT, heap_alloc_new W _⟩, fun W o b hb hn => bad_heap (heap_old W o b hb) hn⟩
theorem bad_grown {n0 : Nat} {W W' : World} {row : Option Nat} (hg : W.grownBy W' row) (hr : ∀ r, row = some r → Bad n0 W r) : CelW (Bad n0) W W' := by
  refine ⟨hg.size, fun b hb hn => ?_⟩
  have hne : some b ≠ row := fun e => hn (hr b e.symm)
  exact ⟨bad_heap (hg.block b hb hne) hn, fun o v hv => (World.cell?_of_block (a := ⟨b, o, none⟩) (hg.block b hb hne)).trans hv⟩
theorem bad_put {n0 : Nat} (W : World) (l : Nat) (o o' : Obj) (hl : n0 ≤ l) (ho : W.heap[l]? = some o) (hc : o.isCells = false) : CelW (Bad n0) W (W.putObj l o') := by
  refine bad_grown (grownBy_putObj' W l o') (fun r e => ?_)
  cases e
  refine ⟨hl, ?_⟩
  rintro ⟨cur, T, fr, _, h⟩
  rw [ho] at h
  cases h
  cases hc
theorem bad_of_type {n0 : Nat} {W : World} {b : Nat} {cur : Array Value} {T : TypeId} {fr : Nat × Nat} (hb : n0 ≤ b) (h : W.heap[b]? = some (.cells cur T fr)) (hT : ¬ NodeT T) : Bad n0 W b := by
  refine ⟨hb, ?_⟩
  rintro ⟨cur', T', fr', hT', h'⟩
  rw [h] at h'
  cases h'
  exact hT hT'
theorem bad_row {n0 : Nat} {W : World} {base e size k : Nat} {v : Value} {xs : List Value} (h : W.ownsRow base e size v k xs) (hb : n0 ≤ base) (hT : ¬ NodeT e) : ∀ r, v.ownBlock = some r → Bad n0 W r := by
  intro r hr
  rcases h.2 with ⟨rfl, _⟩ | ⟨g, cap, cur, rfl, hbg, hgb, _⟩
  · simp [Value.ownBlock] at hr
  · obtain rfl : g = r := by simpa [Value.ownBlock] using hr
    exact bad_of_type (by omega) hgb hT
theorem upto_grown {w w' : World} (h : Upto none' w w') : w.grownBy w' none := ⟨h.os, h.tape, h.output, h.size, fun k hk _ => h.block k hk (fun x => x)⟩
/-- A slice's own row is no map. -/
theorem row_ne_map {W : World} {base e size k m : Nat} {v : Value} {xs ks : List Value} (h : W.ownsRow base e size v k xs) (hS : Seen W m ks) : v.ownBlock ≠ some m := by
  rcases h.2 with ⟨rfl, _⟩ | ⟨g, cap, cur, rfl, _, hgb, _⟩
  · simp [Value.ownBlock]
  · obtain ⟨es, clock, h1, _⟩ := hS
    intro e
    obtain rfl : g = m := by simpa [Value.ownBlock] using e
    rw [hgb] at h1
    cases h1
theorem cell_grown {W W' : World} {row : Option Nat} {b o : Nat} {v : Value} (h : W.cell? ⟨b, o, none⟩ = some v) (hg : W.grownBy W' row) (hr : ∀ r, row = some r → r ≠ b) : W'.cell? ⟨b, o, none⟩ = some v :=
  hg.cell h (fun e => hr b e.symm rfl)
end Go.Proofs.YtdomloghcpfdjaaGreatDoor
namespace Go.Proofs.YtdomloghcpfdjaaGreatDoor
open Go.RowKit Go.LF Go.Shelf
attribute [local go_sem] Oper.semAt_some
def ms (xs : List Nd) : List Int := (xs.map Nd.bare).foldl Tm.metaStep []
theorem ms_hit (pre : List Nd) (x : Nd) (h : (x.k == 6) = true) (hc : (ms pre).contains x.i = false) : ms (pre ++ [x]) = ms pre ++ [x.i] := by
  unfold ms at *
  rw [List.map_append, List.foldl_append]
  simp only [List.map_cons, List.map_nil, List.foldl_cons, List.foldl_nil, Tm.metaStep, Nd.bare]
  rw [h, hc]; rfl
theorem ms_miss (pre : List Nd) (x : Nd) (h : ((x.k == 6) && !(ms pre).contains x.i) = false) : ms (pre ++ [x]) = ms pre := by
  unfold ms at *
  rw [List.map_append, List.foldl_append]
  simp only [List.map_cons, List.map_nil, List.foldl_cons, List.foldl_nil, Tm.metaStep, Nd.bare]
  rw [h]; rfl
theorem ms_len (xs : List Nd) : (ms xs).length ≤ xs.length := by
  have key : ∀ (ys : List Tm.Nd0) (a : List Int), (ys.foldl Tm.metaStep a).length ≤ a.length + ys.length := by
    intro ys
    induction ys with
    | nil => intro a; simp
    | cons y ys ih =>
      intro a
      rw [List.foldl_cons]
      have := ih (Tm.metaStep a y)
      have h2 : (Tm.metaStep a y).length ≤ a.length + 1 := by unfold Tm.metaStep; split <;> simp
      simp only [List.length_cons]
      omega
  have := key (xs.map Nd.bare) []
  simpa [ms] using this
theorem info_int : (Tryz.prog.info? 3).map (fun i => (i.zero, i.size, i.bytes)) = some (some (.int .i64 0), 1, 8) := by kernel_rfl
theorem int_key (l : List Int) : ∀ k ∈ l.map (Value.int .i64), MapKept.IsKey (.int .i64) k := by
  intro k hk
  obtain ⟨x, _, rfl⟩ := List.mem_map.1 hk
  rfl
theorem zero_bool (W : World) : (zeroValue 4).run Tryz.prog W = .ok (.bool false) W := by kernel_rfl
set_option maxRecDepth 100000 in
set_option maxHeartbeats 4000000 in
theorem firstInt_in (t : Tm) (hwt : t.wt ≤ 1000000) (w : World) (cs : List Value) (h : Rep none' w t.dat cs) :
    CallsIn Fence.wide 3 Tryz.prog 174 #[.agg cs.toArray, .func (.func 175) #[] #[]] w fun e w' =>
      ∃ v, e = .returned v ∧ w'.ownsRow w.heap.size 3 1 v (if t.wf == 0 then t.addMetas0 else []).length ((if t.wf == 0 then t.addMetas0 else []).map (Value.int .i64)) ∧ Upto none' w w' := by
  have hs : t.size ≤ 1000000 := Nat.le_trans (Tm.size_le_wt t) hwt
  have HW := fun w cs h => callsIn_wide (n := 2) |>.2 (wellFormed_any t hwt w cs h)
  obtain ⟨k, nm, i, ts, a, cap, ht, rfl, hcap, hE⟩ := tm_open h
  generalize hq : (if t.wf == 0 then t.addMetas0 else []) = r at *
  have HQ := hid hq
  have HT := hid ht
  clear hq ht hcap
  generalize hl : ts.length = len at *
  clear hl
  obtain ⟨wf, hwf⟩ : ∃ wf, wf = t.wf := ⟨_, rfl⟩
  rw [← hwf] at HW
  have HF := hid hwf
  have hmm := @run_makeMap Tryz.prog
  by_cases hz : (wf == 0) = true
  · have z1 : (wf != 0) = false := by simp [bne, hz]
    have z2 : wf = 0 := by simpa using hz
    have HZ := hid (z2.symm.trans hwf).symm
    clear z2 hwf
    refine callsIn_of_wp_marks Tryz.func174 rfl trivial ?_ rfl
    simp only [Tryz.ntmps174, List.size_toArray, List.length_cons, List.length_nil, Nat.reduceAdd, Nat.reduceSub, Array.replicate_succ, Array.replicate_zero, List.push_toArray, List.append_toArray, List.nil_append, List.cons_append]
    gi_wp2_with fail
    refine ⟨trivial, ?_⟩
    refine (HW _ _ ((h.new _).new _)).mono ?_
    rintro e w1 ⟨rfl, hU1⟩
    obtain ⟨⟨b0, b1, b2, b3⟩, b4, hw1, hz1⟩ := boxes2 hU1
    have q0 := World.block_lt_of_cell? w1 _ b0
    have q1 := World.block_lt_of_cell? w1 _ b4
    simp only at q0 q1
    have q2 : w.heap.size < w1.heap.size + 1 := by omega
    have q3 : w.heap.size < w1.heap.size + 1 + 1 := by omega
    clear hU1
    gi_wp2_with fail
    refine ⟨trivial, ?_⟩
    refine (callsIn_wide.2 (nodes_any _ _ _ _ _)).mono ?_
    rintro e w' ⟨rfl, rfl⟩
    gi_wp2
    obtain ⟨W0, hW0⟩ : ∃ W0, W0 = ((w1.alloc (.cells #[.slice none 0 0] 22)).alloc (.map #[] 0)).alloc (.cells #[.map (some (w1.heap.size + 1))] 170) := ⟨_, rfl⟩
    have hz0 : W0.heap.size = w1.heap.size + 1 + 1 + 1 := by rw [hW0]; simp
    have bO : Boxed W0 w1.heap.size 22 (.slice none 0 0) := by rw [hW0]; exact ((Boxed.new _ _ _).alloc _).alloc _
    have bS : Seen W0 (w1.heap.size + 1) [] := by
      have := (Seen.made (w1.alloc (.cells #[.slice none 0 0] 22))).kept (World.grownBy_alloc _ (.cells #[.map (some (w1.heap.size + 1))] 170) none) (by simp)
      rw [World.size_alloc] at this
      rw [hW0]; exact this
    have bM : Boxed W0 (w1.heap.size + 1 + 1) 170 (.map (some (w1.heap.size + 1))) := by
      have := Boxed.new ((w1.alloc (.cells #[.slice none 0 0] 22)).alloc (.map #[] 0)) 170 (.map (some (w1.heap.size + 1)))
      rw [World.size_alloc, World.size_alloc] at this
      rw [hW0]; exact this
    have hU0 : Upto none' w1 W0 := by rw [hW0]; exact (((Upto.refl none' w1).alloc _).alloc _).alloc _
    have bF : W0.cell? ⟨w.heap.size + 1, 0, none⟩ = some (.func (.func 175) #[] #[]) := hU0.cell b4 (fun x => x)
    have hUW : Upto none' w W0 := hw1.and hU0
    have hB1 : Below w.heap.size w W0 := upto_below hUW
    have hR1 : Rep (Bad w.heap.size W0) W0 t.dat [.int .i64 k, .string (B nm), .int .i64 i, .slice a len cap] :=
      Rep.weaken (O := fun b => w.heap.size ≤ b) (fun b _ e => e.1) _ _ (Rep.carry (O := fun b => w.heap.size ≤ b) (hUW.cel (fun _ x => x.elim)) _ _ (Rep.fresh h))
    rw [← hW0, ← hz0]
    clear hW0 h b0 b1 b2 b3 b4 q0 q1 hU0 hmm
    have hW2 : Below w.heap.size w (W0.alloc (.cells #[.int .i64 k, .string (B nm), .int .i64 i, .slice a len cap] 29)) := hB1.alloc (by omega) _
    refine wpIn_rangeFunc_ownH (w := W0.alloc (.cells #[.int .i64 k, .string (B nm), .int .i64 i, .slice a len cap] 29)) rfl (by omega) (gf := 225) (lb := #[.pointer (some ⟨W0.heap.size, 0, none⟩)]) rfl trivial (enters_of Tryz.func225 (by kernel_rfl) rfl)
      (nodes_stops 2 (Bad w.heap.size) W0.heap.size W0.heap.size (bad_fresh _ _) (fun _ _ _ _ h hn => bad_heap h hn) t hs
        (W0.alloc (.cells #[.int .i64 k, .string (B nm), .int .i64 i, .slice a len cap] 29)) (by simp) k nm i a len cap (Rep.carryW (CelW.alloc' (bad_fresh _ 0) W0 _) _ _ hR1)
        (by rw [World.cell?_alloc_new]; rfl) (by rw [World.cell?_alloc_new]; rfl) (by rw [World.cell?_alloc_new]; rfl) (by rw [World.cell?_alloc_new]; rfl))
      CelW.trans (fun W l o o' hl ho hc _ => bad_put W l o o' (by simp at hl; omega) ho hc) (Below.refl _ _) (fun _ => rfl)
      (fun pre W => ((∃ v, Boxed W w1.heap.size 22 v ∧ W.ownsRow w1.heap.size 3 1 v (ms pre).length ((ms pre).map (Value.int .i64)) ∧ True) ∧
        (Seen W (w1.heap.size + 1) ((ms pre).map (Value.int .i64)) ∧ Boxed W (w1.heap.size + 1 + 1) 170 (.map (some (w1.heap.size + 1))) ∧ W.cell? ⟨w.heap.size + 1, 0, none⟩ = some (.func (.func 175) #[] #[]))) ∧ Below w.heap.size w W)
      (fun _ _ _ => False)
      (OwnFrom.and (OwnFrom.and (Own.from (holdsRow_own w1.heap.size w1.heap.size 22 3 1 (fun pre => (ms pre).length) (fun pre => (ms pre).map (Value.int .i64)) (fun _ _ => True)) _)
        (fun s A B row hs hg hr => ⟨hs.1.kept hg (fun e => by have := (hr _ e.symm).1; simp at this; omega), hs.2.1.kept hg (fun e => by have := (hr _ e.symm).1; simp at this; omega), cell_kept hs.2.2 hg (fun r e => (hr r e).2)⟩)) (ownFrom_below (by omega) (by simp; omega)))
      (fun _ _ _ _ _ hs _ _ => hs)
      ⟨⟨⟨_, bO.alloc _, World.ownsRow_nil _ _ _ _, trivial⟩, bS.kept (World.grownBy_alloc _ _ none) (by simp), bM.alloc _, cell_alloc1 _ bF⟩, hW2⟩
      (fun x a' W => ∃ Bx, w1.heap.size + 1 + 1 < Bx ∧ (W.cell? ⟨Bx, 0, none⟩ = some (.int .i64 x.k) ∧ W.cell? ⟨Bx, 1, none⟩ = some (.string (B x.n)) ∧ W.cell? ⟨Bx, 2, none⟩ = some (.int .i64 x.i) ∧ W.cell? ⟨Bx, 3, none⟩ = some (.slice x.a x.len x.cap)) ∧
        a' = { tmps := #[.agg #[.int .i64 k, .string (B nm), .int .i64 i, .slice a len cap], .func (.func 175) #[] #[], .pointer (some ⟨w.heap.size, 0, none⟩), .pointer (some ⟨w.heap.size + 1, 0, none⟩), .slice none 0 0, .pointer (some ⟨w1.heap.size, 0, none⟩), .pointer (some ⟨w1.heap.size + 1 + 1, 0, none⟩), undef, .pointer (some ⟨Bx, 0, none⟩), undef, undef,
        .agg #[.int .i64 k, .string (B nm), .int .i64 i, .slice a len cap], .int .i64 wf, .bool false, .map (some (w1.heap.size + 1)), .agg #[.int .i64 k, .string (B nm), .int .i64 i, .slice a len cap], .func (.func 225) #[] #[.pointer (some ⟨W0.heap.size, 0, none⟩)], .int .i64 x.b, .agg #[.int .i64 x.k, .string (B x.n), .int .i64 x.i, .slice x.a x.len x.cap],
        undef, undef, undef, undef, undef, undef, undef, undef, undef, undef, undef, undef, undef, undef, undef, undef, undef, undef, undef, undef], defers := [] })
      (fun x a' _ X Y row hs hg hr => by obtain ⟨Bx, h1, h2, h3⟩ := hs; exact ⟨Bx, h1, ⟨cell_kept h2.1 hg (fun r e => (hr r e).2), cell_kept h2.2.1 hg (fun r e => (hr r e).2), cell_kept h2.2.2.1 hg (fun r e => (hr r e).2), cell_kept h2.2.2.2 hg (fun r e => (hr r e).2)⟩, h3⟩) ?assign ?body ?done ?stop
    case assign =>
      rintro l pre x W K ⟨⟨⟨v, hv, hrow, _⟩, hS, hM, hF⟩, hB⟩ hK
      clear hz0
      simp [Nd.enc]
      gi_wp2
      have q1 := hM.lt
      have bb := (Cel.refl none' (W.alloc (.cells #[.int .i64 x.k, .string (B x.n), .int .i64 x.i, .slice x.a x.len x.cap] 29))).box4 (fun x => x)
      exact hK _ _ ((KeepsOthers.alloc _ _).from _) (CelW.alloc' (bad_fresh _ 0) _ _) ⟨⟨⟨v, hv.alloc _, hrow.alloc _, trivial⟩, hS.kept (World.grownBy_alloc _ _ none) (by simp), hM.alloc _, cell_alloc1 _ hF⟩, hB.alloc hB.size _⟩ ⟨W.heap.size, q1, bb, rfl⟩
    case body =>
      rintro l pre x a' W hl _ ⟨⟨⟨v, hv, hrow, _⟩, hS, hM, hF⟩, hB⟩ ⟨Bx, hBx, ⟨x0, x1, x2, x3⟩, rfl⟩ hlt
      have hc := hv.cell
      have HM1 := hid (ms_miss pre x)
      have HM2 := hid (ms_hit pre x)
      have hpl := ms_len pre
      gi_wp2_with fail
      refine ⟨trivial, ?_⟩
      refine (CallsIn.inRound l (callsIn_wide (n := 0) |>.2 (metas1_any x.k x.i x.n x.a x.len x.cap W))).mono ?_
      rintro e W2 ⟨rfl, hU2⟩
      have g2 := upto_grown hU2
      have hC2 : CelW (Bad w.heap.size) W W2 := bad_grown g2 (fun r e => by cases e)
      have hK2 : KeepsFrom (W0.alloc (.cells #[.int .i64 k, .string (B nm), .int .i64 i, .slice a len cap] 29)).heap.size W W2 := KeepsFrom.of_grownBy g2 (fun r e => by cases e)
      have hv2 := hv.kept g2 (by simp)
      have hrow2 := hrow.kept g2 (by cases v.ownBlock <;> simp)
      have hS2 := hS.kept g2 (by simp)
      have hM2 := hM.kept g2 (by simp)
      have hm2 := hM2.cell
      have hF2 := hU2.cell hF (fun x => x)
      have hB2 : Below w.heap.size w W2 := hB.grown g2 hB.size (fun r e => by cases e)
      have hc2 := hv2.cell
      have hf2 := hv2.frozen
      clear hv hrow hS hM hF hc hB hU2 g2 x0 x1 x2 x3
      by_cases h6 : (x.k == 6) = true
      · have h6' := hid h6
        by_cases hc6 : (ms pre).contains x.i = true
        · have hlk := hS2.lookup (P := Tryz.prog) (mt := 170) (kt := 3) (bt := 4) (key := .int .i64 x.i) (by kernel_rfl) (by kernel_rfl) (zero_bool W2) (int_key _) rfl true (by simp at hc6; simp [hc6])
          have hm := HM1.out (by rw [h6'.out, hc6]; rfl)
          have HMM := hid hm
          clear hm hc6
          gi_wp2
          exact ⟨hK2, hC2, ⟨⟨⟨v, hv2, by rw [HMM.out]; exact hrow2, trivial⟩, by rw [HMM.out]; exact hS2, hM2, hF2⟩, hB2⟩⟩
        · have hlk := hS2.lookup (P := Tryz.prog) (mt := 170) (kt := 3) (bt := 4) (key := .int .i64 x.i) (by kernel_rfl) (by kernel_rfl) (zero_bool W2) (int_key _) rfl false (by simp at hc6; simp [hc6])
          have hm := HM2.out h6'.out (by simpa using hc6)
          have HMM := hid hm
          obtain ⟨W3, hup, hS3, g3, hz3⟩ := hS2.store (P := Tryz.prog) (mt := 170) (kt := 3) (bt := 4) (key := .int .i64 x.i) (by kernel_rfl) (by kernel_rfl) (int_key _) rfl (by simp at hc6; simp [hc6])
          clear hm hc6
          obtain ⟨i0, hi, hi0, hi1, hi2⟩ := info_parts info_int
          have hnm := row_ne_map hrow2 hS2
          have hv3 := hv2.kept g3 (by simp)
          have hrow3 := hrow2.kept g3 (.inr hnm)
          have hM3 := hM2.kept g3 (by simp)
          have hm3 := hM3.cell
          have hF3 := cell_grown hF2 g3 (fun r e => by cases e; omega)
          have hB3 : Below w.heap.size w W3 := hB2.grown g3 hB2.size (fun r e => by cases e; omega)
          have hC3 : CelW (Bad w.heap.size) W2 W3 := by
            refine bad_grown g3 (fun r e => ?_)
            cases e
            obtain ⟨es, clock, h1, _⟩ := hS2
            refine ⟨by omega, ?_⟩
            rintro ⟨cur, T, fr, _, h⟩
            rw [h1] at h
            cases h
          have hK3 : KeepsFrom (W0.alloc (.cells #[.int .i64 k, .string (B nm), .int .i64 i, .slice a len cap] 29)).heap.size W2 W3 := KeepsFrom.of_grownBy g3 (fun r e => by cases e; simp; omega)
          have hc3 := hv3.cell
          have hlen : (ms pre).length ≤ 1000000 := by omega
          have hzb : w1.heap.size ≤ W3.heap.size := Nat.le_of_lt hv3.lt
          clear hrow2 hv2
          gi_wp2_with (gi_at_builtin; refine wpListIn_append_own _ rfl _ _ 22 rfl w1.heap.size 3 i0 (.int .i64 0) 1 8 (by kernel_rfl) hi hi0 hi1 hi2 rfl (by decide) _ _ _ rfl (hrow3.alloc _) ⟨W3.heap.size, 0, none⟩ 1 1 [.int .i64 x.i] rfl rfl (cell_one_new _ _ _) (by simp [Value.oneCell']) (by simp only [maxLen]; omega) (by omega) (by simp; omega) ?_; intro v' w4 hown' hgrow _; obtain ⟨g', cap', rfl⟩ := ownsRow_succ hown'; obtain ⟨hv4, hv5, hr5, hk5, hb5⟩ := hv3.appended (by decide) hrow3 hzb (Nat.le_refl _) hown' hgrow; have hc4 := hv4.cell; have hf4 := hv4.frozen)
          have ga := World.grownBy_alloc W3 (.cells #[.int .i64 x.i] 3) none
          have gs := grownBy_setCell' w4 w1.heap.size (.slice (some ⟨g', 0, none⟩) ((ms pre).length + 1) cap')
          have hne3 : some (w1.heap.size + 1) ≠ v.ownBlock := fun e => row_ne_map hrow3 hS3 e.symm
          have hS5 := ((hS3.kept ga (by simp)).kept hgrow hne3).kept gs (by simp)
          have hC5 := ((CelW.alloc' (bad_fresh w.heap.size 0) W3 (.cells #[.int .i64 x.i] 3)).trans (bad_grown hgrow (bad_row (hrow3.alloc _) (by omega) (by simp [NodeT])))).trans (bad_grown gs (fun r e => by cases e; exact bad_of_type (by omega) hv4 (by simp [NodeT])))
          have hM5 := (((hM3.kept ga (by simp)).kept hgrow (hM3.not_row (by decide) hrow3)).kept gs (by simp; omega))
          have hF5 := cell_grown (cell_grown (cell_grown hF3 ga (fun r e => by cases e)) hgrow (fun r e h => by subst h; have := hrow3.lt _ e; omega)) gs (fun r e => by cases e; omega)
          exact ⟨(hK2.trans hK3).trans (hk5.from _), (hC2.trans hC3).trans hC5, ⟨⟨_, hv5, by rw [HMM.out]; simpa using hr5, trivial⟩, by rw [HMM.out]; simpa using hS5, hM5, hF5⟩, hB3.trans (hb5.mono (by omega))⟩
      · have h6' := hid h6
        replace h6 : (x.k == 6) = false := by simpa using h6
        have hm := HM1.out (by rw [h6]; rfl)
        have HMM := hid hm
        clear hm
        gi_wp2
        exact ⟨hK2, hC2, ⟨⟨⟨v, hv2, by rw [HMM.out]; exact hrow2, trivial⟩, by rw [HMM.out]; exact hS2, hM2, hF2⟩, hB2⟩⟩
    case done =>
      rintro D ys W hD hys ⟨⟨⟨v, hv, hrow, _⟩, hS, hM, hF⟩, hB⟩ hK
      have hc := hv.cell
      have hr : ms ys = r := by rw [← HQ.out, HZ.out]; unfold ms; rw [hys]; exact Tm.metas_fold t 0 []
      rw [hr] at hrow
      clear hr hys
      gi_wp2
      refine ⟨by simp, .inl ⟨_, _, rfl, run_takeDeferred hK, ?_⟩⟩
      exact ⟨_, results_tmp rfl _ _ _, v, rfl, (ownsRow_putObj hrow _ hK rfl).mono hw1.size, Upto.of_below (hB.trans (belowK_b (w := w) (Nat.le_refl _) W D _ _ (by simp at hD; omega) hK rfl rfl))⟩
    case stop =>
      rintro D c pre W _ _ h _
      exact h.elim
  · have z1 : (wf != 0) = true := by simp at hz; simp [bne, hz]
    have hr : r = [] := by rw [← HQ.out, ← hwf]; simp at hz; simp [hz]
    subst hr
    clear hwf
    refine callsIn_of_wp_marks Tryz.func174 rfl trivial ?_ rfl
    simp only [Tryz.ntmps174, List.size_toArray, List.length_cons, List.length_nil, Nat.reduceAdd, Nat.reduceSub, Array.replicate_succ, Array.replicate_zero, List.push_toArray, List.append_toArray, List.nil_append, List.cons_append]
    gi_wp2_with fail
    refine ⟨trivial, ?_⟩
    refine (HW _ _ ((h.new _).new _)).mono ?_
    rintro e w1 ⟨rfl, hU1⟩
    obtain ⟨⟨b0, b1, b2, b3⟩, b4, hw1, hz1⟩ := boxes2 hU1
    gi_wp2_with fail
    exact ⟨_, results_tmp rfl _ _ _, _, rfl, World.ownsRow_nil _ _ _ _, hw1⟩
end Go.Proofs.YtdomloghcpfdjaaGreatDoor
namespace Go.Proofs.YtdomloghcpfdjaaGreatDoor
open Go.RowKit Go.LF Go.Shelf
attribute [local go_sem] Oper.semAt_some
def ns (xs : List Nd) : List (List UInt8) := (xs.map Nd.bare).foldl Tm.constStep []
end Go.Proofs.YtdomloghcpfdjaaGreatDoor
namespace Go.Proofs.YtdomloghcpfdjaaGreatDoor
open Go.RowKit Go.LF
/-- A list of numbers that is a new row from base on (nil: none). -/
def Ints (base : Nat) (W : World) (v : Value) (l : List Int) : Prop := W.ownsRow base 3 1 v l.length (l.map (Value.int .i64))
/-- A list of names that is a new row from base on (nil: none). -/
def Strs (base : Nat) (W : World) (v : Value) (l : List (List UInt8)) : Prop := W.ownsRow base 9 1 v l.length (l.map fun l => Value.string (B l))
def Tm.metas (t : Tm) : List Int := if t.wf == 0 then t.addMetas0 else []
set_option maxHeartbeats 1000000 in
theorem metas_any (t : Tm) (hwt : t.wt ≤ 1000000) (w : World) (cs : List Value) (h : Rep none' w t.dat cs) :
    Calls Tryz.prog 98 #[.agg cs.toArray] w fun e w' => ∃ v, e = .returned v ∧ Ints w.heap.size w' v (Tm.metas t) ∧ Upto none' w w' := by
  have HF := fun w cs h => callsIn_wide.1 (firstInt_in t hwt w cs h)
  obtain ⟨k, n, i, ts, a, cap, ht, rfl, hcap, hE⟩ := tm_open h
  have HT := hid ht
  clear ht hcap
  generalize ts.length = len at *
  go_enter Tryz.func98, Tryz.ntmps98
  go_wp2_with fail
  refine (HF _ _ (h.new _)).mono ?_
  rintro e w1 ⟨v, rfl, hr, hU⟩
  go_wp2
  go_ret
  exact ⟨v, rfl, hr.mono (by simp), hU.behind'⟩
end Go.Proofs.YtdomloghcpfdjaaGreatDoor
namespace Go.Proofs.YtdomloghcpfdjaaGreatDoor
open Go.RowKit Go.LF
/-- What is known of a comparison at the arguments of a term. -/
def SameAt (g : FuncId) (ts : List Tm) : Prop := ∀ x ∈ ts, ∀ (y : Tm) (w : World) (cs ds : List Value), Rep none' w x.dat cs → Rep none' w y.dat ds →
    Calls Tryz.prog g #[.agg cs.toArray, .agg ds.toArray] w fun e w' => e = .returned (.bool (x.same y)) ∧ Upto none' w w'
end Go.Proofs.YtdomloghcpfdjaaGreatDoor
namespace Go.Proofs.YtdomloghcpfdjaaGreatDoor
open Go.RowKit Go.LF
/-- But rows of the type T from base on, all is as it was; new blocks may be there. -/
structure RowUp (T : TypeId) (base : Nat) (w w' : World) : Prop where
  os : w'.os = w.os
  tape : w'.tape = w.tape
  output : w'.output = w.output
  size : w.heap.size ≤ w'.heap.size
  block : ∀ k, k < w.heap.size → (base ≤ k → ¬ ∃ cur fr, w.heap[k]? = some (.cells cur T fr)) → w'.heap[k]? = w.heap[k]?
section
variable {T : TypeId} {base : Nat} {a b c w w' : World}
theorem RowUp.refl (T : TypeId) (base : Nat) (w : World) : RowUp T base w w := ⟨rfl, rfl, rfl, Nat.le_refl _, fun _ _ _ => rfl⟩
theorem RowUp.trans (h : RowUp T base a b) (k : RowUp T base b c) : RowUp T base a c := by
  refine ⟨k.os.trans h.os, k.tape.trans h.tape, k.output.trans h.output, Nat.le_trans h.size k.size, fun i hi hn => ?_⟩
  have h1 := h.block i hi hn
  exact (k.block i (Nat.lt_of_lt_of_le hi h.size) (by rw [h1]; exact hn)).trans h1
theorem RowUp.of (h : Upto none' a b) : RowUp T base a b := ⟨h.os, h.tape, h.output, h.size, fun k hk _ => h.block k hk (fun x => x)⟩
theorem RowUp.on (h : RowUp T base a b) (k : Upto none' b c) : RowUp T base a c := h.trans (RowUp.of k)
theorem RowUp.alloc (h : RowUp T base a b) (o : Obj) : RowUp T base a (b.alloc o) := h.on ((Upto.refl none' b).alloc o)
theorem RowUp.grown {size n : Nat} {v : Value} {xs : List Value} (hr : w.ownsRow base T size v n xs) (hg : w.grownBy w' v.ownBlock) : RowUp T base w w' := by
  refine ⟨hg.os, hg.tape, hg.output, hg.size, fun k hk hn => hg.block k hk (fun e => ?_)⟩
  rcases hr.2 with ⟨rfl, _⟩ | ⟨g, cap, cur, rfl, hb, hgb, _⟩
  · simp [Value.ownBlock] at e
  · obtain rfl : k = g := by simpa [Value.ownBlock] using e
    exact hn hb ⟨_, _, hgb⟩
theorem RowUp.upto (h : RowUp T base a b) (hb : a.heap.size ≤ base) : Upto none' a b := ⟨h.os, h.tape, h.output, h.size, fun k hk _ => h.block k hk (fun e => by omega)⟩
/-- A block of another type. -/
theorem RowUp.other (h : RowUp T base a b) {g : Nat} {cur : Array Value} {T' : TypeId} {fr : Nat × Nat} (hg : a.heap[g]? = some (.cells cur T' fr)) (hT : T' ≠ T) : b.heap[g]? = some (.cells cur T' fr) := by
  rw [h.block g (Array.getElem?_eq_some_iff.1 hg).1 (fun _ => ?_)]
  · exact hg
  · rintro ⟨c, f, e⟩
    rw [hg] at e
    cases e
    exact hT rfl
theorem RowUp.cel (h : RowUp T base a b) : Cel (fun b => base ≤ b) a b :=
  ⟨h.size, fun x o v hx hv => (World.cell?_of_block (a := ⟨x, o, none⟩) (h.block x (by simpa using World.block_lt_of_cell? a _ hv) (fun e => absurd e hx))).trans hv⟩
end
/-- A box with four cells, as an object. -/
def Box4 (W : World) (g : Nat) (c0 c1 c2 c3 : Value) (T : TypeId) : Prop := W.heap[g]? = some (.cells #[c0, c1, c2, c3] T (0, 0))
theorem Box4.new (W : World) (c0 c1 c2 c3 : Value) (T : TypeId) : Box4 (W.alloc (.cells #[c0, c1, c2, c3] T)) W.heap.size c0 c1 c2 c3 T := heap_alloc_new W _
theorem Box4.up {a b : World} {U : TypeId} {base g : Nat} {c0 c1 c2 c3 : Value} {T : TypeId} (h : Box4 a g c0 c1 c2 c3 T) (hu : RowUp U base a b) (hT : T ≠ U) : Box4 b g c0 c1 c2 c3 T := hu.other h hT
theorem Box4.cells {W : World} {g : Nat} {c0 c1 c2 c3 : Value} {T : TypeId} (h : Box4 W g c0 c1 c2 c3 T) :
    W.cell? ⟨g, 0, none⟩ = some c0 ∧ W.cell? ⟨g, 1, none⟩ = some c1 ∧ W.cell? ⟨g, 2, none⟩ = some c2 ∧ W.cell? ⟨g, 3, none⟩ = some c3 := by
  unfold Box4 at h
  refine ⟨?_, ?_, ?_, ?_⟩ <;> simp [World.cell?, h]
theorem Box4.kept {W W' : World} {g : Nat} {c0 c1 c2 c3 : Value} {T : TypeId} (h : Box4 W g c0 c1 c2 c3 T) (hu : Upto none' W W') : Box4 W' g c0 c1 c2 c3 T :=
  (hu.block g (Array.getElem?_eq_some_iff.1 h).1 (fun x => x)).trans h
theorem own_none (v : Value) : v.ownBlock = none ∨ v.ownBlock ≠ none := by cases v.ownBlock <;> simp
/-- A list of numbers, as data. -/
abbrev intsD (l : List Int) : Dat := .seq 1 (l.map (Dat.int .i64))
abbrev strsD (l : List (List UInt8)) : Dat := .seq 1 (l.map fun s => Dat.str (B s))
theorem rowCell {W : World} {base : Nat} {T : TypeId} {v : Value} {xs : List Value} (h : W.ownsRow base T 1 v xs.length xs) : ∃ a cap, v = .slice a xs.length cap ∧ xs.length ≤ cap ∧ ∀ i (hi : i < xs.length), ∃ b, a = some ⟨b, 0, none⟩ ∧ b < W.heap.size ∧ base ≤ b ∧ W.cell? ⟨b, i, none⟩ = some xs[i] := by
  rcases h.2 with ⟨rfl, h0⟩ | ⟨g, cap, cur, rfl, hb, hg, hnc, _, _, _⟩
  · exact ⟨none, 0, by rw [h0], by omega, fun i hi => by omega⟩
  · refine ⟨_, cap, rfl, hnc, fun i hi => ⟨g, rfl, (Array.getElem?_eq_some_iff.1 hg).1, hb, ?_⟩⟩
    have := h.cells (g := g) rfl i xs[i] (by simp)
    have hadd : (⟨g, 0, none⟩ : Addr).add i = ⟨g, i, none⟩ := by unfold Addr.add; split <;> simp_all
    rwa [hadd] at this
theorem repE_row {α : Type} {O : Nat → Prop} {W : World} {D : α → Dat} {V : α → Value} (hD : ∀ x, Rep O W (D x) [V x]) : ∀ (l : List α) (a : Option Addr) (j : Nat),
    (∀ i (hi : i < l.length), ∃ b, a = some ⟨b, 0, none⟩ ∧ b < W.heap.size ∧ ¬ O b ∧ W.cell? ⟨b, j + i, none⟩ = some (V l[i])) → RepE O W 1 (l.map D) a j
  | [], _, _, _ => by simp only [List.map_nil, RepE]
  | x :: l, a, j, h => by
    simp only [List.map_cons, RepE]
    refine ⟨?_, repE_row hD l a (j + 1) (fun i hi => ?_)⟩
    · obtain ⟨b, h1, h2, h3, h4⟩ := h 0 (by simp)
      refine ⟨b, 0, [V x], h1, h2, h3, rfl, fun i v hv => ?_, hD x⟩
      cases i with
      | zero =>
        cases hv
        have e : 0 + j + 0 = j + 0 := by omega
        rw [e]
        exact h4
      | succ i => simp at hv
    · obtain ⟨b, h1, h2, h3, h4⟩ := h (i + 1) (by simp; omega)
      refine ⟨b, h1, h2, h3, ?_⟩
      rw [show j + 1 + i = j + (i + 1) by omega]
      exact h4
theorem Ints.rep {base : Nat} {W : World} {v : Value} {l : List Int} (h : Ints base W v l) : Rep (fun b => b < base) W (intsD l) [v] := by
  obtain ⟨a, cap, h1, h2, h3⟩ := rowCell (by simpa [Ints] using h : W.ownsRow base 3 1 v (l.map (Value.int .i64)).length (l.map (Value.int .i64)))
  simp only [List.length_map] at h1 h2 h3
  simp only [Rep]
  refine ⟨a, cap, by simp [h1], by simpa using h2, repE_row (V := Value.int .i64) (fun x => by simp [Rep]) l a 0 (fun i hi => ?_)⟩
  obtain ⟨b, g1, g2, g3, g4⟩ := h3 i hi
  exact ⟨b, g1, g2, by omega, by simpa using g4⟩
theorem Strs.rep {base : Nat} {W : World} {v : Value} {l : List (List UInt8)} (h : Strs base W v l) : Rep (fun b => b < base) W (strsD l) [v] := by
  obtain ⟨a, cap, h1, h2, h3⟩ := rowCell (by simpa [Strs] using h : W.ownsRow base 9 1 v (l.map fun l => Value.string (B l)).length (l.map fun l => Value.string (B l)))
  simp only [List.length_map] at h1 h2 h3
  simp only [Rep]
  refine ⟨a, cap, by simp [h1], by simpa using h2, repE_row (V := fun l => Value.string (B l)) (fun x => by simp [Rep]) l a 0 (fun i hi => ?_)⟩
  obtain ⟨b, g1, g2, g3, g4⟩ := h3 i hi
  exact ⟨b, g1, g2, by omega, by simpa using g4⟩
/-- A list of numbers in memory: its value, and each of its cells. -/
theorem ints_open {O : Nat → Prop} {W : World} {l : List Int} {v : Value} (h : Rep O W (intsD l) [v]) : ∃ a cap, v = .slice a l.length cap ∧ l.length ≤ cap ∧ RepE O W 1 (l.map (Dat.int .i64)) a 0 := by
  simp only [Rep] at h
  obtain ⟨a, cap, h1, h2, h3⟩ := h
  exact ⟨a, cap, by simpa using h1, by simpa using h2, h3⟩
theorem int_cell {O : Nat → Prop} {W : World} {l : List Int} {a : Option Addr} (h : RepE O W 1 (l.map (Dat.int .i64)) a 0) (i : Nat) (hi : i < l.length) :
    ∃ b o, a = some ⟨b, o, none⟩ ∧ b < W.heap.size ∧ ¬ O b ∧ W.cell? ⟨b, o + i, none⟩ = some (.int .i64 l[i]) := by
  obtain ⟨b, o, cs, h1, h2, h3, h4, h5, h6⟩ := h.get i (by simpa using hi)
  simp only [List.getElem_map, Rep] at h6
  subst h6
  exact ⟨b, o, h1, h2, h3, by simpa using h5 0 _ rfl⟩
theorem strs_open {O : Nat → Prop} {W : World} {l : List (List UInt8)} {v : Value} (h : Rep O W (strsD l) [v]) : ∃ a cap, v = .slice a l.length cap ∧ l.length ≤ cap ∧ RepE O W 1 (l.map fun s => Dat.str (B s)) a 0 := by
  simp only [Rep] at h
  obtain ⟨a, cap, h1, h2, h3⟩ := h
  exact ⟨a, cap, by simpa using h1, by simpa using h2, h3⟩
theorem str_cell {O : Nat → Prop} {W : World} {l : List (List UInt8)} {a : Option Addr} (h : RepE O W 1 (l.map fun s => Dat.str (B s)) a 0) (i : Nat) (hi : i < l.length) :
    ∃ b o, a = some ⟨b, o, none⟩ ∧ b < W.heap.size ∧ ¬ O b ∧ W.cell? ⟨b, o + i, none⟩ = some (.string (B l[i])) := by
  obtain ⟨b, o, cs, h1, h2, h3, h4, h5, h6⟩ := h.get i (by simpa using hi)
  simp only [List.getElem_map, Rep] at h6
  subst h6
  exact ⟨b, o, h1, h2, h3, by simpa using h5 0 _ rfl⟩
end Go.Proofs.YtdomloghcpfdjaaGreatDoor
namespace Go.Proofs.YtdomloghcpfdjaaGreatDoor
open Go.RowKit Go.LF
theorem repE_of {O : Nat → Prop} {W : World} {wd : Nat} : ∀ (ds : List Dat) (a : Option Addr) (j : Nat),
    (∀ i (h : i < ds.length), ∃ b o cs, a = some ⟨b, o, none⟩ ∧ b < W.heap.size ∧ ¬ O b ∧ cs.length = wd ∧ (∀ m v, cs[m]? = some v → W.cell? ⟨b, o + j + i * wd + m, none⟩ = some v) ∧ Rep O W ds[i] cs) → RepE O W wd ds a j
  | [], _, _, _ => by simp only [RepE]
  | d :: ds, a, j, h => by
    simp only [RepE]
    refine ⟨?_, repE_of ds a (j + wd) (fun i hi => ?_)⟩
    · obtain ⟨b, o, cs, h1, h2, h3, h4, h5, h6⟩ := h 0 (by simp)
      exact ⟨b, o, cs, h1, h2, h3, h4, fun i v hv => by simpa using h5 i v hv, h6⟩
    · obtain ⟨b, o, cs, h1, h2, h3, h4, h5, h6⟩ := h (i + 1) (by simp; omega)
      refine ⟨b, o, cs, h1, h2, h3, h4, fun m v hv => ?_, h6⟩
      have := h5 m v hv
      rw [Nat.add_mul, Nat.one_mul] at this
      rw [show o + (j + wd) + i * wd + m = o + j + (i * wd + wd) + m by omega]
      exact this
theorem flat4 : ∀ (css : List (List Value)), (∀ cs ∈ css, cs.length = 4) → css.flatten.length = css.length * 4 ∧ ∀ i (h : i < css.length) m v, css[i][m]? = some v → css.flatten[i * 4 + m]? = some v
  | [], _ => ⟨rfl, fun i h => by simp at h⟩
  | c :: css, hl => by
    obtain ⟨h1, h2⟩ := flat4 css (fun cs hc => hl cs (by simp [hc]))
    have hc := hl c (by simp)
    refine ⟨by simp [h1, hc]; omega, fun i h m v hv => ?_⟩
    cases i with
    | zero =>
      simp only [List.getElem_cons_zero] at hv
      have hm : m < c.length := (List.getElem?_eq_some_iff.1 hv).1
      simp only [List.flatten_cons, Nat.zero_mul, Nat.zero_add]
      rw [List.getElem?_append_left hm]
      exact hv
    | succ i =>
      simp only [List.getElem_cons_succ] at hv
      simp only [List.flatten_cons]
      rw [List.getElem?_append_right (by rw [hc, Nat.add_mul]; omega), hc, show (i + 1) * 4 + m - 4 = i * 4 + m by omega]
      exact h2 i (by simpa using h) m v hv
/-- The value v is a row of its own, from base on, with these terms; all of them lie in other blocks from base on. -/
def Terms (base : Nat) (W : World) (v : Value) (ts : List Tm) (css : List (List Value)) : Prop :=
  css.length = ts.length ∧ (∀ cs ∈ css, cs.length = 4) ∧ W.ownsRow base 29 4 v ts.length css.flatten ∧
    ∀ i (h : i < ts.length) (h' : i < css.length), Rep (fun b => b < base ∨ v.ownBlock = some b) W ts[i].dat css[i]
theorem Terms.nil (base : Nat) (W : World) : Terms base W (.slice none 0 0) [] [] := ⟨rfl, by simp, World.ownsRow_nil _ _ _ _, fun i h => by simp at h⟩
theorem Terms.keep {base : Nat} {W W' : World} {v : Value} {ts : List Tm} {css : List (List Value)} {S : Nat → Prop} (h : Terms base W v ts css) (hU : Upto S W W') (hS : ∀ b, S b → b < base) : Terms base W' v ts css := by
  obtain ⟨h1, h2, h3, h4⟩ := h
  refine ⟨h1, h2, ⟨h3.1, ?_⟩, fun i h h' => Rep.keep hU (fun b hb => .inl (hS b hb)) _ _ (h4 i h h')⟩
  rcases h3.2 with h5 | ⟨g, cap, cur, rfl, hb, hg, rest⟩
  · exact .inl h5
  · exact .inr ⟨g, cap, cur, rfl, hb, (hU.block g (Array.getElem?_eq_some_iff.1 hg).1 (fun e => by have := hS g e; omega)).trans hg, rest⟩
theorem Terms.on {base : Nat} {W W' : World} {v : Value} {ts : List Tm} {css : List (List Value)} (h : Terms base W v ts css) (hU : Upto none' W W') : Terms base W' v ts css := h.keep hU (fun _ x => x.elim)
theorem Terms.rep {base : Nat} {W : World} {v : Value} {ts : List Tm} {css : List (List Value)} (h : Terms base W v ts css) : ∃ a cap, v = .slice a ts.length cap ∧ ts.length ≤ cap ∧ RepE (fun b => b < base) W 4 (ts.map Tm.dat) a 0 := by
  obtain ⟨h1, h2, h3, h4⟩ := h
  rcases h3.2 with ⟨rfl, h0⟩ | ⟨g, cap, cur, rfl, hb, hg, hnc, _⟩
  · obtain rfl : ts = [] := List.eq_nil_of_length_eq_zero h0
    exact ⟨none, 0, rfl, Nat.le_refl _, by simp only [List.map_nil, RepE]⟩
  · refine ⟨_, cap, rfl, hnc, repE_of _ _ _ (fun i hi => ?_)⟩
    simp only [List.length_map] at hi
    have hi' : i < css.length := by omega
    refine ⟨g, 0, css[i], rfl, (Array.getElem?_eq_some_iff.1 hg).1, by omega, h2 _ (List.getElem_mem hi'), fun m u hu => ?_, ?_⟩
    · have := h3.cells (g := g) rfl _ u ((flat4 css h2).2 i hi' m u hu)
      have hadd : (⟨g, 0, none⟩ : Addr).add (i * 4 + m) = ⟨g, i * 4 + m, none⟩ := by unfold Addr.add; split <;> simp_all
      rw [hadd] at this
      rw [show 0 + 0 + i * 4 + m = i * 4 + m by omega]
      exact this
    · simp only [List.getElem_map]
      exact Rep.weaken (fun b _ e => .inl e) _ _ (h4 i hi hi')
/-- One term more. -/
theorem Terms.appended {base : Nat} {W w' : World} {v : Value} {ts : List Tm} {css : List (List Value)} {t : Tm} {cs : List Value} {g cap H : Nat} (h : Terms base W v ts css) (hcs : cs.length = 4)
    (hr : Rep (fun b => b < base ∨ v.ownBlock = some b) W t.dat cs) (hown : w'.ownsRow base 29 4 (.slice (some ⟨g, 0, none⟩) (ts.length + 1) cap) (ts.length + 1) (css.flatten ++ cs)) (hg : W.grownBy w' v.ownBlock)
    (hat : v.ownBlock = some g ∨ g = H) (hH : W.heap.size ≤ H) : Terms base w' (.slice (some ⟨g, 0, none⟩) (ts.length + 1) cap) (ts ++ [t]) (css ++ [cs]) := by
  obtain ⟨h1, h2, h3, h4⟩ := h
  have hcel : Cel (fun b => (b < base ∨ v.ownBlock = some b) ∨ W.heap.size ≤ b) W w' := by
    refine ⟨hg.size, fun b o u hb hu => hg.cell hu (fun e => hb (.inl (.inr ?_)))⟩
    exact e.symm
  have key : ∀ (d : Dat) (cs : List Value), Rep (fun b => b < base ∨ v.ownBlock = some b) W d cs → Rep (fun b => b < base ∨ (Value.slice (some ⟨g, 0, none⟩) (ts.length + 1) cap).ownBlock = some b) w' d cs := by
    intro d cs h
    refine Rep.weaken (fun b _ e => ?_) _ _ (Rep.carry hcel _ _ (Rep.freshO h))
    rcases e with e | e
    · exact .inl (.inl e)
    · simp only [Value.ownBlock, Option.some.injEq] at e
      subst e
      rcases hat with hat | rfl
      · exact .inl (.inr hat)
      · exact .inr hH
  refine ⟨by simp [h1], ?_, by simpa using hown, fun i hi hi' => ?_⟩
  · intro c hc
    rcases List.mem_append.1 hc with hc | hc
    · exact h2 c hc
    · obtain rfl : c = cs := by simpa using hc
      exact hcs
  · by_cases hlt : i < ts.length
    · have hlt' : i < css.length := by omega
      rw [List.getElem_append_left hlt, List.getElem_append_left hlt']
      exact key _ _ (h4 i hlt hlt')
    · have e1 : i = ts.length := by simp at hi; omega
      subst e1
      rw [List.getElem_append_right (Nat.le_refl _), List.getElem_append_right (by omega)]
      simp only [h1, Nat.sub_self, List.getElem_cons_zero]
      exact key _ _ hr
theorem Box4.set0 {W : World} {g : Nat} {c0 c1 c2 c3 : Value} {T : TypeId} (h : Box4 W g c0 c1 c2 c3 T) (v : Value) : Box4 (W.setCell ⟨g, 0, none⟩ v) g v c1 c2 c3 T := by
  obtain ⟨hlt, hk⟩ := Array.getElem?_eq_some_iff.1 h
  show (W.heap.modify g _)[g]? = _
  rw [Array.getElem?_eq_getElem (by rw [Array.size_modify]; exact hlt), Array.getElem_modify_self, hk]
  rfl
theorem Box4.set1 {W : World} {g : Nat} {c0 c1 c2 c3 : Value} {T : TypeId} (h : Box4 W g c0 c1 c2 c3 T) (v : Value) : Box4 (W.setCell ⟨g, 1, none⟩ v) g c0 v c2 c3 T := by
  obtain ⟨hlt, hk⟩ := Array.getElem?_eq_some_iff.1 h
  show (W.heap.modify g _)[g]? = _
  rw [Array.getElem?_eq_getElem (by rw [Array.size_modify]; exact hlt), Array.getElem_modify_self, hk]
  rfl
theorem Box4.set2 {W : World} {g : Nat} {c0 c1 c2 c3 : Value} {T : TypeId} (h : Box4 W g c0 c1 c2 c3 T) (v : Value) : Box4 (W.setCell ⟨g, 2, none⟩ v) g c0 c1 v c3 T := by
  obtain ⟨hlt, hk⟩ := Array.getElem?_eq_some_iff.1 h
  show (W.heap.modify g _)[g]? = _
  rw [Array.getElem?_eq_getElem (by rw [Array.size_modify]; exact hlt), Array.getElem_modify_self, hk]
  rfl
theorem Box4.set3 {W : World} {g : Nat} {c0 c1 c2 c3 : Value} {T : TypeId} (h : Box4 W g c0 c1 c2 c3 T) (v : Value) : Box4 (W.setCell ⟨g, 3, none⟩ v) g c0 c1 c2 v T := by
  obtain ⟨hlt, hk⟩ := Array.getElem?_eq_some_iff.1 h
  show (W.heap.modify g _)[g]? = _
  rw [Array.getElem?_eq_getElem (by rw [Array.size_modify]; exact hlt), Array.getElem_modify_self, hk]
  rfl
theorem Box4.other {W : World} {g b o : Nat} {c0 c1 c2 c3 : Value} {T : TypeId} (h : Box4 W g c0 c1 c2 c3 T) (hb : g ≠ b) (v : Value) : Box4 (W.setCell ⟨b, o, none⟩ v) g c0 c1 c2 c3 T :=
  (Below.heap_setCell _ _ _ _ hb).trans h
theorem Box4.frozen {W : World} {g : Nat} {c0 c1 c2 c3 : Value} {T : TypeId} (h : Box4 W g c0 c1 c2 c3 T) (j : Nat) : W.frozen? ⟨g, j, none⟩ = false := by
  unfold Box4 at h
  simp [World.frozen?, h]
theorem Box4.frozens {W : World} {g : Nat} {c0 c1 c2 c3 : Value} {T : TypeId} (h : Box4 W g c0 c1 c2 c3 T) :
    W.frozen? ⟨g, 0, none⟩ = false ∧ W.frozen? ⟨g, 1, none⟩ = false ∧ W.frozen? ⟨g, 2, none⟩ = false ∧ W.frozen? ⟨g, 3, none⟩ = false := ⟨h.frozen 0, h.frozen 1, h.frozen 2, h.frozen 3⟩
theorem Box4.keep {W W' : World} {S : Nat → Prop} {g : Nat} {c0 c1 c2 c3 : Value} {T : TypeId} (h : Box4 W g c0 c1 c2 c3 T) (hU : Upto S W W') (hS : ¬ S g) : Box4 W' g c0 c1 c2 c3 T :=
  (hU.block g (Array.getElem?_eq_some_iff.1 h).1 hS).trans h
theorem Box4.lt {W : World} {g : Nat} {c0 c1 c2 c3 : Value} {T : TypeId} (h : Box4 W g c0 c1 c2 c3 T) : g < W.heap.size := (Array.getElem?_eq_some_iff.1 h).1
/-- A box that lies below the row's base. -/
theorem Box4.row {W W' : World} {g base : Nat} {c0 c1 c2 c3 : Value} {T : TypeId} {v : Value} {ts : List Tm} {css : List (List Value)} (h : Box4 W g c0 c1 c2 c3 T) (hg : W.grownBy W' v.ownBlock) (ht : Terms base W v ts css) (hb : g < base) : Box4 W' g c0 c1 c2 c3 T :=
  (hg.block g h.lt (fun e => by have := (ht.2.2.1.lt g e.symm).1; omega)).trans h
end Go.Proofs.YtdomloghcpfdjaaGreatDoor
namespace Go.Proofs.YtdomloghcpfdjaaGreatDoor
open Go.RowKit Go.LF
theorem rep_leaf {O : Nat → Prop} {W : World} (k : Int) (n : List UInt8) (i : Int) : Rep O W (Tm.mk k n i []).dat [.int .i64 k, .string (B n), .int .i64 i, .slice none 0 0] :=
  rep_tm.2 ⟨none, 0, rfl, Nat.le_refl _, by simp only [List.map_nil, RepE]⟩
/-- A node with one argument, in a block of its own. -/
theorem rep_one {O : Nat → Prop} {W : World} {t : Tm} {c0 c1 c2 c3 : Value} {b : Nat} {T : TypeId} (h : Rep O W t.dat [c0, c1, c2, c3]) (hb : ¬ O b) (hB : Box4 W b c0 c1 c2 c3 T) (k : Int) (n : List UInt8) (i : Int) :
    Rep O W (Tm.mk k n i [t]).dat [.int .i64 k, .string (B n), .int .i64 i, .slice (some ⟨b, 0, none⟩) 1 1] := by
  obtain ⟨n0, m1, m2, m3⟩ := hB.cells
  refine rep_tm.2 ⟨_, 1, rfl, Nat.le_refl _, ?_⟩
  refine repE_of _ _ _ (fun i hi => ?_)
  obtain rfl : i = 0 := by simpa using hi
  refine ⟨b, 0, _, rfl, hB.lt, hb, rfl, fun m v hv => ?_, h⟩
  match m, hv with
  | 0, hv => cases hv; exact n0
  | 1, hv => cases hv; exact m1
  | 2, hv => cases hv; exact m2
  | 3, hv => cases hv; exact m3
section
variable {w : World} {c0 c1 c2 c3 d0 d1 d2 d3 : Value}
end
end Go.Proofs.YtdomloghcpfdjaaGreatDoor
namespace Go.Proofs.YtdomloghcpfdjaaGreatDoor
open Go.RowKit Go.LF
theorem Box4.at_new {w : World} {c0 c1 c2 c3 : Value} {T : TypeId} {b : Nat} (hb : w.heap.size = b) : Box4 (w.alloc (.cells #[c0, c1, c2, c3] T)) b c0 c1 c2 c3 T := by subst hb; exact Box4.new _ _ _ _ _ _
theorem Upto.set {a w : World} {b : Nat} (h : Upto (fun x => x = b) a w) (o : Nat) (v : Value) : Upto (fun x => x = b) a (w.setCell ⟨b, o, none⟩ v) := Upto.setCell (S := fun x => x = b) (p := ⟨b, o, none⟩) h (fun _ => rfl) v
/-- A row that lies behind what was there was appended to. -/
theorem Upto.row {S : Nat → Prop} {a b c : World} {U : TypeId} {base : Nat} (h : Upto S a b) (k : RowUp U base b c) (hb : a.heap.size ≤ base) : Upto S a c :=
  ⟨k.os.trans h.os, k.tape.trans h.tape, k.output.trans h.output, Nat.le_trans h.size k.size, fun i hi hn => (k.block i (Nat.lt_of_lt_of_le hi h.size) (fun e => by omega)).trans (h.block i hi hn)⟩
theorem Upto.ofRow {U : TypeId} {base : Nat} {a b : World} (h : RowUp U base a b) : Upto (fun k => base ≤ k) a b := ⟨h.os, h.tape, h.output, h.size, fun k hk hn => h.block k hk (fun e => absurd e hn)⟩
/-- All four cells of a box are stored. -/
theorem Box4.set {W : World} {b : Nat} {c0 c1 c2 c3 d0 d1 d2 d3 : Value} {T : TypeId} (h : Box4 W b c0 c1 c2 c3 T) :
    Box4 ((((W.setCell ⟨b, 0, none⟩ d0).setCell ⟨b, 1, none⟩ d1).setCell ⟨b, 2, none⟩ d2).setCell ⟨b, 3, none⟩ d3) b d0 d1 d2 d3 T ∧
      Upto (fun x => x = b) W ((((W.setCell ⟨b, 0, none⟩ d0).setCell ⟨b, 1, none⟩ d1).setCell ⟨b, 2, none⟩ d2).setCell ⟨b, 3, none⟩ d3) := by
  refine ⟨(((h.set0 _).set1 _).set2 _).set3 _, ?_⟩
  exact Upto.set (Upto.set (Upto.set (Upto.set (Upto.refl _ W) 0 _) 1 _) 2 _) 3 _
theorem info_term : (Tryz.prog.info? 29).map (fun i => (i.zero, i.size, i.bytes)) = some (some (.agg #[.int .i64 0, .string (B []), .int .i64 0, .slice none 0 0]), 4, 56) := by kernel_rfl
end Go.Proofs.YtdomloghcpfdjaaGreatDoor
namespace Go.LF
namespace Sm
mutual
def dat : Sm → Dat
  | mk f l => .st [.str (B f), .seq 2 (dats l)]
def dats : List Sm → List Dat
  | [] => []
  | t :: ts => dat t :: dats ts
end
theorem dats_eq (l : List Sm) : dats l = l.map dat := by
  induction l with
  | nil => rfl
  | cons t ts ih => simp [dats, ih]
end Sm
end Go.LF
namespace Go.Proofs.YtdomloghcpfdjaaGreatDoor
open Go.RowKit Go.LF
theorem rep_sm {O : Nat → Prop} {w : World} {f : List UInt8} {l : List Sm} {cs : List Value} :
    Rep O w (Sm.mk f l).dat cs ↔ ∃ a cap, cs = [.string (B f), .slice a l.length cap] ∧ l.length ≤ cap ∧ RepE O w 2 (l.map Sm.dat) a 0 := by
  simp only [Sm.dat, Rep, RepF, Sm.dats_eq]
  constructor
  · rintro ⟨c1, c2, rfl, rfl, c7, c8, rfl, ⟨a, cap, rfl, h1, h2⟩, rfl⟩
    exact ⟨a, cap, by simp, by simpa using h1, h2⟩
  · rintro ⟨a, cap, rfl, h1, h2⟩
    exact ⟨[_], [_], rfl, rfl, [.slice a l.length cap], [], rfl, ⟨a, cap, by simp, by simpa using h1, h2⟩, rfl⟩
theorem sm_open {O : Nat → Prop} {w : World} {s : Sm} {cs : List Value} (h : Rep O w s.dat cs) :
    ∃ f l a cap, s = .mk f l ∧ cs = [.string (B f), .slice a l.length cap] ∧ l.length ≤ cap ∧ RepE O w 2 (l.map Sm.dat) a 0 := by
  cases s with
  | mk f l =>
    obtain ⟨a, cap, h1, h2, h3⟩ := rep_sm.1 h
    exact ⟨f, l, a, cap, rfl, h1, h2, h3⟩
/-- An argument of a simple type, in memory. -/
theorem arg_sm {O : Nat → Prop} {w : World} {l : List Sm} {a : Option Addr} (h : RepE O w 2 (l.map Sm.dat) a 0) (i : Nat) (hi : i < l.length) :
    ∃ b o n s c, a = some ⟨b, o, none⟩ ∧ b < w.heap.size ∧ ¬ O b ∧ w.cell? ⟨b, o + i * 2, none⟩ = some (.string (B n)) ∧ w.cell? ⟨b, o + i * 2 + 1, none⟩ = some (.slice s l[i].args.length c) ∧
      Rep O w l[i].dat [.string (B n), .slice s l[i].args.length c] := by
  obtain ⟨b, o, cs, h1, hb, h2, h3, h4, h5⟩ := h.get i (by simpa using hi)
  simp only [List.getElem_map] at h5
  cases hx : l[i] with
  | mk f m =>
    rw [hx] at h5
    obtain ⟨s, c, rfl, g1, g2⟩ := rep_sm.1 h5
    refine ⟨b, o, f, s, c, h1, hb, h2, ?_, ?_, h5⟩
    · simpa using h4 0 _ rfl
    · simpa [Sm.args] using h4 1 _ rfl
theorem sm_tie {O : Nat → Prop} {w : World} {t : Sm} {n : List UInt8} {s : Option Addr} {l c : Nat} (h : Rep O w t.dat [.string (B n), .slice s l c]) :
    ∃ ts, t = .mk n ts ∧ l = ts.length ∧ l ≤ c ∧ RepE O w 2 (ts.map Sm.dat) s 0 := by
  obtain ⟨f, ts, a', cap', rfl, e, hcap, hE⟩ := sm_open h
  simp only [List.cons.injEq, Value.string.injEq, Value.slice.injEq, and_true] at e
  obtain ⟨e2, rfl, rfl, rfl⟩ := e
  obtain rfl : n = f := by have := congrArg (fun b => b.data.toList) e2; simpa using this
  exact ⟨ts, rfl, rfl, hcap, hE⟩
/-- A box with two cells. -/
def Box2 (W : World) (g : Nat) (c0 c1 : Value) (T : TypeId) : Prop := W.heap[g]? = some (.cells #[c0, c1] T (0, 0))
section
variable {W W' : World} {g b : Nat} {c0 c1 : Value} {T : TypeId} {S : Nat → Prop}
theorem Box2.at_new (hb : W.heap.size = b) : Box2 (W.alloc (.cells #[c0, c1] T)) b c0 c1 T := by subst hb; exact heap_alloc_new W _
theorem Box2.lt (h : Box2 W g c0 c1 T) : g < W.heap.size := (Array.getElem?_eq_some_iff.1 h).1
theorem Box2.cells (h : Box2 W g c0 c1 T) : W.cell? ⟨g, 0, none⟩ = some c0 ∧ W.cell? ⟨g, 1, none⟩ = some c1 := by unfold Box2 at h; constructor <;> simp [World.cell?, h]
theorem Box2.frozens (h : Box2 W g c0 c1 T) : W.frozen? ⟨g, 0, none⟩ = false ∧ W.frozen? ⟨g, 1, none⟩ = false := by unfold Box2 at h; constructor <;> simp [World.frozen?, h]
theorem Box2.keep (h : Box2 W g c0 c1 T) (hU : Upto S W W') (hS : ¬ S g) : Box2 W' g c0 c1 T := (hU.block g h.lt hS).trans h
theorem Box2.kept (h : Box2 W g c0 c1 T) (hU : Upto none' W W') : Box2 W' g c0 c1 T := h.keep hU (fun x => x)
theorem Box2.set0 (h : Box2 W g c0 c1 T) (v : Value) : Box2 (W.setCell ⟨g, 0, none⟩ v) g v c1 T := by
  obtain ⟨hlt, hk⟩ := Array.getElem?_eq_some_iff.1 h
  show (W.heap.modify g _)[g]? = _
  rw [Array.getElem?_eq_getElem (by rw [Array.size_modify]; exact hlt), Array.getElem_modify_self, hk]
  rfl
theorem Box2.set1 (h : Box2 W g c0 c1 T) (v : Value) : Box2 (W.setCell ⟨g, 1, none⟩ v) g c0 v T := by
  obtain ⟨hlt, hk⟩ := Array.getElem?_eq_some_iff.1 h
  show (W.heap.modify g _)[g]? = _
  rw [Array.getElem?_eq_getElem (by rw [Array.size_modify]; exact hlt), Array.getElem_modify_self, hk]
  rfl
end
end Go.Proofs.YtdomloghcpfdjaaGreatDoor
namespace Go.Proofs.YtdomloghcpfdjaaGreatDoor
open Go.RowKit Go.LF
theorem flat2 : ∀ (css : List (List Value)), (∀ cs ∈ css, cs.length = 2) → css.flatten.length = css.length * 2 ∧ ∀ i (h : i < css.length) m v, css[i][m]? = some v → css.flatten[i * 2 + m]? = some v
  | [], _ => ⟨rfl, fun i h => by simp at h⟩
  | c :: css, hl => by
    obtain ⟨h1, h2⟩ := flat2 css (fun cs hc => hl cs (by simp [hc]))
    have hc := hl c (by simp)
    refine ⟨by simp [h1, hc]; omega, fun i h m v hv => ?_⟩
    cases i with
    | zero =>
      simp only [List.getElem_cons_zero] at hv
      have hm : m < c.length := (List.getElem?_eq_some_iff.1 hv).1
      simp only [List.flatten_cons, Nat.zero_mul, Nat.zero_add]
      rw [List.getElem?_append_left hm]
      exact hv
    | succ i =>
      simp only [List.getElem_cons_succ] at hv
      simp only [List.flatten_cons]
      rw [List.getElem?_append_right (by rw [hc, Nat.add_mul]; omega), hc, show (i + 1) * 2 + m - 2 = i * 2 + m by omega]
      exact h2 i (by simpa using h) m v hv
/-- The value v is a row of its own, from base on, with these terms; all of them lie in other blocks from base on. -/
def Sims (base : Nat) (W : World) (v : Value) (ts : List Sm) (css : List (List Value)) : Prop :=
  css.length = ts.length ∧ (∀ cs ∈ css, cs.length = 2) ∧ W.ownsRow base 33 2 v ts.length css.flatten ∧
    ∀ i (h : i < ts.length) (h' : i < css.length), Rep (fun b => b < base ∨ v.ownBlock = some b) W ts[i].dat css[i]
theorem Sims.nil (base : Nat) (W : World) : Sims base W (.slice none 0 0) [] [] := ⟨rfl, by simp, World.ownsRow_nil _ _ _ _, fun i h => by simp at h⟩
theorem Sims.keep {base : Nat} {W W' : World} {v : Value} {ts : List Sm} {css : List (List Value)} {S : Nat → Prop} (h : Sims base W v ts css) (hU : Upto S W W') (hS : ∀ b, S b → b < base) : Sims base W' v ts css := by
  obtain ⟨h1, h2, h3, h4⟩ := h
  refine ⟨h1, h2, ⟨h3.1, ?_⟩, fun i h h' => Rep.keep hU (fun b hb => .inl (hS b hb)) _ _ (h4 i h h')⟩
  rcases h3.2 with h5 | ⟨g, cap, cur, rfl, hb, hg, rest⟩
  · exact .inl h5
  · exact .inr ⟨g, cap, cur, rfl, hb, (hU.block g (Array.getElem?_eq_some_iff.1 hg).1 (fun e => by have := hS g e; omega)).trans hg, rest⟩
theorem Sims.on {base : Nat} {W W' : World} {v : Value} {ts : List Sm} {css : List (List Value)} (h : Sims base W v ts css) (hU : Upto none' W W') : Sims base W' v ts css := h.keep hU (fun _ x => x.elim)
theorem Sims.rep {base : Nat} {W : World} {v : Value} {ts : List Sm} {css : List (List Value)} (h : Sims base W v ts css) : ∃ a cap, v = .slice a ts.length cap ∧ ts.length ≤ cap ∧ RepE (fun b => b < base) W 2 (ts.map Sm.dat) a 0 := by
  obtain ⟨h1, h2, h3, h4⟩ := h
  rcases h3.2 with ⟨rfl, h0⟩ | ⟨g, cap, cur, rfl, hb, hg, hnc, _⟩
  · obtain rfl : ts = [] := List.eq_nil_of_length_eq_zero h0
    exact ⟨none, 0, rfl, Nat.le_refl _, by simp only [List.map_nil, RepE]⟩
  · refine ⟨_, cap, rfl, hnc, repE_of _ _ _ (fun i hi => ?_)⟩
    simp only [List.length_map] at hi
    have hi' : i < css.length := by omega
    refine ⟨g, 0, css[i], rfl, (Array.getElem?_eq_some_iff.1 hg).1, by omega, h2 _ (List.getElem_mem hi'), fun m u hu => ?_, ?_⟩
    · have := h3.cells (g := g) rfl _ u ((flat2 css h2).2 i hi' m u hu)
      have hadd : (⟨g, 0, none⟩ : Addr).add (i * 2 + m) = ⟨g, i * 2 + m, none⟩ := by unfold Addr.add; split <;> simp_all
      rw [hadd] at this
      rw [show 0 + 0 + i * 2 + m = i * 2 + m by omega]
      exact this
    · simp only [List.getElem_map]
      exact Rep.weaken (fun b _ e => .inl e) _ _ (h4 i hi hi')
/-- One term more. -/
theorem Sims.appended {base : Nat} {W w' : World} {v : Value} {ts : List Sm} {css : List (List Value)} {t : Sm} {cs : List Value} {g cap H : Nat} (h : Sims base W v ts css) (hcs : cs.length = 2)
    (hr : Rep (fun b => b < base ∨ v.ownBlock = some b) W t.dat cs) (hown : w'.ownsRow base 33 2 (.slice (some ⟨g, 0, none⟩) (ts.length + 1) cap) (ts.length + 1) (css.flatten ++ cs)) (hg : W.grownBy w' v.ownBlock)
    (hat : v.ownBlock = some g ∨ g = H) (hH : W.heap.size ≤ H) : Sims base w' (.slice (some ⟨g, 0, none⟩) (ts.length + 1) cap) (ts ++ [t]) (css ++ [cs]) := by
  obtain ⟨h1, h2, h3, h4⟩ := h
  have hcel : Cel (fun b => (b < base ∨ v.ownBlock = some b) ∨ W.heap.size ≤ b) W w' := by
    refine ⟨hg.size, fun b o u hb hu => hg.cell hu (fun e => hb (.inl (.inr ?_)))⟩
    exact e.symm
  have key : ∀ (d : Dat) (cs : List Value), Rep (fun b => b < base ∨ v.ownBlock = some b) W d cs → Rep (fun b => b < base ∨ (Value.slice (some ⟨g, 0, none⟩) (ts.length + 1) cap).ownBlock = some b) w' d cs := by
    intro d cs h
    refine Rep.weaken (fun b _ e => ?_) _ _ (Rep.carry hcel _ _ (Rep.freshO h))
    rcases e with e | e
    · exact .inl (.inl e)
    · simp only [Value.ownBlock, Option.some.injEq] at e
      subst e
      rcases hat with hat | rfl
      · exact .inl (.inr hat)
      · exact .inr hH
  refine ⟨by simp [h1], ?_, by simpa using hown, fun i hi hi' => ?_⟩
  · intro c hc
    rcases List.mem_append.1 hc with hc | hc
    · exact h2 c hc
    · obtain rfl : c = cs := by simpa using hc
      exact hcs
  · by_cases hlt : i < ts.length
    · have hlt' : i < css.length := by omega
      rw [List.getElem_append_left hlt, List.getElem_append_left hlt']
      exact key _ _ (h4 i hlt hlt')
    · have e1 : i = ts.length := by simp at hi; omega
      subst e1
      rw [List.getElem_append_right (Nat.le_refl _), List.getElem_append_right (by omega)]
      simp only [h1, Nat.sub_self, List.getElem_cons_zero]
      exact key _ _ hr
theorem Box2.row {W W' : World} {g base : Nat} {c0 c1 : Value} {T : TypeId} {v : Value} {ts : List Sm} {css : List (List Value)} (h : Box2 W g c0 c1 T) (hg : W.grownBy W' v.ownBlock) (ht : Sims base W v ts css) (hb : g < base) : Box2 W' g c0 c1 T :=
  (hg.block g h.lt (fun e => by have := (ht.2.2.1.lt g e.symm).1; omega)).trans h
theorem Box2.set {W : World} {b : Nat} {c0 c1 d0 d1 : Value} {T : TypeId} (h : Box2 W b c0 c1 T) :
    Box2 ((W.setCell ⟨b, 0, none⟩ d0).setCell ⟨b, 1, none⟩ d1) b d0 d1 T ∧ Upto (fun x => x = b) W ((W.setCell ⟨b, 0, none⟩ d0).setCell ⟨b, 1, none⟩ d1) :=
  ⟨(h.set0 _).set1 _, Upto.set (Upto.set (Upto.refl _ W) 0 _) 1 _⟩
theorem info_simple : (Tryz.prog.info? 33).map (fun i => (i.zero, i.size, i.bytes)) = some (some (.agg #[.string (B []), .slice none 0 0]), 2, 40) := by kernel_rfl
end Go.Proofs.YtdomloghcpfdjaaGreatDoor
namespace Go.Proofs.YtdomloghcpfdjaaGreatDoor
open Go.RowKit Go.LF
/-- The value v is a row of its own, from base on, with these terms, whose arguments lie below, outside O. -/
def RowS2 (O : Nat → Prop) (base : Nat) (W : World) (v : Value) (ts : List Sm) (css : List (List Value)) : Prop :=
  css.length = ts.length ∧ (∀ cs ∈ css, cs.length = 2) ∧ W.ownsRow base 33 2 v ts.length css.flatten ∧ ∀ i (h : i < ts.length) (h' : i < css.length), Rep (fun b => O b ∨ base ≤ b) W ts[i].dat css[i]
theorem RowS2.keep {O : Nat → Prop} {base : Nat} {W W' : World} {v : Value} {ts : List Sm} {css : List (List Value)} {S : Nat → Prop} (h : RowS2 O base W v ts css) (hU : Upto S W W') (hS : ∀ b, S b → base ≤ b ∧ v.ownBlock ≠ some b) : RowS2 O base W' v ts css := by
  obtain ⟨h1, h2, h3, h4⟩ := h
  refine ⟨h1, h2, ⟨h3.1, ?_⟩, fun i h h' => Rep.keep hU (fun b hb => .inr (hS b hb).1) _ _ (h4 i h h')⟩
  rcases h3.2 with h5 | ⟨g, cap, cur, rfl, hb, hg, rest⟩
  · exact .inl h5
  · exact .inr ⟨g, cap, cur, rfl, hb, (hU.block g (Array.getElem?_eq_some_iff.1 hg).1 (fun e => (hS g e).2 rfl)).trans hg, rest⟩
theorem RowS2.on {O : Nat → Prop} {base : Nat} {W W' : World} {v : Value} {ts : List Sm} {css : List (List Value)} (h : RowS2 O base W v ts css) (hU : Upto none' W W') : RowS2 O base W' v ts css := h.keep hU (fun _ x => x.elim)
/-- Each cell of such a row. -/
theorem RowS2.cells {O : Nat → Prop} {base : Nat} {W : World} {v : Value} {ts : List Sm} {css : List (List Value)} (h : RowS2 O base W v ts css) : ∃ a cap, v = .slice a ts.length cap ∧ ts.length ≤ cap ∧
    ∀ i (hi : i < ts.length) (hi' : i < css.length), ∃ g, a = some ⟨g, 0, none⟩ ∧ v.ownBlock = some g ∧ base ≤ g ∧ g < W.heap.size ∧ (∀ o, W.frozen? ⟨g, o, none⟩ = false) ∧ ∀ m u, css[i][m]? = some u → W.cell? ⟨g, i * 2 + m, none⟩ = some u := by
  obtain ⟨h1, h2, h3, h4⟩ := h
  rcases h3.2 with ⟨rfl, h0⟩ | ⟨g, cap, cur, rfl, hb, hg, hnc, _⟩
  · exact ⟨none, 0, by rw [h0], by omega, fun i hi => by omega⟩
  · refine ⟨_, cap, rfl, hnc, fun i hi hi' => ⟨g, rfl, rfl, hb, (Array.getElem?_eq_some_iff.1 hg).1, fun o => by simp [World.frozen?, hg], fun m u hu => ?_⟩⟩
    have := h3.cells (g := g) rfl _ u ((flat2 css h2).2 i hi' m u hu)
    have hadd : (⟨g, 0, none⟩ : Addr).add (i * 2 + m) = ⟨g, i * 2 + m, none⟩ := by unfold Addr.add; split <;> simp_all
    rwa [hadd] at this
theorem RowS2.rep {O : Nat → Prop} {base : Nat} {W : World} {v : Value} {ts : List Sm} {css : List (List Value)} (h : RowS2 O base W v ts css) : ∃ a cap, v = .slice a ts.length cap ∧ ts.length ≤ cap ∧ RepE (fun b => (O b ∧ b < base) ∨ (base ≤ b ∧ v.ownBlock ≠ some b)) W 2 (ts.map Sm.dat) a 0 := by
  obtain ⟨a, cap, hv, hcap, hc⟩ := h.cells
  refine ⟨a, cap, hv, hcap, repE_of _ _ _ (fun i hi => ?_)⟩
  simp only [List.length_map] at hi
  have hi' : i < css.length := by have := h.1; omega
  obtain ⟨g, rfl, hown, hb, hlt, _, hg⟩ := hc i hi hi'
  refine ⟨g, 0, css[i], rfl, hlt, fun x => x.elim (fun y => by omega) (fun y => y.2 hown), h.2.1 _ (List.getElem_mem hi'), fun m u hu => ?_, ?_⟩
  · rw [show 0 + 0 + i * 2 + m = i * 2 + m by omega]
    exact hg m u hu
  · simp only [List.getElem_map]
    exact Rep.weaken (fun _ _ x => x.elim (fun y => .inl y.1) (fun y => .inr y.1)) _ _ (h.2.2.2 i hi hi')
/-- A row of one that has just been laid. -/
theorem RowS2.one {O : Nat → Prop} {W : World} {t : Sm} {f : List UInt8} {a : Option Addr} {len cap : Nat} (hR : Rep O W t.dat [.string (B f), .slice a len cap]) :
    RowS2 O W.heap.size (W.alloc (.cells #[.string (B f), .slice a len cap] 33)) (.slice (some ⟨W.heap.size, 0, none⟩) 1 1) [t] [[.string (B f), .slice a len cap]] := by
  refine ⟨rfl, by simp, ⟨by simp, .inr ⟨_, _, _, rfl, Nat.le_refl _, heap_alloc_new W _, Nat.le_refl _, by simp only [maxLen]; omega, by simp, by simp⟩⟩, fun i h h' => ?_⟩
  obtain rfl : i = 0 := by simpa using h
  exact (Rep.fresh' _ _ hR).on ((Upto.refl none' W).alloc _)
end Go.Proofs.YtdomloghcpfdjaaGreatDoor
