/- Size, by the iterator. -/
import Derived.RangeFuncNested
import Derived.RangeFuncBound
import Derived.RangeFuncCalls
import Derived.RangeFuncLeaves
import Derived.Shelf.Abstract
import Derived.Shelf.RegionOpen
import Derived.WalkKit
import Derived.OwnWalkIn
import Derived.TacticsInMore
import Derived.LoopNIn
import Derived.LoopIn
import Derived.Laws.EntriesVeiled
import Derived.Test.YtdcbgkmhlpkjiaaDoorRows
import Derived.Test.YtdcbgkmhlpkjiaaDoorGen
import Derived.Test.YtdcbgkmhlpkjiaaDoorNodesB
import Derived.RangeFuncFrom
namespace Go.Proofs.YtdcbgkmhlpkjiaaDoor
open Go.RowKit Go.LF Go.Shelf
attribute [local go_sem] Oper.semAt_some


theorem cel_putObj {O : Nat → Prop} (W : World) (l : Nat) (o o' : Obj) (h : W.heap[l]? = some o) (hc : o.isCells = false) : Cel O W (W.putObj l o') := by
  have hl : l < W.heap.size := (Array.getElem?_eq_some_iff.1 h).1
  refine ⟨by have := (grownBy_putObj' W l o').size; exact this, ?_⟩
  intro b off v _ hv
  have hne : b ≠ l := by
    intro e
    subst e
    unfold World.cell? at hv
    rw [h] at hv
    cases o <;> simp [Obj.isCells] at hc hv
  exact (World.cell?_of_block (a := ⟨b, off, none⟩) (World.putObj_heap_other hne)).trans hv
theorem cell_new1 (W : World) (v : Value) (t : TypeId) : (W.alloc (.cells #[v] t)).cell? ⟨W.heap.size, 0, none⟩ = some v ∧ (W.alloc (.cells #[v] t)).frozen? ⟨W.heap.size, 0, none⟩ = false := by
  constructor <;> simp
theorem cell_alloc1 {W : World} {a : Addr} {v : Value} (o : Obj) (h : W.cell? a = some v) : (W.alloc o).cell? a = some v := cell_kept h (World.grownBy_alloc W o none) (fun r e => by cases e)
theorem frozen_alloc1 {W : World} {a : Addr} {v : Value} (o : Obj) (h : W.cell? a = some v) (hf : W.frozen? a = false) : (W.alloc o).frozen? a = false := (frozen_kept h (World.grownBy_alloc W o none) (fun r e => by cases e)).trans hf

theorem cel_setCell {O : Nat → Prop} (W : World) (p : Addr) (v : Value) (h : O p.block) : Cel O W (W.setCell p v) := by
  refine ⟨by simp, ?_⟩
  intro b off u hb hu
  rw [World.cell?_setCell_other]
  · exact hu
  · intro e
    rw [e] at h
    exact hb h

set_option maxRecDepth 100000 in
set_option maxHeartbeats 2000000 in
theorem size_in (t : Tm) (hs : t.size ≤ 1000000) (w : World) (cs : List Value) (h : Rep none' w t.dat cs) :
    CallsIn Fence.wide 3 Tryd.prog 27 #[.agg cs.toArray] w fun e w' => e = .returned (.int .i64 t.size) ∧ Below w.heap.size w w' := by
  obtain ⟨k, nm, i, ts, rfl⟩ : ∃ k nm i ts, t = .mk k nm i ts := by cases t; exact ⟨_, _, _, _, rfl⟩
  obtain ⟨a, cap, rfl, hcap, hE⟩ := rep_tm.1 h
  generalize hT : Tm.mk k nm i ts = t at *
  have HT := hid hT
  clear hT
  generalize hl : ts.length = len at *
  refine callsIn_of_wp_marks Tryd.func27 rfl trivial ?_ rfl
  simp only [Tryd.ntmps27, List.size_toArray, List.length_cons, List.length_nil, Nat.reduceAdd, Nat.reduceSub, Array.replicate_succ, Array.replicate_zero, List.push_toArray, List.append_toArray, List.nil_append, List.cons_append]
  gi_wp2_with fail
  refine ⟨trivial, ?_⟩
  refine (callsIn_wide.2 (nodes_any _ _ _ _ _)).mono ?_
  rintro e w' ⟨rfl, rfl⟩
  gi_wp2
  obtain ⟨W1, hW1⟩ : ∃ W1, W1 = (w.alloc (.cells #[.int .i64 k, .string (B nm), .int .i64 i, .slice a len cap] 25)).alloc (.cells #[.int .i64 0] 3) := ⟨_, rfl⟩
  have hz : W1.heap.size = w.heap.size + 1 + 1 := by rw [hW1]; simp
  have hn : W1.cell? ⟨w.heap.size + 1, 0, none⟩ = some (.int .i64 0) ∧ W1.frozen? ⟨w.heap.size + 1, 0, none⟩ = false := by
    have := cell_new1 (w.alloc (.cells #[.int .i64 k, .string (B nm), .int .i64 i, .slice a len cap] 25)) (.int .i64 0) 3
    rw [World.size_alloc] at this
    rw [hW1]; exact this
  have hB1 : Below w.heap.size w W1 := by rw [hW1]; exact ((Below.refl _ w).alloc (Nat.le_refl _) _).alloc (by simp) _
  have hR1 : Rep (fun b => b = w.heap.size + 1) W1 t.dat [.int .i64 k, .string (B nm), .int .i64 i, .slice a len cap] :=
    Rep.weaken (O := fun b => w.heap.size ≤ b) (fun b _ e => by omega) _ _ (Rep.carry (O := fun b => w.heap.size ≤ b) ((Upto.of_below (S := none') hB1).cel (fun _ x => x.elim)) _ _ (Rep.fresh h))
  rw [← hW1]
  clear hW1 h
  have hW2 : Below w.heap.size w (W1.alloc (.cells #[.int .i64 k, .string (B nm), .int .i64 i, .slice a len cap] 25)) := hB1.alloc (by omega) _
  refine wpIn_rangeFunc_ownF (w := W1.alloc (.cells #[.int .i64 k, .string (B nm), .int .i64 i, .slice a len cap] 25)) rfl (by omega) (gf := 114) (lb := #[.pointer (some ⟨w.heap.size + 1 + 1, 0, none⟩)]) rfl trivial (enters_of Tryd.func114 (by kernel_rfl) rfl)
    (nodes_stops 2 (fun _ b => b = w.heap.size + 1) (w.heap.size + 1 + 1) (w.heap.size + 2) (Fresh.of _ _ (fun b hb e => by omega)) (fun _ _ _ _ _ h => h) t hs
      (W1.alloc (.cells #[.int .i64 k, .string (B nm), .int .i64 i, .slice a len cap] 25)) (by simp; omega) k nm i a len cap (hR1.new _)
      (by rw [← hz, World.cell?_alloc_new]; rfl) (by rw [← hz, World.cell?_alloc_new]; rfl) (by rw [← hz, World.cell?_alloc_new]; rfl) (by rw [← hz, World.cell?_alloc_new]; rfl))
    CelW.trans (fun W l o o' _ ho hc _ => CelW.of _ (cel_putObj W l o o' ho hc)) (Below.refl _ _) (fun _ => rfl)
    (fun pre W => (W.cell? ⟨w.heap.size + 1, 0, none⟩ = some (.int .i64 pre.length) ∧ W.frozen? ⟨w.heap.size + 1, 0, none⟩ = false) ∧ Below w.heap.size w W)
    (fun _ _ _ => False)
    (OwnFrom.and (Own.from (fun s A B row hs hg hr => ⟨cell_kept hs.1 hg hr, (frozen_kept hs.1 hg hr).trans hs.2⟩) _) (ownFrom_below (Nat.le_refl _) (by simp; omega)))
    (fun _ _ _ _ _ hs _ _ => hs)
    ⟨⟨cell_alloc1 _ hn.1, frozen_alloc1 _ hn.1 hn.2⟩, hW2⟩
    (fun x => { tmps := #[.agg #[.int .i64 k, .string (B nm), .int .i64 i, .slice a len cap], .pointer (some ⟨w.heap.size, 0, none⟩), .int .i64 0, .pointer (some ⟨w.heap.size + 1, 0, none⟩), .agg #[.int .i64 k, .string (B nm), .int .i64 i, .slice a len cap], .func (.func 114) #[] #[.pointer (some ⟨w.heap.size + 1 + 1, 0, none⟩)], .int .i64 x.b, .agg #[.int .i64 x.k, .string (B x.n), .int .i64 x.i, .slice x.a x.len x.cap], undef, undef, undef], defers := [] }) ?assign ?body ?done ?stop
  case assign =>
    intro l x W K hK
    simp [Nd.enc]
    gi_wp2
    exact hK
  case body =>
    rintro l pre x W ⟨⟨hc, hf⟩, hB⟩ hlt
    have hlt' : pre.length < 1000000 := by omega
    gi_wp2
    have hc' : (W.setCell ⟨w.heap.size + 1, 0, none⟩ (.int .i64 (pre.length + 1))).cell? ⟨w.heap.size + 1, 0, none⟩ = some (.int .i64 (pre.length + 1)) := World.cell?_setCell_same _ _ _ hc
    exact ⟨KeepsOthers.setCell _ _ _, CelW.of _ (cel_setCell W ⟨w.heap.size + 1, 0, none⟩ _ rfl), ⟨by rw [hc', List.length_append]; rfl, by rw [World.frozen?_setCell]; exact hf⟩, hB.setCell (p := ⟨w.heap.size + 1, 0, none⟩) (by simp) _⟩
  case done =>
    rintro D ys W hD hys ⟨⟨hc, _⟩, hB⟩ hK
    have hlen : ys.length = t.size := by rw [← Tm.nodes_length t 0, ← hys, List.length_map]
    rw [hlen] at hc
    gi_wp2
    refine ⟨by simp, .inl ⟨_, _, rfl, run_takeDeferred hK, ?_⟩⟩
    exact ⟨_, results_tmp rfl _ _ _, rfl, hB.trans (belowK_b (w := w) (Nat.le_refl _) W D _ _ (by simp at hD; omega) hK rfl rfl)⟩
  case stop =>
    rintro D c pre W _ _ h _
    exact h.elim

theorem size_any (t : Tm) (hs : t.size ≤ 1000000) (w : World) (cs : List Value) (h : Rep none' w t.dat cs) :
    Calls Tryd.prog 27 #[.agg cs.toArray] w fun e w' => e = .returned (.int .i64 t.size) ∧ Upto none' w w' :=
  (callsIn_wide.1 (size_in t hs w cs h)).mono fun _ _ ⟨h1, h2⟩ => ⟨h1, Upto.of_below h2⟩
end Go.Proofs.YtdcbgkmhlpkjiaaDoor
