/- The iterator over the nodes of a term: its callers. -/
import Derived.RangeFuncNested
import Derived.RangeFuncBound
import Derived.RangeFuncCalls
import Derived.RangeFuncLeaves
import Derived.Shelf.Abstract
import Derived.Shelf.RegionOpen
import Derived.WalkKit
import Derived.OwnWalkIn
import Derived.TacticsInMore
import Derived.LoopNIn
import Derived.LoopIn
import Derived.Laws.EntriesVeiled
import Derived.Test.YtdcbgkmhlpkjiaaDoorRows
import Derived.Test.YtdcbgkmhlpkjiaaDoorGen
import Derived.Test.YtdcbgkmhlpkjiaaDoorNodes
namespace Go.Proofs.YtdcbgkmhlpkjiaaDoor
open Go.RowKit Go.LF Go.Shelf
attribute [local go_sem] Oper.semAt_some


set_option maxRecDepth 100000 in
set_option maxHeartbeats 2000000 in
/-- The function that nodes hands back. -/
theorem nodes1_in (n : Nat) (l : Nat) (O : World → Nat → Prop) (T0 : Nat) (J Jx : List Nd → World → Prop) (H0 : Nat) (FO : Fresh O H0 NodeT)
    (t : Tm) (hs : t.size ≤ 1000000)
    (hJ : ∀ pre W o, J pre W → J pre (W.alloc o))
    (hY : ∀ m pre x W, J pre W → pre.length < t.size → YieldAt Fence.wide m Tryd.prog l (Nd.enc x) W fun e W' =>
      (e = .returned (.bool true) ∧ J (pre ++ [x]) W' ∧ CelW O W W') ∨ (e = .returned (.bool false) ∧ Jx (pre ++ [x]) W'))
    (W : World) (hH : H0 ≤ W.heap.size) (k : Int) (nm : List UInt8) (i : Int) (a : Option Addr) (len cap : Nat)
    (h : Rep (O W) W t.dat [.int .i64 k, .string (B nm), .int .i64 i, .slice a len cap])
    (c0 : W.cell? ⟨T0, 0, none⟩ = some (.int .i64 k)) (c1 : W.cell? ⟨T0, 1, none⟩ = some (.string (B nm))) (c2 : W.cell? ⟨T0, 2, none⟩ = some (.int .i64 i)) (c3 : W.cell? ⟨T0, 3, none⟩ = some (.slice a len cap))
    (h0 : J [] W) :
    CallsIn Fence.wide n Tryd.prog 114 #[.func (.yield l) #[] #[], .pointer (some ⟨T0, 0, none⟩)] W fun e W' => (∃ v, e = .returned v) ∧
      ((∃ xs : List Nd, xs.map Nd.bare = t.nodes 0 ∧ J xs W') ∨ (∃ xs : List Nd, xs.map Nd.bare <+: t.nodes 0 ∧ Jx xs W')) := by
  have hb := World.block_lt_of_cell? W _ c0
  simp only at hb
  refine callsIn_of_wp Tryd.func114 rfl trivial ?_ rfl
  simp only [Tryd.ntmps114, List.size_toArray, List.length_cons, List.length_nil, Nat.reduceAdd, Nat.reduceSub, Array.replicate_succ, Array.replicate_zero, List.push_toArray, List.append_toArray, List.nil_append, List.cons_append]
  gi_wp2_with fail
  refine ⟨trivial, fun h => (by cases h), ?_⟩
  obtain ⟨W2, hW2⟩ : ∃ W2, W2 = (W.alloc (.cells #[.func (.yield l) #[] #[]] 101)).alloc (.cells #[.func (.func 115) #[] #[.pointer (some ⟨W.heap.size, 0, none⟩), .pointer (some ⟨W.heap.size + 1, 0, none⟩)]] 32) := ⟨_, rfl⟩
  have hC : CelW O W W2 := by rw [hW2]; exact (CelW.alloc' FO _ _).trans (CelW.alloc' FO _ _)
  have hJ2 : J [] W2 := by rw [hW2]; exact hJ _ _ _ (hJ _ _ _ h0)
  have hyc : At O W2 W.heap.size 0 (.func (.yield l) #[] #[]) := by
    have h1 : At O (W.alloc (.cells #[.func (.yield l) #[] #[]] 101)) W.heap.size 0 (.func (.yield l) #[] #[]) := ⟨FO.new W _ _ (.inr (.inl rfl)) hH, by rw [World.cell?_alloc_new]; rfl⟩
    rw [hW2]
    exact (CelW.alloc' FO _ _).at h1
  have hkc : At O W2 (W.heap.size + 1) 0 (.func (.func 115) #[] #[.pointer (some ⟨W.heap.size, 0, none⟩), .pointer (some ⟨W.heap.size + 1, 0, none⟩)]) := by
    have := World.cell?_alloc_new (W.alloc (.cells #[.func (.yield l) #[] #[]] 101)) #[.func (.func 115) #[] #[.pointer (some ⟨W.heap.size, 0, none⟩), .pointer (some ⟨W.heap.size + 1, 0, none⟩)]] 32 0
    have h2 := FO.new (W.alloc (.cells #[.func (.yield l) #[] #[]] 101)) #[.func (.func 115) #[] #[.pointer (some ⟨W.heap.size, 0, none⟩), .pointer (some ⟨W.heap.size + 1, 0, none⟩)]] 32 (.inr (.inr rfl)) (by simp; omega)
    rw [World.size_alloc] at this h2
    rw [hW2]
    exact ⟨h2, by rw [this]; rfl⟩
  have key := nodes_walk_in l O W.heap.size (W.heap.size + 1) t.size J Jx H0 FO hJ hY t hs (n - 1) 0 [] W2 _ (by omega) (by omega) (by have := hC.1; omega) (Rep.carryW hC _ _ h) hJ2 (by simp) hyc hkc
  rw [hW2] at key
  refine key.mono ?_
  clear key
  rintro e W3 (⟨rfl, xs, hxs, hJ3, _⟩ | ⟨rfl, xs, hxs, hJx3⟩)
  · gi_wp2
    go_end0
    exact ⟨⟨_, rfl⟩, .inl ⟨xs, hxs, by simpa using hJ3⟩⟩
  · gi_wp2
    go_end0
    exact ⟨⟨_, rfl⟩, .inr ⟨xs, hxs, by simpa using hJx3⟩⟩

/-- The contract of the iterator, at a box T0 that holds the term. -/
theorem nodes_stops (n : Nat) (O : World → Nat → Prop) (T0 : Nat) (H0 : Nat) (FO : Fresh O H0 NodeT)
    (hOB : ∀ W W' b, b < W.heap.size → W'.heap[b]? = W.heap[b]? → ¬ O W b → ¬ O W' b)
    (t : Tm) (hs : t.size ≤ 1000000) (w : World) (hH : H0 ≤ w.heap.size) (k : Int) (nm : List UInt8) (i : Int) (a : Option Addr) (len cap : Nat)
    (h : Rep (O w) w t.dat [.int .i64 k, .string (B nm), .int .i64 i, .slice a len cap])
    (c0 : w.cell? ⟨T0, 0, none⟩ = some (.int .i64 k)) (c1 : w.cell? ⟨T0, 1, none⟩ = some (.string (B nm))) (c2 : w.cell? ⟨T0, 2, none⟩ = some (.int .i64 i)) (c3 : w.cell? ⟨T0, 3, none⟩ = some (.slice a len cap)) :
    SeqStopsK Fence.wide n Tryd.prog 114 #[.pointer (some ⟨T0, 0, none⟩)] Nd.enc (CelW O) (fun xs => xs.map Nd.bare = t.nodes 0) (fun xs => xs.map Nd.bare <+: t.nodes 0) t.size w := by
  intro l J Jx W hW hJ hJx hY h0
  have hC0 : Cel none' w W := (Upto.of_below (S := none') hW).cel (fun _ x => x.elim)
  have hC : CelW O w W := ⟨hC0.1, fun b hb hn => ⟨hOB w W b hb (hW.block b hb) hn, fun o v hv => hC0.2 b o v (fun x => x) hv⟩⟩
  exact nodes1_in n l O T0 J Jx H0 FO t hs (fun pre W o hj => hJ pre W _ none hj (World.grownBy_alloc W o none) (by simp))
    (fun m pre x W hj hl => YieldAt.anyDepth rfl m (hY pre x W hj hl)) W (by have := hC.1; omega) k nm i a len cap (Rep.carryW hC _ _ h) (hC0.cell (fun x => x) c0) (hC0.cell (fun x => x) c1) (hC0.cell (fun x => x) c2) (hC0.cell (fun x => x) c3) h0

set_option maxHeartbeats 1000000 in
theorem nodes_any (c0 c1 c2 c3 : Value) (w : World) :
    Calls Tryd.prog 80 #[.agg #[c0, c1, c2, c3]] w fun e w' => e = .returned (.func (.func 114) #[] #[.pointer (some ⟨w.heap.size, 0, none⟩)]) ∧ w.alloc (.cells #[c0, c1, c2, c3] 25) = w' := by
  go_enter Tryd.func80, Tryd.ntmps80
  go_wp2
  go_ret
  exact ⟨rfl, rfl⟩
end Go.Proofs.YtdcbgkmhlpkjiaaDoor
