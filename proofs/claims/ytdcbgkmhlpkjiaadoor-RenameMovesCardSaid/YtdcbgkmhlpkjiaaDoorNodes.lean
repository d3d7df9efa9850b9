/- The iterator over the nodes of a term. -/
import Derived.RangeFuncNested
import Derived.RangeFuncBound
import Derived.RangeFuncCalls
import Derived.RangeFuncLeaves
import Derived.Shelf.Abstract
import Derived.Shelf.RegionOpen
import Derived.WalkKit
import Derived.OwnWalkIn
import Derived.TacticsInMore
import Derived.LoopNIn
import Derived.LoopIn
import Derived.Laws.EntriesVeiled
import Derived.Test.YtdcbgkmhlpkjiaaDoorRows
import Derived.Test.YtdcbgkmhlpkjiaaDoorCelW
namespace Go.Proofs.YtdcbgkmhlpkjiaaDoor
open Go.RowKit Go.LF Go.Shelf
attribute [local go_sem] Oper.semAt_some

/-- A node with the value of its Args. -/
structure Nd where
  b : Int
  k : Int
  n : List UInt8
  i : Int
  a : Option Addr
  len : Nat
  cap : Nat
def Nd.bare (x : Nd) : Tm.Nd0 := ⟨x.b, x.k, x.n, x.i⟩
def Nd.enc (x : Nd) : Array Value := #[.int .i64 x.b, .agg #[.int .i64 x.k, .string (B x.n), .int .i64 x.i, .slice x.a x.len x.cap]]

theorem room_of_none {F : Fence} (hd : F.depth = none) (k : Nat) : F.room k := fun d h => by rw [hd] at h; cases h
theorem RoundIn.anyDepth {F : Fence} (hd : F.depth = none) {m m' : Nat} {P : Program} {l : Nat} {f : FuncId} {tmps : Array Value} {assign body : Code} {w : World} {R : Ending → World → Prop}
    (h : RoundIn F m P l f tmps assign body w R) : RoundIn F m' P l f tmps assign body w R := ⟨h.1, fun c cs _ => h.2 c cs (room_of_none hd _)⟩
theorem YieldAt.anyDepth {F : Fence} (hd : F.depth = none) {m : Nat} (m' : Nat) {P : Program} {l : Nat} {args : Array Value} {W : World} {R : Ending → World → Prop} (h : YieldAt F m P l args W R) : YieldAt F m' P l args W R := by
  obtain ⟨fn, tmps, assign, body, hy, hR⟩ := h
  exact ⟨fn, tmps, assign, body, hy, RoundIn.anyDepth hd hR⟩

theorem nodes_step {b k i u : Int} {nm : List UInt8} {ts : List Tm} {j : Nat} {t : Tm} {xs ys : List Nd} (hx : xs.map Nd.bare = (⟨b, k, nm, i⟩ : Tm.Nd0) :: Tm.nodesA b k 0 (ts.take j))
    (ht : Tm.nodesA b k 0 (ts.take (j + 1)) = Tm.nodesA b k 0 (ts.take j) ++ Tm.nodes (b + u) t) (hy : ys.map Nd.bare <+: Tm.nodes (b + u) t) :
    (xs ++ ys).map Nd.bare <+: Tm.nodes b (Tm.mk k nm i ts) := by
  rw [List.map_append, hx, Tm.nodes_mk, List.cons_append]
  refine List.cons_prefix_cons.2 ⟨rfl, ?_⟩
  refine List.IsPrefix.trans ?_ (Tm.nodesA_take_prefix ts b k (j + 1))
  rw [ht]
  exact (List.prefix_append_right_inj _).2 hy

/-- The types of the boxes that the iterator lays. -/
def NodeT (T : TypeId) : Prop := T = 25 ∨ T = 101 ∨ T = 32

set_option maxRecDepth 100000 in
set_option maxHeartbeats 2000000 in
/-- The walk over a term: all nodes have come, in order; or a round has said that it wants no more. -/
theorem nodes_walk_in (l : Nat) (O : World → Nat → Prop) (Y K : Nat) (N : Nat) (J Jx : List Nd → World → Prop) (H0 : Nat) (FO : Fresh O H0 NodeT)
    (hJ : ∀ pre W o, J pre W → J pre (W.alloc o))
    (hY : ∀ m pre x W, J pre W → pre.length < N → YieldAt Fence.wide m Tryd.prog l (Nd.enc x) W fun e W' =>
      (e = .returned (.bool true) ∧ J (pre ++ [x]) W' ∧ CelW O W W') ∨ (e = .returned (.bool false) ∧ Jx (pre ++ [x]) W'))
    (t : Tm) : t.size ≤ 1000000 → ∀ (n : Nat) (b : Int) (pre : List Nd) (W : World) (cs : List Value), 0 ≤ b → b + t.size ≤ 10000000 → H0 ≤ W.heap.size → Rep (O W) W t.dat cs → J pre W → pre.length + t.size ≤ N →
      At O W Y 0 (.func (.yield l) #[] #[]) → At O W K 0 (.func (.func 115) #[] #[.pointer (some ⟨Y, 0, none⟩), .pointer (some ⟨K, 0, none⟩)]) →
      CallsIn Fence.wide n Tryd.prog 115 #[.agg cs.toArray, .int .i64 b, .pointer (some ⟨Y, 0, none⟩), .pointer (some ⟨K, 0, none⟩)] W fun e W' =>
        (e = .returned (.bool true) ∧ ∃ xs : List Nd, xs.map Nd.bare = t.nodes b ∧ J (pre ++ xs) W' ∧ CelW O W W') ∨
        (e = .returned (.bool false) ∧ ∃ xs : List Nd, xs.map Nd.bare <+: t.nodes b ∧ Jx (pre ++ xs) W') := by
  induction t using Tm.ind with
  | h k nm i ts ih =>
    intro hs n b pre W cs hb0 hb1 hH h hJ0 hN hyA hkA
    obtain ⟨a, cap, rfl, hcap, hE⟩ := rep_tm.1 h
    have hlen := Tm.length_le_sizes ts
    simp only [Tm.size_mk] at hs hb1 hN
    obtain ⟨x, hx⟩ : ∃ x : Nd, x = ⟨b, k, nm, i, a, ts.length, cap⟩ := ⟨_, rfl⟩
    have hy1 := hY (n - 1) pre x (W.alloc (.cells #[.int .i64 k, .string (B nm), .int .i64 i, .slice a ts.length cap] 25)) (hJ _ _ _ hJ0) (by omega)
    rw [hx] at hy1
    simp only [Nd.enc] at hy1
    have hyc := hyA.2
    have hkc := hkA.2
    have hyb : Y < W.heap.size := World.block_lt_of_cell? W _ hyc
    have hkb : K < W.heap.size := World.block_lt_of_cell? W _ hkc
    obtain ⟨fn, tmps, assign, body, hy, hR⟩ := hy1
    refine callsIn_of_wp Tryd.func115 rfl trivial ?_ rfl
    simp only [Tryd.ntmps115, List.size_toArray, List.length_cons, List.length_nil, Nat.reduceAdd, Nat.reduceSub, Array.replicate_succ, Array.replicate_zero, List.push_toArray, List.append_toArray, List.nil_append, List.cons_append]
    gi_wp2
    refine ⟨fun h => (by cases h), ?_⟩
    refine hR.mono ?_
    rintro e W1 (⟨rfl, hJ1, hc1⟩ | ⟨rfl, hJx1⟩)
    case inr =>
      gi_wp2
      go_ret
      exact .inr ⟨rfl, [⟨b, k, nm, i, a, ts.length, cap⟩], by rw [Tm.nodes_mk]; exact ⟨_, rfl⟩, hJx1⟩
    clear hR hy
    obtain ⟨b0A, b1A, b2A, b3A⟩ := FO.box4 (.inl rfl) hH hc1
    have b0 := b0A.2
    have b1 := b1A.2
    have b2 := b2A.2
    have b3 := b3A.2
    have hC1 : CelW O W W1 := (CelW.alloc' FO W _).trans hc1
    have hE1 := hE.celW hC1
    have hy1 := hC1.at hyA
    have hk1 := hC1.at hkA
    gi_wp2
    gi_loopw [18] (fun v wr => ∃ (j : Nat) (xs : List Nd), j ≤ ts.length ∧ v = .int .i64 j ∧ xs.map Nd.bare = (⟨b, k, nm, i⟩ : Tm.Nd0) :: Tm.nodesA b k 0 (ts.take j) ∧ J (pre ++ xs) wr ∧ CelW O W1 wr)
      (fun v _ => ts.length - (intOf v).toNat)
    case atStart => exact ⟨0, [⟨b, k, nm, i, a, ts.length, cap⟩], Nat.zero_le _, rfl, rfl, hJ1, CelW.refl _ _⟩
    case round =>
      obtain ⟨j, xs, hj, rfl, hxs, hJr, hCr⟩ := hrel
      have HX := hid hxs
      clear hxs
      obtain ⟨e0, e1, e2, e3⟩ := (⟨(hCr.at b0A).2, (hCr.at b1A).2, (hCr.at b2A).2, (hCr.at b3A).2⟩ : _ ∧ _ ∧ _ ∧ _)
      have hyrA := hCr.at hy1
      have hkrA := hCr.at hk1
      have hyr := hyrA.2
      have hkr := hkrA.2
      have q0 := World.block_lt_of_cell? wr _ e0
      have q1 := World.block_lt_of_cell? wr _ hyr
      have q2 := World.block_lt_of_cell? wr _ hkr
      simp only at q0 q1 q2
      by_cases hlt : j < ts.length
      · obtain ⟨bb, oo, k1, n1, x1, s1, c1, rfl, hbb, hOb, hc0, hc1, hc2, hc3, hR⟩ := arg_tm (hE1.celW hCr) j hlt
        have hs1 := Tm.size_le_sizes (List.getElem_mem hlt)
        have hun := Tm.under_le k j
        have hxl : xs.length = 1 + Tm.sizes (ts.take j) := by
          have := congrArg List.length HX.out
          simp only [List.length_map, List.length_cons] at this
          rw [Tm.nodesA_length _ _ _ _ (fun t _ b => Tm.nodes_length t b)] at this
          omega
        have hsz := Tm.sizes_take_succ ts j hlt
        have hsz2 := Tm.sizes_take_le ts (j + 1)
        have HL := hid (⟨hxl, hsz, hsz2⟩ : _ ∧ _ ∧ _)
        clear hxl hsz hsz2
        have key := ih _ (List.getElem_mem hlt) (by omega) (n - 1) (b + Tm.under k j) (pre ++ xs) (wr.alloc (.cells #[.int .i64 k1, .string (B n1), .int .i64 x1, .slice s1 ts[j].args.length c1] 25)) _ (by omega) (by omega)
          (by have := hC1.1; have := hCr.1; simp; omega) (Rep.carryW (CelW.alloc' FO wr _) _ _ hR) (hJ _ _ _ hJr) (by have := HL.out; simp only [List.length_append]; omega)
          ((CelW.alloc' FO wr _).at hyrA) ((CelW.alloc' FO wr _).at hkrA)
        have hT := Tm.nodesA_take_succ ts b k j hlt
        have HT := hid hT
        clear hT
        have rest := under_ways k j
        generalize hu : Tm.under k j = u at *
        clear hun
        rcases rest with ⟨k3, rfl⟩ | ⟨k3, k2, j1, rfl⟩ | ⟨k3, k2, j1, rfl⟩ | ⟨k3, k2, rfl⟩
        all_goals
          have HU := hid hu
          clear hu
          try simp only [Int.add_zero] at key
          gi_wp2_with fail
          refine ⟨trivial, fun h => (by cases h), ?_⟩
          refine key.mono ?_
          rintro e W2 (⟨rfl, ys, hys, hJ2, hC2⟩ | ⟨rfl, ys, hys, hJx2⟩)
        all_goals
          have HY := hid hys
          clear hys
          gi_wp2
        all_goals first
          | exact ⟨⟨j + 1, xs ++ ys, by omega, by go_num, by rw [List.map_append, HX.out, HY.out, HT.out]; simp, by rw [← List.append_assoc]; exact hJ2, hCr.trans ((CelW.alloc' FO wr _).trans hC2)⟩, by simp [intOf]; omega⟩
          | (go_ret; exact .inr ⟨rfl, xs ++ ys, nodes_step HX.out HT.out (by simpa using HY.out), by rw [← List.append_assoc]; exact hJx2⟩)
      · have hj' : ts.take j = ts := List.take_of_length_le (by omega)
        have HX' := HX.out
        rw [hj'] at HX'
        clear HX hj'
        have HX := hid HX'
        clear HX'
        gi_wp2
        go_ret
        exact .inl ⟨rfl, xs, by rw [HX.out, Tm.nodes_mk], hJr, hC1.trans hCr⟩
end Go.Proofs.YtdcbgkmhlpkjiaaDoor
