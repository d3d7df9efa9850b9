/- The iterator over the nodes of a term. -/
import Derived.Test.YtdomloghcpfdjaaGreatDoorRCA
import Derived.Test.YtdomloghcpfdjaaGreatDoorRows
import Derived.Laws.EntriesVeiled
import Derived.Laws.Externs
import Derived.Laws.StandIn
import Derived.Lib.Bytealg
import Derived.LoopIn
import Derived.LoopNIn
import Derived.OwnWalkIn
import Derived.RangeFuncBound
import Derived.RangeFuncCalls
import Derived.RangeFuncFrom
import Derived.RangeFuncLeaves
import Derived.RangeFuncNested
import Derived.Shelf.Abstract
import Derived.Shelf.RegionOpen
import Derived.TacticsInMore
import Derived.WalkKit
namespace Go.Proofs.YtdomloghcpfdjaaGreatDoor
open Go.RowKit Go.LF Go.Shelf
attribute [local go_sem] Oper.semAt_some
/-- A node with the value of its Args. -/
structure Nd where
  b : Int
  k : Int
  n : List UInt8
  i : Int
  a : Option Addr
  len : Nat
  cap : Nat
def Nd.bare (x : Nd) : Tm.Nd0 := ⟨x.b, x.k, x.n, x.i⟩
def Nd.enc (x : Nd) : Array Value := #[.int .i64 x.b, .agg #[.int .i64 x.k, .string (B x.n), .int .i64 x.i, .slice x.a x.len x.cap]]
theorem room_of_none {F : Fence} (hd : F.depth = none) (k : Nat) : F.room k := fun d h => by rw [hd] at h; cases h
theorem RoundIn.anyDepth {F : Fence} (hd : F.depth = none) {m m' : Nat} {P : Program} {l : Nat} {f : FuncId} {tmps : Array Value} {assign body : Code} {w : World} {R : Ending → World → Prop}
    (h : RoundIn F m P l f tmps assign body w R) : RoundIn F m' P l f tmps assign body w R := ⟨h.1, fun c cs _ => h.2 c cs (room_of_none hd _)⟩
theorem YieldAt.anyDepth {F : Fence} (hd : F.depth = none) {m : Nat} (m' : Nat) {P : Program} {l : Nat} {args : Array Value} {W : World} {R : Ending → World → Prop} (h : YieldAt F m P l args W R) : YieldAt F m' P l args W R := by
  obtain ⟨fn, tmps, assign, body, hy, hR⟩ := h
  exact ⟨fn, tmps, assign, body, hy, RoundIn.anyDepth hd hR⟩
theorem nodes_step {b k i u : Int} {nm : List UInt8} {ts : List Tm} {j : Nat} {t : Tm} {xs ys : List Nd} (hx : xs.map Nd.bare = (⟨b, k, nm, i⟩ : Tm.Nd0) :: Tm.nodesA b k 0 (ts.take j))
    (ht : Tm.nodesA b k 0 (ts.take (j + 1)) = Tm.nodesA b k 0 (ts.take j) ++ Tm.nodes (b + u) t) (hy : ys.map Nd.bare <+: Tm.nodes (b + u) t) :
    (xs ++ ys).map Nd.bare <+: Tm.nodes b (Tm.mk k nm i ts) := by
  rw [List.map_append, hx, Tm.nodes_mk, List.cons_append]
  refine List.cons_prefix_cons.2 ⟨rfl, ?_⟩
  refine List.IsPrefix.trans ?_ (Tm.nodesA_take_prefix ts b k (j + 1))
  rw [ht]
  exact (List.prefix_append_right_inj _).2 hy
/-- The types of the boxes that the iterator lays. -/
def NodeT (T : TypeId) : Prop := T = 29 ∨ T = 210 ∨ T = 123
set_option maxRecDepth 100000 in
set_option maxHeartbeats 2000000 in
/-- The walk over a term: all nodes have come, in order; or a round has said that it wants no more. -/
theorem nodes_walk_in (l : Nat) (O : World → Nat → Prop) (Y K : Nat) (N : Nat) (J Jx : List Nd → World → Prop) (H0 : Nat) (FO : Fresh O H0 NodeT)
    (hJ : ∀ pre W o, J pre W → J pre (W.alloc o))
    (hY : ∀ m pre x W, J pre W → pre.length < N → YieldAt Fence.wide m Tryz.prog l (Nd.enc x) W fun e W' =>
      (e = .returned (.bool true) ∧ J (pre ++ [x]) W' ∧ CelW O W W') ∨ (e = .returned (.bool false) ∧ Jx (pre ++ [x]) W'))
    (t : Tm) : t.size ≤ 1000000 → ∀ (n : Nat) (b : Int) (pre : List Nd) (W : World) (cs : List Value), 0 ≤ b → b + t.size ≤ 10000000 → H0 ≤ W.heap.size → Rep (O W) W t.dat cs → J pre W → pre.length + t.size ≤ N →
      At O W Y 0 (.func (.yield l) #[] #[]) → At O W K 0 (.func (.func 226) #[] #[.pointer (some ⟨Y, 0, none⟩), .pointer (some ⟨K, 0, none⟩)]) →
      CallsIn Fence.wide n Tryz.prog 226 #[.agg cs.toArray, .int .i64 b, .pointer (some ⟨Y, 0, none⟩), .pointer (some ⟨K, 0, none⟩)] W fun e W' =>
        (e = .returned (.bool true) ∧ ∃ xs : List Nd, xs.map Nd.bare = t.nodes b ∧ J (pre ++ xs) W' ∧ CelW O W W') ∨
        (e = .returned (.bool false) ∧ ∃ xs : List Nd, xs.map Nd.bare <+: t.nodes b ∧ Jx (pre ++ xs) W') := by
  induction t using Tm.ind with
  | h k nm i ts ih =>
    intro hs n b pre W cs hb0 hb1 hH h hJ0 hN hyA hkA
    obtain ⟨a, cap, rfl, hcap, hE⟩ := rep_tm.1 h
    have hlen := Tm.length_le_sizes ts
    simp only [Tm.size_mk] at hs hb1 hN
    obtain ⟨x, hx⟩ : ∃ x : Nd, x = ⟨b, k, nm, i, a, ts.length, cap⟩ := ⟨_, rfl⟩
    have hy1 := hY (n - 1) pre x (W.alloc (.cells #[.int .i64 k, .string (B nm), .int .i64 i, .slice a ts.length cap] 29)) (hJ _ _ _ hJ0) (by omega)
    rw [hx] at hy1
    simp only [Nd.enc] at hy1
    have hyc := hyA.2
    have hkc := hkA.2
    have hyb : Y < W.heap.size := World.block_lt_of_cell? W _ hyc
    have hkb : K < W.heap.size := World.block_lt_of_cell? W _ hkc
    obtain ⟨fn, tmps, assign, body, hy, hR⟩ := hy1
    refine callsIn_of_wp Tryz.func226 rfl trivial ?_ rfl
    simp only [Tryz.ntmps226, List.size_toArray, List.length_cons, List.length_nil, Nat.reduceAdd, Nat.reduceSub, Array.replicate_succ, Array.replicate_zero, List.push_toArray, List.append_toArray, List.nil_append, List.cons_append]
    gi_wp2
    refine ⟨fun h => (by cases h), ?_⟩
    refine hR.mono ?_
    rintro e W1 (⟨rfl, hJ1, hc1⟩ | ⟨rfl, hJx1⟩)
    case inr =>
      gi_wp2
      go_ret
      exact .inr ⟨rfl, [⟨b, k, nm, i, a, ts.length, cap⟩], by rw [Tm.nodes_mk]; exact ⟨_, rfl⟩, hJx1⟩
    clear hR hy
    obtain ⟨b0A, b1A, b2A, b3A⟩ := FO.box4 (.inl rfl) hH hc1
    have b0 := b0A.2
    have b1 := b1A.2
    have b2 := b2A.2
    have b3 := b3A.2
    have hC1 : CelW O W W1 := (CelW.alloc' FO W _).trans hc1
    have hE1 := hE.celW hC1
    have hy1 := hC1.at hyA
    have hk1 := hC1.at hkA
    gi_wp2
    gi_loopw [18] (fun v wr => ∃ (j : Nat) (xs : List Nd), j ≤ ts.length ∧ v = .int .i64 j ∧ xs.map Nd.bare = (⟨b, k, nm, i⟩ : Tm.Nd0) :: Tm.nodesA b k 0 (ts.take j) ∧ J (pre ++ xs) wr ∧ CelW O W1 wr)
      (fun v _ => ts.length - (intOf v).toNat)
    case atStart => exact ⟨0, [⟨b, k, nm, i, a, ts.length, cap⟩], Nat.zero_le _, rfl, rfl, hJ1, CelW.refl _ _⟩
    case round =>
      obtain ⟨j, xs, hj, rfl, hxs, hJr, hCr⟩ := hrel
      have HX := hid hxs
      clear hxs
      obtain ⟨e0, e1, e2, e3⟩ := (⟨(hCr.at b0A).2, (hCr.at b1A).2, (hCr.at b2A).2, (hCr.at b3A).2⟩ : _ ∧ _ ∧ _ ∧ _)
      have hyrA := hCr.at hy1
      have hkrA := hCr.at hk1
      have hyr := hyrA.2
      have hkr := hkrA.2
      have q0 := World.block_lt_of_cell? wr _ e0
      have q1 := World.block_lt_of_cell? wr _ hyr
      have q2 := World.block_lt_of_cell? wr _ hkr
      simp only at q0 q1 q2
      by_cases hlt : j < ts.length
      · obtain ⟨bb, oo, k1, n1, x1, s1, c1, rfl, hbb, hOb, hc0, hc1, hc2, hc3, hR⟩ := arg_tm (hE1.celW hCr) j hlt
        have hs1 := Tm.size_le_sizes (List.getElem_mem hlt)
        have hun := Tm.under_le k j
        have hxl : xs.length = 1 + Tm.sizes (ts.take j) := by
          have := congrArg List.length HX.out
          simp only [List.length_map, List.length_cons] at this
          rw [Tm.nodesA_length _ _ _ _ (fun t _ b => Tm.nodes_length t b)] at this
          omega
        have hsz := Tm.sizes_take_succ ts j hlt
        have hsz2 := Tm.sizes_take_le ts (j + 1)
        have HL := hid (⟨hxl, hsz, hsz2⟩ : _ ∧ _ ∧ _)
        clear hxl hsz hsz2
        have key := ih _ (List.getElem_mem hlt) (by omega) (n - 1) (b + Tm.under k j) (pre ++ xs) (wr.alloc (.cells #[.int .i64 k1, .string (B n1), .int .i64 x1, .slice s1 ts[j].args.length c1] 29)) _ (by omega) (by omega)
          (by have := hC1.1; have := hCr.1; simp; omega) (Rep.carryW (CelW.alloc' FO wr _) _ _ hR) (hJ _ _ _ hJr) (by have := HL.out; simp only [List.length_append]; omega)
          ((CelW.alloc' FO wr _).at hyrA) ((CelW.alloc' FO wr _).at hkrA)
        have hT := Tm.nodesA_take_succ ts b k j hlt
        have HT := hid hT
        clear hT
        have rest := under_ways k j
        generalize hu : Tm.under k j = u at *
        clear hun
        rcases rest with ⟨k3, rfl⟩ | ⟨k3, k2, j1, rfl⟩ | ⟨k3, k2, j1, rfl⟩ | ⟨k3, k2, rfl⟩
        all_goals
          have HU := hid hu
          clear hu
          try simp only [Int.add_zero] at key
          gi_wp2_with fail
          refine ⟨trivial, fun h => (by cases h), ?_⟩
          refine key.mono ?_
          rintro e W2 (⟨rfl, ys, hys, hJ2, hC2⟩ | ⟨rfl, ys, hys, hJx2⟩)
        all_goals
          have HY := hid hys
          clear hys
          gi_wp2
        all_goals first
          | exact ⟨⟨j + 1, xs ++ ys, by omega, by go_num, by rw [List.map_append, HX.out, HY.out, HT.out]; simp, by rw [← List.append_assoc]; exact hJ2, hCr.trans ((CelW.alloc' FO wr _).trans hC2)⟩, by simp [intOf]; omega⟩
          | (go_ret; exact .inr ⟨rfl, xs ++ ys, nodes_step HX.out HT.out (by simpa using HY.out), by rw [← List.append_assoc]; exact hJx2⟩)
      · have hj' : ts.take j = ts := List.take_of_length_le (by omega)
        have HX' := HX.out
        rw [hj'] at HX'
        clear HX hj'
        have HX := hid HX'
        clear HX'
        gi_wp2
        go_ret
        exact .inl ⟨rfl, xs, by rw [HX.out, Tm.nodes_mk], hJr, hC1.trans hCr⟩
end Go.Proofs.YtdomloghcpfdjaaGreatDoor
namespace Go.Proofs.YtdomloghcpfdjaaGreatDoor
open Go.RowKit Go.LF Go.Shelf
attribute [local go_sem] Oper.semAt_some
set_option maxRecDepth 100000 in
set_option maxHeartbeats 2000000 in
/-- The function that nodes hands back. -/
theorem nodes1_in (n : Nat) (l : Nat) (O : World → Nat → Prop) (T0 : Nat) (J Jx : List Nd → World → Prop) (H0 : Nat) (FO : Fresh O H0 NodeT)
    (t : Tm) (hs : t.size ≤ 1000000)
    (hJ : ∀ pre W o, J pre W → J pre (W.alloc o))
    (hY : ∀ m pre x W, J pre W → pre.length < t.size → YieldAt Fence.wide m Tryz.prog l (Nd.enc x) W fun e W' =>
      (e = .returned (.bool true) ∧ J (pre ++ [x]) W' ∧ CelW O W W') ∨ (e = .returned (.bool false) ∧ Jx (pre ++ [x]) W'))
    (W : World) (hH : H0 ≤ W.heap.size) (k : Int) (nm : List UInt8) (i : Int) (a : Option Addr) (len cap : Nat)
    (h : Rep (O W) W t.dat [.int .i64 k, .string (B nm), .int .i64 i, .slice a len cap])
    (c0 : W.cell? ⟨T0, 0, none⟩ = some (.int .i64 k)) (c1 : W.cell? ⟨T0, 1, none⟩ = some (.string (B nm))) (c2 : W.cell? ⟨T0, 2, none⟩ = some (.int .i64 i)) (c3 : W.cell? ⟨T0, 3, none⟩ = some (.slice a len cap))
    (h0 : J [] W) :
    CallsIn Fence.wide n Tryz.prog 225 #[.func (.yield l) #[] #[], .pointer (some ⟨T0, 0, none⟩)] W fun e W' => (∃ v, e = .returned v) ∧
      ((∃ xs : List Nd, xs.map Nd.bare = t.nodes 0 ∧ J xs W') ∨ (∃ xs : List Nd, xs.map Nd.bare <+: t.nodes 0 ∧ Jx xs W')) := by
  have hb := World.block_lt_of_cell? W _ c0
  simp only at hb
  refine callsIn_of_wp Tryz.func225 rfl trivial ?_ rfl
  simp only [Tryz.ntmps225, List.size_toArray, List.length_cons, List.length_nil, Nat.reduceAdd, Nat.reduceSub, Array.replicate_succ, Array.replicate_zero, List.push_toArray, List.append_toArray, List.nil_append, List.cons_append]
  gi_wp2_with fail
  refine ⟨trivial, fun h => (by cases h), ?_⟩
  obtain ⟨W2, hW2⟩ : ∃ W2, W2 = (W.alloc (.cells #[.func (.yield l) #[] #[]] 210)).alloc (.cells #[.func (.func 226) #[] #[.pointer (some ⟨W.heap.size, 0, none⟩), .pointer (some ⟨W.heap.size + 1, 0, none⟩)]] 123) := ⟨_, rfl⟩
  have hC : CelW O W W2 := by rw [hW2]; exact (CelW.alloc' FO _ _).trans (CelW.alloc' FO _ _)
  have hJ2 : J [] W2 := by rw [hW2]; exact hJ _ _ _ (hJ _ _ _ h0)
  have hyc : At O W2 W.heap.size 0 (.func (.yield l) #[] #[]) := by
    have h1 : At O (W.alloc (.cells #[.func (.yield l) #[] #[]] 210)) W.heap.size 0 (.func (.yield l) #[] #[]) := ⟨FO.new W _ _ (.inr (.inl rfl)) hH, by rw [World.cell?_alloc_new]; rfl⟩
    rw [hW2]
    exact (CelW.alloc' FO _ _).at h1
  have hkc : At O W2 (W.heap.size + 1) 0 (.func (.func 226) #[] #[.pointer (some ⟨W.heap.size, 0, none⟩), .pointer (some ⟨W.heap.size + 1, 0, none⟩)]) := by
    have := World.cell?_alloc_new (W.alloc (.cells #[.func (.yield l) #[] #[]] 210)) #[.func (.func 226) #[] #[.pointer (some ⟨W.heap.size, 0, none⟩), .pointer (some ⟨W.heap.size + 1, 0, none⟩)]] 123 0
    have h2 := FO.new (W.alloc (.cells #[.func (.yield l) #[] #[]] 210)) #[.func (.func 226) #[] #[.pointer (some ⟨W.heap.size, 0, none⟩), .pointer (some ⟨W.heap.size + 1, 0, none⟩)]] 123 (.inr (.inr rfl)) (by simp; omega)
    rw [World.size_alloc] at this h2
    rw [hW2]
    exact ⟨h2, by rw [this]; rfl⟩
  have key := nodes_walk_in l O W.heap.size (W.heap.size + 1) t.size J Jx H0 FO hJ hY t hs (n - 1) 0 [] W2 _ (by omega) (by omega) (by have := hC.1; omega) (Rep.carryW hC _ _ h) hJ2 (by simp) hyc hkc
  rw [hW2] at key
  refine key.mono ?_
  clear key
  rintro e W3 (⟨rfl, xs, hxs, hJ3, _⟩ | ⟨rfl, xs, hxs, hJx3⟩)
  · gi_wp2
    go_end0
    exact ⟨⟨_, rfl⟩, .inl ⟨xs, hxs, by simpa using hJ3⟩⟩
  · gi_wp2
    go_end0
    exact ⟨⟨_, rfl⟩, .inr ⟨xs, hxs, by simpa using hJx3⟩⟩
/-- The contract of the iterator, at a box T0 that holds the term. -/
theorem nodes_stops (n : Nat) (O : World → Nat → Prop) (T0 : Nat) (H0 : Nat) (FO : Fresh O H0 NodeT)
    (hOB : ∀ W W' b, b < W.heap.size → W'.heap[b]? = W.heap[b]? → ¬ O W b → ¬ O W' b)
    (t : Tm) (hs : t.size ≤ 1000000) (w : World) (hH : H0 ≤ w.heap.size) (k : Int) (nm : List UInt8) (i : Int) (a : Option Addr) (len cap : Nat)
    (h : Rep (O w) w t.dat [.int .i64 k, .string (B nm), .int .i64 i, .slice a len cap])
    (c0 : w.cell? ⟨T0, 0, none⟩ = some (.int .i64 k)) (c1 : w.cell? ⟨T0, 1, none⟩ = some (.string (B nm))) (c2 : w.cell? ⟨T0, 2, none⟩ = some (.int .i64 i)) (c3 : w.cell? ⟨T0, 3, none⟩ = some (.slice a len cap)) :
    SeqStopsK Fence.wide n Tryz.prog 225 #[.pointer (some ⟨T0, 0, none⟩)] Nd.enc (CelW O) (fun xs => xs.map Nd.bare = t.nodes 0) (fun xs => xs.map Nd.bare <+: t.nodes 0) t.size w := by
  intro l J Jx W hW hJ hJx hY h0
  have hC0 : Cel none' w W := (Upto.of_below (S := none') hW).cel (fun _ x => x.elim)
  have hC : CelW O w W := ⟨hC0.1, fun b hb hn => ⟨hOB w W b hb (hW.block b hb) hn, fun o v hv => hC0.2 b o v (fun x => x) hv⟩⟩
  exact nodes1_in n l O T0 J Jx H0 FO t hs (fun pre W o hj => hJ pre W _ none hj (World.grownBy_alloc W o none) (by simp))
    (fun m pre x W hj hl => YieldAt.anyDepth rfl m (hY pre x W hj hl)) W (by have := hC.1; omega) k nm i a len cap (Rep.carryW hC _ _ h) (hC0.cell (fun x => x) c0) (hC0.cell (fun x => x) c1) (hC0.cell (fun x => x) c2) (hC0.cell (fun x => x) c3) h0
set_option maxHeartbeats 1000000 in
theorem nodes_any (c0 c1 c2 c3 : Value) (w : World) :
    Calls Tryz.prog 184 #[.agg #[c0, c1, c2, c3]] w fun e w' => e = .returned (.func (.func 225) #[] #[.pointer (some ⟨w.heap.size, 0, none⟩)]) ∧ w.alloc (.cells #[c0, c1, c2, c3] 29) = w' := by
  go_enter Tryz.func184, Tryz.ntmps184
  go_wp2
  go_ret
  exact ⟨rfl, rfl⟩
end Go.Proofs.YtdomloghcpfdjaaGreatDoor
namespace Go.Proofs.YtdomloghcpfdjaaGreatDoor
open Go.RowKit Go.LF Go.Shelf
attribute [local go_sem] Oper.semAt_some
theorem cel_putObj {O : Nat → Prop} (W : World) (l : Nat) (o o' : Obj) (h : W.heap[l]? = some o) (hc : o.isCells = false) : Cel O W (W.putObj l o') := by
  have hl : l < W.heap.size := (Array.getElem?_eq_some_iff.1 h).1
  refine ⟨by have := (grownBy_putObj' W l o').size; exact this, ?_⟩
  intro b off v _ hv
  have hne : b ≠ l := by
    intro e
    subst e
    unfold World.cell? at hv
    rw [h] at hv
    cases o <;> simp [Obj.isCells] at hc hv
  exact (World.cell?_of_block (a := ⟨b, off, none⟩) (World.putObj_heap_other hne)).trans hv
theorem cell_new1 (W : World) (v : Value) (t : TypeId) : (W.alloc (.cells #[v] t)).cell? ⟨W.heap.size, 0, none⟩ = some v ∧ (W.alloc (.cells #[v] t)).frozen? ⟨W.heap.size, 0, none⟩ = false := by
  constructor <;> simp
theorem cell_alloc1 {W : World} {a : Addr} {v : Value} (o : Obj) (h : W.cell? a = some v) : (W.alloc o).cell? a = some v := cell_kept h (World.grownBy_alloc W o none) (fun r e => by cases e)
theorem frozen_alloc1 {W : World} {a : Addr} {v : Value} (o : Obj) (h : W.cell? a = some v) (hf : W.frozen? a = false) : (W.alloc o).frozen? a = false := (frozen_kept h (World.grownBy_alloc W o none) (fun r e => by cases e)).trans hf
theorem cel_setCell {O : Nat → Prop} (W : World) (p : Addr) (v : Value) (h : O p.block) : Cel O W (W.setCell p v) := by
  refine ⟨by simp, ?_⟩
  intro b off u hb hu
  rw [World.cell?_setCell_other]
  · exact hu
  · intro e
    rw [e] at h
    exact hb h
set_option maxRecDepth 100000 in
set_option maxHeartbeats 2000000 in
theorem size_in (t : Tm) (hs : t.size ≤ 1000000) (w : World) (cs : List Value) (h : Rep none' w t.dat cs) :
    CallsIn Fence.wide 3 Tryz.prog 150 #[.agg cs.toArray] w fun e w' => e = .returned (.int .i64 t.size) ∧ Below w.heap.size w w' := by
  obtain ⟨k, nm, i, ts, rfl⟩ : ∃ k nm i ts, t = .mk k nm i ts := by cases t; exact ⟨_, _, _, _, rfl⟩
  obtain ⟨a, cap, rfl, hcap, hE⟩ := rep_tm.1 h
  generalize hT : Tm.mk k nm i ts = t at *
  have HT := hid hT
  clear hT
  generalize hl : ts.length = len at *
  refine callsIn_of_wp_marks Tryz.func150 rfl trivial ?_ rfl
  simp only [Tryz.ntmps150, List.size_toArray, List.length_cons, List.length_nil, Nat.reduceAdd, Nat.reduceSub, Array.replicate_succ, Array.replicate_zero, List.push_toArray, List.append_toArray, List.nil_append, List.cons_append]
  gi_wp2_with fail
  refine ⟨trivial, ?_⟩
  refine (callsIn_wide.2 (nodes_any _ _ _ _ _)).mono ?_
  rintro e w' ⟨rfl, rfl⟩
  gi_wp2
  obtain ⟨W1, hW1⟩ : ∃ W1, W1 = (w.alloc (.cells #[.int .i64 k, .string (B nm), .int .i64 i, .slice a len cap] 29)).alloc (.cells #[.int .i64 0] 3) := ⟨_, rfl⟩
  have hz : W1.heap.size = w.heap.size + 1 + 1 := by rw [hW1]; simp
  have hn : W1.cell? ⟨w.heap.size + 1, 0, none⟩ = some (.int .i64 0) ∧ W1.frozen? ⟨w.heap.size + 1, 0, none⟩ = false := by
    have := cell_new1 (w.alloc (.cells #[.int .i64 k, .string (B nm), .int .i64 i, .slice a len cap] 29)) (.int .i64 0) 3
    rw [World.size_alloc] at this
    rw [hW1]; exact this
  have hB1 : Below w.heap.size w W1 := by rw [hW1]; exact ((Below.refl _ w).alloc (Nat.le_refl _) _).alloc (by simp) _
  have hR1 : Rep (fun b => b = w.heap.size + 1) W1 t.dat [.int .i64 k, .string (B nm), .int .i64 i, .slice a len cap] :=
    Rep.weaken (O := fun b => w.heap.size ≤ b) (fun b _ e => by omega) _ _ (Rep.carry (O := fun b => w.heap.size ≤ b) ((Upto.of_below (S := none') hB1).cel (fun _ x => x.elim)) _ _ (Rep.fresh h))
  rw [← hW1]
  clear hW1 h
  have hW2 : Below w.heap.size w (W1.alloc (.cells #[.int .i64 k, .string (B nm), .int .i64 i, .slice a len cap] 29)) := hB1.alloc (by omega) _
  refine wpIn_rangeFunc_ownF (w := W1.alloc (.cells #[.int .i64 k, .string (B nm), .int .i64 i, .slice a len cap] 29)) rfl (by omega) (gf := 225) (lb := #[.pointer (some ⟨w.heap.size + 1 + 1, 0, none⟩)]) rfl trivial (enters_of Tryz.func225 (by kernel_rfl) rfl)
    (nodes_stops 2 (fun _ b => b = w.heap.size + 1) (w.heap.size + 1 + 1) (w.heap.size + 2) (Fresh.of _ _ (fun b hb e => by omega)) (fun _ _ _ _ _ h => h) t hs
      (W1.alloc (.cells #[.int .i64 k, .string (B nm), .int .i64 i, .slice a len cap] 29)) (by simp; omega) k nm i a len cap (hR1.new _)
      (by rw [← hz, World.cell?_alloc_new]; rfl) (by rw [← hz, World.cell?_alloc_new]; rfl) (by rw [← hz, World.cell?_alloc_new]; rfl) (by rw [← hz, World.cell?_alloc_new]; rfl))
    CelW.trans (fun W l o o' _ ho hc _ => CelW.of _ (cel_putObj W l o o' ho hc)) (Below.refl _ _) (fun _ => rfl)
    (fun pre W => (W.cell? ⟨w.heap.size + 1, 0, none⟩ = some (.int .i64 pre.length) ∧ W.frozen? ⟨w.heap.size + 1, 0, none⟩ = false) ∧ Below w.heap.size w W)
    (fun _ _ _ => False)
    (OwnFrom.and (Own.from (fun s A B row hs hg hr => ⟨cell_kept hs.1 hg hr, (frozen_kept hs.1 hg hr).trans hs.2⟩) _) (ownFrom_below (Nat.le_refl _) (by simp; omega)))
    (fun _ _ _ _ _ hs _ _ => hs)
    ⟨⟨cell_alloc1 _ hn.1, frozen_alloc1 _ hn.1 hn.2⟩, hW2⟩
    (fun x => { tmps := #[.agg #[.int .i64 k, .string (B nm), .int .i64 i, .slice a len cap], .pointer (some ⟨w.heap.size, 0, none⟩), .int .i64 0, .pointer (some ⟨w.heap.size + 1, 0, none⟩), .agg #[.int .i64 k, .string (B nm), .int .i64 i, .slice a len cap], .func (.func 225) #[] #[.pointer (some ⟨w.heap.size + 1 + 1, 0, none⟩)], .int .i64 x.b, .agg #[.int .i64 x.k, .string (B x.n), .int .i64 x.i, .slice x.a x.len x.cap], undef, undef, undef], defers := [] }) ?assign ?body ?done ?stop
  case assign =>
    intro l x W K hK
    simp [Nd.enc]
    gi_wp2
    exact hK
  case body =>
    rintro l pre x W ⟨⟨hc, hf⟩, hB⟩ hlt
    have hlt' : pre.length < 1000000 := by omega
    gi_wp2
    have hc' : (W.setCell ⟨w.heap.size + 1, 0, none⟩ (.int .i64 (pre.length + 1))).cell? ⟨w.heap.size + 1, 0, none⟩ = some (.int .i64 (pre.length + 1)) := World.cell?_setCell_same _ _ _ hc
    exact ⟨KeepsOthers.setCell _ _ _, CelW.of _ (cel_setCell W ⟨w.heap.size + 1, 0, none⟩ _ rfl), ⟨by rw [hc', List.length_append]; rfl, by rw [World.frozen?_setCell]; exact hf⟩, hB.setCell (p := ⟨w.heap.size + 1, 0, none⟩) (by simp) _⟩
  case done =>
    rintro D ys W hD hys ⟨⟨hc, _⟩, hB⟩ hK
    have hlen : ys.length = t.size := by rw [← Tm.nodes_length t 0, ← hys, List.length_map]
    rw [hlen] at hc
    gi_wp2
    refine ⟨by simp, .inl ⟨_, _, rfl, run_takeDeferred hK, ?_⟩⟩
    exact ⟨_, results_tmp rfl _ _ _, rfl, hB.trans (belowK_b (w := w) (Nat.le_refl _) W D _ _ (by simp at hD; omega) hK rfl rfl)⟩
  case stop =>
    rintro D c pre W _ _ h _
    exact h.elim
theorem size_any (t : Tm) (hs : t.size ≤ 1000000) (w : World) (cs : List Value) (h : Rep none' w t.dat cs) :
    Calls Tryz.prog 150 #[.agg cs.toArray] w fun e w' => e = .returned (.int .i64 t.size) ∧ Upto none' w w' :=
  (callsIn_wide.1 (size_in t hs w cs h)).mono fun _ _ ⟨h1, h2⟩ => ⟨h1, Upto.of_below h2⟩
end Go.Proofs.YtdomloghcpfdjaaGreatDoor
namespace Go.Proofs.YtdomloghcpfdjaaGreatDoor
open Go.RowKit Go.LF
set_option maxHeartbeats 1000000 in
theorem depth_any (t : Tm) : t.size ≤ 1000000 → ∀ (w : World) (cs : List Value), Rep none' w t.dat cs →
    Calls Tryz.prog 151 #[.agg cs.toArray] w fun e w' => e = .returned (.int .i64 t.depth) ∧ Upto none' w w' := by
  induction t using Tm.ind with
  | h k n i ts ih =>
    intro hs w cs h
    obtain ⟨a, cap, rfl, hcap, hE⟩ := rep_tm.1 h
    have hlen := Tm.length_le_sizes ts
    have hds := Tm.depths_le_sizes ts
    simp only [Tm.size_mk] at hs
    go_enter Tryz.func151, Tryz.ntmps151
    go_wp2_with fail
    go_loopw [3, 9] (fun v3 v9 wr => ∃ j : Nat, j ≤ ts.length ∧ v9 = .int .i64 j ∧ v3 = .int .i64 (Tm.depths (ts.take j)) ∧ Upto none' (w.alloc (.cells #[.int .i64 k, .string (B n), .int .i64 i, .slice a ts.length cap] 29)) wr)
      (fun _ v9 _ => ts.length - (intOf v9).toNat)
    case atStart => exact ⟨0, Nat.zero_le _, rfl, rfl, Upto.refl _ _⟩
    case round =>
      obtain ⟨j, hj, rfl, rfl, hU⟩ := hrel
      have hw : Upto none' w wr := hU.behind
      have hdj := Tm.depths_take_le ts j
      by_cases hlt : j < ts.length
      · obtain ⟨b, o, k1, n1, x1, s1, c1, rfl, hb, _, hc0, hc1, hc2, hc3, hR⟩ := arg_tm (hE.on hw) j hlt
        have hd1 := Tm.depth_le_depths (List.getElem_mem hlt)
        have hs1 := Tm.size_le_sizes (List.getElem_mem hlt)
        go_wp2_with fail
        refine (ih _ (List.getElem_mem hlt) (by omega) _ _ (hR.new _)).mono ?_
        rintro e w1 ⟨rfl, hU1⟩
        go_wp2
        go_roundw
        case rel =>
          refine ⟨j + 1, by omega, by go_num, int_eq ?_, hU.trans hU1.behind (fun _ _ x => x)⟩
          rw [Tm.depths_take_succ ts j hlt]
          split <;> omega
        case measure => simp [intOf]; omega
      · have hj' : ts.take j = ts := List.take_of_length_le (by omega)
        go_wp2
        go_ret
        exact ⟨ret_int (by simp), hw⟩
end Go.Proofs.YtdomloghcpfdjaaGreatDoor
namespace Go.Proofs.YtdomloghcpfdjaaGreatDoor
open Go.RowKit Go.LF
set_option maxHeartbeats 1000000 in
theorem refSpecial_any (c : UInt8) (w : World) : Calls Tryz.prog 235 #[.int .u8 c.toNat] w fun e w' => e = .returned (.bool (special c)) ∧ w = w' := by
  have hc := c.toNat_lt
  go_enter Tryz.func235, Tryz.ntmps235
  go_wp2
  all_goals go_ret
  all_goals exact ⟨ret_bool (by rw [Bool.eq_iff_iff]; simp [special]; try omega), rfl⟩
set_option maxHeartbeats 1000000 in
theorem refNameByte_any (c : UInt8) (w : World) : Calls Tryz.prog 217 #[.int .u8 c.toNat] w fun e w' => e = .returned (.bool (nameByte c)) ∧ w = w' := by
  have hc := c.toNat_lt
  go_enter Tryz.func217, Tryz.ntmps217
  go_wp2_with (go_at_call 235; refine (refSpecial_any _ _).mono ?_; rintro e w' ⟨rfl, rfl⟩)
  all_goals go_ret
  all_goals refine ⟨ret_bool ?_, rfl⟩
  all_goals (rw [Bool.eq_iff_iff]; simp [nameByte, *]; try omega)
set_option maxHeartbeats 1000000 in
theorem refReserved_any (s : List UInt8) (w : World) : Calls Tryz.prog 216 #[.string (B s)] w fun e w' => e = .returned (.bool (reserved s)) ∧ w = w' := by
  go_enter Tryz.func216, Tryz.ntmps216
  go_wp2
  all_goals go_ret
  all_goals refine ⟨ret_bool ?_, rfl⟩
  all_goals (rw [Bool.eq_iff_iff]; simp [reserved, *])
theorem B_get0 (c : UInt8) (r : List UInt8) (h : 0 < (B (c :: r)).size) : (B (c :: r))[0] = c := rfl
set_option maxHeartbeats 1000000 in
theorem refIsName_any (s : List UInt8) (w : World) (hs : s.length ≤ 1000000) : Calls Tryz.prog 167 #[.string (B s)] w fun e w' => e = .returned (.bool (isName s)) ∧ w = w' := by
  cases s with
  | nil =>
    go_enter Tryz.func167, Tryz.ntmps167
    go_wp2_with fail
    go_ret
    exact ⟨ret_bool (by simp [isName]), rfl⟩
  | cons c r =>
    have h0 := B_get0 c r (by simp [B_size])
    have z1 : (((r.length : Int) + 1) == 0) = false := by simp; omega
    by_cases h1 : r.length + 1 ≤ 64
    case neg =>
      go_enter Tryz.func167, Tryz.ntmps167
      go_wp2_with fail
      go_ret
      exact ⟨ret_bool (by rw [eq_comm, isName_not_iff]; exact fun x => h1 x.1), rfl⟩
    have z2 : decide ((64 : Int) < (r.length : Int) + 1) = false := by simp; omega
    by_cases h2 : reserved (c :: r) = true
    case pos =>
      go_enter Tryz.func167, Tryz.ntmps167
      go_wp2_with (go_at_call 216; refine (refReserved_any _ _).mono ?_; rintro e w' ⟨rfl, rfl⟩)
      go_ret
      exact ⟨ret_bool (by rw [eq_comm, isName_not_iff]; simp [h2]), rfl⟩
    replace h2 : reserved (c :: r) = false := by simpa using h2
    by_cases h3 : c.toNat = 64
    case pos =>
      have h3' : ((c.toNat : Int) == 64) = true := by simp [h3]
      have H3 := hid h3
      clear h3
      go_enter Tryz.func167, Tryz.ntmps167
      go_wp2_with (go_at_call 216; refine (refReserved_any _ _).mono ?_; rintro e w' ⟨rfl, rfl⟩)
      go_ret
      exact ⟨ret_bool (by rw [eq_comm, isName_not_iff]; exact fun x => x.2.2.2 H3.out), rfl⟩
    have h3' : ((c.toNat : Int) == 64) = false := by simp; omega
    go_enter Tryz.func167, Tryz.ntmps167
    go_wp2_with (go_at_call 216; refine (refReserved_any _ _).mono ?_; rintro e w' ⟨rfl, rfl⟩)
    go_loop [3] (fun v => ∃ j : Nat, j ≤ r.length + 1 ∧ v = .int .i64 j ∧ ((c :: r).take j).all nameByte = true) (fun v => r.length + 1 - (intOf v).toNat)
    case atStart => exact ⟨0, by omega, rfl, rfl⟩
    case round =>
      obtain ⟨j, hj, rfl, hA⟩ := hrel
      have HA := hid hA
      clear hA
      by_cases hlt : j < r.length + 1
      · have hb : (B (c :: r))[j]'(by simpa [B_size] using hlt) = (c :: r)[j]'(by simpa using hlt) := rfl
        have hT := all_take_succ nameByte (c :: r) j (by simpa using hlt)
        rw [HA.out] at hT
        have HT := hid hT
        clear hT
        by_cases hn : nameByte ((c :: r)[j]'(by simpa using hlt)) = true
        all_goals go_wp2_with (go_at_call 217; refine (refNameByte_any _ _).mono ?_; rintro e w' ⟨rfl, rfl⟩)
        · go_round
          case rel => exact ⟨j + 1, by omega, by go_num, by rw [HT.out, hn]; rfl⟩
          case measure => simp [intOf]; omega
        · go_ret
          exact ⟨ret_bool (by rw [eq_comm, isName_not_iff]; exact fun x => hn (List.all_eq_true.1 x.2.1 _ (List.getElem_mem _))), rfl⟩
      · have hj' : (c :: r).take j = c :: r := List.take_of_length_le (by simp; omega)
        have HA' := HA.out
        rw [hj'] at HA'
        have H := hid ((isName_iff c r).2 ⟨h1, HA', h2, h3⟩)
        clear HA' hj'
        go_wp2
        go_ret
        exact ⟨ret_bool (by rw [H.out]), rfl⟩
end Go.Proofs.YtdomloghcpfdjaaGreatDoor
namespace Go.Proofs.YtdomloghcpfdjaaGreatDoor
open Go.RowKit Go.LF
set_option maxRecDepth 100000 in
set_option maxHeartbeats 1000000 in
theorem sliteIndexByte_any (s : List UInt8) (c : UInt8) (w : World) :
    Calls Tryz.prog 241 #[.string (B s), .int .u8 c.toNat] w fun e w' => e = .returned (.int .i64 (Lib.indexByte s c)) ∧ w = w' := by
  go_enter Tryz.func241, Tryz.ntmps241
  go_wp2
  rw [run_callFunc_extern Tryz.func243 (by kernel_rfl) (by kernel_rfl) (by kernel_rfl) (e := Extern.BytealgIndexByte.indexByte) (by kernel_rfl), Lib.run_indexByteString]
  simp only [Result.andThen]
  rw [Oper.upon_value]
  go_wp2
  go_ret
  exact ⟨ret_int (by simp), rfl⟩
set_option maxRecDepth 100000 in
set_option maxHeartbeats 1000000 in
theorem indexByte_any (s : List UInt8) (c : UInt8) (w : World) :
    Calls Tryz.prog 236 #[.string (B s), .int .u8 c.toNat] w fun e w' => e = .returned (.int .i64 (Lib.indexByte s c)) ∧ w = w' := by
  go_enter Tryz.func236, Tryz.ntmps236
  go_wp2_with (go_at_call 241; refine (sliteIndexByte_any _ _ _).mono ?_; rintro e w' ⟨rfl, rfl⟩)
  go_ret
  exact ⟨rfl, rfl⟩
/-- Where a byte stands among the signs that are no part of names. -/
def punctIdx (c : UInt8) : Int := Lib.indexByte [40, 41, 91, 93, 123, 125, 58, 46, 37] c
theorem punct_all : ∀ n : Fin 256, decide (punctIdx (UInt8.ofNat n.val) < 0) = (!special (UInt8.ofNat n.val) && (UInt8.ofNat n.val).toNat != 37) := by
  decide +kernel
theorem punct (c : UInt8) : decide (punctIdx c < 0) = (!special c && c.toNat != 37) := by
  have h := punct_all ⟨c.toNat, c.toNat_lt⟩
  simpa using h
theorem indexPunct_any (c : UInt8) (w : World) :
    Calls Tryz.prog 236 #[.string (B [40, 41, 91, 93, 123, 125, 58, 46, 37]), .int .u8 c.toNat] w fun e w' => e = .returned (.int .i64 (punctIdx c)) ∧ w = w' :=
  indexByte_any _ _ _
set_option maxRecDepth 100000 in
set_option maxHeartbeats 1000000 in
theorem nameByte_any (c : UInt8) (w : World) : Calls Tryz.prog 219 #[.int .u8 c.toNat] w fun e w' => e = .returned (.bool (nameByte c)) ∧ w = w' := by
  have hc := c.toNat_lt
  go_enter Tryz.func219, Tryz.ntmps219
  go_wp2_with (go_at_call 236; refine (indexPunct_any _ _).mono ?_; rintro e w' ⟨rfl, rfl⟩)
  all_goals go_ret
  all_goals refine ⟨ret_bool ?_, rfl⟩
  · rw [punct, nameByte]
    have h1 : 33 ≤ c.toNat := by omega
    have h2 : c.toNat ≤ 126 := by omega
    simp [h1, h2]
  all_goals (rw [eq_comm, nameByte]; simp; intros; omega)
set_option maxHeartbeats 1000000 in
theorem reserved_any (s : List UInt8) (w : World) : Calls Tryz.prog 220 #[.string (B s)] w fun e w' => e = .returned (.bool (reserved s)) ∧ w = w' := by
  go_enter Tryz.func220, Tryz.ntmps220
  go_wp2
  all_goals go_ret
  all_goals refine ⟨ret_bool ?_, rfl⟩
  all_goals (rw [Bool.eq_iff_iff]; first | (simp [reserved, *]; done) | (exfalso; simp_all; done))
/-- How many bytes at the head of a text may be part of a name. -/
def nameRun : List UInt8 → Nat
  | [] => 0
  | c :: r => if nameByte c then nameRun r + 1 else 0
theorem nameRun_le (s : List UInt8) : nameRun s ≤ s.length := by
  induction s with
  | nil => simp [nameRun]
  | cons c r ih => simp only [nameRun, List.length_cons]; split <;> omega
theorem nameRun_all (s : List UInt8) : (nameRun s = s.length) ↔ s.all nameByte = true := by
  induction s with
  | nil => simp [nameRun]
  | cons c r ih =>
    simp only [nameRun, List.length_cons, List.all_cons, Bool.and_eq_true]
    split
    · rename_i h; simp only [h, true_and]; rw [← ih]; omega
    · rename_i h; simp [h]
theorem nameRun_ge (s : List UInt8) (j : Nat) (h : j ≤ s.length) (hA : (s.take j).all nameByte = true) : j ≤ nameRun s := by
  induction s generalizing j with
  | nil => simp at h; omega
  | cons c r ih =>
    cases j with
    | zero => simp
    | succ j =>
      simp only [List.take_succ_cons, List.all_cons, Bool.and_eq_true] at hA
      simp only [nameRun, hA.1, if_true]
      have := ih j (by simpa using h) hA.2
      omega
theorem nameRun_stop (s : List UInt8) (j : Nat) (h : j < s.length) (hA : (s.take j).all nameByte = true) (hn : nameByte s[j] = false) : nameRun s = j := by
  induction s generalizing j with
  | nil => simp at h
  | cons c r ih =>
    cases j with
    | zero => simp only [List.getElem_cons_zero] at hn; simp [nameRun, hn]
    | succ j =>
      simp only [List.take_succ_cons, List.all_cons, Bool.and_eq_true] at hA
      simp only [List.getElem_cons_succ] at hn
      simp only [nameRun, hA.1, if_true]
      rw [ih j (by simpa using h) hA.2 hn]
set_option maxHeartbeats 1000000 in
theorem run_any (s : List UInt8) (w : World) (hs : s.length ≤ 1000000) :
    Calls Tryz.prog 218 #[.string (B s), .int .i64 0, .func (.func 219) #[] #[]] w fun e w' => e = .returned (.int .i64 (nameRun s)) ∧ w = w' := by
  go_enter Tryz.func218, Tryz.ntmps218
  go_wp2_with fail
  go_loop [1] (fun v => ∃ j : Nat, j ≤ s.length ∧ v = .int .i64 j ∧ (s.take j).all nameByte = true) (fun v => s.length - (intOf v).toNat)
  case atStart => exact ⟨0, by omega, rfl, rfl⟩
  case round =>
    obtain ⟨j, hj, rfl, hA⟩ := hrel
    have HA := hid hA
    clear hA
    by_cases hlt : j < s.length
    · have hb : (B s)[j]'(by simpa [B_size] using hlt) = s[j] := rfl
      have hT := all_take_succ nameByte s j hlt
      rw [HA.out] at hT
      have HT := hid hT
      clear hT
      by_cases hn : nameByte s[j] = true
      · go_wp2_with (go_at_call 219; refine (nameByte_any _ _).mono ?_; rintro e w' ⟨rfl, rfl⟩)
        go_round
        case rel => exact ⟨j + 1, by omega, by go_num, by rw [HT.out, hn]; rfl⟩
        case measure => simp [intOf]; omega
      · have hst := nameRun_stop s j hlt HA.out (by simpa using hn)
        have HST := hid hst
        clear hst
        go_wp2_with (go_at_call 219; refine (nameByte_any _ _).mono ?_; rintro e w' ⟨rfl, rfl⟩)
        go_ret
        exact ⟨ret_int (by rw [HST.out]), rfl⟩
    · have h1 := nameRun_ge s j hj HA.out
      have h2 := nameRun_le s
      go_wp2_with fail
      go_ret
      exact ⟨ret_int (by omega), rfl⟩
set_option maxHeartbeats 1000000 in
theorem isName_any (s : List UInt8) (w : World) (hs : s.length ≤ 1000000) : Calls Tryz.prog 168 #[.string (B s)] w fun e w' => e = .returned (.bool (isName s)) ∧ w = w' := by
  cases s with
  | nil =>
    go_enter Tryz.func168, Tryz.ntmps168
    go_wp2_with fail
    go_ret
    exact ⟨ret_bool (by simp [isName]), rfl⟩
  | cons c r =>
    have h0 := B_get0 c r (by simp [B_size])
    have hr := nameRun_all (c :: r)
    have hl := nameRun_le (c :: r)
    simp only [List.length_cons] at hr hl hs
    have HR := hid hr
    clear hr
    generalize hx : nameRun (c :: r) = x at *
    have HX := hid hx
    clear hx
    have hrun : ∀ w, Calls Tryz.prog 218 #[.string (B (c :: r)), .int .i64 0, .func (.func 219) #[] #[]] w fun e w' => e = .returned (.int .i64 x) ∧ w = w' := by
      intro w; have := run_any (c :: r) w (by simp; omega); rwa [HX.out] at this
    go_enter Tryz.func168, Tryz.ntmps168
    go_wp2_with (first | (go_at_call 218; refine (hrun _).mono ?_; rintro e w' ⟨rfl, rfl⟩) | (go_at_call 220; refine (reserved_any _ _).mono ?_; rintro e w' ⟨rfl, rfl⟩))
    all_goals go_ret
    all_goals refine ⟨ret_bool ?_, rfl⟩
    · rename_i h
      rw [eq_comm, isName_not_iff]
      simp [h]
    · rename_i h1 h2 h3
      have h4 : x = r.length + 1 := by omega
      have h5 := HR.out.1 h4
      rw [isName_cons]
      simp only [List.all_cons, Bool.and_eq_true] at h5
      have h6 : r.length + 1 ≤ 64 := by omega
      rw [Bool.eq_iff_iff]
      simp [h5, h6, h3]
      omega
    · rename_i h1 h2
      rw [eq_comm, isName_not_iff]
      intro hh
      exact h2 (by have := HR.out.2 hh.2.1; omega)
    · rename_i h1
      rw [eq_comm, isName_not_iff]
      intro hh
      omega
end Go.Proofs.YtdomloghcpfdjaaGreatDoor
