/- A row of metavariables of one's own is appended to; what it holds lies in blocks that were there. -/
import Derived.Test.YtdomloghcpfdjaaGreatDoorRCB
import Derived.Test.YtdomloghcpfdjaaGreatDoorRCF
import Derived.Test.YtdomloghcpfdjaaGreatDoorRCG
import Derived.Test.YtdomloghcpfdjaaGreatDoorRCH
import Derived.Test.YtdomloghcpfdjaaGreatDoorRCK
import Derived.Test.YtdomloghcpfdjaaGreatDoorRCL
import Derived.Test.YtdomloghcpfdjaaGreatDoorRFA
import Derived.Test.YtdomloghcpfdjaaGreatDoorRFC
import Derived.Deep.RegionHeld3
import Derived.Laws.MakeOwn
import Derived.Maps.AppendAt
namespace Go.Proofs.YtdomloghcpfdjaaGreatDoor
open Go.RowKit Go.LF
/-- The value v is a row of its own, from base on, with these metavariables, which lie outside O and ahead of base. -/
def RowW (O : Nat → Prop) (base : Nat) (W : World) (v : Value) (ms : List Mv) (css : List (List Value)) : Prop :=
  css.length = ms.length ∧ (∀ cs ∈ css, cs.length = 6) ∧ W.ownsRow base 53 6 v ms.length css.flatten ∧ ∀ i (h : i < ms.length) (h' : i < css.length), Rep (fun b => O b ∨ base ≤ b) W ms[i].dat css[i]
section
variable {O : Nat → Prop} {base : Nat} {W W' : World} {v : Value} {ms : List Mv} {css : List (List Value)}
theorem RowW.nil (O : Nat → Prop) (base : Nat) (W : World) : RowW O base W (.slice none 0 0) [] [] := ⟨rfl, by simp, World.ownsRow_nil _ _ _ _, fun i h => by simp at h⟩
theorem RowW.on (h : RowW O base W v ms css) (hU : Upto none' W W') : RowW O base W' v ms css := by
  obtain ⟨h1, h2, h3, h4⟩ := h
  refine ⟨h1, h2, ⟨h3.1, ?_⟩, fun i h h' => (h4 i h h').on hU⟩
  rcases h3.2 with h5 | ⟨g, cap, cur, rfl, hb, hg, rest⟩
  · exact .inl h5
  · exact .inr ⟨g, cap, cur, rfl, hb, (hU.block g (Array.getElem?_eq_some_iff.1 hg).1 (fun x => x)).trans hg, rest⟩
theorem RowW.rowD (h : RowW O base W v ms css) : RowD 53 6 (fun b => base ≤ b) base W v (ms.map Mv.dat) css := by
  obtain ⟨h1, h2, h3, h4⟩ := h
  refine ⟨by simp [h1], h2, by simpa using h3, fun i hi hi' => ?_⟩
  simp only [List.getElem_map]
  exact Rep.weaken (fun b _ e => .inr (e.elim id (fun e => (h3.lt b e).1))) _ _ (h4 i (by simpa using hi) hi')
theorem RowW.row (h : RowW O base W v ms css) : ∃ a cap, v = .slice a ms.length cap ∧ ms.length ≤ cap ∧ RepE none' W 6 (ms.map Mv.dat) a 0 := by
  obtain ⟨a, cap, hv, hcap, hc⟩ := h.rowD.cells
  rw [List.length_map] at hv hcap
  refine ⟨a, cap, hv, hcap, repE_of _ _ _ (fun i hi => ?_)⟩
  have hi2 : i < css.length := by have := h.1; rw [List.length_map] at hi; omega
  obtain ⟨g, rfl, hown, hb, hlt, _, hg⟩ := hc i hi hi2
  refine ⟨g, 0, css[i], rfl, hlt, fun x => x, h.2.1 _ (List.getElem_mem hi2), fun m u hu => ?_, ?_⟩
  · rw [show 0 + 0 + i * 6 + m = i * 6 + m by omega]
    exact hg m u hu
  · simp only [List.getElem_map]
    exact Rep.weaken (fun _ _ x => x.elim) _ _ (h.2.2.2 i (by simpa using hi) hi2)
end
theorem run_append_mvs {w : World} {O : Nat → Prop} {base : Nat} {v : Value} {ts : List Mv} {css : List (List Value)} (hS : RowW O base w v ts css) (A : Option Addr) (m c : Nat) (us : List Mv) (hm : m = us.length)
    (hE : RepE none' w 6 (us.map Mv.dat) A 0) (hR : ∀ i (h : i < us.length) cs, Rep none' w us[i].dat cs → (∀ m u, cs[m]? = some u → ∃ b o, A = some ⟨b, o, none⟩ ∧ w.cell? ⟨b, o + (i * 6 + m), none⟩ = some u) → Rep (fun b => O b ∨ base ≤ b) w us[i].dat cs) (hl : ts.length + us.length ≤ 900000) (hbase : base ≤ w.heap.size) (ty : TypeId) :
    ∃ v' w' css', (Builtin.append_ #[44, 44] ty #[v, .slice A m c]).run Tryz.prog w = .ok v' w' ∧ RowW O base w' v' (ts ++ us) css' ∧ w.grownBy w' v.ownBlock ∧ (v'.ownBlock = v.ownBlock ∨ v'.ownBlock = some w.heap.size) := by
  obtain ⟨i0, hi, hi0, hi1, hi2⟩ := info_parts info_mv
  obtain ⟨css2, r1, r2, r3, r4, r5⟩ := row_cellsM us A 0 hE
  have hflat := (flatW 6 css2 r2).1
  rw [r1, ← hm] at hflat
  have r5' : ∀ i (h : i < us.length) (h' : i < css2.length), Rep (fun b => O b ∨ base ≤ b) w us[i].dat css2[i] := by
    intro i h h'
    refine hR i h _ (r5 i h h') (fun m u hu => ?_)
    obtain ⟨b, o, e, hc⟩ := r4 (i * 6 + m) u ((flatW 6 css2 r2).2 i h' m u hu)
    exact ⟨b, o, e, by simpa using hc⟩
  have fin : ∀ (v' : Value) (w' : World), w'.ownsRow base 53 6 v' (ts.length + m) (css.flatten ++ css2.flatten) → w.grownBy w' v.ownBlock → RowW O base w' v' (ts ++ us) (css ++ css2) := by
    intro v' w' hown hg
    obtain ⟨h1, h2, h3, h4⟩ := hS
    have hcel : Cel (fun b => O b ∨ base ≤ b) w w' := ⟨hg.size, fun b o u hb hu => hg.cell hu (fun e => hb (.inr (h3.lt b e.symm).1))⟩
    refine ⟨by simp [h1, r1], ?_, by simpa [hm] using hown, fun i hi hi' => ?_⟩
    · intro x hx
      rcases List.mem_append.1 hx with hx | hx
      · exact h2 x hx
      · exact r2 x hx
    · by_cases hlt : i < ts.length
      · rw [List.getElem_append_left hlt, List.getElem_append_left (by omega)]
        exact Rep.carry hcel _ _ (h4 i hlt (by omega))
      · have hi2 : i - ts.length < us.length := by simp at hi; omega
        rw [List.getElem_append_right (by omega), List.getElem_append_right (by omega)]
        simp only [h1]
        exact Rep.carry hcel _ _ (r5' _ hi2 (by omega))
  rcases A with _ | ad
  · obtain rfl := repE_noneM hE
    have hm0 : m = 0 := by simpa using hm
    subst hm0
    obtain rfl : css2 = [] := by simpa using r1
    refine ⟨v, w, css, ?_, by simpa using hS, World.grownBy.refl w _, .inl rfl⟩
    have hu : Tryz.prog.underlying 44 = some (.slice 53) := by kernel_rfl
    rcases hS.2.2.1.2 with ⟨rfl, _⟩ | ⟨g, cap, cur, rfl, _, _, hnc, _⟩
    · simp [Builtin.append_, run_underlying hu, sizeOf, typeInfo, hi, Builtin.lenOf, Builtin.firstCells]
    · simp [Builtin.append_, run_underlying hu, sizeOf, typeInfo, hi, Builtin.lenOf, Builtin.firstCells, hnc, storeCells]
  · have hcells : ∀ j u, css2.flatten[j]? = some u → w.cell? (ad.add j) = some u := by
      intro j u hu
      obtain ⟨b', o', e, hc⟩ := r4 j u hu
      cases e
      have hadd : (⟨b', o', none⟩ : Addr).add j = ⟨b', o' + j, none⟩ := by unfold Addr.add; split <;> simp_all
      rw [hadd]
      simpa using hc
    obtain ⟨v', w', hrun, h2, h3, _, h5⟩ := run_append_own_at (P := Tryz.prog) w base 44 ty 53 i0 (.agg #[.string (B []), .int .i64 0, .string (B []), .int .i64 0, .slice none 0 0, .slice none 0 0]) 6 96 (by kernel_rfl) hi hi0 hi1 hi2 rfl (by decide) v ts.length css.flatten hS.2.2.1 ad m c css2.flatten hflat hcells r3 (by simp only [maxLen]; omega) (by omega) hbase
    exact ⟨v', w', _, hrun, fin v' w' h2 h3, h3, h5⟩
/-- What lies in such a row ahead of base. -/
theorem rep_old {O : Nat → Prop} {base : Nat} {w : World} {A : Option Addr} {us : List Mv} (hE : RepE (fun b => O b ∨ base ≤ b) w 6 (us.map Mv.dat) A 0) : ∀ i (h : i < us.length) cs, Rep none' w us[i].dat cs → (∀ m u, cs[m]? = some u → ∃ b o, A = some ⟨b, o, none⟩ ∧ w.cell? ⟨b, o + (i * 6 + m), none⟩ = some u) → Rep (fun b => O b ∨ base ≤ b) w us[i].dat cs := by
  intro i hi cs hR hc
  obtain ⟨b, o, cs', rfl, hb, hO, hl, hcs, hr⟩ := hE.get i (by simpa using hi)
  simp only [List.getElem_map] at hr
  obtain ⟨k, n, ix, a, cap, va, vc, e1, _⟩ := mv_open hR
  obtain ⟨k', n', ix', a', cap', va', vc', e2, _⟩ := mv_open hr
  have : cs = cs' := by
    refine List.ext_getElem? (fun m => ?_)
    by_cases hm : m < 6
    · obtain ⟨u, hu⟩ : ∃ u, cs[m]? = some u := ⟨_, List.getElem?_eq_getElem (by rw [e1]; simpa using hm)⟩
      obtain ⟨u', hu'⟩ : ∃ u, cs'[m]? = some u := ⟨_, List.getElem?_eq_getElem (by rw [hl]; exact hm)⟩
      obtain ⟨b', o', e, h1⟩ := hc m u hu
      cases e
      have h2 := hcs m u' hu'
      rw [show o + (i * 6 + m) = o + 0 + i * 6 + m by omega] at h1
      simp only [Nat.add_zero] at h1 h2
      rw [h1] at h2
      rw [hu, hu', Option.some.inj h2]
    · rw [List.getElem?_eq_none (by rw [e1]; simp; omega), List.getElem?_eq_none (by omega)]
  rw [this]
  exact hr
theorem rep_olds {O : Nat → Prop} {base : Nat} {w : World} {A : Option Addr} {us : List Mv} (hE : RepE (fun b => O b ∨ base ≤ b) w 6 (us.map Mv.dat) A 0) : RepE none' w 6 (us.map Mv.dat) A 0 ∧ ∀ i (h : i < us.length) cs, Rep none' w us[i].dat cs → (∀ m u, cs[m]? = some u → ∃ b o, A = some ⟨b, o, none⟩ ∧ w.cell? ⟨b, o + (i * 6 + m), none⟩ = some u) → Rep (fun b => O b ∨ base ≤ b) w us[i].dat cs :=
  ⟨RepE.weaken (fun _ _ x => x.elim) _ _ _ _ hE, rep_old hE⟩
/-- One metavariable in a new block. -/
theorem rep_news {O : Nat → Prop} {base : Nat} {w : World} {g : Nat} {u : Mv} {c0 c1 c2 c3 c4 c5 : Value} {T : TypeId} (hB : Box6 w g c0 c1 c2 c3 c4 c5 T) (hR : Rep (fun b => O b ∨ base ≤ b) w u.dat [c0, c1, c2, c3, c4, c5]) :
    RepE none' w 6 ([u].map Mv.dat) (some ⟨g, 0, none⟩) 0 ∧ ∀ i (h : i < [u].length) cs, Rep none' w [u][i].dat cs → (∀ m v, cs[m]? = some v → ∃ b o, (some ⟨g, 0, none⟩ : Option Addr) = some ⟨b, o, none⟩ ∧ w.cell? ⟨b, o + (i * 6 + m), none⟩ = some v) → Rep (fun b => O b ∨ base ≤ b) w [u][i].dat cs := by
  obtain ⟨x0, x1, x2, x3, x4, x5⟩ := hB.cells
  refine ⟨repE_of _ _ _ (fun j hj => ?_), fun i hi cs h1 h2 => ?_⟩
  · obtain rfl : j = 0 := by simpa using hj
    refine ⟨g, 0, [c0, c1, c2, c3, c4, c5], rfl, hB.lt, fun x => x, rfl, fun q v hv => ?_, by simpa using Rep.weaken (fun _ _ x => x.elim) _ _ hR⟩
    match q, hv with
    | 0, hv => cases hv; exact x0
    | 1, hv => cases hv; exact x1
    | 2, hv => cases hv; exact x2
    | 3, hv => cases hv; exact x3
    | 4, hv => cases hv; exact x4
    | 5, hv => cases hv; exact x5
    | q + 6, hv => simp at hv
  · obtain rfl : i = 0 := by simpa using hi
    obtain ⟨k', n', ix', a', cap', va', vc', e2, _⟩ := mv_open h1
    have key : ∀ m v c, cs[m]? = some v → w.cell? ⟨g, m, none⟩ = some c → v = c := by
      intro m v c hv hc
      obtain ⟨b, o, e, h3⟩ := h2 m v hv
      cases e
      rw [show 0 + (0 * 6 + m) = m by omega, hc] at h3
      exact (Option.some.inj h3).symm
    have e : cs = [c0, c1, c2, c3, c4, c5] := by
      rw [e2] at key ⊢
      rw [key 0 _ _ rfl x0, key 1 _ _ rfl x1, key 2 _ _ rfl x2, key 3 _ _ rfl x3, key 4 _ _ rfl x4, key 5 _ _ rfl x5]
    rw [e]
    exact hR
/-- The law at a step of a region that draws its order. -/
theorem step_append_mvs {w : World} {ops : Array Oper} {o : Oper} {a : Act} {K : Act → World → Prop} {Q : Exit → Act → World → Prop} {E : Prop} (hgd : o.guard = none) (s x : Operand)
    (ho : o.op = .call { callee := .builtin .append, args := #[s, x], argTypes := #[44, 44] }) {O : Nat → Prop} {base : Nat} {v : Value} {ts : List Mv} {css : List (List Value)} (hs : a.eval s = v) (hS : RowW O base w v ts css)
    (A : Option Addr) (m c : Nat) (us : List Mv) (hx : a.eval x = .slice A m c) (hm : m = us.length) (hEs : RepE none' w 6 (us.map Mv.dat) A 0 ∧ ∀ i (h : i < us.length) cs, Rep none' w us[i].dat cs → (∀ m u, cs[m]? = some u → ∃ b o, A = some ⟨b, o, none⟩ ∧ w.cell? ⟨b, o + (i * 6 + m), none⟩ = some u) → Rep (fun b => O b ∨ base ≤ b) w us[i].dat cs) (hl : ts.length + us.length ≤ 900000) (hbase : base ≤ w.heap.size)
    (h : ∀ v' w' css', RowW O base w' v' (ts ++ us) css' → w.grownBy w' v.ownBlock → (v'.ownBlock = v.ownBlock ∨ v'.ownBlock = some w.heap.size) → K (a.put o.dst v') w') :
    if Region.wanted o (yielded ops a.tmps) = true then Oper.wp Tryz.prog o a w K Q else E := by
  have hw : Region.wanted o (yielded ops a.tmps) = true := by simp [Region.wanted, hgd]
  rw [if_pos hw]
  obtain ⟨v', w', css', hrun, h1, h2, h3⟩ := run_append_mvs hS A m c us hm hEs.1 hEs.2 hl hbase o.type
  unfold Oper.wp execOp
  simp only [ho, resolve, invoke, builtin, Sem.run_bind, Sem.run_pure, Result.andThen_ok, List.map_toArray, List.map_cons, List.map_nil, hs, hx, hrun]
  exact h v' w' css' h1 h2 h3
theorem wpList_append_mvs {w : World} {ops : Array Oper} {rest : List Oper} {o : Oper} {a : Act} {Q : Exit → Act → World → Prop} (hgd : o.guard = none) (s x : Operand)
    (ho : o.op = .call { callee := .builtin .append, args := #[s, x], argTypes := #[44, 44] }) {O : Nat → Prop} {base : Nat} {v : Value} {ts : List Mv} {css : List (List Value)} (hs : a.eval s = v) (hS : RowW O base w v ts css)
    (A : Option Addr) (m c : Nat) (us : List Mv) (hx : a.eval x = .slice A m c) (hm : m = us.length) (hEs : RepE none' w 6 (us.map Mv.dat) A 0 ∧ ∀ i (h : i < us.length) cs, Rep none' w us[i].dat cs → (∀ m u, cs[m]? = some u → ∃ b o, A = some ⟨b, o, none⟩ ∧ w.cell? ⟨b, o + (i * 6 + m), none⟩ = some u) → Rep (fun b => O b ∨ base ≤ b) w us[i].dat cs) (hl : ts.length + us.length ≤ 900000) (hbase : base ≤ w.heap.size)
    (h : ∀ v' w' css', RowW O base w' v' (ts ++ us) css' → w.grownBy w' v.ownBlock → (v'.ownBlock = v.ownBlock ∨ v'.ownBlock = some w.heap.size) → wpList Tryz.prog ops Q rest (a.put o.dst v') w') : wpList Tryz.prog ops Q (o :: rest) a w := by
  refine wpList_plain hgd fun _ hK => ?_
  obtain ⟨v', w', css', hrun, h1, h2, h3⟩ := run_append_mvs hS A m c us hm hEs.1 hEs.2 hl hbase o.type
  unfold Oper.wp execOp
  simp only [ho, resolve, invoke, builtin, Sem.run_bind, Sem.run_pure, Result.andThen_ok, List.map_toArray, List.map_cons, List.map_nil, hs, hx, hrun]
  exact hK _ _ (h v' w' css' h1 h2 h3)
end Go.Proofs.YtdomloghcpfdjaaGreatDoor
namespace Go.Proofs.YtdomloghcpfdjaaGreatDoor
open Go.RowKit Go.LF
/-- The block q is a row of truth values. -/
def BoolRw (W : World) (q : Nat) (l : List Bool) : Prop := W.heap[q]? = some (.cells (l.map Value.bool).toArray 4 (0, 0))
section
variable {W W' : World} {q : Nat} {l : List Bool} {S : Nat → Prop}
theorem BoolRw.lt (h : BoolRw W q l) : q < W.heap.size := (Array.getElem?_eq_some_iff.1 h).1
theorem BoolRw.cell (h : BoolRw W q l) (i : Nat) (hi : i < l.length) : W.cell? ⟨q, i, none⟩ = some (.bool l[i]) := by
  unfold BoolRw at h
  simp [World.cell?, h, hi]
theorem BoolRw.frozen (h : BoolRw W q l) (i : Nat) : W.frozen? ⟨q, i, none⟩ = false := by
  unfold BoolRw at h
  simp [World.frozen?, h]
theorem BoolRw.keep (h : BoolRw W q l) (hU : Upto S W W') (hS : ¬ S q) : BoolRw W' q l := (hU.block q h.lt hS).trans h
theorem BoolRw.kept (h : BoolRw W q l) (hU : Upto none' W W') : BoolRw W' q l := h.keep hU (fun x => x)
theorem BoolRw.set (h : BoolRw W q l) (i : Nat) (b : Bool) : BoolRw (W.setCell ⟨q, i, none⟩ (.bool b)) q (l.set i b) := by
  obtain ⟨hlt, hk⟩ := Array.getElem?_eq_some_iff.1 h
  show (W.heap.modify q _)[q]? = _
  rw [Array.getElem?_eq_getElem (by rw [Array.size_modify]; exact hlt), Array.getElem_modify_self, hk]
  simp [List.map_set]
theorem BoolRw.rep {O : Nat → Prop} (h : BoolRw W q l) (hO : ¬ O q) : RepE O W 1 (l.map Dat.bool) (some ⟨q, 0, none⟩) 0 :=
  repE_row (D := Dat.bool) (V := Value.bool) (fun x => by simp [Rep]) l _ 0 (fun i hi => ⟨q, rfl, h.lt, hO, by simpa using h.cell i hi⟩)
end
theorem info_bool13 : (Tryz.prog.info? 4).map (fun i => (i.zero, i.size, i.bytes)) = some (some (.bool false), 1, 1) := by kernel_rfl
theorem run_make_bools13 (n : Nat) (hn : n ≤ 1048576) (w : World) :
    (Instr.makeSlice 115 (.int .i64 n) (.int .i64 n)).run Tryz.prog w = .ok (.slice (some ⟨w.heap.size, 0, none⟩) n n) (w.alloc (.cells ((List.replicate n false).map Value.bool).toArray 4)) := by
  obtain ⟨i0, hi, hi0, hi1, hi2⟩ := info_parts info_bool13
  have h := run_make (P := Tryz.prog) w 115 4 i0 _ (by kernel_rfl) hi hi0 .i64 .i64 n n (by omega) (by omega) (by rw [hi2]; omega) (by omega)
  rw [Int.toNat_natCast, hi1, Nat.mul_one] at h
  have e : madeCells (Value.bool false).cells n = ((List.replicate n false).map Value.bool).toArray := by
    apply Array.ext
    · simp [madeCells]
    · intro i h1 h2
      have e : i % 1 = 0 := Nat.mod_one i
      simp [madeCells, Value.cells, e]
  rw [← e]
  exact h
end Go.Proofs.YtdomloghcpfdjaaGreatDoor
namespace Go.Proofs.YtdomloghcpfdjaaGreatDoor
open Go.RowKit Go.LF
theorem any_take_succ13 {α : Type} (p : α → Bool) (l : List α) (j : Nat) (h : j < l.length) : (l.take (j + 1)).any p = ((l.take j).any p || p l[j]) := by
  rw [List.take_succ_eq_append_getElem h]; simp only [List.any_append, List.any_cons, List.any_nil, Bool.or_false]
set_option maxRecDepth 100000 in
set_option maxHeartbeats 4000000 in
theorem known_any13 (t : Tm) (n : Int) (hwt : t.wt ≤ 1000000) (w : World) (cs : List Value) (h : Rep none' w t.dat cs) :
    Calls Tryz.prog 101 #[.agg cs.toArray, .int .i64 n] w fun e w' => e = .returned (.bool (!(Tm.metas t).any (fun i => decide (n ≤ i)))) ∧ Upto none' w w' := by
  obtain ⟨k, nm, i, ts, a, cap, ht, rfl, _, _⟩ := tm_open h
  generalize ts.length = len at *
  obtain ⟨w1, hw1⟩ : ∃ w1, w1 = w.alloc (.cells #[.int .i64 k, .string (B nm), .int .i64 i, .slice a len cap] 29) := ⟨_, rfl⟩
  have hU1 : Upto none' w w1 := by rw [hw1]; exact (Upto.refl none' w).alloc _
  have ha1 : Box4 w1 w.heap.size (.int .i64 k) (.string (B nm)) (.int .i64 i) (.slice a len cap) 29 := by rw [hw1]; exact Box4.at_new rfl
  have MT := refMetas_any t hwt w1 _ (h.on hU1)
  have hml : (Tm.metas t).length ≤ 1000000 := Nat.le_trans (metas_len13 t) hwt
  obtain ⟨ms, hms⟩ : ∃ ms, ms = Tm.metas t := ⟨_, rfl⟩
  rw [← hms] at MT hml ⊢
  have HW := hid hw1
  obtain ⟨H, hH⟩ : ∃ H, H = w.heap.size := ⟨_, rfl⟩
  have HH := hid hH
  rw [← hH] at ha1
  obtain ⟨ml, hmll⟩ : ∃ ml, ml = ms.length := ⟨_, rfl⟩
  rw [← hmll] at hml
  have HML := hid hmll
  clear hw1 hH hms hmll h ht
  obtain ⟨t0, t1, t2, t3⟩ := ha1.cells
  go_enter Tryz.func101, Tryz.ntmps101
  go_upto_region 1 with fail
  rw [← HW.out, ← HH.out]
  go_wp2_with fail
  (with_reducible refine MT.mono ?_)
  rintro e w2 ⟨v, rfl, hI, hU2⟩
  obtain ⟨va, vc, rfl, hvc, hE⟩ := ints_open hI.rep
  have hU12 := hU1.and hU2
  rw [← HML.out]
  clear hI t0 t1 t2 t3 MT hvc
  go_wp2_with fail
  go_loopw [6] (fun v6 wr => ∃ j : Nat, v6 = .int .i64 (j : Int) ∧ j ≤ ml ∧ (ms.take j).any (fun i => decide (n ≤ i)) = false ∧ Upto none' w2 wr) (fun v6 _ => ml - (intOf v6).toNat)
  case atStart => exact ⟨0, rfl, Nat.zero_le _, rfl, Upto.refl _ _⟩
  case round =>
    obtain ⟨j, rfl, hj, hA, hU⟩ := hrel
    have HA := hid hA
    clear hA
    have hjm : (j : Int) ≤ 1000000 := by omega
    by_cases hlt : j < ml
    · have hjl : j < ms.length := by have := HML.out; omega
      obtain ⟨b, o, rfl, hb, _, hc⟩ := int_cell (hE.on hU) j hjl
      have hT := any_take_succ13 (fun i => decide (n ≤ i)) ms j hjl
      have hM : n ≤ ms[j] → ms.any (fun i => decide (n ≤ i)) = true := fun h => List.any_eq_true.2 ⟨_, List.getElem_mem hjl, by simpa using h⟩
      rw [HA.out] at hT
      have HT := hid hT
      have HM := hid hM
      clear hT hM
      generalize ms[j] = x at *
      clear hjl
      have hjb : (j : Int) < (ml : Int) := by omega
      by_cases hx : n ≤ x
      · go_wp2_with fail
        go_ret
        exact ⟨by rw [HM.out hx]; rfl, hU12.and hU⟩
      · have hx' : x < n := by omega
        go_wp2_with fail
        go_roundw
        case rel => exact ⟨j + 1, by go_num, by omega, by rw [HT.out]; simp; omega, hU⟩
        case measure => simp [intOf]; omega
    · have hje : ms.take j = ms := List.take_of_length_le (by have := HML.out; omega)
      have hA := HA.out
      rw [hje] at hA
      have HF := hid hA
      clear HA hje hA
      go_wp2_with fail
      go_ret
      exact ⟨by rw [HF.out]; rfl, hU12.and hU⟩
set_option maxRecDepth 100000 in
set_option maxHeartbeats 4000000 in
theorem refValue13_any (m : Tm) (n : Int) (hwt : m.wt ≤ 1000000) (w : World) (cs : List Value) (h : Rep none' w m.dat cs) :
    Calls Tryz.prog 94 #[.agg cs.toArray, .int .i64 n] w fun e w' => e = .returned (.int .i64 (valueE m n)) ∧ Upto none' w w' := by
  obtain ⟨k, nm, i, ts, a, cap, ht, rfl, _, _⟩ := tm_open h
  generalize ts.length = len at *
  obtain ⟨w1, hw1⟩ : ∃ w1, w1 = w.alloc (.cells #[.int .i64 k, .string (B nm), .int .i64 i, .slice a len cap] 29) := ⟨_, rfl⟩
  have hU1 : Upto none' w w1 := by rw [hw1]; exact (Upto.refl none' w).alloc _
  have ha1 : Box4 w1 w.heap.size (.int .i64 k) (.string (B nm)) (.int .i64 i) (.slice a len cap) 29 := by rw [hw1]; exact Box4.at_new rfl
  have hR1 := h.on hU1
  have WF := refWellFormed_any m hwt w1 _ hR1
  have iO := fun (W : World) (hu : Upto none' w1 W) => refIsObject_any m hwt W _ (hR1.on hu)
  have SC := fun (W : World) (hu : Upto none' w1 W) => refScope_any m hwt W _ (hR1.on hu)
  have KN := fun (W : World) (hu : Upto none' w1 W) => known_any13 m n hwt W _ (hR1.on hu)
  have HW := hid hw1
  obtain ⟨H, hH⟩ : ∃ H, H = w.heap.size := ⟨_, rfl⟩
  have HH := hid hH
  rw [← hH] at ha1
  obtain ⟨r, hr⟩ : ∃ r, r = valueE m n := ⟨_, rfl⟩
  rw [← hr]
  unfold valueE outV at hr
  obtain ⟨sc, hsc⟩ : ∃ sc : Int, sc = (if m.wf == 0 then m.scope else 0) := ⟨_, rfl⟩
  rw [← hsc] at hr SC
  obtain ⟨kb, hkb⟩ : ∃ kb, kb = (Tm.metas m).any (fun i => decide (n ≤ i)) := ⟨_, rfl⟩
  rw [← hkb] at hr KN
  clear hsc hkb
  generalize m.wf = q at *
  generalize (m.isObj && m.small) = ob at *
  have HR := hid hr
  clear hw1 hH hr h ht hR1
  obtain ⟨t0, t1, t2, t3⟩ := ha1.cells
  go_enter Tryz.func94, Tryz.ntmps94
  go_upto_region 1 with fail
  rw [← HW.out, ← HH.out]
  go_wp2_with fail
  (with_reducible refine WF.mono ?_)
  rintro e w2 ⟨rfl, hU2⟩
  have ha2 := ha1.kept hU2
  have IO2 := iO w2 hU2
  clear t0 t1 t2 t3 WF iO
  obtain ⟨t0, t1, t2, t3⟩ := ha2.cells
  by_cases hq : q = 0
  case neg =>
    have hq' : (q != 0) = true := by simpa using hq
    have HE := hid (show r = q by rw [HR.out, if_pos hq])
    clear hq
    go_wp2_with fail
    go_ret
    exact ⟨by rw [HE.out]; rfl, hU1.and hU2⟩
  subst hq
  go_wp2_with fail
  (with_reducible refine IO2.mono ?_)
  rintro e w3 ⟨rfl, hU3⟩
  have hU23 := hU2.and hU3
  have ha3 := ha1.kept hU23
  have SC3 := SC w3 hU23
  clear t0 t1 t2 t3 IO2 SC ha2
  obtain ⟨t0, t1, t2, t3⟩ := ha3.cells
  cases ob
  case false =>
    have HE := hid (show r = 32 by rw [HR.out, if_neg (by simp), if_pos rfl])
    go_wp2_with fail
    go_ret
    exact ⟨by rw [HE.out]; rfl, hU1.and hU23⟩
  have HR2 := hid (show r = if (decide (0 < sc) || kb) = true then 3 else 0 by rw [HR.out, if_neg (by simp), if_neg (by simp)])
  clear HR
  by_cases hs : 0 < sc
  · have HE := hid (show r = 3 by rw [HR2.out, if_pos (by simp [hs])])
    clear HR2
    go_wp2_with (first | ((go_at_call 55); (with_reducible refine SC3.mono ?_); rintro e w4 ⟨rfl, hU4⟩))
    go_ret
    exact ⟨by rw [HE.out]; rfl, hU1.and (hU23.and hU4)⟩
  · have HE := hid (show r = if kb = true then 3 else 0 by rw [HR2.out, decide_eq_false hs]; rfl)
    clear HR2
    go_wp2_with (first | ((go_at_call 55); (with_reducible refine SC3.mono ?_); rintro e w4 ⟨rfl, hU4⟩; have hU24 := hU23.and hU4; clear t0 t1 t2 t3; obtain ⟨t0, t1, t2, t3⟩ := (ha1.kept hU24).cells; have KN4 := KN w4 hU24) | ((go_at_call 101); (with_reducible refine KN4.mono ?_); rintro e w5 ⟨rfl, hU5⟩; cases kb))
    · go_ret
      exact ⟨by rw [HE.out]; rfl, hU1.and (hU24.and hU5)⟩
    · go_ret
      exact ⟨by rw [HE.out]; rfl, hU1.and (hU24.and hU5)⟩
theorem checkE_ref (n : Int) (name : List UInt8) (a : Tm) : checkE n name a = if (!(name == []) && !isName name) = true ∨ a.wf = 1 then 1 else if a.wf ≠ 0 then a.wf else if (a.isTyp && a.small) = false then 32 else if (decide (0 < (if a.wf == 0 then a.scope else 0)) || (Tm.metas a).any (fun i => decide (n ≤ i))) = true then 3 else if 2048 ≤ n then 7 else 0 := by
  unfold checkE outV
  have hb : (!(name == []) && !isName name) = true ↔ (name ≠ [] ∧ isName name = false) := by simp
  by_cases h1 : name ≠ [] ∧ isName name = false
  · rw [if_pos h1, if_pos (.inl (hb.2 h1))]
  · rw [if_neg h1]
    by_cases h2 : a.wf = 1
    · rw [if_pos (by rw [h2]; decide), if_pos (.inr h2), h2]
    · conv => rhs; rw [if_neg (fun e => e.elim (fun e => h1 (hb.1 e)) h2)]
end Go.Proofs.YtdomloghcpfdjaaGreatDoor
namespace Go.Proofs.YtdomloghcpfdjaaGreatDoor
open Go.RowKit Go.LF
/-- The cells of two terms. -/
abbrev Ss8 (b o b2 o2 : Nat) (x0 x1 x2 x3 y0 y1 y2 y3 : Value) (w' : World) : Prop :=
  (w'.cell? ⟨b, o, none⟩ = some x0 ∧ w'.cell? ⟨b, o + 1, none⟩ = some x1 ∧ w'.cell? ⟨b, o + 2, none⟩ = some x2 ∧ w'.cell? ⟨b, o + 3, none⟩ = some x3) ∧ (w'.cell? ⟨b2, o2, none⟩ = some y0 ∧ w'.cell? ⟨b2, o2 + 1, none⟩ = some y1 ∧ w'.cell? ⟨b2, o2 + 2, none⟩ = some y2 ∧ w'.cell? ⟨b2, o2 + 3, none⟩ = some y3)
theorem Ss8.on {b o b2 o2 : Nat} {x0 x1 x2 x3 y0 y1 y2 y3 : Value} {w w' : World} (h : Ss8 b o b2 o2 x0 x1 x2 x3 y0 y1 y2 y3 w) (hU : Upto none' w w') : Ss8 b o b2 o2 x0 x1 x2 x3 y0 y1 y2 y3 w' := by
  obtain ⟨⟨a0, a1, a2, a3⟩, c0, c1, c2, c3⟩ := h
  exact ⟨⟨hU.cell a0 (fun x => x), hU.cell a1 (fun x => x), hU.cell a2 (fun x => x), hU.cell a3 (fun x => x)⟩, hU.cell c0 (fun x => x), hU.cell c1 (fun x => x), hU.cell c2 (fun x => x), hU.cell c3 (fun x => x)⟩
set_option maxRecDepth 100000 in
set_option maxHeartbeats 4000000 in
theorem refSameAll_same (ts : List Tm) (hs : ∀ t ∈ ts, t.size ≤ 1000000) (hl : ts.length ≤ 1000000) (w : World) (a a2 : Option Addr) (cap cap2 : Nat) (hE : RepE none' w 4 (ts.map Tm.dat) a 0) (hE2 : RepE none' w 4 (ts.map Tm.dat) a2 0) :
    Calls Tryz.prog 44 #[.slice a ts.length cap, .slice a2 ts.length cap2] w fun e w' => e = .returned (.bool true) ∧ Upto none' w w' := by
  obtain ⟨tl, htl⟩ : ∃ tl, tl = ts.length := ⟨_, rfl⟩
  rw [← htl]
  rw [← htl] at hl
  have HL := hid htl
  clear htl
  go_enter Tryz.func44, Tryz.ntmps44
  go_wp2_with fail
  go_loopw [5] (fun v5 wr => ∃ j : Nat, v5 = .int .i64 (j : Int) ∧ j ≤ tl ∧ Upto none' w wr) (fun v5 _ => tl - (intOf v5).toNat)
  case atStart => exact ⟨0, rfl, Nat.zero_le _, Upto.refl _ _⟩
  case round =>
    obtain ⟨j, rfl, hj, hU⟩ := hrel
    have hjm : (j : Int) ≤ 1000000 := by omega
    by_cases hlt : j < tl
    · have hjl : j < ts.length := by have := HL.out; omega
      obtain ⟨b, o, k1, n1, i1, s1, z1, rfl, hb, _, x0, x1, x2, x3, hR1⟩ := arg_tm (hE.on hU) j hjl
      obtain ⟨b2, o2, k2, n2, i2, s2, z2, rfl, hb2, _, y0, y1, y2, y3, hR2⟩ := arg_tm (hE2.on hU) j hjl
      have hd : Upto none' wr wr.drew := (Upto.refl none' _).drew
      have SM := refSame_any ts[j] (hs _ (List.getElem_mem hjl)) ts[j] wr.drew _ _ (hR1.on hd) (hR2.on hd)
      rw [Tm.same_refl] at SM
      have S0 : Ss8 b (o + j * 4) b2 (o2 + j * 4) _ _ _ _ _ _ _ _ wr.drew := Ss8.on ⟨⟨x0, x1, x2, x3⟩, y0, y1, y2, y3⟩ hd
      generalize ts[j].args.length = al at *
      have hjb : (j : Int) < (tl : Int) := by omega
      clear hR1 hR2 x0 x1 x2 x3 y0 y1 y2 y3 hjl
      go_wp2_with fail
      go_region_held3 (fun w' => Ss8 b (o + j * 4) b2 (o2 + j * 4) (.int .i64 k1) (.string (B n1)) (.int .i64 i1) (.slice s1 al z1) (.int .i64 k2) (.string (B n2)) (.int .i64 i2) (.slice s2 al z2) w')
        (first | (with_reducible assumption) | (with_reducible exact S0))
        (first | ((go_at_call 25); (with_reducible refine SM.mono ?_); rintro e w6 ⟨rfl, hU6⟩; have S6 := Ss8.on S0 hU6))
      all_goals
        go_wp2_with fail
        go_roundw
        case rel => exact ⟨j + 1, by go_num, by omega, (hU.and hd).and hU6⟩
        case measure => simp [intOf]; omega
    · have hjn : ¬ (j : Int) < (tl : Int) := by omega
      go_wp2_with fail
      go_ret
      exact ⟨rfl, hU⟩
/-- The cells of two metavariables. -/
abbrev Sv8 (b o b2 o2 : Nat) (x0 x1 x2 x3 x4 x5 y0 y1 y2 y3 y4 y5 : Value) (w' : World) : Prop :=
  (w'.cell? ⟨b, o, none⟩ = some x0 ∧ w'.cell? ⟨b, o + 1, none⟩ = some x1 ∧ w'.cell? ⟨b, o + 2, none⟩ = some x2 ∧ w'.cell? ⟨b, o + 3, none⟩ = some x3 ∧ w'.cell? ⟨b, o + 4, none⟩ = some x4 ∧ w'.cell? ⟨b, o + 5, none⟩ = some x5) ∧ (w'.cell? ⟨b2, o2, none⟩ = some y0 ∧ w'.cell? ⟨b2, o2 + 1, none⟩ = some y1 ∧ w'.cell? ⟨b2, o2 + 2, none⟩ = some y2 ∧ w'.cell? ⟨b2, o2 + 3, none⟩ = some y3 ∧ w'.cell? ⟨b2, o2 + 4, none⟩ = some y4 ∧ w'.cell? ⟨b2, o2 + 5, none⟩ = some y5)
theorem Sv8.on {b o b2 o2 : Nat} {x0 x1 x2 x3 x4 x5 y0 y1 y2 y3 y4 y5 : Value} {w w' : World} (h : Sv8 b o b2 o2 x0 x1 x2 x3 x4 x5 y0 y1 y2 y3 y4 y5 w) (hU : Upto none' w w') : Sv8 b o b2 o2 x0 x1 x2 x3 x4 x5 y0 y1 y2 y3 y4 y5 w' := by
  obtain ⟨⟨a0, a1, a2, a3, a4, a5⟩, c0, c1, c2, c3, c4, c5⟩ := h
  exact ⟨⟨hU.cell a0 (fun x => x), hU.cell a1 (fun x => x), hU.cell a2 (fun x => x), hU.cell a3 (fun x => x), hU.cell a4 (fun x => x), hU.cell a5 (fun x => x)⟩, hU.cell c0 (fun x => x), hU.cell c1 (fun x => x), hU.cell c2 (fun x => x), hU.cell c3 (fun x => x), hU.cell c4 (fun x => x), hU.cell c5 (fun x => x)⟩
set_option maxRecDepth 100000 in
set_option maxHeartbeats 8000000 in
theorem sameStore_same (l : List Mv) (hl : StOk l) (w : World) (a a2 : Option Addr) (cap cap2 : Nat) (hE : RepE none' w 6 (l.map Mv.dat) a 0) (hE2 : RepE none' w 6 (l.map Mv.dat) a2 0) :
    Calls Tryz.prog 43 #[.slice a l.length cap, .slice a2 l.length cap2] w fun e w' => e = .returned (.bool true) ∧ Upto none' w w' := by
  have hl2 := hl.len
  obtain ⟨tl, htl⟩ : ∃ tl, tl = l.length := ⟨_, rfl⟩
  rw [← htl]
  rw [← htl] at hl2
  have HL := hid htl
  clear htl
  go_enter Tryz.func43, Tryz.ntmps43
  go_wp2_with fail
  go_loopw [5] (fun v5 wr => ∃ j : Nat, v5 = .int .i64 (j : Int) ∧ j ≤ tl ∧ Upto none' w wr) (fun v5 _ => tl - (intOf v5).toNat)
  case atStart => exact ⟨0, rfl, Nat.zero_le _, Upto.refl _ _⟩
  case round =>
    obtain ⟨j, rfl, hj, hU⟩ := hrel
    have hjm : (j : Int) ≤ 2048 := by omega
    by_cases hlt : j < tl
    · have hjl : j < l.length := by have := HL.out; omega
      obtain ⟨b, o, k, n, i, aa, cap3, va, vc, rfl, hb, _, ⟨x0, x1, x2, x3, x4, x5⟩, hR1, hv1, hV1⟩ := arg_mv (hE.on hU) j hjl
      obtain ⟨b2, o2, k2, n2, i2, aa2, cap4, va2, vc2, rfl, hb2, _, ⟨y0, y1, y2, y3, y4, y5⟩, hR2, hv2, hV2⟩ := arg_mv (hE2.on hU) j hjl
      have hd : Upto none' wr wr.drew := (Upto.refl none' _).drew
      obtain ⟨m1, m2, m3⟩ := hl.mv _ (List.getElem_mem hjl)
      have SM := fun (W : World) (hu : Upto none' wr W) => refSame_any l[j].type (by have := Tm.size_le_wt l[j].type; omega) l[j].type W _ _ (hR1.on hu) (hR2.on hu)
      rw [Tm.same_refl] at SM
      have SA := fun (W : World) (hu : Upto none' wr W) => refSameAll_same l[j].value (fun t ht => by have := m3 t ht; have := Tm.size_le_wt t; omega) (by omega) W va va2 vc vc2 (hV1.on hu) (hV2.on hu)
      have S0 : Sv8 b (o + j * 6) b2 (o2 + j * 6) _ _ _ _ _ _ _ _ _ _ _ _ wr.drew := Sv8.on ⟨⟨x0, x1, x2, x3, x4, x5⟩, y0, y1, y2, y3, y4, y5⟩ hd
      generalize l[j].type.args.length = al at *
      generalize l[j].value.length = vl at *
      generalize l[j].name = nm at *
      have SM1 := SM _ hd
      have hjb : (j : Int) < (tl : Int) := by omega
      clear hR1 hR2 x0 x1 x2 x3 x4 x5 y0 y1 y2 y3 y4 y5 hV1 hV2 m1 m2 m3 hv1 hv2 SM hjl
      go_wp2_with fail
      go_region_held3 (fun w' => Sv8 b (o + j * 6) b2 (o2 + j * 6) (.string (B nm)) (.int .i64 k) (.string (B n)) (.int .i64 i) (.slice aa al cap3) (.slice va vl vc) (.string (B nm)) (.int .i64 k2) (.string (B n2)) (.int .i64 i2) (.slice aa2 al cap4) (.slice va2 vl vc2) w')
        (first | (with_reducible assumption) | (with_reducible exact S0))
        (first | ((go_at_call 25); (with_reducible refine SM1.mono ?_); rintro e w6 ⟨rfl, hU6⟩; have S6 := Sv8.on S0 hU6; have hU06 := hd.and hU6; have SA6 := SA _ hU06) | ((go_at_call 44); (with_reducible refine SA6.mono ?_); rintro e w7 ⟨rfl, hU7⟩; have S7 := Sv8.on S6 hU7))
      all_goals
        go_wp2_with fail
        go_roundw
        case rel => exact ⟨j + 1, by go_num, by omega, hU.and (hU06.and hU7)⟩
        case measure => simp [intOf]; omega
    · have hjn : ¬ (j : Int) < (tl : Int) := by omega
      go_wp2_with fail
      go_ret
      exact ⟨rfl, hU⟩
end Go.Proofs.YtdomloghcpfdjaaGreatDoor
namespace Go.Proofs.YtdomloghcpfdjaaGreatDoor
open Go.RowKit Go.LF
set_option maxRecDepth 100000 in
set_option maxHeartbeats 4000000 in
theorem direct_any (m : Mv) (h1 : m.type.wt ≤ 300000) (h2 : m.value.length ≤ 100) (h3 : ∀ v ∈ m.value, v.wt ≤ 300000) (w : World) (cs : List Value) (h : Rep none' w m.dat cs) :
    Calls Tryz.prog 171 #[.agg cs.toArray] w fun e w' => ∃ v, e = .returned v ∧ Ints w.heap.size w' v (nextV m) ∧ Upto none' w w' := by
  obtain ⟨k, n, i, aa, cap, va, vc, rfl, hR, hvc, hV⟩ := mv_open h
  obtain ⟨vl, hvl⟩ : ∃ vl, vl = m.value.length := ⟨_, rfl⟩
  rw [← hvl] at h2 hvc
  rw [← hvl]
  generalize m.type.args.length = al at *
  obtain ⟨w1, hw1⟩ : ∃ w1, w1 = w.alloc (.cells #[.string (B m.name), .int .i64 k, .string (B n), .int .i64 i, .slice aa al cap, .slice va vl vc] 53) := ⟨_, rfl⟩
  have hU1 : Upto none' w w1 := by rw [hw1]; exact (Upto.refl none' w).alloc _
  have hB1 : Box6 w1 w.heap.size (.string (B m.name)) (.int .i64 k) (.string (B n)) (.int .i64 i) (.slice aa al cap) (.slice va vl vc) 53 := by rw [hw1]; exact Box6.at_new rfl
  have MT := refMetas_any m.type (by omega) w1 _ (hR.on hU1)
  have hV1 := hV.on hU1
  have hml := metas_len13 m.type
  have HM := hid hvl
  have HW := hid hw1
  obtain ⟨H, hH⟩ : ∃ H, H = w.heap.size := ⟨_, rfl⟩
  have HH := hid hH
  rw [← hH] at hB1 ⊢
  have hz1 := hB1.lt
  obtain ⟨H1, hH1⟩ : ∃ H1, H1 = w1.heap.size := ⟨_, rfl⟩
  have HH1 := hid hH1
  rw [← hH1] at MT hz1
  clear hw1 hH hvl h hR hV hH1
  obtain ⟨c0, c1, c2, c3, c4, c5⟩ := hB1.cells
  go_enter Tryz.func171, Tryz.ntmps171
  go_upto_region 1 with fail
  rw [← HW.out, ← HH.out]
  go_wp2_with fail
  (with_reducible refine MT.mono ?_)
  rintro e w2 ⟨v, rfl, hI0, hU2⟩
  have hI := hI0
  clear c0 c1 c2 c3 c4 c5 MT hI0
  go_wp2_with fail
  go_loopw [3, 4] (fun v3 v4 wr => ∃ p : Nat, v4 = .int .i64 (p : Int) ∧ p ≤ vl ∧ Ints H1 wr v3 (Tm.metas m.type ++ (m.value.take p).flatMap Tm.metas) ∧ Upto none' w1 wr)
    (fun _ v4 _ => vl - (intOf v4).toNat)
  case atStart => exact ⟨0, rfl, Nat.zero_le _, by simpa using hI, hU2⟩
  case round =>
    obtain ⟨p, rfl, hp, hIr, hUr⟩ := hrel
    obtain ⟨vo, hvo⟩ : ∃ v, v = u3 := ⟨_, rfl⟩
    rw [← hvo] at hIr
    rw [← hvo]
    have HVO := hid hvo
    clear hvo
    have u1 : (p : Int) ≤ 100 := by omega
    obtain ⟨c0, c1, c2, c3, c4, c5⟩ := (hB1.kept hUr).cells
    by_cases hlt : (p : Int) < (vl : Int)
    · have hpl : p < m.value.length := by have := HM.out; omega
      obtain ⟨b1, p1, k1, n1, i1, s1, z1, rfl, hb1, _, y0, y1, y2, y3, hR1⟩ := arg_tm (hV1.on hUr) p hpl
      have htk := flat_take p hpl
      have huw := h3 _ (List.getElem_mem hpl)
      have hfl := flat_len (l := m.value.take p) (fun v hv => h3 v (List.mem_of_mem_take hv))
      rw [List.length_take, Nat.min_eq_left (Nat.le_of_lt hpl)] at hfl
      generalize m.value[p] = u at *
      generalize u.args.length = ul at *
      have hul := metas_len13 u
      have MTu := refMetas_any u (by omega) wr _ hR1
      have HT := hid htk
      have hp100 : p ≤ 100 := by omega
      have hH9 : H1 ≤ wr.heap.size := by have := hUr.size; have := HH1.out; omega
      clear hR1 htk
      go_wp2_with (first | ((go_at_call 45); (with_reducible refine MTu.mono ?_); rintro e w6 ⟨vu, rfl, hIu, hU6⟩; obtain ⟨va6, vc6, rfl, hvc6, hEu⟩ := ints_open hIu.rep; have hIo := hIr.on hU6; have hz6 := hU6.size) | (at_builtin; go_loud (refine wpList_append_ints (by rfl) _ _ (by rfl) (by rfl) hIo va6 (Tm.metas u).length vc6 (Tm.metas u) (by rfl) rfl hEu (by rw [List.length_append]; omega) (by omega) ?_); intro v7 w7 hI7 hg7 hat7))
      have hU7 : Upto none' w1 w7 := (hUr.and hU6).trans (grown_own hg7) (fun b hb e => by have := (hIo.lt b e).1; have := HH1.out; omega)
      rw [List.append_assoc, ← HT.out] at hI7
      go_wp2_with fail
      go_roundw
      case rel => exact ⟨p + 1, by go_num, by omega, hI7, hU7⟩
      case measure => simp [intOf]; omega
    · have hpe : p = m.value.length := by have := HM.out; omega
      rw [hpe, List.take_length] at hIr
      have HI := hid hIr
      clear hIr hpe
      go_wp2_with fail
      go_ret
      exact ⟨_, rfl, HI.out.mono (by omega), hU1.and hUr⟩
end Go.Proofs.YtdomloghcpfdjaaGreatDoor
namespace Go.Proofs.YtdomloghcpfdjaaGreatDoor
open Go.RowKit Go.LF
/-- As GivesM, apart from some blocks. -/
def GivesMO (O : Nat → Prop) (L : List Mv) (i e' : Int) (w : World) (e : Ending) (w' : World) : Prop :=
  ∃ (a : Option Addr) (cap : Nat), e = .returned (.tuple #[.slice a L.length cap, .int .i64 i, .int .i64 e']) ∧ L.length ≤ cap ∧ RepE O w' 6 (L.map Mv.dat) a 0 ∧ Upto none' w w'
theorem RowW.rowO {O : Nat → Prop} {base : Nat} {W : World} {v : Value} {ms : List Mv} {css : List (List Value)} (h : RowW O base W v ms css) (hO : ∀ b, O b → b < base) : ∃ a cap, v = .slice a ms.length cap ∧ ms.length ≤ cap ∧ RepE O W 6 (ms.map Mv.dat) a 0 := by
  obtain ⟨a, cap, hv, hcap, hc⟩ := h.rowD.cells
  rw [List.length_map] at hv hcap
  refine ⟨a, cap, hv, hcap, repE_of _ _ _ (fun i hi => ?_)⟩
  have hi2 : i < css.length := by have := h.1; rw [List.length_map] at hi; omega
  obtain ⟨g, rfl, hown, hb, hlt, _, hg⟩ := hc i hi hi2
  refine ⟨g, 0, css[i], rfl, hlt, fun e => by have := hO g e; omega, h.2.1 _ (List.getElem_mem hi2), fun m u hu => ?_, ?_⟩
  · rw [show 0 + 0 + i * 6 + m = i * 6 + m by omega]
    exact hg m u hu
  · simp only [List.getElem_map]
    exact Rep.weaken (fun _ _ e => .inl e) _ _ (h.2.2.2 i (by simpa using hi) hi2)
set_option maxRecDepth 100000 in
set_option maxHeartbeats 8000000 in
theorem refNewO_any (O : Nat → Prop) (l : List Mv) (hl2 : l.length ≤ 2048) (name : List UInt8) (hn : name.length ≤ 1000000) (a : Tm) (haw : a.wt ≤ 1000000) (w : World) (hO : ∀ b, O b → b < w.heap.size) (la : Option Addr) (lc : Nat) (hlc : l.length ≤ lc) (cs : List Value) (hL : RepE O w 6 (l.map Mv.dat) la 0) (h : Rep O w a.dat cs) :
    Calls Tryz.prog 88 #[.slice la l.length lc, .string (B name), .agg cs.toArray] w (GivesMO O (newS l name a) (newI l name a) (checkE l.length name a) w) := by
  obtain ⟨k, nm, i, ts, aa, cap, ht, rfl, _, _⟩ := tm_open h
  generalize ts.length = len at *
  obtain ⟨w1, hw1⟩ : ∃ w1, w1 = w.alloc (.cells #[.int .i64 k, .string (B nm), .int .i64 i, .slice aa len cap] 29) := ⟨_, rfl⟩
  have hU1 : Upto none' w w1 := by rw [hw1]; exact (Upto.refl none' w).alloc _
  have ha1 : Box4 w1 w.heap.size (.int .i64 k) (.string (B nm)) (.int .i64 i) (.slice aa len cap) 29 := by rw [hw1]; exact Box4.at_new rfl
  have hRa := h.on hU1
  have hR1 := Rep.weaken (O' := none') (fun _ _ x => x.elim) _ _ hRa
  have hL1 := hL.on hU1
  have WF := refWellFormed_any a haw w1 _ hR1
  have IN := fun (W : World) => refIsName_any name W hn
  have IT := fun (W : World) (hu : Upto none' w1 W) => refIsType_any a haw W _ (hR1.on hu)
  have SC := fun (W : World) (hu : Upto none' w1 W) => refScope_any a haw W _ (hR1.on hu)
  have KN := fun (W : World) (hu : Upto none' w1 W) => known_any13 a l.length haw W _ (hR1.on hu)
  have HW := hid hw1
  obtain ⟨H, hH⟩ : ∃ H, H = w.heap.size := ⟨_, rfl⟩
  have HH := hid hH
  rw [← hH] at ha1
  obtain ⟨E, hE⟩ : ∃ E : Int, E = checkE l.length name a := ⟨_, rfl⟩
  obtain ⟨L2, hL2⟩ : ∃ L2, L2 = newS l name a := ⟨_, rfl⟩
  obtain ⟨I2, hI2⟩ : ∃ I2, I2 = newI l name a := ⟨_, rfl⟩
  rw [← hE, ← hL2, ← hI2]
  unfold newS at hL2
  unfold newI at hI2
  rw [← hE] at hL2 hI2
  rw [checkE_ref] at hE
  obtain ⟨sc, hsc⟩ : ∃ sc : Int, sc = (if a.wf == 0 then a.scope else 0) := ⟨_, rfl⟩
  rw [← hsc] at hE SC
  obtain ⟨kb, hkb⟩ : ∃ kb, kb = (Tm.metas a).any (fun i => decide ((l.length : Int) ≤ i)) := ⟨_, rfl⟩
  rw [← hkb] at hE KN
  clear hsc hkb
  generalize a.wf = q at *
  generalize (a.isTyp && a.small) = ty at *
  generalize isName name = nb at *
  obtain ⟨ll, hll⟩ : ∃ ll, ll = l.length := ⟨_, rfl⟩
  rw [← hll] at KN hE hI2 hlc
  rw [← hll]
  have hll2 : (ll : Int) ≤ 2048 := by omega
  obtain ⟨bad, hbad⟩ : ∃ bad, bad = ((!(name == []) && !nb) || (q == 1)) := ⟨_, rfl⟩
  have hE1 : E = if bad = true then 1 else if q ≠ 0 then q else if ty = false then 32 else if (decide (0 < sc) || kb) = true then 3 else if (2048 : Int) ≤ (ll : Int) then 7 else 0 := by
    rw [hE, hbad]
    congr 1
    simp [Bool.or_eq_true]
  have HL := hid (And.intro hll (And.intro hL2 (And.intro hI2 hE1)))
  obtain ⟨q1, hq1⟩ : ∃ q1, q1 = (q == 1) := ⟨_, rfl⟩
  rw [← hq1] at hbad
  have hq1' : (q == 1) = q1 := hq1.symm
  obtain ⟨b0, hb0⟩ : ∃ b0, b0 = (!(name == []) && !nb) := ⟨_, rfl⟩
  rw [← hb0] at hbad
  have HB0 := hid hb0
  have HBAD := hid hbad
  have stay : ∀ (z : Int) (W : World), z ≠ 0 → E = z → Upto none' w1 W → GivesMO O L2 I2 E w (.returned (.tuple #[.slice la ll lc, .int .i64 0, .int .i64 z])) W := by
    intro z W hz hEz hu
    refine ⟨la, lc, ?_, ?_, ?_, hU1.and hu⟩
    · rw [hI2, hL2, if_pos (by rw [hEz]; exact hz), if_pos (by rw [hEz]; exact hz), hEz, hll]
    · rw [hL2, if_pos (by rw [hEz]; exact hz), ← hll]; exact hlc
    · rw [hL2, if_pos (by rw [hEz]; exact hz)]; exact hL1.on hu
  have HS := hid stay
  clear hR1
  clear hw1 hH hE hE1 hL2 hI2 hll h ht hL hbad stay hq1 hb0
  obtain ⟨t0, t1, t2, t3⟩ := ha1.cells
  go_enter Tryz.func88, Tryz.ntmps88
  go_upto_region 1 with fail
  rw [← HW.out, ← HH.out]
  go_wp2_with fail
  (with_reducible refine WF.mono ?_)
  rintro e w2 ⟨rfl, hU2⟩
  have ha2 := ha1.kept hU2
  clear t0 t1 t2 t3 WF
  obtain ⟨t0, t1, t2, t3⟩ := ha2.cells
  go_upto_region 2 with fail
  go_cut [12] from 12 to 19 (fun v12 wx => v12 = .bool b0 ∧ w2 = wx)
  case first =>
    clear hq1' 
    cases name with
    | nil =>
      go_wp2_with fail
      go_meet
      case rel => exact ⟨by rw [HB0.out]; rfl, rfl⟩
    | cons c cs =>
      cases nb
      · go_wp2_with (first | ((go_at_call 167); (with_reducible refine (IN _).mono ?_); rintro e w3 ⟨rfl, rfl⟩))
        go_meet
        case rel => exact ⟨by rw [HB0.out]; rfl, rfl⟩
      · go_wp2_with (first | ((go_at_call 167); (with_reducible refine (IN _).mono ?_); rintro e w3 ⟨rfl, rfl⟩))
        go_meet
        case rel => exact ⟨by rw [HB0.out]; rfl, rfl⟩
  case rest =>
   obtain ⟨rfl, rfl⟩ := hcut
   go_upto_if 12 with fail
   go_cut [12] from 12 to 21 (fun v12 wx => v12 = .bool bad ∧ w2 = wx)
   case first =>
    cases b0
    · go_wp2_with fail
      go_meet
      case rel => exact ⟨by rw [HBAD.out]; rfl, rfl⟩
    · go_wp2_with fail
      go_meet
      case rel => exact ⟨by rw [HBAD.out]; rfl, rfl⟩
   case rest =>
    obtain ⟨rfl, rfl⟩ := hcut
    clear hq1'
    have HE := HL.out.2.2.2
    cases bad
    case true =>
      have hz : E = 1 := by rw [HE]; rfl
      have HF := hid (HS.out 1 w2 (by decide) hz hU2)
      clear HE hz
      go_wp2_with fail
      refine bodyPost_ret (v := .tuple #[.slice la ll lc, .int .i64 0, .int .i64 1]) (by simp [results, Tryz.f88, go_sem]) rfl HF.out
    case false =>
      rw [if_neg (by simp)] at HE
      have HE2 := hid HE
      clear HE HBAD
      by_cases hq : q = 0
      case neg =>
        have hz : E = q := by rw [HE2.out, if_pos hq]
        have HF := hid (HS.out q w2 hq hz hU2)
        have hq' : (q != 0) = true := by simpa using hq
        clear hz hq
        go_wp2_with fail
        refine bodyPost_ret (v := .tuple #[.slice la ll lc, .int .i64 0, .int .i64 q]) (by simp [results, Tryz.f88, go_sem]) rfl HF.out
      subst hq
      have HE3 := hid (show E = _ from by rw [HE2.out, if_neg (by simp)])
      clear HE2
      have IT2 := IT w2 hU2
      clear IT
      go_wp2_with fail
      (with_reducible refine IT2.mono ?_)
      rintro e w3 ⟨rfl, hU3⟩
      have hU23 := hU2.and hU3
      have ha3 := ha1.kept hU23
      clear t0 t1 t2 t3 IT2 ha2
      obtain ⟨t0, t1, t2, t3⟩ := ha3.cells
      cases ty
      case false =>
        have hz : E = 32 := by rw [HE3.out, if_pos rfl]
        have HF := hid (HS.out 32 w3 (by decide) hz hU23)
        clear hz
        go_wp2_with fail
        refine bodyPost_ret (v := .tuple #[.slice la ll lc, .int .i64 0, .int .i64 32]) (by simp [results, Tryz.f88, go_sem]) rfl HF.out
      have HE4 := hid (show E = _ from by rw [HE3.out, if_neg (by simp)])
      clear HE3
      have SC3 := SC w3 hU23
      clear SC
      by_cases hs : 0 < sc
      · have hz : E = 3 := by rw [HE4.out, if_pos (by simp [hs])]
        have HF := fun W hu => HS.out 3 W (by decide) hz hu
        clear hz
        have HFF := hid HF
        clear HF
        go_wp2_with (first | ((go_at_call 55); (with_reducible refine SC3.mono ?_); rintro e w4 ⟨rfl, hU4⟩))
        refine bodyPost_ret (v := .tuple #[.slice la ll lc, .int .i64 0, .int .i64 3]) (by simp [results, Tryz.f88, go_sem]) rfl (HFF.out _ (hU23.and hU4))
      · have HE5 := hid (show E = if kb = true then 3 else if (2048 : Int) ≤ (ll : Int) then 7 else 0 by rw [HE4.out, decide_eq_false hs]; rfl)
        clear HE4
        go_wp2_with (first | ((go_at_call 55); (with_reducible refine SC3.mono ?_); rintro e w4 ⟨rfl, hU4⟩; have hU24 := hU23.and hU4; clear t0 t1 t2 t3; obtain ⟨t0, t1, t2, t3⟩ := (ha1.kept hU24).cells; have KN4 := KN w4 hU24) | ((go_at_call 101); (with_reducible refine KN4.mono ?_); rintro e w5 ⟨rfl, hU5⟩; have hU25 := hU24.and hU5; clear t0 t1 t2 t3; obtain ⟨t0, t1, t2, t3⟩ := (ha1.kept hU25).cells; cases kb; by_cases hbig : (2048 : Int) ≤ (ll : Int)))
        · have hz : E = 7 := by rw [HE5.out, if_neg (by simp), if_pos (by omega)]
          refine bodyPost_ret (v := .tuple #[.slice la ll lc, .int .i64 0, .int .i64 7]) (by simp [results, Tryz.f88, go_sem]) rfl (HS.out 7 _ (by decide) hz hU25)
        · have hz : E = 0 := by rw [HE5.out, if_neg (by simp), if_neg (by omega)]
          have hL3 : L2 = l ++ [⟨name, a, []⟩] := by rw [HL.out.2.1, if_neg (by simp [hz])]
          have hI3 : I2 = (ll : Int) := by rw [HL.out.2.2.1, if_neg (by simp [hz])]
          have HF := hid (And.intro hz (And.intro hL3 hI3))
          clear hz hL3 hI3
          have hlb := RepE.fresh' _ _ _ _ (hL1.on hU25)
          have hrb := Rep.fresh' _ _ (hRa.on hU25)
          have hd5 : Upto none' w5 w5.drew := (Upto.refl none' _).drew
          have hb5 := ha1.kept hU25
          obtain ⟨x0, x1, x2, x3⟩ := (hb5.kept hd5).cells
          obtain ⟨o, ho⟩ : ∃ o, o = Obj.cells #[.string (B name), .int .i64 k, .string (B nm), .int .i64 i, .slice aa len cap, .slice none 0 0] 53 := ⟨_, rfl⟩
          have HO := hid ho
          have hda : Upto none' w5 (w5.drew.alloc o) := hd5.alloc _
          have hBa : Box6 (w5.drew.alloc o) w5.heap.size (.string (B name)) (.int .i64 k) (.string (B nm)) (.int .i64 i) (.slice aa len cap) (.slice none 0 0) 53 := by rw [ho]; exact Box6.at_new rfl
          have hmv : ∀ W, Upto none' w5 W → Rep (fun b => O b ∨ w5.heap.size ≤ b) W (Mv.dat ⟨name, a, []⟩) [.string (B name), .int .i64 k, .string (B nm), .int .i64 i, .slice aa len cap, .slice none 0 0] := fun W hu => rep_mv.2 ⟨[.int .i64 k, .string (B nm), .int .i64 i, .slice aa len cap], none, 0, rfl, hrb.on hu, Nat.le_refl _, by simp only [List.map_nil, RepE]⟩
          have hga : ∀ (W W' : World), W.grownBy W' (Value.slice none 0 0).ownBlock → Upto none' W W' := fun W W' hg => (grown_own hg).mono (fun _ _ e => by simp [Value.ownBlock] at e)
          rw [ho] at hda hBa
          clear ho hd5
          have hd5 : Upto none' w5 w5.drew := (Upto.refl none' _).drew
          go_region_law (first
            | ((refine step_append_mvs (by rfl) _ _ (by rfl) (by rfl) (RowW.nil O w5.heap.size _) la ll lc l (by rfl) HL.out.1 (rep_olds (hlb.on hd5)) (by simp; omega) (Nat.le_refl _) ?_); intro v7 w7 css7 hS7 hg7 hat7; have hU7 := hd5.and (hga _ _ hg7); clear x0 x1 x2 x3; obtain ⟨x0, x1, x2, x3⟩ := (hb5.kept hU7).cells; have hz7 := hU7.size)
            | ((refine step_append_mvs (by rfl) _ _ (by rfl) (by rfl) (RowW.nil O w5.heap.size _) la ll lc l (by rfl) HL.out.1 (rep_olds (hlb.on hda)) (by simp; omega) (by simp) ?_); intro v8 w8 css8 hS8 hg8 hat8; have hU8 := hda.and (hga _ _ hg8); have hB8 := hBa.kept (hga _ _ hg8); have hz8 := hU8.size)
            | ((refine step_append_mvs (by rfl) _ _ (by rfl) (by rfl) (hS7.on ((Upto.refl none' w7).alloc _)) (some ⟨w7.heap.size, 0, none⟩) 1 1 [⟨name, a, []⟩] (by rfl) rfl (rep_news (Box6.at_new rfl) (hmv _ (hU7.alloc _))) (by simp; omega) (by simp; omega) ?_); intro v9 w9 css9 hS9 hg9 hat9; have hU9 : Upto none' w5 w9 := (hU7.alloc _).trans (grown_own hg9) (fun b hb e => by have := (hS7.2.2.1.lt b e).1; omega))
            | ((refine step_append_mvs (by rfl) _ _ (by rfl) (by rfl) hS8 (some ⟨w5.heap.size, 0, none⟩) 1 1 [⟨name, a, []⟩] (by rfl) rfl (rep_news hB8 (hmv _ hU8)) (by simp; omega) (by omega) ?_); intro v9 w9 css9 hS9 hg9 hat9; have hU9 : Upto none' w5 w9 := hU8.trans (grown_own hg9) (fun b hb e => by have := (hS8.2.2.1.lt b e).1; omega)))
          all_goals
            obtain ⟨a9, c9, rfl, hc9, hE9⟩ := hS9.rowO (fun b e => Nat.lt_of_lt_of_le (hO b e) (Nat.le_trans hU1.size hU25.size))
            have HQ := hid (And.intro hc9 (And.intro hE9 hU9))
            clear hc9 hE9 hU9 hS9
            go_wp2_with fail
            refine bodyPost_ret (v := .tuple #[.slice a9 (l ++ [(⟨name, a, []⟩ : Mv)]).length c9, .int .i64 (ll : Int), .int .i64 0]) (by simp [results, Tryz.f88, go_sem]) rfl ⟨a9, c9, by rw [HF.out.1, HF.out.2.1, HF.out.2.2], by rw [HF.out.2.1]; exact HQ.out.1, by rw [HF.out.2.1]; exact HQ.out.2.1, hU1.and (hU25.and HQ.out.2.2)⟩
        · have hz : E = 3 := by rw [HE5.out, if_pos (by simp)]
          refine bodyPost_ret (v := .tuple #[.slice la ll lc, .int .i64 0, .int .i64 3]) (by simp [results, Tryz.f88, go_sem]) rfl (HS.out 3 _ (by decide) hz hU25)
end Go.Proofs.YtdomloghcpfdjaaGreatDoor
