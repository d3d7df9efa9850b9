/- Rows of simple types whose elements lie below, appended to. -/
import Derived.Test.YtnhmogmpbgadiaaDoorCF
import Derived.Maps.AppendAt
import Derived.Laws.OwnMore
import Derived.Deep.RegionHeld3
namespace Go.Proofs.YtnhmogmpbgadiaaDoor
open Go.RowKit Go.LF
theorem repE_none2 {O : Nat → Prop} {W : World} {ts : List Sm} (h : RepE O W 2 (ts.map Sm.dat) none 0) : ts = [] := by
  cases ts with
  | nil => rfl
  | cons t ts => simp only [List.map_cons, RepE] at h; obtain ⟨⟨_, _, _, e, _⟩, _⟩ := h; cases e
/-- The cells of a row of terms. -/
theorem row_cells2 {O : Nat → Prop} {W : World} : ∀ (ts : List Sm) (a : Option Addr) (j : Nat), RepE O W 2 (ts.map Sm.dat) a j →
    ∃ css : List (List Value), css.length = ts.length ∧ (∀ cs ∈ css, cs.length = 2) ∧ (∀ u ∈ css.flatten, u.oneCell' = true) ∧ (∀ i u, css.flatten[i]? = some u → ∃ b o, a = some ⟨b, o, none⟩ ∧ W.cell? ⟨b, o + j + i, none⟩ = some u) ∧
      ∀ i (h : i < ts.length) (h' : i < css.length), Rep O W ts[i].dat css[i]
  | [], _, _, _ => ⟨[], rfl, by simp, by simp, by simp, fun i h => by simp at h⟩
  | t :: ts, a, j, h => by
    simp only [List.map_cons, RepE] at h
    obtain ⟨⟨b, o, cs, rfl, hb, hO, hl, hc, hr⟩, hrest⟩ := h
    obtain ⟨css, h1, h2, h3, h4, h5⟩ := row_cells2 ts _ (j + 2) hrest
    obtain ⟨f, l, a', cap', ht, hcs, _⟩ := sm_open hr
    refine ⟨cs :: css, by simp [h1], ?_, ?_, ?_, ?_⟩
    · intro x hx
      rcases List.mem_cons.1 hx with rfl | hx
      · exact hl
      · exact h2 x hx
    · intro u hu
      rw [List.flatten_cons, List.mem_append] at hu
      rcases hu with hu | hu
      · rw [hcs] at hu
        simp only [List.mem_cons, List.not_mem_nil, or_false] at hu
        rcases hu with rfl | rfl <;> rfl
      · exact h3 u hu
    · intro m u hu
      rw [List.flatten_cons] at hu
      by_cases hm : m < cs.length
      · rw [List.getElem?_append_left hm] at hu
        exact ⟨b, o, rfl, hc m u hu⟩
      · rw [List.getElem?_append_right (by omega)] at hu
        obtain ⟨b', o', e, hc'⟩ := h4 _ u hu
        cases e
        refine ⟨b, o, rfl, ?_⟩
        rw [show o + j + m = o + (j + 2) + (m - cs.length) by omega]
        exact hc'
    · intro m hm hm'
      cases m with
      | zero => exact hr
      | succ m => exact h5 m (by simpa using hm) (by simpa using hm')
/-- The value v is a row of its own, from base on, with these terms, whose arguments lie below, outside O. -/
def RowS2 (O : Nat → Prop) (base : Nat) (W : World) (v : Value) (ts : List Sm) (css : List (List Value)) : Prop :=
  css.length = ts.length ∧ (∀ cs ∈ css, cs.length = 2) ∧ W.ownsRow base 43 2 v ts.length css.flatten ∧ ∀ i (h : i < ts.length) (h' : i < css.length), Rep (fun b => O b ∨ base ≤ b) W ts[i].dat css[i]
theorem RowS2.keep {O : Nat → Prop} {base : Nat} {W W' : World} {v : Value} {ts : List Sm} {css : List (List Value)} {S : Nat → Prop} (h : RowS2 O base W v ts css) (hU : Upto S W W') (hS : ∀ b, S b → base ≤ b ∧ v.ownBlock ≠ some b) : RowS2 O base W' v ts css := by
  obtain ⟨h1, h2, h3, h4⟩ := h
  refine ⟨h1, h2, ⟨h3.1, ?_⟩, fun i h h' => Rep.keep hU (fun b hb => .inr (hS b hb).1) _ _ (h4 i h h')⟩
  rcases h3.2 with h5 | ⟨g, cap, cur, rfl, hb, hg, rest⟩
  · exact .inl h5
  · exact .inr ⟨g, cap, cur, rfl, hb, (hU.block g (Array.getElem?_eq_some_iff.1 hg).1 (fun e => (hS g e).2 rfl)).trans hg, rest⟩
theorem RowS2.on {O : Nat → Prop} {base : Nat} {W W' : World} {v : Value} {ts : List Sm} {css : List (List Value)} (h : RowS2 O base W v ts css) (hU : Upto none' W W') : RowS2 O base W' v ts css := h.keep hU (fun _ x => x.elim)
/-- Each cell of such a row. -/
theorem RowS2.cells {O : Nat → Prop} {base : Nat} {W : World} {v : Value} {ts : List Sm} {css : List (List Value)} (h : RowS2 O base W v ts css) : ∃ a cap, v = .slice a ts.length cap ∧ ts.length ≤ cap ∧
    ∀ i (hi : i < ts.length) (hi' : i < css.length), ∃ g, a = some ⟨g, 0, none⟩ ∧ v.ownBlock = some g ∧ base ≤ g ∧ g < W.heap.size ∧ (∀ o, W.frozen? ⟨g, o, none⟩ = false) ∧ ∀ m u, css[i][m]? = some u → W.cell? ⟨g, i * 2 + m, none⟩ = some u := by
  obtain ⟨h1, h2, h3, h4⟩ := h
  rcases h3.2 with ⟨rfl, h0⟩ | ⟨g, cap, cur, rfl, hb, hg, hnc, _⟩
  · exact ⟨none, 0, by rw [h0], by omega, fun i hi => by omega⟩
  · refine ⟨_, cap, rfl, hnc, fun i hi hi' => ⟨g, rfl, rfl, hb, (Array.getElem?_eq_some_iff.1 hg).1, fun o => by simp [World.frozen?, hg], fun m u hu => ?_⟩⟩
    have := h3.cells (g := g) rfl _ u ((flat2 css h2).2 i hi' m u hu)
    have hadd : (⟨g, 0, none⟩ : Addr).add (i * 2 + m) = ⟨g, i * 2 + m, none⟩ := by unfold Addr.add; split <;> simp_all
    rwa [hadd] at this
theorem RowS2.rep {O : Nat → Prop} {base : Nat} {W : World} {v : Value} {ts : List Sm} {css : List (List Value)} (h : RowS2 O base W v ts css) : ∃ a cap, v = .slice a ts.length cap ∧ ts.length ≤ cap ∧ RepE (fun b => (O b ∧ b < base) ∨ (base ≤ b ∧ v.ownBlock ≠ some b)) W 2 (ts.map Sm.dat) a 0 := by
  obtain ⟨a, cap, hv, hcap, hc⟩ := h.cells
  refine ⟨a, cap, hv, hcap, repE_of _ _ _ (fun i hi => ?_)⟩
  simp only [List.length_map] at hi
  have hi' : i < css.length := by have := h.1; omega
  obtain ⟨g, rfl, hown, hb, hlt, _, hg⟩ := hc i hi hi'
  refine ⟨g, 0, css[i], rfl, hlt, fun x => x.elim (fun y => by omega) (fun y => y.2 hown), h.2.1 _ (List.getElem_mem hi'), fun m u hu => ?_, ?_⟩
  · rw [show 0 + 0 + i * 2 + m = i * 2 + m by omega]
    exact hg m u hu
  · simp only [List.getElem_map]
    exact Rep.weaken (fun _ _ x => x.elim (fun y => .inl y.1) (fun y => .inr y.1)) _ _ (h.2.2.2 i hi hi')
theorem run_append_sms {w : World} {O : Nat → Prop} {base : Nat} {v : Value} {ts : List Sm} {css : List (List Value)} (hS : RowS2 O base w v ts css) (A : Option Addr) (m c : Nat) (us : List Sm) (hm : m = us.length)
    (hE : RepE (fun b => O b ∨ base ≤ b) w 2 (us.map Sm.dat) A 0) (hl : ts.length + us.length ≤ 900000) (hbase : base ≤ w.heap.size) (ty : TypeId) :
    ∃ v' w' css', (Builtin.append_ #[41, 41] ty #[v, .slice A m c]).run Tryd.prog w = .ok v' w' ∧ RowS2 O base w' v' (ts ++ us) css' ∧ w.grownBy w' v.ownBlock ∧ (v'.ownBlock = v.ownBlock ∨ v'.ownBlock = some w.heap.size) := by
  obtain ⟨i0, hi, hi0, hi1, hi2⟩ := info_parts info_simple
  obtain ⟨css2, r1, r2, r3, r4, r5⟩ := row_cells2 us A 0 hE
  have hflat := (flat2 css2 r2).1
  rw [r1, ← hm] at hflat
  have fin : ∀ (v' : Value) (w' : World), w'.ownsRow base 43 2 v' (ts.length + m) (css.flatten ++ css2.flatten) → w.grownBy w' v.ownBlock → RowS2 O base w' v' (ts ++ us) (css ++ css2) := by
    intro v' w' hown hg
    obtain ⟨h1, h2, h3, h4⟩ := hS
    have hcel : Cel (fun b => O b ∨ base ≤ b) w w' := ⟨hg.size, fun b o u hb hu => hg.cell hu (fun e => hb (.inr (h3.lt b e.symm).1))⟩
    refine ⟨by simp [h1, r1], ?_, by simpa [hm] using hown, fun i hi hi' => ?_⟩
    · intro x hx
      rcases List.mem_append.1 hx with hx | hx
      · exact h2 x hx
      · exact r2 x hx
    · by_cases hlt : i < ts.length
      · rw [List.getElem_append_left hlt, List.getElem_append_left (by omega)]
        exact Rep.carry hcel _ _ (h4 i hlt (by omega))
      · have hi2 : i - ts.length < us.length := by simp at hi; omega
        rw [List.getElem_append_right (by omega), List.getElem_append_right (by omega)]
        simp only [h1]
        exact Rep.carry hcel _ _ (r5 _ hi2 (by omega))
  rcases A with _ | ad
  · obtain rfl := repE_none2 hE
    have hm0 : m = 0 := by simpa using hm
    subst hm0
    obtain rfl : css2 = [] := by simpa using r1
    refine ⟨v, w, css, ?_, by simpa using hS, World.grownBy.refl w _, .inl rfl⟩
    have hu : Tryd.prog.underlying 41 = some (.slice 43) := by kernel_rfl
    rcases hS.2.2.1.2 with ⟨rfl, _⟩ | ⟨g, cap, cur, rfl, _, _, hnc, _⟩
    · simp [Builtin.append_, run_underlying hu, sizeOf, typeInfo, hi, Builtin.lenOf, Builtin.firstCells]
    · simp [Builtin.append_, run_underlying hu, sizeOf, typeInfo, hi, Builtin.lenOf, Builtin.firstCells, hnc, storeCells]
  · have hcells : ∀ j u, css2.flatten[j]? = some u → w.cell? (ad.add j) = some u := by
      intro j u hu
      obtain ⟨b', o', e, hc⟩ := r4 j u hu
      cases e
      have hadd : (⟨b', o', none⟩ : Addr).add j = ⟨b', o' + j, none⟩ := by unfold Addr.add; split <;> simp_all
      rw [hadd]
      simpa using hc
    obtain ⟨v', w', hrun, h2, h3, _, h5⟩ := run_append_own_at (P := Tryd.prog) w base 41 ty 43 i0 (.agg #[.string (B []), .slice none 0 0]) 2 40 (by kernel_rfl) hi hi0 hi1 hi2 rfl (by decide) v ts.length css.flatten hS.2.2.1 ad m c css2.flatten hflat hcells r3 (by simp only [maxLen]; omega) (by omega) hbase
    exact ⟨v', w', _, hrun, fin v' w' h2 h3, h3, h5⟩
/-- The law at a step of a region that draws its order. -/
theorem step_append_sms {w : World} {ops : Array Oper} {o : Oper} {a : Act} {K : Act → World → Prop} {Q : Exit → Act → World → Prop} {E : Prop} (hgd : o.guard = none) (s x : Operand)
    (ho : o.op = .call { callee := .builtin .append, args := #[s, x], argTypes := #[41, 41] }) {O : Nat → Prop} {base : Nat} {v : Value} {ts : List Sm} {css : List (List Value)} (hs : a.eval s = v) (hS : RowS2 O base w v ts css)
    (A : Option Addr) (m c : Nat) (us : List Sm) (hx : a.eval x = .slice A m c) (hm : m = us.length) (hE : RepE (fun b => O b ∨ base ≤ b) w 2 (us.map Sm.dat) A 0) (hl : ts.length + us.length ≤ 900000) (hbase : base ≤ w.heap.size)
    (h : ∀ v' w' css', RowS2 O base w' v' (ts ++ us) css' → w.grownBy w' v.ownBlock → (v'.ownBlock = v.ownBlock ∨ v'.ownBlock = some w.heap.size) → K (a.put o.dst v') w') :
    if Region.wanted o (yielded ops a.tmps) = true then Oper.wp Tryd.prog o a w K Q else E := by
  have hw : Region.wanted o (yielded ops a.tmps) = true := by simp [Region.wanted, hgd]
  rw [if_pos hw]
  obtain ⟨v', w', css', hrun, h1, h2, h3⟩ := run_append_sms hS A m c us hm hE hl hbase o.type
  unfold Oper.wp execOp
  simp only [ho, resolve, invoke, builtin, Sem.run_bind, Sem.run_pure, Result.andThen_ok, List.map_toArray, List.map_cons, List.map_nil, hs, hx, hrun]
  exact h v' w' css' h1 h2 h3
/-- A row of one that has just been laid. -/
theorem RowS2.one {O : Nat → Prop} {W : World} {t : Sm} {f : List UInt8} {a : Option Addr} {len cap : Nat} (hR : Rep O W t.dat [.string (B f), .slice a len cap]) :
    RowS2 O W.heap.size (W.alloc (.cells #[.string (B f), .slice a len cap] 43)) (.slice (some ⟨W.heap.size, 0, none⟩) 1 1) [t] [[.string (B f), .slice a len cap]] := by
  refine ⟨rfl, by simp, ⟨by simp, .inr ⟨_, _, _, rfl, Nat.le_refl _, heap_alloc_new W _, Nat.le_refl _, by simp only [maxLen]; omega, by simp, by simp⟩⟩, fun i h h' => ?_⟩
  obtain rfl : i = 0 := by simpa using h
  exact (Rep.fresh' _ _ hR).on ((Upto.refl none' W).alloc _)
end Go.Proofs.YtnhmogmpbgadiaaDoor
