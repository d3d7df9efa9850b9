/- Rows of terms that a call lays and appends to. -/
import Derived.Test.YtdcbgkmhlpkjiaaDoorRows2
import Derived.Deep.AppendLies
namespace Go.Proofs.YtdcbgkmhlpkjiaaDoor
open Go.RowKit Go.LF

theorem repE_of {O : Nat → Prop} {W : World} {wd : Nat} : ∀ (ds : List Dat) (a : Option Addr) (j : Nat),
    (∀ i (h : i < ds.length), ∃ b o cs, a = some ⟨b, o, none⟩ ∧ b < W.heap.size ∧ ¬ O b ∧ cs.length = wd ∧ (∀ m v, cs[m]? = some v → W.cell? ⟨b, o + j + i * wd + m, none⟩ = some v) ∧ Rep O W ds[i] cs) → RepE O W wd ds a j
  | [], _, _, _ => by simp only [RepE]
  | d :: ds, a, j, h => by
    simp only [RepE]
    refine ⟨?_, repE_of ds a (j + wd) (fun i hi => ?_)⟩
    · obtain ⟨b, o, cs, h1, h2, h3, h4, h5, h6⟩ := h 0 (by simp)
      exact ⟨b, o, cs, h1, h2, h3, h4, fun i v hv => by simpa using h5 i v hv, h6⟩
    · obtain ⟨b, o, cs, h1, h2, h3, h4, h5, h6⟩ := h (i + 1) (by simp; omega)
      refine ⟨b, o, cs, h1, h2, h3, h4, fun m v hv => ?_, h6⟩
      have := h5 m v hv
      rw [Nat.add_mul, Nat.one_mul] at this
      rw [show o + (j + wd) + i * wd + m = o + j + (i * wd + wd) + m by omega]
      exact this
theorem flat4 : ∀ (css : List (List Value)), (∀ cs ∈ css, cs.length = 4) → css.flatten.length = css.length * 4 ∧ ∀ i (h : i < css.length) m v, css[i][m]? = some v → css.flatten[i * 4 + m]? = some v
  | [], _ => ⟨rfl, fun i h => by simp at h⟩
  | c :: css, hl => by
    obtain ⟨h1, h2⟩ := flat4 css (fun cs hc => hl cs (by simp [hc]))
    have hc := hl c (by simp)
    refine ⟨by simp [h1, hc]; omega, fun i h m v hv => ?_⟩
    cases i with
    | zero =>
      simp only [List.getElem_cons_zero] at hv
      have hm : m < c.length := (List.getElem?_eq_some_iff.1 hv).1
      simp only [List.flatten_cons, Nat.zero_mul, Nat.zero_add]
      rw [List.getElem?_append_left hm]
      exact hv
    | succ i =>
      simp only [List.getElem_cons_succ] at hv
      simp only [List.flatten_cons]
      rw [List.getElem?_append_right (by rw [hc, Nat.add_mul]; omega), hc, show (i + 1) * 4 + m - 4 = i * 4 + m by omega]
      exact h2 i (by simpa using h) m v hv

/-- The value v is a row of its own, from base on, with these terms; all of them lie in other blocks from base on. -/
def Terms (base : Nat) (W : World) (v : Value) (ts : List Tm) (css : List (List Value)) : Prop :=
  css.length = ts.length ∧ (∀ cs ∈ css, cs.length = 4) ∧ W.ownsRow base 25 4 v ts.length css.flatten ∧
    ∀ i (h : i < ts.length) (h' : i < css.length), Rep (fun b => b < base ∨ v.ownBlock = some b) W ts[i].dat css[i]
theorem Terms.nil (base : Nat) (W : World) : Terms base W (.slice none 0 0) [] [] := ⟨rfl, by simp, World.ownsRow_nil _ _ _ _, fun i h => by simp at h⟩
theorem Terms.keep {base : Nat} {W W' : World} {v : Value} {ts : List Tm} {css : List (List Value)} {S : Nat → Prop} (h : Terms base W v ts css) (hU : Upto S W W') (hS : ∀ b, S b → b < base) : Terms base W' v ts css := by
  obtain ⟨h1, h2, h3, h4⟩ := h
  refine ⟨h1, h2, ⟨h3.1, ?_⟩, fun i h h' => Rep.keep hU (fun b hb => .inl (hS b hb)) _ _ (h4 i h h')⟩
  rcases h3.2 with h5 | ⟨g, cap, cur, rfl, hb, hg, rest⟩
  · exact .inl h5
  · exact .inr ⟨g, cap, cur, rfl, hb, (hU.block g (Array.getElem?_eq_some_iff.1 hg).1 (fun e => by have := hS g e; omega)).trans hg, rest⟩
theorem Terms.on {base : Nat} {W W' : World} {v : Value} {ts : List Tm} {css : List (List Value)} (h : Terms base W v ts css) (hU : Upto none' W W') : Terms base W' v ts css := h.keep hU (fun _ x => x.elim)
theorem Terms.rep {base : Nat} {W : World} {v : Value} {ts : List Tm} {css : List (List Value)} (h : Terms base W v ts css) : ∃ a cap, v = .slice a ts.length cap ∧ ts.length ≤ cap ∧ RepE (fun b => b < base) W 4 (ts.map Tm.dat) a 0 := by
  obtain ⟨h1, h2, h3, h4⟩ := h
  rcases h3.2 with ⟨rfl, h0⟩ | ⟨g, cap, cur, rfl, hb, hg, hnc, _⟩
  · obtain rfl : ts = [] := List.eq_nil_of_length_eq_zero h0
    exact ⟨none, 0, rfl, Nat.le_refl _, by simp only [List.map_nil, RepE]⟩
  · refine ⟨_, cap, rfl, hnc, repE_of _ _ _ (fun i hi => ?_)⟩
    simp only [List.length_map] at hi
    have hi' : i < css.length := by omega
    refine ⟨g, 0, css[i], rfl, (Array.getElem?_eq_some_iff.1 hg).1, by omega, h2 _ (List.getElem_mem hi'), fun m u hu => ?_, ?_⟩
    · have := h3.cells (g := g) rfl _ u ((flat4 css h2).2 i hi' m u hu)
      have hadd : (⟨g, 0, none⟩ : Addr).add (i * 4 + m) = ⟨g, i * 4 + m, none⟩ := by unfold Addr.add; split <;> simp_all
      rw [hadd] at this
      rw [show 0 + 0 + i * 4 + m = i * 4 + m by omega]
      exact this
    · simp only [List.getElem_map]
      exact Rep.weaken (fun b _ e => .inl e) _ _ (h4 i hi hi')
/-- One term more. -/
theorem Terms.appended {base : Nat} {W w' : World} {v : Value} {ts : List Tm} {css : List (List Value)} {t : Tm} {cs : List Value} {g cap H : Nat} (h : Terms base W v ts css) (hcs : cs.length = 4)
    (hr : Rep (fun b => b < base ∨ v.ownBlock = some b) W t.dat cs) (hown : w'.ownsRow base 25 4 (.slice (some ⟨g, 0, none⟩) (ts.length + 1) cap) (ts.length + 1) (css.flatten ++ cs)) (hg : W.grownBy w' v.ownBlock)
    (hat : v.ownBlock = some g ∨ g = H) (hH : W.heap.size ≤ H) : Terms base w' (.slice (some ⟨g, 0, none⟩) (ts.length + 1) cap) (ts ++ [t]) (css ++ [cs]) := by
  obtain ⟨h1, h2, h3, h4⟩ := h
  have hcel : Cel (fun b => (b < base ∨ v.ownBlock = some b) ∨ W.heap.size ≤ b) W w' := by
    refine ⟨hg.size, fun b o u hb hu => hg.cell hu (fun e => hb (.inl (.inr ?_)))⟩
    exact e.symm
  have key : ∀ (d : Dat) (cs : List Value), Rep (fun b => b < base ∨ v.ownBlock = some b) W d cs → Rep (fun b => b < base ∨ (Value.slice (some ⟨g, 0, none⟩) (ts.length + 1) cap).ownBlock = some b) w' d cs := by
    intro d cs h
    refine Rep.weaken (fun b _ e => ?_) _ _ (Rep.carry hcel _ _ (Rep.freshO h))
    rcases e with e | e
    · exact .inl (.inl e)
    · simp only [Value.ownBlock, Option.some.injEq] at e
      subst e
      rcases hat with hat | rfl
      · exact .inl (.inr hat)
      · exact .inr hH
  refine ⟨by simp [h1], ?_, by simpa using hown, fun i hi hi' => ?_⟩
  · intro c hc
    rcases List.mem_append.1 hc with hc | hc
    · exact h2 c hc
    · obtain rfl : c = cs := by simpa using hc
      exact hcs
  · by_cases hlt : i < ts.length
    · have hlt' : i < css.length := by omega
      rw [List.getElem_append_left hlt, List.getElem_append_left hlt']
      exact key _ _ (h4 i hlt hlt')
    · have e1 : i = ts.length := by simp at hi; omega
      subst e1
      rw [List.getElem_append_right (Nat.le_refl _), List.getElem_append_right (by omega)]
      simp only [h1, Nat.sub_self, List.getElem_cons_zero]
      exact key _ _ hr

theorem Box4.set0 {W : World} {g : Nat} {c0 c1 c2 c3 : Value} {T : TypeId} (h : Box4 W g c0 c1 c2 c3 T) (v : Value) : Box4 (W.setCell ⟨g, 0, none⟩ v) g v c1 c2 c3 T := by
  obtain ⟨hlt, hk⟩ := Array.getElem?_eq_some_iff.1 h
  show (W.heap.modify g _)[g]? = _
  rw [Array.getElem?_eq_getElem (by rw [Array.size_modify]; exact hlt), Array.getElem_modify_self, hk]
  rfl
theorem Box4.set1 {W : World} {g : Nat} {c0 c1 c2 c3 : Value} {T : TypeId} (h : Box4 W g c0 c1 c2 c3 T) (v : Value) : Box4 (W.setCell ⟨g, 1, none⟩ v) g c0 v c2 c3 T := by
  obtain ⟨hlt, hk⟩ := Array.getElem?_eq_some_iff.1 h
  show (W.heap.modify g _)[g]? = _
  rw [Array.getElem?_eq_getElem (by rw [Array.size_modify]; exact hlt), Array.getElem_modify_self, hk]
  rfl
theorem Box4.set2 {W : World} {g : Nat} {c0 c1 c2 c3 : Value} {T : TypeId} (h : Box4 W g c0 c1 c2 c3 T) (v : Value) : Box4 (W.setCell ⟨g, 2, none⟩ v) g c0 c1 v c3 T := by
  obtain ⟨hlt, hk⟩ := Array.getElem?_eq_some_iff.1 h
  show (W.heap.modify g _)[g]? = _
  rw [Array.getElem?_eq_getElem (by rw [Array.size_modify]; exact hlt), Array.getElem_modify_self, hk]
  rfl
theorem Box4.set3 {W : World} {g : Nat} {c0 c1 c2 c3 : Value} {T : TypeId} (h : Box4 W g c0 c1 c2 c3 T) (v : Value) : Box4 (W.setCell ⟨g, 3, none⟩ v) g c0 c1 c2 v T := by
  obtain ⟨hlt, hk⟩ := Array.getElem?_eq_some_iff.1 h
  show (W.heap.modify g _)[g]? = _
  rw [Array.getElem?_eq_getElem (by rw [Array.size_modify]; exact hlt), Array.getElem_modify_self, hk]
  rfl
theorem Box4.other {W : World} {g b o : Nat} {c0 c1 c2 c3 : Value} {T : TypeId} (h : Box4 W g c0 c1 c2 c3 T) (hb : g ≠ b) (v : Value) : Box4 (W.setCell ⟨b, o, none⟩ v) g c0 c1 c2 c3 T :=
  (Below.heap_setCell _ _ _ _ hb).trans h
theorem Box4.frozen {W : World} {g : Nat} {c0 c1 c2 c3 : Value} {T : TypeId} (h : Box4 W g c0 c1 c2 c3 T) (j : Nat) : W.frozen? ⟨g, j, none⟩ = false := by
  unfold Box4 at h
  simp [World.frozen?, h]
theorem Box4.frozens {W : World} {g : Nat} {c0 c1 c2 c3 : Value} {T : TypeId} (h : Box4 W g c0 c1 c2 c3 T) :
    W.frozen? ⟨g, 0, none⟩ = false ∧ W.frozen? ⟨g, 1, none⟩ = false ∧ W.frozen? ⟨g, 2, none⟩ = false ∧ W.frozen? ⟨g, 3, none⟩ = false := ⟨h.frozen 0, h.frozen 1, h.frozen 2, h.frozen 3⟩
theorem Box4.keep {W W' : World} {S : Nat → Prop} {g : Nat} {c0 c1 c2 c3 : Value} {T : TypeId} (h : Box4 W g c0 c1 c2 c3 T) (hU : Upto S W W') (hS : ¬ S g) : Box4 W' g c0 c1 c2 c3 T :=
  (hU.block g (Array.getElem?_eq_some_iff.1 h).1 hS).trans h
theorem Box4.lt {W : World} {g : Nat} {c0 c1 c2 c3 : Value} {T : TypeId} (h : Box4 W g c0 c1 c2 c3 T) : g < W.heap.size := (Array.getElem?_eq_some_iff.1 h).1

/-- A box that lies below the row's base. -/
theorem Box4.row {W W' : World} {g base : Nat} {c0 c1 c2 c3 : Value} {T : TypeId} {v : Value} {ts : List Tm} {css : List (List Value)} (h : Box4 W g c0 c1 c2 c3 T) (hg : W.grownBy W' v.ownBlock) (ht : Terms base W v ts css) (hb : g < base) : Box4 W' g c0 c1 c2 c3 T :=
  (hg.block g h.lt (fun e => by have := (ht.2.2.1.lt g e.symm).1; omega)).trans h
end Go.Proofs.YtdcbgkmhlpkjiaaDoor
