/- Rows that a call appends to: what may change. And lists of numbers and names as data. -/
import Derived.Test.YtdcbgkmhlpkjiaaDoorTermMetas
namespace Go.Proofs.YtdcbgkmhlpkjiaaDoor
open Go.RowKit Go.LF

/-- But rows of the type T from base on, all is as it was; new blocks may be there. -/
structure RowUp (T : TypeId) (base : Nat) (w w' : World) : Prop where
  os : w'.os = w.os
  tape : w'.tape = w.tape
  output : w'.output = w.output
  size : w.heap.size ≤ w'.heap.size
  block : ∀ k, k < w.heap.size → (base ≤ k → ¬ ∃ cur fr, w.heap[k]? = some (.cells cur T fr)) → w'.heap[k]? = w.heap[k]?
section
variable {T : TypeId} {base : Nat} {a b c w w' : World}
theorem RowUp.refl (T : TypeId) (base : Nat) (w : World) : RowUp T base w w := ⟨rfl, rfl, rfl, Nat.le_refl _, fun _ _ _ => rfl⟩
theorem RowUp.trans (h : RowUp T base a b) (k : RowUp T base b c) : RowUp T base a c := by
  refine ⟨k.os.trans h.os, k.tape.trans h.tape, k.output.trans h.output, Nat.le_trans h.size k.size, fun i hi hn => ?_⟩
  have h1 := h.block i hi hn
  exact (k.block i (Nat.lt_of_lt_of_le hi h.size) (by rw [h1]; exact hn)).trans h1
theorem RowUp.of (h : Upto none' a b) : RowUp T base a b := ⟨h.os, h.tape, h.output, h.size, fun k hk _ => h.block k hk (fun x => x)⟩
theorem RowUp.on (h : RowUp T base a b) (k : Upto none' b c) : RowUp T base a c := h.trans (RowUp.of k)
theorem RowUp.alloc (h : RowUp T base a b) (o : Obj) : RowUp T base a (b.alloc o) := h.on ((Upto.refl none' b).alloc o)
theorem RowUp.grown {size n : Nat} {v : Value} {xs : List Value} (hr : w.ownsRow base T size v n xs) (hg : w.grownBy w' v.ownBlock) : RowUp T base w w' := by
  refine ⟨hg.os, hg.tape, hg.output, hg.size, fun k hk hn => hg.block k hk (fun e => ?_)⟩
  rcases hr.2 with ⟨rfl, _⟩ | ⟨g, cap, cur, rfl, hb, hgb, _⟩
  · simp [Value.ownBlock] at e
  · obtain rfl : k = g := by simpa [Value.ownBlock] using e
    exact hn hb ⟨_, _, hgb⟩
theorem RowUp.upto (h : RowUp T base a b) (hb : a.heap.size ≤ base) : Upto none' a b := ⟨h.os, h.tape, h.output, h.size, fun k hk _ => h.block k hk (fun e => by omega)⟩
/-- A block of another type. -/
theorem RowUp.other (h : RowUp T base a b) {g : Nat} {cur : Array Value} {T' : TypeId} {fr : Nat × Nat} (hg : a.heap[g]? = some (.cells cur T' fr)) (hT : T' ≠ T) : b.heap[g]? = some (.cells cur T' fr) := by
  rw [h.block g (Array.getElem?_eq_some_iff.1 hg).1 (fun _ => ?_)]
  · exact hg
  · rintro ⟨c, f, e⟩
    rw [hg] at e
    cases e
    exact hT rfl
theorem RowUp.cel (h : RowUp T base a b) : Cel (fun b => base ≤ b) a b :=
  ⟨h.size, fun x o v hx hv => (World.cell?_of_block (a := ⟨x, o, none⟩) (h.block x (by simpa using World.block_lt_of_cell? a _ hv) (fun e => absurd e hx))).trans hv⟩
end

/-- A box with four cells, as an object. -/
def Box4 (W : World) (g : Nat) (c0 c1 c2 c3 : Value) (T : TypeId) : Prop := W.heap[g]? = some (.cells #[c0, c1, c2, c3] T (0, 0))
theorem Box4.new (W : World) (c0 c1 c2 c3 : Value) (T : TypeId) : Box4 (W.alloc (.cells #[c0, c1, c2, c3] T)) W.heap.size c0 c1 c2 c3 T := heap_alloc_new W _
theorem Box4.up {a b : World} {U : TypeId} {base g : Nat} {c0 c1 c2 c3 : Value} {T : TypeId} (h : Box4 a g c0 c1 c2 c3 T) (hu : RowUp U base a b) (hT : T ≠ U) : Box4 b g c0 c1 c2 c3 T := hu.other h hT
theorem Box4.cells {W : World} {g : Nat} {c0 c1 c2 c3 : Value} {T : TypeId} (h : Box4 W g c0 c1 c2 c3 T) :
    W.cell? ⟨g, 0, none⟩ = some c0 ∧ W.cell? ⟨g, 1, none⟩ = some c1 ∧ W.cell? ⟨g, 2, none⟩ = some c2 ∧ W.cell? ⟨g, 3, none⟩ = some c3 := by
  unfold Box4 at h
  refine ⟨?_, ?_, ?_, ?_⟩ <;> simp [World.cell?, h]
theorem Box4.kept {W W' : World} {g : Nat} {c0 c1 c2 c3 : Value} {T : TypeId} (h : Box4 W g c0 c1 c2 c3 T) (hu : Upto none' W W') : Box4 W' g c0 c1 c2 c3 T :=
  (hu.block g (Array.getElem?_eq_some_iff.1 h).1 (fun x => x)).trans h

theorem own_none (v : Value) : v.ownBlock = none ∨ v.ownBlock ≠ none := by cases v.ownBlock <;> simp
/-- A list of numbers, as data. -/
abbrev intsD (l : List Int) : Dat := .seq 1 (l.map (Dat.int .i64))
abbrev strsD (l : List (List UInt8)) : Dat := .seq 1 (l.map fun s => Dat.str (B s))
theorem rowCell {W : World} {base : Nat} {T : TypeId} {v : Value} {xs : List Value} (h : W.ownsRow base T 1 v xs.length xs) : ∃ a cap, v = .slice a xs.length cap ∧ xs.length ≤ cap ∧ ∀ i (hi : i < xs.length), ∃ b, a = some ⟨b, 0, none⟩ ∧ b < W.heap.size ∧ base ≤ b ∧ W.cell? ⟨b, i, none⟩ = some xs[i] := by
  rcases h.2 with ⟨rfl, h0⟩ | ⟨g, cap, cur, rfl, hb, hg, hnc, _, _, _⟩
  · exact ⟨none, 0, by rw [h0], by omega, fun i hi => by omega⟩
  · refine ⟨_, cap, rfl, hnc, fun i hi => ⟨g, rfl, (Array.getElem?_eq_some_iff.1 hg).1, hb, ?_⟩⟩
    have := h.cells (g := g) rfl i xs[i] (by simp)
    have hadd : (⟨g, 0, none⟩ : Addr).add i = ⟨g, i, none⟩ := by unfold Addr.add; split <;> simp_all
    rwa [hadd] at this
theorem repE_row {α : Type} {O : Nat → Prop} {W : World} {D : α → Dat} {V : α → Value} (hD : ∀ x, Rep O W (D x) [V x]) : ∀ (l : List α) (a : Option Addr) (j : Nat),
    (∀ i (hi : i < l.length), ∃ b, a = some ⟨b, 0, none⟩ ∧ b < W.heap.size ∧ ¬ O b ∧ W.cell? ⟨b, j + i, none⟩ = some (V l[i])) → RepE O W 1 (l.map D) a j
  | [], _, _, _ => by simp only [List.map_nil, RepE]
  | x :: l, a, j, h => by
    simp only [List.map_cons, RepE]
    refine ⟨?_, repE_row hD l a (j + 1) (fun i hi => ?_)⟩
    · obtain ⟨b, h1, h2, h3, h4⟩ := h 0 (by simp)
      refine ⟨b, 0, [V x], h1, h2, h3, rfl, fun i v hv => ?_, hD x⟩
      cases i with
      | zero =>
        cases hv
        have e : 0 + j + 0 = j + 0 := by omega
        rw [e]
        exact h4
      | succ i => simp at hv
    · obtain ⟨b, h1, h2, h3, h4⟩ := h (i + 1) (by simp; omega)
      refine ⟨b, h1, h2, h3, ?_⟩
      rw [show j + 1 + i = j + (i + 1) by omega]
      exact h4
theorem Ints.rep {base : Nat} {W : World} {v : Value} {l : List Int} (h : Ints base W v l) : Rep (fun b => b < base) W (intsD l) [v] := by
  obtain ⟨a, cap, h1, h2, h3⟩ := rowCell (by simpa [Ints] using h : W.ownsRow base 3 1 v (l.map (Value.int .i64)).length (l.map (Value.int .i64)))
  simp only [List.length_map] at h1 h2 h3
  simp only [Rep]
  refine ⟨a, cap, by simp [h1], by simpa using h2, repE_row (V := Value.int .i64) (fun x => by simp [Rep]) l a 0 (fun i hi => ?_)⟩
  obtain ⟨b, g1, g2, g3, g4⟩ := h3 i hi
  exact ⟨b, g1, g2, by omega, by simpa using g4⟩
theorem Strs.rep {base : Nat} {W : World} {v : Value} {l : List (List UInt8)} (h : Strs base W v l) : Rep (fun b => b < base) W (strsD l) [v] := by
  obtain ⟨a, cap, h1, h2, h3⟩ := rowCell (by simpa [Strs] using h : W.ownsRow base 9 1 v (l.map fun l => Value.string (B l)).length (l.map fun l => Value.string (B l)))
  simp only [List.length_map] at h1 h2 h3
  simp only [Rep]
  refine ⟨a, cap, by simp [h1], by simpa using h2, repE_row (V := fun l => Value.string (B l)) (fun x => by simp [Rep]) l a 0 (fun i hi => ?_)⟩
  obtain ⟨b, g1, g2, g3, g4⟩ := h3 i hi
  exact ⟨b, g1, g2, by omega, by simpa using g4⟩
/-- A list of numbers in memory: its value, and each of its cells. -/
theorem ints_open {O : Nat → Prop} {W : World} {l : List Int} {v : Value} (h : Rep O W (intsD l) [v]) : ∃ a cap, v = .slice a l.length cap ∧ l.length ≤ cap ∧ RepE O W 1 (l.map (Dat.int .i64)) a 0 := by
  simp only [Rep] at h
  obtain ⟨a, cap, h1, h2, h3⟩ := h
  exact ⟨a, cap, by simpa using h1, by simpa using h2, h3⟩
theorem int_cell {O : Nat → Prop} {W : World} {l : List Int} {a : Option Addr} (h : RepE O W 1 (l.map (Dat.int .i64)) a 0) (i : Nat) (hi : i < l.length) :
    ∃ b o, a = some ⟨b, o, none⟩ ∧ b < W.heap.size ∧ ¬ O b ∧ W.cell? ⟨b, o + i, none⟩ = some (.int .i64 l[i]) := by
  obtain ⟨b, o, cs, h1, h2, h3, h4, h5, h6⟩ := h.get i (by simpa using hi)
  simp only [List.getElem_map, Rep] at h6
  subst h6
  exact ⟨b, o, h1, h2, h3, by simpa using h5 0 _ rfl⟩
theorem strs_open {O : Nat → Prop} {W : World} {l : List (List UInt8)} {v : Value} (h : Rep O W (strsD l) [v]) : ∃ a cap, v = .slice a l.length cap ∧ l.length ≤ cap ∧ RepE O W 1 (l.map fun s => Dat.str (B s)) a 0 := by
  simp only [Rep] at h
  obtain ⟨a, cap, h1, h2, h3⟩ := h
  exact ⟨a, cap, by simpa using h1, by simpa using h2, h3⟩
theorem str_cell {O : Nat → Prop} {W : World} {l : List (List UInt8)} {a : Option Addr} (h : RepE O W 1 (l.map fun s => Dat.str (B s)) a 0) (i : Nat) (hi : i < l.length) :
    ∃ b o, a = some ⟨b, o, none⟩ ∧ b < W.heap.size ∧ ¬ O b ∧ W.cell? ⟨b, o + i, none⟩ = some (.string (B l[i])) := by
  obtain ⟨b, o, cs, h1, h2, h3, h4, h5, h6⟩ := h.get i (by simpa using hi)
  simp only [List.getElem_map, Rep] at h6
  subst h6
  exact ⟨b, o, h1, h2, h3, by simpa using h5 0 _ rfl⟩
end Go.Proofs.YtdcbgkmhlpkjiaaDoor
