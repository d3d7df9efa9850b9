/- What the lists of numbers (of names) in terms share: the blocks that may change while an iterator runs. -/
import Derived.Test.YtdcbgkmhlpkjiaaDoorTermOccurs
import Derived.Test.YtdcbgkmhlpkjiaaDoorSeen
import Derived.Test.YtdcbgkmhlpkjiaaDoorFirsts
import Derived.Maps.OwnIn
import Derived.Deep.Onto
namespace Go.Proofs.YtdcbgkmhlpkjiaaDoor
open Go.RowKit Go.LF Go.Shelf

/-- From n0 on: all but the boxes that the iterator lays. -/
def Bad (n0 : Nat) (W : World) (b : Nat) : Prop := n0 ≤ b ∧ ¬ ∃ cur T fr, NodeT T ∧ W.heap[b]? = some (.cells cur T fr)
theorem bad_heap {n0 : Nat} {W W' : World} {b : Nat} (h : W'.heap[b]? = W.heap[b]?) (hn : ¬ Bad n0 W b) : ¬ Bad n0 W' b := by
  unfold Bad at *
  rw [h]
  exact hn
theorem bad_fresh (n0 H0 : Nat) : Fresh (Bad n0) H0 NodeT := by
  refine ⟨fun W cs T hT _ hb => hb.2 ⟨cs, T, _, hT, heap_alloc_new W _⟩, fun W o b hb hn => bad_heap (heap_alloc_old W o b hb) hn⟩
theorem bad_grown {n0 : Nat} {W W' : World} {row : Option Nat} (hg : W.grownBy W' row) (hr : ∀ r, row = some r → Bad n0 W r) : CelW (Bad n0) W W' := by
  refine ⟨hg.size, fun b hb hn => ?_⟩
  have hne : some b ≠ row := fun e => hn (hr b e.symm)
  exact ⟨bad_heap (hg.block b hb hne) hn, fun o v hv => (World.cell?_of_block (a := ⟨b, o, none⟩) (hg.block b hb hne)).trans hv⟩
theorem bad_put {n0 : Nat} (W : World) (l : Nat) (o o' : Obj) (hl : n0 ≤ l) (ho : W.heap[l]? = some o) (hc : o.isCells = false) : CelW (Bad n0) W (W.putObj l o') := by
  refine bad_grown (grownBy_putObj' W l o') (fun r e => ?_)
  cases e
  refine ⟨hl, ?_⟩
  rintro ⟨cur, T, fr, _, h⟩
  rw [ho] at h
  cases h
  cases hc
theorem bad_of_type {n0 : Nat} {W : World} {b : Nat} {cur : Array Value} {T : TypeId} {fr : Nat × Nat} (hb : n0 ≤ b) (h : W.heap[b]? = some (.cells cur T fr)) (hT : ¬ NodeT T) : Bad n0 W b := by
  refine ⟨hb, ?_⟩
  rintro ⟨cur', T', fr', hT', h'⟩
  rw [h] at h'
  cases h'
  exact hT hT'
theorem bad_row {n0 : Nat} {W : World} {base e size k : Nat} {v : Value} {xs : List Value} (h : W.ownsRow base e size v k xs) (hb : n0 ≤ base) (hT : ¬ NodeT e) : ∀ r, v.ownBlock = some r → Bad n0 W r := by
  intro r hr
  rcases h.2 with ⟨rfl, _⟩ | ⟨g, cap, cur, rfl, hbg, hgb, _⟩
  · simp [Value.ownBlock] at hr
  · obtain rfl : g = r := by simpa [Value.ownBlock] using hr
    exact bad_of_type (by omega) hgb hT
theorem upto_grown {w w' : World} (h : Upto none' w w') : w.grownBy w' none := ⟨h.os, h.tape, h.output, h.size, fun k hk _ => h.block k hk (fun x => x)⟩
/-- A slice's own row is no map. -/
theorem row_ne_map {W : World} {base e size k m : Nat} {v : Value} {xs ks : List Value} (h : W.ownsRow base e size v k xs) (hS : Seen W m ks) : v.ownBlock ≠ some m := by
  rcases h.2 with ⟨rfl, _⟩ | ⟨g, cap, cur, rfl, _, hgb, _⟩
  · simp [Value.ownBlock]
  · obtain ⟨es, clock, h1, _⟩ := hS
    intro e
    obtain rfl : g = m := by simpa [Value.ownBlock] using e
    rw [hgb] at h1
    cases h1
theorem cell_grown {W W' : World} {row : Option Nat} {b o : Nat} {v : Value} (h : W.cell? ⟨b, o, none⟩ = some v) (hg : W.grownBy W' row) (hr : ∀ r, row = some r → r ≠ b) : W'.cell? ⟨b, o, none⟩ = some v :=
  hg.cell h (fun e => hr b e.symm rfl)
end Go.Proofs.YtdcbgkmhlpkjiaaDoor
