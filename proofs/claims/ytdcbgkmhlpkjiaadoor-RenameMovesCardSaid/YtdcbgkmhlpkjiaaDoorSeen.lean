/- A set that a call keeps: a map to true. -/
import Derived.Test.YtdcbgkmhlpkjiaaDoorBox
import Derived.MapKept
import Derived.Maps.Keyed
namespace Go.LF
open Go.RowKit Go.MapKept

/-- The map at block m has just these keys, each with true. -/
def Seen (W : World) (m : Nat) (ks : List Value) : Prop := ∃ es clock, W.heap[m]? = some (.map es clock) ∧ es.toList.map (·.key) = ks ∧ ∀ e ∈ es.toList, e.val = .bool true

variable {P : Program} {W : World} {mt kt bt : TypeId} {d : TypeDesc} {m : Nat} {ks : List Value} {key : Value}

theorem Seen.made (W : World) : Seen (W.alloc (.map #[] 0)) W.heap.size [] := ⟨#[], 0, heap_alloc_new W _, rfl, by simp⟩
theorem Seen.kept {W' : World} {row : Option Nat} (h : Seen W m ks) (hg : W.grownBy W' row) (hr : some m ≠ row) : Seen W' m ks := by
  obtain ⟨es, clock, h1, h2, h3⟩ := h
  exact ⟨es, clock, (hg.block m (Array.getElem?_eq_some_iff.1 h1).1 hr).trans h1, h2, h3⟩

theorem Seen.lookup (hm : P.underlying mt = some (.map kt bt)) (hk : P.underlying kt = some d) (hb : (zeroValue bt).run P W = .ok (.bool false) W) (hS : Seen W m ks)
    (hks : ∀ k ∈ ks, IsKey d k) (hkey : IsKey d key) (b : Bool) (hbk : b = true ↔ key ∈ ks) : (Instr.lookup mt (.map (some m)) key false).run P W = .ok (.bool b) W := by
  obtain ⟨es, clock, h1, h2, h3⟩ := hS
  have hes : ∀ x ∈ es.toList, IsKey d x.key := fun x hx => hks _ (by rw [← h2]; exact List.mem_map_of_mem hx)
  rcases findNow_spec hkey es.toList 0 hes with ⟨f1, f2⟩ | ⟨j, e, f1, f2, f3⟩
  · have hbf : b = false := by
      rw [← Bool.not_eq_true, hbk, ← h2]
      intro h
      obtain ⟨x, hx, hxk⟩ := List.mem_map.1 h
      exact f2 x hx hxk
    subst hbf
    simp [Instr.lookup, run_underlying hm, MapKept.run_getObj_map h1, run_checkKey hk hkey, run_findKey hk f1, hb, Result.andThen]
  · have he : e ∈ es.toList := List.mem_of_getElem? f2
    have hbt : b = true := by
      rw [hbk, ← h2]
      exact List.mem_map.2 ⟨e, he, f3⟩
    subst hbt
    simp [Instr.lookup, run_underlying hm, MapKept.run_getObj_map h1, run_checkKey hk hkey, run_findKey hk f1, h3 e he, Result.andThen]

theorem Seen.store (hm : P.underlying mt = some (.map kt bt)) (hk : P.underlying kt = some d) (hS : Seen W m ks)
    (hks : ∀ k ∈ ks, IsKey d k) (hkey : IsKey d key) (hn : key ∉ ks) : ∃ W', (Instr.mapUpdate mt (.map (some m)) key (.bool true)).run P W = .ok () W' ∧ Seen W' m (ks ++ [key]) ∧ W.grownBy W' (some m) ∧ W.heap.size ≤ W'.heap.size := by
  obtain ⟨es, clock, h1, h2, h3⟩ := hS
  have hes : ∀ x ∈ es.toList, IsKey d x.key := fun x hx => hks _ (by rw [← h2]; exact List.mem_map_of_mem hx)
  rcases findNow_spec hkey es.toList 0 hes with ⟨f1, f2⟩ | ⟨j, e, f1, f2, f3⟩
  · refine ⟨{ W with heap := W.heap.setIfInBounds m (.map (es.push { key, val := .bool true, born := clock }) (clock + 1)) }, ?_, ⟨_, _, (heap_set h1).1, ?_, ?_⟩, ⟨rfl, rfl, rfl, by simp, fun k _ hne => ?_⟩, by simp⟩
    · simp [Instr.mapUpdate, run_underlying hm, MapKept.run_getObj_map h1, run_checkKey hk hkey, run_findKey hk f1, run_setObj_map _ h1, Result.andThen]
    · simp [h2]
    · intro x hx
      simp only [Array.toList_push, List.mem_append, List.mem_singleton] at hx
      rcases hx with hx | rfl
      · exact h3 x hx
      · rfl
    · exact (heap_set h1).2 k (fun e => hne (by rw [e]))
  · exact absurd (by rw [← h2]; exact List.mem_map.2 ⟨e, List.mem_of_getElem? f2, f3⟩) hn
end Go.LF
