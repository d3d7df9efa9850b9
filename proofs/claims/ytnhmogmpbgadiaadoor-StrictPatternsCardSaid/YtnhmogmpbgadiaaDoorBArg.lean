/- An argument of type []bool. -/
import Derived.Test.YtnhmogmpbgadiaaDoorCH
import Derived.Deep.Grids
namespace Go.Proofs.YtnhmogmpbgadiaaDoor
open Go.ChangeShapes Go.WideShapes Go.ChangeAt Go.RowKit Go.LF
theorem cells_bool : Tryd.prog.cellsOf 4 = 1 := by kernel_rfl
theorem bytes_bool : Tryd.prog.bytesOf 4 = 1 := by kernel_rfl
theorem bools_arg {H : Type} {enc : TypeId × Value → H} {W : World} {a0 : Option Addr} {len cap : Nat} {d : DataW H} {p : List MemPlace} {ts : List TypeId} {ds : List (DataW H)} {j : Nat}
    (hj : DataW.Trod enc Tryd.prog W 0 (fun _ => true) true 32 (Value.slice a0 len cap) d p) (hsz : (DataW.weightsEach Tryd.prog ts ds).all (· ≤ reachBytes) = true) (ht : ts[j]? = some 32) (hd : ds[j]? = some d) :
    ∃ l : List Bool, l.length = len ∧ len ≤ 281474976710656 ∧ RepE none' W 1 (l.map Dat.bool) a0 0 := by
  obtain ⟨fuel, hf⟩ := hj
  rcases Go.Deep.open_bools Tryd.underlying32 Tryd.underlying4 cells_bool hf with ⟨hcs, hx⟩ | ⟨a, len', cap', Z, hcs, _, hl, hm, hx, hcell⟩
  · simp [Value.cells] at hcs
    obtain ⟨rfl, rfl, rfl⟩ := hcs
    exact ⟨[], rfl, by omega, by simp only [List.map_nil, RepE]⟩
  · simp [Value.cells] at hcs
    obtain ⟨rfl, rfl, rfl⟩ := hcs
    simp only [Go.Deep.boolRow, Prod.mk.injEq] at hx
    obtain ⟨rfl, rfl⟩ := hx
    have hw := sized_slice hsz ht hd Tryd.underlying32
    rw [bytes_bool] at hw
    simp only [List.length_map, List.length_range, reachBytes] at hw
    refine ⟨(List.range len).map Z, by simp, by omega, repE_of _ _ _ (fun i hi => ?_)⟩
    have hi' : i < len := by simpa using hi
    have hc := hcell i (by omega)
    obtain ⟨b, o, s⟩ := a
    have hs : s = none := by
      have := World.cell?_spot hc
      unfold Addr.add at this
      split at this
      · exact this
      · have h0 := World.cell?_spot (hcell 0 (by omega))
        unfold Addr.add at h0
        simpa using h0
    subst hs
    have hadd : (⟨b, o, none⟩ : Addr).add i = ⟨b, o + i, none⟩ := by unfold Addr.add; split <;> simp_all
    rw [hadd] at hc
    refine ⟨b, o, [.bool (Z i)], rfl, by simpa using World.block_lt_of_cell? W _ hc, fun x => x, rfl, fun m v hv => ?_, ?_⟩
    · cases m with
      | zero => cases hv; simpa using hc
      | succ m => simp at hv
    · simp [Rep]
end Go.Proofs.YtnhmogmpbgadiaaDoor
