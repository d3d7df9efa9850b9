/- The arguments of a law, and the package's names, as its row gives them. -/
import Derived.Test.YtdcbgkmhlpkjiaaDoorPost
import Derived.Test.YtdcbgkmhlpkjiaaDoorRowsT
import Derived.SizedLaws
import Derived.LaidMore
import Derived.MakeChecks
import Derived.OpenShut
import Derived.Stop.Joined
import Derived.SevenTiedAt
namespace Go.Proofs.YtdcbgkmhlpkjiaaDoor
open Go.ChangeShapes Go.WideShapes Go.ChangeAt Go.RowKit Go.LF

theorem laidOut : laidOutB Tryd.prog = true := by kernel_rfl
theorem cells_int : Tryd.prog.cellsOf 3 = 1 := by kernel_rfl
theorem cells_str : Tryd.prog.cellsOf 9 = 1 := by kernel_rfl
theorem bytes_int : Tryd.prog.bytesOf 3 = 8 := by kernel_rfl

/-- An argument of type []int. -/
theorem ints_arg {H : Type} {enc : TypeId × Value → H} {W : World} {a0 : Option Addr} {len cap : Nat} {d : DataW H} {p : List MemPlace} {ts : List TypeId} {ds : List (DataW H)} {j : Nat}
    (hj : DataW.Trod enc Tryd.prog W 0 (fun _ => true) true 22 (Value.slice a0 len cap) d p) (hsz : (DataW.weightsEach Tryd.prog ts ds).all (· ≤ reachBytes) = true) (ht : ts[j]? = some 22) (hd : ds[j]? = some d) :
    ∃ l : List Int, l.length = len ∧ len ≤ cap ∧ len ≤ 17592186044416 ∧ RepE none' W 1 (l.map (Dat.int .i64)) a0 0 := by
  obtain ⟨fuel, hf⟩ := hj
  rcases open_ints Tryd.underlying22 Tryd.underlying3 cells_int hf with ⟨hcs, hx⟩ | ⟨a, len', cap', zs, hcs, _, hl, hm, hz, hx, hcell, hwz⟩
  · simp [Value.cells] at hcs
    obtain ⟨rfl, rfl, rfl⟩ := hcs
    exact ⟨[], rfl, Nat.le_refl _, by omega, by simp only [List.map_nil, RepE]⟩
  · simp [Value.cells] at hcs
    obtain ⟨rfl, rfl, rfl⟩ := hcs
    simp only [Prod.mk.injEq] at hx
    obtain ⟨rfl, rfl⟩ := hx
    simp only [if_true] at hz
    have hw := sized_slice hsz ht hd Tryd.underlying22
    rw [bytes_int] at hw
    simp only [lits, List.length_map, List.length_take, List.length_drop, reachBytes] at hw
    have hlz : (zs.take len).length = len := by simp; omega
    refine ⟨zs.take len, hlz, hl, by omega, repE_of _ _ _ (fun i hi => ?_)⟩
    have hi' : i < len := by rw [List.length_map, hlz] at hi; exact hi
    have hc := hcell i (by omega)
    obtain ⟨b, o, s⟩ := a
    have hs : s = none := by
      have := World.cell?_spot hc
      unfold Addr.add at this
      split at this
      · exact this
      · have h0 := World.cell?_spot (hcell 0 (by omega))
        unfold Addr.add at h0
        simpa using h0
    subst hs
    have hadd : (⟨b, o, none⟩ : Addr).add i = ⟨b, o + i, none⟩ := by unfold Addr.add; split <;> simp_all
    rw [hadd] at hc
    refine ⟨b, o, [.int .i64 (zs.getD i 0)], rfl, by simpa using World.block_lt_of_cell? W _ hc, fun x => x, rfl, fun m v hv => ?_, ?_⟩
    · cases m with
      | zero => cases hv; simpa using hc
      | succ m => simp at hv
    · simp [Rep, List.getD, List.getElem?_eq_getElem (show i < zs.length by omega)]

theorem door_met (os : Os) (args : Array Value) : laidMetH Tryd.prog [("lfcheck/lfcheckmade.names", Rows.laid_lfcheck_lfcheckmade_names)] ((World.doorLaid Tryd.prog 400 os).forCall (fun _ _ => 0) ⟨#[], args, []⟩).memory :=
  laidMetH_of_parts3 (fuel := 8) (laidMet_of_run' 8 (by kernel_rfl) (by kernel_rfl)) (by kernel_rfl) (by kernel_rfl)

/-- The package's names, as they were laid. -/
def NamesRead (W : World) : Prop := ∃ v, W.cell? ⟨0, 0, none⟩ = some v ∧ Rep none' W (strsD nameList) [v]
theorem NamesRead.ok {W W' : World} {T : Nat} (h : NamesRead W) (hU : Upto none' W W') (hT : W.heap.size ≤ T) : NamesOk T W' := by
  obtain ⟨v, h1, h2⟩ := h
  have h0 : 0 < W.heap.size := by simpa using World.block_lt_of_cell? W _ h1
  exact ⟨by omega, v, hU.cell h1 (fun x => x), (Rep.weaken (fun b _ e => by omega) _ _ (Rep.fresh h2)).on hU⟩
theorem gNames : Tryd.prog.globalNamed "lfcheck/lfcheckmade.names" = some 0 := by kernel_rfl
theorem tNames : (Tryd.prog.globals[0]?).map (·.type) = some 36 := by kernel_rfl
theorem names_of_laid {W : World} (h : laidMetH Tryd.prog [("lfcheck/lfcheckmade.names", Rows.laid_lfcheck_lfcheckmade_names)] W) : NamesRead W := by
  rw [MakeChecks.laidMetH_plain _ _ _ (by kernel_rfl)] at h
  obtain ⟨ps, ⟨g0, t0, cs0, f0, p0, q0, hg0, ht0, hv0, hd0, _⟩, _⟩ := h
  obtain rfl := Option.some.inj (gNames.symm.trans hg0)
  obtain rfl := Option.some.inj (tNames.symm.trans ht0)
  have hcell := World.var?_cell hg0 hv0 0
  rcases open_strings Tryd.underlying36 Tryd.underlying9 cells_str hd0 with ⟨_, hx⟩ | ⟨a, len, cap, ss, hcs, _, hl, hm, hz, hx, hc, hws⟩
  · simp [Rows.laid_lfcheck_lfcheckmade_names] at hx
  · simp only [Prod.mk.injEq, Rows.laid_lfcheck_lfcheckmade_names, DataW.slice.injEq] at hx
    have hl6 : (ss.take len).map (fun s => s.data.toList) = nameList := by
      have h1 := hx.1.1
      have h2 := congrArg (List.map fun d : DataW Unit => match d with | .lit (.string b) => b | _ => []) h1
      simp only [strs, List.map_map] at h2
      exact h2.symm
    have hlen : (ss.take len).length = 6 := by
      have := congrArg List.length hl6
      simpa [nameList] using this
    have hlz : len ≤ ss.length := by simp only [if_true] at hz; omega
    have h6 : len = 6 := by simp at hlen; omega
    subst h6
    obtain ⟨l1⟩ := cs0
    obtain rfl : l1 = [.slice (some a) 6 cap] := hcs
    refine ⟨_, by simpa using hcell, ?_⟩
    simp only [Rep]
    refine ⟨some a, cap, by simp [nameList], by simpa [nameList] using hl, repE_of _ _ _ (fun i hi => ?_)⟩
    have hi' : i < 6 := by simpa [nameList] using hi
    have hci := hc i (by omega)
    obtain ⟨b, o, s⟩ := a
    have hs : s = none := by
      have h0 := World.cell?_spot (hc 0 (by omega))
      unfold Addr.add at h0
      simpa using h0
    subst hs
    have hadd : (⟨b, o, none⟩ : Addr).add i = ⟨b, o + i, none⟩ := by unfold Addr.add; split <;> simp_all
    rw [hadd] at hci
    have hsi : ss.getD i ByteArray.empty = B (nameList[i]'(by simpa [nameList] using hi')) := by
      have h1 : ((ss.take 6).map (fun s => s.data.toList))[i]? = nameList[i]? := by rw [hl6]
      rw [List.getElem?_map, List.getElem?_take_of_lt hi', List.getElem?_eq_getElem (show i < ss.length by omega), List.getElem?_eq_getElem (by simpa [nameList] using hi')] at h1
      simp only [Option.map_some, Option.some.injEq] at h1
      rw [List.getD, List.getElem?_eq_getElem (show i < ss.length by omega), ← h1]
      rfl
    rw [hsi] at hci
    refine ⟨b, o, [.string (B (nameList[i]'(by simpa [nameList] using hi')))], rfl, by simpa using World.block_lt_of_cell? W _ hci, fun x => x, rfl, fun m v hv => ?_, ?_⟩
    · cases m with
      | zero => cases hv; simpa using hci
      | succ m => simp at hv
    · simp [Rep]
end Go.Proofs.YtdcbgkmhlpkjiaaDoor
