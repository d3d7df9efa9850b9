/- The package's names. -/
import Derived.Test.YtdcbgkmhlpkjiaaDoorTape
import Derived.Test.YtdcbgkmhlpkjiaaDoorTermsR
namespace Go.Proofs.YtdcbgkmhlpkjiaaDoor
open Go.RowKit Go.LF

/-- The package's list of names. -/
def nameList : List (List UInt8) := [[120], [121], [78], [102], [95], []]
def nameAt (j : Nat) : List UInt8 := nameList.getD j []
theorem nameAt_ok (j : Nat) : (nameAt j == [] || nameAt j == [95] || isName (nameAt j)) = true ∧ (nameAt j).length ≤ 4 := by
  match j with
  | 0 => decide
  | 1 => decide
  | 2 => decide
  | 3 => decide
  | 4 => decide
  | 5 => decide
  | n + 6 => exact ⟨rfl, by show (0 : Nat) ≤ 4; omega⟩
/-- The package's names as they were laid; the tape is another block. -/
def NamesOk (T : Nat) (W : World) : Prop := T ≠ 0 ∧ ∃ v, W.cell? ⟨0, 0, none⟩ = some v ∧ Rep (fun b => T ≤ b) W (strsD nameList) [v]
/-- The six cells of the package's names. -/
def NameCells (nb no : Nat) (w' : World) : Prop := ∀ j, j < 6 → w'.cell? ⟨nb, no + j, none⟩ = some (.string (B (nameAt j)))
theorem NamesOk.open {T : Nat} {W : World} (h : NamesOk T W) : ∃ nb no ncap, 6 ≤ ncap ∧ T ≠ 0 ∧ nb < T ∧ W.cell? ⟨0, 0, none⟩ = some (.slice (some ⟨nb, no, none⟩) 6 ncap) ∧ NameCells nb no W := by
  obtain ⟨hT0, nv, hnc, hnr⟩ := h
  obtain ⟨na, ncap, rfl, hcap, hnE⟩ := strs_open hnr
  obtain ⟨nb, no, rfl, _, hnb, _⟩ := str_cell hnE 0 (by decide)
  refine ⟨nb, no, ncap, hcap, hT0, by omega, hnc, fun j hj => ?_⟩
  obtain ⟨b, o, e, _, _, hc⟩ := str_cell hnE j hj
  cases e
  rw [hc]
  unfold nameAt
  rw [List.getD_eq_getElem?_getD, List.getElem?_eq_getElem hj]
  rfl
theorem NameCells.keep {nb no T : Nat} {W W' : World} (h : NameCells nb no W) (hU : Upto (isT T) W W') (hT : nb < T) : NameCells nb no W' := fun j hj => hU.cell (h j hj) (fun e => by simp only [isT] at e; omega)
theorem NamesOk.keep {T : Nat} {W W' : World} (h : NamesOk T W) (hU : Upto (isT T) W W') : NamesOk T W' := by
  obtain ⟨h0, v, h1, h2⟩ := h
  exact ⟨h0, v, hU.cell h1 (fun e => h0 e.symm), Rep.keep hU (fun _ e => Nat.le_of_eq e.symm) _ _ h2⟩
theorem NamesOk.far {T : Nat} {W W' : World} {S : Nat → Prop} (h : NamesOk T W) (hU : Upto S W W') (hS : ∀ b, S b → T ≤ b) : NamesOk T W' := by
  obtain ⟨h0, v, h1, h2⟩ := h
  exact ⟨h0, v, hU.cell h1 (fun e => by have := hS 0 e; omega), Rep.keep hU hS _ _ h2⟩
theorem NamesOk.on {T : Nat} {W W' : World} (h : NamesOk T W) (hU : Upto none' W W') : NamesOk T W' := h.keep (hU.mono (fun _ _ x => x.elim))
end Go.Proofs.YtdcbgkmhlpkjiaaDoor
