/- What layer 8's awake computes. -/
import Derived.Test.YtdomloghcpfdjaaGreatDoorRSC
namespace Go.LF
abbrev wC : Tm := .mk 4 [99] 0 []
abbrev wId : Tm := .mk 3 [] 0 [.mk 5 [] 0 []]
abbrev wNat : Sm := .mk [110, 97, 116] []
abbrev wFun : Sm := .mk [110, 97, 116] [wNat]
abbrev wA : Tm := .mk 4 [118] 0 [wC]
end Go.LF
namespace Go.LF
end Go.LF
namespace Go.Proofs.YtdomloghcpfdjaaGreatDoor
open Go.RowKit Go.LF
/-- What awake needs of a world. -/
structure Aw8 (b : Nat) (w w' : World) : Prop where
  fn : Box2 w' (b + 1 + 1) (.string (B [110, 97, 116])) (.slice (some ⟨b + 1, 0, none⟩) 1 1) 33
  idb : Box4 w' (b + 1 + 1 + 1 + 1) (.int .i64 3) (.string (B [])) (.int .i64 0) (.slice (some ⟨b + 1 + 1 + 1, 0, none⟩) 1 1) 29
  cb : Box4 w' (b + 1 + 1 + 1 + 1 + 1) (.int .i64 4) (.string (B [99])) (.int .i64 0) (.slice none 0 0) 29
  repS : Rep none' w' wFun.dat [.string (B [110, 97, 116]), .slice (some ⟨b + 1, 0, none⟩) 1 1]
  repI : Rep none' w' wId.dat [.int .i64 3, .string (B []), .int .i64 0, .slice (some ⟨b + 1 + 1 + 1, 0, none⟩) 1 1]
  up : Upto none' w w'
theorem Aw8.on {b : Nat} {w w' w1 : World} (h : Aw8 b w w') (hU : Upto none' w' w1) : Aw8 b w w1 := ⟨h.fn.kept hU, h.idb.kept hU, h.cb.kept hU, h.repS.on hU, h.repI.on hU, h.up.and hU⟩
theorem givesE_mk {O : Nat → Prop} {E k i : Int} {n : List UInt8} {l : List Tm} {w w' : World} {e : Ending} (h : GivesE O E (.mk k n i l) w e w') :
    ∃ a cap, e = .returned (.tuple #[.agg #[.int .i64 k, .string (B n), .int .i64 i, .slice a l.length cap], .int .i64 E]) ∧ Rep O w' (Tm.mk k n i l).dat [.int .i64 k, .string (B n), .int .i64 i, .slice a l.length cap] ∧ Upto none' w w' := by
  obtain ⟨k', i', n', a, len, cap, rfl, hR, hU⟩ := h
  obtain ⟨a', cap', e, hc, hE⟩ := rep_tm.1 hR
  simp only [List.cons.injEq, Value.int.injEq, Value.string.injEq, Value.slice.injEq, and_true, true_and] at e
  obtain ⟨rfl, en, rfl, rfl, rfl, rfl⟩ := e
  exact ⟨a, cap, by rw [en], by rw [en] at hR; exact hR, hU⟩
end Go.Proofs.YtdomloghcpfdjaaGreatDoor
