/- Layer 5's awake: it answers true. -/
import Derived.Test.YtdcbgkmhlpkjiaaDoorRelay
namespace Go.Proofs.YtdcbgkmhlpkjiaaDoor
open Go.RowKit Go.LF

/-- What awake needs of a world. -/
def AwS (W : World) (b : Nat) (w' : World) : Prop :=
  Box4 w' b (.int .i64 5) (.string (B [])) (.int .i64 2) (.slice none 0 0) 25 ∧
  Box4 w' (b + 1 + 1) (.int .i64 3) (.string (B [120])) (.int .i64 0) (.slice (some ⟨b + 1, 0, none⟩) 1 1) 25 ∧
  Box4 w' (b + 1 + 1 + 1 + 1) (.int .i64 3) (.string (B [])) (.int .i64 0) (.slice (some ⟨b + 1 + 1 + 1, 0, none⟩) 1 1) 25 ∧
  Rep none' w' tL.dat [.int .i64 3, .string (B [120]), .int .i64 0, .slice (some ⟨b + 1, 0, none⟩) 1 1] ∧
  Rep none' w' tM.dat [.int .i64 3, .string (B []), .int .i64 0, .slice (some ⟨b + 1 + 1 + 1, 0, none⟩) 1 1] ∧ Upto none' W w'
theorem AwS.on {W w' w1 : World} {b : Nat} (h : AwS W b w') (hU : Upto none' w' w1) : AwS W b w1 :=
  ⟨h.1.kept hU, h.2.1.kept hU, h.2.2.1.kept hU, h.2.2.2.1.on hU, h.2.2.2.2.1.on hU, h.2.2.2.2.2.and hU⟩
theorem AwS.cells {W w' : World} {b : Nat} (h : AwS W b w') : (w'.cell? ⟨b, 0, none⟩ = some (.int .i64 5) ∧ w'.cell? ⟨b, 1, none⟩ = some (.string (B [])) ∧ w'.cell? ⟨b, 2, none⟩ = some (.int .i64 2) ∧ w'.cell? ⟨b, 3, none⟩ = some (.slice none 0 0)) ∧
    w'.cell? ⟨b + 1 + 1, 0, none⟩ = some (.int .i64 3) ∧ w'.cell? ⟨b + 1 + 1, 1, none⟩ = some (.string (B [120])) ∧ w'.cell? ⟨b + 1 + 1, 2, none⟩ = some (.int .i64 0) ∧ w'.cell? ⟨b + 1 + 1, 3, none⟩ = some (.slice (some ⟨b + 1, 0, none⟩) 1 1) := ⟨h.1.cells, h.2.1.cells⟩
theorem awake_lay (w w5 : World) (h5 : w5 = ((((w.alloc (.cells #[.int .i64 5, .string (B []), .int .i64 2, .slice none 0 0] 25)).alloc (.cells #[.int .i64 5, .string (B []), .int .i64 2, .slice none 0 0] 25)).alloc
    (.cells #[.int .i64 3, .string (B [120]), .int .i64 0, .slice (some ⟨w.heap.size + 1, 0, none⟩) 1 1] 25)).alloc (.cells #[.int .i64 5, .string (B []), .int .i64 2, .slice none 0 0] 25)).alloc
    (.cells #[.int .i64 3, .string (B []), .int .i64 0, .slice (some ⟨w.heap.size + 1 + 1 + 1, 0, none⟩) 1 1] 25)) : AwS w w.heap.size w5 := by
  subst h5
  refine ⟨?_, ?_, ?_, ?_, ?_, ?_⟩
  · exact ((((Box4.at_new rfl).kept ((Upto.refl none' _).alloc _)).kept ((Upto.refl none' _).alloc _)).kept ((Upto.refl none' _).alloc _)).kept ((Upto.refl none' _).alloc _)
  · exact ((Box4.at_new (by simp)).kept ((Upto.refl none' _).alloc _)).kept ((Upto.refl none' _).alloc _)
  · exact Box4.at_new (by simp)
  · exact rep_one (t := tV) (T := 25) (rep_leaf 5 [] 2) (fun x => x) ((((Box4.at_new (by simp)).kept ((Upto.refl none' _).alloc _)).kept ((Upto.refl none' _).alloc _)).kept ((Upto.refl none' _).alloc _)) 3 [120] 0
  · exact rep_one (t := tV) (T := 25) (rep_leaf 5 [] 2) (fun x => x) ((Box4.at_new (by simp)).kept ((Upto.refl none' _).alloc _)) 3 [] 0
  · exact (((((Upto.refl none' w).alloc _).alloc _).alloc _).alloc _).alloc _

set_option maxRecDepth 100000 in
set_option maxHeartbeats 4000000 in
theorem awake05 (w : World) : Calls Tryd.prog 41 #[] w fun e w' => e = .returned (.bool true) ∧ Upto none' w w' := by
  go_enter Tryd.func41, Tryd.ntmps41
  go_wp2_with fail
  obtain ⟨w5, h5⟩ : ∃ w5, w5 = ((((w.alloc (.cells #[.int .i64 5, .string (B []), .int .i64 2, .slice none 0 0] 25)).alloc (.cells #[.int .i64 5, .string (B []), .int .i64 2, .slice none 0 0] 25)).alloc
    (.cells #[.int .i64 3, .string (B [120]), .int .i64 0, .slice (some ⟨w.heap.size + 1, 0, none⟩) 1 1] 25)).alloc (.cells #[.int .i64 5, .string (B []), .int .i64 2, .slice none 0 0] 25)).alloc
    (.cells #[.int .i64 3, .string (B []), .int .i64 0, .slice (some ⟨w.heap.size + 1 + 1 + 1, 0, none⟩) 1 1] 25) := ⟨_, rfl⟩
  have S5 := awake_lay w w5 h5
  rw [← h5]
  clear h5
  obtain ⟨C5, D5⟩ := S5.cells
  refine (same_at tL tM true aws1 aw1 S5.2.2.2.1 S5.2.2.2.2.1).mono ?_
  rintro e w6 ⟨rfl, U6⟩
  have S6 := S5.on U6
  clear C5 D5 S5 U6
  obtain ⟨C6, D6⟩ := S6.cells
  go_wp2_with fail
  refine (same_at tL tV false aws1 aw2 S6.2.2.2.1 (rep_leaf 5 [] 2)).mono ?_
  rintro e w7 ⟨rfl, U7⟩
  have S7 := S6.on U7
  clear C6 D6 S6 U7
  obtain ⟨C7, D7⟩ := S7.cells
  go_wp2_with fail
  refine (scope_at tL 2 aws2 aw3 S7.2.2.2.1).mono ?_
  rintro e w8 ⟨rfl, U8⟩
  have S8 := S7.on U8
  clear C7 D7 S7 U8
  obtain ⟨C8, D8⟩ := S8.cells
  go_wp2_with fail
  refine (occurs_at tL 1 true aws2 aw4 S8.2.2.2.1).mono ?_
  rintro e w9 ⟨rfl, U9⟩
  have S9 := S8.on U9
  clear C8 D8 S8 U9
  obtain ⟨C9, D9⟩ := S9.cells
  go_wp2_with fail
  refine (occurs_at tL 0 false aws2 aw5 S9.2.2.2.1).mono ?_
  rintro e w10 ⟨rfl, U10⟩
  have S10 := S9.on U10
  clear C9 D9 S9 U10
  obtain ⟨C10, D10⟩ := S10.cells
  go_wp2_with fail
  refine (size_at tL 2 aws1 aw6 S10.2.2.2.1).mono ?_
  rintro e w11 ⟨rfl, U11⟩
  have S11 := S10.on U11
  clear C10 D10 S10 U11
  obtain ⟨C11, D11⟩ := S11.cells
  go_wp2_with fail
  refine (depth_at tL 2 aws1 aw7 S11.2.2.2.1).mono ?_
  rintro e w12 ⟨rfl, U12⟩
  have S12 := S11.on U12
  clear C11 D11 S11 U12
  obtain ⟨C12, D12⟩ := S12.cells
  go_wp2_with fail
  refine (isObject_at tL true aws2 aw8 S12.2.2.2.1).mono ?_
  rintro e w13 ⟨rfl, U13⟩
  have S13 := S12.on U13
  clear C12 D12 S12 U13
  obtain ⟨C13, D13⟩ := S13.cells
  go_wp2_with fail
  refine (isType_at tL false aws2 aw9 S13.2.2.2.1).mono ?_
  rintro e w14 ⟨rfl, U14⟩
  have S14 := S13.on U14
  clear C13 D13 S13 U14
  go_wp2_with fail
  refine (isKind_at tSort true (by decide) aw10 (rep_leaf 1 [] 0)).mono ?_
  rintro e w15 ⟨rfl, U15⟩
  go_wp2_with fail
  refine (wellFormed_at tNone 1 (by decide) aw11 (rep_leaf 0 [] 0)).mono ?_
  rintro e w16 ⟨rfl, U16⟩
  go_wp2_with fail
  refine (metas_is tMeta 1 (by decide) aw12 (rep_leaf 6 [] 3)).mono ?_
  rintro e w17 ⟨⟨a1, cap1, rfl⟩, U17⟩
  go_wp2_with fail
  refine (consts_is tC 1 (by decide) aw13 (rep_leaf 4 [99] 0)).mono ?_
  rintro e w18 ⟨⟨a2, cap2, rfl⟩, U18⟩
  go_wp2
  go_ret
  exact ⟨rfl, (((S14.2.2.2.2.2.and U15).and U16).and U17).and U18⟩
end Go.Proofs.YtdcbgkmhlpkjiaaDoor
