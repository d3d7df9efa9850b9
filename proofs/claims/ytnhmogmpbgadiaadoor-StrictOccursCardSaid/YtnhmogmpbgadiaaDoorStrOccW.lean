/- StrictOccurs: its walk. -/
import Derived.Test.YtnhmogmpbgadiaaDoorCQ
namespace Go.Proofs.YtnhmogmpbgadiaaDoor
open Go.RowKit Go.LF
set_option maxRecDepth 100000 in
set_option maxHeartbeats 8000000 in
theorem strOccurs_walk (l : List Int) (a : Option Addr) (len cap : Nat) (hl : l.length = len) (hlen : len ≤ 17592186044416) (w : World) (hE : RepE none' w 1 (l.map (Dat.int .i64)) a 0) (hN : NamesRead w) :
    Calls Tryd.prog 3 #[.slice a len cap] w fun e w' => e = .returned (.bool true) ∧ Upto none' w w' := by
  have hT := tape_new (cap := cap) (U := 25) hl hlen hE
  have hN1 : NamesOk w.heap.size (w.alloc (.cells #[.slice a len cap, .int .i64 0] 25)) := hN.ok ((Upto.refl none' w).alloc _) (Nat.le_refl _)
  have hU1 : Upto none' w (w.alloc (.cells #[.slice a len cap, .int .i64 0] 25)) := (Upto.refl none' w).alloc _
  clear hE hN hl hlen
  obtain ⟨T, hTT⟩ : ∃ T, T = w.heap.size := ⟨_, rfl⟩
  rw [← hTT] at hT hN1
  have KI := fun (W : World) h => kinds22_any T W h
  have TE := fun (W : World) h h' => term22_any T W h h'
  have HTT := hid hTT
  clear hTT
  go_enter Tryd.func3, Tryd.ntmps3
  go_wp2_with fail
  rw [← HTT.out]
  refine (KI _ hT).mono ?_
  rintro e w1 ⟨ks, ka, kc, rfl, hks, hK, hT1, hU2⟩
  have hN2 := hN1.keep hU2
  have hU3 : Upto none' w w1 := hU1.trans hU2 (fun b hb e => by simp only [isT] at e; have := HTT.out; omega)
  clear hT hN1 hU1 hU2
  go_wp2_with fail
  refine (TE _ hT1 hN2).mono ?_
  rintro e w2 ⟨k1, i1, n1, a1, len1, cap1, t, rfl, hR, hwt, hU4⟩
  have hU5 : Upto none' w w2 := hU3.trans hU4 (fun b hb e => by simp only [isT] at e; have := HTT.out; omega)
  have hK2 : RepE none' w2 1 (ks.map (Dat.int .i64)) ka 0 := RepE.weaken (fun _ _ x => x.elim) _ _ _ _ (RepE.keep hU4 (fun b e => by simp only [isT] at e; have := HTT.out; rw [World.size_alloc]; omega) _ _ _ _ hK)
  obtain ⟨w3, hw3⟩ : ∃ w3, w3 = w2.alloc (.cells #[.int .i64 k1, .string (B n1), .int .i64 i1, .slice a1 len1 cap1] 29) := ⟨_, rfl⟩
  have S3 : Lay22 w2.heap.size k1 n1 i1 a1 len1 cap1 t ks ka w w3 := by
    rw [hw3]; exact lay22_new (Rep.weaken (fun _ _ x => x.elim) _ _ hR) hK2 hU5
  obtain ⟨A, hA⟩ : ∃ A, A = w2.heap.size := ⟨_, rfl⟩
  rw [← hA] at S3
  have HW := hid hw3
  have HA := hid hA
  have C1 := fun W (h : Lay22 A k1 n1 i1 a1 len1 cap1 t ks ka w W) => occur_any t (by omega) ks (by omega) ka kc W _ h.kin h.rep
  have C2 := fun W (h : Lay22 A k1 n1 i1 a1 len1 cap1 t ks ka w W) => refOccurV_any t (by omega) ks (by omega) ka kc W _ h.kin h.rep
  have C3 := fun W (h : Lay22 A k1 n1 i1 a1 len1 cap1 t ks ka w W) => strict_any t (by omega) ks (by omega) ka kc W _ h.kin h.rep
  have C4 := fun W (h : Lay22 A k1 n1 i1 a1 len1 cap1 t ks ka w W) => refStrictV_any t (by omega) ks (by omega) ka kc W _ h.kin h.rep
  have F1 := fun W q q' => flags_same (occurV t ks) (by rw [occurV_length]; omega) W q q'
  have F2 := fun W q q' => flags_same (strictV t ks) (by rw [strictV_length]; omega) W q q'
  generalize occurV t ks = L1 at *
  generalize strictV t ks = L2 at *
  have AW := awake22
  clear hw3 hA hT1 hN2 hR hK hK2 hU3 hU4 hU5 hwt KI TE hks
  go_upto_region 4 with fail
  rw [← HW.out, ← HA.out]
  have Sd := S3.on (Upto.refl none' w3).drew
  go_region_held3 (fun w' => TcS A (.int .i64 k1) (.string (B n1)) (.int .i64 i1) (.slice a1 len1 cap1) w')
    (first | (with_reducible assumption) | (with_reducible exact Sd.box))
    (first
      | ((go_at_call 14); (with_reducible refine (C1 _ Sd).mono ?_); rintro e w5 ⟨q5, rfl, hL5, hq5, hU5⟩; have S5 := Sd.on hU5; have B5 := S5.box)
      | ((go_at_call 15); (with_reducible refine (C2 _ S5).mono ?_); rintro e w6 ⟨q6, rfl, hL6, hq6, hU6⟩; have S6 := S5.on hU6; have B6 := S6.box; have hL56 := hL5.kept hU6)
      | ((go_at_call 13); (with_reducible refine (F1 _ _ _ hL56 hL6).mono ?_); rintro e w7 ⟨rfl, hU7⟩; have S7 := S6.on hU7; have B7 := S7.box)
      | ((go_at_call 16); (with_reducible refine (C3 _ S7).mono ?_); rintro e w8 ⟨q8, rfl, hL8, hq8, hU8⟩; have S8 := S7.on hU8; have B8 := S8.box)
      | ((go_at_call 17); (with_reducible refine (C4 _ S8).mono ?_); rintro e w9 ⟨q9, rfl, hL9, hq9, hU9⟩; have S9 := S8.on hU9; have B9 := S9.box; have hL89 := hL8.kept hU9)
      | ((go_at_call 13); (with_reducible refine (F2 _ _ _ hL89 hL9).mono ?_); rintro e w10 ⟨rfl, hU10⟩; have S10 := S9.on hU10; have B10 := S10.box)
      | ((go_at_call 18); (with_reducible refine (AW _).mono ?_); rintro e w11 ⟨rfl, hU11⟩; have S11 := S10.on hU11; have B11 := S11.box))
  all_goals
    go_wp2_with fail
    go_ret
    exact ⟨rfl, S11.up⟩
end Go.Proofs.YtnhmogmpbgadiaaDoor
