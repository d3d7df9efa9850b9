/- Layer 8's made. -/
import Derived.Test.YtdomloghcpfdjaaGreatDoorCJ
import Derived.Test.YtdomloghcpfdjaaGreatDoorDF
namespace Go.Proofs.YtdomloghcpfdjaaGreatDoor
open Go.RowKit Go.LF
/-- Some term of bounded size, in new blocks. -/
def Made8 (base : Nat) (T : Nat) (w : World) (e : Ending) (w' : World) : Prop :=
  ∃ (k i : Int) (n : List UInt8) (a : Option Addr) (len cap : Nat) (t : Tm), e = .returned (.agg #[.int .i64 k, .string (B n), .int .i64 i, .slice a len cap]) ∧
    Rep (fun b => b < base) w' t.dat [.int .i64 k, .string (B n), .int .i64 i, .slice a len cap] ∧ t.wt ≤ 10000 ∧ TapeOk w' T ∧ NamesOk T w' ∧ Upto (isT T) w w'
set_option maxRecDepth 100000 in
set_option maxHeartbeats 4000000 in
theorem made08_any (T : Nat) (n : Int) (w : World) (hT : TapeOk w T) (hN : NamesOk T w) :
    Calls Tryz.prog 16 #[.pointer (some ⟨T, 0, none⟩), .int .i64 n] w (Made8 w.heap.size T w) := by
  obtain ⟨w0, hw0⟩ : ∃ w0, w0 = w.alloc (.cells #[.int .i64 0, .string (B []), .int .i64 0, .slice none 0 0] 29) := ⟨_, rfl⟩
  have hU0 : Upto none' w w0 := by rw [hw0]; exact (Upto.refl none' w).alloc _
  have hz0 : w0.heap.size = w.heap.size + 1 := by rw [hw0]; simp
  have hr0 : Box4 w0 w.heap.size (.int .i64 0) (.string (B [])) (.int .i64 0) (.slice none 0 0) 29 := by rw [hw0]; exact Box4.at_new rfl
  have hTl := hT.lt
  have HA := anyTerm_any 2 (by omega) 3 1 (by omega) (by omega) T w0 (hT.on hU0) (hN.on hU0)
  have K0 := fun W => cut_val n 12 (by omega) (by omega) W
  have hb0 := cutV_bd n 12 (by omega)
  generalize cutV n 12 = c at *
  have HW0 := hid hw0
  obtain ⟨H, hH⟩ : ∃ H, H = w.heap.size := ⟨_, rfl⟩
  have HH := hid hH
  rw [← hH] at hr0 hz0 hTl
  rw [← hH]
  clear hT hN hw0 hH
  go_enter Tryz.func16, Tryz.ntmps16
  go_wp2_with fail
  rw [← show B [] = { data := #[] } from rfl, ← HW0.out, ← HH.out]
  refine HA.mono ?_
  rintro e w1 ⟨k1, i1, n1, a1, len1, cap1, t, rfl, hR, hF, hT1, hN1, hU⟩
  have hUT : Upto (isT T) w w1 := (hU0.mono (fun _ _ x => x.elim)).trans hU (fun _ _ e => e)
  have hr1 := hr0.keep hU (by simp only [isT]; omega)
  have hwt := hF.wt
  have hR1 : Rep (fun b => b ≤ H) w1 t.dat [.int .i64 k1, .string (B n1), .int .i64 i1, .slice a1 len1 cap1] := Rep.weaken (fun b _ e => by omega) _ _ hR
  have hlr := hr1.lt
  clear HA hU hR hF hr0 hU0
  obtain ⟨w2, hw2⟩ : ∃ w2, w2 = w1.alloc (.cells #[.int .i64 k1, .string (B n1), .int .i64 i1, .slice a1 len1 cap1] 29) := ⟨_, rfl⟩
  have hU2 : Upto none' w1 w2 := by rw [hw2]; exact (Upto.refl none' w1).alloc _
  have hB2 : Box4 w2 w1.heap.size (.int .i64 k1) (.string (B n1)) (.int .i64 i1) (.slice a1 len1 cap1) 29 := by rw [hw2]; exact Box4.at_new rfl
  have hr2 := hr1.kept hU2
  have hR2 : Rep (fun b => b ≤ H ∨ b = w1.heap.size) w2 t.dat [.int .i64 k1, .string (B n1), .int .i64 i1, .slice a1 len1 cap1] := Rep.weaken (fun b _ e => e.elim .inl (fun e => .inr (Nat.le_of_eq e.symm))) _ _ ((Rep.fresh' _ _ hR1).on hU2)
  have hT2 := hT1.on hU2
  have hN2 := hN1.on hU2
  have hUT2 := hUT.trans hU2 (fun _ _ e => e.elim)
  have HW2 := hid hw2
  obtain ⟨P, hP⟩ : ∃ P, P = w1.heap.size := ⟨_, rfl⟩
  rw [← hP] at hB2 hR2 hlr
  have HP := hid hP
  clear hw2 hP hU2 hr1 hR1 hT1 hN1 hUT
  go_upto_region 2 with fail
  rw [← HP.out, ← HW2.out]
  obtain ⟨x0, x1, x2, x3⟩ := hB2.cells
  obtain ⟨y0, y1, y2, y3⟩ := hB2.frozens
  have hbl := hB2.lt
  have hrl2 := hr2.lt
  have hne : H ≠ P := by omega
  have hne' : P ≠ H := by omega
  have SP := fun y z => spoil_any t (by omega) (fun b => b ≤ H ∨ b = P) y z w2 _ hR2
  by_cases hc : c = 0
  · subst hc
    go_wp2_with (first | ((go_at_call 18); (with_reducible refine (K0 _).mono ?_); rintro e w7 ⟨rfl, rfl⟩) | ((go_at_call 33); (with_reducible refine (SP _ _).mono ?_); rintro e w5 ⟨k5, i5, n5, a5, l5, c5, t5, rfl, hR5, hw5, hU5⟩; have hB5 := hB2.kept hU5; have hr5 := hr2.kept hU5; obtain ⟨p0, p1, p2, p3⟩ := hB5.cells; obtain ⟨q0, q1, q2, q3⟩ := hB5.frozens; obtain ⟨u0, u1, u2, u3⟩ := hr5.frozens; obtain ⟨o0, o1, o2, o3⟩ := hr5.cells; have hrl5 := hr5.lt; have hbl5 := hB5.lt))
    have s1 := hB5.set (d0 := .int .i64 k5) (d1 := .string (B n5)) (d2 := .int .i64 i5) (d3 := .slice a5 l5 c5)
    have s2 := (hr5.keep s1.2 (by omega)).set (d0 := .int .i64 k5) (d1 := .string (B n5)) (d2 := .int .i64 i5) (d3 := .slice a5 l5 c5)
    obtain ⟨w9, hw9⟩ : ∃ w9, w9 = ((((((((w5.setCell ⟨P, 0, none⟩ (.int .i64 k5)).setCell ⟨P, 1, none⟩ (.string (B n5))).setCell ⟨P, 2, none⟩ (.int .i64 i5)).setCell ⟨P, 3, none⟩ (.slice a5 l5 c5)).setCell ⟨H, 0, none⟩ (.int .i64 k5)).setCell ⟨H, 1, none⟩ (.string (B n5))).setCell ⟨H, 2, none⟩ (.int .i64 i5)).setCell ⟨H, 3, none⟩ (.slice a5 l5 c5)) := ⟨_, rfl⟩
    have hU9 : Upto (fun b => b = P ∨ b = H) w2 w9 := by rw [hw9]; exact ((hU5.mono (fun _ _ e => e.elim)).trans s1.2 (fun i hi e => .inl e)).trans s2.2 (fun i hi e => .inr e)
    have hR9 : Rep (fun b => b < H) w9 t5.dat [.int .i64 k5, .string (B n5), .int .i64 i5, .slice a5 l5 c5] := by
      rw [hw9]
      refine Rep.weaken (fun b _ e => ?_) _ _ (Rep.keep s2.2 (fun b e => ⟨.inl (by omega), by omega⟩) _ _ (Rep.keep s1.2 (fun b e => ⟨.inr e, by omega⟩) _ _ hR5))
      exact ⟨.inl (by omega), by omega⟩
    have hB9 : Box4 w9 H (.int .i64 k5) (.string (B n5)) (.int .i64 i5) (.slice a5 l5 c5) 29 := by rw [hw9]; exact s2.1
    rw [← hw9]
    clear hw9
    obtain ⟨e0, e1, e2, e3⟩ := hB9.cells
    refine bodyPost_ret (v := .agg #[.int .i64 k5, .string (B n5), .int .i64 i5, .slice a5 l5 c5]) ?_ rfl ?_
    · simp [results, Tryz.f16, go_sem, e0, e1, e2, e3]
    · exact ⟨k5, i5, n5, a5, l5, c5, t5, rfl, hR9, by omega, hT2.far hU9 (fun b e => by omega), hN2.far hU9 (fun b e => by omega), hUT2.trans hU9 (fun b hb e => by have := HH.out; omega)⟩
  · have hc' : (c == 0) = false := by simpa using hc
    clear hc
    obtain ⟨p0, p1, p2, p3⟩ := hr2.frozens
    obtain ⟨o0, o1, o2, o3⟩ := hr2.cells
    have hrl5 := hr2.lt
    go_wp2_with (first | ((go_at_call 18); (with_reducible refine (K0 _).mono ?_); rintro e w7 ⟨rfl, rfl⟩))
    have s2 := hr2.set (d0 := .int .i64 k1) (d1 := .string (B n1)) (d2 := .int .i64 i1) (d3 := .slice a1 len1 cap1)
    obtain ⟨w9, hw9⟩ : ∃ w9, w9 = ((((w2.setCell ⟨H, 0, none⟩ (.int .i64 k1)).setCell ⟨H, 1, none⟩ (.string (B n1))).setCell ⟨H, 2, none⟩ (.int .i64 i1)).setCell ⟨H, 3, none⟩ (.slice a1 len1 cap1)) := ⟨_, rfl⟩
    rw [← hw9] at s2
    have hR9 := Rep.weaken (O' := fun b => b < H) (fun b _ e => .inl (by omega)) _ _ (Rep.keep s2.2 (fun b e => .inl (by omega)) _ _ hR2)
    rw [← hw9]
    clear hw9
    obtain ⟨e0, e1, e2, e3⟩ := s2.1.cells
    refine bodyPost_ret (v := .agg #[.int .i64 k1, .string (B n1), .int .i64 i1, .slice a1 len1 cap1]) ?_ rfl ?_
    · simp [results, Tryz.f16, go_sem, e0, e1, e2, e3]
    · exact ⟨k1, i1, n1, a1, len1, cap1, t, rfl, hR9, by omega, hT2.far s2.2 (fun b e => by omega), hN2.far s2.2 (fun b e => by omega), hUT2.trans s2.2 (fun b hb e => by have := HH.out; omega)⟩
end Go.Proofs.YtdomloghcpfdjaaGreatDoor
