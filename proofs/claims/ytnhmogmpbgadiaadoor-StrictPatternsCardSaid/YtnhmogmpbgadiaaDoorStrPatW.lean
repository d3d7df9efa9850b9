/- StrictPatterns: its walk. -/
import Derived.Test.YtnhmogmpbgadiaaDoorCQ
namespace Go.Proofs.YtnhmogmpbgadiaaDoor
open Go.RowKit Go.LF
set_option maxRecDepth 100000 in
set_option maxHeartbeats 8000000 in
theorem strPatterns_walk (l : List Int) (a : Option Addr) (len cap : Nat) (hl : l.length = len) (hlen : len ≤ 17592186044416) (kn : List Bool) (na : Option Addr) (nlen nc : Nat) (hnl : kn.length = nlen) (hnlen : nlen ≤ 281474976710656) (w : World) (hE : RepE none' w 1 (l.map (Dat.int .i64)) a 0) (hE' : RepE none' w 1 (kn.map Dat.bool) na 0) (hN : NamesRead w) :
    Calls Tryd.prog 4 #[.slice a len cap, .slice na nlen nc] w fun e w' => e = .returned (.bool true) ∧ Upto none' w w' := by
  subst hnl
  have hT := tape_new (cap := cap) (U := 25) hl hlen hE
  have hN1 : NamesOk w.heap.size (w.alloc (.cells #[.slice a len cap, .int .i64 0] 25)) := hN.ok ((Upto.refl none' w).alloc _) (Nat.le_refl _)
  have hU1 : Upto none' w (w.alloc (.cells #[.slice a len cap, .int .i64 0] 25)) := (Upto.refl none' w).alloc _
  clear hE hN hl hlen
  obtain ⟨T, hTT⟩ : ∃ T, T = w.heap.size := ⟨_, rfl⟩
  rw [← hTT] at hT hN1
  have KI := fun (W : World) h => kinds22_any T W h
  have TE := fun (W : World) h h' => term22_any T W h h'
  have HTT := hid hTT
  clear hTT
  go_enter Tryd.func4, Tryd.ntmps4
  go_wp2_with fail
  rw [← HTT.out]
  refine (KI _ hT).mono ?_
  rintro e w1 ⟨ks, ka, kc, rfl, hks, hK, hT1, hU2⟩
  have hN2 := hN1.keep hU2
  have hU3 : Upto none' w w1 := hU1.trans hU2 (fun b hb e => by simp only [isT] at e; have := HTT.out; omega)
  clear hT hN1 hU1 hU2
  go_wp2_with fail
  refine (TE _ hT1 hN2).mono ?_
  rintro e w2 ⟨k1, i1, n1, a1, len1, cap1, t, rfl, hR, hwt, hU4⟩
  have hU5 : Upto none' w w2 := hU3.trans hU4 (fun b hb e => by simp only [isT] at e; have := HTT.out; omega)
  have hK2 : RepE none' w2 1 (ks.map (Dat.int .i64)) ka 0 := RepE.weaken (fun _ _ x => x.elim) _ _ _ _ (RepE.keep hU4 (fun b e => by simp only [isT] at e; have := HTT.out; rw [World.size_alloc]; omega) _ _ _ _ hK)
  obtain ⟨w3, hw3⟩ : ∃ w3, w3 = w2.alloc (.cells #[.int .i64 k1, .string (B n1), .int .i64 i1, .slice a1 len1 cap1] 29) := ⟨_, rfl⟩
  have S3 : Lay22 w2.heap.size k1 n1 i1 a1 len1 cap1 t ks ka w w3 := by
    rw [hw3]; exact lay22_new (Rep.weaken (fun _ _ x => x.elim) _ _ hR) hK2 hU5
  obtain ⟨A, hA⟩ : ∃ A, A = w2.heap.size := ⟨_, rfl⟩
  rw [← hA] at S3
  have HW := hid hw3
  have HA := hid hA
  have hNK : RepE none' w3 1 (kn.map Dat.bool) na 0 := hE'.on (by rw [hw3]; exact hU5.alloc _)
  have C1 := fun W (h : Lay22 A k1 n1 i1 a1 len1 cap1 t ks ka w W) => patterns_any t (by omega) ks (by omega) ka kc W _ h.kin h.rep
  have C2 := fun W (h : Lay22 A k1 n1 i1 a1 len1 cap1 t ks ka w W) => refPatternsV_any t (by omega) ks (by omega) ka kc W _ h.kin h.rep
  have C3 := fun W (h : Lay22 A k1 n1 i1 a1 len1 cap1 t ks ka w W) (h' : RepE none' W 1 (kn.map Dat.bool) na 0) => known_any t (by omega) ks (by omega) ka kc kn na nc hnlen W _ h.kin h' h.rep
  have C4 := fun W (h : Lay22 A k1 n1 i1 a1 len1 cap1 t ks ka w W) (h' : RepE none' W 1 (kn.map Dat.bool) na 0) => refKnown_any t (by omega) ks (by omega) ka kc kn na nc hnlen W _ h.kin h' h.rep
  generalize patternsV t ks = L1 at *
  generalize knownV t ks kn = L2 at *
  have AW := awake22
  clear hE' hw3 hA hT1 hN2 hR hK hK2 hU3 hU4 hU5 hwt KI TE hks
  go_upto_region 4 with fail
  rw [← HW.out, ← HA.out]
  have Sd := S3.on (Upto.refl none' w3).drew
  have Nd := hNK.on (Upto.refl none' w3).drew
  go_region_held3 (fun w' => TcS A (.int .i64 k1) (.string (B n1)) (.int .i64 i1) (.slice a1 len1 cap1) w')
    (first | (with_reducible assumption) | (with_reducible exact Sd.box))
    (first
      | ((go_at_call 19); (with_reducible refine (C1 _ Sd).mono ?_); rintro e w5 ⟨rfl, hU5⟩; have S5 := Sd.on hU5; have B5 := S5.box; have N5 := Nd.on hU5)
      | ((go_at_call 20); (with_reducible refine (C2 _ S5).mono ?_); rintro e w6 ⟨rfl, hU6⟩; have S6 := S5.on hU6; have B6 := S6.box; have N6 := N5.on hU6; have hbb : (L1 == L1) = true := beq_self_eq_true _)
      | ((go_at_call 21); (with_reducible refine (C3 _ S6 N6).mono ?_); rintro e w7 ⟨rfl, hU7⟩; have S7 := S6.on hU7; have B7 := S7.box; have N7 := N6.on hU7)
      | ((go_at_call 22); (with_reducible refine (C4 _ S7 N7).mono ?_); rintro e w8 ⟨rfl, hU8⟩; have S8 := S7.on hU8; have B8 := S8.box; have hbb2 : (L2 == L2) = true := beq_self_eq_true _)
      | ((go_at_call 18); (with_reducible refine (AW _).mono ?_); rintro e w11 ⟨rfl, hU11⟩; have S11 := S8.on hU11; have B11 := S11.box))
  all_goals
    go_wp2_with fail
    go_ret
    exact ⟨rfl, S11.up⟩
end Go.Proofs.YtnhmogmpbgadiaaDoor
