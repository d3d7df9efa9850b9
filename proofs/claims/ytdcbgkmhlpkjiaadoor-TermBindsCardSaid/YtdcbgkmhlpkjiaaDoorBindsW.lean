/- TermBinds: its walk. -/
import Derived.Test.YtdcbgkmhlpkjiaaDoorMadeTerm
import Derived.Test.YtdcbgkmhlpkjiaaDoorAwake05
import Derived.Test.YtdcbgkmhlpkjiaaDoorBindsP
import Derived.Test.YtdcbgkmhlpkjiaaDoorArgs
import Derived.Deep.RegionHeld3
namespace Go.Proofs.YtdcbgkmhlpkjiaaDoor
open Go.RowKit Go.LF

/-- A tape that a law makes. -/
theorem tape_new {w : World} {a : Option Addr} {len cap : Nat} {l : List Int} {U : TypeId} (hl : l.length = len) (hlen : len ≤ 17592186044416) (hE : RepE none' w 1 (l.map (Dat.int .i64)) a 0) :
    TapeOk (w.alloc (.cells #[.slice a len cap, .int .i64 0] U)) w.heap.size := by
  subst hl
  refine ⟨l, a, cap, 0, ?_, ?_, ?_, Nat.zero_le _, by omega, ?_⟩
  · rw [World.cell?_alloc_new]; rfl
  · rw [World.cell?_alloc_new]; rfl
  · simp
  · have hf : RepE (fun b => w.heap.size ≤ b) w 1 (l.map (Dat.int .i64)) a 0 := RepE.weaken (fun _ _ h => .inr h) _ _ _ _ (RepE.fresh' 1 _ _ _ hE)
    exact hf.on ((Upto.refl none' w).alloc _)

/-- What the walk needs of a world: the variables t and u, and what they hold. -/
abbrev BdS (W : World) (b : Nat) (k1 : Int) (n1 : List UInt8) (i1 : Int) (a1 : Option Addr) (len1 cap1 : Nat) (w' : World) : Prop :=
  (w'.cell? ⟨b, 0, none⟩ = some (.int .i64 k1) ∧ w'.cell? ⟨b, 1, none⟩ = some (.string (B n1)) ∧ w'.cell? ⟨b, 2, none⟩ = some (.int .i64 i1) ∧ w'.cell? ⟨b, 3, none⟩ = some (.slice a1 len1 cap1)) ∧
  (w'.cell? ⟨b + 1 + 1, 0, none⟩ = some (.int .i64 3) ∧ w'.cell? ⟨b + 1 + 1, 1, none⟩ = some (.string (B [])) ∧ w'.cell? ⟨b + 1 + 1, 2, none⟩ = some (.int .i64 0) ∧ w'.cell? ⟨b + 1 + 1, 3, none⟩ = some (.slice (some ⟨b + 1, 0, none⟩) 1 1)) ∧ Upto none' W w'
theorem BdS.on {W w' w1 : World} {b : Nat} {k1 : Int} {n1 : List UInt8} {i1 : Int} {a1 : Option Addr} {len1 cap1 : Nat} (h : BdS W b k1 n1 i1 a1 len1 cap1 w') (hU : Upto none' w' w1) : BdS W b k1 n1 i1 a1 len1 cap1 w1 :=
  ⟨box_on hU h.1, box_on hU h.2.1, h.2.2.and hU⟩
theorem BdS.up {W w' : World} {b : Nat} {k1 : Int} {n1 : List UInt8} {i1 : Int} {a1 : Option Addr} {len1 cap1 : Nat} (h : BdS W b k1 n1 i1 a1 len1 cap1 w') : Upto none' W w' := h.2.2
theorem binds_lay (w1 w2 : World) (t : Tm) (k1 : Int) (n1 : List UInt8) (i1 : Int) (a1 : Option Addr) (len1 cap1 : Nat) (hR : Rep none' w1 t.dat [.int .i64 k1, .string (B n1), .int .i64 i1, .slice a1 len1 cap1])
    (h2 : w2 = ((w1.alloc (.cells #[.int .i64 k1, .string (B n1), .int .i64 i1, .slice a1 len1 cap1] 25)).alloc (.cells #[.int .i64 k1, .string (B n1), .int .i64 i1, .slice a1 len1 cap1] 25)).alloc
      (.cells #[.int .i64 3, .string (B []), .int .i64 0, .slice (some ⟨w1.heap.size + 1, 0, none⟩) 1 1] 25)) :
    BdS w2 w1.heap.size k1 n1 i1 a1 len1 cap1 w2 ∧ Rep none' w2 t.dat [.int .i64 k1, .string (B n1), .int .i64 i1, .slice a1 len1 cap1] ∧
      Rep none' w2 (Tm.lam t).dat [.int .i64 3, .string (B []), .int .i64 0, .slice (some ⟨w1.heap.size + 1, 0, none⟩) 1 1] ∧ Upto none' w1 w2 := by
  subst h2
  have hU := (((Upto.refl none' w1).alloc (.cells #[.int .i64 k1, .string (B n1), .int .i64 i1, .slice a1 len1 cap1] 25)).alloc (.cells #[.int .i64 k1, .string (B n1), .int .i64 i1, .slice a1 len1 cap1] 25)).alloc
      (.cells #[.int .i64 3, .string (B []), .int .i64 0, .slice (some ⟨w1.heap.size + 1, 0, none⟩) 1 1] 25)
  have b1 := ((Box4.new w1 (.int .i64 k1) (.string (B n1)) (.int .i64 i1) (.slice a1 len1 cap1) 25).kept ((Upto.refl none' _).alloc (.cells #[.int .i64 k1, .string (B n1), .int .i64 i1, .slice a1 len1 cap1] 25))).kept ((Upto.refl none' _).alloc (.cells #[.int .i64 3, .string (B []), .int .i64 0, .slice (some ⟨w1.heap.size + 1, 0, none⟩) 1 1] 25))
  refine ⟨⟨b1.cells, (Box4.at_new (T := 25) (by simp)).cells, Upto.refl _ _⟩, hR.on hU, ?_, hU⟩
  exact rep_one (hR.on hU) (fun x => x) ((Box4.at_new (T := 25) (by simp)).kept ((Upto.refl none' _).alloc _)) 3 [] 0

set_option maxRecDepth 100000 in
set_option maxHeartbeats 8000000 in
theorem binds_walk (l : List Int) (a : Option Addr) (len cap : Nat) (hl : l.length = len) (hlen : len ≤ 17592186044416) (w : World) (hE : RepE none' w 1 (l.map (Dat.int .i64)) a 0) (hN : NamesRead w) :
    Calls Tryd.prog 5 #[.slice a len cap] w fun e w' => e = .returned (.bool true) ∧ Upto none' w w' := by
  have hT := tape_new (cap := cap) (U := 46) hl hlen hE
  have hN1 : NamesOk w.heap.size (w.alloc (.cells #[.slice a len cap, .int .i64 0] 46)) := hN.ok ((Upto.refl none' w).alloc _) (Nat.le_refl _)
  have HT : ∀ (W : World), TapeOk W w.heap.size → NamesOk w.heap.size W → Calls Tryd.prog 45 #[.pointer (some ⟨w.heap.size, 0, none⟩), .int .i64 4, .int .i64 5, .int .i64 2] W (Makes W.heap.size 4 5 2 w.heap.size W) :=
    fun W h1 h2 => term_any 4 (by omega) 5 2 (by omega) (by omega) w.heap.size W h1 h2
  have hU1 : Upto none' w (w.alloc (.cells #[.slice a len cap, .int .i64 0] 46)) := (Upto.refl none' w).alloc _
  clear hE hN hl hlen
  go_enter Tryd.func5, Tryd.ntmps5
  go_wp2_with fail
  refine (HT _ hT hN1).mono ?_
  rintro e w1 ⟨k1, i1, n1, a1, len1, cap1, t, rfl, hR, hF, _, _, hU⟩
  have hw1 : Upto none' w w1 := hU1.trans hU (fun b hb e => by simp only [isT] at e; omega)
  have hs1 : w.heap.size < w1.heap.size := by have := hU.size; simp at this; omega
  clear hT hN1 hU1 HT hU
  replace hR : Rep none' w1 t.dat [.int .i64 k1, .string (B n1), .int .i64 i1, .slice a1 len1 cap1] := Rep.weaken (fun _ _ x => x.elim) _ _ hR
  go_wp2_with fail
  obtain ⟨w2, hw2⟩ : ∃ w2, w2 = ((w1.alloc (.cells #[.int .i64 k1, .string (B n1), .int .i64 i1, .slice a1 len1 cap1] 25)).alloc (.cells #[.int .i64 k1, .string (B n1), .int .i64 i1, .slice a1 len1 cap1] 25)).alloc
      (.cells #[.int .i64 3, .string (B []), .int .i64 0, .slice (some ⟨w1.heap.size + 1, 0, none⟩) 1 1] 25) := ⟨_, rfl⟩
  obtain ⟨S2, hRt, hRu, hU2⟩ := binds_lay w1 w2 t k1 n1 i1 a1 len1 cap1 hR hw2
  rw [← hw2]
  have hw := hw1.and hU2
  clear hw2 hR hw1 hU2
  have hz : (t.scope) ≤ 5 := hF.scope
  have hwf := hF.wf0 (by omega)
  have hwf' := hF.lam.wf0 (by omega)
  have hsm := hF.small (by omega)
  have hsm' := hF.lam.small (by omega)
  have hz0 : 0 ≤ t.scope := (Tm.scope_le t (Tm.wf_ok t hwf).1).1
  have hd1 := hF.depth
  have hs2 := hF.size
  obtain ⟨sc, hsc⟩ : ∃ sc, sc = t.scope := ⟨_, rfl⟩
  obtain ⟨sz, hsz⟩ : ∃ sz : Int, sz = (t.size : Int) := ⟨_, rfl⟩
  obtain ⟨dp, hdp⟩ : ∃ dp : Int, dp = (t.depth : Int) := ⟨_, rfl⟩
  have CS := fun w' (h : Rep none' w' t.dat [.int .i64 k1, .string (B n1), .int .i64 i1, .slice a1 len1 cap1]) => scope_at (w := w') t sc hsm.1 (by rw [hwf, hsc]; rfl) h
  have CS' := fun w' (h : Rep none' w' (Tm.lam t).dat [.int .i64 3, .string (B []), .int .i64 0, .slice (some ⟨w1.heap.size + 1, 0, none⟩) 1 1]) => scope_at (w := w') (Tm.lam t) (max (sc - 1) 0) hsm'.1 (by rw [hwf', Tm.lam_scope, hsc]; rfl) h
  have CZ := fun w' (h : Rep none' w' t.dat [.int .i64 k1, .string (B n1), .int .i64 i1, .slice a1 len1 cap1]) => size_at (w := w') t sz hsm.2 hsz.symm h
  have CZ' := fun w' (h : Rep none' w' (Tm.lam t).dat [.int .i64 3, .string (B []), .int .i64 0, .slice (some ⟨w1.heap.size + 1, 0, none⟩) 1 1]) => size_at (w := w') (Tm.lam t) (sz + 1) hsm'.2 (by rw [hsz]; simp [Tm.sizes]) h
  have CD := fun w' (h : Rep none' w' t.dat [.int .i64 k1, .string (B n1), .int .i64 i1, .slice a1 len1 cap1]) => depth_at (w := w') t dp hsm.2 hdp.symm h
  have CD' := fun w' (h : Rep none' w' (Tm.lam t).dat [.int .i64 3, .string (B []), .int .i64 0, .slice (some ⟨w1.heap.size + 1, 0, none⟩) 1 1]) => depth_at (w := w') (Tm.lam t) (dp + 1) hsm'.2 (by rw [hdp]; simp [Tm.depths]) h
  have CO := fun w' (v : Int) (h0 : 0 ≤ v) (h : Rep none' w' t.dat [.int .i64 k1, .string (B n1), .int .i64 i1, .slice a1 len1 cap1]) => occurs_at (w := w') t v (t.occ v) hsm.1 (by rw [hwf, decide_eq_true h0]; simp) h
  have CO' := fun w' (v : Int) (h0 : 0 ≤ v) (h : Rep none' w' (Tm.lam t).dat [.int .i64 3, .string (B []), .int .i64 0, .slice (some ⟨w1.heap.size + 1, 0, none⟩) 1 1]) => occurs_at (w := w') (Tm.lam t) v (t.occ (v + 1)) hsm'.1 (by rw [hwf', decide_eq_true h0, Tm.lam_occ]; simp) h
  have q0 : 0 ≤ sc := by omega
  have q1 : sc ≤ 5 := by omega
  have q2 : 0 ≤ sz := by omega
  have q3 : sz ≤ 1000000 := by omega
  have q4 : 0 ≤ dp := by omega
  have q5 : dp ≤ 1000000 := by omega
  obtain ⟨mx, hmx⟩ : ∃ mx, mx = max (sc - 1) 0 := ⟨_, rfl⟩
  rw [← hmx] at CS'
  have hcase : (sc = 0 ∧ mx = 0) ∨ (1 ≤ sc ∧ mx = sc - 1) := by omega
  clear hmx
  have HSC := hid hsc
  clear hsc hsz hdp hz hz0 hd1 hs2 hwf hwf' hsm hsm'
  have S2d := S2.on (Upto.refl none' w2).drew
  rcases hcase with ⟨rfl, rfl⟩ | ⟨g1, rfl⟩
  case' inr =>
    have g2 : (if sc - 1 < 0 then (0 : Int) else sc - 1) = sc - 1 := if_neg (by omega)
    have g3 : IntKind.i64.wrap (sc - 1) = sc - 1 := Go.IntWalk.i64_in _ (by omega)
  all_goals
    have r1 : IntKind.i64.wrap (sz + 1) = sz + 1 := Go.IntWalk.i64_in _ (by omega)
    have r2 : IntKind.i64.wrap (dp + 1) = dp + 1 := Go.IntWalk.i64_in _ (by omega)
  all_goals
   go_region_held3 (fun w' => BdS w2 w1.heap.size k1 n1 i1 a1 len1 cap1 w') (first | assumption | exact S2d | exact BdS.on (by assumption) (by assumption) | go_keep)
     (first
      | (go_at_call 31; (first | (with_reducible refine (CS' _ (hRu.on (BdS.up (by assumption)))).mono ?_) | (with_reducible refine (CS _ (hRt.on (BdS.up (by assumption)))).mono ?_)); rintro e w3 ⟨rfl, hU3⟩)
      | (go_at_call 27; (first | (with_reducible refine (CZ' _ (hRu.on (BdS.up (by assumption)))).mono ?_) | (with_reducible refine (CZ _ (hRt.on (BdS.up (by assumption)))).mono ?_)); rintro e w3 ⟨rfl, hU3⟩)
      | (go_at_call 29; (first | (with_reducible refine (CD' _ (hRu.on (BdS.up (by assumption)))).mono ?_) | (with_reducible refine (CD _ (hRt.on (BdS.up (by assumption)))).mono ?_)); rintro e w3 ⟨rfl, hU3⟩))
   go_wp2_with fail
   go_loopw [5, 6] (fun v5 v6 wr => ∃ k : Nat, k ≤ 6 ∧ v6 = .int .i64 k ∧ v5 = .int .i64 (Tm.lastOcc t k) ∧ BdS w2 w1.heap.size k1 n1 i1 a1 len1 cap1 wr) (fun _ v6 _ => 6 - (intOf v6).toNat)
   case atStart => exact ⟨0, by omega, rfl, rfl, by assumption⟩
   case round =>
    obtain ⟨k, hk, rfl, rfl, S4⟩ := hrel
    by_cases hlt : k < 6
    · obtain ⟨o1, ho1⟩ : ∃ o1, o1 = t.occ k := ⟨_, rfl⟩
      obtain ⟨o2, ho2⟩ : ∃ o2, o2 = t.occ ((k : Int) + 1) := ⟨_, rfl⟩
      have P1 := fun w' h => CO w' k (by omega) h
      have P2 := fun w' h => CO w' ((k : Int) + 1) (by omega) h
      have P3 := fun w' h => CO' w' k (by omega) h
      rw [← ho1] at P1
      rw [← ho2] at P2 P3
      have hlast : Tm.lastOcc t (k + 1) = if o1 then (k : Int) else Tm.lastOcc t k := by rw [Tm.lastOcc, ho1]
      have HL := hid hlast
      have HO := hid (And.intro ho1 ho2)
      clear hlast ho1 ho2
      have hk6 : (k : Int) < 6 := by omega
      have hk0 : (0 : Int) ≤ k := by omega
      have hkw : IntKind.i64.wrap ((k : Int) + 1) = (k : Int) + 1 := Go.IntWalk.i64_in _ (by omega)
      obtain ⟨C4, D4, E4⟩ := S4
      generalize hlo : Tm.lastOcc t k = lo at *
      go_wp2_with fail
      refine (P1 _ (hRt.on E4)).mono ?_
      rintro e w5 ⟨rfl, U5⟩
      have S5 := BdS.on ⟨C4, D4, E4⟩ U5
      have S5d := S5.on (Upto.refl none' w5).drew
      clear C4 D4 E4
      cases o1
      all_goals
        go_wp2_with fail
        go_region_held3 (fun w' => BdS w2 w1.heap.size k1 n1 i1 a1 len1 cap1 w') (first | assumption | exact S5d | exact BdS.on (by assumption) (by assumption) | go_keep)
          ((go_at_call 33; (first | (with_reducible refine (P3 _ (hRu.on (BdS.up (by assumption)))).mono ?_) | (with_reducible refine (P2 _ (hRt.on (BdS.up (by assumption)))).mono ?_)); rintro e w6 ⟨rfl, U6⟩))
        go_wp2_with fail
        go_roundw
        case rel => exact ⟨k + 1, by omega, by go_num, int_eq (by rw [HL.out]; first | rfl | exact hlo.symm), by assumption⟩
        case measure => simp [intOf]; omega
    · obtain rfl : k = 6 := by omega
      obtain ⟨C4, D4, E4⟩ := S4
      have hlo := (Tm.lastOcc_eq t (by rw [← HSC.out]; omega) 6).2.2 (by rw [← HSC.out]; omega)
      rw [← HSC.out] at hlo
      have hl1 := (Tm.lastOcc_eq t (by rw [← HSC.out]; omega) 6)
      obtain ⟨hl1, hl2, _⟩ := hl1
      generalize Tm.lastOcc t 6 = lo at *
      have HLO := hid hlo
      clear hlo
      go_wp2_with fail
      refine (CS _ (hRt.on E4)).mono ?_
      rintro e w5 ⟨rfl, U5⟩
      have hb := beq_iff_eq.2 HLO.out.symm
      go_wp2_with fail
      refine (awake05 _).mono ?_
      rintro e w6 ⟨rfl, U6⟩
      go_wp2
      go_ret
      exact ⟨rfl, ((hw.and E4).and U5).and U6⟩
end Go.Proofs.YtdcbgkmhlpkjiaaDoor
