/- The objects that a law makes. -/
import Derived.Test.YtdomloghcpfdjaaGreatDoorRCH
namespace Go.Proofs.YtdomloghcpfdjaaGreatDoor
open Go.RowKit Go.LF
set_option maxRecDepth 100000 in
set_option maxHeartbeats 8000000 in
theorem term_any (deep : Nat) : deep ≤ 12 → ∀ (vars metas : Nat), vars + deep ≤ 1000 → metas ≤ 1000 → ∀ (T : Nat) (w : World), TapeOk w T → NamesOk T w →
    Calls Tryz.prog 31 #[.pointer (some ⟨T, 0, none⟩), .int .i64 deep, .int .i64 vars, .int .i64 metas] w (Makes w.heap.size deep vars metas T w) := by
  induction deep with
  | zero => intro _ vars metas hv hm T w hT hN; exact leaf_any vars metas (by omega) hm T w hT hN
  | succ d ih =>
    intro hd vars metas hv hm T w hT hN
    obtain ⟨D, hD⟩ : ∃ D : Int, D = ((d + 1 : Nat) : Int) := ⟨_, rfl⟩
    obtain ⟨V, hV⟩ : ∃ V : Int, V = (vars : Int) := ⟨_, rfl⟩
    obtain ⟨M, hM⟩ : ∃ M : Int, M = (metas : Int) := ⟨_, rfl⟩
    rw [← hD, ← hV, ← hM]
    have NX := fun (n : Int) h0 h1 w hT => next_any n h0 h1 T w hT
    have D0 : 0 < D := by omega
    have D1 : D ≤ 13 := by omega
    have V0 : 0 ≤ V := by omega
    have V1 : V ≤ 1000 := by omega
    have M0 : 0 ≤ M := by omega
    have M1 : M ≤ 1000 := by omega
    have HD := hid hD
    have HV := hid hV
    have HM := hid hM
    clear hD hV hM
    have hTl := hT.lt
    go_enter Tryz.func31, Tryz.ntmps31
    go_wp2_with fail
    refine (NX _ (by omega) (by omega) _ ((hT.on ((Upto.refl none' w).alloc _)).on ((Upto.refl none' _).alloc _))).mono ?_
    rintro e w1 ⟨⟨c, hc, rfl⟩, hT1, hU1⟩
    have hk0 : w1.heap[w.heap.size + 1]? = some (.cells #[.int .i64 3, .int .i64 4, .int .i64 4, .int .i64 5, .int .i64 6] 3 (0, 0)) := by
      rw [hU1.block _ (by simp) (fun e => by simp only [isT] at e; omega)]
      have := heap_alloc_new (w.alloc (.cells #[.int .i64 0, .string (B []), .int .i64 0, .slice none 0 0] 29)) (.cells #[.int .i64 3, .int .i64 4, .int .i64 4, .int .i64 5, .int .i64 6] 3)
      rw [World.size_alloc] at this
      exact this
    obtain ⟨kk, hkc, hkk⟩ := kinds_at hk0 c hc
    have hw1 : Upto (isT T) w w1 := (((Upto.refl (isT T) w).alloc _).alloc _).trans hU1 (fun _ _ x => x)
    have c0 : (0 : Int) ≤ (c : Int) := by omega
    have c5 : (c : Int) < 5 := hc
    clear hk0 hT
    have hres : Box4 w1 w.heap.size (.int .i64 0) (.string (B [])) (.int .i64 0) (.slice none 0 0) 29 := by
      unfold Box4
      rw [hU1.block _ (by simp; omega) (fun e => by simp only [isT] at e; omega)]
      exact (heap_old _ _ _ (by simp)).trans (heap_alloc_new w _)
    clear hU1
    have hNl : NamesOk T w1 := hN.keep hw1
    clear hN
    have hresne : w.heap.size ≠ T := by omega
    have hways : kk = 3 ∨ kk = 4 ∨ (kk = 5 ∧ V = 0) ∨ (kk = 6 ∧ M = 0) ∨ (kk = 5 ∧ (V == 0) = false ∧ 0 < V) ∨ (kk = 6 ∧ (M == 0) = false ∧ 0 < M) := by
      rcases hkk with rfl | rfl | rfl | rfl
      · exact .inl rfl
      · exact .inr (.inl rfl)
      · by_cases h : V = 0
        · exact .inr (.inr (.inl ⟨rfl, h⟩))
        · exact .inr (.inr (.inr (.inr (.inl ⟨rfl, by simpa using h, by omega⟩))))
      · by_cases h : M = 0
        · exact .inr (.inr (.inr (.inl ⟨rfl, h⟩)))
        · exact .inr (.inr (.inr (.inr (.inr ⟨rfl, by simpa using h, by omega⟩))))
    clear hkk
    rcases hways with rfl | rfl | ⟨rfl, rfl⟩ | ⟨rfl, rfl⟩ | ⟨rfl, hp0, hp⟩ | ⟨rfl, hp0, hp⟩
    case inl =>
      obtain ⟨nb, no, ncap, hnc6, hT0, hTnb, hnc, hncs⟩ := hNl.open
      go_wp2_with fail
      obtain ⟨w2, hw2⟩ : ∃ w2, w2 = w1.alloc (.cells #[.int .i64 3, .string (B []), .int .i64 0, .slice none 0 0] 29) := ⟨_, rfl⟩
      have hU2 : Upto none' w1 w2 := by rw [hw2]; exact (Upto.refl none' w1).alloc _
      have hout : Box4 w2 w1.heap.size (.int .i64 3) (.string (B [])) (.int .i64 0) (.slice none 0 0) 29 := by rw [hw2]; exact Box4.new _ _ _ _ _ _
      have hres2 := hres.kept hU2
      have hT2 := hT1.on hU2
      have hN2 := hNl.on hU2
      have hnc2 := hU2.cell hnc (fun x => x)
      have hns2 : NameCells nb no w2 := hncs.keep (hU2.mono (fun _ _ x => x.elim)) hTnb
      have hoT : w1.heap.size ≠ T := by have := hT1.lt; omega
      have hsz : w.heap.size < w1.heap.size := hres.lt
      have hnbl : nb < w1.heap.size := World.block_lt_of_cell? _ _ (hncs 0 (by decide))
      have hne0 : (⟨w1.heap.size, 1, none⟩ : Addr) ≠ ⟨0, 0, none⟩ := by intro e; have : w1.heap.size = 0 := congrArg Addr.block e; omega
      have hnej : ∀ j, (⟨w1.heap.size, 1, none⟩ : Addr) ≠ ⟨nb, no + j, none⟩ := by intro j e; have : w1.heap.size = nb := congrArg Addr.block e; omega
      rw [← show B [] = { data := #[] } from rfl, ← hw2]
      clear hw2 hT1 hNl hnc hres hncs
      have ho1 := hout.cells
      have hof := hout.frozens
      have hns2' : ∀ j, j < 6 → w2.drew.cell? ⟨nb, no + j, none⟩ = some (.string (B (nameAt j))) := hns2
      have hnc2' : w2.drew.cell? ⟨0, 0, none⟩ = some (.slice (some ⟨nb, no, none⟩) 6 ncap) := hnc2
      have ho1' : w2.drew.cell? ⟨w1.heap.size, 1, none⟩ = some (.string (B [])) := ho1.2.1
      have hof' : w2.drew.frozen? ⟨w1.heap.size, 1, none⟩ = false := hof.2.1
      go_region_held3 (fun w' => w'.cell? ⟨0, 0, none⟩ = some (.slice (some ⟨nb, no, none⟩) 6 ncap) ∧ (∀ j, j < 6 → w'.cell? ⟨nb, no + j, none⟩ = some (.string (B (nameAt j)))))
        (first | (exact ⟨by assumption, by assumption⟩) | (exact ⟨(World.cell?_setCell_other _ _ _ _ hne0).trans hnc3, fun j hj => (World.cell?_setCell_other _ _ _ _ (hnej j)).trans (hns3 j hj)⟩))
        ((go_at_call 30; refine (NX _ (by omega) (by omega) _ (hT2.on (Upto.refl none' w2).drew)).mono ?_; rintro e w3 ⟨⟨c2, hc2, rfl⟩, hT3, hU3⟩;
          have hU3' : Upto (isT T) w2 w3 := Upto.trans ((Upto.refl (isT T) w2).drew) hU3 (fun _ _ x => x);
          have hc2n : c2 < 6 := (by omega); have hns3 : ∀ j, j < 6 → w3.cell? ⟨nb, no + j, none⟩ = some (.string (B (nameAt j))) := hns2.keep hU3' hTnb; have hnc3 := hU3'.cell hnc2 (fun e => hT0 e.symm); have hout3 := hout.keep hU3' hoT; have ho3 := hout3.cells.2.1; have hf3 := hout3.frozen 1))
      obtain ⟨w4, hw4⟩ : ∃ w4, w4 = w3.setCell ⟨w1.heap.size, 1, none⟩ (.string (B (nameAt c2))) := ⟨_, rfl⟩
      have hw3 : Upto (isT T) w w3 := (hw1.trans hU2 (fun _ _ x => x.elim)).trans hU3' (fun _ _ x => x)
      have hN3 := hN2.keep hU3'
      have hset : Upto (fun b => b = w1.heap.size) w3 w4 := by rw [hw4]; exact Upto.setCell (S := fun b => b = w1.heap.size) (p := ⟨w1.heap.size, 1, none⟩) (Upto.refl _ w3) (fun _ => rfl) _
      have hT1l : T < w1.heap.size := by omega
      have hT4 := hT3.far hset (fun b e => by omega)
      have hN4 := hN3.far hset (fun b e => by omega)
      have hout4 : Box4 w4 w1.heap.size (.int .i64 3) (.string (B (nameAt c2))) (.int .i64 0) (.slice none 0 0) 29 := by rw [hw4]; exact hout3.set1 _
      have hres4 : Box4 w4 w.heap.size _ _ _ _ _ := (hres2.keep hU3' hresne).keep hset (by omega)
      have hw4U : Upto (isT T) w w4 := hw3.trans (hset.mono (S' := fun b => b = w1.heap.size) (fun _ _ x => x)) (fun b hb e => by omega)
      have IH : ∀ (x y : Int) (vr : Nat) (W : World), x = d → y = vr → vr + d ≤ 1000 → TapeOk W T → NamesOk T W → Calls Tryz.prog 31 #[.pointer (some ⟨T, 0, none⟩), .int .i64 x, .int .i64 y, .int .i64 M] W (Makes W.heap.size d vr metas T W) := by
        intro x y vr W hx hy h1 h2 h3
        rw [hx, hy, HM.out]
        exact ih (by omega) vr metas h1 hm T W h2 h3
      have hDd : D - 1 = (d : Int) := by have := HD.out; omega
      have hVv : V + 1 = ((vars + 1 : Nat) : Int) := by have := HV.out; omega
      have HDd := hid hDd
      have HVv := hid hVv
      clear hDd hVv
      rw [← hw4]
      clear hw4 hout hout3 hres2 hT2 hN2 hnc2 hns2 hns2' hnc2' ho1 hof ho1' hof' hns3 hnc3 ho3 hf3 hset hw3 hN3 hT3 hU3 hU3' hU2 hkc
      go_wp2_with fail
      refine (IH _ _ (vars + 1) _ HDd.out HVv.out (by omega) hT4 hN4).mono ?_
      rintro e w5 ⟨k1, i1, n1, a1, len1, cap1, t, rfl, hR5, hF5, hT5, hN5, hU5⟩
      have hout5 := hout4.keep hU5 hoT
      have hres5 := hres4.keep hU5 hresne
      have ho5 := hout5.cells
      have hof5 := hout5.frozens
      have hr5 := hres5.cells
      have hrf5 := hres5.frozens
      have q1 : w1.heap.size < w5.heap.size := hout5.lt
      have q2 : w.heap.size < w5.heap.size := hres5.lt
      obtain ⟨b0, b1, b2, b3⟩ := ho5
      obtain ⟨d0, d1, d2, d3⟩ := hr5
      obtain ⟨f0, f1, f2, f3⟩ := hof5
      obtain ⟨g0, g1, g2, g3⟩ := hrf5
      go_wp2_with fail
      obtain ⟨w6, hw6⟩ : ∃ w6, w6 = (((((w5.setCell ⟨w1.heap.size, 3, none⟩ (.slice (some ⟨w5.heap.size, 0, none⟩) 1 1)).setCell ⟨w.heap.size, 0, none⟩ (.int .i64 3)).setCell ⟨w.heap.size, 1, none⟩ (.string (B (nameAt c2)))).setCell ⟨w.heap.size, 2, none⟩ (.int .i64 0)).setCell
          ⟨w.heap.size, 3, none⟩ (.slice (some ⟨w5.heap.size, 0, none⟩) 1 1)).alloc (.cells #[.int .i64 k1, .string (B n1), .int .i64 i1, .slice a1 len1 cap1] 29) := ⟨_, rfl⟩
      have hres6 : Box4 w6 w.heap.size (.int .i64 3) (.string (B (nameAt c2))) (.int .i64 0) (.slice (some ⟨w5.heap.size, 0, none⟩) 1 1) 29 := by
        rw [hw6]
        exact (((((hres5.other (by omega) _).set0 _).set1 _).set2 _).set3 _).kept ((Upto.refl none' _).alloc _)
      have hnew : Box4 w6 w5.heap.size (.int .i64 k1) (.string (B n1)) (.int .i64 i1) (.slice a1 len1 cap1) 29 := by
        rw [hw6]
        have := Box4.new (((((w5.setCell ⟨w1.heap.size, 3, none⟩ (.slice (some ⟨w5.heap.size, 0, none⟩) 1 1)).setCell ⟨w.heap.size, 0, none⟩ (.int .i64 3)).setCell ⟨w.heap.size, 1, none⟩ (.string (B (nameAt c2)))).setCell ⟨w.heap.size, 2, none⟩ (.int .i64 0)).setCell
          ⟨w.heap.size, 3, none⟩ (.slice (some ⟨w5.heap.size, 0, none⟩) 1 1)) (.int .i64 k1) (.string (B n1)) (.int .i64 i1) (.slice a1 len1 cap1) 29
        simpa using this
      have hU6 : Upto (fun b => b = w1.heap.size ∨ b = w.heap.size) w5 w6 := by
        rw [hw6]
        refine Upto.alloc ?_ _
        refine Upto.setCell ?_ (fun _ => .inr rfl) _
        refine Upto.setCell ?_ (fun _ => .inr rfl) _
        refine Upto.setCell ?_ (fun _ => .inr rfl) _
        refine Upto.setCell ?_ (fun _ => .inr rfl) _
        exact Upto.setCell (Upto.refl _ _) (fun _ => .inl rfl) _
      rw [← hw6]
      clear hw6
      have hT6 := hT5.far hU6 (fun b e => by omega)
      have hN6 := hN5.far hU6 (fun b e => by omega)
      have hw6U : Upto (isT T) w w6 := (hw4U.trans hU5 (fun _ _ x => x)).trans hU6 (fun b hb e => by omega)
      have hwl : w.heap.size ≤ w4.heap.size := hw4U.size
      have hR6 : Rep (fun b => b < w4.heap.size) w6 t.dat [.int .i64 k1, .string (B n1), .int .i64 i1, .slice a1 len1 cap1] := Rep.keep hU6 (fun b e => by have := hout4.lt; have := hres4.lt; rcases e with rfl | rfl <;> assumption) _ _ hR5
      obtain ⟨e0, e1, e2, e3⟩ := hres6.cells
      obtain ⟨n0, m1, m2, m3⟩ := hnew.cells
      refine bodyPost_ret (v := .agg #[.int .i64 3, .string (B (nameAt c2)), .int .i64 0, .slice (some ⟨w5.heap.size, 0, none⟩) 1 1]) ?_ rfl ?_
      · simp [results, Tryz.f31, go_sem, e0, e1, e2, e3]
      · refine ⟨3, 0, nameAt c2, some ⟨w5.heap.size, 0, none⟩, 1, 1, .mk 3 (nameAt c2) 0 [t], rfl, rep_tm.2 ⟨_, 1, rfl, Nat.le_refl _, ?_⟩, Tm.fits_lam hF5 _ (nameAt_ok c2).1 (nameAt_ok c2).2, hT6, hN6, hw6U⟩
        refine repE_of _ _ _ (fun i hi => ?_)
        obtain rfl : i = 0 := by simpa using hi
        refine ⟨w5.heap.size, 0, _, rfl, hnew.lt, by omega, ?_, ?_, Rep.weaken (fun b _ e => by omega) _ _ hR6⟩
        · rfl
        · intro m v hv
          match m, hv with
          | 0, hv => cases hv; exact n0
          | 1, hv => cases hv; exact m1
          | 2, hv => cases hv; exact m2
          | 3, hv => cases hv; exact m3
    case' inr.inl | inr.inr.inl | inr.inr.inr.inl =>
      go_wp2_with fail
      refine (NX _ (by omega) (by omega) _ ((hT1.on ((Upto.refl none' w1).alloc _)).on ((Upto.refl none' _).alloc _))).mono ?_
      rintro e w3 ⟨⟨c2, hc2, rfl⟩, hT3, hU3⟩
      have hk3 : w3.heap[w1.heap.size + 1]? = some (.cells #[.string (B [122]), .string (B [115]), .string (B [99]), .string (B [97, 112, 112])] 9 (0, 0)) := by
        rw [hU3.block _ (by simp) (fun e => by simp only [isT] at e; have := hT1.lt; omega)]
        have := heap_alloc_new (w1.alloc (.cells #[.int .i64 4, .string (B []), .int .i64 0, .slice none 0 0] 29)) (.cells #[.string (B [122]), .string (B [115]), .string (B [99]), .string (B [97, 112, 112])] 9)
        rw [World.size_alloc] at this
        exact this
      obtain ⟨nm, hnm, hnn, hnl⟩ := constNames_at hk3 c2 hc2
      have d0 : (0 : Int) ≤ (c2 : Int) := by omega
      have hoT : w1.heap.size ≠ T := by have := hT1.lt; omega
      have hout3 : Box4 w3 w1.heap.size (.int .i64 4) (.string (B [])) (.int .i64 0) (.slice none 0 0) 29 := by
        unfold Box4
        rw [hU3.block _ (by simp; omega) (fun e => by simp only [isT] at e; omega)]
        exact (heap_old _ _ _ (by simp)).trans (heap_alloc_new w1 _)
      have hw13 : Upto (isT T) w1 w3 := (((Upto.refl (isT T) w1).alloc _).alloc _).trans hU3 (fun _ _ x => x)
      clear hU3 hk3
      have ho3 := hout3.cells.2.1
      have hf3 := hout3.frozen 1
      have q1 : w.heap.size < w1.heap.size := hres.lt
      go_wp2_with fail
      obtain ⟨wp, hwp⟩ : ∃ wp, wp = w3.setCell ⟨w1.heap.size, 1, none⟩ (.string (B nm)) := ⟨_, rfl⟩
      have hset : Upto (fun b => b = w1.heap.size) w3 wp := by rw [hwp]; exact Upto.setCell (S := fun b => b = w1.heap.size) (p := ⟨w1.heap.size, 1, none⟩) (Upto.refl _ w3) (fun _ => rfl) _
      have hfin : ∃ kf nm ix, Box4 wp w1.heap.size (.int .i64 kf) (.string (B nm)) (.int .i64 ix) (.slice none 0 0) 29 ∧ (∀ ts : List Tm, ts.length ≤ 2 → (∀ t ∈ ts, Tm.Fits t d vars metas) → Tm.Fits (.mk kf nm ix ts) (d + 1) vars metas) :=
        ⟨4, nm, 0, by rw [hwp]; exact hout3.set1 _, fun ts h1 h2 => Tm.fits_node (.inl rfl) h1 h2 (fun _ => ⟨hnn, rfl⟩) (fun e => by omega) (fun e => by omega) (by omega) (by omega) hnl⟩
      clear hout3 ho3 hf3 hnm hnn hnl
    case' inr.inr.inr.inr.inl =>
      go_wp2_with fail
      refine (NX _ (by omega) (by omega) _ (hT1.on ((Upto.refl none' w1).alloc _))).mono ?_
      rintro e w3 ⟨⟨c2, hc2, rfl⟩, hT3, hU3⟩
      have hoT : w1.heap.size ≠ T := by have := hT1.lt; omega
      have hout3 : Box4 w3 w1.heap.size (.int .i64 5) (.string (B [])) (.int .i64 0) (.slice none 0 0) 29 := by
        unfold Box4
        rw [hU3.block _ (by simp) (fun e => by simp only [isT] at e; omega)]
        exact heap_alloc_new w1 _
      have hw13 : Upto (isT T) w1 w3 := ((Upto.refl (isT T) w1).alloc _).trans hU3 (fun _ _ x => x)
      clear hU3
      have ho3 := hout3.cells.2.2.1
      have hf3 := hout3.frozen 2
      have q1 : w.heap.size < w1.heap.size := hres.lt
      go_wp2_with fail
      obtain ⟨wp, hwp⟩ : ∃ wp, wp = w3.setCell ⟨w1.heap.size, 2, none⟩ (.int .i64 c2) := ⟨_, rfl⟩
      have hset : Upto (fun b => b = w1.heap.size) w3 wp := by rw [hwp]; exact Upto.setCell (S := fun b => b = w1.heap.size) (p := ⟨w1.heap.size, 2, none⟩) (Upto.refl _ w3) (fun _ => rfl) _
      have hfin : ∃ kf nm ix, Box4 wp w1.heap.size (.int .i64 kf) (.string (B nm)) (.int .i64 ix) (.slice none 0 0) 29 ∧ (∀ ts : List Tm, ts.length ≤ 2 → (∀ t ∈ ts, Tm.Fits t d vars metas) → Tm.Fits (.mk kf nm ix ts) (d + 1) vars metas) :=
        ⟨5, [], c2, by rw [hwp]; exact hout3.set2 _, fun ts h1 h2 => Tm.fits_node (.inr (.inl rfl)) h1 h2 (fun e => by omega) (fun _ => ⟨rfl, by omega, by have := HV.out; omega⟩) (fun e => by omega) (by omega) (by omega) (by simp)⟩
      clear hout3 ho3 hf3
    case' inr.inr.inr.inr.inr =>
      go_wp2_with fail
      refine (NX _ (by omega) (by omega) _ (hT1.on ((Upto.refl none' w1).alloc _))).mono ?_
      rintro e w3 ⟨⟨c2, hc2, rfl⟩, hT3, hU3⟩
      have hoT : w1.heap.size ≠ T := by have := hT1.lt; omega
      have hout3 : Box4 w3 w1.heap.size (.int .i64 6) (.string (B [])) (.int .i64 0) (.slice none 0 0) 29 := by
        unfold Box4
        rw [hU3.block _ (by simp) (fun e => by simp only [isT] at e; omega)]
        exact heap_alloc_new w1 _
      have hw13 : Upto (isT T) w1 w3 := ((Upto.refl (isT T) w1).alloc _).trans hU3 (fun _ _ x => x)
      clear hU3
      have ho3 := hout3.cells.2.2.1
      have hf3 := hout3.frozen 2
      have q1 : w.heap.size < w1.heap.size := hres.lt
      go_wp2_with fail
      obtain ⟨wp, hwp⟩ : ∃ wp, wp = w3.setCell ⟨w1.heap.size, 2, none⟩ (.int .i64 c2) := ⟨_, rfl⟩
      have hset : Upto (fun b => b = w1.heap.size) w3 wp := by rw [hwp]; exact Upto.setCell (S := fun b => b = w1.heap.size) (p := ⟨w1.heap.size, 2, none⟩) (Upto.refl _ w3) (fun _ => rfl) _
      have hfin : ∃ kf nm ix, Box4 wp w1.heap.size (.int .i64 kf) (.string (B nm)) (.int .i64 ix) (.slice none 0 0) 29 ∧ (∀ ts : List Tm, ts.length ≤ 2 → (∀ t ∈ ts, Tm.Fits t d vars metas) → Tm.Fits (.mk kf nm ix ts) (d + 1) vars metas) :=
        ⟨6, [], c2, by rw [hwp]; exact hout3.set2 _, fun ts h1 h2 => Tm.fits_node (.inr (.inr rfl)) h1 h2 (fun e => by omega) (fun e => by omega) (fun _ => ⟨rfl, by omega, by have := HM.out; omega⟩) (by omega) (by omega) (by simp)⟩
      clear hout3 ho3 hf3
    all_goals
      obtain ⟨kf, nm, ix, houtp, hfit⟩ := hfin
      have hT1l : T < w1.heap.size := by omega
      have hTp := hT3.far hset (fun b e => by omega)
      have hNp : NamesOk T wp := (hNl.keep hw13).far hset (fun b e => by omega)
      have hresp : Box4 wp w.heap.size _ _ _ _ _ := (hres.keep hw13 hresne).keep hset (by omega)
      have hwpU : Upto (isT T) w wp := (hw1.trans hw13 (fun _ _ x => x)).trans hset (fun b hb e => by omega)
      rw [← hwp]
      clear hwp hset hw13 hT3 hNl hT1 hkc
      refine (NX _ (by omega) (by omega) _ hTp).mono ?_
      rintro e w5 ⟨⟨nn, hnn, rfl⟩, hT5, hU5⟩
      have hN5 := hNp.keep hU5
      have hres5 := hresp.keep hU5 hresne
      have hout5 := houtp.keep hU5 hoT
      have hw5U : Upto (isT T) w w5 := hwpU.trans hU5 (fun _ _ x => x)
      have q5 : w1.heap.size < w5.heap.size := hout5.lt
      clear hU5 hTp hNp hresp houtp hwpU
      go_wp2_with fail
      have IH : ∀ (x : Int) (W : World), x = d → TapeOk W T → NamesOk T W → Calls Tryz.prog 31 #[.pointer (some ⟨T, 0, none⟩), .int .i64 x, .int .i64 vars, .int .i64 metas] W (Makes W.heap.size d vars metas T W) := by
        intro x W hx h2 h3
        rw [hx]
        exact ih (by omega) vars metas (by omega) hm T W h2 h3
      rw [← HV.out, ← HM.out] at IH
      have HDd := hid (show IntKind.i64.wrap (D - 1) = (d : Int) by have := HD.out; rw [Go.IntWalk.i64_left, Go.IntWalk.wrap64_in _ (by omega)]; omega)
      obtain ⟨i0, hi, hi0, hi1, hi2⟩ := info_parts info_term
      have hnn2 : nn ≤ 2 := by omega
      go_loopw [12] (fun v12 wr => ∃ (m : Nat) (v : Value) (ts : List Tm) (css : List (List Value)), v12 = .int .i64 m ∧ m + ts.length ≤ 2 ∧ Terms w5.heap.size wr v ts css ∧ (∀ t ∈ ts, Tm.Fits t d vars metas) ∧
          Box4 wr w1.heap.size (.int .i64 kf) (.string (B nm)) (.int .i64 ix) v 29 ∧ Box4 wr w.heap.size (.int .i64 0) (.string (B [])) (.int .i64 0) (.slice none 0 0) 29 ∧ TapeOk wr T ∧ NamesOk T wr ∧ Upto (isT T) w wr ∧ w5.heap.size ≤ wr.heap.size)
        (fun v12 _ => (intOf v12).toNat)
      case atStart => exact ⟨nn, _, [], [], rfl, by simpa using hnn2, Terms.nil _ _, by simp, hout5, hres5, hT5, hN5, hw5U, Nat.le_refl _⟩
      case round =>
        obtain ⟨m, v, ts, css, rfl, hmt, hts, hfs, hout, hres, hTr, hNr, hwr, hbr⟩ := hrel
        obtain ⟨b0, b1, b2, b3⟩ := hout.cells
        obtain ⟨f0, f1, f2, f3⟩ := hout.frozens
        by_cases hm0 : 0 < m
        · have hm1 : (0 : Int) < (m : Int) := by omega
          go_wp2_with fail
          go_region_law (first
            | ((rw [if_pos (by rfl)]); go_simp; (go_at_call 31); refine (IH _ _ HDd.out (hTr.on (Upto.refl none' wr).drew) (hNr.on (Upto.refl none' wr).drew)).mono ?_; rintro e w6 ⟨k1, i1, n1, a1, len1, cap1, t, rfl, hR6, hF6, hT6, hN6, hU6⟩; have hU6' : Upto (isT T) wr w6 := Upto.trans ((Upto.refl (isT T) wr).drew) hU6 (fun _ _ x => x); have hout6 := hout.keep hU6' hoT; have q6 := hout6.lt; have c6 := hout6.cells.2.2.2; have z6 := hout6.frozen 3; have hs6 := hU6'.size; have hts6 := hts.keep hU6' (fun b e => (by simp only [isT] at e; omega)))
            | (refine step_append_lies _ (by rfl) _ _ 27 (by rfl) w5.heap.size 29 i0 (.agg #[.int .i64 0, .string (B []), .int .i64 0, .slice none 0 0]) 4 56 (by kernel_rfl) hi hi0 hi1 hi2 rfl (by decide) v ts.length css.flatten (by rfl) ((hts6.on ((Upto.refl none' w6).alloc _)).2.2.1) ⟨w6.heap.size, 0, none⟩ 1 1 [.int .i64 k1, .string (B n1), .int .i64 i1, .slice a1 len1 cap1] (by rfl) rfl (World.news_of_block (heap_alloc_new w6 _)) (by simp [Value.oneCell']) (by omega) (by simp only [maxLen]; omega) (by omega) (by simp; omega) _ rfl ?_; intro g cap' w7 hown hgrow hat hlt; have hout7 := (hout6.kept ((Upto.refl none' w6).alloc _)).row hgrow (hts6.on ((Upto.refl none' w6).alloc _)) (by omega); have c7 := hout7.cells.2.2.2; have z7 := hout7.frozen 3))
          all_goals
            have hts6' := hts6.on ((Upto.refl none' w6).alloc (.cells #[.int .i64 k1, .string (B n1), .int .i64 i1, .slice a1 len1 cap1] 29))
            have hR6' : Rep (fun b => b < w5.heap.size ∨ v.ownBlock = some b) (w6.alloc (.cells #[.int .i64 k1, .string (B n1), .int .i64 i1, .slice a1 len1 cap1] 29)) t.dat [.int .i64 k1, .string (B n1), .int .i64 i1, .slice a1 len1 cap1] := by
              refine (Rep.weaken (fun b _ e => ?_) _ _ hR6).new _
              rcases e with e | e
              · exact Nat.lt_of_lt_of_le e hbr
              · exact (hts.2.2.1.lt b e).2
            have hT7 := hts6'.appended rfl hR6' hown hgrow hat (Nat.le_refl _)
            have hset7 : Upto (fun b => b = w1.heap.size) w7 (w7.setCell ⟨w1.heap.size, 3, none⟩ (.slice (some ⟨g, 0, none⟩) (ts.length + 1) cap')) := Upto.set (Upto.refl _ _) 3 _
            have hrow7 := Upto.ofRow (RowUp.grown hts6'.2.2.1 hgrow)
            have hal6 : Upto none' w6 (w6.alloc (.cells #[.int .i64 k1, .string (B n1), .int .i64 i1, .slice a1 len1 cap1] 29)) := (Upto.refl none' w6).alloc _
            have hT7' := ((hT6.on hal6).far hrow7 (fun b e => by omega)).far hset7 (fun b e => by omega)
            have hN7' := ((hN6.on hal6).far hrow7 (fun b e => by omega)).far hset7 (fun b e => by omega)
            have hres7 : Box4 (w7.setCell ⟨w1.heap.size, 3, none⟩ (.slice (some ⟨g, 0, none⟩) (ts.length + 1) cap')) w.heap.size _ _ _ _ _ := (((hres.keep hU6' hresne).kept hal6).keep hrow7 (by omega)).keep hset7 (by omega)
            have hw7U : Upto (isT T) w (w7.setCell ⟨w1.heap.size, 3, none⟩ (.slice (some ⟨g, 0, none⟩) (ts.length + 1) cap')) := ((((hwr.trans hU6' (fun _ _ x => x)).trans hal6 (fun _ _ x => x.elim)).trans hrow7 (fun b hb e => by omega))).trans hset7 (fun b hb e => by omega)
            have hsz7 : w5.heap.size ≤ (w7.setCell ⟨w1.heap.size, 3, none⟩ (.slice (some ⟨g, 0, none⟩) (ts.length + 1) cap')).heap.size := by have := hset7.size; have := hrow7.size; have := hal6.size; omega
            have hfs7 : ∀ t' ∈ ts ++ [t], Tm.Fits t' d vars metas := by
              intro t' ht'
              rcases List.mem_append.1 ht' with h | h
              · exact hfs t' h
              · obtain rfl : t' = t := by simpa using h
                exact hF6
            have hT7s := hT7.keep hset7 (fun b e => by omega)
            go_wp2_with fail
            go_roundw
            case rel => exact ⟨m - 1, _, ts ++ [t], _, int_eq (by omega), by simp; omega, hT7s, hfs7, hout7.set3 _, hres7, hT7', hN7', hw7U, hsz7⟩
            case measure => simp [intOf]; omega
        · obtain rfl : m = 0 := by omega
          obtain ⟨r0, r1, r2, r3⟩ := hres.cells
          obtain ⟨rf0, rf1, rf2, rf3⟩ := hres.frozens
          have qr := hres.lt
          obtain ⟨a, cap, rfl, hcap, hE⟩ := hts.rep
          have hfit' := hfit ts (by omega) hfs
          obtain ⟨len, hlen⟩ : ∃ len, len = ts.length := ⟨_, rfl⟩
          rw [← hlen] at hout hcap b3
          have HL := hid hlen
          clear hlen hfs hts
          go_wp2_with fail
          obtain ⟨w9, hw9⟩ : ∃ w9, w9 = (((wr.setCell ⟨w.heap.size, 0, none⟩ (.int .i64 kf)).setCell ⟨w.heap.size, 1, none⟩ (.string (B nm))).setCell ⟨w.heap.size, 2, none⟩ (.int .i64 ix)).setCell ⟨w.heap.size, 3, none⟩ (.slice a len cap) := ⟨_, rfl⟩
          have hset9 := hres.set (d0 := .int .i64 kf) (d1 := .string (B nm)) (d2 := .int .i64 ix) (d3 := .slice a len cap)
          rw [← hw9] at hset9
          rw [← hw9]
          clear hw9
          obtain ⟨e0, e1, e2, e3⟩ := hset9.1.cells
          refine bodyPost_ret (v := .agg #[.int .i64 kf, .string (B nm), .int .i64 ix, .slice a len cap]) ?_ rfl ?_
          · simp [results, Tryz.f31, go_sem, e0, e1, e2, e3]
          · exact made_fin rfl HL.out hcap hE (by omega) hset9 hfit' hTr hNr hwr hTl
end Go.Proofs.YtdomloghcpfdjaaGreatDoor
