/- strict's Occur, Strict, Patterns and Known. -/
import Derived.Test.YtnhmogmpbgadiaaDoorCN
import Derived.Test.YtnhmogmpbgadiaaDoorCH
import Derived.Test.YtnhmogmpbgadiaaDoorCA
import Derived.Test.YtnhmogmpbgadiaaDoorCO
import Derived.Test.YtnhmogmpbgadiaaDoorCK
import Derived.Deep.RegionHeld3
namespace Go.Proofs.YtnhmogmpbgadiaaDoor
open Go.RowKit Go.LF
set_option maxRecDepth 100000 in
set_option maxHeartbeats 8000000 in
theorem spine_any (ks : List Int) (hk : ks.length ≤ 1000000) (d : Int) (hd0 : 0 ≤ d) (hd1 : d ≤ 1000000) (ka : Option Addr) (kc : Nat) (ts : List Tm) (hwt : Tm.wts ts ≤ 100000) (hobj : ∀ t ∈ ts, t.isObj = true) (ta : Option Addr) (tc : Nat) {O : Nat → Prop} (w : World)
    (hK : RepE O w 1 (ks.map (Dat.int .i64)) ka 0) (hA : RepE none' w 4 (ts.map Tm.dat) ta 0) :
    Calls Tryd.prog 117 #[.slice ta ts.length tc, .slice ka ks.length kc, .int .i64 d] w fun e w' => e = .returned (.bool (spn ks d [] ts)) ∧ Upto none' w w' := by
  obtain ⟨r, hr⟩ : ∃ r, r = spn ks d [] ts := ⟨_, rfl⟩
  rw [← hr]
  have HR := hid hr
  have hlen : ts.length ≤ 100000 := by have := Tm.length_le_sizes ts; have := Tm.sizes_le_wts ts; omega
  obtain ⟨H, hH⟩ : ∃ H, H = w.heap.size := ⟨_, rfl⟩
  have HH := hid hH
  clear hr hH
  go_enter Tryd.func117, Tryd.ntmps117
  go_wp2_with fail
  go_loopw [7, 8] (fun v7 v8 wr => ∃ (m : Nat) (seen : List Int), v8 = .int .i64 m ∧ m ≤ ts.length ∧ seen.length = m ∧ r = spn ks d seen (ts.drop m) ∧ Ints H wr v7 seen ∧ Upto none' w wr) (fun _ v8 _ => ts.length - (intOf v8).toNat)
  case atStart => exact ⟨0, [], rfl, Nat.zero_le _, rfl, HR.out, World.ownsRow_nil _ _ _ _, Upto.refl _ _⟩
  case round =>
    obtain ⟨m, seen, rfl, hm, hsl, hv, hI, hU⟩ := hrel
    have HV := hid hv
    have HSL := hid hsl
    clear hv hsl
    have hm0 : (0 : Int) ≤ (m : Int) := by omega
    have hm1 : (m : Int) ≤ 200000 := by omega
    by_cases hlt : m < ts.length
    · obtain ⟨gb, go', k1, n1, x1, s1, c1, rfl, hgl, hgO, g0, g1, g2, g3, hR1⟩ := arg_tm (hA.on hU) m hlt
      have hlt' : (m : Int) < (ts.length : Int) := by omega
      have hw1 := Tm.wt_le_wts (List.getElem_mem hlt)
      have HVA := fun w' (h : Upto none' wr w') => refVariable_any (ts[m]'hlt) (by omega) w' _ (hR1.on h)
      have hdr := fun rv hrv => spn_drop ks d seen ts m hlt rv hrv
      have hv0 : ∀ v, (ts[m]'hlt).vrw = some v → 0 ≤ v ∧ v ≤ 1048576 := fun v hv => ⟨Tm.vr_nonneg _ _ _ (Tm.vrw_obj hv).2, Tm.vr_le _ _ _ (by omega) (hobj _ (List.getElem_mem hlt)) (Tm.vrw_obj hv).2⟩
      generalize ts[m].args.length = al at *
      obtain ⟨rv, hrv⟩ : ∃ rv, rv = (ts[m]'hlt).vrw := ⟨_, rfl⟩
      rw [← hrv] at HVA
      replace hdr := hdr rv hrv.symm
      rw [← hrv] at hv0
      have HD := hid (And.intro hdr hlt)
      clear hdr hrv hw1 hlt hR1
      obtain ⟨va, vcap, hva, _, _⟩ := ints_open hI.rep
      subst hva
      have hsl6 : seen.length ≤ 200000 := by have := HSL.out; omega
      go_wp2_with fail
      refine (HVA _ (Upto.refl none' wr)).mono ?_
      rintro e w5 ⟨rfl, hU5⟩
      have hI5 : Ints H w5 (.slice va seen.length vcap) seen := World.ownsRow.kept hI (upto_grown hU5) (own_none _)
      have hUw5 := hU.and hU5
      have hK5 := hK.on hUw5
      rcases rv with _ | v
      · rw [optV_none]
        go_wp2_with fail
        go_ret
        exact ⟨ret_bool (by rw [HV.out, HD.out.1]; rfl), hUw5⟩
      · rw [optV_some]
        obtain ⟨hv1, hv2⟩ := hv0 v rfl
        clear hv0
        have hd := HD.out.1
        rw [spnO] at hd
        have HI := hasInt_any seen (by omega) v w5 _ hI5.rep
        obtain ⟨cb, hcb⟩ : ∃ cb, cb = seen.contains v := ⟨_, rfl⟩
        rw [← hcb] at HI hd
        obtain ⟨i0, hi, hi0, hi1, hi2⟩ := info_parts info_int
        have hways : (cb = true) ∨ (cb = false ∧ v < d ∧ kd ks d v = 2) ∨ (cb = false ∧ d ≤ v ∧ kd ks d v = kof ks (v - d)) := by
          cases cb
          · by_cases h : v < d
            · exact .inr (.inl ⟨rfl, h, if_pos h⟩)
            · exact .inr (.inr ⟨rfl, by omega, if_neg h⟩)
          · exact .inl rfl
        have HDD := hid hd
        clear hd hcb
        rcases hways with rfl | ⟨rfl, hvd, hkd⟩ | ⟨rfl, hvd, hkd⟩
        · go_wp2_with fail
          refine HI.mono ?_
          rintro e w6 ⟨rfl, hU6⟩
          go_wp2_with fail
          go_ret
          exact ⟨ret_bool (by rw [HV.out, HDD.out]; rfl), hUw5.and hU6⟩
        · have HKD := hid hkd
          have hvd2 : ¬ d ≤ v := by omega
          clear hkd
          go_wp2_with fail
          refine HI.mono ?_
          rintro e w6 ⟨rfl, hU6⟩
          have hI6 : Ints H w6 (.slice va seen.length vcap) seen := World.ownsRow.kept hI5 (upto_grown hU6) (own_none _)
          have hUw6 := hUw5.and hU6
          have hz6 : H ≤ w6.heap.size := by have := hUw6.size; have := HH.out; omega
          clear HI hI hI5 hK5
          go_wp2_with (at_builtin; refine wpList_append_own _ rfl _ _ 22 rfl H 3 i0 (.int .i64 0) 1 8 (by kernel_rfl) hi hi0 hi1 hi2 rfl (by decide) _ _ _ rfl (World.ownsRow.alloc hI6 _) ⟨w6.heap.size, 0, none⟩ 1 1 [.int .i64 v] rfl rfl (cell_one_new _ _ _) (by simp [Value.oneCell']) (by simp only [maxLen]; omega) (by omega) (by simp; omega) ?_; intro v' w0 hown' hgrow _; obtain ⟨g', cap', rfl⟩ := ownsRow_succ hown')
          have hI7 : Ints H w0 (.slice (some ⟨g', 0, none⟩) (seen.length + 1) cap') (seen ++ [v]) := by unfold Ints; simpa using hown'
          have hU7 : Upto none' w w0 := Upto.row (hUw6.alloc _) (RowUp.grown (World.ownsRow.alloc hI6 _) hgrow) (by have := HH.out; omega)
          clear hown' hgrow hI6
          go_roundw
          case rel => exact ⟨m + 1, seen ++ [v], by go_num, Nat.succ_le_of_lt HD.out.2, by simp [HSL.out], by rw [HV.out, HDD.out, HKD.out]; simp, hI7, hU7⟩
          case measure => (have := HD.out.2; simp [intOf]; omega)
        · have HKO := fun w' (hU : Upto none' w5 w') => refKindOf_any ks hk (v - d) (by omega) (by omega) ka kc w' (hK5.on hU)
          obtain ⟨x, hx⟩ : ∃ x, x = kof ks (v - d) := ⟨_, rfl⟩
          rw [← hx] at HKO hkd
          have HKD := hid hkd
          clear hkd hx
          by_cases h2 : x = 2
          · have hx2 : (x != 2) = false := by simp [h2]
            have HX := hid h2
            clear h2
            go_wp2_with fail
            refine HI.mono ?_
            rintro e w6 ⟨rfl, hU6⟩
            go_wp2_with fail
            refine (HKO _ hU6).mono ?_
            rintro e w66 ⟨rfl, rfl⟩
            have hI6 : Ints H w6 (.slice va seen.length vcap) seen := World.ownsRow.kept hI5 (upto_grown hU6) (own_none _)
            have hUw6 := hUw5.and hU6
            have hz6 : H ≤ w6.heap.size := by have := hUw6.size; have := HH.out; omega
            clear HI hI hI5 hK5 HKO
            go_wp2_with (at_builtin; refine wpList_append_own _ rfl _ _ 22 rfl H 3 i0 (.int .i64 0) 1 8 (by kernel_rfl) hi hi0 hi1 hi2 rfl (by decide) _ _ _ rfl (World.ownsRow.alloc hI6 _) ⟨w6.heap.size, 0, none⟩ 1 1 [.int .i64 v] rfl rfl (cell_one_new _ _ _) (by simp [Value.oneCell']) (by simp only [maxLen]; omega) (by omega) (by simp; omega) ?_; intro v' w0 hown' hgrow _; obtain ⟨g', cap', rfl⟩ := ownsRow_succ hown')
            have hI7 : Ints H w0 (.slice (some ⟨g', 0, none⟩) (seen.length + 1) cap') (seen ++ [v]) := by unfold Ints; simpa using hown'
            have hU7 : Upto none' w w0 := Upto.row (hUw6.alloc _) (RowUp.grown (World.ownsRow.alloc hI6 _) hgrow) (by have := HH.out; omega)
            clear hown' hgrow hI6
            go_roundw
            case rel => exact ⟨m + 1, seen ++ [v], by go_num, Nat.succ_le_of_lt HD.out.2, by simp [HSL.out], by rw [HV.out, HDD.out, HKD.out, HX.out]; simp, hI7, hU7⟩
            case measure => (have := HD.out.2; simp [intOf]; omega)
          · have hx2 : (x != 2) = true := by simpa using h2
            have HX := hid h2
            clear h2
            go_wp2_with fail
            refine HI.mono ?_
            rintro e w6 ⟨rfl, hU6⟩
            go_wp2_with fail
            refine (HKO _ hU6).mono ?_
            rintro e w66 ⟨rfl, rfl⟩
            go_wp2_with fail
            go_ret
            refine ⟨ret_bool ?_, hUw5.and hU6⟩
            have h3 : (x == 2) = false := by simpa using HX.out
            rw [HV.out, HDD.out, HKD.out, h3]
            simp
    · have hjn : ¬ (m : Int) < (ts.length : Int) := by omega
      have hd : ts.drop m = [] := List.drop_eq_nil_of_le (by omega)
      have HD := hid hd
      clear hd
      go_wp2_with fail
      go_ret
      exact ⟨ret_bool (by rw [HV.out, HD.out, spn]), hU⟩
end Go.Proofs.YtnhmogmpbgadiaaDoor
namespace Go.Proofs.YtnhmogmpbgadiaaDoor
open Go.RowKit Go.LF
set_option maxRecDepth 100000 in
set_option maxHeartbeats 8000000 in
theorem refPatterns_any (ks : List Int) (hk : ks.length ≤ 1000000) (ka : Option Addr) (kc : Nat) (t : Tm) : t.wt ≤ 100000 → t.Any3 → ∀ (d : Int) (w : World) (cs : List Value), 0 ≤ d → d + t.size ≤ 500000 → RepE none' w 1 (ks.map (Dat.int .i64)) ka 0 → Rep none' w t.dat cs →
    Calls Tryd.prog 61 #[.agg cs.toArray, .slice ka ks.length kc, .int .i64 d] w fun e w' => e = .returned (.bool (t.pats ks d)) ∧ Upto none' w w' := by
  induction t using Tm.ind with
  | h k n i ts ih =>
    intro hs hany d w cs hd0 hd1 hK h
    obtain ⟨a, cap, rfl, hcap, hE⟩ := rep_tm.1 h
    have hlen := Tm.length_le_sizes ts
    have hsw := Tm.sizes_le_wts ts
    obtain ⟨ha1, ha2, _, _⟩ := Tm.any3_args hany
    simp only [Tm.wt_mk] at hs
    simp only [Tm.size_mk] at hd1
    have hr := Tm.pats_mk ks d k n i ts
    obtain ⟨r, hrr⟩ : ∃ r, r = (Tm.mk k n i ts).pats ks d := ⟨_, rfl⟩
    rw [← hrr] at hr ⊢
    have HF := fun w' (hU : Upto none' w w') => flexible_any ks hk k i d n (.slice a ts.length cap) hd0 (by omega) (fun e => (ha2 e).2) ka kc w' (hK.on hU)
    have HS := fun (e : k = 5) w' (hU : Upto none' w w') => spine_any ks hk d hd0 (by omega) ka kc ts (by omega) (ha2 e).1 a cap w' (hK.on hU) (hE.on hU)
    obtain ⟨fb, hfb⟩ : ∃ fb, fb = flx ks d k i := ⟨_, rfl⟩
    obtain ⟨sb, hsb⟩ : ∃ sb, sb = spn ks d [] ts := ⟨_, rfl⟩
    rw [← hfb] at HF hr
    rw [← hsb] at HS hr
    have h5 : fb = true → k = 5 := fun e => by rw [hfb] at e; simp [flx] at e; exact e.1
    have HR := hid hr
    obtain ⟨w1, hw1⟩ : ∃ w1, w1 = w.alloc (.cells #[.int .i64 k, .string (B n), .int .i64 i, .slice a ts.length cap] 29) := ⟨_, rfl⟩
    have hU1 : Upto none' w w1 := by rw [hw1]; exact (Upto.refl none' w).alloc _
    have hB1 : Box4 w1 w.heap.size (.int .i64 k) (.string (B n)) (.int .i64 i) (.slice a ts.length cap) 29 := by rw [hw1]; exact Box4.at_new rfl
    have HW1 := hid hw1
    obtain ⟨H, hH⟩ : ∃ H, H = w.heap.size := ⟨_, rfl⟩
    rw [← hH] at hB1
    have HH := hid hH
    have HI := hid (And.intro ha1 (And.intro hs hd1))
    clear hw1 hrr hr hfb hsb h ha1 ha2 hany hH
    have H5 := hid h5
    clear h5
    obtain ⟨b0, b1, b2, b3⟩ := hB1.cells
    cases fb
    case' false =>
      clear HS
      go_enter Tryd.func61, Tryd.ntmps61
      go_wp2_with fail
      rw [← HW1.out, ← HH.out]
      refine (HF w1 hU1).mono ?_
      rintro e w2 ⟨rfl, hU2⟩
      have hr2 : r = Tm.patsA ks d k 0 ts := by rw [HR.out]; simp
      have HR2 := hid hr2
      clear hr2
    case' true =>
      have HSS := hid (HS (H5.out rfl))
      clear HS
      go_enter Tryd.func61, Tryd.ntmps61
      go_wp2_with fail
      rw [← HW1.out, ← HH.out]
      refine (HF w1 hU1).mono ?_
      rintro e w1' ⟨rfl, hU1'⟩
      have hB1' := hB1.kept hU1'
      clear b0 b1 b2 b3
      obtain ⟨b0, b1, b2, b3⟩ := hB1'.cells
      go_wp2_with fail
      refine (HSS.out w1' (hU1.and hU1')).mono ?_
      rintro e w2 ⟨rfl, hU2'⟩
      have hU2 : Upto none' w1 w2 := hU1'.and hU2'
      clear hB1' hU1' hU2' HSS
      cases sb
      case' false =>
        go_wp2_with fail
        go_ret
        exact ⟨ret_bool (by rw [HR.out]; rfl), hU1.and hU2⟩
      case' true =>
        have hr2 : r = Tm.patsA ks d k 0 ts := by rw [HR.out]; simp
        have HR2 := hid hr2
        clear hr2
    all_goals
      clear b0 b1 b2 b3 HF HR
      have hB2 := hB1.kept hU2
      obtain ⟨b0, b1, b2, b3⟩ := hB2.cells
      have hUw2 := hU1.and hU2
      go_wp2_with fail
      go_loopw [7] (fun v wr => ∃ j : Nat, v = .int .i64 j ∧ j ≤ ts.length ∧ r = Tm.patsA ks d k j (ts.drop j) ∧ Upto none' w2 wr) (fun v _ => ts.length - (intOf v).toNat)
      case atStart => exact ⟨0, rfl, Nat.zero_le _, HR2.out, Upto.refl _ _⟩
      case round =>
        clear b0 b1 b2 b3
        obtain ⟨j, rfl, hj, hv, hU⟩ := hrel
        have HV := hid hv
        clear hv
        have hw := hUw2.and hU
        have hBr := hB2.kept hU
        obtain ⟨b0, b1, b2, b3⟩ := hBr.cells
        have j0 : (0 : Int) ≤ (j : Int) := by omega
        have jb : (j : Int) ≤ 200000 := by omega
        by_cases hlt : j < ts.length
        · obtain ⟨b, o, k1, n1, x1, s1, cp, rfl, hb, _, p0, p1, p2, p3, hRp⟩ := arg_tm (hE.on hw) j hlt
          have j1 : (j : Int) < (ts.length : Int) := by omega
          have hs4 := Tm.size_le_sizes (List.getElem_mem hlt)
          have hs5 := Tm.wt_le_wts (List.getElem_mem hlt)
          obtain ⟨e0, e1⟩ := Tm.under_le k j
          have hd : Upto none' wr wr.drew := (Upto.refl none' wr).drew
          obtain ⟨i1, i2, i3⟩ := HI.out
          have H1 : ∀ (z : Int) (w' : World), z = d + Tm.under k j → Upto none' wr w' → Calls Tryd.prog 61 #[.agg #[.int .i64 k1, .string (B n1), .int .i64 x1, .slice s1 ts[j].args.length cp], .slice ka ks.length kc, .int .i64 z] w' fun e w'' =>
              e = Ending.returned (.bool (ts[j].pats ks (d + Tm.under k j))) ∧ Upto none' wr w'' := by
            intro z w' hz hU
            subst hz
            exact (ih _ (List.getElem_mem hlt) (by omega) (i1 _ (List.getElem_mem hlt)) (d + Tm.under k j) w' _ (by omega) (by omega) (hK.on (hw.and hU)) (hRp.on hU)).mono fun _ _ ⟨he, hV⟩ => ⟨he, hU.and hV⟩
          have H2 := fun w' (hU : Upto none' wr w') => (under_any k j j rfl n i (.slice (some ⟨b, o, none⟩) ts.length cap) w').mono fun _ _ ⟨he, hV⟩ => (⟨he, hU.and hV⟩ : _ ∧ Upto none' wr _)
          have hT := Tm.patsA_drop ks d k ts j hlt
          obtain ⟨pb, hpb⟩ : ∃ pb, pb = (ts[j]'hlt).pats ks (d + Tm.under k j) := ⟨_, rfl⟩
          rw [← hpb] at H1 hT
          have HT := hid (And.intro hT hlt)
          have hdb : d ≤ 500000 := by omega
          clear hT hpb i1 i2 i3 hs4 hs5 hRp
          generalize ts[j].args.length = el at *
          clear hlt
          generalize Tm.under k j = u at *
          go_wp2_with fail
          go_region_held3 (fun w' => (w'.cell? ⟨H, 0, none⟩ = some (.int .i64 k) ∧ w'.cell? ⟨H, 1, none⟩ = some (.string (B n)) ∧ w'.cell? ⟨H, 2, none⟩ = some (.int .i64 i) ∧ w'.cell? ⟨H, 3, none⟩ = some (.slice (some ⟨b, o, none⟩) ts.length cap)) ∧
              w'.cell? ⟨b, o + j * 4, none⟩ = some (.int .i64 k1) ∧ w'.cell? ⟨b, o + j * 4 + 1, none⟩ = some (.string (B n1)) ∧ w'.cell? ⟨b, o + j * 4 + 2, none⟩ = some (.int .i64 x1) ∧ w'.cell? ⟨b, o + j * 4 + 3, none⟩ = some (.slice s1 el cp))
            (first | go_keep | (exact ⟨⟨hV1.cell b0 (fun x => x), hV1.cell b1 (fun x => x), hV1.cell b2 (fun x => x), hV1.cell b3 (fun x => x)⟩, hV1.cell p0 (fun x => x), hV1.cell p1 (fun x => x), hV1.cell p2 (fun x => x), hV1.cell p3 (fun x => x)⟩))
            (first | (go_at_call 61; refine (H1 _ _ (by first | rfl | (rw [Go.IntWalk.i64_left, Go.IntWalk.wrap64_in _ (by omega)])) (by first | exact hV1 | exact hd)).mono ?_; rintro e w5 ⟨rfl, hV1⟩) | (go_at_call 118; refine (H2 _ (by first | exact hV1 | exact hd)).mono ?_; rintro e w5 ⟨rfl, hV1⟩))
          cases pb
          all_goals go_wp2_with fail
          · go_ret
            exact ⟨ret_bool (by rw [HV.out, HT.out.1]; rfl), hw.and hV1⟩
          · go_roundw
            case rel => exact ⟨j + 1, by go_num, Nat.succ_le_of_lt HT.out.2, by rw [HV.out, HT.out.1]; rfl, hU.and hV1⟩
            case measure => (have := HT.out.2; simp [intOf]; omega)
        · have hjn : ¬ (j : Int) < (ts.length : Int) := by omega
          have hdn : ts.drop j = [] := List.drop_eq_nil_of_le (by omega)
          have HD := hid hdn
          clear hdn
          go_wp2_with fail
          go_ret
          exact ⟨ret_bool (by rw [HV.out, HD.out, Tm.patsA]), hw⟩
set_option maxRecDepth 100000 in
set_option maxHeartbeats 8000000 in
theorem refOccurT_any (q : Nat) (ks : List Int) (hk : ks.length ≤ 1000000) (ka : Option Addr) (kc : Nat) (t : Tm) : t.wt ≤ 100000 → t.Any3 → ∀ (d : Int) (l : List Bool) (w : World) (cs : List Value), 0 ≤ d → d + t.size ≤ 500000 → l.length = ks.length → BoolRow w q l →
    RepE (fun x => x = q) w 1 (ks.map (Dat.int .i64)) ka 0 → Rep (fun x => x = q) w t.dat cs →
    Calls Tryd.prog 58 #[.slice (some ⟨q, 0, none⟩) ks.length ks.length, .agg cs.toArray, .slice ka ks.length kc, .int .i64 d, .bool true] w fun e w' => e = .returned (.tuple #[]) ∧ BoolRow w' q (marks l (t.mrk ks true d)) ∧ Upto (fun x => x = q) w w' := by
  induction t using Tm.ind with
  | h k n i ts ih =>
    intro hs hany d l w cs hd0 hd1 hll hL hK h
    obtain ⟨a, cap, rfl, hcap, hE⟩ := rep_tm.1 h
    have hlen := Tm.length_le_sizes ts
    have hsw := Tm.sizes_le_wts ts
    obtain ⟨ha1, ha2, _, _⟩ := Tm.any3_args hany
    simp only [Tm.wt_mk] at hs
    simp only [Tm.size_mk] at hd1
    have hr := Tm.mrk_mk ks true d k n i ts
    obtain ⟨R, hRR⟩ : ∃ R, R = marks l ((Tm.mk k n i ts).mrk ks true d) := ⟨_, rfl⟩
    rw [← hRR]
    rw [hr] at hRR
    have hqn : ∀ (O : Nat → Prop) b, none' b → O b := fun _ _ x => x.elim
    have HF := fun w' (hU : Upto none' w w') => flexible_any ks hk k i d n (.slice a ts.length cap) hd0 (by omega) (fun e => (ha2 e).2) ka kc w' (hK.on hU)
    have HS := fun (e : k = 5) w' (hU : Upto none' w w') => spine_any ks hk d hd0 (by omega) ka kc ts (by omega) (ha2 e).1 a cap w' (hK.on hU) (RepE.weaken (fun _ _ x => x.elim) _ _ _ _ (hE.on hU))
    obtain ⟨fb, hfb⟩ : ∃ fb, fb = flx ks d k i := ⟨_, rfl⟩
    obtain ⟨sb, hsb⟩ : ∃ sb, sb = spn ks d [] ts := ⟨_, rfl⟩
    rw [← hfb] at HF hRR
    rw [← hsb] at HS hRR
    have h5 : fb = true → k = 5 ∧ d ≤ i ∧ i - d < ks.length := fun e => by
      rw [hfb] at e
      simp only [flx, Bool.and_eq_true, beq_iff_eq, decide_eq_true_eq] at e
      refine ⟨e.1, e.2.1, ?_⟩
      by_cases hlt : i - d < ks.length
      · exact hlt
      · have := kof_far (ks := ks) (i := i - d) (.inr (by omega)); omega
    have HR := hid hRR
    have hRl := hid (show R.length = ks.length by rw [hRR, marks_length, hll])
    obtain ⟨w1, hw1⟩ : ∃ w1, w1 = w.alloc (.cells #[.int .i64 k, .string (B n), .int .i64 i, .slice a ts.length cap] 29) := ⟨_, rfl⟩
    have hU1 : Upto none' w w1 := by rw [hw1]; exact (Upto.refl none' w).alloc _
    have hB1 : Box4 w1 w.heap.size (.int .i64 k) (.string (B n)) (.int .i64 i) (.slice a ts.length cap) 29 := by rw [hw1]; exact Box4.at_new rfl
    have hL1 := hL.kept hU1
    have HW1 := hid hw1
    have hqw := hL.lt
    obtain ⟨H, hH⟩ : ∃ H, H = w.heap.size := ⟨_, rfl⟩
    rw [← hH] at hB1 hqw
    have hqH : ¬ H = q := by omega
    have HH := hid hH
    have HI := hid (And.intro ha1 (And.intro hs (And.intro hd1 hll)))
    have H5 := hid h5
    clear hw1 hRR hr hfb hsb h ha1 ha2 hany hH h5 hll hL
    obtain ⟨b0, b1, b2, b3⟩ := hB1.cells
    have hdb : d ≤ 500000 := by omega
    cases fb
    case' false =>
      clear HS
      go_enter Tryd.func58, Tryd.ntmps58
      go_wp2_with fail
      rw [← HW1.out, ← HH.out]
      refine (HF w1 hU1).mono ?_
      rintro e w2 ⟨rfl, hU2⟩
      have HR2 := hid (show R = marks l (Tm.mrkA ks true d k 0 ts) by rw [HR.out]; simp)
      have hL2 := hL1.kept hU2
      have hB2 := hB1.kept hU2
      have hUw2 : Upto (fun x => x = q) w w2 := (hU1.and hU2).mono (fun _ _ x => x.elim)
      obtain ⟨l1, hl1⟩ : ∃ l1, l1 = l := ⟨_, rfl⟩
      rw [← hl1] at hL2 HR2
      clear hl1 hU2
    case' true =>
      obtain ⟨hk5, hdi, hil⟩ := H5.out rfl
      obtain ⟨m, hm⟩ : ∃ m : Nat, i - d = (m : Int) := ⟨(i - d).toNat, by omega⟩
      have hi6 : i ≤ 1048576 + d + 500000 := by omega
      have hwm : IntKind.i64.wrap (i - d) = (m : Int) := by rw [Go.IntWalk.i64_in _ (by omega)]; exact hm
      have hm0 : (0 : Int) ≤ (m : Int) := by omega
      have hml : (m : Int) < (ks.length : Int) := by omega
      have HSS := hid (HS hk5)
      have HM := hid hm
      clear HS hk5 hil hi6
      go_enter Tryd.func58, Tryd.ntmps58
      go_wp2_with fail
      rw [← HW1.out, ← HH.out]
      refine (HF w1 hU1).mono ?_
      rintro e w1' ⟨rfl, hU1'⟩
      have hB1' := hB1.kept hU1'
      have hL1' := hL1.kept hU1'
      have hfz := hL1'.frozen m
      have hcq := hL1'.cell m (by have := HI.out.2.2.2; omega)
      clear b0 b1 b2 b3
      obtain ⟨b0, b1, b2, b3⟩ := hB1'.cells
      have hwz := hB1'.lt
      go_wp2_with fail
      refine (HSS.out w1' (hU1.and hU1')).mono ?_
      rintro e w2 ⟨rfl, hU2'⟩
      have hB2' := hB1'.kept hU2'
      have hL2' := hL1'.kept hU2'
      have hfz2 := hL2'.frozen m
      have hcq2 := hL2'.cell m (by have := HI.out.2.2.2; omega)
      clear b0 b1 b2 b3 hfz hcq
      obtain ⟨b0, b1, b2, b3⟩ := hB2'.cells
      cases sb
      case' false =>
        go_wp2_with fail
        refine bodyPost_ret (results_none rfl _ _ _) rfl ?_
        exact ⟨rfl, by rw [HR.out]; exact hL2', ((hU1.and hU1').and hU2').mono (fun _ _ x => x.elim)⟩
      case' true =>
        go_wp2_with fail
        refine bodyPost_ret (results_none rfl _ _ _) rfl ?_
        exact ⟨rfl, by rw [HR.out]; simpa [marks, HM.out] using hL2'.set m true, upto_then ((hU1.and hU1').and hU2') (Upto.set (Upto.refl (fun x => x = q) w2) m (.bool true))⟩
    case' false =>
      clear b0 b1 b2 b3
      obtain ⟨b0, b1, b2, b3⟩ := hB2.cells
      go_wp2_with fail
      clear b0 b1 b2 b3
    all_goals
      clear HF HR hU1 hB1 hL1
      go_loopw [10] (fun v wr => ∃ j : Nat, v = .int .i64 j ∧ j ≤ ts.length ∧ BoolRow wr q (marks l1 (Tm.mrkA ks true d k 0 (ts.take j))) ∧ Upto (fun x => x = q) w2 wr) (fun v _ => ts.length - (intOf v).toNat)
      case atStart => exact ⟨0, rfl, Nat.zero_le _, hL2, Upto.refl _ _⟩
      case round =>
        obtain ⟨j, rfl, hj, hLr, hU⟩ := hrel
        have HLR := hid hLr
        clear hLr
        have hw := hUw2.trans hU (fun _ _ x => x)
        have hBr := hB2.keep hU hqH
        obtain ⟨b0, b1, b2, b3⟩ := hBr.cells
        have j0 : (0 : Int) ≤ (j : Int) := by omega
        have jb : (j : Int) ≤ 200000 := by omega
        by_cases hlt : j < ts.length
        · obtain ⟨b, o, k1, n1, x1, s1, cp, rfl, hb, hbq, p0, p1, p2, p3, hRp⟩ := arg_tm (RepE.keep hw (fun _ x => x) _ _ _ _ hE) j hlt
          have j1 : (j : Int) < (ts.length : Int) := by omega
          have hs4 := Tm.size_le_sizes (List.getElem_mem hlt)
          have hs5 := Tm.wt_le_wts (List.getElem_mem hlt)
          obtain ⟨e0, e1⟩ := Tm.under_le k j
          have hd : Upto none' wr wr.drew := (Upto.refl none' wr).drew
          obtain ⟨i1, i2, i3, i4⟩ := HI.out
          have hKr := RepE.keep hw (fun _ x => x) _ _ _ _ hK
          have hl1r : (marks l1 (Tm.mrkA ks true d k 0 (ts.take j))).length = ks.length := by
            have h1 := HR2.out
            have h2 : R.length = ks.length := by rw [hRl.out]
            rw [h1, marks_length] at h2
            rw [marks_length, h2]
          have H1 : ∀ (z : Int) (w' : World), z = d + Tm.under k j → Upto none' wr w' → Calls Tryd.prog 58 #[.slice (some ⟨q, 0, none⟩) ks.length ks.length, .agg #[.int .i64 k1, .string (B n1), .int .i64 x1, .slice s1 ts[j].args.length cp], .slice ka ks.length kc, .int .i64 z, .bool true] w' fun e w'' =>
              e = .returned (.tuple #[]) ∧ BoolRow w'' q (marks (marks l1 (Tm.mrkA ks true d k 0 (ts.take j))) ((ts[j]'hlt).mrk ks true (d + Tm.under k j))) ∧ Upto (fun x => x = q) wr w'' := by
            intro z w' hz hU
            subst hz
            exact (ih _ (List.getElem_mem hlt) (by omega) (i1 _ (List.getElem_mem hlt)) (d + Tm.under k j) _ w' _ (by omega) (by omega) hl1r (HLR.out.kept hU) (hKr.on hU) (hRp.on hU)).mono fun _ _ ⟨he, hB, hV⟩ => ⟨he, hB, upto_then hU hV⟩
          have H2 := fun w' (hU : Upto none' wr w') => (under_any k j j rfl n i (.slice (some ⟨b, o, none⟩) ts.length cap) w').mono fun _ _ ⟨he, hV⟩ => (⟨he, hU.and hV⟩ : _ ∧ Upto none' wr _)
          have hT := Tm.mrkA_take_succ ks true d k ts j hlt
          obtain ⟨pm, hpm⟩ : ∃ pm, pm = (ts[j]'hlt).mrk ks true (d + Tm.under k j) := ⟨_, rfl⟩
          rw [← hpm] at H1 hT
          have HT := hid (And.intro hT hlt)
          clear hT hpm i1 i2 i3 i4 hs4 hs5 hRp hl1r hKr
          generalize ts[j].args.length = el at *
          clear hlt
          generalize Tm.under k j = u at *
          go_wp2_with fail
          go_region_held3 (fun w' => (w'.cell? ⟨H, 0, none⟩ = some (.int .i64 k) ∧ w'.cell? ⟨H, 1, none⟩ = some (.string (B n)) ∧ w'.cell? ⟨H, 2, none⟩ = some (.int .i64 i) ∧ w'.cell? ⟨H, 3, none⟩ = some (.slice (some ⟨b, o, none⟩) ts.length cap)) ∧
              w'.cell? ⟨b, o + j * 4, none⟩ = some (.int .i64 k1) ∧ w'.cell? ⟨b, o + j * 4 + 1, none⟩ = some (.string (B n1)) ∧ w'.cell? ⟨b, o + j * 4 + 2, none⟩ = some (.int .i64 x1) ∧ w'.cell? ⟨b, o + j * 4 + 3, none⟩ = some (.slice s1 el cp))
            (first | go_keep | (exact ⟨⟨hV2.cell b0 hqH, hV2.cell b1 hqH, hV2.cell b2 hqH, hV2.cell b3 hqH⟩, hV2.cell p0 hbq, hV2.cell p1 hbq, hV2.cell p2 hbq, hV2.cell p3 hbq⟩) | (exact ⟨⟨hV1.cell b0 (fun x => x), hV1.cell b1 (fun x => x), hV1.cell b2 (fun x => x), hV1.cell b3 (fun x => x)⟩, hV1.cell p0 (fun x => x), hV1.cell p1 (fun x => x), hV1.cell p2 (fun x => x), hV1.cell p3 (fun x => x)⟩))
            (first | (go_at_call 58; refine (H1 _ _ (by first | rfl | (rw [Go.IntWalk.i64_left, Go.IntWalk.wrap64_in _ (by omega)])) (by first | exact hV1 | exact hd)).mono ?_; rintro e w5 ⟨rfl, hL5, hV2⟩) | (go_at_call 118; refine (H2 _ (by first | exact hV1 | exact hd)).mono ?_; rintro e w5 ⟨rfl, hV1⟩))
          go_wp2_with fail
          go_roundw
          case rel => exact ⟨j + 1, by go_num, Nat.succ_le_of_lt HT.out.2, by rw [HT.out.1, marks_append]; exact hL5, hU.trans hV2 (fun _ _ x => x)⟩
          case measure => (have := HT.out.2; simp [intOf]; omega)
        · have hjn : ¬ (j : Int) < (ts.length : Int) := by omega
          have hdn : ts.take j = ts := List.take_of_length_le (by omega)
          have HD := hid hdn
          clear hdn
          go_wp2_with fail
          go_end0
          exact ⟨rfl, by rw [HR2.out, ← HD.out]; exact HLR.out, hw⟩
set_option maxRecDepth 100000 in
set_option maxHeartbeats 8000000 in
theorem refOccurF_any (q : Nat) (ks : List Int) (hk : ks.length ≤ 1000000) (ka : Option Addr) (kc : Nat) (t : Tm) : t.wt ≤ 100000 → t.Any3 → ∀ (d : Int) (l : List Bool) (w : World) (cs : List Value), 0 ≤ d → d + t.size ≤ 500000 → l.length = ks.length → BoolRow w q l →
    RepE (fun x => x = q) w 1 (ks.map (Dat.int .i64)) ka 0 → Rep (fun x => x = q) w t.dat cs →
    Calls Tryd.prog 58 #[.slice (some ⟨q, 0, none⟩) ks.length ks.length, .agg cs.toArray, .slice ka ks.length kc, .int .i64 d, .bool false] w fun e w' => e = .returned (.tuple #[]) ∧ BoolRow w' q (marks l (t.mrk ks false d)) ∧ Upto (fun x => x = q) w w' := by
  induction t using Tm.ind with
  | h k n i ts ih =>
    intro hs hany d l w cs hd0 hd1 hll hL hK h
    obtain ⟨a, cap, rfl, hcap, hE⟩ := rep_tm.1 h
    have hlen := Tm.length_le_sizes ts
    have hsw := Tm.sizes_le_wts ts
    obtain ⟨ha1, ha2, _, _⟩ := Tm.any3_args hany
    simp only [Tm.wt_mk] at hs
    simp only [Tm.size_mk] at hd1
    have hr := Tm.mrk_mk ks false d k n i ts
    obtain ⟨R, hRR⟩ : ∃ R, R = marks l ((Tm.mk k n i ts).mrk ks false d) := ⟨_, rfl⟩
    rw [← hRR]
    rw [hr] at hRR
    have hqn : ∀ (O : Nat → Prop) b, none' b → O b := fun _ _ x => x.elim
    have HF := fun w' (hU : Upto none' w w') => flexible_any ks hk k i d n (.slice a ts.length cap) hd0 (by omega) (fun e => (ha2 e).2) ka kc w' (hK.on hU)
    have HS := fun (e : k = 5) w' (hU : Upto none' w w') => spine_any ks hk d hd0 (by omega) ka kc ts (by omega) (ha2 e).1 a cap w' (hK.on hU) (RepE.weaken (fun _ _ x => x.elim) _ _ _ _ (hE.on hU))
    obtain ⟨fb, hfb⟩ : ∃ fb, fb = flx ks d k i := ⟨_, rfl⟩
    obtain ⟨sb, hsb⟩ : ∃ sb, sb = spn ks d [] ts := ⟨_, rfl⟩
    rw [← hfb] at HF hRR
    rw [← hsb] at HS hRR
    have h5 : fb = true → k = 5 ∧ d ≤ i ∧ i - d < ks.length := fun e => by
      rw [hfb] at e
      simp only [flx, Bool.and_eq_true, beq_iff_eq, decide_eq_true_eq] at e
      refine ⟨e.1, e.2.1, ?_⟩
      by_cases hlt : i - d < ks.length
      · exact hlt
      · have := kof_far (ks := ks) (i := i - d) (.inr (by omega)); omega
    have HR := hid hRR
    have hRl := hid (show R.length = ks.length by rw [hRR, marks_length, hll])
    obtain ⟨w1, hw1⟩ : ∃ w1, w1 = w.alloc (.cells #[.int .i64 k, .string (B n), .int .i64 i, .slice a ts.length cap] 29) := ⟨_, rfl⟩
    have hU1 : Upto none' w w1 := by rw [hw1]; exact (Upto.refl none' w).alloc _
    have hB1 : Box4 w1 w.heap.size (.int .i64 k) (.string (B n)) (.int .i64 i) (.slice a ts.length cap) 29 := by rw [hw1]; exact Box4.at_new rfl
    have hL1 := hL.kept hU1
    have HW1 := hid hw1
    have hqw := hL.lt
    obtain ⟨H, hH⟩ : ∃ H, H = w.heap.size := ⟨_, rfl⟩
    rw [← hH] at hB1 hqw
    have hqH : ¬ H = q := by omega
    have HH := hid hH
    have HI := hid (And.intro ha1 (And.intro hs (And.intro hd1 hll)))
    have H5 := hid h5
    clear hw1 hRR hr hfb hsb h ha1 ha2 hany hH h5 hll hL
    obtain ⟨b0, b1, b2, b3⟩ := hB1.cells
    have hdb : d ≤ 500000 := by omega
    cases fb
    case' false =>
      clear HS
      go_enter Tryd.func58, Tryd.ntmps58
      go_wp2_with fail
      rw [← HW1.out, ← HH.out]
      refine (HF w1 hU1).mono ?_
      rintro e w2 ⟨rfl, hU2⟩
      have HR2 := hid (show R = marks l (Tm.mrkA ks false d k 0 ts) by rw [HR.out]; simp)
      have hL2 := hL1.kept hU2
      have hB2 := hB1.kept hU2
      have hUw2 : Upto (fun x => x = q) w w2 := (hU1.and hU2).mono (fun _ _ x => x.elim)
      obtain ⟨l1, hl1⟩ : ∃ l1, l1 = l := ⟨_, rfl⟩
      rw [← hl1] at hL2 HR2
      clear hl1 hU2
    case' true =>
      obtain ⟨hk5, hdi, hil⟩ := H5.out rfl
      obtain ⟨m, hm⟩ : ∃ m : Nat, i - d = (m : Int) := ⟨(i - d).toNat, by omega⟩
      have hi6 : i ≤ 1048576 + d + 500000 := by omega
      have hwm : IntKind.i64.wrap (i - d) = (m : Int) := by rw [Go.IntWalk.i64_in _ (by omega)]; exact hm
      have hm0 : (0 : Int) ≤ (m : Int) := by omega
      have hml : (m : Int) < (ks.length : Int) := by omega
      have HSS := hid (HS hk5)
      have HM := hid hm
      clear HS hk5 hil hi6
      go_enter Tryd.func58, Tryd.ntmps58
      go_wp2_with fail
      rw [← HW1.out, ← HH.out]
      refine (HF w1 hU1).mono ?_
      rintro e w1' ⟨rfl, hU1'⟩
      have hB1' := hB1.kept hU1'
      have hL1' := hL1.kept hU1'
      have hfz := hL1'.frozen m
      have hcq := hL1'.cell m (by have := HI.out.2.2.2; omega)
      clear b0 b1 b2 b3
      obtain ⟨b0, b1, b2, b3⟩ := hB1'.cells
      have hwz := hB1'.lt
      clear HSS
      have hL2 := hL1'.set m true
      have hUs : Upto (fun x => x = q) w1' (w1'.setCell ⟨q, m, none⟩ (.bool true)) := Upto.set (Upto.refl _ _) m _
      have HR2 := hid (show R = marks (l.set m true) (Tm.mrkA ks false d k 0 ts) by rw [HR.out, marks_append]; simp [marks, HM.out])
      have hUw2 : Upto (fun x => x = q) w (w1'.setCell ⟨q, m, none⟩ (.bool true)) := upto_then (hU1.and hU1') hUs
      have hB2 := hB1'.keep hUs hqH
      clear hUs
      obtain ⟨l1, hl1⟩ : ∃ l1, l1 = l.set m true := ⟨_, rfl⟩
      rw [← hl1] at hL2 HR2
      clear hl1
      go_wp2_with fail
      obtain ⟨w2, hw2⟩ : ∃ w2, w2 = w1'.setCell ⟨q, m, none⟩ (.bool true) := ⟨_, rfl⟩
      rw [← hw2] at hL2 hUw2 hB2 ⊢
      clear hw2 hB1' hL1' hfz hcq hU1' hwz
      clear b0 b1 b2 b3 hdi hm hm0 hml hwm
      have hdi : True := trivial
    case' false =>
      clear b0 b1 b2 b3
      obtain ⟨b0, b1, b2, b3⟩ := hB2.cells
      go_wp2_with fail
      clear b0 b1 b2 b3
    all_goals
      clear HF HR hU1 hB1 hL1
      go_loopw [10] (fun v wr => ∃ j : Nat, v = .int .i64 j ∧ j ≤ ts.length ∧ BoolRow wr q (marks l1 (Tm.mrkA ks false d k 0 (ts.take j))) ∧ Upto (fun x => x = q) w2 wr) (fun v _ => ts.length - (intOf v).toNat)
      case atStart => exact ⟨0, rfl, Nat.zero_le _, hL2, Upto.refl _ _⟩
      case round =>
        obtain ⟨j, rfl, hj, hLr, hU⟩ := hrel
        have HLR := hid hLr
        clear hLr
        have hw := hUw2.trans hU (fun _ _ x => x)
        have hBr := hB2.keep hU hqH
        obtain ⟨b0, b1, b2, b3⟩ := hBr.cells
        have j0 : (0 : Int) ≤ (j : Int) := by omega
        have jb : (j : Int) ≤ 200000 := by omega
        by_cases hlt : j < ts.length
        · obtain ⟨b, o, k1, n1, x1, s1, cp, rfl, hb, hbq, p0, p1, p2, p3, hRp⟩ := arg_tm (RepE.keep hw (fun _ x => x) _ _ _ _ hE) j hlt
          have j1 : (j : Int) < (ts.length : Int) := by omega
          have hs4 := Tm.size_le_sizes (List.getElem_mem hlt)
          have hs5 := Tm.wt_le_wts (List.getElem_mem hlt)
          obtain ⟨e0, e1⟩ := Tm.under_le k j
          have hd : Upto none' wr wr.drew := (Upto.refl none' wr).drew
          obtain ⟨i1, i2, i3, i4⟩ := HI.out
          have hKr := RepE.keep hw (fun _ x => x) _ _ _ _ hK
          have hl1r : (marks l1 (Tm.mrkA ks false d k 0 (ts.take j))).length = ks.length := by
            have h1 := HR2.out
            have h2 : R.length = ks.length := by rw [hRl.out]
            rw [h1, marks_length] at h2
            rw [marks_length, h2]
          have H1 : ∀ (z : Int) (w' : World), z = d + Tm.under k j → Upto none' wr w' → Calls Tryd.prog 58 #[.slice (some ⟨q, 0, none⟩) ks.length ks.length, .agg #[.int .i64 k1, .string (B n1), .int .i64 x1, .slice s1 ts[j].args.length cp], .slice ka ks.length kc, .int .i64 z, .bool false] w' fun e w'' =>
              e = .returned (.tuple #[]) ∧ BoolRow w'' q (marks (marks l1 (Tm.mrkA ks false d k 0 (ts.take j))) ((ts[j]'hlt).mrk ks false (d + Tm.under k j))) ∧ Upto (fun x => x = q) wr w'' := by
            intro z w' hz hU
            subst hz
            exact (ih _ (List.getElem_mem hlt) (by omega) (i1 _ (List.getElem_mem hlt)) (d + Tm.under k j) _ w' _ (by omega) (by omega) hl1r (HLR.out.kept hU) (hKr.on hU) (hRp.on hU)).mono fun _ _ ⟨he, hB, hV⟩ => ⟨he, hB, upto_then hU hV⟩
          have H2 := fun w' (hU : Upto none' wr w') => (under_any k j j rfl n i (.slice (some ⟨b, o, none⟩) ts.length cap) w').mono fun _ _ ⟨he, hV⟩ => (⟨he, hU.and hV⟩ : _ ∧ Upto none' wr _)
          have hT := Tm.mrkA_take_succ ks false d k ts j hlt
          obtain ⟨pm, hpm⟩ : ∃ pm, pm = (ts[j]'hlt).mrk ks false (d + Tm.under k j) := ⟨_, rfl⟩
          rw [← hpm] at H1 hT
          have HT := hid (And.intro hT hlt)
          clear hT hpm i1 i2 i3 i4 hs4 hs5 hRp hl1r hKr
          generalize ts[j].args.length = el at *
          clear hlt
          generalize Tm.under k j = u at *
          go_wp2_with fail
          go_region_held3 (fun w' => (w'.cell? ⟨H, 0, none⟩ = some (.int .i64 k) ∧ w'.cell? ⟨H, 1, none⟩ = some (.string (B n)) ∧ w'.cell? ⟨H, 2, none⟩ = some (.int .i64 i) ∧ w'.cell? ⟨H, 3, none⟩ = some (.slice (some ⟨b, o, none⟩) ts.length cap)) ∧
              w'.cell? ⟨b, o + j * 4, none⟩ = some (.int .i64 k1) ∧ w'.cell? ⟨b, o + j * 4 + 1, none⟩ = some (.string (B n1)) ∧ w'.cell? ⟨b, o + j * 4 + 2, none⟩ = some (.int .i64 x1) ∧ w'.cell? ⟨b, o + j * 4 + 3, none⟩ = some (.slice s1 el cp))
            (first | go_keep | (exact ⟨⟨hV2.cell b0 hqH, hV2.cell b1 hqH, hV2.cell b2 hqH, hV2.cell b3 hqH⟩, hV2.cell p0 hbq, hV2.cell p1 hbq, hV2.cell p2 hbq, hV2.cell p3 hbq⟩) | (exact ⟨⟨hV1.cell b0 (fun x => x), hV1.cell b1 (fun x => x), hV1.cell b2 (fun x => x), hV1.cell b3 (fun x => x)⟩, hV1.cell p0 (fun x => x), hV1.cell p1 (fun x => x), hV1.cell p2 (fun x => x), hV1.cell p3 (fun x => x)⟩))
            (first | (go_at_call 58; refine (H1 _ _ (by first | rfl | (rw [Go.IntWalk.i64_left, Go.IntWalk.wrap64_in _ (by omega)])) (by first | exact hV1 | exact hd)).mono ?_; rintro e w5 ⟨rfl, hL5, hV2⟩) | (go_at_call 118; refine (H2 _ (by first | exact hV1 | exact hd)).mono ?_; rintro e w5 ⟨rfl, hV1⟩))
          go_wp2_with fail
          go_roundw
          case rel => exact ⟨j + 1, by go_num, Nat.succ_le_of_lt HT.out.2, by rw [HT.out.1, marks_append]; exact hL5, hU.trans hV2 (fun _ _ x => x)⟩
          case measure => (have := HT.out.2; simp [intOf]; omega)
        · have hjn : ¬ (j : Int) < (ts.length : Int) := by omega
          have hdn : ts.take j = ts := List.take_of_length_le (by omega)
          have HD := hid hdn
          clear hdn
          go_wp2_with fail
          go_end0
          exact ⟨rfl, by rw [HR2.out, ← HD.out]; exact HLR.out, hw⟩
end Go.Proofs.YtnhmogmpbgadiaaDoor
namespace Go.Proofs.YtnhmogmpbgadiaaDoor
open Go.RowKit Go.LF
/-- A call hands back a row of truth values, in a new block. -/
def Bools (l : List Bool) (w : World) (e : Ending) (w' : World) : Prop :=
  ∃ q, e = .returned (.slice (some ⟨q, 0, none⟩) l.length l.length) ∧ BoolRow w' q l ∧ w.heap.size ≤ q ∧ Upto none' w w'
theorem upto_new {w a b : World} {q : Nat} (h : Upto none' w a) (k : Upto (fun x => x = q) a b) (hq : w.heap.size ≤ q) : Upto none' w b := h.trans k (fun x hx e => by omega)
set_option maxRecDepth 100000 in
set_option maxHeartbeats 4000000 in
theorem refOccurV_any (t : Tm) (hwt : t.wt ≤ 100000) (ks : List Int) (hk : ks.length ≤ 1000000) (ka : Option Addr) (kc : Nat) (w : World) (cs : List Value) (hK : RepE none' w 1 (ks.map (Dat.int .i64)) ka 0) (h : Rep none' w t.dat cs) :
    Calls Tryd.prog 15 #[.agg cs.toArray, .slice ka ks.length kc] w (Bools (occurV t ks) w) := by
  have HWF := fun w' h => refWellFormed_any t (by omega) w' cs h
  have HOC := fun q (hw : t.wf = 0) l w' h1 h2 h3 h4 => refOccurF_any q ks hk ka kc t hwt (Tm.wf_any3 hw).1 0 l w' cs (Int.le_refl _) (by have := Tm.size_le_wt t; omega) h1 h2 h3 h4
  obtain ⟨r, hr⟩ : ∃ r, r = occurV t ks := ⟨_, rfl⟩
  have hrl : r.length = ks.length := by rw [hr, occurV_length]
  have hr2 : r = marks (List.replicate ks.length false) (if t.wf == 0 then t.mrk ks false 0 else []) := by rw [hr, occurV, Tm.mrk_occ t ks 0 false]
  rw [← hr]
  have HMK := run_make_bools ks.length (by omega)
  obtain ⟨k, n, i, ts, a, cap, ht, rfl, hcap, hE⟩ := tm_open h
  obtain ⟨f, hf⟩ : ∃ f, f = t.wf := ⟨_, rfl⟩
  rw [← hf] at HWF HOC hr2
  generalize t.mrk ks false 0 = mk at *
  have HR := hid (And.intro hr2 hrl)
  clear hr hf hr2 hrl ht hcap hE
  generalize ts.length = len at *
  obtain ⟨w1, hw1⟩ : ∃ w1, w1 = w.alloc (.cells #[.int .i64 k, .string (B n), .int .i64 i, .slice a len cap] 29) := ⟨_, rfl⟩
  have hU1 : Upto none' w w1 := by rw [hw1]; exact (Upto.refl none' w).alloc _
  have hB1 : Box4 w1 w.heap.size (.int .i64 k) (.string (B n)) (.int .i64 i) (.slice a len cap) 29 := by rw [hw1]; exact Box4.at_new rfl
  have hz1 : w1.heap.size = w.heap.size + 1 := by rw [hw1]; simp
  obtain ⟨w2, hw2⟩ : ∃ w2, w2 = w1.alloc (.cells ((List.replicate ks.length false).map Value.bool).toArray 4) := ⟨_, rfl⟩
  have hM1 := HMK w1
  rw [← hw2] at hM1
  have hU2 : Upto none' w1 w2 := by rw [hw2]; exact (Upto.refl none' w1).alloc _
  have hL2 : BoolRow w2 w1.heap.size (List.replicate ks.length false) := by rw [hw2]; exact heap_alloc_new w1 _
  have hB2 := hB1.kept hU2
  obtain ⟨b0, b1, b2, b3⟩ := hB2.cells
  have hUw2 := hU1.and hU2
  obtain ⟨q, hq⟩ : ∃ q, q = w1.heap.size := ⟨_, rfl⟩
  rw [← hq] at hL2 hM1
  have HW := hid (And.intro hq hz1)
  rw [hw1] at hM1
  clear hw1 hw2 hU1 hB1 hz1 hq HMK
  by_cases hf0 : f = 0
  · have hf1 : (f == 0) = true := by simp [hf0]
    have HOC2 := hid (HOC q hf0)
    have HF := hid hf0
    clear HOC hf0
    go_enter Tryd.func15, Tryd.ntmps15
    go_wp2_with fail
    refine (HWF w2 (h.on hUw2)).mono ?_
    rintro e w3 ⟨rfl, hU3⟩
    have hB3 := hB2.kept hU3
    clear b0 b1 b2 b3
    obtain ⟨b0, b1, b2, b3⟩ := hB3.cells
    have hUw3 := hUw2.and hU3
    have hqw : w.heap.size ≤ q := by have := HW.out; omega
    have hK3 : RepE (fun x => x = q) w3 1 (ks.map (Dat.int .i64)) ka 0 := (RepE.weaken (fun b _ e => .inr (by omega)) _ _ _ _ (RepE.fresh' _ _ _ _ hK)).on hUw3
    have hR3 : Rep (fun x => x = q) w3 t.dat [.int .i64 k, .string (B n), .int .i64 i, .slice a len cap] := (Rep.weaken (fun b _ e => .inr (by omega)) _ _ (Rep.fresh' _ _ h)).on hUw3
    go_wp2_with fail
    refine (HOC2.out (List.replicate ks.length false) w3 (by simp) (hL2.kept hU3) hK3 hR3).mono ?_
    rintro e w4 ⟨rfl, hL4, hU4⟩
    go_wp2_with fail
    go_ret
    obtain ⟨h1, h2⟩ := HR.out
    exact ⟨q, by rw [h2]; rfl, by rw [h1, hf1, if_pos rfl]; exact hL4, hqw, upto_new hUw3 hU4 hqw⟩
  · have hf1 : (f == 0) = false := by simpa using hf0
    clear HOC hf0
    go_enter Tryd.func15, Tryd.ntmps15
    go_wp2_with fail
    refine (HWF w2 (h.on hUw2)).mono ?_
    rintro e w3 ⟨rfl, hU3⟩
    go_wp2_with fail
    go_ret
    obtain ⟨h1, h2⟩ := HR.out
    exact ⟨q, by rw [h2]; rfl, by rw [h1, hf1, if_neg (by simp)]; exact hL2.kept hU3, by have := HW.out; omega, hUw2.and hU3⟩
set_option maxRecDepth 100000 in
set_option maxHeartbeats 4000000 in
theorem refStrictV_any (t : Tm) (hwt : t.wt ≤ 100000) (ks : List Int) (hk : ks.length ≤ 1000000) (ka : Option Addr) (kc : Nat) (w : World) (cs : List Value) (hK : RepE none' w 1 (ks.map (Dat.int .i64)) ka 0) (h : Rep none' w t.dat cs) :
    Calls Tryd.prog 17 #[.agg cs.toArray, .slice ka ks.length kc] w (Bools (strictV t ks) w) := by
  have HWF := fun w' h => refWellFormed_any t (by omega) w' cs h
  have HOC := fun q (hw : t.wf = 0) l w' h1 h2 h3 h4 => refOccurT_any q ks hk ka kc t hwt (Tm.wf_any3 hw).1 0 l w' cs (Int.le_refl _) (by have := Tm.size_le_wt t; omega) h1 h2 h3 h4
  obtain ⟨r, hr⟩ : ∃ r, r = strictV t ks := ⟨_, rfl⟩
  have hrl : r.length = ks.length := by rw [hr, strictV_length]
  have hr2 : r = marks (List.replicate ks.length false) (if t.wf == 0 then t.mrk ks true 0 else []) := by rw [hr, strictV, Tm.mrk_strict t ks 0]
  rw [← hr]
  have HMK := run_make_bools ks.length (by omega)
  obtain ⟨k, n, i, ts, a, cap, ht, rfl, hcap, hE⟩ := tm_open h
  obtain ⟨f, hf⟩ : ∃ f, f = t.wf := ⟨_, rfl⟩
  rw [← hf] at HWF HOC hr2
  generalize t.mrk ks true 0 = mk at *
  have HR := hid (And.intro hr2 hrl)
  clear hr hf hr2 hrl ht hcap hE
  generalize ts.length = len at *
  obtain ⟨w1, hw1⟩ : ∃ w1, w1 = w.alloc (.cells #[.int .i64 k, .string (B n), .int .i64 i, .slice a len cap] 29) := ⟨_, rfl⟩
  have hU1 : Upto none' w w1 := by rw [hw1]; exact (Upto.refl none' w).alloc _
  have hB1 : Box4 w1 w.heap.size (.int .i64 k) (.string (B n)) (.int .i64 i) (.slice a len cap) 29 := by rw [hw1]; exact Box4.at_new rfl
  have hz1 : w1.heap.size = w.heap.size + 1 := by rw [hw1]; simp
  obtain ⟨w2, hw2⟩ : ∃ w2, w2 = w1.alloc (.cells ((List.replicate ks.length false).map Value.bool).toArray 4) := ⟨_, rfl⟩
  have hM1 := HMK w1
  rw [← hw2] at hM1
  have hU2 : Upto none' w1 w2 := by rw [hw2]; exact (Upto.refl none' w1).alloc _
  have hL2 : BoolRow w2 w1.heap.size (List.replicate ks.length false) := by rw [hw2]; exact heap_alloc_new w1 _
  have hB2 := hB1.kept hU2
  obtain ⟨b0, b1, b2, b3⟩ := hB2.cells
  have hUw2 := hU1.and hU2
  obtain ⟨q, hq⟩ : ∃ q, q = w1.heap.size := ⟨_, rfl⟩
  rw [← hq] at hL2 hM1
  have HW := hid (And.intro hq hz1)
  rw [hw1] at hM1
  clear hw1 hw2 hU1 hB1 hz1 hq HMK
  by_cases hf0 : f = 0
  · have hf1 : (f == 0) = true := by simp [hf0]
    have HOC2 := hid (HOC q hf0)
    have HF := hid hf0
    clear HOC hf0
    go_enter Tryd.func17, Tryd.ntmps17
    go_wp2_with fail
    refine (HWF w2 (h.on hUw2)).mono ?_
    rintro e w3 ⟨rfl, hU3⟩
    have hB3 := hB2.kept hU3
    clear b0 b1 b2 b3
    obtain ⟨b0, b1, b2, b3⟩ := hB3.cells
    have hUw3 := hUw2.and hU3
    have hqw : w.heap.size ≤ q := by have := HW.out; omega
    have hK3 : RepE (fun x => x = q) w3 1 (ks.map (Dat.int .i64)) ka 0 := (RepE.weaken (fun b _ e => .inr (by omega)) _ _ _ _ (RepE.fresh' _ _ _ _ hK)).on hUw3
    have hR3 : Rep (fun x => x = q) w3 t.dat [.int .i64 k, .string (B n), .int .i64 i, .slice a len cap] := (Rep.weaken (fun b _ e => .inr (by omega)) _ _ (Rep.fresh' _ _ h)).on hUw3
    go_wp2_with fail
    refine (HOC2.out (List.replicate ks.length false) w3 (by simp) (hL2.kept hU3) hK3 hR3).mono ?_
    rintro e w4 ⟨rfl, hL4, hU4⟩
    go_wp2_with fail
    go_ret
    obtain ⟨h1, h2⟩ := HR.out
    exact ⟨q, by rw [h2]; rfl, by rw [h1, hf1, if_pos rfl]; exact hL4, hqw, upto_new hUw3 hU4 hqw⟩
  · have hf1 : (f == 0) = false := by simpa using hf0
    clear HOC hf0
    go_enter Tryd.func17, Tryd.ntmps17
    go_wp2_with fail
    refine (HWF w2 (h.on hUw2)).mono ?_
    rintro e w3 ⟨rfl, hU3⟩
    go_wp2_with fail
    go_ret
    obtain ⟨h1, h2⟩ := HR.out
    exact ⟨q, by rw [h2]; rfl, by rw [h1, hf1, if_neg (by simp)]; exact hL2.kept hU3, by have := HW.out; omega, hUw2.and hU3⟩
set_option maxRecDepth 100000 in
set_option maxHeartbeats 4000000 in
theorem refPatternsV_any (t : Tm) (hwt : t.wt ≤ 100000) (ks : List Int) (hk : ks.length ≤ 1000000) (ka : Option Addr) (kc : Nat) (w : World) (cs : List Value) (hK : RepE none' w 1 (ks.map (Dat.int .i64)) ka 0) (h : Rep none' w t.dat cs) :
    Calls Tryd.prog 20 #[.agg cs.toArray, .slice ka ks.length kc] w fun e w' => e = .returned (.bool (patternsV t ks)) ∧ Upto none' w w' := by
  have HWF := fun w' h => refWellFormed_any t (by omega) w' cs h
  have HP := fun (hw : t.wf = 0) w' h1 h2 => refPatterns_any ks hk ka kc t hwt (Tm.wf_any3 hw).1 0 w' cs (Int.le_refl _) (by have := Tm.size_le_wt t; omega) h1 h2
  obtain ⟨r, hr⟩ : ∃ r, r = patternsV t ks := ⟨_, rfl⟩
  have hr2 : r = (t.wf == 0 && t.pats ks 0) := by rw [hr, patternsV, Tm.pats_all t ks 0 false]
  rw [← hr]
  obtain ⟨k, n, i, ts, a, cap, ht, rfl, hcap, hE⟩ := tm_open h
  obtain ⟨f, hf⟩ : ∃ f, f = t.wf := ⟨_, rfl⟩
  rw [← hf] at HWF HP hr2
  generalize t.pats ks 0 = pb at *
  have HR := hid hr2
  clear hr hf hr2 ht hcap hE
  generalize ts.length = len at *
  by_cases hf0 : f = 0
  · have hf1 : (f == 0) = true := by simp [hf0]
    have HP2 := hid (HP hf0)
    clear HP hf0
    go_enter Tryd.func20, Tryd.ntmps20
    go_wp2_with fail
    refine (HWF _ (h.new _)).mono ?_
    rintro e w1 ⟨rfl, hU⟩
    obtain ⟨b0, b1, b2, b3⟩ := box_new hU
    go_wp2_with fail
    refine (HP2.out _ (hK.on hU.behind') (h.on hU.behind')).mono ?_
    rintro e w2 ⟨rfl, hU2⟩
    go_wp2_with fail
    go_ret
    exact ⟨ret_bool (by rw [HR.out, hf1]; rfl), hU.behind'.and hU2⟩
  · have hf1 : (f == 0) = false := by simpa using hf0
    clear HP hf0
    go_enter Tryd.func20, Tryd.ntmps20
    go_wp2_with fail
    refine (HWF _ (h.new _)).mono ?_
    rintro e w1 ⟨rfl, hU⟩
    obtain ⟨b0, b1, b2, b3⟩ := box_new hU
    go_wp2_with fail
    go_ret
    exact ⟨ret_bool (by rw [HR.out, hf1]; rfl), hU.behind'⟩
/-- All that is marked is known. -/
def allK (known : List Bool) (j : Nat) : List Bool → Bool
  | [] => true
  | b :: bs => !(b && !kn known (j : Int)) && allK known (j + 1) bs
theorem allK_drop (known : List Bool) (l : List Bool) (j : Nat) (h : j < l.length) : allK known j (l.drop j) = (!(l[j] && !kn known (j : Int)) && allK known (j + 1) (l.drop (j + 1))) := by
  rw [List.drop_eq_getElem_cons h, allK]
theorem allK_iff (known : List Bool) (l : List Bool) : ∀ j, allK known j l = true ↔ ∀ i, i < l.length → l.getD i false = true → kn known ((j + i : Nat) : Int) = true := by
  induction l with
  | nil => intro j; simp [allK]
  | cons b bs ih =>
    intro j
    rw [allK, Bool.and_eq_true, ih (j + 1)]
    constructor
    · rintro ⟨h1, h2⟩ i hi hb
      cases i with
      | zero => simp at hb; subst hb; simpa using h1
      | succ i => have := h2 i (by simpa using hi) (by simpa using hb); rw [show j + (i + 1) = j + 1 + i by omega]; exact this
    · intro h
      refine ⟨?_, fun i hi hb => ?_⟩
      · have := h 0 (by simp)
        cases b <;> simp_all
      · have := h (i + 1) (by simpa using hi) (by simpa using hb)
        rw [show j + 1 + i = j + (i + 1) by omega]; exact this
theorem allK_known (t : Tm) (hw : t.wf = 0) (ks : List Int) (known : List Bool) : allK known 0 (occurV t ks) = knownV t ks known := by
  rw [Bool.eq_iff_iff, allK_iff]
  unfold knownV
  rw [hw]
  simp only [beq_self_eq_true, Bool.true_and, List.all_eq_true, Nat.zero_add]
  constructor
  · intro h e he
    obtain ⟨h1, h2⟩ := Tm.evs_lt t ks 0 false e he
    have := h e.i.toNat (by rw [occurV_length]; omega) (by
      rw [occurV_get _ _ _ (by omega), hw]
      simp only [beq_self_eq_true, Bool.true_and, List.contains_iff_mem, List.mem_map]
      exact ⟨e, he, by omega⟩)
    rwa [show ((e.i.toNat : Nat) : Int) = e.i by omega] at this
  · intro h i hi hb
    rw [occurV_get _ _ _ (by rw [occurV_length] at hi; exact hi), hw] at hb
    simp only [beq_self_eq_true, Bool.true_and, List.contains_iff_mem, List.mem_map] at hb
    obtain ⟨e, he, h2⟩ := hb
    rw [← h2]
    exact h e he
theorem kn_at (known : List Bool) (j : Nat) (h : j < known.length) : kn known (j : Int) = known[j] := by
  unfold kn
  have : decide ((j : Int) < (known.length : Int)) = true := by simp; omega
  rw [this]
  simp [List.getD, h]
theorem kn_far (known : List Bool) (j : Nat) (h : known.length ≤ j) : kn known (j : Int) = false := by
  unfold kn
  have : decide ((j : Int) < (known.length : Int)) = false := by simp; omega
  rw [this]; rfl
set_option maxRecDepth 100000 in
set_option maxHeartbeats 4000000 in
theorem refKnown_any (t : Tm) (hwt : t.wt ≤ 100000) (ks : List Int) (hk : ks.length ≤ 1000000) (ka : Option Addr) (kc : Nat) (known : List Bool) (na : Option Addr) (nc : Nat) (_hnl : known.length ≤ 281474976710656) (w : World) (cs : List Value) (hK : RepE none' w 1 (ks.map (Dat.int .i64)) ka 0) (hN : RepE none' w 1 (known.map Dat.bool) na 0) (h : Rep none' w t.dat cs) :
    Calls Tryd.prog 22 #[.agg cs.toArray, .slice ka ks.length kc, .slice na known.length nc] w fun e w' => e = .returned (.bool (knownV t ks known)) ∧ Upto none' w w' := by
  have HWF := fun w' h => refWellFormed_any t (by omega) w' cs h
  have HP := fun w' h1 h2 => refOccurV_any t hwt ks hk ka kc w' cs h1 h2
  obtain ⟨r, hr⟩ : ∃ r, r = knownV t ks known := ⟨_, rfl⟩
  have hr2 : t.wf = 0 → r = allK known 0 (occurV t ks) := fun hw => by rw [hr, allK_known t hw]
  have hr3 : t.wf ≠ 0 → r = false := fun hw => by rw [hr, knownV]; simp [hw]
  rw [← hr]
  obtain ⟨k, n, i, ts, a, cap, ht, rfl, hcap, hE⟩ := tm_open h
  obtain ⟨f, hf⟩ : ∃ f, f = t.wf := ⟨_, rfl⟩
  rw [← hf] at HWF hr2 hr3
  have hol := occurV_length t ks
  obtain ⟨l, hl⟩ : ∃ l, l = occurV t ks := ⟨_, rfl⟩
  rw [← hl] at HP hr2 hol
  clear hr hf ht hcap hE hl
  generalize ts.length = len at *
  have hl6 : l.length ≤ 1000000 := by omega
  by_cases hf0 : f = 0
  · have hf1 : (f != 0) = false := by simp [hf0]
    have HR := hid (hr2 hf0)
    clear hf0 hr2 hr3 hol
    go_enter Tryd.func22, Tryd.ntmps22
    go_wp2_with fail
    refine (HWF _ (h.new _)).mono ?_
    rintro e w1 ⟨rfl, hU⟩
    obtain ⟨b0, b1, b2, b3⟩ := box_new hU
    have hUw1 := hU.behind'
    go_wp2_with fail
    refine (HP _ (hK.on hUw1) (h.on hUw1)).mono ?_
    rintro e w2 ⟨q, rfl, hL, hq, hU2⟩
    have hUw2 := hUw1.and hU2
    clear b0 b1 b2 b3 HP HWF hU
    go_wp2_with fail
    go_loopw [8] (fun v wr => ∃ j : Nat, v = .int .i64 j ∧ j ≤ l.length ∧ r = allK known j (l.drop j) ∧ w2 = wr) (fun v _ => l.length - (intOf v).toNat)
    case atStart => exact ⟨0, rfl, Nat.zero_le _, by simpa using HR.out, rfl⟩
    case round =>
      obtain ⟨j, rfl, hj, hv, rfl⟩ := hrel
      have HV := hid hv
      clear hv
      have j0 : (0 : Int) ≤ (j : Int) := by omega
      have jb : (j : Int) ≤ 2000000 := by omega
      by_cases hlt : j < l.length
      · have j1 : (j : Int) < (l.length : Int) := by omega
        have hc := hL.cell j hlt
        have hT := allK_drop known l j hlt
        generalize l[j] = bj at *
        cases bj
        · have HT := hid (And.intro hT hlt)
          clear hT hlt
          go_wp2_with fail
          have fin : ∃ j1 : Nat, Value.int .i64 ((j : Int) + 1) = .int .i64 j1 ∧ j1 ≤ l.length ∧ r = allK known j1 (l.drop j1) := ⟨j + 1, by go_num, Nat.succ_le_of_lt HT.out.2, by rw [HV.out, HT.out.1]; simp⟩
          have fm : l.length - (intOf (Value.int .i64 ((j : Int) + 1))).toNat < l.length - (intOf (Value.int .i64 (j : Int))).toNat := by have := HT.out.2; simp [intOf]; omega
          go_roundw
          case rel => first | exact fin | (obtain ⟨x1, x2, x3, x4⟩ := fin; exact ⟨x1, x2, x3, x4, rfl⟩) | (obtain ⟨x1, x2, x3, x4⟩ := fin; exact ⟨x1, x2, x3, x4, trivial⟩)
          case measure => (have := HT.out.2; simp [intOf]; omega)
        · by_cases hn : j < known.length
          · obtain ⟨nb, no, rfl, _, _, hnc⟩ := bool_cell (hN.on hUw2) j hn
            have jn : ¬ (known.length : Int) ≤ (j : Int) := by omega
            have jn1 : (j : Int) < (known.length : Int) := by omega
            rw [kn_at known j hn] at hT
            generalize known[j] = nj at *
            have HT := hid (And.intro hT hlt)
            clear hT hlt
            cases nj
            · go_wp2_with fail
              go_ret
              exact ⟨ret_bool (by rw [HV.out, HT.out.1]; rfl), hUw2⟩
            · go_wp2_with fail
              have fin : ∃ j1 : Nat, Value.int .i64 ((j : Int) + 1) = .int .i64 j1 ∧ j1 ≤ l.length ∧ r = allK known j1 (l.drop j1) := ⟨j + 1, by go_num, Nat.succ_le_of_lt HT.out.2, by rw [HV.out, HT.out.1]; simp⟩
              go_roundw
              case rel => first | exact fin | (obtain ⟨x1, x2, x3, x4⟩ := fin; exact ⟨x1, x2, x3, x4, rfl⟩) | (obtain ⟨x1, x2, x3, x4⟩ := fin; exact ⟨x1, x2, x3, x4, trivial⟩)
              case measure => (have := HT.out.2; simp [intOf]; omega)
          · have jn : (known.length : Int) ≤ (j : Int) := by omega
            rw [kn_far known j (by omega)] at hT
            have HT := hid (And.intro hT hlt)
            clear hT hlt hn
            go_wp2_with fail
            go_ret
            exact ⟨ret_bool (by rw [HV.out, HT.out.1]; rfl), hUw2⟩
      · have hjn : ¬ (j : Int) < (l.length : Int) := by omega
        have hdn : l.drop j = [] := List.drop_eq_nil_of_le (by omega)
        have HD := hid hdn
        clear hdn
        go_wp2_with fail
        go_ret
        exact ⟨ret_bool (by rw [HV.out, HD.out, allK]), hUw2⟩
  · have hf1 : (f != 0) = true := by simpa using hf0
    have HR := hid (hr3 hf0)
    clear hf0 hr2 hr3 hol HP
    go_enter Tryd.func22, Tryd.ntmps22
    go_wp2_with fail
    refine (HWF _ (h.new _)).mono ?_
    rintro e w1 ⟨rfl, hU⟩
    obtain ⟨b0, b1, b2, b3⟩ := box_new hU
    go_wp2_with fail
    go_ret
    exact ⟨ret_bool HR.out.symm, hU.behind'⟩
end Go.Proofs.YtnhmogmpbgadiaaDoor
namespace Go.Proofs.YtnhmogmpbgadiaaDoor
open Go.RowKit Go.LF
theorem fold_length {f : List Bool → Ev → List Bool} (hf : ∀ l e, (f l e).length = l.length) (es : List Ev) : ∀ l, (es.foldl f l).length = l.length := by
  induction es with
  | nil => intro l; rfl
  | cons e es ih => intro l; rw [List.foldl_cons, ih, hf]
theorem noteO_length (l : List Bool) (e : Ev) : (noteO l e).length = l.length := by simp [noteO]
theorem noteS_length (l : List Bool) (e : Ev) : (noteS l e).length = l.length := by simp [noteS]
set_option maxRecDepth 100000 in
set_option maxHeartbeats 4000000 in
theorem occurNote_any (w0 : World) (q n Lb : Nat) (hl : w0.cell? ⟨Lb, 0, none⟩ = some (.slice (some ⟨q, 0, none⟩) n n)) (hLq : ¬ Lb = q) (_hn : n ≤ 1000000) :
    NoteSays w0 q n 56 [.pointer (some ⟨Lb, 0, none⟩)] (fun es => .cells ((es.foldl noteO (List.replicate n false)).map Value.bool).toArray 4) := by
  intro e done W hi0 hi1 hq hU
  have hB : BoolRow W q (done.foldl noteO (List.replicate n false)) := hq
  have hlen : (done.foldl noteO (List.replicate n false)).length = n := by rw [fold_length noteO_length]; simp
  simp only [List.foldl_append, List.foldl_cons, List.foldl_nil]
  generalize done.foldl noteO (List.replicate n false) = l at *
  have h1 := hU.cell hl hLq
  obtain ⟨i, ins, pat⟩ := e
  simp only at hi0 hi1
  obtain ⟨m, rfl⟩ : ∃ m : Nat, i = (m : Int) := ⟨i.toNat, by omega⟩
  have hml : m < l.length := by omega
  have hc := hB.cell m hml
  have hz := hB.frozen m
  have hset := hB.set m true
  have HL := hid hlen
  clear hlen hq hl
  go_enter Tryd.func56, Tryd.ntmps56
  go_wp2_with fail
  go_end0
  exact ⟨rfl, by rw [show noteO l ⟨(m : Int), ins, pat⟩ = l.set m true by simp [noteO]]; exact hset, Upto.set (Upto.refl _ _) m _⟩
set_option maxRecDepth 100000 in
set_option maxHeartbeats 4000000 in
theorem strictNote_any (w0 : World) (q n Lb : Nat) (hl : w0.cell? ⟨Lb, 0, none⟩ = some (.slice (some ⟨q, 0, none⟩) n n)) (hLq : ¬ Lb = q) (_hn : n ≤ 1000000) :
    NoteSays w0 q n 59 [.pointer (some ⟨Lb, 0, none⟩)] (fun es => .cells ((es.foldl noteS (List.replicate n false)).map Value.bool).toArray 4) := by
  intro e done W hi0 hi1 hq hU
  have hB : BoolRow W q (done.foldl noteS (List.replicate n false)) := hq
  have hlen : (done.foldl noteS (List.replicate n false)).length = n := by rw [fold_length noteS_length]; simp
  simp only [List.foldl_append, List.foldl_cons, List.foldl_nil]
  generalize done.foldl noteS (List.replicate n false) = l at *
  have h1 := hU.cell hl hLq
  obtain ⟨i, ins, pat⟩ := e
  simp only at hi0 hi1
  obtain ⟨m, rfl⟩ : ∃ m : Nat, i = (m : Int) := ⟨i.toNat, by omega⟩
  have hc := hB.cell m (by omega)
  have hz := hB.frozen m
  have hset := fun b => hB.set m b
  have hml : m < l.length := by omega
  have hg : l.getD m false = l[m] := by simp [List.getD, hml]
  have hns : noteS l ⟨(m : Int), ins, pat⟩ = l.set m (l[m] || (!ins && pat)) := by unfold noteS; simp only [Int.toNat_natCast]; rw [hg]
  rw [hns]
  generalize l[m] = lm at *
  have HL := hid hlen
  have HS := hid (And.intro hset hml)
  clear hlen hq hl hg hns hset hml hB
  cases lm <;> cases ins <;> cases pat
  all_goals
    go_enter Tryd.func59, Tryd.ntmps59
    go_wp2_with fail
    go_region
    go_wp2_with fail
    go_end0
    exact ⟨rfl, HS.out.1 _, (Upto.set (Upto.refl _ _) m _).drew⟩
set_option maxRecDepth 100000 in
set_option maxHeartbeats 4000000 in
theorem patternsNote_any (w0 : World) (q n : Nat) :
    NoteSays w0 q n 60 [.pointer (some ⟨q, 0, none⟩)] (fun es => .cells #[.bool (es.all (·.pat))] 4) := by
  intro e done W hi0 hi1 hq hU
  have hB : Box1 W q (.bool (done.all (·.pat))) 4 := hq
  simp only [List.all_append, List.all_cons, List.all_nil, Bool.and_true]
  generalize done.all (·.pat) = o at *
  obtain ⟨i, ins, pat⟩ := e
  have h1 := hB.cell
  have hz := hB.frozen
  have hset := fun b => hB.set (.bool b)
  clear hq hB
  cases o <;> cases pat
  all_goals
    go_enter Tryd.func60, Tryd.ntmps60
    go_wp2_with fail
    go_end0
    exact ⟨rfl, hset _, Upto.set (Upto.refl _ _) 0 _⟩
set_option maxRecDepth 100000 in
set_option maxHeartbeats 4000000 in
theorem knownNote_any (w0 : World) (q n Kb : Nat) (known : List Bool) (na : Option Addr) (nc : Nat) (_hnl : known.length ≤ 281474976710656) (_hn : n ≤ 1000000) (hl : w0.cell? ⟨Kb, 0, none⟩ = some (.slice na known.length nc)) (hKq : ¬ Kb = q) (hN : RepE (fun x => x = q) w0 1 (known.map Dat.bool) na 0) :
    NoteSays w0 q n 62 [.pointer (some ⟨q, 0, none⟩), .pointer (some ⟨Kb, 0, none⟩)] (fun es => .cells #[.bool (es.all fun e => kn known e.i)] 4) := by
  intro e done W hi0 hi1 hq hU
  have hB : Box1 W q (.bool (done.all fun e => kn known e.i)) 4 := hq
  simp only [List.all_append, List.all_cons, List.all_nil, Bool.and_true]
  generalize (done.all fun e => kn known e.i) = o at *
  obtain ⟨i, ins, pat⟩ := e
  simp only at hi0 hi1 ⊢
  obtain ⟨m, rfl⟩ : ∃ m : Nat, i = (m : Int) := ⟨i.toNat, by omega⟩
  have h1 := hB.cell
  have hz := hB.frozen
  have hset := fun b => hB.set (.bool b)
  have h2 := hU.cell hl hKq
  have hN2 := RepE.keep hU (fun _ e => e) _ _ _ _ hN
  clear hq hB
  cases o
  · go_enter Tryd.func62, Tryd.ntmps62
    go_wp2_with fail
    go_end0
    exact ⟨rfl, hset _, Upto.set (Upto.refl _ _) 0 _⟩
  · by_cases hm : m < known.length
    · obtain ⟨nb, no, rfl, _, _, hnc⟩ := bool_cell hN2 m hm
      have jn : (m : Int) < (known.length : Int) := by omega
      have jn0 : (0 : Int) ≤ (m : Int) := by omega
      rw [kn_at known m hm]
      generalize known[m] = nm at *
      go_enter Tryd.func62, Tryd.ntmps62
      go_wp2_with fail
      go_end0
      exact ⟨rfl, hset _, Upto.set (Upto.refl _ _) 0 _⟩
    · have jn : ¬ (m : Int) < (known.length : Int) := by omega
      rw [kn_far known m (by omega)]
      go_enter Tryd.func62, Tryd.ntmps62
      go_wp2_with fail
      go_end0
      exact ⟨rfl, hset _, Upto.set (Upto.refl _ _) 0 _⟩
set_option maxRecDepth 100000 in
set_option maxHeartbeats 4000000 in
theorem occur_any (t : Tm) (hwt : t.wt ≤ 100000) (ks : List Int) (hk : ks.length ≤ 1000000) (ka : Option Addr) (kc : Nat) (w : World) (cs : List Value) (hK : RepE none' w 1 (ks.map (Dat.int .i64)) ka 0) (h : Rep none' w t.dat cs) :
    Calls Tryd.prog 14 #[.agg cs.toArray, .slice ka ks.length kc] w (Bools (occurV t ks) w) := by
  have HWF := fun w' h => wellFormed_any t (by omega) w' cs h
  have HVI := fun (hw : t.wf = 0) q Lb W hL hLq => visit_any ks hk 56 [.pointer (some ⟨Lb, 0, none⟩)] q ka kc W _ (occurNote_any W q ks.length Lb hL hLq hk) (fun args w => by simp only [go_sem, Tryd.call56]) t hwt (Tm.wf_any3 hw).1 cs
  obtain ⟨r, hr⟩ : ∃ r, r = occurV t ks := ⟨_, rfl⟩
  have hrl : r.length = ks.length := by rw [hr, occurV_length]
  have hr2 : r = if t.wf == 0 then (t.evs ks 0 false).foldl noteO (List.replicate ks.length false) else List.replicate ks.length false := by
    rw [hr, occurV]
    cases t.wf == 0
    · simp [marks]
    · simp [noteO_fold]
  rw [← hr]
  have HMK := run_make_bools ks.length (by omega)
  have hmf : ∀ (fn : Fn) (first cap : Array Value) (w : World), (Instr.makeFunc fn first cap).run Tryd.prog w = .ok (.func fn first cap) w := fun _ _ _ _ => rfl
  obtain ⟨k, n, i, ts, a, cap, ht, rfl, hcap, hE⟩ := tm_open h
  obtain ⟨f, hf⟩ : ∃ f, f = t.wf := ⟨_, rfl⟩
  rw [← hf] at HWF HVI hr2
  generalize (t.evs ks 0 false) = evl at *
  have HR := hid (And.intro hr2 hrl)
  clear hr hf hr2 hrl ht hcap hE
  generalize ts.length = len at *
  obtain ⟨w1, hw1⟩ : ∃ w1, w1 = w.alloc (.cells #[.int .i64 k, .string (B n), .int .i64 i, .slice a len cap] 29) := ⟨_, rfl⟩
  have hU1 : Upto none' w w1 := by rw [hw1]; exact (Upto.refl none' w).alloc _
  have hB1 : Box4 w1 w.heap.size (.int .i64 k) (.string (B n)) (.int .i64 i) (.slice a len cap) 29 := by rw [hw1]; exact Box4.at_new rfl
  have hz1 : w1.heap.size = w.heap.size + 1 := by rw [hw1]; simp
  obtain ⟨w2, hw2⟩ : ∃ w2, w2 = w1.alloc (.cells ((List.replicate ks.length false).map Value.bool).toArray 4) := ⟨_, rfl⟩
  have hM1 := HMK w1
  rw [← hw2] at hM1
  have hU2 : Upto none' w1 w2 := by rw [hw2]; exact (Upto.refl none' w1).alloc _
  have hL2 : BoolRow w2 w1.heap.size (List.replicate ks.length false) := by rw [hw2]; exact heap_alloc_new w1 _
  have hz2 : w2.heap.size = w1.heap.size + 1 := by rw [hw2]; simp
  obtain ⟨q, hq⟩ : ∃ q, q = w1.heap.size := ⟨_, rfl⟩
  rw [← hq] at hL2 hM1 hz2
  obtain ⟨w3, hw3⟩ : ∃ w3, w3 = w2.alloc (.cells #[.slice (some ⟨q, 0, none⟩) ks.length ks.length] 32) := ⟨_, rfl⟩
  have hU3 : Upto none' w2 w3 := by rw [hw3]; exact (Upto.refl none' w2).alloc _
  have hV3 : Box1 w3 (q + 1) (.slice (some ⟨q, 0, none⟩) ks.length ks.length) 32 := by rw [hw3]; exact Box1.at_new hz2
  have hL3 := hL2.kept hU3
  have hB3 := (hB1.kept hU2).kept hU3
  have bb := hB3.cells
  rw [hw3] at bb
  obtain ⟨b0, b1, b2, b3⟩ := bb
  have hUw3 := (hU1.and hU2).and hU3
  have HW := hid (And.intro hq hz1)
  have HW3 := hid hw3
  rw [hw1] at hM1
  clear hw1 hw2 hU1 hB1 hq HMK hU2 hU3 hL2 hw3 hz1
  by_cases hf0 : f = 0
  · have hf1 : (f == 0) = true := by simp [hf0]
    have HVI2 := hid (HVI hf0 q (q + 1))
    have HF := hid hf0
    clear HVI hf0
    go_enter Tryd.func14, Tryd.ntmps14
    go_wp2_with fail
    try simp only [hz2]
    rw [← HW3.out]
    refine (HWF w3 (h.on hUw3)).mono ?_
    rintro e w4 ⟨rfl, hU4⟩
    have hB4 := hB3.kept hU4
    have hV4 := hV3.kept hU4
    have hv4 := hV4.cell
    clear b0 b1 b2 b3
    obtain ⟨b0, b1, b2, b3⟩ := hB4.cells
    have hUw4 := hUw3.and hU4
    have hqw : w.heap.size ≤ q := by have := HW.out; omega
    have hK4 : RepE (fun x => x = q) w4 1 (ks.map (Dat.int .i64)) ka 0 := (RepE.weaken (fun b _ e => .inr (by omega)) _ _ _ _ (RepE.fresh' _ _ _ _ hK)).on hUw4
    have hR4 : Rep (fun x => x = q) w4 t.dat [.int .i64 k, .string (B n), .int .i64 i, .slice a len cap] := (Rep.weaken (fun b _ e => .inr (by omega)) _ _ (Rep.fresh' _ _ h)).on hUw4
    go_wp2_with fail
    refine (HVI2.out w4 hV4.cell (by omega) (hL3.kept hU4) hR4 hK4).mono ?_
    rintro e w5 ⟨rfl, hL5, hU5⟩
    have hv5 := (hV4.keep hU5 (by omega)).cell
    go_wp2_with fail
    go_ret
    obtain ⟨h1, h2⟩ := HR.out
    exact ⟨q, by rw [h2]; rfl, by rw [h1, hf1, if_pos rfl]; exact hL5, hqw, upto_new hUw4 hU5 hqw⟩
  · have hf1 : (f == 0) = false := by simpa using hf0
    clear HVI hf0
    go_enter Tryd.func14, Tryd.ntmps14
    go_wp2_with fail
    try simp only [hz2]
    rw [← HW3.out]
    refine (HWF w3 (h.on hUw3)).mono ?_
    rintro e w4 ⟨rfl, hU4⟩
    have hv4 := (hV3.kept hU4).cell
    go_wp2_with fail
    go_ret
    obtain ⟨h1, h2⟩ := HR.out
    exact ⟨q, by rw [h2]; rfl, by rw [h1, hf1, if_neg (by simp)]; exact hL3.kept hU4, by have := HW.out; omega, hUw3.and hU4⟩
set_option maxRecDepth 100000 in
set_option maxHeartbeats 4000000 in
theorem strict_any (t : Tm) (hwt : t.wt ≤ 100000) (ks : List Int) (hk : ks.length ≤ 1000000) (ka : Option Addr) (kc : Nat) (w : World) (cs : List Value) (hK : RepE none' w 1 (ks.map (Dat.int .i64)) ka 0) (h : Rep none' w t.dat cs) :
    Calls Tryd.prog 16 #[.agg cs.toArray, .slice ka ks.length kc] w (Bools (strictV t ks) w) := by
  have HWF := fun w' h => wellFormed_any t (by omega) w' cs h
  have HVI := fun (hw : t.wf = 0) q Lb W hL hLq => visit_any ks hk 59 [.pointer (some ⟨Lb, 0, none⟩)] q ka kc W _ (strictNote_any W q ks.length Lb hL hLq hk) (fun args w => by simp only [go_sem, Tryd.call59]) t hwt (Tm.wf_any3 hw).1 cs
  obtain ⟨r, hr⟩ : ∃ r, r = strictV t ks := ⟨_, rfl⟩
  have hrl : r.length = ks.length := by rw [hr, strictV_length]
  have hr2 : r = if t.wf == 0 then (t.evs ks 0 false).foldl noteS (List.replicate ks.length false) else List.replicate ks.length false := by
    rw [hr, strictV]
    cases t.wf == 0
    · simp [marks]
    · simp [noteS_fold]
  rw [← hr]
  have HMK := run_make_bools ks.length (by omega)
  have hmf : ∀ (fn : Fn) (first cap : Array Value) (w : World), (Instr.makeFunc fn first cap).run Tryd.prog w = .ok (.func fn first cap) w := fun _ _ _ _ => rfl
  obtain ⟨k, n, i, ts, a, cap, ht, rfl, hcap, hE⟩ := tm_open h
  obtain ⟨f, hf⟩ : ∃ f, f = t.wf := ⟨_, rfl⟩
  rw [← hf] at HWF HVI hr2
  generalize (t.evs ks 0 false) = evl at *
  have HR := hid (And.intro hr2 hrl)
  clear hr hf hr2 hrl ht hcap hE
  generalize ts.length = len at *
  obtain ⟨w1, hw1⟩ : ∃ w1, w1 = w.alloc (.cells #[.int .i64 k, .string (B n), .int .i64 i, .slice a len cap] 29) := ⟨_, rfl⟩
  have hU1 : Upto none' w w1 := by rw [hw1]; exact (Upto.refl none' w).alloc _
  have hB1 : Box4 w1 w.heap.size (.int .i64 k) (.string (B n)) (.int .i64 i) (.slice a len cap) 29 := by rw [hw1]; exact Box4.at_new rfl
  have hz1 : w1.heap.size = w.heap.size + 1 := by rw [hw1]; simp
  obtain ⟨w2, hw2⟩ : ∃ w2, w2 = w1.alloc (.cells ((List.replicate ks.length false).map Value.bool).toArray 4) := ⟨_, rfl⟩
  have hM1 := HMK w1
  rw [← hw2] at hM1
  have hU2 : Upto none' w1 w2 := by rw [hw2]; exact (Upto.refl none' w1).alloc _
  have hL2 : BoolRow w2 w1.heap.size (List.replicate ks.length false) := by rw [hw2]; exact heap_alloc_new w1 _
  have hz2 : w2.heap.size = w1.heap.size + 1 := by rw [hw2]; simp
  obtain ⟨q, hq⟩ : ∃ q, q = w1.heap.size := ⟨_, rfl⟩
  rw [← hq] at hL2 hM1 hz2
  obtain ⟨w3, hw3⟩ : ∃ w3, w3 = w2.alloc (.cells #[.slice (some ⟨q, 0, none⟩) ks.length ks.length] 32) := ⟨_, rfl⟩
  have hU3 : Upto none' w2 w3 := by rw [hw3]; exact (Upto.refl none' w2).alloc _
  have hV3 : Box1 w3 (q + 1) (.slice (some ⟨q, 0, none⟩) ks.length ks.length) 32 := by rw [hw3]; exact Box1.at_new hz2
  have hL3 := hL2.kept hU3
  have hB3 := (hB1.kept hU2).kept hU3
  have bb := hB3.cells
  rw [hw3] at bb
  obtain ⟨b0, b1, b2, b3⟩ := bb
  have hUw3 := (hU1.and hU2).and hU3
  have HW := hid (And.intro hq hz1)
  have HW3 := hid hw3
  rw [hw1] at hM1
  clear hw1 hw2 hU1 hB1 hq HMK hU2 hU3 hL2 hw3 hz1
  by_cases hf0 : f = 0
  · have hf1 : (f == 0) = true := by simp [hf0]
    have HVI2 := hid (HVI hf0 q (q + 1))
    have HF := hid hf0
    clear HVI hf0
    go_enter Tryd.func16, Tryd.ntmps16
    go_wp2_with fail
    try simp only [hz2]
    rw [← HW3.out]
    refine (HWF w3 (h.on hUw3)).mono ?_
    rintro e w4 ⟨rfl, hU4⟩
    have hB4 := hB3.kept hU4
    have hV4 := hV3.kept hU4
    have hv4 := hV4.cell
    clear b0 b1 b2 b3
    obtain ⟨b0, b1, b2, b3⟩ := hB4.cells
    have hUw4 := hUw3.and hU4
    have hqw : w.heap.size ≤ q := by have := HW.out; omega
    have hK4 : RepE (fun x => x = q) w4 1 (ks.map (Dat.int .i64)) ka 0 := (RepE.weaken (fun b _ e => .inr (by omega)) _ _ _ _ (RepE.fresh' _ _ _ _ hK)).on hUw4
    have hR4 : Rep (fun x => x = q) w4 t.dat [.int .i64 k, .string (B n), .int .i64 i, .slice a len cap] := (Rep.weaken (fun b _ e => .inr (by omega)) _ _ (Rep.fresh' _ _ h)).on hUw4
    go_wp2_with fail
    refine (HVI2.out w4 hV4.cell (by omega) (hL3.kept hU4) hR4 hK4).mono ?_
    rintro e w5 ⟨rfl, hL5, hU5⟩
    have hv5 := (hV4.keep hU5 (by omega)).cell
    go_wp2_with fail
    go_ret
    obtain ⟨h1, h2⟩ := HR.out
    exact ⟨q, by rw [h2]; rfl, by rw [h1, hf1, if_pos rfl]; exact hL5, hqw, upto_new hUw4 hU5 hqw⟩
  · have hf1 : (f == 0) = false := by simpa using hf0
    clear HVI hf0
    go_enter Tryd.func16, Tryd.ntmps16
    go_wp2_with fail
    try simp only [hz2]
    rw [← HW3.out]
    refine (HWF w3 (h.on hUw3)).mono ?_
    rintro e w4 ⟨rfl, hU4⟩
    have hv4 := (hV3.kept hU4).cell
    go_wp2_with fail
    go_ret
    obtain ⟨h1, h2⟩ := HR.out
    exact ⟨q, by rw [h2]; rfl, by rw [h1, hf1, if_neg (by simp)]; exact hL3.kept hU4, by have := HW.out; omega, hUw3.and hU4⟩
set_option maxRecDepth 100000 in
set_option maxHeartbeats 4000000 in
theorem patterns_any (t : Tm) (hwt : t.wt ≤ 100000) (ks : List Int) (hk : ks.length ≤ 1000000) (ka : Option Addr) (kc : Nat) (w : World) (cs : List Value) (hK : RepE none' w 1 (ks.map (Dat.int .i64)) ka 0) (h : Rep none' w t.dat cs) :
    Calls Tryd.prog 19 #[.agg cs.toArray, .slice ka ks.length kc] w fun e w' => e = .returned (.bool (patternsV t ks)) ∧ Upto none' w w' := by
  have HWF := fun w' h => wellFormed_any t (by omega) w' cs h
  have HVI := fun (hw : t.wf = 0) q  W  => visit_any ks hk 60 [.pointer (some ⟨q, 0, none⟩)] q ka kc W _ (patternsNote_any W q ks.length) (fun args w => by simp only [go_sem, Tryd.call60]) t hwt (Tm.wf_any3 hw).1 cs
  obtain ⟨r, hr⟩ : ∃ r, r = patternsV t ks := ⟨_, rfl⟩
  have hr2 : r = (t.wf == 0 && (t.evs ks 0 false).all (·.pat)) := hr
  rw [← hr]
  have hmf : ∀ (fn : Fn) (first cap : Array Value) (w : World), (Instr.makeFunc fn first cap).run Tryd.prog w = .ok (.func fn first cap) w := fun _ _ _ _ => rfl
  obtain ⟨k, n, i, ts, a, cap, ht, rfl, hcap, hE⟩ := tm_open h
  obtain ⟨f, hf⟩ : ∃ f, f = t.wf := ⟨_, rfl⟩
  rw [← hf] at HWF HVI hr2
  generalize (t.evs ks 0 false) = evl at *
  have HR := hid hr2
  clear hr hf hr2 ht hcap hE
  generalize ts.length = len at *
  obtain ⟨w1, hw1⟩ : ∃ w1, w1 = w.alloc (.cells #[.int .i64 k, .string (B n), .int .i64 i, .slice a len cap] 29) := ⟨_, rfl⟩
  have hU1 : Upto none' w w1 := by rw [hw1]; exact (Upto.refl none' w).alloc _
  have hB1 : Box4 w1 w.heap.size (.int .i64 k) (.string (B n)) (.int .i64 i) (.slice a len cap) 29 := by rw [hw1]; exact Box4.at_new rfl
  have HW1 := hid hw1
  have hw1z : w.heap.size < w1.heap.size := hB1.lt
  clear hw1
  by_cases hf0 : f = 0
  · have hf1 : (f == 0) = true := by simp [hf0]
    have HVI2 := hid (HVI hf0)
    clear HVI hf0
    go_enter Tryd.func19, Tryd.ntmps19
    go_wp2_with fail
    rw [← HW1.out]
    refine (HWF w1 (h.on hU1)).mono ?_
    rintro e w2 ⟨rfl, hU2⟩
    have hB2 := hB1.kept hU2
    have hUw2 := hU1.and hU2
    obtain ⟨b0, b1, b2, b3⟩ := hB2.cells
    obtain ⟨w3, hw3⟩ : ∃ w3, w3 = w2.alloc (.cells #[.bool true] 4) := ⟨_, rfl⟩
    have hU3 : Upto none' w2 w3 := by rw [hw3]; exact (Upto.refl none' w2).alloc _
    obtain ⟨q, hq⟩ : ∃ q, q = w2.heap.size := ⟨_, rfl⟩
    have hO3 : Box1 w3 q (.bool true) 4 := by rw [hw3]; exact Box1.at_new hq.symm
    have hqw : w.heap.size ≤ q := by have := hUw2.size; omega
    have hqt : w1.heap.size ≤ q := by have := hU2.size; omega
    have hB3 := hB2.kept hU3
    have hUw3 := hUw2.and hU3
    have hK3 : RepE (fun x => x = q) w3 1 (ks.map (Dat.int .i64)) ka 0 := (RepE.weaken (fun b _ e => .inr (by omega)) _ _ _ _ (RepE.fresh' _ _ _ _ hK)).on hUw3
    have hR3 : Rep (fun x => x = q) w3 t.dat [.int .i64 k, .string (B n), .int .i64 i, .slice a len cap] := (Rep.weaken (fun b _ e => .inr (by omega)) _ _ (Rep.fresh' _ _ h)).on hUw3
    have HVV := HVI2.out q  w3  hO3 hR3 hK3
    have bb := hB3.cells
    rw [hw3] at bb
    clear b0 b1 b2 b3
    obtain ⟨b0, b1, b2, b3⟩ := bb
    have HW3 := hid hw3
    have HQ := hid hq
    clear hw3 hq
    go_wp2_with fail
    rw [← HW3.out, ← HQ.out]
    refine HVV.mono ?_
    rintro e w4 ⟨rfl, hO4, hU4⟩
    have hv4 : w4.cell? ⟨q, 0, none⟩ = some (.bool (evl.all (·.pat))) := Box1.cell hO4
    go_wp2_with fail
    go_ret
    exact ⟨ret_bool (by rw [HR.out, hf1]; rfl), upto_new hUw3 hU4 hqw⟩
  · have hf1 : (f == 0) = false := by simpa using hf0
    clear HVI hf0
    go_enter Tryd.func19, Tryd.ntmps19
    go_wp2_with fail
    rw [← HW1.out]
    refine (HWF w1 (h.on hU1)).mono ?_
    rintro e w2 ⟨rfl, hU2⟩
    go_wp2_with fail
    go_ret
    exact ⟨ret_bool (by rw [HR.out, hf1]; rfl), (hU1.and hU2).alloc _⟩
set_option maxRecDepth 100000 in
set_option maxHeartbeats 4000000 in
theorem known_any (t : Tm) (hwt : t.wt ≤ 100000) (ks : List Int) (hk : ks.length ≤ 1000000) (ka : Option Addr) (kc : Nat) (known : List Bool) (na : Option Addr) (nc : Nat) (hnl : known.length ≤ 281474976710656) (w : World) (cs : List Value) (hK : RepE none' w 1 (ks.map (Dat.int .i64)) ka 0) (hN : RepE none' w 1 (known.map Dat.bool) na 0) (h : Rep none' w t.dat cs) :
    Calls Tryd.prog 21 #[.agg cs.toArray, .slice ka ks.length kc, .slice na known.length nc] w fun e w' => e = .returned (.bool (knownV t ks known)) ∧ Upto none' w w' := by
  have HWF := fun w' h => wellFormed_any t (by omega) w' cs h
  have HVI := fun (hw : t.wf = 0) q Kb W hl hKq hN' => visit_any ks hk 62 [.pointer (some ⟨q, 0, none⟩), .pointer (some ⟨Kb, 0, none⟩)] q ka kc W _ (knownNote_any W q ks.length Kb known na nc hnl hk hl hKq hN') (fun args w => by simp only [go_sem, Tryd.call62]) t hwt (Tm.wf_any3 hw).1 cs
  obtain ⟨r, hr⟩ : ∃ r, r = knownV t ks known := ⟨_, rfl⟩
  have hr2 : r = (t.wf == 0 && (t.evs ks 0 false).all (fun e => kn known e.i)) := hr
  rw [← hr]
  have hmf : ∀ (fn : Fn) (first cap : Array Value) (w : World), (Instr.makeFunc fn first cap).run Tryd.prog w = .ok (.func fn first cap) w := fun _ _ _ _ => rfl
  obtain ⟨k, n, i, ts, a, cap, ht, rfl, hcap, hE⟩ := tm_open h
  obtain ⟨f, hf⟩ : ∃ f, f = t.wf := ⟨_, rfl⟩
  rw [← hf] at HWF HVI hr2
  generalize (t.evs ks 0 false) = evl at *
  have HR := hid hr2
  clear hr hf hr2 ht hcap hE
  generalize ts.length = len at *
  obtain ⟨w1, hw1⟩ : ∃ w1, w1 = (w.alloc (.cells #[.int .i64 k, .string (B n), .int .i64 i, .slice a len cap] 29)).alloc (.cells #[.slice na known.length nc] 32) := ⟨_, rfl⟩
  have hU1 : Upto none' w w1 := by rw [hw1]; exact ((Upto.refl none' w).alloc _).alloc _
  have hB1 : Box4 w1 w.heap.size (.int .i64 k) (.string (B n)) (.int .i64 i) (.slice a len cap) 29 := by rw [hw1]; exact (Box4.at_new rfl).kept ((Upto.refl none' _).alloc _)
  have hKb : Box1 w1 (w.heap.size + 1) (.slice na known.length nc) 32 := by rw [hw1]; exact Box1.at_new (by simp)
  have HW1 := hid hw1
  have hw1z : w.heap.size < w1.heap.size := hB1.lt
  clear hw1
  by_cases hf0 : f = 0
  · have hf1 : (f == 0) = true := by simp [hf0]
    have HVI2 := hid (HVI hf0)
    clear HVI hf0
    go_enter Tryd.func21, Tryd.ntmps21
    go_wp2_with fail
    rw [← HW1.out]
    refine (HWF w1 (h.on hU1)).mono ?_
    rintro e w2 ⟨rfl, hU2⟩
    have hB2 := hB1.kept hU2
    have hUw2 := hU1.and hU2
    obtain ⟨b0, b1, b2, b3⟩ := hB2.cells
    obtain ⟨w3, hw3⟩ : ∃ w3, w3 = w2.alloc (.cells #[.bool true] 4) := ⟨_, rfl⟩
    have hU3 : Upto none' w2 w3 := by rw [hw3]; exact (Upto.refl none' w2).alloc _
    obtain ⟨q, hq⟩ : ∃ q, q = w2.heap.size := ⟨_, rfl⟩
    have hO3 : Box1 w3 q (.bool true) 4 := by rw [hw3]; exact Box1.at_new hq.symm
    have hqw : w.heap.size ≤ q := by have := hUw2.size; omega
    have hqt : w1.heap.size ≤ q := by have := hU2.size; omega
    have hB3 := hB2.kept hU3
    have hUw3 := hUw2.and hU3
    have hK3 : RepE (fun x => x = q) w3 1 (ks.map (Dat.int .i64)) ka 0 := (RepE.weaken (fun b _ e => .inr (by omega)) _ _ _ _ (RepE.fresh' _ _ _ _ hK)).on hUw3
    have hR3 : Rep (fun x => x = q) w3 t.dat [.int .i64 k, .string (B n), .int .i64 i, .slice a len cap] := (Rep.weaken (fun b _ e => .inr (by omega)) _ _ (Rep.fresh' _ _ h)).on hUw3
    have HVV := HVI2.out q (w.heap.size + 1) w3 ((hKb.kept hU2).kept hU3).cell (by have := hKb.lt; omega) ((RepE.weaken (fun b _ e => .inr (by omega)) _ _ _ _ (RepE.fresh' _ _ _ _ hN)).on hUw3) hO3 hR3 hK3
    have bb := hB3.cells
    rw [hw3] at bb
    clear b0 b1 b2 b3
    obtain ⟨b0, b1, b2, b3⟩ := bb
    have HW3 := hid hw3
    have HQ := hid hq
    clear hw3 hq
    go_wp2_with fail
    rw [← HW3.out, ← HQ.out]
    refine HVV.mono ?_
    rintro e w4 ⟨rfl, hO4, hU4⟩
    have hv4 : w4.cell? ⟨q, 0, none⟩ = some (.bool (evl.all (fun e => kn known e.i))) := Box1.cell hO4
    go_wp2_with fail
    go_ret
    exact ⟨ret_bool (by rw [HR.out, hf1]; rfl), upto_new hUw3 hU4 hqw⟩
  · have hf1 : (f == 0) = false := by simpa using hf0
    clear HVI hf0
    go_enter Tryd.func21, Tryd.ntmps21
    go_wp2_with fail
    rw [← HW1.out]
    refine (HWF w1 (h.on hU1)).mono ?_
    rintro e w2 ⟨rfl, hU2⟩
    go_wp2_with fail
    go_ret
    exact ⟨ret_bool (by rw [HR.out, hf1]; rfl), (hU1.and hU2).alloc _⟩
end Go.Proofs.YtnhmogmpbgadiaaDoor
