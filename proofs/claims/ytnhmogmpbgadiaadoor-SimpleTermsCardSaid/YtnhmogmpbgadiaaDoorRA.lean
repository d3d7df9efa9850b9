/- SimpleTerms: its walk. -/
import Derived.Test.YtnhmogmpbgadiaaDoorCH
import Derived.Test.YtnhmogmpbgadiaaDoorCM
import Derived.Test.YtnhmogmpbgadiaaDoorCards
import Derived.Test.YtnhmogmpbgadiaaDoorDA
import Derived.Test.YtnhmogmpbgadiaaDoorDF
import Derived.Test.YtnhmogmpbgadiaaDoorTie
import Derived.Deep.CutRange
namespace Go.Proofs.YtnhmogmpbgadiaaDoor
open Go.RowKit Go.LF
set_option maxRecDepth 100000 in
set_option maxHeartbeats 16000000 in
theorem simpleTerms_walk (l0 : List Int) (a0 : Option Addr) (len0 cap0 : Nat) (hl0 : l0.length = len0) (hlen0 : len0 ≤ 17592186044416) (l1 : List Int) (a1 : Option Addr) (len1 cap1 : Nat) (hl1 : l1.length = len1) (hlen1 : len1 ≤ 17592186044416) (n0 n1 : Int) (w : World)
    (hE0 : RepE none' w 1 (l0.map (Dat.int .i64)) a0 0) (hE1 : RepE none' w 1 (l1.map (Dat.int .i64)) a1 0) (hN : NamesRead w) :
    Calls Tryd.prog 9 #[.slice a0 len0 cap0, .slice a1 len1 cap1, .agg #[.int .i64 n0, .int .i64 n1]] w fun e w' => e = .returned (.bool true) ∧ Upto none' w w' := by
  obtain ⟨w1, hw1⟩ : ∃ w1, w1 = w.alloc (.cells #[.int .i64 n0, .int .i64 n1] 40) := ⟨_, rfl⟩
  have hU1 : Upto none' w w1 := by rw [hw1]; exact (Upto.refl none' w).alloc _
  have hN1 : Box2 w1 w.heap.size (.int .i64 n0) (.int .i64 n1) 40 := by rw [hw1]; exact Box2.at_new rfl
  have hz1 : w1.heap.size = w.heap.size + 1 := by rw [hw1]; simp
  have hT := tape_new (cap := cap0) (U := 25) hl0 hlen0 (hE0.on hU1)
  have hK : NamesOk w1.heap.size (w1.alloc (.cells #[.slice a0 len0 cap0, .int .i64 0] 25)) := hN.ok (hU1.alloc _) hU1.size
  have hT2 := fun (W : World) (hU : Upto none' w W) => tape_new (cap := cap1) (U := 25) hl1 hlen1 (hE1.on hU)
  have HW1 := hid hw1
  obtain ⟨H, hH⟩ : ∃ H, H = w.heap.size := ⟨_, rfl⟩
  have HH := hid hH
  rw [← hH] at hN1 hz1
  rw [hz1] at hT hK
  have TM : ∀ W, TapeOk W (H + 1) → NamesOk (H + 1) W → Calls Tryd.prog 44 #[.pointer (some ⟨H + 1, 0, none⟩), .int .i64 4, .int .i64 3, .int .i64 1] W (Makes W.heap.size 4 3 1 (H + 1) W) := fun W h h' => term_any 4 (by omega) 3 1 (by omega) (by omega) _ W h h'
  have SM : ∀ T W, TapeOk W T → Calls Tryd.prog 45 #[.pointer (some ⟨T, 0, none⟩), .int .i64 3] W (MakesS W.heap.size 3 T W) := fun T W h => simple_any 3 (by omega) T W h
  clear hw1 hH hE0 hE1 hl0 hlen0 hl1 hlen1 hN
  go_enter Tryd.func9, Tryd.ntmps9
  go_wp2_with fail
  rw [← HW1.out, ← HH.out]
  refine (TM _ hT hK).mono ?_
  rintro e w2 ⟨k2, i2, nm2, a2, len2, cap2, t, rfl, hR2, hF2, _, _, hU2⟩
  have hU2' : Upto none' w1 w2 := ((Upto.refl none' w1).alloc _).trans hU2 (fun b hb e => by simp only [isT] at e; omega)
  have hwt : t.wt ≤ 500 := by have := (hF2.any (by omega)).wt; omega
  have hN2 := hN1.kept hU2'
  have hUw2 := hU1.and hU2'
  have hz2 : H + 1 < w2.heap.size := by have := hU2.size; rw [World.size_alloc] at this; omega
  obtain ⟨w3, hw3⟩ : ∃ w3, w3 = w2.alloc (.cells #[.int .i64 k2, .string (B nm2), .int .i64 i2, .slice a2 len2 cap2] 29) := ⟨_, rfl⟩
  have hUa : Upto none' w2 w3 := by rw [hw3]; exact (Upto.refl none' w2).alloc _
  have ht3 : Box4 w3 w2.heap.size (.int .i64 k2) (.string (B nm2)) (.int .i64 i2) (.slice a2 len2 cap2) 29 := by rw [hw3]; exact Box4.at_new rfl
  have hR3 : Rep (fun b => b = w2.heap.size) w3 t.dat [.int .i64 k2, .string (B nm2), .int .i64 i2, .slice a2 len2 cap2] := (Rep.weaken (fun b _ e => .inr (Nat.le_of_eq e.symm)) _ _ (Rep.fresh' _ _ hR2)).on hUa
  have hN3 := hN2.kept hUa
  have hUw3 := hUw2.and hUa
  obtain ⟨P, hP⟩ : ∃ P, P = w2.heap.size := ⟨_, rfl⟩
  rw [← hP] at ht3 hR3 hz2
  have HP := hid hP
  have HW3 := hid hw3
  clear hw3 hP hUa hR2 hU2 hU2' hF2 hN2 hUw2 hT hK TM hN1 hU1 hz1
  go_upto_region 2 with fail
  rw [← HP.out, ← HW3.out]
  have hb0 := cutV_bd n0 2 (by omega)
  have K0 := fun W => cut_val n0 2 (by omega) (by omega) W
  generalize cutV n0 2 = c0 at *
  obtain ⟨q0, q1⟩ := hN3.cells
  go_cut [21] from 18 to 21 (fun v21 wx => v21 = .bool (c0 == 0) ∧ w3 = wx)
  case first =>
    go_wp2_with (first | ((go_at_call 26); (with_reducible refine (K0 _).mono ?_); rintro e w7 ⟨rfl, rfl⟩))
    go_meet
    case rel => exact ⟨rfl, rfl⟩
  case rest =>
    obtain ⟨rfl, rfl⟩ := hcut
    generalize (c0 == 0) = c at *
    go_upto_if 21 with fail
    go_cut [] from 8 to 47 (fun wc => ∃ (k i : Int) (nm : List UInt8) (a : Option Addr) (len cap : Nat) (t : Tm), Box4 wc P (.int .i64 k) (.string (B nm)) (.int .i64 i) (.slice a len cap) 29 ∧ Rep (fun b => b = P) wc t.dat [.int .i64 k, .string (B nm), .int .i64 i, .slice a len cap] ∧ t.wt ≤ 1000 ∧ Upto none' w wc)
    case first =>
      cases c
      · go_wp2_with fail
        go_meet
        case rel => exact ⟨_, _, _, _, _, _, t, ht3, hR3, by omega, hUw3⟩
      · have hb1 := cutV_bd n1 3 (by omega)
        have K1 := fun W => cut_val n1 3 (by omega) (by omega) W
        have hb4 := cutV_bd n0 4 (by omega)
        have K4 := fun W => cut_val n0 4 (by omega) (by omega) W
        generalize cutV n1 3 = v at *
        generalize cutV n0 4 = c4 at *
        go_wp2_with (first | ((go_at_call 26); (with_reducible refine (K1 _).mono ?_); rintro e w7 ⟨rfl, rfl⟩))
        (with_reducible refine (SM _ _ (hT2 w3 hUw3)).mono ?_)
        rintro e w4 ⟨f, sa, sl, sc, s, rfl, hS, hFS, _, hU4⟩
        have hU4' : Upto none' w3 w4 := ((Upto.refl none' w3).alloc _).trans hU4 (fun b hb e => by simp only [isT] at e; omega)
        have hsz : s.size ≤ 60 := by have := hFS.size; omega
        have hswt : s.wt ≤ 200 := by have := hFS.wt; omega
        obtain ⟨E0, _, _, _, EW, _⟩ := Tm.eta_mid v (by omega) (by omega) s (hFS.wf0 (by omega)) hsz
        have EE := eta_any (.mk 5 [] v []) (by simp [Tm.wts]) s (by omega) w4 _ _ (rep_leaf 5 [] v) (rep_pre hS)
        rw [E0] at EE
        generalize (Tm.mk 5 [] v []).etaT s = X at *
        have ht4 := ht3.kept hU4'
        have hR4 := hR3.on hU4'
        have hN4 := hN3.kept hU4'
        have hUw4 := hUw3.and hU4'
        clear ht3 hR3 hN3 hUw3 hT2 SM q0 q1 hS hFS hU4 hU4' E0
        go_wp2_with fail
        try rw [← show B [] = { data := #[] } from rfl]
        refine EE.mono ?_
        rintro e w5 ⟨k5, i5, n5, a5, len5, cap5, rfl, hR5, hU5⟩
        have ht5 := ht4.kept hU5
        have hN5 := hN4.kept hU5
        have hUw5 := hUw4.and hU5
        have hR5' : Rep (fun b => b = P) w5 X.dat [.int .i64 k5, .string (B n5), .int .i64 i5, .slice a5 len5 cap5] := Rep.weaken (fun b _ e => by have := ht4.lt; omega) _ _ hR5
        obtain ⟨w6, hw6⟩ : ∃ w6, w6 = w5.alloc (.cells #[.int .i64 k5, .string (B n5), .int .i64 i5, .slice a5 len5 cap5] 29) := ⟨_, rfl⟩
        have hUa : Upto none' w5 w6 := by rw [hw6]; exact (Upto.refl none' w5).alloc _
        have hx6 : Box4 w6 w5.heap.size (.int .i64 k5) (.string (B n5)) (.int .i64 i5) (.slice a5 len5 cap5) 29 := by rw [hw6]; exact Box4.at_new rfl
        have ht6 := ht5.kept hUa
        have hN6 := hN5.kept hUa
        have hUw6 := hUw5.and hUa
        have hR6 := hR5'.on hUa
        obtain ⟨Y, hY⟩ : ∃ Y, Y = w5.heap.size := ⟨_, rfl⟩
        rw [← hY] at hx6
        have HY := hid hY
        have HW6 := hid hw6
        clear hw6 hY hUa hR5 hR5' ht5 hN5 hUw5 EE ht4 hR4 hN4 hUw4 hU5
        go_upto_region 4 with fail
        rw [← HY.out, ← HW6.out]
        obtain ⟨x0, x1, x2, x3⟩ := hx6.cells
        obtain ⟨y0, y1, y2, y3⟩ := ht6.frozens
        obtain ⟨y4, y5, y6, y7⟩ := ht6.cells
        have hset := ht6.set (d0 := .int .i64 k5) (d1 := .string (B n5)) (d2 := .int .i64 i5) (d3 := .slice a5 len5 cap5)
        have HS := hid hset
        clear hset
        go_upto_region 6 with fail
        obtain ⟨w7, hw7⟩ : ∃ w7, w7 = ((((w6.setCell ⟨P, 0, none⟩ (.int .i64 k5)).setCell ⟨P, 1, none⟩ (.string (B n5))).setCell ⟨P, 2, none⟩ (.int .i64 i5)).setCell ⟨P, 3, none⟩ (.slice a5 len5 cap5)) := ⟨_, rfl⟩
        rw [← hw7]
        obtain ⟨ht7, hU67⟩ := HS.out
        rw [← hw7] at ht7 hU67
        clear HS hw7 x0 x1 x2 x3 y0 y1 y2 y3 y4 y5 y6 y7 hx6
        have hN7 := hN6.keep hU67 (by omega)
        have hR7 := Rep.keep hU67 (fun b e => e) _ _ hR6
        have hUw7 : Upto none' w w7 := hUw6.trans hU67 (fun b hb e => by have := HH.out; omega)
        clear hN6 hR6 hUw6 hU67 ht6
        obtain ⟨q0, q1⟩ := hN7.cells
        by_cases hc4 : c4 = 0
        · subst hc4
          obtain ⟨x0, x1, x2, x3⟩ := ht7.cells
          have SP := fun y z => spoil_any X (by omega) (fun b => b = P) y z w7 _ hR7
          go_wp2_with (first | ((go_at_call 26); (with_reducible refine (K4 _).mono ?_); rintro e w7 ⟨rfl, rfl⟩) | ((go_at_call 27); (with_reducible refine (SP _ _).mono ?_); rintro e w8 ⟨k8, i8, n8, a8, len8, cap8, t8, rfl, hR8, hwt8, hU8⟩; have ht8 := ht7.kept hU8; have hlt8 := ht7.lt; obtain ⟨y4, y5, y6, y7⟩ := ht8.cells; obtain ⟨y0, y1, y2, y3⟩ := ht8.frozens))
          go_meet
          case rel =>
            have hset := ht8.set (d0 := .int .i64 k8) (d1 := .string (B n8)) (d2 := .int .i64 i8) (d3 := .slice a8 len8 cap8)
            exact ⟨_, _, _, _, _, _, t8, hset.1, Rep.weaken (fun b _ e => ⟨e, by omega⟩) _ _ (Rep.keep hset.2 (fun b e => ⟨e, by omega⟩) _ _ hR8), by omega, (hUw7.and hU8).trans hset.2 (fun b hb e => by have := HH.out; omega)⟩
        · have hc4' : (c4 == 0) = false := by simpa using hc4
          clear hc4
          go_wp2_with (first | ((go_at_call 26); (with_reducible refine (K4 _).mono ?_); rintro e w7 ⟨rfl, rfl⟩))
          go_meet
          case rel => exact ⟨_, _, _, _, _, _, X, ht7, hR7, by omega, hUw7⟩
    case rest =>
      obtain ⟨k5, i5, nm5, a5, len5, cap5, u, hB5, hR5, hw5, hU5⟩ := hcut
      obtain ⟨w5, rfl⟩ : ∃ q, q = wc := ⟨wc, rfl⟩
      have C1 := fun W cs h => variable_any u (by omega) W cs h
      have C2 := fun W cs h => refVariable_any u (by omega) W cs h
      obtain ⟨vv, hvv⟩ : ∃ vv, vv = u.vrw := ⟨_, rfl⟩
      rw [← hvv] at C1 C2
      clear hvv ht3 hR3 hN3 q0 q1 hUw3 K0 hb0
      have hg : (vv.getD 0 == vv.getD 0) = true := by simp
      have hs : (vv.isSome == vv.isSome) = true := by simp
      unfold optV at C1 C2
      obtain ⟨x0, x1, x2, x3⟩ := hB5.cells
      go_wp2_with fail
      refine (C1 _ _ (rep_pre hR5)).mono ?_
      rintro e w6 ⟨rfl, hU6⟩
      have hB6 := hB5.kept hU6
      have hR6 := hR5.on hU6
      clear x0 x1 x2 x3
      obtain ⟨x0, x1, x2, x3⟩ := hB6.cells
      go_wp2_with fail
      refine (C2 _ _ (rep_pre hR6)).mono ?_
      rintro e w7 ⟨rfl, hU7⟩
      go_wp2_with fail
      refine (awake07 _).mono ?_
      rintro e w8 ⟨rfl, hU8⟩
      go_wp2_with fail
      go_ret
      exact ⟨rfl, ((hU5.and hU6).and hU7).and hU8⟩
end Go.Proofs.YtnhmogmpbgadiaaDoor
namespace Go.Proofs.YtnhmogmpbgadiaaDoor
open Go.ChangeShapes Go.WideShapes Go.ChangeAt Go.RowKit Go.LF
set_option maxRecDepth 100000 in
theorem simpleTerms_lifted (os : Os) (started : os.Started) (H : Type) (enc : TypeId × Value → H) :
    ReturnsInHanded {} Tryd.checked os 9 .any (fun w args => (Rows.simpleTermsSpec.pre enc Tryd.prog Tryd.f9 [] false w args ∧ laidMetH Tryd.prog [("lfcheck/lfcheckmade.names", Rows.laid_lfcheck_lfcheckmade_names)] w) ∧ sizedMet enc Tryd.prog Tryd.f9 (OpenSpec.ofChange Rows.simpleTermsSpec) false w args)
      (Rows.simpleTermsSpec.post enc Tryd.prog Tryd.f9 false true false false) := by
  refine returnsInHanded_of_change_and (C := Tryd.checked) (X := fun w _ => laidMetH Tryd.prog [("lfcheck/lfcheckmade.names", Rows.laid_lfcheck_lfcheckmade_names)] w) (fun _ _ _ hh h => h.of_heap hh) own started (by kernel_rfl) Tryd.func9
    (ChangeSpec.witness_shaped (enc := enc) (C := Tryd.checked) (os := os) (X := fun w _ => laidMetH Tryd.prog [("lfcheck/lfcheckmade.names", Rows.laid_lfcheck_lfcheckmade_names)] w) false (World.doorLaid Tryd.prog 400 os) #[.slice none 0 0, .slice none 0 0, .agg #[.int .i64 0, .int .i64 0]] 8 rfl (World.shaped_of_RefB (by kernel_rfl) (by kernel_rfl)) (by kernel_rfl) (by kernel_rfl) (by kernel_rfl) (door_met os _)) ?_
  intro W base args ds gs before hval0 hW _ hsz0 hL _
  have hsz : (DataW.weightsEach Tryd.prog (Tryd.f9.params.toList ++ Rows.simpleTermsSpec.plain.varTypes Tryd.prog) (ds ++ gs)).all (· ≤ reachBytes) = true := hsz0
  clear hsz0
  have hval : ∀ (j : Nat) t v, Tryd.f9.params[j]? = some t → args[j]? = some v → Value.okWide Tryd.prog W .any base t v := hval0
  have hW' := hW
  obtain ⟨p, q, hA0, hV, rfl, hfz, hnd⟩ := hW
  have hA : DataW.TrodAll enc Tryd.prog W 0 (fun _ => true) true Tryd.f9.params.toList args.toList ds p := hA0
  rw [Tryd.params9] at hA hval hsz
  obtain ⟨v0, vs0, d0, ds0, p0, q0, hargs, rfl, rfl, h0, r0⟩ := trodAll_cons hA
  obtain ⟨v1, vs1, d1, ds1, p1, q1, rfl, rfl, rfl, h1, r1⟩ := trodAll_cons r0
  obtain ⟨v2, vs2, d2, ds2, p2, q2, rfl, rfl, rfl, h2, r2⟩ := trodAll_cons r1
  obtain ⟨rfl, rfl, rfl⟩ := trodAll_nil r2
  obtain rfl : args = #[v0, v1, v2] := Array.ext' hargs
  obtain ⟨rfl, rfl⟩ := trodVars_none hV
  clear hA0 hval0
  simp only [List.append_nil] at hW'
  have hlt : ∀ x, x ∈ p0 ∨ x ∈ p1 ∨ x ∈ p2 → x.block < W.heap.size := fun x hx => hW'.lt x (by simpa [List.mem_append, or_assoc] using hx)
  have hNR := names_of_laid hL
  have h0k := h0
  obtain ⟨a0, len0, cap0, rfl⟩ := okWide_slice Tryd.underlying22 (hval 0 22 v0 rfl rfl)
  obtain ⟨l0, hl0, _, hlen0, hE0⟩ := ints_arg h0 hsz (j := 0) rfl rfl
  have h1k := h1
  obtain ⟨a1, len1, cap1, rfl⟩ := okWide_slice Tryd.underlying22 (hval 1 22 v1 rfl rfl)
  obtain ⟨l1, hl1, _, hlen1, hE1⟩ := ints_arg h1 hsz (j := 1) rfl rfl
  have h2k := h2
  obtain ⟨x2_0, x2_1, rfl⟩ := arr2_arg (hval 2 40 v2 rfl rfl) h2
  refine (simpleTerms_walk l0 a0 len0 cap0 hl0 hlen0 l1 a1 len1 cap1 hl1 hlen1 x2_0 x2_1 W hE0 hE1 hNR).mono fun e W' ⟨he, hU⟩ => ?_
  subst he
  have hb := Upto.toBelow hU
  exact ⟨_, rfl, _, _, _, [], _, [], hW', (trodAll_cons_mk (shut_bool Tryd.underlying4 _) trodAll_mk0), (trodAll_cons_mk (Below.trod laidOut (by kernel_rfl) (of_decide_eq_true (by kernel_rfl)) h0k hb (fun x hx => hlt x (by simp [hx]))) (trodAll_cons_mk (Below.trod laidOut (by kernel_rfl) (of_decide_eq_true (by kernel_rfl)) h1k hb (fun x hx => hlt x (by simp [hx]))) (trodAll_cons_mk (Below.trod laidOut (by kernel_rfl) (of_decide_eq_true (by kernel_rfl)) h2k hb (fun x hx => hlt x (by simp [hx]))) trodAll_mk0))), rfl, hb.frame _, fun h => by cases h⟩
theorem simpleTerms_holds : Rows.SimpleTermsSaid :=
  OpenClaim.holds_of_wide 9 Tryd.f9 rfl rfl rfl rfl rfl rfl rfl ⟨rfl, rfl, rfl, rfl, rfl⟩ rfl rfl rfl rfl rfl (by kernel_rfl) Tryd.func9 (by kernel_rfl)
    (of_decide_eq_true (by kernel_rfl)) (by unfold Func.isWrapper; first | (rw [if_pos (by decide +kernel)]; kernel_rfl) | (rw [if_neg (by decide +kernel)]; exact ⟨rfl, rfl⟩))
    (fun os started H enc _ => simpleTerms_lifted os started H enc)
theorem simpleTerms_card_holds : Rows.SimpleTermsCardSaid :=
  Claim7.holds_tied_plain_at .later [] [.data] true Rows.simpleTermsCard.stood.harness Rows.simpleTermsCard.stood.looks
    simpleTerms_holds (fun _ h => by cases h) (by kernel_rfl) (fun _ h => by cases h) simpleTerms_row_tie rfl ⟨rfl, rfl⟩ (by kernel_rfl) rfl
    (fun f fn hf hfn => by
      obtain rfl : f = 9 := Option.some.inj ((show Tryd.prog.funcNamed Rows.simpleTermsRow.func = some 9 by kernel_rfl).symm.trans hf) |>.symm
      obtain rfl : fn = Tryd.f9 := (Option.some.inj (Tryd.func9.symm.trans hfn)).symm
      exact ⟨by kernel_rfl, fun j t ht => by
        rw [Tryd.params9] at ht
        have hm : t ∈ [22, 22, 40] := by simpa using Array.mem_of_getElem? ht
        have hall : ([22, 22, 40].all fun u => !Tryd.prog.wantsStandIn u) = true := by kernel_rfl
        exact (show Tryd.prog.wantsStandIn t = false by simpa using List.all_eq_true.1 hall t hm)⟩)
    (by kernel_rfl)
end Go.Proofs.YtnhmogmpbgadiaaDoor
