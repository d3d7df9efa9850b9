/- SimpleEta: its walk. -/
import Derived.Test.YtnhmogmpbgadiaaDoorCG
import Derived.Test.YtnhmogmpbgadiaaDoorCH
import Derived.Test.YtnhmogmpbgadiaaDoorCards
import Derived.Test.YtnhmogmpbgadiaaDoorDA
import Derived.Test.YtnhmogmpbgadiaaDoorDF
import Derived.Test.YtnhmogmpbgadiaaDoorDG
import Derived.Test.YtnhmogmpbgadiaaDoorTie
import Derived.Deep.CutRange
namespace Go.Proofs.YtnhmogmpbgadiaaDoor
open Go.RowKit Go.LF
theorem etaT_size (h : Tm) (s : Sm) (hs : s.size ≤ 1000) : (h.etaT s).size ≤ h.size + 2000 := by
  unfold Tm.etaT
  split
  · unfold Tm.etaX
    have := Tm.size_xp s (h.mv (Tm.shF s.args.length 0) 0)
    rw [Tm.size_mv] at this
    omega
  · have := h.size_pos; simp [Tm.sizes]
set_option maxRecDepth 100000 in
set_option maxHeartbeats 16000000 in
theorem simpleEta_walk (l0 : List Int) (a0 : Option Addr) (len0 cap0 : Nat) (hl0 : l0.length = len0) (hlen0 : len0 ≤ 17592186044416) (n0 n1 : Int) (l1 : List Int) (a1 : Option Addr) (len1 cap1 : Nat) (hl1 : l1.length = len1) (hlen1 : len1 ≤ 17592186044416) (k0 k1 : Int) (w : World)
    (hE0 : RepE none' w 1 (l0.map (Dat.int .i64)) a0 0) (hE1 : RepE none' w 1 (l1.map (Dat.int .i64)) a1 0) (hN : NamesRead w) :
    Calls Tryd.prog 8 #[.slice a0 len0 cap0, .agg #[.int .i64 n0, .int .i64 n1], .slice a1 len1 cap1, .agg #[.int .i64 k0, .int .i64 k1]] w fun e w' => e = .returned (.bool true) ∧ Upto none' w w' := by
  obtain ⟨w1, hw1⟩ : ∃ w1, w1 = (w.alloc (.cells #[.int .i64 n0, .int .i64 n1] 40)).alloc (.cells #[.int .i64 k0, .int .i64 k1] 40) := ⟨_, rfl⟩
  have hU1 : Upto none' w w1 := by rw [hw1]; exact ((Upto.refl none' w).alloc _).alloc _
  have hN1 : Box2 w1 w.heap.size (.int .i64 n0) (.int .i64 n1) 40 := by rw [hw1]; exact (Box2.at_new rfl).kept ((Upto.refl none' _).alloc _)
  have hK1 : Box2 w1 (w.heap.size + 1) (.int .i64 k0) (.int .i64 k1) 40 := by rw [hw1]; exact Box2.at_new (by simp)
  have hS := spoilt_any l0 a0 len0 cap0 hl0 hlen0 n0 n1 w1 (hE0.on hU1)
  have hT2 := fun (W : World) (hU : Upto none' w W) => tape_new (cap := cap1) (U := 25) hl1 hlen1 (hE1.on hU)
  have hK2 := fun (W : World) (hU : Upto none' w W) => hN.ok (hU.alloc (.cells #[.slice a1 len1 cap1, .int .i64 0] 25)) hU.size
  have HW1 := hid hw1
  obtain ⟨H, hH⟩ : ∃ H, H = w.heap.size := ⟨_, rfl⟩
  have HH := hid hH
  rw [← hH] at hN1 hK1
  have TA : ∀ T W, TapeOk W T → NamesOk T W → Calls Tryd.prog 25 #[.pointer (some ⟨T, 0, none⟩), .int .i64 2, .int .i64 3, .int .i64 1] W (MakesA W.heap.size (2 ^ 3 + 2) 3 1 T W) := fun T W h h' => anyTerm_any 1 (by omega) 3 1 (by omega) (by omega) T W h h'
  clear hw1 hH hE0 hE1 hl0 hlen0 hl1 hlen1 hN
  obtain ⟨q0, q1⟩ := hN1.cells
  go_enter Tryd.func8, Tryd.ntmps8
  go_upto_region 1 with fail
  rw [← HW1.out, ← HH.out]
  go_wp2_with fail
  refine hS.mono ?_
  rintro e w2 ⟨f, sa, sl, sc, s, rfl, hR2, hsz, hswt, hU2⟩
  have hN2 := hN1.kept hU2
  have hK2b := hK1.kept hU2
  have hUw2 := hU1.and hU2
  have hz2 : H + 1 < w2.heap.size := hK2b.lt
  obtain ⟨w3, hw3⟩ : ∃ w3, w3 = w2.alloc (.cells #[.string (B f), .slice sa sl sc] 43) := ⟨_, rfl⟩
  have hUa : Upto none' w2 w3 := by rw [hw3]; exact (Upto.refl none' w2).alloc _
  have hs3 : Box2 w3 w2.heap.size (.string (B f)) (.slice sa sl sc) 43 := by rw [hw3]; exact Box2.at_new rfl
  have hK3 := hK2b.kept hUa
  have hUw3 := hUw2.and hUa
  have hR3 : Rep none' w3 s.dat [.string (B f), .slice sa sl sc] := (rep_pre hR2).on hUa
  obtain ⟨S, hSS⟩ : ∃ S, S = w2.heap.size := ⟨_, rfl⟩
  rw [← hSS] at hs3 hz2
  have HS := hid hSS
  have HW3 := hid hw3
  clear hw3 hSS hUa hR2 hU2 hUw2 hN2 hK2b hS hN1 hK1 q0 q1 hU1
  go_upto_region 2 with fail
  rw [← HS.out, ← HW3.out]
  go_wp2_with fail
  (with_reducible refine (TA _ _ (hT2 w3 hUw3) (hK2 w3 hUw3)).mono ?_)
  rintro e w4 ⟨k4, i4, nm4, a4, len4, cap4, t, rfl, hR4, hF4, _, _, hU4⟩
  have hU4' : Upto none' w3 w4 := ((Upto.refl none' w3).alloc _).trans hU4 (fun b hb e => by simp only [isT] at e; omega)
  have hwt : t.wt ≤ 50 := by have := hF4.wt; omega
  have hs4 := hs3.kept hU4'
  have hK4 := hK3.kept hU4'
  have hUw4 := hUw3.and hU4'
  have hRs4 := hR3.on hU4'
  obtain ⟨w5, hw5⟩ : ∃ w5, w5 = w4.alloc (.cells #[.int .i64 k4, .string (B nm4), .int .i64 i4, .slice a4 len4 cap4] 29) := ⟨_, rfl⟩
  have hUa : Upto none' w4 w5 := by rw [hw5]; exact (Upto.refl none' w4).alloc _
  have ht5 : Box4 w5 w4.heap.size (.int .i64 k4) (.string (B nm4)) (.int .i64 i4) (.slice a4 len4 cap4) 29 := by rw [hw5]; exact Box4.at_new rfl
  have hR5 : Rep (fun b => b = w4.heap.size) w5 t.dat [.int .i64 k4, .string (B nm4), .int .i64 i4, .slice a4 len4 cap4] := (Rep.weaken (fun b _ e => .inr (Nat.le_of_eq e.symm)) _ _ (Rep.fresh' _ _ hR4)).on hUa
  have hRs5 : Rep (fun b => b = w4.heap.size) w5 s.dat [.string (B f), .slice sa sl sc] := (Rep.weaken (fun b _ e => .inr (Nat.le_of_eq e.symm)) _ _ (Rep.fresh' _ _ hRs4)).on hUa
  have hs5 := hs4.kept hUa
  have hK5 := hK4.kept hUa
  have hUw5 := hUw4.and hUa
  have hSP : S < w4.heap.size := hs4.lt
  obtain ⟨P, hP⟩ : ∃ P, P = w4.heap.size := ⟨_, rfl⟩
  rw [← hP] at ht5 hR5 hRs5 hSP
  have HP := hid hP
  have HW5 := hid hw5
  clear hw5 hP hUa hR4 hU4 hU4' hF4 hUw4 hs4 hK4 hRs4 hs3 hK3 hUw3 hR3 hT2 hK2 TA
  go_upto_region 3 with fail
  rw [← HP.out, ← HW5.out]
  have hb0 := cutV_bd k0 5 (by omega)
  have K0 := fun W => cut_val k0 5 (by omega) (by omega) W
  generalize cutV k0 5 = c0 at *
  obtain ⟨q0, q1⟩ := hK5.cells
  go_cut [25] from 22 to 25 (fun v25 wx => v25 = .bool (c0 == 1) ∧ w5 = wx)
  case first =>
    go_wp2_with (first | ((go_at_call 26); (with_reducible refine (K0 _).mono ?_); rintro e w7 ⟨rfl, rfl⟩))
    go_meet
    case rel => exact ⟨rfl, rfl⟩
  case rest =>
    obtain ⟨rfl, rfl⟩ := hcut
    generalize (c0 == 1) = c at *
    go_upto_if 25 with fail
    go_cut [] from 26 to 32 (fun wc => ∃ (k i : Int) (nm : List UInt8) (a : Option Addr) (len cap : Nat) (t : Tm), Box4 wc P (.int .i64 k) (.string (B nm)) (.int .i64 i) (.slice a len cap) 29 ∧ Rep none' wc t.dat [.int .i64 k, .string (B nm), .int .i64 i, .slice a len cap] ∧ t.wt ≤ 1000 ∧
      Box2 wc S (.string (B f)) (.slice sa sl sc) 43 ∧ Rep none' wc s.dat [.string (B f), .slice sa sl sc] ∧ Upto none' w wc)
    case first =>
      cases c
      · go_wp2_with fail
        go_meet
        case rel => exact ⟨_, _, _, _, _, _, t, ht5, rep_pre hR5, by omega, hs5, rep_pre hRs5, hUw5⟩
      · obtain ⟨x0, x1, x2, x3⟩ := ht5.cells
        have SP := fun y z => spoil_any t (by omega) (fun b => b = P) y z w5 _ hR5
        go_wp2_with (first | ((go_at_call 27); (with_reducible refine (SP _ _).mono ?_); rintro e w8 ⟨k8, i8, n8, a8, len8, cap8, t8, rfl, hR8, hwt8, hU8⟩; have ht8 := ht5.kept hU8; have hlt8 := ht5.lt; obtain ⟨y4, y5, y6, y7⟩ := ht8.cells; obtain ⟨y0, y1, y2, y3⟩ := ht8.frozens))
        go_meet
        case rel =>
          have hset := ht8.set (d0 := .int .i64 k8) (d1 := .string (B n8)) (d2 := .int .i64 i8) (d3 := .slice a8 len8 cap8)
          exact ⟨_, _, _, _, _, _, t8, hset.1, rep_pre (Rep.keep hset.2 (fun b e => ⟨e, by omega⟩) _ _ hR8), by omega, (hs5.kept hU8).keep hset.2 (by omega), rep_pre (Rep.keep hset.2 (fun b e => e) _ _ (hRs5.on hU8)), (hUw5.and hU8).trans hset.2 (fun b hb e => by have := HH.out; omega)⟩
    case rest =>
      obtain ⟨k6, i6, nm6, a6, len6, cap6, u, hB6, hR6, hwu, hs6, hRs6, hU6⟩ := hcut
      obtain ⟨w6, rfl⟩ : ∃ q, q = wc := ⟨wc, rfl⟩
      have hXs := etaT_size u s (by omega)
      have huz := Tm.size_le_wt u
      have C1 := fun W cs ds h h' => progEta_any u (by omega) s (by omega) W cs ds h h'
      have C2 := fun W cs ds h h' => eta_any u (by omega) s (by omega) W cs ds h h'
      have C3 := fun W cs ds h h' => refSame_any (u.etaT s) (by omega) (u.etaT s) W cs ds h h'
      rw [Tm.same_refl] at C3
      generalize u.etaT s = X at *
      generalize u.etaE s = ee at *
      have hee : (ee == ee) = true := by simp
      clear ht5 hR5 hRs5 hs5 hK5 q0 q1 hUw5 K0 hb0 hXs
      obtain ⟨x0, x1, x2, x3⟩ := hB6.cells
      obtain ⟨s0, s1⟩ := hs6.cells
      go_wp2_with fail
      refine (C1 _ _ _ hR6 hRs6).mono ?_
      rintro e w7 ⟨k7, i7, n7, a7, len7, cap7, rfl, hR7, hU7⟩
      obtain ⟨w8, hw8⟩ : ∃ w8, w8 = w7.alloc (.cells #[.int .i64 k7, .string (B n7), .int .i64 i7, .slice a7 len7 cap7] 29) := ⟨_, rfl⟩
      have hUa : Upto none' w7 w8 := by rw [hw8]; exact (Upto.refl none' w7).alloc _
      have ha8 : Box4 w8 w7.heap.size (.int .i64 k7) (.string (B n7)) (.int .i64 i7) (.slice a7 len7 cap7) 29 := by rw [hw8]; exact Box4.at_new rfl
      have hRa8 := rep_pre (hR7.on hUa)
      have hU68 := hU7.and hUa
      have hB8 := hB6.kept hU68
      have hR8 := hR6.on hU68
      have hs8 := hs6.kept hU68
      have hRs8 := hRs6.on hU68
      have hU8 := hU6.and hU68
      obtain ⟨Q, hQ⟩ : ∃ Q, Q = w7.heap.size := ⟨_, rfl⟩
      rw [← hQ] at ha8
      have HQ := hid hQ
      have HW8 := hid hw8
      clear hw8 hQ hUa hR7 hU7 hU68 hB6 hR6 hs6 hRs6 hU6 x0 x1 x2 x3 s0 s1
      go_upto_region 6 with fail
      rw [← HQ.out, ← HW8.out]
      obtain ⟨x0, x1, x2, x3⟩ := hB8.cells
      obtain ⟨s0, s1⟩ := hs8.cells
      go_wp2_with fail
      refine (C2 _ _ _ hR8 hRs8).mono ?_
      rintro e w9 ⟨k9, i9, n9, a9, len9, cap9, rfl, hR9, hU9⟩
      obtain ⟨w10, hw10⟩ : ∃ w10, w10 = w9.alloc (.cells #[.int .i64 k9, .string (B n9), .int .i64 i9, .slice a9 len9 cap9] 29) := ⟨_, rfl⟩
      have hUa : Upto none' w9 w10 := by rw [hw10]; exact (Upto.refl none' w9).alloc _
      have hb10 : Box4 w10 w9.heap.size (.int .i64 k9) (.string (B n9)) (.int .i64 i9) (.slice a9 len9 cap9) 29 := by rw [hw10]; exact Box4.at_new rfl
      have hRb10 := rep_pre (hR9.on hUa)
      have hU810 := hU9.and hUa
      have ha10 := ha8.kept hU810
      have hRa10 := hRa8.on hU810
      have hU10 := hU8.and hU810
      obtain ⟨Q2, hQ2⟩ : ∃ Q2, Q2 = w9.heap.size := ⟨_, rfl⟩
      rw [← hQ2] at hb10
      have HQ2 := hid hQ2
      have HW10 := hid hw10
      clear hw10 hQ2 hUa hR9 hU9 hU810 hB8 hR8 hs8 hRs8 hU8 x0 x1 x2 x3 s0 s1 ha8 hRa8
      go_upto_region 7 with fail
      rw [← HQ2.out, ← HW10.out]
      obtain ⟨x0, x1, x2, x3⟩ := ha10.cells
      obtain ⟨y0, y1, y2, y3⟩ := hb10.cells
      go_wp2_with fail
      refine (C3 _ _ _ hRa10 hRb10).mono ?_
      rintro e w11 ⟨rfl, hU11⟩
      go_wp2_with fail
      refine (awake07 _).mono ?_
      rintro e w12 ⟨rfl, hU12⟩
      go_wp2_with fail
      go_ret
      exact ⟨rfl, (hU10.and hU11).and hU12⟩
end Go.Proofs.YtnhmogmpbgadiaaDoor
namespace Go.Proofs.YtnhmogmpbgadiaaDoor
open Go.ChangeShapes Go.WideShapes Go.ChangeAt Go.RowKit Go.LF
set_option maxRecDepth 100000 in
theorem simpleEta_lifted (os : Os) (started : os.Started) (H : Type) (enc : TypeId × Value → H) :
    ReturnsInHanded {} Tryd.checked os 8 .any (fun w args => (Rows.simpleEtaSpec.pre enc Tryd.prog Tryd.f8 [] false w args ∧ laidMetH Tryd.prog [("lfcheck/lfcheckmade.names", Rows.laid_lfcheck_lfcheckmade_names)] w) ∧ sizedMet enc Tryd.prog Tryd.f8 (OpenSpec.ofChange Rows.simpleEtaSpec) false w args)
      (Rows.simpleEtaSpec.post enc Tryd.prog Tryd.f8 false true false false) := by
  refine returnsInHanded_of_change_and (C := Tryd.checked) (X := fun w _ => laidMetH Tryd.prog [("lfcheck/lfcheckmade.names", Rows.laid_lfcheck_lfcheckmade_names)] w) (fun _ _ _ hh h => h.of_heap hh) own started (by kernel_rfl) Tryd.func8
    (ChangeSpec.witness_shaped (enc := enc) (C := Tryd.checked) (os := os) (X := fun w _ => laidMetH Tryd.prog [("lfcheck/lfcheckmade.names", Rows.laid_lfcheck_lfcheckmade_names)] w) false (World.doorLaid Tryd.prog 400 os) #[.slice none 0 0, .agg #[.int .i64 0, .int .i64 0], .slice none 0 0, .agg #[.int .i64 0, .int .i64 0]] 8 rfl (World.shaped_of_RefB (by kernel_rfl) (by kernel_rfl)) (by kernel_rfl) (by kernel_rfl) (by kernel_rfl) (door_met os _)) ?_
  intro W base args ds gs before hval0 hW _ hsz0 hL _
  have hsz : (DataW.weightsEach Tryd.prog (Tryd.f8.params.toList ++ Rows.simpleEtaSpec.plain.varTypes Tryd.prog) (ds ++ gs)).all (· ≤ reachBytes) = true := hsz0
  clear hsz0
  have hval : ∀ (j : Nat) t v, Tryd.f8.params[j]? = some t → args[j]? = some v → Value.okWide Tryd.prog W .any base t v := hval0
  have hW' := hW
  obtain ⟨p, q, hA0, hV, rfl, hfz, hnd⟩ := hW
  have hA : DataW.TrodAll enc Tryd.prog W 0 (fun _ => true) true Tryd.f8.params.toList args.toList ds p := hA0
  rw [Tryd.params8] at hA hval hsz
  obtain ⟨v0, vs0, d0, ds0, p0, q0, hargs, rfl, rfl, h0, r0⟩ := trodAll_cons hA
  obtain ⟨v1, vs1, d1, ds1, p1, q1, rfl, rfl, rfl, h1, r1⟩ := trodAll_cons r0
  obtain ⟨v2, vs2, d2, ds2, p2, q2, rfl, rfl, rfl, h2, r2⟩ := trodAll_cons r1
  obtain ⟨v3, vs3, d3, ds3, p3, q3, rfl, rfl, rfl, h3, r3⟩ := trodAll_cons r2
  obtain ⟨rfl, rfl, rfl⟩ := trodAll_nil r3
  obtain rfl : args = #[v0, v1, v2, v3] := Array.ext' hargs
  obtain ⟨rfl, rfl⟩ := trodVars_none hV
  clear hA0 hval0
  simp only [List.append_nil] at hW'
  have hlt : ∀ x, x ∈ p0 ∨ x ∈ p1 ∨ x ∈ p2 ∨ x ∈ p3 → x.block < W.heap.size := fun x hx => hW'.lt x (by simpa [List.mem_append, or_assoc] using hx)
  have hNR := names_of_laid hL
  have h0k := h0
  obtain ⟨a0, len0, cap0, rfl⟩ := okWide_slice Tryd.underlying22 (hval 0 22 v0 rfl rfl)
  obtain ⟨l0, hl0, _, hlen0, hE0⟩ := ints_arg h0 hsz (j := 0) rfl rfl
  have h1k := h1
  obtain ⟨x1_0, x1_1, rfl⟩ := arr2_arg (hval 1 40 v1 rfl rfl) h1
  have h2k := h2
  obtain ⟨a2, len2, cap2, rfl⟩ := okWide_slice Tryd.underlying22 (hval 2 22 v2 rfl rfl)
  obtain ⟨l2, hl2, _, hlen2, hE2⟩ := ints_arg h2 hsz (j := 2) rfl rfl
  have h3k := h3
  obtain ⟨x3_0, x3_1, rfl⟩ := arr2_arg (hval 3 40 v3 rfl rfl) h3
  refine (simpleEta_walk l0 a0 len0 cap0 hl0 hlen0 x1_0 x1_1 l2 a2 len2 cap2 hl2 hlen2 x3_0 x3_1 W hE0 hE2 hNR).mono fun e W' ⟨he, hU⟩ => ?_
  subst he
  have hb := Upto.toBelow hU
  exact ⟨_, rfl, _, _, _, [], _, [], hW', (trodAll_cons_mk (shut_bool Tryd.underlying4 _) trodAll_mk0), (trodAll_cons_mk (Below.trod laidOut (by kernel_rfl) (of_decide_eq_true (by kernel_rfl)) h0k hb (fun x hx => hlt x (by simp [hx]))) (trodAll_cons_mk (Below.trod laidOut (by kernel_rfl) (of_decide_eq_true (by kernel_rfl)) h1k hb (fun x hx => hlt x (by simp [hx]))) (trodAll_cons_mk (Below.trod laidOut (by kernel_rfl) (of_decide_eq_true (by kernel_rfl)) h2k hb (fun x hx => hlt x (by simp [hx]))) (trodAll_cons_mk (Below.trod laidOut (by kernel_rfl) (of_decide_eq_true (by kernel_rfl)) h3k hb (fun x hx => hlt x (by simp [hx]))) trodAll_mk0)))), rfl, hb.frame _, fun h => by cases h⟩
theorem simpleEta_holds : Rows.SimpleEtaSaid :=
  OpenClaim.holds_of_wide 8 Tryd.f8 rfl rfl rfl rfl rfl rfl rfl ⟨rfl, rfl, rfl, rfl, rfl⟩ rfl rfl rfl rfl rfl (by kernel_rfl) Tryd.func8 (by kernel_rfl)
    (of_decide_eq_true (by kernel_rfl)) (by unfold Func.isWrapper; first | (rw [if_pos (by decide +kernel)]; kernel_rfl) | (rw [if_neg (by decide +kernel)]; exact ⟨rfl, rfl⟩))
    (fun os started H enc _ => simpleEta_lifted os started H enc)
theorem simpleEta_card_holds : Rows.SimpleEtaCardSaid :=
  Claim7.holds_tied_plain_at .later [] [.data] true Rows.simpleEtaCard.stood.harness Rows.simpleEtaCard.stood.looks
    simpleEta_holds (fun _ h => by cases h) (by kernel_rfl) (fun _ h => by cases h) simpleEta_row_tie rfl ⟨rfl, rfl⟩ (by kernel_rfl) rfl
    (fun f fn hf hfn => by
      obtain rfl : f = 8 := Option.some.inj ((show Tryd.prog.funcNamed Rows.simpleEtaRow.func = some 8 by kernel_rfl).symm.trans hf) |>.symm
      obtain rfl : fn = Tryd.f8 := (Option.some.inj (Tryd.func8.symm.trans hfn)).symm
      exact ⟨by kernel_rfl, fun j t ht => by
        rw [Tryd.params8] at ht
        have hm : t ∈ [22, 40, 22, 40] := by simpa using Array.mem_of_getElem? ht
        have hall : ([22, 40, 22, 40].all fun u => !Tryd.prog.wantsStandIn u) = true := by kernel_rfl
        exact (show Tryd.prog.wantsStandIn t = false by simpa using List.all_eq_true.1 hall t hm)⟩)
    (by kernel_rfl)
end Go.Proofs.YtnhmogmpbgadiaaDoor
