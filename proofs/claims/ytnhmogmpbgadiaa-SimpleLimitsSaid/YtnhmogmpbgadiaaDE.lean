/- The program's Eta: the reference's. -/
import Derived.Test.YtnhmogmpbgadiaaCK
import Derived.Test.YtnhmogmpbgadiaaDA
import Derived.Test.YtnhmogmpbgadiaaDB
import Derived.Test.YtnhmogmpbgadiaaDD
namespace Go.Proofs.Ytnhmogmpbgadiaa
open Go.RowKit Go.LF
set_option maxRecDepth 100000 in
set_option maxHeartbeats 16000000 in
theorem progEta_any (h : Tm) (hh : h.wt ≤ 1000000) (s : Sm) (hs : s.wt ≤ 1000000) (w : World) (cs ds : List Value) (hR : Rep none' w h.dat cs) (hD : Rep none' w s.dat ds) :
    Calls Try.prog 17 #[.agg cs.toArray, .agg ds.toArray] w (Gives (h.etaT s) (.int .i64 (h.etaE s)) w) := by
  have hhs := Tm.size_le_wt h
  have hss := Sm.size_le_wt s
  have H1 := fun W hc => wellFormed_any h hh W cs hc
  have H2 := fun W hc => smWf_any s hs W ds hc
  have hhl : h.wf = 0 → h.args.length ≤ 100000 := fun e => by
    have := (Tm.wf_ok h e).2.1
    cases h; rw [Tm.size_mk] at this; rename_i l; have := Tm.length_le_sizes l; simp only [Tm.args_mk]; omega
  have H5 := fun (e : s.size ≤ 4096) (e2 : h.wf = 0) W hc hd => expand_any s (by omega) h (hhl e2) none' W cs ds (fun _ x => x.elim) hc hd
  have hxs : (Tm.xp h s).size + 2 = h.size + 2 * s.size := Tm.size_xp s h
  have H6 := fun (e : s.size ≤ 4096) (e2 : h.size ≤ 4096) W c hc => size_any (Tm.xp h s) (by omega) W c hc
  have H7 := fun (e : s.size ≤ 4096) (e2 : h.size ≤ 4096) W c hc => depth_any (Tm.xp h s) (by omega) W c hc
  have H8 := fun W hc => shift_any h hh s.args.length 0 W cs hc
  have hsq : (h.shiftT s.args.length 0).args.length ≤ 100000 ∨ h.wf ≠ 0 := by
    by_cases e : h.wf = 0
    · left
      have h1 := Tm.shiftT_size' h s.args.length 0
      have h2 := (Tm.wf_ok h e).2.1
      generalize h.shiftT s.args.length 0 = u at *
      cases u; rw [Tm.size_mk] at h1; rename_i l; have := Tm.length_le_sizes l; simp only [Tm.args_mk]; omega
    · exact .inr e
  have H9 := fun (e : s.size ≤ 4096) (e2 : h.wf = 0) O W c hO hc hd => expand_any s (by omega) (h.shiftT s.args.length 0) (hsq.resolve_right (fun x => x e2)) O W c ds hO hc hd
  have hsw : s.wf = 0 → s.size ≤ 4096 := by
    unfold Sm.wf
    split
    · intro e; cases e
    · split
      · intro e; cases e
      · rename_i h1 h2; intro _; simp at h2; omega
  have hhw : h.wf = 0 → h.size ≤ 4096 := fun e => (Tm.wf_ok h e).2.1
  obtain ⟨k, n, i, ts, a, cap, ht, rfl, hcap, _⟩ := tm_open hR
  obtain ⟨f, ss, sa, sc, hts, rfl, hsc, _⟩ := sm_open hD
  have hkk : h.kind = k := by rw [ht]; rfl
  obtain ⟨hp1, hp2⟩ := Tm.eta_prog h s
  obtain ⟨E, hE⟩ : ∃ E, E = h.etaE s := ⟨_, rfl⟩
  obtain ⟨X, hX⟩ : ∃ X, X = h.etaT s := ⟨_, rfl⟩
  rw [← hE, ← hX]
  rw [Tm.etaT, ← hE] at hX
  rw [← hE] at hp1 hp2
  rw [Tm.etaPE, hkk] at hp1
  have hse : h.wf ≠ 0 ∨ True := .inr trivial
  obtain ⟨x, hx⟩ : ∃ x, x = Tm.xp h s := ⟨_, rfl⟩
  rw [← hx] at H5 H6 H7 hp1
  obtain ⟨xe, hxe⟩ : ∃ xe, xe = h.etaX s := ⟨_, rfl⟩
  rw [← hxe] at hX hp2
  obtain ⟨sh, hsh⟩ : ∃ sh, sh = h.shiftT s.args.length 0 := ⟨_, rfl⟩
  rw [← hsh] at H8 H9 hp2
  obtain ⟨se, hsee⟩ : ∃ se, se = h.shiftE s.args.length 0 := ⟨_, rfl⟩
  rw [← hsee] at H8 hp1 hp2
  have hsmd : x.small = (decide (x.size ≤ 4096) && decide (x.depth ≤ 128)) := rfl
  have hal : s.args.length = ss.length := by rw [hts]; rfl
  rw [hal] at H8
  have hslz : ss.length ≤ s.size := by rw [hts, Sm.size_mk]; have := Sm.length_le_sizes ss; omega
  have hxb : x.size + 2 = h.size + 2 * s.size := by rw [hx]; exact hxs
  have hxd : x.depth ≤ x.size := Tm.depth_le_size x
  have HX := hid (And.intro hp1.symm (And.intro hX hp2))
  have HB := hid (And.intro hsw (And.intro hslz hhw))
  generalize h.wf = wf at *
  generalize s.wf = sf at *
  generalize hsm : x.small = sm at *
  generalize x.size = xz at *
  generalize x.depth = xd at *
  generalize h.size = hz at *
  generalize s.size = sz at *
  have HSM := hid hsmd
  clear hE hX ht hts hkk hcap hsc hx hsw hhw hxs hp1 hp2 hxe hsh hsee hsq hhl hslz hsm hsmd hse hal
  obtain ⟨w1, hw1⟩ : ∃ w1, w1 = ((w.alloc (.cells #[.int .i64 k, .string (B n), .int .i64 i, .slice a ts.length cap] 32)).alloc (.cells #[.string (B f), .slice sa ss.length sc] 29)).alloc (.cells #[.int .i64 0, .string (B []), .int .i64 0, .slice none 0 0] 32) := ⟨_, rfl⟩
  have hU1 : Upto none' w w1 := by rw [hw1]; exact (((Upto.refl none' w).alloc _).alloc _).alloc _
  have hb1 : Box4 w1 w.heap.size (.int .i64 k) (.string (B n)) (.int .i64 i) (.slice a ts.length cap) 32 := by rw [hw1]; exact ((Box4.at_new rfl).kept ((Upto.refl none' _).alloc _)).kept ((Upto.refl none' _).alloc _)
  have hs1 : Box2 w1 (w.heap.size + 1) (.string (B f)) (.slice sa ss.length sc) 29 := by rw [hw1]; exact (Box2.at_new (by simp)).kept ((Upto.refl none' _).alloc _)
  have hr1 : Box4 w1 (w.heap.size + 1 + 1) (.int .i64 0) (.string (B [])) (.int .i64 0) (.slice none 0 0) 32 := by rw [hw1]; exact Box4.at_new (by simp)
  have HW := hid hw1
  clear hw1
  generalize ts.length = tl at *
  generalize ss.length = sl at *
  go_enter Try.func17, Try.ntmps17
  go_wp2_with fail
  rw [← show B [] = { data := #[] } from rfl, ← HW.out]
  refine (H1 w1 (hR.on hU1)).mono ?_
  rintro e w2 ⟨rfl, hU2⟩
  have hb2 := hb1.kept hU2
  have hs2 := hs1.kept hU2
  have hr2 := hr1.kept hU2
  have hU1_2 := hU1.and hU2
  have b2 := hb2.cells
  have s2 := hs2.cells
  by_cases hwf : wf = 0
  case neg =>
    have hwf' : (wf != 0) = true := by simpa using hwf
    obtain ⟨x0, x1, x2, x3⟩ := hr2.cells
    obtain ⟨y0, y1, y2, y3⟩ := hr2.frozens
    have hrz := hr2.lt
    have hE0 : E = wf := (by rw [HX.out.1]; exact if_pos hwf)
    have hX0 : X = .mk 0 [] 0 [] := by rw [HX.out.2.1, if_neg (by rw [hE0]; exact hwf)]
    have hgz := gives_set (u := .mk 0 [] 0 []) (r := .int .i64 wf) hr2 (by omega) hU1_2 (rep_leaf 0 [] 0) rfl
    rw [← hX0] at hgz
    have hgz2 : (Value.int .i64 wf) = .int .i64 E := by rw [hE0]
    have HG := hid (And.intro hgz hgz2)
    obtain ⟨e0, e1, e2, e3⟩ := hgz.2.cells
    have HE := hid (And.intro e0 (And.intro e1 (And.intro e2 e3)))
    clear hgz hgz2 e0 e1 e2 e3 hE0 hX0
    go_wp2_with fail
    obtain ⟨e0, e1, e2, e3⟩ := HE.out
    refine bodyPost_ret (v := .tuple #[.agg #[.int .i64 0, .string (B []), .int .i64 0, .slice none 0 0], .int .i64 wf]) ?_ rfl ?_
    · simp [results, Try.f17, go_sem, e0, e1, e2, e3]
    · have h := HG.out.1.1
      rw [← HG.out.2]
      exact h
  have hwf' : (wf != 0) = false := by simp [hwf]
  have HF1 := hid hwf
  clear hwf
  go_wp2_with fail
  refine (H2 w2 (hD.on hU1_2)).mono ?_
  rintro e w3 ⟨rfl, hU3⟩
  have hb3 := hb2.kept hU3
  have hs3 := hs2.kept hU3
  have hr3 := hr2.kept hU3
  have hU1_3 := hU1_2.and hU3
  have b3 := hb3.cells
  have s3 := hs3.cells
  by_cases hsf : sf = 0
  case neg =>
    have hsf' : (sf != 0) = true := by simpa using hsf
    obtain ⟨x0, x1, x2, x3⟩ := hr3.cells
    obtain ⟨y0, y1, y2, y3⟩ := hr3.frozens
    have hrz := hr3.lt
    have hE0 : E = sf := (by rw [HX.out.1]; exact (if_neg (fun e => e HF1.out)).trans (if_pos hsf))
    have hX0 : X = .mk 0 [] 0 [] := by rw [HX.out.2.1, if_neg (by rw [hE0]; exact hsf)]
    have hgz := gives_set (u := .mk 0 [] 0 []) (r := .int .i64 sf) hr3 (by omega) hU1_3 (rep_leaf 0 [] 0) rfl
    rw [← hX0] at hgz
    have hgz2 : (Value.int .i64 sf) = .int .i64 E := by rw [hE0]
    have HG := hid (And.intro hgz hgz2)
    obtain ⟨e0, e1, e2, e3⟩ := hgz.2.cells
    have HE := hid (And.intro e0 (And.intro e1 (And.intro e2 e3)))
    clear hgz hgz2 e0 e1 e2 e3 hE0 hX0
    go_wp2_with fail
    obtain ⟨e0, e1, e2, e3⟩ := HE.out
    refine bodyPost_ret (v := .tuple #[.agg #[.int .i64 0, .string (B []), .int .i64 0, .slice none 0 0], .int .i64 sf]) ?_ rfl ?_
    · simp [results, Try.f17, go_sem, e0, e1, e2, e3]
    · have h := HG.out.1.1
      rw [← HG.out.2]
      exact h
  have hsf' : (sf != 0) = false := by simp [hsf]
  have HF2 := hid hsf
  clear hsf
  by_cases hkd : (k != 4 && (k != 5 && k != 6)) = true
  case pos =>
    have hkd' := hkd
    simp only [Bool.and_eq_true] at hkd'
    obtain ⟨hk4, hk5, hk6⟩ := hkd'
    have hne : (32 : Int) ≠ 0 := by decide
    obtain ⟨x0, x1, x2, x3⟩ := hr3.cells
    obtain ⟨y0, y1, y2, y3⟩ := hr3.frozens
    have hrz := hr3.lt
    have hE0 : E = 32 := (by rw [HX.out.1]; exact (if_neg (fun e => e HF1.out)).trans ((if_neg (fun e => e HF2.out)).trans (if_pos hkd)))
    have hX0 : X = .mk 0 [] 0 [] := by rw [HX.out.2.1, if_neg (by rw [hE0]; exact hne)]
    have hgz := gives_set (u := .mk 0 [] 0 []) (r := .int .i64 32) hr3 (by omega) hU1_3 (rep_leaf 0 [] 0) rfl
    rw [← hX0] at hgz
    have hgz2 : (Value.int .i64 32) = .int .i64 E := by rw [hE0]
    have HG := hid (And.intro hgz hgz2)
    obtain ⟨e0, e1, e2, e3⟩ := hgz.2.cells
    have HE := hid (And.intro e0 (And.intro e1 (And.intro e2 e3)))
    clear hgz hgz2 e0 e1 e2 e3 hE0 hX0
    go_wp2_with fail
    obtain ⟨e0, e1, e2, e3⟩ := HE.out
    refine bodyPost_ret (v := .tuple #[.agg #[.int .i64 0, .string (B []), .int .i64 0, .slice none 0 0], .int .i64 32]) ?_ rfl ?_
    · simp [results, Try.f17, go_sem, e0, e1, e2, e3]
    · have h := HG.out.1.1
      rw [← HG.out.2]
      exact h
  have hways : ((k != 4) = false) ∨ ((k != 4) = true ∧ (k != 5) = false) ∨ ((k != 4) = true ∧ (k != 5) = true ∧ (k != 6) = false) := by
    cases h4 : (k != 4)
    · exact .inl rfl
    · cases h5 : (k != 5)
      · exact .inr (.inl ⟨rfl, rfl⟩)
      · exact .inr (.inr ⟨rfl, rfl, by rw [h4, h5] at hkd; simpa using hkd⟩)
  have HK := hid hkd
  clear hkd
  have hzb := HB.out.2.2 HF1.out
  have szb := HB.out.1 HF2.out
  have slb := HB.out.2.1
  go_upto_region 7 with fail
  go_cut [35] from 23 to 35 (fun v33 wx => v33 = .bool false ∧ w3 = wx)
  case first =>
    rcases hways with h4 | ⟨h4, h5⟩ | ⟨h4, h5, h6⟩
    all_goals
      go_wp2_with fail
      go_meet
      case rel => exact ⟨rfl, rfl⟩
  case rest =>
    obtain ⟨rfl, rfl⟩ := hcut
    clear hways
    go_wp2_with fail
    refine (H5 szb HF1.out w3 (hR.on hU1_3) (hD.on hU1_3)).mono ?_
    rintro e w7 ⟨k7, i7, n7, a7, len7, cap7, rfl, hR7, hU7⟩
    obtain ⟨w8, hw8⟩ : ∃ w8, w8 = w7.alloc (.cells #[.int .i64 k7, .string (B n7), .int .i64 i7, .slice a7 len7 cap7] 32) := ⟨_, rfl⟩
    have hUal : Upto none' w7 w8 := by rw [hw8]; exact (Upto.refl none' w7).alloc _
    have hx8 : Box4 w8 w7.heap.size (.int .i64 k7) (.string (B n7)) (.int .i64 i7) (.slice a7 len7 cap7) 32 := by rw [hw8]; exact Box4.at_new rfl
    have hU8 : Upto none' w3 w8 := hU7.and hUal
    have hR8 := hR7.on hUal
    obtain ⟨xb, hxb2⟩ : ∃ xb, xb = w7.heap.size := ⟨_, rfl⟩
    have HXB := hid hxb2
    have HW8 := hid hw8
    rw [← hxb2] at hx8
    clear hw8 hxb2 hUal
    have hb8 := hb3.kept hU8
    have hs8 := hs3.kept hU8
    have hr8 := hr3.kept hU8
    have hU1_8 := hU1_3.and hU8
    have b8 := hb8.cells
    have s8 := hs8.cells
    obtain ⟨x80, x81, x82, x83⟩ := hx8.cells
    go_wp2_with fail
    rw [← HXB.out, ← HW8.out]
    go_wp2_with fail
    refine (H6 szb hzb w8 _ hR8).mono ?_
    rintro e w9 ⟨rfl, hU9⟩
    have hx9 := hx8.kept hU9
    have hR9 := hR8.on hU9
    have hb9 := hb8.kept hU9
    have hs9 := hs8.kept hU9
    have hr9 := hr8.kept hU9
    have hU1_9 := hU1_8.and hU9
    have b9 := hb9.cells
    have s9 := hs9.cells
    obtain ⟨x90, x91, x92, x93⟩ := hx9.cells
    by_cases hbig : 4096 < xz
    case pos =>
      have hbig' : (4096 : Int) < (xz : Int) := by omega
      have hne : (2 : Int) ≠ 0 := by decide
      have hsf0 : sm = false := by rw [HSM.out, decide_eq_false (by omega), Bool.false_and]
      have HS0 := hid hsf0
      clear hsf0
      obtain ⟨x0, x1, x2, x3⟩ := hr9.cells
      obtain ⟨y0, y1, y2, y3⟩ := hr9.frozens
      have hrz := hr9.lt
      have hE0 : E = 2 := (by rw [HX.out.1]; exact (if_neg (fun e => e HF1.out)).trans ((if_neg (fun e => e HF2.out)).trans ((if_neg HK.out).trans (if_pos HS0.out))))
      have hX0 : X = .mk 0 [] 0 [] := by rw [HX.out.2.1, if_neg (by rw [hE0]; exact hne)]
      have hgz := gives_set (u := .mk 0 [] 0 []) (r := .int .i64 2) hr9 (by omega) hU1_9 (rep_leaf 0 [] 0) rfl
      rw [← hX0] at hgz
      have hgz2 : (Value.int .i64 2) = .int .i64 E := by rw [hE0]
      have HG := hid (And.intro hgz hgz2)
      obtain ⟨e0, e1, e2, e3⟩ := hgz.2.cells
      have HE := hid (And.intro e0 (And.intro e1 (And.intro e2 e3)))
      clear hgz hgz2 e0 e1 e2 e3 hE0 hX0
      go_wp2_with fail
      obtain ⟨e0, e1, e2, e3⟩ := HE.out
      refine bodyPost_ret (v := .tuple #[.agg #[.int .i64 0, .string (B []), .int .i64 0, .slice none 0 0], .int .i64 2]) ?_ rfl ?_
      · simp [results, Try.f17, go_sem, e0, e1, e2, e3]
      · have h := HG.out.1.1
        rw [← HG.out.2]
        exact h
    have hbig' : ¬ (4096 : Int) < (xz : Int) := by omega
    go_wp2_with fail
    refine (H7 szb hzb w9 _ hR9).mono ?_
    rintro e w10 ⟨rfl, hU10⟩
    have hx10 := hx9.kept hU10
    have hR10 := hR9.on hU10
    have hb10 := hb9.kept hU10
    have hs10 := hs9.kept hU10
    have hr10 := hr9.kept hU10
    have hU1_10 := hU1_9.and hU10
    have b10 := hb10.cells
    have s10 := hs10.cells
    by_cases hdeep : 128 < xd
    case pos =>
      have hdeep' : (128 : Int) < (xd : Int) := by omega
      have hne : (2 : Int) ≠ 0 := by decide
      have hsf0 : sm = false := by rw [HSM.out, decide_eq_false (show ¬ xd ≤ 128 by omega), Bool.and_false]
      have HS0 := hid hsf0
      clear hsf0
      obtain ⟨x0, x1, x2, x3⟩ := hr10.cells
      obtain ⟨y0, y1, y2, y3⟩ := hr10.frozens
      have hrz := hr10.lt
      have hE0 : E = 2 := (by rw [HX.out.1]; exact (if_neg (fun e => e HF1.out)).trans ((if_neg (fun e => e HF2.out)).trans ((if_neg HK.out).trans (if_pos HS0.out))))
      have hX0 : X = .mk 0 [] 0 [] := by rw [HX.out.2.1, if_neg (by rw [hE0]; exact hne)]
      have hgz := gives_set (u := .mk 0 [] 0 []) (r := .int .i64 2) hr10 (by omega) hU1_10 (rep_leaf 0 [] 0) rfl
      rw [← hX0] at hgz
      have hgz2 : (Value.int .i64 2) = .int .i64 E := by rw [hE0]
      have HG := hid (And.intro hgz hgz2)
      obtain ⟨e0, e1, e2, e3⟩ := hgz.2.cells
      have HE := hid (And.intro e0 (And.intro e1 (And.intro e2 e3)))
      clear hgz hgz2 e0 e1 e2 e3 hE0 hX0
      go_wp2_with fail
      obtain ⟨e0, e1, e2, e3⟩ := HE.out
      refine bodyPost_ret (v := .tuple #[.agg #[.int .i64 0, .string (B []), .int .i64 0, .slice none 0 0], .int .i64 2]) ?_ rfl ?_
      · simp [results, Try.f17, go_sem, e0, e1, e2, e3]
      · have h := HG.out.1.1
        rw [← HG.out.2]
        exact h
    have hdeep' : ¬ (128 : Int) < (xd : Int) := by omega
    have hst : ¬ sm = false := by rw [HSM.out, decide_eq_true (by omega), decide_eq_true (by omega)]; simp
    have HST := hid hst
    clear hst
    go_wp2_with fail
    refine (H8 w10 (hR.on hU1_10)).mono ?_
    rintro e w11 ⟨k8, i8, n8, a8, len8, cap8, rfl, hR11, hU11⟩
    obtain ⟨w12, hw12⟩ : ∃ w12, w12 = w11.alloc (.cells #[.int .i64 k8, .string (B n8), .int .i64 i8, .slice a8 len8 cap8] 32) := ⟨_, rfl⟩
    have hUal : Upto none' w11 w12 := by rw [hw12]; exact (Upto.refl none' w11).alloc _
    have hx12 : Box4 w12 w11.heap.size (.int .i64 k8) (.string (B n8)) (.int .i64 i8) (.slice a8 len8 cap8) 32 := by rw [hw12]; exact Box4.at_new rfl
    have hU12 : Upto none' w10 w12 := hU11.and hUal
    have hR12 : Rep (fun b => b ≤ w.heap.size + 1 + 1) w12 sh.dat [.int .i64 k8, .string (B n8), .int .i64 i8, .slice a8 len8 cap8] := (Rep.weaken (fun b _ e => by have := hr10.lt; omega) _ _ hR11).on hUal
    obtain ⟨yb, hyb⟩ : ∃ yb, yb = w11.heap.size := ⟨_, rfl⟩
    have HYB := hid hyb
    have HW12 := hid hw12
    rw [← hyb] at hx12
    clear hw12 hyb hUal
    have hb12 := hb10.kept hU12
    have hs12 := hs10.kept hU12
    have hr12 := hr10.kept hU12
    have hU1_12 := hU1_10.and hU12
    have b12 := hb12.cells
    have s12 := hs12.cells
    obtain ⟨x120, x121, x122, x123⟩ := hx12.cells
    by_cases hse : se = 0
    case neg =>
      have hse' : (se != 0) = true := by simpa using hse
      go_upto_region 14 with fail
      rw [← HYB.out, ← HW12.out]
      obtain ⟨x0, x1, x2, x3⟩ := hr12.cells
      obtain ⟨y0, y1, y2, y3⟩ := hr12.frozens
      have hrz := hr12.lt
      have hE0 : E = se := (by rw [HX.out.1]; exact (if_neg (fun e => e HF1.out)).trans ((if_neg (fun e => e HF2.out)).trans ((if_neg HK.out).trans (if_neg HST.out))))
      have hX0 : X = .mk 0 [] 0 [] := by rw [HX.out.2.1, if_neg (by rw [hE0]; exact hse)]
      have hgz := gives_set (u := .mk 0 [] 0 []) (r := .int .i64 se) hr12 (by omega) hU1_12 (rep_leaf 0 [] 0) rfl
      rw [← hX0] at hgz
      have hgz2 : (Value.int .i64 se) = .int .i64 E := by rw [hE0]
      have HG := hid (And.intro hgz hgz2)
      obtain ⟨e0, e1, e2, e3⟩ := hgz.2.cells
      have HE := hid (And.intro e0 (And.intro e1 (And.intro e2 e3)))
      clear hgz hgz2 e0 e1 e2 e3 hE0 hX0
      go_wp2_with fail
      obtain ⟨e0, e1, e2, e3⟩ := HE.out
      refine bodyPost_ret (v := .tuple #[.agg #[.int .i64 0, .string (B []), .int .i64 0, .slice none 0 0], .int .i64 se]) ?_ rfl ?_
      · simp [results, Try.f17, go_sem, e0, e1, e2, e3]
      · have h := HG.out.1.1
        rw [← HG.out.2]
        exact h
    have hse' : (se != 0) = false := by simp [hse]
    have HSE := hid hse
    clear hse
    go_upto_region 15 with fail
    rw [← HYB.out, ← HW12.out]
    go_wp2_with fail
    have hqr := hr12.lt
    refine (H9 szb HF1.out _ w12 _ (fun b e => by omega) hR12 (hD.on hU1_12)).mono ?_
    rintro e w13 ⟨k9, i9, n9, a9, len9, cap9, rfl, hR13, hU13⟩
    have hb13 := hb12.kept hU13
    have hs13 := hs12.kept hU13
    have hr13 := hr12.kept hU13
    have hU1_13 := hU1_12.and hU13
    have b13 := hb13.cells
    have s13 := hs13.cells
    obtain ⟨x0, x1, x2, x3⟩ := hr13.cells
    obtain ⟨y0, y1, y2, y3⟩ := hr13.frozens
    have hrz := hr13.lt
    have hE0 : E = 0 := by rw [HX.out.1]; exact (if_neg (fun e => e HF1.out)).trans ((if_neg (fun e => e HF2.out)).trans ((if_neg HK.out).trans ((if_neg HST.out).trans HSE.out)))
    have hX0 : X = Tm.xp sh s := by rw [HX.out.2.1, if_pos hE0]; exact (HX.out.2.2 hE0).2.symm
    have hgz := gives_set (u := Tm.xp sh s) (r := .int .i64 0) hr13 (by omega) hU1_13 hR13 rfl
    rw [← hX0] at hgz
    have hgz2 : (Value.int .i64 0) = .int .i64 E := by rw [hE0]
    have HG := hid (And.intro hgz hgz2)
    obtain ⟨e0, e1, e2, e3⟩ := hgz.2.cells
    have HE := hid (And.intro e0 (And.intro e1 (And.intro e2 e3)))
    clear hgz hgz2 e0 e1 e2 e3 hE0 hX0
    go_wp2_with fail
    obtain ⟨e0, e1, e2, e3⟩ := HE.out
    refine bodyPost_ret (v := .tuple #[.agg #[.int .i64 k9, .string (B n9), .int .i64 i9, .slice a9 len9 cap9], .int .i64 0]) ?_ rfl ?_
    · simp [results, Try.f17, go_sem, e0, e1, e2, e3]
    · have h := HG.out.1.1
      rw [← HG.out.2]
      exact h
end Go.Proofs.Ytnhmogmpbgadiaa
