/- Result: the program's. -/
import Derived.Test.YtdomloghcpfdjaaGreatDoorSubResP
import Derived.Test.YtdomloghcpfdjaaGreatDoorSubRm
import Derived.Deep.CutRange
namespace Go.Proofs.YtdomloghcpfdjaaGreatDoor
open Go.RowKit Go.LF
set_option maxRecDepth 100000 in
set_option maxHeartbeats 16000000 in
theorem result_any (a : Tm) (us : List Tm) (haw : a.wt ≤ 100000) (huw : ∀ u ∈ us, u.wt ≤ 100000) (hul : us.length ≤ 1000) (w : World) (cs : List Value) (ua : Option Addr) (uc : Nat) (hR : Rep none' w a.dat cs) (hE : RepE none' w 4 (us.map Tm.dat) ua 0) :
    Calls Tryz.prog 23 #[.agg cs.toArray, .slice ua us.length uc] w (GivesE none' (resultE a us) (resultT a us) w) := by
  obtain ⟨k, n, i, ts, aa, cap, htt, rfl, _, _⟩ := tm_open hR
  generalize ts.length = len at *
  obtain ⟨w1, hw1⟩ : ∃ w1, w1 = (w.alloc (.cells #[.int .i64 k, .string (B n), .int .i64 i, .slice aa len cap] 29)).alloc (.cells #[.int .i64 0, .string (B []), .int .i64 0, .slice none 0 0] 29) := ⟨_, rfl⟩
  have hU1 : Upto none' w w1 := by rw [hw1]; exact ((Upto.refl none' w).alloc _).alloc _
  have ha1 : Box4 w1 w.heap.size (.int .i64 k) (.string (B n)) (.int .i64 i) (.slice aa len cap) 29 := by rw [hw1]; exact (Box4.at_new rfl).kept ((Upto.refl none' _).alloc _)
  have hr1 : Box4 w1 (w.heap.size + 1) (.int .i64 0) (.string (B [])) (.int .i64 0) (.slice none 0 0) 29 := by rw [hw1]; exact Box4.at_new (by simp)
  have hR1 := (Rep.freshO hR).on hU1
  have hE1 := (RepE.fresh' _ _ _ _ hE).on hU1
  have HW := hid hw1
  obtain ⟨H, hH⟩ : ∃ H, H = w.heap.size := ⟨_, rfl⟩
  have HH := hid hH
  rw [← hH] at ha1 hr1 hR1 hE1
  obtain ⟨E, hEE⟩ : ∃ E, E = resultE a us := ⟨_, rfl⟩
  obtain ⟨X, hXX⟩ : ∃ X, X = resultT a us := ⟨_, rfl⟩
  rw [← hEE, ← hXX]
  unfold resultT at hXX
  rw [← hEE] at hXX
  unfold resultE at hEE
  have HEX := hid (And.intro hEE hXX)
  have FO := fun (W : World) (a9 : Option Addr) (c9 : Nat) h9 => subForms_any (a :: us) [] (by simp; omega) (fun u hu => (List.mem_cons.1 hu).elim (fun h => by rw [h]; omega) (fun h => by have := huw u h; omega)) (by simp) (by simp) W a9 c9 none 0 h9 (by simp only [List.map_nil, RepE])
  have hfe : (if firstE Tm.wf (a :: us) ≠ 0 then firstE Tm.wf (a :: us) else firstE Sm.wf []) = firstE Tm.wf (a :: us) := by
    by_cases h : firstE Tm.wf (a :: us) = 0
    · rw [if_neg (by simp [h]), h]; rfl
    · rw [if_pos h]
  rw [hfe] at FO
  have IT := fun (W : World) h => isType_any a (by omega) W [.int .i64 k, .string (B n), .int .i64 i, .slice aa len cap] h
  have IK := fun (W : World) h => isKind_any a (by omega) W [.int .i64 k, .string (B n), .int .i64 i, .slice aa len cap] h
  have SH := fun (W : World) h => shift_any a (by omega) 0 0 W [.int .i64 k, .string (B n), .int .i64 i, .slice aa len cap] h
  obtain ⟨q, hq⟩ : ∃ q : Int, q = firstE Tm.wf (a :: us) := ⟨_, rfl⟩
  rw [← hq] at FO
  have HQ := hid hq
  obtain ⟨ul, hull⟩ : ∃ ul, ul = us.length := ⟨_, rfl⟩
  rw [← hull]
  rw [← hull] at hul
  have HL := hid hull
  have HU := hid hU1
  have hul3 : (ul : Int) ≤ 10000 := by omega
  have hz1 : H + 2 ≤ w1.heap.size := by have := hr1.lt; omega
  have HP := hid (And.intro haw huw)
  have hrow := RowS.one (O := fun b => b = H ∨ b = H + 1) (Rep.weaken (fun b _ e => by right; omega) _ _ hR1)
  have hal : Upto none' w1 (w1.alloc (.cells #[.int .i64 k, .string (B n), .int .i64 i, .slice aa len cap] 29)) := (Upto.refl none' _).alloc _
  clear hw1 hH hR hE hEE hXX hull hU1 haw huw hfe hq
  obtain ⟨t0, t1, t2, t3⟩ := ha1.cells
  have hlt1 := ha1.lt
  go_enter Tryz.func23, Tryz.ntmps23
  go_upto_region 1 with fail
  rw [← show B [] = { data := #[] } from rfl, ← HW.out, ← HH.out]
  go_wp2_with (at_builtin; go_loud (refine wpList_append_tms (by rfl) _ _ (by rfl) (by rfl) hrow ua ul uc us (by rfl) HL.out (RepE.weaken (fun b _ e => by right; omega) _ _ _ _ (hE1.on hal)) (by simp; have := HL.out; omega) (by have := hal.size; omega) ?_); intro v3 w3 css3 hS3 hg3 hat3; have hgo := grown_own hg3; have hU3 : Upto none' w1 w3 := (hal.trans hgo (fun b hb e => by simp [Value.ownBlock] at e; omega)); obtain ⟨va, vc, hv3, hvc, hF3⟩ := hS3.rep; subst hv3)
  have F3 := FO w3 va vc (rep_pre' hF3)
  simp only [List.length_cons, List.length_nil] at F3
  clear FO hrow hal hgo hS3 hg3 hat3 hF3 t0 t1 t2 t3
  have hU3z := hU3.size
  (with_reducible refine F3.mono ?_)
  rintro e w5 ⟨rfl, hU5⟩
  have hU6 := hU3.and hU5
  have ha6 := ha1.kept hU6
  have hr6 := hr1.kept hU6
  have hR6 := hR1.on hU6
  have hE6 := hE1.on hU6
  clear F3 ha1 hr1 hR1 hE1 hU3 hU5 hlt1
  by_cases hq : q = 0
  case neg =>
    have hE0 : E = q := by rw [HEX.out.1, ← HQ.out, if_pos hq]
    have H0 := hid (And.intro hE0 (show X = Tm.none0 by rw [HEX.out.2, hE0, if_neg hq]))
    have hq' : (q != 0) = true := by simpa using hq
    clear hE0 hq
    have hset := hr6.set (d0 := .int .i64 0) (d1 := .string (B [])) (d2 := .int .i64 0) (d3 := .slice none 0 0)
    obtain ⟨y0, y1, y2, y3⟩ := hr6.cells
    obtain ⟨z0, z1, z2, z3⟩ := hr6.frozens
    obtain ⟨e0, e1, e2, e3⟩ := hset.1.cells
    have HEE := hid (And.intro e0 (And.intro e1 (And.intro e2 (And.intro e3 hset.2))))
    have hlr := hr6.lt
    clear e0 e1 e2 e3 hset
    go_wp2_with fail
    obtain ⟨e0, e1, e2, e3, hset⟩ := HEE.out
    refine bodyPost_ret (v := .tuple #[.agg #[.int .i64 0, .string (B []), .int .i64 0, .slice none 0 0], .int .i64 q]) ?_ rfl ?_
    · simp [results, Tryz.f23, go_sem, e0, e1, e2, e3]
    · exact ⟨0, 0, [], none, 0, 0, by rw [H0.out.1], by rw [H0.out.2]; exact rep_leaf 0 [] 0, (HU.out.and hU6).trans hset (fun b hb e => by have := HH.out; omega)⟩
  subst hq
  have hwf := firstE_zero Tm.wf (a :: us) HQ.out.symm
  have hwa : a.wf = 0 := hwf a (by simp)
  have hE1 : E = if ((a.isTyp && a.small) || (a.isKnd && a.small)) = false then 32 else resE a us := by rw [HEX.out.1, ← HQ.out, if_neg (by simp)]
  obtain ⟨ty, hty⟩ : ∃ ty, ty = (a.isTyp && a.small) := ⟨_, rfl⟩
  obtain ⟨kd, hkd⟩ : ∃ kd, kd = (a.isKnd && a.small) := ⟨_, rfl⟩
  rw [← hty] at IT hE1
  rw [← hkd] at IK hE1
  obtain ⟨sb, hsb⟩ : ∃ sb, sb = (ty || kd) := ⟨_, rfl⟩
  rw [← hsb] at hE1
  rw [(Tm.shift_zero0 a hwa).1, (Tm.shift_zero0 a hwa).2.1] at SH
  have HSB := hid hsb
  have HE1 := hid hE1
  have HWF := hid hwf
  clear hty hkd hsb hE1 hwf hwa HQ
  obtain ⟨t0, t1, t2, t3⟩ := ha6.cells
  have IT5 := IT w5 (rep_pre hR6)
  clear IT
  go_upto_region 4 with fail
  go_cut [27] from 20 to 27 (fun v27 wx => v27 = .bool (!sb) ∧ Upto none' w5 wx)
  case first =>
    cases ty
    case false =>
      go_wp2_with (first | ((go_at_call 81); (with_reducible refine IT5.mono ?_); rintro e w6 ⟨rfl, hU7⟩; clear t0 t1 t2 t3; obtain ⟨t0, t1, t2, t3⟩ := (ha6.kept hU7).cells; have IK6 := IK w6 (rep_pre (hR6.on hU7))) | ((go_at_call 82); (with_reducible refine IK6.mono ?_); rintro e w7 ⟨rfl, hU8⟩))
      go_meet
      case rel => exact ⟨by rw [HSB.out]; rfl, hU7.and hU8⟩
    case true =>
      go_wp2_with (first | ((go_at_call 81); (with_reducible refine IT5.mono ?_); rintro e w6 ⟨rfl, hU7⟩))
      go_meet
      case rel => exact ⟨by rw [HSB.out]; rfl, hU7⟩
  case rest =>
    obtain ⟨rfl, hU7⟩ := hcut
    obtain ⟨w7, rfl⟩ : ∃ x, x = wc := ⟨wc, rfl⟩
    have ha7 := ha6.kept hU7
    have hr7 := hr6.kept hU7
    have hR7 := hR6.on hU7
    have hE7 := hE6.on hU7
    have hU67 := hU6.and hU7
    have hlr := hr7.lt
    clear ha6 hr6 hR6 hE6 hU6 hU7 IT5 IK t0 t1 t2 t3
    cases sb
    case false =>
      have hE0 : E = 32 := by rw [HE1.out, if_pos rfl]
      have H0 := hid (And.intro hE0 (show X = Tm.none0 by rw [HEX.out.2, hE0, if_neg (by omega)]))
      clear hE0
      have hset := hr7.set (d0 := .int .i64 0) (d1 := .string (B [])) (d2 := .int .i64 0) (d3 := .slice none 0 0)
      obtain ⟨y0, y1, y2, y3⟩ := hr7.cells
      obtain ⟨z0, z1, z2, z3⟩ := hr7.frozens
      obtain ⟨e0, e1, e2, e3⟩ := hset.1.cells
      have HEE := hid (And.intro e0 (And.intro e1 (And.intro e2 (And.intro e3 hset.2))))
      clear e0 e1 e2 e3 hset
      go_wp2_with fail
      obtain ⟨e0, e1, e2, e3, hset⟩ := HEE.out
      refine bodyPost_ret (v := .tuple #[.agg #[.int .i64 0, .string (B []), .int .i64 0, .slice none 0 0], .int .i64 32]) ?_ rfl ?_
      · simp [results, Tryz.f23, go_sem, e0, e1, e2, e3]
      · exact ⟨0, 0, [], none, 0, 0, by rw [H0.out.1], by rw [H0.out.2]; exact rep_leaf 0 [] 0, (HU.out.and hU67).trans hset (fun b hb e => by have := HH.out; omega)⟩
    case true =>
      have hE2 : E = resE a us := by rw [HE1.out, if_neg (by simp)]
      have HE2 := hid hE2
      clear hE2
      obtain ⟨t0, t1, t2, t3⟩ := ha7.cells
      have SH7 := SH w7 (rep_pre hR7)
      clear SH
      go_wp2_with fail
      (with_reducible refine SH7.mono ?_)
      rintro e w8 ⟨k8, i8, n8, a8, l8, c8, rfl, hR8, hU8⟩
      obtain ⟨w9, hw9⟩ : ∃ w9, w9 = w8.alloc (.cells #[.int .i64 k8, .string (B n8), .int .i64 i8, .slice a8 l8 c8] 29) := ⟨_, rfl⟩
      have hUa : Upto none' w8 w9 := by rw [hw9]; exact (Upto.refl none' _).alloc _
      have hp9 : Box4 w9 w8.heap.size (.int .i64 k8) (.string (B n8)) (.int .i64 i8) (.slice a8 l8 c8) 29 := by rw [hw9]; exact Box4.at_new rfl
      obtain ⟨P, hP⟩ : ∃ P, P = w8.heap.size := ⟨_, rfl⟩
      have hz8 := hU8.size
      have hR9 : Rep (fun b => b = P ∨ b = H + 1) w9 a.dat [.int .i64 k8, .string (B n8), .int .i64 i8, .slice a8 l8 c8] := (Rep.weaken (fun b hb e => by omega) _ _ hR8).on hUa
      rw [← hP] at hp9 hz8
      have hHP : H + 1 < P := by omega
      have hU79 := hU8.and hUa
      have hr9 := hr7.kept hU79
      have hE9 := hE7.on hU79
      have hUw9 := HU.out.and (hU67.and hU79)
      have HP9 := hid hP
      have HW9 := hid hw9
      clear hw9 hP hUa hR8 hU8 hU79 hU67 hr7 hE7 hR7 ha7 SH7 t0 t1 t2 t3
      go_wp2_with fail
      rw [← HW9.out, ← HP9.out]
      go_loopw [8, 36] (fun v8 v36 wr => ∃ (j : Nat) (x : Tm) (kx ix : Int) (nx : List UInt8) (ax : Option Addr) (lx cx : Nat), v8 = .int .i64 0 ∧ v36 = .int .i64 (j : Int) ∧ j ≤ ul ∧ Box4 wr P (.int .i64 kx) (.string (B nx)) (.int .i64 ix) (.slice ax lx cx) 29 ∧
          Rep (fun b => b = P ∨ b = H + 1) wr x.dat [.int .i64 kx, .string (B nx), .int .i64 ix, .slice ax lx cx] ∧ resE a us = resE x (us.drop j) ∧ resT a us = resT x (us.drop j) ∧ x.wt ≤ 266240 ∧ Upto (fun b => b = P) w9 wr)
        (fun _ v36 _ => ul - (intOf v36).toNat)
      case atStart => exact ⟨0, a, _, _, _, _, _, _, rfl, rfl, Nat.zero_le _, hp9, hR9, rfl, rfl, by have := HP.out.1; omega, Upto.refl _ _⟩
      case round =>
        obtain ⟨j, x, kx, ix, nx, ax, lx, cx, rfl, rfl, hj, hp, hRx, h1, h2, hxw, hUr⟩ := hrel
        have hrr := hr9.keep hUr (by omega)
        have hEr := RepE.keep (O := fun b => none' b ∨ H ≤ b) hUr (fun b e => .inr (by omega)) _ _ _ _ hE9
        have u1 : (j : Int) ≤ 1000 := by omega
        have hlp := hp.lt
        have hlr9 := hrr.lt
        by_cases hlt : (j : Int) < (ul : Int)
        · have hjl : j < us.length := by have := HL.out; omega
          obtain ⟨b, o, k2, n2, i2, s2, c2, rfl, hbl, hbO, c0', c1', c2', c3', hRu⟩ := arg_tm hEr j hjl
          have hdrop : us.drop j = us[j] :: us.drop (j + 1) := List.drop_eq_getElem_cons hjl
          rw [hdrop, resE_cons] at h1
          rw [hdrop, resT_cons] at h2
          have huj := HP.out.2 _ (List.getElem_mem hjl)
          have hbH : b < H := by
            have : ¬ (none' b ∨ H ≤ b) := hbO
            have h := fun x => this (.inr x)
            omega
          generalize us[j] = u at *
          generalize u.args.length = lu at *
          obtain ⟨wq, hwq⟩ : ∃ wq, wq = wr.alloc (.cells #[.int .i64 k2, .string (B n2), .int .i64 i2, .slice s2 lu c2] 29) := ⟨_, rfl⟩
          have hUq : Upto none' wr wq := by rw [hwq]; exact (Upto.refl none' _).alloc _
          have hq9 : Box4 wq wr.heap.size (.int .i64 k2) (.string (B n2)) (.int .i64 i2) (.slice s2 lu c2) 29 := by rw [hwq]; exact Box4.at_new rfl
          obtain ⟨Q, hQ⟩ : ∃ Q, Q = wr.heap.size := ⟨_, rfl⟩
          rw [← hQ] at hq9 hlp hlr9
          have hpq := hp.kept hUq
          have hrq := hrr.kept hUq
          have hRxq := hRx.on hUq
          have hRuq : Rep (fun b => b = P ∨ b = H + 1) wq u.dat [.int .i64 k2, .string (B n2), .int .i64 i2, .slice s2 lu c2] := (Rep.weaken (fun b _ e => .inr (by omega)) _ _ hRu).on hUq
          have hlq := hpq.lt
          have hlrq := hrq.lt
          have INS := instantiate_any (fun b => b = P ∨ b = H + 1) x u (by omega) (by omega) wq (fun b e => by omega) _ _ hRxq hRuq
          have HJ := hid (And.intro h1 h2)
          have HQ := hid hQ
          have HWQ := hid hwq
          obtain ⟨t0, t1, t2, t3⟩ := hpq.cells
          obtain ⟨q0, q1, q2, q3⟩ := hq9.cells
          clear h1 h2 hdrop hwq hQ hp hrr hRx hRu hEr
          go_upto_region 10 with fail
          rw [← HWQ.out, ← HQ.out]
          go_wp2_with fail
          (with_reducible refine INS.mono ?_)
          rintro e w10 ⟨k10, i10, n10, a10, l10, c10, rfl, hR10, hU10⟩
          have hp10 := hpq.kept hU10
          have hr10 := hrq.kept hU10
          obtain ⟨E1, hE1⟩ : ∃ E1, E1 = instE x u := ⟨_, rfl⟩
          rw [← hE1]
          have HE1 := hid hE1
          have hset := hp10.set (d0 := .int .i64 k10) (d1 := .string (B n10)) (d2 := .int .i64 i10) (d3 := .slice a10 l10 c10)
          obtain ⟨w11, hw11⟩ : ∃ w11, w11 = ((((w10.setCell ⟨P, 0, none⟩ (.int .i64 k10)).setCell ⟨P, 1, none⟩ (.string (B n10))).setCell ⟨P, 2, none⟩ (.int .i64 i10)).setCell ⟨P, 3, none⟩ (.slice a10 l10 c10)) := ⟨_, rfl⟩
          rw [← hw11] at hset
          have hR11 := Rep.keep hset.2 (fun b e => .inl e) _ _ hR10
          have hr11 := hr10.keep hset.2 (by omega)
          have hUr11 : Upto (fun b => b = P) w9 w11 := ((hUr.trans hUq (fun _ _ x => x.elim)).trans hU10 (fun _ _ x => x.elim)).trans hset.2 (fun _ _ e => e)
          have HW11 := hid hw11
          obtain ⟨f0, f1, f2, f3⟩ := hp10.frozens
          obtain ⟨g0, g1, g2, g3⟩ := hp10.cells
          have hlp10 := hp10.lt
          clear hw11 hE1 hR10 hrq hpq hq9 hRxq hRuq t0 t1 t2 t3 q0 q1 q2 q3 INS hr10 hUr hU10
          go_upto_region 11 with fail
          rw [← HW11.out]
          by_cases hz : E1 = 0
          · subst hz
            have h0 := HE1.out.symm
            have HZ := hid h0
            clear h0
            go_wp2_with fail
            go_roundw
            case rel =>
              refine ⟨j + 1, instT x u, _, _, _, _, _, _, rfl, by go_num, by omega, hset.1, hR11, ?_, HJ.out.2, Tm.wf_wt65 (instT_wf HZ.out), hUr11⟩
              rw [HJ.out.1, if_neg (by rw [HZ.out]; simp)]
            case measure => simp [intOf]; omega
          · have hE0 : E = E1 := by rw [HE2.out, HJ.out.1, if_pos (by rw [← HE1.out]; exact hz), HE1.out]
            have H0 := hid (And.intro hE0 (show X = Tm.none0 by rw [HEX.out.2, hE0, if_neg hz]))
            have hz' : (E1 != 0) = true := by simpa using hz
            clear hE0 hz f0 f1 f2 f3 g0 g1 g2 g3
            have hset9 := hr11.set (d0 := .int .i64 0) (d1 := .string (B [])) (d2 := .int .i64 0) (d3 := .slice none 0 0)
            obtain ⟨y0, y1, y2, y3⟩ := hr11.cells
            obtain ⟨z0, z1, z2, z3⟩ := hr11.frozens
            obtain ⟨e0, e1, e2, e3⟩ := hset9.1.cells
            have HEE := hid (And.intro e0 (And.intro e1 (And.intro e2 (And.intro e3 hset9.2))))
            have hlr11 := hr11.lt
            clear e0 e1 e2 e3 hset9
            go_wp2_with fail
            obtain ⟨e0, e1, e2, e3, hset9⟩ := HEE.out
            refine bodyPost_ret (v := .tuple #[.agg #[.int .i64 0, .string (B []), .int .i64 0, .slice none 0 0], .int .i64 E1]) ?_ rfl ?_
            · simp [results, Tryz.f23, go_sem, e0, e1, e2, e3]
            · exact ⟨0, 0, [], none, 0, 0, by rw [H0.out.1], by rw [H0.out.2]; exact rep_leaf 0 [] 0, ((hUw9.trans hUr11 (fun b hb e => by have := HH.out; omega)).trans hset9 (fun b hb e => by have := HH.out; omega))⟩
        · have hje : j = us.length := by have := HL.out; omega
          rw [hje, List.drop_length] at h1 h2
          have hE0 : E = 0 := by rw [HE2.out, h1]; rfl
          have H0 := hid (And.intro hE0 (show X = x by rw [HEX.out.2, hE0, if_pos rfl, h2]; rfl))
          clear hE0 h1 h2 hje
          have hset9 := hrr.set (d0 := .int .i64 kx) (d1 := .string (B nx)) (d2 := .int .i64 ix) (d3 := .slice ax lx cx)
          obtain ⟨t0, t1, t2, t3⟩ := hp.cells
          obtain ⟨y0, y1, y2, y3⟩ := hrr.cells
          obtain ⟨z0, z1, z2, z3⟩ := hrr.frozens
          obtain ⟨e0, e1, e2, e3⟩ := hset9.1.cells
          have HEE := hid (And.intro e0 (And.intro e1 (And.intro e2 (And.intro e3 hset9.2))))
          clear e0 e1 e2 e3 hset9
          go_wp2_with fail
          obtain ⟨e0, e1, e2, e3, hset9⟩ := HEE.out
          refine bodyPost_ret (v := .tuple #[.agg #[.int .i64 kx, .string (B nx), .int .i64 ix, .slice ax lx cx], .int .i64 0]) ?_ rfl ?_
          · simp [results, Tryz.f23, go_sem, e0, e1, e2, e3]
          · exact ⟨kx, ix, nx, ax, lx, cx, by rw [H0.out.1], by rw [H0.out.2]; exact rep_pre (Rep.keep hset9 (fun b e => .inr e) _ _ hRx), ((hUw9.trans hUr (fun b hb e => by have := HH.out; omega)).trans hset9 (fun b hb e => by have := HH.out; omega))⟩
end Go.Proofs.YtdomloghcpfdjaaGreatDoor
