/- Result: the reference's. -/
import Derived.Test.YtdomloghcpfdjaaGreatDoorSubResP
import Derived.Test.YtdomloghcpfdjaaGreatDoorSubRm
import Derived.Test.YtdomloghcpfdjaaGreatDoorSubRi
import Derived.Test.YtdomloghcpfdjaaGreatDoorCH
import Derived.Test.YtdomloghcpfdjaaGreatDoorCK
import Derived.Deep.RegionHeld3
import Derived.Deep.CutRange
namespace Go.Proofs.YtdomloghcpfdjaaGreatDoor
open Go.RowKit Go.LF
/-- What the drawn region of the reference's Result reads. -/
abbrev Rs9 (H b o : Nat) (t0 t1 t2 t3 m0 m1 m2 m3 : Value) (w' : World) : Prop :=
  (w'.cell? ⟨H, 0, none⟩ = some t0 ∧ w'.cell? ⟨H, 1, none⟩ = some t1 ∧ w'.cell? ⟨H, 2, none⟩ = some t2 ∧ w'.cell? ⟨H, 3, none⟩ = some t3) ∧
  (w'.cell? ⟨b, o, none⟩ = some m0 ∧ w'.cell? ⟨b, o + 1, none⟩ = some m1 ∧ w'.cell? ⟨b, o + 2, none⟩ = some m2 ∧ w'.cell? ⟨b, o + 3, none⟩ = some m3)
theorem Rs9.keep {H b o : Nat} {t0 t1 t2 t3 m0 m1 m2 m3 : Value} {w w' : World} {S : Nat → Prop} (h : Rs9 H b o t0 t1 t2 t3 m0 m1 m2 m3 w) (hU : Upto S w w') (h1 : ¬ S H) (h2 : ¬ S b) : Rs9 H b o t0 t1 t2 t3 m0 m1 m2 m3 w' :=
  ⟨⟨hU.cell h.1.1 h1, hU.cell h.1.2.1 h1, hU.cell h.1.2.2.1 h1, hU.cell h.1.2.2.2 h1⟩, ⟨hU.cell h.2.1 h2, hU.cell h.2.2.1 h2, hU.cell h.2.2.2.1 h2, hU.cell h.2.2.2.2 h2⟩⟩
theorem Rs9.new {H b o : Nat} {t0 t1 t2 t3 m0 m1 m2 m3 : Value} {w : World} (h : Rs9 H b o t0 t1 t2 t3 m0 m1 m2 m3 w) (x : Obj) : Rs9 H b o t0 t1 t2 t3 m0 m1 m2 m3 (w.alloc x) := h.keep ((Upto.refl none' w).alloc x) (fun x => x) (fun x => x)
theorem Rs9.drew {H b o : Nat} {t0 t1 t2 t3 m0 m1 m2 m3 : Value} {w : World} (h : Rs9 H b o t0 t1 t2 t3 m0 m1 m2 m3 w) : Rs9 H b o t0 t1 t2 t3 m0 m1 m2 m3 w.drew := h.keep (Upto.refl none' w).drew (fun x => x) (fun x => x)
theorem Rs9.set4 {H b o r : Nat} {t0 t1 t2 t3 m0 m1 m2 m3 : Value} {w : World} (h : Rs9 H b o t0 t1 t2 t3 m0 m1 m2 m3 w) (h1 : ¬ H = r) (h2 : ¬ b = r) (d0 d1 d2 d3 : Value) :
    Rs9 H b o t0 t1 t2 t3 m0 m1 m2 m3 ((((w.setCell ⟨r, 0, none⟩ d0).setCell ⟨r, 1, none⟩ d1).setCell ⟨r, 2, none⟩ d2).setCell ⟨r, 3, none⟩ d3) :=
  h.keep (S := fun b => b = r) (Upto.set (Upto.set (Upto.set (Upto.set (Upto.refl _ _) 0 _) 1 _) 2 _) 3 _) h1 h2
set_option maxRecDepth 100000 in
set_option maxHeartbeats 16000000 in
theorem refResult_any (a : Tm) (us : List Tm) (haw : a.wt ≤ 100000) (huw : ∀ u ∈ us, u.wt ≤ 100000) (hul : us.length ≤ 1000) (w : World) (cs : List Value) (ua : Option Addr) (uc : Nat) (hR : Rep none' w a.dat cs) (hE : RepE none' w 4 (us.map Tm.dat) ua 0) :
    Calls Tryz.prog 24 #[.agg cs.toArray, .slice ua us.length uc] w (GivesE none' (resultE a us) (resultT a us) w) := by
  obtain ⟨k, n, i, ts, aa, cap, htt, rfl, _, _⟩ := tm_open hR
  generalize ts.length = len at *
  obtain ⟨w1, hw1⟩ : ∃ w1, w1 = (w.alloc (.cells #[.int .i64 k, .string (B n), .int .i64 i, .slice aa len cap] 29)).alloc (.cells #[.int .i64 0, .string (B []), .int .i64 0, .slice none 0 0] 29) := ⟨_, rfl⟩
  have hU1 : Upto none' w w1 := by rw [hw1]; exact ((Upto.refl none' w).alloc _).alloc _
  have ha1 : Box4 w1 w.heap.size (.int .i64 k) (.string (B n)) (.int .i64 i) (.slice aa len cap) 29 := by rw [hw1]; exact (Box4.at_new rfl).kept ((Upto.refl none' _).alloc _)
  have hr1 : Box4 w1 (w.heap.size + 1) (.int .i64 0) (.string (B [])) (.int .i64 0) (.slice none 0 0) 29 := by rw [hw1]; exact Box4.at_new (by simp)
  have hR1 := (Rep.freshO hR).on hU1
  have hE1 := (RepE.fresh' _ _ _ _ hE).on hU1
  have HW := hid hw1
  obtain ⟨H, hH⟩ : ∃ H, H = w.heap.size := ⟨_, rfl⟩
  have HH := hid hH
  rw [← hH] at ha1 hr1 hR1 hE1
  obtain ⟨E, hEE⟩ : ∃ E, E = resultE a us := ⟨_, rfl⟩
  obtain ⟨X, hXX⟩ : ∃ X, X = resultT a us := ⟨_, rfl⟩
  rw [← hEE, ← hXX]
  unfold resultT at hXX
  rw [← hEE] at hXX
  unfold resultE at hEE
  have HEX := hid (And.intro hEE hXX)
  have FO := fun (W : World) (a9 : Option Addr) (c9 : Nat) h9 => formed_any (a :: us) (by simp; omega) (fun u hu => (List.mem_cons.1 hu).elim (fun h => by rw [h]; omega) (fun h => by have := huw u h; omega)) W a9 c9 h9
  have IT := fun (W : World) h => refIsType_any a (by omega) W [.int .i64 k, .string (B n), .int .i64 i, .slice aa len cap] h
  have IK := fun (W : World) h => refIsKind_any a (by omega) W [.int .i64 k, .string (B n), .int .i64 i, .slice aa len cap] h
  obtain ⟨q, hq⟩ : ∃ q : Int, q = firstE Tm.wf (a :: us) := ⟨_, rfl⟩
  rw [← hq] at FO
  have HQ := hid hq
  obtain ⟨ul, hull⟩ : ∃ ul, ul = us.length := ⟨_, rfl⟩
  rw [← hull]
  rw [← hull] at hul
  have HL := hid hull
  have HU := hid hU1
  have hul3 : (ul : Int) ≤ 10000 := by omega
  have hz1 : H + 2 ≤ w1.heap.size := by have := hr1.lt; omega
  have HP := hid (And.intro haw huw)
  have hrow := RowS.one (O := fun b => b = H ∨ b = H + 1) (Rep.weaken (fun b _ e => by right; omega) _ _ hR1)
  have hal : Upto none' w1 (w1.alloc (.cells #[.int .i64 k, .string (B n), .int .i64 i, .slice aa len cap] 29)) := (Upto.refl none' _).alloc _
  clear hw1 hH hR hE hEE hXX hull hU1 haw huw hq
  obtain ⟨t0, t1, t2, t3⟩ := ha1.cells
  have hlt1 := ha1.lt
  go_enter Tryz.func24, Tryz.ntmps24
  go_upto_region 1 with fail
  rw [← show B [] = { data := #[] } from rfl, ← HW.out, ← HH.out]
  go_wp2_with (at_builtin; go_loud (refine wpList_append_tms (by rfl) _ _ (by rfl) (by rfl) hrow ua ul uc us (by rfl) HL.out (RepE.weaken (fun b _ e => by right; omega) _ _ _ _ (hE1.on hal)) (by simp; have := HL.out; omega) (by have := hal.size; omega) ?_); intro v3 w3 css3 hS3 hg3 hat3; have hgo := grown_own hg3; have hU3 : Upto none' w1 w3 := (hal.trans hgo (fun b hb e => by simp [Value.ownBlock] at e; omega)); obtain ⟨va, vc, hv3, hvc, hF3⟩ := hS3.rep; subst hv3)
  have F3 := FO w3 va vc (rep_pre' hF3)
  simp only [List.length_cons] at F3
  clear FO hrow hal hgo hS3 hg3 hat3 hF3 t0 t1 t2 t3
  have hU3z := hU3.size
  (with_reducible refine F3.mono ?_)
  rintro e w5 ⟨rfl, hU5⟩
  have hU6 := hU3.and hU5
  have ha6 := ha1.kept hU6
  have hr6 := hr1.kept hU6
  have hR6 := hR1.on hU6
  have hE6 := hE1.on hU6
  clear F3 ha1 hr1 hR1 hE1 hU3 hU5 hlt1
  by_cases hq : q = 0
  case neg =>
    have hE0 : E = q := by rw [HEX.out.1, ← HQ.out, if_pos hq]
    have H0 := hid (And.intro hE0 (show X = Tm.none0 by rw [HEX.out.2, hE0, if_neg hq]))
    have hq' : (q != 0) = true := by simpa using hq
    clear hE0 hq
    have hset := hr6.set (d0 := .int .i64 0) (d1 := .string (B [])) (d2 := .int .i64 0) (d3 := .slice none 0 0)
    obtain ⟨y0, y1, y2, y3⟩ := hr6.cells
    obtain ⟨z0, z1, z2, z3⟩ := hr6.frozens
    obtain ⟨e0, e1, e2, e3⟩ := hset.1.cells
    have HEE := hid (And.intro e0 (And.intro e1 (And.intro e2 (And.intro e3 hset.2))))
    have hlr := hr6.lt
    clear e0 e1 e2 e3 hset
    go_wp2_with fail
    obtain ⟨e0, e1, e2, e3, hset⟩ := HEE.out
    refine bodyPost_ret (v := .tuple #[.agg #[.int .i64 0, .string (B []), .int .i64 0, .slice none 0 0], .int .i64 q]) ?_ rfl ?_
    · simp [results, Tryz.f24, go_sem, e0, e1, e2, e3]
    · exact ⟨0, 0, [], none, 0, 0, by rw [H0.out.1], by rw [H0.out.2]; exact rep_leaf 0 [] 0, (HU.out.and hU6).trans hset (fun b hb e => by have := HH.out; omega)⟩
  subst hq
  have hwf := firstE_zero Tm.wf (a :: us) HQ.out.symm
  have hwa : a.wf = 0 := hwf a (by simp)
  have hE1 : E = if ((a.isTyp && a.small) || (a.isKnd && a.small)) = false then 32 else resE a us := by rw [HEX.out.1, ← HQ.out, if_neg (by simp)]
  obtain ⟨ty, hty⟩ : ∃ ty, ty = (a.isTyp && a.small) := ⟨_, rfl⟩
  obtain ⟨kd, hkd⟩ : ∃ kd, kd = (a.isKnd && a.small) := ⟨_, rfl⟩
  rw [← hty] at IT hE1
  rw [← hkd] at IK hE1
  obtain ⟨sb, hsb⟩ : ∃ sb, sb = (ty || kd) := ⟨_, rfl⟩
  rw [← hsb] at hE1
  have HSB := hid hsb
  have HE1 := hid hE1
  have HWF := hid (And.intro hwf hwa)
  clear hty hkd hsb hE1 hwf hwa HQ
  obtain ⟨t0, t1, t2, t3⟩ := ha6.cells
  have IT5 := IT w5 (rep_pre hR6)
  clear IT
  go_upto_region 4 with fail
  go_cut [26] from 19 to 26 (fun v26 wx => v26 = .bool (!sb) ∧ Upto none' w5 wx)
  case first =>
    cases ty
    case false =>
      go_wp2_with (first | ((go_at_call 83); (with_reducible refine IT5.mono ?_); rintro e w6 ⟨rfl, hU7⟩; clear t0 t1 t2 t3; obtain ⟨t0, t1, t2, t3⟩ := (ha6.kept hU7).cells; have IK6 := IK w6 (rep_pre (hR6.on hU7))) | ((go_at_call 84); (with_reducible refine IK6.mono ?_); rintro e w7 ⟨rfl, hU8⟩))
      go_meet
      case rel => exact ⟨by rw [HSB.out]; rfl, hU7.and hU8⟩
    case true =>
      go_wp2_with (first | ((go_at_call 83); (with_reducible refine IT5.mono ?_); rintro e w6 ⟨rfl, hU7⟩))
      go_meet
      case rel => exact ⟨by rw [HSB.out]; rfl, hU7⟩
  case rest =>
    obtain ⟨rfl, hU7⟩ := hcut
    obtain ⟨w7, rfl⟩ : ∃ x, x = wc := ⟨wc, rfl⟩
    have ha7 := ha6.kept hU7
    have hr7 := hr6.kept hU7
    have hR7 := hR6.on hU7
    have hE7 := hE6.on hU7
    have hU67 := hU6.and hU7
    have hlr := hr7.lt
    clear ha6 hr6 hR6 hE6 hU6 hU7 IT5 IK t0 t1 t2 t3
    cases sb
    case false =>
      have hE0 : E = 32 := by rw [HE1.out, if_pos rfl]
      have H0 := hid (And.intro hE0 (show X = Tm.none0 by rw [HEX.out.2, hE0, if_neg (by omega)]))
      clear hE0
      have hset := hr7.set (d0 := .int .i64 0) (d1 := .string (B [])) (d2 := .int .i64 0) (d3 := .slice none 0 0)
      obtain ⟨y0, y1, y2, y3⟩ := hr7.cells
      obtain ⟨z0, z1, z2, z3⟩ := hr7.frozens
      obtain ⟨e0, e1, e2, e3⟩ := hset.1.cells
      have HEE := hid (And.intro e0 (And.intro e1 (And.intro e2 (And.intro e3 hset.2))))
      clear e0 e1 e2 e3 hset
      go_wp2_with fail
      obtain ⟨e0, e1, e2, e3, hset⟩ := HEE.out
      refine bodyPost_ret (v := .tuple #[.agg #[.int .i64 0, .string (B []), .int .i64 0, .slice none 0 0], .int .i64 32]) ?_ rfl ?_
      · simp [results, Tryz.f24, go_sem, e0, e1, e2, e3]
      · exact ⟨0, 0, [], none, 0, 0, by rw [H0.out.1], by rw [H0.out.2]; exact rep_leaf 0 [] 0, (HU.out.and hU67).trans hset (fun b hb e => by have := HH.out; omega)⟩
    case true =>
      have hE2 : E = resE a us := by rw [HE1.out, if_neg (by simp)]
      have HE2 := hid hE2
      clear hE2
      have hR9 : Rep (fun b => b = H ∨ b = H + 1) w7 a.dat [.int .i64 k, .string (B n), .int .i64 i, .slice aa len cap] := Rep.weaken (fun b _ e => .inr (by omega)) _ _ hR7
      have hUw7 := HU.out.and hU67
      have hwa := HWF.out.2
      clear hR7 hU67
      go_wp2_with fail
      go_loopw [7] (fun v7 wr => ∃ (j : Nat) (x : Tm) (kx ix : Int) (nx : List UInt8) (ax : Option Addr) (lx cx : Nat), v7 = .int .i64 (j : Int) ∧ j ≤ ul ∧ Box4 wr H (.int .i64 kx) (.string (B nx)) (.int .i64 ix) (.slice ax lx cx) 29 ∧
          Rep (fun b => b = H ∨ b = H + 1) wr x.dat [.int .i64 kx, .string (B nx), .int .i64 ix, .slice ax lx cx] ∧ resE a us = resE x (us.drop j) ∧ resT a us = resT x (us.drop j) ∧ x.wf = 0 ∧ Upto (fun b => b = H) w7 wr)
        (fun v7 _ => ul - (intOf v7).toNat)
      case atStart => exact ⟨0, a, _, _, _, _, _, _, rfl, Nat.zero_le _, ha7, hR9, rfl, rfl, hwa, Upto.refl _ _⟩
      case round =>
        clear hwa ha7 hR9
        obtain ⟨j, x, kx, ix, nx, ax, lx, cx, rfl, hj, hp, hRx, h1, h2, hxw, hUr⟩ := hrel
        have hrr := hr7.keep hUr (by omega)
        have hEr := RepE.keep (O := fun b => none' b ∨ H ≤ b) hUr (fun b e => .inr (by omega)) _ _ _ _ hE7
        have u1 : (j : Int) ≤ 1000 := by omega
        have hlp := hp.lt
        have hlr9 := hrr.lt
        have hxwt := Tm.wf_wt65 hxw
        have HXW := hid hxw
        obtain ⟨t0, t1, t2, t3⟩ := hp.cells
        clear hxw
        by_cases hlt : (j : Int) < (ul : Int)
        · have hjl : j < us.length := by have := HL.out; omega
          obtain ⟨b, o, k2, n2, i2, s2, c2, rfl, hbl, hbO, c0', c1', c2', c3', hRu⟩ := arg_tm hEr j hjl
          have hdrop : us.drop j = us[j] :: us.drop (j + 1) := List.drop_eq_getElem_cons hjl
          rw [hdrop, resE_cons] at h1
          rw [hdrop, resT_cons] at h2
          have huj := HP.out.2 _ (List.getElem_mem hjl)
          have hbH : b < H := by
            have : ¬ (none' b ∨ H ≤ b) := hbO
            have h := fun x => this (.inr x)
            omega
          generalize us[j] = u at *
          generalize u.args.length = lu at *
          have HJ := hid (And.intro h1 h2)
          have hRu' : Rep (fun b => (b = H ∨ b = H + 1) ∨ wr.heap.size ≤ b) wr u.dat [.int .i64 k2, .string (B n2), .int .i64 i2, .slice s2 lu c2] := Rep.weaken (fun b hb e => .inr (by omega)) _ _ hRu
          have hRx' := Rep.freshO hRx
          obtain ⟨E1, hE1⟩ : ∃ E1, E1 = instE x u := ⟨_, rfl⟩
          obtain ⟨X1, hX1⟩ : ∃ X1, X1 = instT x u := ⟨_, rfl⟩
          have INS := fun (O : Nat → Prop) (hO9 : ∀ b, O b → (b = H ∨ b = H + 1) ∨ wr.heap.size ≤ b) (W : World) (hu : Upto none' wr W) (hO : ∀ b, O b → b < W.heap.size) => refInstantiate_any O x u (by omega) (by omega) W hO _ _ ((Rep.weaken (fun b _ e => hO9 b e) _ _ hRx').on hu) ((Rep.weaken (fun b _ e => hO9 b e) _ _ hRu').on hu)
          rw [← hE1, ← hX1] at INS
          have HE1 := hid (And.intro hE1 hX1)
          have hd : Upto none' wr wr.drew := (Upto.refl none' _).drew
          have hua : Upto none' wr (wr.alloc (.cells #[.int .i64 0, .string (B []), .int .i64 0, .slice none 0 0] 29)).drew := ((Upto.refl none' _).alloc _).drew
          have INd := INS (fun b => b = H ∨ b = H + 1) (fun b e => .inl e) _ hd (fun b e => by show b < wr.heap.size; omega)
          have hza : ((wr.alloc (.cells #[.int .i64 0, .string (B []), .int .i64 0, .slice none 0 0] 29)).drew).heap.size = wr.heap.size + 1 := by simp
          have INa := INS (fun b => (b = H ∨ b = H + 1) ∨ b = wr.heap.size) (fun b e => e.imp (fun e => e) (fun e => Nat.le_of_eq e.symm)) _ hua (fun b e => by rw [hza]; omega)
          have S9 : Rs9 H b (o + j * 4) (.int .i64 kx) (.string (B nx)) (.int .i64 ix) (.slice ax lx cx) (.int .i64 k2) (.string (B n2)) (.int .i64 i2) (.slice s2 lu c2) wr := ⟨⟨t0, t1, t2, t3⟩, ⟨c0', c1', c2', c3'⟩⟩
          have Sd := S9.keep hd (fun x => x) (fun x => x)
          have Sa := S9.keep hua (fun x => x) (fun x => x)
          clear h1 h2 hdrop hEr hza hRu hRu' hRx' hE1 hX1 INS t0 t1 t2 t3 c0' c1' c2' c3' hRx S9
          go_upto_region 9 with fail
          go_cut [8, 9] from 34 to 42 (fun v8 v9 wc => ∃ (bb : Nat) (kk ii : Int) (nn : List UInt8) (ax' : Option Addr) (ln cp : Nat), v8 = .pointer (some ⟨bb, 0, none⟩) ∧ v9 = .int .i64 E1 ∧ wr.heap.size ≤ bb ∧ Box4 wc bb (.int .i64 kk) (.string (B nn)) (.int .i64 ii) (.slice ax' ln cp) 29 ∧ Rep (fun b => b = H ∨ b = H + 1) wc X1.dat [.int .i64 kk, .string (B nn), .int .i64 ii, .slice ax' ln cp] ∧ Upto none' wr wc)
          case first =>
            go_region_held3 (fun w' => Rs9 H b (o + j * 4) (.int .i64 kx) (.string (B nx)) (.int .i64 ix) (.slice ax lx cx) (.int .i64 k2) (.string (B n2)) (.int .i64 i2) (.slice s2 lu c2) w')
              (first | (with_reducible assumption) | (with_reducible exact Sd) | (with_reducible exact Sa) | (repeat' (first | (with_reducible assumption) | (with_reducible refine Rs9.new ?_ _) | (with_reducible refine Rs9.drew ?_) | (with_reducible refine Rs9.set4 ?_ (by (try simp only [World.size_alloc]); omega) (by (try simp only [World.size_alloc]); omega) _ _ _ _))))
              (first
                | ((go_at_call 22); (with_reducible refine INd.mono ?_); rintro e w11 ⟨k11, i11, n11, a11, len11, cap11, rfl, hR11, hU11⟩; have S11 := Sd.keep hU11 (fun x => x) (fun x => x); have hU911 := hd.and hU11; have z11 := hU911.size)
                | ((go_at_call 22); (with_reducible refine INa.mono ?_); rintro e w11 ⟨k11, i11, n11, a11, len11, cap11, rfl, hR11, hU11⟩; have S11 := Sa.keep hU11 (fun x => x) (fun x => x); have hU911 := hua.and hU11; have z11 := hU911.size; have h6 := (((Box4.at_new rfl : Box4 (wr.alloc (.cells #[.int .i64 0, .string (B []), .int .i64 0, .slice none 0 0] 29)) wr.heap.size _ _ _ _ 29).kept (Upto.refl none' _).drew).kept hU11); obtain ⟨c0, c1, c2', c3⟩ := h6.cells; obtain ⟨d0, d1, d2, d3⟩ := h6.frozens; have h6l := h6.lt))
            all_goals
              go_wp2_with fail
              go_meet
            all_goals first
              | (have h7 := h6
                 refine ⟨wr.heap.size, k11, i11, n11, a11, len11, cap11, rfl, rfl, Nat.le_refl _, h7.set.1, ?_, ?_⟩
                 · exact Rep.weaken (fun b _ e => .inl e) _ _ (Rep.keep h7.set.2 (fun b e => .inr e) _ _ hR11)
                 · exact hU911.trans h7.set.2 (fun b hb e => by omega))
              | (refine ⟨w11.heap.size, k11, i11, n11, a11, len11, cap11, rfl, rfl, z11, Box4.at_new rfl, ?_, ?_⟩
                 · exact hR11.on ((Upto.refl none' _).alloc _)
                 · exact hU911.alloc _)
          case rest =>
            obtain ⟨bb, k10, i10, n10, a10, l10, c10, rfl, rfl, hbb, hB10, hR10, hU10⟩ := hcut
            obtain ⟨w10, rfl⟩ : ∃ q, q = wc := ⟨wc, rfl⟩
            have hp10 := hp.kept hU10
            have hr10 := hrr.kept hU10
            have hset := hp10.set (d0 := .int .i64 k10) (d1 := .string (B n10)) (d2 := .int .i64 i10) (d3 := .slice a10 l10 c10)
            obtain ⟨w11, hw11⟩ : ∃ w11, w11 = ((((w10.setCell ⟨H, 0, none⟩ (.int .i64 k10)).setCell ⟨H, 1, none⟩ (.string (B n10))).setCell ⟨H, 2, none⟩ (.int .i64 i10)).setCell ⟨H, 3, none⟩ (.slice a10 l10 c10)) := ⟨_, rfl⟩
            rw [← hw11] at hset
            have hR11 := Rep.keep hset.2 (fun b e => .inl e) _ _ hR10
            have hUr10 : Upto (fun b => b = H) w7 w10 := hUr.trans hU10 (fun _ _ x => x.elim)
            have hUr11 : Upto (fun b => b = H) w7 w11 := hUr10.trans hset.2 (fun _ _ e => e)
            have HW11 := hid hw11
            obtain ⟨f0, f1, f2, f3⟩ := hp10.frozens
            obtain ⟨g0, g1, g2, g3⟩ := hp10.cells
            obtain ⟨b0, b1, b2, b3⟩ := hB10.cells
            have hlp10 := hp10.lt
            clear hw11 hR10 hp hrr hUr hU10 hd hua INd INa Sd Sa
            go_upto_region 10 with fail
            by_cases hz : E1 = 0
            · subst hz
              have h0 := HE1.out.1.symm
              have HZ := hid (And.intro h0 HE1.out.2)
              clear h0
              go_wp2_with fail
              rw [← HW11.out]
              go_roundw
              case rel =>
                refine ⟨j + 1, X1, _, _, _, _, _, _, by go_num, by omega, hset.1, hR11, ?_, by rw [HZ.out.2]; exact HJ.out.2, by rw [HZ.out.2]; exact instT_wf HZ.out.1, hUr11⟩
                rw [HJ.out.1, if_neg (by rw [HZ.out.1]; simp), HZ.out.2]
              case measure => simp [intOf]; omega
            · have hE0 : E = E1 := by rw [HE2.out, HJ.out.1, if_pos (by rw [← HE1.out.1]; exact hz), HE1.out.1]
              have H0 := hid (And.intro hE0 (show X = Tm.none0 by rw [HEX.out.2, hE0, if_neg hz]))
              have hz' : (E1 != 0) = true := by simpa using hz
              clear hE0 hz f0 f1 f2 f3 g0 g1 g2 g3 b0 b1 b2 b3
              have hset9 := hr10.set (d0 := .int .i64 0) (d1 := .string (B [])) (d2 := .int .i64 0) (d3 := .slice none 0 0)
              obtain ⟨y0, y1, y2, y3⟩ := hr10.cells
              obtain ⟨z0, z1, z2, z3⟩ := hr10.frozens
              obtain ⟨e0, e1, e2, e3⟩ := hset9.1.cells
              have HEE := hid (And.intro e0 (And.intro e1 (And.intro e2 (And.intro e3 hset9.2))))
              have hlr11 := hr10.lt
              clear e0 e1 e2 e3 hset9
              go_wp2_with fail
              obtain ⟨e0, e1, e2, e3, hset9⟩ := HEE.out
              refine bodyPost_ret (v := .tuple #[.agg #[.int .i64 0, .string (B []), .int .i64 0, .slice none 0 0], .int .i64 E1]) ?_ rfl ?_
              · simp [results, Tryz.f24, go_sem, e0, e1, e2, e3]
              · exact ⟨0, 0, [], none, 0, 0, by rw [H0.out.1], by rw [H0.out.2]; exact rep_leaf 0 [] 0, ((hUw7.trans hUr10 (fun b hb e => by have := HH.out; omega)).trans hset9 (fun b hb e => by have := HH.out; omega))⟩
        · have hje : j = us.length := by have := HL.out; omega
          rw [hje, List.drop_length] at h1 h2
          have hE0 : E = 0 := by rw [HE2.out, h1]; rfl
          have H0 := hid (And.intro hE0 (show X = x by rw [HEX.out.2, hE0, if_pos rfl, h2]; rfl))
          have hxs := (Tm.wf_ok x HXW.out).2.1
          have MV := refMove_any 0 0 (by omega) (by omega) (by omega) (by omega) x (by omega) (Tm.wf_ok x HXW.out).1 0 0 wr _ (by omega) (by omega) (by omega) (rep_pre hRx)
          rw [(Tm.shift_zero0 x HXW.out).2.2] at MV
          clear hE0 h1 h2 hje hxs
          go_wp2_with fail
          (with_reducible refine MV.mono ?_)
          rintro e w12 ⟨k12, i12, n12, a12, l12, c12, rfl, hR12, hU12⟩
          have hr12 := hrr.kept hU12
          have hset9 := hr12.set (d0 := .int .i64 k12) (d1 := .string (B n12)) (d2 := .int .i64 i12) (d3 := .slice a12 l12 c12)
          obtain ⟨y0, y1, y2, y3⟩ := hr12.cells
          obtain ⟨z0, z1, z2, z3⟩ := hr12.frozens
          obtain ⟨e0, e1, e2, e3⟩ := hset9.1.cells
          have HEE := hid (And.intro e0 (And.intro e1 (And.intro e2 (And.intro e3 hset9.2))))
          have hlr12 := hr12.lt
          clear e0 e1 e2 e3 hset9 t0 t1 t2 t3
          go_wp2_with fail
          obtain ⟨e0, e1, e2, e3, hset9⟩ := HEE.out
          refine bodyPost_ret (v := .tuple #[.agg #[.int .i64 k12, .string (B n12), .int .i64 i12, .slice a12 l12 c12], .int .i64 0]) ?_ rfl ?_
          · simp [results, Tryz.f24, go_sem, e0, e1, e2, e3]
          · exact ⟨k12, i12, n12, a12, l12, c12, by rw [H0.out.1], by rw [H0.out.2]; exact rep_pre (Rep.keep hset9 (fun b e => by omega) _ _ hR12), (((hUw7.trans hUr (fun b hb e => by have := HH.out; omega)).and hU12).trans hset9 (fun b hb e => by have := HH.out; omega))⟩
end Go.Proofs.YtdomloghcpfdjaaGreatDoor
