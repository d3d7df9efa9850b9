/- meta.expander.replace. -/
import Derived.Test.YtdomloghcpfdjaaGreatDoorRDC
import Derived.Test.YtdomloghcpfdjaaGreatDoorRFA
import Derived.Test.YtdomloghcpfdjaaGreatDoorRFF
import Derived.Test.YtdomloghcpfdjaaGreatDoorRSC
import Derived.Deep.CutRange
import Derived.Deep.RegionHeld3
namespace Go.Proofs.YtdomloghcpfdjaaGreatDoor
open Go.RowKit Go.LF
/-- What the region with Apply reads. -/
abbrev Ap7 (H vb vo Y : Nat) (h5 v0 v1 v2 v3 y0 y1 : Value) (w' : World) : Prop :=
  w'.cell? ⟨H, 5, none⟩ = some h5 ∧ (w'.cell? ⟨vb, vo, none⟩ = some v0 ∧ w'.cell? ⟨vb, vo + 1, none⟩ = some v1 ∧ w'.cell? ⟨vb, vo + 2, none⟩ = some v2 ∧ w'.cell? ⟨vb, vo + 3, none⟩ = some v3) ∧ (w'.cell? ⟨Y, 0, none⟩ = some y0 ∧ w'.cell? ⟨Y, 1, none⟩ = some y1)
theorem Ap7.keep {S : Nat → Prop} {H vb vo Y : Nat} {h5 v0 v1 v2 v3 y0 y1 : Value} {w w' : World} (h : Ap7 H vb vo Y h5 v0 v1 v2 v3 y0 y1 w) (hU : Upto S w w') (h1 : ¬ S H) (h2 : ¬ S vb) (h3 : ¬ S Y) : Ap7 H vb vo Y h5 v0 v1 v2 v3 y0 y1 w' := by
  obtain ⟨a0, ⟨b0, b1, b2, b3⟩, c0, c1⟩ := h
  exact ⟨hU.cell a0 h1, ⟨hU.cell b0 h2, hU.cell b1 h2, hU.cell b2 h2, hU.cell b3 h2⟩, hU.cell c0 h3, hU.cell c1 h3⟩
theorem Ap7.new {H vb vo Y : Nat} {h5 v0 v1 v2 v3 y0 y1 : Value} {w : World} (h : Ap7 H vb vo Y h5 v0 v1 v2 v3 y0 y1 w) (o : Obj) : Ap7 H vb vo Y h5 v0 v1 v2 v3 y0 y1 (w.alloc o) := h.keep ((Upto.refl none' w).alloc o) (fun x => x) (fun x => x) (fun x => x)
theorem Ap7.set4 {r H vb vo Y : Nat} {h5 v0 v1 v2 v3 y0 y1 : Value} {w : World} (h : Ap7 H vb vo Y h5 v0 v1 v2 v3 y0 y1 w) (h1 : ¬ H = r) (h2 : ¬ vb = r) (h3 : ¬ Y = r) (d0 d1 d2 d3 : Value) :
    Ap7 H vb vo Y h5 v0 v1 v2 v3 y0 y1 ((((w.setCell ⟨r, 0, none⟩ d0).setCell ⟨r, 1, none⟩ d1).setCell ⟨r, 2, none⟩ d2).setCell ⟨r, 3, none⟩ d3) :=
  h.keep (Upto.set (Upto.set (Upto.set (Upto.set (Upto.refl _ _) 0 _) 1 _) 2 _) 3 _) h1 h2 h3
set_option maxRecDepth 100000 in
set_option maxHeartbeats 16000000 in
theorem exReplace_step (l : List Mv) (hG : StG l) (n : Nat) (EX : ∀ t, ExOn l n t) : RpAt l n := by
  intro m us c xb O w la lc cs ua uc hn hc hml hmv hul huc hus hOx hO hX hL hR hE
  obtain ⟨v, hv1⟩ : ∃ v, m.value = [v] := by
    have h1 := (hG.mv m hml).one
    match hm' : m.value, hmv with
    | [v], _ => exact ⟨v, rfl⟩
    | a :: b :: r, _ => rw [hm'] at h1; simp at h1
  have hvo := (hG.mv m hml).val v (by rw [hv1]; simp)
  have hkv := (hG.mv m hml).kn.2 v (by rw [hv1]; simp)
  obtain ⟨hty, hts⟩ := (hG.mv m hml).typ
  obtain ⟨k, nm, i, aa, cap, va, vc, rfl, hRt, hvc, hV⟩ := mv_open hR
  rw [hv1] at hV hvc hR
  simp only [List.length_cons, List.length_nil, Nat.zero_add] at hvc
  rw [show m.value.length = 1 by rw [hv1]; rfl]
  obtain ⟨w1, hw1⟩ : ∃ w1, w1 = (w.alloc (.cells #[.string (B m.name), .int .i64 k, .string (B nm), .int .i64 i, .slice aa m.type.args.length cap, .slice va 1 vc] 53)).alloc (.cells #[.int .i64 0, .string (B []), .int .i64 0, .slice none 0 0] 29) := ⟨_, rfl⟩
  have hU1 : Upto none' w w1 := by rw [hw1]; exact ((Upto.refl none' w).alloc _).alloc _
  have hm1 : Box6 w1 w.heap.size (.string (B m.name)) (.int .i64 k) (.string (B nm)) (.int .i64 i) (.slice aa m.type.args.length cap) (.slice va 1 vc) 53 := by rw [hw1]; exact (Box6.at_new rfl).kept ((Upto.refl none' _).alloc _)
  have hr1 : Box4 w1 (w.heap.size + 1) (.int .i64 0) (.string (B [])) (.int .i64 0) (.slice none 0 0) 29 := by rw [hw1]; exact Box4.at_new (by simp)
  have hX1 := hX.kept hU1
  have hL1 := (RepE.fresh' _ _ _ _ hL).on hU1
  have hE1 := (RepE.fresh' _ _ _ _ hE).on hU1
  have hRt1 := (Rep.fresh' _ _ hRt).on hU1
  have hV1 := (RepE.fresh' _ _ _ _ hV).on hU1
  obtain ⟨H, hH⟩ : ∃ H, H = w.heap.size := ⟨_, rfl⟩
  have HW := hid hw1
  have HH := hid hH
  rw [← hH] at hm1 hr1 hL1 hE1 hRt1 hV1
  have hO' : ∀ b, O b → b < H := by rw [hH]; exact hO
  have hxH : xb < H := hO' xb hOx
  have HO := hid hO'
  have hwft := small_typ_wf hty hts
  have hsw : (Tm.er m.type).wt ≤ 1000000 := by
    have h1 := (Tm.er_wt m.type).1
    have h2 := Tm.wf_wt65 hwft
    have h3 := (Tm.wf_any3 hwft).2.1
    omega
  have here : m.type.erE = 0 := by unfold Tm.erE; rw [if_neg (by rw [hwft]; simp), hty]; simp
  have hmtw : m.type.wt ≤ 1000000 := by have := Tm.wf_wt65 hwft; omega
  have ER := fun (W : World) h => eraseF_any m.type hmtw W [.int .i64 k, .string (B nm), .int .i64 i, .slice aa m.type.args.length cap] h
  rw [show m.type.erV = m.type.er by unfold Tm.erV; rw [if_pos here], here] at ER
  have hvw : v.wt ≤ 1000000 := by have := Tm.small_wt hvo.1 hvo.2; omega
  have huw : ∀ u ∈ us, u.wt ≤ 1000000 := fun u hu => by have := Tm.small_wt (hus u hu).1 (hus u hu).2.1; omega
  obtain ⟨R, hRR⟩ : ∃ R, R = exR l n m us c := ⟨_, rfl⟩
  rw [← hRR]
  unfold exR at hRR
  rw [show m.value.headD Tm.none0 = v by rw [hv1]; rfl] at hRR
  have hgood : appE v m.type.er us = 0 → (appT v m.type.er us).wf = 0 ∧ Kn l.length (appT v m.type.er us) := fun he => by
    obtain ⟨h1, h2⟩ := appT_obj he
    exact ⟨Tm.small_wf h1 h2, appT_nal kn_var kn_none hkv ((Tm.nalA_iff us).2 fun u hu => (hus u hu).2.2)⟩
  have AP := fun (Q : Nat) (W : World) (hq : ∀ b, (O b ∨ b = H ∨ b = H + 1 ∨ b = Q) → b < W.heap.size) (hc0 : List Value) (hs0 : List Value) h1 h2 h3 => applyF_any (fun b => O b ∨ b = H ∨ b = H + 1 ∨ b = Q) v m.type.er us hvw huw hsw (by omega) W hq hc0 hs0 ua uc h1 h2 h3
  obtain ⟨aE, haE⟩ : ∃ aE, aE = appE v m.type.er us := ⟨_, rfl⟩
  obtain ⟨aT, haT⟩ : ∃ aT, aT = appT v m.type.er us := ⟨_, rfl⟩
  rw [← haE, ← haT] at hRR hgood AP
  have EXa := EX aT
  generalize m.type.er = sm at *
  generalize m.type.args.length = al at *
  generalize m.name = mn at *
  obtain ⟨ul, hul'⟩ : ∃ ul, ul = us.length := ⟨_, rfl⟩
  rw [← hul'] at AP
  rw [← hul']
  obtain ⟨ll, hll⟩ : ∃ ll, ll = l.length := ⟨_, rfl⟩
  rw [← hll] at hX1 hX
  rw [← hll]
  have HP := hid (And.intro hRR (And.intro hgood (And.intro hll hn)))
  have hz1 : H + 2 ≤ w1.heap.size := by have := hr1.lt; omega
  have hci : (c : Int) ≤ 16384 := by omega
  have hc0 : (0 : Int) ≤ (c : Int) := by omega
  clear hw1 hH hX hL hR hE hRt hV hO hO' hRR hgood hul' hll haE haT EX hn hmv hv1 hus hvo hkv hty hts hwft hmtw here hvw huw hsw
  obtain ⟨q0, q1⟩ := hX1.cells
  obtain ⟨p0, p1⟩ := hX1.frozens
  have hxl := hX1.lt
  go_enter Tryz.func176, Tryz.ntmps176
  go_upto_region 1 with fail
  rw [← show B [] = { data := #[] } from rfl, ← HW.out, ← HH.out]
  obtain ⟨w2, hw2⟩ : ∃ w2, w2 = w1.setCell ⟨xb, 1, none⟩ (.int .i64 ((c : Int) + 1)) := ⟨_, rfl⟩
  have hset2 : Upto (fun b => b = xb) w1 w2 := by rw [hw2]; exact Upto.set (Upto.refl _ _) 1 _
  have hX2 : Box2 w2 xb (.slice la ll lc) (.int .i64 ((c : Int) + 1)) 121 := by rw [hw2]; exact hX1.set1 _
  have hm2 := hm1.keep hset2 (by omega)
  have hr2 := hr1.keep hset2 (by omega)
  have hU2 : Upto (fun b => b = xb) w w2 := (hU1.mono (fun _ _ e => e.elim)).trans hset2 (fun _ _ e => e)
  have hsub : ∀ b, b = xb → (O b ∨ H ≤ b) := fun b e => .inl (e ▸ hOx)
  have hL2 := RepE.keep hset2 hsub _ _ _ _ hL1
  have hE2 := RepE.keep hset2 hsub _ _ _ _ hE1
  have hRt2 := Rep.keep hset2 hsub _ _ hRt1
  have hV2 := RepE.keep hset2 hsub _ _ _ _ hV1
  have HW2 := hid hw2
  have hlow : H + 1 < w2.heap.size := hr2.lt
  have hz2 := hset2.size
  clear hw2 hX1 hm1 hr1 hU1 hL1 hE1 hRt1 hV1
  go_upto_region 2 with fail
  rw [← HW2.out]
  clear q0 q1 p0 p1
  obtain ⟨q0, q1⟩ := hX2.cells
  obtain ⟨m0, m1, m2, m3, m4, m5⟩ := hm2.cells
  by_cases hbig : 16384 < c + 1
  · have hR2 : R = ⟨2, Tm.none0, c + 1⟩ := by rw [HP.out.1, if_pos hbig]
    have HR := hid hR2
    have hbi : (16384 : Int) < (c : Int) + 1 := by omega
    obtain ⟨y0, y1, y2, y3⟩ := hr2.cells
    obtain ⟨z0, z1, z2, z3⟩ := hr2.frozens
    have hset := hr2.set (d0 := .int .i64 0) (d1 := .string (B [])) (d2 := .int .i64 0) (d3 := .slice none 0 0)
    have HEE := hid hset
    clear hset hR2 hbig
    go_wp2_with fail
    obtain ⟨hb9, hset⟩ := HEE.out
    obtain ⟨e0, e1, e2, e3⟩ := hb9.cells
    refine bodyPost_ret (v := .tuple #[.agg #[.int .i64 0, .string (B []), .int .i64 0, .slice none 0 0], .int .i64 2]) ?_ rfl ?_
    · simp [results, Tryz.f176, go_sem, e0, e1, e2, e3]
    · exact ex_fin (r0 := H + 1) (by rw [HR.out]) (by rw [HR.out]; exact rep_leaf 0 [] 0) (by rw [HR.out]; exact hX2) hU2 hset (by have := HH.out; omega) (by have := HH.out; omega)
  have HR0 := hid (show R = if aE ≠ 0 then ⟨aE, Tm.none0, c + 1⟩ else exF l n aT (c + 1) by rw [HP.out.1, if_neg hbig])
  have hbi : ¬ (16384 : Int) < (c : Int) + 1 := by omega
  have hbg : c + 1 ≤ 16384 := by omega
  have ER2 := ER w2 (Rep.weaken (fun _ _ x => x.elim) _ _ hRt2)
  clear hbig ER hRt2
  go_wp2_with fail
  (with_reducible refine ER2.mono ?_)
  rintro e w6 ⟨f, sa, sl, sc, rfl, hS6, hU6⟩
  have hz6 := hU6.size
  obtain ⟨w7, hw7⟩ : ∃ w7, w7 = w6.alloc (.cells #[.string (B f), .slice sa sl sc] 33) := ⟨_, rfl⟩
  have hUa : Upto none' w6 w7 := by rw [hw7]; exact (Upto.refl none' _).alloc _
  have hy7 : Box2 w7 w6.heap.size (.string (B f)) (.slice sa sl sc) 33 := by rw [hw7]; exact Box2.at_new rfl
  obtain ⟨Y, hY⟩ : ∃ Y, Y = w6.heap.size := ⟨_, rfl⟩
  have hS7 := (Rep.fresh' _ _ hS6).on hUa
  rw [← hY] at hy7 hz6 hS7
  have HW7 := hid hw7
  have HY := hid hY
  have hU27 : Upto none' w2 w7 := hU6.and hUa
  have hm7 := hm2.kept hU27
  have hr7 := hr2.kept hU27
  have hX7 := hX2.kept hU27
  have hU7 : Upto (fun b => b = xb) w w7 := hU2.trans hU27 (fun _ _ e => e.elim)
  have hL7 := hL2.on hU27
  have hE7 := hE2.on hU27
  have hV7 := hV2.on hU27
  clear hw7 hY hS6 q0 q1 m0 m1 m2 m3 m4 m5 hm2 hr2 hX2 hL2 hE2 hV2 hU6 hUa ER2
  obtain ⟨vb, vo, vk, vn, vi, vs, vz, rfl, hvb, hvbO, b0, b1, b2, b3, hRv⟩ := arg_tm hV7 0 (by simp)
  simp only [Nat.zero_mul, Nat.add_zero, List.getElem_cons_zero] at b0 b1 b2 b3 hRv
  generalize v.args.length = vl at *
  have hz27 := hU27.size
  have hYl := hy7.lt
  have hYH : H + 1 < Y := by omega
  have hd : Upto none' w7 w7.drew := (Upto.refl none' w7).drew
  have ha : Upto none' w7 (w7.alloc (.cells #[.int .i64 0, .string (B []), .int .i64 0, .slice none 0 0] 29)).drew := ((Upto.refl none' _).alloc _).drew
  have wk : ∀ Q, Y ≤ Q → ∀ b, b < w7.heap.size → (O b ∨ b = H ∨ b = H + 1 ∨ b = Q) → (O b ∨ H ≤ b) := fun Q hQ b _ e => by rcases e with e | e | e | e; (exact .inl e); all_goals exact .inr (by omega)
  have wkS : ∀ Q, Y ≤ Q → ∀ b, b < w7.heap.size → (O b ∨ b = H ∨ b = H + 1 ∨ b = Q) → (b < w2.heap.size ∨ Y ≤ b) := fun Q hQ b _ e => by have h0 := HO.out b; rcases e with e | e | e | e; (have := h0 e; exact .inl (by omega)); (exact .inl (by omega)); (exact .inl (by omega)); exact .inr (by omega)
  have APm := fun (Q : Nat) (hQ : Y ≤ Q) (W : World) (hu : Upto none' w7 W) (hq : Q < W.heap.size) => AP Q W (fun b e => by have h0 := HO.out b; have := hu.size; rcases e with e | e | e | e; (have := h0 e; omega); all_goals omega)
    [.int .i64 vk, .string (B vn), .int .i64 vi, .slice vs vl vz] [.string (B f), .slice sa sl sc] ((Rep.weaken (wk Q hQ) _ _ hRv).on hu) ((Rep.weaken (wkS Q hQ) _ _ hS7).on hu) ((RepE.weaken (wk Q hQ) _ _ _ _ hE7).on hu)
  have APd := APm Y (Nat.le_refl _) _ hd (by have := hd.size; omega)
  have APa := APm w7.heap.size (by omega) _ ha (by show w7.heap.size < (World.drew _).heap.size; simp)
  have Sc : Ap7 H vb vo Y (.slice (some ⟨vb, vo, none⟩) 1 vc) (.int .i64 vk) (.string (B vn)) (.int .i64 vi) (.slice vs vl vz) (.string (B f)) (.slice sa sl sc) w7 := ⟨hm7.cells.2.2.2.2.2, ⟨b0, b1, b2, b3⟩, hy7.cells⟩
  have Sd := Sc.keep hd (fun x => x) (fun x => x) (fun x => x)
  have Sa := Sc.keep ha (fun x => x) (fun x => x) (fun x => x)
  clear b0 b1 b2 b3 hS7 hV7 hRv wk wkS APm AP
  go_upto_region 7 with fail
  rw [← HW7.out, ← HY.out]
  go_cut [10, 9] from 34 to 43 (fun v10 v9 wc => ∃ (b : Nat) (k9 i9 : Int) (n9 : List UInt8) (a9 : Option Addr) (l9 c9 : Nat), v10 = .pointer (some ⟨b, 0, none⟩) ∧ v9 = .int .i64 aE ∧ Y < b ∧ Box4 wc b (.int .i64 k9) (.string (B n9)) (.int .i64 i9) (.slice a9 l9 c9) 29 ∧ Rep (fun x => O x ∨ x = H ∨ x = H + 1 ∨ x = b) wc aT.dat [.int .i64 k9, .string (B n9), .int .i64 i9, .slice a9 l9 c9] ∧ Upto none' w7 wc)
  case first =>
    go_region_held3 (fun w' => Ap7 H vb vo Y (.slice (some ⟨vb, vo, none⟩) 1 vc) (.int .i64 vk) (.string (B vn)) (.int .i64 vi) (.slice vs vl vz) (.string (B f)) (.slice sa sl sc) w')
      (first | (with_reducible assumption) | (with_reducible exact Sd) | (with_reducible exact Sa) | (repeat' (first | (with_reducible assumption) | (with_reducible refine Ap7.new ?_ _) | (with_reducible refine Ap7.set4 ?_ (by (try simp only [World.size_alloc]); omega) (by (try simp only [World.size_alloc]); omega) (by (try simp only [World.size_alloc]); omega) _ _ _ _))))
      (first
        | ((go_at_call 19); (with_reducible refine APd.mono ?_); rintro e w11 ⟨k11, i11, n11, a11, len11, cap11, rfl, hR11, hU11⟩; have S11 := Sd.keep hU11 (fun x => x) (fun x => x) (fun x => x); have hU811 := hd.and hU11; have z11 := hU811.size)
        | ((go_at_call 19); (with_reducible refine APa.mono ?_); rintro e w11 ⟨k11, i11, n11, a11, len11, cap11, rfl, hR11, hU11⟩; have S11 := Sa.keep hU11 (fun x => x) (fun x => x) (fun x => x); have hU811 := ha.and hU11; have z11 := hU811.size; have h6 := (((Box4.at_new rfl : Box4 (w7.alloc (.cells #[.int .i64 0, .string (B []), .int .i64 0, .slice none 0 0] 29)) w7.heap.size _ _ _ _ 29).kept (Upto.refl none' _).drew).kept hU11); obtain ⟨c0, c1, c2, c3⟩ := h6.cells; obtain ⟨d0, d1, d2, d3⟩ := h6.frozens; have h6l := h6.lt))
    all_goals
      go_wp2_with fail
      go_meet
    all_goals first
      | (have h7 := h6
         refine ⟨w7.heap.size, k11, i11, n11, a11, len11, cap11, rfl, rfl, by omega, h7.set.1, ?_, ?_⟩
         · exact Rep.keep h7.set.2 (fun b e => .inr (.inr (.inr e))) _ _ hR11
         · exact hU811.trans h7.set.2 (fun b hb e => by omega))
      | (refine ⟨w11.heap.size, k11, i11, n11, a11, len11, cap11, rfl, rfl, by omega, Box4.at_new rfl, ?_, ?_⟩
         · exact (Rep.weaken (fun b hb e => by rcases e with e | e | e | e; (exact .inl e); (exact .inr (.inl e)); (exact .inr (.inr (.inl e))); omega) _ _ hR11).on ((Upto.refl none' _).alloc _)
         · exact hU811.alloc _)
  case rest =>
    obtain ⟨b, k9, i9, n9, a9, l9, c9, rfl, rfl, hYb, hB9, hR9, hU79⟩ := hcut
    obtain ⟨w9, rfl⟩ : ∃ q, q = wc := ⟨wc, rfl⟩
    have hr9 := hr7.kept hU79
    have hX9 := hX7.kept hU79
    have hU9 : Upto (fun b => b = xb) w w9 := hU7.trans hU79 (fun _ _ e => e.elim)
    have hL9 := hL7.on hU79
    have hz79 := hU79.size
    clear Sc Sd Sa APd APa hd ha hr7 hX7 hm7 hy7 hU27 hE7
    by_cases hae : aE = 0
    case neg =>
      have hR2 : R = ⟨aE, Tm.none0, c + 1⟩ := by rw [HR0.out, if_pos hae]
      have HR := hid hR2
      have hae' : (aE != 0) = true := by simpa using hae
      clear hae hR2
      obtain ⟨y0, y1, y2, y3⟩ := hr9.cells
      obtain ⟨z0, z1, z2, z3⟩ := hr9.frozens
      have qr := hr9.lt
      have hset := hr9.set (d0 := .int .i64 0) (d1 := .string (B [])) (d2 := .int .i64 0) (d3 := .slice none 0 0)
      have HEE := hid hset
      clear hset
      go_wp2_with fail
      obtain ⟨hb9, hset⟩ := HEE.out
      obtain ⟨e0, e1, e2, e3⟩ := hb9.cells
      refine bodyPost_ret (v := .tuple #[.agg #[.int .i64 0, .string (B []), .int .i64 0, .slice none 0 0], .int .i64 aE]) ?_ rfl ?_
      · simp [results, Tryz.f176, go_sem, e0, e1, e2, e3]
      · exact ex_fin (r0 := H + 1) (by rw [HR.out]) (by rw [HR.out]; exact rep_leaf 0 [] 0) (by rw [HR.out]; exact hX9) hU9 hset (by have := HH.out; omega) (by have := HH.out; omega)
    subst hae
    have hR2 : R = exF l n aT (c + 1) := by rw [HR0.out, if_neg (by simp)]
    obtain ⟨hwf, hkn⟩ := HP.out.2.1 rfl
    have EXc := EXa (c + 1) xb (fun x => O x ∨ x = H + 1) w9 la lc [.int .i64 k9, .string (B n9), .int .i64 i9, .slice a9 l9 c9] (by have := HP.out.2.2.2; omega) hbg hwf hkn (.inl hOx)
      (fun b e => by have h0 := HO.out b; rcases e with e | e; (have := h0 e; omega); omega) (by rw [← HP.out.2.2.1]; exact hX9)
      (RepE.weaken (fun b _ e => by rcases e with e | e; (exact .inl e); exact .inr (by omega)) _ _ _ _ hL9)
      (Rep.weaken (fun b _ e => by rcases e with e | e; (exact .inl e); exact .inr (.inr (.inl e))) _ _ hR9)
    rw [← HP.out.2.2.1, ← hR2] at EXc
    obtain ⟨t0, t1, t2, t3⟩ := hB9.cells
    clear hR2
    go_wp2_with fail
    (with_reducible refine EXc.mono ?_)
    rintro e w10 ⟨k10, i10, n10, a10, l10, c10, rfl, hR10, hX10, hU10⟩
    have hr10 := hr9.keep hU10 (by omega)
    obtain ⟨y0, y1, y2, y3⟩ := hr10.cells
    obtain ⟨z0, z1, z2, z3⟩ := hr10.frozens
    have qr := hr10.lt
    have hset := hr10.set (d0 := .int .i64 k10) (d1 := .string (B n10)) (d2 := .int .i64 i10) (d3 := .slice a10 l10 c10)
    have HEE := hid hset
    have HQ := hid (And.intro hR10 (And.intro hX10 hU10))
    clear hset t0 t1 t2 t3 hR10 hX10 hU10 EXc hr10
    go_wp2_with fail
    obtain ⟨hb9, hset⟩ := HEE.out
    obtain ⟨e0, e1, e2, e3⟩ := hb9.cells
    refine bodyPost_ret (v := .tuple #[.agg #[.int .i64 k10, .string (B n10), .int .i64 i10, .slice a10 l10 c10], .int .i64 R.e]) ?_ rfl ?_
    · simp [results, Tryz.f176, go_sem, e0, e1, e2, e3]
    · exact ex_fin (r0 := H + 1) rfl HQ.out.1 HQ.out.2.1 (hU9.trans HQ.out.2.2 (fun _ _ e => e)) hset (by have := HH.out; omega) (by have := HH.out; omega)
end Go.Proofs.YtdomloghcpfdjaaGreatDoor
namespace Go.Proofs.YtdomloghcpfdjaaGreatDoor
open Go.RowKit Go.LF
theorem exOn_all (l : List Mv) (hG : StG l) (n : Nat) : ∀ t, ExOn l n t := by
  induction n with
  | zero => intro t c xb O w la lc cs h1 h2; omega
  | succ n ih => exact fun t => exTerm_step l hG n (exReplace_step l hG n ih) t
set_option maxHeartbeats 1000000 in
theorem expand1_any (b : Nat) (la : Option Addr) (ll lc : Nat) (x : Int) (w : World) (hb : w.cell? ⟨b, 0, none⟩ = some (.slice la ll lc)) :
    Calls Tryz.prog 99 #[.int .i64 x, .pointer (some ⟨b, 0, none⟩)] w fun e w' => e = .returned (.bool (decide ((ll : Int) ≤ x))) ∧ Upto none' w w' := by
  go_enter Tryz.func99, Tryz.ntmps99
  go_wp2_with fail
  go_ret
  exact ⟨rfl, Upto.refl _ _⟩
set_option maxRecDepth 100000 in
set_option maxHeartbeats 8000000 in
theorem expand_any (O : Nat → Prop) (l : List Mv) (hG : StG l) (t : Tm) (hwt : t.wt ≤ 1000000) (hkn : t.wf = 0 → (∀ i ∈ Tm.metas t, i < l.length) → Kn l.length t) (w : World) (hO : ∀ b, O b → b < w.heap.size) (la : Option Addr) (lc : Nat) (cs : List Value) (hL : RepE O w 6 (l.map Mv.dat) la 0) (h : Rep O w t.dat cs) :
    Calls Tryz.prog 36 #[.slice la l.length lc, .agg cs.toArray] w (GivesE O (expE l t) (expT l t) w) := by
  obtain ⟨k, nm, i, ts, aa, cap, ht, rfl, _, _⟩ := tm_open h
  generalize ts.length = len at *
  obtain ⟨w1, hw1⟩ : ∃ w1, w1 = ((w.alloc (.cells #[.slice la l.length lc] 44)).alloc (.cells #[.int .i64 k, .string (B nm), .int .i64 i, .slice aa len cap] 29)).alloc (.cells #[.int .i64 0, .string (B []), .int .i64 0, .slice none 0 0] 29) := ⟨_, rfl⟩
  have hU1 : Upto none' w w1 := by rw [hw1]; exact (((Upto.refl none' w).alloc _).alloc _).alloc _
  have hl1 : Box1 w1 w.heap.size (.slice la l.length lc) 44 := by rw [hw1]; exact ((Box1.at_new rfl).kept ((Upto.refl none' _).alloc _)).kept ((Upto.refl none' _).alloc _)
  have ha1 : Box4 w1 (w.heap.size + 1) (.int .i64 k) (.string (B nm)) (.int .i64 i) (.slice aa len cap) 29 := by rw [hw1]; exact (Box4.at_new (by simp)).kept ((Upto.refl none' _).alloc _)
  have hr1 : Box4 w1 (w.heap.size + 1 + 1) (.int .i64 0) (.string (B [])) (.int .i64 0) (.slice none 0 0) 29 := by rw [hw1]; exact Box4.at_new (by simp)
  have hR1 := (Rep.fresh' _ _ h).on hU1
  have hL1 := (RepE.fresh' _ _ _ _ hL).on hU1
  have WF := wellFormed_any t hwt w1 _ (Rep.weaken (fun _ _ x => x.elim) _ _ hR1)
  have MT := fun (W : World) (hu : Upto none' w1 W) => metas_any t hwt W _ (Rep.weaken (fun _ _ x => x.elim) _ _ (hR1.on hu))
  have hml : (Tm.metas t).length ≤ 1000000 := Nat.le_trans (metas_len13 t) hwt
  obtain ⟨H, hH⟩ : ∃ H, H = w.heap.size := ⟨_, rfl⟩
  have HH := hid hH
  rw [← hH] at hl1 ha1 hr1 hR1 hL1
  have hO' : ∀ b, O b → b < H := by rw [hH]; exact hO
  obtain ⟨E, hE⟩ : ∃ E, E = expE l t := ⟨_, rfl⟩
  obtain ⟨X, hX⟩ : ∃ X, X = expT l t := ⟨_, rfl⟩
  rw [← hE, ← hX]
  unfold expT at hX
  rw [← hE] at hX
  unfold expE at hE
  obtain ⟨ll, hll⟩ : ∃ ll, ll = l.length := ⟨_, rfl⟩
  rw [← hll] at hE hl1 hw1
  rw [← hll]
  have HW := hid hw1
  obtain ⟨q, hq⟩ : ∃ q, q = t.wf := ⟨_, rfl⟩
  rw [← hq] at WF hE
  have hcall : ∀ args w, Sem.run Tryz.prog (callFunc 99 args) w = .ok (Next.enter 99 args) w := Tryz.call99
  have CI := fun (W : World) (hu : Upto none' w1 W) va vc hEv => containsInt_any 99 (.pointer (some ⟨H, 0, none⟩)) (fun i => decide ((ll : Int) ≤ i)) hml W (fun x _ W' hu' => expand1_any H la ll lc x W' ((hl1.kept (hu.and hu')).cell)) hcall va vc hEv
  obtain ⟨ob, hob⟩ : ∃ ob, ob = (Tm.metas t).any (fun i => decide ((ll : Int) ≤ i)) := ⟨_, rfl⟩
  rw [← hob] at hE CI
  have HP := hid (And.intro hE (And.intro hX (And.intro hll (And.intro hq hob))))
  have HO := hid hO'
  have HKN := hid hkn
  have hz1 := hr1.lt
  obtain ⟨ml, hml'⟩ : ∃ ml, ml = (Tm.metas t).length := ⟨_, rfl⟩
  rw [← hml'] at CI
  have HML := hid hml'
  clear hw1 hH hL h hO hO' hE hX hll hq hob hml' ht hcall hkn hwt
  obtain ⟨t0, t1, t2, t3⟩ := ha1.cells
  go_enter Tryz.func36, Tryz.ntmps36
  go_upto_region 1 with fail
  rw [← show B [] = { data := #[] } from rfl, ← HW.out, ← HH.out]
  go_wp2_with fail
  (with_reducible refine WF.mono ?_)
  rintro e w2 ⟨rfl, hU2⟩
  have hr2 := hr1.kept hU2
  clear t0 t1 t2 t3 WF
  obtain ⟨t0, t1, t2, t3⟩ := (ha1.kept hU2).cells
  have bad : ∀ (z : Int) (W W' : World), z ≠ 0 → E = z → Upto none' w1 W → Upto (fun b => b = H + 1 + 1) W W' → GivesE O E X w (.returned (.tuple #[.agg #[.int .i64 0, .string (B []), .int .i64 0, .slice none 0 0], .int .i64 z])) W' := by
    intro z W W' hz hEz hu hset
    refine ⟨0, 0, [], none, 0, 0, by rw [hEz], ?_, (hU1.and hu).trans hset (fun b hb e => by have := HH.out; omega)⟩
    rw [HP.out.2.1, if_neg (by rw [hEz]; exact hz)]
    exact rep_leaf 0 [] 0
  have HB := hid bad
  clear bad
  by_cases hq0 : q = 0
  case neg =>
    have hz : E = q := by rw [HP.out.1, if_pos hq0]
    have HZ := hid (And.intro hz hq0)
    have hq' : (q != 0) = true := by simpa using hq0
    obtain ⟨y0, y1, y2, y3⟩ := hr2.cells
    obtain ⟨z0, z1, z2, z3⟩ := hr2.frozens
    have qr := hr2.lt
    have hset := hr2.set (d0 := .int .i64 0) (d1 := .string (B [])) (d2 := .int .i64 0) (d3 := .slice none 0 0)
    have HEE := hid hset
    clear hset hz hq0
    go_wp2_with fail
    obtain ⟨hb9, hset⟩ := HEE.out
    obtain ⟨e0, e1, e2, e3⟩ := hb9.cells
    refine bodyPost_ret (v := .tuple #[.agg #[.int .i64 0, .string (B []), .int .i64 0, .slice none 0 0], .int .i64 q]) ?_ rfl ?_
    · simp [results, Tryz.f36, go_sem, e0, e1, e2, e3]
    · exact HB.out q w2 _ HZ.out.2 HZ.out.1 hU2 hset
  subst hq0
  have MT2 := MT w2 hU2
  clear MT
  go_wp2_with fail
  (with_reducible refine MT2.mono ?_)
  rintro e w3 ⟨v, rfl, hI, hU3⟩
  obtain ⟨va, vc, rfl, hvc, hEv⟩ := ints_open hI.rep
  have hU23 := hU2.and hU3
  have CI3 := CI w3 hU23 va vc (RepE.weaken (fun _ _ x => x.elim) _ _ _ _ hEv)
  rw [← HML.out]
  clear hI t0 t1 t2 t3 MT2 hvc CI
  go_wp2_with fail
  (with_reducible refine CI3.mono ?_)
  rintro e w4 ⟨rfl, hU4⟩
  have hU14 := hU23.and hU4
  have hr4 := hr1.kept hU14
  obtain ⟨t0, t1, t2, t3⟩ := (ha1.kept hU14).cells
  have k1 := (hl1.kept hU14).cell
  clear CI3 hr2
  cases ob
  case true =>
    have HZ := hid (show E = 3 by rw [HP.out.1, if_neg (by simp), if_pos rfl])
    obtain ⟨y0, y1, y2, y3⟩ := hr4.cells
    obtain ⟨z0, z1, z2, z3⟩ := hr4.frozens
    have qr := hr4.lt
    have hset := hr4.set (d0 := .int .i64 0) (d1 := .string (B [])) (d2 := .int .i64 0) (d3 := .slice none 0 0)
    have HEE := hid hset
    clear hset
    go_wp2_with fail
    obtain ⟨hb9, hset⟩ := HEE.out
    obtain ⟨e0, e1, e2, e3⟩ := hb9.cells
    refine bodyPost_ret (v := .tuple #[.agg #[.int .i64 0, .string (B []), .int .i64 0, .slice none 0 0], .int .i64 3]) ?_ rfl ?_
    · simp [results, Tryz.f36, go_sem, e0, e1, e2, e3]
    · exact HB.out 3 w4 _ (by decide) HZ.out hU14 hset
  case false =>
    have hE2 : E = (exF l 16385 t 0).e := by rw [HP.out.1, if_neg (by simp), if_neg (by simp)]
    have hwf : t.wf = 0 := HP.out.2.2.2.1.symm
    have hms : ∀ i ∈ Tm.metas t, i < (l.length : Int) := by
      intro i hi
      have h := HP.out.2.2.2.2
      by_cases hc : (ll : Int) ≤ i
      · have : (Tm.metas t).any (fun i => decide ((ll : Int) ≤ i)) = true := List.any_eq_true.2 ⟨i, hi, decide_eq_true hc⟩
        rw [← h] at this
        cases this
      · have := HP.out.2.2.1; omega
    obtain ⟨w5, hw5⟩ : ∃ w5, w5 = w4.alloc (.cells #[.slice la ll lc, .int .i64 0] 121) := ⟨_, rfl⟩
    have hU5 : Upto none' w4 w5 := by rw [hw5]; exact (Upto.refl none' _).alloc _
    have hX5 : Box2 w5 w4.heap.size (.slice la ll lc) (.int .i64 ((0 : Nat) : Int)) 121 := by rw [hw5]; exact Box2.at_new rfl
    have hU15 := hU14.and hU5
    have hz14 := hU14.size
    have wk : ∀ b, b < w1.heap.size → (O b ∨ b = H + 1 + 1 ∨ b = w4.heap.size) → (O b ∨ H ≤ b) := fun b _ e => by rcases e with e | e | e; (exact .inl e); all_goals exact .inr (by omega)
    have EX := exOn_all l hG 16385 t 0 w4.heap.size (fun b => O b ∨ b = H + 1 + 1 ∨ b = w4.heap.size) w5 la lc [.int .i64 k, .string (B nm), .int .i64 i, .slice aa len cap] (by omega) (by omega) hwf (HKN.out hwf hms) (.inr (.inr rfl))
      (fun b e => by have h0 := HO.out b; have h1 := hX5.lt; rcases e with e | e | e; (have := h0 e; omega); all_goals omega) (by rw [← HP.out.2.2.1]; exact hX5) ((RepE.weaken wk _ _ _ _ hL1).on hU15) ((Rep.weaken wk _ _ hR1).on hU15)
    rw [← HP.out.2.2.1] at EX
    obtain ⟨R, hR⟩ : ∃ R, R = exF l 16385 t 0 := ⟨_, rfl⟩
    rw [← hR] at EX hE2
    have hXR : X = if E = 0 then R.t else Tm.none0 := by rw [HP.out.2.1, hR]
    have hn0 : R.e ≠ 0 → R.t = Tm.none0 := fun h => by rw [hR] at h ⊢; exact exF_none l _ _ _ h
    have HF := hid (And.intro hE2 (And.intro hXR hn0))
    obtain ⟨Q, hQ⟩ : ∃ Q, Q = w4.heap.size := ⟨_, rfl⟩
    rw [← hQ] at EX
    have HQ := hid hQ
    have HW5 := hid hw5
    have hr5 := hr4.kept hU5
    have hlr := hr4.lt
    have hlr2 : H + 1 < w4.heap.size := by omega
    clear hE2 hwf hms hw5 hX5 hR hXR hn0 hQ wk
    go_wp2_with fail
    rw [← HW5.out, ← HQ.out]
    (with_reducible refine EX.mono ?_)
    rintro e w6 ⟨k6, i6, n6, a6, l6, c6, rfl, hR6, hX6, hU6⟩
    have hr6 := hr5.keep hU6 (by have := HQ.out; omega)
    obtain ⟨y0, y1, y2, y3⟩ := hr6.cells
    obtain ⟨z0, z1, z2, z3⟩ := hr6.frozens
    have qr := hr6.lt
    have hset := hr6.set (d0 := .int .i64 k6) (d1 := .string (B n6)) (d2 := .int .i64 i6) (d3 := .slice a6 l6 c6)
    have HEE := hid hset
    have HX := hid (And.intro hR6 (And.intro hX6 hU6))
    clear hset hR6 hX6 hU6 t0 t1 t2 t3 k1
    go_wp2_with fail
    obtain ⟨hb9, hset⟩ := HEE.out
    obtain ⟨e0, e1, e2, e3⟩ := hb9.cells
    refine bodyPost_ret (v := .tuple #[.agg #[.int .i64 k6, .string (B n6), .int .i64 i6, .slice a6 l6 c6], .int .i64 R.e]) ?_ rfl ?_
    · simp [results, Tryz.f36, go_sem, e0, e1, e2, e3]
    · have hXt : X = R.t := by
        rw [HF.out.2.1, HF.out.1]
        by_cases h : R.e = 0
        · rw [if_pos h]
        · rw [if_neg h, HF.out.2.2 h]
      rw [hXt, HF.out.1]
      exact ⟨k6, i6, n6, a6, l6, c6, rfl, Rep.weaken (fun b _ e => .inl e) _ _ (Rep.keep hset (fun b e => .inr (.inl e)) _ _ HX.out.1), ((hU1.and hU15).trans HX.out.2.2 (fun b hb e => by have := HQ.out; have := HH.out; have := hU1.size; omega)).trans hset (fun b hb e => by have := HH.out; omega)⟩
end Go.Proofs.YtdomloghcpfdjaaGreatDoor
namespace Go.LF
open Tm
/-- The first error of the expansions of terms; and these. -/
def allE (l : List Mv) : List Tm → Int
  | [] => 0
  | t :: ts => if expE l t ≠ 0 then expE l t else allE l ts
def allR (l : List Mv) (ts : List Tm) : List Tm := if allE l ts = 0 then ts.map (expT l) else []
theorem allE_stop (l : List Mv) : ∀ (ts : List Tm) (j : Nat) (h : j < ts.length), allE l (ts.take j) = 0 → expE l ts[j] ≠ 0 → allE l ts = expE l ts[j]
  | t :: ts, 0, _, _, h2 => by rw [List.getElem_cons_zero] at h2 ⊢; rw [allE, if_pos h2]
  | t :: ts, j + 1, h, h1, h2 => by
    rw [List.getElem_cons_succ] at h2 ⊢
    rw [List.take_succ_cons, allE] at h1
    by_cases h0 : expE l t ≠ 0
    · rw [if_pos h0] at h1; exact absurd h1 h0
    · rw [if_neg h0] at h1
      rw [allE, if_neg h0]
      exact allE_stop l ts j (by simpa using h) h1 h2
theorem allE_next (l : List Mv) : ∀ (ts : List Tm) (j : Nat) (h : j < ts.length), allE l (ts.take j) = 0 → expE l ts[j] = 0 → allE l (ts.take (j + 1)) = 0
  | t :: ts, 0, _, _, h2 => by rw [List.getElem_cons_zero] at h2; rw [List.take_succ_cons, allE, if_neg (by simp [h2])]; simp [allE]
  | t :: ts, j + 1, h, h1, h2 => by
    rw [List.getElem_cons_succ] at h2
    rw [List.take_succ_cons, allE] at h1 ⊢
    by_cases h0 : expE l t ≠ 0
    · rw [if_pos h0] at h1; exact absurd h1 h0
    · rw [if_neg h0] at h1 ⊢
      exact allE_next l ts j (by simpa using h) h1 h2
end Go.LF
namespace Go.Proofs.YtdomloghcpfdjaaGreatDoor
open Go.RowKit Go.LF
/-- A row of terms and an error are handed back. -/
def GivesTs (O : Nat → Prop) (E : Int) (us : List Tm) (w : World) (e : Ending) (w' : World) : Prop :=
  ∃ (a : Option Addr) (cap : Nat), e = .returned (.tuple #[.slice a us.length cap, .int .i64 E]) ∧ us.length ≤ cap ∧ RepE O w' 4 (us.map Tm.dat) a 0 ∧ Upto none' w w' ∧ ∃ css, RowD 29 4 O w.heap.size w' (.slice a us.length cap) (us.map Tm.dat) css
set_option maxRecDepth 100000 in
set_option maxHeartbeats 8000000 in
theorem metaAll_any (O : Nat → Prop) (l : List Mv) (hG : StG l) (ts : List Tm) (hts : ∀ t ∈ ts, t.wt ≤ 1000000 ∧ (t.wf = 0 → (∀ i ∈ Tm.metas t, i < l.length) → Kn l.length t)) (hlen : ts.length ≤ 1000) (w : World) (hO : ∀ b, O b → b < w.heap.size) (la : Option Addr) (lc : Nat) (ta : Option Addr) (tc : Nat) (hL : RepE O w 6 (l.map Mv.dat) la 0) (hT : RepE O w 4 (ts.map Tm.dat) ta 0) :
    Calls Tryz.prog 103 #[.slice la l.length lc, .slice ta ts.length tc] w (GivesTs O (allE l ts) (allR l ts) w) := by
  obtain ⟨i0, hi, hi0, hi1, hi2⟩ := info_parts info_term
  obtain ⟨H, hH⟩ : ∃ H, H = w.heap.size := ⟨_, rfl⟩
  have hL1 := RepE.fresh' _ _ _ _ hL
  have hT1 := RepE.fresh' _ _ _ _ hT
  rw [← hH] at hL1 hT1
  have hO' : ∀ b, O b → b < H := by rw [hH]; exact hO
  have HH := hid hH
  obtain ⟨ll, hll⟩ : ∃ ll, ll = l.length := ⟨_, rfl⟩
  obtain ⟨tl, htl⟩ : ∃ tl, tl = ts.length := ⟨_, rfl⟩
  rw [← hll, ← htl]
  rw [← htl] at hlen
  have HL := hid (And.intro hll htl)
  have HTS := hid hts
  have HO := hid hO'
  clear hll htl hH hO hL hT hts hO'
  go_enter Tryz.func103, Tryz.ntmps103
  go_wp2_with fail
  go_loopw [6, 13] (fun v6 v13 wr => ∃ (j : Nat) (css : List (List Value)), v13 = .int .i64 (j : Int) ∧ j ≤ tl ∧ allE l (ts.take j) = 0 ∧ RowD 29 4 O H wr v6 (((ts.take j).map (expT l)).map Tm.dat) css ∧ Upto none' w wr)
    (fun _ v13 _ => tl - (intOf v13).toNat)
  case atStart => exact ⟨0, [], rfl, Nat.zero_le _, rfl, RowD.nil _ _ _ _ _, Upto.refl _ _⟩
  case round =>
    obtain ⟨j, css, rfl, hj, hA, hD, hU⟩ := hrel
    have HA := hid hA
    obtain ⟨vv, hvv⟩ : ∃ v, v = u6 := ⟨_, rfl⟩
    rw [← hvv] at hD
    rw [← hvv]
    have HV := hid hvv
    have hzr := hU.size
    rw [← HH.out] at hzr
    have hln : (((ts.take j).map (expT l)).map Tm.dat).length = j := by have := HL.out.2; simp; omega
    clear hA hvv
    by_cases hlt : j < tl
    · have hjl : j < ts.length := by have := HL.out.2; omega
      obtain ⟨eb, eo, ek, en, ex, es, ec, rfl, hebl, _, p0, p1, p2, p3, hRp⟩ := arg_tm (hT1.on hU) j hjl
      have hj1 : (j : Int) < (tl : Int) := by omega
      have hjm : (j : Int) ≤ 1000 := by omega
      obtain ⟨w4, hw4⟩ : ∃ w4, w4 = wr.alloc (.cells #[.int .i64 ek, .string (B en), .int .i64 ex, .slice es (ts[j]'hjl).args.length ec] 29) := ⟨_, rfl⟩
      have hU4 : Upto none' wr w4 := by rw [hw4]; exact (Upto.refl none' wr).alloc _
      have hb4 : Box4 w4 wr.heap.size (.int .i64 ek) (.string (B en)) (.int .i64 ex) (.slice es (ts[j]'hjl).args.length ec) 29 := by rw [hw4]; exact Box4.at_new rfl
      have hD4 := hD.on hU4 HO.out
      have hown4 := hD4.2.2.1
      have wk : ∀ b, b < wr.heap.size → (O b ∨ vv.ownBlock = some b) → (O b ∨ H ≤ b) := fun b _ e => e.elim .inl (fun e => .inr (hown4.lt b e).1)
      have EX := expand_any (fun b => O b ∨ vv.ownBlock = some b) l hG (ts[j]'hjl) (HTS.out _ (List.getElem_mem hjl)).1 (HTS.out _ (List.getElem_mem hjl)).2 w4
        (fun b e => by have h0 := HO.out b; have h1 := hU4.size; rcases e with e | e; (have := h0 e; omega); exact (hown4.lt b e).2) la lc _ ((RepE.weaken wk _ _ _ _ (hL1.on hU)).on hU4) ((Rep.weaken wk _ _ hRp).on hU4)
      rw [← HL.out.1] at EX
      have hstop := allE_stop l ts j hjl HA.out
      have hnext := allE_next l ts j hjl HA.out
      have htk : ((ts.take (j + 1)).map (expT l)).map Tm.dat = ((ts.take j).map (expT l)).map Tm.dat ++ [(expT l (ts[j]'hjl)).dat] := by rw [List.take_succ_eq_append_getElem hjl, List.map_append, List.map_append]; rfl
      generalize expE l (ts[j]'hjl) = E at *
      generalize expT l (ts[j]'hjl) = X at *
      generalize (ts[j]'hjl).args.length = el at *
      have HW4 := hid hw4
      have HST := hid (And.intro hstop (And.intro hnext htk))
      have HW := hid wk
      obtain ⟨P, hP⟩ : ∃ P, P = wr.heap.size := ⟨_, rfl⟩
      rw [← hP] at hb4
      have HP := hid hP
      clear hw4 hstop hnext htk hRp hebl wk hP
      go_upto_region 5 with fail
      rw [← HP.out, ← HW4.out]
      clear p0 p1 p2 p3
      obtain ⟨p0, p1, p2, p3⟩ := hb4.cells
      go_wp2_with fail
      (with_reducible refine EX.mono ?_)
      rintro e w5 ⟨k5, i5, n5, a5, l5, c5, rfl, hR5, hU5⟩
      by_cases hE : E = 0
      case neg =>
        have hEr := HST.out.1 hE
        have hE' : (E != 0) = true := by simpa using hE
        have HE := hid (And.intro hEr hE)
        clear hEr hE
        go_wp2_with fail
        refine bodyPost_ret (v := .tuple #[.slice none 0 0, .int .i64 E]) (by simp [results, Tryz.f103, go_sem]) rfl ?_
        refine ⟨none, 0, ?_, ?_, ?_, ?_, ?_⟩
        · rw [HE.out.1]; unfold allR; rw [HE.out.1, if_neg HE.out.2]; rfl
        · unfold allR; rw [HE.out.1, if_neg HE.out.2]; exact Nat.zero_le _
        · unfold allR; rw [HE.out.1, if_neg HE.out.2]; exact repE_of _ _ _ (fun i hi => by simp at hi)
        · exact ((hU.and hU4).and hU5).alloc _
        · unfold allR; rw [HE.out.1, if_neg HE.out.2]; exact ⟨[], RowD.nil _ _ _ _ _⟩
      subst hE
      have hn := HST.out.2.1 rfl
      have htk := HST.out.2.2
      have HN := hid (And.intro hn htk)
      obtain ⟨w6, hw6⟩ : ∃ w6, w6 = w5.alloc (.cells #[.int .i64 k5, .string (B n5), .int .i64 i5, .slice a5 l5 c5] 29) := ⟨_, rfl⟩
      have hU6 : Upto none' w5 w6 := by rw [hw6]; exact (Upto.refl none' w5).alloc _
      have hb6 : Box4 w6 w5.heap.size (.int .i64 k5) (.string (B n5)) (.int .i64 i5) (.slice a5 l5 c5) 29 := by rw [hw6]; exact Box4.at_new rfl
      have hD6 := (hD4.on hU5 HO.out).on hU6 HO.out
      have hR6 := hR5.on hU6
      have hal6 := (Upto.refl none' w6).alloc (.cells #[.int .i64 k5, .string (B n5), .int .i64 i5, .slice a5 l5 c5] 29)
      have hDa := hD6.on hal6 HO.out
      have own6 := hDa.2.2.1
      rw [hln] at own6
      have hUw6 := ((hU.and hU4).and hU5).and hU6
      have hz6 : H ≤ w6.heap.size := by have := hUw6.size; have := HH.out; omega
      have HW6 := hid hw6
      obtain ⟨Q, hQ⟩ : ∃ Q, Q = w5.heap.size := ⟨_, rfl⟩
      rw [← hQ] at hb6
      have HQ := hid hQ
      clear hn htk hw6 hQ p0 p1 p2 p3 hD4 hown4 hR5
      obtain ⟨p0, p1, p2, p3⟩ := hb6.cells
      have hQl := hb6.lt
      go_upto_region 6 with fail
      rw [← HQ.out, ← HW6.out]
      go_upto_region 8 with fail
      go_wp2_with (at_builtin; go_loud (refine wpList_append_lies _ (by rfl) _ _ 27 (by rfl) H 29 i0 (.agg #[.int .i64 0, .string (B []), .int .i64 0, .slice none 0 0]) 4 56 (by kernel_rfl) hi hi0 hi1 hi2 rfl (by decide) vv j css.flatten (by rfl) own6 ⟨w6.heap.size, 0, none⟩ 1 1 [.int .i64 k5, .string (B n5), .int .i64 i5, .slice a5 l5 c5] (by rfl) rfl (World.news_of_block (heap_alloc_new w6 _)) (by simp [Value.oneCell']) (by omega) (by simp only [maxLen]; omega) (by omega) (by simp; omega) _ rfl ?_); intro g cap' w7 hown hgrow hat _hg7)
      have hown8 : w7.ownsRow H 29 4 (.slice (some ⟨g, 0, none⟩) ((((ts.take j).map (expT l)).map Tm.dat).length + 1) cap') ((((ts.take j).map (expT l)).map Tm.dat).length + 1) (css.flatten ++ [.int .i64 k5, .string (B n5), .int .i64 i5, .slice a5 l5 c5]) := by rw [hln]; exact hown
      have hD7 := hDa.appended (d := X.dat) rfl (hR6.on hal6) hown8 hgrow hat (Nat.le_refl _)
      rw [← HN.out.2, hln] at hD7
      have hU7 := (hUw6.and hal6).trans (hDa.upto hgrow) (fun b hb e => by have := HH.out; omega)
      have HD7 := hid hD7
      clear hD7
      go_wp2_with fail
      go_roundw
      case rel => exact ⟨j + 1, _, by go_num, by omega, HN.out.1, HD7.out, hU7⟩
      case measure => simp [intOf]; omega
    · have hjl : j = tl := by omega
      subst hjl
      have htk : ts.take j = ts := List.take_of_length_le (by rw [← HL.out.2]; exact Nat.le_refl _)
      have hA := HA.out
      rw [htk] at hA hD
      rw [htk] at hln
      obtain ⟨va, vc, hv, hvc, hF⟩ := hD.rep HO.out
      rw [hln] at hv hvc
      subst hv
      have HF := hid (And.intro hA (And.intro hF (And.intro hvc hln)))
      have HDD := hid hD
      clear hA hF hD hvc hln htk hL1 hT1
      go_wp2_with fail
      refine bodyPost_ret (v := .tuple #[.slice va j vc, .int .i64 0]) (by simp [results, Tryz.f103, go_sem]) rfl ?_
      obtain ⟨hA, hF, hvc, hln⟩ := HF.out
      have e : allR l ts = ts.map (expT l) := by unfold allR; rw [if_pos hA]
      rw [List.length_map, List.length_map] at hln
      refine ⟨va, vc, ?_, ?_, ?_, hU, ?_⟩
      · rw [e, hA, List.length_map, hln]
      · rw [e, List.length_map, hln]; exact hvc
      · rw [e]; exact hF
      · rw [e, List.length_map, hln, ← HH.out]; exact ⟨css, HDD.out⟩
end Go.Proofs.YtdomloghcpfdjaaGreatDoor
