/- MetaValid: its walk. -/
import Derived.Test.YtdomloghcpfdjaaGreatDoorPMvPut
import Derived.Test.YtdomloghcpfdjaaGreatDoorPSC
import Derived.Test.YtdomloghcpfdjaaGreatDoorPFR
import Derived.Test.YtdomloghcpfdjaaGreatDoorPFE
namespace Go.LF
open Tm Go.Proofs.YtdomloghcpfdjaaGreatDoor
/-- A store of which at most k entries were changed. -/
structure Vst (k : Nat) (l : List Mv) : Prop where
  len : l.length ≤ 40
  nm : ∀ m ∈ l, m.name.length ≤ 1000000
  ty : ∀ m ∈ l, m.type.wt ≤ 266240 + 10 * k
  vl : ∀ m ∈ l, m.value.length ≤ 1 + k ∧ (∀ v ∈ m.value, v.wt ≤ 266240) ∧ (m.value.flatMap Tm.metas).length ≤ 200 + 40 * k
theorem Play.vst {l : List Mv} (h : Play l) : Vst 0 l := by
  refine ⟨h.len, h.plz.names, fun m hm => by have := Tm.wf_wt65 (h.typ m hm); omega, fun m hm => ⟨by have := (h.val m hm).1; omega, fun v hv => Tm.wf_wt65 (h.vals m hm v hv), ?_⟩⟩
  have h3 := (h.val m hm).1
  match hv : m.value, h3 with
  | [], _ => simp
  | [v], _ =>
    have h6 := metas_size13 v
    have h7 := (h.ar m hm).2 v (by rw [hv]; simp)
    simp only [List.flatMap_cons, List.flatMap_nil, List.append_nil]
    omega
theorem Vst.stR {k : Nat} {l : List Mv} (h : Vst k l) (hk : k ≤ 9) : StR l := by
  refine ⟨⟨by have := h.len; omega, fun m hm => ⟨by have := h.ty m hm; omega, by have := (h.vl m hm).1; omega, fun v hv => by have := (h.vl m hm).2.1 v hv; omega⟩⟩, fun m hm => by have := (h.vl m hm).1; omega, fun m hm => ?_, by have := h.len; omega⟩
  unfold nextV
  rw [List.length_append]
  have h1 := metas_len13 m.type
  have h2 := h.ty m hm
  have h3 := (h.vl m hm).2.2
  omega
theorem Vst.more {k : Nat} {l : List Mv} (h : Vst k l) : Vst (k + 1) l :=
  ⟨h.len, h.nm, fun m hm => by have := h.ty m hm; omega, fun m hm => ⟨by have := (h.vl m hm).1; omega, (h.vl m hm).2.1, by have := (h.vl m hm).2.2; omega⟩⟩
theorem Vst.put {k j : Nat} {l : List Mv} {z : Mv} (h : Vst k l) (h1 : z.name.length ≤ 1000000) (h2 : z.type.wt ≤ 266240 + 10 * (k + 1)) (h3 : z.value.length ≤ 1 + (k + 1) ∧ (∀ v ∈ z.value, v.wt ≤ 266240) ∧ (z.value.flatMap Tm.metas).length ≤ 200 + 40 * (k + 1)) : Vst (k + 1) (l.set j z) := by
  have h' := h.more
  have key : ∀ m ∈ l.set j z, m ∈ l ∨ m = z := fun m hm => List.mem_or_eq_of_mem_set hm
  refine ⟨by rw [List.length_set]; exact h.len, fun m hm => ?_, fun m hm => ?_, fun m hm => ?_⟩
  · rcases key m hm with e | rfl
    · exact h.nm m e
    · exact h1
  · rcases key m hm with e | rfl
    · exact h'.ty m e
    · exact h2
  · rcases key m hm with e | rfl
    · exact h'.vl m e
    · exact h3
end Go.LF
namespace Go.Proofs.YtdomloghcpfdjaaGreatDoor
open Go.RowKit Go.LF
/-- One string of four. -/
theorem four_names {W : World} {b : Nat} {T' : TypeId} (h : Box4 W b (.string (B [])) (.string (B [64, 120])) (.string (B [89])) (.string (B [95])) T') (c : Nat) (hc : (c : Int) < 4) :
    ∃ nm : List UInt8, nm.length ≤ 4 ∧ W.cell? ⟨b, c, none⟩ = some (.string (B nm)) := by
  obtain ⟨b0, b1, b2, b3⟩ := h.cells
  obtain rfl | rfl | rfl | rfl : c = 0 ∨ c = 1 ∨ c = 2 ∨ c = 3 := by omega
  · exact ⟨_, by decide, b0⟩
  · exact ⟨_, by decide, b1⟩
  · exact ⟨_, by decide, b2⟩
  · exact ⟨_, by decide, b3⟩
set_option maxRecDepth 100000 in
set_option maxHeartbeats 8000000 in
theorem metaValid_walk (l0 : List Int) (a0 : Option Addr) (len0 cap0 : Nat) (hl0 : l0.length = len0) (hlen0 : len0 ≤ 17592186044416) (m0 : List Int) (b0 : Option Addr) (len1 cap1 : Nat) (hl1 : m0.length = len1) (hlen1 : len1 ≤ 17592186044416) (w : World) (hE0 : RepE none' w 1 (l0.map (Dat.int .i64)) a0 0) (hE1 : RepE none' w 1 (m0.map (Dat.int .i64)) b0 0) (hN : NamesRead w) :
    Calls Tryz.prog 5 #[.slice a0 len0 cap0, .slice b0 len1 cap1] w fun e w' => e = .returned (.bool true) ∧ Upto none' w w' := by
  have PL := play_any l0 a0 len0 cap0 hl0 hlen0 w hE0 hN
  clear hE0 hl0
  go_enter Tryz.func5, Tryz.ntmps5
  go_wp2_with fail
  (with_reducible refine PL.mono ?_)
  rintro e w1 ⟨L, va, vc, rfl, hP, hlc, hL, hU1⟩
  obtain ⟨w2, hw2⟩ : ∃ w2, w2 = w1.alloc (.cells #[.slice b0 len1 cap1, .int .i64 0] 26) := ⟨_, rfl⟩
  have hU2 : Upto none' w1 w2 := by rw [hw2]; exact (Upto.refl none' _).alloc _
  have hT2 : TapeOk w2 w1.heap.size := by
    rw [hw2]
    exact tape_new (w := w1) (cap := cap1) (U := 26) hl1 hlen1 (hE1.on hU1)
  have hK2 : NamesOk w1.heap.size w2 := hN.ok (hU1.and hU2) hU1.size
  have hL2 := (RepE.fresh' _ _ _ _ hL).on hU2
  obtain ⟨T, hT⟩ : ∃ T, T = w1.heap.size := ⟨_, rfl⟩
  rw [← hT] at hT2 hK2 hL2
  have HT := hid hT
  have HW2 := hid hw2
  have hL40 := hP.len
  have hVs := hP.vst
  obtain ⟨Ll, hLl⟩ : ∃ Ll, Ll = L.length := ⟨_, rfl⟩
  rw [← hLl] at hL40 hlc
  rw [← hLl]
  have HLl := hid hLl
  have hLi : (Ll : Int) ≤ 40 := by omega
  have hU12 := hU1.and hU2
  clear hw2 hT hLl hL hE1 hN PL hl1 hP
  go_upto_region 5 with fail
  rw [← HT.out, ← HW2.out]
  have hTlt := hT2.lt
  have hL2' : RepE (fun b => isT T b ∨ w2.heap.size ≤ b) w2 6 (L.map Mv.dat) va 0 := RepE.weaken (fun b _ e => by rcases e with e | e; (simp only [isT] at e; right; omega); (right; omega)) _ _ _ _ hL2
  go_wp2_with (at_builtin; go_loud (refine wpList_append_mvs (by rfl) _ _ (by rfl) (by rfl) (RowW.nil (isT T) w2.heap.size _) va Ll vc L (by rfl) HLl.out (rep_olds hL2') (by have := HLl.out; simp; omega) (Nat.le_refl _) ?_); intro v3 w3 css3 hS3 hg3 hat3; have hU3 : Upto none' w2 w3 := (grown_own hg3).mono (fun _ _ e => by simp [Value.ownBlock] at e))
  rw [List.nil_append] at hS3
  have hn3 := hT2.on hU3
  have hK3 := hK2.on hU3
  have hU13 := hU12.and hU3
  obtain ⟨va3, vc3, hv3, hvc3, hE3⟩ := hS3.row
  subst hv3
  have hP3 := RowP.start hS3 (fun b e => by simp only [isT] at e; omega)
  rw [← HLl.out] at hvc3
  have N3 := next_any 4 (by omega) (by omega) T w3 hn3
  have hT3 := hn3
  have HG := hid (fun (g : Nat) (e : va3 = some ⟨g, 0, none⟩) => And.intro (Nat.le_trans (hU1.and hU2).size (hS3.2.2.1.lt g (by rw [e]; rfl)).1) (Nat.lt_of_lt_of_le hTlt (hS3.2.2.1.lt g (by rw [e]; rfl)).1))
  have hTw : w.heap.size ≤ T := by have := HT.out; have := hU1.size; omega
  clear hn3 hL2 hL2' hT2 hK2 hS3 hg3 hat3 hE3 hU3 hU12 hU1 hU2
  rw [← HLl.out]
  go_upto_region 6 with fail
  go_wp2_with fail
  (with_reducible refine N3.mono ?_)
  rintro e w4 ⟨⟨n0, hn0, rfl⟩, hT4, hU4⟩
  have hP4 := hP3.keep hU4 (fun _ e => e)
  have hK4 := hK3.keep hU4
  have hU14 : Upto (fun b => w.heap.size ≤ b) w w4 := (hU13.mono (fun _ _ e => e.elim)).trans hU4 (fun b hb e => by simp only [isT] at e; omega)
  clear N3 hP3 hK3 hT3 hU4 hU13
  go_wp2_with fail
  go_loopw [8] (fun v8 wr => ∃ (k n : Nat) (zs : List Mv), v8 = .int .i64 (n : Int) ∧ k + n ≤ 3 ∧ zs.length = Ll ∧ Vst k zs ∧ RowP (isT T) wr va3 zs ∧ TapeOk wr T ∧ NamesOk T wr ∧ Upto (fun b => w.heap.size ≤ b) w wr)
    (fun v8 _ => (intOf v8).toNat)
  case atStart => exact ⟨0, n0, L, rfl, by omega, HLl.out.symm, hVs, hP4, hT4, hK4, hU14⟩
  case round =>
    obtain ⟨k, n, zs, rfl, hkn, hzl, hV, hP, hT, hK, hU⟩ := hrel
    have HZ := hid hzl
    have hni : (n : Int) ≤ 3 := by omega
    by_cases hgo : 0 < n ∧ 0 < Ll
    case neg =>
      have hz : ¬ (0 : Int) < (n : Int) ∨ ((0 : Int) < (n : Int) ∧ ¬ (0 : Int) < (Ll : Int)) := by omega
      have hE := RepE.weaken (O' := none') (fun _ _ e => e.elim) _ _ _ _ hP.rep
      have VA := valid13_any zs (hV.stR (by omega)) hV.nm wr va3 vc3 hE
      have RV := fun (W : World) (h : Upto none' wr W) => refValid13_any zs (hV.stR (by omega)) hV.nm W va3 vc3 (by omega) (hE.on h)
      have hUf : ∀ W, Upto none' wr W → Upto none' w W := fun W h => (hU.trans (h.mono (fun _ _ e => e.elim)) (fun _ _ e => e)).mono (fun b hb e => by omega)
      rw [hzl] at VA RV
      generalize (validR zs).1 = x1 at *
      generalize (validR zs).2 = x2 at *
      clear hgo hE hP hT hK hV hU hzl
      rcases hz with hz | ⟨hz1, hz2⟩
      all_goals
        go_wp2_with fail
        (with_reducible refine VA.mono ?_)
        rintro e w5 ⟨rfl, hU5⟩
        have RV5 := RV w5 hU5
        clear VA RV
        go_wp2_with fail
        (with_reducible refine RV5.mono ?_)
        rintro e w6 ⟨rfl, hU6⟩
        have hU56 := hU5.and hU6
        clear RV5
        go_wp2_with fail
        (with_reducible refine (awake13 w6).mono ?_)
        rintro e w7 ⟨rfl, hU7⟩
        have hUz := hUf _ (hU56.and hU7)
        go_wp2_with fail
        go_ret
        exact ⟨rfl, hUz⟩
    obtain ⟨hn, hl⟩ := hgo
    have hnp : (0 : Int) < (n : Int) := by omega
    have hlp : (0 : Int) < (Ll : Int) := by omega
    have N5 := next_any (Ll : Int) (by omega) (by omega) T wr hT
    go_upto_region 9 with fail
    go_wp2_with fail
    (with_reducible refine N5.mono ?_)
    rintro e w5 ⟨⟨c, hc, rfl⟩, hT5, hU5⟩
    have hP5 := hP.keep hU5 (fun _ e => e)
    have hK5 := hK.keep hU5
    have hU05 := hU.trans hU5 (fun b hb e => by simp only [isT] at e; omega)
    have N6 := next_any 5 (by omega) (by omega) T w5 hT5
    clear N5 hP hT hK hU hU5
    go_wp2_with fail
    (with_reducible refine N6.mono ?_)
    rintro e w6 ⟨⟨d, hd, rfl⟩, hT6, hU6⟩
    have hP6 := hP5.keep hU6 (fun _ e => e)
    have hK6 := hK5.keep hU6
    have hU06 := hU05.trans hU6 (fun b hb e => by simp only [isT] at e; omega)
    have hcz : c < zs.length := by omega
    clear hzl
    obtain ⟨g, k0, n0, i0, aa, cap, va, vc, rfl, hgO, hglt, hfz, ⟨p0, p1, p2, p3, p4, p5⟩, hRt, hvv, hRv⟩ := hP6.open hcz
    have hgT : ¬ g = T := hgO
    have hgw : w.heap.size ≤ g ∧ T < g := HG.out g rfl
    have hgR : g < w6.heap.size ∧ T < w6.heap.size := ⟨hglt, hT6.lt⟩
    generalize zs[c].type.args.length = tl at *
    have HX := hid (And.intro hgw hgR)
    clear hgw hgR
    have hfz0 := hfz (c * 6)
    have hfz1 := hfz (c * 6 + 1)
    have hfz2 := hfz (c * 6 + 1 + 1)
    have hfz3 := hfz (c * 6 + 1 + 2)
    have hfz4 := hfz (c * 6 + 1 + 3)
    have hfz5 := hfz (c * 6 + 5)
    obtain rfl | rfl | rfl | rfl | rfl : d = 0 ∨ d = 1 ∨ d = 2 ∨ d = 3 ∨ d = 4 := by omega
    · -- one term made anew
      have T1 := term_any 2 (by omega) 0 Ll (by omega) (by omega) T w6 hT6 hK6
      rw [show ((2 : Nat) : Int) = 2 from rfl, show ((0 : Nat) : Int) = 0 from rfl] at T1
      go_upto_region 12 with fail
      go_wp2_with (go_at_call 31; (with_reducible refine T1.mono ?_); rintro e w7 ⟨kx, ix, nx, ax, lx, qx, x, rfl, hRx, hFx, hT7, hK7, hU7⟩; have hU8 : Upto none' w7 (w7.alloc (.cells #[.int .i64 kx, .string (B nx), .int .i64 ix, .slice ax lx qx] 29)) := (Upto.refl none' w7).alloc _; have hP8 := (hP6.keep hU7 (fun _ e => e)).keep hU8 (fun _ e => e.elim); obtain ⟨g', k7, n7, i7, a7, cap7, va7, vc7, e7, _, _, hfz7, ⟨_, _, _, _, _, r5⟩, _, _, _⟩ := hP8.open hcz; have r6 := hfz7 (c * 6 + 5); obtain rfl : g = g' := by cases e7; rfl)
      obtain ⟨w8, hw8⟩ : ∃ q, q = w7.alloc (.cells #[.int .i64 kx, .string (B nx), .int .i64 ix, .slice ax lx qx] 29) := ⟨_, rfl⟩
      have hbx : Box4 w8 w7.heap.size (.int .i64 kx) (.string (B nx)) (.int .i64 ix) (.slice ax lx qx) 29 := by rw [hw8]; exact Box4.at_new rfl
      rw [← hw8] at hU8 hP8 ⊢
      have hz7 := hU7.size
      have hgR := HX.out.2
      have hset := hP8.setV (j := c) (vs := [x]) (wa := some ⟨w7.heap.size, 0, none⟩) (wc := 1) hcz (by simp) (repE_one ((Rep.weaken (fun b _ e => by simp only [isT] at e; omega) _ _ hRx).on hU8) (by simp only [isT]; omega) hbx)
      have hT8 := (hT7.on hU8).far hset.2 (fun b e => by have := HX.out.1; omega)
      have hK8 := (hK7.on hU8).far hset.2 (fun b e => by have := HX.out.1; omega)
      have hU08 := ((hU06.trans hU7 (fun b hb e => by simp only [isT] at e; omega)).trans hU8 (fun _ _ e => e.elim)).trans hset.2 (fun b hb e => by have := HX.out.1; omega)
      have hV8 : Vst (k + 1) (zs.set c ⟨zs[c].name, zs[c].type, [x]⟩) := hV.put (hV.nm zs[c] (List.getElem_mem hcz)) (by have := hV.ty _ (List.getElem_mem hcz); simp only; omega) ⟨by simp, fun v hv => by simp only [List.mem_singleton] at hv; rw [hv]; have := hFx.wt; omega, by have h1 := metas_len13 x; have h2 := hFx.wt; simp only [List.flatMap_cons, List.flatMap_nil, List.append_nil]; omega⟩
      have HF := hid (And.intro hV8 (And.intro hset.1 (And.intro hT8 (And.intro hK8 hU08))))
      clear hV8 hset hT8 hK8 hU08 hw8 hbx hP8 hU8 hRx hFx hT7 hK7 hU7
      go_wp2_with fail
      go_roundw
      case rel => exact ⟨k + 1, n - 1, _, by go_num, by omega, by rw [List.length_set, HZ.out], HF.out.1, HF.out.2.1, HF.out.2.2.1, HF.out.2.2.2.1, HF.out.2.2.2.2⟩
      case measure => simp [intOf]; omega
    · -- the value and one constant more
      have hz6 := HX.out
      have hV6 : RepE (fun b => (b = g ∨ isT T b) ∨ w6.heap.size ≤ b) w6 4 (zs[c].value.map Tm.dat) va 0 := RepE.weaken (fun b _ e => e.elim .inl (fun e => .inr e)) _ _ _ _ (RepE.fresh' _ _ _ _ hRv)
      have hvl := (hV.vl zs[c] (List.getElem_mem hcz)).1
      obtain ⟨vl, hvl0⟩ : ∃ q, q = zs[c].value.length := ⟨_, rfl⟩
      have hvlk : vl ≤ 10 := by omega
      have HVL := hid hvl0
      rw [← hvl0] at p5
      clear hvl0 hvl
      go_upto_region 14 with fail
      obtain ⟨i9, hi, hi0, hi1, hi2⟩ := info_parts info_term
      go_wp2_with (first
        | (at_builtin; go_loud (refine wpList_append_tms (by rfl) _ _ (by rfl) (by rfl) (O := fun b => b = g ∨ isT T b) (base := w6.heap.size) (v := .slice none 0 0) (ts := []) (css := []) ⟨rfl, by simp, World.ownsRow_nil _ _ _ _, fun i h => by simp at h⟩ va vl vc zs[c].value (by rfl) HVL.out hV6 (by have := HVL.out; simp; omega) (Nat.le_refl _) ?_); intro v7 w7 css7 hS7 hg7 hat7; have hU7 : Upto none' w6 w7 := (grown_own hg7).mono (fun _ _ e => by simp [Value.ownBlock] at e); rw [List.nil_append] at hS7; have hOw7 := hS7.2.2.1; rw [← HVL.out] at hOw7; have hal := (Upto.refl none' w7).alloc (.cells #[.int .i64 4, .string (B [122]), .int .i64 0, .slice none 0 0] 29); have hOwa := World.ownsRow.alloc hOw7 (.cells #[.int .i64 4, .string (B [122]), .int .i64 0, .slice none 0 0] 29))
        | (at_builtin; go_loud (refine wpList_append_lies _ (by rfl) _ _ 27 (by rfl) w6.heap.size 29 i9 (.agg #[.int .i64 0, .string (B []), .int .i64 0, .slice none 0 0]) 4 56 (by kernel_rfl) hi hi0 hi1 hi2 rfl (by omega) v7 vl css7.flatten (by rfl) hOwa ⟨w7.heap.size, 0, none⟩ 1 1 [.int .i64 4, .string (B [122]), .int .i64 0, .slice none 0 0] (by rfl) rfl (World.news_of_block (heap_alloc_new w7 _)) (by simp [Value.oneCell']) (by omega) (by simp only [maxLen]; omega) (by omega) (by have := hU7.size; simp; omega) _ rfl ?_); intro g8 cap8 w8 hown8 hgrow8 hat8 hlt8; have hU8 : Upto none' w6 w8 := (hU7.and hal).trans (grown_own hgrow8) (fun b hb e => by have := (hS7.2.2.1.lt b e).1; omega); have hP8 := hP6.keep hU8 (fun _ e => e.elim); obtain ⟨g', k8, n8, i8, a8, cap8', va8, vc8, e8, _, _, hfz8, ⟨_, _, _, _, _, r5⟩, _, _, _⟩ := hP8.open hcz; have r6 := hfz8 (c * 6 + 5); obtain rfl : g = g' := by cases e8; rfl))
      obtain ⟨u7, v70, v71⟩ : ∃ q, q = zs[c].value ++ [.mk 4 [122] 0 []] ∧ q.length = vl + 1 := ⟨_, rfl, by have := HVL.out; simp; omega⟩
      have hS8 := (hS7.on hal).leaf (k := 4) (i := 0) (n := [122]) (g := g8) (cap := cap8) (by rw [← HVL.out]; exact hown8) hgrow8
      obtain ⟨a9, c9, hv9, hcap9, hE9⟩ := hS8.rep
      rw [List.length_append, ← HVL.out] at hv9
      simp only [Value.slice.injEq] at hv9
      obtain ⟨rfl, _, rfl⟩ := hv9
      have hgR := HX.out.2
      rw [← v70, v71] at hcap9
      rw [← v70] at hE9
      have hset := hP8.setV (j := c) (vs := u7) (wa := some ⟨g8, 0, none⟩) (wc := cap8) hcz (by omega) (RepE.weaken (fun b _ e => .inl ⟨e, by simp only [isT] at e; omega⟩) _ _ _ _ hE9)
      rw [v71] at hset
      have hT9 := (hT6.on hU8).far hset.2 (fun b e => by have := HX.out.1; omega)
      have hK9 := (hK6.on hU8).far hset.2 (fun b e => by have := HX.out.1; omega)
      have hU09 := (hU06.trans hU8 (fun _ _ e => e.elim)).trans hset.2 (fun b hb e => by have := HX.out.1; omega)
      have hV9 : Vst (k + 1) (zs.set c ⟨zs[c].name, zs[c].type, u7⟩) := by
        have hvv := hV.vl zs[c] (List.getElem_mem hcz)
        refine hV.put (hV.nm zs[c] (List.getElem_mem hcz)) (hV.more.ty zs[c] (List.getElem_mem hcz)) ⟨by have := HVL.out; simp only; omega, fun v hv => ?_, ?_⟩
        · simp only [v70] at hv
          rcases List.mem_append.1 hv with hv | hv
          · exact hvv.2.1 v hv
          · rw [List.mem_singleton.1 hv]; decide
        · simp only [v70, List.flatMap_append, List.length_append]
          have : (([.mk 4 [122] 0 []] : List Tm).flatMap Tm.metas).length ≤ 40 := by decide
          omega
      have HF := hid (And.intro hV9 (And.intro hset.1 (And.intro hT9 (And.intro hK9 hU09))))
      clear hV9 hset hT9 hK9 hU09 hP8 hT6 hK6 hU06 hS7 hS8 hE9 hg7 hat7 hOw7 hal hOwa hown8 hgrow8 hat8 v70 v71
      go_wp2_with fail
      go_roundw
      case rel => exact ⟨k + 1, n - 1, _, by go_num, by omega, by rw [List.length_set, HZ.out], HF.out.1, HF.out.2.1, HF.out.2.2.1, HF.out.2.2.2.1, HF.out.2.2.2.2⟩
      case measure => simp [intOf]; omega
    · have T1 := type_any 2 (by omega) 0 Ll (by omega) (by omega) T w6 hT6 hK6
      rw [show ((2 : Nat) : Int) = 2 from rfl, show ((0 : Nat) : Int) = 0 from rfl] at T1
      go_upto_region 16 with fail
      go_wp2_with fail
      (with_reducible refine T1.mono ?_)
      rintro e w7 ⟨kx, ix, nx, ax, lx, qx, x, rfl, hRx, hFx, hT7, hK7, hU7⟩
      have hP7 := hP6.keep hU7 (fun _ e => e)
      obtain ⟨g', k7, n7, i7, a7, cap7, va7, vc7, e7, _, _, hfz7, ⟨_, r1, r2, r3, r4, _⟩, _, _, _⟩ := hP7.open hcz
      obtain rfl : g = g' := by cases e7; rfl
      have hfz1 := hfz7 (c * 6 + 1)
      have hfz2 := hfz7 (c * 6 + 1 + 1)
      have hfz3 := hfz7 (c * 6 + 1 + 2)
      have hfz4 := hfz7 (c * 6 + 1 + 3)
      go_wp2_with fail
      obtain ⟨w8, hw8⟩ : ∃ q, q = (((w7.setCell ⟨g, c * 6 + 1, none⟩ (.int .i64 kx)).setCell ⟨g, c * 6 + 1 + 1, none⟩ (.string (B nx))).setCell ⟨g, c * 6 + 1 + 2, none⟩ (.int .i64 ix)).setCell ⟨g, c * 6 + 1 + 3, none⟩ (.slice ax lx qx) := ⟨_, rfl⟩
      rw [← hw8]
      have hz7 := hU7.size
      have hgR := HX.out.2
      have hset := hP7.setT (j := c) (t := x) hcz (Rep.weaken (fun b _ e => by simp only [isT] at e; omega) _ _ hRx) hw8
      have hT8 := hT7.far hset.2 (fun b e => by have := HX.out.1; omega)
      have hK8 := hK7.far hset.2 (fun b e => by have := HX.out.1; omega)
      have hU08 := (hU06.trans hU7 (fun b hb e => by simp only [isT] at e; omega)).trans hset.2 (fun b hb e => by have := HX.out.1; omega)
      have hV8 : Vst (k + 1) (zs.set c ⟨zs[c].name, x, zs[c].value⟩) := hV.put (hV.nm zs[c] (List.getElem_mem hcz)) (by have := hFx.wt; simp only; omega) (hV.more.vl zs[c] (List.getElem_mem hcz))
      have HF := hid (And.intro hV8 (And.intro hset.1 (And.intro hT8 (And.intro hK8 hU08))))
      clear hV8 hset hT8 hK8 hU08 hw8 hP7 hRx hFx hT7 hK7 hU7
      go_wp2_with fail
      go_roundw
      case rel => exact ⟨k + 1, n - 1, _, by go_num, by omega, by rw [List.length_set, HZ.out], HF.out.1, HF.out.2.1, HF.out.2.2.1, HF.out.2.2.2.1, HF.out.2.2.2.2⟩
      case measure => simp [intOf]; omega
    · -- another name
      obtain ⟨w7, hw7⟩ : ∃ q, q = w6.alloc (.cells #[.string (B []), .string (B [64, 120]), .string (B [89]), .string (B [95])] 9) := ⟨_, rfl⟩
      have hU7 : Upto none' w6 w7 := by rw [hw7]; exact (Upto.refl none' w6).alloc _
      have hb7 : Box4 w7 w6.heap.size (.string (B [])) (.string (B [64, 120])) (.string (B [89])) (.string (B [95])) 9 := by rw [hw7]; exact Box4.at_new rfl
      have N7 := next_any 4 (by omega) (by omega) T w7 (hT6.on hU7)
      have hP7 := hP6.keep hU7 (fun _ e => e.elim)
      have hK7 := hK6.on hU7
      have hU07 := hU06.trans hU7 (fun _ _ e => e.elim)
      have HW7 := hid hw7
      obtain ⟨P, hP⟩ : ∃ P, P = w6.heap.size := ⟨_, rfl⟩
      have hTl := hT6.lt
      rw [← hP] at hb7 hTl
      have HP := hid hP
      clear hw7 hP hU7
      go_upto_region 18 with fail
      go_wp2_with fail
      rw [← show B [] = { data := #[] } from rfl, ← show B [64, 120] = { data := #[64, 120] } from rfl, ← show B [89] = { data := #[89] } from rfl, ← show B [95] = { data := #[95] } from rfl, ← HW7.out]
      (with_reducible refine N7.mono ?_)
      rintro e w8 ⟨⟨c8, hc8, rfl⟩, hT8, hU8⟩
      have hb8 := hb7.keep hU8 (by simp only [isT]; omega)
      obtain ⟨nm, hnm, hcell⟩ := four_names hb8 c8 hc8
      have hP8 := hP7.keep hU8 (fun _ e => e)
      have hK8 := hK7.keep hU8
      have hU08 := hU07.trans hU8 (fun b hb e => by simp only [isT] at e; omega)
      obtain ⟨g', k7, n7, i7, a7, cap7, va7, vc7, e7, _, _, hfz7, ⟨r0, _, _, _, _, _⟩, _, _, _⟩ := hP8.open hcz
      obtain rfl : g = g' := by cases e7; rfl
      have hfz0 := hfz7 (c * 6)
      rw [← HP.out]
      clear N7 hP7 hK7 hU07 hU8 hb7 hb8
      go_wp2_with fail
      have hset := hP8.setN (j := c) (nm := nm) hcz
      have hT9 := hT8.far hset.2 (fun b e => by have := HX.out.1; omega)
      have hK9 := hK8.far hset.2 (fun b e => by have := HX.out.1; omega)
      have hU09 := hU08.trans hset.2 (fun b hb e => by have := HX.out.1; omega)
      have hV8 : Vst (k + 1) (zs.set c ⟨nm, zs[c].type, zs[c].value⟩) := hV.put (by simp only; omega) (hV.more.ty zs[c] (List.getElem_mem hcz)) (hV.more.vl zs[c] (List.getElem_mem hcz))
      have HF := hid (And.intro hV8 (And.intro hset.1 (And.intro hT9 (And.intro hK9 hU09))))
      clear hV8 hset hT9 hK9 hU09 hP8 hT8 hK8 hU08
      go_wp2_with fail
      go_roundw
      case rel => exact ⟨k + 1, n - 1, _, by go_num, by omega, by rw [List.length_set, HZ.out], HF.out.1, HF.out.2.1, HF.out.2.2.1, HF.out.2.2.2.1, HF.out.2.2.2.2⟩
      case measure => simp [intOf]; omega
    · -- the type spoiled
      have hd : Upto none' w6 w6.drew := (Upto.refl none' _).drew
      have hTd := hT6.on hd
      have NA := next_any 99 (by omega) (by omega) T w6.drew hTd
      have hC := fun (W : World) (h : Upto (isT T) w6 W) => And.intro (h.cell p1 hgO) (And.intro (h.cell p2 hgO) (And.intro (h.cell p3 hgO) (h.cell p4 hgO)))
      have hFz : ∀ (W : World), Upto (isT T) w6 W → ∀ o, W.frozen? ⟨g, o, none⟩ = false := by
        intro W h
        obtain ⟨g', k8, n8, i8, a8, cap8', va8, vc8, e8, _, _, hfz8, _⟩ := (hP6.keep h (fun _ e => e)).open hcz
        cases e8
        exact hfz8
      have htw := hV.ty zs[c] (List.getElem_mem hcz)
      have hkk : k ≤ 3 := by omega
      have hdd : Upto (isT T) w6 w6.drew := hd.mono (fun _ _ e => e.elim)
      obtain ⟨x0, x1, x2, x3⟩ := hC _ hdd
      obtain ⟨Y, hY⟩ : ∃ q, q = zs[c].type := ⟨_, rfl⟩
      rw [← hY] at hRt htw
      have HY := hid hY
      clear hY hd hTd p0 p1 p2 p3 p4 p5 hfz hfz0 hfz1 hfz2 hfz3 hfz4 hfz5
      go_upto_region 20 with fail
      go_region_law (first
        | ((rw [if_pos (by rfl)]); go_simp; (go_at_call 30); (with_reducible refine NA.mono ?_); rintro e wA ⟨⟨cA, hcA, rfl⟩, hTA, hUA⟩; have hU6A := hdd.trans hUA (fun _ _ e => e); clear x0 x1 x2 x3; obtain ⟨x0, x1, x2, x3⟩ := hC _ hU6A)
        | ((rw [if_pos (by rfl)]); go_simp; (go_at_call 30); (with_reducible refine (next_any 99 (by omega) (by omega) T wA hTA).mono ?_); rintro e wB ⟨⟨cB, hcB, rfl⟩, hTB, hUB⟩; have hU6B := hU6A.trans hUB (fun _ _ e => e); have hRB := Rep.keep hU6B (fun _ e => .inr e) _ _ hRt; clear x0 x1 x2 x3; obtain ⟨x0, x1, x2, x3⟩ := hC _ hU6B)
        | ((rw [if_pos (by rfl)]); go_simp; (go_at_call 33); (with_reducible refine (spoil_any Y (by omega) (fun b => b = g ∨ isT T b) _ _ wB _ hRB).mono ?_); rintro e wS ⟨kS, iS, nS', aS, lS, qS, tS, rfl, hRS, hwS, hUS⟩; have hU6S := hU6B.trans hUS (fun _ _ e => e.elim); clear x0 x1 x2 x3; obtain ⟨x0, x1, x2, x3⟩ := hC _ hU6S; have y1 := hFz _ hU6S (c * 6 + 1); have y2 := hFz _ hU6S (c * 6 + 1 + 1); have y3 := hFz _ hU6S (c * 6 + 1 + 2); have y4 := hFz _ hU6S (c * 6 + 1 + 3)))
      all_goals
        obtain ⟨w8, hw8⟩ : ∃ q, q = (((wS.setCell ⟨g, c * 6 + 1, none⟩ (.int .i64 kS)).setCell ⟨g, c * 6 + 1 + 1, none⟩ (.string (B nS'))).setCell ⟨g, c * 6 + 1 + 2, none⟩ (.int .i64 iS)).setCell ⟨g, c * 6 + 1 + 3, none⟩ (.slice aS lS qS) := ⟨_, rfl⟩
        rw [← hw8]
        have hgR := HX.out.2
        have hzB := hU6B.size
        have hset := (hP6.keep hU6S (fun _ e => e)).setT (j := c) (t := tS) hcz (Rep.weaken (fun b _ e => ⟨e, by simp only [isT] at e; omega⟩) _ _ hRS) hw8
        have hT8 := (hTB.on hUS).far hset.2 (fun b e => by have := HX.out.1; omega)
        have hK8 := (hK6.keep hU6S).far hset.2 (fun b e => by have := HX.out.1; omega)
        have hU08 := (hU06.trans hU6S (fun b hb e => by simp only [isT] at e; omega)).trans hset.2 (fun b hb e => by have := HX.out.1; omega)
        have hV8 : Vst (k + 1) (zs.set c ⟨zs[c].name, tS, zs[c].value⟩) := hV.put (hV.nm zs[c] (List.getElem_mem hcz)) (by simp only; omega) (hV.more.vl zs[c] (List.getElem_mem hcz))
        have HF := hid (And.intro hV8 (And.intro hset.1 (And.intro hT8 (And.intro hK8 hU08))))
        clear hV8 hset hT8 hK8 hU08 hw8 hU6A hU6B hU6S hRB hRS hTA hUA hTB hUB hUS hU06 hK6 hT6 hP6 hFz hC hRt NA x0 x1 x2 x3 y1 y2 y3 y4
        go_wp2_with fail
        go_roundw
        case rel => exact ⟨k + 1, n - 1, _, by go_num, by omega, by rw [List.length_set, HZ.out], HF.out.1, HF.out.2.1, HF.out.2.2.1, HF.out.2.2.2.1, HF.out.2.2.2.2⟩
        case measure => simp [intOf]; omega
end Go.Proofs.YtdomloghcpfdjaaGreatDoor
