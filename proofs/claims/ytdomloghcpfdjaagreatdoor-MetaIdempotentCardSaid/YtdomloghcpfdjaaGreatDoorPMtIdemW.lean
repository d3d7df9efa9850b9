/- MetaIdempotent: its walk. -/
import Derived.Test.YtdomloghcpfdjaaGreatDoorPFR
import Derived.Test.YtdomloghcpfdjaaGreatDoorPFL
import Derived.Test.YtdomloghcpfdjaaGreatDoorPFJ
import Derived.Test.YtdomloghcpfdjaaGreatDoorPFG
import Derived.Test.YtdomloghcpfdjaaGreatDoorPFD
import Derived.Test.YtdomloghcpfdjaaGreatDoorPCG
import Derived.Test.YtdomloghcpfdjaaGreatDoorPFC
import Derived.Test.YtdomloghcpfdjaaGreatDoorPCH
namespace Go.LF
open Tm Go.Proofs.YtdomloghcpfdjaaGreatDoor
theorem Plz.stR {l : List Mv} (h : Plz l) : StR l := by
  refine ⟨h.stOk, fun m hm => by have := (h.val m hm).1; omega, fun m hm => ?_, by have := h.len; omega⟩
  have h3 := (h.val m hm).1
  unfold nextV
  rw [List.length_append]
  have h4 := metas_size13 m.type
  have h5 := (wf_any3 (h.typ m hm)).2.1
  have h6 : (m.value.flatMap Tm.metas).length ≤ 4096 := by
    match hv : m.value, h3 with
    | [], _ => simp
    | [v], _ =>
      have h7 := metas_size13 v
      have h8 := (wf_any3 (h.vals m hm v (by rw [hv]; simp))).2.1
      simp only [List.flatMap_cons, List.flatMap_nil, List.append_nil]
      omega
  omega
theorem exp_unsolved {l : List Mv} (hP : Plz l) {t : Tm} (he : expE l t = 0) : ∀ i ∈ Tm.metas (expT l t), ∃ p : Nat, i = (p : Int) ∧ ∃ h : p < l.length, l[p].value = [] := by
  intro i hi
  have h1 := (metas_ge i hi).1
  obtain ⟨hw, _, h2⟩ := expT_parts hP he
  have h2 := h2 i hi
  have hu : Us l (expT l t) := by unfold expT; rw [if_pos he]; exact exF_us l 16385 t 0
  have h3 := (nal_metas (N := fun i => slv l 6 i = none) _ hw).1 (nal_imp (fun k n i z h e => by rw [← e]; exact h) _ hu) i hi
  refine ⟨i.toNat, by omega, by omega, ?_⟩
  unfold slv at h3
  rw [if_pos ⟨rfl, h1⟩, List.getElem?_eq_getElem (by omega)] at h3
  simp only at h3
  by_cases hv : l[i.toNat].value = []
  · exact hv
  · rw [if_neg hv] at h3; cases h3
end Go.LF
namespace Go.Proofs.YtdomloghcpfdjaaGreatDoor
open Go.RowKit Go.LF
set_option maxRecDepth 100000 in
set_option maxHeartbeats 16000000 in
theorem metaIdempotent_walk (l0 : List Int) (a0 : Option Addr) (len0 cap0 : Nat) (hl0 : l0.length = len0) (hlen0 : len0 ≤ 17592186044416) (m0 : List Int) (b0 : Option Addr) (len1 cap1 : Nat) (hl1 : m0.length = len1) (hlen1 : len1 ≤ 17592186044416) (w : World) (hE0 : RepE none' w 1 (l0.map (Dat.int .i64)) a0 0) (hE1 : RepE none' w 1 (m0.map (Dat.int .i64)) b0 0) (hN : NamesRead w) :
    Calls Tryz.prog 7 #[.slice a0 len0 cap0, .slice b0 len1 cap1] w fun e w' => e = .returned (.bool true) ∧ Upto none' w w' := by
  have PL := play_any l0 a0 len0 cap0 hl0 hlen0 w hE0 hN
  clear hE0 hl0
  go_enter Tryz.func7, Tryz.ntmps7
  go_wp2_with fail
  (with_reducible refine PL.mono ?_)
  rintro e w1 ⟨L, va, vc, rfl, hP, hlc, hL, hU1⟩
  have hL40 := hP.len
  obtain ⟨Ll, hLl⟩ : ∃ Ll, Ll = L.length := ⟨_, rfl⟩
  rw [← hLl] at hL40 hlc
  rw [← hLl]
  have HLl := hid hLl
  have hLi : (Ll : Int) ≤ 40 := by omega
  have TM := terms13_any m0 Ll (by omega) b0 len1 cap1 hl1 hlen1 w1 (hE1.on hU1) (by obtain ⟨v, h1, h2⟩ := hN; exact ⟨v, hU1.cell h1 (fun x => x), h2.on hU1⟩)
  clear hLl hE1 hN PL hl1
  go_wp2_with fail
  (with_reducible refine TM.mono ?_)
  rintro e w2 ⟨ts, ta, tc, rfl, htc, htl3, hfit, hTs, hU2⟩
  have hts : ∀ t ∈ ts, t.wt ≤ 1000000 ∧ (t.wf = 0 → (∀ i ∈ Tm.metas t, i < L.length) → Kn L.length t) := fun t ht => ⟨by have := (hfit t ht).wt; omega, fun h1 h2 => kn_metas t h1 (by have := (hfit t ht).size; omega) h2⟩
  have hn2 : ∀ t ∈ ts, Tm.nal (fun _ _ _ z => z ≤ 200) t := fun t ht => Tm.nal_size t (by have := (hfit t ht).size; omega)
  have hU12 := hU1.and hU2
  have hL2 := hL.on hU2
  obtain ⟨KP, hKP⟩ : ∃ KP : Tm → Prop, ∀ t, KP t ↔ (t.wt ≤ 1000000 ∧ (t.wf = 0 → (∀ i ∈ Tm.metas t, i < L.length) → Kn L.length t)) := ⟨_, fun _ => Iff.rfl⟩
  have HKP := hid hKP
  have EX := fun (W : World) (h : Upto none' w2 W) (t : Tm) (hk : KP t) (cs : List Value) hr => expand_any none' L hP.good t ((hKP t).1 hk).1 ((hKP t).1 hk).2 W (fun _ e => e.elim) va vc cs (hL2.on h) hr
  have CN := fun (W : World) (h : Upto none' w2 W) => canon_any L hP.plz ts hts (by omega) W va vc ta tc (hL2.on h) (hTs.on h)
  rw [← HLl.out] at EX CN
  have hx2 : ∀ t ∈ ts, expE L t = 0 → ((expT L t).wt ≤ 1000000 ∧ ((expT L t).wf = 0 → (∀ i ∈ Tm.metas (expT L t), i < L.length) → Kn L.length (expT L t))) ∧ expE L (expT L t) = 0 ∧ expT L (expT L t) = expT L t := fun t ht he => by
    obtain ⟨e1, e2⟩ := exp_again (expE_wf he).2.1 hP.good he
    exact ⟨⟨(expT_parts hP.plz he).2.1, fun h1 h2 => nal_and _ ((nal_metas _ h1).2 h2) (expT_kn hP.plz (hn2 t ht))⟩, e1, e2⟩
  have hagain := fun h => canon_again hP.plz hn2 h
  obtain ⟨hsk, hst, htn, _⟩ := can_facts hP.plz ts
  have HH := hid (And.intro hts (And.intro hx2 (And.intro hagain (And.intro hsk (And.intro hst htn)))))
  obtain ⟨tl, htl⟩ : ∃ tl, tl = ts.length := ⟨_, rfl⟩
  have HTL := hid htl
  rw [← htl] at htl3 CN
  rw [← htl]
  have hti : (tl : Int) ≤ 3 := by omega
  clear hts hx2 hagain hsk hst htn hn2 hfit hL TM htl hKP
  go_wp2_with fail
  go_loopw [8] (fun v8 wr => ∃ (j : Nat), v8 = .int .i64 (j : Int) ∧ j ≤ tl ∧ Upto none' w2 wr) (fun v8 _ => tl - (intOf v8).toNat)
  case atStart => exact ⟨0, rfl, Nat.zero_le _, Upto.refl _ _⟩
  case round =>
    obtain ⟨j, rfl, hj, hU⟩ := hrel
    have hj3 : (j : Int) ≤ 3 := by omega
    by_cases hlt : j < tl
    · have hjl : j < ts.length := by have := HTL.out; omega
      obtain ⟨eb, eo, ek, en, ex, es, ec, rfl, hebl, heO, p0, p1, p2, p3, hRp⟩ := arg_tm (hTs.on hU) j hjl
      have hjb : (j : Int) < (tl : Int) := by omega
      have htj := List.getElem_mem hjl
      have EXj := EX wr hU ts[j] ((HKP.out _).2 (HH.out.1 _ htj)) _ hRp
      have hx2 := HH.out.2.1 _ htj
      have hun := fun h => exp_unsolved hP.plz (t := ts[j]'hjl) h
      have hsz := exp_size hP.plz ts[j]
      generalize expE L ts[j] = E at *
      generalize expT L ts[j] = X at *
      generalize ts[j].args.length = el at *
      have HX := hid (And.intro hx2 hun)
      clear hx2 hun
      go_wp2_with fail
      (with_reducible refine EXj.mono ?_)
      rintro e w4 ⟨k4, i4, n4, a4, l4, c4, rfl, hR4, hU4⟩
      obtain ⟨w5, hw5⟩ : ∃ w5, w5 = w4.alloc (.cells #[.int .i64 k4, .string (B n4), .int .i64 i4, .slice a4 l4 c4] 29) := ⟨_, rfl⟩
      have hU5 : Upto none' w4 w5 := by rw [hw5]; exact (Upto.refl none' _).alloc _
      have hb5 : Box4 w5 w4.heap.size (.int .i64 k4) (.string (B n4)) (.int .i64 i4) (.slice a4 l4 c4) 29 := by rw [hw5]; exact Box4.at_new rfl
      obtain ⟨P, hPz⟩ : ∃ P, P = w4.heap.size := ⟨_, rfl⟩
      rw [← hPz] at hb5
      have HPz := hid hPz
      have HW5 := hid hw5
      have hUr5 := hU4.and hU5
      have hR5 := hR4.on hU5
      have hU25 := hU.and hUr5
      clear EXj hw5 hPz p0 p1 p2 p3 hR4 hU5 hU4
      go_upto_region 9 with fail
      rw [← HPz.out, ← HW5.out]
      by_cases hE : E = 0
      case neg =>
        have he' : (E != 0) = true := by simpa using hE
        have hUw5 := hU12.and hU25
        clear hE EX CN
        go_wp2_with fail
        (with_reducible refine (awake13 w5).mono ?_)
        rintro e w8 ⟨rfl, hU8⟩
        have hU13 := hUw5.and hU8
        go_wp2_with fail
        go_ret
        exact ⟨rfl, hU13⟩
      subst hE
      obtain ⟨hkx, hx1, hx2⟩ := HX.out.1 rfl
      have EX2 := EX w5 hU25 X ((HKP.out X).2 hkx) _ hR5
      rw [hx1, hx2] at EX2
      have MT := fun (W : World) (h : Upto none' w5 W) => refMetas_any X hkx.1 W _ (hR5.on h)
      have HU := hid (HX.out.2 rfl)
      obtain ⟨b0', b1', b2', b3'⟩ := hb5.cells
      clear hkx hx1 hx2 HX
      go_wp2_with fail
      (with_reducible refine EX2.mono ?_)
      rintro e w6 ⟨k6, i6, n6, a6, l6, c6, rfl, hR6, hU6⟩
      have hal : Upto none' w6 (w6.alloc (.cells #[.int .i64 k6, .string (B n6), .int .i64 i6, .slice a6 l6 c6] 29)) := (Upto.refl none' _).alloc _
      have SM := refSame_any X hsz X (w6.alloc (.cells #[.int .i64 k6, .string (B n6), .int .i64 i6, .slice a6 l6 c6] 29)) _ _ (hR5.on (hU6.and hal)) (hR6.on hal)
      rw [Tm.same_refl] at SM
      have hU56 := hU6.and hal
      clear EX2 b0' b1' b2' b3'
      obtain ⟨x0, x1, x2, x3⟩ := (hb5.kept hU56).cells
      go_wp2_with fail
      (with_reducible refine SM.mono ?_)
      rintro e w7 ⟨rfl, hU7⟩
      have hU57 := hU56.and hU7
      have MT7 := MT w7 hU57
      clear SM x0 x1 x2 x3 hal hU6 MT
      obtain ⟨x0, x1, x2, x3⟩ := (hb5.kept hU57).cells
      go_wp2_with fail
      (with_reducible refine MT7.mono ?_)
      rintro e w8 ⟨v, rfl, hI, hU8⟩
      obtain ⟨ma, mc, rfl, hmc, hmE⟩ := ints_open hI.rep
      have hmE8 : RepE none' w8 1 ((Tm.metas X).map (Dat.int .i64)) ma 0 := RepE.weaken (fun _ _ e => e.elim) _ _ _ _ hmE
      have hU28 := hU25.and (hU57.and hU8)
      have hml : (Tm.metas X).length ≤ 1000000 := by have := metas_size13 X; omega
      obtain ⟨ms, hms⟩ : ∃ ms, ms = Tm.metas X := ⟨_, rfl⟩
      have HU2 := HU.out
      rw [← hms] at hmE8 hml hmc HU2
      rw [← hms]
      obtain ⟨ml, hml'⟩ : ∃ ml, ml = ms.length := ⟨_, rfl⟩
      rw [← hml'] at hml hmc
      rw [← hml']
      have HML := hid hml'
      have HUU := hid HU2
      have hmi : (ml : Int) ≤ 1000000 := by omega
      obtain ⟨wq, hwq⟩ : ∃ wq, wq = wr := ⟨_, rfl⟩
      clear MT7 x0 x1 x2 x3 hI hmE hms hml' HU2 HU hR5 hR6 hb5 hU57 hU8 hU7 hU56 hsz hRp
      go_wp2_with fail
      go_loopw [14] (fun v14 wx => ∃ (q : Nat), v14 = .int .i64 (q : Int) ∧ q ≤ ml ∧ w8 = wx) (fun v14 _ => ml - (intOf v14).toNat)
      case atStart => exact ⟨0, rfl, Nat.zero_le _, rfl⟩
      case round =>
        obtain ⟨q, rfl, hq, rfl⟩ := hrel
        have hqi : (q : Int) ≤ 1000000 := by omega
        by_cases hql : q < ml
        · have hql2 : q < ms.length := by have := HML.out; omega
          obtain ⟨b, ofs, rfl, hbl, _, hcell⟩ := int_cell hmE8 q hql2
          obtain ⟨p, hp, hpl, hpv⟩ := HUU.out _ (List.getElem_mem hql2)
          rw [hp] at hcell
          obtain ⟨b2, o2, k2, n2, ix2, aa2, cap2, va2, vc2, rfl, hb2l, hb2O, ⟨d0, d1, d2, d3, d4, d5⟩, -, -, -⟩ := arg_mv (hL2.on hU28) p hpl
          rw [hpv] at d5
          simp only [List.length_nil] at d5
          have hqb : (q : Int) < (ml : Int) := by omega
          have hpb : (p : Int) < (Ll : Int) := by have := HLl.out; omega
          have hpm : (p : Int) ≤ 40 := by omega
          clear hp hpv hpl d0 d1 d2 d3 d4
          go_wp2_with fail
          go_roundw
          case rel => exact ⟨q + 1, by go_num, by omega, by first | trivial | rfl⟩
          case measure => simp [intOf]; omega
        · have hqb : ¬ (q : Int) < (ml : Int) := by omega
          go_wp2_with fail
          go_roundw
          case rel => exact ⟨j + 1, by go_num, by omega, hU28⟩
          case measure => simp [intOf]; omega
    · have hjn : ¬ (j : Int) < (tl : Int) := by omega
      have CNw := CN wr hU
      obtain ⟨_, _, hagain, hsk, hst, htn⟩ := HH.out
      have SST := fun (W : World) a a2 c c2 h1 h2 => sameStore_same (canK L ts) hsk W a a2 c c2 h1 h2
      have SA := fun (W : World) a a2 c c2 h1 h2 => refSameAll_same (canT L ts) hst (by have := HTL.out; omega) W a a2 c c2 h1 h2
      have CN2 := fun (h : unsE L ts = 0) (W : World) a a2 c c2 h1 h2 => canon_any (canK L ts) (hagain h).1 (canT L ts) (fun t ht => ⟨by have := Tm.wf_wt65 ((hagain h).2.2.2.2.2 t ht).1; omega, fun h1 h2 => nal_and _ ((nal_metas _ h1).2 h2) ((hagain h).2.2.2.2.2 t ht).2⟩) (by have := HTL.out; omega) W a c a2 c2 h1 h2
      have VL := fun (h : unsE L ts = 0) (W : World) a c h1 => valid13_any (canK L ts) (hagain h).1.stR (hagain h).1.names W a c h1
      have hv := fun (h : unsE L ts = 0) => (hagain h).1.valid
      have he2 := fun (h : unsE L ts = 0) => (hagain h).2.1
      have he3 := fun (h : unsE L ts = 0) => (hagain h).2.2.1
      have he4 := fun (h : unsE L ts = 0) => (hagain h).2.2.2.1
      clear hagain hsk hst htn EX CN
      go_wp2_with fail
      (with_reducible refine CNw.mono ?_)
      rintro e w4 ⟨ka, xa, kc, xc, rfl, ⟨hkc, hxc⟩, hK4, hX4, hU4⟩
      have hUw4 := hU12.and (hU.and hU4)
      clear CNw
      by_cases hE : unsE L ts = 0
      case neg =>
        generalize unsE L ts = ue at *
        have he' : (ue != 0) = true := by simpa using hE
        clear hE CN2 VL hv he2 he3 he4
        go_wp2_with fail
        (with_reducible refine (awake13 w4).mono ?_)
        rintro e w8 ⟨rfl, hU8⟩
        have hU13 := hUw4.and hU8
        go_wp2_with fail
        go_ret
        exact ⟨rfl, hU13⟩
      have CNx := CN2 hE w4 ka xa kc xc hK4 hX4
      have VLx := fun (W : World) h => VL hE W ka kc h
      rw [he2 hE, he3 hE, he4 hE] at CNx
      rw [hv hE] at VLx
      simp only at VLx
      clear CN2 VL hv he2 he3 he4
      rw [hE]
      obtain ⟨ck, hck⟩ : ∃ u, u = canK L ts := ⟨_, rfl⟩
      obtain ⟨ct, hct⟩ : ∃ u, u = canT L ts := ⟨_, rfl⟩
      rw [← hck, ← hct] at CNx
      rw [← hck] at VLx SST hK4 hkc
      rw [← hct] at SA hX4 hxc
      rw [← hck, ← hct]
      clear hE hck hct
      obtain ⟨ckl, hckl⟩ : ∃ u, u = ck.length := ⟨_, rfl⟩
      obtain ⟨ctl, hctl⟩ : ∃ u, u = ct.length := ⟨_, rfl⟩
      have HCL := hid (And.intro hckl hctl)
      rw [← hckl, ← hctl] at CNx
      rw [← hckl] at VLx SST
      rw [← hctl] at SA
      rw [← hckl, ← hctl]
      clear hckl hctl
      go_wp2_with fail
      (with_reducible refine CNx.mono ?_)
      rintro e w5 ⟨kb, xb, kd, xd, rfl, ⟨hkd, hxd⟩, hK5, hX5, hU5⟩
      have VLw := VLx w5 (hK4.on hU5)
      rw [← HCL.out.1, ← HCL.out.2]
      clear CNx VLx
      go_wp2_with fail
      (with_reducible refine VLw.mono ?_)
      rintro e w6 ⟨rfl, hU6⟩
      have SSw := SST w6 ka kb kc kd (hK4.on (hU5.and hU6)) (hK5.on hU6)
      clear VLw SST
      go_wp2_with fail
      (with_reducible refine SSw.mono ?_)
      rintro e w7 ⟨rfl, hU7⟩
      have SAw := SA w7 xa xb xc xd (hX4.on (hU5.and (hU6.and hU7))) (hX5.on (hU6.and hU7))
      clear SSw SA
      go_wp2_with fail
      (with_reducible refine SAw.mono ?_)
      rintro e w8 ⟨rfl, hU8⟩
      have hUw8 := hUw4.and ((hU5.and hU6).and (hU7.and hU8))
      clear SAw
      go_wp2_with fail
      (with_reducible refine (awake13 w8).mono ?_)
      rintro e w9 ⟨rfl, hU9⟩
      have hUw9 := hUw8.and hU9
      go_wp2_with fail
      go_ret
      exact ⟨rfl, hUw9⟩
end Go.Proofs.YtdomloghcpfdjaaGreatDoor
