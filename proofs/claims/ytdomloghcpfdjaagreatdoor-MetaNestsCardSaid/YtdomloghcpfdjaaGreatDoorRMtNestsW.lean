/- MetaNests: its walk. -/
import Derived.Test.YtdomloghcpfdjaaGreatDoorRFR
import Derived.Test.YtdomloghcpfdjaaGreatDoorRFB
import Derived.Test.YtdomloghcpfdjaaGreatDoorRFG
import Derived.Test.YtdomloghcpfdjaaGreatDoorRCH
import Derived.Test.YtdomloghcpfdjaaGreatDoorRCG
import Derived.Test.YtdomloghcpfdjaaGreatDoorRFQ
import Derived.Test.YtdomloghcpfdjaaGreatDoorRFL
import Derived.Test.YtdomloghcpfdjaaGreatDoorREA
import Derived.Deep.CutRange
namespace Go.Proofs.YtdomloghcpfdjaaGreatDoor
open Go.RowKit Go.LF
set_option maxRecDepth 100000 in
set_option maxHeartbeats 8000000 in
theorem metaNests_walk (l0 : List Int) (a0 : Option Addr) (len0 cap0 : Nat) (hl0 : l0.length = len0) (hlen0 : len0 ≤ 17592186044416) (m0 : List Int) (b0 : Option Addr) (len1 cap1 : Nat) (hl1 : m0.length = len1) (hlen1 : len1 ≤ 17592186044416) (w : World) (hE0 : RepE none' w 1 (l0.map (Dat.int .i64)) a0 0) (hE1 : RepE none' w 1 (m0.map (Dat.int .i64)) b0 0) (hN : NamesRead w) :
    Calls Tryz.prog 9 #[.slice a0 len0 cap0, .slice b0 len1 cap1] w fun e w' => e = .returned (.bool true) ∧ Upto none' w w' := by
  obtain ⟨i0, hi, hi0, hi1, hi2⟩ := info_parts info_term
  have PL := play_any l0 a0 len0 cap0 hl0 hlen0 w hE0 hN
  clear hE0 hl0
  go_enter Tryz.func9, Tryz.ntmps9
  go_wp2_with fail
  (with_reducible refine PL.mono ?_)
  rintro e w1 ⟨L, va, vc, rfl, hP, hlc, hL, hU1⟩
  obtain ⟨w2, hw2⟩ : ∃ w2, w2 = w1.alloc (.cells #[.slice b0 len1 cap1, .int .i64 0] 26) := ⟨_, rfl⟩
  have hU2 : Upto none' w1 w2 := by rw [hw2]; exact (Upto.refl none' _).alloc _
  have hT2 : TapeOk w2 w1.heap.size := by
    rw [hw2]
    exact tape_new (w := w1) (cap := cap1) (U := 26) hl1 hlen1 (hE1.on hU1)
  have hK2 : NamesOk w1.heap.size w2 := hN.ok (hU1.and hU2) hU1.size
  have hL2f := (RepE.fresh' _ _ _ _ hL).on hU2
  obtain ⟨T, hT⟩ : ∃ T, T = w1.heap.size := ⟨_, rfl⟩
  rw [← hT] at hT2 hK2 hL2f
  have HT := hid hT
  have HW2 := hid hw2
  have hL40 := hP.len
  obtain ⟨Ll, hLl⟩ : ∃ Ll, Ll = L.length := ⟨_, rfl⟩
  rw [← hLl] at hL40 hlc
  rw [← hLl]
  have HLl := hid hLl
  have hLi : (Ll : Int) ≤ 40 := by omega
  have hU12 := hU1.and hU2
  have hL2 : RepE (isT T) w2 6 (L.map Mv.dat) va 0 := RepE.weaken (fun b _ e => .inr (by simp only [isT] at e; omega)) _ _ _ _ hL2f
  have T1 := term2_any 2 (by omega) 2 Ll (by omega) (by omega) T w2 hT2 hK2
  rw [show ((2 + 1 : Nat) : Int) = 3 from rfl, show ((2 : Nat) : Int) = 2 from rfl] at T1
  have hTl := hT2.lt
  clear hw2 hT hLl hL hE1 hN PL hl1 hL2f hT2 hK2
  go_upto_region 4 with fail
  go_wp2_with fail
  rw [← HT.out, ← HW2.out]
  (with_reducible refine T1.mono ?_)
  rintro e w3 ⟨ku, iu, nu, au, lu, qu, u, rfl, hRu, hFu, hT3, hK3, hU3, hu2⟩
  have hL3 : RepE none' w3 6 (L.map Mv.dat) va 0 := RepE.weaken (O := isT T) (fun _ _ e => e.elim) _ _ _ _ (RepE.keep hU3 (fun _ e => e) _ _ _ _ hL2)
  have hUw3 : Upto none' w w3 := hU12.trans hU3 (fun b hb e => by have := HT.out; have := hU1.size; simp only [isT] at e; omega)
  have hRu0 := rep_pre hRu
  have huw : u.wt ≤ 75 := by have := hFu.wt; omega
  have hus : u.size ≤ 15 := by have := hFu.size; omega
  have huo := hFu.obj
  obtain ⟨k, n, i, ps, rfl⟩ : ∃ k n i ps, u = .mk k n i ps := by cases u with | mk k n i ps => exact ⟨k, n, i, ps, rfl⟩
  obtain ⟨ta, tc, he, htc, hTs⟩ := rep_tm.1 hRu0
  simp only [List.cons.injEq, Value.slice.injEq, Value.int.injEq, Value.string.injEq, and_true, true_and] at he
  obtain ⟨hk1, hn1, hix, hau, hlu, hqu⟩ := he
  have hk1 := hk1.symm
  have hix := hix.symm
  subst hk1 hix hau hqu
  rw [hn1] at hRu0
  rw [hn1]
  obtain ⟨pl, hpl⟩ : ∃ pl, pl = ps.length := ⟨_, rfl⟩
  rw [← hpl] at hlu htc
  have hlu := hlu.symm
  subst hlu
  have hpl2 : pl ≤ 2 := by rw [hpl]; exact hu2
  have HPL := hid hpl
  have hfact := fun (h : expE L (.mk k n i ps) = 0) => nests hP.good huo h
  have hkn : ∀ t : Tm, t.size ≤ 200 → t.wf = 0 → (∀ i ∈ Tm.metas t, i < L.length) → Kn L.length t := fun t hs h1 h2 => kn_metas t h1 hs h2
  have hps : ∀ t ∈ ps, t.size ≤ 200 ∧ t.wt ≤ 75 := fun t ht => by
    have h1 := Tm.size_le_sizes ht
    have h2 := Tm.wt_le_wts ht
    rw [Tm.size_mk] at hus
    rw [Tm.wt_mk] at huw
    exact ⟨by omega, by omega⟩
  have hnw : n.length ≤ 75 := by rw [Tm.wt_mk] at huw; omega
  obtain ⟨w4, hw4⟩ : ∃ w4, w4 = w3.alloc (.cells #[.int .i64 k, .string (B n), .int .i64 i, .slice au pl qu] 29) := ⟨_, rfl⟩
  have hU4 : Upto none' w3 w4 := by rw [hw4]; exact (Upto.refl none' _).alloc _
  have hbu : Box4 w4 w3.heap.size (.int .i64 k) (.string (B n)) (.int .i64 i) (.slice au pl qu) 29 := by rw [hw4]; exact Box4.at_new rfl
  obtain ⟨U, hU⟩ : ∃ U, U = w3.heap.size := ⟨_, rfl⟩
  rw [← hU] at hbu
  have HU := hid hU
  have HW4 := hid hw4
  have hL4 := (RepE.fresh' _ _ _ _ hL3).on hU4
  have hTs4 := (RepE.fresh' _ _ _ _ hTs).on hU4
  rw [← hU] at hL4 hTs4
  have EX := expand_any none' L hP.good (.mk k n i ps) (by omega) (hkn _ (by omega)) w4 (fun _ e => e.elim) va vc _ (RepE.weaken (fun _ _ e => e.elim) _ _ _ _ hL4) (hRu0.on hU4)
  rw [← HLl.out] at EX
  obtain ⟨E, hE⟩ : ∃ E, E = expE L (.mk k n i ps) := ⟨_, rfl⟩
  obtain ⟨X, hXX⟩ : ∃ X, X = expT L (.mk k n i ps) := ⟨_, rfl⟩
  rw [← hE, ← hXX] at EX
  rw [← hE, ← hXX] at hfact
  have hXw : E = 0 → X.wf = 0 := fun h => by rw [hXX]; exact (expT_parts hP.plz (by rw [← hE]; exact h)).1
  have HF := hid (And.intro hfact (And.intro hkn (And.intro hps (And.intro hnw hXw))))
  have hUw4 := hUw3.and hU4
  clear hw4 hU hL3 hTs hU4 hUw3 hRu0 T1 hRu hFu hT3 hK3 hU3 hL2 huo hus huw hu2 hfact hkn hps hnw hE hXX hXw hpl hn1
  obtain ⟨t0, t1, t2, t3⟩ := hbu.cells
  go_upto_region 5 with fail
  rw [← HU.out, ← HW4.out]
  go_wp2_with fail
  (with_reducible refine EX.mono ?_)
  rintro e w5 ⟨k5, i5, n5, a5, l5, c5, rfl, hR5, hU5⟩
  obtain ⟨w6, hw6⟩ : ∃ w6, w6 = w5.alloc (.cells #[.int .i64 k5, .string (B n5), .int .i64 i5, .slice a5 l5 c5] 29) := ⟨_, rfl⟩
  have hU6 : Upto none' w5 w6 := by rw [hw6]; exact (Upto.refl none' _).alloc _
  have hbx : Box4 w6 w5.heap.size (.int .i64 k5) (.string (B n5)) (.int .i64 i5) (.slice a5 l5 c5) 29 := by rw [hw6]; exact Box4.at_new rfl
  obtain ⟨G, hG⟩ : ∃ G, G = w5.heap.size := ⟨_, rfl⟩
  rw [← hG] at hbx
  have HG := hid hG
  have HW6 := hid hw6
  have hUG : U < G := by have := hbu.lt; have := hU5.size; omega
  have hU46 := hU5.and hU6
  have hbu6 := hbu.kept hU46
  have hL6 := hL4.on hU46
  have hTs6 := hTs4.on hU46
  have hR6 := hR5.on hU6
  have hUw6 := hUw4.and hU46
  have hz6 : w6.heap.size = G + 1 := by rw [hw6, hG]; simp
  clear EX t0 t1 t2 t3 hw6 hG hbu hL4 hTs4 hR5 hU5 hU6 hU46 hUw4
  go_upto_region 6 with fail
  rw [← HG.out, ← HW6.out]
  by_cases hE0 : E = 0
  case neg =>
    have he' : (E != 0) = true := by simpa using hE0
    clear hE0
    go_wp2_with fail
    (with_reducible refine (awake13 w6).mono ?_)
    rintro e w8 ⟨rfl, hU8⟩
    have hU13 := hUw6.and hU8
    go_wp2_with fail
    go_ret
    exact ⟨rfl, hU13⟩
  subst hE0
  obtain ⟨hall, hnest⟩ := HF.out.1 rfl
  have HN := hid (And.intro hall hnest)
  clear hall hnest
  obtain ⟨w7, hw7⟩ : ∃ w7, w7 = w6.alloc (.cells #[.int .i64 k, .string (B n), .int .i64 i, .slice none 0 0] 29) := ⟨_, rfl⟩
  have hU7 : Upto none' w6 w7 := by rw [hw7]; exact (Upto.refl none' _).alloc _
  have hbo : Box4 w7 (G + 1) (.int .i64 k) (.string (B n)) (.int .i64 i) (.slice none 0 0) 29 := by rw [hw7]; exact Box4.at_new hz6
  have HW7 := hid hw7
  have hz7 : w7.heap.size = G + 2 := by rw [hw7]; simp [hz6]
  have hL7 := (RepE.fresh' _ _ _ _ hL6).on hU7
  have hTs7 := (RepE.fresh' _ _ _ _ hTs6).on hU7
  have hR7 := (Rep.fresh' _ _ hR6).on hU7
  have hbu7 := hbu6.kept hU7
  have hbx7 := hbx.kept hU7
  have hUw7 := hUw6.and hU7
  have hwG : w.heap.size ≤ G + 1 := by have := hUw6.size; omega
  have HZ := hid (And.intro hz6 (And.intro hz7 hwG))
  obtain ⟨t0, t1, t2, t3⟩ := hbu6.cells
  rw [hz6] at hL7 hTs7 hR7
  clear hwG hw7 hz7 hL6 hTs6 hR6 hbx hUw6 hU7
  go_upto_region 9 with fail
  rw [← HW7.out]
  clear hz6 t0 t1 t2 t3 hbu6
  go_wp2_with fail
  go_loopw [11] (fun v11 wr => ∃ (j : Nat) (v : Value) (css : List (List Value)), v11 = .int .i64 (j : Int) ∧ j ≤ pl ∧ Box4 wr (G + 1) (.int .i64 k) (.string (B n)) (.int .i64 i) v 29 ∧ RowD 29 4 (fun b => b = G + 1) (G + 2) wr v (((ps.take j).map (expT L)).map Tm.dat) css ∧ Upto (fun b => G + 1 ≤ b) w7 wr)
    (fun v11 _ => pl - (intOf v11).toNat)
  case atStart => exact ⟨0, _, [], rfl, Nat.zero_le _, hbo, by rw [List.take_zero]; exact RowD.nil _ _ _ _ _, Upto.refl _ _⟩
  case round =>
    clear hbo
    obtain ⟨j, v, css, rfl, hj, hbo, hD, hU⟩ := hrel
    have hbu8 := hbu7.keep hU (by omega)
    have hbx8 := hbx7.keep hU (by omega)
    have hzr := hU.size
    rw [HZ.out.2.1] at hzr
    have hj2 : (j : Int) ≤ 2 := by omega
    obtain ⟨t0, t1, t2, t3⟩ := hbu8.cells
    by_cases hlt : j < pl
    · have hjl : j < ps.length := by have := HPL.out; omega
      have hL8 := RepE.keep hU (fun b e => .inr e) _ _ _ _ hL7
      have hTs8 := RepE.keep hU (fun b e => .inr e) _ _ _ _ hTs7
      obtain ⟨eb, eo, ek, en, ex, es, ec, rfl, hebl, heO, p0, p1, p2, p3, hRp⟩ := arg_tm hTs8 j hjl
      have hvb := fun b e => hD.2.2.1.lt b e
      have wk : ∀ b, b < wr.heap.size → (b = G + 1 ∨ v.ownBlock = some b) → ((none' b ∨ U ≤ b) ∨ G + 1 ≤ b) := fun b _ e => by rcases e with e | e; (exact .inr (by omega)); exact .inr (by have := (hvb b e).1; omega)
      have hpj := HF.out.2.2.1 _ (List.getElem_mem hjl)
      have EXj := expand_any (fun b => b = G + 1 ∨ v.ownBlock = some b) L hP.good ps[j] (by omega) (HF.out.2.1 _ hpj.1) wr (fun b e => by rcases e with e | e; (omega); exact (hvb b e).2) va vc _ (RepE.weaken wk _ _ _ _ hL8) (Rep.weaken wk _ _ hRp)
      rw [← HLl.out, HN.out.1 _ (List.getElem_mem hjl)] at EXj
      have htk : (ps.take (j + 1)).map (expT L) = (ps.take j).map (expT L) ++ [expT L ps[j]] := by rw [List.take_succ_eq_append_getElem hjl, List.map_append]; rfl
      obtain ⟨Y, hY⟩ : ∃ Y, Y = expT L ps[j] := ⟨_, rfl⟩
      rw [← hY] at EXj htk
      have HTK := hid htk
      have hjb : (j : Int) < (pl : Int) := by omega
      have hdl : (((ps.take j).map (expT L)).map Tm.dat).length = j := by simp; omega
      have HDL := hid hdl
      generalize ps[j].args.length = el at *
      clear htk hY hpj wk hdl
      go_upto_region 12 with fail
      go_wp2_with fail
      (with_reducible refine EXj.mono ?_)
      rintro e w9 ⟨k9, i9, n9, a9, l9, c9, rfl, hR9, hU9⟩
      have hD9 := hD.on hU9 (fun b e => by omega)
      obtain ⟨w10, hw10⟩ : ∃ w10, w10 = w9.alloc (.cells #[.int .i64 k9, .string (B n9), .int .i64 i9, .slice a9 l9 c9] 29) := ⟨_, rfl⟩
      have hU10 : Upto none' w9 w10 := by rw [hw10]; exact (Upto.refl none' _).alloc _
      have hb10 : Box4 w10 w9.heap.size (.int .i64 k9) (.string (B n9)) (.int .i64 i9) (.slice a9 l9 c9) 29 := by rw [hw10]; exact Box4.at_new rfl
      obtain ⟨Q, hQ⟩ : ∃ Q, Q = w9.heap.size := ⟨_, rfl⟩
      rw [← hQ] at hb10
      have HQ := hid hQ
      have HW10 := hid hw10
      have hU910 := hU9.and hU10
      have hbo10 := hbo.kept hU910
      have hD10 := hD9.on hU10 (fun b e => by omega)
      have hR10 := hR9.on hU10
      have hz10 := hU910.size
      clear hw10 hQ EXj hD9 hR9 p0 p1 p2 p3 t0 t1 t2 t3
      obtain ⟨t0, t1, t2, t3⟩ := hb10.cells
      obtain ⟨o0, o1, o2, o3⟩ := hbo10.cells
      obtain ⟨f0, f1, f2, f3⟩ := hbo10.frozens
      have qo := hbo10.lt
      have hal : Upto none' w10 (w10.alloc (.cells #[.int .i64 k9, .string (B n9), .int .i64 i9, .slice a9 l9 c9] 29)) := (Upto.refl none' w10).alloc _
      have hDa := hD10.on hal (fun b e => by omega)
      have own := hDa.2.2.1
      rw [HDL.out] at own
      have hz10b : G + 2 ≤ w10.heap.size := by omega
      go_upto_region 13 with fail
      rw [← HQ.out, ← HW10.out]
      go_upto_region 15 with fail
      go_wp2_with (at_builtin; go_loud (refine wpList_append_lies _ (by rfl) _ _ 27 (by rfl) (G + 2) 29 i0 (.agg #[.int .i64 0, .string (B []), .int .i64 0, .slice none 0 0]) 4 56 (by kernel_rfl) hi hi0 hi1 hi2 rfl (by decide) v j css.flatten (by rfl) own ⟨w10.heap.size, 0, none⟩ 1 1 [.int .i64 k9, .string (B n9), .int .i64 i9, .slice a9 l9 c9] (by rfl) rfl (World.news_of_block (heap_alloc_new w10 _)) (by simp [Value.oneCell']) (by omega) (by simp only [maxLen]; omega) (by omega) (by simp; omega) _ rfl ?_); intro g cap' w11 hown hgrow hat _hg11; have hbo11 := (hbo10.kept hal).rowD hgrow hDa (by omega); obtain ⟨o0, o1, o2, o3⟩ := hbo11.cells; obtain ⟨f0, f1, f2, f3⟩ := hbo11.frozens; have qo := hbo11.lt)
      obtain ⟨w12, hw12⟩ : ∃ w12, w12 = w11.setCell ⟨G + 1, 3, none⟩ (.slice (some ⟨g, 0, none⟩) (j + 1) cap') := ⟨_, rfl⟩
      have hown8 : w11.ownsRow (G + 2) 29 4 (.slice (some ⟨g, 0, none⟩) ((((ps.take j).map (expT L)).map Tm.dat).length + 1) cap') ((((ps.take j).map (expT L)).map Tm.dat).length + 1) (css.flatten ++ [.int .i64 k9, .string (B n9), .int .i64 i9, .slice a9 l9 c9]) := by rw [HDL.out]; exact hown
      have hD11 := hDa.appended (d := Y.dat) rfl (hR10.on hal) hown8 hgrow hat (Nat.le_refl _)
      have hset : Upto (fun b => b = G + 1) w11 w12 := by rw [hw12]; exact Upto.set (Upto.refl _ _) 3 _
      have hbo12 : Box4 w12 (G + 1) (.int .i64 k) (.string (B n)) (.int .i64 i) (.slice (some ⟨g, 0, none⟩) (j + 1) cap') 29 := by rw [hw12]; exact hbo11.set3 _
      have hD12 := hD11.keep hset (fun b e => e) (fun b e => by omega)
      rw [show ((ps.take j).map (expT L)).map Tm.dat ++ [Y.dat] = ((ps.take (j + 1)).map (expT L)).map Tm.dat by rw [HTK.out]; simp, HDL.out] at hD12
      have hU12' : Upto (fun b => G + 1 ≤ b) w7 w12 := (((hU.trans hU910 (fun _ _ e => e.elim)).trans hal (fun _ _ e => e.elim)).trans (hDa.upto hgrow) (fun b hb e => by omega)).trans hset (fun b hb e => by omega)
      rw [← hw12]
      have HFI := hid (And.intro hbo12 (And.intro hD12 hU12'))
      clear hw12 hbo12 hD12 hU12' hset hD11 hown8 hown hgrow hat hbo11 o0 o1 o2 o3 f0 f1 f2 f3 own hDa hal hD10 hR10
      go_wp2_with fail
      go_roundw
      case rel => exact ⟨j + 1, _, _, by go_num, by omega, HFI.out.1, HFI.out.2.1, HFI.out.2.2⟩
      case measure => simp [intOf]; omega
    · have hje : ps.take j = ps := List.take_of_length_le (by have := HPL.out; omega)
      rw [hje] at hD
      have hjn : ¬ (j : Int) < (pl : Int) := by omega
      obtain ⟨a9, c9, rfl, hc9, hE9⟩ := hD.rep (fun b e => by omega)
      simp only [List.length_map] at hc9
      rw [List.length_map, List.length_map] at hbo
      have hnode : Rep none' wr (Tm.mk k n i (ps.map (expT L))).dat [.int .i64 k, .string (B n), .int .i64 i, .slice a9 ps.length c9] := rep_tm.2 ⟨_, _, by rw [List.length_map], by rw [List.length_map]; exact hc9, RepE.weaken (fun _ _ e => e.elim) _ _ _ _ hE9⟩
      rw [← HPL.out] at hbo hnode
      have hwf : ∀ t ∈ ps, (expT L t).wf = 0 := fun t ht => (expT_parts hP.plz (HN.out.1 t ht)).1
      have hwt : (Tm.mk k n i (ps.map (expT L))).wt ≤ 1000000 := by
        have key : ∀ qs : List Tm, (∀ t ∈ qs, (expT L t).wf = 0) → Tm.wts (qs.map (expT L)) ≤ 266240 * qs.length := by
          intro qs
          induction qs with
          | nil => intro _; simp [Tm.wts]
          | cons q qs ih =>
            intro hq
            have h1 := Tm.wf_wt65 (hq q (by simp))
            have h2 := ih (fun t ht => hq t (by simp [ht]))
            rw [List.map_cons, Tm.wts, List.length_cons, Nat.mul_add]
            omega
        have h1 := key ps hwf
        have h2 : 266240 * ps.length ≤ 266240 * 2 := Nat.mul_le_mul_left _ (by have := HPL.out; omega)
        have h3 := HF.out.2.2.2.1
        rw [Tm.wt_mk]
        omega
      have hknO : (Tm.mk k n i (ps.map (expT L))).wf = 0 → (∀ x ∈ Tm.metas (Tm.mk k n i (ps.map (expT L))), x < L.length) → Kn L.length (Tm.mk k n i (ps.map (expT L))) := fun h1 h2 => nal_and _ ((nal_metas _ h1).2 h2) ((Tm.nal_mk _ _ _ _).2 ⟨by rw [List.length_map]; have := HPL.out; omega, (Tm.nalA_iff _).2 (fun t ht => by
        obtain ⟨q, hq, rfl⟩ := List.mem_map.1 ht
        exact expT_kn hP.plz (Tm.nal_size _ (HF.out.2.2.1 q hq).1))⟩)
      have hn2 := HN.out.2
      obtain ⟨O, hO⟩ : ∃ O, O = Tm.mk k n i (ps.map (expT L)) := ⟨_, rfl⟩
      rw [← hO] at hnode hwt hknO hn2
      have WF := refWellFormed_any O hwt wr _ hnode
      have hL8 := RepE.weaken (O' := none') (fun _ _ e => e.elim) _ _ _ _ (RepE.keep hU (fun b e => .inr e) _ _ _ _ hL7)
      have hX8 := Rep.weaken (O' := none') (fun _ _ e => e.elim) _ _ (Rep.keep hU (fun b e => .inr e) _ _ hR7)
      have hUw8 : Upto none' w wr := hUw7.trans hU (fun b hb e => by have h1 := HZ.out.2.2; omega)
      obtain ⟨o0, o1, o2, o3⟩ := hbo.cells
      obtain ⟨q, hq⟩ : ∃ q, q = O.wf := ⟨_, rfl⟩
      rw [← hq] at WF
      have HQ := hid (And.intro hq (And.intro hn2 (And.intro hwt hknO)))
      clear hje hD hE9 hwf hknO hn2 hO hq hU
      go_wp2_with fail
      (with_reducible refine WF.mono ?_)
      rintro e w9 ⟨rfl, hU9⟩
      have hUw9 := hUw8.and hU9
      clear WF
      by_cases hq0 : q = 0
      case neg =>
        have hq' : (q != 0) = true := by simpa using hq0
        clear hq0
        go_wp2_with fail
        (with_reducible refine (awake13 w9).mono ?_)
        rintro e w10 ⟨rfl, hU10⟩
        have hU13 := hUw9.and hU10
        go_wp2_with fail
        go_ret
        exact ⟨rfl, hU13⟩
      subst hq0
      obtain ⟨g1, g2⟩ := HQ.out.2.1 HQ.out.1.symm
      have EX2 := expand_any none' L hP.good O HQ.out.2.2.1 HQ.out.2.2.2 w9 (fun _ e => e.elim) va vc _ (hL8.on hU9) (hnode.on hU9)
      rw [← HLl.out, g1, g2] at EX2
      have hbo9 := hbo.kept hU9
      have hbx9 := hbx8.kept hU9
      have hX9 := hX8.on hU9
      clear o0 o1 o2 o3
      obtain ⟨o0, o1, o2, o3⟩ := hbo9.cells
      go_wp2_with fail
      (with_reducible refine EX2.mono ?_)
      rintro e w11 ⟨k11, i11, n11, a11, l11, c11, rfl, hR11, hU11⟩
      have hal : Upto none' w11 (w11.alloc (.cells #[.int .i64 k11, .string (B n11), .int .i64 i11, .slice a11 l11 c11] 29)) := (Upto.refl none' w11).alloc _
      have SM := refSame_any X (by have := Tm.wf_wt65 (HF.out.2.2.2.2 trivial); have := Tm.size_le_wt X; omega) X (w11.alloc (.cells #[.int .i64 k11, .string (B n11), .int .i64 i11, .slice a11 l11 c11] 29)) _ _ (hX9.on (hU11.and hal)) (hR11.on hal)
      rw [Tm.same_refl] at SM
      obtain ⟨x0, x1, x2, x3⟩ := (hbx9.kept (hU11.and hal)).cells
      have hUw11 := (hUw9.and hU11).and hal
      clear EX2 o0 o1 o2 o3
      go_wp2_with fail
      (with_reducible refine SM.mono ?_)
      rintro e w12 ⟨rfl, hU12⟩
      have hUw12 := hUw11.and hU12
      clear SM
      go_wp2_with fail
      (with_reducible refine (awake13 w12).mono ?_)
      rintro e w13 ⟨rfl, hU13⟩
      have hUw13 := hUw12.and hU13
      go_wp2_with fail
      go_ret
      exact ⟨rfl, hUw13⟩
end Go.Proofs.YtdomloghcpfdjaaGreatDoor
