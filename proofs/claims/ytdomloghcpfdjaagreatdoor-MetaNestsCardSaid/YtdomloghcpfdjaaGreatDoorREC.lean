/- subst's node. -/
import Derived.Test.YtdomloghcpfdjaaGreatDoorRCH
import Derived.Test.YtdomloghcpfdjaaGreatDoorREA
namespace Go.Proofs.YtdomloghcpfdjaaGreatDoor
open Go.RowKit Go.LF
set_option maxRecDepth 100000 in
set_option maxHeartbeats 8000000 in
theorem node_any (us : List Tm) (hl : us.length ≤ 100000) (hsz : Tm.sizes us ≤ 1000000000000) (k i : Int) (n : List UInt8) (oa : Option Addr) (ol oc : Nat) (O : Nat → Prop) (w : World) (hO : ∀ b, O b → b < w.heap.size) (a : Option Addr) (cap w0 : Nat)
    (hE : RepE O w 6 (us.map mdat) a 0) :
    Calls Tryz.prog 207 #[.agg #[.int .i64 k, .string (B n), .int .i64 i, .slice oa ol oc], .slice a us.length cap] w fun e w' => OfR O (Tm.chk (.mk k n i us) w0) e w' ∧ Upto none' w w' := by
  obtain ⟨i0, hi, hi0, hi1, hi2⟩ := info_parts info_term
  obtain ⟨w1, hw1⟩ : ∃ w1, w1 = ((w.alloc (.cells #[.int .i64 k, .string (B n), .int .i64 i, .slice oa ol oc] 29)).alloc (.cells #[.int .i64 0, .string (B []), .int .i64 0, .slice none 0 0, .int .i64 0, .int .i64 0] 92)).alloc (.cells #[.int .i64 k, .string (B n), .int .i64 i, .slice oa ol oc, .int .i64 1, .int .i64 0] 92) := ⟨_, rfl⟩
  have hU1 : Upto none' w w1 := by rw [hw1]; exact (((Upto.refl none' w).alloc _).alloc _).alloc _
  have hr1 : Box6 w1 (w.heap.size + 1) (.int .i64 0) (.string (B [])) (.int .i64 0) (.slice none 0 0) (.int .i64 0) (.int .i64 0) 92 := by rw [hw1]; exact (Box6.at_new (by simp)).kept ((Upto.refl none' _).alloc _)
  have hb1 : Box6 w1 (w.heap.size + 1 + 1) (.int .i64 k) (.string (B n)) (.int .i64 i) (.slice oa ol oc) (.int .i64 1) (.int .i64 0) 92 := by rw [hw1]; exact Box6.at_new (by simp)
  have hE1 : RepE (fun b => O b ∨ w.heap.size ≤ b) w1 6 (us.map mdat) a 0 := (RepE.fresh' _ _ _ _ hE).on hU1
  have hz1' : w1.heap.size ≤ w.heap.size + 3 := by rw [hw1]; simp
  have hU0 := hU1
  have HW := hid hw1
  obtain ⟨H, hH⟩ : ∃ H, H = w.heap.size := ⟨_, rfl⟩
  have HH := hid hH
  rw [← hH] at hr1 hb1 hE1 hz1'
  have hO' : ∀ b, O b → b < H := by rw [hH]; exact hO
  have HO : Hid (∀ b, (O b ∨ b = H ∨ b = H + 1 ∨ b = H + 1 + 1) → b < H + 3) := hid (fun b h => by rcases h with h | h | h | h; (have := hO' b h; omega); all_goals omega)
  have hz1 : H + 3 ≤ w1.heap.size := by have := hb1.lt; omega
  obtain ⟨ul, hul⟩ : ∃ ul, ul = us.length := ⟨_, rfl⟩
  rw [← hul]
  have hll : ul ≤ 100000 := by omega
  have hll2 : (ul : Int) ≤ 100000 := by omega
  have hll3 : (0 : Int) ≤ (ul : Int) := by omega
  have HSZ := hid hsz
  have HUL := hid hul
  clear hw1 hE hH hO hl hsz hul
  go_enter Tryz.func207, Tryz.ntmps207
  go_upto_region 2 with fail
  rw [← show B [] = { data := #[] } from rfl, ← HW.out, ← HH.out]
  obtain ⟨z0, z1, z2, z3, z4, z5⟩ := hb1.frozens
  go_wp2_with (at_make; go_loud (refine wpList_make_own _ rfl _ _ 27 rfl (H + 3) 29 i0 (.agg #[.int .i64 0, .string (B []), .int .i64 0, .slice none 0 0]) 4 (by kernel_rfl) hi hi0 hi1 .i64 .i64 (ul : Int) ul rfl rfl rfl (by rw [hi2]; omega) (by simp only [maxLen]; omega) hz1 ?_); intro w3 hown3 hg3; have hb3 := hb1.kept (grown_upto hg3); have y3 := hb3.frozens.2.2.2.1; have y4 := hb3.cells.2.2.2.1)
  have hU3 : Upto none' w1 w3 := grown_upto hg3
  have hset3 : Upto (fun b => b = H + 1 + 1) w3 (w3.setCell ⟨H + 1 + 1, 3, none⟩ (.slice (some ⟨w1.heap.size, 0, none⟩) 0 ul)) := Upto.set (Upto.refl _ _) 3 _
  have hb4 := hb3.set3 (.slice (some ⟨w1.heap.size, 0, none⟩) 0 ul)
  have hT3 : RowD 29 4 (fun b => O b ∨ b = H ∨ b = H + 1 ∨ b = H + 1 + 1) (H + 3) w3 (.slice (some ⟨w1.heap.size, 0, none⟩) 0 ul) [] [] := ⟨rfl, by simp, hown3, fun i h => by simp at h⟩
  have hT4 := hT3.keep hset3 (fun b e => .inr (.inr (.inr e))) HO.out
  have hU4 : Upto (fun b => b = H + 1 + 1) w1 (w3.setCell ⟨H + 1 + 1, 3, none⟩ (.slice (some ⟨w1.heap.size, 0, none⟩) 0 ul)) := (hU3.mono (fun _ _ x => x.elim)).trans hset3 (fun _ _ e => e)
  obtain ⟨W4, hW4⟩ : ∃ W4, W4 = w3.setCell ⟨H + 1 + 1, 3, none⟩ (.slice (some ⟨w1.heap.size, 0, none⟩) 0 ul) := ⟨_, rfl⟩
  rw [← hW4] at hb4 hT4 hU4 ⊢
  clear hW4 hset3 hT3 hU3 hb3 y3 y4 hg3 hown3 hb1 z0 z1 z2 z3 z4 z5
  go_loopw [17] (fun v17 wr => ∃ (j : Nat) (v : Value) (css : List (List Value)), v17 = .int .i64 (j : Int) ∧ j ≤ ul ∧ RowD 29 4 (fun b => O b ∨ b = H ∨ b = H + 1 ∨ b = H + 1 + 1) (H + 3) wr v ((us.take j).map Tm.dat) css ∧
      Box6 wr (H + 1 + 1) (.int .i64 k) (.string (B n)) (.int .i64 i) v (.int .i64 (1 + (Tm.sizes (us.take j) : Int))) (.int .i64 (Tm.depths (us.take j) : Int)) 92 ∧ Upto (fun b => b = H + 1 + 1) w1 wr)
    (fun v17 _ => ul - (intOf v17).toNat)
  case atStart => exact ⟨0, _, [], rfl, Nat.zero_le _, hT4, hb4, hU4⟩
  case round =>
    clear hT4 hb4 hU4 W4
    obtain ⟨j, v, css, rfl, hj, hT, hB, hU⟩ := hrel
    obtain ⟨x0, x1, x2, x3, x4, x5⟩ := hB.cells
    obtain ⟨f0, f1, f2, f3, f4, f5⟩ := hB.frozens
    have q := hB.lt
    have u2 : (j : Int) ≤ 100000 := by omega
    have u3 : (0 : Int) ≤ (j : Int) := by omega
    have hzU := hU.size
    by_cases hlt : j < ul
    · have hju : j < us.length := by rw [← HUL.out]; exact hlt
      have u4 : (j : Int) < (ul : Int) := by omega
      obtain ⟨eb, eo, ek, en, ei, es, ec, rfl, hebl, hebO, p0, p1, p2, p3, p4, p5, hRp⟩ := arg_made (RepE.keep hU (fun b e => .inr (by omega)) _ _ _ _ hE1) j hju
      have hss := Tm.sizes_take_succ us j hju
      have hds := Tm.depths_take_succ us j hju
      have hle := Tm.sizes_take_le us (j + 1)
      have hdl := Tm.depths_le_sizes (us.take (j + 1))
      have htk : us.take (j + 1) = us.take j ++ [us[j]] := List.take_succ_eq_append_getElem hju
      have hln : ((us.take j).map Tm.dat).length = j := by rw [List.length_map, List.length_take]; omega
      have b1 : (Tm.sizes (us.take j) : Int) + (us[j]'hju).size ≤ 1000000000000 := by have := HSZ.out; omega
      have b2 : ((us[j]'hju).depth : Int) ≤ 1000000000000 := by have := HSZ.out; omega
      have b3 : (Tm.depths (us.take j) : Int) ≤ 1000000000000 := by have := HSZ.out; omega
      generalize (us[j]'hju).args.length = el at *
      obtain ⟨u, hu⟩ : ∃ u, u = us[j]'hju := ⟨_, rfl⟩
      rw [← hu] at p4 p5 hRp hss hds htk b1 b2
      obtain ⟨S0, hS0⟩ : ∃ S0, S0 = Tm.sizes (us.take j) := ⟨_, rfl⟩
      obtain ⟨D0, hD0⟩ : ∃ D0, D0 = Tm.depths (us.take j) := ⟨_, rfl⟩
      rw [← hS0] at hB x4 hss b1
      rw [← hD0] at hB x5 hds b3
      have HX := hid (And.intro hss (And.intro hds htk))
      have g0 : (0 : Int) ≤ (S0 : Int) := by omega
      have g1 : (0 : Int) ≤ (u.size : Int) := by omega
      have g2 : (0 : Int) ≤ (u.depth : Int) := by omega
      have g3 : (0 : Int) ≤ (D0 : Int) := by omega
      clear hss hds htk hu hS0 hD0 hle hdl
      go_upto_region 6 with fail
      obtain ⟨w4, hw4⟩ : ∃ w4, w4 = wr.alloc (.cells #[.int .i64 ek, .string (B en), .int .i64 ei, .slice es el ec, .int .i64 u.size, .int .i64 u.depth] 92) := ⟨_, rfl⟩
      have hU4 : Upto none' wr w4 := by rw [hw4]; exact (Upto.refl none' _).alloc _
      have hx4 : Box6 w4 wr.heap.size (.int .i64 ek) (.string (B en)) (.int .i64 ei) (.slice es el ec) (.int .i64 u.size) (.int .i64 u.depth) 92 := by rw [hw4]; exact Box6.at_new rfl
      obtain ⟨X, hX⟩ : ∃ X, X = wr.heap.size := ⟨_, rfl⟩
      rw [← hw4, ← hX]
      rw [← hX] at hx4
      have hXl : X < w4.heap.size := hx4.lt
      have hz4 : H + 3 ≤ w4.heap.size := by have := hU4.size; omega
      have hT4 := hT.on hU4 HO.out
      have hB4 := hB.kept hU4
      have hownX : v.ownBlock ≠ some X := fun e => by have := (hT.2.2.1.lt X e).2; omega
      have HOX := hid hownX
      have HXX := hid hX
      clear hw4 p0 p1 p2 p3 p4 p5 x0 x1 x2 x3 x4 x5 f0 f1 f2 f3 f4 f5 hB hownX hX
      obtain ⟨x0, x1, x2, x3, x4, x5⟩ := hB4.cells
      obtain ⟨y0, y1, y2, y3, y4, y5⟩ := hx4.cells
      have hal : Upto none' w4 (w4.alloc (.cells #[.int .i64 ek, .string (B en), .int .i64 ei, .slice es el ec] 29)) := (Upto.refl none' _).alloc _
      have hTb := hT4.on hal HO.out
      have hBb := hB4.kept hal
      have hxb := hx4.kept hal
      have hown := hTb.2.2.1
      rw [hln] at hown
      have HLN := hid hln
      clear hln
      go_wp2_with (at_builtin; go_loud (refine wpList_append_lies _ (by rfl) _ _ 27 (by rfl) (H + 3) 29 i0 (.agg #[.int .i64 0, .string (B []), .int .i64 0, .slice none 0 0]) 4 56 (by kernel_rfl) hi hi0 hi1 hi2 rfl (by omega) v j css.flatten rfl hown ⟨w4.heap.size, 0, none⟩ 1 1 [.int .i64 ek, .string (B en), .int .i64 ei, .slice es el ec] rfl rfl (World.news_of_block (heap_alloc_new w4 _)) (by simp [Value.oneCell']) (by omega) (by simp only [maxLen]; omega) (by omega) (by simp; omega) (w4.heap.size + 1) (by simp) ?_); intro g cap' w7 hown7 hgrow hat hlt7; have hB7 := hBb.rowD hgrow hTb (by omega); have c7 := hB7.cells; have z7 := hB7.frozens; obtain ⟨c70, c71, c72, c73, c74, c75⟩ := c7; obtain ⟨z70, z71, z72, z73, z74, z75⟩ := z7; have hx7 := (hgrow.block X hxb.lt (fun e => HOX.out e.symm)).trans hxb; have hx7c := Box6.cells hx7; obtain ⟨v0, v1, v2, v3, v4, v5⟩ := hx7c)
      have hRu : Rep (fun b => (O b ∨ b = H ∨ b = H + 1 ∨ b = H + 1 + 1) ∨ v.ownBlock = some b) (w4.alloc (.cells #[.int .i64 ek, .string (B en), .int .i64 ei, .slice es el ec] 29)) u.dat [.int .i64 ek, .string (B en), .int .i64 ei, .slice es el ec] := by
        refine Rep.weaken (fun b _ e => ?_) _ _ ((hRp.on hU4).on hal)
        rcases e with (e | e) | e
        · exact .inl e
        · right; omega
        · right; have := (hTb.2.2.1.lt b e).1; omega
      have hown8 : w7.ownsRow (H + 3) 29 4 (.slice (some ⟨g, 0, none⟩) (((us.take j).map Tm.dat).length + 1) cap') (((us.take j).map Tm.dat).length + 1) (css.flatten ++ [.int .i64 ek, .string (B en), .int .i64 ei, .slice es el ec]) := by rw [HLN.out]; exact hown7
      have hT7 := hTb.appended (d := u.dat) rfl hRu hown8 hgrow hat (by simp)
      rw [HLN.out] at hT7
      have hrow := hTb.upto hgrow
      have hs7 : Upto (fun b => b = H + 1 + 1) w7 (((w7.setCell ⟨H + 1 + 1, 3, none⟩ (.slice (some ⟨g, 0, none⟩) (j + 1) cap')).setCell ⟨H + 1 + 1, 4, none⟩ (.int .i64 (1 + (S0 : Int) + (u.size : Int)))).setCell ⟨H + 1 + 1, 5, none⟩ (.int .i64 (if D0 < u.depth then (u.depth : Int) else (D0 : Int)))) := Upto.set (Upto.set (Upto.set (Upto.refl _ _) 3 _) 4 _) 5 _
      have hT8 := hT7.keep hs7 (fun b e => .inr (.inr (.inr e))) HO.out
      have hB8 := ((hB7.set3 (.slice (some ⟨g, 0, none⟩) (j + 1) cap')).set4 (.int .i64 (1 + (S0 : Int) + (u.size : Int)))).set5 (.int .i64 (if D0 < u.depth then (u.depth : Int) else (D0 : Int)))
      have hU8 := (((hU.trans (hU4.and hal) (fun b _ e => e.elim)).trans hrow (fun b hb e => by omega)).trans hs7 (fun _ _ e => e))
      have e1 : (1 + (S0 : Int) + (u.size : Int)) = 1 + ((Tm.sizes (us.take (j + 1)) : Nat) : Int) := by rw [HX.out.1]; omega
      have e2 : (if D0 < u.depth then (u.depth : Int) else (D0 : Int)) = ((Tm.depths (us.take (j + 1)) : Nat) : Int) := by
        rw [HX.out.2.1]
        split <;> omega
      have e3 : (us.take (j + 1)).map Tm.dat = (us.take j).map Tm.dat ++ [u.dat] := by rw [HX.out.2.2]; simp
      rw [← e3] at hT8
      refine ⟨⟨j + 1, _, _, by go_num, by omega, hT8, ?_, hU8⟩, by simp [intOf]; omega⟩
      rw [← e1, ← e2]
      exact hB8
    · have hjl : j = ul := by omega
      subst hjl
      have htk : us.take j = us := List.take_of_length_le (by rw [← HUL.out]; exact Nat.le_refl _)
      rw [htk] at hT hB x4 x5
      obtain ⟨va, vc, rfl, hvc, hF⟩ := hT.rep HO.out
      rw [List.length_map, ← HUL.out] at hvc hB x3
      have hds := Tm.depths_le_sizes us
      have b1 : (Tm.sizes us : Int) ≤ 1000000000000 := by have := HSZ.out; omega
      have b2 : (Tm.depths us : Int) ≤ 1000000000000 := by have := HSZ.out; omega
      have b3 : (0 : Int) ≤ (Tm.sizes us : Int) := by omega
      have b4 : (0 : Int) ≤ (Tm.depths us : Int) := by omega
      have hsm : (Tm.mk k n i us).small = decide (¬ (4096 < 1 + (Tm.sizes us : Int) ∨ 128 < (Tm.depths us : Int) + 1)) := by
        unfold Tm.small
        rw [Tm.size_mk, Tm.depth_mk, ← Bool.decide_and]
        exact decide_eq_decide.2 (by omega)
      have hsz2 : ((Tm.mk k n i us).size : Int) = 1 + (Tm.sizes us : Int) := by rw [Tm.size_mk]; omega
      have hdp2 : ((Tm.mk k n i us).depth : Int) = (Tm.depths us : Int) + 1 := by rw [Tm.depth_mk]; omega
      have C := fun W => checked_any k i (1 + (Tm.sizes us : Int)) ((Tm.depths us : Int) + 1) n va j vc W
      have HSM := hid (And.intro hsm (And.intro hsz2 (And.intro hdp2 htk)))
      obtain ⟨S0, hS0⟩ : ∃ S0, S0 = Tm.sizes us := ⟨_, rfl⟩
      obtain ⟨D0, hD0⟩ : ∃ D0, D0 = Tm.depths us := ⟨_, rfl⟩
      rw [← hS0] at hB x4 b1 b3 C
      rw [← hD0] at hB x5 b2 b4 C
      have HS := hid (And.intro hS0 hD0)
      have hset5 := hB.set5 (.int .i64 ((D0 : Int) + 1))
      have hs5 : Upto (fun b => b = H + 1 + 1) wr (wr.setCell ⟨H + 1 + 1, 5, none⟩ (.int .i64 ((D0 : Int) + 1))) := Upto.set (Upto.refl _ _) 5 _
      have hr5 := (hr1.keep hU (by omega)).keep hs5 (by omega)
      have hF5 := RepE.keep hs5 (fun b e => .inr (.inr (.inr e))) _ _ _ _ hF
      have hU5 := hU.trans hs5 (fun _ _ e => e)
      have HC := hid (And.intro hset5 (And.intro hr5 (And.intro hF5 (And.intro hU5 hvc))))
      clear hsm hsz2 hdp2 htk hds hS0 hD0 hset5 hs5 hr5 hF5 hU5 hF hT hE1 hU1 hi hi0 hi1 hi2 hvc
      by_cases hbad : 4096 < 1 + (S0 : Int) ∨ 128 < (D0 : Int) + 1
      · have hchk : Tm.chk (.mk k n i us) w0 = ⟨2, Tm.none0, w0⟩ := by
          unfold Tm.chk
          rw [HSM.out.1, ← HS.out.1, ← HS.out.2, decide_eq_false (fun h => h hbad)]
          rfl
        have HK := hid hchk
        simp only [if_pos hbad] at C
        clear hchk hbad
        go_wp2_with fail
        refine (C _).mono ?_
        rintro e w6 ⟨rfl, hU6⟩
        unfold perr
        go_wp2_with fail
        obtain ⟨c1, c2, c3, c4, c5⟩ := HC.out
        exact ⟨rfl, .inr ⟨by rw [HK.out]; simp, by rw [HK.out]; rfl⟩, (hU0.trans c4 (fun b hb e => by have := HH.out; omega)).and hU6⟩
      · have hchk : Tm.chk (.mk k n i us) w0 = ⟨0, .mk k n i us, w0⟩ := by
          unfold Tm.chk
          rw [HSM.out.1, ← HS.out.1, ← HS.out.2, decide_eq_true hbad]
          rfl
        have HK := hid hchk
        simp only [if_neg hbad] at C
        clear hchk hbad
        go_wp2_with fail
        refine (C _).mono ?_
        rintro e w6 ⟨rfl, hU6⟩
        have hr6 := HC.out.2.1.kept hU6
        obtain ⟨y0, y1, y2, y3, y4, y5⟩ := hr6.cells
        obtain ⟨z0, z1, z2, z3, z4, z5⟩ := hr6.frozens
        have hset := hr6.set (d0 := .int .i64 k) (d1 := .string (B n)) (d2 := .int .i64 i) (d3 := .slice va j vc) (d4 := .int .i64 (1 + (S0 : Int))) (d5 := .int .i64 ((D0 : Int) + 1))
        obtain ⟨e0, e1, e2, e3, e4, e5⟩ := hset.1.cells
        have HE := hid (And.intro e0 (And.intro e1 (And.intro e2 (And.intro e3 (And.intro e4 (And.intro e5 hset.2))))))
        clear e0 e1 e2 e3 e4 e5 hset
        go_wp2_with fail
        obtain ⟨e0, e1, e2, e3, e4, e5, hset⟩ := HE.out
        refine bodyPost_ret (v := .agg #[.int .i64 k, .string (B n), .int .i64 i, .slice va j vc, .int .i64 (1 + (S0 : Int)), .int .i64 ((D0 : Int) + 1)]) ?_ rfl ?_
        · simp [results, Tryz.f207, go_sem, e0, e1, e2, e3, e4, e5]
        · obtain ⟨c1, c2, c3, c4, c5⟩ := HC.out
          have hF6 := RepE.keep hset (fun b e => .inr e) _ _ _ _ (RepE.weaken (O := fun b => O b ∨ b = H ∨ b = H + 1 ∨ b = H + 1 + 1) (O' := fun b => O b ∨ b = H + 1) (fun b _ e => e.elim .inl (fun e => .inr (.inr (.inl e)))) _ _ _ _ (c3.on hU6))
          refine ⟨.inl ⟨by rw [HK.out], k, n, i, va, j, vc, ?_, ?_⟩, ((hU0.trans c4 (fun b hb e => by have := HH.out; omega)).and hU6).trans hset (fun b hb e => by have := HH.out; omega)⟩
          · rw [HK.out]
            show _ = Ending.returned (.agg #[.int .i64 k, .string (B n), .int .i64 i, .slice va j vc, .int .i64 (Tm.mk k n i us).size, .int .i64 (Tm.mk k n i us).depth])
            rw [HSM.out.2.1, HSM.out.2.2.1, HS.out.1, HS.out.2]
          · rw [HK.out]
            exact rep_tm.2 ⟨va, vc, by rw [← HUL.out], by rw [← HUL.out]; exact c5, RepE.weaken (fun b _ e => .inl e) _ _ _ _ hF6⟩
end Go.Proofs.YtdomloghcpfdjaaGreatDoor
namespace Go.LF.Tm
/-- A good step has done no more than is allowed. -/
theorem sbA_work (f : Int → Tm → Nat → Res) (hf : ∀ d t w, w ≤ 262144 → (f d t w).e = 0 → (f d t w).w ≤ 262144) (d k : Int) (l : List Tm) : ∀ (j w : Nat), w ≤ 262144 → (sbA f d k j l w).e = 0 → (sbA f d k j l w).w ≤ 262144 := by
  induction l with
  | nil => intro j w h _; exact h
  | cons t ts ih =>
    intro j w h he
    rw [sbA] at he ⊢
    split at he
    · rename_i h1
      rw [if_pos h1]
      split at he
      · rename_i h2
        rw [if_pos h2]
        exact ih _ _ (hf _ _ _ h h1) h2
      · rename_i h2; exact absurd he h2
    · rename_i h1; exact absurd he h1
theorem apF_work (f : Tm → Sm → Tm → Nat → Res) (hf : ∀ u s b w, w ≤ 262144 → (f u s b w).e = 0 → (f u s b w).w ≤ 262144) (us : List Tm) : ∀ (m : Tm) (ss : List Sm) (w : Nat), w ≤ 262144 → (apF f m ss us w).e = 0 → (apF f m ss us w).w ≤ 262144 := by
  induction us with
  | nil => intro m ss w h _; unfold apF; split <;> simp [chk_w, h]
  | cons u us ih =>
    intro m ss w h he
    cases ss with
    | nil => unfold apF; exact h
    | cons s ss =>
      rw [apF] at he ⊢
      split
      · rename_i hk
        rw [if_pos hk] at he
        split
        · rename_i h1
          rw [if_pos h1] at he
          exact ih _ _ _ (hf _ _ _ _ h h1) he
        · rename_i h1
          rw [if_neg h1] at he
          exact absurd he h1
      · exact h
theorem sb_work (n : Nat) : ∀ ms ss d t w, w ≤ 262144 → (sb n ms ss d t w).e = 0 → (sb n ms ss d t w).w ≤ 262144 := by
  induction n with
  | zero => intro ms ss d t w _ h; rw [sb] at h; simp at h
  | succ n ih =>
    intro ms ss d t w hw h
    rw [sb] at h ⊢
    split
    · rename_i h1
      rw [if_pos h1] at h
      simp at h
    · rename_i h1
      rw [if_neg h1] at h
      have hA := sbA_work (fun d' t' w' => sb n ms ss d' t' w') (fun d t w => ih _ _ _ _ _) d t.kind t.args 0 (w + 1) (by omega)
      split
      · rename_i h2
        rw [if_pos h2] at h
        have hw2 := hA h2
        revert h
        unfold sbN
        split
        · split
          · split
            · intro h; simp at h
            · unfold ap
              split
              · exact fun h => apF_work _ (fun u s b w => ih _ _ _ _ _) _ _ _ _ hw2 h
              · intro h; simp at h
          · rw [chk_w]; exact fun _ => hw2
        · rw [chk_w]; exact fun _ => hw2
      · rename_i h2
        rw [if_neg h2] at h
        exact absurd h h2
/-- Enough of a term for a substitution in it. -/
structure In (t : Tm) : Prop where
  size : t.size ≤ 4096
  depth : t.depth ≤ 128
  ok : t.ok
  vars : t.vok
end Go.LF.Tm
namespace Go.Proofs.YtdomloghcpfdjaaGreatDoor
open Go.RowKit Go.LF
/-- The counter of the work. -/
def Work (wk x : Nat) (W : World) : Prop := W.heap[wk]? = some (.cells #[.int .i64 (x : Int)] 3 (0, 0))
theorem Work.lt {wk x : Nat} {W : World} (h : Work wk x W) : wk < W.heap.size := (Array.getElem?_eq_some_iff.1 h).1
theorem Work.cell {wk x : Nat} {W : World} (h : Work wk x W) : W.cell? ⟨wk, 0, none⟩ = some (.int .i64 (x : Int)) := by unfold Work at h; simp [World.cell?, h]
theorem Work.frozen {wk x : Nat} {W : World} (h : Work wk x W) : W.frozen? ⟨wk, 0, none⟩ = false := by unfold Work at h; simp [World.frozen?, h]
theorem Work.keep {wk x : Nat} {W W' : World} {S : Nat → Prop} (h : Work wk x W) (hU : Upto S W W') (hS : ¬ S wk) : Work wk x W' := (hU.block wk h.lt hS).trans h
theorem Work.kept {wk x : Nat} {W W' : World} (h : Work wk x W) (hU : Upto none' W W') : Work wk x W' := h.keep hU (fun x => x)
theorem Work.set {wk x : Nat} {W : World} (h : Work wk x W) (y : Nat) : Work wk y (W.setCell ⟨wk, 0, none⟩ (.int .i64 (y : Int))) := by
  obtain ⟨hlt, hk⟩ := Array.getElem?_eq_some_iff.1 h
  show (W.heap.modify wk _)[wk]? = _
  rw [Array.getElem?_eq_getElem (by rw [Array.size_modify]; exact hlt), Array.getElem_modify_self, hk]
  rfl
/-- What the step does with so much fuel. -/
def OfAt (n : Nat) : Prop :=
  ∀ (ms : List Tm) (ss : List Sm) (d : Int) (t : Tm) (w0 wk : Nat) (O : Nat → Prop) (w : World) (ma : Option Addr) (mc : Nat) (sa : Option Addr) (sc : Nat) (cs : List Value),
    262145 ≤ n + w0 → w0 ≤ 262144 → ms.length = ss.length → ms.length ≤ 10000 → (∀ u ∈ ms, u.isObj = true ∧ u.small = true) → (∀ s ∈ ss, s.size ≤ 4096) → 0 ≤ d → d + (t.depth : Int) ≤ 1048576 → t.In →
    O wk → (∀ b, O b → b < w.heap.size) → Work wk w0 w → RepE O w 6 (ms.map mdat) ma 0 → RepE O w 2 (ss.map Sm.dat) sa 0 → Rep O w t.dat cs →
    Calls Tryz.prog 152 #[.agg #[.pointer (some ⟨wk, 0, none⟩), .slice ma ms.length mc, .slice sa ss.length sc], .agg cs.toArray, .int .i64 d] w fun e w' =>
      OfR O (Tm.sb n ms ss d t w0) e w' ∧ Work wk (Tm.sb n ms ss d t w0).w w' ∧ Upto (fun b => b = wk) w w'
/-- One element of a row of simple types, as a row. -/
theorem one_simple {O : Nat → Prop} {W : World} {ss : List Sm} {b o : Nat} (h : RepE O W 2 (ss.map Sm.dat) (some ⟨b, o, none⟩) 0) (j : Nat) (hj : j < ss.length) : RepE O W 2 ([ss[j]].map Sm.dat) (some ⟨b, o + j * 2, none⟩) 0 := by
  obtain ⟨b', o', cs, e, hb, hO, hl, hc, hr⟩ := h.get j (by simpa using hj)
  simp only [Option.some.injEq, Addr.mk.injEq, and_true] at e
  obtain ⟨rfl, rfl⟩ := e
  refine repE_of _ _ _ (fun i hi => ?_)
  obtain rfl : i = 0 := by simpa using hi
  refine ⟨b, o + j * 2, cs, rfl, hb, hO, hl, fun m v hv => ?_, by simpa using hr⟩
  have := hc m v hv
  simpa using this
/-- One result in a new block, as a row. -/
theorem one_made {O : Nat → Prop} {W : World} {t : Tm} {c0 c1 c2 c3 : Value} {b : Nat} {T : TypeId} (hB : Box6 W b c0 c1 c2 c3 (.int .i64 t.size) (.int .i64 t.depth) T) (hO : ¬ O b) (hR : Rep O W t.dat [c0, c1, c2, c3]) : RepE O W 6 ([t].map mdat) (some ⟨b, 0, none⟩) 0 := by
  refine repE_of _ _ _ (fun i hi => ?_)
  obtain rfl : i = 0 := by simpa using hi
  obtain ⟨x0, x1, x2, x3, x4, x5⟩ := hB.cells
  refine ⟨b, 0, [c0, c1, c2, c3, .int .i64 t.size, .int .i64 t.depth], rfl, hB.lt, hO, rfl, fun m v hv => ?_, by simpa using rep_mdat.2 ⟨hR, rfl, rfl⟩⟩
  match m, hv with
  | 0, hv => cases hv; exact x0
  | 1, hv => cases hv; exact x1
  | 2, hv => cases hv; exact x2
  | 3, hv => cases hv; exact x3
  | 4, hv => cases hv; exact x4
  | 5, hv => cases hv; exact x5
  | m + 6, hv => simp at hv
end Go.Proofs.YtdomloghcpfdjaaGreatDoor
