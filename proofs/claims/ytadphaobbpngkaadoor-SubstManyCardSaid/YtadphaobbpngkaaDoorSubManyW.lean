/- SubstMany: its walk. -/
import Derived.Test.YtadphaobbpngkaaDoorSubAwake
import Derived.Test.YtadphaobbpngkaaDoorSubMade
import Derived.Test.YtadphaobbpngkaaDoorRowD2
import Derived.Test.YtadphaobbpngkaaDoorCL
import Derived.Test.YtadphaobbpngkaaDoorCG
import Derived.Test.YtadphaobbpngkaaDoorCH
import Derived.Test.YtadphaobbpngkaaDoorDF
import Derived.Deep.CutRange
namespace Go.LF
theorem manyT_size (t : Tm) (ms : List Tm) (ss : List Sm) : (manyT t ms ss).size ≤ 4096 := by
  unfold manyT
  split
  · rename_i h
    unfold manyE at h
    split at h
    · omega
    split at h
    · omega
    split at h
    · omega
    split at h
    · omega
    exact Tm.small_size (Tm.sb_small 262145 ms ss 0 t 0 h)
  · simp [Tm.sizes]
end Go.LF
namespace Go.Proofs.YtadphaobbpngkaaDoor
open Go.RowKit Go.LF
/-- What the drawn region of SubstMany reads. -/
abbrev Smw (P mb mo sb so : Nat) (t0 t1 t2 t3 m0 m1 m2 m3 s0 s1 : Value) (w' : World) : Prop :=
  (w'.cell? ⟨P, 0, none⟩ = some t0 ∧ w'.cell? ⟨P, 1, none⟩ = some t1 ∧ w'.cell? ⟨P, 2, none⟩ = some t2 ∧ w'.cell? ⟨P, 3, none⟩ = some t3) ∧
  (w'.cell? ⟨mb, mo, none⟩ = some m0 ∧ w'.cell? ⟨mb, mo + 1, none⟩ = some m1 ∧ w'.cell? ⟨mb, mo + 2, none⟩ = some m2 ∧ w'.cell? ⟨mb, mo + 3, none⟩ = some m3) ∧ (w'.cell? ⟨sb, so, none⟩ = some s0 ∧ w'.cell? ⟨sb, so + 1, none⟩ = some s1)
theorem Smw.keep {P mb mo sb so : Nat} {t0 t1 t2 t3 m0 m1 m2 m3 s0 s1 : Value} {w w' : World} {S : Nat → Prop} (h : Smw P mb mo sb so t0 t1 t2 t3 m0 m1 m2 m3 s0 s1 w) (hU : Upto S w w') (h1 : ¬ S P) (h2 : ¬ S mb) (h3 : ¬ S sb) :
    Smw P mb mo sb so t0 t1 t2 t3 m0 m1 m2 m3 s0 s1 w' :=
  ⟨⟨hU.cell h.1.1 h1, hU.cell h.1.2.1 h1, hU.cell h.1.2.2.1 h1, hU.cell h.1.2.2.2 h1⟩, ⟨hU.cell h.2.1.1 h2, hU.cell h.2.1.2.1 h2, hU.cell h.2.1.2.2.1 h2, hU.cell h.2.1.2.2.2 h2⟩, ⟨hU.cell h.2.2.1 h3, hU.cell h.2.2.2 h3⟩⟩
theorem Smw.new {P mb mo sb so : Nat} {t0 t1 t2 t3 m0 m1 m2 m3 s0 s1 : Value} {w : World} (h : Smw P mb mo sb so t0 t1 t2 t3 m0 m1 m2 m3 s0 s1 w) (o : Obj) : Smw P mb mo sb so t0 t1 t2 t3 m0 m1 m2 m3 s0 s1 (w.alloc o) := h.keep ((Upto.refl none' w).alloc o) (fun x => x) (fun x => x) (fun x => x)
theorem Smw.drew {P mb mo sb so : Nat} {t0 t1 t2 t3 m0 m1 m2 m3 s0 s1 : Value} {w : World} (h : Smw P mb mo sb so t0 t1 t2 t3 m0 m1 m2 m3 s0 s1 w) : Smw P mb mo sb so t0 t1 t2 t3 m0 m1 m2 m3 s0 s1 w.drew := h.keep (Upto.refl none' w).drew (fun x => x) (fun x => x) (fun x => x)
theorem Smw.set4 {P mb mo sb so r : Nat} {t0 t1 t2 t3 m0 m1 m2 m3 s0 s1 : Value} {w : World} (h : Smw P mb mo sb so t0 t1 t2 t3 m0 m1 m2 m3 s0 s1 w) (h1 : ¬ P = r) (h2 : ¬ mb = r) (h3 : ¬ sb = r) (d0 d1 d2 d3 : Value) :
    Smw P mb mo sb so t0 t1 t2 t3 m0 m1 m2 m3 s0 s1 ((((w.setCell ⟨r, 0, none⟩ d0).setCell ⟨r, 1, none⟩ d1).setCell ⟨r, 2, none⟩ d2).setCell ⟨r, 3, none⟩ d3) :=
  h.keep (S := fun b => b = r) (Upto.set (Upto.set (Upto.set (Upto.set (Upto.refl _ _) 0 _) 1 _) 2 _) 3 _) h1 h2 h3
set_option maxRecDepth 100000 in
set_option maxHeartbeats 16000000 in
theorem substMany_walk (l0 : List Int) (a0 : Option Addr) (len0 cap0 : Nat) (hl0 : l0.length = len0) (hlen0 : len0 ≤ 17592186044416) (n0 n1 n2 n3 : Int) (w : World) (hE0 : RepE none' w 1 (l0.map (Dat.int .i64)) a0 0) (hN : NamesRead w) :
    Calls Tryd.prog 3 #[.slice a0 len0 cap0, .agg #[.int .i64 n0, .int .i64 n1, .int .i64 n2, .int .i64 n3]] w fun e w' => e = .returned (.bool true) ∧ Upto none' w w' := by
  obtain ⟨i0, hi, hi0, hi1, hi2⟩ := info_parts info_term
  obtain ⟨i1, gi, gi0, gi1, gi2⟩ := info_parts info_simple
  obtain ⟨w1, hw1⟩ : ∃ w1, w1 = (w.alloc (.cells #[.int .i64 n0, .int .i64 n1, .int .i64 n2, .int .i64 n3] 23)).alloc (.cells #[.slice a0 len0 cap0, .int .i64 0] 26) := ⟨_, rfl⟩
  have hUn : Upto none' w (w.alloc (.cells #[.int .i64 n0, .int .i64 n1, .int .i64 n2, .int .i64 n3] 23)) := (Upto.refl none' w).alloc _
  have hU1 : Upto none' w w1 := by rw [hw1]; exact hUn.alloc _
  have hN1 : Box4 w1 w.heap.size (.int .i64 n0) (.int .i64 n1) (.int .i64 n2) (.int .i64 n3) 23 := by rw [hw1]; exact (Box4.at_new rfl).kept ((Upto.refl none' _).alloc _)
  have hT1 : TapeOk w1 (w.heap.size + 1) := by
    rw [hw1]
    have := tape_new (w := w.alloc (.cells #[.int .i64 n0, .int .i64 n1, .int .i64 n2, .int .i64 n3] 23)) (cap := cap0) (U := 26) hl0 hlen0 (hE0.on hUn)
    rw [World.size_alloc] at this
    exact this
  have hK1 : NamesOk (w.heap.size + 1) w1 := hN.ok hU1 (Nat.le_succ _)
  have hz1 : w1.heap.size = w.heap.size + 2 := by rw [hw1]; simp
  have HW1 := hid hw1
  obtain ⟨H, hH⟩ : ∃ H, H = w.heap.size := ⟨_, rfl⟩
  have HH := hid hH
  rw [← hH] at hN1 hT1 hK1 hz1
  have MD := fun (n : Int) (W : World) hT hK => made08_any (H + 1) n W hT hK
  have SM : ∀ W, TapeOk W (H + 1) → Calls Tryd.prog 6 #[.pointer (some ⟨H + 1, 0, none⟩), .int .i64 2] W (MakesS W.heap.size 2 (H + 1) W) := fun W h => simple_any 2 (by omega) _ W h
  have K1 := fun W => cut_val n1 4 (by omega) (by omega) W
  have hb1 := cutV_bd n1 4 (by omega)
  have K3 := fun W => cut_val n3 9 (by omega) (by omega) W
  have hb3 := cutV_bd n3 9 (by omega)
  generalize cutV n1 4 = c1 at *
  generalize cutV n3 9 = c3 at *
  obtain ⟨cn, hcn⟩ : ∃ cn : Nat, c1 = (cn : Int) := ⟨c1.toNat, by omega⟩
  subst hcn
  have hcn4 : cn < 4 := by omega
  clear hw1 hH hE0 hl0 hlen0 hN hUn
  obtain ⟨q0, q1, q2, q3⟩ := hN1.cells
  go_enter Tryd.func3, Tryd.ntmps3
  go_upto_region 2 with fail
  rw [← HW1.out, ← HH.out]
  go_wp2_with fail
  (with_reducible refine (MD n0 _ hT1 hK1).mono ?_)
  rintro e w2 ⟨k2, i2, nm2, a2, len2, cap2, t, rfl, hR2, hwt, hT2, hK2, hU2⟩
  have hU2' : Upto none' w w2 := hU1.trans hU2 (fun b hb e => by simp only [isT] at e; have := HH.out; omega)
  have hN2 := hN1.keep hU2 (by simp only [isT]; omega)
  have hz2 : H + 1 < w2.heap.size := by have := hU2.size; omega
  obtain ⟨w3, hw3⟩ : ∃ w3, w3 = w2.alloc (.cells #[.int .i64 k2, .string (B nm2), .int .i64 i2, .slice a2 len2 cap2] 29) := ⟨_, rfl⟩
  have hUa : Upto none' w2 w3 := by rw [hw3]; exact (Upto.refl none' w2).alloc _
  have ht3 : Box4 w3 w2.heap.size (.int .i64 k2) (.string (B nm2)) (.int .i64 i2) (.slice a2 len2 cap2) 29 := by rw [hw3]; exact Box4.at_new rfl
  have hR3 : Rep (fun b => b = H + 1) w3 t.dat [.int .i64 k2, .string (B nm2), .int .i64 i2, .slice a2 len2 cap2] := (Rep.weaken (fun b _ e => by omega) _ _ hR2).on hUa
  have hN3 := hN2.kept hUa
  have hU3 := hU2'.and hUa
  have hT3 := hT2.on hUa
  have hK3 := hK2.on hUa
  obtain ⟨P, hP⟩ : ∃ P, P = w2.heap.size := ⟨_, rfl⟩
  rw [← hP] at ht3 hz2
  have HP := hid hP
  have HW3 := hid hw3
  clear hw3 hP hUa hR2 hU2 hU2' hN2 hT2 hK2 hT1 hK1 hN1 hU1 hz1 q0 q1 q2 q3
  go_upto_region 3 with fail
  rw [← HP.out, ← HW3.out]
  go_wp2_with fail
  obtain ⟨B0, hB0⟩ : ∃ B0, B0 = w3.heap.size := ⟨_, rfl⟩
  have hPB : P < B0 := by have := ht3.lt; omega
  go_loopw [7, 8, 9] (fun v7 v8 v9 wr => ∃ (j : Nat) (ms : List Tm) (ss : List Sm) (css css2 : List (List Value)), v9 = .int .i64 (j : Int) ∧ j ≤ cn ∧ ms.length = j ∧ ss.length = j ∧ (∀ m ∈ ms, m.wt ≤ 10000) ∧ (∀ s ∈ ss, s.wt ≤ 1000) ∧
      Two 29 4 34 2 B0 wr v7 (ms.map Tm.dat) css v8 (ss.map Sm.dat) css2 ∧ TapeOk wr (H + 1) ∧ NamesOk (H + 1) wr ∧ Upto (isT (H + 1)) w3 wr)
    (fun _ _ v9 _ => cn - (intOf v9).toNat)
  case atStart => exact ⟨0, [], [], [], [], rfl, Nat.zero_le _, rfl, rfl, by simp, by simp, Two.nil _ _ _ _ _ _, hT3, hK3, Upto.refl _ _⟩
  case round =>
    obtain ⟨j, ms, ss, css, css2, rfl, hj, hml, hsl, hmw, hsw, hTw, hTr, hKr, hU⟩ := hrel
    have hNr := hN3.keep hU (by simp only [isT]; omega)
    have htr := ht3.keep hU (by simp only [isT]; omega)
    obtain ⟨q0, q1, q2, q3⟩ := hNr.cells
    have hzr : B0 ≤ wr.heap.size := by rw [hB0]; exact hU.size
    have u2 : (j : Int) ≤ 4 := by omega
    have u3 : (0 : Int) ≤ (j : Int) := by omega
    obtain ⟨vm, hvm⟩ : ∃ v, v = u7 := ⟨_, rfl⟩
    obtain ⟨vs, hvs⟩ : ∃ v, v = u8 := ⟨_, rfl⟩
    rw [← hvm, ← hvs] at hTw
    rw [← hvm, ← hvs]
    have HV := hid (And.intro hvm hvs)
    have HM := hid (And.intro hml (And.intro hsl (And.intro hmw hsw)))
    have HB := hid hB0
    clear hvm hvs hml hsl hmw hsw hB0
    by_cases hlt : j < cn
    · have u4 : (j : Int) < (cn : Int) := by omega
      have MDr := fun n => MD n wr hTr hKr
      go_wp2_with (first | ((go_at_call 5); (with_reducible refine (K1 _).mono ?_); rintro e w7 ⟨rfl, rfl⟩))
      (with_reducible refine (MDr _).mono ?_)
      rintro e w4 ⟨k4, i4, n4, a4, len4, cap4, m, rfl, hR4, hmw, hT4, hK4, hU4⟩
      have hTw4 := hTw.keep hU4 (fun b e => by simp only [isT] at e; omega)
      have hln : (ms.map Tm.dat).length = j := by rw [List.length_map]; exact HM.out.1
      have hln2 : (ss.map Sm.dat).length = j := by rw [List.length_map]; exact HM.out.2.1
      have hal4 := (Upto.refl none' w4).alloc (.cells #[.int .i64 k4, .string (B n4), .int .i64 i4, .slice a4 len4 cap4] 29)
      have hTb := hTw4.on hal4
      have own4 := hTb.one.2.2.1
      rw [hln] at own4
      have z4 := hU4.size
      have HLN := hid (And.intro hln hln2)
      clear hln hln2
      go_wp2_with (at_builtin; go_loud (refine wpList_append_lies _ (by rfl) _ _ 27 (by rfl) B0 29 i0 (.agg #[.int .i64 0, .string (B []), .int .i64 0, .slice none 0 0]) 4 56 (by kernel_rfl) hi hi0 hi1 hi2 rfl (by decide) vm j css.flatten (by rfl) own4 ⟨w4.heap.size, 0, none⟩ 1 1 [.int .i64 k4, .string (B n4), .int .i64 i4, .slice a4 len4 cap4] (by rfl) rfl (World.news_of_block (heap_alloc_new w4 _)) (by simp [Value.oneCell']) (by omega) (by simp only [maxLen]; omega) (by omega) (by simp; omega) _ rfl ?_); intro g cap' w5 hown hgrow hat _hg5)
      have hRu : Rep (fun b => (b < B0 ∨ vs.ownBlock = some b) ∨ vm.ownBlock = some b) (w4.alloc (.cells #[.int .i64 k4, .string (B n4), .int .i64 i4, .slice a4 len4 cap4] 29)) m.dat [.int .i64 k4, .string (B n4), .int .i64 i4, .slice a4 len4 cap4] := by
        refine Rep.weaken (fun b _ e => ?_) _ _ (hR4.on hal4)
        rcases e with (e | e) | e
        · omega
        · have := (hTw.two.2.2.1.lt b e).2; omega
        · have := (hTw.one.2.2.1.lt b e).2; omega
      have hown8 : w5.ownsRow B0 29 4 (.slice (some ⟨g, 0, none⟩) ((ms.map Tm.dat).length + 1) cap') ((ms.map Tm.dat).length + 1) (css.flatten ++ [.int .i64 k4, .string (B n4), .int .i64 i4, .slice a4 len4 cap4]) := by rw [HLN.out.1]; exact hown
      have hTw5 := hTb.appended (d := m.dat) rfl hRu hown8 hgrow hat (Nat.le_refl _)
      rw [HLN.out.1] at hTw5
      have hrow := hTb.upto hgrow
      have hT5 := (hT4.on hal4).far hrow (fun b e => by omega)
      have hK5 := (hK4.on hal4).far hrow (fun b e => by omega)
      have hU5 : Upto (isT (H + 1)) w3 w5 := ((hU.trans hU4 (fun _ _ e => e)).trans hal4 (fun _ _ e => e.elim)).trans hrow (fun b hb e => by have := HB.out; omega)
      have hmap : ms.map Tm.dat ++ [m.dat] = (ms ++ [m]).map Tm.dat := by simp
      rw [hmap] at hTw5
      have HMW := hid hmw
      clear hRu hown8 hrow hown hgrow hat hTb own4 hT4 hK4 hU4 hTw4 hal4 hR4 hmap hmw hTr hKr hTw q0 q1 q2 q3
      go_wp2_with fail
      (with_reducible refine (SM _ hT5).mono ?_)
      rintro e w6 ⟨f6, sa6, sl6, sc6, s, rfl, hR6, hF6, hT6, hU6⟩
      have hsw : s.wt ≤ 1000 := by have := hF6.wt; omega
      have hTw6 := hTw5.keep hU6 (fun b e => by simp only [isT] at e; omega)
      have hal6 := (Upto.refl none' w6).alloc (.cells #[.string (B f6), .slice sa6 sl6 sc6] 34)
      have hTb := hTw6.on hal6
      have own6 := hTb.two.2.2.1
      rw [HLN.out.2] at own6
      have z6 := hU6.size
      have z5 := hU5.size
      have hzB : B0 ≤ w6.heap.size := by have := HB.out; omega
      have HSW := hid hsw
      clear hsw
      go_wp2_with (at_builtin; go_loud (refine wpList_append_lies _ (by rfl) _ _ 31 (by rfl) B0 34 i1 (.agg #[.string (B []), .slice none 0 0]) 2 40 (by kernel_rfl) gi gi0 gi1 gi2 rfl (by decide) vs j css2.flatten (by rfl) own6 ⟨w6.heap.size, 0, none⟩ 1 1 [.string (B f6), .slice sa6 sl6 sc6] (by rfl) rfl (World.news_of_block (heap_alloc_new w6 _)) (by simp [Value.oneCell']) (by omega) (by simp only [maxLen]; omega) (by omega) (by simp; omega) _ rfl ?_); intro g2 cap2' w7 hown hgrow hat _hg7)
      have hRu : Rep (fun b => (b < B0 ∨ (Value.slice (some ⟨g, 0, none⟩) (j + 1) cap').ownBlock = some b) ∨ vs.ownBlock = some b) (w6.alloc (.cells #[.string (B f6), .slice sa6 sl6 sc6] 34)) s.dat [.string (B f6), .slice sa6 sl6 sc6] := by
        refine Rep.weaken (fun b _ e => ?_) _ _ (hR6.on hal6)
        rcases e with (e | e) | e
        · have := HB.out; omega
        · have := (hTw5.one.2.2.1.lt b e).2; omega
        · have := (hTw5.two.2.2.1.lt b e).2; omega
      have hown8 : w7.ownsRow B0 34 2 (.slice (some ⟨g2, 0, none⟩) ((ss.map Sm.dat).length + 1) cap2') ((ss.map Sm.dat).length + 1) (css2.flatten ++ [.string (B f6), .slice sa6 sl6 sc6]) := by rw [HLN.out.2]; exact hown
      have hTw7 := (hTb.swap.appended (d := s.dat) rfl hRu hown8 hgrow hat (Nat.le_refl _)).swap
      rw [HLN.out.2] at hTw7
      have hrow := hTb.swap.upto hgrow
      have hT7 := (hT6.on hal6).far hrow (fun b e => by omega)
      have hK7 := ((hK5.keep hU6).on hal6).far hrow (fun b e => by omega)
      have hU7 : Upto (isT (H + 1)) w3 w7 := ((hU5.trans hU6 (fun _ _ e => e)).trans hal6 (fun _ _ e => e.elim)).trans hrow (fun b hb e => by have := HB.out; omega)
      have hmap : ss.map Sm.dat ++ [s.dat] = (ss ++ [s]).map Sm.dat := by simp
      rw [hmap] at hTw7
      have HN := hid (And.intro hTw7 (And.intro hT7 (And.intro hK7 hU7)))
      clear hTw7 hT7 hK7 hU7 hRu hown8 hrow hmap
      go_wp2_with fail
      go_roundw
      case rel =>
        refine ⟨j + 1, ms ++ [m], ss ++ [s], _, _, by go_num, by omega, ?_, ?_, ?_, ?_, HN.out.1, HN.out.2.1, HN.out.2.2.1, HN.out.2.2.2⟩
        · rw [List.length_append, HM.out.1]; rfl
        · rw [List.length_append, HM.out.2.1]; rfl
        · intro x hx
          rcases List.mem_append.1 hx with hx | hx
          · exact HM.out.2.2.1 x hx
          · rw [List.mem_singleton.1 hx]; exact HMW.out
        · intro x hx
          rcases List.mem_append.1 hx with hx | hx
          · exact HM.out.2.2.2 x hx
          · rw [List.mem_singleton.1 hx]; exact HSW.out
      case measure => simp [intOf]; omega
    · have hjc : ¬ (j : Int) < (cn : Int) := by omega
      obtain ⟨va, vc, hvm', hvc, hFm⟩ := (hTw.one.weaken (O' := fun b => b < B0) (fun k _ e => .inl e)).rep (fun b e => e)
      obtain ⟨sa, sc, hvs', hsc, hFs⟩ := (hTw.two.weaken (O' := fun b => b < B0) (fun k _ e => .inl e)).rep (fun b e => e)
      rw [List.length_map, HM.out.1] at hvm' hvc
      rw [List.length_map, HM.out.2.1] at hvs' hsc
      subst hvm' hvs'
      have hUw : Upto none' w wr := hU3.trans hU (fun b hb e => by simp only [isT] at e; have := HH.out; omega)
      have hRr := Rep.keep (O := fun b => b = H + 1) hU (fun b e => e) _ _ hR3
      have HFS := hid (And.intro hFm (And.intro hFs (And.intro hRr (And.intro hvc hsc))))
      have HTW := hid hTw
      have q2r := htr.lt
      clear hFm hFs hRr hTw hTr hKr hvc hsc hR3 hT3 hK3 hN3 hU MD SM
      go_upto_region 10 with (first | ((go_at_call 5); (with_reducible refine (K1 _).mono ?_); rintro e w7 ⟨rfl, rfl⟩))
      have hwt9 : t.wt ≤ 1000000 := by omega
      obtain ⟨cb, hcb⟩ : ∃ cb, cb = ((c3 == 0) && decide (0 < j)) := ⟨_, rfl⟩
      have HCB := hid hcb
      clear hcb
      go_cut [52] from 44 to 52 (fun v52 wx => v52 = .bool cb ∧ wr = wx)
      case first =>
        have hc : (c3 = 0 ∧ 0 < j) ∨ (c3 = 0 ∧ j = 0) ∨ (c3 == 0) = false := by
          by_cases h : c3 = 0
          · by_cases h' : 0 < j
            · exact .inl ⟨h, h'⟩
            · exact .inr (.inl ⟨h, by omega⟩)
          · exact .inr (.inr (by simpa using h))
        have hce : cb = ((c3 == 0) && decide (0 < j)) := HCB.out
        have HCE := hid hce
        clear hce
        rcases hc with ⟨rfl, hj0⟩ | ⟨rfl, rfl⟩ | hc
        case' inl => have hj1 : (0 : Int) < (j : Int) := by omega
        all_goals
          go_wp2_with (first | ((go_at_call 5); (with_reducible refine (K3 _).mono ?_); rintro e w7 ⟨rfl, rfl⟩))
          go_meet
        all_goals first
          | (have h9 := hj0; exact ⟨by rw [HCE.out]; simp [h9], rfl⟩)
          | (have h9 := hc; exact ⟨by rw [HCE.out, h9]; rfl, rfl⟩)
          | exact ⟨by rw [HCE.out]; rfl, rfl⟩
      case rest =>
        obtain ⟨rfl, rfl⟩ := hcut
        go_upto_if 52 with fail
        go_cut [8] from 53 to 54 (fun v8 wx => ∃ (ss' : List Sm) (sa' : Option Addr) (sc' : Nat), v8 = .slice sa' ss'.length sc' ∧ ss'.length ≤ 10 ∧ (∀ s ∈ ss', s.wt ≤ 1000) ∧ RepE none' wx 2 (ss'.map Sm.dat) sa' 0 ∧ wr = wx)
        case first =>
          cases cb
          · go_wp2_with fail
            go_meet
            case rel => exact ⟨ss, sa, sc, by rw [HM.out.2.1], by rw [HM.out.2.1]; omega, HM.out.2.2.2, RepE.weaken (fun _ _ x => x.elim) _ _ _ _ HFS.out.2.1, rfl⟩
          · have hj0 : 0 < j := by have := HCB.out; simp at this; exact this.2
            obtain ⟨s, ss2, hss⟩ : ∃ s ss2, ss = s :: ss2 := by
              cases ss with
              | nil => have := HM.out.2.1; simp at this; omega
              | cons s ss2 => exact ⟨s, ss2, rfl⟩
            have hFs := HFS.out.2.1
            have hsc := HFS.out.2.2.2.2
            rw [hss] at hFs
            obtain ⟨bs, os, rfl⟩ : ∃ b o, sa = some ⟨b, o, none⟩ := by
              obtain ⟨b, o, _, e, _⟩ := hFs.get 0 (by simp)
              exact ⟨b, o, e⟩
            have ht2 := rep_tail hFs
            have hl2 : ss2.length = j - 1 := by have := HM.out.2.1; rw [hss] at this; simp at this; omega
            have hw2 : ∀ s ∈ ss2, s.wt ≤ 1000 := fun x hx => HM.out.2.2.2 x (by rw [hss]; simp [hx])
            have HN := hid (And.intro ht2 (And.intro hl2 hw2))
            have hj1 : (1 : Int) ≤ (j : Int) := by omega
            have hsc1 : (1 : Int) ≤ (sc : Int) := by omega
            have hjs : (j : Int) ≤ (sc : Int) := by omega
            clear ht2 hl2 hw2 hFs hss
            by_cases hs9 : sc = 1
            all_goals
              go_wp2_with fail
              go_meet
            all_goals first
              | exact ⟨ss2, some ⟨bs, os + 2, none⟩, sc - 1, slice_len _ _ HN.out.2.1, by have := HN.out.2.1; omega, HN.out.2.2, RepE.weaken (fun _ _ x => x.elim) _ _ _ _ HN.out.1, rfl⟩
              | exact ⟨ss2, some ⟨bs, os, none⟩, 0, slice_len _ _ HN.out.2.1, by have := HN.out.2.1; omega, HN.out.2.2, by have : ss2 = [] := List.length_eq_zero_iff.1 (by have := HN.out.2.1; omega); rw [this]; exact rep_none rfl, rfl⟩
        case rest =>
          obtain ⟨ss', sa', sc', rfl, hsl9, hsw9, hFs9, rfl⟩ := hcut
          have hmw9 : ∀ u ∈ ms, u.wt ≤ 1000000 := fun u hu => by have := HM.out.2.2.1 u hu; omega
          have hsw8 : ∀ u ∈ ss', u.wt ≤ 1000000 := fun u hu => by have := hsw9 u hu; omega
          have MNc := fun (W : World) (hu : Upto none' wr W) => many_any none' t ms ss' hwt9 hmw9 hsw8 (by rw [HM.out.1]; omega) (by omega) W (fun _ x => x.elim) _ va vc sa' sc' ((rep_pre HFS.out.2.2.1).on hu) ((rep_pre' HFS.out.1).on hu) (hFs9.on hu)
          have RMc := fun (W : World) (hu : Upto none' wr W) => refMany_any none' t ms ss' hwt9 hmw9 hsw8 (by rw [HM.out.1]; omega) (by omega) W (fun _ x => x.elim) _ va vc sa' sc' ((rep_pre HFS.out.2.2.1).on hu) ((rep_pre' HFS.out.1).on hu) (hFs9.on hu)
          rw [HM.out.1] at MNc RMc
          have hXs := manyT_size t ms ss'
          have SB := fun (m : Tm) (s : Sm) (hm : ms = [m]) (hs : ss' = [s]) (O : Nat → Prop) (W : World) (hO : ∀ b, O b → b < W.heap.size) (cs ds es : List Value) (h1 : Rep O W t.dat cs) (h2 : Rep O W m.dat ds) (h3 : Rep O W s.dat es) => subst_any O t m s hwt9 (hmw9 m (by rw [hm]; simp)) (hsw8 s (by rw [hs]; simp)) W hO cs ds es h1 h2 h3
          have hms' : ∀ (m : Tm) (s : Sm), ms = [m] → ss' = [s] → manyE t [m] [s] = manyE t ms ss' ∧ manyT t [m] [s] = manyT t ms ss' := fun m s h1 h2 => by rw [h1, h2]; exact ⟨rfl, rfl⟩
          obtain ⟨E, hE⟩ : ∃ E, E = manyE t ms ss' := ⟨_, rfl⟩
          obtain ⟨X, hX⟩ : ∃ X, X = manyT t ms ss' := ⟨_, rfl⟩
          rw [← hX] at hXs
          rw [← hE, ← hX] at MNc RMc hms'
          have SA := fun (W : World) cs ds h h' => refSame_any X (by omega) X W cs ds h h'
          rw [Tm.same_refl] at SA
          have HMS := hid hms'
          have hEE : (E != E) = false := by simp
          obtain ⟨sl, hsl⟩ : ∃ sl, sl = ss'.length := ⟨_, rfl⟩
          rw [← hsl] at MNc RMc
          rw [← hsl]
          have hsl3 : (sl : Int) ≤ 10 := by omega
          have HSL := hid (And.intro hsl hsl9)
          obtain ⟨t0, t1, t2, t3⟩ := htr.cells
          clear hms' hE hX hsl hsl9 hsw9 q0 q1 q2 q3
          go_upto_region 12 with fail
          go_wp2_with fail
          (with_reducible refine (MNc wr (Upto.refl _ _)).mono ?_)
          rintro e w5 ⟨k5, i5, n5, a5, len5, cap5, rfl, hR5, hU5⟩
          obtain ⟨w6, hw6⟩ : ∃ w6, w6 = w5.alloc (.cells #[.int .i64 k5, .string (B n5), .int .i64 i5, .slice a5 len5 cap5] 29) := ⟨_, rfl⟩
          have hUa : Upto none' w5 w6 := by rw [hw6]; exact (Upto.refl none' _).alloc _
          have hx6 : Box4 w6 w5.heap.size (.int .i64 k5) (.string (B n5)) (.int .i64 i5) (.slice a5 len5 cap5) 29 := by rw [hw6]; exact Box4.at_new rfl
          have hU6 := hU5.and hUa
          have ht6 := htr.kept hU6
          have hR6 := hR5.on hUa
          obtain ⟨Y, hY⟩ : ∃ Y, Y = w5.heap.size := ⟨_, rfl⟩
          rw [← hY] at hx6
          have HY := hid hY
          have HW6 := hid hw6
          clear hw6 hY hUa hR5 t0 t1 t2 t3 MNc
          go_upto_region 13 with fail
          rw [← HW6.out, ← HY.out]
          obtain ⟨t0, t1, t2, t3⟩ := ht6.cells
          go_wp2_with fail
          (with_reducible refine (RMc w6 hU6).mono ?_)
          rintro e w7 ⟨k7, i7, n7, a7, len7, cap7, rfl, hR7, hU7⟩
          obtain ⟨w8, hw8⟩ : ∃ w8, w8 = w7.alloc (.cells #[.int .i64 k7, .string (B n7), .int .i64 i7, .slice a7 len7 cap7] 29) := ⟨_, rfl⟩
          have hUa : Upto none' w7 w8 := by rw [hw8]; exact (Upto.refl none' _).alloc _
          have hy8 : Box4 w8 w7.heap.size (.int .i64 k7) (.string (B n7)) (.int .i64 i7) (.slice a7 len7 cap7) 29 := by rw [hw8]; exact Box4.at_new rfl
          have hU68 := hU7.and hUa
          have hU8 := hU6.and hU68
          have ht8 := ht6.kept hU68
          have hx8 := hx6.kept hU68
          have hR8 := hR6.on hU68
          have hS8 := hR7.on hUa
          obtain ⟨Z, hZ⟩ : ∃ Z, Z = w7.heap.size := ⟨_, rfl⟩
          rw [← hZ] at hy8
          have HZ := hid hZ
          have HW8 := hid hw8
          clear hw8 hZ hUa hR7 hR6 hx6 ht6 t0 t1 t2 t3 RMc
          go_upto_region 14 with fail
          rw [← HW8.out, ← HZ.out]
          obtain ⟨x0, x1, x2, x3⟩ := hx8.cells
          obtain ⟨y0, y1, y2, y3⟩ := hy8.cells
          have SA8 := SA w8 _ _ hR8 hS8
          go_upto_region 16 with (first | ((go_at_call 9); (with_reducible refine SA8.mono ?_); rintro e w9 ⟨rfl, hU9⟩))
          have hx9 := hx8.kept hU9
          have ht9 := ht8.kept hU9
          have hR9 := hR8.on hU9
          have hU10 := hU8.and hU9
          have hUz := hUw.and hU10
          clear hx8 ht8 hR8 hS8 hy8 SA8 x0 x1 x2 x3 y0 y1 y2 y3 hU8 hU68 hU5 hU6 hU7
          obtain ⟨c1, hc1⟩ : ∃ c1, c1 = (decide (j = 1) && decide (sl = 1)) := ⟨_, rfl⟩
          have HC1 := hid hc1
          clear hc1
          go_cut [85] from 78 to 85 (fun v85 wx => v85 = .bool c1 ∧ w9 = wx)
          case first =>
            by_cases h1 : j = 1
            · by_cases h2 : sl = 1
              · subst h1 h2
                go_wp2_with fail
                go_meet
                case rel => exact ⟨by rw [HC1.out]; rfl, rfl⟩
              · have h2' : ((sl : Int) == 1) = false := by simp; omega
                have HC2 : Hid (c1 = false) := hid (by rw [HC1.out, decide_eq_false h2]; simp)
                subst h1
                clear h2
                go_wp2_with fail
                go_meet
                case rel => exact ⟨by rw [HC2.out], rfl⟩
            · have h1' : ((j : Int) == 1) = false := by simp; omega
              have HC2 : Hid (c1 = false) := hid (by rw [HC1.out, decide_eq_false h1]; rfl)
              clear h1
              go_wp2_with fail
              go_meet
              case rel => exact ⟨by rw [HC2.out], rfl⟩
          case rest =>
            obtain ⟨rfl, rfl⟩ := hcut
            go_upto_if 85 with fail
            go_cut [] from 86 to 105 (fun wc => Upto none' w wc)
            case first =>
              cases c1
              · go_wp2_with fail
                go_meet
                case rel => exact hUz
              · have h12 : j = 1 ∧ sl = 1 := by have := HC1.out; simp at this; exact this
                obtain ⟨rfl, rfl⟩ := h12
                obtain ⟨m, hm⟩ := List.length_eq_one_iff.1 HM.out.1
                obtain ⟨s, hs⟩ := List.length_eq_one_iff.1 HSL.out.1.symm
                have hFm := (rep_pre' HFS.out.1).on hU10
                have hFs := hFs9.on hU10
                rw [hm] at hFm
                rw [hs] at hFs
                obtain ⟨mb, mo, mk', mn, mi, ml', mc', rfl, hmbl, _, m0, m1, m2, m3, hRm⟩ := arg_tm hFm 0 (by simp)
                obtain ⟨sb', so, sn, st, stc, rfl, hsbl, _, s0, s1, hRs⟩ := arg_sm hFs 0 (by simp)
                simp only [List.getElem_cons_zero, Nat.zero_mul, Nat.add_zero] at m0 m1 m2 m3 hRm s0 s1 hRs
                have SBc := SB m s hm hs
                rw [(HMS.out m s hm hs).1, (HMS.out m s hm hs).2] at SBc
                generalize m.args.length = mal at *
                generalize s.args.length = sal at *
                have S9 : Smw P mb mo sb' so (.int .i64 k2) (.string (B nm2)) (.int .i64 i2) (.slice a2 len2 cap2) (.int .i64 mk') (.string (B mn)) (.int .i64 mi) (.slice ml' mal mc') (.string (B sn)) (.slice st sal stc) w9 := ⟨ht9.cells, ⟨m0, m1, m2, m3⟩, ⟨s0, s1⟩⟩
                have hRt := (rep_pre HFS.out.2.2.1).on hU10
                have SC := fun (O : Nat → Prop) (hO9 : ∀ b, O b → w9.heap.size ≤ b) (W : World) (hu : Upto none' w9 W) (hO : ∀ b, O b → b < W.heap.size) => SBc O W hO _ _ _ ((Rep.weaken (fun b _ e => hO9 b e) _ _ (Rep.fresh hRt)).on hu) ((Rep.weaken (fun b _ e => hO9 b e) _ _ (Rep.fresh hRm)).on hu) ((Rep.weaken (fun b _ e => hO9 b e) _ _ (Rep.fresh hRs)).on hu)
                have hd : Upto none' w9 w9.drew := (Upto.refl none' _).drew
                have ha : Upto none' w9 (w9.alloc (.cells #[.int .i64 0, .string (B []), .int .i64 0, .slice none 0 0] 29)).drew := ((Upto.refl none' _).alloc _).drew
                have SCd := SC none' (fun _ x => x.elim) _ hd (fun _ x => x.elim)
                have hza : ((w9.alloc (.cells #[.int .i64 0, .string (B []), .int .i64 0, .slice none 0 0] 29)).drew).heap.size = w9.heap.size + 1 := by simp
                have SCa := SC (fun b => b = w9.heap.size) (fun b e => by omega) _ ha (fun b e => by rw [hza, e]; exact Nat.lt_succ_self _)
                clear hza
                have Sd := S9.keep hd (fun x => x) (fun x => x) (fun x => x)
                have Sa := S9.keep ha (fun x => x) (fun x => x) (fun x => x)
                have hlP := ht9.lt
                clear m0 m1 m2 m3 s0 s1 hRm hRs SC SBc SB hFm hFs hm hs hRt
                go_upto_region 17 with fail
                go_cut [14, 15] from 87 to 96 (fun v14 v15 wc => ∃ (b : Nat) (k i : Int) (n : List UInt8) (a : Option Addr) (len cap : Nat), v14 = .pointer (some ⟨b, 0, none⟩) ∧ v15 = .int .i64 E ∧ Box4 wc b (.int .i64 k) (.string (B n)) (.int .i64 i) (.slice a len cap) 29 ∧ Rep none' wc X.dat [.int .i64 k, .string (B n), .int .i64 i, .slice a len cap] ∧ Upto none' w9 wc)
                case first =>
                  go_region_held3 (fun w' => Smw P mb mo sb' so (.int .i64 k2) (.string (B nm2)) (.int .i64 i2) (.slice a2 len2 cap2) (.int .i64 mk') (.string (B mn)) (.int .i64 mi) (.slice ml' mal mc') (.string (B sn)) (.slice st sal stc) w')
                    (first | (with_reducible assumption) | (with_reducible exact Sd) | (with_reducible exact Sa) | (repeat' (first | (with_reducible assumption) | (with_reducible refine Smw.new ?_ _) | (with_reducible refine Smw.drew ?_) | (with_reducible refine Smw.set4 ?_ (by (try simp only [World.size_alloc]); omega) (by (try simp only [World.size_alloc]); omega) (by (try simp only [World.size_alloc]); omega) _ _ _ _))))
                    (first
                      | ((go_at_call 10); (with_reducible refine SCd.mono ?_); rintro e w11 ⟨k11, i11, n11, a11, len11, cap11, rfl, hR11, hU11⟩; have S11 := Sd.keep hU11 (fun x => x) (fun x => x) (fun x => x); have hU911 := hd.and hU11; have z11 := hU911.size)
                      | ((go_at_call 10); (with_reducible refine SCa.mono ?_); rintro e w11 ⟨k11, i11, n11, a11, len11, cap11, rfl, hR11, hU11⟩; have S11 := Sa.keep hU11 (fun x => x) (fun x => x) (fun x => x); have hU911 := ha.and hU11; have z11 := hU911.size; have h6 := (((Box4.at_new rfl : Box4 (w9.alloc (.cells #[.int .i64 0, .string (B []), .int .i64 0, .slice none 0 0] 29)) w9.heap.size _ _ _ _ 29).kept (Upto.refl none' _).drew).kept hU11); obtain ⟨c0, c1, c2, c3⟩ := h6.cells; obtain ⟨d0, d1, d2, d3⟩ := h6.frozens; have h6l := h6.lt))
                  all_goals
                    go_wp2_with fail
                    go_meet
                  all_goals first
                    | (have h7 := h6
                       refine ⟨w9.heap.size, k11, i11, n11, a11, len11, cap11, rfl, rfl, ?_, ?_, ?_⟩
                       · exact h7.set.1
                       · exact rep_pre (Rep.keep h7.set.2 (fun b e => e) _ _ hR11)
                       · exact hU911.trans h7.set.2 (fun b hb e => by omega))
                    | (refine ⟨w11.heap.size, k11, i11, n11, a11, len11, cap11, rfl, rfl, ?_, ?_, ?_⟩
                       · exact Box4.at_new rfl
                       · exact hR11.on ((Upto.refl none' _).alloc _)
                       · exact hU911.alloc _)
                case rest =>
                  obtain ⟨b, k, i, n, a, len, cap, rfl, rfl, hB, hRb, hUb⟩ := hcut
                  obtain ⟨w12, rfl⟩ : ∃ q, q = wc := ⟨wc, rfl⟩
                  have hx12 := hx9.kept hUb
                  have SA12 := SA w12 _ _ hRb (hR9.on hUb)
                  obtain ⟨x0, x1, x2, x3⟩ := hx12.cells
                  obtain ⟨y0, y1, y2, y3⟩ := hB.cells
                  go_wp2_with (first | ((go_at_call 9); (with_reducible refine SA12.mono ?_); rintro e w13 ⟨rfl, hU13⟩))
                  go_meet
                  case rel => exact (hUz.and hUb).and hU13
            case rest =>
              obtain ⟨w10, rfl⟩ : ∃ q, q = wc := ⟨wc, rfl⟩
              go_wp2_with fail
              refine (awake08 _).mono ?_
              rintro e w11 ⟨rfl, hU11⟩
              go_wp2_with fail
              go_ret
              exact ⟨rfl, hcut.and hU11⟩
end Go.Proofs.YtadphaobbpngkaaDoor
