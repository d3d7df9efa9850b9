/- subst.Many. -/
import Derived.Test.YtdomloghcpfdjaaGreatDoorCL
import Derived.Test.YtdomloghcpfdjaaGreatDoorEB
import Derived.Test.YtdomloghcpfdjaaGreatDoorEF
import Derived.Deep.CutRange
namespace Go.LF
open Tm in
/-- What Many hands back. -/
def manyE (t : Tm) (ms : List Tm) (ss : List Sm) : Int :=
  if firstE Tm.wf (t :: ms) ≠ 0 then firstE Tm.wf (t :: ms) else if firstE Sm.wf ss ≠ 0 then firstE Sm.wf ss else if ms.length ≠ ss.length then 33 else
    if ms.any (fun u => !(u.isObj && u.small)) = true then 32 else (Tm.sb 262145 ms ss 0 t 0).e
def manyT (t : Tm) (ms : List Tm) (ss : List Sm) : Tm := if manyE t ms ss = 0 then (Tm.sb 262145 ms ss 0 t 0).t else Tm.none0
namespace Tm
theorem apF_none (f : Tm → Sm → Tm → Nat → Res) (hf : ∀ u s b w, (f u s b w).e ≠ 0 → (f u s b w).t = none0) (us : List Tm) : ∀ (m : Tm) (ss : List Sm) (w : Nat), (apF f m ss us w).e ≠ 0 → (apF f m ss us w).t = none0 := by
  induction us with
  | nil =>
    intro m ss w h
    unfold apF at h ⊢
    split
    · rfl
    · rename_i hk; rw [if_neg hk] at h; unfold chk at h ⊢; split
      · rename_i h2; rw [if_pos h2] at h; exact absurd rfl h
      · rfl
  | cons u us ih =>
    intro m ss w h
    cases ss with
    | nil => unfold apF; rfl
    | cons s ss =>
      rw [apF] at h ⊢
      split
      · rename_i hk
        rw [if_pos hk] at h
        split
        · rename_i he; rw [if_pos he] at h; exact ih _ _ _ h
        · rename_i he; exact hf _ _ _ _ he
      · rfl
theorem sb_none (n : Nat) : ∀ ms ss d t w, (sb n ms ss d t w).e ≠ 0 → (sb n ms ss d t w).t = none0 := by
  induction n with
  | zero => intro ms ss d t w _; rw [sb]
  | succ n ih =>
    intro ms ss d t w h
    rw [sb] at h ⊢
    split
    · rfl
    · rename_i h1
      rw [if_neg h1] at h
      split
      · rename_i h2
        rw [if_pos h2] at h
        revert h
        have hck : ∀ (t : Tm) (w : Nat), (chk t w).e ≠ 0 → (chk t w).t = none0 := by
          intro t w h
          unfold chk at h ⊢
          split
          · rename_i h3; rw [if_pos h3] at h; exact absurd rfl h
          · rfl
        unfold sbN
        split
        · split
          · split
            · intro _; rfl
            · unfold ap
              split
              · exact apF_none _ (fun u s b w h => ih _ _ _ _ _ h) _ _ _ _
              · intro _; rfl
          · exact hck _ _
        · exact hck _ _
      · rfl
end Tm
end Go.LF
namespace Go.Proofs.YtdomloghcpfdjaaGreatDoor
open Go.RowKit Go.LF
/-- A row of one that has just been laid. -/
theorem RowS.one {O : Nat → Prop} {W : World} {t : Tm} {k i : Int} {n : List UInt8} {a : Option Addr} {len cap : Nat} (hR : Rep O W t.dat [.int .i64 k, .string (B n), .int .i64 i, .slice a len cap]) :
    RowS O W.heap.size (W.alloc (.cells #[.int .i64 k, .string (B n), .int .i64 i, .slice a len cap] 29)) (.slice (some ⟨W.heap.size, 0, none⟩) 1 1) [t] [[.int .i64 k, .string (B n), .int .i64 i, .slice a len cap]] := by
  refine ⟨rfl, by simp, ⟨by simp, .inr ⟨_, _, _, rfl, Nat.le_refl _, heap_alloc_new W _, Nat.le_refl _, by simp only [maxLen]; omega, by simp, by simp⟩⟩, fun j h h' => ?_⟩
  obtain rfl : j = 0 := by simpa using h
  exact (Rep.fresh' _ _ hR).on ((Upto.refl none' W).alloc _)
/-- What Many's first region reads. -/
abbrev Mn1 (H : Nat) (t0 t1 t2 t3 m0 s0 : Value) (w' : World) : Prop :=
  (w'.cell? ⟨H, 0, none⟩ = some t0 ∧ w'.cell? ⟨H, 1, none⟩ = some t1 ∧ w'.cell? ⟨H, 2, none⟩ = some t2 ∧ w'.cell? ⟨H, 3, none⟩ = some t3) ∧ w'.cell? ⟨H + 1, 0, none⟩ = some m0 ∧ w'.cell? ⟨H + 1 + 1, 0, none⟩ = some s0
theorem Mn1.keep {H : Nat} {t0 t1 t2 t3 m0 s0 : Value} {w w' : World} {S : Nat → Prop} (h : Mn1 H t0 t1 t2 t3 m0 s0 w) (hU : Upto S w w') (h1 : ¬ S H) (h2 : ¬ S (H + 1)) (h3 : ¬ S (H + 1 + 1)) : Mn1 H t0 t1 t2 t3 m0 s0 w' :=
  ⟨⟨hU.cell h.1.1 h1, hU.cell h.1.2.1 h1, hU.cell h.1.2.2.1 h1, hU.cell h.1.2.2.2 h1⟩, hU.cell h.2.1 h2, hU.cell h.2.2 h3⟩
theorem rep_pre' {O : Nat → Prop} {w : World} {wd : Nat} {ds : List Dat} {a : Option Addr} {j : Nat} (h : RepE O w wd ds a j) : RepE none' w wd ds a j := RepE.weaken (fun _ _ x => x.elim) _ _ _ _ h
set_option maxRecDepth 100000 in
set_option maxHeartbeats 16000000 in
theorem many_any (O : Nat → Prop) (t : Tm) (ms : List Tm) (ss : List Sm) (hwt : t.wt ≤ 1000000) (hmw : ∀ u ∈ ms, u.wt ≤ 1000000) (hsw : ∀ s ∈ ss, s.wt ≤ 1000000) (hml : ms.length ≤ 10000) (hsl : ss.length ≤ 10000) (w : World) (hO : ∀ b, O b → b < w.heap.size) (cs : List Value) (ma : Option Addr) (mc : Nat) (sa : Option Addr) (sc : Nat)
    (hR : Rep O w t.dat cs) (hM : RepE O w 4 (ms.map Tm.dat) ma 0) (hS : RepE O w 2 (ss.map Sm.dat) sa 0) :
    Calls Tryz.prog 161 #[.agg cs.toArray, .slice ma ms.length mc, .slice sa ss.length sc] w fun e w' => ∃ (k i : Int) (n : List UInt8) (a : Option Addr) (len cap : Nat), e = .returned (.tuple #[.agg #[.int .i64 k, .string (B n), .int .i64 i, .slice a len cap], .int .i64 (manyE t ms ss)]) ∧
      Rep O w' (manyT t ms ss).dat [.int .i64 k, .string (B n), .int .i64 i, .slice a len cap] ∧ Upto none' w w' := by
  obtain ⟨k, n, i, ts, a, cap, htt, rfl, _, _⟩ := tm_open hR
  generalize ts.length = len at *
  obtain ⟨w1, hw1⟩ : ∃ w1, w1 = (((w.alloc (.cells #[.int .i64 k, .string (B n), .int .i64 i, .slice a len cap] 29)).alloc (.cells #[.slice ma ms.length mc] 27)).alloc (.cells #[.slice sa ss.length sc] 31)).alloc (.cells #[.int .i64 0, .string (B []), .int .i64 0, .slice none 0 0] 29) := ⟨_, rfl⟩
  have hU1 : Upto none' w w1 := by rw [hw1]; exact ((((Upto.refl none' w).alloc _).alloc _).alloc _).alloc _
  have ht1 : Box4 w1 w.heap.size (.int .i64 k) (.string (B n)) (.int .i64 i) (.slice a len cap) 29 := by rw [hw1]; exact (((Box4.at_new rfl).kept ((Upto.refl none' _).alloc _)).kept ((Upto.refl none' _).alloc _)).kept ((Upto.refl none' _).alloc _)
  have hm1 : Box1 w1 (w.heap.size + 1) (.slice ma ms.length mc) 27 := by rw [hw1]; exact ((Box1.at_new (by simp)).kept ((Upto.refl none' _).alloc _)).kept ((Upto.refl none' _).alloc _)
  have hs1 : Box1 w1 (w.heap.size + 1 + 1) (.slice sa ss.length sc) 31 := by rw [hw1]; exact (Box1.at_new (by simp)).kept ((Upto.refl none' _).alloc _)
  have hr1 : Box4 w1 (w.heap.size + 1 + 1 + 1) (.int .i64 0) (.string (B [])) (.int .i64 0) (.slice none 0 0) 29 := by rw [hw1]; exact Box4.at_new (by simp)
  have hR1 := (Rep.freshO hR).on hU1
  have hM1 := (RepE.fresh' _ _ _ _ hM).on hU1
  have hS1 := (RepE.fresh' _ _ _ _ hS).on hU1
  have HW := hid hw1
  obtain ⟨H, hH⟩ : ∃ H, H = w.heap.size := ⟨_, rfl⟩
  have HH := hid hH
  rw [← hH] at ht1 hm1 hs1 hr1 hR1 hM1 hS1
  have hO2 : ∀ b, O b → b < H := by rw [hH]; exact hO
  have HO := hid hO2
  obtain ⟨E, hE⟩ : ∃ E, E = manyE t ms ss := ⟨_, rfl⟩
  obtain ⟨X, hX⟩ : ∃ X, X = manyT t ms ss := ⟨_, rfl⟩
  rw [← hE, ← hX]
  unfold manyT at hX
  rw [← hE] at hX
  unfold manyE at hE
  have HEX := hid (And.intro hE hX)
  have FO := fun (W : World) (a9 : Option Addr) (c9 : Nat) h9 h8 => subForms_any (t :: ms) ss (by simp; omega) (fun u hu => (List.mem_cons.1 hu).elim (fun h => h ▸ hwt) (hmw u)) (by omega) hsw W a9 c9 sa sc h9 h8
  obtain ⟨ml, hmll⟩ : ∃ ml, ml = ms.length := ⟨_, rfl⟩
  obtain ⟨sl, hsll⟩ : ∃ sl, sl = ss.length := ⟨_, rfl⟩
  rw [← hmll, ← hsll]
  rw [← hmll] at hm1 hml HW
  rw [← hsll] at hs1 hsl HW
  rw [← hsll] at FO
  have HL := hid (And.intro hmll hsll)
  have HU := hid hU1
  have hml3 : (ml : Int) ≤ 10000 := by omega
  have hsl3 : (sl : Int) ≤ 10000 := by omega
  clear hw1 hH hR hM hS hE hX hmll hsll hU1 hO hO2
  have S1 : Mn1 H (.int .i64 k) (.string (B n)) (.int .i64 i) (.slice a len cap) (.slice ma ml mc) (.slice sa sl sc) w1 := ⟨ht1.cells, hm1.cell, hs1.cell⟩
  have hd : Upto none' w1 w1.drew := (Upto.refl none' _).drew
  have Sd := S1.keep hd (fun x => x) (fun x => x) (fun x => x)
  have hal : Upto none' w1 (w1.alloc (.cells #[.int .i64 k, .string (B n), .int .i64 i, .slice a len cap] 29)).drew := ((Upto.refl none' _).alloc _).drew
  have Sa := S1.keep hal (fun x => x) (fun x => x) (fun x => x)
  have hz1 : H + 4 ≤ w1.heap.size := by have := hr1.lt; omega
  have hS1' : ∀ {W : World}, Upto none' w1 W → RepE none' W 2 (ss.map Sm.dat) sa 0 := fun hu => (rep_pre' hS1).on hu
  have hrow0 := RowS.one (O := fun b => b = H ∨ b = H + 1 ∨ b = H + 1 + 1 ∨ b = H + 1 + 1 + 1) (Rep.weaken (fun b _ e => .inr (by omega)) _ _ hR1)
  have hrow := hrow0.on (Upto.refl none' _).drew
  go_enter Tryz.func161, Tryz.ntmps161
  go_upto_region 1 with fail
  rw [← show B [] = { data := #[] } from rfl, ← HW.out, ← HH.out]
  obtain ⟨q, hq⟩ : ∃ q : Int, q = if firstE Tm.wf (t :: ms) ≠ 0 then firstE Tm.wf (t :: ms) else firstE Sm.wf ss := ⟨_, rfl⟩
  rw [← hq] at FO
  have HQ := hid hq
  clear hq
  go_cut [8] from 9 to 14 (fun v8 wx => v8 = .int .i64 q ∧ Upto none' w1 wx)
  case first =>
    go_region_held3 (fun w' => Mn1 H (.int .i64 k) (.string (B n)) (.int .i64 i) (.slice a len cap) (.slice ma ml mc) (.slice sa sl sc) w')
      (first | (with_reducible assumption) | (with_reducible exact Sd) | (with_reducible exact Sa))
      (first
        | ((go_at_call 64); refine (FO _ va vc (rep_pre' hF3) (hS1' hU3)).mono ?_; rintro e w5 ⟨rfl, hU5⟩; have S5 := S3.keep hU5 (fun x => x) (fun x => x) (fun x => x))
        | ((refine step_append_tms (by rfl) _ _ (by rfl) (by rfl) hrow ma ml mc ms (by rfl) HL.out.1 (RepE.weaken (fun b _ e => by right; rcases e with e | e; omega; omega) _ _ _ _ (hM1.on hal)) (by simp; have := HL.out.1; omega) (by have := hal.size; omega) ?_; intro v3 w3 css3 hS3 hg3 hat3; have hgo := grown_own hg3; have S3 := Sa.keep hgo (by simp [Value.ownBlock]; omega) (by simp [Value.ownBlock]; omega) (by simp [Value.ownBlock]; omega); obtain ⟨va, vc, hv3, hvc, hF3⟩ := hS3.rep; subst hv3; have hU3 : Upto none' w1 w3 := (hal.trans hgo (fun b hb e => by simp [Value.ownBlock] at e; omega)))))
    all_goals
      go_wp2_with fail
      go_meet
    all_goals exact ⟨rfl, hU3.and hU5⟩
  case rest =>
    obtain ⟨rfl, hU2⟩ := hcut
    obtain ⟨w2, rfl⟩ : ∃ q, q = wc := ⟨wc, rfl⟩
    have hr2 := hr1.kept hU2
    have ht2 := ht1.kept hU2
    have hm2 := hm1.kept hU2
    have hs2 := hs1.kept hU2
    have hlr := hr2.lt
    clear S1 Sd Sa hrow hrow0 hal FO hd
    by_cases hq : q = 0
    case neg =>
      have hE0 : E = q := by
        have h1 := HEX.out.1
        have h2 := HQ.out
        by_cases hf : firstE Tm.wf (t :: ms) = 0
        · rw [if_neg (by simp [hf])] at h1 h2
          rw [h1, ← h2, if_pos hq]
        · rw [if_pos hf] at h1 h2
          rw [h1, h2]
      have hX0 : X = Tm.none0 := by rw [HEX.out.2, hE0, if_neg hq]
      have H0 := hid (And.intro hE0 hX0)
      have hq' : (q != 0) = true := by simpa using hq
      clear hE0 hX0 hq
      have hset := hr2.set (d0 := .int .i64 0) (d1 := .string (B [])) (d2 := .int .i64 0) (d3 := .slice none 0 0)
      obtain ⟨y0, y1, y2, y3⟩ := hr2.cells
      obtain ⟨z0, z1, z2, z3⟩ := hr2.frozens
      obtain ⟨e0, e1, e2, e3⟩ := hset.1.cells
      have HEE := hid (And.intro e0 (And.intro e1 (And.intro e2 (And.intro e3 hset.2))))
      clear e0 e1 e2 e3 hset
      go_wp2_with fail
      obtain ⟨e0, e1, e2, e3, hset⟩ := HEE.out
      refine bodyPost_ret (v := .tuple #[.agg #[.int .i64 0, .string (B []), .int .i64 0, .slice none 0 0], .int .i64 q]) ?_ rfl ?_
      · simp [results, Tryz.f161, go_sem, e0, e1, e2, e3]
      · exact ⟨0, 0, [], none, 0, 0, by rw [H0.out.1], by rw [H0.out.2]; exact rep_leaf 0 [] 0, (HU.out.and hU2).trans hset (fun b hb e => by have := HH.out; omega)⟩
    subst hq
    have hf1 : firstE Tm.wf (t :: ms) = 0 := by
      have h2 := HQ.out
      by_cases hf : firstE Tm.wf (t :: ms) = 0
      · exact hf
      · rw [if_pos hf] at h2; exact absurd h2.symm hf
    have hf2 : firstE Sm.wf ss = 0 := by
      have h2 := HQ.out
      rw [if_neg (by simp [hf1])] at h2
      exact h2.symm
    have hE1 := HEX.out.1
    rw [if_neg (by simp [hf1]), if_neg (by simp [hf2]), ← HL.out.1, ← HL.out.2] at hE1
    have HF := hid (And.intro hf1 hf2)
    obtain hcm := hm2.cell
    obtain hcs := hs2.cell
    clear hf1 hf2
    by_cases hls : ml = sl
    case neg =>
      have hX0 : E = 33 := by rw [hE1, if_pos hls]
      have H0 := hid (And.intro hX0 (show X = Tm.none0 by rw [HEX.out.2, hX0]; rfl))
      have hne : ((ml : Int) != (sl : Int)) = true := by simp; omega
      clear hE1 hX0 hls
      have hset := hr2.set (d0 := .int .i64 0) (d1 := .string (B [])) (d2 := .int .i64 0) (d3 := .slice none 0 0)
      obtain ⟨y0, y1, y2, y3⟩ := hr2.cells
      obtain ⟨z0, z1, z2, z3⟩ := hr2.frozens
      obtain ⟨e0, e1, e2, e3⟩ := hset.1.cells
      have HEE := hid (And.intro e0 (And.intro e1 (And.intro e2 (And.intro e3 hset.2))))
      clear e0 e1 e2 e3 hset
      go_wp2_with fail
      obtain ⟨e0, e1, e2, e3, hset⟩ := HEE.out
      refine bodyPost_ret (v := .tuple #[.agg #[.int .i64 0, .string (B []), .int .i64 0, .slice none 0 0], .int .i64 33]) ?_ rfl ?_
      · simp [results, Tryz.f161, go_sem, e0, e1, e2, e3]
      · exact ⟨0, 0, [], none, 0, 0, by rw [H0.out.1], by rw [H0.out.2]; exact rep_leaf 0 [] 0, (HU.out.and hU2).trans hset (fun b hb e => by have := HH.out; omega)⟩
    subst hls
    rw [if_neg (by simp)] at hE1
    have hnf : ((ml : Int) != (ml : Int)) = false := by simp
    have CO := containsFunc_any (ts := ms) 66 (fun u => !(u.isObj && u.small)) (by rw [← HL.out.1]; omega) (fun x hx W cs h => notObject_any x (hmw x hx) W cs h) (Tryz.call66) w2 ma mc (rep_pre' (hM1.on hU2))
    rw [← HL.out.1] at CO
    obtain ⟨an, han⟩ : ∃ an, an = ms.any (fun u => !(u.isObj && u.small)) := ⟨_, rfl⟩
    rw [← han] at CO hE1
    have HAN := hid han
    clear han
    cases an
    case true =>
      rw [if_pos rfl] at hE1
      have H0 := hid (And.intro hE1 (show X = Tm.none0 by rw [HEX.out.2, hE1]; rfl))
      clear hE1
      go_wp2_with fail
      refine CO.mono ?_
      rintro e w3 ⟨rfl, hU3⟩
      have hr3 := hr2.kept hU3
      have hset := hr3.set (d0 := .int .i64 0) (d1 := .string (B [])) (d2 := .int .i64 0) (d3 := .slice none 0 0)
      obtain ⟨y0, y1, y2, y3⟩ := hr3.cells
      obtain ⟨z0, z1, z2, z3⟩ := hr3.frozens
      obtain ⟨e0, e1, e2, e3⟩ := hset.1.cells
      have HEE := hid (And.intro e0 (And.intro e1 (And.intro e2 (And.intro e3 hset.2))))
      clear e0 e1 e2 e3 hset
      go_wp2_with fail
      obtain ⟨e0, e1, e2, e3, hset⟩ := HEE.out
      refine bodyPost_ret (v := .tuple #[.agg #[.int .i64 0, .string (B []), .int .i64 0, .slice none 0 0], .int .i64 32]) ?_ rfl ?_
      · simp [results, Tryz.f161, go_sem, e0, e1, e2, e3]
      · exact ⟨0, 0, [], none, 0, 0, by rw [H0.out.1], by rw [H0.out.2]; exact rep_leaf 0 [] 0, ((HU.out.and hU2).and hU3).trans hset (fun b hb e => by have := HH.out; omega)⟩
    rw [if_neg (by simp)] at hE1
    have hobj : ∀ u ∈ ms, u.isObj = true ∧ u.small = true := by
      intro u hu
      have h1 := HAN.out.symm
      rw [List.any_eq_false] at h1
      simpa using h1 u hu
    have hssz : ∀ s ∈ ss, s.size ≤ 4096 := by
      intro s hs
      have h1 := firstE_zero Sm.wf ss HF.out.2 s hs
      unfold Sm.wf at h1
      split at h1
      · cases h1
      · split at h1
        · cases h1
        · rename_i h2; simp at h2; omega
    have hwf0 := firstE_zero Tm.wf (t :: ms) HF.out.1 t (by simp)
    have hIn : t.In := ⟨(Tm.wf_ok t hwf0).2.1, (Tm.wf_ok t hwf0).2.2, (Tm.wf_ok t hwf0).1, Tm.wf_vok t hwf0⟩
    have hrt := Tm.sb_none 262145 ms ss 0 t 0
    have hX1 := HEX.out.2
    rw [hE1] at hX1
    have MA := fun (W : World) (wk : Nat) (O : Nat → Prop) => many1_any ms ss t wk (H + 1 + 1) (H + 1) H O W k i n a len cap ma mc sa sc (HL.out.1.symm.trans HL.out.2) (by rw [← HL.out.1]; exact hml) hobj hssz hIn
    rw [← HL.out.1, ← HL.out.2] at MA
    have RU := fun (W : World) => subRun_any 212 [.pointer (some ⟨H + 1 + 1, 0, none⟩), .pointer (some ⟨H + 1, 0, none⟩), .pointer (some ⟨H, 0, none⟩)] _ hrt (fun b => O b ∨ b = H + 1 + 1 + 1) W (Tryz.call212)
    have HX1 := hid (And.intro hE1 (And.intro hX1 hrt))
    have hmf : ∀ (fn : Fn) (first cap : Array Value) (w : World), (Instr.makeFunc fn first cap).run Tryz.prog w = .ok (.func fn first cap) w := fun _ _ _ _ => rfl
    generalize Tm.sb 262145 ms ss 0 t 0 = r at *
    clear hobj hssz hwf0 hIn hrt hE1 hX1
    go_wp2_with fail
    refine CO.mono ?_
    rintro e w3 ⟨rfl, hU3⟩
    have hr3 := hr2.kept hU3
    have ht3 := ht2.kept hU3
    have hm3 := hm2.kept hU3
    have hs3 := hs2.kept hU3
    have hU23 := hU2.and hU3
    have hzz := hU23.size
    have R3 := RU w3 (fun W wk hu hwk hsz hW => by
      have wkO : ∀ b, b < W.heap.size → ((O b ∨ b = H + 1 + 1 + 1) ∨ (w3.heap.size ≤ b ∧ b < w3.heap.size + 3)) → (O b ∨ H ≤ b) := fun b _ e => by rcases e with (e | e) | e; exact .inl e; all_goals (right; omega)
      have h := MA W wk (fun b => (O b ∨ b = H + 1 + 1 + 1) ∨ (w3.heap.size ≤ b ∧ b < w3.heap.size + 3)) (.inr (by omega)) (fun b e => by rcases e with (e | e) | e; (have := HO.out b e; omega); all_goals omega) hW (ht3.kept hu) (hm3.kept hu) (hs3.kept hu)
        (Rep.weaken wkO _ _ ((hR1.on hU23).on hu)) (RepE.weaken wkO _ _ _ _ ((hM1.on hU23).on hu)) (RepE.weaken wkO _ _ _ _ ((hS1.on hU23).on hu))
      exact h)
    clear MA RU
    go_wp2_with fail
    (with_reducible refine R3.mono ?_)
    rintro e w4 ⟨k4, i4, n4, a4, len4, cap4, rfl, hR4, hU4⟩
    have hr4 := hr3.kept hU4
    have hset := hr4.set (d0 := .int .i64 k4) (d1 := .string (B n4)) (d2 := .int .i64 i4) (d3 := .slice a4 len4 cap4)
    obtain ⟨y0, y1, y2, y3⟩ := hr4.cells
    obtain ⟨z0, z1, z2, z3⟩ := hr4.frozens
    obtain ⟨e0, e1, e2, e3⟩ := hset.1.cells
    have HEE := hid (And.intro e0 (And.intro e1 (And.intro e2 (And.intro e3 hset.2))))
    clear e0 e1 e2 e3 hset
    go_wp2_with fail
    obtain ⟨e0, e1, e2, e3, hset⟩ := HEE.out
    refine bodyPost_ret (v := .tuple #[.agg #[.int .i64 k4, .string (B n4), .int .i64 i4, .slice a4 len4 cap4], .int .i64 r.e]) ?_ rfl ?_
    · simp [results, Tryz.f161, go_sem, e0, e1, e2, e3]
    · refine ⟨k4, i4, n4, a4, len4, cap4, by rw [HX1.out.1], ?_, ((HU.out.and hU23).and hU4).trans hset (fun b hb e => by have := HH.out; omega)⟩
      have hXr : X = r.t := by
        by_cases h0 : r.e = 0
        · rw [HX1.out.2.1, if_pos h0]
        · rw [HX1.out.2.1, if_neg h0, HX1.out.2.2 h0]
      rw [hXr]
      exact Rep.weaken (fun b _ e => .inl e) _ _ (Rep.keep hset (fun b e => .inr e) _ _ hR4)
end Go.Proofs.YtdomloghcpfdjaaGreatDoor
