/- subst's substitution.of: the step. -/
import Derived.Test.YtdomloghcpfdjaaGreatDoorRCK
import Derived.Test.YtdomloghcpfdjaaGreatDoorREC
import Derived.Test.YtdomloghcpfdjaaGreatDoorRED
import Derived.Deep.CutRange
import Derived.Deep.DeepCutAuto
import Derived.Deep.RegionHeld2
import Derived.Deep.RegionHeld3
namespace Go.Proofs.YtdomloghcpfdjaaGreatDoor
open Go.RowKit Go.LF
/-- A box with three cells. -/
def Box3 (W : World) (g : Nat) (c0 c1 c2 : Value) (T : TypeId) : Prop := W.heap[g]? = some (.cells #[c0, c1, c2] T (0, 0))
section
variable {W W' : World} {g b : Nat} {c0 c1 c2 : Value} {T : TypeId} {S : Nat → Prop}
theorem Box3.at_new (hb : W.heap.size = b) : Box3 (W.alloc (.cells #[c0, c1, c2] T)) b c0 c1 c2 T := by subst hb; exact heap_alloc_new W _
theorem Box3.lt (h : Box3 W g c0 c1 c2 T) : g < W.heap.size := (Array.getElem?_eq_some_iff.1 h).1
theorem Box3.cells (h : Box3 W g c0 c1 c2 T) : W.cell? ⟨g, 0, none⟩ = some c0 ∧ W.cell? ⟨g, 1, none⟩ = some c1 ∧ W.cell? ⟨g, 2, none⟩ = some c2 := by unfold Box3 at h; refine ⟨?_, ?_, ?_⟩ <;> simp [World.cell?, h]
theorem Box3.keep (h : Box3 W g c0 c1 c2 T) (hU : Upto S W W') (hS : ¬ S g) : Box3 W' g c0 c1 c2 T := (hU.block g h.lt hS).trans h
theorem Box3.kept (h : Box3 W g c0 c1 c2 T) (hU : Upto none' W W') : Box3 W' g c0 c1 c2 T := h.keep hU (fun x => x)
end
theorem _root_.Go.LF.Tm.sb_node (n : Nat) (ms : List Tm) (ss : List Sm) (d k : Int) (nm : List UInt8) (i : Int) (ts : List Tm) (w : Nat) : Tm.sb (n + 1) ms ss d (.mk k nm i ts) w =
    if 262144 < w + 1 then ⟨2, Tm.none0, w + 1⟩ else
    if (Tm.sbA (fun d' t' w' => Tm.sb n ms ss d' t' w') d k 0 ts (w + 1)).e = 0 then
      Tm.sbN (fun u s b w' => Tm.sb n [u] [s] 0 b w') ms ss d k nm i (Tm.sbA (fun d' t' w' => Tm.sb n ms ss d' t' w') d k 0 ts (w + 1)).ts (Tm.sbA (fun d' t' w' => Tm.sb n ms ss d' t' w') d k 0 ts (w + 1)).w
    else ⟨(Tm.sbA (fun d' t' w' => Tm.sb n ms ss d' t' w') d k 0 ts (w + 1)).e, Tm.none0, (Tm.sbA (fun d' t' w' => Tm.sb n ms ss d' t' w') d k 0 ts (w + 1)).w⟩ := by
  rw [Tm.sb]; rfl
theorem info_made : (Tryz.prog.info? 92).map (fun i => (i.zero, i.size, i.bytes)) = some (some (.agg #[.int .i64 0, .string (B []), .int .i64 0, .slice none 0 0, .int .i64 0, .int .i64 0]), 6, 72) := by kernel_rfl
/-- What the last region of a step reads. -/
abbrev Of8 (H Y mb mo sb so : Nat) (s0 s1 s2 y0 y1 y2 y3 m4 m5 p0 p1 : Value) (w' : World) : Prop :=
  (w'.cell? ⟨H, 0, none⟩ = some s0 ∧ w'.cell? ⟨H, 1, none⟩ = some s1 ∧ w'.cell? ⟨H, 2, none⟩ = some s2) ∧
  (w'.cell? ⟨Y, 0, none⟩ = some y0 ∧ w'.cell? ⟨Y, 1, none⟩ = some y1 ∧ w'.cell? ⟨Y, 2, none⟩ = some y2 ∧ w'.cell? ⟨Y, 3, none⟩ = some y3) ∧
  (w'.cell? ⟨mb, mo + 4, none⟩ = some m4 ∧ w'.cell? ⟨mb, mo + 5, none⟩ = some m5) ∧ (w'.cell? ⟨sb, so, none⟩ = some p0 ∧ w'.cell? ⟨sb, so + 1, none⟩ = some p1)
theorem Of8.keep {H Y mb mo sb so : Nat} {s0 s1 s2 y0 y1 y2 y3 m4 m5 p0 p1 : Value} {w w' : World} {S : Nat → Prop} (h : Of8 H Y mb mo sb so s0 s1 s2 y0 y1 y2 y3 m4 m5 p0 p1 w) (hU : Upto S w w') (h1 : ¬ S H) (h2 : ¬ S Y) (h3 : ¬ S mb) (h4 : ¬ S sb) : Of8 H Y mb mo sb so s0 s1 s2 y0 y1 y2 y3 m4 m5 p0 p1 w' :=
  ⟨⟨hU.cell h.1.1 h1, hU.cell h.1.2.1 h1, hU.cell h.1.2.2 h1⟩, ⟨hU.cell h.2.1.1 h2, hU.cell h.2.1.2.1 h2, hU.cell h.2.1.2.2.1 h2, hU.cell h.2.1.2.2.2 h2⟩, ⟨hU.cell h.2.2.1.1 h3, hU.cell h.2.2.1.2 h3⟩, ⟨hU.cell h.2.2.2.1 h4, hU.cell h.2.2.2.2 h4⟩⟩
theorem Of8.set6 {H Y mb mo sb so r : Nat} {s0 s1 s2 y0 y1 y2 y3 m4 m5 p0 p1 : Value} {w : World} (h : Of8 H Y mb mo sb so s0 s1 s2 y0 y1 y2 y3 m4 m5 p0 p1 w) (h1 : ¬ H = r) (h2 : ¬ Y = r) (h3 : ¬ mb = r) (h4 : ¬ sb = r) (d0 d1 d2 d3 d4 d5 : Value) :
    Of8 H Y mb mo sb so s0 s1 s2 y0 y1 y2 y3 m4 m5 p0 p1 ((((((w.setCell ⟨r, 0, none⟩ d0).setCell ⟨r, 1, none⟩ d1).setCell ⟨r, 2, none⟩ d2).setCell ⟨r, 3, none⟩ d3).setCell ⟨r, 4, none⟩ d4).setCell ⟨r, 5, none⟩ d5) :=
  h.keep (S := fun b => b = r) (Upto.set (Upto.set (Upto.set (Upto.set (Upto.set (Upto.set (Upto.refl _ _) 0 _) 1 _) 2 _) 3 _) 4 _) 5 _) h1 h2 h3 h4
theorem checked_ok (k i sz dp : Int) (n : List UInt8) (a : Option Addr) (len cap : Nat) (w : World) (h : ¬ (4096 < sz ∨ 128 < dp)) :
    Calls Tryz.prog 208 #[.agg #[.int .i64 k, .string (B n), .int .i64 i, .slice a len cap, .int .i64 sz, .int .i64 dp]] w fun e w' =>
      e = .returned (.agg #[.int .i64 k, .string (B n), .int .i64 i, .slice a len cap, .int .i64 sz, .int .i64 dp]) ∧ Upto none' w w' :=
  (checked_any k i sz dp n a len cap w).mono fun e w' hh => ⟨by rw [hh.1, if_neg h], hh.2⟩
/-- The end of a step: its result stands in its box. -/
theorem of_fin {O : Nat → Prop} {r R : Tm.Res} {W w W' : World} {wk r0 : Nat} {k i : Int} {n : List UInt8} {a : Option Addr} {len cap : Nat} (hRr : R = r) (he : r.e = 0) (hRt : Rep (fun b => O b ∨ b = r0) W r.t.dat [.int .i64 k, .string (B n), .int .i64 i, .slice a len cap])
    (hWk : Work wk r.w W) (hU : Upto (fun b => b = wk) w W) (hset : Upto (fun b => b = r0) W W') (h1 : w.heap.size ≤ r0) (h2 : wk < w.heap.size) :
    OfR O R (.returned (.agg #[.int .i64 k, .string (B n), .int .i64 i, .slice a len cap, .int .i64 r.t.size, .int .i64 r.t.depth])) W' ∧ Work wk R.w W' ∧ Upto (fun b => b = wk) w W' := by
  subst hRr
  exact ⟨.inl ⟨he, k, n, i, a, len, cap, rfl, Rep.weaken (fun b _ e => .inl e) _ _ (Rep.keep hset (fun b e => .inr e) _ _ hRt)⟩, hWk.keep hset (by omega), hU.trans hset (fun b hb e => by omega)⟩
set_option maxRecDepth 100000 in
set_option maxHeartbeats 16000000 in
theorem of_step (n : Nat) (IH : OfAt n) : OfAt (n + 1) := by
  intro ms ss d t w0 wk O w ma mc sa sc cs hn hw0 hml hml2 hms hss hd0 hdd hin hOk hO hW hM hS hR
  obtain ⟨k, nm, i, ts, ta, tc, rfl, rfl, htc, hT⟩ := tm_open hR
  obtain ⟨i0, hi, hi0, hi1, hi2⟩ := info_parts info_made
  obtain ⟨w1, hw1⟩ : ∃ w1, w1 = ((w.alloc (.cells #[.pointer (some ⟨wk, 0, none⟩), .slice ma ms.length mc, .slice sa ss.length sc] 160)).alloc (.cells #[.int .i64 k, .string (B nm), .int .i64 i, .slice ta ts.length tc] 29)).alloc (.cells #[.int .i64 0, .string (B []), .int .i64 0, .slice none 0 0, .int .i64 0, .int .i64 0] 92) := ⟨_, rfl⟩
  have hU1 : Upto none' w w1 := by rw [hw1]; exact (((Upto.refl none' w).alloc _).alloc _).alloc _
  have hs1 : Box3 w1 w.heap.size (.pointer (some ⟨wk, 0, none⟩)) (.slice ma ms.length mc) (.slice sa ss.length sc) 160 := by rw [hw1]; exact ((Box3.at_new rfl).kept ((Upto.refl none' _).alloc _)).kept ((Upto.refl none' _).alloc _)
  have ht1 : Box4 w1 (w.heap.size + 1) (.int .i64 k) (.string (B nm)) (.int .i64 i) (.slice ta ts.length tc) 29 := by rw [hw1]; exact (Box4.at_new (by simp)).kept ((Upto.refl none' _).alloc _)
  have hr1 : Box6 w1 (w.heap.size + 1 + 1) (.int .i64 0) (.string (B [])) (.int .i64 0) (.slice none 0 0) (.int .i64 0) (.int .i64 0) 92 := by rw [hw1]; exact Box6.at_new (by simp)
  have hz1' : w1.heap.size ≤ w.heap.size + 3 := by rw [hw1]; simp
  have hW1 := hW.kept hU1
  have hT1 := (RepE.fresh' _ _ _ _ hT).on hU1
  have hM1 := (RepE.fresh' _ _ _ _ hM).on hU1
  have hS1 := (RepE.fresh' _ _ _ _ hS).on hU1
  have HW := hid hw1
  obtain ⟨H, hH⟩ : ∃ H, H = w.heap.size := ⟨_, rfl⟩
  have HH := hid hH
  rw [← hH] at hs1 ht1 hr1 hT1 hM1 hS1 hz1'
  have hO' : ∀ b, O b → b < H := by rw [hH]; exact hO
  have hkH : wk < H := hO' wk hOk
  have HO : Hid (∀ b, (O b ∨ b = H ∨ b = H + 1 ∨ b = H + 1 + 1) → b < H + 3) := hid (fun b h => by rcases h with h | h | h | h; (have := hO' b h; omega); all_goals omega)
  have HOO := hid hO'
  have hz1 : H + 3 ≤ w1.heap.size := by have := hr1.lt; omega
  have hin' := hin
  have htl : ts.length ≤ 4096 := by have h1 := hin.size; have h2 := Tm.length_le_sizes ts; simp only [Tm.size_mk] at h1; omega
  have hdk : d ≤ 1048576 := by omega
  obtain ⟨R, hRR⟩ : ∃ R, R = Tm.sb (n + 1) ms ss d (.mk k nm i ts) w0 := ⟨_, rfl⟩
  rw [← hRR]
  rw [Tm.sb_node] at hRR
  obtain ⟨tl, htll⟩ : ∃ tl, tl = ts.length := ⟨_, rfl⟩
  obtain ⟨ml, hmll⟩ : ∃ ml, ml = ms.length := ⟨_, rfl⟩
  obtain ⟨sl, hsll⟩ : ∃ sl, sl = ss.length := ⟨_, rfl⟩
  rw [← htll, ← hmll, ← hsll]
  rw [← htll] at ht1 htl
  rw [← hmll, ← hsll] at hs1 hml
  rw [← hmll] at hml2
  rw [← htll, ← hmll, ← hsll] at HW
  subst hml
  have HL := hid (And.intro htll (And.intro hmll hsll))
  have HP := hid (And.intro hn (And.intro hms (And.intro hss (And.intro hin hdd))))
  have hml3 : (ml : Int) ≤ 10000 := by omega
  have hml4 : (0 : Int) ≤ (ml : Int) := by omega
  have htl3 : (tl : Int) ≤ 4096 := by omega
  have htl4 : (0 : Int) ≤ (tl : Int) := by omega
  have hw4 : (w0 : Int) ≤ 262144 := by omega
  have hw5 : (0 : Int) ≤ (w0 : Int) := by omega
  have hU0 := hU1
  have hcw := hW1.cell
  have hfw := hW1.frozen
  have hWs := hW1.set (w0 + 1)
  have hsetw : Upto (fun b => b = wk) w1 (w1.setCell ⟨wk, 0, none⟩ (.int .i64 ((w0 + 1 : Nat) : Int))) := Upto.set (Upto.refl _ _) 0 _
  rw [show ((w0 + 1 : Nat) : Int) = (w0 : Int) + 1 by omega] at hWs hsetw
  have HWS := hid (And.intro hWs hsetw)
  clear hw1 hW hR hT hM hS hH hO hO' hn hms hss hin hdd htll hmll hsll hU1 hWs hsetw
  obtain ⟨s0, s1, s2⟩ := hs1.cells
  have hrr := hr1.lt
  go_enter Tryz.func152, Tryz.ntmps152
  go_upto_region 1 with fail
  rw [← show B [] = { data := #[] } from rfl, ← HW.out, ← HH.out]
  by_cases hbig : (262144 : Int) < (w0 : Int) + 1
  · have hRb : R = ⟨2, Tm.none0, w0 + 1⟩ := by rw [hRR, if_pos (by omega)]
    have HRb := hid hRb
    clear hRR hRb
    go_wp2_with fail
    exact ⟨rfl, .inr ⟨by rw [HRb.out]; simp, by rw [HRb.out]; rfl⟩, by rw [HRb.out]; exact HWS.out.1, (hU0.mono (fun _ _ x => x.elim)).trans HWS.out.2 (fun _ _ e => e)⟩
  rw [if_neg (by omega)] at hRR
  have HRR := hid hRR
  clear hRR
  obtain ⟨w2, hw2⟩ : ∃ w2, w2 = w1.setCell ⟨wk, 0, none⟩ (.int .i64 ((w0 : Int) + 1)) := ⟨_, rfl⟩
  obtain ⟨hW2, hU2⟩ := HWS.out
  rw [← hw2] at hW2 hU2
  have ht2 := ht1.keep hU2 (by omega)
  obtain ⟨t0, t1, t2, t3⟩ := ht2.cells
  go_upto_region 4 with fail
  rw [← hw2]
  clear hw2 hW1 hcw hfw
  have hd1 : (d : Int) ≤ 1048576 := hdk
  go_wp2_with fail
  go_loopw [7, 29] (fun v7 v29 wr => ∃ (j : Nat) (us : List Tm) (wj : Nat) (css : List (List Value)), v29 = .int .i64 (j : Int) ∧ j ≤ tl ∧
      (Tm.sbA (fun d' t' w' => Tm.sb n ms ss d' t' w') d k 0 (ts.take j) (w0 + 1) = ⟨0, us, wj⟩ ∧ wj ≤ 262144 ∧ us.length = j) ∧ RowD 92 6 (fun b => O b ∨ b = H ∨ b = H + 1 ∨ b = H + 1 + 1) (H + 3) wr v7 (us.map mdat) css ∧ Work wk wj wr ∧ Upto (fun b => b = wk) w1 wr)
    (fun _ v29 _ => tl - (intOf v29).toNat)
  case atStart => exact ⟨0, [], w0 + 1, [], rfl, Nat.zero_le _, ⟨rfl, by omega, rfl⟩, RowD.nil _ _ _ _ _, hW2, hU2⟩
  case round =>
    clear hW2 hU2 ht2 t0 t1 t2 t3
    obtain ⟨j, us, wj, css, rfl, hj, ⟨hA, hwj, hul⟩, hD, hWr, hU⟩ := hrel
    have ht2 := ht1.keep hU (by omega)
    have hs2 := hs1.keep hU (by omega)
    obtain ⟨t0, t1, t2, t3⟩ := ht2.cells
    obtain ⟨s0, s1, s2⟩ := hs2.cells
    have q1 := ht2.lt
    have q2 := hs2.lt
    have u2 : (j : Int) ≤ 4096 := by omega
    have u3 : (0 : Int) ≤ (j : Int) := by omega
    have HA := hid (And.intro hA (And.intro hwj hul))
    clear hA hwj hul
    by_cases hlt : j < tl
    · have hjt : j < ts.length := by rw [← HL.out.1]; exact hlt
      have u4 : (j : Int) < (tl : Int) := by omega
      obtain ⟨eb, eo, ek, en, ei, es, ec, rfl, hebl, hebO, p0, p1, p2, p3, hRp⟩ := arg_tm (RepE.keep hU (fun b e => .inl (by rw [e]; exact hOk)) _ _ _ _ hT1) j hjt
      have hin := (HP.out.2.2.2.1).arg j hjt
      have hsbl := Tm.sbA_length (fun d' t' w' => Tm.sb n ms ss d' t' w') d k ts
      have hstep := Tm.sbA_take_succ (fun d' t' w' => Tm.sb n ms ss d' t' w') d k ts (w0 + 1) j hjt (by rw [HA.out.1])
      rw [HA.out.1] at hstep
      have hwle := Tm.sbA_le (fun d' t' w' => Tm.sb n ms ss d' t' w') (fun d t w => Nat.le_of_lt (Tm.sb_lt n ms ss d t w)) d k (ts.take j) 0 (w0 + 1)
      rw [HA.out.1] at hwle
      have hun : 0 ≤ Tm.under k j ∧ Tm.under k j ≤ 1 := by unfold Tm.under; split <;> omega
      have IHc := fun (W : World) (hu : Upto none' wr W) => IH ms ss (d + Tm.under k j) ts[j] wj wk (fun b => (O b ∨ b = H ∨ b = H + 1 ∨ b = H + 1 + 1) ∨ u7.ownBlock = some b) W ma mc sa sc _ (by have := HP.out.1; have := hwle; simp only at this; omega) HA.out.2.1 (HL.out.2.1.symm.trans HL.out.2.2) (by rw [← HL.out.2.1]; exact hml2) HP.out.2.1 HP.out.2.2.1 (by omega) (by have := HP.out.2.2.2.2; have := hin.2; omega) hin.1 (.inl (.inl hOk))
        (fun b e => by have z1 := hu.size; have z2 := hU.size; rcases e with e | e; (have := HO.out b e; omega); (have := (hD.2.2.1.lt b e).2; omega)) (hWr.kept hu) ((RepE.weaken (fun b _ e => e.elim (fun e => e.elim .inl (fun e => .inr (by omega))) (fun e => .inr (by have := (hD.2.2.1.lt b e).1; omega))) _ _ _ _ (RepE.keep hU (fun b e => .inl (by rw [e]; exact hOk)) _ _ _ _ hM1)).on hu) ((RepE.weaken (fun b _ e => e.elim (fun e => e.elim .inl (fun e => .inr (by omega))) (fun e => .inr (by have := (hD.2.2.1.lt b e).1; omega))) _ _ _ _ (RepE.keep hU (fun b e => .inl (by rw [e]; exact hOk)) _ _ _ _ hS1)).on hu)
        ((Rep.weaken (fun b _ e => e.elim (fun e => e.elim .inl (fun e => .inr (by omega))) (fun e => .inr (by have := (hD.2.2.1.lt b e).1; omega))) _ _ hRp).on hu)
      rw [← HL.out.2.1, ← HL.out.2.2] at IHc
      have hwork := Tm.sb_work n ms ss (d + Tm.under k j) ts[j] wj HA.out.2.1
      simp only at hstep
      generalize ts[j].args.length = el at *
      generalize Tm.sb n ms ss (d + Tm.under k j) ts[j] wj = rs at *
      have HST := hid (And.intro hstep hwork)
      obtain ⟨un, hunn⟩ : ∃ un, un = Tm.under k j := ⟨_, rfl⟩
      rw [← hunn] at IHc hun
      have HUN := hid hunn
      obtain ⟨hun0, hun1⟩ := hun
      clear hstep hwork hwle hsbl hin hRp hunn
      go_upto_region 8 with fail
      obtain ⟨w4, hw4⟩ : ∃ w4, w4 = wr.alloc (.cells #[.int .i64 ek, .string (B en), .int .i64 ei, .slice es el ec] 29) := ⟨_, rfl⟩
      have hU4 : Upto none' wr w4 := by rw [hw4]; exact (Upto.refl none' _).alloc _
      have hx4 : Box4 w4 wr.heap.size (.int .i64 ek) (.string (B en)) (.int .i64 ei) (.slice es el ec) 29 := by rw [hw4]; exact Box4.at_new rfl
      have ht4 := ht2.kept hU4
      have hs4 := hs2.kept hU4
      have hW4 := hWr.kept hU4
      have hD4 := hD.on hU4 HO.out
      obtain ⟨X, hX⟩ : ∃ X, X = wr.heap.size := ⟨_, rfl⟩
      rw [← hw4, ← hX]
      rw [← hX] at hx4
      have HX := hid hX
      have IHd := IHc w4 hU4
      clear hw4 p0 p1 p2 p3 t0 t1 t2 t3 s0 s1 s2 IHc hX
      obtain ⟨t0, t1, t2, t3⟩ := ht4.cells
      obtain ⟨s0, s1, s2⟩ := hs4.cells
      obtain ⟨x0, x1, x2, x3⟩ := hx4.cells
      go_upto_region 9 with fail
      go_cut [46] from 35 to 46 (fun v46 wx => v46 = .bool (un == 1) ∧ w4 = wx)
      case first =>
        rcases under_ways k j with ⟨a1, a4⟩ | ⟨a1, a2, a3, a4⟩ | ⟨a1, a2, a3, a4⟩ | ⟨a1, a2, a4⟩
        all_goals
          have HU9 := hid (HUN.out.trans a4)
          clear a4
          go_wp2_with fail
          go_meet
        all_goals exact ⟨by rw [HU9.out]; rfl, rfl⟩
      case rest =>
        obtain ⟨rfl, rfl⟩ := hcut
        obtain ⟨c, hc⟩ : ∃ c, c = (un == 1) := ⟨_, rfl⟩
        have hun2 : un = if c then 1 else 0 := by
          have : un = 0 ∨ un = 1 := by omega
          rcases this with h | h <;> rw [hc, h] <;> rfl
        rw [← hc]
        have HC := hid hun2
        clear hc hun2
        go_upto_if 46 with fail
        go_cut [10] (fun v10 wx => v10 = .int .i64 (d + un) ∧ w4 = wx)
        case first =>
          clear IHd
          cases c
          · go_wp2_with fail
            go_meet
            case rel => exact ⟨by rw [HC.out]; simp, rfl⟩
          · go_wp2_with fail
            go_meet
            case rel => exact ⟨by rw [HC.out]; rfl, rfl⟩
        case rest =>
          obtain ⟨rfl, rfl⟩ := hcut
          clear HC c
          by_cases he : rs.e = 0
          · have HE := hid he
            clear he
            go_wp2_with fail
            refine IHd.mono ?_
            rintro e w5 ⟨hOf, hW5, hU5⟩
            obtain ⟨k5, n5, i5, a5, len5, cap5, rfl, hR5⟩ := hOf.ok HE.out
            have hD5 := hD4.keep hU5 (fun b e => .inl (by rw [e]; exact hOk)) HO.out
            have hal : Upto none' w5 (w5.alloc (.cells #[.int .i64 k5, .string (B n5), .int .i64 i5, .slice a5 len5 cap5, .int .i64 rs.t.size, .int .i64 rs.t.depth] 92)) := (Upto.refl none' _).alloc _
            have hDb := hD5.on hal HO.out
            have hln : (us.map mdat).length = j := by rw [List.length_map]; exact HA.out.2.2
            have hown := hDb.2.2.1
            rw [hln] at hown
            have HLN := hid hln
            have hz5 : H + 3 ≤ w5.heap.size := by have := hU.size; have := hU4.size; have := hU5.size; omega
            clear hln x0 x1 x2 x3 t0 t1 t2 t3 s0 s1 s2 IHd
            go_wp2_with (at_builtin; go_loud (refine wpList_append_lies _ (by rfl) _ _ 93 (by rfl) (H + 3) 92 i0 (.agg #[.int .i64 0, .string (B []), .int .i64 0, .slice none 0 0, .int .i64 0, .int .i64 0]) 6 72 (by kernel_rfl) hi hi0 hi1 hi2 rfl (by omega) u7 j css.flatten (by rfl) hown ⟨w5.heap.size, 0, none⟩ 1 1 [.int .i64 k5, .string (B n5), .int .i64 i5, .slice a5 len5 cap5, .int .i64 rs.t.size, .int .i64 rs.t.depth] rfl rfl (World.news_of_block (heap_alloc_new w5 _)) (by simp [Value.oneCell']) (by omega) (by simp only [maxLen]; omega) (by omega) (by simp; omega) (w5.heap.size + 1) (by simp) ?_); intro g cap' w7 hown7 hgrow hat hlt7)
            have hRu : Rep (fun b => (O b ∨ b = H ∨ b = H + 1 ∨ b = H + 1 + 1) ∨ u7.ownBlock = some b) (w5.alloc (.cells #[.int .i64 k5, .string (B n5), .int .i64 i5, .slice a5 len5 cap5, .int .i64 rs.t.size, .int .i64 rs.t.depth] 92)) (mdat rs.t) [.int .i64 k5, .string (B n5), .int .i64 i5, .slice a5 len5 cap5, .int .i64 rs.t.size, .int .i64 rs.t.depth] := rep_mdat.2 ⟨hR5.on hal, rfl, rfl⟩
            have hown8 : w7.ownsRow (H + 3) 92 6 (.slice (some ⟨g, 0, none⟩) ((us.map mdat).length + 1) cap') ((us.map mdat).length + 1) (css.flatten ++ [.int .i64 k5, .string (B n5), .int .i64 i5, .slice a5 len5 cap5, .int .i64 rs.t.size, .int .i64 rs.t.depth]) := by rw [HLN.out]; exact hown7
            have hT7 := hDb.appended (d := mdat rs.t) rfl hRu hown8 hgrow hat (by simp)
            rw [HLN.out] at hT7
            have hrow := hDb.upto hgrow
            have hst := HST.out.1
            rw [if_pos HE.out] at hst
            have hAn : Tm.sbA (fun d' t' w' => Tm.sb n ms ss d' t' w') d k 0 (ts.take (j + 1)) (w0 + 1) = ⟨0, us ++ [rs.t], rs.w⟩ ∧ rs.w ≤ 262144 ∧ (us ++ [rs.t]).length = j + 1 := ⟨hst, HST.out.2 HE.out, by rw [List.length_append, HA.out.2.2]; rfl⟩
            have hmap : us.map mdat ++ [mdat rs.t] = (us ++ [rs.t]).map mdat := by simp
            rw [hmap] at hT7
            have hUn : Upto (fun b => b = wk) w1 w7 := (((hU.trans hU4 (fun _ _ e => e.elim)).trans hU5 (fun _ _ e => e)).trans hal (fun _ _ e => e.elim)).trans hrow (fun b hb e => by omega)
            have hWn : Work wk rs.w w7 := (hW5.kept hal).keep hrow (by omega)
            have HN := hid (And.intro hAn (And.intro hT7 (And.intro hWn hUn)))
            clear hst hAn hT7 hrow hmap hUn hWn hRu hown8
            go_wp2_with fail
            go_roundw
            case rel => exact ⟨j + 1, us ++ [rs.t], rs.w, _, by go_num, by omega, HN.out.1, HN.out.2.1, HN.out.2.2.1, HN.out.2.2.2⟩
            case measure => simp [intOf]; omega
          · have hRb : R = ⟨rs.e, Tm.none0, rs.w⟩ := by
              have h1 := HST.out.1
              rw [if_neg he] at h1
              have h2 := Tm.sbA_stop (fun d' t' w' => Tm.sb n ms ss d' t' w') d k ts (w0 + 1) (j + 1) (by rw [h1]; exact he)
              rw [HRR.out, h2, h1, if_neg he]
            have HRb := hid (And.intro hRb he)
            clear he hRb
            go_wp2_with fail
            refine IHd.mono ?_
            rintro e w5 ⟨hOf, hW5, hU5⟩
            obtain rfl := hOf.bad HRb.out.2
            unfold perr
            go_wp2_with fail
            exact ⟨rfl, .inr ⟨by rw [HRb.out.1]; exact HRb.out.2, by rw [HRb.out.1]; rfl⟩, by rw [HRb.out.1]; exact hW5, (((hU0.mono (fun _ _ x => x.elim)).trans hU (fun _ _ e => e)).trans hU4 (fun _ _ e => e.elim)).trans hU5 (fun _ _ e => e)⟩
    · have hjl : j = tl := by omega
      subst hjl
      have htk : ts.take j = ts := List.take_of_length_le (by rw [← HL.out.1]; exact Nat.le_refl _)
      have hA := HA.out.1
      rw [htk] at hA
      have hRn := HRR.out
      rw [hA] at hRn
      simp only [if_true] at hRn
      obtain ⟨va, vc, hv7, hvc, hF⟩ := hD.rep HO.out
      rw [List.length_map, HA.out.2.2] at hvc hv7
      subst hv7
      have husm := Tm.sbA_small (fun d' t' w' => Tm.sb n ms ss d' t' w') (fun d t w => Tm.sb_small n ms ss d t w) d k ts 0 (w0 + 1)
      rw [hA] at husm
      have huo := fun (h5 : k = 5) => Tm.sbA_good (fun d' t' w' => Tm.sb n ms ss d' t' w') d k hd0 d ts (fun d' t w a b c => Tm.sb_good n ms ss d' t w HP.out.2.1 a (by
        have h1 := Tm.depth_le_depths c
        have h2 := HP.out.2.2.2.2
        simp only [Tm.depth_mk] at h2
        omega) (Tm.allObj_mem (((Tm.vok_mk _ _ _ _).1 HP.out.2.2.2.1.vars).1 h5) t c)) (Int.le_refl _) 0 (w0 + 1)
      rw [hA] at huo
      have huz : Tm.sizes us ≤ 1000000000000 := by
        have h1 := Tm.sizes_le_of 4096 us (fun u hu => Tm.small_size (husm u hu))
        rw [HA.out.2.2] at h1
        have : 4096 * j ≤ 4096 * 4096 := Nat.mul_le_mul_left _ htl
        omega
      have hul9 : us.length ≤ 100000 := by rw [HA.out.2.2]; omega
      have hidx := ((Tm.ok_head HP.out.2.2.2.1.ok))
      have hr9 := hr1.keep hU (by omega)
      have hUw : Upto (fun b => b = wk) w wr := (hU0.mono (fun _ _ x => x.elim)).trans hU (fun _ _ e => e)
      have ND := fun (i' : Int) (W : World) (hu : Upto none' wr W) (ha : Option Addr) (hb hc : Nat) => node_any us hul9 huz k i' nm ha hb hc (fun b => O b ∨ b = H ∨ b = H + 1 ∨ b = H + 1 + 1) W (fun b e => by have := HO.out b e; have := hU.size; have := hu.size; omega) va vc wj (hF.on hu)
      rw [HA.out.2.2] at ND
      have HX := hid (And.intro hRn (And.intro husm (And.intro huo hA)))
      clear hRn husm huo hA htk hul9 huz hD hvc
      have hHw : w.heap.size ≤ H + 1 + 1 := by rw [← HH.out]; omega
      have hkw : wk < w.heap.size := by rw [← HH.out]; exact hkH
      by_cases hvar : k = 5 ∧ d ≤ i
      case neg =>
        have hRc : R = Tm.chk (.mk k nm i us) wj := by rw [HX.out.1]; unfold Tm.sbN; rw [if_neg hvar]
        have N := ND i wr (Upto.refl _ _) ta j tc
        obtain ⟨rc, hrc⟩ : ∃ rc, rc = Tm.chk (.mk k nm i us) wj := ⟨_, rfl⟩
        rw [← hrc] at N hRc
        have hrw : rc.w = wj := by rw [hrc]; exact Tm.chk_w _ _
        have HRC := hid (And.intro hRc hrw)
        have hways : ((k != 5) = true) ∨ (k = 5 ∧ i < d) := by
          by_cases h5 : k = 5
          · right; exact ⟨h5, by have := fun h => hvar ⟨h5, h⟩; omega⟩
          · left; simpa using h5
        clear hRc hrc hrw hvar ND
        by_cases he : rc.e = 0
        · have HE := hid he
          clear he
          rcases hways with hk5 | ⟨rfl, hlt5⟩
          case' inr =>
            have hb5 := hidx rfl
            have hwr5 : IntKind.i64.wrap (i - d) = i - d := Go.IntWalk.i64_in _ (by omega)
            have hlt6 : i - d < 0 := by omega
          all_goals
            go_wp2_with fail
            (with_reducible refine N.mono ?_)
            rintro e w5 ⟨hOf, hU5⟩
            obtain ⟨k5, n5, i5, a5, len5, cap5, rfl, hR5⟩ := hOf.ok HE.out
            have hr5 := hr9.kept hU5
            obtain ⟨y0, y1, y2, y3, y4, y5⟩ := hr5.cells
            obtain ⟨z0, z1, z2, z3, z4, z5⟩ := hr5.frozens
            have hset := hr5.set (d0 := .int .i64 k5) (d1 := .string (B n5)) (d2 := .int .i64 i5) (d3 := .slice a5 len5 cap5) (d4 := .int .i64 rc.t.size) (d5 := .int .i64 rc.t.depth)
            obtain ⟨e0, e1, e2, e3, e4, e5⟩ := hset.1.cells
            have HEE := hid (And.intro e0 (And.intro e1 (And.intro e2 (And.intro e3 (And.intro e4 (And.intro e5 hset.2))))))
            clear e0 e1 e2 e3 e4 e5 hset
            go_wp2_with fail
            obtain ⟨e0, e1, e2, e3, e4, e5, hset⟩ := HEE.out
            refine bodyPost_ret (v := .agg #[.int .i64 k5, .string (B n5), .int .i64 i5, .slice a5 len5 cap5, .int .i64 rc.t.size, .int .i64 rc.t.depth]) ?_ rfl ?_
            · simp [results, Tryz.f152, go_sem, e0, e1, e2, e3, e4, e5]
            · exact of_fin HRC.out.1 HE.out (Rep.weaken (fun b _ e => e.elim .inl (fun e => .inr (.inr (.inr e)))) _ _ hR5) (by rw [HRC.out.2]; exact hWr.kept hU5) (hUw.trans hU5 (fun _ _ e => e.elim)) hset hHw hkw
        · have HE := hid he
          clear he
          rcases hways with hk5 | ⟨rfl, hlt5⟩
          case' inr =>
            have hb5 := hidx rfl
            have hwr5 : IntKind.i64.wrap (i - d) = i - d := Go.IntWalk.i64_in _ (by omega)
            have hlt6 : i - d < 0 := by omega
          all_goals
            go_wp2_with fail
            (with_reducible refine N.mono ?_)
            rintro e w5 ⟨hOf, hU5⟩
            obtain rfl := hOf.bad HE.out
            unfold perr
            go_wp2_with fail
            exact ⟨rfl, .inr ⟨by rw [HRC.out.1]; exact HE.out, by rw [HRC.out.1]; rfl⟩, by rw [HRC.out.1, HRC.out.2]; exact hWr.kept hU5, hUw.trans hU5 (fun _ _ e => e.elim)⟩
      obtain ⟨rfl, hdi⟩ := hvar
      obtain ⟨hb5, hb6⟩ := hidx rfl
      obtain ⟨m, hm⟩ : ∃ m : Nat, i - d = (m : Int) := ⟨(i - d).toNat, by omega⟩
      have hwr5 : IntKind.i64.wrap (i - d) = (m : Int) := by rw [← hm]; exact Go.IntWalk.i64_in _ (by omega)
      have hm0 : (0 : Int) ≤ (m : Int) := by omega
      have hm1 : ¬ (m : Int) < 0 := by omega
      have hm2 : (m : Int) ≤ 1048576 := by omega
      have hmt : (i - d).toNat = m := by omega
      have HM := hid (And.intro hm (And.intro hmt hdi))
      clear hm hmt hdi hidx
      by_cases hlm : (m : Int) < (ml : Int)
      case neg =>
        have hRc : R = Tm.chk (.mk 5 nm (i - (ml : Int)) us) wj := by
          rw [HX.out.1]; unfold Tm.sbN; rw [if_pos ⟨rfl, HM.out.2.2⟩, if_neg (by rw [HM.out.1, ← HL.out.2.1]; exact hlm), HL.out.2.1]
        have hlm' : (ml : Int) ≤ (m : Int) := by omega
        have hset2 : Upto (fun b => b = H + 1) wr (wr.setCell ⟨H + 1, 2, none⟩ (.int .i64 (i - (ml : Int)))) := Upto.set (Upto.refl _ _) 2 _
        have hF2 := RepE.keep hset2 (fun b e => .inr (.inr (.inl e))) _ _ _ _ hF
        have N := node_any us (by rw [HA.out.2.2]; omega) (by
          have h1 := Tm.sizes_le_of 4096 us (fun u hu => Tm.small_size (HX.out.2.1 u hu))
          rw [HA.out.2.2] at h1
          have : 4096 * j ≤ 4096 * 4096 := Nat.mul_le_mul_left _ htl
          omega) 5 (i - (ml : Int)) nm ta j tc (fun b => O b ∨ b = H ∨ b = H + 1 ∨ b = H + 1 + 1) (wr.setCell ⟨H + 1, 2, none⟩ (.int .i64 (i - (ml : Int)))) (fun b e => by have := HO.out b e; have := hU.size; have := hset2.size; omega) va vc wj hF2
        rw [HA.out.2.2] at N
        obtain ⟨rc, hrc⟩ : ∃ rc, rc = Tm.chk (.mk 5 nm (i - (ml : Int)) us) wj := ⟨_, rfl⟩
        rw [← hrc] at N hRc
        have hrw : rc.w = wj := by rw [hrc]; exact Tm.chk_w _ _
        have HRC := hid (And.intro hRc hrw)
        have hr8 := hr9.keep hset2 (by omega)
        have hW8 := hWr.keep hset2 (by omega)
        have hU8 := hUw.trans hset2 (S := fun b => b = wk) (fun b hb e => by have := HH.out; omega)
        have HWU := hid (And.intro hW8 hU8)
        have z2 := ht2.frozens.2.2.1
        have hwr6 : IntKind.i64.wrap (i - (ml : Int)) = i - (ml : Int) := Go.IntWalk.i64_in _ (by omega)
        clear hRc hrc hrw ND hF2 hset2 hW8 hU8
        by_cases he : rc.e = 0
        · have HE := hid he
          clear he
          go_wp2_with fail
          (with_reducible refine N.mono ?_)
          rintro e w5 ⟨hOf, hU5⟩
          obtain ⟨k5, n5, i5, a5, len5, cap5, rfl, hR5⟩ := hOf.ok HE.out
          have hr5 := hr8.kept hU5
          obtain ⟨y0, y1, y2, y3, y4, y5⟩ := hr5.cells
          obtain ⟨z0, z1, z2, z3, z4, z5⟩ := hr5.frozens
          have hset := hr5.set (d0 := .int .i64 k5) (d1 := .string (B n5)) (d2 := .int .i64 i5) (d3 := .slice a5 len5 cap5) (d4 := .int .i64 rc.t.size) (d5 := .int .i64 rc.t.depth)
          obtain ⟨e0, e1, e2, e3, e4, e5⟩ := hset.1.cells
          have HEE := hid (And.intro e0 (And.intro e1 (And.intro e2 (And.intro e3 (And.intro e4 (And.intro e5 hset.2))))))
          clear e0 e1 e2 e3 e4 e5 hset
          go_wp2_with fail
          obtain ⟨e0, e1, e2, e3, e4, e5, hset⟩ := HEE.out
          refine bodyPost_ret (v := .agg #[.int .i64 k5, .string (B n5), .int .i64 i5, .slice a5 len5 cap5, .int .i64 rc.t.size, .int .i64 rc.t.depth]) ?_ rfl ?_
          · simp [results, Tryz.f152, go_sem, e0, e1, e2, e3, e4, e5]
          · exact of_fin HRC.out.1 HE.out (Rep.weaken (fun b _ e => e.elim .inl (fun e => .inr (.inr (.inr e)))) _ _ hR5) (by rw [HRC.out.2]; exact HWU.out.1.kept hU5) (HWU.out.2.trans hU5 (fun _ _ e => e.elim)) hset hHw hkw
        · have HE := hid he
          clear he
          go_wp2_with fail
          (with_reducible refine N.mono ?_)
          rintro e w5 ⟨hOf, hU5⟩
          obtain rfl := hOf.bad HE.out
          unfold perr
          go_wp2_with fail
          exact ⟨rfl, .inr ⟨by rw [HRC.out.1]; exact HE.out, by rw [HRC.out.1]; rfl⟩, by rw [HRC.out.1, HRC.out.2]; exact HWU.out.1.kept hU5, HWU.out.2.trans hU5 (fun _ _ e => e.elim)⟩
      have hmm : m < ms.length := by rw [← HL.out.2.1]; omega
      have hms' : m < ss.length := by rw [← HL.out.2.2]; omega
      obtain ⟨mb, mo, mk', mn, mi, msl, mc', rfl, hmbl, hmbO, m0, m1, m2, m3, m4, m5, hRm⟩ := arg_made (RepE.keep hU (fun b e => .inl (by rw [e]; exact hOk)) _ _ _ _ hM1) m hmm
      obtain ⟨sb', so, sn, st, stc, rfl, hsbl, hsbO, p0, p1, hRs⟩ := arg_sm (RepE.keep hU (fun b e => .inl (by rw [e]; exact hOk)) _ _ _ _ hS1) m hms'
      obtain ⟨hmo, hmsm⟩ := HP.out.2.1 _ (List.getElem_mem hmm)
      have hmwf := Tm.small_wf hmo hmsm
      have hsref := Tm.shift_ref ms[m] hmwf d 0 hd0 hd1 (by omega) (by omega)
      have hse : ms[m].shiftE d 0 = if 1048576 < Tm.great (Tm.mv (Tm.shF d 0) 0 ms[m]) then 5 else 0 := by
        unfold Tm.shiftE
        rw [if_neg (by rw [hmwf]; simp), if_neg (by omega)]
        by_cases hg : 1048576 < Tm.great (Tm.mv (Tm.shF d 0) 0 ms[m])
        · rw [if_pos hg, if_neg (fun h => by have := hsref.2.2 h; omega)]
        · rw [if_neg hg, if_pos (hsref.2.1 (by omega))]
      have SH := fun (W : World) (cs9 : List Value) (h9 : Rep none' W ms[m].dat cs9) => shift_any ms[m] (by have := Tm.small_wt hmo hmsm; omega) d 0 W cs9 h9
      have hRv : R = if 1048576 < Tm.great (Tm.mv (Tm.shF d 0) 0 ms[m]) then ⟨5, Tm.none0, wj⟩ else Tm.ap (Tm.sb1 n) (Tm.mv (Tm.shF d 0) 0 ms[m]) ss[m].args us wj := by
        rw [HX.out.1]; unfold Tm.sbN
        rw [if_pos ⟨rfl, HM.out.2.2⟩, if_pos (by rw [HM.out.1, ← HL.out.2.1]; exact hlm), HM.out.2.1]
        simp only [List.getD_eq_getElem?_getD, List.getElem?_eq_getElem hmm, List.getElem?_eq_getElem hms', Option.getD_some]
      have hst : 1048576 < Tm.great (Tm.mv (Tm.shF d 0) 0 ms[m]) ∨ ms[m].shiftT d 0 = Tm.mv (Tm.shF d 0) 0 ms[m] := by
        by_cases hg : 1048576 < Tm.great (Tm.mv (Tm.shF d 0) 0 ms[m])
        · exact .inl hg
        · right; unfold Tm.shiftT; rw [hse, if_neg hg, if_pos rfl, hsref.1]
      by_cases hg : 1048576 < Tm.great (Tm.mv (Tm.shF d 0) 0 ms[m])
      · rw [if_pos hg] at hse hRv
        rw [hse] at SH
        have HRv := hid hRv
        have hnm : ¬ (ml : Int) ≤ (m : Int) := by omega
        have HLM := hid hlm
        clear hRv hse hst hg hsref ND hlm
        generalize ms[m].shiftT d 0 = X5 at *
        generalize ms[m].args.length = el at *
        generalize ms[m].size = ez at *
        generalize ms[m].depth = ed at *
        go_wp2_with fail
        (with_reducible refine (SH _ _ (rep_pre hRm)).mono ?_)
        rintro e w5 ⟨k5, i5, n5, a5, len5, cap5, rfl, hR5, hU5⟩
        go_wp2_with fail
        exact ⟨rfl, .inr ⟨by rw [HRv.out]; simp, by rw [HRv.out]; rfl⟩, by rw [HRv.out]; exact (hWr.kept hU5).kept ((Upto.refl none' _).alloc _), (hUw.trans hU5 (fun _ _ e => e.elim)).alloc _⟩
      · rw [if_neg hg] at hse hRv
        have hst2 : ms[m].shiftT d 0 = Tm.mv (Tm.shF d 0) 0 ms[m] := hst.resolve_left hg
        rw [hse, hst2] at SH
        have hmo' := Tm.mv_obj hmo hmsm d hd0 hd1 hg
        have hsm' : (Tm.mv (Tm.shF d 0) 0 ms[m]).small = true := by rw [Tm.small_mv]; exact hmsm
        obtain ⟨sts, hss1, hss2, hss3, hEs⟩ := sm_tie (Rep.weaken (O := fun b => O b ∨ H ≤ b) (O' := fun b => O b ∨ b = H ∨ b = H + 1 ∨ b = H + 1 + 1) (fun b _ e => e.elim .inl (fun e => .inr (by omega))) _ _ hRs)
        have hsz9 : ∀ s ∈ sts, s.size ≤ 4096 := fun s hs => by
          have h1 := HP.out.2.2.1 _ (List.getElem_mem hms')
          have h2 := Sm.size_le_sizes hs
          rw [hss1, Sm.size_mk] at h1
          omega
        have hsl9 : sts.length ≤ 10000 := by
          have h1 := HP.out.2.2.1 _ (List.getElem_mem hms')
          have h2 := Sm.length_le_sizes sts
          rw [hss1, Sm.size_mk] at h1
          omega
        have hsa : ss[m].args = sts := by rw [hss1]; rfl
        have hsal : ss[m].args.length = sts.length := by rw [hsa]
        rw [hsa] at hRv
        rw [hsal] at p1 hRs hss2 hss3
        have hwle := Tm.sbA_le (fun d' t' w' => Tm.sb n ms ss d' t' w') (fun d t w => Nat.le_of_lt (Tm.sb_lt n ms ss d t w)) d 5 ts 0 (w0 + 1)
        rw [HX.out.2.2.2] at hwle
        have hfl : 262145 ≤ n + wj := by have := HP.out.1; have := hwle; simp only at this; omega
        have AP := fun (W : World) (k5 i5 : Int) (n5 : List UInt8) (a5 : Option Addr) (len5 cap5 : Nat) (hu : Upto none' wr W) (hR : Rep (fun b => O b ∨ b = H ∨ b = H + 1 ∨ b = H + 1 + 1) W (Tm.mv (Tm.shF d 0) 0 ms[m]).dat [.int .i64 k5, .string (B n5), .int .i64 i5, .slice a5 len5 cap5]) =>
          apply_any n IH (Tm.mv (Tm.shF d 0) 0 ms[m]) sts us sn wj wk (fun b => O b ∨ b = H ∨ b = H + 1 ∨ b = H + 1 + 1) W k5 i5 n5 a5 len5 cap5 st stc va vc hfl HA.out.2.1 hmo' hsm' (by rw [HA.out.2.2]; omega) hsl9 hss3 (HX.out.2.2.1 rfl) hsz9 (.inl hOk)
            (fun b e => by have := HO.out b e; have := hU.size; have := hu.size; omega) (hWr.kept hu) hR (hEs.on hu) (hF.on hu)
        rw [HA.out.2.2] at AP
        simp only [Tm.size_mv, Tm.depth_mv] at AP
        rw [← hRv] at AP
        have hsmR : R.e = 0 → R.t.small = true := by
          intro h
          rw [hRv] at h ⊢
          unfold Tm.ap at h ⊢
          split
          · rename_i hl; rw [if_pos hl] at h; exact Tm.apF_small _ _ _ _ _ h
          · rename_i hl; rw [if_neg hl] at h; simp at h
        have hnm : ¬ (ml : Int) ≤ (m : Int) := by omega
        have HLM := hid hlm
        have hmbH : mb < H := by have := fun h => hmbO (.inr h); omega
        have hsbH : sb' < H := by have := fun h => hsbO (.inr h); omega
        have hmbk : ¬ mb = wk := fun e => hmbO (.inl (by rw [e]; exact hOk))
        have hsbk : ¬ sb' = wk := fun e => hsbO (.inl (by rw [e]; exact hOk))
        have hsz0 : H + 3 ≤ wr.heap.size := by have := hU.size; omega
        have HSR := hid hsmR
        have hslh := hid hsal
        clear hRv hse hst hst2 hg hsref ND hlm hss1 hss2 hss3 hsz9 hsl9 hsa hsal hwle hfl hmo' hsm' hmo hmsm hmwf hsmR hEs
        generalize Tm.mv (Tm.shF d 0) 0 ms[m] = X5 at *
        generalize ms[m].args.length = el at *
        generalize ms[m].size = ez at *
        generalize ms[m].depth = ed at *
        generalize sts.length = stl at *
        go_wp2_with fail
        (with_reducible refine (SH _ _ (rep_pre hRm)).mono ?_)
        rintro e w5 ⟨k5, i5, n5, a5, len5, cap5, rfl, hR5, hU5⟩
        obtain ⟨w6, hw6⟩ : ∃ w6, w6 = w5.alloc (.cells #[.int .i64 k5, .string (B n5), .int .i64 i5, .slice a5 len5 cap5] 29) := ⟨_, rfl⟩
        have hUa : Upto none' w5 w6 := by rw [hw6]; exact (Upto.refl none' _).alloc _
        have hy6 : Box4 w6 w5.heap.size (.int .i64 k5) (.string (B n5)) (.int .i64 i5) (.slice a5 len5 cap5) 29 := by rw [hw6]; exact Box4.at_new rfl
        have hU56 := hU5.and hUa
        have hR6 : Rep (fun b => O b ∨ b = H ∨ b = H + 1 ∨ b = H + 1 + 1) w6 X5.dat [.int .i64 k5, .string (B n5), .int .i64 i5, .slice a5 len5 cap5] := (Rep.weaken (fun b _ e => by have := HO.out b e; omega) _ _ hR5).on hUa
        have hs6 := hs2.kept hU56
        have hr6 := hr9.kept hU56
        have M4 := hU56.cell m4 (fun x => x)
        have M5 := hU56.cell m5 (fun x => x)
        have P0 := hU56.cell p0 (fun x => x)
        have P1 := hU56.cell p1 (fun x => x)
        have hz56 := hU5.size
        obtain ⟨Y, hY⟩ : ∃ Y, Y = w5.heap.size := ⟨_, rfl⟩
        rw [← hY] at hy6 hz56
        have HY := hid hY
        have HW6 := hid hw6
        clear hw6 hY hR5 hUa m0 m1 m2 m3 m4 m5 p0 p1 t0 t1 t2 t3 s0 s1 s2 SH
        go_upto_region 22 with fail
        rw [← HY.out, ← HW6.out]
        have S6 : Of8 H Y mb (mo + m * 6) sb' (so + m * 2) _ _ _ _ _ _ _ _ _ _ _ w6 := ⟨hs6.cells, hy6.cells, ⟨M4, M5⟩, ⟨P0, P1⟩⟩
        have hd6 : Upto none' w6 w6.drew := (Upto.refl none' w6).drew
        have Sd := S6.keep hd6 (fun x => x) (fun x => x) (fun x => x) (fun x => x)
        have APd := AP w6.drew k5 i5 n5 a5 len5 cap5 (hU56.and hd6) (hR6.on hd6)
        have hrd := hr6.kept hd6
        have hU6d := (hUw.trans (hU56.and hd6) (fun _ _ e => e.elim))
        have nk1 : ¬ H = wk := by omega
        have nk2 : ¬ Y = wk := by omega
        have nk5 : ¬ H + 1 + 1 = wk := by omega
        have nr1 : ¬ H = H + 1 + 1 := by omega
        have nr2 : ¬ Y = H + 1 + 1 := by omega
        have nr3 : ¬ mb = H + 1 + 1 := by omega
        have nr4 : ¬ sb' = H + 1 + 1 := by omega
        clear AP S6 hs6 hy6 M4 M5 P0 P1 hr6 hR6
        by_cases he : R.e = 0
        · have hsm9 : ¬ (4096 < (R.t.size : Int) ∨ 128 < (R.t.depth : Int)) := by
            have h1 := HSR.out he
            unfold Tm.small at h1
            simp only [Bool.and_eq_true, decide_eq_true_eq] at h1
            omega
          have HE := hid (And.intro he hsm9)
          clear he hsm9
          go_region_held3 (fun w' => Of8 H Y mb (mo + m * 6) sb' (so + m * 2) (.pointer (some ⟨wk, 0, none⟩)) (.slice (some ⟨mb, mo, none⟩) ml mc) (.slice (some ⟨sb', so, none⟩) ml sc) (.int .i64 k5) (.string (B n5)) (.int .i64 i5) (.slice a5 len5 cap5) (.int .i64 ez) (.int .i64 ed) (.string (B sn)) (.slice st stl stc) w')
            (first | (with_reducible assumption) | (with_reducible exact Sd) | (with_reducible exact Of8.set6 S8 nr1 nr2 nr3 nr4 _ _ _ _ _ _))
            (first
              | ((go_at_call 70); (with_reducible refine APd.mono ?_); rintro e w7 ⟨hOf, hW7, hU7⟩; obtain ⟨k7, n7, i7, a7, len7, cap7, rfl, hR7⟩ := hOf.ok HE.out.1; have S7 := Sd.keep hU7 nk1 nk2 hmbk hsbk; have hr7 := hrd.keep hU7 nk5)
              | ((go_at_call 208); (with_reducible refine (checked_ok k7 i7 _ _ n7 a7 len7 cap7 w7 HE.out.2).mono ?_); rintro e w8 ⟨rfl, hU8⟩; have S8 := S7.keep hU8 (fun x => x) (fun x => x) (fun x => x) (fun x => x); have hr8 := hr7.kept hU8; have c8 := hr8.cells; have z8 := hr8.frozens; obtain ⟨c80, c81, c82, c83, c84, c85⟩ := c8; obtain ⟨z80, z81, z82, z83, z84, z85⟩ := z8))
          all_goals
            have hset := hr8.set (d0 := .int .i64 k7) (d1 := .string (B n7)) (d2 := .int .i64 i7) (d3 := .slice a7 len7 cap7) (d4 := .int .i64 R.t.size) (d5 := .int .i64 R.t.depth)
            obtain ⟨e0, e1, e2, e3, e4, e5⟩ := hset.1.cells
            have HEE := hid (And.intro e0 (And.intro e1 (And.intro e2 (And.intro e3 (And.intro e4 (And.intro e5 hset.2))))))
            clear e0 e1 e2 e3 e4 e5 hset
            go_wp2_with fail
            obtain ⟨e0, e1, e2, e3, e4, e5, hset⟩ := HEE.out
            refine bodyPost_ret (v := .agg #[.int .i64 k7, .string (B n7), .int .i64 i7, .slice a7 len7 cap7, .int .i64 R.t.size, .int .i64 R.t.depth]) ?_ rfl ?_
            · simp [results, Tryz.f152, go_sem, e0, e1, e2, e3, e4, e5]
            · exact of_fin rfl HE.out.1 ((Rep.weaken (fun b _ e => e.elim .inl (fun e => .inr (.inr (.inr e)))) _ _ hR7).on hU8) (hW7.kept hU8) ((hU6d.trans hU7 (fun _ _ e => e)).trans hU8 (fun _ _ e => e.elim)) hset hHw hkw
        · have HE := hid he
          clear he
          go_region_held2 (fun w' => Of8 H Y mb (mo + m * 6) sb' (so + m * 2) (.pointer (some ⟨wk, 0, none⟩)) (.slice (some ⟨mb, mo, none⟩) ml mc) (.slice (some ⟨sb', so, none⟩) ml sc) (.int .i64 k5) (.string (B n5)) (.int .i64 i5) (.slice a5 len5 cap5) (.int .i64 ez) (.int .i64 ed) (.string (B sn)) (.slice st stl stc) w')
            (first | (with_reducible assumption) | (with_reducible exact Sd) | (with_reducible exact Of8.set6 S8 nr1 nr2 nr3 nr4 _ _ _ _ _ _))
            (first
              | ((go_at_call 70); (with_reducible refine APd.mono ?_); rintro e w7 ⟨hOf, hW7, hU7⟩; have hbad := hOf.bad HE.out; rcases e with v | ch | _; rotate_left; (obtain rfl := Ending.panicked.inj hbad; dsimp only; exact ⟨rfl, .inr ⟨HE.out, rfl⟩, hW7, hU6d.trans hU7 (fun _ _ e => e)⟩); (exact absurd hbad (by simp [perr])); (have hf : Hid False := hid (by simp [perr] at hbad)); (obtain ⟨v0, v1, v2, v3, v4, v5, rfl⟩ := aggM v hf.out); clear hbad; dsimp only; have S7 := Sd.keep hU7 nk1 nk2 hmbk hsbk; have hr7 := hrd.keep hU7 nk5)
              | ((go_at_call 208); (with_reducible refine (checked_ok v0 v2 v4 v5 v1 v3 0 0 w7 hf.out.elim).mono ?_); rintro e w8 ⟨rfl, hU8⟩; have S8 := S7.keep hU8 (fun x => x) (fun x => x) (fun x => x) (fun x => x); have hr8 := hr7.kept hU8; have c8 := hr8.cells; have z8 := hr8.frozens; obtain ⟨c80, c81, c82, c83, c84, c85⟩ := c8; obtain ⟨z80, z81, z82, z83, z84, z85⟩ := z8))
          all_goals exact hf.out.elim
theorem of_any (n : Nat) : OfAt n := by
  induction n with
  | zero => intro ms ss d t w0 wk O w ma mc sa sc cs hn hw0; omega
  | succ n ih => exact of_step n ih
end Go.Proofs.YtdomloghcpfdjaaGreatDoor
