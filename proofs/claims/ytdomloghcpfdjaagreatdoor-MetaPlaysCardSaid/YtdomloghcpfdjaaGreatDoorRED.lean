/- subst's apply, out of the step. -/
import Derived.Test.YtdomloghcpfdjaaGreatDoorRCN
import Derived.Test.YtdomloghcpfdjaaGreatDoorREC
import Derived.Deep.CutBlock
import Derived.Deep.CutRange
import Derived.Deep.RegionHeld2
import Derived.Deep.RegionHeld3
import Derived.Deep.RegionLaw
namespace Go.LF.Tm
/-- The step, as apply calls it. -/
abbrev sb1 (n : Nat) : Tm → Sm → Tm → Nat → Res := fun u s b w => sb n [u] [s] 0 b w
theorem apF_nil (f : Tm → Sm → Tm → Nat → Res) (m : Tm) (ss : List Sm) (w : Nat) : apF f m ss [] w = if m.kind = 3 then ⟨6, none0, w⟩ else chk m w := by rw [apF]
theorem apF_cons (f : Tm → Sm → Tm → Nat → Res) (m : Tm) (s : Sm) (ss : List Sm) (u : Tm) (us : List Tm) (w : Nat) : apF f m (s :: ss) (u :: us) w =
    if m.kind = 3 then (if (f u s (m.args.headD none0) w).e = 0 then apF f (f u s (m.args.headD none0) w).t ss us (f u s (m.args.headD none0) w).w else f u s (m.args.headD none0) w) else ⟨6, none0, w⟩ := by rw [apF]
theorem In.of {t : Tm} (h : t.isObj = true) (hs : t.small = true) : t.In := by
  unfold small at hs
  simp only [Bool.and_eq_true, decide_eq_true_eq] at hs
  exact ⟨hs.1, hs.2, obj_ok t h, obj_vok t h⟩
theorem In.arg {k i : Int} {n : List UInt8} {l : List Tm} (h : (Tm.mk k n i l).In) (j : Nat) (hj : j < l.length) : (l[j]).In ∧ (l[j]).depth + 1 ≤ (Tm.mk k n i l).depth := by
  have h1 := size_le_sizes (List.getElem_mem hj)
  have h2 := depth_le_depths (List.getElem_mem hj)
  obtain ⟨hs, hd, ho, hv⟩ := h
  simp only [size_mk, depth_mk] at hs hd ⊢
  exact ⟨⟨by omega, by omega, ok_arg ho j hj, (vokA_iff l).1 ((vok_mk _ _ _ _).1 hv).2 _ (List.getElem_mem hj)⟩, by omega⟩
theorem small_chk {t : Tm} (h : t.small = true) (w : Nat) : chk t w = ⟨0, t, w⟩ := by unfold chk; rw [if_pos h]
end Go.LF.Tm
namespace Go.Proofs.YtdomloghcpfdjaaGreatDoor
open Go.RowKit Go.LF
/-- What the drawn region of apply reads. -/
abbrev Ap8 (X H ab ao : Nat) (y0 y1 y2 y3 y4 y5 s1 x3 c0 c1 c2 c3 : Value) (w' : World) : Prop :=
  (w'.cell? ⟨X, 0, none⟩ = some y0 ∧ w'.cell? ⟨X, 1, none⟩ = some y1 ∧ w'.cell? ⟨X, 2, none⟩ = some y2 ∧ w'.cell? ⟨X, 3, none⟩ = some y3 ∧ w'.cell? ⟨X, 4, none⟩ = some y4 ∧ w'.cell? ⟨X, 5, none⟩ = some y5) ∧
  w'.cell? ⟨H + 1, 1, none⟩ = some s1 ∧ w'.cell? ⟨H, 3, none⟩ = some x3 ∧
  w'.cell? ⟨ab, ao, none⟩ = some c0 ∧ w'.cell? ⟨ab, ao + 1, none⟩ = some c1 ∧ w'.cell? ⟨ab, ao + 2, none⟩ = some c2 ∧ w'.cell? ⟨ab, ao + 3, none⟩ = some c3
theorem Ap8.keep {X H ab ao : Nat} {y0 y1 y2 y3 y4 y5 s1 x3 c0 c1 c2 c3 : Value} {w w' : World} {S : Nat → Prop} (h : Ap8 X H ab ao y0 y1 y2 y3 y4 y5 s1 x3 c0 c1 c2 c3 w) (hU : Upto S w w') (h1 : ¬ S X) (h2 : ¬ S (H + 1)) (h3 : ¬ S H) (h4 : ¬ S ab) : Ap8 X H ab ao y0 y1 y2 y3 y4 y5 s1 x3 c0 c1 c2 c3 w' :=
  ⟨⟨hU.cell h.1.1 h1, hU.cell h.1.2.1 h1, hU.cell h.1.2.2.1 h1, hU.cell h.1.2.2.2.1 h1, hU.cell h.1.2.2.2.2.1 h1, hU.cell h.1.2.2.2.2.2 h1⟩, hU.cell h.2.1 h2, hU.cell h.2.2.1 h3, hU.cell h.2.2.2.1 h4, hU.cell h.2.2.2.2.1 h4, hU.cell h.2.2.2.2.2.1 h4, hU.cell h.2.2.2.2.2.2 h4⟩
theorem OfR.ok {O : Nat → Prop} {r : Tm.Res} {e : Ending} {w' : World} (h : OfR O r e w') (he : r.e = 0) : ∃ k n i a len cap, e = .returned (.agg #[.int .i64 k, .string (B n), .int .i64 i, .slice a len cap, .int .i64 r.t.size, .int .i64 r.t.depth]) ∧ Rep O w' r.t.dat [.int .i64 k, .string (B n), .int .i64 i, .slice a len cap] :=
  h.elim (fun h => h.2) (fun h => absurd he h.1)
/-- .. without the cell that is written. -/
abbrev Ap9 (X H ab ao : Nat) (y0 y1 y2 y3 y4 y5 s1 c0 c1 c2 c3 : Value) (w' : World) : Prop :=
  (w'.cell? ⟨X, 0, none⟩ = some y0 ∧ w'.cell? ⟨X, 1, none⟩ = some y1 ∧ w'.cell? ⟨X, 2, none⟩ = some y2 ∧ w'.cell? ⟨X, 3, none⟩ = some y3 ∧ w'.cell? ⟨X, 4, none⟩ = some y4 ∧ w'.cell? ⟨X, 5, none⟩ = some y5) ∧
  w'.cell? ⟨H + 1, 1, none⟩ = some s1 ∧
  w'.cell? ⟨ab, ao, none⟩ = some c0 ∧ w'.cell? ⟨ab, ao + 1, none⟩ = some c1 ∧ w'.cell? ⟨ab, ao + 2, none⟩ = some c2 ∧ w'.cell? ⟨ab, ao + 3, none⟩ = some c3
theorem Ap9.keep {X H ab ao : Nat} {y0 y1 y2 y3 y4 y5 s1 c0 c1 c2 c3 : Value} {w w' : World} {S : Nat → Prop} (h : Ap9 X H ab ao y0 y1 y2 y3 y4 y5 s1 c0 c1 c2 c3 w) (hU : Upto S w w') (h1 : ¬ S X) (h2 : ¬ S (H + 1)) (h4 : ¬ S ab) : Ap9 X H ab ao y0 y1 y2 y3 y4 y5 s1 c0 c1 c2 c3 w' :=
  ⟨⟨hU.cell h.1.1 h1, hU.cell h.1.2.1 h1, hU.cell h.1.2.2.1 h1, hU.cell h.1.2.2.2.1 h1, hU.cell h.1.2.2.2.2.1 h1, hU.cell h.1.2.2.2.2.2 h1⟩, hU.cell h.2.1 h2, hU.cell h.2.2.1 h4, hU.cell h.2.2.2.1 h4, hU.cell h.2.2.2.2.1 h4, hU.cell h.2.2.2.2.2 h4⟩
theorem Ap9.set6 {X H ab ao r : Nat} {y0 y1 y2 y3 y4 y5 s1 c0 c1 c2 c3 : Value} {w : World} (h : Ap9 X H ab ao y0 y1 y2 y3 y4 y5 s1 c0 c1 c2 c3 w) (h1 : ¬ X = r) (h2 : ¬ H + 1 = r) (h4 : ¬ ab = r) (d0 d1 d2 d3 d4 d5 : Value) :
    Ap9 X H ab ao y0 y1 y2 y3 y4 y5 s1 c0 c1 c2 c3 ((((((w.setCell ⟨r, 0, none⟩ d0).setCell ⟨r, 1, none⟩ d1).setCell ⟨r, 2, none⟩ d2).setCell ⟨r, 3, none⟩ d3).setCell ⟨r, 4, none⟩ d4).setCell ⟨r, 5, none⟩ d5) :=
  h.keep (S := fun b => b = r) (Upto.set (Upto.set (Upto.set (Upto.set (Upto.set (Upto.set (Upto.refl _ _) 0 _) 1 _) 2 _) 3 _) 4 _) 5 _) h1 h2 h4
/-- Under False a value has six cells. -/
theorem aggM (v : Value) (h : False) : ∃ (v0 : Int) (v1 : List UInt8) (v2 : Int) (v3 : Option Addr) (v4 v5 : Int), v = .agg #[.int .i64 v0, .string (B v1), .int .i64 v2, .slice v3 0 0, .int .i64 v4, .int .i64 v5] := h.elim
theorem OfR.bad {O : Nat → Prop} {r : Tm.Res} {e : Ending} {w' : World} (h : OfR O r e w') (he : ¬ r.e = 0) : e = perr r.e := h.elim (fun h => absurd h.1 he) (fun h => h.2)
set_option maxRecDepth 100000 in
set_option maxHeartbeats 16000000 in
theorem apply_any (n : Nat) (IH : OfAt n) (m : Tm) (ss : List Sm) (us : List Tm) (f : List UInt8) (w0 wk : Nat) (O : Nat → Prop) (w : World) (k i : Int) (nm : List UInt8) (a : Option Addr) (len cap : Nat) (sa : Option Addr) (sc : Nat) (ua : Option Addr) (uc : Nat)
    (hn : 262145 ≤ n + w0) (hw0 : w0 ≤ 262144) (hm : m.isObj = true) (hms : m.small = true) (hul : us.length ≤ 10000) (hsl : ss.length ≤ 10000) (hsc : ss.length ≤ sc) (hus : ∀ u ∈ us, u.isObj = true ∧ u.small = true) (hss : ∀ s ∈ ss, s.size ≤ 4096)
    (hOk : O wk) (hO : ∀ b, O b → b < w.heap.size) (hW : Work wk w0 w) (hR : Rep O w m.dat [.int .i64 k, .string (B nm), .int .i64 i, .slice a len cap]) (hS : RepE O w 2 (ss.map Sm.dat) sa 0) (hE : RepE O w 6 (us.map mdat) ua 0) :
    Calls Tryz.prog 70 #[.pointer (some ⟨wk, 0, none⟩), .agg #[.int .i64 k, .string (B nm), .int .i64 i, .slice a len cap, .int .i64 m.size, .int .i64 m.depth], .agg #[.string (B f), .slice sa ss.length sc], .slice ua us.length uc] w fun e w' =>
      OfR O (Tm.ap (Tm.sb1 n) m ss us w0) e w' ∧ Work wk (Tm.ap (Tm.sb1 n) m ss us w0).w w' ∧ Upto (fun b => b = wk) w w' := by
  obtain ⟨w1, hw1⟩ : ∃ w1, w1 = ((w.alloc (.cells #[.int .i64 k, .string (B nm), .int .i64 i, .slice a len cap, .int .i64 m.size, .int .i64 m.depth] 92)).alloc (.cells #[.string (B f), .slice sa ss.length sc] 33)).alloc (.cells #[.int .i64 0, .string (B []), .int .i64 0, .slice none 0 0, .int .i64 0, .int .i64 0] 92) := ⟨_, rfl⟩
  have hU1 : Upto none' w w1 := by rw [hw1]; exact (((Upto.refl none' w).alloc _).alloc _).alloc _
  have hm1 : Box6 w1 w.heap.size (.int .i64 k) (.string (B nm)) (.int .i64 i) (.slice a len cap) (.int .i64 m.size) (.int .i64 m.depth) 92 := by rw [hw1]; exact ((Box6.at_new rfl).kept ((Upto.refl none' _).alloc _)).kept ((Upto.refl none' _).alloc _)
  have hs1 : Box2 w1 (w.heap.size + 1) (.string (B f)) (.slice sa ss.length sc) 33 := by rw [hw1]; exact (Box2.at_new (by simp)).kept ((Upto.refl none' _).alloc _)
  have hr1 : Box6 w1 (w.heap.size + 1 + 1) (.int .i64 0) (.string (B [])) (.int .i64 0) (.slice none 0 0) (.int .i64 0) (.int .i64 0) 92 := by rw [hw1]; exact Box6.at_new (by simp)
  have hU0 := hU1
  have hW1 := hW.kept hU1
  have hR1 := (Rep.freshO hR).on hU1
  have hS1 := (RepE.fresh' _ _ _ _ hS).on hU1
  have hE1 := (RepE.fresh' _ _ _ _ hE).on hU1
  have HW := hid hw1
  obtain ⟨H, hH⟩ : ∃ H, H = w.heap.size := ⟨_, rfl⟩
  have HH := hid hH
  rw [← hH] at hm1 hs1 hr1 hR1 hS1 hE1
  have hO' : ∀ b, O b → b < H := by rw [hH]; exact hO
  have hkH : wk < H := hO' wk hOk
  have HO := hid hO'
  have HP := hid (And.intro hn (And.intro hus hss))
  have hz1 : H + 3 ≤ w1.heap.size := by have := hr1.lt; omega
  obtain ⟨R, hRR⟩ : ∃ R, R = Tm.ap (Tm.sb1 n) m ss us w0 := ⟨_, rfl⟩
  rw [← hRR]
  obtain ⟨ul, hull⟩ : ∃ ul, ul = us.length := ⟨_, rfl⟩
  obtain ⟨sl, hsll⟩ : ∃ sl, sl = ss.length := ⟨_, rfl⟩
  rw [← hull, ← hsll]
  rw [← hsll] at hs1 HW
  have HL := hid (And.intro hull hsll)
  have hu6 : (ul : Int) ≤ 10000 := by omega
  have hs6 : (sl : Int) ≤ 10000 := by omega
  have hs7 : (sl : Int) ≤ (sc : Int) := by omega
  have hu0 : (0 : Int) ≤ (ul : Int) := by omega
  have hs0 : (0 : Int) ≤ (sl : Int) := by omega
  clear hw1 hR hS hE hH hO hO' hn hus hss hull hsll hU1 hW hul hsl hsc
  obtain ⟨s0, s1⟩ := hs1.cells
  by_cases hne : ul = sl
  case neg =>
    have hR6 : R = ⟨6, Tm.none0, w0⟩ := by rw [hRR]; unfold Tm.ap; rw [if_neg (by rw [← HL.out.1, ← HL.out.2]; exact hne)]
    subst hR6
    have hne' : ((ul : Int) != (sl : Int)) = true := by simp; omega
    clear hRR
    go_enter Tryz.func70, Tryz.ntmps70
    go_upto_region 1 with fail
    rw [← show B [] = { data := #[] } from rfl, ← HW.out, ← HH.out]
    go_wp2_with fail
    exact ⟨rfl, .inr ⟨by simp, rfl⟩, hW1, hU0.mono (fun _ _ x => x.elim)⟩
  subst hne
  have hR6 : R = Tm.apF (Tm.sb1 n) m ss us w0 := by rw [hRR]; unfold Tm.ap; rw [if_pos (by rw [← HL.out.1, ← HL.out.2])]
  have HR6 := hid hR6
  clear hRR hR6
  have hnf : ((ul : Int) != (ul : Int)) = false := by simp
  go_enter Tryz.func70, Tryz.ntmps70
  go_upto_region 1 with fail
  rw [← show B [] = { data := #[] } from rfl, ← HW.out, ← HH.out]
  go_wp2_with fail
  clear hnf s0 s1
  go_loopw [20] (fun v20 wr => ∃ (j : Nat) (m' : Tm) (wj : Nat) (k' i' : Int) (n' : List UInt8) (a' : Option Addr) (len' cap' : Nat), v20 = .int .i64 (j : Int) ∧ j ≤ ul ∧ R = Tm.apF (Tm.sb1 n) m' (ss.drop j) (us.drop j) wj ∧ (m'.isObj = true ∧ m'.small = true ∧ wj ≤ 262144 ∧ 262145 ≤ n + wj) ∧ Work wk wj wr ∧
      Box6 wr H (.int .i64 k') (.string (B n')) (.int .i64 i') (.slice a' len' cap') (.int .i64 m'.size) (.int .i64 m'.depth) 92 ∧ Rep (fun b => O b ∨ b = H ∨ b = H + 1 + 1) wr m'.dat [.int .i64 k', .string (B n'), .int .i64 i', .slice a' len' cap'] ∧ Upto (fun b => b = wk ∨ b = H) w1 wr)
    (fun v20 _ => ul - (intOf v20).toNat)
  case atStart => exact ⟨0, m, w0, k, i, nm, a, len, cap, rfl, Nat.zero_le _, HR6.out, ⟨hm, hms, hw0, HP.out.1⟩, hW1, hm1, Rep.weaken (fun b _ e => e.elim .inl (fun e => .inr (by omega))) _ _ hR1, Upto.refl _ _⟩
  case round =>
    clear hW1 hm1 hR1 hm hms hw0
    obtain ⟨j, m', wj, k', i', n', a', len', cap', rfl, hj, hRj, ⟨ho, hsm, hwj, hnj⟩, hWr, hB, hRm, hU⟩ := hrel
    have HV := hid (And.intro hRj (And.intro ho (And.intro hsm (And.intro hwj hnj))))
    obtain ⟨ls, rfl, hlsl, hlc, hEl⟩ := tm_tie hRm
    have HO2 := hid (And.intro ho hsm)
    have HLL := hid hlsl
    have hin := Tm.In.of ho hsm
    clear hRj ho hsm hnj hlsl hlc
    obtain ⟨x0, x1, x2, x3, x4, x5⟩ := hB.cells
    have q := hB.lt
    have u2 : (j : Int) ≤ 10000 := by omega
    have u3 : (0 : Int) ≤ (j : Int) := by omega
    by_cases hlt : j < ul
    · have hju : j < us.length := by rw [← HL.out.1]; exact hlt
      have hjs : j < ss.length := by rw [← HL.out.2]; exact hlt
      have u4 : (j : Int) < (ul : Int) := by omega
      obtain ⟨eb, eo, ek, en, ei, es, ec, rfl, hebl, hebO, p0, p1, p2, p3, p4, p5, hRp⟩ := arg_made (RepE.keep hU (fun b e => by rcases e with e | e; exact .inl (by rw [e]; exact hOk); exact .inr (by omega)) _ _ _ _ hE1) j hju
      have hd1 : ss.drop j = ss[j] :: ss.drop (j + 1) := List.drop_eq_getElem_cons hjs
      have hd2 : us.drop j = us[j] :: us.drop (j + 1) := List.drop_eq_getElem_cons hju
      go_upto_block 1 with fail
      go_cut [] from 22 to 45 (fun wc => ∃ (m2 : Tm) (w2 : Nat) (k7 i7 : Int) (n7 : List UInt8) (a7 : Option Addr) (len7 cap7 : Nat), R = Tm.apF (Tm.sb1 n) m2 (ss.drop (j + 1)) (us.drop (j + 1)) w2 ∧ (m2.isObj = true ∧ m2.small = true ∧ w2 ≤ 262144 ∧ 262145 ≤ n + w2) ∧ Work wk w2 wc ∧ Box6 wc H (.int .i64 k7) (.string (B n7)) (.int .i64 i7) (.slice a7 len7 cap7) (.int .i64 m2.size) (.int .i64 m2.depth) 92 ∧
        Rep (fun b => O b ∨ b = H ∨ b = H + 1 + 1) wc m2.dat [.int .i64 k7, .string (B n7), .int .i64 i7, .slice a7 len7 cap7] ∧ Upto (fun b => b = wk ∨ b = H) w1 wc)
      case first =>
        by_cases hk3 : k' = 3
        case neg =>
          have hRn : R = ⟨6, Tm.none0, wj⟩ := by rw [HV.out.1, hd1, hd2, Tm.apF_cons, if_neg (by simpa using hk3)]
          have HRn := hid hRn
          have hk3' : (k' != 3) = true := by simpa using hk3
          clear hRn hd1 hd2 hin
          go_wp2_with fail
          exact ⟨rfl, .inr ⟨by rw [HRn.out]; simp, by rw [HRn.out]; rfl⟩, by rw [HRn.out]; exact hWr.kept ((Upto.refl none' _).alloc _), ((hU0.mono (fun _ _ x => x.elim)).trans hU (fun b hb e => e.elim (fun e => e) (fun e => by have := HH.out; omega))).alloc _⟩
        subst hk3
        obtain ⟨b0, rfl⟩ : ∃ b0, ls = [b0] := ⟨_, (Tm.obj_lam HO2.out.1 rfl).2⟩
        obtain rfl : len' = 1 := HLL.out
        obtain ⟨ab, ao, bk, bn, bi, bs, bc, rfl, habl, habO, c0, c1, c2, c3, hRb⟩ := arg_tm hEl 0 (by simp)
        simp only [Nat.zero_mul, Nat.add_zero, List.getElem_cons_zero] at c0 c1 c2 c3 hRb
        have hinb := hin.arg 0 (by simp)
        simp only [List.getElem_cons_zero] at hinb
        obtain ⟨sb', so, sn, st, stc, rfl, hsbl, hsbO, _, _, _⟩ := arg_sm (RepE.keep hU (fun b e => by rcases e with e | e; exact .inl (by rw [e]; exact hOk); exact .inr (by omega)) _ _ _ _ hS1) j hjs
        have hS9 := one_simple (RepE.keep hU (fun b e => by rcases e with e | e; exact .inl (by rw [e]; exact hOk); exact .inr (by omega)) _ _ _ _ hS1) j hjs
        have hs9 := hs1.keep hU (by rintro (e | e) <;> omega)
        have HUS := HP.out.2.1 _ (List.getElem_mem hju)
        have HSS := HP.out.2.2 _ (List.getElem_mem hjs)
        have hstep : R = (if (Tm.sb n [us[j]] [ss[j]] 0 b0 wj).e = 0 then Tm.apF (Tm.sb1 n) (Tm.sb n [us[j]] [ss[j]] 0 b0 wj).t (ss.drop (j + 1)) (us.drop (j + 1)) (Tm.sb n [us[j]] [ss[j]] 0 b0 wj).w else Tm.sb n [us[j]] [ss[j]] 0 b0 wj) := by
          rw [HV.out.1, hd1, hd2, Tm.apF_cons, if_pos (show (Tm.mk 3 n' i' [b0]).kind = 3 from rfl)]; rfl
        have hgood := Tm.sb_good n [us[j]] [ss[j]] 0 b0 wj (by simpa using HUS) (by omega) (by have := hinb.1.depth; omega) (Tm.obj_lam HO2.out.1 rfl).1
        have hwork := Tm.sb_work n [us[j]] [ss[j]] 0 b0 wj hwj
        have hltw := Tm.sb_lt n [us[j]] [ss[j]] 0 b0 wj
        have IHc := fun (W : World) (Y : Nat) (c : Nat) (T : TypeId) (hW : Work wk wj W) (hsz : ∀ b, (O b ∨ b = H ∨ b = H + 1 + 1) → b < W.heap.size) (hY : Box6 W Y (.int .i64 ek) (.string (B en)) (.int .i64 ei) (.slice es us[j].args.length ec) (.int .i64 us[j].size) (.int .i64 us[j].depth) T) (hY' : ¬ (O Y ∨ Y = H ∨ Y = H + 1 + 1)) (hu : Upto none' wr W) =>
          IH [us[j]] [ss[j]] 0 b0 wj wk (fun b => O b ∨ b = H ∨ b = H + 1 + 1) W (some ⟨Y, 0, none⟩) 1 (some ⟨sb', so + j * 2, none⟩) c _ HV.out.2.2.2.2 hwj rfl (by simp) (by simpa using HUS) (by simpa using HSS) (by omega) (by have := hinb.1.depth; omega) hinb.1 (.inl hOk) hsz hW
            (one_made hY hY' (Rep.weaken (fun b _ e => e.elim .inl (fun e => .inr (by omega))) _ _ (hRp.on hu))) (RepE.weaken (fun b _ e => e.elim .inl (fun e => .inr (by omega))) _ _ _ _ (hS9.on hu)) (hRb.on hu)
        simp only [List.length_cons, List.length_nil, Nat.zero_add] at IHc
        generalize us[j].args.length = el at *
        generalize hsd : Tm.sb n [us[j]] [ss[j]] 0 b0 wj = rs at *
        generalize us[j].size = ez at *
        generalize us[j].depth = ed at *
        have HST := hid (And.intro hstep (And.intro hgood (And.intro hwork hltw)))
        obtain ⟨s0, s1⟩ := hs9.cells
        clear hstep hgood hwork hltw hsd hd1 hd2 HUS HSS hS9 hRb hEl hin hinb hRp
        go_upto_region 6 with fail
        obtain ⟨w4, hw4⟩ : ∃ w4, w4 = wr.alloc (.cells #[.int .i64 ek, .string (B en), .int .i64 ei, .slice es el ec, .int .i64 ez, .int .i64 ed] 92) := ⟨_, rfl⟩
        have hU4 : Upto none' wr w4 := by rw [hw4]; exact (Upto.refl none' _).alloc _
        have hx4 : Box6 w4 wr.heap.size (.int .i64 ek) (.string (B en)) (.int .i64 ei) (.slice es el ec) (.int .i64 ez) (.int .i64 ed) 92 := by rw [hw4]; exact Box6.at_new rfl
        have hs4 := hs9.kept hU4
        have hB4 := hB.kept hU4
        have c4 := hU4.cell c0 (fun x => x)
        have c5 := hU4.cell c1 (fun x => x)
        have c6 := hU4.cell c2 (fun x => x)
        have c7 := hU4.cell c3 (fun x => x)
        have hW4 := hWr.kept hU4
        have hq4 := hB4.lt
        have hq5 := hs4.lt
        have hq6 : ab < w4.heap.size := by have := hU4.size; omega
        have hq7 : wk < w4.heap.size := hW4.lt
        obtain ⟨X, hX⟩ : ∃ X, X = wr.heap.size := ⟨_, rfl⟩
        rw [← hw4, ← hX]
        rw [← hX] at hx4
        have HX := hid hX
        have hXl := hx4.lt
        have hzwr := hU.size
        clear hw4 x0 x1 x2 x3 x4 x5 s0 s1 p0 p1 p2 p3 p4 p5 c0 c1 c2 c3 hs9 hX
        obtain ⟨x0, x1, x2, x3, x4, x5⟩ := hB4.cells
        obtain ⟨y0, y1, y2, y3, y4, y5⟩ := hx4.cells
        obtain ⟨s0, s1⟩ := hs4.cells
        have u5 : ((j : Int) + 1) ≤ (ul : Int) := by omega
        have u6 : ((j : Int) + 1) ≤ (sc : Int) := by omega
        go_upto_region 8 with fail
        have hwr1 : IntKind.i64.wrap ((j : Int) + 1) = (j : Int) + 1 := Go.IntWalk.i64_in _ (by omega)
        have hnat : ((j : Int) + 1).toNat = j + 1 := by omega
        have hnsc : ¬ sc = j := by omega
        have hsub : j + 1 - j = 1 := by omega
        have h01 : (0 : Int) ≤ (j : Int) + 1 := by omega
        have hal : Upto none' w4 (w4.alloc (.cells #[.int .i64 ek, .string (B en), .int .i64 ei, .slice es el ec, .int .i64 ez, .int .i64 ed] 92)).drew := ((Upto.refl none' w4).alloc _).drew
        have hnx : Box6 (w4.alloc (.cells #[.int .i64 ek, .string (B en), .int .i64 ei, .slice es el ec, .int .i64 ez, .int .i64 ed] 92)).drew w4.heap.size (.int .i64 ek) (.string (B en)) (.int .i64 ei) (.slice es el ec) (.int .i64 ez) (.int .i64 ed) 92 := (Box6.at_new rfl).kept (Upto.refl none' _).drew
        have hszw : ∀ b, (O b ∨ b = H ∨ b = H + 1 + 1) → b < (w4.alloc (.cells #[.int .i64 ek, .string (B en), .int .i64 ei, .slice es el ec, .int .i64 ez, .int .i64 ed] 92)).drew.heap.size := by
          intro b e
          have := hal.size
          have := hU4.size
          have := hU.size
          rcases e with e | e
          · have := HO.out b e; omega
          · omega
        have IHd := IHc _ w4.heap.size (sc - j) 92 (hW4.kept hal) hszw hnx (by have z1 := hU4.size; have z2 := hU.size; rintro (e | e); (have := HO.out _ e; omega); omega) (hU4.and hal)
        have hB5 := hB4.kept hal
        have hkH' : ¬ H = wk := by omega
        have HUU := hid (And.intro hU (And.intro hU4 hal))
        clear hnx hszw IHc hal hU4
        have S4 : Ap8 X H ab ao _ _ _ _ _ _ _ _ _ _ _ _ w4 := ⟨⟨y0, y1, y2, y3, y4, y5⟩, s1, x3, c4, c5, c6, c7⟩
        have S4d := S4.keep (Upto.refl none' w4).drew (fun x => x) (fun x => x) (fun x => x) (fun x => x)
        have S4a := (S4.keep (((Upto.refl none' w4).alloc (.cells #[.int .i64 ek, .string (B en), .int .i64 ei, .slice es el ec, .int .i64 ez, .int .i64 ed] 92)).drew) (fun x => x) (fun x => x) (fun x => x) (fun x => x))
        have hUp8 : ∀ W, Upto (fun b => b = wk) (w4.alloc (.cells #[.int .i64 ek, .string (B en), .int .i64 ei, .slice es el ec, .int .i64 ez, .int .i64 ed] 92)).drew W → Upto (fun b => b = wk ∨ b = H) w1 W := fun W h =>
          ((HUU.out.1.trans HUU.out.2.1 (fun _ _ e => e.elim)).trans HUU.out.2.2 (fun _ _ e => e.elim)).trans h (fun _ _ e => .inl e)
        by_cases he : rs.e = 0
        · have HE := hid (And.intro he hUp8)
          have hRg : R = Tm.apF (Tm.sb1 n) rs.t (ss.drop (j + 1)) (us.drop (j + 1)) rs.w := by rw [HST.out.1, if_pos he]
          have hobj : rs.t.isObj = true ∧ rs.t.small = true := by
            rcases HST.out.2.1 with h | h
            · exact h.2
            · exact absurd he h.1
          have hww := HST.out.2.2.1 he
          have HRG := hid (And.intro hRg (And.intro hobj (And.intro hww HST.out.2.2.2)))
          clear he hUp8 S4 S4d S4a hRg hobj hww
          go_region_law (first
            | ((rw [if_pos (by rfl)]); go_simp; (go_at_call 152); refine IHd.mono ?_; rintro e w7 ⟨hOf, hWk7, hU7⟩; obtain ⟨k7, n7, i7, a7, len7, cap7, rfl, hR7⟩ := hOf.ok HE.out.1; have hB7 := hB5.keep hU7 hkH'; have c7 := hB7.cells; have z7 := hB7.frozens; obtain ⟨c70, c71, c72, c73, c74, c75⟩ := c7; obtain ⟨z70, z71, z72, z73, z74, z75⟩ := z7)
            | fail)
          all_goals
            have hset := hB7.set (d0 := .int .i64 k7) (d1 := .string (B n7)) (d2 := .int .i64 i7) (d3 := .slice a7 len7 cap7) (d4 := .int .i64 rs.t.size) (d5 := .int .i64 rs.t.depth)
            have hfin := And.intro (hWk7.keep hset.2 (by omega)) (And.intro hset.1 (And.intro (Rep.keep hset.2 (fun b e => .inr (.inl e)) _ _ hR7) ((HE.out.2 _ hU7).trans hset.2 (fun b _ e => .inr e))))
            clear hset
            go_wp2_with fail
            go_meet
          all_goals exact ⟨rs.t, rs.w, k7, i7, n7, a7, len7, cap7, HRG.out.1, ⟨HRG.out.2.1.1, HRG.out.2.1.2, HRG.out.2.2.1, by have := HRG.out.2.2.2; have := HV.out.2.2.2.2; omega⟩, hfin⟩
        · have hRb : R = rs := by rw [HST.out.1, if_neg he]
          subst hRb
          have HE := hid (And.intro he hUp8)
          clear he hUp8 S4
          go_region_held2 (fun w' => Ap8 X H ab ao (.int .i64 ek) (.string (B en)) (.int .i64 ei) (.slice es el ec) (.int .i64 ez) (.int .i64 ed) (.slice (some ⟨sb', so, none⟩) ul sc) (.slice (some ⟨ab, ao, none⟩) 1 cap') (.int .i64 bk) (.string (B bn)) (.int .i64 bi) (.slice bs b0.args.length bc) w')
            (first | (with_reducible assumption) | (with_reducible exact S4d) | (with_reducible exact S4a) | (exact hf.out.elim))
            (first | ((go_at_call 152); (with_reducible refine IHd.mono ?_); rintro e w7 ⟨hOf, hWk7, hU7⟩; have hbad := hOf.bad HE.out.1; rcases e with v | ch | _; rotate_left; (obtain rfl := Ending.panicked.inj hbad; dsimp only; exact ⟨rfl, .inr ⟨HE.out.1, rfl⟩, hWk7, (hU0.mono (fun _ _ x => x.elim)).trans (HE.out.2 _ hU7) (fun b hb e => e.elim (fun e => e) (fun e => by have := HH.out; omega))⟩); (exact absurd hbad (by simp [perr])); (have hf : Hid False := hid (by simp [perr] at hbad)); (obtain ⟨v0, v1, v2, v3, v4, v5, rfl⟩ := aggM v hf.out); clear hbad; dsimp only; have hB7 := hB5.keep hU7 hkH'; have c7 := hB7.cells; have z7 := hB7.frozens; obtain ⟨c70, c71, c72, c73, c74, c75⟩ := c7; obtain ⟨z70, z71, z72, z73, z74, z75⟩ := z7))
          all_goals exact hf.out.elim
      case rest =>
        obtain ⟨m2, w2, k7, i7, n7, a7, len7, cap7, hR2, ho2, hW7, hB7, hR7, hU7⟩ := hcut
        have HR2 := hid hR2
        clear hR2
        go_wp2_with fail
        go_roundw
        case rel => exact ⟨j + 1, m2, w2, k7, i7, n7, a7, len7, cap7, by go_num, by omega, HR2.out, ho2, hW7, hB7, hR7, hU7⟩
        case measure => simp [intOf]; omega
    · have hjl : j = ul := by omega
      subst hjl
      have hd1 : ss.drop j = [] := List.drop_eq_nil_of_le (by rw [← HL.out.2]; exact Nat.le_refl _)
      have hd2 : us.drop j = [] := List.drop_eq_nil_of_le (by rw [← HL.out.1]; exact Nat.le_refl _)
      have hUw := (hU0.mono (fun _ _ x => x.elim)).trans hU (S := fun b => b = wk) (fun b hb e => e.elim (fun e => e) (fun e => by have := HH.out; omega))
      by_cases hk3 : k' = 3
      · subst hk3
        have hRn : R = ⟨6, Tm.none0, wj⟩ := by rw [HV.out.1, hd1, hd2, Tm.apF_nil, if_pos (show (Tm.mk 3 n' i' ls).kind = 3 from rfl)]
        have HRn := hid hRn
        clear hRn hd1 hd2
        go_wp2_with fail
        exact ⟨rfl, .inr ⟨by rw [HRn.out]; simp, by rw [HRn.out]; rfl⟩, by rw [HRn.out]; exact hWr, hUw⟩
      · have hk3' : (k' == 3) = false := by simpa using hk3
        have hRn : R = ⟨0, .mk k' n' i' ls, wj⟩ := by rw [HV.out.1, hd1, hd2, Tm.apF_nil, if_neg (by simpa using hk3), Tm.small_chk HV.out.2.2.1]
        have HRn := hid hRn
        have hr9 := hr1.keep hU (by rintro (e | e) <;> omega)
        obtain ⟨y0, y1, y2, y3, y4, y5⟩ := hr9.cells
        obtain ⟨z0, z1, z2, z3, z4, z5⟩ := hr9.frozens
        have hset := hr9.set (d0 := .int .i64 k') (d1 := .string (B n')) (d2 := .int .i64 i') (d3 := .slice a' len' cap') (d4 := .int .i64 (Tm.mk k' n' i' ls).size) (d5 := .int .i64 (Tm.mk k' n' i' ls).depth)
        have hlr := hr9.lt
        obtain ⟨e0, e1, e2, e3, e4, e5⟩ := hset.1.cells
        have HE := hid (And.intro e0 (And.intro e1 (And.intro e2 (And.intro e3 (And.intro e4 (And.intro e5 hset.2))))))
        have hRl : Rep O wr (Tm.mk k' n' i' ls).dat [.int .i64 k', .string (B n'), .int .i64 i', .slice a' len' cap'] := Rep.weaken (fun b _ e => .inl e) _ _ hRm
        have hRt : Rep (fun b => O b ∨ b = H + 1 + 1) wr (Tm.mk k' n' i' ls).dat [.int .i64 k', .string (B n'), .int .i64 i', .slice a' len' cap'] := Rep.weaken (fun b _ e => e.elim .inl (fun e => .inr (.inr e))) _ _ hRm
        generalize hez : (Tm.mk k' n' i' ls).size = ez at *
        generalize hed : (Tm.mk k' n' i' ls).depth = ed at *
        have HZ := hid (And.intro hez hed)
        clear e0 e1 e2 e3 e4 e5 hset hRn hd1 hd2 hez hed
        go_wp2_with fail
        obtain ⟨e0, e1, e2, e3, e4, e5, hset⟩ := HE.out
        refine bodyPost_ret (v := .agg #[.int .i64 k', .string (B n'), .int .i64 i', .slice a' len' cap', .int .i64 ez, .int .i64 ed]) ?_ rfl ?_
        · simp [results, Tryz.f70, go_sem, e0, e1, e2, e3, e4, e5]
        · refine ⟨.inl ⟨by rw [HRn.out], k', n', i', a', len', cap', ?_, ?_⟩, ?_, ?_⟩
          · rw [HRn.out]
            show _ = Ending.returned (.agg #[.int .i64 k', .string (B n'), .int .i64 i', .slice a' len' cap', .int .i64 (Tm.mk k' n' i' ls).size, .int .i64 (Tm.mk k' n' i' ls).depth])
            rw [HZ.out.1, HZ.out.2]
          · rw [HRn.out]
            exact Rep.weaken (fun b _ e => .inl e) _ _ (Rep.keep hset (fun b e => .inr e) _ _ hRt)
          · rw [HRn.out]
            exact hWr.keep hset (by omega)
          · exact hUw.trans hset (fun b hb e => by have := HH.out; omega)
end Go.Proofs.YtdomloghcpfdjaaGreatDoor
