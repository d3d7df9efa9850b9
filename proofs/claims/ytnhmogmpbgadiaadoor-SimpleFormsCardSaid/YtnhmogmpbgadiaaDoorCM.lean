/- The reference's Long. -/
import Derived.Test.YtnhmogmpbgadiaaDoorCA
import Derived.Test.YtnhmogmpbgadiaaDoorCF
import Derived.Test.YtnhmogmpbgadiaaDoorCH
import Derived.Test.YtnhmogmpbgadiaaDoorCK
import Derived.Test.YtnhmogmpbgadiaaDoorCL
import Derived.Deep.CutBlock
import Derived.Deep.CutRange
namespace Go.LF.Tm
theorem mv_var (m : Nat) (i : Int) (h0 : 0 ≤ i) : mv (shF m 0) 0 (mk 5 [] i []) = mk 5 [] (i + m) [] := by
  have e : mvi (shF m 0) 0 5 i = i + m := by
    unfold mvi
    rw [if_pos ⟨rfl, h0⟩]
    unfold shF
    simp only
    rw [if_neg (by omega)]
    omega
  rw [mv_mk, mvA, e]
end Go.LF.Tm
namespace Go.Proofs.YtnhmogmpbgadiaaDoor
open Go.RowKit Go.LF
/-- What a cell holds. -/
def cellAt (b j : Nat) (w : World) : Value := (w.cell? ⟨b, j, none⟩).getD undef
theorem cellAt_eq {b j : Nat} {w : World} {v : Value} (h : w.cell? ⟨b, j, none⟩ = some v) : cellAt b j w = v := by unfold cellAt; rw [h]; rfl
theorem cellAt_some {b j : Nat} {w : World} {v : Value} (h : w.cell? ⟨b, j, none⟩ = some v) : w.cell? ⟨b, j, none⟩ = some (cellAt b j w) := by rw [cellAt_eq h]; exact h
/-- A box is there, whatever it holds. -/
abbrev BoxAt (b : Nat) (w : World) : Prop := w.cell? ⟨b, 0, none⟩ = some (cellAt b 0 w) ∧ w.cell? ⟨b, 1, none⟩ = some (cellAt b 1 w) ∧ w.cell? ⟨b, 2, none⟩ = some (cellAt b 2 w) ∧ w.cell? ⟨b, 3, none⟩ = some (cellAt b 3 w)
theorem Box4.boxAt {W : World} {g : Nat} {c0 c1 c2 c3 : Value} {T : TypeId} (h : Box4 W g c0 c1 c2 c3 T) : BoxAt g W := ⟨cellAt_some h.cells.1, cellAt_some h.cells.2.1, cellAt_some h.cells.2.2.1, cellAt_some h.cells.2.2.2⟩
theorem Box4.at {W : World} {g : Nat} {c0 c1 c2 c3 : Value} {T : TypeId} (h : Box4 W g c0 c1 c2 c3 T) : cellAt g 0 W = c0 ∧ cellAt g 1 W = c1 ∧ cellAt g 2 W = c2 ∧ cellAt g 3 W = c3 := ⟨cellAt_eq h.cells.1, cellAt_eq h.cells.2.1, cellAt_eq h.cells.2.2.1, cellAt_eq h.cells.2.2.2⟩
/-- A row of one term, in a block of its own. -/
theorem repE_one {O : Nat → Prop} {W : World} {t : Tm} {c0 c1 c2 c3 : Value} {b : Nat} {T : TypeId} (h : Rep O W t.dat [c0, c1, c2, c3]) (hb : ¬ O b) (hB : Box4 W b c0 c1 c2 c3 T) : RepE O W 4 ([t].map Tm.dat) (some ⟨b, 0, none⟩) 0 := by
  obtain ⟨a, cap, e, _, hE⟩ := rep_tm.1 (rep_one h hb hB 0 [] 0)
  simp only [List.cons.injEq, Value.slice.injEq, and_true, true_and] at e
  obtain ⟨rfl, _⟩ := e
  exact hE
theorem relayO {O : Nat → Prop} {W : World} {b : Nat} {t : Tm} {t0 t1 t2 t3 : Value} {T : TypeId} (hB : Box4 W b t0 t1 t2 t3 T) (hR : Rep O W t.dat [t0, t1, t2, t3]) (hb : O b) (hO : ∀ x, O x → x < W.heap.size) (k : Int) (n : List UInt8) (i : Int) {W' : World}
    (hW : W' = ((((W.setCell ⟨b, 0, none⟩ (.int .i64 k)).setCell ⟨b, 1, none⟩ (.string (B n))).setCell ⟨b, 2, none⟩ (.int .i64 i)).setCell ⟨b, 3, none⟩ (.slice (some ⟨W.heap.size, 0, none⟩) 1 1)).alloc (.cells #[t0, t1, t2, t3] T)) :
    Box4 W' b (.int .i64 k) (.string (B n)) (.int .i64 i) (.slice (some ⟨W.heap.size, 0, none⟩) 1 1) T ∧ Rep O W' (Tm.mk k n i [t]).dat [.int .i64 k, .string (B n), .int .i64 i, .slice (some ⟨W.heap.size, 0, none⟩) 1 1] ∧ Upto (fun x => x = b) W W' := by
  subst hW
  have hs := hB.set (d0 := .int .i64 k) (d1 := .string (B n)) (d2 := .int .i64 i) (d3 := .slice (some ⟨W.heap.size, 0, none⟩) 1 1)
  have hU := hs.2.alloc (.cells #[t0, t1, t2, t3] T)
  exact ⟨hs.1.kept ((Upto.refl none' _).alloc _), rep_one (Rep.keep hU (fun x e => by subst e; exact hb) _ _ hR) (fun e => by have := hO _ e; omega) (Box4.at_new (by simp)) k n i, hU⟩
set_option maxRecDepth 100000 in
set_option maxHeartbeats 16000000 in
theorem long_any (s : Sm) : s.size ≤ 100000 → ∀ (h : Tm), h.size ≤ 100000 → (∀ b, ∀ x ∈ h.nodes b, x.ok) → ∀ (w : World) (cs ds : List Value), Rep none' w h.dat cs → Rep none' w s.dat ds →
    Calls Tryd.prog 88 #[.agg cs.toArray, .agg ds.toArray] w (NewTm (Tm.xp (h.mv (Tm.shF s.args.length 0) 0) s) w) := by
  induction s using Sm.ind with
  | h f ss ih =>
    intro hs h hh hok w cs ds hR hD
    obtain ⟨k, n, i, ts, a, cap, ht, rfl, hcap, _⟩ := tm_open hR
    obtain ⟨sa, sc, rfl, hsc, hE⟩ := rep_sm.1 hD
    have hlen := Sm.length_le_sizes ss
    simp only [Sm.size_mk] at hs
    simp only [Sm.args_mk]
    have HM := fun W c (hc : Rep none' W h.dat c) => refMove_any (ss.length : Int) 0 (by omega) (by omega) (by omega) (by omega) h hh hok 0 0 W c (by omega) (by omega) (by omega) hc
    rw [Tm.xp_mk]
    have hmw : (Tm.mv (Tm.shF (ss.length : Int) 0) 0 h).size = h.size := Tm.size_mv _ _ _
    obtain ⟨hm, hhm⟩ : ∃ hm, hm = Tm.mv (Tm.shF (ss.length : Int) 0) 0 h := ⟨_, rfl⟩
    rw [← hhm] at HM hmw ⊢
    obtain ⟨w1, hw1⟩ : ∃ w1, w1 = ((w.alloc (.cells #[.int .i64 k, .string (B n), .int .i64 i, .slice a ts.length cap] 29)).alloc (.cells #[.string (B f), .slice sa ss.length sc] 43)).alloc (.cells #[.int .i64 0, .string (B []), .int .i64 0, .slice none 0 0] 29) := ⟨_, rfl⟩
    have hU1 : Upto none' w w1 := by rw [hw1]; exact (((Upto.refl none' w).alloc _).alloc _).alloc _
    have hs1 : Box2 w1 (w.heap.size + 1) (.string (B f)) (.slice sa ss.length sc) 43 := by rw [hw1]; exact (Box2.at_new (by simp)).kept ((Upto.refl none' _).alloc _)
    have hr1 : Box4 w1 (w.heap.size + 1 + 1) (.int .i64 0) (.string (B [])) (.int .i64 0) (.slice none 0 0) 29 := by rw [hw1]; exact Box4.at_new (by simp)
    obtain ⟨base, hbase⟩ : ∃ base, base = w1.heap.size := ⟨_, rfl⟩
    have hz1 : base = w.heap.size + 1 + 1 + 1 := by rw [hbase, hw1]; simp
    have hbb : Box4 w1 w.heap.size (.int .i64 k) (.string (B n)) (.int .i64 i) (.slice a ts.length cap) 29 := by rw [hw1]; exact ((Box4.at_new rfl).kept ((Upto.refl none' _).alloc _)).kept ((Upto.refl none' _).alloc _)
    have HW := hid hw1
    have HT := hid (And.intro ht hhm)
    have hR1 := hR.on hU1
    have hlen6 : ts.length ≤ 100000 := by have := Tm.length_le_sizes ts; rw [ht, Tm.size_mk] at hh; omega
    have hml : hm.args.length + ss.length ≤ 300000 := by
      have h1 : hm.args.length ≤ hm.size := by cases hm; rw [Tm.size_mk]; have := Tm.length_le_sizes ‹List Tm›; simp only [Tm.args_mk]; omega
      omega
    obtain ⟨t0, t1, t2, t3⟩ := hbb.cells
    obtain ⟨s0, s1⟩ := hs1.cells
    clear hw1 ht hhm hcap hR hD hmw
    generalize ts.length = tl at *
    go_enter Tryd.func88, Tryd.ntmps88
    go_wp2_with fail
    rw [← show B [] = { data := #[] } from rfl, ← HW.out]
    go_wp2_with fail
    refine (HM w1 _ hR1).mono ?_
    rintro e w2 ⟨k2, i2, n2, a2, len2, cap2, rfl, hR2, hU2⟩
    rw [← hbase] at hR2
    have hU12 := hU1.and hU2
    have hz2 := hU2.size
    rw [← hbase] at hz2
    clear HM hR1 t0 t1 t2 t3 hbb
    go_wp2_with fail
    refine (with_any hm [] (by simp; omega) (fun x => x < base) w2 (fun b hb => by omega) _ hR2 none 0 (by simp only [List.map_nil, RepE])).mono ?_
    rintro e w3 ⟨k3, i3, n3, a3, len3, cap3, rfl, hR3, hU3⟩
    rw [Tm.more_nil] at hR3
    obtain ⟨w4, hw4⟩ : ∃ w4, w4 = w3.alloc (.cells #[.int .i64 k3, .string (B n3), .int .i64 i3, .slice a3 len3 cap3] 29) := ⟨_, rfl⟩
    obtain ⟨Bb, hBb⟩ : ∃ Bb, Bb = w3.heap.size := ⟨_, rfl⟩
    have hU4 : Upto none' w3 w4 := by rw [hw4]; exact (Upto.refl none' w3).alloc _
    have hb4 : Box4 w4 Bb (.int .i64 k3) (.string (B n3)) (.int .i64 i3) (.slice a3 len3 cap3) 29 := by rw [hw4]; exact Box4.at_new hBb.symm
    have hR4 : Rep (fun x => x < base ∨ x = Bb) w4 hm.dat [.int .i64 k3, .string (B n3), .int .i64 i3, .slice a3 len3 cap3] := (Rep.weaken (fun b _ e => e.elim .inl (fun e => .inr (by omega))) _ _ (Rep.fresh' _ _ hR3)).on hU4
    have hUw4 := (hU12.and hU3).and hU4
    have hzB : base ≤ Bb := by have := hU3.size; omega
    have hs4 := ((hs1.kept hU2).kept hU3).kept hU4
    have hr4 := ((hr1.kept hU2).kept hU3).kept hU4
    have HW4 := hid hw4
    have HBb := hid hBb
    have hbz4 := hb4.lt
    clear hw4 hR2 hR3 hs1 hr1 s0 s1 hU1 hU2 hU12 hU3 hU4
    clear hBb
    go_wp2_with fail
    rw [← HBb.out, ← HW4.out]
    go_loopw [7] (fun v7 wr => ∃ (j : Nat) (k i : Int) (n : List UInt8) (a : Option Addr) (len cap : Nat), v7 = .int .i64 j ∧ j ≤ ss.length ∧ Rep (fun x => x < base ∨ x = Bb) wr (hm.more (Tm.xpA ((ss.length : Int) - 1) (ss.take j))).dat [.int .i64 k, .string (B n), .int .i64 i, .slice a len cap] ∧
        Box4 wr Bb (.int .i64 k) (.string (B n)) (.int .i64 i) (.slice a len cap) 29 ∧ Upto (fun x => x = Bb) w4 wr) (fun v7 _ => ss.length - (intOf v7).toNat)
    case atStart => exact ⟨0, _, _, _, _, _, _, rfl, Nat.zero_le _, by simpa [Tm.xpA, Tm.more_nil] using hR4, hb4, Upto.refl _ _⟩
    case round =>
      clear hR4 hb4
      obtain ⟨j, k4, i4, n4, a4, len4, cap4, rfl, hj, hR, hB, hU⟩ := hrel
      have hUw : Upto none' w wr := hUw4.trans hU (fun x hx e => by omega)
      have hsr := hs4.keep hU (by omega)
      obtain ⟨s0, s1⟩ := hsr.cells
      have j0 : (0 : Int) ≤ (j : Int) := by omega
      have jb : (j : Int) ≤ 200000 := by omega
      have hBz := hB.lt
      by_cases hlt : j < ss.length
      · obtain ⟨eb, eo, en, es, ec, rfl, hebl, hebz, p0, p1, hRp⟩ := arg_sm ((RepE.fresh' _ _ _ _ hE).on hUw) j hlt
        have j1 : (j : Int) < (ss.length : Int) := by omega
        have hs9 := Sm.size_le_sizes (List.getElem_mem hlt)
        have hal : (ss[j]'hlt).args.length ≤ 100000 := by
          have h1 : (ss[j]'hlt).args.length ≤ (ss[j]'hlt).size := by
            cases (ss[j]'hlt) with
            | mk f' l' => rw [Sm.size_mk]; have := Sm.length_le_sizes l'; simp only [Sm.args_mk]; omega
          omega
        have hidx : (0 : Int) ≤ (ss.length : Int) - 1 - (j : Int) := by omega
        have IH := fun W (hV : Upto none' wr W) => ih (ss[j]'hlt) (List.getElem_mem hlt) (by omega) (.mk 5 [] ((ss.length : Int) - 1 - (j : Int)) []) (by simp [Tm.sizes]) (by
          intro b x hx
          rw [Tm.nodes_mk] at hx
          simp only [Tm.nodesA, List.mem_singleton] at hx
          subst hx
          exact ⟨fun _ => ⟨hidx, by show (ss.length : Int) - 1 - (j : Int) ≤ 1048576; omega⟩, fun e => by simp at e, fun e => by simp at e⟩) W _ _ (rep_leaf 5 [] ((ss.length : Int) - 1 - (j : Int))) (Rep.weaken (fun _ _ x => x.elim) _ _ (hRp.on hV))
        rw [Tm.mv_var _ _ hidx] at IH
        have hT := Tm.xpA_take_succ ss ((ss.length : Int) - 1) j hlt
        generalize (ss[j]'hlt).args.length = al at *
        obtain ⟨u, hu⟩ : ∃ u, u = Tm.xp (.mk 5 [] ((ss.length : Int) - 1 - (j : Int) + (al : Int)) []) (ss[j]'hlt) := ⟨_, rfl⟩
        rw [← hu] at IH hT
        have HT2 := hid (And.intro hT hlt)
        obtain ⟨body, hbody⟩ : ∃ body, body = hm.more (Tm.xpA ((ss.length : Int) - 1) (ss.take j)) := ⟨_, rfl⟩
        rw [← hbody] at hR
        have hbl : body.args.length + 1 ≤ 900000 := by
          rw [hbody]
          have h1 : (Tm.xpA ((ss.length : Int) - 1) (ss.take j)).length ≤ 100000 := by rw [Tm.xpA_length, List.length_take]; omega
          simp only [Tm.more, Tm.args_mk, List.length_append]
          omega
        have hbs : body.more [u] = hm.more (Tm.xpA ((ss.length : Int) - 1) (ss.take (j + 1))) := by rw [hbody, Tm.more_more, hT]
        have HBS := hid hbs
        clear hT hbs hbody hu hs9 hal hlt hRp
        have hwi : IntKind.i64.wrap ((ss.length : Int) - 1 - (j : Int)) = (ss.length : Int) - 1 - (j : Int) := Go.IntWalk.i64_in _ (by omega)
        have hwi2 : IntKind.i64.wrap ((ss.length : Int) - 1) = (ss.length : Int) - 1 := Go.IntWalk.i64_in _ (by omega)
        have hd : Upto none' wr wr.drew := (Upto.refl none' wr).drew
        obtain ⟨b0, b1, b2, b3⟩ := hB.cells
        have hE0 : w.heap.size + 1 ≠ Bb := by omega
        have hEb : eb < base := by
          by_cases he : eb < base
          · exact he
          · exfalso
            have := hebz
            omega
        go_wp2_with fail
        go_region_law (first
          | ((rw [if_pos (by rfl)]); go_simp; (go_at_call 130); refine (with_any body [u] hbl (fun x => x < base ∨ x = Bb) _ (fun x e => by have := hB6.lt; omega) _ hR6 (some ⟨w5.heap.size, 0, none⟩) 1 hE6).mono ?_; rintro e w7 ⟨k7, i7, n7, a7, len7, cap7, rfl, hR7, hU7⟩; have hU7' := hU6.and hU7; have hB7 := hB6.kept hU7; obtain ⟨z0, z1, z2, z3⟩ := hB7.frozens; obtain ⟨v0, v1, v2, v3⟩ := hB7.cells; have hset := hB7.set (d0 := .int .i64 k7) (d1 := .string (B n7)) (d2 := .int .i64 i7) (d3 := .slice a7 len7 cap7))
          | ((rw [if_pos (by rfl)]); go_simp; (go_at_call 88); refine (IH _ hd).mono ?_; rintro e w5 ⟨k5, i5, n5, a5, len5, cap5, rfl, hR5, hU5⟩; have hU5' : Upto none' wr w5 := hd.and hU5; have hB5 := hB.kept hU5';
                have hal5 : Upto none' w5 (w5.alloc (.cells #[.int .i64 k5, .string (B n5), .int .i64 i5, .slice a5 len5 cap5] 29)) := (Upto.refl none' w5).alloc _; have hU6 := hU5'.and hal5; have hB6 := hB5.kept hal5; have hR6 := hR.on hU6; have hwz : wr.drew.heap.size = wr.heap.size := rfl; have hzz := hU5'.size; have hR5' : Rep (fun x => x < base ∨ x = Bb) (w5.alloc (.cells #[.int .i64 k5, .string (B n5), .int .i64 i5, .slice a5 len5 cap5] 29)) u.dat [.int .i64 k5, .string (B n5), .int .i64 i5, .slice a5 len5 cap5] := (Rep.weaken (fun x _ e => by show x < wr.drew.heap.size; omega) _ _ hR5).on hal5; have hE6 := repE_one hR5' (by omega) (Box4.at_new rfl : Box4 (w5.alloc (.cells #[.int .i64 k5, .string (B n5), .int .i64 i5, .slice a5 len5 cap5] 29)) w5.heap.size _ _ _ _ _); obtain ⟨g50, g51, g52, g53⟩ := hB5.cells; obtain ⟨g60, g61, g62, g63⟩ := hB6.cells))
        all_goals
          have hR9 := Rep.keep hset.2 (fun x e => .inr e) _ _ hR7
          rw [HBS.out] at hR9
          have HR9 := hid hR9
          clear hR9
          go_wp2_with fail
          go_roundw
          case rel => exact ⟨j + 1, _, _, _, _, _, _, by go_num, Nat.succ_le_of_lt HT2.out.2, HR9.out, hset.1, (hU.trans (hU7'.mono (fun _ _ x => x.elim)) (fun _ _ x => x)).trans hset.2 (fun _ _ x => x)⟩
          case measure => (have := HT2.out.2; simp [intOf]; omega)
      · have hjn : ¬ (j : Int) < (ss.length : Int) := by omega
        have hdn : ss.take j = ss := List.take_of_length_le (by omega)
        rw [hdn] at hR
        clear hdn s0 s1 hsr hlt
        obtain ⟨wq, rfl⟩ : ∃ wq, wq = wr := ⟨wr, rfl⟩
        obtain ⟨body, hbody⟩ : ∃ body, body = hm.more (Tm.xpA ((ss.length : Int) - 1) ss) := ⟨_, rfl⟩
        rw [← hbody] at hR
        have HB := hid hbody
        clear hbody
        go_wp2_with fail
        go_loopw [8] (fun v8 wr => ∃ (j : Nat) (k i : Int) (n : List UInt8) (a : Option Addr) (len cap : Nat), v8 = .int .i64 j ∧ j ≤ ss.length ∧ Rep (fun x => x < base ∨ x = Bb) wr (Tm.lamN j body).dat [.int .i64 k, .string (B n), .int .i64 i, .slice a len cap] ∧
            Box4 wr Bb (.int .i64 k) (.string (B n)) (.int .i64 i) (.slice a len cap) 29 ∧ Upto (fun x => x = Bb) w4 wr) (fun v8 _ => ss.length - (intOf v8).toNat)
        case atStart => exact ⟨0, _, _, _, _, _, _, rfl, Nat.zero_le _, hR, hB, hU⟩
        case round =>
          clear hR hB hU hUw
          obtain ⟨m, k5, i5, n5, a5, len5, cap5, rfl, hm', hR, hB, hU⟩ := hrel
          obtain ⟨b0, b1, b2, b3⟩ := hB.cells
          obtain ⟨f0, f1, f2, f3⟩ := hB.frozens
          have hBl := hB.lt
          have m0 : (0 : Int) ≤ (m : Int) := by omega
          have mb : (m : Int) ≤ 200000 := by omega
          by_cases hlt : m < ss.length
          · have m1 : (m : Int) < (ss.length : Int) := by omega
            have hrl := relayO hB hR (.inr rfl) (fun x e => by omega) 3 [] 0 rfl
            rw [← Tm.lamN_succ] at hrl
            have HRL := hid hrl
            have HLT := hid hlt
            clear hrl hlt
            go_wp2_with fail
            go_roundw
            case rel => exact ⟨m + 1, _, _, _, _, _, _, by go_num, Nat.succ_le_of_lt HLT.out, HRL.out.2.1, HRL.out.1, hU.trans HRL.out.2.2 (fun _ _ x => x)⟩
            case measure => (have := HLT.out; simp [intOf]; omega)
          · have hmn : ¬ (m : Int) < (ss.length : Int) := by omega
            obtain rfl : m = ss.length := by omega
            have hrr := hr4.keep hU (by omega)
            obtain ⟨x0, x1, x2, x3⟩ := hrr.cells
            obtain ⟨y0, y1, y2, y3⟩ := hrr.frozens
            have hrz := hrr.lt
            have hset := hrr.set (d0 := .int .i64 k5) (d1 := .string (B n5)) (d2 := .int .i64 i5) (d3 := .slice a5 len5 cap5)
            obtain ⟨e0, e1, e2, e3⟩ := hset.1.cells
            have HE := hid (And.intro e0 (And.intro e1 (And.intro e2 e3)))
            clear e0 e1 e2 e3
            go_wp2_with fail
            obtain ⟨e0, e1, e2, e3⟩ := HE.out
            refine bodyPost_ret (v := .agg #[.int .i64 k5, .string (B n5), .int .i64 i5, .slice a5 len5 cap5]) ?_ rfl ?_
            · simp [results, Tryd.f88, go_sem, e0, e1, e2, e3]
            · have hfin : Rep (fun x => x < w.heap.size) _ (Tm.lamN ss.length body).dat _ := Rep.weaken (O := fun x => x < base ∨ x = Bb) (fun b _ e => .inl (by omega)) _ _ (Rep.keep hset.2 (fun b e => .inl (by omega)) _ _ hR)
              rw [HB.out] at hfin
              exact ⟨k5, i5, n5, a5, len5, cap5, rfl, hfin, (hUw4.trans hU (fun x hx e => by omega)).trans hset.2 (fun x hx e => by omega)⟩
end Go.Proofs.YtnhmogmpbgadiaaDoor
namespace Go.LF.Tm
/-- The eta-long form of a head, and the error of its making. -/
def etaX (h : Tm) (s : Sm) : Tm := xp (h.mv (shF s.args.length 0) 0) s
def etaE (h : Tm) (s : Sm) : Int :=
  if h.wf ≠ 0 then h.wf else if s.wf ≠ 0 then s.wf else if (h.kind != 4 && (h.kind != 5 && h.kind != 6)) = true then 32
  else if 4096 < (h.size : Int) - 1 + s.lsz then 2 else if (etaX h s).small = false then 2 else if 1048576 < (etaX h s).great then 5 else 0
def etaT (h : Tm) (s : Sm) : Tm := if etaE h s = 0 then etaX h s else mk 0 [] 0 []
end Go.LF.Tm
namespace Go.Proofs.YtnhmogmpbgadiaaDoor
open Go.RowKit Go.LF
set_option maxRecDepth 100000 in
set_option maxHeartbeats 16000000 in
theorem eta_any (h : Tm) (hh : h.wt ≤ 1000000) (s : Sm) (hs : s.wt ≤ 1000000) (w : World) (cs ds : List Value) (hR : Rep none' w h.dat cs) (hD : Rep none' w s.dat ds) :
    Calls Tryd.prog 42 #[.agg cs.toArray, .agg ds.toArray] w (Gives (h.etaT s) (.int .i64 (h.etaE s)) w) := by
  have hhs := Tm.size_le_wt h
  have hss := Sm.size_le_wt s
  have H1 := fun W hc => refWellFormed_any h hh W cs hc
  have H2 := fun W hc => refSmWf_any s hs W ds hc
  have H3 := fun W hc => refSize_any h (by omega) W cs hc
  have H4 := fun (e : s.size ≤ 4096) W hc => longSize_any s (by omega) W ds hc
  have H5 := fun (e : s.size ≤ 4096) (e2 : h.wf = 0) W hc hd => long_any s (by omega) h (by have := (Tm.wf_ok h e2).2.1; omega) (Tm.wf_ok h e2).1 W cs ds hc hd
  have hxs : (h.etaX s).size + 2 = h.size + 2 * s.size := by rw [Tm.etaX, Tm.size_xp, Tm.size_mv]
  have H6 := fun (e : s.size ≤ 4096) (e2 : h.size ≤ 4096) W c hc => refSmall_any (h.etaX s) (by omega) W c hc
  have H7 := fun (e : s.size ≤ 4096) (e2 : h.size ≤ 4096) W c hc => refGreatest_any (h.etaX s) (by omega) W c hc
  have hsw : s.wf = 0 → s.size ≤ 4096 := by
    unfold Sm.wf
    split
    · intro e; cases e
    · split
      · intro e; cases e
      · rename_i h1 h2; intro _; simp at h2; omega
  have hlz := (Sm.lsz_bounds s).1
  have hhw : h.wf = 0 → h.size ≤ 4096 := fun e => (Tm.wf_ok h e).2.1
  obtain ⟨k, n, i, ts, a, cap, ht, rfl, hcap, _⟩ := tm_open hR
  obtain ⟨f, ss, sa, sc, hts, rfl, hsc, _⟩ := sm_open hD
  have hkk : h.kind = k := by rw [ht]; rfl
  obtain ⟨E, hE⟩ : ∃ E, E = h.etaE s := ⟨_, rfl⟩
  obtain ⟨X, hX⟩ : ∃ X, X = h.etaT s := ⟨_, rfl⟩
  rw [← hE, ← hX]
  rw [Tm.etaT, ← hE] at hX
  rw [Tm.etaE, hkk] at hE
  obtain ⟨x, hx⟩ : ∃ x, x = h.etaX s := ⟨_, rfl⟩
  have hx5 := hx
  rw [Tm.etaX] at hx5
  rw [← hx5] at H5
  rw [← hx] at H6 H7 hE hX
  have HX := hid (And.intro hE hX)
  have HB := hid (And.intro hsw (And.intro hlz hhw))
  generalize h.wf = wf at *
  generalize s.wf = sf at *
  generalize x.small = sm at *
  generalize x.great = gr at *
  generalize h.size = hz at *
  generalize s.size = sz at *
  generalize s.lsz = lz at *
  clear hE hX ht hts hkk hcap hsc hx hx5 hsw hlz hhw hxs
  obtain ⟨w1, hw1⟩ : ∃ w1, w1 = ((w.alloc (.cells #[.int .i64 k, .string (B n), .int .i64 i, .slice a ts.length cap] 29)).alloc (.cells #[.string (B f), .slice sa ss.length sc] 43)).alloc (.cells #[.int .i64 0, .string (B []), .int .i64 0, .slice none 0 0] 29) := ⟨_, rfl⟩
  have hU1 : Upto none' w w1 := by rw [hw1]; exact (((Upto.refl none' w).alloc _).alloc _).alloc _
  have hb1 : Box4 w1 w.heap.size (.int .i64 k) (.string (B n)) (.int .i64 i) (.slice a ts.length cap) 29 := by rw [hw1]; exact ((Box4.at_new rfl).kept ((Upto.refl none' _).alloc _)).kept ((Upto.refl none' _).alloc _)
  have hs1 : Box2 w1 (w.heap.size + 1) (.string (B f)) (.slice sa ss.length sc) 43 := by rw [hw1]; exact (Box2.at_new (by simp)).kept ((Upto.refl none' _).alloc _)
  have hr1 : Box4 w1 (w.heap.size + 1 + 1) (.int .i64 0) (.string (B [])) (.int .i64 0) (.slice none 0 0) 29 := by rw [hw1]; exact Box4.at_new (by simp)
  have HW := hid hw1
  clear hw1
  generalize ts.length = tl at *
  generalize ss.length = sl at *
  go_enter Tryd.func42, Tryd.ntmps42
  go_wp2_with fail
  rw [← show B [] = { data := #[] } from rfl, ← HW.out]
  refine (H1 w1 (hR.on hU1)).mono ?_
  rintro e w2 ⟨rfl, hU2⟩
  have hb2 := hb1.kept hU2
  have hs2 := hs1.kept hU2
  have hr2 := hr1.kept hU2
  have hU1_2 := hU1.and hU2
  have b2 := hb2.cells
  have s2 := hs2.cells
  by_cases hwf : wf = 0
  case neg =>
    have hwf' : (wf != 0) = true := by simpa using hwf
    obtain ⟨x0, x1, x2, x3⟩ := hr2.cells
    obtain ⟨y0, y1, y2, y3⟩ := hr2.frozens
    have hrz := hr2.lt
    have hE0 : E = wf := (by rw [HX.out.1]; exact if_pos hwf)
    have hX0 : X = .mk 0 [] 0 [] := by rw [HX.out.2, if_neg (by rw [hE0]; exact hwf)]
    have hgz := gives_set (u := .mk 0 [] 0 []) (r := .int .i64 wf) hr2 (by omega) hU1_2 (rep_leaf 0 [] 0) rfl
    rw [← hX0] at hgz
    have hgz2 : (Value.int .i64 wf) = .int .i64 E := by rw [hE0]
    have HG := hid (And.intro hgz hgz2)
    obtain ⟨e0, e1, e2, e3⟩ := hgz.2.cells
    have HE := hid (And.intro e0 (And.intro e1 (And.intro e2 e3)))
    clear hgz hgz2 e0 e1 e2 e3 hE0 hX0
    go_wp2_with fail
    obtain ⟨e0, e1, e2, e3⟩ := HE.out
    refine bodyPost_ret (v := .tuple #[.agg #[.int .i64 0, .string (B []), .int .i64 0, .slice none 0 0], .int .i64 wf]) ?_ rfl ?_
    · simp [results, Tryd.f42, go_sem, e0, e1, e2, e3]
    · have h := HG.out.1.1
      rw [← HG.out.2]
      exact h
  have hwf' : (wf != 0) = false := by simp [hwf]
  have HF1 := hid hwf
  clear hwf
  go_wp2_with fail
  refine (H2 w2 (hD.on hU1_2)).mono ?_
  rintro e w3 ⟨rfl, hU3⟩
  have hb3 := hb2.kept hU3
  have hs3 := hs2.kept hU3
  have hr3 := hr2.kept hU3
  have hU1_3 := hU1_2.and hU3
  have b3 := hb3.cells
  have s3 := hs3.cells
  by_cases hsf : sf = 0
  case neg =>
    have hsf' : (sf != 0) = true := by simpa using hsf
    obtain ⟨x0, x1, x2, x3⟩ := hr3.cells
    obtain ⟨y0, y1, y2, y3⟩ := hr3.frozens
    have hrz := hr3.lt
    have hE0 : E = sf := (by rw [HX.out.1]; exact (if_neg (fun e => e HF1.out)).trans (if_pos hsf))
    have hX0 : X = .mk 0 [] 0 [] := by rw [HX.out.2, if_neg (by rw [hE0]; exact hsf)]
    have hgz := gives_set (u := .mk 0 [] 0 []) (r := .int .i64 sf) hr3 (by omega) hU1_3 (rep_leaf 0 [] 0) rfl
    rw [← hX0] at hgz
    have hgz2 : (Value.int .i64 sf) = .int .i64 E := by rw [hE0]
    have HG := hid (And.intro hgz hgz2)
    obtain ⟨e0, e1, e2, e3⟩ := hgz.2.cells
    have HE := hid (And.intro e0 (And.intro e1 (And.intro e2 e3)))
    clear hgz hgz2 e0 e1 e2 e3 hE0 hX0
    go_wp2_with fail
    obtain ⟨e0, e1, e2, e3⟩ := HE.out
    refine bodyPost_ret (v := .tuple #[.agg #[.int .i64 0, .string (B []), .int .i64 0, .slice none 0 0], .int .i64 sf]) ?_ rfl ?_
    · simp [results, Tryd.f42, go_sem, e0, e1, e2, e3]
    · have h := HG.out.1.1
      rw [← HG.out.2]
      exact h
  have hsf' : (sf != 0) = false := by simp [hsf]
  have HF2 := hid hsf
  clear hsf
  by_cases hkd : (k != 4 && (k != 5 && k != 6)) = true
  case pos =>
    have hkd' := hkd
    simp only [Bool.and_eq_true] at hkd'
    obtain ⟨hk4, hk5, hk6⟩ := hkd'
    have hne : (32 : Int) ≠ 0 := by decide
    obtain ⟨x0, x1, x2, x3⟩ := hr3.cells
    obtain ⟨y0, y1, y2, y3⟩ := hr3.frozens
    have hrz := hr3.lt
    have hE0 : E = 32 := (by rw [HX.out.1]; exact (if_neg (fun e => e HF1.out)).trans ((if_neg (fun e => e HF2.out)).trans (if_pos hkd)))
    have hX0 : X = .mk 0 [] 0 [] := by rw [HX.out.2, if_neg (by rw [hE0]; exact hne)]
    have hgz := gives_set (u := .mk 0 [] 0 []) (r := .int .i64 32) hr3 (by omega) hU1_3 (rep_leaf 0 [] 0) rfl
    rw [← hX0] at hgz
    have hgz2 : (Value.int .i64 32) = .int .i64 E := by rw [hE0]
    have HG := hid (And.intro hgz hgz2)
    obtain ⟨e0, e1, e2, e3⟩ := hgz.2.cells
    have HE := hid (And.intro e0 (And.intro e1 (And.intro e2 e3)))
    clear hgz hgz2 e0 e1 e2 e3 hE0 hX0
    go_wp2_with fail
    obtain ⟨e0, e1, e2, e3⟩ := HE.out
    refine bodyPost_ret (v := .tuple #[.agg #[.int .i64 0, .string (B []), .int .i64 0, .slice none 0 0], .int .i64 32]) ?_ rfl ?_
    · simp [results, Tryd.f42, go_sem, e0, e1, e2, e3]
    · have h := HG.out.1.1
      rw [← HG.out.2]
      exact h
  have hways : ((k != 4) = false) ∨ ((k != 4) = true ∧ (k != 5) = false) ∨ ((k != 4) = true ∧ (k != 5) = true ∧ (k != 6) = false) := by
    cases h4 : (k != 4)
    · exact .inl rfl
    · cases h5 : (k != 5)
      · exact .inr (.inl ⟨rfl, rfl⟩)
      · exact .inr (.inr ⟨rfl, rfl, by rw [h4, h5] at hkd; simpa using hkd⟩)
  have HK := hid hkd
  clear hkd
  have hzb := HB.out.2.2 HF1.out
  have szb := HB.out.1 HF2.out
  have lzb := HB.out.2.1
  go_upto_region 7 with fail
  go_cut [33] from 21 to 33 (fun v33 wx => v33 = .bool false ∧ w3 = wx)
  case first =>
    rcases hways with h4 | ⟨h4, h5⟩ | ⟨h4, h5, h6⟩
    all_goals
      go_wp2_with fail
      go_meet
      case rel => exact ⟨rfl, rfl⟩
  case rest =>
    obtain ⟨rfl, rfl⟩ := hcut
    clear hways
    have hd : Upto none' w3 w3.drew := (Upto.refl none' w3).drew
    have hzw : IntKind.i64.wrap ((hz : Int) - 1) = (hz : Int) - 1 := Go.IntWalk.i64_in _ (by omega)
    have hzw2 : IntKind.i64.wrap ((hz : Int) - 1 + (lz : Int)) = (hz : Int) - 1 + (lz : Int) := Go.IntWalk.i64_in _ (by omega)
    go_wp2_with fail
    go_region_held3 (fun w' => (w'.cell? ⟨w.heap.size, 0, none⟩ = some (.int .i64 k) ∧ w'.cell? ⟨w.heap.size, 1, none⟩ = some (.string (B n)) ∧ w'.cell? ⟨w.heap.size, 2, none⟩ = some (.int .i64 i) ∧ w'.cell? ⟨w.heap.size, 3, none⟩ = some (.slice a tl cap)) ∧
        w'.cell? ⟨w.heap.size + 1, 0, none⟩ = some (.string (B f)) ∧ w'.cell? ⟨w.heap.size + 1, 1, none⟩ = some (.slice sa sl sc))
      (first | go_keep | (exact ⟨box_on hV b3, hV.cell s3.1 (fun x => x), hV.cell s3.2 (fun x => x)⟩))
      (first
        | (go_at_call 87; refine (H4 szb _ (hD.on (hU1_3.and hV5))).mono ?_; rintro e w6 ⟨rfl, hU6⟩; have hV := hV5.and hU6)
        | (go_at_call 86; refine (H3 _ (hR.on (hU1_3.and hd))).mono ?_; rintro e w5 ⟨rfl, hU5⟩; have hV5 := hd.and hU5; have hV := hV5))
    have hU6x : Upto none' w3 w6 := hV
    clear hV
    have hzb2 : hz ≤ 4096 := hzb
    have hb6 := hb3.kept hU6x
    have hs6 := hs3.kept hU6x
    have hr6 := hr3.kept hU6x
    have hU1_6 := hU1_3.and hU6x
    have b6 := hb6.cells
    have s6 := hs6.cells
    by_cases hbig : 4096 < (hz : Int) - 1 + (lz : Int)
    case pos =>
      have hbig' : (4096 : Int) < (hz : Int) - 1 + (lz : Int) := hbig
      have hne : (2 : Int) ≠ 0 := by decide
      obtain ⟨x0, x1, x2, x3⟩ := hr6.cells
      obtain ⟨y0, y1, y2, y3⟩ := hr6.frozens
      have hrz := hr6.lt
      have hE0 : E = 2 := (by rw [HX.out.1]; exact (if_neg (fun e => e HF1.out)).trans ((if_neg (fun e => e HF2.out)).trans ((if_neg HK.out).trans (if_pos hbig))))
      have hX0 : X = .mk 0 [] 0 [] := by rw [HX.out.2, if_neg (by rw [hE0]; exact hne)]
      have hgz := gives_set (u := .mk 0 [] 0 []) (r := .int .i64 2) hr6 (by omega) hU1_6 (rep_leaf 0 [] 0) rfl
      rw [← hX0] at hgz
      have hgz2 : (Value.int .i64 2) = .int .i64 E := by rw [hE0]
      have HG := hid (And.intro hgz hgz2)
      obtain ⟨e0, e1, e2, e3⟩ := hgz.2.cells
      have HE := hid (And.intro e0 (And.intro e1 (And.intro e2 e3)))
      clear hgz hgz2 e0 e1 e2 e3 hE0 hX0
      go_wp2_with fail
      obtain ⟨e0, e1, e2, e3⟩ := HE.out
      refine bodyPost_ret (v := .tuple #[.agg #[.int .i64 0, .string (B []), .int .i64 0, .slice none 0 0], .int .i64 2]) ?_ rfl ?_
      · simp [results, Tryd.f42, go_sem, e0, e1, e2, e3]
      · have h := HG.out.1.1
        rw [← HG.out.2]
        exact h
    have HBIG := hid hbig
    have hbig' : ¬ (4096 : Int) < (hz : Int) - 1 + (lz : Int) := hbig
    clear hbig
    go_wp2_with fail
    refine (H5 szb HF1.out w6 (hR.on hU1_6) (hD.on hU1_6)).mono ?_
    rintro e w7 ⟨k7, i7, n7, a7, len7, cap7, rfl, hR7, hU7⟩
    obtain ⟨w8, hw8⟩ : ∃ w8, w8 = w7.alloc (.cells #[.int .i64 k7, .string (B n7), .int .i64 i7, .slice a7 len7 cap7] 29) := ⟨_, rfl⟩
    have hUal : Upto none' w7 w8 := by rw [hw8]; exact (Upto.refl none' w7).alloc _
    have hx8 : Box4 w8 w7.heap.size (.int .i64 k7) (.string (B n7)) (.int .i64 i7) (.slice a7 len7 cap7) 29 := by rw [hw8]; exact Box4.at_new rfl
    have hU8 : Upto none' w6 w8 := hU7.and hUal
    have hR8 : Rep (fun b => b ≤ w.heap.size + 1 + 1) w8 x.dat [.int .i64 k7, .string (B n7), .int .i64 i7, .slice a7 len7 cap7] := (Rep.weaken (fun b _ e => by have := hr6.lt; omega) _ _ hR7).on hUal
    obtain ⟨xb, hxb⟩ : ∃ xb, xb = w7.heap.size := ⟨_, rfl⟩
    have HXB := hid hxb
    have HW8 := hid hw8
    rw [← hxb] at hx8
    clear hw8 hxb hUal
    have hb8 := hb6.kept hU8
    have hs8 := hs6.kept hU8
    have hr8 := hr6.kept hU8
    have hU1_8 := hU1_6.and hU8
    have b8 := hb8.cells
    have s8 := hs8.cells
    obtain ⟨x80, x81, x82, x83⟩ := hx8.cells
    go_wp2_with fail
    rw [← HXB.out, ← HW8.out]
    go_wp2_with fail
    refine (H6 szb hzb w8 _ (Rep.weaken (fun _ _ x => x.elim) _ _ hR8)).mono ?_
    rintro e w9 ⟨rfl, hU9⟩
    have hx9 := hx8.kept hU9
    have hR9 := hR8.on hU9
    have hb9 := hb8.kept hU9
    have hs9 := hs8.kept hU9
    have hr9 := hr8.kept hU9
    have hU1_9 := hU1_8.and hU9
    have b9 := hb9.cells
    have s9 := hs9.cells
    obtain ⟨x90, x91, x92, x93⟩ := hx9.cells
    cases sm
    case' false =>
      have hne : (2 : Int) ≠ 0 := by decide
      obtain ⟨x0, x1, x2, x3⟩ := hr9.cells
      obtain ⟨y0, y1, y2, y3⟩ := hr9.frozens
      have hrz := hr9.lt
      have hE0 : E = 2 := (by rw [HX.out.1]; exact (if_neg (fun e => e HF1.out)).trans ((if_neg (fun e => e HF2.out)).trans ((if_neg HK.out).trans ((if_neg (Int.not_lt.2 HBIG.out)).trans (if_pos rfl)))))
      have hX0 : X = .mk 0 [] 0 [] := by rw [HX.out.2, if_neg (by rw [hE0]; exact hne)]
      have hgz := gives_set (u := .mk 0 [] 0 []) (r := .int .i64 2) hr9 (by omega) hU1_9 (rep_leaf 0 [] 0) rfl
      rw [← hX0] at hgz
      have hgz2 : (Value.int .i64 2) = .int .i64 E := by rw [hE0]
      have HG := hid (And.intro hgz hgz2)
      obtain ⟨e0, e1, e2, e3⟩ := hgz.2.cells
      have HE := hid (And.intro e0 (And.intro e1 (And.intro e2 e3)))
      clear hgz hgz2 e0 e1 e2 e3 hE0 hX0
      go_wp2_with fail
      obtain ⟨e0, e1, e2, e3⟩ := HE.out
      refine bodyPost_ret (v := .tuple #[.agg #[.int .i64 0, .string (B []), .int .i64 0, .slice none 0 0], .int .i64 2]) ?_ rfl ?_
      · simp [results, Tryd.f42, go_sem, e0, e1, e2, e3]
      · have h := HG.out.1.1
        rw [← HG.out.2]
        exact h
    go_wp2_with fail
    refine (H7 szb hzb w9 _ (Rep.weaken (fun _ _ x => x.elim) _ _ hR9)).mono ?_
    rintro e w10 ⟨rfl, hU10⟩
    have hx10 := hx9.kept hU10
    have hR10 := hR9.on hU10
    have hb10 := hb9.kept hU10
    have hs10 := hs9.kept hU10
    have hr10 := hr9.kept hU10
    have hU1_10 := hU1_9.and hU10
    have b10 := hb10.cells
    have s10 := hs10.cells
    obtain ⟨x100, x101, x102, x103⟩ := hx10.cells
    by_cases hgr : 1048576 < gr
    case pos =>
      have hne : (5 : Int) ≠ 0 := by decide
      obtain ⟨x0, x1, x2, x3⟩ := hr10.cells
      obtain ⟨y0, y1, y2, y3⟩ := hr10.frozens
      have hrz := hr10.lt
      have hE0 : E = 5 := (by rw [HX.out.1]; exact (if_neg (fun e => e HF1.out)).trans ((if_neg (fun e => e HF2.out)).trans ((if_neg HK.out).trans ((if_neg (Int.not_lt.2 HBIG.out)).trans ((if_neg (by simp)).trans (if_pos hgr))))))
      have hX0 : X = .mk 0 [] 0 [] := by rw [HX.out.2, if_neg (by rw [hE0]; exact hne)]
      have hgz := gives_set (u := .mk 0 [] 0 []) (r := .int .i64 5) hr10 (by omega) hU1_10 (rep_leaf 0 [] 0) rfl
      rw [← hX0] at hgz
      have hgz2 : (Value.int .i64 5) = .int .i64 E := by rw [hE0]
      have HG := hid (And.intro hgz hgz2)
      obtain ⟨e0, e1, e2, e3⟩ := hgz.2.cells
      have HE := hid (And.intro e0 (And.intro e1 (And.intro e2 e3)))
      clear hgz hgz2 e0 e1 e2 e3 hE0 hX0
      go_wp2_with fail
      obtain ⟨e0, e1, e2, e3⟩ := HE.out
      refine bodyPost_ret (v := .tuple #[.agg #[.int .i64 0, .string (B []), .int .i64 0, .slice none 0 0], .int .i64 5]) ?_ rfl ?_
      · simp [results, Tryd.f42, go_sem, e0, e1, e2, e3]
      · have h := HG.out.1.1
        rw [← HG.out.2]
        exact h
    obtain ⟨x0, x1, x2, x3⟩ := hr10.cells
    obtain ⟨y0, y1, y2, y3⟩ := hr10.frozens
    have hrz := hr10.lt
    have hE0 : E = 0 := by rw [HX.out.1]; exact (if_neg (fun e => e HF1.out)).trans ((if_neg (fun e => e HF2.out)).trans ((if_neg HK.out).trans ((if_neg (Int.not_lt.2 HBIG.out)).trans ((if_neg (by simp)).trans (if_neg hgr)))))
    have hX0 : X = x := by rw [HX.out.2, if_pos hE0]
    have hgz := gives_set (u := x) (r := .int .i64 0) hr10 (by omega) hU1_10 hR10 rfl
    rw [← hX0] at hgz
    have hgz2 : (Value.int .i64 0) = .int .i64 E := by rw [hE0]
    have HG := hid (And.intro hgz hgz2)
    obtain ⟨e0, e1, e2, e3⟩ := hgz.2.cells
    have HE := hid (And.intro e0 (And.intro e1 (And.intro e2 e3)))
    clear hgz hgz2 e0 e1 e2 e3 hE0 hX0
    go_wp2_with fail
    obtain ⟨e0, e1, e2, e3⟩ := HE.out
    refine bodyPost_ret (v := .tuple #[.agg #[.int .i64 k7, .string (B n7), .int .i64 i7, .slice a7 len7 cap7], .int .i64 0]) ?_ rfl ?_
    · simp [results, Tryd.f42, go_sem, e0, e1, e2, e3]
    · have h := HG.out.1.1
      rw [← HG.out.2]
      exact h
end Go.Proofs.YtnhmogmpbgadiaaDoor
namespace Go.LF.Tm
theorem eta_small (v : Int) (h0 : 0 ≤ v) (h1 : v ≤ 1000) (s : Sm) (hs : s.FitsS 1) : (etaT (mk 5 [] v []) s).isObj = true ∧ (etaT (mk 5 [] v []) s).size ≤ 5 ∧ (etaT (mk 5 [] v []) s).wt ≤ 25 := by
  have hz : s.size ≤ 3 := by have := hs.size; simp at this; omega
  have hal : s.args.length ≤ 3 := by cases s with | mk f l => rw [Sm.size_mk] at hz; have := Sm.length_le_sizes l; simp only [Sm.args_mk]; omega
  have hx : etaX (mk 5 [] v []) s = xp (mk 5 [] (v + s.args.length) []) s := by rw [etaX, mv_var _ _ h0]
  have hxo : (etaX (mk 5 [] v []) s).isObj = true := by
    rw [hx]
    refine obj_xp s _ ?_ (by simp) (by omega)
    rw [isObj]
    simp [allObj]
    omega
  have hxs : (etaX (mk 5 [] v []) s).size ≤ 5 := by have := size_xp s (mk 5 [] (v + s.args.length) []); rw [hx]; simp [sizes] at this; omega
  have hxw : (etaX (mk 5 [] v []) s).wt ≤ 25 := by have := wt_xp s (mk 5 [] (v + s.args.length) []); rw [hx]; simp [wts] at this; omega
  have hE : etaE (mk 5 [] v []) s = 0 := by
    have e1 : (mk 5 [] v []).wf = 0 := by
      have ho : (mk 5 [] v []).isObj = true := by rw [isObj]; simp [allObj]; omega
      unfold wf small
      rw [ho]
      simp [sizes, depths]
    have e2 := hs.wf0 (by omega)
    have e3 := (Sm.lsz_bounds s).1
    have e4 : (etaX (mk 5 [] v []) s).small = true := by unfold small; have := depth_le_size (etaX (mk 5 [] v []) s); simp; omega
    have e5 : (etaX (mk 5 [] v []) s).great ≤ 1048576 := by
      rw [great_le _ _ (by omega) 0]
      intro x hx hk
      exact ((obj_ok _ hxo 0 x hx).1 (by simp [hk])).2
    unfold etaE
    rw [if_neg (by simp [e1]), if_neg (by simp [e2]), if_neg (by simp), if_neg (by simp [sizes]; omega), if_neg (by simp [e4]), if_neg (by omega)]
  rw [etaT, if_pos hE]
  exact ⟨hxo, hxs, hxw⟩
end Go.LF.Tm
namespace Go.Proofs.YtnhmogmpbgadiaaDoor
open Go.RowKit Go.LF
/-- What a call of occurrence hands back: all of it in new blocks. -/
def MakesO (base deep : Nat) (T : Nat) (w : World) (e : Ending) (w' : World) : Prop :=
  ∃ (k i : Int) (n : List UInt8) (a : Option Addr) (len cap : Nat) (t : Tm), e = .returned (.agg #[.int .i64 k, .string (B n), .int .i64 i, .slice a len cap]) ∧
    Rep (fun b => b < base) w' t.dat [.int .i64 k, .string (B n), .int .i64 i, .slice a len cap] ∧ t.FitsO deep ∧ TapeOk w' T ∧ NamesOk T w' ∧ Upto (isT T) w w'
theorem Terms.past {base : Nat} {W W' : World} {v : Value} {ts : List Tm} {css : List (List Value)} {S : Nat → Prop} (h : Terms base W v ts css) (hU : Upto S W W') (hS : ∀ b, S b → b < base ∨ W.heap.size ≤ b) : Terms base W' v ts css := by
  obtain ⟨h1, h2, h3, h4⟩ := h
  refine ⟨h1, h2, ⟨h3.1, ?_⟩, fun i h h' => ?_⟩
  · rcases h3.2 with h5 | ⟨g, cap, cur, rfl, hb, hg, rest⟩
    · exact .inl h5
    · have hlt := (Array.getElem?_eq_some_iff.1 hg).1
      exact .inr ⟨g, cap, cur, rfl, hb, (hU.block g hlt (fun e => by have := hS g e; omega)).trans hg, rest⟩
  · exact Rep.weaken (fun b _ e => .inl e) _ _ (Rep.keep hU (fun b e => (hS b e).elim (fun x => .inl (.inl x)) .inr) _ _ (Rep.freshO (h4 i h h')))
theorem wrapO {O : Nat → Prop} {W : World} {b : Nat} {t : Tm} {x0 x1 x2 x3 t0 t1 t2 t3 : Value} {T : TypeId} (hB : Box4 W b x0 x1 x2 x3 T) (hR : Rep O W t.dat [t0, t1, t2, t3]) (hb : O b) (hO : ∀ x, O x → x < W.heap.size) (k : Int) (n : List UInt8) (i : Int) {W' : World}
    (hW : W' = ((((W.setCell ⟨b, 0, none⟩ (.int .i64 k)).setCell ⟨b, 1, none⟩ (.string (B n))).setCell ⟨b, 2, none⟩ (.int .i64 i)).setCell ⟨b, 3, none⟩ (.slice (some ⟨W.heap.size, 0, none⟩) 1 1)).alloc (.cells #[t0, t1, t2, t3] T)) :
    Box4 W' b (.int .i64 k) (.string (B n)) (.int .i64 i) (.slice (some ⟨W.heap.size, 0, none⟩) 1 1) T ∧ Rep O W' (Tm.mk k n i [t]).dat [.int .i64 k, .string (B n), .int .i64 i, .slice (some ⟨W.heap.size, 0, none⟩) 1 1] ∧ Upto (fun x => x = b) W W' := by
  subst hW
  have hs := hB.set (d0 := .int .i64 k) (d1 := .string (B n)) (d2 := .int .i64 i) (d3 := .slice (some ⟨W.heap.size, 0, none⟩) 1 1)
  have hU := hs.2.alloc (.cells #[t0, t1, t2, t3] T)
  exact ⟨hs.1.kept ((Upto.refl none' _).alloc _), rep_one (Rep.keep hU (fun x e => by subst e; exact hb) _ _ hR) (fun e => by have := hO _ e; omega) (Box4.at_new (by simp)) k n i, hU⟩
theorem wrap2 {O : Nat → Prop} {W : World} {b : Nat} {t u : Tm} {x0 x1 x2 x3 t0 t1 t2 t3 u0 u1 u2 u3 : Value} {T : TypeId} (hB : Box4 W b x0 x1 x2 x3 T) (hR : Rep O W t.dat [t0, t1, t2, t3]) (hR' : Rep O W u.dat [u0, u1, u2, u3]) (hb : O b) (hO : ∀ x, O x → x < W.heap.size) (k : Int) (n : List UInt8) (i : Int) {W' : World}
    (hW : W' = ((((W.setCell ⟨b, 0, none⟩ (.int .i64 k)).setCell ⟨b, 1, none⟩ (.string (B n))).setCell ⟨b, 2, none⟩ (.int .i64 i)).setCell ⟨b, 3, none⟩ (.slice (some ⟨W.heap.size, 0, none⟩) 2 2)).alloc (.cells #[t0, t1, t2, t3, u0, u1, u2, u3] T)) :
    Box4 W' b (.int .i64 k) (.string (B n)) (.int .i64 i) (.slice (some ⟨W.heap.size, 0, none⟩) 2 2) T ∧ Rep O W' (Tm.mk k n i [t, u]).dat [.int .i64 k, .string (B n), .int .i64 i, .slice (some ⟨W.heap.size, 0, none⟩) 2 2] ∧ Upto (fun x => x = b) W W' := by
  subst hW
  have hs := hB.set (d0 := .int .i64 k) (d1 := .string (B n)) (d2 := .int .i64 i) (d3 := .slice (some ⟨W.heap.size, 0, none⟩) 2 2)
  have hU := hs.2.alloc (.cells #[t0, t1, t2, t3, u0, u1, u2, u3] T)
  have hnew := heap_alloc_new ((((W.setCell ⟨b, 0, none⟩ (.int .i64 k)).setCell ⟨b, 1, none⟩ (.string (B n))).setCell ⟨b, 2, none⟩ (.int .i64 i)).setCell ⟨b, 3, none⟩ (.slice (some ⟨W.heap.size, 0, none⟩) 2 2)) (.cells #[t0, t1, t2, t3, u0, u1, u2, u3] T)
  simp only [World.size_setCell] at hnew
  exact ⟨hs.1.kept ((Upto.refl none' _).alloc _), rep_tm.2 ⟨_, 2, rfl, Nat.le_refl _, rep_two (Rep.keep hU (fun x e => by subst e; exact hb) _ _ hR) (Rep.keep hU (fun x e => by subst e; exact hb) _ _ hR') (fun e => by have := hO _ e; omega) hnew⟩, hU⟩
theorem madeO_fin {W w9 w : World} {T deep base len cap : Nat} {k i : Int} {n : List UInt8} {a : Option Addr} {t : Tm} {U : TypeId} {x0 x1 x2 x3 : Value} {hb : Nat} (hw : w.heap.size = hb) (hR : Rep (fun b => b < base) W t.dat [.int .i64 k, .string (B n), .int .i64 i, .slice a len cap]) (hbase : w.heap.size < base)
    (h9 : Box4 w9 hb x0 x1 x2 x3 U ∧ Upto (fun b => b = hb) W w9) (hfit : t.FitsO deep) (hT : TapeOk W T) (hN : NamesOk T W) (hU : Upto (isT T) w W) (hTl : T < w.heap.size) :
    MakesO w.heap.size deep T w (.returned (.agg #[.int .i64 k, .string (B n), .int .i64 i, .slice a len cap])) w9 := by
  subst hw
  exact ⟨k, i, n, a, len, cap, t, rfl, Rep.weaken (fun b _ e => by omega) _ _ (Rep.keep h9.2 (fun b e => by omega) _ _ hR), hfit, hT.far h9.2 (fun b e => by omega), hN.far h9.2 (fun b e => by omega), hU.trans h9.2 (fun b hb e => by omega)⟩
set_option maxRecDepth 100000 in
set_option maxHeartbeats 16000000 in
theorem occ_step (d : Nat) (hd : d ≤ 3) (T : Nat) (ih : ∀ d', d = d' + 1 → ∀ (vars : Nat), vars + d' ≤ 100 → ∀ (w : World), TapeOk w T → NamesOk T w → Calls Tryd.prog 23 #[.pointer (some ⟨T, 0, none⟩), .int .i64 d', .int .i64 vars] w (MakesO w.heap.size d' T w))
    (vars : Nat) (hv : vars + d ≤ 100) (w : World) (hT : TapeOk w T) (hN : NamesOk T w) : Calls Tryd.prog 23 #[.pointer (some ⟨T, 0, none⟩), .int .i64 d, .int .i64 vars] w (MakesO w.heap.size d T w) := by
  have NX := fun (n : Int) h0 h1 w hT => next_any n h0 h1 T w hT
  obtain ⟨D, hD⟩ : ∃ D : Int, D = (d : Int) := ⟨_, rfl⟩
  obtain ⟨V, hV⟩ : ∃ V : Int, V = (vars : Int) := ⟨_, rfl⟩
  rw [← hD, ← hV]
  have D0 : 0 ≤ D := by omega
  have D1 : D ≤ 13 := by omega
  have V0 : 0 ≤ V := by omega
  have V1 : V ≤ 100 := by omega
  have HD := hid hD
  have HV := hid hV
  clear hD hV
  have hTl := hT.lt
  obtain ⟨w1, hw1⟩ : ∃ w1, w1 = w.alloc (.cells #[.int .i64 0, .string (B []), .int .i64 0, .slice none 0 0] 29) := ⟨_, rfl⟩
  have hU1 : Upto none' w w1 := by rw [hw1]; exact (Upto.refl none' w).alloc _
  have hr1 : Box4 w1 w.heap.size (.int .i64 0) (.string (B [])) (.int .i64 0) (.slice none 0 0) 29 := by rw [hw1]; exact Box4.at_new rfl
  have hT1 := hT.on hU1
  have hN1 := hN.on hU1
  have hUt1 : Upto (isT T) w w1 := hU1.mono (fun _ _ x => x.elim)
  have HW1 := hid hw1
  have hresne : w.heap.size ≠ T := by omega
  obtain ⟨R, hR⟩ : ∃ R, R = w.heap.size := ⟨_, rfl⟩
  rw [← hR] at hr1 hresne
  have hTR : T < R := by omega
  have HR := hid hR
  clear hw1 hT hN hU1 hR
  have IH : ∀ (x y : Int) (d' vr : Nat) (W : World), d = d' + 1 → x = d' → y = vr → vr + d' ≤ 100 → TapeOk W T → NamesOk T W → Calls Tryd.prog 23 #[.pointer (some ⟨T, 0, none⟩), .int .i64 x, .int .i64 y] W (MakesO W.heap.size d' T W) := by
    intro x y d' vr W h0 h1 h2 h3 h4 h5
    rw [h1, h2]
    exact ih d' h0 vr h3 W h4 h5
  have HIH := hid IH
  clear IH ih
  have SI : ∀ W, TapeOk W T → Calls Tryd.prog 45 #[.pointer (some ⟨T, 0, none⟩), .int .i64 1] W (MakesS W.heap.size 1 T W) := fun W h => simple_any 1 (by omega) T W h
  have TM : ∀ (y : Int) (W : World), y = ((vars + 1 : Nat) : Int) → TapeOk W T → NamesOk T W → Calls Tryd.prog 44 #[.pointer (some ⟨T, 0, none⟩), .int .i64 1, .int .i64 y, .int .i64 1] W (Makes W.heap.size 1 (vars + 1) 1 T W) := by
    intro y W hy h1 h2
    rw [hy]
    exact term_any 1 (by omega) (vars + 1) 1 (by omega) (by omega) T W h1 h2
  go_enter Tryd.func23, Tryd.ntmps23
  go_upto_region 1 with fail
  rw [← show B [] = { data := #[] } from rfl, ← HW1.out, ← HR.out]
  go_cut [16] from 10 to 16 (fun v16 wc => ∃ b : Bool, v16 = .bool b ∧ (b = true → 0 < D) ∧ TapeOk wc T ∧ NamesOk T wc ∧ Upto (isT T) w1 wc)
  case first =>
    by_cases hD0 : 0 < D
    · go_wp2_with fail
      refine (NX _ (by omega) (by omega) _ hT1).mono ?_
      rintro e w2 ⟨⟨c, hc, rfl⟩, hT2, hU2⟩
      go_wp2_with fail
      go_meet
      case rel => exact ⟨_, rfl, fun _ => hD0, hT2, hN1.keep hU2, hU2⟩
    · go_wp2_with fail
      go_meet
      case rel => exact ⟨false, rfl, (fun e => by cases e), hT1, hN1, Upto.refl _ _⟩
  case rest =>
    obtain ⟨b, rfl, hb, hT2, hN2, hU2⟩ := hcut
    obtain ⟨w2, rfl⟩ : ∃ w2, w2 = wc := ⟨_, rfl⟩
    have hr2 := hr1.keep hU2 hresne
    have hw2 := hUt1.trans hU2 (fun _ _ x => x)
    have hz2 := hr2.lt
    clear hT1 hN1 hU2 hr1 hUt1
    cases b
    case true =>
      have hD0 := hb rfl
      clear hb
      obtain ⟨d', hd'⟩ : ∃ d', d = d' + 1 := ⟨d - 1, by have := HD.out; omega⟩
      have HX := hid hd'
      clear hd'
      go_wp2_with fail
      refine (HIH.out _ _ d' (vars + 1) _ HX.out (by have := HX.out; have := HD.out; omega) (by have := HV.out; omega) (by have := HX.out; omega) hT2 hN2).mono ?_
      rintro e w5 ⟨k1, i1, n1, a1, len1, cap1, t, rfl, hR5, hF5, hT5, hN5, hU5⟩
      have hr5 := hr2.keep hU5 hresne
      obtain ⟨b0, b1, b2, b3⟩ := hr5.cells
      obtain ⟨f0, f1, f2, f3⟩ := hr5.frozens
      have q5 := hr5.lt
      have hR5' : Rep (fun b => b ≤ R) w5 t.dat [.int .i64 k1, .string (B n1), .int .i64 i1, .slice a1 len1 cap1] := Rep.weaken (fun b _ e => by omega) _ _ hR5
      have hrl := wrapO (O := fun b => b ≤ R) hr5 hR5' (Nat.le_refl _) (fun x e => by omega) 3 [] 0 rfl
      obtain ⟨e0, e1, e2, e3⟩ := hrl.1.cells
      have HRL := hid hrl
      have HE := hid (And.intro e0 (And.intro e1 (And.intro e2 e3)))
      clear hrl e0 e1 e2 e3
      go_wp2_with fail
      obtain ⟨e0, e1, e2, e3⟩ := HE.out
      refine bodyPost_ret (v := .agg #[.int .i64 3, .string (B []), .int .i64 0, .slice (some ⟨w5.heap.size, 0, none⟩) 1 1]) ?_ rfl ?_
      · simp [results, Tryd.f23, go_sem, e0, e1, e2, e3]
      · have hU6 := HRL.out.2.2
        have hF : Tm.FitsO (.mk 3 [] 0 [t]) d := Tm.fitsO_node (by simp) (fun x hx => by obtain rfl : x = t := (by simpa using hx); have := hF5.arg; rwa [← HX.out] at this) (by simp) (.inl ⟨rfl, rfl, rfl, rfl⟩)
        exact ⟨3, 0, [], _, 1, 1, _, rfl, Rep.weaken (fun b _ e => by have := HR.out; omega) _ _ HRL.out.2.1, hF, hT5.far hU6 (fun b e => by omega), hN5.far hU6 (fun b e => by omega), (hw2.trans hU5 (fun _ _ x => x)).trans hU6 (fun b hb e => by have := HR.out; omega)⟩
    case false =>
      clear hb
      go_upto_region 3 with fail
      go_cut [31] from 25 to 31 (fun v31 wc => ∃ b : Bool, v31 = .bool b ∧ (b = true → 0 < D) ∧ TapeOk wc T ∧ NamesOk T wc ∧ Upto (isT T) w2 wc)
      case first =>
        by_cases hD0 : 0 < D
        · go_wp2_with fail
          refine (NX _ (by omega) (by omega) _ hT2).mono ?_
          rintro e w3 ⟨⟨c, hc, rfl⟩, hT3, hU3⟩
          go_wp2_with fail
          go_meet
          case rel => exact ⟨_, rfl, fun _ => hD0, hT3, hN2.keep hU3, hU3⟩
        · go_wp2_with fail
          go_meet
          case rel => exact ⟨false, rfl, (fun e => by cases e), hT2, hN2, Upto.refl _ _⟩
      case rest =>
        obtain ⟨b, rfl, hb, hT3, hN3, hU3⟩ := hcut
        obtain ⟨w3, rfl⟩ : ∃ w3, w3 = wc := ⟨_, rfl⟩
        have hr3 := hr2.keep hU3 hresne
        have hw3 := hw2.trans hU3 (fun _ _ x => x)
        have hz3 := hr3.lt
        clear hT2 hN2 hU3 hr2 hw2 hz2
        cases b
        case true =>
          have hD0 := hb rfl
          clear hb
          obtain ⟨d', hd'⟩ : ∃ d', d = d' + 1 := ⟨d - 1, by have := HD.out; omega⟩
          have HX := hid hd'
          clear hd'
          go_wp2_with fail
          refine (HIH.out _ _ d' vars _ HX.out (by have := HX.out; have := HD.out; omega) (by have := HV.out; omega) (by have := HX.out; omega) hT3 hN3).mono ?_
          rintro e w5 ⟨k1, i1, n1, a1, len1, cap1, t, rfl, hR5, hF5, hT5, hN5, hU5⟩
          go_wp2_with fail
          refine (HIH.out _ _ d' vars _ HX.out (by have := HX.out; have := HD.out; omega) (by have := HV.out; omega) (by have := HX.out; omega) hT5 hN5).mono ?_
          rintro e w6 ⟨k2, i2, n2, a2, len2, cap2, u, rfl, hR6, hF6, hT6, hN6, hU6⟩
          have hr6 := (hr3.keep hU5 hresne).keep hU6 hresne
          obtain ⟨b0, b1, b2, b3⟩ := hr6.cells
          obtain ⟨f0, f1, f2, f3⟩ := hr6.frozens
          have q6 := hr6.lt
          have hz6 := hU5.size
          have hR5' : Rep (fun b => b ≤ R) w6 t.dat [.int .i64 k1, .string (B n1), .int .i64 i1, .slice a1 len1 cap1] := Rep.keep hU6 (fun b e => by simp only [isT] at e; omega) _ _ (Rep.weaken (fun b _ e => by omega) _ _ hR5)
          have hR6' : Rep (fun b => b ≤ R) w6 u.dat [.int .i64 k2, .string (B n2), .int .i64 i2, .slice a2 len2 cap2] := Rep.weaken (fun b _ e => by omega) _ _ hR6
          have hrl := wrap2 (O := fun b => b ≤ R) hr6 hR5' hR6' (Nat.le_refl _) (fun x e => by omega) 4 [99] 0 rfl
          obtain ⟨e0, e1, e2, e3⟩ := hrl.1.cells
          have HRL := hid hrl
          have HE := hid (And.intro e0 (And.intro e1 (And.intro e2 e3)))
          clear hrl e0 e1 e2 e3
          go_wp2_with fail
          obtain ⟨e0, e1, e2, e3⟩ := HE.out
          refine bodyPost_ret (v := .agg #[.int .i64 4, .string (B [99]), .int .i64 0, .slice (some ⟨w6.heap.size, 0, none⟩) 2 2]) ?_ rfl ?_
          · simp [results, Tryd.f23, go_sem, e0, e1, e2, e3]
          · have hU7 := HRL.out.2.2
            have hF : Tm.FitsO (.mk 4 [99] 0 [t, u]) d := Tm.fitsO_node (by simp) (fun x hx => by
              have h1 := hF5.arg
              have h2 := hF6.arg
              rw [← HX.out] at h1 h2
              rcases List.mem_cons.1 hx with rfl | hx
              · exact h1
              · obtain rfl : x = u := (by simpa using hx)
                exact h2) (by simp) (.inr (.inl ⟨rfl, rfl, rfl⟩))
            exact ⟨4, 0, [99], _, 2, 2, _, rfl, Rep.weaken (fun b _ e => by have := HR.out; omega) _ _ HRL.out.2.1, hF, hT6.far hU7 (fun b e => by omega), hN6.far hU7 (fun b e => by omega), ((hw3.trans hU5 (fun _ _ x => x)).trans hU6 (fun _ _ x => x)).trans hU7 (fun b hb e => by have := HR.out; omega)⟩
        case false =>
          clear hb
          go_wp2_with fail
          refine (NX _ (by omega) (by omega) _ hT3).mono ?_
          rintro e w4 ⟨⟨vi, hvi, rfl⟩, hT4, hU4⟩
          have hN4 := hN3.keep hU4
          have hr4 := hr3.keep hU4 hresne
          have hw4 := hw3.trans hU4 (fun _ _ x => x)
          have hz4 := hr4.lt
          obtain ⟨w5, hw5⟩ : ∃ w5, w5 = w4.alloc (.cells #[.int .i64 5, .string (B []), .int .i64 vi, .slice none 0 0] 29) := ⟨_, rfl⟩
          have hUal : Upto none' w4 w5 := by rw [hw5]; exact (Upto.refl none' w4).alloc _
          obtain ⟨Ob, hOb⟩ : ∃ Ob, Ob = w4.heap.size := ⟨_, rfl⟩
          have hout5 : Box4 w5 Ob (.int .i64 5) (.string (B [])) (.int .i64 vi) (.slice none 0 0) 29 := by rw [hw5]; exact Box4.at_new hOb.symm
          have hr5 := hr4.kept hUal
          have hT5 := hT4.on hUal
          have hN5 := hN4.on hUal
          have hw5U := hw4.trans hUal (fun _ _ x => x.elim)
          have hORb : R < Ob := by omega
          have HOB := hid hOb
          have HW5 := hid hw5
          clear hT3 hN3 hr3 hw3 hz3 hU4 hT4 hN4 hr4 hw4 hOb hw5
          go_wp2_with fail
          rw [← show B [] = { data := #[] } from rfl, ← HOB.out, ← HW5.out]
          refine (NX _ (by omega) (by omega) _ hT5).mono ?_
          rintro e w6 ⟨⟨nn, hnn, rfl⟩, hT6, hU6⟩
          have hN6 := hN5.keep hU6
          have hoT : Ob ≠ T := by omega
          have hr6 := hr5.keep hU6 hresne
          have hout6 := hout5.keep hU6 hoT
          have hw6U := hw5U.trans hU6 (fun _ _ x => x)
          have hnn3 : nn ≤ 3 := by omega
          have hz6 := hout6.lt
          have hvi6 : (vi : Int) ≤ 1000 := by omega
          clear hUal hT5 hN5 hr5 hout5 hU6 hw5U
          go_wp2_with fail
          obtain ⟨base, hbase⟩ : ∃ base, base = w6.heap.size := ⟨_, rfl⟩
          rw [← hbase] at hz6
          have HBS := hid hbase
          go_loopw [8] (fun v8 wr => ∃ (m : Nat) (v : Value) (ts : List Tm) (css : List (List Value)), v8 = .int .i64 m ∧ m + ts.length ≤ 3 ∧ Terms base wr v ts css ∧ (∀ t ∈ ts, Tm.FitsX t d) ∧
              Box4 wr Ob (.int .i64 5) (.string (B [])) (.int .i64 vi) v 29 ∧ Box4 wr R (.int .i64 0) (.string (B [])) (.int .i64 0) (.slice none 0 0) 29 ∧ TapeOk wr T ∧ NamesOk T wr ∧ Upto (isT T) w wr ∧ base ≤ wr.heap.size)
            (fun v8 _ => (intOf v8).toNat)
          case atStart => exact ⟨nn, _, [], [], rfl, by simpa using hnn3, Terms.nil _ _, by simp, hout6, hr6, hT6, hN6, hw6U, Nat.le_of_eq hbase⟩
          case round =>
            clear hout6 hr6 hT6 hN6 hw6U hbase
            obtain ⟨m, v, ts, css, rfl, hmt, hts, hfs, hout, hres, hTr, hNr, hwr, hbr⟩ := hrel
            by_cases hm0 : 0 < m
            · have hm1 : (0 : Int) < (m : Int) := by omega
              go_wp2_with fail
              refine (NX _ (by omega) (by omega) _ hTr).mono ?_
              rintro e w7 ⟨⟨xi, hxi, rfl⟩, hT7, hU7⟩
              have hN7 := hNr.keep hU7
              have hr7 := hres.keep hU7 hresne
              have hout7 := hout.keep hU7 hoT
              have hts7 := hts.keep hU7 (fun b e => by simp only [isT] at e; omega)
              have hw7 := hwr.trans hU7 (fun _ _ x => x)
              have hb7 : base ≤ w7.heap.size := Nat.le_trans hbr hU7.size
              obtain ⟨w8, hw8⟩ : ∃ w8, w8 = w7.alloc (.cells #[.int .i64 5, .string (B []), .int .i64 xi, .slice none 0 0] 29) := ⟨_, rfl⟩
              have hUal : Upto none' w7 w8 := by rw [hw8]; exact (Upto.refl none' w7).alloc _
              obtain ⟨XB, hXB⟩ : ∃ XB, XB = w7.heap.size := ⟨_, rfl⟩
              have hx8 : Box4 w8 XB (.int .i64 5) (.string (B [])) (.int .i64 xi) (.slice none 0 0) 29 := by rw [hw8]; exact Box4.at_new hXB.symm
              have hT8 := hT7.on hUal
              have hN8 := hN7.on hUal
              have hr8 := hr7.kept hUal
              have hout8 := hout7.kept hUal
              have hts8 := hts7.on hUal
              have hw8U := hw7.trans hUal (fun _ _ x => x.elim)
              rw [← hXB] at hb7
              have hxi6 : (xi : Int) ≤ 1000 := by omega
              have HXB := hid hXB
              have HW8 := hid hw8
              have hown7 : ∀ b, v.ownBlock = some b → b < XB := fun b e => by rw [hXB]; exact (hts7.2.2.1.lt b e).2
              clear hTr hNr hres hout hts hwr hT7 hN7 hr7 hout7 hw7 hU7 hXB hw8 hbr
              go_wp2_with fail
              rw [← show B [] = { data := #[] } from rfl, ← HXB.out, ← HW8.out]
              refine (NX _ (by omega) (by omega) _ hT8).mono ?_
              rintro e w9 ⟨⟨c3, hc3, rfl⟩, hT9, hU9⟩
              have hxT : XB ≠ T := by omega
              have hx9 := hx8.keep hU9 hxT
              have hN9 := hN8.keep hU9
              have hr9 := hr8.keep hU9 hresne
              have hout9 := hout8.keep hU9 hoT
              have hw9U := hw8U.trans hU9 (fun _ _ x => x)
              have hz9 := hx9.lt
              have hU79 : Upto (isT T) w7 w9 := (hUal.mono (fun _ _ x => x.elim)).trans hU9 (fun _ _ x => x)
              clear hx8 hT8 hN8 hr8 hout8 hts8 hw8U hU9 hUal
              go_upto_block 2 with fail
              go_cut [] from 62 to 85 (fun wc => ∃ (k i : Int) (n : List UInt8) (a : Option Addr) (len cap : Nat) (t : Tm), Box4 wc XB (.int .i64 k) (.string (B n)) (.int .i64 i) (.slice a len cap) 29 ∧ Rep (fun b => b ≤ XB) wc t.dat [.int .i64 k, .string (B n), .int .i64 i, .slice a len cap] ∧
                t.FitsX d ∧ TapeOk wc T ∧ NamesOk T wc ∧ Upto (fun b => b = T ∨ b = XB) w9 wc)
              case first =>
                obtain ⟨b0, b1, b2, b3⟩ := hx9.cells
                obtain ⟨f0, f1, f2, f3⟩ := hx9.frozens
                have hleaf : Tm.FitsX (.mk 5 [] xi []) d := Tm.fitsX_small (by rw [Tm.isObj]; simp [Tm.allObj]; omega) (by simp [Tm.sizes]) (by simp [Tm.wts])
                have hstay : ∃ (k i : Int) (n : List UInt8) (a : Option Addr) (len cap : Nat) (t : Tm), Box4 w9 XB (.int .i64 k) (.string (B n)) (.int .i64 i) (.slice a len cap) 29 ∧ Rep (fun b => b ≤ XB) w9 t.dat [.int .i64 k, .string (B n), .int .i64 i, .slice a len cap] ∧
                    t.FitsX d ∧ TapeOk w9 T ∧ NamesOk T w9 ∧ Upto (fun b => b = T ∨ b = XB) w9 w9 := ⟨5, xi, [], none, 0, 0, _, hx9, rep_leaf 5 [] xi, hleaf, hT9, hN9, Upto.refl _ _⟩
                have HST := hid hstay
                have HLF := hid hleaf
                clear hstay hleaf
                have hways : c3 = 0 ∨ c3 = 1 ∨ (c3 = 2 ∧ 0 < D) ∨ (c3 = 2 ∧ ¬ 0 < D) ∨ ((c3 : Int) == 0) = false ∧ ((c3 : Int) == 1) = false ∧ ((c3 : Int) == 2) = false := by
                  have : c3 = 0 ∨ c3 = 1 ∨ c3 = 2 ∨ 3 ≤ c3 := by omega
                  rcases this with h | h | h | h
                  · exact .inl h
                  · exact .inr (.inl h)
                  · by_cases hD0 : 0 < D
                    · exact .inr (.inr (.inl ⟨h, hD0⟩))
                    · exact .inr (.inr (.inr (.inl ⟨h, hD0⟩)))
                  · exact .inr (.inr (.inr (.inr ⟨by simp; omega, by simp; omega, by simp; omega⟩)))
                rcases hways with rfl | rfl | ⟨rfl, hD0⟩ | ⟨rfl, hD0⟩ | ⟨q0, q1, q2⟩
                · have hd : Upto none' w9 w9.drew := (Upto.refl none' w9).drew
                  have hdT : Upto (isT T) w9 w9.drew := (Upto.refl (isT T) w9).drew
                  go_wp2_with fail
                  go_region_law (first
                    | ((rw [if_pos (by rfl)]); go_simp; (go_at_call 42); (with_reducible refine (eta_any (.mk 5 [] xi []) (by simp [Tm.wts]) sx (by have := hF10.wt; simp at this; omega) _ _ _ (rep_leaf 5 [] xi) (Rep.weaken (fun _ _ x => x.elim) _ _ hR10)).mono ?_); rintro e w11 ⟨k1, i1, n1, a1, len1, cap1, rfl, hR11, hU11⟩; have hx11 := hx10.kept hU11; obtain ⟨z0, z1, z2, z3⟩ := hx11.frozens; obtain ⟨y0, y1, y2, y3⟩ := hx11.cells; have hxl := hx11.lt)
                    | ((rw [if_pos (by rfl)]); go_simp; (go_at_call 45); (with_reducible refine (SI _ (hT9.on hd)).mono ?_); rintro e w10 ⟨f1', a1', len1', cap1', sx, rfl, hR10, hF10, hT10, hU10⟩; have hU10' : Upto (isT T) w9 w10 := hdT.trans hU10 (fun _ _ x => x); have hx10 := hx9.keep hU10' hxT; obtain ⟨u0, u1, u2, u3⟩ := hx10.cells))
                  all_goals
                    have hset := hx11.set (d0 := .int .i64 k1) (d1 := .string (B n1)) (d2 := .int .i64 i1) (d3 := .slice a1 len1 cap1)
                    have hes := Tm.eta_small (xi : Int) (by omega) hxi6 sx hF10
                    have hx10l := hx10.lt
                    have fin : ∃ (k i : Int) (n : List UInt8) (a : Option Addr) (len cap : Nat) (t : Tm), Box4 _ XB (.int .i64 k) (.string (B n)) (.int .i64 i) (.slice a len cap) 29 ∧ Rep (fun b => b ≤ XB) _ t.dat [.int .i64 k, .string (B n), .int .i64 i, .slice a len cap] ∧
                        t.FitsX d ∧ TapeOk _ T ∧ NamesOk T _ ∧ Upto (fun b => b = T ∨ b = XB) w9 _ :=
                      ⟨k1, i1, n1, a1, len1, cap1, _, hset.1, Rep.keep hset.2 (fun b e => Nat.le_of_eq e) _ _ (Rep.weaken (fun b _ e => by omega) _ _ hR11), Tm.fitsX_small hes.1 hes.2.1 hes.2.2, (hT10.on hU11).far hset.2 (fun b e => by omega), ((hN9.keep hU10').on hU11).far hset.2 (fun b e => by omega), ((hU10'.mono (fun _ _ e => .inl e)).trans hU11 (fun _ _ x => x.elim)).trans hset.2 (fun _ _ e => .inr e)⟩
                    have HFI := hid fin
                    clear fin
                    go_wp2_with fail
                    go_meet
                    case rel => exact HFI.out
                · go_wp2_with fail
                  (with_reducible refine (TM _ _ (by have := HV.out; omega) hT9 hN9).mono ?_)
                  rintro e w10 ⟨k1, i1, n1, a1, len1, cap1, t, rfl, hR10, hF10, hT10, hN10, hU10⟩
                  have hx10 := hx9.keep hU10 hxT
                  obtain ⟨z0, z1, z2, z3⟩ := hx10.frozens
                  obtain ⟨y0, y1, y2, y3⟩ := hx10.cells
                  have hset := hx10.set (d0 := .int .i64 k1) (d1 := .string (B n1)) (d2 := .int .i64 i1) (d3 := .slice a1 len1 cap1)
                  have hfx : Tm.FitsX t d := Tm.fitsX_small hF10.obj (by have := hF10.size; simp at this; omega) (by have := hF10.wt; simp at this; omega)
                  have fin : ∃ (k i : Int) (n : List UInt8) (a : Option Addr) (len cap : Nat) (t : Tm), Box4 _ XB (.int .i64 k) (.string (B n)) (.int .i64 i) (.slice a len cap) 29 ∧ Rep (fun b => b ≤ XB) _ t.dat [.int .i64 k, .string (B n), .int .i64 i, .slice a len cap] ∧
                      t.FitsX d ∧ TapeOk _ T ∧ NamesOk T _ ∧ Upto (fun b => b = T ∨ b = XB) w9 _ :=
                    ⟨k1, i1, n1, a1, len1, cap1, _, hset.1, Rep.keep hset.2 (fun b e => Nat.le_of_eq e) _ _ (Rep.weaken (fun b _ e => by omega) _ _ hR10), hfx, hT10.far hset.2 (fun b e => by omega), hN10.far hset.2 (fun b e => by omega), (hU10.mono (fun _ _ e => .inl e)).trans hset.2 (fun _ _ e => .inr e)⟩
                  have HFI := hid fin
                  clear fin hset
                  go_wp2_with fail
                  go_meet
                  case rel => exact HFI.out
                · obtain ⟨d', hd'⟩ : ∃ d', d = d' + 1 := ⟨d - 1, by have := HD.out; omega⟩
                  have HX := hid hd'
                  clear hd'
                  go_wp2_with fail
                  (with_reducible refine (HIH.out _ _ d' vars _ HX.out (by have := HX.out; have := HD.out; omega) (by have := HV.out; omega) (by have := HX.out; omega) hT9 hN9).mono ?_)
                  rintro e w10 ⟨k1, i1, n1, a1, len1, cap1, t, rfl, hR10, hF10, hT10, hN10, hU10⟩
                  have hx10 := hx9.keep hU10 hxT
                  obtain ⟨z0, z1, z2, z3⟩ := hx10.frozens
                  obtain ⟨y0, y1, y2, y3⟩ := hx10.cells
                  have hset := hx10.set (d0 := .int .i64 k1) (d1 := .string (B n1)) (d2 := .int .i64 i1) (d3 := .slice a1 len1 cap1)
                  have hfx : Tm.FitsX t d := by have := hF10.arg; rwa [← HX.out] at this
                  have fin : ∃ (k i : Int) (n : List UInt8) (a : Option Addr) (len cap : Nat) (t : Tm), Box4 _ XB (.int .i64 k) (.string (B n)) (.int .i64 i) (.slice a len cap) 29 ∧ Rep (fun b => b ≤ XB) _ t.dat [.int .i64 k, .string (B n), .int .i64 i, .slice a len cap] ∧
                      t.FitsX d ∧ TapeOk _ T ∧ NamesOk T _ ∧ Upto (fun b => b = T ∨ b = XB) w9 _ :=
                    ⟨k1, i1, n1, a1, len1, cap1, _, hset.1, Rep.keep hset.2 (fun b e => Nat.le_of_eq e) _ _ (Rep.weaken (fun b _ e => by omega) _ _ hR10), hfx, hT10.far hset.2 (fun b e => by omega), hN10.far hset.2 (fun b e => by omega), (hU10.mono (fun _ _ e => .inl e)).trans hset.2 (fun _ _ e => .inr e)⟩
                  have HFI := hid fin
                  clear fin hset
                  go_wp2_with fail
                  go_meet
                  case rel => exact HFI.out
                · go_wp2_with fail
                  go_meet
                  case rel => exact HST.out
                · go_wp2_with fail
                  go_meet
                  case rel => exact HST.out
              case rest =>
                obtain ⟨k1, i1, n1, a1, len1, cap1, t, hxc, hRc, hFc, hTc, hNc, hUc⟩ := hcut
                obtain ⟨w6', rfl⟩ : ∃ w6', w6' = wc := ⟨_, rfl⟩
                have houtc := hout9.keep hUc (fun e => e.elim hoT (fun e => by omega))
                have hrc := hr9.keep hUc (fun e => e.elim hresne (fun e => by omega))
                have hU7c : Upto (fun b => b = T ∨ b = XB) w7 w6' := (hU79.mono (fun _ _ e => .inl e)).trans hUc (fun _ _ x => x)
                have htsc := hts7.past hU7c (fun b e => e.elim (fun e => .inl (by omega)) (fun e => .inr (by have := HXB.out; omega)))
                have hzc := hxc.lt
                have hbw : base ≤ w6'.heap.size := by omega
                have hwcU : Upto (isT T) w w6' := hw9U.trans hUc (fun b hb e => e.elim (fun e => e) (fun e => by have := HR.out; omega))
                obtain ⟨i0, hi, hi0, hi1, hi2⟩ := info_parts info_term
                obtain ⟨b0, b1, b2, b3⟩ := houtc.cells
                obtain ⟨f0, f1, f2, f3⟩ := houtc.frozens
                obtain ⟨x0, x1, x2, x3⟩ := hxc.cells
                have hal : Upto none' w6' (w6'.alloc (.cells #[.int .i64 k1, .string (B n1), .int .i64 i1, .slice a1 len1 cap1] 29)) := (Upto.refl none' w6').alloc _
                have htsa := htsc.on hal
                have hoc := (houtc.kept hal).cells.2.2.2
                have hOz := houtc.lt
                clear hts7 hU79 hU7c hUc hx9 hN9 hr9 hout9 hw9U hT9
                go_wp2_with (at_builtin; refine wpList_append_lies _ (by rfl) _ _ 27 (by rfl) base 29 i0 (.agg #[.int .i64 0, .string (B []), .int .i64 0, .slice none 0 0]) 4 56 (by kernel_rfl) hi hi0 hi1 hi2 rfl (by decide) v ts.length css.flatten (by rfl) htsa.2.2.1 ⟨w6'.heap.size, 0, none⟩ 1 1 [.int .i64 k1, .string (B n1), .int .i64 i1, .slice a1 len1 cap1] (by rfl) rfl (World.news_of_block (heap_alloc_new w6' _)) (by simp [Value.oneCell']) (by omega) (by simp only [maxLen]; omega) (by omega) (by simp; omega) _ rfl ?_; intro g cap' wz hown hgrow hat hlt7; have houtz := (houtc.kept hal).row hgrow htsa (by omega); have cz := houtz.cells.2.2.2; have fz := houtz.frozen 3)
                have hRa : Rep (fun b => b < base ∨ v.ownBlock = some b) (w6'.alloc (.cells #[.int .i64 k1, .string (B n1), .int .i64 i1, .slice a1 len1 cap1] 29)) t.dat [.int .i64 k1, .string (B n1), .int .i64 i1, .slice a1 len1 cap1] := by
                  refine (Rep.weaken (fun b _ e => ?_) _ _ hRc).new _
                  rcases e with e | e
                  · omega
                  · have := hown7 b e; omega
                have hTz := htsa.appended rfl hRa hown hgrow hat (Nat.le_refl _)
                have hset : Upto (fun b => b = Ob) wz (wz.setCell ⟨Ob, 3, none⟩ (.slice (some ⟨g, 0, none⟩) (ts.length + 1) cap')) := Upto.set (Upto.refl _ _) 3 _
                have hrow := Upto.ofRow (RowUp.grown htsa.2.2.1 hgrow)
                have hT' := ((hTc.on hal).far hrow (fun b e => by omega)).far hset (fun b e => by omega)
                have hN' := ((hNc.on hal).far hrow (fun b e => by omega)).far hset (fun b e => by omega)
                have hres' : Box4 (wz.setCell ⟨Ob, 3, none⟩ (.slice (some ⟨g, 0, none⟩) (ts.length + 1) cap')) R _ _ _ _ _ := ((hrc.kept hal).keep hrow (by omega)).keep hset (by omega)
                have hwU : Upto (isT T) w (wz.setCell ⟨Ob, 3, none⟩ (.slice (some ⟨g, 0, none⟩) (ts.length + 1) cap')) := ((hwcU.trans hal (fun _ _ x => x.elim)).trans hrow (fun b hb e => by have := HR.out; omega)).trans hset (fun b hb e => by have := HR.out; omega)
                have hszz : base ≤ (wz.setCell ⟨Ob, 3, none⟩ (.slice (some ⟨g, 0, none⟩) (ts.length + 1) cap')).heap.size := by have := hset.size; have := hrow.size; have := hal.size; omega
                have hfs' : ∀ t' ∈ ts ++ [t], Tm.FitsX t' d := by
                  intro t' ht'
                  rcases List.mem_append.1 ht' with h | h
                  · exact hfs t' h
                  · obtain rfl : t' = t := by simpa using h
                    exact hFc
                have hTs := hTz.keep hset (fun b e => by omega)
                go_roundw
                case rel => exact ⟨m - 1, _, ts ++ [t], _, int_eq (by omega), by simp; omega, hTs, hfs', houtz.set3 _, hres', hT', hN', hwU, hszz⟩
                case measure => simp [intOf]; omega
            · obtain rfl : m = 0 := by omega
              obtain ⟨b0, b1, b2, b3⟩ := hout.cells
              obtain ⟨r0, r1, r2, r3⟩ := hres.cells
              obtain ⟨rf0, rf1, rf2, rf3⟩ := hres.frozens
              have qr := hres.lt
              obtain ⟨a, cap, rfl, hcap, hE⟩ := hts.rep
              have hfit : Tm.FitsO (.mk 5 [] vi ts) d := Tm.fitsO_node (by omega) hfs (by simp) (.inr (.inr ⟨rfl, rfl, by omega, by omega⟩))
              obtain ⟨len, hlen⟩ : ∃ len, len = ts.length := ⟨_, rfl⟩
              rw [← hlen] at hout hcap b3
              have HL := hid hlen
              have hset9 := hres.set (d0 := .int .i64 5) (d1 := .string (B [])) (d2 := .int .i64 vi) (d3 := .slice a len cap)
              obtain ⟨e0, e1, e2, e3⟩ := hset9.1.cells
              have HE := hid (And.intro e0 (And.intro e1 (And.intro e2 e3)))
              have HF9 := hid hset9
              clear hlen hfs hts e0 e1 e2 e3 hset9
              go_wp2_with fail
              obtain ⟨e0, e1, e2, e3⟩ := HE.out
              refine bodyPost_ret (v := .agg #[.int .i64 5, .string (B []), .int .i64 vi, .slice a len cap]) ?_ rfl ?_
              · simp [results, Tryd.f23, go_sem, e0, e1, e2, e3]
              · have hRf : Rep (fun b => b < base) wr (Tm.mk 5 [] vi ts).dat [.int .i64 5, .string (B []), .int .i64 vi, .slice a len cap] := rep_tm.2 ⟨a, cap, by rw [HL.out], by have := HL.out; omega, hE⟩
                exact madeO_fin HR.out.symm hRf (by have := HR.out; omega) HF9.out hfit hTr hNr hwr (by have := HR.out; omega)
theorem occ_any (d : Nat) : d ≤ 3 → ∀ (T : Nat) (vars : Nat), vars + d ≤ 100 → ∀ (w : World), TapeOk w T → NamesOk T w → Calls Tryd.prog 23 #[.pointer (some ⟨T, 0, none⟩), .int .i64 d, .int .i64 vars] w (MakesO w.heap.size d T w) := by
  induction d with
  | zero => intro h T vars hv w hT hN; exact occ_step 0 h T (fun d' e => absurd e (by omega)) vars hv w hT hN
  | succ d ih => intro h T vars hv w hT hN; exact occ_step (d + 1) h T (fun d' e vars2 hv2 w2 hT2 hN2 => by obtain rfl : d' = d := (by omega); exact ih (by omega) T vars2 hv2 w2 hT2 hN2) vars hv w hT hN
end Go.Proofs.YtnhmogmpbgadiaaDoor
