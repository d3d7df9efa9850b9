/- The reference's Long. -/
import Derived.Test.YtdomloghcpfdjaaGreatDoorCA
import Derived.Test.YtdomloghcpfdjaaGreatDoorCF
import Derived.Test.YtdomloghcpfdjaaGreatDoorCH
import Derived.Test.YtdomloghcpfdjaaGreatDoorCK
import Derived.Test.YtdomloghcpfdjaaGreatDoorCL
namespace Go.LF.Tm
theorem mv_var (m : Nat) (i : Int) (h0 : 0 ≤ i) : mv (shF m 0) 0 (mk 5 [] i []) = mk 5 [] (i + m) [] := by
  have e : mvi (shF m 0) 0 5 i = i + m := by
    unfold mvi
    rw [if_pos ⟨rfl, h0⟩]
    unfold shF
    simp only
    rw [if_neg (by omega)]
    omega
  rw [mv_mk, mvA, e]
end Go.LF.Tm
namespace Go.Proofs.YtdomloghcpfdjaaGreatDoor
open Go.RowKit Go.LF
/-- What a cell holds. -/
def cellAt (b j : Nat) (w : World) : Value := (w.cell? ⟨b, j, none⟩).getD undef
theorem cellAt_eq {b j : Nat} {w : World} {v : Value} (h : w.cell? ⟨b, j, none⟩ = some v) : cellAt b j w = v := by unfold cellAt; rw [h]; rfl
theorem cellAt_some {b j : Nat} {w : World} {v : Value} (h : w.cell? ⟨b, j, none⟩ = some v) : w.cell? ⟨b, j, none⟩ = some (cellAt b j w) := by rw [cellAt_eq h]; exact h
/-- A box is there, whatever it holds. -/
abbrev BoxAt (b : Nat) (w : World) : Prop := w.cell? ⟨b, 0, none⟩ = some (cellAt b 0 w) ∧ w.cell? ⟨b, 1, none⟩ = some (cellAt b 1 w) ∧ w.cell? ⟨b, 2, none⟩ = some (cellAt b 2 w) ∧ w.cell? ⟨b, 3, none⟩ = some (cellAt b 3 w)
theorem Box4.boxAt {W : World} {g : Nat} {c0 c1 c2 c3 : Value} {T : TypeId} (h : Box4 W g c0 c1 c2 c3 T) : BoxAt g W := ⟨cellAt_some h.cells.1, cellAt_some h.cells.2.1, cellAt_some h.cells.2.2.1, cellAt_some h.cells.2.2.2⟩
theorem Box4.at {W : World} {g : Nat} {c0 c1 c2 c3 : Value} {T : TypeId} (h : Box4 W g c0 c1 c2 c3 T) : cellAt g 0 W = c0 ∧ cellAt g 1 W = c1 ∧ cellAt g 2 W = c2 ∧ cellAt g 3 W = c3 := ⟨cellAt_eq h.cells.1, cellAt_eq h.cells.2.1, cellAt_eq h.cells.2.2.1, cellAt_eq h.cells.2.2.2⟩
/-- A row of one term, in a block of its own. -/
theorem repE_one {O : Nat → Prop} {W : World} {t : Tm} {c0 c1 c2 c3 : Value} {b : Nat} {T : TypeId} (h : Rep O W t.dat [c0, c1, c2, c3]) (hb : ¬ O b) (hB : Box4 W b c0 c1 c2 c3 T) : RepE O W 4 ([t].map Tm.dat) (some ⟨b, 0, none⟩) 0 := by
  obtain ⟨a, cap, e, _, hE⟩ := rep_tm.1 (rep_one h hb hB 0 [] 0)
  simp only [List.cons.injEq, Value.slice.injEq, and_true, true_and] at e
  obtain ⟨rfl, _⟩ := e
  exact hE
theorem relayO {O : Nat → Prop} {W : World} {b : Nat} {t : Tm} {t0 t1 t2 t3 : Value} {T : TypeId} (hB : Box4 W b t0 t1 t2 t3 T) (hR : Rep O W t.dat [t0, t1, t2, t3]) (hb : O b) (hO : ∀ x, O x → x < W.heap.size) (k : Int) (n : List UInt8) (i : Int) {W' : World}
    (hW : W' = ((((W.setCell ⟨b, 0, none⟩ (.int .i64 k)).setCell ⟨b, 1, none⟩ (.string (B n))).setCell ⟨b, 2, none⟩ (.int .i64 i)).setCell ⟨b, 3, none⟩ (.slice (some ⟨W.heap.size, 0, none⟩) 1 1)).alloc (.cells #[t0, t1, t2, t3] T)) :
    Box4 W' b (.int .i64 k) (.string (B n)) (.int .i64 i) (.slice (some ⟨W.heap.size, 0, none⟩) 1 1) T ∧ Rep O W' (Tm.mk k n i [t]).dat [.int .i64 k, .string (B n), .int .i64 i, .slice (some ⟨W.heap.size, 0, none⟩) 1 1] ∧ Upto (fun x => x = b) W W' := by
  subst hW
  have hs := hB.set (d0 := .int .i64 k) (d1 := .string (B n)) (d2 := .int .i64 i) (d3 := .slice (some ⟨W.heap.size, 0, none⟩) 1 1)
  have hU := hs.2.alloc (.cells #[t0, t1, t2, t3] T)
  exact ⟨hs.1.kept ((Upto.refl none' _).alloc _), rep_one (Rep.keep hU (fun x e => by subst e; exact hb) _ _ hR) (fun e => by have := hO _ e; omega) (Box4.at_new (by simp)) k n i, hU⟩
set_option maxRecDepth 100000 in
set_option maxHeartbeats 16000000 in
theorem long_any (s : Sm) : s.size ≤ 100000 → ∀ (h : Tm), h.size ≤ 100000 → (∀ b, ∀ x ∈ h.nodes b, x.ok) → ∀ (w : World) (cs ds : List Value), Rep none' w h.dat cs → Rep none' w s.dat ds →
    Calls Tryz.prog 130 #[.agg cs.toArray, .agg ds.toArray] w (NewTm (Tm.xp (h.mv (Tm.shF s.args.length 0) 0) s) w) := by
  induction s using Sm.ind with
  | h f ss ih =>
    intro hs h hh hok w cs ds hR hD
    obtain ⟨k, n, i, ts, a, cap, ht, rfl, hcap, _⟩ := tm_open hR
    obtain ⟨sa, sc, rfl, hsc, hE⟩ := rep_sm.1 hD
    have hlen := Sm.length_le_sizes ss
    simp only [Sm.size_mk] at hs
    simp only [Sm.args_mk]
    have HM := fun W c (hc : Rep none' W h.dat c) => refMove_any (ss.length : Int) 0 (by omega) (by omega) (by omega) (by omega) h hh hok 0 0 W c (by omega) (by omega) (by omega) hc
    rw [Tm.xp_mk]
    have hmw : (Tm.mv (Tm.shF (ss.length : Int) 0) 0 h).size = h.size := Tm.size_mv _ _ _
    obtain ⟨hm, hhm⟩ : ∃ hm, hm = Tm.mv (Tm.shF (ss.length : Int) 0) 0 h := ⟨_, rfl⟩
    rw [← hhm] at HM hmw ⊢
    obtain ⟨w1, hw1⟩ : ∃ w1, w1 = ((w.alloc (.cells #[.int .i64 k, .string (B n), .int .i64 i, .slice a ts.length cap] 29)).alloc (.cells #[.string (B f), .slice sa ss.length sc] 33)).alloc (.cells #[.int .i64 0, .string (B []), .int .i64 0, .slice none 0 0] 29) := ⟨_, rfl⟩
    have hU1 : Upto none' w w1 := by rw [hw1]; exact (((Upto.refl none' w).alloc _).alloc _).alloc _
    have hs1 : Box2 w1 (w.heap.size + 1) (.string (B f)) (.slice sa ss.length sc) 33 := by rw [hw1]; exact (Box2.at_new (by simp)).kept ((Upto.refl none' _).alloc _)
    have hr1 : Box4 w1 (w.heap.size + 1 + 1) (.int .i64 0) (.string (B [])) (.int .i64 0) (.slice none 0 0) 29 := by rw [hw1]; exact Box4.at_new (by simp)
    obtain ⟨base, hbase⟩ : ∃ base, base = w1.heap.size := ⟨_, rfl⟩
    have hz1 : base = w.heap.size + 1 + 1 + 1 := by rw [hbase, hw1]; simp
    have hbb : Box4 w1 w.heap.size (.int .i64 k) (.string (B n)) (.int .i64 i) (.slice a ts.length cap) 29 := by rw [hw1]; exact ((Box4.at_new rfl).kept ((Upto.refl none' _).alloc _)).kept ((Upto.refl none' _).alloc _)
    have HW := hid hw1
    have HT := hid (And.intro ht hhm)
    have hR1 := hR.on hU1
    have hlen6 : ts.length ≤ 100000 := by have := Tm.length_le_sizes ts; rw [ht, Tm.size_mk] at hh; omega
    have hml : hm.args.length + ss.length ≤ 300000 := by
      have h1 : hm.args.length ≤ hm.size := by cases hm; rw [Tm.size_mk]; have := Tm.length_le_sizes ‹List Tm›; simp only [Tm.args_mk]; omega
      omega
    obtain ⟨t0, t1, t2, t3⟩ := hbb.cells
    obtain ⟨s0, s1⟩ := hs1.cells
    clear hw1 ht hhm hcap hR hD hmw
    generalize ts.length = tl at *
    go_enter Tryz.func130, Tryz.ntmps130
    go_wp2_with fail
    rw [← show B [] = { data := #[] } from rfl, ← HW.out]
    go_wp2_with fail
    refine (HM w1 _ hR1).mono ?_
    rintro e w2 ⟨k2, i2, n2, a2, len2, cap2, rfl, hR2, hU2⟩
    rw [← hbase] at hR2
    have hU12 := hU1.and hU2
    have hz2 := hU2.size
    rw [← hbase] at hz2
    clear HM hR1 t0 t1 t2 t3 hbb
    go_wp2_with fail
    refine (with_any hm [] (by simp; omega) (fun x => x < base) w2 (fun b hb => by omega) _ hR2 none 0 (by simp only [List.map_nil, RepE])).mono ?_
    rintro e w3 ⟨k3, i3, n3, a3, len3, cap3, rfl, hR3, hU3⟩
    rw [Tm.more_nil] at hR3
    obtain ⟨w4, hw4⟩ : ∃ w4, w4 = w3.alloc (.cells #[.int .i64 k3, .string (B n3), .int .i64 i3, .slice a3 len3 cap3] 29) := ⟨_, rfl⟩
    obtain ⟨Bb, hBb⟩ : ∃ Bb, Bb = w3.heap.size := ⟨_, rfl⟩
    have hU4 : Upto none' w3 w4 := by rw [hw4]; exact (Upto.refl none' w3).alloc _
    have hb4 : Box4 w4 Bb (.int .i64 k3) (.string (B n3)) (.int .i64 i3) (.slice a3 len3 cap3) 29 := by rw [hw4]; exact Box4.at_new hBb.symm
    have hR4 : Rep (fun x => x < base ∨ x = Bb) w4 hm.dat [.int .i64 k3, .string (B n3), .int .i64 i3, .slice a3 len3 cap3] := (Rep.weaken (fun b _ e => e.elim .inl (fun e => .inr (by omega))) _ _ (Rep.fresh' _ _ hR3)).on hU4
    have hUw4 := (hU12.and hU3).and hU4
    have hzB : base ≤ Bb := by have := hU3.size; omega
    have hs4 := ((hs1.kept hU2).kept hU3).kept hU4
    have hr4 := ((hr1.kept hU2).kept hU3).kept hU4
    have HW4 := hid hw4
    have HBb := hid hBb
    have hbz4 := hb4.lt
    clear hw4 hR2 hR3 hs1 hr1 s0 s1 hU1 hU2 hU12 hU3 hU4
    clear hBb
    go_wp2_with fail
    rw [← HBb.out, ← HW4.out]
    go_loopw [7] (fun v7 wr => ∃ (j : Nat) (k i : Int) (n : List UInt8) (a : Option Addr) (len cap : Nat), v7 = .int .i64 j ∧ j ≤ ss.length ∧ Rep (fun x => x < base ∨ x = Bb) wr (hm.more (Tm.xpA ((ss.length : Int) - 1) (ss.take j))).dat [.int .i64 k, .string (B n), .int .i64 i, .slice a len cap] ∧
        Box4 wr Bb (.int .i64 k) (.string (B n)) (.int .i64 i) (.slice a len cap) 29 ∧ Upto (fun x => x = Bb) w4 wr) (fun v7 _ => ss.length - (intOf v7).toNat)
    case atStart => exact ⟨0, _, _, _, _, _, _, rfl, Nat.zero_le _, by simpa [Tm.xpA, Tm.more_nil] using hR4, hb4, Upto.refl _ _⟩
    case round =>
      clear hR4 hb4
      obtain ⟨j, k4, i4, n4, a4, len4, cap4, rfl, hj, hR, hB, hU⟩ := hrel
      have hUw : Upto none' w wr := hUw4.trans hU (fun x hx e => by omega)
      have hsr := hs4.keep hU (by omega)
      obtain ⟨s0, s1⟩ := hsr.cells
      have j0 : (0 : Int) ≤ (j : Int) := by omega
      have jb : (j : Int) ≤ 200000 := by omega
      have hBz := hB.lt
      by_cases hlt : j < ss.length
      · obtain ⟨eb, eo, en, es, ec, rfl, hebl, hebz, p0, p1, hRp⟩ := arg_sm ((RepE.fresh' _ _ _ _ hE).on hUw) j hlt
        have j1 : (j : Int) < (ss.length : Int) := by omega
        have hs9 := Sm.size_le_sizes (List.getElem_mem hlt)
        have hal : (ss[j]'hlt).args.length ≤ 100000 := by
          have h1 : (ss[j]'hlt).args.length ≤ (ss[j]'hlt).size := by
            cases (ss[j]'hlt) with
            | mk f' l' => rw [Sm.size_mk]; have := Sm.length_le_sizes l'; simp only [Sm.args_mk]; omega
          omega
        have hidx : (0 : Int) ≤ (ss.length : Int) - 1 - (j : Int) := by omega
        have IH := fun W (hV : Upto none' wr W) => ih (ss[j]'hlt) (List.getElem_mem hlt) (by omega) (.mk 5 [] ((ss.length : Int) - 1 - (j : Int)) []) (by simp [Tm.sizes]) (by
          intro b x hx
          rw [Tm.nodes_mk] at hx
          simp only [Tm.nodesA, List.mem_singleton] at hx
          subst hx
          exact ⟨fun _ => ⟨hidx, by show (ss.length : Int) - 1 - (j : Int) ≤ 1048576; omega⟩, fun e => by simp at e, fun e => by simp at e⟩) W _ _ (rep_leaf 5 [] ((ss.length : Int) - 1 - (j : Int))) (Rep.weaken (fun _ _ x => x.elim) _ _ (hRp.on hV))
        rw [Tm.mv_var _ _ hidx] at IH
        have hT := Tm.xpA_take_succ ss ((ss.length : Int) - 1) j hlt
        generalize (ss[j]'hlt).args.length = al at *
        obtain ⟨u, hu⟩ : ∃ u, u = Tm.xp (.mk 5 [] ((ss.length : Int) - 1 - (j : Int) + (al : Int)) []) (ss[j]'hlt) := ⟨_, rfl⟩
        rw [← hu] at IH hT
        have HT2 := hid (And.intro hT hlt)
        obtain ⟨body, hbody⟩ : ∃ body, body = hm.more (Tm.xpA ((ss.length : Int) - 1) (ss.take j)) := ⟨_, rfl⟩
        rw [← hbody] at hR
        have hbl : body.args.length + 1 ≤ 900000 := by
          rw [hbody]
          have h1 : (Tm.xpA ((ss.length : Int) - 1) (ss.take j)).length ≤ 100000 := by rw [Tm.xpA_length, List.length_take]; omega
          simp only [Tm.more, Tm.args_mk, List.length_append]
          omega
        have hbs : body.more [u] = hm.more (Tm.xpA ((ss.length : Int) - 1) (ss.take (j + 1))) := by rw [hbody, Tm.more_more, hT]
        have HBS := hid hbs
        clear hT hbs hbody hu hs9 hal hlt hRp
        have hwi : IntKind.i64.wrap ((ss.length : Int) - 1 - (j : Int)) = (ss.length : Int) - 1 - (j : Int) := Go.IntWalk.i64_in _ (by omega)
        have hwi2 : IntKind.i64.wrap ((ss.length : Int) - 1) = (ss.length : Int) - 1 := Go.IntWalk.i64_in _ (by omega)
        have hd : Upto none' wr wr.drew := (Upto.refl none' wr).drew
        obtain ⟨b0, b1, b2, b3⟩ := hB.cells
        have hE0 : w.heap.size + 1 ≠ Bb := by omega
        have hEb : eb < base := by
          by_cases he : eb < base
          · exact he
          · exfalso
            have := hebz
            omega
        go_wp2_with fail
        go_region_law (first
          | ((rw [if_pos (by rfl)]); go_simp; (go_at_call 189); refine (with_any body [u] hbl (fun x => x < base ∨ x = Bb) _ (fun x e => by have := hB6.lt; omega) _ hR6 (some ⟨w5.heap.size, 0, none⟩) 1 hE6).mono ?_; rintro e w7 ⟨k7, i7, n7, a7, len7, cap7, rfl, hR7, hU7⟩; have hU7' := hU6.and hU7; have hB7 := hB6.kept hU7; obtain ⟨z0, z1, z2, z3⟩ := hB7.frozens; obtain ⟨v0, v1, v2, v3⟩ := hB7.cells; have hset := hB7.set (d0 := .int .i64 k7) (d1 := .string (B n7)) (d2 := .int .i64 i7) (d3 := .slice a7 len7 cap7))
          | ((rw [if_pos (by rfl)]); go_simp; (go_at_call 130); refine (IH _ hd).mono ?_; rintro e w5 ⟨k5, i5, n5, a5, len5, cap5, rfl, hR5, hU5⟩; have hU5' : Upto none' wr w5 := hd.and hU5; have hB5 := hB.kept hU5';
                have hal5 : Upto none' w5 (w5.alloc (.cells #[.int .i64 k5, .string (B n5), .int .i64 i5, .slice a5 len5 cap5] 29)) := (Upto.refl none' w5).alloc _; have hU6 := hU5'.and hal5; have hB6 := hB5.kept hal5; have hR6 := hR.on hU6; have hwz : wr.drew.heap.size = wr.heap.size := rfl; have hzz := hU5'.size; have hR5' : Rep (fun x => x < base ∨ x = Bb) (w5.alloc (.cells #[.int .i64 k5, .string (B n5), .int .i64 i5, .slice a5 len5 cap5] 29)) u.dat [.int .i64 k5, .string (B n5), .int .i64 i5, .slice a5 len5 cap5] := (Rep.weaken (fun x _ e => by show x < wr.drew.heap.size; omega) _ _ hR5).on hal5; have hE6 := repE_one hR5' (by omega) (Box4.at_new rfl : Box4 (w5.alloc (.cells #[.int .i64 k5, .string (B n5), .int .i64 i5, .slice a5 len5 cap5] 29)) w5.heap.size _ _ _ _ _); obtain ⟨g50, g51, g52, g53⟩ := hB5.cells; obtain ⟨g60, g61, g62, g63⟩ := hB6.cells))
        all_goals
          have hR9 := Rep.keep hset.2 (fun x e => .inr e) _ _ hR7
          rw [HBS.out] at hR9
          have HR9 := hid hR9
          clear hR9
          go_wp2_with fail
          go_roundw
          case rel => exact ⟨j + 1, _, _, _, _, _, _, by go_num, Nat.succ_le_of_lt HT2.out.2, HR9.out, hset.1, (hU.trans (hU7'.mono (fun _ _ x => x.elim)) (fun _ _ x => x)).trans hset.2 (fun _ _ x => x)⟩
          case measure => (have := HT2.out.2; simp [intOf]; omega)
      · have hjn : ¬ (j : Int) < (ss.length : Int) := by omega
        have hdn : ss.take j = ss := List.take_of_length_le (by omega)
        rw [hdn] at hR
        clear hdn s0 s1 hsr hlt
        obtain ⟨wq, rfl⟩ : ∃ wq, wq = wr := ⟨wr, rfl⟩
        obtain ⟨body, hbody⟩ : ∃ body, body = hm.more (Tm.xpA ((ss.length : Int) - 1) ss) := ⟨_, rfl⟩
        rw [← hbody] at hR
        have HB := hid hbody
        clear hbody
        go_wp2_with fail
        go_loopw [8] (fun v8 wr => ∃ (j : Nat) (k i : Int) (n : List UInt8) (a : Option Addr) (len cap : Nat), v8 = .int .i64 j ∧ j ≤ ss.length ∧ Rep (fun x => x < base ∨ x = Bb) wr (Tm.lamN j body).dat [.int .i64 k, .string (B n), .int .i64 i, .slice a len cap] ∧
            Box4 wr Bb (.int .i64 k) (.string (B n)) (.int .i64 i) (.slice a len cap) 29 ∧ Upto (fun x => x = Bb) w4 wr) (fun v8 _ => ss.length - (intOf v8).toNat)
        case atStart => exact ⟨0, _, _, _, _, _, _, rfl, Nat.zero_le _, hR, hB, hU⟩
        case round =>
          clear hR hB hU hUw
          obtain ⟨m, k5, i5, n5, a5, len5, cap5, rfl, hm', hR, hB, hU⟩ := hrel
          obtain ⟨b0, b1, b2, b3⟩ := hB.cells
          obtain ⟨f0, f1, f2, f3⟩ := hB.frozens
          have hBl := hB.lt
          have m0 : (0 : Int) ≤ (m : Int) := by omega
          have mb : (m : Int) ≤ 200000 := by omega
          by_cases hlt : m < ss.length
          · have m1 : (m : Int) < (ss.length : Int) := by omega
            have hrl := relayO hB hR (.inr rfl) (fun x e => by omega) 3 [] 0 rfl
            rw [← Tm.lamN_succ] at hrl
            have HRL := hid hrl
            have HLT := hid hlt
            clear hrl hlt
            go_wp2_with fail
            go_roundw
            case rel => exact ⟨m + 1, _, _, _, _, _, _, by go_num, Nat.succ_le_of_lt HLT.out, HRL.out.2.1, HRL.out.1, hU.trans HRL.out.2.2 (fun _ _ x => x)⟩
            case measure => (have := HLT.out; simp [intOf]; omega)
          · have hmn : ¬ (m : Int) < (ss.length : Int) := by omega
            obtain rfl : m = ss.length := by omega
            have hrr := hr4.keep hU (by omega)
            obtain ⟨x0, x1, x2, x3⟩ := hrr.cells
            obtain ⟨y0, y1, y2, y3⟩ := hrr.frozens
            have hrz := hrr.lt
            have hset := hrr.set (d0 := .int .i64 k5) (d1 := .string (B n5)) (d2 := .int .i64 i5) (d3 := .slice a5 len5 cap5)
            obtain ⟨e0, e1, e2, e3⟩ := hset.1.cells
            have HE := hid (And.intro e0 (And.intro e1 (And.intro e2 e3)))
            clear e0 e1 e2 e3
            go_wp2_with fail
            obtain ⟨e0, e1, e2, e3⟩ := HE.out
            refine bodyPost_ret (v := .agg #[.int .i64 k5, .string (B n5), .int .i64 i5, .slice a5 len5 cap5]) ?_ rfl ?_
            · simp [results, Tryz.f130, go_sem, e0, e1, e2, e3]
            · have hfin : Rep (fun x => x < w.heap.size) _ (Tm.lamN ss.length body).dat _ := Rep.weaken (O := fun x => x < base ∨ x = Bb) (fun b _ e => .inl (by omega)) _ _ (Rep.keep hset.2 (fun b e => .inl (by omega)) _ _ hR)
              rw [HB.out] at hfin
              exact ⟨k5, i5, n5, a5, len5, cap5, rfl, hfin, (hUw4.trans hU (fun x hx e => by omega)).trans hset.2 (fun x hx e => by omega)⟩
end Go.Proofs.YtdomloghcpfdjaaGreatDoor
namespace Go.LF.Tm
/-- The eta-long form of a head, and the error of its making. -/
def etaX (h : Tm) (s : Sm) : Tm := xp (h.mv (shF s.args.length 0) 0) s
def etaE (h : Tm) (s : Sm) : Int :=
  if h.wf ≠ 0 then h.wf else if s.wf ≠ 0 then s.wf else if (h.kind != 4 && (h.kind != 5 && h.kind != 6)) = true then 32
  else if 4096 < (h.size : Int) - 1 + s.lsz then 2 else if (etaX h s).small = false then 2 else if 1048576 < (etaX h s).great then 5 else 0
def etaT (h : Tm) (s : Sm) : Tm := if etaE h s = 0 then etaX h s else mk 0 [] 0 []
end Go.LF.Tm
namespace Go.Proofs.YtdomloghcpfdjaaGreatDoor
open Go.RowKit Go.LF
end Go.Proofs.YtdomloghcpfdjaaGreatDoor
namespace Go.LF.Tm
theorem eta_small (v : Int) (h0 : 0 ≤ v) (h1 : v ≤ 1000) (s : Sm) (hs : s.FitsS 1) : (etaT (mk 5 [] v []) s).isObj = true ∧ (etaT (mk 5 [] v []) s).size ≤ 5 ∧ (etaT (mk 5 [] v []) s).wt ≤ 25 := by
  have hz : s.size ≤ 3 := by have := hs.size; simp at this; omega
  have hal : s.args.length ≤ 3 := by cases s with | mk f l => rw [Sm.size_mk] at hz; have := Sm.length_le_sizes l; simp only [Sm.args_mk]; omega
  have hx : etaX (mk 5 [] v []) s = xp (mk 5 [] (v + s.args.length) []) s := by rw [etaX, mv_var _ _ h0]
  have hxo : (etaX (mk 5 [] v []) s).isObj = true := by
    rw [hx]
    refine obj_xp s _ ?_ (by simp) (by omega)
    rw [isObj]
    simp [allObj]
    omega
  have hxs : (etaX (mk 5 [] v []) s).size ≤ 5 := by have := size_xp s (mk 5 [] (v + s.args.length) []); rw [hx]; simp [sizes] at this; omega
  have hxw : (etaX (mk 5 [] v []) s).wt ≤ 25 := by have := wt_xp s (mk 5 [] (v + s.args.length) []); rw [hx]; simp [wts] at this; omega
  have hE : etaE (mk 5 [] v []) s = 0 := by
    have e1 : (mk 5 [] v []).wf = 0 := by
      have ho : (mk 5 [] v []).isObj = true := by rw [isObj]; simp [allObj]; omega
      unfold wf small
      rw [ho]
      simp [sizes, depths]
    have e2 := hs.wf0 (by omega)
    have e3 := (Sm.lsz_bounds s).1
    have e4 : (etaX (mk 5 [] v []) s).small = true := by unfold small; have := depth_le_size (etaX (mk 5 [] v []) s); simp; omega
    have e5 : (etaX (mk 5 [] v []) s).great ≤ 1048576 := by
      rw [great_le _ _ (by omega) 0]
      intro x hx hk
      exact ((obj_ok _ hxo 0 x hx).1 (by simp [hk])).2
    unfold etaE
    rw [if_neg (by simp [e1]), if_neg (by simp [e2]), if_neg (by simp), if_neg (by simp [sizes]; omega), if_neg (by simp [e4]), if_neg (by omega)]
  rw [etaT, if_pos hE]
  exact ⟨hxo, hxs, hxw⟩
end Go.LF.Tm
