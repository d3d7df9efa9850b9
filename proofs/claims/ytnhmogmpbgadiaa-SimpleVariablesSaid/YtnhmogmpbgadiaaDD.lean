/- So many Lams around a term: simple.lams. -/
import Derived.Test.YtnhmogmpbgadiaaCF
import Derived.Test.YtnhmogmpbgadiaaCK
import Derived.Test.YtnhmogmpbgadiaaCL
import Derived.Test.YtnhmogmpbgadiaaCM
import Derived.Deep.RegionLaw
namespace Go.Proofs.Ytnhmogmpbgadiaa
open Go.RowKit Go.LF
set_option maxRecDepth 100000 in
set_option maxHeartbeats 8000000 in
theorem lams_any (t : Tm) (m : Nat) (hm : m ≤ 1000000) (O : Nat → Prop) (w : World) (cs : List Value) (hO : ∀ b, O b → b < w.heap.size) (h : Rep O w t.dat cs) :
    Calls Try.prog 87 #[.agg cs.toArray, .int .i64 m] w (WithTm (Tm.lamN m t) O w) := by
  obtain ⟨k0, n0, i0, ts0, a0, cap0, ht, rfl, hcap0, _⟩ := tm_open h
  obtain ⟨len0, hlen0⟩ : ∃ l, l = ts0.length := ⟨_, rfl⟩
  rw [← hlen0] at h ⊢
  obtain ⟨w1, hw1⟩ : ∃ w1, w1 = (w.alloc (.cells #[.int .i64 k0, .string (B n0), .int .i64 i0, .slice a0 len0 cap0] 32)).alloc (.cells #[.int .i64 0, .string (B []), .int .i64 0, .slice none 0 0] 32) := ⟨_, rfl⟩
  have hU1 : Upto none' w w1 := by rw [hw1]; exact ((Upto.refl none' w).alloc _).alloc _
  have hB1 : Box4 w1 w.heap.size (.int .i64 k0) (.string (B n0)) (.int .i64 i0) (.slice a0 len0 cap0) 32 := by rw [hw1]; exact (Box4.at_new rfl).kept ((Upto.refl none' _).alloc _)
  have hS1 : Box4 w1 (w.heap.size + 1) (.int .i64 0) (.string (B [])) (.int .i64 0) (.slice none 0 0) 32 := by rw [hw1]; exact Box4.at_new (by simp)
  have hR1 : Rep (fun b => O b ∨ b = w.heap.size ∨ b = w.heap.size + 1) w1 t.dat [.int .i64 k0, .string (B n0), .int .i64 i0, .slice a0 len0 cap0] := (Rep.weaken (fun b _ e => e.elim .inl (fun e => .inr (by omega))) _ _ (Rep.fresh' _ _ h)).on hU1
  have hz1 : w1.heap.size = w.heap.size + 2 := by rw [hw1]; simp
  have HW1 := hid hw1
  obtain ⟨H, hH⟩ : ∃ H, H = w.heap.size := ⟨_, rfl⟩
  have HH := hid hH
  rw [← hH] at hB1 hR1 hS1 hz1 hO
  have HO := hid hO
  clear hw1 hH h ht hcap0 hO hlen0
  have hm0 : (0 : Int) ≤ (m : Int) := by omega
  go_enter Try.func87, Try.ntmps87
  go_wp2_with fail
  rw [← show B [] = { data := #[] } from rfl, ← HW1.out, ← HH.out]
  go_loopw [6] (fun v6 wr => ∃ (j : Nat) (k i : Int) (n : List UInt8) (a : Option Addr) (len cap : Nat), v6 = .int .i64 j ∧ j ≤ m ∧
      Rep (fun b => O b ∨ b = H ∨ b = H + 1) wr (Tm.lamN j t).dat [.int .i64 k, .string (B n), .int .i64 i, .slice a len cap] ∧ Box4 wr H (.int .i64 k) (.string (B n)) (.int .i64 i) (.slice a len cap) 32 ∧
      Box4 wr (H + 1) (.int .i64 0) (.string (B [])) (.int .i64 0) (.slice none 0 0) 32 ∧ H + 2 ≤ wr.heap.size ∧ Upto none' w wr)
    (fun v6 _ => m - (intOf v6).toNat)
  case atStart => exact ⟨0, _, _, _, _, _, _, rfl, Nat.zero_le _, hR1, hB1, hS1, by omega, hU1⟩
  case round =>
    clear hR1 hB1 hS1 hU1 hz1
    obtain ⟨j, k, i, nm, a, len, cap, rfl, hj, hR, hB, hS, hz, hU⟩ := hrel
    obtain ⟨b0, b1, b2, b3⟩ := hB.cells
    obtain ⟨f0, f1, f2, f3⟩ := hB.frozens
    have hq := hB.lt
    have hj0 : (0 : Int) ≤ (j : Int) := by omega
    have hjb : (j : Int) ≤ 1000000 := by omega
    by_cases hlt : j < m
    · have hj1 : (j : Int) < (m : Int) := by omega
      have hwr := wrapO (W' := ((((wr.setCell ⟨H, 0, none⟩ (.int .i64 3)).setCell ⟨H, 1, none⟩ (.string (B []))).setCell ⟨H, 2, none⟩ (.int .i64 0)).setCell ⟨H, 3, none⟩ (.slice (some ⟨wr.heap.size, 0, none⟩) 1 1)).alloc (.cells #[.int .i64 k, .string (B nm), .int .i64 i, .slice a len cap] 32))
        hB hR (.inr (.inl rfl)) (fun x hx => by rcases hx with e | e | e <;> first | (have := HO.out x e; omega) | omega) 3 [] 0 rfl
      have HWR := hid hwr
      clear hwr hR
      go_wp2_with fail
      go_roundw
      case rel =>
        obtain ⟨h1, h2, h3⟩ := HWR.out
        refine ⟨j + 1, 3, 0, [], _, 1, 1, by go_num, by omega, by rw [Tm.lamN_succ]; exact h2, h1, hS.keep h3 (by omega), Nat.le_trans hz h3.size, hU.trans h3 (fun b hb e => by have := HH.out; omega)⟩
      case measure => (simp [intOf]; omega)
    · have hj1 : ¬ (j : Int) < (m : Int) := by omega
      obtain rfl : j = m := by omega
      obtain ⟨s0, s1, s2, s3⟩ := hS.cells
      obtain ⟨y0, y1, y2, y3⟩ := hS.frozens
      have hset := hS.set (d0 := .int .i64 k) (d1 := .string (B nm)) (d2 := .int .i64 i) (d3 := .slice a len cap)
      obtain ⟨e0, e1, e2, e3⟩ := hset.1.cells
      have HE := hid (And.intro e0 (And.intro e1 (And.intro e2 e3)))
      have HS := hid (And.intro hset.2 hR)
      clear e0 e1 e2 e3 hset hR
      go_wp2_with fail
      obtain ⟨e0, e1, e2, e3⟩ := HE.out
      refine bodyPost_ret (v := .agg #[.int .i64 k, .string (B nm), .int .i64 i, .slice a len cap]) ?_ rfl ?_
      · simp [results, Try.f87, go_sem, e0, e1, e2, e3]
      · exact ⟨k, i, nm, a, len, cap, rfl, Rep.weaken (fun b _ e => .inl e) _ _ (Rep.keep HS.out.1 (fun b e => .inr (.inr e)) _ _ HS.out.2), hU.trans HS.out.1 (fun b hb e => by have := HH.out; omega)⟩
end Go.Proofs.Ytnhmogmpbgadiaa
namespace Go.Proofs.Ytnhmogmpbgadiaa
open Go.RowKit Go.LF
/-- The value v is a row of its own, from base on, with these terms; all of them lie in other blocks, outside O. -/
def RowG (O : Nat → Prop) (base : Nat) (W : World) (v : Value) (ts : List Tm) (css : List (List Value)) : Prop :=
  css.length = ts.length ∧ (∀ cs ∈ css, cs.length = 4) ∧ W.ownsRow base 32 4 v ts.length css.flatten ∧
    ∀ i (h : i < ts.length) (h' : i < css.length), Rep (fun b => O b ∨ v.ownBlock = some b) W ts[i].dat css[i]
theorem RowG.nil (O : Nat → Prop) (base : Nat) (W : World) : RowG O base W (.slice none 0 0) [] [] := ⟨rfl, by simp, World.ownsRow_nil _ _ _ _, fun i h => by simp at h⟩
theorem RowG.keep {O : Nat → Prop} {base : Nat} {W W' : World} {v : Value} {ts : List Tm} {css : List (List Value)} {S : Nat → Prop} (h : RowG O base W v ts css) (hU : Upto S W W') (hS : ∀ b, S b → O b) (hO : ∀ b, O b → b < base) : RowG O base W' v ts css := by
  obtain ⟨h1, h2, h3, h4⟩ := h
  refine ⟨h1, h2, ⟨h3.1, ?_⟩, fun i h h' => Rep.keep hU (fun b hb => .inl (hS b hb)) _ _ (h4 i h h')⟩
  rcases h3.2 with h5 | ⟨g, cap, cur, rfl, hb, hg, rest⟩
  · exact .inl h5
  · exact .inr ⟨g, cap, cur, rfl, hb, (hU.block g (Array.getElem?_eq_some_iff.1 hg).1 (fun e => by have := hO g (hS g e); omega)).trans hg, rest⟩
theorem RowG.on {O : Nat → Prop} {base : Nat} {W W' : World} {v : Value} {ts : List Tm} {css : List (List Value)} (h : RowG O base W v ts css) (hU : Upto none' W W') (hO : ∀ b, O b → b < base) : RowG O base W' v ts css := h.keep hU (fun _ x => x.elim) hO
theorem RowG.rep {O : Nat → Prop} {base : Nat} {W : World} {v : Value} {ts : List Tm} {css : List (List Value)} (h : RowG O base W v ts css) (hO : ∀ b, O b → b < base) : ∃ a cap, v = .slice a ts.length cap ∧ ts.length ≤ cap ∧ RepE O W 4 (ts.map Tm.dat) a 0 := by
  obtain ⟨h1, h2, h3, h4⟩ := h
  rcases h3.2 with ⟨rfl, h0⟩ | ⟨g, cap, cur, rfl, hb, hg, hnc, _⟩
  · obtain rfl : ts = [] := List.eq_nil_of_length_eq_zero h0
    exact ⟨none, 0, rfl, Nat.le_refl _, by simp only [List.map_nil, RepE]⟩
  · refine ⟨_, cap, rfl, hnc, repE_of _ _ _ (fun i hi => ?_)⟩
    simp only [List.length_map] at hi
    have hi' : i < css.length := by omega
    refine ⟨g, 0, css[i], rfl, (Array.getElem?_eq_some_iff.1 hg).1, fun e => by have := hO g e; omega, h2 _ (List.getElem_mem hi'), fun m u hu => ?_, ?_⟩
    · have := h3.cells (g := g) rfl _ u ((flat4 css h2).2 i hi' m u hu)
      have hadd : (⟨g, 0, none⟩ : Addr).add (i * 4 + m) = ⟨g, i * 4 + m, none⟩ := by unfold Addr.add; split <;> simp_all
      rw [hadd] at this
      rw [show 0 + 0 + i * 4 + m = i * 4 + m by omega]
      exact this
    · simp only [List.getElem_map]
      exact Rep.weaken (fun b _ e => .inl e) _ _ (h4 i hi hi')
/-- One term more. -/
theorem RowG.appended {O : Nat → Prop} {base : Nat} {W w' : World} {v : Value} {ts : List Tm} {css : List (List Value)} {t : Tm} {cs : List Value} {g cap H : Nat} (h : RowG O base W v ts css) (hcs : cs.length = 4)
    (hr : Rep (fun b => O b ∨ v.ownBlock = some b) W t.dat cs) (hown : w'.ownsRow base 32 4 (.slice (some ⟨g, 0, none⟩) (ts.length + 1) cap) (ts.length + 1) (css.flatten ++ cs)) (hg : W.grownBy w' v.ownBlock)
    (hat : v.ownBlock = some g ∨ g = H) (hH : W.heap.size ≤ H) : RowG O base w' (.slice (some ⟨g, 0, none⟩) (ts.length + 1) cap) (ts ++ [t]) (css ++ [cs]) := by
  obtain ⟨h1, h2, h3, h4⟩ := h
  have hcel : Cel (fun b => (O b ∨ v.ownBlock = some b) ∨ W.heap.size ≤ b) W w' := by
    refine ⟨hg.size, fun b o u hb hu => hg.cell hu (fun e => hb (.inl (.inr ?_)))⟩
    exact e.symm
  have key : ∀ (d : Dat) (cs : List Value), Rep (fun b => O b ∨ v.ownBlock = some b) W d cs → Rep (fun b => O b ∨ (Value.slice (some ⟨g, 0, none⟩) (ts.length + 1) cap).ownBlock = some b) w' d cs := by
    intro d cs h
    refine Rep.weaken (fun b _ e => ?_) _ _ (Rep.carry hcel _ _ (Rep.freshO h))
    rcases e with e | e
    · exact .inl (.inl e)
    · simp only [Value.ownBlock, Option.some.injEq] at e
      subst e
      rcases hat with hat | rfl
      · exact .inl (.inr hat)
      · exact .inr hH
  refine ⟨by simp [h1], ?_, by simpa using hown, fun i hi hi' => ?_⟩
  · intro c hc
    rcases List.mem_append.1 hc with hc | hc
    · exact h2 c hc
    · obtain rfl : c = cs := by simpa using hc
      exact hcs
  · by_cases hlt : i < ts.length
    · have hlt' : i < css.length := by omega
      rw [List.getElem_append_left hlt, List.getElem_append_left hlt']
      exact key _ _ (h4 i hlt hlt')
    · have e1 : i = ts.length := by simp at hi; omega
      subst e1
      rw [List.getElem_append_right (Nat.le_refl _), List.getElem_append_right (by omega)]
      simp only [h1, Nat.sub_self, List.getElem_cons_zero]
      exact key _ _ hr
theorem Box4.rowG {W W' : World} {O : Nat → Prop} {g base : Nat} {c0 c1 c2 c3 : Value} {T : TypeId} {v : Value} {ts : List Tm} {css : List (List Value)} (h : Box4 W g c0 c1 c2 c3 T) (hg : W.grownBy W' v.ownBlock) (ht : RowG O base W v ts css) (hb : g < base) : Box4 W' g c0 c1 c2 c3 T :=
  (hg.block g h.lt (fun e => by have := (ht.2.2.1.lt g e.symm).1; omega)).trans h
theorem RowG.of {O : Nat → Prop} {base : Nat} {W : World} {v : Value} {ts : List Tm} {css : List (List Value)} (h : RowS O base W v ts css) : RowG O base W v ts css := by
  obtain ⟨h1, h2, h3, h4⟩ := h
  exact ⟨h1, h2, h3, fun i hi hi' => Rep.weaken (fun b _ e => e.elim .inl (fun e => .inr (h3.lt b e).1)) _ _ (h4 i hi hi')⟩
set_option maxRecDepth 100000 in
set_option maxHeartbeats 16000000 in
theorem expand_any (s : Sm) : s.size ≤ 100000 → ∀ (h : Tm), h.args.length ≤ 100000 → ∀ (O : Nat → Prop) (w : World) (cs ds : List Value), (∀ b, O b → b < w.heap.size) → Rep O w h.dat cs → Rep none' w s.dat ds →
    Calls Try.prog 41 #[.agg cs.toArray, .agg ds.toArray] w (WithTm (Tm.xp h s) O w) := by
  induction s using Sm.ind with
  | h f ss ih =>
    intro hs h hh O w cs ds hO hR hD
    obtain ⟨k, n, i, ts, a, cap, rfl, rfl, hcap, hT0⟩ := tm_open hR
    obtain ⟨sa, sc, rfl, hsc, hE⟩ := rep_sm.1 hD
    have hlen := Sm.length_le_sizes ss
    simp only [Sm.size_mk] at hs
    simp only [Tm.args_mk] at hh
    rw [Tm.xp_mk]
    obtain ⟨w1, hw1⟩ : ∃ w1, w1 = ((w.alloc (.cells #[.int .i64 k, .string (B n), .int .i64 i, .slice a ts.length cap] 32)).alloc (.cells #[.string (B f), .slice sa ss.length sc] 29)).alloc (.cells #[.int .i64 0, .string (B []), .int .i64 0, .slice none 0 0] 32) := ⟨_, rfl⟩
    have hU1 : Upto none' w w1 := by rw [hw1]; exact (((Upto.refl none' w).alloc _).alloc _).alloc _
    have hB1 : Box4 w1 w.heap.size (.int .i64 k) (.string (B n)) (.int .i64 i) (.slice a ts.length cap) 32 := by rw [hw1]; exact ((Box4.at_new rfl).kept ((Upto.refl none' _).alloc _)).kept ((Upto.refl none' _).alloc _)
    have hs1 : Box2 w1 (w.heap.size + 1) (.string (B f)) (.slice sa ss.length sc) 29 := by rw [hw1]; exact (Box2.at_new (by simp)).kept ((Upto.refl none' _).alloc _)
    have hr1 : Box4 w1 (w.heap.size + 1 + 1) (.int .i64 0) (.string (B [])) (.int .i64 0) (.slice none 0 0) 32 := by rw [hw1]; exact Box4.at_new (by simp)
    have hz1 : w1.heap.size = w.heap.size + 3 := by rw [hw1]; simp
    have hC := clone_any ts (fun b => O b ∨ b = w.heap.size ∨ b = w.heap.size + 1 ∨ b = w.heap.size + 1 + 1) w1 a cap (by omega) ((RepE.weaken (fun b _ e => e.elim .inl (fun e => .inr (by omega))) _ _ _ _ (RepE.fresh' _ _ _ _ hT0)).on hU1)
    have HW1 := hid hw1
    obtain ⟨H, hH⟩ : ∃ H, H = w.heap.size := ⟨_, rfl⟩
    have HH := hid hH
    rw [← hH] at hB1 hs1 hr1 hz1 hC
    have hO3 : ∀ b, (O b ∨ b = H ∨ b = H + 1 ∨ b = H + 1 + 1) → b < H + 3 := fun b e => by
      rcases e with e | e
      · have := hO b e; omega
      · omega
    have HO := hid hO3
    clear hw1 hH hR hD hT0 hO hO3
    obtain ⟨s0, s1⟩ := hs1.cells
    obtain ⟨t0, t1, t2, t3⟩ := hB1.cells
    obtain ⟨i0', hi, hi0, hi1, hi2⟩ := info_parts info_term
    go_enter Try.func41, Try.ntmps41
    go_wp2_with fail
    rw [← show B [] = { data := #[] } from rfl, ← HW1.out, ← HH.out]
    go_wp2_with fail
    refine hC.mono ?_
    rintro e w2 ⟨v, css, rfl, hS2, hU2⟩
    rw [hz1] at hS2
    have hG2 : RowG (fun b => O b ∨ b = H ∨ b = H + 1 ∨ b = H + 1 + 1) (H + 3) w2 v ts css := RowG.of hS2
    have hB2 := hB1.kept hU2
    have hs2 := hs1.kept hU2
    have hr2 := hr1.kept hU2
    have hUw2 := hU1.and hU2
    have hz2 : H + 3 ≤ w2.heap.size := by have := hU2.size; omega
    clear hB1 hs1 hr1 hU1 hU2 hz1 hC hS2 s0 s1 t0 t1 t2 t3
    obtain ⟨s0, s1⟩ := hs2.cells
    obtain ⟨t0, t1, t2, t3⟩ := hB2.cells
    obtain ⟨f0, f1, f2, f3⟩ := hB2.frozens
    obtain ⟨va, vcap, rfl, _, _⟩ := hG2.rep HO.out
    have hB3 := hB2.set3 (.slice va ts.length vcap)
    have hU3 : Upto (fun b => b = H) w2 (w2.setCell ⟨H, 3, none⟩ (.slice va ts.length vcap)) := Upto.set (Upto.refl _ _) 3 _
    have hG3 := hG2.keep hU3 (fun b e => .inr (.inl e)) HO.out
    have hs3 := hs2.keep hU3 (by omega)
    have hr3 := hr2.keep hU3 (by omega)
    have hUw3 : Upto none' w (w2.setCell ⟨H, 3, none⟩ (.slice va ts.length vcap)) := hUw2.trans hU3 (fun b hb e => by have := HH.out; omega)
    have hz3 : H + 3 ≤ (w2.setCell ⟨H, 3, none⟩ (.slice va ts.length vcap)).heap.size := by have := hU3.size; omega
    obtain ⟨w3, hw3⟩ : ∃ w3, w3 = w2.setCell ⟨H, 3, none⟩ (.slice va ts.length vcap) := ⟨_, rfl⟩
    rw [← hw3] at hB3 hG3 hs3 hr3 hUw3 hz3
    have HW3 := hid hw3
    have hx1 : w3.cell? ⟨H + 1, 1, none⟩ = some (.slice sa ss.length sc) := hs3.cells.2
    have hx1' : (w2.setCell ⟨H, 3, none⟩ (.slice va ts.length vcap)).cell? ⟨H + 1, 1, none⟩ = some (.slice sa ss.length sc) := by rw [← hw3]; exact hx1
    clear hw3 hB2 hG2 hs2 hr2 hU3 hUw2 hz2
    go_wp2_with fail
    rw [← HW3.out]
    clear s0 s1 t0 t1 t2 t3 f0 f1 f2 f3 hx1 hx1'
    have hsl : ss.length ≤ 100000 := by omega
    go_loopw [18] (fun v18 wr => ∃ (j : Nat) (v : Value) (css : List (List Value)), v18 = .int .i64 j ∧ j ≤ ss.length ∧ RowG (fun b => O b ∨ b = H ∨ b = H + 1 ∨ b = H + 1 + 1) (H + 3) wr v (ts ++ Tm.xpA ((ss.length : Int) - 1) (ss.take j)) css ∧
        Box4 wr H (.int .i64 k) (.string (B n)) (.int .i64 i) v 32 ∧ Box4 wr (H + 1 + 1) (.int .i64 0) (.string (B [])) (.int .i64 0) (.slice none 0 0) 32 ∧ H + 3 ≤ wr.heap.size ∧ Upto none' w wr) (fun v18 _ => ss.length - (intOf v18).toNat)
    case atStart => exact ⟨0, _, _, rfl, Nat.zero_le _, by simpa [Tm.xpA] using hG3, hB3, hr3, hz3, hUw3⟩
    case round =>
      clear hG3 hB3 hr3 hz3 hUw3 hs3
      obtain ⟨j, v, css, rfl, hj, hG, hB, hr, hz, hU⟩ := hrel
      obtain ⟨b0, b1, b2, b3⟩ := hB.cells
      obtain ⟨f0, f1, f2, f3⟩ := hB.frozens
      have hq := hB.lt
      have j0 : (0 : Int) ≤ (j : Int) := by omega
      have jb : (j : Int) ≤ 100000 := by omega
      by_cases hlt : j < ss.length
      · obtain ⟨eb, eo, en, es, ec, rfl, hebl, hebz, p0, p1, hRp⟩ := arg_sm ((RepE.fresh' _ _ _ _ hE).on hU) j hlt
        have j1 : (j : Int) < (ss.length : Int) := by omega
        have hs9 := Sm.size_le_sizes (List.getElem_mem hlt)
        have hal : (ss[j]'hlt).args.length ≤ 100000 := by
          have h1 : (ss[j]'hlt).args.length ≤ (ss[j]'hlt).size := by
            cases (ss[j]'hlt) with
            | mk f' l' => rw [Sm.size_mk]; have := Sm.length_le_sizes l'; simp only [Sm.args_mk]; omega
          omega
        have IH := fun (x : Int) W (hV : Upto none' wr W) => ih (ss[j]'hlt) (List.getElem_mem hlt) (by omega) (.mk 5 [] x []) (by simp) (fun b => b < W.heap.size) W _ _ (fun b e => e) (rep_leaf 5 [] x) (Rep.weaken (fun _ _ x => x.elim) _ _ (hRp.on hV))
        have hT := Tm.xpA_take_succ ss ((ss.length : Int) - 1) j hlt
        have hlT : (ts ++ Tm.xpA ((ss.length : Int) - 1) (ss.take j)).length = ts.length + j := by
          rw [List.length_append, Tm.xpA_length, List.length_take]; omega
        generalize (ss[j]'hlt).args.length = al at *
        generalize htl : ts ++ Tm.xpA ((ss.length : Int) - 1) (ss.take j) = tl at *
        have HXT := hid (And.intro hT htl)
        clear htl
        have hlN : tl.length ≤ 200000 := by omega
        clear hlT
        have hwi : IntKind.i64.wrap (IntKind.i64.wrap (IntKind.i64.wrap ((ss.length : Int) - 1) - (j : Int)) + (al : Int)) = (ss.length : Int) - 1 - (j : Int) + (al : Int) := by
          have e1 := Go.IntWalk.i64_in ((ss.length : Int) - 1) (by omega)
          have e2 := Go.IntWalk.i64_in ((ss.length : Int) - 1 - (j : Int)) (by omega)
          have e3 := Go.IntWalk.i64_in ((ss.length : Int) - 1 - (j : Int) + (al : Int)) (by omega)
          rw [e1, e2, e3]
        have HWI := hid hwi
        clear hT hwi hRp
        go_wp2_with fail
        go_region_law (first
          | ((rw [if_pos (by rfl)]); go_simp; (go_at_call 41); refine (IH _ _ (((Upto.refl none' wr).alloc _).drew)).mono ?_; rintro e w6 ⟨k6, i6, n6, a6, len6, cap6, rfl, hR6, hU6⟩; have hU6' : Upto none' wr w6 := (((Upto.refl none' wr).alloc _).drew).and hU6; have hB6 := hB.kept hU6'; have q6 := hB6.lt; have c6 := hB6.cells.2.2.2; have y6 := hB6.frozens.2.2.2; have hs6 := hU6'.size; have hG6 := hG.on hU6' HO.out)
          | (refine step_append_lies _ (by rfl) _ _ 30 (by rfl) (H + 3) 32 i0' (.agg #[.int .i64 0, .string (B []), .int .i64 0, .slice none 0 0]) 4 56 (by kernel_rfl) hi hi0 hi1 hi2 rfl (by decide) v tl.length css.flatten (by rfl) ((hG6.on ((Upto.refl none' w6).alloc _) HO.out).2.2.1) ⟨w6.heap.size, 0, none⟩ 1 1 [.int .i64 k6, .string (B n6), .int .i64 i6, .slice a6 len6 cap6] (by rfl) rfl (World.news_of_block (heap_alloc_new w6 _)) (by simp [Value.oneCell']) (by omega) (by simp only [maxLen]; omega) (by omega) (by simp; omega) _ rfl ?_; intro g cap' w7 hown hgrow hat _hg7; have hB7 := (hB6.kept ((Upto.refl none' w6).alloc _)).rowG hgrow (hG6.on ((Upto.refl none' w6).alloc _) HO.out) (by omega); have c7 := hB7.cells.2.2.2; have y7 := hB7.frozens.2.2.2))
        all_goals
          rw [HWI.out] at hR6
          have hal6 : Upto none' w6 (w6.alloc (.cells #[.int .i64 k6, .string (B n6), .int .i64 i6, .slice a6 len6 cap6] 32)) := (Upto.refl none' w6).alloc _
          have hG6' := hG6.on hal6 HO.out
          have hR6' : Rep (fun b => (O b ∨ b = H ∨ b = H + 1 ∨ b = H + 1 + 1) ∨ v.ownBlock = some b) (w6.alloc (.cells #[.int .i64 k6, .string (B n6), .int .i64 i6, .slice a6 len6 cap6] 32)) (Tm.xp (.mk 5 [] ((ss.length : Int) - 1 - (j : Int) + (al : Int)) []) (ss[j]'hlt)).dat [.int .i64 k6, .string (B n6), .int .i64 i6, .slice a6 len6 cap6] := by
            refine (Rep.weaken (fun b _ e => ?_) _ _ hR6).new _
            show b < (wr.alloc (.cells #[.string (B en), .slice es al ec] 29)).heap.size
            rw [World.size_alloc]
            rcases e with e | e
            · have := HO.out b e; omega
            · have := (hG.2.2.1.lt b e).2; omega
          have hT7 := hG6'.appended rfl hR6' hown hgrow hat (Nat.le_refl _)
          have hset7 : Upto (fun b => b = H) w7 (w7.setCell ⟨H, 3, none⟩ (.slice (some ⟨g, 0, none⟩) (tl.length + 1) cap')) := Upto.set (Upto.refl _ _) 3 _
          have hrow7 := Upto.ofRow (RowUp.grown hG6'.2.2.1 hgrow)
          have hT8 := hT7.keep hset7 (fun b e => .inr (.inl e)) HO.out
          have hB8 := hB7.set3 (.slice (some ⟨g, 0, none⟩) (tl.length + 1) cap')
          have hr8 := (((hr.kept hU6').kept hal6).keep hrow7 (by omega)).keep hset7 (by omega)
          have hU8 : Upto none' w (w7.setCell ⟨H, 3, none⟩ (.slice (some ⟨g, 0, none⟩) (tl.length + 1) cap')) := (((hU.and hU6').and hal6).trans hrow7 (fun b hb e => by have := HH.out; omega)).trans hset7 (fun b hb e => by have := HH.out; omega)
          have hz8 : H + 3 ≤ (w7.setCell ⟨H, 3, none⟩ (.slice (some ⟨g, 0, none⟩) (tl.length + 1) cap')).heap.size := by have := hset7.size; have := hrow7.size; have := hal6.size; omega
          have hT9 : RowG (fun b => O b ∨ b = H ∨ b = H + 1 ∨ b = H + 1 + 1) (H + 3) (w7.setCell ⟨H, 3, none⟩ (.slice (some ⟨g, 0, none⟩) (tl.length + 1) cap')) (.slice (some ⟨g, 0, none⟩) (tl.length + 1) cap') (ts ++ Tm.xpA ((ss.length : Int) - 1) (ss.take (j + 1))) (css ++ [[.int .i64 k6, .string (B n6), .int .i64 i6, .slice a6 len6 cap6]]) := by
            rw [HXT.out.1, ← List.append_assoc, HXT.out.2]
            exact hT8
          clear hT8 hT7 hR6 hR6' hG6 hG6' hG hown
          go_wp2_with fail
          go_roundw
          case rel =>
            exact ⟨j + 1, _, _, by go_num, by omega, hT9, hB8, hr8, hz8, hU8⟩
          case measure => (simp [intOf]; omega)
      · have hjn : ¬ (j : Int) < (ss.length : Int) := by omega
        have htk : ss.take j = ss := List.take_of_length_le (by omega)
        rw [htk] at hG
        obtain ⟨va', vcap', rfl, hvc, hvE⟩ := hG.rep HO.out
        have hRm : Rep (fun b => O b ∨ b = H ∨ b = H + 1 ∨ b = H + 1 + 1) wr (Tm.more (.mk k n i ts) (Tm.xpA ((ss.length : Int) - 1) ss)).dat [.int .i64 k, .string (B n), .int .i64 i, .slice va' (ts ++ Tm.xpA ((ss.length : Int) - 1) ss).length vcap'] := rep_tm.2 ⟨_, _, rfl, hvc, hvE⟩
        have HLA := lams_any _ ss.length (by omega) _ wr _ (fun b e => by have := HO.out b e; omega) hRm
        clear hG hvE hRm htk hE
        generalize (ts ++ Tm.xpA ((ss.length : Int) - 1) ss).length = len at *
        go_wp2_with fail
        refine HLA.mono ?_
        rintro e w9 ⟨k9, i9, n9, a9, len9, cap9, rfl, hR9, hU9⟩
        have hr9 := hr.kept hU9
        have hqr := hr9.lt
        obtain ⟨x0, x1, x2, x3⟩ := hr9.cells
        obtain ⟨y0, y1, y2, y3⟩ := hr9.frozens
        have hset := hr9.set (d0 := .int .i64 k9) (d1 := .string (B n9)) (d2 := .int .i64 i9) (d3 := .slice a9 len9 cap9)
        obtain ⟨e0, e1, e2, e3⟩ := hset.1.cells
        have HE := hid (And.intro e0 (And.intro e1 (And.intro e2 e3)))
        have HS := hid hset
        clear e0 e1 e2 e3 hset
        go_wp2_with fail
        obtain ⟨e0, e1, e2, e3⟩ := HE.out
        refine bodyPost_ret (v := .agg #[.int .i64 k9, .string (B n9), .int .i64 i9, .slice a9 len9 cap9]) ?_ rfl ?_
        · simp [results, Try.f41, go_sem, e0, e1, e2, e3]
        · exact ⟨k9, i9, n9, a9, len9, cap9, rfl, Rep.weaken (fun b _ e => .inl e) _ _ (Rep.keep HS.out.2 (fun b e => .inr (.inr (.inr e))) _ _ hR9), (hU.and hU9).trans HS.out.2 (fun b hb e => by have := HH.out; omega)⟩
end Go.Proofs.Ytnhmogmpbgadiaa
