/- Simple types that layer 7's laws make: lfchecklaw07.spoilt. -/
import Derived.Test.YtnhmogmpbgadiaaDoorCL
import Derived.Test.YtnhmogmpbgadiaaDoorDF
import Derived.Deep.RegionHeld3
namespace Go.Proofs.YtnhmogmpbgadiaaDoor
open Go.RowKit Go.LF
/-- A simple type, in new blocks. -/
def SpoiltS (w : World) (e : Ending) (w' : World) : Prop :=
  ∃ (f : List UInt8) (a : Option Addr) (len cap : Nat) (s : Sm), e = .returned (.agg #[.string (B f), .slice a len cap]) ∧ Rep (fun b => b < w.heap.size) w' s.dat [.string (B f), .slice a len cap] ∧ s.size ≤ 15 ∧ s.wt ≤ 100 ∧ Upto none' w w'
/-- The family of the first argument is another one. -/
theorem Sims.first {B0 : Nat} {W : World} {g cap : Nat} {t : Sm} {ts : List Sm} {css : List (List Value)} {f' : List UInt8} (h : Sims B0 W (.slice (some ⟨g, 0, none⟩) (ts.length + 1) cap) (t :: ts) css) :
    B0 ≤ g ∧ W.frozen? ⟨g, 0, none⟩ = false ∧ (∃ n, W.cell? ⟨g, 0, none⟩ = some (.string (B n))) ∧ RepE (fun b => b < B0) (W.setCell ⟨g, 0, none⟩ (.string (B f'))) 2 ((Sm.mk f' t.args :: ts).map Sm.dat) (some ⟨g, 0, none⟩) 0 := by
  obtain ⟨h1, h2, h3, h4⟩ := h
  have hcl := h3.cells (g := g) rfl
  have hgz : W.heap.size ≤ g ∨ g < W.heap.size := by omega
  have hown := h3.2
  rcases hown with ⟨e, _⟩ | ⟨g', cap', cur, e, hb, hg, hnc, _⟩
  · cases e
  cases e
  have hset : Upto (fun b => b = g) W (W.setCell ⟨g, 0, none⟩ (.string (B f'))) := Upto.set (Upto.refl _ _) 0 _
  have hlt := (Array.getElem?_eq_some_iff.1 hg).1
  have hadd : ∀ i, (⟨g, 0, none⟩ : Addr).add i = ⟨g, i, none⟩ := fun i => by unfold Addr.add; split <;> simp_all
  have h0l : 0 < css.length := by rw [h1]; simp
  have hR0 := h4 0 (by simp) h0l
  simp only [List.getElem_cons_zero] at hR0
  obtain ⟨f0, l0, a0, c0, ht, hc0, hcap0, hE0⟩ := sm_open hR0
  refine ⟨hb, by simp [World.frozen?, hg], ⟨f0, ?_⟩, ?_⟩
  · have := hcl (0 * 2 + 0) (.string (B f0)) ((flat2 css h2).2 0 h0l 0 _ (by rw [hc0]; rfl))
    rwa [hadd] at this
  · refine repE_of _ _ _ (fun i hi => ?_)
    simp only [List.length_map, List.length_cons] at hi
    have hi' : i < css.length := by rw [h1]; simpa using hi
    have hRi := Rep.keep hset (fun b e => .inr (by simp [Value.ownBlock, e])) _ _ (h4 i (by simpa using hi) hi')
    by_cases h0 : i = 0
    · subst h0
      refine ⟨g, 0, [.string (B f'), .slice a0 l0.length c0], rfl, by simpa using hlt, by omega, rfl, fun m u hu => ?_, ?_⟩
      · match m, hu with
        | 0, hu =>
          cases hu
          have hc := hcl (0 * 2 + 0) (.string (B f0)) ((flat2 css h2).2 0 h0l 0 _ (by rw [hc0]; rfl))
          rw [hadd] at hc
          exact World.cell?_setCell_same _ _ _ hc
        | 1, hu =>
          cases hu
          have hc := hcl (0 * 2 + 1) (.slice a0 l0.length c0) ((flat2 css h2).2 0 h0l 1 _ (by rw [hc0]; rfl))
          rw [hadd] at hc
          exact (World.cell?_setCell_other _ _ _ _ (by simp)).trans hc
        | m + 2, hu => simp at hu
      · simp only [List.map_cons, List.getElem_cons_zero]
        refine Rep.weaken (fun b _ e => .inl e) _ _ (rep_sm.2 ⟨a0, c0, by rw [ht]; rfl, ?_, ?_⟩ : Rep (fun b => b < B0 ∨ b = g) _ _ _)
        · rw [ht]; exact hcap0
        · rw [ht]
          exact RepE.weaken (fun b _ e => e.elim .inl (fun e => .inr (by simp [Value.ownBlock, e]))) _ _ _ _ (RepE.keep hset (fun b e => .inr (by simp [Value.ownBlock, e])) _ _ _ _ hE0)
    · refine ⟨g, 0, css[i], rfl, by simpa using hlt, by omega, h2 _ (List.getElem_mem hi'), fun m u hu => ?_, ?_⟩
      · have hc := hcl (i * 2 + m) u ((flat2 css h2).2 i hi' m u hu)
        rw [hadd] at hc
        rw [show 0 + 0 + i * 2 + m = i * 2 + m by omega]
        exact (World.cell?_setCell_other _ _ _ _ (by simp)).trans hc
      · obtain ⟨j, rfl⟩ : ∃ j, i = j + 1 := ⟨i - 1, by omega⟩
        simp only [List.map_cons, List.getElem_cons_succ, List.getElem_map] at hRi ⊢
        exact Rep.weaken (fun b _ e => .inl e) _ _ hRi
theorem Sims.at {B0 : Nat} {W : World} {a : Option Addr} {cap : Nat} {ts : List Sm} {css : List (List Value)} (h : Sims B0 W (.slice a ts.length cap) ts css) (h0 : 0 < ts.length) : ∃ g, a = some ⟨g, 0, none⟩ := by
  rcases h.2.2.1.2 with ⟨_, e⟩ | ⟨g, cap', cur, e, _⟩
  · omega
  · cases e; exact ⟨g, rfl⟩
/-- What the drawn region of spoilt reads. -/
abbrev SpS (P H : Nat) (f : List UInt8) (v n : Value) (w' : World) : Prop := w'.cell? ⟨P, 0, none⟩ = some (.string (B f)) ∧ w'.cell? ⟨P, 1, none⟩ = some v ∧ w'.cell? ⟨H, 1, none⟩ = some n
set_option maxRecDepth 100000 in
set_option maxHeartbeats 16000000 in
theorem spoilt_any (l : List Int) (a : Option Addr) (len cap : Nat) (hl : l.length = len) (hlen : len ≤ 17592186044416) (n0 n1 : Int) (w : World) (hE : RepE none' w 1 (l.map (Dat.int .i64)) a 0) :
    Calls Tryd.prog 24 #[.slice a len cap, .agg #[.int .i64 n0, .int .i64 n1]] w (SpoiltS w) := by
  obtain ⟨w2, hw2⟩ : ∃ w2, w2 = (w.alloc (.cells #[.int .i64 n0, .int .i64 n1] 40)).alloc (.cells #[.string (B []), .slice none 0 0] 43) := ⟨_, rfl⟩
  have hU2 : Upto none' w w2 := by rw [hw2]; exact ((Upto.refl none' w).alloc _).alloc _
  have hN2 : Box2 w2 w.heap.size (.int .i64 n0) (.int .i64 n1) 40 := by rw [hw2]; exact (Box2.at_new rfl).kept ((Upto.refl none' _).alloc _)
  have hr2 : Box2 w2 (w.heap.size + 1) (.string (B [])) (.slice none 0 0) 43 := by rw [hw2]; exact Box2.at_new (by simp)
  have hz2 : w2.heap.size = w.heap.size + 2 := by rw [hw2]; simp
  have hT := tape_new (cap := cap) (U := 25) hl hlen (hE.on hU2)
  have HW2 := hid hw2
  obtain ⟨H, hH⟩ : ∃ H, H = w.heap.size := ⟨_, rfl⟩
  have HH := hid hH
  rw [← hH] at hN2 hr2 hz2
  rw [show w2.heap.size = H + 1 + 1 from hz2] at hT
  clear hw2 hH hE hl hlen
  go_enter Tryd.func24, Tryd.ntmps24
  go_wp2_with fail
  rw [← show B [] = { data := #[] } from rfl, ← HW2.out, ← HH.out]
  refine (simpleO_any 3 (by omega) _ _ hT).mono ?_
  rintro e w4 ⟨f, sa, sc, ts, css, B0, rfl, hB0, hscap, hS4, hF, hT4, hU4⟩
  have hU4' : Upto none' w2 w4 := ((Upto.refl none' w2).alloc _).trans hU4 (fun b hb e => by simp only [isT] at e; omega)
  have hN4 := hN2.kept hU4'
  have hr4 := hr2.kept hU4'
  obtain ⟨w5, hw5⟩ : ∃ w5, w5 = w4.alloc (.cells #[.string (B f), .slice sa ts.length sc] 43) := ⟨_, rfl⟩
  have hU5 : Upto none' w4 w5 := by rw [hw5]; exact (Upto.refl none' w4).alloc _
  have hs5 : Box2 w5 w4.heap.size (.string (B f)) (.slice sa ts.length sc) 43 := by rw [hw5]; exact Box2.at_new rfl
  have hN5 := hN4.kept hU5
  have hr5 := hr4.kept hU5
  have hS5 := hS4.on hU5
  have hUw5 := (hU2.and hU4').and hU5
  have hvP : RepE (fun b => b < B0 ∨ b = w4.heap.size) w5 2 (ts.map Sm.dat) sa 0 := by
    obtain ⟨va, vcap, hve, _, hvE4⟩ := hS4.rep
    cases hve
    exact (RepE.weaken (fun b _ e => e.elim .inl (fun e => .inr (by omega))) _ _ _ _ (RepE.fresh' _ _ _ _ hvE4)).on hU5
  have hw54 : H + 2 ≤ w4.heap.size := by have := hU4'.size; omega
  have hB0' : H + 2 < B0 := by rw [World.size_alloc] at hB0; omega
  have hz5 : w5.heap.size = w4.heap.size + 1 := by rw [hw5]; simp
  have hB04 : ∀ g cap', Value.slice sa ts.length sc = .slice (some ⟨g, 0, none⟩) ts.length cap' → g < w4.heap.size := fun g c e => by
    cases e
    exact (hS4.2.2.1.lt g rfl).2
  have HB04 := hid hB04
  have HW5 := hid hw5
  obtain ⟨P, hP⟩ : ∃ P, P = w4.heap.size := ⟨_, rfl⟩
  rw [← hP] at hs5 hw54 hz5 hvP
  have HVP := hid hvP
  have HP := hid hP
  have hsz := hF.size
  have hwt := hF.wt
  clear hN2 hr2 hT hS4 hU4 hU4' hN4 hr4 hT4 hU2 hU5 hw5 hP hB0 hB04 hF hscap hvP
  simp only [Sm.size_mk, Sm.wt_mk] at hsz hwt
  obtain ⟨q0, q1⟩ := hN5.cells
  obtain ⟨s0, s1⟩ := hs5.cells
  have hcb0 := cutV_bd n0 4 (by omega)
  have K1 := fun W => cut_val n0 4 (by omega) (by omega) W
  generalize cutV n0 4 = c0 at *
  -- the ending: s's box is read into the result
  have fin : ∀ (W : World) (f' : List UInt8) (a' : Option Addr) (l' cap' : Nat) (s' : Sm), Upto none' w W → Rep (fun b => b < B0) W s'.dat [.string (B f'), .slice a' l' cap'] → s'.size ≤ 15 → s'.wt ≤ 100 → Box2 W (H + 1) (.string (B [])) (.slice none 0 0) 43 →
      SpoiltS w (.returned (.agg #[.string (B f'), .slice a' l' cap'])) ((W.setCell ⟨H + 1, 0, none⟩ (.string (B f'))).setCell ⟨H + 1, 1, none⟩ (.slice a' l' cap')) := by
    intro W f' a' l' cap' s' hU hR h1 h2 hb
    have hset := hb.set (d0 := .string (B f')) (d1 := .slice a' l' cap')
    exact ⟨f', a', l', cap', s', rfl, Rep.weaken (fun b _ e => by have := HH.out; omega) _ _ (Rep.keep hset.2 (fun b e => by show b < B0; omega) _ _ hR), h1, h2, hU.trans hset.2 (fun b hb e => by have := HH.out; omega)⟩
  have HFIN := hid fin
  clear fin
  go_upto_region 2 with fail
  rw [← HP.out, ← HW5.out]
  go_wp2_with fail
  refine (K1 _).mono ?_
  rintro e w6 ⟨rfl, rfl⟩
  obtain ⟨va, vcap, hve, hvc, hvE⟩ := hS5.rep
  cases hve
  by_cases hc0 : 0 < c0
  · obtain ⟨x0, x1⟩ := hr5.cells
    obtain ⟨y0, y1⟩ := hr5.frozens
    have hrz := hr5.lt
    have hset := hr5.set (d0 := .string (B f)) (d1 := .slice sa ts.length sc)
    obtain ⟨e0, e1⟩ := hset.1.cells
    have HE := hid (And.intro e0 e1)
    have HVE := hid hvE
    clear e0 e1 hset hvE
    go_wp2_with fail
    obtain ⟨e0, e1⟩ := HE.out
    refine bodyPost_ret (v := .agg #[.string (B f), .slice sa ts.length sc]) ?_ rfl ?_
    · simp [results, Tryd.f24, go_sem, e0, e1]
    · exact HFIN.out w5 f sa ts.length sc (.mk f ts) hUw5 (rep_sm.2 ⟨sa, sc, rfl, hvc, HVE.out⟩) (by simp only [Sm.size_mk]; omega) (by simp only [Sm.wt_mk]; omega) hr5
  obtain rfl : c0 = 0 := by omega
  have hcb1 := cutV_bd n1 2 (by omega)
  have K2 := fun W => cut_val n1 2 (by omega) (by omega) W
  generalize cutV n1 2 = c1 at *
  have hl2 : ts.length ≤ 15 := by have := Sm.length_le_sizes ts; omega
  by_cases hways : 0 < ts.length ∧ c1 = 0
  · obtain ⟨hl0, rfl⟩ := hways
    have hl0' : (0 : Int) < (ts.length : Int) := by omega
    go_wp2_with (first | ((go_at_call 26); (with_reducible refine (K2 _).mono ?_); rintro e w7 ⟨rfl, rfl⟩))
    obtain ⟨g, rfl⟩ := hS5.at hl0
    have hbd3 := cutV_bd (IntKind.i64.wrap (n1.tdiv 2)) 3 (by omega)
    have K3 := fun W => cut_val (IntKind.i64.wrap (n1.tdiv 2)) 3 (by omega) (by omega) W
    obtain ⟨c3, hc3⟩ : ∃ c, c = cutV (IntKind.i64.wrap (n1.tdiv 2)) 3 := ⟨_, rfl⟩
    rw [← hc3] at K3 hbd3
    clear hc3
    obtain ⟨t, ts', rfl⟩ : ∃ t ts', ts = t :: ts' := by
      cases ts with
      | nil => simp at hl0
      | cons t ts' => exact ⟨t, ts', rfl⟩
    simp only [List.length_cons] at hS5 hs5 s1 hvc hl0 hl0' hl2 ⊢
    have hlen1 : (1 : Int) ≤ (ts'.length : Int) + 1 := by omega
    have hf0 := hS5.first (f' := [])
    obtain ⟨hgB, hgf, ⟨n', hgc⟩, _⟩ := hf0
    have hgP : g < P := by have := HB04.out g sc rfl; have := HP.out; omega
    have Sd : SpS P H f (.slice (some ⟨g, 0, none⟩) (ts'.length + 1) sc) (.int .i64 n1) w5.drew := ⟨s0, s1, q1⟩
    have Se : SpS P H f (.slice (some ⟨g, 0, none⟩) (ts'.length + 1) sc) (.int .i64 n1) (w5.alloc (.cells #[.string (B []), .string (B [97, 32, 98]), .string (B [45, 62])] 9)).drew := ⟨(hs5.kept ((Upto.refl none' _).alloc _)).cells.1, (hs5.kept ((Upto.refl none' _).alloc _)).cells.2, (hN5.kept ((Upto.refl none' _).alloc _)).cells.2⟩
    have hgU : ∀ v, Upto (fun b => b = g) w5 (w5.setCell ⟨g, 0, none⟩ v) := fun v => Upto.set (Upto.refl _ _) 0 _
    have Sg : ∀ v, SpS P H f (.slice (some ⟨g, 0, none⟩) (ts'.length + 1) sc) (.int .i64 n1) ((w5.setCell ⟨g, 0, none⟩ v).alloc (.cells #[.string (B []), .string (B [97, 32, 98]), .string (B [45, 62])] 9)).drew := fun v => by
      have h1 := ((hs5.keep (hgU v) (by omega)).kept ((Upto.refl none' _).alloc (.cells #[.string (B []), .string (B [97, 32, 98]), .string (B [45, 62])] 9))).cells
      have h2 := ((hN5.keep (hgU v) (by omega)).kept ((Upto.refl none' _).alloc (.cells #[.string (B []), .string (B [97, 32, 98]), .string (B [45, 62])] 9))).cells
      exact ⟨h1.1, h1.2, h2.2⟩
    have hways3 : c3 = 0 ∨ c3 = 1 ∨ c3 = 2 := by omega
    go_cut [33] from 25 to 35 (fun v33 wx => ∃ f3 : List UInt8, v33 = .string (B f3) ∧ f3.length ≤ 3 ∧ Upto none' (w5.setCell ⟨g, 0, none⟩ (.string (B f3))) wx)
    case first =>
      rcases hways3 with rfl | rfl | rfl
      all_goals
        go_region_law ((rw [if_pos (by rfl)]); go_simp; (go_at_call 26); (with_reducible refine (K3 _).mono ?_); rintro e w7 ⟨rfl, rfl⟩)
      all_goals
        go_wp2_with fail
        go_meet
      all_goals first
        | exact ⟨[], rfl, by simp, ((Upto.refl none' _).alloc _).drew⟩
        | exact ⟨[97, 32, 98], rfl, by simp, ((Upto.refl none' _).alloc _).drew⟩
        | exact ⟨[45, 62], rfl, by simp, ((Upto.refl none' _).alloc _).drew⟩
    case rest =>
      obtain ⟨f3, rfl, hf3, hUc⟩ := hcut
      obtain ⟨w8, rfl⟩ : ∃ q, q = wc := ⟨wc, rfl⟩
      have hgH : g ≠ H + 1 := by omega
      have hs8 := (hs5.keep (hgU (.string (B f3))) (by omega)).kept hUc
      have hr8 := (hr5.keep (hgU (.string (B f3))) (by omega)).kept hUc
      have hE8 := (hS5.first (f' := f3)).2.2.2.on hUc
      have hU8 := (hUw5.trans (hgU (.string (B f3))) (fun b hb e => by have := HH.out; omega)).and hUc
      have hsz' : (Sm.mk f (.mk f3 t.args :: ts')).size ≤ 15 ∧ (Sm.mk f (.mk f3 t.args :: ts')).wt ≤ 100 := by
        cases t with
        | mk ft lt =>
          simp only [Sm.sizes, Sm.wts, Sm.size_mk, Sm.wt_mk, Sm.args_mk] at hsz hwt ⊢
          exact ⟨by omega, by omega⟩
      have hfin8 := HFIN.out w8 f (some ⟨g, 0, none⟩) (ts'.length + 1) sc (.mk f (.mk f3 t.args :: ts')) hU8 (rep_sm.2 ⟨_, sc, rfl, hvc, hE8⟩) hsz'.1 hsz'.2 hr8
      have HF8 := hid hfin8
      obtain ⟨u0, u1⟩ := hs8.cells
      obtain ⟨x0, x1⟩ := hr8.cells
      obtain ⟨y0, y1⟩ := hr8.frozens
      have hrz := hr8.lt
      have hset := hr8.set (d0 := .string (B f)) (d1 := .slice (some ⟨g, 0, none⟩) (ts'.length + 1) sc)
      obtain ⟨e0, e1⟩ := hset.1.cells
      have HE := hid (And.intro e0 e1)
      clear e0 e1 hset hfin8 hE8 hsz' hvE Sd Se Sg
      go_wp2_with fail
      obtain ⟨e0, e1⟩ := HE.out
      refine bodyPost_ret (v := .agg #[.string (B f), .slice (some ⟨g, 0, none⟩) (ts'.length + 1) sc]) ?_ rfl ?_
      · simp [results, Tryd.f24, go_sem, e0, e1]
      · exact HF8.out
  · have hways2 : ts.length = 0 ∨ (0 < ts.length ∧ c1 = 1) := by omega
    have hbd4 := cutV_bd (wrap64 (n1.tdiv 2)) 4 (by omega)
    have K4 := fun W => cut_val (wrap64 (n1.tdiv 2)) 4 (by omega) (by omega) W
    obtain ⟨c4, hc4⟩ : ∃ c, c = cutV (wrap64 (n1.tdiv 2)) 4 := ⟨_, rfl⟩
    rw [← hc4] at K4 hbd4
    clear hc4 hways
    have hways4 : c4 = 0 ∨ c4 = 1 ∨ c4 = 2 ∨ c4 = 3 := by omega
    have HVE := hid hvE
    clear hvE
    clear hz5
    have qN := hN5.lt
    have qP := hs5.lt
    obtain ⟨z0, z1⟩ := hs5.frozens
    rcases hways2 with h0 | ⟨h0, rfl⟩
    · have h0' : (ts.length : Int) = 0 := by omega
      go_upto_region 6 with fail
      go_cut [] from 36 to 43 (fun wx => ∃ f4 : List UInt8, f4.length ≤ 4 ∧ Upto (fun b => b = P) w5 wx ∧ Box2 wx P (.string (B f4)) (.slice sa ts.length sc) 43)
      case first =>
        rcases hways4 with rfl | rfl | rfl | rfl
        all_goals
          go_wp2_with (first | ((go_at_call 26); (with_reducible refine (K4 _).mono ?_); rintro e w7 ⟨rfl, rfl⟩))
          go_meet
        all_goals first
          | exact ⟨[], by simp, (Upto.set (Upto.refl _ _) 0 _).alloc _, (hs5.set0 _).kept ((Upto.refl none' _).alloc _)⟩
          | exact ⟨[64, 120], by simp, (Upto.set (Upto.refl _ _) 0 _).alloc _, (hs5.set0 _).kept ((Upto.refl none' _).alloc _)⟩
          | exact ⟨[95], by simp, (Upto.set (Upto.refl _ _) 0 _).alloc _, (hs5.set0 _).kept ((Upto.refl none' _).alloc _)⟩
          | exact ⟨[116, 121, 112, 101], by simp, (Upto.set (Upto.refl _ _) 0 _).alloc _, (hs5.set0 _).kept ((Upto.refl none' _).alloc _)⟩
      case rest =>
        obtain ⟨f4, hf4, hUc, hs8⟩ := hcut
        obtain ⟨w8, rfl⟩ : ∃ q, q = wc := ⟨wc, rfl⟩
        clear h0 h0'
        have hr8 := hr5.keep hUc (by omega)
        have hE8 := RepE.weaken (O' := fun b => b < B0) (fun b _ e => .inl e) _ _ _ _ (RepE.keep hUc (fun b e => .inr e) _ _ _ _ HVP.out)
        have hU8 : Upto none' w w8 := hUw5.trans hUc (fun b hb e => by have := HH.out; omega)
        have hfin8 := HFIN.out w8 f4 sa ts.length sc (.mk f4 ts) hU8 (rep_sm.2 ⟨_, sc, rfl, hvc, hE8⟩) (by simp only [Sm.size_mk]; omega) (by simp only [Sm.wt_mk]; omega) hr8
        have HF8 := hid hfin8
        obtain ⟨u0, u1⟩ := hs8.cells
        obtain ⟨x0, x1⟩ := hr8.cells
        obtain ⟨y0, y1⟩ := hr8.frozens
        have hrz := hr8.lt
        have hset := hr8.set (d0 := .string (B f4)) (d1 := .slice sa ts.length sc)
        obtain ⟨e0, e1⟩ := hset.1.cells
        have HE := hid (And.intro e0 e1)
        clear e0 e1 hset hfin8 hE8
        go_wp2_with fail
        obtain ⟨e0, e1⟩ := HE.out
        refine bodyPost_ret (v := .agg #[.string (B f4), .slice sa ts.length sc]) ?_ rfl ?_
        · simp [results, Tryd.f24, go_sem, e0, e1]
        · exact HF8.out
    · have h0' : (0 : Int) < (ts.length : Int) := by omega
      go_upto_region 6 with (first | ((go_at_call 26); (with_reducible refine (K2 _).mono ?_); rintro e w7 ⟨rfl, rfl⟩))
      go_cut [] from 36 to 43 (fun wx => ∃ f4 : List UInt8, f4.length ≤ 4 ∧ Upto (fun b => b = P) w5 wx ∧ Box2 wx P (.string (B f4)) (.slice sa ts.length sc) 43)
      case first =>
        rcases hways4 with rfl | rfl | rfl | rfl
        all_goals
          go_wp2_with (first | ((go_at_call 26); (with_reducible refine (K4 _).mono ?_); rintro e w7 ⟨rfl, rfl⟩))
          go_meet
        all_goals first
          | exact ⟨[], by simp, (Upto.set (Upto.refl _ _) 0 _).alloc _, (hs5.set0 _).kept ((Upto.refl none' _).alloc _)⟩
          | exact ⟨[64, 120], by simp, (Upto.set (Upto.refl _ _) 0 _).alloc _, (hs5.set0 _).kept ((Upto.refl none' _).alloc _)⟩
          | exact ⟨[95], by simp, (Upto.set (Upto.refl _ _) 0 _).alloc _, (hs5.set0 _).kept ((Upto.refl none' _).alloc _)⟩
          | exact ⟨[116, 121, 112, 101], by simp, (Upto.set (Upto.refl _ _) 0 _).alloc _, (hs5.set0 _).kept ((Upto.refl none' _).alloc _)⟩
      case rest =>
        obtain ⟨f4, hf4, hUc, hs8⟩ := hcut
        obtain ⟨w8, rfl⟩ : ∃ q, q = wc := ⟨wc, rfl⟩
        clear h0 h0'
        have hr8 := hr5.keep hUc (by omega)
        have hE8 := RepE.weaken (O' := fun b => b < B0) (fun b _ e => .inl e) _ _ _ _ (RepE.keep hUc (fun b e => .inr e) _ _ _ _ HVP.out)
        have hU8 : Upto none' w w8 := hUw5.trans hUc (fun b hb e => by have := HH.out; omega)
        have hfin8 := HFIN.out w8 f4 sa ts.length sc (.mk f4 ts) hU8 (rep_sm.2 ⟨_, sc, rfl, hvc, hE8⟩) (by simp only [Sm.size_mk]; omega) (by simp only [Sm.wt_mk]; omega) hr8
        have HF8 := hid hfin8
        obtain ⟨u0, u1⟩ := hs8.cells
        obtain ⟨x0, x1⟩ := hr8.cells
        obtain ⟨y0, y1⟩ := hr8.frozens
        have hrz := hr8.lt
        have hset := hr8.set (d0 := .string (B f4)) (d1 := .slice sa ts.length sc)
        obtain ⟨e0, e1⟩ := hset.1.cells
        have HE := hid (And.intro e0 e1)
        clear e0 e1 hset hfin8 hE8
        go_wp2_with fail
        obtain ⟨e0, e1⟩ := HE.out
        refine bodyPost_ret (v := .agg #[.string (B f4), .slice sa ts.length sc]) ?_ rfl ?_
        · simp [results, Tryd.f24, go_sem, e0, e1]
        · exact HF8.out
end Go.Proofs.YtnhmogmpbgadiaaDoor
