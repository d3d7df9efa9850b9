/- Layer 22's kinds, flags and term. -/
import Derived.Test.YtnhmogmpbgadiaaDoorCH
import Derived.Test.YtnhmogmpbgadiaaDoorCM
import Derived.Test.YtnhmogmpbgadiaaDoorCN
import Derived.Test.YtnhmogmpbgadiaaDoorCP
import Derived.Deep.RegionHeld3
namespace Go.Proofs.YtnhmogmpbgadiaaDoor
open Go.RowKit Go.LF
/-- A list of kinds, in new blocks. -/
def Kinds (T : Nat) (w : World) (e : Ending) (w' : World) : Prop :=
  ∃ (ks : List Int) (a : Option Addr) (cap : Nat), e = .returned (.slice a ks.length cap) ∧ ks.length ≤ 6 ∧ RepE (fun b => b < w.heap.size) w' 1 (ks.map (Dat.int .i64)) a 0 ∧ TapeOk w' T ∧ Upto (isT T) w w'
theorem kinds6_at {W : World} {b : Nat} {T' : TypeId} {fr : Nat × Nat} (h : W.heap[b]? = some (.cells #[.int .i64 0, .int .i64 1, .int .i64 2, .int .i64 1, .int .i64 7, .int .i64 (-1)] T' fr)) (c : Nat) (hc : (c : Int) < 6) :
    ∃ k : Int, W.cell? ⟨b, c, none⟩ = some (.int .i64 k) := by
  have hcell : ∀ i, W.cell? ⟨b, i, none⟩ = (#[.int .i64 0, .int .i64 1, .int .i64 2, .int .i64 1, .int .i64 7, .int .i64 (-1)] : Array Value)[i]? := fun i => by simp [World.cell?, h]
  have hk : c = 0 ∨ c = 1 ∨ c = 2 ∨ c = 3 ∨ c = 4 ∨ c = 5 := by omega
  rcases hk with rfl | rfl | rfl | rfl | rfl | rfl
  · exact ⟨_, (hcell 0)⟩
  · exact ⟨_, (hcell 1)⟩
  · exact ⟨_, (hcell 2)⟩
  · exact ⟨_, (hcell 3)⟩
  · exact ⟨_, (hcell 4)⟩
  · exact ⟨_, (hcell 5)⟩
set_option maxRecDepth 100000 in
set_option maxHeartbeats 8000000 in
theorem kinds22_any (T : Nat) (w : World) (hT : TapeOk w T) : Calls Tryd.prog 11 #[.pointer (some ⟨T, 0, none⟩)] w (Kinds T w) := by
  have NX := fun (n : Int) h0 h1 w hT => next_any n h0 h1 T w hT
  have hTl := hT.lt
  obtain ⟨i0, hi, hi0, hi1, hi2⟩ := info_parts info_int
  obtain ⟨H, hH⟩ : ∃ H, H = w.heap.size := ⟨_, rfl⟩
  have HH := hid hH
  clear hH
  go_enter Tryd.func11, Tryd.ntmps11
  go_wp2_with fail
  refine (NX _ (by omega) (by omega) _ hT).mono ?_
  rintro e w1 ⟨⟨nn, hnn, rfl⟩, hT1, hU1⟩
  have hnn5 : nn ≤ 6 := by omega
  go_wp2_with fail
  go_loopw [3, 4] (fun v3 v4 wr => ∃ (m : Nat) (ks : List Int), v4 = .int .i64 m ∧ m + ks.length ≤ 6 ∧ Ints H wr v3 ks ∧ TapeOk wr T ∧ Upto (isT T) w wr) (fun _ v4 _ => (intOf v4).toNat)
  case atStart => exact ⟨nn, [], rfl, by simpa using hnn5, World.ownsRow_nil _ _ _ _, hT1, hU1⟩
  case round =>
    clear hT1 hU1
    obtain ⟨m, ks, rfl, hmk, hI, hTr, hU⟩ := hrel
    obtain ⟨va, vcap, hva, hvc, hE⟩ := ints_open hI.rep
    subst hva
    by_cases hm0 : 0 < m
    · have hm1 : (0 : Int) < (m : Int) := by omega
      obtain ⟨wa, hwa⟩ : ∃ wa, wa = wr.alloc (.cells #[.int .i64 0, .int .i64 1, .int .i64 2, .int .i64 1, .int .i64 7, .int .i64 (-1)] 3) := ⟨_, rfl⟩
      have hUa : Upto none' wr wa := by rw [hwa]; exact (Upto.refl none' wr).alloc _
      have hka : wa.heap[wr.heap.size]? = some (.cells #[.int .i64 0, .int .i64 1, .int .i64 2, .int .i64 1, .int .i64 7, .int .i64 (-1)] 3 (0, 0)) := by rw [hwa]; exact heap_alloc_new wr _
      have hza : wa.heap.size = wr.heap.size + 1 := by rw [hwa]; simp
      have HWA := hid hwa
      clear hwa
      go_wp2_with fail
      rw [← HWA.out]
      refine (NX _ (by omega) (by omega) _ (hTr.on hUa)).mono ?_
      rintro e w5 ⟨⟨c, hc, rfl⟩, hT5, hU5⟩
      have hrz : w.heap.size ≤ wr.heap.size := hU.size
      have hk5 : w5.heap[wr.heap.size]? = some (.cells #[.int .i64 0, .int .i64 1, .int .i64 2, .int .i64 1, .int .i64 7, .int .i64 (-1)] 3 (0, 0)) := (hU5.block _ (by omega) (fun e => by simp only [isT] at e; omega)).trans hka
      obtain ⟨x, hx⟩ := kinds6_at hk5 c hc
      have hU5' : Upto (isT T) wr w5 := (hUa.mono (fun _ _ x => x.elim)).trans hU5 (fun _ _ x => x)
      have hI5 : Ints H w5 (.slice va ks.length vcap) ks := by
        refine ⟨hI.1, ?_⟩
        rcases hI.2 with h5 | ⟨g, cap, cur, h1, hb, hg, rest⟩
        · exact .inl h5
        · exact .inr ⟨g, cap, cur, h1, hb, (hU5'.block g (Array.getElem?_eq_some_iff.1 hg).1 (fun e => by simp only [isT] at e; have := HH.out; omega)).trans hg, rest⟩
      have c0 : (0 : Int) ≤ (c : Int) := by omega
      have hz5 : H ≤ w5.heap.size := by have := hU5'.size; have := HH.out; omega
      have hUw5 := hU.trans hU5' (fun _ _ x => x)
      have hkl : ks.length ≤ 6 := by omega
      clear hk5 hI hE hka
      go_wp2_with (at_builtin; refine wpList_append_own _ rfl _ _ 22 rfl H 3 i0 (.int .i64 0) 1 8 (by kernel_rfl) hi hi0 hi1 hi2 rfl (by decide) _ _ _ rfl (World.ownsRow.alloc hI5 _) ⟨w5.heap.size, 0, none⟩ 1 1 [.int .i64 x] rfl rfl (cell_one_new _ _ _) (by simp [Value.oneCell']) (by simp only [maxLen]; omega) (by omega) (by simp; omega) ?_; intro v' w0 hown' hgrow _; obtain ⟨g', cap', rfl⟩ := ownsRow_succ hown')
      have hI7 : Ints H w0 (.slice (some ⟨g', 0, none⟩) (ks.length + 1) cap') (ks ++ [x]) := by unfold Ints; simpa using hown'
      have hru := RowUp.grown (World.ownsRow.alloc hI5 (.cells #[.int .i64 x] 3)) hgrow
      have hT7 := (hT5.on ((Upto.refl none' w5).alloc (.cells #[.int .i64 x] 3))).far (Upto.ofRow hru) (fun b e => by have := HH.out; omega)
      have hU7 := (hUw5.trans ((Upto.refl none' w5).alloc (.cells #[.int .i64 x] 3)) (fun _ _ x => x.elim)).trans (Upto.ofRow hru) (fun b hb e => by have := HH.out; omega)
      clear hown' hgrow hI5
      go_roundw
      case rel => exact ⟨m - 1, ks ++ [x], int_eq (by omega), by simp; omega, hI7, hT7, hU7⟩
      case measure => simp [intOf]; omega
    · obtain rfl : m = 0 := by omega
      go_wp2_with fail
      go_ret
      exact ⟨ks, va, vcap, rfl, by omega, by rw [← HH.out]; exact hE, hTr, hU⟩
theorem take_eq_succ' {α : Type} (l m : List α) (j : Nat) (h1 : j < l.length) (h2 : j < m.length) (h : l.take j = m.take j) (e : l[j] = m[j]) : l.take (j + 1) = m.take (j + 1) := by
  rw [List.take_succ_eq_append_getElem h1, List.take_succ_eq_append_getElem h2, h, e]
set_option maxRecDepth 100000 in
set_option maxHeartbeats 4000000 in
theorem flags_any (l m : List Bool) (hl : l.length ≤ 10000000) (hm : m.length ≤ 10000000) {O O' : Nat → Prop} (w : World) (a a' : Option Addr) (cap cap' : Nat) (hE : RepE O w 1 (l.map Dat.bool) a 0) (hE' : RepE O' w 1 (m.map Dat.bool) a' 0) :
    Calls Tryd.prog 13 #[.slice a l.length cap, .slice a' m.length cap'] w fun e w' => e = .returned (.bool (l == m)) ∧ Upto none' w w' := by
  obtain ⟨r, hr⟩ : ∃ r, r = (l == m) := ⟨_, rfl⟩
  rw [← hr]
  have HR := hid hr
  clear hr
  by_cases hlen : l.length = m.length
  case neg =>
    have hl2 : ((l.length : Int) != m.length) = true := by simp; omega
    have hrf : r = false := by rw [HR.out]; simp; intro e; exact hlen (by rw [e])
    subst hrf
    have HLN := hid hlen
    clear hlen
    go_enter Tryd.func13, Tryd.ntmps13
    go_wp2_with fail
    go_ret
    exact ⟨rfl, Upto.refl _ _⟩
  have hl2 : ((l.length : Int) != m.length) = false := by simp; omega
  have HLN := hid hlen
  clear hlen
  go_enter Tryd.func13, Tryd.ntmps13
  go_wp2_with fail
  go_loopw [5] (fun v5 wr => ∃ j : Nat, j ≤ l.length ∧ v5 = .int .i64 j ∧ l.take j = m.take j ∧ Upto none' w wr)
    (fun v5 _ => l.length - (intOf v5).toNat)
  case atStart => exact ⟨0, Nat.zero_le _, rfl, rfl, Upto.refl _ _⟩
  case round =>
    obtain ⟨j, hj, rfl, hA, hU⟩ := hrel
    have HA := hid hA
    clear hA
    by_cases hlt : j < l.length
    · have hlt2 : j < m.length := by have := HLN.out; omega
      obtain ⟨b, o, rfl, hb, _, hc⟩ := bool_cell (hE.on hU) j hlt
      obtain ⟨b', o', rfl, hb', _, hc'⟩ := bool_cell (hE'.on hU) j hlt2
      have j0 : (0 : Int) ≤ (j : Int) := by omega
      have j1 : (j : Int) < (l.length : Int) := by omega
      have j2 : (j : Int) < (m.length : Int) := by omega
      have hTk := take_eq_succ' l m j hlt hlt2 HA.out
      have hM : l[j] ≠ m[j] → l ≠ m := by intro hne e; subst e; exact hne rfl
      have HT := hid hTk
      have HM := hid hM
      clear hTk hM
      generalize l[j] = x at *
      generalize m[j] = y at *
      have hHL := hid hlt
      clear hlt hlt2
      have fin : x = y → ∃ j1 : Nat, j1 ≤ l.length ∧ Value.int .i64 ((j : Int) + 1) = .int .i64 j1 ∧ l.take j1 = m.take j1 ∧ Upto none' w wr.drew :=
            fun e => ⟨j + 1, by have := hHL.out; omega, by go_num, HT.out e, hU.drew⟩
      have bad : x ≠ y → r = false := fun e => by rw [HR.out]; have := HM.out e; simpa using this
      have HFI := hid fin
      have HBA := hid bad
      clear fin bad
      cases x <;> cases y
      · go_wp2_with fail
        go_region
        go_wp2
        go_roundw
        case rel => first | exact HFI.out trivial | exact HFI.out rfl | exact HFI.out | exact ⟨j + 1, (by have := hHL.out; omega), (by go_num), HT.out, hU.drew⟩ | exact ⟨j + 1, (by have := hHL.out; omega), (by go_num), HT.out rfl, hU.drew⟩
        case measure => (have := hHL.out; simp [intOf]; omega)
      · go_wp2_with fail
        go_region
        go_wp2
        go_ret
        exact ⟨ret_bool (HBA.out (by simp)).symm, hU.drew⟩
      · go_wp2_with fail
        go_region
        go_wp2
        go_ret
        exact ⟨ret_bool (HBA.out (by simp)).symm, hU.drew⟩
      · go_wp2_with fail
        go_region
        go_wp2
        go_roundw
        case rel => first | exact HFI.out trivial | exact HFI.out rfl | exact HFI.out | exact ⟨j + 1, (by have := hHL.out; omega), (by go_num), HT.out, hU.drew⟩ | exact ⟨j + 1, (by have := hHL.out; omega), (by go_num), HT.out rfl, hU.drew⟩
        case measure => (have := hHL.out; simp [intOf]; omega)
    · have hj' : l.take j = l := List.take_of_length_le (by omega)
      have hj2 : m.take j = m := List.take_of_length_le (by have := HLN.out; omega)
      have HA' := HA.out
      rw [hj', hj2] at HA'
      have HO := hid HA'
      clear HA HA' hj' hj2
      go_wp2
      go_ret
      exact ⟨ret_bool (by rw [HR.out, HO.out]; simp), hU⟩
/-- Some term of bounded size. -/
def Some22 (T : Nat) (w : World) (e : Ending) (w' : World) : Prop :=
  ∃ (k i : Int) (n : List UInt8) (a : Option Addr) (len cap : Nat) (t : Tm), e = .returned (.agg #[.int .i64 k, .string (B n), .int .i64 i, .slice a len cap]) ∧
    Rep none' w' t.dat [.int .i64 k, .string (B n), .int .i64 i, .slice a len cap] ∧ t.wt ≤ 10000 ∧ Upto (isT T) w w'
set_option maxRecDepth 100000 in
set_option maxHeartbeats 8000000 in
theorem term22_any (T : Nat) (w : World) (hT : TapeOk w T) (hN : NamesOk T w) : Calls Tryd.prog 12 #[.pointer (some ⟨T, 0, none⟩)] w (Some22 T w) := by
  have NX := fun (n : Int) h0 h1 w hT => next_any n h0 h1 T w hT
  have hTl := hT.lt
  have AN : ∀ W, TapeOk W T → NamesOk T W → Calls Tryd.prog 25 #[.pointer (some ⟨T, 0, none⟩), .int .i64 3, .int .i64 5, .int .i64 1] W (MakesA W.heap.size (2 ^ (2 + 2) + 2) 5 1 T W) := fun W h1 h2 => anyTerm_any 2 (by omega) 5 1 (by omega) (by omega) T W h1 h2
  have OC : ∀ W, TapeOk W T → NamesOk T W → Calls Tryd.prog 23 #[.pointer (some ⟨T, 0, none⟩), .int .i64 3, .int .i64 4] W (MakesO W.heap.size 3 T W) := fun W h1 h2 => occ_any 3 (by omega) T 4 (by omega) W h1 h2
  obtain ⟨w1, hw1⟩ : ∃ w1, w1 = w.alloc (.cells #[.int .i64 0, .string (B []), .int .i64 0, .slice none 0 0] 29) := ⟨_, rfl⟩
  have hU1 : Upto none' w w1 := by rw [hw1]; exact (Upto.refl none' w).alloc _
  have hr1 : Box4 w1 w.heap.size (.int .i64 0) (.string (B [])) (.int .i64 0) (.slice none 0 0) 29 := by rw [hw1]; exact Box4.at_new rfl
  have hresne : w.heap.size ≠ T := by omega
  have HW1 := hid hw1
  clear hw1
  go_enter Tryd.func12, Tryd.ntmps12
  go_wp2_with fail
  rw [← show B [] = { data := #[] } from rfl, ← HW1.out]
  refine (NX _ (by omega) (by omega) _ (hT.on hU1)).mono ?_
  rintro e w2 ⟨⟨c, hc, rfl⟩, hT2, hU2⟩
  have hN2 := (hN.on hU1).keep hU2
  have hr2 := hr1.keep hU2 hresne
  have hw2 : Upto (isT T) w w2 := upto_then hU1 hU2
  clear hU1 hr1 hU2 hT hN
  by_cases hc0 : c = 0
  · subst hc0
    go_wp2_with fail
    (with_reducible refine (AN _ hT2 hN2).mono ?_)
    rintro e w3 ⟨k3, i3, n3, a3, len3, cap3, t, rfl, hR3, hF3, hT3, hN3, hU3⟩
    go_wp2_with fail
    refine (NX _ (by omega) (by omega) _ hT3).mono ?_
    rintro e w4 ⟨⟨c4, hc4, rfl⟩, hT4, hU4⟩
    go_wp2_with fail
    refine (NX _ (by omega) (by omega) _ hT4).mono ?_
    rintro e w5 ⟨⟨c5, hc5, rfl⟩, hT5, hU5⟩
    have hz3 := hr2.lt
    have hR5 : Rep (fun b => b < w2.heap.size) w5 t.dat [.int .i64 k3, .string (B n3), .int .i64 i3, .slice a3 len3 cap3] := Rep.keep hU5 (fun b e => by simp only [isT] at e; omega) _ _ (Rep.keep hU4 (fun b e => by simp only [isT] at e; omega) _ _ hR3)
    have hwt := hF3.wt
    have hr5 := ((hr2.keep hU3 hresne).keep hU4 hresne).keep hU5 hresne
    have hw5 := ((hw2.trans hU3 (fun _ _ x => x)).trans hU4 (fun _ _ x => x)).trans hU5 (fun _ _ x => x)
    go_wp2_with fail
    refine (spoil_any t (by simp at hwt; omega) (fun b => b < w2.heap.size) _ _ _ _ hR5).mono ?_
    rintro e w6 ⟨k6, i6, n6, a6, len6, cap6, u, rfl, hR6, hw6, hU6⟩
    have hr6 := hr5.kept hU6
    obtain ⟨x0, x1, x2, x3⟩ := hr6.cells
    obtain ⟨y0, y1, y2, y3⟩ := hr6.frozens
    have hset := hr6.set (d0 := .int .i64 k6) (d1 := .string (B n6)) (d2 := .int .i64 i6) (d3 := .slice a6 len6 cap6)
    obtain ⟨e0, e1, e2, e3⟩ := hset.1.cells
    have HE := hid (And.intro e0 (And.intro e1 (And.intro e2 e3)))
    have HS := hid hset
    clear e0 e1 e2 e3 hset
    go_wp2_with fail
    obtain ⟨e0, e1, e2, e3⟩ := HE.out
    refine bodyPost_ret (v := .agg #[.int .i64 k6, .string (B n6), .int .i64 i6, .slice a6 len6 cap6]) ?_ rfl ?_
    · simp [results, Tryd.f12, go_sem, e0, e1, e2, e3]
    · have hz5 := hr5.lt
      exact ⟨k6, i6, n6, a6, len6, cap6, u, rfl, Rep.weaken (fun _ _ x => x.elim) _ _ (Rep.keep HS.out.2 (fun b e => ⟨by omega, by omega⟩) _ _ hR6), by simp at hwt; omega, (hw5.trans hU6 (fun _ _ x => x.elim)).trans HS.out.2 (fun b hb e => by omega)⟩
  · have hc1 : ((c : Int) == 0) = false := by simp; omega
    clear hc0
    go_wp2_with fail
    (with_reducible refine (OC _ hT2 hN2).mono ?_)
    rintro e w3 ⟨k6, i6, n6, a6, len6, cap6, u, rfl, hR6, hF6, hT3, hN3, hU6⟩
    have hr6 := hr2.keep hU6 hresne
    have hz2 := hr2.lt
    have hwt := hF6.wt0 (by omega)
    obtain ⟨x0, x1, x2, x3⟩ := hr6.cells
    obtain ⟨y0, y1, y2, y3⟩ := hr6.frozens
    have hset := hr6.set (d0 := .int .i64 k6) (d1 := .string (B n6)) (d2 := .int .i64 i6) (d3 := .slice a6 len6 cap6)
    obtain ⟨e0, e1, e2, e3⟩ := hset.1.cells
    have HE := hid (And.intro e0 (And.intro e1 (And.intro e2 e3)))
    have HS := hid hset
    clear e0 e1 e2 e3 hset
    go_wp2_with fail
    obtain ⟨e0, e1, e2, e3⟩ := HE.out
    refine bodyPost_ret (v := .agg #[.int .i64 k6, .string (B n6), .int .i64 i6, .slice a6 len6 cap6]) ?_ rfl ?_
    · simp [results, Tryd.f12, go_sem, e0, e1, e2, e3]
    · exact ⟨k6, i6, n6, a6, len6, cap6, u, rfl, Rep.weaken (fun _ _ x => x.elim) _ _ (Rep.keep HS.out.2 (fun b e => by show b < w2.heap.size; omega) _ _ hR6), hwt, (hw2.trans hU6 (fun _ _ x => x)).trans HS.out.2 (fun b hb e => by omega)⟩
end Go.Proofs.YtnhmogmpbgadiaaDoor
namespace Go.Proofs.YtnhmogmpbgadiaaDoor
open Go.RowKit Go.LF
abbrev tX : Tm := .mk 5 [] 1 [.mk 5 [] 0 []]
theorem ax1 : strictV tX [2, 1] = [false, true] := by decide
theorem ax2 : strictV tX [0, 1] = [false, false] := by decide
theorem ax3 : occurV tX [2, 1] = [false, true] := by decide
theorem ax4 : patternsV tX [2, 1] = true := by decide
theorem ax5 : patternsV tX [0, 1] = false := by decide
theorem ax6 : knownV tX [2, 1] [false, true] = true := by decide
theorem ax7 : knownV tX [2, 1] [] = false := by decide
theorem axw : tX.wt ≤ 100000 := by decide
theorem two_ints {O : Nat → Prop} {W : World} {b : Nat} {T : TypeId} {x y : Int} (hO : ¬ O b) (h : W.heap[b]? = some (.cells #[.int .i64 x, .int .i64 y] T)) : RepE O W 1 (([x, y] : List Int).map (Dat.int .i64)) (some ⟨b, 0, none⟩) 0 := by
  have hlt := (Array.getElem?_eq_some_iff.1 h).1
  refine repE_row (D := Dat.int .i64) (V := Value.int .i64) (fun x => by simp [Rep]) [x, y] _ 0 (fun i hi => ⟨b, rfl, hlt, hO, ?_⟩)
  have hi' : i = 0 ∨ i = 1 := by simp at hi; omega
  rcases hi' with rfl | rfl <;> simp [World.cell?, h]
theorem two_bools {O : Nat → Prop} {W : World} {b : Nat} {T : TypeId} {x y : Bool} (hO : ¬ O b) (h : W.heap[b]? = some (.cells #[.bool x, .bool y] T)) : RepE O W 1 (([x, y] : List Bool).map Dat.bool) (some ⟨b, 0, none⟩) 0 := by
  have hlt := (Array.getElem?_eq_some_iff.1 h).1
  refine repE_row (D := Dat.bool) (V := Value.bool) (fun x => by simp [Rep]) [x, y] _ 0 (fun i hi => ⟨b, rfl, hlt, hO, ?_⟩)
  have hi' : i = 0 ∨ i = 1 := by simp at hi; omega
  rcases hi' with rfl | rfl <;> simp [World.cell?, h]
/-- What awake needs of a world. -/
structure AwX (b : Nat) (W w' : World) : Prop where
  box : Box4 w' (b + 1) (.int .i64 5) (.string (B [])) (.int .i64 1) (.slice (some ⟨b, 0, none⟩) 1 1) 29
  rep : Rep none' w' tX.dat [.int .i64 5, .string (B []), .int .i64 1, .slice (some ⟨b, 0, none⟩) 1 1]
  kin : RepE none' w' 1 (([2, 1] : List Int).map (Dat.int .i64)) (some ⟨b + 1 + 1, 0, none⟩) 0
  up : Upto none' W w'
theorem AwX.on {b : Nat} {W w' w1 : World} (h : AwX b W w') (hU : Upto none' w' w1) : AwX b W w1 := ⟨h.box.kept hU, h.rep.on hU, h.kin.on hU, h.up.and hU⟩
theorem awx_lay (w w3 : World) (h : w3 = (((w.alloc (.cells #[.int .i64 5, .string (B []), .int .i64 0, .slice none 0 0] 29)).alloc (.cells #[.int .i64 5, .string (B []), .int .i64 1, .slice (some ⟨w.heap.size, 0, none⟩) 1 1] 29)).alloc (.cells #[.int .i64 2, .int .i64 1] 3))) : AwX w.heap.size w w3 := by
  subst h
  refine ⟨(Box4.at_new (by simp)).kept ((Upto.refl none' _).alloc _), ?_, two_ints (T := 3) (fun x => x) ?_, (((Upto.refl none' w).alloc _).alloc _).alloc _⟩
  · exact rep_one (t := .mk 5 [] 0 []) (T := 29) (rep_leaf 5 [] 0) (fun x => x) (((Box4.at_new rfl).kept ((Upto.refl none' _).alloc _)).kept ((Upto.refl none' _).alloc _)) 5 [] 1
  · have := heap_alloc_new ((w.alloc (.cells #[.int .i64 5, .string (B []), .int .i64 0, .slice none 0 0] 29)).alloc (.cells #[.int .i64 5, .string (B []), .int .i64 1, .slice (some ⟨w.heap.size, 0, none⟩) 1 1] 29)) (.cells #[.int .i64 2, .int .i64 1] 3)
    simpa using this
set_option maxRecDepth 100000 in
set_option maxHeartbeats 8000000 in
theorem awake22 (w : World) : Calls Tryd.prog 18 #[] w fun e w' => e = .returned (.bool true) ∧ Upto none' w w' := by
  obtain ⟨w3, hw3⟩ : ∃ w3, w3 = (((w.alloc (.cells #[.int .i64 5, .string (B []), .int .i64 0, .slice none 0 0] 29)).alloc (.cells #[.int .i64 5, .string (B []), .int .i64 1, .slice (some ⟨w.heap.size, 0, none⟩) 1 1] 29)).alloc (.cells #[.int .i64 2, .int .i64 1] 3)) := ⟨_, rfl⟩
  have A3 := awx_lay w w3 hw3
  have HW := hid hw3
  clear hw3
  obtain ⟨X, hX⟩ : ∃ X, X = w.heap.size := ⟨_, rfl⟩
  rw [← hX] at A3
  have HX := hid hX
  clear hX
  have C := fun (W : World) (h : AwX X w W) => (strict_any tX axw [2, 1] (by simp) (some ⟨X + 1 + 1, 0, none⟩) 2 W _ h.kin h.rep)
  rw [ax1] at C
  have C2 := fun (W : World) (K : Nat) (h : AwX X w W) (hk : W.heap[K]? = some (.cells #[.int .i64 0, .int .i64 1] 3)) => (strict_any tX axw [0, 1] (by simp) (some ⟨K, 0, none⟩) 2 W _ (two_ints (fun x => x) hk) h.rep)
  rw [ax2] at C2
  have C3 := fun (W : World) (h : AwX X w W) => (occur_any tX axw [2, 1] (by simp) (some ⟨X + 1 + 1, 0, none⟩) 2 W _ h.kin h.rep)
  rw [ax3] at C3
  have C4 := fun (W : World) (h : AwX X w W) => (patterns_any tX axw [2, 1] (by simp) (some ⟨X + 1 + 1, 0, none⟩) 2 W _ h.kin h.rep)
  rw [ax4] at C4
  have C5 := fun (W : World) (K : Nat) (h : AwX X w W) (hk : W.heap[K]? = some (.cells #[.int .i64 0, .int .i64 1] 3)) => (patterns_any tX axw [0, 1] (by simp) (some ⟨K, 0, none⟩) 2 W _ (two_ints (fun x => x) hk) h.rep)
  rw [ax5] at C5
  have C6 := fun (W : World) (K : Nat) (h : AwX X w W) (hk : W.heap[K]? = some (.cells #[.bool false, .bool true] 4)) => (known_any tX axw [2, 1] (by simp) (some ⟨X + 1 + 1, 0, none⟩) 2 [false, true] (some ⟨K, 0, none⟩) 2 (by simp) W _ h.kin (two_bools (fun x => x) hk) h.rep)
  rw [ax6] at C6
  have C7 := fun (W : World) (h : AwX X w W) => (known_any tX axw [2, 1] (by simp) (some ⟨X + 1 + 1, 0, none⟩) 2 [] none 0 (by simp) W _ h.kin (by simp only [List.map_nil, RepE]) h.rep)
  rw [ax7] at C7
  simp only [List.length_cons, List.length_nil, Nat.zero_add, Nat.reduceAdd] at C C2 C3 C4 C5 C6 C7
  go_enter Tryd.func18, Tryd.ntmps18
  go_upto_region 3 with fail
  rw [← show B [] = { data := #[] } from rfl, ← HW.out, ← HX.out]
  have hd : Upto none' w3 w3.drew := (Upto.refl none' w3).drew
  have hda : Upto none' w3 ((w3.alloc (.cells #[.int .i64 0, .int .i64 1] 3)).drew) := ((Upto.refl none' w3).alloc _).drew
  have Sd : TcS (X + 1) (.int .i64 5) (.string (B [])) (.int .i64 1) (.slice (some ⟨X, 0, none⟩) 1 1) w3.drew := (A3.on hd).box.cells
  have Sa : TcS (X + 1) (.int .i64 5) (.string (B [])) (.int .i64 1) (.slice (some ⟨X, 0, none⟩) 1 1) ((w3.alloc (.cells #[.int .i64 0, .int .i64 1] 3)).drew) := (A3.on hda).box.cells
  have hka : ((w3.alloc (.cells #[.int .i64 0, .int .i64 1] 3)).drew).heap[w3.heap.size]? = some (.cells #[.int .i64 0, .int .i64 1] 3) := heap_alloc_new w3 _
  go_cut [3, 4] from 10 to 15 (fun v3 v4 wc => ∃ qa qb, v3 = .slice (some ⟨qa, 0, none⟩) 2 2 ∧ v4 = .slice (some ⟨qb, 0, none⟩) 2 2 ∧ BoolRow wc qa [false, true] ∧ BoolRow wc qb [false, false] ∧ AwX X w wc)
  case first =>
    go_region_held3 (fun w' => TcS (X + 1) (.int .i64 5) (.string (B [])) (.int .i64 1) (.slice (some ⟨X, 0, none⟩) 1 1) w')
      (first | (with_reducible assumption) | (with_reducible exact Sd) | (with_reducible exact Sa) | (with_reducible exact S6) | (with_reducible exact S5a) | (with_reducible exact S5))
      (first
        | ((go_at_call 16); (with_reducible refine (C2 _ w5.heap.size A5a hka5).mono ?_); rintro e w6 ⟨qb, rfl, hLb, hqb, hU6⟩; have A6 := A5a.on hU6; have S6 : TcS (X + 1) (.int .i64 5) (.string (B [])) (.int .i64 1) (.slice (some ⟨X, 0, none⟩) 1 1) w6 := A6.box.cells; have hLa6 := (hLa.kept hal5).kept hU6)
        | ((go_at_call 16); (with_reducible refine (C2 _ w3.heap.size A5 hka5').mono ?_); rintro e w6 ⟨qb, rfl, hLb, hqb, hU6⟩; have A6 := A5.on hU6; have S6 : TcS (X + 1) (.int .i64 5) (.string (B [])) (.int .i64 1) (.slice (some ⟨X, 0, none⟩) 1 1) w6 := A6.box.cells; have hLa6 := hLa.kept hU6)
        | ((go_at_call 16); (with_reducible refine (C _ (A3.on hd)).mono ?_); rintro e w5 ⟨qa, rfl, hLa, hqa, hU5⟩; have A5 := (A3.on hd).on hU5; have S5 : TcS (X + 1) (.int .i64 5) (.string (B [])) (.int .i64 1) (.slice (some ⟨X, 0, none⟩) 1 1) w5 := A5.box.cells; have hal5 : Upto none' w5 (w5.alloc (.cells #[.int .i64 0, .int .i64 1] 3)) := (Upto.refl none' w5).alloc _; have A5a := A5.on hal5; have S5a : TcS (X + 1) (.int .i64 5) (.string (B [])) (.int .i64 1) (.slice (some ⟨X, 0, none⟩) 1 1) (w5.alloc (.cells #[.int .i64 0, .int .i64 1] 3)) := A5a.box.cells; have hka5 := heap_alloc_new w5 (.cells #[.int .i64 0, .int .i64 1] 3))
        | ((go_at_call 16); (with_reducible refine (C _ (A3.on hda)).mono ?_); rintro e w5 ⟨qa, rfl, hLa, hqa, hU5⟩; have A5 := (A3.on hda).on hU5; have S5 : TcS (X + 1) (.int .i64 5) (.string (B [])) (.int .i64 1) (.slice (some ⟨X, 0, none⟩) 1 1) w5 := A5.box.cells; have hka5' := (hU5.block _ (Array.getElem?_eq_some_iff.1 hka).1 (fun x => x)).trans hka))
    all_goals
      go_wp2_with fail
      go_meet
      case rel => exact ⟨qa, qb, rfl, rfl, hLa6, hLb, A6⟩
  case rest =>
    obtain ⟨qa, qb, rfl, rfl, hLa, hLb, A4⟩ := hcut
    obtain ⟨w4, rfl⟩ : ∃ w4, w4 = wc := ⟨_, rfl⟩
    clear Sd Sa hka hd hda A3
    obtain ⟨b0, b1, b2, b3⟩ := A4.box.cells
    go_wp2_with fail
    refine (C3 _ A4).mono ?_
    rintro e w5 ⟨qc, rfl, hLc, hqc, hU5⟩
    have A5 := A4.on hU5
    have hLa5 := hLa.kept hU5
    have hLb5 := hLb.kept hU5
    clear hLa hLb A4 b0 b1 b2 b3
    obtain ⟨b0, b1, b2, b3⟩ := A5.box.cells
    have a0 := hLa5.cell 0 (by simp)
    have a1 := hLa5.cell 1 (by simp)
    have e1 := hLb5.cell 1 (by simp)
    have c1 := hLc.cell 1 (by simp)
    simp only [List.getElem_cons_zero, List.getElem_cons_succ] at a0 a1 e1 c1
    go_wp2_with fail
    refine (C4 _ A5).mono ?_
    rintro e w6 ⟨rfl, hU6⟩
    have A6 := A5.on hU6
    clear b0 b1 b2 b3
    have hal6 : Upto none' w6 (w6.alloc (.cells #[.int .i64 0, .int .i64 1] 3)) := (Upto.refl none' w6).alloc _
    have A6a := A6.on hal6
    have hk6 := heap_alloc_new w6 (.cells #[.int .i64 0, .int .i64 1] 3)
    obtain ⟨b0, b1, b2, b3⟩ := A6.box.cells
    go_wp2_with fail
    refine (C5 _ w6.heap.size A6a hk6).mono ?_
    rintro e w7 ⟨rfl, hU7⟩
    have A7 := A6a.on hU7
    clear b0 b1 b2 b3
    have hal7 : Upto none' w7 (w7.alloc (.cells #[.bool false, .bool true] 4)) := (Upto.refl none' w7).alloc _
    have A7a := A7.on hal7
    have hk7 := heap_alloc_new w7 (.cells #[.bool false, .bool true] 4)
    obtain ⟨b0, b1, b2, b3⟩ := A7.box.cells
    go_wp2_with fail
    refine (C6 _ w7.heap.size A7a hk7).mono ?_
    rintro e w8 ⟨rfl, hU8⟩
    have A8 := A7a.on hU8
    clear b0 b1 b2 b3
    obtain ⟨b0, b1, b2, b3⟩ := A8.box.cells
    go_wp2_with fail
    refine (C7 _ A8).mono ?_
    rintro e w9 ⟨rfl, hU9⟩
    go_wp2_with fail
    go_ret
    exact ⟨rfl, (A8.on hU9).up⟩
end Go.Proofs.YtnhmogmpbgadiaaDoor
namespace Go.Proofs.YtnhmogmpbgadiaaDoor
open Go.RowKit Go.LF
/-- What a walk of layer 22 needs of a world: the term's variable, and what it and the kinds hold. -/
structure Lay22 (A : Nat) (k1 : Int) (n1 : List UInt8) (i1 : Int) (a1 : Option Addr) (len1 cap1 : Nat) (t : Tm) (ks : List Int) (ka : Option Addr) (w w' : World) : Prop where
  box : TcS A (.int .i64 k1) (.string (B n1)) (.int .i64 i1) (.slice a1 len1 cap1) w'
  rep : Rep none' w' t.dat [.int .i64 k1, .string (B n1), .int .i64 i1, .slice a1 len1 cap1]
  kin : RepE none' w' 1 (ks.map (Dat.int .i64)) ka 0
  up : Upto none' w w'
section
variable {A : Nat} {k1 : Int} {n1 : List UInt8} {i1 : Int} {a1 : Option Addr} {len1 cap1 : Nat} {t : Tm} {ks : List Int} {ka : Option Addr} {w w' w1 : World}
theorem Lay22.on (h : Lay22 A k1 n1 i1 a1 len1 cap1 t ks ka w w') (hU : Upto none' w' w1) : Lay22 A k1 n1 i1 a1 len1 cap1 t ks ka w w1 := ⟨box_on hU h.box, h.rep.on hU, h.kin.on hU, h.up.and hU⟩
theorem lay22_new (hR : Rep none' w' t.dat [.int .i64 k1, .string (B n1), .int .i64 i1, .slice a1 len1 cap1]) (hK : RepE none' w' 1 (ks.map (Dat.int .i64)) ka 0) (hU : Upto none' w w') :
    Lay22 w'.heap.size k1 n1 i1 a1 len1 cap1 t ks ka w (w'.alloc (.cells #[.int .i64 k1, .string (B n1), .int .i64 i1, .slice a1 len1 cap1] 29)) :=
  ⟨(Box4.at_new (T := 29) rfl).cells, hR.on ((Upto.refl none' _).alloc _), hK.on ((Upto.refl none' _).alloc _), hU.alloc _⟩
end
theorem getD_at (l : List Bool) (j : Nat) (h : j < l.length) : l.getD j false = l[j] := by simp [List.getD, h]
theorem flags_same (l : List Bool) (hl : l.length ≤ 1000000) (W : World) (q q' : Nat) (h : BoolRow W q l) (h' : BoolRow W q' l) :
    Calls Tryd.prog 13 #[.slice (some ⟨q, 0, none⟩) l.length l.length, .slice (some ⟨q', 0, none⟩) l.length l.length] W fun e w' => e = .returned (.bool true) ∧ Upto none' W w' := by
  have := flags_any l l (by omega) (by omega) W _ _ l.length l.length (h.rep (O := none') (fun x => x)) (h'.rep (O := none') (fun x => x))
  rwa [beq_self_eq_true] at this
end Go.Proofs.YtnhmogmpbgadiaaDoor
