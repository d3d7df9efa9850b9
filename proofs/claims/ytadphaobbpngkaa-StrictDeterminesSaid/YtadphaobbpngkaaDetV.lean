/- StrictDetermines: value. -/
import Derived.Test.YtadphaobbpngkaaCL
import Derived.Test.YtadphaobbpngkaaDetP
import Derived.Deep.CutRange
import Derived.Deep.CutBlock
namespace Go.LF
/-- How heavy a value may be. -/
def vb : Nat → Nat
  | 0 => 2
  | d + 1 => 2 * vb d + 2
theorem vb_2 (d : Nat) : 2 ≤ vb d := by cases d <;> simp [vb]
/-- A first-order term over n variables. -/
def Vl (n d : Nat) (t : Tm) : Prop := Tm.fo (fun i => 0 ≤ i ∧ i < n) t ∧ t.wt ≤ vb d
theorem vl_var {n d i : Nat} (h : i < n) : Vl n d (.mk 5 [] i []) := ⟨(Tm.fo_mk _ _ _ _ _).2 (.inl ⟨rfl, rfl, ⟨by omega, by omega⟩, rfl⟩), by have := vb_2 d; simp [Tm.wts]; omega⟩
theorem vl_const {n d : Nat} (c : UInt8) : Vl n d (.mk 4 [c] 0 []) := ⟨(Tm.fo_mk _ _ _ _ _).2 (.inr ⟨rfl, by rw [Tm.foA]; trivial⟩), by have := vb_2 d; simp [Tm.wts]; omega⟩
theorem vl_two {n d : Nat} {t u : Tm} (ht : Vl n d t) (hu : Vl n d u) : Vl n (d + 1) (.mk 4 [99] 0 [t, u]) := by
  refine ⟨(Tm.fo_mk _ _ _ _ _).2 (.inr ⟨rfl, (Tm.foA_iff _ _).2 fun x hx => ?_⟩), ?_⟩
  · rcases List.mem_cons.1 hx with rfl | hx
    · exact ht.1
    · obtain rfl : x = u := by simpa using hx
      exact hu.1
  · have h1 := ht.2
    have h2 := hu.2
    simp [Tm.wts, vb]
    omega
end Go.LF
namespace Go.Proofs.Ytadphaobbpngkaa
open Go.RowKit Go.LF
/-- A made term: all of it in new blocks. -/
def MakesV (P : Tm → Prop) (base : Nat) (T : Nat) (w : World) (e : Ending) (w' : World) : Prop :=
  ∃ (k i : Int) (n : List UInt8) (a : Option Addr) (len cap : Nat) (t : Tm), e = .returned (.agg #[.int .i64 k, .string (B n), .int .i64 i, .slice a len cap]) ∧
    Rep (fun b => b < base) w' t.dat [.int .i64 k, .string (B n), .int .i64 i, .slice a len cap] ∧ P t ∧ TapeOk w' T ∧ Upto (isT T) w w'
theorem Terms.pastB {base : Nat} {W W' : World} {v : Value} {ts : List Tm} {css : List (List Value)} {S : Nat → Prop} (h : Terms base W v ts css) (hU : Upto S W W') (hS : ∀ b, S b → b < base ∨ W.heap.size ≤ b) : Terms base W' v ts css := by
  obtain ⟨h1, h2, h3, h4⟩ := h
  refine ⟨h1, h2, ⟨h3.1, ?_⟩, fun i h h' => ?_⟩
  · rcases h3.2 with h5 | ⟨g, cap, cur, rfl, hb, hg, rest⟩
    · exact .inl h5
    · have hlt := (Array.getElem?_eq_some_iff.1 hg).1
      exact .inr ⟨g, cap, cur, rfl, hb, (hU.block g hlt (fun e => by have := hS g e; omega)).trans hg, rest⟩
  · exact Rep.weaken (fun b _ e => .inl e) _ _ (Rep.keep hU (fun b e => (hS b e).elim (fun x => .inl (.inl x)) .inr) _ _ (Rep.freshO (h4 i h h')))
theorem wrapB2 {O : Nat → Prop} {W : World} {b : Nat} {t u : Tm} {x0 x1 x2 x3 t0 t1 t2 t3 u0 u1 u2 u3 : Value} {T : TypeId} (hB : Box4 W b x0 x1 x2 x3 T) (hR : Rep O W t.dat [t0, t1, t2, t3]) (hR' : Rep O W u.dat [u0, u1, u2, u3]) (hb : O b) (hO : ∀ x, O x → x < W.heap.size) (k : Int) (n : List UInt8) (i : Int) {W' : World}
    (hW : W' = ((((W.setCell ⟨b, 0, none⟩ (.int .i64 k)).setCell ⟨b, 1, none⟩ (.string (B n))).setCell ⟨b, 2, none⟩ (.int .i64 i)).setCell ⟨b, 3, none⟩ (.slice (some ⟨W.heap.size, 0, none⟩) 2 2)).alloc (.cells #[t0, t1, t2, t3, u0, u1, u2, u3] T)) :
    Box4 W' b (.int .i64 k) (.string (B n)) (.int .i64 i) (.slice (some ⟨W.heap.size, 0, none⟩) 2 2) T ∧ Rep O W' (Tm.mk k n i [t, u]).dat [.int .i64 k, .string (B n), .int .i64 i, .slice (some ⟨W.heap.size, 0, none⟩) 2 2] ∧ Upto (fun x => x = b) W W' := by
  subst hW
  have hs := hB.set (d0 := .int .i64 k) (d1 := .string (B n)) (d2 := .int .i64 i) (d3 := .slice (some ⟨W.heap.size, 0, none⟩) 2 2)
  have hU := hs.2.alloc (.cells #[t0, t1, t2, t3, u0, u1, u2, u3] T)
  have hnew := heap_alloc_new ((((W.setCell ⟨b, 0, none⟩ (.int .i64 k)).setCell ⟨b, 1, none⟩ (.string (B n))).setCell ⟨b, 2, none⟩ (.int .i64 i)).setCell ⟨b, 3, none⟩ (.slice (some ⟨W.heap.size, 0, none⟩) 2 2)) (.cells #[t0, t1, t2, t3, u0, u1, u2, u3] T)
  simp only [World.size_setCell] at hnew
  exact ⟨hs.1.kept ((Upto.refl none' _).alloc _), rep_tm.2 ⟨_, 2, rfl, Nat.le_refl _, rep_two (Rep.keep hU (fun x e => by subst e; exact hb) _ _ hR) (Rep.keep hU (fun x e => by subst e; exact hb) _ _ hR') (fun e => by have := hO _ e; omega) hnew⟩, hU⟩
theorem zd_at {W : World} {b : Nat} {T' : TypeId} {fr : Nat × Nat} (h : W.heap[b]? = some (.cells #[.string (B [122]), .string (B [100])] T' fr)) (c : Nat) (hc : (c : Int) < 2) :
    ∃ f : UInt8, W.cell? ⟨b, c, none⟩ = some (.string (B [f])) := by
  have hcell : ∀ i, W.cell? ⟨b, i, none⟩ = (#[.string (B [122]), .string (B [100])] : Array Value)[i]? := fun i => by simp [World.cell?, h]
  have hk : c = 0 ∨ c = 1 := by omega
  rcases hk with rfl | rfl
  · exact ⟨_, hcell 0⟩
  · exact ⟨_, hcell 1⟩
set_option maxRecDepth 100000 in
set_option maxHeartbeats 16000000 in
theorem value_step (d : Nat) (hd : d ≤ 10) (n : Nat) (hn : n ≤ 100) (T : Nat) (ih : ∀ d', d = d' + 1 → ∀ (w : World), TapeOk w T → Calls Try.prog 22 #[.pointer (some ⟨T, 0, none⟩), .int .i64 d', .int .i64 n] w (MakesV (Vl n d') w.heap.size T w))
    (w : World) (hT : TapeOk w T) : Calls Try.prog 22 #[.pointer (some ⟨T, 0, none⟩), .int .i64 d, .int .i64 n] w (MakesV (Vl n d) w.heap.size T w) := by
  have NX := fun (n : Int) h0 h1 w hT => next_any n h0 h1 T w hT
  obtain ⟨D, hD⟩ : ∃ D : Int, D = (d : Int) := ⟨_, rfl⟩
  obtain ⟨N, hN⟩ : ∃ N : Int, N = (n : Int) := ⟨_, rfl⟩
  rw [← hD, ← hN]
  have D0 : 0 ≤ D := by omega
  have D1 : D ≤ 13 := by omega
  have N0 : 0 ≤ N := by omega
  have N1 : N ≤ 100 := by omega
  have HD := hid hD
  have HN := hid hN
  clear hD hN
  have hTl := hT.lt
  obtain ⟨w1, hw1⟩ : ∃ w1, w1 = w.alloc (.cells #[.int .i64 0, .string (B []), .int .i64 0, .slice none 0 0] 32) := ⟨_, rfl⟩
  have hU1 : Upto none' w w1 := by rw [hw1]; exact (Upto.refl none' w).alloc _
  have hr1 : Box4 w1 w.heap.size (.int .i64 0) (.string (B [])) (.int .i64 0) (.slice none 0 0) 32 := by rw [hw1]; exact Box4.at_new rfl
  have hT1 := hT.on hU1
  have hUt1 : Upto (isT T) w w1 := hU1.mono (fun _ _ x => x.elim)
  have HW1 := hid hw1
  have hresne : w.heap.size ≠ T := by omega
  obtain ⟨R, hR⟩ : ∃ R, R = w.heap.size := ⟨_, rfl⟩
  rw [← hR] at hr1 hresne
  have hTR : T < R := by omega
  have HR := hid hR
  clear hw1 hT hU1 hR
  have IH : ∀ (x y : Int) (d' : Nat) (W : World), d = d' + 1 → x = d' → y = n → TapeOk W T → Calls Try.prog 22 #[.pointer (some ⟨T, 0, none⟩), .int .i64 x, .int .i64 y] W (MakesV (Vl n d') W.heap.size T W) := by
    intro x y d' W h0 h1 h2 h4
    rw [h1, h2]
    exact ih d' h0 W h4
  have HIH := hid IH
  clear IH ih
  have fin : ∀ (W : World) (k i : Int) (nm : List UInt8) (a : Option Addr) (len cap : Nat) (t : Tm), TapeOk W T → Upto (isT T) w W → Rep (fun b => b ≤ R) W t.dat [.int .i64 k, .string (B nm), .int .i64 i, .slice a len cap] → Vl n d t →
      MakesV (Vl n d) w.heap.size T w (.returned (.agg #[.int .i64 k, .string (B nm), .int .i64 i, .slice a len cap])) W := fun W k i nm a len cap t h1 h2 h3 h4 => ⟨k, i, nm, a, len, cap, t, rfl, Rep.weaken (fun b _ e => by have := HR.out; omega) _ _ h3, h4, h1, h2⟩
  have HFIN := hid fin
  clear fin
  go_enter Try.func22, Try.ntmps22
  go_upto_region 1 with fail
  rw [← show B [] = { data := #[] } from rfl, ← HW1.out, ← HR.out]
  go_wp2_with fail
  refine (NX _ (by omega) (by omega) _ hT1).mono ?_
  rintro e w2 ⟨⟨c, hc, rfl⟩, hT2, hU2⟩
  have hr2 := hr1.keep hU2 hresne
  have hw2 := hUt1.trans hU2 (fun _ _ x => x)
  have hz2 := hr2.lt
  clear hT1 hU2 hr1 hUt1
  go_upto_region 2 with fail
  go_cut [10] from 11 to 16 (fun v10 wc => ∃ b : Bool, v10 = .bool b ∧ (b = true → 0 < N) ∧ w2 = wc)
  case first =>
    by_cases hn0 : 0 < N
    · go_wp2_with fail
      go_meet
      case rel => exact ⟨_, rfl, fun _ => hn0, rfl⟩
    · go_wp2_with fail
      go_meet
      case rel => exact ⟨false, rfl, (fun e => by cases e), rfl⟩
  case rest =>
    obtain ⟨b, rfl, hb, rfl⟩ := hcut
    cases b
    case true =>
      have hn0 := hb rfl
      clear hb
      go_wp2_with fail
      refine (NX _ (by omega) (by omega) _ hT2).mono ?_
      rintro e w3 ⟨⟨vi, hvi, rfl⟩, hT3, hU3⟩
      have hr3 := hr2.keep hU3 hresne
      have hset := hr3.set (d0 := .int .i64 5) (d1 := .string (B [])) (d2 := .int .i64 vi) (d3 := .slice none 0 0)
      obtain ⟨f0, f1, f2, f3⟩ := hr3.frozens
      obtain ⟨b0, b1, b2, b3⟩ := hr3.cells
      obtain ⟨e0, e1, e2, e3⟩ := hset.1.cells
      have q := hr3.lt
      have HE := hid (And.intro e0 (And.intro e1 (And.intro e2 (And.intro e3 hset.2))))
      clear e0 e1 e2 e3 hset
      go_wp2_with fail
      obtain ⟨e0, e1, e2, e3, hset⟩ := HE.out
      refine bodyPost_ret (v := .agg #[.int .i64 5, .string (B []), .int .i64 vi, .slice none 0 0]) ?_ rfl ?_
      · simp [results, Try.f22, go_sem, e0, e1, e2, e3]
      · exact HFIN.out _ _ _ _ _ _ _ _ (hT3.far hset (fun b e => by omega)) ((hw2.trans hU3 (fun _ _ x => x)).trans hset (fun b hb e => by have := HR.out; omega)) (rep_leaf 5 [] vi) (vl_var (by have := HN.out; omega))
    case false =>
      clear hb
      go_upto_region 4 with fail
      go_cut [21] from 22 to 27 (fun v21 wc => ∃ b : Bool, v21 = .bool b ∧ (b = true → 0 < D) ∧ w2 = wc)
      case first =>
        by_cases hD0 : 0 < D
        · go_wp2_with fail
          go_meet
          case rel => exact ⟨_, rfl, fun _ => hD0, rfl⟩
        · go_wp2_with fail
          go_meet
          case rel => exact ⟨false, rfl, (fun e => by cases e), rfl⟩
      case rest =>
        obtain ⟨b, rfl, hb, rfl⟩ := hcut
        cases b
        case true =>
          have hD0 := hb rfl
          clear hb
          obtain ⟨d', hd'⟩ : ∃ d', d = d' + 1 := ⟨d - 1, by have := HD.out; omega⟩
          have HX := hid hd'
          clear hd'
          go_wp2_with fail
          refine (HIH.out _ _ d' _ HX.out (by have := HX.out; have := HD.out; omega) (by have := HN.out; omega) hT2).mono ?_
          rintro e w5 ⟨k1, i1, n1, a1, len1, cap1, t, rfl, hR5, hF5, hT5, hU5⟩
          go_wp2_with fail
          refine (HIH.out _ _ d' _ HX.out (by have := HX.out; have := HD.out; omega) (by have := HN.out; omega) hT5).mono ?_
          rintro e w6 ⟨k2, i2, n2, a2, len2, cap2, u, rfl, hR6, hF6, hT6, hU6⟩
          have hr6 := (hr2.keep hU5 hresne).keep hU6 hresne
          obtain ⟨b0, b1, b2, b3⟩ := hr6.cells
          obtain ⟨f0, f1, f2, f3⟩ := hr6.frozens
          have q6 := hr6.lt
          have hz6 := hU5.size
          have hR5' : Rep (fun b => b ≤ R) w6 t.dat [.int .i64 k1, .string (B n1), .int .i64 i1, .slice a1 len1 cap1] := Rep.keep hU6 (fun b e => by simp only [isT] at e; omega) _ _ (Rep.weaken (fun b _ e => by omega) _ _ hR5)
          have hR6' : Rep (fun b => b ≤ R) w6 u.dat [.int .i64 k2, .string (B n2), .int .i64 i2, .slice a2 len2 cap2] := Rep.weaken (fun b _ e => by omega) _ _ hR6
          have hrl := wrapB2 (O := fun b => b ≤ R) hr6 hR5' hR6' (Nat.le_refl _) (fun x e => by omega) 4 [99] 0 rfl
          obtain ⟨e0, e1, e2, e3⟩ := hrl.1.cells
          have HRL := hid hrl
          have HE := hid (And.intro e0 (And.intro e1 (And.intro e2 e3)))
          clear hrl e0 e1 e2 e3
          go_wp2_with fail
          obtain ⟨e0, e1, e2, e3⟩ := HE.out
          refine bodyPost_ret (v := .agg #[.int .i64 4, .string (B [99]), .int .i64 0, .slice (some ⟨w6.heap.size, 0, none⟩) 2 2]) ?_ rfl ?_
          · simp [results, Try.f22, go_sem, e0, e1, e2, e3]
          · have hU7 := HRL.out.2.2
            have hF : Vl n d (.mk 4 [99] 0 [t, u]) := by rw [HX.out]; exact vl_two hF5 hF6
            exact HFIN.out _ _ _ _ _ _ _ _ (hT6.far hU7 (fun b e => by omega)) (((hw2.trans hU5 (fun _ _ x => x)).trans hU6 (fun _ _ x => x)).trans hU7 (fun b hb e => by have := HR.out; omega)) HRL.out.2.1 hF
        case false =>
          clear hb
          go_upto_region 6 with fail
          obtain ⟨w3, hw3⟩ : ∃ w3, w3 = w2.alloc (.cells #[.string (B [122]), .string (B [100])] 9) := ⟨_, rfl⟩
          have hUa : Upto none' w2 w3 := by rw [hw3]; exact (Upto.refl none' w2).alloc _
          have hk3 : w3.heap[w2.heap.size]? = some (.cells #[.string (B [122]), .string (B [100])] 9 (0, 0)) := by rw [hw3]; exact heap_alloc_new w2 _
          have HW3 := hid hw3
          have hT3 := hT2.on hUa
          have hr3 := hr2.kept hUa
          have hw3U := hw2.trans hUa (fun _ _ x => x.elim)
          have hz3 : R < w3.heap.size := hr3.lt
          have hTz : w2.heap.size ≠ T := by omega
          have hzz : w2.heap.size < w3.heap.size := (Array.getElem?_eq_some_iff.1 hk3).1
          clear hw3
          go_wp2_with fail
          rw [← show B [122] = { data := #[122] } from rfl, ← show B [100] = { data := #[100] } from rfl, ← HW3.out]
          refine (NX _ (by omega) (by omega) _ hT3).mono ?_
          rintro e w4 ⟨⟨ci, hci, rfl⟩, hT4, hU4⟩
          have hk4 := (hU4.block _ hzz (fun e => hTz (by simpa only [isT] using e))).trans hk3
          obtain ⟨f, hf⟩ := zd_at hk4 ci hci
          have hr4 := hr3.keep hU4 hresne
          have hset := hr4.set (d0 := .int .i64 4) (d1 := .string (B [f])) (d2 := .int .i64 0) (d3 := .slice none 0 0)
          obtain ⟨f0, f1, f2, f3⟩ := hr4.frozens
          obtain ⟨b0, b1, b2, b3⟩ := hr4.cells
          obtain ⟨e0, e1, e2, e3⟩ := hset.1.cells
          have q := hr4.lt
          have HE := hid (And.intro e0 (And.intro e1 (And.intro e2 (And.intro e3 hset.2))))
          clear e0 e1 e2 e3 hset hk3 hk4
          go_wp2_with fail
          obtain ⟨e0, e1, e2, e3, hset⟩ := HE.out
          refine bodyPost_ret (v := .agg #[.int .i64 4, .string (B [f]), .int .i64 0, .slice none 0 0]) ?_ rfl ?_
          · simp [results, Try.f22, go_sem, e0, e1, e2, e3]
          · exact HFIN.out _ _ _ _ _ _ _ _ (hT4.far hset (fun b e => by omega)) ((hw3U.trans hU4 (fun _ _ x => x)).trans hset (fun b hb e => by have := HR.out; omega)) (rep_leaf 4 [f] 0) (vl_const f)
theorem value_any (n : Nat) (hn : n ≤ 100) (T : Nat) (d : Nat) : d ≤ 10 → ∀ (w : World), TapeOk w T → Calls Try.prog 22 #[.pointer (some ⟨T, 0, none⟩), .int .i64 d, .int .i64 n] w (MakesV (Vl n d) w.heap.size T w) := by
  induction d with
  | zero => intro h w hT; exact value_step 0 h n hn T (fun d' e => absurd e (by omega)) w hT
  | succ d ih => intro h w hT; exact value_step (d + 1) h n hn T (fun d' e w hT => by obtain rfl : d' = d := (by omega); exact ih (by omega) w hT) w hT
end Go.Proofs.Ytadphaobbpngkaa
