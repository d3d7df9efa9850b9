/- StrictDetermines: applied. -/
import Derived.Test.YtadphaobbpngkaaDetV
namespace Go.LF
/-- How heavy a body may be. -/
def ab : Nat → Nat
  | 0 => 1
  | d + 1 => 2 * ab d + 2
theorem ab_1 (d : Nat) : 1 ≤ ab d := by cases d <;> simp [ab]
/-- A body over two local variables and the flexible ones. -/
def Bd (ar : List Nat) (d : Nat) (t : Tm) : Prop := Tm.bd ar t ∧ t.wt ≤ ab d
theorem bd_var {ar : List Nat} {d i : Nat} (h : i < 2) : Bd ar d (.mk 5 [] i []) := ⟨(Tm.bd_mk _ _ _ _ _).2 (.inl ⟨rfl, rfl, by omega, by omega, rfl⟩), by have := ab_1 d; simp [Tm.wts]; omega⟩
theorem bd_two {ar : List Nat} {d : Nat} {t u : Tm} (ht : Bd ar d t) (hu : Bd ar d u) : Bd ar (d + 1) (.mk 4 [99] 0 [t, u]) := by
  refine ⟨(Tm.bd_mk _ _ _ _ _).2 (.inr (.inl ⟨rfl, (Tm.bdA_iff _ _).2 fun x hx => ?_⟩)), ?_⟩
  · rcases List.mem_cons.1 hx with rfl | hx
    · exact ht.1
    · obtain rfl : x = u := by simpa using hx
      exact hu.1
  · have h1 := ht.2
    have h2 := hu.2
    simp [Tm.wts, ab]
    omega
theorem bd_app {ar : List Nat} {d i : Nat} {us : List Tm} (hi : ar[i]? = some us.length) (hl : us.length ≤ 2) (hus : ∀ u ∈ us, Bd ar d u) : Bd ar (d + 1) (.mk 5 [] (2 + (i : Int)) us) := by
  refine ⟨(Tm.bd_mk _ _ _ _ _).2 (.inr (.inr ⟨rfl, rfl, by omega, ?_, (Tm.bdA_iff _ _).2 fun x hx => (hus x hx).1⟩)), ?_⟩
  · rw [show (2 + (i : Int) - 2).toNat = i by omega]; exact hi
  · have h1 : Tm.wts us ≤ us.length * ab d := by
      clear hi hl
      induction us with
      | nil => simp [Tm.wts]
      | cons u us ih =>
        have h2 := (hus u (by simp)).2
        have h3 := ih (fun x hx => hus x (by simp [hx]))
        simp only [Tm.wts, List.length_cons, Nat.add_mul, Nat.one_mul]
        omega
    have h2 := Nat.mul_le_mul_right (ab d) hl
    rw [Tm.wt_mk, ab]
    simp only [List.length_nil]
    omega
end Go.LF
namespace Go.Proofs.Ytadphaobbpngkaa
open Go.RowKit Go.LF
set_option maxRecDepth 100000 in
set_option maxHeartbeats 16000000 in
theorem applied_step (ss : List Sm) (h1s : 1 ≤ ss.length) (h3s : ss.length ≤ 3) (hsa : ∀ s ∈ ss, s.args.length ≤ 2) (sa : Option Addr) (sc : Nat) (d : Nat) (hd : d ≤ 10) (T : Nat)
    (ih : ∀ d', d = d' + 1 → ∀ (w : World), TapeOk w T → RepE (isT T) w 2 (ss.map Sm.dat) sa 0 → Calls Try.prog 7 #[.pointer (some ⟨T, 0, none⟩), .int .i64 d', .slice sa ss.length sc, .int .i64 2] w (MakesV (Bd (ss.map (·.args.length)) d') w.heap.size T w))
    (w : World) (hT : TapeOk w T) (hE0 : RepE (isT T) w 2 (ss.map Sm.dat) sa 0) : Calls Try.prog 7 #[.pointer (some ⟨T, 0, none⟩), .int .i64 d, .slice sa ss.length sc, .int .i64 2] w (MakesV (Bd (ss.map (·.args.length)) d) w.heap.size T w) := by
  have NX := fun (n : Int) h0 h1 w hT => next_any n h0 h1 T w hT
  obtain ⟨D, hD⟩ : ∃ D : Int, D = (d : Int) := ⟨_, rfl⟩
  obtain ⟨ls, hls⟩ : ∃ ls, ls = ss.length := ⟨_, rfl⟩
  obtain ⟨ar, har⟩ : ∃ ar, ar = ss.map (·.args.length) := ⟨_, rfl⟩
  rw [← hD, ← hls, ← har]
  have D0 : 0 ≤ D := by omega
  have D1 : D ≤ 13 := by omega
  have L1 : 1 ≤ ls := by omega
  have L3 : ls ≤ 3 := by omega
  have HD := hid hD
  have HLS := hid hls
  have HAR := hid har
  have hTl := hT.lt
  obtain ⟨w1, hw1⟩ : ∃ w1, w1 = w.alloc (.cells #[.int .i64 0, .string (B []), .int .i64 0, .slice none 0 0] 32) := ⟨_, rfl⟩
  have hU1 : Upto none' w w1 := by rw [hw1]; exact (Upto.refl none' w).alloc _
  have hr1 : Box4 w1 w.heap.size (.int .i64 0) (.string (B [])) (.int .i64 0) (.slice none 0 0) 32 := by rw [hw1]; exact Box4.at_new rfl
  have hT1 := hT.on hU1
  have hUt1 : Upto (isT T) w w1 := hU1.mono (fun _ _ x => x.elim)
  have HW1 := hid hw1
  have hresne : w.heap.size ≠ T := by omega
  obtain ⟨R, hR⟩ : ∃ R, R = w.heap.size := ⟨_, rfl⟩
  rw [← hR] at hr1 hresne
  have hTR : T < R := by omega
  have HR := hid hR
  have IH : ∀ (x : Int) (d' : Nat) (W : World), d = d' + 1 → x = d' → TapeOk W T → Upto (isT T) w W → Calls Try.prog 7 #[.pointer (some ⟨T, 0, none⟩), .int .i64 x, .slice sa ls sc, .int .i64 2] W (MakesV (Bd ar d') W.heap.size T W) := by
    intro x d' W h0 h1 h2 h3
    rw [h1, har, hls]
    exact ih d' h0 W h2 (RepE.keep h3 (fun _ e => e) _ _ _ _ hE0)
  have HIH := hid IH
  have HE0 := hid hE0
  clear hw1 hT hU1 hR IH ih hD hls har hE0 h1s h3s
  have fin : ∀ (W : World) (k i : Int) (nm : List UInt8) (a : Option Addr) (len cap : Nat) (t : Tm), TapeOk W T → Upto (isT T) w W → Rep (fun b => b ≤ R) W t.dat [.int .i64 k, .string (B nm), .int .i64 i, .slice a len cap] → Bd ar d t →
      MakesV (Bd ar d) w.heap.size T w (.returned (.agg #[.int .i64 k, .string (B nm), .int .i64 i, .slice a len cap])) W := fun W k i nm a len cap t h1 h2 h3 h4 => ⟨k, i, nm, a, len, cap, t, rfl, Rep.weaken (fun b _ e => by have := HR.out; omega) _ _ h3, h4, h1, h2⟩
  have HFIN := hid fin
  clear fin
  go_enter Try.func7, Try.ntmps7
  go_upto_region 1 with fail
  rw [← show B [] = { data := #[] } from rfl, ← HW1.out, ← HR.out]
  go_wp2_with fail
  refine (NX _ (by omega) (by omega) _ hT1).mono ?_
  rintro e w2 ⟨⟨c, hc, rfl⟩, hT2, hU2⟩
  have hr2 := hr1.keep hU2 hresne
  have hw2 := hUt1.trans hU2 (fun _ _ x => x)
  have hz2 := hr2.lt
  have c5 : (c : Int) < 5 := hc
  clear hT1 hU2 hr1 hUt1
  go_upto_region 2 with fail
  go_cut [16] from 17 to 22 (fun v16 wc => ∃ b : Bool, v16 = .bool b ∧ (b = false → ¬ D = 0) ∧ w2 = wc)
  case first =>
    by_cases hn0 : D = 0
    · have hn : (D == 0) = true := by simpa using hn0
      clear hn0
      go_wp2_with fail
      go_meet
      case rel => exact ⟨true, rfl, (fun e => by cases e), rfl⟩
    · have hn : (D == 0) = false := by simpa using hn0
      have HN0 := hid hn0
      clear hn0
      go_wp2_with fail
      go_meet
      case rel => exact ⟨_, rfl, (fun _ => HN0.out), rfl⟩
  case rest =>
    obtain ⟨b, rfl, hb, rfl⟩ := hcut
    cases b
    case true =>
      clear hb
      go_wp2_with fail
      refine (NX _ (by omega) (by omega) _ hT2).mono ?_
      rintro e w3 ⟨⟨vi, hvi, rfl⟩, hT3, hU3⟩
      have hr3 := hr2.keep hU3 hresne
      have hset := hr3.set (d0 := .int .i64 5) (d1 := .string (B [])) (d2 := .int .i64 vi) (d3 := .slice none 0 0)
      obtain ⟨f0, f1, f2, f3⟩ := hr3.frozens
      obtain ⟨b0, b1, b2, b3⟩ := hr3.cells
      obtain ⟨e0, e1, e2, e3⟩ := hset.1.cells
      have q := hr3.lt
      have HE := hid (And.intro e0 (And.intro e1 (And.intro e2 (And.intro e3 hset.2))))
      clear e0 e1 e2 e3 hset
      go_wp2_with fail
      obtain ⟨e0, e1, e2, e3, hset⟩ := HE.out
      refine bodyPost_ret (v := .agg #[.int .i64 5, .string (B []), .int .i64 vi, .slice none 0 0]) ?_ rfl ?_
      · simp [results, Try.f7, go_sem, e0, e1, e2, e3]
      · exact HFIN.out _ _ _ _ _ _ _ _ (hT3.far hset (fun b e => by omega)) ((hw2.trans hU3 (fun _ _ x => x)).trans hset (fun b hb e => by have := HR.out; omega)) (rep_leaf 5 [] vi) (bd_var (by omega))
    case false =>
      have hD0 := hb rfl
      clear hb
      obtain ⟨d', hd'⟩ : ∃ d', d = d' + 1 := ⟨d - 1, by have := HD.out; omega⟩
      have HX := hid hd'
      have HDX := hid (show (D : Int) - 1 = (d' : Int) by have := HD.out; omega)
      clear hd'
      have D2 : 1 ≤ D := by omega
      by_cases hc1 : c = 1
      · subst hc1
        go_wp2_with fail
        refine (HIH.out _ d' _ HX.out HDX.out hT2 hw2).mono ?_
        rintro e w5 ⟨k1, i1, n1, a1, len1, cap1, t, rfl, hR5, hF5, hT5, hU5⟩
        go_wp2_with fail
        refine (HIH.out _ d' _ HX.out HDX.out hT5 (hw2.trans hU5 (fun _ _ x => x))).mono ?_
        rintro e w6 ⟨k2, i2, n2, a2, len2, cap2, u, rfl, hR6, hF6, hT6, hU6⟩
        have hr6 := (hr2.keep hU5 hresne).keep hU6 hresne
        obtain ⟨b0, b1, b2, b3⟩ := hr6.cells
        obtain ⟨f0, f1, f2, f3⟩ := hr6.frozens
        have q6 := hr6.lt
        have hz6 := hU5.size
        have hR5' : Rep (fun b => b ≤ R) w6 t.dat [.int .i64 k1, .string (B n1), .int .i64 i1, .slice a1 len1 cap1] := Rep.keep hU6 (fun b e => by simp only [isT] at e; omega) _ _ (Rep.weaken (fun b _ e => by omega) _ _ hR5)
        have hR6' : Rep (fun b => b ≤ R) w6 u.dat [.int .i64 k2, .string (B n2), .int .i64 i2, .slice a2 len2 cap2] := Rep.weaken (fun b _ e => by omega) _ _ hR6
        have hrl := wrapB2 (O := fun b => b ≤ R) hr6 hR5' hR6' (Nat.le_refl _) (fun x e => by omega) 4 [99] 0 rfl
        obtain ⟨e0, e1, e2, e3⟩ := hrl.1.cells
        have HRL := hid hrl
        have HE := hid (And.intro e0 (And.intro e1 (And.intro e2 e3)))
        clear hrl e0 e1 e2 e3
        go_wp2_with fail
        obtain ⟨e0, e1, e2, e3⟩ := HE.out
        refine bodyPost_ret (v := .agg #[.int .i64 4, .string (B [99]), .int .i64 0, .slice (some ⟨w6.heap.size, 0, none⟩) 2 2]) ?_ rfl ?_
        · simp [results, Try.f7, go_sem, e0, e1, e2, e3]
        · have hU7 := HRL.out.2.2
          have hF : Bd ar d (.mk 4 [99] 0 [t, u]) := by rw [HX.out]; exact bd_two hF5 hF6
          exact HFIN.out _ _ _ _ _ _ _ _ (hT6.far hU7 (fun b e => by omega)) (((hw2.trans hU5 (fun _ _ x => x)).trans hU6 (fun _ _ x => x)).trans hU7 (fun b hb e => by have := HR.out; omega)) HRL.out.2.1 hF
      · have hcc : ((c : Int) == 1) = false := by simp; omega
        clear hc1
        go_wp2_with fail
        refine (NX _ (by omega) (by omega) _ hT2).mono ?_
        rintro e w4 ⟨⟨vi, hvi, rfl⟩, hT4, hU4⟩
        have hr4 := hr2.keep hU4 hresne
        have hw4 := hw2.trans hU4 (fun _ _ x => x)
        have hz4 := hr4.lt
        have hvl : vi < ss.length := by have := HLS.out; omega
        obtain ⟨sb, so, sn, st, stc, rfl, hsbl, hsbO, s0, s1, -⟩ := arg_sm HE0.out vi hvl
        have hav : ar[vi]? = some ss[vi].args.length := by rw [HAR.out, List.getElem?_map, List.getElem?_eq_getElem hvl]; rfl
        have hal2 := hsa _ (List.getElem_mem hvl)
        generalize ss[vi].args.length = al at *
        have hsbT : sb ≠ T := fun e => hsbO (by simpa only [isT] using e)
        have HAV := hid hav
        clear hav s0 hsa
        obtain ⟨w5, hw5⟩ : ∃ w5, w5 = w4.alloc (.cells #[.int .i64 5, .string (B []), .int .i64 (2 + (vi : Int)), .slice none 0 0] 32) := ⟨_, rfl⟩
        have hUal : Upto none' w4 w5 := by rw [hw5]; exact (Upto.refl none' w4).alloc _
        obtain ⟨Ob, hOb⟩ : ∃ Ob, Ob = w4.heap.size := ⟨_, rfl⟩
        have hout5 : Box4 w5 Ob (.int .i64 5) (.string (B [])) (.int .i64 (2 + (vi : Int))) (.slice none 0 0) 32 := by rw [hw5]; exact Box4.at_new hOb.symm
        have hr5 := hr4.kept hUal
        have hT5 := hT4.on hUal
        have hw5U := hw4.trans hUal (fun _ _ x => x.elim)
        have hORb : R < Ob := by omega
        have HOB := hid hOb
        have HW5 := hid hw5
        have hoT : Ob ≠ T := by omega
        have hz5 := hout5.lt
        clear hr2 hw2 hz2 hU4 hT4 hr4 hw4 hOb hw5 hT2
        go_wp2_with fail
        rw [← show B [] = { data := #[] } from rfl, ← HOB.out, ← HW5.out]
        obtain ⟨base, hbase⟩ : ∃ base, base = w5.heap.size := ⟨_, rfl⟩
        rw [← hbase] at hz5
        have HBS := hid hbase
        go_loopw [12] (fun v12 wr => ∃ (j : Nat) (v : Value) (ts : List Tm) (css : List (List Value)), v12 = .int .i64 j ∧ j ≤ al ∧ ts.length = j ∧ Terms base wr v ts css ∧ (∀ t ∈ ts, Bd ar d' t) ∧
            Box4 wr Ob (.int .i64 5) (.string (B [])) (.int .i64 (2 + (vi : Int))) v 32 ∧ Box4 wr R (.int .i64 0) (.string (B [])) (.int .i64 0) (.slice none 0 0) 32 ∧ TapeOk wr T ∧ Upto (isT T) w wr ∧ base ≤ wr.heap.size)
          (fun v12 _ => al - (intOf v12).toNat)
        case atStart => exact ⟨0, _, [], [], rfl, Nat.zero_le _, rfl, Terms.nil _ _, by simp, hout5, hr5, hT5, hw5U, Nat.le_of_eq hbase⟩
        case round =>
          clear hout5 hr5 hT5 hw5U hbase hUal
          obtain ⟨j, v, ts, css, rfl, hj, htl, hts, hfs, hout, hres, hTr, hwr, hbr⟩ := hrel
          have s1r := hwr.cell s1 (fun e => hsbT (by simpa only [isT] using e))
          have u1 : (j : Int) ≤ 2 := by omega
          by_cases hlt : (j : Int) < (al : Int)
          · go_wp2_with fail
            refine (NX _ (by omega) (by omega) _ hTr).mono ?_
            rintro e w7 ⟨⟨xi, hxi, rfl⟩, hT7, hU7⟩
            have hr7 := hres.keep hU7 hresne
            have hout7 := hout.keep hU7 hoT
            have hts7 := hts.keep hU7 (fun b e => by simp only [isT] at e; omega)
            have hw7 := hwr.trans hU7 (fun _ _ x => x)
            have hb7 : base ≤ w7.heap.size := Nat.le_trans hbr hU7.size
            obtain ⟨w8, hw8⟩ : ∃ w8, w8 = w7.alloc (.cells #[.int .i64 5, .string (B []), .int .i64 xi, .slice none 0 0] 32) := ⟨_, rfl⟩
            have hUal : Upto none' w7 w8 := by rw [hw8]; exact (Upto.refl none' w7).alloc _
            obtain ⟨XB, hXB⟩ : ∃ XB, XB = w7.heap.size := ⟨_, rfl⟩
            have hx8 : Box4 w8 XB (.int .i64 5) (.string (B [])) (.int .i64 xi) (.slice none 0 0) 32 := by rw [hw8]; exact Box4.at_new hXB.symm
            have hT8 := hT7.on hUal
            have hr8 := hr7.kept hUal
            have hout8 := hout7.kept hUal
            have hw8U := hw7.trans hUal (fun _ _ x => x.elim)
            rw [← hXB] at hb7
            have HXB := hid hXB
            have HW8 := hid hw8
            have hown7 : ∀ b, v.ownBlock = some b → b < XB := fun b e => by rw [hXB]; exact (hts7.2.2.1.lt b e).2
            have HRT := hid (And.intro hT7 (And.intro htl (And.intro hwr hbr)))
            clear hTr hres hout hts hwr hT7 hr7 hout7 hw7 hU7 hXB hw8 hbr htl s1r
            go_upto_region 12 with fail
            rw [← show B [] = { data := #[] } from rfl, ← HXB.out, ← HW8.out]
            go_wp2_with fail
            refine (NX _ (by omega) (by omega) _ hT8).mono ?_
            rintro e w9 ⟨⟨c3, hc3, rfl⟩, hT9, hU9⟩
            have hxT : XB ≠ T := by omega
            have hx9 := hx8.keep hU9 hxT
            have hr9 := hr8.keep hU9 hresne
            have hout9 := hout8.keep hU9 hoT
            have hw9U := hw8U.trans hU9 (fun _ _ x => x)
            have hz9 := hx9.lt
            have hU79 : Upto (isT T) w7 w9 := (hUal.mono (fun _ _ x => x.elim)).trans hU9 (fun _ _ x => x)
            clear hx8 hT8 hr8 hout8 hw8U hU9 hUal
            go_upto_if 68 with fail
            go_cut [] from 69 to 74 (fun wc => ∃ (k i : Int) (n : List UInt8) (a : Option Addr) (len cap : Nat) (t : Tm), Box4 wc XB (.int .i64 k) (.string (B n)) (.int .i64 i) (.slice a len cap) 32 ∧ Rep (fun b => b ≤ XB) wc t.dat [.int .i64 k, .string (B n), .int .i64 i, .slice a len cap] ∧
              Bd ar d' t ∧ TapeOk wc T ∧ Upto (fun b => b = T ∨ b = XB) w9 wc)
            case first =>
              by_cases h3 : c3 = 0
              · subst h3
                go_wp2_with fail
                (with_reducible refine (HIH.out _ d' _ HX.out HDX.out hT9 hw9U).mono ?_)
                rintro e w10 ⟨k1, i1, n1, a1, len1, cap1, t, rfl, hR10, hF10, hT10, hU10⟩
                have hx10 := hx9.keep hU10 hxT
                obtain ⟨z0, z1, z2, z3⟩ := hx10.frozens
                obtain ⟨y0, y1, y2, y3⟩ := hx10.cells
                have hxl := hx10.lt
                have hset := hx10.set (d0 := .int .i64 k1) (d1 := .string (B n1)) (d2 := .int .i64 i1) (d3 := .slice a1 len1 cap1)
                have fin : ∃ (k i : Int) (n : List UInt8) (a : Option Addr) (len cap : Nat) (t : Tm), Box4 _ XB (.int .i64 k) (.string (B n)) (.int .i64 i) (.slice a len cap) 32 ∧ Rep (fun b => b ≤ XB) _ t.dat [.int .i64 k, .string (B n), .int .i64 i, .slice a len cap] ∧
                    Bd ar d' t ∧ TapeOk _ T ∧ Upto (fun b => b = T ∨ b = XB) w9 _ :=
                  ⟨k1, i1, n1, a1, len1, cap1, _, hset.1, Rep.keep hset.2 (fun b e => Nat.le_of_eq e) _ _ (Rep.weaken (fun b _ e => by omega) _ _ hR10), hF10, hT10.far hset.2 (fun b e => by omega), (hU10.mono (fun _ _ e => .inl e)).trans hset.2 (fun _ _ e => .inr e)⟩
                have HFI := hid fin
                clear fin hset
                go_wp2_with fail
                go_meet
                case rel => exact HFI.out
              · have h3' : ((c3 : Int) == 0) = false := by simp; omega
                go_wp2_with fail
                go_meet
                case rel => exact ⟨5, xi, [], none, 0, 0, _, hx9, rep_leaf 5 [] xi, bd_var (by omega), hT9, Upto.refl _ _⟩
            case rest =>
              obtain ⟨k1, i1, n1, a1, len1, cap1, t, hxc, hRc, hFc, hTc, hUc⟩ := hcut
              obtain ⟨w6', rfl⟩ : ∃ w6', w6' = wc := ⟨_, rfl⟩
              have houtc := hout9.keep hUc (fun e => e.elim hoT (fun e => by omega))
              have hrc := hr9.keep hUc (fun e => e.elim hresne (fun e => by omega))
              have hU7c : Upto (fun b => b = T ∨ b = XB) w7 w6' := (hU79.mono (fun _ _ e => .inl e)).trans hUc (fun _ _ x => x)
              have htsc := hts7.pastB hU7c (fun b e => e.elim (fun e => .inl (by omega)) (fun e => .inr (by have := HXB.out; omega)))
              have hzc := hxc.lt
              have hbw : base ≤ w6'.heap.size := by omega
              have hwcU : Upto (isT T) w w6' := hw9U.trans hUc (fun b hb e => e.elim (fun e => e) (fun e => by have := HR.out; omega))
              obtain ⟨i0, hi, hi0, hi1, hi2⟩ := info_parts info_term
              obtain ⟨b0, b1, b2, b3⟩ := houtc.cells
              obtain ⟨f0, f1, f2, f3⟩ := houtc.frozens
              obtain ⟨x0, x1, x2, x3⟩ := hxc.cells
              have hal : Upto none' w6' (w6'.alloc (.cells #[.int .i64 k1, .string (B n1), .int .i64 i1, .slice a1 len1 cap1] 32)) := (Upto.refl none' w6').alloc _
              have htsa := htsc.on hal
              have hoc := (houtc.kept hal).cells.2.2.2
              have hOz := houtc.lt
              have htl : ts.length ≤ 2 := by have := HRT.out.2.1; omega
              clear hts7 hU79 hU7c hUc hx9 hr9 hout9 hw9U hT9
              go_wp2_with (at_builtin; refine wpList_append_lies _ (by rfl) _ _ 30 (by rfl) base 32 i0 (.agg #[.int .i64 0, .string (B []), .int .i64 0, .slice none 0 0]) 4 56 (by kernel_rfl) hi hi0 hi1 hi2 rfl (by decide) v ts.length css.flatten (by rfl) htsa.2.2.1 ⟨w6'.heap.size, 0, none⟩ 1 1 [.int .i64 k1, .string (B n1), .int .i64 i1, .slice a1 len1 cap1] (by rfl) rfl (World.news_of_block (heap_alloc_new w6' _)) (by simp [Value.oneCell']) (by omega) (by simp only [maxLen]; omega) (by omega) (by simp; omega) _ rfl ?_; intro g cap' wz hown hgrow hat hlt7; have houtz := (houtc.kept hal).row hgrow htsa (by omega); have cz := houtz.cells.2.2.2; have fz := houtz.frozen 3)
              have hRa : Rep (fun b => b < base ∨ v.ownBlock = some b) (w6'.alloc (.cells #[.int .i64 k1, .string (B n1), .int .i64 i1, .slice a1 len1 cap1] 32)) t.dat [.int .i64 k1, .string (B n1), .int .i64 i1, .slice a1 len1 cap1] := by
                refine (Rep.weaken (fun b _ e => ?_) _ _ hRc).new _
                rcases e with e | e
                · omega
                · have := hown7 b e; omega
              have hTz := htsa.appended rfl hRa hown hgrow hat (Nat.le_refl _)
              have hset : Upto (fun b => b = Ob) wz (wz.setCell ⟨Ob, 3, none⟩ (.slice (some ⟨g, 0, none⟩) (ts.length + 1) cap')) := Upto.set (Upto.refl _ _) 3 _
              have hrow := Upto.ofRow (RowUp.grown htsa.2.2.1 hgrow)
              have hT' := ((hTc.on hal).far hrow (fun b e => by omega)).far hset (fun b e => by omega)
              have hres' : Box4 (wz.setCell ⟨Ob, 3, none⟩ (.slice (some ⟨g, 0, none⟩) (ts.length + 1) cap')) R _ _ _ _ _ := ((hrc.kept hal).keep hrow (by omega)).keep hset (by omega)
              have hwU : Upto (isT T) w (wz.setCell ⟨Ob, 3, none⟩ (.slice (some ⟨g, 0, none⟩) (ts.length + 1) cap')) := ((hwcU.trans hal (fun _ _ x => x.elim)).trans hrow (fun b hb e => by have := HR.out; omega)).trans hset (fun b hb e => by have := HR.out; omega)
              have hszz : base ≤ (wz.setCell ⟨Ob, 3, none⟩ (.slice (some ⟨g, 0, none⟩) (ts.length + 1) cap')).heap.size := by have := hset.size; have := hrow.size; have := hal.size; omega
              have hfs' : ∀ t' ∈ ts ++ [t], Bd ar d' t' := by
                intro t' ht'
                rcases List.mem_append.1 ht' with h | h
                · exact hfs t' h
                · obtain rfl : t' = t := by simpa using h
                  exact hFc
              have hTs := hTz.keep hset (fun b e => by omega)
              go_roundw
              case rel => exact ⟨j + 1, _, ts ++ [t], _, by go_num, by omega, by rw [List.length_append, HRT.out.2.1]; rfl, hTs, hfs', houtz.set3 _, hres', hT', hwU, hszz⟩
              case measure => simp [intOf]; omega
          · have hja : j = al := by omega
            obtain ⟨b0, b1, b2, b3⟩ := hout.cells
            obtain ⟨r0, r1, r2, r3⟩ := hres.cells
            obtain ⟨rf0, rf1, rf2, rf3⟩ := hres.frozens
            have qr := hres.lt
            obtain ⟨a, cap, rfl, hcap, hE⟩ := hts.rep
            have hfit : Bd ar d (.mk 5 [] (2 + (vi : Int)) ts) := by rw [HX.out]; exact bd_app (by rw [HAV.out]; congr 1; omega) (by omega) hfs
            obtain ⟨len, hlen⟩ : ∃ len, len = ts.length := ⟨_, rfl⟩
            rw [← hlen] at hout hcap b3
            have HL := hid hlen
            have hset9 := hres.set (d0 := .int .i64 5) (d1 := .string (B [])) (d2 := .int .i64 (2 + (vi : Int))) (d3 := .slice a len cap)
            obtain ⟨e0, e1, e2, e3⟩ := hset9.1.cells
            have HE := hid (And.intro e0 (And.intro e1 (And.intro e2 e3)))
            have HF9 := hid hset9
            have HJA := hid hja
            clear hlen hfs hts e0 e1 e2 e3 hset9 htl hja
            go_wp2_with fail
            obtain ⟨e0, e1, e2, e3⟩ := HE.out
            refine bodyPost_ret (v := .agg #[.int .i64 5, .string (B []), .int .i64 (2 + (vi : Int)), .slice a len cap]) ?_ rfl ?_
            · simp [results, Try.f7, go_sem, e0, e1, e2, e3]
            · have hRf : Rep (fun b => b < base) wr (Tm.mk 5 [] (2 + (vi : Int)) ts).dat [.int .i64 5, .string (B []), .int .i64 (2 + (vi : Int)), .slice a len cap] := rep_tm.2 ⟨a, cap, by rw [HL.out], by have := HL.out; omega, hE⟩
              have h9 := HF9.out
              exact HFIN.out _ _ _ _ _ _ _ _ (hTr.far h9.2 (fun b e => by omega)) (hwr.trans h9.2 (fun b hb e => by have := HR.out; omega)) (Rep.keep h9.2 (fun b e => by omega) _ _ (Rep.weaken (fun b _ e => by omega) _ _ hRf)) hfit
theorem applied_any (ss : List Sm) (h1s : 1 ≤ ss.length) (h3s : ss.length ≤ 3) (hsa : ∀ s ∈ ss, s.args.length ≤ 2) (sa : Option Addr) (sc : Nat) (T : Nat) (d : Nat) : d ≤ 10 → ∀ (w : World), TapeOk w T → RepE (isT T) w 2 (ss.map Sm.dat) sa 0 →
    Calls Try.prog 7 #[.pointer (some ⟨T, 0, none⟩), .int .i64 d, .slice sa ss.length sc, .int .i64 2] w (MakesV (Bd (ss.map (·.args.length)) d) w.heap.size T w) := by
  induction d with
  | zero => intro h w hT hE; exact applied_step ss h1s h3s hsa sa sc 0 h T (fun d' e => absurd e (by omega)) w hT hE
  | succ d ih => intro h w hT hE; exact applied_step ss h1s h3s hsa sa sc (d + 1) h T (fun d' e w hT hE => by obtain rfl : d' = d := (by omega); exact ih (by omega) w hT hE) w hT hE
end Go.Proofs.Ytadphaobbpngkaa
