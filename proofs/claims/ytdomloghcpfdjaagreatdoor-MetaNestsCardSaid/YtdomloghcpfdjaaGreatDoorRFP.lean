/- lfchecklaw13.play. -/
import Derived.Test.YtdomloghcpfdjaaGreatDoorRCH
import Derived.Test.YtdomloghcpfdjaaGreatDoorRCJ
import Derived.Test.YtdomloghcpfdjaaGreatDoorRCM
import Derived.Test.YtdomloghcpfdjaaGreatDoorRFC
import Derived.Test.YtdomloghcpfdjaaGreatDoorRFD
import Derived.Test.YtdomloghcpfdjaaGreatDoorRFE
import Derived.Test.YtdomloghcpfdjaaGreatDoorRFK
import Derived.Deep.CutRange
namespace Go.Proofs.YtdomloghcpfdjaaGreatDoor
open Go.RowKit Go.LF
/-- A store that was made by calls of New and Solve, which gave what the reference gives. -/
def GivesPl (w : World) (e : Ending) (w' : World) : Prop :=
  ∃ (L : List Mv) (va : Option Addr) (vc : Nat), e = .returned (.tuple #[.slice va L.length vc, .bool true]) ∧ Play L ∧ L.length ≤ vc ∧ RepE none' w' 6 (L.map Mv.dat) va 0 ∧ Upto none' w w'
set_option maxRecDepth 100000 in
set_option maxHeartbeats 16000000 in
theorem play_any (l0 : List Int) (a0 : Option Addr) (len0 cap0 : Nat) (hl0 : l0.length = len0) (hlen0 : len0 ≤ 17592186044416) (w : World) (hE0 : RepE none' w 1 (l0.map (Dat.int .i64)) a0 0) (hN : NamesRead w) :
    Calls Tryz.prog 27 #[.slice a0 len0 cap0] w (GivesPl w) := by
  obtain ⟨w1, hw1⟩ : ∃ w1, w1 = w.alloc (.cells #[.slice a0 len0 cap0, .int .i64 0] 26) := ⟨_, rfl⟩
  have hU1 : Upto none' w w1 := by rw [hw1]; exact (Upto.refl none' w).alloc _
  have hT1 : TapeOk w1 w.heap.size := by
    rw [hw1]
    exact tape_new (w := w) (cap := cap0) (U := 26) hl0 hlen0 hE0
  have hK1 : NamesOk w.heap.size w1 := hN.ok hU1 (Nat.le_refl _)
  obtain ⟨T, hH⟩ : ∃ T, T = w.heap.size := ⟨_, rfl⟩
  rw [← hH] at hT1 hK1
  have HH := hid hH
  have HW := hid hw1
  have HU1 := hid hU1
  clear hw1 hH hE0 hl0 hlen0 hN hU1
  go_enter Tryz.func27, Tryz.ntmps27
  go_upto_region 3 with fail
  rw [← HH.out, ← HW.out]
  go_wp2_with fail
  go_loopw [5, 6] (fun v5 v6 wr => ∃ (n : Nat) (L : List Mv) (va : Option Addr) (vc : Nat), v6 = .int .i64 (n : Int) ∧ n ≤ 14 ∧ v5 = .slice va L.length vc ∧ Play L ∧ L.length ≤ n ∧ L.length ≤ vc ∧ RepE (isT T) wr 6 (L.map Mv.dat) va 0 ∧ TapeOk wr T ∧ NamesOk T wr ∧ Upto (isT T) w1 wr)
    (fun _ v6 _ => 14 - (intOf v6).toNat)
  case atStart => exact ⟨0, [], none, 0, rfl, by omega, rfl, Play.nil, Nat.le_refl _, Nat.le_refl _, by simp only [List.map_nil, RepE], hT1, hK1, Upto.refl _ _⟩
  case round =>
    obtain ⟨n, L, va, vc, rfl, hn, rfl, hP, hLn, hLc, hL, hT, hK, hU⟩ := hrel
    have hnm : (n : Int) ≤ 14 := by omega
    have hend : GivesPl w (.returned (.tuple #[.slice va L.length vc, .bool true])) wr := ⟨L, va, vc, rfl, hP, hLc, RepE.weaken (fun _ _ e => e.elim) _ _ _ _ hL, HU1.out.trans hU (fun b hb e => by have := HH.out; simp only [isT] at e; omega)⟩
    have HEND := hid hend
    have hLc0 := hLc
    obtain ⟨Ll, hLl⟩ : ∃ k, k = L.length := ⟨_, rfl⟩
    rw [← hLl]
    have HLl := hid hLl
    have hL14 : Ll ≤ 14 := by omega
    clear hend hLl
    by_cases hlt : n < 14
    · have hlt' : (n : Int) < 14 := by omega
      have EN := end13_any T wr hT
      have hd : Upto none' wr wr.drew := (Upto.refl none' wr).drew
      go_wp2_with fail
      (with_reducible refine EN.mono ?_)
      rintro e w2 ⟨⟨b, rfl⟩, rfl⟩
      clear EN
      cases b
      case true =>
        go_wp2_with fail
        refine bodyPost_ret (v := .tuple #[.slice va Ll vc, .bool true]) (by simp [results, Tryz.f27, go_sem]) rfl ?_
        rw [HLl.out]
        exact ⟨L, va, vc, rfl, hP, hLc, RepE.weaken (fun _ _ e => e.elim) _ _ _ _ (hL.on hd), (HU1.out.trans (hU.trans hd (fun _ _ e => e.elim)) (fun b hb e => by have := HH.out; simp only [isT] at e; omega))⟩
      case false =>
        have hL2 := hL.on hd
        have hT2 := hT.on hd
        have hK2 := hK.on hd
        have hU2 : Upto (isT T) w1 wr.drew := hU.trans hd (fun _ _ e => e.elim)
        obtain ⟨w2, hw2⟩ : ∃ q, q = wr.drew := ⟨_, rfl⟩
        rw [← hw2] at hL2 hT2 hK2 hU2
        have HW2 := hid hw2
        have N1 := next_any 2 (by omega) (by omega) T w2 hT2
        clear hL hT hK hU HEND hw2 hd
        rw [← HW2.out]
        go_wp2_with fail
        (with_reducible refine N1.mono ?_)
        rintro e w3 ⟨⟨c, hc, rfl⟩, hT3, hU3⟩
        have hL3 := RepE.keep hU3 (fun _ e => e) _ _ _ _ hL2
        have hK3 := hK2.keep hU3
        have hU13 := hU2.trans hU3 (fun _ _ e => e)
        clear N1 hL2 hT2 hK2 hU2 hU3
        obtain rfl | rfl : c = 0 ∨ c = 1 := by omega
        · obtain ⟨w4, hw4⟩ : ∃ w4, w4 = w3.alloc (.cells #[.string (B []), .string (B [88]), .string (B [95]), .string (B [116, 121, 112, 101])] 9) := ⟨_, rfl⟩
          have hU4 : Upto none' w3 w4 := by rw [hw4]; exact (Upto.refl none' w3).alloc _
          have hb4 : Box4 w4 w3.heap.size (.string (B [])) (.string (B [88])) (.string (B [95])) (.string (B [116, 121, 112, 101])) 9 := by rw [hw4]; exact Box4.at_new rfl
          have hTl := hT3.lt
          have N4 := next_any 4 (by omega) (by omega) T w4 (hT3.on hU4)
          have hL4 := hL3.on hU4
          have hK4 := hK3.on hU4
          have hU14 := hU13.trans hU4 (fun _ _ e => e.elim)
          have HW4 := hid hw4
          obtain ⟨P, hP⟩ : ∃ P, P = w3.heap.size := ⟨_, rfl⟩
          rw [← hP] at hb4 hTl
          have HP := hid hP
          clear hw4 hP hL3 hK3 hU13 hT3 hU4
          go_wp2_with fail
          rw [← show B [] = { data := #[] } from rfl, ← show B [88] = { data := #[88] } from rfl, ← show B [95] = { data := #[95] } from rfl, ← show B [116, 121, 112, 101] = { data := #[116, 121, 112, 101] } from rfl, ← HW4.out]
          (with_reducible refine N4.mono ?_)
          rintro e w5 ⟨⟨c5, hc5, rfl⟩, hT5, hU5⟩
          have hb5 := hb4.keep hU5 (by simp only [isT]; omega)
          obtain ⟨nm, hnm, hcell⟩ : ∃ nm : List UInt8, nm.length ≤ 4 ∧ w5.cell? ⟨P, c5, none⟩ = some (.string (B nm)) := by
            obtain ⟨b0, b1, b2, b3⟩ := hb5.cells
            obtain rfl | rfl | rfl | rfl : c5 = 0 ∨ c5 = 1 ∨ c5 = 2 ∨ c5 = 3 := by omega
            · exact ⟨_, by decide, b0⟩
            · exact ⟨_, by decide, b1⟩
            · exact ⟨_, by decide, b2⟩
            · exact ⟨_, by decide, b3⟩
          have hL5 := RepE.keep hU5 (fun _ e => e) _ _ _ _ hL4
          have hK5 := hK4.keep hU5
          have hU15 := hU14.trans hU5 (fun _ _ e => e)
          clear N4 hL4 hK4 hU14 hU5 hb4 hb5
          rw [← HP.out]
          have N5 := next_any 12 (by omega) (by omega) T w5 hT5
          go_wp2_with fail
          (with_reducible refine N5.mono ?_)
          rintro e w6 ⟨⟨c6, hc6, rfl⟩, hT6, hU6⟩
          have hL6 := RepE.keep hU6 (fun _ e => e) _ _ _ _ hL5
          have hK6 := hK5.keep hU6
          have hU16 := hU15.trans hU6 (fun _ _ e => e)
          clear N5 hL5 hK5 hU15 hU6 hT5 hcell
          have hc60 : (0 : Int) ≤ (c6 : Int) := by omega
          have N6 := next_any 9 (by omega) (by omega) T w6 hT6
          go_wp2_with fail
          (with_reducible refine N6.mono ?_)
          rintro e w7 ⟨⟨c7, hc7, rfl⟩, hT7, hU7⟩
          have hL7 := RepE.keep hU7 (fun _ e => e) _ _ _ _ hL6
          have hK7 := hK6.keep hU7
          have hU17 := hU16.trans hU7 (fun _ _ e => e)
          clear N6 hL6 hK6 hU16 hU7 hT6
          have hc70 : (0 : Int) ≤ (c7 : Int) := by omega
          go_wp2_with fail
          rw [show (c6 : Int) / 11 = ((c6 / 11 : Nat) : Int) by omega, show (Ll : Int) + (c7 : Int) / 8 = ((Ll + c7 / 8 : Nat) : Int) by omega]
          have TY := type_any 2 (by omega) (c6 / 11) (Ll + c7 / 8) (by omega) (by omega) T w7 hT7 hK7
          have hTl7 := hT7.lt
          rw [show ((2 : Nat) : Int) = 2 from rfl] at TY
          (with_reducible refine TY.mono ?_)
          rintro e w8 ⟨k8, i8, n8, a8, l8, q8, t, rfl, hR8, hF8, hT8, hK8, hU8⟩
          have hL8 := RepE.keep hU8 (fun _ e => e) _ _ _ _ hL7
          have hU18 := hU17.trans hU8 (fun _ _ e => e)
          have htw : t.wt ≤ 35 := by have := hF8.wt; omega
          clear TY hL7 hK7 hU17 hT7 hF8
          obtain ⟨w9, hw9⟩ : ∃ w9, w9 = w8.alloc (.cells #[.int .i64 k8, .string (B n8), .int .i64 i8, .slice a8 l8 q8] 29) := ⟨_, rfl⟩
          have hU9 : Upto none' w8 w9 := by rw [hw9]; exact (Upto.refl none' w8).alloc _
          have hb9 : Box4 w9 w8.heap.size (.int .i64 k8) (.string (B n8)) (.int .i64 i8) (.slice a8 l8 q8) 29 := by rw [hw9]; exact Box4.at_new rfl
          have hTl8 := hT8.lt
          have hX1 := hU18.size
          have hR9 : Rep (fun b => b = T ∨ b = w8.heap.size) w9 t.dat [.int .i64 k8, .string (B n8), .int .i64 i8, .slice a8 l8 q8] := (Rep.weaken (fun b _ e => by rcases e with e | e; (exact .inl (by omega)); exact .inr (by omega)) _ _ (Rep.fresh' _ _ hR8)).on hU9
          have hL9 : RepE (fun b => b = T ∨ b = w8.heap.size) w9 6 (L.map Mv.dat) va 0 := (RepE.weaken (fun b _ e => by rcases e with e | e; (exact .inl e); exact .inr (by omega)) _ _ _ _ (RepE.fresh' _ _ _ _ hL8)).on hU9
          have hT9 := hT8.on hU9
          have hK9 := hK8.on hU9
          have hU19 := hU18.trans hU9 (fun _ _ e => e.elim)
          have HW9 := hid hw9
          obtain ⟨X, hX⟩ : ∃ X, X = w8.heap.size := ⟨_, rfl⟩
          rw [← hX] at hb9 hTl8 hR9 hL9
          have HX := hid hX
          clear hw9 hX hR8 hL8 hT8 hK8 hU18 hU8 hU9
          go_upto_region 9 with fail
          rw [← HX.out, ← HW9.out]
          have N9 := next_any 12 (by omega) (by omega) T w9 hT9
          go_wp2_with fail
          (with_reducible refine N9.mono ?_)
          rintro e w10 ⟨⟨c10, hc10, rfl⟩, hT10, hU10⟩
          have hL10 := RepE.keep hU10 (fun _ e => .inl e) _ _ _ _ hL9
          have hK10 := hK9.keep hU10
          have hR10 := Rep.keep hU10 (fun _ e => .inl e) _ _ hR9
          have hb10 := hb9.keep hU10 (by simp only [isT]; omega)
          have hU110 := hU19.trans hU10 (fun _ _ e => e)
          clear N9 hL9 hK9 hR9 hb9 hU19 hU10 hT9
          go_upto_if 55 with fail
          go_cut [] from 55 to 61 (fun wc => ∃ (k i : Int) (nn : List UInt8) (a : Option Addr) (len q : Nat) (t : Tm), Box4 wc X (.int .i64 k) (.string (B nn)) (.int .i64 i) (.slice a len q) 29 ∧ t.wt ≤ 45 ∧ Rep (isT T) wc t.dat [.int .i64 k, .string (B nn), .int .i64 i, .slice a len q] ∧ RepE (isT T) wc 6 (L.map Mv.dat) va 0 ∧ TapeOk wc T ∧ NamesOk T wc ∧ Upto (isT T) w1 wc)
          case first =>
            by_cases h0 : c10 = 0
            · have hz : ((c10 : Int) == 0) = true := by simpa using h0
              have hd : Upto none' w10 w10.drew := (Upto.refl none' _).drew
              have hTd := hT10.on hd
              have hbd := hb10.kept hd
              have NA := next_any 99 (by omega) (by omega) T w10.drew hTd
              have hTX : ¬ X = T := by omega
              have HX1 := hid hX1
              obtain ⟨x0, x1, x2, x3⟩ := hbd.cells
              clear h0
              go_wp2_with fail
              go_region_law (first
                | ((rw [if_pos (by rfl)]); go_simp; (go_at_call 30); (with_reducible refine NA.mono ?_); rintro e wA ⟨⟨cA, hcA, rfl⟩, hTA, hUA⟩; have hbA := hbd.keep hUA hTX; clear x0 x1 x2 x3; obtain ⟨x0, x1, x2, x3⟩ := hbA.cells)
                | ((rw [if_pos (by rfl)]); go_simp; (go_at_call 30); (with_reducible refine (next_any 99 (by omega) (by omega) T wA hTA).mono ?_); rintro e wB ⟨⟨cB, hcB, rfl⟩, hTB, hUB⟩; have hbB := hbA.keep hUB hTX; have hUAB := (hd.mono (S' := isT T) (fun _ _ e => e.elim)).trans (hUA.trans hUB (fun _ _ e => e)) (fun _ _ e => e); have hRB := Rep.keep hUAB (fun _ e => .inl e) _ _ hR10; clear x0 x1 x2 x3; obtain ⟨x0, x1, x2, x3⟩ := hbB.cells)
                | ((rw [if_pos (by rfl)]); go_simp; (go_at_call 33); (with_reducible refine (spoil_any t (by omega) (fun b => b = T ∨ b = X) _ _ wB _ hRB).mono ?_); rintro e wS ⟨kS, iS, nS', aS, lS, qS, tS, rfl, hRS, hwS, hUS⟩; have hbS := hbB.kept hUS; clear x0 x1 x2 x3; obtain ⟨x0, x1, x2, x3⟩ := hbS.cells; obtain ⟨y0, y1, y2, y3⟩ := hbS.frozens; have xl := hbS.lt))
              all_goals
                go_wp2_with fail
                go_meet
                have hset := hbS.set (d0 := .int .i64 kS) (d1 := .string (B nS')) (d2 := .int .i64 iS) (d3 := .slice aS lS qS)
                have hUS1 := hUAB.trans hUS (fun _ _ e => e.elim)
                exact ⟨kS, iS, nS', aS, lS, qS, tS, hset.1, by omega, Rep.weaken (fun b _ e => ⟨.inl e, by simp only [isT] at e; have := hTB.lt; omega⟩) _ _ (Rep.keep hset.2 (fun b e => ⟨.inr e, by have := hbB.lt; omega⟩) _ _ hRS), RepE.weaken (fun b _ e => .inl e) _ _ _ _ (RepE.keep hset.2 (fun b e => .inr e) _ _ _ _ (RepE.keep hUS1 (fun _ e => .inl e) _ _ _ _ hL10)),
                  (hTB.on hUS).far hset.2 (fun b e => by omega), (hK10.keep hUS1).far hset.2 (fun b e => by omega), (hU110.trans hUS1 (fun _ _ e => e)).trans hset.2 (fun b hb e => by have := HX1.out; have := HX.out; omega)⟩
            · have hz : ((c10 : Int) == 0) = false := by simpa using h0
              go_wp2_with fail
              go_meet
              case rel => exact ⟨k8, i8, n8, a8, l8, q8, t, hb10, by omega, Rep.weaken (fun b _ e => .inl e) _ _ hR10, RepE.weaken (fun b _ e => .inl e) _ _ _ _ hL10, hT10, hK10, hU110⟩
          case rest =>
            obtain ⟨kt, it, nt, at', lt, qt, tt, hbc, htw2, hRc, hLc2, hTc, hKc, hUc⟩ := hcut
            obtain ⟨w11, rfl⟩ : ∃ q, q = wc := ⟨wc, rfl⟩
            have hL0 := RepE.weaken (O' := none') (fun _ _ e => e.elim) _ _ _ _ hLc2
            have hR0 := Rep.weaken (O' := none') (fun _ _ e => e.elim) _ _ hRc
            have NW := new13_any L hP.stOk nm (by omega) tt (by omega) w11 va vc _ hL0 hR0
            have RN := fun (W : World) (h : Upto none' w11 W) => refNewO_any (isT T) L (by have := hP.len; omega) nm (by omega) tt (by omega) W (fun b e => by simp only [isT] at e; have h1 := h.size; have h2 := hTc.lt; omega) va vc hLc _ (hLc2.on h) (hRc.on h)
            have hPn := hP.new (name := nm) (a := tt) (by omega) (by have := Tm.size_le_wt tt; omega)
            rw [← HLl.out] at NW RN
            clear hb10 hR10 hL10 hT10 hK10 hU110
            obtain ⟨p0, p1, p2, p3⟩ := hbc.cells
            go_wp2_with fail
            (with_reducible refine NW.mono ?_)
            rintro e w12 ⟨v12, css12, rfl, hRD12, hU12⟩
            obtain ⟨a12, c12, rfl, hE12⟩ := rep_row13 hRD12 (fun _ e => e)
            have hb12 := hbc.kept hU12
            have RN12 := RN w12 hU12
            clear p0 p1 p2 p3 NW RN hRD12 hbc
            obtain ⟨p0, p1, p2, p3⟩ := hb12.cells
            go_wp2_with fail
            (with_reducible refine RN12.mono ?_)
            rintro e w13 ⟨a13, c13, rfl, hc13, hE13, hU13⟩
            have SS := sameStore_same (newS L nm tt) hPn.stOk w13 a12 a13 c12 c13 (hE12.on hU13) (RepE.weaken (fun _ _ e => e.elim) _ _ _ _ hE13)
            generalize newI L nm tt = ni at *
            generalize checkE (Ll : Int) nm tt = ne at *
            clear RN12 p0 p1 p2 p3
            go_wp2_with fail
            (with_reducible refine SS.mono ?_)
            rintro e w14 ⟨rfl, hU14⟩
            have hU1114 := (hU12.and hU13).and hU14
            have hlen2 : (newS L nm tt).length ≤ n + 1 := by unfold newS; split; (omega); (rw [List.length_append, List.length_singleton]; omega)
            have hrow : RepE (isT T) w14 6 ((newS L nm tt).map Mv.dat) a13 0 := hE13.on hU14
            have hT14 := hTc.on hU1114
            have hK14 := hKc.on hU1114
            have hU114 := hUc.trans hU1114 (fun _ _ e => e.elim)
            have HF := hid (And.intro hPn (And.intro hlen2 (And.intro hc13 (And.intro hrow (And.intro hT14 (And.intro hK14 hU114))))))
            clear SS hPn hlen2 hc13 hrow hT14 hK14 hU114
            go_wp2_with fail
            go_roundw
            case rel => exact ⟨n + 1, newS L nm tt, a13, c13, by go_num, by omega, rfl, HF.out.1, HF.out.2.1, HF.out.2.2.1, HF.out.2.2.2.1, HF.out.2.2.2.2.1, HF.out.2.2.2.2.2.1, HF.out.2.2.2.2.2.2⟩
            case measure => simp [intOf]; omega
        · obtain ⟨wq, rfl⟩ : ∃ wq, wq = wr := ⟨_, rfl⟩
          have hTX0 := hT3.lt
          have N4 := next_any ((Ll : Int) + 2) (by omega) (by omega) T w3 hT3
          go_upto_region 16 with fail
          go_wp2_with fail
          (with_reducible refine N4.mono ?_)
          rintro e w5 ⟨⟨c4, hc4, rfl⟩, hT5, hU5⟩
          have hL5 := RepE.keep hU5 (fun _ e => e) _ _ _ _ hL3
          have hK5 := hK3.keep hU5
          have hU15 := hU13.trans hU5 (fun _ _ e => e)
          clear N4 hL3 hK3 hU13 hU5 hT3
          have hc40 : (0 : Int) ≤ (c4 : Int) := by omega
          have hc41 : (c4 : Int) ≤ 100 := by omega
          have N5 := next_any 12 (by omega) (by omega) T w5 hT5
          go_wp2_with fail
          (with_reducible refine N5.mono ?_)
          rintro e w6 ⟨⟨c6, hc6, rfl⟩, hT6, hU6⟩
          have hL6 := RepE.keep hU6 (fun _ e => e) _ _ _ _ hL5
          have hK6 := hK5.keep hU6
          have hU16 := hU15.trans hU6 (fun _ _ e => e)
          clear N5 hL5 hK5 hU15 hU6 hT5
          have hc60 : (0 : Int) ≤ (c6 : Int) := by omega
          have N6 := next_any 9 (by omega) (by omega) T w6 hT6
          go_wp2_with fail
          (with_reducible refine N6.mono ?_)
          rintro e w7 ⟨⟨c7, hc7, rfl⟩, hT7, hU7⟩
          have hL7 := RepE.keep hU7 (fun _ e => e) _ _ _ _ hL6
          have hK7 := hK6.keep hU7
          have hU17 := hU16.trans hU7 (fun _ _ e => e)
          clear N6 hL6 hK6 hU16 hU7 hT6
          have hc70 : (0 : Int) ≤ (c7 : Int) := by omega
          go_wp2_with fail
          rw [show (c6 : Int) / 11 = ((c6 / 11 : Nat) : Int) by omega, show (Ll : Int) + (c7 : Int) / 8 = ((Ll + c7 / 8 : Nat) : Int) by omega]
          have TY := term_any 2 (by omega) (c6 / 11) (Ll + c7 / 8) (by omega) (by omega) T w7 hT7 hK7
          rw [show ((2 : Nat) : Int) = 2 from rfl] at TY
          (with_reducible refine TY.mono ?_)
          rintro e w8 ⟨k8, i8, n8, a8, l8, q8, t, rfl, hR8, hF8, hT8, hK8, hU8⟩
          have hL8 := RepE.keep hU8 (fun _ e => e) _ _ _ _ hL7
          have hU18 := hU17.trans hU8 (fun _ _ e => e)
          have htw : t.wt ≤ 35 := by have := hF8.wt; omega
          have hTl7 := hT7.lt
          have hz78 := hU8.size
          clear TY hL7 hK7 hU17 hT7 hF8
          obtain ⟨w9, hw9⟩ : ∃ w9, w9 = w8.alloc (.cells #[.int .i64 k8, .string (B n8), .int .i64 i8, .slice a8 l8 q8] 29) := ⟨_, rfl⟩
          have hU9 : Upto none' w8 w9 := by rw [hw9]; exact (Upto.refl none' w8).alloc _
          have hb9 : Box4 w9 w8.heap.size (.int .i64 k8) (.string (B n8)) (.int .i64 i8) (.slice a8 l8 q8) 29 := by rw [hw9]; exact Box4.at_new rfl
          have hTl8 := hT8.lt
          have hX1 := hU18.size
          have hR9 : Rep (fun b => b = T ∨ b = w8.heap.size) w9 t.dat [.int .i64 k8, .string (B n8), .int .i64 i8, .slice a8 l8 q8] := (Rep.weaken (fun b _ e => by rcases e with e | e; (exact .inl (by omega)); exact .inr (by omega)) _ _ (Rep.fresh' _ _ hR8)).on hU9
          have hL9 : RepE (fun b => b = T ∨ b = w8.heap.size) w9 6 (L.map Mv.dat) va 0 := (RepE.weaken (fun b _ e => by rcases e with e | e; (exact .inl e); exact .inr (by omega)) _ _ _ _ (RepE.fresh' _ _ _ _ hL8)).on hU9
          have hT9 := hT8.on hU9
          have hK9 := hK8.on hU9
          have hU19 := hU18.trans hU9 (fun _ _ e => e.elim)
          have HW9 := hid hw9
          obtain ⟨X, hX⟩ : ∃ X, X = w8.heap.size := ⟨_, rfl⟩
          rw [← hX] at hb9 hTl8 hR9 hL9 hX1
          have HX := hid hX
          clear hw9 hX hR8 hL8 hT8 hK8 hU18 hU8 hU9 hz78
          go_upto_region 18 with fail
          rw [← HX.out, ← HW9.out]
          have N9 := next_any 3 (by omega) (by omega) T w9 hT9
          go_wp2_with fail
          (with_reducible refine N9.mono ?_)
          rintro e w10 ⟨⟨c10, hc10, rfl⟩, hT10, hU10⟩
          have hL10 := RepE.keep hU10 (fun _ e => .inl e) _ _ _ _ hL9
          have hK10 := hK9.keep hU10
          have hR10 := Rep.keep hU10 (fun _ e => .inl e) _ _ hR9
          have hb10 := hb9.keep hU10 (by simp only [isT]; omega)
          have hU110 := hU19.trans hU10 (fun _ _ e => e)
          have hXT : ¬ T = X := by omega
          clear N9 hL9 hK9 hR9 hb9 hU19 hU10 hT9
          go_wp2_with fail
          go_loopw [17] (fun v17 wr => ∃ (j i : Nat) (t0 t1 t2 t3 : Value) (u : Tm), v17 = .int .i64 (j : Int) ∧ j + i = c10 ∧ u.wt ≤ 35 + i ∧ Box4 wr X t0 t1 t2 t3 29 ∧ Rep (fun b => b = T ∨ b = X) wr u.dat [t0, t1, t2, t3] ∧ Upto (fun b => b = X) w10 wr)
            (fun v17 _ => (intOf v17).toNat)
          case atStart => exact ⟨c10, 0, _, _, _, _, t, rfl, rfl, by omega, hb10, hR10, Upto.refl _ _⟩
          case round =>
            clear hb10 hR10
            obtain ⟨j, i, s0, s1, s2, s3, u, rfl, hji, huw, hBj, hRj, hUj⟩ := hrel
            obtain ⟨x0, x1, x2, x3⟩ := hBj.cells
            obtain ⟨f0, f1, f2, f3⟩ := hBj.frozens
            have q := hBj.lt
            have u1 : (j : Int) ≤ 1000 := by omega
            have hTj := hT10.far hUj (fun b e => by omega)
            have hTlj := hTj.lt
            by_cases hlt0 : 0 < j
            · have hlt : (0 : Int) < (j : Int) := by omega
              go_wp2_with fail
              obtain ⟨wn, hwn⟩ : ∃ wn, wn = ((((wr.setCell ⟨X, 0, none⟩ (.int .i64 3)).setCell ⟨X, 1, none⟩ (.string (B []))).setCell ⟨X, 2, none⟩ (.int .i64 0)).setCell ⟨X, 3, none⟩ (.slice (some ⟨wr.heap.size, 0, none⟩) 1 1)).alloc (.cells #[s0, s1, s2, s3] 29) := ⟨_, rfl⟩
              obtain ⟨hB', hR', hU'⟩ := relayO hBj hRj (.inr rfl) (fun x e => by rcases e with e | e <;> omega) 3 [] 0 hwn
              rw [← hwn]
              clear hwn
              go_roundw
              case rel => exact ⟨j - 1, i + 1, _, _, _, _, .mk 3 [] 0 [u], by go_num, by omega, by rw [Tm.wt_mk, Tm.wts, Tm.wts]; simp only [List.length_nil]; omega, hB', hR', hUj.trans hU' (fun _ _ e => e)⟩
              case measure => simp [intOf]; omega
            · have hlt : ¬ (0 : Int) < (j : Int) := by omega
              have hLc := RepE.keep hUj (fun _ e => .inr e) _ _ _ _ hL10
              have hKc := hK10.far hUj (fun b e => by omega)
              have hUc : Upto (isT T) w1 wr := hU110.trans hUj (fun b hb e => by omega)
              obtain ⟨k9, n9, i9, us9, a9, c9, -, e9, -, -⟩ := tm_open hRj
              obtain ⟨rfl, rfl, rfl, rfl⟩ : s0 = .int .i64 k9 ∧ s1 = .string (B n9) ∧ s2 = .int .i64 i9 ∧ s3 = .slice a9 us9.length c9 := by simpa using e9
              generalize us9.length = l9 at *
              have hL0 := RepE.weaken (O' := none') (fun _ _ e => e.elim) _ _ _ _ hLc
              have hR0 := Rep.weaken (O' := none') (fun _ _ e => e.elim) _ _ hRj
              have huw2 : u.wt ≤ 45 := by omega
              have hsz := Tm.size_le_wt u
              have SV := solve13_any L hP.stR ((c4 : Int) - 1) u (by omega) wr va vc _ hL0 hR0
              have RV := fun (W : World) (h : Upto none' wr W) => refSolveO_any (isT T) L hP.stR ((c4 : Int) - 1) u (by omega) W (fun b e => by simp only [isT] at e; have h1 := h.size; omega) va vc hLc0 _ ((RepE.weaken (fun b _ e => .inl e) _ _ _ _ hLc).on h) ((Rep.weaken (fun b _ e => .inl e) _ _ hRj).on h)
              have hPn := hP.solve (i := (c4 : Int) - 1) (m := u) (by omega)
              rw [← HLl.out] at SV RV
              have hslen : (solveS L ((c4 : Int) - 1) u).length = L.length := by unfold solveS; split; (rfl); exact setV_length _ _ _
              have hLn2 : L.length ≤ n + 1 := by omega
              have HSL := hid (And.intro hslen hLn2)
              clear hL10 hK10 hT10 hU110 hslen hLn2 f0 f1 f2 f3 huw2 hsz htw huw hji e9
              go_wp2_with fail
              (with_reducible refine SV.mono ?_)
              rintro e w12 ⟨a12, c12, rfl, hc12, hE12, hU12⟩
              have hb12 := hBj.kept hU12
              have RV12 := RV w12 hU12
              clear x0 x1 x2 x3 SV RV hBj
              obtain ⟨p0, p1, p2, p3⟩ := hb12.cells
              go_wp2_with fail
              (with_reducible refine RV12.mono ?_)
              rintro e w13 ⟨a13, c13, rfl, hc13, hE13, hU13⟩
              have SS := sameStore_same (solveS L ((c4 : Int) - 1) u) hPn.stOk w13 a12 a13 c12 c13 (hE12.on hU13) (RepE.weaken (fun _ _ e => e.elim) _ _ _ _ hE13)
              generalize solveE L ((c4 : Int) - 1) u = ne at *
              generalize solveS L ((c4 : Int) - 1) u = ns at *
              clear RV12 p0 p1 p2 p3
              go_wp2_with fail
              (with_reducible refine SS.mono ?_)
              rintro e w14 ⟨rfl, hU14⟩
              have hU1114 := (hU12.and hU13).and hU14
              have hrow : RepE (isT T) w14 6 (ns.map Mv.dat) a13 0 := hE13.on hU14
              have hT14 := hTj.on hU1114
              have hK14 := hKc.on hU1114
              have hU114 := hUc.trans hU1114 (fun _ _ e => e.elim)
              have HF := hid (And.intro hPn (And.intro hc13 (And.intro hrow (And.intro hT14 (And.intro hK14 hU114)))))
              clear SS hPn hc13 hrow hT14 hK14 hU114
              go_wp2_with fail
              go_roundw
              case rel => exact ⟨n + 1, ns, a13, c13, by go_num, by omega, rfl, HF.out.1, by rw [HSL.out.1]; exact HSL.out.2, HF.out.2.1, HF.out.2.2.1, HF.out.2.2.2.1, HF.out.2.2.2.2.1, HF.out.2.2.2.2.2⟩
              case measure => simp [intOf]; omega
    · have hge : ¬ (n : Int) < 14 := by omega
      go_wp2_with fail
      refine bodyPost_ret (v := .tuple #[.slice va Ll vc, .bool true]) (by simp [results, Tryz.f27, go_sem]) rfl ?_
      rw [HLl.out]
      exact HEND.out
end Go.Proofs.YtdomloghcpfdjaaGreatDoor
