/- StrictDetermines: values. -/
import Derived.Test.YtadphaobbpngkaaDetV
import Derived.Test.YtadphaobbpngkaaSubShd
namespace Go.LF
theorem lamN_wt9 (n : Nat) (t : Tm) : (Tm.lamN n t).wt = n + t.wt := by
  induction n with
  | zero => simp [Tm.lamN]
  | succ n ih => rw [Tm.lamN_succ, Tm.wt_mk]; simp only [Tm.wts, ih, List.length_nil]; omega
/-- Objects: as many Lams as ar says, around first-order terms over their variables. -/
def VlS (ar : List Nat) (vs ms : List Tm) : Prop := vs.length = ms.length ∧ ∀ j (_ : j < ms.length) (_ : j < vs.length) (_ : j < ar.length), ms[j] = Tm.lamN ar[j] vs[j] ∧ Vl ar[j] 2 vs[j]
theorem VlS.add {ar : List Nat} {vs ms : List Tm} {v : Tm} {n : Nat} (h : VlS ar vs ms) (hn : ar[ms.length]? = some n) (hv : Vl n 2 v) : VlS ar (vs ++ [v]) (ms ++ [Tm.lamN n v]) := by
  refine ⟨by simp [h.1], fun j h1 h2 h3 => ?_⟩
  by_cases hj : j < ms.length
  · have := h.2 j hj (by rw [h.1]; exact hj) h3
    rw [List.getElem_append_left hj, List.getElem_append_left (by rw [h.1]; exact hj)]
    exact this
  · obtain rfl : j = ms.length := by simp at h1; omega
    obtain ⟨h4, h5⟩ := List.getElem?_eq_some_iff.1 hn
    rw [List.getElem_append_right (Nat.le_refl _), List.getElem_append_right (by rw [h.1]; exact Nat.le_refl _)]
    simp only [Nat.sub_self, List.getElem_cons_zero, h.1]
    rw [h5]
    exact ⟨rfl, hv⟩
end Go.LF
namespace Go.Proofs.Ytadphaobbpngkaa
open Go.RowKit Go.LF
/-- What values hands back. -/
def MakesVs (base : Nat) (ar : List Nat) (T : Nat) (w : World) (e : Ending) (w' : World) : Prop :=
  ∃ (a : Option Addr) (cap : Nat) (vs ms : List Tm), e = .returned (.slice a ms.length cap) ∧ ms.length = ar.length ∧ ms.length ≤ cap ∧ RepE (fun b => b < base) w' 4 (ms.map Tm.dat) a 0 ∧ VlS ar vs ms ∧ Upto (isT T) w w'
set_option maxRecDepth 100000 in
set_option maxHeartbeats 16000000 in
theorem values_any (ss : List Sm) (h3s : ss.length ≤ 3) (hsa : ∀ s ∈ ss, s.args.length ≤ 2) (sa : Option Addr) (sc : Nat) (T : Nat) (w : World) (hT : TapeOk w T) (hE0 : RepE (isT T) w 2 (ss.map Sm.dat) sa 0) :
    Calls Try.prog 8 #[.pointer (some ⟨T, 0, none⟩), .slice sa ss.length sc] w (MakesVs w.heap.size (ss.map (·.args.length)) T w) := by
  have VL : ∀ (n : Nat) (hn : n ≤ 100) (W : World), TapeOk W T → Calls Try.prog 22 #[.pointer (some ⟨T, 0, none⟩), .int .i64 2, .int .i64 (n : Int)] W (MakesV (Vl n 2) W.heap.size T W) := fun n hn W h => value_any n hn T 2 (by omega) W h
  obtain ⟨ls, hls⟩ : ∃ ls, ls = ss.length := ⟨_, rfl⟩
  obtain ⟨ar, har⟩ : ∃ ar, ar = ss.map (·.args.length) := ⟨_, rfl⟩
  rw [← hls, ← har]
  have L3 : ls ≤ 3 := by omega
  have HLS := hid hls
  have HAR := hid har
  have hTl := hT.lt
  obtain ⟨base, hbase⟩ : ∃ base, base = w.heap.size := ⟨_, rfl⟩
  rw [← hbase]
  have HBS := hid hbase
  have hTb : T < base := by omega
  clear hls har h3s hbase
  go_enter Try.func8, Try.ntmps8
  go_wp2_with fail
  go_loopw [5, 6] (fun v5 v6 wr => ∃ (j : Nat) (vs ms : List Tm) (css : List (List Value)), v6 = .int .i64 (j : Int) ∧ j ≤ ls ∧ ms.length = j ∧ Terms base wr v5 ms css ∧ VlS ar vs ms ∧ TapeOk wr T ∧ Upto (isT T) w wr ∧ base ≤ wr.heap.size)
    (fun _ v6 _ => ls - (intOf v6).toNat)
  case atStart => exact ⟨0, [], [], [], rfl, Nat.zero_le _, rfl, Terms.nil _ _, ⟨rfl, fun j h => by simp at h⟩, hT, Upto.refl _ _, Nat.le_of_eq HBS.out⟩
  case round =>
    obtain ⟨wo, rfl⟩ : ∃ x, x = wr := ⟨wr, rfl⟩
    obtain ⟨j, vs, ms, css, rfl, hj, hml, hts, hVS, hTr, hwr, hbr⟩ := hrel
    obtain ⟨v, hv⟩ : ∃ v, v = u5 := ⟨_, rfl⟩
    rw [← hv] at hts
    rw [← hv]
    have HV := hid hv
    clear hv
    have u1 : (j : Int) ≤ 3 := by omega
    by_cases hlt : (j : Int) < (ls : Int)
    · have hjl : j < ss.length := by have := HLS.out; omega
      obtain ⟨sb, so, sn, st, stc, rfl, hsbl, hsbO, s0, s1, -⟩ := arg_sm (RepE.keep hwr (fun _ e => e) _ _ _ _ hE0) j hjl
      have hav : ar[j]? = some ss[j].args.length := by rw [HAR.out, List.getElem?_map, List.getElem?_eq_getElem hjl]; rfl
      have hal2 := hsa _ (List.getElem_mem hjl)
      generalize ss[j].args.length = al at *
      have HAV := hid (And.intro hav hml)
      have VLr := VL al (by omega) wo hTr
      have hfr : ∀ b, v.ownBlock = some b → b < wo.heap.size := fun b e => (hts.2.2.1.lt b e).2
      clear hav s0 VL hml
      go_wp2_with fail
      (with_reducible refine VLr.mono ?_)
      rintro e w7 ⟨k7, i7, n7, a7, l7, c7, t, rfl, hR7, hF7, hT7, hU7⟩
      have hts7 := hts.keep hU7 (fun b e => by simp only [isT] at e; omega)
      have hw7 := hwr.trans hU7 (fun _ _ x => x)
      have hb7 : base ≤ w7.heap.size := Nat.le_trans hbr hU7.size
      obtain ⟨w8, hw8⟩ : ∃ w8, w8 = w7.alloc (.cells #[.int .i64 k7, .string (B n7), .int .i64 i7, .slice a7 l7 c7] 32) := ⟨_, rfl⟩
      have hUal : Upto none' w7 w8 := by rw [hw8]; exact (Upto.refl none' w7).alloc _
      obtain ⟨XB, hXB⟩ : ∃ XB, XB = w7.heap.size := ⟨_, rfl⟩
      have hx8 : Box4 w8 XB (.int .i64 k7) (.string (B n7)) (.int .i64 i7) (.slice a7 l7 c7) 32 := by rw [hw8]; exact Box4.at_new hXB.symm
      have hR8 : Rep (fun x => x = XB ∨ x < wo.heap.size) w8 t.dat [.int .i64 k7, .string (B n7), .int .i64 i7, .slice a7 l7 c7] := (Rep.weaken (fun b hb e => by rcases e with e | e; omega; exact e) _ _ hR7).on hUal
      have hT8 := hT7.on hUal
      have hts8 := hts7.on hUal
      have hw8U := hw7.trans hUal (fun _ _ x => x.elim)
      have hzr := hU7.size
      rw [← hXB] at hb7 hzr
      have HXB := hid hXB
      have HW8 := hid hw8
      have hz8 := hx8.lt
      have HRR := hid (And.intro hVS (And.intro hF7 hbr))
      clear hTr hts hwr hT7 hw7 hU7 hXB hw8 hbr hVS hF7 hR7 hts8 VLr hE0
      go_wp2_with fail
      rw [← HXB.out, ← HW8.out]
      go_loopw [9] (fun v9 wx => ∃ (p : Nat) (t0 t1 t2 t3 : Value), v9 = .int .i64 (p : Int) ∧ p ≤ al ∧ Box4 wx XB t0 t1 t2 t3 32 ∧ Rep (fun x => x = XB ∨ x < wo.heap.size) wx (Tm.lamN p t).dat [t0, t1, t2, t3] ∧ Upto (fun x => x = XB) w8 wx)
        (fun v9 _ => al - (intOf v9).toNat)
      case atStart => exact ⟨0, _, _, _, _, rfl, Nat.zero_le _, hx8, hR8, Upto.refl _ _⟩
      case round =>
        obtain ⟨wx, rfl⟩ : ∃ x, x = wr := ⟨wr, rfl⟩
        obtain ⟨p, t0, t1, t2, t3, rfl, hp, hBx, hRx, hUx⟩ := hrel
        obtain ⟨x0, x1, x2, x3⟩ := hBx.cells
        obtain ⟨f0, f1, f2, f3⟩ := hBx.frozens
        have q := hBx.lt
        have u2 : (p : Int) ≤ 2 := by omega
        by_cases hpl : (p : Int) < (al : Int)
        · go_wp2_with fail
          obtain ⟨wn, hwn⟩ : ∃ wn, wn = ((((wx.setCell ⟨XB, 0, none⟩ (.int .i64 3)).setCell ⟨XB, 1, none⟩ (.string (B []))).setCell ⟨XB, 2, none⟩ (.int .i64 0)).setCell ⟨XB, 3, none⟩ (.slice (some ⟨wx.heap.size, 0, none⟩) 1 1)).alloc (.cells #[t0, t1, t2, t3] 32) := ⟨_, rfl⟩
          obtain ⟨hB', hR', hU'⟩ := relayG hBx (.inl rfl) (fun x e => by rcases e with e | e <;> omega) hRx 3 [] 0 hwn
          rw [← hwn]
          clear hwn
          go_roundw
          case rel => exact ⟨p + 1, _, _, _, _, by go_num, by omega, hB', by rw [Tm.lamN_succ]; exact hR', hUx.trans hU' (fun _ _ e => e)⟩
          case measure => simp [intOf]; omega
        · have hpe : p = al := by omega
          have hU79 : Upto (fun b => b = XB) w7 wx := (hUal.mono (fun _ _ x => x.elim)).trans hUx (fun _ _ x => x)
          have htsc := hts7.pastB hU79 (fun b e => .inr (by have := HXB.out; omega))
          obtain ⟨i0, hi, hi0, hi1, hi2⟩ := info_parts info_term
          obtain ⟨k9, n9, i9, us9, a9, c9, -, e9, -, -⟩ := tm_open hRx
          obtain ⟨rfl, rfl, rfl, rfl⟩ : t0 = .int .i64 k9 ∧ t1 = .string (B n9) ∧ t2 = .int .i64 i9 ∧ t3 = .slice a9 us9.length c9 := by simpa using e9
          generalize us9.length = l9 at *
          have hal : Upto none' wx (wx.alloc (.cells #[.int .i64 k9, .string (B n9), .int .i64 i9, .slice a9 l9 c9] 32)) := (Upto.refl none' wx).alloc _
          have htsa := htsc.on hal
          have hm3 : ms.length ≤ 3 := by have := HAV.out.2; omega
          have hRa : Rep (fun b => b < base ∨ v.ownBlock = some b) (wx.alloc (.cells #[.int .i64 k9, .string (B n9), .int .i64 i9, .slice a9 l9 c9] 32)) (Tm.lamN p t).dat [.int .i64 k9, .string (B n9), .int .i64 i9, .slice a9 l9 c9] := by
            refine (Rep.weaken (fun b _ e => ?_) _ _ hRx).new _
            rcases e with e | e
            · exact .inr (by have := HRR.out.2.2; omega)
            · exact .inr (hfr b e)
          have hTx := (hT8.far hUx (fun b e => by omega)).on hal
          have hUx' : Upto (isT T) w (wx.alloc (.cells #[.int .i64 k9, .string (B n9), .int .i64 i9, .slice a9 l9 c9] 32)) := (hw8U.trans hUx (fun b hb e => by have := HBS.out; omega)).trans hal (fun _ _ x => x.elim)
          have hzx := hUx'.size
          clear e9 hU79 htsc hts7 hw8U hT8 hUx hRx hR8 hx8
          go_wp2_with (at_builtin; refine wpList_append_lies _ (by rfl) _ _ 30 (by rfl) base 32 i0 (.agg #[.int .i64 0, .string (B []), .int .i64 0, .slice none 0 0]) 4 56 (by kernel_rfl) hi hi0 hi1 hi2 rfl (by decide) v ms.length css.flatten (by rfl) htsa.2.2.1 ⟨wx.heap.size, 0, none⟩ 1 1 [.int .i64 k9, .string (B n9), .int .i64 i9, .slice a9 l9 c9] (by rfl) rfl (World.news_of_block (heap_alloc_new wx _)) (by simp [Value.oneCell']) (by omega) (by simp only [maxLen]; omega) (by omega) (by simp; omega) _ rfl ?_; intro g cap' wz hown hgrow hat hlt7)
          have hTz := htsa.appended rfl hRa hown hgrow hat (Nat.le_refl _)
          have hrow := Upto.ofRow (RowUp.grown htsa.2.2.1 hgrow)
          have hT' := hTx.far hrow (fun b e => by omega)
          have hwU : Upto (isT T) w wz := hUx'.trans hrow (fun b hb e => by have := HBS.out; omega)
          have hszz : base ≤ wz.heap.size := by have := hrow.size; have := HBS.out; omega
          have HPE := hid hpe
          clear hpe
          go_wp2_with fail
          go_roundw
          case rel => exact ⟨j + 1, vs ++ [t], ms ++ [Tm.lamN al t], _, by go_num, by omega, by rw [List.length_append, HAV.out.2]; rfl, by rw [← HPE.out]; exact hTz, HRR.out.1.add (by rw [HAV.out.2]; exact HAV.out.1) HRR.out.2.1, hT', hwU, hszz⟩
          case measure => simp [intOf]; omega
    · obtain ⟨a, cap, rfl, hcap, hE⟩ := hts.rep
      have hjs : j = ls := by omega
      have HM := hid hml
      have har' : ms.length = ar.length := by rw [HAR.out, List.length_map]; have := HLS.out; omega
      have HF := hid (And.intro hcap (And.intro hE (And.intro har' hVS)))
      clear hcap hE har' hVS hts hml
      go_wp2_with fail
      go_ret
      exact ⟨a, cap, vs, ms, rfl, HF.out.2.2.1, HF.out.1, HF.out.2.1, HF.out.2.2.2, hwr⟩
end Go.Proofs.Ytadphaobbpngkaa
