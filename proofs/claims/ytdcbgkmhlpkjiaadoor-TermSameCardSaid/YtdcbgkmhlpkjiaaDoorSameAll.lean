/- For every input TermSame returns true, and each argument reads afterwards as it read before; the package's names of binders are as its own text lays them (the card ties that). No other conditions. -/
import Derived.Test.YtdcbgkmhlpkjiaaDoorSpec
import Derived.Test.YtdcbgkmhlpkjiaaDoorRelay
import Derived.Test.YtdcbgkmhlpkjiaaDoorTermsR
import Derived.Test.YtdcbgkmhlpkjiaaDoorCut
import Derived.Test.YtdcbgkmhlpkjiaaDoorMade05All
import Derived.Test.YtdcbgkmhlpkjiaaDoorAwake05
import Derived.Test.YtdcbgkmhlpkjiaaDoorRefSame
import Derived.Test.YtdcbgkmhlpkjiaaDoorArgs
import Derived.Test.YtdcbgkmhlpkjiaaDoorCards
import Derived.Test.YtdcbgkmhlpkjiaaDoorTie
import Derived.Deep.RegionLaw
import Derived.Deep.RegionHeld3
/- TermSame, as plain data. -/
namespace Go.LF.Tm
theorem beq_comm' {α : Type} [BEq α] [LawfulBEq α] (a b : α) : (a == b) = (b == a) := by
  rw [Bool.eq_iff_iff]; simp only [beq_iff_eq]; exact ⟨Eq.symm, Eq.symm⟩
theorem sames_comm : ∀ (l m : List Tm), (∀ t ∈ l, ∀ u, same t u = same u t) → sames l m = sames m l
  | [], [], _ => rfl
  | [], _ :: _, _ => by simp [sames]
  | _ :: _, [], _ => by simp [sames]
  | a :: l, b :: m, h => by
    simp only [sames]
    rw [h a (by simp) b, sames_comm l m (fun t ht => h t (by simp [ht]))]
theorem same_comm (t : Tm) : ∀ u, same t u = same u t := by
  induction t using ind with
  | h k n i l ih =>
    intro u
    cases u with
    | mk k' n' i' l' =>
      rw [same_mk, same_mk, sames_comm l l' ih, beq_comm' k k', beq_comm' i i', beq_comm' n n']
      by_cases h : k' = k
      · subst h; rfl
      · have h' : (k' == k) = false := by simpa using h
        rw [h']; rfl
theorem sames_refl : ∀ (l : List Tm), (∀ t ∈ l, same t t = true) → sames l l = true
  | [], _ => by simp [sames]
  | a :: l, h => by simp only [sames]; rw [h a (by simp), sames_refl l (fun t ht => h t (by simp [ht]))]; rfl
theorem same_refl (t : Tm) : same t t = true := by
  induction t using ind with
  | h k n i l ih => rw [same_mk, sames_refl l ih]; simp
theorem sames_trans : ∀ (l m x : List Tm), (∀ t ∈ l, ∀ u b, same t u = true → same u b = same t b) → sames l m = true → sames m x = sames l x
  | [], [], _, _, _ => rfl
  | [], _ :: _, _, _, h => by simp [sames] at h
  | _ :: _, [], _, _, h => by simp [sames] at h
  | a :: l, b :: m, x, hh, h => by
    simp only [sames, Bool.and_eq_true] at h
    cases x with
    | nil => simp [sames]
    | cons c x =>
      simp only [sames]
      rw [hh a (by simp) b c h.1, sames_trans l m x (fun t ht => hh t (by simp [ht])) h.2]
theorem same_trans (t : Tm) : ∀ u b, same t u = true → same u b = same t b := by
  induction t using ind with
  | h k n i l ih =>
    intro u b h
    cases u with
    | mk k' n' i' l' =>
      cases b with
      | mk k2 n2 i2 l2 =>
        rw [same_mk] at h
        simp only [Bool.and_eq_true, beq_iff_eq, Bool.or_eq_true] at h
        obtain ⟨rfl, rfl, hn, hs⟩ := h
        rw [same_mk, same_mk, sames_trans l l' l2 ih hs]
        rcases hn with rfl | hn
        · rfl
        · have : (k == 2 || k == 3) = true := by simpa using hn
          rw [this]
          simp
theorem sames_snoc : ∀ (l m : List Tm) (t u : Tm), sames l m = true → same t u = true → sames (l ++ [t]) (m ++ [u]) = true
  | [], [], t, u, _, h => by simp [sames, h]
  | [], _ :: _, _, _, h, _ => by simp [sames] at h
  | _ :: _, [], _, _, h, _ => by simp [sames] at h
  | a :: l, b :: m, t, u, h, h2 => by
    simp only [sames, Bool.and_eq_true] at h
    simp only [List.cons_append, sames]
    rw [h.1, sames_snoc l m t u h.2 h2]
    rfl
end Go.LF.Tm

/- Layer 5's renamed. -/
namespace Go.Proofs.YtdcbgkmhlpkjiaaDoor
open Go.RowKit Go.LF

theorem binders_at {W : World} {b : Nat} {T' : TypeId} {fr : Nat × Nat} (h : W.heap[b]? = some (.cells #[.string (B []), .string (B [117]), .string (B [95]), .string (B [78])] T' fr)) (c : Nat) (hc : (c : Int) < 4) :
    ∃ nm : List UInt8, W.cell? ⟨b, c, none⟩ = some (.string (B nm)) := by
  have hcell : ∀ i, W.cell? ⟨b, i, none⟩ = (#[.string (B []), .string (B [117]), .string (B [95]), .string (B [78])] : Array Value)[i]? := fun i => by simp [World.cell?, h]
  match c, hc with
  | 0, _ => exact ⟨_, hcell 0⟩
  | 1, _ => exact ⟨_, hcell 1⟩
  | 2, _ => exact ⟨_, hcell 2⟩
  | 3, _ => exact ⟨_, hcell 3⟩
  | n + 4, h => omega

/-- What renamed hands back: the same term, in new blocks. -/
def Renames (t : Tm) (w : World) (e : Ending) (w' : World) : Prop :=
  ∃ (k i : Int) (n : List UInt8) (a : Option Addr) (len cap : Nat) (u : Tm), e = .returned (.agg #[.int .i64 k, .string (B n), .int .i64 i, .slice a len cap]) ∧
    Rep (fun b => b < w.heap.size) w' u.dat [.int .i64 k, .string (B n), .int .i64 i, .slice a len cap] ∧ t.same u = true ∧ u.size = t.size ∧ Upto none' w w'

set_option maxRecDepth 100000 in
set_option maxHeartbeats 16000000 in
theorem renamed_any (t : Tm) : t.size ≤ 1000000 → ∀ (n : Int) (w : World) (cs : List Value), Rep none' w t.dat cs →
    Calls Tryd.prog 42 #[.agg cs.toArray, .int .i64 n] w (Renames t w) := by
  induction t using Tm.ind with
  | h k nm i ts ih =>
    intro hwt n w cs h
    obtain ⟨a, cap, rfl, hcap, hE⟩ := rep_tm.1 h
    have hlen := Tm.length_le_sizes ts
    simp only [Tm.size_mk] at hwt
    obtain ⟨i0, hi, hi0, hi1, hi2⟩ := info_parts info_term
    have HC := fun (x n : Int) h0 h1 w => cut_any x n h0 h1 w
    obtain ⟨w2, hw2⟩ : ∃ w2, w2 = ((w.alloc (.cells #[.int .i64 k, .string (B nm), .int .i64 i, .slice a ts.length cap] 25)).alloc (.cells #[.int .i64 0, .string (B []), .int .i64 0, .slice none 0 0] 25)).alloc (.cells #[.int .i64 k, .string (B nm), .int .i64 i, .slice none 0 0] 25) := ⟨_, rfl⟩
    have hU2 : Upto none' w w2 := by rw [hw2]; exact (((Upto.refl none' w).alloc _).alloc _).alloc _
    have ht2 : Box4 w2 w.heap.size (.int .i64 k) (.string (B nm)) (.int .i64 i) (.slice a ts.length cap) 25 := by rw [hw2]; exact ((Box4.at_new rfl).kept ((Upto.refl none' _).alloc _)).kept ((Upto.refl none' _).alloc _)
    have hr2 : Box4 w2 (w.heap.size + 1) (.int .i64 0) (.string (B [])) (.int .i64 0) (.slice none 0 0) 25 := by rw [hw2]; exact (Box4.at_new (by simp)).kept ((Upto.refl none' _).alloc _)
    have ho2 : Box4 w2 (w.heap.size + 1 + 1) (.int .i64 k) (.string (B nm)) (.int .i64 i) (.slice none 0 0) 25 := by rw [hw2]; exact Box4.at_new (by simp)
    have hz2 := ho2.lt
    have HZ := hid (show w2.heap.size = w.heap.size + 1 + 1 + 1 by rw [hw2]; simp)
    have HW2 := hid hw2
    have HW := hid hwt
    clear hw2 hwt h
    have hways : ((k == 2) = true ∨ ((k == 2) = false ∧ (k == 3) = true)) ∨ ((k == 2) = false ∧ (k == 3) = false) := by
      cases (k == 2) <;> cases (k == 3) <;> simp
    rcases hways with (h2 | ⟨h2, h3⟩) | ⟨h2, h3⟩
    all_goals first
      | (have hkk : (k == 2 || k == 3) = true := by first | (rw [h2]; rfl) | (rw [h2, h3]; rfl)
         have HK := hid hkk
         clear hkk
         go_enter Tryd.func42, Tryd.ntmps42
         go_wp2_with fail
         rw [← HW2.out]
         refine (HC _ 4 (by omega) (by omega) _).mono ?_
         rintro e wd ⟨⟨c, hc, rfl⟩, rfl⟩
         have c0 : (0 : Int) ≤ (c : Int) := by omega
         obtain ⟨w3, hw3⟩ : ∃ w3, w3 = w2.alloc (.cells #[.string (B []), .string (B [117]), .string (B [95]), .string (B [78])] 9) := ⟨_, rfl⟩
         have hU3 : Upto none' w2 w3 := by rw [hw3]; exact (Upto.refl none' w2).alloc _
         obtain ⟨nm2, hnm⟩ : ∃ nm2 : List UInt8, w3.cell? ⟨w2.heap.size, c, none⟩ = some (.string (B nm2)) := by rw [hw3]; exact binders_at (heap_alloc_new w2 _) c hc
         rw [HZ.out] at hnm
         rw [← hw3]
         clear hw3
         have ho3 := ho2.kept hU3
         obtain ⟨x0, x1, x2, x3⟩ := ho3.cells
         obtain ⟨y0, y1, y2, y3⟩ := ho3.frozens
         go_wp2_with fail
         obtain ⟨wp, hwp⟩ : ∃ wp, wp = w3.setCell ⟨w.heap.size + 1 + 1, 1, none⟩ (.string (B nm2)) := ⟨_, rfl⟩
         have hset : Upto (fun b => b = w.heap.size + 1 + 1) w3 wp := by rw [hwp]; exact Upto.set (Upto.refl _ _) 1 _
         have hop : Box4 wp (w.heap.size + 1 + 1) (.int .i64 k) (.string (B nm2)) (.int .i64 i) (.slice none 0 0) 25 := by rw [hwp]; exact ho3.set1 _
         have htp := (ht2.kept hU3).keep hset (by omega)
         have hrp := (hr2.kept hU3).keep hset (by omega)
         have hUp : Upto none' w wp := (hU2.and hU3).trans hset (fun b hb e => by omega)
         rw [← hwp]
         clear hwp hset hnm x0 x1 x2 x3 y0 y1 y2 y3 ho3 hU3
         have hnk : (nm == nm2 || (k == 2 || k == 3)) = true := by rw [HK.out]; simp
         have HNK := hid hnk
         clear hnk)
      | (skip
         obtain ⟨t0, t1, t2, t3⟩ := ht2.cells
         go_enter Tryd.func42, Tryd.ntmps42
         go_wp2_with fail
         rw [← HW2.out]
         obtain ⟨wp, hwp⟩ : ∃ wp, wp = w2 := ⟨_, rfl⟩
         obtain ⟨nm2, hnm2⟩ : ∃ nm2, nm2 = nm := ⟨_, rfl⟩
         have hop : Box4 wp (w.heap.size + 1 + 1) (.int .i64 k) (.string (B nm2)) (.int .i64 i) (.slice none 0 0) 25 := by rw [hwp, hnm2]; exact ho2
         have htp : Box4 wp w.heap.size (.int .i64 k) (.string (B nm)) (.int .i64 i) (.slice a ts.length cap) 25 := by rw [hwp]; exact ht2
         have hrp : Box4 wp (w.heap.size + 1) (.int .i64 0) (.string (B [])) (.int .i64 0) (.slice none 0 0) 25 := by rw [hwp]; exact hr2
         have hUp : Upto none' w wp := by rw [hwp]; exact hU2
         have hnk : (nm == nm2 || (k == 2 || k == 3)) = true := by rw [hnm2]; simp
         have HNK := hid hnk
         rw [← hwp]
         clear hwp hnk hnm2 t0 t1 t2 t3)
    all_goals
      clear ho2 ht2 hr2 hU2
      have hbase : w.heap.size + 1 + 1 < wp.heap.size := hop.lt
      go_loopw [6] (fun v6 wr => ∃ (j : Nat) (v : Value) (us : List Tm) (css : List (List Value)), v6 = .int .i64 j ∧ j ≤ ts.length ∧ us.length = j ∧ Tm.sames (ts.take j) us = true ∧ Tm.sizes us = Tm.sizes (ts.take j) ∧ Terms wp.heap.size wr v us css ∧
          Box4 wr (w.heap.size + 1 + 1) (.int .i64 k) (.string (B nm2)) (.int .i64 i) v 25 ∧ Box4 wr w.heap.size (.int .i64 k) (.string (B nm)) (.int .i64 i) (.slice a ts.length cap) 25 ∧
          Box4 wr (w.heap.size + 1) (.int .i64 0) (.string (B [])) (.int .i64 0) (.slice none 0 0) 25 ∧ Upto none' w wr ∧ wp.heap.size ≤ wr.heap.size)
        (fun v6 _ => ts.length - (intOf v6).toNat)
      case atStart => exact ⟨0, _, [], [], rfl, Nat.zero_le _, rfl, by simp [Tm.sames], by simp, Terms.nil _ _, hop, htp, hrp, hUp, Nat.le_refl _⟩
      case round =>
        obtain ⟨j, v, us, css, rfl, hj, huj, hsj, hzj, hts, hout, htb, hrb, hU, hbr⟩ := hrel
        have HS := hid (And.intro huj (And.intro hsj hzj))
        clear huj hsj hzj
        obtain ⟨b0, b1, b2, b3⟩ := hout.cells
        obtain ⟨f0, f1, f2, f3⟩ := hout.frozens
        obtain ⟨t0, t1, t2, t3⟩ := htb.cells
        have qo := hout.lt
        by_cases hlt : j < ts.length
        · obtain ⟨eb, eo, ek, en, ex, es, ec, rfl, _, _, p0, p1, p2, p3, hRp⟩ := arg_tm (hE.on hU) j hlt
          have hsz1 := Tm.size_le_sizes (List.getElem_mem hlt)
          have IH := fun n w' (h : Rep none' w' (ts[j]'hlt).dat [.int .i64 ek, .string (B en), .int .i64 ex, .slice es (ts[j]'hlt).args.length ec]) => ih (ts[j]'hlt) (List.getElem_mem hlt) (by have := HW.out; omega) n w' _ h
          have hj0 : (0 : Int) ≤ (j : Int) := by omega
          have hj1 : (j : Int) < (ts.length : Int) := by omega
          have hjb : (j : Int) ≤ 1000000 := by have := HW.out; omega
          have hul : us.length ≤ 1000000 := by have := HS.out.1; have := HW.out; omega
          have HLT := hid (show j < ts.length from hlt)
          generalize (ts[j]'hlt).args.length = el at *
          go_wp2_with fail
          go_region_law (first
            | ((rw [if_pos (by rfl)]); go_simp; (go_at_call 42); refine (IH _ _ (hRp.on (Upto.refl none' wr).drew)).mono ?_; rintro e w6 ⟨k1, i1, n1, a1, len1, cap1, u, rfl, hR6, hs6, hz6, hU6⟩; have hU6' : Upto none' wr w6 := ((Upto.refl none' wr).drew).and hU6; have hout6 := hout.kept hU6'; have q6 := hout6.lt; have c6 := hout6.cells.2.2.2; have z6 := hout6.frozen 3; have ss6 := hU6'.size; have hts6 := hts.on hU6')
            | (refine step_append_lies _ (by rfl) _ _ 23 (by rfl) wp.heap.size 25 i0 (.agg #[.int .i64 0, .string (B []), .int .i64 0, .slice none 0 0]) 4 56 (by kernel_rfl) hi hi0 hi1 hi2 rfl (by decide) v us.length css.flatten (by rfl) ((hts6.on ((Upto.refl none' w6).alloc _)).2.2.1) ⟨w6.heap.size, 0, none⟩ 1 1 [.int .i64 k1, .string (B n1), .int .i64 i1, .slice a1 len1 cap1] (by rfl) rfl (World.news_of_block (heap_alloc_new w6 _)) (by simp [Value.oneCell']) (by omega) (by simp only [maxLen]; omega) (by omega) (by simp; omega) _ rfl ?_; intro g cap' w7 hown hgrow hat hlt7; have hout7 := (hout6.kept ((Upto.refl none' w6).alloc _)).row hgrow (hts6.on ((Upto.refl none' w6).alloc _)) (by omega); have c7 := hout7.cells.2.2.2; have z7 := hout7.frozen 3))
          all_goals
            have hts6' := hts6.on ((Upto.refl none' w6).alloc (.cells #[.int .i64 k1, .string (B n1), .int .i64 i1, .slice a1 len1 cap1] 25))
            have hwr : wr.drew.heap.size = wr.heap.size := rfl
            have hR6' : Rep (fun b => b < wp.heap.size ∨ v.ownBlock = some b) (w6.alloc (.cells #[.int .i64 k1, .string (B n1), .int .i64 i1, .slice a1 len1 cap1] 25)) u.dat [.int .i64 k1, .string (B n1), .int .i64 i1, .slice a1 len1 cap1] := by
              refine (Rep.weaken (fun b _ e => ?_) _ _ hR6).new _
              rcases e with e | e
              · exact Nat.lt_of_lt_of_le e hbr
              · exact (hts.2.2.1.lt b e).2
            have hT7 := hts6'.appended rfl hR6' hown hgrow hat (Nat.le_refl _)
            have hset7 : Upto (fun b => b = w.heap.size + 1 + 1) w7 (w7.setCell ⟨w.heap.size + 1 + 1, 3, none⟩ (.slice (some ⟨g, 0, none⟩) (us.length + 1) cap')) := Upto.set (Upto.refl _ _) 3 _
            have hrow7 := Upto.ofRow (RowUp.grown hts6'.2.2.1 hgrow)
            have hal6 : Upto none' w6 (w6.alloc (.cells #[.int .i64 k1, .string (B n1), .int .i64 i1, .slice a1 len1 cap1] 25)) := (Upto.refl none' w6).alloc _
            have htb7 := (((htb.kept hU6').kept hal6).keep hrow7 (by omega)).keep hset7 (by omega)
            have hrb7 := (((hrb.kept hU6').kept hal6).keep hrow7 (by omega)).keep hset7 (by omega)
            have hU7 : Upto none' w (w7.setCell ⟨w.heap.size + 1 + 1, 3, none⟩ (.slice (some ⟨g, 0, none⟩) (us.length + 1) cap')) := (((hU.and hU6').and hal6).trans hrow7 (fun b hb e => by omega)).trans hset7 (fun b hb e => by omega)
            have hsz7 : wp.heap.size ≤ (w7.setCell ⟨w.heap.size + 1 + 1, 3, none⟩ (.slice (some ⟨g, 0, none⟩) (us.length + 1) cap')).heap.size := by have := hset7.size; have := hrow7.size; have := hal6.size; omega
            have hT7s := hT7.keep hset7 (fun b e => by omega)
            have hsn : Tm.sames (ts.take (j + 1)) (us ++ [u]) = true := by rw [List.take_succ_eq_append_getElem hlt]; exact Tm.sames_snoc _ _ _ _ HS.out.2.1 hs6
            have hzn : Tm.sizes (us ++ [u]) = Tm.sizes (ts.take (j + 1)) := by rw [Tm.sizes_append, Tm.sizes_take_succ ts j hlt, HS.out.2.2]; simp [Tm.sizes, hz6]
            have hln : (us ++ [u]).length = j + 1 := by simp [HS.out.1]
            have HN := hid (And.intro hsn (And.intro hzn hln))
            clear hsn hzn hln
            go_wp2_with fail
            go_roundw
            case rel => exact ⟨j + 1, _, us ++ [u], _, by go_num, Nat.succ_le_of_lt HLT.out, HN.out.2.2, HN.out.1, HN.out.2.1, hT7s, hout7.set3 _, htb7, hrb7, hU7, hsz7⟩
            case measure => (have := HLT.out; simp [intOf]; omega)
        · obtain ⟨r0, r1, r2, r3⟩ := hrb.cells
          obtain ⟨rf0, rf1, rf2, rf3⟩ := hrb.frozens
          have qr := hrb.lt
          have hjl : j = ts.length := by omega
          obtain ⟨a9, cap9, rfl, hcap9, hE9⟩ := hts.rep
          have hfin : Tm.same (.mk k nm i ts) (.mk k nm2 i us) = true ∧ (Tm.mk k nm2 i us).size = (Tm.mk k nm i ts).size := by
            have h1 := HS.out.2.1
            have h2 := HS.out.2.2
            rw [List.take_of_length_le (by omega)] at h1 h2
            refine ⟨?_, by simp [h2]⟩
            rw [Tm.same_mk, h1]
            have := HNK.out
            simp only [beq_self_eq_true, Bool.true_and, Bool.and_true]
            exact this
          obtain ⟨len, hlen9⟩ : ∃ len, len = us.length := ⟨_, rfl⟩
          rw [← hlen9] at hout hcap9 b3
          have HL := hid hlen9
          have HJ := hid hjl
          clear hlen9 hjl hts
          go_wp2_with fail
          obtain ⟨w9, hw9⟩ : ∃ w9, w9 = (((wr.setCell ⟨w.heap.size + 1, 0, none⟩ (.int .i64 k)).setCell ⟨w.heap.size + 1, 1, none⟩ (.string (B nm2))).setCell ⟨w.heap.size + 1, 2, none⟩ (.int .i64 i)).setCell ⟨w.heap.size + 1, 3, none⟩ (.slice a9 len cap9) := ⟨_, rfl⟩
          have hset9 := hrb.set (d0 := .int .i64 k) (d1 := .string (B nm2)) (d2 := .int .i64 i) (d3 := .slice a9 len cap9)
          rw [← hw9] at hset9
          rw [← hw9]
          clear hw9
          obtain ⟨e0, e1, e2, e3⟩ := hset9.1.cells
          refine bodyPost_ret (v := .agg #[.int .i64 k, .string (B nm2), .int .i64 i, .slice a9 len cap9]) ?_ rfl ?_
          · simp [results, Tryd.f42, go_sem, e0, e1, e2, e3]
          · exact ⟨k, i, nm2, a9, len, cap9, .mk k nm2 i us, rfl, rep_tm.2 ⟨a9, cap9, by rw [HL.out], by rw [← HL.out]; exact hcap9, RepE.weaken (fun b _ e => by omega) _ _ _ _ (RepE.keep hset9.2 (fun b e => by omega) _ _ _ _ hE9)⟩, hfin.1, hfin.2, hU.trans hset9.2 (fun b hb e => by omega)⟩
end Go.Proofs.YtdcbgkmhlpkjiaaDoor

/- TermSame: its walk. -/
namespace Go.Proofs.YtdcbgkmhlpkjiaaDoor
open Go.RowKit Go.LF

theorem NamesRead.on {W W' : World} (h : NamesRead W) (hU : Upto none' W W') : NamesRead W' := by
  obtain ⟨v, h1, h2⟩ := h
  exact ⟨v, hU.cell h1 (fun x => x), h2.on hU⟩

/-- What the walk needs of a world: three variables. -/
abbrev SmS (W : World) (b bu : Nat) (a0 a1 a2 a3 b0 b1 b2 b3 c0 c1 c2 c3 : Value) (w' : World) : Prop :=
  (w'.cell? ⟨b, 0, none⟩ = some a0 ∧ w'.cell? ⟨b, 1, none⟩ = some a1 ∧ w'.cell? ⟨b, 2, none⟩ = some a2 ∧ w'.cell? ⟨b, 3, none⟩ = some a3) ∧
  (w'.cell? ⟨b + 1, 0, none⟩ = some b0 ∧ w'.cell? ⟨b + 1, 1, none⟩ = some b1 ∧ w'.cell? ⟨b + 1, 2, none⟩ = some b2 ∧ w'.cell? ⟨b + 1, 3, none⟩ = some b3) ∧
  (w'.cell? ⟨bu, 0, none⟩ = some c0 ∧ w'.cell? ⟨bu, 1, none⟩ = some c1 ∧ w'.cell? ⟨bu, 2, none⟩ = some c2 ∧ w'.cell? ⟨bu, 3, none⟩ = some c3) ∧ Upto none' W w'
theorem SmS.on {W w' w1 : World} {b bu : Nat} {a0 a1 a2 a3 b0 b1 b2 b3 c0 c1 c2 c3 : Value} (h : SmS W b bu a0 a1 a2 a3 b0 b1 b2 b3 c0 c1 c2 c3 w') (hU : Upto none' w' w1) : SmS W b bu a0 a1 a2 a3 b0 b1 b2 b3 c0 c1 c2 c3 w1 :=
  ⟨box_on hU h.1, box_on hU h.2.1, box_on hU h.2.2.1, h.2.2.2.and hU⟩
theorem SmS.up {W w' : World} {b bu : Nat} {a0 a1 a2 a3 b0 b1 b2 b3 c0 c1 c2 c3 : Value} (h : SmS W b bu a0 a1 a2 a3 b0 b1 b2 b3 c0 c1 c2 c3 w') : Upto none' W w' := h.2.2.2

set_option maxRecDepth 100000 in
set_option maxHeartbeats 16000000 in
theorem same_walk (l : List Int) (a : Option Addr) (len cap : Nat) (hl : l.length = len) (hlen : len ≤ 17592186044416) (l' : List Int) (a' : Option Addr) (len' cap' : Nat) (hl' : l'.length = len') (hlen' : len' ≤ 17592186044416) (l'' : List Int) (a'' : Option Addr) (len'' cap'' : Nat) (hl'' : l''.length = len'') (hlen'' : len'' ≤ 17592186044416) (n : Int) (w : World)
    (hE : RepE none' w 1 (l.map (Dat.int .i64)) a 0) (hE' : RepE none' w 1 (l'.map (Dat.int .i64)) a' 0) (hE'' : RepE none' w 1 (l''.map (Dat.int .i64)) a'' 0) (hN : NamesRead w) :
    Calls Tryd.prog 4 #[.slice a len cap, .slice a' len' cap', .slice a'' len'' cap'', .int .i64 n] w fun e w' => e = .returned (.bool true) ∧ Upto none' w w' := by
  have HM1 := made05_any l a len cap hl hlen l' a' len' cap' hl' hlen' w hE hE' hN
  have HM2 := fun w1 (hU : Upto none' w w1) => made05_any l a len cap hl hlen l'' a'' len'' cap'' hl'' hlen'' w1 (hE.on hU) (hE''.on hU) (hN.on hU)
  clear hE hE' hE'' hN hl hlen hl' hlen' hl'' hlen''
  go_enter Tryd.func4, Tryd.ntmps4
  go_wp2_with fail
  refine HM1.mono ?_
  rintro e w1 ⟨k1, i1, n1, a1, len1, cap1, ta, rfl, hRa, hwa, hUa⟩
  clear HM1
  go_wp2_with fail
  refine (HM2 _ hUa).mono ?_
  rintro e w3 ⟨k2, i2, n2, a2, len2, cap2, tb, rfl, hRb, hwb, hUb⟩
  clear HM2
  go_wp2_with fail
  obtain ⟨w4, hw4⟩ : ∃ w4, w4 = (w3.alloc (.cells #[.int .i64 k1, .string (B n1), .int .i64 i1, .slice a1 len1 cap1] 25)).alloc (.cells #[.int .i64 k2, .string (B n2), .int .i64 i2, .slice a2 len2 cap2] 25) := ⟨_, rfl⟩
  have hU4 : Upto none' w3 w4 := by rw [hw4]; exact ((Upto.refl none' w3).alloc _).alloc _
  have hBa : Box4 w4 w3.heap.size (.int .i64 k1) (.string (B n1)) (.int .i64 i1) (.slice a1 len1 cap1) 25 := by rw [hw4]; exact (Box4.at_new rfl).kept ((Upto.refl none' _).alloc _)
  have hBb : Box4 w4 (w3.heap.size + 1) (.int .i64 k2) (.string (B n2)) (.int .i64 i2) (.slice a2 len2 cap2) 25 := by rw [hw4]; exact Box4.at_new (by simp)
  have hRa4 := (hRa.on hUb).on hU4
  have hRb4 := hRb.on hU4
  have hw := (hUa.and hUb).and hU4
  rw [← hw4]
  clear hw4 hRa hRb hUa hUb hU4
  have hsa : ta.size ≤ 1000000 := by have := Tm.size_le_wt ta; omega
  have hsb : tb.size ≤ 1000000 := by have := Tm.size_le_wt tb; omega
  refine (renamed_any ta hsa n _ _ hRa4).mono ?_
  rintro e w5 ⟨k3, i3, n3, a3, len3, cap3, tu, rfl, hRu, hsu, hzu, hUu⟩
  obtain ⟨x0, x1, x2, x3⟩ := (hBa.kept hUu).cells
  have hRu' : Rep none' w5 tu.dat [.int .i64 k3, .string (B n3), .int .i64 i3, .slice a3 len3 cap3] := Rep.weaken (fun _ _ x => x.elim) _ _ hRu
  go_wp2_with fail
  obtain ⟨w6, hw6⟩ : ∃ w6, w6 = w5.alloc (.cells #[.int .i64 k3, .string (B n3), .int .i64 i3, .slice a3 len3 cap3] 25) := ⟨_, rfl⟩
  have hU6 : Upto none' w5 w6 := by rw [hw6]; exact (Upto.refl none' w5).alloc _
  have S6 : SmS w6 w3.heap.size w5.heap.size (.int .i64 k1) (.string (B n1)) (.int .i64 i1) (.slice a1 len1 cap1) (.int .i64 k2) (.string (B n2)) (.int .i64 i2) (.slice a2 len2 cap2) (.int .i64 k3) (.string (B n3)) (.int .i64 i3) (.slice a3 len3 cap3) w6 := ⟨((hBa.kept hUu).kept hU6).cells, ((hBb.kept hUu).kept hU6).cells, by rw [hw6]; exact (Box4.at_new (T := 25) rfl).cells, Upto.refl _ _⟩
  have hA := (hRa4.on hUu).on hU6
  have hB := (hRb4.on hUu).on hU6
  have hC := hRu'.on hU6
  have hw' := (hw.and hUu).and hU6
  rw [← hw6]
  clear hw6 hU6 hRu hRu' hRa4 hRb4 hUu hBa hBb hw x0 x1 x2 x3
  have hs3 : tu.size ≤ 1000000 := by rw [hzu]; exact hsa
  obtain ⟨bb, hbb⟩ : ∃ bb, ta.same tb = bb := ⟨_, rfl⟩
  have C1 := fun w' (h : Rep none' w' ta.dat [.int .i64 k1, .string (B n1), .int .i64 i1, .slice a1 len1 cap1]) (h' : Rep none' w' tb.dat [.int .i64 k2, .string (B n2), .int .i64 i2, .slice a2 len2 cap2]) => same_at (w := w') ta tb bb hsa hbb h h'
  have C2 := fun w' (h : Rep none' w' ta.dat [.int .i64 k1, .string (B n1), .int .i64 i1, .slice a1 len1 cap1]) (h' : Rep none' w' tb.dat [.int .i64 k2, .string (B n2), .int .i64 i2, .slice a2 len2 cap2]) => refSame_any ta hsa tb w' _ _ h h'
  simp only [hbb] at C2
  have C3 := fun w' (h : Rep none' w' tb.dat [.int .i64 k2, .string (B n2), .int .i64 i2, .slice a2 len2 cap2]) (h' : Rep none' w' ta.dat [.int .i64 k1, .string (B n1), .int .i64 i1, .slice a1 len1 cap1]) => same_at (w := w') tb ta bb hsb (by rw [← hbb]; exact Tm.same_comm tb ta) h h'
  have C4 := fun w' (h : Rep none' w' ta.dat [.int .i64 k1, .string (B n1), .int .i64 i1, .slice a1 len1 cap1]) (h' : Rep none' w' ta.dat [.int .i64 k1, .string (B n1), .int .i64 i1, .slice a1 len1 cap1]) => same_at (w := w') ta ta true hsa (Tm.same_refl ta) h h'
  have C5 := fun w' (h : Rep none' w' ta.dat [.int .i64 k1, .string (B n1), .int .i64 i1, .slice a1 len1 cap1]) (h' : Rep none' w' tu.dat [.int .i64 k3, .string (B n3), .int .i64 i3, .slice a3 len3 cap3]) => same_at (w := w') ta tu true hsa hsu h h'
  have C6 := fun w' (h : Rep none' w' tu.dat [.int .i64 k3, .string (B n3), .int .i64 i3, .slice a3 len3 cap3]) (h' : Rep none' w' tb.dat [.int .i64 k2, .string (B n2), .int .i64 i2, .slice a2 len2 cap2]) => same_at (w := w') tu tb bb hs3 (by rw [← hbb]; exact Tm.same_trans ta tu tb hsu) h h'
  clear hbb hsu hzu hsa hsb hs3 hwa hwb
  have S6d := S6.on (Upto.refl none' w6).drew
  clear S6
  go_region_held3 (fun w' => SmS w6 w3.heap.size w5.heap.size (.int .i64 k1) (.string (B n1)) (.int .i64 i1) (.slice a1 len1 cap1) (.int .i64 k2) (.string (B n2)) (.int .i64 i2) (.slice a2 len2 cap2) (.int .i64 k3) (.string (B n3)) (.int .i64 i3) (.slice a3 len3 cap3) w') (first | assumption | exact S6d | exact SmS.on (by assumption) (by assumption) | go_keep)
    (first
      | (go_at_call 43; (first | (with_reducible refine (C1 _ (hA.on (SmS.up (by assumption))) (hB.on (SmS.up (by assumption)))).mono ?_) | (with_reducible refine (C3 _ (hB.on (SmS.up (by assumption))) (hA.on (SmS.up (by assumption)))).mono ?_) | (with_reducible refine (C4 _ (hA.on (SmS.up (by assumption))) (hA.on (SmS.up (by assumption)))).mono ?_) | (with_reducible refine (C5 _ (hA.on (SmS.up (by assumption))) (hC.on (SmS.up (by assumption)))).mono ?_) | (with_reducible refine (C6 _ (hC.on (SmS.up (by assumption))) (hB.on (SmS.up (by assumption)))).mono ?_)); rintro e w7 ⟨rfl, hU7⟩)
      | (go_at_call 44; (with_reducible refine (C2 _ (hA.on (SmS.up (by assumption))) (hB.on (SmS.up (by assumption)))).mono ?_); rintro e w7 ⟨rfl, hU7⟩))
  go_wp2_with fail
  refine (awake05 _).mono ?_
  rintro e wz ⟨rfl, hUz⟩
  go_wp2
  go_ret
  exact ⟨rfl, (hw'.and (SmS.up (by assumption))).and hUz⟩
end Go.Proofs.YtdcbgkmhlpkjiaaDoor

namespace Go.Proofs.YtdcbgkmhlpkjiaaDoor
open Go.ChangeShapes Go.WideShapes Go.ChangeAt Go.RowKit Go.LF

set_option maxRecDepth 100000 in
theorem termSame_lifted (os : Os) (started : os.Started) (H : Type) (enc : TypeId × Value → H) :
    ReturnsInHanded {} Tryd.checked os 4 .any (fun w args => (Rows.termSameSpec.pre enc Tryd.prog Tryd.f4 [] false w args ∧ laidMetH Tryd.prog [("lfcheck/lfcheckmade.names", Rows.laid_lfcheck_lfcheckmade_names)] w) ∧ sizedMet enc Tryd.prog Tryd.f4 (OpenSpec.ofChange Rows.termSameSpec) false w args)
      (Rows.termSameSpec.post enc Tryd.prog Tryd.f4 false true false false) := by
  refine returnsInHanded_of_change_and (C := Tryd.checked) (X := fun w _ => laidMetH Tryd.prog [("lfcheck/lfcheckmade.names", Rows.laid_lfcheck_lfcheckmade_names)] w) (fun _ _ _ hh h => h.of_heap hh) own started (by kernel_rfl) Tryd.func4
    (ChangeSpec.witness_shaped (enc := enc) (C := Tryd.checked) (os := os) (X := fun w _ => laidMetH Tryd.prog [("lfcheck/lfcheckmade.names", Rows.laid_lfcheck_lfcheckmade_names)] w) false (World.doorLaid Tryd.prog 400 os) #[.slice none 0 0, .slice none 0 0, .slice none 0 0, .int .i64 0] 8 rfl (World.shaped_of_RefB (by kernel_rfl) (by kernel_rfl)) (by kernel_rfl) (by kernel_rfl) (by kernel_rfl) (door_met os _)) ?_
  intro W base args ds gs before hval0 hW _ hsz0 hL _
  have hsz : (DataW.weightsEach Tryd.prog (Tryd.f4.params.toList ++ Rows.termSameSpec.plain.varTypes Tryd.prog) (ds ++ gs)).all (· ≤ reachBytes) = true := hsz0
  clear hsz0
  have hval : ∀ (j : Nat) t v, Tryd.f4.params[j]? = some t → args[j]? = some v → Value.okWide Tryd.prog W .any base t v := hval0
  have hW' := hW
  obtain ⟨p, q, hA0, hV, rfl, hfz, hnd⟩ := hW
  have hA : DataW.TrodAll enc Tryd.prog W 0 (fun _ => true) true Tryd.f4.params.toList args.toList ds p := hA0
  rw [Tryd.params4] at hA hval hsz
  obtain ⟨v0, vs0, d0, ds0, p0, q0, hargs, rfl, rfl, h0, r0⟩ := trodAll_cons hA
  obtain ⟨v1, vs1, d1, ds1, p1, q1, rfl, rfl, rfl, h1, r1⟩ := trodAll_cons r0
  obtain ⟨v2, vs2, d2, ds2, p2, q2, rfl, rfl, rfl, h2, r2⟩ := trodAll_cons r1
  obtain ⟨v3, vs3, d3, ds3, p3, q3, rfl, rfl, rfl, h3, r3⟩ := trodAll_cons r2
  obtain ⟨rfl, rfl, rfl⟩ := trodAll_nil r3
  obtain rfl : args = #[v0, v1, v2, v3] := Array.ext' hargs
  obtain ⟨rfl, rfl⟩ := trodVars_none hV
  clear hA0 hval0
  simp only [List.append_nil] at hW'
  have hlt : ∀ x, x ∈ p0 ∨ x ∈ p1 ∨ x ∈ p2 ∨ x ∈ p3 → x.block < W.heap.size := fun x hx => hW'.lt x (by simpa [List.mem_append, or_assoc] using hx)
  have hNR := names_of_laid hL
  have h0k := h0
  obtain ⟨a0, len0, cap0, rfl⟩ := okWide_slice Tryd.underlying22 (hval 0 22 v0 rfl rfl)
  obtain ⟨l0, hl0, _, hlen0, hE0⟩ := ints_arg h0 hsz (j := 0) rfl rfl
  have h1k := h1
  obtain ⟨a1, len1, cap1, rfl⟩ := okWide_slice Tryd.underlying22 (hval 1 22 v1 rfl rfl)
  obtain ⟨l1, hl1, _, hlen1, hE1⟩ := ints_arg h1 hsz (j := 1) rfl rfl
  have h2k := h2
  obtain ⟨a2, len2, cap2, rfl⟩ := okWide_slice Tryd.underlying22 (hval 2 22 v2 rfl rfl)
  obtain ⟨l2, hl2, _, hlen2, hE2⟩ := ints_arg h2 hsz (j := 2) rfl rfl
  obtain ⟨n3, rfl, rfl, rfl, wf3⟩ := open_int Tryd.underlying3 (hval 3 3 v3 rfl rfl) h3
  refine (same_walk l0 a0 len0 cap0 hl0 hlen0 l1 a1 len1 cap1 hl1 hlen1 l2 a2 len2 cap2 hl2 hlen2 n3 W hE0 hE1 hE2 hNR).mono fun e W' ⟨he, hU⟩ => ?_
  subst he
  have hb := Upto.toBelow hU
  exact ⟨_, rfl, _, _, _, [], _, [], hW', (trodAll_cons_mk (shut_bool Tryd.underlying4 _) trodAll_mk0), (trodAll_cons_mk (Below.trod laidOut (by kernel_rfl) (of_decide_eq_true (by kernel_rfl)) h0k hb (fun x hx => hlt x (by simp [hx]))) (trodAll_cons_mk (Below.trod laidOut (by kernel_rfl) (of_decide_eq_true (by kernel_rfl)) h1k hb (fun x hx => hlt x (by simp [hx]))) (trodAll_cons_mk (Below.trod laidOut (by kernel_rfl) (of_decide_eq_true (by kernel_rfl)) h2k hb (fun x hx => hlt x (by simp [hx]))) (trodAll_cons_mk (shut_int Tryd.underlying3 wf3) trodAll_mk0)))), rfl, hb.frame _, fun h => by cases h⟩

theorem termSame_holds : Rows.TermSameSaid :=
  OpenClaim.holds_of_wide 4 Tryd.f4 rfl rfl rfl rfl rfl rfl rfl ⟨rfl, rfl, rfl, rfl, rfl⟩ rfl rfl rfl rfl rfl (by kernel_rfl) Tryd.func4 (by kernel_rfl)
    (of_decide_eq_true (by kernel_rfl)) (by unfold Func.isWrapper; first | (rw [if_pos (by decide +kernel)]; kernel_rfl) | (rw [if_neg (by decide +kernel)]; exact ⟨rfl, rfl⟩))
    (fun os started H enc _ => termSame_lifted os started H enc)

theorem termSame_card_holds : Rows.TermSameCardSaid :=
  Claim7.holds_tied_plain_at .later [] [.data] true Rows.termSameCard.stood.harness false
    termSame_holds (fun _ h => by cases h) (by kernel_rfl) (fun _ h => by cases h) termSame_row_tie rfl ⟨rfl, rfl⟩ (by kernel_rfl) rfl
    (fun f fn hf hfn => by
      obtain rfl : f = 4 := Option.some.inj ((show Tryd.prog.funcNamed Rows.termSameRow.func = some 4 by kernel_rfl).symm.trans hf) |>.symm
      obtain rfl : fn = Tryd.f4 := (Option.some.inj (Tryd.func4.symm.trans hfn)).symm
      exact ⟨by kernel_rfl, fun j t ht => by
        rw [Tryd.params4] at ht
        have hm : t ∈ [22, 22, 22, 3] := by simpa using Array.mem_of_getElem? ht
        have hall : ([22, 22, 22, 3].all fun u => !Tryd.prog.wantsStandIn u) = true := by kernel_rfl
        exact (show Tryd.prog.wantsStandIn t = false by simpa using List.all_eq_true.1 hall t hm)⟩)
    (by kernel_rfl)
end Go.Proofs.YtdcbgkmhlpkjiaaDoor
