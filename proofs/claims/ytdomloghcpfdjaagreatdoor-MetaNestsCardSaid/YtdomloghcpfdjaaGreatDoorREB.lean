/- The checks ahead of a substitution: forms, notObject; the reference's Formed, Simples, objects. -/
import Derived.Test.YtdomloghcpfdjaaGreatDoorRCC
import Derived.Test.YtdomloghcpfdjaaGreatDoorRCH
import Derived.Test.YtdomloghcpfdjaaGreatDoorRCL
import Derived.Test.YtdomloghcpfdjaaGreatDoorRDB
namespace Go.LF
/-- The first error of a list. -/
def firstE {α : Type} (f : α → Int) : List α → Int
  | [] => 0
  | x :: xs => if f x ≠ 0 then f x else firstE f xs
theorem firstE_drop {α : Type} (f : α → Int) (l : List α) (j : Nat) (h : j < l.length) : firstE f (l.drop j) = if f l[j] ≠ 0 then f l[j] else firstE f (l.drop (j + 1)) := by
  rw [List.drop_eq_getElem_cons h, firstE]
end Go.LF
namespace Go.Proofs.YtdomloghcpfdjaaGreatDoor
open Go.RowKit Go.LF
set_option maxRecDepth 100000 in
set_option maxHeartbeats 4000000 in
theorem notObject_any (t : Tm) (hs : t.wt ≤ 1000000) (w : World) (cs : List Value) (h : Rep none' w t.dat cs) :
    Calls Tryz.prog 66 #[.agg cs.toArray] w fun e w' => e = .returned (.bool (!(t.isObj && t.small))) ∧ Upto none' w w' := by
  obtain ⟨k, n, i, ts, a, cap, _, rfl, _, _⟩ := tm_open h
  obtain ⟨w1, hw1⟩ : ∃ w1, w1 = w.alloc (.cells #[.int .i64 k, .string (B n), .int .i64 i, .slice a ts.length cap] 29) := ⟨_, rfl⟩
  have hU1 : Upto none' w w1 := by rw [hw1]; exact (Upto.refl none' w).alloc _
  have hB1 : Box4 w1 w.heap.size (.int .i64 k) (.string (B n)) (.int .i64 i) (.slice a ts.length cap) 29 := by rw [hw1]; exact Box4.at_new rfl
  have C := isObject_any t hs w1 _ (h.on hU1)
  have HW := hid hw1
  clear hw1 h
  generalize (t.isObj && t.small) = b at *
  obtain ⟨x0, x1, x2, x3⟩ := hB1.cells
  go_enter Tryz.func66, Tryz.ntmps66
  go_wp2_with fail
  rw [← HW.out]
  refine C.mono ?_
  rintro e w2 ⟨rfl, hU2⟩
  go_wp2_with fail
  go_ret
  exact ⟨rfl, hU1.and hU2⟩
set_option maxRecDepth 100000 in
set_option maxHeartbeats 8000000 in
theorem subForms_any (ts : List Tm) (ss : List Sm) (hl : ts.length ≤ 1000000) (hw : ∀ t ∈ ts, t.wt ≤ 1000000) (hl' : ss.length ≤ 1000000) (hw' : ∀ t ∈ ss, t.wt ≤ 1000000) (w : World) (a : Option Addr) (cap : Nat) (sa : Option Addr) (sc : Nat)
    (hE : RepE none' w 4 (ts.map Tm.dat) a 0) (hS : RepE none' w 2 (ss.map Sm.dat) sa 0) :
    Calls Tryz.prog 64 #[.slice a ts.length cap, .slice sa ss.length sc] w fun e w' => e = .returned (.int .i64 (if firstE Tm.wf ts ≠ 0 then firstE Tm.wf ts else firstE Sm.wf ss)) ∧ Upto none' w w' := by
  obtain ⟨r, hr⟩ : ∃ r, r = firstE Tm.wf ts := ⟨_, rfl⟩
  obtain ⟨q, hq⟩ : ∃ q, q = firstE Sm.wf ss := ⟨_, rfl⟩
  rw [← hr, ← hq]
  obtain ⟨E, hE'⟩ : ∃ E, E = if r ≠ 0 then r else q := ⟨_, rfl⟩
  rw [← hE']
  have HE := hid hE'
  clear hE'
  have HR := hid hr
  have HQ := hid hq
  have HWT := hid hw
  have HWS := hid hw'
  clear hr hq hw hw'
  go_enter Tryz.func64, Tryz.ntmps64
  go_wp2_with fail
  go_loopw [13] (fun v wr => ∃ j : Nat, v = .int .i64 j ∧ j ≤ ts.length ∧ r = firstE Tm.wf (ts.drop j) ∧ Upto none' w wr) (fun v _ => ts.length - (intOf v).toNat)
  case atStart => exact ⟨0, rfl, Nat.zero_le _, HR.out, Upto.refl _ _⟩
  case round =>
    obtain ⟨j, rfl, hj, hv, hU⟩ := hrel
    have HV := hid hv
    clear hv
    have j0 : (0 : Int) ≤ (j : Int) := by omega
    have jb : (j : Int) ≤ 2000000 := by omega
    by_cases hlt : j < ts.length
    · obtain ⟨b, o, k1, n1, x1, s1, c1, rfl, hb, _, p0, p1, p2, p3, hRp⟩ := arg_tm (hE.on hU) j hlt
      have j1 : (j : Int) < (ts.length : Int) := by omega
      have hal := (Upto.refl none' wr).alloc (.cells #[.int .i64 k1, .string (B n1), .int .i64 x1, .slice s1 ts[j].args.length c1] 29)
      have key := wellFormed_any _ (HWT.out _ (List.getElem_mem hlt)) _ _ (hRp.on hal)
      have hT := firstE_drop Tm.wf ts j hlt
      generalize ts[j].args.length = el at *
      generalize ts[j].wf = fb at *
      have HT := hid (And.intro hT (And.intro hlt hal))
      clear hT hlt hRp hal
      go_wp2_with fail
      refine key.mono ?_
      rintro e w5 ⟨rfl, hU5⟩
      have hU6 := (hU.and HT.out.2.2).and hU5
      by_cases hfb : fb = 0
      · subst hfb
        go_wp2_with fail
        go_roundw
        case rel => exact ⟨j + 1, by go_num, Nat.succ_le_of_lt HT.out.2.1, by rw [HV.out, HT.out.1]; rfl, hU6⟩
        case measure => (have := HT.out.2.1; simp [intOf]; omega)
      · have hfb' : (fb != 0) = true := by simpa using hfb
        go_wp2_with fail
        go_ret
        have hrf : r = fb := by rw [HV.out, HT.out.1, if_pos hfb]
        exact ⟨ret_int (by rw [HE.out, hrf, if_pos hfb]), hU6⟩
    · have hjn : ¬ (j : Int) < (ts.length : Int) := by omega
      have hdn : ts.drop j = [] := List.drop_eq_nil_of_le (by omega)
      have hr0 : r = 0 := by rw [HV.out, hdn, firstE]
      have HR0 := hid hr0
      clear hdn hr0
      go_wp2_with fail
      obtain ⟨w1, hw1⟩ : ∃ w1, w1 = wr := ⟨_, rfl⟩
      rw [← hw1] at hU
      go_loopw [25] (fun v wr => ∃ j : Nat, v = .int .i64 j ∧ j ≤ ss.length ∧ q = firstE Sm.wf (ss.drop j) ∧ Upto none' w wr) (fun v _ => ss.length - (intOf v).toNat)
      case atStart => exact ⟨0, rfl, Nat.zero_le _, HQ.out, by rw [← hw1]; exact hU⟩
      case round =>
        clear HV hlt hjn hj jb j0 hU hw1
        obtain ⟨j, rfl, hj, hv, hU⟩ := hrel
        have HV := hid hv
        clear hv
        have j0 : (0 : Int) ≤ (j : Int) := by omega
        have jb : (j : Int) ≤ 2000000 := by omega
        by_cases hlt : j < ss.length
        · obtain ⟨b, o, n1, s1, c1, rfl, hb, _, p0, p1, hRp⟩ := arg_sm (hS.on hU) j hlt
          have j1 : (j : Int) < (ss.length : Int) := by omega
          have hal := (Upto.refl none' wr).alloc (.cells #[.string (B n1), .slice s1 ss[j].args.length c1] 33)
          have key := smWf_any _ (HWS.out _ (List.getElem_mem hlt)) _ _ (hRp.on hal)
          have hT := firstE_drop Sm.wf ss j hlt
          generalize ss[j].args.length = el at *
          generalize ss[j].wf = fb at *
          have HT := hid (And.intro hT (And.intro hlt hal))
          clear hT hlt hRp hal
          go_wp2_with fail
          refine key.mono ?_
          rintro e w5 ⟨rfl, hU5⟩
          have hU6 := (hU.and HT.out.2.2).and hU5
          by_cases hfb : fb = 0
          · subst hfb
            go_wp2_with fail
            go_roundw
            case rel => exact ⟨j + 1, by go_num, Nat.succ_le_of_lt HT.out.2.1, by rw [HV.out, HT.out.1]; rfl, hU6⟩
            case measure => (have := HT.out.2.1; simp [intOf]; omega)
          · have hfb' : (fb != 0) = true := by simpa using hfb
            go_wp2_with fail
            go_ret
            exact ⟨ret_int (by rw [HE.out, HR0.out, if_neg (by simp), HV.out, HT.out.1, if_pos hfb]), hU6⟩
        · have hjn : ¬ (j : Int) < (ss.length : Int) := by omega
          have hdn : ss.drop j = [] := List.drop_eq_nil_of_le (by omega)
          have HD := hid hdn
          clear hdn
          go_wp2_with fail
          go_ret
          exact ⟨ret_int (by rw [HE.out, HR0.out, if_neg (by simp), HV.out, HD.out, firstE]), hU⟩
end Go.Proofs.YtdomloghcpfdjaaGreatDoor
