/- When two terms are the same: the program's function and the reference's. -/
import Derived.Test.YtdcbgkmhlpkjiaaDoorBox
import Derived.Test.YtdcbgkmhlpkjiaaDoorRows
import Derived.Deep.RegionHeld3
namespace Go.Proofs.YtdcbgkmhlpkjiaaDoor
open Go.RowKit Go.LF

/-- What is known of a comparison at the arguments of a term. -/
def SameAt (g : FuncId) (ts : List Tm) : Prop := ∀ x ∈ ts, ∀ (y : Tm) (w : World) (cs ds : List Value), Rep none' w x.dat cs → Rep none' w y.dat ds →
    Calls Tryd.prog g #[.agg cs.toArray, .agg ds.toArray] w fun e w' => e = .returned (.bool (x.same y)) ∧ Upto none' w w'

set_option maxHeartbeats 2000000 in
theorem equalFunc_any {ts us : List Tm} (H : SameAt 43 ts) (hlen : ts.length ≤ 1000000) (w : World) (a : Option Addr) (cap : Nat) (hE : RepE none' w 4 (ts.map Tm.dat) a 0)
    (a' : Option Addr) (cap' : Nat) (hE' : RepE none' w 4 (us.map Tm.dat) a' 0) (r : Bool) (hr : Tm.sames ts us = r) :
    Calls Tryd.prog 89 #[.slice a ts.length cap, .slice a' us.length cap', .func (.func 43) #[] #[]] w fun e w' =>
      e = .returned (.bool r) ∧ Upto none' w w' := by
  have HR := hid hr
  clear hr
  by_cases hl : ts.length = us.length
  case neg =>
    have hl' : ((ts.length : Int) == us.length) = false := by simp; omega
    go_enter Tryd.func89, Tryd.ntmps89
    go_wp2_with fail
    go_ret
    exact ⟨ret_bool (by rw [← HR.out, Tm.sames_of_length_ne _ _ hl]), Upto.refl _ _⟩
  have hl' : ((ts.length : Int) == us.length) = true := by simp; omega
  have hl2 : ((ts.length : Int) != us.length) = false := by simp; omega
  have HL := hid hl
  have hul : us.length ≤ 1000000 := by omega
  clear hl
  go_enter Tryd.func89, Tryd.ntmps89
  go_wp2_with fail
  go_loopw [17] (fun v wr => ∃ j : Nat, j ≤ ts.length ∧ v = .int .i64 j ∧ Tm.sames (ts.take j) (us.take j) = true ∧ Upto none' w wr)
    (fun v _ => ts.length - (intOf v).toNat)
  case atStart => exact ⟨0, Nat.zero_le _, rfl, rfl, Upto.refl _ _⟩
  case round =>
    obtain ⟨j, hj, rfl, hA, hU⟩ := hrel
    have HA := hid hA
    clear hA
    by_cases hlt : j < ts.length
    · have hlt2 : j < us.length := by have := HL.out; omega
      obtain ⟨b, o, k1, n1, x1, s1, c1, rfl, hb, _, p0, p1, p2, p3, hR⟩ := arg_tm (hE.on hU) j hlt
      obtain ⟨b', o', k2, n2, x2, s2, c2, rfl, hb', _, q0, q1, q2, q3, hR2⟩ := arg_tm (hE'.on hU) j hlt2
      have hT := Tm.sames_take ts us j hlt hlt2
      rw [HA.out] at hT
      have hM : ts[j].same us[j] = false → Tm.sames ts us = false := fun h => Tm.sames_false ts us j HL.out hlt h
      have H1 := H _ (List.getElem_mem hlt) us[j]
      have HT := hid hT
      have HM := hid hM
      clear hT hM
      generalize ts[j].same us[j] = bo at *
      cases bo
      all_goals
        go_wp2_with fail
        refine (H1 _ _ _ ((hR.new _).new _) ((hR2.new _).new _)).mono ?_
        rintro e w1 ⟨rfl, hU1⟩
        go_wp2
      · go_ret
        exact ⟨ret_bool (by rw [← HR.out, HM.out (by trivial)]), hU.and hU1.behind.behind'⟩
      · go_roundw
        case rel =>
          have fin : ∃ j1 : Nat, j1 ≤ ts.length ∧ Value.int .i64 ((j : Int) + 1) = .int .i64 j1 ∧ Tm.sames (ts.take j1) (us.take j1) = true ∧ Upto none' w w1 :=
            ⟨j + 1, by omega, by go_num, by rw [HT.out]; rfl, hU.and hU1.behind.behind'⟩
          first | exact fin | ((repeat apply Exists.intro); exact ⟨fin, rfl⟩)
        case measure => simp [intOf]; omega
    · have hj' : ts.take j = ts := List.take_of_length_le (by omega)
      have hj2 : us.take j = us := List.take_of_length_le (by have := HL.out; omega)
      have HA' := HA.out
      rw [hj', hj2] at HA'
      have HO := hid HA'
      clear HA HA' hj' hj2
      go_wp2
      go_ret
      exact ⟨ret_bool (by rw [← HR.out, HO.out]), hU⟩

set_option maxHeartbeats 2000000 in
theorem same_any (t : Tm) : t.size ≤ 1000000 → ∀ (u : Tm) (w : World) (cs ds : List Value), Rep none' w t.dat cs → Rep none' w u.dat ds →
    Calls Tryd.prog 43 #[.agg cs.toArray, .agg ds.toArray] w fun e w' => e = .returned (.bool (t.same u)) ∧ Upto none' w w' := by
  induction t using Tm.ind with
  | h k n i ts ih =>
    intro hs u w cs ds h h'
    obtain ⟨a, cap, rfl, hcap, hE⟩ := rep_tm.1 h
    obtain ⟨k', n', i', us, a', cap', rfl, rfl, hcap', hE'⟩ := tm_open h'
    simp only [Tm.size_mk] at hs
    have hlen : ts.length ≤ 1000000 := by have := Tm.length_le_sizes ts; omega
    have H : SameAt 43 ts := fun x hx y w cs ds h h' => ih x hx (by have := Tm.size_le_sizes hx; omega) y w cs ds h h'
    have HE := fun W hW hW' => equalFunc_any H hlen W a cap hW a' cap' hW' _ (rfl : Tm.sames ts us = Tm.sames ts us)
    clear ih h h' H
    rw [Tm.same_mk]
    generalize Tm.sames ts us = ss at *
    go_enter Tryd.func43, Tryd.ntmps43
    go_wp2_with (go_at_call 89; refine (HE _ (hE.on (((Upto.refl _ w).alloc _).alloc _)) (hE'.on (((Upto.refl _ w).alloc _).alloc _))).mono ?_; rintro e w1 ⟨rfl, hU⟩)
    all_goals go_ret
    all_goals first | refine ⟨ret_bool ?_, hU.behind.behind'⟩ | refine ⟨ret_bool ?_, ((Upto.refl _ _).alloc _).alloc _⟩
    all_goals (clear HE hE hE'; rw [Bool.eq_iff_iff]; simp [*] <;> simp_all)
end Go.Proofs.YtdcbgkmhlpkjiaaDoor
