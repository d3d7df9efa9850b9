/- Which terms are objects, types and kinds: the program's functions. -/
import Derived.Test.YtdcbgkmhlpkjiaaDoorTermSize
import Derived.Test.YtdcbgkmhlpkjiaaDoorTermA
import Derived.Test.YtdcbgkmhlpkjiaaDoorNamesP
import Derived.Test.YtdcbgkmhlpkjiaaDoorBox
namespace Go.Proofs.YtdcbgkmhlpkjiaaDoor
open Go.RowKit Go.LF

theorem bound_eq (n : List UInt8) (i : Int) (l : List Tm) (k : Nat) : Tm.bound n i l k = (i == 0 && (((l.length : Int) == (k : Int)) && (n == [] || (n == [95] || isName n)))) := by
  unfold Tm.bound
  have : ((l.length : Int) == (k : Int)) = (l.length == k) := by rw [Bool.eq_iff_iff]; simp; omega
  rw [this, Bool.and_assoc, Bool.or_assoc]

set_option maxHeartbeats 1000000 in
theorem bound_any (k i m : Int) (n : List UInt8) (a : Option Addr) (len cap : Nat) (w : World) (hn : n.length ≤ 1000000) (b : Bool)
    (hb : (i == 0 && (((len : Int) == m) && (n == [] || (n == [95] || isName n)))) = b) :
    Calls Tryd.prog 110 #[.agg #[.int .i64 k, .string (B n), .int .i64 i, .slice a len cap], .int .i64 m] w fun e w' =>
      e = .returned (.bool b) ∧ Upto none' w w' := by
  have HB := hid hb
  clear hb
  go_enter Tryd.func110, Tryd.ntmps110
  go_wp2_with (go_at_call 131; refine (isName_any _ _ hn).mono ?_; rintro e w' ⟨rfl, rfl⟩)
  all_goals go_ret
  all_goals refine ⟨ret_bool ?_, (Upto.refl _ _).alloc _⟩
  all_goals (rw [← HB.out, Bool.eq_iff_iff]; simp [*])

section
/-- What is known of object at the arguments of a term. -/
def ObjAt (ts : List Tm) : Prop := ∀ x ∈ ts, ∀ (w : World) (cs : List Value), Rep none' w x.dat cs →
    Calls Tryd.prog 74 #[.agg cs.toArray] w fun e w' => e = .returned (.bool x.isObj) ∧ Upto none' w w'

set_option maxHeartbeats 1000000 in
theorem all1_any {ts : List Tm} (H : ObjAt ts) (x : Tm) (hx : x ∈ ts) (w : World) (cs : List Value) (h : Rep none' w x.dat cs) :
    Calls Tryd.prog 133 #[.agg cs.toArray] w fun e w' => e = .returned (.bool (!x.isObj)) ∧ Upto none' w w' := by
  obtain ⟨k, n, i, l, a, cap, rfl, rfl, hcap, hE⟩ := tm_open h
  have H1 := H _ hx _ _ (h.new (.cells #[.int .i64 k, .string (B n), .int .i64 i, .slice a l.length cap] 25))
  generalize (Tm.mk k n i l).isObj = b at *
  go_enter Tryd.func133, Tryd.ntmps133
  go_wp2_with fail
  refine H1.mono ?_
  rintro e w1 ⟨rfl, hU⟩
  go_wp2
  go_ret
  exact ⟨rfl, hU.behind⟩

/-- An index is handed back: of one that was found, or a negative one. -/
def Found (b : Bool) (e : Ending) : Prop := ∃ m : Int, e = .returned (.int .i64 m) ∧ decide (0 ≤ m) = b

set_option maxHeartbeats 1000000 in
theorem indexFunc_any {ts : List Tm} (g : FuncId) (p : Tm → Bool) (hlen : ts.length ≤ 1000000)
    (H : ∀ x ∈ ts, ∀ (w : World) (cs : List Value), Rep none' w x.dat cs → Calls Tryd.prog g #[.agg cs.toArray] w fun e w' => e = .returned (.bool (p x)) ∧ Upto none' w w')
    (hg : ∀ args w, (callFunc g args).run Tryd.prog w = .ok (.enter g args) w)
    (w : World) (a : Option Addr) (cap : Nat) (hE : RepE none' w 4 (ts.map Tm.dat) a 0) :
    Calls Tryd.prog 148 #[.slice a ts.length cap, .func (.func g) #[] #[]] w fun e w' =>
      Found (ts.any p) e ∧ Upto none' w w' := by
  go_enter Tryd.func148, Tryd.ntmps148
  go_wp2_with fail
  go_loopw [8] (fun v wr => ∃ j : Nat, j ≤ ts.length ∧ v = .int .i64 j ∧ (ts.take j).any p = false ∧ Upto none' w wr)
    (fun v _ => ts.length - (intOf v).toNat)
  case atStart => exact ⟨0, Nat.zero_le _, rfl, rfl, Upto.refl _ _⟩
  case round =>
    obtain ⟨j, hj, rfl, hA, hU⟩ := hrel
    have HA := hid hA
    clear hA
    by_cases hlt : j < ts.length
    · obtain ⟨b, o, k1, n1, x1, s1, c1, rfl, hb, _, hc0, hc1, hc2, hc3, hR⟩ := arg_tm (hE.on hU) j hlt
      have H1 := H _ (List.getElem_mem hlt) _ _ hR
      have hT : (ts.take (j + 1)).any p = ((ts.take j).any p || p ts[j]) := by
        rw [List.take_succ_eq_append_getElem hlt]; simp only [List.any_append, List.any_cons, List.any_nil, Bool.or_false]
      have hM : p ts[j] = true → ts.any p = true := fun h => List.any_eq_true.2 ⟨_, List.getElem_mem hlt, h⟩
      rw [HA.out] at hT
      have HT := hid hT
      have HM := hid hM
      clear hT hM
      generalize p ts[j] = b at *
      cases b
      all_goals
        go_wp2_with fail
        refine H1.mono ?_
        rintro e w1 ⟨rfl, hU1⟩
        go_wp2
      · go_roundw
        case rel => exact ⟨j + 1, by omega, by go_num, by rw [HT.out]; rfl, hU.trans hU1 (fun _ _ x => x)⟩
        case measure => simp [intOf]; omega
      · go_ret
        exact ⟨⟨j, rfl, by rw [HM.out (by trivial)]; simp⟩, hU.trans hU1 (fun _ _ x => x)⟩
    · have hj' : ts.take j = ts := List.take_of_length_le (by omega)
      have HA' := HA.out
      rw [hj'] at HA'
      clear HA hj'
      have HA := hid HA'
      clear HA'
      go_wp2
      go_ret
      exact ⟨⟨-1, rfl, by rw [HA.out]; rfl⟩, hU⟩

set_option maxHeartbeats 1000000 in
theorem containsFunc_any {ts : List Tm} (g : FuncId) (p : Tm → Bool) (hlen : ts.length ≤ 1000000)
    (H : ∀ x ∈ ts, ∀ (w : World) (cs : List Value), Rep none' w x.dat cs → Calls Tryd.prog g #[.agg cs.toArray] w fun e w' => e = .returned (.bool (p x)) ∧ Upto none' w w')
    (hg : ∀ args w, (callFunc g args).run Tryd.prog w = .ok (.enter g args) w)
    (w : World) (a : Option Addr) (cap : Nat) (hE : RepE none' w 4 (ts.map Tm.dat) a 0) :
    Calls Tryd.prog 132 #[.slice a ts.length cap, .func (.func g) #[] #[]] w fun e w' =>
      e = .returned (.bool (ts.any p)) ∧ Upto none' w w' := by
  have H1 := indexFunc_any g p hlen H hg w a cap hE
  clear H
  go_enter Tryd.func132, Tryd.ntmps132
  go_wp2_with fail
  refine H1.mono ?_
  rintro e w1 ⟨⟨m, rfl, hm⟩, hU⟩
  have HM := hid hm
  clear hm H1
  go_wp2
  go_ret
  exact ⟨ret_bool HM.out, hU⟩

set_option maxHeartbeats 1000000 in
theorem all_any {ts : List Tm} (H : ObjAt ts) (hlen : ts.length ≤ 1000000) (k i : Int) (n : List UInt8) (a : Option Addr) (cap : Nat) (w : World) (hE : RepE none' w 4 (ts.map Tm.dat) a 0) (b : Bool) (hb : Tm.allObj ts = b) :
    Calls Tryd.prog 112 #[.agg #[.int .i64 k, .string (B n), .int .i64 i, .slice a ts.length cap]] w fun e w' => e = .returned (.bool b) ∧ Upto none' w w' := by
  have H1 := containsFunc_any 133 (fun x => !x.isObj) hlen (fun x hx w cs h => all1_any H x hx w cs h) (enters_of Tryd.func133 (by kernel_rfl) rfl)
    (w.alloc (.cells #[.int .i64 k, .string (B n), .int .i64 i, .slice a ts.length cap] 25)) a cap (hE.on ((Upto.refl _ w).alloc _))
  have hb2 : (!ts.any fun x => !x.isObj) = b := by rw [← hb, Tm.allObj_iff, Bool.eq_iff_iff]; simp
  have HB := hid hb2
  clear hb hb2
  generalize (ts.any fun x => !x.isObj) = c at *
  go_enter Tryd.func112, Tryd.ntmps112
  go_wp2_with fail
  refine H1.mono ?_
  rintro e w1 ⟨rfl, hU⟩
  go_wp2
  go_ret
  exact ⟨ret_bool HB.out, hU.behind⟩

set_option maxHeartbeats 1000000 in
theorem atom_any {ts : List Tm} (H : ObjAt ts) (hlen : ts.length ≤ 1000000) (k i : Int) (n : List UInt8) (hn : n.length ≤ 1000000) (a : Option Addr) (cap : Nat) (w : World) (hE : RepE none' w 4 (ts.map Tm.dat) a 0) :
    Calls Tryd.prog 111 #[.agg #[.int .i64 k, .string (B n), .int .i64 i, .slice a ts.length cap]] w fun e w' => e = .returned (.bool (Tm.mk k n i ts).isAtom) ∧ Upto none' w w' := by
  have hp : (k == 4 && (isName n && i == 0 && Tm.allObj ts)) = (Tm.mk k n i ts).isAtom := rfl
  generalize (Tm.mk k n i ts).isAtom = r at *
  generalize hA : Tm.allObj ts = al at *
  have H1 := fun k i n W hW => all_any H hlen k i n a cap W hW al hA
  have HP := hid hp
  clear hp hA H
  go_enter Tryd.func111, Tryd.ntmps111
  go_wp2_with (first | (go_at_call 131; refine (isName_any _ _ hn).mono ?_; rintro e w' ⟨rfl, rfl⟩) | (go_at_call 112; refine (H1 _ _ _ _ (hE.on ((Upto.refl _ w).alloc _))).mono ?_; rintro e w1 ⟨rfl, hU⟩))
  all_goals go_ret
  all_goals first | refine ⟨ret_bool ?_, hU.behind⟩ | refine ⟨ret_bool ?_, (Upto.refl _ _).alloc _⟩
  all_goals (clear H1 hE; rw [← HP.out, Bool.eq_iff_iff]; simp [*])
end
end Go.Proofs.YtdcbgkmhlpkjiaaDoor
