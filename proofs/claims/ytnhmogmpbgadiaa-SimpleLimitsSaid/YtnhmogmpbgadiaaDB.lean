/- The program's simple types: Size, depth. -/
import Derived.Test.YtnhmogmpbgadiaaCB
import Derived.Test.YtnhmogmpbgadiaaCF
import Derived.Test.YtnhmogmpbgadiaaCL
import Derived.Test.YtnhmogmpbgadiaaCN
import Derived.Deep.RegionHeld3
namespace Go.Proofs.Ytnhmogmpbgadiaa
open Go.RowKit Go.LF
set_option maxRecDepth 100000 in
set_option maxHeartbeats 4000000 in
theorem smSize_any (t : Sm) : t.size ≤ 1000000 → ∀ (w : World) (cs : List Value), Rep none' w t.dat cs →
    Calls Try.prog 51 #[.agg cs.toArray] w fun e w' => e = .returned (.int .i64 t.size) ∧ Upto none' w w' := by
  induction t using Sm.ind with
  | h f ts ih =>
    intro hs w cs h
    obtain ⟨a, cap, rfl, hcap, hE⟩ := rep_sm.1 h
    have hlen := Sm.length_le_sizes ts
    have hds := Sm.depths_le_sizes ts
    simp only [Sm.size_mk] at hs
    obtain ⟨w1, hw1⟩ : ∃ w1, w1 = w.alloc (.cells #[.string (B f), .slice a ts.length cap] 29) := ⟨_, rfl⟩
    have hU1 : Upto none' w w1 := by rw [hw1]; exact (Upto.refl none' w).alloc _
    have hB1 : Box2 w1 w.heap.size (.string (B f)) (.slice a ts.length cap) 29 := by rw [hw1]; exact Box2.at_new rfl
    have HW1 := hid hw1
    clear hw1 h
    obtain ⟨b0, b1⟩ := hB1.cells
    skip
    go_enter Try.func51, Try.ntmps51
    go_wp2_with fail
    rw [← HW1.out]
    go_loopw [3, 9] (fun v3 v wr => ∃ j : Nat, v = .int .i64 j ∧ j ≤ ts.length ∧ v3 = .int .i64 (1 + Sm.sizes (ts.take j)) ∧ Upto none' w1 wr) (fun _ v _ => ts.length - (intOf v).toNat)
    case atStart => exact ⟨0, rfl, Nat.zero_le _, rfl, Upto.refl _ _⟩
    case round =>
      obtain ⟨j, rfl, hj, rfl, hU⟩ := hrel
      clear b0 b1
      have hw := hU1.and hU
      have hBr := hB1.kept hU
      obtain ⟨b0, b1⟩ := hBr.cells
      have j0 : (0 : Int) ≤ (j : Int) := by omega
      have jb : (j : Int) ≤ 2000000 := by omega
      have hdj := Sm.sizes_take_le ts j
      have hdj2 := Sm.depths_take_le ts j
      skip
      by_cases hlt : j < ts.length
      · obtain ⟨b, o, n1, s1, cp, rfl, hb, _, p0, p1, hRp⟩ := arg_sm (hE.on hw) j hlt
        have j1 : (j : Int) < (ts.length : Int) := by omega
        have hs4 := Sm.size_le_sizes (List.getElem_mem hlt)
        have hs5 := Sm.depth_le_size ts[j]
        have key := fun W (hW : Upto none' wr W) => ih _ (List.getElem_mem hlt) (by omega) W _ (hRp.on hW)
        have hsum : Sm.sizes (ts.take j) + ts[j].size ≤ Sm.sizes ts := by rw [← Sm.sizes_take_succ ts j hlt]; exact Sm.sizes_take_le ts (j + 1)
        generalize ts[j].args.length = el at *
        go_wp2_with fail
        refine (key _ ((Upto.refl none' wr).alloc _)).mono ?_
        rintro e w5 ⟨rfl, hU5⟩
        go_wp2_with fail
        go_roundw
        case rel =>
          refine ⟨j + 1, by go_num, by omega, int_eq ?_, (hU.alloc _).and hU5⟩
          rw [Sm.sizes_take_succ ts j hlt]
          omega
        case measure => (simp [intOf]; omega)
      · have hjn : ¬ (j : Int) < (ts.length : Int) := by omega
        have hdn : ts.take j = ts := List.take_of_length_le (by omega)
        rw [hdn] at hdj hdj2 ⊢
        go_wp2_with fail
        go_ret
        exact ⟨ret_int (by first | omega | (rw [Sm.size_mk]; omega)), hw⟩
/-- The greatest of what a function tells of the arguments. -/
def Sm.greatest (g : Sm → Nat) : List Sm → Nat
  | [] => 0
  | t :: ts => max (g t) (Sm.greatest g ts)
theorem Sm.greatest_append (g : Sm → Nat) (a b : List Sm) : Sm.greatest g (a ++ b) = max (Sm.greatest g a) (Sm.greatest g b) := by
  induction a with
  | nil => simp [Sm.greatest]
  | cons t ts ih => simp [Sm.greatest, ih]
theorem Sm.greatest_take_succ (g : Sm → Nat) (l : List Sm) (j : Nat) (h : j < l.length) : Sm.greatest g (l.take (j + 1)) = max (Sm.greatest g (l.take j)) (g l[j]) := by
  rw [List.take_succ_eq_append_getElem h, Sm.greatest_append]; simp [Sm.greatest]
theorem Sm.greatest_le (g : Sm → Nat) (l : List Sm) (n : Nat) (h : ∀ t ∈ l, g t ≤ n) : Sm.greatest g l ≤ n := by
  induction l with
  | nil => simp [Sm.greatest]
  | cons t ts ih => have := h t (by simp); have := ih (fun t ht => h t (by simp [ht])); simp only [Sm.greatest]; omega
theorem Sm.greatest_depth (l : List Sm) : Sm.greatest Sm.depth l = Sm.depths l := by
  induction l with
  | nil => simp [Sm.greatest, Sm.depths]
  | cons t ts ih => simp [Sm.greatest, Sm.depths, ih]
set_option maxRecDepth 100000 in
set_option maxHeartbeats 4000000 in
theorem deepest_any (gf : FuncId) (g : Sm → Nat) (f : List UInt8) (ts : List Sm) (hlen : ts.length ≤ 1000000) (hg1 : ∀ t ∈ ts, g t ≤ 1000000)
    (ih : ∀ x ∈ ts, ∀ (w : World) (cs : List Value), Rep none' w x.dat cs → Calls Try.prog gf #[.agg cs.toArray] w fun e w' => e = .returned (.int .i64 (g x)) ∧ Upto none' w w')
    (hg : ∀ args w, (callFunc gf args).run Try.prog w = .ok (.enter gf args) w) (a : Option Addr) (cap : Nat) (w : World) (hE : RepE none' w 2 (ts.map Sm.dat) a 0) :
    Calls Try.prog 100 #[.agg #[.string (B f), .slice a ts.length cap], .func (.func gf) #[] #[]] w fun e w' => e = .returned (.int .i64 (Sm.greatest g ts)) ∧ Upto none' w w' := by
  obtain ⟨w1, hw1⟩ : ∃ w1, w1 = w.alloc (.cells #[.string (B f), .slice a ts.length cap] 29) := ⟨_, rfl⟩
  have hU1 : Upto none' w w1 := by rw [hw1]; exact (Upto.refl none' w).alloc _
  have hB1 : Box2 w1 w.heap.size (.string (B f)) (.slice a ts.length cap) 29 := by rw [hw1]; exact Box2.at_new rfl
  have HW1 := hid hw1
  clear hw1
  obtain ⟨b0, b1⟩ := hB1.cells
  go_enter Try.func100, Try.ntmps100
  go_wp2_with fail
  rw [← HW1.out]
  go_loopw [5, 11] (fun v3 v wr => ∃ j : Nat, v = .int .i64 j ∧ j ≤ ts.length ∧ v3 = .int .i64 (Sm.greatest g (ts.take j)) ∧ Upto none' w1 wr) (fun _ v _ => ts.length - (intOf v).toNat)
  case atStart => exact ⟨0, rfl, Nat.zero_le _, rfl, Upto.refl _ _⟩
  case round =>
    obtain ⟨j, rfl, hj, rfl, hU⟩ := hrel
    clear b0 b1
    have hw := hU1.and hU
    have j0 : (0 : Int) ≤ (j : Int) := by omega
    have jb : (j : Int) ≤ 2000000 := by omega
    have hgj : Sm.greatest g (ts.take j) ≤ 1000000 := Sm.greatest_le g _ _ (fun t ht => hg1 t (List.mem_of_mem_take ht))
    by_cases hlt : j < ts.length
    · obtain ⟨b, o, n1, s1, cp, rfl, hb, _, p0, p1, hRp⟩ := arg_sm (hE.on hw) j hlt
      have j1 : (j : Int) < (ts.length : Int) := by omega
      have hs5 := hg1 _ (List.getElem_mem hlt)
      have key := fun W (hW : Upto none' wr W) => ih _ (List.getElem_mem hlt) W _ (hRp.on hW)
      have hstep := Sm.greatest_take_succ g ts j hlt
      generalize ts[j].args.length = el at *
      generalize g ts[j] = x at *
      generalize Sm.greatest g (ts.take j) = y at *
      have HST := hid hstep
      clear hstep
      go_wp2_with fail
      refine (key _ ((Upto.refl none' wr).alloc _)).mono ?_
      rintro e w5 ⟨rfl, hU5⟩
      go_wp2_with fail
      go_roundw
      case rel =>
        refine ⟨j + 1, by go_num, by omega, int_eq ?_, (hU.alloc _).and hU5⟩
        rw [HST.out]
        omega
      case measure => (simp [intOf]; omega)
    · have hjn : ¬ (j : Int) < (ts.length : Int) := by omega
      have hdn : ts.take j = ts := List.take_of_length_le (by omega)
      rw [hdn] at hgj ⊢
      go_wp2_with fail
      go_ret
      exact ⟨rfl, hw⟩
set_option maxRecDepth 100000 in
set_option maxHeartbeats 4000000 in
theorem smDepth_any (t : Sm) : t.size ≤ 1000000 → ∀ (w : World) (cs : List Value), Rep none' w t.dat cs →
    Calls Try.prog 56 #[.agg cs.toArray] w fun e w' => e = .returned (.int .i64 t.depth) ∧ Upto none' w w' := by
  induction t using Sm.ind with
  | h f ts ih =>
    intro hs w cs h
    obtain ⟨a, cap, rfl, hcap, hE⟩ := rep_sm.1 h
    have hlen := Sm.length_le_sizes ts
    have hds := Sm.depths_le_sizes ts
    simp only [Sm.size_mk] at hs
    have key := fun W (hW : Upto none' w W) => deepest_any 56 Sm.depth f ts (by omega) (fun t ht => by have := Sm.depth_le_size t; have := Sm.size_le_sizes ht; omega) (fun x hx => ih x hx (by have := Sm.size_le_sizes hx; omega))
      (enters_of Try.func56 (by kernel_rfl) rfl) a cap W (hE.on hW)
    rw [Sm.greatest_depth] at key
    have hd : (Sm.mk f ts).depth = Sm.depths ts + 1 := Sm.depth_mk f ts
    rw [hd]
    generalize Sm.depths ts = d at *
    clear ih h hE hlen
    go_enter Try.func56, Try.ntmps56
    go_wp2_with fail
    refine (key _ ((Upto.refl none' w).alloc _)).mono ?_
    rintro e w5 ⟨rfl, hU5⟩
    go_wp2_with fail
    go_ret
    exact ⟨ret_int (by omega), ((Upto.refl none' w).alloc _).and hU5⟩
end Go.Proofs.Ytnhmogmpbgadiaa
namespace Go.Proofs.Ytnhmogmpbgadiaa
open Go.RowKit Go.LF
/-- An index is handed back: of one that was found, or a negative one. -/
def FoundS (b : Bool) (e : Ending) : Prop := ∃ m : Int, e = .returned (.int .i64 m) ∧ decide (0 ≤ m) = b
set_option maxRecDepth 100000 in
set_option maxHeartbeats 4000000 in
theorem indexSm_any {ts : List Sm} (g : FuncId) (K : Nat) (p : Sm → Bool) (hlen : ts.length ≤ 1000000) (w : World)
    (H : ∀ x ∈ ts, ∀ (W : World) (cs : List Value), Upto none' w W → Rep none' W x.dat cs → Calls Try.prog g #[.agg cs.toArray, .pointer (some ⟨K, 0, none⟩)] W fun e w' => e = .returned (.bool (p x)) ∧ Upto none' W w')
    (hg : ∀ args w, (callFunc g args).run Try.prog w = .ok (.enter g args) w)
    (a : Option Addr) (cap : Nat) (hE : RepE none' w 2 (ts.map Sm.dat) a 0) :
    Calls Try.prog 99 #[.slice a ts.length cap, .func (.func g) #[] #[.pointer (some ⟨K, 0, none⟩)]] w fun e w' =>
      FoundS (ts.any p) e ∧ Upto none' w w' := by
  go_enter Try.func99, Try.ntmps99
  go_wp2_with fail
  go_loopw [8] (fun v wr => ∃ j : Nat, j ≤ ts.length ∧ v = .int .i64 j ∧ (ts.take j).any p = false ∧ Upto none' w wr)
    (fun v _ => ts.length - (intOf v).toNat)
  case atStart => exact ⟨0, Nat.zero_le _, rfl, rfl, Upto.refl _ _⟩
  case round =>
    obtain ⟨j, hj, rfl, hA, hU⟩ := hrel
    have HA := hid hA
    clear hA
    by_cases hlt : j < ts.length
    · obtain ⟨b, o, n1, s1, c1, rfl, hb, _, hc0, hc1, hR⟩ := arg_sm (hE.on hU) j hlt
      have H1 := H _ (List.getElem_mem hlt) _ _ hU hR
      have hT : (ts.take (j + 1)).any p = ((ts.take j).any p || p ts[j]) := by
        rw [List.take_succ_eq_append_getElem hlt]; simp only [List.any_append, List.any_cons, List.any_nil, Bool.or_false]
      have hM : p ts[j] = true → ts.any p = true := fun h => List.any_eq_true.2 ⟨_, List.getElem_mem hlt, h⟩
      rw [HA.out] at hT
      have HT := hid hT
      have HM := hid hM
      clear hT hM
      generalize p ts[j] = b at *
      generalize ts[j].args.length = el at *
      have j1 : (j : Int) < (ts.length : Int) := by omega
      cases b
      all_goals
        go_wp2_with fail
        refine H1.mono ?_
        rintro e w1 ⟨rfl, hU1⟩
        go_wp2
      · go_roundw
        case rel => exact ⟨j + 1, by omega, by go_num, by rw [HT.out]; rfl, hU.and hU1⟩
        case measure => simp [intOf]; omega
      · go_ret
        exact ⟨⟨j, rfl, by rw [HM.out (by trivial)]; simp⟩, hU.and hU1⟩
    · have hj' : ts.take j = ts := List.take_of_length_le (by omega)
      have HA' := HA.out
      rw [hj'] at HA'
      clear HA hj'
      have HA := hid HA'
      clear HA'
      go_wp2
      go_ret
      exact ⟨⟨-1, rfl, by rw [HA.out]; rfl⟩, hU⟩
set_option maxRecDepth 100000 in
set_option maxHeartbeats 4000000 in
theorem containsSm_any {ts : List Sm} (g : FuncId) (K : Nat) (p : Sm → Bool) (hlen : ts.length ≤ 1000000) (w : World)
    (H : ∀ x ∈ ts, ∀ (W : World) (cs : List Value), Upto none' w W → Rep none' W x.dat cs → Calls Try.prog g #[.agg cs.toArray, .pointer (some ⟨K, 0, none⟩)] W fun e w' => e = .returned (.bool (p x)) ∧ Upto none' W w')
    (hg : ∀ args w, (callFunc g args).run Try.prog w = .ok (.enter g args) w)
    (a : Option Addr) (cap : Nat) (hE : RepE none' w 2 (ts.map Sm.dat) a 0) :
    Calls Try.prog 54 #[.slice a ts.length cap, .func (.func g) #[] #[.pointer (some ⟨K, 0, none⟩)]] w fun e w' =>
      e = .returned (.bool (ts.any p)) ∧ Upto none' w w' := by
  have H1 := indexSm_any g K p hlen w H hg a cap hE
  clear H
  go_enter Try.func54, Try.ntmps54
  go_wp2_with fail
  refine H1.mono ?_
  rintro e w1 ⟨⟨m, rfl, hm⟩, hU⟩
  have HM := hid hm
  clear hm H1
  go_wp2
  go_ret
  exact ⟨ret_bool HM.out, hU⟩
theorem cell_at0 {W : World} {b : Nat} {v : Value} {T : TypeId} {fr : Nat × Nat} (h : W.heap[b]? = some (.cells #[v] T fr)) : W.cell? ⟨b, 0, none⟩ = some v := by simp [World.cell?, h]
/-- The box K holds the function named. -/
abbrev NamedAt (K : Nat) (W : World) : Prop := W.cell? ⟨K, 0, none⟩ = some (.func (.func 52) #[] #[.pointer (some ⟨K, 0, none⟩)])
set_option maxRecDepth 100000 in
set_option maxHeartbeats 4000000 in
theorem unnamed_any (K : Nat) (x : Sm) (w : World) (cs : List Value) (hK : NamedAt K w)
    (H : ∀ (W : World), Upto none' w W → Calls Try.prog 52 #[.agg cs.toArray, .pointer (some ⟨K, 0, none⟩)] W fun e w' => e = .returned (.bool x.form) ∧ Upto none' W w')
    (h : Rep none' w x.dat cs) :
    Calls Try.prog 55 #[.agg cs.toArray, .pointer (some ⟨K, 0, none⟩)] w fun e w' => e = .returned (.bool (!x.form)) ∧ Upto none' w w' := by
  obtain ⟨f, ts, a, cap, rfl, rfl, hcap, _⟩ := sm_open h
  generalize (Sm.mk f ts).form = b at *
  have hK1 : NamedAt K (w.alloc (.cells #[.string (B f), .slice a ts.length cap] 29)) := ((Upto.refl none' w).alloc _).cell hK (fun x => x)
  have hcall := Try.call52
  go_enter Try.func55, Try.ntmps55
  go_wp2_with fail
  refine (H _ ((Upto.refl none' w).alloc _)).mono ?_
  rintro e w1 ⟨rfl, hU⟩
  go_wp2
  go_ret
  exact ⟨rfl, ((Upto.refl none' w).alloc _).and hU⟩
theorem forms_any (ts : List Sm) : (!ts.any fun x => !x.form) = Sm.forms ts := by rw [Sm.forms_iff, Bool.eq_iff_iff]; simp
set_option maxRecDepth 100000 in
set_option maxHeartbeats 4000000 in
theorem named_any (t : Sm) : t.wt ≤ 1000000 → ∀ (K : Nat) (w : World) (cs : List Value), NamedAt K w → Rep none' w t.dat cs →
    Calls Try.prog 52 #[.agg cs.toArray, .pointer (some ⟨K, 0, none⟩)] w fun e w' => e = .returned (.bool t.form) ∧ Upto none' w w' := by
  induction t using Sm.ind with
  | h f ts ih =>
    intro hs K w cs hK h
    obtain ⟨a, cap, rfl, hcap, hE⟩ := rep_sm.1 h
    have hlen := Sm.length_le_sizes ts
    have hsw := Sm.sizes_le_wts ts
    simp only [Sm.wt_mk] at hs
    obtain ⟨r, hr⟩ : ∃ r, r = (Sm.mk f ts).form := ⟨_, rfl⟩
    rw [← hr]
    rw [Sm.form_mk, ← forms_any] at hr
    have HN := fun w => isName_any f w (by omega)
    have hfo : Sm.famOk f = (f == [116, 121, 112, 101] || isName f) := rfl
    have HC := fun W (hU : Upto none' w W) => containsSm_any (ts := ts) 55 K (fun x => !x.form) (by omega) W
      (fun x hx W' cs hW' hR => unnamed_any K x W' cs ((hU.and hW').cell hK (fun x => x)) (fun W2 hW2 => ih x hx (by have := Sm.wt_le_wts hx; omega) K W2 cs (((hU.and hW').and hW2).cell hK (fun x => x)) (hR.on hW2)) hR)
      (enters_of Try.func55 (by kernel_rfl) rfl) a cap (hE.on hU)
    generalize (ts.any fun x => !x.form) = c at *
    generalize isName f = nb at *
    obtain ⟨tb, htb⟩ : ∃ tb, tb = (f == [116, 121, 112, 101]) := ⟨_, rfl⟩
    rw [← htb] at hfo
    have HR := hid (And.intro hr hfo)
    have HTB := hid htb
    clear hr hfo htb h ih hlen hsw hs
    obtain ⟨w1, hw1⟩ : ∃ w1, w1 = w.alloc (.cells #[.string (B f), .slice a ts.length cap] 29) := ⟨_, rfl⟩
    have hU1 : Upto none' w w1 := by rw [hw1]; exact (Upto.refl none' w).alloc _
    have hB1 : Box2 w1 w.heap.size (.string (B f)) (.slice a ts.length cap) 29 := by rw [hw1]; exact Box2.at_new rfl
    have HW1 := hid hw1
    clear hw1
    obtain ⟨b0, b1⟩ := hB1.cells
    have hmf : ∀ (fn : Fn) (first cap : Array Value) (w : World), (Instr.makeFunc fn first cap).run Try.prog w = .ok (.func fn first cap) w := fun _ _ _ _ => rfl
    cases nb
    · cases tb
      · have hnf : (f == [116, 121, 112, 101]) = false := HTB.out.symm
        go_enter Try.func52, Try.ntmps52
        go_wp2_with fail
        rw [← HW1.out]
        refine (HN w1).mono ?_
        rintro e w2 ⟨rfl, rfl⟩
        go_wp2_with fail
        go_ret
        exact ⟨ret_bool (by rw [HR.out.1, HR.out.2]; rfl), hU1⟩
      · obtain rfl : f = [116, 121, 112, 101] := by simpa using HTB.out.symm
        go_enter Try.func52, Try.ntmps52
        go_wp2_with fail
        rw [← HW1.out]
        refine (HN w1).mono ?_
        rintro e w2 ⟨rfl, rfl⟩
        go_wp2_with fail
        refine (HC _ hU1).mono ?_
        rintro e w3 ⟨rfl, hU3⟩
        go_wp2_with fail
        go_ret
        exact ⟨ret_bool (by rw [HR.out.1, HR.out.2]; rfl), hU1.and hU3⟩
    · go_enter Try.func52, Try.ntmps52
      go_wp2_with fail
      rw [← HW1.out]
      refine (HN w1).mono ?_
      rintro e w2 ⟨rfl, rfl⟩
      go_wp2_with fail
      refine (HC _ hU1).mono ?_
      rintro e w3 ⟨rfl, hU3⟩
      go_wp2_with fail
      go_ret
      exact ⟨ret_bool (by rw [HR.out.1, HR.out.2]; simp), hU1.and hU3⟩
set_option maxRecDepth 100000 in
set_option maxHeartbeats 4000000 in
theorem smWf_any (t : Sm) (hs : t.wt ≤ 1000000) (w : World) (cs : List Value) (h : Rep none' w t.dat cs) :
    Calls Try.prog 22 #[.agg cs.toArray] w fun e w' => e = .returned (.int .i64 t.wf) ∧ Upto none' w w' := by
  have hsz := Sm.size_le_wt t
  have hdz := Sm.depth_le_size t
  have HF := fun K w' hK h => named_any t hs K w' cs hK h
  have HZ := fun w' h => smSize_any t (by omega) w' cs h
  have HD := fun w' h => smDepth_any t (by omega) w' cs h
  obtain ⟨f, ts, a, cap, ht, rfl, hcap, hE⟩ := sm_open h
  obtain ⟨r, hr⟩ : ∃ r, r = t.wf := ⟨_, rfl⟩
  rw [← hr]
  unfold Sm.wf at hr
  generalize t.form = fb at *
  generalize t.size = sz at *
  generalize t.depth = dp at *
  have HR := hid hr
  clear hr ht hE
  generalize ts.length = len at *
  obtain ⟨w1, hw1⟩ : ∃ w1, w1 = (w.alloc (.cells #[.string (B f), .slice a len cap] 29)).alloc (.cells #[.func (.func 52) #[] #[.pointer (some ⟨w.heap.size + 1, 0, none⟩)]] 82) := ⟨_, rfl⟩
  have hU1 : Upto none' w w1 := by rw [hw1]; exact ((Upto.refl none' w).alloc _).alloc _
  have hB1 : Box2 w1 w.heap.size (.string (B f)) (.slice a len cap) 29 := by rw [hw1]; exact (Box2.at_new rfl).kept ((Upto.refl none' _).alloc _)
  have hK1 : NamedAt (w.heap.size + 1) w1 := by
    have := heap_alloc_new (w.alloc (.cells #[.string (B f), .slice a len cap] 29)) (.cells #[.func (.func 52) #[] #[.pointer (some ⟨w.heap.size + 1, 0, none⟩)]] 82)
    rw [World.size_alloc] at this
    rw [hw1]
    exact cell_at0 this
  have HW1 := hid hw1
  clear hw1
  have hmf : ∀ (fn : Fn) (first cap : Array Value) (w : World), (Instr.makeFunc fn first cap).run Try.prog w = .ok (.func fn first cap) w := fun _ _ _ _ => rfl
  have hcall := Try.call52
  cases fb
  · go_enter Try.func22, Try.ntmps22
    go_wp2_with fail
    rw [← HW1.out]
    refine (HF _ w1 hK1 (h.on hU1)).mono ?_
    rintro e w2 ⟨rfl, hU2⟩
    go_wp2_with fail
    go_ret
    exact ⟨ret_int (by rw [HR.out]; rfl), hU1.and hU2⟩
  · by_cases h1 : 4096 < sz
    · have h1' : (4096 : Int) < (sz : Int) := by omega
      go_enter Try.func22, Try.ntmps22
      go_wp2_with fail
      rw [← HW1.out]
      refine (HF _ w1 hK1 (h.on hU1)).mono ?_
      rintro e w2 ⟨rfl, hU2⟩
      have hB2 := hB1.kept hU2
      obtain ⟨b0, b1⟩ := hB2.cells
      go_wp2_with fail
      refine (HZ w2 (h.on (hU1.and hU2))).mono ?_
      rintro e w3 ⟨rfl, hU3⟩
      go_wp2_with fail
      go_ret
      exact ⟨ret_int (by rw [HR.out]; simp [h1]), (hU1.and hU2).and hU3⟩
    · have h1' : ¬ (4096 : Int) < (sz : Int) := by omega
      by_cases h2 : 128 < dp
      · have h2' : (128 : Int) < (dp : Int) := by omega
        go_enter Try.func22, Try.ntmps22
        go_wp2_with fail
        rw [← HW1.out]
        refine (HF _ w1 hK1 (h.on hU1)).mono ?_
        rintro e w2 ⟨rfl, hU2⟩
        have hB2 := hB1.kept hU2
        obtain ⟨b0, b1⟩ := hB2.cells
        go_wp2_with fail
        refine (HZ w2 (h.on (hU1.and hU2))).mono ?_
        rintro e w3 ⟨rfl, hU3⟩
        have hB3 := hB2.kept hU3
        clear b0 b1
        obtain ⟨b0, b1⟩ := hB3.cells
        go_wp2_with fail
        refine (HD w3 (h.on ((hU1.and hU2).and hU3))).mono ?_
        rintro e w4 ⟨rfl, hU4⟩
        go_wp2_with fail
        go_ret
        exact ⟨ret_int (by rw [HR.out]; simp [h2]), ((hU1.and hU2).and hU3).and hU4⟩
      · have h2' : ¬ (128 : Int) < (dp : Int) := by omega
        go_enter Try.func22, Try.ntmps22
        go_wp2_with fail
        rw [← HW1.out]
        refine (HF _ w1 hK1 (h.on hU1)).mono ?_
        rintro e w2 ⟨rfl, hU2⟩
        have hB2 := hB1.kept hU2
        obtain ⟨b0, b1⟩ := hB2.cells
        go_wp2_with fail
        refine (HZ w2 (h.on (hU1.and hU2))).mono ?_
        rintro e w3 ⟨rfl, hU3⟩
        have hB3 := hB2.kept hU3
        clear b0 b1
        obtain ⟨b0, b1⟩ := hB3.cells
        go_wp2_with fail
        refine (HD w3 (h.on ((hU1.and hU2).and hU3))).mono ?_
        rintro e w4 ⟨rfl, hU4⟩
        go_wp2_with fail
        go_ret
        exact ⟨ret_int (by rw [HR.out]; simp [h1, h2]), ((hU1.and hU2).and hU3).and hU4⟩
end Go.Proofs.Ytnhmogmpbgadiaa
namespace Go.LF.Sm
theorem sames_length : ∀ (l m : List Sm), sames l m = true → l.length = m.length
  | [], [], _ => rfl
  | _ :: as', _ :: bs, h => by simp only [sames, Bool.and_eq_true] at h; simp [sames_length as' bs h.2]
theorem sames_of_length_ne (l m : List Sm) (h : l.length ≠ m.length) : sames l m = false := by
  cases hs : sames l m with
  | false => rfl
  | true => exact absurd (sames_length l m hs) h
theorem sames_take (l m : List Sm) (j : Nat) (h1 : j < l.length) (h2 : j < m.length) : sames (l.take (j + 1)) (m.take (j + 1)) = (sames (l.take j) (m.take j) && same l[j] m[j]) := by
  induction l generalizing m j with
  | nil => simp at h1
  | cons a as' ih =>
    cases m with
    | nil => simp at h2
    | cons b bs =>
      cases j with
      | zero => simp [sames]
      | succ j =>
        have := ih bs j (by simpa using h1) (by simpa using h2)
        simp only [List.take_succ_cons, sames, List.getElem_cons_succ, this, Bool.and_assoc]
theorem sames_false (l m : List Sm) (j : Nat) (hl : l.length = m.length) (h1 : j < l.length) (h : same l[j] (m[j]'(by omega)) = false) : sames l m = false := by
  induction l generalizing m j with
  | nil => simp at h1
  | cons a as' ih =>
    cases m with
    | nil => simp at hl
    | cons b bs =>
      cases j with
      | zero => simp only [List.getElem_cons_zero] at h; simp [sames, h]
      | succ j =>
        have := ih bs j (by simpa using hl) (by simpa using h1) (by simpa using h)
        simp [sames, this]
theorem same_mk (n l n' l') : same (mk n l) (mk n' l') = (n == n' && sames l l') := by rw [same]
theorem same_refl (t : Sm) : t.same t = true := by
  induction t using ind with
  | h f l ih =>
    have key : ∀ (l' : List Sm), (∀ t ∈ l', t.same t = true) → sames l' l' = true := by
      intro l'
      induction l' with
      | nil => intro _; simp [sames]
      | cons t ts ih2 => intro h; simp only [sames, Bool.and_eq_true]; exact ⟨h t (by simp), ih2 (fun t ht => h t (by simp [ht]))⟩
    rw [same_mk, key l ih]; simp
end Go.LF.Sm
namespace Go.Proofs.Ytnhmogmpbgadiaa
open Go.RowKit Go.LF
/-- What is known of a comparison at the arguments of a term. -/
def SmSameAt (g : FuncId) (ts : List Sm) : Prop := ∀ x ∈ ts, ∀ (y : Sm) (w : World) (cs ds : List Value), Rep none' w x.dat cs → Rep none' w y.dat ds →
    Calls Try.prog g #[.agg cs.toArray, .agg ds.toArray] w fun e w' => e = .returned (.bool (x.same y)) ∧ Upto none' w w'
set_option maxHeartbeats 2000000 in
theorem smEqualFunc_any {ts us : List Sm} (H : SmSameAt 49 ts) (hlen : ts.length ≤ 1000000) (w : World) (a : Option Addr) (cap : Nat) (hE : RepE none' w 2 (ts.map Sm.dat) a 0)
    (a' : Option Addr) (cap' : Nat) (hE' : RepE none' w 2 (us.map Sm.dat) a' 0) (r : Bool) (hr : Sm.sames ts us = r) :
    Calls Try.prog 94 #[.slice a ts.length cap, .slice a' us.length cap', .func (.func 49) #[] #[]] w fun e w' =>
      e = .returned (.bool r) ∧ Upto none' w w' := by
  have HR := hid hr
  clear hr
  by_cases hl : ts.length = us.length
  case neg =>
    have hl' : ((ts.length : Int) == us.length) = false := by simp; omega
    go_enter Try.func94, Try.ntmps94
    go_wp2_with fail
    go_ret
    exact ⟨ret_bool (by rw [← HR.out, Sm.sames_of_length_ne _ _ hl]), Upto.refl _ _⟩
  have hl' : ((ts.length : Int) == us.length) = true := by simp; omega
  have hl2 : ((ts.length : Int) != us.length) = false := by simp; omega
  have HL := hid hl
  have hul : us.length ≤ 1000000 := by omega
  clear hl
  go_enter Try.func94, Try.ntmps94
  go_wp2_with fail
  go_loopw [17] (fun v wr => ∃ j : Nat, j ≤ ts.length ∧ v = .int .i64 j ∧ Sm.sames (ts.take j) (us.take j) = true ∧ Upto none' w wr)
    (fun v _ => ts.length - (intOf v).toNat)
  case atStart => exact ⟨0, Nat.zero_le _, rfl, rfl, Upto.refl _ _⟩
  case round =>
    obtain ⟨j, hj, rfl, hA, hU⟩ := hrel
    have HA := hid hA
    clear hA
    by_cases hlt : j < ts.length
    · have hlt2 : j < us.length := by have := HL.out; omega
      obtain ⟨b, o, n1, s1, c1, rfl, hb, _, p0, p1, hR⟩ := arg_sm (hE.on hU) j hlt
      obtain ⟨b', o', n2, s2, c2, rfl, hb', _, q0, q1, hR2⟩ := arg_sm (hE'.on hU) j hlt2
      have hT := Sm.sames_take ts us j hlt hlt2
      rw [HA.out] at hT
      have hM : ts[j].same us[j] = false → Sm.sames ts us = false := fun h => Sm.sames_false ts us j HL.out hlt h
      have H1 := H _ (List.getElem_mem hlt) us[j]
      have HT := hid hT
      have HM := hid hM
      clear hT hM
      generalize ts[j].same us[j] = bo at *
      cases bo
      all_goals
        go_wp2_with fail
        refine (H1 _ _ _ ((hR.new _).new _) ((hR2.new _).new _)).mono ?_
        rintro e w1 ⟨rfl, hU1⟩
        go_wp2
      · go_ret
        exact ⟨ret_bool (by rw [← HR.out, HM.out (by trivial)]), hU.and hU1.behind.behind'⟩
      · go_roundw
        case rel =>
          have fin : ∃ j1 : Nat, j1 ≤ ts.length ∧ Value.int .i64 ((j : Int) + 1) = .int .i64 j1 ∧ Sm.sames (ts.take j1) (us.take j1) = true ∧ Upto none' w w1 :=
            ⟨j + 1, by omega, by go_num, by rw [HT.out]; rfl, hU.and hU1.behind.behind'⟩
          first | exact fin | ((repeat apply Exists.intro); exact ⟨fin, rfl⟩)
        case measure => simp [intOf]; omega
    · have hj' : ts.take j = ts := List.take_of_length_le (by omega)
      have hj2 : us.take j = us := List.take_of_length_le (by have := HL.out; omega)
      have HA' := HA.out
      rw [hj', hj2] at HA'
      have HO := hid HA'
      clear HA HA' hj' hj2
      go_wp2
      go_ret
      exact ⟨ret_bool (by rw [← HR.out, HO.out]), hU⟩
set_option maxHeartbeats 2000000 in
theorem smSame_any (t : Sm) : t.size ≤ 1000000 → ∀ (u : Sm) (w : World) (cs ds : List Value), Rep none' w t.dat cs → Rep none' w u.dat ds →
    Calls Try.prog 49 #[.agg cs.toArray, .agg ds.toArray] w fun e w' => e = .returned (.bool (t.same u)) ∧ Upto none' w w' := by
  induction t using Sm.ind with
  | h n ts ih =>
    intro hs u w cs ds h h'
    obtain ⟨a, cap, rfl, hcap, hE⟩ := rep_sm.1 h
    obtain ⟨n', us, a', cap', rfl, rfl, hcap', hE'⟩ := sm_open h'
    simp only [Sm.size_mk] at hs
    have hlen : ts.length ≤ 1000000 := by have := Sm.length_le_sizes ts; omega
    have H : SmSameAt 49 ts := fun x hx y w cs ds h h' => ih x hx (by have := Sm.size_le_sizes hx; omega) y w cs ds h h'
    have HE := fun W hW hW' => smEqualFunc_any H hlen W a cap hW a' cap' hW' _ (rfl : Sm.sames ts us = Sm.sames ts us)
    clear ih h h' H
    rw [Sm.same_mk]
    generalize Sm.sames ts us = ss at *
    go_enter Try.func49, Try.ntmps49
    go_wp2_with (go_at_call 94; refine (HE _ (hE.on (((Upto.refl _ w).alloc _).alloc _)) (hE'.on (((Upto.refl _ w).alloc _).alloc _))).mono ?_; rintro e w1 ⟨rfl, hU⟩)
    all_goals go_ret
    all_goals first | refine ⟨ret_bool ?_, hU.behind.behind'⟩ | refine ⟨ret_bool ?_, ((Upto.refl _ _).alloc _).alloc _⟩
    all_goals (clear HE hE hE'; rw [Bool.eq_iff_iff]; simp [*] <;> simp_all)
end Go.Proofs.Ytnhmogmpbgadiaa
namespace Go.LF.Sm
theorem order_mk (f l) : order (mk f l) = orders l := by rw [order]
theorem order_le (t : Sm) : t.order < t.size := by
  induction t using ind with
  | h f l ih =>
    rw [order_mk, size_mk]
    induction l with
    | nil => simp [orders]
    | cons t ts ih2 =>
      have h1 := ih t (by simp)
      have h2 := ih2 (fun a ha => ih a (by simp [ha]))
      simp only [orders, sizes]; omega
theorem orders_le (l : List Sm) : orders l ≤ sizes l := by
  have := order_le (mk [] l); rw [order_mk, size_mk] at this; omega
theorem orders_append (a b : List Sm) : orders (a ++ b) = max (orders a) (orders b) := by
  induction a with
  | nil => simp [orders]
  | cons t ts ih => simp [orders, ih]
theorem orders_take_succ (l : List Sm) (j : Nat) (h : j < l.length) : orders (l.take (j + 1)) = max (orders (l.take j)) (l[j].order + 1) := by
  rw [List.take_succ_eq_append_getElem h, orders_append]; simp [orders]
theorem orders_take_le (l : List Sm) (j : Nat) : orders (l.take j) ≤ orders l := by
  conv => rhs; rw [← List.take_append_drop j l, orders_append]
  omega
/-- What Order tells. -/
def orderV (t : Sm) : Int := if t.wf = 0 then (t.order : Int) else 0
end Go.LF.Sm
namespace Go.Proofs.Ytnhmogmpbgadiaa
open Go.RowKit Go.LF
theorem Sm.order_greatest (f : List UInt8) (l : List Sm) : (Sm.mk f l).order = if l.length = 0 then 0 else Sm.greatest Sm.order l + 1 := by
  rw [Sm.order_mk]
  induction l with
  | nil => simp [Sm.orders]
  | cons t ts ih =>
    rw [Sm.orders, ih]
    simp only [List.length_cons, Sm.greatest]
    rw [if_neg (show ¬ ts.length + 1 = 0 by omega)]
    by_cases h : ts.length = 0
    · obtain rfl := List.eq_nil_of_length_eq_zero h
      simp [Sm.greatest]
    · rw [if_neg h]; omega
set_option maxRecDepth 100000 in
set_option maxHeartbeats 4000000 in
theorem orderI_any (t : Sm) : t.size ≤ 1000000 → ∀ (w : World) (cs : List Value), Rep none' w t.dat cs →
    Calls Try.prog 95 #[.agg cs.toArray] w fun e w' => e = .returned (.int .i64 t.order) ∧ Upto none' w w' := by
  induction t using Sm.ind with
  | h f ts ih =>
    intro hs w cs h
    obtain ⟨a, cap, rfl, hcap, hE⟩ := rep_sm.1 h
    have hlen := Sm.length_le_sizes ts
    simp only [Sm.size_mk] at hs
    have hgr : Sm.greatest Sm.order ts ≤ 1000000 := Sm.greatest_le _ _ _ (fun t ht => by have := Sm.order_le t; have := Sm.size_le_sizes ht; omega)
    have key := fun W (hW : Upto none' w W) => deepest_any 95 Sm.order f ts (by omega) (fun t ht => by have := Sm.order_le t; have := Sm.size_le_sizes ht; omega) (fun x hx => ih x hx (by have := Sm.size_le_sizes hx; omega))
      (enters_of Try.func95 (by kernel_rfl) rfl) a cap W (hE.on hW)
    have hd : (Sm.mk f ts).order = if ts.length = 0 then 0 else Sm.greatest Sm.order ts + 1 := Sm.order_greatest f ts
    generalize Sm.greatest Sm.order ts = d at *
    obtain ⟨r, hr⟩ : ∃ r, r = (Sm.mk f ts).order := ⟨_, rfl⟩
    rw [← hr] at hd ⊢
    have HD := hid hd
    obtain ⟨w1, hw1⟩ : ∃ w1, w1 = w.alloc (.cells #[.string (B f), .slice a ts.length cap] 29) := ⟨_, rfl⟩
    have hU1 : Upto none' w w1 := by rw [hw1]; exact (Upto.refl none' w).alloc _
    have hB1 : Box2 w1 w.heap.size (.string (B f)) (.slice a ts.length cap) 29 := by rw [hw1]; exact Box2.at_new rfl
    have HW1 := hid hw1
    clear ih h hE hlen hr hd hw1
    obtain ⟨b0, b1⟩ := hB1.cells
    by_cases h0 : ts.length = 0
    · have h0' : ((ts.length : Int) == 0) = true := by simp [h0]
      go_enter Try.func95, Try.ntmps95
      go_wp2_with fail
      go_ret
      exact ⟨ret_int (by rw [HD.out, if_pos h0]; rfl), (Upto.refl none' w).alloc _⟩
    · have h0' : ((ts.length : Int) == 0) = false := beq_false_of_ne (by omega)
      go_enter Try.func95, Try.ntmps95
      go_wp2_with fail
      rw [← HW1.out]
      refine (key _ hU1).mono ?_
      rintro e w5 ⟨rfl, hU5⟩
      go_wp2_with fail
      go_ret
      exact ⟨ret_int (by rw [HD.out, if_neg h0]; omega), hU1.and hU5⟩
set_option maxRecDepth 100000 in
set_option maxHeartbeats 4000000 in
theorem smOrder_any (t : Sm) (hs : t.wt ≤ 1000000) (w : World) (cs : List Value) (h : Rep none' w t.dat cs) :
    Calls Try.prog 50 #[.agg cs.toArray] w fun e w' => e = .returned (.int .i64 t.orderV) ∧ Upto none' w w' := by
  have hsz := Sm.size_le_wt t
  have HF := fun w' h => smWf_any t hs w' cs h
  have HZ := fun w' h => orderI_any t (by omega) w' cs h
  obtain ⟨f, ts, a, cap, ht, rfl, hcap, hE⟩ := sm_open h
  obtain ⟨r, hr⟩ : ∃ r : Int, r = t.orderV := ⟨_, rfl⟩
  rw [← hr]
  unfold Sm.orderV at hr
  generalize t.wf = e at *
  generalize t.order = o at *
  have HR := hid hr
  clear hr ht hE
  generalize ts.length = len at *
  obtain ⟨w1, hw1⟩ : ∃ w1, w1 = w.alloc (.cells #[.string (B f), .slice a len cap] 29) := ⟨_, rfl⟩
  have hU1 : Upto none' w w1 := by rw [hw1]; exact (Upto.refl none' w).alloc _
  have hB1 : Box2 w1 w.heap.size (.string (B f)) (.slice a len cap) 29 := by rw [hw1]; exact Box2.at_new rfl
  have HW1 := hid hw1
  clear hw1
  by_cases h0 : e = 0
  · subst h0
    go_enter Try.func50, Try.ntmps50
    go_wp2_with fail
    rw [← HW1.out]
    refine (HF w1 (h.on hU1)).mono ?_
    rintro e w2 ⟨rfl, hU2⟩
    have hB2 := hB1.kept hU2
    obtain ⟨b0, b1⟩ := hB2.cells
    go_wp2_with fail
    refine (HZ w2 (h.on (hU1.and hU2))).mono ?_
    rintro e w3 ⟨rfl, hU3⟩
    go_wp2_with fail
    go_ret
    exact ⟨ret_int (by rw [HR.out, if_pos trivial]), (hU1.and hU2).and hU3⟩
  · have h0' : (e != 0) = true := by simp [h0]
    go_enter Try.func50, Try.ntmps50
    go_wp2_with fail
    rw [← HW1.out]
    refine (HF w1 (h.on hU1)).mono ?_
    rintro e w2 ⟨rfl, hU2⟩
    go_wp2_with fail
    go_ret
    exact ⟨ret_int (by rw [HR.out, if_neg h0]), hU1.and hU2⟩
end Go.Proofs.Ytnhmogmpbgadiaa
namespace Go.LF.Tm
mutual
/-- How many Lams a term begins with. -/
def lamC : Tm → Nat
  | mk k _ _ l => if k == 3 then lamC0 l else 0
def lamC0 : List Tm → Nat
  | [] => 1
  | t :: _ => lamC t + 1
end
theorem lamC_mk (k n i l) : lamC (mk k n i l) = if k == 3 then lamC0 l else 0 := by rw [lamC]
theorem lamC0_one (t : Tm) : lamC0 [t] = lamC t + 1 := by rw [lamC0]
theorem lamC_le (t : Tm) : t.isObj = true → lamC t ≤ t.size := by
  induction t using ind with
  | h k n i l ih =>
    intro h
    rw [lamC_mk]
    split
    · rename_i hk
      have hk : k = 3 := by simpa using hk
      obtain ⟨h1, h2⟩ := obj_args h
      obtain ⟨u, rfl⟩ := List.length_eq_one_iff.1 (h2 hk)
      have := ih u (by simp) (h1 u (by simp))
      rw [lamC0_one]
      simp [sizes]; omega
    · omega
/-- What Fits tells. -/
def fitsV (t : Tm) (n : Nat) : Bool := (t.isObj && t.small) && decide (lamC t = n)
end Go.LF.Tm
namespace Go.Proofs.Ytnhmogmpbgadiaa
open Go.RowKit Go.LF
set_option maxRecDepth 100000 in
set_option maxHeartbeats 8000000 in
theorem fits_any (t : Tm) (hs : t.wt ≤ 100000) (s : Sm) (hs' : s.size ≤ 1000000) (w : World) (cs ds : List Value) (h : Rep none' w t.dat cs) (h' : Rep none' w s.dat ds) :
    Calls Try.prog 19 #[.agg cs.toArray, .agg ds.toArray] w fun e w' => e = .returned (.bool (t.fitsV s.args.length)) ∧ Upto none' w w' := by
  have HO := fun w' h => isObject_any t (by omega) w' cs h
  obtain ⟨k0, n0, i0, ts0, a0, cap0, ht, rfl, hcap0, _⟩ := tm_open h
  obtain ⟨f, ss, a', cap', rfl, rfl, hcap', _⟩ := sm_open h'
  simp only [Sm.args_mk]
  have hss : ss.length ≤ 1000000 := by have := Sm.length_le_sizes ss; simp only [Sm.size_mk] at hs'; omega
  generalize ss.length = sl at *
  obtain ⟨r, hr⟩ : ∃ r, r = t.fitsV sl := ⟨_, rfl⟩
  rw [← hr]
  unfold Tm.fitsV at hr
  have hle := Tm.lamC_le t
  have hsz := Tm.size_le_wt t
  obtain ⟨w1, hw1⟩ : ∃ w1, w1 = (w.alloc (.cells #[.int .i64 k0, .string (B n0), .int .i64 i0, .slice a0 ts0.length cap0] 32)).alloc (.cells #[.string (B f), .slice a' sl cap'] 29) := ⟨_, rfl⟩
  have hU1 : Upto none' w w1 := by rw [hw1]; exact ((Upto.refl none' w).alloc _).alloc _
  have hB1 : Box4 w1 w.heap.size (.int .i64 k0) (.string (B n0)) (.int .i64 i0) (.slice a0 ts0.length cap0) 32 := by rw [hw1]; exact (Box4.at_new rfl).kept ((Upto.refl none' _).alloc _)
  have hS1 : Box2 w1 (w.heap.size + 1) (.string (B f)) (.slice a' sl cap') 29 := by rw [hw1]; exact Box2.at_new (by simp)
  have hR1 : Rep (fun b => b = w.heap.size) w1 t.dat [.int .i64 k0, .string (B n0), .int .i64 i0, .slice a0 ts0.length cap0] := (Rep.weaken (fun b _ e => .inr (by omega)) _ _ (Rep.fresh' _ _ h)).on hU1
  have HO1 := HO w1 (h.on hU1)
  have HW1 := hid hw1
  obtain ⟨H, hH⟩ : ∃ H, H = w.heap.size := ⟨_, rfl⟩
  have HH := hid hH
  rw [← hH] at hB1 hR1 hS1
  clear hw1 hH hcap0 h h' hs' hcap' HO
  generalize hob : (t.isObj && t.small) = ob at *
  cases ob
  · have HR := hid hr
    clear hr ht hle hob
    go_enter Try.func19, Try.ntmps19
    go_wp2_with fail
    rw [← HW1.out]
    refine HO1.mono ?_
    rintro e w2 ⟨rfl, hU2⟩
    go_wp2_with fail
    go_ret
    exact ⟨ret_bool (by rw [HR.out]; rfl), hU1.and hU2⟩
  have hobj : t.isObj = true := by simp only [Bool.and_eq_true] at hob; exact hob.1
  rw [Bool.true_and] at hr
  have HT := hid (And.intro ht (And.intro hobj hr))
  clear ht hobj hr hob hle
  go_enter Try.func19, Try.ntmps19
  go_wp2_with fail
  rw [← HW1.out, ← HH.out]
  refine HO1.mono ?_
  rintro e w2 ⟨rfl, hU2⟩
  have hB2 := hB1.kept hU2
  have hS2 := hS1.kept hU2
  have hR2 := hR1.on hU2
  have hU3 := hU1.and hU2
  clear hB1 hS1 hR1 HO1
  obtain ⟨s0, s1⟩ := hS2.cells
  go_wp2_with fail
  go_loopw [11] (fun v4 wr => ∃ (j : Nat) (k i : Int) (n : List UInt8) (a : Option Addr) (ts : List Tm) (cap : Nat), v4 = .int .i64 j ∧ j ≤ sl ∧ (Tm.mk k n i ts).isObj = true ∧ t.lamC = (Tm.mk k n i ts).lamC + j ∧
      Rep (fun b => b = H) wr (Tm.mk k n i ts).dat [.int .i64 k, .string (B n), .int .i64 i, .slice a ts.length cap] ∧ Box4 wr H (.int .i64 k) (.string (B n)) (.int .i64 i) (.slice a ts.length cap) 32 ∧ Upto none' w wr)
    (fun v4 _ => sl - (intOf v4).toNat)
  case atStart =>
    obtain ⟨h1, h2, _⟩ := HT.out
    rw [h1] at h2 hR2
    exact ⟨0, _, _, _, _, _, _, rfl, Nat.zero_le _, h2, by rw [← h1]; rfl, hR2, hB2, hU3⟩
  case round =>
    clear hR2 hB2 hU3 s0 s1
    obtain ⟨j, k, i, nm, a, ts, cap, rfl, hj, hl, hr, hR, hB, hU⟩ := hrel
    obtain ⟨b0, b1, b2, b3⟩ := hB.cells
    obtain ⟨f0, f1, f2, f3⟩ := hB.frozens
    obtain ⟨_, _, e0, hcap, hE⟩ := rep_tm.1 hR
    simp only [List.cons.injEq, Value.slice.injEq, and_true, true_and] at e0
    obtain ⟨rfl, rfl⟩ := e0
    have hj0 : (0 : Int) ≤ (j : Int) := by omega
    have HR2 := hid (And.intro hj (And.intro hl hr))
    have hjb : (j : Int) ≤ 1000000 := by omega
    by_cases hjl : j < sl
    · have hj1 : (j : Int) < (sl : Int) := by omega
      by_cases hk : k = 3
      · have hk3 : (k != 3) = false := by simp [hk]
        have hone : ts.length = 1 := (Tm.obj_args (HR2.out.2.1)).2 hk
        obtain ⟨u, rfl⟩ := List.length_eq_one_iff.1 hone
        obtain ⟨gb, go', k1, n1, x1, s1, c1, rfl, hgl, hgO, g0, g1, g2, g3, hR1⟩ := arg_tm hE 0 (by simp)
        simp only [List.getElem_cons_zero] at g3 hR1
        obtain ⟨us, rfl, hul, hc1, hE1⟩ := tm_tie hR1
        simp only [Tm.args_mk, Nat.zero_mul, Nat.add_zero] at g0 g1 g2 g3 hR1
        have HK := hid hk
        clear hk hone hE hul hE1 hj hl hr hR
        go_wp2_with fail
        have hset := hB.set (d0 := .int .i64 k1) (d1 := .string (B n1)) (d2 := .int .i64 x1) (d3 := .slice s1 us.length c1)
        have hR2 := Rep.keep hset.2 (fun b e => e) _ _ hR1
        go_roundw
        case rel =>
          obtain ⟨h1, h2, h3⟩ := HR2.out
          refine ⟨j + 1, k1, x1, n1, s1, us, c1, by go_num, by omega, (Tm.obj_args h2).1 _ (by simp), ?_, hR2, hset.1, hU.trans hset.2 (fun x hx e => by have := HH.out; omega)⟩
          rw [h3, Tm.lamC_mk, if_pos (by simp [HK.out]), Tm.lamC0_one]
          omega
        case measure => (simp [intOf]; omega)
      · have hk3 : (k != 3) = true := by simp [hk]
        have hlc : t.lamC = j := by rw [hr, Tm.lamC_mk, if_neg (by simpa using hk)]; omega
        have HL := hid hlc
        clear hk hlc hl hr hR hE
        go_wp2_with fail
        go_ret
        exact ⟨ret_bool (by rw [HT.out.2.2, HL.out]; exact (decide_eq_false (by omega)).symm), hU⟩
    · have hj1 : ¬ (j : Int) < (sl : Int) := by omega
      have hjs : j = sl := by omega
      have hlc : r = (k != 3) := by
        rw [HT.out.2.2, hr, Tm.lamC_mk]
        by_cases hk : k = 3
        · subst hk
          have hone : ts.length = 1 := (Tm.obj_args (HR2.out.2.1)).2 rfl
          obtain ⟨u, rfl⟩ := List.length_eq_one_iff.1 hone
          rw [if_pos (show ((3 : Int) == 3) = true from rfl), Tm.lamC0_one]
          exact decide_eq_false (by omega)
        · rw [if_neg (by simpa using hk)]
          have : (k != 3) = true := by simp [hk]
          rw [this]
          exact decide_eq_true (by omega)
      have HL := hid hlc
      clear hlc hl hr hR hE
      go_wp2_with fail
      go_ret
      exact ⟨ret_bool HL.out.symm, hU⟩
end Go.Proofs.Ytnhmogmpbgadiaa
