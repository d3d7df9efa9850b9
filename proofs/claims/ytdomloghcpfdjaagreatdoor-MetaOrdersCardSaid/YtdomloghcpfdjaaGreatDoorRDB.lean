/- The program's simple types: Size, depth. -/
import Derived.Test.YtdomloghcpfdjaaGreatDoorRCB
import Derived.Test.YtdomloghcpfdjaaGreatDoorRCF
namespace Go.Proofs.YtdomloghcpfdjaaGreatDoor
open Go.RowKit Go.LF
set_option maxRecDepth 100000 in
set_option maxHeartbeats 4000000 in
theorem smSize_any (t : Sm) : t.size ≤ 1000000 → ∀ (w : World) (cs : List Value), Rep none' w t.dat cs →
    Calls Tryz.prog 205 #[.agg cs.toArray] w fun e w' => e = .returned (.int .i64 t.size) ∧ Upto none' w w' := by
  induction t using Sm.ind with
  | h f ts ih =>
    intro hs w cs h
    obtain ⟨a, cap, rfl, hcap, hE⟩ := rep_sm.1 h
    have hlen := Sm.length_le_sizes ts
    have hds := Sm.depths_le_sizes ts
    simp only [Sm.size_mk] at hs
    obtain ⟨w1, hw1⟩ : ∃ w1, w1 = w.alloc (.cells #[.string (B f), .slice a ts.length cap] 33) := ⟨_, rfl⟩
    have hU1 : Upto none' w w1 := by rw [hw1]; exact (Upto.refl none' w).alloc _
    have hB1 : Box2 w1 w.heap.size (.string (B f)) (.slice a ts.length cap) 33 := by rw [hw1]; exact Box2.at_new rfl
    have HW1 := hid hw1
    clear hw1 h
    obtain ⟨b0, b1⟩ := hB1.cells
    skip
    go_enter Tryz.func205, Tryz.ntmps205
    go_wp2_with fail
    rw [← HW1.out]
    go_loopw [3, 9] (fun v3 v wr => ∃ j : Nat, v = .int .i64 j ∧ j ≤ ts.length ∧ v3 = .int .i64 (1 + Sm.sizes (ts.take j)) ∧ Upto none' w1 wr) (fun _ v _ => ts.length - (intOf v).toNat)
    case atStart => exact ⟨0, rfl, Nat.zero_le _, rfl, Upto.refl _ _⟩
    case round =>
      obtain ⟨j, rfl, hj, rfl, hU⟩ := hrel
      clear b0 b1
      have hw := hU1.and hU
      have hBr := hB1.kept hU
      obtain ⟨b0, b1⟩ := hBr.cells
      have j0 : (0 : Int) ≤ (j : Int) := by omega
      have jb : (j : Int) ≤ 2000000 := by omega
      have hdj := Sm.sizes_take_le ts j
      have hdj2 := Sm.depths_take_le ts j
      skip
      by_cases hlt : j < ts.length
      · obtain ⟨b, o, n1, s1, cp, rfl, hb, _, p0, p1, hRp⟩ := arg_sm (hE.on hw) j hlt
        have j1 : (j : Int) < (ts.length : Int) := by omega
        have hs4 := Sm.size_le_sizes (List.getElem_mem hlt)
        have hs5 := Sm.depth_le_size ts[j]
        have key := fun W (hW : Upto none' wr W) => ih _ (List.getElem_mem hlt) (by omega) W _ (hRp.on hW)
        have hsum : Sm.sizes (ts.take j) + ts[j].size ≤ Sm.sizes ts := by rw [← Sm.sizes_take_succ ts j hlt]; exact Sm.sizes_take_le ts (j + 1)
        generalize ts[j].args.length = el at *
        go_wp2_with fail
        refine (key _ ((Upto.refl none' wr).alloc _)).mono ?_
        rintro e w5 ⟨rfl, hU5⟩
        go_wp2_with fail
        go_roundw
        case rel =>
          refine ⟨j + 1, by go_num, by omega, int_eq ?_, (hU.alloc _).and hU5⟩
          rw [Sm.sizes_take_succ ts j hlt]
          omega
        case measure => (simp [intOf]; omega)
      · have hjn : ¬ (j : Int) < (ts.length : Int) := by omega
        have hdn : ts.take j = ts := List.take_of_length_le (by omega)
        rw [hdn] at hdj hdj2 ⊢
        go_wp2_with fail
        go_ret
        exact ⟨ret_int (by first | omega | (rw [Sm.size_mk]; omega)), hw⟩
/-- The greatest of what a function tells of the arguments. -/
def Sm.greatest (g : Sm → Nat) : List Sm → Nat
  | [] => 0
  | t :: ts => max (g t) (Sm.greatest g ts)
theorem Sm.greatest_append (g : Sm → Nat) (a b : List Sm) : Sm.greatest g (a ++ b) = max (Sm.greatest g a) (Sm.greatest g b) := by
  induction a with
  | nil => simp [Sm.greatest]
  | cons t ts ih => simp [Sm.greatest, ih]
theorem Sm.greatest_take_succ (g : Sm → Nat) (l : List Sm) (j : Nat) (h : j < l.length) : Sm.greatest g (l.take (j + 1)) = max (Sm.greatest g (l.take j)) (g l[j]) := by
  rw [List.take_succ_eq_append_getElem h, Sm.greatest_append]; simp [Sm.greatest]
theorem Sm.greatest_le (g : Sm → Nat) (l : List Sm) (n : Nat) (h : ∀ t ∈ l, g t ≤ n) : Sm.greatest g l ≤ n := by
  induction l with
  | nil => simp [Sm.greatest]
  | cons t ts ih => have := h t (by simp); have := ih (fun t ht => h t (by simp [ht])); simp only [Sm.greatest]; omega
theorem Sm.greatest_depth (l : List Sm) : Sm.greatest Sm.depth l = Sm.depths l := by
  induction l with
  | nil => simp [Sm.greatest, Sm.depths]
  | cons t ts ih => simp [Sm.greatest, Sm.depths, ih]
set_option maxRecDepth 100000 in
set_option maxHeartbeats 4000000 in
theorem deepest_any (gf : FuncId) (g : Sm → Nat) (f : List UInt8) (ts : List Sm) (hlen : ts.length ≤ 1000000) (hg1 : ∀ t ∈ ts, g t ≤ 1000000)
    (ih : ∀ x ∈ ts, ∀ (w : World) (cs : List Value), Rep none' w x.dat cs → Calls Tryz.prog gf #[.agg cs.toArray] w fun e w' => e = .returned (.int .i64 (g x)) ∧ Upto none' w w')
    (hg : ∀ args w, (callFunc gf args).run Tryz.prog w = .ok (.enter gf args) w) (a : Option Addr) (cap : Nat) (w : World) (hE : RepE none' w 2 (ts.map Sm.dat) a 0) :
    Calls Tryz.prog 234 #[.agg #[.string (B f), .slice a ts.length cap], .func (.func gf) #[] #[]] w fun e w' => e = .returned (.int .i64 (Sm.greatest g ts)) ∧ Upto none' w w' := by
  obtain ⟨w1, hw1⟩ : ∃ w1, w1 = w.alloc (.cells #[.string (B f), .slice a ts.length cap] 33) := ⟨_, rfl⟩
  have hU1 : Upto none' w w1 := by rw [hw1]; exact (Upto.refl none' w).alloc _
  have hB1 : Box2 w1 w.heap.size (.string (B f)) (.slice a ts.length cap) 33 := by rw [hw1]; exact Box2.at_new rfl
  have HW1 := hid hw1
  clear hw1
  obtain ⟨b0, b1⟩ := hB1.cells
  go_enter Tryz.func234, Tryz.ntmps234
  go_wp2_with fail
  rw [← HW1.out]
  go_loopw [5, 11] (fun v3 v wr => ∃ j : Nat, v = .int .i64 j ∧ j ≤ ts.length ∧ v3 = .int .i64 (Sm.greatest g (ts.take j)) ∧ Upto none' w1 wr) (fun _ v _ => ts.length - (intOf v).toNat)
  case atStart => exact ⟨0, rfl, Nat.zero_le _, rfl, Upto.refl _ _⟩
  case round =>
    obtain ⟨j, rfl, hj, rfl, hU⟩ := hrel
    clear b0 b1
    have hw := hU1.and hU
    have j0 : (0 : Int) ≤ (j : Int) := by omega
    have jb : (j : Int) ≤ 2000000 := by omega
    have hgj : Sm.greatest g (ts.take j) ≤ 1000000 := Sm.greatest_le g _ _ (fun t ht => hg1 t (List.mem_of_mem_take ht))
    by_cases hlt : j < ts.length
    · obtain ⟨b, o, n1, s1, cp, rfl, hb, _, p0, p1, hRp⟩ := arg_sm (hE.on hw) j hlt
      have j1 : (j : Int) < (ts.length : Int) := by omega
      have hs5 := hg1 _ (List.getElem_mem hlt)
      have key := fun W (hW : Upto none' wr W) => ih _ (List.getElem_mem hlt) W _ (hRp.on hW)
      have hstep := Sm.greatest_take_succ g ts j hlt
      generalize ts[j].args.length = el at *
      generalize g ts[j] = x at *
      generalize Sm.greatest g (ts.take j) = y at *
      have HST := hid hstep
      clear hstep
      go_wp2_with fail
      refine (key _ ((Upto.refl none' wr).alloc _)).mono ?_
      rintro e w5 ⟨rfl, hU5⟩
      go_wp2_with fail
      go_roundw
      case rel =>
        refine ⟨j + 1, by go_num, by omega, int_eq ?_, (hU.alloc _).and hU5⟩
        rw [HST.out]
        omega
      case measure => (simp [intOf]; omega)
    · have hjn : ¬ (j : Int) < (ts.length : Int) := by omega
      have hdn : ts.take j = ts := List.take_of_length_le (by omega)
      rw [hdn] at hgj ⊢
      go_wp2_with fail
      go_ret
      exact ⟨rfl, hw⟩
set_option maxRecDepth 100000 in
set_option maxHeartbeats 4000000 in
theorem smDepth_any (t : Sm) : t.size ≤ 1000000 → ∀ (w : World) (cs : List Value), Rep none' w t.dat cs →
    Calls Tryz.prog 206 #[.agg cs.toArray] w fun e w' => e = .returned (.int .i64 t.depth) ∧ Upto none' w w' := by
  induction t using Sm.ind with
  | h f ts ih =>
    intro hs w cs h
    obtain ⟨a, cap, rfl, hcap, hE⟩ := rep_sm.1 h
    have hlen := Sm.length_le_sizes ts
    have hds := Sm.depths_le_sizes ts
    simp only [Sm.size_mk] at hs
    have key := fun W (hW : Upto none' w W) => deepest_any 206 Sm.depth f ts (by omega) (fun t ht => by have := Sm.depth_le_size t; have := Sm.size_le_sizes ht; omega) (fun x hx => ih x hx (by have := Sm.size_le_sizes hx; omega))
      (enters_of Tryz.func206 (by kernel_rfl) rfl) a cap W (hE.on hW)
    rw [Sm.greatest_depth] at key
    have hd : (Sm.mk f ts).depth = Sm.depths ts + 1 := Sm.depth_mk f ts
    rw [hd]
    generalize Sm.depths ts = d at *
    clear ih h hE hlen
    go_enter Tryz.func206, Tryz.ntmps206
    go_wp2_with fail
    refine (key _ ((Upto.refl none' w).alloc _)).mono ?_
    rintro e w5 ⟨rfl, hU5⟩
    go_wp2_with fail
    go_ret
    exact ⟨ret_int (by omega), ((Upto.refl none' w).alloc _).and hU5⟩
end Go.Proofs.YtdomloghcpfdjaaGreatDoor
namespace Go.Proofs.YtdomloghcpfdjaaGreatDoor
open Go.RowKit Go.LF
/-- An index is handed back: of one that was found, or a negative one. -/
def FoundS (b : Bool) (e : Ending) : Prop := ∃ m : Int, e = .returned (.int .i64 m) ∧ decide (0 ≤ m) = b
set_option maxRecDepth 100000 in
set_option maxHeartbeats 4000000 in
theorem indexSm_any {ts : List Sm} (g : FuncId) (K : Nat) (p : Sm → Bool) (hlen : ts.length ≤ 1000000) (w : World)
    (H : ∀ x ∈ ts, ∀ (W : World) (cs : List Value), Upto none' w W → Rep none' W x.dat cs → Calls Tryz.prog g #[.agg cs.toArray, .pointer (some ⟨K, 0, none⟩)] W fun e w' => e = .returned (.bool (p x)) ∧ Upto none' W w')
    (hg : ∀ args w, (callFunc g args).run Tryz.prog w = .ok (.enter g args) w)
    (a : Option Addr) (cap : Nat) (hE : RepE none' w 2 (ts.map Sm.dat) a 0) :
    Calls Tryz.prog 233 #[.slice a ts.length cap, .func (.func g) #[] #[.pointer (some ⟨K, 0, none⟩)]] w fun e w' =>
      FoundS (ts.any p) e ∧ Upto none' w w' := by
  go_enter Tryz.func233, Tryz.ntmps233
  go_wp2_with fail
  go_loopw [8] (fun v wr => ∃ j : Nat, j ≤ ts.length ∧ v = .int .i64 j ∧ (ts.take j).any p = false ∧ Upto none' w wr)
    (fun v _ => ts.length - (intOf v).toNat)
  case atStart => exact ⟨0, Nat.zero_le _, rfl, rfl, Upto.refl _ _⟩
  case round =>
    obtain ⟨j, hj, rfl, hA, hU⟩ := hrel
    have HA := hid hA
    clear hA
    by_cases hlt : j < ts.length
    · obtain ⟨b, o, n1, s1, c1, rfl, hb, _, hc0, hc1, hR⟩ := arg_sm (hE.on hU) j hlt
      have H1 := H _ (List.getElem_mem hlt) _ _ hU hR
      have hT : (ts.take (j + 1)).any p = ((ts.take j).any p || p ts[j]) := by
        rw [List.take_succ_eq_append_getElem hlt]; simp only [List.any_append, List.any_cons, List.any_nil, Bool.or_false]
      have hM : p ts[j] = true → ts.any p = true := fun h => List.any_eq_true.2 ⟨_, List.getElem_mem hlt, h⟩
      rw [HA.out] at hT
      have HT := hid hT
      have HM := hid hM
      clear hT hM
      generalize p ts[j] = b at *
      generalize ts[j].args.length = el at *
      have j1 : (j : Int) < (ts.length : Int) := by omega
      cases b
      all_goals
        go_wp2_with fail
        refine H1.mono ?_
        rintro e w1 ⟨rfl, hU1⟩
        go_wp2
      · go_roundw
        case rel => exact ⟨j + 1, by omega, by go_num, by rw [HT.out]; rfl, hU.and hU1⟩
        case measure => simp [intOf]; omega
      · go_ret
        exact ⟨⟨j, rfl, by rw [HM.out (by trivial)]; simp⟩, hU.and hU1⟩
    · have hj' : ts.take j = ts := List.take_of_length_le (by omega)
      have HA' := HA.out
      rw [hj'] at HA'
      clear HA hj'
      have HA := hid HA'
      clear HA'
      go_wp2
      go_ret
      exact ⟨⟨-1, rfl, by rw [HA.out]; rfl⟩, hU⟩
set_option maxRecDepth 100000 in
set_option maxHeartbeats 4000000 in
theorem containsSm_any {ts : List Sm} (g : FuncId) (K : Nat) (p : Sm → Bool) (hlen : ts.length ≤ 1000000) (w : World)
    (H : ∀ x ∈ ts, ∀ (W : World) (cs : List Value), Upto none' w W → Rep none' W x.dat cs → Calls Tryz.prog g #[.agg cs.toArray, .pointer (some ⟨K, 0, none⟩)] W fun e w' => e = .returned (.bool (p x)) ∧ Upto none' W w')
    (hg : ∀ args w, (callFunc g args).run Tryz.prog w = .ok (.enter g args) w)
    (a : Option Addr) (cap : Nat) (hE : RepE none' w 2 (ts.map Sm.dat) a 0) :
    Calls Tryz.prog 203 #[.slice a ts.length cap, .func (.func g) #[] #[.pointer (some ⟨K, 0, none⟩)]] w fun e w' =>
      e = .returned (.bool (ts.any p)) ∧ Upto none' w w' := by
  have H1 := indexSm_any g K p hlen w H hg a cap hE
  clear H
  go_enter Tryz.func203, Tryz.ntmps203
  go_wp2_with fail
  refine H1.mono ?_
  rintro e w1 ⟨⟨m, rfl, hm⟩, hU⟩
  have HM := hid hm
  clear hm H1
  go_wp2
  go_ret
  exact ⟨ret_bool HM.out, hU⟩
theorem cell_at0 {W : World} {b : Nat} {v : Value} {T : TypeId} {fr : Nat × Nat} (h : W.heap[b]? = some (.cells #[v] T fr)) : W.cell? ⟨b, 0, none⟩ = some v := by simp [World.cell?, h]
/-- The box K holds the function named. -/
abbrev NamedAt (K : Nat) (W : World) : Prop := W.cell? ⟨K, 0, none⟩ = some (.func (.func 202) #[] #[.pointer (some ⟨K, 0, none⟩)])
set_option maxRecDepth 100000 in
set_option maxHeartbeats 4000000 in
theorem unnamed_any (K : Nat) (x : Sm) (w : World) (cs : List Value) (hK : NamedAt K w)
    (H : ∀ (W : World), Upto none' w W → Calls Tryz.prog 202 #[.agg cs.toArray, .pointer (some ⟨K, 0, none⟩)] W fun e w' => e = .returned (.bool x.form) ∧ Upto none' W w')
    (h : Rep none' w x.dat cs) :
    Calls Tryz.prog 204 #[.agg cs.toArray, .pointer (some ⟨K, 0, none⟩)] w fun e w' => e = .returned (.bool (!x.form)) ∧ Upto none' w w' := by
  obtain ⟨f, ts, a, cap, rfl, rfl, hcap, _⟩ := sm_open h
  generalize (Sm.mk f ts).form = b at *
  have hK1 : NamedAt K (w.alloc (.cells #[.string (B f), .slice a ts.length cap] 33)) := ((Upto.refl none' w).alloc _).cell hK (fun x => x)
  have hcall := Tryz.call202
  go_enter Tryz.func204, Tryz.ntmps204
  go_wp2_with fail
  refine (H _ ((Upto.refl none' w).alloc _)).mono ?_
  rintro e w1 ⟨rfl, hU⟩
  go_wp2
  go_ret
  exact ⟨rfl, ((Upto.refl none' w).alloc _).and hU⟩
theorem forms_any (ts : List Sm) : (!ts.any fun x => !x.form) = Sm.forms ts := by rw [Sm.forms_iff, Bool.eq_iff_iff]; simp
set_option maxRecDepth 100000 in
set_option maxHeartbeats 4000000 in
theorem named_any (t : Sm) : t.wt ≤ 1000000 → ∀ (K : Nat) (w : World) (cs : List Value), NamedAt K w → Rep none' w t.dat cs →
    Calls Tryz.prog 202 #[.agg cs.toArray, .pointer (some ⟨K, 0, none⟩)] w fun e w' => e = .returned (.bool t.form) ∧ Upto none' w w' := by
  induction t using Sm.ind with
  | h f ts ih =>
    intro hs K w cs hK h
    obtain ⟨a, cap, rfl, hcap, hE⟩ := rep_sm.1 h
    have hlen := Sm.length_le_sizes ts
    have hsw := Sm.sizes_le_wts ts
    simp only [Sm.wt_mk] at hs
    obtain ⟨r, hr⟩ : ∃ r, r = (Sm.mk f ts).form := ⟨_, rfl⟩
    rw [← hr]
    rw [Sm.form_mk, ← forms_any] at hr
    have HN := fun w => isName_any f w (by omega)
    have hfo : Sm.famOk f = (f == [116, 121, 112, 101] || isName f) := rfl
    have HC := fun W (hU : Upto none' w W) => containsSm_any (ts := ts) 204 K (fun x => !x.form) (by omega) W
      (fun x hx W' cs hW' hR => unnamed_any K x W' cs ((hU.and hW').cell hK (fun x => x)) (fun W2 hW2 => ih x hx (by have := Sm.wt_le_wts hx; omega) K W2 cs (((hU.and hW').and hW2).cell hK (fun x => x)) (hR.on hW2)) hR)
      (enters_of Tryz.func204 (by kernel_rfl) rfl) a cap (hE.on hU)
    generalize (ts.any fun x => !x.form) = c at *
    generalize isName f = nb at *
    obtain ⟨tb, htb⟩ : ∃ tb, tb = (f == [116, 121, 112, 101]) := ⟨_, rfl⟩
    rw [← htb] at hfo
    have HR := hid (And.intro hr hfo)
    have HTB := hid htb
    clear hr hfo htb h ih hlen hsw hs
    obtain ⟨w1, hw1⟩ : ∃ w1, w1 = w.alloc (.cells #[.string (B f), .slice a ts.length cap] 33) := ⟨_, rfl⟩
    have hU1 : Upto none' w w1 := by rw [hw1]; exact (Upto.refl none' w).alloc _
    have hB1 : Box2 w1 w.heap.size (.string (B f)) (.slice a ts.length cap) 33 := by rw [hw1]; exact Box2.at_new rfl
    have HW1 := hid hw1
    clear hw1
    obtain ⟨b0, b1⟩ := hB1.cells
    have hmf : ∀ (fn : Fn) (first cap : Array Value) (w : World), (Instr.makeFunc fn first cap).run Tryz.prog w = .ok (.func fn first cap) w := fun _ _ _ _ => rfl
    cases nb
    · cases tb
      · have hnf : (f == [116, 121, 112, 101]) = false := HTB.out.symm
        go_enter Tryz.func202, Tryz.ntmps202
        go_wp2_with fail
        rw [← HW1.out]
        refine (HN w1).mono ?_
        rintro e w2 ⟨rfl, rfl⟩
        go_wp2_with fail
        go_ret
        exact ⟨ret_bool (by rw [HR.out.1, HR.out.2]; rfl), hU1⟩
      · obtain rfl : f = [116, 121, 112, 101] := by simpa using HTB.out.symm
        go_enter Tryz.func202, Tryz.ntmps202
        go_wp2_with fail
        rw [← HW1.out]
        refine (HN w1).mono ?_
        rintro e w2 ⟨rfl, rfl⟩
        go_wp2_with fail
        refine (HC _ hU1).mono ?_
        rintro e w3 ⟨rfl, hU3⟩
        go_wp2_with fail
        go_ret
        exact ⟨ret_bool (by rw [HR.out.1, HR.out.2]; rfl), hU1.and hU3⟩
    · go_enter Tryz.func202, Tryz.ntmps202
      go_wp2_with fail
      rw [← HW1.out]
      refine (HN w1).mono ?_
      rintro e w2 ⟨rfl, rfl⟩
      go_wp2_with fail
      refine (HC _ hU1).mono ?_
      rintro e w3 ⟨rfl, hU3⟩
      go_wp2_with fail
      go_ret
      exact ⟨ret_bool (by rw [HR.out.1, HR.out.2]; simp), hU1.and hU3⟩
set_option maxRecDepth 100000 in
set_option maxHeartbeats 4000000 in
theorem smWf_any (t : Sm) (hs : t.wt ≤ 1000000) (w : World) (cs : List Value) (h : Rep none' w t.dat cs) :
    Calls Tryz.prog 147 #[.agg cs.toArray] w fun e w' => e = .returned (.int .i64 t.wf) ∧ Upto none' w w' := by
  have hsz := Sm.size_le_wt t
  have hdz := Sm.depth_le_size t
  have HF := fun K w' hK h => named_any t hs K w' cs hK h
  have HZ := fun w' h => smSize_any t (by omega) w' cs h
  have HD := fun w' h => smDepth_any t (by omega) w' cs h
  obtain ⟨f, ts, a, cap, ht, rfl, hcap, hE⟩ := sm_open h
  obtain ⟨r, hr⟩ : ∃ r, r = t.wf := ⟨_, rfl⟩
  rw [← hr]
  unfold Sm.wf at hr
  generalize t.form = fb at *
  generalize t.size = sz at *
  generalize t.depth = dp at *
  have HR := hid hr
  clear hr ht hE
  generalize ts.length = len at *
  obtain ⟨w1, hw1⟩ : ∃ w1, w1 = (w.alloc (.cells #[.string (B f), .slice a len cap] 33)).alloc (.cells #[.func (.func 202) #[] #[.pointer (some ⟨w.heap.size + 1, 0, none⟩)]] 164) := ⟨_, rfl⟩
  have hU1 : Upto none' w w1 := by rw [hw1]; exact ((Upto.refl none' w).alloc _).alloc _
  have hB1 : Box2 w1 w.heap.size (.string (B f)) (.slice a len cap) 33 := by rw [hw1]; exact (Box2.at_new rfl).kept ((Upto.refl none' _).alloc _)
  have hK1 : NamedAt (w.heap.size + 1) w1 := by
    have := heap_alloc_new (w.alloc (.cells #[.string (B f), .slice a len cap] 33)) (.cells #[.func (.func 202) #[] #[.pointer (some ⟨w.heap.size + 1, 0, none⟩)]] 164)
    rw [World.size_alloc] at this
    rw [hw1]
    exact cell_at0 this
  have HW1 := hid hw1
  clear hw1
  have hmf : ∀ (fn : Fn) (first cap : Array Value) (w : World), (Instr.makeFunc fn first cap).run Tryz.prog w = .ok (.func fn first cap) w := fun _ _ _ _ => rfl
  have hcall := Tryz.call202
  cases fb
  · go_enter Tryz.func147, Tryz.ntmps147
    go_wp2_with fail
    rw [← HW1.out]
    refine (HF _ w1 hK1 (h.on hU1)).mono ?_
    rintro e w2 ⟨rfl, hU2⟩
    go_wp2_with fail
    go_ret
    exact ⟨ret_int (by rw [HR.out]; rfl), hU1.and hU2⟩
  · by_cases h1 : 4096 < sz
    · have h1' : (4096 : Int) < (sz : Int) := by omega
      go_enter Tryz.func147, Tryz.ntmps147
      go_wp2_with fail
      rw [← HW1.out]
      refine (HF _ w1 hK1 (h.on hU1)).mono ?_
      rintro e w2 ⟨rfl, hU2⟩
      have hB2 := hB1.kept hU2
      obtain ⟨b0, b1⟩ := hB2.cells
      go_wp2_with fail
      refine (HZ w2 (h.on (hU1.and hU2))).mono ?_
      rintro e w3 ⟨rfl, hU3⟩
      go_wp2_with fail
      go_ret
      exact ⟨ret_int (by rw [HR.out]; simp [h1]), (hU1.and hU2).and hU3⟩
    · have h1' : ¬ (4096 : Int) < (sz : Int) := by omega
      by_cases h2 : 128 < dp
      · have h2' : (128 : Int) < (dp : Int) := by omega
        go_enter Tryz.func147, Tryz.ntmps147
        go_wp2_with fail
        rw [← HW1.out]
        refine (HF _ w1 hK1 (h.on hU1)).mono ?_
        rintro e w2 ⟨rfl, hU2⟩
        have hB2 := hB1.kept hU2
        obtain ⟨b0, b1⟩ := hB2.cells
        go_wp2_with fail
        refine (HZ w2 (h.on (hU1.and hU2))).mono ?_
        rintro e w3 ⟨rfl, hU3⟩
        have hB3 := hB2.kept hU3
        clear b0 b1
        obtain ⟨b0, b1⟩ := hB3.cells
        go_wp2_with fail
        refine (HD w3 (h.on ((hU1.and hU2).and hU3))).mono ?_
        rintro e w4 ⟨rfl, hU4⟩
        go_wp2_with fail
        go_ret
        exact ⟨ret_int (by rw [HR.out]; simp [h2]), ((hU1.and hU2).and hU3).and hU4⟩
      · have h2' : ¬ (128 : Int) < (dp : Int) := by omega
        go_enter Tryz.func147, Tryz.ntmps147
        go_wp2_with fail
        rw [← HW1.out]
        refine (HF _ w1 hK1 (h.on hU1)).mono ?_
        rintro e w2 ⟨rfl, hU2⟩
        have hB2 := hB1.kept hU2
        obtain ⟨b0, b1⟩ := hB2.cells
        go_wp2_with fail
        refine (HZ w2 (h.on (hU1.and hU2))).mono ?_
        rintro e w3 ⟨rfl, hU3⟩
        have hB3 := hB2.kept hU3
        clear b0 b1
        obtain ⟨b0, b1⟩ := hB3.cells
        go_wp2_with fail
        refine (HD w3 (h.on ((hU1.and hU2).and hU3))).mono ?_
        rintro e w4 ⟨rfl, hU4⟩
        go_wp2_with fail
        go_ret
        exact ⟨ret_int (by rw [HR.out]; simp [h1, h2]), ((hU1.and hU2).and hU3).and hU4⟩
end Go.Proofs.YtdomloghcpfdjaaGreatDoor
