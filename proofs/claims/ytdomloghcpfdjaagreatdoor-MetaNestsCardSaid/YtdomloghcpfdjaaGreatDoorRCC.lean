/- Which terms are objects, types and kinds: the program's functions. -/
import Derived.Test.YtdomloghcpfdjaaGreatDoorRCA
import Derived.Test.YtdomloghcpfdjaaGreatDoorRCB
namespace Go.Proofs.YtdomloghcpfdjaaGreatDoor
open Go.RowKit Go.LF
theorem bound_eq (n : List UInt8) (i : Int) (l : List Tm) (k : Nat) : Tm.bound n i l k = (i == 0 && (((l.length : Int) == (k : Int)) && (n == [] || (n == [95] || isName n)))) := by
  unfold Tm.bound
  have : ((l.length : Int) == (k : Int)) = (l.length == k) := by rw [Bool.eq_iff_iff]; simp; omega
  rw [this, Bool.and_assoc, Bool.or_assoc]
set_option maxHeartbeats 1000000 in
theorem bound_any (k i m : Int) (n : List UInt8) (a : Option Addr) (len cap : Nat) (w : World) (hn : n.length ≤ 1000000) (b : Bool)
    (hb : (i == 0 && (((len : Int) == m) && (n == [] || (n == [95] || isName n)))) = b) :
    Calls Tryz.prog 215 #[.agg #[.int .i64 k, .string (B n), .int .i64 i, .slice a len cap], .int .i64 m] w fun e w' =>
      e = .returned (.bool b) ∧ Upto none' w w' := by
  have HB := hid hb
  clear hb
  go_enter Tryz.func215, Tryz.ntmps215
  go_wp2_with (go_at_call 168; refine (isName_any _ _ hn).mono ?_; rintro e w' ⟨rfl, rfl⟩)
  all_goals go_ret
  all_goals refine ⟨ret_bool ?_, (Upto.refl _ _).alloc _⟩
  all_goals (rw [← HB.out, Bool.eq_iff_iff]; simp [*])
section
/-- What is known of object at the arguments of a term. -/
def ObjAt (ts : List Tm) : Prop := ∀ x ∈ ts, ∀ (w : World) (cs : List Value), Rep none' w x.dat cs →
    Calls Tryz.prog 172 #[.agg cs.toArray] w fun e w' => e = .returned (.bool x.isObj) ∧ Upto none' w w'
set_option maxHeartbeats 1000000 in
theorem all1_any {ts : List Tm} (H : ObjAt ts) (x : Tm) (hx : x ∈ ts) (w : World) (cs : List Value) (h : Rep none' w x.dat cs) :
    Calls Tryz.prog 237 #[.agg cs.toArray] w fun e w' => e = .returned (.bool (!x.isObj)) ∧ Upto none' w w' := by
  obtain ⟨k, n, i, l, a, cap, rfl, rfl, hcap, hE⟩ := tm_open h
  have H1 := H _ hx _ _ (h.new (.cells #[.int .i64 k, .string (B n), .int .i64 i, .slice a l.length cap] 29))
  generalize (Tm.mk k n i l).isObj = b at *
  go_enter Tryz.func237, Tryz.ntmps237
  go_wp2_with fail
  refine H1.mono ?_
  rintro e w1 ⟨rfl, hU⟩
  go_wp2
  go_ret
  exact ⟨rfl, hU.behind⟩
/-- An index is handed back: of one that was found, or a negative one. -/
def Found (b : Bool) (e : Ending) : Prop := ∃ m : Int, e = .returned (.int .i64 m) ∧ decide (0 ≤ m) = b
set_option maxHeartbeats 1000000 in
theorem indexFunc_any {ts : List Tm} (g : FuncId) (p : Tm → Bool) (hlen : ts.length ≤ 1000000)
    (H : ∀ x ∈ ts, ∀ (w : World) (cs : List Value), Rep none' w x.dat cs → Calls Tryz.prog g #[.agg cs.toArray] w fun e w' => e = .returned (.bool (p x)) ∧ Upto none' w w')
    (hg : ∀ args w, (callFunc g args).run Tryz.prog w = .ok (.enter g args) w)
    (w : World) (a : Option Addr) (cap : Nat) (hE : RepE none' w 4 (ts.map Tm.dat) a 0) :
    Calls Tryz.prog 148 #[.slice a ts.length cap, .func (.func g) #[] #[]] w fun e w' =>
      Found (ts.any p) e ∧ Upto none' w w' := by
  go_enter Tryz.func148, Tryz.ntmps148
  go_wp2_with fail
  go_loopw [8] (fun v wr => ∃ j : Nat, j ≤ ts.length ∧ v = .int .i64 j ∧ (ts.take j).any p = false ∧ Upto none' w wr)
    (fun v _ => ts.length - (intOf v).toNat)
  case atStart => exact ⟨0, Nat.zero_le _, rfl, rfl, Upto.refl _ _⟩
  case round =>
    obtain ⟨j, hj, rfl, hA, hU⟩ := hrel
    have HA := hid hA
    clear hA
    by_cases hlt : j < ts.length
    · obtain ⟨b, o, k1, n1, x1, s1, c1, rfl, hb, _, hc0, hc1, hc2, hc3, hR⟩ := arg_tm (hE.on hU) j hlt
      have H1 := H _ (List.getElem_mem hlt) _ _ hR
      have hT : (ts.take (j + 1)).any p = ((ts.take j).any p || p ts[j]) := by
        rw [List.take_succ_eq_append_getElem hlt]; simp only [List.any_append, List.any_cons, List.any_nil, Bool.or_false]
      have hM : p ts[j] = true → ts.any p = true := fun h => List.any_eq_true.2 ⟨_, List.getElem_mem hlt, h⟩
      rw [HA.out] at hT
      have HT := hid hT
      have HM := hid hM
      clear hT hM
      generalize p ts[j] = b at *
      cases b
      all_goals
        go_wp2_with fail
        refine H1.mono ?_
        rintro e w1 ⟨rfl, hU1⟩
        go_wp2
      · go_roundw
        case rel => exact ⟨j + 1, by omega, by go_num, by rw [HT.out]; rfl, hU.trans hU1 (fun _ _ x => x)⟩
        case measure => simp [intOf]; omega
      · go_ret
        exact ⟨⟨j, rfl, by rw [HM.out (by trivial)]; simp⟩, hU.trans hU1 (fun _ _ x => x)⟩
    · have hj' : ts.take j = ts := List.take_of_length_le (by omega)
      have HA' := HA.out
      rw [hj'] at HA'
      clear HA hj'
      have HA := hid HA'
      clear HA'
      go_wp2
      go_ret
      exact ⟨⟨-1, rfl, by rw [HA.out]; rfl⟩, hU⟩
set_option maxHeartbeats 1000000 in
theorem containsFunc_any {ts : List Tm} (g : FuncId) (p : Tm → Bool) (hlen : ts.length ≤ 1000000)
    (H : ∀ x ∈ ts, ∀ (w : World) (cs : List Value), Rep none' w x.dat cs → Calls Tryz.prog g #[.agg cs.toArray] w fun e w' => e = .returned (.bool (p x)) ∧ Upto none' w w')
    (hg : ∀ args w, (callFunc g args).run Tryz.prog w = .ok (.enter g args) w)
    (w : World) (a : Option Addr) (cap : Nat) (hE : RepE none' w 4 (ts.map Tm.dat) a 0) :
    Calls Tryz.prog 65 #[.slice a ts.length cap, .func (.func g) #[] #[]] w fun e w' =>
      e = .returned (.bool (ts.any p)) ∧ Upto none' w w' := by
  have H1 := indexFunc_any g p hlen H hg w a cap hE
  clear H
  go_enter Tryz.func65, Tryz.ntmps65
  go_wp2_with fail
  refine H1.mono ?_
  rintro e w1 ⟨⟨m, rfl, hm⟩, hU⟩
  have HM := hid hm
  clear hm H1
  go_wp2
  go_ret
  exact ⟨ret_bool HM.out, hU⟩
set_option maxHeartbeats 1000000 in
theorem all_any {ts : List Tm} (H : ObjAt ts) (hlen : ts.length ≤ 1000000) (k i : Int) (n : List UInt8) (a : Option Addr) (cap : Nat) (w : World) (hE : RepE none' w 4 (ts.map Tm.dat) a 0) (b : Bool) (hb : Tm.allObj ts = b) :
    Calls Tryz.prog 222 #[.agg #[.int .i64 k, .string (B n), .int .i64 i, .slice a ts.length cap]] w fun e w' => e = .returned (.bool b) ∧ Upto none' w w' := by
  have H1 := containsFunc_any 237 (fun x => !x.isObj) hlen (fun x hx w cs h => all1_any H x hx w cs h) (enters_of Tryz.func237 (by kernel_rfl) rfl)
    (w.alloc (.cells #[.int .i64 k, .string (B n), .int .i64 i, .slice a ts.length cap] 29)) a cap (hE.on ((Upto.refl _ w).alloc _))
  have hb2 : (!ts.any fun x => !x.isObj) = b := by rw [← hb, Tm.allObj_iff, Bool.eq_iff_iff]; simp
  have HB := hid hb2
  clear hb hb2
  generalize (ts.any fun x => !x.isObj) = c at *
  go_enter Tryz.func222, Tryz.ntmps222
  go_wp2_with fail
  refine H1.mono ?_
  rintro e w1 ⟨rfl, hU⟩
  go_wp2
  go_ret
  exact ⟨ret_bool HB.out, hU.behind⟩
set_option maxHeartbeats 1000000 in
theorem atom_any {ts : List Tm} (H : ObjAt ts) (hlen : ts.length ≤ 1000000) (k i : Int) (n : List UInt8) (hn : n.length ≤ 1000000) (a : Option Addr) (cap : Nat) (w : World) (hE : RepE none' w 4 (ts.map Tm.dat) a 0) :
    Calls Tryz.prog 214 #[.agg #[.int .i64 k, .string (B n), .int .i64 i, .slice a ts.length cap]] w fun e w' => e = .returned (.bool (Tm.mk k n i ts).isAtom) ∧ Upto none' w w' := by
  have hp : (k == 4 && (isName n && i == 0 && Tm.allObj ts)) = (Tm.mk k n i ts).isAtom := rfl
  generalize (Tm.mk k n i ts).isAtom = r at *
  generalize hA : Tm.allObj ts = al at *
  have H1 := fun k i n W hW => all_any H hlen k i n a cap W hW al hA
  have HP := hid hp
  clear hp hA H
  go_enter Tryz.func214, Tryz.ntmps214
  go_wp2_with (first | (go_at_call 168; refine (isName_any _ _ hn).mono ?_; rintro e w' ⟨rfl, rfl⟩) | (go_at_call 222; refine (H1 _ _ _ _ (hE.on ((Upto.refl _ w).alloc _))).mono ?_; rintro e w1 ⟨rfl, hU⟩))
  all_goals go_ret
  all_goals first | refine ⟨ret_bool ?_, hU.behind⟩ | refine ⟨ret_bool ?_, (Upto.refl _ _).alloc _⟩
  all_goals (clear H1 hE; rw [← HP.out, Bool.eq_iff_iff]; simp [*])
end
end Go.Proofs.YtdomloghcpfdjaaGreatDoor
namespace Go.Proofs.YtdomloghcpfdjaaGreatDoor
open Go.RowKit Go.LF
theorem isObj_3 (k i n ts) (h : (k == 3) = true) : (Tm.mk k n i ts).isObj = (Tm.bound n i ts 1 && Tm.allObj ts) := by
  have : k = 3 := by simpa using h
  rw [Tm.isObj]; simp [this]
theorem isObj_4 (k i n ts) (h : (k == 4) = true) : (Tm.mk k n i ts).isObj = (Tm.mk k n i ts).isAtom := by
  have : k = 4 := by simpa using h
  rw [Tm.isObj, Tm.isAtom]; simp [this]
theorem isObj_5 (k i n ts) (h : (k == 5) = true) : (Tm.mk k n i ts).isObj = (n == [] && decide (0 ≤ i) && decide (i ≤ 1048576) && Tm.allObj ts) := by
  have : k = 5 := by simpa using h
  rw [Tm.isObj]; simp [this]
theorem isObj_6 (k i n ts) (h : (k == 6) = true) : (Tm.mk k n i ts).isObj = (n == [] && decide (0 ≤ i) && decide (i < 2048) && Tm.allObj ts) := by
  have : k = 6 := by simpa using h
  rw [Tm.isObj]; simp [this]
theorem isObj_no (k i n ts) (h3 : (k == 3) = false) (h4 : (k == 4) = false) (h5 : (k == 5) = false) (h6 : (k == 6) = false) : (Tm.mk k n i ts).isObj = false := by
  rw [Tm.isObj]; simp at h3 h4 h5 h6; simp [h3, h4, h5, h6]
theorem kind_ways (k : Int) : (k == 3) = true ∨ ((k == 3) = false ∧ (k == 4) = true) ∨ ((k == 3) = false ∧ (k == 4) = false ∧ (k == 5) = true) ∨
    ((k == 3) = false ∧ (k == 4) = false ∧ (k == 5) = false ∧ (k == 6) = true) ∨ ((k == 3) = false ∧ (k == 4) = false ∧ (k == 5) = false ∧ (k == 6) = false) := by
  cases (k == 3) <;> cases (k == 4) <;> cases (k == 5) <;> cases (k == 6) <;> simp
set_option maxHeartbeats 2000000 in
theorem object_any (t : Tm) : t.wt ≤ 1000000 → ∀ (w : World) (cs : List Value), Rep none' w t.dat cs →
    Calls Tryz.prog 172 #[.agg cs.toArray] w fun e w' => e = .returned (.bool t.isObj) ∧ Upto none' w w' := by
  induction t using Tm.ind with
  | h k n i ts ih =>
    intro hs w cs h
    obtain ⟨a, cap, rfl, hcap, hE⟩ := rep_tm.1 h
    simp only [Tm.wt_mk] at hs
    have hlen : ts.length ≤ 1000000 := by have := Tm.length_le_sizes ts; have := Tm.sizes_le_wts ts; omega
    have hn : n.length ≤ 1000000 := by omega
    have H : ObjAt ts := fun x hx w cs h => ih x hx (by have := Tm.wt_le_wts hx; omega) w cs h
    clear ih h
    rcases kind_ways k with h3 | ⟨h3, h4⟩ | ⟨h3, h4, h5⟩ | ⟨h3, h4, h5, h6⟩ | ⟨h3, h4, h5, h6⟩
    · rw [isObj_3 k i n ts h3]
      by_cases hb : Tm.bound n i ts 1 = true
      · have hb1 : ts.length = 1 := by unfold Tm.bound at hb; simp at hb; exact hb.1.2
        have hbb := bound_eq n i ts 1
        rw [hb] at hbb
        obtain ⟨x, rfl⟩ : ∃ x, ts = [x] := List.length_eq_one_iff.1 hb1
        have hlt : (0 : Nat) < ([x] : List Tm).length := by simp
        obtain ⟨b, o, k1, n1, x1, s1, c1, rfl, hbs, _, hc0, hc1, hc2, hc3, hR⟩ := arg_tm hE 0 hlt
        simp only [Nat.zero_mul, Nat.add_zero, List.getElem_cons_zero] at hc0 hc1 hc2 hc3 hR
        simp only [List.length_cons, List.length_nil, Nat.zero_add] at *
        have HB := fun k i W h => bound_any k i 1 n (some ⟨b, o, none⟩) 1 cap W hn true h
        have Hx := H x (by simp)
        have hO : (true && Tm.allObj [x]) = x.isObj := by simp [Tm.allObj]
        rw [hb, hO]
        have HBB := hid hbb.symm
        clear hbb hb hb1 hO H
        go_enter Tryz.func172, Tryz.ntmps172
        go_wp2_with fail
        refine (HB _ _ _ HBB.out).mono ?_
        rintro e w1 ⟨rfl, hU⟩
        obtain ⟨b0, b1, b2, b3⟩ := (hU.cel (O := none') (fun _ x => x)).box4 (fun x => x)
        have hw1 : Upto none' w w1 := hU.behind
        have d0 := hw1.cell hc0 (fun x => x)
        have d1 := hw1.cell hc1 (fun x => x)
        have d2 := hw1.cell hc2 (fun x => x)
        have d3 := hw1.cell hc3 (fun x => x)
        clear hc0 hc1 hc2 hc3
        go_wp2_with fail
        refine (Hx _ _ (hR.on hw1)).mono ?_
        rintro e w2 ⟨rfl, hU2⟩
        go_wp2
        go_ret
        exact ⟨rfl, hw1.trans hU2 (fun _ _ x => x)⟩
      · have hbb := bound_eq n i ts 1
        have hbf : Tm.bound n i ts 1 = false := by simpa using hb
        rw [hbf] at hbb
        have HB := fun k i W h => bound_any k i 1 n a ts.length cap W hn false h
        have HBB := hid hbb.symm
        rw [hbf, Bool.false_and]
        clear hbb hb hbf H
        go_enter Tryz.func172, Tryz.ntmps172
        go_wp2_with fail
        refine (HB _ _ _ HBB.out).mono ?_
        rintro e w1 ⟨rfl, hU⟩
        go_wp2
        go_ret
        exact ⟨rfl, hU.behind⟩
    · rw [isObj_4 k i n ts h4]
      have HA := atom_any H hlen k i n hn a cap (w.alloc (.cells #[.int .i64 k, .string (B n), .int .i64 i, .slice a ts.length cap] 29)) (hE.on ((Upto.refl _ w).alloc _))
      generalize (Tm.mk k n i ts).isAtom = r at *
      clear H
      go_enter Tryz.func172, Tryz.ntmps172
      go_wp2_with fail
      refine HA.mono ?_
      rintro e w1 ⟨rfl, hU⟩
      go_wp2
      go_ret
      exact ⟨rfl, hU.behind⟩
    · have hp := isObj_5 k i n ts h5
      generalize (Tm.mk k n i ts).isObj = r at *
      generalize hA : Tm.allObj ts = al at *
      have H1 := fun k i n W hW => all_any H hlen k i n a cap W hW al hA
      have HP := hid hp
      clear hp hA H
      go_enter Tryz.func172, Tryz.ntmps172
      go_wp2_with (go_at_call 222; refine (H1 _ _ _ _ (hE.on ((Upto.refl _ w).alloc _))).mono ?_; rintro e w1 ⟨rfl, hU⟩)
      all_goals go_ret
      all_goals first | refine ⟨ret_bool ?_, hU.behind⟩ | refine ⟨ret_bool ?_, (Upto.refl _ _).alloc _⟩
      all_goals (clear H1 hE; rw [HP.out, Bool.eq_iff_iff]; simp [*] <;> (intros; omega))
    · have hp := isObj_6 k i n ts h6
      generalize (Tm.mk k n i ts).isObj = r at *
      generalize hA : Tm.allObj ts = al at *
      have H1 := fun k i n W hW => all_any H hlen k i n a cap W hW al hA
      have HP := hid hp
      clear hp hA H
      go_enter Tryz.func172, Tryz.ntmps172
      go_wp2_with (go_at_call 222; refine (H1 _ _ _ _ (hE.on ((Upto.refl _ w).alloc _))).mono ?_; rintro e w1 ⟨rfl, hU⟩)
      all_goals go_ret
      all_goals first | refine ⟨ret_bool ?_, hU.behind⟩ | refine ⟨ret_bool ?_, (Upto.refl _ _).alloc _⟩
      all_goals (clear H1 hE; rw [HP.out, Bool.eq_iff_iff]; simp [*] <;> (intros; omega))
    · have hp := isObj_no k i n ts h3 h4 h5 h6
      rw [hp]
      clear hp H
      go_enter Tryz.func172, Tryz.ntmps172
      go_wp2_with fail
      go_ret
      exact ⟨rfl, (Upto.refl _ _).alloc _⟩
theorem objAt {ts : List Tm} (h : Tm.wts ts ≤ 1000000) : ObjAt ts := fun x hx w cs hr => object_any x (by have := Tm.wt_le_wts hx; omega) w cs hr
theorem isTyp_eq (k i n ts) : (Tm.mk k n i ts).isTyp = ((Tm.mk k n i ts).isAtom || (k == 2 && (Tm.bound n i ts 2 && Tm.allTyp ts))) := by rw [Tm.isTyp]
set_option maxHeartbeats 2000000 in
theorem typed_any (t : Tm) : t.wt ≤ 1000000 → ∀ (w : World) (cs : List Value), Rep none' w t.dat cs →
    Calls Tryz.prog 163 #[.agg cs.toArray] w fun e w' => e = .returned (.bool t.isTyp) ∧ Upto none' w w' := by
  induction t using Tm.ind with
  | h k n i ts ih =>
    intro hs w cs h
    obtain ⟨a, cap, rfl, hcap, hE⟩ := rep_tm.1 h
    simp only [Tm.wt_mk] at hs
    have hlen : ts.length ≤ 1000000 := by have := Tm.length_le_sizes ts; have := Tm.sizes_le_wts ts; omega
    have hn : n.length ≤ 1000000 := by omega
    have H : ∀ x ∈ ts, ∀ (w : World) (cs : List Value), Rep none' w x.dat cs → Calls Tryz.prog 163 #[.agg cs.toArray] w fun e w' => e = .returned (.bool x.isTyp) ∧ Upto none' w w' :=
      fun x hx w cs h => ih x hx (by have := Tm.wt_le_wts hx; omega) w cs h
    clear ih h
    have HA := atom_any (objAt (ts := ts) (by omega)) hlen k i n hn a cap (w.alloc (.cells #[.int .i64 k, .string (B n), .int .i64 i, .slice a ts.length cap] 29)) (hE.on ((Upto.refl _ w).alloc _))
    have hp := isTyp_eq k i n ts
    generalize (Tm.mk k n i ts).isTyp = r at *
    generalize (Tm.mk k n i ts).isAtom = at' at *
    cases at'
    case true =>
      have HR := hid hp
      clear hp H
      go_enter Tryz.func163, Tryz.ntmps163
      go_wp2_with fail
      refine HA.mono ?_
      rintro e w1 ⟨rfl, hU⟩
      obtain ⟨b0, b1, b2, b3⟩ := (hU.cel (O := none') (fun _ x => x)).box4 (fun x => x)
      go_wp2_with fail
      go_ret
      exact ⟨ret_bool (by rw [HR.out]; rfl), hU.behind⟩
    rw [Bool.false_or] at hp
    cases h2 : (k == 2)
    · rw [h2, Bool.false_and] at hp
      have HR := hid hp
      clear hp H
      go_enter Tryz.func163, Tryz.ntmps163
      go_wp2_with fail
      refine HA.mono ?_
      rintro e w1 ⟨rfl, hU⟩
      obtain ⟨b0, b1, b2, b3⟩ := (hU.cel (O := none') (fun _ x => x)).box4 (fun x => x)
      go_wp2_with fail
      go_ret
      exact ⟨ret_bool (by rw [HR.out]), hU.behind⟩
    rw [h2, Bool.true_and] at hp
    have hbb := bound_eq n i ts 2
    cases hb : Tm.bound n i ts 2
    · rw [hb] at hbb
      rw [hb, Bool.false_and] at hp
      have HB := fun k i W h => bound_any k i 2 n a ts.length cap W hn false h
      have HBB := hid hbb.symm
      have HR := hid hp
      clear hbb hb hp H
      go_enter Tryz.func163, Tryz.ntmps163
      go_wp2_with fail
      refine HA.mono ?_
      rintro e w1 ⟨rfl, hU⟩
      obtain ⟨b0, b1, b2, b3⟩ := (hU.cel (O := none') (fun _ x => x)).box4 (fun x => x)
      go_wp2_with fail
      refine (HB _ _ _ HBB.out).mono ?_
      rintro e w2 ⟨rfl, hU2⟩
      go_wp2_with fail
      go_ret
      exact ⟨ret_bool (by rw [HR.out]), hU.behind.trans hU2 (fun _ _ x => x)⟩
    rw [hb] at hbb
    rw [hb, Bool.true_and] at hp
    have hb1 : ts.length = 2 := by unfold Tm.bound at hb; simp at hb; exact hb.1.2
    obtain ⟨x, y, rfl⟩ : ∃ x y, ts = [x, y] := by match ts, hb1 with | [x, y], _ => exact ⟨x, y, rfl⟩
    have hl0 : (0 : Nat) < ([x, y] : List Tm).length := by simp
    have hl1 : (1 : Nat) < ([x, y] : List Tm).length := by simp
    obtain ⟨b, o, k1, n1, x1, s1, c1, rfl, hbs, _, p0, p1, p2, p3, hR⟩ := arg_tm hE 0 hl0
    obtain ⟨b', o', k2, n2, x2, s2, c2, e', hbs', _, q0, q1, q2, q3, hR2⟩ := arg_tm hE 1 hl1
    simp only [Option.some.injEq, Addr.mk.injEq] at e'
    obtain ⟨rfl, rfl, _⟩ := e'
    simp only [Nat.zero_mul, Nat.add_zero, Nat.one_mul, List.getElem_cons_zero, List.getElem_cons_succ] at p0 p1 p2 p3 q0 q1 q2 q3 hR hR2
    simp only [List.length_cons, List.length_nil, Nat.zero_add] at *
    have HB := fun k i W h => bound_any k i 2 n (some ⟨b, o, none⟩) 2 cap W hn true h
    have Hx := H x (by simp)
    have Hy := H y (by simp)
    have hO : Tm.allTyp [x, y] = (x.isTyp && y.isTyp) := by simp [Tm.allTyp]
    rw [hO] at hp
    have HBB := hid hbb.symm
    have HR := hid hp
    clear hbb hb hb1 hO hp H
    generalize x.isTyp = bx at *
    generalize y.isTyp = by' at *
    cases bx
    all_goals
      go_enter Tryz.func163, Tryz.ntmps163
      go_wp2_with fail
      refine HA.mono ?_
      rintro e w1 ⟨rfl, hU⟩
      obtain ⟨b0, b1, b2, b3⟩ := (hU.cel (O := none') (fun _ x => x)).box4 (fun x => x)
      have hw1 : Upto none' w w1 := hU.behind
      go_wp2_with fail
      refine (HB _ _ _ HBB.out).mono ?_
      rintro e w2 ⟨rfl, hU2⟩
      have hw2 := hw1.trans hU2 (fun _ _ x => x)
      have e0 := hU2.cell b0 (fun x => x)
      have e1 := hU2.cell b1 (fun x => x)
      have e2 := hU2.cell b2 (fun x => x)
      have e3 := hU2.cell b3 (fun x => x)
      have f0 := hw2.cell p0 (fun x => x)
      have f1 := hw2.cell p1 (fun x => x)
      have f2 := hw2.cell p2 (fun x => x)
      have f3 := hw2.cell p3 (fun x => x)
      clear b0 b1 b2 b3 p0 p1 p2 p3
      go_wp2_with fail
      refine (Hx _ _ (hR.on hw2)).mono ?_
      rintro e w3 ⟨rfl, hU3⟩
      have hw3 := hw2.trans hU3 (fun _ _ x => x)
    · go_wp2_with fail
      go_ret
      exact ⟨ret_bool (by rw [HR.out]; rfl), hw3⟩
    · have g0 := hU3.cell e0 (fun x => x)
      have g1 := hU3.cell e1 (fun x => x)
      have g2 := hU3.cell e2 (fun x => x)
      have g3 := hU3.cell e3 (fun x => x)
      have r0 := hw3.cell q0 (fun x => x)
      have r1 := hw3.cell q1 (fun x => x)
      have r2 := hw3.cell q2 (fun x => x)
      have r3 := hw3.cell q3 (fun x => x)
      clear e0 e1 e2 e3 q0 q1 q2 q3
      go_wp2_with fail
      refine (Hy _ _ (hR2.on hw3)).mono ?_
      rintro e w4 ⟨rfl, hU4⟩
      go_wp2_with fail
      go_ret
      exact ⟨ret_bool (by rw [HR.out]; rfl), hw3.trans hU4 (fun _ _ x => x)⟩
end Go.Proofs.YtdomloghcpfdjaaGreatDoor
namespace Go.Proofs.YtdomloghcpfdjaaGreatDoor
open Go.RowKit Go.LF
theorem isKnd_1 (k i n ts) (h : (k == 1) = true) : (Tm.mk k n i ts).isKnd = (n == [] && (i == 0 && ts.isEmpty)) := by
  have : k = 1 := by simpa using h
  subst this
  unfold Tm.isKnd
  split <;> simp_all
  rename_i h2; obtain ⟨rfl, rfl, rfl, rfl⟩ := h2; simp
theorem isKnd_no1 (k i n ts) (h : (k == 1) = false) (hb : (k == 2 && Tm.bound n i ts 2) = false) : (Tm.mk k n i ts).isKnd = false := by
  match ts, hb with
  | [a, b], hb => unfold Tm.isKnd; rw [Bool.and_eq_false_iff] at hb; rcases hb with hb | hb <;> simp [hb]
  | [], _ => unfold Tm.isKnd; simp [h]
  | [_], _ => unfold Tm.isKnd; simp [h]
  | _ :: _ :: _ :: _, _ => unfold Tm.isKnd; simp [h]
theorem isKnd_2 (k i n x y) (hb : (k == 2 && Tm.bound n i [x, y] 2) = true) : (Tm.mk k n i [x, y]).isKnd = (x.isTyp && y.isKnd) := by
  rw [Bool.and_eq_true] at hb
  rw [Tm.isKnd, hb.1, hb.2]; simp
set_option maxHeartbeats 2000000 in
theorem kind_any (t : Tm) : t.wt ≤ 1000000 → ∀ (w : World) (cs : List Value), Rep none' w t.dat cs →
    Calls Tryz.prog 165 #[.agg cs.toArray] w fun e w' => e = .returned (.bool t.isKnd) ∧ Upto none' w w' := by
  induction t using Tm.ind with
  | h k n i ts ih =>
    intro hs w cs h
    obtain ⟨a, cap, rfl, hcap, hE⟩ := rep_tm.1 h
    simp only [Tm.wt_mk] at hs
    have hlen : ts.length ≤ 1000000 := by have := Tm.length_le_sizes ts; have := Tm.sizes_le_wts ts; omega
    have hn : n.length ≤ 1000000 := by omega
    have H : ∀ x ∈ ts, ∀ (w : World) (cs : List Value), Rep none' w x.dat cs → Calls Tryz.prog 165 #[.agg cs.toArray] w fun e w' => e = .returned (.bool x.isKnd) ∧ Upto none' w w' :=
      fun x hx w cs h => ih x hx (by have := Tm.wt_le_wts hx; omega) w cs h
    have HT : ∀ x ∈ ts, ∀ (w : World) (cs : List Value), Rep none' w x.dat cs → Calls Tryz.prog 163 #[.agg cs.toArray] w fun e w' => e = .returned (.bool x.isTyp) ∧ Upto none' w w' :=
      fun x hx w cs h => typed_any x (by have := Tm.wt_le_wts hx; omega) w cs h
    clear ih h
    cases h1 : (k == 1)
    case true =>
      have hp := isKnd_1 k i n ts h1
      generalize (Tm.mk k n i ts).isKnd = r at *
      have hz : ((ts.length : Int) == 0) = ts.isEmpty := by cases ts <;> simp; omega
      have HP := hid hp
      have HZ := hid hz
      clear hp hz H HT
      go_enter Tryz.func165, Tryz.ntmps165
      go_wp2
      all_goals go_ret
      all_goals refine ⟨ret_bool ?_, (Upto.refl _ _).alloc _⟩
      all_goals (clear hE; rw [HP.out, Bool.eq_iff_iff]; simp [*])
    cases h2 : (k == 2)
    · rw [isKnd_no1 k i n ts h1 (by rw [h2]; rfl)]
      clear H HT
      go_enter Tryz.func165, Tryz.ntmps165
      go_wp2
      go_ret
      exact ⟨rfl, (Upto.refl _ _).alloc _⟩
    have hbb := bound_eq n i ts 2
    cases hb : Tm.bound n i ts 2
    · rw [hb] at hbb
      rw [isKnd_no1 k i n ts h1 (by rw [h2, hb]; rfl)]
      have HB := fun k i W h => bound_any k i 2 n a ts.length cap W hn false h
      have HBB := hid hbb.symm
      clear hbb hb H HT
      go_enter Tryz.func165, Tryz.ntmps165
      go_wp2_with fail
      refine (HB _ _ _ HBB.out).mono ?_
      rintro e w2 ⟨rfl, hU2⟩
      go_wp2_with fail
      go_ret
      exact ⟨rfl, hU2.behind⟩
    rw [hb] at hbb
    have hb1 : ts.length = 2 := by unfold Tm.bound at hb; simp at hb; exact hb.1.2
    obtain ⟨x, y, rfl⟩ : ∃ x y, ts = [x, y] := by match ts, hb1 with | [x, y], _ => exact ⟨x, y, rfl⟩
    have hp := isKnd_2 k i n x y (by rw [h2, hb]; rfl)
    have hl0 : (0 : Nat) < ([x, y] : List Tm).length := by simp
    have hl1 : (1 : Nat) < ([x, y] : List Tm).length := by simp
    obtain ⟨b, o, k1, n1, x1, s1, c1, rfl, hbs, _, p0, p1, p2, p3, hR⟩ := arg_tm hE 0 hl0
    obtain ⟨b', o', k2, n2, x2, s2, c2, e', hbs', _, q0, q1, q2, q3, hR2⟩ := arg_tm hE 1 hl1
    simp only [Option.some.injEq, Addr.mk.injEq] at e'
    obtain ⟨rfl, rfl, _⟩ := e'
    simp only [Nat.zero_mul, Nat.add_zero, Nat.one_mul, List.getElem_cons_zero, List.getElem_cons_succ] at p0 p1 p2 p3 q0 q1 q2 q3 hR hR2
    simp only [List.length_cons, List.length_nil, Nat.zero_add] at *
    have HB := fun k i W h => bound_any k i 2 n (some ⟨b, o, none⟩) 2 cap W hn true h
    have Hx := HT x (by simp)
    have Hy := H y (by simp)
    generalize (Tm.mk k n i [x, y]).isKnd = r at *
    have HBB := hid hbb.symm
    have HR := hid hp
    clear hbb hb hb1 hp H HT
    generalize x.isTyp = bx at *
    generalize y.isKnd = by' at *
    cases bx
    all_goals
      go_enter Tryz.func165, Tryz.ntmps165
      go_wp2_with fail
      refine (HB _ _ _ HBB.out).mono ?_
      rintro e w2 ⟨rfl, hU2⟩
      obtain ⟨e0, e1, e2, e3⟩ := (hU2.cel (O := none') (fun _ x => x)).box4 (fun x => x)
      have hw2 : Upto none' w w2 := hU2.behind
      have f0 := hw2.cell p0 (fun x => x)
      have f1 := hw2.cell p1 (fun x => x)
      have f2 := hw2.cell p2 (fun x => x)
      have f3 := hw2.cell p3 (fun x => x)
      clear p0 p1 p2 p3
      go_wp2_with fail
      refine (Hx _ _ (hR.on hw2)).mono ?_
      rintro e w3 ⟨rfl, hU3⟩
      have hw3 := hw2.trans hU3 (fun _ _ x => x)
    · go_wp2_with fail
      go_ret
      exact ⟨ret_bool (by rw [HR.out]; rfl), hw3⟩
    · have g0 := hU3.cell e0 (fun x => x)
      have g1 := hU3.cell e1 (fun x => x)
      have g2 := hU3.cell e2 (fun x => x)
      have g3 := hU3.cell e3 (fun x => x)
      have r0 := hw3.cell q0 (fun x => x)
      have r1 := hw3.cell q1 (fun x => x)
      have r2 := hw3.cell q2 (fun x => x)
      have r3 := hw3.cell q3 (fun x => x)
      clear e0 e1 e2 e3 q0 q1 q2 q3
      go_wp2_with fail
      refine (Hy _ _ (hR2.on hw3)).mono ?_
      rintro e w4 ⟨rfl, hU4⟩
      go_wp2_with fail
      go_ret
      exact ⟨ret_bool (by rw [HR.out]; rfl), hw3.trans hU4 (fun _ _ x => x)⟩
set_option maxHeartbeats 1000000 in
theorem small_any (t : Tm) (hs : t.wt ≤ 1000000) (w : World) (cs : List Value) (h : Rep none' w t.dat cs) :
    Calls Tryz.prog 164 #[.agg cs.toArray] w fun e w' => e = .returned (.bool t.small) ∧ Upto none' w w' := by
  have hs' : t.size ≤ 1000000 := by have := Tm.size_le_wt t; omega
  have hp : (decide (t.size ≤ 4096) && decide (t.depth ≤ 128)) = t.small := rfl
  have HS := fun w cs h => size_any t hs' w cs h
  have HD := fun w cs h => depth_any t hs' w cs h
  obtain ⟨k, n, i, ts, a, cap, ht, rfl, hcap, hE⟩ := tm_open h
  generalize t.size = sz at *
  generalize t.depth = dp at *
  generalize t.small = sm at *
  have HT := hid ht
  have HP := hid hp
  clear ht hp hcap
  generalize ts.length = len at *
  go_enter Tryz.func164, Tryz.ntmps164
  go_wp2_with fail
  refine (HS _ _ (h.new _)).mono ?_
  rintro e w1 ⟨rfl, hU⟩
  obtain ⟨b0, b1, b2, b3⟩ := (hU.cel (O := none') (fun _ x => x)).box4 (fun x => x)
  have hw1 : Upto none' w w1 := hU.behind
  by_cases hsz : sz ≤ 4096
  · go_wp2_with fail
    refine (HD _ _ (h.on hw1)).mono ?_
    rintro e w2 ⟨rfl, hU2⟩
    go_wp2
    go_ret
    exact ⟨ret_bool (by rw [← HP.out, Bool.eq_iff_iff]; simp; omega), hw1.trans hU2 (fun _ _ x => x)⟩
  · go_wp2_with fail
    go_ret
    exact ⟨ret_bool (by rw [← HP.out, Bool.eq_iff_iff]; simp; omega), hw1⟩
end Go.Proofs.YtdomloghcpfdjaaGreatDoor
namespace Go.Proofs.YtdomloghcpfdjaaGreatDoor
open Go.RowKit Go.LF
set_option maxHeartbeats 1000000 in
theorem isKind_any (t : Tm) (hs : t.wt ≤ 1000000) (w : World) (cs : List Value) (h : Rep none' w t.dat cs) :
    Calls Tryz.prog 82 #[.agg cs.toArray] w fun e w' => e = .returned (.bool (t.isKnd && t.small)) ∧ Upto none' w w' := by
  have HK := fun w cs h => kind_any t hs w cs h
  have HS := fun w cs h => small_any t hs w cs h
  obtain ⟨k, n, i, ts, a, cap, ht, rfl, hcap, hE⟩ := tm_open h
  generalize t.isKnd = bk at *
  generalize t.small = sm at *
  have HT := hid ht
  clear ht hcap
  generalize ts.length = len at *
  go_enter Tryz.func82, Tryz.ntmps82
  go_wp2_with fail
  refine (HK _ _ (h.new _)).mono ?_
  rintro e w1 ⟨rfl, hU⟩
  obtain ⟨b0, b1, b2, b3⟩ := box_new hU
  have hw1 : Upto none' w w1 := hU.behind
  cases bk
  · go_wp2_with fail
    go_ret
    exact ⟨rfl, hw1⟩
  · go_wp2_with fail
    refine (HS _ _ (h.on hw1)).mono ?_
    rintro e w2 ⟨rfl, hU2⟩
    go_wp2
    go_ret
    exact ⟨rfl, hw1.and hU2⟩
set_option maxHeartbeats 1000000 in
theorem isType_any (t : Tm) (hs : t.wt ≤ 1000000) (w : World) (cs : List Value) (h : Rep none' w t.dat cs) :
    Calls Tryz.prog 81 #[.agg cs.toArray] w fun e w' => e = .returned (.bool (t.isTyp && t.small)) ∧ Upto none' w w' := by
  have HK := fun w cs h => typed_any t hs w cs h
  have HS := fun w cs h => small_any t hs w cs h
  obtain ⟨k, n, i, ts, a, cap, ht, rfl, hcap, hE⟩ := tm_open h
  generalize t.isTyp = bk at *
  generalize t.small = sm at *
  have HT := hid ht
  clear ht hcap
  generalize ts.length = len at *
  go_enter Tryz.func81, Tryz.ntmps81
  go_wp2_with fail
  refine (HK _ _ (h.new _)).mono ?_
  rintro e w1 ⟨rfl, hU⟩
  obtain ⟨b0, b1, b2, b3⟩ := box_new hU
  have hw1 : Upto none' w w1 := hU.behind
  cases bk
  · go_wp2_with fail
    go_ret
    exact ⟨rfl, hw1⟩
  · go_wp2_with fail
    refine (HS _ _ (h.on hw1)).mono ?_
    rintro e w2 ⟨rfl, hU2⟩
    go_wp2
    go_ret
    exact ⟨rfl, hw1.and hU2⟩
set_option maxHeartbeats 1000000 in
theorem isObject_any (t : Tm) (hs : t.wt ≤ 1000000) (w : World) (cs : List Value) (h : Rep none' w t.dat cs) :
    Calls Tryz.prog 118 #[.agg cs.toArray] w fun e w' => e = .returned (.bool (t.isObj && t.small)) ∧ Upto none' w w' := by
  have HK := fun w cs h => object_any t hs w cs h
  have HS := fun w cs h => small_any t hs w cs h
  obtain ⟨k, n, i, ts, a, cap, ht, rfl, hcap, hE⟩ := tm_open h
  generalize t.isObj = bk at *
  generalize t.small = sm at *
  have HT := hid ht
  clear ht hcap
  generalize ts.length = len at *
  go_enter Tryz.func118, Tryz.ntmps118
  go_wp2_with fail
  refine (HK _ _ (h.new _)).mono ?_
  rintro e w1 ⟨rfl, hU⟩
  obtain ⟨b0, b1, b2, b3⟩ := box_new hU
  have hw1 : Upto none' w w1 := hU.behind
  cases bk
  · go_wp2_with fail
    go_ret
    exact ⟨rfl, hw1⟩
  · go_wp2_with fail
    refine (HS _ _ (h.on hw1)).mono ?_
    rintro e w2 ⟨rfl, hU2⟩
    go_wp2
    go_ret
    exact ⟨rfl, hw1.and hU2⟩
set_option maxHeartbeats 1000000 in
theorem wellFormed_any (t : Tm) (hs : t.wt ≤ 1000000) (w : World) (cs : List Value) (h : Rep none' w t.dat cs) :
    Calls Tryz.prog 96 #[.agg cs.toArray] w fun e w' => e = .returned (.int .i64 t.wf) ∧ Upto none' w w' := by
  have HO := fun w cs h => object_any t hs w cs h
  have HY := fun w cs h => typed_any t hs w cs h
  have HK := fun w cs h => kind_any t hs w cs h
  have HS := fun w cs h => small_any t hs w cs h
  have hp : (if !t.isObj && !t.isTyp && !t.isKnd then 1 else if !t.small then 2 else 0) = t.wf := rfl
  obtain ⟨k, n, i, ts, a, cap, ht, rfl, hcap, hE⟩ := tm_open h
  generalize t.isObj = bo at *
  generalize t.isTyp = bt at *
  generalize t.isKnd = bk at *
  generalize t.small = sm at *
  generalize t.wf = r at *
  have HT := hid ht
  have HP := hid hp
  clear ht hcap hp
  generalize ts.length = len at *
  have fin : ∀ w1, Upto none' w w1 → w1.cell? ⟨w.heap.size, 0, none⟩ = some (.int .i64 k) ∧ w1.cell? ⟨w.heap.size, 1, none⟩ = some (.string (B n)) ∧ w1.cell? ⟨w.heap.size, 2, none⟩ = some (.int .i64 i) ∧ w1.cell? ⟨w.heap.size, 3, none⟩ = some (.slice a len cap) →
      Calls Tryz.prog 164 #[.agg #[.int .i64 k, .string (B n), .int .i64 i, .slice a len cap]] w1 fun e w' => e = .returned (.bool sm) ∧ Upto none' w w' :=
    fun w1 hU _ => (HS _ _ (h.on hU)).mono fun _ _ ⟨he, hU2⟩ => ⟨he, hU.and hU2⟩
  have FIN := hid fin
  clear fin
  cases bo
  · cases bt
    · cases bk
      all_goals
        go_enter Tryz.func96, Tryz.ntmps96
        go_wp2_with fail
        refine (HO _ _ (h.new _)).mono ?_
        rintro e w1 ⟨rfl, hU⟩
        have B1 := box_new hU
        obtain ⟨b0, b1, b2, b3⟩ := B1
        have hw1 : Upto none' w w1 := hU.behind
        go_wp2_with fail
        refine (HY _ _ (h.on hw1)).mono ?_
        rintro e w2 ⟨rfl, hU2⟩
        have B2 := box_on hU2 ⟨b0, b1, b2, b3⟩
        obtain ⟨c0, c1, c2, c3⟩ := B2
        have hw2 := hw1.and hU2
        go_wp2_with fail
        refine (HK _ _ (h.on hw2)).mono ?_
        rintro e w3 ⟨rfl, hU3⟩
        have B3 := box_on hU3 ⟨c0, c1, c2, c3⟩
        obtain ⟨d0, d1, d2, d3⟩ := B3
        have hw3 := hw2.and hU3
        go_wp2_with fail
      · go_ret
        exact ⟨ret_int (by rw [← HP.out]; rfl), hw3⟩
      · refine (FIN.out _ hw3 ⟨d0, d1, d2, d3⟩).mono ?_
        rintro e w4 ⟨rfl, hU4⟩
        cases sm
        all_goals
          go_wp2
          go_ret
          exact ⟨ret_int (by rw [← HP.out]; rfl), hU4⟩
    · go_enter Tryz.func96, Tryz.ntmps96
      go_wp2_with fail
      refine (HO _ _ (h.new _)).mono ?_
      rintro e w1 ⟨rfl, hU⟩
      have B1 := box_new hU
      obtain ⟨b0, b1, b2, b3⟩ := B1
      have hw1 : Upto none' w w1 := hU.behind
      go_wp2_with fail
      refine (HY _ _ (h.on hw1)).mono ?_
      rintro e w2 ⟨rfl, hU2⟩
      have B2 := box_on hU2 ⟨b0, b1, b2, b3⟩
      obtain ⟨c0, c1, c2, c3⟩ := B2
      have hw2 := hw1.and hU2
      go_wp2_with fail
      refine (FIN.out _ hw2 ⟨c0, c1, c2, c3⟩).mono ?_
      rintro e w4 ⟨rfl, hU4⟩
      cases sm
      all_goals
        go_wp2
        go_ret
        exact ⟨ret_int (by rw [← HP.out]; cases bk <;> rfl), hU4⟩
  · go_enter Tryz.func96, Tryz.ntmps96
    go_wp2_with fail
    refine (HO _ _ (h.new _)).mono ?_
    rintro e w1 ⟨rfl, hU⟩
    have B1 := box_new hU
    obtain ⟨b0, b1, b2, b3⟩ := B1
    have hw1 : Upto none' w w1 := hU.behind
    go_wp2_with fail
    refine (FIN.out _ hw1 ⟨b0, b1, b2, b3⟩).mono ?_
    rintro e w4 ⟨rfl, hU4⟩
    cases sm
    all_goals
      go_wp2
      go_ret
      exact ⟨ret_int (by rw [← HP.out]; cases bt <;> cases bk <;> rfl), hU4⟩
end Go.Proofs.YtdomloghcpfdjaaGreatDoor
