/- The reference's sorts of terms. -/
import Derived.Test.YtdcbgkmhlpkjiaaDoorRefA
import Derived.Test.YtdcbgkmhlpkjiaaDoorNamesR
namespace Go.Proofs.YtdcbgkmhlpkjiaaDoor
open Go.RowKit Go.LF

/-- The sum of the sorts of a term. -/
def sorts (t : Tm) : Int := (if t.isObj then 1 else 0) + (if t.isTyp then 2 else 0) + (if t.isKnd then 4 else 0)

set_option maxHeartbeats 4000000 in
theorem sorts1_any (k i : Int) (n : List UInt8) (ts : List Tm) (h1 : (k == 1) = true) (r : Int) (hr : (if n == [] && (i == 0 && ts.isEmpty) then 4 else 0) = r) (w : World) (a : Option Addr) (cap : Nat) :
    Calls Tryd.prog 78 #[.agg #[.int .i64 k, .string (B n), .int .i64 i, .slice a ts.length cap]] w fun e w' => e = .returned (.int .i64 r) ∧ Upto none' w w' := by
  have HR := hid hr
  clear hr
  obtain rfl : k = 1 := by simpa using h1
  clear h1
  go_enter Tryd.func78, Tryd.ntmps78
  go_wp2_with fail
  all_goals go_ret
  all_goals refine ⟨ret_int ?_, (Upto.refl _ _).alloc _⟩
  all_goals (rw [← HR.out]; cases ts <;> simp_all <;> omega)

set_option maxRecDepth 100000 in
set_option maxHeartbeats 4000000 in
theorem sorts2_no (k i : Int) (n : List UInt8) (hn : n.length ≤ 1000000) (ts : List Tm) (h1 : (k == 2) = true) (hb : Tm.bound n i ts 2 = false) (w : World) (a : Option Addr) (cap : Nat) :
    Calls Tryd.prog 78 #[.agg #[.int .i64 k, .string (B n), .int .i64 i, .slice a ts.length cap]] w fun e w' => e = .returned (.int .i64 0) ∧ Upto none' w w' := by
  have HB := hid hb
  clear hb
  obtain rfl : k = 2 := by simpa using h1
  clear h1
  go_enter Tryd.func78, Tryd.ntmps78
  go_wp2_with (first | (go_at_call 113; refine (refIsName_any _ _ hn).mono ?_; rintro e w' ⟨rfl, rfl⟩) | fail)
  all_goals try (go_ret; exact ⟨rfl, (Upto.refl _ _).alloc _⟩)
  all_goals (exfalso; have hb := HB.out; simp_all [Tm.bound]; try omega)

set_option maxRecDepth 100000 in
set_option maxHeartbeats 4000000 in
theorem sorts3_no (k i : Int) (n : List UInt8) (hn : n.length ≤ 1000000) (ts : List Tm) (h1 : (k == 3) = true) (hb : Tm.bound n i ts 1 = false) (w : World) (a : Option Addr) (cap : Nat) :
    Calls Tryd.prog 78 #[.agg #[.int .i64 k, .string (B n), .int .i64 i, .slice a ts.length cap]] w fun e w' => e = .returned (.int .i64 0) ∧ Upto none' w w' := by
  have HB := hid hb
  clear hb
  obtain rfl : k = 3 := by simpa using h1
  clear h1
  go_enter Tryd.func78, Tryd.ntmps78
  go_wp2_with (first | (go_at_call 113; refine (refIsName_any _ _ hn).mono ?_; rintro e w' ⟨rfl, rfl⟩) | fail)
  all_goals try (go_ret; exact ⟨rfl, (Upto.refl _ _).alloc _⟩)
  all_goals (exfalso; have hb := HB.out; simp_all [Tm.bound]; try omega)

theorem bits_sorts (t : Tm) (m : Int) (hm : m = 1 ∨ m = 2 ∨ m = 4 ∨ m = 6) :
    bits .and .i64 (sorts t) m = (if t.isObj then bits .and .i64 1 m else 0) + (if t.isTyp then bits .and .i64 2 m else 0) + (if t.isKnd then bits .and .i64 4 m else 0) := by
  unfold sorts
  rcases hm with rfl | rfl | rfl | rfl <;> cases t.isObj <;> cases t.isTyp <;> cases t.isKnd <;> decide
theorem bits_obj (t : Tm) : bits .and .i64 (sorts t) 1 = if t.isObj then 1 else 0 := by
  rw [bits_sorts t 1 (by simp)]; cases t.isObj <;> cases t.isTyp <;> cases t.isKnd <;> decide
theorem bits_typ (t : Tm) : bits .and .i64 (sorts t) 2 = if t.isTyp then 2 else 0 := by
  rw [bits_sorts t 2 (by simp)]; cases t.isObj <;> cases t.isTyp <;> cases t.isKnd <;> decide
theorem bits_knd (t : Tm) : bits .and .i64 (sorts t) 4 = if t.isKnd then 4 else 0 := by
  rw [bits_sorts t 4 (by simp)]; cases t.isObj <;> cases t.isTyp <;> cases t.isKnd <;> decide
theorem bits_tk (t : Tm) : bits .and .i64 (sorts t) 6 = (if t.isTyp then 2 else 0) + (if t.isKnd then 4 else 0) := by
  rw [bits_sorts t 6 (by simp)]; cases t.isObj <;> cases t.isTyp <;> cases t.isKnd <;> decide

/-- What is known of sorts at the arguments of a term. -/
def SortsAt (ts : List Tm) : Prop := ∀ x ∈ ts, ∀ (w : World) (cs : List Value), Rep none' w x.dat cs →
    Calls Tryd.prog 78 #[.agg cs.toArray] w fun e w' => e = .returned (.int .i64 (sorts x)) ∧ Upto none' w w'
end Go.Proofs.YtdcbgkmhlpkjiaaDoor
