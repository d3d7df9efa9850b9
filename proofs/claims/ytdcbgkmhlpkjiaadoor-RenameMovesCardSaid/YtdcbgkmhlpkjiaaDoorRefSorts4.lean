/- The reference's sorts of terms: the rest; WellFormed, IsKind, IsType, IsObject. -/
import Derived.Test.YtdcbgkmhlpkjiaaDoorRefSorts3
namespace Go.Proofs.YtdcbgkmhlpkjiaaDoor
open Go.RowKit Go.LF

set_option maxRecDepth 100000 in
set_option maxHeartbeats 4000000 in
theorem sorts4_no (k i : Int) (n : List UInt8) (hn : n.length ≤ 1000000) (ts : List Tm) (h1 : (k == 4) = true) (hb : (isName n && i == 0) = false) (w : World) (a : Option Addr) (cap : Nat) :
    Calls Tryd.prog 78 #[.agg #[.int .i64 k, .string (B n), .int .i64 i, .slice a ts.length cap]] w fun e w' => e = .returned (.int .i64 0) ∧ Upto none' w w' := by
  obtain rfl : k = 4 := by simpa using h1
  clear h1
  by_cases hn1 : isName n = true
  · have hi : ¬ i = 0 := by simpa [hn1] using hb
    clear hb
    go_enter Tryd.func78, Tryd.ntmps78
    go_wp2_with (first | (go_at_call 113; refine (refIsName_any _ _ hn).mono ?_; rintro e w' ⟨rfl, rfl⟩) | fail)
    go_ret
    exact ⟨rfl, (Upto.refl _ _).alloc _⟩
  · clear hb
    have hn1 : isName n = false := by simpa using hn1
    go_enter Tryd.func78, Tryd.ntmps78
    go_wp2_with (first | (go_at_call 113; refine (refIsName_any _ _ hn).mono ?_; rintro e w' ⟨rfl, rfl⟩) | fail)
    all_goals go_ret
    all_goals exact ⟨rfl, (Upto.refl _ _).alloc _⟩

set_option maxRecDepth 100000 in
set_option maxHeartbeats 4000000 in
theorem sorts5_no (k i : Int) (n : List UInt8) (ts : List Tm) (h1 : (k == 5) = true) (hb : (n == [] && decide (0 ≤ i) && decide (i ≤ 1048576)) = false) (w : World) (a : Option Addr) (cap : Nat) :
    Calls Tryd.prog 78 #[.agg #[.int .i64 k, .string (B n), .int .i64 i, .slice a ts.length cap]] w fun e w' => e = .returned (.int .i64 0) ∧ Upto none' w w' := by
  obtain rfl : k = 5 := by simpa using h1
  clear h1
  by_cases hn1 : n = []
  · subst hn1
    by_cases h0 : 0 ≤ i
    · have h2 : ¬ i ≤ 1048576 := by simpa [h0] using hb
      clear hb
      go_enter Tryd.func78, Tryd.ntmps78
      go_wp2_with fail
      go_ret
      exact ⟨rfl, (Upto.refl _ _).alloc _⟩
    · clear hb
      go_enter Tryd.func78, Tryd.ntmps78
      go_wp2_with fail
      go_ret
      exact ⟨rfl, (Upto.refl _ _).alloc _⟩
  · clear hb
    go_enter Tryd.func78, Tryd.ntmps78
    go_wp2_with fail
    all_goals go_ret
    all_goals exact ⟨rfl, (Upto.refl _ _).alloc _⟩

set_option maxRecDepth 100000 in
set_option maxHeartbeats 4000000 in
theorem sorts6_no (k i : Int) (n : List UInt8) (ts : List Tm) (h1 : (k == 6) = true) (hb : (n == [] && decide (0 ≤ i) && decide (i < 2048)) = false) (w : World) (a : Option Addr) (cap : Nat) :
    Calls Tryd.prog 78 #[.agg #[.int .i64 k, .string (B n), .int .i64 i, .slice a ts.length cap]] w fun e w' => e = .returned (.int .i64 0) ∧ Upto none' w w' := by
  obtain rfl : k = 6 := by simpa using h1
  clear h1
  by_cases hn1 : n = []
  · subst hn1
    by_cases h0 : 0 ≤ i
    · have h2 : ¬ i < 2048 := by simpa [h0] using hb
      clear hb
      go_enter Tryd.func78, Tryd.ntmps78
      go_wp2_with fail
      go_ret
      exact ⟨rfl, (Upto.refl _ _).alloc _⟩
    · clear hb
      go_enter Tryd.func78, Tryd.ntmps78
      go_wp2_with fail
      go_ret
      exact ⟨rfl, (Upto.refl _ _).alloc _⟩
  · clear hb
    go_enter Tryd.func78, Tryd.ntmps78
    go_wp2_with fail
    all_goals go_ret
    all_goals exact ⟨rfl, (Upto.refl _ _).alloc _⟩

set_option maxRecDepth 100000 in
set_option maxHeartbeats 4000000 in
theorem sorts_none (k i : Int) (n : List UInt8) (ts : List Tm) (h1 : (k == 1) = false) (h2 : (k == 2) = false) (h3 : (k == 3) = false) (h4 : (k == 4) = false) (h5 : (k == 5) = false) (h6 : (k == 6) = false) (w : World) (a : Option Addr) (cap : Nat) :
    Calls Tryd.prog 78 #[.agg #[.int .i64 k, .string (B n), .int .i64 i, .slice a ts.length cap]] w fun e w' => e = .returned (.int .i64 0) ∧ Upto none' w w' := by
  go_enter Tryd.func78, Tryd.ntmps78
  go_wp2_with fail
  all_goals go_ret
  all_goals exact ⟨rfl, (Upto.refl _ _).alloc _⟩
end Go.Proofs.YtdcbgkmhlpkjiaaDoor
