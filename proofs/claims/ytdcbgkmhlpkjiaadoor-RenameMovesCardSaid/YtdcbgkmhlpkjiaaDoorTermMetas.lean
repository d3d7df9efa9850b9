/- Metas and Consts. -/
import Derived.Test.YtdcbgkmhlpkjiaaDoorFirstInt
import Derived.Test.YtdcbgkmhlpkjiaaDoorFirstStr
namespace Go.Proofs.YtdcbgkmhlpkjiaaDoor
open Go.RowKit Go.LF

/-- A list of numbers that is a new row from base on (nil: none). -/
def Ints (base : Nat) (W : World) (v : Value) (l : List Int) : Prop := W.ownsRow base 3 1 v l.length (l.map (Value.int .i64))
/-- A list of names that is a new row from base on (nil: none). -/
def Strs (base : Nat) (W : World) (v : Value) (l : List (List UInt8)) : Prop := W.ownsRow base 9 1 v l.length (l.map fun l => Value.string (B l))

def Tm.metas (t : Tm) : List Int := if t.wf == 0 then t.addMetas0 else []
def Tm.consts (t : Tm) : List (List UInt8) := if t.wf == 0 then t.addConsts0 else []

set_option maxHeartbeats 1000000 in
theorem metas_any (t : Tm) (hwt : t.wt ≤ 1000000) (w : World) (cs : List Value) (h : Rep none' w t.dat cs) :
    Calls Tryd.prog 36 #[.agg cs.toArray] w fun e w' => ∃ v, e = .returned v ∧ Ints w.heap.size w' v (Tm.metas t) ∧ Upto none' w w' := by
  have HF := fun w cs h => callsIn_wide.1 (firstInt_in t hwt w cs h)
  obtain ⟨k, n, i, ts, a, cap, ht, rfl, hcap, hE⟩ := tm_open h
  have HT := hid ht
  clear ht hcap
  generalize ts.length = len at *
  go_enter Tryd.func36, Tryd.ntmps36
  go_wp2_with fail
  refine (HF _ _ (h.new _)).mono ?_
  rintro e w1 ⟨v, rfl, hr, hU⟩
  go_wp2
  go_ret
  exact ⟨v, rfl, hr.mono (by simp), hU.behind'⟩
set_option maxHeartbeats 1000000 in
theorem consts_any (t : Tm) (hwt : t.wt ≤ 1000000) (w : World) (cs : List Value) (h : Rep none' w t.dat cs) :
    Calls Tryd.prog 39 #[.agg cs.toArray] w fun e w' => ∃ v, e = .returned v ∧ Strs w.heap.size w' v (Tm.consts t) ∧ Upto none' w w' := by
  have HF := fun w cs h => callsIn_wide.1 (firstStr_in t hwt w cs h)
  obtain ⟨k, n, i, ts, a, cap, ht, rfl, hcap, hE⟩ := tm_open h
  have HT := hid ht
  clear ht hcap
  generalize ts.length = len at *
  go_enter Tryd.func39, Tryd.ntmps39
  go_wp2_with fail
  refine (HF _ _ (h.new _)).mono ?_
  rintro e w1 ⟨v, rfl, hr, hU⟩
  go_wp2
  go_ret
  exact ⟨v, rfl, hr.mono (by simp), hU.behind'⟩
end Go.Proofs.YtdcbgkmhlpkjiaaDoor
