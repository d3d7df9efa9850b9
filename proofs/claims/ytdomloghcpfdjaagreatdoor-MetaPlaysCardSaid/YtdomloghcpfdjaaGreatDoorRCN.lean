/- Of which variable a term is the eta-long form: simple.Variable and the reference's. -/
import Derived.Test.YtdomloghcpfdjaaGreatDoorRCA
import Derived.Test.YtdomloghcpfdjaaGreatDoorRCC
import Derived.Test.YtdomloghcpfdjaaGreatDoorRCF
import Derived.Test.YtdomloghcpfdjaaGreatDoorRCH
namespace Go.Proofs.YtdomloghcpfdjaaGreatDoor
open Go.RowKit Go.LF
/-- Four cells that read as a term: the term's own. -/
theorem tm_tie {O : Nat → Prop} {w : World} {t : Tm} {k x : Int} {n : List UInt8} {s : Option Addr} {l c : Nat} (h : Rep O w t.dat [.int .i64 k, .string (B n), .int .i64 x, .slice s l c]) :
    ∃ ts, t = .mk k n x ts ∧ l = ts.length ∧ l ≤ c ∧ RepE O w 4 (ts.map Tm.dat) s 0 := by
  obtain ⟨k', n', i', ts, a', cap', rfl, e, hcap, hE⟩ := tm_open h
  simp only [List.cons.injEq, Value.int.injEq, Value.string.injEq, Value.slice.injEq, and_true, true_and] at e
  obtain ⟨rfl, e2, rfl, rfl, rfl, rfl⟩ := e
  obtain rfl : n = n' := by have := congrArg (fun b => b.data.toList) e2; simpa using this
  exact ⟨ts, rfl, rfl, hcap, hE⟩
end Go.Proofs.YtdomloghcpfdjaaGreatDoor
