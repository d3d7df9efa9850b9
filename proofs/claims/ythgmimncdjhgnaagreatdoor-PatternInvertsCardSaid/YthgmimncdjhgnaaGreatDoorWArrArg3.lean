/- An argument that is an array of three numbers. -/
import Derived.Test.YthgmimncdjhgnaaGreatDoorWDF
set_option maxRecDepth 100000
namespace Go.Proofs.YthgmimncdjhgnaaGreatDoor
open Go.ChangeShapes Go.WideShapes Go.ChangeAt Go.RowKit Go.LF
theorem zBy{H:Type}{enc:TypeId×Value->H}{W:World}{v:Value}{d:DataW H}{p:List MemPlace}{b0:Nat}(hval:Value.okWide Tryz.prog W .any b0 42 v)(hd:DataW.Trod enc Tryz.prog W 0 (fun _=>true) true 42 v d p):
    ∃ x0 x1 x2:Int,v=.agg #[.int .i64 x0,.int .i64 x1,.int .i64 x2]:=by
  obtain⟨xs,h1,h2⟩:=zDi (n:=3) Tryz.underlying42 (by kernel_rfl) hval hd;match xs,h1 with
  | [x0,x1,x2],_=>exact⟨x0,x1,x2,h2⟩
end Go.Proofs.YthgmimncdjhgnaaGreatDoor
