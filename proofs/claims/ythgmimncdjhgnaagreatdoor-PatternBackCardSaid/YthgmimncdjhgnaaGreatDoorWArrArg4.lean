/- An argument that is an array of four numbers. -/
import Derived.Test.YthgmimncdjhgnaaGreatDoorWDF
set_option maxRecDepth 100000
namespace Go.Proofs.YthgmimncdjhgnaaGreatDoor
open Go.ChangeShapes Go.WideShapes Go.ChangeAt Go.RowKit Go.LF
theorem zFJ{H:Type}{enc:TypeId×Value->H}{W:World}{v:Value}{d:DataW H}{p:List MemPlace}{b0:Nat}(hval:Value.okWide Tryz.prog W .any b0 54 v)(hd:DataW.Trod enc Tryz.prog W 0 (fun _=>true) true 54 v d p):
    ∃ x0 x1 x2 x3:Int,v=.agg #[.int .i64 x0,.int .i64 x1,.int .i64 x2,.int .i64 x3]:=by
  obtain⟨xs,h1,h2⟩:=zDi (n:=4) Tryz.underlying54 (by kernel_rfl) hval hd;match xs,h1 with
  | [x0,x1,x2,x3],_=>exact⟨x0,x1,x2,x3,h2⟩
end Go.Proofs.YthgmimncdjhgnaaGreatDoor
