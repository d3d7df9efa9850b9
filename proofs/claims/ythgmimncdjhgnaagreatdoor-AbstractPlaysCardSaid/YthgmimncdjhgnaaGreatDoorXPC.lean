/- Bo.args. -/
import Derived.Test.YthgmimncdjhgnaaGreatDoorXCL
namespace Go.Proofs.YthgmimncdjhgnaaGreatDoor
open Go.RowKit Go.LF
theorem JH{base T:Nat}{w wr w6 w7:World}{v:Value}{us:List Tm}{css:List (List Value)}{u:Tm}{k1 i1:Int}{n1:List UInt8}{a1:Option Addr}{bH bG g aS:Nat}
    (eB:dG base wr v us css) (X3:T<base) (Ax:base<=wr.heap.size) (hU:af (cv T) w wr) (bj:af (cv T) wr w6) (vD:w.heap.size=base) (hT:bL w6 T) (hK:aW T w6)
    (dg:aw (fun x=>x<wr.heap.size) w6 u.az [.int .i64 k1,.string (B n1),.int .i64 i1,.slice a1 bH bG])
    (bq:w7.ownsRow base 29 4 (.slice (some ⟨g,0,none⟩) (us.length+1) aS) (us.length+1) (css.flatten++[.int .i64 k1,.string (B n1),.int .i64 i1,.slice a1 bH bG])) (aN:(w6.alloc (.cells #[.int .i64 k1,.string (B n1),.int .i64 i1,.slice a1 bH bG] 29)).grownBy w7 v.ownBlock)
    (ft:v.ownBlock=some g\/g=(w6.alloc (.cells #[.int .i64 k1,.string (B n1),.int .i64 i1,.slice a1 bH bG] 29)).heap.size):
    dG base w7 (.slice (some ⟨g,0,none⟩) (us.length+1) aS) (us++[u]) (css++[[.int .i64 k1,.string (B n1),.int .i64 i1,.slice a1 bH bG]])/\bL w7 T/\aW T w7/\af (cv T) w w7:=by
  have cK:af ae w6 (w6.alloc (.cells #[.int .i64 k1,.string (B n1),.int .i64 i1,.slice a1 bH bG] 29)):=(af.refl ae w6).alloc _;have iT:=(eB.ag bj (fun b e=>by simp only[cv]at e;omega)).on cK
  have tF:aw (fun b=>b<base\/v.ownBlock=some b) (w6.alloc (.cells #[.int .i64 k1,.string (B n1),.int .i64 i1,.slice a1 bH bG] 29)) u.az [.int .i64 k1,.string (B n1),.int .i64 i1,.slice a1 bH bG]:=by
    refine(aw.weaken (fun b _ e=>?_) _ _ dg).new _;rcases e with e |e
    ·omega
    exact(eB.2.2.1.lt b e).2
  have lL:=iT.appended rfl tF bq aN ft (Nat.le_refl _);have eK:=af.ofRow (cB.grown iT.2.2.1 aN);have jI:=hU.size;exact⟨lL,(hT.on cK).kW eK (fun b e=>by omega),(hK.on cK).kW eK (fun b e=>by omega),((hU.trans bj (fun _ _ e=>e)).trans cK (fun _ _ e=>e.elim)).trans eK (fun b hb e=>by omega)⟩
end Go.Proofs.YthgmimncdjhgnaaGreatDoor
