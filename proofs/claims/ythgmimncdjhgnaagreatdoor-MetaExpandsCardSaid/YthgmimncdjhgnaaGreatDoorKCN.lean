/- Of which variable a term is the eta-long form: simple.Variable and the reference's. -/
import Derived.Test.YthgmimncdjhgnaaGreatDoorKCA
import Derived.Test.YthgmimncdjhgnaaGreatDoorKCC
import Derived.Test.YthgmimncdjhgnaaGreatDoorKCF
import Derived.Test.YthgmimncdjhgnaaGreatDoorKCH
namespace Go.Proofs.YthgmimncdjhgnaaGreatDoor
open Go.RowKit Go.LF
theorem QW{O:Nat->Prop}{w:World}{t:Tm}{k x:Int}{n:List UInt8}{s:Option Addr}{l c:Nat}(h:zM O w t.zN [.int .i64 k,.string (B n),.int .i64 x,.slice s l c]):
    ∃ ts,t=.mk k n x ts/\l=ts.length/\l<=c/\zG O w 4 (ts.map Tm.zN) s 0:=by
  obtain⟨k',n',i',ts,a',cap',rfl,e,hcap,hE⟩:=zX h
  simp only[List.cons.injEq,Value.int.injEq,Value.string.injEq,Value.slice.injEq,and_true,true_and]at e
  obtain⟨rfl,e2,rfl,rfl,rfl,rfl⟩:=e
  obtain rfl:n=n':=by have:=congrArg (fun b=>b.data.toList) e2;simpa using this
  exact⟨ts,rfl,rfl,hcap,hE⟩
end Go.Proofs.YthgmimncdjhgnaaGreatDoor
