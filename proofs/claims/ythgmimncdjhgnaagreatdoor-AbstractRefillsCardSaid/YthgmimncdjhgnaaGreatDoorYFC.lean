/- meta.reaches. -/
import Derived.Test.YthgmimncdjhgnaaGreatDoorYFA
import Derived.Test.YthgmimncdjhgnaaGreatDoorYFB
import Derived.Test.YthgmimncdjhgnaaGreatDoorYSC
namespace Go.Proofs.YthgmimncdjhgnaaGreatDoor
open Go.RowKit Go.LF
structure StR(l:List Mv):Prop where
  ok:qL l
  val:∀ m∈l,m.value.length<=100
  nx:∀ m∈l,(Zg m).length<=300000
  few:l.length<=250
theorem StR.rng{l:List Mv}(_:StR l):∀ m∈l,∀ x∈Zg m,0<=x/\x<=100000:=by
  intro m _ x hx
  have key:∀ t:Tm,x∈Tm.zL t->0<=x/\x<=100000:=fun t h=>by have:=YB x h;omega
  rcases List.mem_append.1 hx with h |h
  ·exact key _ h
  ·obtain⟨v,_,h⟩:=List.mem_flatMap.1 h
   exact key _ h
end Go.Proofs.YthgmimncdjhgnaaGreatDoor
namespace Go.LF
open Tm Go.Proofs.YthgmimncdjhgnaaGreatDoor
theorem qO(t:Tm):(Tm.zL t).length<=t.size:=by
  unfold Tm.zL
  split
  ·have:=YW t []
   simp at this
   show(Tm.yB [] t).length<=_
   omega
  ·simp
theorem ZP.zIB{l:List Mv}(h:ZP l):qL l:=by
  refine⟨by have:=h.len;omega,fun m hm=>⟨?_,by have:=(h.val m hm).1;omega,fun v hv=>?_⟩⟩
  ·have:=Tm.Zw (h.YJ m hm);omega
  ·have:=Tm.Zw (h.zGA m hm v hv);omega
theorem ZP.stR{l:List Mv}(h:ZP l):StR l:=by
  refine⟨h.zIB,fun m hm=>by have:=(h.val m hm).1;omega,fun m hm=>?_,by have:=h.len;omega⟩
  obtain⟨h1,h2⟩:=h.ar m hm
  have h3:=(h.val m hm).1
  unfold Zg
  rw[List.length_append]
  have h4:=qO m.type
  have h5:(m.value.flatMap Tm.zL).length<=200:=by
    match hv:m.value,h3 with
    | [],_=>simp
    | [v],_=>
      have h6:=qO v
      have h7:=h2 v (by rw[hv];simp)
      simp only[List.flatMap_cons,List.flatMap_nil,List.append_nil]
      omega
  omega
end Go.LF
