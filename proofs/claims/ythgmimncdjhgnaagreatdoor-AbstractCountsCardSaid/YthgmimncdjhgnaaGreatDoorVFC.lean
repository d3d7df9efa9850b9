/- meta.reaches. -/
import Derived.Test.YthgmimncdjhgnaaGreatDoorVFA
import Derived.Test.YthgmimncdjhgnaaGreatDoorVFB
import Derived.Test.YthgmimncdjhgnaaGreatDoorVSC
namespace Go.Proofs.YthgmimncdjhgnaaGreatDoor
open Go.RowKit Go.LF
structure StR(l:List Mv):Prop where
  ok:zET l
  val:∀ m∈l,m.value.length<=100
  nx:∀ m∈l,(Zy m).length<=300000
  few:l.length<=250
theorem StR.rng{l:List Mv}(_:StR l):∀ m∈l,∀ x∈Zy m,0<=x/\x<=100000:=by
  intro m _ x hx;have key:∀ t:Tm,x∈Tm.zM t->0<=x/\x<=100000:=fun t h=>by have:=Zg x h;omega
  rcases List.mem_append.1 hx with h |h
  ·exact key _ h
  ·obtain⟨v,_,h⟩:=List.mem_flatMap.1 h;exact key _ h
end Go.Proofs.YthgmimncdjhgnaaGreatDoor
namespace Go.LF
open Tm Go.Proofs.YthgmimncdjhgnaaGreatDoor
theorem QI(t:Tm):(Tm.zM t).length<=t.size:=by
  unfold Tm.zM;split
  ·have:=Yq t [];simp at this;show(Tm.yN [] t).length<=_;omega
  ·simp
theorem ZZ.zKz{l:List Mv}(h:ZZ l):zET l:=by
  refine⟨by have:=h.len;omega,fun m hm=>⟨?_,by have:=(h.val m hm).1;omega,fun v hv=>?_⟩⟩
  ·have:=Tm.ZN (h.Yf m hm);omega
  ·have:=Tm.ZN (h.zGq m hm v hv);omega
theorem ZZ.stR{l:List Mv}(h:ZZ l):StR l:=by
  refine⟨h.zKz,fun m hm=>by have:=(h.val m hm).1;omega,fun m hm=>?_,by have:=h.len;omega⟩;obtain⟨h1,h2⟩:=h.ar m hm;have h3:=(h.val m hm).1;unfold Zy;rw[List.length_append];have h4:=QI m.type
  have h5:(m.value.flatMap Tm.zM).length<=200:=by
    match hv:m.value,h3 with
    | [],_=>simp
    | [v],_=>
      have h6:=QI v;have h7:=h2 v (by rw[hv];simp);simp only[List.flatMap_cons,List.flatMap_nil,List.append_nil];omega
  omega
end Go.LF
