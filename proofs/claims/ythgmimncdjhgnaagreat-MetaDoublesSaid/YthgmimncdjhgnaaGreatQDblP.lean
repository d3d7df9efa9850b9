/- MetaDoubles' store, as plain data. No program is in sight here. -/
import Derived.Test.YthgmimncdjhgnaaGreatQFB
namespace Go.LF
open Tm
abbrev zBg:Tm:=mk 4 [110,97,116] 0 []
abbrev bPi:Tm:=mk 2 [] 0 [zBg,zBg]
abbrev zAC:Tm:=mk 2 [] 0 [zBg,bPi]
abbrev bZ:Tm:=mk 4 [122] 0 []
abbrev zCg:Tm:=mk 3 [] 0 [mk 3 [] 0 [bZ]]
def qv(d:Bool)(k i:Nat):Tm:=mk (if d=true then 6 else 4) (if d=true then []else [102]) (if d=true then((k:Int)+1)else 0) [mk 6 [] ((i:Int)+1) [],mk 6 [] ((i:Int)+1) []]
def Gd(d:Bool)(k:Nat)(m:Mv):Prop:=(m.type=zBg\/m.type=zAC)/\(m.value=[]\/m.value=[zCg]\/m.value=[bZ]\/∃ i,i<k/\m.value=[qv d k i])
theorem zFN:∀(d:Bool)(k i:Fin 21),(qv d k i).isObj=true/\(qv d k i).small=true:=by decide+kernel
theorem zEx(d:Bool)(k i:Nat)(h:i<k):xo (fun x _ j z=>(x=6->j<((k+2:Nat):Int))/\z<=200) (qv d k i):=by
  cases d
  ·simp[qv,yQ,yq];omega
  ·simp[qv,yQ,yq];omega
theorem Gd.qR{d:Bool}{k:Nat}(hk:k<=20){m:Mv}(h:Gd d k m):MvG ((k+2:Nat):Int) m:=by
  obtain⟨h1,h2⟩:=h;refine⟨?_,fun v hv=>?_,?_,?_,fun v hv=>?_⟩
  ·rcases h1 with e |e<;>rw[e]<;>decide
  ·rcases h2 with e |e |e |⟨i,hi,e⟩<;>rw[e]at hv
   ·cases hv
   ·rw[List.mem_singleton.1 hv];decide
   ·rw[List.mem_singleton.1 hv];decide
   ·rw[List.mem_singleton.1 hv];exact zFN d ⟨k,by omega⟩ ⟨i,by omega⟩
  ·rcases h2 with e |e |e |⟨i,hi,e⟩<;>rw[e]<;>simp
  ·rcases h1 with e |e<;>rw[e]<;>simp[yQ,yq]
  ·rcases h2 with e |e |e |⟨i,hi,e⟩<;>rw[e]at hv
   ·cases hv
   ·rw[List.mem_singleton.1 hv];simp[yQ,yq]
   ·rw[List.mem_singleton.1 hv];simp[yQ,yq]
   ·rw[List.mem_singleton.1 hv];exact zEx d k i hi
theorem zCB{d:Bool}{k:Nat}(hk:k<=20){l:List Mv}(hl:l.length=k+2)(h:∀ m∈l,Gd d k m):StG l:=⟨by omega,fun m hm=>by rw[hl];exact(h m hm).qR hk⟩
end Go.LF
