/- A row of metavariables of one's own is appended to; what it holds lies in blocks that were there. -/
import Derived.Test.YthgmimncdjhgnaaGreatDoorWCL
import Derived.Test.YthgmimncdjhgnaaGreatDoorWFA
import Derived.Deep.RegionHeld3
import Derived.Maps.AppendAt
namespace Go.Proofs.YthgmimncdjhgnaaGreatDoor
open Go.RowKit Go.LF
def zAn(O:Nat->Prop)(base:Nat)(W:World)(v:Value)(ms:List Mv)(css:List (List Value)):Prop:=
  css.length=ms.length/\(∀ cs∈css,cs.length=6)/\W.ownsRow base 96 6 v ms.length css.flatten/\∀ i(h:i<ms.length)(h':i<css.length),zK (fun b=>O b\/base<=b) W ms[i].zM css[i]
section
variable {O:Nat->Prop}{base:Nat}{W W':World}{v:Value}{ms:List Mv}{css:List (List Value)}
theorem zAn.nil(O:Nat->Prop)(base:Nat)(W:World):zAn O base W (.slice none 0 0) [] []:=⟨rfl,by simp,World.ownsRow_nil _ _ _ _,fun i h=>by simp at h⟩
theorem zAn.on(h:zAn O base W v ms css)(hU:zD zC W W'):zAn O base W' v ms css:=by
  obtain⟨h1,h2,h3,h4⟩:=h;refine⟨h1,h2,⟨h3.1,?_⟩,fun i h h'=>(h4 i h h').on hU⟩;rcases h3.2 with h5 |⟨g,cap,cur,rfl,hb,hg,rest⟩
  ·exact .inl h5
  ·exact .inr ⟨g,cap,cur,rfl,hb,(hU.block g (Array.getElem?_eq_some_iff.1 hg).1 (fun x=>x)).trans hg,rest⟩
theorem zAn.zEC(h:zAn O base W v ms css):yb 96 6 (fun b=>base<=b) base W v (ms.map Mv.zM) css:=by
  obtain⟨h1,h2,h3,h4⟩:=h;refine⟨by simp[h1],h2,by simpa using h3,fun i hi hi'=>?_⟩;simp only[List.getElem_map];exact zK.weaken (fun b _ e=>.inr (e.elim id (fun e=>(h3.lt b e).1))) _ _ (h4 i (by simpa using hi) hi')
theorem zAn.row(h:zAn O base W v ms css):∃ a cap,v=.slice a ms.length cap/\ms.length<=cap/\zH zC W 6 (ms.map Mv.zM) a 0:=by
  obtain⟨a,cap,hv,hcap,hc⟩:=h.zEC.cells;rw[List.length_map]at hv hcap;refine⟨a,cap,hv,hcap,zp _ _ _ (fun i hi=>?_)⟩;have hi2:i<css.length:=by have:=h.1;rw[List.length_map]at hi;omega
  obtain⟨g,rfl,hown,hb,hlt,_,hg⟩:=hc i hi hi2;refine⟨g,0,css[i],rfl,hlt,fun x=>x,h.2.1 _ (List.getElem_mem hi2),fun m u hu=>?_,?_⟩
  ·rw[show 0+0+i * 6+m=i * 6+m by omega];exact hg m u hu
  ·simp only[List.getElem_map];exact zK.weaken (fun _ _ x=>x.elim) _ _ (h.2.2.2 i (by simpa using hi) hi2)
end
theorem zF1{O:Nat->Prop}{base:Nat}{w:World}{g:Nat}{u:Mv}{c0 c1 c2 c3 c4 c5:Value}{T:TypeId}(hB:zf w g c0 c1 c2 c3 c4 c5 T)(hR:zK (fun b=>O b\/base<=b) w u.zM [c0,c1,c2,c3,c4,c5]):
    zH zC w 6 ([u].map Mv.zM) (some ⟨g,0,none⟩) 0/\∀ i(h:i<[u].length)cs,zK zC w [u][i].zM cs->(∀ m v,cs[m]? =some v->∃ b o,(some ⟨g,0,none⟩:Option Addr)=some ⟨b,o,none⟩/\w.cell? ⟨b,o+(i * 6+m),none⟩=some v)->zK (fun b=>O b\/base<=b) w [u][i].zM cs:=by
  obtain⟨x0,x1,x2,x3,x4,x5⟩:=hB.cells;refine⟨zp _ _ _ (fun j hj=>?_),fun i hi cs h1 h2=>?_⟩
  ·obtain rfl:j=0:=by simpa using hj
   refine⟨g,0,[c0,c1,c2,c3,c4,c5],rfl,hB.lt,fun x=>x,rfl,fun q v hv=>?_,by simpa using zK.weaken (fun _ _ x=>x.elim) _ _ hR⟩;match q,hv with
   |0,hv=>cases hv;exact x0
   |1,hv=>cases hv;exact x1
   |2,hv=>cases hv;exact x2
   |3,hv=>cases hv;exact x3
   |4,hv=>cases hv;exact x4
   |5,hv=>cases hv;exact x5
   |q+6,hv=>simp at hv
  ·obtain rfl:i=0:=by simpa using hi
   obtain⟨k',n',ix',a',cap',va',vc',e2,_⟩:=Zb h1
   have key:∀ m v c,cs[m]? =some v->w.cell? ⟨g,m,none⟩=some c->v=c:=by
     intro m v c hv hc;obtain⟨b,o,e,h3⟩:=h2 m v hv;cases e
     rw[show 0+(0 * 6+m)=m by omega,hc]at h3;exact(Option.some.inj h3).symm
   have e:cs=[c0,c1,c2,c3,c4,c5]:=by
     rw[e2]at key ⊢;rw[key 0 _ _ rfl x0,key 1 _ _ rfl x1,key 2 _ _ rfl x2,key 3 _ _ rfl x3,key 4 _ _ rfl x4,key 5 _ _ rfl x5]
   rw[e];exact hR
end Go.Proofs.YthgmimncdjhgnaaGreatDoor
