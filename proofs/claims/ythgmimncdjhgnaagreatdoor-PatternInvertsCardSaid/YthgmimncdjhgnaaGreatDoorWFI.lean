/- meta.open. -/
import Derived.Test.YthgmimncdjhgnaaGreatDoorWCK
import Derived.Test.YthgmimncdjhgnaaGreatDoorWFA
import Derived.Test.YthgmimncdjhgnaaGreatDoorWFH
namespace Go.Proofs.YthgmimncdjhgnaaGreatDoor
open Go.RowKit Go.LF
inductive XI(W:World):Nat->Nat->Tm->List Value->Prop
  |node {lo hi:Nat} (k:Int) (n:List UInt8) (i:Int) (ts:List Tm) (a:Option Addr) (cap:Nat) (m:Nat->Nat) (css:Nat->List Value) (hcap:ts.length<=cap) (h0:lo<=m 0) (hm:∀ j,j<ts.length->m j<=m (j+1)) (hh:m ts.length<=hi)
     (hc:∀ j,j<ts.length->∃ g,a=some ⟨g,0,none⟩/\lo<=g/\g<m 0/\(∀ o,W.frozen? ⟨g,o,none⟩=false)/\(css j).length=4/\∀ x v,(css j)[x]? =some v->W.cell? ⟨g,j * 4+x,none⟩=some v)
     (hs:∀ j(h:j<ts.length),XI W (m j) (m (j+1)) ts[j] (css j)):XI W lo hi (.mk k n i ts) [.int .i64 k,.string (B n),.int .i64 i,.slice a ts.length cap]
theorem xV{m:Nat->Nat}{n:Nat}(hm:∀ j,j<n->m j<=m (j+1)):∀ j,j<=n->m 0<=m j
  |0,_=>Nat.le_refl _
  |j+1,h=>Nat.le_trans (xV hm j (by omega)) (hm j (by omega))
theorem Z4{m:Nat->Nat}{n:Nat}(hm:∀ j,j<n->m j<=m (j+1))(j:Nat):∀ d,j+d<=n->m j<=m (j+d)
  |0,_=>Nat.le_refl _
  |d+1,h=>Nat.le_trans (Z4 hm j d (by omega)) (hm (j+d) (by omega))
theorem XI.zE{S:Nat->Prop}{W W':World}{lo hi:Nat}{t:Tm}{cs:List Value}(h:XI W lo hi t cs)(hU:zD S W W'):(∀ b,lo<=b->b<hi->¬S b)->XI W' lo hi t cs:=by
  induction h with
  |node k n i ts a cap m css hcap h0 hm hh hc hs ih=>
   rename_i lo hi;intro hS;have h1:=xV hm ts.length (Nat.le_refl _);refine .node k n i ts a cap m css hcap h0 hm hh (fun j hj=>?_) (fun j hj=>ih j hj (fun b hb1 hb2=>hS b ?_ ?_))
   ·obtain⟨g,e,g1,g2,gf,gl,gc⟩:=hc j hj;have hgS:¬S g:=hS g g1 (by omega)
    have hlt:g<W.heap.size:=by
      have:=gc 0 _ (List.getElem?_eq_getElem (by omega:0<(css j).length));exact World.block_lt_of_cell? W _ this
    exact⟨g,e,g1,g2,fun o=>by rw[hU.cells.2 g o hlt hgS];exact gf o,gl,fun x v hv=>hU.cell (gc x v hv) hgS⟩
   ·have:=xV hm j (by omega);omega
   ·have:=Z4 hm (j+1) (ts.length - (j+1)) (by omega);rw[show j+1+(ts.length - (j+1))=ts.length by omega]at this;omega
theorem XI.zIX{W:World}{lo hi lo' hi':Nat}{t:Tm}{cs:List Value}(h:XI W lo hi t cs)(h1:lo'<=lo)(h2:hi<=hi'):XI W lo' hi' t cs:=by
  cases h with
  |node k n i ts a cap m css hcap h0 hm hh hc hs=>
   exact .node k n i ts a cap m css hcap (by omega) hm (by omega) (fun j hj=>by
     obtain⟨g,e,g1,g2,gf,gl,gc⟩:=hc j hj;exact⟨g,e,by omega,g2,gf,gl,gc⟩) hs
theorem XI.rep{W:World}{lo hi:Nat}{t:Tm}{cs:List Value}(h:XI W lo hi t cs):zK (fun b=>b<lo\/hi<=b) W t.zM cs:=by
  induction h with
  |node k n i ts a cap m css hcap h0 hm hh hc hs ih=>
   rename_i lo hi;have h1:=xV hm ts.length (Nat.le_refl _);refine zd.2 ⟨a,cap,rfl,hcap,zp _ _ _ (fun j hj=>?_)⟩;simp only[List.length_map]at hj;obtain⟨g,e,g1,g2,gf,gl,gc⟩:=hc j hj
   have hlt:g<W.heap.size:=by
     have:=gc 0 _ (List.getElem?_eq_getElem (by omega:0<(css j).length));exact World.block_lt_of_cell? W _ this
   refine⟨g,0,css j,e,hlt,by omega,gl,fun x v hv=>?_,?_⟩
   ·rw[show 0+0+j * 4+x=j * 4+x by omega];exact gc x v hv
   ·simp only[List.getElem_map];refine zK.weaken (fun b _ e=>?_) _ _ (ih j hj);have h2:=xV hm j (by omega);have h3:=Z4 hm (j+1) (ts.length - (j+1)) (by omega);rw[show j+1+(ts.length - (j+1))=ts.length by omega]at h3;omega
def zBi(W:World)(a:Option Addr)(lo:Nat)(us:List Tm)(m:Nat->Nat)(css:Nat->List Value):Prop:=
  lo<=m 0/\∀ j(h:j<us.length),m j<=m (j+1)/\XI W (m j) (m (j+1)) us[j] (css j)/\∃ g,a=some ⟨g,0,none⟩/\lo<=g/\g<m 0/\(∀ o,W.frozen? ⟨g,o,none⟩=false)/\(css j).length=4/\∀ x v,(css j)[x]? =some v->W.cell? ⟨g,j * 4+x,none⟩=some v
section
variable {W W':World}{a:Option Addr}{lo hi:Nat}{us:List Tm}{m:Nat->Nat}{css:Nat->List Value}
theorem zBi.node(h:zBi W a lo us m css)(k:Int)(n:List UInt8)(i:Int){cap:Nat}(hcap:us.length<=cap)(hh:m us.length<=hi):XI W lo hi (.mk k n i us) [.int .i64 k,.string (B n),.int .i64 i,.slice a us.length cap]:=
  .node k n i us a cap m css hcap h.1 (fun j hj=>(h.2 j hj).1) hh (fun j hj=>(h.2 j hj).2.2) (fun j hj=>(h.2 j hj).2.1)
theorem zBi.zE{S:Nat->Prop}(h:zBi W a lo us m css)(hU:zD S W W')(hS:∀ b,lo<=b->b<m us.length->¬S b):zBi W' a lo us m css:=by
  have hm:∀ j,j<us.length->m j<=m (j+1):=fun j hj=>(h.2 j hj).1
  refine⟨h.1,fun j hj=>?_⟩;obtain⟨h1,h2,g,e,g1,g2,gf,gl,gc⟩:=h.2 j hj;have k1:=xV hm j (by omega);have k2:=Z4 hm (j+1) (us.length - (j+1)) (by omega);rw[show j+1+(us.length - (j+1))=us.length by omega]at k2;have h0:=h.1;have hgS:¬S g:=hS g g1 (by omega);have hlt:g<W.heap.size:=World.block_lt_of_cell? W _ (gc 0 _ (List.getElem?_eq_getElem (by omega:0<(css j).length)));exact⟨h1,h2.zE hU (fun b b1 b2=>hS b (by omega) (by omega)),g,e,g1,g2,fun o=>by rw[hU.cells.2 g o hlt hgS];exact gf o,gl,fun x v hv=>hU.cell (gc x v hv) hgS⟩
theorem zBi.next{g q0 q1:Nat}{u:Tm}{d0 d1 d2 d3:Value}(h:zBi W (some ⟨g,0,none⟩) lo us m css)(hg:lo<=g/\g<m 0)(_hlt:g<W.heap.size)(hfr:∀ o,W.frozen? ⟨g,o,none⟩=false)(hcell:∀ x,x<4->∃ u,W.cell? ⟨g,us.length * 4+x,none⟩=some u)(hq:m us.length<=q0)(hq1:q0<=q1)
    (hu:XI W q0 q1 u [d0,d1,d2,d3]) (hW:W'=(((W.setCell ⟨g,us.length * 4,none⟩ d0).setCell ⟨g,us.length * 4+1,none⟩ d1).setCell ⟨g,us.length * 4+2,none⟩ d2).setCell ⟨g,us.length * 4+3,none⟩ d3):
    ∃ m' css',zBi W' (some ⟨g,0,none⟩) lo (us++[u]) m' css'/\m' 0=m 0/\m' (us.length+1)=q1:=by
  obtain⟨_,u0⟩:=hcell 0 (by omega);obtain⟨_,u1⟩:=hcell 1 (by omega);obtain⟨_,u2⟩:=hcell 2 (by omega);obtain⟨_,u3⟩:=hcell 3 (by omega);obtain⟨⟨v0,v1,v2,v3⟩,hoth,hU⟩:=ZP (d0:=d0) (d1:=d1) (d2:=d2) (d3:=d3) u0 u1 u2 u3 hW;have hm:∀ j,j<us.length->m j<=m (j+1):=fun j hj=>(h.2 j hj).1
  have k0:=xV hm us.length (Nat.le_refl _);have hfr':∀ o,W'.frozen? ⟨g,o,none⟩=false:=fun o=>by rw[hW];simp only[World.frozen?_setCell];exact hfr o
  refine⟨fun j=>if j<=us.length then m j else q1,fun j=>if j<us.length then css j else [d0,d1,d2,d3],⟨by simpa using h.1,fun j hj=>?_⟩,if_pos (Nat.zero_le _),if_neg (by omega)⟩;by_cases hj1:j<us.length
  ·obtain⟨h1,h2,g',e,g1,g2,gf,gl,gc⟩:=h.2 j hj1;cases e
   have k1:=xV hm j (by omega);simp only[show j<=us.length by omega,show j+1<=us.length by omega,if_true,hj1,Nat.zero_le];refine⟨h1,?_,g,rfl,g1,g2,hfr',gl,fun x v hv=>?_⟩
   ·rw[List.getElem_append_left hj1];exact h2.zE hU (fun b b1 b2 e=>by omega)
   ·have hx:x<4:=by rw[<-gl];exact(List.getElem?_eq_some_iff.1 hv).1
    rw[hoth _ (by omega) (by omega) (by omega) (by omega)];exact gc x v hv
  ·obtain rfl:j=us.length:=by simp at hj;omega
   simp only[Nat.le_refl,if_true,show ¬us.length+1<=us.length by omega,if_false,Nat.lt_irrefl,Nat.zero_le];refine⟨by omega,?_,g,rfl,hg.1,hg.2,hfr',rfl,fun x v hv=>?_⟩
   ·simp only[List.getElem_append_right (Nat.le_refl _),Nat.sub_self,List.getElem_cons_zero];exact(hu.zE hU (fun b b1 b2 e=>by omega)).zIX hq (Nat.le_refl _)
   ·match x,hv with
    |0,hv=>cases hv;exact v0
    |1,hv=>cases hv;exact v1
    |2,hv=>cases hv;exact v2
    |3,hv=>cases hv;exact v3
end
end Go.Proofs.YthgmimncdjhgnaaGreatDoor
