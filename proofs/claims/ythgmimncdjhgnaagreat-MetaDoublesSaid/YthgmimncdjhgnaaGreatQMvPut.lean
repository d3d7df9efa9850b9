/- A row of metavariables that is written in place. -/
import Derived.Test.YthgmimncdjhgnaaGreatQFD
import Derived.Test.YthgmimncdjhgnaaGreatQFA
namespace Go.Proofs.YthgmimncdjhgnaaGreat
open Go.RowKit Go.LF
def xy(O:Nat->Prop)(W:World)(a:Option Addr)(zs:List Mv):Prop:=
  ∀ i(_:i<zs.length),∃ g cs,a=some ⟨g,0,none⟩/\¬O g/\g<W.heap.size/\(∀ o,W.frozen? ⟨g,o,none⟩=false)/\cs.length=6/\(∀ m u,cs[m]? =some u->W.cell? ⟨g,i * 6+m,none⟩=some u)/\zK (fun b=>b=g\/O b) W zs[i].zN cs
section
variable {O:Nat->Prop}{W W':World}{a:Option Addr}{zs:List Mv}
theorem xy.zF{S:Nat->Prop}(h:xy O W a zs)(hU:zD S W W')(hS:∀ b,S b->O b):xy O W' a zs:=by
  intro i hi;obtain⟨g,cs,h1,h2,h3,h4,h5,h6,h7⟩:=h i hi;have hg:¬S g:=fun e=>h2 (hS g e)
  exact⟨g,cs,h1,h2,Nat.lt_of_lt_of_le h3 hU.size,fun o=>by rw[hU.cells.2 g o h3 hg];exact h4 o,h5,fun m u hu=>hU.cell (h6 m u hu) hg,zK.zF hU (fun b e=>.inr (hS b e)) _ _ h7⟩
theorem xy.start{base n cap:Nat}{css:List (List Value)}(h:Q8 O base W (.slice a n cap) zs css)(hO:∀ b,O b->b<base):xy O W a zs:=by
  intro i hi;obtain⟨a',c',hv,_,hc⟩:=h.Q5.cells;simp only[Value.slice.injEq]at hv;obtain⟨rfl,_,rfl⟩:=hv;have hi':i<css.length:=by have:=h.1;omega
  obtain⟨g,rfl,hown,hb,hlt,hf,hg⟩:=hc i (by simpa using hi) hi';have h6:=h.2.2.2 i hi hi';exact⟨g,css[i],rfl,fun e=>by have:=hO g e;omega,hlt,hf,h.2.1 _ (List.getElem_mem hi'),hg,zK.weaken (fun b _ e=>e.elim (fun e=>.inr (by rw[e];exact hb)) .inl) _ _ h6⟩
theorem xy.put{g j:Nat}{z:Mv}{cs:List Value}(h:xy O W (some ⟨g,0,none⟩) zs)(hj:j<zs.length)(hcs:cs.length=6)(hc:∀ m u,cs[m]? =some u->W'.cell? ⟨g,j * 6+m,none⟩=some u)
    (hoth:∀ o,(o<j * 6\/j * 6+6<=o)->W'.cell? ⟨g,o,none⟩=W.cell? ⟨g,o,none⟩) (hfr:∀ o,W'.frozen? ⟨g,o,none⟩=W.frozen? ⟨g,o,none⟩) (hU:zD (fun b=>b=g) W W') (hR:zK (fun b=>b=g\/O b) W z.zN cs):xy O W' (some ⟨g,0,none⟩) (zs.set j z):=by
  intro i hi;have hi':i<zs.length:=by simpa using hi
  obtain⟨g',cs',e,h2,h3,h4,h5,h6,h7⟩:=h i hi';cases e
  by_cases hij:i=j
  ·subst hij;simp only[List.getElem_set_self];exact⟨g,cs,rfl,h2,Nat.lt_of_lt_of_le h3 hU.size,fun o=>by rw[hfr];exact h4 o,hcs,hc,zK.zF hU (fun b e=>.inl e) _ _ hR⟩
  ·rw[List.getElem_set_ne (by omega)];refine⟨g,cs',rfl,h2,Nat.lt_of_lt_of_le h3 hU.size,fun o=>by rw[hfr];exact h4 o,h5,fun m u hu=>?_,zK.zF hU (fun b e=>.inl e) _ _ h7⟩;have hm:m<6:=by rw[<-h5];exact(List.getElem?_eq_some_iff.1 hu).1
   rw[hoth _ (by omega)];exact h6 m u hu
theorem xy.open(h:xy O W a zs){j:Nat}(hj:j<zs.length):∃ g k n i aa cap va vc,a=some ⟨g,0,none⟩/\¬O g/\g<W.heap.size/\(∀ o,W.frozen? ⟨g,o,none⟩=false)/\
    (W.cell? ⟨g,j * 6,none⟩=some (.string (B zs[j].name))/\W.cell? ⟨g,j * 6+1,none⟩=some (.int .i64 k)/\W.cell? ⟨g,j * 6+2,none⟩=some (.string (B n))/\W.cell? ⟨g,j * 6+3,none⟩=some (.int .i64 i)/\W.cell? ⟨g,j * 6+4,none⟩=some (.slice aa zs[j].type.args.length cap)/\W.cell? ⟨g,j * 6+5,none⟩=some (.slice va zs[j].value.length vc))/\
    zK (fun b=>b=g\/O b) W zs[j].type.zN [.int .i64 k,.string (B n),.int .i64 i,.slice aa zs[j].type.args.length cap]/\zs[j].value.length<=vc/\zH (fun b=>b=g\/O b) W 4 (zs[j].value.map Tm.zN) va 0:=by
  obtain⟨g,cs,h1,h2,h3,h4,h5,h6,h7⟩:=h j hj;obtain⟨k,n,i,aa,cap,va,vc,rfl,e1,e2,e3⟩:=ZL h7;exact⟨g,k,n,i,aa,cap,va,vc,h1,h2,h3,h4,⟨by simpa using h6 0 _ rfl,h6 1 _ rfl,h6 2 _ rfl,h6 3 _ rfl,h6 4 _ rfl,h6 5 _ rfl⟩,e1,e2,e3⟩
theorem YV{W:World}{g x y:Nat}{v:Value}(h:x≠y):(W.setCell ⟨g,x,none⟩ v).cell? ⟨g,y,none⟩=W.cell? ⟨g,y,none⟩:=World.cell?_setCell_other _ _ _ _ (fun e=>h (by cases e;rfl))
theorem xy.Z7{g j:Nat}{vs:List Tm}{wa:Option Addr}{wc:Nat}(h:xy O W (some ⟨g,0,none⟩) zs)(hj:j<zs.length)(hwc:vs.length<=wc)(hE:zH (fun b=>b=g\/O b) W 4 (vs.map Tm.zN) wa 0):
    xy O (W.setCell ⟨g,j * 6+5,none⟩ (.slice wa vs.length wc)) (some ⟨g,0,none⟩) (zs.set j ⟨zs[j].name,zs[j].type,vs⟩)/\zD (fun b=>b=g) W (W.setCell ⟨g,j * 6+5,none⟩ (.slice wa vs.length wc)):=by
  obtain⟨g',k,n,i,aa,cap,va,vc,e,_,_,hf,⟨c0,c1,c2,c3,c4,c5⟩,hR,hvc,hV⟩:=h.open hj;cases e
  have hU:zD (fun b=>b=g) W (W.setCell ⟨g,j * 6+5,none⟩ (.slice wa vs.length wc)):=zD.set (zD.refl _ _) _ _;refine⟨h.put (cs:=[.string (B zs[j].name),.int .i64 k,.string (B n),.int .i64 i,.slice aa zs[j].type.args.length cap,.slice wa vs.length wc]) hj rfl (fun m u hu=>?_) (fun o ho=>YV (by omega)) (fun o=>by simp only[World.frozen?_setCell]) hU (Zv.2 ⟨_,wa,wc,rfl,hR,hwc,hE⟩),hU⟩;match m,hu with
  |0,hu=>cases hu;rw[YV (by omega)];exact c0
  |1,hu=>cases hu;rw[YV (by omega)];exact c1
  |2,hu=>cases hu;rw[YV (by omega)];exact c2
  |3,hu=>cases hu;rw[YV (by omega)];exact c3
  |4,hu=>cases hu;rw[YV (by omega)];exact c4
  |5,hu=>cases hu;exact World.cell?_setCell_same _ _ _ c5
theorem xy.rep(h:xy O W a zs):zH O W 6 (zs.map Mv.zN) a 0:=by
  refine zn _ _ _ (fun i hi=>?_);simp only[List.length_map]at hi;obtain⟨g,cs,rfl,hO,hlt,_,hcl,hc,h7⟩:=h i hi;refine⟨g,0,cs,rfl,hlt,hO,hcl,fun m u hu=>?_,?_⟩
  ·rw[show 0+0+i * 6+m=i * 6+m by omega];exact hc m u hu
  ·simp only[List.getElem_map];exact zK.weaken (fun _ _ e=>.inr e) _ _ h7
end
end Go.Proofs.YthgmimncdjhgnaaGreat
