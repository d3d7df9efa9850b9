/- meta.open. -/
import Derived.Test.YthgmimncdjhgnaaGreatDoorXFH
set_option maxRecDepth 100000
set_option maxHeartbeats 8000000
namespace Go.Proofs.YthgmimncdjhgnaaGreatDoor
open Go.RowKit Go.LF
theorem NG(l:List Mv)(hP:lf l):∀ R,∀ u,UF l (cF l R) R u
  |0,u=>by
   intro tb eb lb vb ob M base la lc ks o fZ ov e G s W cs h1 h2 h3 h4 h5 h6 h7 h8
   have hm:Tm.ay u=[]:=by
     cases hu:Tm.ay u with
     |nil=>rfl
     |cons x xs=>have:=(h2 x (by rw[hu];simp)).2.2;omega
   have:=Ha l hP (fun _ s=>s) 0 u (fun h=>absurd hm h) tb eb lb vb ob M base la lc ks o fZ ov e G s W cs h1 (fun x hx=>by rw[hm]at hx;cases hx) h3 h4 h5 h6 h7 h8;rw[hm]at this ⊢;exact this
  |R+1,u=>by
   have:=Ha l hP (cF l R) R u (fun _=>NG l hP R);rw[<-ow]at this;exact this
theorem _root_.Go.LF.I0(l:List Mv)(d:Nat)(ts:List Tm)(t:Tm):∀ s,iS l d (ts++[t]) s=o5 l d (Tm.ay t) (iS l d ts s):=by
  induction ts with
  |nil=>intro s;rfl
  |cons x xs ih=>intro s;exact ih _
theorem p6{W:World}{g:Nat}{v:Value}{T:TypeId}(h:cq W g v T):W.setCell ⟨g,0,none⟩ v=W:=by
  have h1:=h.set v
  have hh:(W.setCell ⟨g,0,none⟩ v).heap=W.heap:=by
    refine Array.ext_getElem? (fun i=>?_);by_cases hi:i=g
    ·subst hi;exact h1.trans h.symm
    exact RowKit.Below.heap_setCell _ _ _ _ hi
  have:W.setCell ⟨g,0,none⟩ v={ W with heap:=(W.setCell ⟨g,0,none⟩ v).heap }:=rfl;rw[this,hh]
theorem LO(l:List Mv)(hP:lf l)(us:List Tm)(gd:∀ u∈us,u.wt<=1000000/\∀ i∈Tm.ay u,i<l.length)(hlen:us.length<=1000)(w:World)(la:Option Addr)(lc:Nat)(ta:Option Addr)(tc:Nat)(hL:ai ae w 6 (l.map Mv.az) la 0)(hT:ai ae w 4 (us.map Tm.az) ta 0):
    Calls Tryz.prog 59 #[.slice la l.length lc,.slice ta us.length tc] w fun x w'=>∃(tb eb lb vb ob M base:Nat)(ks o:List Int)(fZ:List (Value×Value))(ov:Value)(e:Int),x=.returned (.tuple #[ov,.map (some M),.int .i64 e])/\AO l tb eb lb vb ob M base la lc ks o fZ ov e w'/\w.heap.size<=base/\Hs (iS l l.length us ⟨[],0⟩) ks o e []/\af ae w w':=by
  have FI:=@run_makeMap Tryz.prog;obtain⟨H,hH⟩:∃ H,H=w.heap.size:=⟨_,rfl⟩;obtain⟨w6,iF⟩:∃ w6,w6=(((((w.alloc (.cells #[.slice la l.length lc] 23)).alloc (.cells #[.slice none 0 0] 22)).alloc (.cells #[.map (some (H+1+1+1+1))] 87)).alloc (.cells #[.int .i64 0] 30)).alloc (.map #[] 0)).alloc (.cells #[opV (H+1+1) (H+1+1+1) H (H+1+1+1+1+1) (H+1)] 93):=⟨_,rfl⟩;have bj:af ae w w6:=by rw[iF];exact((((((af.refl ae w).alloc _).alloc _).alloc _).alloc _).alloc _).alloc _
  have DN:w6.heap.size=H+1+1+1+1+1+1:=by rw[iF,hH];simp
  have hV6:AO l (H+1+1) (H+1+1+1) H (H+1+1+1+1+1) (H+1) (H+1+1+1+1) (H+1+1+1+1+1+1) la lc [] [] [] (.slice none 0 0) 0 w6:=by
    have al:∀(W:World)(o:Obj),af ae W (W.alloc o):=fun W o=>(af.refl ae W).alloc o
    rw[iF];refine⟨?_,?_,?_,?_,?_,?_,World.ownsRow_nil _ _ _ _,rfl,fun x h=>(by cases h),fun x h=>(by cases h),⟨by omega,by omega,by omega,by omega,by omega,by omega⟩,⟨⟨by omega,by omega,by omega,by omega,by omega⟩,⟨by omega,by omega,by omega,by omega⟩,by omega,by omega,by omega⟩,qj l,Nat.le_refl _,fun x h=>(by cases h)⟩
    ·exact(((cq.av (by simp[hH])).kept (al _ _)).kept (al _ _)).kept (al _ _)
    ·exact((cq.av (by simp[hH])).kept (al _ _)).kept (al _ _)
    ·exact(((((cq.av hH.symm).kept (al _ _)).kept (al _ _)).kept (al _ _)).kept (al _ _)).kept (al _ _)
    ·exact cq.av (by simp[hH])
    ·exact((((cq.av (by simp[hH])).kept (al _ _)).kept (al _ _)).kept (al _ _)).kept (al _ _)
    have h:=fT.made ((((w.alloc (.cells #[.slice la l.length lc] 23)).alloc (.cells #[.slice none 0 0] 22)).alloc (.cells #[.map (some (H+1+1+1+1))] 87)).alloc (.cells #[.int .i64 0] 30));rw[show((((w.alloc (.cells #[.slice la l.length lc] 23)).alloc (.cells #[.slice none 0 0] 22)).alloc (.cells #[.map (some (H+1+1+1+1))] 87)).alloc (.cells #[.int .i64 0] 30)).heap.size=H+1+1+1+1 by simp[hH]]at h;exact h.on (al _ _) (fun x=>x)
  have sf:Hs ⟨[],0⟩ [] [] 0 []:=⟨rfl,fun _=>⟨rfl,fun x=>by simp⟩⟩
  have cg:∀ v:Value,(∀ b,v.ownBlock=some b->H<=b)->∀ b,AF (H+1+1+1) (H+1+1+1+1) (H+1) v b->H<=b:=fun v hv b e=>by
    rcases e with e |e |e |e
    ·omega
    ·omega
    ·omega
    exact hv b e
  have hL6:=(ai.aG _ _ _ _ hL).on bj;have zg:=(ai.aG _ _ _ _ hT).on bj;rw[<-hH]at hL6 zg;have HW:=ak iF;have HH:=ak hH;have HU6:=ak bj;obtain⟨tl,jh⟩:∃ tl,tl=us.length:=⟨_,rfl⟩;rw[<-jh]at hlen;rw[<-jh];have HTL:=ak jh;have BO:=ak gd;have s9:∀ args w,Sem.run Tryz.prog (callFunc 127 args) w=.ok (Next.enter 127 args) w:=fun _ _=>by simp only[go_sem,Tryz.call127]
  have HS6:=ak sf;have HCG:=ak cg;clear iF hH hL hT gd jh sf cg bj;go_enter Tryz.func59,Tryz.ntmps59;go_upto_region 4 with fail;rw[<-HH.out,<-HW.out];clear FI;go_wp2_with fail
  go_loopw [14] (fun E9 wr=>∃(j:Nat)(ks o:List Int)(fZ:List (Value×Value))(ov:Value)(e:Int),E9=.int .i64 (j:Int)/\j<=tl/\AO l (H+1+1) (H+1+1+1) H (H+1+1+1+1+1) (H+1) (H+1+1+1+1) (H+1+1+1+1+1+1) la lc ks o fZ ov e wr/\Hs (iS l l.length (us.take j) ⟨[],0⟩) ks o e []/\af (fun b=>H<=b) w6 wr)
    (fun E9 _=>tl - (intOf E9).toNat)
  case atStart=>exact⟨0,[],[],[],_,0,rfl,Nat.zero_le _,hV6,HS6.out,af.refl _ _⟩
  obtain⟨j,ks,o,fZ,ov,e,rfl,hj,hV,hs,hU⟩:=hrel;have G5:=hU.size;have BW:(j:Int)<=1000:=by omega
  have c7:=hV.Yc.cell;by_cases aB:j<tl
  ·have b7:j<us.length:=by have:=HTL.out;omega
   obtain⟨eb,eo,ek,en,ex,es,ec,rfl,mz,_,p0,p1,p2,p3,eY⟩:=aY (ai.ag hU (fun b e=>.inr e) _ _ _ _ zg) j b7;have ET:(j:Int)<(tl:Int):=by omega
   obtain⟨u1,u2⟩:=BO.out _ (List.getElem_mem b7)
   have eQ:iS l l.length (us.take (j+1)) ⟨[],0⟩=cF l (l.length+1) (Tm.ay us[j]) (iS l l.length (us.take j) ⟨[],0⟩):=by
     rw[List.take_succ_eq_append_getElem b7,I0];rfl
   obtain⟨w4,eh⟩:∃ w4,w4=wr.alloc (.cells #[.int .i64 ek,.string (B en),.int .i64 ex,.slice es (us[j]'b7).args.length ec] 29):=⟨_,rfl⟩;have bw:af ae wr w4:=by rw[eh];exact(af.refl ae wr).alloc _
   have EE:au w4 wr.heap.size (.int .i64 ek) (.string (B en)) (.int .i64 ex) (.slice es (us[j]'b7).args.length ec) 29:=by rw[eh];exact au.av rfl
   have ON:=hV.on bw;have JG:∀ b,ov.ownBlock=some b->H<=b:=fun b e=>by have:=(hV.row.lt b e).1;omega
   have IH:=NG l hP (l.length+1) (us[j]'b7) _ _ _ _ _ _ _ la lc ks o fZ ov e [] _ w4 _ u1 (ux l (fun x hx=>⟨(jt x hx).1,u2 x hx⟩)) (fun x _ g hg=>by cases hg) ON (by have:=bw.size;omega) hs
     ((ai.weaken (fun b _ e=>.inr (HCG.out _ JG b e)) _ _ _ _ (ai.ag hU (fun b e=>.inr e) _ _ _ _ hL6)).on bw) ((aw.weaken (fun _ _ e=>e.elim) _ _ eY).on bw)
   rw[<-eQ]at IH;generalize (us[j]'b7).args.length=el at *
   have Lk:=ak eh;obtain⟨P,KV⟩:∃ P,P=wr.heap.size:=⟨_,rfl⟩;rw[<-KV]at EE;have Ya:=ak KV;have zc:=ak JG;clear eh eY mz KV eQ hs JG u2;go_upto_region 7 with fail;rw[<-Ya.out,<-Lk.out];clear p0 p1 p2 p3 c7;obtain⟨p0,p1,p2,p3⟩:=EE.cells;have c7:=ON.Yc.cell;go_wp2_with fail
   (with_reducible refine IH.mono ?_);rintro e9 w9 ⟨rfl,ks9,o9,kv9,ov9,x9,NM,BK,bU,ho9,Qo⟩;have HS9:=ak BK;clear BK IH p0 p1 p2 p3 c7;go_wp2_with fail;go_roundw;case rel=>exact⟨j+1,ks9,o9,kv9,ov9,x9,by go_num,by omega,NM,HS9.out,(hU.trans bw (fun _ _ e=>e.elim)).trans bU (fun b _ e=>HCG.out _ zc.out b e)⟩
   simp[intOf];omega
  have rG:us.take j=us:=List.take_of_length_le (by have:=HTL.out;omega);rw[rG]at hs;have HS:=ak hs;have k1:=hV.ord.cell;have k2:=hV.kQ.cell;have k3:=hV.err.cell;have f1:=hV.ord.frozen;have f2:=hV.kQ.frozen;have f3:=hV.err.frozen;have l1:=hV.ord.lt;have l2:=hV.kQ.lt;have l3:=hV.err.lt;obtain⟨oa,oc,rfl,_,_⟩:=cO hV.row.rep;generalize o.length=tO at *
  have yu:=hV.on (af.refl ae wr).drew;have e1:=p6 hV.ord;have e2:=p6 hV.kQ;have e3:=p6 hV.err;have HE:=ak (And.intro e1 (And.intro e2 e3));have Sd:wr.drew.cell? ⟨H+1,0,none⟩=some (.slice oa tO oc)/\wr.drew.cell? ⟨H+1+1,0,none⟩=some (.map (some (H+1+1+1+1)))/\wr.drew.cell? ⟨H+1+1+1,0,none⟩=some (.int .i64 e):=⟨yu.ord.cell,yu.kQ.cell,yu.err.cell⟩;have g1:=yu.ord.frozen;have g2:=yu.kQ.frozen;have g3:=yu.err.frozen;have q1:=yu.ord.lt;have q2:=yu.kQ.lt;have q3:=yu.err.lt;have k1':=yu.ord.cell;have k2':=yu.kQ.cell;have k3':=yu.err.cell;clear e1 e2 e3;clear hs c7;go_wp2_with fail
  go_region_held3 (fun w'=>w'.cell? ⟨H+1,0,none⟩=some (.slice oa tO oc)/\w'.cell? ⟨H+1+1,0,none⟩=some (.map (some (H+1+1+1+1)))/\w'.cell? ⟨H+1+1+1,0,none⟩=some (.int .i64 e))
    (first |(with_reducible assumption)|(with_reducible exact Sd)|((try simp only[HE.out.1,HE.out.2.1,HE.out.2.2]);with_reducible exact Sd))
    (first |fail)
  all_goals
    go_wp2_with fail;simp only[HE.out.1,HE.out.2.1,HE.out.2.2];refine bodyPost_ret (v:=.tuple #[.slice oa tO oc,.map (some (H+1+1+1+1)),.int .i64 e]) ?_ rfl ?_
    ·simp[results,Tryz.f59,go_sem,k1',k2',k3']
    exact⟨_,_,_,_,_,_,_,ks,o,fZ,_,e,rfl,yu,by have:=HH.out;omega,HS.out,((HU6.out.mono (fun _ _ e=>e.elim)).trans hU (fun b hb e=>by have:=HH.out;omega)).drew⟩
end Go.Proofs.YthgmimncdjhgnaaGreatDoor
namespace Go.LF
open Tm Go.Proofs.YthgmimncdjhgnaaGreatDoor
def IU(l:List Mv)(ts:List Tm):Ord:=iS l l.length (iy l ts) ⟨[],0⟩
def iz(l:List Mv)(ts:List Tm):Int:=if iU l ts≠0 then iU l ts else(IU l ts).e
def lQ(l:List Mv)(ts:List Tm):List Int:=if iz l ts=0 then(IU l ts).o else []
theorem jS(l:List Mv):∀(ts:List Tm),iU l ts=0->∀ t∈ts,ep l t=0
  |t :: ts,h,u,hu=>by
   rw[iU]at h;by_cases h0:ep l t≠0
   ·rw[if_pos h0]at h;exact absurd h h0
   rw[if_neg h0]at h;rcases List.mem_cons.1 hu with rfl |hu
   ·omega
   exact jS l ts h u hu
theorem iZ{l:List Mv}(hP:lf l){t:Tm}(h:ep l t=0):(bP l t).wf=0/\(bP l t).wt<=1000000/\∀ i∈Tm.ay (bP l t),i<l.length:=by
  obtain⟨h1,h2,h3⟩:=uB h;have hw:(bP l t).wf=0:=by unfold bP;rw[if_pos h];exact Ba l 16385 t 0 h1 h3
  refine⟨hw,by have:=Tm.iM hw;omega,?_⟩;unfold bP;rw[if_pos h];exact G0 l 16385 t (fun i=>i<l.length) (fun i _ j hj=>Hp hP.uX i j hj) h2 h1 hP.JU 0 h3
theorem wS{l:List Mv}(hP:lf l){ts:List Tm}:∀ u∈iy l ts,u.wt<=1000000/\∀ i∈Tm.ay u,i<l.length:=by
  intro u hu;unfold iy at hu;by_cases h:iU l ts=0
  ·rw[if_pos h]at hu;obtain⟨t,ht,rfl⟩:=List.mem_map.1 hu;exact(iZ hP (jS l ts h t ht)).2
  rw[if_neg h]at hu;cases hu
theorem uJ(l:List Mv)(ts:List Tm):(iy l ts).length<=ts.length:=by unfold iy;split<;>simp
end Go.LF
namespace Go.Proofs.YthgmimncdjhgnaaGreatDoor
section
open Go.RowKit Go.LF
def Wi(E:Int)(is:List Int)(w:World)(e:Ending)(w':World):Prop:=
  ∃(a:Option Addr)(cap:Nat),e=.returned (.tuple #[.slice a is.length cap,.int .i64 E])/\is.length<=cap/\ai ae w' 1 (is.map (fB.int .i64)) a 0/\af ae w w'
end
section
open Go.RowKit Go.LF
inductive lA(W:World):Nat->Nat->Tm->List Value->Prop
  |node {lo hi:Nat} (k:Int) (n:List UInt8) (i:Int) (ts:List Tm) (a:Option Addr) (cap:Nat) (m:Nat->Nat) (css:Nat->List Value) (aX:ts.length<=cap) (h0:lo<=m 0) (hm:∀ j,j<ts.length->m j<=m (j+1)) (hh:m ts.length<=hi)
     (hc:∀ j,j<ts.length->∃ g,a=some ⟨g,0,none⟩/\lo<=g/\g<m 0/\(∀ o,W.frozen? ⟨g,o,none⟩=false)/\(css j).length=4/\∀ x v,(css j)[x]? =some v->W.cell? ⟨g,j * 4+x,none⟩=some v)
     (hs:∀ j(h:j<ts.length),lA W (m j) (m (j+1)) ts[j] (css j)):lA W lo hi (.mk k n i ts) [.int .i64 k,.string (B n),.int .i64 i,.slice a ts.length cap]
theorem ff{m:Nat->Nat}{n:Nat}(hm:∀ j,j<n->m j<=m (j+1)):∀ j,j<=n->m 0<=m j
  |0,_=>Nat.le_refl _
  |j+1,h=>Nat.le_trans (ff hm j (by omega)) (hm j (by omega))
theorem iq{m:Nat->Nat}{n:Nat}(hm:∀ j,j<n->m j<=m (j+1))(j:Nat):∀ d,j+d<=n->m j<=m (j+d)
  |0,_=>Nat.le_refl _
  |d+1,h=>Nat.le_trans (iq hm j d (by omega)) (hm (j+d) (by omega))
theorem lA.ag{S:Nat->Prop}{W W':World}{lo hi:Nat}{t:Tm}{cs:List Value}(h:lA W lo hi t cs)(hU:af S W W'):(∀ b,lo<=b->b<hi->¬S b)->lA W' lo hi t cs:=by
  induction h with
  |node k n i ts a cap m css aX h0 hm hh hc hs ih=>
   rename_i lo hi;intro hS;have h1:=ff hm ts.length (Nat.le_refl _);refine .node k n i ts a cap m css aX h0 hm hh (fun j hj=>?_) (fun j hj=>ih j hj (fun b iV pB=>hS b ?_ ?_))
   ·obtain⟨g,e,g1,g2,gf,gl,gc⟩:=hc j hj;have YG:¬S g:=hS g g1 (by omega)
    have aB:g<W.heap.size:=by
      have:=gc 0 _ (List.getElem?_eq_getElem (by omega:0<(css j).length));exact World.block_lt_of_cell? W _ this
    exact⟨g,e,g1,g2,fun o=>by rw[hU.cells.2 g o aB YG];exact gf o,gl,fun x v hv=>hU.cell (gc x v hv) YG⟩
   ·have:=ff hm j (by omega);omega
   have:=iq hm (j+1) (ts.length - (j+1)) (by omega);rw[show j+1+(ts.length - (j+1))=ts.length by omega]at this;omega
theorem lA.Te{W:World}{lo hi lo' dZ:Nat}{t:Tm}{cs:List Value}(h:lA W lo hi t cs)(h1:lo'<=lo)(h2:hi<=dZ):lA W lo' dZ t cs:=by
  cases h with
  |node k n i ts a cap m css aX h0 hm hh hc hs=>
   exact .node k n i ts a cap m css aX (by omega) hm (by omega) (fun j hj=>by
     obtain⟨g,e,g1,g2,gf,gl,gc⟩:=hc j hj;exact⟨g,e,by omega,g2,gf,gl,gc⟩) hs
theorem lA.rep{W:World}{lo hi:Nat}{t:Tm}{cs:List Value}(h:lA W lo hi t cs):aw (fun b=>b<lo\/hi<=b) W t.az cs:=by
  induction h with
  |node k n i ts a cap m css aX h0 hm hh hc hs ih=>
   rename_i lo hi;have h1:=ff hm ts.length (Nat.le_refl _);refine bg.2 ⟨a,cap,rfl,aX,bT _ _ _ (fun j hj=>?_)⟩;simp only[List.length_map]at hj;obtain⟨g,e,g1,g2,gf,gl,gc⟩:=hc j hj
   have aB:g<W.heap.size:=by
     have:=gc 0 _ (List.getElem?_eq_getElem (by omega:0<(css j).length));exact World.block_lt_of_cell? W _ this
   refine⟨g,0,css j,e,aB,by omega,gl,fun x v hv=>?_,?_⟩
   ·rw[show 0+0+j * 4+x=j * 4+x by omega];exact gc x v hv
   simp only[List.getElem_map];refine aw.weaken (fun b _ e=>?_) _ _ (ih j hj);have h2:=ff hm j (by omega);have h3:=iq hm (j+1) (ts.length - (j+1)) (by omega);rw[show j+1+(ts.length - (j+1))=ts.length by omega]at h3;omega
def mV(W:World)(a:Option Addr)(lo:Nat)(us:List Tm)(m:Nat->Nat)(css:Nat->List Value):Prop:=
  lo<=m 0/\∀ j(h:j<us.length),m j<=m (j+1)/\lA W (m j) (m (j+1)) us[j] (css j)/\∃ g,a=some ⟨g,0,none⟩/\lo<=g/\g<m 0/\(∀ o,W.frozen? ⟨g,o,none⟩=false)/\(css j).length=4/\∀ x v,(css j)[x]? =some v->W.cell? ⟨g,j * 4+x,none⟩=some v
section
variable {W W':World}{a:Option Addr}{lo hi:Nat}{us:List Tm}{m:Nat->Nat}{css:Nat->List Value}
theorem mV.node(h:mV W a lo us m css)(k:Int)(n:List UInt8)(i:Int){cap:Nat}(aX:us.length<=cap)(hh:m us.length<=hi):lA W lo hi (.mk k n i us) [.int .i64 k,.string (B n),.int .i64 i,.slice a us.length cap]:=
  .node k n i us a cap m css aX h.1 (fun j hj=>(h.2 j hj).1) hh (fun j hj=>(h.2 j hj).2.2) (fun j hj=>(h.2 j hj).2.1)
theorem mV.ag{S:Nat->Prop}(h:mV W a lo us m css)(hU:af S W W')(hS:∀ b,lo<=b->b<m us.length->¬S b):mV W' a lo us m css:=by
  have hm:∀ j,j<us.length->m j<=m (j+1):=fun j hj=>(h.2 j hj).1
  refine⟨h.1,fun j hj=>?_⟩;obtain⟨h1,h2,g,e,g1,g2,gf,gl,gc⟩:=h.2 j hj;have k1:=ff hm j (by omega);have k2:=iq hm (j+1) (us.length - (j+1)) (by omega);rw[show j+1+(us.length - (j+1))=us.length by omega]at k2;have h0:=h.1;have YG:¬S g:=hS g g1 (by omega);have aB:g<W.heap.size:=World.block_lt_of_cell? W _ (gc 0 _ (List.getElem?_eq_getElem (by omega:0<(css j).length)));exact⟨h1,h2.ag hU (fun b b1 b2=>hS b (by omega) (by omega)),g,e,g1,g2,fun o=>by rw[hU.cells.2 g o aB YG];exact gf o,gl,fun x v hv=>hU.cell (gc x v hv) YG⟩
theorem mV.next{g q0 q1:Nat}{u:Tm}{d0 d1 d2 d3:Value}(h:mV W (some ⟨g,0,none⟩) lo us m css)(hg:lo<=g/\g<m 0)(_hlt:g<W.heap.size)(tG:∀ o,W.frozen? ⟨g,o,none⟩=false)(bR:∀ x,x<4->∃ u,W.cell? ⟨g,us.length * 4+x,none⟩=some u)(hq:m us.length<=q0)(QU:q0<=q1)
    (hu:lA W q0 q1 u [d0,d1,d2,d3]) (hW:W'=(((W.setCell ⟨g,us.length * 4,none⟩ d0).setCell ⟨g,us.length * 4+1,none⟩ d1).setCell ⟨g,us.length * 4+2,none⟩ d2).setCell ⟨g,us.length * 4+3,none⟩ d3):
    ∃ m' fY,mV W' (some ⟨g,0,none⟩) lo (us++[u]) m' fY/\m' 0=m 0/\m' (us.length+1)=q1:=by
  obtain⟨_,u0⟩:=bR 0 (by omega);obtain⟨_,u1⟩:=bR 1 (by omega);obtain⟨_,u2⟩:=bR 2 (by omega);obtain⟨_,u3⟩:=bR 3 (by omega);obtain⟨⟨v0,v1,v2,v3⟩,mZ,hU⟩:=iv (d0:=d0) (d1:=d1) (d2:=d2) (d3:=d3) u0 u1 u2 u3 hW;have hm:∀ j,j<us.length->m j<=m (j+1):=fun j hj=>(h.2 j hj).1
  have k0:=ff hm us.length (Nat.le_refl _);have aaa:∀ o,W'.frozen? ⟨g,o,none⟩=false:=fun o=>by rw[hW];simp only[World.frozen?_setCell];exact tG o
  refine⟨fun j=>if j<=us.length then m j else q1,fun j=>if j<us.length then css j else [d0,d1,d2,d3],⟨by simpa using h.1,fun j hj=>?_⟩,if_pos (Nat.zero_le _),if_neg (by omega)⟩;by_cases ET:j<us.length
  ·obtain⟨h1,h2,g',e,g1,g2,gf,gl,gc⟩:=h.2 j ET;cases e
   have k1:=ff hm j (by omega);simp only[show j<=us.length by omega,show j+1<=us.length by omega,if_true,ET,Nat.zero_le];refine⟨h1,?_,g,rfl,g1,g2,aaa,gl,fun x v hv=>?_⟩
   ·rw[List.getElem_append_left ET];exact h2.ag hU (fun b b1 b2 e=>by omega)
   have hx:x<4:=by rw[<-gl];exact(List.getElem?_eq_some_iff.1 hv).1
   rw[mZ _ (by omega) (by omega) (by omega) (by omega)];exact gc x v hv
  obtain rfl:j=us.length:=by simp at hj;omega
  simp only[Nat.le_refl,if_true,show ¬us.length+1<=us.length by omega,if_false,Nat.lt_irrefl,Nat.zero_le];refine⟨by omega,?_,g,rfl,hg.1,hg.2,aaa,rfl,fun x v hv=>?_⟩
  ·simp only[List.getElem_append_right (Nat.le_refl _),Nat.sub_self,List.getElem_cons_zero];exact(hu.ag hU (fun b b1 b2 e=>by omega)).Te hq (Nat.le_refl _)
  match x,hv with
  |0,hv=>cases hv;exact v0
  |1,hv=>cases hv;exact v1
  |2,hv=>cases hv;exact v2
  |3,hv=>cases hv;exact v3
end
end
section
open Go.RowKit Go.LF
def Uo(u:Tm)(w:World)(e:Ending)(w':World):Prop:=
  ∃(k i:Int)(n:List UInt8)(a:Option Addr)(len cap:Nat),e=.returned (.agg #[.int .i64 k,.string (B n),.int .i64 i,.slice a len cap])/\lA w' w.heap.size w'.heap.size u [.int .i64 k,.string (B n),.int .i64 i,.slice a len cap]/\af ae w w'
def RT(ts:List Tm)(w:World)(e:Ending)(w':World):Prop:=
  ∃(a:Option Addr)(cap:Nat),e=.returned (.slice a ts.length cap)/\ts.length<=cap/\(∃ m css,mV w' a w.heap.size ts m css/\m ts.length<=w'.heap.size)/\af ae w w'
theorem yc(ts:List Tm)(hl:ts.length<=900000)(ih:∀ t∈ts,∀(w:World)(cs:List Value),aw ae w t.az cs->Calls Tryz.prog 108 #[.agg cs.toArray] w (Uo t w))
    (w:World) (a:Option Addr) (cap:Nat) (hE:ai ae w 4 (ts.map Tm.az) a 0):
    Calls Tryz.prog 178 #[.slice a ts.length cap,.func (.func 108) #[] #[]] w (RT ts w):=by
  obtain⟨H,hH⟩:∃ H,H=w.heap.size:=⟨_,rfl⟩;have CL:=oq ts (fun x=>H<=x) w a cap hl (ai.weaken (fun b _ e=>.inr (by omega)) _ _ _ _ (ai.aG _ _ _ _ hE));obtain⟨ul,cZ⟩:∃ ul,ul=ts.length:=⟨_,rfl⟩;rw[<-cZ]at CL;rw[<-cZ];have HL:=ak cZ;have HH:=ak hH;have TF:(ul:Int)<=900000:=by omega
  clear cZ hE;go_enter Tryz.func178,Tryz.ntmps178;go_wp2_with fail
  (with_reducible refine CL.mono ?_);rintro e w4 ⟨v,css,rfl,hS,bw⟩;obtain⟨sa,sc,rfl,fJ,_⟩:=hS.cells;rw[<-hH]at hS;have xK:=jf.start (okb:=H) (lo:=H) hS (fun b e=>.inl (by omega));rw[<-HL.out]at fJ;rw[<-HL.out];have DX:=bw.size;rw[<-hH]at DX
  have MB:∀ g,0<ts.length->sa=some ⟨g,0,none⟩->H<=g/\g<w4.heap.size:=fun g h e=>by
    obtain⟨g',qs,e',g1,g2,_⟩:=xK 0 h;rw[e]at e';cases e'
    exact⟨g1,g2⟩
  obtain⟨Z,hZ⟩:∃ Z,Z=w4.heap.size:=⟨_,rfl⟩;rw[<-hZ]at MB;have HZ:=ak (And.intro hZ MB);have hzH:H<=Z:=by omega
  clear hS CL hH hZ MB;go_wp2_with fail
  go_loopw [12] (fun v12 wr=>∃(j:Nat),v12=.int .i64 (j:Int)/\j<=ul/\jf H H H wr sa (ts.take j) ts/\af ae w wr/\∃ m css,mV wr sa H (ts.take j) m css/\m 0=Z/\m j<=wr.heap.size)
    (fun v12 _=>ul - (intOf v12).toNat)
  case atStart=>exact⟨0,rfl,Nat.zero_le _,xK,bw,fun _=>Z,fun _=>[],⟨hzH,fun j h=>by simp at h⟩,rfl,Nat.le_of_eq HZ.out.1⟩
  obtain⟨j,rfl,hj,hM,hU,m,css,hO,pf,KL⟩:=hrel;have u1:(j:Int)<=900000:=by omega
  by_cases aB:(j:Int)<(ul:Int)
  ·have b7:j<ts.length:=by have:=HL.out;omega
   have eQ:(ts.take j).length=j:=by rw[List.length_take];omega
   obtain⟨g,cs,rfl,EF,px,sR,Km,iQ,_,pw⟩:=hM j b7;have hgZ:=HZ.out.2 g (by omega) rfl;have oO:=pw b7 (by omega);have DQ:ts.take (j+1)=ts.take j++[ts[j]]:=List.take_succ_eq_append_getElem b7;have L8:=ih ts[j] (List.getElem_mem b7);generalize ts[j]=tj at *
   obtain⟨kj,nj,ij,lj,aj,cj,Cb,rfl,_,_⟩:=aP oO;have g0:=iQ 0 _ rfl;rw[Nat.add_zero]at g0;have g1:=iQ 1 _ rfl;have g2:=iQ 2 _ rfl;have g3:=iQ 3 _ rfl;generalize lj.length=Bg at *
   obtain⟨wa,mP⟩:∃ wa,wa=wr.alloc (.cells #[.int .i64 kj,.string (B nj),.int .i64 ij,.slice aj Bg cj] 29):=⟨_,rfl⟩;have dM:af ae wr wa:=by rw[mP];exact(af.refl ae wr).alloc _
   have hB:au wa wr.heap.size (.int .i64 kj) (.string (B nj)) (.int .i64 ij) (.slice aj Bg cj) 29:=by rw[mP];exact au.av rfl
   have IH:=L8 wa _ ((dj oO).on dM);obtain⟨Q,hQ⟩:∃ Q,Q=wr.heap.size:=⟨_,rfl⟩;rw[<-hQ]at hB;have NV:=ak mP;have HQ:=ak hQ;have HJ:=ak (And.intro eQ (And.intro b7 DQ));have PE:=dM.size;clear mP hQ oO pw iQ Cb Km eQ DQ L8 b7;go_upto_region 5 with fail;rw[<-NV.out,<-HQ.out];obtain⟨b0,b1,b2,b3⟩:=hB.cells;go_wp2_with fail
   (with_reducible refine IH.mono ?_);rintro e w6 ⟨k6,i6,n6,a6,l6,c6,rfl,Nc,bj⟩;have dg:=Nc.rep;have eu:=dM.and bj;have v0:=eu.cell g0 (fun x=>x);have v1:=eu.cell g1 (fun x=>x);have v2:=eu.cell g2 (fun x=>x);have v3:=eu.cell g3 (fun x=>x);have f6:=fun o=>(eu.cells.2 g o px (fun x=>x)).trans (sR o)
   have yB:=hM.kept eu;have jd:=jf.next (u:=tj) (d0:=.int .i64 k6) (d1:=.string (B n6)) (d2:=.int .i64 i6) (d3:=.slice a6 l6 c6) yB (by rw[HJ.out.1];exact HJ.out.2.1) (Nat.le_refl _) (aw.weaken (fun b _ e=>by omega) _ _ dg) rfl;have ab9:=hO.ag eu (fun _ _ _ x=>x);have amr:=eu.size
   have Ay:=mV.next (d0:=.int .i64 k6) (d1:=.string (B n6)) (d2:=.int .i64 i6) (d3:=.slice a6 l6 c6) ab9 (by rw[pf];exact hgZ) (Nat.lt_of_lt_of_le px eu.size) f6
     (fun x hx=>by
       rw[HJ.out.1];match x,hx with
       |0,_=>exact⟨_,v0⟩
       |1,_=>exact⟨_,v1⟩
       |2,_=>exact⟨_,v2⟩
       |3,_=>exact⟨_,v3⟩) (by rw[HJ.out.1];omega) bj.size Nc rfl
   rw[HJ.out.1,<-HJ.out.2.2]at jd Ay;have HNO:=ak Ay;have bU:af ae w _:=(hU.and eu).trans jd.2 (fun x hx e=>by have:=HH.out;omega);have WO:g<w6.heap.size:=Nat.lt_of_lt_of_le px eu.size;clear yB hM dg bj eu Ay Nc ab9 hO g0 g1 g2 g3 b0 b1 b2 b3 IH hB dM;go_wp2_with fail;go_roundw
   case rel=>
     obtain⟨m',fY,h1,h2,h3⟩:=HNO.out;exact⟨j+1,by go_num,by omega,jd.1,bU,m',fY,h1,by rw[h2,pf],by rw[h3];exact jd.2.size⟩
   simp[intOf];omega
  have rG:j=ts.length:=by have:=HL.out;omega
  rw[rG,List.take_length]at hO;rw[rG]at KL;have HJ:=ak (And.intro hO KL);clear rG hM hO KL;go_wp2_with fail;go_ret;exact⟨sa,sc,by rw[HL.out];rfl,by rw[<-HL.out];exact fJ,⟨m,css,by rw[<-HH.out];exact HJ.out.1,HJ.out.2⟩,hU⟩
theorem wX(ts:List Tm)(hl:ts.length<=900000)(ih:∀ t∈ts,∀(w:World)(cs:List Value),aw ae w t.az cs->Calls Tryz.prog 108 #[.agg cs.toArray] w (Uo t w))
    (w:World) (a:Option Addr) (cap:Nat) (hE:ai ae w 4 (ts.map Tm.az) a 0):Calls Tryz.prog 141 #[.slice a ts.length cap] w (RT ts w):=by
  have EA:=yc ts hl ih w a cap hE;obtain⟨ul,cZ⟩:∃ ul,ul=ts.length:=⟨_,rfl⟩;rw[<-cZ]at EA;rw[<-cZ];have HL:=ak cZ;clear cZ;go_enter Tryz.func141,Tryz.ntmps141;go_wp2_with fail
  (with_reducible refine EA.mono ?_);rintro e w4 ⟨sa,sc,rfl,fJ,hR,bw⟩;go_wp2_with fail;go_ret;exact⟨sa,sc,rfl,fJ,hR,bw⟩
theorem AI(t:Tm):t.size<=900000->∀(w:World)(cs:List Value),aw ae w t.az cs->Calls Tryz.prog 108 #[.agg cs.toArray] w (Uo t w):=by
  induction t using Tm.ind with
  |h k n i ts ih=>
   intro hs w cs hR;obtain⟨a,cap,rfl,aX,hE⟩:=bg.1 hR;have hlen:=Tm.aA ts;rw[Tm.aM]at hs;obtain⟨w1,aF⟩:∃ w1,w1=(w.alloc (.cells #[.int .i64 k,.string (B n),.int .i64 i,.slice a ts.length cap] 29)).alloc (.cells #[.int .i64 0,.string (B []),.int .i64 0,.slice none 0 0] 29):=⟨_,rfl⟩;have aH:af ae w w1:=by rw[aF];exact((af.refl ae w).alloc _).alloc _
   have gy:au w1 w.heap.size (.int .i64 k) (.string (B n)) (.int .i64 i) (.slice a ts.length cap) 29:=by rw[aF];exact(au.av rfl).kept ((af.refl ae _).alloc _)
   have dK:au w1 (w.heap.size+1) (.int .i64 0) (.string (B [])) (.int .i64 0) (.slice none 0 0) 29:=by rw[aF];exact au.av (by simp)
   have TS:=wX ts (by omega) (fun t ht=>ih t ht (by have:=Tm.aK ht;omega)) w1 a cap (hE.on aH);obtain⟨ul,cZ⟩:∃ ul,ul=ts.length:=⟨_,rfl⟩;rw[<-cZ]at TS gy aF;rw[<-cZ];have HW:=ak aF;obtain⟨H,hH⟩:∃ H,H=w.heap.size:=⟨_,rfl⟩;have HH:=ak hH;rw[<-hH]at gy dK;have HL:=ak cZ;have mX:=dK.lt;clear aF hH cZ hR hE aX ih hs hlen;obtain⟨t0,t1,t2,t3⟩:=gy.cells;go_enter Tryz.func108,Tryz.ntmps108;go_upto_region 1 with fail;rw[<-show B []={ data:=#[] }from rfl,<-HW.out,<-HH.out];go_wp2_with fail
   (with_reducible refine TS.mono ?_);rintro e w4 ⟨sa,sc,rfl,fJ,⟨m,css,W5,hmn⟩,bw⟩;rw[<-HL.out]at fJ;rw[<-HL.out];have Dr:=gy.kept bw;have iX:=dK.kept bw;obtain⟨w5,gT⟩:∃ w5,w5=w4.setCell ⟨H,3,none⟩ (.slice sa ul sc):=⟨_,rfl⟩;have fH:af (fun x=>x=H) w4 w5:=by rw[gT];exact af.set (af.refl _ _) 3 _
   have Es:au w5 H (.int .i64 k) (.string (B n)) (.int .i64 i) (.slice sa ul sc) 29:=by rw[gT];exact Dr.mH _
   have dR:=iX.ag fH (by omega);have ah:=dR.set (d0:=.int .i64 k) (d1:=.string (B n)) (d2:=.int .i64 i) (d3:=.slice sa ul sc);obtain⟨x0,x1,x2,x3⟩:=Dr.cells;obtain⟨y0,y1,y2,y3⟩:=Dr.aq;have Tq:=Dr.lt
   have gN:lA ((((w5.setCell ⟨H+1,0,none⟩ (.int .i64 k)).setCell ⟨H+1,1,none⟩ (.string (B n))).setCell ⟨H+1,2,none⟩ (.int .i64 i)).setCell ⟨H+1,3,none⟩ (.slice sa ul sc)) H ((((w5.setCell ⟨H+1,0,none⟩ (.int .i64 k)).setCell ⟨H+1,1,none⟩ (.string (B n))).setCell ⟨H+1,2,none⟩ (.int .i64 i)).setCell ⟨H+1,3,none⟩ (.slice sa ul sc)).heap.size (Tm.mk k n i ts) [.int .i64 k,.string (B n),.int .i64 i,.slice sa ul sc]:=by
     have h1:=(W5.ag fH (fun b b1 _ e=>by omega)).ag ah.2 (fun b b1 _ e=>by omega);have h2:=(h1.node k n i (cap:=sc) (by rw[<-HL.out];exact fJ) (Nat.le_trans hmn (Nat.le_trans fH.size ah.2.size))).Te (lo':=H) (by omega) (Nat.le_refl _);rw[<-HL.out]at h2;exact h2
   have GK:=ak gT;have Y7:=ak (And.intro gN ah.2);obtain⟨e0,e1,e2,e3⟩:=ah.1.cells;have HE:=ak (And.intro e0 (And.intro e1 (And.intro e2 e3)));clear gT e0 e1 e2 e3 ah gN W5 hmn t0 t1 t2 t3;go_upto_region 2 with fail;rw[<-GK.out];obtain⟨p0,p1,p2,p3⟩:=Es.cells;obtain⟨r0,r1,r2,r3⟩:=dR.cells;obtain⟨f0,f1,f2,f3⟩:=dR.aq;have Gh:=dR.lt;go_wp2_with fail;obtain⟨e0,e1,e2,e3⟩:=HE.out;refine bodyPost_ret (v:=.agg #[.int .i64 k,.string (B n),.int .i64 i,.slice sa ul sc]) ?_ rfl ?_
   ·simp[results,Tryz.f108,go_sem,e0,e1,e2,e3]
   exact⟨k,i,n,sa,ul,sc,rfl,by rw[<-HH.out];exact Y7.out.1,((aH.and bw).trans fH (fun b hb e=>by have:=HH.out;omega)).trans Y7.out.2 (fun b hb e=>by have:=HH.out;omega)⟩
end
end Go.Proofs.YthgmimncdjhgnaaGreatDoor
