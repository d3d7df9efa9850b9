/- Bf.Abstract. -/
import Derived.Test.YthgmimncdjhgnaaGreatDoorXFU
import Derived.Test.YthgmimncdjhgnaaGreatDoorXRefRp
import Derived.Test.YthgmimncdjhgnaaGreatDoorXFO
set_option maxRecDepth 100000
set_option maxHeartbeats 16000000
namespace Go.Proofs.YthgmimncdjhgnaaGreatDoor
open Go.RowKit Go.LF
theorem js.Sq{O:Nat->Prop}{d:Nat}{W W1 W':World}{zs:List Tm}{g j d':Nat}{u:Tm}{d0 d1 d2 d3:Value}(h:js O d W (some ⟨g,0,none⟩) zs)(hj:j<zs.length)
    (hW:W1=(((W.setCell ⟨g,j * 4,none⟩ d0).setCell ⟨g,j * 4+1,none⟩ d1).setCell ⟨g,j * 4+2,none⟩ d2).setCell ⟨g,j * 4+3,none⟩ d3) (OC:af ae W1 W') (hR:aw (fun b=>b=g\/(j<d'/\O b)) W' u.az [d0,d1,d2,d3]) (hd:∀ i,i≠j->i<d'->i<d):
    js O d' W' (some ⟨g,0,none⟩) (zs.set j u)/\af (fun b=>b=g) W W':=by
  obtain⟨g',cs,e,aB,hf,nc,hc,_⟩:=h j hj;cases e
  have jG:∀ m,m<4->∃ u,W.cell? ⟨g,j * 4+m,none⟩=some u:=fun m hm=>⟨_,hc m _ (List.getElem?_eq_getElem (by rw[nc];exact hm))⟩
  obtain⟨_,u0⟩:=jG 0 (by omega);obtain⟨_,u1⟩:=jG 1 (by omega);obtain⟨_,u2⟩:=jG 2 (by omega);obtain⟨_,u3⟩:=jG 3 (by omega);obtain⟨⟨v0,v1,v2,v3⟩,mZ,hU⟩:=iv (d0:=d0) (d1:=d1) (d2:=d2) (d3:=d3) u0 u1 u2 u3 hW;refine⟨fun i hi=>?_,hU.trans OC (fun _ _ e=>e.elim)⟩;have dZ:i<zs.length:=by simpa using hi
  obtain⟨g',qs,e,kZ,hf',qI,AX,h7⟩:=h i dZ;cases e
  have Js:g<W1.heap.size:=Nat.lt_of_lt_of_le aB hU.size;have tG:∀ o,W'.frozen? ⟨g,o,none⟩=false:=fun o=>by rw[OC.cells.2 g o Js (fun x=>x),hW];simp only[World.frozen?_setCell];exact hf o
  by_cases Bc:i=j
  ·subst Bc;refine⟨g,[d0,d1,d2,d3],rfl,Nat.lt_of_lt_of_le Js OC.size,tG,rfl,fun m x hx=>?_,?_⟩
   ·match m,hx with
    |0,hx=>cases hx;exact OC.cell v0 (fun x=>x)
    |1,hx=>cases hx;exact OC.cell v1 (fun x=>x)
    |2,hx=>cases hx;exact OC.cell v2 (fun x=>x)
    |3,hx=>cases hx;exact OC.cell v3 (fun x=>x)
   simp only[List.getElem_set_self];exact hR
  refine⟨g,qs,rfl,Nat.lt_of_lt_of_le Js OC.size,tG,qI,fun m x hx=>?_,?_⟩
  ·have hm:m<4:=by rw[<-qI];exact(List.getElem?_eq_some_iff.1 hx).1
   refine OC.cell ?_ (fun x=>x);rw[mZ _ (by omega) (by omega) (by omega) (by omega)];exact AX m x hx
  rw[List.getElem_set_ne (by omega)];exact(aw.ag hU (fun b e=>.inl e) _ _ (aw.weaken (fun b _ e=>e.elim .inl (fun e=>.inr ⟨hd i Bc e.1,e.2⟩)) _ _ h7)).on OC
theorem uj(l:List Mv)(hP:lf l)(hS:eD l)(hl:l.length<=10)(a:Tm)(ms:List Tm)(jw:ms.length<=100)(eB:∀ t∈a :: ms,t.wt<=1000000/\(t.wf=0->(∀ i∈Tm.ay t,i<l.length)->Kn l.length t))(w:World)(la:Option Addr)(lc:Nat)(cs:List Value)(ma:Option Addr)(mc:Nat)
    (hL:ai ae w 6 (l.map Mv.az) la 0) (h:aw ae w a.az cs) (hM:ai ae w 4 (ms.map Tm.az) ma 0):
    Calls Tryz.prog 31 #[.slice la l.length lc,.agg cs.toArray,.slice ma ms.length mc] w (fq (iP l a ms) (lC l a ms) (jL l a ms) (tH l a ms) w):=by
  obtain⟨k,n,i,ts,aa,cap,htt,rfl,_,_⟩:=aP h;generalize ts.length=len at *
  obtain⟨w1,aF⟩:∃ w1,w1=(w.alloc (.cells #[.int .i64 k,.string (B n),.int .i64 i,.slice aa len cap] 29)).alloc (.cells #[.int .i64 0,.string (B []),.int .i64 0,.slice none 0 0] 29):=⟨_,rfl⟩;have aH:af ae w w1:=by rw[aF];exact((af.refl ae w).alloc _).alloc _
  have mN:au w1 w.heap.size (.int .i64 k) (.string (B n)) (.int .i64 i) (.slice aa len cap) 29:=by rw[aF];exact(au.av rfl).kept ((af.refl ae _).alloc _)
  have dK:au w1 (w.heap.size+1) (.int .i64 0) (.string (B [])) (.int .i64 0) (.slice none 0 0) 29:=by rw[aF];exact au.av (by simp)
  have di:=(aw.fR h).on aH;have Cd:=(ai.aG _ _ _ _ hM).on aH;have kA:=(ai.aG _ _ _ _ hL).on aH;have HW:=ak aF;obtain⟨H,hH⟩:∃ H,H=w.heap.size:=⟨_,rfl⟩;have HH:=ak hH;rw[<-hH]at mN dK di Cd kA;have FO:=fun(W:World)(a9:Option Addr)(c9:Nat)h9=>vU (a :: ms) (by simp;omega) (fun u hu=>(eB u hu).1) W a9 c9 h9
  simp only[List.length_cons]at FO;have EH:=ak eB;obtain⟨ml,jk⟩:∃ ml,ml=ms.length:=⟨_,rfl⟩;obtain⟨ll,du⟩:∃ ll,ll=l.length:=⟨_,rfl⟩;rw[<-jk,<-du];rw[<-jk]at jw;have HL:=ak (And.intro jk du);have HU:=ak aH;have Vt:(ml:Int)<=100:=by omega
  have mX:H+2<=w1.heap.size:=by have:=dK.lt;omega
  have fl:=gP.one (O:=fun b=>b=H\/b=H+1) (aw.weaken (fun b _ e=>.inr (by omega)) _ _ di);have cK:af ae w1 (w1.alloc (.cells #[.int .i64 k,.string (B n),.int .i64 i,.slice aa len cap] 29)):=(af.refl ae _).alloc _;clear aF hH h hM hL jk du aH htt eB;obtain⟨t0,t1,t2,t3⟩:=mN.cells;go_enter Tryz.func31,Tryz.ntmps31;go_upto_region 1 with fail;rw[<-show B []={ data:=#[] }from rfl,<-HW.out,<-HH.out];go_wp2_with (at_builtin;go_loud (refine eI (by rfl) _ _ (by rfl) (by rfl) fl ma ml mc ms (by rfl) HL.out.1 (ai.weaken (fun b _ e=>by right;rcases e with e |e;omega;omega) _ _ _ _ (Cd.on cK)) (by simp;have:=HL.out.1;omega) (by have:=cK.size;omega) ?_);intro v3 w3 Vm Ii tZ FM;have nL:=ck tZ;have aZ:af ae w1 w3:=(cK.trans nL (fun b hb e=>by simp[Value.ownBlock]at e;omega));obtain⟨va,vc,Ki,fp,BP⟩:=Ii.rep;subst Ki)
  (with_reducible refine(FO _ va vc (gq BP)).mono ?_);rintro e w2 ⟨rfl,E0⟩;have aL:=aZ.and E0;have dO:=dK.kept aL;have iD:=mN.kept aL;have xI:=(gq BP).on E0;clear FO fl cK nL Ii tZ FM BP t0 t1 t2 t3;obtain⟨q,hq⟩:∃ z:Int,z=bI Tm.wf (a :: ms):=⟨_,rfl⟩;rw[<-hq];have HQ:=ak hq;clear hq;have r9:=HU.out.and aL;have kF:=ak r9;clear r9;by_cases hq:q=0
  case neg=>
    have hE:=zv (l:=l) HQ.out.symm hq;have HE:=ak (And.intro hE hq);have hqb:(q !=0)=true:=by simpa using hq
    clear hE hq;obtain⟨r0,r1,r2,r3⟩:=dO.cells;obtain⟨y0,y1,y2,y3⟩:=dO.aq;have yn:=dO.lt;go_wp2_with fail;have ah:=dO.set (d0:=.int .i64 0) (d1:=.string (B [])) (d2:=.int .i64 0) (d3:=.slice none 0 0);obtain⟨w9,bf⟩:∃ z,z=(((w2.setCell ⟨H+1,0,none⟩ (.int .i64 0)).setCell ⟨H+1,1,none⟩ (.string (B []))).setCell ⟨H+1,2,none⟩ (.int .i64 0)).setCell ⟨H+1,3,none⟩ (.slice none 0 0):=⟨_,rfl⟩;rw[<-bf]at ah;try rw[<-show B []={ data:=#[] }from rfl]
    rw[<-bf];clear bf;obtain⟨e0,e1,e2,e3⟩:=ah.1.cells;refine bodyPost_ret (v:=.tuple #[.agg #[.int .i64 0,.string (B []),.int .i64 0,.slice none 0 0],.slice none 0 0,.int .i64 0,.int .i64 q]) ?_ rfl ?_
    ·simp[results,Tryz.f31,go_sem,e0,e1,e2,e3]
    exact fq.bad HE.out.1 HE.out.2 (kF.out.trans ah.2 (fun b hb e=>by have:=HH.out;omega))
  subst hq;have tU:bI Tm.wf (a :: ms)=0:=HQ.out.symm;have fO:∀ t∈a :: ms,t.wf=0/\t.small=true:=fun t ht=>⟨kI Tm.wf _ tU t ht,yO (kI Tm.wf _ tU t ht)⟩
  have KZ:=(fO a (by simp)).2;have IT:=fun(W:World)(hW:af ae w2 W)=>pk a (EH.out a (by simp)).1 W _ ((fg (di.on aL)).on hW)
  have IK:=fun(W:World)(hW:af ae w2 W)=>xW a (EH.out a (by simp)).1 W _ ((fg (di.on aL)).on hW)
  rw[KZ]at IT IK;simp only[Bool.and_true]at IT IK;have Ia:=ak (And.intro tU fO);obtain⟨bb,rh⟩:∃ z,z=(!(a.aC || a.aI)):=⟨_,rfl⟩;have En:=ak rh;obtain⟨bt,E5⟩:∃ z,z=a.aC:=⟨_,rfl⟩;obtain⟨bk,OM⟩:∃ z,z=a.aI:=⟨_,rfl⟩;rw[<-E5]at IT;rw[<-OM]at IK;have hbq:bb=(!bt && !bk):=by rw[rh,<-E5,<-OM,Bool.not_or]
  have HBQ:=ak hbq;obtain⟨t0,t1,t2,t3⟩:=iD.cells;clear tU fO KZ rh E5 OM hbq;go_upto_region 5 with fail;go_cut [37]from 30 to 37 (fun v37 wx=>v37=.bool bb/\af ae w2 wx)
  case first=>
    have OK:=IT w2 (af.refl _ _);clear IT;cases bt
    ·go_wp2_with fail
     (with_reducible refine OK.mono ?_);rintro e w3 ⟨rfl,aZ⟩;have IK3:=IK w3 aZ;obtain⟨t0,t1,t2,t3⟩:=(iD.kept aZ).cells;clear OK IK;cases bk
     all_goals
       go_wp2_with fail
       (with_reducible refine IK3.mono ?_);rintro e w4 ⟨rfl,bw⟩;go_wp2_with fail;go_meet
       exact⟨by rw[HBQ.out];rfl,aZ.and bw⟩
    go_wp2_with fail
    (with_reducible refine OK.mono ?_);rintro e w3 ⟨rfl,aZ⟩;go_wp2_with fail;go_meet
    exact⟨by rw[HBQ.out];rfl,aZ⟩
  obtain⟨rfl,aZ⟩:=hcut;obtain⟨w3,rfl⟩:∃ z,z=wc:=⟨_,rfl⟩;have iL:=dO.kept aZ;clear IT IK t0 t1 t2 t3 iD dO mN dK;cases bb
  case true=>
    have hE:=su (l:=l) (ms:=ms) Ia.out.1 (by rw[<-En.out];rfl);have HE:=ak hE;clear hE;obtain⟨r0,r1,r2,r3⟩:=iL.cells;obtain⟨y0,y1,y2,y3⟩:=iL.aq;have yn:=iL.lt;go_wp2_with fail;have ah:=iL.set (d0:=.int .i64 0) (d1:=.string (B [])) (d2:=.int .i64 0) (d3:=.slice none 0 0);obtain⟨w9,bf⟩:∃ z,z=(((w3.setCell ⟨H+1,0,none⟩ (.int .i64 0)).setCell ⟨H+1,1,none⟩ (.string (B []))).setCell ⟨H+1,2,none⟩ (.int .i64 0)).setCell ⟨H+1,3,none⟩ (.slice none 0 0):=⟨_,rfl⟩;rw[<-bf]at ah;try rw[<-show B []={ data:=#[] }from rfl]
    rw[<-bf];clear bf;obtain⟨e0,e1,e2,e3⟩:=ah.1.cells;refine bodyPost_ret (v:=.tuple #[.agg #[.int .i64 0,.string (B []),.int .i64 0,.slice none 0 0],.slice none 0 0,.int .i64 0,.int .i64 32]) ?_ rfl ?_
    ·simp[results,Tryz.f31,go_sem,e0,e1,e2,e3]
    exact fq.bad HE.out (by decide) ((kF.out.and aZ).trans ah.2 (fun b hb e=>by have:=HH.out;omega))
  case false=>
    have KC:=(Cd.on aL).on aZ;go_wp2_with fail;go_loopw [12] (fun v12 wr=>∃(j:Nat),v12=.int .i64 (j:Int)/\j<=ml/\(∀ x(_:x<j)(h:x<ms.length),ms[x].isObj=true)/\af ae w3 wr) (fun v12 _=>ml - (intOf v12).toNat)
    case atStart=>exact⟨0,rfl,Nat.zero_le _,fun x hx=>absurd hx (by omega),af.refl _ _⟩
    obtain⟨j,rfl,hj,pK,hU⟩:=hrel;obtain⟨wj,rfl⟩:∃ z,z=wr:=⟨_,rfl⟩;have XZ:=ak pK;clear pK;have hjj:(j:Int)<=100:=by omega
    by_cases aB:j<ml
    ·have b7:j<ms.length:=by have:=HL.out.1;omega
     have hji:(j:Int)<(ml:Int):=by omega
     obtain⟨mb,mo,mk,mn,mi,maa,Q8,rfl,Vr,_,p0,p1,p2,p3,tC⟩:=aY (KC.on hU) j b7;have KL:=List.getElem_mem b7;have iO:=jy ms[j] (EH.out _ (by simp[KL])).1 wj _ (fg tC);rw[(Ia.out.2 ms[j] (by simp[KL])).2,Bool.and_true]at iO;obtain⟨ob,sP⟩:∃ z,z=ms[j].isObj:=⟨_,rfl⟩;rw[<-sP]at iO;generalize ms[j].args.length=ul at *
     have HO:=ak (And.intro sP b7);clear sP tC KL;cases ob
     case false=>
       have hE:=su (l:=l) (a:=a) Ia.out.1 (by rw[Bool.or_eq_true,List.any_eq_true];exact .inr ⟨ms[j],List.getElem_mem b7,by rw[<-HO.out.1];rfl⟩);have HE:=ak hE;clear hE;go_wp2_with fail
       (with_reducible refine iO.mono ?_);rintro e wn ⟨rfl,jz⟩;have mm:=(iL.kept hU).kept jz;obtain⟨r0,r1,r2,r3⟩:=mm.cells;obtain⟨y0,y1,y2,y3⟩:=mm.aq;have yn:=mm.lt;go_wp2_with fail;have ah:=mm.set (d0:=.int .i64 0) (d1:=.string (B [])) (d2:=.int .i64 0) (d3:=.slice none 0 0);obtain⟨w9,bf⟩:∃ z,z=(((wn.setCell ⟨H+1,0,none⟩ (.int .i64 0)).setCell ⟨H+1,1,none⟩ (.string (B []))).setCell ⟨H+1,2,none⟩ (.int .i64 0)).setCell ⟨H+1,3,none⟩ (.slice none 0 0):=⟨_,rfl⟩;rw[<-bf]at ah;try rw[<-show B []={ data:=#[] }from rfl]
       rw[<-bf];clear bf;obtain⟨e0,e1,e2,e3⟩:=ah.1.cells;refine bodyPost_ret (v:=.tuple #[.agg #[.int .i64 0,.string (B []),.int .i64 0,.slice none 0 0],.slice none 0 0,.int .i64 0,.int .i64 32]) ?_ rfl ?_
       ·simp[results,Tryz.f31,go_sem,e0,e1,e2,e3]
       exact fq.bad HE.out (by decide) ((((kF.out.and aZ).and hU).and jz).trans ah.2 (fun b hb e=>by have:=HH.out;omega))
     case true=>
       go_wp2_with fail
       (with_reducible refine iO.mono ?_);rintro e wn ⟨rfl,jz⟩
       have ql:∀ x(_:x<j+1)(h:x<ms.length),ms[x].isObj=true:=fun x hx h=>by
         rcases Nat.lt_succ_iff_lt_or_eq.1 hx with h9 |h9
         ·exact XZ.out x h9 h
         subst h9;exact HO.out.1.symm
       have Xs:=ak ql;clear ql;go_wp2_with fail;go_roundw;case rel=>exact⟨j+1,by go_num,by omega,Xs.out,hU.and jz⟩
       simp[intOf];omega
    have zT:∀ x∈ms,x.isObj=true:=fun x hx=>by
      obtain⟨q,hq,rfl⟩:=List.getElem_of_mem hx;exact XZ.out q (by have:=HL.out.1;omega) hq
    have xH:(!(a.aC || a.aI)|| ms.any (fun m=>!m.isObj))=false:=by
      rw[<-En.out,Bool.false_or,List.any_eq_false];intro x hx;simp[zT x hx]
    have Eh:=ak xH;have aqc:=ak zT;have lg:=aZ.and hU;have iX:=iL.kept hU;have XV:ai ae wj 4 ((a :: ms).map Tm.az) va 0:=xI.on lg;have sA:¬(j:Int)<(ml:Int):=by omega
    clear zT xH KC iL XZ;obtain⟨al,cK⟩:∃ z,z=ms.length+1:=⟨_,rfl⟩;have HAL:=ak cK;have anV:(al:Int)<=101:=by have:=HL.out.1;omega
    rw[<-cK];clear cK;go_wp2_with fail;go_loopw [13] (fun PV wr=>∃(j:Nat),PV=.int .i64 (j:Int)/\j<=al/\(∀ x(_:x<j)(h:x<(a :: ms).length),(a :: ms)[x].scope<=0)/\af ae wj wr) (fun PV _=>al - (intOf PV).toNat)
    case atStart=>exact⟨0,rfl,Nat.zero_le _,fun x hx=>absurd hx (by omega),af.refl _ _⟩
    obtain⟨p,rfl,hp,fJ,hV⟩:=hrel;obtain⟨wp,rfl⟩:∃ z,z=wr:=⟨_,rfl⟩;have R6:=ak fJ;clear fJ;have hpp:(p:Int)<=101:=by omega
    by_cases hlp:p<al
    ·have jB:p<(a :: ms).length:=by have:=HAL.out;simp;omega
     have Ip:(p:Int)<(al:Int):=by omega
     obtain⟨mb,mo,mk,mn,mi,maa,Q8,rfl,Vr,_,p0,p1,p2,p3,tC⟩:=aY (XV.on hV) p jB;have KL:=List.getElem_mem jB;have SC:=mD (a :: ms)[p] (EH.out _ KL).1 wp _ (fg tC);rw[(Ia.out.2 (a :: ms)[p] KL).1]at SC;simp only[beq_self_eq_true,if_true]at SC;obtain⟨sc,fJ⟩:∃ z,z=(a :: ms)[p].scope:=⟨_,rfl⟩;rw[<-fJ]at SC;generalize (a :: ms)[p].args.length=ul at *
     have HO:=ak (And.intro fJ jB);clear fJ tC KL;by_cases h0:0<sc
     ·have hE:=uY (l:=l) Ia.out.1 Eh.out (by rw[List.any_eq_true];exact⟨(a :: ms)[p],List.getElem_mem jB,by rw[<-HO.out.1];simpa using h0⟩);have HE:=ak hE;clear hE;go_wp2_with fail
      (with_reducible refine SC.mono ?_);rintro e wn ⟨rfl,jz⟩;have mm:=(iX.kept hV).kept jz;obtain⟨r0,r1,r2,r3⟩:=mm.cells;obtain⟨y0,y1,y2,y3⟩:=mm.aq;have yn:=mm.lt;go_wp2_with fail;have ah:=mm.set (d0:=.int .i64 0) (d1:=.string (B [])) (d2:=.int .i64 0) (d3:=.slice none 0 0);obtain⟨w9,bf⟩:∃ z,z=(((wn.setCell ⟨H+1,0,none⟩ (.int .i64 0)).setCell ⟨H+1,1,none⟩ (.string (B []))).setCell ⟨H+1,2,none⟩ (.int .i64 0)).setCell ⟨H+1,3,none⟩ (.slice none 0 0):=⟨_,rfl⟩;rw[<-bf]at ah;try rw[<-show B []={ data:=#[] }from rfl]
      rw[<-bf];clear bf;obtain⟨e0,e1,e2,e3⟩:=ah.1.cells;refine bodyPost_ret (v:=.tuple #[.agg #[.int .i64 0,.string (B []),.int .i64 0,.slice none 0 0],.slice none 0 0,.int .i64 0,.int .i64 3]) ?_ rfl ?_
      ·simp[results,Tryz.f31,go_sem,e0,e1,e2,e3]
      exact fq.bad HE.out (by decide) ((((kF.out.and lg).and hV).and jz).trans ah.2 (fun b hb e=>by have:=HH.out;omega))
     have ql:∀ x(_:x<p+1)(h:x<(a :: ms).length),(a :: ms)[x].scope<=0:=fun x hx h=>by
       rcases Nat.lt_succ_iff_lt_or_eq.1 hx with h9 |h9
       ·exact R6.out x h9 h
       subst h9;rw[<-HO.out.1];omega
     have Xs:=ak ql;clear ql;go_wp2_with fail
     (with_reducible refine SC.mono ?_);rintro e wn ⟨rfl,jz⟩;go_wp2_with fail;go_roundw;case rel=>exact⟨p+1,by go_num,by omega,Xs.out,hV.and jz⟩
     simp[intOf];omega
    have AS:∀ t∈a :: ms,t.scope<=0:=fun x hx=>by
      obtain⟨q,hq,rfl⟩:=List.getElem_of_mem hx;exact R6.out q (by have:=HAL.out;simp at hq;omega) hq
    have Us:(a :: ms).any (fun t=>decide (0<t.scope))=false:=by
      rw[List.any_eq_false];intro x hx;have:=AS x hx;simp;omega
    have WD:=ak Us;have apc:=ak AS;have ze:=lg.and hV;have abg:=iX.kept hV;have Rh:¬(p:Int)<(al:Int):=by omega
    have CN:=xZ l hP (a :: ms) EH.out (by have:=HL.out.1;simp;omega) wp la lc va vc ((gq (kA.on aL)).on ze) (XV.on hV);simp only[List.length_cons]at CN;rw[<-HL.out.2,<-HAL.out]at CN;clear Us AS R6 XV;go_wp2_with fail
    (with_reducible refine CN.mono ?_);rintro e w5 ⟨ka,ua,kc,uc,rfl,⟨MK,EI⟩,uG,WT,yM,ba⟩;have mW:=ze.and ba;have dR:=abg.kept ba;have DX:H+2<=wp.heap.size:=by have h8:=aL.size;have h9:=ze.size;omega
    clear CN abg iX;obtain⟨ue,T6⟩:∃ z,z=iz l (a :: ms):=⟨_,rfl⟩;rw[<-T6];have T5:=ak T6;clear T6;by_cases hu:ue=0
    case neg=>
      have hE:=wv (l:=l) Ia.out.1 Eh.out WD.out (by rw[<-T5.out];exact hu);rw[<-T5.out]at hE;have HE:=ak (And.intro hE hu);have hub:(ue !=0)=true:=by simpa using hu
      clear hE hu;generalize (fQ l (a :: ms)).length=cl at *
      generalize (fk l (a :: ms)).length=kl at *
      go_upto_region 19 with fail;obtain⟨r0,r1,r2,r3⟩:=dR.cells;obtain⟨y0,y1,y2,y3⟩:=dR.aq;have yn:=dR.lt;go_wp2_with fail;have ah:=dR.set (d0:=.int .i64 0) (d1:=.string (B [])) (d2:=.int .i64 0) (d3:=.slice none 0 0);obtain⟨w9,bf⟩:∃ z,z=(((w5.setCell ⟨H+1,0,none⟩ (.int .i64 0)).setCell ⟨H+1,1,none⟩ (.string (B []))).setCell ⟨H+1,2,none⟩ (.int .i64 0)).setCell ⟨H+1,3,none⟩ (.slice none 0 0):=⟨_,rfl⟩;rw[<-bf]at ah;try rw[<-show B []={ data:=#[] }from rfl]
      rw[<-bf];clear bf;obtain⟨e0,e1,e2,e3⟩:=ah.1.cells;refine bodyPost_ret (v:=.tuple #[.agg #[.int .i64 0,.string (B []),.int .i64 0,.slice none 0 0],.slice none 0 0,.int .i64 0,.int .i64 ue]) ?_ rfl ?_
      ·simp[results,Tryz.f31,go_sem,e0,e1,e2,e3]
      exact fq.bad HE.out.1 HE.out.2 ((kF.out.and mW).trans ah.2 (fun b hb e=>by have:=HH.out;omega))
    subst hu;have qx:iz l (a :: ms)=0:=T5.out.symm
    have Bp:a.aC=true\/a.aI=true:=by
      have h9:=Eh.out;rw[Bool.or_eq_false_iff]at h9;have h8:=h9.1;revert h8;cases a.aC<;>cases a.aI<;>simp
    have zT:∀ x∈ms,x.isObj=true:=by
      have h9:=Eh.out;rw[Bool.or_eq_false_iff,List.any_eq_false]at h9;intro x hx;simpa using h9.2 x hx
    have AS:∀ t∈a :: ms,t.scope<=0:=by
      have h9:=WD.out;rw[List.any_eq_false]at h9;intro x hx;have:=h9 x hx;simp at this;omega
    have J2:=(rl hP qx).sH;obtain⟨lD,Bq,jr⟩:=oJ hP hS hl qx Bp zT AS;have BQ:=(jV hP qx).2;have nr:=yD Ia.out.1 Eh.out WD.out qx J2.len;obtain⟨KS,ti⟩:∃ z,z=fk l (a :: ms):=⟨_,rfl⟩;obtain⟨TS,H8⟩:∃ z,z=fQ l (a :: ms):=⟨_,rfl⟩;obtain⟨SS,K7⟩:∃ z,z=kC l (a :: ms):=⟨_,rfl⟩;rw[<-ti]at J2 jr BQ uG MK ⊢;rw[<-H8]at lD jr BQ uG WT yM EI ⊢;rw[<-K7]at Bq jr nr
    have ng:∀ i(hi:i<TS.length),TS[i].wf=0/\TS[i].size<=4096/\RR KS.length TS[i]:=fun i hi=>by
      have h9:=BQ i (by simp;omega) hi;exact⟨h9.2.1,(Tm.dz h9.2.1).2.1,h9.2.2.1⟩
    have HK:=ak (And.intro ti (And.intro H8 (And.intro K7 (And.intro nr (And.intro J2 (And.intro jr ng))))));obtain⟨kl,r7⟩:∃ z,z=KS.length:=⟨_,rfl⟩;obtain⟨zl,Cx⟩:∃ z,z=TS.length:=⟨_,rfl⟩;have ab7:kl<=40:=by rw[r7];exact J2.len
    have nz:zl=ml+1:=by rw[Cx,lD,<-HL.out.1]
    rw[<-r7,<-Cx];have Iy:=ak (And.intro r7 (And.intro Cx (And.intro nz (by rw[Bq,nz,<-HL.out.1]:SS.length=zl))));have YR:js (fun b=>b<=H+1) 0 w5 ua (SS.take 0++TS.drop 0):=by rw[List.take_zero,List.drop_zero,List.nil_append];exact js.start WT
    have aio:(kl:Int)<=40:=by omega
    have agU:(zl:Int)<=101:=by omega
    clear qx Bp zT AS J2 jr BQ nr ti H8 K7 r7 Cx lD Bq WT ng nz kA di Cd xI;go_upto_region 23 with fail;go_wp2_with fail
    go_loopw [18] (fun Uw wr=>∃(i:Nat),Uw=.int .i64 (i:Int)/\i<=zl/\(∀ x∈SS.take i,x.small=true)/\js (fun b=>b<=H+1) i wr ua (SS.take i++TS.drop i)/\af (fun b=>ua=some ⟨b,0,none⟩/\0<TS.length) w5 wr)
      (fun Uw _=>zl - (intOf Uw).toNat)
    case atStart=>exact⟨0,rfl,Nat.zero_le _,fun x hx=>by simp at hx,YR,af.refl _ _⟩
    clear YR;obtain⟨i,rfl,hi,m7,hY,iB⟩:=hrel;have hii:(i:Int)<=101:=by omega
    have Jb:=ai.ag iB (fun b e=>e) _ _ _ _ uG;have rL:=dR.ag iB (fun e=>by have h8:=yM _ e.2 e.1;have h9:=dR.lt;omega);by_cases aB:i<zl
    ·obtain⟨ti,H8,K7,nr,J2,jr,ng⟩:=HK.out;obtain⟨r7,Cx,nz,Bq⟩:=Iy.out;have Rb:i<TS.length:=by omega
     have LS:i<SS.length:=by omega
     have jh:(SS.take i).length=i:=by rw[List.length_take];omega
     have OT:i<(SS.take i++TS.drop i).length:=by rw[List.length_append,jh,List.length_drop];omega
     have Yt:(SS.take i++TS.drop i)[i]=TS[i]:=by
       rw[List.getElem_append_right (by omega)];simp only[jh,Nat.sub_self,List.getElem_drop];rfl
     have BY:(SS.take i++TS.drop i).set i SS[i]=SS.take (i+1)++TS.drop (i+1):=by
       rw[List.set_append_right _ _ (by omega),jh,Nat.sub_self,List.drop_eq_getElem_cons Rb,List.set_cons_zero,List.take_succ_eq_append_getElem LS,List.append_assoc];rfl
     obtain⟨g,k1,n1,i1,b1,c1,rfl,px,sR,⟨p0,p1,p2,p3⟩,lV⟩:=hY.open OT;rw[Yt]at p3 lV;obtain⟨e1,e2,e3⟩:=jr i Rb LS;obtain⟨c2,c3,c4⟩:=ng i Rb;have FV:=(Tm.pD _ c2).1;obtain⟨pi,Ip⟩:∃ z,z=((i:Int) == 0):=⟨_,rfl⟩;rw[<-Ip]at e1;have ais:=Ip.symm;obtain⟨U,Z4⟩:∃ z,z=TS[i]:=⟨_,rfl⟩;obtain⟨V,Qi⟩:∃ z,z=SS[i]:=⟨_,rfl⟩;rw[<-Z4]at p3 lV e1 c2 c3 c4 FV;rw[<-Qi]at e1 e2 e3 BY;have hV:V=tV pi KS kl (sH kl 0 U):=by rw[e1];unfold m8;rw[r7]
     have eQ:SS.take (i+1)=SS.take i++[V]:=by rw[List.take_succ_eq_append_getElem LS,Qi]
     have Cp:V.small=false->SS.all Tm.small=false:=fun e=>by rw[List.all_eq_false];exact⟨V,by rw[Qi];exact List.getElem_mem LS,by rw[e];decide⟩
     have HI:=ak (And.intro OT (And.intro BY (And.intro hV (And.intro e2 (And.intro e3 (And.intro eQ Cp))))));have G5:H+2<=wr.heap.size:=by have h8:=ba.size;have h9:=iB.size;omega
     have zH:0<TS.length:=by omega
     have BD:=pC (kl:Int) (by omega) (by omega) U (by omega) (fun b x hx e=>by have h9:=(FV b x hx).2.1 (by simp[e]);omega) 0 wr _ (by omega) (by omega) (fg lV);have abt:i<(SS.take i++TS.drop i).length:=HI.out.1;have kZ:(i:Int)<(zl:Int):=by omega
     obtain⟨u0,IQ⟩:∃ u,u=sH kl 0 U:=⟨_,rfl⟩;rw[show xQ (eS (kl:Int)) 0 U=u0 from IQ.symm]at BD;rw[<-IQ]at hV;have HV:=ak hV;generalize U.args.length=ul at *
     clear ti H8 K7 nr jr ng r7 Cx nz Bq Rb LS jh OT Yt BY e1 e2 e3 c2 c3 c4 FV Ip Z4 Qi hV lV eQ Cp IQ;go_upto_region 26 with fail;go_wp2_with fail
     (with_reducible refine BD.mono ?_);rintro e w7 ⟨k7,i7,n7,a7,l7,c7,rfl,og,cm⟩;have kX:=js.put (W':=(((w7.setCell ⟨g,i * 4,none⟩ (.int .i64 k7)).setCell ⟨g,i * 4+1,none⟩ (.string (B n7))).setCell ⟨g,i * 4+2,none⟩ (.int .i64 i7)).setCell ⟨g,i * 4+3,none⟩ (.slice a7 l7 c7)) (d':=i+1) (hY.kept cm) abt (aw.weaken (fun b _ e=>by rcases e with e |⟨_,e⟩<;>omega) _ _ og) (fun x h8 h9=>by omega) rfl;obtain⟨w8,mT⟩:∃ z,z=(((w7.setCell ⟨g,i * 4,none⟩ (.int .i64 k7)).setCell ⟨g,i * 4+1,none⟩ (.string (B n7))).setCell ⟨g,i * 4+2,none⟩ (.int .i64 i7)).setCell ⟨g,i * 4+3,none⟩ (.slice a7 l7 c7):=⟨_,rfl⟩;rw[<-mT]at kX;have XK:=ai.ag kX.2 (fun b e=>⟨by rw[e],zH⟩) _ _ _ _ (Jb.on cm);have oF:=(rL.kept cm).ag kX.2 (fun e=>by have h8:=yM g zH rfl;omega);have hY8:=kX.1;have Ls:af (fun b=>b=g) wr w8:=(cm.mono (fun _ _ e=>e.elim)).trans kX.2 (fun _ _ e=>e);have aeK:=Ls.size;have q0:=cm.cell p0 (fun x=>x);have q1:=cm.cell p1 (fun x=>x);have q2:=cm.cell p2 (fun x=>x);have q3:=cm.cell p3 (fun x=>x);have aex:∀ o,w7.frozen? ⟨g,o,none⟩=false:=fun o=>by rw[cm.cells.2 g o px (fun x=>x)];exact sR o
     have ard:g<w7.heap.size:=Nat.lt_of_lt_of_le px cm.size;have Vi:=ak mT;clear mT kX BD p0 p1 p2 p3 hY Jb rL og;go_wp2_with fail;rw[<-Vi.out];clear q0 q1 q2 q3 aex;obtain⟨wq,rfl⟩:∃ z,z=wr:=⟨_,rfl⟩
     go_loopw [19] (fun Tu wz=>∃(j:Nat)(u:Tm),Tu=.int .i64 ((j:Int) - 1)/\j<=kl/\tV pi KS j u=V/\js (fun b=>b<=H+1) (i+1) wz (some ⟨g,0,none⟩) ((SS.take i++TS.drop i).set i u)/\af (fun b=>b=g) w8 wz)
       (fun Tu _=>(intOf Tu+1).toNat)
     case atStart=>exact⟨kl,u0,rfl,Nat.le_refl _,HV.out.symm,hY8,af.refl _ _⟩
     clear hY8;obtain⟨j,u,rfl,hj,OY,OD,Mn⟩:=hrel;obtain⟨wz,rfl⟩:∃ z,z=wr:=⟨_,rfl⟩;have hji:(j:Int)<=40:=by omega
     have hXu:i<((SS.take i++TS.drop i).set i u).length:=by rw[List.length_set];exact abt
     obtain⟨g',k6,n6,i6,a6,c6,e6,QY,PB,⟨z0,z1,z2,z3⟩,KB⟩:=OD.open hXu;cases e6
     rw[List.getElem_set_self]at z3 KB;generalize u.args.length=l6 at *
     have XI:=ak OY;have hKz:=ai.ag Mn (fun b e=>⟨by rw[e],zH⟩) _ _ _ _ XK;have Tg:=oF.ag Mn (fun e=>by have h8:=yM g zH rfl;omega);have Wv:af (fun b=>b=g) wq wz:=Ls.trans Mn (fun _ _ e=>e);have hzz:=Wv.size;by_cases Fl:0<j
     ·obtain⟨m,rfl⟩:∃ m,j=m+1:=⟨j - 1,by omega⟩;have r7:=Iy.out.1;have zW:m<KS.length:=by omega
      have hjv:(((m+1:Nat):Int) - 1)=(m:Int):=by omega
      rw[hjv];obtain⟨kb,ko,mk,mn,mi,maa,Q8,mva,mvc,rfl,ahd,ag2,⟨d0,d1,d2,d3,d4,d5⟩,tC,PT,hVm⟩:=ja hKz m zW;obtain⟨QL,I8,ID,Pc⟩:=HK.out.2.2.2.2.1.kQ m zW;have Z3:=(kH I8).1;have hd:af ae wz wz.drew:=(af.refl ae wz).drew;have dY:tV pi KS m (par pi KS[m] m u)=V:=by rw[<-XI.out,tV,rC _ _ zW]
      have Dy:(m:Int)<(kl:Int):=by omega
      have pf:(0:Int)<=(m:Int):=by omega
      have B7:=ak dY;have dd:∀ v,((SS.take i++TS.drop i).set i u).set i v=(SS.take i++TS.drop i).set i v:=fun v=>List.set_set _
      clear OY dY r7;cases pi
      case true=>
        have PM:=pC (m:Int) (by omega) (by omega) KS[m].type (by omega) (fun b x hx e=>by have h9:=(Tm.oz (M:=fun k _ i=>k=6->0<=i/\i<(m:Int)) _ b).1 ID x hx e;omega) 0 wz.drew _ (by omega) (by omega) ((fg tC).on hd);obtain⟨tm,htm⟩:∃ t,t=sH m 0 KS[m].type:=⟨_,rfl⟩;rw[show xQ (eS (m:Int)) 0 KS[m].type=tm from htm.symm]at PM;have tK:tV true KS m (.mk 2 KS[m].name 0 [tm,u])=V:=by rw[htm];exact B7.out
        have HPA:=ak tK;generalize KS[m].type.args.length=kal at *
        generalize KS[m].value.length=kvl at *
        generalize KS[m].name=OF at *
        have x0:=hd.cell d0 (fun x=>x);have x1:=hd.cell d1 (fun x=>x);have x2:=hd.cell d2 (fun x=>x);have x3:=hd.cell d3 (fun x=>x);have x4:=hd.cell d4 (fun x=>x);have y0:=hd.cell z0 (fun x=>x);have y1:=hd.cell z1 (fun x=>x);have y2:=hd.cell z2 (fun x=>x);have y3:=hd.cell z3 (fun x=>x);clear tK htm tC hVm PT d0 d1 d2 d3 d4 d5 QL I8 ID Pc;go_upto_region 31 with fail;go_region_law ((rw[if_pos (by rfl)]);go_simp;(go_at_call 79);(with_reducible refine PM.mono ?_);rintro e w9 ⟨k9,i9,n9,a9,l9,c9,rfl,oK,bU⟩;have s0:=bU.cell x0 (fun x=>x);have Hk:=(af.refl ae w9).alloc (.cells #[.int .i64 k9,.string (B n9),.int .i64 i9,.slice a9 l9 c9,.int .i64 k6,.string (B n6),.int .i64 i6,.slice a6 l6 c6] 29);have s0a:=Hk.cell s0 (fun x=>x);have r0:=bU.cell y0 (fun x=>x);have r1:=bU.cell y1 (fun x=>x);have r2:=bU.cell y2 (fun x=>x);have r3:=bU.cell y3 (fun x=>x);have Qo:∀ o,w9.frozen? ⟨g,o,none⟩=false:=(fun o=>by rw[(hd.and bU).cells.2 g o QY (fun x=>x)];exact PB o);have aom:g<w9.heap.size:=Nat.lt_of_lt_of_le QY (hd.and bU).size)
        all_goals
          have BK:af (fun b=>b=g) w9 ((((w9.setCell ⟨g,i * 4,none⟩ (.int .i64 2)).setCell ⟨g,i * 4+1,none⟩ (.string (B OF))).setCell ⟨g,i * 4+2,none⟩ (.int .i64 0)).setCell ⟨g,i * 4+3,none⟩ (.slice (some ⟨w9.heap.size,0,none⟩) 2 2)):=af.set (af.set (af.set (af.set (af.refl _ _) _ _) _ _) _ _) _ _;obtain⟨wB,Cj⟩:∃ z,z=((((w9.setCell ⟨g,i * 4,none⟩ (.int .i64 2)).setCell ⟨g,i * 4+1,none⟩ (.string (B OF))).setCell ⟨g,i * 4+2,none⟩ (.int .i64 0)).setCell ⟨g,i * 4+3,none⟩ (.slice (some ⟨w9.heap.size,0,none⟩) 2 2)):=⟨_,rfl⟩;rw[<-Cj]at BK;have hzB:wB.heap.size=w9.heap.size:=by rw[Cj];simp
          have aqt:wz.heap.size<=w9.heap.size:=(hd.and bU).size;obtain⟨wC,Qv⟩:∃ z,z=wB.alloc (.cells #[.int .i64 k9,.string (B n9),.int .i64 i9,.slice a9 l9 c9,.int .i64 k6,.string (B n6),.int .i64 i6,.slice a6 l6 c6] 29):=⟨_,rfl⟩;have Sp:af ae wB wC:=by rw[Qv];exact(af.refl ae _).alloc _
          have hnB:wC.heap[w9.heap.size]? =some (.cells #[.int .i64 k9,.string (B n9),.int .i64 i9,.slice a9 l9 c9,.int .i64 k6,.string (B n6),.int .i64 i6,.slice a6 l6 c6] 29 (0,0)):=by rw[Qv,<-hzB];exact heap_alloc_new wB _
          have hch:=yY (O:=fun b=>b=g\/(i<i+1/\b<=H+1)) (T:=29) ((aw.weaken (fun b _ e=>by have:=hd.size;rcases e with e |⟨_,e⟩<;>omega) _ _ (aw.ag BK (fun b e=>by have:=hd.size;omega) _ _ oK)).on Sp) ((aw.ag BK (fun b e=>.inl e) _ _ (KB.on (hd.and bU))).on Sp) (by rintro(e |⟨_,e⟩)<;>omega) hnB;have kX:=js.Sq (d':=i+1) (u:=.mk 2 OF 0 [tm,u]) (OD.kept (hd.and bU)) hXu Cj Sp (bg.2 ⟨_,2,rfl,Nat.le_refl _,hch⟩) (fun x h8 h9=>h9);rw[dd]at kX;have jz:=Mn.trans (((hd.and bU).mono (S':=fun b=>b=g) (fun _ _ e=>e.elim)).trans kX.2 (fun _ _ e=>e)) (fun _ _ e=>e);have HN:=ak (And.intro kX.1 jz);have HWC:=ak Qv;have HWB:=ak Cj;clear kX jz hch hnB Qv Cj BK Sp oK bU PM x0 x1 x2 x3 x4 y0 y1 y2 y3 s0 s0a r0 r1 r2 r3 Qo Hk z0 z1 z2 z3 KB OD PB;rw[<-HWB.out,<-HWC.out];go_wp2_with fail;go_roundw;case rel=>exact⟨m,.mk 2 OF 0 [tm,u],by go_num,by omega,HPA.out,HN.out.1,HN.out.2⟩
          simp[intOf]
      case false=>
        have tK:tV false KS m (.mk 3 KS[m].name 0 [u])=V:=B7.out;have HPA:=ak tK;generalize KS[m].type.args.length=kal at *
        generalize KS[m].value.length=kvl at *
        generalize KS[m].name=OF at *
        have x0:=hd.cell d0 (fun x=>x);have y0:=hd.cell z0 (fun x=>x);have y1:=hd.cell z1 (fun x=>x);have y2:=hd.cell z2 (fun x=>x);have y3:=hd.cell z3 (fun x=>x);have Hk:=((af.refl ae wz).alloc (.cells #[.int .i64 k6,.string (B n6),.int .i64 i6,.slice a6 l6 c6] 29)).drew;have x0a:=Hk.cell d0 (fun x=>x);have ya0:=Hk.cell z0 (fun x=>x);have ya1:=Hk.cell z1 (fun x=>x);have ya2:=Hk.cell z2 (fun x=>x);have ya3:=Hk.cell z3 (fun x=>x);have ve:∀ o,wz.drew.frozen? ⟨g,o,none⟩=false:=fun o=>by rw[hd.cells.2 g o QY (fun x=>x)];exact PB o
        have aiw:g<wz.drew.heap.size:=Nat.lt_of_lt_of_le QY hd.size;clear tK tC hVm PT d0 d1 d2 d3 d4 d5 QL I8 ID Pc;go_upto_region 32 with fail;go_region_law (fail)
        all_goals
          have BK:af (fun b=>b=g) wz ((((wz.setCell ⟨g,i * 4,none⟩ (.int .i64 3)).setCell ⟨g,i * 4+1,none⟩ (.string (B OF))).setCell ⟨g,i * 4+2,none⟩ (.int .i64 0)).setCell ⟨g,i * 4+3,none⟩ (.slice (some ⟨wz.heap.size,0,none⟩) 1 1)):=af.set (af.set (af.set (af.set (af.refl _ _) _ _) _ _) _ _) _ _;obtain⟨wB,Cj⟩:∃ z,z=((((wz.setCell ⟨g,i * 4,none⟩ (.int .i64 3)).setCell ⟨g,i * 4+1,none⟩ (.string (B OF))).setCell ⟨g,i * 4+2,none⟩ (.int .i64 0)).setCell ⟨g,i * 4+3,none⟩ (.slice (some ⟨wz.heap.size,0,none⟩) 1 1)):=⟨_,rfl⟩;rw[<-Cj]at BK;have hzB:wB.heap.size=wz.heap.size:=by rw[Cj];simp
          obtain⟨wC,Qv⟩:∃ z,z=(wB.alloc (.cells #[.int .i64 k6,.string (B n6),.int .i64 i6,.slice a6 l6 c6] 29)).drew:=⟨_,rfl⟩;have Sp:af ae wB wC:=by rw[Qv];exact((af.refl ae _).alloc _).drew
          have hnB:au wC wz.heap.size (.int .i64 k6) (.string (B n6)) (.int .i64 i6) (.slice a6 l6 c6) 29:=by rw[Qv,<-hzB];exact(au.av rfl).kept (af.refl ae _).drew
          have hch:=wJ (O:=fun b=>b=g\/(i<i+1/\b<=H+1)) (t:=u) ((aw.ag BK (fun b e=>.inl e) _ _ KB).on Sp) (by rintro(e |⟨_,e⟩)<;>omega) hnB;have kX:=js.Sq (d':=i+1) (u:=.mk 3 OF 0 [u]) OD hXu Cj Sp (bg.2 ⟨_,1,rfl,Nat.le_refl _,hch⟩) (fun x h8 h9=>h9);rw[dd]at kX;have jz:=Mn.trans kX.2 (fun _ _ e=>e);have HN:=ak (And.intro kX.1 jz);have HWC:=ak Qv;have HWB:=ak Cj;clear kX jz hch hnB Qv Cj BK Sp x0 x0a y0 y1 y2 y3 ya0 ya1 ya2 ya3 Hk z0 z1 z2 z3 KB OD PB ve aiw;rw[<-HWB.out,<-HWC.out];go_wp2_with fail;go_roundw;case rel=>exact⟨m,.mk 3 OF 0 [u],by go_num,by omega,HPA.out,HN.out.1,HN.out.2⟩
          simp[intOf]
     obtain rfl:j=0:=by omega
     have IQ:u=V:=OY;subst IQ;have SMc:=gz u (Nat.le_trans (Tm.bB u) HI.out.2.2.2.1) wz _ (fg KB);have zn:¬(0:Int)<=((0:Nat):Int) - 1:=by omega
     clear OY XI;obtain⟨sm,Fq⟩:∃ z,z=u.small:=⟨_,rfl⟩;rw[<-Fq]at SMc;have Iv:=ak Fq;clear Fq;cases sm
     case false=>
       have hE:iP l a ms=2:=by rw[HK.out.2.2.2.1,HI.out.2.2.2.2.2.2 Iv.out.symm];rfl
       have HE:=ak hE;clear hE;go_wp2_with fail
       (with_reducible refine SMc.mono ?_);rintro e wn ⟨rfl,jz⟩;have mm:=Tg.kept jz;have Lw:af ae w wn:=(af.yV (iB.trans (Wv.mono (fun b _ e=>⟨by rw[e],zH⟩)) (fun _ _ e=>e)) (by have:=kF.out.size;have:=ze.size;omega) yM (kF.out.and mW)).and jz;clear SMc z0 z1 z2 z3;obtain⟨r0,r1,r2,r3⟩:=mm.cells;obtain⟨y0,y1,y2,y3⟩:=mm.aq;have yn:=mm.lt;go_wp2_with fail;have ah:=mm.set (d0:=.int .i64 0) (d1:=.string (B [])) (d2:=.int .i64 0) (d3:=.slice none 0 0);obtain⟨w9,bf⟩:∃ z,z=(((wn.setCell ⟨H+1,0,none⟩ (.int .i64 0)).setCell ⟨H+1,1,none⟩ (.string (B []))).setCell ⟨H+1,2,none⟩ (.int .i64 0)).setCell ⟨H+1,3,none⟩ (.slice none 0 0):=⟨_,rfl⟩;rw[<-bf]at ah;try rw[<-show B []={ data:=#[] }from rfl]
       rw[<-bf];clear bf;obtain⟨e0,e1,e2,e3⟩:=ah.1.cells;refine bodyPost_ret (v:=.tuple #[.agg #[.int .i64 0,.string (B []),.int .i64 0,.slice none 0 0],.slice none 0 0,.int .i64 0,.int .i64 2]) ?_ rfl ?_
       ·simp[results,Tryz.f31,go_sem,e0,e1,e2,e3]
       exact fq.bad HE.out (by decide) (Lw.trans ah.2 (fun b hb e=>by have:=HH.out;omega))
     case true=>
       have NF:∀ x∈SS.take (i+1),x.small=true:=fun x hx=>by
         rw[HI.out.2.2.2.2.2.1]at hx;rcases List.mem_append.1 hx with h9 |h9
         ·exact m7 x h9
         rw[List.mem_singleton.1 h9];exact Iv.out.symm
       rw[HI.out.2.1]at OD;have HN:=ak (And.intro NF OD);have Lw:=iB.trans (Wv.mono (fun b _ e=>⟨by rw[e],zH⟩)) (fun _ _ e=>e);clear NF;go_wp2_with fail
       (with_reducible refine SMc.mono ?_);rintro e wn ⟨rfl,jz⟩;clear SMc z0 z1 z2 z3;go_wp2_with fail;go_roundw;case rel=>exact⟨i+1,by go_num,by omega,HN.out.1,HN.out.2.kept jz,Lw.trans jz (fun _ _ e=>e.elim)⟩
       simp[intOf];omega
    obtain⟨r7,Cx,nz,Bq⟩:=Iy.out;have hiz:i=zl:=by omega
    have hX:SS.take i++TS.drop i=SS:=by rw[List.drop_eq_nil_of_le (by omega),List.append_nil,List.take_of_length_le (by omega)]
    rw[hX]at hY;rw[List.take_of_length_le (by omega)]at m7;have gL:iP l a ms=0:=by rw[HK.out.2.2.2.1,if_pos (List.all_eq_true.2 m7)]
    have ZX:=hY.rep (fun g h8 h9=>by have:=yM g (by omega) h9;omega) (by omega);obtain⟨g,k1,n1,i1,b1,c1,rfl,px,sR,⟨p0,p1,p2,p3⟩,Vh⟩:=hY.open (j:=0) (by omega)
    have hA:lC l a ms=SS[0]'(by omega):=by
      unfold lC;rw[if_pos gL,<-HK.out.2.2.1];match SS,Bq with
      |x :: xs,_=>rfl
      | [],h=>simp at h;omega
    have hM:jL l a ms=SS.tail:=by unfold jL;rw[if_pos gL,<-HK.out.2.2.1]
    have Jo:tH l a ms=kl:=by unfold tH;rw[if_pos gL,<-HK.out.1,r7]
    have Jl:ai (fun b=>b<=H+1) wr 4 (SS.tail.map Tm.az) (some ⟨g,0+4,none⟩) 0:=by
      refine lZ _ _ ?_;match SS,Bq,ZX with
      |x :: xs,_,h=>
       simp only[List.map_cons,ai]at h;exact h.2
      | [],h,_=>simp at h;omega
    have lD:SS.tail.length=ml:=by rw[List.length_tail];omega
    have qk:=aw.weaken (O':=fun b=>b<=H+1) (fun b _ e=>.inr ⟨by omega,e⟩) _ _ Vh;rw[<-hA]at qk p3;rw[<-hM]at Jl lD;have HX:=ak (And.intro gL (And.intro Jo (And.intro qk (And.intro Jl lD))));have sA:¬(i:Int)<(zl:Int):=by omega
    generalize (lC l a ms).args.length=al at *
    simp only[Nat.zero_mul,Nat.zero_add]at p0 p1 p2 p3;have hd:af ae wr wr.drew:=(af.refl ae _).drew;have S0:gC g (.int .i64 k1) (.string (B n1)) (.int .i64 i1) (.slice b1 al c1) wr.drew:=⟨hd.cell p0 (fun x=>x),hd.cell p1 (fun x=>x),hd.cell p2 (fun x=>x),hd.cell p3 (fun x=>x)⟩;have S1:gC g (.int .i64 k1) (.string (B n1)) (.int .i64 i1) (.slice b1 al c1) wr:=⟨p0,p1,p2,p3⟩;have Dq:g≠H+1:=by have:=yM g (by omega) rfl;omega
    have B9:=rL.kept hd;have UH:(0:Int)<(zl:Int):=by omega
    have mX:(1:Int)<=(zl:Int):=by omega
    have ahM:(zl:Int)<=(uc:Int):=by omega
    have Ak:zl=ml+1:=nz;have xV:uc=1\/¬uc=1:=Classical.em _;obtain⟨z0,z1,z2,z3⟩:=B9.cells;obtain⟨g0,g1,g2,g3⟩:=B9.aq;have WW:=B9.lt;obtain⟨zz0,zz1,zz2,zz3⟩:=rL.cells;obtain⟨gg0,gg1,gg2,gg3⟩:=rL.aq;have ahk:=rL.lt;clear hX m7 gL ZX hA hM Jo Jl lD qk Vh hY r7 Cx Bq nz;rcases xV with Hh |Hh
    ·have Nk:zl=1:=by omega
     subst Hh;have HZL:=ak (And.intro Nk Ak);clear Ak;subst Nk;go_upto_region 35 with fail;go_region_held3 (fun w'=>gC g (.int .i64 k1) (.string (B n1)) (.int .i64 i1) (.slice b1 al c1) w') (first |(with_reducible assumption)|(with_reducible exact S0)|(with_reducible exact gC.ag (gC.set (gC.set (gC.set (gC.set S1 Dq _ _) Dq _ _) Dq _ _) Dq _ _) (af.refl ae _).drew (fun x=>x))) (fail)
     all_goals
       go_wp2_with fail;have ah:=rL.set (d0:=.int .i64 k1) (d1:=.string (B n1)) (d2:=.int .i64 i1) (d3:=.slice b1 al c1);have qA:af ae _ _:=(af.refl ae ((((wr.setCell ⟨H+1,0,none⟩ (.int .i64 k1)).setCell ⟨H+1,1,none⟩ (.string (B n1))).setCell ⟨H+1,2,none⟩ (.int .i64 i1)).setCell ⟨H+1,3,none⟩ (.slice b1 al c1))).drew;obtain⟨w9,bf⟩:∃ z,z=((((wr.setCell ⟨H+1,0,none⟩ (.int .i64 k1)).setCell ⟨H+1,1,none⟩ (.string (B n1))).setCell ⟨H+1,2,none⟩ (.int .i64 i1)).setCell ⟨H+1,3,none⟩ (.slice b1 al c1)).drew:=⟨_,rfl⟩;have gK:=ah.1.kept qA;have bU:=ah.2.trans qA (fun _ _ e=>e.elim);rw[<-bf]at gK bU;rw[<-bf];clear bf ah qA;obtain⟨e0,e1,e2,e3⟩:=gK.cells;refine bodyPost_ret (v:=.tuple #[.agg #[.int .i64 k1,.string (B n1),.int .i64 i1,.slice b1 al c1],.slice (some ⟨g,0,none⟩) 0 0,.int .i64 (kl:Int),.int .i64 0]) ?_ rfl ?_
       ·simp[results,Tryz.f31,go_sem,e0,e1,e2,e3]
       obtain⟨gL,Jo,qk,Jl,lD⟩:=HX.out;have IG:(jL l a ms).length=0:=by rw[lD];have:=HZL.out;omega
       refine⟨k1,i1,n1,b1,al,c1,(some ⟨g,0,none⟩),0,by rw[gL,Jo,IG],by rw[IG];omega,aw.weaken (fun b _ e=>by have:=HH.out;omega) _ _ (aw.ag bU (fun b e=>by omega) _ _ qk),by rw[List.eq_nil_of_length_eq_zero IG];simp only[List.map_nil,ai],?_⟩;exact(af.yV iB (by have:=kF.out.size;have:=ze.size;omega) yM (kF.out.and mW)).trans bU (fun b hb e=>by have:=HH.out;omega)
    have HZ2:=ak Ak;clear Ak;have hu2:(1:Int)<=(uc:Int):=by omega
    have hu3:(0:Int)<=(zl:Int):=by omega
    have Gp:0<zl:=by omega
    have FJ:¬zl=0:=by omega
    have hn8:(0:Int)<(zl:Int):=by omega
    have hn7:(1:Int)<=(zl:Int):=by omega
    go_upto_region 35 with fail;go_region_held3 (fun w'=>gC g (.int .i64 k1) (.string (B n1)) (.int .i64 i1) (.slice b1 al c1) w') (first |(with_reducible assumption)|(with_reducible exact S0)|(with_reducible exact gC.ag (gC.set (gC.set (gC.set (gC.set S1 Dq _ _) Dq _ _) Dq _ _) Dq _ _) (af.refl ae _).drew (fun x=>x))) (fail)
    all_goals
      go_wp2_with fail;have ah:=rL.set (d0:=.int .i64 k1) (d1:=.string (B n1)) (d2:=.int .i64 i1) (d3:=.slice b1 al c1);have qA:af ae _ _:=(af.refl ae ((((wr.setCell ⟨H+1,0,none⟩ (.int .i64 k1)).setCell ⟨H+1,1,none⟩ (.string (B n1))).setCell ⟨H+1,2,none⟩ (.int .i64 i1)).setCell ⟨H+1,3,none⟩ (.slice b1 al c1))).drew;obtain⟨w9,bf⟩:∃ z,z=((((wr.setCell ⟨H+1,0,none⟩ (.int .i64 k1)).setCell ⟨H+1,1,none⟩ (.string (B n1))).setCell ⟨H+1,2,none⟩ (.int .i64 i1)).setCell ⟨H+1,3,none⟩ (.slice b1 al c1)).drew:=⟨_,rfl⟩;have gK:=ah.1.kept qA;have bU:=ah.2.trans qA (fun _ _ e=>e.elim);rw[<-bf]at gK bU;rw[<-bf];clear bf ah qA;obtain⟨e0,e1,e2,e3⟩:=gK.cells;refine bodyPost_ret (v:=.tuple #[.agg #[.int .i64 k1,.string (B n1),.int .i64 i1,.slice b1 al c1],.slice (some ⟨g,4,none⟩) (zl - 1) (uc - 1),.int .i64 (kl:Int),.int .i64 0]) ?_ rfl ?_
      ·simp[results,Tryz.f31,go_sem,e0,e1,e2,e3]
      obtain⟨gL,Jo,qk,Jl,lD⟩:=HX.out;have IG:(jL l a ms).length=zl - 1:=by rw[lD];have:=HZ2.out;omega
      refine⟨k1,i1,n1,b1,al,c1,(some ⟨g,4,none⟩),(uc - 1),by rw[gL,Jo,IG],by rw[IG];omega,aw.weaken (fun b _ e=>by have:=HH.out;omega) _ _ (aw.ag bU (fun b e=>by omega) _ _ qk),ai.weaken (fun b _ e=>by have:=HH.out;omega) _ _ _ _ (ai.ag bU (fun b e=>by omega) _ _ _ _ Jl),?_⟩;exact(af.yV iB (by have:=kF.out.size;have:=ze.size;omega) yM (kF.out.and mW)).trans bU (fun b hb e=>by have:=HH.out;omega)
end Go.Proofs.YthgmimncdjhgnaaGreatDoor
