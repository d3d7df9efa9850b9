/- Ge adz of a type or a kind: sU rO function. -/
import Derived.Test.YthgmimncdjhgnaaGreatDoorXCJ
set_option maxRecDepth 100000
set_option maxHeartbeats 16000000
namespace Go.LF.Tm
mutual
def er:Tm->Sm
  |mk k n _ l=>if k == 2 then OR l else if k == 1 then .mk [116,121,112,101] []else .mk n []
def OR:List Tm->Sm
  |a :: b :: _=>.mk (er b).Vp (er a :: (er b).args)
  |_=>.mk [] []
end
theorem wK(k n i l):er (mk k n i l)=if k == 2 then OR l else if k == 1 then .mk [116,121,112,101] []else .mk n []:=by rw[er]
theorem H9(a b:Tm):OR [a,b]=.mk (er b).Vp (er a :: (er b).args):=by rw[OR]
theorem Hl(t:Tm):(er t).size<=t.size/\Sm.aD (er t).args<t.size:=by
  induction t using ind with
  |h k n i l ih=>
   rw[wK];have h0:=size_pos (mk k n i l);split
   ·match l,ih with
    | [],_=>rw[OR];simp[Sm.aD];simp
    | [a],_=>rw[OR];simp[Sm.aD];simp
    |a :: b :: rest,ih=>
     have h1:=(ih a (by simp)).1;have h2:=(ih b (by simp)).2;rw[OR];simp only[Sm.aM,Sm.jK,Sm.aD,aM,aD];omega
   split<;>simp[Sm.aD]<;>omega
end Go.LF.Tm
namespace Go.Proofs.YthgmimncdjhgnaaGreatDoor
open Go.RowKit Go.LF
def pX(s:Sm)(w:World)(e:Ending)(w':World):Prop:=
  ∃(f:List UInt8)(a:Option Addr)(len cap:Nat),e=.returned (.agg #[.string (B f),.slice a len cap])/\aw (fun b=>b<w.heap.size) w' s.az [.string (B f),.slice a len cap]/\af ae w w'
def rowLen(W:World)(g:Nat):Nat:=match W.cell? ⟨g,1,none⟩with |some (.slice _ l _)=>l |_=>0
theorem Gx(N:Nat)(hN:N<=100000)(ih:∀(t:Tm),t.size<N->t.xS->∀(w:World)(cs:List Value),aw ae w t.az cs->Calls Tryz.prog 191 #[.agg cs.toArray] w (pX t.er w))
    (t:Tm) (ee:t.size<=N) (uf:t.xS) (w:World) (cs:List Value) (h:aw ae w t.az cs):Calls Tryz.prog 191 #[.agg cs.toArray] w (pX t.er w):=by
  obtain⟨k0,n0,i0,ts0,a0,xU,ht,rfl,acD,_⟩:=aP h;obtain⟨r,hr⟩:∃ r,r=t.er:=⟨_,rfl⟩;rw[<-hr];obtain⟨w1,aF⟩:∃ w1,w1=((w.alloc (.cells #[.int .i64 k0,.string (B n0),.int .i64 i0,.slice a0 ts0.length xU] 29)).alloc (.cells #[.string (B []),.slice none 0 0] 115)).alloc (.cells #[.string (B []),.slice none 0 0] 115):=⟨_,rfl⟩;have aH:af ae w w1:=by rw[aF];exact(((af.refl ae w).alloc _).alloc _).alloc _
  have jA:au w1 w.heap.size (.int .i64 k0) (.string (B n0)) (.int .i64 i0) (.slice a0 ts0.length xU) 29:=by rw[aF];exact((au.av rfl).kept ((af.refl ae _).alloc _)).kept ((af.refl ae _).alloc _)
  have lW:bK w1 (w.heap.size+1) (.string (B [])) (.slice none 0 0) 115:=by rw[aF];exact(bK.av (by simp)).kept ((af.refl ae _).alloc _)
  have Rw:bK w1 (w.heap.size+1+1) (.string (B [])) (.slice none 0 0) 115:=by rw[aF];exact bK.av (by simp)
  have mX:w1.heap.size=w.heap.size+3:=by rw[aF];simp
  have di:aw (fun b=>w.heap.size<=b) w1 t.az [.int .i64 k0,.string (B n0),.int .i64 i0,.slice a0 ts0.length xU]:=(aw.fresh h).on aH;have kE:=ak aF;obtain⟨H,hH⟩:∃ H,H=w.heap.size:=⟨_,rfl⟩;have HH:=ak hH;rw[<-hH]at jA di lW Rw mX;obtain⟨i0',hi,fS,gn,eH⟩:=info_parts tp;have HR:=ak hr;have HT:=ak (And.intro ht (And.intro ee uf));clear aF hH acD h hr ht ee uf;go_enter Tryz.func191,Tryz.ntmps191;go_wp2_with fail;rw[<-show B []={ data:=#[] }from rfl,<-kE.out,<-HH.out]
  go_loopw [] (fun wr=>∃(k i:Int)(n:List UInt8)(a:Option Addr)(ts:List Tm)(cap:Nat)(v:Value)(ss:List Sm)(css:List (List Value)),(Tm.mk k n i ts).xS/\(Tm.mk k n i ts).size+ss.length<=N/\r=.mk (Tm.mk k n i ts).er.Vp (ss++(Tm.mk k n i ts).er.args)/\
      aw (fun b=>H<=b) wr (Tm.mk k n i ts).az [.int .i64 k,.string (B n),.int .i64 i,.slice a ts.length cap]/\au wr H (.int .i64 k) (.string (B n)) (.int .i64 i) (.slice a ts.length cap) 29/\
      oe (H+3) wr v ss css/\bK wr (H+1+1) (.string (B [])) v 115/\bK wr (H+1) (.string (B [])) (.slice none 0 0) 115/\H+3<=wr.heap.size/\af ae w wr)
    (fun wr=>N - rowLen wr (H+1+1))
  case atStart=>
    obtain⟨h1,h2,h3⟩:=HT.out;have h4:=HR.out;rw[h1]at h2 h3 h4 di;exact⟨_,_,_,_,_,_,_,[],[],h3,by simpa using h2,by rw[h4];cases(Tm.mk k0 n0 i0 ts0).er;rfl,di,jA,oe.nil _ _,Rw,lW,by omega,aH⟩
  clear di jA lW Rw aH mX;obtain⟨k,i,nm,a,ts,cap,v,ss,css,uf,ee,hr,hR,hB,eB,b6,cP,Ax,hU⟩:=hrel;obtain⟨b0,b1,b2,b3⟩:=hB.cells;obtain⟨f0,f1,f2,f3⟩:=hB.aq;obtain⟨o0,o1⟩:=b6.cells;obtain⟨z0,z1⟩:=b6.aq;obtain⟨_,_,e0,aX,hE⟩:=bg.1 hR;simp only[List.cons.injEq,Value.slice.injEq,and_true,true_and]at e0;obtain⟨rfl,rfl⟩:=e0;have WW:rowLen wr (H+1+1)=ss.length:=by obtain⟨va,tY,hv,_⟩:=eB.rep;simp only[rowLen,o1,hv]
  have HRL:=ak WW;clear WW;have cK:=Tm.yK uf;have HQ:=ak (And.intro uf (And.intro ee hr));have aqQ:ss.length<=100000:=by have:=Tm.size_pos (Tm.mk k nm i ts);omega
  by_cases hk:k=2
  ·have yJ:(k == 2)=true:=by simp[hk]
   have hlen:=cK.2.2.2 hk
   obtain⟨x,y,rfl⟩:∃ x y,ts=[x,y]:=by
     match ts,hlen with
     | [x,y],_=>exact⟨x,y,rfl⟩
   obtain⟨gb,go',k1,n1,x1,s1,c1,rfl,px,Qq,g0,g1,g2,g3,di⟩:=aY hE 0 (by simp);obtain⟨gb',go2,k2,n2,x2,s2,c2,ega,abm,aaB,p0,p1,p2,p3,fG⟩:=aY hE 1 (by simp);simp only[Option.some.injEq,Addr.mk.injEq,and_true]at ega;obtain⟨rfl,rfl⟩:=ega;simp only[List.getElem_cons_zero,List.getElem_cons_succ,Nat.zero_mul,Nat.one_mul,Nat.add_zero]at g0 g1 g2 g3 di p0 p1 p2 p3 fG;obtain⟨us,rfl,cZ,s5,fU⟩:=sK di;obtain⟨qg,rfl,F0,ju,kJ⟩:=sK fG;simp only[Tm.jK]at g3 p3 di fG;have IH:=fun W(hW:af ae wr W)=>ih (.mk k1 n1 x1 us) (by have:=HQ.out.2.1;simp[Tm.aD]at this;simp;omega) (cK.1 _ (by simp)) W _ (aw.weaken (fun _ _ x=>x.elim) _ _ (di.on hW))
   have HK:=ak hk;have HY:=ak (cK.1 _ (List.mem_cons_of_mem _ (List.mem_cons_self ..)));clear hk cK hE fU kJ uf ee hr hR cZ F0 ih hlen di;simp only[List.length_cons,List.length_nil,Nat.zero_add,Nat.reduceAdd]at b3 hB;go_wp2_with fail
   go_region_law (first
     |((rw[if_pos (by rfl)]);go_simp;(go_at_call 191);refine(IH _ (af.refl ae wr).drew).mono ?_;rintro e w6 ⟨Vv,a1,bH,bG,rfl,dg,bj⟩;have cL:af ae wr w6:=(af.refl ae wr).drew.and bj;have dc:=b6.kept cL;have q6:=dc.lt;have c6:=dc.cells.2;have y6:=dc.aq.2;have sf:=cL.size;have iT:=eB.on cL)
     |(refine step_append_lies _ (by rfl) _ _ 113 (by rfl) (H+3) 115 i0' (.agg #[.string (B []),.slice none 0 0]) 2 40 (by kernel_rfl) hi fS gn eH rfl (by decide) v ss.length css.flatten (by rfl) ((iT.on ((af.refl ae w6).alloc _)).2.2.1) ⟨w6.heap.size,0,none⟩ 1 1 [.string (B Vv),.slice a1 bH bG] (by rfl) rfl (World.news_of_block (heap_alloc_new w6 _)) (by simp[Value.oneCell']) (by omega) (by simp only[maxLen];omega) (by omega) (by simp;omega) _ rfl ?_;intro g aS w7 bq aN ft aB;have fe:=(dc.kept ((af.refl ae w6).alloc _)).row aN (iT.on ((af.refl ae w6).alloc _)) (by omega);have c7:=fe.cells.2;have y7:=fe.aq.2))
   all_goals
     have fj:af ae w6 (w6.alloc (.cells #[.string (B Vv),.slice a1 bH bG] 115)):=(af.refl ae w6).alloc _;have jH:=iT.on fj
     have tF:aw (fun b=>b<H+3\/v.ownBlock=some b) (w6.alloc (.cells #[.string (B Vv),.slice a1 bH bG] 115)) (Tm.mk k1 n1 x1 us).er.az [.string (B Vv),.slice a1 bH bG]:=by
       refine(aw.weaken (fun b _ e=>?_) _ _ dg).new _;rcases e with e |e
       ·exact Nat.lt_of_lt_of_le e Ax
       exact(eB.2.2.1.lt b e).2
     have lL:=jH.appended rfl tF bq aN ft (Nat.le_refl _);have dn:af (fun b=>b=H+1+1) w7 (w7.setCell ⟨H+1+1,1,none⟩ (.slice (some ⟨g,0,none⟩) (ss.length+1) aS)):=af.set (af.refl _ _) 1 _;have eK:=af.ofRow (cB.grown jH.2.2.1 aN)
     have cW:af (fun b=>H+1+1<=b) wr (w7.setCell ⟨H+1+1,1,none⟩ (.slice (some ⟨g,0,none⟩) (ss.length+1) aS)):=
       (((cL.and fj).mono (fun _ _ x=>x.elim)).trans (eK.mono (fun b _ e=>by omega)) (fun _ _ x=>x)).trans (dn.mono (fun b _ e=>by omega)) (fun _ _ x=>x)
     have mT:af ae w (w7.setCell ⟨H+1+1,1,none⟩ (.slice (some ⟨g,0,none⟩) (ss.length+1) aS)):=hU.trans cW (fun b hb e=>by have:=HH.out;omega);have Je:=lL.ag dn (fun b e=>by omega);have SD:=fe.mu (.slice (some ⟨g,0,none⟩) (ss.length+1) aS);have hz8:H+3<=(w7.setCell ⟨H+1+1,1,none⟩ (.slice (some ⟨g,0,none⟩) (ss.length+1) aS)).heap.size:=by have:=cW.size;omega
     generalize w7.setCell ⟨H+1+1,1,none⟩ (.slice (some ⟨g,0,none⟩) (ss.length+1) aS)=w8 at *
     have OO:=hB.ag cW (by omega);have ZW:=cP.ag cW (by omega);have r0:=cW.cell p0 (fun e:H+1+1<=gb=>Qq (by omega));have r1:=cW.cell p1 (fun e:H+1+1<=gb=>Qq (by omega));have r2:=cW.cell p2 (fun e:H+1+1<=gb=>Qq (by omega));have r3:=cW.cell p3 (fun e:H+1+1<=gb=>Qq (by omega));have p8:=aw.ag cW (fun b e=>by omega) _ _ fG;clear b0 b1 b2 b3 f0 f1 f2 f3 o0 o1 z0 z1 p0 p1 p2 p3 g0 g1 g2 g3 fG dg tF bj cL b6 dc fe c6 c7 y6 y7 eB iT jH lL dn eK cW fj hB cP hU bq aN IH;obtain⟨b0,b1,b2,b3⟩:=OO.cells;obtain⟨f0,f1,f2,f3⟩:=OO.aq;go_wp2_with fail;have aJ:=OO.set (d0:=.int .i64 k2) (d1:=.string (B n2)) (d2:=.int .i64 x2) (d3:=.slice s2 qg.length c2);have oK:=aw.ag aJ.2 (fun b e=>by omega) _ _ p8;go_roundw
     case rel=>
       obtain⟨q1,q2,q3⟩:=HQ.out;refine⟨k2,x2,n2,s2,qg,c2,_,ss++[(Tm.mk k1 n1 x1 us).er],_,HY.out,by simp[Tm.aD]at q2 ⊢;omega,?_,oK,aJ.1,by simpa using Je.ag aJ.2 (fun b e=>by omega),SD.ag aJ.2 (by omega),ZW.ag aJ.2 (by omega),by have:=aJ.2.size;omega,mT.trans aJ.2 (fun b hb e=>by have:=HH.out;omega)⟩;rw[q3,Tm.wK,if_pos yJ,Tm.H9];simp
     have e1:rowLen wr (H+1+1)=ss.length:=HRL.out;have Xh:=(SD.ag aJ.2 (by omega)).cells.2;have:=HQ.out.2.1;simp only[rowLen,Xh];simp only[rowLen]at e1;simp[Tm.aD]at this;omega
  have yJ:(k == 2)=false:=by simp[hk]
  obtain⟨va,tY,rfl,fp,Yl⟩:=eB.rep;obtain⟨q0,q1⟩:=cP.cells;obtain⟨y0,y1⟩:=cP.aq;obtain⟨len,hlen⟩:∃ len,len=ss.length:=⟨_,rfl⟩;rw[<-hlen]at b6 fp o1;have HL:=ak hlen;obtain⟨fm,X1⟩:∃ fm:List UInt8,fm=if k=1 then [116,121,112,101]else nm:=⟨_,rfl⟩
  have rL:r=.mk fm ss:=by
    rw[HQ.out.2.2,Tm.wK,if_neg (by simp[yJ]),X1];by_cases h1:k=1
    ·rw[if_pos (by simp[h1]),if_pos h1];simp
    rw[if_neg (by simp[h1]),if_neg h1];simp
  have fin:∀ W9,af (fun b=>b=H+1\/b=H+1+1) wr W9->pX r w (.returned (.agg #[.string (B fm),.slice va len tY])) W9:=by
    intro W9 bU;rw[rL];refine⟨fm,va,len,tY,rfl,ig.2 ⟨va,tY,by rw[HL.out],by have:=HL.out;omega,?_⟩,hU.trans bU (fun b hb e=>by have:=HH.out;omega)⟩;exact ai.weaken (fun b _ e=>by have:=HH.out;omega) _ _ _ _ (ai.ag bU (fun b e=>by omega) _ _ _ _ Yl)
  have HF:=ak fin;clear fin rL Yl hlen eB cK hE hR uf ee hr hk ih;by_cases h1:k=1
  ·have Gm:(k == 1)=true:=by simp[h1]
   have tU:fm=[116,121,112,101]:=by rw[X1,if_pos h1]
   clear X1 h1;have Ia:=ak tU;clear tU;have cW:af (fun b=>b=H+1+1) wr ((wr.setCell ⟨H+1+1,0,none⟩ (.string (B nm))).setCell ⟨H+1+1,0,none⟩ (.string (B [116,121,112,101]))):=af.set (af.set (af.refl _ _) 0 _) 0 _;have aJ:=(cP.ag cW (by omega)).set (d0:=.string (B [116,121,112,101])) (d1:=.slice va len tY);obtain⟨e0,e1⟩:=aJ.1.cells;have Qw:=(cW.mono (S':=fun b=>b=H+1\/b=H+1+1) (fun b _ e=>.inr e)).trans (aJ.2.mono (S':=fun b=>b=H+1\/b=H+1+1) (fun b _ e=>.inl e)) (fun _ _ x=>x);have HE:=ak (And.intro e0 (And.intro e1 Qw));clear e0 e1 Qw aJ cW;go_wp2_with fail;obtain⟨e0,e1,Qw⟩:=HE.out;refine bodyPost_ret (v:=.agg #[.string (B [116,121,112,101]),.slice va len tY]) ?_ rfl ?_
   ·simp[results,Tryz.f191,go_sem,e0,e1]
   have:=HF.out _ Qw;rwa [Ia.out]at this
  have Gm:(k == 1)=false:=by simp[h1]
  obtain rfl:fm=nm:=by rw[X1,if_neg h1]
  clear X1 h1;have cW:af (fun b=>b=H+1+1) wr (wr.setCell ⟨H+1+1,0,none⟩ (.string (B fm))):=af.set (af.refl _ _) 0 _;have aJ:=(cP.ag cW (by omega)).set (d0:=.string (B fm)) (d1:=.slice va len tY);obtain⟨e0,e1⟩:=aJ.1.cells;have Qw:=(cW.mono (S':=fun b=>b=H+1\/b=H+1+1) (fun b _ e=>.inr e)).trans (aJ.2.mono (S':=fun b=>b=H+1\/b=H+1+1) (fun b _ e=>.inl e)) (fun _ _ x=>x);have HE:=ak (And.intro e0 (And.intro e1 Qw));clear e0 e1 Qw aJ cW;go_wp2_with fail;obtain⟨e0,e1,Qw⟩:=HE.out;refine bodyPost_ret (v:=.agg #[.string (B fm),.slice va len tY]) ?_ rfl ?_
  ·simp[results,Tryz.f191,go_sem,e0,e1]
  exact HF.out _ Qw
theorem IX(t:Tm)(hs:t.size<=100000)(uf:t.xS)(w:World)(cs:List Value)(h:aw ae w t.az cs):Calls Tryz.prog 191 #[.agg cs.toArray] w (pX t.er w):=by
  have key:∀ N,N<=100000->∀(t:Tm),t.size<=N->t.xS->∀(w:World)(cs:List Value),aw ae w t.az cs->Calls Tryz.prog 191 #[.agg cs.toArray] w (pX t.er w):=by
    intro N;induction N with
    |zero=>intro _ t h;have:=t.size_pos;omega
    |succ N ih=>intro hN t ht ha w cs hR;exact Gx (N+1) hN (fun t' h'=>ih (by omega) t' (by omega)) t ht ha w cs hR
  exact key t.size hs t (Nat.le_refl _) uf w cs h
end Go.Proofs.YthgmimncdjhgnaaGreatDoor
namespace Go.LF.Tm
def Xq(t:Tm):Int:=if t.wf≠0 then t.wf else if t.aC || t.aI then 0 else 32
def Zf(t:Tm):Sm:=if Xq t=0 then er t else .mk [] []
theorem nQ{t:Tm}(h:t.wf=0):t.small=true:=by
  unfold wf at h;split at h
  ·cases h
  split at h
  ·cases h
  rename_i h2;simpa using h2
end Go.LF.Tm
namespace Go.Proofs.YthgmimncdjhgnaaGreatDoor
section
open Go.RowKit Go.LF
def Li(s:Sm)(r:Value)(w:World)(e:Ending)(w':World):Prop:=
  ∃(f:List UInt8)(a:Option Addr)(len cap:Nat),e=.returned (.tuple #[.agg #[.string (B f),.slice a len cap],r])/\aw (fun x=>x<w.heap.size) w' s.az [.string (B f),.slice a len cap]/\af ae w w'
theorem Gt(t:Tm)(hs:t.wt<=1000000)(w:World)(cs:List Value)(h:aw ae w t.az cs):
    Calls Tryz.prog 168 #[.agg cs.toArray] w (Li t.Zf (.int .i64 t.Xq) w):=by
  have H1:=fun W hc=>cG t (by omega) W cs hc
  have H2:=fun W hc=>pZ t (by omega) W cs hc
  have H3:=fun W hc=>wm t (by omega) W cs hc
  have H4:=fun(e:t.wf=0)W hc=>IX t (by have:=(Tm.dz e).2.1;omega) (Tm.dz e).1 W cs hc
  have m7:t.wf=0->t.small=true:=Tm.nQ;obtain⟨k,n,i,ts,a,cap,ht,rfl,aX,_⟩:=aP h;obtain⟨E,hE⟩:∃ E,E=t.Xq:=⟨_,rfl⟩;obtain⟨X,hX⟩:∃ X,X=t.Zf:=⟨_,rfl⟩;rw[<-hE,<-hX];unfold Tm.Zf at hX;rw[<-hE]at hX;unfold Tm.Xq at hE;generalize t.wf=wf at *
  generalize t.small=sm at *
  generalize t.aC=ty at *
  generalize t.aI=kd at *
  generalize t.er=r at *
  have HX:=ak (And.intro hE hX);clear hE hX ht aX;obtain⟨w1,aF⟩:∃ w1,w1=(w.alloc (.cells #[.int .i64 k,.string (B n),.int .i64 i,.slice a ts.length cap] 29)).alloc (.cells #[.string (B []),.slice none 0 0] 115):=⟨_,rfl⟩;have aH:af ae w w1:=by rw[aF];exact((af.refl ae w).alloc _).alloc _
  have iV:au w1 w.heap.size (.int .i64 k) (.string (B n)) (.int .i64 i) (.slice a ts.length cap) 29:=by rw[aF];exact(au.av rfl).kept ((af.refl ae _).alloc _)
  have dK:bK w1 (w.heap.size+1) (.string (B [])) (.slice none 0 0) 115:=by rw[aF];exact bK.av (by simp)
  have HW:=ak aF;clear aF;generalize ts.length=tl at *
  have RN:∀ W9(e:Value),af ae w W9->Li (.mk [] []) e w (.returned (.tuple #[.agg #[.string (B []),.slice none 0 0],e])) W9:=fun W9 e hU=>⟨[],none,0,0,rfl,ig.2 ⟨none,0,rfl,Nat.le_refl _,by simp only[List.map_nil,ai]⟩,hU⟩
  by_cases jm:wf=0
  case neg=>
    have amV:(wf !=0)=true:=by simpa using jm
    have gL:E=wf:=by rw[HX.out.1,if_pos jm]
    have Ot:X=.mk [] []:=by rw[HX.out.2,if_neg (by rw[gL];exact jm)]
    have H0:=ak (And.intro gL Ot);clear gL Ot jm;go_enter Tryz.func168,Tryz.ntmps168;go_wp2_with fail;rw[<-show B []={ data:=#[] }from rfl,<-HW.out];refine(H1 w1 (h.on aH)).mono ?_;rintro e w2 ⟨rfl,aL⟩;have dO:=dK.kept aL;have dY:=aH.and aL;obtain⟨x0,x1⟩:=dO.cells;obtain⟨y0,y1⟩:=dO.aq;have Tg:=dO.lt;have ah:=dO.set (d0:=.string (B [])) (d1:=.slice none 0 0);obtain⟨e0,e1⟩:=ah.1.cells;have HE:=ak (And.intro e0 (And.intro e1 ah.2));clear e0 e1 ah;go_wp2_with fail;obtain⟨e0,e1,ah⟩:=HE.out;refine bodyPost_ret (v:=.tuple #[.agg #[.string (B []),.slice none 0 0],.int .i64 wf]) ?_ rfl ?_
    ·simp[results,Tryz.f168,go_sem,e0,e1]
    rw[H0.out.1,H0.out.2];exact RN _ _ (dY.trans ah (fun b hb e=>by omega))
  subst jm;obtain rfl:=m7 rfl;simp only[Bool.and_true]at H2 H3;by_cases eQ:(ty || kd)=true
  case neg=>
    obtain⟨rfl,rfl⟩:ty=false/\kd=false:=by cases ty<;>cases kd<;>simp_all
    have gL:E=32:=by rw[HX.out.1];rfl
    have Ot:X=.mk [] []:=by rw[HX.out.2,if_neg (by rw[gL];omega)]
    have H0:=ak (And.intro gL Ot);clear gL Ot eQ;go_enter Tryz.func168,Tryz.ntmps168;go_wp2_with fail;rw[<-show B []={ data:=#[] }from rfl,<-HW.out];refine(H1 w1 (h.on aH)).mono ?_;rintro e w2 ⟨rfl,aL⟩;have pB:=iV.kept aL;have b2:=pB.cells;go_wp2_with fail;refine(H2 w2 (h.on (aH.and aL))).mono ?_;rintro e w3 ⟨rfl,aZ⟩;have Kd:=pB.kept aZ;have b3:=Kd.cells;go_wp2_with fail;refine(H3 w3 (h.on ((aH.and aL).and aZ))).mono ?_;rintro e w4 ⟨rfl,bw⟩;have iX:=((dK.kept aL).kept aZ).kept bw;have eh:=((aH.and aL).and aZ).and bw;obtain⟨x0,x1⟩:=iX.cells;obtain⟨y0,y1⟩:=iX.aq;have Tg:=iX.lt;have ah:=iX.set (d0:=.string (B [])) (d1:=.slice none 0 0);obtain⟨e0,e1⟩:=ah.1.cells;have HE:=ak (And.intro e0 (And.intro e1 ah.2));clear e0 e1 ah;go_wp2_with fail;obtain⟨e0,e1,ah⟩:=HE.out;refine bodyPost_ret (v:=.tuple #[.agg #[.string (B []),.slice none 0 0],.int .i64 32]) ?_ rfl ?_
    ·simp[results,Tryz.f168,go_sem,e0,e1]
    rw[H0.out.1,H0.out.2];exact RN _ _ (eh.trans ah (fun b hb e=>by omega))
  have gL:E=0:=by rw[HX.out.1];cases ty<;>cases kd<;>simp_all
  have Ot:X=r:=by rw[HX.out.2,if_pos gL]
  subst gL Ot;clear HX RN;cases ty
  obtain rfl:kd=true:=by simpa using eQ
  go_enter Tryz.func168,Tryz.ntmps168;go_wp2_with fail;rw[<-show B []={ data:=#[] }from rfl,<-HW.out];refine(H1 w1 (h.on aH)).mono ?_;rintro e w2 ⟨rfl,aL⟩;have pB:=iV.kept aL;have b2:=pB.cells;go_wp2_with fail;refine(H2 w2 (h.on (aH.and aL))).mono ?_;rintro e w3 ⟨rfl,aZ⟩;have Kd:=pB.kept aZ;have b3:=Kd.cells;go_wp2_with fail;refine(H3 w3 (h.on ((aH.and aL).and aZ))).mono ?_;rintro e w4 ⟨rfl,bw⟩;have EE:=Kd.kept bw;have b4:=EE.cells;have eh:=((aH.and aL).and aZ).and bw;have iX:=((dK.kept aL).kept aZ).kept bw;go_wp2_with fail;refine(H4 trivial _ (h.on eh)).mono ?_;rintro e w5 ⟨f5,a5,cE,cJ,rfl,gN,ba⟩;have dR:=iX.kept ba;have gT:=eh.and ba;have DX:=iX.lt;obtain⟨x0,x1⟩:=dR.cells;obtain⟨y0,y1⟩:=dR.aq;have Tg:=dR.lt;have ah:=dR.set (d0:=.string (B f5)) (d1:=.slice a5 cE cJ);obtain⟨e0,e1⟩:=ah.1.cells;have HE:=ak (And.intro e0 (And.intro e1 ah.2));clear e0 e1 ah;go_wp2_with fail;obtain⟨e0,e1,ah⟩:=HE.out;refine bodyPost_ret (v:=.tuple #[.agg #[.string (B f5),.slice a5 cE cJ],.int .i64 0]) ?_ rfl ?_
  ·simp[results,Tryz.f168,go_sem,e0,e1]
  exact⟨f5,a5,cE,cJ,rfl,aw.weaken (fun b _ e=>by omega) _ _ (aw.ag ah (fun b e=>by omega) _ _ gN),gT.trans ah (fun b hb e=>by omega)⟩
  
  go_enter Tryz.func168,Tryz.ntmps168;go_wp2_with fail;rw[<-show B []={ data:=#[] }from rfl,<-HW.out];refine(H1 w1 (h.on aH)).mono ?_;rintro e w2 ⟨rfl,aL⟩;have pB:=iV.kept aL;have b2:=pB.cells;go_wp2_with fail;refine(H2 w2 (h.on (aH.and aL))).mono ?_;rintro e w3 ⟨rfl,aZ⟩;have Kd:=pB.kept aZ;have b3:=Kd.cells;go_wp2_with fail;have eh:=(aH.and aL).and aZ;have iX:=(dK.kept aL).kept aZ;refine(H4 trivial _ (h.on eh)).mono ?_;rintro e w5 ⟨f5,a5,cE,cJ,rfl,gN,ba⟩;have dR:=iX.kept ba;have gT:=eh.and ba;have DX:=iX.lt;obtain⟨x0,x1⟩:=dR.cells;obtain⟨y0,y1⟩:=dR.aq;have Tg:=dR.lt;have ah:=dR.set (d0:=.string (B f5)) (d1:=.slice a5 cE cJ);obtain⟨e0,e1⟩:=ah.1.cells;have HE:=ak (And.intro e0 (And.intro e1 ah.2));clear e0 e1 ah;go_wp2_with fail;obtain⟨e0,e1,ah⟩:=HE.out;refine bodyPost_ret (v:=.tuple #[.agg #[.string (B f5),.slice a5 cE cJ],.int .i64 0]) ?_ rfl ?_
  ·simp[results,Tryz.f168,go_sem,e0,e1]
  exact⟨f5,a5,cE,cJ,rfl,aw.weaken (fun b _ e=>by omega) _ _ (aw.ag ah (fun b e=>by omega) _ _ gN),gT.trans ah (fun b hb e=>by omega)⟩
end
section
open Go.RowKit Go.LF
abbrev IS(sb H gb go:Nat)(f:List UInt8)(sv b3:Value)(k1:Int)(n1:List UInt8)(x1:Int)(v1:Value)(w':World):Prop:=
  w'.cell? ⟨sb,0,none⟩=some (.string (B f))/\w'.cell? ⟨sb,1,none⟩=some sv/\w'.cell? ⟨H,3,none⟩=some b3/\
  w'.cell? ⟨gb,go,none⟩=some (.int .i64 k1)/\w'.cell? ⟨gb,go+1,none⟩=some (.string (B n1))/\w'.cell? ⟨gb,go+2,none⟩=some (.int .i64 x1)/\w'.cell? ⟨gb,go+3,none⟩=some v1
theorem IS.ag{sb H gb go:Nat}{f:List UInt8}{sv b3:Value}{k1:Int}{n1:List UInt8}{x1:Int}{v1:Value}{w w':World}{S:Nat->Prop}(h:IS sb H gb go f sv b3 k1 n1 x1 v1 w)(hU:af S w w')(h1:¬S sb)(h2:¬S H)(h3:¬S gb):IS sb H gb go f sv b3 k1 n1 x1 v1 w':=
  ⟨hU.cell h.1 h1,hU.cell h.2.1 h1,hU.cell h.2.2.1 h2,hU.cell h.2.2.2.1 h3,hU.cell h.2.2.2.2.1 h3,hU.cell h.2.2.2.2.2.1 h3,hU.cell h.2.2.2.2.2.2 h3⟩
theorem IS.on{sb H gb go:Nat}{f:List UInt8}{sv b3:Value}{k1:Int}{n1:List UInt8}{x1:Int}{v1:Value}{w w':World}(h:IS sb H gb go f sv b3 k1 n1 x1 v1 w)(hU:af ae w w'):IS sb H gb go f sv b3 k1 n1 x1 v1 w':=h.ag hU (fun x=>x) (fun x=>x) (fun x=>x)
theorem IS.ab1{sb H gb go:Nat}{f:List UInt8}{sv b3:Value}{k1:Int}{n1:List UInt8}{x1:Int}{v1:Value}{w:World}{r:Nat}(h:IS sb H gb go f sv b3 k1 n1 x1 v1 w)(h1:sb≠r)(h2:H≠r)(h3:gb≠r)(o:Nat)(v:Value):IS sb H gb go f sv b3 k1 n1 x1 v1 (w.setCell ⟨r,o,none⟩ v):=
  h.ag (af.set (af.refl _ _) o v) h1 h2 h3
theorem Fp(t:Tm):t.size<=100000->t.xS->∀(w:World)(cs:List Value),aw ae w t.az cs->Calls Tryz.prog 126 #[.agg cs.toArray] w (pX t.er w):=by
  induction t using Tm.ind with
  |h k nm i ts ih=>
   intro ee uf w cs h;obtain⟨a,cap,rfl,aX,hE⟩:=bg.1 h;obtain⟨w1,aF⟩:∃ w1,w1=(w.alloc (.cells #[.int .i64 k,.string (B nm),.int .i64 i,.slice a ts.length cap] 29)).alloc (.cells #[.string (B []),.slice none 0 0] 115):=⟨_,rfl⟩;have aH:af ae w w1:=by rw[aF];exact((af.refl ae w).alloc _).alloc _
   have jA:au w1 w.heap.size (.int .i64 k) (.string (B nm)) (.int .i64 i) (.slice a ts.length cap) 29:=by rw[aF];exact(au.av rfl).kept ((af.refl ae _).alloc _)
   have lW:bK w1 (w.heap.size+1) (.string (B [])) (.slice none 0 0) 115:=by rw[aF];exact bK.av (by simp)
   have fU:=hE.on aH;have kE:=ak aF;obtain⟨H,hH⟩:∃ H,H=w.heap.size:=⟨_,rfl⟩;have HH:=ak hH;rw[<-hH]at jA lW;have cK:=Tm.yK uf;have HC:=ak aX
   have leaf:∀(W:World)(f:List UInt8),af ae w W->bK W (H+1) (.string (B [])) (.slice none 0 0) 115->pX (.mk f []) w (.returned (.agg #[.string (B f),.slice none 0 0])) ((W.setCell ⟨H+1,0,none⟩ (.string (B f))).setCell ⟨H+1,1,none⟩ (.slice none 0 0)):=by
     intro W f hU hb;exact⟨f,none,0,0,rfl,ig.2 ⟨none,0,rfl,Nat.le_refl _,by simp only[List.map_nil,ai]⟩,hU.trans (hb.set (d0:=.string (B f)) (d1:=.slice none 0 0)).2 (fun b hb e=>by have:=HH.out;omega)⟩
   have HLF:=ak leaf;clear aF hH h leaf aX;obtain⟨b0,b1,b2,b3⟩:=jA.cells;obtain⟨z0,z1⟩:=lW.aq;obtain⟨y0,y1⟩:=lW.cells;by_cases yJ:k=2
   case neg=>
     by_cases Gm:k=1
     ·subst Gm;have zP:(Tm.mk 1 nm i ts).er=.mk [116,121,112,101] []:=by rw[Tm.wK];simp
      rw[zP];have ah:=lW.set (d0:=.string (B [116,121,112,101])) (d1:=.slice none 0 0);obtain⟨e0,e1⟩:=ah.1.cells;have HE:=ak (And.intro e0 e1);clear e0 e1 ah zP;go_enter Tryz.func126,Tryz.ntmps126;go_upto_region 1 with fail;rw[<-show B []={ data:=#[] }from rfl,<-kE.out,<-HH.out];go_wp2_with fail;obtain⟨e0,e1⟩:=HE.out;refine bodyPost_ret (v:=.agg #[.string (B [116,121,112,101]),.slice none 0 0]) ?_ rfl ?_
      ·simp[results,Tryz.f126,go_sem,e0,e1]
      exact HLF.out w1 _ aH lW
     have zP:(Tm.mk k nm i ts).er=.mk nm []:=by rw[Tm.wK];simp[Gm,yJ]
     have t1:(k == 1)=false:=by simpa using Gm
     have t2:(k == 2)=false:=by simpa using yJ
     rw[zP];have ah:=lW.set (d0:=.string (B nm)) (d1:=.slice none 0 0);obtain⟨e0,e1⟩:=ah.1.cells;have HE:=ak (And.intro e0 e1);clear e0 e1 ah zP Gm yJ;go_enter Tryz.func126,Tryz.ntmps126;go_upto_region 1 with fail;rw[<-show B []={ data:=#[] }from rfl,<-kE.out,<-HH.out];go_wp2_with fail;obtain⟨e0,e1⟩:=HE.out;refine bodyPost_ret (v:=.agg #[.string (B nm),.slice none 0 0]) ?_ rfl ?_
     ·simp[results,Tryz.f126,go_sem,e0,e1]
     exact HLF.out w1 _ aH lW
   subst yJ
   obtain⟨x,y,rfl⟩:∃ x y,ts=[x,y]:=by
     match ts,cK.2.2.2 rfl with
     | [x,y],_=>exact⟨x,y,rfl⟩
   have zP:(Tm.mk 2 nm i [x,y]).er=.mk y.er.Vp (x.er :: y.er.args):=by rw[Tm.wK,if_pos (by decide),Tm.H9]
   rw[zP];obtain⟨gb,go',k1,n1,x1,s1,c1,rfl,px,Qq,g0,g1,g2,g3,di⟩:=aY fU 0 (by simp)
   have EF:gb<H:=by
     obtain⟨b',o',_,_,_,_,_,e,WI,_⟩:=aY hE 0 (by simp);cases e
     rw[HH.out];exact WI
   obtain⟨gb',go2,k2,n2,x2,s2,c2,ega,abm,aaB,p0,p1,p2,p3,fG⟩:=aY fU 1 (by simp);simp only[Option.some.injEq,Addr.mk.injEq,and_true]at ega;obtain⟨rfl,rfl⟩:=ega;simp only[List.getElem_cons_zero,List.getElem_cons_succ,Nat.zero_mul,Nat.one_mul,Nat.add_zero]at g0 g1 g2 g3 di p0 p1 p2 p3 fG;obtain⟨us,rfl,cZ,s5,agf⟩:=sK di;obtain⟨qg,rfl,F0,ju,afr⟩:=sK fG;simp only[Tm.jK]at g3 p3 di fG;simp only[Tm.aM,Tm.aD]at ee;have IH1:=fun W(hW:af ae w1 W)=>ih (.mk k1 n1 x1 us) (by simp) (by simp;omega) (cK.1 _ (by simp)) W _ (di.on hW)
   have LY:=fun W(hW:af ae w1 W)=>ih (.mk k2 n2 x2 qg) (by simp) (by simp;omega) (cK.1 _ (by simp)) W _ (fG.on hW)
   have mX:(Tm.mk k1 n1 x1 us).er.size<=100000:=by have:=(Tm.Hl (.mk k1 n1 x1 us)).1;simp at this;omega
   have GY:(Tm.mk k2 n2 x2 qg).er.args.length<=100000:=by have:=(Tm.Hl (.mk k2 n2 x2 qg)).2;have h2:=Sm.aA (Tm.mk k2 n2 x2 qg).er.args;simp at this;omega
   generalize (Tm.mk k1 n1 x1 us).er=e1 at *
   generalize (Tm.mk k2 n2 x2 qg).er=e2 at *
   have HGX:=ak (And.intro px GY);clear hE cK ih uf fU agf afr di fG zP Qq aaB abm cZ F0 s5 ju ee mX GY;simp only[List.length_cons,List.length_nil,Nat.zero_add,Nat.reduceAdd]at b3 jA;go_enter Tryz.func126,Tryz.ntmps126;go_upto_region 1 with fail;rw[<-show B []={ data:=#[] }from rfl];simp only[List.length_cons,List.length_nil,Nat.zero_add,Nat.reduceAdd]at kE;rw[<-kE.out,<-HH.out];have q1:=px;go_wp2_with fail;refine(LY w1 (af.refl ae w1)).mono ?_;rintro e w2 ⟨f2,sa,sl,sc,rfl,fG,aL⟩;obtain⟨w3,cQ⟩:∃ w3,w3=w2.alloc (.cells #[.string (B f2),.slice sa sl sc] 115):=⟨_,rfl⟩;have dM:af ae w2 w3:=by rw[cQ];exact(af.refl ae w2).alloc _
   have kg:=aL.and dM;have xL:bK w3 w2.heap.size (.string (B f2)) (.slice sa sl sc) 115:=by rw[cQ];exact bK.av rfl
   have yd:=fG.on dM;obtain⟨f2',ss,RY,FR,Ey,ecs,fJ,Hr⟩:=oC yd;simp only[List.cons.injEq,Value.string.injEq,Value.slice.injEq,and_true]at ecs;obtain⟨ef,rfl,rfl,rfl⟩:=ecs;obtain rfl:f2=f2':=by have:=congrArg (fun b:ByteArray=>b.data.toList) ef;simpa using this
   have HE2:=ak Ey;have anc:ss.length<=100000:=by have:=HGX.out.2;rw[Ey]at this;simpa using this
   obtain⟨SB,hSB⟩:∃ SB,SB=w2.heap.size:=⟨_,rfl⟩;rw[<-hSB]at xL;have aq3:w1.heap.size<=SB:=by rw[hSB];exact aL.size
   have L3:=ak hSB;have Nu:=ak cQ;have eR:=lW.kept kg;have S3:IS SB H gb go' f2 (.slice sa ss.length sc) (.slice (some ⟨gb,go',none⟩) 2 cap) k1 n1 x1 (.slice s1 us.length c1) w3:=⟨xL.cells.1,xL.cells.2,(jA.kept kg).cells.2.2.2,kg.cell g0 (fun x=>x),kg.cell g1 (fun x=>x),kg.cell g2 (fun x=>x),kg.cell g3 (fun x=>x)⟩;have aZ:=aH.and kg;have HS:=ak xL;clear cQ hSB dM fG aL Ey ef yd b0 b1 b2 b3 z0 z1 y0 y1 g0 g1 g2 g3 p0 p1 p2 p3 jA xL LY;go_upto_region 6 with fail;rw[<-L3.out,<-Nu.out];have hd:af ae w3 w3.drew:=(af.refl ae w3).drew;have Sd:=S3.on hd;have YF:w3.heap.size<=w3.drew.heap.size:=hd.size;have aqS:=HS.out.lt;have abq:=lW.lt;have XI:H+1<w1.heap.size:=by omega
   have agu:=ai.aG _ _ _ _ Hr;have n1':SB≠H+1:=by have:=eR.lt;have:=abq;omega
   have W7:H≠H+1:=by omega
   have n3':gb≠H+1:=by omega
   go_region_held3 (fun w'=>IS SB H gb go' f2 (.slice sa ss.length sc) (.slice (some ⟨gb,go',none⟩) 2 cap) k1 n1 x1 (.slice s1 us.length c1) w')
     (first |(with_reducible assumption)|(with_reducible exact Sd)|(with_reducible exact IS.ab1 (IS.ab1 S8 n1' W7 n3' 0 _) n1' W7 n3' 1 _))
     (first
       |((refine tS (by rfl) _ _ (by rfl) (by rfl) ZH sa ss.length sc ss (by rfl) rfl Kl (by simp;omega) (by rw[World.size_alloc];omega) ?_;intro v8 w8 acG hS8 Yb WA;have nL:=ck Yb;have S8:=S6a.ag nL (by simp[Value.ownBlock];omega) (by simp[Value.ownBlock];omega) (by simp[Value.ownBlock];omega);have oF:=(fD.kept fj).ag nL (by simp[Value.ownBlock];omega);obtain⟨r0,r1⟩:=oF.cells;obtain⟨r2,r3⟩:=oF.aq;obtain⟨fa,fc,e8,RH,hF⟩:=hS8.rep;subst e8;have HG8:=ak (And.intro Yb WA);clear Yb WA))
       |((go_at_call 126);(with_reducible refine(IH1 _ (kg.and hd)).mono ?_);rintro e w6 ⟨Vv,a1,bH,bG,rfl,dg,bj⟩;have S6:=Sd.on bj;have fj:=(af.refl ae w6).alloc (.cells #[.string (B Vv),.slice a1 bH bG] 115);have S6a:=S6.on fj;have DN:w3.heap.size<=w6.heap.size:=(Nat.le_trans YF bj.size);have ZH:=mI.one (O:=fun b=>b<=H+1) (aw.weaken (fun b _ e=>(by omega)) _ _ dg);have Kl:ai (fun b=>b<=H+1\/w6.heap.size<=b) (w6.alloc (.cells #[.string (B Vv),.slice a1 bH bG] 115)) 2 (ss.map Sm.az) sa 0:=(ai.weaken (fun b _ e=>(by omega)) _ _ _ _ (((agu.on hd).on bj).on fj));have fD:=(eR.kept hd).kept bj;have aqD:=fD.lt))
   all_goals
     have ah:=oF.set (d0:=.string (B f2)) (d1:=.slice fa ([e1]++ss).length fc);obtain⟨e00,RX⟩:=ah.1.cells;have HE:=ak (And.intro e00 (And.intro RX ah.2));clear e00 RX ah;go_wp2_with fail;obtain⟨e00,RX,ah⟩:=HE.out;have rI:([e1]++ss).length=ss.length+1:=by simp
     rw[rI]at e00 RX ah RH;have hF9:=ai.ag ah (fun b e=>.inl ⟨by show b<=H+1;omega,by omega⟩) _ _ _ _ hF;have hF0:ai (fun b=>b<w.heap.size) _ 2 ((e1 :: ss).map Sm.az) fa 0:=ai.weaken (fun b _ e=>(by have:=HH.out;left;exact⟨by omega,by omega⟩)) _ _ _ _ hF9;refine bodyPost_ret (v:=.agg #[.string (B f2),.slice fa (ss.length+1) fc]) ?_ rfl ?_
     ·simp[results,Tryz.f126,go_sem,e00,RX]
     rw[HE2.out];refine⟨f2,fa,ss.length+1,fc,rfl,ig.2 ⟨fa,fc,rfl,RH,hF0⟩,?_⟩;exact(((aZ.and (hd.and bj)).and fj).trans (ck HG8.out.1) (fun b hb e=>by simp[Value.ownBlock]at e;have:=HH.out;omega)).trans ah (fun b hb e=>by have:=HH.out;omega)
end
end Go.Proofs.YthgmimncdjhgnaaGreatDoor
