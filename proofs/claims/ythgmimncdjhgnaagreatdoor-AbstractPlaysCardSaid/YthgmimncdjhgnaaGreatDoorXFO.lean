/- Bh.Y4. -/
import Derived.Test.YthgmimncdjhgnaaGreatDoorXFN
set_option maxRecDepth 100000
set_option maxHeartbeats 16000000
namespace Go.LF
open Tm
def tJ(o:List Int)(i:Int):Nat->Int
  |0=>i
  |k+1=>if o.getD k 0=i then(k:Int)else tJ o i k
def KK(o:List Int)(i:Int):Int:=tJ o i o.length
theorem Hj(o:List Int)(i:Int)(p:Nat)(hp:o.getD p 0=i):∀ k,p<k->(∀ j,p<j->j<k->o.getD j 0≠i)->tJ o i k=p
  |0,h,_=>by omega
  |k+1,h,hu=>by
   rw[tJ];by_cases e:k=p
   ·subst e;rw[if_pos hp]
   rw[if_neg (hu k (by omega) (by omega)),Hj o i p hp k (by omega) (fun j h1 h2=>hu j h1 (by omega))]
theorem Uz{o:List Int}(hn:o.Nodup){i:Int}(hi:i∈o):KK o i=dN o i:=by
  obtain⟨p,hp,rfl⟩:=List.getElem_of_mem hi;rw[Qa hn];have hg:∀ j(h:j<o.length),o.getD j 0=o[j]:=fun j h=>by rw[List.getD_eq_getElem?_getD,List.getElem?_eq_getElem h];rfl
  refine Hj o _ p (hg p hp) o.length hp (fun j h1 h2 e=>?_);rw[hg j h2]at e;have:=(List.getElem_inj hn).1 e;omega
theorem Gi{f g:Int->Int}(t:Tm):fi (fun k _ i _=>k=6->f i=g i) t->bX f t=bX g t:=by
  induction t using ind with
  |h k n i l ih=>
   intro h;rw[cz,bV]at h;rw[gV,gV];have h1:(if k=6 then f i else i)=(if k=6 then g i else i):=by split;(rename_i e;exact h.1 e);rfl
   rw[h1];congr 1;exact List.map_congr_left (fun t ht=>ih t ht (h.2 t ht))
end Go.LF
namespace Go.Proofs.YthgmimncdjhgnaaGreatDoor
open Go.RowKit Go.LF
theorem ra(o:List Int)(B0:o.length<=100000)(t:Tm):t.size<=100000->∀(w:World)(cs:List Value)(oa:Option Addr)(oc:Nat),aw ae w t.az cs->ai ae w 1 (o.map (fB.int .i64)) oa 0->
    Calls Tryz.prog 63 #[.agg cs.toArray,.slice oa o.length oc] w (wN (bX (KK o) t) w):=by
  induction t using Tm.ind with
  |h k nm i ts ih=>
   intro ee w cs oa oc hR hO;obtain⟨a,cap,rfl,aX,hE⟩:=bg.1 hR;have hlen:=Tm.aA ts;simp only[Tm.aM]at ee;obtain⟨i0,hi,fS,gn,eH⟩:=info_parts de;obtain⟨w2,dY⟩:∃ w2,w2=((w.alloc (.cells #[.int .i64 k,.string (B nm),.int .i64 i,.slice a ts.length cap] 29)).alloc (.cells #[.int .i64 0,.string (B []),.int .i64 0,.slice none 0 0] 29)).alloc (.cells #[.int .i64 k,.string (B nm),.int .i64 i,.slice none 0 0] 29):=⟨_,rfl⟩;have aL:af ae w w2:=by rw[dY];exact(((af.refl ae w).alloc _).alloc _).alloc _
   have iD:au w2 w.heap.size (.int .i64 k) (.string (B nm)) (.int .i64 i) (.slice a ts.length cap) 29:=by rw[dY];exact((au.av rfl).kept ((af.refl ae _).alloc _)).kept ((af.refl ae _).alloc _)
   have dO:au w2 (w.heap.size+1) (.int .i64 0) (.string (B [])) (.int .i64 0) (.slice none 0 0) 29:=by rw[dY];exact(au.av (by simp)).kept ((af.refl ae _).alloc _)
   have qq:au w2 (w.heap.size+1+1) (.int .i64 k) (.string (B nm)) (.int .i64 i) (.slice none 0 0) 29:=by rw[dY];exact au.av (by simp)
   have GY:=qq.lt;have B7:=ak dY;have HW:=ak ee;have FA:=(ai.aG _ _ _ _ hO).on aL;have kJ:=(ai.aG _ _ _ _ hE).on aL;obtain⟨ol,Aj⟩:∃ ol,ol=o.length:=⟨_,rfl⟩;rw[<-Aj]at B0;rw[<-Aj];have ox:=ak Aj;obtain⟨mi,Dy⟩:∃ mi,mi=(if k=6 then KK o i else i):=⟨_,rfl⟩;have Ou:=ak Dy;have hoi:(ol:Int)<=100000:=by omega
   obtain⟨t0,t1,t2,t3⟩:=iD.cells;clear dY hR Aj Dy;go_enter Tryz.func63,Tryz.ntmps63;go_upto_region 2 with fail;rw[<-B7.out];go_upto_if 17 with fail
   go_cut []from 16 to 32 (fun wc=>au wc w.heap.size (.int .i64 k) (.string (B nm)) (.int .i64 i) (.slice a ts.length cap) 29/\au wc (w.heap.size+1) (.int .i64 0) (.string (B [])) (.int .i64 0) (.slice none 0 0) 29/\
       au wc (w.heap.size+1+1) (.int .i64 k) (.string (B nm)) (.int .i64 mi) (.slice none 0 0) 29/\af (fun b=>b=w.heap.size+1+1) w2 wc)
   case first=>
     by_cases hk:k=6
     ·have Cc:(k == 6)=true:=by simpa using hk
      have GJ:mi=KK o i:=by rw[Ou.out,if_pos hk]
      have VX:=ak GJ;clear hk GJ;go_wp2_with fail;go_loopw [6] (fun v6 wr=>∃(q:Nat),v6=.int .i64 (q:Int)/\q<=ol/\au wr (w.heap.size+1+1) (.int .i64 k) (.string (B nm)) (.int .i64 (tJ o i q)) (.slice none 0 0) 29/\af (fun b=>b=w.heap.size+1+1) w2 wr) (fun v6 _=>ol - (intOf v6).toNat)
      case atStart=>exact⟨0,rfl,Nat.zero_le _,qq,af.refl _ _⟩
      obtain⟨q,rfl,hq,sP,hU⟩:=hrel;have rK:=iD.ag hU (by omega);obtain⟨t0,t1,t2,t3⟩:=rK.cells;obtain⟨o0,o1,o2,o3⟩:=sP.cells;obtain⟨f0,f1,f2,f3⟩:=sP.aq;have qo:=sP.lt;have hqi:(q:Int)<=100000:=by omega
      by_cases aB:q<ol
      ·have hql:q<o.length:=by have:=ox.out;omega
       obtain⟨b,zt,rfl,Wq,hbO,bR⟩:=eX (ai.ag hU (fun b e=>.inr (by omega)) _ _ _ _ FA) q hql;have ve:o.getD q 0=o[q]:=by rw[List.getD_eq_getElem?_getD,List.getElem?_eq_getElem hql];rfl
       have kK:tJ o i (q+1)=if o[q]=i then(q:Int)else tJ o i q:=by rw[tJ,ve]
       generalize o[q]=x at *
       have hqb:(q:Int)<(ol:Int):=by omega
       have HS:=ak kK;clear kK ve;have hd:af ae wr wr.drew:=(af.refl ae _).drew;have S1d:wr.drew.cell? ⟨b,zt+q,none⟩=some (.int .i64 x)/\wr.drew.cell? ⟨w.heap.size,2,none⟩=some (.int .i64 i):=⟨hd.cell bR (fun x=>x),hd.cell t2 (fun x=>x)⟩;have MF:=sP.kept hd;have hUd:=hU.trans hd (fun _ _ e=>e.elim);obtain⟨TH,Wr,TA,Wx⟩:=MF.cells;obtain⟨ff0,ff1,ff2,ff3⟩:=MF.aq;have qd:=MF.lt;by_cases hx:x=i
       ·have kK:tJ o i (q+1)=(q:Int):=by rw[HS.out,if_pos hx]
        have Ox:(x == i)=true:=by simpa using hx
        have F7:=ak kK;clear kK hx;go_wp2_with fail;go_region_held3 (fun w'=>w'.cell? ⟨b,zt+q,none⟩=some (.int .i64 x)/\w'.cell? ⟨w.heap.size,2,none⟩=some (.int .i64 i)) (first |(with_reducible assumption)|(with_reducible exact S1d)) (fail)
        go_wp2_with fail;go_roundw;case rel=>exact⟨q+1,by go_num,by omega,by rw[F7.out];exact MF.kG _,hUd.trans (af.set (af.refl _ _) 2 _) (fun _ _ e=>e)⟩
        simp[intOf];omega
       have kK:tJ o i (q+1)=tJ o i q:=by rw[HS.out,if_neg hx]
       have Ox:(x == i)=false:=by simpa using hx
       have F7:=ak kK;clear kK hx;go_wp2_with fail;go_region_held3 (fun w'=>w'.cell? ⟨b,zt+q,none⟩=some (.int .i64 x)/\w'.cell? ⟨w.heap.size,2,none⟩=some (.int .i64 i)) (first |(with_reducible assumption)|(with_reducible exact S1d)) (fail)
       go_wp2_with fail;go_roundw;case rel=>exact⟨q+1,by go_num,by omega,by rw[F7.out];exact MF,hUd⟩
       simp[intOf];omega
      have hqe:q=ol:=by omega
      have eJ:mi=tJ o i q:=by rw[VX.out,hqe,ox.out];rfl
      rw[<-eJ]at sP;have kZ:¬(q:Int)<(ol:Int):=by omega
      have HF:=ak (And.intro rK (And.intro (dO.ag hU (by omega)) (And.intro sP hU)));clear hqe eJ;go_wp2_with fail;go_meet
      exact HF.out
     have Cc:(k == 6)=false:=by simpa using hk
     have GJ:mi=i:=by rw[Ou.out,if_neg hk]
     clear hk;go_wp2_with fail;go_meet
     exact⟨iD,dO,by rw[GJ];exact qq,af.refl _ _⟩
   obtain⟨Yz,Z8,KO,hUp⟩:=hcut;clear t0 t1 t2 t3 iD dO qq FA kJ;have dh:w.heap.size+1+1<wc.heap.size:=KO.lt;have afD:af ae w wc:=aL.trans hUp (fun b hb e=>by omega);obtain⟨wp,rfl⟩:∃ wp,wp=wc:=⟨_,rfl⟩;go_wp2_with fail
   go_loopw [7] (fun v7 wr=>∃(j:Nat)(v:Value)(css:List (List Value)),v7=.int .i64 j/\j<=ts.length/\dG wp.heap.size wr v ((ts.take j).map (bX (KK o))) css/\
       au wr (w.heap.size+1+1) (.int .i64 k) (.string (B nm)) (.int .i64 mi) v 29/\au wr w.heap.size (.int .i64 k) (.string (B nm)) (.int .i64 i) (.slice a ts.length cap) 29/\
       au wr (w.heap.size+1) (.int .i64 0) (.string (B [])) (.int .i64 0) (.slice none 0 0) 29/\af ae w wr/\wp.heap.size<=wr.heap.size)
     (fun v7 _=>ts.length - (intOf v7).toNat)
   case atStart=>exact⟨0,_,[],rfl,Nat.zero_le _,by simp only[List.take_zero,List.map_nil];exact dG.nil _ _,KO,Yz,Z8,afD,Nat.le_refl _⟩
   obtain⟨j,v,css,rfl,hj,eB,b6,rK,kM,hU,Ax⟩:=hrel;obtain⟨b0,b1,b2,b3⟩:=b6.cells;obtain⟨f0,f1,f2,f3⟩:=b6.aq;obtain⟨t0,t1,t2,t3⟩:=rK.cells;have qo:=b6.lt;have Fl:(0:Int)<=(j:Int):=by omega
   have Dp:(j:Int)<=100000:=by omega
   by_cases aB:j<ts.length
   ·obtain⟨eb,eo,ek,en,ex,es,ec,rfl,mz,_,p0,p1,p2,p3,eY⟩:=aY (hE.on hU) j aB;have YB:=Tm.aK (List.getElem_mem aB);have ET:(j:Int)<(ts.length:Int):=by omega
    have hd:af ae wr wr.drew:=(af.refl ae wr).drew;have IH:=ih (ts[j]'aB) (List.getElem_mem aB) (by omega) wr.drew _ oa oc (eY.on hd) ((hO.on hU).on hd);rw[<-ox.out]at IH;obtain⟨us,gd⟩:∃ us,us=(ts.take j).map (bX (KK o)):=⟨_,rfl⟩;obtain⟨u,hu⟩:∃ u,u=bX (KK o) (ts[j]'aB):=⟨_,rfl⟩;have cZ:us.length=j:=by rw[gd,List.length_map,List.length_take];omega
    have sX:us++[u]=(ts.take (j+1)).map (bX (KK o)):=by rw[List.take_succ_eq_append_getElem aB,List.map_append,<-gd,hu];rfl
    rw[<-gd]at eB;rw[<-hu]at IH;have HS:=ak (And.intro cZ sX);have Wk:us.length<=1000000:=by omega
    have yN:=ak (show j<ts.length from aB);clear cZ sX gd hu ih;generalize (ts[j]'aB).args.length=el at *
    go_wp2_with fail
    go_region_law (first
      |((rw[if_pos (by rfl)]);go_simp;(go_at_call 63);refine IH.mono ?_;rintro e w6 ⟨k1,i1,n1,a1,bH,bG,rfl,dg,bj⟩;have cL:af ae wr w6:=hd.and bj;have dc:=b6.kept cL;have Mh:=rK.kept cL;have q6:=dc.lt;have c6:=dc.cells.2.2.2;have z6:=dc.frozen 3;have y6:=Mh.cells.2.2.2;have ss6:=cL.size;have XD:=hd.size;have iT:=eB.on cL)
      |(refine step_append_lies _ (by rfl) _ _ 26 (by rfl) wp.heap.size 29 i0 (.agg #[.int .i64 0,.string (B []),.int .i64 0,.slice none 0 0]) 4 56 (by kernel_rfl) hi fS gn eH rfl (by decide) v us.length css.flatten (by rfl) ((iT.on ((af.refl ae w6).alloc _)).2.2.1) ⟨w6.heap.size,0,none⟩ 1 1 [.int .i64 k1,.string (B n1),.int .i64 i1,.slice a1 bH bG] (by rfl) rfl (World.news_of_block (heap_alloc_new w6 _)) (by simp[Value.oneCell']) (by omega) (by simp only[maxLen];omega) (by omega) (by simp;omega) _ rfl ?_;intro g aS w7 bq aN ft xY;have fe:=(dc.kept ((af.refl ae w6).alloc _)).row aN (iT.on ((af.refl ae w6).alloc _)) (by omega);have c7:=fe.cells.2.2.2;have z7:=fe.frozen 3))
    all_goals
      obtain⟨v',fY,lL,MP,Nq,Mo,cW,Ni⟩:=xf eB b6 rK kM hU rfl dh Ax cL XD dg bq aN ft;rw[HS.out.2]at lL;have HT7:=ak lL;clear lL;go_wp2_with fail;go_roundw;case rel=>exact⟨j+1,_,_,by go_num,Nat.succ_le_of_lt yN.out,HT7.out,MP,Nq,Mo,cW,Ni⟩
      (have:=yN.out;simp[intOf];omega)
   obtain⟨us,gd⟩:∃ us,us=(ts.take j).map (bX (KK o)):=⟨_,rfl⟩;rw[<-gd]at eB;obtain⟨s0,s1,s2,s3⟩:=kM.cells;obtain⟨g0,g1,g2,g3⟩:=kM.aq;have qr:=kM.lt;have sA:¬(j:Int)<(ts.length:Int):=by omega
   obtain⟨a9,dQ,rfl,lP,Gv⟩:=eB.rep;obtain⟨len,oh⟩:∃ len,len=us.length:=⟨_,rfl⟩;rw[<-oh]at b6 lP b3
   have eJ:bX (KK o) (.mk k nm i ts)=.mk k nm mi us:=by
     rw[List.take_of_length_le (by omega)]at gd;rw[gV,<-Ou.out,<-gd]
   have HL:=ak oh;have tg:=ak eJ;have xG:aw (fun x=>x<=w.heap.size+1) wr (Tm.mk k nm mi us).az [.int .i64 k,.string (B nm),.int .i64 mi,.slice a9 len dQ]:=bg.2 ⟨a9,dQ,by rw[HL.out],by rw[<-HL.out];exact lP,ai.weaken (fun b _ e=>by omega) _ _ _ _ Gv⟩;clear oh eB gd eJ;go_wp2_with fail;obtain⟨w9,bf⟩:∃ w9,w9=(((wr.setCell ⟨w.heap.size+1,0,none⟩ (.int .i64 k)).setCell ⟨w.heap.size+1,1,none⟩ (.string (B nm))).setCell ⟨w.heap.size+1,2,none⟩ (.int .i64 mi)).setCell ⟨w.heap.size+1,3,none⟩ (.slice a9 len dQ):=⟨_,rfl⟩;have aJ:=kM.set (d0:=.int .i64 k) (d1:=.string (B nm)) (d2:=.int .i64 mi) (d3:=.slice a9 len dQ);rw[<-bf]at aJ;rw[<-bf];clear bf;obtain⟨e0,e1,e2,e3⟩:=aJ.1.cells;refine bodyPost_ret (v:=.agg #[.int .i64 k,.string (B nm),.int .i64 mi,.slice a9 len dQ]) ?_ rfl ?_
   ·simp[results,Tryz.f63,go_sem,e0,e1,e2,e3]
   rw[tg.out];exact⟨k,mi,nm,a9,len,dQ,rfl,aw.weaken (fun b _ e=>by omega) _ _ (aw.ag aJ.2 (fun b e=>by omega) _ _ xG),hU.trans aJ.2 (fun x hx e=>by omega)⟩
end Go.Proofs.YthgmimncdjhgnaaGreatDoor
namespace Go.LF
open Tm Go.Proofs.YthgmimncdjhgnaaGreatDoor
theorem MW{l:List Mv}(hP:lf l){ts:List Tm}(h:iz l ts=0):iU l ts=0/\∀ u∈iy l ts,u.wf=0/\∀ i∈Tm.ay u,i∈lQ l ts:=by
  obtain⟨hA,hC,_,_⟩:=qS hP h;refine⟨hA,fun u hu=>?_⟩;unfold iy at hu;rw[if_pos hA]at hu;obtain⟨t,ht,rfl⟩:=List.mem_map.1 hu;exact⟨(iZ hP (jS l ts hA t ht)).1,fun i hi=>(wP hC).2 i (List.mem_flatMap.2 ⟨_,List.mem_map.2 ⟨t,ht,rfl⟩,hi⟩)⟩
theorem zd{o:List Int}(hn:o.Nodup){t:Tm}(hw:t.wf=0)(hm:∀ i∈Tm.ay t,i∈o):bX (KK o) t=bX (dN o) t:=
  Gi t ((cT (N:=fun i=>KK o i=dN o i) t hw).2 (fun i hi=>Uz hn (hm i hi)))
end Go.LF
namespace Go.Proofs.YthgmimncdjhgnaaGreatDoor
open Go.RowKit Go.LF
abbrev La(P nb no:Nat)(t0 t1 t2 t3 nm:Value)(b2 o2:Nat)(m:Value)(w':World):Prop:=
  (w'.cell? ⟨P,0,none⟩=some t0/\w'.cell? ⟨P,1,none⟩=some t1/\w'.cell? ⟨P,2,none⟩=some t2/\w'.cell? ⟨P,3,none⟩=some t3)/\w'.cell? ⟨nb,no,none⟩=some nm/\w'.cell? ⟨b2,o2,none⟩=some m
theorem La.ag{S:Nat->Prop}{P nb no:Nat}{t0 t1 t2 t3 nm:Value}{b2 o2:Nat}{m:Value}{w w':World}(h:La P nb no t0 t1 t2 t3 nm b2 o2 m w)(hU:af S w w')(h1:¬S P)(h2:¬S nb)(h3:¬S b2):La P nb no t0 t1 t2 t3 nm b2 o2 m w':=by
  obtain⟨⟨a0,a1,a2,a3⟩,b,c⟩:=h;exact⟨⟨hU.cell a0 h1,hU.cell a1 h1,hU.cell a2 h1,hU.cell a3 h1⟩,hU.cell b h2,hU.cell c h3⟩
theorem xZ(l:List Mv)(hP:lf l)(ts:List Tm)(eB:∀ t∈ts,t.wt<=1000000/\(t.wf=0->(∀ i∈Tm.ay t,i<l.length)->Kn l.length t))(hlen:ts.length<=1000)(w:World)(la:Option Addr)(lc:Nat)(ta:Option Addr)(tc:Nat)(hL:ai ae w 6 (l.map Mv.az) la 0)(hT:ai ae w 4 (ts.map Tm.az) ta 0):
    Calls Tryz.prog 18 #[.slice la l.length lc,.slice ta ts.length tc] w (mC (iz l ts) (fk l ts) (fQ l ts) w):=by
  obtain⟨i0,hi,fS,gn,eH⟩:=info_parts qR;have UN:=tx l hP ts eB hlen w la lc ta tc hL hT;have AL:=fun(W:World)(h:af ae w W)=>wU ae l hP.uX ts eB hlen W (fun _ e=>e.elim) la lc ta tc (hL.on h) (hT.on h)
  have qn:=fun(h:iz l ts=0)=>qS hP h
  have fO:=fun(h:iz l ts=0)=>MW hP h
  obtain⟨KS,ti⟩:∃ K,K=fk l ts:=⟨_,rfl⟩;obtain⟨US,B4⟩:∃ U,U=fQ l ts:=⟨_,rfl⟩;rw[<-ti,<-B4];unfold fk at ti;unfold fQ at B4;obtain⟨E,hE⟩:∃ E,E=iz l ts:=⟨_,rfl⟩;obtain⟨o,ho⟩:∃ O,O=lQ l ts:=⟨_,rfl⟩;rw[<-hE,<-ho]at UN;rw[<-ho]at ti B4 qn fO;rw[<-hE]at B4 qn fO;rw[<-hE];have hO0:E≠0->o=[]:=fun h=>by rw[ho];unfold lQ;rw[if_neg (by rw[<-hE];exact h)]
  obtain⟨us,gd⟩:∃ us,us=iy l ts:=⟨_,rfl⟩;rw[<-gd]at AL B4 fO;have HE:=ak (And.intro ti (And.intro B4 (And.intro hO0 (And.intro qn fO))));obtain⟨ll,du⟩:∃ ll,ll=l.length:=⟨_,rfl⟩;rw[<-du]at UN AL;rw[<-du];have yC:=ak du;have kA:=ai.aG _ _ _ _ hL;have ic:=ai.aG _ _ _ _ hT;obtain⟨ol,B0⟩:∃ ol,ol=o.length:=⟨_,rfl⟩;obtain⟨ul,cZ⟩:∃ ul,ul=us.length:=⟨_,rfl⟩;have ox:=ak (And.intro B0 cZ);have ahb:=ak (show us.length<=1000 from by rw[gd];have:=uJ l ts;omega);clear hE ho ti B4 hO0 qn fO gd du hL hT eB hlen B0 cZ;go_enter Tryz.func18,Tryz.ntmps18;go_wp2_with fail
  (with_reducible refine UN.mono ?_);rintro e w2 ⟨oa,oc,rfl,Hu,hOe,aL⟩;rw[<-ox.out.1]at Hu;rw[<-ox.out.1];by_cases gL:E=0
  case neg=>
    have he:(E !=0)=true:=by simpa using gL
    have h2:=HE.out.2.2.1 gL;have h3:KS=[]:=by rw[HE.out.1,h2];rfl
    have h4:US=[]:=by rw[HE.out.2.1,if_neg gL]
    have HF:=ak (And.intro h3 h4);clear h2 h3 h4 gL UN AL;go_wp2_with fail;refine bodyPost_ret (v:=.tuple #[.slice none 0 0,.slice none 0 0,.int .i64 E]) (by simp[results,Tryz.f18,go_sem]) rfl ?_;exact mC.bad rfl HF.out.1 HF.out.2 aL
  subst gL;obtain⟨ti,B4,_,qn,fO⟩:=HE.out;obtain⟨_,_,QG,_⟩:=qn rfl;obtain⟨ZO,NH⟩:=fO rfl;rw[if_pos rfl]at B4;have JV:=QG.nodup;have HF:=ak (And.intro ti (And.intro B4 (And.intro ZO (And.intro NH (And.intro QG JV)))));have amd:ol<=40:=by have h1:=QG.len;have h2:=hP.len;have:=ox.out.1;omega
  have oG:=kA.on aL;have yZ:=ic.on aL;have lS:=ai.aG _ _ _ _ hOe;have Ja:=ai.aG _ _ _ _ oG;obtain⟨B5,Jr⟩:∃ B5,B5=w2.heap.size:=⟨_,rfl⟩;rw[<-Jr]at lS Ja;have YT:=ak Jr;clear ti B4 qn fO ZO NH QG JV UN Jr hOe kA ic oG;go_wp2_with fail
  go_loopw [9,10] (fun v9 v10 wr=>∃(j:Nat)(css:List (List Value)),v10=.int .i64 (j:Int)/\j<=ol/\cS 96 6 (fun b=>b<B5) B5 wr v9 (((o.take j).map (jE l o)).map Mv.az) css/\af ae w2 wr)
    (fun _ v10 _=>ol - (intOf v10).toNat)
  case atStart=>exact⟨0,[],rfl,Nat.zero_le _,cS.nil _ _ _ _ _,af.refl _ _⟩
  obtain⟨j,css,rfl,hj,hD,iB⟩:=hrel;obtain⟨vv,sO⟩:∃ v,v=u9:=⟨_,rfl⟩;rw[<-sO]at hD;rw[<-sO];have HVV:=ak sO;have BW:(j:Int)<=40:=by omega
  have fE:(((o.take j).map (jE l o)).map Mv.az).length=j:=by have:=ox.out.1;simp;omega
  have G5:B5<=wr.heap.size:=by have:=iB.size;have:=YT.out;omega
  clear sO;by_cases aB:j<ol
  ·have b7:j<o.length:=by have:=ox.out.1;omega
   obtain⟨b,zt,rfl,Wq,hbO,jG⟩:=eX (lS.on iB) j b7;have Dp:(j:Int)<(ol:Int):=by omega
   have eQ:((o.take (j+1)).map (jE l o)).map Mv.az=((o.take j).map (jE l o)).map Mv.az++[(jE l o o[j]).az]:=by rw[List.take_succ_eq_append_getElem b7,List.map_append,List.map_append];rfl
   obtain⟨y0,y1⟩:=HF.out.2.2.2.2.1.inn _ (List.getElem_mem b7);obtain⟨hye,hyt⟩:=HF.out.2.2.2.2.1.kQ j b7;have hyo:∀ i∈Tm.ay (bP l (typeOf l o[j])),i∈o:=fun i hi=>List.mem_of_mem_take (hyt i hi)
   have hOn:ai ae wr 1 (o.map (fB.int .i64)) (some ⟨b,zt,none⟩) 0:=ai.weaken (fun _ _ e=>e.elim) _ _ _ _ (lS.on iB);generalize o[j]=y at *
   obtain⟨p,rfl⟩:∃ p:Nat,y=(p:Int):=⟨y.toNat,by omega⟩;have jB:p<l.length:=by omega
   obtain⟨b2,o2,k2,n2,wV,uP,fP,Ca,zw,rfl,VR,tI,⟨d0,d1,d2,d3,d4,d5⟩,lV,_,_⟩:=ja (Ja.on iB) p jB;have OH:=lR jB;have lr:=List.getElem_mem jB;have EB:=(hP.kn _ lr).1;have jx:=hP.kQ _ lr;rw[<-OH]at EB jx lV d4;rw[<-sI jB]at d0;have Yo:=qz hP (i:=(p:Int)) y0 y1 hye;have Eu:=zd HF.out.2.2.2.2.2 Yo hyo;have Rm:=oS Yo;have EX:=qL l hP (p:Int) jx EB ae wr (fun _ e=>e.elim) (some ⟨b2,o2,none⟩) lc _ (ai.weaken (fun _ _ e=>e.elim) _ _ _ _ (Ja.on iB)) (dj lV);rw[hye,<-yC.out]at EX;have MZ:jE l o (p:Int)=⟨nameOf l (p:Int),bX (dN o) (bP l (typeOf l (p:Int))),[]⟩:=rfl;rw[MZ]at eQ;have RNm:=fun(W:World)(cs:List Value)(h:aw ae W (bP l (typeOf l (p:Int))).az cs)(h2:ai ae W 1 (o.map (fB.int .i64)) (some ⟨b,zt,none⟩) 0)=>ra o (by have:=ox.out.1;omega) (bP l (typeOf l (p:Int))) (by omega) W cs (some ⟨b,zt,none⟩) oc h h2
   rw[Eu,<-ox.out.1]at RNm;generalize bX (dN o) (bP l (typeOf l (p:Int)))=X at *
   generalize nameOf l (p:Int)=nm at *
   generalize bP l (typeOf l (p:Int))=Y at *
   generalize (typeOf l (p:Int)).args.length=XQ at *
   have EP:=ak eQ;have LH:(p:Int)<(ll:Int):=by have:=yC.out;omega
   have hpm:(p:Int)<=40:=by have:=hP.len;omega
   have Kv:¬some b2=vv.ownBlock:=fun e=>tI (.inr (hD.2.2.1.lt b2 e.symm).1)
   have age:¬some b=vv.ownBlock:=fun e=>hbO (.inr (hD.2.2.1.lt b e.symm).1)
   clear eQ MZ hye hyt hyo OH lr EB jx Yo Eu Rm d5 lV y0 y1;go_wp2_with fail
   (with_reducible refine EX.mono ?_);rintro e w5 ⟨k5,i5,n5,a5,l5,c5,rfl,gN,ba⟩;obtain⟨w6,iF⟩:∃ w6,w6=w5.alloc (.cells #[.int .i64 k5,.string (B n5),.int .i64 i5,.slice a5 l5 c5] 29):=⟨_,rfl⟩;have bj:af ae w5 w6:=by rw[iF];exact(af.refl ae _).alloc _
   have zD:au w6 w5.heap.size (.int .i64 k5) (.string (B n5)) (.int .i64 i5) (.slice a5 l5 c5) 29:=by rw[iF];exact au.av rfl
   obtain⟨P,KV⟩:∃ P,P=w5.heap.size:=⟨_,rfl⟩;rw[<-KV]at zD;have Ya:=ak KV;have Ju:=ak iF;have sL:=ba.and bj;have hd:af ae w6 w6.drew:=(af.refl ae w6).drew;have Cr:=sL.and hd;have RN:=RNm w6.drew _ ((gN.on bj).on hd) (hOn.on Cr);have S6:La P b2 (o2+p * 6) (.int .i64 k5) (.string (B n5)) (.int .i64 i5) (.slice a5 l5 c5) (.string (B nm)) b (zt+j) (.int .i64 (p:Int)) w6:=⟨zD.cells,sL.cell d0 (fun x=>x),sL.cell jG (fun x=>x)⟩;have XC:=S6.ag hd (fun x=>x) (fun x=>x) (fun x=>x);have HO:∀ b,b<B5->b<B5:=fun _ e=>e
   have IM:=hD.on Cr HO;have aoh:=Cr.size
   have mk:=fun(w7:World)(cm:af ae w6.drew w7)(k6 i6:Int)(n6:List UInt8)(a6:Option Addr)(l6 c6:Nat)=>show(w7.alloc (.cells #[.string (B nm),.int .i64 k6,.string (B n6),.int .i64 i6,.slice a6 l6 c6,.slice none 0 0] 96)).ownsRow B5 96 6 vv j css.flatten/\B5<=w7.heap.size from by
     have h:=(IM.on (cm.and ((af.refl ae w7).alloc (.cells #[.string (B nm),.int .i64 k6,.string (B n6),.int .i64 i6,.slice a6 l6 c6,.slice none 0 0] 96))) HO).2.2.1;rw[fE]at h;exact⟨h,by have:=cm.size;omega⟩
   have hnP:¬some P=vv.ownBlock:=fun e=>by have h1:=(hD.2.2.1.lt P e.symm).2;have h2:=Ya.out;have h3:=ba.size;omega
   have HMK:=ak mk;have Kk:=ak IM;clear EX iF KV gN zD d0 d1 d2 d3 d4 jG mk IM hD S6 RNm hOn;go_upto_region 9 with fail;rw[<-Ya.out,<-Ju.out];go_upto_region 11 with fail
   go_region_held3 (fun w'=>La P b2 (o2+p * 6) (.int .i64 k5) (.string (B n5)) (.int .i64 i5) (.slice a5 l5 c5) (.string (B nm)) b (zt+j) (.int .i64 (p:Int)) w') (first |(with_reducible assumption)|(with_reducible exact XC)|(with_reducible exact s6)|(with_reducible exact W6)|(with_reducible exact s7)) (first
     |((go_at_call 63);(with_reducible refine RN.mono ?_);rintro e w7 ⟨k6,i6,n6,a6,l6,c6,rfl,dg,cm⟩;have s6:=XC.ag cm (fun x=>x) (fun x=>x) (fun x=>x);have W6:=s6.ag ((af.refl ae w7).alloc (.cells #[.string (B nm),.int .i64 k6,.string (B n6),.int .i64 i6,.slice a6 l6 c6,.slice none 0 0] 96)) (fun x=>x) (fun x=>x) (fun x=>x);obtain⟨qH,hz7⟩:=HMK.out w7 cm k6 i6 n6 a6 l6 c6)
     |(refine step_append_lies _ (by rfl) _ _ 23 (by rfl) B5 96 i0 (.agg #[.string (B []),.int .i64 0,.string (B []),.int .i64 0,.slice none 0 0,.slice none 0 0]) 6 96 (by kernel_rfl) hi fS gn eH rfl (by decide) vv j css.flatten (by rfl) qH ⟨w7.heap.size,0,none⟩ 1 1 [.string (B nm),.int .i64 k6,.string (B n6),.int .i64 i6,.slice a6 l6 c6,.slice none 0 0] (by rfl) rfl (World.news_of_block (heap_alloc_new w7 _)) (by simp[Value.oneCell']) (by omega) (by simp only[maxLen];omega) (by omega) (by simp;omega) _ rfl ?_;intro g aS w8 bq aN ft xY;have s7:=W6.ag (mE aN) (fun e=>hnP e.symm) (fun e=>Kv e.symm) (fun e=>age e.symm)))
   all_goals
     have cK:=(af.refl ae w7).alloc (.cells #[.string (B nm),.int .i64 k6,.string (B n6),.int .i64 i6,.slice a6 l6 c6,.slice none 0 0] 96);have rM:=Kk.out.on (cm.and cK) (fun _ e=>e)
     have A8:aw (fun b=>b<B5\/vv.ownBlock=some b) (w7.alloc (.cells #[.string (B nm),.int .i64 k6,.string (B n6),.int .i64 i6,.slice a6 l6 c6,.slice none 0 0] 96)) (Mv.az ⟨nm,X,[]⟩) [.string (B nm),.int .i64 k6,.string (B n6),.int .i64 i6,.slice a6 l6 c6,.slice none 0 0]:=by
       refine jF.2 ⟨[.int .i64 k6,.string (B n6),.int .i64 i6,.slice a6 l6 c6],none,0,rfl,(aw.weaken (fun b _ e=>?_) _ _ dg).on cK,Nat.le_refl _,by simp only[List.map_nil,ai]⟩;show b<w6.heap.size;have hz5:=sL.size;rcases e with e |e
       ·omega
       exact(Kk.out.2.2.1.lt b e).2
     have gE:w8.ownsRow B5 96 6 (.slice (some ⟨g,0,none⟩) ((((o.take j).map (jE l o)).map Mv.az).length+1) aS) ((((o.take j).map (jE l o)).map Mv.az).length+1) (css.flatten++[.string (B nm),.int .i64 k6,.string (B n6),.int .i64 i6,.slice a6 l6 c6,.slice none 0 0]):=by rw[fE];exact bq
     have NK:=rM.appended (d:=Mv.az ⟨nm,X,[]⟩) rfl A8 gE aN ft (Nat.le_refl _);rw[fE,<-EP.out]at NK;have cW:af ae w2 w8:=(((iB.and Cr).and cm).and cK).trans (ck aN) (fun b hb e=>by have:=(rM.2.2.1.lt b e).1;have:=YT.out;omega);have HR:=ak (And.intro NK cW);clear NK cW gE A8 bq aN ft rM dg cm s6 W6 s7 qH;go_wp2_with fail;go_roundw;case rel=>exact⟨j+1,_,by go_num,by omega,HR.out.1,HR.out.2⟩
     simp[intOf];omega
  have WJ:o.take j=o:=List.take_of_length_le (by have:=ox.out.1;omega);rw[WJ,<-HF.out.1]at hD fE;obtain⟨va,vc,hv,fp,TW⟩:=hD.rep (fun _ e=>e);rw[fE]at hv fp;subst hv;obtain⟨w6,rfl⟩:∃ q,q=wr:=⟨wr,rfl⟩;have PG:=aL.and iB;have ALw:=AL w6 PG;rw[HF.out.2.2.1]at ALw;have Vj:=ai.aG _ _ _ _ TW;have HKF:=ak (And.intro Vj (And.intro fp fE));have sA:¬(j:Int)<(ol:Int):=by omega
  have Nc:=(lS.on iB);have Tx:=ai.aG _ _ _ _ Nc;obtain⟨B6,Sb⟩:∃ B6,B6=w6.heap.size:=⟨_,rfl⟩;rw[<-Sb]at Tx;have HB6:=ak Sb;clear TW fp fE hD Vj AL Nc Sb lS Ja;go_wp2_with fail
  (with_reducible refine ALw.mono ?_);rintro e w7 ⟨ua,uc,rfl,EI,Vd,cm,af3,PH⟩;have hZ:=o6.start PH
  have hug:∀ g,0<us.length->ua=some ⟨g,0,none⟩->w6.heap.size<=g/\g<w7.heap.size:=fun g h e=>by
    obtain⟨a',c',EC,_,hc⟩:=PH.cells;simp only[Value.slice.injEq]at EC;obtain⟨rfl,_,rfl⟩:=EC;obtain⟨g',e',_,g1,g2,_⟩:=hc 0 (by simpa using h) (by have:=PH.1;simp at this;omega);rw[e]at e';cases e'
    exact⟨g1,g2⟩
  have QC:=ak hug;have Wz:=Tx.on cm;have amy:(ul:Int)<=1000:=by have h1:=ox.out.2;have h2:=ahb.out;omega
  rw[<-ox.out.2]at EI;rw[<-ox.out.2];clear hug PH Vd ALw Tx;go_wp2_with fail
  go_loopw [14] (fun E9 wr=>∃(i:Nat),E9=.int .i64 (i:Int)/\i<=ul/\o6 wr ua ((us.take i).map (bX (dN o))++us.drop i)/\af (fun b=>ua=some ⟨b,0,none⟩/\0<us.length) w7 wr)
    (fun E9 _=>ul - (intOf E9).toNat)
  case atStart=>exact⟨0,rfl,Nat.zero_le _,by simpa using hZ,af.refl _ _⟩
  obtain⟨i,rfl,Bc,JZ,cW⟩:=hrel;have him:(i:Int)<=1000:=by omega
  have hO8:=ai.ag cW (fun b e=>.inr (by have h1:=(QC.out b e.2 e.1).1;have h2:=HB6.out;omega)) _ _ _ _ Wz;have aeH:ai ae wr 1 (o.map (fB.int .i64)) oa 0:=ai.weaken (fun _ _ e=>e.elim) _ _ _ _ hO8;by_cases N4:i<ul
  ·have As:i<us.length:=by have:=ox.out.2;omega
   have cZ:i<((us.take i).map (bX (dN o))++us.drop i).length:=by simp;omega
   obtain⟨g,cs,rfl,px,sR,Km,iQ,pw⟩:=JZ i cZ
   have ky:((us.take i).map (bX (dN o))++us.drop i)[i]=us[i]:=by
     rw[List.getElem_append_right (by simp;omega)];simp only[List.length_map,List.length_take,List.getElem_drop];congr 1;omega
   have ah:((us.take i).map (bX (dN o))++us.drop i).set i (bX (dN o) us[i])=(us.take (i+1)).map (bX (dN o))++us.drop (i+1):=by
     rw[List.set_append_right _ _ (by simp;omega),List.drop_eq_getElem_cons As,List.take_succ_eq_append_getElem As];simp only[List.length_map,List.length_take,Nat.min_eq_left (Nat.le_of_lt As),Nat.sub_self,List.set_cons_zero,List.map_append,List.map_cons,List.map_nil,List.append_assoc,List.singleton_append]
   rw[ky]at pw;obtain⟨hwi,Dy⟩:=HF.out.2.2.2.1 _ (List.getElem_mem As);have WN:=oS hwi;have Eu:=zd HF.out.2.2.2.2.2 hwi Dy;obtain⟨ek,en,ex,ets,ea,ec,hut,rfl,_,_⟩:=aP pw;generalize ets.length=el at *
   have p0:=iQ 0 _ rfl;rw[Nat.add_zero]at p0;have p1:=iQ 1 _ rfl;have p2:=iQ 2 _ rfl;have p3:=iQ 3 _ rfl;have RN:=ra o (by have:=ox.out.1;omega) us[i] (by omega) wr _ oa oc (aw.weaken (fun _ _ e=>e.elim) _ _ pw) aeH;rw[Eu,<-ox.out.1]at RN;have jZ:=ak ah;generalize bX (dN o) us[i]=X at *
   have hib:(i:Int)<(ul:Int):=by omega
   clear ah ky hut WN pw Km hwi Dy Eu;go_wp2_with fail
   (with_reducible refine RN.mono ?_);rintro e w8 ⟨k8,i8,n8,a8,l8,c8,rfl,p8,bU⟩;have hZ8:=JZ.kept bU;have v0:=bU.cell p0 (fun x=>x);have v1:=bU.cell (iQ 1 _ rfl) (fun x=>x);have v2:=bU.cell (iQ 2 _ rfl) (fun x=>x);have v3:=bU.cell (iQ 3 _ rfl) (fun x=>x);have f8:=fun o=>(bU.cells.2 g o px (fun x=>x)).trans (sR o)
   have aeR:g<w8.heap.size:=Nat.lt_of_lt_of_le px bU.size;have jd:=o6.next (u:=X) (d0:=.int .i64 k8) (d1:=.string (B n8)) (d2:=.int .i64 i8) (d3:=.slice a8 l8 c8) hZ8 cZ (aw.weaken (fun b _ e=>by omega) _ _ p8) rfl;rw[jZ.out]at jd;have jz:af (fun b=>(some ⟨g,0,none⟩:Option Addr)=some ⟨b,0,none⟩/\0<us.length) w7 _:=(cW.trans bU (fun _ _ e=>e.elim)).trans jd.2 (fun b _ e=>⟨by rw[e],by omega⟩);have Lc:=ak (And.intro jd.1 jz);clear jd jz hZ8 JZ p8 bU RN iQ sR p0 p1 p2 p3;go_wp2_with fail;go_roundw;case rel=>exact⟨i+1,by go_num,by omega,Lc.out.1,Lc.out.2⟩
   simp[intOf];omega
  have Zl:i=us.length:=by have:=ox.out.2;omega
  rw[Zl,List.take_length,List.drop_length,List.append_nil,<-HF.out.2.1]at JZ;have YK:US.length=ul:=by rw[HF.out.2.1,List.length_map];exact ox.out.2.symm
  have tg:=ak (And.intro JZ YK);have qM:¬(i:Int)<(ul:Int):=by omega
  clear JZ YK Zl;go_wp2_with fail;refine bodyPost_ret (v:=.tuple #[.slice va j vc,.slice ua ul uc,.int .i64 0]) (by simp[results,Tryz.f18,go_sem]) rfl ?_;obtain⟨Vj,fp,fE⟩:=HKF.out;rw[List.length_map]at fE;have WG:US.length=us.length:=by rw[tg.out.2];exact ox.out.2
  have hk:=ai.ag cW (fun b e=>.inr (QC.out b e.2 e.1).1) _ _ _ _ (Vj.on cm);refine⟨va,ua,vc,uc,by rw[fE,tg.out.2],⟨by rw[fE];exact fp,by rw[tg.out.2];exact EI⟩,ai.weaken (fun b _ e=>.inr (QC.out b (by have:=e.2;omega) e.1).1) _ _ _ _ hk,tg.out.1,fun g h e=>by have h1:=(QC.out g (by omega) e).1;have h2:=PG.size;omega,?_⟩;exact(PG.and cm).trans cW (fun b hb e=>by have h1:=(QC.out b e.2 e.1).1;have h2:=PG.size;omega)
end Go.Proofs.YthgmimncdjhgnaaGreatDoor
