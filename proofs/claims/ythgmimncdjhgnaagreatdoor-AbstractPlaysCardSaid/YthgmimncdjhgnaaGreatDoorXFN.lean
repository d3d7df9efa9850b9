/- Bh.XR. -/
import Derived.Test.YthgmimncdjhgnaaGreatDoorXFL
import Derived.Test.YthgmimncdjhgnaaGreatDoorXFM
set_option maxRecDepth 100000
set_option maxHeartbeats 8000000
namespace Go.Proofs.YthgmimncdjhgnaaGreatDoor
section
open Go.RowKit Go.LF
theorem wU(O:Nat->Prop)(l:List Mv)(hG:GW l)(ts:List Tm)(eB:∀ t∈ts,t.wt<=1000000/\(t.wf=0->(∀ i∈Tm.ay t,i<l.length)->Kn l.length t))(hlen:ts.length<=1000)(w:World)(hO:∀ b,O b->b<w.heap.size)(la:Option Addr)(lc:Nat)(ta:Option Addr)(tc:Nat)(hL:ai O w 6 (l.map Mv.az) la 0)(hT:ai O w 4 (ts.map Tm.az) ta 0):
    Calls Tryz.prog 60 #[.slice la l.length lc,.slice ta ts.length tc] w (G1 O (iU l ts) (iy l ts) w):=by
  obtain⟨i0,hi,fS,gn,eH⟩:=info_parts de;obtain⟨H,hH⟩:∃ H,H=w.heap.size:=⟨_,rfl⟩;have kA:=ai.aG _ _ _ _ hL;have ic:=ai.aG _ _ _ _ hT;rw[<-hH]at kA ic;have j9:∀ b,O b->b<H:=by rw[hH];exact hO
  have HH:=ak hH;obtain⟨ll,du⟩:∃ ll,ll=l.length:=⟨_,rfl⟩;obtain⟨tl,jh⟩:∃ tl,tl=ts.length:=⟨_,rfl⟩;rw[<-du,<-jh];rw[<-jh]at hlen;have HL:=ak (And.intro du jh);have EH:=ak eB;have HO:=ak j9;clear du jh hH hO hL hT eB j9;go_enter Tryz.func60,Tryz.ntmps60;go_wp2_with fail
  go_loopw [6,7] (fun v6 v7 wr=>∃(j:Nat)(css:List (List Value)),v7=.int .i64 (j:Int)/\j<=tl/\iU l (ts.take j)=0/\cS 29 4 O H wr v6 (((ts.take j).map (bP l)).map Tm.az) css/\af ae w wr)
    (fun _ v7 _=>tl - (intOf v7).toNat)
  case atStart=>exact⟨0,[],rfl,Nat.zero_le _,rfl,cS.nil _ _ _ _ _,af.refl _ _⟩
  obtain⟨j,css,rfl,hj,hA,hD,hU⟩:=hrel;have HA:=ak hA;obtain⟨vv,sO⟩:∃ v,v=u6:=⟨_,rfl⟩;rw[<-sO]at hD;rw[<-sO];have HV:=ak sO;have G5:=hU.size;rw[<-HH.out]at G5;have fE:(((ts.take j).map (bP l)).map Tm.az).length=j:=by have:=HL.out.2;simp;omega
  clear hA sO;by_cases aB:j<tl
  ·have b7:j<ts.length:=by have:=HL.out.2;omega
   obtain⟨eb,eo,ek,en,ex,es,ec,rfl,mz,_,p0,p1,p2,p3,eY⟩:=aY (ic.on hU) j b7;have ET:(j:Int)<(tl:Int):=by omega
   have BW:(j:Int)<=1000:=by omega
   have bw:af ae wr wr:=af.refl ae wr;have Mb:=hD.on bw HO.out;have vW:=Mb.2.2.1;have wk:∀ b,b<wr.heap.size->(O b\/vv.ownBlock=some b)->(O b\/H<=b):=fun b _ e=>e.elim .inl (fun e=>.inr (vW.lt b e).1)
   have EX:=pr (fun b=>O b\/vv.ownBlock=some b) l hG (ts[j]'b7) (EH.out _ (List.getElem_mem b7)).1 (EH.out _ (List.getElem_mem b7)).2 wr
     (fun b e=>by have h0:=HO.out b;have h1:=bw.size;rcases e with e |e;(have:=h0 e;omega);exact(vW.lt b e).2) la lc _ ((ai.weaken wk _ _ _ _ (kA.on hU)).on bw) ((aw.weaken wk _ _ eY).on bw)
   rw[<-HL.out.1]at EX;have mQ:=rX l ts j b7 HA.out;have sY:=sq l ts j b7 HA.out;have eQ:((ts.take (j+1)).map (bP l)).map Tm.az=((ts.take j).map (bP l)).map Tm.az++[(bP l (ts[j]'b7)).az]:=by rw[List.take_succ_eq_append_getElem b7,List.map_append,List.map_append];rfl
   generalize ep l (ts[j]'b7)=E at *
   generalize bP l (ts[j]'b7)=X at *
   generalize (ts[j]'b7).args.length=el at *
   have jZ:=ak (And.intro mQ (And.intro sY eQ));have HW:=ak wk;clear mQ sY eQ eY mz wk;go_wp2_with fail
   (with_reducible refine EX.mono ?_);rintro e w5 ⟨k5,i5,n5,a5,l5,c5,rfl,gN,ba⟩;by_cases hE:E=0
   case neg=>
     have RI:=jZ.out.1 hE;have Au:(E !=0)=true:=by simpa using hE
     have HE:=ak (And.intro RI hE);clear RI hE;go_wp2_with fail;refine bodyPost_ret (v:=.tuple #[.slice none 0 0,.int .i64 E]) (by simp[results,Tryz.f60,go_sem]) rfl ?_;refine⟨none,0,?_,?_,?_,?_,?_⟩
     ·rw[HE.out.1];unfold iy;rw[HE.out.1,if_neg HE.out.2];rfl
     ·unfold iy;rw[HE.out.1,if_neg HE.out.2];exact Nat.zero_le _
     ·unfold iy;rw[HE.out.1,if_neg HE.out.2];exact bT _ _ _ (fun i hi=>by simp at hi)
     ·exact((hU.and bw).and ba).alloc _
     unfold iy;rw[HE.out.1,if_neg HE.out.2];exact⟨[],cS.nil _ _ _ _ _⟩
   subst hE;have hn:=jZ.out.2.1 rfl;have eQ:=jZ.out.2.2;have HN:=ak (And.intro hn eQ);obtain⟨w6,iF⟩:∃ w6,w6=w5.alloc (.cells #[.int .i64 k5,.string (B n5),.int .i64 i5,.slice a5 l5 c5] 29):=⟨_,rfl⟩;have bj:af ae w5 w6:=by rw[iF];exact(af.refl ae w5).alloc _
   have zD:au w6 w5.heap.size (.int .i64 k5) (.string (B n5)) (.int .i64 i5) (.slice a5 l5 c5) 29:=by rw[iF];exact au.av rfl
   have BX:=(Mb.on ba HO.out).on bj HO.out;have dg:=gN.on bj;have fj:=(af.refl ae w6).alloc (.cells #[.int .i64 k5,.string (B n5),.int .i64 i5,.slice a5 l5 c5] 29);have rM:=BX.on fj HO.out;have qH:=rM.2.2.1;rw[fE]at qH;have jC:=((hU.and bw).and ba).and bj;have DN:H<=w6.heap.size:=by have:=jC.size;have:=HH.out;omega
   have Ju:=ak iF;obtain⟨Q,hQ⟩:∃ Q,Q=w5.heap.size:=⟨_,rfl⟩;rw[<-hQ]at zD;have HQ:=ak hQ;clear hn eQ iF hQ p0 p1 p2 p3 Mb vW gN;obtain⟨p0,p1,p2,p3⟩:=zD.cells;have hQl:=zD.lt;go_upto_region 6 with fail;rw[<-HQ.out,<-Ju.out];go_upto_region 8 with fail;go_wp2_with (at_builtin;go_loud (refine wpList_append_lies _ (by rfl) _ _ 26 (by rfl) H 29 i0 (.agg #[.int .i64 0,.string (B []),.int .i64 0,.slice none 0 0]) 4 56 (by kernel_rfl) hi fS gn eH rfl (by decide) vv j css.flatten (by rfl) qH ⟨w6.heap.size,0,none⟩ 1 1 [.int .i64 k5,.string (B n5),.int .i64 i5,.slice a5 l5 c5] (by rfl) rfl (World.news_of_block (heap_alloc_new w6 _)) (by simp[Value.oneCell']) (by omega) (by simp only[maxLen];omega) (by omega) (by simp;omega) _ rfl ?_);intro g aS w7 bq aN ft _hg7)
   have gE:w7.ownsRow H 29 4 (.slice (some ⟨g,0,none⟩) ((((ts.take j).map (bP l)).map Tm.az).length+1) aS) ((((ts.take j).map (bP l)).map Tm.az).length+1) (css.flatten++[.int .i64 k5,.string (B n5),.int .i64 i5,.slice a5 l5 c5]):=by rw[fE];exact bq
   have Oa:=rM.appended (d:=X.az) rfl (dg.on fj) gE aN ft (Nat.le_refl _);rw[<-HN.out.2,fE]at Oa;have cm:=(jC.and fj).trans (rM.upto aN) (fun b hb e=>by have:=HH.out;omega);have HD7:=ak Oa;clear Oa;go_wp2_with fail;go_roundw;case rel=>exact⟨j+1,_,by go_num,by omega,HN.out.1,HD7.out,cm⟩
   simp[intOf];omega
  have b7:j=tl:=by omega
  subst b7;have eQ:ts.take j=ts:=List.take_of_length_le (by rw[<-HL.out.2];exact Nat.le_refl _);have hA:=HA.out;rw[eQ]at hA hD;rw[eQ]at fE;obtain⟨va,vc,hv,fp,hF⟩:=hD.rep HO.out;rw[fE]at hv fp;subst hv;have HF:=ak (And.intro hA (And.intro hF (And.intro fp fE)));have HDD:=ak hD;clear hA hF hD fp fE eQ kA ic;go_wp2_with fail;refine bodyPost_ret (v:=.tuple #[.slice va j vc,.int .i64 0]) (by simp[results,Tryz.f60,go_sem]) rfl ?_;obtain⟨hA,hF,fp,fE⟩:=HF.out;have e:iy l ts=ts.map (bP l):=by unfold iy;rw[if_pos hA]
  rw[List.length_map,List.length_map]at fE;refine⟨va,vc,?_,?_,?_,hU,?_⟩
  ·rw[e,hA,List.length_map,fE]
  ·rw[e,List.length_map,fE];exact fp
  ·rw[e];exact hF
  rw[e,List.length_map,fE,<-HH.out];exact⟨css,HDD.out⟩
end
section
open Go.RowKit Go.LF
def RaC(l:List Mv)(s':Ord)(xb base:Nat)(la:Option Addr)(lc:Nat)(ov:Value)(w w':World):Prop:=
  ∃ KM,eU w' xb (.slice la l.length lc) KM (.int .i64 s'.e) 92/\dv base w' KM s'.o/\af (fun b=>b=xb\/ov.ownBlock=some b) w w'/\∀ b,KM.ownBlock=some b->ov.ownBlock=some b\/w.heap.size<=b
def WB(l:List Mv)(g:List Int->Ord->Ord)(R:Nat)(u:Tm):Prop:=
  ∀(xb base:Nat)(ov:Value)(o:List Int)(w:World)(la:Option Addr)(lc:Nat)(cs:List Value),u.wt<=1000000->xo l R (Tm.ay u)->cY l o+o.length<=l.length->xb<base->base<=w.heap.size->
   eU w xb (.slice la l.length lc) ov (.int .i64 0) 92->dv base w ov o->ai (fun b=>b=xb\/ov.ownBlock=some b) w 6 (l.map Mv.az) la 0->aw ae w u.az cs->
   Calls Tryz.prog 61 #[.pointer (some ⟨xb,0,none⟩),.agg cs.toArray] w fun e w'=>e=.returned (.tuple #[])/\RaC l (g (Tm.ay u) ⟨o,0⟩) xb base la lc ov w w'
abbrev JI(xb b o mb mo:Nat)(x m t0 t1 t2 t3:Value)(w':World):Prop:=
  w'.cell? ⟨xb,0,none⟩=some x/\w'.cell? ⟨mb,mo,none⟩=some m/\(w'.cell? ⟨b,o+1,none⟩=some t0/\w'.cell? ⟨b,o+2,none⟩=some t1/\w'.cell? ⟨b,o+3,none⟩=some t2/\w'.cell? ⟨b,o+4,none⟩=some t3)
theorem JI.ag{S:Nat->Prop}{xb b o mb mo:Nat}{x m t0 t1 t2 t3:Value}{w w':World}(h:JI xb b o mb mo x m t0 t1 t2 t3 w)(hU:af S w w')(h1:¬S xb)(h2:¬S mb)(h3:¬S b):JI xb b o mb mo x m t0 t1 t2 t3 w':=by
  obtain⟨a0,a1,b0,b1,b2,b3⟩:=h;exact⟨hU.cell a0 h1,hU.cell a1 h2,hU.cell b0 h3,hU.cell b1 h3,hU.cell b2 h3,hU.cell b3 h3⟩
theorem JI.new{xb b o mb mo:Nat}{x m t0 t1 t2 t3:Value}{w:World}(h:JI xb b o mb mo x m t0 t1 t2 t3 w)(ob:Obj):JI xb b o mb mo x m t0 t1 t2 t3 (w.alloc ob):=h.ag ((af.refl ae w).alloc ob) (fun x=>x) (fun x=>x) (fun x=>x)
theorem JI.kT{r xb b o mb mo:Nat}{x m t0 t1 t2 t3:Value}{w:World}(h:JI xb b o mb mo x m t0 t1 t2 t3 w)(h1:¬xb=r)(h2:¬mb=r)(h3:¬b=r)(d0 d1 d2 d3:Value):
    JI xb b o mb mo x m t0 t1 t2 t3 ((((w.setCell ⟨r,0,none⟩ d0).setCell ⟨r,1,none⟩ d1).setCell ⟨r,2,none⟩ d2).setCell ⟨r,3,none⟩ d3):=h.ag (af.set (af.set (af.set (af.set (af.refl _ _) 0 _) 1 _) 2 _) 3 _) h1 h2 h3
abbrev Ra5(xb mb mo:Nat)(x m:Value)(w':World):Prop:=w'.cell? ⟨xb,1,none⟩=some x/\w'.cell? ⟨mb,mo,none⟩=some m
theorem qL(l:List Mv)(hP:lf l)(p:Int)(jx:(typeOf l p).wf=0)(EB:Tm.fi (fun _ _ _ z=>z<=200) (typeOf l p))(O:Nat->Prop)(w:World)(hO:∀ b,O b->b<w.heap.size)(la:Option Addr)(lc:Nat)(cs:List Value)(hL:ai O w 6 (l.map Mv.az) la 0)(h:aw O w (typeOf l p).az cs):
    Calls Tryz.prog 13 #[.slice la l.length lc,.agg cs.toArray] w (qa O (ep l (typeOf l p)) (bP l (typeOf l p)) w):=
  pr O l hP.uX (typeOf l p) (by have:=Tm.iM jx;omega) (fun h1 h2=>qQ _ ((cT _ h1).2 h2) EB) w hO la lc cs hL h
theorem GS(l:List Mv)(hP:lf l)(f:List Int->Ord->Ord)(R:Nat)(u:Tm)(hinv:∀ o,cY l o+o.length<=l.length->xo l (R+1) (Tm.ay u)->∀ j,cY l (dk l f ((Tm.ay u).take j) ⟨o,0⟩).o+(dk l f ((Tm.ay u).take j) ⟨o,0⟩).o.length<=l.length)
    (UE:Tm.ay u≠[]->∀ u,WB l f R u):WB l (dk l f) (R+1) u:=by
  intro xb base ov o w la lc cs iH Er CM Tk hbw hX hI hL hR;obtain⟨i0,hi,fS,gn,eH⟩:=info_parts nI;obtain⟨k,nm,i,ts,aa,cap,ht,rfl,_,_⟩:=aP hR;generalize ts.length=len at *
  obtain⟨w1,aF⟩:∃ w1,w1=w.alloc (.cells #[.int .i64 k,.string (B nm),.int .i64 i,.slice aa len cap] 29):=⟨_,rfl⟩;have aH:af ae w w1:=by rw[aF];exact(af.refl ae _).alloc _
  have iV:au w1 w.heap.size (.int .i64 k) (.string (B nm)) (.int .i64 i) (.slice aa len cap) 29:=by rw[aF];exact au.av rfl
  have MT:=iE u iH w1 _ (hR.on aH)
  have nc:∀ b,(b=xb\/ov.ownBlock=some b)->b<w1.heap.size:=fun b e=>by
    have h1:=aH.size;rcases e with e |e
    ·omega
    have:=(hI.lt b e).2;omega
  have hinv:=hinv o CM Er;obtain⟨ns,IW⟩:∃ ns,ns=Tm.ay u:=⟨_,rfl⟩;have Le:(Tm.ay u).length<=1000000:=Nat.le_trans (eL u) iH;rw[<-IW]at Er UE MT Le hinv;rw[<-IW];have VE:=ak UE;have HB:=ak (And.intro Er hinv);have HW:=ak aF;have HU:=ak aH;obtain⟨H,hH⟩:∃ H,H=w.heap.size:=⟨_,rfl⟩;rw[<-hH]at iV;have HH:=ak hH;obtain⟨nl,uE⟩:∃ nl,nl=ns.length:=⟨_,rfl⟩;rw[<-uE]at Le;have HN:=ak uE;have hHb:base<=H:=by omega
  have rY:=hX.kept aH;have hI1:=hI.on aH;have kA:=hL.on aH;obtain⟨ll,du⟩:∃ ll,ll=l.length:=⟨_,rfl⟩;rw[<-du]at rY;have yC:=ak du;clear aF hH UE Er IW hR hL uE iH hX hI hinv CM du;obtain⟨t0,t1,t2,t3⟩:=iV.cells;go_enter Tryz.func61,Tryz.ntmps61;go_upto_region 1 with fail;rw[<-HH.out,<-HW.out];go_wp2_with fail
  (with_reducible refine MT.mono ?_);rintro e2 w2 ⟨v,rfl,hIv,aL⟩;obtain⟨va,vc,rfl,fp,LN⟩:=cO hIv.rep;rw[<-HN.out]at fp;rw[<-HN.out];have kJ:ai (fun b=>b=xb\/ov.ownBlock=some b) w2 1 (ns.map (fB.int .i64)) va 0:=ai.weaken (fun b _ e=>nc b e) _ _ _ _ LN;have yU:=rY.kept aL;have D8:=hI1.on aL;have oG:=ai.aG _ _ _ _ (kA.on aL);have aiy:=ai.aG _ _ _ _ kJ;have GY:H<w2.heap.size:=by have:=iV.lt;have:=aL.size;omega
  clear hIv LN MT t0 t1 t2 t3 iV rY hI1 kA nc kJ;go_wp2_with fail
  go_loopw [5] (fun v5 wr=>∃(j:Nat)(EJ:Value),v5=.int .i64 (j:Int)/\j<=nl/\eU wr xb (.slice la ll lc) EJ (.int .i64 (dk l f (ns.take j) ⟨o,0⟩).e) 92/\dv base wr EJ (dk l f (ns.take j) ⟨o,0⟩).o/\af (fun b=>b=xb\/ov.ownBlock=some b) w2 wr/\
      (∀ b,EJ.ownBlock=some b->ov.ownBlock=some b\/w2.heap.size<=b))
    (fun v5 _=>nl - (intOf v5).toNat)
  case atStart=>exact⟨0,ov,rfl,Nat.zero_le _,by rw[List.take_zero];exact yU,by rw[List.take_zero];exact D8,af.refl _ _,fun b h=>.inl h⟩
  clear yU D8;obtain⟨j,EJ,rfl,hj,hX,hI,hU,JG⟩:=hrel;obtain⟨sj,yA⟩:∃ sj,sj=dk l f (ns.take j) ⟨o,0⟩:=⟨_,rfl⟩;have jG:=HB.out.2 j;have Vz:=HB.out.2 (j+1);rw[<-yA]at hX hI jG;have BW:(j:Int)<=1000000:=by omega
  have G5:=hU.size;obtain⟨x0,x1,x2⟩:=hX.cells;have fx:=hX.aq;have FY:=hX.lt;have zc:=ak JG;by_cases nL:j<nl/\sj.e=0
  ·obtain⟨aB,pU⟩:=nL;have b7:j<ns.length:=by have:=HN.out;omega
   have eQ:dk l f (ns.take (j+1)) ⟨o,0⟩=dk l f [ns[j]] sj:=by rw[yA];exact nE l f ns j b7 _
   have hwk:∀ b,b<wr.heap.size->(b=xb\/EJ.ownBlock=some b)->((b=xb\/ov.ownBlock=some b)\/w2.heap.size<=b):=fun b _ e=>by
     rcases e with e |e
     ·exact .inl (.inl e)
     exact(zc.out b e).elim (fun e=>.inl (.inr e)) .inr
   obtain⟨b,zt,rfl,Wq,hbO,bR⟩:=eX (ai.weaken hwk _ _ _ _ (ai.ag hU (fun b e=>.inl e) _ _ _ _ aiy)) j b7;obtain⟨m0,m1,m2⟩:=HB.out.1 _ (List.getElem_mem b7);have gJ:ns≠[]:=fun h=>by rw[h]at b7;simp at b7
   have IH:=VE.out gJ;generalize ns[j]=m at *
   rw[qO,if_neg (by omega)]at eQ;have hsE:(⟨sj.o,0⟩:Ord)=sj:=by rw[<-pU]
   rw[pU]at hX x2;have Dp:(j:Int)<(nl:Int):=by omega
   have HJ:=ak aB;have hd:af ae wr wr.drew:=(af.refl ae _).drew;obtain⟨oa,oc,rfl,Hu,ZP⟩:=cO hI.rep;have HI5:=xr sj.o (by have:=hP.len;omega) m wr.drew (.slice oa sj.o.length oc) (hI.rep.on hd);obtain⟨cb,xH⟩:∃ cb,cb=sj.o.contains m:=⟨_,rfl⟩;rw[<-xH]at eQ HI5;have B0:sj.o.length<=40:=by have:=hP.len;omega
   obtain⟨ol,Aj⟩:∃ ol,ol=sj.o.length:=⟨_,rfl⟩;rw[<-Aj]at HI5 hX x1 Hu B0 hI hwk;have zc:Hid (∀ b,(Value.slice oa ol oc).ownBlock=some b->ov.ownBlock=some b\/w2.heap.size<=b):=ak (by rw[Aj];exact zc.out);have ox:=ak Aj;have S5:Ra5 xb b (zt+j) (.slice oa ol oc) (.int .i64 m) wr:=⟨x1,bR⟩;have S5d:Ra5 xb b (zt+j) (.slice oa ol oc) (.int .i64 m) wr.drew:=⟨hd.cell x1 (fun x=>x),hd.cell bR (fun x=>x)⟩;have afG:=pU;have HCE:=ak (And.intro bR hbO);have EP:=ak (And.intro eQ (And.intro hsE (And.intro jG (And.intro Vz xH))));have HI:=ak hI;clear eQ hsE jG Vz yA pU aB gJ JG xH Aj hI ZP;go_wp2_with fail
   go_region_held3 (fun w'=>Ra5 xb b (zt+j) (.slice oa ol oc) (.int .i64 m) w')
     (first |(with_reducible assumption)|(with_reducible exact S5d))
     (first |((go_at_call 94);(with_reducible refine HI5.mono ?_);rintro e w5 ⟨rfl,ba⟩;have S6:Ra5 xb b (zt+j) (.slice oa ol oc) (.int .i64 m) w5:=⟨ba.cell S5d.1 (fun x=>x),ba.cell S5d.2 (fun x=>x)⟩;have BI:=hd.and ba))
   have Yy:=ak (show sj.e=0 from afG);cases cb
   case true=>
     have e1:dk l f (ns.take (j+1)) ⟨o,0⟩=sj:=by rw[EP.out.1,if_pos rfl]
     have BL:=ak e1;clear e1 S5 S5d S6;go_wp2_with fail;go_roundw;case rel=>exact⟨j+1,.slice oa ol oc,by go_num,by omega,by rw[BL.out,Yy.out];exact hX.kept BI,by rw[BL.out];exact HI.out.on BI,hU.trans BI (fun _ _ e=>e.elim),zc.out⟩
     simp[intOf];omega
   case false=>
     have e1:=EP.out.1;rw[if_neg (by simp)]at e1;obtain⟨p,rfl⟩:∃ p:Nat,m=(p:Int):=⟨m.toNat,by omega⟩;have jB:p<l.length:=by omega
     have SR:ai (fun b=>b=xb\/(Value.slice oa ol oc).ownBlock=some b) w5 6 (l.map Mv.az) la 0:=(ai.weaken hwk _ _ _ _ (ai.ag hU (fun b e=>.inl e) _ _ _ _ oG)).on BI;have Ja:=ai.aG _ _ _ _ SR;obtain⟨b2,o2,k2,n2,wV,uP,fP,Ca,zw,rfl,VR,tI,⟨d0,d1,d2,d3,d4,d5⟩,lV,wG,Px⟩:=ja SR p jB;have OH:=lR jB;have lr:=List.getElem_mem jB;have EB:=(hP.kn _ lr).1;have jx:=hP.kQ _ lr;rw[<-OH]at EB jx lV d4;have Zj:=aw.aG _ _ lV;clear Px wG d5 d0 OH lr;have qY:=hX.kept BI;have Ze:=HI.out.on BI;have aqe:base<=w5.heap.size:=by have:=BI.size;omega
     have abb:∀ b,(b=xb\/(Value.slice oa ol oc).ownBlock=some b)->b<w5.heap.size:=fun b e=>by
       rcases e with e |e
       ·omega
       exact(Ze.lt b e).2
     have ru:=fun he=>ji hP (i:=(p:Int)) (R:=R) m0 m1 he m2
     have PZ:=fun he=>qz hP (i:=(p:Int)) m0 m1 he
     have EXm:=fun(Q:Nat)(hQ:Q=xb\/w5.heap.size<=Q)(W:World)(hu:af ae w5 W)(hq:Q<W.heap.size)=>qL l hP (p:Int) jx EB (fun b=>(b=xb\/(Value.slice oa ol oc).ownBlock=some b)\/b=Q) W (fun b e=>by rcases e with e |e;(have:=abb b e;have:=hu.size;omega);omega) (some ⟨b2,o2,none⟩) lc _
       ((ai.weaken (fun b hb e=>by rcases e with e |e;(exact .inl e);(rcases hQ with hQ |hQ;(exact .inl (.inl (by omega)));exact .inr (by omega))) _ _ _ _ Ja).on hu) ((aw.weaken (fun b hb e=>by rcases e with e |e;(exact .inl e);(rcases hQ with hQ |hQ;(exact .inl (.inl (by omega)));exact .inr (by omega))) _ _ Zj).on hu)
     obtain⟨E,hE⟩:∃ E,E=ep l (typeOf l (p:Int)):=⟨_,rfl⟩;obtain⟨X,Gw⟩:∃ X,X=bP l (typeOf l (p:Int)):=⟨_,rfl⟩;rw[<-hE,<-Gw]at EXm;rw[<-hE]at e1 ru PZ;rw[<-Gw]at e1 ru PZ;have KG:af ae w5 w5.drew:=(af.refl ae _).drew;have Es:af ae w5 (w5.alloc (.cells #[.int .i64 0,.string (B []),.int .i64 0,.slice none 0 0] 29)).drew:=((af.refl ae _).alloc _).drew;have aga:w5.heap.size<(w5.alloc (.cells #[.int .i64 0,.string (B []),.int .i64 0,.slice none 0 0] 29)).drew.heap.size:=by show w5.heap.size<(World.drew _).heap.size;simp
     have aop:=KG.size;have EXd:=EXm xb (.inl rfl) _ KG (by omega);have VB:=EXm w5.heap.size (.inr (Nat.le_refl _)) _ Es aga;rw[<-yC.out]at EXd VB;generalize (typeOf l (p:Int)).args.length=XQ at *
     have x50:=qY.cells.1;have S60:JI xb b2 (o2+p * 6) b (zt+j) (.slice (some ⟨b2,o2,none⟩) ll lc) (.int .i64 (p:Int)) (.int .i64 k2) (.string (B n2)) (.int .i64 wV) (.slice uP XQ fP) w5:=⟨x50,S6.2,d1,d2,d3,d4⟩;have XC:=S60.ag KG (fun x=>x) (fun x=>x) (fun x=>x);have S6a:=S60.ag Es (fun x=>x) (fun x=>x) (fun x=>x);have agc:(p:Int)<(ll:Int):=by have:=yC.out;omega
     have hpm:(p:Int)<=40:=by have:=hP.len;omega
     have BL:=ak (And.intro e1 (And.intro ru PZ));clear e1 ru PZ hE Gw EB jx lV Zj Ja S5 S5d S6 EXm hX Ze d1 d2 d3 d4 x0 x1 x2 FY fx bR;have apb:=qY.lt;have aqC:b<w5.heap.size:=by have:=BI.size;omega
     go_upto_region 6 with fail;go_cut [6,7]from 33 to 50 (fun v6 v7 wc=>∃(q:Nat)(k9 i9:Int)(n9:List UInt8)(PU:Option Addr)(l9 c9:Nat),v6=.pointer (some ⟨q,0,none⟩)/\v7=.int .i64 E/\w5.heap.size<=q/\au wc q (.int .i64 k9) (.string (B n9)) (.int .i64 i9) (.slice PU l9 c9) 29/\aw ae wc X.az [.int .i64 k9,.string (B n9),.int .i64 i9,.slice PU l9 c9]/\af ae w5 wc)
     case first=>
       go_region_held3 (fun w'=>JI xb b2 (o2+p * 6) b (zt+j) (.slice (some ⟨b2,o2,none⟩) ll lc) (.int .i64 (p:Int)) (.int .i64 k2) (.string (B n2)) (.int .i64 wV) (.slice uP XQ fP) w')
         (first |(with_reducible assumption)|(with_reducible exact XC)|(with_reducible exact S6a)|(repeat' (first |(with_reducible assumption)|(with_reducible refine JI.new ?_ _)|(with_reducible refine JI.kT ?_ (by(try simp only[World.size_alloc]);omega) (by(try simp only[World.size_alloc]);omega) (by(try simp only[World.size_alloc]);omega) _ _ _ _))))
         (first
           |((go_at_call 13);(with_reducible refine EXd.mono ?_);rintro e yE ⟨GI,i11,Fj,EN,mL,mJ,rfl,qN,ir⟩;have XJ:=XC.ag ir (fun x=>x) (fun x=>x) (fun x=>x);have iJ:=KG.and ir;have X8:=iJ.size)
           |((go_at_call 13);(with_reducible refine VB.mono ?_);rintro e yE ⟨GI,i11,Fj,EN,mL,mJ,rfl,qN,ir⟩;have XJ:=S6a.ag ir (fun x=>x) (fun x=>x) (fun x=>x);have iJ:=Es.and ir;have X8:=iJ.size;have h6:=(((au.av rfl:au (w5.alloc (.cells #[.int .i64 0,.string (B []),.int .i64 0,.slice none 0 0] 29)) w5.heap.size _ _ _ _ 29).kept (af.refl ae _).drew).kept ir);obtain⟨c0,c1,c2,c3⟩:=h6.cells;obtain⟨d0,d1,d2,d3⟩:=h6.aq;have U1:=h6.lt))
       all_goals
         go_wp2_with fail;go_meet
       all_goals first
         |(have h7:=h6
           refine⟨w5.heap.size,GI,i11,Fj,EN,mL,mJ,rfl,rfl,by omega,h7.set.1,?_,?_⟩
           ·exact aw.weaken (fun _ _ e=>e.elim) _ _ (aw.ag h7.set.2 (fun b e=>.inr e) _ _ qN)
           exact iJ.trans h7.set.2 (fun b hb e=>by omega))
         |(refine⟨yE.heap.size,GI,i11,Fj,EN,mL,mJ,rfl,rfl,by omega,au.av rfl,?_,?_⟩
           ·exact(dj qN).on ((af.refl ae _).alloc _)
           exact iJ.alloc _)
     obtain⟨q,k9,i9,n9,PU,l9,c9,rfl,rfl,hqz,mq,oK,bU⟩:=hcut;obtain⟨w9,rfl⟩:∃ q,q=wc:=⟨wc,rfl⟩;have sr:=qY.kept bU;have Mx:=BI.and bU;have hI9:=HI.out.on Mx;have P6:=SR.on bU;have hz9:=Mx.size;clear S60 XC S6a EXd VB KG Es qY SR;obtain⟨x0,x1,x2⟩:=sr.cells;have fx:=sr.aq;have FY:=sr.lt;by_cases gL:E=0
     case neg=>
       have he':(E !=0)=true:=by simpa using gL
       have e2:dk l f ns ⟨o,0⟩=⟨sj.o,E⟩:=by
         have h1:=BL.out.1;rw[if_pos gL]at h1;rw[zm l f ns (j+1) ⟨o,0⟩ (by rw[h1];exact gL),h1]
       have BY:eU (w9.setCell ⟨xb,2,none⟩ (.int .i64 E)) xb (.slice (some ⟨b2,o2,none⟩) ll lc) (.slice oa ol oc) (.int .i64 E) 92:=sr.kG _;have hs:af (fun b=>b=xb) w9 (w9.setCell ⟨xb,2,none⟩ (.int .i64 E)):=af.set (af.refl _ _) 2 _;have hIs:dv base (w9.setCell ⟨xb,2,none⟩ (.int .i64 E)) (.slice oa ol oc) sj.o:=World.ownsRow.kept (row:=some xb) hI9 ⟨hs.os,hs.tape,hs.output,hs.size,fun k hk gJ=>hs.block k hk (fun e=>gJ (by rw[e]))⟩ (.inr fun e=>by have:=(hI9.lt xb e).1;omega)
       have hF:RaC l (dk l f ns ⟨o,0⟩) xb base (some ⟨b2,o2,none⟩) lc ov w (w9.setCell ⟨xb,2,none⟩ (.int .i64 E)):=by
         refine⟨.slice oa ol oc,by rw[e2,<-yC.out];exact BY,by rw[e2];exact hIs,((((HU.out.and aL).mono (fun _ _ e=>e.elim)).trans hU (fun _ _ e=>e)).trans Mx (fun _ _ e=>e.elim)).trans hs (fun b hb e=>.inl e),fun b e=>(zc.out b e).imp id (fun h=>by have:=HU.out.size;have:=aL.size;omega)⟩
       have HF:=ak hF;clear hF hIs hs BY e2 gL;go_wp2_with fail;refine bodyPost_ret (results_none rfl _ _ _) rfl ?_;exact⟨rfl,HF.out⟩
     case pos=>
       subst gL;have h1:=BL.out.1;rw[if_neg (by simp)]at h1;have Vx:=IH X xb base (.slice oa ol oc) sj.o w9 (some ⟨b2,o2,none⟩) lc [.int .i64 k9,.string (B n9),.int .i64 i9,.slice PU l9 c9] (by have:=Tm.iM (BL.out.2.2 rfl);omega) (BL.out.2.1 rfl) EP.out.2.2.1 Tk (by omega) (by rw[<-yC.out];exact sr) hI9 P6 oK;rw[EP.out.2.1]at Vx;obtain⟨s',K2⟩:∃ s',s'=f (Tm.ay X) sj:=⟨_,rfl⟩;rw[<-K2]at Vx h1;have RW:=ak h1;obtain⟨t0,t1,t2,t3⟩:=mq.cells;clear h1 K2 x0 x1 x2 fx sr;go_wp2_with fail
       (with_reducible refine Vx.mono ?_);rintro e10 kB ⟨rfl,Qk,pc,QE,gZ,aa7⟩;rw[<-yC.out]at pc;obtain⟨x0,x1,x2⟩:=pc.cells;have fx:=pc.aq;have akM:=pc.lt;have am6:=gZ.size
       have SJ:af (fun b=>b=xb\/ov.ownBlock=some b) w2 kB:=(hU.trans Mx (fun _ _ e=>e.elim)).trans gZ (fun b hb e=>by
         rcases e with e |e
         ·exact .inl e
         exact(zc.out b e).elim (fun e=>.inr e) (fun e=>by omega))
       have Sf:∀ b,Qk.ownBlock=some b->ov.ownBlock=some b\/w2.heap.size<=b:=fun b e=>(aa7 b e).elim (fun e=>zc.out b e) (fun e=>.inr (by omega))
       have J9:=ak (And.intro SJ Sf);have Q2:=EP.out.2.2.2.1;clear Vx t0 t1 t2 t3 mq oK SJ Sf aa7;by_cases yR:s'.e=0
       case neg=>
         have he':(s'.e == 0)=false:=by simpa using yR
         have h1:=RW.out;rw[if_neg yR]at h1;have YX:=ak h1;have HXI:=ak (And.intro pc QE);obtain⟨z,hz⟩:∃ z,z=s'.e:=⟨_,rfl⟩;rw[<-hz]at he' x2;have HZ:=ak hz;clear h1 yR Q2 pc QE hz;go_wp2_with fail;go_roundw;case rel=>exact⟨j+1,Qk,by go_num,by have:=HJ.out;omega,by rw[YX.out];exact HXI.out.1,by rw[YX.out];exact HXI.out.2,J9.out.1,J9.out.2⟩
         have:=HJ.out;simp[intOf];omega
       case pos=>
         have h1:=RW.out;rw[if_pos yR]at h1;rw[h1]at Q2;simp only[List.length_append,List.length_singleton]at Q2;have aou:=hP.len;have pA:s'.o.length<=1000:=by omega
         have YX:=ak h1;have HS0:=ak yR;obtain⟨Vu,FJ⟩:∃ n9,n9=s'.o.length:=⟨_,rfl⟩;rw[yR]at x2;have WS:af ae kB kB.drew:=(af.refl ae kB).drew;have cK:af ae kB (kB.drew.alloc (.cells #[.int .i64 (p:Int)] 3)):=WS.alloc _;have Mr:=QE.on cK;have Q9:(kB.drew.alloc (.cells #[.int .i64 (p:Int)] 3)).ownsRow base 3 1 Qk Vu (s'.o.map (Value.int .i64)):=by rw[FJ];exact Mr
         rw[<-FJ]at pA;have HN9:=ak FJ;have ahY:=ak pc;have apC:=ak QE;have UK:kB.cell? ⟨b,zt+j,none⟩=some (.int .i64 (p:Int)):=gZ.cell (Mx.cell HCE.out.1 (fun x=>x)) (by rw[ox.out];exact HCE.out.2);have adh:=WS.cell UK (fun x=>x);obtain⟨y0,y1,y2⟩:=(pc.kept WS).cells;clear h1 yR Q2 FJ;go_wp2_with fail
         go_region_law (first
           |(refine step_append_lies _ (by rfl) _ _ 22 (by rfl) base 3 i0 (.int .i64 0) 1 8 (by kernel_rfl) hi fS gn eH rfl (by decide) Qk Vu (s'.o.map (Value.int .i64)) (by rfl) Q9 ⟨kB.heap.size,0,none⟩ 1 1 [.int .i64 (p:Int)] (by rfl) rfl (World.news_of_block (heap_alloc_new kB.drew _)) (by simp[Value.oneCell']) (by omega) (by simp only[maxLen];omega) (by omega) (by simp;omega) _ rfl ?_;intro g aS yE bq pV ft _hg10;have Eb:=(ahY.out.kept cK).ag (mE pV) (zj Mr Tk);have y1:=Eb.cells.2.1;have fy:=Eb.aq;have ly:=Eb.lt))
         all_goals
           obtain⟨Ff,rS⟩:∃ Ff,Ff=yE.setCell ⟨xb,1,none⟩ (.slice (some ⟨g,0,none⟩) (Vu+1) aS):=⟨_,rfl⟩;have ah:af (fun b=>b=xb) yE Ff:=by rw[rS];exact af.set (af.refl _ _) 1 _
           have abh:eU Ff xb (.slice (some ⟨b2,o2,none⟩) ll lc) (.slice (some ⟨g,0,none⟩) (Vu+1) aS) (.int .i64 s'.e) 92:=by rw[rS];exact Eb.mu _
           have WE:dv base yE (.slice (some ⟨g,0,none⟩) (Vu+1) aS) (s'.o++[(p:Int)]):=by
             unfold dv;rw[List.length_append,List.length_singleton,List.map_append,<-HN9.out];exact bq
           have aa4:dv base Ff (.slice (some ⟨g,0,none⟩) (Vu+1) aS) (s'.o++[(p:Int)]):=World.ownsRow.kept (row:=some xb) WE ⟨ah.os,ah.tape,ah.output,ah.size,fun k hk gJ=>ah.block k hk (fun e=>gJ (by rw[e]))⟩ (.inr fun e=>by have:=(WE.lt xb e).1;omega);have kh:af (fun b=>b=xb\/ov.ownBlock=some b) w2 Ff:=((J9.out.1.trans cK (fun _ _ e=>e.elim)).trans (mE pV) (fun b hb e=>(J9.out.2 b e).elim .inr (fun e=>by omega))).trans ah (fun b hb e=>.inl e)
           have acw:∀ b,(Value.slice (some ⟨g,0,none⟩) (Vu+1) aS).ownBlock=some b->ov.ownBlock=some b\/w2.heap.size<=b:=fun b e=>by
             simp only[Value.ownBlock,Option.some.injEq]at e;subst e;rcases ft with e |e
             ·exact J9.out.2 _ e
             refine .inr ?_;have h1:=cK.size;have h2:=J9.out.1.size;exact Nat.le_trans h2 (Nat.le_trans h1 (Nat.le_of_eq e.symm))
           rw[<-rS];have tg:=ak (And.intro abh (And.intro aa4 (And.intro kh acw)));clear abh aa4 kh acw ah WE bq pV ft rS Eb y1 fy ly;go_wp2_with fail;go_roundw;case rel=>exact⟨j+1,_,by go_num,by have:=HJ.out;omega,by rw[YX.out];exact HS0.out ▸ tg.out.1,by rw[YX.out];exact tg.out.2.1,tg.out.2.2.1,tg.out.2.2.2⟩
           have:=HJ.out;simp[intOf];omega
  have eJ:dk l f ns ⟨o,0⟩=sj:=by
    by_cases pU:sj.e=0
    ·have:ns.take j=ns:=List.take_of_length_le (by have:=HN.out;omega);rw[yA,this]
    rw[yA];exact zm l f ns j _ (by rw[<-yA];exact pU)
  have hF:RaC l (dk l f ns ⟨o,0⟩) xb base la lc ov w wr:=⟨EJ,by rw[eJ,<-yC.out];exact hX,by rw[eJ];exact hI,(((HU.out.and aL).mono (fun _ _ e=>e.elim)).trans hU (fun _ _ e=>e)),fun b e=>(zc.out b e).imp id (fun h=>by have:=HU.out.size;have:=aL.size;omega)⟩;have HF:=ak hF;obtain⟨z,hz⟩:∃ z,z=sj.e:=⟨_,rfl⟩;rw[<-hz]at x2
  have cV:¬(j:Int)<(nl:Int)\/((j:Int)<(nl:Int)/\(z == 0)=false):=by
    by_cases h:j<nl
    ·exact .inr ⟨by omega,by simpa[hz]using fun e=>nL ⟨h,e⟩⟩
    exact .inl (by omega)
  clear hF eJ hI jG Vz yA hz hX nL;rcases cV with aB |⟨aB,UH⟩
  all_goals
    go_wp2_with fail;go_end0
    exact⟨rfl,HF.out⟩
end
end Go.Proofs.YthgmimncdjhgnaaGreatDoor
namespace Go.LF
open Tm Go.Proofs.YthgmimncdjhgnaaGreatDoor
theorem Dh(l:List Mv)(d:Nat):∀(ts:List Tm)(s:Ord),s.e≠0->iS l d ts s=s
  | [],s,_=>rfl
  |t :: ts,s,h=>by
   obtain⟨f,hf⟩:=Hq l d;rw[iS,hf,nH _ _ _ _ h];exact Dh l d ts s h
theorem Cz(l:List Mv)(d:Nat)(a b:List Tm):∀ s,iS l d (a++b) s=iS l d b (iS l d a s):=by
  induction a with
  |nil=>intro s;rfl
  |cons t ts ih=>intro s;exact ih _
theorem JF(l:List Mv)(d:Nat)(ts:List Tm)(j:Nat)(s:Ord)(h:(iS l d (ts.take j) s).e≠0):iS l d ts s=iS l d (ts.take j) s:=by
  conv=>lhs;rw[<-List.take_append_drop j ts]
  rw[Cz,Dh _ _ _ _ h]
theorem It(l:List Mv)(d:Nat)(ts:List Tm)(j:Nat)(h:j<ts.length)(s:Ord):iS l d (ts.take (j+1)) s=o5 l d (Tm.ay ts[j]) (iS l d (ts.take j) s):=by
  rw[List.take_succ_eq_append_getElem h,Cz];rfl
theorem Na{l:List Mv}(hP:lf l){us:List Tm}(hu:∀ u∈us,∀ i∈Tm.ay u,i<l.length):cY l (iS l l.length us ⟨[],0⟩).o+(iS l l.length us ⟨[],0⟩).o.length<=l.length:=by
  rw[sE]
  exact(LU hP (l.length+1) (us.flatMap Tm.ay) [] (ux l (fun x hx=>by
    obtain⟨u,Ks,hx⟩:=List.mem_flatMap.1 hx;exact⟨(jt x hx).1,hu u Ks x hx⟩)) (qj l)).1
end Go.LF
namespace Go.Proofs.YthgmimncdjhgnaaGreatDoor
open Go.RowKit Go.LF
theorem Lt(l:List Mv)(hP:lf l):∀ R,∀ u,WB l (cF l R) R u
  |0,u=>by
   intro xb base ov o w la lc cs h1 h2 h3 h4 h5 h6 h7 h8 h9;have hm:Tm.ay u=[]:=Dc h2;have:=GS l hP (fun _ s=>s) 0 u (fun o h _ j=>by rw[hm,List.take_nil];exact h) (fun h=>absurd hm h) xb base ov o w la lc cs h1 (fun x hx=>by rw[hm]at hx;cases hx) h3 h4 h5 h6 h7 h8 h9;rw[hm]at this ⊢;exact this
  |R+1,u=>by
   have:=GS l hP (cF l R) R u (fun o h hb j=>by
     have:=(LU hP (R+1) ((Tm.ay u).take j) o (fun x hx=>hb x (List.mem_of_mem_take hx)) h).1;have e:cF l (R+1) ((Tm.ay u).take j) ⟨o,0⟩=dk l (cF l R) ((Tm.ay u).take j) ⟨o,0⟩:=by show o5 l R _ _=_;rw[ow]
     rw[e]at this;exact this) (fun _=>Lt l hP R)
   have e:cF l (R+1)=dk l (cF l R):=by show o5 l R=_;rw[ow]
   rw[e];exact this
theorem tx(l:List Mv)(hP:lf l)(ts:List Tm)(eB:∀ t∈ts,t.wt<=1000000/\(t.wf=0->(∀ i∈Tm.ay t,i<l.length)->Kn l.length t))(hlen:ts.length<=1000)(w:World)(la:Option Addr)(lc:Nat)(ta:Option Addr)(tc:Nat)(hL:ai ae w 6 (l.map Mv.az) la 0)(hT:ai ae w 4 (ts.map Tm.az) ta 0):
    Calls Tryz.prog 16 #[.slice la l.length lc,.slice ta ts.length tc] w (Wi (iz l ts) (lQ l ts) w):=by
  have AL:=wU ae l hP.uX ts eB hlen w (fun _ e=>e.elim) la lc ta tc hL hT;have tK:=@wS l hP ts;have cK:=uJ l ts;obtain⟨E,hE⟩:∃ E,E=iz l ts:=⟨_,rfl⟩;obtain⟨O,hO⟩:∃ O,O=lQ l ts:=⟨_,rfl⟩;rw[<-hE,<-hO];unfold lQ at hO;rw[<-hE]at hO;unfold iz at hE;unfold IU at hE hO;generalize iU l ts=A at *
  generalize iy l ts=us at *
  obtain⟨S,hS⟩:∃ S,S=iS l l.length us ⟨[],0⟩:=⟨_,rfl⟩;rw[<-hS]at hE hO;have HE:=ak (And.intro hE (And.intro hO hS));have cZ:us.length<=1000:=by omega
  have Fv:=ak tK;obtain⟨ll,du⟩:∃ ll,ll=l.length:=⟨_,rfl⟩;rw[<-du]at AL;rw[<-du];have yC:=ak du;obtain⟨ul,um⟩:∃ ul,ul=us.length:=⟨_,rfl⟩;have aa8:=ak um;have Ja:=ai.aG _ _ _ _ hL;clear hE hO hS tK cK du hL hT hlen eB;go_enter Tryz.func16,Tryz.ntmps16;go_wp2_with fail
  (with_reducible refine AL.mono ?_);rintro e w2 ⟨ua,uc,rfl,EI,Vd,aL,_⟩;rw[<-um]at EI cZ;rw[<-um];clear um;by_cases hA:A=0
  case neg=>
    have he:(A !=0)=true:=by simpa using hA
    have h1:E=A:=by rw[HE.out.1,if_pos hA]
    have h2:O=[]:=by rw[HE.out.2.1,if_neg (by rw[h1];exact hA)]
    have HF:=ak (And.intro h1 h2);clear h1 h2 hA AL;go_wp2_with fail;refine bodyPost_ret (v:=.tuple #[.slice none 0 0,.int .i64 A]) (by simp[results,Tryz.f16,go_sem]) rfl ?_;exact⟨none,0,by rw[HF.out.1,HF.out.2];rfl,by rw[HF.out.2];exact Nat.le_refl _,by rw[HF.out.2];exact bT _ _ _ (fun i hi=>by simp at hi),aL⟩
  case pos=>
    subst hA;have h1:E=S.e:=by rw[HE.out.1,if_neg (by simp)]
    have BL:=ak h1;obtain⟨w3,cQ⟩:∃ w3,w3=w2.alloc (.cells #[.slice la ll lc,.slice none 0 0,.int .i64 0] 92):=⟨_,rfl⟩;have aZ:af ae w2 w3:=by rw[cQ];exact(af.refl ae _).alloc _
    have Ht:eU w3 w2.heap.size (.slice la ll lc) (.slice none 0 0) (.int .i64 0) 92:=by rw[cQ];exact eU.av rfl
    have vY:w3.heap.size=w2.heap.size+1:=by rw[cQ];simp
    obtain⟨Q,hQ⟩:∃ Q,Q=w2.heap.size:=⟨_,rfl⟩;rw[<-hQ]at Ht vY;have HQ:=ak hQ;have Nu:=ak cQ;have Pu:=aL.and aZ;have xP:=(Ja.on aL).on aZ;have aam:=(ai.aG _ _ _ _ Vd).on aZ;rw[<-hQ]at aam;have hzQ:w.heap.size<=Q:=by rw[hQ];exact aL.size
    clear h1 AL cQ hQ Vd aL aZ Ja;go_upto_region 5 with fail;rw[<-HQ.out,<-Nu.out];go_wp2_with fail
    go_loopw [9] (fun v9 wr=>∃(j:Nat)(ov:Value),v9=.int .i64 (j:Int)/\j<=ul/\eU wr Q (.slice la ll lc) ov (.int .i64 (iS l l.length (us.take j) ⟨[],0⟩).e) 92/\dv (Q+1) wr ov (iS l l.length (us.take j) ⟨[],0⟩).o/\af (fun b=>Q<=b) w3 wr)
      (fun v9 _=>ul - (intOf v9).toNat)
    case atStart=>exact⟨0,_,rfl,Nat.zero_le _,by rw[List.take_zero];exact Ht,by rw[List.take_zero];exact World.ownsRow_nil _ _ _ _,af.refl _ _⟩
    clear Ht;obtain⟨j,ov,rfl,hj,hX,hI,hU⟩:=hrel;have CM:=Na hP (us:=us.take j) (fun u hu=>(Fv.out u (List.mem_of_mem_take hu)).2);obtain⟨sj,yA⟩:∃ sj,sj=iS l l.length (us.take j) ⟨[],0⟩:=⟨_,rfl⟩;rw[<-yA]at hX hI CM;have G5:=hU.size;have hji:(j:Int)<=1000:=by omega
    obtain⟨x0,x1,x2⟩:=hX.cells;have fx:=hX.aq;have FY:=hX.lt;have FQ:af ae w wr:=Pu.trans hU (fun b hb e=>by omega);by_cases nL:j<ul/\sj.e=0
    ·obtain⟨aB,pU⟩:=nL;have b7:j<us.length:=by have:=aa8.out;omega
     have jd:=It l l.length us j b7 ⟨[],0⟩;rw[<-yA]at jd;obtain⟨eb,eo,ek,en,ex,es,ec,rfl,mz,heO,p0,p1,p2,p3,eY⟩:=aY (ai.ag hU (fun b e=>.inr e) _ _ _ _ aam) j b7;have Xi:=Fv.out _ (List.getElem_mem b7);have Mf:=ai.ag hU (fun b e=>.inr (by omega)) _ _ _ _ xP
     have RA:=Lt l hP (l.length+1) us[j] Q (Q+1) ov sj.o wr la lc _ Xi.1 (ux l (fun x hx=>⟨(jt x hx).1,Xi.2 x hx⟩)) CM (by omega) (by omega) (by rw[<-yC.out,<-pU];exact hX) hI
       (ai.weaken (fun b _ e=>.inr (by rcases e with e |e;(omega);have:=(hI.lt b e).1;omega)) _ _ _ _ Mf) (dj eY)
     rw[show(⟨sj.o,0⟩:Ord)=sj by rw[<-pU]]at RA;have hcf:cF l (l.length+1) (Tm.ay us[j]) sj=iS l l.length (us.take (j+1)) ⟨[],0⟩:=by rw[jd];rfl
     rw[hcf]at RA;rw[pU]at x2;have Dp:(j:Int)<(ul:Int):=by omega
     have bq:=fun b e=>(hI.lt b e).1
     generalize us[j].args.length=el at *
     clear jd hcf Xi CM yA eY Mf hX pU;go_wp2_with fail
     (with_reducible refine RA.mono ?_);rintro e w5 ⟨rfl,ov5,qY,Ze,ba,XH⟩;have HF:=ak (And.intro qY (And.intro Ze (hU.trans ba (fun b hb e=>by rcases e with e |e;(omega);have:=bq b e;omega))));clear RA qY Ze ba XH p0 p1 p2 p3 x0 x1 x2 fx FY bq hI;go_wp2_with fail;go_roundw;case rel=>exact⟨j+1,ov5,by go_num,by omega,by rw[yC.out];exact HF.out.1,HF.out.2.1,HF.out.2.2⟩
     simp[intOf];omega
    have hS:S=sj:=by
      by_cases pU:sj.e=0
      ·have:us.take j=us:=List.take_of_length_le (by have:=aa8.out;omega);rw[this]at yA;rw[HE.out.2.2,yA]
      rw[HE.out.2.2,yA];exact JF l l.length us j _ (by rw[<-yA];exact pU)
    obtain⟨oa,oc,rfl,Hu,ZP⟩:=cO hI.rep;by_cases pU:sj.e=0
    ·have RZ:E=0:=by rw[BL.out,hS,pU]
     have xI:O=sj.o:=by rw[HE.out.2.1,if_pos RZ,hS]
     have HF:=ak (And.intro RZ (And.intro xI ZP));have sA:¬(j:Int)<(ul:Int):=fun h=>nL ⟨by omega,pU⟩
     rw[pU]at x2;obtain⟨ol,B0⟩:∃ ol,ol=sj.o.length:=⟨_,rfl⟩;rw[<-B0]at x1 Hu;have ox:=ak B0;clear hS RZ xI nL yA hX hI CM ZP pU B0;go_wp2_with fail;refine bodyPost_ret (v:=.tuple #[.slice oa ol oc,.int .i64 0]) (by simp[results,Tryz.f16,go_sem]) rfl ?_;exact⟨oa,oc,by rw[HF.out.1,HF.out.2.1,ox.out],by rw[HF.out.2.1,<-ox.out];exact Hu,by rw[HF.out.2.1];exact ai.weaken (fun _ _ e=>e.elim) _ _ _ _ HF.out.2.2,FQ⟩
    have RZ:E=sj.e:=by rw[BL.out,hS]
    have xI:O=[]:=by rw[HE.out.2.1,if_neg (by rw[RZ];exact pU)]
    have HF:=ak (And.intro RZ xI);obtain⟨z,hz⟩:∃ z,z=sj.e:=⟨_,rfl⟩;rw[<-hz]at x2 pU hX;have HZ:=ak hz;have mX:(z == 0)=false:=by simpa using pU
    have GY:(z !=0)=true:=by simpa using pU
    have cV:(j:Int)<(ul:Int)\/¬(j:Int)<(ul:Int):=Classical.em _;clear hS RZ xI nL yA hI CM ZP pU hz;rcases cV with aB |aB
    all_goals
      go_upto_region 10 with fail;go_quiet (fail)
      all_goals
        go_wp2_with fail;refine bodyPost_ret (v:=.tuple #[.slice none 0 0,.int .i64 z]) (by simp[results,Tryz.f16,go_sem]) rfl ?_;exact⟨none,0,by rw[HF.out.1,HF.out.2,HZ.out];rfl,by rw[HF.out.2];exact Nat.le_refl _,by rw[HF.out.2];exact bT _ _ _ (fun i hi=>by simp at hi),by first |exact FQ |exact FQ.drew |exact FQ.and (gX _ _)⟩
end Go.Proofs.YthgmimncdjhgnaaGreatDoor
