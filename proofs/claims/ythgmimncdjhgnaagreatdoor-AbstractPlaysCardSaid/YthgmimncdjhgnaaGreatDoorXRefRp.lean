/- Bf.replace. -/
import Derived.Test.YthgmimncdjhgnaaGreatDoorXFL
set_option maxRecDepth 100000
set_option maxHeartbeats 16000000
namespace Go.Proofs.YthgmimncdjhgnaaGreatDoor
open Go.RowKit Go.LF
theorem pC(p:Int)(XF:0<=p)(hp1:p<=1000000)(t:Tm):t.size<=100000->(∀ b,∀ x∈t.nodes b,x.k=6->0<=x.i/\x.i<=1048576)->∀(b:Int)(w:World)(cs:List Value),0<=b->b+t.size<=1000000->
    aw ae w t.az cs->Calls Tryz.prog 79 #[.agg cs.toArray,.int .i64 b,.int .i64 p] w (wN (xQ (eS p) b t) w):=by
  induction t using Tm.ind with
  |h k nm i ts ih=>
   intro ee gD b w cs h0 h1 hR;obtain⟨a,cap,rfl,aX,hE⟩:=bg.1 hR;have hlen:=Tm.aA ts;simp only[Tm.aM]at ee h1;have Ay:=gD b;rw[Tm.br]at Ay;have GC:=Ay _ (List.mem_cons_self ..);simp only at GC
   have GL:∀ x∈ts,∀ b,∀ y∈x.nodes b,y.k=6->0<=y.i/\y.i<=1048576:=by
     intro x hx b' y hy;obtain⟨j,hj,rfl⟩:=List.getElem_of_mem hx;exact gD (b' - Tm.under k j) y (Tm.se j hj (by rw[show b' - Tm.under k j+Tm.under k j=b' by omega];exact hy))
   obtain⟨i0,hi,fS,gn,eH⟩:=info_parts de;obtain⟨w2,dY⟩:∃ w2,w2=((w.alloc (.cells #[.int .i64 k,.string (B nm),.int .i64 i,.slice a ts.length cap] 29)).alloc (.cells #[.int .i64 0,.string (B []),.int .i64 0,.slice none 0 0] 29)).alloc (.cells #[.int .i64 k,.string (B nm),.int .i64 i,.slice none 0 0] 29):=⟨_,rfl⟩;have aL:af ae w w2:=by rw[dY];exact(((af.refl ae w).alloc _).alloc _).alloc _
   have iD:au w2 w.heap.size (.int .i64 k) (.string (B nm)) (.int .i64 i) (.slice a ts.length cap) 29:=by rw[dY];exact((au.av rfl).kept ((af.refl ae _).alloc _)).kept ((af.refl ae _).alloc _)
   have dO:au w2 (w.heap.size+1) (.int .i64 0) (.string (B [])) (.int .i64 0) (.slice none 0 0) 29:=by rw[dY];exact(au.av (by simp)).kept ((af.refl ae _).alloc _)
   have qq:au w2 (w.heap.size+1+1) (.int .i64 k) (.string (B nm)) (.int .i64 i) (.slice none 0 0) 29:=by rw[dY];exact au.av (by simp)
   obtain⟨t0,t1,t2,t3⟩:=iD.cells;obtain⟨o0,o1,o2,o3⟩:=qq.cells;obtain⟨f0,f1,f2,f3⟩:=qq.aq;have GY:=qq.lt;have B7:=ak dY;have HW:=ak (And.intro ee h1);obtain⟨mk',zW⟩:∃ q,q=(eS p b k i).1:=⟨_,rfl⟩;obtain⟨mi,Dy⟩:∃ q,q=(eS p b k i).2:=⟨_,rfl⟩;have Ou:=ak (And.intro zW Dy);clear dY hR Ay gD zW Dy;go_enter Tryz.func79,Tryz.ntmps79;go_upto_region 2 with fail;rw[<-B7.out];go_upto_if 18 with fail
   go_cut []from 16 to 28 (fun wc=>au wc w.heap.size (.int .i64 k) (.string (B nm)) (.int .i64 i) (.slice a ts.length cap) 29/\au wc (w.heap.size+1) (.int .i64 0) (.string (B [])) (.int .i64 0) (.slice none 0 0) 29/\
     au wc (w.heap.size+1+1) (.int .i64 mk') (.string (B nm)) (.int .i64 mi) (.slice none 0 0) 29/\af ae w wc)
   case first=>
     by_cases hk:k=6
     ·have Cc:(k == 6)=true:=by simpa using hk
      have hi6:=GC hk;obtain⟨e1,e2⟩:=Ou.out;unfold eS at e1 e2;rw[if_pos hk]at e1 e2;simp only at e1 e2;have HE:=ak (And.intro e1 e2);clear hk GC e1 e2;have hd:af ae w2 w2.drew:=(af.refl ae _).drew;have S0:w2.drew.cell? ⟨w.heap.size,2,none⟩=some (.int .i64 i):=hd.cell t2 (fun x=>x);have gJ:¬w.heap.size=w.heap.size+1+1:=by omega
      have mX:IntKind.i64.wrap (b+p)=b+p:=Go.IntWalk.i64_in _ (by omega);have GY:IntKind.i64.wrap (b+p - 1)=b+p - 1:=Go.IntWalk.i64_in _ (by omega);have vY:IntKind.i64.wrap (b+p - 1 - i)=b+p - 1 - i:=Go.IntWalk.i64_in _ (by omega);have Uv:=qq.kept hd;obtain⟨TH,Wr,TA,Wx⟩:=Uv.cells;obtain⟨ff0,ff1,ff2,ff3⟩:=Uv.aq;have qd:=Uv.lt;clear Uv;have HD:=ak (And.intro qq (And.intro iD (And.intro dO aL)));go_wp2_with fail
      go_region_held3 (fun w'=>w'.cell? ⟨w.heap.size,2,none⟩=some (.int .i64 i))
        (first |(with_reducible assumption)|(with_reducible exact S0)|(exact(af.set (af.set (af.refl (fun b=>b=w.heap.size+1+1) _) 0 _) 2 _).cell S0 gJ)|(exact(af.set (af.refl (fun b=>b=w.heap.size+1+1) _) 0 _).cell S0 gJ)|(exact(af.set (af.set (af.refl (fun b=>b=w.heap.size+1+1) _) 0 _) 2 _).cell t2 gJ)|(exact(af.set (af.refl (fun b=>b=w.heap.size+1+1) _) 0 _).cell t2 gJ))
        (fail)
      all_goals
        go_wp2_with fail;go_meet
        obtain⟨Uv,htd,B9,hUd⟩:=HD.out;rw[HE.out.1,HE.out.2]
        first
          |(have jI:af (fun x=>x=w.heap.size+1+1) w2 ((w2.setCell ⟨w.heap.size+1+1,0,none⟩ (.int .i64 5)).setCell ⟨w.heap.size+1+1,2,none⟩ (.int .i64 (b+p - 1 - i))).drew:=(af.set (af.set (af.refl _ _) 0 _) 2 _).drew
            exact⟨htd.ag jI (show ¬w.heap.size=w.heap.size+1+1 by omega),B9.ag jI (show ¬w.heap.size+1=w.heap.size+1+1 by omega),((Uv.ui _).kG _).kept (af.refl ae _).drew,hUd.trans jI (fun x hx e=>by omega)⟩)
          |(have jI:af (fun x=>x=w.heap.size+1+1) w2.drew ((w2.drew.setCell ⟨w.heap.size+1+1,0,none⟩ (.int .i64 5)).setCell ⟨w.heap.size+1+1,2,none⟩ (.int .i64 (b+p - 1 - i))):=af.set (af.set (af.refl _ _) 0 _) 2 _
            exact⟨(htd.kept hd).ag jI (show ¬w.heap.size=w.heap.size+1+1 by omega),(B9.kept hd).ag jI (show ¬w.heap.size+1=w.heap.size+1+1 by omega),(((Uv.kept hd).ui _).kG _),(hUd.and hd).trans jI (fun x hx e=>by omega)⟩)
     have Cc:(k == 6)=false:=by simpa using hk
     obtain⟨e1,e2⟩:=Ou.out;unfold eS at e1 e2;rw[if_neg hk]at e1 e2;simp only at e1 e2;have HE:=ak (And.intro e1 e2);clear hk GC e1 e2;go_wp2_with fail;go_meet
     exact⟨iD,dO,by rw[HE.out.1,HE.out.2];exact qq,aL⟩
   obtain⟨Yz,Z8,KO,hUp⟩:=hcut;clear t0 t1 t2 t3 o0 o1 o2 o3 f0 f1 f2 f3 iD dO qq aL GC;have dh:w.heap.size+1+1<wc.heap.size:=KO.lt;obtain⟨wp,rfl⟩:∃ wp,wp=wc:=⟨_,rfl⟩;go_wp2_with fail
   go_loopw [8] (fun v8 wr=>∃(j:Nat)(v:Value)(css:List (List Value)),v8=.int .i64 j/\j<=ts.length/\dG wp.heap.size wr v (pO (eS p) b k 0 (ts.take j)) css/\
       au wr (w.heap.size+1+1) (.int .i64 mk') (.string (B nm)) (.int .i64 mi) v 29/\au wr w.heap.size (.int .i64 k) (.string (B nm)) (.int .i64 i) (.slice a ts.length cap) 29/\
       au wr (w.heap.size+1) (.int .i64 0) (.string (B [])) (.int .i64 0) (.slice none 0 0) 29/\af ae w wr/\wp.heap.size<=wr.heap.size)
     (fun v8 _=>ts.length - (intOf v8).toNat)
   case atStart=>exact⟨0,_,[],rfl,Nat.zero_le _,by rw[List.take_zero,eW];exact dG.nil _ _,KO,Yz,Z8,hUp,Nat.le_refl _⟩
   obtain⟨j,v,css,rfl,hj,eB,b6,rK,kM,hU,Ax⟩:=hrel;obtain⟨b0,b1,b2,b3⟩:=b6.cells;obtain⟨f0,f1,f2,f3⟩:=b6.aq;obtain⟨t0,t1,t2,t3⟩:=rK.cells;have qo:=b6.lt;have Fl:(0:Int)<=(j:Int):=by omega
   have Dp:(j:Int)<=100000:=by omega
   by_cases aB:j<ts.length
   ·obtain⟨eb,eo,ek,en,ex,es,ec,rfl,mz,_,p0,p1,p2,p3,eY⟩:=aY (hE.on hU) j aB;have YB:=Tm.aK (List.getElem_mem aB);obtain⟨IQ,Hh⟩:=Tm.bZ k j;have ET:(j:Int)<(ts.length:Int):=by omega
    have hd:af ae wr wr.drew:=(af.refl ae wr).drew;have H2:=fun w'(hU:af ae wr w')=>(oV k j j rfl nm i (.slice (some ⟨eb,eo,none⟩) ts.length cap) w').mono fun _ _ ⟨he,hV⟩=>(⟨he,hU.and hV⟩:_/\af ae wr _)
    have IH:=fun(z:Int)w'(hz:z=b+Tm.under k j)(hU:af ae wr w')=>ih (ts[j]'aB) (List.getElem_mem aB) (by omega) (GL _ (List.getElem_mem aB)) z w' _ (by omega) (by omega) (eY.on hU)
    obtain⟨us,gd⟩:∃ us,us=pO (eS p) b k 0 (ts.take j):=⟨_,rfl⟩;obtain⟨u,hu⟩:∃ u,u=xQ (eS p) (b+Tm.under k j) (ts[j]'aB):=⟨_,rfl⟩;have cZ:us.length=j:=by rw[gd,fu,List.length_take];omega
    have sX:us++[u]=pO (eS p) b k 0 (ts.take (j+1)):=by rw[pz _ _ _ _ _ aB,<-gd,<-hu]
    rw[<-gd]at eB;have LY:=fun w'(hU:af ae wr w')=>IH (b+Tm.under k j) w' rfl hU
    rw[<-hu]at LY;have HS:=ak (And.intro cZ sX);have Wk:us.length<=1000000:=by omega
    have yN:=ak (show j<ts.length from aB);have XA:IntKind.i64.wrap (b+Tm.under k j)=b+Tm.under k j:=Go.IntWalk.i64_in _ (by omega);clear cZ sX gd hu ih IH;generalize Tm.under k j=ud at *
    generalize (ts[j]'aB).args.length=el at *
    go_wp2_with fail
    go_region_law (first
      |((rw[if_pos (by rfl)]);go_simp;(go_at_call 136);refine(H2 _ hd).mono ?_;rintro e w5 ⟨rfl,ba⟩;have fK:=b6.kept ba;have TE:=rK.kept ba;have q5:=fK.lt;have c5:=fK.cells.2.2.2;have z5:=fK.frozen 3;have y5:=TE.cells.2.2.2;have XD:=ba.size;have p05:=ba.cell p0 (fun x=>x);have p15:=ba.cell p1 (fun x=>x);have p25:=ba.cell p2 (fun x=>x);have p35:=ba.cell p3 (fun x=>x))
      |((rw[if_pos (by rfl)]);go_simp;(go_at_call 79);refine(LY _ ba).mono ?_;rintro e w6 ⟨k1,i1,n1,a1,bH,bG,rfl,dg,bj⟩;have cL:af ae wr w6:=ba.and bj;have dc:=b6.kept cL;have Mh:=rK.kept cL;have q6:=dc.lt;have c6:=dc.cells.2.2.2;have z6:=dc.frozen 3;have y6:=Mh.cells.2.2.2;have ss6:=cL.size;have iT:=eB.on cL)
      |(refine step_append_lies _ (by rfl) _ _ 26 (by rfl) wp.heap.size 29 i0 (.agg #[.int .i64 0,.string (B []),.int .i64 0,.slice none 0 0]) 4 56 (by kernel_rfl) hi fS gn eH rfl (by decide) v us.length css.flatten (by rfl) ((iT.on ((af.refl ae w6).alloc _)).2.2.1) ⟨w6.heap.size,0,none⟩ 1 1 [.int .i64 k1,.string (B n1),.int .i64 i1,.slice a1 bH bG] (by rfl) rfl (World.news_of_block (heap_alloc_new w6 _)) (by simp[Value.oneCell']) (by omega) (by simp only[maxLen];omega) (by omega) (by simp;omega) _ rfl ?_;intro g aS w7 bq aN ft xY;have fe:=(dc.kept ((af.refl ae w6).alloc _)).row aN (iT.on ((af.refl ae w6).alloc _)) (by omega);have c7:=fe.cells.2.2.2;have z7:=fe.frozen 3))
    all_goals
      obtain⟨v',fY,lL,MP,Nq,Mo,cW,Ni⟩:=xf eB b6 rK kM hU rfl dh Ax cL XD dg bq aN ft;rw[HS.out.2]at lL;have HT7:=ak lL;clear lL;go_wp2_with fail;go_roundw;case rel=>exact⟨j+1,_,_,by go_num,Nat.succ_le_of_lt yN.out,HT7.out,MP,Nq,Mo,cW,Ni⟩
      (have:=yN.out;simp[intOf];omega)
   obtain⟨us,gd⟩:∃ us,us=pO (eS p) b k 0 (ts.take j):=⟨_,rfl⟩;rw[<-gd]at eB;obtain⟨s0,s1,s2,s3⟩:=kM.cells;obtain⟨g0,g1,g2,g3⟩:=kM.aq;have qr:=kM.lt;have b7:j=ts.length:=by omega
   have sA:¬(j:Int)<(ts.length:Int):=by omega
   obtain⟨a9,dQ,rfl,lP,Gv⟩:=eB.rep;obtain⟨len,oh⟩:∃ len,len=us.length:=⟨_,rfl⟩;rw[<-oh]at b6 lP b3
   have eJ:xQ (eS p) b (.mk k nm i ts)=.mk mk' nm mi us:=by
     rw[List.take_of_length_le (by omega)]at gd;rw[jv,<-Ou.out.1,<-Ou.out.2,<-gd]
   have HL:=ak oh;have tg:=ak eJ;have xG:aw (fun x=>x<=w.heap.size+1) wr (Tm.mk mk' nm mi us).az [.int .i64 mk',.string (B nm),.int .i64 mi,.slice a9 len dQ]:=bg.2 ⟨a9,dQ,by rw[HL.out],by rw[<-HL.out];exact lP,ai.weaken (fun b _ e=>by omega) _ _ _ _ Gv⟩;clear oh b7 eB gd eJ;go_wp2_with fail;obtain⟨w9,bf⟩:∃ w9,w9=(((wr.setCell ⟨w.heap.size+1,0,none⟩ (.int .i64 mk')).setCell ⟨w.heap.size+1,1,none⟩ (.string (B nm))).setCell ⟨w.heap.size+1,2,none⟩ (.int .i64 mi)).setCell ⟨w.heap.size+1,3,none⟩ (.slice a9 len dQ):=⟨_,rfl⟩;have aJ:=kM.set (d0:=.int .i64 mk') (d1:=.string (B nm)) (d2:=.int .i64 mi) (d3:=.slice a9 len dQ);rw[<-bf]at aJ;rw[<-bf];clear bf;obtain⟨e0,e1,e2,e3⟩:=aJ.1.cells;refine bodyPost_ret (v:=.agg #[.int .i64 mk',.string (B nm),.int .i64 mi,.slice a9 len dQ]) ?_ rfl ?_
   ·simp[results,Tryz.f79,go_sem,e0,e1,e2,e3]
   rw[tg.out];exact⟨mk',mi,nm,a9,len,dQ,rfl,aw.weaken (fun b _ e=>by omega) _ _ (aw.ag aJ.2 (fun b e=>by omega) _ _ xG),hU.trans aJ.2 (fun x hx e=>by omega)⟩
end Go.Proofs.YthgmimncdjhgnaaGreatDoor
