/- BF node. -/
import Derived.Test.YthgmimncdjhgnaaGreatDoorXEA
set_option maxRecDepth 100000
set_option maxHeartbeats 8000000
namespace Go.Proofs.YthgmimncdjhgnaaGreatDoor
open Go.RowKit Go.LF
theorem CW(us:List Tm)(hl:us.length<=100000)(ee:Tm.aD us<=1000000000000)(k i:Int)(n:List UInt8)(oa:Option Addr)(ol oc:Nat)(O:Nat->Prop)(w:World)(hO:∀ b,O b->b<w.heap.size)(a:Option Addr)(cap w0:Nat)
    (hE:ai O w 6 (us.map iK) a 0):
    Calls Tryz.prog 220 #[.agg #[.int .i64 k,.string (B n),.int .i64 i,.slice oa ol oc],.slice a us.length cap] w fun e w'=>OA O (Tm.jo (.mk k n i us) w0) e w'/\af ae w w':=by
  obtain⟨i0,hi,fS,gn,eH⟩:=info_parts de;obtain⟨w1,aF⟩:∃ w1,w1=((w.alloc (.cells #[.int .i64 k,.string (B n),.int .i64 i,.slice oa ol oc] 29)).alloc (.cells #[.int .i64 0,.string (B []),.int .i64 0,.slice none 0 0,.int .i64 0,.int .i64 0] 200)).alloc (.cells #[.int .i64 k,.string (B n),.int .i64 i,.slice oa ol oc,.int .i64 1,.int .i64 0] 200):=⟨_,rfl⟩;have aH:af ae w w1:=by rw[aF];exact(((af.refl ae w).alloc _).alloc _).alloc _
  have dK:bC w1 (w.heap.size+1) (.int .i64 0) (.string (B [])) (.int .i64 0) (.slice none 0 0) (.int .i64 0) (.int .i64 0) 200:=by rw[aF];exact(bC.av (by simp)).kept ((af.refl ae _).alloc _)
  have iV:bC w1 (w.heap.size+1+1) (.int .i64 k) (.string (B n)) (.int .i64 i) (.slice oa ol oc) (.int .i64 1) (.int .i64 0) 200:=by rw[aF];exact bC.av (by simp)
  have fU:ai (fun b=>O b\/w.heap.size<=b) w1 6 (us.map iK) a 0:=(ai.aG _ _ _ _ hE).on aH;have Cs:w1.heap.size<=w.heap.size+3:=by rw[aF];simp
  have m9:=aH;have HW:=ak aF;obtain⟨H,hH⟩:∃ H,H=w.heap.size:=⟨_,rfl⟩;have HH:=ak hH;rw[<-hH]at dK iV fU Cs;have j9:∀ b,O b->b<H:=by rw[hH];exact hO
  have HO:Hid (∀ b,(O b\/b=H\/b=H+1\/b=H+1+1)->b<H+3):=ak (fun b h=>by rcases h with h |h |h |h;(have:=j9 b h;omega);all_goals omega);have mX:H+3<=w1.heap.size:=by have:=iV.lt;omega
  obtain⟨ul,cZ⟩:∃ ul,ul=us.length:=⟨_,rfl⟩;rw[<-cZ];have du:ul<=100000:=by omega
  have Dw:(ul:Int)<=100000:=by omega
  have abQ:(0:Int)<=(ul:Int):=by omega
  have HSZ:=ak ee;have Fv:=ak cZ;clear aF hE hH hO hl ee cZ;go_enter Tryz.func220,Tryz.ntmps220;go_upto_region 2 with fail;rw[<-show B []={ data:=#[] }from rfl,<-HW.out,<-HH.out];obtain⟨z0,z1,z2,z3,z4,z5⟩:=iV.aq;go_wp2_with (at_make;go_loud (refine wpList_make_own _ rfl _ _ 26 rfl (H+3) 29 i0 (.agg #[.int .i64 0,.string (B []),.int .i64 0,.slice none 0 0]) 4 (by kernel_rfl) hi fS gn .i64 .i64 (ul:Int) ul rfl rfl rfl (by rw[eH];omega) (by simp only[maxLen];omega) mX ?_);intro w3 R4 tZ;have Kd:=iV.kept (jX tZ);have y3:=Kd.aq.2.2.2.1;have y4:=Kd.cells.2.2.2.1)
  have aZ:af ae w1 w3:=jX tZ;have Md:af (fun b=>b=H+1+1) w3 (w3.setCell ⟨H+1+1,3,none⟩ (.slice (some ⟨w1.heap.size,0,none⟩) 0 ul)):=af.set (af.refl _ _) 3 _;have EE:=Kd.mH (.slice (some ⟨w1.heap.size,0,none⟩) 0 ul);have lU:cS 29 4 (fun b=>O b\/b=H\/b=H+1\/b=H+1+1) (H+3) w3 (.slice (some ⟨w1.heap.size,0,none⟩) 0 ul) [] []:=⟨rfl,by simp,R4,fun i h=>by simp at h⟩;have Jf:=lU.ag Md (fun b e=>.inr (.inr (.inr e))) HO.out;have bw:af (fun b=>b=H+1+1) w1 (w3.setCell ⟨H+1+1,3,none⟩ (.slice (some ⟨w1.heap.size,0,none⟩) 0 ul)):=(aZ.mono (fun _ _ x=>x.elim)).trans Md (fun _ _ e=>e);obtain⟨W4,XY⟩:∃ W4,W4=w3.setCell ⟨H+1+1,3,none⟩ (.slice (some ⟨w1.heap.size,0,none⟩) 0 ul):=⟨_,rfl⟩;rw[<-XY]at EE Jf bw ⊢;clear XY Md lU aZ Kd y3 y4 tZ R4 iV z0 z1 z2 z3 z4 z5
  go_loopw [17] (fun Vo wr=>∃(j:Nat)(v:Value)(css:List (List Value)),Vo=.int .i64 (j:Int)/\j<=ul/\cS 29 4 (fun b=>O b\/b=H\/b=H+1\/b=H+1+1) (H+3) wr v ((us.take j).map Tm.az) css/\
      bC wr (H+1+1) (.int .i64 k) (.string (B n)) (.int .i64 i) v (.int .i64 (1+(Tm.aD (us.take j):Int))) (.int .i64 (Tm.aQ (us.take j):Int)) 200/\af (fun b=>b=H+1+1) w1 wr)
    (fun Vo _=>ul - (intOf Vo).toNat)
  case atStart=>exact⟨0,_,[],rfl,Nat.zero_le _,Jf,EE,bw⟩
  clear Jf EE bw W4;obtain⟨j,v,css,rfl,hj,hT,hB,hU⟩:=hrel;obtain⟨x0,x1,x2,x3,x4,x5⟩:=hB.cells;obtain⟨f0,f1,f2,f3,f4,f5⟩:=hB.aq;have q:=hB.lt;have u2:(j:Int)<=100000:=by omega
  have u3:(0:Int)<=(j:Int):=by omega
  have hzU:=hU.size;by_cases aB:j<ul
  ·have Is:j<us.length:=by rw[<-Fv.out];exact aB
   have u4:(j:Int)<(ul:Int):=by omega
   obtain⟨eb,eo,ek,en,ei,es,ec,rfl,mz,K9,p0,p1,p2,p3,p4,p5,eY⟩:=wg (ai.ag hU (fun b e=>.inr (by omega)) _ _ _ _ fU) j Is;have Bj:=Tm.bJ us j Is;have FW:=Tm.dP us j Is;have hle:=Tm.bW us (j+1);have hdl:=Tm.bQ (us.take (j+1));have eQ:us.take (j+1)=us.take j++[us[j]]:=List.take_succ_eq_append_getElem Is;have fE:((us.take j).map Tm.az).length=j:=by rw[List.length_map,List.length_take];omega
   have b1:(Tm.aD (us.take j):Int)+(us[j]'Is).size<=1000000000000:=by have:=HSZ.out;omega
   have b2:((us[j]'Is).depth:Int)<=1000000000000:=by have:=HSZ.out;omega
   have b3:(Tm.aQ (us.take j):Int)<=1000000000000:=by have:=HSZ.out;omega
   generalize (us[j]'Is).args.length=el at *
   obtain⟨u,hu⟩:∃ u,u=us[j]'Is:=⟨_,rfl⟩;rw[<-hu]at p4 p5 eY Bj FW eQ b1 b2;obtain⟨S0,Rq⟩:∃ S0,S0=Tm.aD (us.take j):=⟨_,rfl⟩;obtain⟨D0,GV⟩:∃ D0,D0=Tm.aQ (us.take j):=⟨_,rfl⟩;rw[<-Rq]at hB x4 Bj b1;rw[<-GV]at hB x5 FW b3;have HX:=ak (And.intro Bj (And.intro FW eQ));have g0:(0:Int)<=(S0:Int):=by omega
   have g1:(0:Int)<=(u.size:Int):=by omega
   have g2:(0:Int)<=(u.depth:Int):=by omega
   have g3:(0:Int)<=(D0:Int):=by omega
   clear Bj FW eQ hu Rq GV hle hdl;go_upto_region 6 with fail;obtain⟨w4,eh⟩:∃ w4,w4=wr.alloc (.cells #[.int .i64 ek,.string (B en),.int .i64 ei,.slice es el ec,.int .i64 u.size,.int .i64 u.depth] 200):=⟨_,rfl⟩;have bw:af ae wr w4:=by rw[eh];exact(af.refl ae _).alloc _
   have C7:bC w4 wr.heap.size (.int .i64 ek) (.string (B en)) (.int .i64 ei) (.slice es el ec) (.int .i64 u.size) (.int .i64 u.depth) 200:=by rw[eh];exact bC.av rfl
   obtain⟨X,hX⟩:∃ X,X=wr.heap.size:=⟨_,rfl⟩;rw[<-eh,<-hX];rw[<-hX]at C7;have OT:X<w4.heap.size:=C7.lt;have DX:H+3<=w4.heap.size:=by have:=bw.size;omega
   have Jf:=hT.on bw HO.out;have NQ:=hB.kept bw;have Tf:v.ownBlock≠some X:=fun e=>by have:=(hT.2.2.1.lt X e).2;omega
   have HOX:=ak Tf;have HXX:=ak hX;clear eh p0 p1 p2 p3 p4 p5 x0 x1 x2 x3 x4 x5 f0 f1 f2 f3 f4 f5 hB Tf hX;obtain⟨x0,x1,x2,x3,x4,x5⟩:=NQ.cells;obtain⟨y0,y1,y2,y3,y4,y5⟩:=C7.cells;have cK:af ae w4 (w4.alloc (.cells #[.int .i64 ek,.string (B en),.int .i64 ei,.slice es el ec] 29)):=(af.refl ae _).alloc _;have X3:=Jf.on cK HO.out;have Bi:=NQ.kept cK;have Tk:=C7.kept cK;have bq:=X3.2.2.1;rw[fE]at bq;have U8:=ak fE;clear fE;go_wp2_with (at_builtin;go_loud (refine wpList_append_lies _ (by rfl) _ _ 26 (by rfl) (H+3) 29 i0 (.agg #[.int .i64 0,.string (B []),.int .i64 0,.slice none 0 0]) 4 56 (by kernel_rfl) hi fS gn eH rfl (by omega) v j css.flatten rfl bq ⟨w4.heap.size,0,none⟩ 1 1 [.int .i64 ek,.string (B en),.int .i64 ei,.slice es el ec] rfl rfl (World.news_of_block (heap_alloc_new w4 _)) (by simp[Value.oneCell']) (by omega) (by simp only[maxLen];omega) (by omega) (by simp;omega) (w4.heap.size+1) (by simp) ?_);intro g aS w7 DH aN ft xY;have yl:=Bi.D9 aN X3 (by omega);have c7:=yl.cells;have z7:=yl.aq;obtain⟨c70,c71,c72,c73,c74,c75⟩:=c7;obtain⟨z70,z71,z72,z73,z74,z75⟩:=z7;have hx7:=(aN.block X Tk.lt (fun e=>HOX.out e.symm)).trans Tk;have agb:=bC.cells hx7;obtain⟨v0,v1,v2,v3,v4,v5⟩:=agb)
   have A8:aw (fun b=>(O b\/b=H\/b=H+1\/b=H+1+1)\/v.ownBlock=some b) (w4.alloc (.cells #[.int .i64 ek,.string (B en),.int .i64 ei,.slice es el ec] 29)) u.az [.int .i64 ek,.string (B en),.int .i64 ei,.slice es el ec]:=by
     refine aw.weaken (fun b _ e=>?_) _ _ ((eY.on bw).on cK);rcases e with(e |e)|e
     ·exact .inl e
     ·right;omega
     right;have:=(X3.2.2.1.lt b e).1;omega
   have gE:w7.ownsRow (H+3) 29 4 (.slice (some ⟨g,0,none⟩) (((us.take j).map Tm.az).length+1) aS) (((us.take j).map Tm.az).length+1) (css.flatten++[.int .i64 ek,.string (B en),.int .i64 ei,.slice es el ec]):=by rw[U8.out];exact DH
   have lL:=X3.appended (d:=u.az) rfl A8 gE aN ft (by simp);rw[U8.out]at lL;have fl:=X3.upto aN;have hs7:af (fun b=>b=H+1+1) w7 (((w7.setCell ⟨H+1+1,3,none⟩ (.slice (some ⟨g,0,none⟩) (j+1) aS)).setCell ⟨H+1+1,4,none⟩ (.int .i64 (1+(S0:Int)+(u.size:Int)))).setCell ⟨H+1+1,5,none⟩ (.int .i64 (if D0<u.depth then(u.depth:Int)else(D0:Int)))):=af.set (af.set (af.set (af.refl _ _) 3 _) 4 _) 5 _;have Je:=lL.ag hs7 (fun b e=>.inr (.inr (.inr e))) HO.out;have OO:=((yl.mH (.slice (some ⟨g,0,none⟩) (j+1) aS)).kT (.int .i64 (1+(S0:Int)+(u.size:Int)))).Pz (.int .i64 (if D0<u.depth then(u.depth:Int)else(D0:Int)));have cW:=(((hU.trans (bw.and cK) (fun b _ e=>e.elim)).trans fl (fun b hb e=>by omega)).trans hs7 (fun _ _ e=>e));have e1:(1+(S0:Int)+(u.size:Int))=1+((Tm.aD (us.take (j+1)):Nat):Int):=by rw[HX.out.1];omega
   have e2:(if D0<u.depth then(u.depth:Int)else(D0:Int))=((Tm.aQ (us.take (j+1)):Nat):Int):=by
     rw[HX.out.2.1];split<;>omega
   have e3:(us.take (j+1)).map Tm.az=(us.take j).map Tm.az++[u.az]:=by rw[HX.out.2.2];simp
   rw[<-e3]at Je;refine⟨⟨j+1,_,_,by go_num,by omega,Je,?_,cW⟩,by simp[intOf];omega⟩;rw[<-e1,<-e2];exact OO
  have b7:j=ul:=by omega
  subst b7;have eQ:us.take j=us:=List.take_of_length_le (by rw[<-Fv.out];exact Nat.le_refl _);rw[eQ]at hT hB x4 x5;obtain⟨va,vc,rfl,fp,hF⟩:=hT.rep HO.out;rw[List.length_map,<-Fv.out]at fp hB x3;have FW:=Tm.bQ us;have b1:(Tm.aD us:Int)<=1000000000000:=by have:=HSZ.out;omega
  have b2:(Tm.aQ us:Int)<=1000000000000:=by have:=HSZ.out;omega
  have b3:(0:Int)<=(Tm.aD us:Int):=by omega
  have b4:(0:Int)<=(Tm.aQ us:Int):=by omega
  have m7:(Tm.mk k n i us).small=decide (¬(4096<1+(Tm.aD us:Int)\/128<(Tm.aQ us:Int)+1)):=by
    unfold Tm.small;rw[Tm.aM,Tm.cD,<-Bool.decide_and];exact decide_eq_decide.2 (by omega)
  have Ok:((Tm.mk k n i us).size:Int)=1+(Tm.aD us:Int):=by rw[Tm.aM];omega
  have Zp:((Tm.mk k n i us).depth:Int)=(Tm.aQ us:Int)+1:=by rw[Tm.cD];omega
  have C:=fun W=>sN k i (1+(Tm.aD us:Int)) ((Tm.aQ us:Int)+1) n va j vc W
  have Iv:=ak (And.intro m7 (And.intro Ok (And.intro Zp eQ)));obtain⟨S0,Rq⟩:∃ S0,S0=Tm.aD us:=⟨_,rfl⟩;obtain⟨D0,GV⟩:∃ D0,D0=Tm.aQ us:=⟨_,rfl⟩;rw[<-Rq]at hB x4 b1 b3 C;rw[<-GV]at hB x5 b2 b4 C;have HS:=ak (And.intro Rq GV);have fH:=hB.Pz (.int .i64 ((D0:Int)+1));have yz:af (fun b=>b=H+1+1) wr (wr.setCell ⟨H+1+1,5,none⟩ (.int .i64 ((D0:Int)+1))):=af.set (af.refl _ _) 5 _;have dR:=(dK.ag hU (by omega)).ag yz (by omega);have ES:=ai.ag yz (fun b e=>.inr (.inr (.inr e))) _ _ _ _ hF;have ba:=hU.trans yz (fun _ _ e=>e);have HC:=ak (And.intro fH (And.intro dR (And.intro ES (And.intro ba fp))));clear m7 Ok Zp eQ FW Rq GV fH yz dR ES ba hF hT fU aH hi fS gn eH fp;by_cases dV:4096<1+(S0:Int)\/128<(D0:Int)+1
  ·have LJ:Tm.jo (.mk k n i us) w0=⟨2,Tm.aO,w0⟩:=by
     unfold Tm.jo;rw[Iv.out.1,<-HS.out.1,<-HS.out.2,decide_eq_false (fun h=>h dV)];rfl
   have HK:=ak LJ;simp only[if_pos dV]at C;clear LJ dV;go_wp2_with fail;refine(C _).mono ?_;rintro e w6 ⟨rfl,bj⟩;unfold mY;go_wp2_with fail;obtain⟨c1,c2,c3,c4,c5⟩:=HC.out;exact⟨rfl,.inr ⟨by rw[HK.out];simp,by rw[HK.out];rfl⟩,(m9.trans c4 (fun b hb e=>by have:=HH.out;omega)).and bj⟩
  have LJ:Tm.jo (.mk k n i us) w0=⟨0,.mk k n i us,w0⟩:=by
    unfold Tm.jo;rw[Iv.out.1,<-HS.out.1,<-HS.out.2,decide_eq_true dV];rfl
  have HK:=ak LJ;simp only[if_neg dV]at C;clear LJ dV;go_wp2_with fail;refine(C _).mono ?_;rintro e w6 ⟨rfl,bj⟩;have fD:=HC.out.2.1.kept bj;obtain⟨y0,y1,y2,y3,y4,y5⟩:=fD.cells;obtain⟨z0,z1,z2,z3,z4,z5⟩:=fD.aq;have ah:=fD.set (d0:=.int .i64 k) (d1:=.string (B n)) (d2:=.int .i64 i) (d3:=.slice va j vc) (d4:=.int .i64 (1+(S0:Int))) (d5:=.int .i64 ((D0:Int)+1));obtain⟨e0,e1,e2,e3,e4,e5⟩:=ah.1.cells;have HE:=ak (And.intro e0 (And.intro e1 (And.intro e2 (And.intro e3 (And.intro e4 (And.intro e5 ah.2))))));clear e0 e1 e2 e3 e4 e5 ah;go_wp2_with fail;obtain⟨e0,e1,e2,e3,e4,e5,ah⟩:=HE.out;refine bodyPost_ret (v:=.agg #[.int .i64 k,.string (B n),.int .i64 i,.slice va j vc,.int .i64 (1+(S0:Int)),.int .i64 ((D0:Int)+1)]) ?_ rfl ?_
  ·simp[results,Tryz.f220,go_sem,e0,e1,e2,e3,e4,e5]
  obtain⟨c1,c2,c3,c4,c5⟩:=HC.out;have wo:=ai.ag ah (fun b e=>.inr e) _ _ _ _ (ai.weaken (O:=fun b=>O b\/b=H\/b=H+1\/b=H+1+1) (O':=fun b=>O b\/b=H+1) (fun b _ e=>e.elim .inl (fun e=>.inr (.inr (.inl e)))) _ _ _ _ (c3.on bj));refine⟨.inl ⟨by rw[HK.out],k,n,i,va,j,vc,?_,?_⟩,((m9.trans c4 (fun b hb e=>by have:=HH.out;omega)).and bj).trans ah (fun b hb e=>by have:=HH.out;omega)⟩
  ·rw[HK.out];show _=Ending.returned (.agg #[.int .i64 k,.string (B n),.int .i64 i,.slice va j vc,.int .i64 (Tm.mk k n i us).size,.int .i64 (Tm.mk k n i us).depth]);rw[Iv.out.2.1,Iv.out.2.2.1,HS.out.1,HS.out.2]
  rw[HK.out];exact bg.2 ⟨va,vc,by rw[<-Fv.out],by rw[<-Fv.out];exact c5,ai.weaken (fun b _ e=>.inl e) _ _ _ _ wo⟩
end Go.Proofs.YthgmimncdjhgnaaGreatDoor
namespace Go.LF.Tm
theorem NS(f:Int->Tm->Nat->gp)(hf:∀ d t w,w<=262144->(f d t w).e=0->(f d t w).w<=262144)(d k:Int)(l:List Tm):∀(j w:Nat),w<=262144->(eO f d k j l w).e=0->(eO f d k j l w).w<=262144:=by
  induction l with
  |nil=>intro j w h _;exact h
  |cons t ts ih=>
   intro j w h he;rw[eO]at he ⊢;split at he
   ·rename_i h1;rw[if_pos h1];split at he
    ·rename_i h2;rw[if_pos h2];exact ih _ _ (hf _ _ _ h h1) h2
    rename_i h2;exact absurd he h2
   rename_i h1;exact absurd he h1
theorem LZ(f:Tm->Sm->Tm->Nat->gp)(hf:∀ u s b w,w<=262144->(f u s b w).e=0->(f u s b w).w<=262144)(us:List Tm):∀(m:Tm)(ss:List Sm)(w:Nat),w<=262144->(ld f m ss us w).e=0->(ld f m ss us w).w<=262144:=by
  induction us with
  |nil=>intro m ss w h _;unfold ld;split<;>simp[pv,h]
  |cons u us ih=>
   intro m ss w h he;cases ss with
   |nil=>unfold ld;exact h
   |cons s ss=>
    rw[ld]at he ⊢;split
    ·rename_i hk;rw[if_pos hk]at he;split
     ·rename_i h1;rw[if_pos h1]at he;exact ih _ _ _ (hf _ _ _ _ h h1) he
     rename_i h1;rw[if_neg h1]at he;exact absurd he h1
    exact h
theorem uq(n:Nat):∀ ms ss d t w,w<=262144->(sb n ms ss d t w).e=0->(sb n ms ss d t w).w<=262144:=by
  induction n with
  |zero=>intro ms ss d t w _ h;rw[sb]at h;simp at h
  |succ n ih=>
   intro ms ss d t w hw h;rw[sb]at h ⊢;split
   ·rename_i h1;rw[if_pos h1]at h;simp at h
   rename_i h1;rw[if_neg h1]at h;have hA:=NS (fun d' t' w'=>sb n ms ss d' t' w') (fun d t w=>ih _ _ _ _ _) d t.kind t.args 0 (w+1) (by omega);split
   ·rename_i h2;rw[if_pos h2]at h;have dY:=hA h2;revert h;unfold ye;split
    ·split
     ·split
      ·intro h;simp at h
      unfold ap;split
      ·exact fun h=>LZ _ (fun u s b w=>ih _ _ _ _ _) _ _ _ _ dY h
      intro h;simp at h
     rw[pv];exact fun _=>dY
    rw[pv];exact fun _=>dY
   rename_i h2;rw[if_neg h2]at h;exact absurd h h2
structure In(t:Tm):Prop where
  size:t.size<=4096
  depth:t.depth<=128
  ok:t.ok
  vars:t.XB
end Go.LF.Tm
namespace Go.Proofs.YthgmimncdjhgnaaGreatDoor
open Go.RowKit Go.LF
def im(wk x:Nat)(W:World):Prop:=W.heap[wk]? =some (.cells #[.int .i64 (x:Int)] 3 (0,0))
theorem im.lt{wk x:Nat}{W:World}(h:im wk x W):wk<W.heap.size:=(Array.getElem?_eq_some_iff.1 h).1
theorem im.cell{wk x:Nat}{W:World}(h:im wk x W):W.cell? ⟨wk,0,none⟩=some (.int .i64 (x:Int)):=by unfold im at h;simp[World.cell?,h]
theorem im.frozen{wk x:Nat}{W:World}(h:im wk x W):W.frozen? ⟨wk,0,none⟩=false:=by unfold im at h;simp[World.frozen?,h]
theorem im.ag{wk x:Nat}{W W':World}{S:Nat->Prop}(h:im wk x W)(hU:af S W W')(hS:¬S wk):im wk x W':=(hU.block wk h.lt hS).trans h
theorem im.kept{wk x:Nat}{W W':World}(h:im wk x W)(hU:af ae W W'):im wk x W':=h.ag hU (fun x=>x)
theorem im.set{wk x:Nat}{W:World}(h:im wk x W)(y:Nat):im wk y (W.setCell ⟨wk,0,none⟩ (.int .i64 (y:Int))):=by
  obtain⟨aB,hk⟩:=Array.getElem?_eq_some_iff.1 h;show(W.heap.modify wk _)[wk]? =_;rw[Array.getElem?_eq_getElem (by rw[Array.size_modify];exact aB),Array.getElem_modify_self,hk];rfl
def Qt(n:Nat):Prop:=
  ∀(ms:List Tm)(ss:List Sm)(d:Int)(t:Tm)(w0 wk:Nat)(O:Nat->Prop)(w:World)(ma:Option Addr)(mc:Nat)(sa:Option Addr)(sc:Nat)(cs:List Value),
   262145<=n+w0->w0<=262144->ms.length=ss.length->ms.length<=10000->(∀ u∈ms,u.isObj=true/\u.small=true)->(∀ s∈ss,s.size<=4096)->0<=d->d+(t.depth:Int)<=1048576->t.In->
   O wk->(∀ b,O b->b<w.heap.size)->im wk w0 w->ai O w 6 (ms.map iK) ma 0->ai O w 2 (ss.map Sm.az) sa 0->aw O w t.az cs->
   Calls Tryz.prog 210 #[.agg #[.pointer (some ⟨wk,0,none⟩),.slice ma ms.length mc,.slice sa ss.length sc],.agg cs.toArray,.int .i64 d] w fun e w'=>
     OA O (Tm.sb n ms ss d t w0) e w'/\im wk (Tm.sb n ms ss d t w0).w w'/\af (fun b=>b=wk) w w'
theorem Gr{O:Nat->Prop}{W:World}{ss:List Sm}{b o:Nat}(h:ai O W 2 (ss.map Sm.az) (some ⟨b,o,none⟩) 0)(j:Nat)(hj:j<ss.length):ai O W 2 ([ss[j]].map Sm.az) (some ⟨b,o+j * 2,none⟩) 0:=by
  obtain⟨b',o',cs,e,hb,hO,hl,hc,hr⟩:=h.get j (by simpa using hj);simp only[Option.some.injEq,Addr.mk.injEq,and_true]at e;obtain⟨rfl,rfl⟩:=e;refine bT _ _ _ (fun i hi=>?_);obtain rfl:i=0:=by simpa using hi
  refine⟨b,o+j * 2,cs,rfl,hb,hO,hl,fun m v hv=>?_,by simpa using hr⟩;have:=hc m v hv;simpa using this
theorem Oc{O:Nat->Prop}{W:World}{t:Tm}{c0 c1 c2 c3:Value}{b:Nat}{T:TypeId}(hB:bC W b c0 c1 c2 c3 (.int .i64 t.size) (.int .i64 t.depth) T)(hO:¬O b)(hR:aw O W t.az [c0,c1,c2,c3]):ai O W 6 ([t].map iK) (some ⟨b,0,none⟩) 0:=by
  refine bT _ _ _ (fun i hi=>?_);obtain rfl:i=0:=by simpa using hi
  obtain⟨x0,x1,x2,x3,x4,x5⟩:=hB.cells;refine⟨b,0,[c0,c1,c2,c3,.int .i64 t.size,.int .i64 t.depth],rfl,hB.lt,hO,rfl,fun m v hv=>?_,by simpa using vV.2 ⟨hR,rfl,rfl⟩⟩;match m,hv with
  |0,hv=>cases hv;exact x0
  |1,hv=>cases hv;exact x1
  |2,hv=>cases hv;exact x2
  |3,hv=>cases hv;exact x3
  |4,hv=>cases hv;exact x4
  |5,hv=>cases hv;exact x5
  |m+6,hv=>simp at hv
end Go.Proofs.YthgmimncdjhgnaaGreatDoor
