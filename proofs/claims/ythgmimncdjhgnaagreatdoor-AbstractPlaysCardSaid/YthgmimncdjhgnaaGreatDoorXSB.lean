/- Ge cX Machine.substitute: sU step, and all of it. -/
import Derived.Test.YthgmimncdjhgnaaGreatDoorXSA
set_option maxRecDepth 100000
set_option maxHeartbeats 16000000
namespace Go.Proofs.YthgmimncdjhgnaaGreatDoor
open Go.RowKit Go.LF
abbrev QB(Y H sb so:Nat)(y0 y1 y2 y3 o3 p0 p1:Value)(w':World):Prop:=
  (w'.cell? ⟨Y,0,none⟩=some y0/\w'.cell? ⟨Y,1,none⟩=some y1/\w'.cell? ⟨Y,2,none⟩=some y2/\w'.cell? ⟨Y,3,none⟩=some y3)/\w'.cell? ⟨H+1+1,3,none⟩=some o3/\(w'.cell? ⟨sb,so,none⟩=some p0/\w'.cell? ⟨sb,so+1,none⟩=some p1)
theorem QB.ag{Y H sb so:Nat}{y0 y1 y2 y3 o3 p0 p1:Value}{w w':World}{S:Nat->Prop}(h:QB Y H sb so y0 y1 y2 y3 o3 p0 p1 w)(hU:af S w w')(h1:¬S Y)(h2:¬S (H+1+1))(h3:¬S sb):QB Y H sb so y0 y1 y2 y3 o3 p0 p1 w':=
  ⟨⟨hU.cell h.1.1 h1,hU.cell h.1.2.1 h1,hU.cell h.1.2.2.1 h1,hU.cell h.1.2.2.2 h1⟩,hU.cell h.2.1 h2,hU.cell h.2.2.1 h3,hU.cell h.2.2.2 h3⟩
theorem QB.kT{Y H sb so r:Nat}{y0 y1 y2 y3 o3 p0 p1:Value}{w:World}(h:QB Y H sb so y0 y1 y2 y3 o3 p0 p1 w)(h1:¬Y=r)(h2:¬H+1+1=r)(h3:¬sb=r)(d0 d1 d2 d3:Value):
    QB Y H sb so y0 y1 y2 y3 o3 p0 p1 ((((w.setCell ⟨r,0,none⟩ d0).setCell ⟨r,1,none⟩ d1).setCell ⟨r,2,none⟩ d2).setCell ⟨r,3,none⟩ d3):=
  h.ag (S:=fun b=>b=r) (af.set (af.set (af.set (af.set (af.refl _ _) 0 _) 1 _) 2 _) 3 _) h1 h2 h3
theorem Bu{O:Nat->Prop}{R:Tm.gp}{x H:Nat}{w w5 W':World}{k i:Int}{n:List UInt8}{a:Option Addr}{len cap:Nat}(hR:aw (fun b=>O b\/b=H\/b=H+1\/b=H+1+1) w5 R.t.az [.int .i64 k,.string (B n),.int .i64 i,.slice a len cap])
    (hX:bK w5 x (.int .i64 (R.w:Int)) (.int .i64 R.e) 181) (jg:af (fun b=>b=x) w w5) (ah:af (fun b=>b=H+1) w5 W') (hH:H=w.heap.size) (hx:x<H):
    P2 O x R (.returned (.agg #[.int .i64 k,.string (B n),.int .i64 i,.slice a len cap])) W'/\af (fun b=>b=x) w W':=
  ⟨⟨⟨k,n,i,a,len,cap,rfl,aw.weaken (fun b _ e=>.inl e) _ _ (aw.ag ah (fun b e=>.inr (.inr (.inl e))) _ _ hR)⟩,hX.ag ah (by omega)⟩,jg.trans ah (fun b hb e=>by omega)⟩
theorem TP{O:Nat->Prop}{base H x j:Nat}{w1 w6 w7:World}{v a0 b0:Value}{us:List Tm}{u:Tm}{css:List (List Value)}{k i k1 i1:Int}{nm n1:List UInt8}{a1:Option Addr}{bH bG g aS:Nat}{TX:TypeId}
    (BX:cS 29 4 O base w6 v (us.map Tm.az) css) (tL:bK w6 x a0 b0 TX) (E7:au w6 (H+1+1) (.int .i64 k) (.string (B nm)) (.int .i64 i) v 29) (bj:af (fun b=>b=x\/b=H+1+1) w1 w6)
    (dg:aw (fun b=>O b\/v.ownBlock=some b) w6 u.az [.int .i64 k1,.string (B n1),.int .i64 i1,.slice a1 bH bG]) (hO:∀ b,O b->b<base) (FA:O (H+1+1)) (hx:x<H) (hb:base=H+3) (aF:w1.heap.size=H+2) (hz:base<=w6.heap.size) (hj:us.length=j)
    (bq:w7.ownsRow base 29 4 (.slice (some ⟨g,0,none⟩) (j+1) aS) (j+1) (css.flatten++[.int .i64 k1,.string (B n1),.int .i64 i1,.slice a1 bH bG]))
    (aN:(w6.alloc (.cells #[.int .i64 k1,.string (B n1),.int .i64 i1,.slice a1 bH bG] 29)).grownBy w7 v.ownBlock) (ft:v.ownBlock=some g\/g=(w6.alloc (.cells #[.int .i64 k1,.string (B n1),.int .i64 i1,.slice a1 bH bG] 29)).heap.size):
    cS 29 4 O base (w7.setCell ⟨H+1+1,3,none⟩ (.slice (some ⟨g,0,none⟩) (j+1) aS)) (.slice (some ⟨g,0,none⟩) (j+1) aS) ((us++[u]).map Tm.az) (css++[[.int .i64 k1,.string (B n1),.int .i64 i1,.slice a1 bH bG]])/\
      bK (w7.setCell ⟨H+1+1,3,none⟩ (.slice (some ⟨g,0,none⟩) (j+1) aS)) x a0 b0 TX/\au (w7.setCell ⟨H+1+1,3,none⟩ (.slice (some ⟨g,0,none⟩) (j+1) aS)) (H+1+1) (.int .i64 k) (.string (B nm)) (.int .i64 i) (.slice (some ⟨g,0,none⟩) (j+1) aS) 29/\
      af (fun b=>b=x\/b=H+1+1) w1 (w7.setCell ⟨H+1+1,3,none⟩ (.slice (some ⟨g,0,none⟩) (j+1) aS))/\base<=(w7.setCell ⟨H+1+1,3,none⟩ (.slice (some ⟨g,0,none⟩) (j+1) aS)).heap.size:=by
  subst hj;have cK:af ae w6 (w6.alloc (.cells #[.int .i64 k1,.string (B n1),.int .i64 i1,.slice a1 bH bG] 29)):=(af.refl ae _).alloc _;have rM:=BX.on cK hO;have gE:w7.ownsRow base 29 4 (.slice (some ⟨g,0,none⟩) ((us.map Tm.az).length+1) aS) ((us.map Tm.az).length+1) (css.flatten++[.int .i64 k1,.string (B n1),.int .i64 i1,.slice a1 bH bG]):=by rw[List.length_map];exact bq
  have lL:=rM.appended (d:=u.az) rfl (dg.on cK) gE aN ft (Nat.le_refl _);rw[List.length_map]at lL;have fl:=rM.upto aN;have dn:af (fun b=>b=H+1+1) w7 (w7.setCell ⟨H+1+1,3,none⟩ (.slice (some ⟨g,0,none⟩) (us.length+1) aS)):=af.set (af.refl _ _) 3 _;have Je:=lL.ag dn (fun b e=>by rw[e];exact FA) hO;have OZ:=((E7.kept cK).D9 aN rM (by omega)).mH (.slice (some ⟨g,0,none⟩) (us.length+1) aS);have Pp:us.map Tm.az++[u.az]=(us++[u]).map Tm.az:=by simp
  rw[Pp]at Je;have s1:=cK.size;have s2:=fl.size;have s3:=dn.size;exact⟨Je,((tL.kept cK).ag fl (by omega)).ag dn (by omega),OZ,((bj.trans cK (fun _ _ e=>e.elim)).trans fl (fun b hb e=>by omega)).trans dn (fun _ _ e=>.inr e),by omega⟩
theorem Em(n:Nat)(IH:Hf n):Hf (n+1):=by
  intro ms ss d t w0 x O w ma mc sa sc cs hn EO mR NP jw Bj KJ qA qM hx hO hX hM hS hR;obtain⟨k,nm,i,ts,ta,tc,rfl,rfl,EM,hT⟩:=aP hR;obtain⟨i0,hi,fS,gn,eH⟩:=info_parts de;obtain⟨w1,aF⟩:∃ w1,w1=(w.alloc (.cells #[.int .i64 k,.string (B nm),.int .i64 i,.slice ta ts.length tc] 29)).alloc (.cells #[.int .i64 0,.string (B []),.int .i64 0,.slice none 0 0] 29):=⟨_,rfl⟩;have aH:af ae w w1:=by rw[aF];exact((af.refl ae w).alloc _).alloc _
  have mN:au w1 w.heap.size (.int .i64 k) (.string (B nm)) (.int .i64 i) (.slice ta ts.length tc) 29:=by rw[aF];exact(au.av rfl).kept ((af.refl ae _).alloc _)
  have dK:au w1 (w.heap.size+1) (.int .i64 0) (.string (B [])) (.int .i64 0) (.slice none 0 0) 29:=by rw[aF];exact au.av (by simp)
  have Cs:w1.heap.size=w.heap.size+2:=by rw[aF];simp
  have rY:=hX.kept aH;have ic:=(ai.aG _ _ _ _ hT).on aH;have Cd:=(ai.aG _ _ _ _ hM).on aH;have lW:=(ai.aG _ _ _ _ hS).on aH;have HW:=ak aF;obtain⟨H,hH⟩:∃ H,H=w.heap.size:=⟨_,rfl⟩;have HH:=ak hH;rw[<-hH]at mN dK ic Cd lW Cs;have j9:∀ b,O b->b<H:=by rw[hH];exact hO
  have Q7:x<H:=j9 x hx;have HO:Hid (∀ b,(O b\/b=H\/b=H+1\/b=H+1+1)->b<H+3):=ak (fun b h=>by rcases h with h |h |h |h;(have:=j9 b h;omega);all_goals omega);have jh:ts.length<=4096:=by have h1:=qM.size;have h2:=Tm.aA ts;simp only[Tm.aM]at h1;omega
  have hdk:d<=1048576:=by omega
  obtain⟨R,iR⟩:∃ R,R=Tm.sb (n+1) ms ss d (.mk k nm i ts) w0:=⟨_,rfl⟩;rw[<-iR];rw[Tm.Ik]at iR;obtain⟨tl,vR⟩:∃ tl,tl=ts.length:=⟨_,rfl⟩;obtain⟨ml,jk⟩:∃ ml,ml=ms.length:=⟨_,rfl⟩;obtain⟨sl,gH⟩:∃ sl,sl=ss.length:=⟨_,rfl⟩;rw[<-vR,<-jk,<-gH];rw[<-vR]at mN jh;rw[<-jk,<-gH]at mR;rw[<-jk]at NP;rw[<-vR]at HW;subst mR;have HL:=ak (And.intro vR (And.intro jk gH));have HP:=ak (And.intro hn (And.intro jw (And.intro Bj (And.intro qM qA))));have Vt:(ml:Int)<=10000:=by omega
  have agP:(0:Int)<=(ml:Int):=by omega
  have TC:(tl:Int)<=4096:=by omega
  have ain:(0:Int)<=(tl:Int):=by omega
  have eh:(w0:Int)<=262144:=by omega
  have gT:(0:Int)<=(w0:Int):=by omega
  have m9:=aH;obtain⟨x0,x1⟩:=rY.cells;obtain⟨y0,y1⟩:=rY.aq;have BY:=rY.ui (.int .i64 ((w0+1:Nat):Int));have sS:af (fun b=>b=x) w1 (w1.setCell ⟨x,0,none⟩ (.int .i64 ((w0+1:Nat):Int))):=af.set (af.refl _ _) 0 _;have LP:((w0+1:Nat):Int)=(w0:Int)+1:=by omega
  have HXS:=ak (And.intro BY sS);have HEC:=ak LP;rw[LP]at BY sS;have HXT:=ak (And.intro BY sS);clear aF hX hR hT hM hS hH hO j9 hn jw Bj qM qA vR jk gH aH BY sS LP;have rL:=dK.lt;go_enter Tryz.func203,Tryz.ntmps203;go_upto_region 1 with fail;rw[<-show B []={ data:=#[] }from rfl,<-HW.out,<-HH.out];by_cases rQ:(262144:Int)<(w0:Int)+1
  ·have uw:R=⟨2,Tm.aO,w0+1⟩:=by rw[iR,if_pos (by omega)]
   have LI:=ak uw;obtain⟨q1,q2⟩:=HXT.out;have q3:=q1.mu (.int .i64 2);have q4:=q2.trans (show af (fun b=>b=x) (w1.setCell ⟨x,0,none⟩ (.int .i64 ((w0:Int)+1))) ((w1.setCell ⟨x,0,none⟩ (.int .i64 ((w0:Int)+1))).setCell ⟨x,1,none⟩ (.int .i64 2))from af.set (af.refl _ _) 1 _) (fun _ _ e=>e);have iL:=dK.ag q4 (by omega);have ah:=iL.set (d0:=.int .i64 0) (d1:=.string (B [])) (d2:=.int .i64 0) (d3:=.slice none 0 0);obtain⟨g0,g1,g2,g3⟩:=dK.aq;obtain⟨s0,s1,s2,s3⟩:=dK.cells;obtain⟨e0,e1,e2,e3⟩:=ah.1.cells;have dJ:=ak (And.intro e0 (And.intro e1 (And.intro e2 (And.intro e3 (And.intro ah.2 (And.intro q3 q4))))));have gJ:¬x=H+1:=by omega
   clear iR uw q1 q2 q3 q4 e0 e1 e2 e3 ah;go_wp2_with fail;obtain⟨e0,e1,e2,e3,ah,q3,q4⟩:=dJ.out;refine bodyPost_ret (v:=.agg #[.int .i64 0,.string (B []),.int .i64 0,.slice none 0 0]) ?_ rfl ?_
   ·simp[results,Tryz.f203,go_sem,e0,e1,e2,e3]
   rw[LI.out];refine⟨⟨⟨0,[],0,none,0,0,rfl,bD 0 [] 0⟩,?_⟩,((m9.mono (fun _ _ x=>x.elim)).trans q4 (fun _ _ e=>e)).trans ah (fun b hb e=>by have:=HH.out;omega)⟩;show bK _ x (.int .i64 ((w0+1:Nat):Int)) (.int .i64 2) _;rw[HEC.out];exact q3.ag ah gJ
  rw[if_neg (by omega)]at iR;have Ke:=ak iR;clear iR;obtain⟨w2,dY⟩:∃ w2,w2=w1.setCell ⟨x,0,none⟩ (.int .i64 ((w0:Int)+1)):=⟨_,rfl⟩;obtain⟨yU,aL⟩:=HXT.out;rw[<-dY]at yU aL;have iD:=mN.ag aL (by omega);have dO:=dK.ag aL (by omega);have GY:w2.heap.size=H+2:=by rw[dY];simpa using Cs
  go_upto_region 4 with fail;rw[<-dY];clear dY rY x0 x1 y0 y1;obtain⟨x0,x1⟩:=yU.cells;obtain⟨t0,t1,t2,t3⟩:=iD.cells;go_upto_region 8 with fail;obtain⟨w3,cQ⟩:∃ w3,w3=w2.alloc (.cells #[.int .i64 k,.string (B nm),.int .i64 i,.slice none 0 0] 29):=⟨_,rfl⟩;have aZ:af ae w2 w3:=by rw[cQ];exact(af.refl ae _).alloc _
  have Hn:au w3 (H+1+1) (.int .i64 k) (.string (B nm)) (.int .i64 i) (.slice none 0 0) 29:=by rw[cQ];exact au.av (by omega)
  rw[show H+2=H+1+1 from rfl];rw[<-cQ];have Ht:=yU.kept aZ;have dM:af (fun b=>b=x) w1 w3:=aL.trans aZ (fun _ _ e=>e.elim);have vY:H+3<=w3.heap.size:=by have:=Hn.lt;omega
  clear cQ yU aL aZ iD dO x0 x1 t0 t1 t2 t3;have te:(d:Int)<=1048576:=hdk;go_wp2_with fail
  go_loopw [12] (fun v12 wr=>∃(j:Nat)(er:Int)(us:List Tm)(wj:Nat)(v:Value)(css:List (List Value)),v12=.int .i64 (j:Int)/\j<=tl/\us.length=j/\
      (er=0->Tm.eO (fun d' t' w'=>Tm.sb n ms ss d' t' w') d k 0 (ts.take j) (w0+1)=⟨0,us,wj⟩/\wj<=262144)/\(¬er=0->R=⟨er,Tm.aO,wj⟩)/\
      cS 29 4 (fun b=>O b\/b=H\/b=H+1\/b=H+1+1) (H+3) wr v (us.map Tm.az) css/\bK wr x (.int .i64 (wj:Int)) (.int .i64 er) 181/\
      au wr (H+1+1) (.int .i64 k) (.string (B nm)) (.int .i64 i) v 29/\af (fun b=>b=x\/b=H+1+1) w1 wr/\H+3<=wr.heap.size)
    (fun v12 _=>tl - (intOf v12).toNat)
  case atStart=>exact⟨0,0,[],w0+1,_,[],rfl,Nat.zero_le _,rfl,fun _=>⟨rfl,by omega⟩,fun h=>absurd rfl h,cS.nil _ _ _ _ _,by rw[HEC.out];exact Ht,Hn,dM.mono (fun _ _ e=>.inl e),vY⟩
  clear Ht Hn dM vY HXS HXT;obtain⟨j,er,us,wj,v,css,rfl,hj,cZ,hA,hB,hD,KT,Rl,hU,G5⟩:=hrel;have iD:=mN.ag hU (by omega);have dO:=dK.ag hU (by omega);obtain⟨t0,t1,t2,t3⟩:=iD.cells;obtain⟨x0,x1⟩:=KT.cells;obtain⟨xf0,xf1⟩:=KT.aq;obtain⟨o0,o1,o2,o3⟩:=Rl.cells;obtain⟨f0,f1,f2,f3⟩:=Rl.aq;have q1:=iD.lt;have q2:=Rl.lt;have u2:(j:Int)<=4096:=by omega
  have u3:(0:Int)<=(j:Int):=by omega
  have jg:af (fun b=>b=x) w wr:=(m9.mono (fun _ _ x=>x.elim)).trans hU (fun b hb e=>by rcases e with e |e;exact e;(have:=HH.out;omega));by_cases zP:er=0
  case neg=>
    have o8:=hB zP;have apJ:(er == 0)=false:=by simpa using zP
    have aoX:(er !=0)=true:=by simpa using zP
    have yW:=ak o8;have ah:=dO.set (d0:=.int .i64 0) (d1:=.string (B [])) (d2:=.int .i64 0) (d3:=.slice none 0 0);obtain⟨g0,g1,g2,g3⟩:=dO.aq;obtain⟨s0,s1,s2,s3⟩:=dO.cells;obtain⟨e0,e1,e2,e3⟩:=ah.1.cells;have dJ:=ak (And.intro e0 (And.intro e1 (And.intro e2 (And.intro e3 ah.2))));have Gh:=dO.lt;have Fv:=ak cZ;clear e0 e1 e2 e3 ah o8 hA hB zP cZ;have cV:(j:Int)<(tl:Int)\/¬(j:Int)<(tl:Int):=by omega
    rcases cV with aB |aB
    all_goals
      go_wp2_with fail;obtain⟨e0,e1,e2,e3,ah⟩:=dJ.out;refine bodyPost_ret (v:=.agg #[.int .i64 0,.string (B []),.int .i64 0,.slice none 0 0]) ?_ rfl ?_
      ·simp[results,Tryz.f203,go_sem,e0,e1,e2,e3]
      rw[yW.out];exact⟨⟨⟨0,[],0,none,0,0,rfl,bD 0 [] 0⟩,KT.ag ah (by omega)⟩,jg.trans ah (fun b hb e=>by have:=HH.out;omega)⟩
  subst zP;obtain⟨hA,Ex⟩:=hA rfl;have HA:=ak (And.intro hA (And.intro Ex cZ));clear hA hB Ex cZ;by_cases aB:j<tl
  ·have Qe:j<ts.length:=by rw[<-HL.out.1];exact aB
   have u4:(j:Int)<(tl:Int):=by omega
   obtain⟨eb,eo,ek,en,ei,es,ec,rfl,mz,K9,p0,p1,p2,p3,eY⟩:=aY (ai.ag (O:=fun b=>O b\/H<=b) hU (fun b e=>by rcases e with e |e;exact .inl (by rw[e];exact hx);exact .inr (by omega)) _ _ _ _ ic) j Qe;have qM:=(HP.out.2.2.2.1).arg j Qe;have dw:=Tm.lu (fun d' t' w'=>Tm.sb n ms ss d' t' w') d k ts (w0+1) j Qe (by rw[HA.out.1]);rw[HA.out.1]at dw;have pR:=Tm.vh (fun d' t' w'=>Tm.sb n ms ss d' t' w') (fun d t w=>Nat.le_of_lt (Tm.yS n ms ss d t w)) d k (ts.take j) 0 (w0+1);rw[HA.out.1]at pR;have qx:0<=Tm.under k j/\Tm.under k j<=1:=by unfold Tm.under;split<;>omega
   have Du:=fun b e=>hD.2.2.1.lt b e
   have IHe:=fun(W:World)(hu:af ae wr W)=>IH ms ss (d+Tm.under k j) ts[j] wj x (fun b=>(O b\/b=H\/b=H+1\/b=H+1+1)\/v.ownBlock=some b) W ma mc sa sc _ (by have:=HP.out.1;have:=pR;simp only at this;omega) HA.out.2.1 (HL.out.2.1.symm.trans HL.out.2.2) (by rw[<-HL.out.2.1];exact NP) HP.out.2.1 HP.out.2.2.1 (by omega) (by have:=HP.out.2.2.2.2;have:=qM.2;omega) qM.1 (.inl (.inl hx))
     (fun b e=>by have z1:=hu.size;rcases e with e |e;(have:=HO.out b e;omega);(have:=(Du b e).2;omega)) (KT.kept hu) ((ai.weaken (fun b _ e=>e.elim (fun e=>e.elim .inl (fun e=>.inr (by omega))) (fun e=>.inr (by have:=(Du b e).1;omega))) _ _ _ _ (ai.ag (O:=fun b=>O b\/H<=b) hU (fun b e=>by rcases e with e |e;exact .inl (by rw[e];exact hx);exact .inr (by omega)) _ _ _ _ Cd)).on hu) ((ai.weaken (fun b _ e=>e.elim (fun e=>e.elim .inl (fun e=>.inr (by omega))) (fun e=>.inr (by have:=(Du b e).1;omega))) _ _ _ _ (ai.ag (O:=fun b=>O b\/H<=b) hU (fun b e=>by rcases e with e |e;exact .inl (by rw[e];exact hx);exact .inr (by omega)) _ _ _ _ lW)).on hu)
     ((aw.weaken (fun b _ e=>e.elim (fun e=>e.elim .inl (fun e=>.inr (by omega))) (fun e=>.inr (by have:=(Du b e).1;omega))) _ _ eY).on hu)
   rw[<-HL.out.2.1,<-HL.out.2.2]at IHe;have mO:=Tm.uq n ms ss (d+Tm.under k j) ts[j] wj HA.out.2.1;simp only at dw;have H2:=fun w'(hU:af ae wr w')=>(oV k j j rfl nm i (.slice (some ⟨eb,eo,none⟩) tl tc) w').mono fun _ _ ⟨he,hV⟩=>(⟨he,hU.and hV⟩:_/\af ae wr _)
   generalize ts[j].args.length=el at *
   generalize Tm.sb n ms ss (d+Tm.under k j) ts[j] wj=rs at *
   have jZ:=ak (And.intro dw mO);obtain⟨un,Gb⟩:∃ un,un=Tm.under k j:=⟨_,rfl⟩;rw[<-Gb]at qx IHe H2;have HUN:=ak Gb;obtain⟨afB,afx⟩:=qx;have XA:IntKind.i64.wrap (d+un)=d+un:=Go.IntWalk.i64_in _ (by omega);have hdr:af ae wr wr.drew:=(af.refl ae wr).drew;have fE:(us.map Tm.az).length=j:=by rw[List.length_map];exact HA.out.2.2
   have U8:=ak fE;have nx1:¬H+1+1=x:=by omega
   have nx2:¬H=x:=by omega
   have nx3:¬eb=x:=fun e=>K9 (.inl (by rw[e];exact hx))
   have ym:rs.e=0->Tm.eO (fun d' t' w'=>Tm.sb n ms ss d' t' w') d k 0 (ts.take (j+1)) (w0+1)=⟨0,us++[rs.t],rs.w⟩/\rs.w<=262144:=fun he=>by
     have kK:=jZ.out.1;rw[if_pos he]at kK;exact⟨kK,jZ.out.2 he⟩
   have yP:¬rs.e=0->R=⟨rs.e,Tm.aO,rs.w⟩:=fun he=>by
     have h1:=jZ.out.1;rw[if_neg he]at h1;have h2:=Tm.vG (fun d' t' w'=>Tm.sb n ms ss d' t' w') d k ts (w0+1) (j+1) (by rw[h1];exact he);rw[Ke.out,h2,h1,if_neg he]
   have HG:=ak (And.intro ym yP);clear dw mO pR qM eY Gb fE ym yP;go_upto_region 11 with fail;clear x0 x1 xf0 xf1 o0 o1 o2 f0 f1 f2 dO KT jg q1 ic Cd lW mN dK Du
   go_region_law (first
     |((rw[if_pos (by rfl)]);go_simp;(go_at_call 136);refine(H2 _ hdr).mono ?_;rintro e w5 ⟨rfl,ba⟩;have O5:=Rl.kept ba;have I9:=iD.kept ba;have q5:=O5.lt;have c5:=O5.cells.2.2.2;have z5:=O5.frozen 3;have y5:=I9.cells.2.2.2;have XD:=ba.size;have p05:=ba.cell p0 (fun x=>x);have p15:=ba.cell p1 (fun x=>x);have p25:=ba.cell p2 (fun x=>x);have p35:=ba.cell p3 (fun x=>x))
     |((rw[if_pos (by rfl)]);go_simp;(go_at_call 203);refine(IHe _ ba).mono ?_;rintro e w6 ⟨⟨⟨k1,n1,i1,a1,bH,bG,rfl,dg⟩,tL⟩,bj⟩;have E7:=O5.ag bj nx1;have q6:=E7.lt;have c6:=E7.cells.2.2.2;have z6:=E7.frozen 3;have ss6:=bj.size;have BX:=(hD.on ba HO.out).ag bj (fun b e=>.inl (by rw[e];exact hx)) HO.out;have Wu:af (fun b=>b=x\/b=H+1+1) w1 w6:=(hU.trans ba (fun _ _ e=>e.elim)).trans bj (fun _ _ e=>.inl e);have agR:H+3<=w6.heap.size:=by omega)
     |(refine step_append_lies _ (by rfl) _ _ 26 (by rfl) (H+3) 29 i0 (.agg #[.int .i64 0,.string (B []),.int .i64 0,.slice none 0 0]) 4 56 (by kernel_rfl) hi fS gn eH rfl (by decide) v j css.flatten (by rfl) (by have h9:=(BX.on ((af.refl ae w6).alloc (.cells #[.int .i64 k1,.string (B n1),.int .i64 i1,.slice a1 bH bG] 29)) HO.out).2.2.1;rw[U8.out]at h9;exact h9) ⟨w6.heap.size,0,none⟩ 1 1 [.int .i64 k1,.string (B n1),.int .i64 i1,.slice a1 bH bG] (by rfl) rfl (World.news_of_block (heap_alloc_new w6 _)) (by simp[Value.oneCell']) (by omega) (by simp only[maxLen];omega) (by omega) (by simp;omega) _ rfl ?_;intro g aS w7 bq aN ft xY;have rM:=BX.on ((af.refl ae w6).alloc (.cells #[.int .i64 k1,.string (B n1),.int .i64 i1,.slice a1 bH bG] 29)) HO.out;have OZ:=(E7.kept ((af.refl ae w6).alloc (.cells #[.int .i64 k1,.string (B n1),.int .i64 i1,.slice a1 bH bG] 29))).D9 aN rM (by omega);have c7:=OZ.cells.2.2.2;have z7:=OZ.frozen 3))
   all_goals
     have aa5:=TP (u:=rs.t) BX tL E7 Wu dg HO.out (.inr (.inr (.inr rfl))) Q7 rfl Cs agR HA.out.2.2 bq aN ft;have HN:=ak aa5;clear aa5;go_wp2_with fail;go_roundw;case rel=>exact⟨j+1,rs.e,us++[rs.t],rs.w,_,_,by go_num,by omega,by rw[List.length_append,HA.out.2.2];rfl,HG.out.1,HG.out.2,HN.out.1,HN.out.2.1,HN.out.2.2.1,HN.out.2.2.2.1,HN.out.2.2.2.2⟩
     simp[intOf];omega
  have b7:j=tl:=by omega
  subst b7;have eQ:ts.take j=ts:=List.take_of_length_le (by rw[<-HL.out.1];exact Nat.le_refl _);have hA:=HA.out.1;rw[eQ]at hA;have o8:=Ke.out;rw[hA]at o8;simp only[if_true]at o8;obtain⟨va,vc,Ru,fp,hF⟩:=hD.rep HO.out;rw[List.length_map,HA.out.2.2]at fp Ru;subst Ru;have A2:=Tm.zq (fun d' t' w'=>Tm.sb n ms ss d' t' w') (fun d t w=>Tm.Cm n ms ss d t w) d k ts 0 (w0+1);rw[hA]at A2
  have UI:=fun(h5:k=5)=>Tm.uK (fun d' t' w'=>Tm.sb n ms ss d' t' w') d k KJ d ts (fun d' t' w a b c=>Tm.oD n ms ss d' t' w HP.out.2.1 a (by
    have h1:=Tm.bz c;have h2:=HP.out.2.2.2.2;simp only[Tm.cD]at h2;omega) (Tm.me (((Tm.Ar _ _ _ _).1 HP.out.2.2.2.1.vars).1 h5) t' c)) (Int.le_refl _) 0 (w0+1)
  rw[hA]at UI
  have WG:Tm.aD us<=4096 * 4096:=by
    have h1:=Tm.nB 4096 us (fun u hu=>Tm.fA (A2 u hu));rw[HA.out.2.2]at h1;have:4096 * j<=4096 * 4096:=Nat.mul_le_mul_left _ jh;omega
  have tP:=((Tm.uH HP.out.2.2.2.1.ok));have HX:=ak (And.intro o8 (And.intro A2 (And.intro UI (And.intro hA WG))));clear o8 A2 UI hA eQ WG hD;have sA:¬(j:Int)<(j:Int):=by omega
  have Gh:=dO.lt;obtain⟨g0,g1,g2,g3⟩:=dO.aq;by_cases Ah:k=5/\d<=i
  case neg=>
    have xM:R=Tm.jo (.mk k nm i us) wj:=by rw[HX.out.1];unfold Tm.ye;rw[if_neg Ah]
    have b6:aw (fun b=>O b\/b=H\/b=H+1\/b=H+1+1) wr (Tm.mk k nm i us).az [.int .i64 k,.string (B nm),.int .i64 i,.slice va j vc]:=bg.2 ⟨va,vc,by rw[HA.out.2.2],by rw[HA.out.2.2];exact fp,hF⟩;have CH:=jY (.mk k nm i us) (by rw[Tm.aM];have:=HX.out.2.2.2.2;omega) x wj (fun b=>O b\/b=H\/b=H+1\/b=H+1+1) wr (.inl hx) (fun b e=>by have:=HO.out b e;omega) k i nm va j vc KT b6;rw[<-xM]at CH
    have cV:((k == 5)=false)\/(k=5/\i<d):=by
      by_cases h5:k=5
      ·right;exact⟨h5,by have:=fun h=>Ah ⟨h5,h⟩;omega⟩
      left;simpa using h5
    have oF:=dO;have cW:=jg;clear xM Ah b6 hF fp;rcases cV with rV |⟨rfl,ZF⟩
    case' inr=>
      have Kz:=tP rfl;have Zy:¬d<=i:=by omega
    all_goals
      clear tP;go_wp2_with fail
      (with_reducible refine CH.mono ?_);rintro e w5 ⟨⟨⟨k5,n5,i5,a5,cE,cJ,rfl,gN⟩,qY⟩,ba⟩;have dR:=oF.ag ba (by omega);obtain⟨s0,s1,s2,s3⟩:=dR.cells;obtain⟨z0,z1,z2,z3⟩:=dR.aq;have ah:=dR.set (d0:=.int .i64 k5) (d1:=.string (B n5)) (d2:=.int .i64 i5) (d3:=.slice a5 cE cJ);obtain⟨e0,e1,e2,e3⟩:=ah.1.cells;have dJ:=ak (And.intro e0 (And.intro e1 (And.intro e2 (And.intro e3 ah.2))));clear e0 e1 e2 e3 ah;go_wp2_with fail;obtain⟨e0,e1,e2,e3,ah⟩:=dJ.out;refine bodyPost_ret (v:=.agg #[.int .i64 k5,.string (B n5),.int .i64 i5,.slice a5 cE cJ]) ?_ rfl ?_
      ·simp[results,Tryz.f203,go_sem,e0,e1,e2,e3]
      exact Bu gN qY (cW.trans ba (fun _ _ e=>e)) ah HH.out Q7
  obtain⟨rfl,OS⟩:=Ah;obtain⟨Kz,zD⟩:=tP rfl;obtain⟨m,hm⟩:∃ m:Nat,i - d=(m:Int):=⟨(i - d).toNat,by omega⟩;have Um:IntKind.i64.wrap (i - d)=(m:Int):=by rw[<-hm];exact Go.IntWalk.i64_in _ (by omega)
  have pf:(0:Int)<=(m:Int):=by omega
  have qp:¬(m:Int)<0:=by omega
  have GJ:(m:Int)<=1048576:=by omega
  have Tt:(i - d).toNat=m:=by omega
  have HM:=ak (And.intro hm (And.intro Tt OS));have am7:d<=i:=OS;clear hm Tt OS tP;by_cases Me:(m:Int)<(ml:Int)
  case neg=>
    have xM:R=Tm.jo (.mk 5 nm (i - (ml:Int)) us) wj:=by
      rw[HX.out.1];unfold Tm.ye;rw[if_pos ⟨rfl,HM.out.2.2⟩,if_neg (by rw[HM.out.1,<-HL.out.2.1];exact Me),HL.out.2.1]
    have dd:af (fun b=>b=H+1+1) wr (wr.setCell ⟨H+1+1,2,none⟩ (.int .i64 (i - (ml:Int)))):=af.set (af.refl _ _) 2 _;have aan:=Rl.kG (.int .i64 (i - (ml:Int)));have xI:=ai.ag dd (fun b e=>.inr (.inr (.inr e))) _ _ _ _ hF;have yU:=KT.ag dd (by omega);have oF:=dO.ag dd (by omega);have cW:af (fun b=>b=x) w (wr.setCell ⟨H+1+1,2,none⟩ (.int .i64 (i - (ml:Int)))):=jg.trans dd (fun b hb e=>by have:=HH.out;omega);have b6:aw (fun b=>O b\/b=H\/b=H+1\/b=H+1+1) (wr.setCell ⟨H+1+1,2,none⟩ (.int .i64 (i - (ml:Int)))) (Tm.mk 5 nm (i - (ml:Int)) us).az [.int .i64 5,.string (B nm),.int .i64 (i - (ml:Int)),.slice va j vc]:=bg.2 ⟨va,vc,by rw[HA.out.2.2],by rw[HA.out.2.2];exact fp,xI⟩;have CH:=jY (.mk 5 nm (i - (ml:Int)) us) (by rw[Tm.aM];have:=HX.out.2.2.2.2;omega) x wj (fun b=>O b\/b=H\/b=H+1\/b=H+1+1) (wr.setCell ⟨H+1+1,2,none⟩ (.int .i64 (i - (ml:Int)))) (.inl hx) (fun b e=>by have:=HO.out b e;have:=dd.size;omega) 5 (i - (ml:Int)) nm va j vc yU b6;rw[<-xM]at CH;have ahK:IntKind.i64.wrap (i - (ml:Int))=i - (ml:Int):=Go.IntWalk.i64_in _ (by omega);obtain⟨TH,Wr,TA,Wx⟩:=aan.cells;have UC:=ak (And.intro TH (And.intro Wr (And.intro TA Wx)));clear xM b6 hF xI fp TH Wr TA Wx aan dd yU;go_wp2_with fail
    (with_reducible refine CH.mono ?_);rintro e w5 ⟨⟨⟨k5,n5,i5,a5,cE,cJ,rfl,gN⟩,qY⟩,ba⟩;have dR:=oF.ag ba (by omega);obtain⟨s0,s1,s2,s3⟩:=dR.cells;obtain⟨z0,z1,z2,z3⟩:=dR.aq;have ah:=dR.set (d0:=.int .i64 k5) (d1:=.string (B n5)) (d2:=.int .i64 i5) (d3:=.slice a5 cE cJ);obtain⟨e0,e1,e2,e3⟩:=ah.1.cells;have dJ:=ak (And.intro e0 (And.intro e1 (And.intro e2 (And.intro e3 ah.2))));clear e0 e1 e2 e3 ah;go_wp2_with fail;obtain⟨e0,e1,e2,e3,ah⟩:=dJ.out;refine bodyPost_ret (v:=.agg #[.int .i64 k5,.string (B n5),.int .i64 i5,.slice a5 cE cJ]) ?_ rfl ?_
    ·simp[results,Tryz.f203,go_sem,e0,e1,e2,e3]
    exact Bu gN qY (cW.trans ba (fun _ _ e=>e)) ah HH.out Q7
  have FI:m<ms.length:=by rw[<-HL.out.2.1];omega
  have zQ:m<ss.length:=by rw[<-HL.out.2.2];omega
  have hkO:∀ b,(b=x\/b=H+1+1)->(O b\/H<=b):=fun b e=>by rcases e with e |e;exact .inl (by rw[e];exact hx);exact .inr (by omega)
  obtain⟨mb,mo,mk',mn,mi,msl,mc',rfl,Vr,WL,m0,m1,m2,m3,tC⟩:=aY (ai.ag hU hkO _ _ _ _ Cd) m FI;obtain⟨qU,so,sn,st,Wn,rfl,Q4,Jw,p0,p1,Kf⟩:=kV (ai.ag hU hkO _ _ _ _ lW) m zQ;obtain⟨Ny,oZ⟩:=HP.out.2.1 _ (List.getElem_mem FI);have MJ:=Tm.jq Ny oZ;have MV:=Db d 0 KJ te (by omega) (by omega) ms[m] (by have:=Tm.fA oZ;omega) (Tm.uL _ Ny) 0 0 wr _ (by omega) (by have:=Tm.fA oZ;omega) (by omega) (dj tC);have GR:=fun(W:World)(cs:List Value)(h:aw ae W (Tm.mv (Tm.jU d 0) 0 ms[m]).az cs)=>uh (Tm.mv (Tm.jU d 0) 0 ms[m]) (by rw[Tm.uv];have:=Tm.fA oZ;omega) W cs h
  have yr:R=if 1048576<Tm.fI (Tm.mv (Tm.jU d 0) 0 ms[m])then⟨5,Tm.aO,wj⟩else Tm.ap (Tm.oI n) (Tm.mv (Tm.jU d 0) 0 ms[m]) ss[m].args us wj:=by
    rw[HX.out.1];unfold Tm.ye;rw[if_pos ⟨rfl,HM.out.2.2⟩,if_pos (by rw[HM.out.1,<-HL.out.2.1];exact Me),HM.out.2.1];simp only[List.getD_eq_getElem?_getD,List.getElem?_eq_getElem FI,List.getElem?_eq_getElem zQ,Option.getD_some]
  obtain⟨gr,pw⟩:∃ gr,gr=Tm.fI (Tm.mv (Tm.jU d 0) 0 ms[m]):=⟨_,rfl⟩;rw[<-pw]at GR yr;obtain⟨X5,qY⟩:∃ X5,X5=Tm.mv (Tm.jU d 0) 0 ms[m]:=⟨_,rfl⟩;have Ys:¬1048576<gr->X5.isObj=true/\X5.small=true:=fun h=>⟨by rw[qY];exact Tm.E2 Ny oZ d KJ te (by rw[<-pw];exact h),by rw[qY,Tm.xy];exact oZ⟩
  rw[<-qY]at GR yr MV;have HV:=ak (And.intro yr (And.intro Ys hkO));clear yr Ys pw qY Ny oZ MJ tC hkO;generalize ms[m].args.length=el at *
  go_wp2_with fail
  (with_reducible refine MV.mono ?_);rintro e w5 ⟨k5,i5,n5,a5,cE,cJ,rfl,gN,ba⟩;obtain⟨w6,iF⟩:∃ w6,w6=w5.alloc (.cells #[.int .i64 k5,.string (B n5),.int .i64 i5,.slice a5 cE cJ] 29):=⟨_,rfl⟩;have dM:af ae w5 w6:=by rw[iF];exact(af.refl ae _).alloc _
  have So:au w6 w5.heap.size (.int .i64 k5) (.string (B n5)) (.int .i64 i5) (.slice a5 cE cJ) 29:=by rw[iF];exact au.av rfl
  have kr:=ba.and dM;have dg:aw (fun b=>O b\/b=H\/b=H+1\/b=H+1+1) w6 X5.az [.int .i64 k5,.string (B n5),.int .i64 i5,.slice a5 cE cJ]:=(aw.weaken (fun b _ e=>by have:=HO.out b e;omega) _ _ gN).on dM;have VZ:=ba.size;obtain⟨Y,hY⟩:∃ Y,Y=w5.heap.size:=⟨_,rfl⟩;rw[<-hY]at So VZ;have HY:=ak hY;have Ju:=ak iF;have fD:=dO.kept kr;have Sh:=Rl.kept kr;have tL:=KT.kept kr;have wo:=hF.on kr;have jC:=jg.trans kr (fun _ _ e=>e.elim);have P0:=kr.cell p0 (fun x=>x);have P1:=kr.cell p1 (fun x=>x);have G6:=GR w6 _ (dj dg);clear iF hY gN dM MV GR m0 m1 m2 m3 p0 p1 t0 t1 t2 t3 o0 o1 o2 o3 x0 x1 f0 f1 f2 f3 xf0 xf1 hF;obtain⟨b0,b1,b2,b3⟩:=So.cells;go_upto_region 18 with fail;rw[<-HY.out,<-Ju.out];go_wp2_with fail
  (with_reducible refine G6.mono ?_);rintro e w7 ⟨rfl,cm⟩;have j4:=fD.kept cm;have Xr:=Sh.kept cm;have Ea:=tL.kept cm;have hF7:=wo.on cm;have VC:=So.kept cm;have og:=dg.on cm;have yt:=jC.trans cm (fun _ _ e=>e.elim);have Q0:=cm.cell P0 (fun x=>x);have Q1:=cm.cell P1 (fun x=>x);have hz7:wr.heap.size<=w7.heap.size:=Nat.le_trans kr.size cm.size;clear fD Sh tL wo So dg jC P0 P1 b0 b1 b2 b3 g0 g1 g2 g3 G6;obtain⟨x0,x1⟩:=Ea.cells;obtain⟨xf0,xf1⟩:=Ea.aq;obtain⟨g0,g1,g2,g3⟩:=j4.aq;have aoS:=j4.lt;by_cases hg:1048576<gr
  ·obtain⟨s0,s1,s2,s3⟩:=j4.cells;have xM:R=⟨5,Tm.aO,wj⟩:=by rw[HV.out.1,if_pos hg]
   have q3:=Ea.mu (.int .i64 5);have q4:af (fun b=>b=x) w7 (w7.setCell ⟨x,1,none⟩ (.int .i64 5)):=af.set (af.refl _ _) 1 _;have oF:=j4.ag q4 (by omega);have ah:=oF.set (d0:=.int .i64 0) (d1:=.string (B [])) (d2:=.int .i64 0) (d3:=.slice none 0 0);obtain⟨e0,e1,e2,e3⟩:=ah.1.cells;have dJ:=ak (And.intro e0 (And.intro e1 (And.intro e2 (And.intro e3 (And.intro ah.2 (And.intro q3 (And.intro q4 xM)))))));have gJ:¬x=H+1:=by omega
   clear xM q3 q4 e0 e1 e2 e3 ah;go_wp2_with fail;obtain⟨e0,e1,e2,e3,ah,q3,q4,xM⟩:=dJ.out;refine bodyPost_ret (v:=.agg #[.int .i64 0,.string (B []),.int .i64 0,.slice none 0 0]) ?_ rfl ?_
   ·simp[results,Tryz.f203,go_sem,e0,e1,e2,e3]
   rw[xM];exact⟨⟨⟨0,[],0,none,0,0,rfl,bD 0 [] 0⟩,q3.ag ah gJ⟩,(yt.trans q4 (fun _ _ e=>e)).trans ah (fun b hb e=>by have:=HH.out;omega)⟩
  have HG:=ak hg;have EF:decide (1048576<gr)=false:=by simpa using hg
  clear hg;go_upto_region 21 with fail;have hg:=HG.out;obtain⟨Ys,BY⟩:=HV.out.2.1 (by omega);have xM:R=Tm.ap (Tm.oI n) X5 ss[m].args us wj:=by rw[HV.out.1,if_neg (by omega)]
  obtain⟨Gu,BM,MM,EZ,Gf⟩:=Lr (aw.weaken (O:=fun b=>O b\/H<=b) (O':=fun b=>O b\/b=H\/b=H+1\/b=H+1+1) (fun b _ e=>e.elim .inl (fun e=>.inr (by omega))) _ _ Kf)
  have Lq:∀ s∈Gu,s.size<=4096:=fun s hs=>by
    have h1:=HP.out.2.2.1 _ (List.getElem_mem zQ);have h2:=Sm.aK hs;rw[BM,Sm.aM]at h1;omega
  have ML:Gu.length<=10000:=by
    have h1:=HP.out.2.2.1 _ (List.getElem_mem zQ);have h2:=Sm.aA Gu;rw[BM,Sm.aM]at h1;omega
  have MB:ss[m].args=Gu:=by rw[BM];rfl
  have JX:ss[m].args.length=Gu.length:=by rw[MB]
  rw[MB]at xM;rw[JX]at Q1 Kf MM EZ;have pR:=Tm.vh (fun d' t' w'=>Tm.sb n ms ss d' t' w') (fun d t w=>Nat.le_of_lt (Tm.yS n ms ss d t w)) d 5 ts 0 (w0+1);rw[HX.out.2.2.2.1]at pR;have R7:262145<=n+wj:=by have:=HP.out.1;have:=pR;simp only at this;omega
  have AP:=fun(W:World)(hu:af ae w7 W)=>
    nu n IH X5 Gu us sn wj x (fun b=>O b\/b=H\/b=H+1\/b=H+1+1) W k5 i5 n5 a5 cE cJ st Wn va vc R7 HA.out.2.1 Ys BY (by rw[HA.out.2.2];omega) ML (by rw[HA.out.2.2];exact fp) EZ (HX.out.2.2.1 (by first |rfl |trivial)) Lq (.inl hx)
      (fun b e=>by have:=HO.out b e;have:=hu.size;omega) (Ea.kept hu) (og.on hu) ((Gf.on (kr.and cm)).on hu) (hF7.on hu)
  rw[HA.out.2.2,<-xM]at AP;have hd7:af ae w7 w7.drew:=(af.refl ae w7).drew;have S7:QB Y H qU (so+m * 2) _ _ _ _ _ _ _ w7:=⟨VC.cells,Xr.cells.2.2.2,⟨Q0,Q1⟩⟩;have Sd:=S7.ag hd7 (fun x=>x) (fun x=>x) (fun x=>x);have UA:=AP w7.drew hd7;have B9:=j4.kept hd7;have aeM:¬qU=x:=fun e=>Jw (.inl (by rw[e];exact hx))
  have aaV:¬H<=qU:=fun e=>Jw (.inr e)
  have Lp:¬Y=x:=by omega
  have Mq:¬H+1+1=x:=by omega
  have nk3:¬H+1=x:=by omega
  have nr1:¬Y=H+1:=by omega
  have nr2:¬H+1+1=H+1:=by omega
  have nr3:¬qU=H+1:=by omega
  clear AP S7 VC Q0 Q1 j4 og hF7 Xr xM BM MM EZ Lq ML MB JX pR R7 Ys BY Gf Kf aaV;generalize Gu.length=stl at *
  go_region_held3 (fun w'=>QB Y H qU (so+m * 2) (.int .i64 k5) (.string (B n5)) (.int .i64 i5) (.slice a5 cE cJ) (.slice va j vc) (.string (B sn)) (.slice st stl Wn) w')
    (first |(with_reducible assumption)|(with_reducible exact Sd)|(with_reducible exact QB.kT S8 nr1 nr2 nr3 _ _ _ _))
    (first
      |((go_at_call 172);(with_reducible refine UA.mono ?_);rintro e w8 ⟨⟨⟨k8,n8,i8,a8,QS,QX,rfl,p8⟩,KQ⟩,cW⟩;have S8:=Sd.ag cW Lp Mq aeM;have oF:=B9.ag cW nk3;have c8:=oF.cells;have z8:=oF.aq;obtain⟨c80,c81,c82,c83⟩:=c8;obtain⟨z80,z81,z82,z83⟩:=z8))
  all_goals
    have ah:=oF.set (d0:=.int .i64 k8) (d1:=.string (B n8)) (d2:=.int .i64 i8) (d3:=.slice a8 QS QX);obtain⟨e0,e1,e2,e3⟩:=ah.1.cells;have dJ:=ak (And.intro e0 (And.intro e1 (And.intro e2 (And.intro e3 ah.2))));clear e0 e1 e2 e3 ah;go_wp2_with fail;obtain⟨e0,e1,e2,e3,ah⟩:=dJ.out;refine bodyPost_ret (v:=.agg #[.int .i64 k8,.string (B n8),.int .i64 i8,.slice a8 QS QX]) ?_ rfl ?_
    ·simp[results,Tryz.f203,go_sem,e0,e1,e2,e3]
    exact Bu p8 KQ ((yt.trans hd7 (fun _ _ e=>e.elim)).trans cW (fun _ _ e=>e)) ah HH.out Q7
theorem Gs(n:Nat):Hf n:=by
  induction n with
  |zero=>intro ms ss d t w0 x O w ma mc sa sc cs hn EO;omega
  |succ n ih=>exact Em n ih
end Go.Proofs.YthgmimncdjhgnaaGreatDoor
