/- BF jM.of: sU step. -/
import Derived.Test.YthgmimncdjhgnaaGreatDoorXED
import Derived.Deep.DeepCutAuto
set_option maxRecDepth 100000
set_option maxHeartbeats 16000000
namespace Go.Proofs.YthgmimncdjhgnaaGreatDoor
open Go.RowKit Go.LF
def eU(W:World)(g:Nat)(c0 c1 c2:Value)(T:TypeId):Prop:=W.heap[g]? =some (.cells #[c0,c1,c2] T (0,0))
section
variable {W W':World}{g b:Nat}{c0 c1 c2:Value}{T:TypeId}{S:Nat->Prop}
theorem eU.av(hb:W.heap.size=b):eU (W.alloc (.cells #[c0,c1,c2] T)) b c0 c1 c2 T:=by subst hb;exact heap_alloc_new W _
theorem eU.lt(h:eU W g c0 c1 c2 T):g<W.heap.size:=(Array.getElem?_eq_some_iff.1 h).1
theorem eU.cells(h:eU W g c0 c1 c2 T):W.cell? ⟨g,0,none⟩=some c0/\W.cell? ⟨g,1,none⟩=some c1/\W.cell? ⟨g,2,none⟩=some c2:=by unfold eU at h;refine⟨?_,?_,?_⟩<;>simp[World.cell?,h]
theorem eU.ag(h:eU W g c0 c1 c2 T)(hU:af S W W')(hS:¬S g):eU W' g c0 c1 c2 T:=(hU.block g h.lt hS).trans h
theorem eU.kept(h:eU W g c0 c1 c2 T)(hU:af ae W W'):eU W' g c0 c1 c2 T:=h.ag hU (fun x=>x)
end
theorem _root_.Go.LF.Tm.Ik(n:Nat)(ms:List Tm)(ss:List Sm)(d k:Int)(nm:List UInt8)(i:Int)(ts:List Tm)(w:Nat):Tm.sb (n+1) ms ss d (.mk k nm i ts) w=
    if 262144<w+1 then⟨2,Tm.aO,w+1⟩else
    if(Tm.eO (fun d' t' w'=>Tm.sb n ms ss d' t' w') d k 0 ts (w+1)).e=0 then
      Tm.ye (fun u s b w'=>Tm.sb n [u] [s] 0 b w') ms ss d k nm i (Tm.eO (fun d' t' w'=>Tm.sb n ms ss d' t' w') d k 0 ts (w+1)).ts (Tm.eO (fun d' t' w'=>Tm.sb n ms ss d' t' w') d k 0 ts (w+1)).w
    else⟨(Tm.eO (fun d' t' w'=>Tm.sb n ms ss d' t' w') d k 0 ts (w+1)).e,Tm.aO,(Tm.eO (fun d' t' w'=>Tm.sb n ms ss d' t' w') d k 0 ts (w+1)).w⟩:=by
  rw[Tm.sb];rfl
theorem yX:(Tryz.prog.info? 200).map (fun i=>(i.zero,i.size,i.bytes))=some (some (.agg #[.int .i64 0,.string (B []),.int .i64 0,.slice none 0 0,.int .i64 0,.int .i64 0]),6,72):=by kernel_rfl
abbrev NJ(H Y mb mo sb so:Nat)(s0 s1 s2 y0 y1 y2 y3 m4 m5 p0 p1:Value)(w':World):Prop:=
  (w'.cell? ⟨H,0,none⟩=some s0/\w'.cell? ⟨H,1,none⟩=some s1/\w'.cell? ⟨H,2,none⟩=some s2)/\
  (w'.cell? ⟨Y,0,none⟩=some y0/\w'.cell? ⟨Y,1,none⟩=some y1/\w'.cell? ⟨Y,2,none⟩=some y2/\w'.cell? ⟨Y,3,none⟩=some y3)/\
  (w'.cell? ⟨mb,mo+4,none⟩=some m4/\w'.cell? ⟨mb,mo+5,none⟩=some m5)/\(w'.cell? ⟨sb,so,none⟩=some p0/\w'.cell? ⟨sb,so+1,none⟩=some p1)
theorem NJ.ag{H Y mb mo sb so:Nat}{s0 s1 s2 y0 y1 y2 y3 m4 m5 p0 p1:Value}{w w':World}{S:Nat->Prop}(h:NJ H Y mb mo sb so s0 s1 s2 y0 y1 y2 y3 m4 m5 p0 p1 w)(hU:af S w w')(h1:¬S H)(h2:¬S Y)(h3:¬S mb)(h4:¬S sb):NJ H Y mb mo sb so s0 s1 s2 y0 y1 y2 y3 m4 m5 p0 p1 w':=
  ⟨⟨hU.cell h.1.1 h1,hU.cell h.1.2.1 h1,hU.cell h.1.2.2 h1⟩,⟨hU.cell h.2.1.1 h2,hU.cell h.2.1.2.1 h2,hU.cell h.2.1.2.2.1 h2,hU.cell h.2.1.2.2.2 h2⟩,⟨hU.cell h.2.2.1.1 h3,hU.cell h.2.2.1.2 h3⟩,⟨hU.cell h.2.2.2.1 h4,hU.cell h.2.2.2.2 h4⟩⟩
theorem NJ.Ac{H Y mb mo sb so r:Nat}{s0 s1 s2 y0 y1 y2 y3 m4 m5 p0 p1:Value}{w:World}(h:NJ H Y mb mo sb so s0 s1 s2 y0 y1 y2 y3 m4 m5 p0 p1 w)(h1:¬H=r)(h2:¬Y=r)(h3:¬mb=r)(h4:¬sb=r)(d0 d1 d2 d3 d4 d5:Value):
    NJ H Y mb mo sb so s0 s1 s2 y0 y1 y2 y3 m4 m5 p0 p1 ((((((w.setCell ⟨r,0,none⟩ d0).setCell ⟨r,1,none⟩ d1).setCell ⟨r,2,none⟩ d2).setCell ⟨r,3,none⟩ d3).setCell ⟨r,4,none⟩ d4).setCell ⟨r,5,none⟩ d5):=
  h.ag (S:=fun b=>b=r) (af.set (af.set (af.set (af.set (af.set (af.set (af.refl _ _) 0 _) 1 _) 2 _) 3 _) 4 _) 5 _) h1 h2 h3 h4
theorem uW(k i sz dp:Int)(n:List UInt8)(a:Option Addr)(len cap:Nat)(w:World)(h:¬(4096<sz\/128<dp)):
    Calls Tryz.prog 221 #[.agg #[.int .i64 k,.string (B n),.int .i64 i,.slice a len cap,.int .i64 sz,.int .i64 dp]] w fun e w'=>
      e=.returned (.agg #[.int .i64 k,.string (B n),.int .i64 i,.slice a len cap,.int .i64 sz,.int .i64 dp])/\af ae w w':=
  (sN k i sz dp n a len cap w).mono fun e w' hh=>⟨by rw[hh.1,if_neg h],hh.2⟩
theorem E1{O:Nat->Prop}{r R:Tm.gp}{W w W':World}{wk r0:Nat}{k i:Int}{n:List UInt8}{a:Option Addr}{len cap:Nat}(xG:R=r)(he:r.e=0)(lV:aw (fun b=>O b\/b=r0) W r.t.az [.int .i64 k,.string (B n),.int .i64 i,.slice a len cap])
    (hWk:im wk r.w W) (hU:af (fun b=>b=wk) w W) (ah:af (fun b=>b=r0) W W') (h1:w.heap.size<=r0) (h2:wk<w.heap.size):
    OA O R (.returned (.agg #[.int .i64 k,.string (B n),.int .i64 i,.slice a len cap,.int .i64 r.t.size,.int .i64 r.t.depth])) W'/\im wk R.w W'/\af (fun b=>b=wk) w W':=by
  subst xG;exact⟨.inl ⟨he,k,n,i,a,len,cap,rfl,aw.weaken (fun b _ e=>.inl e) _ _ (aw.ag ah (fun b e=>.inr e) _ _ lV)⟩,hWk.ag ah (by omega),hU.trans ah (fun b hb e=>by omega)⟩
theorem O2(n:Nat)(IH:Qt n):Qt (n+1):=by
  intro ms ss d t w0 wk O w ma mc sa sc cs hn EO mR NP jw Bj KJ qA qM zJ hO hW hM hS hR;obtain⟨k,nm,i,ts,ta,tc,rfl,rfl,EM,hT⟩:=aP hR;obtain⟨i0,hi,fS,gn,eH⟩:=info_parts yX;obtain⟨w1,aF⟩:∃ w1,w1=((w.alloc (.cells #[.pointer (some ⟨wk,0,none⟩),.slice ma ms.length mc,.slice sa ss.length sc] 213)).alloc (.cells #[.int .i64 k,.string (B nm),.int .i64 i,.slice ta ts.length tc] 29)).alloc (.cells #[.int .i64 0,.string (B []),.int .i64 0,.slice none 0 0,.int .i64 0,.int .i64 0] 200):=⟨_,rfl⟩;have aH:af ae w w1:=by rw[aF];exact(((af.refl ae w).alloc _).alloc _).alloc _
  have jI:eU w1 w.heap.size (.pointer (some ⟨wk,0,none⟩)) (.slice ma ms.length mc) (.slice sa ss.length sc) 213:=by rw[aF];exact((eU.av rfl).kept ((af.refl ae _).alloc _)).kept ((af.refl ae _).alloc _)
  have mN:au w1 (w.heap.size+1) (.int .i64 k) (.string (B nm)) (.int .i64 i) (.slice ta ts.length tc) 29:=by rw[aF];exact(au.av (by simp)).kept ((af.refl ae _).alloc _)
  have dK:bC w1 (w.heap.size+1+1) (.int .i64 0) (.string (B [])) (.int .i64 0) (.slice none 0 0) (.int .i64 0) (.int .i64 0) 200:=by rw[aF];exact bC.av (by simp)
  have Cs:w1.heap.size<=w.heap.size+3:=by rw[aF];simp
  have sg:=hW.kept aH;have ic:=(ai.aG _ _ _ _ hT).on aH;have Cd:=(ai.aG _ _ _ _ hM).on aH;have lW:=(ai.aG _ _ _ _ hS).on aH;have HW:=ak aF;obtain⟨H,hH⟩:∃ H,H=w.heap.size:=⟨_,rfl⟩;have HH:=ak hH;rw[<-hH]at jI mN dK ic Cd lW Cs;have j9:∀ b,O b->b<H:=by rw[hH];exact hO
  have hkH:wk<H:=j9 wk zJ;have HO:Hid (∀ b,(O b\/b=H\/b=H+1\/b=H+1+1)->b<H+3):=ak (fun b h=>by rcases h with h |h |h |h;(have:=j9 b h;omega);all_goals omega);have UC:=ak j9;have mX:H+3<=w1.heap.size:=by have:=dK.lt;omega
  have anM:=qM;have jh:ts.length<=4096:=by have h1:=qM.size;have h2:=Tm.aA ts;simp only[Tm.aM]at h1;omega
  have hdk:d<=1048576:=by omega
  obtain⟨R,iR⟩:∃ R,R=Tm.sb (n+1) ms ss d (.mk k nm i ts) w0:=⟨_,rfl⟩;rw[<-iR];rw[Tm.Ik]at iR;obtain⟨tl,vR⟩:∃ tl,tl=ts.length:=⟨_,rfl⟩;obtain⟨ml,jk⟩:∃ ml,ml=ms.length:=⟨_,rfl⟩;obtain⟨sl,gH⟩:∃ sl,sl=ss.length:=⟨_,rfl⟩;rw[<-vR,<-jk,<-gH];rw[<-vR]at mN jh;rw[<-jk,<-gH]at jI mR;rw[<-jk]at NP;rw[<-vR,<-jk,<-gH]at HW;subst mR;have HL:=ak (And.intro vR (And.intro jk gH));have HP:=ak (And.intro hn (And.intro jw (And.intro Bj (And.intro qM qA))));have Vt:(ml:Int)<=10000:=by omega
  have agP:(0:Int)<=(ml:Int):=by omega
  have TC:(tl:Int)<=4096:=by omega
  have ain:(0:Int)<=(tl:Int):=by omega
  have eh:(w0:Int)<=262144:=by omega
  have gT:(0:Int)<=(w0:Int):=by omega
  have m9:=aH;have hcw:=sg.cell;have hfw:=sg.frozen;have hWs:=sg.set (w0+1);have sS:af (fun b=>b=wk) w1 (w1.setCell ⟨wk,0,none⟩ (.int .i64 ((w0+1:Nat):Int))):=af.set (af.refl _ _) 0 _;rw[show((w0+1:Nat):Int)=(w0:Int)+1 by omega]at hWs sS;have Y3:=ak (And.intro hWs sS);clear aF hW hR hT hM hS hH hO j9 hn jw Bj qM qA vR jk gH aH hWs sS;obtain⟨s0,s1,s2⟩:=jI.cells;have rL:=dK.lt;go_enter Tryz.func210,Tryz.ntmps210;go_upto_region 1 with fail;rw[<-show B []={ data:=#[] }from rfl,<-HW.out,<-HH.out];by_cases rQ:(262144:Int)<(w0:Int)+1
  ·have uw:R=⟨2,Tm.aO,w0+1⟩:=by rw[iR,if_pos (by omega)]
   have LI:=ak uw;clear iR uw;go_wp2_with fail;exact⟨rfl,.inr ⟨by rw[LI.out];simp,by rw[LI.out];rfl⟩,by rw[LI.out];exact Y3.out.1,(m9.mono (fun _ _ x=>x.elim)).trans Y3.out.2 (fun _ _ e=>e)⟩
  rw[if_neg (by omega)]at iR;have Ke:=ak iR;clear iR;obtain⟨w2,dY⟩:∃ w2,w2=w1.setCell ⟨wk,0,none⟩ (.int .i64 ((w0:Int)+1)):=⟨_,rfl⟩;obtain⟨x6,aL⟩:=Y3.out;rw[<-dY]at x6 aL;have iD:=mN.ag aL (by omega);obtain⟨t0,t1,t2,t3⟩:=iD.cells;go_upto_region 4 with fail;rw[<-dY];clear dY sg hcw hfw;have te:(d:Int)<=1048576:=hdk;go_wp2_with fail
  go_loopw [7,29] (fun v7 v29 wr=>∃(j:Nat)(us:List Tm)(wj:Nat)(css:List (List Value)),v29=.int .i64 (j:Int)/\j<=tl/\
      (Tm.eO (fun d' t' w'=>Tm.sb n ms ss d' t' w') d k 0 (ts.take j) (w0+1)=⟨0,us,wj⟩/\wj<=262144/\us.length=j)/\cS 200 6 (fun b=>O b\/b=H\/b=H+1\/b=H+1+1) (H+3) wr v7 (us.map iK) css/\im wk wj wr/\af (fun b=>b=wk) w1 wr)
    (fun _ v29 _=>tl - (intOf v29).toNat)
  case atStart=>exact⟨0,[],w0+1,[],rfl,Nat.zero_le _,⟨rfl,by omega,rfl⟩,cS.nil _ _ _ _ _,x6,aL⟩
  clear x6 aL iD t0 t1 t2 t3;obtain⟨j,us,wj,css,rfl,hj,⟨hA,Ex,cZ⟩,hD,EU,hU⟩:=hrel;have iD:=mN.ag hU (by omega);have Ie:=jI.ag hU (by omega);obtain⟨t0,t1,t2,t3⟩:=iD.cells;obtain⟨s0,s1,s2⟩:=Ie.cells;have q1:=iD.lt;have q2:=Ie.lt;have u2:(j:Int)<=4096:=by omega
  have u3:(0:Int)<=(j:Int):=by omega
  have HA:=ak (And.intro hA (And.intro Ex cZ));clear hA Ex cZ;by_cases aB:j<tl
  ·have Qe:j<ts.length:=by rw[<-HL.out.1];exact aB
   have u4:(j:Int)<(tl:Int):=by omega
   obtain⟨eb,eo,ek,en,ei,es,ec,rfl,mz,K9,p0,p1,p2,p3,eY⟩:=aY (ai.ag hU (fun b e=>.inl (by rw[e];exact zJ)) _ _ _ _ ic) j Qe;have qM:=(HP.out.2.2.2.1).arg j Qe;have Q4:=Tm.lY (fun d' t' w'=>Tm.sb n ms ss d' t' w') d k ts;have dw:=Tm.lu (fun d' t' w'=>Tm.sb n ms ss d' t' w') d k ts (w0+1) j Qe (by rw[HA.out.1]);rw[HA.out.1]at dw;have pR:=Tm.vh (fun d' t' w'=>Tm.sb n ms ss d' t' w') (fun d t w=>Nat.le_of_lt (Tm.yS n ms ss d t w)) d k (ts.take j) 0 (w0+1);rw[HA.out.1]at pR;have qx:0<=Tm.under k j/\Tm.under k j<=1:=by unfold Tm.under;split<;>omega
   have KA:=fun(W:World)(hu:af ae wr W)=>IH ms ss (d+Tm.under k j) ts[j] wj wk (fun b=>(O b\/b=H\/b=H+1\/b=H+1+1)\/u7.ownBlock=some b) W ma mc sa sc _ (by have:=HP.out.1;have:=pR;simp only at this;omega) HA.out.2.1 (HL.out.2.1.symm.trans HL.out.2.2) (by rw[<-HL.out.2.1];exact NP) HP.out.2.1 HP.out.2.2.1 (by omega) (by have:=HP.out.2.2.2.2;have:=qM.2;omega) qM.1 (.inl (.inl zJ))
     (fun b e=>by have z1:=hu.size;have z2:=hU.size;rcases e with e |e;(have:=HO.out b e;omega);(have:=(hD.2.2.1.lt b e).2;omega)) (EU.kept hu) ((ai.weaken (fun b _ e=>e.elim (fun e=>e.elim .inl (fun e=>.inr (by omega))) (fun e=>.inr (by have:=(hD.2.2.1.lt b e).1;omega))) _ _ _ _ (ai.ag hU (fun b e=>.inl (by rw[e];exact zJ)) _ _ _ _ Cd)).on hu) ((ai.weaken (fun b _ e=>e.elim (fun e=>e.elim .inl (fun e=>.inr (by omega))) (fun e=>.inr (by have:=(hD.2.2.1.lt b e).1;omega))) _ _ _ _ (ai.ag hU (fun b e=>.inl (by rw[e];exact zJ)) _ _ _ _ lW)).on hu)
     ((aw.weaken (fun b _ e=>e.elim (fun e=>e.elim .inl (fun e=>.inr (by omega))) (fun e=>.inr (by have:=(hD.2.2.1.lt b e).1;omega))) _ _ eY).on hu)
   rw[<-HL.out.2.1,<-HL.out.2.2]at KA;have mO:=Tm.uq n ms ss (d+Tm.under k j) ts[j] wj HA.out.2.1;simp only at dw;generalize ts[j].args.length=el at *
   generalize Tm.sb n ms ss (d+Tm.under k j) ts[j] wj=rs at *
   have jZ:=ak (And.intro dw mO);obtain⟨un,Gb⟩:∃ un,un=Tm.under k j:=⟨_,rfl⟩;rw[<-Gb]at KA qx;have HUN:=ak Gb;obtain⟨afB,afx⟩:=qx;clear dw mO pR Q4 qM eY Gb;go_upto_region 8 with fail;obtain⟨w4,eh⟩:∃ w4,w4=wr.alloc (.cells #[.int .i64 ek,.string (B en),.int .i64 ei,.slice es el ec] 29):=⟨_,rfl⟩;have bw:af ae wr w4:=by rw[eh];exact(af.refl ae _).alloc _
   have C7:au w4 wr.heap.size (.int .i64 ek) (.string (B en)) (.int .i64 ei) (.slice es el ec) 29:=by rw[eh];exact au.av rfl
   have Ib:=iD.kept bw;have Bv:=Ie.kept bw;have XY:=EU.kept bw;have Mb:=hD.on bw HO.out;obtain⟨X,hX⟩:∃ X,X=wr.heap.size:=⟨_,rfl⟩;rw[<-eh,<-hX];rw[<-hX]at C7;have HX:=ak hX;have U9:=KA w4 bw;clear eh p0 p1 p2 p3 t0 t1 t2 t3 s0 s1 s2 KA hX;obtain⟨t0,t1,t2,t3⟩:=Ib.cells;obtain⟨s0,s1,s2⟩:=Bv.cells;obtain⟨x0,x1,x2,x3⟩:=C7.cells;go_upto_region 9 with fail;go_cut [46]from 35 to 46 (fun v46 wx=>v46=.bool (un == 1)/\w4=wx)
   case first=>
     rcases jW k j with⟨a1,a4⟩|⟨a1,a2,a3,a4⟩|⟨a1,a2,a3,a4⟩|⟨a1,a2,a4⟩
     all_goals
       have HU9:=ak (HUN.out.trans a4);clear a4;go_wp2_with fail;go_meet
     all_goals exact⟨by rw[HU9.out];rfl,rfl⟩
   obtain⟨rfl,rfl⟩:=hcut;obtain⟨c,hc⟩:∃ c,c=(un == 1):=⟨_,rfl⟩
   have abJ:un=if c then 1 else 0:=by
     have:un=0\/un=1:=by omega
     rcases this with h |h<;>rw[hc,h]<;>rfl
   rw[<-hc];have HC:=ak abJ;clear hc abJ;go_upto_if 46 with fail
   go_cut [10] (fun v10 wx=>v10=.int .i64 (d+un)/\w4=wx)
   case first=>
     clear U9;cases c
     ·go_wp2_with fail;go_meet
      exact⟨by rw[HC.out];simp,rfl⟩
     go_wp2_with fail;go_meet
     exact⟨by rw[HC.out];rfl,rfl⟩
   obtain⟨rfl,rfl⟩:=hcut;clear HC c;by_cases he:rs.e=0
   ·have HE:=ak he;clear he;go_wp2_with fail;refine U9.mono ?_;rintro e w5 ⟨lS,hW5,ba⟩;obtain⟨k5,n5,i5,a5,cE,cJ,rfl,gN⟩:=lS.ok HE.out;have hD5:=Mb.ag ba (fun b e=>.inl (by rw[e];exact zJ)) HO.out;have cK:af ae w5 (w5.alloc (.cells #[.int .i64 k5,.string (B n5),.int .i64 i5,.slice a5 cE cJ,.int .i64 rs.t.size,.int .i64 rs.t.depth] 200)):=(af.refl ae _).alloc _;have Sz:=hD5.on cK HO.out;have fE:(us.map iK).length=j:=by rw[List.length_map];exact HA.out.2.2
    have bq:=Sz.2.2.1;rw[fE]at bq;have U8:=ak fE;have hz5:H+3<=w5.heap.size:=by have:=hU.size;have:=bw.size;have:=ba.size;omega
    clear fE x0 x1 x2 x3 t0 t1 t2 t3 s0 s1 s2 U9;go_wp2_with (at_builtin;go_loud (refine wpList_append_lies _ (by rfl) _ _ 201 (by rfl) (H+3) 200 i0 (.agg #[.int .i64 0,.string (B []),.int .i64 0,.slice none 0 0,.int .i64 0,.int .i64 0]) 6 72 (by kernel_rfl) hi fS gn eH rfl (by omega) u7 j css.flatten (by rfl) bq ⟨w5.heap.size,0,none⟩ 1 1 [.int .i64 k5,.string (B n5),.int .i64 i5,.slice a5 cE cJ,.int .i64 rs.t.size,.int .i64 rs.t.depth] rfl rfl (World.news_of_block (heap_alloc_new w5 _)) (by simp[Value.oneCell']) (by omega) (by simp only[maxLen];omega) (by omega) (by simp;omega) (w5.heap.size+1) (by simp) ?_);intro g aS w7 DH aN ft xY)
    have A8:aw (fun b=>(O b\/b=H\/b=H+1\/b=H+1+1)\/u7.ownBlock=some b) (w5.alloc (.cells #[.int .i64 k5,.string (B n5),.int .i64 i5,.slice a5 cE cJ,.int .i64 rs.t.size,.int .i64 rs.t.depth] 200)) (iK rs.t) [.int .i64 k5,.string (B n5),.int .i64 i5,.slice a5 cE cJ,.int .i64 rs.t.size,.int .i64 rs.t.depth]:=vV.2 ⟨gN.on cK,rfl,rfl⟩;have gE:w7.ownsRow (H+3) 200 6 (.slice (some ⟨g,0,none⟩) ((us.map iK).length+1) aS) ((us.map iK).length+1) (css.flatten++[.int .i64 k5,.string (B n5),.int .i64 i5,.slice a5 cE cJ,.int .i64 rs.t.size,.int .i64 rs.t.depth]):=by rw[U8.out];exact DH
    have lL:=Sz.appended (d:=iK rs.t) rfl A8 gE aN ft (by simp);rw[U8.out]at lL;have fl:=Sz.upto aN;have kK:=jZ.out.1;rw[if_pos HE.out]at kK;have hAn:Tm.eO (fun d' t' w'=>Tm.sb n ms ss d' t' w') d k 0 (ts.take (j+1)) (w0+1)=⟨0,us++[rs.t],rs.w⟩/\rs.w<=262144/\(us++[rs.t]).length=j+1:=⟨kK,jZ.out.2 HE.out,by rw[List.length_append,HA.out.2.2];rfl⟩;have Pp:us.map iK++[iK rs.t]=(us++[rs.t]).map iK:=by simp
    rw[Pp]at lL;have jz:af (fun b=>b=wk) w1 w7:=(((hU.trans bw (fun _ _ e=>e.elim)).trans ba (fun _ _ e=>e)).trans cK (fun _ _ e=>e.elim)).trans fl (fun b hb e=>by omega);have hWn:im wk rs.w w7:=(hW5.kept cK).ag fl (by omega);have HN:=ak (And.intro hAn (And.intro lL (And.intro hWn jz)));clear kK hAn lL fl Pp jz hWn A8 gE;go_wp2_with fail;go_roundw;case rel=>exact⟨j+1,us++[rs.t],rs.w,_,by go_num,by omega,HN.out.1,HN.out.2.1,HN.out.2.2.1,HN.out.2.2.2⟩
    simp[intOf];omega
   have uw:R=⟨rs.e,Tm.aO,rs.w⟩:=by
     have h1:=jZ.out.1;rw[if_neg he]at h1;have h2:=Tm.vG (fun d' t' w'=>Tm.sb n ms ss d' t' w') d k ts (w0+1) (j+1) (by rw[h1];exact he);rw[Ke.out,h2,h1,if_neg he]
   have LI:=ak (And.intro uw he);clear he uw;go_wp2_with fail;refine U9.mono ?_;rintro e w5 ⟨lS,hW5,ba⟩;obtain rfl:=lS.bad LI.out.2;unfold mY;go_wp2_with fail;exact⟨rfl,.inr ⟨by rw[LI.out.1];exact LI.out.2,by rw[LI.out.1];rfl⟩,by rw[LI.out.1];exact hW5,(((m9.mono (fun _ _ x=>x.elim)).trans hU (fun _ _ e=>e)).trans bw (fun _ _ e=>e.elim)).trans ba (fun _ _ e=>e)⟩
  have b7:j=tl:=by omega
  subst b7;have eQ:ts.take j=ts:=List.take_of_length_le (by rw[<-HL.out.1];exact Nat.le_refl _);have hA:=HA.out.1;rw[eQ]at hA;have o8:=Ke.out;rw[hA]at o8;simp only[if_true]at o8;obtain⟨va,vc,Ru,fp,hF⟩:=hD.rep HO.out;rw[List.length_map,HA.out.2.2]at fp Ru;subst Ru;have A2:=Tm.zq (fun d' t' w'=>Tm.sb n ms ss d' t' w') (fun d t w=>Tm.Cm n ms ss d t w) d k ts 0 (w0+1);rw[hA]at A2
  have UI:=fun(h5:k=5)=>Tm.uK (fun d' t' w'=>Tm.sb n ms ss d' t' w') d k KJ d ts (fun d' t w a b c=>Tm.oD n ms ss d' t w HP.out.2.1 a (by
    have h1:=Tm.bz c;have h2:=HP.out.2.2.2.2;simp only[Tm.cD]at h2;omega) (Tm.me (((Tm.Ar _ _ _ _).1 HP.out.2.2.2.1.vars).1 h5) t c)) (Int.le_refl _) 0 (w0+1)
  rw[hA]at UI
  have WG:Tm.aD us<=1000000000000:=by
    have h1:=Tm.nB 4096 us (fun u hu=>Tm.fA (A2 u hu));rw[HA.out.2.2]at h1;have:4096 * j<=4096 * 4096:=Nat.mul_le_mul_left _ jh;omega
  have ZM:us.length<=100000:=by rw[HA.out.2.2];omega
  have tP:=((Tm.uH HP.out.2.2.2.1.ok));have gM:=dK.ag hU (by omega);have jg:af (fun b=>b=wk) w wr:=(m9.mono (fun _ _ x=>x.elim)).trans hU (fun _ _ e=>e);have ND:=fun(i':Int)(W:World)(hu:af ae wr W)(ha:Option Addr)(hb hc:Nat)=>CW us ZM WG k i' nm ha hb hc (fun b=>O b\/b=H\/b=H+1\/b=H+1+1) W (fun b e=>by have:=HO.out b e;have:=hU.size;have:=hu.size;omega) va vc wj (hF.on hu)
  rw[HA.out.2.2]at ND;have HX:=ak (And.intro o8 (And.intro A2 (And.intro UI hA)));clear o8 A2 UI hA eQ ZM WG hD fp;have hHw:w.heap.size<=H+1+1:=by rw[<-HH.out];omega
  have hkw:wk<w.heap.size:=by rw[<-HH.out];exact hkH
  by_cases Ah:k=5/\d<=i
  case neg=>
    have xM:R=Tm.jo (.mk k nm i us) wj:=by rw[HX.out.1];unfold Tm.ye;rw[if_neg Ah]
    have N:=ND i wr (af.refl _ _) ta j tc;obtain⟨rc,ln⟩:∃ rc,rc=Tm.jo (.mk k nm i us) wj:=⟨_,rfl⟩;rw[<-ln]at N xM;have OL:rc.w=wj:=by rw[ln];exact Tm.pv _ _
    have J6:=ak (And.intro xM OL)
    have cV:((k !=5)=true)\/(k=5/\i<d):=by
      by_cases h5:k=5
      ·right;exact⟨h5,by have:=fun h=>Ah ⟨h5,h⟩;omega⟩
      left;simpa using h5
    clear xM ln OL Ah ND;by_cases he:rc.e=0
    ·have HE:=ak he;clear he;rcases cV with rV |⟨rfl,ZF⟩
     case' inr=>
       have Kz:=tP rfl;have Um:IntKind.i64.wrap (i - d)=i - d:=Go.IntWalk.i64_in _ (by omega);have Zy:i - d<0:=by omega
     all_goals
       go_wp2_with fail
       (with_reducible refine N.mono ?_);rintro e w5 ⟨lS,ba⟩;obtain⟨k5,n5,i5,a5,cE,cJ,rfl,gN⟩:=lS.ok HE.out;have dR:=gM.kept ba;obtain⟨y0,y1,y2,y3,y4,y5⟩:=dR.cells;obtain⟨z0,z1,z2,z3,z4,z5⟩:=dR.aq;have ah:=dR.set (d0:=.int .i64 k5) (d1:=.string (B n5)) (d2:=.int .i64 i5) (d3:=.slice a5 cE cJ) (d4:=.int .i64 rc.t.size) (d5:=.int .i64 rc.t.depth);obtain⟨e0,e1,e2,e3,e4,e5⟩:=ah.1.cells;have dJ:=ak (And.intro e0 (And.intro e1 (And.intro e2 (And.intro e3 (And.intro e4 (And.intro e5 ah.2))))));clear e0 e1 e2 e3 e4 e5 ah;go_wp2_with fail;obtain⟨e0,e1,e2,e3,e4,e5,ah⟩:=dJ.out;refine bodyPost_ret (v:=.agg #[.int .i64 k5,.string (B n5),.int .i64 i5,.slice a5 cE cJ,.int .i64 rc.t.size,.int .i64 rc.t.depth]) ?_ rfl ?_
       ·simp[results,Tryz.f210,go_sem,e0,e1,e2,e3,e4,e5]
       exact E1 J6.out.1 HE.out (aw.weaken (fun b _ e=>e.elim .inl (fun e=>.inr (.inr (.inr e)))) _ _ gN) (by rw[J6.out.2];exact EU.kept ba) (jg.trans ba (fun _ _ e=>e.elim)) ah hHw hkw
    have HE:=ak he;clear he;rcases cV with rV |⟨rfl,ZF⟩
    case' inr=>
      have Kz:=tP rfl;have Um:IntKind.i64.wrap (i - d)=i - d:=Go.IntWalk.i64_in _ (by omega);have Zy:i - d<0:=by omega
    all_goals
      go_wp2_with fail
      (with_reducible refine N.mono ?_);rintro e w5 ⟨lS,ba⟩;obtain rfl:=lS.bad HE.out;unfold mY;go_wp2_with fail;exact⟨rfl,.inr ⟨by rw[J6.out.1];exact HE.out,by rw[J6.out.1];rfl⟩,by rw[J6.out.1,J6.out.2];exact EU.kept ba,jg.trans ba (fun _ _ e=>e.elim)⟩
  obtain⟨rfl,OS⟩:=Ah;obtain⟨Kz,zD⟩:=tP rfl;obtain⟨m,hm⟩:∃ m:Nat,i - d=(m:Int):=⟨(i - d).toNat,by omega⟩;have Um:IntKind.i64.wrap (i - d)=(m:Int):=by rw[<-hm];exact Go.IntWalk.i64_in _ (by omega)
  have pf:(0:Int)<=(m:Int):=by omega
  have qp:¬(m:Int)<0:=by omega
  have GJ:(m:Int)<=1048576:=by omega
  have Tt:(i - d).toNat=m:=by omega
  have HM:=ak (And.intro hm (And.intro Tt OS));clear hm Tt OS tP;by_cases Me:(m:Int)<(ml:Int)
  case neg=>
    have xM:R=Tm.jo (.mk 5 nm (i - (ml:Int)) us) wj:=by
      rw[HX.out.1];unfold Tm.ye;rw[if_pos ⟨rfl,HM.out.2.2⟩,if_neg (by rw[HM.out.1,<-HL.out.2.1];exact Me),HL.out.2.1]
    have ao2:(ml:Int)<=(m:Int):=by omega
    have dd:af (fun b=>b=H+1) wr (wr.setCell ⟨H+1,2,none⟩ (.int .i64 (i - (ml:Int)))):=af.set (af.refl _ _) 2 _;have xI:=ai.ag dd (fun b e=>.inr (.inr (.inl e))) _ _ _ _ hF
    have N:=CW us (by rw[HA.out.2.2];omega) (by
      have h1:=Tm.nB 4096 us (fun u hu=>Tm.fA (HX.out.2.1 u hu));rw[HA.out.2.2]at h1;have:4096 * j<=4096 * 4096:=Nat.mul_le_mul_left _ jh;omega) 5 (i - (ml:Int)) nm ta j tc (fun b=>O b\/b=H\/b=H+1\/b=H+1+1) (wr.setCell ⟨H+1,2,none⟩ (.int .i64 (i - (ml:Int)))) (fun b e=>by have:=HO.out b e;have:=hU.size;have:=dd.size;omega) va vc wj xI
    rw[HA.out.2.2]at N;obtain⟨rc,ln⟩:∃ rc,rc=Tm.jo (.mk 5 nm (i - (ml:Int)) us) wj:=⟨_,rfl⟩;rw[<-ln]at N xM;have OL:rc.w=wj:=by rw[ln];exact Tm.pv _ _
    have J6:=ak (And.intro xM OL);have oF:=gM.ag dd (by omega);have R0:=EU.ag dd (by omega);have cW:=jg.trans dd (S:=fun b=>b=wk) (fun b hb e=>by have:=HH.out;omega);have HWU:=ak (And.intro R0 cW);have z2:=iD.aq.2.2.1;have ahK:IntKind.i64.wrap (i - (ml:Int))=i - (ml:Int):=Go.IntWalk.i64_in _ (by omega);clear xM ln OL ND xI dd R0 cW;by_cases he:rc.e=0
    ·have HE:=ak he;clear he;go_wp2_with fail
     (with_reducible refine N.mono ?_);rintro e w5 ⟨lS,ba⟩;obtain⟨k5,n5,i5,a5,cE,cJ,rfl,gN⟩:=lS.ok HE.out;have dR:=oF.kept ba;obtain⟨y0,y1,y2,y3,y4,y5⟩:=dR.cells;obtain⟨z0,z1,z2,z3,z4,z5⟩:=dR.aq;have ah:=dR.set (d0:=.int .i64 k5) (d1:=.string (B n5)) (d2:=.int .i64 i5) (d3:=.slice a5 cE cJ) (d4:=.int .i64 rc.t.size) (d5:=.int .i64 rc.t.depth);obtain⟨e0,e1,e2,e3,e4,e5⟩:=ah.1.cells;have dJ:=ak (And.intro e0 (And.intro e1 (And.intro e2 (And.intro e3 (And.intro e4 (And.intro e5 ah.2))))));clear e0 e1 e2 e3 e4 e5 ah;go_wp2_with fail;obtain⟨e0,e1,e2,e3,e4,e5,ah⟩:=dJ.out;refine bodyPost_ret (v:=.agg #[.int .i64 k5,.string (B n5),.int .i64 i5,.slice a5 cE cJ,.int .i64 rc.t.size,.int .i64 rc.t.depth]) ?_ rfl ?_
     ·simp[results,Tryz.f210,go_sem,e0,e1,e2,e3,e4,e5]
     exact E1 J6.out.1 HE.out (aw.weaken (fun b _ e=>e.elim .inl (fun e=>.inr (.inr (.inr e)))) _ _ gN) (by rw[J6.out.2];exact HWU.out.1.kept ba) (HWU.out.2.trans ba (fun _ _ e=>e.elim)) ah hHw hkw
    have HE:=ak he;clear he;go_wp2_with fail
    (with_reducible refine N.mono ?_);rintro e w5 ⟨lS,ba⟩;obtain rfl:=lS.bad HE.out;unfold mY;go_wp2_with fail;exact⟨rfl,.inr ⟨by rw[J6.out.1];exact HE.out,by rw[J6.out.1];rfl⟩,by rw[J6.out.1,J6.out.2];exact HWU.out.1.kept ba,HWU.out.2.trans ba (fun _ _ e=>e.elim)⟩
  have FI:m<ms.length:=by rw[<-HL.out.2.1];omega
  have zQ:m<ss.length:=by rw[<-HL.out.2.2];omega
  obtain⟨mb,mo,mk',mn,mi,msl,mc',rfl,Vr,WL,m0,m1,m2,m3,m4,m5,tC⟩:=wg (ai.ag hU (fun b e=>.inl (by rw[e];exact zJ)) _ _ _ _ Cd) m FI;obtain⟨qU,so,sn,st,Wn,rfl,Q4,Jw,p0,p1,Kf⟩:=kV (ai.ag hU (fun b e=>.inl (by rw[e];exact zJ)) _ _ _ _ lW) m zQ;obtain⟨Ny,oZ⟩:=HP.out.2.1 _ (List.getElem_mem FI);have MJ:=Tm.jq Ny oZ;have CY:=Tm.rZ ms[m] MJ d 0 KJ te (by omega) (by omega)
  have pU:ms[m].ey d 0=if 1048576<Tm.fI (Tm.mv (Tm.jU d 0) 0 ms[m])then 5 else 0:=by
    unfold Tm.ey;rw[if_neg (by rw[MJ];simp),if_neg (by omega)];by_cases hg:1048576<Tm.fI (Tm.mv (Tm.jU d 0) 0 ms[m])
    ·rw[if_pos hg,if_neg (fun h=>by have:=CY.2.2 h;omega)]
    rw[if_neg hg,if_pos (CY.2.1 (by omega))]
  have SH:=fun(W:World)(cs9:List Value)(h9:aw ae W ms[m].az cs9)=>zM ms[m] (by have:=Tm.lT Ny oZ;omega) d 0 W cs9 h9
  have yr:R=if 1048576<Tm.fI (Tm.mv (Tm.jU d 0) 0 ms[m])then⟨5,Tm.aO,wj⟩else Tm.ap (Tm.oI n) (Tm.mv (Tm.jU d 0) 0 ms[m]) ss[m].args us wj:=by
    rw[HX.out.1];unfold Tm.ye;rw[if_pos ⟨rfl,HM.out.2.2⟩,if_pos (by rw[HM.out.1,<-HL.out.2.1];exact Me),HM.out.2.1];simp only[List.getD_eq_getElem?_getD,List.getElem?_eq_getElem FI,List.getElem?_eq_getElem zQ,Option.getD_some]
  have kK:1048576<Tm.fI (Tm.mv (Tm.jU d 0) 0 ms[m])\/ms[m].fh d 0=Tm.mv (Tm.jU d 0) 0 ms[m]:=by
    by_cases hg:1048576<Tm.fI (Tm.mv (Tm.jU d 0) 0 ms[m])
    ·exact .inl hg
    right;unfold Tm.fh;rw[pU,if_neg hg,if_pos rfl,CY.1]
  by_cases hg:1048576<Tm.fI (Tm.mv (Tm.jU d 0) 0 ms[m])
  ·rw[if_pos hg]at pU yr;rw[pU]at SH;have HRv:=ak yr;have qG:¬(ml:Int)<=(m:Int):=by omega
   have HLM:=ak Me;clear yr pU kK hg CY ND Me;generalize ms[m].fh d 0=X5 at *
   generalize ms[m].args.length=el at *
   generalize ms[m].size=ez at *
   generalize ms[m].depth=ed at *
   go_wp2_with fail
   (with_reducible refine(SH _ _ (dj tC)).mono ?_);rintro e w5 ⟨k5,i5,n5,a5,cE,cJ,rfl,gN,ba⟩;go_wp2_with fail;exact⟨rfl,.inr ⟨by rw[HRv.out];simp,by rw[HRv.out];rfl⟩,by rw[HRv.out];exact(EU.kept ba).kept ((af.refl ae _).alloc _),(jg.trans ba (fun _ _ e=>e.elim)).alloc _⟩
  rw[if_neg hg]at pU yr;have Zc:ms[m].fh d 0=Tm.mv (Tm.jU d 0) 0 ms[m]:=kK.resolve_left hg;rw[pU,Zc]at SH;have Yv:=Tm.E2 Ny oZ d KJ te hg;have ace:(Tm.mv (Tm.jU d 0) 0 ms[m]).small=true:=by rw[Tm.xy];exact oZ
  obtain⟨Gu,BM,MM,EZ,Gf⟩:=Lr (aw.weaken (O:=fun b=>O b\/H<=b) (O':=fun b=>O b\/b=H\/b=H+1\/b=H+1+1) (fun b _ e=>e.elim .inl (fun e=>.inr (by omega))) _ _ Kf)
  have Lq:∀ s∈Gu,s.size<=4096:=fun s hs=>by
    have h1:=HP.out.2.2.1 _ (List.getElem_mem zQ);have h2:=Sm.aK hs;rw[BM,Sm.aM]at h1;omega
  have ML:Gu.length<=10000:=by
    have h1:=HP.out.2.2.1 _ (List.getElem_mem zQ);have h2:=Sm.aA Gu;rw[BM,Sm.aM]at h1;omega
  have MB:ss[m].args=Gu:=by rw[BM];rfl
  have JX:ss[m].args.length=Gu.length:=by rw[MB]
  rw[MB]at yr;rw[JX]at p1 Kf MM EZ;have pR:=Tm.vh (fun d' t' w'=>Tm.sb n ms ss d' t' w') (fun d t w=>Nat.le_of_lt (Tm.yS n ms ss d t w)) d 5 ts 0 (w0+1);rw[HX.out.2.2.2]at pR;have R7:262145<=n+wj:=by have:=HP.out.1;have:=pR;simp only at this;omega
  have AP:=fun(W:World)(k5 i5:Int)(n5:List UInt8)(a5:Option Addr)(cE cJ:Nat)(hu:af ae wr W)(hR:aw (fun b=>O b\/b=H\/b=H+1\/b=H+1+1) W (Tm.mv (Tm.jU d 0) 0 ms[m]).az [.int .i64 k5,.string (B n5),.int .i64 i5,.slice a5 cE cJ])=>
    y8 n IH (Tm.mv (Tm.jU d 0) 0 ms[m]) Gu us sn wj wk (fun b=>O b\/b=H\/b=H+1\/b=H+1+1) W k5 i5 n5 a5 cE cJ st Wn va vc R7 HA.out.2.1 Yv ace (by rw[HA.out.2.2];omega) ML EZ (HX.out.2.2.1 rfl) Lq (.inl zJ)
      (fun b e=>by have:=HO.out b e;have:=hU.size;have:=hu.size;omega) (EU.kept hu) hR (Gf.on hu) (hF.on hu)
  rw[HA.out.2.2]at AP;simp only[Tm.uv,Tm.xF]at AP;rw[<-yr]at AP
  have YM:R.e=0->R.t.small=true:=by
    intro h;rw[yr]at h ⊢;unfold Tm.ap at h ⊢;split
    ·rename_i hl;rw[if_pos hl]at h;exact Tm.rN _ _ _ _ _ h
    rename_i hl;rw[if_neg hl]at h;simp at h
  have qG:¬(ml:Int)<=(m:Int):=by omega
  have HLM:=ak Me;have ape:mb<H:=by have:=fun h=>WL (.inr h);omega
  have aaV:qU<H:=by have:=fun h=>Jw (.inr h);omega
  have ab5:¬mb=wk:=fun e=>WL (.inl (by rw[e];exact zJ))
  have Z7:¬qU=wk:=fun e=>Jw (.inl (by rw[e];exact zJ))
  have Up:H+3<=wr.heap.size:=by have:=hU.size;omega
  have HSR:=ak YM;have aqG:=ak JX;clear yr pU kK Zc hg CY ND Me BM MM EZ Lq ML MB JX pR R7 Yv ace Ny oZ MJ YM Gf;generalize Tm.mv (Tm.jU d 0) 0 ms[m]=X5 at *
  generalize ms[m].args.length=el at *
  generalize ms[m].size=ez at *
  generalize ms[m].depth=ed at *
  generalize Gu.length=stl at *
  go_wp2_with fail
  (with_reducible refine(SH _ _ (dj tC)).mono ?_);rintro e w5 ⟨k5,i5,n5,a5,cE,cJ,rfl,gN,ba⟩;obtain⟨w6,iF⟩:∃ w6,w6=w5.alloc (.cells #[.int .i64 k5,.string (B n5),.int .i64 i5,.slice a5 cE cJ] 29):=⟨_,rfl⟩;have dM:af ae w5 w6:=by rw[iF];exact(af.refl ae _).alloc _
  have So:au w6 w5.heap.size (.int .i64 k5) (.string (B n5)) (.int .i64 i5) (.slice a5 cE cJ) 29:=by rw[iF];exact au.av rfl
  have kr:=ba.and dM;have dg:aw (fun b=>O b\/b=H\/b=H+1\/b=H+1+1) w6 X5.az [.int .i64 k5,.string (B n5),.int .i64 i5,.slice a5 cE cJ]:=(aw.weaken (fun b _ e=>by have:=HO.out b e;omega) _ _ gN).on dM;have sf:=Ie.kept kr;have fD:=gM.kept kr;have M4:=kr.cell m4 (fun x=>x);have M5:=kr.cell m5 (fun x=>x);have P0:=kr.cell p0 (fun x=>x);have P1:=kr.cell p1 (fun x=>x);have VZ:=ba.size;obtain⟨Y,hY⟩:∃ Y,Y=w5.heap.size:=⟨_,rfl⟩;rw[<-hY]at So VZ;have HY:=ak hY;have Ju:=ak iF;clear iF hY gN dM m0 m1 m2 m3 m4 m5 p0 p1 t0 t1 t2 t3 s0 s1 s2 SH;go_upto_region 22 with fail;rw[<-HY.out,<-Ju.out];have S6:NJ H Y mb (mo+m * 6) qU (so+m * 2) _ _ _ _ _ _ _ _ _ _ _ w6:=⟨sf.cells,So.cells,⟨M4,M5⟩,⟨P0,P1⟩⟩;have TO:af ae w6 w6.drew:=(af.refl ae w6).drew;have Sd:=S6.ag TO (fun x=>x) (fun x=>x) (fun x=>x) (fun x=>x);have UA:=AP w6.drew k5 i5 n5 a5 cE cJ (kr.and TO) (dg.on TO);have B9:=fD.kept TO;have aa6:=(jg.trans (kr.and TO) (fun _ _ e=>e.elim));have Lp:¬H=wk:=by omega
  have Mq:¬Y=wk:=by omega
  have nk5:¬H+1+1=wk:=by omega
  have nr1:¬H=H+1+1:=by omega
  have nr2:¬Y=H+1+1:=by omega
  have nr3:¬mb=H+1+1:=by omega
  have nr4:¬qU=H+1+1:=by omega
  clear AP S6 sf So M4 M5 P0 P1 fD dg;by_cases he:R.e=0
  ·have acv:¬(4096<(R.t.size:Int)\/128<(R.t.depth:Int)):=by
     have h1:=HSR.out he;unfold Tm.small at h1;simp only[Bool.and_eq_true,decide_eq_true_eq]at h1;omega
   have HE:=ak (And.intro he acv);clear he acv
   go_region_held3 (fun w'=>NJ H Y mb (mo+m * 6) qU (so+m * 2) (.pointer (some ⟨wk,0,none⟩)) (.slice (some ⟨mb,mo,none⟩) ml mc) (.slice (some ⟨qU,so,none⟩) ml sc) (.int .i64 k5) (.string (B n5)) (.int .i64 i5) (.slice a5 cE cJ) (.int .i64 ez) (.int .i64 ed) (.string (B sn)) (.slice st stl Wn) w')
     (first |(with_reducible assumption)|(with_reducible exact Sd)|(with_reducible exact NJ.Ac S8 nr1 nr2 nr3 nr4 _ _ _ _ _ _))
     (first
       |((go_at_call 197);(with_reducible refine UA.mono ?_);rintro e w7 ⟨lS,YO,cm⟩;obtain⟨k7,n7,i7,a7,vy,xp,rfl,og⟩:=lS.ok HE.out.1;have S7:=Sd.ag cm Lp Mq ab5 Z7;have j4:=B9.ag cm nk5)
       |((go_at_call 221);(with_reducible refine(uW k7 i7 _ _ n7 a7 vy xp w7 HE.out.2).mono ?_);rintro e w8 ⟨rfl,cW⟩;have S8:=S7.ag cW (fun x=>x) (fun x=>x) (fun x=>x) (fun x=>x);have oF:=j4.kept cW;have c8:=oF.cells;have z8:=oF.aq;obtain⟨c80,c81,c82,c83,c84,c85⟩:=c8;obtain⟨z80,z81,z82,z83,z84,z85⟩:=z8))
   all_goals
     have ah:=oF.set (d0:=.int .i64 k7) (d1:=.string (B n7)) (d2:=.int .i64 i7) (d3:=.slice a7 vy xp) (d4:=.int .i64 R.t.size) (d5:=.int .i64 R.t.depth);obtain⟨e0,e1,e2,e3,e4,e5⟩:=ah.1.cells;have dJ:=ak (And.intro e0 (And.intro e1 (And.intro e2 (And.intro e3 (And.intro e4 (And.intro e5 ah.2))))));clear e0 e1 e2 e3 e4 e5 ah;go_wp2_with fail;obtain⟨e0,e1,e2,e3,e4,e5,ah⟩:=dJ.out;refine bodyPost_ret (v:=.agg #[.int .i64 k7,.string (B n7),.int .i64 i7,.slice a7 vy xp,.int .i64 R.t.size,.int .i64 R.t.depth]) ?_ rfl ?_
     ·simp[results,Tryz.f210,go_sem,e0,e1,e2,e3,e4,e5]
     exact E1 rfl HE.out.1 ((aw.weaken (fun b _ e=>e.elim .inl (fun e=>.inr (.inr (.inr e)))) _ _ og).on cW) (YO.kept cW) ((aa6.trans cm (fun _ _ e=>e)).trans cW (fun _ _ e=>e.elim)) ah hHw hkw
  have HE:=ak he;clear he
  go_region_held2 (fun w'=>NJ H Y mb (mo+m * 6) qU (so+m * 2) (.pointer (some ⟨wk,0,none⟩)) (.slice (some ⟨mb,mo,none⟩) ml mc) (.slice (some ⟨qU,so,none⟩) ml sc) (.int .i64 k5) (.string (B n5)) (.int .i64 i5) (.slice a5 cE cJ) (.int .i64 ez) (.int .i64 ed) (.string (B sn)) (.slice st stl Wn) w')
    (first |(with_reducible assumption)|(with_reducible exact Sd)|(with_reducible exact NJ.Ac S8 nr1 nr2 nr3 nr4 _ _ _ _ _ _))
    (first
      |((go_at_call 197);(with_reducible refine UA.mono ?_);rintro e w7 ⟨lS,YO,cm⟩;have dV:=lS.bad HE.out;rcases e with v |ch |_;rotate_left;(obtain rfl:=Ending.panicked.inj dV;dsimp only;exact⟨rfl,.inr ⟨HE.out,rfl⟩,YO,aa6.trans cm (fun _ _ e=>e)⟩);(exact absurd dV (by simp[mY]));(have hf:Hid False:=ak (by simp[mY]at dV));(obtain⟨v0,v1,v2,v3,v4,v5,rfl⟩:=LC v hf.out);clear dV;dsimp only;have S7:=Sd.ag cm Lp Mq ab5 Z7;have j4:=B9.ag cm nk5)
      |((go_at_call 221);(with_reducible refine(uW v0 v2 v4 v5 v1 v3 0 0 w7 hf.out.elim).mono ?_);rintro e w8 ⟨rfl,cW⟩;have S8:=S7.ag cW (fun x=>x) (fun x=>x) (fun x=>x) (fun x=>x);have oF:=j4.kept cW;have c8:=oF.cells;have z8:=oF.aq;obtain⟨c80,c81,c82,c83,c84,c85⟩:=c8;obtain⟨z80,z81,z82,z83,z84,z85⟩:=z8))
  all_goals exact hf.out.elim
theorem T3(n:Nat):Qt n:=by
  induction n with
  |zero=>intro ms ss d t w0 wk O w ma mc sa sc cs hn EO;omega
  |succ n ih=>exact O2 n ih
end Go.Proofs.YthgmimncdjhgnaaGreatDoor
