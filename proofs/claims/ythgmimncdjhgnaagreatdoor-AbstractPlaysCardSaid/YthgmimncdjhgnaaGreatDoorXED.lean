/- BF apply, out of sU step. -/
import Derived.Test.YthgmimncdjhgnaaGreatDoorXEC
import Derived.Deep.CutBlock
import Derived.Deep.RegionHeld2
set_option maxRecDepth 100000
set_option maxHeartbeats 16000000
namespace Go.LF.Tm
abbrev oI(n:Nat):Tm->Sm->Tm->Nat->gp:=fun u s b w=>sb n [u] [s] 0 b w
theorem uC(f:Tm->Sm->Tm->Nat->gp)(m:Tm)(ss:List Sm)(w:Nat):ld f m ss [] w=if m.kind=3 then⟨6,aO,w⟩else jo m w:=by rw[ld]
theorem qE(f:Tm->Sm->Tm->Nat->gp)(m:Tm)(s:Sm)(ss:List Sm)(u:Tm)(us:List Tm)(w:Nat):ld f m (s :: ss) (u :: us) w=
    if m.kind=3 then(if(f u s (m.args.headD aO) w).e=0 then ld f (f u s (m.args.headD aO) w).t ss us (f u s (m.args.headD aO) w).w else f u s (m.args.headD aO) w)else⟨6,aO,w⟩:=by rw[ld]
theorem In.of{t:Tm}(h:t.isObj=true)(hs:t.small=true):t.In:=by
  unfold small at hs;simp only[Bool.and_eq_true,decide_eq_true_eq]at hs;exact⟨hs.1,hs.2,uL t h,QQ t h⟩
theorem In.arg{k i:Int}{n:List UInt8}{l:List Tm}(h:(Tm.mk k n i l).In)(j:Nat)(hj:j<l.length):(l[j]).In/\(l[j]).depth+1<=(Tm.mk k n i l).depth:=by
  have h1:=aK (List.getElem_mem hj);have h2:=bz (List.getElem_mem hj);obtain⟨hs,hd,ho,hv⟩:=h;simp only[aM,cD]at hs hd ⊢;exact⟨⟨by omega,by omega,FX ho j hj,(DB l).1 ((Ar _ _ _ _).1 hv).2 _ (List.getElem_mem hj)⟩,by omega⟩
theorem oN{t:Tm}(h:t.small=true)(w:Nat):jo t w=⟨0,t,w⟩:=by unfold jo;rw[if_pos h]
end Go.LF.Tm
namespace Go.Proofs.YthgmimncdjhgnaaGreatDoor
open Go.RowKit Go.LF
abbrev Z0(X H ab ao:Nat)(y0 y1 y2 y3 y4 y5 s1 x3 c0 c1 c2 c3:Value)(w':World):Prop:=
  (w'.cell? ⟨X,0,none⟩=some y0/\w'.cell? ⟨X,1,none⟩=some y1/\w'.cell? ⟨X,2,none⟩=some y2/\w'.cell? ⟨X,3,none⟩=some y3/\w'.cell? ⟨X,4,none⟩=some y4/\w'.cell? ⟨X,5,none⟩=some y5)/\
  w'.cell? ⟨H+1,1,none⟩=some s1/\w'.cell? ⟨H,3,none⟩=some x3/\
  w'.cell? ⟨ab,ao,none⟩=some c0/\w'.cell? ⟨ab,ao+1,none⟩=some c1/\w'.cell? ⟨ab,ao+2,none⟩=some c2/\w'.cell? ⟨ab,ao+3,none⟩=some c3
theorem Z0.ag{X H ab ao:Nat}{y0 y1 y2 y3 y4 y5 s1 x3 c0 c1 c2 c3:Value}{w w':World}{S:Nat->Prop}(h:Z0 X H ab ao y0 y1 y2 y3 y4 y5 s1 x3 c0 c1 c2 c3 w)(hU:af S w w')(h1:¬S X)(h2:¬S (H+1))(h3:¬S H)(h4:¬S ab):Z0 X H ab ao y0 y1 y2 y3 y4 y5 s1 x3 c0 c1 c2 c3 w':=
  ⟨⟨hU.cell h.1.1 h1,hU.cell h.1.2.1 h1,hU.cell h.1.2.2.1 h1,hU.cell h.1.2.2.2.1 h1,hU.cell h.1.2.2.2.2.1 h1,hU.cell h.1.2.2.2.2.2 h1⟩,hU.cell h.2.1 h2,hU.cell h.2.2.1 h3,hU.cell h.2.2.2.1 h4,hU.cell h.2.2.2.2.1 h4,hU.cell h.2.2.2.2.2.1 h4,hU.cell h.2.2.2.2.2.2 h4⟩
theorem OA.ok{O:Nat->Prop}{r:Tm.gp}{e:Ending}{w':World}(h:OA O r e w')(he:r.e=0):∃ k n i a len cap,e=.returned (.agg #[.int .i64 k,.string (B n),.int .i64 i,.slice a len cap,.int .i64 r.t.size,.int .i64 r.t.depth])/\aw O w' r.t.az [.int .i64 k,.string (B n),.int .i64 i,.slice a len cap]:=
  h.elim (fun h=>h.2) (fun h=>absurd he h.1)
theorem LC(v:Value)(h:False):∃(v0:Int)(v1:List UInt8)(v2:Int)(v3:Option Addr)(v4 v5:Int),v=.agg #[.int .i64 v0,.string (B v1),.int .i64 v2,.slice v3 0 0,.int .i64 v4,.int .i64 v5]:=h.elim
theorem OA.bad{O:Nat->Prop}{r:Tm.gp}{e:Ending}{w':World}(h:OA O r e w')(he:¬r.e=0):e=mY r.e:=h.elim (fun h=>absurd h.1 he) (fun h=>h.2)
theorem y8(n:Nat)(IH:Qt n)(m:Tm)(ss:List Sm)(us:List Tm)(f:List UInt8)(w0 wk:Nat)(O:Nat->Prop)(w:World)(k i:Int)(nm:List UInt8)(a:Option Addr)(len cap:Nat)(sa:Option Addr)(sc:Nat)(ua:Option Addr)(uc:Nat)
    (hn:262145<=n+w0) (EO:w0<=262144) (hm:m.isObj=true) (jw:m.small=true) (cZ:us.length<=10000) (pA:ss.length<=10000) (fJ:ss.length<=sc) (gd:∀ u∈us,u.isObj=true/\u.small=true) (Bj:∀ s∈ss,s.size<=4096)
    (zJ:O wk) (hO:∀ b,O b->b<w.heap.size) (hW:im wk w0 w) (hR:aw O w m.az [.int .i64 k,.string (B nm),.int .i64 i,.slice a len cap]) (hS:ai O w 2 (ss.map Sm.az) sa 0) (hE:ai O w 6 (us.map iK) ua 0):
    Calls Tryz.prog 197 #[.pointer (some ⟨wk,0,none⟩),.agg #[.int .i64 k,.string (B nm),.int .i64 i,.slice a len cap,.int .i64 m.size,.int .i64 m.depth],.agg #[.string (B f),.slice sa ss.length sc],.slice ua us.length uc] w fun e w'=>
      OA O (Tm.ap (Tm.oI n) m ss us w0) e w'/\im wk (Tm.ap (Tm.oI n) m ss us w0).w w'/\af (fun b=>b=wk) w w':=by
  obtain⟨w1,aF⟩:∃ w1,w1=((w.alloc (.cells #[.int .i64 k,.string (B nm),.int .i64 i,.slice a len cap,.int .i64 m.size,.int .i64 m.depth] 200)).alloc (.cells #[.string (B f),.slice sa ss.length sc] 115)).alloc (.cells #[.int .i64 0,.string (B []),.int .i64 0,.slice none 0 0,.int .i64 0,.int .i64 0] 200):=⟨_,rfl⟩;have aH:af ae w w1:=by rw[aF];exact(((af.refl ae w).alloc _).alloc _).alloc _
  have qp:bC w1 w.heap.size (.int .i64 k) (.string (B nm)) (.int .i64 i) (.slice a len cap) (.int .i64 m.size) (.int .i64 m.depth) 200:=by rw[aF];exact((bC.av rfl).kept ((af.refl ae _).alloc _)).kept ((af.refl ae _).alloc _)
  have jI:bK w1 (w.heap.size+1) (.string (B f)) (.slice sa ss.length sc) 115:=by rw[aF];exact(bK.av (by simp)).kept ((af.refl ae _).alloc _)
  have dK:bC w1 (w.heap.size+1+1) (.int .i64 0) (.string (B [])) (.int .i64 0) (.slice none 0 0) (.int .i64 0) (.int .i64 0) 200:=by rw[aF];exact bC.av (by simp)
  have m9:=aH;have sg:=hW.kept aH;have di:=(aw.fR hR).on aH;have lW:=(ai.aG _ _ _ _ hS).on aH;have fU:=(ai.aG _ _ _ _ hE).on aH;have HW:=ak aF;obtain⟨H,hH⟩:∃ H,H=w.heap.size:=⟨_,rfl⟩;have HH:=ak hH;rw[<-hH]at qp jI dK di lW fU;have j9:∀ b,O b->b<H:=by rw[hH];exact hO
  have hkH:wk<H:=j9 wk zJ;have HO:=ak j9;have HP:=ak (And.intro hn (And.intro gd Bj));have mX:H+3<=w1.heap.size:=by have:=dK.lt;omega
  obtain⟨R,iR⟩:∃ R,R=Tm.ap (Tm.oI n) m ss us w0:=⟨_,rfl⟩;rw[<-iR];obtain⟨ul,kD⟩:∃ ul,ul=us.length:=⟨_,rfl⟩;obtain⟨sl,gH⟩:∃ sl,sl=ss.length:=⟨_,rfl⟩;rw[<-kD,<-gH];rw[<-gH]at jI HW;have HL:=ak (And.intro kD gH);have JK:(ul:Int)<=10000:=by omega
  have sf:(sl:Int)<=10000:=by omega
  have hs7:(sl:Int)<=(sc:Int):=by omega
  have IQ:(0:Int)<=(ul:Int):=by omega
  have yR:(0:Int)<=(sl:Int):=by omega
  clear aF hR hS hE hH hO j9 hn gd Bj kD gH aH hW cZ pA fJ;obtain⟨s0,s1⟩:=jI.cells;by_cases gJ:ul=sl
  case neg=>
    have dg:R=⟨6,Tm.aO,w0⟩:=by rw[iR];unfold Tm.ap;rw[if_neg (by rw[<-HL.out.1,<-HL.out.2];exact gJ)]
    subst dg;have anD:((ul:Int) !=(sl:Int))=true:=by simp;omega
    clear iR;go_enter Tryz.func197,Tryz.ntmps197;go_upto_region 1 with fail;rw[<-show B []={ data:=#[] }from rfl,<-HW.out,<-HH.out];go_wp2_with fail;exact⟨rfl,.inr ⟨by simp,rfl⟩,sg,m9.mono (fun _ _ x=>x.elim)⟩
  subst gJ;have dg:R=Tm.ld (Tm.oI n) m ss us w0:=by rw[iR];unfold Tm.ap;rw[if_pos (by rw[<-HL.out.1,<-HL.out.2])]
  have HR6:=ak dg;clear iR dg;have hnf:((ul:Int) !=(ul:Int))=false:=by simp
  go_enter Tryz.func197,Tryz.ntmps197;go_upto_region 1 with fail;rw[<-show B []={ data:=#[] }from rfl,<-HW.out,<-HH.out];go_wp2_with fail;clear hnf s0 s1
  go_loopw [20] (fun v20 wr=>∃(j:Nat)(m':Tm)(wj:Nat)(k' i':Int)(n':List UInt8)(a':Option Addr)(nC aS:Nat),v20=.int .i64 (j:Int)/\j<=ul/\R=Tm.ld (Tm.oI n) m' (ss.drop j) (us.drop j) wj/\(m'.isObj=true/\m'.small=true/\wj<=262144/\262145<=n+wj)/\im wk wj wr/\
      bC wr H (.int .i64 k') (.string (B n')) (.int .i64 i') (.slice a' nC aS) (.int .i64 m'.size) (.int .i64 m'.depth) 200/\aw (fun b=>O b\/b=H\/b=H+1+1) wr m'.az [.int .i64 k',.string (B n'),.int .i64 i',.slice a' nC aS]/\af (fun b=>b=wk\/b=H) w1 wr)
    (fun v20 _=>ul - (intOf v20).toNat)
  case atStart=>exact⟨0,m,w0,k,i,nm,a,len,cap,rfl,Nat.zero_le _,HR6.out,⟨hm,jw,EO,HP.out.1⟩,sg,qp,aw.weaken (fun b _ e=>e.elim .inl (fun e=>.inr (by omega))) _ _ di,af.refl _ _⟩
  clear sg qp di hm jw EO;obtain⟨j,m',wj,k',i',n',a',nC,aS,rfl,hj,oO,⟨ho,m7,Ex,hnj⟩,EU,hB,tC,hU⟩:=hrel;have HV:=ak (And.intro oO (And.intro ho (And.intro m7 (And.intro Ex hnj))));obtain⟨ls,rfl,Nn,Rd,YD⟩:=sK tC;have HO2:=ak (And.intro ho m7);have yC:=ak Nn;have qM:=Tm.In.of ho m7;clear oO ho m7 hnj Nn Rd;obtain⟨x0,x1,x2,x3,x4,x5⟩:=hB.cells;have q:=hB.lt;have u2:(j:Int)<=10000:=by omega
  have u3:(0:Int)<=(j:Int):=by omega
  by_cases aB:j<ul
  ·have Is:j<us.length:=by rw[<-HL.out.1];exact aB
   have hjs:j<ss.length:=by rw[<-HL.out.2];exact aB
   have u4:(j:Int)<(ul:Int):=by omega
   obtain⟨eb,eo,ek,en,ei,es,ec,rfl,mz,K9,p0,p1,p2,p3,p4,p5,eY⟩:=wg (ai.ag hU (fun b e=>by rcases e with e |e;exact .inl (by rw[e];exact zJ);exact .inr (by omega)) _ _ _ _ fU) j Is;have te:ss.drop j=ss[j] :: ss.drop (j+1):=List.drop_eq_getElem_cons hjs;have Qj:us.drop j=us[j] :: us.drop (j+1):=List.drop_eq_getElem_cons Is;go_upto_block 1 with fail
   go_cut []from 22 to 45 (fun wc=>∃(m2:Tm)(w2:Nat)(k7 i7:Int)(n7:List UInt8)(a7:Option Addr)(vy xp:Nat),R=Tm.ld (Tm.oI n) m2 (ss.drop (j+1)) (us.drop (j+1)) w2/\(m2.isObj=true/\m2.small=true/\w2<=262144/\262145<=n+w2)/\im wk w2 wc/\bC wc H (.int .i64 k7) (.string (B n7)) (.int .i64 i7) (.slice a7 vy xp) (.int .i64 m2.size) (.int .i64 m2.depth) 200/\
     aw (fun b=>O b\/b=H\/b=H+1+1) wc m2.az [.int .i64 k7,.string (B n7),.int .i64 i7,.slice a7 vy xp]/\af (fun b=>b=wk\/b=H) w1 wc)
   case first=>
     by_cases mU:k'=3
     case neg=>
       have o8:R=⟨6,Tm.aO,wj⟩:=by rw[HV.out.1,te,Qj,Tm.qE,if_neg (by simpa using mU)]
       have yW:=ak o8;have afh:(k' !=3)=true:=by simpa using mU
       clear o8 te Qj qM;go_wp2_with fail;exact⟨rfl,.inr ⟨by rw[yW.out];simp,by rw[yW.out];rfl⟩,by rw[yW.out];exact EU.kept ((af.refl ae _).alloc _),((m9.mono (fun _ _ x=>x.elim)).trans hU (fun b hb e=>e.elim (fun e=>e) (fun e=>by have:=HH.out;omega))).alloc _⟩
     subst mU;obtain⟨b0,rfl⟩:∃ b0,ls=[b0]:=⟨_,(Tm.oW HO2.out.1 rfl).2⟩;obtain rfl:nC=1:=yC.out;obtain⟨ab,ao,bk,bn,bi,bs,bc,rfl,afW,ahy,c0,c1,c2,c3,uw⟩:=aY YD 0 (by simp);simp only[Nat.zero_mul,Nat.add_zero,List.getElem_cons_zero]at c0 c1 c2 c3 uw;have uS:=qM.arg 0 (by simp);simp only[List.getElem_cons_zero]at uS;obtain⟨qU,so,sn,st,Wn,rfl,Q4,Jw,_,_,_⟩:=kV (ai.ag hU (fun b e=>by rcases e with e |e;exact .inl (by rw[e];exact zJ);exact .inr (by omega)) _ _ _ _ lW) j hjs;have Xy:=Gr (ai.ag hU (fun b e=>by rcases e with e |e;exact .inl (by rw[e];exact zJ);exact .inr (by omega)) _ _ _ _ lW) j hjs;have BK:=jI.ag hU (by rintro(e |e)<;>omega);have BO:=HP.out.2.1 _ (List.getElem_mem Is);have UQ:=HP.out.2.2 _ (List.getElem_mem hjs)
     have dw:R=(if(Tm.sb n [us[j]] [ss[j]] 0 b0 wj).e=0 then Tm.ld (Tm.oI n) (Tm.sb n [us[j]] [ss[j]] 0 b0 wj).t (ss.drop (j+1)) (us.drop (j+1)) (Tm.sb n [us[j]] [ss[j]] 0 b0 wj).w else Tm.sb n [us[j]] [ss[j]] 0 b0 wj):=by
       rw[HV.out.1,te,Qj,Tm.qE,if_pos (show(Tm.mk 3 n' i' [b0]).kind=3 from rfl)];rfl
     have gm:=Tm.oD n [us[j]] [ss[j]] 0 b0 wj (by simpa using BO) (by omega) (by have:=uS.1.depth;omega) (Tm.oW HO2.out.1 rfl).1;have mO:=Tm.uq n [us[j]] [ss[j]] 0 b0 wj Ex;have JQ:=Tm.yS n [us[j]] [ss[j]] 0 b0 wj
     have KA:=fun(W:World)(Y:Nat)(c:Nat)(T:TypeId)(hW:im wk wj W)(ee:∀ b,(O b\/b=H\/b=H+1+1)->b<W.heap.size)(hY:bC W Y (.int .i64 ek) (.string (B en)) (.int .i64 ei) (.slice es us[j].args.length ec) (.int .i64 us[j].size) (.int .i64 us[j].depth) T)(hY':¬(O Y\/Y=H\/Y=H+1+1))(hu:af ae wr W)=>
       IH [us[j]] [ss[j]] 0 b0 wj wk (fun b=>O b\/b=H\/b=H+1+1) W (some ⟨Y,0,none⟩) 1 (some ⟨qU,so+j * 2,none⟩) c _ HV.out.2.2.2.2 Ex rfl (by simp) (by simpa using BO) (by simpa using UQ) (by omega) (by have:=uS.1.depth;omega) uS.1 (.inl zJ) ee hW
         (Oc hY hY' (aw.weaken (fun b _ e=>e.elim .inl (fun e=>.inr (by omega))) _ _ (eY.on hu))) (ai.weaken (fun b _ e=>e.elim .inl (fun e=>.inr (by omega))) _ _ _ _ (Xy.on hu)) (uw.on hu)
     simp only[List.length_cons,List.length_nil,Nat.zero_add]at KA;generalize us[j].args.length=el at *
     generalize hsd:Tm.sb n [us[j]] [ss[j]] 0 b0 wj=rs at *
     generalize us[j].size=ez at *
     generalize us[j].depth=ed at *
     have jZ:=ak (And.intro dw (And.intro gm (And.intro mO JQ)));obtain⟨s0,s1⟩:=BK.cells;clear dw gm mO JQ hsd te Qj BO UQ Xy uw YD qM uS eY;go_upto_region 6 with fail;obtain⟨w4,eh⟩:∃ w4,w4=wr.alloc (.cells #[.int .i64 ek,.string (B en),.int .i64 ei,.slice es el ec,.int .i64 ez,.int .i64 ed] 200):=⟨_,rfl⟩;have bw:af ae wr w4:=by rw[eh];exact(af.refl ae _).alloc _
     have C7:bC w4 wr.heap.size (.int .i64 ek) (.string (B en)) (.int .i64 ei) (.slice es el ec) (.int .i64 ez) (.int .i64 ed) 200:=by rw[eh];exact bC.av rfl
     have Bv:=BK.kept bw;have NQ:=hB.kept bw;have c4:=bw.cell c0 (fun x=>x);have c5:=bw.cell c1 (fun x=>x);have c6:=bw.cell c2 (fun x=>x);have c7:=bw.cell c3 (fun x=>x);have XY:=EU.kept bw;have hq4:=NQ.lt;have XU:=Bv.lt;have hq6:ab<w4.heap.size:=by have:=bw.size;omega
     have hq7:wk<w4.heap.size:=XY.lt;obtain⟨X,hX⟩:∃ X,X=wr.heap.size:=⟨_,rfl⟩;rw[<-eh,<-hX];rw[<-hX]at C7;have HX:=ak hX;have OT:=C7.lt;have aq5:=hU.size;clear eh x0 x1 x2 x3 x4 x5 s0 s1 p0 p1 p2 p3 p4 p5 c0 c1 c2 c3 BK hX;obtain⟨x0,x1,x2,x3,x4,x5⟩:=NQ.cells;obtain⟨y0,y1,y2,y3,y4,y5⟩:=C7.cells;obtain⟨s0,s1⟩:=Bv.cells;have u5:((j:Int)+1)<=(ul:Int):=by omega
     have u6:((j:Int)+1)<=(sc:Int):=by omega
     go_upto_region 8 with fail;have aoG:IntKind.i64.wrap ((j:Int)+1)=(j:Int)+1:=Go.IntWalk.i64_in _ (by omega);have apl:((j:Int)+1).toNat=j+1:=by omega
     have anZ:¬sc=j:=by omega
     have Bs:j+1 - j=1:=by omega
     have h01:(0:Int)<=(j:Int)+1:=by omega
     have cK:af ae w4 (w4.alloc (.cells #[.int .i64 ek,.string (B en),.int .i64 ei,.slice es el ec,.int .i64 ez,.int .i64 ed] 200)).drew:=((af.refl ae w4).alloc _).drew;have jd:bC (w4.alloc (.cells #[.int .i64 ek,.string (B en),.int .i64 ei,.slice es el ec,.int .i64 ez,.int .i64 ed] 200)).drew w4.heap.size (.int .i64 ek) (.string (B en)) (.int .i64 ei) (.slice es el ec) (.int .i64 ez) (.int .i64 ed) 200:=(bC.av rfl).kept (af.refl ae _).drew
     have abY:∀ b,(O b\/b=H\/b=H+1+1)->b<(w4.alloc (.cells #[.int .i64 ek,.string (B en),.int .i64 ei,.slice es el ec,.int .i64 ez,.int .i64 ed] 200)).drew.heap.size:=by
       intro b e;have:=cK.size;have:=bw.size;have:=hU.size;rcases e with e |e
       ·have:=HO.out b e;omega
       omega
     have U9:=KA _ w4.heap.size (sc - j) 200 (XY.kept cK) abY jd (by have z1:=bw.size;have z2:=hU.size;rintro(e |e);(have:=HO.out _ e;omega);omega) (bw.and cK);have Jr:=NQ.kept cK;have Yw:¬H=wk:=by omega
     have HUU:=ak (And.intro hU (And.intro bw cK));clear jd abY KA cK bw;have S4:Z0 X H ab ao _ _ _ _ _ _ _ _ _ _ _ _ w4:=⟨⟨y0,y1,y2,y3,y4,y5⟩,s1,x3,c4,c5,c6,c7⟩;have S4d:=S4.ag (af.refl ae w4).drew (fun x=>x) (fun x=>x) (fun x=>x) (fun x=>x);have S4a:=(S4.ag (((af.refl ae w4).alloc (.cells #[.int .i64 ek,.string (B en),.int .i64 ei,.slice es el ec,.int .i64 ez,.int .i64 ed] 200)).drew) (fun x=>x) (fun x=>x) (fun x=>x) (fun x=>x))
     have Pk:∀ W,af (fun b=>b=wk) (w4.alloc (.cells #[.int .i64 ek,.string (B en),.int .i64 ei,.slice es el ec,.int .i64 ez,.int .i64 ed] 200)).drew W->af (fun b=>b=wk\/b=H) w1 W:=fun W h=>
       ((HUU.out.1.trans HUU.out.2.1 (fun _ _ e=>e.elim)).trans HUU.out.2.2 (fun _ _ e=>e.elim)).trans h (fun _ _ e=>.inl e)
     by_cases he:rs.e=0
     ·have HE:=ak (And.intro he Pk);have hRg:R=Tm.ld (Tm.oI n) rs.t (ss.drop (j+1)) (us.drop (j+1)) rs.w:=by rw[jZ.out.1,if_pos he]
      have pK:rs.t.isObj=true/\rs.t.small=true:=by
        rcases jZ.out.2.1 with h |h
        ·exact h.2
        exact absurd he h.1
      have hww:=jZ.out.2.2.1 he;have HRG:=ak (And.intro hRg (And.intro pK (And.intro hww jZ.out.2.2.2)));clear he Pk S4 S4d S4a hRg pK hww
      go_region_law (first
        |((rw[if_pos (by rfl)]);go_simp;(go_at_call 210);refine U9.mono ?_;rintro e w7 ⟨lS,V9,cm⟩;obtain⟨k7,n7,i7,a7,vy,xp,rfl,og⟩:=lS.ok HE.out.1;have yl:=Jr.ag cm Yw;have c7:=yl.cells;have z7:=yl.aq;obtain⟨c70,c71,c72,c73,c74,c75⟩:=c7;obtain⟨z70,z71,z72,z73,z74,z75⟩:=z7)
        |fail)
      all_goals
        have ah:=yl.set (d0:=.int .i64 k7) (d1:=.string (B n7)) (d2:=.int .i64 i7) (d3:=.slice a7 vy xp) (d4:=.int .i64 rs.t.size) (d5:=.int .i64 rs.t.depth);have eJ:=And.intro (V9.ag ah.2 (by omega)) (And.intro ah.1 (And.intro (aw.ag ah.2 (fun b e=>.inr (.inl e)) _ _ og) ((HE.out.2 _ cm).trans ah.2 (fun b _ e=>.inr e))));clear ah;go_wp2_with fail;go_meet
      all_goals exact⟨rs.t,rs.w,k7,i7,n7,a7,vy,xp,HRG.out.1,⟨HRG.out.2.1.1,HRG.out.2.1.2,HRG.out.2.2.1,by have:=HRG.out.2.2.2;have:=HV.out.2.2.2.2;omega⟩,eJ⟩
     have uw:R=rs:=by rw[jZ.out.1,if_neg he]
     subst uw;have HE:=ak (And.intro he Pk);clear he Pk S4
     go_region_held2 (fun w'=>Z0 X H ab ao (.int .i64 ek) (.string (B en)) (.int .i64 ei) (.slice es el ec) (.int .i64 ez) (.int .i64 ed) (.slice (some ⟨qU,so,none⟩) ul sc) (.slice (some ⟨ab,ao,none⟩) 1 aS) (.int .i64 bk) (.string (B bn)) (.int .i64 bi) (.slice bs b0.args.length bc) w')
       (first |(with_reducible assumption)|(with_reducible exact S4d)|(with_reducible exact S4a)|(exact hf.out.elim))
       (first |((go_at_call 210);(with_reducible refine U9.mono ?_);rintro e w7 ⟨lS,V9,cm⟩;have dV:=lS.bad HE.out.1;rcases e with v |ch |_;rotate_left;(obtain rfl:=Ending.panicked.inj dV;dsimp only;exact⟨rfl,.inr ⟨HE.out.1,rfl⟩,V9,(m9.mono (fun _ _ x=>x.elim)).trans (HE.out.2 _ cm) (fun b hb e=>e.elim (fun e=>e) (fun e=>by have:=HH.out;omega))⟩);(exact absurd dV (by simp[mY]));(have hf:Hid False:=ak (by simp[mY]at dV));(obtain⟨v0,v1,v2,v3,v4,v5,rfl⟩:=LC v hf.out);clear dV;dsimp only;have yl:=Jr.ag cm Yw;have c7:=yl.cells;have z7:=yl.aq;obtain⟨c70,c71,c72,c73,c74,c75⟩:=c7;obtain⟨z70,z71,z72,z73,z74,z75⟩:=z7))
     all_goals exact hf.out.elim
   obtain⟨m2,w2,k7,i7,n7,a7,vy,xp,fG,qq,YO,yl,og,cm⟩:=hcut;have Tr:=ak fG;clear fG;go_wp2_with fail;go_roundw;case rel=>exact⟨j+1,m2,w2,k7,i7,n7,a7,vy,xp,by go_num,by omega,Tr.out,qq,YO,yl,og,cm⟩
   simp[intOf];omega
  have b7:j=ul:=by omega
  subst b7;have te:ss.drop j=[]:=List.drop_eq_nil_of_le (by rw[<-HL.out.2];exact Nat.le_refl _);have Qj:us.drop j=[]:=List.drop_eq_nil_of_le (by rw[<-HL.out.1];exact Nat.le_refl _);have jg:=(m9.mono (fun _ _ x=>x.elim)).trans hU (S:=fun b=>b=wk) (fun b hb e=>e.elim (fun e=>e) (fun e=>by have:=HH.out;omega));by_cases mU:k'=3
  ·subst mU;have o8:R=⟨6,Tm.aO,wj⟩:=by rw[HV.out.1,te,Qj,Tm.uC,if_pos (show(Tm.mk 3 n' i' ls).kind=3 from rfl)]
   have yW:=ak o8;clear o8 te Qj;go_wp2_with fail;exact⟨rfl,.inr ⟨by rw[yW.out];simp,by rw[yW.out];rfl⟩,by rw[yW.out];exact EU,jg⟩
  have afh:(k' == 3)=false:=by simpa using mU
  have o8:R=⟨0,.mk k' n' i' ls,wj⟩:=by rw[HV.out.1,te,Qj,Tm.uC,if_neg (by simpa using mU),Tm.oN HV.out.2.2.1]
  have yW:=ak o8;have gM:=dK.ag hU (by rintro(e |e)<;>omega);obtain⟨y0,y1,y2,y3,y4,y5⟩:=gM.cells;obtain⟨z0,z1,z2,z3,z4,z5⟩:=gM.aq;have ah:=gM.set (d0:=.int .i64 k') (d1:=.string (B n')) (d2:=.int .i64 i') (d3:=.slice a' nC aS) (d4:=.int .i64 (Tm.mk k' n' i' ls).size) (d5:=.int .i64 (Tm.mk k' n' i' ls).depth);have Gh:=gM.lt;obtain⟨e0,e1,e2,e3,e4,e5⟩:=ah.1.cells;have HE:=ak (And.intro e0 (And.intro e1 (And.intro e2 (And.intro e3 (And.intro e4 (And.intro e5 ah.2))))));have hRl:aw O wr (Tm.mk k' n' i' ls).az [.int .i64 k',.string (B n'),.int .i64 i',.slice a' nC aS]:=aw.weaken (fun b _ e=>.inl e) _ _ tC;have lV:aw (fun b=>O b\/b=H+1+1) wr (Tm.mk k' n' i' ls).az [.int .i64 k',.string (B n'),.int .i64 i',.slice a' nC aS]:=aw.weaken (fun b _ e=>e.elim .inl (fun e=>.inr (.inr e))) _ _ tC;generalize hez:(Tm.mk k' n' i' ls).size=ez at *
  generalize hed:(Tm.mk k' n' i' ls).depth=ed at *
  have HZ:=ak (And.intro hez hed);clear e0 e1 e2 e3 e4 e5 ah o8 te Qj hez hed;go_wp2_with fail;obtain⟨e0,e1,e2,e3,e4,e5,ah⟩:=HE.out;refine bodyPost_ret (v:=.agg #[.int .i64 k',.string (B n'),.int .i64 i',.slice a' nC aS,.int .i64 ez,.int .i64 ed]) ?_ rfl ?_
  ·simp[results,Tryz.f197,go_sem,e0,e1,e2,e3,e4,e5]
  refine⟨.inl ⟨by rw[yW.out],k',n',i',a',nC,aS,?_,?_⟩,?_,?_⟩
  ·rw[yW.out];show _=Ending.returned (.agg #[.int .i64 k',.string (B n'),.int .i64 i',.slice a' nC aS,.int .i64 (Tm.mk k' n' i' ls).size,.int .i64 (Tm.mk k' n' i' ls).depth]);rw[HZ.out.1,HZ.out.2]
  ·rw[yW.out];exact aw.weaken (fun b _ e=>.inl e) _ _ (aw.ag ah (fun b e=>.inr e) _ _ lV)
  ·rw[yW.out];exact EU.ag ah (by omega)
  exact jg.trans ah (fun b hb e=>by have:=HH.out;omega)
end Go.Proofs.YthgmimncdjhgnaaGreatDoor
