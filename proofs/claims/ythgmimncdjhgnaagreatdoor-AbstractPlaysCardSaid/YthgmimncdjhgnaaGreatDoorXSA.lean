/- Ge cX Machine.adL, out of its step. -/
import Derived.Test.YthgmimncdjhgnaaGreatDoorXEG
import Derived.Test.YthgmimncdjhgnaaGreatDoorXEH
set_option maxRecDepth 100000
set_option maxHeartbeats 16000000
namespace Go.Proofs.YthgmimncdjhgnaaGreatDoor
open Go.RowKit Go.LF
def Hf(n:Nat):Prop:=
  ∀(ms:List Tm)(ss:List Sm)(d:Int)(t:Tm)(w0 x:Nat)(O:Nat->Prop)(w:World)(ma:Option Addr)(mc:Nat)(sa:Option Addr)(sc:Nat)(cs:List Value),
   262145<=n+w0->w0<=262144->ms.length=ss.length->ms.length<=10000->(∀ u∈ms,u.isObj=true/\u.small=true)->(∀ s∈ss,s.size<=4096)->0<=d->d+(t.depth:Int)<=1048576->t.In->
   O x->(∀ b,O b->b<w.heap.size)->bK w x (.int .i64 (w0:Int)) (.int .i64 0) 181->ai O w 4 (ms.map Tm.az) ma 0->ai O w 2 (ss.map Sm.az) sa 0->aw O w t.az cs->
   Calls Tryz.prog 203 #[.pointer (some ⟨x,0,none⟩),.agg cs.toArray,.slice ma ms.length mc,.slice sa ss.length sc,.int .i64 d] w fun e w'=>
     P2 O x (Tm.sb n ms ss d t w0) e w'/\af (fun b=>b=x) w w'
def lenOf:Value->Nat
  | .slice _ l _=>l
  |_=>0
theorem CP{O:Nat->Prop}{W:World}{wd:Nat}{d:fB}{ds:List fB}{b o:Nat}(h:ai O W wd (d :: ds) (some ⟨b,o,none⟩) 0):ai O W wd ds (some ⟨b,o+wd,none⟩) 0:=by
  refine bT _ _ _ (fun i hi=>?_);obtain⟨b',o',cs,e,hb,hO,hl,hc,hr⟩:=h.get (i+1) (by simpa using hi);simp only[Option.some.injEq,Addr.mk.injEq,and_true]at e;obtain⟨rfl,rfl⟩:=e;refine⟨b,o+wd,cs,rfl,hb,hO,hl,fun m v hv=>?_,by simpa using hr⟩;have:=hc m v hv;rw[<-this];congr 2;rw[Nat.succ_mul];omega
theorem Ee{O:Nat->Prop}{W:World}{wd:Nat}{d:fB}{ds:List fB}{a:Option Addr}(h:ai O W wd (d :: ds) a 0):ai O W wd [d] a 0:=by
  refine bT _ _ _ (fun i hi=>?_);obtain rfl:i=0:=by simpa using hi
  obtain⟨b,o,cs,e,hb,hO,hl,hc,hr⟩:=h.get 0 (by simp);exact⟨b,o,cs,e,hb,hO,hl,hc,by simpa using hr⟩
theorem rm{O:Nat->Prop}{W:World}{wd:Nat}{ds:List fB}{a:Option Addr}(h:ds=[]):ai O W wd ds a 0:=by
  subst h;exact bT _ _ _ (fun i hi=>by simp at hi)
theorem oA{m n:Nat}(a:Option Addr)(c:Nat)(h:m=n):Value.slice a n c=Value.slice a m c:=by rw[h]
def zi(ul sl:Nat)(k:Int):Bool:=((ul:Int) !=(sl:Int))|| ((ul:Int) == 0 && k == 3)|| (decide ((0:Int)<(ul:Int)) && k !=3)
theorem Wc{ul sl:Nat}{k:Int}(h:zi ul sl k=true):(((ul:Int) !=(sl:Int))=true)\/
    (((ul:Int) !=(sl:Int))=false/\((ul:Int) == 0)=true/\k=3)\/(((ul:Int) !=(sl:Int))=false/\((ul:Int) == 0)=false/\(0:Int)<(ul:Int)/\(k == 3)=false/\(k !=3)=true):=by
  unfold zi at h;cases h1:((ul:Int) !=(sl:Int))with
  |true=>exact .inl rfl
  |false=>
   right;by_cases h2:ul=0
   ·left;subst h2;rw[h1]at h;exact⟨rfl,rfl,by simpa using h⟩
   right;have e2:((ul:Int) == 0)=false:=by simp[h2]
   have e3:(0:Int)<(ul:Int):=by omega
   simp[h1,h2]at h;exact⟨rfl,e2,e3,by simp[h.2],by simp[h.2]⟩
theorem Qh{ul sl:Nat}{k:Int}(h:¬zi ul sl k=true):ul=sl/\((ul=0/\¬k=3)\/(0<ul/\k=3)):=by
  unfold zi at h;simp at h;by_cases h2:ul=0
  ·subst h2;exact⟨by omega,.inl ⟨rfl,h.1.2 rfl⟩⟩
  exact⟨by omega,.inr ⟨by omega,h.2 (by omega)⟩⟩
theorem nu(n:Nat)(IH:Hf n)(m:Tm)(ss:List Sm)(us:List Tm)(f:List UInt8)(w0 x:Nat)(O:Nat->Prop)(w:World)(k i:Int)(nm:List UInt8)(a:Option Addr)(len cap:Nat)(sa:Option Addr)(sc:Nat)(ua:Option Addr)(uc:Nat)
    (hn:262145<=n+w0) (EO:w0<=262144) (hm:m.isObj=true) (jw:m.small=true) (cZ:us.length<=10000) (pA:ss.length<=10000) (EI:us.length<=uc) (fJ:ss.length<=sc) (gd:∀ u∈us,u.isObj=true/\u.small=true) (Bj:∀ s∈ss,s.size<=4096)
    (hx:O x) (hO:∀ b,O b->b<w.heap.size) (hX:bK w x (.int .i64 (w0:Int)) (.int .i64 0) 181) (hR:aw O w m.az [.int .i64 k,.string (B nm),.int .i64 i,.slice a len cap]) (hS:ai O w 2 (ss.map Sm.az) sa 0) (hE:ai O w 4 (us.map Tm.az) ua 0):
    Calls Tryz.prog 172 #[.pointer (some ⟨x,0,none⟩),.agg #[.int .i64 k,.string (B nm),.int .i64 i,.slice a len cap],.agg #[.string (B f),.slice sa ss.length sc],.slice ua us.length uc] w fun e w'=>
      P2 O x (Tm.ap (Tm.oI n) m ss us w0) e w'/\af (fun b=>b=x) w w':=by
  obtain⟨w1,aF⟩:∃ w1,w1=((w.alloc (.cells #[.int .i64 k,.string (B nm),.int .i64 i,.slice a len cap] 29)).alloc (.cells #[.string (B f),.slice sa ss.length sc] 115)).alloc (.cells #[.int .i64 0,.string (B []),.int .i64 0,.slice none 0 0] 29):=⟨_,rfl⟩;have aH:af ae w w1:=by rw[aF];exact(((af.refl ae w).alloc _).alloc _).alloc _
  have qp:au w1 w.heap.size (.int .i64 k) (.string (B nm)) (.int .i64 i) (.slice a len cap) 29:=by rw[aF];exact((au.av rfl).kept ((af.refl ae _).alloc _)).kept ((af.refl ae _).alloc _)
  have jI:bK w1 (w.heap.size+1) (.string (B f)) (.slice sa ss.length sc) 115:=by rw[aF];exact(bK.av (by simp)).kept ((af.refl ae _).alloc _)
  have dK:au w1 (w.heap.size+1+1) (.int .i64 0) (.string (B [])) (.int .i64 0) (.slice none 0 0) 29:=by rw[aF];exact au.av (by simp)
  have m9:=aH;have rY:=hX.kept aH;have di:=(aw.fR hR).on aH;have lW:=(ai.aG _ _ _ _ hS).on aH;have fU:=(ai.aG _ _ _ _ hE).on aH;have HW:=ak aF;obtain⟨H,hH⟩:∃ H,H=w.heap.size:=⟨_,rfl⟩;have HH:=ak hH;rw[<-hH]at qp jI dK di lW fU;have j9:∀ b,O b->b<H:=by rw[hH];exact hO
  have Q7:x<H:=j9 x hx;have HO:Hid (∀ b,(O b\/b=H\/b=H+1\/b=H+1+1)->b<H+3):=ak (fun b h=>by rcases h with h |h |h |h;(have:=j9 b h;omega);all_goals omega);have mX:H+3<=w1.heap.size:=by have:=dK.lt;omega
  obtain⟨R,iR⟩:∃ R,R=Tm.ap (Tm.oI n) m ss us w0:=⟨_,rfl⟩;rw[<-iR];have fG:aw (fun b=>O b\/b=H\/b=H+1\/b=H+1+1) w1 m.az [.int .i64 k,.string (B nm),.int .i64 i,.slice a len cap]:=aw.weaken (fun b _ e=>e.elim .inl (fun e=>.inr (by omega))) _ _ di;have kJ:ai (fun b=>O b\/b=H\/b=H+1\/b=H+1+1) w1 4 (us.map Tm.az) ua 0:=ai.weaken (fun b _ e=>e.elim .inl (fun e=>.inr (by omega))) _ _ _ _ fU;have JD:ai (fun b=>O b\/b=H\/b=H+1\/b=H+1+1) w1 2 (ss.map Sm.az) sa 0:=ai.weaken (fun b _ e=>e.elim .inl (fun e=>.inr (by omega))) _ _ _ _ lW;have HI:=ak (And.intro (And.intro EI (And.intro cZ (And.intro fJ pA))) (And.intro iR (And.intro (And.intro hm (And.intro jw (And.intro EO hn))) (And.intro gd Bj))));clear aF hR hS hE hH hO j9 hn gd Bj aH hX cZ pA EI fJ iR di fU lW hm jw EO;go_enter Tryz.func172,Tryz.ntmps172;go_wp2_with fail;rw[<-show B []={ data:=#[] }from rfl,<-HW.out,<-HH.out]
  go_loopw [3] (fun v3 wr=>∃(Kw:List Tm)(Ky:List Sm)(m':Tm)(er:Int)(wj:Nat)(k' i':Int)(n':List UInt8)(a':Option Addr)(nC aS:Nat)(ua':Option Addr)(R9:Nat)(RY:Option Addr)(FR:Nat),v3=.slice ua' Kw.length R9/\(Kw.length<=R9/\Kw.length<=10000/\Ky.length<=FR/\Ky.length<=10000)/\
      (R=(if er=0 then Tm.ap (Tm.oI n) m' Ky Kw wj else⟨er,Tm.aO,wj⟩))/\(er=0->m'.isObj=true/\m'.small=true/\wj<=262144/\262145<=n+wj)/\((∀ u∈Kw,u.isObj=true/\u.small=true)/\(∀ s∈Ky,s.size<=4096))/\
      bK wr x (.int .i64 (wj:Int)) (.int .i64 er) 181/\au wr H (.int .i64 k') (.string (B n')) (.int .i64 i') (.slice a' nC aS) 29/\bK wr (H+1) (.string (B f)) (.slice RY Ky.length FR) 115/\
      (aw (fun b=>O b\/b=H\/b=H+1\/b=H+1+1) wr m'.az [.int .i64 k',.string (B n'),.int .i64 i',.slice a' nC aS]/\ai (fun b=>O b\/b=H\/b=H+1\/b=H+1+1) wr 4 (Kw.map Tm.az) ua' 0/\ai (fun b=>O b\/b=H\/b=H+1\/b=H+1+1) wr 2 (Ky.map Sm.az) RY 0)/\af (fun b=>b=x\/b=H\/b=H+1) w1 wr)
    (fun v3 _=>lenOf v3)
  case atStart=>exact⟨us,ss,m,0,w0,k,i,nm,a,len,cap,ua,uc,sa,sc,rfl,HI.out.1,by rw[if_pos rfl];exact HI.out.2.1,fun _=>HI.out.2.2.1,HI.out.2.2.2,rY,qp,jI,⟨fG,kJ,JD⟩,af.refl _ _⟩
  clear rY qp jI fG kJ JD HI;obtain⟨Kw,Ky,m',er,wj,k',i',n',a',nC,aS,ua',R9,RY,FR,rfl,⟨rI,ED,TF,hl4⟩,oO,gm,fO,hX,qp,jI,⟨tC,Tz,Gf⟩,hU⟩:=hrel;have gM:=dK.ag hU (by rintro(e |e |e)<;>omega);obtain⟨x0,x1⟩:=hX.cells;obtain⟨y0,y1⟩:=hX.aq;obtain⟨m0,m1,m2,m3⟩:=qp.cells;obtain⟨s0,s1⟩:=jI.cells;obtain⟨z0,z1,z2,z3⟩:=gM.cells;obtain⟨g0,g1,g2,g3⟩:=gM.aq;have Gh:=gM.lt;have jg:=(m9.mono (fun _ _ x=>x.elim)).trans hU (S:=fun b=>b=x) (fun b hb e=>e.elim (fun e=>e) (fun e=>by have:=HH.out;omega));by_cases zP:er=0
  case neg=>
    have o8:R=⟨er,Tm.aO,wj⟩:=by rw[oO,if_neg zP]
    have yW:=ak o8;have amz:(er == 0)=false:=by simpa using zP
    have ah:=gM.set (d0:=.int .i64 0) (d1:=.string (B [])) (d2:=.int .i64 0) (d3:=.slice none 0 0);obtain⟨e0,e1,e2,e3⟩:=ah.1.cells;have dJ:=ak (And.intro e0 (And.intro e1 (And.intro e2 (And.intro e3 ah.2))));clear e0 e1 e2 e3 ah o8 oO gm fO zP rI ED TF hl4;go_wp2_with fail;obtain⟨e0,e1,e2,e3,ah⟩:=dJ.out;refine bodyPost_ret (v:=.agg #[.int .i64 0,.string (B []),.int .i64 0,.slice none 0 0]) ?_ rfl ?_
    ·simp[results,Tryz.f172,go_sem,e0,e1,e2,e3]
    rw[yW.out];exact⟨⟨⟨0,[],0,none,0,0,rfl,bD 0 [] 0⟩,hX.ag ah (by omega)⟩,jg.trans ah (fun b hb e=>by have:=HH.out;omega)⟩
  subst zP;rw[if_pos rfl]at oO;obtain⟨ho,m7,Ex,hnj⟩:=gm rfl;have HV:=ak (And.intro oO (And.intro (And.intro ho (And.intro m7 (And.intro Ex hnj))) fO));obtain⟨ls,rfl,Nn,Rd,YD⟩:=sK tC;obtain⟨ul,kD⟩:∃ ul,ul=Kw.length:=⟨_,rfl⟩;obtain⟨sl,gH⟩:∃ sl,sl=Ky.length:=⟨_,rfl⟩;rw[<-kD]at rI ED;rw[<-gH]at TF hl4 jI s1;rw[<-kD];have HL:=ak (And.intro kD (And.intro gH Nn));have Xm:(ul:Int)<=10000:=by omega
  have QW:(sl:Int)<=10000:=by omega
  clear oO gm ho m7 hnj fO kD gH Nn Rd;by_cases dV:zi ul sl k'=true
  case pos=>
    have o8:R=⟨6,Tm.aO,wj⟩:=by
      have h1:=dV;rw[HV.out.1];unfold Tm.ap;rw[<-HL.out.1,<-HL.out.2.1];split
      ·rename_i he;unfold zi at h1;cases Kw with
       |nil=>
        have h0:ul=0:=HL.out.1;subst h0;simp at h1;rw[Tm.uC];rcases h1 with h1 |h1
        ·omega
        rw[if_pos (by simpa using h1)]
       |cons u qg=>
        cases Ky with
        |nil=>have:=HL.out.1;have:=HL.out.2.1;simp at *;omega
        |cons s Hg=>
         rw[Tm.qE,if_neg];intro hk;have Cc:k'=3:=by simpa using hk
         have:=HL.out.1;simp[Cc]at h1;simp at this;omega
      rfl
    have yW:=ak o8;have sf:=hX.mu (.int .i64 6);have bj:af (fun b=>b=x) wr (wr.setCell ⟨x,1,none⟩ (.int .i64 6)):=af.set (af.refl _ _) 1 _;have fD:=gM.ag bj (by omega);have ah:=fD.set (d0:=.int .i64 0) (d1:=.string (B [])) (d2:=.int .i64 0) (d3:=.slice none 0 0);obtain⟨e0,e1,e2,e3⟩:=ah.1.cells;have dJ:=ak (And.intro e0 (And.intro e1 (And.intro e2 (And.intro e3 (And.intro ah.2 (And.intro sf bj))))));have gJ:¬x=H+1+1:=by omega
    have hw:=Wc dV;clear e0 e1 e2 e3 ah o8 sf bj fD dV;have Tk:¬x=H:=by omega
    rcases hw with a1 |⟨a1,a2,rfl⟩|⟨a1,a2,a3,a4,a5⟩
    all_goals
      go_wp2_with fail;obtain⟨e0,e1,e2,e3,ah,sf,bj⟩:=dJ.out;refine bodyPost_ret (v:=.agg #[.int .i64 0,.string (B []),.int .i64 0,.slice none 0 0]) ?_ rfl ?_
      ·simp[results,Tryz.f172,go_sem,e0,e1,e2,e3]
      rw[yW.out];exact⟨⟨⟨0,[],0,none,0,0,rfl,bD 0 [] 0⟩,sf.ag ah gJ⟩,(jg.trans bj (fun _ _ e=>e)).trans ah (fun b hb e=>by have:=HH.out;omega)⟩
  obtain⟨hq,cV⟩:=Qh dV;subst hq;have a1:((ul:Int) !=(ul:Int))=false:=by simp
  clear dV;rcases cV with⟨IQ,mU⟩|⟨IQ,mU⟩
  ·subst IQ;have qx:Kw=[]:=List.length_eq_zero_iff.1 HL.out.1.symm;have hsn:Ky=[]:=List.length_eq_zero_iff.1 HL.out.2.1.symm;have o8:R=⟨0,.mk k' n' i' ls,wj⟩:=by rw[HV.out.1,qx,hsn];unfold Tm.ap;rw[if_pos (show([]:List Tm).length=([]:List Sm).length from rfl),Tm.uC,if_neg (by simpa using mU),Tm.oN HV.out.2.1.2.1]
   have CH:=jY (.mk k' n' i' ls) (by have:=Tm.fA HV.out.2.1.2.1;omega) x wj (fun b=>O b\/b=H\/b=H+1\/b=H+1+1) wr (.inl hx) (fun b e=>by have:=HO.out b e;have:=hU.size;omega) k' i' n' a' nC aS hX tC;rw[Tm.oN HV.out.2.1.2.1]at CH;have yW:=ak o8;have a2:(((0:Nat):Int) == 0)=true:=rfl;have a3:(k' == 3)=false:=by simpa using mU
   clear o8 qx hsn mU;go_wp2_with fail
   (with_reducible refine CH.mono ?_);rintro e w5 ⟨⟨⟨k5,n5,i5,a5,cE,cJ,rfl,gN⟩,qY⟩,ba⟩;have dR:=gM.ag ba (by omega);have ah:=dR.set (d0:=.int .i64 k5) (d1:=.string (B n5)) (d2:=.int .i64 i5) (d3:=.slice a5 cE cJ);clear z0 z1 z2 z3 g0 g1 g2 g3;obtain⟨z0,z1,z2,z3⟩:=dR.cells;obtain⟨g0,g1,g2,g3⟩:=dR.aq;obtain⟨e0,e1,e2,e3⟩:=ah.1.cells;have dJ:=ak (And.intro e0 (And.intro e1 (And.intro e2 (And.intro e3 ah.2))));have gJ:¬x=H+1+1:=by omega
   clear e0 e1 e2 e3 ah;go_wp2_with fail;obtain⟨e0,e1,e2,e3,ah⟩:=dJ.out;refine bodyPost_ret (v:=.agg #[.int .i64 k5,.string (B n5),.int .i64 i5,.slice a5 cE cJ]) ?_ rfl ?_
   ·simp[results,Tryz.f172,go_sem,e0,e1,e2,e3]
   rw[yW.out];exact⟨⟨⟨k5,n5,i5,a5,cE,cJ,rfl,aw.weaken (fun b _ e=>.inl e) _ _ (aw.ag ah (fun b e=>.inr (.inr (.inr e))) _ _ gN)⟩,qY.ag ah gJ⟩,(jg.trans ba (fun _ _ e=>e)).trans ah (fun b hb e=>by have:=HH.out;omega)⟩
  subst mU
  obtain⟨u0,qg,rfl⟩:∃ u qg,Kw=u :: qg:=by
    cases Kw with
    |nil=>have:=HL.out.1;simp at this;omega
    |cons u qg=>exact⟨u,qg,rfl⟩
  obtain⟨MO,Hg,rfl⟩:∃ u qg,Ky=u :: qg:=by
    cases Ky with
    |nil=>have:=HL.out.2.1;simp at this;omega
    |cons u qg=>exact⟨u,qg,rfl⟩
  obtain⟨b0,rfl⟩:∃ b0,ls=[b0]:=⟨_,(Tm.oW HV.out.2.1.1 rfl).2⟩;obtain rfl:nC=1:=HL.out.2.2;obtain⟨ab,ao,bk,bn,bi,bs,bc,rfl,afW,ahy,c0,c1,c2,c3,uw⟩:=aY YD 0 (by simp);simp only[Nat.zero_mul,Nat.add_zero,List.getElem_cons_zero]at c0 c1 c2 c3 uw;have uS:=(Tm.In.of HV.out.2.1.1 HV.out.2.1.2.1).arg 0 (by simp);simp only[List.getElem_cons_zero]at uS
  obtain⟨ub,uo,rfl,hub⟩:∃ b o,ua'=some ⟨b,o,none⟩/\b<wr.heap.size:=by
    obtain⟨b,o,_,e,hb,_⟩:=Tz.get 0 (by simp);exact⟨b,o,e,hb⟩
  obtain⟨qU,so,rfl,NY⟩:∃ b o,RY=some ⟨b,o,none⟩/\b<wr.heap.size:=by
    obtain⟨b,o,_,e,hb,_⟩:=Gf.get 0 (by simp);exact⟨b,o,e,hb⟩
  have acL:=Ee Tz;have aaw:=Ee Gf;have aev:=CP Tz;have ahr:=CP Gf;have BO:=HV.out.2.2.1 u0 (by simp);have UQ:=HV.out.2.2.2 MO (by simp);obtain⟨rs,hrs⟩:∃ rs,rs=Tm.sb n [u0] [MO] 0 b0 wj:=⟨_,rfl⟩;have gm:=Tm.oD n [u0] [MO] 0 b0 wj (by simpa using BO) (by omega) (by have:=uS.1.depth;omega) (Tm.oW HV.out.2.1.1 rfl).1;have mO:=Tm.uq n [u0] [MO] 0 b0 wj Ex;have JQ:=Tm.yS n [u0] [MO] 0 b0 wj;have SN:=Tm.Bw n [u0] [MO] 0 b0 wj
  have dw:R=(if rs.e=0 then Tm.ap (Tm.oI n) rs.t Hg qg rs.w else⟨rs.e,Tm.aO,rs.w⟩):=by
    have du:qg.length=Hg.length:=by have:=HL.out.1;have:=HL.out.2.1;simp at *;omega
    rw[HV.out.1];unfold Tm.ap;rw[if_pos (by simp[du]),if_pos du,Tm.qE,if_pos (show(Tm.mk 3 n' i' [b0]).kind=3 from rfl)];show(if(Tm.sb n [u0] [MO] 0 b0 wj).e=0 then _ else Tm.sb n [u0] [MO] 0 b0 wj)=_;rw[hrs];split
    ·rfl
    rename_i he;have:=SN he;rcases hh:Tm.sb n [u0] [MO] 0 b0 wj with⟨e1,e2,e3⟩;rw[hh]at this;simp only at this;rw[this]
  have KA:=IH [u0] [MO] 0 b0 wj x (fun b=>O b\/b=H\/b=H+1\/b=H+1+1) wr.drew (some ⟨ub,uo,none⟩) R9 (some ⟨qU,so,none⟩) FR _ HV.out.2.1.2.2.2 Ex rfl (by simp) (by simpa using BO) (by simpa using UQ) (by omega) (by have:=uS.1.depth;omega) uS.1 (.inl hx)
    (fun b e=>by have:=HO.out b e;have:=hU.size;have:wr.drew.heap.size=wr.heap.size:=rfl;omega) (hX.kept (af.refl ae _).drew) (acL.on (af.refl ae _).drew) (aaw.on (af.refl ae _).drew) (uw.on (af.refl ae _).drew)
  rw[<-hrs]at gm mO JQ KA;simp only[List.length_cons,List.length_nil,Nat.zero_add]at KA;have jZ:=ak (And.intro dw (And.intro gm (And.intro mO JQ)));have HL2:Hid (ul=qg.length+1/\ul=Hg.length+1):=ak ⟨by have:=HL.out.1;simpa using this,by have:=HL.out.2.1;simpa using this⟩;have hd:af ae wr wr.drew:=(af.refl ae _).drew;have hm4:=qp.kept hd;have Bv:=jI.kept hd;have hq4:=Bv.lt;have apM:(1:Int)<=(R9:Int):=by omega
  have ars:(1:Int)<=(FR:Int):=by omega
  have Hh:(0:Int)<(ul:Int):=by omega
  have a2:((ul:Int) == 0)=false:=by simp;omega
  have Tk:¬H=x:=by omega
  have ahI:¬H+1=x:=by omega
  clear dw gm mO JQ SN hrs BO UQ acL aaw uw YD uS;go_upto_region 9 with fail
  go_cut []from 48 to 58 (fun wc=>∃(k5:Int)(n5:List UInt8)(i5:Int)(a5:Option Addr)(cE cJ:Nat),bK wc x (.int .i64 (rs.w:Int)) (.int .i64 rs.e) 181/\au wc H (.int .i64 k5) (.string (B n5)) (.int .i64 i5) (.slice a5 cE cJ) 29/\bK wc (H+1) (.string (B f)) (.slice (some ⟨qU,so,none⟩) ul FR) 115/\
    (aw (fun b=>O b\/b=H\/b=H+1\/b=H+1+1) wc rs.t.az [.int .i64 k5,.string (B n5),.int .i64 i5,.slice a5 cE cJ]/\ai (fun b=>O b\/b=H\/b=H+1\/b=H+1+1) wc 4 (qg.map Tm.az) (some ⟨ub,uo+4,none⟩) 0/\ai (fun b=>O b\/b=H\/b=H+1\/b=H+1+1) wc 2 (Hg.map Sm.az) (some ⟨qU,so+2,none⟩) 0)/\af (fun b=>b=x\/b=H\/b=H+1) w1 wc)
  case first=>
    go_region_law (first
      |((rw[if_pos (by rfl)]);go_simp;(go_at_call 203);refine KA.mono ?_;rintro e w5 ⟨⟨⟨k5,n5,i5,a5,cE,cJ,rfl,gN⟩,qY⟩,ba⟩;have Xt:=hm4.ag ba Tk;have c5:=Xt.cells;have z5:=Xt.aq;obtain⟨c50,c51,c52,c53⟩:=c5;obtain⟨z50,z51,z52,z53⟩:=z5)
      |fail)
    all_goals
      have ah:=Xt.set (d0:=.int .i64 k5) (d1:=.string (B n5)) (d2:=.int .i64 i5) (d3:=.slice a5 cE cJ);have yz:=(Bv.ag ba ahI).ag ah.2 (by omega);have tL:=qY.ag ah.2 (by omega);have bj:=((hU.trans hd (fun _ _ e=>e.elim)).trans ba (fun _ _ e=>.inl e)).trans ah.2 (fun _ _ e=>.inr (.inl e));have dg:=aw.ag ah.2 (fun b e=>.inr (.inl e)) _ _ gN;have Pl:=ai.ag ah.2 (fun b e=>.inr (.inl e)) _ _ _ _ (ai.ag ba (fun b e=>.inl (by rw[e];exact hx)) _ _ _ _ (aev.on hd));have Py:=ai.ag ah.2 (fun b e=>.inr (.inl e)) _ _ _ _ (ai.ag ba (fun b e=>.inl (by rw[e];exact hx)) _ _ _ _ (ahr.on hd));have O0:=ah.1;clear ah;go_wp2_with fail;go_meet
    all_goals exact⟨k5,n5,i5,a5,cE,cJ,tL,O0,yz,⟨dg,Pl,Py⟩,bj⟩
  obtain⟨k5,n5,i5,a5,cE,cJ,tL,O0,yz,⟨dg,Pl,Py⟩,bj⟩:=hcut;obtain⟨w6,rfl⟩:∃ q,q=wc:=⟨wc,rfl⟩;clear s0 s1;obtain⟨s0,s1⟩:=yz.cells;obtain⟨t0,t1⟩:=yz.aq;have anN:=yz.lt;have ap7:(1:Int)<=(ul:Int):=by omega
  have e1:qg.length=ul - 1:=by have:=HL2.out.1;omega
  have e2:Hg.length=ul - 1:=by have:=HL2.out.2;omega
  have hRg:R=(if rs.e=0 then Tm.ap (Tm.oI n) rs.t Hg qg rs.w else⟨rs.e,Tm.aO,rs.w⟩):=jZ.out.1;have hg6:rs.e=0->rs.t.isObj=true/\rs.t.small=true/\rs.w<=262144/\262145<=n+rs.w:=fun he=>⟨(jZ.out.2.1.elim (fun h=>h.2.1) (fun h=>absurd he h.1)),(jZ.out.2.1.elim (fun h=>h.2.2) (fun h=>absurd he h.1)),jZ.out.2.2.1 he,by have:=jZ.out.2.2.2;have:=HV.out.2.1.2.2.2;omega⟩
  have fj:(∀ u∈qg,u.isObj=true/\u.small=true)/\(∀ s∈Hg,s.size<=4096):=⟨fun u hu=>HV.out.2.2.1 u (by simp[hu]),fun s hs=>HV.out.2.2.2 s (by simp[hs])⟩;have HN:=ak (And.intro (And.intro e1 e2) (And.intro hRg (And.intro hg6 fj)));clear hRg hg6 fj m0 m1 m2 m3 x0 x1 e1 e2;go_upto_region 10 with fail;by_cases hu9:R9=1;all_goals by_cases BK:FR=1
  all_goals go_region_law (fail)
  all_goals
    go_wp2_with fail;go_roundw;case measure=>simp[lenOf];omega
    have e1:=HN.out.1.1;have e2:=HN.out.1.2
    first
      |(have dd:=yz.set (d0:=.string (B f)) (d1:=.slice (some ⟨qU,so+2,none⟩) (ul - 1) (FR - 1));have bU:=dd.2.drew;have mq:=dd.1.kept (af.refl ae _).drew;exact⟨qg,Hg,rs.t,rs.e,rs.w,k5,i5,n5,a5,cE,cJ,some ⟨ub,uo+4,none⟩,R9 - 1,some ⟨qU,so+2,none⟩,FR - 1,oA _ _ e1,by omega,HN.out.2.1,HN.out.2.2.1,HN.out.2.2.2,tL.ag bU (by omega),O0.ag bU (by omega),by rw[e2];exact mq,⟨aw.ag bU (fun b e=>.inr (.inr (.inl e))) _ _ dg,ai.ag bU (fun b e=>.inr (.inr (.inl e))) _ _ _ _ Pl,ai.ag bU (fun b e=>.inr (.inr (.inl e))) _ _ _ _ Py⟩,bj.trans bU (fun b _ e=>.inr (.inr e))⟩)
      |(have dd:=yz.set (d0:=.string (B f)) (d1:=.slice (some ⟨qU,so,none⟩) (ul - 1) (0));have bU:=dd.2.drew;have mq:=dd.1.kept (af.refl ae _).drew;exact⟨qg,Hg,rs.t,rs.e,rs.w,k5,i5,n5,a5,cE,cJ,some ⟨ub,uo+4,none⟩,R9 - 1,some ⟨qU,so,none⟩,0,oA _ _ e1,by omega,HN.out.2.1,HN.out.2.2.1,HN.out.2.2.2,tL.ag bU (by omega),O0.ag bU (by omega),by rw[e2];exact mq,⟨aw.ag bU (fun b e=>.inr (.inr (.inl e))) _ _ dg,ai.ag bU (fun b e=>.inr (.inr (.inl e))) _ _ _ _ Pl,rm (by have:Hg=[]:=List.length_eq_zero_iff.1 (by omega);simp[this])⟩,bj.trans bU (fun b _ e=>.inr (.inr e))⟩)
      |(have dd:=yz.set (d0:=.string (B f)) (d1:=.slice (some ⟨qU,so+2,none⟩) (ul - 1) (FR - 1));have bU:=dd.2.drew;have mq:=dd.1.kept (af.refl ae _).drew;exact⟨qg,Hg,rs.t,rs.e,rs.w,k5,i5,n5,a5,cE,cJ,some ⟨ub,uo,none⟩,0,some ⟨qU,so+2,none⟩,FR - 1,oA _ _ e1,by omega,HN.out.2.1,HN.out.2.2.1,HN.out.2.2.2,tL.ag bU (by omega),O0.ag bU (by omega),by rw[e2];exact mq,⟨aw.ag bU (fun b e=>.inr (.inr (.inl e))) _ _ dg,rm (by have:qg=[]:=List.length_eq_zero_iff.1 (by omega);simp[this]),ai.ag bU (fun b e=>.inr (.inr (.inl e))) _ _ _ _ Py⟩,bj.trans bU (fun b _ e=>.inr (.inr e))⟩)
      |(have dd:=yz.set (d0:=.string (B f)) (d1:=.slice (some ⟨qU,so,none⟩) (ul - 1) (0));have bU:=dd.2.drew;have mq:=dd.1.kept (af.refl ae _).drew;exact⟨qg,Hg,rs.t,rs.e,rs.w,k5,i5,n5,a5,cE,cJ,some ⟨ub,uo,none⟩,0,some ⟨qU,so,none⟩,0,oA _ _ e1,by omega,HN.out.2.1,HN.out.2.2.1,HN.out.2.2.2,tL.ag bU (by omega),O0.ag bU (by omega),by rw[e2];exact mq,⟨aw.ag bU (fun b e=>.inr (.inr (.inl e))) _ _ dg,rm (by have:qg=[]:=List.length_eq_zero_iff.1 (by omega);simp[this]),rm (by have:Hg=[]:=List.length_eq_zero_iff.1 (by omega);simp[this])⟩,bj.trans bU (fun b _ e=>.inr (.inr e))⟩)
end Go.Proofs.YthgmimncdjhgnaaGreatDoor
