/- Mp K8.expand: sU step. -/
import Derived.Test.YthgmimncdjhgnaaGreatDoorXFD
import Derived.Test.YthgmimncdjhgnaaGreatDoorXFG
import Derived.Test.YthgmimncdjhgnaaGreatDoorXSD
set_option maxRecDepth 100000
set_option maxHeartbeats 16000000
namespace Go.Proofs.YthgmimncdjhgnaaGreatDoor
section
open Go.RowKit Go.LF
def RxR(O:Nat->Prop)(xb:Nat)(la:Option Addr)(ll lc:Nat)(r:Tm.gp)(w:World)(e:Ending)(w':World):Prop:=
  ∃(k i:Int)(n:List UInt8)(a:Option Addr)(len cap:Nat),e=.returned (.agg #[.int .i64 k,.string (B n),.int .i64 i,.slice a len cap])/\
   aw O w' r.t.az [.int .i64 k,.string (B n),.int .i64 i,.slice a len cap]/\eU w' xb (.slice la ll lc) (.int .i64 (r.w:Int)) (.int .i64 r.e) 83/\af (fun b=>b=xb) w w'
def Vk(l:List Mv)(n:Nat)(t:Tm):Prop:=
  ∀(c xb:Nat)(O:Nat->Prop)(w:World)(la:Option Addr)(lc:Nat)(cs:List Value),16385<=n+c->c<=16384->t.wf=0->Kn l.length t->O xb->(∀ b,O b->b<w.heap.size)->
   eU w xb (.slice la l.length lc) (.int .i64 (c:Int)) (.int .i64 0) 83->ai O w 6 (l.map Mv.az) la 0->aw O w t.az cs->
   Calls Tryz.prog 57 #[.pointer (some ⟨xb,0,none⟩),.agg cs.toArray] w (RxR O xb la l.length lc (gG l n t c) w)
theorem rP{O:Nat->Prop}{xb:Nat}{la:Option Addr}{ll lc:Nat}{r:Tm.gp}{w W W':World}{r0:Nat}{k i:Int}{n:List UInt8}{a:Option Addr}{len cap:Nat}(lV:aw (fun b=>O b\/b=r0) W r.t.az [.int .i64 k,.string (B n),.int .i64 i,.slice a len cap])
    (hB:eU W xb (.slice la ll lc) (.int .i64 (r.w:Int)) (.int .i64 r.e) 83) (hU:af (fun b=>b=xb) w W) (ah:af (fun b=>b=r0) W W') (h1:w.heap.size<=r0) (h2:xb<w.heap.size):
    RxR O xb la ll lc r w (.returned (.agg #[.int .i64 k,.string (B n),.int .i64 i,.slice a len cap])) W':=
  ⟨k,i,n,a,len,cap,rfl,aw.weaken (fun b _ e=>.inl e) _ _ (aw.ag ah (fun b e=>.inr e) _ _ lV),hB.ag ah (by omega),hU.trans ah (fun b hb e=>by omega)⟩
theorem eU.kG{W:World}{g:Nat}{c0 c1 c2:Value}{T:TypeId}(h:eU W g c0 c1 c2 T)(v:Value):eU (W.setCell ⟨g,2,none⟩ v) g c0 c1 v T:=by
  obtain⟨aB,hk⟩:=Array.getElem?_eq_some_iff.1 h;show(W.heap.modify g _)[g]? =_;rw[Array.getElem?_eq_getElem (by rw[Array.size_modify];exact aB),Array.getElem_modify_self,hk];rfl
theorem N9{O:Nat->Prop}{base D:Nat}{w6 w7:World}{v k0 k1' k2:Value}{us:List Tm}{css:List (List Value)}{u:Tm}{k1 i1:Int}{n1:List UInt8}{a1:Option Addr}{bH bG g aS:Nat}
    (hD:cS 29 4 O base w6 v (us.map Tm.az) css) (hO:∀ b,O b->b<base) (b6:au w6 D k0 k1' k2 v 29) (Sz:D<base)
    (hR:aw (fun b=>O b\/v.ownBlock=some b) w6 u.az [.int .i64 k1,.string (B n1),.int .i64 i1,.slice a1 bH bG])
    (bq:w7.ownsRow base 29 4 (.slice (some ⟨g,0,none⟩) (us.length+1) aS) (us.length+1) (css.flatten++[.int .i64 k1,.string (B n1),.int .i64 i1,.slice a1 bH bG]))
    (aN:(w6.alloc (.cells #[.int .i64 k1,.string (B n1),.int .i64 i1,.slice a1 bH bG] 29)).grownBy w7 v.ownBlock)
    (ft:v.ownBlock=some g\/g=(w6.alloc (.cells #[.int .i64 k1,.string (B n1),.int .i64 i1,.slice a1 bH bG] 29)).heap.size) (hOD:O D) (_hb6:base<=w6.heap.size):
    ∃ fY,cS 29 4 O base (w7.setCell ⟨D,3,none⟩ (.slice (some ⟨g,0,none⟩) (us.length+1) aS)) (.slice (some ⟨g,0,none⟩) (us.length+1) aS) ((us++[u]).map Tm.az) fY/\
      au (w7.setCell ⟨D,3,none⟩ (.slice (some ⟨g,0,none⟩) (us.length+1) aS)) D k0 k1' k2 (.slice (some ⟨g,0,none⟩) (us.length+1) aS) 29/\
      af (fun b=>b=D\/base<=b) w6 (w7.setCell ⟨D,3,none⟩ (.slice (some ⟨g,0,none⟩) (us.length+1) aS)):=by
  have cK:af ae w6 (w6.alloc (.cells #[.int .i64 k1,.string (B n1),.int .i64 i1,.slice a1 bH bG] 29)):=(af.refl ae w6).alloc _;have rM:=hD.on cK hO;have tk:w7.ownsRow base 29 4 (.slice (some ⟨g,0,none⟩) ((us.map Tm.az).length+1) aS) ((us.map Tm.az).length+1) (css.flatten++[.int .i64 k1,.string (B n1),.int .i64 i1,.slice a1 bH bG]):=by rw[List.length_map];exact bq
  have hn:=rM.appended (d:=u.az) rfl (hR.on cK) tk aN ft (Nat.le_refl _);rw[List.length_map]at hn;have ah:af (fun b=>b=D) w7 (w7.setCell ⟨D,3,none⟩ (.slice (some ⟨g,0,none⟩) (us.length+1) aS)):=af.set (af.refl _ _) 3 _;have cm:af (fun b=>base<=b) w6 w7:=(cK.mono (fun _ _ x=>x.elim)).trans (ck aN) (fun b hb e=>(rM.2.2.1.lt b e).1);have fe:=b6.ag cm (by omega);refine⟨_,by simpa using hn.ag ah (fun b e=>e ▸ hOD) hO,fe.mH _,(cm.mono (fun b _ e=>.inr e)).trans ah (fun b _ e=>.inl e)⟩
theorem tD.new{xb H mb mo:Nat}{x0 t0 t1 t2 t3 m0 m1 m2 m3 m4 m5:Value}{w:World}(h:tD xb H mb mo x0 t0 t1 t2 t3 m0 m1 m2 m3 m4 m5 w)(o:Obj):tD xb H mb mo x0 t0 t1 t2 t3 m0 m1 m2 m3 m4 m5 (w.alloc o):=
  h.ag ((af.refl ae w).alloc o) (((af.refl ae w).alloc o).cell h.1 (fun x=>x)) (fun x=>x) (fun x=>x)
theorem tD.dr{xb H mb mo:Nat}{x0 t0 t1 t2 t3 m0 m1 m2 m3 m4 m5:Value}{w:World}(h:tD xb H mb mo x0 t0 t1 t2 t3 m0 m1 m2 m3 m4 m5 w):tD xb H mb mo x0 t0 t1 t2 t3 m0 m1 m2 m3 m4 m5 w.drew:=
  h.ag ((af.refl ae w).drew) (((af.refl ae w).drew).cell h.1 (fun x=>x)) (fun x=>x) (fun x=>x)
theorem tD.Ac{xb H mb mo r:Nat}{x0 t0 t1 t2 t3 m0 m1 m2 m3 m4 m5:Value}{w:World}(h:tD xb H mb mo x0 t0 t1 t2 t3 m0 m1 m2 m3 m4 m5 w)(h1:¬xb=r)(h2:¬H=r)(h3:¬mb=r)(d0 d1 d2 d3 d4 d5:Value):
    tD xb H mb mo x0 t0 t1 t2 t3 m0 m1 m2 m3 m4 m5 ((((((w.setCell ⟨r,0,none⟩ d0).setCell ⟨r,1,none⟩ d1).setCell ⟨r,2,none⟩ d2).setCell ⟨r,3,none⟩ d3).setCell ⟨r,4,none⟩ d4).setCell ⟨r,5,none⟩ d5):=by
  have hU:af (fun b=>b=r) w ((((((w.setCell ⟨r,0,none⟩ d0).setCell ⟨r,1,none⟩ d1).setCell ⟨r,2,none⟩ d2).setCell ⟨r,3,none⟩ d3).setCell ⟨r,4,none⟩ d4).setCell ⟨r,5,none⟩ d5):=af.set (af.set (af.set (af.set (af.set (af.set (af.refl _ _) 0 _) 1 _) 2 _) 3 _) 4 _) 5 _;exact h.ag hU (hU.cell h.1 h1) h2 h3
abbrev Jd(Z vb vo D:Nat)(z1 z2 z3 z4 z5 v0 v1 v2 v3 d3:Value)(w':World):Prop:=
  (w'.cell? ⟨Z,1,none⟩=some z1/\w'.cell? ⟨Z,2,none⟩=some z2/\w'.cell? ⟨Z,3,none⟩=some z3/\w'.cell? ⟨Z,4,none⟩=some z4/\w'.cell? ⟨Z,5,none⟩=some z5)/\(w'.cell? ⟨vb,vo,none⟩=some v0/\w'.cell? ⟨vb,vo+1,none⟩=some v1/\w'.cell? ⟨vb,vo+2,none⟩=some v2/\w'.cell? ⟨vb,vo+3,none⟩=some v3)/\w'.cell? ⟨D,3,none⟩=some d3
theorem Jd.ag{S:Nat->Prop}{Z vb vo D:Nat}{z1 z2 z3 z4 z5 v0 v1 v2 v3 d3:Value}{w w':World}(h:Jd Z vb vo D z1 z2 z3 z4 z5 v0 v1 v2 v3 d3 w)(hU:af S w w')(h1:¬S Z)(h2:¬S vb)(h3:¬S D):Jd Z vb vo D z1 z2 z3 z4 z5 v0 v1 v2 v3 d3 w':=by
  obtain⟨⟨a1,a2,a3,a4,a5⟩,⟨b0,b1,b2,b3⟩,c0⟩:=h;exact⟨⟨hU.cell a1 h1,hU.cell a2 h1,hU.cell a3 h1,hU.cell a4 h1,hU.cell a5 h1⟩,⟨hU.cell b0 h2,hU.cell b1 h2,hU.cell b2 h2,hU.cell b3 h2⟩,hU.cell c0 h3⟩
theorem Jd.new{Z vb vo D:Nat}{z1 z2 z3 z4 z5 v0 v1 v2 v3 d3:Value}{w:World}(h:Jd Z vb vo D z1 z2 z3 z4 z5 v0 v1 v2 v3 d3 w)(o:Obj):Jd Z vb vo D z1 z2 z3 z4 z5 v0 v1 v2 v3 d3 (w.alloc o):=h.ag ((af.refl ae w).alloc o) (fun x=>x) (fun x=>x) (fun x=>x)
theorem Jd.kT{r Z vb vo D:Nat}{z1 z2 z3 z4 z5 v0 v1 v2 v3 d3:Value}{w:World}(h:Jd Z vb vo D z1 z2 z3 z4 z5 v0 v1 v2 v3 d3 w)(h1:¬Z=r)(h2:¬vb=r)(h3:¬D=r)(d0 d1 d2 d3':Value):
    Jd Z vb vo D z1 z2 z3 z4 z5 v0 v1 v2 v3 d3 ((((w.setCell ⟨r,0,none⟩ d0).setCell ⟨r,1,none⟩ d1).setCell ⟨r,2,none⟩ d2).setCell ⟨r,3,none⟩ d3'):=
  h.ag (af.set (af.set (af.set (af.set (af.refl _ _) 0 _) 1 _) 2 _) 3 _) h1 h2 h3
theorem Ga(l:List Mv)(hG:GW l)(n:Nat)(EX:∀ t,Vk l n t)(t:Tm):Vk l (n+1) t:=by
  induction t using Tm.ind with
  |h k nm i ts ih=>
   intro c xb O w la lc cs hn hc jm FB wO hO hX hL hR;obtain⟨i0,hi,fS,gn,eH⟩:=info_parts de;obtain⟨ta,tc,rfl,EM,hT⟩:=bg.1 hR;have De:=GO jm;have F1:=(Tm.cz _ _ _ _).1 FB;have Lx:=(Tm.bV _).1 F1.2;have xO:=F1.1;obtain⟨tl,jh⟩:∃ tl,tl=ts.length:=⟨_,rfl⟩;rw[<-jh]at xO EM;have aaH:tl<=200:=xO.2;obtain⟨w3,cQ⟩:∃ w3,w3=((w.alloc (.cells #[.int .i64 k,.string (B nm),.int .i64 i,.slice ta tl tc] 29)).alloc (.cells #[.int .i64 0,.string (B []),.int .i64 0,.slice none 0 0] 29)).alloc (.cells #[.int .i64 k,.string (B nm),.int .i64 i,.slice none 0 0] 29):=⟨_,rfl⟩;have aZ:af ae w w3:=by rw[cQ];exact(((af.refl ae w).alloc _).alloc _).alloc _
   have rH:au w3 w.heap.size (.int .i64 k) (.string (B nm)) (.int .i64 i) (.slice ta tl tc) 29:=by rw[cQ];exact((au.av rfl).kept ((af.refl ae _).alloc _)).kept ((af.refl ae _).alloc _)
   have iL:au w3 (w.heap.size+1) (.int .i64 0) (.string (B [])) (.int .i64 0) (.slice none 0 0) 29:=by rw[cQ];exact(au.av (by simp)).kept ((af.refl ae _).alloc _)
   have Hn:au w3 (w.heap.size+1+1) (.int .i64 k) (.string (B nm)) (.int .i64 i) (.slice none 0 0) 29:=by rw[cQ];exact au.av (by simp)
   obtain⟨H,hH⟩:∃ H,H=w.heap.size:=⟨_,rfl⟩;rw[<-hH]at rH iL Hn;have vY:w3.heap.size=H+3:=by rw[cQ,hH];simp
   have j9:∀ b,O b->b<H:=by rw[hH];exact hO
   have Ht:=hX.kept aZ;have xP:=(ai.aG _ _ _ _ hL).on aZ;have lU:=(ai.aG _ _ _ _ hT).on aZ;rw[<-hH]at xP lU;obtain⟨ll,du⟩:∃ ll,ll=l.length:=⟨_,rfl⟩;rw[<-du]at Ht xO;rw[<-du,<-jh];have Dw:(ll:Int)<=40:=by have:=hG.len;omega
   obtain⟨R,iR⟩:∃ R,R=gG l (n+1) (.mk k nm i ts) c:=⟨_,rfl⟩;rw[<-iR];rw[eZ,kY]at iR;have K6:∀ t c,kv (nM l (gG l n)) t c=gG l (n+1) t c:=fun t c=>by rw[eZ]
   obtain⟨g,hg⟩:∃ g,g=nM l (gG l n):=⟨_,rfl⟩;rw[<-hg]at iR K6;have HW:=ak cQ;have HH:=ak hH;have HL:=ak (And.intro jh du);have HP:=ak (And.intro hn (And.intro jm (And.intro j9 iR)));have O8:=ak hg;have TC:(tl:Int)<=200:=by omega
   have HK6:=ak xO.1;have Q7:xb<H:=j9 xb wO;have m9:=aZ;have hOO:∀ b,(O b\/b=H\/b=H+1\/b=H+1+1)->b<H+3:=fun b e=>by rcases e with e |e |e |e;(have:=j9 b e;omega);all_goals omega
   have UC:=ak hOO;clear cQ hH hX hR hL hT hO jm FB jh du iR hn F1 xO hg j9 hOO;obtain⟨t0,t1,t2,t3⟩:=rH.cells;go_enter Tryz.func57,Tryz.ntmps57;go_upto_region 2 with fail;rw[<-show B []={ data:=#[] }from rfl,<-HW.out,<-HH.out];go_wp2_with fail
   go_loopw [6] (fun v6 wr=>∃(j cj:Nat)(ej:Int)(us:List Tm)(v:Value)(css:List (List Value)),v6=.int .i64 (j:Int)/\j<=tl/\((ej=0/\eN g (ts.take j) c=⟨0,us,cj⟩/\cj<=16384/\c<=cj/\us.length=j)\/(ej≠0/\eN g ts c=⟨ej,[],cj⟩))/\us.length<=200/\
       cS 29 4 (fun b=>O b\/b=H\/b=H+1\/b=H+1+1) (H+3) wr v (us.map Tm.az) css/\au wr (H+1+1) (.int .i64 k) (.string (B nm)) (.int .i64 i) v 29/\
       eU wr xb (.slice la ll lc) (.int .i64 (cj:Int)) (.int .i64 ej) 83/\af (fun b=>b=xb\/b=H+1+1\/H+3<=b) w3 wr) (fun v6 _=>tl - (intOf v6).toNat)
   case atStart=>exact⟨0,c,0,[],_,[],rfl,Nat.zero_le _,.inl ⟨rfl,by simp[qC],hc,Nat.le_refl _,rfl⟩,by simp,cS.nil _ _ _ _ _,Hn,Ht,af.refl _ _⟩
   clear Ht t0 t1 t2 t3;obtain⟨j,cj,ej,us,v,css,rfl,hj,SW,cZ,hD,ho,hX,hU⟩:=hrel;have EG:=rH.ag hU (by omega);have Pb:=iL.ag hU (by omega);have BW:(j:Int)<=200:=by omega
   have G5:=hU.size;rw[vY]at G5;have HC:=ak SW;clear SW;obtain⟨x0,x1,x2⟩:=hX.cells;obtain⟨t0,t1,t2,t3⟩:=EG.cells;have nL:(j<tl/\ej=0)\/¬(j<tl/\ej=0):=Classical.em _;rcases nL with⟨aB,rfl⟩|mQ
   ·have b7:j<ts.length:=by have:=HL.out.1;omega
    obtain⟨hA,jG,MG,RO⟩:eN g (ts.take j) c=⟨0,us,cj⟩/\cj<=16384/\c<=cj/\us.length=j:=by
      rcases HC.out with h |h
      ·exact h.2
      exact absurd rfl h.1
    have dw:=pH g ts c j b7 (by rw[hA]);rw[hA,K6]at dw;simp only at dw;have Cb:=List.getElem_mem b7;obtain⟨eb,eo,ek,en,ex,es,ec,rfl,mz,heO,p0,p1,p2,p3,eY⟩:=aY (ai.ag hU (fun b e=>by rcases e with e |e |e;(exact .inl (e ▸ wO));all_goals exact .inr (by omega)) _ _ _ _ lU) j b7;have hvb:=fun b e=>hD.2.2.1.lt b e
    have hd:af ae wr wr.drew:=(af.refl ae wr).drew;have Mf:=ai.ag hU (fun b e=>by rcases e with e |e |e;(exact .inl (e ▸ wO));all_goals exact .inr (by omega)) _ _ _ _ xP;have wk:∀ b,b<wr.heap.size->(O b\/b=H\/b=H+1\/b=H+1+1\/v.ownBlock=some b)->(O b\/H<=b):=fun b _ e=>by rcases e with e |e |e |e |e;(exact .inl e);(exact .inr (by omega));(exact .inr (by omega));(exact .inr (by omega));exact .inr (by have:=(hvb b e).1;omega)
    have IH:=ih ts[j] Cb cj xb (fun b=>O b\/b=H\/b=H+1\/b=H+1+1\/v.ownBlock=some b) wr.drew la lc _ (by have:=HP.out.1;omega) jG (De _ Cb) (Lx _ Cb) (.inl wO)
      (fun b e=>by have h1:=hd.size;have h2:=UC.out b;rcases e with e |e |e |e |e;(have:=h2 (.inl e);omega);(have:=h2 (.inr (.inl e));omega);(have:=h2 (.inr (.inr (.inl e)));omega);(have:=h2 (.inr (.inr (.inr e)));omega);(have:=(hvb b e).2;omega))
      (by rw[<-HL.out.2];exact hX.kept hd) ((ai.weaken wk _ _ _ _ Mf).on hd) ((aw.weaken wk _ _ eY).on hd)
    rw[<-HL.out.2]at IH;obtain⟨r,hr⟩:∃ r,r=gG l (n+1) ts[j] cj:=⟨_,rfl⟩;rw[<-hr]at IH dw;have hnz:r.e≠0->r.t=Tm.aO:=fun h=>by rw[hr]at h ⊢;exact rE l (n+1) _ _ h
    have ln:cj<=r.w:=by rw[hr];exact Ng l (n+1) _ _
    have OL:r.e=0->r.w<=16384:=fun h=>by rw[hr]at h ⊢;exact Im l (n+1) _ _ jG h
    have sY:(r.e=0/\eN g (ts.take (j+1)) c=⟨0,us++[r.t],r.w⟩/\r.w<=16384/\c<=r.w/\(us++[r.t]).length=j+1)\/(r.e≠0/\eN g ts c=⟨r.e,[],r.w⟩):=by
      by_cases h0:r.e=0
      ·rw[if_pos h0]at dw;exact .inl ⟨h0,dw,OL h0,by omega,by simp[RO]⟩
      rw[if_neg h0]at dw;exact .inr ⟨h0,by rw[Ci g ts c (j+1) (by rw[dw];exact h0),dw]⟩
    have HN:=ak sY;have yN:=ak aB;have hzj:(j:Int)<(tl:Int):=by omega
    have Wk:us.length<=1000000:=by omega
    have HUJ:=ak RO;generalize ts[j].args.length=el at *
    obtain⟨o0,o1,o2,o3⟩:=ho.cells;obtain⟨f0,f1,f2,f3⟩:=ho.aq;have qo:=ho.lt;have hdl:(us.map Tm.az).length=us.length:=List.length_map ..;have hDr:=hD;clear hA dw hr hnz ln OL sY Cb hj jG MG RO aB eY ih;go_wp2_with fail
    go_region_law (first
      |((rw[if_pos (by rfl)]);go_simp;(go_at_call 57);(with_reducible refine IH.mono ?_);rintro e w6 ⟨k1,i1,n1,a1,bH,bG,rfl,dg,tL,bj⟩;have sL:=(hd.mono (S':=fun b=>b=xb) (fun _ _ e=>e.elim)).trans bj (fun _ _ e=>e);have Sh:=ho.ag sL (by omega);have BX:=hD.ag sL (fun b e=>.inl (e ▸ wO)) UC.out;have c6:=Sh.cells.2.2.2;have z6:=Sh.frozen 3;have q6:=Sh.lt;have ss6:=sL.size;have rM:=BX.on ((af.refl ae w6).alloc (.cells #[.int .i64 k1,.string (B n1),.int .i64 i1,.slice a1 bH bG] 29)) UC.out)
      |(refine step_append_lies _ (by rfl) _ _ 26 (by rfl) (H+3) 29 i0 (.agg #[.int .i64 0,.string (B []),.int .i64 0,.slice none 0 0]) 4 56 (by kernel_rfl) hi fS gn eH rfl (by decide) v us.length css.flatten (by rfl) (by rw[<-hdl];exact rM.2.2.1) ⟨w6.heap.size,0,none⟩ 1 1 [.int .i64 k1,.string (B n1),.int .i64 i1,.slice a1 bH bG] (by rfl) rfl (World.news_of_block (heap_alloc_new w6 _)) (by simp[Value.oneCell']) (by omega) (by simp only[maxLen];omega) (by omega) (by simp;omega) _ rfl ?_;intro gg aS w7 bq aN ft xY;have Xr:=(Sh.kept ((af.refl ae w6).alloc _)).D9 aN rM (by omega);have c7:=Xr.cells.2.2.2;have z7:=Xr.frozen 3;have q7:=Xr.lt))
    all_goals
      obtain⟨fY,O9,ho8,cW⟩:=N9 BX UC.out Sh (by omega) (aw.weaken (fun b _ e=>by rcases e with(e |e |e |e)|e;(exact .inl e);(exact .inr (.inl e));(exact .inr (.inr (.inl e)));(exact .inr (.inr (.inr (.inl e))));exact .inr (.inr (.inr (.inr e)))) _ _ dg) bq aN ft (.inr (.inr (.inr rfl))) (by omega);have KQ:=tL.ag cW (by omega);have aa1:=(hU.trans sL (fun b hb e=>.inl e)).trans cW (fun b hb e=>.inr e);have HF:=ak (And.intro O9 (And.intro ho8 (And.intro KQ aa1)));clear O9 ho8 KQ aa1 cW tL bj BX rM dg;go_wp2_with fail;go_roundw;case rel=>exact⟨j+1,r.w,r.e,us++[r.t],_,fY,by go_num,Nat.succ_le_of_lt yN.out,HN.out,by rw[List.length_append,List.length_singleton];have:=HUJ.out;have:=yN.out;omega,HF.out.1,HF.out.2.1,HF.out.2.2.1,HF.out.2.2.2⟩
      (have:=yN.out;simp[intOf];omega)
   have jg:af (fun b=>b=xb) w wr:=(m9.mono (fun _ _ e=>e.elim)).trans hU (fun b hb e=>by rcases e with e |e |e;(exact e);all_goals(have:=HH.out;omega));obtain⟨y0,y1,y2,y3⟩:=Pb.cells;obtain⟨z0,z1,z2,z3⟩:=Pb.aq;have qr:=Pb.lt;by_cases XO:ej=0
   case neg=>
     have fG:R=⟨ej,Tm.aO,cj⟩:=by
       rcases HC.out with h |h
       ·exact absurd h.1 XO
       rw[HP.out.2.2.2,h.2,if_neg XO]
     have HR:=ak fG;have apP:(ej == 0)=false:=by simpa using XO
     have ao7:(ej !=0)=true:=by simpa using XO
     have ah:=Pb.set (d0:=.int .i64 0) (d1:=.string (B [])) (d2:=.int .i64 0) (d3:=.slice none 0 0);have dJ:=ak ah;have cV:(j:Int)<(tl:Int)\/¬(j:Int)<(tl:Int):=Classical.em _;clear ah fG XO mQ ih;rcases cV with aB |aB
     all_goals
       go_wp2_with fail;obtain⟨gK,ah⟩:=dJ.out;obtain⟨e0,e1,e2,e3⟩:=gK.cells;refine bodyPost_ret (v:=.agg #[.int .i64 0,.string (B []),.int .i64 0,.slice none 0 0]) ?_ rfl ?_
       ·simp[results,Tryz.f57,go_sem,e0,e1,e2,e3]
       exact rP (r0:=H+1) (by rw[HR.out];exact bD 0 [] 0) (by rw[HR.out];exact hX) jg ah (by have:=HH.out;omega) (by have:=HH.out;omega)
   subst XO;have Qe:j=tl:=by omega
   obtain⟨O7,jG,MG,RO⟩:eN g ts c=⟨0,us,cj⟩/\cj<=16384/\c<=cj/\us.length=tl:=by
     rcases HC.out with h |h
     ·have h2:=h.2.1;rw[List.take_of_length_le (by have:=HL.out.1;omega)]at h2;exact⟨h2,h.2.2.1,h.2.2.2.1,by omega⟩
     exact absurd rfl h.1
   obtain⟨a9,dQ,rfl,lP,Gv⟩:=hD.rep UC.out;simp only[List.length_map]at lP;rw[List.length_map]at ho;have lM:aw (fun b=>O b\/b=H\/b=H+1\/b=H+1+1) wr (Tm.mk k nm i us).az [.int .i64 k,.string (B nm),.int .i64 i,.slice a9 us.length dQ]:=bg.2 ⟨_,_,rfl,lP,Gv⟩;have gm:=Ei hG (n:=n) (c:=c) (ts:=ts) (by rw[<-O8.out,O7]);rw[<-O8.out,O7]at gm;simp only at gm;have Mf:=ai.ag hU (fun b e=>by rcases e with e |e |e;(exact .inl (e ▸ wO));all_goals exact .inr (by omega)) _ _ _ _ xP;have HU:=ak (And.intro RO (And.intro O7 gm));obtain⟨sb,NY⟩:∃ sb,sb=(zo l k i).isSome:=⟨_,rfl⟩;have L3:=ak NY
   have KW:k=6->0<=i:=fun e=>by
     have h:=HP.out.2.1;rw[e]at h;exact(uF h).2
   have HK0:=ak KW;obtain⟨w8,rfl⟩:∃ q,q=wr:=⟨wr,rfl⟩;have sA:¬(j:Int)<(tl:Int):=by omega
   clear NY KW O7 gm Qe mQ hD ih;go_upto_region 8 with fail;go_cut [64]from 49 to 64 (fun v64 wx=>v64=.bool (!sb)/\af ae w8 wx)
   case first=>
     by_cases hk:k=6
     ·have fS:=HK0.out hk;have N4:=HK6.out hk;obtain⟨p,rfl⟩:∃ p:Nat,i=(p:Int):=⟨i.toNat,by omega⟩;have jB:p<l.length:=by have:=HL.out.2;omega
      have Rh:p<ll:=by omega
      obtain⟨b2,o2,k2,n2,wV,uP,fP,Ca,zw,rfl,pB,_,⟨c0,c1,c2,c3,c4,c5⟩,_,_,_⟩:=ja Mf p jB
      have hsv:sb=!(l[p].value.isEmpty):=by
        rw[L3.out];unfold zo;rw[if_pos ⟨hk,fS⟩];simp only[Int.toNat_natCast,List.getElem?_eq_getElem jB];cases l[p].value<;>rfl
      obtain⟨vl,xN⟩:∃ vl,vl=l[p].value.length:=⟨_,rfl⟩;rw[<-xN]at c5
      have Nj:sb=decide (0<vl):=by
        rw[hsv,xN];cases l[p].value<;>simp
      have F7:=ak Nj;generalize l[p].type.args.length=Lm at *
      generalize l[p].name=PO at *
      have e5:=c5;have Kt:vl=0\/0<vl:=by omega
      have Cc:(k !=6)=false:=by simpa using hk
      clear hsv Nj xN c0 c1 c2 c3 c4 c5 hk y0 y1 y2 y3 z0 z1 z2 z3;rcases Kt with rfl |Kt
      ·go_quiet (fail)
       all_goals
         go_wp2_with fail;go_meet
         exact⟨by rw[F7.out];rfl,gX _ _⟩
      have hvi:((vl:Int) == 0)=false:=by simp;omega
      go_quiet (fail)
      all_goals
        go_wp2_with fail;go_meet
        exact⟨by rw[F7.out,decide_eq_true Kt];rfl,gX _ _⟩
     have Cc:(k !=6)=true:=by simpa using hk
     have F7:=ak (show sb=false by rw[L3.out,H7 hk];rfl);clear hk;go_quiet (fail)
     all_goals
       go_wp2_with fail;go_meet
       exact⟨by rw[F7.out];rfl,gX _ _⟩
   obtain⟨rfl,vC⟩:=hcut;obtain⟨wd,rfl⟩:∃ wd,wd=wc:=⟨_,rfl⟩;have EM:=EG.kept vC;have ln:=Pb.kept vC;have Hu:=ho.kept vC;have N5:=hX.kept vC;have kz:=lM.on vC;have Ce:=Mf.on vC;have hEc:=Gv.on vC;have F5:af (fun b=>b=xb) w wd:=jg.trans vC (fun _ _ e=>e.elim);have iR:=HP.out.2.2.2;rw[HU.out.2.1,if_pos rfl]at iR;simp only at iR;have hzc:=vC.size;obtain⟨ul,um⟩:∃ ul,ul=us.length:=⟨_,rfl⟩;rw[<-um]at lP kz Hu;have Fv:=ak um;clear vC lM Mf Gv ho hX Pb EG hU jg x0 x1 x2 t0 t1 t2 t3 y0 y1 y2 y3 z0 z1 z2 z3 qr HK6 um;have Uk:H+1<wd.heap.size:=ln.lt;obtain⟨TH,Wr,TA,Wx⟩:=Hu.cells;obtain⟨x0,x1,x2⟩:=N5.cells;have fx:=N5.aq;have FY:=N5.lt;cases sb
   case false=>
     have pA:zo l k i=none:=by
       have h:=L3.out;cases hh:zo l k i with
       |none=>rfl
       |some m=>rw[hh]at h;cases h
     have fG:R=Tm.jo (.mk k nm i us) cj:=by rw[iR,O8.out,wL pA];rfl
     have ee:(Tm.mk k nm i us).size<=1000000:=by
       have h1:Tm.aD us<=us.length * 4096:=sV (fun u hu=>(HU.out.2.2 u hu).1);have h2:us.length=tl:=HU.out.1;rw[h2]at h1;rw[Tm.aM];omega
     have SM:=gz (Tm.mk k nm i us) ee wd _ (dj kz);obtain⟨nd,JV⟩:∃ nd,nd=Tm.mk k nm i us:=⟨_,rfl⟩;rw[<-JV]at SM fG kz;obtain⟨sm,m7⟩:∃ sm,sm=nd.small:=⟨_,rfl⟩;rw[<-m7]at SM;have Oo:=ak (And.intro fG m7);clear iR pA fG JV m7 ee;go_wp2_with fail
     (with_reducible refine SM.mono ?_);rintro e w9 ⟨rfl,bU⟩;have gM:=ln.kept bU;have sr:=N5.kept bU;have QD:af (fun b=>b=xb) w w9:=F5.trans bU (fun _ _ e=>e.elim);have FJ:=kz.on bU;clear SM x0 x1 x2 fx FY TH Wr TA Wx;cases sm
     case false=>
       have yd:R=⟨2,Tm.aO,cj⟩:=by rw[Oo.out.1];unfold Tm.jo;rw[if_neg (by rw[<-Oo.out.2];simp)]
       have HR:=ak yd;obtain⟨kB,nt⟩:∃ kB,kB=w9.setCell ⟨xb,2,none⟩ (.int .i64 2):=⟨_,rfl⟩;have pc:eU kB xb (.slice la ll lc) (.int .i64 (cj:Int)) (.int .i64 2) 83:=by rw[nt];exact sr.kG _
       have Zq:af (fun b=>b=xb) w9 kB:=by rw[nt];exact af.set (af.refl _ _) 2 _
       have lv:=gM.ag Zq (by omega);have gZ:=QD.trans Zq (fun _ _ e=>e);obtain⟨x0,x1,x2⟩:=sr.cells;have fx:=sr.aq;have FY:=sr.lt;obtain⟨y0,y1,y2,y3⟩:=lv.cells;obtain⟨z0,z1,z2,z3⟩:=lv.aq;have qr:=lv.lt;have ah:=lv.set (d0:=.int .i64 0) (d1:=.string (B [])) (d2:=.int .i64 0) (d3:=.slice none 0 0);have dJ:=ak ah;have V7:=ak nt;clear ah yd nt;go_upto_region 11 with fail;rw[<-V7.out];clear x0 x1 x2 fx;go_wp2_with fail;obtain⟨gK,ah⟩:=dJ.out;obtain⟨e0,e1,e2,e3⟩:=gK.cells;refine bodyPost_ret (v:=.agg #[.int .i64 0,.string (B []),.int .i64 0,.slice none 0 0]) ?_ rfl ?_
       ·simp[results,Tryz.f57,go_sem,e0,e1,e2,e3]
       exact rP (r0:=H+1) (by rw[HR.out];exact bD 0 [] 0) (by rw[HR.out];exact pc) gZ ah (by have:=HH.out;omega) (by have:=HH.out;omega)
     case true=>
       have yd:R=⟨0,nd,cj⟩:=by rw[Oo.out.1];unfold Tm.jo;rw[if_pos (by rw[<-Oo.out.2])]
       have HR:=ak yd;obtain⟨o0,o1,o2,o3⟩:=(Hu.kept bU).cells;obtain⟨y0,y1,y2,y3⟩:=gM.cells;obtain⟨z0,z1,z2,z3⟩:=gM.aq;have qr:=gM.lt;have ah:=gM.set (d0:=.int .i64 k) (d1:=.string (B nm)) (d2:=.int .i64 i) (d3:=.slice a9 ul dQ);have dJ:=ak ah;clear ah yd;go_wp2_with fail;obtain⟨gK,ah⟩:=dJ.out;obtain⟨e0,e1,e2,e3⟩:=gK.cells;refine bodyPost_ret (v:=.agg #[.int .i64 k,.string (B nm),.int .i64 i,.slice a9 ul dQ]) ?_ rfl ?_
       ·simp[results,Tryz.f57,go_sem,e0,e1,e2,e3]
       exact rP (r0:=H+1) (by rw[HR.out];exact aw.weaken (fun b _ e=>by rcases e with e |e;(exact .inl e);exact .inr (.inr (.inl e))) _ _ FJ) (by rw[HR.out];exact sr) QD ah (by have:=HH.out;omega) (by have:=HH.out;omega)
   case true=>
     obtain⟨m,pA⟩:∃ m,zo l k i=some m:=by
       have h:=L3.out;cases hh:zo l k i with
       |none=>rw[hh]at h;cases h
       |some m=>exact⟨m,rfl⟩
     obtain⟨hk,apk,N4,ky,mR,xm⟩:=lJ pA;obtain⟨p,rfl⟩:∃ p:Nat,i=(p:Int):=⟨i.toNat,by omega⟩;have jB:p<l.length:=by omega
     have hm:m=l[p]:=by
       rw[Int.toNat_natCast,List.getElem?_eq_getElem jB]at ky;exact(Option.some.inj ky).symm
     subst hm;have fG:R=Oh l n l[p] us cj:=by rw[iR,O8.out,vJ pA];rfl
     have Rh:p<ll:=by have:=HL.out.2;omega
     have Np:=(uF (by have h:=HP.out.2.1;rw[hk]at h;exact h)).1;have HK:=ak hk;clear hk
     obtain⟨v,Hd⟩:∃ v,l[p].value=[v]:=by
       have h1:=(hG.mv _ mR).one;match Io:l[p].value,xm with
       | [v],_=>exact⟨v,rfl⟩
       |a :: b :: r,_=>rw[Io]at h1;simp at h1
     have KH:=(hG.mv _ mR).val v (by rw[Hd];simp);have hkv:=(hG.mv _ mR).kn.2 v (by rw[Hd];simp);obtain⟨Sk,eB⟩:=(hG.mv _ mR).kQ;have jx:=qt Sk eB;have gd:∀ u∈us,u.isObj=true/\u.small=true/\Kn l.length u:=fun u hu=>⟨(HU.out.2.2 u hu).2.1 Np,(HU.out.2.2 u hu).1,(HU.out.2.2 u hu).2.2 Lx⟩
     have CG:(Tm.er l[p].type).wt<=1000000:=by
       have h1:=(Tm.RG l[p].type).1;have h2:=Tm.iM jx;have h3:=(Tm.dz jx).2.1;omega
     have ERm:=fun(W:World)h=>Fp l[p].type (by have:=(Tm.dz jx).2.1;omega) (Tm.dz jx).1 W h
     have hvw:v.wt<=1000000:=by have:=Tm.lT KH.1 KH.2;omega
     have xV:∀ u∈us,u.wt<=1000000:=fun u hu=>by have:=Tm.lT (gd u hu).1 (gd u hu).2.1;omega
     unfold Oh at fG;rw[show l[p].value.headD Tm.aO=v by rw[Hd];rfl]at fG
     have ve:m6 v l[p].type.er us=0->(lp v l[p].type.er us).wf=0/\Kn l.length (lp v l[p].type.er us):=fun he=>by
       obtain⟨h1,h2⟩:=rb he;exact⟨Tm.jq h1 h2,rA Fg AW hkv ((Tm.bV us).2 fun u hu=>(gd u hu).2.2)⟩
     have AP:=fun(Q:Nat)(W:World)(hq:∀ b,(O b\/b=H\/b=H+1\/b=Q)->b<W.heap.size)(tw:List Value)(yR:List Value)h1 h2 h3=>AK (fun b=>O b\/b=H\/b=H+1\/b=Q) v (l[p]'jB).type.er us hvw xV CG (by have:=HU.out.1;omega) W hq tw yR a9 dQ (by rw[<-Fv.out];exact lP) h1 h2 h3
     obtain⟨aE,YW⟩:∃ aE,aE=m6 v l[p].type.er us:=⟨_,rfl⟩;obtain⟨aT,haT⟩:∃ aT,aT=lp v l[p].type.er us:=⟨_,rfl⟩;rw[<-YW,<-haT]at fG ve AP;rw[<-Fv.out]at AP;have VB:=EX aT;obtain⟨b2,o2,k2,n2,wV,uP,fP,Ca,zw,rfl,pB,tI,⟨c0,c1,c2,c3,c4,c5⟩,uR,wG,H6⟩:=ja Ce p jB;rw[Hd]at H6 wG c5;simp only[List.length_cons,List.length_nil,Nat.zero_add]at wG c5;generalize l[p].type.er=sm at *
     generalize l[p].type.args.length=Lm at *
     generalize l[p].name=PO at *
     have n5:¬b2=xb:=fun e=>tI (.inl (e ▸ wO))
     have Xg:(cj:Int)<=16384:=by omega
     have arb:(0:Int)<=(cj:Int):=by omega
     have HP2:=ak (And.intro fG ve);obtain⟨A3,j6⟩:∃ A3,A3=wd.setCell ⟨xb,1,none⟩ (.int .i64 ((cj:Int)+1)):=⟨_,rfl⟩;have iu:af (fun b=>b=xb) wd A3:=by rw[j6];exact af.set (af.refl _ _) 1 _
     have JC:eU A3 xb (.slice (some ⟨b2,o2,none⟩) ll lc) (.int .i64 ((cj:Int)+1)) (.int .i64 0) 83:=by rw[j6];exact N5.mu _
     have Zr:=EM.ag iu (by omega);have V5:=ln.ag iu (by omega);have Wg:=Hu.ag iu (by omega);have kg:af (fun b=>b=xb) w A3:=F5.trans iu (fun _ _ e=>e);have Bs:∀ b,b=xb->(O b\/H<=b):=fun b e=>.inl (e ▸ wO)
     have Yx:=ai.ag iu Bs _ _ _ _ Ce;have Tl:=aw.ag iu Bs _ _ uR;have aaS:=ai.ag iu Bs _ _ _ _ H6;have ab4:=ai.ag iu (fun b e=>.inl (e ▸ wO)) _ _ _ _ hEc;have tw:=iu.cell c0 n5;have s5:=iu.cell c1 n5;have ju:=iu.cell c2 n5;have yT:=iu.cell c3 n5;have hc4:=iu.cell c4 n5;have hc5:=iu.cell c5 n5;have agS:=ak j6;have amG:=iu.size;have amO:H+1+1<A3.heap.size:=Wg.lt;have anv:b2<A3.heap.size:=by omega
     clear iR pA ky xm mR fG uR H6 c0 c1 c2 c3 c4 c5 Np ve YW haT Hd KH hkv Sk eB jx CG hvw xV gd EX j6 N5 EM ln Hu F5 Ce hEc kz;go_upto_region 14 with fail;rw[<-agS.out];clear x0 x1 x2 fx FY TH Wr TA Wx;obtain⟨x0,x1,x2⟩:=JC.cells;have fx:=JC.aq;have FY:=JC.lt;by_cases rQ:16384<cj+1
     ·have yd:R=⟨2,Tm.aO,cj+1⟩:=by rw[HP2.out.1,if_pos rQ]
      have HR:=ak yd;have uy:(16384:Int)<(cj:Int)+1:=by omega
      obtain⟨OW,Ae⟩:∃ OW,OW=A3.setCell ⟨xb,2,none⟩ (.int .i64 2):=⟨_,rfl⟩;have Wf:eU OW xb (.slice (some ⟨b2,o2,none⟩) ll lc) (.int .i64 ((cj:Int)+1)) (.int .i64 2) 83:=by rw[Ae];exact JC.kG _
      have Nx:af (fun b=>b=xb) A3 OW:=by rw[Ae];exact af.set (af.refl _ _) 2 _
      have Ad:=V5.ag Nx (by omega);have jl:=kg.trans Nx (fun _ _ e=>e);obtain⟨y0,y1,y2,y3⟩:=Ad.cells;obtain⟨z0,z1,z2,z3⟩:=Ad.aq;have qr:=Ad.lt;have ah:=Ad.set (d0:=.int .i64 0) (d1:=.string (B [])) (d2:=.int .i64 0) (d3:=.slice none 0 0);have dJ:=ak ah;have UL:=ak Ae;clear ah yd Ae rQ;go_upto_region 16 with fail;rw[<-UL.out];clear x0 x1 x2 fx;go_wp2_with fail;obtain⟨gK,ah⟩:=dJ.out;obtain⟨e0,e1,e2,e3⟩:=gK.cells;refine bodyPost_ret (v:=.agg #[.int .i64 0,.string (B []),.int .i64 0,.slice none 0 0]) ?_ rfl ?_
      ·simp[results,Tryz.f57,go_sem,e0,e1,e2,e3]
      exact rP (r0:=H+1) (by rw[HR.out];exact bD 0 [] 0) (by rw[HR.out];exact Wf) jl ah (by have:=HH.out;omega) (by have:=HH.out;omega)
     have OV:=ak (show R=if aE≠0 then⟨aE,Tm.aO,cj+1⟩else gG l n aT (cj+1) by rw[HP2.out.1,if_neg rQ]);have uy:¬(16384:Int)<(cj:Int)+1:=by omega
     have hbg:cj+1<=16384:=by omega
     obtain⟨t0,t1,t2,t3⟩:=Zr.cells;have S17:tD xb H b2 (o2+p * 6) (.slice (some ⟨b2,o2,none⟩) ll lc) (.int .i64 k) (.string (B nm)) (.int .i64 (p:Int)) (.slice ta tl tc) (.string (B PO)) (.int .i64 k2) (.string (B n2)) (.int .i64 wV) (.slice uP Lm fP) (.slice Ca 1 zw) A3:=⟨x0,⟨t0,t1,t2,t3⟩,tw,s5,ju,yT,hc4,hc5⟩;have af8:=S17.dr;have ah1:tD xb H b2 (o2+p * 6) (.slice (some ⟨b2,o2,none⟩) ll lc) (.int .i64 k) (.string (B nm)) (.int .i64 (p:Int)) (.slice ta tl tc) (.string (B PO)) (.int .i64 k2) (.string (B n2)) (.int .i64 wV) (.slice uP Lm fP) (.slice Ca 1 zw) (A3.alloc (.cells #[.string (B []),.int .i64 0,.string (B []),.int .i64 0,.slice none 0 0,.slice none 0 0] 96)).drew:=(S17.new _).dr;have m1:¬xb=A3.heap.size:=by omega
     have m2:¬H=A3.heap.size:=by omega
     have m3:¬b2=A3.heap.size:=by omega
     clear rQ;go_upto_region 17 with fail;clear x0 x1 x2 fx t0 t1 t2 t3 tw s5 ju yT hc4 hc5;go_cut [7]from 89 to 96 (fun v7 wc=>∃ Z,v7=.pointer (some ⟨Z,0,none⟩)/\A3.heap.size<=Z/\bC wc Z (.string (B PO)) (.int .i64 k2) (.string (B n2)) (.int .i64 wV) (.slice uP Lm fP) (.slice Ca 1 zw) 96/\af ae A3 wc)
     case first=>
       go_region_held3 (fun w'=>tD xb H b2 (o2+p * 6) (.slice (some ⟨b2,o2,none⟩) ll lc) (.int .i64 k) (.string (B nm)) (.int .i64 (p:Int)) (.slice ta tl tc) (.string (B PO)) (.int .i64 k2) (.string (B n2)) (.int .i64 wV) (.slice uP Lm fP) (.slice Ca 1 zw) w')
         (first |(with_reducible assumption)|(with_reducible exact ah1)|(repeat' (first |(with_reducible assumption)|(with_reducible refine tD.new ?_ _)|(with_reducible refine tD.dr ?_)|(with_reducible refine tD.Ac ?_ m1 m2 m3 _ _ _ _ _ _))))
         (fail)
       all_goals
         go_wp2_with fail;go_meet
       all_goals exact⟨_,rfl,by(try simp only[World.size_alloc]);first |exact Nat.le_refl _ |omega,bC.av rfl,by first |exact((af.refl ae _).drew).alloc _ |exact((af.refl ae _).alloc _).drew |exact(af.refl ae _).alloc _⟩
     obtain⟨Z,rfl,hZ,hZ6,yk⟩:=hcut;obtain⟨uU,rfl⟩:∃ q,q=wc:=⟨wc,rfl⟩;have ZC:=V5.kept yk;have ab3:=Wg.kept yk;have abF:=JC.kept yk;have aat:=Yx.on yk;have LL:=Tl.on yk;have acx:=aaS.on yk;have acg:=(ai.aG _ _ _ _ ab4).on yk;have aaO:af (fun b=>b=xb) w uU:=kg.trans yk (fun _ _ e=>e.elim);have apt:=yk.size;have hZl:=hZ6.lt;clear S17 af8 JC V5 Wg Yx Tl aaS ab4 kg Zr yk;obtain⟨vb,vo,vk,vn,vi,vs,vz,rfl,hvb,afK,g0,g1,g2,g3,yr⟩:=aY acx 0 (by simp);simp only[Nat.zero_mul,Nat.add_zero,List.getElem_cons_zero]at g0 g1 g2 g3 yr;generalize v.args.length=vl at *
     have hd:af ae uU uU.drew:=(af.refl ae uU).drew;have ha:af ae uU (uU.alloc (.cells #[.int .i64 0,.string (B []),.int .i64 0,.slice none 0 0] 29)).drew:=((af.refl ae _).alloc _).drew;have wk:∀ Q,(Q=H+1\/uU.heap.size<=Q)->∀ b,b<uU.heap.size->(O b\/b=H\/b=H+1\/b=Q)->(O b\/H<=b):=fun Q hQ b _ e=>by rcases e with e |e |e |e;(exact .inl e);all_goals exact .inr (by omega)
     have wkE:∀ Q,(Q=H+1\/uU.heap.size<=Q)->∀ b,b<uU.heap.size->(O b\/b=H\/b=H+1\/b=Q)->((O b\/b=H\/b=H+1\/b=H+1+1)\/A3.heap.size<=b):=fun Q hQ b _ e=>by rcases e with e |e |e |e;(exact .inl (.inl e));(exact .inl (.inr (.inl e)));(exact .inl (.inr (.inr (.inl e))));(rcases hQ with hQ |hQ;(exact .inl (.inr (.inr (.inl (by omega)))));exact .inr (by omega))
     have RQ:=fun(Q:Nat)(hQ:Q=H+1\/uU.heap.size<=Q)(W:World)(hu:af ae uU W)(hq:Q<W.heap.size)(f:List UInt8)(sa:Option Addr)(sl sc:Nat)(hS:aw (fun b=>O b\/b=H\/b=H+1\/b=Q) W sm.az [.string (B f),.slice sa sl sc])=>AP Q W (fun b e=>by have h0:=HP.out.2.2.1 b;have:=hu.size;rcases e with e |e |e |e;(have:=h0 e;omega);all_goals omega)
       [.int .i64 vk,.string (B vn),.int .i64 vi,.slice vs vl vz] [.string (B f),.slice sa sl sc] ((aw.weaken (wk Q hQ) _ _ yr).on hu) hS ((ai.weaken (wkE Q hQ) _ _ _ _ acg).on hu)
     have ERd:=ERm uU.drew _ (dj (LL.on hd));have ERa:=ERm (uU.alloc (.cells #[.int .i64 0,.string (B []),.int .i64 0,.slice none 0 0] 29)).drew _ (dj (LL.on ha));have Sc:Jd Z vb vo (H+1+1) (.int .i64 k2) (.string (B n2)) (.int .i64 wV) (.slice uP Lm fP) (.slice (some ⟨vb,vo,none⟩) 1 zw) (.int .i64 vk) (.string (B vn)) (.int .i64 vi) (.slice vs vl vz) (.slice a9 ul dQ) uU:=⟨hZ6.cells.2,⟨g0,g1,g2,g3⟩,ab3.cells.2.2.2⟩;have Sd:=Sc.ag hd (fun x=>x) (fun x=>x) (fun x=>x);have Sa:=Sc.ag ha (fun x=>x) (fun x=>x) (fun x=>x);have YF:=hd.size;have PE:=ha.size;have anH:uU.heap.size<(uU.alloc (.cells #[.int .i64 0,.string (B []),.int .i64 0,.slice none 0 0] 29)).drew.heap.size:=by show uU.heap.size<(World.drew _).heap.size;simp
     clear g0 g1 g2 g3 acx yr acg LL ERm AP wk wkE;go_upto_region 18 with fail;go_cut [8,9]from 97 to 109 (fun v8 v9 wc=>∃(b:Nat)(k9 i9:Int)(n9:List UInt8)(PU:Option Addr)(l9 c9:Nat),v8=.pointer (some ⟨b,0,none⟩)/\v9=.int .i64 aE/\uU.heap.size<=b/\au wc b (.int .i64 k9) (.string (B n9)) (.int .i64 i9) (.slice PU l9 c9) 29/\aw (fun x=>O x\/x=H\/x=H+1\/x=b) wc aT.az [.int .i64 k9,.string (B n9),.int .i64 i9,.slice PU l9 c9]/\af ae uU wc)
     case first=>
       go_region_held3 (fun w'=>Jd Z vb vo (H+1+1) (.int .i64 k2) (.string (B n2)) (.int .i64 wV) (.slice uP Lm fP) (.slice (some ⟨vb,vo,none⟩) 1 zw) (.int .i64 vk) (.string (B vn)) (.int .i64 vi) (.slice vs vl vz) (.slice a9 ul dQ) w')
         (first |(with_reducible assumption)|(with_reducible exact Sd)|(with_reducible exact Sa)|(repeat' (first |(with_reducible assumption)|(with_reducible refine Jd.new ?_ _)|(with_reducible refine Jd.kT ?_ (by(try simp only[World.size_alloc]);omega) (by(try simp only[World.size_alloc]);omega) (by(try simp only[World.size_alloc]);omega) _ _ _ _))))
         (first
           |((go_at_call 126);(with_reducible refine ERd.mono ?_);rintro e wE ⟨f,sa,sl,sc,rfl,UM,Rx⟩;have SE:=Sd.ag Rx (fun x=>x) (fun x=>x) (fun x=>x);have BE:=hd.and Rx;have z1E:=BE.size;have zE:=Rx.size;have AP1:=RQ (H+1) (.inl rfl) wE BE (by omega) f sa sl sc (aw.weaken (fun b hb e=>by have h0:=HP.out.2.2.1 b;rcases e with e |e |e |e;(have:=h0 e;omega);all_goals omega) _ _ UM);have AP2:=RQ wE.heap.size (.inr (by omega)) (wE.alloc (.cells #[.int .i64 0,.string (B []),.int .i64 0,.slice none 0 0] 29)) (BE.alloc _) (by simp) f sa sl sc ((aw.weaken (fun b hb e=>by have h0:=HP.out.2.2.1 b;rcases e with e |e |e |e;(have:=h0 e;exact .inl (by omega));(exact .inl (by omega));(exact .inl (by omega));exact .inr (by omega)) _ _ (aw.aG _ _ UM)).on ((af.refl ae wE).alloc _)))
           |((go_at_call 126);(with_reducible refine ERa.mono ?_);rintro e wE ⟨f,sa,sl,sc,rfl,UM,Rx⟩;have SE:=Sa.ag Rx (fun x=>x) (fun x=>x) (fun x=>x);have BE:=ha.and Rx;have z1E:=BE.size;have zE:=Rx.size;have h6E:=(((au.av rfl:au (uU.alloc (.cells #[.int .i64 0,.string (B []),.int .i64 0,.slice none 0 0] 29)) uU.heap.size _ _ _ _ 29).kept (af.refl ae _).drew).kept Rx);have AP3:=RQ uU.heap.size (.inr (by omega)) wE BE (by omega) f sa sl sc (aw.weaken (fun b hb e=>by have h0:=HP.out.2.2.1 b;rcases e with e |e |e |e;(have:=h0 e;omega);all_goals omega) _ _ UM))
           |((go_at_call 125);(with_reducible refine AP1.mono ?_);rintro e yE ⟨GI,i11,Fj,EN,mL,mJ,rfl,qN,ir⟩;have XJ:=SE.ag ir (fun x=>x) (fun x=>x) (fun x=>x);have iJ:=BE.and ir;have X8:=iJ.size;clear AP1 AP2)
           |((go_at_call 125);(with_reducible refine AP2.mono ?_);rintro e yE ⟨GI,i11,Fj,EN,mL,mJ,rfl,qN,ir⟩;have XJ:=(SE.new (.cells #[.int .i64 0,.string (B []),.int .i64 0,.slice none 0 0] 29)).ag ir (fun x=>x) (fun x=>x) (fun x=>x);have iJ:=(BE.alloc _).and ir;have X8:=iJ.size;have h6:=((au.av rfl:au (wE.alloc (.cells #[.int .i64 0,.string (B []),.int .i64 0,.slice none 0 0] 29)) wE.heap.size _ _ _ _ 29).kept ir);obtain⟨c0,c1,c2,c3⟩:=h6.cells;obtain⟨d0,d1,d2,d3⟩:=h6.aq;have U1:=h6.lt;clear AP1 AP2)
           |((go_at_call 125);(with_reducible refine AP3.mono ?_);rintro e yE ⟨GI,i11,Fj,EN,mL,mJ,rfl,qN,ir⟩;have XJ:=SE.ag ir (fun x=>x) (fun x=>x) (fun x=>x);have iJ:=BE.and ir;have X8:=iJ.size;have h6:=h6E.kept ir;obtain⟨c0,c1,c2,c3⟩:=h6.cells;obtain⟨d0,d1,d2,d3⟩:=h6.aq;have U1:=h6.lt;clear AP3))
       all_goals
         go_wp2_with fail;go_meet
       all_goals first
         |(have h7:=h6
           refine⟨_,GI,i11,Fj,EN,mL,mJ,rfl,rfl,by omega,h7.set.1,?_,?_⟩
           ·exact aw.ag h7.set.2 (fun b e=>.inr (.inr (.inr e))) _ _ qN
           exact iJ.trans h7.set.2 (fun b hb e=>by omega))
         |(refine⟨yE.heap.size,GI,i11,Fj,EN,mL,mJ,rfl,rfl,by omega,au.av rfl,?_,?_⟩
           ·exact(aw.weaken (fun b hb e=>by rcases e with e |e |e |e;(exact .inl e);(exact .inr (.inl e));(exact .inr (.inr (.inl e)));omega) _ _ qN).on ((af.refl ae _).alloc _)
           exact iJ.alloc _)
     obtain⟨b,k9,i9,n9,PU,l9,c9,rfl,rfl,hYb,mq,oK,xi⟩:=hcut;obtain⟨w9,rfl⟩:∃ q,q=wc:=⟨wc,rfl⟩;have gM:=ZC.kept xi;have sr:=abF.kept xi;have bU:af (fun b=>b=xb) w w9:=aaO.trans xi (fun _ _ e=>e.elim);have P6:=aat.on xi;have aeA:=xi.size;clear Sc Sd Sa RQ ERd ERa hd ha ZC abF ab3 hZ6 aat;obtain⟨x0,x1,x2⟩:=sr.cells;have fx:=sr.aq;have FY:=sr.lt;by_cases GD:aE=0
     case neg=>
       have fG:R=⟨aE,Tm.aO,cj+1⟩:=by rw[OV.out,if_pos GD]
       have HR:=ak fG;have aip:(aE !=0)=true:=by simpa using GD
       obtain⟨OW,Ae⟩:∃ OW,OW=w9.setCell ⟨xb,2,none⟩ (.int .i64 aE):=⟨_,rfl⟩;have Wf:eU OW xb (.slice (some ⟨b2,o2,none⟩) ll lc) (.int .i64 ((cj:Int)+1)) (.int .i64 aE) 83:=by rw[Ae];exact sr.kG _
       have Nx:af (fun b=>b=xb) w9 OW:=by rw[Ae];exact af.set (af.refl _ _) 2 _
       have Ad:=gM.ag Nx (by omega);have jl:=bU.trans Nx (fun _ _ e=>e);obtain⟨y0,y1,y2,y3⟩:=Ad.cells;obtain⟨z0,z1,z2,z3⟩:=Ad.aq;have qr:=Ad.lt;have ah:=Ad.set (d0:=.int .i64 0) (d1:=.string (B [])) (d2:=.int .i64 0) (d3:=.slice none 0 0);have dJ:=ak ah;have UL:=ak Ae;clear ah fG Ae GD;go_upto_region 21 with fail;rw[<-UL.out];clear x0 x1 x2 fx;go_wp2_with fail;obtain⟨gK,ah⟩:=dJ.out;obtain⟨e0,e1,e2,e3⟩:=gK.cells;refine bodyPost_ret (v:=.agg #[.int .i64 0,.string (B []),.int .i64 0,.slice none 0 0]) ?_ rfl ?_
       ·simp[results,Tryz.f57,go_sem,e0,e1,e2,e3]
       exact rP (r0:=H+1) (by rw[HR.out];exact bD 0 [] 0) (by rw[HR.out];exact Wf) jl ah (by have:=HH.out;omega) (by have:=HH.out;omega)
     subst GD;have fG:R=gG l n aT (cj+1):=by rw[OV.out,if_neg (by simp)]
     obtain⟨jm,FB⟩:=HP2.out.2 rfl
     have WM:=VB (cj+1) xb (fun x=>O x\/x=H+1) w9 (some ⟨b2,o2,none⟩) lc [.int .i64 k9,.string (B n9),.int .i64 i9,.slice PU l9 c9] (by have:=HP.out.1;omega) hbg jm FB (.inl wO)
       (fun b e=>by have h0:=HP.out.2.2.1 b;rcases e with e |e;(have:=h0 e;omega);omega) (by rw[<-HL.out.2];exact sr)
       (ai.weaken (fun b _ e=>by rcases e with e |e;(exact .inl e);exact .inr (by omega)) _ _ _ _ P6)
       (aw.weaken (fun b _ e=>by rcases e with e |e;(exact .inl e);exact .inr (.inr (.inl e))) _ _ oK)
     rw[<-HL.out.2,<-fG]at WM;obtain⟨t0,t1,t2,t3⟩:=mq.cells;clear fG x0 x1 x2 fx FY;go_wp2_with fail
     (with_reducible refine WM.mono ?_);rintro e kB ⟨Pm,i10,TN,X7,VO,Xa,rfl,sw,pc,gZ⟩;have lv:=gM.ag gZ (by omega);obtain⟨y0,y1,y2,y3⟩:=lv.cells;obtain⟨z0,z1,z2,z3⟩:=lv.aq;have qr:=lv.lt;have ah:=lv.set (d0:=.int .i64 Pm) (d1:=.string (B TN)) (d2:=.int .i64 i10) (d3:=.slice X7 VO Xa);have dJ:=ak ah;have HQ:=ak (And.intro sw (And.intro pc gZ));clear ah t0 t1 t2 t3 sw pc gZ WM lv;go_wp2_with fail;obtain⟨gK,ah⟩:=dJ.out;obtain⟨e0,e1,e2,e3⟩:=gK.cells;refine bodyPost_ret (v:=.agg #[.int .i64 Pm,.string (B TN),.int .i64 i10,.slice X7 VO Xa]) ?_ rfl ?_
     ·simp[results,Tryz.f57,go_sem,e0,e1,e2,e3]
     exact rP (r0:=H+1) HQ.out.1 HQ.out.2.1 (bU.trans HQ.out.2.2 (fun _ _ e=>e)) ah (by have:=HH.out;omega) (by have:=HH.out;omega)
end
section
open Go.RowKit Go.LF
theorem Og(l:List Mv)(hG:GW l)(n:Nat):∀ t,Vk l n t:=by
  induction n with
  |zero=>intro t c xb O w la lc cs h1 h2;omega
  |succ n ih=>exact fun t=>Ga l hG n ih t
abbrev Ln(Q xb:Nat)(q0 q1 q2 q3 x2:Value)(w':World):Prop:=(w'.cell? ⟨Q,0,none⟩=some q0/\w'.cell? ⟨Q,1,none⟩=some q1/\w'.cell? ⟨Q,2,none⟩=some q2/\w'.cell? ⟨Q,3,none⟩=some q3)/\w'.cell? ⟨xb,2,none⟩=some x2
theorem Ln.ag{S:Nat->Prop}{Q xb:Nat}{q0 q1 q2 q3 x2:Value}{w w':World}(h:Ln Q xb q0 q1 q2 q3 x2 w)(hU:af S w w')(h1:¬S Q)(h2:¬S xb):Ln Q xb q0 q1 q2 q3 x2 w':=by
  obtain⟨⟨a0,a1,a2,a3⟩,a4⟩:=h;exact⟨⟨hU.cell a0 h1,hU.cell a1 h1,hU.cell a2 h1,hU.cell a3 h1⟩,hU.cell a4 h2⟩
theorem Ln.kT{r Q xb:Nat}{q0 q1 q2 q3 x2:Value}{w:World}(h:Ln Q xb q0 q1 q2 q3 x2 w)(h1:¬Q=r)(h2:¬xb=r)(d0 d1 d2 d3:Value):Ln Q xb q0 q1 q2 q3 x2 ((((w.setCell ⟨r,0,none⟩ d0).setCell ⟨r,1,none⟩ d1).setCell ⟨r,2,none⟩ d2).setCell ⟨r,3,none⟩ d3):=
  h.ag (af.set (af.set (af.set (af.set (af.refl _ _) 0 _) 1 _) 2 _) 3 _) h1 h2
theorem pr(O:Nat->Prop)(l:List Mv)(hG:GW l)(t:Tm)(iH:t.wt<=1000000)(FB:t.wf=0->(∀ i∈Tm.ay t,i<l.length)->Kn l.length t)(w:World)(hO:∀ b,O b->b<w.heap.size)(la:Option Addr)(lc:Nat)(cs:List Value)(hL:ai O w 6 (l.map Mv.az) la 0)(h:aw O w t.az cs):
    Calls Tryz.prog 13 #[.slice la l.length lc,.agg cs.toArray] w (qa O (ep l t) (bP l t) w):=by
  obtain⟨k,nm,i,ts,aa,cap,ht,rfl,_,_⟩:=aP h;generalize ts.length=len at *
  obtain⟨w1,aF⟩:∃ w1,w1=(w.alloc (.cells #[.int .i64 k,.string (B nm),.int .i64 i,.slice aa len cap] 29)).alloc (.cells #[.int .i64 0,.string (B []),.int .i64 0,.slice none 0 0] 29):=⟨_,rfl⟩;have aH:af ae w w1:=by rw[aF];exact((af.refl ae w).alloc _).alloc _
  have gy:au w1 w.heap.size (.int .i64 k) (.string (B nm)) (.int .i64 i) (.slice aa len cap) 29:=by rw[aF];exact(au.av rfl).kept ((af.refl ae _).alloc _)
  have dK:au w1 (w.heap.size+1) (.int .i64 0) (.string (B [])) (.int .i64 0) (.slice none 0 0) 29:=by rw[aF];exact au.av (by simp)
  have di:=(aw.aG _ _ h).on aH;have kA:=(ai.aG _ _ _ _ hL).on aH;have WF:=dx t iH w1 _ (aw.weaken (fun _ _ x=>x.elim) _ _ di);have KN:=fun(W:World)(hu:af ae w1 W)=>nZ t l.length iH W _ (aw.weaken (fun _ _ x=>x.elim) _ _ (di.on hu))
  obtain⟨H,hH⟩:∃ H,H=w.heap.size:=⟨_,rfl⟩;have HH:=ak hH;rw[<-hH]at gy dK di kA;have j9:∀ b,O b->b<H:=by rw[hH];exact hO
  obtain⟨E,hE⟩:∃ E,E=ep l t:=⟨_,rfl⟩;obtain⟨X,hX⟩:∃ X,X=bP l t:=⟨_,rfl⟩;rw[<-hE,<-hX];unfold bP at hX;rw[<-hE]at hX;unfold ep at hE;obtain⟨ll,du⟩:∃ ll,ll=l.length:=⟨_,rfl⟩;rw[<-du]at hE KN;rw[<-du];have HW:=ak aF;obtain⟨q,hq⟩:∃ q,q=t.wf:=⟨_,rfl⟩;rw[<-hq]at WF hE;obtain⟨ob,sP⟩:∃ ob,ob=(Tm.ay t).any (fun i=>decide ((ll:Int)<=i)):=⟨_,rfl⟩;rw[<-sP]at hE KN;have HP:=ak (And.intro hE (And.intro hX (And.intro du (And.intro hq sP))));have HO:=ak j9;have HKN:=ak FB;have mX:=dK.lt;clear aF hH hL h hO j9 hE hX du hq sP ht FB iH;obtain⟨t0,t1,t2,t3⟩:=gy.cells;go_enter Tryz.func13,Tryz.ntmps13;go_upto_region 1 with fail;rw[<-show B []={ data:=#[] }from rfl,<-HW.out,<-HH.out];go_wp2_with fail
  (with_reducible refine WF.mono ?_);rintro e w2 ⟨rfl,aL⟩;have dO:=dK.kept aL;clear t0 t1 t2 t3 WF;obtain⟨t0,t1,t2,t3⟩:=(gy.kept aL).cells
  have bad:∀(z:Int)(W W':World),z≠0->E=z->af ae w1 W->af (fun b=>b=H+1) W W'->qa O E X w (.returned (.tuple #[.agg #[.int .i64 0,.string (B []),.int .i64 0,.slice none 0 0],.int .i64 z])) W':=by
    intro z W W' hz GZ hu ah;refine⟨0,0,[],none,0,0,by rw[GZ],?_,(aH.and hu).trans ah (fun b hb e=>by have:=HH.out;omega)⟩;rw[HP.out.2.1,if_neg (by rw[GZ];exact hz)];exact bD 0 [] 0
  have HB:=ak bad;clear bad;by_cases B8:q=0
  case neg=>
    have hz:E=q:=by rw[HP.out.1,if_pos B8]
    have HZ:=ak (And.intro hz B8);have QH:(q !=0)=true:=by simpa using B8
    obtain⟨y0,y1,y2,y3⟩:=dO.cells;obtain⟨z0,z1,z2,z3⟩:=dO.aq;have qr:=dO.lt;have ah:=dO.set (d0:=.int .i64 0) (d1:=.string (B [])) (d2:=.int .i64 0) (d3:=.slice none 0 0);have dJ:=ak ah;clear ah hz B8;go_wp2_with fail;obtain⟨gK,ah⟩:=dJ.out;obtain⟨e0,e1,e2,e3⟩:=gK.cells;refine bodyPost_ret (v:=.tuple #[.agg #[.int .i64 0,.string (B []),.int .i64 0,.slice none 0 0],.int .i64 q]) ?_ rfl ?_
    ·simp[results,Tryz.f13,go_sem,e0,e1,e2,e3]
    exact HB.out q w2 _ HZ.out.2 HZ.out.1 aL ah
  subst B8;have KN2:=KN w2 aL;clear KN;go_wp2_with fail
  (with_reducible refine KN2.mono ?_);rintro e w4 ⟨rfl,bw⟩;have gY:=aL.and bw;have iX:=dK.kept gY;clear t0 t1 t2 t3 KN2 dO;obtain⟨t0,t1,t2,t3⟩:=(gy.kept gY).cells;cases ob
  case true=>
    have HZ:=ak (show E=3 by rw[HP.out.1,if_neg (by simp),if_pos rfl]);obtain⟨y0,y1,y2,y3⟩:=iX.cells;obtain⟨z0,z1,z2,z3⟩:=iX.aq;have qr:=iX.lt;have ah:=iX.set (d0:=.int .i64 0) (d1:=.string (B [])) (d2:=.int .i64 0) (d3:=.slice none 0 0);have dJ:=ak ah;clear ah;go_wp2_with fail;obtain⟨gK,ah⟩:=dJ.out;obtain⟨e0,e1,e2,e3⟩:=gK.cells;refine bodyPost_ret (v:=.tuple #[.agg #[.int .i64 0,.string (B []),.int .i64 0,.slice none 0 0],.int .i64 3]) ?_ rfl ?_
    ·simp[results,Tryz.f13,go_sem,e0,e1,e2,e3]
    exact HB.out 3 w4 _ (by decide) HZ.out gY ah
  case false=>
    have kJ:E=(gG l 16385 t 0).e:=by rw[HP.out.1,if_neg (by simp),if_neg (by simp)]
    have jm:t.wf=0:=HP.out.2.2.2.1.symm
    have jw:∀ i∈Tm.ay t,i<(l.length:Int):=by
      intro i hi;have h:=HP.out.2.2.2.2;by_cases hc:(ll:Int)<=i
      ·have:(Tm.ay t).any (fun i=>decide ((ll:Int)<=i))=true:=List.any_eq_true.2 ⟨i,hi,decide_eq_true hc⟩;rw[<-h]at this;cases this
      have:=HP.out.2.2.1;omega
    obtain⟨w5,gT⟩:∃ w5,w5=w4.alloc (.cells #[.slice la ll lc,.int .i64 0,.int .i64 0] 83):=⟨_,rfl⟩;have ba:af ae w4 w5:=by rw[gT];exact(af.refl ae _).alloc _
    have qY:eU w5 w4.heap.size (.slice la ll lc) (.int .i64 ((0:Nat):Int)) (.int .i64 0) 83:=by rw[gT];exact eU.av rfl
    have jl:=gY.and ba;have aiI:=gY.size;have wk:∀ b,b<w1.heap.size->(O b\/b=H+1\/b=w4.heap.size)->(O b\/H<=b):=fun b _ e=>by rcases e with e |e |e;(exact .inl e);all_goals exact .inr (by omega)
    have EX:=Og l hG 16385 t 0 w4.heap.size (fun b=>O b\/b=H+1\/b=w4.heap.size) w5 la lc [.int .i64 k,.string (B nm),.int .i64 i,.slice aa len cap] (by omega) (by omega) jm (HKN.out jm jw) (.inr (.inr rfl))
      (fun b e=>by have h0:=HO.out b;have h1:=qY.lt;rcases e with e |e |e;(have:=h0 e;omega);all_goals omega) (by rw[<-HP.out.2.2.1];exact qY) ((ai.weaken wk _ _ _ _ kA).on jl) ((aw.weaken wk _ _ di).on jl)
    rw[<-HP.out.2.2.1]at EX;obtain⟨R,hR⟩:∃ R,R=gG l 16385 t 0:=⟨_,rfl⟩;rw[<-hR]at EX kJ;have ZL:X=if E=0 then R.t else Tm.aO:=by rw[HP.out.2.1,hR]
    have Gp:R.e≠0->R.t=Tm.aO:=fun h=>by rw[hR]at h ⊢;exact rE l _ _ _ h
    have HF:=ak (And.intro kJ (And.intro ZL Gp));obtain⟨Q,hQ⟩:∃ Q,Q=w4.heap.size:=⟨_,rfl⟩;rw[<-hQ]at EX;have HQ:=ak hQ;have GK:=ak gT;have dR:=iX.kept ba;have Gh:=iX.lt;have hQl:Q<w5.heap.size:=by rw[hQ];exact qY.lt
    obtain⟨t0,t1,t2,t3⟩:=(gy.kept jl).cells;have hQH:H+1<Q:=by omega
    clear kJ jm jw gT qY hR ZL Gp hQ wk;go_upto_region 7 with fail;rw[<-GK.out,<-HQ.out];go_wp2_with fail
    (with_reducible refine EX.mono ?_);rintro e w6 ⟨k6,i6,n6,a6,l6,c6,rfl,dg,tL,bj⟩;have DN:=bj.size;obtain⟨w7,rJ⟩:∃ w7,w7=w6.alloc (.cells #[.int .i64 k6,.string (B n6),.int .i64 i6,.slice a6 l6 c6] 29):=⟨_,rfl⟩;have cm:af ae w6 w7:=by rw[rJ];exact(af.refl ae _).alloc _
    have yl:au w7 w6.heap.size (.int .i64 k6) (.string (B n6)) (.int .i64 i6) (.slice a6 l6 c6) 29:=by rw[rJ];exact au.av rfl
    have j4:=(dR.ag bj (by omega)).kept cm;have Ea:=tL.kept cm;have og:=dg.on cm;obtain⟨y0,y1,y2,y3⟩:=j4.cells;obtain⟨z0,z1,z2,z3⟩:=j4.aq;have qr:=j4.lt;have ah:=j4.set (d0:=.int .i64 k6) (d1:=.string (B n6)) (d2:=.int .i64 i6) (d3:=.slice a6 l6 c6);have hdr:=ah.1.kept (af.refl ae _).drew;have dJ:=ak (And.intro hdr ah.2.drew);have HX:=ak (And.intro og (And.intro Ea (And.intro bj cm)));have S7:Ln w6.heap.size Q (.int .i64 k6) (.string (B n6)) (.int .i64 i6) (.slice a6 l6 c6) (.int .i64 R.e) w7:=⟨yl.cells,Ea.cells.2.2⟩;have S7d:=S7.ag (af.refl ae w7).drew (fun x=>x) (fun x=>x);have n1:¬w6.heap.size=H+1:=by omega
    have n2:¬Q=H+1:=by omega
    have KI:=ak rJ;clear ah hdr dg og tL Ea bj cm yl rJ t0 t1 t2 t3 EX j4 dR;go_upto_region 8 with fail;rw[<-KI.out]
    go_region_held3 (fun w'=>Ln w6.heap.size Q (.int .i64 k6) (.string (B n6)) (.int .i64 i6) (.slice a6 l6 c6) (.int .i64 R.e) w')
      (first |(with_reducible assumption)|(with_reducible exact(Ln.kT S7 n1 n2 _ _ _ _).ag (af.refl ae _).drew (fun x=>x) (fun x=>x))|(with_reducible exact Ln.kT S7d n1 n2 _ _ _ _)|(with_reducible exact Ln.kT S7 n1 n2 _ _ _ _))
      (fail)
    all_goals
      go_wp2_with fail;obtain⟨gK,ah⟩:=dJ.out;obtain⟨e0,e1,e2,e3⟩:=gK.cells;refine bodyPost_ret (v:=.tuple #[.agg #[.int .i64 k6,.string (B n6),.int .i64 i6,.slice a6 l6 c6],.int .i64 R.e]) ?_ rfl ?_
      ·simp[results,Tryz.f13,go_sem,e0,e1,e2,e3]
      have hXt:X=R.t:=by
        rw[HF.out.2.1,HF.out.1];by_cases h:R.e=0
        ·rw[if_pos h]
        rw[if_neg h,HF.out.2.2 h]
      rw[hXt,HF.out.1];exact⟨k6,i6,n6,a6,l6,c6,rfl,aw.weaken (fun b _ e=>.inl e) _ _ (aw.ag ah (fun b e=>.inr (.inl e)) _ _ HX.out.1),(((aH.and jl).trans HX.out.2.2.1 (fun b hb e=>by have:=HQ.out;have:=HH.out;have:=aH.size;omega)).and HX.out.2.2.2).trans ah (fun b hb e=>by have:=HH.out;omega)⟩
end
end Go.Proofs.YthgmimncdjhgnaaGreatDoor
