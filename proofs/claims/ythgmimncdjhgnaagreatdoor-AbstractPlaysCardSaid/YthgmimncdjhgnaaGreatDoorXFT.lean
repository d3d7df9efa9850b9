/- abstract.Vf. -/
import Derived.Test.YthgmimncdjhgnaaGreatDoorXFS
set_option maxRecDepth 100000
set_option maxHeartbeats 8000000
namespace Go.Proofs.YthgmimncdjhgnaaGreatDoor
open Go.RowKit Go.LF
def Ho(O:Nat->Prop)(L:List Mv)(t:Tm)(E:Int)(w:World)(e:Ending)(w':World):Prop:=
  ∃(va:Option Addr)(vc:Nat)(k i:Int)(n:List UInt8)(a:Option Addr)(len cap:Nat),e=.returned (.tuple #[.slice va L.length vc,.agg #[.int .i64 k,.string (B n),.int .i64 i,.slice a len cap],.int .i64 E])/\
   L.length<=vc/\ai O w' 6 (L.map Mv.az) va 0/\aw O w' t.az [.int .i64 k,.string (B n),.int .i64 i,.slice a len cap]/\af ae w w'
theorem AU(l:List Mv)(hl:DL l)(E:Int)(lb:Nat)(w:World)(la:Option Addr)(lc:Nat)(hb:w.cell? ⟨lb,0,none⟩=some (.slice la l.length lc))(hL:ai ae w 6 (l.map Mv.az) la 0):
    Calls Tryz.prog 81 #[.int .i64 E,.pointer (some ⟨lb,0,none⟩)] w (Ho (fun b=>b<w.heap.size) l Tm.aO E w):=by
  obtain⟨w1,aF⟩:∃ w1,w1=w.alloc (.cells #[.int .i64 0,.string (B []),.int .i64 0,.slice none 0 0] 29):=⟨_,rfl⟩;have aH:af ae w w1:=by rw[aF];exact(af.refl ae w).alloc _
  have dK:au w1 w.heap.size (.int .i64 0) (.string (B [])) (.int .i64 0) (.slice none 0 0) 29:=by rw[aF];exact au.av rfl
  have DS:=mA l (by have:=hl.len;omega) hl.dup w1 la lc (hL.on aH);have iV:=aH.cell hb (fun x=>x);obtain⟨ll,du⟩:∃ q,q=l.length:=⟨_,rfl⟩;rw[<-du]at DS iV;have Ai:=ak du;have kE:=ak aF;clear aF hL du hb;go_enter Tryz.func81,Tryz.ntmps81;go_upto_region 1 with fail;rw[<-show B []={ data:=#[] }from rfl,<-kE.out];go_wp2_with fail
  (with_reducible refine DS.mono ?_);rintro e w2 ⟨v,css,rfl,hD,aL⟩;obtain⟨va,vc,rfl,fp,kJ⟩:=hD.rep (fun _ e=>e);rw[List.length_map]at fp ⊢;have dO:=dK.kept aL;obtain⟨x0,x1,x2,x3⟩:=dO.cells;obtain⟨y0,y1,y2,y3⟩:=dO.aq;have aB:=dO.lt;have r9:=aH.and aL;have Js:=dK.lt;go_wp2_with fail;have ah:=dO.set (d0:=.int .i64 0) (d1:=.string (B [])) (d2:=.int .i64 0) (d3:=.slice none 0 0);obtain⟨w9,bf⟩:∃ q,q=(((w2.setCell ⟨w.heap.size,0,none⟩ (.int .i64 0)).setCell ⟨w.heap.size,1,none⟩ (.string (B []))).setCell ⟨w.heap.size,2,none⟩ (.int .i64 0)).setCell ⟨w.heap.size,3,none⟩ (.slice none 0 0):=⟨_,rfl⟩;rw[<-bf]at ah;rw[<-show B []={ data:=#[] }from rfl,<-bf];clear bf;obtain⟨e0,e1,e2,e3⟩:=ah.1.cells;refine bodyPost_ret (v:=.tuple #[.slice va l.length vc,.agg #[.int .i64 0,.string (B []),.int .i64 0,.slice none 0 0],.int .i64 E]) ?_ rfl ?_
  ·simp[results,Tryz.f81,go_sem,e0,e1,e2,e3]
  exact⟨va,vc,0,0,[],none,0,0,rfl,fp,ai.weaken (fun b _ e=>by omega) _ _ _ _ (ai.ag ah.2 (fun b e=>by omega) _ _ _ _ kJ),bD _ _ _,r9.trans ah.2 (fun b hb e=>by omega)⟩
theorem E4(l:List Mv)(hl:DL l)(ED:l.length<=1000)(a:Tm)(iH:a.wt<=290000)(n:Int)(Gp: -5<=n)(EL:n<=100)(w:World)(la:Option Addr)(lc:Nat)(cs:List Value)(hL:ai ae w 6 (l.map Mv.az) la 0)(h:aw ae w a.az cs):
    Calls Tryz.prog 33 #[.slice la l.length lc,.agg cs.toArray,.int .i64 n] w (Ho ae (jj l a n) (uM l a n) (nV l a n) w):=by
  obtain⟨k,nm,i,ts,aa,cap,GD,rfl,-,-⟩:=aP h;obtain⟨len,fE⟩:∃ q,q=ts.length:=⟨_,rfl⟩;have Tq:a.args.length=len:=by rw[GD,fE];rfl
  rw[<-fE]at h;rw[<-fE];have Iy:=ak Tq;clear fE Tq;obtain⟨w1,aF⟩:∃ w1,w1=((w.alloc (.cells #[.slice la l.length lc] 23)).alloc (.cells #[.int .i64 k,.string (B nm),.int .i64 i,.slice aa len cap] 29)).alloc (.cells #[.int .i64 0,.string (B []),.int .i64 0,.slice none 0 0] 29):=⟨_,rfl⟩;have aH:af ae w w1:=by rw[aF];exact(((af.refl ae w).alloc _).alloc _).alloc _
  have rI:cq w1 w.heap.size (.slice la l.length lc) 23:=by rw[aF];exact((cq.av rfl).kept ((af.refl ae _).alloc _)).kept ((af.refl ae _).alloc _)
  have gy:au w1 (w.heap.size+1) (.int .i64 k) (.string (B nm)) (.int .i64 i) (.slice aa len cap) 29:=by rw[aF];exact(au.av (by simp)).kept ((af.refl ae _).alloc _)
  have dK:au w1 (w.heap.size+1+1) (.int .i64 0) (.string (B [])) (.int .i64 0) (.slice none 0 0) 29:=by rw[aF];exact au.av (by simp)
  have WF:=cG a (by omega) w1 _ (h.on aH);have Ja:=(ai.aG _ _ _ _ hL).on aH;have RF:=fun(E:Int)(W:World)(hU:af (fun y=>y=w.heap.size+1) w1 W)=>AU l hl E w.heap.size W la lc (hU.cell rI.cell (show ¬w.heap.size=w.heap.size+1 by omega)) (ai.weaken (fun _ _ e=>e.elim) _ _ _ _ (ai.ag hU (fun b e=>.inr (by omega)) _ _ _ _ Ja))
  have kE:=ak aF;clear aF GD;obtain⟨x0,x1,x2,x3⟩:=gy.cells;go_enter Tryz.func33,Tryz.ntmps33;go_upto_region 2 with fail;rw[<-show B []={ data:=#[] }from rfl,<-kE.out];go_wp2_with fail
  (with_reducible refine WF.mono ?_);rintro e w2 ⟨rfl,aL⟩;have kh:=aH.and aL;have dO:=dK.kept aL;have Hm:=gy.kept aL;have agH:=rI.kept aL;clear WF x0 x1 x2 x3
  have refuse:∀(E:Int),nV l a n=E->E≠0->∀(W:World),af (fun y=>y=w.heap.size+1) w1 W->Calls Tryz.prog 81 #[.int .i64 E,.pointer (some ⟨w.heap.size,0,none⟩)] W (fun e W'=>∃(va:Option Addr)(vc:Nat)(k i:Int)(nn:List UInt8)(aa:Option Addr)(len cap:Nat),e=.returned (.tuple #[.slice va l.length vc,.agg #[.int .i64 k,.string (B nn),.int .i64 i,.slice aa len cap],.int .i64 E])/\
      l.length<=vc/\ai (fun b=>b<W.heap.size) W' 6 ((jj l a n).map Mv.az) va 0/\aw (fun b=>b<W.heap.size) W' (uM l a n).az [.int .i64 k,.string (B nn),.int .i64 i,.slice aa len cap]/\af ae W W'):=by
    intro E hE hz W hU;refine(RF E W hU).mono ?_;rintro e W' ⟨va,vc,k,i,nn,aa,len,cap,rfl,h1,h2,h3,h4⟩;refine⟨va,vc,k,i,nn,aa,len,cap,rfl,h1,?_,?_,h4⟩
    ·unfold jj;rw[if_neg (by rw[hE];exact hz)];exact h2
    unfold uM;rw[if_neg (by rw[hE];exact hz)];exact h3
  have Ye:=ak refuse;have HRF:=ak (fun E h1 h2 W(h:af ae w1 W)=>refuse E h1 h2 W (h.mono (fun _ _ e=>e.elim)));clear refuse RF Ja;obtain⟨q,hq⟩:∃ q,q=a.wf:=⟨_,rfl⟩;rw[<-hq];by_cases B8:q=0
  case neg=>
    have hE:nV l a n=q:=by unfold nV;rw[if_pos (by rw[<-hq];exact B8),<-hq]
    have R1:=HRF.out q hE B8 w2 aL;have HE:=ak hE;clear hE hq;have hqb:(q == 0)=false:=by simpa using B8
    have HQ:=ak B8;clear B8;go_wp2_with fail
    (with_reducible refine R1.mono ?_);rintro e w3 ⟨va,vc,k3,i3,n3,a3,l3,c3,rfl,fp,Hr,yd,aZ⟩;have iL:=dO.kept aZ;obtain⟨r0,r1,r2,r3⟩:=iL.cells;obtain⟨y0,y1,y2,y3⟩:=iL.aq;have aB:=iL.lt;clear R1;go_wp2_with fail;have ah:=iL.set (d0:=.int .i64 k3) (d1:=.string (B n3)) (d2:=.int .i64 i3) (d3:=.slice a3 l3 c3);obtain⟨w9,bf⟩:∃ q,q=(((w3.setCell ⟨w.heap.size+1+1,0,none⟩ (.int .i64 k3)).setCell ⟨w.heap.size+1+1,1,none⟩ (.string (B n3))).setCell ⟨w.heap.size+1+1,2,none⟩ (.int .i64 i3)).setCell ⟨w.heap.size+1+1,3,none⟩ (.slice a3 l3 c3):=⟨_,rfl⟩;rw[<-bf]at ah;rw[<-bf];clear bf;obtain⟨e0,e1,e2,e3⟩:=ah.1.cells;refine bodyPost_ret (v:=.tuple #[.slice va l.length vc,.agg #[.int .i64 k3,.string (B n3),.int .i64 i3,.slice a3 l3 c3],.int .i64 q]) ?_ rfl ?_
    ·simp[results,Tryz.f33,go_sem,e0,e1,e2,e3]
    refine⟨va,vc,k3,i3,n3,a3,l3,c3,by rw[HE.out];unfold jj;rw[if_neg (by rw[HE.out];exact HQ.out)],by unfold jj;rw[if_neg (by rw[HE.out];exact HQ.out)];exact fp,?_,?_,(kh.and aZ).trans ah.2 (fun b hb e=>by omega)⟩
    ·exact ai.weaken (fun _ _ e=>e.elim) _ _ _ _ (ai.ag ah.2 (fun b e=>by have:=dO.lt;omega) _ _ _ _ Hr)
    exact aw.weaken (fun _ _ e=>e.elim) _ _ (aw.ag ah.2 (fun b e=>by have:=dO.lt;omega) _ _ yd)
  obtain rfl:q=0:=B8;have jm:a.wf=0:=hq.symm
  have m7:a.small=true:=by
    have h1:=nQ (Tm.dz jm).1;rw[jm]at h1;by_cases h2:a.small=true
    ·exact h2
    rw[if_neg h2]at h1;exact absurd h1 (by decide)
  have IT:=pt a (by omega) w2 _ (h.on kh);have E5:((a.aC && a.small)|| (a.aI && a.small))=(a.aC || a.aI):=by rw[m7,Bool.and_true,Bool.and_true]
  rw[E5]at IT;obtain⟨x0,x1,x2,x3⟩:=Hm.cells;obtain⟨bt,Bp⟩:∃ b,b=(a.aC || a.aI):=⟨_,rfl⟩;rw[<-Bp]at IT;have Xc:=ak Bp;have KR:=ak jm;clear E5 Bp jm hq m7;cases bt
  ·have hE:nV l a n=32:=by unfold nV;rw[if_neg (by rw[KR.out];decide),if_pos (by rw[<-Xc.out];rfl)]
   have HE:=ak hE;have R1:=fun W hU=>HRF.out 32 hE (by decide) W hU
   clear hE;go_wp2_with fail
   (with_reducible refine IT.mono ?_);rintro e w3 ⟨rfl,aZ⟩;have R2:=R1 w3 (aL.and aZ);clear IT R1;go_wp2_with fail
   (with_reducible refine R2.mono ?_);rintro e w4 ⟨va,vc,k3,i3,n3,a3,l3,c3,rfl,fp,Hr,yd,bw⟩;have iX:=(dO.kept aZ).kept bw;obtain⟨r0,r1,r2,r3⟩:=iX.cells;obtain⟨y0,y1,y2,y3⟩:=iX.aq;have aB:=iX.lt;have Uc:=(dO.kept aZ).lt;clear R2;go_wp2_with fail;have ah:=iX.set (d0:=.int .i64 k3) (d1:=.string (B n3)) (d2:=.int .i64 i3) (d3:=.slice a3 l3 c3);obtain⟨w9,bf⟩:∃ q,q=(((w4.setCell ⟨w.heap.size+1+1,0,none⟩ (.int .i64 k3)).setCell ⟨w.heap.size+1+1,1,none⟩ (.string (B n3))).setCell ⟨w.heap.size+1+1,2,none⟩ (.int .i64 i3)).setCell ⟨w.heap.size+1+1,3,none⟩ (.slice a3 l3 c3):=⟨_,rfl⟩;rw[<-bf]at ah;rw[<-bf];clear bf;obtain⟨e0,e1,e2,e3⟩:=ah.1.cells;refine bodyPost_ret (v:=.tuple #[.slice va l.length vc,.agg #[.int .i64 k3,.string (B n3),.int .i64 i3,.slice a3 l3 c3],.int .i64 32]) ?_ rfl ?_
   ·simp[results,Tryz.f33,go_sem,e0,e1,e2,e3]
   refine⟨va,vc,k3,i3,n3,a3,l3,c3,by rw[HE.out];unfold jj;rw[if_neg (by rw[HE.out];decide)],by unfold jj;rw[if_neg (by rw[HE.out];decide)];exact fp,?_,?_,((kh.and aZ).and bw).trans ah.2 (fun b hb e=>by omega)⟩
   ·exact ai.weaken (fun _ _ e=>e.elim) _ _ _ _ (ai.ag ah.2 (fun b e=>by omega) _ _ _ _ Hr)
   exact aw.weaken (fun _ _ e=>e.elim) _ _ (aw.ag ah.2 (fun b e=>by omega) _ _ yd)
  have SC:=fun(W:World)(hU:af ae w1 W)=>sG a (by omega) W _ (h.on (aH.and hU))
  rw[if_pos (by rw[KR.out];rfl)]at SC;obtain⟨sc,fJ⟩:∃ q,q=a.scope:=⟨_,rfl⟩;rw[<-fJ]at SC;have R6:=ak fJ;clear fJ;go_wp2_with fail
  (with_reducible refine IT.mono ?_);rintro e w3 ⟨rfl,aZ⟩;have kg:=aL.and aZ;have Nz:=SC w3 kg;have KF:=Hm.kept aZ;have iL:=dO.kept aZ;clear IT SC x0 x1 x2 x3;obtain⟨x0,x1,x2,x3⟩:=KF.cells;go_wp2_with fail
  (with_reducible refine Nz.mono ?_);rintro e w4 ⟨rfl,bw⟩;have gY:=kg.and bw;have Dr:=KF.kept bw;have iX:=iL.kept bw;clear Nz x0 x1 x2 x3;by_cases h0:0<sc
  ·have hE:nV l a n=3:=by unfold nV;rw[if_neg (by rw[KR.out];decide),if_neg (by rw[<-Xc.out];decide),if_pos (by rw[<-R6.out];exact h0)]
   have HE:=ak hE;have R1:=fun W hU=>HRF.out 3 hE (by decide) W hU
   have R2:=R1 w4 gY;clear hE R1;go_wp2_with fail
   (with_reducible refine R2.mono ?_);rintro e w5 ⟨va,vc,k3,i3,n3,a3,l3,c3,rfl,fp,Hr,yd,ba⟩;have dR:=iX.kept ba;obtain⟨r0,r1,r2,r3⟩:=dR.cells;obtain⟨y0,y1,y2,y3⟩:=dR.aq;have aB:=dR.lt;have Uc:=iX.lt;clear R2;go_wp2_with fail;have ah:=dR.set (d0:=.int .i64 k3) (d1:=.string (B n3)) (d2:=.int .i64 i3) (d3:=.slice a3 l3 c3);obtain⟨w9,bf⟩:∃ q,q=(((w5.setCell ⟨w.heap.size+1+1,0,none⟩ (.int .i64 k3)).setCell ⟨w.heap.size+1+1,1,none⟩ (.string (B n3))).setCell ⟨w.heap.size+1+1,2,none⟩ (.int .i64 i3)).setCell ⟨w.heap.size+1+1,3,none⟩ (.slice a3 l3 c3):=⟨_,rfl⟩;rw[<-bf]at ah;rw[<-bf];clear bf;obtain⟨e0,e1,e2,e3⟩:=ah.1.cells;refine bodyPost_ret (v:=.tuple #[.slice va l.length vc,.agg #[.int .i64 k3,.string (B n3),.int .i64 i3,.slice a3 l3 c3],.int .i64 3]) ?_ rfl ?_
   ·simp[results,Tryz.f33,go_sem,e0,e1,e2,e3]
   refine⟨va,vc,k3,i3,n3,a3,l3,c3,by rw[HE.out];unfold jj;rw[if_neg (by rw[HE.out];decide)],by unfold jj;rw[if_neg (by rw[HE.out];decide)];exact fp,?_,?_,((aH.and gY).and ba).trans ah.2 (fun b hb e=>by omega)⟩
   ·exact ai.weaken (fun _ _ e=>e.elim) _ _ _ _ (ai.ag ah.2 (fun b e=>by omega) _ _ _ _ Hr)
   exact aw.weaken (fun _ _ e=>e.elim) _ _ (aw.ag ah.2 (fun b e=>by omega) _ _ yd)
  have Ip:pL a<=100000:=by
    obtain⟨_,ak2,_⟩:=Tm.pD a KR.out;have:=Mz a;omega
  have PI:=fun(W:World)(hU:af ae w1 W)=>Pg a (by have:=Xc.out.symm;simpa using this) Ip W _ (h.on (aH.and hU))
  obtain⟨cb,xH⟩:∃ q,q=(decide (n<0)|| decide ((pL a:Int)<n)):=⟨_,rfl⟩;have Eh:=ak xH;have HPI:=ak Ip;have h0b:¬0<sc:=h0;obtain⟨pn,Rh⟩:∃ q,q=(pL a:Int):=⟨_,rfl⟩;rw[<-Rh]at PI xH;have aiu:0<=pn/\pn<=100000:=by omega
  obtain⟨am9,aoQ⟩:=aiu;have HPN:=ak Rh;clear Ip Rh;go_upto_region 9 with fail;go_cut [44]from 44 to 52 (fun v44 wx=>v44=.bool cb/\af ae w4 wx)
  case first=>
    have cV:(n<0/\cb=true)\/(¬n<0/\pn<n/\cb=true)\/(¬n<0/\¬pn<n/\cb=false):=by
      by_cases h1:n<0
      ·exact .inl ⟨h1,by rw[xH];simp[h1]⟩
      by_cases h2:pn<n
      ·exact .inr (.inl ⟨h1,h2,by rw[xH];simp[h2]⟩)
      exact .inr (.inr ⟨h1,h2,by rw[xH];simp[h1,h2]⟩)
    clear xH;obtain⟨x0,x1,x2,x3⟩:=Dr.cells;have PI4:=PI w4 gY;rcases cV with⟨h1,hc⟩|⟨h1,h2,hc⟩|⟨h1,h2,hc⟩
    ·have HC:=ak hc;clear hc;go_wp2_with fail;go_meet
     exact⟨by rw[HC.out],af.refl _ _⟩
    all_goals
      have HC:=ak hc;clear hc;go_wp2_with fail
      (with_reducible refine PI4.mono ?_);rintro e w5 ⟨rfl,ba⟩;go_wp2_with fail;go_meet
      exact⟨by first |(rw[HC.out];done)|(rw[HC.out,decide_eq_false (by omega)]),ba⟩
  obtain⟨rfl,ba⟩:=hcut;obtain⟨w5,rfl⟩:∃ q,q=wc:=⟨_,rfl⟩;have jl:=gY.and ba;have Es:=Dr.kept ba;have dR:=iX.kept ba;have Xm:=rI.kept jl;clear xH PI bw ba Dr iX aL aZ Hm dO agH KF iL gy dK;cases cb
  case true=>
    have hE:nV l a n=33:=by
      unfold nV;rw[if_neg (by rw[KR.out];decide),if_neg (by rw[<-Xc.out];decide),if_neg (by rw[<-R6.out];omega),if_pos];have:=Eh.out;simpa using this.symm
    have HE:=ak hE;have R2:=HRF.out 33 hE (by decide) w5 jl;clear hE;go_wp2_with fail
    (with_reducible refine R2.mono ?_);rintro e w6 ⟨va,vc,k3,i3,n3,a3,l3,c3,rfl,fp,Hr,yd,bj⟩;have fD:=dR.kept bj;obtain⟨r0,r1,r2,r3⟩:=fD.cells;obtain⟨y0,y1,y2,y3⟩:=fD.aq;have aB:=fD.lt;have Uc:=dR.lt;clear R2;go_wp2_with fail;have ah:=fD.set (d0:=.int .i64 k3) (d1:=.string (B n3)) (d2:=.int .i64 i3) (d3:=.slice a3 l3 c3);obtain⟨w9,bf⟩:∃ q,q=(((w6.setCell ⟨w.heap.size+1+1,0,none⟩ (.int .i64 k3)).setCell ⟨w.heap.size+1+1,1,none⟩ (.string (B n3))).setCell ⟨w.heap.size+1+1,2,none⟩ (.int .i64 i3)).setCell ⟨w.heap.size+1+1,3,none⟩ (.slice a3 l3 c3):=⟨_,rfl⟩;rw[<-bf]at ah;rw[<-bf];clear bf;obtain⟨e0,e1,e2,e3⟩:=ah.1.cells;refine bodyPost_ret (v:=.tuple #[.slice va l.length vc,.agg #[.int .i64 k3,.string (B n3),.int .i64 i3,.slice a3 l3 c3],.int .i64 33]) ?_ rfl ?_
    ·simp[results,Tryz.f33,go_sem,e0,e1,e2,e3]
    refine⟨va,vc,k3,i3,n3,a3,l3,c3,by rw[HE.out];unfold jj;rw[if_neg (by rw[HE.out];decide)],by unfold jj;rw[if_neg (by rw[HE.out];decide)];exact fp,?_,?_,((aH.and jl).and bj).trans ah.2 (fun b hb e=>by omega)⟩
    ·exact ai.weaken (fun _ _ e=>e.elim) _ _ _ _ (ai.ag ah.2 (fun b e=>by omega) _ _ _ _ Hr)
    exact aw.weaken (fun _ _ e=>e.elim) _ _ (aw.ag ah.2 (fun b e=>by omega) _ _ yd)
  case false=>
    have zn:¬n<0/\¬(pL a:Int)<n:=by have:=Eh.out;simpa using this.symm
    obtain⟨m,rfl⟩:∃ m:Nat,n=(m:Int):=⟨n.toNat,by omega⟩;have hmp:m<=pL a:=by omega
    have RI:∀ E,(gu l a m).1=E->nV l a m=E:=by
      intro E he;unfold nV;rw[if_neg (by rw[KR.out];decide),if_neg (by rw[<-Xc.out];decide),if_neg (by rw[<-R6.out];omega),if_neg (by omega),<-he];rfl
    have kK:a.aC=true\/a.aI=true:=by have:=Xc.out.symm;simpa using this
    have hls:Tm.lt 0 a:=(Tm.iI _ (by omega)).2 (by have:=R6.out;omega);have INV:=fun i hi he=>Ue (l:=l) kK hls i hi he
    have akq:m<=100:=by omega
    have acI:=Tm.pD a KR.out;have HM:=ak (And.intro hmp (And.intro RI (And.intro kK acI)));clear zn hmp RI kK hls Gp EL acI;have DS:=mA l (by omega) hl.dup w5 la lc ((hL.on aH).on jl);have abz:w1.heap.size=w.heap.size+1+1+1:=by rw[kE.out];simp
    have HZ:=ak abz;have hlx:=Xm.cell;have hz5:=jl.size;have HL:=ak (And.intro hL (And.intro aH h));clear abz hL aH h;obtain⟨ll,du⟩:∃ q,q=l.length:=⟨_,rfl⟩;obtain⟨X,hX⟩:∃ X,X=w.heap.size+1:=⟨_,rfl⟩;obtain⟨R,hR⟩:∃ X,X=w.heap.size+1+1:=⟨_,rfl⟩;rw[<-du]at DS hlx;rw[<-hX]at Es Ye;rw[<-hR]at dR;rw[<-du,<-hR,<-hX];have Sn:=ak (And.intro hX hR);have yC:=ak du;clear hX hR du;go_wp2_with fail
    (with_reducible refine DS.mono ?_);rintro e w6 ⟨v6,aor,rfl,BX,bj⟩;obtain⟨a6,c6,rfl,EV,Kl⟩:=BX.rep (fun _ e=>e);have ha6:=Es.kept bj;have fD:=dR.kept bj;have QW:=Xm.kept bj;have eu:=jl.and bj;clear DS hlx BX bj jl Es dR Xm;have ab8:l.length<=c6:=by simpa using EV
    have DN:=eu.size;have aad:=ai.weaken (O':=fun y=>y=X\/y=R) (fun b _ e=>by have h1:=Sn.out;have h2:=HZ.out;have h3:=eu.size;rcases e with e |e<;>omega) _ _ _ _ Kl;have af6:=ha6;obtain⟨hL,aH,Ku⟩:=HL.out;have zg:aw (fun y=>y=X\/y=R) w6 a.az [.int .i64 k,.string (B nm),.int .i64 i,.slice aa len cap]:=(aw.weaken (fun b _ e=>.inr (by have h1:=Sn.out;rcases e with e |e<;>omega)) _ _ (aw.aG _ _ Ku)).on (aH.and eu);have hlen:=Iy.out;have aae:cq w6 w.heap.size (.slice la ll lc) 23:=by rw[yC.out];exact QW
    have SF:=eu.mono (S':=fun y=>y=X) (fun _ _ e=>e.elim);clear hL aH Ku rI Kl EV QW eu;go_wp2_with fail
    go_loopw [11,61] (fun v11 v61 wr=>∃(j:Nat)(L:List Mv)(A:Tm)(k' i':Int)(n':List UInt8)(a':Option Addr)(c':Nat)(va:Option Addr)(vc:Nat),v61=.int .i64 (j:Int)/\j<=m/\gu l a j=(0,L,A)/\v11=.slice va L.length vc/\L.length<=vc/\
        ai (fun y=>y=X\/y=R) wr 6 (L.map Mv.az) va 0/\au wr X (.int .i64 k') (.string (B n')) (.int .i64 i') (.slice a' A.args.length c') 29/\aw (fun y=>y=X\/y=R) wr A.az [.int .i64 k',.string (B n'),.int .i64 i',.slice a' A.args.length c']/\
        cq wr w.heap.size (.slice la ll lc) 23/\au wr R (.int .i64 0) (.string (B [])) (.int .i64 0) (.slice none 0 0) 29/\af (fun y=>y=X) w1 wr)
      (fun _ v61 _=>m - (intOf v61).toNat)
    case atStart=>exact⟨0,l,a,k,i,nm,aa,cap,a6,c6,rfl,Nat.zero_le _,rfl,by first |rfl |rw[List.length_map],ab8,aad,by rw[hlen];exact ha6,by rw[hlen];exact zg,aae,fD,SF⟩
    clear aad ha6 af6 zg aae fD SF ab8 DN hz5;obtain⟨j,L,A,k',i',n',a',c',va,vc,rfl,BW,GQ,rfl,Ce,hE,hB,hR,hb,hr,hU⟩:=hrel;have I:=INV j (by have:=HM.out.1;omega) (by rw[GQ]);obtain⟨I1,I2,I3,I4,I5,I6⟩:=I;rw[GQ]at I1 I2 I3 I4 I5 I6;simp only at I1 I2 I3 I4 I5 I6;have hji:(j:Int)<=100:=by omega
    have Fl:(0:Int)<=(j:Int):=by omega
    have Dy:(m:Int)<=100:=by omega
    have OT:=hB.lt;have hRl:=hr.lt;have T4:=HM.out.2.2.2;obtain⟨x0,x1,x2,x3⟩:=hB.cells;have b0:=hb.cell;have Zi:A.size<=4096:=by have:=T4.2.1;omega
    have Wj:DL L:=by
      obtain⟨ms,jw,Ny⟩:=I6;refine⟨by rw[I3];omega,fun mv xm=>?_⟩;rw[jw]at xm;rcases List.mem_append.1 xm with h9 |h9
      ·exact hl.mv mv h9
      obtain⟨h10,ZK⟩:=Ny mv h9;rw[ZK];exact⟨by omega,by simp,fun v hv=>by cases hv⟩
    by_cases aB:j<m
    ·obtain⟨Ti,ix,d,b,rfl,hd,pB,LH⟩:=uN I1 (m:=0) (by have:=HM.out.1;omega);obtain⟨a5,c5,e5,hc5,L9⟩:=bg.1 hR;simp only[List.cons.injEq,Value.int.injEq,Value.string.injEq,Value.slice.injEq,true_and,and_true]at e5;obtain⟨eb,eo,kd,nd,xd,sd,cd,he1,mz,ao8,p0,p1,p2,p3,Yg⟩:=aY L9 0 (by simp);subst he1;obtain⟨eb2,eo2,kb,nb,xb,sb,cb,Ey,_,_,r0,r1,r2,r3,uw⟩:=aY L9 1 (by simp);cases Ey
     obtain⟨rfl,zn,rfl,rfl,-⟩:=e5;have Y9:(Tm.mk 2 Ti i' [d,b]).args.length=2:=rfl;rw[zn,Y9]at hB;rw[zn]at x1;rw[Y9]at x3;simp only[List.getElem_cons_succ,List.getElem_cons_zero]at p3 Yg r3 uw;simp only[Nat.zero_mul,Nat.add_zero,Nat.one_mul]at p0 p1 p2 p3 r0 r1 r2 r3;have kZ:(j:Int)<(m:Int):=by omega
     have hnz:=ak (And.intro hE (And.intro hR hb));obtain⟨q,hq⟩:∃ q,q=ie Ti:=⟨_,rfl⟩
     have hqw:q.length<=1000000:=by
       rw[hq];have h9:=I4.1;rw[Tm.cU]at h9;unfold ie;split
       ·simp
       omega
     obtain⟨f,hf⟩:∃ q,q=BZ l.length j 0 d:=⟨_,rfl⟩
     have hdw:d.wt<=290000/\d.size<=4096:=by
       have h9:=I4.1;rw[Tm.cU,Tm.eV,Tm.eV]at h9;rw[Tm.aM,Tm.aD,Tm.aD]at Zi;exact⟨by omega,by omega⟩
     have hfw:f.wt<=300000:=by rw[hf];unfold BZ;rw[Bn];omega
     have FL:=fun(W:World)(hW:af ae wr W)=>D2 d l.length j (by omega) (by omega) W _ (by omega) (fun b' x hx e=>(Tm.xw d hd b' x hx).1 (by simp[e])) ((aw.weaken (fun _ _ e=>e.elim) _ _ Yg).on hW)
     rw[<-hf,<-yC.out]at FL;have NW:=fun(W:World)(hW:af ae wr W)(qs:List Value)(h':aw ae W f.az qs)=>IZ L Wj q hqw f hfw W va vc qs ((ai.weaken (fun _ _ e=>e.elim) _ _ _ _ hE).on hW) h'
     have kK:=rB l a j;rw[GQ,if_neg (by simp)]at kK;simp only at kK;have Gp:nh (Tm.mk 2 Ti i' [d,b]) 0=d:=rfl;have EL:nh (Tm.mk 2 Ti i' [d,b]) 1=b:=rfl;have qG:(Tm.mk 2 Ti i' [d,b]).name=Ti:=rfl;rw[Gp,EL,qG,<-hq,<-hf]at kK;obtain⟨nl,uE⟩:∃ z,z=kU L q f:=⟨_,rfl⟩;obtain⟨ni,XE⟩:∃ z,z=Dk L q f:=⟨_,rfl⟩;obtain⟨ce,hce⟩:∃ z,z=dq L.length q f:=⟨_,rfl⟩;simp only[<-uE,<-XE,<-hce]at NW;rw[<-uE,<-hce]at kK;have jZ:=ak kK;have HQ:=ak hq;clear kK uE XE hce hf hq Gp EL qG hdw hfw hqw Yg L9 hE hR hb zn I1 I2 I3 I4 I5 I6 LH hd Zi T4 Wj;obtain⟨hE,hR,hb⟩:=hnz.out;obtain⟨cn,Y6⟩:∃ c,c=(Ti == [95]):=⟨_,rfl⟩;have ZY:=Y6.symm;have HCN:=ak Y6;clear Y6;go_upto_if 67 with fail
     go_cut [13]from 66 to 67 (fun PV wx=>PV=.string (B q)/\wx=wr)
     case first=>
       cases cn
       ·have hq2:q=Ti:=by
          rw[HQ.out];unfold ie;rw[if_neg (by simpa using ZY)]
        go_wp2_with fail;go_meet
        exact⟨by rw[hq2],by first |rfl |trivial⟩
       have hq2:q=[]:=by
         rw[HQ.out];unfold ie;rw[if_pos (by simpa using ZY)]
       go_wp2_with fail;go_meet
       exact⟨by rw[hq2],by first |rfl |trivial⟩
     obtain⟨rfl,Yo⟩:=hcut;obtain rfl:wr=wc:=Yo.symm;have hd:af ae wr wr.drew:=(af.refl ae _).drew;have FL2:=FL _ hd;have HC:=ak (And.intro hE (And.intro hR (And.intro hb (And.intro hr (And.intro hB hU)))));clear FL hE hR hb hr hB hU hnz;obtain⟨Ll,AE⟩:∃ z,z=L.length:=⟨_,rfl⟩;rw[<-AE];rw[<-AE]at Ce;simp only[<-AE]at NW;have Ai:=ak AE;have Xs:=ak NW;clear NW AE;go_upto_region 19 with fail
     go_region_law (first
       |((rw[if_pos (by rfl)]);go_simp;(go_at_call 84);(with_reducible refine FL2.mono ?_);rintro e w7 ⟨k7,i7,n7,a7,l7,c7,rfl,og,cm⟩;have yt:=hd.and cm;have NW7:=Xs.out w7 yt _ (aw.weaken (fun _ _ e=>e.elim) _ _ og))
       |((rw[if_pos (by rfl)]);go_simp;(go_at_call 46);(with_reducible refine NW7.mono ?_);rintro e w8 ⟨v8,acG,rfl,O9,cW⟩))
     all_goals
       have tX:=yt.and cW;obtain⟨hE,hR,hb,hr,hB,hU⟩:=HC.out;have oK:=hr.kept tX;have mq:=hB.kept tX;have gK:=hb.kept tX;have hUX:af (fun y=>y=X) w1 w8:=hU.trans tX (fun _ _ e=>e.elim);have YZ:=aw.weaken (O':=fun y=>y=X\/y=R) (fun b _ e=>e) _ _ (uw.on tX);have s0:=tX.cell r0 (fun x=>x);have s1:=tX.cell r1 (fun x=>x);have s2:=tX.cell r2 (fun x=>x);have s3:=tX.cell r3 (fun x=>x);have hDL:=O9;have hwz:=yt.size;obtain⟨a8,c8,rfl,hc8,WZ⟩:=O9.rep (fun _ e=>e);have ab6:=ai.weaken (O':=fun y=>y=X\/y=R) (fun b _ e=>by rcases e with e |e<;>omega) _ _ _ _ WZ;have hl8:(nl.map Mv.az).length=nl.length:=List.length_map ..;rw[hl8]at hc8;rw[hl8];have Qn:=ak (And.intro mq (And.intro oK (And.intro gK (And.intro hUX (And.intro YZ (And.intro ab6 hc8))))));clear hE hR hb hr hB hU uw hDL O9 WZ ab6 tX hUX YZ FL2 NW7 Xs cm cW og r0 r1 r2 r3 p0 p1 p2 p3 x0 x1 x2 x3 b0 hd hc8 hl8 yt HC;by_cases hz:ce=0
       ·have kK:gu l a (j+1)=(0,nl,b):=by rw[jZ.out,if_neg (by simp[hz])]
        have Un:(ce == 0)=true:=by simpa using hz
        have HN:=ak kK;clear kK;subst hz;obtain⟨x0,x1,x2,x3⟩:=Qn.out.1.cells;obtain⟨f0,f1,f2,f3⟩:=Qn.out.1.aq;have qB:=Qn.out.1.lt;go_wp2_with fail;have ah:=Qn.out.1.set (d0:=.int .i64 kb) (d1:=.string (B nb)) (d2:=.int .i64 xb) (d3:=.slice sb b.args.length cb);go_roundw
        case rel=>
          obtain⟨h1,h2,h3,h4,h5,h6,h7⟩:=Qn.out;exact⟨j+1,nl,b,kb,xb,nb,sb,cb,a8,c8,by go_num,by omega,HN.out,rfl,h7,ai.ag ah.2 (fun _ e=>.inl e) _ _ _ _ h6,ah.1,aw.ag ah.2 (fun _ e=>.inl e) _ _ h5,h3.ag ah.2 (by have:=Sn.out;omega),h2.ag ah.2 (by have:=Sn.out;omega),h4.trans ah.2 (fun _ _ e=>e)⟩
        simp[intOf];omega
       have kK:(gu l a (j+1)).1=ce:=by rw[jZ.out,if_pos hz]
       have mQ:=D4 l a (i:=j+1) (by rw[kK];exact hz) (m - (j+1));rw[show j+1+(m - (j+1))=m by omega]at mQ;have kJ:nV l a m=ce:=HM.out.2.1 ce (by rw[mQ,kK]);have R2:=Ye.out ce kJ hz w8 Qn.out.2.2.2.1;have HE:=ak (And.intro kJ hz);have Un:(ce !=0)=true:=by simpa using hz
       clear kK mQ kJ hz;go_wp2_with fail
       (with_reducible refine R2.mono ?_);rintro e w9 ⟨Xk,XM,k3,i3,n3,a3,l3,c3,rfl,fp,Hr,yd,bU⟩;have gM:=Qn.out.2.1.kept bU;obtain⟨r0,r1,r2,r3⟩:=gM.cells;obtain⟨y0,y1,y2,y3⟩:=gM.aq;have aiA:=gM.lt;have Zz:=Qn.out.2.1.lt;clear R2;go_wp2_with fail;have ah:=gM.set (d0:=.int .i64 k3) (d1:=.string (B n3)) (d2:=.int .i64 i3) (d3:=.slice a3 l3 c3);obtain⟨kB,nt⟩:∃ q,q=(((w9.setCell ⟨R,0,none⟩ (.int .i64 k3)).setCell ⟨R,1,none⟩ (.string (B n3))).setCell ⟨R,2,none⟩ (.int .i64 i3)).setCell ⟨R,3,none⟩ (.slice a3 l3 c3):=⟨_,rfl⟩;rw[<-nt]at ah;rw[<-nt];clear nt;obtain⟨e0,e1,e2,e3⟩:=ah.1.cells;refine bodyPost_ret (v:=.tuple #[.slice Xk l.length XM,.agg #[.int .i64 k3,.string (B n3),.int .i64 i3,.slice a3 l3 c3],.int .i64 ce]) ?_ rfl ?_
       ·simp[results,Tryz.f33,go_sem,e0,e1,e2,e3]
       refine⟨Xk,XM,k3,i3,n3,a3,l3,c3,by rw[HE.out.1];unfold jj;rw[if_neg (by rw[HE.out.1];exact HE.out.2)],by unfold jj;rw[if_neg (by rw[HE.out.1];exact HE.out.2)];exact fp,?_,?_,?_⟩
       ·exact ai.weaken (fun _ _ e=>e.elim) _ _ _ _ (ai.ag ah.2 (fun b e=>by omega) _ _ _ _ Hr)
       ·exact aw.weaken (fun _ _ e=>e.elim) _ _ (aw.ag ah.2 (fun b e=>by omega) _ _ yd)
       exact((HL.out.2.1.trans Qn.out.2.2.2.1 (fun b hb e=>by have:=Sn.out;omega)).and bU).trans ah.2 (fun b hb e=>by have:=Sn.out;omega)
    obtain rfl:j=m:=by omega
    have gL:nV l a j=0:=HM.out.2.1 0 (by rw[GQ]);have Rq:jj l a j=L:=by unfold jj;rw[if_pos gL,Int.toNat_natCast,GQ]
    have SY:uM l a j=BZ l.length j 0 A:=by unfold uM;rw[if_pos gL,Int.toNat_natCast,GQ]
    have ZN:∀ b,∀ x∈A.nodes b,x.k=5->0<=x.i/\x.i<=1048576:=fun b x hx e=>by
      rcases I1 with h9 |h9
      ·exact(Tm.xw A h9 b x hx).1 (by simp[e])
      exact(Tm.L0 A h9 b x hx).1 (by simp[e])
    have FL:=D2 A l.length j (by omega) (by omega) wr _ (by omega) ZN (aw.weaken (fun _ _ e=>e.elim) _ _ hR);rw[<-SY,<-yC.out]at FL;have HS:=ak (And.intro gL (And.intro Rq (And.intro hE hU)));obtain⟨Ll,AE⟩:∃ z,z=L.length:=⟨_,rfl⟩;rw[<-AE];have Ai:=ak (And.intro AE Ce);have sA:¬(j:Int)<(j:Int):=by omega
    clear AE Ce gL Rq SY ZN hE hU I1 I2 I3 I4 I5 I6 GQ Wj T4 hR aB hB;generalize A.args.length=al at *
    go_wp2_with fail
    (with_reducible refine FL.mono ?_);rintro e w7 ⟨k7,i7,n7,a7,l7,c7,rfl,og,cm⟩;have j4:=hr.kept cm;obtain⟨r0,r1,r2,r3⟩:=j4.cells;obtain⟨y0,y1,y2,y3⟩:=j4.aq;have xY:=j4.lt;have amk:=hr.lt;clear FL x0 x1 x2 x3 b0;go_wp2_with fail;have ah:=j4.set (d0:=.int .i64 k7) (d1:=.string (B n7)) (d2:=.int .i64 i7) (d3:=.slice a7 l7 c7);obtain⟨kB,nt⟩:∃ q,q=(((w7.setCell ⟨R,0,none⟩ (.int .i64 k7)).setCell ⟨R,1,none⟩ (.string (B n7))).setCell ⟨R,2,none⟩ (.int .i64 i7)).setCell ⟨R,3,none⟩ (.slice a7 l7 c7):=⟨_,rfl⟩;rw[<-nt]at ah;rw[<-nt];clear nt;obtain⟨e0,e1,e2,e3⟩:=ah.1.cells;refine bodyPost_ret (v:=.tuple #[.slice va Ll vc,.agg #[.int .i64 k7,.string (B n7),.int .i64 i7,.slice a7 l7 c7],.int .i64 0]) ?_ rfl ?_
    ·simp[results,Tryz.f33,go_sem,e0,e1,e2,e3]
    refine⟨va,vc,k7,i7,n7,a7,l7,c7,by rw[HS.out.1,HS.out.2.1,Ai.out.1],by rw[HS.out.2.1];exact Ai.out.2,?_,?_,?_⟩
    ·rw[HS.out.2.1];exact ai.weaken (fun _ _ e=>e.elim) _ _ _ _ (ai.ag ah.2 (fun b e=>.inr e) _ _ _ _ (HS.out.2.2.1.on cm))
    ·exact aw.weaken (fun _ _ e=>e.elim) _ _ (aw.ag ah.2 (fun b e=>by omega) _ _ og)
    exact((HL.out.2.1.trans HS.out.2.2.2 (fun b hb e=>by have:=Sn.out;omega)).and cm).trans ah.2 (fun b hb e=>by have:=Sn.out;omega)
end Go.Proofs.YthgmimncdjhgnaaGreatDoor
