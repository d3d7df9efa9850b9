/- meta.K8.replace. -/
import Derived.Test.YthgmimncdjhgnaaGreatDoorXFF
set_option maxRecDepth 100000
set_option maxHeartbeats 16000000
namespace Go.Proofs.YthgmimncdjhgnaaGreatDoor
section
open Go.RowKit Go.LF
abbrev J7(H vb vo Y:Nat)(h5 v0 v1 v2 v3 y0 y1:Value)(w':World):Prop:=
  w'.cell? ⟨H,5,none⟩=some h5/\(w'.cell? ⟨vb,vo,none⟩=some v0/\w'.cell? ⟨vb,vo+1,none⟩=some v1/\w'.cell? ⟨vb,vo+2,none⟩=some v2/\w'.cell? ⟨vb,vo+3,none⟩=some v3)/\(w'.cell? ⟨Y,0,none⟩=some y0/\w'.cell? ⟨Y,1,none⟩=some y1)
theorem J7.ag{S:Nat->Prop}{H vb vo Y:Nat}{h5 v0 v1 v2 v3 y0 y1:Value}{w w':World}(h:J7 H vb vo Y h5 v0 v1 v2 v3 y0 y1 w)(hU:af S w w')(h1:¬S H)(h2:¬S vb)(h3:¬S Y):J7 H vb vo Y h5 v0 v1 v2 v3 y0 y1 w':=by
  obtain⟨a0,⟨b0,b1,b2,b3⟩,c0,c1⟩:=h;exact⟨hU.cell a0 h1,⟨hU.cell b0 h2,hU.cell b1 h2,hU.cell b2 h2,hU.cell b3 h2⟩,hU.cell c0 h3,hU.cell c1 h3⟩
theorem J7.new{H vb vo Y:Nat}{h5 v0 v1 v2 v3 y0 y1:Value}{w:World}(h:J7 H vb vo Y h5 v0 v1 v2 v3 y0 y1 w)(o:Obj):J7 H vb vo Y h5 v0 v1 v2 v3 y0 y1 (w.alloc o):=h.ag ((af.refl ae w).alloc o) (fun x=>x) (fun x=>x) (fun x=>x)
theorem J7.kT{r H vb vo Y:Nat}{h5 v0 v1 v2 v3 y0 y1:Value}{w:World}(h:J7 H vb vo Y h5 v0 v1 v2 v3 y0 y1 w)(h1:¬H=r)(h2:¬vb=r)(h3:¬Y=r)(d0 d1 d2 d3:Value):
    J7 H vb vo Y h5 v0 v1 v2 v3 y0 y1 ((((w.setCell ⟨r,0,none⟩ d0).setCell ⟨r,1,none⟩ d1).setCell ⟨r,2,none⟩ d2).setCell ⟨r,3,none⟩ d3):=
  h.ag (af.set (af.set (af.set (af.set (af.refl _ _) 0 _) 1 _) 2 _) 3 _) h1 h2 h3
theorem vq(l:List Mv)(hG:GW l)(n:Nat)(EX:∀ t,TL l n t):aau l n:=by
  intro m us c xb O w la lc cs ua uc hn hc mR xm cZ EI gd wO hO hX hL hR hE
  obtain⟨v,Hd⟩:∃ v,m.value=[v]:=by
    have h1:=(hG.mv m mR).one;match Io:m.value,xm with
    | [v],_=>exact⟨v,rfl⟩
    |a :: b :: r,_=>rw[Io]at h1;simp at h1
  have KH:=(hG.mv m mR).val v (by rw[Hd];simp);have hkv:=(hG.mv m mR).kn.2 v (by rw[Hd];simp);obtain⟨Sk,eB⟩:=(hG.mv m mR).kQ;obtain⟨k,nm,i,aa,cap,va,vc,rfl,lV,fp,hV⟩:=gx hR;rw[Hd]at hV fp hR;simp only[List.length_cons,List.length_nil,Nat.zero_add]at fp;rw[show m.value.length=1 by rw[Hd];rfl];obtain⟨w1,aF⟩:∃ w1,w1=(w.alloc (.cells #[.string (B m.name),.int .i64 k,.string (B nm),.int .i64 i,.slice aa m.type.args.length cap,.slice va 1 vc] 96)).alloc (.cells #[.int .i64 0,.string (B []),.int .i64 0,.slice none 0 0] 29):=⟨_,rfl⟩;have aH:af ae w w1:=by rw[aF];exact((af.refl ae w).alloc _).alloc _
  have qp:bC w1 w.heap.size (.string (B m.name)) (.int .i64 k) (.string (B nm)) (.int .i64 i) (.slice aa m.type.args.length cap) (.slice va 1 vc) 96:=by rw[aF];exact(bC.av rfl).kept ((af.refl ae _).alloc _)
  have dK:au w1 (w.heap.size+1) (.int .i64 0) (.string (B [])) (.int .i64 0) (.slice none 0 0) 29:=by rw[aF];exact au.av (by simp)
  have rY:=hX.kept aH;have kA:=(ai.aG _ _ _ _ hL).on aH;have fU:=(ai.aG _ _ _ _ hE).on aH;have UB:=(aw.aG _ _ lV).on aH;have OJ:=(ai.aG _ _ _ _ hV).on aH;obtain⟨H,hH⟩:∃ H,H=w.heap.size:=⟨_,rfl⟩;have HW:=ak aF;have HH:=ak hH;rw[<-hH]at qp dK kA fU UB OJ;have j9:∀ b,O b->b<H:=by rw[hH];exact hO
  have Q7:xb<H:=j9 xb wO;have HO:=ak j9;have jx:=qt Sk eB
  have CG:(Tm.er m.type).wt<=1000000:=by
    have h1:=(Tm.RG m.type).1;have h2:=Tm.iM jx;have h3:=(Tm.dz jx).2.1;omega
  have here:m.type.Xq=0:=by unfold Tm.Xq;rw[if_neg (by rw[jx];simp),Sk];simp
  have abN:m.type.wt<=1000000:=by have:=Tm.iM jx;omega
  have ER:=fun(W:World)h=>Gt m.type abN W [.int .i64 k,.string (B nm),.int .i64 i,.slice aa m.type.args.length cap] h
  rw[show m.type.Zf=m.type.er by unfold Tm.Zf;rw[if_pos here],here]at ER;have hvw:v.wt<=1000000:=by have:=Tm.lT KH.1 KH.2;omega
  have xV:∀ u∈us,u.wt<=1000000:=fun u hu=>by have:=Tm.lT (gd u hu).1 (gd u hu).2.1;omega
  obtain⟨R,iR⟩:∃ R,R=Oh l n m us c:=⟨_,rfl⟩;rw[<-iR];unfold Oh at iR;rw[show m.value.headD Tm.aO=v by rw[Hd];rfl]at iR
  have gm:m6 v m.type.er us=0->(lp v m.type.er us).wf=0/\Kn l.length (lp v m.type.er us):=fun he=>by
    obtain⟨h1,h2⟩:=rb he;exact⟨Tm.jq h1 h2,rA Fg AW hkv ((Tm.bV us).2 fun u hu=>(gd u hu).2.2)⟩
  have AP:=fun(Q:Nat)(W:World)(hq:∀ b,(O b\/b=H\/b=H+1\/b=Q)->b<W.heap.size)(tw:List Value)(yR:List Value)h1 h2 h3=>FG (fun b=>O b\/b=H\/b=H+1\/b=Q) v m.type.er us hvw xV CG (by omega) W hq tw yR ua uc h1 h2 h3
  obtain⟨aE,YW⟩:∃ aE,aE=m6 v m.type.er us:=⟨_,rfl⟩;obtain⟨aT,haT⟩:∃ aT,aT=lp v m.type.er us:=⟨_,rfl⟩;rw[<-YW,<-haT]at iR gm AP;have VB:=EX aT;generalize m.type.er=sm at *
  generalize m.type.args.length=al at *
  generalize m.name=mn at *
  obtain⟨ul,um⟩:∃ ul,ul=us.length:=⟨_,rfl⟩;rw[<-um]at AP;rw[<-um];obtain⟨ll,du⟩:∃ ll,ll=l.length:=⟨_,rfl⟩;rw[<-du]at rY hX;rw[<-du];have HP:=ak (And.intro iR (And.intro gm (And.intro du hn)));have mX:H+2<=w1.heap.size:=by have:=dK.lt;omega
  have Xg:(c:Int)<=16384:=by omega
  have tw:(0:Int)<=(c:Int):=by omega
  clear aF hH hX hL hR hE lV hV hO j9 iR gm um du YW haT EX hn xm Hd gd KH hkv Sk eB jx abN here hvw xV CG;obtain⟨q0,q1⟩:=rY.cells;obtain⟨p0,p1⟩:=rY.aq;have FY:=rY.lt;go_enter Tryz.func121,Tryz.ntmps121;go_upto_region 1 with fail;rw[<-show B []={ data:=#[] }from rfl,<-HW.out,<-HH.out];obtain⟨w2,dY⟩:∃ w2,w2=w1.setCell ⟨xb,1,none⟩ (.int .i64 ((c:Int)+1)):=⟨_,rfl⟩;have dd:af (fun b=>b=xb) w1 w2:=by rw[dY];exact af.set (af.refl _ _) 1 _
  have yU:bK w2 xb (.slice la ll lc) (.int .i64 ((c:Int)+1)) 78:=by rw[dY];exact rY.mu _
  have GJ:=qp.ag dd (by omega);have dO:=dK.ag dd (by omega);have aL:af (fun b=>b=xb) w w2:=(aH.mono (fun _ _ e=>e.elim)).trans dd (fun _ _ e=>e);have Bs:∀ b,b=xb->(O b\/H<=b):=fun b e=>.inl (e ▸ wO)
  have oG:=ai.ag dd Bs _ _ _ _ kA;have kJ:=ai.ag dd Bs _ _ _ _ fU;have uR:=aw.ag dd Bs _ _ UB;have H6:=ai.ag dd Bs _ _ _ _ OJ;have B7:=ak dY;have Uk:H+1<w2.heap.size:=dO.lt;have GY:=dd.size;clear dY rY qp dK aH kA fU UB OJ;go_upto_region 2 with fail;rw[<-B7.out];clear q0 q1 p0 p1;obtain⟨q0,q1⟩:=yU.cells;obtain⟨m0,m1,m2,m3,m4,m5⟩:=GJ.cells;by_cases rQ:16384<c+1
  ·have fG:R=⟨2,Tm.aO,c+1⟩:=by rw[HP.out.1,if_pos rQ]
   have HR:=ak fG;have uy:(16384:Int)<(c:Int)+1:=by omega
   obtain⟨y0,y1,y2,y3⟩:=dO.cells;obtain⟨z0,z1,z2,z3⟩:=dO.aq;have ah:=dO.set (d0:=.int .i64 0) (d1:=.string (B [])) (d2:=.int .i64 0) (d3:=.slice none 0 0);have dJ:=ak ah;clear ah fG rQ;go_wp2_with fail;obtain⟨gK,ah⟩:=dJ.out;obtain⟨e0,e1,e2,e3⟩:=gK.cells;refine bodyPost_ret (v:=.tuple #[.agg #[.int .i64 0,.string (B []),.int .i64 0,.slice none 0 0],.int .i64 2]) ?_ rfl ?_
   ·simp[results,Tryz.f121,go_sem,e0,e1,e2,e3]
   exact pP (r0:=H+1) (by rw[HR.out]) (by rw[HR.out];exact bD 0 [] 0) (by rw[HR.out];exact yU) aL ah (by have:=HH.out;omega) (by have:=HH.out;omega)
  have OV:=ak (show R=if aE≠0 then⟨aE,Tm.aO,c+1⟩else gG l n aT (c+1) by rw[HP.out.1,if_neg rQ]);have uy:¬(16384:Int)<(c:Int)+1:=by omega
  have hbg:c+1<=16384:=by omega
  have ER2:=ER w2 (aw.weaken (fun _ _ x=>x.elim) _ _ uR);clear rQ ER uR;go_wp2_with fail
  (with_reducible refine ER2.mono ?_);rintro e w6 ⟨f,sa,sl,sc,rfl,hS6,bj⟩;have DN:=bj.size;obtain⟨w7,rJ⟩:∃ w7,w7=w6.alloc (.cells #[.string (B f),.slice sa sl sc] 115):=⟨_,rfl⟩;have dM:af ae w6 w7:=by rw[rJ];exact(af.refl ae _).alloc _
  have VC:bK w7 w6.heap.size (.string (B f)) (.slice sa sl sc) 115:=by rw[rJ];exact bK.av rfl
  obtain⟨Y,hY⟩:∃ Y,Y=w6.heap.size:=⟨_,rfl⟩;have Eg:=(aw.aG _ _ hS6).on dM;rw[<-hY]at VC DN Eg;have KI:=ak rJ;have HY:=ak hY;have AJ:af ae w2 w7:=bj.and dM;have Z5:=GJ.kept AJ;have j4:=dO.kept AJ;have Ea:=yU.kept AJ;have cm:af (fun b=>b=xb) w w7:=aL.trans AJ (fun _ _ e=>e.elim);have hL7:=oG.on AJ;have Qd:=kJ.on AJ;have hV7:=H6.on AJ;clear rJ hY hS6 q0 q1 m0 m1 m2 m3 m4 m5 GJ dO yU oG kJ H6 bj dM ER2;obtain⟨vb,vo,vk,vn,vi,vs,vz,rfl,hvb,afK,b0,b1,b2,b3,yr⟩:=aY hV7 0 (by simp);simp only[Nat.zero_mul,Nat.add_zero,List.getElem_cons_zero]at b0 b1 b2 b3 yr;generalize v.args.length=vl at *
  have ao6:=AJ.size;have hYl:=VC.lt;have hYH:H+1<Y:=by omega
  have hd:af ae w7 w7.drew:=(af.refl ae w7).drew;have ha:af ae w7 (w7.alloc (.cells #[.int .i64 0,.string (B []),.int .i64 0,.slice none 0 0] 29)).drew:=((af.refl ae _).alloc _).drew;have wk:∀ Q,Y<=Q->∀ b,b<w7.heap.size->(O b\/b=H\/b=H+1\/b=Q)->(O b\/H<=b):=fun Q hQ b _ e=>by rcases e with e |e |e |e;(exact .inl e);all_goals exact .inr (by omega)
  have wkS:∀ Q,Y<=Q->∀ b,b<w7.heap.size->(O b\/b=H\/b=H+1\/b=Q)->(b<w2.heap.size\/Y<=b):=fun Q hQ b _ e=>by have h0:=HO.out b;rcases e with e |e |e |e;(have:=h0 e;exact .inl (by omega));(exact .inl (by omega));(exact .inl (by omega));exact .inr (by omega)
  have RQ:=fun(Q:Nat)(hQ:Y<=Q)(W:World)(hu:af ae w7 W)(hq:Q<W.heap.size)=>AP Q W (fun b e=>by have h0:=HO.out b;have:=hu.size;rcases e with e |e |e |e;(have:=h0 e;omega);all_goals omega)
    [.int .i64 vk,.string (B vn),.int .i64 vi,.slice vs vl vz] [.string (B f),.slice sa sl sc] ((aw.weaken (wk Q hQ) _ _ yr).on hu) ((aw.weaken (wkS Q hQ) _ _ Eg).on hu) ((ai.weaken (wk Q hQ) _ _ _ _ Qd).on hu)
  have UA:=RQ Y (Nat.le_refl _) _ hd (by have:=hd.size;omega);have APa:=RQ w7.heap.size (by omega) _ ha (by show w7.heap.size<(World.drew _).heap.size;simp);have Sc:J7 H vb vo Y (.slice (some ⟨vb,vo,none⟩) 1 vc) (.int .i64 vk) (.string (B vn)) (.int .i64 vi) (.slice vs vl vz) (.string (B f)) (.slice sa sl sc) w7:=⟨Z5.cells.2.2.2.2.2,⟨b0,b1,b2,b3⟩,VC.cells⟩;have Sd:=Sc.ag hd (fun x=>x) (fun x=>x) (fun x=>x);have Sa:=Sc.ag ha (fun x=>x) (fun x=>x) (fun x=>x);clear b0 b1 b2 b3 Eg hV7 yr wk wkS RQ AP;go_upto_region 7 with fail;rw[<-KI.out,<-HY.out];go_cut [10,9]from 34 to 43 (fun v10 v9 wc=>∃(b:Nat)(k9 i9:Int)(n9:List UInt8)(a9:Option Addr)(l9 c9:Nat),v10=.pointer (some ⟨b,0,none⟩)/\v9=.int .i64 aE/\Y<b/\au wc b (.int .i64 k9) (.string (B n9)) (.int .i64 i9) (.slice a9 l9 c9) 29/\aw (fun x=>O x\/x=H\/x=H+1\/x=b) wc aT.az [.int .i64 k9,.string (B n9),.int .i64 i9,.slice a9 l9 c9]/\af ae w7 wc)
  case first=>
    go_region_held3 (fun w'=>J7 H vb vo Y (.slice (some ⟨vb,vo,none⟩) 1 vc) (.int .i64 vk) (.string (B vn)) (.int .i64 vi) (.slice vs vl vz) (.string (B f)) (.slice sa sl sc) w')
      (first |(with_reducible assumption)|(with_reducible exact Sd)|(with_reducible exact Sa)|(repeat' (first |(with_reducible assumption)|(with_reducible refine J7.new ?_ _)|(with_reducible refine J7.kT ?_ (by(try simp only[World.size_alloc]);omega) (by(try simp only[World.size_alloc]);omega) (by(try simp only[World.size_alloc]);omega) _ _ _ _))))
      (first
        |((go_at_call 169);(with_reducible refine UA.mono ?_);rintro e yE ⟨GI,i11,Fj,EN,mL,mJ,rfl,qN,ir⟩;have XJ:=Sd.ag ir (fun x=>x) (fun x=>x) (fun x=>x);have iJ:=hd.and ir;have X8:=iJ.size)
        |((go_at_call 169);(with_reducible refine APa.mono ?_);rintro e yE ⟨GI,i11,Fj,EN,mL,mJ,rfl,qN,ir⟩;have XJ:=Sa.ag ir (fun x=>x) (fun x=>x) (fun x=>x);have iJ:=ha.and ir;have X8:=iJ.size;have h6:=(((au.av rfl:au (w7.alloc (.cells #[.int .i64 0,.string (B []),.int .i64 0,.slice none 0 0] 29)) w7.heap.size _ _ _ _ 29).kept (af.refl ae _).drew).kept ir);obtain⟨c0,c1,c2,c3⟩:=h6.cells;obtain⟨d0,d1,d2,d3⟩:=h6.aq;have U1:=h6.lt))
    all_goals
      go_wp2_with fail;go_meet
    all_goals first
      |(have h7:=h6
        refine⟨w7.heap.size,GI,i11,Fj,EN,mL,mJ,rfl,rfl,by omega,h7.set.1,?_,?_⟩
        ·exact aw.ag h7.set.2 (fun b e=>.inr (.inr (.inr e))) _ _ qN
        exact iJ.trans h7.set.2 (fun b hb e=>by omega))
      |(refine⟨yE.heap.size,GI,i11,Fj,EN,mL,mJ,rfl,rfl,by omega,au.av rfl,?_,?_⟩
        ·exact(aw.weaken (fun b hb e=>by rcases e with e |e |e |e;(exact .inl e);(exact .inr (.inl e));(exact .inr (.inr (.inl e)));omega) _ _ qN).on ((af.refl ae _).alloc _)
        exact iJ.alloc _)
  obtain⟨b,k9,i9,n9,a9,l9,c9,rfl,rfl,hYb,mq,oK,xi⟩:=hcut;obtain⟨w9,rfl⟩:∃ q,q=wc:=⟨wc,rfl⟩;have gM:=j4.kept xi;have sr:=Ea.kept xi;have bU:af (fun b=>b=xb) w w9:=cm.trans xi (fun _ _ e=>e.elim);have P6:=hL7.on xi;have aeA:=xi.size;clear Sc Sd Sa UA APa hd ha j4 Ea Z5 VC AJ Qd;by_cases GD:aE=0
  case neg=>
    have fG:R=⟨aE,Tm.aO,c+1⟩:=by rw[OV.out,if_pos GD]
    have HR:=ak fG;have aip:(aE !=0)=true:=by simpa using GD
    clear GD fG;obtain⟨y0,y1,y2,y3⟩:=gM.cells;obtain⟨z0,z1,z2,z3⟩:=gM.aq;have qr:=gM.lt;have ah:=gM.set (d0:=.int .i64 0) (d1:=.string (B [])) (d2:=.int .i64 0) (d3:=.slice none 0 0);have dJ:=ak ah;clear ah;go_wp2_with fail;obtain⟨gK,ah⟩:=dJ.out;obtain⟨e0,e1,e2,e3⟩:=gK.cells;refine bodyPost_ret (v:=.tuple #[.agg #[.int .i64 0,.string (B []),.int .i64 0,.slice none 0 0],.int .i64 aE]) ?_ rfl ?_
    ·simp[results,Tryz.f121,go_sem,e0,e1,e2,e3]
    exact pP (r0:=H+1) (by rw[HR.out]) (by rw[HR.out];exact bD 0 [] 0) (by rw[HR.out];exact sr) bU ah (by have:=HH.out;omega) (by have:=HH.out;omega)
  subst GD;have fG:R=gG l n aT (c+1):=by rw[OV.out,if_neg (by simp)]
  obtain⟨jm,FB⟩:=HP.out.2.1 rfl
  have WM:=VB (c+1) xb (fun x=>O x\/x=H+1) w9 la lc [.int .i64 k9,.string (B n9),.int .i64 i9,.slice a9 l9 c9] (by have:=HP.out.2.2.2;omega) hbg jm FB (.inl wO)
    (fun b e=>by have h0:=HO.out b;rcases e with e |e;(have:=h0 e;omega);omega) (by rw[<-HP.out.2.2.1];exact sr)
    (ai.weaken (fun b _ e=>by rcases e with e |e;(exact .inl e);exact .inr (by omega)) _ _ _ _ P6)
    (aw.weaken (fun b _ e=>by rcases e with e |e;(exact .inl e);exact .inr (.inr (.inl e))) _ _ oK)
  rw[<-HP.out.2.2.1,<-fG]at WM;obtain⟨t0,t1,t2,t3⟩:=mq.cells;clear fG;go_wp2_with fail
  (with_reducible refine WM.mono ?_);rintro e kB ⟨Pm,i10,TN,X7,VO,Xa,rfl,sw,pc,gZ⟩;have lv:=gM.ag gZ (by omega);obtain⟨y0,y1,y2,y3⟩:=lv.cells;obtain⟨z0,z1,z2,z3⟩:=lv.aq;have qr:=lv.lt;have ah:=lv.set (d0:=.int .i64 Pm) (d1:=.string (B TN)) (d2:=.int .i64 i10) (d3:=.slice X7 VO Xa);have dJ:=ak ah;have HQ:=ak (And.intro sw (And.intro pc gZ));clear ah t0 t1 t2 t3 sw pc gZ WM lv;go_wp2_with fail;obtain⟨gK,ah⟩:=dJ.out;obtain⟨e0,e1,e2,e3⟩:=gK.cells;refine bodyPost_ret (v:=.tuple #[.agg #[.int .i64 Pm,.string (B TN),.int .i64 i10,.slice X7 VO Xa],.int .i64 R.e]) ?_ rfl ?_
  ·simp[results,Tryz.f121,go_sem,e0,e1,e2,e3]
  exact pP (r0:=H+1) rfl HQ.out.1 HQ.out.2.1 (bU.trans HQ.out.2.2 (fun _ _ e=>e)) ah (by have:=HH.out;omega) (by have:=HH.out;omega)
end
section
open Go.RowKit Go.LF
theorem LD(l:List Mv)(hG:GW l)(n:Nat):∀ t,TL l n t:=by
  induction n with
  |zero=>intro t c xb O w la lc cs h1 h2;omega
  |succ n ih=>exact fun t=>Cg l hG n (vq l hG n ih) t
theorem Ev(b:Nat)(la:Option Addr)(ll lc:Nat)(x:Int)(w:World)(hb:w.cell? ⟨b,0,none⟩=some (.slice la ll lc)):
    Calls Tryz.prog 53 #[.int .i64 x,.pointer (some ⟨b,0,none⟩)] w fun e w'=>e=.returned (.bool (decide ((ll:Int)<=x)))/\af ae w w':=by
  go_enter Tryz.func53,Tryz.ntmps53;go_wp2_with fail;go_ret;exact⟨rfl,af.refl _ _⟩
theorem wQ(O:Nat->Prop)(l:List Mv)(hG:GW l)(t:Tm)(iH:t.wt<=1000000)(FB:t.wf=0->(∀ i∈Tm.ay t,i<l.length)->Kn l.length t)(w:World)(hO:∀ b,O b->b<w.heap.size)(la:Option Addr)(lc:Nat)(cs:List Value)(hL:ai O w 6 (l.map Mv.az) la 0)(h:aw O w t.az cs):
    Calls Tryz.prog 12 #[.slice la l.length lc,.agg cs.toArray] w (qa O (ep l t) (bP l t) w):=by
  obtain⟨k,nm,i,ts,aa,cap,ht,rfl,_,_⟩:=aP h;generalize ts.length=len at *
  obtain⟨w1,aF⟩:∃ w1,w1=((w.alloc (.cells #[.slice la l.length lc] 23)).alloc (.cells #[.int .i64 k,.string (B nm),.int .i64 i,.slice aa len cap] 29)).alloc (.cells #[.int .i64 0,.string (B []),.int .i64 0,.slice none 0 0] 29):=⟨_,rfl⟩;have aH:af ae w w1:=by rw[aF];exact(((af.refl ae w).alloc _).alloc _).alloc _
  have rI:cq w1 w.heap.size (.slice la l.length lc) 23:=by rw[aF];exact((cq.av rfl).kept ((af.refl ae _).alloc _)).kept ((af.refl ae _).alloc _)
  have gy:au w1 (w.heap.size+1) (.int .i64 k) (.string (B nm)) (.int .i64 i) (.slice aa len cap) 29:=by rw[aF];exact(au.av (by simp)).kept ((af.refl ae _).alloc _)
  have dK:au w1 (w.heap.size+1+1) (.int .i64 0) (.string (B [])) (.int .i64 0) (.slice none 0 0) 29:=by rw[aF];exact au.av (by simp)
  have di:=(aw.aG _ _ h).on aH;have kA:=(ai.aG _ _ _ _ hL).on aH;have WF:=cG t iH w1 _ (aw.weaken (fun _ _ x=>x.elim) _ _ di);have MT:=fun(W:World)(hu:af ae w1 W)=>sJ t iH W _ (aw.weaken (fun _ _ x=>x.elim) _ _ (di.on hu))
  have mR:(Tm.ay t).length<=1000000:=Nat.le_trans (eL t) iH;obtain⟨H,hH⟩:∃ H,H=w.heap.size:=⟨_,rfl⟩;have HH:=ak hH;rw[<-hH]at rI gy dK di kA;have j9:∀ b,O b->b<H:=by rw[hH];exact hO
  obtain⟨E,hE⟩:∃ E,E=ep l t:=⟨_,rfl⟩;obtain⟨X,hX⟩:∃ X,X=bP l t:=⟨_,rfl⟩;rw[<-hE,<-hX];unfold bP at hX;rw[<-hE]at hX;unfold ep at hE;obtain⟨ll,du⟩:∃ ll,ll=l.length:=⟨_,rfl⟩;rw[<-du]at hE rI aF;rw[<-du];have HW:=ak aF;obtain⟨q,hq⟩:∃ q,q=t.wf:=⟨_,rfl⟩;rw[<-hq]at WF hE;have s9:∀ args w,Sem.run Tryz.prog (callFunc 53 args) w=.ok (Next.enter 53 args) w:=Tryz.call53;have CI:=fun(W:World)(hu:af ae w1 W)va vc LN=>mM 53 (.pointer (some ⟨H,0,none⟩)) (fun i=>decide ((ll:Int)<=i)) mR W (fun x _ W' Ks=>Ev H la ll lc x W' ((rI.kept (hu.and Ks)).cell)) s9 va vc LN
  obtain⟨ob,sP⟩:∃ ob,ob=(Tm.ay t).any (fun i=>decide ((ll:Int)<=i)):=⟨_,rfl⟩;rw[<-sP]at hE CI;have HP:=ak (And.intro hE (And.intro hX (And.intro du (And.intro hq sP))));have HO:=ak j9;have HKN:=ak FB;have mX:=dK.lt;obtain⟨ml,Vw⟩:∃ ml,ml=(Tm.ay t).length:=⟨_,rfl⟩;rw[<-Vw]at CI;have Ry:=ak Vw;clear aF hH hL h hO j9 hE hX du hq sP Vw ht s9 FB iH;obtain⟨t0,t1,t2,t3⟩:=gy.cells;go_enter Tryz.func12,Tryz.ntmps12;go_upto_region 1 with fail;rw[<-show B []={ data:=#[] }from rfl,<-HW.out,<-HH.out];go_wp2_with fail
  (with_reducible refine WF.mono ?_);rintro e w2 ⟨rfl,aL⟩;have dO:=dK.kept aL;clear t0 t1 t2 t3 WF;obtain⟨t0,t1,t2,t3⟩:=(gy.kept aL).cells
  have bad:∀(z:Int)(W W':World),z≠0->E=z->af ae w1 W->af (fun b=>b=H+1+1) W W'->qa O E X w (.returned (.tuple #[.agg #[.int .i64 0,.string (B []),.int .i64 0,.slice none 0 0],.int .i64 z])) W':=by
    intro z W W' hz GZ hu ah;refine⟨0,0,[],none,0,0,by rw[GZ],?_,(aH.and hu).trans ah (fun b hb e=>by have:=HH.out;omega)⟩;rw[HP.out.2.1,if_neg (by rw[GZ];exact hz)];exact bD 0 [] 0
  have HB:=ak bad;clear bad;by_cases B8:q=0
  case neg=>
    have hz:E=q:=by rw[HP.out.1,if_pos B8]
    have HZ:=ak (And.intro hz B8);have QH:(q !=0)=true:=by simpa using B8
    obtain⟨y0,y1,y2,y3⟩:=dO.cells;obtain⟨z0,z1,z2,z3⟩:=dO.aq;have qr:=dO.lt;have ah:=dO.set (d0:=.int .i64 0) (d1:=.string (B [])) (d2:=.int .i64 0) (d3:=.slice none 0 0);have dJ:=ak ah;clear ah hz B8;go_wp2_with fail;obtain⟨gK,ah⟩:=dJ.out;obtain⟨e0,e1,e2,e3⟩:=gK.cells;refine bodyPost_ret (v:=.tuple #[.agg #[.int .i64 0,.string (B []),.int .i64 0,.slice none 0 0],.int .i64 q]) ?_ rfl ?_
    ·simp[results,Tryz.f12,go_sem,e0,e1,e2,e3]
    exact HB.out q w2 _ HZ.out.2 HZ.out.1 aL ah
  subst B8;have MT2:=MT w2 aL;clear MT;go_wp2_with fail
  (with_reducible refine MT2.mono ?_);rintro e w3 ⟨v,rfl,hI,aZ⟩;obtain⟨va,vc,rfl,fp,LN⟩:=cO hI.rep;have iA:=aL.and aZ;have CI3:=CI w3 iA va vc (ai.weaken (fun _ _ x=>x.elim) _ _ _ _ LN);rw[<-Ry.out];clear hI t0 t1 t2 t3 MT2 fp CI;go_wp2_with fail
  (with_reducible refine CI3.mono ?_);rintro e w4 ⟨rfl,bw⟩;have gY:=iA.and bw;have iX:=dK.kept gY;obtain⟨t0,t1,t2,t3⟩:=(gy.kept gY).cells;have k1:=(rI.kept gY).cell;clear CI3 dO;cases ob
  case true=>
    have HZ:=ak (show E=3 by rw[HP.out.1,if_neg (by simp),if_pos rfl]);obtain⟨y0,y1,y2,y3⟩:=iX.cells;obtain⟨z0,z1,z2,z3⟩:=iX.aq;have qr:=iX.lt;have ah:=iX.set (d0:=.int .i64 0) (d1:=.string (B [])) (d2:=.int .i64 0) (d3:=.slice none 0 0);have dJ:=ak ah;clear ah;go_wp2_with fail;obtain⟨gK,ah⟩:=dJ.out;obtain⟨e0,e1,e2,e3⟩:=gK.cells;refine bodyPost_ret (v:=.tuple #[.agg #[.int .i64 0,.string (B []),.int .i64 0,.slice none 0 0],.int .i64 3]) ?_ rfl ?_
    ·simp[results,Tryz.f12,go_sem,e0,e1,e2,e3]
    exact HB.out 3 w4 _ (by decide) HZ.out gY ah
  case false=>
    have kJ:E=(gG l 16385 t 0).e:=by rw[HP.out.1,if_neg (by simp),if_neg (by simp)]
    have jm:t.wf=0:=HP.out.2.2.2.1.symm
    have jw:∀ i∈Tm.ay t,i<(l.length:Int):=by
      intro i hi;have h:=HP.out.2.2.2.2;by_cases hc:(ll:Int)<=i
      ·have:(Tm.ay t).any (fun i=>decide ((ll:Int)<=i))=true:=List.any_eq_true.2 ⟨i,hi,decide_eq_true hc⟩;rw[<-h]at this;cases this
      have:=HP.out.2.2.1;omega
    obtain⟨w5,gT⟩:∃ w5,w5=w4.alloc (.cells #[.slice la ll lc,.int .i64 0] 78):=⟨_,rfl⟩;have ba:af ae w4 w5:=by rw[gT];exact(af.refl ae _).alloc _
    have qY:bK w5 w4.heap.size (.slice la ll lc) (.int .i64 ((0:Nat):Int)) 78:=by rw[gT];exact bK.av rfl
    have jl:=gY.and ba;have aiI:=gY.size;have wk:∀ b,b<w1.heap.size->(O b\/b=H+1+1\/b=w4.heap.size)->(O b\/H<=b):=fun b _ e=>by rcases e with e |e |e;(exact .inl e);all_goals exact .inr (by omega)
    have EX:=LD l hG 16385 t 0 w4.heap.size (fun b=>O b\/b=H+1+1\/b=w4.heap.size) w5 la lc [.int .i64 k,.string (B nm),.int .i64 i,.slice aa len cap] (by omega) (by omega) jm (HKN.out jm jw) (.inr (.inr rfl))
      (fun b e=>by have h0:=HO.out b;have h1:=qY.lt;rcases e with e |e |e;(have:=h0 e;omega);all_goals omega) (by rw[<-HP.out.2.2.1];exact qY) ((ai.weaken wk _ _ _ _ kA).on jl) ((aw.weaken wk _ _ di).on jl)
    rw[<-HP.out.2.2.1]at EX;obtain⟨R,hR⟩:∃ R,R=gG l 16385 t 0:=⟨_,rfl⟩;rw[<-hR]at EX kJ;have ZL:X=if E=0 then R.t else Tm.aO:=by rw[HP.out.2.1,hR]
    have Gp:R.e≠0->R.t=Tm.aO:=fun h=>by rw[hR]at h ⊢;exact rE l _ _ _ h
    have HF:=ak (And.intro kJ (And.intro ZL Gp));obtain⟨Q,hQ⟩:∃ Q,Q=w4.heap.size:=⟨_,rfl⟩;rw[<-hQ]at EX;have HQ:=ak hQ;have GK:=ak gT;have dR:=iX.kept ba;have Gh:=iX.lt;have aqE:H+1<w4.heap.size:=by omega
    clear kJ jm jw gT qY hR ZL Gp hQ wk;go_wp2_with fail;rw[<-GK.out,<-HQ.out]
    (with_reducible refine EX.mono ?_);rintro e w6 ⟨k6,i6,n6,a6,l6,c6,rfl,dg,tL,bj⟩;have fD:=dR.ag bj (by have:=HQ.out;omega);obtain⟨y0,y1,y2,y3⟩:=fD.cells;obtain⟨z0,z1,z2,z3⟩:=fD.aq;have qr:=fD.lt;have ah:=fD.set (d0:=.int .i64 k6) (d1:=.string (B n6)) (d2:=.int .i64 i6) (d3:=.slice a6 l6 c6);have dJ:=ak ah;have HX:=ak (And.intro dg (And.intro tL bj));clear ah dg tL bj t0 t1 t2 t3 k1;go_wp2_with fail;obtain⟨gK,ah⟩:=dJ.out;obtain⟨e0,e1,e2,e3⟩:=gK.cells;refine bodyPost_ret (v:=.tuple #[.agg #[.int .i64 k6,.string (B n6),.int .i64 i6,.slice a6 l6 c6],.int .i64 R.e]) ?_ rfl ?_
    ·simp[results,Tryz.f12,go_sem,e0,e1,e2,e3]
    have hXt:X=R.t:=by
      rw[HF.out.2.1,HF.out.1];by_cases h:R.e=0
      ·rw[if_pos h]
      rw[if_neg h,HF.out.2.2 h]
    rw[hXt,HF.out.1];exact⟨k6,i6,n6,a6,l6,c6,rfl,aw.weaken (fun b _ e=>.inl e) _ _ (aw.ag ah (fun b e=>.inr (.inl e)) _ _ HX.out.1),((aH.and jl).trans HX.out.2.2 (fun b hb e=>by have:=HQ.out;have:=HH.out;have:=aH.size;omega)).trans ah (fun b hb e=>by have:=HH.out;omega)⟩
end
end Go.Proofs.YthgmimncdjhgnaaGreatDoor
namespace Go.LF
open Tm
def iU(l:List Mv):List Tm->Int
  | []=>0
  |t :: ts=>if ep l t≠0 then ep l t else iU l ts
def iy(l:List Mv)(ts:List Tm):List Tm:=if iU l ts=0 then ts.map (bP l)else []
theorem rX(l:List Mv):∀(ts:List Tm)(j:Nat)(h:j<ts.length),iU l (ts.take j)=0->ep l ts[j]≠0->iU l ts=ep l ts[j]
  |t :: ts,0,_,_,h2=>by rw[List.getElem_cons_zero]at h2 ⊢;rw[iU,if_pos h2]
  |t :: ts,j+1,h,h1,h2=>by
   rw[List.getElem_cons_succ]at h2 ⊢;rw[List.take_succ_cons,iU]at h1;by_cases h0:ep l t≠0
   ·rw[if_pos h0]at h1;exact absurd h1 h0
   rw[if_neg h0]at h1;rw[iU,if_neg h0];exact rX l ts j (by simpa using h) h1 h2
theorem sq(l:List Mv):∀(ts:List Tm)(j:Nat)(h:j<ts.length),iU l (ts.take j)=0->ep l ts[j]=0->iU l (ts.take (j+1))=0
  |t :: ts,0,_,_,h2=>by rw[List.getElem_cons_zero]at h2;rw[List.take_succ_cons,iU,if_neg (by simp[h2])];simp[iU]
  |t :: ts,j+1,h,h1,h2=>by
   rw[List.getElem_cons_succ]at h2;rw[List.take_succ_cons,iU]at h1 ⊢;by_cases h0:ep l t≠0
   ·rw[if_pos h0]at h1;exact absurd h1 h0
   rw[if_neg h0]at h1 ⊢;exact sq l ts j (by simpa using h) h1 h2
end Go.LF
namespace Go.Proofs.YthgmimncdjhgnaaGreatDoor
open Go.RowKit Go.LF
def G1(O:Nat->Prop)(E:Int)(us:List Tm)(w:World)(e:Ending)(w':World):Prop:=
  ∃(a:Option Addr)(cap:Nat),e=.returned (.tuple #[.slice a us.length cap,.int .i64 E])/\us.length<=cap/\ai O w' 4 (us.map Tm.az) a 0/\af ae w w'/\∃ css,cS 29 4 O w.heap.size w' (.slice a us.length cap) (us.map Tm.az) css
theorem Cl(O:Nat->Prop)(l:List Mv)(hG:GW l)(ts:List Tm)(eB:∀ t∈ts,t.wt<=1000000/\(t.wf=0->(∀ i∈Tm.ay t,i<l.length)->Kn l.length t))(hlen:ts.length<=1000)(w:World)(hO:∀ b,O b->b<w.heap.size)(la:Option Addr)(lc:Nat)(ta:Option Addr)(tc:Nat)(hL:ai O w 6 (l.map Mv.az) la 0)(hT:ai O w 4 (ts.map Tm.az) ta 0):
    Calls Tryz.prog 58 #[.slice la l.length lc,.slice ta ts.length tc] w (G1 O (iU l ts) (iy l ts) w):=by
  obtain⟨i0,hi,fS,gn,eH⟩:=info_parts de;obtain⟨H,hH⟩:∃ H,H=w.heap.size:=⟨_,rfl⟩;have kA:=ai.aG _ _ _ _ hL;have ic:=ai.aG _ _ _ _ hT;rw[<-hH]at kA ic;have j9:∀ b,O b->b<H:=by rw[hH];exact hO
  have HH:=ak hH;obtain⟨ll,du⟩:∃ ll,ll=l.length:=⟨_,rfl⟩;obtain⟨tl,jh⟩:∃ tl,tl=ts.length:=⟨_,rfl⟩;rw[<-du,<-jh];rw[<-jh]at hlen;have HL:=ak (And.intro du jh);have EH:=ak eB;have HO:=ak j9;clear du jh hH hO hL hT eB j9;go_enter Tryz.func58,Tryz.ntmps58;go_wp2_with fail
  go_loopw [6,13] (fun v6 PV wr=>∃(j:Nat)(css:List (List Value)),PV=.int .i64 (j:Int)/\j<=tl/\iU l (ts.take j)=0/\cS 29 4 O H wr v6 (((ts.take j).map (bP l)).map Tm.az) css/\af ae w wr)
    (fun _ PV _=>tl - (intOf PV).toNat)
  case atStart=>exact⟨0,[],rfl,Nat.zero_le _,rfl,cS.nil _ _ _ _ _,af.refl _ _⟩
  obtain⟨j,css,rfl,hj,hA,hD,hU⟩:=hrel;have HA:=ak hA;obtain⟨vv,sO⟩:∃ v,v=u6:=⟨_,rfl⟩;rw[<-sO]at hD;rw[<-sO];have HV:=ak sO;have G5:=hU.size;rw[<-HH.out]at G5;have fE:(((ts.take j).map (bP l)).map Tm.az).length=j:=by have:=HL.out.2;simp;omega
  clear hA sO;by_cases aB:j<tl
  ·have b7:j<ts.length:=by have:=HL.out.2;omega
   obtain⟨eb,eo,ek,en,ex,es,ec,rfl,mz,_,p0,p1,p2,p3,eY⟩:=aY (ic.on hU) j b7;have ET:(j:Int)<(tl:Int):=by omega
   have BW:(j:Int)<=1000:=by omega
   obtain⟨w4,eh⟩:∃ w4,w4=wr.alloc (.cells #[.int .i64 ek,.string (B en),.int .i64 ex,.slice es (ts[j]'b7).args.length ec] 29):=⟨_,rfl⟩;have bw:af ae wr w4:=by rw[eh];exact(af.refl ae wr).alloc _
   have EE:au w4 wr.heap.size (.int .i64 ek) (.string (B en)) (.int .i64 ex) (.slice es (ts[j]'b7).args.length ec) 29:=by rw[eh];exact au.av rfl
   have Mb:=hD.on bw HO.out;have vW:=Mb.2.2.1;have wk:∀ b,b<wr.heap.size->(O b\/vv.ownBlock=some b)->(O b\/H<=b):=fun b _ e=>e.elim .inl (fun e=>.inr (vW.lt b e).1)
   have EX:=wQ (fun b=>O b\/vv.ownBlock=some b) l hG (ts[j]'b7) (EH.out _ (List.getElem_mem b7)).1 (EH.out _ (List.getElem_mem b7)).2 w4
     (fun b e=>by have h0:=HO.out b;have h1:=bw.size;rcases e with e |e;(have:=h0 e;omega);exact(vW.lt b e).2) la lc _ ((ai.weaken wk _ _ _ _ (kA.on hU)).on bw) ((aw.weaken wk _ _ eY).on bw)
   rw[<-HL.out.1]at EX;have mQ:=rX l ts j b7 HA.out;have sY:=sq l ts j b7 HA.out;have eQ:((ts.take (j+1)).map (bP l)).map Tm.az=((ts.take j).map (bP l)).map Tm.az++[(bP l (ts[j]'b7)).az]:=by rw[List.take_succ_eq_append_getElem b7,List.map_append,List.map_append];rfl
   generalize ep l (ts[j]'b7)=E at *
   generalize bP l (ts[j]'b7)=X at *
   generalize (ts[j]'b7).args.length=el at *
   have Lk:=ak eh;have jZ:=ak (And.intro mQ (And.intro sY eQ));have HW:=ak wk;obtain⟨P,hP⟩:∃ P,P=wr.heap.size:=⟨_,rfl⟩;rw[<-hP]at EE;have HP:=ak hP;clear eh mQ sY eQ eY mz wk hP;go_upto_region 5 with fail;rw[<-HP.out,<-Lk.out];clear p0 p1 p2 p3;obtain⟨p0,p1,p2,p3⟩:=EE.cells;go_wp2_with fail
   (with_reducible refine EX.mono ?_);rintro e w5 ⟨k5,i5,n5,a5,l5,c5,rfl,gN,ba⟩;by_cases hE:E=0
   case neg=>
     have RI:=jZ.out.1 hE;have Au:(E !=0)=true:=by simpa using hE
     have HE:=ak (And.intro RI hE);clear RI hE;go_wp2_with fail;refine bodyPost_ret (v:=.tuple #[.slice none 0 0,.int .i64 E]) (by simp[results,Tryz.f58,go_sem]) rfl ?_;refine⟨none,0,?_,?_,?_,?_,?_⟩
     ·rw[HE.out.1];unfold iy;rw[HE.out.1,if_neg HE.out.2];rfl
     ·unfold iy;rw[HE.out.1,if_neg HE.out.2];exact Nat.zero_le _
     ·unfold iy;rw[HE.out.1,if_neg HE.out.2];exact bT _ _ _ (fun i hi=>by simp at hi)
     ·exact((hU.and bw).and ba).alloc _
     unfold iy;rw[HE.out.1,if_neg HE.out.2];exact⟨[],cS.nil _ _ _ _ _⟩
   subst hE;have hn:=jZ.out.2.1 rfl;have eQ:=jZ.out.2.2;have HN:=ak (And.intro hn eQ);obtain⟨w6,iF⟩:∃ w6,w6=w5.alloc (.cells #[.int .i64 k5,.string (B n5),.int .i64 i5,.slice a5 l5 c5] 29):=⟨_,rfl⟩;have bj:af ae w5 w6:=by rw[iF];exact(af.refl ae w5).alloc _
   have zD:au w6 w5.heap.size (.int .i64 k5) (.string (B n5)) (.int .i64 i5) (.slice a5 l5 c5) 29:=by rw[iF];exact au.av rfl
   have BX:=(Mb.on ba HO.out).on bj HO.out;have dg:=gN.on bj;have fj:=(af.refl ae w6).alloc (.cells #[.int .i64 k5,.string (B n5),.int .i64 i5,.slice a5 l5 c5] 29);have rM:=BX.on fj HO.out;have qH:=rM.2.2.1;rw[fE]at qH;have jC:=((hU.and bw).and ba).and bj;have DN:H<=w6.heap.size:=by have:=jC.size;have:=HH.out;omega
   have Ju:=ak iF;obtain⟨Q,hQ⟩:∃ Q,Q=w5.heap.size:=⟨_,rfl⟩;rw[<-hQ]at zD;have HQ:=ak hQ;clear hn eQ iF hQ p0 p1 p2 p3 Mb vW gN;obtain⟨p0,p1,p2,p3⟩:=zD.cells;have hQl:=zD.lt;go_upto_region 6 with fail;rw[<-HQ.out,<-Ju.out];go_upto_region 8 with fail;go_wp2_with (at_builtin;go_loud (refine wpList_append_lies _ (by rfl) _ _ 26 (by rfl) H 29 i0 (.agg #[.int .i64 0,.string (B []),.int .i64 0,.slice none 0 0]) 4 56 (by kernel_rfl) hi fS gn eH rfl (by decide) vv j css.flatten (by rfl) qH ⟨w6.heap.size,0,none⟩ 1 1 [.int .i64 k5,.string (B n5),.int .i64 i5,.slice a5 l5 c5] (by rfl) rfl (World.news_of_block (heap_alloc_new w6 _)) (by simp[Value.oneCell']) (by omega) (by simp only[maxLen];omega) (by omega) (by simp;omega) _ rfl ?_);intro g aS w7 bq aN ft _hg7)
   have gE:w7.ownsRow H 29 4 (.slice (some ⟨g,0,none⟩) ((((ts.take j).map (bP l)).map Tm.az).length+1) aS) ((((ts.take j).map (bP l)).map Tm.az).length+1) (css.flatten++[.int .i64 k5,.string (B n5),.int .i64 i5,.slice a5 l5 c5]):=by rw[fE];exact bq
   have Oa:=rM.appended (d:=X.az) rfl (dg.on fj) gE aN ft (Nat.le_refl _);rw[<-HN.out.2,fE]at Oa;have cm:=(jC.and fj).trans (rM.upto aN) (fun b hb e=>by have:=HH.out;omega);have HD7:=ak Oa;clear Oa;go_wp2_with fail;go_roundw;case rel=>exact⟨j+1,_,by go_num,by omega,HN.out.1,HD7.out,cm⟩
   simp[intOf];omega
  have b7:j=tl:=by omega
  subst b7;have eQ:ts.take j=ts:=List.take_of_length_le (by rw[<-HL.out.2];exact Nat.le_refl _);have hA:=HA.out;rw[eQ]at hA hD;rw[eQ]at fE;obtain⟨va,vc,hv,fp,hF⟩:=hD.rep HO.out;rw[fE]at hv fp;subst hv;have HF:=ak (And.intro hA (And.intro hF (And.intro fp fE)));have HDD:=ak hD;clear hA hF hD fp fE eQ kA ic;go_wp2_with fail;refine bodyPost_ret (v:=.tuple #[.slice va j vc,.int .i64 0]) (by simp[results,Tryz.f58,go_sem]) rfl ?_;obtain⟨hA,hF,fp,fE⟩:=HF.out;have e:iy l ts=ts.map (bP l):=by unfold iy;rw[if_pos hA]
  rw[List.length_map,List.length_map]at fE;refine⟨va,vc,?_,?_,?_,hU,?_⟩
  ·rw[e,hA,List.length_map,fE]
  ·rw[e,List.length_map,fE];exact fp
  ·rw[e];exact hF
  rw[e,List.length_map,fE,<-HH.out];exact⟨css,HDD.out⟩
end Go.Proofs.YthgmimncdjhgnaaGreatDoor
