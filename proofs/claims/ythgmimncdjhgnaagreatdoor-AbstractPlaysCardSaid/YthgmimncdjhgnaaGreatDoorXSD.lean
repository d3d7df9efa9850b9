/- Ge cX Apply. -/
import Derived.Test.YthgmimncdjhgnaaGreatDoorXSC
set_option maxRecDepth 100000
set_option maxHeartbeats 16000000
namespace Go.Proofs.YthgmimncdjhgnaaGreatDoor
open Go.RowKit Go.LF
theorem AK(O:Nat->Prop)(m:Tm)(s:Sm)(us:List Tm)(Pe:m.wt<=1000000)(xV:∀ u∈us,u.wt<=1000000)(CG:s.wt<=1000000)(cZ:us.length<=10000)(w:World)(hO:∀ b,O b->b<w.heap.size)(cs es:List Value)(ua:Option Addr)(uc:Nat)(EI:us.length<=uc)
    (hR:aw O w m.az cs) (hS:aw O w s.az es) (hE:ai O w 4 (us.map Tm.az) ua 0):
    Calls Tryz.prog 125 #[.agg cs.toArray,.agg es.toArray,.slice ua us.length uc] w (qa O (m6 m s us) (lp m s us) w):=by
  obtain⟨k,n,i,ts,a,cap,htt,rfl,_,_⟩:=aP hR;generalize ts.length=len at *
  obtain⟨f,ss,rfl⟩:∃ f ss,s=.mk f ss:=by cases s with |mk f l=>exact⟨f,l,rfl⟩
  obtain⟨sa,sc,rfl,fJ,Zn⟩:=ig.1 hS;obtain⟨w1,aF⟩:∃ w1,w1=((w.alloc (.cells #[.int .i64 k,.string (B n),.int .i64 i,.slice a len cap] 29)).alloc (.cells #[.string (B f),.slice sa ss.length sc] 115)).alloc (.cells #[.int .i64 0,.string (B []),.int .i64 0,.slice none 0 0] 29):=⟨_,rfl⟩;have aH:af ae w w1:=by rw[aF];exact(((af.refl ae w).alloc _).alloc _).alloc _
  have mN:au w1 w.heap.size (.int .i64 k) (.string (B n)) (.int .i64 i) (.slice a len cap) 29:=by rw[aF];exact((au.av rfl).kept ((af.refl ae _).alloc _)).kept ((af.refl ae _).alloc _)
  have jI:bK w1 (w.heap.size+1) (.string (B f)) (.slice sa ss.length sc) 115:=by rw[aF];exact(bK.av (by simp)).kept ((af.refl ae _).alloc _)
  have dK:au w1 (w.heap.size+1+1) (.int .i64 0) (.string (B [])) (.int .i64 0) (.slice none 0 0) 29:=by rw[aF];exact au.av (by simp)
  have di:=(aw.fR hR).on aH;have lW:=(aw.fR hS).on aH;have fU:=(ai.aG _ _ _ _ hE).on aH;have ic:=(ai.aG _ _ _ _ Zn).on aH;have HW:=ak aF;obtain⟨H,hH⟩:∃ H,H=w.heap.size:=⟨_,rfl⟩;have HH:=ak hH;rw[<-hH]at mN jI dK di lW fU ic;have FA:∀ b,O b->b<H:=by rw[hH];exact hO
  have HO:=ak FA;obtain⟨E,Kr⟩:∃ E,E=m6 m (.mk f ss) us:=⟨_,rfl⟩;obtain⟨X,Gw⟩:∃ X,X=lp m (.mk f ss) us:=⟨_,rfl⟩;rw[<-Kr,<-Gw];unfold lp at Gw;rw[<-Kr]at Gw;unfold m6 at Kr;have Kj:=ak (And.intro Kr Gw);have FO:=fun(W:World)(a9:Option Addr)(c9:Nat)h9=>vU (m :: us) (by simp;omega) (fun u hu=>(List.mem_cons.1 hu).elim (fun h=>h ▸ Pe) (xV u)) W a9 c9 h9
  have SI:=fun(W:World)h9=>Ep (.mk f ss) CG W [.string (B f),.slice sa ss.length sc] h9
  have OB:=fun(W:World)(a9:Option Addr)(c9:Nat)h9=>DY (m :: us) (by simp;omega) (fun u hu=>(List.mem_cons.1 hu).elim (fun h=>h ▸ Pe) (xV u)) W a9 c9 h9
  obtain⟨ul,kD⟩:∃ ul,ul=us.length:=⟨_,rfl⟩;obtain⟨sl,gH⟩:∃ sl,sl=ss.length:=⟨_,rfl⟩;rw[<-kD,<-gH];rw[<-kD]at cZ;rw[<-gH]at jI HW;have HL:=ak (And.intro kD (And.intro gH (And.intro fJ EI)));have HU:=ak aH;have YJ:(ul:Int)<=10000:=by omega
  have mX:H+3<=w1.heap.size:=by have:=dK.lt;omega
  have fl:=fun(W:World)(hu:af ae w1 W)=>gP.one (O:=fun b=>O b\/b=H\/b=H+1\/b=H+1+1) (aw.weaken (fun b _ e=>by rcases e with e |e;(exact .inl e);(right;omega)) _ _ (di.on hu))
  have cK:∀ W:World,af ae W (W.alloc (.cells #[.int .i64 k,.string (B n),.int .i64 i,.slice a len cap] 29)):=fun W=>(af.refl ae _).alloc _
  have dJ:=ak (And.intro fU ic);clear aF hH hR hS hE Zn Kr Gw kD gH aH hO FA Pe xV CG fJ EI fU ic;obtain⟨t0,t1,t2,t3⟩:=mN.cells;have Js:=mN.lt;have abX:=fl w1 (af.refl _ _);have Ps:=cK w1;go_enter Tryz.func125,Tryz.ntmps125;go_upto_region 1 with fail;rw[<-show B []={ data:=#[] }from rfl,<-HW.out,<-HH.out];go_wp2_with (at_builtin;go_loud (refine eI (by rfl) _ _ (by rfl) (by rfl) abX ua ul uc us (by rfl) HL.out.1 (ai.weaken (fun b _ e=>by rcases e with(e |e)|e;(exact .inl e);all_goals(right;omega)) _ _ _ _ (dJ.out.1.on Ps)) (by simp;have:=HL.out.1;omega) (by have:=Ps.size;omega) ?_);intro v3 w3 Vm Ii tZ FM;have nL:=ck tZ;have aZ:af ae w1 w3:=(Ps.trans nL (fun b hb e=>by simp[Value.ownBlock]at e;omega));obtain⟨va,vc,Ki,fp,BP⟩:=Ii.rep;subst Ki)
  refine(FO _ va vc (gq BP)).mono ?_;rintro e w2 ⟨rfl,E0⟩;have aL:=aZ.and E0;have dO:=dK.kept aL;have iD:=mN.kept aL;have Ie:=jI.kept aL;clear FO abX Ps nL Ii tZ FM BP t0 t1 t2 t3;obtain⟨q,hq⟩:∃ q:Int,q=bI Tm.wf (m :: us):=⟨_,rfl⟩;rw[<-hq];have HQ:=ak hq;clear hq;by_cases hq:q=0
  case neg=>
    have gL:E=q:=by rw[Kj.out.1,<-HQ.out,if_pos hq]
    have Ot:X=Tm.aO:=by rw[Kj.out.2,gL,if_neg hq]
    have H0:=ak (And.intro gL Ot);have QH:(q !=0)=true:=by simpa using hq
    clear gL Ot hq;have ah:=dO.set (d0:=.int .i64 0) (d1:=.string (B [])) (d2:=.int .i64 0) (d3:=.slice none 0 0);obtain⟨y0,y1,y2,y3⟩:=dO.cells;obtain⟨z0,z1,z2,z3⟩:=dO.aq;obtain⟨e0,e1,e2,e3⟩:=ah.1.cells;have dJ:=ak (And.intro e0 (And.intro e1 (And.intro e2 (And.intro e3 ah.2))));have Gh:=dO.lt;clear e0 e1 e2 e3 ah;go_wp2_with fail;obtain⟨e0,e1,e2,e3,ah⟩:=dJ.out;refine bodyPost_ret (v:=.tuple #[.agg #[.int .i64 0,.string (B []),.int .i64 0,.slice none 0 0],.int .i64 q]) ?_ rfl ?_
    ·simp[results,Tryz.f125,go_sem,e0,e1,e2,e3]
    exact⟨0,0,[],none,0,0,by rw[H0.out.1],by rw[H0.out.2];exact bD 0 [] 0,(HU.out.and aL).trans ah (fun b hb e=>by have:=HH.out;omega)⟩
  subst hq;have fU:=Kj.out.1;rw[<-HQ.out,if_neg (by simp)]at fU;have SI2:=SI w2 (dj (lW.on aL));obtain⟨q,hq⟩:∃ q:Int,q=Sm.wf (.mk f ss):=⟨_,rfl⟩;rw[<-hq]at SI2 fU;have HQ:=ak hq;have BL:=ak fU;obtain⟨s0,s1⟩:=Ie.cells;rw[<-HL.out.2.1]at SI2;clear hq SI fU;go_wp2_with fail;refine SI2.mono ?_;rintro e w3 ⟨rfl,aZ⟩;have bw:=aL.and aZ;have iL:=dO.kept aZ;have rH:=iD.kept aZ;have xL:=Ie.kept aZ;have fU:=BL.out;clear dO iD Ie BL s0 s1 SI2;by_cases hq:q=0
  case neg=>
    rw[if_pos hq]at fU;have H0:=ak (And.intro fU (show X=Tm.aO by rw[Kj.out.2,fU,if_neg hq]));have QH:(q !=0)=true:=by simpa using hq
    clear fU hq;have ah:=iL.set (d0:=.int .i64 0) (d1:=.string (B [])) (d2:=.int .i64 0) (d3:=.slice none 0 0);obtain⟨y0,y1,y2,y3⟩:=iL.cells;obtain⟨z0,z1,z2,z3⟩:=iL.aq;obtain⟨e0,e1,e2,e3⟩:=ah.1.cells;have dJ:=ak (And.intro e0 (And.intro e1 (And.intro e2 (And.intro e3 ah.2))));have Gh:=iL.lt;clear e0 e1 e2 e3 ah;go_wp2_with fail;obtain⟨e0,e1,e2,e3,ah⟩:=dJ.out;refine bodyPost_ret (v:=.tuple #[.agg #[.int .i64 0,.string (B []),.int .i64 0,.slice none 0 0],.int .i64 q]) ?_ rfl ?_
    ·simp[results,Tryz.f125,go_sem,e0,e1,e2,e3]
    exact⟨0,0,[],none,0,0,by rw[H0.out.1],by rw[H0.out.2];exact bD 0 [] 0,(HU.out.and bw).trans ah (fun b hb e=>by have:=HH.out;omega)⟩
  subst hq;rw[if_neg (by simp)]at fU;obtain⟨an,UG⟩:∃ an,an=(m :: us).any (fun u=>!(u.isObj && u.small)):=⟨_,rfl⟩;rw[<-UG]at OB fU;have HAN:=ak (And.intro UG HQ.out.symm);have BL:=ak fU;have ZJ:=fl w3 bw;have P9:=cK w3;obtain⟨t0,t1,t2,t3⟩:=rH.cells;have Uc:=rH.lt;have vY:=bw.size;have du:(m :: us).length=us.length+1:=rfl;rw[du]at OB;have XZ:=ak OB;clear UG fU HQ OB du;go_wp2_with (at_builtin;go_loud (refine eI (by rfl) _ _ (by rfl) (by rfl) ZJ ua ul uc us (by rfl) HL.out.1 (ai.weaken (fun b _ e=>by rcases e with(e |e)|e;(exact .inl e);all_goals(right;omega)) _ _ _ _ ((dJ.out.1.on bw).on P9)) (by simp;have:=HL.out.1;omega) (by have:=P9.size;omega) ?_);intro v5 w5 apS hS5 yM ae9;have nL:=ck yM;have ba:af ae w3 w5:=(P9.trans nL (fun b hb e=>by simp[Value.ownBlock]at e;omega));obtain⟨vb,vd,Q6,hvd,ES⟩:=hS5.rep;subst Q6)
  refine(XZ.out _ vb vd (gq ES)).mono ?_;rintro e w6 ⟨rfl,kr⟩;have bj:=(bw.and ba).and kr;have fD:=iL.kept (ba.and kr);have Pd:=rH.kept (ba.and kr);have sf:=xL.kept (ba.and kr);clear ZJ P9 nL hS5 yM ae9 ES t0 t1 t2 t3 iL rH xL XZ;have fU:=BL.out;clear BL;cases an
  case true=>
    rw[if_pos rfl]at fU ⊢;have H0:=ak (And.intro fU (show X=Tm.aO by rw[Kj.out.2,fU];rfl));clear fU;have ah:=fD.set (d0:=.int .i64 0) (d1:=.string (B [])) (d2:=.int .i64 0) (d3:=.slice none 0 0);obtain⟨y0,y1,y2,y3⟩:=fD.cells;obtain⟨z0,z1,z2,z3⟩:=fD.aq;obtain⟨e0,e1,e2,e3⟩:=ah.1.cells;have dJ:=ak (And.intro e0 (And.intro e1 (And.intro e2 (And.intro e3 ah.2))));have Gh:=fD.lt;clear e0 e1 e2 e3 ah;go_wp2_with fail;obtain⟨e0,e1,e2,e3,ah⟩:=dJ.out;refine bodyPost_ret (v:=.tuple #[.agg #[.int .i64 0,.string (B []),.int .i64 0,.slice none 0 0],.int .i64 32]) ?_ rfl ?_
    ·simp[results,Tryz.f125,go_sem,e0,e1,e2,e3]
    exact⟨0,0,[],none,0,0,by rw[H0.out.1],by rw[H0.out.2];exact bD 0 [] 0,(HU.out.and bj).trans ah (fun b hb e=>by have:=HH.out;omega)⟩
  rw[if_neg (by simp)]at fU ⊢
  have pK:∀ u∈m :: us,u.isObj=true/\u.small=true:=by
    intro u hu;have h1:=HAN.out.1.symm;rw[List.any_eq_false]at h1;simpa using h1 u hu
  have ee:(Sm.mk f ss).size<=4096:=by
    have h1:=HAN.out.2;unfold Sm.wf at h1;split at h1
    ·cases h1
    split at h1
    ·cases h1
    rename_i h2;simp at h2;simp only[Sm.aM];omega
  have rY:X=if E=0 then(Tm.ap (Tm.oI 262145) m ss us 0).t else Tm.aO:=Kj.out.2
  have kJ:E=(Tm.ap (Tm.oI 262145) m ss us 0).e:=fU
  have SG:(Tm.ap (Tm.oI 262145) m ss us 0).e≠0->(Tm.ap (Tm.oI 262145) m ss us 0).t=Tm.aO:=by
    intro h;unfold Tm.ap at h ⊢;split
    ·rename_i hl;rw[if_pos hl]at h;exact Tm.xC _ (fun u s b w h=>Tm.Bw _ _ _ _ _ _ h) _ _ _ _ h
    rfl
  have pA:ss.length<=10000:=by have:=Sm.aA ss;simp only[Sm.aM]at ee;omega
  have AQ:=fun(W:World)(x:Nat)(hu:af ae w1 W)(hx:w1.heap.size<=x)(hB:bK W x (.int .i64 0) (.int .i64 0) 181)=>
    nu 262145 (Gs 262145) m ss us f 0 x (fun b=>O b\/b=H\/b=H+1\/b=H+1+1\/b=x) W k i n a len cap sa sc ua uc (by omega) (by omega) (pK m (by simp)).1 (pK m (by simp)).2 (by rw[<-HL.out.1];exact cZ) pA HL.out.2.2.2 HL.out.2.2.1 (fun u hu=>pK u (by simp[hu])) (fun s hs=>by have:=Sm.aK hs;simp only[Sm.aM]at ee;omega) (.inr (.inr (.inr (.inr rfl))))
      (fun b e=>by have h1:=hB.lt;have h2:=hu.size;rcases e with e |e |e |e |e;(have:=HO.out b e;omega);all_goals omega) hB (aw.weaken (fun b hb e=>by have:=hu.size;rcases e with e |e;(exact .inl (.inl e));omega) _ _ ((aw.aG _ _ di).on hu))
      (ai.weaken (fun b hb e=>by have:=hu.size;rcases e with e |e;(exact .inl (.inl e));omega) _ _ _ _ ((ai.aG _ _ _ _ dJ.out.2).on hu)) (ai.weaken (fun b hb e=>by have:=hu.size;rcases e with e |e;(exact .inl (.inl e));omega) _ _ _ _ ((ai.aG _ _ _ _ dJ.out.1).on hu))
  rw[<-HL.out.1,<-HL.out.2.1]at AQ;have J5:=ak (And.intro kJ (And.intro rY SG));generalize Tm.ap (Tm.oI 262145) m ss us 0=r at *
  clear pK ee SG fU kJ rY pA;obtain⟨w7,rJ⟩:∃ w7,w7=w6.alloc (.cells #[.int .i64 0,.int .i64 0] 181):=⟨_,rfl⟩;have dM:af ae w6 w7:=by rw[rJ];exact(af.refl ae _).alloc _
  have hx7:bK w7 w6.heap.size (.int .i64 0) (.int .i64 0) 181:=by rw[rJ];exact bK.av rfl
  have DN:=bj.size;obtain⟨x,hx⟩:∃ x,x=w6.heap.size:=⟨_,rfl⟩;rw[<-hx]at hx7 DN;have HX6:=ak hx;have KI:=ak rJ;have j4:=fD.kept dM;have ht7:=Pd.kept dM;have hs7:=sf.kept dM;have cm:=bj.and dM;clear rJ hx fD Pd sf;have AQ7:=AQ w7 x cm DN hx7;clear AQ;obtain⟨t0,t1,t2,t3⟩:=ht7.cells;obtain⟨s0,s1⟩:=hs7.cells;go_upto_region 11 with fail;rw[<-KI.out,<-HX6.out];go_wp2_with fail
  (with_reducible refine AQ7.mono ?_);rintro e w8 ⟨⟨⟨k9,n9,i9,a9,lI,dQ,rfl,og⟩,Ea⟩,cW⟩;have oF:=j4.ag cW (by omega);have p8:aw (fun b=>O b\/b=H+1+1) w8 r.t.az [.int .i64 k9,.string (B n9),.int .i64 i9,.slice a9 lI dQ]:=aw.weaken (fun b _ e=>e.elim .inl (fun e=>.inr (.inr (.inr (.inl e))))) _ _ og;have Xw:af ae w w8:=(HU.out.and cm).trans cW (fun b hb e=>by have:=HH.out;omega);obtain⟨w9,bf⟩:∃ w9,w9=w8.alloc (.cells #[.int .i64 k9,.string (B n9),.int .i64 i9,.slice a9 lI dQ] 29):=⟨_,rfl⟩;have zu:af ae w8 w9:=by rw[bf];exact(af.refl ae _).alloc _
  have hy9:au w9 w8.heap.size (.int .i64 k9) (.string (B n9)) (.int .i64 i9) (.slice a9 lI dQ) 29:=by rw[bf];exact au.av rfl
  obtain⟨Y,hY⟩:∃ Y,Y=w8.heap.size:=⟨_,rfl⟩;rw[<-hY]at hy9;have HY:=ak hY;have Zx:=ak bf;have gM:=oF.kept zu;have sr:=Ea.kept zu;have oK:=p8.on zu;have hUy:=Xw.and zu;have hlY:H+1+1<Y:=by have:=oF.lt;omega
  clear bf hY j4 oF Ea og p8 Xw t0 t1 t2 t3 s0 s1;go_upto_region 12 with fail;rw[<-Zx.out,<-HY.out];obtain⟨t0,t1,t2,t3⟩:=hy9.cells;obtain⟨x0,x1⟩:=sr.cells;obtain⟨y0,y1,y2,y3⟩:=gM.cells;have Gh:=gM.lt;have hd9:af ae w9 w9.drew:=(af.refl ae _).drew;have S9:Om Y x (.int .i64 k9) (.string (B n9)) (.int .i64 i9) (.slice a9 lI dQ) (.int .i64 r.e) w9:=⟨hy9.cells,x1⟩;have Sd:=S9.ag hd9 (fun x=>x) (fun x=>x);have B9:=gM.kept hd9;have nY:¬Y=H+1+1:=by omega
  have nx:¬x=H+1+1:=by omega
  have ah:=gM.set (d0:=.int .i64 k9) (d1:=.string (B n9)) (d2:=.int .i64 i9) (d3:=.slice a9 lI dQ);obtain⟨e0,e1,e2,e3⟩:=(ah.1.kept (af.refl ae _).drew).cells;have YE:=ak (And.intro e0 (And.intro e1 (And.intro e2 (And.intro e3 ah.2.drew))));obtain⟨z0,z1,z2,z3⟩:=gM.aq;clear e0 e1 e2 e3 ah
  go_region_held3 (fun w'=>Om Y x (.int .i64 k9) (.string (B n9)) (.int .i64 i9) (.slice a9 lI dQ) (.int .i64 r.e) w')
    (first |(with_reducible assumption)|(with_reducible exact Sd)|(with_reducible exact Om.ag (Om.kT S9 nY nx _ _ _ _) (af.refl ae _).drew (fun x=>x) (fun x=>x)))
    (first |fail)
  all_goals
    go_wp2_with fail;obtain⟨e0,e1,e2,e3,ah⟩:=YE.out;refine bodyPost_ret (v:=.tuple #[.agg #[.int .i64 k9,.string (B n9),.int .i64 i9,.slice a9 lI dQ],.int .i64 r.e]) ?_ rfl ?_
    ·simp[results,Tryz.f125,go_sem,e0,e1,e2,e3]
    refine⟨k9,i9,n9,a9,lI,dQ,by rw[J5.out.1],?_,hUy.trans ah (fun b hb e=>by have:=HH.out;omega)⟩
    have KT:X=r.t:=by
      by_cases h0:r.e=0
      ·rw[J5.out.2.1,if_pos (by rw[J5.out.1];exact h0)]
      rw[J5.out.2.1,if_neg (by rw[J5.out.1];exact h0),J5.out.2.2 h0]
    rw[KT];exact aw.weaken (fun b _ e=>.inl e) _ _ (aw.ag ah (fun b e=>.inr e) _ _ oK)
end Go.Proofs.YthgmimncdjhgnaaGreatDoor
