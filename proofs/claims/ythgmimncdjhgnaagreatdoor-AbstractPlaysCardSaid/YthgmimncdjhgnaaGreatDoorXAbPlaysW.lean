/- yi: its walk. -/
import Derived.Test.YthgmimncdjhgnaaGreatDoorXAbsC
import Derived.Test.YthgmimncdjhgnaaGreatDoorXFY
import Derived.Test.YthgmimncdjhgnaaGreatDoorXRefAb
import Derived.Test.YthgmimncdjhgnaaGreatDoorXFX
import Derived.Test.YthgmimncdjhgnaaGreatDoorXPC
set_option maxRecDepth 100000
set_option maxHeartbeats 16000000
namespace Go.Proofs.YthgmimncdjhgnaaGreatDoor
open Go.RowKit Go.LF
theorem RJ(c:Int)(n:Int)(hn:0<n)(h0:0<=c)(h1:c<=n):∃ v:Nat,v<=1/\c.tdiv n=(v:Int):=by
  rw[Int.tdiv_eq_ediv_of_nonneg h0];have h2:0<=c / n:=Int.ediv_nonneg h0 (by omega)
  have h3:c / n<=1:=by
    have:=Int.ediv_le_ediv hn h1;rwa [Int.ediv_self (by omega)]at this
  exact⟨(c / n).toNat,by omega,by omega⟩
abbrev sQ(W:World)(T N:Nat)(k0:Value)(w':World):Prop:=
  w'.cell? ⟨N,0,none⟩=some k0/\bL w' T/\aW T w'/\N<W.heap.size/\T<W.heap.size/\N≠T/\af (cv T) W w'
section
variable {W w' w1:World}{T N:Nat}{k0:Value}
theorem sQ.up(h:sQ W T N k0 w'):af (cv T) W w':=h.2.2.2.2.2.2
theorem sQ.on(h:sQ W T N k0 w')(hU:af ae w' w1):sQ W T N k0 w1:=
  ⟨hU.cell h.1 (fun x=>x),h.2.1.on hU,h.2.2.1.on hU,h.2.2.2.1,h.2.2.2.2.1,h.2.2.2.2.2.1,h.up.trans hU (fun _ _ x=>x.elim)⟩
theorem sQ.new(h:sQ W T N k0 w')(o:Obj):sQ W T N k0 (w'.alloc o):=h.on ((af.refl ae _).alloc o)
theorem sQ.drew(h:sQ W T N k0 w'):sQ W T N k0 w'.drew:=h.on (af.refl ae _).drew
theorem sQ.kT(h:sQ W T N k0 w'){r:Nat}(hr:W.heap.size<=r)(d0 d1 d2 d3:Value):sQ W T N k0 ((((w'.setCell ⟨r,0,none⟩ d0).setCell ⟨r,1,none⟩ d1).setCell ⟨r,2,none⟩ d2).setCell ⟨r,3,none⟩ d3):=by
  obtain⟨h1,h2,h3,h4,h5,h6,h7⟩:=h;have hs:af (fun b=>b=r) w' ((((w'.setCell ⟨r,0,none⟩ d0).setCell ⟨r,1,none⟩ d1).setCell ⟨r,2,none⟩ d2).setCell ⟨r,3,none⟩ d3):=af.set (af.set (af.set (af.set (af.refl _ _) 0 _) 1 _) 2 _) 3 _;have e:¬N=r:=by omega
  exact⟨hs.cell h1 e,h2.kW hs (fun b e=>by omega),h3.kW hs (fun b e=>by omega),h4,h5,h6,h7.trans hs (fun b hb e=>by omega)⟩
theorem sQ.call(h:sQ W T N k0 w')(d:Nat)(hd:d+1<=12)(v m:Nat)(hv:v+(d+1)<=1000)(hm:m<=1000){Q:Ending->World->Prop}(k:∀ e w1,Ao w'.heap.size (2 ^ (d+2)+2) v m T w' e w1->sQ W T N k0 w1->Q e w1):
    Calls Tryz.prog 24 #[.pointer (some ⟨T,0,none⟩),.int .i64 ((d+1:Nat):Int),.int .i64 v,.int .i64 m] w' Q:=by
  refine(DK d hd v m hv hm T w' h.2.1 h.2.2.1).mono fun e w1 hq=>k e w1 hq ?_
  obtain⟨k9,i9,nm9,a9,l9,c9,t9,-,-,-,hT,hN,hU⟩:=hq;exact⟨hU.cell h.1 h.2.2.2.2.2.1,hT,hN,h.2.2.2.1,h.2.2.2.2.1,h.2.2.2.2.2.1,h.up.trans hU (fun _ _ e=>e)⟩
end
abbrev DE:Obj:=.cells #[.int .i64 0,.string (B []),.int .i64 0,.slice none 0 0] 29
theorem ae6{Y wa:World}{T:Nat}{p:Prop}(hU:af (cv T) (Y.alloc DE).drew wa)(hT:T<Y.heap.size)(h:au wa Y.heap.size (.int .i64 0) (.string (B [])) (.int .i64 0) (.slice none 0 0) 29->Y.heap.size<(Y.alloc DE).drew.heap.size->p):p:=
  h (((au.av rfl:au (Y.alloc DE) Y.heap.size _ _ _ _ 29).kept (af.refl ae _).drew).ag hU (by simp only[cv];omega)) (by simp only[World.size_alloc,World.size_drew];omega)
theorem au.UU{W:World}{g:Nat}{c0 c1 c2 c3:Value}{T:TypeId}(h:au W g c0 c1 c2 c3 T):(W.cell? ⟨g,0,none⟩=some c0/\W.cell? ⟨g,1,none⟩=some c1/\W.cell? ⟨g,2,none⟩=some c2/\W.cell? ⟨g,3,none⟩=some c3)/\(W.frozen? ⟨g,0,none⟩=false/\W.frozen? ⟨g,1,none⟩=false/\W.frozen? ⟨g,2,none⟩=false/\W.frozen? ⟨g,3,none⟩=false)/\g<W.heap.size:=⟨h.cells,h.aq,h.lt⟩
theorem NN{l:List Mv}(hP:lf l)(hS:eD l)(hl:l.length<=10){a:Tm}{ms:List Tm}:(jL l a ms).length<=ms.length:=by
  by_cases h:iP l a ms=0
  ·obtain⟨h1,h2,h3,h4,h5,h6⟩:=we h;have e:=(oJ hP hS hl h4 h2 h3 (fun t ht=>(h1 t ht).2)).2.1;unfold jL;rw[if_pos h,List.length_tail];omega
  rw[(Al h).2.1];exact Nat.zero_le _
theorem NA{w:World}{T b:Nat}(h1:w.heap.size<(w.alloc DE).drew.heap.size)(h2:T<w.heap.size)(e:b=w.heap.size\/b=T):b<(w.alloc DE).drew.heap.size:=by
  rcases e with rfl |rfl
  ·exact h1
  exact Nat.lt_trans h2 h1
theorem Jh{w w5:World}{T b:Nat}(h2:T<w.heap.size)(e:b=w5.heap.size\/b=T):b<w.drew.heap.size\/w5.heap.size<=b:=by
  rcases e with rfl |rfl
  ·exact .inr (Nat.le_refl _)
  exact .inl h2
theorem pI(l0:List Int)(a0:Option Addr)(FH xU:Nat)(OI:l0.length=FH)(LV:FH<=17592186044416)(m0:List Int)(b0:Option Addr)(bH bG:Nat)(rI:m0.length=bH)(L6:bH<=17592186044416)(k0 k1 k2:Int)(w:World)(gL:ai ae w 1 (l0.map (fB.int .i64)) a0 0)(fU:ai ae w 1 (m0.map (fB.int .i64)) b0 0)(hN:oE w):
    Calls Tryz.prog 4 #[.slice a0 FH xU,.slice b0 bH bG,.agg #[.int .i64 k0,.int .i64 k1,.int .i64 k2]] w fun e w'=>e=.returned (.bool true)/\af ae w w':=by
  obtain⟨wa,mP⟩:∃ wa,wa=w.alloc (.cells #[.int .i64 k0,.int .i64 k1,.int .i64 k2] 42):=⟨_,rfl⟩;have dM:af ae w wa:=by rw[mP];exact(af.refl ae w).alloc _
  have hka:pe wa w.heap.size #[.int .i64 k0,.int .i64 k1,.int .i64 k2] 42:=by rw[mP];exact pe.av rfl
  have PE:wa.heap.size=w.heap.size+1:=by rw[mP];simp
  obtain⟨w1,aF⟩:∃ w1,w1=wa.alloc (.cells #[.slice a0 FH xU,.int .i64 0] 45):=⟨_,rfl⟩;have aH:af ae w w1:=by rw[aF];exact dM.alloc _
  have ic:bL w1 wa.heap.size:=by
    rw[aF];exact Di (w:=wa) (cap:=xU) (U:=45) OI LV (gL.on dM)
  have J4:aW wa.heap.size w1:=hN.ok aH (by omega);have Gm:pe w1 w.heap.size #[.int .i64 k0,.int .i64 k1,.int .i64 k2] 42:=by rw[aF];exact hka.kept ((af.refl ae _).alloc _)
  rw[PE]at ic J4;have agj:w1.heap.size=w.heap.size+1+1:=by rw[aF];simp[PE]
  have ST:=D6 _ w1 ic J4;have abD:w1=(w.alloc (.cells #[.int .i64 k0,.int .i64 k1,.int .i64 k2] 42)).alloc (.cells #[.slice a0 FH xU,.int .i64 0] 45):=by rw[aF,mP]
  have kE:=ak abD;have yZ:=fun(W:World)(hU:af ae w W)=>Di (cap:=bG) (U:=45) rI L6 (fU.on hU)
  have KP:=fun(W:World)(hU:af ae w W)=>hN.ok (hU.alloc (.cells #[.slice b0 bH bG,.int .i64 0] 45)) hU.size
  obtain⟨N,hNN⟩:∃ P,P=w.heap.size:=⟨_,rfl⟩;have HN:=ak hNN;rw[<-hNN]at ic J4 Gm agj ST;clear mP aF abD hka dM PE ic J4 hNN;go_enter Tryz.func4,Tryz.ntmps4;go_upto_region 2 with fail;rw[<-kE.out,<-HN.out];go_wp2_with fail
  (with_reducible refine ST.mono ?_);rintro e w2 ⟨L,va,vc,rfl,hP,Dz,hL6,Ce,hL,_,_,aL⟩;have r9:af ae w w2:=aH.trans aL (fun b hb e=>by simp only[cv]at e;have:=HN.out;omega);have yJ:=Gm.ag aL (by simp only[cv];omega);obtain⟨w3,cQ⟩:∃ w3,w3=w2.alloc (.cells #[.slice b0 bH bG,.int .i64 0] 45):=⟨_,rfl⟩;have aZ:af ae w2 w3:=by rw[cQ];exact(af.refl ae w2).alloc _
  have lU:bL w3 w2.heap.size:=by rw[cQ];exact yZ w2 r9
  have hK3:aW w2.heap.size w3:=by rw[cQ];exact KP w2 r9
  have vY:w3.heap.size=w2.heap.size+1:=by rw[cQ];simp
  have mU:=yJ.kept aZ;have hNT:N<w2.heap.size:=yJ.lt;have xP:ai (fun b=>w2.heap.size<=b) w3 6 (L.map Mv.az) va 0:=(ai.weaken (fun b _ e=>.inr e) _ _ _ _ (ai.aG _ _ _ _ (ai.weaken (O':=ae) (fun _ _ e=>e.elim) _ _ _ _ hL))).on aZ;have Pu:=r9.and aZ;have Nu:=ak cQ;obtain⟨T,hTT⟩:∃ T,T=w2.heap.size:=⟨_,rfl⟩;rw[<-hTT]at lU hK3 vY xP hNT;have HT:=ak hTT;obtain⟨Ll,AE⟩:∃ k,k=L.length:=⟨_,rfl⟩;rw[<-AE]at hL6 Ce;rw[<-AE];have Ai:=ak AE;obtain⟨q0,q1,q2⟩:w3.cell? ⟨N,0,none⟩=some (.int .i64 k0)/\w3.cell? ⟨N,1,none⟩=some (.int .i64 k1)/\w3.cell? ⟨N,2,none⟩=some (.int .i64 k2):=⟨by simpa using mU.cell 0,by simpa using mU.cell 1,by simpa using mU.cell 2⟩;have Ul:=AA k0 9 (by omega);have aai:=AA k0 13 (by omega);have C8:=fun W=>uD k0 9 (by omega) (by omega) W
  have C12:=fun W=>uD k0 13 (by omega) (by omega) W
  obtain⟨v,Hd,hv⟩:=RJ (tA k0 9) 8 (by omega) Ul.1 (by omega);obtain⟨m,qp,hm⟩:=RJ (tA k0 13) 12 (by omega) aai.1 (by omega);have S3:sQ w3 T N (.int .i64 k0) w3:=⟨q0,lU,hK3,mU.lt,by omega,by omega,af.refl _ _⟩;have VF:T<w3.heap.size:=by omega
  have arp:N<w3.heap.size:=mU.lt;clear cQ hTT AE ST yZ KP hL aL aZ Gm yJ r9 aH gL fU OI rI vY;go_upto_region 4 with fail;rw[<-Nu.out,<-HT.out];have hwv:IntKind.i64.wrap (v:Int)=v:=Go.IntWalk.i64_in _ (by omega);have hwm:IntKind.i64.wrap (m:Int)=m:=Go.IntWalk.i64_in _ (by omega);have hwl:IntKind.i64.wrap ((Ll:Int)+(m:Int))=(Ll:Int)+(m:Int):=Go.IntWalk.i64_in _ (by omega)
  have PC:∀ W,sQ w3 T N (.int .i64 k0) W->∀ Q:Ending->World->Prop,(∀ e w1,Ao W.heap.size (2 ^ 4+2) v (Ll+m) T W e w1->sQ w3 T N (.int .i64 k0) w1->Q e w1)->Calls Tryz.prog 24 #[.pointer (some ⟨T,0,none⟩),.int .i64 3,.int .i64 (v:Int),.int .i64 ((Ll:Int)+(m:Int))] W Q:=
    fun W h Q k=>h.call 2 (by omega) v (Ll+m) (by omega) (by omega) k
  go_cut [10]from 29 to 41 (fun v10 wc=>∃(P:Nat)(k i:Int)(nm:List UInt8)(a:Option Addr)(len cap:Nat)(t:Tm),v10=.pointer (some ⟨P,0,none⟩)/\w3.heap.size<=P/\au wc P (.int .i64 k) (.string (B nm)) (.int .i64 i) (.slice a len cap) 29/\aw (fun b=>b=P\/b=T) wc t.az [.int .i64 k,.string (B nm),.int .i64 i,.slice a len cap]/\t.wt<=100/\
    bL wc T/\aW T wc/\af (cv T) w3 wc)
  case first=>
    generalize tA k0 9=c9 at *
    generalize tA k0 13=c13 at *
    go_region_held3 (fun w'=>sQ w3 T N (.int .i64 k0) w')
      (repeat' (first |(with_reducible assumption)|(with_reducible refine sQ.new ?_ _)|(with_reducible refine sQ.drew ?_)|(with_reducible refine sQ.kT ?_ (Nat.le_refl _) _ _ _ _)))
      (first
        |((go_at_call 25);(first |((with_reducible refine(C8 _).mono ?_);rintro e w7 ⟨rfl,rfl⟩)|((with_reducible refine(C12 _).mono ?_);rintro e w7 ⟨rfl,rfl⟩)))
        |((go_at_call 24);(with_reducible refine PC _ (by repeat' (first |(with_reducible assumption)|(with_reducible refine sQ.new ?_ _)|(with_reducible refine sQ.drew ?_))) _ ?_);rintro e w5 ⟨k5,i5,n5,a5,l5,c5,t5,rfl,gN,ES,qT,uG,ba⟩ S5;(first |(with_reducible refine ae6 ba VF ?_;intro za zl;obtain⟨⟨zc0,zc1,zc2,zc3⟩,⟨zc4,zc5,zc6,zc7⟩,zc8⟩:=za.UU)|skip)))
    all_goals
      go_wp2_with fail;go_meet
    all_goals first
      |(have ah:=za.set (d0:=.int .i64 k5) (d1:=.string (B n5)) (d2:=.int .i64 i5) (d3:=.slice a5 l5 c5)
        have hRq:aw (fun b=>b=w3.heap.size\/b=T) w5 t5.az [.int .i64 k5,.string (B n5),.int .i64 i5,.slice a5 l5 c5]:=aw.weaken (fun b _ e=>NA zl VF e) _ _ gN;have Kf:=aw.ag ah.2 (fun b e=>.inl e) _ _ hRq;have We:t5.wt<=100:=by have:=ES.wt;omega
        have Pt:=qT.kW ah.2 (fun b e=>by omega);have hK9:=uG.kW ah.2 (fun b e=>by omega);have bU:=S5.up.trans ah.2 (fun b hb e=>by omega);exact⟨_,k5,i5,n5,a5,l5,c5,t5,rfl,Nat.le_refl _,ah.1,Kf,We,Pt,hK9,bU⟩)
      |(have cK:=(af.refl ae w5).alloc (.cells #[.int .i64 k5,.string (B n5),.int .i64 i5,.slice a5 l5 c5] 29)
        have hRq:aw (fun b=>b=w5.heap.size\/b=T) w5 t5.az [.int .i64 k5,.string (B n5),.int .i64 i5,.slice a5 l5 c5]:=aw.weaken (fun b _ e=>Jh VF e) _ _ (aw.aG _ _ gN);have We:t5.wt<=100:=by have:=ES.wt;omega
        have bU:=S5.up.trans cK (fun _ _ e=>e.elim);exact⟨_,k5,i5,n5,a5,l5,c5,t5,rfl,S5.up.size,au.av rfl,hRq.on cK,We,qT.on cK,uG.on cK,bU⟩)
  obtain⟨P,k5,i5,n5,a5,l5,c5,t5,rfl,hPw,hP5,gN,aeD,qT,uG,ba⟩:=hcut;obtain⟨w5,rfl⟩:∃ q,q=wc:=⟨_,rfl⟩;have hPT:T<P:=by omega
  have hNP:N<P:=by omega
  have Y1:=ai.ag ba (fun b e=>(by simp only[cv]at e;omega:T<=b)) _ _ _ _ xP;have rV:=mU.ag ba (by simp only[cv];omega);have rT:af ae w w5:=Pu.trans ba (fun b hb e=>by simp only[cv]at e;have:=HN.out;omega);have C3:=fun W=>uD k0 3 (by omega) (by omega) W
  clear xP mU Pu ba lU hK3 S3 C8 C12 PC q0 q1 q2 hv hm Ul aai hwv hwm hwl;obtain⟨q0,q1,q2⟩:w5.cell? ⟨N,0,none⟩=some (.int .i64 k0)/\w5.cell? ⟨N,1,none⟩=some (.int .i64 k1)/\w5.cell? ⟨N,2,none⟩=some (.int .i64 k2):=⟨by simpa using rV.cell 0,by simpa using rV.cell 1,by simpa using rV.cell 2⟩;generalize tA k0 3=c3 at *
  obtain⟨cb,xH⟩:∃ z,z=decide (0<c3):=⟨_,rfl⟩;have Eh:=ak xH;clear xH;go_upto_region 5 with fail;go_cut [45]from 42 to 45 (fun v45 wx=>v45=.bool cb/\w5=wx)
  case first=>
    go_wp2_with (first |((go_at_call 25);(with_reducible refine(C3 _).mono ?_);rintro e w7 ⟨rfl,rfl⟩))
    go_meet
    exact⟨by rw[Eh.out],rfl⟩
  obtain⟨rfl,rfl⟩:=hcut;go_upto_if 45 with fail
  go_cut []from 46 to 49 (fun wc=>∃(k i:Int)(nm:List UInt8)(a:Option Addr)(len cap:Nat)(t:Tm),au wc P (.int .i64 k) (.string (B nm)) (.int .i64 i) (.slice a len cap) 29/\aw (fun b=>b=P\/b=T) wc t.az [.int .i64 k,.string (B nm),.int .i64 i,.slice a len cap]/\t.wt<=100/\
    bL wc T/\aW T wc/\af (fun b=>b=T\/b=P) w5 wc)
  case first=>
    cases cb
    ·go_wp2_with fail;go_meet
     exact⟨_,_,_,_,_,_,t5,hP5,gN,aeD,qT,uG,af.refl _ _⟩
    have TY:Calls Tryz.prog 26 #[.pointer (some ⟨T,0,none⟩),.int .i64 3,.int .i64 0,.int .i64 (Ll:Int)] w5 (xA w5.heap.size 3 0 Ll T w5):=qy 3 (by omega) 0 Ll (by omega) (by omega) T w5 qT uG;go_wp2_with fail
    (with_reducible refine TY.mono ?_);rintro e w6 ⟨k6,i6,n6,a6,l6,c6,t6,rfl,dg,wo,zg,hK6,bj⟩;have NO:=hP5.ag bj (by simp only[cv];omega);obtain⟨x0,x1,x2,x3⟩:=NO.cells;obtain⟨f0,f1,f2,f3⟩:=NO.aq;have hPl:=NO.lt;have aqg:=hP5.lt;have aoA:=qT.lt;have hRq:aw (fun b=>b=P\/b=T) w6 t6.az [.int .i64 k6,.string (B n6),.int .i64 i6,.slice a6 l6 c6]:=aw.weaken (fun b _ e=>by rcases e with e |e<;>omega) _ _ dg;clear TY;go_wp2_with fail;go_meet
    have ah:=NO.set (d0:=.int .i64 k6) (d1:=.string (B n6)) (d2:=.int .i64 i6) (d3:=.slice a6 l6 c6);exact⟨_,_,_,_,_,_,t6,ah.1,aw.ag ah.2 (fun b e=>.inl e) _ _ hRq,by have:=wo.wt;omega,zg.kW ah.2 (fun b e=>by omega),hK6.kW ah.2 (fun b e=>by omega),(bj.mono (fun _ _ e=>.inl e)).trans ah.2 (fun _ _ e=>.inr e)⟩
  obtain⟨k6,i6,n6,a6,l6,c6,t6,NO,dg,aoI,zg,hK6,bj⟩:=hcut;obtain⟨w6,rfl⟩:∃ q,q=wc:=⟨_,rfl⟩;have YI:=ai.ag bj (fun b e=>(by omega:T<=b)) _ _ _ _ Y1;have xO:=rV.ag bj (by omega);have jC:af ae w w6:=rT.trans bj (fun b hb e=>by have:=HN.out;omega);have NX:=gh 3 (by omega) (by omega) T w6 zg;clear Y1 rV rT bj hP5 gN qT uG C3 q0 q1 q2;go_upto_region 8 with fail;go_wp2_with fail
  (with_reducible refine NX.mono ?_);rintro e w7 ⟨⟨c,hc,rfl⟩,lL,cm⟩;have hK7:=hK6.ag cm;have hP7:=NO.ag cm (by simp only[cv];omega);have og:=aw.ag cm (fun b e=>.inr e) _ _ dg;have hL7:=ai.ag cm (fun b e=>(by simp only[cv]at e;omega:T<=b)) _ _ _ _ YI;have Xu:=xO.ag cm (by simp only[cv];omega);have yt:af ae w w7:=jC.trans cm (fun b hb e=>by simp only[cv]at e;have:=HN.out;omega);have TM:∀ W,bL W T->aW T W->Calls Tryz.prog 28 #[.pointer (some ⟨T,0,none⟩),.int .i64 3,.int .i64 0,.int .i64 (Ll:Int)] W (sT W.heap.size 3 0 Ll T W):=fun W h1 h2=>nR 3 (by omega) 0 Ll (by omega) (by omega) T W h1 h2
  obtain⟨i0,hi,fS,gn,eH⟩:=info_parts de;obtain⟨H,hH⟩:∃ H,H=w7.heap.size:=⟨_,rfl⟩;have HH:=ak hH;have hPH:P<H:=by rw[hH];exact hP7.lt
  have hTH:T<H:=by omega
  clear hH NX YI xO jC NO dg zg hK6 cm;have ju:c<=2:=by omega
  go_wp2_with fail
  go_loopw [11,12] (fun v11 v12 wr=>∃(j:Nat)(us:List Tm)(css:List (List Value))(vv:Value),vv=v11/\v12=.int .i64 (j:Int)/\j+us.length<=2/\dG H wr vv us css/\(∀ t∈us,t.wt<=100)/\bL wr T/\aW T wr/\af (cv T) w7 wr)
    (fun _ v12 _=>(intOf v12).toNat)
  case atStart=>exact⟨c,[],[],_,rfl,rfl,by simpa using ju,dG.nil _ _,fun t h=>by simp at h,lL,hK7,af.refl _ _⟩
  obtain⟨j,us,css,vv,sO,rfl,Is,eB,gd,xq,Jb,iB⟩:=hrel;subst sO;have amx:(j:Int)<=2:=by omega
  have Fl:(0:Int)<=(j:Int):=by omega
  have hHr:H<=wr.heap.size:=by have:=iB.size;have:=HH.out;omega
  by_cases hjp:0<j
  ·have hji:(0:Int)<(j:Int):=by omega
   have TMr:=TM wr xq Jb;go_wp2_with fail
   (with_reducible refine TMr.mono ?_);rintro e w8 ⟨k8,i8,n8,a8,l8,c8,t8,rfl,p8,TJ,Je,XK,cW⟩;have P7:t8.wt<=100:=by have:=TJ.wt;omega
   have YY:=eB.ag cW (fun b e=>by simp only[cv]at e;omega);have cZ:us.length<=10:=by omega
   have Ls:af (cv T) wr w8:=cW;have hz8:=cW.size;have BO:=ak (And.intro gd P7);clear TMr gd;go_wp2_with (at_builtin;go_loud (refine wpList_append_lies _ (by rfl) _ _ 26 (by rfl) H 29 i0 (.agg #[.int .i64 0,.string (B []),.int .i64 0,.slice none 0 0]) 4 56 (by kernel_rfl) hi fS gn eH rfl (by decide) vv us.length css.flatten (by rfl) ((YY.on ((af.refl ae w8).alloc _)).2.2.1) ⟨w8.heap.size,0,none⟩ 1 1 [.int .i64 k8,.string (B n8),.int .i64 i8,.slice a8 l8 c8] (by rfl) rfl (World.news_of_block (heap_alloc_new w8 _)) (by simp[Value.oneCell']) (by omega) (by simp only[maxLen];omega) (by omega) (by simp;omega) _ rfl ?_);intro g' aS w9 bq aN ft aiA)
   obtain⟨h1,h2,h3,h4⟩:=JH eB hTH hHr iB Ls HH.out.symm Je XK p8 bq aN ft;have HR:=ak (And.intro h1 (And.intro h2 (And.intro h3 h4)));clear h1 h2 h3 h4 bq aN ft YY eB p8 cW Ls;go_roundw;case rel=>exact⟨j - 1,us++[t8],_,_,rfl,by go_num,by simp;omega,HR.out.1,fun t ht=>by rcases List.mem_append.1 ht with h |h;exact BO.out.1 t h;rw[List.mem_singleton.1 h];exact BO.out.2,HR.out.2.1,HR.out.2.2.1,HR.out.2.2.2⟩
   simp[intOf];omega
  obtain rfl:j=0:=by omega
  have sA:¬(0:Int)<((0:Nat):Int):=by omega
  obtain⟨xa,xc,rfl,hxc,hXE⟩:=eB.rep;have ZZ:=hP7.ag iB (by simp only[cv];omega);have xG:=aw.ag iB (fun b e=>.inr e) _ _ og;have Mf:=ai.ag iB (fun b e=>(by simp only[cv]at e;omega:T<=b)) _ _ _ _ hL7;have Xo:=Xu.ag iB (by simp only[cv];omega);have FQ:af ae w wr:=yt.trans iB (fun b hb e=>by simp only[cv]at e;have:=HN.out;omega);have F0:us.length<=2:=by omega
  have C9:=fun W=>uD k1 9 (by omega) (by omega) W
  clear eB hP7 og hL7 Xu yt iB TM xq Jb;obtain⟨q0,q1,q2⟩:wr.cell? ⟨N,0,none⟩=some (.int .i64 k0)/\wr.cell? ⟨N,1,none⟩=some (.int .i64 k1)/\wr.cell? ⟨N,2,none⟩=some (.int .i64 k2):=⟨by simpa using Xo.cell 0,by simpa using Xo.cell 1,by simpa using Xo.cell 2⟩;generalize tA k1 9=c9 at *
  go_upto_region 12 with fail;go_cut [66]from 63 to 66 (fun v66 wx=>v66=.bool (c9 == 0)/\wr=wx)
  case first=>
    go_wp2_with (first |((go_at_call 25);(with_reducible refine(C9 _).mono ?_);rintro e w7 ⟨rfl,rfl⟩))
    go_meet
    exact⟨rfl,rfl⟩
  obtain⟨rfl,rfl⟩:=hcut;generalize (c9 == 0)=cc at *
  go_upto_if 66 with fail
  go_cut []from 67 to 72 (fun wc=>∃(k i:Int)(nm:List UInt8)(a:Option Addr)(len cap:Nat)(t:Tm),au wc P (.int .i64 k) (.string (B nm)) (.int .i64 i) (.slice a len cap) 29/\aw (fun b=>b=P) wc t.az [.int .i64 k,.string (B nm),.int .i64 i,.slice a len cap]/\t.wt<=150/\af (fun b=>b=P) wr wc)
  case first=>
    have hRP:=aw.weaken (O':=fun b=>b=P) (fun b _ e=>.inl e) _ _ xG;cases cc
    ·go_wp2_with fail;go_meet
     exact⟨_,_,_,_,_,_,t6,ZZ,hRP,by omega,af.refl _ _⟩
    obtain⟨x0,x1,x2,x3⟩:=ZZ.cells;have SP:=fun y z=>JP t6 (by omega) (fun b=>b=P) y z wr _ hRP
    go_wp2_with (first |((go_at_call 29);(with_reducible refine(SP _ _).mono ?_);rintro e w8 ⟨k8,i8,n8,a8,QS,QX,t8,rfl,p8,P7,cW⟩;have Ow:=ZZ.kept cW;have Zz:=ZZ.lt;obtain⟨y4,y5,y6,y7⟩:=Ow.cells;obtain⟨y0,y1,y2,y3⟩:=Ow.aq))
    go_meet
    have ah:=Ow.set (d0:=.int .i64 k8) (d1:=.string (B n8)) (d2:=.int .i64 i8) (d3:=.slice a8 QS QX);exact⟨_,_,_,_,_,_,t8,ah.1,aw.ag ah.2 (fun b e=>e) _ _ (aw.weaken (fun b _ e=>⟨e,by rw[e];exact Zz⟩) _ _ p8),by omega,(cW.mono (fun _ _ e=>e.elim)).trans ah.2 (fun _ _ e=>e)⟩
  obtain⟨k8,i8,n8,a8,l8,c8,t8,hP8,p8,P7,cW⟩:=hcut;obtain⟨w8,rfl⟩:∃ q,q=wc:=⟨_,rfl⟩;have Kq:=ai.weaken (O':=ae) (fun _ _ e=>e.elim) _ _ _ _ (ai.ag cW (fun b e=>(by omega:T<=b)) _ _ _ _ Mf);have KQ:=ai.weaken (O':=ae) (fun _ _ e=>e.elim) _ _ _ _ (ai.ag cW (fun b e=>(by omega:b<H)) _ _ _ _ hXE);have WQ:=aw.weaken (O':=ae) (fun _ _ e=>e.elim) _ _ p8;have tX:af ae w w8:=FQ.trans cW (fun b hb e=>by have:=HN.out;omega)
  have fO:∀ y∈t8 :: us,y.wt<=1000000/\(y.wf=0->(∀ i∈Tm.ay y,i<((L.length:Nat):Int))->Kn ((L.length:Nat):Int) y):=fun y hy=>by
    have h9:y.wt<=150:=by
      rcases List.mem_cons.1 hy with rfl |h
      ·exact P7
      have:=gd y h;omega
    exact⟨by omega,fun h1 h2=>vT _ h1 (by have:=Tm.bB y;omega) h2⟩
  have AB:=fun(W:World)(hW:af ae w8 W)=>rp L hP.R5 Dz (by have:=Ai.out;omega) t8 us (by omega) fO W va vc _ xa xc (Kq.on hW) (WQ.on hW) (KQ.on hW)
  have RB:=fun(W:World)(hW:af ae w8 W)=>uj L hP.R5 Dz (by have:=Ai.out;omega) t8 us (by omega) fO W va vc _ xa xc (Kq.on hW) (WQ.on hW) (KQ.on hW)
  rw[<-Ai.out]at AB RB
  have hAw:(lC L t8 us).size<=1000000/\∀ n∈jL L t8 us,n.size<=1000000:=by
    by_cases hz:iP L t8 us=0
    ·have h9:=Ux hP.R5 Dz (by have:=Ai.out;omega) hz;exact⟨Nat.le_trans (Tm.bB _) (h9 _ (by simp)),fun n hn=>Nat.le_trans (Tm.bB _) (h9 n (by simp[hn]))⟩
    obtain⟨h1,h2,_⟩:=Al hz;rw[h1,h2];exact⟨by decide,fun n hn=>by cases hn⟩
  have RD:(jL L t8 us).length<=1000000:=by have:=NN (a:=t8) (ms:=us) hP.R5 Dz (by have:=Ai.out;omega);omega
  have SA:=fun W cs ds h h'=>nG (lC L t8 us) hAw.1 (lC L t8 us) W cs ds h h'
  rw[Tm.zI]at SA;have SB:=fun W a a2 c c2 h h'=>tz (jL L t8 us) hAw.2 RD W a a2 c c2 h h'
  generalize lC L t8 us=bA at *
  generalize jL L t8 us=bM at *
  generalize iP L t8 us=bE at *
  generalize tH L t8 us=bN at *
  have Kr:(bE == bE)=true:=by simp
  have aqh:((bN:Int) == (bN:Int))=true:=by simp
  have AB8:=AB w8 (af.refl _ _);obtain⟨x0,x1,x2,x3⟩:=hP8.cells;clear AB Mf hXE ZZ xG Xo FQ cW p8 Kq KQ WQ fO hAw RD C9 q0 q1 q2 hP Dz;go_upto_region 14 with fail;go_wp2_with fail
  (with_reducible refine AB8.mono ?_);rintro e w9 ⟨k9,i9,n9,a9,l9,c9,Xk,XM,rfl,apu,aaU,Zv,bU⟩;have mq:=aw.weaken (O':=ae) (fun _ _ e=>e.elim) _ _ aaU;have hM9:=ai.weaken (O':=ae) (fun _ _ e=>e.elim) _ _ _ _ Zv;obtain⟨kB,nt⟩:∃ z,z=w9.alloc (.cells #[.int .i64 k9,.string (B n9),.int .i64 i9,.slice a9 l9 c9] 29):=⟨_,rfl⟩;have dM:af ae w9 kB:=by rw[nt];exact(af.refl ae _).alloc _
  have abo:au kB w9.heap.size (.int .i64 k9) (.string (B n9)) (.int .i64 i9) (.slice a9 l9 c9) 29:=by rw[nt];exact au.av rfl
  have M7:=bU.and dM;have Ym:=mq.on dM;have acE:=hM9.on dM;have YQ:=RB kB M7;have V7:=ak nt;obtain⟨Q,hQ⟩:∃ z,z=w9.heap.size:=⟨_,rfl⟩;rw[<-hQ]at abo;have HQ:=ak hQ;clear nt hQ x0 x1 x2 x3 AB8 RB mq hM9 bU dM aaU Zv;obtain⟨x0,x1,x2,x3⟩:=(hP8.kept M7).cells;go_upto_region 15 with fail;rw[<-HQ.out,<-V7.out];go_wp2_with fail
  (with_reducible refine YQ.mono ?_);rintro e yE ⟨GI,i11,Fj,EN,l11,c11,ahw,ahc,rfl,akH,RK,RV,ir⟩;obtain⟨Ff,rS⟩:∃ z,z=yE.alloc (.cells #[.int .i64 GI,.string (B Fj),.int .i64 i11,.slice EN l11 c11] 29):=⟨_,rfl⟩;have zu:af ae yE Ff:=by rw[rS];exact(af.refl ae _).alloc _
  have aeF:au Ff yE.heap.size (.int .i64 GI) (.string (B Fj)) (.int .i64 i11) (.slice EN l11 c11) 29:=by rw[rS];exact au.av rfl
  have AY:=ir.and zu;have Zb:=SA Ff _ _ (Ym.on AY) ((aw.weaken (O':=ae) (fun _ _ e=>e.elim) _ _ RK).on zu);have aaG:=fun(W:World)(hW:af ae Ff W)=>SB W Xk ahw XM ahc (acE.on (AY.and hW)) ((ai.weaken (O':=ae) (fun _ _ e=>e.elim) _ _ _ _ RV).on (zu.and hW))
  have abI:=abo.kept AY;have TG:=ak rS;clear rS x0 x1 x2 x3 YQ SA SB RK RV Ym acE;obtain⟨x0,x1,x2,x3⟩:=abI.cells;obtain⟨y0,y1,y2,y3⟩:=aeF.cells;go_upto_region 16 with fail;rw[<-TG.out];go_wp2_with fail
  (with_reducible refine Zb.mono ?_);rintro e A3 ⟨rfl,kg⟩;have ahL:=aaG A3 kg;clear Zb aaG x0 x1 x2 x3 y0 y1 y2 y3;go_wp2_with fail
  (with_reducible refine ahL.mono ?_);rintro e w14 ⟨rfl,gY⟩;go_wp2_with fail
  (with_reducible refine(Qu w14).mono ?_);rintro e OW ⟨rfl,jl⟩;go_wp2_with fail;go_ret;exact⟨rfl,((((tX.and M7).and AY).and kg).and gY).and jl⟩
end Go.Proofs.YthgmimncdjhgnaaGreatDoor
