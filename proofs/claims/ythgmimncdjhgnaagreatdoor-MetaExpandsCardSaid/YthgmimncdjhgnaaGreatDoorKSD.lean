/- The reference's Apply. -/
import Derived.Test.YthgmimncdjhgnaaGreatDoorKSC
set_option maxRecDepth 100000
set_option maxHeartbeats 16000000
namespace Go.Proofs.YthgmimncdjhgnaaGreatDoor
open Go.RowKit Go.LF
theorem zCt(O:Nat->Prop)(m:Tm)(s:Sm)(us:List Tm)(hmw:m.wt<=1000000)(huw:∀ u∈us,u.wt<=1000000)(hsw:s.wt<=1000000)(hul:us.length<=10000)(w:World)(hO:∀ b,O b->b<w.heap.size)(cs es:List Value)(ua:Option Addr)(uc:Nat)(huc:us.length<=uc)
    (hR:zM O w m.zN cs) (hS:zM O w s.zN es) (hE:zG O w 4 (us.map Tm.zN) ua 0):
    Calls Tryz.prog 125 #[.agg cs.toArray,.agg es.toArray,.slice ua us.length uc] w (Y4 O (Ys m s us) (Z3 m s us) w):=by
  obtain⟨k,n,i,ts,a,cap,htt,rfl,_,_⟩:=zX hR
  generalize ts.length=len at *
  obtain⟨f,ss,rfl⟩:∃ f ss,s=.mk f ss:=by cases s with |mk f l=>exact⟨f,l,rfl⟩
  obtain⟨sa,sc,rfl,hsc,hES⟩:=ZF.1 hS
  obtain⟨w1,hw1⟩:∃ w1,w1=((w.alloc (.cells #[.int .i64 k,.string (B n),.int .i64 i,.slice a len cap] 29)).alloc (.cells #[.string (B f),.slice sa ss.length sc] 115)).alloc (.cells #[.int .i64 0,.string (B []),.int .i64 0,.slice none 0 0] 29):=⟨_,rfl⟩
  have hU1:zD zC w w1:=by rw[hw1];exact(((zD.refl zC w).alloc _).alloc _).alloc _
  have ht1:zK w1 w.heap.size (.int .i64 k) (.string (B n)) (.int .i64 i) (.slice a len cap) 29:=by rw[hw1];exact((zK.zL rfl).kept ((zD.refl zC _).alloc _)).kept ((zD.refl zC _).alloc _)
  have hs1:zm w1 (w.heap.size+1) (.string (B f)) (.slice sa ss.length sc) 115:=by rw[hw1];exact(zm.zL (by simp)).kept ((zD.refl zC _).alloc _)
  have hr1:zK w1 (w.heap.size+1+1) (.int .i64 0) (.string (B [])) (.int .i64 0) (.slice none 0 0) 29:=by rw[hw1];exact zK.zL (by simp)
  have hR1:=(zM.xZ hR).on hU1
  have hS1:=(zM.xZ hS).on hU1
  have hE1:=(zG.zQ _ _ _ _ hE).on hU1
  have hT1:=(zG.zQ _ _ _ _ hES).on hU1
  have HW:=zH hw1
  obtain⟨H,hH⟩:∃ H,H=w.heap.size:=⟨_,rfl⟩
  have HH:=zH hH
  rw[<-hH]at ht1 hs1 hr1 hR1 hS1 hE1 hT1
  have hO2:∀ b,O b->b<H:=by rw[hH];exact hO
  have HO:=zH hO2
  obtain⟨E,hEE⟩:∃ E,E=Ys m (.mk f ss) us:=⟨_,rfl⟩
  obtain⟨X,hXX⟩:∃ X,X=Z3 m (.mk f ss) us:=⟨_,rfl⟩
  rw[<-hEE,<-hXX]
  unfold Z3 at hXX
  rw[<-hEE]at hXX
  unfold Ys at hEE
  have HEX:=zH (And.intro hEE hXX)
  have FO:=fun(W:World)(a9:Option Addr)(c9:Nat)h9=>zEp (m :: us) (by simp;omega) (fun u hu=>(List.mem_cons.1 hu).elim (fun h=>h ▸ hmw) (huw u)) W a9 c9 h9
  have SI:=fun(W:World)h9=>zC5 (.mk f ss) hsw W [.string (B f),.slice sa ss.length sc] h9
  have OB:=fun(W:World)(a9:Option Addr)(c9:Nat)h9=>zEB (m :: us) (by simp;omega) (fun u hu=>(List.mem_cons.1 hu).elim (fun h=>h ▸ hmw) (huw u)) W a9 c9 h9
  obtain⟨ul,hull⟩:∃ ul,ul=us.length:=⟨_,rfl⟩
  obtain⟨sl,hsll⟩:∃ sl,sl=ss.length:=⟨_,rfl⟩
  rw[<-hull,<-hsll]
  rw[<-hull]at hul
  rw[<-hsll]at hs1 HW
  have HL:=zH (And.intro hull (And.intro hsll (And.intro hsc huc)))
  have HU:=zH hU1
  have hul3:(ul:Int)<=10000:=by omega
  have hz1:H+3<=w1.heap.size:=by have:=hr1.lt;omega
  have hrow:=fun(W:World)(hu:zD zC w1 W)=>ZC.one (O:=fun b=>O b\/b=H\/b=H+1\/b=H+1+1) (zM.weaken (fun b _ e=>by rcases e with e |e;(exact .inl e);(right;omega)) _ _ (hR1.on hu))
  have hal:∀ W:World,zD zC W (W.alloc (.cells #[.int .i64 k,.string (B n),.int .i64 i,.slice a len cap] 29)):=fun W=>(zD.refl zC _).alloc _
  have HEE:=zH (And.intro hE1 hT1)
  clear hw1 hH hR hS hE hES hEE hXX hull hsll hU1 hO hO2 hmw huw hsw hsc huc hE1 hT1
  obtain⟨t0,t1,t2,t3⟩:=ht1.cells
  have hlt1:=ht1.lt
  have row1:=hrow w1 (zD.refl _ _)
  have hal1:=hal w1
  go_enter Tryz.func125,Tryz.ntmps125
  go_upto_region 1 with fail
  rw[<-show B []={ data:=#[] }from rfl,<-HW.out,<-HH.out]
  go_wp2_with (at_builtin;go_loud (refine ZE (by rfl) _ _ (by rfl) (by rfl) row1 ua ul uc us (by rfl) HL.out.1 (zG.weaken (fun b _ e=>by rcases e with(e |e)|e;(exact .inl e);all_goals(right;omega)) _ _ _ _ (HEE.out.1.on hal1)) (by simp;have:=HL.out.1;omega) (by have:=hal1.size;omega) ?_);intro v3 w3 css3 hS3 hg3 hat3;have hgo:=zy hg3;have hU3:zD zC w1 w3:=(hal1.trans hgo (fun b hb e=>by simp[Value.ownBlock]at e;omega));obtain⟨va,vc,hv3,hvc,hF3⟩:=hS3.rep;subst hv3)
  refine(FO _ va vc (qm hF3)).mono ?_
  rintro e w2 ⟨rfl,hU32⟩
  have hU2:=hU3.and hU32
  have hr2:=hr1.kept hU2
  have ht2:=ht1.kept hU2
  have hs2:=hs1.kept hU2
  clear FO row1 hal1 hgo hS3 hg3 hat3 hF3 t0 t1 t2 t3
  obtain⟨q,hq⟩:∃ q:Int,q=zu Tm.wf (m :: us):=⟨_,rfl⟩
  rw[<-hq]
  have HQ:=zH hq
  clear hq
  by_cases hq:q=0
  case neg=>
    have hE0:E=q:=by rw[HEX.out.1,<-HQ.out,if_pos hq]
    have hX0:X=Tm.zT:=by rw[HEX.out.2,hE0,if_neg hq]
    have H0:=zH (And.intro hE0 hX0)
    have hq':(q !=0)=true:=by simpa using hq
    clear hE0 hX0 hq
    have hset:=hr2.set (d0:=.int .i64 0) (d1:=.string (B [])) (d2:=.int .i64 0) (d3:=.slice none 0 0)
    obtain⟨y0,y1,y2,y3⟩:=hr2.cells
    obtain⟨z0,z1,z2,z3⟩:=hr2.zI
    obtain⟨e0,e1,e2,e3⟩:=hset.1.cells
    have HEE:=zH (And.intro e0 (And.intro e1 (And.intro e2 (And.intro e3 hset.2))))
    have hlr:=hr2.lt
    clear e0 e1 e2 e3 hset
    go_wp2_with fail
    obtain⟨e0,e1,e2,e3,hset⟩:=HEE.out
    refine bodyPost_ret (v:=.tuple #[.agg #[.int .i64 0,.string (B []),.int .i64 0,.slice none 0 0],.int .i64 q]) ?_ rfl ?_
    ·simp[results,Tryz.f125,go_sem,e0,e1,e2,e3]
    ·exact⟨0,0,[],none,0,0,by rw[H0.out.1],by rw[H0.out.2];exact ze 0 [] 0,(HU.out.and hU2).trans hset (fun b hb e=>by have:=HH.out;omega)⟩
  subst hq
  have hE1:=HEX.out.1
  rw[<-HQ.out,if_neg (by simp)]at hE1
  have SI2:=SI w2 (yV (hS1.on hU2))
  obtain⟨q,hq⟩:∃ q:Int,q=Sm.wf (.mk f ss):=⟨_,rfl⟩
  rw[<-hq]at SI2 hE1
  have HQ:=zH hq
  have HE1:=zH hE1
  obtain⟨s0,s1⟩:=hs2.cells
  rw[<-HL.out.2.1]at SI2
  clear hq SI hE1
  go_wp2_with fail
  refine SI2.mono ?_
  rintro e w3 ⟨rfl,hU3⟩
  have hU4:=hU2.and hU3
  have hr3:=hr2.kept hU3
  have ht3:=ht2.kept hU3
  have hs3:=hs2.kept hU3
  have hE1:=HE1.out
  clear hr2 ht2 hs2 HE1 s0 s1 SI2
  by_cases hq:q=0
  case neg=>
    rw[if_pos hq]at hE1
    have H0:=zH (And.intro hE1 (show X=Tm.zT by rw[HEX.out.2,hE1,if_neg hq]))
    have hq':(q !=0)=true:=by simpa using hq
    clear hE1 hq
    have hset:=hr3.set (d0:=.int .i64 0) (d1:=.string (B [])) (d2:=.int .i64 0) (d3:=.slice none 0 0)
    obtain⟨y0,y1,y2,y3⟩:=hr3.cells
    obtain⟨z0,z1,z2,z3⟩:=hr3.zI
    obtain⟨e0,e1,e2,e3⟩:=hset.1.cells
    have HEE:=zH (And.intro e0 (And.intro e1 (And.intro e2 (And.intro e3 hset.2))))
    have hlr:=hr3.lt
    clear e0 e1 e2 e3 hset
    go_wp2_with fail
    obtain⟨e0,e1,e2,e3,hset⟩:=HEE.out
    refine bodyPost_ret (v:=.tuple #[.agg #[.int .i64 0,.string (B []),.int .i64 0,.slice none 0 0],.int .i64 q]) ?_ rfl ?_
    ·simp[results,Tryz.f125,go_sem,e0,e1,e2,e3]
    ·exact⟨0,0,[],none,0,0,by rw[H0.out.1],by rw[H0.out.2];exact ze 0 [] 0,(HU.out.and hU4).trans hset (fun b hb e=>by have:=HH.out;omega)⟩
  subst hq
  rw[if_neg (by simp)]at hE1
  obtain⟨an,han⟩:∃ an,an=(m :: us).any (fun u=>!(u.isObj && u.small)):=⟨_,rfl⟩
  rw[<-han]at OB hE1
  have HAN:=zH (And.intro han HQ.out.symm)
  have HE1:=zH hE1
  have row3:=hrow w3 hU4
  have hal3:=hal w3
  obtain⟨t0,t1,t2,t3⟩:=ht3.cells
  have hlt3:=ht3.lt
  have hz3:=hU4.size
  have hll:(m :: us).length=us.length+1:=rfl
  rw[hll]at OB
  have HOB:=zH OB
  clear han hE1 HQ OB hll
  go_wp2_with (at_builtin;go_loud (refine ZE (by rfl) _ _ (by rfl) (by rfl) row3 ua ul uc us (by rfl) HL.out.1 (zG.weaken (fun b _ e=>by rcases e with(e |e)|e;(exact .inl e);all_goals(right;omega)) _ _ _ _ ((HEE.out.1.on hU4).on hal3)) (by simp;have:=HL.out.1;omega) (by have:=hal3.size;omega) ?_);intro v5 w5 css5 hS5 hg5 hat5;have hgo:=zy hg5;have hU5:zD zC w3 w5:=(hal3.trans hgo (fun b hb e=>by simp[Value.ownBlock]at e;omega));obtain⟨vb,vd,hv5,hvd,hF5⟩:=hS5.rep;subst hv5)
  refine(HOB.out _ vb vd (qm hF5)).mono ?_
  rintro e w6 ⟨rfl,hU56⟩
  have hU6:=(hU4.and hU5).and hU56
  have hr6:=hr3.kept (hU5.and hU56)
  have ht6:=ht3.kept (hU5.and hU56)
  have hs6:=hs3.kept (hU5.and hU56)
  clear row3 hal3 hgo hS5 hg5 hat5 hF5 t0 t1 t2 t3 hr3 ht3 hs3 HOB
  have hE1:=HE1.out
  clear HE1
  cases an
  case true=>
    rw[if_pos rfl]at hE1 ⊢
    have H0:=zH (And.intro hE1 (show X=Tm.zT by rw[HEX.out.2,hE1];rfl))
    clear hE1
    have hset:=hr6.set (d0:=.int .i64 0) (d1:=.string (B [])) (d2:=.int .i64 0) (d3:=.slice none 0 0)
    obtain⟨y0,y1,y2,y3⟩:=hr6.cells
    obtain⟨z0,z1,z2,z3⟩:=hr6.zI
    obtain⟨e0,e1,e2,e3⟩:=hset.1.cells
    have HEE:=zH (And.intro e0 (And.intro e1 (And.intro e2 (And.intro e3 hset.2))))
    have hlr:=hr6.lt
    clear e0 e1 e2 e3 hset
    go_wp2_with fail
    obtain⟨e0,e1,e2,e3,hset⟩:=HEE.out
    refine bodyPost_ret (v:=.tuple #[.agg #[.int .i64 0,.string (B []),.int .i64 0,.slice none 0 0],.int .i64 32]) ?_ rfl ?_
    ·simp[results,Tryz.f125,go_sem,e0,e1,e2,e3]
    ·exact⟨0,0,[],none,0,0,by rw[H0.out.1],by rw[H0.out.2];exact ze 0 [] 0,(HU.out.and hU6).trans hset (fun b hb e=>by have:=HH.out;omega)⟩
  rw[if_neg (by simp)]at hE1 ⊢
  have hobj:∀ u∈m :: us,u.isObj=true/\u.small=true:=by
    intro u hu
    have h1:=HAN.out.1.symm
    rw[List.any_eq_false]at h1
    simpa using h1 u hu
  have hsz:(Sm.mk f ss).size<=4096:=by
    have h1:=HAN.out.2
    unfold Sm.wf at h1
    split at h1
    ·cases h1
    ·split at h1
     ·cases h1
     ·rename_i h2;simp at h2;simp only[Sm.zS];omega
  have hX1:X=if E=0 then(Tm.ap (Tm.Xb 262145) m ss us 0).t else Tm.zT:=HEX.out.2
  have hE2:E=(Tm.ap (Tm.Xb 262145) m ss us 0).e:=hE1
  have hrt:(Tm.ap (Tm.Xb 262145) m ss us 0).e≠0->(Tm.ap (Tm.Xb 262145) m ss us 0).t=Tm.zT:=by
    intro h
    unfold Tm.ap at h ⊢
    split
    ·rename_i hl;rw[if_pos hl]at h;exact Tm.zAI _ (fun u s b w h=>Tm.zCk _ _ _ _ _ _ h) _ _ _ _ h
    ·rfl
  have hsl:ss.length<=10000:=by have:=Sm.zO ss;simp only[Sm.zS]at hsz;omega
  have AQ:=fun(W:World)(x:Nat)(hu:zD zC w1 W)(hx:w1.heap.size<=x)(hB:zm W x (.int .i64 0) (.int .i64 0) 181)=>
    Y7 262145 (zEL 262145) m ss us f 0 x (fun b=>O b\/b=H\/b=H+1\/b=H+1+1\/b=x) W k i n a len cap sa sc ua uc (by omega) (by omega) (hobj m (by simp)).1 (hobj m (by simp)).2 (by rw[<-HL.out.1];exact hul) hsl HL.out.2.2.2 HL.out.2.2.1 (fun u hu=>hobj u (by simp[hu])) (fun s hs=>by have:=Sm.zR hs;simp only[Sm.zS]at hsz;omega) (.inr (.inr (.inr (.inr rfl))))
      (fun b e=>by have h1:=hB.lt;have h2:=hu.size;rcases e with e |e |e |e |e;(have:=HO.out b e;omega);all_goals omega) hB (zM.weaken (fun b hb e=>by have:=hu.size;rcases e with e |e;(exact .inl (.inl e));omega) _ _ ((zM.zQ _ _ hR1).on hu))
      (zG.weaken (fun b hb e=>by have:=hu.size;rcases e with e |e;(exact .inl (.inl e));omega) _ _ _ _ ((zG.zQ _ _ _ _ HEE.out.2).on hu)) (zG.weaken (fun b hb e=>by have:=hu.size;rcases e with e |e;(exact .inl (.inl e));omega) _ _ _ _ ((zG.zQ _ _ _ _ HEE.out.1).on hu))
  rw[<-HL.out.1,<-HL.out.2.1]at AQ
  have HX1:=zH (And.intro hE2 (And.intro hX1 hrt))
  generalize Tm.ap (Tm.Xb 262145) m ss us 0=r at *
  clear hobj hsz hrt hE1 hE2 hX1 hsl
  obtain⟨w7,hw7⟩:∃ w7,w7=w6.alloc (.cells #[.int .i64 0,.int .i64 0] 181):=⟨_,rfl⟩
  have hUa:zD zC w6 w7:=by rw[hw7];exact(zD.refl zC _).alloc _
  have hx7:zm w7 w6.heap.size (.int .i64 0) (.int .i64 0) 181:=by rw[hw7];exact zm.zL rfl
  have hz6:=hU6.size
  obtain⟨x,hx⟩:∃ x,x=w6.heap.size:=⟨_,rfl⟩
  rw[<-hx]at hx7 hz6
  have HX6:=zH hx
  have HW7:=zH hw7
  have hr7:=hr6.kept hUa
  have ht7:=ht6.kept hUa
  have hs7:=hs6.kept hUa
  have hU7:=hU6.and hUa
  clear hw7 hx hr6 ht6 hs6
  have AQ7:=AQ w7 x hU7 hz6 hx7
  clear AQ
  obtain⟨t0,t1,t2,t3⟩:=ht7.cells
  obtain⟨s0,s1⟩:=hs7.cells
  go_upto_region 11 with fail
  rw[<-HW7.out,<-HX6.out]
  go_wp2_with fail
  (with_reducible refine AQ7.mono ?_)
  rintro e w8 ⟨⟨⟨k9,n9,i9,a9,len9,cap9,rfl,hR7⟩,hX7⟩,hU8⟩
  have hr8:=hr7.zF hU8 (by omega)
  have hR8:zM (fun b=>O b\/b=H+1+1) w8 r.t.zN [.int .i64 k9,.string (B n9),.int .i64 i9,.slice a9 len9 cap9]:=zM.weaken (fun b _ e=>e.elim .inl (fun e=>.inr (.inr (.inr (.inl e))))) _ _ hR7
  have hUx:zD zC w w8:=(HU.out.and hU7).trans hU8 (fun b hb e=>by have:=HH.out;omega)
  obtain⟨w9,hw9⟩:∃ w9,w9=w8.alloc (.cells #[.int .i64 k9,.string (B n9),.int .i64 i9,.slice a9 len9 cap9] 29):=⟨_,rfl⟩
  have hUb:zD zC w8 w9:=by rw[hw9];exact(zD.refl zC _).alloc _
  have hy9:zK w9 w8.heap.size (.int .i64 k9) (.string (B n9)) (.int .i64 i9) (.slice a9 len9 cap9) 29:=by rw[hw9];exact zK.zL rfl
  obtain⟨Y,hY⟩:∃ Y,Y=w8.heap.size:=⟨_,rfl⟩
  rw[<-hY]at hy9
  have HY:=zH hY
  have HW9:=zH hw9
  have hr9:=hr8.kept hUb
  have hX9:=hX7.kept hUb
  have hR9:=hR8.on hUb
  have hUy:=hUx.and hUb
  have hlY:H+1+1<Y:=by have:=hr8.lt;omega
  clear hw9 hY hr7 hr8 hX7 hR7 hR8 hUx t0 t1 t2 t3 s0 s1
  go_upto_region 12 with fail
  rw[<-HW9.out,<-HY.out]
  obtain⟨t0,t1,t2,t3⟩:=hy9.cells
  obtain⟨x0,x1⟩:=hX9.cells
  obtain⟨y0,y1,y2,y3⟩:=hr9.cells
  have hlr:=hr9.lt
  have hd9:zD zC w9 w9.drew:=(zD.refl zC _).drew
  have S9:Mr8 Y x (.int .i64 k9) (.string (B n9)) (.int .i64 i9) (.slice a9 len9 cap9) (.int .i64 r.e) w9:=⟨hy9.cells,x1⟩
  have Sd:=S9.zF hd9 (fun x=>x) (fun x=>x)
  have hrd:=hr9.kept hd9
  have nY:¬Y=H+1+1:=by omega
  have nx:¬x=H+1+1:=by omega
  have hset:=hr9.set (d0:=.int .i64 k9) (d1:=.string (B n9)) (d2:=.int .i64 i9) (d3:=.slice a9 len9 cap9)
  obtain⟨e0,e1,e2,e3⟩:=(hset.1.kept (zD.refl zC _).drew).cells
  have HE3:=zH (And.intro e0 (And.intro e1 (And.intro e2 (And.intro e3 hset.2.drew))))
  obtain⟨z0,z1,z2,z3⟩:=hr9.zI
  clear e0 e1 e2 e3 hset
  go_region_held3 (fun w'=>Mr8 Y x (.int .i64 k9) (.string (B n9)) (.int .i64 i9) (.slice a9 len9 cap9) (.int .i64 r.e) w')
    (first |(with_reducible assumption)|(with_reducible exact Sd)|(with_reducible exact Mr8.zF (Mr8.Ye S9 nY nx _ _ _ _) (zD.refl zC _).drew (fun x=>x) (fun x=>x)))
    (first |fail)
  all_goals
    go_wp2_with fail
    obtain⟨e0,e1,e2,e3,hset⟩:=HE3.out
    refine bodyPost_ret (v:=.tuple #[.agg #[.int .i64 k9,.string (B n9),.int .i64 i9,.slice a9 len9 cap9],.int .i64 r.e]) ?_ rfl ?_
    ·simp[results,Tryz.f125,go_sem,e0,e1,e2,e3]
    ·refine⟨k9,i9,n9,a9,len9,cap9,by rw[HX1.out.1],?_,hUy.trans hset (fun b hb e=>by have:=HH.out;omega)⟩
     have hXr:X=r.t:=by
       by_cases h0:r.e=0
       ·rw[HX1.out.2.1,if_pos (by rw[HX1.out.1];exact h0)]
       ·rw[HX1.out.2.1,if_neg (by rw[HX1.out.1];exact h0),HX1.out.2.2 h0]
     rw[hXr]
     exact zM.weaken (fun b _ e=>.inl e) _ _ (zM.zF hset (fun b e=>.inr e) _ _ hR9)
end Go.Proofs.YthgmimncdjhgnaaGreatDoor
