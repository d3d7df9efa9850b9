/- lfcheckref09.Params. -/
import Derived.Test.YthgmimncdjhgnaaGreatDoorYFD
import Derived.Test.YthgmimncdjhgnaaGreatDoorYFS
import Derived.Test.YthgmimncdjhgnaaGreatDoorYFT
import Derived.Test.YthgmimncdjhgnaaGreatDoorYFV
set_option maxRecDepth 100000
set_option maxHeartbeats 8000000
namespace Go.Proofs.YthgmimncdjhgnaaGreatDoor
section
open Go.RowKit Go.LF
theorem zCX(a:Tm)(hs:a.zO=true\/a.zP=true)(hsz:Zr a<=100000)(w:World)(cs:List Value)(h:zJ zC w a.zM cs):
    Calls Tryz.prog 143 #[.agg cs.toArray] w fun e w'=>(∃(k i:Int)(n:List UInt8)(x:Option Addr)(l c:Nat),e=.returned (.tuple #[.agg #[.int .i64 k,.string (B n),.int .i64 i,.slice x l c],.int .i64 (Zr a:Int)]))/\zD zC w w':=by
  obtain⟨k,n,i,ts,aa,cap,hae,rfl,-,-⟩:=zR h
  obtain⟨len,hln⟩:∃ q,q=ts.length:=⟨_,rfl⟩
  have hla:len=a.args.length:=by rw[hae,hln];rfl
  rw[<-hln]at h
  rw[<-hln]
  have HLn:=zG hla
  clear hla hln hae
  obtain⟨w1,hw1⟩:∃ w1,w1=(w.alloc (.cells #[.int .i64 k,.string (B n),.int .i64 i,.slice aa len cap] 29)).alloc (.cells #[.int .i64 0,.string (B []),.int .i64 0,.slice none 0 0] 29):=⟨_,rfl⟩
  have hU1:zD zC w w1:=by rw[hw1];exact((zD.refl zC w).alloc _).alloc _
  have hb1:zI w1 w.heap.size (.int .i64 k) (.string (B n)) (.int .i64 i) (.slice aa len cap) 29:=by rw[hw1];exact(zI.zK rfl).kept ((zD.refl zC _).alloc _)
  have hr1:zI w1 (w.heap.size+1) (.int .i64 0) (.string (B [])) (.int .i64 0) (.slice none 0 0) 29:=by rw[hw1];exact zI.zK (by simp)
  have hR1:zJ (fun y=>y=w.heap.size) w1 a.zM [.int .i64 k,.string (B n),.int .i64 i,.slice aa len cap]:=(zJ.weaken (fun b _ e=>.inr (by omega)) _ _ (zJ.zT _ _ h)).on hU1
  have HW1:=zG hw1
  obtain⟨R,hRr⟩:∃ X,X=w.heap.size+1:=⟨_,rfl⟩
  obtain⟨X,hX⟩:∃ X,X=w.heap.size:=⟨_,rfl⟩
  rw[<-hX]at hb1 hR1
  rw[<-hRr]at hr1
  have HX:=zG (And.intro hX hRr)
  clear hw1 h hX hRr
  go_enter Tryz.func143,Tryz.ntmps143
  go_upto_region 1 with fail
  rw[<-show B []={ data:=#[] }from rfl,<-HW1.out,<-HX.out.2,<-HX.out.1]
  go_wp2_with fail
  go_loopw [4] (fun v3 wr=>∃(j:Nat)(b:Tm)(k' i':Int)(n':List UInt8)(a':Option Addr)(c':Nat),v3=.int .i64 (j:Int)/\Zr b+j=Zr a/\(b.zO=true\/b.zP=true)/\zI wr X (.int .i64 k') (.string (B n')) (.int .i64 i') (.slice a' b.args.length c') 29/\zJ (fun y=>y=X) wr b.zM [.int .i64 k',.string (B n'),.int .i64 i',.slice a' b.args.length c']/\zI wr R (.int .i64 0) (.string (B [])) (.int .i64 0) (.slice none 0 0) 29/\zD (fun y=>y=X) w1 wr)
    (fun v3 _=>Zr a - (intOf v3).toNat)
  case atStart=>exact⟨0,a,k,i,n,aa,cap,rfl,rfl,hs,by rw[<-HLn.out];exact hb1,by rw[<-HLn.out];exact hR1,hr1,zD.refl _ _⟩
  case round=>
    clear hb1 hR1 hr1
    obtain⟨j,b,k',i',n',a',c',rfl,hpj,hsb,hB,hR,hr,hU⟩:=hrel
    obtain⟨x0,x1,x2,x3⟩:=hB.cells
    obtain⟨f0,f1,f2,f3⟩:=hB.zH
    have hlt:=hB.lt
    have hrl:=hr.lt
    have hj1:(j:Int)<=100000:=by omega
    have hj0:(0:Int)<=(j:Int):=by omega
    have HW:=zG (And.intro hpj hsb)
    by_cases hp:1<=Zr b
    ·obtain⟨nm,ix,d,b2,rfl,hd,hb2,hpb⟩:=Y0 hsb (m:=0) (by omega)
     obtain⟨a5,c5,e5,hc5,hE5⟩:=zd.1 hR
     simp only[List.cons.injEq,Value.int.injEq,Value.string.injEq,Value.slice.injEq,true_and,and_true]at e5
     obtain⟨eb,eo,kj,nj,ij,aj,cj,he,hebl,heX,p0,p1,p2,p3,hRj⟩:=zf hE5 1 (by simp)
     obtain⟨rfl,-,-,rfl,-⟩:=e5
     subst he
     have heX':¬eb=X:=heX
     have hl2:(Tm.mk 2 nm ix [d,b2]).args.length=2:=rfl
     rw[hl2]at x3 hB
     simp only[List.getElem_cons_succ,List.getElem_cons_zero]at p3 hRj
     have HB:=zG hB
     have HN:=zG (And.intro hpb hb2)
     go_wp2_with fail
     have hset:=HB.out.set (d0:=.int .i64 kj) (d1:=.string (B nj)) (d2:=.int .i64 ij) (d3:=.slice aj b2.args.length cj)
     go_roundw
     case rel=>exact⟨j+1,b2,kj,ij,nj,aj,cj,by go_num,by have:=HN.out.1;have:=HW.out.1;omega,HN.out.2,hset.1,zJ.zE hset.2 (fun _ e=>e) _ _ hRj,hr.zE hset.2 (by have:=HX.out;omega),hU.trans hset.2 (fun _ _ e=>e)⟩
     case measure=>(have:=HN.out.1;have:=HW.out.1;simp[intOf];omega)
    ·obtain⟨k6,n6,i6,us6,a6,c6,rfl,e6,-,-⟩:=zR hR
     simp only[List.cons.injEq,Value.int.injEq,true_and]at e6
     obtain⟨rfl,-⟩:=e6
     have hk2:¬k'=2:=fun e=>hp (zE3 hsb e)
     have hkb:(k' == 2)=false:=by simpa using hk2
     have hpz:Zr a=j:=by omega
     have HP:=zG hpz
     have hUf:=hU1.trans hU (fun y hy e=>by have:=HX.out;omega)
     obtain⟨y0,y1,y2,y3⟩:=hr.cells
     obtain⟨g0,g1,g2,g3⟩:=hr.zH
     clear hpz hk2 hpj hsb hp hR hB hU
     generalize us6.length=ul at *
     generalize (Tm.mk k' n6 i6 us6).args.length=al at *
     go_wp2_with fail
     have hset:=hr.set (d0:=.int .i64 k') (d1:=.string (B n')) (d2:=.int .i64 i') (d3:=.slice a' al c')
     obtain⟨w9,hw9⟩:∃ q,q=(((wr.setCell ⟨R,0,none⟩ (.int .i64 k')).setCell ⟨R,1,none⟩ (.string (B n'))).setCell ⟨R,2,none⟩ (.int .i64 i')).setCell ⟨R,3,none⟩ (.slice a' al c'):=⟨_,rfl⟩
     rw[<-hw9]at hset
     rw[<-hw9]
     clear hw9
     obtain⟨e0,e1,e2,e3⟩:=hset.1.cells
     refine bodyPost_ret (v:=.tuple #[.agg #[.int .i64 k',.string (B n'),.int .i64 i',.slice a' al c'],.int .i64 (j:Int)]) ?_ rfl ?_
     ·simp[results,Tryz.f143,go_sem,e0,e1,e2,e3]
     ·rw[HP.out]
      exact⟨⟨_,_,_,_,_,_,rfl⟩,hUf.trans hset.2 (fun b hb e=>by have:=HX.out;omega)⟩
theorem QQ(a:Tm)(hs:a.zO=true\/a.zP=true)(hsz:Zr a<=100000)(w:World)(cs:List Value)(h:zJ zC w a.zM cs):
    Calls Tryz.prog 85 #[.agg cs.toArray] w fun e w'=>e=.returned (.int .i64 (Zr a:Int))/\zD zC w w':=by
  obtain⟨k,n,i,ts,aa,cap,-,rfl,-,-⟩:=zR h
  generalize ts.length=len at *
  obtain⟨w1,hw1⟩:∃ w1,w1=w.alloc (.cells #[.int .i64 k,.string (B n),.int .i64 i,.slice aa len cap] 29):=⟨_,rfl⟩
  have hU1:zD zC w w1:=by rw[hw1];exact(zD.refl zC w).alloc _
  have hb1:zI w1 w.heap.size (.int .i64 k) (.string (B n)) (.int .i64 i) (.slice aa len cap) 29:=by rw[hw1];exact zI.zK rfl
  have EN:=zCX a hs hsz w1 _ (h.on hU1)
  have HW1:=zG hw1
  obtain⟨pn,hpn⟩:∃ q,q=(Zr a:Int):=⟨_,rfl⟩
  rw[<-hpn]at EN
  rw[<-hpn]
  obtain⟨x0,x1,x2,x3⟩:=hb1.cells
  clear hw1 h hpn
  go_enter Tryz.func85,Tryz.ntmps85
  go_upto_region 1 with fail
  rw[<-HW1.out]
  go_wp2_with fail
  (with_reducible refine EN.mono ?_)
  rintro e w2 ⟨⟨yk,yi,yn,ya,yl,yc,rfl⟩,hU2⟩
  go_wp2_with fail
  refine bodyPost_ret (v:=.int .i64 pn) (by simp[results,Tryz.f85,go_sem]) rfl ?_
  exact⟨rfl,(hU1.and hU2).alloc _⟩
end
section
open Go.RowKit Go.LF
theorem zJa(f n d:Int)(nm:List UInt8)(i:Int)(x y:Tm):Zx f n d (.mk 2 nm i [x,y])=.mk 2 nm i [Zx f n d x,Zx f n (d+1) y]:=by
  unfold Zx
  rw[xq,yG,yG,yW]
  have e:ZQ f n d 2 i=(2,i):=by unfold ZQ;rw[if_neg (fun h=>absurd h.1 (by decide))]
  rw[e]
  simp[Tm.under]
theorem zIE{ll j d:Int}{b:Tm}(h:∀ c,∀ x∈b.nodes c,x.k=5->0<=x.i/\x.i<=1048576):∀ c,∀ x∈(Zx ll j d b).nodes c,x.k=5->0<=x.i/\x.i<=1048576:=by
  intro c
  refine(Tm.Z9 (M:=fun k _ i=>k=5->0<=i/\i<=1048576) _ c).1 ?_
  unfold Zx
  refine zFA (N:=fun k _ i _=>k=5->0<=i/\i<=1048576) _ (fun d k n i z hN hk=>?_) b d ((Tm.Z9 (M:=fun k _ i=>k=5->0<=i/\i<=1048576) b 0).2 (h 0))
  unfold ZQ at hk ⊢
  split at hk
  ·exact absurd hk (show ¬(6:Int)=5 by decide)
  ·rename_i h9
   rw[if_neg h9]
   exact hN hk
theorem zA4(l:List Mv)(hl2:l.length<=1000)(a:Tm)(hwt:a.wt<=290000)(n:Int)(hn0: -5<=n)(hn1:n<=100)(w:World)(la:Option Addr)(lc:Nat)(hlc:l.length<=lc)(cs:List Value)(hL:zF zC w 6 (l.map Mv.zM) la 0)(h:zJ zC w a.zM cs):
    Calls Tryz.prog 34 #[.slice la l.length lc,.agg cs.toArray,.int .i64 n] w (Qm zC (yu l a n) (ZI l a n) (xT l a n) w):=by
  obtain⟨k,nm,i,ts,aa,cap,hae,rfl,-,-⟩:=zR h
  obtain⟨len,hln⟩:∃ q,q=ts.length:=⟨_,rfl⟩
  have hla:len=a.args.length:=by rw[hae,hln];rfl
  rw[<-hln]at h
  rw[<-hln]
  have HLn:=zG hla
  clear hln hla hae
  obtain⟨w1,hw1⟩:∃ w1,w1=(w.alloc (.cells #[.int .i64 k,.string (B nm),.int .i64 i,.slice aa len cap] 29)).alloc (.cells #[.int .i64 0,.string (B []),.int .i64 0,.slice none 0 0] 29):=⟨_,rfl⟩
  have hU1:zD zC w w1:=by rw[hw1];exact((zD.refl zC w).alloc _).alloc _
  have ha1:zI w1 w.heap.size (.int .i64 k) (.string (B nm)) (.int .i64 i) (.slice aa len cap) 29:=by rw[hw1];exact(zI.zK rfl).kept ((zD.refl zC _).alloc _)
  have hr1:zI w1 (w.heap.size+1) (.int .i64 0) (.string (B [])) (.int .i64 0) (.slice none 0 0) 29:=by rw[hw1];exact zI.zK (by simp)
  have hzw1:w1.heap.size=w.heap.size+1+1:=by rw[hw1];simp
  have hRa1:zJ (fun y=>y=w.heap.size\/y=w.heap.size+1) w1 a.zM [.int .i64 k,.string (B nm),.int .i64 i,.slice aa len cap]:=(zJ.weaken (fun b _ e=>.inr (by rcases e with e |e<;>omega)) _ _ (zJ.zT _ _ h)).on hU1
  have hRn:=zJ.weaken (O':=zC) (fun _ _ e=>e.elim) _ _ hRa1
  have hL1:zF (fun y=>y=w.heap.size\/y=w.heap.size+1) w1 6 (l.map Mv.zM) la 0:=(zF.weaken (fun b _ e=>.inr (by rcases e with e |e<;>omega)) _ _ _ _ (zF.zT _ _ _ _ hL)).on hU1
  have stay:∀(E:Int)(W W9:World),xT l a n=E->E≠0->zD (fun y=>y=w.heap.size) w1 W->zD (fun y=>y=w.heap.size+1) W W9->Qm zC (yu l a n) (ZI l a n) (xT l a n) w (.returned (.tuple #[.slice la l.length lc,.agg #[.int .i64 0,.string (B []),.int .i64 0,.slice none 0 0],.int .i64 E])) W9:=by
    intro E W W9 hE hz hU hU9
    have hUx:zD zC w W9:=(hU1.trans hU (fun b hb e=>by omega)).trans hU9 (fun b hb e=>by omega)
    have hS:yu l a n=l:=by unfold yu;rw[if_neg (by rw[hE];exact hz)]
    have hT:ZI l a n=Tm.zU:=by unfold ZI;rw[if_neg (by rw[hE];exact hz)]
    rw[hS,hT,hE]
    exact⟨la,lc,0,0,[],none,0,0,rfl,hlc,hL.on hUx,yH _ _ _,hUx⟩
  have WF:=yd a (by omega) w1 _ hRn
  have IT:=fun(W:World)(hu:zD zC w1 W)=>Xf a (by omega) W _ (hRn.on hu)
  have IK:=fun(W:World)(hu:zD zC w1 W)=>zA3 a (by omega) W _ (hRn.on hu)
  have SC:=fun(W:World)(hu:zD zC w1 W)=>YS a (by omega) W _ (hRn.on hu)
  have HS:=zG stay
  have HX:=zG (And.intro hzw1 (And.intro hU1 (And.intro hL h)))
  have HW1:=zG hw1
  obtain⟨ll,hll⟩:∃ q,q=l.length:=⟨_,rfl⟩
  rw[<-hll]at hlc
  rw[<-hll]
  have HLL:=zG hll
  clear stay hw1 hll hL h hRn hU1 hzw1
  obtain⟨x0,x1,x2,x3⟩:=ha1.cells
  go_enter Tryz.func34,Tryz.ntmps34
  go_upto_region 1 with fail
  rw[<-show B []={ data:=#[] }from rfl,<-HW1.out]
  go_wp2_with fail
  (with_reducible refine WF.mono ?_)
  rintro e w2 ⟨rfl,hU2⟩
  go_upto_region 2 with fail
  have ha2:=ha1.kept hU2
  have hr2:=hr1.kept hU2
  clear WF x0 x1 x2 x3
  obtain⟨x0,x1,x2,x3⟩:=ha2.cells
  have HRE:=zG (show xT l a n=_ from rfl)
  obtain⟨q,hq⟩:∃ q,q=a.wf:=⟨_,rfl⟩
  rw[<-hq]
  by_cases hq0:q=0
  case neg=>
    have hE:xT l a n=q:=by unfold xT;rw[if_pos (by rw[<-hq];exact hq0),<-hq]
    have HST:=zG (fun W9 h9=>HS.out q w2 W9 hE hq0 (hU2.mono (fun _ _ e=>e.elim)) h9)
    have hqb:(q == 0)=false:=by simpa using hq0
    have hqb2:(q !=0)=true:=by simpa using hq0
    clear hE hq hq0
    obtain⟨r0,r1,r2,r3⟩:=hr2.cells
    obtain⟨y0,y1,y2,y3⟩:=hr2.zH
    have hlt:=hr2.lt
    go_wp2_with fail
    have hset:=hr2.set (d0:=.int .i64 0) (d1:=.string (B [])) (d2:=.int .i64 0) (d3:=.slice none 0 0)
    obtain⟨w9,hw9⟩:∃ q,q=(((w2.setCell ⟨w.heap.size+1,0,none⟩ (.int .i64 0)).setCell ⟨w.heap.size+1,1,none⟩ (.string (B []))).setCell ⟨w.heap.size+1,2,none⟩ (.int .i64 0)).setCell ⟨w.heap.size+1,3,none⟩ (.slice none 0 0):=⟨_,rfl⟩
    rw[<-hw9]at hset
    rw[<-show B []={ data:=#[] }from rfl,<-hw9]
    clear hw9
    obtain⟨e0,e1,e2,e3⟩:=hset.1.cells
    refine bodyPost_ret (v:=.tuple #[.slice la ll lc,.agg #[.int .i64 0,.string (B []),.int .i64 0,.slice none 0 0],.int .i64 q]) ?_ rfl ?_
    ·simp[results,Tryz.f34,go_sem,e0,e1,e2,e3]
    ·rw[HLL.out];exact HST.out _ hset.2
  obtain rfl:q=0:=hq0
  have hwf:a.wf=0:=hq.symm
  have hsm:a.small=true:=by
    have h1:=YC (Tm.yf hwf).1
    rw[hwf]at h1
    by_cases h2:a.small=true
    ·exact h2
    ·rw[if_neg h2]at h1;exact absurd h1 (by decide)
  have IT2:=IT w2 hU2
  have hIK:=zG IK
  rw[hsm,Bool.and_true]at IT2
  clear IT
  have HWF:=zG hwf
  have HSM:=zG hsm
  obtain⟨bt,hbt⟩:∃ b,b=a.zO:=⟨_,rfl⟩
  rw[<-hbt]at IT2
  obtain⟨bb,hbb⟩:∃ b,b=(!(a.zO || a.zP)):=⟨_,rfl⟩
  have HBB:=zG hbb
  clear hwf hsm hq HRE
  go_upto_region 4 with fail
  go_cut [30]from 23 to 30 (fun v30 wx=>v30=.bool bb/\zD zC w2 wx)
  case first=>
    cases bt
    ·obtain⟨bk,hbk⟩:∃ b,b=a.zP:=⟨_,rfl⟩
     have hbq:bb=!bk:=by rw[hbb,<-hbt,hbk];rfl
     have HQ:=zG hbq
     clear hbb hbq hbt hIK
     rw[HSM.out]at IK
     simp only[Bool.and_true]at IK
     rw[<-hbk]at IK
     clear hbk
     go_wp2_with fail
     (with_reducible refine IT2.mono ?_)
     rintro e w3 ⟨rfl,hU3⟩
     have IK3:=IK w3 (hU2.and hU3)
     have ha3:=ha2.kept hU3
     clear x0 x1 x2 x3 IT2
     obtain⟨x0,x1,x2,x3⟩:=ha3.cells
     cases bk
     all_goals
       go_wp2_with fail
       (with_reducible refine IK3.mono ?_)
       rintro e w4 ⟨rfl,hU4⟩
       go_wp2_with fail
       go_meet
       case rel=>exact⟨by first |(rw[HQ.out];done)|(rw[HQ.out];rfl),hU3.and hU4⟩
    ·have hbq:bb=false:=by rw[hbb,<-hbt];rfl
     have HQ:=zG hbq
     clear hbb hbq hbt hIK IK
     go_wp2_with fail
     (with_reducible refine IT2.mono ?_)
     rintro e w3 ⟨rfl,hU3⟩
     go_wp2_with fail
     go_meet
     case rel=>exact⟨by first |(rw[HQ.out];done)|(rw[HQ.out];rfl),hU3⟩
  case rest=>
    obtain⟨rfl,hU3⟩:=hcut
    obtain⟨w3,rfl⟩:∃ q,q=wc:=⟨_,rfl⟩
    have hU13:=hU2.and hU3
    have ha3:=ha2.kept hU3
    have hr3:=hr2.kept hU3
    clear hbb hbt IT2 IK hIK x0 x1 x2 x3 ha2 hr2 hU2 hU3
    obtain⟨x0,x1,x2,x3⟩:=ha3.cells
    cases bb
    case true=>
      have hE:xT l a n=32:=by unfold xT;rw[if_neg (by rw[HWF.out];decide),if_pos (by rw[<-HBB.out])]
      have HST:=zG (fun W9 h9=>HS.out 32 w3 W9 hE (by decide) (hU13.mono (fun _ _ e=>e.elim)) h9)
      clear hE SC
      obtain⟨r0,r1,r2,r3⟩:=hr3.cells
      obtain⟨y0,y1,y2,y3⟩:=hr3.zH
      have hlt:=hr3.lt
      go_wp2_with fail
      have hset:=hr3.set (d0:=.int .i64 0) (d1:=.string (B [])) (d2:=.int .i64 0) (d3:=.slice none 0 0)
      obtain⟨w9,hw9⟩:∃ q,q=(((w3.setCell ⟨w.heap.size+1,0,none⟩ (.int .i64 0)).setCell ⟨w.heap.size+1,1,none⟩ (.string (B []))).setCell ⟨w.heap.size+1,2,none⟩ (.int .i64 0)).setCell ⟨w.heap.size+1,3,none⟩ (.slice none 0 0):=⟨_,rfl⟩
      rw[<-hw9]at hset
      rw[<-show B []={ data:=#[] }from rfl,<-hw9]
      clear hw9
      obtain⟨e0,e1,e2,e3⟩:=hset.1.cells
      refine bodyPost_ret (v:=.tuple #[.slice la ll lc,.agg #[.int .i64 0,.string (B []),.int .i64 0,.slice none 0 0],.int .i64 32]) ?_ rfl ?_
      ·simp[results,Tryz.f34,go_sem,e0,e1,e2,e3]
      ·rw[HLL.out];exact HST.out _ hset.2
    case false=>
      have SC3:=SC w3 hU13
      rw[if_pos (by rw[HWF.out];rfl)]at SC3
      obtain⟨sc,hsc⟩:∃ q,q=a.scope:=⟨_,rfl⟩
      rw[<-hsc]at SC3
      have HSC:=zG hsc
      clear hsc SC
      go_wp2_with fail
      (with_reducible refine SC3.mono ?_)
      rintro e w4 ⟨rfl,hU4⟩
      have hU14:=hU13.and hU4
      have ha4:=ha3.kept hU4
      have hr4:=hr3.kept hU4
      clear SC3 x0 x1 x2 x3 ha3 hr3 hU13 hU4
      by_cases h0:0<sc
      ·have hE:xT l a n=3:=by unfold xT;rw[if_neg (by rw[HWF.out];decide),if_neg (by rw[<-HBB.out];decide),if_pos (by rw[<-HSC.out];exact h0)]
       have HST:=zG (fun W9 h9=>HS.out 3 w4 W9 hE (by decide) (hU14.mono (fun _ _ e=>e.elim)) h9)
       clear hE
       obtain⟨r0,r1,r2,r3⟩:=hr4.cells
       obtain⟨y0,y1,y2,y3⟩:=hr4.zH
       have hlt:=hr4.lt
       go_wp2_with fail
       have hset:=hr4.set (d0:=.int .i64 0) (d1:=.string (B [])) (d2:=.int .i64 0) (d3:=.slice none 0 0)
       obtain⟨w9,hw9⟩:∃ q,q=(((w4.setCell ⟨w.heap.size+1,0,none⟩ (.int .i64 0)).setCell ⟨w.heap.size+1,1,none⟩ (.string (B []))).setCell ⟨w.heap.size+1,2,none⟩ (.int .i64 0)).setCell ⟨w.heap.size+1,3,none⟩ (.slice none 0 0):=⟨_,rfl⟩
       rw[<-hw9]at hset
       rw[<-show B []={ data:=#[] }from rfl,<-hw9]
       clear hw9
       obtain⟨e0,e1,e2,e3⟩:=hset.1.cells
       refine bodyPost_ret (v:=.tuple #[.slice la ll lc,.agg #[.int .i64 0,.string (B []),.int .i64 0,.slice none 0 0],.int .i64 3]) ?_ rfl ?_
       ·simp[results,Tryz.f34,go_sem,e0,e1,e2,e3]
       ·rw[HLL.out];exact HST.out _ hset.2
      ·have hpi:Zr a<=100000:=by
         obtain⟨_,h4096,_⟩:=Tm.Ys a HWF.out
         have:=zCo a
         omega
       have hst:a.zO=true\/a.zP=true:=by
         have h9:=HBB.out.symm
         by_cases h8:a.zO=true
         ·exact .inl h8
         ·refine .inr ?_
          simp only[Bool.not_eq_true]at h8
          rw[h8]at h9
          simpa using h9
       have PI:=fun(W:World)(hU:zD zC w1 W)=>QQ a hst hpi W _ ((zJ.weaken (O':=zC) (fun _ _ e=>e.elim) _ _ hRa1).on hU)
       obtain⟨cb,hcb⟩:∃ q,q=(decide (n<0)|| decide ((Zr a:Int)<n)):=⟨_,rfl⟩
       have HCB:=zG hcb
       have HPI:=zG hpi
       have h0b:¬0<sc:=h0
       obtain⟨pn,hpn⟩:∃ q,q=(Zr a:Int):=⟨_,rfl⟩
       rw[<-hpn]at PI hcb
       have hpnb:0<=pn/\pn<=100000:=by omega
       obtain⟨hpn0,hpn1⟩:=hpnb
       have HPN:=zG hpn
       have HSTT:=zG hst
       clear hpi hpn hst
       go_upto_region 8 with fail
       go_cut [45]from 38 to 45 (fun v45 wx=>v45=.bool cb/\zD zC w4 wx)
       case first=>
         have hways:(n<0/\cb=true)\/(¬n<0/\pn<n/\cb=true)\/(¬n<0/\¬pn<n/\cb=false):=by
           by_cases h1:n<0
           ·exact .inl ⟨h1,by rw[hcb];simp[h1]⟩
           ·by_cases h2:pn<n
            ·exact .inr (.inl ⟨h1,h2,by rw[hcb];simp[h2]⟩)
            ·exact .inr (.inr ⟨h1,h2,by rw[hcb];simp[h1,h2]⟩)
         clear hcb
         obtain⟨x0,x1,x2,x3⟩:=ha4.cells
         have PI4:=PI w4 hU14
         rcases hways with⟨h1,hc⟩|⟨h1,h2,hc⟩|⟨h1,h2,hc⟩
         ·have HC:=zG hc
          clear hc
          go_wp2_with fail
          go_meet
          case rel=>exact⟨by rw[HC.out],zD.refl _ _⟩
         all_goals
           have HC:=zG hc
           clear hc
           go_wp2_with fail
           (with_reducible refine PI4.mono ?_)
           rintro e w5 ⟨rfl,hU5⟩
           go_wp2_with fail
           go_meet
           case rel=>exact⟨by first |(rw[HC.out];done)|(rw[HC.out,decide_eq_false (by omega)]),hU5⟩
       case rest=>
         obtain⟨rfl,hU5⟩:=hcut
         obtain⟨w5,rfl⟩:∃ q,q=wc:=⟨_,rfl⟩
         have hU15:=hU14.and hU5
         have ha5:=ha4.kept hU5
         have hr5:=hr4.kept hU5
         clear hcb PI hU5 ha4 hr4
         cases cb
         case true=>
           have hE:xT l a n=33:=by
             unfold xT
             rw[if_neg (by rw[HWF.out];decide),if_neg (by rw[<-HBB.out];decide),if_neg (by rw[<-HSC.out];omega),if_pos]
             have:=HCB.out
             simpa using this.symm
           have HST:=zG (fun W9 h9=>HS.out 33 w5 W9 hE (by decide) (hU15.mono (fun _ _ e=>e.elim)) h9)
           clear hE
           obtain⟨r0,r1,r2,r3⟩:=hr5.cells
           obtain⟨y0,y1,y2,y3⟩:=hr5.zH
           have hlt:=hr5.lt
           go_wp2_with fail
           have hset:=hr5.set (d0:=.int .i64 0) (d1:=.string (B [])) (d2:=.int .i64 0) (d3:=.slice none 0 0)
           obtain⟨w9,hw9⟩:∃ q,q=(((w5.setCell ⟨w.heap.size+1,0,none⟩ (.int .i64 0)).setCell ⟨w.heap.size+1,1,none⟩ (.string (B []))).setCell ⟨w.heap.size+1,2,none⟩ (.int .i64 0)).setCell ⟨w.heap.size+1,3,none⟩ (.slice none 0 0):=⟨_,rfl⟩
           rw[<-hw9]at hset
           rw[<-show B []={ data:=#[] }from rfl,<-hw9]
           clear hw9
           obtain⟨e0,e1,e2,e3⟩:=hset.1.cells
           refine bodyPost_ret (v:=.tuple #[.slice la ll lc,.agg #[.int .i64 0,.string (B []),.int .i64 0,.slice none 0 0],.int .i64 33]) ?_ rfl ?_
           ·simp[results,Tryz.f34,go_sem,e0,e1,e2,e3]
           ·rw[HLL.out];exact HST.out _ hset.2
         case false=>
           have hnn:¬n<0/\¬(Zr a:Int)<n:=by have:=HCB.out;simpa using this.symm
           obtain⟨m,rfl⟩:∃ m:Nat,n=(m:Int):=⟨n.toNat,by omega⟩
           have hmp:m<=Zr a:=by omega
           have hEr:∀ E,(yt l a m).1=E->xT l a m=E:=by
             intro E he
             unfold xT
             rw[if_neg (by rw[HWF.out];decide),if_neg (by rw[<-HBB.out];decide),if_neg (by rw[<-HSC.out];omega),if_neg (by omega),<-he]
             rfl
           have hls:Tm.lt 0 a:=(Tm.xo _ (by omega)).2 (by have:=HSC.out;omega)
           have hfz:=zGy l.length a 0 (by omega) hls
           have INV:=fun i hi he=>zGr (l:=l) HSTT.out hls i hi he
           have hm100:m<=100:=by omega
           have hwf5:=Tm.Ys a HWF.out
           have HM:=zG (And.intro hmp (And.intro hEr hwf5))
           obtain⟨X,hX⟩:∃ X,X=w.heap.size:=⟨_,rfl⟩
           obtain⟨R,hR⟩:∃ X,X=w.heap.size+1:=⟨_,rfl⟩
           have hz5:=hU15.size
           have hT5:=hRa1.on hU15
           have hL5:=hL1.on hU15
           have hU5x:=hU15.mono (S':=fun y=>y=X) (fun _ _ e=>e.elim)
           have HS':=HS.out
           have hz1:=HX.out.1
           have hXX:=hX
           rw[<-hR]at hr5 hT5 hL5 HS'
           rw[<-hX]at ha5 hT5 hL5 HS'
           rw[<-hR,<-hX]
           have HS2:=zG HS'
           have HXR:=zG (And.intro hX hR)
           clear hnn hmp hEr hls hn0 hn1 hwf5 hX hR HS' ha1 hr1 hRa1 hL1 hU14 hU15 HS hXX
           go_wp2_with fail
           go_loopw [10,11] (fun v10 v11 wr=>∃(j:Nat)(L:List Mv)(A:Tm)(k' i':Int)(n':List UInt8)(a':Option Addr)(s' c':Nat)(va:Option Addr)(vc:Nat),v11=.int .i64 (j:Int)/\j<=m/\yt l a j=(0,L,A)/\v10=.slice va L.length vc/\L.length<=vc/\
               zF (fun y=>y=X\/y=R) wr 6 (L.map Mv.zM) va 0/\zI wr X (.int .i64 k') (.string (B n')) (.int .i64 i') (.slice a' s' c') 29/\zJ (fun y=>y=X\/y=R) wr (Zx l.length j 0 A).zM [.int .i64 k',.string (B n'),.int .i64 i',.slice a' s' c']/\
               zI wr R (.int .i64 0) (.string (B [])) (.int .i64 0) (.slice none 0 0) 29/\zD (fun y=>y=X) w1 wr)
             (fun _ v11 _=>m - (intOf v11).toNat)
           case atStart=>exact⟨0,l,a,k,i,nm,aa,len,cap,la,lc,rfl,Nat.zero_le _,rfl,by rw[HLL.out],by rw[<-HLL.out];exact hlc,hL5,ha5,by rw[Int.natCast_zero,hfz];exact hT5,hr5,hU5x⟩
           case round=>
             clear hL5 ha5 hT5 hr5 hU5x hfz
             obtain⟨j,L,A,k',i',n',a',s',c',va,vc,rfl,hjm,hrf,rfl,hLc,hE,hB,hR,hr,hU⟩:=hrel
             have I:=INV j (by have:=HM.out.1;omega) (by rw[hrf])
             obtain⟨I1,I2,I3,I4,I5,I6⟩:=I
             rw[hrf]at I1 I2 I3 I4
             simp only at I1 I2 I3 I4
             have hji:(j:Int)<=100:=by omega
             have hj0:(0:Int)<=(j:Int):=by omega
             have hmi:(m:Int)<=100:=by omega
             have hok5:=HM.out.2.2
             obtain⟨x0,x1,x2,x3⟩:=hB.cells
             have hXl:=hB.lt
             have hRl:=hr.lt
             have hszA:A.size<=4096:=by have:=hok5.2.1;omega
             by_cases hlt:j<m
             ·obtain⟨pn',ix,d,b,rfl,hd,hb2,hpb⟩:=Y0 I1 (m:=0) (by have:=HM.out.1;omega)
              rw[zJa]at hR
              obtain⟨a5,c5,e5,hc5,hE5⟩:=zd.1 hR
              simp only[List.cons.injEq,Value.int.injEq,Value.string.injEq,Value.slice.injEq,true_and,and_true]at e5
              obtain⟨eb,eo,kd,nd,xd,sd,cd,he1,hebl,heb0,p0,p1,p2,p3,hRd⟩:=zf hE5 0 (by simp)
              subst he1
              obtain⟨eb2,eo2,kb,nb,xb,sb,cb,he2,_,_,r0,r1,r2,r3,hRb⟩:=zf hE5 1 (by simp)
              cases he2
              obtain⟨rfl,hnn,rfl,rfl,rfl,rfl⟩:=e5
              rw[hnn]at x1 hB
              simp only[List.getElem_cons_succ,List.getElem_cons_zero]at p3 hRd r3 hRb
              simp only[Nat.zero_mul,Nat.add_zero,Nat.one_mul]at p0 p1 p2 p3 r0 r1 r2 r3
              have hl2':[Zx (↑l.length) (↑j) 0 d,Zx (↑l.length) (↑j) (0+1) b].length=2:=rfl
              rw[hl2']at x3 hB
              have hlt':(j:Int)<(m:Int):=by omega
              obtain⟨q,hq⟩:∃ q,q=y9 pn':=⟨_,rfl⟩
              have hqw:q.length<=1000000:=by
                rw[hq]
                have h9:=I4.1
                rw[Tm.yM]at h9
                unfold y9
                split
                ·simp
                ·omega
              have hdw:d.wt<=290000/\b.size<=4096:=by
                have h9:=I4.1
                rw[Tm.yM,Tm.yp,Tm.yp]at h9
                rw[Tm.zW,Tm.zN,Tm.zN,Tm.zN]at hszA
                exact⟨by omega,by omega⟩
              have hbok:∀ c,∀ x∈b.nodes c,x.k=5->0<=x.i/\x.i<=1048576:=fun c x hx e=>by
                rcases hb2 with h9 |h9
                ·exact(Tm.qf b h9 c x hx).1 (by simp[e])
                ·exact(Tm.zEQ b h9 c x hx).1 (by simp[e])
              have MFF:=fun(jj:Int)(W:World)(hW:zD zC wr W)=>zDk jj (Zx l.length j (0+1) b) (by unfold Zx;rw[Qn];omega) (zIE hbok) 0 W _ (by omega) (by unfold Zx;rw[Qn];omega) ((zJ.weaken (O':=zC) (fun _ _ e=>e.elim) _ _ hRb).on hW)
              have hmf:chT (X1 ((l.length:Int)+(j:Int))) 0 (Zx l.length j (0+1) b)=Zx l.length ((j+1:Nat):Int) 0 b:=by
                rw[Int.natCast_add,Int.natCast_one]
                exact zHq (l.length:Int) (j:Int) 0 b
              obtain⟨f,hf⟩:∃ q,q=Zx l.length j 0 d:=⟨_,rfl⟩
              have hfw:f.wt<=300000:=by rw[hf];unfold Zx;rw[qw];omega
              rw[<-hf]at hRd p3
              have NW:=QL (fun y=>y=X\/y=R) L (by omega) q hqw f (by omega) wr (fun b e=>by rcases e with e |e<;>omega) va vc hLc _ hE hRd
              have hst:=Zh l a j
              rw[hrf,if_neg (by simp)]at hst
              simp only at hst
              have hn0:ZW (Tm.mk 2 pn' i' [d,b]) 0=d:=rfl
              have hn1:ZW (Tm.mk 2 pn' i' [d,b]) 1=b:=rfl
              have hnm:(Tm.mk 2 pn' i' [d,b]).name=pn':=rfl
              rw[hn0,hn1,hnm,<-hq,<-hf]at hst
              obtain⟨nl,hnl⟩:∃ z,z=ZU L q f:=⟨_,rfl⟩
              obtain⟨ni,hni⟩:∃ z,z=zAv L q f:=⟨_,rfl⟩
              obtain⟨ce,hce⟩:∃ z,z=yP L.length q f:=⟨_,rfl⟩
              have hnie:ce=0->ni=(l.length:Int)+(j:Int):=by
                intro hz
                rw[hni];unfold zAv
                rw[if_neg (by rw[<-hce,hz];simp),I3]
                simp
              simp only[<-hnl,<-hni,<-hce]at NW
              rw[<-hnl,<-hce]at hst
              have HST:=zG hst
              have HQ:=zG hq
              have HMF:=zG hmf
              have HNI:=zG hnie
              have HMFF:=zG MFF
              clear MFF hst hnl hni hce hf hq hn0 hn1 hnm hdw hfw hqw hRd hE5 hE hnn I1 I2 I3 I4 I5 I6 hpb hd hszA hok5 hb2 hbok hnie hmf hR
              generalize hLL:L.length=Ll at *
              generalize hff:(Zx (↑l.length) (↑j) (0+1) b).args.length=bl at *
              obtain⟨cn,hcn⟩:∃ c,c=(pn' == [95]):=⟨_,rfl⟩
              have hcn':=hcn.symm
              clear hcn
              go_upto_if 57 with fail
              go_cut [12]from 56 to 57 (fun v12 wx=>v12=.string (B q)/\wx=wr)
              case first=>
                cases cn
                ·have hq2:q=pn':=by
                   rw[HQ.out];unfold y9
                   rw[if_neg (by simpa using hcn')]
                 go_wp2_with fail
                 go_meet
                 case rel=>exact⟨by rw[hq2],by first |rfl |trivial⟩
                ·have hq2:q=[]:=by
                   rw[HQ.out];unfold y9
                   rw[if_pos (by simpa using hcn')]
                 go_wp2_with fail
                 go_meet
                 case rel=>exact⟨by rw[hq2],by first |rfl |trivial⟩
              case rest=>
                obtain⟨rfl,hwx⟩:=hcut
                obtain rfl:wr=wc:=hwx.symm
                clear hcn'
                go_wp2_with fail
                (with_reducible refine NW.mono ?_)
                rintro e w6 ⟨va6,vc6,rfl,hvc6,hE6,hU6⟩
                have hB6:=hB.kept hU6
                have hr6:=hr.kept hU6
                have hU16:zD (fun y=>y=X) w1 w6:=hU.trans hU6 (fun _ _ e=>e.elim)
                clear NW hr hB x0 x1 x2 x3 p0 p1 p2 p3
                by_cases hz:ce=0
                ·have hni:=HNI.out hz
                 have MF:=HMFF.out ni w6 hU6
                 have hstE:yt l a (j+1)=(0,nl,b):=by rw[HST.out,if_neg (by simp[hz])]
                 have HN:=zG (And.intro hstE hni)
                 have s0:=hU6.cell r0 (fun x=>x)
                 have s1:=hU6.cell r1 (fun x=>x)
                 have s2:=hU6.cell r2 (fun x=>x)
                 have s3:=hU6.cell r3 (fun x=>x)
                 have hzz:=hU6.size
                 clear hstE hni r0 r1 r2 r3
                 subst hz
                 obtain⟨x0,x1,x2,x3⟩:=hB6.cells
                 go_wp2_with fail
                 (with_reducible refine MF.mono ?_)
                 rintro e w7 ⟨k7,i7,n7,a7,l7,c7,rfl,hR7,hU7⟩
                 have hB7:=hB6.kept hU7
                 have hr7:=hr6.kept hU7
                 have hU17:=hU16.trans hU7 (fun _ _ e=>e.elim)
                 have hR7':=zJ.weaken (O':=fun y=>y=X\/y=R) (fun b _ e=>by rcases e with e |e<;>omega) _ _ hR7
                 rw[HN.out.2,HMF.out]at hR7'
                 have hE7:=hE6.on hU7
                 clear MF x0 x1 x2 x3 s0 s1 s2 s3 hR7 hB6 hr6 hE6
                 obtain⟨f0,f1,f2,f3⟩:=hB7.zH
                 obtain⟨x0,x1,x2,x3⟩:=hB7.cells
                 have hlt7:=hB7.lt
                 go_wp2_with fail
                 have hset:=hB7.set (d0:=.int .i64 k7) (d1:=.string (B n7)) (d2:=.int .i64 i7) (d3:=.slice a7 l7 c7)
                 go_roundw
                 case rel=>exact⟨j+1,nl,b,k7,i7,n7,a7,l7,c7,va6,vc6,by go_num,by omega,HN.out.1,rfl,hvc6,zF.zE hset.2 (fun _ e=>.inl e) _ _ _ _ hE7,hset.1,zJ.zE hset.2 (fun _ e=>.inl e) _ _ hR7',hr7.zE hset.2 (by have:=HXR.out;omega),hU17.trans hset.2 (fun _ _ e=>e)⟩
                 case measure=>simp[intOf];omega
                ·have hstE:(yt l a (j+1)).1=ce:=by rw[HST.out,if_pos hz]
                 have hstop:=zAI l a (i:=j+1) (by rw[hstE];exact hz) (m - (j+1))
                 rw[show j+1+(m - (j+1))=m by omega]at hstop
                 have hE2:xT l a m=ce:=HM.out.2.1 ce (by rw[hstop,hstE])
                 have HSQ:=zG (fun W9 h9=>HS2.out ce w6 W9 hE2 hz hU16 h9)
                 have hzb:(ce !=0)=true:=by simpa using hz
                 clear hstE hstop hE2 hz
                 obtain⟨r0,r1,r2,r3⟩:=hr6.cells
                 obtain⟨y0,y1,y2,y3⟩:=hr6.zH
                 have hlt:=hr6.lt
                 go_wp2_with fail
                 have hset:=hr6.set (d0:=.int .i64 0) (d1:=.string (B [])) (d2:=.int .i64 0) (d3:=.slice none 0 0)
                 obtain⟨w9,hw9⟩:∃ q,q=(((w6.setCell ⟨R,0,none⟩ (.int .i64 0)).setCell ⟨R,1,none⟩ (.string (B []))).setCell ⟨R,2,none⟩ (.int .i64 0)).setCell ⟨R,3,none⟩ (.slice none 0 0):=⟨_,rfl⟩
                 rw[<-hw9]at hset
                 rw[<-show B []={ data:=#[] }from rfl,<-hw9]
                 clear hw9
                 obtain⟨e0,e1,e2,e3⟩:=hset.1.cells
                 refine bodyPost_ret (v:=.tuple #[.slice la ll lc,.agg #[.int .i64 0,.string (B []),.int .i64 0,.slice none 0 0],.int .i64 ce]) ?_ rfl ?_
                 ·simp[results,Tryz.f34,go_sem,e0,e1,e2,e3]
                 ·rw[HLL.out];exact HSQ.out _ hset.2
             ·obtain rfl:j=m:=by omega
              have hE0:xT l a j=0:=HM.out.2.1 0 (by rw[hrf])
              have hS0:yu l a j=L:=by unfold yu;rw[if_pos hE0,Int.toNat_natCast,hrf]
              have hT0:ZI l a j=Zx l.length j 0 A:=by unfold ZI;rw[if_pos hE0,Int.toNat_natCast,hrf]
              have hd:zD zC wr wr.drew:=(zD.refl zC _).drew
              have hjn:¬(j:Int)<(j:Int):=by omega
              rw[<-hT0]at hR
              have HZ:=zG (And.intro hE0 (And.intro hS0 (And.intro hE (And.intro hR (And.intro hU hLc)))))
              have hrd:=hr.kept hd
              have hBd:=hB.kept hd
              clear hE0 hS0 hT0 hE hR hU hLc I1 I2 I3 I4 I5 I6 hrf hok5 hlt
              obtain⟨r0,r1,r2,r3⟩:=hr.cells
              obtain⟨y0,y1,y2,y3⟩:=hr.zH
              obtain⟨u0,u1,u2,u3⟩:=hrd.cells
              obtain⟨z0,z1,z2,z3⟩:=hrd.zH
              obtain⟨v0,v1,v2,v3⟩:=hBd.cells
              have hrdl:=hrd.lt
              obtain⟨Ll,hLL⟩:∃ z,z=L.length:=⟨_,rfl⟩
              rw[<-hLL]
              have HLl:=zG hLL
              clear hLL
              go_upto_region 22 with fail
              go_region_law fail
              all_goals
                clear u0 u1 u2 u3 z0 z1 z2 z3 v0 v1 v2 v3
                go_wp2_with fail
                have hset:=hr.set (d0:=.int .i64 k') (d1:=.string (B n')) (d2:=.int .i64 i') (d3:=.slice a' s' c')
                obtain⟨w10,hw10⟩:∃ q,q=(((wr.setCell ⟨R,0,none⟩ (.int .i64 k')).setCell ⟨R,1,none⟩ (.string (B n'))).setCell ⟨R,2,none⟩ (.int .i64 i')).setCell ⟨R,3,none⟩ (.slice a' s' c'):=⟨_,rfl⟩
                rw[<-hw10]at hset
                rw[<-hw10]
                clear hw10
                have hdd:zD zC w10 w10.drew:=(zD.refl zC _).drew
                obtain⟨e0,e1,e2,e3⟩:=(hset.1.kept hdd).cells
                have hUR:=hset.2.trans hdd (fun _ _ e=>e.elim)
                refine bodyPost_ret (v:=.tuple #[.slice va Ll vc,.agg #[.int .i64 k',.string (B n'),.int .i64 i',.slice a' s' c'],.int .i64 0]) ?_ rfl ?_
                ·simp[results,Tryz.f34,go_sem,e0,e1,e2,e3]
                ·obtain⟨h1,h2,h3,h4,h5,h6⟩:=HZ.out
                 refine⟨va,vc,k',i',n',a',s',c',by rw[h1,h2,HLl.out],by rw[h2];exact h6,?_,?_,?_⟩
                 ·rw[h2]
                  exact zF.weaken (fun _ _ e=>e.elim) _ _ _ _ (zF.zE hUR (fun b e=>.inr e) _ _ _ _ h3)
                 ·exact zJ.weaken (fun _ _ e=>e.elim) _ _ (zJ.zE hUR (fun b e=>.inr e) _ _ h4)
                 ·exact(HX.out.2.1.trans h5 (fun b hb e=>by have:=HXR.out;omega)).trans hUR (fun b hb e=>by have:=HXR.out;omega)
end
end Go.Proofs.YthgmimncdjhgnaaGreatDoor
