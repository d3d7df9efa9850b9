/- AbstractRefills: its walk. -/
import Derived.Test.YthgmimncdjhgnaaGreatDoorYDF
import Derived.Test.YthgmimncdjhgnaaGreatDoorYFD
import Derived.Test.YthgmimncdjhgnaaGreatDoorYFS
import Derived.Test.YthgmimncdjhgnaaGreatDoorYFW
import Derived.Test.YthgmimncdjhgnaaGreatDoorYFX
import Derived.Test.YthgmimncdjhgnaaGreatDoorYFY
import Derived.Deep.CutRange
set_option maxRecDepth 100000
set_option maxHeartbeats 16000000
namespace Go.Proofs.YthgmimncdjhgnaaGreatDoor
open Go.RowKit Go.LF
theorem zKC(c:Int)(h0:0<=c)(h1:c<9):∃ v:Nat,v<=1/\c.tdiv 8=(v:Int):=by
  rw[Int.tdiv_eq_ediv_of_nonneg h0]
  exact⟨(c / 8).toNat,by omega,by omega⟩
theorem Yw(l0:List Int)(a0:Option Addr)(len0 cap0:Nat)(hl0:l0.length=len0)(hlen0:len0<=17592186044416)(m0:List Int)(b0:Option Addr)(len1 cap1:Nat)(hl1:m0.length=len1)(hlen1:len1<=17592186044416)(k0 k1 k2 k3:Int)(w:World)(hE0:zF zC w 1 (l0.map (xM.int .i64)) a0 0)(hE1:zF zC w 1 (m0.map (xM.int .i64)) b0 0)(hN:Y7 w):
    Calls Tryz.prog 5 #[.slice a0 len0 cap0,.slice b0 len1 cap1,.agg #[.int .i64 k0,.int .i64 k1,.int .i64 k2,.int .i64 k3]] w fun e w'=>e=.returned (.bool true)/\zD zC w w':=by
  obtain⟨wa,hwa⟩:∃ wa,wa=w.alloc (.cells #[.int .i64 k0,.int .i64 k1,.int .i64 k2,.int .i64 k3] 54):=⟨_,rfl⟩
  have hUa:zD zC w wa:=by rw[hwa];exact(zD.refl zC w).alloc _
  have hka:zI wa w.heap.size (.int .i64 k0) (.int .i64 k1) (.int .i64 k2) (.int .i64 k3) 54:=by rw[hwa];exact zI.zK rfl
  have hza:wa.heap.size=w.heap.size+1:=by rw[hwa];simp
  obtain⟨w1,hw1⟩:∃ w1,w1=wa.alloc (.cells #[.slice a0 len0 cap0,.int .i64 0] 45):=⟨_,rfl⟩
  have hU1:zD zC w w1:=by rw[hw1];exact hUa.alloc _
  have hT1:zo w1 wa.heap.size:=by
    rw[hw1]
    exact zDm (w:=wa) (cap:=cap0) (U:=45) hl0 hlen0 (hE0.on hUa)
  have hK1:zZ wa.heap.size w1:=hN.ok hU1 (by omega)
  have hk1:zI w1 w.heap.size (.int .i64 k0) (.int .i64 k1) (.int .i64 k2) (.int .i64 k3) 54:=by rw[hw1];exact hka.kept ((zD.refl zC _).alloc _)
  rw[hza]at hT1 hK1
  have hzz1:w1.heap.size=w.heap.size+1+1:=by rw[hw1];simp[hza]
  have ST:=zCz _ w1 hT1 hK1
  have hw1':w1=(w.alloc (.cells #[.int .i64 k0,.int .i64 k1,.int .i64 k2,.int .i64 k3] 54)).alloc (.cells #[.slice a0 len0 cap0,.int .i64 0] 45):=by rw[hw1,hwa]
  have HW1:=zG hw1'
  have hT2:=fun(W:World)(hU:zD zC w W)=>zDm (cap:=cap1) (U:=45) hl1 hlen1 (hE1.on hU)
  have hK2:=fun(W:World)(hU:zD zC w W)=>hN.ok (hU.alloc (.cells #[.slice b0 len1 cap1,.int .i64 0] 45)) hU.size
  clear hwa hw1 hw1' hT1 hK1 hka hUa hza
  go_enter Tryz.func5,Tryz.ntmps5
  go_upto_region 1 with fail
  go_wp2_with fail
  rw[<-HW1.out]
  (with_reducible refine ST.mono ?_)
  rintro e w2 ⟨L,va,vc,rfl,hP,hSh,hL6,hLc,hL,_,_,hU2⟩
  have hk2:=hk1.zE hU2 (by simp only[yJ];omega)
  have hUw2:zD zC w w2:=hU1.trans hU2 (fun b hb e=>by simp only[yJ]at e;omega)
  have hL2:=zF.weaken (O':=zC) (fun _ _ e=>e.elim) _ _ _ _ hL
  have hb0:=zBk k0 9 (by omega)
  have K0:=fun W=>zBy k0 9 (by omega) (by omega) W
  obtain⟨v,hv1,hv⟩:=zKC (zBj k0 9) hb0.1 hb0.2
  have TA:∀ T W,zo W T->zZ T W->Calls Tryz.prog 24 #[.pointer (some ⟨T,0,none⟩),.int .i64 4,.int .i64 (v:Int),.int .i64 0] W (zEg W.heap.size (2 ^ 5+2) v 0 T W):=fun T W h h'=>zDe 3 (by omega) v 0 (by omega) (by omega) T W h h'
  have AN:=TA w2.heap.size _ (hT2 w2 hUw2) (hK2 w2 hUw2)
  obtain⟨q0,q1,q2,q3⟩:=(hk2.kept ((zD.refl zC w2).alloc (.cells #[.slice b0 len1 cap1,.int .i64 0] 45))).cells
  obtain⟨Ll,hLl⟩:∃ k,k=L.length:=⟨_,rfl⟩
  rw[<-hLl]
  have HLl:=zG hLl
  clear hLl ST TA hT2 hK2 hE0 hE1 hl0 hl1 hk1 hL
  go_upto_region 2 with fail
  go_wp2_with (first |((go_at_call 25);(with_reducible refine(K0 _).mono ?_);rintro e w7 ⟨rfl,rfl⟩))
  (with_reducible refine AN.mono ?_)
  rintro e w4 ⟨k4,i4,nm4,a4,zG7,cap4,t,rfl,hR4,hF4,_,_,hU4⟩
  have hU4':zD zC w2 w4:=((zD.refl zC w2).alloc _).trans hU4 (fun b hb e=>by simp only[yJ]at e;omega)
  have hwt:t.wt<=180:=by have:=hF4.wt;omega
  have hk4:=hk2.kept hU4'
  have hL4:=hL2.on hU4'
  have hUw4:=hUw2.and hU4'
  obtain⟨w5,hw5⟩:∃ w5,w5=w4.alloc (.cells #[.int .i64 k4,.string (B nm4),.int .i64 i4,.slice a4 zG7 cap4] 29):=⟨_,rfl⟩
  have hUb:zD zC w4 w5:=by rw[hw5];exact(zD.refl zC w4).alloc _
  have ht5:zI w5 w4.heap.size (.int .i64 k4) (.string (B nm4)) (.int .i64 i4) (.slice a4 zG7 cap4) 29:=by rw[hw5];exact zI.zK rfl
  have hR5:zJ (fun b=>b=w4.heap.size) w5 t.zM [.int .i64 k4,.string (B nm4),.int .i64 i4,.slice a4 zG7 cap4]:=(zJ.weaken (fun b _ e=>.inr (Nat.le_of_eq e.symm)) _ _ (zJ.zT _ _ (zJ.weaken (O':=zC) (fun _ _ e=>e.elim) _ _ hR4))).on hUb
  have hL5:zF (fun b=>b=w4.heap.size) w5 6 (L.map Mv.zM) va 0:=(zF.weaken (fun b _ e=>.inr (Nat.le_of_eq e.symm)) _ _ _ _ (zF.zT _ _ _ _ hL4)).on hUb
  have hk5:=hk4.kept hUb
  have hUw5:=hUw4.and hUb
  have hkP:w.heap.size<w4.heap.size:=hk4.lt
  obtain⟨P,hPP⟩:∃ P,P=w4.heap.size:=⟨_,rfl⟩
  obtain⟨N,hNN⟩:∃ P,P=w.heap.size:=⟨_,rfl⟩
  rw[<-hPP]at ht5 hR5 hL5 hkP
  rw[<-hNN]at hk5 hkP
  have HP:=zG (And.intro hPP hNN)
  have HW5:=zG hw5
  clear hw5 hUb hR4 hU4 hU4' hF4 hUw4 hk4 hL4 hk2 hL2 hU2 hUw2 hPP hNN AN K0 hb0 hv q0 q1 q2 q3 hU1
  go_upto_region 3 with fail
  rw[<-HW5.out,<-HP.out.1,<-HP.out.2]
  have K1:=fun W=>zBy k1 9 (by omega) (by omega) W
  generalize zBj k1 9=c1 at *
  obtain⟨q0,q1,q2,q3⟩:=hk5.cells
  go_cut [31]from 28 to 31 (fun v31 wx=>v31=.bool (c1 == 0)/\w5=wx)
  case first=>
    go_wp2_with (first |((go_at_call 25);(with_reducible refine(K1 _).mono ?_);rintro e w7 ⟨rfl,rfl⟩))
    go_meet
    case rel=>exact⟨rfl,rfl⟩
  case rest=>
    obtain⟨rfl,rfl⟩:=hcut
    generalize (c1 == 0)=c at *
    go_upto_if 31 with fail
    go_cut []from 32 to 37 (fun wc=>∃(k i:Int)(nm:List UInt8)(a:Option Addr)(len cap:Nat)(t:Tm),zI wc P (.int .i64 k) (.string (B nm)) (.int .i64 i) (.slice a len cap) 29/\zJ zC wc t.zM [.int .i64 k,.string (B nm),.int .i64 i,.slice a len cap]/\t.wt<=200/\
      zI wc N (.int .i64 k0) (.int .i64 k1) (.int .i64 k2) (.int .i64 k3) 54/\zF zC wc 6 (L.map Mv.zM) va 0/\zD zC w wc)
    case first=>
      cases c
      ·go_wp2_with fail
       go_meet
       case rel=>exact⟨_,_,_,_,_,_,t,ht5,xF hR5,by omega,hk5,zF.weaken (fun _ _ e=>e.elim) _ _ _ _ hL5,hUw5⟩
      ·obtain⟨x0,x1,x2,x3⟩:=ht5.cells
       have SP:=fun y z=>zGO t (by omega) (fun b=>b=P) y z w5 _ hR5
       go_wp2_with (first |((go_at_call 29);(with_reducible refine(SP _ _).mono ?_);rintro e w8 ⟨k8,i8,n8,a8,len8,cap8,t8,rfl,hR8,hwt8,hU8⟩;have ht8:=ht5.kept hU8;have hlt8:=ht5.lt;obtain⟨y4,y5,y6,y7⟩:=ht8.cells;obtain⟨y0,y1,y2,y3⟩:=ht8.zH))
       go_meet
       case rel=>
         have hset:=ht8.set (d0:=.int .i64 k8) (d1:=.string (B n8)) (d2:=.int .i64 i8) (d3:=.slice a8 len8 cap8)
         exact⟨_,_,_,_,_,_,t8,hset.1,xF (zJ.zE hset.2 (fun b e=>⟨e,by omega⟩) _ _ hR8),by omega,(hk5.kept hU8).zE hset.2 (by omega),zF.weaken (fun _ _ e=>e.elim) _ _ _ _ (zF.zE hset.2 (fun b e=>e) _ _ _ _ (hL5.on hU8)),(hUw5.and hU8).trans hset.2 (fun b hb e=>by have:=HP.out.2;omega)⟩
    case rest=>
      obtain⟨k6,i6,nm6,a6,len6,cap6,u,hB6,hR6,hwu,hk6,hL6',hU6⟩:=hcut
      obtain⟨w6,rfl⟩:∃ q,q=wc:=⟨wc,rfl⟩
      clear ht5 hR5 hL5 hk5 q0 q1 q2 q3 hUw5 K1
      have hb2:=zBk k3 6 (by omega)
      have K3:=fun W=>zBy k3 6 (by omega) (by omega) W
      obtain⟨q0,q1,q2,q3⟩:=hk6.cells
      obtain⟨x0,x1,x2,x3⟩:=hB6.cells
      generalize zBj k3 6=c3 at *
      obtain⟨hc30,hc31⟩:=hb2
      have hnb: -5<=c3 - 1/\c3 - 1<=100:=by omega
      have R1:=zAR L hP.zIB (by omega) u (by omega) (c3 - 1) hnb.1 hnb.2 w6 va vc _ hL6' hR6
      have R2:=fun(W:World)(h:zD zC w6 W)=>zA4 L (by omega) u (by omega) (c3 - 1) hnb.1 hnb.2 W va vc hLc _ (hL6'.on h) (hR6.on h)
      have SZ:=zEI L u (c3 - 1)
      have SO:=zHC hP.zIB (a:=u) (by omega) (c3 - 1) (by omega)
      have huz:=Tm.zc u
      rw[<-HLl.out]at R1 R2
      have S1:=fun W cs ds h h'=>Zz (ZI L u (c3 - 1)) (by omega) (ZI L u (c3 - 1)) W cs ds h h'
      rw[Tm.qu]at S1
      have S2:=fun W a a2 c c2 h h'=>Q9 (yu L u (c3 - 1)) SO W a a2 c c2 h h'
      generalize ZI L u (c3 - 1)=X at *
      generalize yu L u (c3 - 1)=Y at *
      generalize xT L u (c3 - 1)=ee at *
      have hee:(ee == ee)=true:=by simp
      clear SZ SO huz hwu hSh hP hL6 hLc hnb hR6 hL6'
      go_wp2_with (first |((go_at_call 25);(with_reducible refine(K3 _).mono ?_);rintro e w7 ⟨rfl,rfl⟩))
      (with_reducible refine R1.mono ?_)
      rintro e w7 ⟨va7,vc7,k7,i7,n7,a7,l7,c7,rfl,_,hE7,hR7,hU7⟩
      obtain⟨w8,hw8⟩:∃ w8,w8=w7.alloc (.cells #[.int .i64 k7,.string (B n7),.int .i64 i7,.slice a7 l7 c7] 29):=⟨_,rfl⟩
      have hUc:zD zC w7 w8:=by rw[hw8];exact(zD.refl zC w7).alloc _
      have hb8:zI w8 w7.heap.size (.int .i64 k7) (.string (B n7)) (.int .i64 i7) (.slice a7 l7 c7) 29:=by rw[hw8];exact zI.zK rfl
      have hU68:=hU7.and hUc
      have hE8:=hE7.on hUc
      have hR8:=hR7.on hUc
      have hB8:=hB6.kept hU68
      have R2w:=R2 w8 hU68
      have HW8:=zG hw8
      obtain⟨Q,hQ⟩:∃ Q,Q=w7.heap.size:=⟨_,rfl⟩
      rw[<-hQ]at hb8
      have HQ:=zG hQ
      clear hw8 hQ R1 R2 K3 q0 q1 q2 q3 x0 x1 x2 x3 hE7 hR7 hU7 hUc hB6 hk6
      obtain⟨x0,x1,x2,x3⟩:=hB8.cells
      go_upto_region 7 with fail
      rw[<-HQ.out,<-HW8.out]
      go_wp2_with fail
      (with_reducible refine R2w.mono ?_)
      rintro e w9 ⟨va9,vc9,k9,i9,n9,a9,l9,c9,rfl,_,hE9,hR9,hU9⟩
      obtain⟨w10,hw10⟩:∃ w10,w10=w9.alloc (.cells #[.int .i64 k9,.string (B n9),.int .i64 i9,.slice a9 l9 c9] 29):=⟨_,rfl⟩
      have hUd:zD zC w9 w10:=by rw[hw10];exact(zD.refl zC w9).alloc _
      have hb10:zI w10 w9.heap.size (.int .i64 k9) (.string (B n9)) (.int .i64 i9) (.slice a9 l9 c9) 29:=by rw[hw10];exact zI.zK rfl
      have hU810:=hU9.and hUd
      have hE10:=hE9.on hUd
      have hR10:=hR9.on hUd
      have hE810:=hE8.on hU810
      have hR810:=hR8.on hU810
      have hb810:=hb8.kept hU810
      have hU610:=(hU6.and hU68).and hU810
      have HW10:=zG hw10
      obtain⟨Q2,hQ2⟩:∃ Q,Q=w9.heap.size:=⟨_,rfl⟩
      rw[<-hQ2]at hb10
      have HQ2:=zG hQ2
      clear hw10 hQ2 R2w x0 x1 x2 x3 hE8 hR8 hE9 hR9 hb8 hB8 hU9 hUd hU810 hU68 hU6
      obtain⟨x0,x1,x2,x3⟩:=hb810.cells
      obtain⟨y0,y1,y2,y3⟩:=hb10.cells
      have S1w:=S1 w10 _ _ hR810 hR10
      clear S1 hR810 hR10
      go_upto_region 8 with fail
      rw[<-HQ2.out,<-HW10.out]
      go_wp2_with fail
      (with_reducible refine S1w.mono ?_)
      rintro e w11 ⟨rfl,hU11⟩
      have S2w:=S2 w11 va7 va9 vc7 vc9 (hE810.on hU11) (hE10.on hU11)
      clear S1w S2
      go_wp2_with fail
      (with_reducible refine S2w.mono ?_)
      rintro e w12 ⟨rfl,hU12⟩
      have hUf:=(hU610.and hU11).and hU12
      clear S2w
      go_wp2_with fail
      (with_reducible refine(zID w12).mono ?_)
      rintro e w13 ⟨rfl,hU13⟩
      go_wp2_with fail
      go_ret
      exact⟨rfl,hUf.and hU13⟩
end Go.Proofs.YthgmimncdjhgnaaGreatDoor
