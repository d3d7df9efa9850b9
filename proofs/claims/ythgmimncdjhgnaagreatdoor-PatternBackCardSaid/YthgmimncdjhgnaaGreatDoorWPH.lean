/- PatternInverts: its walk. -/
import Derived.Test.YthgmimncdjhgnaaGreatDoorWCG
import Derived.Test.YthgmimncdjhgnaaGreatDoorWPG
set_option maxRecDepth 100000
set_option maxHeartbeats 16000000
namespace Go.Proofs.YthgmimncdjhgnaaGreatDoor
open Go.RowKit Go.LF
theorem zEc(vars:List Int)(t:Tm):(Xi vars t).size<=1000000:=by
  by_cases h:xz vars t=true
  ·rw[Xw h];unfold xz at h;simp only[Bool.and_eq_true]at h;have h2:=h.2.2.2;unfold Tm.small at h2;rw[Bool.and_eq_true,decide_eq_true_eq]at h2;omega
  ·rw[YC (by simpa using h)];decide
theorem Y4(l0:List Int)(a0:Option Addr)(len0 cap0:Nat)(hl0:l0.length=len0)(hlen0:len0<=17592186044416)(m0:List Int)(b0:Option Addr)(len1 cap1:Nat)(hl1:m0.length=len1)(hlen1:len1<=17592186044416)(k0 k1 k2:Int)(w:World)(hE0:zH zC w 1 (l0.map (yP.int .i64)) a0 0)(hE1:zH zC w 1 (m0.map (yP.int .i64)) b0 0)(hN:ZJ w):
    Calls Tryz.prog 8 #[.slice a0 len0 cap0,.slice b0 len1 cap1,.agg #[.int .i64 k0,.int .i64 k1,.int .i64 k2]] w fun e w'=>e=.returned (.bool true)/\zD zC w w':=by
  obtain⟨wa,hwa⟩:∃ wa,wa=w.alloc (.cells #[.int .i64 k0,.int .i64 k1,.int .i64 k2] 42):=⟨_,rfl⟩;have hUa:zD zC w wa:=by rw[hwa];exact(zD.refl zC w).alloc _
  have hka:xB wa w.heap.size #[.int .i64 k0,.int .i64 k1,.int .i64 k2] 42:=by rw[hwa];exact xB.zJ rfl
  have hza:wa.heap.size=w.heap.size+1:=by rw[hwa];simp
  obtain⟨w1,hw1⟩:∃ w1,w1=wa.alloc (.cells #[.slice a0 len0 cap0,.int .i64 0] 45):=⟨_,rfl⟩;have hU1:zD zC w w1:=by rw[hw1];exact hUa.alloc _
  have hT1:zg w1 wa.heap.size:=by
    rw[hw1];exact Qf (w:=wa) (cap:=cap0) (U:=45) hl0 hlen0 (hE0.on hUa)
  have hK1:zW wa.heap.size w1:=hN.ok hU1 (by omega);have hk1:xB w1 w.heap.size #[.int .i64 k0,.int .i64 k1,.int .i64 k2] 42:=by rw[hw1];exact hka.kept ((zD.refl zC _).alloc _)
  rw[hza]at hT1 hK1;have hzz1:w1.heap.size=w.heap.size+1+1:=by rw[hw1];simp[hza]
  have AN:Calls Tryz.prog 24 #[.pointer (some ⟨w.heap.size+1,0,none⟩),.int .i64 4,.int .i64 4,.int .i64 2] w1 (zC3 w1.heap.size (2 ^ 5+2) 4 2 (w.heap.size+1) w1):=zCJ 3 (by omega) 4 2 (by omega) (by omega) (w.heap.size+1) w1 hT1 hK1;have hw1':w1=(w.alloc (.cells #[.int .i64 k0,.int .i64 k1,.int .i64 k2] 42)).alloc (.cells #[.slice a0 len0 cap0,.int .i64 0] 45):=by rw[hw1,hwa]
  have HW1:=zF hw1';obtain⟨N,hNN⟩:∃ P,P=w.heap.size:=⟨_,rfl⟩;have HN:=zF hNN;rw[<-hNN]at hT1 hK1 hk1 AN hzz1;clear hwa hw1 hw1' hka hUa hza hE0 hl0 hlen0 hN hNN;go_enter Tryz.func8,Tryz.ntmps8
  go_upto_region 1 with fail
  go_wp2_with fail
  rw[<-HW1.out,<-HN.out]
  (with_reducible refine AN.mono ?_);rintro e w4 ⟨k4,i4,nm4,a4,zEy,cap4,t,rfl,hR4,hF4,_,_,hU4⟩;have hwt:t.wt<=180:=by have:=hF4.wt;omega
  have hk4:=hk1.zE hU4 (by simp only[zv];omega);have hUw4:zD zC w w4:=hU1.trans hU4 (fun b hb e=>by simp only[zv]at e;have:=HN.out;omega);obtain⟨w5,hw5⟩:∃ w5,w5=w4.alloc (.cells #[.int .i64 k4,.string (B nm4),.int .i64 i4,.slice a4 zEy cap4] 29):=⟨_,rfl⟩;have hUb:zD zC w4 w5:=by rw[hw5];exact(zD.refl zC w4).alloc _
  have ht5:zG w5 w4.heap.size (.int .i64 k4) (.string (B nm4)) (.int .i64 i4) (.slice a4 zEy cap4) 29:=by rw[hw5];exact zG.zJ rfl
  have hR5:zK (fun b=>b=w4.heap.size) w5 t.zM [.int .i64 k4,.string (B nm4),.int .i64 i4,.slice a4 zEy cap4]:=(zK.weaken (fun b _ e=>.inr (Nat.le_of_eq e.symm)) _ _ (zK.zY _ _ (zK.weaken (O':=zC) (fun _ _ e=>e.elim) _ _ hR4))).on hUb;have hk5:=hk4.kept hUb;have hUw5:=hUw4.and hUb;have hkP:N<w4.heap.size:=hk4.lt;obtain⟨P,hPP⟩:∃ P,P=w4.heap.size:=⟨_,rfl⟩;rw[<-hPP]at ht5 hR5 hkP;have HP:=zF hPP;have HW5:=zF hw5;clear hw5 hUb hR4 hU4 hF4 hUw4 hk4 hPP AN hU1 hT1 hK1 hk1;obtain⟨q0,q1,q2⟩:w5.cell? ⟨N,0,none⟩=some (.int .i64 k0)/\w5.cell? ⟨N,1,none⟩=some (.int .i64 k1)/\w5.cell? ⟨N,2,none⟩=some (.int .i64 k2):=⟨by simpa using hk5.cell 0,by simpa using hk5.cell 1,by simpa using hk5.cell 2⟩;have K1:=fun W=>qz k0 9 (by omega) (by omega) W
  generalize Qh k0 9=c1 at *
  go_upto_region 2 with fail
  rw[<-HP.out,<-HW5.out];go_cut [22]from 19 to 22 (fun v22 wx=>v22=.bool (c1 == 0)/\w5=wx)
  case first=>
    go_wp2_with (first |((go_at_call 25);(with_reducible refine(K1 _).mono ?_);rintro e w7 ⟨rfl,rfl⟩))
    go_meet
    case rel=>exact⟨rfl,rfl⟩
  case rest=>
    obtain⟨rfl,rfl⟩:=hcut;generalize (c1 == 0)=c at *
    go_upto_if 22 with fail
    go_cut []from 23 to 28 (fun wc=>∃(k i:Int)(nm:List UInt8)(a:Option Addr)(len cap:Nat)(t:Tm),zG wc P (.int .i64 k) (.string (B nm)) (.int .i64 i) (.slice a len cap) 29/\zK zC wc t.zM [.int .i64 k,.string (B nm),.int .i64 i,.slice a len cap]/\t.wt<=200/\
      xB wc N #[.int .i64 k0,.int .i64 k1,.int .i64 k2] 42/\zD zC w wc)
    case first=>
      cases c
      ·go_wp2_with fail
       go_meet
       case rel=>exact⟨_,_,_,_,_,_,t,ht5,yw hR5,by omega,hk5,hUw5⟩
      ·obtain⟨x0,x1,x2,x3⟩:=ht5.cells;have SP:=fun y z=>zAL t (by omega) (fun b=>b=P) y z w5 _ hR5
       go_wp2_with (first |((go_at_call 29);(with_reducible refine(SP _ _).mono ?_);rintro e w8 ⟨k8,i8,n8,a8,len8,cap8,t8,rfl,hR8,hwt8,hU8⟩;have ht8:=ht5.kept hU8;have hlt8:=ht5.lt;obtain⟨y4,y5,y6,y7⟩:=ht8.cells;obtain⟨y0,y1,y2,y3⟩:=ht8.zI))
       go_meet
       case rel=>
         have hset:=ht8.set (d0:=.int .i64 k8) (d1:=.string (B n8)) (d2:=.int .i64 i8) (d3:=.slice a8 len8 cap8);exact⟨_,_,_,_,_,_,t8,hset.1,yw (zK.zE hset.2 (fun b e=>⟨e,by omega⟩) _ _ hR8),by omega,(hk5.kept hU8).zE hset.2 (by omega),(hUw5.and hU8).trans hset.2 (fun b hb e=>by have:=HN.out;omega)⟩
    case rest=>
      obtain⟨k6,i6,nm6,a6,len6,cap6,t6,ht6,hR6,hwt6,hk6,hU6⟩:=hcut;obtain⟨w6,rfl⟩:∃ q,q=wc:=⟨_,rfl⟩;have hE6:=hE1.on hU6;clear ht5 hR5 q0 q1 q2 K1 hk5 hE1;obtain⟨i0,hi,hi0,hi1,hi2⟩:=info_parts Zq;obtain⟨H,hH⟩:∃ H,H=w6.heap.size:=⟨_,rfl⟩;have HH:=zF hH;have hNH:N<H:=by rw[hH];exact hk6.lt
      have hPH:P<H:=by rw[hH];exact ht6.lt
      clear hH;go_upto_region 4 with fail
      go_wp2_with fail
      go_loopw [8,9] (fun v8 v9 wr=>∃(j:Nat)(vars:List Int),v9=.int .i64 (j:Int)/\j<=6/\j<=len1/\vars.length=j/\yx H wr v8 vars/\zD zC w6 wr) (fun _ v9 _=>6 - (intOf v9).toNat)
      case atStart=>exact⟨0,[],rfl,by omega,by omega,rfl,World.ownsRow_nil _ _ _ _,zD.refl _ _⟩
      case round=>
        obtain⟨j,vars,rfl,hj6,hjl,hvl,hI,hU⟩:=hrel;obtain⟨wq,rfl⟩:∃ q,q=wr:=⟨_,rfl⟩;obtain⟨eb,heb⟩:∃ b,b=(decide (j<len1) && decide (j<6)):=⟨_,rfl⟩;have HEB:=zF heb;have HVL:=zF hvl;have hj0:(0:Int)<=(j:Int):=by omega
        have hj7:(j:Int)<=6:=by omega
        clear heb hvl;go_upto_region 6 with fail
        go_cut [36]from 29 to 36 (fun v36 wx=>v36=.bool eb/\wq=wx)
        case first=>
          by_cases h1:j<len1
          ·have g1:decide ((j:Int)<(len1:Int))=true:=decide_eq_true (by omega);by_cases h2:j<6
           ·have g2:decide ((j:Int)<6)=true:=decide_eq_true (by omega);have HE2:=zF (show eb=true by rw[HEB.out];simp[h1,h2]);go_wp2_with fail
            go_meet
            case rel=>exact⟨by rw[HE2.out],rfl⟩
           ·obtain rfl:j=6:=by omega
            have HE2:=zF (show eb=false by rw[HEB.out];simp);go_wp2_with fail
            go_meet
            case rel=>exact⟨by rw[HE2.out],rfl⟩
          ·have g1:decide ((j:Int)<(len1:Int))=false:=decide_eq_false (by omega);have HE2:=zF (show eb=false by rw[HEB.out];simp[h1]);go_wp2_with fail
           go_meet
           case rel=>exact⟨by rw[HE2.out],rfl⟩
        case rest=>
          obtain⟨rfl,rfl⟩:=hcut;cases eb
          case true=>
            have hlt:j<len1/\j<6:=by
              have:=HEB.out;rw[eq_comm,Bool.and_eq_true,decide_eq_true_eq,decide_eq_true_eq]at this;exact this
            obtain⟨hlt1,hlt6⟩:=hlt;obtain⟨mb,mo,rfl,hmb,_,hmc⟩:=yJ (hE6.on hU) j (by omega);obtain⟨x,hx⟩:∃ x,x=m0[j]'(by omega):=⟨_,rfl⟩;rw[<-hx]at hmc;have KX:=fun W=>qz x 8 (by omega) (by omega) W
            obtain⟨hx0,hx8⟩:=zDv x 8 (by omega);obtain⟨cn,hcn⟩:∃ cn:Nat,Qh x 8=(cn:Int):=⟨(Qh x 8).toNat,by omega⟩;rw[hcn]at KX;have hcn8:cn<8:=by omega
            obtain⟨w7,hw7⟩:∃ z,z=wq.alloc (.cells #[.int .i64 0,.int .i64 1,.int .i64 2,.int .i64 3,.int .i64 4,.int .i64 9,.int .i64 (-1),.int .i64 4611686018427387904] 3):=⟨_,rfl⟩;have hal:zD zC wq w7:=by rw[hw7];exact(zD.refl zC _).alloc _
            have hmc2:=hal.cell hmc (fun x=>x);have hmc3:=hmc2;rw[hw7]at hmc3
            obtain⟨y,hy⟩:∃ y:Int,w7.cell? ⟨wq.heap.size,cn,none⟩=some (.int .i64 y):=by
              rw[hw7];have:cn=0\/cn=1\/cn=2\/cn=3\/cn=4\/cn=5\/cn=6\/cn=7:=by omega
              rcases this with h |h |h |h |h |h |h |h<;>subst h<;>exact⟨_,by simp;rfl⟩
            obtain⟨va,vcap,rfl,_,_⟩:=yK hI.rep;have hI7:yx H w7 (.slice va vars.length vcap) vars:=World.ownsRow.kept hI (yO hal) (YQ _);have hz7:H<=w7.heap.size:=by have:=hU.size;have:=hal.size;have:=HH.out;omega
            have hvl6:vars.length<=10:=by have:=HVL.out;omega
            have HW7:=zF hw7;have hU7:=hU.and hal;clear hx0 hx8 hcn hx hw7 hmc hI;have hj1:(j:Int)<(len1:Int):=by omega
            have hcn0:(0:Int)<=(cn:Int):=by omega
            have hcn9:(cn:Int)<8:=by omega
            go_wp2_with fail
            rw[<-HW7.out]
            (with_reducible refine(KX _).mono ?_);rintro e w8 ⟨rfl,rfl⟩;go_wp2_with (at_builtin;refine wpList_append_own _ rfl _ _ 22 rfl H 3 i0 (.int .i64 0) 1 8 (by kernel_rfl) hi hi0 hi1 hi2 rfl (by decide) _ _ _ rfl (World.ownsRow.alloc hI7 _) ⟨w7.heap.size,0,none⟩ 1 1 [.int .i64 y] rfl rfl (cell_one_new _ _ _) (by simp[Value.oneCell']) (by simp only[maxLen];omega) (by omega) (by simp;omega) ?_;intro v' w0 hown' hgrow _;obtain⟨g',cap',rfl⟩:=ownsRow_succ hown')
            have hI9:yx H w0 (.slice (some ⟨g',0,none⟩) (vars.length+1) cap') (vars++[y]):=by unfold yx;simpa using hown'
            have hU9:zD zC w6 w0:=zD.row (hU7.alloc _) (zw.grown (World.ownsRow.alloc hI7 _) hgrow) (by have:=HH.out;omega);clear hown' hgrow hI7;go_roundw
            case rel=>exact⟨j+1,vars++[y],by go_num,by omega,by omega,by simp[HVL.out],hI9,hU9⟩
            case measure=>simp[intOf];omega
          case false=>
            have hkq:=hk6.kept hU;have q0:wq.cell? ⟨N,0,none⟩=some (.int .i64 k0):=by simpa using hkq.cell 0
            have K3:=fun W=>qz k0 31 (by omega) (by omega) W
            generalize Qh k0 31=c3 at *
            go_upto_region 9 with fail
            go_cut [53]from 50 to 53 (fun v53 wx=>v53=.bool (c3 == 1)/\wq=wx)
            case first=>
              go_wp2_with (first |((go_at_call 25);(with_reducible refine(K3 _).mono ?_);rintro e w7 ⟨rfl,rfl⟩))
              go_meet
              case rel=>exact⟨rfl,rfl⟩
            case rest=>
              obtain⟨rfl,rfl⟩:=hcut;generalize (c3 == 1)=cc at *
              go_upto_if 53 with fail
              go_cut [8]from 54 to 62 (fun v8 wc=>∃(vs:List Int),vs.length<=200/\yx H wc v8 vs/\zD zC w6 wc)
              case first=>
                cases cc
                ·go_wp2_with fail
                 go_meet
                 case rel=>exact⟨vars,by have:=HVL.out;omega,hI,hU⟩
                ·go_wp2_with fail
                 go_loopw [8,10] (fun v8 v10 wr=>∃(n:Nat)(vs:List Int),v10=.int .i64 (n:Int)/\n<=130/\vs.length<=10+n/\yx H wr v8 vs/\zD zC w6 wr) (fun _ v10 _=>130 - (intOf v10).toNat)
                 case atStart=>exact⟨0,vars,rfl,by omega,by have:=HVL.out;omega,hI,hU⟩
                 case round=>
                   clear hI hU;obtain⟨n,vs,rfl,hn,hvs,hI,hU⟩:=hrel;have hn0:(n:Int)<=130:=by omega
                   by_cases hlt:n<130
                   ·obtain⟨va,vcap,rfl,_,_⟩:=yK hI.rep;have hn1:(n:Int)<130:=by omega
                    have hzr:H<=wr.heap.size:=by have:=hU.size;have:=HH.out;omega
                    have hvs6:vs.length<=200:=by omega
                    go_wp2_with (at_builtin;refine wpList_append_own _ rfl _ _ 22 rfl H 3 i0 (.int .i64 0) 1 8 (by kernel_rfl) hi hi0 hi1 hi2 rfl (by decide) _ _ _ rfl (World.ownsRow.alloc hI _) ⟨wr.heap.size,0,none⟩ 1 1 [.int .i64 (10+n)] rfl rfl (cell_one_new _ _ _) (by simp[Value.oneCell']) (by simp only[maxLen];omega) (by omega) (by simp;omega) ?_;intro v' w0 hown' hgrow _;obtain⟨g',cap',rfl⟩:=ownsRow_succ hown')
                    have hI9:yx H w0 (.slice (some ⟨g',0,none⟩) (vs.length+1) cap') (vs++[10+(n:Int)]):=by unfold yx;simpa using hown'
                    have hU9:zD zC w6 w0:=zD.row (hU.alloc _) (zw.grown (World.ownsRow.alloc hI _) hgrow) (by have:=HH.out;omega);clear hown' hgrow hI hU;go_roundw
                    case rel=>exact⟨n+1,vs++[10+(n:Int)],by go_num,by omega,by simp;omega,hI9,hU9⟩
                    case measure=>simp[intOf];omega
                   ·have hnn:¬(n:Int)<130:=by omega
                    go_wp2_with fail
                    go_meet
                    case rel=>exact⟨vs,by omega,hI,hU⟩
              case rest=>
                clear hI hU;obtain⟨vs,hvs,hI,hU⟩:=hcut;obtain⟨w8,rfl⟩:∃ q,q=wc:=⟨_,rfl⟩;obtain⟨va,vcap,rfl,hvc,hV8⟩:=yK hI.rep;have hV8':=zH.weaken (O':=zC) (fun _ _ e=>e.elim) _ _ _ _ hV8;have hR8:=hR6.on hU;have ht8:=ht6.kept hU;have P1:=fun(W:World)(hW:zD zC w8 W)=>Zh vs (by omega) t6 (by omega) W va vcap _ (hV8'.on hW) (hR8.on hW)
                have P2:=fun(W:World)(hW:zD zC w8 W)=>qh vs (by omega) t6 (by omega) W va vcap hvc _ (hV8'.on hW) (hR8.on hW)
                have S1:=fun W cs ds h h'=>qa (Xi vs t6) (zEc vs t6) (Xi vs t6) W cs ds h h'
                rw[Tm.zAb]at S1;generalize Xi vs t6=X at *
                generalize xz vs t6=bx at *
                have hbb:(bx == bx)=true:=by simp
                have P18:=P1 w8 (zD.refl _ _);have hUw8:=hU6.and hU;obtain⟨x0,x1,x2,x3⟩:=ht8.cells;clear P1 hI hV8 hV8' hR8;go_upto_region 14 with fail
                go_wp2_with fail
                (with_reducible refine P18.mono ?_);rintro e w9 ⟨k9,i9,n9,a9,l9,c9,rfl,hR9,hU9⟩;obtain⟨w10,hw10⟩:∃ z,z=w9.alloc (.cells #[.int .i64 k9,.string (B n9),.int .i64 i9,.slice a9 l9 c9] 29):=⟨_,rfl⟩;have hUa:zD zC w9 w10:=by rw[hw10];exact(zD.refl zC _).alloc _
                have hQ10:zG w10 w9.heap.size (.int .i64 k9) (.string (B n9)) (.int .i64 i9) (.slice a9 l9 c9) 29:=by rw[hw10];exact zG.zJ rfl
                have hU810:=hU9.and hUa;have hR10:=hR9.on hUa;have P210:=P2 w10 hU810;have HW10:=zF hw10;obtain⟨Q,hQ⟩:∃ z,z=w9.heap.size:=⟨_,rfl⟩;rw[<-hQ]at hQ10;have HQ:=zF hQ;clear hw10 hQ x0 x1 x2 x3 P18 P2 hR9 hU9 hUa;obtain⟨x0,x1,x2,x3⟩:=(ht8.kept hU810).cells;go_upto_region 15 with fail
                rw[<-HQ.out,<-HW10.out];go_wp2_with fail
                (with_reducible refine P210.mono ?_);rintro e w11 ⟨k11,i11,n11,a11,l11,c11,rfl,hR11,hU11⟩;obtain⟨w12,hw12⟩:∃ z,z=w11.alloc (.cells #[.int .i64 k11,.string (B n11),.int .i64 i11,.slice a11 l11 c11] 29):=⟨_,rfl⟩;have hUb:zD zC w11 w12:=by rw[hw12];exact(zD.refl zC _).alloc _
                have hQ12:zG w12 w11.heap.size (.int .i64 k11) (.string (B n11)) (.int .i64 i11) (.slice a11 l11 c11) 29:=by rw[hw12];exact zG.zJ rfl
                have hU1012:=hU11.and hUb;have S12:=S1 w12 _ _ (zK.weaken (O':=zC) (fun _ _ e=>e.elim) _ _ (hR10.on hU1012)) (zK.weaken (O':=zC) (fun _ _ e=>e.elim) _ _ (hR11.on hUb));have hQ10':=hQ10.kept hU1012;have HW12:=zF hw12;clear hw12 x0 x1 x2 x3 P210 S1 hR11 hR10;obtain⟨x0,x1,x2,x3⟩:=hQ10'.cells;obtain⟨y0,y1,y2,y3⟩:=hQ12.cells;go_upto_region 16 with fail
                rw[<-HW12.out];go_wp2_with fail
                (with_reducible refine S12.mono ?_);rintro e w13 ⟨rfl,hU13⟩;go_wp2_with fail
                (with_reducible refine(zAd w13).mono ?_);rintro e w14 ⟨rfl,hU14⟩;go_wp2_with fail
                go_ret
                exact⟨rfl,(((hUw8.and hU810).and hU1012).and hU13).and hU14⟩
end Go.Proofs.YthgmimncdjhgnaaGreatDoor
