/- MetaExpands: its walk. -/
import Derived.Test.YthgmimncdjhgnaaGreatDoorKFR
import Derived.Test.YthgmimncdjhgnaaGreatDoorKFO
import Derived.Test.YthgmimncdjhgnaaGreatDoorKFL
import Derived.Test.YthgmimncdjhgnaaGreatDoorKFD
import Derived.Test.YthgmimncdjhgnaaGreatDoorKCG
set_option maxRecDepth 100000
set_option maxHeartbeats 16000000
namespace Go.Proofs.YthgmimncdjhgnaaGreatDoor
open Go.RowKit Go.LF
theorem QP(l0:List Int)(a0:Option Addr)(len0 cap0:Nat)(hl0:l0.length=len0)(hlen0:len0<=17592186044416)(m0:List Int)(b0:Option Addr)(len1 cap1:Nat)(hl1:m0.length=len1)(hlen1:len1<=17592186044416)(w:World)(hE0:zG zC w 1 (l0.map (yz.int .i64)) a0 0)(hE1:zG zC w 1 (m0.map (yz.int .i64)) b0 0)(hN:Zl w):
    Calls Tryz.prog 3 #[.slice a0 len0 cap0,.slice b0 len1 cap1] w fun e w'=>e=.returned (.bool true)/\zD zC w w':=by
  have PL:=zHq l0 a0 len0 cap0 hl0 hlen0 w hE0 hN
  clear hE0 hl0
  go_enter Tryz.func3,Tryz.ntmps3
  go_wp2_with fail
  (with_reducible refine PL.mono ?_)
  rintro e w1 ⟨L,va,vc,rfl,hP,hlc,hL,hU1⟩
  have hL40:=hP.len
  obtain⟨Ll,hLl⟩:∃ Ll,Ll=L.length:=⟨_,rfl⟩
  rw[<-hLl]at hL40 hlc
  rw[<-hLl]
  have HLl:=zH hLl
  have hLi:(Ll:Int)<=40:=by omega
  have TM:=zD5 m0 Ll (by omega) b0 len1 cap1 hl1 hlen1 w1 (hE1.on hU1) (by obtain⟨v,h1,h2⟩:=hN;exact⟨v,hU1.cell h1 (fun x=>x),h2.on hU1⟩)
  clear hLl hE1 hN PL hl1
  go_wp2_with fail
  (with_reducible refine TM.mono ?_)
  rintro e w2 ⟨ts,ta,tc,rfl,htc,htl3,hfit,hTs,hU2⟩
  have hts:∀ t∈ts,t.wt<=1000000/\(t.wf=0->(∀ i∈Tm.zJ t,i<L.length)->Kn L.length t):=fun t ht=>⟨by have:=(hfit t ht).wt;omega,fun h1 h2=>zDs t h1 (by have:=(hfit t ht).size;omega) h2⟩
  have hU12:=hU1.and hU2
  have hL2:=hL.on hU2
  have EX:=fun(W:World)(h:zD zC w2 W)(t:Tm)(ht:t∈ts)(cs:List Value)hr=>Yc zC L hP.qG t (hts t ht).1 (hts t ht).2 W (fun _ e=>e.elim) va vc cs (hL2.on h) hr
  have RX:=fun(W:World)(h:zD zC w2 W)(t:Tm)(ht:t∈ts)(cs:List Value)hr=>Z4 zC L hP.qG t (hts t ht).1 (hts t ht).2 W (fun _ e=>e.elim) va vc cs (hL2.on h) hr
  have UN:=fun(W:World)(h:zD zC w2 W)=>qZ L hP.plz ts hts (by omega) W va vc ta tc (hL2.on h) (hTs.on h)
  have RU:=fun(W:World)(h:zD zC w2 W)=>Yl L hP.plz ts hts (by omega) W va vc ta tc (hL2.on h) (hTs.on h)
  have CN:=fun(W:World)(h:zD zC w2 W)=>zBo L hP.plz ts hts (by omega) W va vc ta tc (hL2.on h) (hTs.on h)
  have RC:=fun(W:World)(h:zD zC w2 W)=>zCo L hP.plz ts hts (by omega) W va vc ta tc (hL2.on h) (hTs.on h)
  rw[<-HLl.out]at EX RX UN RU CN RC
  obtain⟨tl,htl⟩:∃ tl,tl=ts.length:=⟨_,rfl⟩
  have HTL:=zH htl
  rw[<-htl]at htl3 UN RU CN RC
  rw[<-htl]
  have hti:(tl:Int)<=3:=by omega
  obtain⟨hsk,hst,htn,hon⟩:=zGB hP.plz ts
  have NB:=fun(W:World)a a2 c c2 h1 h2=>zBG (ZB L ts) hon W a a2 c c2 h1 h2
  have SST:=fun(W:World)a a2 c c2 h1 h2=>Zt (Yx L ts) hsk W a a2 c c2 h1 h2
  have SA:=fun(W:World)a a2 c c2 h1 h2=>Yk (ZV L ts) hst (by omega) W a a2 c c2 h1 h2
  obtain⟨ue,hue⟩:∃ u,u=ZW L ts:=⟨_,rfl⟩
  obtain⟨uo,huo⟩:∃ u,u=ZB L ts:=⟨_,rfl⟩
  obtain⟨ck,hck⟩:∃ u,u=Yx L ts:=⟨_,rfl⟩
  obtain⟨ct,hct⟩:∃ u,u=ZV L ts:=⟨_,rfl⟩
  rw[<-hue,<-huo]at UN RU
  rw[<-hue,<-hck,<-hct]at CN RC
  rw[<-huo]at NB
  rw[<-hck]at SST
  rw[<-hct]at SA
  have hexs:=fun t=>zHn hP.plz t
  clear hue huo hck hct hsk hst htn hon hts hfit hL hL2 TM htl
  go_wp2_with fail
  go_loopw [8] (fun v8 wr=>∃(j:Nat),v8=.int .i64 (j:Int)/\j<=tl/\zD zC w2 wr) (fun v8 _=>tl - (intOf v8).toNat)
  case atStart=>exact⟨0,rfl,Nat.zero_le _,zD.refl _ _⟩
  case round=>
    obtain⟨j,rfl,hj,hU⟩:=hrel
    have hj3:(j:Int)<=3:=by omega
    by_cases hlt:j<tl
    ·have hjl:j<ts.length:=by have:=HTL.out;omega
     obtain⟨eb,eo,ek,en,ex,es,ec,rfl,hebl,heO,p0,p1,p2,p3,hRp⟩:=zd (hTs.on hU) j hjl
     have hjb:(j:Int)<(tl:Int):=by omega
     have EXj:=EX wr hU ts[j] (List.getElem_mem hjl) _ hRp
     have RXj:=fun(W:World)(h:zD zC wr W)=>RX W (hU.and h) ts[j] (List.getElem_mem hjl) _ (hRp.on h)
     have hxs:=hexs ts[j]
     generalize yc L ts[j]=E at *
     generalize zj L ts[j]=X at *
     generalize ts[j].args.length=el at *
     clear EX RX
     go_wp2_with fail
     (with_reducible refine EXj.mono ?_)
     rintro e w4 ⟨k4,i4,n4,a4,l4,c4,rfl,hR4,hU4⟩
     obtain⟨w5,hw5⟩:∃ w5,w5=w4.alloc (.cells #[.int .i64 k4,.string (B n4),.int .i64 i4,.slice a4 l4 c4] 29):=⟨_,rfl⟩
     have hU5:zD zC w4 w5:=by rw[hw5];exact(zD.refl zC _).alloc _
     have hb5:zK w5 w4.heap.size (.int .i64 k4) (.string (B n4)) (.int .i64 i4) (.slice a4 l4 c4) 29:=by rw[hw5];exact zK.zL rfl
     obtain⟨P,hPz⟩:∃ P,P=w4.heap.size:=⟨_,rfl⟩
     rw[<-hPz]at hb5
     have HPz:=zH hPz
     have HW5:=zH hw5
     have hUr5:=hU4.and hU5
     have RXw:=RXj w5 hUr5
     have q0:=hUr5.cell p0 (fun x=>x)
     have q1:=hUr5.cell p1 (fun x=>x)
     have q2:=hUr5.cell p2 (fun x=>x)
     have q3:=hUr5.cell p3 (fun x=>x)
     have hR5:=hR4.on hU5
     clear EXj RXj hw5 hPz p0 p1 p2 p3 hR4 hU5 hU4
     go_upto_region 9 with fail
     rw[<-HPz.out,<-HW5.out]
     go_wp2_with fail
     (with_reducible refine RXw.mono ?_)
     rintro e w6 ⟨k6,i6,n6,a6,l6,c6,rfl,hR6,hU6⟩
     have hal:zD zC w6 (w6.alloc (.cells #[.int .i64 k6,.string (B n6),.int .i64 i6,.slice a6 l6 c6] 29)):=(zD.refl zC _).alloc _
     have SM:=XC X hxs X (w6.alloc (.cells #[.int .i64 k6,.string (B n6),.int .i64 i6,.slice a6 l6 c6] 29)) _ _ (hR5.on (hU6.and hal)) (hR6.on hal)
     rw[Tm.QK]at SM
     obtain⟨x0,x1,x2,x3⟩:=(hb5.kept (hU6.and hal)).cells
     have hU16:=((hU.and hUr5).and hU6).and hal
     clear RXw q0 q1 q2 q3 hR5 hR6 hb5 hUr5 hU6
     go_wp2_with fail
     (with_reducible refine SM.mono ?_)
     rintro e w7 ⟨rfl,hU7⟩
     have hU17:=hU16.and hU7
     clear SM x0 x1 x2 x3 hal
     go_wp2_with fail
     go_roundw
     case rel=>exact⟨j+1,by go_num,by omega,hU17⟩
     case measure=>simp[intOf];omega
    ·have hjn:¬(j:Int)<(tl:Int):=by omega
     have UNw:=UN wr hU
     clear EX RX hexs
     go_wp2_with fail
     (with_reducible refine UNw.mono ?_)
     rintro e w4 ⟨ua,uc,rfl,huc,hUo4,hU4⟩
     have hU24:=hU.and hU4
     have RUw:=RU w4 hU24
     clear UNw UN RU
     go_wp2_with fail
     (with_reducible refine RUw.mono ?_)
     rintro e w5 ⟨ub,ud,rfl,hud,hUo5,hU5⟩
     have hU25:=hU24.and hU5
     have hUo45:=hUo4.on hU5
     have CNw:=CN w5 hU25
     clear RUw CN hUo4
     go_wp2_with fail
     (with_reducible refine CNw.mono ?_)
     rintro e w6 ⟨ka,xa,kc,xc,rfl,⟨hkc,hxc⟩,hK6,hX6,hU6⟩
     have hU26:=hU25.and hU6
     have RCw:=RC w6 hU26
     clear CNw RC
     go_wp2_with fail
     (with_reducible refine RCw.mono ?_)
     rintro e w7 ⟨kb,xb,kd,xd,rfl,⟨hkd,hxd⟩,hK7,hX7,hU7⟩
     have hU27:=hU26.and hU7
     have NBw:=NB w7 ua ub uc ud (hUo45.on (hU6.and hU7)) (hUo5.on (hU6.and hU7))
     have hK67:=hK6.on hU7
     have hX67:=hX6.on hU7
     clear RCw NB hUo45 hUo5 hK6 hX6
     generalize uo.length=uol at *
     go_wp2_with fail
     (with_reducible refine NBw.mono ?_)
     rintro e w8 ⟨rfl,hU8⟩
     have SSw:=SST w8 ka kb kc kd (hK67.on hU8) (hK7.on hU8)
     generalize ck.length=ckl at *
     clear NBw SST hK67 hK7
     go_wp2_with fail
     (with_reducible refine SSw.mono ?_)
     rintro e w9 ⟨rfl,hU9⟩
     have SAw:=SA w9 xa xb xc xd (hX67.on (hU8.and hU9)) (hX7.on (hU8.and hU9))
     generalize ct.length=ctl at *
     clear SSw SA hX67 hX7
     go_wp2_with fail
     (with_reducible refine SAw.mono ?_)
     rintro e w10 ⟨rfl,hU10⟩
     have hUw10:=(hU12.and hU27).and ((hU8.and hU9).and hU10)
     clear SAw
     go_wp2_with fail
     (with_reducible refine(zI3 w10).mono ?_)
     rintro e w11 ⟨rfl,hU11⟩
     have hUw11:=hUw10.and hU11
     go_wp2_with fail
     go_ret
     exact⟨rfl,hUw11⟩
end Go.Proofs.YthgmimncdjhgnaaGreatDoor
