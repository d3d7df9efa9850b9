/- The reference's Machine.substitute: the step, and all of it. -/
import Derived.Test.YthgmimncdjhgnaaGreatDoorKCK
import Derived.Test.YthgmimncdjhgnaaGreatDoorKSA
import Derived.Deep.CutRange
import Derived.Deep.RegionHeld3
import Derived.Deep.RegionLaw
set_option maxRecDepth 100000
set_option maxHeartbeats 16000000
namespace Go.Proofs.YthgmimncdjhgnaaGreatDoor
open Go.RowKit Go.LF
abbrev Rs8(Y H sb so:Nat)(y0 y1 y2 y3 o3 p0 p1:Value)(w':World):Prop:=
  (w'.cell? ⟨Y,0,none⟩=some y0/\w'.cell? ⟨Y,1,none⟩=some y1/\w'.cell? ⟨Y,2,none⟩=some y2/\w'.cell? ⟨Y,3,none⟩=some y3)/\w'.cell? ⟨H+1+1,3,none⟩=some o3/\(w'.cell? ⟨sb,so,none⟩=some p0/\w'.cell? ⟨sb,so+1,none⟩=some p1)
theorem Rs8.zF{Y H sb so:Nat}{y0 y1 y2 y3 o3 p0 p1:Value}{w w':World}{S:Nat->Prop}(h:Rs8 Y H sb so y0 y1 y2 y3 o3 p0 p1 w)(hU:zD S w w')(h1:¬S Y)(h2:¬S (H+1+1))(h3:¬S sb):Rs8 Y H sb so y0 y1 y2 y3 o3 p0 p1 w':=
  ⟨⟨hU.cell h.1.1 h1,hU.cell h.1.2.1 h1,hU.cell h.1.2.2.1 h1,hU.cell h.1.2.2.2 h1⟩,hU.cell h.2.1 h2,hU.cell h.2.2.1 h3,hU.cell h.2.2.2 h3⟩
theorem Rs8.Ye{Y H sb so r:Nat}{y0 y1 y2 y3 o3 p0 p1:Value}{w:World}(h:Rs8 Y H sb so y0 y1 y2 y3 o3 p0 p1 w)(h1:¬Y=r)(h2:¬H+1+1=r)(h3:¬sb=r)(d0 d1 d2 d3:Value):
    Rs8 Y H sb so y0 y1 y2 y3 o3 p0 p1 ((((w.setCell ⟨r,0,none⟩ d0).setCell ⟨r,1,none⟩ d1).setCell ⟨r,2,none⟩ d2).setCell ⟨r,3,none⟩ d3):=
  h.zF (S:=fun b=>b=r) (zD.set (zD.set (zD.set (zD.set (zD.refl _ _) 0 _) 1 _) 2 _) 3 _) h1 h2 h3
theorem zCb{O:Nat->Prop}{R:Tm.xU}{x H:Nat}{w w5 W':World}{k i:Int}{n:List UInt8}{a:Option Addr}{len cap:Nat}(hR:zM (fun b=>O b\/b=H\/b=H+1\/b=H+1+1) w5 R.t.zN [.int .i64 k,.string (B n),.int .i64 i,.slice a len cap])
    (hX:zm w5 x (.int .i64 (R.w:Int)) (.int .i64 R.e) 181) (hUw:zD (fun b=>b=x) w w5) (hset:zD (fun b=>b=H+1) w5 W') (hH:H=w.heap.size) (hx:x<H):
    zIg O x R (.returned (.agg #[.int .i64 k,.string (B n),.int .i64 i,.slice a len cap])) W'/\zD (fun b=>b=x) w W':=
  ⟨⟨⟨k,n,i,a,len,cap,rfl,zM.weaken (fun b _ e=>.inl e) _ _ (zM.zF hset (fun b e=>.inr (.inr (.inl e))) _ _ hR)⟩,hX.zF hset (by omega)⟩,hUw.trans hset (fun b hb e=>by omega)⟩
theorem zKD{O:Nat->Prop}{base H x j:Nat}{w1 w6 w7:World}{v a0 b0:Value}{us:List Tm}{u:Tm}{css:List (List Value)}{k i k1 i1:Int}{nm n1:List UInt8}{a1:Option Addr}{len1 cap1 g cap':Nat}{TX:TypeId}
    (hD6:yI 29 4 O base w6 v (us.map Tm.zN) css) (hX6:zm w6 x a0 b0 TX) (hor6:zK w6 (H+1+1) (.int .i64 k) (.string (B nm)) (.int .i64 i) v 29) (hU6:zD (fun b=>b=x\/b=H+1+1) w1 w6)
    (hR6:zM (fun b=>O b\/v.ownBlock=some b) w6 u.zN [.int .i64 k1,.string (B n1),.int .i64 i1,.slice a1 len1 cap1]) (hO:∀ b,O b->b<base) (hO2:O (H+1+1)) (hx:x<H) (hb:base=H+3) (hw1:w1.heap.size=H+2) (hz:base<=w6.heap.size) (hj:us.length=j)
    (hown:w7.ownsRow base 29 4 (.slice (some ⟨g,0,none⟩) (j+1) cap') (j+1) (css.flatten++[.int .i64 k1,.string (B n1),.int .i64 i1,.slice a1 len1 cap1]))
    (hgrow:(w6.alloc (.cells #[.int .i64 k1,.string (B n1),.int .i64 i1,.slice a1 len1 cap1] 29)).grownBy w7 v.ownBlock) (hat:v.ownBlock=some g\/g=(w6.alloc (.cells #[.int .i64 k1,.string (B n1),.int .i64 i1,.slice a1 len1 cap1] 29)).heap.size):
    yI 29 4 O base (w7.setCell ⟨H+1+1,3,none⟩ (.slice (some ⟨g,0,none⟩) (j+1) cap')) (.slice (some ⟨g,0,none⟩) (j+1) cap') ((us++[u]).map Tm.zN) (css++[[.int .i64 k1,.string (B n1),.int .i64 i1,.slice a1 len1 cap1]])/\
      zm (w7.setCell ⟨H+1+1,3,none⟩ (.slice (some ⟨g,0,none⟩) (j+1) cap')) x a0 b0 TX/\zK (w7.setCell ⟨H+1+1,3,none⟩ (.slice (some ⟨g,0,none⟩) (j+1) cap')) (H+1+1) (.int .i64 k) (.string (B nm)) (.int .i64 i) (.slice (some ⟨g,0,none⟩) (j+1) cap') 29/\
      zD (fun b=>b=x\/b=H+1+1) w1 (w7.setCell ⟨H+1+1,3,none⟩ (.slice (some ⟨g,0,none⟩) (j+1) cap'))/\base<=(w7.setCell ⟨H+1+1,3,none⟩ (.slice (some ⟨g,0,none⟩) (j+1) cap')).heap.size:=by
  subst hj
  have hal:zD zC w6 (w6.alloc (.cells #[.int .i64 k1,.string (B n1),.int .i64 i1,.slice a1 len1 cap1] 29)):=(zD.refl zC _).alloc _
  have hDa:=hD6.on hal hO
  have hown8:w7.ownsRow base 29 4 (.slice (some ⟨g,0,none⟩) ((us.map Tm.zN).length+1) cap') ((us.map Tm.zN).length+1) (css.flatten++[.int .i64 k1,.string (B n1),.int .i64 i1,.slice a1 len1 cap1]):=by rw[List.length_map];exact hown
  have hT7:=hDa.appended (d:=u.zN) rfl (hR6.on hal) hown8 hgrow hat (Nat.le_refl _)
  rw[List.length_map]at hT7
  have hrow:=hDa.upto hgrow
  have hset7:zD (fun b=>b=H+1+1) w7 (w7.setCell ⟨H+1+1,3,none⟩ (.slice (some ⟨g,0,none⟩) (us.length+1) cap')):=zD.set (zD.refl _ _) 3 _
  have hT8:=hT7.zF hset7 (fun b e=>by rw[e];exact hO2) hO
  have hor7:=((hor6.kept hal).zFG hgrow hDa (by omega)).Yt (.slice (some ⟨g,0,none⟩) (us.length+1) cap')
  have hmap:us.map Tm.zN++[u.zN]=(us++[u]).map Tm.zN:=by simp
  rw[hmap]at hT8
  have s1:=hal.size
  have s2:=hrow.size
  have s3:=hset7.size
  exact⟨hT8,((hX6.kept hal).zF hrow (by omega)).zF hset7 (by omega),hor7,((hU6.trans hal (fun _ _ e=>e.elim)).trans hrow (fun b hb e=>by omega)).trans hset7 (fun _ _ e=>.inr e),by omega⟩
theorem zD0(n:Nat)(IH:zFb n):zFb (n+1):=by
  intro ms ss d t w0 x O w ma mc sa sc cs hn hw0 hml hml2 hms hss hd0 hdd hin hx hO hX hM hS hR
  obtain⟨k,nm,i,ts,ta,tc,rfl,rfl,htc,hT⟩:=zX hR
  obtain⟨i0,hi,hi0,hi1,hi2⟩:=info_parts yZ
  obtain⟨w1,hw1⟩:∃ w1,w1=(w.alloc (.cells #[.int .i64 k,.string (B nm),.int .i64 i,.slice ta ts.length tc] 29)).alloc (.cells #[.int .i64 0,.string (B []),.int .i64 0,.slice none 0 0] 29):=⟨_,rfl⟩
  have hU1:zD zC w w1:=by rw[hw1];exact((zD.refl zC w).alloc _).alloc _
  have ht1:zK w1 w.heap.size (.int .i64 k) (.string (B nm)) (.int .i64 i) (.slice ta ts.length tc) 29:=by rw[hw1];exact(zK.zL rfl).kept ((zD.refl zC _).alloc _)
  have hr1:zK w1 (w.heap.size+1) (.int .i64 0) (.string (B [])) (.int .i64 0) (.slice none 0 0) 29:=by rw[hw1];exact zK.zL (by simp)
  have hz1':w1.heap.size=w.heap.size+2:=by rw[hw1];simp
  have hX1:=hX.kept hU1
  have hT1:=(zG.zQ _ _ _ _ hT).on hU1
  have hM1:=(zG.zQ _ _ _ _ hM).on hU1
  have hS1:=(zG.zQ _ _ _ _ hS).on hU1
  have HW:=zH hw1
  obtain⟨H,hH⟩:∃ H,H=w.heap.size:=⟨_,rfl⟩
  have HH:=zH hH
  rw[<-hH]at ht1 hr1 hT1 hM1 hS1 hz1'
  have hO':∀ b,O b->b<H:=by rw[hH];exact hO
  have hxH:x<H:=hO' x hx
  have HO:Hid (∀ b,(O b\/b=H\/b=H+1\/b=H+1+1)->b<H+3):=zH (fun b h=>by rcases h with h |h |h |h;(have:=hO' b h;omega);all_goals omega)
  have htl:ts.length<=4096:=by have h1:=hin.size;have h2:=Tm.zO ts;simp only[Tm.zS]at h1;omega
  have hdk:d<=1048576:=by omega
  obtain⟨R,hRR⟩:∃ R,R=Tm.sb (n+1) ms ss d (.mk k nm i ts) w0:=⟨_,rfl⟩
  rw[<-hRR]
  rw[Tm.zFt]at hRR
  obtain⟨tl,htll⟩:∃ tl,tl=ts.length:=⟨_,rfl⟩
  obtain⟨ml,hmll⟩:∃ ml,ml=ms.length:=⟨_,rfl⟩
  obtain⟨sl,hsll⟩:∃ sl,sl=ss.length:=⟨_,rfl⟩
  rw[<-htll,<-hmll,<-hsll]
  rw[<-htll]at ht1 htl
  rw[<-hmll,<-hsll]at hml
  rw[<-hmll]at hml2
  rw[<-htll]at HW
  subst hml
  have HL:=zH (And.intro htll (And.intro hmll hsll))
  have HP:=zH (And.intro hn (And.intro hms (And.intro hss (And.intro hin hdd))))
  have hml3:(ml:Int)<=10000:=by omega
  have hml4:(0:Int)<=(ml:Int):=by omega
  have htl3:(tl:Int)<=4096:=by omega
  have htl4:(0:Int)<=(tl:Int):=by omega
  have hw4:(w0:Int)<=262144:=by omega
  have hw5:(0:Int)<=(w0:Int):=by omega
  have hU0:=hU1
  obtain⟨x0,x1⟩:=hX1.cells
  obtain⟨y0,y1⟩:=hX1.zI
  have hXs:=hX1.zDN (.int .i64 ((w0+1:Nat):Int))
  have hsetw:zD (fun b=>b=x) w1 (w1.setCell ⟨x,0,none⟩ (.int .i64 ((w0+1:Nat):Int))):=zD.set (zD.refl _ _) 0 _
  have ecast:((w0+1:Nat):Int)=(w0:Int)+1:=by omega
  have HXS:=zH (And.intro hXs hsetw)
  have HEC:=zH ecast
  rw[ecast]at hXs hsetw
  have HXT:=zH (And.intro hXs hsetw)
  clear hw1 hX hR hT hM hS hH hO hO' hn hms hss hin hdd htll hmll hsll hU1 hXs hsetw ecast
  have hrr:=hr1.lt
  go_enter Tryz.func203,Tryz.ntmps203
  go_upto_region 1 with fail
  rw[<-show B []={ data:=#[] }from rfl,<-HW.out,<-HH.out]
  by_cases hbig:(262144:Int)<(w0:Int)+1
  ·have hRb:R=⟨2,Tm.zT,w0+1⟩:=by rw[hRR,if_pos (by omega)]
   have HRb:=zH hRb
   obtain⟨q1,q2⟩:=HXT.out
   have q3:=q1.YW (.int .i64 2)
   have q4:=q2.trans (show zD (fun b=>b=x) (w1.setCell ⟨x,0,none⟩ (.int .i64 ((w0:Int)+1))) ((w1.setCell ⟨x,0,none⟩ (.int .i64 ((w0:Int)+1))).setCell ⟨x,1,none⟩ (.int .i64 2))from zD.set (zD.refl _ _) 1 _) (fun _ _ e=>e)
   have hr3:=hr1.zF q4 (by omega)
   have hset:=hr3.set (d0:=.int .i64 0) (d1:=.string (B [])) (d2:=.int .i64 0) (d3:=.slice none 0 0)
   obtain⟨g0,g1,g2,g3⟩:=hr1.zI
   obtain⟨s0,s1,s2,s3⟩:=hr1.cells
   obtain⟨e0,e1,e2,e3⟩:=hset.1.cells
   have HEE:=zH (And.intro e0 (And.intro e1 (And.intro e2 (And.intro e3 (And.intro hset.2 (And.intro q3 q4))))))
   have hne:¬x=H+1:=by omega
   clear hRR hRb q1 q2 q3 q4 e0 e1 e2 e3 hset
   go_wp2_with fail
   obtain⟨e0,e1,e2,e3,hset,q3,q4⟩:=HEE.out
   refine bodyPost_ret (v:=.agg #[.int .i64 0,.string (B []),.int .i64 0,.slice none 0 0]) ?_ rfl ?_
   ·simp[results,Tryz.f203,go_sem,e0,e1,e2,e3]
   ·rw[HRb.out]
    refine⟨⟨⟨0,[],0,none,0,0,rfl,ze 0 [] 0⟩,?_⟩,((hU0.mono (fun _ _ x=>x.elim)).trans q4 (fun _ _ e=>e)).trans hset (fun b hb e=>by have:=HH.out;omega)⟩
    show zm _ x (.int .i64 ((w0+1:Nat):Int)) (.int .i64 2) _
    rw[HEC.out]
    exact q3.zF hset hne
  rw[if_neg (by omega)]at hRR
  have HRR:=zH hRR
  clear hRR
  obtain⟨w2,hw2⟩:∃ w2,w2=w1.setCell ⟨x,0,none⟩ (.int .i64 ((w0:Int)+1)):=⟨_,rfl⟩
  obtain⟨hX2,hU2⟩:=HXT.out
  rw[<-hw2]at hX2 hU2
  have ht2:=ht1.zF hU2 (by omega)
  have hr2:=hr1.zF hU2 (by omega)
  have hz2:w2.heap.size=H+2:=by rw[hw2];simpa using hz1'
  go_upto_region 4 with fail
  rw[<-hw2]
  clear hw2 hX1 x0 x1 y0 y1
  obtain⟨x0,x1⟩:=hX2.cells
  obtain⟨t0,t1,t2,t3⟩:=ht2.cells
  go_upto_region 8 with fail
  obtain⟨w3,hw3⟩:∃ w3,w3=w2.alloc (.cells #[.int .i64 k,.string (B nm),.int .i64 i,.slice none 0 0] 29):=⟨_,rfl⟩
  have hU3:zD zC w2 w3:=by rw[hw3];exact(zD.refl zC _).alloc _
  have ho3:zK w3 (H+1+1) (.int .i64 k) (.string (B nm)) (.int .i64 i) (.slice none 0 0) 29:=by rw[hw3];exact zK.zL (by omega)
  rw[show H+2=H+1+1 from rfl]
  rw[<-hw3]
  have hX3:=hX2.kept hU3
  have hUa:zD (fun b=>b=x) w1 w3:=hU2.trans hU3 (fun _ _ e=>e.elim)
  have hz3:H+3<=w3.heap.size:=by have:=ho3.lt;omega
  clear hw3 hX2 hU2 hU3 ht2 hr2 x0 x1 t0 t1 t2 t3
  have hd1:(d:Int)<=1048576:=hdk
  go_wp2_with fail
  go_loopw [12] (fun v12 wr=>∃(j:Nat)(er:Int)(us:List Tm)(wj:Nat)(v:Value)(css:List (List Value)),v12=.int .i64 (j:Int)/\j<=tl/\us.length=j/\
      (er=0->Tm.yy (fun d' t' w'=>Tm.sb n ms ss d' t' w') d k 0 (ts.take j) (w0+1)=⟨0,us,wj⟩/\wj<=262144)/\(¬er=0->R=⟨er,Tm.zT,wj⟩)/\
      yI 29 4 (fun b=>O b\/b=H\/b=H+1\/b=H+1+1) (H+3) wr v (us.map Tm.zN) css/\zm wr x (.int .i64 (wj:Int)) (.int .i64 er) 181/\
      zK wr (H+1+1) (.int .i64 k) (.string (B nm)) (.int .i64 i) v 29/\zD (fun b=>b=x\/b=H+1+1) w1 wr/\H+3<=wr.heap.size)
    (fun v12 _=>tl - (intOf v12).toNat)
  case atStart=>exact⟨0,0,[],w0+1,_,[],rfl,Nat.zero_le _,rfl,fun _=>⟨rfl,by omega⟩,fun h=>absurd rfl h,yI.nil _ _ _ _ _,by rw[HEC.out];exact hX3,ho3,hUa.mono (fun _ _ e=>.inl e),hz3⟩
  case round=>
    clear hX3 ho3 hUa hz3 HXS HXT
    obtain⟨j,er,us,wj,v,css,rfl,hj,hul,hA,hB,hD,hXr,hor,hU,hzr⟩:=hrel
    have ht2:=ht1.zF hU (by omega)
    have hr2:=hr1.zF hU (by omega)
    obtain⟨t0,t1,t2,t3⟩:=ht2.cells
    obtain⟨x0,x1⟩:=hXr.cells
    obtain⟨xf0,xf1⟩:=hXr.zI
    obtain⟨o0,o1,o2,o3⟩:=hor.cells
    obtain⟨f0,f1,f2,f3⟩:=hor.zI
    have q1:=ht2.lt
    have q2:=hor.lt
    have u2:(j:Int)<=4096:=by omega
    have u3:(0:Int)<=(j:Int):=by omega
    have hUw:zD (fun b=>b=x) w wr:=(hU0.mono (fun _ _ x=>x.elim)).trans hU (fun b hb e=>by rcases e with e |e;exact e;(have:=HH.out;omega))
    by_cases her:er=0
    case neg=>
      have hRn:=hB her
      have her1:(er == 0)=false:=by simpa using her
      have her2:(er !=0)=true:=by simpa using her
      have HRn:=zH hRn
      have hset:=hr2.set (d0:=.int .i64 0) (d1:=.string (B [])) (d2:=.int .i64 0) (d3:=.slice none 0 0)
      obtain⟨g0,g1,g2,g3⟩:=hr2.zI
      obtain⟨s0,s1,s2,s3⟩:=hr2.cells
      obtain⟨e0,e1,e2,e3⟩:=hset.1.cells
      have HEE:=zH (And.intro e0 (And.intro e1 (And.intro e2 (And.intro e3 hset.2))))
      have hlr:=hr2.lt
      have HUL:=zH hul
      clear e0 e1 e2 e3 hset hRn hA hB her hul
      have hways:(j:Int)<(tl:Int)\/¬(j:Int)<(tl:Int):=by omega
      rcases hways with hlt |hlt
      all_goals
        go_wp2_with fail
        obtain⟨e0,e1,e2,e3,hset⟩:=HEE.out
        refine bodyPost_ret (v:=.agg #[.int .i64 0,.string (B []),.int .i64 0,.slice none 0 0]) ?_ rfl ?_
        ·simp[results,Tryz.f203,go_sem,e0,e1,e2,e3]
        ·rw[HRn.out]
         exact⟨⟨⟨0,[],0,none,0,0,rfl,ze 0 [] 0⟩,hXr.zF hset (by omega)⟩,hUw.trans hset (fun b hb e=>by have:=HH.out;omega)⟩
    subst her
    obtain⟨hA,hwj⟩:=hA rfl
    have HA:=zH (And.intro hA (And.intro hwj hul))
    clear hA hB hwj hul
    by_cases hlt:j<tl
    ·have hjt:j<ts.length:=by rw[<-HL.out.1];exact hlt
     have u4:(j:Int)<(tl:Int):=by omega
     obtain⟨eb,eo,ek,en,ei,es,ec,rfl,hebl,hebO,p0,p1,p2,p3,hRp⟩:=zd (zG.zF (O:=fun b=>O b\/H<=b) hU (fun b e=>by rcases e with e |e;exact .inl (by rw[e];exact hx);exact .inr (by omega)) _ _ _ _ hT1) j hjt
     have hin:=(HP.out.2.2.2.1).arg j hjt
     have hstep:=Tm.Z6 (fun d' t' w'=>Tm.sb n ms ss d' t' w') d k ts (w0+1) j hjt (by rw[HA.out.1])
     rw[HA.out.1]at hstep
     have hwle:=Tm.zBI (fun d' t' w'=>Tm.sb n ms ss d' t' w') (fun d t w=>Nat.le_of_lt (Tm.zB4 n ms ss d t w)) d k (ts.take j) 0 (w0+1)
     rw[HA.out.1]at hwle
     have hun:0<=Tm.under k j/\Tm.under k j<=1:=by unfold Tm.under;split<;>omega
     have hownb:=fun b e=>hD.2.2.1.lt b e
     have IHe:=fun(W:World)(hu:zD zC wr W)=>IH ms ss (d+Tm.under k j) ts[j] wj x (fun b=>(O b\/b=H\/b=H+1\/b=H+1+1)\/v.ownBlock=some b) W ma mc sa sc _ (by have:=HP.out.1;have:=hwle;simp only at this;omega) HA.out.2.1 (HL.out.2.1.symm.trans HL.out.2.2) (by rw[<-HL.out.2.1];exact hml2) HP.out.2.1 HP.out.2.2.1 (by omega) (by have:=HP.out.2.2.2.2;have:=hin.2;omega) hin.1 (.inl (.inl hx))
       (fun b e=>by have z1:=hu.size;rcases e with e |e;(have:=HO.out b e;omega);(have:=(hownb b e).2;omega)) (hXr.kept hu) ((zG.weaken (fun b _ e=>e.elim (fun e=>e.elim .inl (fun e=>.inr (by omega))) (fun e=>.inr (by have:=(hownb b e).1;omega))) _ _ _ _ (zG.zF (O:=fun b=>O b\/H<=b) hU (fun b e=>by rcases e with e |e;exact .inl (by rw[e];exact hx);exact .inr (by omega)) _ _ _ _ hM1)).on hu) ((zG.weaken (fun b _ e=>e.elim (fun e=>e.elim .inl (fun e=>.inr (by omega))) (fun e=>.inr (by have:=(hownb b e).1;omega))) _ _ _ _ (zG.zF (O:=fun b=>O b\/H<=b) hU (fun b e=>by rcases e with e |e;exact .inl (by rw[e];exact hx);exact .inr (by omega)) _ _ _ _ hS1)).on hu)
       ((zM.weaken (fun b _ e=>e.elim (fun e=>e.elim .inl (fun e=>.inr (by omega))) (fun e=>.inr (by have:=(hownb b e).1;omega))) _ _ hRp).on hu)
     rw[<-HL.out.2.1,<-HL.out.2.2]at IHe
     have hwork:=Tm.zAB n ms ss (d+Tm.under k j) ts[j] wj HA.out.2.1
     simp only at hstep
     have H2:=fun w'(hU:zD zC wr w')=>(QR k j j rfl nm i (.slice (some ⟨eb,eo,none⟩) tl tc) w').mono fun _ _ ⟨he,hV⟩=>(⟨he,hU.and hV⟩:_/\zD zC wr _)
     generalize ts[j].args.length=el at *
     generalize Tm.sb n ms ss (d+Tm.under k j) ts[j] wj=rs at *
     have HST:=zH (And.intro hstep hwork)
     obtain⟨un,hunn⟩:∃ un,un=Tm.under k j:=⟨_,rfl⟩
     rw[<-hunn]at hun IHe H2
     have HUN:=zH hunn
     obtain⟨hun0,hun1⟩:=hun
     have hzw:IntKind.i64.wrap (d+un)=d+un:=Go.IntWalk.i64_in _ (by omega)
     have hdr:zD zC wr wr.drew:=(zD.refl zC wr).drew
     have hln:(us.map Tm.zN).length=j:=by rw[List.length_map];exact HA.out.2.2
     have HLN:=zH hln
     have nx1:¬H+1+1=x:=by omega
     have nx2:¬H=x:=by omega
     have nx3:¬eb=x:=fun e=>hebO (.inl (by rw[e];exact hx))
     have hg1:rs.e=0->Tm.yy (fun d' t' w'=>Tm.sb n ms ss d' t' w') d k 0 (ts.take (j+1)) (w0+1)=⟨0,us++[rs.t],rs.w⟩/\rs.w<=262144:=fun he=>by
       have hst:=HST.out.1
       rw[if_pos he]at hst
       exact⟨hst,HST.out.2 he⟩
     have hg2:¬rs.e=0->R=⟨rs.e,Tm.zT,rs.w⟩:=fun he=>by
       have h1:=HST.out.1
       rw[if_neg he]at h1
       have h2:=Tm.zAs (fun d' t' w'=>Tm.sb n ms ss d' t' w') d k ts (w0+1) (j+1) (by rw[h1];exact he)
       rw[HRR.out,h2,h1,if_neg he]
     have HG:=zH (And.intro hg1 hg2)
     clear hstep hwork hwle hin hRp hunn hln hg1 hg2
     go_upto_region 11 with fail
     clear x0 x1 xf0 xf1 o0 o1 o2 f0 f1 f2 hr2 hXr hUw q1 hT1 hM1 hS1 ht1 hr1 hownb
     go_region_law (first
       |((rw[if_pos (by rfl)]);go_simp;(go_at_call 136);refine(H2 _ hdr).mono ?_;rintro e w5 ⟨rfl,hU5⟩;have hor5:=hor.kept hU5;have ht5:=ht2.kept hU5;have q5:=hor5.lt;have c5:=hor5.cells.2.2.2;have z5:=hor5.frozen 3;have y5:=ht5.cells.2.2.2;have ss5:=hU5.size;have p05:=hU5.cell p0 (fun x=>x);have p15:=hU5.cell p1 (fun x=>x);have p25:=hU5.cell p2 (fun x=>x);have p35:=hU5.cell p3 (fun x=>x))
       |((rw[if_pos (by rfl)]);go_simp;(go_at_call 203);refine(IHe _ hU5).mono ?_;rintro e w6 ⟨⟨⟨k1,n1,i1,a1,len1,cap1,rfl,hR6⟩,hX6⟩,hU6⟩;have hor6:=hor5.zF hU6 nx1;have q6:=hor6.lt;have c6:=hor6.cells.2.2.2;have z6:=hor6.frozen 3;have ss6:=hU6.size;have hD6:=(hD.on hU5 HO.out).zF hU6 (fun b e=>.inl (by rw[e];exact hx)) HO.out;have hU06:zD (fun b=>b=x\/b=H+1+1) w1 w6:=(hU.trans hU5 (fun _ _ e=>e.elim)).trans hU6 (fun _ _ e=>.inl e);have hzr6:H+3<=w6.heap.size:=by omega)
       |(refine step_append_lies _ (by rfl) _ _ 26 (by rfl) (H+3) 29 i0 (.agg #[.int .i64 0,.string (B []),.int .i64 0,.slice none 0 0]) 4 56 (by kernel_rfl) hi hi0 hi1 hi2 rfl (by decide) v j css.flatten (by rfl) (by have h9:=(hD6.on ((zD.refl zC w6).alloc (.cells #[.int .i64 k1,.string (B n1),.int .i64 i1,.slice a1 len1 cap1] 29)) HO.out).2.2.1;rw[HLN.out]at h9;exact h9) ⟨w6.heap.size,0,none⟩ 1 1 [.int .i64 k1,.string (B n1),.int .i64 i1,.slice a1 len1 cap1] (by rfl) rfl (World.news_of_block (heap_alloc_new w6 _)) (by simp[Value.oneCell']) (by omega) (by simp only[maxLen];omega) (by omega) (by simp;omega) _ rfl ?_;intro g cap' w7 hown hgrow hat hlt7;have hDa:=hD6.on ((zD.refl zC w6).alloc (.cells #[.int .i64 k1,.string (B n1),.int .i64 i1,.slice a1 len1 cap1] 29)) HO.out;have hor7:=(hor6.kept ((zD.refl zC w6).alloc (.cells #[.int .i64 k1,.string (B n1),.int .i64 i1,.slice a1 len1 cap1] 29))).zFG hgrow hDa (by omega);have c7:=hor7.cells.2.2.2;have z7:=hor7.frozen 3))
     all_goals
       have hend:=zKD (u:=rs.t) hD6 hX6 hor6 hU06 hR6 HO.out (.inr (.inr (.inr rfl))) hxH rfl hz1' hzr6 HA.out.2.2 hown hgrow hat
       have HN:=zH hend
       clear hend
       go_wp2_with fail
       go_roundw
       case rel=>exact⟨j+1,rs.e,us++[rs.t],rs.w,_,_,by go_num,by omega,by rw[List.length_append,HA.out.2.2];rfl,HG.out.1,HG.out.2,HN.out.1,HN.out.2.1,HN.out.2.2.1,HN.out.2.2.2.1,HN.out.2.2.2.2⟩
       case measure=>simp[intOf];omega
    ·have hjl:j=tl:=by omega
     subst hjl
     have htk:ts.take j=ts:=List.take_of_length_le (by rw[<-HL.out.1];exact Nat.le_refl _)
     have hA:=HA.out.1
     rw[htk]at hA
     have hRn:=HRR.out
     rw[hA]at hRn
     simp only[if_true]at hRn
     obtain⟨va,vc,hv7,hvc,hF⟩:=hD.rep HO.out
     rw[List.length_map,HA.out.2.2]at hvc hv7
     subst hv7
     have husm:=Tm.zB9 (fun d' t' w'=>Tm.sb n ms ss d' t' w') (fun d t w=>Tm.zC4 n ms ss d t w) d k ts 0 (w0+1)
     rw[hA]at husm
     have huo:=fun(h5:k=5)=>Tm.zA7 (fun d' t' w'=>Tm.sb n ms ss d' t' w') d k hd0 d ts (fun d' t' w a b c=>Tm.Xd n ms ss d' t' w HP.out.2.1 a (by
       have h1:=Tm.yA c
       have h2:=HP.out.2.2.2.2
       simp only[Tm.yY]at h2
       omega) (Tm.YT (((Tm.zCT _ _ _ _).1 HP.out.2.2.2.1.vars).1 h5) t' c)) (Int.le_refl _) 0 (w0+1)
     rw[hA]at huo
     have huz:Tm.zP us<=4096 * 4096:=by
       have h1:=Tm.Y5 4096 us (fun u hu=>Tm.xF (husm u hu))
       rw[HA.out.2.2]at h1
       have:4096 * j<=4096 * 4096:=Nat.mul_le_mul_left _ htl
       omega
     have hidx:=((Tm.Q7 HP.out.2.2.2.1.ok))
     have HX:=zH (And.intro hRn (And.intro husm (And.intro huo (And.intro hA huz))))
     clear hRn husm huo hA htk huz hD
     have hjn:¬(j:Int)<(j:Int):=by omega
     have hlr:=hr2.lt
     obtain⟨g0,g1,g2,g3⟩:=hr2.zI
     by_cases hvar:k=5/\d<=i
     case neg=>
       have hRc:R=Tm.ZU (.mk k nm i us) wj:=by rw[HX.out.1];unfold Tm.sbN;rw[if_neg hvar]
       have hout:zM (fun b=>O b\/b=H\/b=H+1\/b=H+1+1) wr (Tm.mk k nm i us).zN [.int .i64 k,.string (B nm),.int .i64 i,.slice va j vc]:=zk.2 ⟨va,vc,by rw[HA.out.2.2],by rw[HA.out.2.2];exact hvc,hF⟩
       have CH:=Zr (.mk k nm i us) (by rw[Tm.zS];have:=HX.out.2.2.2.2;omega) x wj (fun b=>O b\/b=H\/b=H+1\/b=H+1+1) wr (.inl hx) (fun b e=>by have:=HO.out b e;omega) k i nm va j vc hXr hout
       rw[<-hRc]at CH
       have hways:((k == 5)=false)\/(k=5/\i<d):=by
         by_cases h5:k=5
         ·right;exact⟨h5,by have:=fun h=>hvar ⟨h5,h⟩;omega⟩
         ·left;simpa using h5
       have hr8:=hr2
       have hU8:=hUw
       clear hRc hvar hout hF hvc
       rcases hways with hk5 |⟨rfl,hlt5⟩
       case' inr=>
         have hb5:=hidx rfl
         have hlt6:¬d<=i:=by omega
       all_goals
         clear hidx
         go_wp2_with fail
         (with_reducible refine CH.mono ?_)
         rintro e w5 ⟨⟨⟨k5,n5,i5,a5,len5,cap5,rfl,hR5⟩,hX5⟩,hU5⟩
         have hr5:=hr8.zF hU5 (by omega)
         obtain⟨s0,s1,s2,s3⟩:=hr5.cells
         obtain⟨z0,z1,z2,z3⟩:=hr5.zI
         have hset:=hr5.set (d0:=.int .i64 k5) (d1:=.string (B n5)) (d2:=.int .i64 i5) (d3:=.slice a5 len5 cap5)
         obtain⟨e0,e1,e2,e3⟩:=hset.1.cells
         have HEE:=zH (And.intro e0 (And.intro e1 (And.intro e2 (And.intro e3 hset.2))))
         clear e0 e1 e2 e3 hset
         go_wp2_with fail
         obtain⟨e0,e1,e2,e3,hset⟩:=HEE.out
         refine bodyPost_ret (v:=.agg #[.int .i64 k5,.string (B n5),.int .i64 i5,.slice a5 len5 cap5]) ?_ rfl ?_
         ·simp[results,Tryz.f203,go_sem,e0,e1,e2,e3]
         ·exact zCb hR5 hX5 (hU8.trans hU5 (fun _ _ e=>e)) hset HH.out hxH
     obtain⟨rfl,hdi⟩:=hvar
     obtain⟨hb5,hb6⟩:=hidx rfl
     obtain⟨m,hm⟩:∃ m:Nat,i - d=(m:Int):=⟨(i - d).toNat,by omega⟩
     have hwr5:IntKind.i64.wrap (i - d)=(m:Int):=by rw[<-hm];exact Go.IntWalk.i64_in _ (by omega)
     have hm0:(0:Int)<=(m:Int):=by omega
     have hm1:¬(m:Int)<0:=by omega
     have hm2:(m:Int)<=1048576:=by omega
     have hmt:(i - d).toNat=m:=by omega
     have HM:=zH (And.intro hm (And.intro hmt hdi))
     have hdi2:d<=i:=hdi
     clear hm hmt hdi hidx
     by_cases hlm:(m:Int)<(ml:Int)
     case neg=>
       have hRc:R=Tm.ZU (.mk 5 nm (i - (ml:Int)) us) wj:=by
         rw[HX.out.1];unfold Tm.sbN;rw[if_pos ⟨rfl,HM.out.2.2⟩,if_neg (by rw[HM.out.1,<-HL.out.2.1];exact hlm),HL.out.2.1]
       have hset2:zD (fun b=>b=H+1+1) wr (wr.setCell ⟨H+1+1,2,none⟩ (.int .i64 (i - (ml:Int)))):=zD.set (zD.refl _ _) 2 _
       have hor2:=hor.Yq (.int .i64 (i - (ml:Int)))
       have hF2:=zG.zF hset2 (fun b e=>.inr (.inr (.inr e))) _ _ _ _ hF
       have hX2:=hXr.zF hset2 (by omega)
       have hr8:=hr2.zF hset2 (by omega)
       have hU8:zD (fun b=>b=x) w (wr.setCell ⟨H+1+1,2,none⟩ (.int .i64 (i - (ml:Int)))):=hUw.trans hset2 (fun b hb e=>by have:=HH.out;omega)
       have hout:zM (fun b=>O b\/b=H\/b=H+1\/b=H+1+1) (wr.setCell ⟨H+1+1,2,none⟩ (.int .i64 (i - (ml:Int)))) (Tm.mk 5 nm (i - (ml:Int)) us).zN [.int .i64 5,.string (B nm),.int .i64 (i - (ml:Int)),.slice va j vc]:=zk.2 ⟨va,vc,by rw[HA.out.2.2],by rw[HA.out.2.2];exact hvc,hF2⟩
       have CH:=Zr (.mk 5 nm (i - (ml:Int)) us) (by rw[Tm.zS];have:=HX.out.2.2.2.2;omega) x wj (fun b=>O b\/b=H\/b=H+1\/b=H+1+1) (wr.setCell ⟨H+1+1,2,none⟩ (.int .i64 (i - (ml:Int)))) (.inl hx) (fun b e=>by have:=HO.out b e;have:=hset2.size;omega) 5 (i - (ml:Int)) nm va j vc hX2 hout
       rw[<-hRc]at CH
       have hwr6:IntKind.i64.wrap (i - (ml:Int))=i - (ml:Int):=Go.IntWalk.i64_in _ (by omega)
       obtain⟨oo0,oo1,oo2,oo3⟩:=hor2.cells
       have HOO:=zH (And.intro oo0 (And.intro oo1 (And.intro oo2 oo3)))
       clear hRc hout hF hF2 hvc oo0 oo1 oo2 oo3 hor2 hset2 hX2
       go_wp2_with fail
       (with_reducible refine CH.mono ?_)
       rintro e w5 ⟨⟨⟨k5,n5,i5,a5,len5,cap5,rfl,hR5⟩,hX5⟩,hU5⟩
       have hr5:=hr8.zF hU5 (by omega)
       obtain⟨s0,s1,s2,s3⟩:=hr5.cells
       obtain⟨z0,z1,z2,z3⟩:=hr5.zI
       have hset:=hr5.set (d0:=.int .i64 k5) (d1:=.string (B n5)) (d2:=.int .i64 i5) (d3:=.slice a5 len5 cap5)
       obtain⟨e0,e1,e2,e3⟩:=hset.1.cells
       have HEE:=zH (And.intro e0 (And.intro e1 (And.intro e2 (And.intro e3 hset.2))))
       clear e0 e1 e2 e3 hset
       go_wp2_with fail
       obtain⟨e0,e1,e2,e3,hset⟩:=HEE.out
       refine bodyPost_ret (v:=.agg #[.int .i64 k5,.string (B n5),.int .i64 i5,.slice a5 len5 cap5]) ?_ rfl ?_
       ·simp[results,Tryz.f203,go_sem,e0,e1,e2,e3]
       ·exact zCb hR5 hX5 (hU8.trans hU5 (fun _ _ e=>e)) hset HH.out hxH
     have hmm:m<ms.length:=by rw[<-HL.out.2.1];omega
     have hms':m<ss.length:=by rw[<-HL.out.2.2];omega
     have hkO:∀ b,(b=x\/b=H+1+1)->(O b\/H<=b):=fun b e=>by rcases e with e |e;exact .inl (by rw[e];exact hx);exact .inr (by omega)
     obtain⟨mb,mo,mk',mn,mi,msl,mc',rfl,hmbl,hmbO,m0,m1,m2,m3,hRm⟩:=zd (zG.zF hU hkO _ _ _ _ hM1) m hmm
     obtain⟨sb',so,sn,st,stc,rfl,hsbl,hsbO,p0,p1,hRs⟩:=Zz (zG.zF hU hkO _ _ _ _ hS1) m hms'
     obtain⟨hmo,hmsm⟩:=HP.out.2.1 _ (List.getElem_mem hmm)
     have hmwf:=Tm.ZT hmo hmsm
     have MV:=zDp d 0 hd0 hd1 (by omega) (by omega) ms[m] (by have:=Tm.xF hmsm;omega) (Tm.zBB _ hmo) 0 0 wr _ (by omega) (by have:=Tm.xF hmsm;omega) (by omega) (yV hRm)
     have GR:=fun(W:World)(cs:List Value)(h:zM zC W (Tm.mv (Tm.ZY d 0) 0 ms[m]).zN cs)=>Qy (Tm.mv (Tm.ZY d 0) 0 ms[m]) (by rw[Tm.Q9];have:=Tm.xF hmsm;omega) W cs h
     have hRv:R=if 1048576<Tm.xK (Tm.mv (Tm.ZY d 0) 0 ms[m])then⟨5,Tm.zT,wj⟩else Tm.ap (Tm.Xb n) (Tm.mv (Tm.ZY d 0) 0 ms[m]) ss[m].args us wj:=by
       rw[HX.out.1];unfold Tm.sbN
       rw[if_pos ⟨rfl,HM.out.2.2⟩,if_pos (by rw[HM.out.1,<-HL.out.2.1];exact hlm),HM.out.2.1]
       simp only[List.getD_eq_getElem?_getD,List.getElem?_eq_getElem hmm,List.getElem?_eq_getElem hms',Option.getD_some]
     obtain⟨gr,hgr⟩:∃ gr,gr=Tm.xK (Tm.mv (Tm.ZY d 0) 0 ms[m]):=⟨_,rfl⟩
     rw[<-hgr]at GR hRv
     obtain⟨X5,hX5⟩:∃ X5,X5=Tm.mv (Tm.ZY d 0) 0 ms[m]:=⟨_,rfl⟩
     have hXo:¬1048576<gr->X5.isObj=true/\X5.small=true:=fun h=>⟨by rw[hX5];exact Tm.zEM hmo hmsm d hd0 hd1 (by rw[<-hgr];exact h),by rw[hX5,Tm.zBD];exact hmsm⟩
     rw[<-hX5]at GR hRv MV
     have HV:=zH (And.intro hRv (And.intro hXo hkO))
     clear hRv hXo hgr hX5 hmo hmsm hmwf hRm hkO
     generalize ms[m].args.length=el at *
     go_wp2_with fail
     (with_reducible refine MV.mono ?_)
     rintro e w5 ⟨k5,i5,n5,a5,len5,cap5,rfl,hR5,hU5⟩
     obtain⟨w6,hw6⟩:∃ w6,w6=w5.alloc (.cells #[.int .i64 k5,.string (B n5),.int .i64 i5,.slice a5 len5 cap5] 29):=⟨_,rfl⟩
     have hUa:zD zC w5 w6:=by rw[hw6];exact(zD.refl zC _).alloc _
     have hy6:zK w6 w5.heap.size (.int .i64 k5) (.string (B n5)) (.int .i64 i5) (.slice a5 len5 cap5) 29:=by rw[hw6];exact zK.zL rfl
     have hU56:=hU5.and hUa
     have hR6:zM (fun b=>O b\/b=H\/b=H+1\/b=H+1+1) w6 X5.zN [.int .i64 k5,.string (B n5),.int .i64 i5,.slice a5 len5 cap5]:=(zM.weaken (fun b _ e=>by have:=HO.out b e;omega) _ _ hR5).on hUa
     have hz56:=hU5.size
     obtain⟨Y,hY⟩:∃ Y,Y=w5.heap.size:=⟨_,rfl⟩
     rw[<-hY]at hy6 hz56
     have HY:=zH hY
     have HW6:=zH hw6
     have hr6:=hr2.kept hU56
     have ho6:=hor.kept hU56
     have hX6:=hXr.kept hU56
     have hF6:=hF.on hU56
     have hUw6:=hUw.trans hU56 (fun _ _ e=>e.elim)
     have P0:=hU56.cell p0 (fun x=>x)
     have P1:=hU56.cell p1 (fun x=>x)
     have G6:=GR w6 _ (yV hR6)
     clear hw6 hY hR5 hUa MV GR m0 m1 m2 m3 p0 p1 t0 t1 t2 t3 o0 o1 o2 o3 x0 x1 f0 f1 f2 f3 xf0 xf1 hF
     obtain⟨b0,b1,b2,b3⟩:=hy6.cells
     go_upto_region 18 with fail
     rw[<-HY.out,<-HW6.out]
     go_wp2_with fail
     (with_reducible refine G6.mono ?_)
     rintro e w7 ⟨rfl,hU7⟩
     have hr7:=hr6.kept hU7
     have ho7:=ho6.kept hU7
     have hX7:=hX6.kept hU7
     have hF7:=hF6.on hU7
     have hy7:=hy6.kept hU7
     have hR7:=hR6.on hU7
     have hUw7:=hUw6.trans hU7 (fun _ _ e=>e.elim)
     have Q0:=hU7.cell P0 (fun x=>x)
     have Q1:=hU7.cell P1 (fun x=>x)
     have hz7:wr.heap.size<=w7.heap.size:=Nat.le_trans hU56.size hU7.size
     clear hr6 ho6 hX6 hF6 hy6 hR6 hUw6 P0 P1 b0 b1 b2 b3 g0 g1 g2 g3 G6
     obtain⟨x0,x1⟩:=hX7.cells
     obtain⟨xf0,xf1⟩:=hX7.zI
     obtain⟨g0,g1,g2,g3⟩:=hr7.zI
     have hlr7:=hr7.lt
     by_cases hg:1048576<gr
     ·obtain⟨s0,s1,s2,s3⟩:=hr7.cells
      have hRc:R=⟨5,Tm.zT,wj⟩:=by rw[HV.out.1,if_pos hg]
      have q3:=hX7.YW (.int .i64 5)
      have q4:zD (fun b=>b=x) w7 (w7.setCell ⟨x,1,none⟩ (.int .i64 5)):=zD.set (zD.refl _ _) 1 _
      have hr8:=hr7.zF q4 (by omega)
      have hset:=hr8.set (d0:=.int .i64 0) (d1:=.string (B [])) (d2:=.int .i64 0) (d3:=.slice none 0 0)
      obtain⟨e0,e1,e2,e3⟩:=hset.1.cells
      have HEE:=zH (And.intro e0 (And.intro e1 (And.intro e2 (And.intro e3 (And.intro hset.2 (And.intro q3 (And.intro q4 hRc)))))))
      have hne:¬x=H+1:=by omega
      clear hRc q3 q4 e0 e1 e2 e3 hset
      go_wp2_with fail
      obtain⟨e0,e1,e2,e3,hset,q3,q4,hRc⟩:=HEE.out
      refine bodyPost_ret (v:=.agg #[.int .i64 0,.string (B []),.int .i64 0,.slice none 0 0]) ?_ rfl ?_
      ·simp[results,Tryz.f203,go_sem,e0,e1,e2,e3]
      ·rw[hRc]
       exact⟨⟨⟨0,[],0,none,0,0,rfl,ze 0 [] 0⟩,q3.zF hset hne⟩,(hUw7.trans q4 (fun _ _ e=>e)).trans hset (fun b hb e=>by have:=HH.out;omega)⟩
     ·have HG:=zH hg
      have hgb:decide (1048576<gr)=false:=by simpa using hg
      clear hg
      go_upto_region 21 with fail
      have hg:=HG.out
      obtain⟨hXo,hXs⟩:=HV.out.2.1 (by omega)
      have hRc:R=Tm.ap (Tm.Xb n) X5 ss[m].args us wj:=by rw[HV.out.1,if_neg (by omega)]
      obtain⟨sts,hss1,hss2,hss3,hEs⟩:=zHC (zM.weaken (O:=fun b=>O b\/H<=b) (O':=fun b=>O b\/b=H\/b=H+1\/b=H+1+1) (fun b _ e=>e.elim .inl (fun e=>.inr (by omega))) _ _ hRs)
      have hsz9:∀ s∈sts,s.size<=4096:=fun s hs=>by
        have h1:=HP.out.2.2.1 _ (List.getElem_mem hms')
        have h2:=Sm.zR hs
        rw[hss1,Sm.zS]at h1
        omega
      have hsl9:sts.length<=10000:=by
        have h1:=HP.out.2.2.1 _ (List.getElem_mem hms')
        have h2:=Sm.zO sts
        rw[hss1,Sm.zS]at h1
        omega
      have hsa:ss[m].args=sts:=by rw[hss1];rfl
      have hsal:ss[m].args.length=sts.length:=by rw[hsa]
      rw[hsa]at hRc
      rw[hsal]at Q1 hRs hss2 hss3
      have hwle:=Tm.zBI (fun d' t' w'=>Tm.sb n ms ss d' t' w') (fun d t w=>Nat.le_of_lt (Tm.zB4 n ms ss d t w)) d 5 ts 0 (w0+1)
      rw[HX.out.2.2.2.1]at hwle
      have hfl:262145<=n+wj:=by have:=HP.out.1;have:=hwle;simp only at this;omega
      have AP:=fun(W:World)(hu:zD zC w7 W)=>
        Y7 n IH X5 sts us sn wj x (fun b=>O b\/b=H\/b=H+1\/b=H+1+1) W k5 i5 n5 a5 len5 cap5 st stc va vc hfl HA.out.2.1 hXo hXs (by rw[HA.out.2.2];omega) hsl9 (by rw[HA.out.2.2];exact hvc) hss3 (HX.out.2.2.1 (by first |rfl |trivial)) hsz9 (.inl hx)
          (fun b e=>by have:=HO.out b e;have:=hu.size;omega) (hX7.kept hu) (hR7.on hu) ((hEs.on (hU56.and hU7)).on hu) (hF7.on hu)
      rw[HA.out.2.2,<-hRc]at AP
      have hd7:zD zC w7 w7.drew:=(zD.refl zC w7).drew
      have S7:Rs8 Y H sb' (so+m * 2) _ _ _ _ _ _ _ w7:=⟨hy7.cells,ho7.cells.2.2.2,⟨Q0,Q1⟩⟩
      have Sd:=S7.zF hd7 (fun x=>x) (fun x=>x) (fun x=>x)
      have APd:=AP w7.drew hd7
      have hrd:=hr7.kept hd7
      have hsbx:¬sb'=x:=fun e=>hsbO (.inl (by rw[e];exact hx))
      have hsbH:¬H<=sb':=fun e=>hsbO (.inr e)
      have nk1:¬Y=x:=by omega
      have nk2:¬H+1+1=x:=by omega
      have nk3:¬H+1=x:=by omega
      have nr1:¬Y=H+1:=by omega
      have nr2:¬H+1+1=H+1:=by omega
      have nr3:¬sb'=H+1:=by omega
      clear AP S7 hy7 Q0 Q1 hr7 hR7 hF7 ho7 hRc hss1 hss2 hss3 hsz9 hsl9 hsa hsal hwle hfl hXo hXs hEs hRs hsbH
      generalize sts.length=stl at *
      go_region_held3 (fun w'=>Rs8 Y H sb' (so+m * 2) (.int .i64 k5) (.string (B n5)) (.int .i64 i5) (.slice a5 len5 cap5) (.slice va j vc) (.string (B sn)) (.slice st stl stc) w')
        (first |(with_reducible assumption)|(with_reducible exact Sd)|(with_reducible exact Rs8.Ye S8 nr1 nr2 nr3 _ _ _ _))
        (first
          |((go_at_call 172);(with_reducible refine APd.mono ?_);rintro e w8 ⟨⟨⟨k8,n8,i8,a8,len8,cap8,rfl,hR8⟩,hX8⟩,hU8⟩;have S8:=Sd.zF hU8 nk1 nk2 hsbx;have hr8:=hrd.zF hU8 nk3;have c8:=hr8.cells;have z8:=hr8.zI;obtain⟨c80,c81,c82,c83⟩:=c8;obtain⟨z80,z81,z82,z83⟩:=z8))
      all_goals
        have hset:=hr8.set (d0:=.int .i64 k8) (d1:=.string (B n8)) (d2:=.int .i64 i8) (d3:=.slice a8 len8 cap8)
        obtain⟨e0,e1,e2,e3⟩:=hset.1.cells
        have HEE:=zH (And.intro e0 (And.intro e1 (And.intro e2 (And.intro e3 hset.2))))
        clear e0 e1 e2 e3 hset
        go_wp2_with fail
        obtain⟨e0,e1,e2,e3,hset⟩:=HEE.out
        refine bodyPost_ret (v:=.agg #[.int .i64 k8,.string (B n8),.int .i64 i8,.slice a8 len8 cap8]) ?_ rfl ?_
        ·simp[results,Tryz.f203,go_sem,e0,e1,e2,e3]
        ·exact zCb hR8 hX8 ((hUw7.trans hd7 (fun _ _ e=>e.elim)).trans hU8 (fun _ _ e=>e)) hset HH.out hxH
theorem zEL(n:Nat):zFb n:=by
  induction n with
  |zero=>intro ms ss d t w0 x O w ma mc sa sc cs hn hw0;omega
  |succ n ih=>exact zD0 n ih
end Go.Proofs.YthgmimncdjhgnaaGreatDoor
