/- pattern.pis; slices.Contains and pattern.Narrow at what lfchecklaw14.awake gives them. -/
import Derived.Test.YthgmimncdjhgnaaGreatDoorWCF
import Derived.Test.YthgmimncdjhgnaaGreatDoorWCK
import Derived.Test.YthgmimncdjhgnaaGreatDoorWDC
import Derived.Test.YthgmimncdjhgnaaGreatDoorWFC
import Derived.Test.YthgmimncdjhgnaaGreatDoorWFG
import Derived.Test.YthgmimncdjhgnaaGreatDoorWFJ
import Derived.Test.YthgmimncdjhgnaaGreatDoorWPA
import Derived.Test.YthgmimncdjhgnaaGreatDoorWPB
import Derived.Test.YthgmimncdjhgnaaGreatDoorWPD
import Derived.Deep.CutRange
import Derived.Deep.RegionHeld3
import Derived.Deep.RegionLaw
set_option maxRecDepth 100000
set_option maxHeartbeats 8000000
namespace Go.Proofs.YthgmimncdjhgnaaGreatDoor
section
open Go.RowKit Go.LF
theorem zAQ(t:Tm)(hs:t.wt<=1000000)(w:World)(cs:List Value)(h:zK zC w t.zM cs):
    Calls Tryz.prog 149 #[.agg cs.toArray] w fun e w'=>e=.returned (.int .i64 (t.erV.args.length:Int))/\zD zC w w':=by
  have ER:=fun(W:World)(hW:zD zC w W)=>QE t hs W cs (h.on hW)
  obtain⟨k,nm,i,ts,a,cap,ht,rfl,_,_⟩:=zU h;generalize ts.length=len at *
  obtain⟨w1,hw1⟩:∃ w1,w1=w.alloc (.cells #[.int .i64 k,.string (B nm),.int .i64 i,.slice a len cap] 29):=⟨_,rfl⟩;have hU1:zD zC w w1:=by rw[hw1];exact(zD.refl zC w).alloc _
  have ht1:zG w1 w.heap.size (.int .i64 k) (.string (B nm)) (.int .i64 i) (.slice a len cap) 29:=by rw[hw1];exact zG.zJ rfl
  have ER1:=ER w1 hU1;have HW1:=zF hw1;obtain⟨s,hs'⟩:∃ s,s=t.erV:=⟨_,rfl⟩;obtain⟨n,hn⟩:∃ n,n=s.args.length:=⟨_,rfl⟩;rw[<-hs']at ER1;rw[<-hs',<-hn];have HN:=zF hn;clear hw1 hn hs' ER h ht;obtain⟨x0,x1,x2,x3⟩:=ht1.cells;go_enter Tryz.func149,Tryz.ntmps149
  go_upto_region 1 with fail
  rw[<-HW1.out];go_wp2_with fail
  (with_reducible refine ER1.mono ?_);rintro e w2 ⟨f,sa,sl,sc,rfl,hS,hU2⟩;obtain⟨f',ss,sa',sc',hss,hcs,-,-⟩:=QB hS
  have hl:sl=n:=by
    rw[HN.out,hss];simp only[List.cons.injEq,Value.slice.injEq,and_true]at hcs;exact hcs.2.2.1
  subst hl;clear hS hss hcs x0 x1 x2 x3;go_wp2_with fail
  go_ret
  exact⟨rfl,(hU1.and hU2).alloc _⟩
theorem zFm(w:World)(kb:Nat)(hk:w.cell? ⟨kb,0,none⟩=some (.bool false)):
    Calls Tryz.prog 179 #[.slice (some ⟨kb,0,none⟩) 1 1,.bool false] w fun e w'=>e=.returned (.int .i64 0)/\w'=w:=by
  go_enter Tryz.func179,Tryz.ntmps179
  go_wp2_with fail
  go_loopw [8] (fun v wr=>v=.int .i64 0/\wr=w) (fun _ _=>0)
  case atStart=>exact⟨rfl,rfl⟩
  case round=>
    obtain⟨rfl,rfl⟩:=hrel;go_wp2_with fail
    go_ret
    exact⟨rfl,rfl⟩
theorem zB6(w:World)(kb:Nat)(hk:w.cell? ⟨kb,0,none⟩=some (.bool false)):
    Calls Tryz.prog 151 #[.slice (some ⟨kb,0,none⟩) 1 1,.bool false] w fun e w'=>e=.returned (.bool true)/\w'=w:=by
  have IX:=zFm w kb hk;go_enter Tryz.func151,Tryz.ntmps151
  go_wp2_with fail
  refine IX.mono ?_;rintro e w1 ⟨rfl,rfl⟩;go_wp2_with fail
  go_ret
  exact⟨rfl,rfl⟩
theorem XQ{w:World}{ib:Nat}{x:Int}(h:w.cell? ⟨ib,0,none⟩=some (.int .i64 x))(hl:ib<w.heap.size):zH zC w 1 ([x].map (yP.int .i64)) (some ⟨ib,0,none⟩) 0:=by
  simp only[List.map_cons,List.map_nil,zH,and_true];refine⟨ib,0,[.int .i64 x],rfl,hl,fun e=>e,rfl,fun m v hv=>?_,by simp[zK]⟩;match m,hv with
  |0,hv=>simp at hv;subst hv;exact h
theorem zHB:xX.wf=0/\xX.wt<=1000/\(xX.zT && xX.small)=true/\xX.erV.args.length=1/\(if xX.wf == 0 then xX.scope else 0)=0/\yz.wt<=1000/\yz.YL [-1]=true:=by decide+kernel
theorem zIi:yz.Y1 [-1]=yz:=by kernel_rfl
theorem zBa(w:World)(cs:List Value)(h:zK zC w xX.zM cs)(kb:Nat)(hk:w.cell? ⟨kb,0,none⟩=some (.bool false)):
    Calls Tryz.prog 96 #[.agg cs.toArray,.slice (some ⟨kb,0,none⟩) 1 1] w (Zw yz (.bool true) w):=by
  obtain⟨f1,f2,f3,f4,f5,f6,f8⟩:=zHB;have IT:=fun(W:World)(hW:zD zC w W)=>XV xX (by omega) W cs (h.on hW)
  have PI:=fun(W:World)(hW:zD zC w W)=>zAQ xX (by omega) W cs (h.on hW)
  have SC:=fun(W:World)(hW:zD zC w W)=>X8 xX (by omega) W cs (h.on hW)
  rw[f3]at IT;rw[f4]at PI;rw[f5]at SC;obtain⟨a,cap,rfl,hcap,hE⟩:=zd.1 h;have hl2:[yz,yz].length=2:=rfl;rw[hl2]at IT PI SC;rw[hl2];obtain⟨w1,hw1⟩:∃ w1,w1=(w.alloc (.cells #[.int .i64 2,.string (B []),.int .i64 0,.slice a 2 cap] 29)).alloc (.cells #[.int .i64 0,.string (B []),.int .i64 0,.slice none 0 0] 29):=⟨_,rfl⟩;have hU1:zD zC w w1:=by rw[hw1];exact((zD.refl zC w).alloc _).alloc _
  have ht1:zG w1 w.heap.size (.int .i64 2) (.string (B [])) (.int .i64 0) (.slice a 2 cap) 29:=by rw[hw1];exact(zG.zJ rfl).kept ((zD.refl zC _).alloc _)
  have hr1:zG w1 (w.heap.size+1) (.int .i64 0) (.string (B [])) (.int .i64 0) (.slice none 0 0) 29:=by rw[hw1];exact zG.zJ (by simp)
  have hz1:w1.heap.size=w.heap.size+2:=by rw[hw1];simp
  have IT1:=IT w1 hU1;have HW1:=zF hw1;clear hw1 IT f1 f2 f3 f4 f5 h;obtain⟨x0,x1,x2,x3⟩:=ht1.cells;go_enter Tryz.func96,Tryz.ntmps96
  go_upto_region 1 with fail
  rw[<-show B []={ data:=#[] }from rfl,<-HW1.out];go_wp2_with fail
  (with_reducible refine IT1.mono ?_);rintro e w2 ⟨rfl,hU2⟩;have PI2:=PI w2 (hU1.and hU2);have ht2:=ht1.kept hU2;clear IT1 PI x0 x1 x2 x3;obtain⟨x0,x1,x2,x3⟩:=ht2.cells;go_wp2_with fail
  (with_reducible refine PI2.mono ?_);rintro e w3 ⟨rfl,hU3⟩;have hU13:=hU2.and hU3;have SC3:=SC w3 (hU1.and hU13);have ht3:=ht1.kept hU13;have hr3:=hr1.kept hU13;clear PI2 SC x0 x1 x2 x3 ht2;obtain⟨x0,x1,x2,x3⟩:=ht3.cells;go_upto_region 5 with fail
  go_wp2_with fail
  (with_reducible refine SC3.mono ?_);rintro e w4 ⟨rfl,hU4⟩;have mk:=Zc 0 (by omega) w4;obtain⟨w5,hw5⟩:∃ w5,w5=w4.alloc (.cells (zo 0 0).toArray 3):=⟨_,rfl⟩;have hU15:zD zC w1 w5:=by rw[hw5];exact(hU13.and hU4).alloc _
  rw[<-hw5]at mk;simp only[Int.natCast_zero]at mk;have HW5:=zF hw5;have ht5:=ht1.kept hU15;have hr5:=hr1.kept hU15;have hk5:=hU15.cell (hU1.cell hk (fun x=>x)) (fun x=>x);have hE5:=(zH.zY _ _ _ _ hE).on (hU1.and hU15);clear hw5 x0 x1 x2 x3 SC3 ht3 hr3 hk;go_wp2_with fail
  go_loopw [36] (fun v wr=>v=.int .i64 0/\wr=w5) (fun _ _=>0)
  case atStart=>exact⟨rfl,rfl⟩
  case round=>
    obtain⟨rfl,rfl⟩:=hrel;go_wp2_with fail
    obtain⟨ab,ao,k1,n1,i1,s1,c1,rfl,habl,_,p0,p1,p2,p3,hRn⟩:=zk hE5 1 (by simp);simp only[List.getElem_cons_succ,List.getElem_cons_zero]at p3 hRn;rw[show yz.args.length=0 from rfl]at p3 hRn;obtain⟨H,hH⟩:∃ H,H=w.heap.size:=⟨_,rfl⟩;rw[<-hH]at ht5 hr5 hz1 ⊢;have HH:=zF hH;obtain⟨w5,rfl⟩:∃ q,q=wr:=⟨_,rfl⟩;have hz5:=hU15.size;clear hH mk hE5 hE ht1 hr1 hU2 hU3 hU13 hU4
    go_loopw [6,7,8,46] (fun v6 v7 v8 v wr=>v6=.slice none 0 0/\v7=.slice none 0 0/\((v8=.slice (some ⟨w4.heap.size,0,none⟩) 0 0/\v=.int .i64 0/\wr=w5)\/
      (∃(ib:Nat),v8=.slice (some ⟨ib,0,none⟩) 1 1/\v=.int .i64 1/\wr.cell? ⟨ib,0,none⟩=some (.int .i64 (-1))/\ib<wr.heap.size/\zG wr H (.int .i64 k1) (.string (B n1)) (.int .i64 i1) (.slice s1 0 c1) 29/\zG wr (H+1) (.int .i64 0) (.string (B [])) (.int .i64 0) (.slice none 0 0) 29/\
        zK zC wr yz.zM [.int .i64 k1,.string (B n1),.int .i64 i1,.slice s1 0 c1]/\zD (fun b=>b=H) w1 wr)))
      (fun _ _ _ v _=>1 - (intOf v).toNat)
    case atStart=>exact⟨rfl,rfl,.inl ⟨rfl,rfl,rfl⟩⟩
    case round=>
      obtain⟨rfl,rfl,hrel⟩:=hrel;rcases hrel with⟨rfl,rfl,rfl⟩|⟨ib,rfl,rfl,hib,hibl,hb,hr,hR,hU⟩
      ·obtain⟨w6,hw6⟩:∃ w6,w6=wr.alloc (.cells #[.int .i64 (-1)] 3):=⟨_,rfl⟩;have HW6:=zF hw6;go_wp2_with fail
       rw[<-HW6.out];have hU6:zD zC wr w6:=by rw[HW6.out];exact(zD.refl zC _).alloc _
       have hi6:w6.cell? ⟨wr.heap.size,0,none⟩=some (.int .i64 (-1)):=by rw[HW6.out];simp
       have hl6:wr.heap.size<w6.heap.size:=by rw[HW6.out];simp
       have ht6:=ht5.kept hU6;have hr6:=hr5.kept hU6;have q0:=hU6.cell p0 (fun x=>x);have q1:=hU6.cell p1 (fun x=>x);have q2:=hU6.cell p2 (fun x=>x);have q3:=hU6.cell p3 (fun x=>x);have hRn6:=hRn.on hU6;have hU16:=hU15.and hU6;clear hw6 ht5 hr5 p0 p1 p2 p3 hRn hk5;obtain⟨I,hI⟩:∃ I,I=wr.heap.size:=⟨_,rfl⟩;rw[<-hI]at hi6 hl6 ⊢;have hI5:w1.heap.size<=I:=by rw[hI];exact hz5
       clear hI;go_loopw [12,77] (fun v12 v wz=>v12=.slice (some ⟨I,0,none⟩) 1 1/\v=.int .i64 0/\wz=w6) (fun _ _ _=>0)
       case atStart=>exact⟨rfl,rfl,rfl⟩
       case round=>
         obtain⟨rfl,rfl,rfl⟩:=hrel;have hd:=(zD.refl zC wr).drew;have td:=ht6.kept hd;obtain⟨x0,x1,x2,x3⟩:=td.cells;obtain⟨y0,y1,y2,y3⟩:=td.zI;have yl:=td.lt;obtain⟨u0,u1,u2,u3⟩:=ht6.cells;obtain⟨g0,g1,g2,g3⟩:=ht6.zI;have gl:=ht6.lt;have e0:=hd.cell q0 (fun x=>x);have e1:=hd.cell q1 (fun x=>x);have e2:=hd.cell q2 (fun x=>x);have e3:=hd.cell q3 (fun x=>x);go_upto_region 28 with fail
         go_region_law (fail)
         have hset:=td.set (d0:=.int .i64 k1) (d1:=.string (B n1)) (d2:=.int .i64 i1) (d3:=.slice s1 0 c1);have hU9:zD (fun b=>b=H) w1 _:=(hU16.and hd |>.mono (fun _ _ e=>e.elim)).trans hset.2 (fun _ _ e=>e);have hIH:I≠H:=by omega
         have HN:=zF (And.intro (hset.2.cell (hd.cell hi6 (fun x=>x)) hIH) (And.intro (Nat.lt_of_lt_of_le hl6 hset.2.size) (And.intro hset.1 (And.intro ((hr6.kept hd).zE hset.2 (by omega)) (And.intro (zK.zE hset.2 (fun b e=>by have:=HH.out;omega) _ _ (hRn6.on hd)) hU9)))));go_wp2_with fail
         go_roundw
         case rel=>exact⟨rfl,rfl,.inr ⟨I,rfl,by go_num,HN.out.1,HN.out.2.1,HN.out.2.2.1,HN.out.2.2.2.1,zK.weaken (fun _ _ e=>e.elim) _ _ HN.out.2.2.2.2.1,HN.out.2.2.2.2.2⟩⟩
         case measure=>simp[intOf]
      ·have RN:=zD2 yz (by omega) [-1] (some ⟨ib,0,none⟩) 1 (by simp) wr _ hR (XQ hib hibl);rw[zIi,f8]at RN;simp only[List.length_cons,List.length_nil,Nat.zero_add]at RN;obtain⟨x0,x1,x2,x3⟩:=hb.cells;have hzr:=hU.size;have HU:=zF hU;clear hU hR;go_wp2_with fail
       (with_reducible refine RN.mono ?_);rintro e w7 ⟨k7,i7,n7,a7,l7,c7,rfl,hR7,hU7⟩;have hr7:=hr.kept hU7;obtain⟨w8,hw8⟩:∃ w8,w8=w7.alloc (.cells #[.int .i64 k7,.string (B n7),.int .i64 i7,.slice a7 l7 c7] 29):=⟨_,rfl⟩;have hU8:zD zC w7 w8:=by rw[hw8];exact(zD.refl zC _).alloc _
       have hb8:zG w8 w7.heap.size (.int .i64 k7) (.string (B n7)) (.int .i64 i7) (.slice a7 l7 c7) 29:=by rw[hw8];exact zG.zJ rfl
       have hR8:=hR7.on hU8;have hr8:=hr7.kept hU8;have HW8:=zF hw8;clear hw8 x0 x1 x2 x3 RN;obtain⟨x0,x1,x2,x3⟩:=hb8.cells;obtain⟨y0,y1,y2,y3⟩:=hr8.cells;obtain⟨g0,g1,g2,g3⟩:=hr8.zI;have gl:=hr8.lt;go_wp2_with fail
       rw[<-HW8.out];go_loopw [19] (fun v wz=>v=.int .i64 (-1)/\wz=w8) (fun _ _=>0)
       case atStart=>exact⟨by first |rfl |go_num,rfl⟩
       case round=>
         obtain⟨rfl,rfl⟩:=hrel;go_wp2_with fail
         have hUf:zD zC w wr:=(hU1.trans HU.out (fun b hb e=>by have:=HH.out;omega)).and (hU7.and hU8);have hgz:=zm (u:=yz) (r:=.bool true) hr8 (by have:=HH.out;omega) hUf (zK.weaken (fun b _ e=>by have:=hr.lt;omega) _ _ hR8) rfl;obtain⟨w9,hw9⟩:∃ z,z=(((wr.setCell ⟨H+1,0,none⟩ (.int .i64 k7)).setCell ⟨H+1,1,none⟩ (.string (B n7))).setCell ⟨H+1,2,none⟩ (.int .i64 i7)).setCell ⟨H+1,3,none⟩ (.slice a7 l7 c7):=⟨_,rfl⟩;rw[<-hw9]at hgz;rw[<-hw9];clear hw9;obtain⟨e0,e1,e2,e3⟩:=hgz.2.cells;refine bodyPost_ret (v:=.tuple #[.agg #[.int .i64 k7,.string (B n7),.int .i64 i7,.slice a7 l7 c7],.bool true]) ?_ rfl hgz.1;simp[results,Tryz.f96,go_sem,e0,e1,e2,e3]
end
section
open Go.RowKit Go.LF
theorem zHs(w:World)(cs:List Value)(h:zK zC w xX.zM cs)(kb:Nat)(hk:w.cell? ⟨kb,0,none⟩=some (.bool false)):
    Calls Tryz.prog 152 #[.agg cs.toArray,.int .i64 1,.slice (some ⟨kb,0,none⟩) 1 1] w (Zw (Tm.yQ 1 (.mk 6 [] 1 [])) (.int .i64 0) w):=by
  obtain⟨a,cap,rfl,hcap,hE⟩:=zd.1 h;have hl2:[yz,yz].length=2:=rfl;rw[hl2];obtain⟨w1,hw1⟩:∃ w1,w1=((w.alloc (.cells #[.int .i64 2,.string (B []),.int .i64 0,.slice a 2 cap] 29)).alloc (.cells #[.int .i64 0,.string (B []),.int .i64 0,.slice none 0 0] 29)).alloc (.cells #[.int .i64 6,.string (B []),.int .i64 1,.slice none 0 0] 29):=⟨_,rfl⟩;have hU1:zD zC w w1:=by rw[hw1];exact(((zD.refl zC w).alloc _).alloc _).alloc _
  have ht1:zG w1 w.heap.size (.int .i64 2) (.string (B [])) (.int .i64 0) (.slice a 2 cap) 29:=by rw[hw1];exact((zG.zJ rfl).kept ((zD.refl zC _).alloc _)).kept ((zD.refl zC _).alloc _)
  have hr1:zG w1 (w.heap.size+1) (.int .i64 0) (.string (B [])) (.int .i64 0) (.slice none 0 0) 29:=by rw[hw1];exact(zG.zJ (by simp)).kept ((zD.refl zC _).alloc _)
  have ho1:zG w1 (w.heap.size+1+1) (.int .i64 6) (.string (B [])) (.int .i64 1) (.slice none 0 0) 29:=by rw[hw1];exact zG.zJ (by simp)
  have hz1:=ho1.lt;have hk1:=hU1.cell hk (fun x=>x);obtain⟨ab,ao,k1,n1,i1,s1,c1,rfl,habl,_,p0,p1,p2,p3,_⟩:=zk ((zH.zY _ _ _ _ hE).on hU1) 1 (by simp);have HW1:=zF hw1;obtain⟨H,hH⟩:∃ H,H=w.heap.size:=⟨_,rfl⟩;have HH:=zF hH;rw[<-hH]at ht1 hr1 ho1 hz1;clear hw1 hH h hE hk hl2;have hs:=ht1.set (d0:=.int .i64 k1) (d1:=.string (B n1)) (d2:=.int .i64 i1) (d3:=.slice s1 [yz,yz][1].args.length c1);have ho2:=ho1.zE hs.2 (by omega);have hr2:=hr1.zE hs.2 (by omega);have hU2:=hs.2;obtain⟨w2,hw2⟩:∃ z,z=(((w1.setCell ⟨H,0,none⟩ (.int .i64 k1)).setCell ⟨H,1,none⟩ (.string (B n1))).setCell ⟨H,2,none⟩ (.int .i64 i1)).setCell ⟨H,3,none⟩ (.slice s1 [yz,yz][1].args.length c1):=⟨_,rfl⟩;rw[<-hw2]at ho2 hr2 hU2;have HW2:=zF hw2;generalize [yz,yz][1].args.length=ln at *
  have hz2:=hU2.size;have LM:=QO (.mk 6 [] 1 []) 1 (by omega) (fun b=>b<=H+1) w2 [.int .i64 6,.string (B []),.int .i64 1,.slice none 0 0] (fun b e=>by omega) (zV 6 [] 1);rw[show((1:Nat):Int)=1 from rfl]at LM;obtain⟨x0,x1,x2,x3⟩:=ht1.cells;obtain⟨f0,f1,f2,f3⟩:=ht1.zI;have hl1:=ht1.lt;clear hw2 hs;go_enter Tryz.func152,Tryz.ntmps152
  go_upto_region 2 with fail
  rw[<-show B []={ data:=#[] }from rfl,<-HW1.out,<-HH.out];go_wp2_with fail
  go_loopw [18] (fun v wr=>(v=.int .i64 0/\wr=w1)\/(v=.int .i64 1/\wr=w2)) (fun v _=>1 - (intOf v).toNat)
  case atStart=>exact .inl ⟨rfl,rfl⟩
  case round=>
    rcases hrel with⟨rfl,rfl⟩|⟨rfl,rfl⟩
    ·go_wp2_with fail
     rw[<-HW2.out];go_roundw
     case rel=>exact .inr ⟨by go_num,by first |rfl |trivial⟩
     case measure=>simp[intOf]
    ·obtain⟨o0,o1,o2,o3⟩:=ho2.cells;clear x0 x1 x2 x3 f0 f1 f2 f3 p0 p1 p2 p3 hk1;go_wp2_with fail
     (with_reducible refine LM.mono ?_);rintro e w3 ⟨k7,i7,n7,a7,l7,c7,rfl,hR3,hU3⟩;have hr3:=hr2.kept hU3;obtain⟨y0,y1,y2,y3⟩:=hr3.cells;obtain⟨g0,g1,g2,g3⟩:=hr3.zI;have gl:=hr3.lt;go_wp2_with fail
     have hUf:zD zC w w3:=(hU1.trans hU2 (fun b hb e=>by have:=HH.out;omega)).and hU3;have hgz:=zm (u:=Tm.yQ 1 (.mk 6 [] 1 [])) (r:=.int .i64 0) hr3 (by have:=HH.out;omega) hUf hR3 rfl;obtain⟨w9,hw9⟩:∃ z,z=(((w3.setCell ⟨H+1,0,none⟩ (.int .i64 k7)).setCell ⟨H+1,1,none⟩ (.string (B n7))).setCell ⟨H+1,2,none⟩ (.int .i64 i7)).setCell ⟨H+1,3,none⟩ (.slice a7 l7 c7):=⟨_,rfl⟩;rw[<-hw9]at hgz;rw[<-hw9];clear hw9;obtain⟨e0,e1,e2,e3⟩:=hgz.2.cells;refine bodyPost_ret (v:=.tuple #[.agg #[.int .i64 k7,.string (B n7),.int .i64 i7,.slice a7 l7 c7],.int .i64 0]) ?_ rfl hgz.1;simp[results,Tryz.f152,go_sem,e0,e1,e2,e3]
end
end Go.Proofs.YthgmimncdjhgnaaGreatDoor
namespace Go.LF
open Tm Go.Proofs.YthgmimncdjhgnaaGreatDoor
abbrev dL1:List Mv:=[⟨[],xX,[]⟩]
abbrev dL2:List Mv:=[⟨[],xX,[]⟩,⟨[],yz,[]⟩]
abbrev dV:Tm:=yQ 1 (.mk 6 [] 1 [])
theorem zD9:yp 0 [] xX=0/\yp 1 [] yz=0/\xo dV 2=0/\zDY dL1 xX=0:=by decide+kernel
theorem zHV:Tm.zL xX=[]/\Tm.zL yz=[]/\Tm.zL dV=[1]:=by decide+kernel
theorem zIs:Q8 dL1 xX=xX:=by unfold Q8;rw[if_pos zD9.2.2.2];rfl
theorem zIa:zBD [] [] xX=dL1:=by
  have h:=zD9.1;unfold zBD;exact if_neg (by show ¬yp 0 [] xX≠0;omega)
theorem zFF:zBD dL1 [] yz=dL2/\zFi dL1 [] yz=1:=by
  have h:=zD9.2.1;unfold zBD zFi;exact⟨if_neg (by show ¬yp 1 [] yz≠0;omega),if_neg (by show ¬yp 1 [] yz≠0;omega)⟩
theorem zDy:Zx dL1:=by
  have h1:=Zx.nil.new (name:=[]) (a:=xX) (by simp) (by decide);rwa [zIa]at h1
theorem zIj:Zx dL2:=by
  have h2:=zDy.new (name:=[]) (a:=yz) (by simp) (by decide);rwa [zFF.1]at h2
theorem zGv(i:Int):xv dL2 i=[]:=by
  unfold xv;split
  ·split
   ·rename_i m hm;have:=List.mem_of_getElem? hm;simp only[List.mem_cons,List.not_mem_nil,or_false]at this;rcases this with rfl |rfl<;>(unfold Zp;first |(rw[zHV.1];rfl)|(rw[zHV.2.1];rfl))
   ·rfl
  ·rfl
theorem zIt:¬Q6 dL2 1 0:=by
  intro h;cases h with
  |step h hj hk=>rw[zGv]at hj;cases hj
theorem zIY:XS dL2 0 dV=0:=zEx (l:=dL2) (i:=0) (v:=⟨[],xX,[]⟩) (by decide) rfl rfl zD9.2.2.1 (fun x hx=>by rw[zHV.2.2]at hx;obtain rfl:x=1:=(by simpa using hx);exact zIt)
theorem zIy:(qP dL2 0 dV).length=2:=by
  unfold qP;rw[if_neg (by rw[zIY];simp)];rfl
end Go.LF
namespace Go.Proofs.YthgmimncdjhgnaaGreatDoor
open Go.RowKit Go.LF
abbrev ZC(W:World)(H mb mo:Nat)(r0 m0 m1 m2 m3 m4 m5:Value)(w':World):Prop:=
  w'.cell? ⟨H,0,none⟩=some r0/\(w'.cell? ⟨mb,mo,none⟩=some m0/\w'.cell? ⟨mb,mo+1,none⟩=some m1/\w'.cell? ⟨mb,mo+2,none⟩=some m2/\w'.cell? ⟨mb,mo+3,none⟩=some m3/\w'.cell? ⟨mb,mo+4,none⟩=some m4/\w'.cell? ⟨mb,mo+5,none⟩=some m5)/\zD zC W w'
section
variable {W w' w1:World}{H mb mo:Nat}{r0 m0 m1 m2 m3 m4 m5:Value}
theorem ZC.on(h:ZC W H mb mo r0 m0 m1 m2 m3 m4 m5 w')(hU:zD zC w' w1):ZC W H mb mo r0 m0 m1 m2 m3 m4 m5 w1:=by
  obtain⟨a,⟨b0,b1,b2,b3,b4,b5⟩,c⟩:=h;exact⟨hU.cell a (fun x=>x),⟨hU.cell b0 (fun x=>x),hU.cell b1 (fun x=>x),hU.cell b2 (fun x=>x),hU.cell b3 (fun x=>x),hU.cell b4 (fun x=>x),hU.cell b5 (fun x=>x)⟩,c.and hU⟩
theorem ZC.new(h:ZC W H mb mo r0 m0 m1 m2 m3 m4 m5 w')(o:Obj):ZC W H mb mo r0 m0 m1 m2 m3 m4 m5 (w'.alloc o):=h.on ((zD.refl zC _).alloc o)
theorem ZC.drew(h:ZC W H mb mo r0 m0 m1 m2 m3 m4 m5 w'):ZC W H mb mo r0 m0 m1 m2 m3 m4 m5 w'.drew:=h.on (zD.refl zC _).drew
theorem ZC.up(h:ZC W H mb mo r0 m0 m1 m2 m3 m4 m5 w'):zD zC W w':=h.2.2
theorem ZC.Xr(h:ZC W H mb mo r0 m0 m1 m2 m3 m4 m5 w'){r:Nat}(hr:W.heap.size<=r)(h1:H<W.heap.size)(h2:mb<W.heap.size)(d0 d1 d2 d3:Value):
    ZC W H mb mo r0 m0 m1 m2 m3 m4 m5 ((((w'.setCell ⟨r,0,none⟩ d0).setCell ⟨r,1,none⟩ d1).setCell ⟨r,2,none⟩ d2).setCell ⟨r,3,none⟩ d3):=by
  have hs:zD (fun b=>b=r) w' ((((w'.setCell ⟨r,0,none⟩ d0).setCell ⟨r,1,none⟩ d1).setCell ⟨r,2,none⟩ d2).setCell ⟨r,3,none⟩ d3):=zD.set (zD.set (zD.set (zD.set (zD.refl _ _) 0 _) 1 _) 2 _) 3 _;have e1:¬H=r:=by omega
  have e2:¬mb=r:=by omega
  obtain⟨a,⟨b0,b1,b2,b3,b4,b5⟩,c⟩:=h;exact⟨hs.cell a e1,⟨hs.cell b0 e2,hs.cell b1 e2,hs.cell b2 e2,hs.cell b3 e2,hs.cell b4 e2,hs.cell b5 e2⟩,c.trans hs (fun b hb e=>by omega)⟩
end
abbrev zEg(W:World)(H mb mo:Nat)(r0 m0 m1 m2 m3 m4 m5:Value)(Q:Nat)(q0 q1 q2 q3:Value)(w':World):Prop:=ZC W H mb mo r0 m0 m1 m2 m3 m4 m5 w'/\ZK Q q0 q1 q2 q3 w'
theorem zEg.on{W w' w1:World}{H mb mo Q:Nat}{r0 m0 m1 m2 m3 m4 m5 q0 q1 q2 q3:Value}(h:zEg W H mb mo r0 m0 m1 m2 m3 m4 m5 Q q0 q1 q2 q3 w')(hU:zD zC w' w1):zEg W H mb mo r0 m0 m1 m2 m3 m4 m5 Q q0 q1 q2 q3 w1:=⟨h.1.on hU,QH hU h.2⟩
abbrev zCz:Obj:=.cells #[.int .i64 0,.string (B []),.int .i64 0,.slice none 0 0] 29
theorem zGb{Y wa:World}{p:Prop}(hU:zD zC (Y.alloc zCz).drew wa)(h:zG wa Y.heap.size (.int .i64 0) (.string (B [])) (.int .i64 0) (.slice none 0 0) 29->Y.heap.size<(Y.alloc zCz).drew.heap.size->p):p:=
  h (((zG.zJ rfl:zG (Y.alloc zCz) Y.heap.size _ _ _ _ 29).kept (zD.refl zC _).drew).kept hU) (by simp only[World.size_alloc,World.size_drew];omega)
theorem zG.zGj{W:World}{g:Nat}{c0 c1 c2 c3:Value}{T:TypeId}(h:zG W g c0 c1 c2 c3 T):(W.cell? ⟨g,0,none⟩=some c0/\W.cell? ⟨g,1,none⟩=some c1/\W.cell? ⟨g,2,none⟩=some c2/\W.cell? ⟨g,3,none⟩=some c3)/\(W.frozen? ⟨g,0,none⟩=false/\W.frozen? ⟨g,1,none⟩=false/\W.frozen? ⟨g,2,none⟩=false/\W.frozen? ⟨g,3,none⟩=false)/\g<W.heap.size:=⟨h.cells,h.zI,h.lt⟩
theorem zHh(w:World)(la:Option Addr)(lc:Nat)(hL:zH zC w 6 (dL1.map Mv.zM) la 0)(kb:Nat)(hk:w.cell? ⟨kb,0,none⟩=some (.bool false)):
    Calls Tryz.prog 97 #[.slice la 1 lc,.int .i64 0,.slice (some ⟨kb,0,none⟩) 1 1] w fun e w'=>(∃ oa oc,e=.returned (.tuple #[.slice oa 2 oc,.bool true,.int .i64 0]))/\zD zC w w':=by
  obtain⟨w1,hw1⟩:∃ w1,w1=w.alloc (.cells #[.slice la 1 lc] 23):=⟨_,rfl⟩;have hU1:zD zC w w1:=by rw[hw1];exact(zD.refl zC w).alloc _
  have hc1:w1.cell? ⟨w.heap.size,0,none⟩=some (.slice la 1 lc):=by rw[hw1];simp
  have hl1:w.heap.size<w1.heap.size:=by rw[hw1];simp
  have hk1:=hU1.cell hk (fun x=>x);have hL1:=(zH.zY _ _ _ _ hL).on hU1;obtain⟨f1,f2,f3,f4,f5,f6,f8⟩:=zHB;obtain⟨H,hH⟩:∃ H,H=w.heap.size:=⟨_,rfl⟩;rw[<-hH]at hc1 hl1 hL1;have HW1:=zF hw1;have HH:=zF hH;obtain⟨mb,mo,mk,mn,mi,maa,mcap,mva,mvc,rfl,hmb,_,⟨d0,d1,d2,d3,d4,d5⟩,hRm,hmvc,_⟩:=qK (l:=dL1) hL1 0 (by simp);simp only[List.getElem_cons_zero,List.length_nil,Nat.zero_mul,Nat.add_zero]at d0 d1 d2 d3 d4 d5 hRm;have hl2:xX.args.length=2:=rfl;rw[hl2]at d4 hRm;have EX:=fun(W:World)(hU:zD zC w1 W)=>zDJ (fun b=>w1.heap.size<=b/\b<W.heap.size) dL1 zDy.zGi xX (by omega) (fun h1 h2=>zE3 _ h1 (by decide) h2) W (fun b e=>e.2) (some ⟨mb,mo,none⟩) lc _ (zH.weaken (fun b _ e=>by omega) _ _ _ _ (hL1.on hU)) (zK.weaken (fun b _ e=>by omega) _ _ (hRm.on hU))
  rw[zIs,zD9.2.2.2]at EX;have NW:=fun(W:World)(hU:zD zC w1 W)(cs:List Value)(h:zK zC W yz.zM cs)=>zEe dL1 zDy.zH1 [] (by simp) yz (by omega) W (some ⟨mb,mo,none⟩) lc cs (zH.weaken (fun _ _ e=>e.elim) _ _ _ _ (hL1.on hU)) h
  rw[zFF.1,zFF.2,show yp ((dL1.length:Nat):Int) [] yz=0 from zD9.2.1]at NW;have SV:=fun(W:World)(va:Option Addr)(vc:Nat)(cs:List Value)(hL:zH zC W 6 (dL2.map Mv.zM) va 0)(h:zK zC W dV.zM cs)=>zBZ dL2 zIj.stR 0 dV (by decide+kernel) W va vc cs hL h
  rw[zIY]at SV;obtain⟨oL,hoL⟩:∃ L,L=qP dL2 0 dV:=⟨_,rfl⟩;have hol:oL.length=2:=by rw[hoL];exact zIy
  rw[<-hoL]at SV;simp only[List.length_cons,List.length_nil,Nat.zero_add,Nat.reduceAdd]at EX NW SV;have S1:ZC w1 H mb mo (.slice (some ⟨mb,mo,none⟩) 1 lc) (.string (B [])) (.int .i64 mk) (.string (B mn)) (.int .i64 mi) (.slice maa 2 mcap) (.slice mva 0 mvc) w1:=⟨hc1,⟨d0,d1,d2,d3,d4,d5⟩,zD.refl _ _⟩;have HF:=zF (And.intro f1 (And.intro f2 (And.intro f4 f6)));have HOL:=zF (And.intro hol hoL);clear hw1 hH hL hk hL1 f1 f2 f3 f4 f5 f6 f8 hl2 hol hoL hmvc;go_enter Tryz.func97,Tryz.ntmps97
  go_upto_region 4 with fail
  rw[<-HW1.out,<-HH.out];go_upto_region 6 with fail
  have hHl:H<w1.heap.size:=hl1;go_cut [10,11]from 43 to 52 (fun v10 v11 wc=>∃(P:Nat)(k i:Int)(n:List UInt8)(a:Option Addr)(len cap:Nat),v10=.pointer (some ⟨P,0,none⟩)/\v11=.int .i64 0/\zG wc P (.int .i64 k) (.string (B n)) (.int .i64 i) (.slice a len cap) 29/\zK zC wc xX.zM [.int .i64 k,.string (B n),.int .i64 i,.slice a len cap]/\zD zC w1 wc)
  case first=>
    clear NW SV
    go_region_held3 (fun w'=>ZC w1 H mb mo (.slice (some ⟨mb,mo,none⟩) 1 lc) (.string (B [])) (.int .i64 mk) (.string (B mn)) (.int .i64 mi) (.slice maa 2 mcap) (.slice mva 0 mvc) w')
      (repeat' (first |(with_reducible assumption)|(with_reducible refine ZC.new ?_ _)|(with_reducible refine ZC.drew ?_)|(with_reducible refine ZC.Xr ?_ (Nat.le_refl _) hHl hmb _ _ _ _)))
      (first
        |((go_at_call 12);(with_reducible refine(EX _ (ZC.up (by repeat' (first |(with_reducible assumption)|(with_reducible refine ZC.new ?_ _)|(with_reducible refine ZC.drew ?_))))).mono ?_);rintro e w2 ⟨k7,i7,n7,a7,l7,c7,rfl,hR2,hU2⟩;have S2:=ZC.on (by repeat' (first |(with_reducible assumption)|(with_reducible refine ZC.new ?_ _)|(with_reducible refine ZC.drew ?_))) hU2;(first |(with_reducible refine zGb hU2 ?_;intro za zl;obtain⟨⟨zc0,zc1,zc2,zc3⟩,⟨zc4,zc5,zc6,zc7⟩,zc8⟩:=za.zGj)|skip)))
    all_goals
      go_wp2_with fail
      go_meet
    all_goals first
      |(have hset:=za.set (d0:=.int .i64 k7) (d1:=.string (B n7)) (d2:=.int .i64 i7) (d3:=.slice a7 l7 c7)
        exact⟨_,k7,i7,n7,a7,l7,c7,rfl,rfl,hset.1,zK.weaken (fun _ _ e=>e.elim) _ _ (zK.zE hset.2 (fun b e=>by rw[e];exact⟨Nat.le_refl _,zl⟩) _ _ hR2),S2.up.trans hset.2 (fun b hb e=>by omega)⟩)
      |(have hal:=(zD.refl zC w2).alloc (.cells #[.int .i64 k7,.string (B n7),.int .i64 i7,.slice a7 l7 c7] 29)
        exact⟨_,k7,i7,n7,a7,l7,c7,rfl,rfl,zG.zJ rfl,(zK.weaken (fun _ _ e=>e.elim) _ _ hR2).on hal,S2.up.and hal⟩)
  case rest=>
    obtain⟨P,k2,i2,n2,a2,l2,c2,rfl,rfl,hP2,hR2,hU2⟩:=hcut;obtain⟨w2,rfl⟩:∃ q,q=wc:=⟨_,rfl⟩;clear EX d0 d1 d2 d3 d4 d5 hRm hc1;have S2:=S1.on hU2;have PI:=fun(W:World)(hU:zD zC w2 W)=>zAQ xX (by have:=HF.out.2.1;omega) W _ (hR2.on hU)
    have CO:=fun(W:World)(hU:zD zC w2 W)=>zB6 W kb ((hU2.and hU).cell hk1 (fun x=>x))
    have NA:=fun(W:World)(hU:zD zC w2 W)=>zBa W _ (hR2.on hU) kb ((hU2.and hU).cell hk1 (fun x=>x))
    have KE:=fun(W:World)(hU:zD zC w2 W)=>zHs W _ (hR2.on hU) kb ((hU2.and hU).cell hk1 (fun x=>x))
    rw[HF.out.2.2.1]at PI;have PI2:=PI w2 (zD.refl _ _);obtain⟨x0,x1,x2,x3⟩:=hP2.cells;clear PI;go_upto_region 9 with fail
    go_wp2_with fail
    (with_reducible refine PI2.mono ?_);rintro e w3 ⟨rfl,hU3⟩;have CO3:=CO w3 hU3;clear PI2 CO x0 x1 x2 x3;go_wp2_with fail
    (with_reducible refine CO3.mono ?_);rintro e w4 ⟨rfl,rfl⟩;obtain⟨w3,rfl⟩:∃ q,q=w4:=⟨_,rfl⟩;have NA3:=NA w3 hU3;obtain⟨x0,x1,x2,x3⟩:=(hP2.kept hU3).cells;clear CO3 NA;go_wp2_with fail
    (with_reducible refine NA3.mono ?_);rintro e w4 ⟨k4,i4,n4,a4,l4,c4,rfl,hR4,hU4⟩;obtain⟨w5,hw5⟩:∃ z,z=w4.alloc (.cells #[.int .i64 k4,.string (B n4),.int .i64 i4,.slice a4 l4 c4] 29):=⟨_,rfl⟩;have hU5:zD zC w4 w5:=by rw[hw5];exact(zD.refl zC _).alloc _
    have hQ5:zG w5 w4.heap.size (.int .i64 k4) (.string (B n4)) (.int .i64 i4) (.slice a4 l4 c4) 29:=by rw[hw5];exact zG.zJ rfl
    have hR5:=(zK.weaken (O':=zC) (fun _ _ e=>e.elim) _ _ hR4).on hU5;have hU25:=(hU3.and hU4).and hU5;obtain⟨Q,hQ⟩:∃ Q,Q=w4.heap.size:=⟨_,rfl⟩;rw[<-hQ]at hQ5;have HQ:=zF hQ;have HW5:=zF hw5;have S5:zEg w1 H mb mo (.slice (some ⟨mb,mo,none⟩) 1 lc) (.string (B [])) (.int .i64 mk) (.string (B mn)) (.int .i64 mi) (.slice maa 2 mcap) (.slice mva 0 mvc) Q (.int .i64 k4) (.string (B n4)) (.int .i64 i4) (.slice a4 l4 c4) w5:=⟨S2.on hU25,hQ5.cells⟩;have Sd:=S5.on (zD.refl zC _).drew;have NW5:=fun(W:World)(hU:zD zC w5 W)=>NW W ((hU2.and hU25).and hU) _ (hR5.on hU)
    clear hw5 hQ x0 x1 x2 x3 NA3 NW hR4 hU4 S5;go_upto_region 16 with fail
    rw[<-HQ.out,<-HW5.out]
    go_region_held3 (fun w'=>zEg w1 H mb mo (.slice (some ⟨mb,mo,none⟩) 1 lc) (.string (B [])) (.int .i64 mk) (.string (B mn)) (.int .i64 mi) (.slice maa 2 mcap) (.slice mva 0 mvc) Q (.int .i64 k4) (.string (B n4)) (.int .i64 i4) (.slice a4 l4 c4) w')
      (first |(with_reducible assumption)|(with_reducible exact Sd))
      (first
        |((go_at_call 46);(with_reducible refine(NW5 _ (zD.refl zC _).drew).mono ?_);rintro e w6 ⟨v6,css6,rfl,hD6,hU6⟩;have S6:=zEg.on Sd hU6))
    obtain⟨va6,vc6,rfl,hvc6,hE6⟩:=hD6.rep (fun _ e=>e);have hE6':=zH.weaken (O':=zC) (fun _ _ e=>e.elim) _ _ _ _ hE6;have hU56:=(zD.refl zC w5).drew.and hU6;have hU26:=hU25.and hU56;have KE6:=KE w6 hU26;have hl2:(dL2.map Mv.zM).length=2:=rfl;obtain⟨x0,x1,x2,x3⟩:=(hP2.kept hU26).cells;clear NW5 Sd hD6 hE6 hvc6 KE;rw[hl2];go_upto_region 19 with fail
    go_wp2_with fail
    (with_reducible refine KE6.mono ?_);rintro e w7 ⟨k7,i7,n7,a7,l7,c7,rfl,hR7,hU7⟩;have SV7:=fun(W:World)(hU:zD zC w7 W)=>SV W va6 vc6 [.int .i64 k7,.string (B n7),.int .i64 i7,.slice a7 l7 c7] (hE6'.on (hU7.and hU)) ((zK.weaken (O':=zC) (fun _ _ e=>e.elim) _ _ hR7).on hU)
    clear KE6 SV x0 x1 x2 x3;obtain⟨w8,hw8⟩:∃ z,z=w7.alloc (.cells #[.int .i64 k7,.string (B n7),.int .i64 i7,.slice a7 l7 c7] 29):=⟨_,rfl⟩;have hU8:zD zC w7 w8:=by rw[hw8];exact(zD.refl zC _).alloc _
    have hb8:zG w8 w7.heap.size (.int .i64 k7) (.string (B n7)) (.int .i64 i7) (.slice a7 l7 c7) 29:=by rw[hw8];exact zG.zJ rfl
    have SV8:=SV7 w8 hU8;obtain⟨x0,x1,x2,x3⟩:=hb8.cells;have HW8:=zF hw8;clear SV7 hw8;go_upto_region 22 with fail
    rw[<-HW8.out];go_wp2_with fail
    (with_reducible refine SV8.mono ?_);rintro e w9 ⟨oa,oc,rfl,hoc,-,hU9⟩;have hol:=HOL.out.1;rw[hol];clear hol;go_wp2_with fail
    refine bodyPost_ret (v:=.tuple #[.slice oa 2 oc,.bool true,.int .i64 0]) (by simp[results,Tryz.f97,go_sem]) rfl ?_;exact⟨⟨oa,oc,rfl⟩,((hU1.and hU2).and hU26).and ((hU7.and hU8).and hU9)⟩
end Go.Proofs.YthgmimncdjhgnaaGreatDoor
