/- abstract.Refill. -/
import Derived.Test.YthgmimncdjhgnaaGreatDoorVCH
import Derived.Test.YthgmimncdjhgnaaGreatDoorVFC
import Derived.Test.YthgmimncdjhgnaaGreatDoorVFJ
import Derived.Test.YthgmimncdjhgnaaGreatDoorVSE
import Derived.Test.YthgmimncdjhgnaaGreatDoorVFL
import Derived.Test.YthgmimncdjhgnaaGreatDoorVFS
import Derived.Deep.RegionHeld3
set_option maxRecDepth 100000
set_option maxHeartbeats 8000000
namespace Go.Proofs.YthgmimncdjhgnaaGreatDoor
open Go.RowKit Go.LF
def zFw(O:Nat->Prop)(L:List Mv)(t:Tm)(E:Int)(w:World)(e:Ending)(w':World):Prop:=
  ∃(va:Option Addr)(vc:Nat)(k i:Int)(n:List UInt8)(a:Option Addr)(len cap:Nat),e=.returned (.tuple #[.slice va L.length vc,.agg #[.int .i64 k,.string (B n),.int .i64 i,.slice a len cap],.int .i64 E])/\
   L.length<=vc/\zH O w' 6 (L.map Mv.zN) va 0/\zL O w' t.zN [.int .i64 k,.string (B n),.int .i64 i,.slice a len cap]/\zD zC w w'
theorem zC6(l:List Mv)(hl:zET l)(E:Int)(lb:Nat)(w:World)(la:Option Addr)(lc:Nat)(hb:w.cell? ⟨lb,0,none⟩=some (.slice la l.length lc))(hL:zH zC w 6 (l.map Mv.zN) la 0):
    Calls Tryz.prog 81 #[.int .i64 E,.pointer (some ⟨lb,0,none⟩)] w (zFw (fun b=>b<w.heap.size) l Tm.zV E w):=by
  obtain⟨w1,hw1⟩:∃ w1,w1=w.alloc (.cells #[.int .i64 0,.string (B []),.int .i64 0,.slice none 0 0] 29):=⟨_,rfl⟩;have hU1:zD zC w w1:=by rw[hw1];exact(zD.refl zC w).alloc _
  have hr1:zK w1 w.heap.size (.int .i64 0) (.string (B [])) (.int .i64 0) (.slice none 0 0) 29:=by rw[hw1];exact zK.zJ rfl
  have DS:=Yr l (by have:=hl.len;omega) hl.dup w1 la lc (hL.on hU1);have hb1:=hU1.cell hb (fun x=>x);obtain⟨ll,hll⟩:∃ q,q=l.length:=⟨_,rfl⟩;rw[<-hll]at DS hb1;have HLl:=zG hll;have HW1:=zG hw1;clear hw1 hL hll hb;go_enter Tryz.func81,Tryz.ntmps81
  go_upto_region 1 with fail
  rw[<-show B []={ data:=#[] }from rfl,<-HW1.out];go_wp2_with fail
  (with_reducible refine DS.mono ?_);rintro e w2 ⟨v,css,rfl,hD,hU2⟩;obtain⟨va,vc,rfl,hvc,hE2⟩:=hD.rep (fun _ e=>e);rw[List.length_map]at hvc ⊢;have hr2:=hr1.kept hU2;obtain⟨x0,x1,x2,x3⟩:=hr2.cells;obtain⟨y0,y1,y2,y3⟩:=hr2.zI;have hlt:=hr2.lt;have hUw2:=hU1.and hU2;have hlt1:=hr1.lt;go_wp2_with fail
  have hset:=hr2.set (d0:=.int .i64 0) (d1:=.string (B [])) (d2:=.int .i64 0) (d3:=.slice none 0 0);obtain⟨w9,hw9⟩:∃ q,q=(((w2.setCell ⟨w.heap.size,0,none⟩ (.int .i64 0)).setCell ⟨w.heap.size,1,none⟩ (.string (B []))).setCell ⟨w.heap.size,2,none⟩ (.int .i64 0)).setCell ⟨w.heap.size,3,none⟩ (.slice none 0 0):=⟨_,rfl⟩;rw[<-hw9]at hset;rw[<-show B []={ data:=#[] }from rfl,<-hw9];clear hw9;obtain⟨e0,e1,e2,e3⟩:=hset.1.cells;refine bodyPost_ret (v:=.tuple #[.slice va l.length vc,.agg #[.int .i64 0,.string (B []),.int .i64 0,.slice none 0 0],.int .i64 E]) ?_ rfl ?_
  ·simp[results,Tryz.f81,go_sem,e0,e1,e2,e3]
  ·exact⟨va,vc,0,0,[],none,0,0,rfl,hvc,zH.weaken (fun b _ e=>by omega) _ _ _ _ (zH.zF hset.2 (fun b e=>by omega) _ _ _ _ hE2),zj _ _ _,hUw2.trans hset.2 (fun b hb e=>by omega)⟩
theorem zFX(l:List Mv)(hl:zET l)(hl2:l.length<=1000)(a:Tm)(hwt:a.wt<=290000)(n:Int)(hn0: -5<=n)(hn1:n<=100)(w:World)(la:Option Addr)(lc:Nat)(cs:List Value)(hL:zH zC w 6 (l.map Mv.zN) la 0)(h:zL zC w a.zN cs):
    Calls Tryz.prog 33 #[.slice la l.length lc,.agg cs.toArray,.int .i64 n] w (zFw zC (Ze l a n) (zBO l a n) (XC l a n) w):=by
  obtain⟨k,nm,i,ts,aa,cap,hae,rfl,-,-⟩:=zW h;obtain⟨len,hln⟩:∃ q,q=ts.length:=⟨_,rfl⟩;have hla:a.args.length=len:=by rw[hae,hln];rfl
  rw[<-hln]at h;rw[<-hln];have HLn:=zG hla;clear hln hla;obtain⟨w1,hw1⟩:∃ w1,w1=((w.alloc (.cells #[.slice la l.length lc] 23)).alloc (.cells #[.int .i64 k,.string (B nm),.int .i64 i,.slice aa len cap] 29)).alloc (.cells #[.int .i64 0,.string (B []),.int .i64 0,.slice none 0 0] 29):=⟨_,rfl⟩;have hU1:zD zC w w1:=by rw[hw1];exact(((zD.refl zC w).alloc _).alloc _).alloc _
  have hl1:zv w1 w.heap.size (.slice la l.length lc) 23:=by rw[hw1];exact((zv.zJ rfl).kept ((zD.refl zC _).alloc _)).kept ((zD.refl zC _).alloc _)
  have ha1:zK w1 (w.heap.size+1) (.int .i64 k) (.string (B nm)) (.int .i64 i) (.slice aa len cap) 29:=by rw[hw1];exact(zK.zJ (by simp)).kept ((zD.refl zC _).alloc _)
  have hr1:zK w1 (w.heap.size+1+1) (.int .i64 0) (.string (B [])) (.int .i64 0) (.slice none 0 0) 29:=by rw[hw1];exact zK.zJ (by simp)
  have WF:=yM a (by omega) w1 _ (h.on hU1);have hLf:=(zH.zS _ _ _ _ hL).on hU1;have RF:=fun(E:Int)(W:World)(hU:zD (fun y=>y=w.heap.size+1) w1 W)=>zC6 l hl E w.heap.size W la lc (hU.cell hl1.cell (show ¬w.heap.size=w.heap.size+1 by omega)) (zH.weaken (fun _ _ e=>e.elim) _ _ _ _ (zH.zF hU (fun b e=>.inr (by omega)) _ _ _ _ hLf))
  have HW1:=zG hw1;clear hw1 hae;obtain⟨x0,x1,x2,x3⟩:=ha1.cells;go_enter Tryz.func33,Tryz.ntmps33
  go_upto_region 2 with fail
  rw[<-show B []={ data:=#[] }from rfl,<-HW1.out];go_wp2_with fail
  (with_reducible refine WF.mono ?_);rintro e w2 ⟨rfl,hU2⟩;have hU12:=hU1.and hU2;have hr2:=hr1.kept hU2;have ha2:=ha1.kept hU2;have hl2b:=hl1.kept hU2;clear WF x0 x1 x2 x3
  have refuse:∀(E:Int),XC l a n=E->E≠0->∀(W:World),zD (fun y=>y=w.heap.size+1) w1 W->Calls Tryz.prog 81 #[.int .i64 E,.pointer (some ⟨w.heap.size,0,none⟩)] W (fun e W'=>∃(va:Option Addr)(vc:Nat)(k i:Int)(nn:List UInt8)(aa:Option Addr)(len cap:Nat),e=.returned (.tuple #[.slice va l.length vc,.agg #[.int .i64 k,.string (B nn),.int .i64 i,.slice aa len cap],.int .i64 E])/\
      l.length<=vc/\zH (fun b=>b<W.heap.size) W' 6 ((Ze l a n).map Mv.zN) va 0/\zL (fun b=>b<W.heap.size) W' (zBO l a n).zN [.int .i64 k,.string (B nn),.int .i64 i,.slice aa len cap]/\zD zC W W'):=by
    intro E hE hz W hU;refine(RF E W hU).mono ?_;rintro e W' ⟨va,vc,k,i,nn,aa,len,cap,rfl,h1,h2,h3,h4⟩;refine⟨va,vc,k,i,nn,aa,len,cap,rfl,h1,?_,?_,h4⟩
    ·unfold Ze;rw[if_neg (by rw[hE];exact hz)];exact h2
    ·unfold zBO;rw[if_neg (by rw[hE];exact hz)];exact h3
  have HRX:=zG refuse;have HRF:=zG (fun E h1 h2 W(h:zD zC w1 W)=>refuse E h1 h2 W (h.mono (fun _ _ e=>e.elim)));clear refuse RF hLf;obtain⟨q,hq⟩:∃ q,q=a.wf:=⟨_,rfl⟩;rw[<-hq];by_cases hq0:q=0
  case neg=>
    have hE:XC l a n=q:=by unfold XC;rw[if_pos (by rw[<-hq];exact hq0),<-hq]
    have R1:=HRF.out q hE hq0 w2 hU2;have HE:=zG hE;clear hE hq;have hqb:(q == 0)=false:=by simpa using hq0
    have HQ:=zG hq0;clear hq0;go_wp2_with fail
    (with_reducible refine R1.mono ?_);rintro e w3 ⟨va,vc,k3,i3,n3,a3,l3,c3,rfl,hvc,hE3,hR3,hU3⟩;have hr3:=hr2.kept hU3;obtain⟨r0,r1,r2,r3⟩:=hr3.cells;obtain⟨y0,y1,y2,y3⟩:=hr3.zI;have hlt:=hr3.lt;clear R1;go_wp2_with fail
    have hset:=hr3.set (d0:=.int .i64 k3) (d1:=.string (B n3)) (d2:=.int .i64 i3) (d3:=.slice a3 l3 c3);obtain⟨w9,hw9⟩:∃ q,q=(((w3.setCell ⟨w.heap.size+1+1,0,none⟩ (.int .i64 k3)).setCell ⟨w.heap.size+1+1,1,none⟩ (.string (B n3))).setCell ⟨w.heap.size+1+1,2,none⟩ (.int .i64 i3)).setCell ⟨w.heap.size+1+1,3,none⟩ (.slice a3 l3 c3):=⟨_,rfl⟩;rw[<-hw9]at hset;rw[<-hw9];clear hw9;obtain⟨e0,e1,e2,e3⟩:=hset.1.cells;refine bodyPost_ret (v:=.tuple #[.slice va l.length vc,.agg #[.int .i64 k3,.string (B n3),.int .i64 i3,.slice a3 l3 c3],.int .i64 q]) ?_ rfl ?_
    ·simp[results,Tryz.f33,go_sem,e0,e1,e2,e3]
    ·refine⟨va,vc,k3,i3,n3,a3,l3,c3,by rw[HE.out];unfold Ze;rw[if_neg (by rw[HE.out];exact HQ.out)],by unfold Ze;rw[if_neg (by rw[HE.out];exact HQ.out)];exact hvc,?_,?_,(hU12.and hU3).trans hset.2 (fun b hb e=>by omega)⟩
     ·exact zH.weaken (fun _ _ e=>e.elim) _ _ _ _ (zH.zF hset.2 (fun b e=>by have:=hr2.lt;omega) _ _ _ _ hE3)
     ·exact zL.weaken (fun _ _ e=>e.elim) _ _ (zL.zF hset.2 (fun b e=>by have:=hr2.lt;omega) _ _ hR3)
  obtain rfl:q=0:=hq0;have hwf:a.wf=0:=hq.symm
  have hsm:a.small=true:=by
    have h1:=Z0 (Tm.yd hwf).1;rw[hwf]at h1;by_cases h2:a.small=true
    ·exact h2
    ·rw[if_neg h2]at h1;exact absurd h1 (by decide)
  have IT:=qC a (by omega) w2 _ (h.on hU12);have hbt:((a.zP && a.small)|| (a.zR && a.small))=(a.zP || a.zR):=by rw[hsm,Bool.and_true,Bool.and_true]
  rw[hbt]at IT;obtain⟨x0,x1,x2,x3⟩:=ha2.cells;obtain⟨bt,hbt2⟩:∃ b,b=(a.zP || a.zR):=⟨_,rfl⟩;rw[<-hbt2]at IT;have HBT:=zG hbt2;have HWF:=zG hwf;clear hbt hbt2 hwf hq hsm;cases bt
  ·have hE:XC l a n=32:=by unfold XC;rw[if_neg (by rw[HWF.out];decide),if_pos (by rw[<-HBT.out];rfl)]
   have HE:=zG hE;have R1:=fun W hU=>HRF.out 32 hE (by decide) W hU
   clear hE;go_wp2_with fail
   (with_reducible refine IT.mono ?_);rintro e w3 ⟨rfl,hU3⟩;have R2:=R1 w3 (hU2.and hU3);clear IT R1;go_wp2_with fail
   (with_reducible refine R2.mono ?_);rintro e w4 ⟨va,vc,k3,i3,n3,a3,l3,c3,rfl,hvc,hE3,hR3,hU4⟩;have hr4:=(hr2.kept hU3).kept hU4;obtain⟨r0,r1,r2,r3⟩:=hr4.cells;obtain⟨y0,y1,y2,y3⟩:=hr4.zI;have hlt:=hr4.lt;have hlt3:=(hr2.kept hU3).lt;clear R2;go_wp2_with fail
   have hset:=hr4.set (d0:=.int .i64 k3) (d1:=.string (B n3)) (d2:=.int .i64 i3) (d3:=.slice a3 l3 c3);obtain⟨w9,hw9⟩:∃ q,q=(((w4.setCell ⟨w.heap.size+1+1,0,none⟩ (.int .i64 k3)).setCell ⟨w.heap.size+1+1,1,none⟩ (.string (B n3))).setCell ⟨w.heap.size+1+1,2,none⟩ (.int .i64 i3)).setCell ⟨w.heap.size+1+1,3,none⟩ (.slice a3 l3 c3):=⟨_,rfl⟩;rw[<-hw9]at hset;rw[<-hw9];clear hw9;obtain⟨e0,e1,e2,e3⟩:=hset.1.cells;refine bodyPost_ret (v:=.tuple #[.slice va l.length vc,.agg #[.int .i64 k3,.string (B n3),.int .i64 i3,.slice a3 l3 c3],.int .i64 32]) ?_ rfl ?_
   ·simp[results,Tryz.f33,go_sem,e0,e1,e2,e3]
   ·refine⟨va,vc,k3,i3,n3,a3,l3,c3,by rw[HE.out];unfold Ze;rw[if_neg (by rw[HE.out];decide)],by unfold Ze;rw[if_neg (by rw[HE.out];decide)];exact hvc,?_,?_,((hU12.and hU3).and hU4).trans hset.2 (fun b hb e=>by omega)⟩
    ·exact zH.weaken (fun _ _ e=>e.elim) _ _ _ _ (zH.zF hset.2 (fun b e=>by omega) _ _ _ _ hE3)
    ·exact zL.weaken (fun _ _ e=>e.elim) _ _ (zL.zF hset.2 (fun b e=>by omega) _ _ hR3)
  ·have SC:=fun(W:World)(hU:zD zC w1 W)=>Qv a (by omega) W _ (h.on (hU1.and hU))
   rw[if_pos (by rw[HWF.out];rfl)]at SC;obtain⟨sc,hsc⟩:∃ q,q=a.scope:=⟨_,rfl⟩;rw[<-hsc]at SC;have HSC:=zG hsc;clear hsc;go_wp2_with fail
   (with_reducible refine IT.mono ?_);rintro e w3 ⟨rfl,hU3⟩;have hU13:=hU2.and hU3;have SC3:=SC w3 hU13;have ha3:=ha2.kept hU3;have hr3:=hr2.kept hU3;clear IT SC x0 x1 x2 x3;obtain⟨x0,x1,x2,x3⟩:=ha3.cells;go_wp2_with fail
   (with_reducible refine SC3.mono ?_);rintro e w4 ⟨rfl,hU4⟩;have hU14:=hU13.and hU4;have ha4:=ha3.kept hU4;have hr4:=hr3.kept hU4;clear SC3 x0 x1 x2 x3;by_cases h0:0<sc
   ·have hE:XC l a n=3:=by unfold XC;rw[if_neg (by rw[HWF.out];decide),if_neg (by rw[<-HBT.out];decide),if_pos (by rw[<-HSC.out];exact h0)]
    have HE:=zG hE;have R1:=fun W hU=>HRF.out 3 hE (by decide) W hU
    have R2:=R1 w4 hU14;clear hE R1;go_wp2_with fail
    (with_reducible refine R2.mono ?_);rintro e w5 ⟨va,vc,k3,i3,n3,a3,l3,c3,rfl,hvc,hE3,hR3,hU5⟩;have hr5:=hr4.kept hU5;obtain⟨r0,r1,r2,r3⟩:=hr5.cells;obtain⟨y0,y1,y2,y3⟩:=hr5.zI;have hlt:=hr5.lt;have hlt3:=hr4.lt;clear R2;go_wp2_with fail
    have hset:=hr5.set (d0:=.int .i64 k3) (d1:=.string (B n3)) (d2:=.int .i64 i3) (d3:=.slice a3 l3 c3);obtain⟨w9,hw9⟩:∃ q,q=(((w5.setCell ⟨w.heap.size+1+1,0,none⟩ (.int .i64 k3)).setCell ⟨w.heap.size+1+1,1,none⟩ (.string (B n3))).setCell ⟨w.heap.size+1+1,2,none⟩ (.int .i64 i3)).setCell ⟨w.heap.size+1+1,3,none⟩ (.slice a3 l3 c3):=⟨_,rfl⟩;rw[<-hw9]at hset;rw[<-hw9];clear hw9;obtain⟨e0,e1,e2,e3⟩:=hset.1.cells;refine bodyPost_ret (v:=.tuple #[.slice va l.length vc,.agg #[.int .i64 k3,.string (B n3),.int .i64 i3,.slice a3 l3 c3],.int .i64 3]) ?_ rfl ?_
    ·simp[results,Tryz.f33,go_sem,e0,e1,e2,e3]
    ·refine⟨va,vc,k3,i3,n3,a3,l3,c3,by rw[HE.out];unfold Ze;rw[if_neg (by rw[HE.out];decide)],by unfold Ze;rw[if_neg (by rw[HE.out];decide)];exact hvc,?_,?_,((hU1.and hU14).and hU5).trans hset.2 (fun b hb e=>by omega)⟩
     ·exact zH.weaken (fun _ _ e=>e.elim) _ _ _ _ (zH.zF hset.2 (fun b e=>by omega) _ _ _ _ hE3)
     ·exact zL.weaken (fun _ _ e=>e.elim) _ _ (zL.zF hset.2 (fun b e=>by omega) _ _ hR3)
   ·have hpi:qd a<=100000:=by
      obtain⟨_,h4096,_⟩:=Tm.QU a HWF.out;have:=zH4 a;omega
    have PI:=fun(W:World)(hU:zD zC w1 W)=>zJJ a (by have:=HBT.out.symm;simpa using this) hpi W _ (h.on (hU1.and hU))
    obtain⟨cb,hcb⟩:∃ q,q=(decide (n<0)|| decide ((qd a:Int)<n)):=⟨_,rfl⟩;have HCB:=zG hcb;have HPI:=zG hpi;have h0b:¬0<sc:=h0;obtain⟨pn,hpn⟩:∃ q,q=(qd a:Int):=⟨_,rfl⟩;rw[<-hpn]at PI hcb;have hpnb:0<=pn/\pn<=100000:=by omega
    obtain⟨hpn0,hpn1⟩:=hpnb;have HPN:=zG hpn;clear hpi hpn;go_upto_region 9 with fail
    go_cut [44]from 44 to 52 (fun v44 wx=>v44=.bool cb/\zD zC w4 wx)
    case first=>
      have hways:(n<0/\cb=true)\/(¬n<0/\pn<n/\cb=true)\/(¬n<0/\¬pn<n/\cb=false):=by
        by_cases h1:n<0
        ·exact .inl ⟨h1,by rw[hcb];simp[h1]⟩
        ·by_cases h2:pn<n
         ·exact .inr (.inl ⟨h1,h2,by rw[hcb];simp[h2]⟩)
         ·exact .inr (.inr ⟨h1,h2,by rw[hcb];simp[h1,h2]⟩)
      clear hcb;obtain⟨x0,x1,x2,x3⟩:=ha4.cells;have PI4:=PI w4 hU14;rcases hways with⟨h1,hc⟩|⟨h1,h2,hc⟩|⟨h1,h2,hc⟩
      ·have HC:=zG hc;clear hc;go_wp2_with fail
       go_meet
       case rel=>exact⟨by rw[HC.out],zD.refl _ _⟩
      all_goals
        have HC:=zG hc;clear hc;go_wp2_with fail
        (with_reducible refine PI4.mono ?_);rintro e w5 ⟨rfl,hU5⟩;go_wp2_with fail
        go_meet
        case rel=>exact⟨by first |(rw[HC.out];done)|(rw[HC.out,decide_eq_false (by omega)]),hU5⟩
    case rest=>
      obtain⟨rfl,hU5⟩:=hcut;obtain⟨w5,rfl⟩:∃ q,q=wc:=⟨_,rfl⟩;have hU15:=hU14.and hU5;have ha5:=ha4.kept hU5;have hr5:=hr4.kept hU5;have hl5:=hl1.kept hU15;clear hcb PI hU4 hU5 ha4 hr4 hU2 hU3 ha2 hr2 hl2b ha3 hr3 ha1 hr1;cases cb
      case true=>
        have hE:XC l a n=33:=by
          unfold XC;rw[if_neg (by rw[HWF.out];decide),if_neg (by rw[<-HBT.out];decide),if_neg (by rw[<-HSC.out];omega),if_pos];have:=HCB.out;simpa using this.symm
        have HE:=zG hE;have R2:=HRF.out 33 hE (by decide) w5 hU15;clear hE;go_wp2_with fail
        (with_reducible refine R2.mono ?_);rintro e w6 ⟨va,vc,k3,i3,n3,a3,l3,c3,rfl,hvc,hE3,hR3,hU6⟩;have hr6:=hr5.kept hU6;obtain⟨r0,r1,r2,r3⟩:=hr6.cells;obtain⟨y0,y1,y2,y3⟩:=hr6.zI;have hlt:=hr6.lt;have hlt3:=hr5.lt;clear R2;go_wp2_with fail
        have hset:=hr6.set (d0:=.int .i64 k3) (d1:=.string (B n3)) (d2:=.int .i64 i3) (d3:=.slice a3 l3 c3);obtain⟨w9,hw9⟩:∃ q,q=(((w6.setCell ⟨w.heap.size+1+1,0,none⟩ (.int .i64 k3)).setCell ⟨w.heap.size+1+1,1,none⟩ (.string (B n3))).setCell ⟨w.heap.size+1+1,2,none⟩ (.int .i64 i3)).setCell ⟨w.heap.size+1+1,3,none⟩ (.slice a3 l3 c3):=⟨_,rfl⟩;rw[<-hw9]at hset;rw[<-hw9];clear hw9;obtain⟨e0,e1,e2,e3⟩:=hset.1.cells;refine bodyPost_ret (v:=.tuple #[.slice va l.length vc,.agg #[.int .i64 k3,.string (B n3),.int .i64 i3,.slice a3 l3 c3],.int .i64 33]) ?_ rfl ?_
        ·simp[results,Tryz.f33,go_sem,e0,e1,e2,e3]
        ·refine⟨va,vc,k3,i3,n3,a3,l3,c3,by rw[HE.out];unfold Ze;rw[if_neg (by rw[HE.out];decide)],by unfold Ze;rw[if_neg (by rw[HE.out];decide)];exact hvc,?_,?_,((hU1.and hU15).and hU6).trans hset.2 (fun b hb e=>by omega)⟩
         ·exact zH.weaken (fun _ _ e=>e.elim) _ _ _ _ (zH.zF hset.2 (fun b e=>by omega) _ _ _ _ hE3)
         ·exact zL.weaken (fun _ _ e=>e.elim) _ _ (zL.zF hset.2 (fun b e=>by omega) _ _ hR3)
      case false=>
        have hnn:¬n<0/\¬(qd a:Int)<n:=by have:=HCB.out;simpa using this.symm
        obtain⟨m,rfl⟩:∃ m:Nat,n=(m:Int):=⟨n.toNat,by omega⟩;have hmp:m<=qd a:=by omega
        have hEr:∀ E,(xf l a m).1=E->XC l a m=E:=by
          intro E he;unfold XC;rw[if_neg (by rw[HWF.out];decide),if_neg (by rw[<-HBT.out];decide),if_neg (by rw[<-HSC.out];omega),if_neg (by omega),<-he];rfl
        have hst:a.zP=true\/a.zR=true:=by have:=HBT.out.symm;simpa using this
        have hls:Tm.lt 0 a:=(Tm.ZM _ (by omega)).2 (by have:=HSC.out;omega);have INV:=fun i hi he=>zKL (l:=l) hst hls i hi he
        have hm100:m<=100:=by omega
        have hwf5:=Tm.QU a HWF.out;have HM:=zG (And.intro hmp (And.intro hEr (And.intro hst hwf5)));clear hnn hmp hEr hst hls hn0 hn1 hwf5;have DS:=Yr l (by omega) hl.dup w5 la lc ((hL.on hU1).on hU15);have hzw1:w1.heap.size=w.heap.size+1+1+1:=by rw[HW1.out];simp
        have HZ:=zG hzw1;have hlx:=hl5.cell;have hz5:=hU15.size;have HL:=zG (And.intro hL (And.intro hU1 h));clear hzw1 hL hU1 h;obtain⟨ll,hll⟩:∃ q,q=l.length:=⟨_,rfl⟩;obtain⟨X,hX⟩:∃ X,X=w.heap.size+1:=⟨_,rfl⟩;obtain⟨R,hR⟩:∃ X,X=w.heap.size+1+1:=⟨_,rfl⟩;rw[<-hll]at DS hlx;rw[<-hX]at ha5 HRX;rw[<-hR]at hr5;rw[<-hll,<-hR,<-hX];have HXR:=zG (And.intro hX hR);have HLL:=zG hll;clear hX hR hll;go_wp2_with fail
        (with_reducible refine DS.mono ?_);rintro e w6 ⟨v6,css6,rfl,hD6,hU6⟩;obtain⟨a6,c6,rfl,hc6,hE6⟩:=hD6.rep (fun _ e=>e);have ha6:=ha5.kept hU6;have hr6:=hr5.kept hU6;have hl6:=hl5.kept hU6;have hU16:=hU15.and hU6;clear DS hlx hD6 hU6 hU15 ha5 hr5 hl5;have hc6':l.length<=c6:=by simpa using hc6
        have hz6:=hU16.size;have hE6':=zH.weaken (O':=fun y=>y=X\/y=R) (fun b _ e=>by have h1:=HXR.out;have h2:=HZ.out;have h3:=hU16.size;rcases e with e |e<;>omega) _ _ _ _ hE6;have ha6':=ha6;obtain⟨hL,hU1,hRa⟩:=HL.out;have hT6:zL (fun y=>y=X\/y=R) w6 a.zN [.int .i64 k,.string (B nm),.int .i64 i,.slice aa len cap]:=(zL.weaken (fun b _ e=>.inr (by have h1:=HXR.out;rcases e with e |e<;>omega)) _ _ (zL.zS _ _ hRa)).on (hU1.and hU16);have hlen:=HLn.out;have hl6':zv w6 w.heap.size (.slice la ll lc) 23:=by rw[HLL.out];exact hl6
        have hU16x:=hU16.mono (S':=fun y=>y=X) (fun _ _ e=>e.elim);clear hL hU1 hRa hl1 hE6 hc6 hl6 hU16;go_wp2_with fail
        go_loopw [11,61] (fun v11 v61 wr=>∃(j:Nat)(L:List Mv)(A:Tm)(k' i':Int)(n':List UInt8)(a':Option Addr)(c':Nat)(va:Option Addr)(vc:Nat),v61=.int .i64 (j:Int)/\j<=m/\xf l a j=(0,L,A)/\v11=.slice va L.length vc/\L.length<=vc/\
            zH (fun y=>y=X\/y=R) wr 6 (L.map Mv.zN) va 0/\zK wr X (.int .i64 k') (.string (B n')) (.int .i64 i') (.slice a' A.args.length c') 29/\zL (fun y=>y=X\/y=R) wr A.zN [.int .i64 k',.string (B n'),.int .i64 i',.slice a' A.args.length c']/\
            zv wr w.heap.size (.slice la ll lc) 23/\zK wr R (.int .i64 0) (.string (B [])) (.int .i64 0) (.slice none 0 0) 29/\zD (fun y=>y=X) w1 wr)
          (fun _ v61 _=>m - (intOf v61).toNat)
        case atStart=>exact⟨0,l,a,k,i,nm,aa,cap,a6,c6,rfl,Nat.zero_le _,rfl,by first |rfl |rw[List.length_map],hc6',hE6',by rw[hlen];exact ha6,by rw[hlen];exact hT6,hl6',hr6,hU16x⟩
        case round=>
          clear hE6' ha6 ha6' hT6 hl6' hr6 hU16x hc6' hz6 hz5;obtain⟨j,L,A,k',i',n',a',c',va,vc,rfl,hjm,hrf,rfl,hLc,hE,hB,hR,hb,hr,hU⟩:=hrel;have I:=INV j (by have:=HM.out.1;omega) (by rw[hrf]);obtain⟨I1,I2,I3,I4,I5,I6⟩:=I;rw[hrf]at I1 I2 I3 I4 I5 I6;simp only at I1 I2 I3 I4 I5 I6;have hji:(j:Int)<=100:=by omega
          have hj0:(0:Int)<=(j:Int):=by omega
          have hmi:(m:Int)<=100:=by omega
          have hXl:=hB.lt;have hRl:=hr.lt;have hok5:=HM.out.2.2.2;obtain⟨x0,x1,x2,x3⟩:=hB.cells;have b0:=hb.cell;have hszA:A.size<=4096:=by have:=hok5.2.1;omega
          have hStk:zET L:=by
            obtain⟨ms,hms,hmo⟩:=I6;refine⟨by rw[I3];omega,fun mv hmv=>?_⟩;rw[hms]at hmv;rcases List.mem_append.1 hmv with h9 |h9
            ·exact hl.mv mv h9
            ·obtain⟨h10,h11⟩:=hmo mv h9;rw[h11];exact⟨by omega,by simp,fun v hv=>by cases hv⟩
          by_cases hlt:j<m
          ·obtain⟨pn',ix,d,b,rfl,hd,hb2,hpb⟩:=zBl I1 (m:=0) (by have:=HM.out.1;omega);obtain⟨a5,c5,e5,hc5,hE5⟩:=zf.1 hR;simp only[List.cons.injEq,Value.int.injEq,Value.string.injEq,Value.slice.injEq,true_and,and_true]at e5;obtain⟨eb,eo,kd,nd,xd,sd,cd,he1,hebl,heb0,p0,p1,p2,p3,hRd⟩:=zc hE5 0 (by simp);subst he1;obtain⟨eb2,eo2,kb,nb,xb,sb,cb,he2,_,_,r0,r1,r2,r3,hRb⟩:=zc hE5 1 (by simp);cases he2
           obtain⟨rfl,hnn,rfl,rfl,-⟩:=e5;have hl2':(Tm.mk 2 pn' i' [d,b]).args.length=2:=rfl;rw[hnn,hl2']at hB;rw[hnn]at x1;rw[hl2']at x3;simp only[List.getElem_cons_succ,List.getElem_cons_zero]at p3 hRd r3 hRb;simp only[Nat.zero_mul,Nat.add_zero,Nat.one_mul]at p0 p1 p2 p3 r0 r1 r2 r3;have hlt':(j:Int)<(m:Int):=by omega
           have hnz:=zG (And.intro hE (And.intro hR hb));obtain⟨q,hq⟩:∃ q,q=xz pn':=⟨_,rfl⟩
           have hqw:q.length<=1000000:=by
             rw[hq];have h9:=I4.1;rw[Tm.yv]at h9;unfold xz;split
             ·simp
             ·omega
           obtain⟨f,hf⟩:∃ q,q=fil l.length j 0 d:=⟨_,rfl⟩
           have hdw:d.wt<=290000/\d.size<=4096:=by
             have h9:=I4.1;rw[Tm.yv,Tm.ZP,Tm.ZP]at h9;rw[Tm.zU,Tm.zQ,Tm.zQ]at hszA;exact⟨by omega,by omega⟩
           have hfw:f.wt<=300000:=by rw[hf];unfold fil;rw[zCq];omega
           have FL:=fun(W:World)(hW:zD zC wr W)=>zEH d l.length j (by omega) (by omega) W _ (by omega) (fun b' x hx e=>(Tm.zCe d hd b' x hx).1 (by simp[e])) ((zL.weaken (fun _ _ e=>e.elim) _ _ hRd).on hW)
           rw[<-hf,<-HLL.out]at FL;have NW:=fun(W:World)(hW:zD zC wr W)(cs':List Value)(h':zL zC W f.zN cs')=>zHM L hStk q hqw f hfw W va vc cs' ((zH.weaken (fun _ _ e=>e.elim) _ _ _ _ hE).on hW) h'
           have hst:=QR l a j;rw[hrf,if_neg (by simp)]at hst;simp only at hst;have hn0:XM (Tm.mk 2 pn' i' [d,b]) 0=d:=rfl;have hn1:XM (Tm.mk 2 pn' i' [d,b]) 1=b:=rfl;have hnm:(Tm.mk 2 pn' i' [d,b]).name=pn':=rfl;rw[hn0,hn1,hnm,<-hq,<-hf]at hst;obtain⟨nl,hnl⟩:∃ z,z=YJ L q f:=⟨_,rfl⟩;obtain⟨ni,hni⟩:∃ z,z=zEe L q f:=⟨_,rfl⟩;obtain⟨ce,hce⟩:∃ z,z=ya L.length q f:=⟨_,rfl⟩;simp only[<-hnl,<-hni,<-hce]at NW;rw[<-hnl,<-hce]at hst;have HST:=zG hst;have HQ:=zG hq;clear hst hnl hni hce hf hq hn0 hn1 hnm hdw hfw hqw hRd hE5 hE hR hb hnn I1 I2 I3 I4 I5 I6 hpb hd hszA hok5 hStk;obtain⟨hE,hR,hb⟩:=hnz.out;obtain⟨cn,hcn⟩:∃ c,c=(pn' == [95]):=⟨_,rfl⟩;have hcn':=hcn.symm;have HCN:=zG hcn;clear hcn;go_upto_if 67 with fail
           go_cut [13]from 66 to 67 (fun v13 wx=>v13=.string (B q)/\wx=wr)
           case first=>
             cases cn
             ·have hq2:q=pn':=by
                rw[HQ.out];unfold xz;rw[if_neg (by simpa using hcn')]
              go_wp2_with fail
              go_meet
              case rel=>exact⟨by rw[hq2],by first |rfl |trivial⟩
             ·have hq2:q=[]:=by
                rw[HQ.out];unfold xz;rw[if_pos (by simpa using hcn')]
              go_wp2_with fail
              go_meet
              case rel=>exact⟨by rw[hq2],by first |rfl |trivial⟩
           case rest=>
             obtain⟨rfl,hwx⟩:=hcut;obtain rfl:wr=wc:=hwx.symm;have hd:zD zC wr wr.drew:=(zD.refl zC _).drew;have FL2:=FL _ hd;have HC:=zG (And.intro hE (And.intro hR (And.intro hb (And.intro hr (And.intro hB hU)))));clear FL hE hR hb hr hB hU hnz;obtain⟨Ll,hLl⟩:∃ z,z=L.length:=⟨_,rfl⟩;rw[<-hLl];rw[<-hLl]at hLc;simp only[<-hLl]at NW;have HLl:=zG hLl;have HNW:=zG NW;clear NW hLl;go_upto_region 19 with fail
             go_region_law (first
               |((rw[if_pos (by rfl)]);go_simp;(go_at_call 84);(with_reducible refine FL2.mono ?_);rintro e w7 ⟨k7,i7,n7,a7,l7,c7,rfl,hR7,hU7⟩;have hUw7:=hd.and hU7;have NW7:=HNW.out w7 hUw7 _ (zL.weaken (fun _ _ e=>e.elim) _ _ hR7))
               |((rw[if_pos (by rfl)]);go_simp;(go_at_call 46);(with_reducible refine NW7.mono ?_);rintro e w8 ⟨v8,css8,rfl,hD8,hU8⟩))
             all_goals
               have hUw8:=hUw7.and hU8;obtain⟨hE,hR,hb,hr,hB,hU⟩:=HC.out;have hR9:=hr.kept hUw8;have hB9:=hB.kept hUw8;have hb9:=hb.kept hUw8;have hUX:zD (fun y=>y=X) w1 w8:=hU.trans hUw8 (fun _ _ e=>e.elim);have hRb8:=zL.weaken (O':=fun y=>y=X\/y=R) (fun b _ e=>e) _ _ (hRb.on hUw8);have s0:=hUw8.cell r0 (fun x=>x);have s1:=hUw8.cell r1 (fun x=>x);have s2:=hUw8.cell r2 (fun x=>x);have s3:=hUw8.cell r3 (fun x=>x);have hDL:=hD8;have hwz:=hUw7.size;obtain⟨a8,c8,rfl,hc8,hE8⟩:=hD8.rep (fun _ e=>e);have hE8':=zH.weaken (O':=fun y=>y=X\/y=R) (fun b _ e=>by rcases e with e |e<;>omega) _ _ _ _ hE8;have hl8:(nl.map Mv.zN).length=nl.length:=List.length_map ..;rw[hl8]at hc8;rw[hl8];have HB9:=zG (And.intro hB9 (And.intro hR9 (And.intro hb9 (And.intro hUX (And.intro hRb8 (And.intro hE8' hc8))))));clear hE hR hb hr hB hU hRb hDL hD8 hE8 hE8' hUw8 hUX hRb8 FL2 NW7 HNW hU7 hU8 hR7 r0 r1 r2 r3 p0 p1 p2 p3 x0 x1 x2 x3 b0 hd hc8 hl8 hUw7 HC;by_cases hz:ce=0
               ·have hst:xf l a (j+1)=(0,nl,b):=by rw[HST.out,if_neg (by simp[hz])]
                have hzb:(ce == 0)=true:=by simpa using hz
                have HN:=zG hst;clear hst;subst hz;obtain⟨x0,x1,x2,x3⟩:=HB9.out.1.cells;obtain⟨f0,f1,f2,f3⟩:=HB9.out.1.zI;have qB:=HB9.out.1.lt;go_wp2_with fail
                have hset:=HB9.out.1.set (d0:=.int .i64 kb) (d1:=.string (B nb)) (d2:=.int .i64 xb) (d3:=.slice sb b.args.length cb);go_roundw
                case rel=>
                  obtain⟨h1,h2,h3,h4,h5,h6,h7⟩:=HB9.out;exact⟨j+1,nl,b,kb,xb,nb,sb,cb,a8,c8,by go_num,by omega,HN.out,rfl,h7,zH.zF hset.2 (fun _ e=>.inl e) _ _ _ _ h6,hset.1,zL.zF hset.2 (fun _ e=>.inl e) _ _ h5,h3.zF hset.2 (by have:=HXR.out;omega),h2.zF hset.2 (by have:=HXR.out;omega),h4.trans hset.2 (fun _ _ e=>e)⟩
                case measure=>simp[intOf];omega
               ·have hst:(xf l a (j+1)).1=ce:=by rw[HST.out,if_pos hz]
                have hstop:=zD2 l a (i:=j+1) (by rw[hst];exact hz) (m - (j+1));rw[show j+1+(m - (j+1))=m by omega]at hstop;have hE2:XC l a m=ce:=HM.out.2.1 ce (by rw[hstop,hst]);have R2:=HRX.out ce hE2 hz w8 HB9.out.2.2.2.1;have HE:=zG (And.intro hE2 hz);have hzb:(ce !=0)=true:=by simpa using hz
                clear hst hstop hE2 hz;go_wp2_with fail
                (with_reducible refine R2.mono ?_);rintro e w9 ⟨va9,vc9,k3,i3,n3,a3,l3,c3,rfl,hvc,hE3,hR3,hU9⟩;have hr9:=HB9.out.2.1.kept hU9;obtain⟨r0,r1,r2,r3⟩:=hr9.cells;obtain⟨y0,y1,y2,y3⟩:=hr9.zI;have hlt9:=hr9.lt;have hlt8:=HB9.out.2.1.lt;clear R2;go_wp2_with fail
                have hset:=hr9.set (d0:=.int .i64 k3) (d1:=.string (B n3)) (d2:=.int .i64 i3) (d3:=.slice a3 l3 c3);obtain⟨w10,hw10⟩:∃ q,q=(((w9.setCell ⟨R,0,none⟩ (.int .i64 k3)).setCell ⟨R,1,none⟩ (.string (B n3))).setCell ⟨R,2,none⟩ (.int .i64 i3)).setCell ⟨R,3,none⟩ (.slice a3 l3 c3):=⟨_,rfl⟩;rw[<-hw10]at hset;rw[<-hw10];clear hw10;obtain⟨e0,e1,e2,e3⟩:=hset.1.cells;refine bodyPost_ret (v:=.tuple #[.slice va9 l.length vc9,.agg #[.int .i64 k3,.string (B n3),.int .i64 i3,.slice a3 l3 c3],.int .i64 ce]) ?_ rfl ?_
                ·simp[results,Tryz.f33,go_sem,e0,e1,e2,e3]
                ·refine⟨va9,vc9,k3,i3,n3,a3,l3,c3,by rw[HE.out.1];unfold Ze;rw[if_neg (by rw[HE.out.1];exact HE.out.2)],by unfold Ze;rw[if_neg (by rw[HE.out.1];exact HE.out.2)];exact hvc,?_,?_,?_⟩
                 ·exact zH.weaken (fun _ _ e=>e.elim) _ _ _ _ (zH.zF hset.2 (fun b e=>by omega) _ _ _ _ hE3)
                 ·exact zL.weaken (fun _ _ e=>e.elim) _ _ (zL.zF hset.2 (fun b e=>by omega) _ _ hR3)
                 ·exact((HL.out.2.1.trans HB9.out.2.2.2.1 (fun b hb e=>by have:=HXR.out;omega)).and hU9).trans hset.2 (fun b hb e=>by have:=HXR.out;omega)
          ·obtain rfl:j=m:=by omega
           have hE0:XC l a j=0:=HM.out.2.1 0 (by rw[hrf]);have hS0:Ze l a j=L:=by unfold Ze;rw[if_pos hE0,Int.toNat_natCast,hrf]
           have hT0:zBO l a j=fil l.length j 0 A:=by unfold zBO;rw[if_pos hE0,Int.toNat_natCast,hrf]
           have hokA:∀ b,∀ x∈A.nodes b,x.k=5->0<=x.i/\x.i<=1048576:=fun b x hx e=>by
             rcases I1 with h9 |h9
             ·exact(Tm.zCe A h9 b x hx).1 (by simp[e])
             ·exact(Tm.zH1 A h9 b x hx).1 (by simp[e])
           have FL:=zEH A l.length j (by omega) (by omega) wr _ (by omega) hokA (zL.weaken (fun _ _ e=>e.elim) _ _ hR);rw[<-hT0,<-HLL.out]at FL;have HS:=zG (And.intro hE0 (And.intro hS0 (And.intro hE hU)));obtain⟨Ll,hLl⟩:∃ z,z=L.length:=⟨_,rfl⟩;rw[<-hLl];have HLl:=zG (And.intro hLl hLc);have hjn:¬(j:Int)<(j:Int):=by omega
           clear hLl hLc hE0 hS0 hT0 hokA hE hU I1 I2 I3 I4 I5 I6 hrf hStk hok5 hR hlt hB;generalize A.args.length=al at *
           go_wp2_with fail
           (with_reducible refine FL.mono ?_);rintro e w7 ⟨k7,i7,n7,a7,l7,c7,rfl,hR7,hU7⟩;have hr7:=hr.kept hU7;obtain⟨r0,r1,r2,r3⟩:=hr7.cells;obtain⟨y0,y1,y2,y3⟩:=hr7.zI;have hlt7:=hr7.lt;have hltr:=hr.lt;clear FL x0 x1 x2 x3 b0;go_wp2_with fail
           have hset:=hr7.set (d0:=.int .i64 k7) (d1:=.string (B n7)) (d2:=.int .i64 i7) (d3:=.slice a7 l7 c7);obtain⟨w10,hw10⟩:∃ q,q=(((w7.setCell ⟨R,0,none⟩ (.int .i64 k7)).setCell ⟨R,1,none⟩ (.string (B n7))).setCell ⟨R,2,none⟩ (.int .i64 i7)).setCell ⟨R,3,none⟩ (.slice a7 l7 c7):=⟨_,rfl⟩;rw[<-hw10]at hset;rw[<-hw10];clear hw10;obtain⟨e0,e1,e2,e3⟩:=hset.1.cells;refine bodyPost_ret (v:=.tuple #[.slice va Ll vc,.agg #[.int .i64 k7,.string (B n7),.int .i64 i7,.slice a7 l7 c7],.int .i64 0]) ?_ rfl ?_
           ·simp[results,Tryz.f33,go_sem,e0,e1,e2,e3]
           ·refine⟨va,vc,k7,i7,n7,a7,l7,c7,by rw[HS.out.1,HS.out.2.1,HLl.out.1],by rw[HS.out.2.1];exact HLl.out.2,?_,?_,?_⟩
            ·rw[HS.out.2.1];exact zH.weaken (fun _ _ e=>e.elim) _ _ _ _ (zH.zF hset.2 (fun b e=>.inr e) _ _ _ _ (HS.out.2.2.1.on hU7))
            ·exact zL.weaken (fun _ _ e=>e.elim) _ _ (zL.zF hset.2 (fun b e=>by omega) _ _ hR7)
            ·exact((HL.out.2.1.trans HS.out.2.2.2 (fun b hb e=>by have:=HXR.out;omega)).and hU7).trans hset.2 (fun b hb e=>by have:=HXR.out;omega)
end Go.Proofs.YthgmimncdjhgnaaGreatDoor
