/- The reference's replace. -/
import Derived.Test.YthgmimncdjhgnaaGreatDoorWCD
import Derived.Test.YthgmimncdjhgnaaGreatDoorWCE
import Derived.Test.YthgmimncdjhgnaaGreatDoorWCF
import Derived.Test.YthgmimncdjhgnaaGreatDoorWCH
import Derived.Test.YthgmimncdjhgnaaGreatDoorWCK
import Derived.Test.YthgmimncdjhgnaaGreatDoorWCM
import Derived.Test.YthgmimncdjhgnaaGreatDoorWPA
import Derived.Deep.AppendLies
import Derived.Deep.CutRange
import Derived.Deep.RegionHeld3
set_option maxRecDepth 100000
set_option maxHeartbeats 16000000
namespace Go.Proofs.YthgmimncdjhgnaaGreatDoor
section
open Go.RowKit Go.LF
def zFZ(u:Tm)(ok:Bool)(w:World)(e:Ending)(w':World):Prop:=
  ∃(k i:Int)(n:List UInt8)(a:Option Addr)(len cap:Nat),e=.returned (.tuple #[.agg #[.int .i64 k,.string (B n),.int .i64 i,.slice a len cap],.bool ok])/\
   (ok=true->zK (fun x=>x<w.heap.size) w' u.zM [.int .i64 k,.string (B n),.int .i64 i,.slice a len cap])/\zD zC w w'
abbrev ZF(tb eb eo:Nat)(c0 c1 c2 c3 d0 d1 d2 d3:Value)(w':World):Prop:=
  ZK tb c0 c1 c2 c3 w'/\w'.cell? ⟨eb,eo,none⟩=some d0/\w'.cell? ⟨eb,eo+1,none⟩=some d1/\w'.cell? ⟨eb,eo+2,none⟩=some d2/\w'.cell? ⟨eb,eo+3,none⟩=some d3
theorem ZF.zE{tb eb eo:Nat}{c0 c1 c2 c3 d0 d1 d2 d3:Value}{w w':World}{S:Nat->Prop}(h:ZF tb eb eo c0 c1 c2 c3 d0 d1 d2 d3 w)(hU:zD S w w')(h1:¬S tb)(h2:¬S eb):ZF tb eb eo c0 c1 c2 c3 d0 d1 d2 d3 w':=
  ⟨h.1.zE hU h1,hU.cell h.2.1 h2,hU.cell h.2.2.1 h2,hU.cell h.2.2.2.1 h2,hU.cell h.2.2.2.2 h2⟩
theorem ZF.on{tb eb eo:Nat}{c0 c1 c2 c3 d0 d1 d2 d3:Value}{w w':World}(h:ZF tb eb eo c0 c1 c2 c3 d0 d1 d2 d3 w)(hU:zD zC w w'):ZF tb eb eo c0 c1 c2 c3 d0 d1 d2 d3 w':=h.zE hU (fun x=>x) (fun x=>x)
theorem ZF.new{tb eb eo:Nat}{c0 c1 c2 c3 d0 d1 d2 d3:Value}{w:World}(h:ZF tb eb eo c0 c1 c2 c3 d0 d1 d2 d3 w)(o:Obj):ZF tb eb eo c0 c1 c2 c3 d0 d1 d2 d3 (w.alloc o):=h.on ((zD.refl zC w).alloc o)
theorem ZF.set{tb eb eo r:Nat}{c0 c1 c2 c3 d0 d1 d2 d3:Value}{w:World}(h:ZF tb eb eo c0 c1 c2 c3 d0 d1 d2 d3 w)(h1:tb≠r)(h2:eb≠r)(o:Nat)(v:Value):ZF tb eb eo c0 c1 c2 c3 d0 d1 d2 d3 (w.setCell ⟨r,o,none⟩ v):=h.zE (zD.set (zD.refl _ w) o v) h1 h2
theorem zBX(l:List Int)(la:Option Addr)(lc:Nat)(hl:l.length<=1000)(t:Tm):t.size<=100000->(∀ b,∀ x∈t.nodes b,x.ok)->∀(b:Int)(w:World)(cs:List Value),0<=b->b+t.size<=1000000->zK zC w t.zM cs->zH zC w 1 (l.map (yP.int .i64)) la 0->
    Calls Tryz.prog 105 #[.agg cs.toArray,.slice la l.length lc,.int .i64 b] w (zFZ (t.mv (xr l) b) (t.yG (xr l) b) w):=by
  induction t using Tm.ind with
  |h k nm i ts ih=>
   intro hsz hok b w cs h0 h1 hR hE2;obtain⟨a,cap,rfl,hcap,hE⟩:=zd.1 hR;have hlen:=Tm.zN ts;simp only[Tm.zS]at hsz h1;have hoks:=Tm.qt hok;have hno:=hok b;rw[Tm.zb]at hno;have hi5:k=5->0<=i/\i<=1048576:=fun e=>(hno _ (List.mem_cons_self ..)).1 (by simp[e])
   obtain⟨i0,hi,hi0,hi1,hi2⟩:=info_parts yV;obtain⟨w2,hw2⟩:∃ w2,w2=((w.alloc (.cells #[.int .i64 k,.string (B nm),.int .i64 i,.slice a ts.length cap] 29)).alloc (.cells #[.int .i64 0,.string (B []),.int .i64 0,.slice none 0 0] 29)).alloc (.cells #[.int .i64 k,.string (B nm),.int .i64 i,.slice none 0 0] 29):=⟨_,rfl⟩;have hU2:zD zC w w2:=by rw[hw2];exact(((zD.refl zC w).alloc _).alloc _).alloc _
   have ht2:zG w2 w.heap.size (.int .i64 k) (.string (B nm)) (.int .i64 i) (.slice a ts.length cap) 29:=by rw[hw2];exact((zG.zJ rfl).kept ((zD.refl zC _).alloc _)).kept ((zD.refl zC _).alloc _)
   have hr2:zG w2 (w.heap.size+1) (.int .i64 0) (.string (B [])) (.int .i64 0) (.slice none 0 0) 29:=by rw[hw2];exact(zG.zJ (by simp)).kept ((zD.refl zC _).alloc _)
   have ho2:zG w2 (w.heap.size+1+1) (.int .i64 k) (.string (B nm)) (.int .i64 i) (.slice none 0 0) 29:=by rw[hw2];exact zG.zJ (by simp)
   obtain⟨t0,t1,t2,t3⟩:=ht2.cells;obtain⟨o0,o1,o2,o3⟩:=ho2.cells;obtain⟨f0,f1,f2,f3⟩:=ho2.zI;obtain⟨s0,s1,s2,s3⟩:=hr2.cells;obtain⟨g0,g1,g2,g3⟩:=hr2.zI;have hz2:=ho2.lt;have HW2:=zF hw2;have HW:=zF (And.intro hsz h1);obtain⟨cv,hcv⟩:∃ c,c=(k == 5 && decide (b<=i)):=⟨_,rfl⟩
   have hways:((k == 5)=true/\b<=i)\/((k == 5)=true/\¬b<=i)\/(k == 5)=false:=by
     by_cases h:k=5
     ·by_cases h':b<=i
      ·exact .inl ⟨by simp[h],h'⟩
      ·exact .inr (.inl ⟨by simp[h],h'⟩)
     ·exact .inr (.inr (by simp[h]))
   have HC:=zF hcv;have HY:=zF hways;have HI5:=zF hi5;clear hw2 hR hno hok hcv hways hi5;go_enter Tryz.func105,Tryz.ntmps105
   go_upto_region 2 with fail
   rw[<-HW2.out];go_cut [28]from 13 to 28 (fun vc wx=>vc=.bool cv/\w2=wx)
   case first=>
     rcases HY.out with⟨h5,hbi⟩|⟨h5,hbi⟩|h5;case' inl=>have hi6:=HI5.out (by simpa using h5)
     case' inr.inl=>have hi6:=HI5.out (by simpa using h5)
     all_goals
       try simp only[Int.not_le]at hbi
       go_wp2_with fail
       go_meet
       case rel=>exact⟨by rw[HC.out];simp[h5]<;>omega,rfl⟩
   case rest=>
     obtain⟨rfl,rfl⟩:=hcut;go_upto_if 28 with fail
     go_cut []from 9 to 46 (fun wc=>Tm.XK (xr l) b k i=true/\zG wc w.heap.size (.int .i64 k) (.string (B nm)) (.int .i64 i) (.slice a ts.length cap) 29/\zG wc (w.heap.size+1) (.int .i64 0) (.string (B [])) (.int .i64 0) (.slice none 0 0) 29/\
       zG wc (w.heap.size+1+1) (.int .i64 k) (.string (B nm)) (.int .i64 (Tm.xu (xr l) b k i)) (.slice none 0 0) 29/\zD zC w wc)
     case first=>
       cases cv
       ·go_wp2_with fail
        go_meet
        case rel=>
          have hc:=HC.out
          have e:Tm.xu (xr l) b k i=i/\Tm.XK (xr l) b k i=true:=by
            unfold Tm.xu Tm.XK;by_cases hk:k=5/\b<=i
            ·exact absurd hc (by simp[hk.1,hk.2])
            ·have e2:(k == 5 && decide (b<=i))=false:=hc.symm;rw[if_neg hk,e2];exact⟨rfl,rfl⟩
          exact⟨e.2,ht2,hr2,by rw[e.1];exact ho2,hU2⟩
       ·have hki:k=5/\b<=i:=by have:=HC.out;simpa using this.symm
        obtain⟨hk5,hbi⟩:=hki;have hi6:=HI5.out hk5;clear HI5;have hb1:b<=1000000:=by have:=HW.out;omega
        have PL:=zET l (by omega) (i - b) w2 la lc (hE2.on hU2);have hpr:=ZO l (i - b)
        have hmk:Tm.XK (xr l) b k i=decide (0<=ZU l (i - b))/\Tm.xu (xr l) b k i=(l.length:Int) - 1 - ZU l (i - b)+b:=by
          unfold Tm.XK Tm.xu xr;rw[if_pos ⟨hk5,hbi⟩,hk5];refine⟨?_,rfl⟩;simp only[hbi,beq_self_eq_true,decide_true,Bool.and_self,Bool.not_true,Bool.false_or];by_cases h:0<=ZU l (i - b)
          ·simp only[h,decide_true,Bool.true_and,Bool.and_eq_true,decide_eq_true_eq];omega
          ·simp[h]
        generalize ZU l (i - b)=p at *
        have HMK:=zF hmk;clear hmk hk5;go_wp2_with fail
        (with_reducible refine PL.mono ?_);rintro e w5 ⟨rfl,rfl⟩;by_cases hp:p<0
        ·have hbad:Tm.yG (xr l) b (.mk k nm i ts)=false:=by rw[Tm.xQ,HMK.out.1,decide_eq_false (by omega),Bool.false_and]
         have HMB:=zF hbad;clear hbad PL;go_wp2_with fail
         obtain⟨w8,hw8⟩:∃ w8,w8=(((w5.setCell ⟨w.heap.size+1,0,none⟩ (.int .i64 k)).setCell ⟨w.heap.size+1,1,none⟩ (.string (B nm))).setCell ⟨w.heap.size+1,2,none⟩ (.int .i64 i)).setCell ⟨w.heap.size+1,3,none⟩ (.slice none 0 0):=⟨_,rfl⟩;have hset:=hr2.set (d0:=.int .i64 k) (d1:=.string (B nm)) (d2:=.int .i64 i) (d3:=.slice none 0 0);rw[<-hw8]at hset;rw[<-hw8];clear hw8;obtain⟨e0,e1,e2,e3⟩:=hset.1.cells;refine bodyPost_ret (v:=.tuple #[.agg #[.int .i64 k,.string (B nm),.int .i64 i,.slice none 0 0],.bool false]) ?_ rfl ?_
         ·simp[results,Tryz.f105,go_sem,e0,e1,e2,e3]
         ·rw[HMB.out];exact⟨k,i,nm,none,0,0,rfl,fun e=>absurd e (by decide),hU2.trans hset.2 (fun x hx e=>by omega)⟩
        ·have hp0:¬p<0:=hp;clear PL;go_wp2_with fail
         go_meet
         case rel=>exact⟨by rw[HMK.out.1];exact decide_eq_true (by omega),ht2.other (by omega) _,hr2.other (by omega) _,by rw[HMK.out.2,show(l.length:Int) - 1 - p+b=b+l.length - 1 - p by omega];exact ho2.qO _,hU2.trans (zD.set (zD.refl _ _) 2 _) (fun x hx e=>by omega)⟩
     case rest=>
       obtain⟨hoki,htp,hrp,hop,hUp⟩:=hcut;clear t0 t1 t2 t3 o0 o1 o2 o3 f0 f1 f2 f3 s0 s1 s2 s3 g0 g1 g2 g3 ht2 hr2 ho2 hU2;obtain⟨mi,hmi⟩:∃ mi,mi=Tm.xu (xr l) b k i:=⟨_,rfl⟩;rw[<-hmi]at hop;have HMI:=zF (And.intro hmi hoki);have hbase:w.heap.size+1+1<wc.heap.size:=hop.lt;obtain⟨wp,rfl⟩:∃ wp,wp=wc:=⟨_,rfl⟩;clear hmi hoki;go_wp2_with fail
       go_loopw [10] (fun vj wr=>∃(j:Nat)(v:Value)(css:List (List Value)),vj=.int .i64 j/\j<=ts.length/\Tm.yY (xr l) b k 0 (ts.take j)=true/\yD wp.heap.size wr v (Tm.yu (xr l) b k 0 (ts.take j)) css/\
           zG wr (w.heap.size+1+1) (.int .i64 k) (.string (B nm)) (.int .i64 mi) v 29/\zG wr w.heap.size (.int .i64 k) (.string (B nm)) (.int .i64 i) (.slice a ts.length cap) 29/\
           zG wr (w.heap.size+1) (.int .i64 0) (.string (B [])) (.int .i64 0) (.slice none 0 0) 29/\zD zC w wr/\wp.heap.size<=wr.heap.size)
         (fun vj _=>ts.length - (intOf vj).toNat)
       case atStart=>exact⟨0,_,[],rfl,Nat.zero_le _,by simp[Tm.yY],by simp only[List.take_zero,Tm.yu];exact yD.nil _ _,hop,htp,hrp,hUp,Nat.le_refl _⟩
       case round=>
         clear hop htp hrp hUp;obtain⟨j,v,css,rfl,hj,hok,hts,hout,htb,hrb,hU,hbr⟩:=hrel;have HOK:=zF hok;clear hok;obtain⟨t0,t1,t2,t3⟩:=htb.cells;have qo:=hout.lt;have hj0:(0:Int)<=(j:Int):=by omega
         have hjb:(j:Int)<=100000:=by omega
         by_cases hlt:j<ts.length
         ·obtain⟨eb,eo,ek,en,ex,es,ec,rfl,hebl,_,p0,p1,p2,p3,hRp⟩:=zk (hE.on hU) j hlt;have hsz1:=Tm.zR (List.getElem_mem hlt);obtain⟨hu0,hu1⟩:=Tm.yF k j;have hj1:(j:Int)<(ts.length:Int):=by omega
          have hd:zD zC wr wr.drew:=(zD.refl zC wr).drew;have ha:zD zC wr (wr.alloc (.cells #[.int .i64 0,.string (B []),.int .i64 0,.slice none 0 0] 29)).drew:=((zD.refl zC wr).alloc _).drew;have H2:=fun w'=>Yx k j j rfl nm i (.slice (some ⟨eb,eo,none⟩) ts.length cap) w'
          have IH:=fun(z:Int)w'(hz:z=b+Tm.under k j)(hV:zD zC wr w')=>ih (ts[j]'hlt) (List.getElem_mem hlt) (by omega) (hoks _ (List.getElem_mem hlt)) z w' _ (by omega) (by omega) (hRp.on hV) (hE2.on (hU.and hV))
          obtain⟨us,hus⟩:∃ us,us=Tm.yu (xr l) b k 0 (ts.take j):=⟨_,rfl⟩;obtain⟨okj,hokj⟩:∃ o,o=(ts[j]'hlt).yG (xr l) (b+Tm.under k j):=⟨_,rfl⟩;obtain⟨u,hu⟩:∃ u,u=(ts[j]'hlt).mv (xr l) (b+Tm.under k j):=⟨_,rfl⟩;have hul:us.length=j:=by rw[hus,Tm.xR,List.length_take];omega
          have hsucc:okj=true->us++[u]=Tm.yu (xr l) b k 0 (ts.take (j+1))/\Tm.yY (xr l) b k 0 (ts.take (j+1))=true:=by
            intro e;rw[Tm.ZA _ _ _ _ _ hlt,Tm.yU _ _ _ _ _ hlt,<-hus,<-hu,HOK.out,<-hokj,e];exact⟨rfl,rfl⟩
          have hbad:okj=false->Tm.yG (xr l) b (.mk k nm i ts)=false:=by
            intro e;rw[Tm.xQ];have h1:=Tm.yU (xr l) b k ts j hlt;rw[<-hokj,e,Bool.and_false]at h1;have h2:=Tm.YE (xr l) b k (ts.take (j+1)) (ts.drop (j+1)) 0;rw[List.take_append_drop,h1,Bool.false_and]at h2;rw[h2,Bool.and_false]
          rw[<-hus]at hts
          have IH':∀(z:Int)w',z=b+Tm.under k j->zD zC wr w'->Calls Tryz.prog 105 #[.agg #[.int .i64 ek,.string (B en),.int .i64 ex,.slice es (ts[j]'hlt).args.length ec],.slice la l.length lc,.int .i64 z] w' (zFZ u okj w'):=by
            intro z w' hz hV;have h:=IH z w' hz hV;rw[hz,<-hokj,<-hu]at h;rw[hz];exact h
          have HS:=zF (And.intro hul (And.intro hsucc hbad));have hul6:us.length<=1000000:=by omega
          have HLT:=zF (show j<ts.length from hlt);have hzw:IntKind.i64.wrap (b+Tm.under k j)=b+Tm.under k j:=Go.IntWalk.i64_in _ (by omega);clear hul hsucc hus hu ih IH hbad hokj;generalize Tm.under k j=ud at *
          generalize (ts[j]'hlt).args.length=el at *
          have S0:ZF w.heap.size eb (eo+j * 4) (.int .i64 k) (.string (B nm)) (.int .i64 i) (.slice (some ⟨eb,eo,none⟩) ts.length cap) (.int .i64 ek) (.string (B en)) (.int .i64 ex) (.slice es el ec) wr:=⟨⟨t0,t1,t2,t3⟩,p0,p1,p2,p3⟩;have Sd:=S0.on hd;have Sa:=S0.on ha;have hnb:w.heap.size≠wr.heap.size:=by omega
          have hne:eb≠wr.heap.size:=by omega
          go_upto_region 10 with fail
          go_cut [11,12]from 53 to 68 (fun vx vk wx=>∃(ob:Nat)(k1 i1:Int)(n1:List UInt8)(a1:Option Addr)(len1 cap1:Nat),vx=.pointer (some ⟨ob,0,none⟩)/\vk=.bool okj/\zG wx ob (.int .i64 k1) (.string (B n1)) (.int .i64 i1) (.slice a1 len1 cap1) 29/\
            (okj=true->zK (fun x=>x<wr.heap.size) wx u.zM [.int .i64 k1,.string (B n1),.int .i64 i1,.slice a1 len1 cap1])/\zD zC wr wx)
          case first=>
            go_region_held3 (fun w'=>ZF w.heap.size eb (eo+j * 4) (.int .i64 k) (.string (B nm)) (.int .i64 i) (.slice (some ⟨eb,eo,none⟩) ts.length cap) (.int .i64 ek) (.string (B en)) (.int .i64 ex) (.slice es el ec) w')
              (first |(with_reducible assumption)|(with_reducible exact Sd)|(with_reducible exact Sa)|(with_reducible exact ZF.new S6 _)|(with_reducible exact ZF.new S5 _)|(with_reducible exact ZF.set (ZF.set (ZF.set (ZF.set S6 hnb hne 0 _) hnb hne 1 _) hnb hne 2 _) hnb hne 3 _)|(with_reducible exact ZF.set (ZF.set (ZF.set (ZF.set S6 hn5 he5 0 _) hn5 he5 1 _) hn5 he5 2 _) hn5 he5 3 _))
              (first
                |((go_at_call 136);refine(H2 _).mono ?_;rintro e w5 ⟨rfl,hU5⟩;have U5:zD zC wr w5:=(by first |exact hd.and hU5 |exact ha.and hU5);have S5:=S0.on U5;have hn5:w.heap.size≠w5.heap.size:=(by have:=U5.size;omega);have he5:eb≠w5.heap.size:=(by have:=U5.size;omega);(first |(have z5:=(show zG (wr.alloc (.cells #[.int .i64 0,.string (B []),.int .i64 0,.slice none 0 0] 29)).drew wr.heap.size _ _ _ _ _ from zG.zJ rfl).kept hU5)|skip))
                |((go_at_call 105);(first |(refine(IH' _ _ (by first |rfl |omega) U5).mono ?_)|(refine(IH' _ _ (by first |rfl |omega) (U5.alloc _)).mono ?_));rintro e w6 ⟨k1,i1,n1,a1,len1,cap1,rfl,hR6,hU6⟩;have U6:zD zC wr w6:=(by first |exact U5.and hU6 |exact(U5.alloc _).and hU6);have S6:=S0.on U6;(first |(have z6:=z5.kept hU6;obtain⟨z60,z61,z62,z63⟩:=z6.cells;obtain⟨y60,y61,y62,y63⟩:=z6.zI;have z69:=z6.lt)|(have z6:=(show zG (w5.alloc (.cells #[.int .i64 0,.string (B []),.int .i64 0,.slice none 0 0] 29)) w5.heap.size _ _ _ _ _ from zG.zJ rfl).kept hU6;obtain⟨z60,z61,z62,z63⟩:=z6.cells;obtain⟨y60,y61,y62,y63⟩:=z6.zI;have z69:=z6.lt)|skip)))
            all_goals
              go_wp2_with fail
              go_meet
            all_goals have hss5:=U5.size
            all_goals first
              |(have hset:=z6.set (d0:=.int .i64 k1) (d1:=.string (B n1)) (d2:=.int .i64 i1) (d3:=.slice a1 len1 cap1)
                exact⟨_,k1,i1,n1,a1,len1,cap1,rfl,rfl,hset.1,fun ho=>zK.weaken (fun b _ e=>by(try simp only[World.size_alloc]);omega) _ _ (zK.zE hset.2 (fun b e=>by(try simp only[World.size_alloc]);first |omega |(have:=z5.lt;omega)) _ _ (hR6 ho)),U6.trans hset.2 (fun i hi e=>by omega)⟩)
              |exact⟨w6.heap.size,k1,i1,n1,a1,len1,cap1,rfl,rfl,zG.zJ rfl,fun ho=>(zK.weaken (fun b _ e=>by(try simp only[World.size_alloc]);omega) _ _ (hR6 ho)).new _,U6.alloc _⟩
          case rest=>
            obtain⟨ob,k1,i1,n1,a1,len1,cap1,rfl,rfl,hX,hRx,hUx⟩:=hcut;have houx:=hout.kept hUx;have htbx:=htb.kept hUx;have hrbx:=hrb.kept hUx;have htsx:=hts.on hUx;have hUwx:=hU.and hUx;have hsx:=hUx.size;have hxl:=hX.lt;have hvl:∀ b,v.ownBlock=some b->b<wr.heap.size:=fun b e=>(hts.2.2.1.lt b e).2
            clear S0 Sd Sa IH' H2 p0 p1 p2 p3 t0 t1 t2 t3 hRp hout htb hrb hts hU hUx;obtain⟨x0,x1,x2,x3⟩:=hX.cells;obtain⟨b0,b1,b2,b3⟩:=houx.cells;obtain⟨y0,y1,y2,y3⟩:=houx.zI;obtain⟨s0,s1,s2,s3⟩:=hrbx.cells;obtain⟨g0,g1,g2,g3⟩:=hrbx.zI;have qox:=houx.lt;cases okj
            ·have hbad:=HS.out.2.2 rfl;have HMB:=zF hbad;obtain⟨a9,cap9,rfl,_,_⟩:=htsx.rep;generalize us.length=uslen at *
             clear hbad;go_wp2_with fail
             obtain⟨w8,hw8⟩:∃ w8,w8=(((wc.setCell ⟨w.heap.size+1,0,none⟩ (.int .i64 k)).setCell ⟨w.heap.size+1,1,none⟩ (.string (B nm))).setCell ⟨w.heap.size+1,2,none⟩ (.int .i64 mi)).setCell ⟨w.heap.size+1,3,none⟩ (.slice a9 uslen cap9):=⟨_,rfl⟩;have hset:=hrbx.set (d0:=.int .i64 k) (d1:=.string (B nm)) (d2:=.int .i64 mi) (d3:=.slice a9 uslen cap9);rw[<-hw8]at hset;rw[<-hw8];clear hw8;obtain⟨e0,e1,e2,e3⟩:=hset.1.cells;refine bodyPost_ret (v:=.tuple #[.agg #[.int .i64 k,.string (B nm),.int .i64 mi,.slice a9 uslen cap9],.bool false]) ?_ rfl ?_
             ·simp[results,Tryz.f105,go_sem,e0,e1,e2,e3]
             ·rw[HMB.out];exact⟨k,mi,nm,a9,uslen,cap9,rfl,fun e=>absurd e (by decide),hUwx.trans hset.2 (fun x hx e=>by omega)⟩
            ·go_wp2_with (at_builtin;refine wpList_append_lies _ (by rfl) _ _ 26 (by rfl) wp.heap.size 29 i0 (.agg #[.int .i64 0,.string (B []),.int .i64 0,.slice none 0 0]) 4 56 (by kernel_rfl) hi hi0 hi1 hi2 rfl (by decide) v us.length css.flatten (by rfl) ((htsx.on ((zD.refl zC wc).alloc _)).2.2.1) ⟨wc.heap.size,0,none⟩ 1 1 [.int .i64 k1,.string (B n1),.int .i64 i1,.slice a1 len1 cap1] (by rfl) rfl (World.news_of_block (heap_alloc_new wc _)) (by simp[Value.oneCell']) (by omega) (by simp only[maxLen];omega) (by omega) (by simp;omega) _ rfl ?_;intro g cap' w7 hown hgrow hat hlt7;have hou7:=(houx.kept ((zD.refl zC wc).alloc _)).row hgrow (htsx.on ((zD.refl zC wc).alloc _)) (by omega);have c7:=hou7.cells.2.2.2;have z7:=hou7.frozen 3;have q7:=hou7.lt)
             have hal:zD zC wc (wc.alloc (.cells #[.int .i64 k1,.string (B n1),.int .i64 i1,.slice a1 len1 cap1] 29)):=(zD.refl zC wc).alloc _;have hts6':=htsx.on hal
             have hRx':zK (fun b=>b<wp.heap.size\/v.ownBlock=some b) (wc.alloc (.cells #[.int .i64 k1,.string (B n1),.int .i64 i1,.slice a1 len1 cap1] 29)) u.zM [.int .i64 k1,.string (B n1),.int .i64 i1,.slice a1 len1 cap1]:=by
               refine(zK.weaken (fun b _ e=>?_) _ _ (hRx rfl)).new _;rcases e with e |e
               ·omega
               ·exact hvl b e
             have hT7:=hts6'.appended rfl hRx' hown hgrow hat (Nat.le_refl _);have hset7:zD (fun b=>b=w.heap.size+1+1) w7 (w7.setCell ⟨w.heap.size+1+1,3,none⟩ (.slice (some ⟨g,0,none⟩) (us.length+1) cap')):=zD.set (zD.refl _ _) 3 _;have hrow7:=zD.ofRow (zw.grown hts6'.2.2.1 hgrow);have htb7:=((htbx.kept hal).zE hrow7 (by omega)).zE hset7 (by omega);have hrb7:=((hrbx.kept hal).zE hrow7 (by omega)).zE hset7 (by omega);have hU7:zD zC w (w7.setCell ⟨w.heap.size+1+1,3,none⟩ (.slice (some ⟨g,0,none⟩) (us.length+1) cap')):=((hUwx.and hal).trans hrow7 (fun b hb e=>by omega)).trans hset7 (fun b hb e=>by omega);have hsz7:wp.heap.size<=(w7.setCell ⟨w.heap.size+1+1,3,none⟩ (.slice (some ⟨g,0,none⟩) (us.length+1) cap')).heap.size:=by have:=hset7.size;have:=hrow7.size;have:=hal.size;omega
             have hT7s:=hT7.zE hset7 (fun b e=>by omega);rw[(HS.out.2.1 rfl).1]at hT7s;refine⟨⟨j+1,_,_,by go_num,Nat.succ_le_of_lt HLT.out,(HS.out.2.1 rfl).2,hT7s,hou7.YR _,htb7,hrb7,hU7,hsz7⟩,?_⟩;have:=HLT.out;simp[intOf];omega
         ·obtain⟨us,hus⟩:∃ us,us=Tm.yu (xr l) b k 0 (ts.take j):=⟨_,rfl⟩;rw[<-hus]at hts;obtain⟨s0,s1,s2,s3⟩:=hrb.cells;obtain⟨g0,g1,g2,g3⟩:=hrb.zI;have qr:=hrb.lt;have hjl:j=ts.length:=by omega
          have hjn:¬(j:Int)<(ts.length:Int):=by omega
          obtain⟨a9,cap9,rfl,hcap9,hE9⟩:=hts.rep;obtain⟨len,hlen9⟩:∃ len,len=us.length:=⟨_,rfl⟩;rw[<-hlen9]at hout hcap9;obtain⟨b0,b1,b2,b3⟩:=hout.cells
          have hfin:Tm.yG (xr l) b (.mk k nm i ts)=true/\Tm.mv (xr l) b (.mk k nm i ts)=.mk k nm mi us:=by
            have h1:=HOK.out;rw[List.take_of_length_le (by omega)]at h1 hus;rw[Tm.xQ,Tm.y8,HMI.out.2,h1,<-HMI.out.1,<-hus];exact⟨rfl,rfl⟩
          have HL:=zF hlen9;have HJ:=zF (And.intro hjl hus);have HFI:=zF hfin;have hRr:zK (fun x=>x<=w.heap.size+1) wr (Tm.mk k nm mi us).zM [.int .i64 k,.string (B nm),.int .i64 mi,.slice a9 len cap9]:=zd.2 ⟨a9,cap9,by rw[HL.out],by rw[<-HL.out];exact hcap9,zH.weaken (fun b _ e=>by omega) _ _ _ _ hE9⟩;clear hlen9 hjl hts hus hfin;go_wp2_with fail
          obtain⟨w8,hw8⟩:∃ w8,w8=(((wr.setCell ⟨w.heap.size+1,0,none⟩ (.int .i64 k)).setCell ⟨w.heap.size+1,1,none⟩ (.string (B nm))).setCell ⟨w.heap.size+1,2,none⟩ (.int .i64 mi)).setCell ⟨w.heap.size+1,3,none⟩ (.slice a9 len cap9):=⟨_,rfl⟩;obtain⟨hG,hB9⟩:=zm (r:=.bool true) hrb (by omega) hU hRr hw8;try rw[<-show B []={ data:=#[] }from rfl]
          rw[<-hw8];clear hw8;obtain⟨e0,e1,e2,e3⟩:=hB9.cells;refine bodyPost_ret (v:=.tuple #[.agg #[.int .i64 k,.string (B nm),.int .i64 mi,.slice a9 len cap9],.bool true]) ?_ rfl ?_
          ·simp[results,Tryz.f105,go_sem,e0,e1,e2,e3]
          ·rw[HFI.out.1,HFI.out.2];obtain⟨k9,i9,n9,a8,l8,c8,h1,h2,h3⟩:=hG;exact⟨k9,i9,n9,a8,l8,c8,h1,fun _=>h2,h3⟩
end
section
open Go.RowKit Go.LF
theorem zAB{t:Tm}(h:t.wf=0):0<=t.scope/\t.scope<=1048577:=Tm.Qv t (Tm.YV t h).1
theorem Zh(vars:List Int)(hl:vars.length<=1000)(t:Tm)(hwt:t.wt<=100000)(w:World)(va:Option Addr)(vc:Nat)(cs:List Value)(hV:zH zC w 1 (vars.map (yP.int .i64)) va 0)(h:zK zC w t.zM cs):
    Calls Tryz.prog 42 #[.slice va vars.length vc,.agg cs.toArray] w (Zw (Xi vars t) (.bool (xz vars t)) w):=by
  obtain⟨k,nm,i,ts,a,cap,ht,rfl,_,_⟩:=zU h;generalize ts.length=len at *
  obtain⟨w1,hw1⟩:∃ w1,w1=(w.alloc (.cells #[.int .i64 k,.string (B nm),.int .i64 i,.slice a len cap] 29)).alloc (.cells #[.int .i64 0,.string (B []),.int .i64 0,.slice none 0 0] 29):=⟨_,rfl⟩;have hU1:zD zC w w1:=by rw[hw1];exact((zD.refl zC w).alloc _).alloc _
  have ht1:zG w1 w.heap.size (.int .i64 k) (.string (B nm)) (.int .i64 i) (.slice a len cap) 29:=by rw[hw1];exact(zG.zJ rfl).kept ((zD.refl zC _).alloc _)
  have hr1:zG w1 (w.heap.size+1) (.int .i64 0) (.string (B [])) (.int .i64 0) (.slice none 0 0) 29:=by rw[hw1];exact zG.zJ (by simp)
  have iO:=YD t (by omega) w1 _ (h.on hU1);have DI:=fun(W:World)(hU:zD zC w1 W)=>Xt vars (by omega) W va vc ((hV.on hU1).on hU)
  have HW1:=zF hw1;obtain⟨io,hio⟩:∃ b,b=(t.isObj && t.small):=⟨_,rfl⟩;obtain⟨dd,hdd⟩:∃ b,b=dst [] vars:=⟨_,rfl⟩;rw[<-hio]at iO;rw[<-hdd]at DI;have HIO:=zF (And.intro hio hdd);obtain⟨vl,hvl⟩:∃ q,q=vars.length:=⟨_,rfl⟩;rw[<-hvl]at hl DI;rw[<-hvl];have HVL:=zF hvl;have HH:=zF (And.intro h ht);clear hw1 hio hdd hvl h ht;obtain⟨x0,x1,x2,x3⟩:=ht1.cells;go_enter Tryz.func42,Tryz.ntmps42
  go_upto_region 1 with fail
  rw[<-show B []={ data:=#[] }from rfl,<-HW1.out];go_cut [18]from 11 to 18 (fun v18 wx=>v18=.bool (!(io && dd))/\zD zC w1 wx)
  case first=>
    cases io
    ·go_wp2_with fail
     (with_reducible refine iO.mono ?_);rintro e w2 ⟨rfl,hU2⟩;go_wp2_with fail
     go_meet
     case rel=>exact⟨rfl,hU2⟩
    ·go_wp2_with fail
     (with_reducible refine iO.mono ?_);rintro e w2 ⟨rfl,hU2⟩;have D2:=DI w2 hU2;clear iO DI;go_wp2_with fail
     (with_reducible refine D2.mono ?_);rintro e w3 ⟨rfl,hU3⟩;cases dd
     all_goals
       go_wp2_with fail
       go_meet
       case rel=>exact⟨rfl,hU2.and hU3⟩
  case rest=>
    obtain⟨rfl,hU2⟩:=hcut;obtain⟨w2,rfl⟩:∃ q,q=wc:=⟨_,rfl⟩;have hU12:=hU1.and hU2;have ht2:=ht1.kept hU2;have hr2:=hr1.kept hU2;obtain⟨s0,s1,s2,s3⟩:=hr2.cells;obtain⟨g0,g1,g2,g3⟩:=hr2.zI;have qr:=hr2.lt;clear iO DI x0 x1 x2 x3 ht1 hr1;by_cases hc:(io && dd)=true
    case neg=>
      have hcf:(io && dd)=false:=by simpa using hc
      have hno:xz vars t=false:=by
        unfold xz;rw[<-HIO.out.1,<-HIO.out.2,<-Bool.and_assoc,hcf,Bool.false_and]
      rw[hcf];have HNO:=zF hno;clear hno hcf hc;go_wp2_with fail
      obtain⟨w8,hw8⟩:∃ w8,w8=(((w2.setCell ⟨w.heap.size+1,0,none⟩ (.int .i64 0)).setCell ⟨w.heap.size+1,1,none⟩ (.string (B []))).setCell ⟨w.heap.size+1,2,none⟩ (.int .i64 0)).setCell ⟨w.heap.size+1,3,none⟩ (.slice none 0 0):=⟨_,rfl⟩;obtain⟨hG,hB9⟩:=zm (r:=.bool false) hr2 (by omega) hU12 (zV (k:=0) (n:=[]) (i:=0)) hw8;try rw[<-show B []={ data:=#[] }from rfl]
      rw[<-hw8];clear hw8;obtain⟨e0,e1,e2,e3⟩:=hB9.cells;refine bodyPost_ret (v:=.tuple #[.agg #[.int .i64 0,.string (B []),.int .i64 0,.slice none 0 0],.bool false]) ?_ rfl ?_
      ·simp[results,Tryz.f42,go_sem,e0,e1,e2,e3]
      ·rw[YC HNO.out,HNO.out];exact hG
    obtain⟨rfl,rfl⟩:io=true/\dd=true:=by simpa using hc
    have hobj:t.isObj=true/\t.small=true:=by have:=HIO.out.1.symm;simpa using this
    have hwf:t.wf=0:=by have h1:=Yi hobj.1;rw[hobj.2]at h1;simpa using h1
    have hdst:dst [] vars=true:=HIO.out.2.symm;obtain⟨hsc0,hsc1⟩:=zAB hwf;obtain⟨sc,hsc⟩:∃ q:Nat,t.scope=(q:Int):=⟨t.scope.toNat,by omega⟩;have hri:=zH0 hwf hdst;rw[hsc,Int.toNat_natCast]at hri;have hscb:sc<=1048577:=by omega
    obtain⟨w3,hw3⟩:∃ w3,w3=w2.alloc (.cells #[.int .i64 (-1)] 3):=⟨_,rfl⟩;have hU3:zD zC w2 w3:=by rw[hw3];exact(zD.refl zC _).alloc _
    have hb3:zt w3 w2.heap.size (.int .i64 (-1)) 3:=by rw[hw3];exact zt.zJ rfl
    have SC:=X8 t (by omega) w3 _ (HH.out.1.on (hU12.and hU3));rw[if_pos (by rw[hwf];rfl),hsc]at SC;have RP:=fun(W:World)(hU:zD zC w3 W)=>zDQ sc (by omega) W w2.heap.size 0 (hU.cell hb3.cell (fun x=>x))
    have HW3:=zF hw3;have HF:=zF (And.intro hobj (And.intro hwf (And.intro hdst hri)));have ht3:=ht2.kept hU3;have hr3:=hr2.kept hU3;have hU13:=hU12.and hU3;obtain⟨x0,x1,x2,x3⟩:=ht3.cells;rw[hw3]at x0 x1 x2 x3;clear hw3 hobj hwf hdst hri hsc hsc0 hsc1 hc ht2 s0 s1 s2 s3 g0 g1 g2 g3 hr2 hb3;go_upto_region 3 with fail
    go_wp2_with fail
    rw[<-HW3.out]
    (with_reducible refine SC.mono ?_);rintro e w4 ⟨rfl,hU4⟩;have RP4:=RP w4 hU4;clear SC RP;go_wp2_with fail
    (with_reducible refine RP4.mono ?_);rintro e w5 ⟨rfl,hg,hU5⟩;obtain⟨G,hG⟩:∃ g,g=w4.heap.size:=⟨_,rfl⟩;rw[<-hG]at hg ⊢;have hN:xh w5 G (Xl vars sc 0):=by unfold xh;rw[hg];simp[zo,Xl]
    have hU15:=(hU13.and hU4).and hU5;have hGw:w.heap.size+2<=G:=by have h1:=hU4.size;have h2:=hr3.lt;omega
    have ht5:=(ht3.kept hU4).kept hU5;have hr5:=(hr3.kept hU4).kept hU5;clear RP4 hG hg x0 x1 x2 x3 ht3 hr3;go_wp2_with fail
    go_loopw [26] (fun v26 wr=>∃(m:Nat),v26=.int .i64 (m:Int)/\m<=vl/\xh wr G (Xl vars sc m)/\zD (fun b=>b=G) w5 wr) (fun v26 _=>vl - (intOf v26).toNat)
    case atStart=>exact⟨0,rfl,Nat.zero_le _,hN,zD.refl _ _⟩
    case round=>
      obtain⟨m,rfl,hm,hN,hU⟩:=hrel;have hm1:(m:Int)<=1000:=by omega
      have htl:=Qq vars sc m;by_cases hlt:m<vl
      ·have hml:m<vars.length:=by have:=HVL.out;omega
       obtain⟨b,o,rfl,hbl,_,hcx⟩:=yJ (zH.zE (S:=fun b=>b=G) hU (fun b e=>.inr (by omega)) _ _ _ _ ((zH.zY _ _ _ _ hV).on hU15)) m hml;have hx0:=(qL _ _ HF.out.2.2.1).1 _ (List.getElem_mem hml)
       have hst:Xl vars sc (m+1)=if vars[m]<(sc:Int)then(Xl vars sc m).set vars[m].toNat ((vars.length:Int) - 1 - m)else Xl vars sc m:=by
         rw[Xl,show vars.getD m 0=vars[m]from by rw[List.getD_eq_getElem?_getD,List.getElem?_eq_getElem hml];rfl]
       have hlt':(m:Int)<(vl:Int):=by omega
       generalize vars[m]=x at *
       obtain⟨y,rfl⟩:∃ y:Nat,x=y:=⟨x.toNat,by omega⟩;rw[Int.toNat_natCast,<-HVL.out]at hst;by_cases hy:y<sc
       ·rw[if_pos (by omega)]at hst;have hns:=hN.set y (by rw[htl];exact hy) ((vl:Int) - 1 - m);rw[<-hst]at hns;have hcy:=hN.cell y (by rw[htl];exact hy);have hfy:=hN.frozen y;have hgl:=hN.lt;have hys:(y:Int)<(sc:Int):=by omega
        have HNS:=zF (And.intro hns hlt);generalize (Xl vars sc m).getD y 0=z at *
        clear hns hst htl hN hx0 hml;go_wp2_with fail
        go_roundw
        case rel=>exact⟨m+1,by go_num,Nat.succ_le_of_lt HNS.out.2,HNS.out.1,hU.trans (zD.set (zD.refl _ _) _ _) (fun _ _ e=>e)⟩
        case measure=>(have:=HNS.out.2;simp[intOf];omega)
       ·rw[if_neg (by omega)]at hst;have hys:¬(y:Int)<(sc:Int):=by omega
        have HNS:=zF (And.intro (by rw[hst];exact hN:xh wr G (Xl vars sc (m+1))) hlt);clear hst htl hN hx0 hml;go_wp2_with fail
        go_roundw
        case rel=>exact⟨m+1,by go_num,Nat.succ_le_of_lt HNS.out.2,HNS.out.1,hU⟩
        case measure=>(have:=HNS.out.2;simp[intOf];omega)
      ·have hme:m=vars.length:=by have:=HVL.out;omega
       rw[hme]at hN htl;have hRl:=hN.rep (O:=zC) (fun x=>x);have hUw:zD zC w wr:=hU15.trans hU (fun b hb e=>by omega);have ht6:=ht5.zE hU (by omega);have hr6:=hr5.zE hU (by omega);have RN:=zD2 t (by omega) (Xl vars sc vars.length) (some ⟨G,0,none⟩) sc (by rw[htl];omega) wr _ (HH.out.1.on hUw) hRl;rw[htl]at RN;obtain⟨rb,hrb⟩:∃ q,q=t.YL (Xl vars sc vars.length):=⟨_,rfl⟩;rw[<-hrb]at RN;have hrb2:rb=Tm.yG (xr vars) 0 t:=by rw[hrb];unfold Tm.YL;rw[HF.out.2.2.2.1,HF.out.2.1];rfl
       have HRB:=zF (And.intro hrb hrb2);have hjn:¬(m:Int)<(vl:Int):=by omega
       obtain⟨x0,x1,x2,x3⟩:=ht6.cells;clear hrb hrb2 hme hN hRl hU htl ht5 hr5;go_wp2_with fail
       (with_reducible refine RN.mono ?_);rintro e w7 ⟨k7,i7,n7,a7,l7,c7,rfl,hR7,hU7⟩;have hUw7:=hUw.and hU7;have hr7:=hr6.kept hU7;have hRlt:=hr6.lt;have hwr:=hUw.size;clear RN x0 x1 x2 x3 ht6 hr6;obtain⟨s0,s1,s2,s3⟩:=hr7.cells;obtain⟨g0,g1,g2,g3⟩:=hr7.zI;have qr:=hr7.lt;obtain⟨w8,hw8⟩:∃ q,q=w7.alloc (.cells #[.int .i64 k7,.string (B n7),.int .i64 i7,.slice a7 l7 c7] 29):=⟨_,rfl⟩;have hU8:zD zC w7 w8:=by rw[hw8];exact(zD.refl zC _).alloc _
       have hb8:zG w8 w7.heap.size (.int .i64 k7) (.string (B n7)) (.int .i64 i7) (.slice a7 l7 c7) 29:=by rw[hw8];exact zG.zJ rfl
       have hr8:=hr7.kept hU8;have hUw8:=hUw7.and hU8;have hR8:=(zK.xx hR7).on hU8;have hz7:=hUw7.size;have HW8:=zF hw8;obtain⟨X,hX⟩:∃ q,q=w7.heap.size:=⟨_,rfl⟩;have HX:=zF hX;rw[<-hX]at hb8 hz7 qr hR8;obtain⟨R,hRr⟩:∃ q,q=w.heap.size+1:=⟨_,rfl⟩;have HR:=zF hRr;rw[<-hRr]at hr8 qr hRlt;clear hw8 hX hRr hr7 hU8 hU7 hR7 hUw7 s0 s1 s2 s3 g0 g1 g2 g3;obtain⟨s0,s1,s2,s3⟩:=hr8.cells;obtain⟨g0,g1,g2,g3⟩:=hr8.zI;obtain⟨x0,x1,x2,x3⟩:=hb8.cells;obtain⟨y0,y1,y2,y3⟩:=hb8.zI;have qb:=hb8.lt;have qr8:=hr8.lt;go_upto_region 11 with fail
       rw[<-HX.out,<-HW8.out,<-HR.out];cases rb
       case false=>
         have hno:xz vars t=false:=by
           unfold xz;rw[<-HRB.out.2];simp
         have HNO:=zF hno;clear hno;go_wp2_with fail
         obtain⟨w9,hw9⟩:∃ w9,w9=(((w8.setCell ⟨R,0,none⟩ (.int .i64 0)).setCell ⟨R,1,none⟩ (.string (B []))).setCell ⟨R,2,none⟩ (.int .i64 0)).setCell ⟨R,3,none⟩ (.slice none 0 0):=⟨_,rfl⟩;obtain⟨hG,hB9⟩:=zm (r:=.bool false) hr8 (by have:=HR.out;omega) hUw8 (zV (k:=0) (n:=[]) (i:=0)) hw9;try rw[<-show B []={ data:=#[] }from rfl]
         rw[<-hw9];clear hw9;obtain⟨e0,e1,e2,e3⟩:=hB9.cells;refine bodyPost_ret (v:=.tuple #[.agg #[.int .i64 0,.string (B []),.int .i64 0,.slice none 0 0],.bool false]) ?_ rfl ?_
         ·simp[results,Tryz.f42,go_sem,e0,e1,e2,e3]
         ·rw[YC HNO.out,HNO.out];exact hG
       case true=>
         have hT:Tm.Y1 t (Xl vars sc vars.length)=Tm.mv (xr vars) 0 t:=by
           unfold Tm.Y1;rw[if_pos HRB.out.1.symm,HF.out.2.2.2.2 HRB.out.2.symm]
         rw[hT]at hR8;obtain⟨U,hUd⟩:∃ q,q=Tm.mv (xr vars) 0 t:=⟨_,rfl⟩;rw[<-hUd]at hR8;have hUo:U.isObj=true:=by rw[hUd];exact Tm.Qb _ t HF.out.1.1 0 (Int.le_refl _) HRB.out.2.symm
         have hUw:U.wt=t.wt:=by rw[hUd];exact Tm.zCD _ _ _
         have LM:=QO U vl (by omega) (fun b=>b<w.heap.size\/b=X\/b=R) w8 _ (fun b e=>by rcases e with e |e |e<;>omega) (zK.weaken (fun b _ e=>by rcases e with e |e |e<;>omega) _ _ hR8);have WF:=fun(W:World)(cs:List Value)(h:zK zC W (Tm.yQ vl U).zM cs)=>zj (Tm.yQ vl U) (by rw[Yr,hUw];omega) W cs h
         have hwf9:=Yi (Qc vl hUo);obtain⟨wv,hwv⟩:∃ q,q=(Tm.yQ vl U).wf:=⟨_,rfl⟩;rw[<-hwv]at hwf9;simp only[<-hwv]at WF
         have hB:xz vars t=(wv == 0):=by
           unfold xz;rw[<-HRB.out.2,HF.out.1.1,HF.out.1.2,HF.out.2.2.1,hwf9,hUd,HVL.out];rfl
         have hTT:(wv == 0)=true->Xi vars t=Tm.yQ vl U:=fun e=>by rw[Xw (by rw[hB,e]),hUd,HVL.out]
         have HBT:=zF (And.intro hB hTT);generalize Tm.yQ vl U=LU at *
         clear hT hUd hUo hUw hwf9 hwv hB hTT hR8;go_wp2_with fail
         (with_reducible refine LM.mono ?_);rintro e w9 ⟨k9,i9,n9,a9,l9,c9,rfl,hR9,hU9⟩;have hb9:=hb8.kept hU9;have hr9:=hr8.kept hU9;have hUw9:=hUw8.and hU9;obtain⟨w10,hw10⟩:∃ q,q=(((w9.setCell ⟨X,0,none⟩ (.int .i64 k9)).setCell ⟨X,1,none⟩ (.string (B n9))).setCell ⟨X,2,none⟩ (.int .i64 i9)).setCell ⟨X,3,none⟩ (.slice a9 l9 c9):=⟨_,rfl⟩;have hset:=hb9.set (d0:=.int .i64 k9) (d1:=.string (B n9)) (d2:=.int .i64 i9) (d3:=.slice a9 l9 c9);rw[<-hw10]at hset;have hr10:=hr9.zE hset.2 (by omega);have hR10:=zK.zE hset.2 (fun b e=>.inr (.inl e)) _ _ hR9;have hUw10:zD zC w w10:=hUw9.trans hset.2 (fun b hb e=>by omega);have WF10:=WF w10 _ (zK.weaken (fun _ _ e=>e.elim) _ _ hR10);have HW10:=zF hw10;have hb10:=hset.1;clear s0 s1 s2 s3 g0 g1 g2 g3 x0 x1 x2 x3 y0 y1 y2 y3 LM WF hw10;obtain⟨x0,x1,x2,x3⟩:=hb9.cells;obtain⟨y0,y1,y2,y3⟩:=hb9.zI;have qb9:=hb9.lt;clear hb8 hr8 hr9 hR9 hU9 hUw9 hset;go_upto_region 14 with fail
         rw[<-HW10.out];clear x0 x1 x2 x3 y0 y1 y2 y3 hb9 qb9;obtain⟨x0,x1,x2,x3⟩:=hb10.cells;go_wp2_with fail
         (with_reducible refine WF10.mono ?_);rintro e w11 ⟨rfl,hU11⟩;have hb11:=hb10.kept hU11;have hr11:=hr10.kept hU11;have hUw11:=hUw10.and hU11;have hR11:=hR10.on hU11;clear WF10 x0 x1 x2 x3 hb10 hr10 hR10 hU11;obtain⟨x0,x1,x2,x3⟩:=hb11.cells;obtain⟨s0,s1,s2,s3⟩:=hr11.cells;obtain⟨g0,g1,g2,g3⟩:=hr11.zI;have qr11:=hr11.lt;by_cases hwv:wv=0
         ·subst hwv;go_wp2_with fail
          obtain⟨w12,hw12⟩:∃ q,q=(((w11.setCell ⟨R,0,none⟩ (.int .i64 k9)).setCell ⟨R,1,none⟩ (.string (B n9))).setCell ⟨R,2,none⟩ (.int .i64 i9)).setCell ⟨R,3,none⟩ (.slice a9 l9 c9):=⟨_,rfl⟩;have hset:=hr11.set (d0:=.int .i64 k9) (d1:=.string (B n9)) (d2:=.int .i64 i9) (d3:=.slice a9 l9 c9);rw[<-hw12]at hset;rw[<-hw12];clear hw12;obtain⟨e0,e1,e2,e3⟩:=hset.1.cells;refine bodyPost_ret (v:=.tuple #[.agg #[.int .i64 k9,.string (B n9),.int .i64 i9,.slice a9 l9 c9],.bool true]) ?_ rfl ?_
          ·simp[results,Tryz.f42,go_sem,e0,e1,e2,e3]
          ·rw[HBT.out.1,HBT.out.2 rfl];exact⟨k9,i9,n9,a9,l9,c9,rfl,zK.weaken (fun b _ e=>.inl e) _ _ (zK.zE hset.2 (fun b e=>.inr (.inr e)) _ _ hR11),hUw11.trans hset.2 (fun b hb e=>by have:=HR.out;omega)⟩
         ·have hwb:(wv !=0)=true:=by simpa using hwv
          have hno:xz vars t=false:=by rw[HBT.out.1];simpa using hwv
          have HNO:=zF hno;clear hno hwv;go_wp2_with fail
          obtain⟨w12,hw12⟩:∃ w9,w9=(((w11.setCell ⟨R,0,none⟩ (.int .i64 0)).setCell ⟨R,1,none⟩ (.string (B []))).setCell ⟨R,2,none⟩ (.int .i64 0)).setCell ⟨R,3,none⟩ (.slice none 0 0):=⟨_,rfl⟩;obtain⟨hG,hB9⟩:=zm (r:=.bool false) hr11 (by have:=HR.out;omega) hUw11 (zV (k:=0) (n:=[]) (i:=0)) hw12;try rw[<-show B []={ data:=#[] }from rfl]
          rw[<-hw12];clear hw12;obtain⟨e0,e1,e2,e3⟩:=hB9.cells;refine bodyPost_ret (v:=.tuple #[.agg #[.int .i64 0,.string (B []),.int .i64 0,.slice none 0 0],.bool false]) ?_ rfl ?_
          ·simp[results,Tryz.f42,go_sem,e0,e1,e2,e3]
          ·rw[YC HNO.out,HNO.out];exact hG
theorem qh(vars:List Int)(hl:vars.length<=1000)(t:Tm)(hwt:t.wt<=100000)(w:World)(va:Option Addr)(vc:Nat)(hvc:vars.length<=vc)(cs:List Value)(hV:zH zC w 1 (vars.map (yP.int .i64)) va 0)(h:zK zC w t.zM cs):
    Calls Tryz.prog 43 #[.slice va vars.length vc,.agg cs.toArray] w (Zw (Xi vars t) (.bool (xz vars t)) w):=by
  obtain⟨k,nm,i,ts,a,cap,ht,rfl,_,_⟩:=zU h;generalize ts.length=len at *
  obtain⟨w1,hw1⟩:∃ w1,w1=(w.alloc (.cells #[.int .i64 k,.string (B nm),.int .i64 i,.slice a len cap] 29)).alloc (.cells #[.int .i64 0,.string (B []),.int .i64 0,.slice none 0 0] 29):=⟨_,rfl⟩;have hU1:zD zC w w1:=by rw[hw1];exact((zD.refl zC w).alloc _).alloc _
  have ht1:zG w1 w.heap.size (.int .i64 k) (.string (B nm)) (.int .i64 i) (.slice a len cap) 29:=by rw[hw1];exact(zG.zJ rfl).kept ((zD.refl zC _).alloc _)
  have hr1:zG w1 (w.heap.size+1) (.int .i64 0) (.string (B [])) (.int .i64 0) (.slice none 0 0) 29:=by rw[hw1];exact zG.zJ (by simp)
  have iO:=ql t (by omega) w1 _ (h.on hU1);have DI:=fun(W:World)(hU:zD zC w1 W)=>qj vars (by omega) W va vc hvc ((hV.on hU1).on hU)
  have HW1:=zF hw1;obtain⟨io,hio⟩:∃ b,b=(t.isObj && t.small):=⟨_,rfl⟩;obtain⟨dd,hdd⟩:∃ b,b=dst [] vars:=⟨_,rfl⟩;rw[<-hio]at iO;rw[<-hdd]at DI;have HIO:=zF (And.intro hio hdd);obtain⟨vl,hvl⟩:∃ q,q=vars.length:=⟨_,rfl⟩;rw[<-hvl]at hl DI;rw[<-hvl];have HVL:=zF hvl;have HH:=zF (And.intro h ht);obtain⟨lb,hlb⟩:∃ q,q=decide (128<vl):=⟨_,rfl⟩;have HLB:=zF hlb;clear hw1 hio hdd hvl h ht hlb;obtain⟨x0,x1,x2,x3⟩:=ht1.cells;have hvli:(vl:Int)<=1000:=by omega
  go_enter Tryz.func43,Tryz.ntmps43
  go_upto_region 1 with fail
  rw[<-show B []={ data:=#[] }from rfl,<-HW1.out];go_cut [21]from 9 to 21 (fun v21 wx=>v21=.bool (!(io && dd)|| lb)/\zD zC w1 wx)
  case first=>
    cases io
    ·go_wp2_with fail
     (with_reducible refine iO.mono ?_);rintro e w2 ⟨rfl,hU2⟩;go_wp2_with fail
     go_meet
     case rel=>exact⟨rfl,hU2⟩
    ·go_wp2_with fail
     (with_reducible refine iO.mono ?_);rintro e w2 ⟨rfl,hU2⟩;have D2:=DI w2 hU2;clear iO DI;go_wp2_with fail
     (with_reducible refine D2.mono ?_);rintro e w3 ⟨rfl,hU3⟩;cases dd
     ·go_wp2_with fail
      go_meet
      case rel=>exact⟨rfl,hU2.and hU3⟩
     ·by_cases hlb:128<vl
      ·have hlb2:(128:Int)<(vl:Int):=by omega
       have HB:=zF hlb;clear hlb;go_wp2_with fail
       go_meet
       case rel=>exact⟨by rw[HLB.out,decide_eq_true HB.out];first |rfl |(rw[decide_eq_true hlb2];rfl),hU2.and hU3⟩
      ·have hlb2:¬(128:Int)<(vl:Int):=by omega
       have HB:=zF hlb;clear hlb;go_wp2_with fail
       go_meet
       case rel=>exact⟨by rw[HLB.out,decide_eq_false HB.out];first |rfl |(rw[decide_eq_false (Int.not_lt.2 hlb2)];rfl),hU2.and hU3⟩
  case rest=>
    obtain⟨rfl,hU2⟩:=hcut;obtain⟨w2,rfl⟩:∃ q,q=wc:=⟨_,rfl⟩;have hU12:=hU1.and hU2;have ht2:=ht1.kept hU2;have hr2:=hr1.kept hU2;obtain⟨s0,s1,s2,s3⟩:=hr2.cells;obtain⟨g0,g1,g2,g3⟩:=hr2.zI;have qr:=hr2.lt;clear iO DI x0 x1 x2 x3 ht1 hr1;by_cases hc:(!(io && dd)|| lb)=true
    case pos=>
      have hno:xz vars t=false:=by
        by_cases hl3:128<vl
        ·exact zEP (by have:=HVL.out;omega)
        ·have hlf:lb=false:=by rw[HLB.out,decide_eq_false hl3]
         rw[hlf,Bool.or_false]at hc;unfold xz;rw[<-HIO.out.1,<-HIO.out.2,<-Bool.and_assoc,show(io && dd)=false by revert hc;cases io<;>cases dd<;>simp,Bool.false_and]
      rw[hc];have HNO:=zF hno;clear hno hc;go_wp2_with fail
      obtain⟨w8,hw8⟩:∃ w8,w8=(((w2.setCell ⟨w.heap.size+1,0,none⟩ (.int .i64 0)).setCell ⟨w.heap.size+1,1,none⟩ (.string (B []))).setCell ⟨w.heap.size+1,2,none⟩ (.int .i64 0)).setCell ⟨w.heap.size+1,3,none⟩ (.slice none 0 0):=⟨_,rfl⟩;obtain⟨hG,hB9⟩:=zm (r:=.bool false) hr2 (by omega) hU12 (zV (k:=0) (n:=[]) (i:=0)) hw8;try rw[<-show B []={ data:=#[] }from rfl]
      rw[<-hw8];clear hw8;obtain⟨e0,e1,e2,e3⟩:=hB9.cells;refine bodyPost_ret (v:=.tuple #[.agg #[.int .i64 0,.string (B []),.int .i64 0,.slice none 0 0],.bool false]) ?_ rfl ?_
      ·simp[results,Tryz.f43,go_sem,e0,e1,e2,e3]
      ·rw[YC HNO.out,HNO.out];exact hG
    have hcf:(!(io && dd)|| lb)=false:=by simpa using hc
    have hcp:(io && dd)=true/\lb=false:=by simpa using hcf
    obtain⟨hc1,rfl⟩:=hcp;obtain⟨rfl,rfl⟩:io=true/\dd=true:=by simpa using hc1
    have hobj:t.isObj=true/\t.small=true:=by have:=HIO.out.1.symm;simpa using this
    have hwf:t.wf=0:=by have h1:=Yi hobj.1;rw[hobj.2]at h1;simpa using h1
    have hdst:dst [] vars=true:=HIO.out.2.symm;have hvl8:vl<=128:=by have:=HLB.out.symm;simpa using this
    obtain⟨hok,hsz,_⟩:=Tm.YV t hwf;have RP:=zBX vars va vc (by have:=HVL.out;omega) t (by omega) hok 0 w2 _ (Int.le_refl _) (by omega) (HH.out.1.on hU12) (hV.on hU12);rw[<-HVL.out]at RP;obtain⟨rb,hrb⟩:∃ q,q=Tm.yG (xr vars) 0 t:=⟨_,rfl⟩;rw[<-hrb]at RP;have HF:=zF (And.intro hobj (And.intro hdst (And.intro hrb hvl8)));obtain⟨x0,x1,x2,x3⟩:=ht2.cells;clear hobj hwf hdst hok hsz hc hcf hc1 hrb ht2 s0 s1 s2 s3 g0 g1 g2 g3 hvl8;go_upto_region 3 with fail
    go_wp2_with fail
    (with_reducible refine RP.mono ?_);rintro e w7 ⟨k7,i7,n7,a7,l7,c7,rfl,hR7,hU7⟩;have hUw7:=hU12.and hU7;have hr7:=hr2.kept hU7;have hRlt:=hr2.lt;have hwr:=hU12.size;clear RP x0 x1 x2 x3 hr2;obtain⟨w8,hw8⟩:∃ q,q=w7.alloc (.cells #[.int .i64 k7,.string (B n7),.int .i64 i7,.slice a7 l7 c7] 29):=⟨_,rfl⟩;have hU8:zD zC w7 w8:=by rw[hw8];exact(zD.refl zC _).alloc _
    have hb8:zG w8 w7.heap.size (.int .i64 k7) (.string (B n7)) (.int .i64 i7) (.slice a7 l7 c7) 29:=by rw[hw8];exact zG.zJ rfl
    have hr8:=hr7.kept hU8;have hUw8:=hUw7.and hU8;have hR8:=fun(ho:rb=true)=>(zK.xx (hR7 ho)).on hU8
    have hz7:=hUw7.size;have hz27:=hU7.size;have HW8:=zF hw8;obtain⟨X,hX⟩:∃ q,q=w7.heap.size:=⟨_,rfl⟩;have HX:=zF hX;rw[<-hX]at hb8 hz7 hR8 hz27;obtain⟨R,hRr⟩:∃ q,q=w.heap.size+1:=⟨_,rfl⟩;have HR:=zF hRr;rw[<-hRr]at hr8 hRlt qr;clear hw8 hX hRr hr7 hU8 hU7 hR7 hUw7;obtain⟨s0,s1,s2,s3⟩:=hr8.cells;obtain⟨g0,g1,g2,g3⟩:=hr8.zI;have qr8:=hr8.lt;go_upto_region 4 with fail
    rw[<-HX.out,<-HW8.out,<-HR.out];cases rb
    case false=>
      have hno:xz vars t=false:=by
        unfold xz;rw[<-HF.out.2.2.1];simp
      have HNO:=zF hno;clear hno;go_wp2_with fail
      obtain⟨w9,hw9⟩:∃ w9,w9=(((w8.setCell ⟨R,0,none⟩ (.int .i64 0)).setCell ⟨R,1,none⟩ (.string (B []))).setCell ⟨R,2,none⟩ (.int .i64 0)).setCell ⟨R,3,none⟩ (.slice none 0 0):=⟨_,rfl⟩;obtain⟨hG,hB9⟩:=zm (r:=.bool false) hr8 (by have:=HR.out;omega) hUw8 (zV (k:=0) (n:=[]) (i:=0)) hw9;try rw[<-show B []={ data:=#[] }from rfl]
      rw[<-hw9];clear hw9;obtain⟨e0,e1,e2,e3⟩:=hB9.cells;refine bodyPost_ret (v:=.tuple #[.agg #[.int .i64 0,.string (B []),.int .i64 0,.slice none 0 0],.bool false]) ?_ rfl ?_
      ·simp[results,Tryz.f43,go_sem,e0,e1,e2,e3]
      ·rw[YC HNO.out,HNO.out];exact hG
    case true=>
      obtain⟨U,hUd⟩:∃ q,q=Tm.mv (xr vars) 0 t:=⟨_,rfl⟩;rw[<-hUd]at hR8;have hRx:=zK.weaken (O':=fun b=>b<w.heap.size\/b=X\/b=R) (fun b _ e=>by rcases e with e |e |e<;>omega) _ _ (hR8 rfl);have hUw:U.wt=t.wt:=by rw[hUd];exact Tm.zCD _ _ _
      have hq1:∀ b,(b<w.heap.size\/b=X\/b=R)->b<w8.heap.size:=by have:=hb8.lt;intro b e;rcases e with e |e |e<;>omega
      have HU:=zF (And.intro hUd (And.intro hUw hq1));clear hUd hUw hR8 s0 s1 s2 s3 g0 g1 g2 g3 hq1;go_wp2_with fail
      go_loopw [8] (fun v8 wr=>∃(j:Nat)(k i:Int)(n:List UInt8)(a:Option Addr)(len cap:Nat),v8=.int .i64 (j:Int)/\j<=vl/\
          zK (fun b=>b<w.heap.size\/b=X\/b=R) wr (Tm.yQ j U).zM [.int .i64 k,.string (B n),.int .i64 i,.slice a len cap]/\zG wr X (.int .i64 k) (.string (B n)) (.int .i64 i) (.slice a len cap) 29/\
          zG wr R (.int .i64 0) (.string (B [])) (.int .i64 0) (.slice none 0 0) 29/\w8.heap.size<=wr.heap.size/\zD (fun b=>b=X) w8 wr)
        (fun v8 _=>vl - (intOf v8).toNat)
      case atStart=>exact⟨0,_,_,_,_,_,_,rfl,Nat.zero_le _,hRx,hb8,hr8,Nat.le_refl _,zD.refl _ _⟩
      case round=>
        clear hRx hb8 hr8;obtain⟨j,k,i,nm,a,len,cap,rfl,hj,hR,hB,hS,hz,hU⟩:=hrel;obtain⟨b0,b1,b2,b3⟩:=hB.cells;obtain⟨f0,f1,f2,f3⟩:=hB.zI;have hq:=hB.lt;have hj0:(0:Int)<=(j:Int):=by omega
        have hjb:(j:Int)<=1000000:=by omega
        by_cases hlt:j<vl
        ·have hj1:(j:Int)<(vl:Int):=by omega
         have hwr:=zDe (W':=((((wr.setCell ⟨X,0,none⟩ (.int .i64 3)).setCell ⟨X,1,none⟩ (.string (B []))).setCell ⟨X,2,none⟩ (.int .i64 0)).setCell ⟨X,3,none⟩ (.slice (some ⟨wr.heap.size,0,none⟩) 1 1)).alloc (.cells #[.int .i64 k,.string (B nm),.int .i64 i,.slice a len cap] 29))
           hB hR (.inr (.inl rfl)) (fun x hx=>by have:=HU.out.2.2 x hx;omega) 3 [] 0 rfl
         have HWR:=zF hwr;clear hwr hR;go_wp2_with fail
         go_roundw
         case rel=>
           obtain⟨h1,h2,h3⟩:=HWR.out;refine⟨j+1,3,0,[],_,1,1,by go_num,by omega,by rw[Tm.xw];exact h2,h1,hS.zE h3 (by omega),Nat.le_trans hz h3.size,hU.trans h3 (fun b hb e=>e)⟩
         case measure=>(simp[intOf];omega)
        ·have hj1:¬(j:Int)<(vl:Int):=by omega
         obtain rfl:j=vl:=by omega
         have hUw9:zD zC w wr:=hUw8.trans hU (fun b hb e=>by omega);have SM:=Z7 (Tm.yQ j U) (by have h9:=Tm.zi (Tm.yQ j U);rw[Yr,HU.out.2.1]at h9;omega) wr _ (zK.weaken (fun _ _ e=>e.elim) _ _ hR);obtain⟨sm,hsm⟩:∃ q,q=(Tm.yQ j U).small:=⟨_,rfl⟩;rw[<-hsm]at SM
         have hB2:xz vars t=sm:=by
           unfold xz;rw[<-HF.out.2.2.1,HF.out.1.1,HF.out.1.2,HF.out.2.1,<-HU.out.1,<-HVL.out,hsm];rfl
         have hTT:sm=true->Xi vars t=Tm.yQ j U:=fun e=>by rw[Xw (by rw[hB2,e]),<-HU.out.1,HVL.out]
         have HBT:=zF (And.intro hB2 hTT);clear hsm hB2 hTT f0 f1 f2 f3;go_wp2_with fail
         (with_reducible refine SM.mono ?_);rintro e w11 ⟨rfl,hU11⟩;have hb11:=hB.kept hU11;have hr11:=hS.kept hU11;have hUw11:=hUw9.and hU11;have hR11:=hR.on hU11;clear SM b0 b1 b2 b3 hB hS hR;obtain⟨x0,x1,x2,x3⟩:=hb11.cells;obtain⟨s0,s1,s2,s3⟩:=hr11.cells;obtain⟨g0,g1,g2,g3⟩:=hr11.zI;have qr11:=hr11.lt;cases sm
         ·have HNO:=zF HBT.out.1;go_wp2_with fail
          obtain⟨w12,hw12⟩:∃ w9,w9=(((w11.setCell ⟨R,0,none⟩ (.int .i64 0)).setCell ⟨R,1,none⟩ (.string (B []))).setCell ⟨R,2,none⟩ (.int .i64 0)).setCell ⟨R,3,none⟩ (.slice none 0 0):=⟨_,rfl⟩;obtain⟨hG,hB9⟩:=zm (r:=.bool false) hr11 (by have:=HR.out;omega) hUw11 (zV (k:=0) (n:=[]) (i:=0)) hw12;try rw[<-show B []={ data:=#[] }from rfl]
          rw[<-hw12];clear hw12;obtain⟨e0,e1,e2,e3⟩:=hB9.cells;refine bodyPost_ret (v:=.tuple #[.agg #[.int .i64 0,.string (B []),.int .i64 0,.slice none 0 0],.bool false]) ?_ rfl ?_
          ·simp[results,Tryz.f43,go_sem,e0,e1,e2,e3]
          ·rw[YC HNO.out,HNO.out];exact hG
         ·go_wp2_with fail
          obtain⟨w12,hw12⟩:∃ q,q=(((w11.setCell ⟨R,0,none⟩ (.int .i64 k)).setCell ⟨R,1,none⟩ (.string (B nm))).setCell ⟨R,2,none⟩ (.int .i64 i)).setCell ⟨R,3,none⟩ (.slice a len cap):=⟨_,rfl⟩;have hset:=hr11.set (d0:=.int .i64 k) (d1:=.string (B nm)) (d2:=.int .i64 i) (d3:=.slice a len cap);rw[<-hw12]at hset;rw[<-hw12];clear hw12;obtain⟨e0,e1,e2,e3⟩:=hset.1.cells;refine bodyPost_ret (v:=.tuple #[.agg #[.int .i64 k,.string (B nm),.int .i64 i,.slice a len cap],.bool true]) ?_ rfl ?_
          ·simp[results,Tryz.f43,go_sem,e0,e1,e2,e3]
          ·rw[HBT.out.1,HBT.out.2 (by trivial)];exact⟨k,i,nm,a,len,cap,rfl,zK.weaken (fun b _ e=>.inl e) _ _ (zK.zE hset.2 (fun b e=>.inr (.inr e)) _ _ hR11),hUw11.trans hset.2 (fun b hb e=>by have:=HR.out;omega)⟩
end
end Go.Proofs.YthgmimncdjhgnaaGreatDoor
