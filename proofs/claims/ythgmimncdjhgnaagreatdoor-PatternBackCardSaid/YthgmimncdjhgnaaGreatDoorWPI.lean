/- PatternBack, as plain data. No program is in sight here. -/
import Derived.Test.YthgmimncdjhgnaaGreatDoorWCD
import Derived.Test.YthgmimncdjhgnaaGreatDoorWCH
import Derived.Test.YthgmimncdjhgnaaGreatDoorWCJ
import Derived.Test.YthgmimncdjhgnaaGreatDoorWCK
import Derived.Test.YthgmimncdjhgnaaGreatDoorWFL
import Derived.Test.YthgmimncdjhgnaaGreatDoorWPA
import Derived.Test.YthgmimncdjhgnaaGreatDoorWRenInvP
import Derived.Deep.AppendLies
import Derived.Deep.CutRange
import Derived.Deep.RegionHeld3
set_option maxRecDepth 100000
set_option maxHeartbeats 16000000
namespace Go.LF
open Tm Go.Proofs.YthgmimncdjhgnaaGreatDoor
theorem zHg(f:To)(n' n:Int)(hf:∀ v,0<=v->v<n'->(f v).1<n)(hn:0<=n)(t:Tm):∀ b,0<=b->lt (n'+b) t->lt (n+b) (mv f b t):=by
  induction t using ind with
  |h k nm i l ih=>
   intro b hb h;rw[Zj]at h;rw[y8,Zj];refine⟨fun e=>?_,?_⟩
   ·have h1:=h.1 e;unfold xu;split
    ·rename_i h2;have:=hf (i - b) (by omega) (by omega);omega
    ·rename_i h2;omega
   have key:∀(l':List Tm),(∀ t∈l',t∈l)->∀ j,qq (n'+b) k j l'->qq (n+b) k j (yu f b k j l'):=by
     intro l';induction l' with
     |nil=>intro _ j _;rw[yu];exact xd _ _ _
     |cons t ts ih2=>
      intro hm j h;rw[yf]at h;rw[yu,yf];have hu:=yF k j;refine⟨?_,ih2 (fun t ht=>hm t (by simp[ht])) (j+1) h.2⟩;have:=ih t (hm t (by simp)) (b+under k j) (by omega) (by rw[show n'+(b+under k j)=n'+b+under k j by omega];exact h.1);rw[show n+b+under k j=n+(b+under k j) by omega];exact this
   exact key l (fun _ h=>h) 0 h.2
theorem zFV:∀(l seen:List Int),(∀ v∈l,0<=v/\v∉seen)->l.Nodup->dst seen l=true
  | [],_,_,_=>rfl
  |v :: vs,seen,h,hn=>by
   rw[dst];have h1:=h v (by simp);rw[List.nodup_cons]at hn;rw[if_neg (by simp;exact⟨h1.1,h1.2⟩)]
   exact zFV vs (seen++[v]) (fun x hx=>by
     have h2:=h x (by simp[hx]);refine⟨h2.1,fun e=>?_⟩;simp only[List.mem_append,List.mem_singleton]at e;rcases e with e |e
     ·exact h2.2 e
     ·rw[e]at hx;exact hn.1 hx) hn.2
abbrev X0(i:Int):Tm:=.mk 5 [] i []
theorem zGh(v:Int)(h0:0<=v)(h1:v<4):(X0 v).vrw=some v:=by
  have:v=0\/v=1\/v=2\/v=3:=by omega
  rcases this with rfl |rfl |rfl |rfl<;>decide+kernel
theorem zFy:∀(l seen:List Int),(∀ v∈l,(0<=v/\v<4)/\v∉seen)->l.Nodup->pvs seen (l.map X0)=some (seen++l)
  | [],seen,_,_=>by rw[List.map_nil,pvs,List.append_nil]
  |v :: vs,seen,h,hn=>by
   have h1:=h v (by simp);rw[List.nodup_cons]at hn;rw[List.map_cons,pvs,zGh v h1.1.1 h1.1.2];simp only
   rw[if_neg (by simp;exact h1.2),zFy vs (seen++[v]) (fun x hx=>by
     have h2:=h x (by simp[hx]);refine⟨h2.1,fun e=>?_⟩;simp only[List.mem_append,List.mem_singleton]at e;rcases e with e |e
     ·exact h2.2 e
     ·rw[e]at hx;exact hn.1 hx) hn.2,List.append_assoc]
   rfl
theorem zHF{l:List Int}(h4:l.length=4){p:Nat}(hp:p<4):l.reverse.getD (3 - p) 0=l.getD p 0:=by
  simp only[List.getD];rw[List.getElem?_reverse (by omega),show l.length - 1 - (3 - p)=p by omega]
theorem zHQ{t:Tm}{m:Nat}(h:YP t 34 4 m)(ho:t.isObj=true)(vs:List Int)(hp:vs.Perm [0,1,2,3]):
    ∃ x,xz vs t=true/\Xi vs t=yQ 4 x/\(yQ 4 x).wf=0/\(yQ 4 x).scope<=0/\pvs [] (vs.map X0)=some vs/\x.YL vs.reverse=true/\x.Y1 vs.reverse=t/\x.wt<=1000/\(yQ 4 x).wt<=1000:=by
  have hf:=h.free (by omega);have hw:=h.wf (by omega);have hlen:vs.length=4:=hp.length_eq
  have hall:∀ x∈vs,0<=x/\x<4:=fun x hx=>by
    have:=hp.mem_iff.1 hx;simp at this;omega
  have hnd:vs.Nodup:=hp.nodup_iff.2 (by decide);have hmem:∀ v:Int,0<=v->v<4->v∈vs:=fun v h0 h1=>hp.mem_iff.2 (by simp;omega)
  have hdst:dst [] vs=true:=zFV vs [] (fun v hv=>⟨(hall v hv).1,by simp⟩) hnd
  have hiv:∀ v:Int,0<=v->v<4->(xr vs v).2=true/\0<=(xr vs v).1/\(xr vs v).1<4/\zz vs.reverse (xr vs v).1=(v,true):=by
    intro v h0 h1;obtain⟨p1,p2⟩:=zGf (hmem v h0 h1);have p3:=ZO vs v;unfold xr;rw[hlen]at p3 ⊢;simp only;refine⟨decide_eq_true p1,by omega,by omega,?_⟩;rw[zGN (by omega) (by rw[List.length_reverse];omega)];have e:(((4:Nat):Int) - 1 - ZU vs v).toNat=3 - (ZU vs v).toNat:=by omega
    rw[e,zHF hlen (by omega),p2]
  have ok1:yG (xr vs) 0 t=true:=by
    refine zDn _ _ (fun x hx hk hb=>?_);have:=hf x hx hk hb;obtain⟨a1,a2,a3,_⟩:=hiv (x.i - x.b) (by omega) (by omega);exact⟨a1,a2,by omega⟩
  have wx:=zIZ _ _ hw ok1;have hobj:=Qb (xr vs) t ho 0 (Int.le_refl _) ok1
  have hsm:(yQ vs.length (mv (xr vs) 0 t)).small=true:=by
    unfold small;have e1:=Xv vs.length (mv (xr vs) 0 t);have e2:=Yr vs.length (mv (xr vs) 0 t);rw[Xo]at e1;rw[zCD]at e2;have:=h.depth;have:=h.wt;have:=zi (yQ vs.length (mv (xr vs) 0 t));rw[Bool.and_eq_true,decide_eq_true_eq,decide_eq_true_eq];omega
  have hts:t.small=true:=(Yi ho).symm.trans (by rw[hw];rfl)
  have hB:xz vs t=true:=by
    unfold xz;rw[ho,hts,hdst,ok1,hsm];rfl
  have nn:∀ x∈nodes 0 t,x.k=5->x.b<=x.i->0<=(xr vs (x.i - x.b)).1:=by
    intro x hx hk hb;have:=hf x hx hk hb;exact(hiv (x.i - x.b) (by omega) (by omega)).2.1
  have ok2:yG (zz vs.reverse) 0 (mv (xr vs) 0 t)=true:=by
    refine zCj _ _ _ (fun x hx hk hb=>?_);have:=hf x hx hk hb;refine⟨nn x hx hk hb,?_⟩;rw[(hiv (x.i - x.b) (by omega) (by omega)).2.2.2];refine⟨rfl,?_,?_⟩<;>simp only<;>omega
  obtain⟨e3,e4⟩:=zHP wx ok2
  have hsc:(mv (xr vs) 0 t).scope<=4:=by
    have h1:=(YT t (n:=4) (by omega)).2 h.scope;exact(YT _ (by omega)).1 (zHg (xr vs) 4 4 (fun v h0 h1=>(hiv v h0 h1).2.2.1) (by omega) t 0 (Int.le_refl _) h1)
  refine⟨mv (xr vs) 0 t,hB,by rw[Xw hB,hlen],?_,?_,?_,e3,?_,?_,?_⟩
  ·have h1:=Yi (Qc 4 hobj);rw[<-hlen,hsm]at h1;rw[<-hlen];simpa using h1
  ·have e:∀ u:Tm,yQ 4 u=lam (lam (lam (lam u))):=fun u=>rfl
   rw[e,Yk,Yk,Yk,Yk];omega
  ·have:=zFy vs [] (fun v hv=>⟨hall v hv,by simp⟩) hnd;simpa using this
  ·rw[e4,zIL _ _ _ _ nn];refine zId _ _ _ (fun x hx=>(zFw (g:=fun i=>(i,true)) (fun hk hb=>?_)).trans (zFt _ _ _));have:=hf x hx hk hb;simp only;rw[(hiv (x.i - x.b) (by omega) (by omega)).2.2.2]
  ·rw[zCD];have:=h.wt;omega
  ·have e2:=Yr 4 (mv (xr vs) 0 t);rw[zCD]at e2;have:=h.wt;omega
end Go.LF
namespace Go.Proofs.YthgmimncdjhgnaaGreatDoor
open Go.RowKit Go.LF
theorem zCs(l:List Int)(la:Option Addr)(lc:Nat)(_hl:l.length<=1000000)(t:Tm):t.size<=100000->(∀ b,∀ x∈t.nodes b,x.ok)->∀(b:Int)(w:World)(cs:List Value),0<=b->b+t.size<=1000000->zK zC w t.zM cs->zH zC w 1 (l.map (yP.int .i64)) la 0->
    Calls Tryz.prog 106 #[.agg cs.toArray,.slice la l.length lc,.int .i64 b] w (Zw (t.mvz (Tm.zz l) b) (.bool (t.yG (Tm.zz l) b)) w):=by
  induction t using Tm.ind with
  |h k nm i ts ih=>
   intro hsz hok b w cs h0 h1 hR hE2;obtain⟨a,cap,rfl,hcap,hE⟩:=zd.1 hR;have hlen:=Tm.zN ts;simp only[Tm.zS]at hsz h1;have hoks:=Tm.qt hok;have hno:=hok b;rw[Tm.zb]at hno;have hi5:k=5->0<=i/\i<=1048576:=fun e=>(hno _ (List.mem_cons_self ..)).1 (by simp[e])
   obtain⟨i0,hi,hi0,hi1,hi2⟩:=info_parts yV;obtain⟨w2,hw2⟩:∃ w2,w2=((w.alloc (.cells #[.int .i64 k,.string (B nm),.int .i64 i,.slice a ts.length cap] 29)).alloc (.cells #[.int .i64 0,.string (B []),.int .i64 0,.slice none 0 0] 29)).alloc (.cells #[.int .i64 k,.string (B nm),.int .i64 i,.slice none 0 0] 29):=⟨_,rfl⟩;have hU2:zD zC w w2:=by rw[hw2];exact(((zD.refl zC w).alloc _).alloc _).alloc _
   have ht2:zG w2 w.heap.size (.int .i64 k) (.string (B nm)) (.int .i64 i) (.slice a ts.length cap) 29:=by rw[hw2];exact((zG.zJ rfl).kept ((zD.refl zC _).alloc _)).kept ((zD.refl zC _).alloc _)
   have hr2:zG w2 (w.heap.size+1) (.int .i64 0) (.string (B [])) (.int .i64 0) (.slice none 0 0) 29:=by rw[hw2];exact(zG.zJ (by simp)).kept ((zD.refl zC _).alloc _)
   have ho2:zG w2 (w.heap.size+1+1) (.int .i64 k) (.string (B nm)) (.int .i64 i) (.slice none 0 0) 29:=by rw[hw2];exact zG.zJ (by simp)
   obtain⟨t0,t1,t2,t3⟩:=ht2.cells;obtain⟨o0,o1,o2,o3⟩:=ho2.cells;obtain⟨f0,f1,f2,f3⟩:=ho2.zI;obtain⟨s0,s1,s2,s3⟩:=hr2.cells;obtain⟨g0,g1,g2,g3⟩:=hr2.zI;have hz2:=ho2.lt;have HW2:=zF hw2;have HW:=zF (And.intro hsz h1);obtain⟨cv,hcv⟩:∃ c,c=(k == 5 && decide (b<=i)):=⟨_,rfl⟩
   have hways:((k == 5)=true/\b<=i)\/((k == 5)=true/\¬b<=i)\/(k == 5)=false:=by
     by_cases h:k=5
     ·by_cases h':b<=i
      ·exact .inl ⟨by simp[h],h'⟩
      ·exact .inr (.inl ⟨by simp[h],h'⟩)
     ·exact .inr (.inr (by simp[h]))
   have HC:=zF hcv;have HY:=zF hways;have HI5:=zF hi5;clear hw2 hR hno hok hcv hways hi5;go_enter Tryz.func106,Tryz.ntmps106
   go_upto_region 2 with fail
   rw[<-HW2.out];go_cut [28]from 13 to 28 (fun vc wx=>vc=.bool cv/\w2=wx)
   case first=>
     rcases HY.out with⟨h5,hbi⟩|⟨h5,hbi⟩|h5;case' inl=>have hi6:=HI5.out (by simpa using h5)
     case' inr.inl=>have hi6:=HI5.out (by simpa using h5)
     all_goals
       try simp only[Int.not_le]at hbi
       go_wp2_with fail
       go_meet
       case rel=>exact⟨by rw[HC.out];simp[h5]<;>omega,rfl⟩
   case rest=>
     obtain⟨rfl,rfl⟩:=hcut;go_upto_if 28 with fail
     go_cut []from 13 to 60 (fun wc=>Tm.XK (Tm.zz l) b k i=true/\zG wc w.heap.size (.int .i64 k) (.string (B nm)) (.int .i64 i) (.slice a ts.length cap) 29/\zG wc (w.heap.size+1) (.int .i64 0) (.string (B [])) (.int .i64 0) (.slice none 0 0) 29/\
       zG wc (w.heap.size+1+1) (.int .i64 k) (.string (B nm)) (.int .i64 (Tm.xu (Tm.zz l) b k i)) (.slice none 0 0) 29/\zD zC w wc)
     case first=>
       cases cv
       ·go_wp2_with fail
        go_meet
        case rel=>
          have hc:=HC.out
          have e:Tm.xu (Tm.zz l) b k i=i/\Tm.XK (Tm.zz l) b k i=true:=by
            unfold Tm.xu Tm.XK;by_cases hk:k=5/\b<=i
            ·exact absurd hc (by simp[hk.1,hk.2])
            ·have e2:(k == 5 && decide (b<=i))=false:=hc.symm;rw[if_neg hk,e2];exact⟨rfl,rfl⟩
          exact⟨e.2,ht2,hr2,by rw[e.1];exact ho2,hU2⟩
       ·have hki:k=5/\b<=i:=by have:=HC.out;simpa using this.symm
        obtain⟨hk5,hbi⟩:=hki;have hi6:=HI5.out hk5;clear HI5;obtain⟨v,hv⟩:∃ v:Nat,i=b+v:=⟨(i - b).toNat,by omega⟩;have hiv:i - b=(v:Int):=by omega
        have hv0:(0:Int)<=(v:Int):=by omega
        have hv1:(v:Int)<=1048576:=by omega
        have hmk:∀ o,Tm.XK (Tm.zz l) b k i=o->(o=false->Tm.yG (Tm.zz l) b (.mk k nm i ts)=false):=by
          intro o ho e;rw[Tm.xQ,ho,e,Bool.false_and]
        by_cases hvl:v<l.length
        ·obtain⟨lb,lo,rfl,_,_,hcl⟩:=yJ (hE2.on hU2) v hvl;have hrf:Tm.zz l (i - b)=(l[v],true):=by rw[hiv];unfold Tm.zz;rw[Int.toNat_natCast,List.getElem?_eq_getElem hvl]
         have hokv:Tm.XK (Tm.zz l) b k i=(decide (0<=l[v]) && decide (l[v]<=1048576 - b)):=by unfold Tm.XK;rw[hrf,hk5];simp[hbi]
         have hmiv:Tm.xu (Tm.zz l) b k i=l[v]+b:=by unfold Tm.xu;rw[if_pos ⟨hk5,hbi⟩,hrf]
         have hvl2:(v:Int)<(l.length:Int):=by omega
         have hn:l[v]<0\/(0<=l[v]/\1048576 - b<l[v])\/(0<=l[v]/\l[v]<=1048576 - b):=by omega
         generalize l[v]=x at *
         have HHV:=zF (And.intro hokv (And.intro hmiv hmk));have HIV:=zF hiv;clear hokv hmiv hrf hmk hv hk5;rcases hn with hn |⟨hn,hn2⟩|⟨hn,hn2⟩
         ·have HMB:=zF (HHV.out.2.2 _ HHV.out.1 (by simp;omega));go_wp2_with fail
          obtain⟨w8,hw8⟩:∃ w8,w8=(((w2.setCell ⟨w.heap.size+1,0,none⟩ (.int .i64 0)).setCell ⟨w.heap.size+1,1,none⟩ (.string (B []))).setCell ⟨w.heap.size+1,2,none⟩ (.int .i64 0)).setCell ⟨w.heap.size+1,3,none⟩ (.slice none 0 0):=⟨_,rfl⟩;obtain⟨hG,hB9⟩:=zm (r:=.bool false) hr2 (by omega) hU2 (zV (k:=0) (n:=[]) (i:=0)) hw8;try rw[<-show B []={ data:=#[] }from rfl]
          rw[<-hw8];clear hw8;obtain⟨e0,e1,e2,e3⟩:=hB9.cells;refine bodyPost_ret (v:=.tuple #[.agg #[.int .i64 0,.string (B []),.int .i64 0,.slice none 0 0],.bool false]) ?_ rfl ?_
          ·simp[results,Tryz.f106,go_sem,e0,e1,e2,e3]
          ·rw[Tm.zAz HMB.out,HMB.out];exact hG
         ·have HMB:=zF (HHV.out.2.2 _ HHV.out.1 (by simp;omega));go_wp2_with fail
          obtain⟨w8,hw8⟩:∃ w8,w8=(((w2.setCell ⟨w.heap.size+1,0,none⟩ (.int .i64 0)).setCell ⟨w.heap.size+1,1,none⟩ (.string (B []))).setCell ⟨w.heap.size+1,2,none⟩ (.int .i64 0)).setCell ⟨w.heap.size+1,3,none⟩ (.slice none 0 0):=⟨_,rfl⟩;obtain⟨hG,hB9⟩:=zm (r:=.bool false) hr2 (by omega) hU2 (zV (k:=0) (n:=[]) (i:=0)) hw8;try rw[<-show B []={ data:=#[] }from rfl]
          rw[<-hw8];clear hw8;obtain⟨e0,e1,e2,e3⟩:=hB9.cells;refine bodyPost_ret (v:=.tuple #[.agg #[.int .i64 0,.string (B []),.int .i64 0,.slice none 0 0],.bool false]) ?_ rfl ?_
          ·simp[results,Tryz.f106,go_sem,e0,e1,e2,e3]
          ·rw[Tm.zAz HMB.out,HMB.out];exact hG
         ·go_wp2_with fail
          go_meet
          case rel=>exact⟨by rw[HHV.out.1];simp;omega,ht2.other (by omega) _,hr2.other (by omega) _,by rw[HHV.out.2.1];exact ho2.qO _,hU2.trans (zD.set (zD.refl _ _) 2 _) (fun x hx e=>by omega)⟩
        ·have hrf:Tm.zz l (i - b)=(0,false):=by rw[hiv];unfold Tm.zz;rw[Int.toNat_natCast,List.getElem?_eq_none (by omega)]
         have hokv:Tm.XK (Tm.zz l) b k i=false:=by unfold Tm.XK;rw[hrf,hk5];simp[hbi]
         have hvl2:¬(v:Int)<(l.length:Int):=by omega
         have HMB:=zF (hmk _ hokv rfl);have HIV:=zF hiv;clear hmk hokv hrf hv hk5;go_wp2_with fail
         obtain⟨w8,hw8⟩:∃ w8,w8=(((w2.setCell ⟨w.heap.size+1,0,none⟩ (.int .i64 0)).setCell ⟨w.heap.size+1,1,none⟩ (.string (B []))).setCell ⟨w.heap.size+1,2,none⟩ (.int .i64 0)).setCell ⟨w.heap.size+1,3,none⟩ (.slice none 0 0):=⟨_,rfl⟩;obtain⟨hG,hB9⟩:=zm (r:=.bool false) hr2 (by omega) hU2 (zV (k:=0) (n:=[]) (i:=0)) hw8;try rw[<-show B []={ data:=#[] }from rfl]
         rw[<-hw8];clear hw8;obtain⟨e0,e1,e2,e3⟩:=hB9.cells;refine bodyPost_ret (v:=.tuple #[.agg #[.int .i64 0,.string (B []),.int .i64 0,.slice none 0 0],.bool false]) ?_ rfl ?_
         ·simp[results,Tryz.f106,go_sem,e0,e1,e2,e3]
         ·rw[Tm.zAz HMB.out,HMB.out];exact hG
     case rest=>
       obtain⟨hoki,htp,hrp,hop,hUp⟩:=hcut;clear t0 t1 t2 t3 o0 o1 o2 o3 f0 f1 f2 f3 s0 s1 s2 s3 g0 g1 g2 g3 ht2 hr2 ho2 hU2;obtain⟨mi,hmi⟩:∃ mi,mi=Tm.xu (Tm.zz l) b k i:=⟨_,rfl⟩;rw[<-hmi]at hop;have HMI:=zF (And.intro hmi hoki);have hbase:w.heap.size+1+1<wc.heap.size:=hop.lt;obtain⟨wp,rfl⟩:∃ wp,wp=wc:=⟨_,rfl⟩;clear hmi hoki;go_wp2_with fail
       go_loopw [10] (fun vj wr=>∃(j:Nat)(v:Value)(css:List (List Value)),vj=.int .i64 j/\j<=ts.length/\Tm.yY (Tm.zz l) b k 0 (ts.take j)=true/\yD wp.heap.size wr v (Tm.yu (Tm.zz l) b k 0 (ts.take j)) css/\
           zG wr (w.heap.size+1+1) (.int .i64 k) (.string (B nm)) (.int .i64 mi) v 29/\zG wr w.heap.size (.int .i64 k) (.string (B nm)) (.int .i64 i) (.slice a ts.length cap) 29/\
           zG wr (w.heap.size+1) (.int .i64 0) (.string (B [])) (.int .i64 0) (.slice none 0 0) 29/\zD zC w wr/\wp.heap.size<=wr.heap.size)
         (fun vj _=>ts.length - (intOf vj).toNat)
       case atStart=>exact⟨0,_,[],rfl,Nat.zero_le _,by simp[Tm.yY],by simp only[List.take_zero,Tm.yu];exact yD.nil _ _,hop,htp,hrp,hUp,Nat.le_refl _⟩
       case round=>
         clear hop htp hrp hUp;obtain⟨j,v,css,rfl,hj,hok,hts,hout,htb,hrb,hU,hbr⟩:=hrel;have HOK:=zF hok;clear hok;obtain⟨t0,t1,t2,t3⟩:=htb.cells;have qo:=hout.lt;have hj0:(0:Int)<=(j:Int):=by omega
         have hjb:(j:Int)<=100000:=by omega
         by_cases hlt:j<ts.length
         ·obtain⟨eb,eo,ek,en,ex,es,ec,rfl,hebl,_,p0,p1,p2,p3,hRp⟩:=zk (hE.on hU) j hlt;have hsz1:=Tm.zR (List.getElem_mem hlt);obtain⟨hu0,hu1⟩:=Tm.yF k j;have hj1:(j:Int)<(ts.length:Int):=by omega
          have hd:zD zC wr wr.drew:=(zD.refl zC wr).drew;have ha:zD zC wr (wr.alloc (.cells #[.int .i64 0,.string (B []),.int .i64 0,.slice none 0 0] 29)).drew:=((zD.refl zC wr).alloc _).drew;have H2:=fun w'=>Yx k j j rfl nm i (.slice (some ⟨eb,eo,none⟩) ts.length cap) w'
          have IH:=fun(z:Int)w'(hz:z=b+Tm.under k j)(hV:zD zC wr w')=>ih (ts[j]'hlt) (List.getElem_mem hlt) (by omega) (hoks _ (List.getElem_mem hlt)) z w' _ (by omega) (by omega) (hRp.on hV) (hE2.on (hU.and hV))
          obtain⟨us,hus⟩:∃ us,us=Tm.yu (Tm.zz l) b k 0 (ts.take j):=⟨_,rfl⟩;obtain⟨okj,hokj⟩:∃ o,o=(ts[j]'hlt).yG (Tm.zz l) (b+Tm.under k j):=⟨_,rfl⟩;obtain⟨u,hu⟩:∃ u,u=(ts[j]'hlt).mvz (Tm.zz l) (b+Tm.under k j):=⟨_,rfl⟩;have hul:us.length=j:=by rw[hus,Tm.xR,List.length_take];omega
          have hsucc:okj=true->us++[u]=Tm.yu (Tm.zz l) b k 0 (ts.take (j+1))/\Tm.yY (Tm.zz l) b k 0 (ts.take (j+1))=true:=by
            intro e;have hu2:u=(ts[j]'hlt).mv (Tm.zz l) (b+Tm.under k j):=by rw[hu];unfold Tm.mvz;rw[<-hokj,e];rfl
            rw[Tm.ZA _ _ _ _ _ hlt,Tm.yU _ _ _ _ _ hlt,<-hus,hu2,HOK.out,<-hokj,e];exact⟨rfl,rfl⟩
          have hbad:okj=false->Tm.yG (Tm.zz l) b (.mk k nm i ts)=false:=by
            intro e;rw[Tm.xQ];have h1:=Tm.yU (Tm.zz l) b k ts j hlt;rw[<-hokj,e,Bool.and_false]at h1;have h2:=Tm.YE (Tm.zz l) b k (ts.take (j+1)) (ts.drop (j+1)) 0;rw[List.take_append_drop,h1,Bool.false_and]at h2;rw[h2,Bool.and_false]
          rw[<-hus]at hts
          have IH':∀(z:Int)w',z=b+Tm.under k j->zD zC wr w'->Calls Tryz.prog 106 #[.agg #[.int .i64 ek,.string (B en),.int .i64 ex,.slice es (ts[j]'hlt).args.length ec],.slice la l.length lc,.int .i64 z] w' (Zw u (.bool okj) w'):=by
            intro z w' hz hV;have h:=IH z w' hz hV;rw[hz,<-hokj,<-hu]at h;rw[hz];exact h
          have HS:=zF (And.intro hul (And.intro hsucc hbad));have hul6:us.length<=1000000:=by omega
          have HLT:=zF (show j<ts.length from hlt);have hzw:IntKind.i64.wrap (b+Tm.under k j)=b+Tm.under k j:=Go.IntWalk.i64_in _ (by omega);clear hul hsucc hus hu ih IH hbad hokj;generalize Tm.under k j=ud at *
          generalize (ts[j]'hlt).args.length=el at *
          have S0:qv w.heap.size eb (eo+j * 4) (.int .i64 k) (.string (B nm)) (.int .i64 i) (.slice (some ⟨eb,eo,none⟩) ts.length cap) (.int .i64 ek) (.string (B en)) (.int .i64 ex) (.slice es el ec) wr:=⟨⟨t0,t1,t2,t3⟩,p0,p1,p2,p3⟩;have Sd:=S0.on hd;have Sa:=S0.on ha;have hnb:w.heap.size≠wr.heap.size:=by omega
          have hne:eb≠wr.heap.size:=by omega
          go_upto_region 10 with fail
          go_cut [11,12]from 68 to 82 (fun vx vk wx=>∃(ob:Nat)(k1 i1:Int)(n1:List UInt8)(a1:Option Addr)(len1 cap1:Nat),vx=.pointer (some ⟨ob,0,none⟩)/\vk=.bool okj/\zG wx ob (.int .i64 k1) (.string (B n1)) (.int .i64 i1) (.slice a1 len1 cap1) 29/\
            zK (fun x=>x<wr.heap.size) wx u.zM [.int .i64 k1,.string (B n1),.int .i64 i1,.slice a1 len1 cap1]/\zD zC wr wx)
          case first=>
            go_region_held3 (fun w'=>qv w.heap.size eb (eo+j * 4) (.int .i64 k) (.string (B nm)) (.int .i64 i) (.slice (some ⟨eb,eo,none⟩) ts.length cap) (.int .i64 ek) (.string (B en)) (.int .i64 ex) (.slice es el ec) w')
              (first |(with_reducible assumption)|(with_reducible exact Sd)|(with_reducible exact Sa)|(with_reducible exact qv.new S6 _)|(with_reducible exact qv.new S5 _)|(with_reducible exact qv.set (qv.set (qv.set (qv.set S6 hnb hne 0 _) hnb hne 1 _) hnb hne 2 _) hnb hne 3 _)|(with_reducible exact qv.set (qv.set (qv.set (qv.set S6 hn5 he5 0 _) hn5 he5 1 _) hn5 he5 2 _) hn5 he5 3 _))
              (first
                |((go_at_call 136);refine(H2 _).mono ?_;rintro e w5 ⟨rfl,hU5⟩;have U5:zD zC wr w5:=(by first |exact hd.and hU5 |exact ha.and hU5);have S5:=S0.on U5;have hn5:w.heap.size≠w5.heap.size:=(by have:=U5.size;omega);have he5:eb≠w5.heap.size:=(by have:=U5.size;omega);(first |(have z5:=(show zG (wr.alloc (.cells #[.int .i64 0,.string (B []),.int .i64 0,.slice none 0 0] 29)).drew wr.heap.size _ _ _ _ _ from zG.zJ rfl).kept hU5)|skip))
                |((go_at_call 106);(first |(refine(IH' _ _ (by first |rfl |omega) U5).mono ?_)|(refine(IH' _ _ (by first |rfl |omega) (U5.alloc _)).mono ?_));rintro e w6 ⟨k1,i1,n1,a1,len1,cap1,rfl,hR6,hU6⟩;have U6:zD zC wr w6:=(by first |exact U5.and hU6 |exact(U5.alloc _).and hU6);have S6:=S0.on U6;(first |(have z6:=z5.kept hU6;obtain⟨z60,z61,z62,z63⟩:=z6.cells;obtain⟨y60,y61,y62,y63⟩:=z6.zI;have z69:=z6.lt)|(have z6:=(show zG (w5.alloc (.cells #[.int .i64 0,.string (B []),.int .i64 0,.slice none 0 0] 29)) w5.heap.size _ _ _ _ _ from zG.zJ rfl).kept hU6;obtain⟨z60,z61,z62,z63⟩:=z6.cells;obtain⟨y60,y61,y62,y63⟩:=z6.zI;have z69:=z6.lt)|skip)))
            all_goals
              go_wp2_with fail
              go_meet
            all_goals have hss5:=U5.size
            all_goals first
              |(have hset:=z6.set (d0:=.int .i64 k1) (d1:=.string (B n1)) (d2:=.int .i64 i1) (d3:=.slice a1 len1 cap1)
                exact⟨_,k1,i1,n1,a1,len1,cap1,rfl,rfl,hset.1,zK.weaken (fun b _ e=>by(try simp only[World.size_alloc]);omega) _ _ (zK.zE hset.2 (fun b e=>by(try simp only[World.size_alloc]);first |omega |(have:=z5.lt;omega)) _ _ hR6),U6.trans hset.2 (fun i hi e=>by omega)⟩)
              |exact⟨w6.heap.size,k1,i1,n1,a1,len1,cap1,rfl,rfl,zG.zJ rfl,(zK.weaken (fun b _ e=>by(try simp only[World.size_alloc]);omega) _ _ hR6).new _,U6.alloc _⟩
          case rest=>
            obtain⟨ob,k1,i1,n1,a1,len1,cap1,rfl,rfl,hX,hRx,hUx⟩:=hcut;have houx:=hout.kept hUx;have htbx:=htb.kept hUx;have hrbx:=hrb.kept hUx;have htsx:=hts.on hUx;have hUwx:=hU.and hUx;have hsx:=hUx.size;have hxl:=hX.lt;have hvl:∀ b,v.ownBlock=some b->b<wr.heap.size:=fun b e=>(hts.2.2.1.lt b e).2
            clear S0 Sd Sa IH' H2 p0 p1 p2 p3 t0 t1 t2 t3 hRp hout htb hrb hts hU hUx;obtain⟨x0,x1,x2,x3⟩:=hX.cells;obtain⟨b0,b1,b2,b3⟩:=houx.cells;obtain⟨y0,y1,y2,y3⟩:=houx.zI;obtain⟨s0,s1,s2,s3⟩:=hrbx.cells;obtain⟨g0,g1,g2,g3⟩:=hrbx.zI;have qox:=houx.lt;cases okj
            ·have hbad:=HS.out.2.2 rfl;have HMB:=zF hbad;clear hbad;go_wp2_with fail
             obtain⟨w8,hw8⟩:∃ w8,w8=(((wc.setCell ⟨w.heap.size+1,0,none⟩ (.int .i64 0)).setCell ⟨w.heap.size+1,1,none⟩ (.string (B []))).setCell ⟨w.heap.size+1,2,none⟩ (.int .i64 0)).setCell ⟨w.heap.size+1,3,none⟩ (.slice none 0 0):=⟨_,rfl⟩;obtain⟨hG,hB9⟩:=zm (r:=.bool false) hrbx (by omega) hUwx (zV (k:=0) (n:=[]) (i:=0)) hw8;try rw[<-show B []={ data:=#[] }from rfl]
             rw[<-hw8];clear hw8;obtain⟨e0,e1,e2,e3⟩:=hB9.cells;refine bodyPost_ret (v:=.tuple #[.agg #[.int .i64 0,.string (B []),.int .i64 0,.slice none 0 0],.bool false]) ?_ rfl ?_
             ·simp[results,Tryz.f106,go_sem,e0,e1,e2,e3]
             ·rw[Tm.zAz HMB.out,HMB.out];exact hG
            ·go_wp2_with (at_builtin;refine wpList_append_lies _ (by rfl) _ _ 26 (by rfl) wp.heap.size 29 i0 (.agg #[.int .i64 0,.string (B []),.int .i64 0,.slice none 0 0]) 4 56 (by kernel_rfl) hi hi0 hi1 hi2 rfl (by decide) v us.length css.flatten (by rfl) ((htsx.on ((zD.refl zC wc).alloc _)).2.2.1) ⟨wc.heap.size,0,none⟩ 1 1 [.int .i64 k1,.string (B n1),.int .i64 i1,.slice a1 len1 cap1] (by rfl) rfl (World.news_of_block (heap_alloc_new wc _)) (by simp[Value.oneCell']) (by omega) (by simp only[maxLen];omega) (by omega) (by simp;omega) _ rfl ?_;intro g cap' w7 hown hgrow hat hlt7;have hou7:=(houx.kept ((zD.refl zC wc).alloc _)).row hgrow (htsx.on ((zD.refl zC wc).alloc _)) (by omega);have c7:=hou7.cells.2.2.2;have z7:=hou7.frozen 3;have q7:=hou7.lt)
             have hal:zD zC wc (wc.alloc (.cells #[.int .i64 k1,.string (B n1),.int .i64 i1,.slice a1 len1 cap1] 29)):=(zD.refl zC wc).alloc _;have hts6':=htsx.on hal
             have hRx':zK (fun b=>b<wp.heap.size\/v.ownBlock=some b) (wc.alloc (.cells #[.int .i64 k1,.string (B n1),.int .i64 i1,.slice a1 len1 cap1] 29)) u.zM [.int .i64 k1,.string (B n1),.int .i64 i1,.slice a1 len1 cap1]:=by
               refine(zK.weaken (fun b _ e=>?_) _ _ hRx).new _;rcases e with e |e
               ·omega
               ·exact hvl b e
             have hT7:=hts6'.appended rfl hRx' hown hgrow hat (Nat.le_refl _);have hset7:zD (fun b=>b=w.heap.size+1+1) w7 (w7.setCell ⟨w.heap.size+1+1,3,none⟩ (.slice (some ⟨g,0,none⟩) (us.length+1) cap')):=zD.set (zD.refl _ _) 3 _;have hrow7:=zD.ofRow (zw.grown hts6'.2.2.1 hgrow);have htb7:=((htbx.kept hal).zE hrow7 (by omega)).zE hset7 (by omega);have hrb7:=((hrbx.kept hal).zE hrow7 (by omega)).zE hset7 (by omega);have hU7:zD zC w (w7.setCell ⟨w.heap.size+1+1,3,none⟩ (.slice (some ⟨g,0,none⟩) (us.length+1) cap')):=((hUwx.and hal).trans hrow7 (fun b hb e=>by omega)).trans hset7 (fun b hb e=>by omega);have hsz7:wp.heap.size<=(w7.setCell ⟨w.heap.size+1+1,3,none⟩ (.slice (some ⟨g,0,none⟩) (us.length+1) cap')).heap.size:=by have:=hset7.size;have:=hrow7.size;have:=hal.size;omega
             have hT7s:=hT7.zE hset7 (fun b e=>by omega);rw[(HS.out.2.1 rfl).1]at hT7s;refine⟨⟨j+1,_,_,by go_num,Nat.succ_le_of_lt HLT.out,(HS.out.2.1 rfl).2,hT7s,hou7.YR _,htb7,hrb7,hU7,hsz7⟩,?_⟩;have:=HLT.out;simp[intOf];omega
         ·obtain⟨us,hus⟩:∃ us,us=Tm.yu (Tm.zz l) b k 0 (ts.take j):=⟨_,rfl⟩;rw[<-hus]at hts;obtain⟨s0,s1,s2,s3⟩:=hrb.cells;obtain⟨g0,g1,g2,g3⟩:=hrb.zI;have qr:=hrb.lt;have hjl:j=ts.length:=by omega
          have hjn:¬(j:Int)<(ts.length:Int):=by omega
          obtain⟨a9,cap9,rfl,hcap9,hE9⟩:=hts.rep;obtain⟨len,hlen9⟩:∃ len,len=us.length:=⟨_,rfl⟩;rw[<-hlen9]at hout hcap9;obtain⟨b0,b1,b2,b3⟩:=hout.cells
          have hfin:Tm.yG (Tm.zz l) b (.mk k nm i ts)=true/\Tm.mv (Tm.zz l) b (.mk k nm i ts)=.mk k nm mi us:=by
            have h1:=HOK.out;rw[List.take_of_length_le (by omega)]at h1 hus;rw[Tm.xQ,Tm.y8,HMI.out.2,h1,<-HMI.out.1,<-hus];exact⟨rfl,rfl⟩
          have HL:=zF hlen9;have HJ:=zF (And.intro hjl hus);have HFI:=zF hfin;have hRr:zK (fun x=>x<=w.heap.size+1) wr (Tm.mk k nm mi us).zM [.int .i64 k,.string (B nm),.int .i64 mi,.slice a9 len cap9]:=zd.2 ⟨a9,cap9,by rw[HL.out],by rw[<-HL.out];exact hcap9,zH.weaken (fun b _ e=>by omega) _ _ _ _ hE9⟩;clear hlen9 hjl hts hus hfin;go_wp2_with fail
          obtain⟨w8,hw8⟩:∃ w8,w8=(((wr.setCell ⟨w.heap.size+1,0,none⟩ (.int .i64 k)).setCell ⟨w.heap.size+1,1,none⟩ (.string (B nm))).setCell ⟨w.heap.size+1,2,none⟩ (.int .i64 mi)).setCell ⟨w.heap.size+1,3,none⟩ (.slice a9 len cap9):=⟨_,rfl⟩;obtain⟨hG,hB9⟩:=zm (r:=.bool true) hrb (by omega) hU hRr hw8;try rw[<-show B []={ data:=#[] }from rfl]
          rw[<-hw8];clear hw8;obtain⟨e0,e1,e2,e3⟩:=hB9.cells;refine bodyPost_ret (v:=.tuple #[.agg #[.int .i64 k,.string (B nm),.int .i64 mi,.slice a9 len cap9],.bool true]) ?_ rfl ?_
          ·simp[results,Tryz.f106,go_sem,e0,e1,e2,e3]
          ·rw[Tm.zGW HFI.out.1,HFI.out.1,HFI.out.2];exact hG
theorem Q7(t:Tm)(hs:t.wt<=1000000)(l:List Int)(la:Option Addr)(lc:Nat)(hl:l.length<=1000000)(w:World)(cs:List Value)(h:zK zC w t.zM cs)(hE0:zH zC w 1 (l.map (yP.int .i64)) la 0):
    Calls Tryz.prog 44 #[.agg cs.toArray,.slice la l.length lc] w (Zw (t.Y1 l) (.bool (t.YL l)) w):=by
  have hwf:=Tm.YV t;obtain⟨k,n,i,ts,a,cap,ht,rfl,hcap,hE⟩:=zU h;obtain⟨w4,hw4⟩:∃ w4,w4=(w.alloc (.cells #[.int .i64 k,.string (B n),.int .i64 i,.slice a ts.length cap] 29)).alloc (.cells #[.int .i64 0,.string (B []),.int .i64 0,.slice none 0 0] 29):=⟨_,rfl⟩;have hU4:zD zC w w4:=by rw[hw4];exact((zD.refl zC w).alloc _).alloc _
  have ht4:zG w4 w.heap.size (.int .i64 k) (.string (B n)) (.int .i64 i) (.slice a ts.length cap) 29:=by rw[hw4];exact(zG.zJ rfl).kept ((zD.refl zC _).alloc _)
  have hr4:zG w4 (w.heap.size+1) (.int .i64 0) (.string (B [])) (.int .i64 0) (.slice none 0 0) 29:=by rw[hw4];exact zG.zJ (by simp)
  have h4:=h.on hU4;have hE4:=hE0.on hU4;have HW4:=zF hw4;have HT:=zF ht;obtain⟨x0,x1,x2,x3⟩:=ht4.cells;clear hw4 ht hE h hE0;have HWF:=xi t hs w4 _ h4;have hB:t.YL l=(t.wf == 0 && Tm.yG (Tm.zz l) 0 t):=rfl;have hT:t.Y1 l=if t.YL l then Tm.mv (Tm.zz l) 0 t else .mk 0 [] 0 []:=rfl
  have HB:=zF (And.intro hB hT);clear hB hT;go_enter Tryz.func44,Tryz.ntmps44
  go_wp2_with fail
  rw[<-show B []={ data:=#[] }from rfl,<-HW4.out];refine HWF.mono ?_;rintro e w5 ⟨rfl,hU5⟩;have ht5:=ht4.kept hU5;have hr5:=hr4.kept hU5;have h5:=h4.on hU5;have hE5:=hE4.on hU5;have hUw5:=hU4.and hU5;clear x0 x1 x2 x3 ht4 hr4 h4 hE4 hU4 hU5 HWF;obtain⟨x0,x1,x2,x3⟩:=ht5.cells;obtain⟨y0,y1,y2,y3⟩:=hr5.cells;obtain⟨z0,z1,z2,z3⟩:=hr5.zI;have q0:=hr5.lt;obtain⟨wf,hwf0⟩:∃ wf,wf=t.wf:=⟨_,rfl⟩;rw[<-hwf0]at hwf HB ⊢;clear hwf0;by_cases h0:wf=0
  case neg=>
    have hE:t.YL l=false:=by rw[HB.out.1];simp[h0]
    have hT:t.Y1 l=.mk 0 [] 0 []:=by rw[HB.out.2,hE];rfl
    have HEE:=zF (And.intro hE hT);have hwn:(wf !=0)=true:=by simp[h0]
    clear hE hT hwf h0;go_wp2_with fail
    obtain⟨w8,hw8⟩:∃ w8,w8=(((w5.setCell ⟨w.heap.size+1,0,none⟩ (.int .i64 0)).setCell ⟨w.heap.size+1,1,none⟩ (.string (B []))).setCell ⟨w.heap.size+1,2,none⟩ (.int .i64 0)).setCell ⟨w.heap.size+1,3,none⟩ (.slice none 0 0):=⟨_,rfl⟩;obtain⟨hG,hB9⟩:=zm (r:=.bool false) hr5 (by omega) hUw5 (zV (k:=0) (n:=[]) (i:=0)) hw8;try rw[<-show B []={ data:=#[] }from rfl]
    rw[<-hw8];clear hw8;obtain⟨e0,e1,e2,e3⟩:=hB9.cells;refine bodyPost_ret (v:=.tuple #[.agg #[.int .i64 0,.string (B []),.int .i64 0,.slice none 0 0],.bool false]) ?_ rfl ?_
    ·simp[results,Tryz.f44,go_sem,e0,e1,e2,e3]
    ·rw[HEE.out.1,HEE.out.2];exact hG
  case pos=>
    subst h0;obtain⟨hok,hsz,_⟩:=hwf rfl;have HM2:=zCs l la lc hl t (by omega) hok 0 w5 [.int .i64 k,.string (B n),.int .i64 i,.slice a ts.length cap] (by omega) (by omega) h5 hE5;clear hwf hok hsz hE5;go_wp2_with fail
    refine HM2.mono ?_;rintro e w6 ⟨k6,i6,n6,a6,l6,c6,rfl,hR6,hU6⟩;have hr6:=hr5.kept hU6;have hUw6:=hUw5.and hU6;have hR7:=zK.weaken (O':=fun x=>x<=w.heap.size+1) (fun b _ e=>by omega) _ _ hR6;clear y0 y1 y2 y3 z0 z1 z2 z3 HM2;obtain⟨y0,y1,y2,y3⟩:=hr6.cells;obtain⟨z0,z1,z2,z3⟩:=hr6.zI;have q6:=hr6.lt;have hE:t.YL l=t.yG (Tm.zz l) 0:=by rw[HB.out.1];simp
    have hT:t.Y1 l=t.mvz (Tm.zz l) 0:=by rw[HB.out.2,hE];rfl
    have HEE:=zF (And.intro hE hT);clear hE hT;generalize t.yG (Tm.zz l) 0=ok at *
    generalize t.mvz (Tm.zz l) 0=u at *
    go_wp2_with fail
    obtain⟨w8,hw8⟩:∃ w8,w8=(((w6.setCell ⟨w.heap.size+1,0,none⟩ (.int .i64 k6)).setCell ⟨w.heap.size+1,1,none⟩ (.string (B n6))).setCell ⟨w.heap.size+1,2,none⟩ (.int .i64 i6)).setCell ⟨w.heap.size+1,3,none⟩ (.slice a6 l6 c6):=⟨_,rfl⟩;obtain⟨hG,hB9⟩:=zm (r:=.bool ok) hr6 (by omega) hUw6 hR7 hw8;try rw[<-show B []={ data:=#[] }from rfl]
    rw[<-hw8];clear hw8;obtain⟨e0,e1,e2,e3⟩:=hB9.cells;refine bodyPost_ret (v:=.tuple #[.agg #[.int .i64 k6,.string (B n6),.int .i64 i6,.slice a6 l6 c6],.bool ok]) ?_ rfl ?_
    ·simp[results,Tryz.f44,go_sem,e0,e1,e2,e3]
    ·rw[HEE.out.1,HEE.out.2];exact hG
end Go.Proofs.YthgmimncdjhgnaaGreatDoor
