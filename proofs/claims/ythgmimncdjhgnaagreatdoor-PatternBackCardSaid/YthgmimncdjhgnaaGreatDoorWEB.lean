/- The checks ahead of a substitution: XB, notObject; the reference's Formed, Simples, objects. -/
import Derived.Test.YthgmimncdjhgnaaGreatDoorWCC
import Derived.Test.YthgmimncdjhgnaaGreatDoorWCH
import Derived.Test.YthgmimncdjhgnaaGreatDoorWCL
import Derived.Test.YthgmimncdjhgnaaGreatDoorWDB
set_option maxRecDepth 100000
set_option maxHeartbeats 8000000
namespace Go.LF
def yS{α:Type}(f:α->Int):List α->Int
  | []=>0
  |x :: xs=>if f x≠0 then f x else yS f xs
theorem qc{α:Type}(f:α->Int)(l:List α)(j:Nat)(h:j<l.length):yS f (l.drop j)=if f l[j]≠0 then f l[j]else yS f (l.drop (j+1)):=by
  rw[List.drop_eq_getElem_cons h,yS]
end Go.LF
namespace Go.Proofs.YthgmimncdjhgnaaGreatDoor
open Go.RowKit Go.LF
theorem zAA(t:Tm)(hs:t.wt<=1000000)(w:World)(cs:List Value)(h:zK zC w t.zM cs):
    Calls Tryz.prog 193 #[.agg cs.toArray] w fun e w'=>e=.returned (.bool (!(t.isObj && t.small)))/\zD zC w w':=by
  obtain⟨k,n,i,ts,a,cap,_,rfl,_,_⟩:=zU h;obtain⟨w1,hw1⟩:∃ w1,w1=w.alloc (.cells #[.int .i64 k,.string (B n),.int .i64 i,.slice a ts.length cap] 29):=⟨_,rfl⟩;have hU1:zD zC w w1:=by rw[hw1];exact(zD.refl zC w).alloc _
  have hB1:zG w1 w.heap.size (.int .i64 k) (.string (B n)) (.int .i64 i) (.slice a ts.length cap) 29:=by rw[hw1];exact zG.zJ rfl
  have C:=YD t hs w1 _ (h.on hU1);have HW:=zF hw1;clear hw1 h;generalize (t.isObj && t.small)=b at *
  obtain⟨x0,x1,x2,x3⟩:=hB1.cells;go_enter Tryz.func193,Tryz.ntmps193
  go_wp2_with fail
  rw[<-HW.out];refine C.mono ?_;rintro e w2 ⟨rfl,hU2⟩;go_wp2_with fail
  go_ret
  exact⟨rfl,hU1.and hU2⟩
theorem zAg(ts:List Tm)(ss:List Sm)(hl:ts.length<=1000000)(hw:∀ t∈ts,t.wt<=1000000)(hl':ss.length<=1000000)(hw':∀ t∈ss,t.wt<=1000000)(w:World)(a:Option Addr)(cap:Nat)(sa:Option Addr)(sc:Nat)
    (hE:zH zC w 4 (ts.map Tm.zM) a 0) (hS:zH zC w 2 (ss.map Sm.zM) sa 0):
    Calls Tryz.prog 192 #[.slice a ts.length cap,.slice sa ss.length sc] w fun e w'=>e=.returned (.int .i64 (if yS Tm.wf ts≠0 then yS Tm.wf ts else yS Sm.wf ss))/\zD zC w w':=by
  obtain⟨r,hr⟩:∃ r,r=yS Tm.wf ts:=⟨_,rfl⟩;obtain⟨q,hq⟩:∃ q,q=yS Sm.wf ss:=⟨_,rfl⟩;rw[<-hr,<-hq];obtain⟨E,hE'⟩:∃ E,E=if r≠0 then r else q:=⟨_,rfl⟩
  rw[<-hE'];have HE:=zF hE';clear hE';have HR:=zF hr;have HQ:=zF hq;have HWT:=zF hw;have HWS:=zF hw';clear hr hq hw hw';go_enter Tryz.func192,Tryz.ntmps192
  go_wp2_with fail
  go_loopw [13] (fun v wr=>∃ j:Nat,v=.int .i64 j/\j<=ts.length/\r=yS Tm.wf (ts.drop j)/\zD zC w wr) (fun v _=>ts.length - (intOf v).toNat)
  case atStart=>exact⟨0,rfl,Nat.zero_le _,HR.out,zD.refl _ _⟩
  case round=>
    obtain⟨j,rfl,hj,hv,hU⟩:=hrel;have HV:=zF hv;clear hv;have j0:(0:Int)<=(j:Int):=by omega
    have jb:(j:Int)<=2000000:=by omega
    by_cases hlt:j<ts.length
    ·obtain⟨b,o,k1,n1,x1,s1,c1,rfl,hb,_,p0,p1,p2,p3,hRp⟩:=zk (hE.on hU) j hlt;have j1:(j:Int)<(ts.length:Int):=by omega
     have hal:=(zD.refl zC wr).alloc (.cells #[.int .i64 k1,.string (B n1),.int .i64 x1,.slice s1 ts[j].args.length c1] 29);have key:=zj _ (HWT.out _ (List.getElem_mem hlt)) _ _ (hRp.on hal);have hT:=qc Tm.wf ts j hlt;generalize ts[j].args.length=el at *
     generalize ts[j].wf=fb at *
     have HT:=zF (And.intro hT (And.intro hlt hal));clear hT hlt hRp hal;go_wp2_with fail
     refine key.mono ?_;rintro e w5 ⟨rfl,hU5⟩;have hU6:=(hU.and HT.out.2.2).and hU5;by_cases hfb:fb=0
     ·subst hfb;go_wp2_with fail
      go_roundw
      case rel=>exact⟨j+1,by go_num,Nat.succ_le_of_lt HT.out.2.1,by rw[HV.out,HT.out.1];rfl,hU6⟩
      case measure=>(have:=HT.out.2.1;simp[intOf];omega)
     ·have hfb':(fb !=0)=true:=by simpa using hfb
      go_wp2_with fail
      go_ret
      have hrf:r=fb:=by rw[HV.out,HT.out.1,if_pos hfb]
      exact⟨zh (by rw[HE.out,hrf,if_pos hfb]),hU6⟩
    ·have hjn:¬(j:Int)<(ts.length:Int):=by omega
     have hdn:ts.drop j=[]:=List.drop_eq_nil_of_le (by omega);have hr0:r=0:=by rw[HV.out,hdn,yS]
     have HR0:=zF hr0;clear hdn hr0;go_wp2_with fail
     obtain⟨w1,hw1⟩:∃ w1,w1=wr:=⟨_,rfl⟩;rw[<-hw1]at hU;go_loopw [25] (fun v wr=>∃ j:Nat,v=.int .i64 j/\j<=ss.length/\q=yS Sm.wf (ss.drop j)/\zD zC w wr) (fun v _=>ss.length - (intOf v).toNat)
     case atStart=>exact⟨0,rfl,Nat.zero_le _,HQ.out,by rw[<-hw1];exact hU⟩
     case round=>
       clear HV hlt hjn hj jb j0 hU hw1;obtain⟨j,rfl,hj,hv,hU⟩:=hrel;have HV:=zF hv;clear hv;have j0:(0:Int)<=(j:Int):=by omega
       have jb:(j:Int)<=2000000:=by omega
       by_cases hlt:j<ss.length
       ·obtain⟨b,o,n1,s1,c1,rfl,hb,_,p0,p1,hRp⟩:=XR (hS.on hU) j hlt;have j1:(j:Int)<(ss.length:Int):=by omega
        have hal:=(zD.refl zC wr).alloc (.cells #[.string (B n1),.slice s1 ss[j].args.length c1] 115);have key:=zF2 _ (HWS.out _ (List.getElem_mem hlt)) _ _ (hRp.on hal);have hT:=qc Sm.wf ss j hlt;generalize ss[j].args.length=el at *
        generalize ss[j].wf=fb at *
        have HT:=zF (And.intro hT (And.intro hlt hal));clear hT hlt hRp hal;go_wp2_with fail
        refine key.mono ?_;rintro e w5 ⟨rfl,hU5⟩;have hU6:=(hU.and HT.out.2.2).and hU5;by_cases hfb:fb=0
        ·subst hfb;go_wp2_with fail
         go_roundw
         case rel=>exact⟨j+1,by go_num,Nat.succ_le_of_lt HT.out.2.1,by rw[HV.out,HT.out.1];rfl,hU6⟩
         case measure=>(have:=HT.out.2.1;simp[intOf];omega)
        ·have hfb':(fb !=0)=true:=by simpa using hfb
         go_wp2_with fail
         go_ret
         exact⟨zh (by rw[HE.out,HR0.out,if_neg (by simp),HV.out,HT.out.1,if_pos hfb]),hU6⟩
       ·have hjn:¬(j:Int)<(ss.length:Int):=by omega
        have hdn:ss.drop j=[]:=List.drop_eq_nil_of_le (by omega);have HD:=zF hdn;clear hdn;go_wp2_with fail
        go_ret
        exact⟨zh (by rw[HE.out,HR0.out,if_neg (by simp),HV.out,HD.out,yS]),hU⟩
end Go.Proofs.YthgmimncdjhgnaaGreatDoor
