/- The checks ahead of a substitution: YC, notObject; the reference's Formed, Simples, objects. -/
import Derived.Test.YthgmimncdjhgnaaGreatDoorKCC
import Derived.Test.YthgmimncdjhgnaaGreatDoorKCH
import Derived.Test.YthgmimncdjhgnaaGreatDoorKCL
import Derived.Test.YthgmimncdjhgnaaGreatDoorKDB
set_option maxRecDepth 100000
set_option maxHeartbeats 8000000
namespace Go.LF
def zu{α:Type}(f:α->Int):List α->Int
  | []=>0
  |x :: xs=>if f x≠0 then f x else zu f xs
theorem Yy{α:Type}(f:α->Int)(l:List α)(j:Nat)(h:j<l.length):zu f (l.drop j)=if f l[j]≠0 then f l[j]else zu f (l.drop (j+1)):=by
  rw[List.drop_eq_getElem_cons h,zu]
end Go.LF
namespace Go.Proofs.YthgmimncdjhgnaaGreatDoor
open Go.RowKit Go.LF
theorem zBb(t:Tm)(hs:t.wt<=1000000)(w:World)(cs:List Value)(h:zM zC w t.zN cs):
    Calls Tryz.prog 193 #[.agg cs.toArray] w fun e w'=>e=.returned (.bool (!(t.isObj && t.small)))/\zD zC w w':=by
  obtain⟨k,n,i,ts,a,cap,_,rfl,_,_⟩:=zX h
  obtain⟨w1,hw1⟩:∃ w1,w1=w.alloc (.cells #[.int .i64 k,.string (B n),.int .i64 i,.slice a ts.length cap] 29):=⟨_,rfl⟩
  have hU1:zD zC w w1:=by rw[hw1];exact(zD.refl zC w).alloc _
  have hB1:zK w1 w.heap.size (.int .i64 k) (.string (B n)) (.int .i64 i) (.slice a ts.length cap) 29:=by rw[hw1];exact zK.zL rfl
  have C:=qO t hs w1 _ (h.on hU1)
  have HW:=zH hw1
  clear hw1 h
  generalize (t.isObj && t.small)=b at *
  obtain⟨x0,x1,x2,x3⟩:=hB1.cells
  go_enter Tryz.func193,Tryz.ntmps193
  go_wp2_with fail
  rw[<-HW.out]
  refine C.mono ?_
  rintro e w2 ⟨rfl,hU2⟩
  go_wp2_with fail
  go_ret
  exact⟨rfl,hU1.and hU2⟩
theorem zEp(ts:List Tm)(hl:ts.length<=1000000)(hw:∀ t∈ts,t.wt<=1000000)(w:World)(a:Option Addr)(cap:Nat)(hE:zG zC w 4 (ts.map Tm.zN) a 0):
    Calls Tryz.prog 75 #[.slice a ts.length cap] w fun e w'=>e=.returned (.int .i64 (zu Tm.wf ts))/\zD zC w w':=by
  obtain⟨r,hr⟩:∃ r,r=zu Tm.wf ts:=⟨_,rfl⟩
  rw[<-hr]
  have HR:=zH hr
  have HWT:=zH hw
  clear hr hw
  go_enter Tryz.func75,Tryz.ntmps75
  go_wp2_with fail
  go_loopw [3] (fun v wr=>∃ j:Nat,v=.int .i64 j/\j<=ts.length/\r=zu Tm.wf (ts.drop j)/\zD zC w wr) (fun v _=>ts.length - (intOf v).toNat)
  case atStart=>exact⟨0,rfl,Nat.zero_le _,HR.out,zD.refl _ _⟩
  case round=>
    obtain⟨j,rfl,hj,hv,hU⟩:=hrel
    have HV:=zH hv
    clear hv
    have j0:(0:Int)<=(j:Int):=by omega
    have jb:(j:Int)<=2000000:=by omega
    by_cases hlt:j<ts.length
    ·obtain⟨b,o,k1,n1,x1,s1,c1,rfl,hb,_,p0,p1,p2,p3,hRp⟩:=zd (hE.on hU) j hlt
     have j1:(j:Int)<(ts.length:Int):=by omega
     have key:=ya _ (HWT.out _ (List.getElem_mem hlt)) wr _ hRp
     have hT:=Yy Tm.wf ts j hlt
     generalize ts[j].args.length=el at *
     generalize ts[j].wf=fb at *
     have HT:=zH (And.intro hT hlt)
     clear hT hlt hRp
     go_wp2_with fail
     refine key.mono ?_
     rintro e w5 ⟨rfl,hU5⟩
     by_cases hfb:fb=0
     ·subst hfb
      go_wp2_with fail
      go_roundw
      case rel=>exact⟨j+1,by go_num,Nat.succ_le_of_lt HT.out.2,by rw[HV.out,HT.out.1];rfl,hU.and hU5⟩
      case measure=>(have:=HT.out.2;simp[intOf];omega)
     ·have hfb':(fb !=0)=true:=by simpa using hfb
      go_wp2_with fail
      go_ret
      exact⟨zb (by rw[HV.out,HT.out.1,if_pos hfb]),hU.and hU5⟩
    ·have hjn:¬(j:Int)<(ts.length:Int):=by omega
     have hdn:ts.drop j=[]:=List.drop_eq_nil_of_le (by omega)
     have HD:=zH hdn
     clear hdn
     go_wp2_with fail
     go_ret
     exact⟨zb (by rw[HV.out,HD.out,zu]),hU⟩
theorem zEB(ts:List Tm)(hl:ts.length<=1000000)(hw:∀ t∈ts,t.wt<=1000000)(w:World)(a:Option Addr)(cap:Nat)(hE:zG zC w 4 (ts.map Tm.zN) a 0):
    Calls Tryz.prog 171 #[.slice a ts.length cap] w fun e w'=>e=.returned (.int .i64 (if ts.any (fun t=>!(t.isObj && t.small))=true then 32 else 0))/\zD zC w w':=by
  have HWT:=zH hw
  clear hw
  obtain⟨r,hr⟩:∃ r:Int,r=if ts.any (fun t=>!(t.isObj && t.small))=true then 32 else 0:=⟨_,rfl⟩
  rw[<-hr]
  have HR:=zH hr
  clear hr
  go_enter Tryz.func171,Tryz.ntmps171
  go_wp2_with fail
  go_loopw [3] (fun v wr=>∃ j:Nat,v=.int .i64 j/\j<=ts.length/\(ts.take j).any (fun t=>!(t.isObj && t.small))=false/\zD zC w wr) (fun v _=>ts.length - (intOf v).toNat)
  case atStart=>exact⟨0,rfl,Nat.zero_le _,rfl,zD.refl _ _⟩
  case round=>
    obtain⟨j,rfl,hj,hA,hU⟩:=hrel
    have HA:=zH hA
    clear hA
    have j0:(0:Int)<=(j:Int):=by omega
    have jb:(j:Int)<=2000000:=by omega
    by_cases hlt:j<ts.length
    ·obtain⟨b,o,k1,n1,x1,s1,c1,rfl,hb,_,p0,p1,p2,p3,hRp⟩:=zd (hE.on hU) j hlt
     have j1:(j:Int)<(ts.length:Int):=by omega
     have key:=Ym _ (HWT.out _ (List.getElem_mem hlt)) wr _ hRp
     have hT:(ts.take (j+1)).any (fun t=>!(t.isObj && t.small))=((ts.take j).any (fun t=>!(t.isObj && t.small))|| !(ts[j].isObj && ts[j].small)):=by
       rw[List.take_succ_eq_append_getElem hlt];simp only[List.any_append,List.any_cons,List.any_nil,Bool.or_false]
     have hM:(!(ts[j].isObj && ts[j].small))=true->ts.any (fun t=>!(t.isObj && t.small))=true:=fun h=>List.any_eq_true.2 ⟨_,List.getElem_mem hlt,h⟩
     rw[HA.out]at hT
     generalize ts[j].args.length=el at *
     generalize (ts[j].isObj && ts[j].small)=fb at *
     have HT:=zH (And.intro hT (And.intro hM hlt))
     clear hT hM hlt hRp
     go_wp2_with fail
     refine key.mono ?_
     rintro e w5 ⟨rfl,hU5⟩
     cases fb
     ·go_wp2_with fail
      go_ret
      exact⟨zb (by rw[HR.out,if_pos (HT.out.2.1 rfl)]),hU.and hU5⟩
     ·go_wp2_with fail
      go_roundw
      case rel=>exact⟨j+1,by go_num,Nat.succ_le_of_lt HT.out.2.2,by rw[HT.out.1];rfl,hU.and hU5⟩
      case measure=>(have:=HT.out.2.2;simp[intOf];omega)
    ·have hjn:¬(j:Int)<(ts.length:Int):=by omega
     have hdn:ts.take j=ts:=List.take_of_length_le (by omega)
     have HA':=HA.out
     rw[hdn]at HA'
     have HD:=zH HA'
     clear hdn HA HA'
     go_wp2_with fail
     go_ret
     exact⟨zb (by rw[HR.out,if_neg (by rw[HD.out];simp)]),hU⟩
theorem zCV(ts:List Tm)(ss:List Sm)(hl:ts.length<=1000000)(hw:∀ t∈ts,t.wt<=1000000)(hl':ss.length<=1000000)(hw':∀ t∈ss,t.wt<=1000000)(w:World)(a:Option Addr)(cap:Nat)(sa:Option Addr)(sc:Nat)
    (hE:zG zC w 4 (ts.map Tm.zN) a 0) (hS:zG zC w 2 (ss.map Sm.zN) sa 0):
    Calls Tryz.prog 192 #[.slice a ts.length cap,.slice sa ss.length sc] w fun e w'=>e=.returned (.int .i64 (if zu Tm.wf ts≠0 then zu Tm.wf ts else zu Sm.wf ss))/\zD zC w w':=by
  obtain⟨r,hr⟩:∃ r,r=zu Tm.wf ts:=⟨_,rfl⟩
  obtain⟨q,hq⟩:∃ q,q=zu Sm.wf ss:=⟨_,rfl⟩
  rw[<-hr,<-hq]
  obtain⟨E,hE'⟩:∃ E,E=if r≠0 then r else q:=⟨_,rfl⟩
  rw[<-hE']
  have HE:=zH hE'
  clear hE'
  have HR:=zH hr
  have HQ:=zH hq
  have HWT:=zH hw
  have HWS:=zH hw'
  clear hr hq hw hw'
  go_enter Tryz.func192,Tryz.ntmps192
  go_wp2_with fail
  go_loopw [13] (fun v wr=>∃ j:Nat,v=.int .i64 j/\j<=ts.length/\r=zu Tm.wf (ts.drop j)/\zD zC w wr) (fun v _=>ts.length - (intOf v).toNat)
  case atStart=>exact⟨0,rfl,Nat.zero_le _,HR.out,zD.refl _ _⟩
  case round=>
    obtain⟨j,rfl,hj,hv,hU⟩:=hrel
    have HV:=zH hv
    clear hv
    have j0:(0:Int)<=(j:Int):=by omega
    have jb:(j:Int)<=2000000:=by omega
    by_cases hlt:j<ts.length
    ·obtain⟨b,o,k1,n1,x1,s1,c1,rfl,hb,_,p0,p1,p2,p3,hRp⟩:=zd (hE.on hU) j hlt
     have j1:(j:Int)<(ts.length:Int):=by omega
     have hal:=(zD.refl zC wr).alloc (.cells #[.int .i64 k1,.string (B n1),.int .i64 x1,.slice s1 ts[j].args.length c1] 29)
     have key:=yX _ (HWT.out _ (List.getElem_mem hlt)) _ _ (hRp.on hal)
     have hT:=Yy Tm.wf ts j hlt
     generalize ts[j].args.length=el at *
     generalize ts[j].wf=fb at *
     have HT:=zH (And.intro hT (And.intro hlt hal))
     clear hT hlt hRp hal
     go_wp2_with fail
     refine key.mono ?_
     rintro e w5 ⟨rfl,hU5⟩
     have hU6:=(hU.and HT.out.2.2).and hU5
     by_cases hfb:fb=0
     ·subst hfb
      go_wp2_with fail
      go_roundw
      case rel=>exact⟨j+1,by go_num,Nat.succ_le_of_lt HT.out.2.1,by rw[HV.out,HT.out.1];rfl,hU6⟩
      case measure=>(have:=HT.out.2.1;simp[intOf];omega)
     ·have hfb':(fb !=0)=true:=by simpa using hfb
      go_wp2_with fail
      go_ret
      have hrf:r=fb:=by rw[HV.out,HT.out.1,if_pos hfb]
      exact⟨zb (by rw[HE.out,hrf,if_pos hfb]),hU6⟩
    ·have hjn:¬(j:Int)<(ts.length:Int):=by omega
     have hdn:ts.drop j=[]:=List.drop_eq_nil_of_le (by omega)
     have hr0:r=0:=by rw[HV.out,hdn,zu]
     have HR0:=zH hr0
     clear hdn hr0
     go_wp2_with fail
     obtain⟨w1,hw1⟩:∃ w1,w1=wr:=⟨_,rfl⟩
     rw[<-hw1]at hU
     go_loopw [25] (fun v wr=>∃ j:Nat,v=.int .i64 j/\j<=ss.length/\q=zu Sm.wf (ss.drop j)/\zD zC w wr) (fun v _=>ss.length - (intOf v).toNat)
     case atStart=>exact⟨0,rfl,Nat.zero_le _,HQ.out,by rw[<-hw1];exact hU⟩
     case round=>
       clear HV hlt hjn hj jb j0 hU hw1
       obtain⟨j,rfl,hj,hv,hU⟩:=hrel
       have HV:=zH hv
       clear hv
       have j0:(0:Int)<=(j:Int):=by omega
       have jb:(j:Int)<=2000000:=by omega
       by_cases hlt:j<ss.length
       ·obtain⟨b,o,n1,s1,c1,rfl,hb,_,p0,p1,hRp⟩:=Zz (hS.on hU) j hlt
        have j1:(j:Int)<(ss.length:Int):=by omega
        have hal:=(zD.refl zC wr).alloc (.cells #[.string (B n1),.slice s1 ss[j].args.length c1] 115)
        have key:=zHg _ (HWS.out _ (List.getElem_mem hlt)) _ _ (hRp.on hal)
        have hT:=Yy Sm.wf ss j hlt
        generalize ss[j].args.length=el at *
        generalize ss[j].wf=fb at *
        have HT:=zH (And.intro hT (And.intro hlt hal))
        clear hT hlt hRp hal
        go_wp2_with fail
        refine key.mono ?_
        rintro e w5 ⟨rfl,hU5⟩
        have hU6:=(hU.and HT.out.2.2).and hU5
        by_cases hfb:fb=0
        ·subst hfb
         go_wp2_with fail
         go_roundw
         case rel=>exact⟨j+1,by go_num,Nat.succ_le_of_lt HT.out.2.1,by rw[HV.out,HT.out.1];rfl,hU6⟩
         case measure=>(have:=HT.out.2.1;simp[intOf];omega)
        ·have hfb':(fb !=0)=true:=by simpa using hfb
         go_wp2_with fail
         go_ret
         exact⟨zb (by rw[HE.out,HR0.out,if_neg (by simp),HV.out,HT.out.1,if_pos hfb]),hU6⟩
       ·have hjn:¬(j:Int)<(ss.length:Int):=by omega
        have hdn:ss.drop j=[]:=List.drop_eq_nil_of_le (by omega)
        have HD:=zH hdn
        clear hdn
        go_wp2_with fail
        go_ret
        exact⟨zb (by rw[HE.out,HR0.out,if_neg (by simp),HV.out,HD.out,zu]),hU⟩
end Go.Proofs.YthgmimncdjhgnaaGreatDoor
