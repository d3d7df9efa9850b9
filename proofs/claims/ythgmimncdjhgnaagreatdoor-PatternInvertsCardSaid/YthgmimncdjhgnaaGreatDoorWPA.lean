/- pattern.Variables, and the reference's. -/
import Derived.Test.YthgmimncdjhgnaaGreatDoorWCF
import Derived.Test.YthgmimncdjhgnaaGreatDoorWCK
import Derived.Test.YthgmimncdjhgnaaGreatDoorWCL
import Derived.Test.YthgmimncdjhgnaaGreatDoorWCN
import Derived.Test.YthgmimncdjhgnaaGreatDoorWFA
import Derived.Deep.CutRange
import Derived.Deep.RegionHeld3
import Derived.Deep.RegionLaw
set_option maxRecDepth 100000
set_option maxHeartbeats 8000000
namespace Go.LF
open Tm Go.Proofs.YthgmimncdjhgnaaGreatDoor
def pvs(seen:List Int):List Tm->Option (List Int)
  | []=>some seen
  |t :: ts=>match t.vrw with
   |none=>none
   |some v=>if seen.contains v=true then none else pvs (seen++[v]) ts
def zHu(seen:List Int)(ts:List Tm):Option Int->Option (List Int)
  |none=>none
  |some v=>if seen.contains v=true then none else pvs (seen++[v]) ts
theorem zCP(seen:List Int)(ts:List Tm)(m:Nat)(h:m<ts.length):pvs seen (ts.drop m)=zHu seen (ts.drop (m+1)) ts[m].vrw:=by
  rw[List.drop_eq_getElem_cons h,pvs];cases ts[m].vrw<;>rfl
end Go.LF
namespace Go.Proofs.YthgmimncdjhgnaaGreatDoor
open Go.RowKit Go.LF
theorem X7{O:Nat->Prop}{w:World}{wd:Nat}{ds:List yP}{a:Option Addr}{j:Nat}(h:zH O w wd ds a j):zH zC w wd ds a j:=zH.weaken (fun _ _ x=>x.elim) _ _ _ _ h
def QA(r:Option (List Int))(w:World)(e:Ending)(w':World):Prop:=
  ∃(a:Option Addr)(cap:Nat),e=.returned (.tuple #[.slice a (r.getD []).length cap,.bool r.isSome])/\zH zC w' 1 ((r.getD []).map (yP.int .i64)) a 0/\zD zC w w'
theorem zBp(ks:List Int)(n:Int)(hlen:ks.length<=1000000)(w:World)(a:Option Addr)(cap:Nat)(hE:zH zC w 1 (ks.map (yP.int .i64)) a 0):
    Calls Tryz.prog 147 #[.slice a ks.length cap,.int .i64 n] w fun e w'=>Found (ks.any (n == ·)) e/\zD zC w w':=by
  go_enter Tryz.func147,Tryz.ntmps147
  go_wp2_with fail
  go_loopw [8] (fun v wr=>∃ j:Nat,j<=ks.length/\v=.int .i64 j/\(ks.take j).any (n == ·)=false/\zD zC w wr)
    (fun v _=>ks.length - (intOf v).toNat)
  case atStart=>exact⟨0,Nat.zero_le _,rfl,rfl,zD.refl _ _⟩
  case round=>
    obtain⟨j,hj,rfl,hA,hU⟩:=hrel;have HA:=zF hA;clear hA;by_cases hlt:j<ks.length
    ·obtain⟨b,o,rfl,hb,_,hc⟩:=yJ (hE.on hU) j hlt
     have hT:(ks.take (j+1)).any (n == ·)=((ks.take j).any (n == ·)|| (n == ks[j])):=by
       rw[List.take_succ_eq_append_getElem hlt];simp only[List.any_append,List.any_cons,List.any_nil,Bool.or_false]
     have hM:(n == ks[j])=true->ks.any (n == ·)=true:=fun h=>List.any_eq_true.2 ⟨_,List.getElem_mem hlt,h⟩
     rw[HA.out]at hT;generalize ks[j]=x at *
     have HT:=zF hT;have HM:=zF hM;clear hT hM;obtain⟨q,hq⟩:∃ q,(n == x)=q:=⟨_,rfl⟩;cases q
     all_goals
       have HQ:=zF hq;go_wp2_with fail
     ·go_roundw
      case rel=>exact⟨j+1,by omega,by go_num,by rw[HT.out,HQ.out];rfl,hU⟩
      case measure=>simp[intOf];omega
     ·go_ret
      exact⟨⟨j,rfl,by rw[HM.out HQ.out];simp⟩,hU⟩
    ·have hj':ks.take j=ks:=List.take_of_length_le (by omega);have HA':=HA.out;rw[hj']at HA';clear HA hj';have HA:=zF HA';clear HA';go_wp2
     go_ret
     exact⟨⟨-1,rfl,by rw[HA.out];rfl⟩,hU⟩
theorem QJ(ks:List Int)(n:Int)(hlen:ks.length<=1000000)(w:World)(a:Option Addr)(cap:Nat)(hE:zH zC w 1 (ks.map (yP.int .i64)) a 0):
    Calls Tryz.prog 92 #[.slice a ks.length cap,.int .i64 n] w fun e w'=>e=.returned (.bool (ks.contains n))/\zD zC w w':=by
  have H1:=zBp ks n hlen w a cap hE;rw[List.contains_eq_any_beq];go_enter Tryz.func92,Tryz.ntmps92
  go_wp2_with fail
  refine H1.mono ?_;rintro e w1 ⟨⟨m,rfl,hm⟩,hU⟩;have HM:=zF hm;clear hm H1;go_wp2
  go_ret
  exact⟨zP HM.out,hU⟩
theorem ZX(ts:List Tm)(hlen:ts.length<=100000)(hwt:∀ t∈ts,t.wt<=100000)(ta:Option Addr)(tc:Nat)(w:World)(hA:zH zC w 4 (ts.map Tm.zM) ta 0):
    Calls Tryz.prog 38 #[.slice ta ts.length tc] w (QA (pvs [] ts) w):=by
  obtain⟨r,hr⟩:∃ r,r=pvs [] ts:=⟨_,rfl⟩;rw[<-hr];have HR:=zF hr;obtain⟨H,hH⟩:∃ H,H=w.heap.size:=⟨_,rfl⟩;have HH:=zF hH;clear hr hH;go_enter Tryz.func38,Tryz.ntmps38
  go_wp2_with fail
  go_loopw [4,11] (fun v4 v11 wr=>∃(m:Nat)(seen:List Int),v11=.int .i64 m/\m<=ts.length/\seen.length=m/\r=pvs seen (ts.drop m)/\yx H wr v4 seen/\zD zC w wr) (fun _ v11 _=>ts.length - (intOf v11).toNat)
  case atStart=>exact⟨0,[],rfl,Nat.zero_le _,rfl,HR.out,World.ownsRow_nil _ _ _ _,zD.refl _ _⟩
  case round=>
    obtain⟨m,seen,rfl,hm,hsl,hv,hI,hU⟩:=hrel;have HV:=zF hv;have HSL:=zF hsl;clear hv hsl;have hm0:(0:Int)<=(m:Int):=by omega
    have hm1:(m:Int)<=200000:=by omega
    by_cases hlt:m<ts.length
    ·obtain⟨gb,go',k1,n1,x1,s1,c1,rfl,hgl,hgO,g0,g1,g2,g3,hR1⟩:=zk (hA.on hU) m hlt;have hlt':(m:Int)<(ts.length:Int):=by omega
     have HVA:=fun w'(h:zD zC wr w')=>zA3 (ts[m]'hlt) (hwt _ (List.getElem_mem hlt)) w' _ (hR1.on h)
     have hdr:=zCP seen ts m hlt;generalize ts[m].args.length=al at *
     obtain⟨rv,hrv⟩:∃ rv,rv=(ts[m]'hlt).vrw:=⟨_,rfl⟩;rw[<-hrv]at HVA hdr;have HD:=zF (And.intro hdr hlt);clear hdr hrv;obtain⟨va,vcap,hva,_,_⟩:=yK hI.rep;subst hva;have hsl6:seen.length<=200000:=by have:=HSL.out;omega
     have hal:=(zD.refl zC wr).alloc (.cells #[.int .i64 k1,.string (B n1),.int .i64 x1,.slice s1 al c1] 29);have HVA2:=HVA _ hal;clear HVA hR1 hlt;go_wp2_with fail
     (with_reducible refine HVA2.mono ?_);rintro e w5 ⟨rfl,hU5'⟩;have hU5:=hal.and hU5';have hI5:yx H w5 (.slice va seen.length vcap) seen:=World.ownsRow.kept hI (yO hU5) (YQ _);have hUw5:=hU.and hU5;rcases rv with _ |v
     ·rw[Yu];go_wp2_with fail
      refine bodyPost_ret (v:=.tuple #[.slice none 0 0,.bool false]) (by simp[results,Tryz.f38,go_sem]) rfl ?_;have hrn:r=none:=by rw[HV.out,HD.out.1];rfl
      rw[hrn];exact⟨none,0,rfl,by simp only[Option.getD_none,List.map_nil,zH],hUw5⟩
     ·rw[Yp];have hd:=HD.out.1;rw[zHu]at hd;obtain⟨_,_,e9,_,hE9⟩:=yK hI5.rep;cases e9
      have HI:=QJ seen v (by omega) w5 va vcap (X7 hE9);obtain⟨cb,hcb⟩:∃ cb,cb=seen.contains v:=⟨_,rfl⟩;rw[<-hcb]at HI hd;obtain⟨i0,hi,hi0,hi1,hi2⟩:=info_parts Zq;have HDD:=zF hd;clear hd hcb hE9;cases cb
      ·go_wp2_with fail
       (with_reducible refine HI.mono ?_);rintro e w6 ⟨rfl,hU6⟩;have hI6:yx H w6 (.slice va seen.length vcap) seen:=World.ownsRow.kept hI5 (yO hU6) (YQ _);have hUw6:=hUw5.and hU6;have hz6:H<=w6.heap.size:=by have:=hUw6.size;have:=HH.out;omega
       clear HI hI hI5;go_wp2_with (at_builtin;refine wpList_append_own _ rfl _ _ 22 rfl H 3 i0 (.int .i64 0) 1 8 (by kernel_rfl) hi hi0 hi1 hi2 rfl (by decide) _ _ _ rfl (World.ownsRow.alloc hI6 _) ⟨w6.heap.size,0,none⟩ 1 1 [.int .i64 v] rfl rfl (cell_one_new _ _ _) (by simp[Value.oneCell']) (by simp only[maxLen];omega) (by omega) (by simp;omega) ?_;intro v' w0 hown' hgrow _;obtain⟨g',cap',rfl⟩:=ownsRow_succ hown')
       have hI7:yx H w0 (.slice (some ⟨g',0,none⟩) (seen.length+1) cap') (seen++[v]):=by unfold yx;simpa using hown'
       have hU7:zD zC w w0:=zD.row (hUw6.alloc _) (zw.grown (World.ownsRow.alloc hI6 _) hgrow) (by have:=HH.out;omega);clear hown' hgrow hI6;go_roundw
       case rel=>exact⟨m+1,seen++[v],by go_num,Nat.succ_le_of_lt HD.out.2,by simp[HSL.out],by rw[HV.out,HDD.out];rfl,hI7,hU7⟩
       case measure=>(have:=HD.out.2;simp[intOf];omega)
      ·go_wp2_with fail
       (with_reducible refine HI.mono ?_);rintro e w6 ⟨rfl,hU6⟩;go_wp2_with fail
       refine bodyPost_ret (v:=.tuple #[.slice none 0 0,.bool false]) (by simp[results,Tryz.f38,go_sem]) rfl ?_;have hrn:r=none:=by rw[HV.out,HDD.out];rfl
       rw[hrn];exact⟨none,0,rfl,by simp only[Option.getD_none,List.map_nil,zH],hUw5.and hU6⟩
    ·have hjn:¬(m:Int)<(ts.length:Int):=by omega
     have hd:ts.drop m=[]:=List.drop_eq_nil_of_le (by omega);have hrs:r=some seen:=by rw[HV.out,hd];rfl
     obtain⟨va,vcap,hva,_,hEs⟩:=yK hI.rep;subst hva;have HD:=zF (And.intro hrs hEs);clear hd hrs hEs;go_wp2_with fail
     refine bodyPost_ret (v:=.tuple #[.slice va seen.length vcap,.bool true]) (by simp[results,Tryz.f38,go_sem]) rfl ?_;rw[HD.out.1];exact⟨va,vcap,rfl,X7 HD.out.2,hU⟩
theorem zB4(ts:List Tm)(hlen:ts.length<=100000)(hwt:∀ t∈ts,t.wt<=100000)(ta:Option Addr)(tc:Nat)(w:World)(hA:zH zC w 4 (ts.map Tm.zM) ta 0):
    Calls Tryz.prog 39 #[.slice ta ts.length tc] w (QA (pvs [] ts) w):=by
  obtain⟨r,hr⟩:∃ r,r=pvs [] ts:=⟨_,rfl⟩;rw[<-hr];have HR:=zF hr;obtain⟨H,hH⟩:∃ H,H=w.heap.size:=⟨_,rfl⟩;have HH:=zF hH;clear hr hH;go_enter Tryz.func39,Tryz.ntmps39
  go_wp2_with fail
  go_loopw [4,5] (fun v4 v5 wr=>∃(m:Nat)(seen:List Int),v5=.int .i64 m/\m<=ts.length/\seen.length=m/\r=pvs seen (ts.drop m)/\yx H wr v4 seen/\zD zC w wr) (fun _ v5 _=>ts.length - (intOf v5).toNat)
  case atStart=>exact⟨0,[],rfl,Nat.zero_le _,rfl,HR.out,World.ownsRow_nil _ _ _ _,zD.refl _ _⟩
  case round=>
    obtain⟨m,seen,rfl,hm,hsl,hv,hI,hU⟩:=hrel;have HV:=zF hv;have HSL:=zF hsl;clear hv hsl;have hm0:(0:Int)<=(m:Int):=by omega
    have hm1:(m:Int)<=200000:=by omega
    by_cases hlt:m<ts.length
    ·obtain⟨gb,go',k1,n1,x1,s1,c1,rfl,hgl,hgO,g0,g1,g2,g3,hR1⟩:=zk (hA.on hU) m hlt;have hlt':(m:Int)<(ts.length:Int):=by omega
     have HVA:=qg (ts[m]'hlt) (hwt _ (List.getElem_mem hlt)) wr _ hR1;have hdr:=zCP seen ts m hlt;generalize ts[m].args.length=al at *
     obtain⟨rv,hrv⟩:∃ rv,rv=(ts[m]'hlt).vrw:=⟨_,rfl⟩;rw[<-hrv]at HVA hdr;have HD:=zF (And.intro hdr hlt);clear hdr hrv hlt hR1;obtain⟨va,vcap,hva,_,_⟩:=yK hI.rep;subst hva;have hsl6:seen.length<=200000:=by have:=HSL.out;omega
     go_wp2_with fail
     (with_reducible refine HVA.mono ?_);rintro e w5 ⟨rfl,hU5⟩;have hI5:yx H w5 (.slice va seen.length vcap) seen:=World.ownsRow.kept hI (yO hU5) (YQ _);have hUw5:=hU.and hU5;rcases rv with _ |v
     ·rw[Yu];go_wp2_with fail
      refine bodyPost_ret (v:=.tuple #[.slice none 0 0,.bool false]) (by simp[results,Tryz.f39,go_sem]) rfl ?_;have hrn:r=none:=by rw[HV.out,HD.out.1];rfl
      rw[hrn];exact⟨none,0,rfl,by simp only[Option.getD_none,List.map_nil,zH],hUw5⟩
     ·rw[Yp];have hd:=HD.out.1;rw[zHu]at hd;have HI:=QW seen (by omega) v w5 _ hI5.rep;obtain⟨cb,hcb⟩:∃ cb,cb=seen.contains v:=⟨_,rfl⟩;rw[<-hcb]at HI hd;obtain⟨i0,hi,hi0,hi1,hi2⟩:=info_parts Zq;have HDD:=zF hd;clear hd hcb;cases cb
      ·go_wp2_with fail
       (with_reducible refine HI.mono ?_);rintro e w6 ⟨rfl,hU6⟩;have hI6:yx H w6 (.slice va seen.length vcap) seen:=World.ownsRow.kept hI5 (yO hU6) (YQ _);have hUw6:=hUw5.and hU6;have hz6:H<=w6.heap.size:=by have:=hUw6.size;have:=HH.out;omega
       clear HI hI hI5;go_wp2_with (at_builtin;refine wpList_append_own _ rfl _ _ 22 rfl H 3 i0 (.int .i64 0) 1 8 (by kernel_rfl) hi hi0 hi1 hi2 rfl (by decide) _ _ _ rfl (World.ownsRow.alloc hI6 _) ⟨w6.heap.size,0,none⟩ 1 1 [.int .i64 v] rfl rfl (cell_one_new _ _ _) (by simp[Value.oneCell']) (by simp only[maxLen];omega) (by omega) (by simp;omega) ?_;intro v' w0 hown' hgrow _;obtain⟨g',cap',rfl⟩:=ownsRow_succ hown')
       have hI7:yx H w0 (.slice (some ⟨g',0,none⟩) (seen.length+1) cap') (seen++[v]):=by unfold yx;simpa using hown'
       have hU7:zD zC w w0:=zD.row (hUw6.alloc _) (zw.grown (World.ownsRow.alloc hI6 _) hgrow) (by have:=HH.out;omega);clear hown' hgrow hI6;go_roundw
       case rel=>exact⟨m+1,seen++[v],by go_num,Nat.succ_le_of_lt HD.out.2,by simp[HSL.out],by rw[HV.out,HDD.out];rfl,hI7,hU7⟩
       case measure=>(have:=HD.out.2;simp[intOf];omega)
      ·go_wp2_with fail
       (with_reducible refine HI.mono ?_);rintro e w6 ⟨rfl,hU6⟩;go_wp2_with fail
       refine bodyPost_ret (v:=.tuple #[.slice none 0 0,.bool false]) (by simp[results,Tryz.f39,go_sem]) rfl ?_;have hrn:r=none:=by rw[HV.out,HDD.out];rfl
       rw[hrn];exact⟨none,0,rfl,by simp only[Option.getD_none,List.map_nil,zH],hUw5.and hU6⟩
    ·have hjn:¬(m:Int)<(ts.length:Int):=by omega
     have hd:ts.drop m=[]:=List.drop_eq_nil_of_le (by omega);have hrs:r=some seen:=by rw[HV.out,hd];rfl
     obtain⟨va,vcap,hva,_,hEs⟩:=yK hI.rep;subst hva;have HD:=zF (And.intro hrs hEs);clear hd hrs hEs;go_wp2_with fail
     refine bodyPost_ret (v:=.tuple #[.slice va seen.length vcap,.bool true]) (by simp[results,Tryz.f39,go_sem]) rfl ?_;rw[HD.out.1];exact⟨va,vcap,rfl,X7 HD.out.2,hU⟩
end Go.Proofs.YthgmimncdjhgnaaGreatDoor
namespace Go.LF
open Tm Go.Proofs.YthgmimncdjhgnaaGreatDoor
def dst(seen:List Int):List Int->Bool
  | []=>true
  |v :: vs=>if(decide (v<0)|| seen.contains v)=true then false else dst (seen++[v]) vs
theorem zBl(l:List Int)(m:Nat)(h:m<l.length):dst (l.take m) (l.drop m)=if(decide (l[m]<0)|| (l.take m).contains l[m])=true then false else dst (l.take (m+1)) (l.drop (m+1)):=by
  rw[List.drop_eq_getElem_cons h,dst,List.take_succ_eq_append_getElem h]
theorem XN(l:List Int)(x:Int):Go.Value.int .i64 x∈l.map (Go.Value.int .i64)↔x∈l:=by simp
def ZU:List Int->Int->Int
  | [],_=> -1
  |x :: xs,n=>if x=n then 0 else if ZU xs n<0 then -1 else ZU xs n+1
theorem ZO(l:List Int)(n:Int): -1<=ZU l n/\ZU l n<l.length:=by
  induction l with
  |nil=>simp[ZU]
  |cons x xs ih=>
   rw[ZU,List.length_cons];split
   ·omega
   ·split<;>omega
def zB1(l:List Int)(n:Int)(j:Nat):Int:=if ZU (l.drop j) n<0 then -1 else ZU (l.drop j) n+j
theorem zEf(l:List Int)(n:Int)(j:Nat)(h:j<l.length):zB1 l n j=if l[j]=n then(j:Int)else zB1 l n (j+1):=by
  unfold zB1;rw[List.drop_eq_getElem_cons h,ZU];have:=ZO (l.drop (j+1)) n;split
  ·simp
  ·split<;>split<;>omega
end Go.LF
namespace Go.Proofs.YthgmimncdjhgnaaGreatDoor
open Go.RowKit Go.LF
theorem Xt(l:List Int)(hl:l.length<=100000)(w:World)(a:Option Addr)(cap:Nat)(hE:zH zC w 1 (l.map (yP.int .i64)) a 0):
    Calls Tryz.prog 100 #[.slice a l.length cap] w fun e w'=>e=.returned (.bool (dst [] l))/\zD zC w w':=by
  obtain⟨r,hr⟩:∃ r,r=dst [] l:=⟨_,rfl⟩;rw[<-hr];have HR:=zF hr;have hmm:=@run_makeMap Tryz.prog;obtain⟨w1,hw1⟩:∃ w1,w1=w.alloc (.map #[] 0):=⟨_,rfl⟩;obtain⟨M,hM⟩:∃ M,M=w.heap.size:=⟨_,rfl⟩;have hS1:Seen w1 M []:=by rw[hw1,hM];exact Seen.made w
  have hU1:zD zC w w1:=by rw[hw1];exact(zD.refl zC w).alloc _
  have HW1:=zF hw1;have HM:=zF hM;obtain⟨ll,hll⟩:∃ q,q=l.length:=⟨_,rfl⟩;rw[<-hll]at hl;rw[<-hll];have HL:=zF hll;clear hr hw1 hM hll;go_enter Tryz.func100,Tryz.ntmps100
  go_wp2_with fail
  rw[<-HW1.out,<-HM.out];clear hmm;go_loopw [9] (fun v wr=>∃(m:Nat),v=.int .i64 (m:Int)/\m<=ll/\r=dst (l.take m) (l.drop m)/\Seen wr M ((l.take m).map (Value.int .i64))/\zD zC w wr) (fun v _=>ll - (intOf v).toNat)
  case atStart=>exact⟨0,rfl,Nat.zero_le _,HR.out,hS1,hU1⟩
  case round=>
    clear hS1 hU1;obtain⟨m,rfl,hm,hv,hS,hU⟩:=hrel;have HV:=zF hv;clear hv;have hm0:(0:Int)<=(m:Int):=by omega
    have hm1:(m:Int)<=200000:=by omega
    by_cases hlt:m<ll
    ·have hml:m<l.length:=by have:=HL.out;omega
     obtain⟨b,o,rfl,hb,_,hc⟩:=yJ (hE.on hU) m hml;have hlt':(m:Int)<(ll:Int):=by omega
     have hdr:=zBl l m hml;have hts:=List.take_succ_eq_append_getElem hml;generalize l[m]=x at *
     obtain⟨cb,hcb⟩:∃ cb,cb=(l.take m).contains x:=⟨_,rfl⟩;rw[<-hcb]at hdr;have HD:=zF (And.intro hdr (And.intro hts hlt));have HCB:=zF hcb;clear hdr hcb hts hlt hml;by_cases hx:x<0
     ·have hrf:r=false:=by rw[HV.out,HD.out.1,if_pos (by simp[hx])]
      have HF:=zF hrf;clear hrf;go_wp2_with fail
      go_ret
      exact⟨zP HF.out.symm,hU⟩
     ·cases cb
      ·have hlk:=hS.lookup (P:=Tryz.prog) (mt:=162) (kt:=3) (bt:=4) (key:=.int .i64 x) (by kernel_rfl) (by kernel_rfl) (x9 wr) (xY _) rfl false (by have:=HCB.out;rw[XN];simpa using this);obtain⟨W3,hup,hS3,g3,hz3⟩:=hS.store (P:=Tryz.prog) (mt:=162) (kt:=3) (bt:=4) (key:=.int .i64 x) (by kernel_rfl) (by kernel_rfl) (xY _) rfl (by have:=HCB.out;rw[XN];simpa using this);have hrf:r=dst (l.take (m+1)) (l.drop (m+1)):=by rw[HV.out,HD.out.1,if_neg (by simp[hx])]
       have HS3:=zF (And.intro hS3 (And.intro g3 hrf));clear hS3 g3 hrf;go_wp2_with fail
       go_roundw
       case rel=>exact⟨m+1,by go_num,Nat.succ_le_of_lt HD.out.2.2,HS3.out.2.2,by rw[HD.out.2.1,List.map_append];exact HS3.out.1,hU.trans (Zz HS3.out.2.1) (fun b hb e=>by have:=HM.out;omega)⟩
       case measure=>(have:=HD.out.2.2;simp[intOf];omega)
      ·have hlk:=hS.lookup (P:=Tryz.prog) (mt:=162) (kt:=3) (bt:=4) (key:=.int .i64 x) (by kernel_rfl) (by kernel_rfl) (x9 wr) (xY _) rfl true (by have:=HCB.out;rw[XN];simpa using this);have hrf:r=false:=by rw[HV.out,HD.out.1,if_pos (by simp)]
       have HF:=zF hrf;clear hrf;go_wp2_with fail
       go_ret
       exact⟨zP HF.out.symm,hU⟩
    ·have hjn:¬(m:Int)<(ll:Int):=by omega
     have hd:l.drop m=[]:=List.drop_eq_nil_of_le (by have:=HL.out;omega);have hrt:r=true:=by rw[HV.out,hd,dst]
     have HD:=zF hrt;clear hd hrt;go_wp2_with fail
     go_ret
     exact⟨zP HD.out.symm,hU⟩
theorem zET(l:List Int)(hl:l.length<=100000)(n:Int)(w:World)(a:Option Addr)(cap:Nat)(hE:zH zC w 1 (l.map (yP.int .i64)) a 0):
    Calls Tryz.prog 158 #[.slice a l.length cap,.int .i64 n] w fun e w'=>e=.returned (.int .i64 (ZU l n))/\w'=w:=by
  obtain⟨r,hr⟩:∃ r,r=ZU l n:=⟨_,rfl⟩;rw[<-hr];have hr0:r=zB1 l n 0:=by rw[hr];unfold zB1;have:=ZO l n;rw[List.drop_zero];split<;>omega
  have HR:=zF hr0;obtain⟨ll,hll⟩:∃ q,q=l.length:=⟨_,rfl⟩;rw[<-hll]at hl;rw[<-hll];have HL:=zF hll;clear hr hll hr0;go_enter Tryz.func158,Tryz.ntmps158
  go_wp2_with fail
  go_loopw [5] (fun v wr=>∃(m:Nat),v=.int .i64 (m:Int)/\m<=ll/\r=zB1 l n m/\wr=w) (fun v _=>ll - (intOf v).toNat)
  case atStart=>exact⟨0,rfl,Nat.zero_le _,HR.out,rfl⟩
  case round=>
    obtain⟨m,rfl,hm,hv,rfl⟩:=hrel;have HV:=zF hv;clear hv;have hm0:(0:Int)<=(m:Int):=by omega
    have hm1:(m:Int)<=200000:=by omega
    by_cases hlt:m<ll
    ·have hml:m<l.length:=by have:=HL.out;omega
     obtain⟨b,o,rfl,hb,_,hc⟩:=yJ hE m hml;have hlt':(m:Int)<(ll:Int):=by omega
     have hdr:=zEf l n m hml;generalize l[m]=x at *
     have HD:=zF (And.intro hdr hlt);clear hdr hml hlt;by_cases hx:x=n
     ·have hxb:(x == n)=true:=by simpa using hx
      have hrf:r=(m:Int):=by rw[HV.out,HD.out.1,if_pos hx]
      have HF:=zF hrf;clear hrf hx;go_wp2_with fail
      go_ret
      exact⟨zh HF.out.symm,rfl⟩
     ·have hxb:(x == n)=false:=by simpa using hx
      have hrf:r=zB1 l n (m+1):=by rw[HV.out,HD.out.1,if_neg hx]
      have HF:=zF hrf;clear hrf hx;go_wp2_with fail
      go_roundw
      case rel=>exact⟨m+1,by go_num,Nat.succ_le_of_lt HD.out.2,HF.out,by trivial⟩
      case measure=>(have:=HD.out.2;simp[intOf];omega)
    ·have hjn:¬(m:Int)<(ll:Int):=by omega
     have hd:l.drop m=[]:=List.drop_eq_nil_of_le (by have:=HL.out;omega);have hrt:r= -1:=by rw[HV.out];unfold zB1;rw[hd,ZU];rfl
     have HD:=zF hrt;clear hd hrt;go_wp2_with fail
     go_ret
     exact⟨zh HD.out.symm,rfl⟩
end Go.Proofs.YthgmimncdjhgnaaGreatDoor
namespace Go.LF
open Go.Proofs.YthgmimncdjhgnaaGreatDoor
theorem qT{O:Nat->Prop}{W:World}{wd:Nat}{a:Option Addr}:∀(ds:List yP)(n j:Nat),zH O W wd ds a j->zH O W wd (ds.take n) a j
  | [],n,j,_=>by rw[List.take_nil];simp only[zH]
  |d :: ds,0,j,_=>by rw[List.take_zero];simp only[zH]
  |d :: ds,n+1,j,h=>by
   rw[List.take_succ_cons];simp only[zH]at h ⊢;exact⟨h.1,qT ds n _ h.2⟩
theorem zDL{O:Nat->Prop}{W:World}{l:List Int}{a:Option Addr}{cap:Nat}(hc:l.length<=cap)(h:zH O W 1 (l.map (yP.int .i64)) a 0):zK O W (zDh l) [.slice a l.length cap]:=by
  simp only[zK];exact⟨a,cap,by simp,by simpa using hc,h⟩
end Go.LF
namespace Go.Proofs.YthgmimncdjhgnaaGreatDoor
section
open Go.RowKit Go.LF
theorem zBq(w:World)(n:Nat):zD zC w (w.drewN n):=⟨rfl,rfl,rfl,Nat.le_refl _,fun _ _ _=>rfl⟩
theorem qj(l:List Int)(hl:l.length<=100000)(w:World)(a:Option Addr)(cap:Nat)(hlc:l.length<=cap)(hE:zH zC w 1 (l.map (yP.int .i64)) a 0):
    Calls Tryz.prog 104 #[.slice a l.length cap] w fun e w'=>e=.returned (.bool (dst [] l))/\zD zC w w':=by
  obtain⟨r,hr⟩:∃ r,r=dst [] l:=⟨_,rfl⟩;rw[<-hr];have HR:=zF hr;obtain⟨ll,hll⟩:∃ q,q=l.length:=⟨_,rfl⟩;rw[<-hll]at hl hlc;rw[<-hll];have HL:=zF hll;clear hr hll;go_enter Tryz.func104,Tryz.ntmps104
  go_wp2_with fail
  go_loopw [3] (fun v wr=>∃(m:Nat),v=.int .i64 (m:Int)/\m<=ll/\r=dst (l.take m) (l.drop m)/\zD zC w wr) (fun v _=>ll - (intOf v).toNat)
  case atStart=>exact⟨0,rfl,Nat.zero_le _,HR.out,zD.refl _ _⟩
  case round=>
    obtain⟨m,rfl,hm,hv,hU⟩:=hrel;have HV:=zF hv;clear hv;have hm0:(0:Int)<=(m:Int):=by omega
    have hm1:(m:Int)<=200000:=by omega
    by_cases hlt:m<ll
    ·have hml:m<l.length:=by have:=HL.out;omega
     have hd:zD zC wr wr.drew:=(zD.refl zC _).drew;have htl:(l.take m).length=m:=by rw[List.length_take];omega
     have hrow:=zDL (cap:=cap) (by omega) (by have h:=qT _ m _ (hE.on (hU.and hd));rw[<-List.map_take]at h;exact h:zH zC wr.drew 1 ((l.take m).map (yP.int .i64)) a 0);rw[htl]at hrow;obtain⟨b,o,rfl,hb,_,hc⟩:=yJ (hE.on hU) m hml;have hlt':(m:Int)<(ll:Int):=by omega
     have hmc:(m:Int)<=(cap:Int):=by omega
     have hdr:=zBl l m hml;have HI:=QW (l.take m) (by omega) l[m] wr.drew _ hrow;generalize l[m]=x at *
     obtain⟨cb,hcb⟩:∃ cb,cb=(l.take m).contains x:=⟨_,rfl⟩;rw[<-hcb]at hdr HI;have HD:=zF (And.intro hdr hlt);have c1:=hd.cell hc (fun x=>x);clear hdr hcb hlt hml hrow htl;by_cases hx:x<0
     ·have hrf:r=false:=by rw[HV.out,HD.out.1,if_pos (by simp[hx])]
      have HF:=zF hrf;clear hrf HI;have hxb:decide (x<0)=true:=by simpa using hx
      go_upto_region 4 with fail
      go_quiet (fail)
      all_goals
        go_wp2_with fail
        go_ret
        exact⟨zP HF.out.symm,hU.and (zBq _ _)⟩
     ·have hxb:decide (x<0)=false:=by simpa using hx
      go_wp2_with fail
      go_region_law ((rw[if_pos (by first |rfl |(simp[hxb];rfl))]);go_simp;(go_at_call 94);refine HI.mono ?_;rintro e w6 ⟨rfl,hU6⟩;have c2:=hU6.cell c1 (fun x=>x);have hUf:=(hU.and hd).and hU6)
      all_goals
        have HUF:=zF hUf;clear hUf hU6 HI c1 c2 hc hE hb;cases cb
        ·have hrf:r=dst (l.take (m+1)) (l.drop (m+1)):=by rw[HV.out,HD.out.1,if_neg (by simp[hx])]
         have HS3:=zF hrf;clear hrf;go_wp2_with fail
         go_roundw
         case rel=>exact⟨m+1,by go_num,Nat.succ_le_of_lt HD.out.2,HS3.out,HUF.out⟩
         case measure=>(have:=HD.out.2;simp[intOf];omega)
        ·have hrf:r=false:=by rw[HV.out,HD.out.1,if_pos (by simp)]
         have HF:=zF hrf;clear hrf;go_wp2_with fail
         go_ret
         exact⟨zP HF.out.symm,HUF.out⟩
    ·have hjn:¬(m:Int)<(ll:Int):=by omega
     have hd:l.drop m=[]:=List.drop_eq_nil_of_le (by have:=HL.out;omega);have hrt:r=true:=by rw[HV.out,hd,dst]
     have HD:=zF hrt;clear hd hrt;go_wp2_with fail
     go_ret
     exact⟨zP HD.out.symm,hU⟩
end
section
open Go.RowKit Go.LF
theorem zDe{O:Nat->Prop}{W:World}{b:Nat}{t:Tm}{x0 x1 x2 x3 t0 t1 t2 t3:Value}{T:TypeId}(hB:zG W b x0 x1 x2 x3 T)(hR:zK O W t.zM [t0,t1,t2,t3])(hb:O b)(hO:∀ x,O x->x<W.heap.size)(k:Int)(n:List UInt8)(i:Int){W':World}
    (hW:W'=((((W.setCell ⟨b,0,none⟩ (.int .i64 k)).setCell ⟨b,1,none⟩ (.string (B n))).setCell ⟨b,2,none⟩ (.int .i64 i)).setCell ⟨b,3,none⟩ (.slice (some ⟨W.heap.size,0,none⟩) 1 1)).alloc (.cells #[t0,t1,t2,t3] T)):
    zG W' b (.int .i64 k) (.string (B n)) (.int .i64 i) (.slice (some ⟨W.heap.size,0,none⟩) 1 1) T/\zK O W' (Tm.mk k n i [t]).zM [.int .i64 k,.string (B n),.int .i64 i,.slice (some ⟨W.heap.size,0,none⟩) 1 1]/\zD (fun x=>x=b) W W':=by
  subst hW;have hs:=hB.set (d0:=.int .i64 k) (d1:=.string (B n)) (d2:=.int .i64 i) (d3:=.slice (some ⟨W.heap.size,0,none⟩) 1 1);have hU:=hs.2.alloc (.cells #[t0,t1,t2,t3] T);exact⟨hs.1.kept ((zD.refl zC _).alloc _),Ym (zK.zE hU (fun x e=>by subst e;exact hb) _ _ hR) (fun e=>by have:=hO _ e;omega) (zG.zJ (by simp)) k n i,hU⟩
theorem QO(t:Tm)(m:Nat)(hm:m<=1000000)(O:Nat->Prop)(w:World)(cs:List Value)(hO:∀ b,O b->b<w.heap.size)(h:zK O w t.zM cs):
    Calls Tryz.prog 103 #[.agg cs.toArray,.int .i64 m] w (zFr (Tm.yQ m t) O w):=by
  obtain⟨k0,n0,i0,ts0,a0,cap0,ht,rfl,hcap0,_⟩:=zU h;obtain⟨len0,hlen0⟩:∃ l,l=ts0.length:=⟨_,rfl⟩;rw[<-hlen0]at h ⊢;obtain⟨w1,hw1⟩:∃ w1,w1=(w.alloc (.cells #[.int .i64 k0,.string (B n0),.int .i64 i0,.slice a0 len0 cap0] 29)).alloc (.cells #[.int .i64 0,.string (B []),.int .i64 0,.slice none 0 0] 29):=⟨_,rfl⟩;have hU1:zD zC w w1:=by rw[hw1];exact((zD.refl zC w).alloc _).alloc _
  have hB1:zG w1 w.heap.size (.int .i64 k0) (.string (B n0)) (.int .i64 i0) (.slice a0 len0 cap0) 29:=by rw[hw1];exact(zG.zJ rfl).kept ((zD.refl zC _).alloc _)
  have hS1:zG w1 (w.heap.size+1) (.int .i64 0) (.string (B [])) (.int .i64 0) (.slice none 0 0) 29:=by rw[hw1];exact zG.zJ (by simp)
  have hR1:zK (fun b=>O b\/b=w.heap.size\/b=w.heap.size+1) w1 t.zM [.int .i64 k0,.string (B n0),.int .i64 i0,.slice a0 len0 cap0]:=(zK.weaken (fun b _ e=>e.elim .inl (fun e=>.inr (by omega))) _ _ (zK.zY _ _ h)).on hU1;have hz1:w1.heap.size=w.heap.size+2:=by rw[hw1];simp
  have HW1:=zF hw1;obtain⟨H,hH⟩:∃ H,H=w.heap.size:=⟨_,rfl⟩;have HH:=zF hH;rw[<-hH]at hB1 hR1 hS1 hz1 hO;have HO:=zF hO;clear hw1 hH h ht hcap0 hO hlen0;have hm0:(0:Int)<=(m:Int):=by omega
  go_enter Tryz.func103,Tryz.ntmps103
  go_wp2_with fail
  rw[<-show B []={ data:=#[] }from rfl,<-HW1.out,<-HH.out]
  go_loopw [6] (fun v6 wr=>∃(j:Nat)(k i:Int)(n:List UInt8)(a:Option Addr)(len cap:Nat),v6=.int .i64 j/\j<=m/\
      zK (fun b=>O b\/b=H\/b=H+1) wr (Tm.yQ j t).zM [.int .i64 k,.string (B n),.int .i64 i,.slice a len cap]/\zG wr H (.int .i64 k) (.string (B n)) (.int .i64 i) (.slice a len cap) 29/\
      zG wr (H+1) (.int .i64 0) (.string (B [])) (.int .i64 0) (.slice none 0 0) 29/\H+2<=wr.heap.size/\zD zC w wr)
    (fun v6 _=>m - (intOf v6).toNat)
  case atStart=>exact⟨0,_,_,_,_,_,_,rfl,Nat.zero_le _,hR1,hB1,hS1,by omega,hU1⟩
  case round=>
    clear hR1 hB1 hS1 hU1 hz1;obtain⟨j,k,i,nm,a,len,cap,rfl,hj,hR,hB,hS,hz,hU⟩:=hrel;obtain⟨b0,b1,b2,b3⟩:=hB.cells;obtain⟨f0,f1,f2,f3⟩:=hB.zI;have hq:=hB.lt;have hj0:(0:Int)<=(j:Int):=by omega
    have hjb:(j:Int)<=1000000:=by omega
    by_cases hlt:j<m
    ·have hj1:(j:Int)<(m:Int):=by omega
     have hwr:=zDe (W':=((((wr.setCell ⟨H,0,none⟩ (.int .i64 3)).setCell ⟨H,1,none⟩ (.string (B []))).setCell ⟨H,2,none⟩ (.int .i64 0)).setCell ⟨H,3,none⟩ (.slice (some ⟨wr.heap.size,0,none⟩) 1 1)).alloc (.cells #[.int .i64 k,.string (B nm),.int .i64 i,.slice a len cap] 29))
       hB hR (.inr (.inl rfl)) (fun x hx=>by rcases hx with e |e |e<;>first |(have:=HO.out x e;omega)|omega) 3 [] 0 rfl
     have HWR:=zF hwr;clear hwr hR;go_wp2_with fail
     go_roundw
     case rel=>
       obtain⟨h1,h2,h3⟩:=HWR.out;refine⟨j+1,3,0,[],_,1,1,by go_num,by omega,by rw[Tm.xw];exact h2,h1,hS.zE h3 (by omega),Nat.le_trans hz h3.size,hU.trans h3 (fun b hb e=>by have:=HH.out;omega)⟩
     case measure=>(simp[intOf];omega)
    ·have hj1:¬(j:Int)<(m:Int):=by omega
     obtain rfl:j=m:=by omega
     obtain⟨s0,s1,s2,s3⟩:=hS.cells;obtain⟨y0,y1,y2,y3⟩:=hS.zI;have hset:=hS.set (d0:=.int .i64 k) (d1:=.string (B nm)) (d2:=.int .i64 i) (d3:=.slice a len cap);obtain⟨e0,e1,e2,e3⟩:=hset.1.cells;have HE:=zF (And.intro e0 (And.intro e1 (And.intro e2 e3)));have HS:=zF (And.intro hset.2 hR);clear e0 e1 e2 e3 hset hR;go_wp2_with fail
     obtain⟨e0,e1,e2,e3⟩:=HE.out;refine bodyPost_ret (v:=.agg #[.int .i64 k,.string (B nm),.int .i64 i,.slice a len cap]) ?_ rfl ?_
     ·simp[results,Tryz.f103,go_sem,e0,e1,e2,e3]
     ·exact⟨k,i,nm,a,len,cap,rfl,zK.weaken (fun b _ e=>.inl e) _ _ (zK.zE HS.out.1 (fun b e=>.inr (.inr e)) _ _ HS.out.2),hU.trans HS.out.1 (fun b hb e=>by have:=HH.out;omega)⟩
end
end Go.Proofs.YthgmimncdjhgnaaGreatDoor
namespace Go.LF
open Tm Go.Proofs.YthgmimncdjhgnaaGreatDoor
def Xl(vars:List Int)(sc:Nat):Nat->List Int
  |0=>List.replicate sc (-1)
  |m+1=>if vars.getD m 0<(sc:Int)then(Xl vars sc m).set (vars.getD m 0).toNat ((vars.length:Int) - 1 - m)else Xl vars sc m
theorem Qq(vars:List Int)(sc m:Nat):(Xl vars sc m).length=sc:=by
  induction m with
  |zero=>simp[Xl]
  |succ m ih=>rw[Xl];split<;>simp[ih]
theorem qL:∀(l seen:List Int),dst seen l=true->(∀ v∈l,0<=v/\v∉seen)/\l.Nodup
  | [],_,_=>⟨by simp,List.nodup_nil⟩
  |v :: vs,seen,h=>by
   rw[dst]at h;by_cases hc:(decide (v<0)|| seen.contains v)=true
   ·rw[if_pos hc]at h;exact absurd h (by decide)
   ·rw[if_neg hc]at h;obtain⟨h1,h2⟩:=qL vs _ h;simp only[Bool.or_eq_true,decide_eq_true_eq,List.contains_eq_mem,not_or]at hc;refine⟨fun x hx=>?_,List.nodup_cons.2 ⟨fun hv=>(h1 v hv).2 (by simp),h2⟩⟩;rcases List.mem_cons.1 hx with rfl |hx
    ·exact⟨by omega,hc.2⟩
    ·exact⟨(h1 x hx).1,fun hs=>(h1 x hx).2 (by simp[hs])⟩
theorem zC8(l:List Int)(y x:Int):ZU (l++[y]) x=if ZU l x<0 then(if y=x then(l.length:Int)else -1)else ZU l x:=by
  induction l with
  |nil=>simp[ZU]
  |cons z l ih=>
   rw[List.cons_append,ZU,ZU,ih];have:=ZO l x;by_cases h:z=x
   ·rw[if_pos h,if_pos h];simp
   ·rw[if_neg h,if_neg h];by_cases h2:ZU l x<0
    ·rw[if_pos h2,if_pos h2];by_cases h3:y=x
     ·rw[if_pos h3,if_pos h3,if_neg (by omega)];simp
     ·rw[if_neg h3,if_neg h3];simp
    ·rw[if_neg h2,if_neg h2,if_neg (by omega)]
theorem zGf{l:List Int}{x:Int}(h:x∈l):0<=ZU l x/\l.getD (ZU l x).toNat 0=x:=by
  induction l with
  |nil=>cases h
  |cons z l ih=>
   rw[ZU];by_cases hz:z=x
   ·rw[if_pos hz];simp[hz]
   ·rw[if_neg hz];have hm:x∈l:=(List.mem_cons.1 h).resolve_left (fun e=>hz e.symm);obtain⟨h1,h2⟩:=ih hm;rw[if_neg (by omega)];refine⟨by omega,?_⟩;rw[show(ZU l x+1).toNat=(ZU l x).toNat+1 by omega];simpa using h2
theorem zGz{l:List Int}{x:Int}(h:x∉l):ZU l x= -1:=by
  induction l with
  |nil=>rfl
  |cons z l ih=>
   rw[ZU,if_neg (fun e=>h (by simp[e])),ih (fun hm=>h (by simp[hm]))];simp
theorem zFS(vars:List Int)(sc:Nat)(hd:vars.Nodup)(h0:∀ v∈vars,0<=v):∀ m,m<=vars.length->∀ x:Nat,x<sc->(Xl vars sc m)[x]? =some (if ZU (vars.take m) (x:Int)<0 then -1 else(vars.length:Int) - 1 - ZU (vars.take m) (x:Int))
  |0,_,x,hx=>by rw[Xl,List.take_zero,ZU,List.getElem?_replicate,if_pos hx];rfl
  |m+1,hm,x,hx=>by
   have hml:m<vars.length:=by omega
   have ih:=zFS vars sc hd h0 m (by omega) x hx;have hg:vars.getD m 0=vars[m]:=by rw[List.getD_eq_getElem?_getD,List.getElem?_eq_getElem hml];rfl
   have hv0:=h0 _ (List.getElem_mem hml);rw[Xl,hg,List.take_succ_eq_append_getElem hml,zC8];have hlen:(vars.take m).length=m:=by rw[List.length_take];omega
   rw[hlen];by_cases he:vars[m]=(x:Int)
   ·have hnot:(x:Int)∉vars.take m:=fun hmem=>by
      obtain⟨q,hq,hqe⟩:=List.getElem_of_mem hmem;rw[List.getElem_take]at hqe;have:=(List.getElem_inj (h₀:=by rw[hlen]at hq;omega) (h₁:=hml) hd).1 (hqe.trans he.symm);rw[hlen]at hq;omega
    rw[zGz hnot];rw[if_pos (by omega:vars[m]<(sc:Int))];rw[he,Int.toNat_natCast,List.getElem?_set_self (by rw[Qq];exact hx)];rw[if_pos (show(-1:Int)<0 by omega),if_pos rfl,if_neg (by omega)]
   ·rw[if_neg he]
    have e2:(if vars[m]<(sc:Int)then(Xl vars sc m).set vars[m].toNat ((vars.length:Int) - 1 - m)else Xl vars sc m)[x]? =(Xl vars sc m)[x]? :=by
      split
      ·rw[List.getElem?_set_ne (by omega)]
      ·rfl
    rw[e2,ih];by_cases hp:ZU (vars.take m) (x:Int)<0
    ·rw[if_pos hp,if_pos hp];rfl
    ·rw[if_neg hp,if_neg hp,if_neg hp]
def xr(vars:List Int):To:=fun v=>((vars.length:Int) - 1 - ZU vars v,decide (0<=ZU vars v))
theorem zFN{vars:List Int}(hd:dst [] vars=true){sc:Nat}{v:Int}(h0:0<=v)(h1:v<sc):zz (Xl vars sc vars.length) v=(if ZU vars v<0 then -1 else(vars.length:Int) - 1 - ZU vars v,true):=by
  obtain⟨p1,p2⟩:=qL _ _ hd;have h:=zFS vars sc p2 (fun v hv=>(p1 v hv).1) vars.length (Nat.le_refl _) v.toNat (by omega);rw[List.take_length,Int.toNat_of_nonneg h0]at h;unfold zz;rw[h]
theorem zH0{t:Tm}(hw:t.wf=0){vars:List Int}(hd:dst [] vars=true):
    yG (zz (Xl vars t.scope.toNat vars.length)) 0 t=yG (xr vars) 0 t/\(yG (xr vars) 0 t=true->mv (zz (Xl vars t.scope.toNat vars.length)) 0 t=mv (xr vars) 0 t):=by
  have hok:=(YV t hw).1
  have hnode:∀ x∈nodes 0 t,x.k=5->x.b<=x.i->zz (Xl vars t.scope.toNat vars.length) (x.i - x.b)=(if ZU vars (x.i - x.b)<0 then -1 else(vars.length:Int) - 1 - ZU vars (x.i - x.b),true):=fun x hx hk hb=>by
    have h1:=zDr t x hx hk;exact zFN hd (by omega) (by omega)
  have hoki:∀ x∈nodes 0 t,XK (zz (Xl vars t.scope.toNat vars.length)) x.b x.k x.i=XK (xr vars) x.b x.k x.i:=fun x hx=>by
    unfold XK;by_cases hk:x.k=5/\x.b<=x.i
    ·rw[hnode x hx hk.1 hk.2];unfold xr;have:=ZO vars (x.i - x.b);by_cases hp:ZU vars (x.i - x.b)<0
     ·rw[if_pos hp];have h2:decide (0<=ZU vars (x.i - x.b))=false:=decide_eq_false (by omega);simp only[h2,Bool.false_and];simp
     ·rw[if_neg hp];have h2:decide (0<=ZU vars (x.i - x.b))=true:=decide_eq_true (by omega);simp only[h2]
    ·have:(x.k == 5 && decide (x.b<=x.i))=false:=by
       by_cases h:x.k=5
       ·have h2:¬x.b<=x.i:=fun e=>hk ⟨h,e⟩
        simp only[h,beq_self_eq_true,Bool.true_and,decide_eq_false_iff_not];exact h2
       ·simp[h]
     rw[this];rfl
  have hall:yG (zz (Xl vars t.scope.toNat vars.length)) 0 t=yG (xr vars) 0 t:=by
    rw[ZS,ZS,Bool.eq_iff_iff,List.all_eq_true,List.all_eq_true];exact⟨fun h x hx=>by rw[<-hoki x hx];exact h x hx,fun h x hx=>by rw[hoki x hx];exact h x hx⟩
  refine⟨hall,fun h=>Xp _ _ t 0 (fun x hx=>?_)⟩;rw[ZS,List.all_eq_true]at h;have h1:=h x hx;unfold xu;by_cases hk:x.k=5/\x.b<=x.i
  ·rw[if_pos hk,if_pos hk,hnode x hx hk.1 hk.2];unfold XK at h1;have h2:(x.k == 5 && decide (x.b<=x.i))=true:=by simp[hk.1,hk.2]
   rw[h2]at h1;unfold xr at h1 ⊢;simp only[Bool.not_true,Bool.false_or,Bool.and_eq_true,decide_eq_true_eq]at h1;rw[if_neg (by omega)]
  ·rw[if_neg hk,if_neg hk]
theorem Qc(n:Nat){t:Tm}(h:t.isObj=true):(yQ n t).isObj=true:=by
  induction n with
  |zero=>exact h
  |succ n ih=>
   rw[xw,isObj,if_pos rfl];unfold bound;rw[ze,ze,ih];simp
theorem Xv(n:Nat)(t:Tm):(yQ n t).depth=n+t.depth:=by
  induction n with
  |zero=>simp[yQ]
  |succ n ih=>rw[xw,yW,zQ,zQ,ih];simp;omega
theorem Yr(n:Nat)(t:Tm):(yQ n t).wt=n+t.wt:=by
  induction n with
  |zero=>simp[yQ]
  |succ n ih=>rw[xw,yM];simp only[ye,ih,List.length_nil];omega
theorem Yi{t:Tm}(h:t.isObj=true):(t.wf == 0)=t.small:=by
  unfold wf;rw[h];cases t.small<;>simp
def xz(vars:List Int)(t:Tm):Bool:=(t.isObj && t.small) && (dst [] vars && (yG (xr vars) 0 t && (yQ vars.length (mv (xr vars) 0 t)).small))
def Xi(vars:List Int)(t:Tm):Tm:=if xz vars t then yQ vars.length (mv (xr vars) 0 t)else zero
theorem YC{vars:List Int}{t:Tm}(h:xz vars t=false):Xi vars t=zero:=by unfold Xi;rw[h];rfl
theorem Xw{vars:List Int}{t:Tm}(h:xz vars t=true):Xi vars t=yQ vars.length (mv (xr vars) 0 t):=by unfold Xi;rw[if_pos h]
theorem zEP{vars:List Int}{t:Tm}(h:128<vars.length):xz vars t=false:=by
  have:(yQ vars.length (mv (xr vars) 0 t)).small=false:=by
    unfold small;rw[Xv];simp;intro _;omega
  unfold xz;rw[this];simp
end Go.LF
