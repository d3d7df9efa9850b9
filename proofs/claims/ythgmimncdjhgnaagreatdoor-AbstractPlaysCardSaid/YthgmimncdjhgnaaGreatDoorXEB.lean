/- Ge agw ahead of a jM: kP, Yd; sU cX ag7, acZ, objects. -/
import Derived.Test.YthgmimncdjhgnaaGreatDoorXCL
import Derived.Test.YthgmimncdjhgnaaGreatDoorXDB
set_option maxRecDepth 100000
set_option maxHeartbeats 8000000
namespace Go.LF
def bI{α:Type}(f:α->Int):List α->Int
  | []=>0
  |x :: xs=>if f x≠0 then f x else bI f xs
theorem kO{α:Type}(f:α->Int)(l:List α)(j:Nat)(h:j<l.length):bI f (l.drop j)=if f l[j]≠0 then f l[j]else bI f (l.drop (j+1)):=by
  rw[List.drop_eq_getElem_cons h,bI]
theorem kI{α:Type}(f:α->Int)(l:List α)(h:bI f l=0):∀ x∈l,f x=0:=by
  induction l with
  |nil=>intro x hx;simp at hx
  |cons a l ih=>
   rw[bI]at h;by_cases ha:f a=0
   ·rw[if_neg (by simp[ha])]at h;intro x hx;rcases List.mem_cons.1 hx with rfl |hx
    ·exact ha
    exact ih h x hx
   rw[if_pos ha]at h;exact absurd h ha
end Go.LF
namespace Go.Proofs.YthgmimncdjhgnaaGreatDoor
open Go.RowKit Go.LF
theorem yq(t:Tm)(hs:t.wt<=1000000)(w:World)(cs:List Value)(h:aw ae w t.az cs):
    Calls Tryz.prog 193 #[.agg cs.toArray] w fun e w'=>e=.returned (.bool (!(t.isObj && t.small)))/\af ae w w':=by
  obtain⟨k,n,i,ts,a,cap,_,rfl,_,_⟩:=aP h;obtain⟨w1,aF⟩:∃ w1,w1=w.alloc (.cells #[.int .i64 k,.string (B n),.int .i64 i,.slice a ts.length cap] 29):=⟨_,rfl⟩;have aH:af ae w w1:=by rw[aF];exact(af.refl ae w).alloc _
  have jA:au w1 w.heap.size (.int .i64 k) (.string (B n)) (.int .i64 i) (.slice a ts.length cap) 29:=by rw[aF];exact au.av rfl
  have C:=qX t hs w1 _ (h.on aH);have HW:=ak aF;clear aF h;generalize (t.isObj && t.small)=b at *
  obtain⟨x0,x1,x2,x3⟩:=jA.cells;go_enter Tryz.func193,Tryz.ntmps193;go_wp2_with fail;rw[<-HW.out];refine C.mono ?_;rintro e w2 ⟨rfl,aL⟩;go_wp2_with fail;go_ret;exact⟨rfl,aH.and aL⟩
theorem vU(ts:List Tm)(hl:ts.length<=1000000)(hw:∀ t∈ts,t.wt<=1000000)(w:World)(a:Option Addr)(cap:Nat)(hE:ai ae w 4 (ts.map Tm.az) a 0):
    Calls Tryz.prog 75 #[.slice a ts.length cap] w fun e w'=>e=.returned (.int .i64 (bI Tm.wf ts))/\af ae w w':=by
  obtain⟨r,hr⟩:∃ r,r=bI Tm.wf ts:=⟨_,rfl⟩;rw[<-hr];have HR:=ak hr;have UZ:=ak hw;clear hr hw;go_enter Tryz.func75,Tryz.ntmps75;go_wp2_with fail;go_loopw [3] (fun v wr=>∃ j:Nat,v=.int .i64 j/\j<=ts.length/\r=bI Tm.wf (ts.drop j)/\af ae w wr) (fun v _=>ts.length - (intOf v).toNat)
  case atStart=>exact⟨0,rfl,Nat.zero_le _,HR.out,af.refl _ _⟩
  obtain⟨j,rfl,hj,hv,hU⟩:=hrel;have HV:=ak hv;clear hv;have j0:(0:Int)<=(j:Int):=by omega
  have jb:(j:Int)<=2000000:=by omega
  by_cases aB:j<ts.length
  ·obtain⟨b,o,k1,n1,x1,s1,c1,rfl,hb,_,p0,p1,p2,p3,eY⟩:=aY (hE.on hU) j aB;have j1:(j:Int)<(ts.length:Int):=by omega
   have key:=dx _ (UZ.out _ (List.getElem_mem aB)) wr _ eY;have hT:=kO Tm.wf ts j aB;generalize ts[j].args.length=el at *
   generalize ts[j].wf=fb at *
   have HT:=ak (And.intro hT aB);clear hT aB eY;go_wp2_with fail;refine key.mono ?_;rintro e w5 ⟨rfl,ba⟩;by_cases DO:fb=0
   ·subst DO;go_wp2_with fail;go_roundw;case rel=>exact⟨j+1,by go_num,Nat.succ_le_of_lt HT.out.2,by rw[HV.out,HT.out.1];rfl,hU.and ba⟩
    (have:=HT.out.2;simp[intOf];omega)
   have UW:(fb !=0)=true:=by simpa using DO
   go_wp2_with fail;go_ret;exact⟨bd (by rw[HV.out,HT.out.1,if_pos DO]),hU.and ba⟩
  have sA:¬(j:Int)<(ts.length:Int):=by omega
  have tR:ts.drop j=[]:=List.drop_eq_nil_of_le (by omega);have HD:=ak tR;clear tR;go_wp2_with fail;go_ret;exact⟨bd (by rw[HV.out,HD.out,bI]),hU⟩
theorem DY(ts:List Tm)(hl:ts.length<=1000000)(hw:∀ t∈ts,t.wt<=1000000)(w:World)(a:Option Addr)(cap:Nat)(hE:ai ae w 4 (ts.map Tm.az) a 0):
    Calls Tryz.prog 171 #[.slice a ts.length cap] w fun e w'=>e=.returned (.int .i64 (if ts.any (fun t=>!(t.isObj && t.small))=true then 32 else 0))/\af ae w w':=by
  have UZ:=ak hw;clear hw;obtain⟨r,hr⟩:∃ r:Int,r=if ts.any (fun t=>!(t.isObj && t.small))=true then 32 else 0:=⟨_,rfl⟩
  rw[<-hr];have HR:=ak hr;clear hr;go_enter Tryz.func171,Tryz.ntmps171;go_wp2_with fail;go_loopw [3] (fun v wr=>∃ j:Nat,v=.int .i64 j/\j<=ts.length/\(ts.take j).any (fun t=>!(t.isObj && t.small))=false/\af ae w wr) (fun v _=>ts.length - (intOf v).toNat)
  case atStart=>exact⟨0,rfl,Nat.zero_le _,rfl,af.refl _ _⟩
  obtain⟨j,rfl,hj,hA,hU⟩:=hrel;have HA:=ak hA;clear hA;have j0:(0:Int)<=(j:Int):=by omega
  have jb:(j:Int)<=2000000:=by omega
  by_cases aB:j<ts.length
  ·obtain⟨b,o,k1,n1,x1,s1,c1,rfl,hb,_,p0,p1,p2,p3,eY⟩:=aY (hE.on hU) j aB;have j1:(j:Int)<(ts.length:Int):=by omega
   have key:=jy _ (UZ.out _ (List.getElem_mem aB)) wr _ eY
   have hT:(ts.take (j+1)).any (fun t=>!(t.isObj && t.small))=((ts.take j).any (fun t=>!(t.isObj && t.small))|| !(ts[j].isObj && ts[j].small)):=by
     rw[List.take_succ_eq_append_getElem aB];simp only[List.any_append,List.any_cons,List.any_nil,Bool.or_false]
   have hM:(!(ts[j].isObj && ts[j].small))=true->ts.any (fun t=>!(t.isObj && t.small))=true:=fun h=>List.any_eq_true.2 ⟨_,List.getElem_mem aB,h⟩
   rw[HA.out]at hT;generalize ts[j].args.length=el at *
   generalize (ts[j].isObj && ts[j].small)=fb at *
   have HT:=ak (And.intro hT (And.intro hM aB));clear hT hM aB eY;go_wp2_with fail;refine key.mono ?_;rintro e w5 ⟨rfl,ba⟩;cases fb
   ·go_wp2_with fail;go_ret;exact⟨bd (by rw[HR.out,if_pos (HT.out.2.1 rfl)]),hU.and ba⟩
   go_wp2_with fail;go_roundw;case rel=>exact⟨j+1,by go_num,Nat.succ_le_of_lt HT.out.2.2,by rw[HT.out.1];rfl,hU.and ba⟩
   (have:=HT.out.2.2;simp[intOf];omega)
  have sA:¬(j:Int)<(ts.length:Int):=by omega
  have tR:ts.take j=ts:=List.take_of_length_le (by omega);have mx:=HA.out;rw[tR]at mx;have HD:=ak mx;clear tR HA mx;go_wp2_with fail;go_ret;exact⟨bd (by rw[HR.out,if_neg (by rw[HD.out];simp)]),hU⟩
theorem Bm(ts:List Tm)(ss:List Sm)(hl:ts.length<=1000000)(hw:∀ t∈ts,t.wt<=1000000)(hl':ss.length<=1000000)(hw':∀ t∈ss,t.wt<=1000000)(w:World)(a:Option Addr)(cap:Nat)(sa:Option Addr)(sc:Nat)
    (hE:ai ae w 4 (ts.map Tm.az) a 0) (hS:ai ae w 2 (ss.map Sm.az) sa 0):
    Calls Tryz.prog 192 #[.slice a ts.length cap,.slice sa ss.length sc] w fun e w'=>e=.returned (.int .i64 (if bI Tm.wf ts≠0 then bI Tm.wf ts else bI Sm.wf ss))/\af ae w w':=by
  obtain⟨r,hr⟩:∃ r,r=bI Tm.wf ts:=⟨_,rfl⟩;obtain⟨q,hq⟩:∃ q,q=bI Sm.wf ss:=⟨_,rfl⟩;rw[<-hr,<-hq];obtain⟨E,Au⟩:∃ E,E=if r≠0 then r else q:=⟨_,rfl⟩
  rw[<-Au];have HE:=ak Au;clear Au;have HR:=ak hr;have HQ:=ak hq;have UZ:=ak hw;have Y3:=ak hw';clear hr hq hw hw';go_enter Tryz.func192,Tryz.ntmps192;go_wp2_with fail;go_loopw [13] (fun v wr=>∃ j:Nat,v=.int .i64 j/\j<=ts.length/\r=bI Tm.wf (ts.drop j)/\af ae w wr) (fun v _=>ts.length - (intOf v).toNat)
  case atStart=>exact⟨0,rfl,Nat.zero_le _,HR.out,af.refl _ _⟩
  obtain⟨j,rfl,hj,hv,hU⟩:=hrel;have HV:=ak hv;clear hv;have j0:(0:Int)<=(j:Int):=by omega
  have jb:(j:Int)<=2000000:=by omega
  by_cases aB:j<ts.length
  ·obtain⟨b,o,k1,n1,x1,s1,c1,rfl,hb,_,p0,p1,p2,p3,eY⟩:=aY (hE.on hU) j aB;have j1:(j:Int)<(ts.length:Int):=by omega
   have cK:=(af.refl ae wr).alloc (.cells #[.int .i64 k1,.string (B n1),.int .i64 x1,.slice s1 ts[j].args.length c1] 29);have key:=cG _ (UZ.out _ (List.getElem_mem aB)) _ _ (eY.on cK);have hT:=kO Tm.wf ts j aB;generalize ts[j].args.length=el at *
   generalize ts[j].wf=fb at *
   have HT:=ak (And.intro hT (And.intro aB cK));clear hT aB eY cK;go_wp2_with fail;refine key.mono ?_;rintro e w5 ⟨rfl,ba⟩;have bj:=(hU.and HT.out.2.2).and ba;by_cases DO:fb=0
   ·subst DO;go_wp2_with fail;go_roundw;case rel=>exact⟨j+1,by go_num,Nat.succ_le_of_lt HT.out.2.1,by rw[HV.out,HT.out.1];rfl,bj⟩
    (have:=HT.out.2.1;simp[intOf];omega)
   have UW:(fb !=0)=true:=by simpa using DO
   go_wp2_with fail;go_ret;have GQ:r=fb:=by rw[HV.out,HT.out.1,if_pos DO]
   exact⟨bd (by rw[HE.out,GQ,if_pos DO]),bj⟩
  have sA:¬(j:Int)<(ts.length:Int):=by omega
  have tR:ts.drop j=[]:=List.drop_eq_nil_of_le (by omega);have Th:r=0:=by rw[HV.out,tR,bI]
  have OV:=ak Th;clear tR Th;go_wp2_with fail;obtain⟨w1,aF⟩:∃ w1,w1=wr:=⟨_,rfl⟩;rw[<-aF]at hU;go_loopw [25] (fun v wr=>∃ j:Nat,v=.int .i64 j/\j<=ss.length/\q=bI Sm.wf (ss.drop j)/\af ae w wr) (fun v _=>ss.length - (intOf v).toNat)
  case atStart=>exact⟨0,rfl,Nat.zero_le _,HQ.out,by rw[<-aF];exact hU⟩
  clear HV aB sA hj jb j0 hU aF;obtain⟨j,rfl,hj,hv,hU⟩:=hrel;have HV:=ak hv;clear hv;have j0:(0:Int)<=(j:Int):=by omega
  have jb:(j:Int)<=2000000:=by omega
  by_cases aB:j<ss.length
  ·obtain⟨b,o,n1,s1,c1,rfl,hb,_,p0,p1,eY⟩:=kV (hS.on hU) j aB;have j1:(j:Int)<(ss.length:Int):=by omega
   have cK:=(af.refl ae wr).alloc (.cells #[.string (B n1),.slice s1 ss[j].args.length c1] 115);have key:=NI _ (Y3.out _ (List.getElem_mem aB)) _ _ (eY.on cK);have hT:=kO Sm.wf ss j aB;generalize ss[j].args.length=el at *
   generalize ss[j].wf=fb at *
   have HT:=ak (And.intro hT (And.intro aB cK));clear hT aB eY cK;go_wp2_with fail;refine key.mono ?_;rintro e w5 ⟨rfl,ba⟩;have bj:=(hU.and HT.out.2.2).and ba;by_cases DO:fb=0
   ·subst DO;go_wp2_with fail;go_roundw;case rel=>exact⟨j+1,by go_num,Nat.succ_le_of_lt HT.out.2.1,by rw[HV.out,HT.out.1];rfl,bj⟩
    (have:=HT.out.2.1;simp[intOf];omega)
   have UW:(fb !=0)=true:=by simpa using DO
   go_wp2_with fail;go_ret;exact⟨bd (by rw[HE.out,OV.out,if_neg (by simp),HV.out,HT.out.1,if_pos DO]),bj⟩
  have sA:¬(j:Int)<(ss.length:Int):=by omega
  have tR:ss.drop j=[]:=List.drop_eq_nil_of_le (by omega);have HD:=ak tR;clear tR;go_wp2_with fail;go_ret;exact⟨bd (by rw[HE.out,OV.out,if_neg (by simp),HV.out,HD.out,bI]),hU⟩
end Go.Proofs.YthgmimncdjhgnaaGreatDoor
