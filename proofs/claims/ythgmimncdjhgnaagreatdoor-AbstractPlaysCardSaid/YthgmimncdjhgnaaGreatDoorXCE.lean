/- Ge cX cu of zp, on. -/
import Derived.Test.YthgmimncdjhgnaaGreatDoorXCD
set_option maxRecDepth 100000
set_option maxHeartbeats 4000000
namespace Go.Proofs.YthgmimncdjhgnaaGreatDoor
section
open Go.RowKit Go.LF
theorem EY(k i:Int)(n:List UInt8)(hn:n.length<=1000000)(x:Tm)(H:om [x])(h1:(k == 3)=true)(hb:Tm.bound n i [x] 1=true)(w:World)(a:Option Addr)(cap:Nat)
    (hE:ai ae w 4 ([x].map Tm.az) a 0):
    Calls Tryz.prog 124 #[.agg #[.int .i64 k,.string (B n),.int .i64 i,.slice a 1 cap]] w fun e w'=>e=.returned (.int .i64 (if x.isObj then 1 else 0))/\af ae w w':=by
  have HB:=ak hb
  obtain⟨hi,qG⟩:i=0/\(n=[]\/n=[95]\/(¬n=[]/\¬n=[95]/\isName n=true)):=by
    unfold Tm.bound at hb;simp at hb;obtain⟨h1,(h2 |h2)|h2⟩:=hb
    ·exact⟨h1,.inl h2⟩
    ·exact⟨h1,.inr (.inl h2)⟩
    exact⟨h1,.inr (.inr ⟨by rintro rfl;exact absurd h2 (by decide),by rintro rfl;exact absurd h2 (by decide),h2⟩)⟩
  clear hb;obtain rfl:k=3:=by simpa using h1
  clear h1;subst hi;obtain⟨b,o,k1,n1,x1,s1,c1,rfl,St,_,tw,s5,ju,yT,hR⟩:=aY hE 0 (by simp);simp only[Nat.zero_mul,Nat.add_zero,List.getElem_cons_zero]at tw s5 ju yT hR;have Hx:=H x (by simp);have rv:=oi x;generalize (if x.isObj then(1:Int)else 0)=r at *
  generalize cu x=sx at *
  clear H hE;rcases qG with rfl |rfl |⟨aak,ZI,qG⟩
  all_goals
    go_enter Tryz.func124,Tryz.ntmps124;go_wp2_with (first |(go_at_call 109;refine(cw _ _ hn).mono ?_;rintro e w' ⟨rfl,rfl⟩)|fail)
  all_goals
    refine(Hx _ _ (hR.on ((af.refl _ w).alloc _))).mono ?_;rintro e w1 ⟨rfl,hU⟩;go_wp2
    go_ret;exact⟨rfl,hU.behind⟩
theorem Fm(k i:Int)(n:List UInt8)(hn:n.length<=1000000)(x y:Tm)(H:om [x,y])(h1:(k == 2)=true)(hb:Tm.bound n i [x,y] 2=true)(w:World)(a:Option Addr)(cap:Nat)
    (hE:ai ae w 4 ([x,y].map Tm.az) a 0) (r:Int) (hr:(if x.aC then(if y.aC then 2 else 0)+(if y.aI then 4 else 0)else 0)=r):
    Calls Tryz.prog 124 #[.agg #[.int .i64 k,.string (B n),.int .i64 i,.slice a 2 cap]] w fun e w'=>e=.returned (.int .i64 r)/\af ae w w':=by
  have HB:=ak hb
  obtain⟨hi,qG⟩:i=0/\(n=[]\/n=[95]\/(¬n=[]/\¬n=[95]/\isName n=true)):=by
    unfold Tm.bound at hb;simp at hb;obtain⟨h1,(h2 |h2)|h2⟩:=hb
    ·exact⟨h1,.inl h2⟩
    ·exact⟨h1,.inr (.inl h2)⟩
    exact⟨h1,.inr (.inr ⟨by rintro rfl;exact absurd h2 (by decide),by rintro rfl;exact absurd h2 (by decide),h2⟩)⟩
  clear hb;obtain rfl:k=2:=by simpa using h1
  clear h1;subst hi;obtain⟨b,o,k1,n1,x1,s1,c1,rfl,St,_,p0,p1,p2,p3,hR⟩:=aY hE 0 (by simp);obtain⟨b',o',k2,n2,x2,s2,c2,e',aar,_,q0,q1,q2,q3,fG⟩:=aY hE 1 (by simp);simp only[Option.some.injEq,Addr.mk.injEq]at e';obtain⟨rfl,rfl,_⟩:=e';simp only[Nat.zero_mul,Nat.add_zero,Nat.one_mul,List.getElem_cons_zero,List.getElem_cons_succ]at p0 p1 p2 p3 q0 q1 q2 q3 hR fG;have Hx:=H x (by simp);have Hy:=H y (by simp);have rv:=CS x;have akS:=Qm y;generalize (if y.aC then(2:Int)else 0)+(if y.aI then(4:Int)else 0)=ry at *
  generalize cu x=sx at *
  generalize cu y=sy at *
  generalize x.aC=bx at *
  clear H hE;cases bx
  all_goals
    have HR:=ak hr;clear hr;simp only[Bool.false_eq_true,if_false,if_true]at rv
  ·rcases qG with rfl |rfl |⟨aak,ZI,qG⟩
   all_goals
     go_enter Tryz.func124,Tryz.ntmps124;go_wp2_with (first |(go_at_call 109;refine(cw _ _ hn).mono ?_;rintro e w' ⟨rfl,rfl⟩)|fail)
     refine(Hx _ _ (hR.on ((af.refl _ w).alloc _))).mono ?_;rintro e w1 ⟨rfl,hU⟩;obtain⟨b0,b1,b2,b3⟩:=b8 hU;go_wp2_with fail;go_ret;exact⟨bd (by rw[<-HR.out];rfl),hU.behind⟩
  rcases qG with rfl |rfl |⟨aak,ZI,qG⟩
  all_goals
    go_enter Tryz.func124,Tryz.ntmps124;go_wp2_with (first |(go_at_call 109;refine(cw _ _ hn).mono ?_;rintro e w' ⟨rfl,rfl⟩)|fail)
    refine(Hx _ _ (hR.on ((af.refl _ w).alloc _))).mono ?_;rintro e w1 ⟨rfl,hU⟩;have aF:af ae w w1:=hU.behind;obtain⟨b0,b1,b2,b3⟩:=b8 hU;have d0:=aF.cell q0 (fun x=>x);have d1:=aF.cell q1 (fun x=>x);have d2:=aF.cell q2 (fun x=>x);have d3:=aF.cell q3 (fun x=>x);clear q0 q1 q2 q3;go_wp2_with fail;refine(Hy _ _ (fG.on aF)).mono ?_;rintro e w2 ⟨rfl,aL⟩;go_wp2_with fail;go_ret;exact⟨bd (by rw[<-HR.out];rfl),aF.and aL⟩
end
section
open Go.RowKit Go.LF
theorem Gj(k i:Int)(n:List UInt8)(hn:n.length<=1000000)(ts:List Tm)(hlen:ts.length<=1000000)(H:om ts)(h1:(k == 4)=true)(hf:isName n=true)(hi:i=0)(w:World)(a:Option Addr)(cap:Nat)
    (hE:ai ae w 4 (ts.map Tm.az) a 0) (r:Int) (hr:(if Tm.aV ts then 3 else 0)=r):
    Calls Tryz.prog 124 #[.agg #[.int .i64 k,.string (B n),.int .i64 i,.slice a ts.length cap]] w fun e w'=>e=.returned (.int .i64 r)/\af ae w w':=by
  have HR:=ak hr;clear hr;obtain rfl:k=4:=by simpa using h1
  clear h1;subst hi;go_enter Tryz.func124,Tryz.ntmps124;go_wp2_with (first |(go_at_call 109;refine(cw _ _ hn).mono ?_;rintro e w' ⟨rfl,rfl⟩)|fail)
  go_loopw [6] (fun v wr=>∃ j:Nat,j<=ts.length/\v=.int .i64 j/\(ts.take j).all Tm.isObj=true/\af ae (w.alloc (.cells #[.int .i64 4,.string (B n),.int .i64 0,.slice a ts.length cap] 29)) wr)
    (fun v _=>ts.length - (intOf v).toNat)
  case atStart=>exact⟨0,Nat.zero_le _,rfl,rfl,af.refl _ _⟩
  obtain⟨j,hj,rfl,hA,hU⟩:=hrel;have HA:=ak hA;clear hA;have hw:af ae w wr:=hU.behind;obtain⟨b0,b1,b2,b3⟩:=b8 hU;by_cases aB:j<ts.length
  ·obtain⟨b,o,k1,n1,x1,s1,c1,rfl,hb,_,tw,s5,ju,yT,eY⟩:=aY (hE.on hw) j aB;have Hc:=H _ (List.getElem_mem aB) _ _ eY;have hT:=gO Tm.isObj ts j aB;rw[HA.out]at hT;have rv:=oi ts[j]
   have hM:ts[j].isObj=false->Tm.aV ts=false:=fun h=>by
     rw[Tm.cM];exact List.all_eq_false.2 ⟨_,List.getElem_mem aB,by simp[h]⟩
   have HT:=ak hT;have HM:=ak hM;clear hT hM;generalize cu ts[j]=sx at *
   generalize ts[j].isObj=bo at *
   cases bo
   all_goals
     simp only[Bool.false_eq_true,if_false,if_true]at rv;go_wp2_with fail;refine Hc.mono ?_;rintro e w1 ⟨rfl,aH⟩;go_wp2
   ·go_ret;exact⟨bd (by rw[<-HR.out,HM.out (by trivial)];rfl),hw.and aH⟩
   go_roundw;case rel=>exact⟨j+1,by omega,by go_num,by rw[HT.out];rfl,hU.and aH⟩
   simp[intOf];omega
  have jR:ts.take j=ts:=List.take_of_length_le (by omega);have mx:=HA.out;rw[jR,<-Tm.cM]at mx;have HO:=ak mx;clear HA mx jR;go_wp2
  go_ret;exact⟨bd (by rw[<-HR.out,HO.out];rfl),hw⟩
theorem Fy(k i:Int)(n:List UInt8)(hn:n.length<=1000000)(ts:List Tm)(hlen:ts.length<=1000000)(H:om ts)(h1:(k == 5)=true)(hf:n=[])(fS:0<=i)(gn:i<=1048576)(w:World)(a:Option Addr)(cap:Nat)
    (hE:ai ae w 4 (ts.map Tm.az) a 0) (r:Int) (hr:(if Tm.aV ts then 1 else 0)=r):
    Calls Tryz.prog 124 #[.agg #[.int .i64 k,.string (B n),.int .i64 i,.slice a ts.length cap]] w fun e w'=>e=.returned (.int .i64 r)/\af ae w w':=by
  have HR:=ak hr;clear hr;obtain rfl:k=5:=by simpa using h1
  clear h1;subst hf;go_enter Tryz.func124,Tryz.ntmps124;go_wp2_with (first |(go_at_call 109;refine(cw _ _ hn).mono ?_;rintro e w' ⟨rfl,rfl⟩)|fail)
  go_loopw [6] (fun v wr=>∃ j:Nat,j<=ts.length/\v=.int .i64 j/\(ts.take j).all Tm.isObj=true/\af ae (w.alloc (.cells #[.int .i64 5,.string (B []),.int .i64 i,.slice a ts.length cap] 29)) wr)
    (fun v _=>ts.length - (intOf v).toNat)
  case atStart=>exact⟨0,Nat.zero_le _,rfl,rfl,af.refl _ _⟩
  obtain⟨j,hj,rfl,hA,hU⟩:=hrel;have HA:=ak hA;clear hA;have hw:af ae w wr:=hU.behind;obtain⟨b0,b1,b2,b3⟩:=b8 hU;by_cases aB:j<ts.length
  ·obtain⟨b,o,k1,n1,x1,s1,c1,rfl,hb,_,tw,s5,ju,yT,eY⟩:=aY (hE.on hw) j aB;have Hc:=H _ (List.getElem_mem aB) _ _ eY;have hT:=gO Tm.isObj ts j aB;rw[HA.out]at hT;have rv:=oi ts[j]
   have hM:ts[j].isObj=false->Tm.aV ts=false:=fun h=>by
     rw[Tm.cM];exact List.all_eq_false.2 ⟨_,List.getElem_mem aB,by simp[h]⟩
   have HT:=ak hT;have HM:=ak hM;clear hT hM;generalize cu ts[j]=sx at *
   generalize ts[j].isObj=bo at *
   cases bo
   all_goals
     simp only[Bool.false_eq_true,if_false,if_true]at rv;go_wp2_with fail;refine Hc.mono ?_;rintro e w1 ⟨rfl,aH⟩;go_wp2
   ·go_ret;exact⟨bd (by rw[<-HR.out,HM.out (by trivial)];rfl),hw.and aH⟩
   go_roundw;case rel=>exact⟨j+1,by omega,by go_num,by rw[HT.out];rfl,hU.and aH⟩
   simp[intOf];omega
  have jR:ts.take j=ts:=List.take_of_length_le (by omega);have mx:=HA.out;rw[jR,<-Tm.cM]at mx;have HO:=ak mx;clear HA mx jR;go_wp2
  go_ret;exact⟨bd (by rw[<-HR.out,HO.out];rfl),hw⟩
theorem Fu(k i:Int)(n:List UInt8)(hn:n.length<=1000000)(ts:List Tm)(hlen:ts.length<=1000000)(H:om ts)(h1:(k == 6)=true)(hf:n=[])(fS:0<=i)(gn:i<2048)(w:World)(a:Option Addr)(cap:Nat)
    (hE:ai ae w 4 (ts.map Tm.az) a 0) (r:Int) (hr:(if Tm.aV ts then 1 else 0)=r):
    Calls Tryz.prog 124 #[.agg #[.int .i64 k,.string (B n),.int .i64 i,.slice a ts.length cap]] w fun e w'=>e=.returned (.int .i64 r)/\af ae w w':=by
  have HR:=ak hr;clear hr;obtain rfl:k=6:=by simpa using h1
  clear h1;subst hf;go_enter Tryz.func124,Tryz.ntmps124;go_wp2_with (first |(go_at_call 109;refine(cw _ _ hn).mono ?_;rintro e w' ⟨rfl,rfl⟩)|fail)
  go_loopw [6] (fun v wr=>∃ j:Nat,j<=ts.length/\v=.int .i64 j/\(ts.take j).all Tm.isObj=true/\af ae (w.alloc (.cells #[.int .i64 6,.string (B []),.int .i64 i,.slice a ts.length cap] 29)) wr)
    (fun v _=>ts.length - (intOf v).toNat)
  case atStart=>exact⟨0,Nat.zero_le _,rfl,rfl,af.refl _ _⟩
  obtain⟨j,hj,rfl,hA,hU⟩:=hrel;have HA:=ak hA;clear hA;have hw:af ae w wr:=hU.behind;obtain⟨b0,b1,b2,b3⟩:=b8 hU;by_cases aB:j<ts.length
  ·obtain⟨b,o,k1,n1,x1,s1,c1,rfl,hb,_,tw,s5,ju,yT,eY⟩:=aY (hE.on hw) j aB;have Hc:=H _ (List.getElem_mem aB) _ _ eY;have hT:=gO Tm.isObj ts j aB;rw[HA.out]at hT;have rv:=oi ts[j]
   have hM:ts[j].isObj=false->Tm.aV ts=false:=fun h=>by
     rw[Tm.cM];exact List.all_eq_false.2 ⟨_,List.getElem_mem aB,by simp[h]⟩
   have HT:=ak hT;have HM:=ak hM;clear hT hM;generalize cu ts[j]=sx at *
   generalize ts[j].isObj=bo at *
   cases bo
   all_goals
     simp only[Bool.false_eq_true,if_false,if_true]at rv;go_wp2_with fail;refine Hc.mono ?_;rintro e w1 ⟨rfl,aH⟩;go_wp2
   ·go_ret;exact⟨bd (by rw[<-HR.out,HM.out (by trivial)];rfl),hw.and aH⟩
   go_roundw;case rel=>exact⟨j+1,by omega,by go_num,by rw[HT.out];rfl,hU.and aH⟩
   simp[intOf];omega
  have jR:ts.take j=ts:=List.take_of_length_le (by omega);have mx:=HA.out;rw[jR,<-Tm.cM]at mx;have HO:=ak mx;clear HA mx jR;go_wp2
  go_ret;exact⟨bd (by rw[<-HR.out,HO.out];rfl),hw⟩
end
section
open Go.RowKit Go.LF
theorem Jm(k i:Int)(n:List UInt8)(hn:n.length<=1000000)(ts:List Tm)(h1:(k == 4)=true)(hb:(isName n && i == 0)=false)(w:World)(a:Option Addr)(cap:Nat):
    Calls Tryz.prog 124 #[.agg #[.int .i64 k,.string (B n),.int .i64 i,.slice a ts.length cap]] w fun e w'=>e=.returned (.int .i64 0)/\af ae w w':=by
  obtain rfl:k=4:=by simpa using h1
  clear h1;by_cases EL:isName n=true
  ·have hi:¬i=0:=by simpa[EL]using hb
   clear hb;go_enter Tryz.func124,Tryz.ntmps124;go_wp2_with (first |(go_at_call 109;refine(cw _ _ hn).mono ?_;rintro e w' ⟨rfl,rfl⟩)|fail)
   go_ret;exact⟨rfl,(af.refl _ _).alloc _⟩
  clear hb;have EL:isName n=false:=by simpa using EL
  go_enter Tryz.func124,Tryz.ntmps124;go_wp2_with (first |(go_at_call 109;refine(cw _ _ hn).mono ?_;rintro e w' ⟨rfl,rfl⟩)|fail)
  all_goals go_ret
  all_goals exact⟨rfl,(af.refl _ _).alloc _⟩
theorem IC(k i:Int)(n:List UInt8)(ts:List Tm)(h1:(k == 5)=true)(hb:(n == [] && decide (0<=i) && decide (i<=1048576))=false)(w:World)(a:Option Addr)(cap:Nat):
    Calls Tryz.prog 124 #[.agg #[.int .i64 k,.string (B n),.int .i64 i,.slice a ts.length cap]] w fun e w'=>e=.returned (.int .i64 0)/\af ae w w':=by
  obtain rfl:k=5:=by simpa using h1
  clear h1;by_cases EL:n=[]
  ·subst EL;by_cases h0:0<=i
   ·have h2:¬i<=1048576:=by simpa[h0]using hb
    clear hb;go_enter Tryz.func124,Tryz.ntmps124;go_wp2_with fail;go_ret;exact⟨rfl,(af.refl _ _).alloc _⟩
   clear hb;go_enter Tryz.func124,Tryz.ntmps124;go_wp2_with fail;go_ret;exact⟨rfl,(af.refl _ _).alloc _⟩
  clear hb;go_enter Tryz.func124,Tryz.ntmps124;go_wp2_with fail;all_goals go_ret
  all_goals exact⟨rfl,(af.refl _ _).alloc _⟩
theorem IA(k i:Int)(n:List UInt8)(ts:List Tm)(h1:(k == 6)=true)(hb:(n == [] && decide (0<=i) && decide (i<2048))=false)(w:World)(a:Option Addr)(cap:Nat):
    Calls Tryz.prog 124 #[.agg #[.int .i64 k,.string (B n),.int .i64 i,.slice a ts.length cap]] w fun e w'=>e=.returned (.int .i64 0)/\af ae w w':=by
  obtain rfl:k=6:=by simpa using h1
  clear h1;by_cases EL:n=[]
  ·subst EL;by_cases h0:0<=i
   ·have h2:¬i<2048:=by simpa[h0]using hb
    clear hb;go_enter Tryz.func124,Tryz.ntmps124;go_wp2_with fail;go_ret;exact⟨rfl,(af.refl _ _).alloc _⟩
   clear hb;go_enter Tryz.func124,Tryz.ntmps124;go_wp2_with fail;go_ret;exact⟨rfl,(af.refl _ _).alloc _⟩
  clear hb;go_enter Tryz.func124,Tryz.ntmps124;go_wp2_with fail;all_goals go_ret
  all_goals exact⟨rfl,(af.refl _ _).alloc _⟩
theorem Fw(k i:Int)(n:List UInt8)(ts:List Tm)(h1:(k == 1)=false)(h2:(k == 2)=false)(h3:(k == 3)=false)(h4:(k == 4)=false)(h5:(k == 5)=false)(h6:(k == 6)=false)(w:World)(a:Option Addr)(cap:Nat):
    Calls Tryz.prog 124 #[.agg #[.int .i64 k,.string (B n),.int .i64 i,.slice a ts.length cap]] w fun e w'=>e=.returned (.int .i64 0)/\af ae w w':=by
  go_enter Tryz.func124,Tryz.ntmps124;go_wp2_with fail;all_goals go_ret
  all_goals exact⟨rfl,(af.refl _ _).alloc _⟩
end
end Go.Proofs.YthgmimncdjhgnaaGreatDoor
