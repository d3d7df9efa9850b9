/- Ge cX VH, Yu, Small, als. -/
import Derived.Test.YthgmimncdjhgnaaGreatDoorXCB
set_option maxRecDepth 100000
set_option maxHeartbeats 4000000
namespace Go.Proofs.YthgmimncdjhgnaaGreatDoor
section
open Go.RowKit Go.LF
theorem CT(t:Tm):t.size<=1000000->∀(w:World)(cs:List Value),aw ae w t.az cs->
    Calls Tryz.prog 137 #[.agg cs.toArray] w fun e w'=>e=.returned (.int .i64 t.size)/\af ae w w':=by
  induction t using Tm.ind with
  |h k n i ts ih=>
   intro hs w cs h;obtain⟨a,cap,rfl,aX,hE⟩:=bg.1 h;have hlen:=Tm.aA ts;have FW:=Tm.bQ ts;simp only[Tm.aM]at hs;go_enter Tryz.func137,Tryz.ntmps137;go_wp2_with fail
   go_loopw [3,4] (fun v3 v9 wr=>∃ j:Nat,j<=ts.length/\v9=.int .i64 j/\v3=.int .i64 (1+Tm.aD (ts.take j))/\af ae (w.alloc (.cells #[.int .i64 k,.string (B n),.int .i64 i,.slice a ts.length cap] 29)) wr)
     (fun _ v9 _=>ts.length - (intOf v9).toNat)
   case atStart=>exact⟨0,Nat.zero_le _,rfl,rfl,af.refl _ _⟩
   obtain⟨j,hj,rfl,rfl,hU⟩:=hrel;have hw:af ae w wr:=hU.behind;obtain⟨b0,b1,b2,b3⟩:=b8 hU;have OG:=Tm.bW ts j;by_cases aB:j<ts.length
   ·obtain⟨b,o,k1,n1,x1,s1,c1,rfl,hb,_,tw,s5,ju,yT,hR⟩:=aY (hE.on hw) j aB;have te:=Tm.bz (List.getElem_mem aB);have jI:=Tm.aK (List.getElem_mem aB);have PK:Tm.aD (ts.take j)+ts[j].size<=Tm.aD ts:=by rw[<-Tm.bJ ts j aB];exact Tm.bW ts (j+1)
    go_wp2_with fail;refine(ih _ (List.getElem_mem aB) (by omega) _ _ hR).mono ?_;rintro e w1 ⟨rfl,aH⟩;go_wp2
    go_roundw
    case rel=>
      refine⟨j+1,by omega,by go_num,int_eq ?_,hU.and aH⟩;rw[Tm.bJ ts j aB];omega
    simp[intOf];omega
   have jR:ts.take j=ts:=List.take_of_length_le (by omega);go_wp2
   go_ret;exact⟨bd (by rw[jR];simp;omega),hw⟩
theorem Ap(t:Tm):t.size<=1000000->∀(w:World)(cs:List Value),aw ae w t.az cs->
    Calls Tryz.prog 138 #[.agg cs.toArray] w fun e w'=>e=.returned (.int .i64 t.depth)/\af ae w w':=by
  induction t using Tm.ind with
  |h k n i ts ih=>
   intro hs w cs h;obtain⟨a,cap,rfl,aX,hE⟩:=bg.1 h;have hlen:=Tm.aA ts;have FW:=Tm.bQ ts;simp only[Tm.aM]at hs;go_enter Tryz.func138,Tryz.ntmps138;go_wp2_with fail
   go_loopw [3,4] (fun v3 v9 wr=>∃ j:Nat,j<=ts.length/\v9=.int .i64 j/\v3=.int .i64 (Tm.aQ (ts.take j))/\af ae (w.alloc (.cells #[.int .i64 k,.string (B n),.int .i64 i,.slice a ts.length cap] 29)) wr)
     (fun _ v9 _=>ts.length - (intOf v9).toNat)
   case atStart=>exact⟨0,Nat.zero_le _,rfl,rfl,af.refl _ _⟩
   obtain⟨j,hj,rfl,rfl,hU⟩:=hrel;have hw:af ae w wr:=hU.behind;obtain⟨b0,b1,b2,b3⟩:=b8 hU;have OG:=Tm.dT ts j;by_cases aB:j<ts.length
   ·obtain⟨b,o,k1,n1,x1,s1,c1,rfl,hb,_,tw,s5,ju,yT,hR⟩:=aY (hE.on hw) j aB;have te:=Tm.bz (List.getElem_mem aB);have jI:=Tm.aK (List.getElem_mem aB);go_wp2_with fail;refine(ih _ (List.getElem_mem aB) (by omega) _ _ hR).mono ?_;rintro e w1 ⟨rfl,aH⟩;go_wp2
    go_roundw
    case rel=>
      refine⟨j+1,by omega,by go_num,int_eq ?_,hU.and aH⟩;rw[Tm.dP ts j aB];split<;>omega
    simp[intOf];omega
   have jR:ts.take j=ts:=List.take_of_length_le (by omega);go_wp2
   go_ret;exact⟨bd (by simp),hw⟩
theorem gz(t:Tm)(K2:t.size<=1000000)(w:World)(cs:List Value)(h:aw ae w t.az cs):
    Calls Tryz.prog 80 #[.agg cs.toArray] w fun e w'=>e=.returned (.bool t.small)/\af ae w w':=by
  have hp:(decide (t.size<=4096) && decide (t.depth<=128))=t.small:=rfl;have HS:=fun w cs h=>CT t K2 w cs h
  have HD:=fun w cs h=>Ap t K2 w cs h
  obtain⟨k,n,i,ts,a,cap,ht,rfl,aX,hE⟩:=aP h;generalize t.size=sz at *
  generalize t.depth=dp at *
  generalize t.small=sm at *
  have HT:=ak ht;have HP:=ak hp;clear ht hp aX;generalize ts.length=len at *
  go_enter Tryz.func80,Tryz.ntmps80;go_wp2_with fail;refine(HS _ _ (h.new _)).mono ?_;rintro e w1 ⟨rfl,hU⟩;obtain⟨b0,b1,b2,b3⟩:=b8 hU;have aF:af ae w w1:=hU.behind;by_cases ee:sz<=4096
  ·go_wp2_with fail;refine(HD _ _ (h.on aF)).mono ?_;rintro e w2 ⟨rfl,aL⟩;go_wp2
   go_ret;exact⟨aR (by rw[<-HP.out,Bool.eq_iff_iff];simp;omega),aF.and aL⟩
  go_wp2_with fail;go_ret;exact⟨aR (by rw[<-HP.out,Bool.eq_iff_iff];simp;omega),aF⟩
theorem oV(k j:Int)(j':Nat)(hj:j=j')(n:List UInt8)(i:Int)(s:Value)(w:World):
    Calls Tryz.prog 136 #[.agg #[.int .i64 k,.string (B n),.int .i64 i,s],.int .i64 j] w fun e w'=>e=.returned (.int .i64 (Tm.under k j'))/\af ae w w':=by
  rcases jW k j' with⟨k3,hu⟩|⟨k3,k2,j1,hu⟩|⟨k3,k2,j1,hu⟩|⟨k3,k2,hu⟩
  all_goals
    rw[hu];clear hu;subst hj;go_enter Tryz.func136,Tryz.ntmps136;go_wp2
    go_ret;exact⟨rfl,(af.refl _ _).alloc _⟩
end
section
open Go.RowKit Go.LF
def cu(t:Tm):Int:=(if t.isObj then 1 else 0)+(if t.aC then 2 else 0)+(if t.aI then 4 else 0)
theorem Fb(k i:Int)(n:List UInt8)(ts:List Tm)(h1:(k == 1)=true)(r:Int)(hr:(if n == [] && (i == 0 && ts.isEmpty)then 4 else 0)=r)(w:World)(a:Option Addr)(cap:Nat):
    Calls Tryz.prog 124 #[.agg #[.int .i64 k,.string (B n),.int .i64 i,.slice a ts.length cap]] w fun e w'=>e=.returned (.int .i64 r)/\af ae w w':=by
  have HR:=ak hr;clear hr;obtain rfl:k=1:=by simpa using h1
  clear h1;go_enter Tryz.func124,Tryz.ntmps124;go_wp2_with fail;all_goals go_ret
  all_goals refine⟨bd ?_,(af.refl _ _).alloc _⟩
  all_goals(rw[<-HR.out];cases ts<;>simp_all<;>omega)
theorem IF(k i:Int)(n:List UInt8)(hn:n.length<=1000000)(ts:List Tm)(h1:(k == 2)=true)(hb:Tm.bound n i ts 2=false)(w:World)(a:Option Addr)(cap:Nat):
    Calls Tryz.prog 124 #[.agg #[.int .i64 k,.string (B n),.int .i64 i,.slice a ts.length cap]] w fun e w'=>e=.returned (.int .i64 0)/\af ae w w':=by
  have HB:=ak hb;clear hb;obtain rfl:k=2:=by simpa using h1
  clear h1;go_enter Tryz.func124,Tryz.ntmps124;go_wp2_with (first |(go_at_call 109;refine(cw _ _ hn).mono ?_;rintro e w' ⟨rfl,rfl⟩)|fail)
  all_goals try (go_ret;exact⟨rfl,(af.refl _ _).alloc _⟩)
  all_goals(exfalso;have hb:=HB.out;simp_all [Tm.bound];try omega)
theorem JR(k i:Int)(n:List UInt8)(hn:n.length<=1000000)(ts:List Tm)(h1:(k == 3)=true)(hb:Tm.bound n i ts 1=false)(w:World)(a:Option Addr)(cap:Nat):
    Calls Tryz.prog 124 #[.agg #[.int .i64 k,.string (B n),.int .i64 i,.slice a ts.length cap]] w fun e w'=>e=.returned (.int .i64 0)/\af ae w w':=by
  have HB:=ak hb;clear hb;obtain rfl:k=3:=by simpa using h1
  clear h1;go_enter Tryz.func124,Tryz.ntmps124;go_wp2_with (first |(go_at_call 109;refine(cw _ _ hn).mono ?_;rintro e w' ⟨rfl,rfl⟩)|fail)
  all_goals try (go_ret;exact⟨rfl,(af.refl _ _).alloc _⟩)
  all_goals(exfalso;have hb:=HB.out;simp_all [Tm.bound];try omega)
theorem mj(t:Tm)(m:Int)(hm:m=1\/m=2\/m=4\/m=6):
    bits .and .i64 (cu t) m=(if t.isObj then bits .and .i64 1 m else 0)+(if t.aC then bits .and .i64 2 m else 0)+(if t.aI then bits .and .i64 4 m else 0):=by
  unfold cu;rcases hm with rfl |rfl |rfl |rfl<;>cases t.isObj<;>cases t.aC<;>cases t.aI<;>decide
theorem oi(t:Tm):bits .and .i64 (cu t) 1=if t.isObj then 1 else 0:=by
  rw[mj t 1 (by simp)];cases t.isObj<;>cases t.aC<;>cases t.aI<;>decide
theorem CS(t:Tm):bits .and .i64 (cu t) 2=if t.aC then 2 else 0:=by
  rw[mj t 2 (by simp)];cases t.isObj<;>cases t.aC<;>cases t.aI<;>decide
theorem Od(t:Tm):bits .and .i64 (cu t) 4=if t.aI then 4 else 0:=by
  rw[mj t 4 (by simp)];cases t.isObj<;>cases t.aC<;>cases t.aI<;>decide
theorem Qm(t:Tm):bits .and .i64 (cu t) 6=(if t.aC then 2 else 0)+(if t.aI then 4 else 0):=by
  rw[mj t 6 (by simp)];cases t.isObj<;>cases t.aC<;>cases t.aI<;>decide
def om(ts:List Tm):Prop:=∀ x∈ts,∀(w:World)(cs:List Value),aw ae w x.az cs->
    Calls Tryz.prog 124 #[.agg cs.toArray] w fun e w'=>e=.returned (.int .i64 (cu x))/\af ae w w'
end
end Go.Proofs.YthgmimncdjhgnaaGreatDoor
