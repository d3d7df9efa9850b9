/- The reference's Size, Depth, Small, Under. -/
import Derived.Test.YthgmimncdjhgnaaGreatDoorKCA
import Derived.Test.YthgmimncdjhgnaaGreatDoorKCB
import Derived.Test.YthgmimncdjhgnaaGreatDoorRows
set_option maxRecDepth 100000
set_option maxHeartbeats 4000000
namespace Go.Proofs.YthgmimncdjhgnaaGreatDoor
section
open Go.RowKit Go.LF
theorem zDq(t:Tm):t.size<=1000000->∀(w:World)(cs:List Value),zM zC w t.zN cs->
    Calls Tryz.prog 137 #[.agg cs.toArray] w fun e w'=>e=.returned (.int .i64 t.size)/\zD zC w w':=by
  induction t using Tm.ind with
  |h k n i ts ih=>
   intro hs w cs h
   obtain⟨a,cap,rfl,hcap,hE⟩:=zk.1 h
   have hlen:=Tm.zO ts
   have hds:=Tm.zo ts
   simp only[Tm.zS]at hs
   go_enter Tryz.func137,Tryz.ntmps137
   go_wp2_with fail
   go_loopw [3,4] (fun v3 v9 wr=>∃ j:Nat,j<=ts.length/\v9=.int .i64 j/\v3=.int .i64 (1+Tm.zP (ts.take j))/\zD zC (w.alloc (.cells #[.int .i64 k,.string (B n),.int .i64 i,.slice a ts.length cap] 29)) wr)
     (fun _ v9 _=>ts.length - (intOf v9).toNat)
   case atStart=>exact⟨0,Nat.zero_le _,rfl,rfl,zD.refl _ _⟩
   case round=>
     obtain⟨j,hj,rfl,rfl,hU⟩:=hrel
     have hw:zD zC w wr:=hU.behind
     obtain⟨b0,b1,b2,b3⟩:=zv hU
     have hdj:=Tm.zp ts j
     by_cases hlt:j<ts.length
     ·obtain⟨b,o,k1,n1,x1,s1,c1,rfl,hb,_,hc0,hc1,hc2,hc3,hR⟩:=zd (hE.on hw) j hlt
      have hd1:=Tm.yA (List.getElem_mem hlt)
      have hs1:=Tm.zR (List.getElem_mem hlt)
      have hsum:Tm.zP (ts.take j)+ts[j].size<=Tm.zP ts:=by rw[<-Tm.zl ts j hlt];exact Tm.zp ts (j+1)
      go_wp2_with fail
      refine(ih _ (List.getElem_mem hlt) (by omega) _ _ hR).mono ?_
      rintro e w1 ⟨rfl,hU1⟩
      go_wp2
      go_roundw
      case rel=>
        refine⟨j+1,by omega,by go_num,int_eq ?_,hU.and hU1⟩
        rw[Tm.zl ts j hlt]
        omega
      case measure=>simp[intOf];omega
     ·have hj':ts.take j=ts:=List.take_of_length_le (by omega)
      go_wp2
      go_ret
      exact⟨zb (by rw[hj'];simp;omega),hw⟩
theorem zCZ(t:Tm):t.size<=1000000->∀(w:World)(cs:List Value),zM zC w t.zN cs->
    Calls Tryz.prog 138 #[.agg cs.toArray] w fun e w'=>e=.returned (.int .i64 t.depth)/\zD zC w w':=by
  induction t using Tm.ind with
  |h k n i ts ih=>
   intro hs w cs h
   obtain⟨a,cap,rfl,hcap,hE⟩:=zk.1 h
   have hlen:=Tm.zO ts
   have hds:=Tm.zo ts
   simp only[Tm.zS]at hs
   go_enter Tryz.func138,Tryz.ntmps138
   go_wp2_with fail
   go_loopw [3,4] (fun v3 v9 wr=>∃ j:Nat,j<=ts.length/\v9=.int .i64 j/\v3=.int .i64 (Tm.zV (ts.take j))/\zD zC (w.alloc (.cells #[.int .i64 k,.string (B n),.int .i64 i,.slice a ts.length cap] 29)) wr)
     (fun _ v9 _=>ts.length - (intOf v9).toNat)
   case atStart=>exact⟨0,Nat.zero_le _,rfl,rfl,zD.refl _ _⟩
   case round=>
     obtain⟨j,hj,rfl,rfl,hU⟩:=hrel
     have hw:zD zC w wr:=hU.behind
     obtain⟨b0,b1,b2,b3⟩:=zv hU
     have hdj:=Tm.yj ts j
     by_cases hlt:j<ts.length
     ·obtain⟨b,o,k1,n1,x1,s1,c1,rfl,hb,_,hc0,hc1,hc2,hc3,hR⟩:=zd (hE.on hw) j hlt
      have hd1:=Tm.yA (List.getElem_mem hlt)
      have hs1:=Tm.zR (List.getElem_mem hlt)
      go_wp2_with fail
      refine(ih _ (List.getElem_mem hlt) (by omega) _ _ hR).mono ?_
      rintro e w1 ⟨rfl,hU1⟩
      go_wp2
      go_roundw
      case rel=>
        refine⟨j+1,by omega,by go_num,int_eq ?_,hU.and hU1⟩
        rw[Tm.yh ts j hlt]
        split<;>omega
      case measure=>simp[intOf];omega
     ·have hj':ts.take j=ts:=List.take_of_length_le (by omega)
      go_wp2
      go_ret
      exact⟨zb (by simp),hw⟩
theorem ZH(t:Tm)(hs':t.size<=1000000)(w:World)(cs:List Value)(h:zM zC w t.zN cs):
    Calls Tryz.prog 80 #[.agg cs.toArray] w fun e w'=>e=.returned (.bool t.small)/\zD zC w w':=by
  have hp:(decide (t.size<=4096) && decide (t.depth<=128))=t.small:=rfl
  have HS:=fun w cs h=>zDq t hs' w cs h
  have HD:=fun w cs h=>zCZ t hs' w cs h
  obtain⟨k,n,i,ts,a,cap,ht,rfl,hcap,hE⟩:=zX h
  generalize t.size=sz at *
  generalize t.depth=dp at *
  generalize t.small=sm at *
  have HT:=zH ht
  have HP:=zH hp
  clear ht hp hcap
  generalize ts.length=len at *
  go_enter Tryz.func80,Tryz.ntmps80
  go_wp2_with fail
  refine(HS _ _ (h.new _)).mono ?_
  rintro e w1 ⟨rfl,hU⟩
  obtain⟨b0,b1,b2,b3⟩:=zv hU
  have hw1:zD zC w w1:=hU.behind
  by_cases hsz:sz<=4096
  ·go_wp2_with fail
   refine(HD _ _ (h.on hw1)).mono ?_
   rintro e w2 ⟨rfl,hU2⟩
   go_wp2
   go_ret
   exact⟨zU (by rw[<-HP.out,Bool.eq_iff_iff];simp;omega),hw1.and hU2⟩
  ·go_wp2_with fail
   go_ret
   exact⟨zU (by rw[<-HP.out,Bool.eq_iff_iff];simp;omega),hw1⟩
theorem QR(k j:Int)(j':Nat)(hj:j=j')(n:List UInt8)(i:Int)(s:Value)(w:World):
    Calls Tryz.prog 136 #[.agg #[.int .i64 k,.string (B n),.int .i64 i,s],.int .i64 j] w fun e w'=>e=.returned (.int .i64 (Tm.under k j'))/\zD zC w w':=by
  rcases YV k j' with⟨k3,hu⟩|⟨k3,k2,j1,hu⟩|⟨k3,k2,j1,hu⟩|⟨k3,k2,hu⟩
  all_goals
    rw[hu]
    clear hu
    subst hj
    go_enter Tryz.func136,Tryz.ntmps136
    go_wp2
    go_ret
    exact⟨rfl,(zD.refl _ _).alloc _⟩
end
section
open Go.RowKit Go.LF
def zz(t:Tm):Int:=(if t.isObj then 1 else 0)+(if t.zW then 2 else 0)+(if t.zZ then 4 else 0)
theorem zEh(k i:Int)(n:List UInt8)(ts:List Tm)(h1:(k == 1)=true)(r:Int)(hr:(if n == [] && (i == 0 && ts.isEmpty)then 4 else 0)=r)(w:World)(a:Option Addr)(cap:Nat):
    Calls Tryz.prog 124 #[.agg #[.int .i64 k,.string (B n),.int .i64 i,.slice a ts.length cap]] w fun e w'=>e=.returned (.int .i64 r)/\zD zC w w':=by
  have HR:=zH hr
  clear hr
  obtain rfl:k=1:=by simpa using h1
  clear h1
  go_enter Tryz.func124,Tryz.ntmps124
  go_wp2_with fail
  all_goals go_ret
  all_goals refine⟨zb ?_,(zD.refl _ _).alloc _⟩
  all_goals(rw[<-HR.out];cases ts<;>simp_all<;>omega)
theorem zGG(k i:Int)(n:List UInt8)(hn:n.length<=1000000)(ts:List Tm)(h1:(k == 2)=true)(hb:Tm.bound n i ts 2=false)(w:World)(a:Option Addr)(cap:Nat):
    Calls Tryz.prog 124 #[.agg #[.int .i64 k,.string (B n),.int .i64 i,.slice a ts.length cap]] w fun e w'=>e=.returned (.int .i64 0)/\zD zC w w':=by
  have HB:=zH hb
  clear hb
  obtain rfl:k=2:=by simpa using h1
  clear h1
  go_enter Tryz.func124,Tryz.ntmps124
  go_wp2_with (first |(go_at_call 109;refine(yB _ _ hn).mono ?_;rintro e w' ⟨rfl,rfl⟩)|fail)
  all_goals try (go_ret;exact⟨rfl,(zD.refl _ _).alloc _⟩)
  all_goals(exfalso;have hb:=HB.out;simp_all [Tm.bound];try omega)
theorem zGa(k i:Int)(n:List UInt8)(hn:n.length<=1000000)(ts:List Tm)(h1:(k == 3)=true)(hb:Tm.bound n i ts 1=false)(w:World)(a:Option Addr)(cap:Nat):
    Calls Tryz.prog 124 #[.agg #[.int .i64 k,.string (B n),.int .i64 i,.slice a ts.length cap]] w fun e w'=>e=.returned (.int .i64 0)/\zD zC w w':=by
  have HB:=zH hb
  clear hb
  obtain rfl:k=3:=by simpa using h1
  clear h1
  go_enter Tryz.func124,Tryz.ntmps124
  go_wp2_with (first |(go_at_call 109;refine(yB _ _ hn).mono ?_;rintro e w' ⟨rfl,rfl⟩)|fail)
  all_goals try (go_ret;exact⟨rfl,(zD.refl _ _).alloc _⟩)
  all_goals(exfalso;have hb:=HB.out;simp_all [Tm.bound];try omega)
theorem Yb(t:Tm)(m:Int)(hm:m=1\/m=2\/m=4\/m=6):
    bits .and .i64 (zz t) m=(if t.isObj then bits .and .i64 1 m else 0)+(if t.zW then bits .and .i64 2 m else 0)+(if t.zZ then bits .and .i64 4 m else 0):=by
  unfold zz
  rcases hm with rfl |rfl |rfl |rfl<;>cases t.isObj<;>cases t.zW<;>cases t.zZ<;>decide
theorem XG(t:Tm):bits .and .i64 (zz t) 1=if t.isObj then 1 else 0:=by
  rw[Yb t 1 (by simp)];cases t.isObj<;>cases t.zW<;>cases t.zZ<;>decide
theorem zDj(t:Tm):bits .and .i64 (zz t) 2=if t.zW then 2 else 0:=by
  rw[Yb t 2 (by simp)];cases t.isObj<;>cases t.zW<;>cases t.zZ<;>decide
theorem zG5(t:Tm):bits .and .i64 (zz t) 4=if t.zZ then 4 else 0:=by
  rw[Yb t 4 (by simp)];cases t.isObj<;>cases t.zW<;>cases t.zZ<;>decide
theorem zIi(t:Tm):bits .and .i64 (zz t) 6=(if t.zW then 2 else 0)+(if t.zZ then 4 else 0):=by
  rw[Yb t 6 (by simp)];cases t.isObj<;>cases t.zW<;>cases t.zZ<;>decide
def Xf(ts:List Tm):Prop:=∀ x∈ts,∀(w:World)(cs:List Value),zM zC w x.zN cs->
    Calls Tryz.prog 124 #[.agg cs.toArray] w fun e w'=>e=.returned (.int .i64 (zz x))/\zD zC w w'
end
end Go.Proofs.YthgmimncdjhgnaaGreatDoor
