/- The reference's Size, Depth, Small once more: of larger terms. -/
import Derived.Test.YthgmimncdjhgnaaGreatDoorKCD
import Derived.Test.YthgmimncdjhgnaaGreatDoorKEF
set_option maxRecDepth 100000
set_option maxHeartbeats 8000000
namespace Go.Proofs.YthgmimncdjhgnaaGreatDoor
section
open Go.RowKit Go.LF
theorem zCw(t:Tm):t.size<=100000000->∀(w:World)(cs:List Value),zM zC w t.zN cs->
    Calls Tryz.prog 137 #[.agg cs.toArray] w fun e w'=>e=.returned (.int .i64 t.size)/\zD zC w w':=by
  induction t using Tm.ind with
  |h k n i ts ih=>
   intro hs w cs h
   obtain⟨a,cap,rfl,hcap,hE⟩:=zk.1 h
   have hlen:=Tm.zO ts
   have hds:=Tm.zo ts
   simp only[Tm.zS]at hs
   go_enter Tryz.func137,Tryz.ntmps137
   go_wp2_with fail
   go_loopw [3,4] (fun v3 v9 wr=>∃ j:Nat,j<=ts.length/\v9=.int .i64 j/\v3=.int .i64 (1+Tm.zP (ts.take j))/\zD zC (w.alloc (.cells #[.int .i64 k,.string (B n),.int .i64 i,.slice a ts.length cap] 29)) wr)
     (fun _ v9 _=>ts.length - (intOf v9).toNat)
   case atStart=>exact⟨0,Nat.zero_le _,rfl,rfl,zD.refl _ _⟩
   case round=>
     obtain⟨j,hj,rfl,rfl,hU⟩:=hrel
     have hw:zD zC w wr:=hU.behind
     obtain⟨b0,b1,b2,b3⟩:=zv hU
     have hdj:=Tm.zp ts j
     by_cases hlt:j<ts.length
     ·obtain⟨b,o,k1,n1,x1,s1,c1,rfl,hb,_,hc0,hc1,hc2,hc3,hR⟩:=zd (hE.on hw) j hlt
      have hd1:=Tm.yA (List.getElem_mem hlt)
      have hs1:=Tm.zR (List.getElem_mem hlt)
      have hsum:Tm.zP (ts.take j)+ts[j].size<=Tm.zP ts:=by rw[<-Tm.zl ts j hlt];exact Tm.zp ts (j+1)
      go_wp2_with fail
      refine(ih _ (List.getElem_mem hlt) (by omega) _ _ hR).mono ?_
      rintro e w1 ⟨rfl,hU1⟩
      go_wp2
      go_roundw
      case rel=>
        refine⟨j+1,by omega,by go_num,int_eq ?_,hU.and hU1⟩
        rw[Tm.zl ts j hlt]
        omega
      case measure=>simp[intOf];omega
     ·have hj':ts.take j=ts:=List.take_of_length_le (by omega)
      go_wp2
      go_ret
      exact⟨zb (by rw[hj'];simp;omega),hw⟩
theorem zBX(t:Tm):t.size<=100000000->∀(w:World)(cs:List Value),zM zC w t.zN cs->
    Calls Tryz.prog 138 #[.agg cs.toArray] w fun e w'=>e=.returned (.int .i64 t.depth)/\zD zC w w':=by
  induction t using Tm.ind with
  |h k n i ts ih=>
   intro hs w cs h
   obtain⟨a,cap,rfl,hcap,hE⟩:=zk.1 h
   have hlen:=Tm.zO ts
   have hds:=Tm.zo ts
   simp only[Tm.zS]at hs
   go_enter Tryz.func138,Tryz.ntmps138
   go_wp2_with fail
   go_loopw [3,4] (fun v3 v9 wr=>∃ j:Nat,j<=ts.length/\v9=.int .i64 j/\v3=.int .i64 (Tm.zV (ts.take j))/\zD zC (w.alloc (.cells #[.int .i64 k,.string (B n),.int .i64 i,.slice a ts.length cap] 29)) wr)
     (fun _ v9 _=>ts.length - (intOf v9).toNat)
   case atStart=>exact⟨0,Nat.zero_le _,rfl,rfl,zD.refl _ _⟩
   case round=>
     obtain⟨j,hj,rfl,rfl,hU⟩:=hrel
     have hw:zD zC w wr:=hU.behind
     obtain⟨b0,b1,b2,b3⟩:=zv hU
     have hdj:=Tm.yj ts j
     by_cases hlt:j<ts.length
     ·obtain⟨b,o,k1,n1,x1,s1,c1,rfl,hb,_,hc0,hc1,hc2,hc3,hR⟩:=zd (hE.on hw) j hlt
      have hd1:=Tm.yA (List.getElem_mem hlt)
      have hs1:=Tm.zR (List.getElem_mem hlt)
      go_wp2_with fail
      refine(ih _ (List.getElem_mem hlt) (by omega) _ _ hR).mono ?_
      rintro e w1 ⟨rfl,hU1⟩
      go_wp2
      go_roundw
      case rel=>
        refine⟨j+1,by omega,by go_num,int_eq ?_,hU.and hU1⟩
        rw[Tm.yh ts j hlt]
        split<;>omega
      case measure=>simp[intOf];omega
     ·have hj':ts.take j=ts:=List.take_of_length_le (by omega)
      go_wp2
      go_ret
      exact⟨zb (by simp),hw⟩
theorem zBU(t:Tm)(hs':t.size<=100000000)(w:World)(cs:List Value)(h:zM zC w t.zN cs):
    Calls Tryz.prog 80 #[.agg cs.toArray] w fun e w'=>e=.returned (.bool t.small)/\zD zC w w':=by
  have hp:(decide (t.size<=4096) && decide (t.depth<=128))=t.small:=rfl
  have HS:=fun w cs h=>zCw t hs' w cs h
  have HD:=fun w cs h=>zBX t hs' w cs h
  obtain⟨k,n,i,ts,a,cap,ht,rfl,hcap,hE⟩:=zX h
  generalize t.size=sz at *
  generalize t.depth=dp at *
  generalize t.small=sm at *
  have HT:=zH ht
  have HP:=zH hp
  clear ht hp hcap
  generalize ts.length=len at *
  go_enter Tryz.func80,Tryz.ntmps80
  go_wp2_with fail
  refine(HS _ _ (h.new _)).mono ?_
  rintro e w1 ⟨rfl,hU⟩
  obtain⟨b0,b1,b2,b3⟩:=zv hU
  have hw1:zD zC w w1:=hU.behind
  by_cases hsz:sz<=4096
  ·go_wp2_with fail
   refine(HD _ _ (h.on hw1)).mono ?_
   rintro e w2 ⟨rfl,hU2⟩
   go_wp2
   go_ret
   exact⟨zU (by rw[<-HP.out,Bool.eq_iff_iff];simp;omega),hw1.and hU2⟩
  ·go_wp2_with fail
   go_ret
   exact⟨zU (by rw[<-HP.out,Bool.eq_iff_iff];simp;omega),hw1⟩
end
section
open Go.RowKit Go.LF
def zIg(O:Nat->Prop)(x:Nat)(r:Tm.xU)(e:Ending)(w':World):Prop:=
  (∃ k n i a len cap,e=.returned (.agg #[.int .i64 k,.string (B n),.int .i64 i,.slice a len cap])/\zM O w' r.t.zN [.int .i64 k,.string (B n),.int .i64 i,.slice a len cap])/\zm w' x (.int .i64 (r.w:Int)) (.int .i64 r.e) 181
theorem Zr(t:Tm)(hs:t.size<=100000000)(x wj:Nat)(O:Nat->Prop)(w:World)(hx:O x)(hO:∀ b,O b->b<w.heap.size)(k i:Int)(n:List UInt8)(a:Option Addr)(len cap:Nat)(hX:zm w x (.int .i64 (wj:Int)) (.int .i64 0) 181)(hR:zM O w t.zN [.int .i64 k,.string (B n),.int .i64 i,.slice a len cap]):
    Calls Tryz.prog 202 #[.pointer (some ⟨x,0,none⟩),.agg #[.int .i64 k,.string (B n),.int .i64 i,.slice a len cap]] w fun e w'=>zIg O x (Tm.ZU t wj) e w'/\zD (fun b=>b=x) w w':=by
  obtain⟨w1,hw1⟩:∃ w1,w1=(w.alloc (.cells #[.int .i64 k,.string (B n),.int .i64 i,.slice a len cap] 29)).alloc (.cells #[.int .i64 0,.string (B []),.int .i64 0,.slice none 0 0] 29):=⟨_,rfl⟩
  have hU1:zD zC w w1:=by rw[hw1];exact((zD.refl zC w).alloc _).alloc _
  have ht1:zK w1 w.heap.size (.int .i64 k) (.string (B n)) (.int .i64 i) (.slice a len cap) 29:=by rw[hw1];exact(zK.zL rfl).kept ((zD.refl zC _).alloc _)
  have hr1:zK w1 (w.heap.size+1) (.int .i64 0) (.string (B [])) (.int .i64 0) (.slice none 0 0) 29:=by rw[hw1];exact zK.zL (by simp)
  have hX1:=hX.kept hU1
  have hR1:=(zM.xZ hR).on hU1
  have C:=zBU t hs w1 _ (yV hR1)
  have HW:=zH hw1
  obtain⟨H,hH⟩:∃ H,H=w.heap.size:=⟨_,rfl⟩
  have HH:=zH hH
  rw[<-hH]at ht1 hr1 hR1
  have hxH:x<H:=by rw[hH];exact hO x hx
  obtain⟨r,hr⟩:∃ r,r=Tm.ZU t wj:=⟨_,rfl⟩
  rw[<-hr]
  have HRR:=zH hr
  obtain⟨sm,hsm⟩:∃ sm,sm=t.small:=⟨_,rfl⟩
  rw[<-hsm]at C
  have HSM:=zH hsm
  clear hw1 hH hO hX hR hr hsm
  obtain⟨c0,c1⟩:=hX1.cells
  go_enter Tryz.func202,Tryz.ntmps202
  go_upto_region 1 with fail
  rw[<-show B []={ data:=#[] }from rfl,<-HW.out,<-HH.out]
  obtain⟨t0,t1,t2,t3⟩:=ht1.cells
  go_wp2_with fail
  refine C.mono ?_
  rintro e w2 ⟨rfl,hU2⟩
  have hX2:=hX1.kept hU2
  have hr2:=hr1.kept hU2
  have ht2:=ht1.kept hU2
  have hR2:=hR1.on hU2
  obtain⟨d0,d1⟩:=hX2.cells
  obtain⟨g0,g1⟩:=hX2.zI
  clear c0 c1 t0 t1 t2 t3
  obtain⟨t0,t1,t2,t3⟩:=ht2.cells
  obtain⟨y0,y1,y2,y3⟩:=hr2.cells
  obtain⟨z0,z1,z2,z3⟩:=hr2.zI
  have hlr:=hr2.lt
  cases sm
  ·have hrc:r=⟨2,Tm.zT,wj⟩:=by rw[HRR.out];unfold Tm.ZU;rw[<-HSM.out];rfl
   have hs3:=hX2.YW (.int .i64 2)
   have hU3:zD (fun b=>b=x) w2 (w2.setCell ⟨x,1,none⟩ (.int .i64 2)):=zD.set (zD.refl _ _) 1 _
   have hr3:=hr2.zF hU3 (by omega)
   have hset:=hr3.set (d0:=.int .i64 0) (d1:=.string (B [])) (d2:=.int .i64 0) (d3:=.slice none 0 0)
   obtain⟨e0,e1,e2,e3⟩:=hset.1.cells
   have HEE:=zH (And.intro e0 (And.intro e1 (And.intro e2 (And.intro e3 (And.intro hset.2 (And.intro hs3 (And.intro hU3 hrc)))))))
   have hne:¬x=H+1:=by omega
   clear e0 e1 e2 e3 hset hs3 hU3 hr3 hrc
   go_wp2_with fail
   obtain⟨e0,e1,e2,e3,hset,hs3,hU3,hrc⟩:=HEE.out
   refine bodyPost_ret (v:=.agg #[.int .i64 0,.string (B []),.int .i64 0,.slice none 0 0]) ?_ rfl ?_
   ·simp[results,Tryz.f202,go_sem,e0,e1,e2,e3]
   ·refine⟨⟨⟨0,[],0,none,0,0,rfl,by rw[hrc];exact ze 0 [] 0⟩,?_⟩,(((hU1.and hU2).mono (fun _ _ x=>x.elim)).trans hU3 (fun _ _ e=>e)).trans hset (fun b hb e=>by have:=HH.out;omega)⟩
    rw[hrc]
    exact hs3.zF hset hne
  ·have hrc:r=⟨0,t,wj⟩:=by rw[HRR.out];exact Tm.Xh HSM.out.symm wj
   have hset:=hr2.set (d0:=.int .i64 k) (d1:=.string (B n)) (d2:=.int .i64 i) (d3:=.slice a len cap)
   obtain⟨e0,e1,e2,e3⟩:=hset.1.cells
   have HEE:=zH (And.intro e0 (And.intro e1 (And.intro e2 (And.intro e3 (And.intro hset.2 hrc)))))
   have hne:¬x=H+1:=by omega
   clear e0 e1 e2 e3 hset hrc
   go_wp2_with fail
   obtain⟨e0,e1,e2,e3,hset,hrc⟩:=HEE.out
   refine bodyPost_ret (v:=.agg #[.int .i64 k,.string (B n),.int .i64 i,.slice a len cap]) ?_ rfl ?_
   ·simp[results,Tryz.f202,go_sem,e0,e1,e2,e3]
   ·refine⟨⟨⟨k,n,i,a,len,cap,rfl,by rw[hrc];exact zM.weaken (fun b _ e=>.inl e) _ _ (zM.zF hset (fun b e=>.inr (by omega)) _ _ hR2)⟩,?_⟩,((hU1.and hU2).mono (fun _ _ x=>x.elim)).trans hset (fun b hb e=>by have:=HH.out;omega)⟩
    rw[hrc]
    exact hX2.zF hset hne
end
end Go.Proofs.YthgmimncdjhgnaaGreatDoor
