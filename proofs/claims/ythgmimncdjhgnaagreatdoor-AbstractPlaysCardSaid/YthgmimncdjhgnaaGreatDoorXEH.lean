/- Ge cX VH, Yu, Small once more: of ag3 zp. -/
import Derived.Test.YthgmimncdjhgnaaGreatDoorXEF
set_option maxRecDepth 100000
set_option maxHeartbeats 8000000
namespace Go.Proofs.YthgmimncdjhgnaaGreatDoor
section
open Go.RowKit Go.LF
theorem AH(t:Tm):t.size<=100000000->∀(w:World)(cs:List Value),aw ae w t.az cs->
    Calls Tryz.prog 137 #[.agg cs.toArray] w fun e w'=>e=.returned (.int .i64 t.size)/\af ae w w':=by
  induction t using Tm.ind with
  |h k n i ts ih=>
   intro hs w cs h;obtain⟨a,cap,rfl,aX,hE⟩:=bg.1 h;have hlen:=Tm.aA ts;have FW:=Tm.bQ ts;simp only[Tm.aM]at hs;go_enter Tryz.func137,Tryz.ntmps137;go_wp2_with fail
   go_loopw [3,4] (fun v3 v9 wr=>∃ j:Nat,j<=ts.length/\v9=.int .i64 j/\v3=.int .i64 (1+Tm.aD (ts.take j))/\af ae (w.alloc (.cells #[.int .i64 k,.string (B n),.int .i64 i,.slice a ts.length cap] 29)) wr)
     (fun _ v9 _=>ts.length - (intOf v9).toNat)
   case atStart=>exact⟨0,Nat.zero_le _,rfl,rfl,af.refl _ _⟩
   obtain⟨j,hj,rfl,rfl,hU⟩:=hrel;have hw:af ae w wr:=hU.behind;obtain⟨b0,b1,b2,b3⟩:=b8 hU;have OG:=Tm.bW ts j;by_cases aB:j<ts.length
   ·obtain⟨b,o,k1,n1,x1,s1,c1,rfl,hb,_,tw,s5,ju,yT,hR⟩:=aY (hE.on hw) j aB;have te:=Tm.bz (List.getElem_mem aB);have jI:=Tm.aK (List.getElem_mem aB);have PK:Tm.aD (ts.take j)+ts[j].size<=Tm.aD ts:=by rw[<-Tm.bJ ts j aB];exact Tm.bW ts (j+1)
    go_wp2_with fail;refine(ih _ (List.getElem_mem aB) (by omega) _ _ hR).mono ?_;rintro e w1 ⟨rfl,aH⟩;go_wp2
    go_roundw
    case rel=>
      refine⟨j+1,by omega,by go_num,int_eq ?_,hU.and aH⟩;rw[Tm.bJ ts j aB];omega
    simp[intOf];omega
   have jR:ts.take j=ts:=List.take_of_length_le (by omega);go_wp2
   go_ret;exact⟨bd (by rw[jR];simp;omega),hw⟩
theorem xX(t:Tm):t.size<=100000000->∀(w:World)(cs:List Value),aw ae w t.az cs->
    Calls Tryz.prog 138 #[.agg cs.toArray] w fun e w'=>e=.returned (.int .i64 t.depth)/\af ae w w':=by
  induction t using Tm.ind with
  |h k n i ts ih=>
   intro hs w cs h;obtain⟨a,cap,rfl,aX,hE⟩:=bg.1 h;have hlen:=Tm.aA ts;have FW:=Tm.bQ ts;simp only[Tm.aM]at hs;go_enter Tryz.func138,Tryz.ntmps138;go_wp2_with fail
   go_loopw [3,4] (fun v3 v9 wr=>∃ j:Nat,j<=ts.length/\v9=.int .i64 j/\v3=.int .i64 (Tm.aQ (ts.take j))/\af ae (w.alloc (.cells #[.int .i64 k,.string (B n),.int .i64 i,.slice a ts.length cap] 29)) wr)
     (fun _ v9 _=>ts.length - (intOf v9).toNat)
   case atStart=>exact⟨0,Nat.zero_le _,rfl,rfl,af.refl _ _⟩
   obtain⟨j,hj,rfl,rfl,hU⟩:=hrel;have hw:af ae w wr:=hU.behind;obtain⟨b0,b1,b2,b3⟩:=b8 hU;have OG:=Tm.dT ts j;by_cases aB:j<ts.length
   ·obtain⟨b,o,k1,n1,x1,s1,c1,rfl,hb,_,tw,s5,ju,yT,hR⟩:=aY (hE.on hw) j aB;have te:=Tm.bz (List.getElem_mem aB);have jI:=Tm.aK (List.getElem_mem aB);go_wp2_with fail;refine(ih _ (List.getElem_mem aB) (by omega) _ _ hR).mono ?_;rintro e w1 ⟨rfl,aH⟩;go_wp2
    go_roundw
    case rel=>
      refine⟨j+1,by omega,by go_num,int_eq ?_,hU.and aH⟩;rw[Tm.dP ts j aB];split<;>omega
    simp[intOf];omega
   have jR:ts.take j=ts:=List.take_of_length_le (by omega);go_wp2
   go_ret;exact⟨bd (by simp),hw⟩
theorem yp(t:Tm)(K2:t.size<=100000000)(w:World)(cs:List Value)(h:aw ae w t.az cs):
    Calls Tryz.prog 80 #[.agg cs.toArray] w fun e w'=>e=.returned (.bool t.small)/\af ae w w':=by
  have hp:(decide (t.size<=4096) && decide (t.depth<=128))=t.small:=rfl;have HS:=fun w cs h=>AH t K2 w cs h
  have HD:=fun w cs h=>xX t K2 w cs h
  obtain⟨k,n,i,ts,a,cap,ht,rfl,aX,hE⟩:=aP h;generalize t.size=sz at *
  generalize t.depth=dp at *
  generalize t.small=sm at *
  have HT:=ak ht;have HP:=ak hp;clear ht hp aX;generalize ts.length=len at *
  go_enter Tryz.func80,Tryz.ntmps80;go_wp2_with fail;refine(HS _ _ (h.new _)).mono ?_;rintro e w1 ⟨rfl,hU⟩;obtain⟨b0,b1,b2,b3⟩:=b8 hU;have aF:af ae w w1:=hU.behind;by_cases ee:sz<=4096
  ·go_wp2_with fail;refine(HD _ _ (h.on aF)).mono ?_;rintro e w2 ⟨rfl,aL⟩;go_wp2
   go_ret;exact⟨aR (by rw[<-HP.out,Bool.eq_iff_iff];simp;omega),aF.and aL⟩
  go_wp2_with fail;go_ret;exact⟨aR (by rw[<-HP.out,Bool.eq_iff_iff];simp;omega),aF⟩
end
section
open Go.RowKit Go.LF
def P2(O:Nat->Prop)(x:Nat)(r:Tm.gp)(e:Ending)(w':World):Prop:=
  (∃ k n i a len cap,e=.returned (.agg #[.int .i64 k,.string (B n),.int .i64 i,.slice a len cap])/\aw O w' r.t.az [.int .i64 k,.string (B n),.int .i64 i,.slice a len cap])/\bK w' x (.int .i64 (r.w:Int)) (.int .i64 r.e) 181
theorem jY(t:Tm)(hs:t.size<=100000000)(x wj:Nat)(O:Nat->Prop)(w:World)(hx:O x)(hO:∀ b,O b->b<w.heap.size)(k i:Int)(n:List UInt8)(a:Option Addr)(len cap:Nat)(hX:bK w x (.int .i64 (wj:Int)) (.int .i64 0) 181)(hR:aw O w t.az [.int .i64 k,.string (B n),.int .i64 i,.slice a len cap]):
    Calls Tryz.prog 202 #[.pointer (some ⟨x,0,none⟩),.agg #[.int .i64 k,.string (B n),.int .i64 i,.slice a len cap]] w fun e w'=>P2 O x (Tm.jo t wj) e w'/\af (fun b=>b=x) w w':=by
  obtain⟨w1,aF⟩:∃ w1,w1=(w.alloc (.cells #[.int .i64 k,.string (B n),.int .i64 i,.slice a len cap] 29)).alloc (.cells #[.int .i64 0,.string (B []),.int .i64 0,.slice none 0 0] 29):=⟨_,rfl⟩;have aH:af ae w w1:=by rw[aF];exact((af.refl ae w).alloc _).alloc _
  have mN:au w1 w.heap.size (.int .i64 k) (.string (B n)) (.int .i64 i) (.slice a len cap) 29:=by rw[aF];exact(au.av rfl).kept ((af.refl ae _).alloc _)
  have dK:au w1 (w.heap.size+1) (.int .i64 0) (.string (B [])) (.int .i64 0) (.slice none 0 0) 29:=by rw[aF];exact au.av (by simp)
  have rY:=hX.kept aH;have di:=(aw.fR hR).on aH;have C:=yp t hs w1 _ (dj di);have HW:=ak aF;obtain⟨H,hH⟩:∃ H,H=w.heap.size:=⟨_,rfl⟩;have HH:=ak hH;rw[<-hH]at mN dK di;have Q7:x<H:=by rw[hH];exact hO x hx
  obtain⟨r,hr⟩:∃ r,r=Tm.jo t wj:=⟨_,rfl⟩;rw[<-hr];have Ke:=ak hr;obtain⟨sm,m7⟩:∃ sm,sm=t.small:=⟨_,rfl⟩;rw[<-m7]at C;have Iv:=ak m7;clear aF hH hO hX hR hr m7;obtain⟨c0,c1⟩:=rY.cells;go_enter Tryz.func202,Tryz.ntmps202;go_upto_region 1 with fail;rw[<-show B []={ data:=#[] }from rfl,<-HW.out,<-HH.out];obtain⟨t0,t1,t2,t3⟩:=mN.cells;go_wp2_with fail;refine C.mono ?_;rintro e w2 ⟨rfl,aL⟩;have yU:=rY.kept aL;have dO:=dK.kept aL;have iD:=mN.kept aL;have fG:=di.on aL;obtain⟨d0,d1⟩:=yU.cells;obtain⟨g0,g1⟩:=yU.aq;clear c0 c1 t0 t1 t2 t3;obtain⟨t0,t1,t2,t3⟩:=iD.cells;obtain⟨y0,y1,y2,y3⟩:=dO.cells;obtain⟨z0,z1,z2,z3⟩:=dO.aq;have Gh:=dO.lt;cases sm
  ·have ln:r=⟨2,Tm.aO,wj⟩:=by rw[Ke.out];unfold Tm.jo;rw[<-Iv.out];rfl
   have xL:=yU.mu (.int .i64 2);have aZ:af (fun b=>b=x) w2 (w2.setCell ⟨x,1,none⟩ (.int .i64 2)):=af.set (af.refl _ _) 1 _;have iL:=dO.ag aZ (by omega);have ah:=iL.set (d0:=.int .i64 0) (d1:=.string (B [])) (d2:=.int .i64 0) (d3:=.slice none 0 0);obtain⟨e0,e1,e2,e3⟩:=ah.1.cells;have dJ:=ak (And.intro e0 (And.intro e1 (And.intro e2 (And.intro e3 (And.intro ah.2 (And.intro xL (And.intro aZ ln)))))));have gJ:¬x=H+1:=by omega
   clear e0 e1 e2 e3 ah xL aZ iL ln;go_wp2_with fail;obtain⟨e0,e1,e2,e3,ah,xL,aZ,ln⟩:=dJ.out;refine bodyPost_ret (v:=.agg #[.int .i64 0,.string (B []),.int .i64 0,.slice none 0 0]) ?_ rfl ?_
   ·simp[results,Tryz.f202,go_sem,e0,e1,e2,e3]
   refine⟨⟨⟨0,[],0,none,0,0,rfl,by rw[ln];exact bD 0 [] 0⟩,?_⟩,(((aH.and aL).mono (fun _ _ x=>x.elim)).trans aZ (fun _ _ e=>e)).trans ah (fun b hb e=>by have:=HH.out;omega)⟩;rw[ln];exact xL.ag ah gJ
  have ln:r=⟨0,t,wj⟩:=by rw[Ke.out];exact Tm.oN Iv.out.symm wj
  have ah:=dO.set (d0:=.int .i64 k) (d1:=.string (B n)) (d2:=.int .i64 i) (d3:=.slice a len cap);obtain⟨e0,e1,e2,e3⟩:=ah.1.cells;have dJ:=ak (And.intro e0 (And.intro e1 (And.intro e2 (And.intro e3 (And.intro ah.2 ln)))));have gJ:¬x=H+1:=by omega
  clear e0 e1 e2 e3 ah ln;go_wp2_with fail;obtain⟨e0,e1,e2,e3,ah,ln⟩:=dJ.out;refine bodyPost_ret (v:=.agg #[.int .i64 k,.string (B n),.int .i64 i,.slice a len cap]) ?_ rfl ?_
  ·simp[results,Tryz.f202,go_sem,e0,e1,e2,e3]
  refine⟨⟨⟨k,n,i,a,len,cap,rfl,by rw[ln];exact aw.weaken (fun b _ e=>.inl e) _ _ (aw.ag ah (fun b e=>.inr (by omega)) _ _ fG)⟩,?_⟩,((aH.and aL).mono (fun _ _ x=>x.elim)).trans ah (fun b hb e=>by have:=HH.out;omega)⟩;rw[ln];exact yU.ag ah gJ
end
end Go.Proofs.YthgmimncdjhgnaaGreatDoor
