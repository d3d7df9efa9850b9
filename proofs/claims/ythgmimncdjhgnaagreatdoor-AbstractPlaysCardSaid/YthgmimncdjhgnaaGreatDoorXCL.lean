/- Ge cX simple types: form, VH, depth, WellFormed, YC. -/
import Derived.Test.YthgmimncdjhgnaaGreatDoorXCK
set_option maxRecDepth 100000
set_option maxHeartbeats 4000000
namespace Go.Proofs.YthgmimncdjhgnaaGreatDoor
section
open Go.RowKit Go.LF
theorem Ew(t:Sm):t.wt<=1000000->∀(w:World)(cs:List Value),aw ae w t.az cs->
    Calls Tryz.prog 199 #[.agg cs.toArray] w fun e w'=>e=.returned (.bool t.form)/\af ae w w':=by
  induction t using Sm.ind with
  |h f ts ih=>
   intro hs w cs h;obtain⟨a,cap,rfl,aX,hE⟩:=ig.1 h;have hlen:=Sm.aA ts;have CG:=Sm.eC ts;simp only[Sm.cU]at hs;obtain⟨r,hr⟩:∃ r,r=(Sm.mk f ts).form:=⟨_,rfl⟩;rw[<-hr];rw[Sm.Ij]at hr;have HN:=fun w=>cw f w (by omega)
   have N7:Sm.DV f=(f == [116,121,112,101]|| isName f):=rfl;obtain⟨nb,Kv⟩:∃ nb,nb=isName f:=⟨_,rfl⟩;rw[<-Kv]at HN N7;obtain⟨tb,rK⟩:∃ tb,tb=(f == [116,121,112,101]):=⟨_,rfl⟩;rw[<-rK]at N7;have HR:=ak (And.intro hr N7);have HS:=ak hs;have Xl:=ak rK;clear hr N7 rK Kv hs h;obtain⟨w1,aF⟩:∃ w1,w1=w.alloc (.cells #[.string (B f),.slice a ts.length cap] 115):=⟨_,rfl⟩;have aH:af ae w w1:=by rw[aF];exact(af.refl ae w).alloc _
   have jA:bK w1 w.heap.size (.string (B f)) (.slice a ts.length cap) 115:=by rw[aF];exact bK.av rfl
   have kE:=ak aF;clear aF;obtain⟨b0,b1⟩:=jA.cells;have akj:ts.length<=1000000:=by have:=HS.out;omega
   have cV:(tb=false/\nb=false)\/((tb=true\/tb=false/\nb=true)/\Sm.DV f=true):=by
     cases tb<;>cases nb<;>simp_all [HR.out.2]
   rcases cV with⟨rfl,rfl⟩|⟨cV,N7⟩
   ·have hnf:(!f == [116,121,112,101])=true:=by rw[<-Xl.out];rfl
    go_enter Tryz.func199,Tryz.ntmps199;go_wp2_with fail;rw[<-kE.out];refine(HN w1).mono ?_;rintro e w2 ⟨rfl,rfl⟩;go_wp2_with fail;go_ret;exact⟨aR (by rw[HR.out.1,HR.out.2];rfl),aH⟩
   have Tr:=ak (show r=Sm.kP ts by rw[HR.out.1,N7];rfl);clear HR N7;rcases cV with rfl |⟨rfl,rfl⟩
   case' inl=>
     obtain rfl:f=[116,121,112,101]:=by simpa using Xl.out.symm
     go_enter Tryz.func199,Tryz.ntmps199;go_wp2_with fail;rw[<-kE.out]
   case' inr=>
     have hnf:(!f == [116,121,112,101])=true:=by rw[<-Xl.out];rfl
     go_enter Tryz.func199,Tryz.ntmps199;go_wp2_with fail;rw[<-kE.out];refine(HN w1).mono ?_;rintro e w2 ⟨rfl,rfl⟩;go_wp2_with fail
   all_goals
     clear HN;go_loopw [3] (fun v wr=>∃ j:Nat,v=.int .i64 j/\j<=ts.length/\r=Sm.kP (ts.drop j)/\af ae w1 wr) (fun v _=>ts.length - (intOf v).toNat)
     case atStart=>exact⟨0,rfl,Nat.zero_le _,Tr.out,af.refl _ _⟩
     obtain⟨j,rfl,hj,hv,hU⟩:=hrel;have HV:=ak hv;clear hv b0 b1;have hw:=aH.and hU;have UY:=jA.kept hU;obtain⟨b0,b1⟩:=UY.cells;have j0:(0:Int)<=(j:Int):=by omega
     have jb:(j:Int)<=2000000:=by omega
     by_cases aB:j<ts.length
     ·obtain⟨b,o,n1,s1,cp,rfl,hb,_,p0,p1,eY⟩:=kV (hE.on hw) j aB;have j1:(j:Int)<(ts.length:Int):=by omega
      have Bv:=Sm.fM (List.getElem_mem aB);have key:=ih _ (List.getElem_mem aB) (by have:=HS.out;omega) wr _ eY;have hT:=Sm.Gz ts j aB;generalize ts[j].args.length=el at *
      generalize ts[j].form=fb at *
      have HT:=ak (And.intro hT aB);clear hT aB Bv eY;go_wp2_with fail;refine key.mono ?_;rintro e w5 ⟨rfl,ba⟩;cases fb
      ·go_wp2_with fail;go_ret;exact⟨aR (by rw[HV.out,HT.out.1];rfl),hw.and ba⟩
      go_wp2_with fail;go_roundw;case rel=>exact⟨j+1,by go_num,Nat.succ_le_of_lt HT.out.2,by rw[HV.out,HT.out.1];rfl,hU.and ba⟩
      (have:=HT.out.2;simp[intOf];omega)
     have sA:¬(j:Int)<(ts.length:Int):=by omega
     have tR:ts.drop j=[]:=List.drop_eq_nil_of_le (by omega);have HD:=ak tR;clear tR;go_wp2_with fail;go_ret;exact⟨aR (by rw[HV.out,HD.out,Sm.kP]),hw⟩
theorem xT(t:Sm):t.size<=1000000->∀(w:World)(cs:List Value),aw ae w t.az cs->
    Calls Tryz.prog 200 #[.agg cs.toArray] w fun e w'=>e=.returned (.int .i64 t.size)/\af ae w w':=by
  induction t using Sm.ind with
  |h f ts ih=>
   intro hs w cs h;obtain⟨a,cap,rfl,aX,hE⟩:=ig.1 h;have hlen:=Sm.aA ts;have FW:=Sm.bQ ts;simp only[Sm.aM]at hs;obtain⟨w1,aF⟩:∃ w1,w1=w.alloc (.cells #[.string (B f),.slice a ts.length cap] 115):=⟨_,rfl⟩;have aH:af ae w w1:=by rw[aF];exact(af.refl ae w).alloc _
   have jA:bK w1 w.heap.size (.string (B f)) (.slice a ts.length cap) 115:=by rw[aF];exact bK.av rfl
   have kE:=ak aF;clear aF h;obtain⟨b0,b1⟩:=jA.cells;skip;go_enter Tryz.func200,Tryz.ntmps200;go_wp2_with fail;rw[<-kE.out];go_loopw [3,4] (fun v3 v wr=>∃ j:Nat,v=.int .i64 j/\j<=ts.length/\v3=.int .i64 (1+Sm.aD (ts.take j))/\af ae w1 wr) (fun _ v _=>ts.length - (intOf v).toNat)
   case atStart=>exact⟨0,rfl,Nat.zero_le _,rfl,af.refl _ _⟩
   obtain⟨j,rfl,hj,rfl,hU⟩:=hrel;clear b0 b1;have hw:=aH.and hU;have UY:=jA.kept hU;obtain⟨b0,b1⟩:=UY.cells;have j0:(0:Int)<=(j:Int):=by omega
   have jb:(j:Int)<=2000000:=by omega
   have OG:=Sm.bW ts j;have K4:=Sm.dT ts j;skip;by_cases aB:j<ts.length
   ·obtain⟨b,o,n1,s1,cp,rfl,hb,_,p0,p1,eY⟩:=kV (hE.on hw) j aB;have j1:(j:Int)<(ts.length:Int):=by omega
    have Bv:=Sm.aK (List.getElem_mem aB);have yz:=Sm.dm ts[j];have key:=ih _ (List.getElem_mem aB) (by omega) wr _ eY;have PK:Sm.aD (ts.take j)+ts[j].size<=Sm.aD ts:=by rw[<-Sm.bJ ts j aB];exact Sm.bW ts (j+1)
    generalize ts[j].args.length=el at *
    go_wp2_with fail;refine key.mono ?_;rintro e w5 ⟨rfl,ba⟩;go_wp2_with fail;go_roundw
    case rel=>
      refine⟨j+1,by go_num,by omega,int_eq ?_,hU.and ba⟩;rw[Sm.bJ ts j aB];omega
    (simp[intOf];omega)
   have sA:¬(j:Int)<(ts.length:Int):=by omega
   have tR:ts.take j=ts:=List.take_of_length_le (by omega);rw[tR]at OG K4 ⊢;go_wp2_with fail;go_ret;exact⟨bd (by first |omega |(rw[Sm.aM];omega)),hw⟩
theorem xh(t:Sm):t.size<=1000000->∀(w:World)(cs:List Value),aw ae w t.az cs->
    Calls Tryz.prog 201 #[.agg cs.toArray] w fun e w'=>e=.returned (.int .i64 t.depth)/\af ae w w':=by
  induction t using Sm.ind with
  |h f ts ih=>
   intro hs w cs h;obtain⟨a,cap,rfl,aX,hE⟩:=ig.1 h;have hlen:=Sm.aA ts;have FW:=Sm.bQ ts;simp only[Sm.aM]at hs;obtain⟨w1,aF⟩:∃ w1,w1=w.alloc (.cells #[.string (B f),.slice a ts.length cap] 115):=⟨_,rfl⟩;have aH:af ae w w1:=by rw[aF];exact(af.refl ae w).alloc _
   have jA:bK w1 w.heap.size (.string (B f)) (.slice a ts.length cap) 115:=by rw[aF];exact bK.av rfl
   have kE:=ak aF;clear aF h;obtain⟨b0,b1⟩:=jA.cells;skip;go_enter Tryz.func201,Tryz.ntmps201;go_wp2_with fail;rw[<-kE.out];go_loopw [3,4] (fun v3 v wr=>∃ j:Nat,v=.int .i64 j/\j<=ts.length/\v3=.int .i64 (Sm.aQ (ts.take j))/\af ae w1 wr) (fun _ v _=>ts.length - (intOf v).toNat)
   case atStart=>exact⟨0,rfl,Nat.zero_le _,rfl,af.refl _ _⟩
   obtain⟨j,rfl,hj,rfl,hU⟩:=hrel;clear b0 b1;have hw:=aH.and hU;have UY:=jA.kept hU;obtain⟨b0,b1⟩:=UY.cells;have j0:(0:Int)<=(j:Int):=by omega
   have jb:(j:Int)<=2000000:=by omega
   have OG:=Sm.bW ts j;have K4:=Sm.dT ts j;have hdz:=Sm.bQ (ts.take j);by_cases aB:j<ts.length
   ·obtain⟨b,o,n1,s1,cp,rfl,hb,_,p0,p1,eY⟩:=kV (hE.on hw) j aB;have j1:(j:Int)<(ts.length:Int):=by omega
    have Bv:=Sm.aK (List.getElem_mem aB);have yz:=Sm.dm ts[j];have key:=ih _ (List.getElem_mem aB) (by omega) wr _ eY;have PK:Sm.aD (ts.take j)+ts[j].size<=Sm.aD ts:=by rw[<-Sm.bJ ts j aB];exact Sm.bW ts (j+1)
    generalize ts[j].args.length=el at *
    go_wp2_with fail;refine key.mono ?_;rintro e w5 ⟨rfl,ba⟩;go_wp2_with fail;go_roundw
    case rel=>
      refine⟨j+1,by go_num,by omega,int_eq ?_,hU.and ba⟩;rw[Sm.dP ts j aB];omega
    (simp[intOf];omega)
   have sA:¬(j:Int)<(ts.length:Int):=by omega
   have tR:ts.take j=ts:=List.take_of_length_le (by omega);rw[tR]at OG K4 ⊢;go_wp2_with fail;go_ret;exact⟨bd (by first |omega |(rw[Sm.cD];omega)),hw⟩
end
section
open Go.RowKit Go.LF
theorem Ep(t:Sm)(hs:t.wt<=1000000)(w:World)(cs:List Value)(h:aw ae w t.az cs):
    Calls Tryz.prog 170 #[.agg cs.toArray] w fun e w'=>e=.returned (.int .i64 t.wf)/\af ae w w':=by
  have ee:=Sm.bB t;have hdz:=Sm.dm t;have HF:=fun w' h=>Ew t hs w' cs h
  have HZ:=fun w' h=>xT t (by omega) w' cs h
  have HD:=fun w' h=>xh t (by omega) w' cs h
  obtain⟨f,ts,a,cap,ht,rfl,aX,hE⟩:=oC h;obtain⟨r,hr⟩:∃ r,r=t.wf:=⟨_,rfl⟩;rw[<-hr];unfold Sm.wf at hr;generalize t.form=fb at *
  generalize t.size=sz at *
  generalize t.depth=dp at *
  have HR:=ak hr;clear hr ht hE;generalize ts.length=len at *
  obtain⟨w1,aF⟩:∃ w1,w1=w.alloc (.cells #[.string (B f),.slice a len cap] 115):=⟨_,rfl⟩;have aH:af ae w w1:=by rw[aF];exact(af.refl ae w).alloc _
  have jA:bK w1 w.heap.size (.string (B f)) (.slice a len cap) 115:=by rw[aF];exact bK.av rfl
  have kE:=ak aF;clear aF;cases fb
  ·go_enter Tryz.func170,Tryz.ntmps170;go_wp2_with fail;rw[<-kE.out];refine(HF w1 (h.on aH)).mono ?_;rintro e w2 ⟨rfl,aL⟩;go_wp2_with fail;go_ret;exact⟨bd (by rw[HR.out];rfl),aH.and aL⟩
  by_cases h1:4096<sz
  ·have h1':(4096:Int)<(sz:Int):=by omega
   go_enter Tryz.func170,Tryz.ntmps170;go_wp2_with fail;rw[<-kE.out];refine(HF w1 (h.on aH)).mono ?_;rintro e w2 ⟨rfl,aL⟩;have zG:=jA.kept aL;obtain⟨b0,b1⟩:=zG.cells;go_wp2_with fail;refine(HZ w2 (h.on (aH.and aL))).mono ?_;rintro e w3 ⟨rfl,aZ⟩;go_wp2_with fail;go_ret;exact⟨bd (by rw[HR.out];simp[h1]),(aH.and aL).and aZ⟩
  have h1':¬(4096:Int)<(sz:Int):=by omega
  by_cases h2:128<dp
  ·have VS:(128:Int)<(dp:Int):=by omega
   go_enter Tryz.func170,Tryz.ntmps170;go_wp2_with fail;rw[<-kE.out];refine(HF w1 (h.on aH)).mono ?_;rintro e w2 ⟨rfl,aL⟩;have zG:=jA.kept aL;obtain⟨b0,b1⟩:=zG.cells;go_wp2_with fail;refine(HZ w2 (h.on (aH.and aL))).mono ?_;rintro e w3 ⟨rfl,aZ⟩;have Qs:=zG.kept aZ;clear b0 b1;obtain⟨b0,b1⟩:=Qs.cells;go_wp2_with fail;refine(HD w3 (h.on ((aH.and aL).and aZ))).mono ?_;rintro e w4 ⟨rfl,bw⟩;go_wp2_with fail;go_ret;exact⟨bd (by rw[HR.out];simp[h2]),((aH.and aL).and aZ).and bw⟩
  have VS:¬(128:Int)<(dp:Int):=by omega
  go_enter Tryz.func170,Tryz.ntmps170;go_wp2_with fail;rw[<-kE.out];refine(HF w1 (h.on aH)).mono ?_;rintro e w2 ⟨rfl,aL⟩;have zG:=jA.kept aL;obtain⟨b0,b1⟩:=zG.cells;go_wp2_with fail;refine(HZ w2 (h.on (aH.and aL))).mono ?_;rintro e w3 ⟨rfl,aZ⟩;have Qs:=zG.kept aZ;clear b0 b1;obtain⟨b0,b1⟩:=Qs.cells;go_wp2_with fail;refine(HD w3 (h.on ((aH.and aL).and aZ))).mono ?_;rintro e w4 ⟨rfl,bw⟩;go_wp2_with fail;go_ret;exact⟨bd (by rw[HR.out];simp[h1,h2]),((aH.and aL).and aZ).and bw⟩
end
section
open Go.RowKit Go.LF
def Ui(base deep:Nat)(T:Nat)(w:World)(e:Ending)(w':World):Prop:=
  ∃(f:List UInt8)(a:Option Addr)(len cap:Nat)(s:Sm),e=.returned (.agg #[.string (B f),.slice a len cap])/\aw (fun b=>b<base) w' s.az [.string (B f),.slice a len cap]/\s.SQ deep/\bL w' T/\af (cv T) w w'
def Df(base deep:Nat)(T:Nat)(w:World)(e:Ending)(w':World):Prop:=
  ∃(f:List UInt8)(a:Option Addr)(cap:Nat)(ts:List Sm)(css:List (List Value))(B':Nat),e=.returned (.agg #[.string (B f),.slice a ts.length cap])/\base<=B'/\ts.length<=cap/\oe B' w' (.slice a ts.length cap) ts css/\(Sm.mk f ts).SQ deep/\bL w' T/\af (cv T) w w'
theorem Df.s{base deep T:Nat}{w w':World}{e:Ending}(h:Df base deep T w e w'):Ui base deep T w e w':=by
  obtain⟨f,a,cap,ts,css,B',rfl,hb,aX,hS,hF,hT,hU⟩:=h;obtain⟨a',aS,e,hc,hE⟩:=hS.rep;cases e
  exact⟨f,a,_,cap,.mk f ts,rfl,ig.2 ⟨a,cap,rfl,aX,ai.weaken (fun b _ e=>by omega) _ _ _ _ hE⟩,hF,hT,hU⟩
end
section
open Go.RowKit Go.LF
theorem vS{w:World}{O:Nat->Prop}{base:Nat}{v:Value}{ts:List Tm}{css:List (List Value)}(hS:gP O base w v ts css)(A:Option Addr)(m c:Nat)(us:List Tm)(hm:m=us.length)
    (hE:ai (fun b=>O b\/base<=b) w 4 (us.map Tm.az) A 0) (hl:ts.length+us.length<=900000) (dh:base<=w.heap.size) (ty:TypeId):
    ∃ v' w' fY,(Builtin.append_ #[26,26] ty #[v,.slice A m c]).run Tryz.prog w=.ok v' w'/\gP O base w' v' (ts++us) fY/\w.grownBy w' v.ownBlock/\(v'.ownBlock=v.ownBlock\/v'.ownBlock=some w.heap.size):=by
  obtain⟨i0,hi,fS,gn,eH⟩:=info_parts de;obtain⟨iY,r1,r2,r3,r4,r5⟩:=oB us A 0 hE;have iw:=(zN iY r2).1;rw[r1,<-hm]at iw
  have fin:∀(v':Value)(w':World),w'.ownsRow base 29 4 v' (ts.length+m) (css.flatten++iY.flatten)->w.grownBy w' v.ownBlock->gP O base w' v' (ts++us) (css++iY):=by
    intro v' w' bq hg;obtain⟨h1,h2,h3,h4⟩:=hS;have pa:nO (fun b=>O b\/base<=b) w w':=⟨hg.size,fun b o u hb hu=>hg.cell hu (fun e=>hb (.inr (h3.lt b e.symm).1))⟩;refine⟨by simp[h1,r1],?_,by simpa[hm]using bq,fun i hi dZ=>?_⟩
    ·intro x hx;rcases List.mem_append.1 hx with hx |hx
     ·exact h2 x hx
     exact r2 x hx
    by_cases aB:i<ts.length
    ·rw[List.getElem_append_left aB,List.getElem_append_left (by omega)];exact aw.carry pa _ _ (h4 i aB (by omega))
    have eH:i - ts.length<us.length:=by simp at hi;omega
    rw[List.getElem_append_right (by omega),List.getElem_append_right (by omega)];simp only[h1];exact aw.carry pa _ _ (r5 _ eH (by omega))
  rcases A with _ |ad
  ·obtain rfl:=zz hE;have pf:m=0:=by simpa using hm
   subst pf;obtain rfl:iY=[]:=by simpa using r1
   refine⟨v,w,css,?_,by simpa using hS,World.grownBy.refl w _,.inl rfl⟩;have hu:Tryz.prog.underlying 26=some (.slice 29):=by kernel_rfl
   rcases hS.2.2.1.2 with⟨rfl,_⟩|⟨g,cap,cur,rfl,_,_,kz,_⟩
   ·simp[Builtin.append_,run_underlying hu,sizeOf,typeInfo,hi,Builtin.lenOf,Builtin.firstCells]
   simp[Builtin.append_,run_underlying hu,sizeOf,typeInfo,hi,Builtin.lenOf,Builtin.firstCells,kz,storeCells]
  have pT:∀ j u,iY.flatten[j]? =some u->w.cell? (ad.add j)=some u:=by
    intro j u hu;obtain⟨b',o',e,hc⟩:=r4 j u hu;cases e
    have gF:(⟨b',o',none⟩:Addr).add j=⟨b',o'+j,none⟩:=by unfold Addr.add;split<;>simp_all
    rw[gF];simpa using hc
  obtain⟨v',w',mg,h2,h3,_,h5⟩:=run_append_own_at (P:=Tryz.prog) w base 26 ty 29 i0 (.agg #[.int .i64 0,.string (B []),.int .i64 0,.slice none 0 0]) 4 56 (by kernel_rfl) hi fS gn eH rfl (by decide) v ts.length css.flatten hS.2.2.1 ad m c iY.flatten iw pT r3 (by simp only[maxLen];omega) (by omega) dh;exact⟨v',w',_,mg,fin v' w' h2 h3,h3,h5⟩
def xe(u:Tm)(O:Nat->Prop)(w:World)(e:Ending)(w':World):Prop:=
  ∃(k i:Int)(n:List UInt8)(a:Option Addr)(len cap:Nat),e=.returned (.agg #[.int .i64 k,.string (B n),.int .i64 i,.slice a len cap])/\aw O w' u.az [.int .i64 k,.string (B n),.int .i64 i,.slice a len cap]/\af ae w w'
end
end Go.Proofs.YthgmimncdjhgnaaGreatDoor
namespace Go.Proofs.YthgmimncdjhgnaaGreatDoor
open Go.RowKit Go.LF
theorem wJ{O:Nat->Prop}{W:World}{t:Tm}{c0 c1 c2 c3:Value}{b:Nat}{T:TypeId}(h:aw O W t.az [c0,c1,c2,c3])(hb:¬O b)(hB:au W b c0 c1 c2 c3 T):ai O W 4 ([t].map Tm.az) (some ⟨b,0,none⟩) 0:=by
  obtain⟨a,cap,e,_,hE⟩:=bg.1 (A1 h hb hB 0 [] 0);simp only[List.cons.injEq,Value.slice.injEq,and_true,true_and]at e;obtain⟨rfl,_⟩:=e;exact hE
end Go.Proofs.YthgmimncdjhgnaaGreatDoor
