/- A map wh a call keeps: K5 it holds, key by key. -/
import Derived.Test.YthgmimncdjhgnaaGreatDoorXEA
set_option maxRecDepth 100000
set_option maxHeartbeats 4000000
namespace Go.LF
section
open Go.RowKit Go.MapKept
theorem qb{w w':World}{m:Nat}(hg:w.grownBy w' (some m)):af (fun k=>k=m) w w':=⟨hg.os,hg.tape,hg.output,hg.size,fun k hk hn=>hg.block k hk (fun e=>hn (Option.some.inj e))⟩
def fT(W:World)(m:Nat)(fZ:List (Value×Value)):Prop:=∃ es clock,W.heap[m]? =some (.map es clock)/\es.toList.map (fun e=>(e.key,e.val))=fZ
variable {P:Program}{W:World}{mt kt vt:TypeId}{d:TypeDesc}{m:Nat}{fZ:List (Value×Value)}{key val z:Value}
theorem fT.lt(h:fT W m fZ):m<W.heap.size:=by
  obtain⟨es,clock,h1,_⟩:=h;exact(Array.getElem?_eq_some_iff.1 h1).1
theorem fT.made(W:World):fT (W.alloc (.map #[] 0)) W.heap.size []:=⟨#[],0,heap_alloc_new W _,rfl⟩
theorem fT.on{W':World}{S:Nat->Prop}(h:fT W m fZ)(hU:af S W W')(hS:¬S m):fT W' m fZ:=by
  obtain⟨es,clock,h1,h2⟩:=h;exact⟨es,clock,(hU.block m (Array.getElem?_eq_some_iff.1 h1).1 hS).trans h1,h2⟩
theorem fT.find(hS:fT W m fZ)(NU:∀ x∈fZ,IsKey d x.1)(lO:IsKey d key):
    ∃ es clock,W.heap[m]? =some (.map es clock)/\es.toList.map (fun e=>(e.key,e.val))=fZ/\
      ((Instr.findNow d key es.toList 0=some none/\∀ x∈fZ,x.1≠key)\/∃ j v,Instr.findNow d key es.toList 0=some (some (j,v))/\fZ[j]? =some (key,v)):=by
  obtain⟨es,clock,h1,h2⟩:=hS;have Zh:∀ x∈es.toList,IsKey d x.key:=fun x hx=>NU (x.key,x.val) (by rw[<-h2];exact List.mem_map.2 ⟨x,hx,rfl⟩)
  refine⟨es,clock,h1,h2,?_⟩;rcases findNow_spec lO es.toList 0 Zh with⟨f1,f2⟩|⟨j,e,f1,f2,f3⟩
  ·refine .inl ⟨f1,fun x hx=>?_⟩;rw[<-h2]at hx;obtain⟨y,hy,rfl⟩:=List.mem_map.1 hx;exact f2 y hy
  refine .inr ⟨j,e.val,by simpa using f1,?_⟩;rw[<-h2,List.getElem?_map,f2,<-f3];rfl
theorem fT.get(hm:P.underlying mt=some (.map kt vt))(hk:P.underlying kt=some d)(hS:fT W m fZ)(NU:∀ x∈fZ,IsKey d x.1)(lO:IsKey d key)
    (hv:∀ v,(key,v)∈fZ->v=val) (qM:∃ x∈fZ,x.1=key) (c:Bool):(Instr.lookup mt (.map (some m)) key c).run P W=.ok (if c then .tuple #[val,.bool true]else val) W:=by
  obtain⟨es,clock,h1,h2,⟨f1,f2⟩|⟨j,v,f1,f2⟩⟩:=hS.find NU lO
  ·obtain⟨x,hx,JM⟩:=qM;exact absurd JM (f2 x hx)
  have:=hv v (List.mem_of_getElem? f2);subst this;simp[Instr.lookup,run_underlying hm,MapKept.run_getObj_map h1,run_checkKey hk lO,run_findKey hk f1,Result.andThen]
theorem fT.none(hm:P.underlying mt=some (.map kt vt))(hk:P.underlying kt=some d)(hz:(zeroValue vt).run P W=.ok z W)(hS:fT W m fZ)(NU:∀ x∈fZ,IsKey d x.1)(lO:IsKey d key)
    (hn:∀ x∈fZ,x.1≠key) (c:Bool):(Instr.lookup mt (.map (some m)) key c).run P W=.ok (if c then .tuple #[z,.bool false]else z) W:=by
  obtain⟨es,clock,h1,h2,⟨f1,f2⟩|⟨j,v,f1,f2⟩⟩:=hS.find NU lO
  ·simp[Instr.lookup,run_underlying hm,MapKept.run_getObj_map h1,run_checkKey hk lO,run_findKey hk f1,hz,Result.andThen]
  exact absurd rfl (hn _ (List.mem_of_getElem? f2))
theorem fT.put(hm:P.underlying mt=some (.map kt vt))(hk:P.underlying kt=some d)(hS:fT W m fZ)(NU:∀ x∈fZ,IsKey d x.1)(lO:IsKey d key)(hn:∀ x∈fZ,x.1≠key)(val:Value):
    ∃ W',(Instr.mapUpdate mt (.map (some m)) key val).run P W=.ok () W'/\fT W' m (fZ++[(key,val)])/\W.grownBy W' (some m)/\W.heap.size<=W'.heap.size:=by
  obtain⟨es,clock,h1,h2,⟨f1,f2⟩|⟨j,v,f1,f2⟩⟩:=hS.find NU lO
  ·refine⟨{ W with heap:=W.heap.setIfInBounds m (.map (es.push { key,val,born:=clock }) (clock+1)) },?_,⟨_,_,(heap_set h1).1,?_⟩,⟨rfl,rfl,rfl,by simp,fun k _ gJ=>?_⟩,by simp⟩
   ·simp[Instr.mapUpdate,run_underlying hm,MapKept.run_getObj_map h1,run_checkKey hk lO,run_findKey hk f1,run_setObj_map _ h1,Result.andThen]
   ·simp[h2]
   exact(heap_set h1).2 k (fun e=>gJ (by rw[e]))
  exact absurd rfl (hn _ (List.mem_of_getElem? f2))
end
section
structure Mv where
  name:List UInt8
  type:Tm
  value:List Tm
namespace Mv
def az(m:Mv):fB:=.st [.str (B m.name),m.type.az,.seq 4 (m.value.map Tm.az)]
end Mv
theorem jF{O:Nat->Prop}{W:World}{m:Mv}{cs:List Value}:
    aw O W m.az cs↔∃ ct va vc,cs=[.string (B m.name)]++ct++[.slice va m.value.length vc]/\aw O W m.type.az ct/\m.value.length<=vc/\ai O W 4 (m.value.map Tm.az) va 0:=by
  simp only[Mv.az,aw,fX];constructor
  ·rintro⟨c1,c2,rfl,rfl,c3,c4,rfl,h3,c5,c6,rfl,⟨a,cap,rfl,h6,h7⟩,rfl⟩;exact⟨c3,a,cap,by simp,h3,by simpa using h6,h7⟩
  rintro⟨ct,va,vc,rfl,h1,h2,h3⟩;exact⟨[.string (B m.name)],ct++[.slice va m.value.length vc],by simp,rfl,ct,[.slice va m.value.length vc],rfl,h1,[.slice va m.value.length vc],[],by simp,⟨va,vc,by simp,by simpa using h2,h3⟩,rfl⟩
theorem gx{O:Nat->Prop}{W:World}{m:Mv}{cs:List Value}(h:aw O W m.az cs):
    ∃ k n i a cap va vc,cs=[.string (B m.name),.int .i64 k,.string (B n),.int .i64 i,.slice a m.type.args.length cap,.slice va m.value.length vc]/\aw O W m.type.az [.int .i64 k,.string (B n),.int .i64 i,.slice a m.type.args.length cap]/\m.value.length<=vc/\ai O W 4 (m.value.map Tm.az) va 0:=by
  obtain⟨ct,va,vc,rfl,h1,h2,h3⟩:=jF.1 h;obtain⟨k,n,i,ts,a,cap,ht,rfl,_,_⟩:=aP h1;refine⟨k,n,i,a,cap,va,vc,?_,?_,h2,h3⟩
  ·rw[ht];simp
  rw[ht]at h1 ⊢;exact h1
end
end Go.LF
namespace Go.Proofs.YthgmimncdjhgnaaGreatDoor
section
open Go.RowKit Go.LF
def ke(m:Mv):List Int:=Tm.ay m.type++m.value.flatMap Tm.ay
def cy(l:List Mv)(i:Int):List Int:=if 0<=i then(match l[i.toNat]? with |some m=>ke m |none=>[])else []
inductive lX(l:List Mv):Int->Int->Prop
  |refl {i:Int} (h:i<l.length):lX l i i
  |step {i j k:Int} (h:i<l.length) (hj:j∈cy l i) (hk:lX l j k):lX l i k
theorem lX.lt{l:List Mv}{i k:Int}(h:lX l i k):i<l.length:=by cases h<;>assumption
theorem lX.lt'{l:List Mv}{i k:Int}(h:lX l i k):k<l.length:=by
  induction h with
  |refl h=>exact h
  |step _ _ _ ih=>exact ih
theorem lX.trans{l:List Mv}{i j k:Int}(h:lX l i j)(h':lX l j k):lX l i k:=by
  induction h with
  |refl _=>exact h'
  |step h hj _ ih=>exact .step h hj (ih h')
def cY(l:List Mv)(ks:List Int):Nat:=((List.range l.length).filter (fun j:Nat=>!(ks.contains (j:Int)))).length
theorem zk{l:List Mv}{ks ks':List Int}(h:∀ x∈ks,x∈ks'):cY l ks'<=cY l ks:=by
  unfold cY;rw[<-List.countP_eq_length_filter,<-List.countP_eq_length_filter];refine List.countP_mono_left (fun j _ hj=>?_);simp only[Bool.not_eq_true',List.contains_eq_mem,decide_eq_false_iff_not]at hj ⊢;exact fun h1=>hj (h _ h1)
theorem Ir{l:List Mv}{ks ks1:List Int}{i:Int}(h0:0<=i)(hi:i<l.length)(hn:i∉ks)(hk:∀ x,x∈ks1↔x∈ks\/x=i):cY l ks1<cY l ks:=by
  unfold cY
  have e:(List.range l.length).filter (fun j:Nat=>!(ks1.contains (j:Int)))=((List.range l.length).filter (fun j:Nat=>!(ks.contains (j:Int)))).filter (fun j:Nat=>decide ((j:Int)≠i)):=by
    rw[List.filter_filter];refine List.filter_congr (fun j _=>?_);rw[Bool.eq_iff_iff];simp only[Bool.not_eq_true',List.contains_eq_mem,decide_eq_false_iff_not,Bool.and_eq_true,decide_eq_true_eq,hk];constructor
    ·intro h;exact⟨fun e=>h (.inr e),fun e=>h (.inl e)⟩
    rintro⟨h1,h2⟩ (h |h)
    ·exact h2 h
    exact h1 h
  rw[e,List.length_filter_lt_length_iff_exists];refine⟨i.toNat,?_,?_⟩
  ·rw[List.mem_filter];refine⟨List.mem_range.2 (by omega),?_⟩;simp only[Bool.not_eq_true',List.contains_eq_mem,decide_eq_false_iff_not];rwa [show((i.toNat:Nat):Int)=i by omega]
  simp;omega
end
section
open Go.RowKit Go.LF
def Lj(ts:List Tm)(w:World)(e:Ending)(w':World):Prop:=
  ∃(a:Option Addr)(cap:Nat),e=.returned (.slice a ts.length cap)/\ts.length<=cap/\ai (fun b=>b<w.heap.size) w' 4 (ts.map Tm.az) a 0/\af ae w w'
theorem BG(ts:List Tm)(hl:ts.length<=900000)(ih:∀ t∈ts,∀(w:World)(cs:List Value),aw ae w t.az cs->Calls Tryz.prog 108 #[.agg cs.toArray] w (wN t w))
    (w:World) (a:Option Addr) (cap:Nat) (hE:ai ae w 4 (ts.map Tm.az) a 0):
    Calls Tryz.prog 178 #[.slice a ts.length cap,.func (.func 108) #[] #[]] w (Lj ts w):=by
  obtain⟨H,hH⟩:∃ H,H=w.heap.size:=⟨_,rfl⟩;have CL:=oq ts (fun x=>H<=x) w a cap hl (ai.weaken (fun b _ e=>.inr (by omega)) _ _ _ _ (ai.aG _ _ _ _ hE));obtain⟨ul,cZ⟩:∃ ul,ul=ts.length:=⟨_,rfl⟩;rw[<-cZ]at CL;rw[<-cZ];have HL:=ak cZ;have HH:=ak hH;have TF:(ul:Int)<=900000:=by omega
  clear cZ hE;go_enter Tryz.func178,Tryz.ntmps178;go_wp2_with fail
  (with_reducible refine CL.mono ?_);rintro e w4 ⟨v,css,rfl,hS,bw⟩;obtain⟨sa,sc,rfl,fJ,_⟩:=hS.cells;rw[<-hH]at hS;have xK:=jf.start (okb:=H) (lo:=H) hS (fun b e=>.inl (by omega));rw[<-HL.out]at fJ;rw[<-HL.out];have DX:=bw.size;rw[<-hH]at DX;clear hS CL hH;go_wp2_with fail
  go_loopw [12] (fun v12 wr=>∃(j:Nat),v12=.int .i64 (j:Int)/\j<=ul/\jf H H H wr sa (ts.take j) ts/\af ae w wr)
    (fun v12 _=>ul - (intOf v12).toNat)
  case atStart=>exact⟨0,rfl,Nat.zero_le _,xK,bw⟩
  obtain⟨j,rfl,hj,hM,hU⟩:=hrel;have u1:(j:Int)<=900000:=by omega
  by_cases aB:(j:Int)<(ul:Int)
  ·have b7:j<ts.length:=by have:=HL.out;omega
   have eQ:(ts.take j).length=j:=by rw[List.length_take];omega
   obtain⟨g,cs,rfl,EF,px,sR,Km,iQ,_,pw⟩:=hM j b7;have oO:=pw b7 (by omega);have DQ:ts.take (j+1)=ts.take j++[ts[j]]:=List.take_succ_eq_append_getElem b7;have L8:=ih ts[j] (List.getElem_mem b7);generalize ts[j]=tj at *
   obtain⟨kj,nj,ij,lj,aj,cj,Cb,rfl,_,_⟩:=aP oO;have g0:=iQ 0 _ rfl;rw[Nat.add_zero]at g0;have g1:=iQ 1 _ rfl;have g2:=iQ 2 _ rfl;have g3:=iQ 3 _ rfl;generalize lj.length=Bg at *
   obtain⟨wa,mP⟩:∃ wa,wa=wr.alloc (.cells #[.int .i64 kj,.string (B nj),.int .i64 ij,.slice aj Bg cj] 29):=⟨_,rfl⟩;have dM:af ae wr wa:=by rw[mP];exact(af.refl ae wr).alloc _
   have hB:au wa wr.heap.size (.int .i64 kj) (.string (B nj)) (.int .i64 ij) (.slice aj Bg cj) 29:=by rw[mP];exact au.av rfl
   have IH:=L8 wa _ ((dj oO).on dM);obtain⟨Q,hQ⟩:∃ Q,Q=wr.heap.size:=⟨_,rfl⟩;rw[<-hQ]at hB;have NV:=ak mP;have HQ:=ak hQ;have HJ:=ak (And.intro eQ (And.intro b7 DQ));have PE:=dM.size;clear mP hQ oO pw iQ Cb Km eQ DQ L8 b7;go_upto_region 5 with fail;rw[<-NV.out,<-HQ.out];obtain⟨b0,b1,b2,b3⟩:=hB.cells;go_wp2_with fail
   (with_reducible refine IH.mono ?_);rintro e w6 ⟨k6,i6,n6,a6,l6,c6,rfl,dg,bj⟩;have eu:=dM.and bj;have v0:=eu.cell g0 (fun x=>x);have v1:=eu.cell g1 (fun x=>x);have v2:=eu.cell g2 (fun x=>x);have v3:=eu.cell g3 (fun x=>x);have f6:=fun o=>(eu.cells.2 g o px (fun x=>x)).trans (sR o)
   have yB:=hM.kept eu;have jd:=jf.next (u:=tj) (d0:=.int .i64 k6) (d1:=.string (B n6)) (d2:=.int .i64 i6) (d3:=.slice a6 l6 c6) yB (by rw[HJ.out.1];exact HJ.out.2.1) (Nat.le_refl _) (aw.weaken (fun b _ e=>by omega) _ _ dg) rfl;rw[HJ.out.1,<-HJ.out.2.2]at jd;have bU:af ae w _:=(hU.and eu).trans jd.2 (fun x hx e=>by have:=HH.out;omega);have WO:g<w6.heap.size:=Nat.lt_of_lt_of_le px eu.size;clear yB hM dg bj eu g0 g1 g2 g3 b0 b1 b2 b3 IH hB dM;go_wp2_with fail;go_roundw;case rel=>exact⟨j+1,by go_num,by omega,jd.1,bU⟩
   simp[intOf];omega
  have rG:j=ts.length:=by have:=HL.out;omega
  have tB:=hM.rep (by rw[rG,List.take_length]);rw[rG,List.take_length]at tB;have HJ:=ak rG;clear rG hM;go_wp2_with fail;go_ret;exact⟨sa,sc,by rw[HL.out];rfl,by rw[<-HL.out];exact fJ,by rw[<-HH.out];exact tB,hU⟩
theorem py(ts:List Tm)(hl:ts.length<=900000)(ih:∀ t∈ts,∀(w:World)(cs:List Value),aw ae w t.az cs->Calls Tryz.prog 108 #[.agg cs.toArray] w (wN t w))
    (w:World) (a:Option Addr) (cap:Nat) (hE:ai ae w 4 (ts.map Tm.az) a 0):Calls Tryz.prog 141 #[.slice a ts.length cap] w (Lj ts w):=by
  have EA:=BG ts hl ih w a cap hE;obtain⟨ul,cZ⟩:∃ ul,ul=ts.length:=⟨_,rfl⟩;rw[<-cZ]at EA;rw[<-cZ];have HL:=ak cZ;clear cZ;go_enter Tryz.func141,Tryz.ntmps141;go_wp2_with fail
  (with_reducible refine EA.mono ?_);rintro e w4 ⟨sa,sc,rfl,fJ,hR,bw⟩;go_wp2_with fail;go_ret;exact⟨sa,sc,rfl,fJ,hR,bw⟩
theorem nK(t:Tm):t.size<=900000->∀(w:World)(cs:List Value),aw ae w t.az cs->Calls Tryz.prog 108 #[.agg cs.toArray] w (wN t w):=by
  induction t using Tm.ind with
  |h k n i ts ih=>
   intro hs w cs hR;obtain⟨a,cap,rfl,aX,hE⟩:=bg.1 hR;have hlen:=Tm.aA ts;rw[Tm.aM]at hs;obtain⟨w1,aF⟩:∃ w1,w1=(w.alloc (.cells #[.int .i64 k,.string (B n),.int .i64 i,.slice a ts.length cap] 29)).alloc (.cells #[.int .i64 0,.string (B []),.int .i64 0,.slice none 0 0] 29):=⟨_,rfl⟩;have aH:af ae w w1:=by rw[aF];exact((af.refl ae w).alloc _).alloc _
   have gy:au w1 w.heap.size (.int .i64 k) (.string (B n)) (.int .i64 i) (.slice a ts.length cap) 29:=by rw[aF];exact(au.av rfl).kept ((af.refl ae _).alloc _)
   have dK:au w1 (w.heap.size+1) (.int .i64 0) (.string (B [])) (.int .i64 0) (.slice none 0 0) 29:=by rw[aF];exact au.av (by simp)
   have TS:=py ts (by omega) (fun t ht=>ih t ht (by have:=Tm.aK ht;omega)) w1 a cap (hE.on aH);obtain⟨ul,cZ⟩:∃ ul,ul=ts.length:=⟨_,rfl⟩;rw[<-cZ]at TS gy aF;rw[<-cZ];have HW:=ak aF;obtain⟨H,hH⟩:∃ H,H=w.heap.size:=⟨_,rfl⟩;have HH:=ak hH;rw[<-hH]at gy dK;have HL:=ak cZ;have mX:=dK.lt;clear aF hH cZ hR hE aX ih hs hlen;obtain⟨t0,t1,t2,t3⟩:=gy.cells;go_enter Tryz.func108,Tryz.ntmps108;go_upto_region 1 with fail;rw[<-show B []={ data:=#[] }from rfl,<-HW.out,<-HH.out];go_wp2_with fail
   (with_reducible refine TS.mono ?_);rintro e w4 ⟨sa,sc,rfl,fJ,OE,bw⟩;rw[<-HL.out]at fJ;rw[<-HL.out];have Dr:=gy.kept bw;have iX:=dK.kept bw;obtain⟨w5,gT⟩:∃ w5,w5=w4.setCell ⟨H,3,none⟩ (.slice sa ul sc):=⟨_,rfl⟩;have fH:af (fun x=>x=H) w4 w5:=by rw[gT];exact af.set (af.refl _ _) 3 _
   have Es:au w5 H (.int .i64 k) (.string (B n)) (.int .i64 i) (.slice sa ul sc) 29:=by rw[gT];exact Dr.mH _
   have dR:=iX.ag fH (by omega);have ah:=dR.set (d0:=.int .i64 k) (d1:=.string (B n)) (d2:=.int .i64 i) (d3:=.slice sa ul sc);obtain⟨x0,x1,x2,x3⟩:=Dr.cells;obtain⟨y0,y1,y2,y3⟩:=Dr.aq;have Tq:=Dr.lt
   have gN:aw (fun b=>b<H) ((((w5.setCell ⟨H+1,0,none⟩ (.int .i64 k)).setCell ⟨H+1,1,none⟩ (.string (B n))).setCell ⟨H+1,2,none⟩ (.int .i64 i)).setCell ⟨H+1,3,none⟩ (.slice sa ul sc)) (Tm.mk k n i ts).az [.int .i64 k,.string (B n),.int .i64 i,.slice sa ul sc]:=by
     refine bg.2 ⟨sa,sc,by rw[HL.out],by rw[<-HL.out];exact fJ,?_⟩;refine ai.weaken (fun b _ e=>?_) _ _ _ _ (ai.ag (O:=fun b=>b<w1.heap.size) ah.2 (fun b e=>by omega) _ _ _ _ (ai.ag fH (fun b e=>by omega) _ _ _ _ OE));omega
   have GK:=ak gT;have Y7:=ak (And.intro gN ah.2);obtain⟨e0,e1,e2,e3⟩:=ah.1.cells;have HE:=ak (And.intro e0 (And.intro e1 (And.intro e2 e3)));clear gT e0 e1 e2 e3 ah gN OE t0 t1 t2 t3;go_upto_region 2 with fail;rw[<-GK.out];obtain⟨p0,p1,p2,p3⟩:=Es.cells;obtain⟨r0,r1,r2,r3⟩:=dR.cells;obtain⟨f0,f1,f2,f3⟩:=dR.aq;have Gh:=dR.lt;go_wp2_with fail;obtain⟨e0,e1,e2,e3⟩:=HE.out;refine bodyPost_ret (v:=.agg #[.int .i64 k,.string (B n),.int .i64 i,.slice sa ul sc]) ?_ rfl ?_
   ·simp[results,Tryz.f108,go_sem,e0,e1,e2,e3]
   exact⟨k,i,n,sa,ul,sc,rfl,by rw[<-HH.out];exact Y7.out.1,((aH.and bw).trans fH (fun b hb e=>by have:=HH.out;omega)).trans Y7.out.2 (fun b hb e=>by have:=HH.out;omega)⟩
theorem AV(ts:List Tm)(hl:ts.length<=900000)(hs:∀ t∈ts,t.size<=900000)(w:World)(a:Option Addr)(cap:Nat)(hE:ai ae w 4 (ts.map Tm.az) a 0):Calls Tryz.prog 141 #[.slice a ts.length cap] w (Lj ts w):=
  py ts hl (fun t ht=>nK t (hs t ht)) w a cap hE
end
section
open Go.RowKit Go.LF
theorem qR:(Tryz.prog.info? 96).map (fun i=>(i.zero,i.size,i.bytes))=some (some (.agg #[.string (B []),.int .i64 0,.string (B []),.int .i64 0,.slice none 0 0,.slice none 0 0]),6,96):=by kernel_rfl
theorem pQ{O:Nat->Prop}{W:World}:∀(ts:List Mv)(a:Option Addr)(j:Nat),ai O W 6 (ts.map Mv.az) a j->
    ∃ css:List (List Value),css.length=ts.length/\(∀ cs∈css,cs.length=6)/\(∀ u∈css.flatten,u.oneCell'=true)/\(∀ i u,css.flatten[i]? =some u->∃ b o,a=some ⟨b,o,none⟩/\W.cell? ⟨b,o+j+i,none⟩=some u)/\
      ∀ i(h:i<ts.length)(h':i<css.length),aw O W ts[i].az css[i]
  | [],_,_,_=>⟨[],rfl,by simp,by simp,by simp,fun i h=>by simp at h⟩
  |t :: ts,a,j,h=>by
   simp only[List.map_cons,ai]at h;obtain⟨⟨b,o,cs,rfl,hb,hO,hl,hc,hr⟩,DA⟩:=h;obtain⟨css,h1,h2,h3,h4,h5⟩:=pQ ts _ (j+6) DA;obtain⟨k,n,i,a',aS,va,vc,pj,_⟩:=gx hr;refine⟨cs :: css,by simp[h1],?_,?_,?_,?_⟩
   ·intro x hx;rcases List.mem_cons.1 hx with rfl |hx
    ·exact hl
    exact h2 x hx
   ·intro u hu;rw[List.flatten_cons,List.mem_append]at hu;rcases hu with hu |hu
    ·rw[pj]at hu;simp only[List.mem_cons,List.not_mem_nil,or_false]at hu;rcases hu with rfl |rfl |rfl |rfl |rfl |rfl<;>rfl
    exact h3 u hu
   ·intro m u hu;rw[List.flatten_cons]at hu;by_cases hm:m<cs.length
    ·rw[List.getElem?_append_left hm]at hu;exact⟨b,o,rfl,hc m u hu⟩
    rw[List.getElem?_append_right (by omega)]at hu;obtain⟨b',o',e,AX⟩:=h4 _ u hu;cases e
    refine⟨b,o,rfl,?_⟩;rw[show o+j+m=o+(j+6)+(m - cs.length) by omega];exact AX
   intro m hm Io;cases m with
   |zero=>exact hr
   |succ m=>exact h5 m (by simpa using hm) (by simpa using Io)
theorem vA{O:Nat->Prop}{W:World}{ts:List Mv}(h:ai O W 6 (ts.map Mv.az) none 0):ts=[]:=by
  cases ts with
  |nil=>rfl
  |cons t ts=>simp only[List.map_cons,ai]at h;obtain⟨⟨_,_,_,e,_⟩,_⟩:=h;cases e
def Qy(H:Nat)(ts:List Mv)(w:World)(e:Ending)(w':World):Prop:=∃ v css,e=.returned v/\cS 96 6 (fun b=>H<=b) w.heap.size w' v (ts.map Mv.az) css/\af ae w w'
theorem FC(ts:List Mv)(w:World)(H:Nat)(hH:H=w.heap.size)(a:Option Addr)(cap:Nat)(hl:ts.length<=900000)(hE:ai ae w 6 (ts.map Mv.az) a 0):
    Calls Tryz.prog 177 #[.slice a ts.length cap] w (Qy H ts w):=by
  obtain⟨i0,hi,fS,gn,eH⟩:=info_parts qR;rcases a with _ |ad
  ·obtain rfl:=vA hE;clear hE;have he:∀ w:World,(binOp .eql 23 (.slice none 0 cap) (.slice none 0 0)).run Tryz.prog w=.ok (.bool true) w:=fun _=>rfl
   go_enter Tryz.func177,Tryz.ntmps177;go_wp2_with fail;go_ret;exact⟨_,[],rfl,cS.nil _ _ _ _ _,af.refl _ _⟩
  rcases Nat.eq_zero_or_pos ts.length with h0 |h0
  ·obtain rfl:ts=[]:=List.eq_nil_of_length_eq_zero h0;clear hE h0;simp only[List.length_nil];have he:∀ w:World,(binOp .eql 23 (.slice (some ad) 0 cap) (.slice none 0 0)).run Tryz.prog w=.ok (.bool false) w:=fun _=>rfl
   go_enter Tryz.func177,Tryz.ntmps177;go_wp2_with fail;go_ret;exact⟨_,[],rfl,⟨rfl,by simp,World.ownsRow_made w #[] 0 (Nat.le_refl _) (by decide) (by simp),fun i h=>by simp at h⟩,(af.refl ae w).alloc _⟩
  obtain⟨css,r1,r2,r3,r4,r5⟩:=pQ ts _ 0 (ai.aG 6 _ _ _ hE);have iw:=(DD 6 css r2).1;rw[r1]at iw
  obtain⟨ub,uo,he⟩:∃ ub uo,ad=⟨ub,uo,none⟩:=by
    obtain⟨u,hu⟩:∃ u,css.flatten[0]? =some u:=⟨_,List.getElem?_eq_getElem (by omega)⟩;obtain⟨b,o,e,_⟩:=r4 0 u hu;cases e
    exact⟨b,o,rfl⟩
  subst he
  have HN:∀ j u,css.flatten[j]? =some u->(w.alloc (.cells #[] 96)).cell? ((⟨ub,uo,none⟩:Addr).add j)=some u:=by
    intro j u hu;obtain⟨b',o',e,hc⟩:=r4 j u hu;cases e
    have gF:(⟨ub,uo,none⟩:Addr).add j=⟨ub,uo+j,none⟩:=by unfold Addr.add;split<;>simp_all
    rw[gF];exact((af.refl ae w).alloc _).cell (by simpa using hc) (fun x=>x)
  have HL:=ak (And.intro r1 (And.intro r2 r5));obtain⟨len,hlen⟩:∃ len,len=ts.length:=⟨_,rfl⟩;rw[<-hlen]at hl h0 iw ⊢;have HE:=ak (And.intro hlen hH);clear hE r1 r2 r4 r5 hlen hH;have he:∀ w:World,(binOp .eql 23 (.slice (some ⟨ub,uo,none⟩) len cap) (.slice none 0 0)).run Tryz.prog w=.ok (.bool false) w:=fun _=>rfl
  go_enter Tryz.func177,Tryz.ntmps177;go_wp2_with (at_builtin;refine wpList_append_lies _ (by rfl) _ _ 23 (by rfl) w.heap.size 96 i0 (.agg #[.string (B []),.int .i64 0,.string (B []),.int .i64 0,.slice none 0 0,.slice none 0 0]) 6 96 (by kernel_rfl) hi fS gn eH rfl (by decide) (.slice (some ⟨w.heap.size,0,none⟩) 0 0) 0 [] (by rfl) (World.ownsRow_made w #[] 0 (Nat.le_refl _) (by decide) (by simp)) ⟨ub,uo,none⟩ len cap css.flatten (by rfl) iw HN r3 h0 (by simp only[maxLen];omega) (by omega) (by simp) _ rfl ?_;intro g aS w7 bq aN ft aB)
  go_ret;have cm:af ae w w7:=((af.refl ae w).alloc (.cells #[] 96)).trans (ck aN) (fun i hi e=>by simp only[Value.ownBlock,Option.some.injEq]at e;omega)
  have hge:w.heap.size<=g:=by
    rcases ft with ft |ft
    ·simp only[Value.ownBlock,Option.some.injEq]at ft;omega
    rw[ft];simp
  refine⟨.slice (some ⟨g,0,none⟩) len aS,css,rfl,⟨by rw[HL.out.1,List.length_map],HL.out.2.1,?_,fun i hi dZ=>?_⟩,cm⟩
  ·rw[List.length_map,<-HE.out.1];simpa using bq
  simp only[List.getElem_map];refine aw.weaken (fun b _ e=>?_) _ _ ((HL.out.2.2 i (by simpa using hi) dZ).on cm);rcases e with e |e
  ·exact .inr (by have:=HE.out.2;omega)
  simp only[Value.ownBlock,Option.some.injEq]at e;exact .inr (by omega)
end
section
open Go.RowKit Go.LF
theorem FN{W:World}{g o:Nat}{c0 c1 c2 c3 c4 c5 d0 d1 d2 d3 d4 d5:Value}(h0:W.cell? ⟨g,o,none⟩=some c0)(h1:W.cell? ⟨g,o+1,none⟩=some c1)(h2:W.cell? ⟨g,o+2,none⟩=some c2)(h3:W.cell? ⟨g,o+3,none⟩=some c3)(h4:W.cell? ⟨g,o+4,none⟩=some c4)(h5:W.cell? ⟨g,o+5,none⟩=some c5){W':World}
    (hW:W'=(((((W.setCell ⟨g,o,none⟩ d0).setCell ⟨g,o+1,none⟩ d1).setCell ⟨g,o+2,none⟩ d2).setCell ⟨g,o+3,none⟩ d3).setCell ⟨g,o+4,none⟩ d4).setCell ⟨g,o+5,none⟩ d5):
    (W'.cell? ⟨g,o,none⟩=some d0/\W'.cell? ⟨g,o+1,none⟩=some d1/\W'.cell? ⟨g,o+2,none⟩=some d2/\W'.cell? ⟨g,o+3,none⟩=some d3/\W'.cell? ⟨g,o+4,none⟩=some d4/\W'.cell? ⟨g,o+5,none⟩=some d5)/\
    (∀ x,x≠o->x≠o+1->x≠o+2->x≠o+3->x≠o+4->x≠o+5->W'.cell? ⟨g,x,none⟩=W.cell? ⟨g,x,none⟩)/\af (fun b=>b=g) W W':=by
  have ne:∀ x y:Nat,x≠y->(⟨g,x,none⟩:Addr)≠⟨g,y,none⟩:=fun x y h e=>h (by cases e;rfl)
  have other:∀(V:World)(x y:Nat)(v:Value),x≠y->(V.setCell ⟨g,x,none⟩ v).cell? ⟨g,y,none⟩=V.cell? ⟨g,y,none⟩:=fun V x y v h=>World.cell?_setCell_other _ _ _ _ (ne x y h)
  obtain⟨⟨a0,a1,a2,a3⟩,ao,aU⟩:=iv (d0:=d0) (d1:=d1) (d2:=d2) (d3:=d3) h0 h1 h2 h3 rfl;have b4:=(ao (o+4) (by omega) (by omega) (by omega) (by omega)).trans h4;have b5:=(ao (o+5) (by omega) (by omega) (by omega) (by omega)).trans h5;subst hW;refine⟨⟨?_,?_,?_,?_,?_,?_⟩,fun x x0 x1 x2 x3 x4 x5=>?_,af.set (af.set aU _ _) _ _⟩
  ·rw[other _ _ _ _ (by omega),other _ _ _ _ (by omega)];exact a0
  ·rw[other _ _ _ _ (by omega),other _ _ _ _ (by omega)];exact a1
  ·rw[other _ _ _ _ (by omega),other _ _ _ _ (by omega)];exact a2
  ·rw[other _ _ _ _ (by omega),other _ _ _ _ (by omega)];exact a3
  ·rw[other _ _ _ _ (by omega)];exact World.cell?_setCell_same _ _ _ b4
  ·exact World.cell?_setCell_same _ _ _ (by rw[other _ _ _ _ (by omega)];exact b5)
  rw[other _ _ _ _ (Ne.symm x5),other _ _ _ _ (Ne.symm x4)];exact ao x x0 x1 x2 x3
def o4(lo base:Nat)(W:World)(a:Option Addr)(us ts:List Mv):Prop:=
  ∀ i,i<ts.length->∃ g cs,a=some ⟨g,0,none⟩/\base<=g/\g<W.heap.size/\(∀ o,W.frozen? ⟨g,o,none⟩=false)/\cs.length=6/\(∀ m u,cs[m]? =some u->W.cell? ⟨g,i * 6+m,none⟩=some u)/\
    (∀(h:i<us.length),aw (fun b=>b<base\/b=g) W us[i].az cs)/\(∀(h:i<ts.length),us.length<=i->aw (fun b=>lo<=b) W ts[i].az cs)
section
variable {lo base:Nat}{W W':World}{a:Option Addr}{us ts:List Mv}
theorem o4.start{sc:Nat}{css:List (List Value)}{sa:Option Addr}(h:cS 96 6 (fun b=>lo<=b) base W (.slice sa ts.length sc) (ts.map Mv.az) css):o4 lo base W sa [] ts:=by
  intro i hi;obtain⟨RY,FR,hv,_,hc⟩:=h.cells;simp only[Value.slice.injEq]at hv;obtain⟨rfl,_,rfl⟩:=hv;have dZ:i<css.length:=by have:=h.1;rw[List.length_map]at this;omega
  obtain⟨g,rfl,_,hb,aB,hf,hg⟩:=hc i (by simpa using hi) dZ;refine⟨g,css[i],rfl,hb,aB,hf,h.2.1 _ (List.getElem_mem dZ),hg,(fun h=>by simp at h),fun h' _=>?_⟩;have:=h.2.2.2 i (by simpa using hi) dZ;simp only[List.getElem_map]at this;exact aw.weaken (fun b _ e=>.inl e) _ _ this
theorem o4.ag{S:Nat->Prop}(h:o4 lo base W a us ts)(hU:af S W W')(hS:∀ b,S b->lo<=b/\b<base):o4 lo base W' a us ts:=by
  intro i hi;obtain⟨g,cs,h1,h2,h3,h4,h5,h6,h7,h8⟩:=h i hi;have hg:¬S g:=fun e=>by have:=(hS g e).2;omega
  refine⟨g,cs,h1,h2,Nat.lt_of_lt_of_le h3 hU.size,fun o=>?_,h5,fun m u hu=>hU.cell (h6 m u hu) hg,fun h=>?_,fun h dZ=>?_⟩
  ·rw[hU.cells.2 g o h3 hg];exact h4 o
  ·exact aw.ag hU (fun b e=>.inl (hS b e).2) _ _ (h7 h)
  exact aw.ag hU (fun b e=>(hS b e).1) _ _ (h8 h dZ)
theorem o4.kept(h:o4 lo base W a us ts)(hU:af ae W W'):o4 lo base W' a us ts:=h.ag hU (fun _ x=>x.elim)
theorem o4.next{g:Nat}{u:Mv}{d0 d1 d2 d3 d4 d5:Value}(h:o4 lo base W (some ⟨g,0,none⟩) us ts)(hj:us.length<ts.length)(sP:lo<=base)(hR:aw (fun b=>b<base\/b=g) W u.az [d0,d1,d2,d3,d4,d5])
    (hW:W'=(((((W.setCell ⟨g,us.length * 6,none⟩ d0).setCell ⟨g,us.length * 6+1,none⟩ d1).setCell ⟨g,us.length * 6+2,none⟩ d2).setCell ⟨g,us.length * 6+3,none⟩ d3).setCell ⟨g,us.length * 6+4,none⟩ d4).setCell ⟨g,us.length * 6+5,none⟩ d5):
    o4 lo base W' (some ⟨g,0,none⟩) (us++[u]) ts/\af (fun b=>b=g) W W':=by
  obtain⟨g',cs,e,hb,aB,hf,nc,hc,_,_⟩:=h us.length hj;cases e
  have jG:∀ m,m<6->∃ u,W.cell? ⟨g,us.length * 6+m,none⟩=some u:=fun m hm=>⟨_,hc m _ (List.getElem?_eq_getElem (by rw[nc];exact hm))⟩
  obtain⟨_,u0⟩:=jG 0 (by omega);obtain⟨_,u1⟩:=jG 1 (by omega);obtain⟨_,u2⟩:=jG 2 (by omega);obtain⟨_,u3⟩:=jG 3 (by omega);obtain⟨_,u4⟩:=jG 4 (by omega);obtain⟨_,u5⟩:=jG 5 (by omega);obtain⟨⟨v0,v1,v2,v3,v4,v5⟩,mZ,hU⟩:=FN (d0:=d0) (d1:=d1) (d2:=d2) (d3:=d3) (d4:=d4) (d5:=d5) u0 u1 u2 u3 u4 u5 hW;refine⟨fun i hi=>?_,hU⟩;obtain⟨g',qs,e,WI,kZ,hf',qI,AX,h7,h8⟩:=h i hi;cases e
  have tG:∀ o,W'.frozen? ⟨g,o,none⟩=false:=fun o=>by rw[hW];simp only[World.frozen?_setCell];exact hf o
  by_cases Bc:i=us.length
  ·subst Bc;refine⟨g,[d0,d1,d2,d3,d4,d5],rfl,hb,Nat.lt_of_lt_of_le aB hU.size,tG,rfl,fun m x hx=>?_,fun h'=>?_,fun _ h'=>?_⟩
   ·match m,hx with
    |0,hx=>cases hx;exact v0
    |1,hx=>cases hx;exact v1
    |2,hx=>cases hx;exact v2
    |3,hx=>cases hx;exact v3
    |4,hx=>cases hx;exact v4
    |5,hx=>cases hx;exact v5
   ·simp only[List.getElem_concat_length];exact aw.ag hU (fun b e=>.inr e) _ _ hR
   (simp at h';omega)
  refine⟨g,qs,rfl,hb,Nat.lt_of_lt_of_le aB hU.size,tG,qI,fun m x hx=>?_,fun h'=>?_,fun h' h''=>?_⟩
  ·have hm:m<6:=by rw[<-qI];exact(List.getElem?_eq_some_iff.1 hx).1
   rw[mZ _ (by omega) (by omega) (by omega) (by omega) (by omega) (by omega)];exact AX m x hx
  ·have C0:i<us.length:=by simp at h';omega
   rw[List.getElem_append_left C0];exact aw.ag hU (fun b e=>.inr e) _ _ (h7 C0)
  simp at h'';exact aw.ag hU (fun b e=>(by omega)) _ _ (h8 h' (by omega))
end
theorem oM{w:World}{base:Nat}{e:TypeId}{size g n cap j:Nat}{xs:List Value}{u:Value}(h:w.ownsRow base e size (.slice (some ⟨g,0,none⟩) n cap) n xs):(w.setCell ⟨g,j,none⟩ u).ownsRow base e size (.slice (some ⟨g,0,none⟩) n cap) n (xs.set j u):=by
  obtain⟨hl,h⟩:=h;rcases h with⟨e0,_⟩|⟨g',aS,cur,e1,hb,hg,hn,hm,hs,ht⟩
  ·simp at e0
  cases e1
  obtain⟨aB,hk⟩:=Array.getElem?_eq_some_iff.1 hg;refine⟨by simpa using hl,.inr ⟨g,cap,cur.setIfInBounds j u,rfl,hb,?_,hn,hm,by simpa using hs,?_⟩⟩
  ·show(w.heap.modify g _)[g]? =_;rw[Array.getElem?_eq_getElem (by rw[Array.size_modify];exact aB),Array.getElem_modify_self,hk];rfl
  rw[Array.toList_setIfInBounds,List.take_set,ht]
def Gy:Nat->List Value->List (List Value)
  |0,_=>[]
  |n+1,l=>l.take 6 :: Gy n (l.drop 6)
theorem GM(n:Nat):∀ l,(Gy n l).length=n:=by
  induction n with
  |zero=>intro l;rfl
  |succ n ih=>intro l;simp[Gy,ih]
theorem CQ(n:Nat):∀ l,l.length=n * 6->(Gy n l).flatten=l/\∀ cs∈Gy n l,cs.length=6:=by
  induction n with
  |zero=>intro l h;simp only[Gy,List.flatten_nil];exact⟨(List.eq_nil_of_length_eq_zero (by omega)).symm,by simp⟩
  |succ n ih=>
   intro l h;obtain⟨h1,h2⟩:=ih (l.drop 6) (by rw[List.length_drop];omega);rw[Gy,List.flatten_cons,h1,List.take_append_drop];refine⟨rfl,fun cs hc=>?_⟩;rcases List.mem_cons.1 hc with rfl |hc
   ·rw[List.length_take];omega
   exact h2 cs hc
theorem Ra(n:Nat):∀ l(i:Nat)(h:i<(Gy n l).length),(Gy n l)[i]=(l.drop (i * 6)).take 6:=by
  induction n with
  |zero=>intro l i h;simp[Gy]at h
  |succ n ih=>
   intro l i h;cases i with
   |zero=>simp[Gy]
   |succ i=>
    simp only[Gy,List.getElem_cons_succ];rw[ih (l.drop 6) i (by simpa[Gy]using h),List.drop_drop];congr 2;omega
theorem o4.row{lo base:Nat}{W:World}{sa:Option Addr}{us ts:List Mv}{sc:Nat}{flat:List Value}(h:o4 lo base W sa us ts)(hl:us.length=ts.length)(ho:W.ownsRow base 96 6 (.slice sa ts.length sc) ts.length flat):
    cS 96 6 (fun b=>b<base) base W (.slice sa ts.length sc) (us.map Mv.az) (Gy ts.length flat):=by
  obtain⟨s1,s2⟩:=CQ ts.length flat ho.1;refine⟨by rw[GM,List.length_map,hl],s2,by rw[List.length_map,hl,s1];exact ho,fun i hi dZ=>?_⟩;rw[List.length_map]at hi;obtain⟨g,cs,rfl,hb,aB,_,nc,hc,h7,_⟩:=h i (by omega);simp only[List.getElem_map]
  have pj:(Gy ts.length flat)[i]=cs:=by
    rw[Ra];have R7:=ho.1;apply List.ext_getElem?;intro m;by_cases hm:m<6
    ·rw[List.getElem?_take_of_lt hm,List.getElem?_drop];obtain⟨u,hu⟩:∃ u,cs[m]? =some u:=⟨_,List.getElem?_eq_getElem (by omega)⟩;obtain⟨x,hx⟩:∃ x,flat[i * 6+m]? =some x:=⟨_,List.getElem?_eq_getElem (by omega)⟩;have h1:=ho.cells (g:=g) rfl _ x hx;have gF:(⟨g,0,none⟩:Addr).add (i * 6+m)=⟨g,i * 6+m,none⟩:=by unfold Addr.add;split<;>simp_all
     rw[gF,hc m u hu]at h1;rw[hx,hu,Option.some.inj h1]
    rw[List.getElem?_eq_none (by rw[List.length_take];omega),List.getElem?_eq_none (by omega)]
  rw[pj];exact aw.weaken (fun b _ e=>e.elim .inl (fun e=>.inr (by simpa[Value.ownBlock]using e.symm))) _ _ (h7 (by omega))
def abf(m:Mv)(w:World)(e:Ending)(w':World):Prop:=
  ∃(k i:Int)(n:List UInt8)(a:Option Addr)(len cap:Nat)(va:Option Addr)(vl vc:Nat),e=.returned (.agg #[.string (B m.name),.int .i64 k,.string (B n),.int .i64 i,.slice a len cap,.slice va vl vc])/\
   aw (fun b=>b<w.heap.size) w' m.az [.string (B m.name),.int .i64 k,.string (B n),.int .i64 i,.slice a len cap,.slice va vl vc]/\af ae w w'
def Sy(ts:List Mv)(w:World)(e:Ending)(w':World):Prop:=
  ∃ v css,e=.returned v/\cS 96 6 (fun b=>b<w.heap.size) w.heap.size w' v (ts.map Mv.az) css/\af ae w w'
def Mv.ok(m:Mv):Prop:=m.type.size<=900000/\m.value.length<=900000/\∀ v∈m.value,v.size<=900000
theorem x7(m:Mv)(hm:Mv.ok m)(w:World)(cs:List Value)(h:aw ae w m.az cs):Calls Tryz.prog 140 #[.agg cs.toArray] w (abf m w):=by
  obtain⟨k,n,i,a,cap,va,vc,rfl,hR,fp,hV⟩:=gx h;obtain⟨name,ty,vl⟩:=m;simp only at hR fp hV hm ⊢;obtain⟨qp,GJ,Rv⟩:=hm;simp only at qp GJ Rv;obtain⟨w1,aF⟩:∃ w1,w1=(w.alloc (.cells #[.string (B name),.int .i64 k,.string (B n),.int .i64 i,.slice a ty.args.length cap,.slice va vl.length vc] 96)).alloc (.cells #[.string (B []),.int .i64 0,.string (B []),.int .i64 0,.slice none 0 0,.slice none 0 0] 96):=⟨_,rfl⟩;have aH:af ae w w1:=by rw[aF];exact((af.refl ae w).alloc _).alloc _
  have gy:bC w1 w.heap.size (.string (B name)) (.int .i64 k) (.string (B n)) (.int .i64 i) (.slice a ty.args.length cap) (.slice va vl.length vc) 96:=by rw[aF];exact(bC.av rfl).kept ((af.refl ae _).alloc _)
  have dK:bC w1 (w.heap.size+1) (.string (B [])) (.int .i64 0) (.string (B [])) (.int .i64 0) (.slice none 0 0) (.slice none 0 0) 96:=by rw[aF];exact bC.av (by simp)
  have hd:af ae w1 w1.drew:=(af.refl ae w1).drew;have T1:=nK ty qp w1.drew _ (hR.on (aH.and hd));have TS:=fun(W:World)(hu:af ae w1 W)=>AV vl GJ Rv W va vc (hV.on (aH.and hu))
  obtain⟨H,hH⟩:∃ H,H=w.heap.size:=⟨_,rfl⟩;have HH:=ak hH;have HW:=ak aF;rw[<-hH]at gy dK;have mX:=dK.lt;have gJ:H≠H+1:=by omega
  generalize ty.args.length=al at *
  generalize xN:vl.length=ll at *
  have HVL:=ak xN;clear aF hH hR fp hV qp GJ Rv h xN;obtain⟨t0,t1,t2,t3,t4,t5⟩:=gy.cells;obtain⟨f0,f1,f2,f3,f4,f5⟩:=gy.aq;have Tq:=gy.lt;go_enter Tryz.func140,Tryz.ntmps140;go_upto_region 1 with fail;rw[<-show B []={ data:=#[] }from rfl,<-HW.out,<-HH.out]
  go_region_law (first
    |((rw[if_pos (by rfl)]);go_simp;(go_at_call 108);(with_reducible refine T1.mono ?_);rintro e w4 ⟨k4,i4,n4,a4,l4,c4,rfl,OE,bw⟩;have gY:=hd.and bw;have Dr:=gy.kept gY;obtain⟨x0,x1,x2,x3,x4,x5⟩:=Dr.cells;obtain⟨y0,y1,y2,y3,y4,y5⟩:=Dr.aq;have hl4:=Dr.lt;have TS4:=TS w4 gY)
    |((rw[if_pos (by rfl)]);go_simp;(go_at_call 141);(with_reducible refine TS4.mono ?_);rintro e w5 ⟨sa,sc,rfl,fJ,gN,ba⟩;have jl:=gY.and ba;have Es:=gy.kept jl;obtain⟨p0,p1,p2,p3,p4,p5⟩:=Es.cells;obtain⟨q0,q1,q2,q3,q4,q5⟩:=Es.aq;have Xm:=Es.lt))
  all_goals
    obtain⟨w9,bf⟩:∃ w9,w9=((((w5.setCell ⟨H,1,none⟩ (.int .i64 k4)).setCell ⟨H,2,none⟩ (.string (B n4))).setCell ⟨H,3,none⟩ (.int .i64 i4)).setCell ⟨H,4,none⟩ (.slice a4 l4 c4)).setCell ⟨H,5,none⟩ (.slice sa vl.length sc):=⟨_,rfl⟩;have ah:af (fun x=>x=H) w5 w9:=by rw[bf];exact af.set (af.set (af.set (af.set (af.set (af.refl _ _) 1 _) 2 _) 3 _) 4 _) 5 _
    have ha9:bC w9 H (.string (B name)) (.int .i64 k4) (.string (B n4)) (.int .i64 i4) (.slice a4 l4 c4) (.slice sa vl.length sc) 96:=by rw[bf];exact((((Es.mu _).kG _).mH _).kT _).Pz _
    have gM:=(dK.kept jl).ag ah (fun e=>gJ e.symm);rw[<-bf];have aJ:=gM.set (d0:=.string (B name)) (d1:=.int .i64 k4) (d2:=.string (B n4)) (d3:=.int .i64 i4) (d4:=.slice a4 l4 c4) (d5:=.slice sa vl.length sc)
    have xG:aw (fun b=>b<H) ((((((w9.setCell ⟨H+1,0,none⟩ (.string (B name))).setCell ⟨H+1,1,none⟩ (.int .i64 k4)).setCell ⟨H+1,2,none⟩ (.string (B n4))).setCell ⟨H+1,3,none⟩ (.int .i64 i4)).setCell ⟨H+1,4,none⟩ (.slice a4 l4 c4)).setCell ⟨H+1,5,none⟩ (.slice sa vl.length sc)) (Mv.az ⟨name,ty,vl⟩) [.string (B name),.int .i64 k4,.string (B n4),.int .i64 i4,.slice a4 l4 c4,.slice sa vl.length sc]:=by
      refine jF.2 ⟨[.int .i64 k4,.string (B n4),.int .i64 i4,.slice a4 l4 c4],sa,sc,rfl,?_,fJ,?_⟩
      ·exact aw.weaken (fun b _ e=>by show b<(World.drew _).heap.size;simp;omega) _ _ (aw.ag aJ.2 (fun b e=>by show b<(World.drew _).heap.size;simp;omega) _ _ (aw.ag ah (fun b e=>by show b<(World.drew _).heap.size;simp;omega) _ _ (OE.on ba)))
      exact ai.weaken (fun b _ e=>by have:=gY.size;omega) _ _ _ _ (ai.ag aJ.2 (fun b e=>by have:=gY.size;omega) _ _ _ _ (ai.ag ah (fun b e=>by have:=gY.size;omega) _ _ _ _ gN))
    have bU:=((aH.and jl).trans ah (fun b hb e=>by have:=HH.out;omega)).trans aJ.2 (fun b hb e=>by have:=HH.out;omega);have HF:=ak (And.intro xG bU);obtain⟨e0,e1,e2,e3,e4,e5⟩:=aJ.1.cells;have HE:=ak (And.intro e0 (And.intro e1 (And.intro e2 (And.intro e3 (And.intro e4 e5)))));clear bf xG bU e0 e1 e2 e3 e4 e5 aJ ah OE gN x0 x1 x2 x3 x4 x5 p0 p1 p2 p3 p4 p5 q0 q1 q2 q3 q4 q5 y0 y1 y2 y3 y4 y5 t0 t1 t2 t3 t4 t5 f0 f1 f2 f3 f4 f5;obtain⟨t0,t1,t2,t3,t4,t5⟩:=ha9.cells;obtain⟨r0,r1,r2,r3,r4,r5⟩:=gM.cells;obtain⟨f0,f1,f2,f3,f4,f5⟩:=gM.aq;have hl9:=gM.lt;go_wp2_with fail;obtain⟨e0,e1,e2,e3,e4,e5⟩:=HE.out;refine bodyPost_ret (v:=.agg #[.string (B name),.int .i64 k4,.string (B n4),.int .i64 i4,.slice a4 l4 c4,.slice sa vl.length sc]) ?_ rfl ?_
    ·simp[results,Tryz.f140,go_sem,e0,e1,e2,e3,e4,e5]
    exact⟨k4,i4,n4,a4,l4,c4,sa,_,sc,rfl,by rw[<-HH.out];exact HF.out.1,HF.out.2⟩
theorem zU(ts:List Mv)(hl:ts.length<=900000)(gD:∀ m∈ts,Mv.ok m)(w:World)(a:Option Addr)(cap:Nat)(hE:ai ae w 6 (ts.map Mv.az) a 0):
    Calls Tryz.prog 139 #[.slice a ts.length cap,.func (.func 140) #[] #[]] w (Sy ts w):=by
  obtain⟨H,hH⟩:∃ H,H=w.heap.size:=⟨_,rfl⟩;have CL:=FC ts w H hH a cap hl hE;obtain⟨ul,cZ⟩:∃ ul,ul=ts.length:=⟨_,rfl⟩;rw[<-cZ]at CL;rw[<-cZ];have HL:=ak cZ;have HH:=ak hH;have TF:(ul:Int)<=900000:=by omega
  clear cZ hE;go_enter Tryz.func139,Tryz.ntmps139;go_wp2_with fail
  (with_reducible refine CL.mono ?_);rintro e w4 ⟨v,css,rfl,hS,bw⟩;obtain⟨sa,sc,rfl,fJ,_⟩:=hS.cells;rw[<-hH]at hS;rw[List.length_map]at hS fJ;have xK:=o4.start (lo:=H) hS;have KU:=hS.2.2.1;rw[List.length_map,<-HL.out]at KU;rw[List.length_map,<-HL.out];rw[<-HL.out]at fJ;have DX:=bw.size;rw[<-hH]at DX;clear hS CL hH;go_wp2_with fail
  go_loopw [12] (fun v12 wr=>∃(j:Nat),v12=.int .i64 (j:Int)/\j<=ul/\o4 H H wr sa (ts.take j) ts/\(∃ flat,wr.ownsRow H 96 6 (.slice sa ul sc) ul flat)/\af ae w wr)
    (fun v12 _=>ul - (intOf v12).toNat)
  case atStart=>exact⟨0,rfl,Nat.zero_le _,xK,⟨_,KU⟩,bw⟩
  obtain⟨j,rfl,hj,hM,⟨flat,hOw⟩,hU⟩:=hrel;have u1:(j:Int)<=900000:=by omega
  by_cases aB:(j:Int)<(ul:Int)
  ·have b7:j<ts.length:=by have:=HL.out;omega
   have eQ:(ts.take j).length=j:=by rw[List.length_take];omega
   obtain⟨g,cs,rfl,EF,px,sR,Km,iQ,_,pw⟩:=hM j b7;have oO:=pw b7 (by omega);have DQ:ts.take (j+1)=ts.take j++[ts[j]]:=List.take_succ_eq_append_getElem b7;have L8:=x7 ts[j] (gD _ (List.getElem_mem b7));generalize ts[j]=tj at *
   obtain⟨kj,nj,ij,aj,cj,vaj,vcj,rfl,_,_,_⟩:=gx oO;have g0:=iQ 0 _ rfl;rw[Nat.add_zero]at g0;have g1:=iQ 1 _ rfl;have g2:=iQ 2 _ rfl;have g3:=iQ 3 _ rfl;have g4:=iQ 4 _ rfl;have g5:=iQ 5 _ rfl;generalize tj.type.args.length=Bg at *
   generalize tj.value.length=vjl at *
   generalize qG:tj.name=nm at *
   obtain⟨wa,mP⟩:∃ wa,wa=wr.alloc (.cells #[.string (B nm),.int .i64 kj,.string (B nj),.int .i64 ij,.slice aj Bg cj,.slice vaj vjl vcj] 96):=⟨_,rfl⟩;have dM:af ae wr wa:=by rw[mP];exact(af.refl ae wr).alloc _
   have hB:bC wa wr.heap.size (.string (B nm)) (.int .i64 kj) (.string (B nj)) (.int .i64 ij) (.slice aj Bg cj) (.slice vaj vjl vcj) 96:=by rw[mP];exact bC.av rfl
   have IH:=L8 wa _ ((dj oO).on dM);obtain⟨Q,hQ⟩:∃ Q,Q=wr.heap.size:=⟨_,rfl⟩;rw[<-hQ]at hB;have NV:=ak mP;have HQ:=ak hQ;have HNM:=ak qG;have HJ:=ak (And.intro eQ (And.intro b7 DQ));have PE:=dM.size;clear mP hQ oO pw iQ Km eQ DQ L8 b7 qG;go_upto_region 5 with fail;rw[<-NV.out,<-HQ.out];obtain⟨b0,b1,b2,b3,b4,b5⟩:=hB.cells;go_wp2_with fail
   (with_reducible refine IH.mono ?_);rintro e w6 ⟨k6,i6,n6,a6,l6,c6,Vg,vl6,Ww,rfl,dg,bj⟩;rw[HNM.out]at dg;rw[HNM.out];have eu:=dM.and bj;have v0:=eu.cell g0 (fun x=>x);have v1:=eu.cell g1 (fun x=>x);have v2:=eu.cell g2 (fun x=>x);have v3:=eu.cell g3 (fun x=>x);have v4:=eu.cell g4 (fun x=>x);have v5:=eu.cell g5 (fun x=>x);have f6:=fun o=>(eu.cells.2 g o px (fun x=>x)).trans (sR o)
   have yB:=hM.kept eu;have jd:=o4.next (u:=tj) (d0:=.string (B nm)) (d1:=.int .i64 k6) (d2:=.string (B n6)) (d3:=.int .i64 i6) (d4:=.slice a6 l6 c6) (d5:=.slice Vg vl6 Ww) yB (by rw[HJ.out.1];exact HJ.out.2.1) (Nat.le_refl _) (aw.weaken (fun b _ e=>by omega) _ _ dg) rfl;rw[HJ.out.1,<-HJ.out.2.2]at jd;have afY:=hOw.kept (row:=none) ⟨eu.os,eu.tape,eu.output,eu.size,fun k hk _=>eu.block k hk (fun x=>x)⟩ (.inr (by simp[Value.ownBlock]));have agL:=oM (j:=j * 6+5) (u:=.slice Vg vl6 Ww) (oM (j:=j * 6+4) (u:=.slice a6 l6 c6) (oM (j:=j * 6+3) (u:=.int .i64 i6) (oM (j:=j * 6+2) (u:=.string (B n6)) (oM (j:=j * 6+1) (u:=.int .i64 k6) (oM (j:=j * 6) (u:=.string (B nm)) afY)))));have bU:af ae w _:=(hU.and eu).trans jd.2 (fun x hx e=>by have:=HH.out;omega);have WO:g<w6.heap.size:=Nat.lt_of_lt_of_le px eu.size;clear yB hM dg bj eu g0 g1 g2 g3 g4 g5 b0 b1 b2 b3 b4 b5 IH hB dM;go_wp2_with fail;go_roundw;case rel=>exact⟨j+1,by go_num,by omega,jd.1,⟨_,agL⟩,bU⟩
   simp[intOf];omega
  have rG:j=ts.length:=by have:=HL.out;omega
  rw[rG,List.take_length]at hM;rw[HL.out]at hOw;have tB:=hM.row rfl hOw;have HJ:=ak rG;clear rG hM;go_wp2_with fail;go_ret;exact⟨.slice sa ts.length sc,_,by rw[<-HL.out];rfl,by rw[<-HH.out];exact tB,hU⟩
theorem mA(ts:List Mv)(hl:ts.length<=900000)(gD:∀ m∈ts,Mv.ok m)(w:World)(a:Option Addr)(cap:Nat)(hE:ai ae w 6 (ts.map Mv.az) a 0):
    Calls Tryz.prog 82 #[.slice a ts.length cap] w (Sy ts w):=by
  have EA:=zU ts hl gD w a cap hE;obtain⟨ul,cZ⟩:∃ ul,ul=ts.length:=⟨_,rfl⟩;rw[<-cZ]at EA;rw[<-cZ];have HL:=ak cZ;clear cZ;go_enter Tryz.func82,Tryz.ntmps82;go_wp2_with fail
  (with_reducible refine EA.mono ?_);rintro e w4 ⟨v,css,rfl,hR,bw⟩;go_wp2_with fail;go_ret;exact⟨v,css,rfl,hR,bw⟩
end
end Go.Proofs.YthgmimncdjhgnaaGreatDoor
namespace Go.LF
def tQ(t:Tm)(n:Int):Bool:=decide (0<(if t.wf == 0 then t.scope else 0))|| (Go.Proofs.YthgmimncdjhgnaaGreatDoor.Tm.ay t).any (fun i=>decide (n<=i))
def dq(n:Int)(name:List UInt8)(a:Tm):Int:=
  if name≠[]/\isName name=false then 1 else if a.wf≠0 then a.wf else if(a.aC && a.small)=false then 32 else if tQ a n=true then 3 else if 2048<=n then 7 else 0
def ik(m:Tm)(n:Int):Int:=if m.wf≠0 then m.wf else if(m.isObj && m.small)=false then 32 else if tQ m n=true then 3 else 0
end Go.LF
namespace Go.Proofs.YthgmimncdjhgnaaGreatDoor
open Go.RowKit Go.LF
theorem BC{ks:List Int}(g:FuncId)(c:Value)(p:Int->Bool)(hlen:ks.length<=1000000)(w:World)
    (H:∀ x∈ks,∀(W:World),af ae w W->Calls Tryz.prog g #[.int .i64 x,c] W fun e w'=>e=.returned (.bool (p x))/\af ae W w')
    (hg:∀ args w,(callFunc g args).run Tryz.prog w=.ok (.enter g args) w)
    (a:Option Addr) (cap:Nat) (hE:ai ae w 1 (ks.map (fB.int .i64)) a 0):
    Calls Tryz.prog 118 #[.slice a ks.length cap,.func (.func g) #[] #[c]] w fun e w'=>
      Found (ks.any p) e/\af ae w w':=by
  go_enter Tryz.func118,Tryz.ntmps118;go_wp2_with fail
  go_loopw [8] (fun v wr=>∃ j:Nat,j<=ks.length/\v=.int .i64 j/\(ks.take j).any p=false/\af ae w wr)
    (fun v _=>ks.length - (intOf v).toNat)
  case atStart=>exact⟨0,Nat.zero_le _,rfl,rfl,af.refl _ _⟩
  obtain⟨j,hj,rfl,hA,hU⟩:=hrel;have HA:=ak hA;clear hA;by_cases aB:j<ks.length
  ·obtain⟨b,o,rfl,hb,_,hc⟩:=eX (hE.on hU) j aB;have H1:=H _ (List.getElem_mem aB) wr hU
   have hT:(ks.take (j+1)).any p=((ks.take j).any p || p ks[j]):=by
     rw[List.take_succ_eq_append_getElem aB];simp only[List.any_append,List.any_cons,List.any_nil,Bool.or_false]
   have hM:p ks[j]=true->ks.any p=true:=fun h=>List.any_eq_true.2 ⟨_,List.getElem_mem aB,h⟩
   rw[HA.out]at hT;have HT:=ak hT;have HM:=ak hM;clear hT hM;generalize p ks[j]=q at *
   generalize ks[j]=x at *
   cases q
   all_goals
     go_wp2_with fail;refine H1.mono ?_;rintro e w1 ⟨rfl,aH⟩;go_wp2
   ·go_roundw;case rel=>exact⟨j+1,by omega,by go_num,by rw[HT.out];rfl,hU.trans aH (fun _ _ x=>x)⟩
    simp[intOf];omega
   go_ret;exact⟨⟨j,rfl,by rw[HM.out (by trivial)];simp⟩,hU.trans aH (fun _ _ x=>x)⟩
  have jR:ks.take j=ks:=List.take_of_length_le (by omega);have mx:=HA.out;rw[jR]at mx;clear HA jR;have HA:=ak mx;clear mx;go_wp2
  go_ret;exact⟨⟨-1,rfl,by rw[HA.out];rfl⟩,hU⟩
theorem mM{ks:List Int}(g:FuncId)(c:Value)(p:Int->Bool)(hlen:ks.length<=1000000)(w:World)
    (H:∀ x∈ks,∀(W:World),af ae w W->Calls Tryz.prog g #[.int .i64 x,c] W fun e w'=>e=.returned (.bool (p x))/\af ae W w')
    (hg:∀ args w,(callFunc g args).run Tryz.prog w=.ok (.enter g args) w)
    (a:Option Addr) (cap:Nat) (hE:ai ae w 1 (ks.map (fB.int .i64)) a 0):
    Calls Tryz.prog 51 #[.slice a ks.length cap,.func (.func g) #[] #[c]] w fun e w'=>
      e=.returned (.bool (ks.any p))/\af ae w w':=by
  have H1:=BC g c p hlen w H hg a cap hE;clear H;go_enter Tryz.func51,Tryz.ntmps51;go_wp2_with fail;refine H1.mono ?_;rintro e w1 ⟨⟨m,rfl,hm⟩,hU⟩;have HM:=ak hm;clear hm H1;go_wp2
  go_ret;exact⟨aR HM.out,hU⟩
theorem Ab(b:Nat)(n x:Int)(w:World)(hb:w.cell? ⟨b,0,none⟩=some (.int .i64 n)):
    Calls Tryz.prog 188 #[.int .i64 x,.pointer (some ⟨b,0,none⟩)] w fun e w'=>e=.returned (.bool (decide (n<=x)))/\af ae w w':=by
  go_enter Tryz.func188,Tryz.ntmps188;go_wp2_with fail;go_ret;exact⟨rfl,af.refl _ _⟩
theorem eL(t:Tm):(Tm.ay t).length<=t.wt:=by
  unfold Tm.ay;have:=Tm.bB t;split
  ·have:=mw t [];simp at this;show(Tm.cC [] t).length<=_;omega
  simp
theorem DF(t:Tm)(n:Int)(iH:t.wt<=1000000)(w:World)(cs:List Value)(h:aw ae w t.az cs):
    Calls Tryz.prog 160 #[.agg cs.toArray,.int .i64 n] w fun e w'=>e=.returned (.bool (tQ t n))/\af ae w w':=by
  obtain⟨k,nm,i,ts,a,cap,ht,rfl,_,_⟩:=aP h;generalize ts.length=len at *
  obtain⟨w1,aF⟩:∃ w1,w1=(w.alloc (.cells #[.int .i64 k,.string (B nm),.int .i64 i,.slice a len cap] 29)).alloc (.cells #[.int .i64 n] 3):=⟨_,rfl⟩;have aH:af ae w w1:=by rw[aF];exact((af.refl ae w).alloc _).alloc _
  have gy:au w1 w.heap.size (.int .i64 k) (.string (B nm)) (.int .i64 i) (.slice a len cap) 29:=by rw[aF];exact(au.av rfl).kept ((af.refl ae _).alloc _)
  have EL:w1.cell? ⟨w.heap.size+1,0,none⟩=some (.int .i64 n):=by
    rw[aF];have:=(oR (w.alloc (.cells #[.int .i64 k,.string (B nm),.int .i64 i,.slice a len cap] 29)) (.int .i64 n) 3).1;rw[World.size_alloc]at this;exact this
  have di:=h.on aH;have SC:=sG t iH w1 _ di;have HW:=ak aF;obtain⟨H,hH⟩:∃ H,H=w.heap.size:=⟨_,rfl⟩;have HH:=ak hH;rw[<-hH]at gy EL;have jw:=Nat.le_trans (eL t) iH;obtain⟨sc,fJ⟩:∃ sc:Int,sc=(if t.wf == 0 then t.scope else 0):=⟨_,rfl⟩;obtain⟨r,hr⟩:∃ r,r=tQ t n:=⟨_,rfl⟩;rw[<-hr];unfold tQ at hr;rw[<-fJ]at hr SC;have HR:=ak hr;clear aF hH hr fJ h ht;obtain⟨t0,t1,t2,t3⟩:=gy.cells;go_enter Tryz.func160,Tryz.ntmps160;go_upto_region 1 with fail;rw[<-HW.out,<-HH.out];by_cases hs:0<sc
  ·go_wp2_with (first |((go_at_call 72);(with_reducible refine SC.mono ?_);rintro e w2 ⟨rfl,aL⟩))
   go_ret;exact⟨by rw[HR.out,decide_eq_true hs];rfl,aH.and aL⟩
  go_wp2_with (first |((go_at_call 72);(with_reducible refine SC.mono ?_);rintro e w2 ⟨rfl,aL⟩;clear t0 t1 t2 t3;obtain⟨t0,t1,t2,t3⟩:=(gy.kept aL).cells;have MT:=sJ t iH w2 _ (di.on aL))|((go_at_call 52);(with_reducible refine MT.mono ?_);rintro e w3 ⟨v,rfl,hI,aZ⟩;obtain⟨va,vc,rfl,fp,LN⟩:=cO hI.rep;have kg:=aL.and aZ;have CI:=mM 188 (.pointer (some ⟨H+1,0,none⟩)) (fun i=>decide (n<=i)) jw w3 (fun x _ W hu=>Ab (H+1) n x W ((kg.and hu).cell EL (fun x=>x))) (Tryz.call188) va vc (ai.weaken (fun _ _ x=>x.elim) _ _ _ _ LN))|((go_at_call 51);(with_reducible refine CI.mono ?_);rintro e w4 ⟨rfl,bw⟩))
  go_ret;exact⟨by rw[HR.out,decide_eq_false (by omega)];rfl,(aH.and kg).and bw⟩
theorem CR(n:Int)(name:List UInt8)(a:Tm)(hn:name.length<=1000000)(iH:a.wt<=1000000)(w:World)(cs:List Value)(h:aw ae w a.az cs):
    Calls Tryz.prog 107 #[.int .i64 n,.string (B name),.agg cs.toArray] w fun e w'=>e=.returned (.int .i64 (dq n name a))/\af ae w w':=by
  obtain⟨k,nm,i,ts,aa,cap,ht,rfl,_,_⟩:=aP h;generalize ts.length=len at *
  obtain⟨w1,aF⟩:∃ w1,w1=w.alloc (.cells #[.int .i64 k,.string (B nm),.int .i64 i,.slice aa len cap] 29):=⟨_,rfl⟩;have aH:af ae w w1:=by rw[aF];exact(af.refl ae w).alloc _
  have gy:au w1 w.heap.size (.int .i64 k) (.string (B nm)) (.int .i64 i) (.slice aa len cap) 29:=by rw[aF];exact au.av rfl
  have di:=h.on aH;have IN:=mh name w1 hn;have WF:=cG a iH w1 _ di;have IT:=fun(W:World)(hu:af ae w1 W)=>pZ a iH W _ (di.on hu)
  have OU:=fun(W:World)(hu:af ae w1 W)=>DF a n iH W _ (di.on hu)
  have HW:=ak aF;obtain⟨H,hH⟩:∃ H,H=w.heap.size:=⟨_,rfl⟩;have HH:=ak hH;rw[<-hH]at gy;obtain⟨r,hr⟩:∃ r,r=dq n name a:=⟨_,rfl⟩;rw[<-hr];unfold dq at hr;have HR:=ak hr;generalize a.wf=q at *
  generalize (a.aC && a.small)=ty at *
  generalize tQ a n=ou at *
  generalize isName name=nb at *
  clear aF hH hr h ht;obtain⟨bad,dV⟩:∃ bad,bad=(!(name == []) && !nb):=⟨_,rfl⟩
  have kM:r=if bad=true then 1 else if q≠0 then q else if ty=false then 32 else if ou=true then 3 else if 2048<=n then 7 else 0:=by
    rw[HR.out,dV];congr 1;cases nb<;>simp
  have X2:=ak kM;have Iw:=ak dV;clear kM dV HR;obtain⟨t0,t1,t2,t3⟩:=gy.cells;go_enter Tryz.func107,Tryz.ntmps107;go_upto_region 1 with fail;rw[<-HW.out,<-HH.out];go_cut [14]from 8 to 14 (fun E9 wx=>E9=.bool bad/\w1=wx)
  case first=>
    cases name with
    |nil=>
     go_wp2_with fail;go_meet
     exact⟨by rw[Iw.out];rfl,rfl⟩
    |cons c cs=>
     go_wp2_with (first |((go_at_call 159);(with_reducible refine IN.mono ?_);rintro e w2 ⟨rfl,rfl⟩))
     go_meet
     exact⟨by rw[Iw.out];cases nb<;>rfl,rfl⟩
  obtain⟨rfl,rfl⟩:=hcut;cases bad
  case true=>
    go_wp2_with fail;go_ret;exact⟨by rw[X2.out];rfl,aH⟩
  case false=>
    go_upto_region 3 with fail;go_wp2_with fail
    (with_reducible refine WF.mono ?_);rintro e w2 ⟨rfl,aL⟩;by_cases hq:q=0
    ·subst hq;clear t0 t1 t2 t3;obtain⟨t0,t1,t2,t3⟩:=(gy.kept aL).cells;have OK:=IT w2 aL;cases ty
     case false=>
       go_wp2_with (first |((go_at_call 130);(with_reducible refine OK.mono ?_);rintro e w3 ⟨rfl,aZ⟩))
       go_ret;exact⟨by rw[X2.out];rfl,(aH.and aL).and aZ⟩
     case true=>
       cases ou
       case true=>
         go_wp2_with (first |((go_at_call 130);(with_reducible refine OK.mono ?_);rintro e w3 ⟨rfl,aZ⟩;have iA:=aL.and aZ;clear t0 t1 t2 t3;obtain⟨t0,t1,t2,t3⟩:=(gy.kept iA).cells;have OU3:=OU w3 iA)|((go_at_call 160);(with_reducible refine OU3.mono ?_);rintro e w4 ⟨rfl,bw⟩))
         go_ret;exact⟨by rw[X2.out];rfl,(aH.and iA).and bw⟩
       case false=>
         by_cases ZT:2048<=n
         all_goals
           have HN2:=ak ZT;go_wp2_with (first |((go_at_call 130);(with_reducible refine OK.mono ?_);rintro e w3 ⟨rfl,aZ⟩;have iA:=aL.and aZ;clear t0 t1 t2 t3;obtain⟨t0,t1,t2,t3⟩:=(gy.kept iA).cells;have OU3:=OU w3 iA)|((go_at_call 160);(with_reducible refine OU3.mono ?_);rintro e w4 ⟨rfl,bw⟩))
           go_ret
         ·have e:r=7:=by rw[X2.out];simp[HN2.out]
          exact⟨by rw[e];rfl,(aH.and iA).and bw⟩
         have e:r=0:=by rw[X2.out];simp[HN2.out]
         exact⟨by rw[e];rfl,(aH.and iA).and bw⟩
    have QH:(q !=0)=true:=by simpa using hq
    have HQ:=ak hq;clear hq;go_wp2_with fail;go_ret;exact⟨by rw[X2.out,if_neg (by simp),if_pos HQ.out];rfl,aH.and aL⟩
end Go.Proofs.YthgmimncdjhgnaaGreatDoor
namespace Go.LF
def kU(l:List Mv)(name:List UInt8)(a:Tm):List Mv:=if dq l.length name a≠0 then l else l++[⟨name,a,[]⟩]
def Dk(l:List Mv)(name:List UInt8)(a:Tm):Int:=if dq l.length name a≠0 then 0 else l.length
end Go.LF
namespace Go.Proofs.YthgmimncdjhgnaaGreatDoor
section
open Go.RowKit Go.LF
structure DL(l:List Mv):Prop where
  len:l.length<=2048
  mv:∀ m∈l,m.type.wt<=300000/\m.value.length<=1000/\∀ v∈m.value,v.wt<=300000
theorem DL.dup{l:List Mv}(h:DL l):∀ m∈l,Mv.ok m:=fun m hm=>by
  obtain⟨h1,h2,h3⟩:=h.mv m hm;refine⟨by have:=Tm.bB m.type;omega,by omega,fun v hv=>by have:=h3 v hv;have:=Tm.bB v;omega⟩
def Vy(L:List Mv)(i e':Int)(w:World)(e:Ending)(w':World):Prop:=
  ∃ v css,e=.returned (.tuple #[v,.int .i64 i,.int .i64 e'])/\cS 96 6 (fun b=>b<w.heap.size) w.heap.size w' v (L.map Mv.az) css/\af ae w w'
theorem cS.lower{T:TypeId}{wd base LA:Nat}{W:World}{v:Value}{ds:List fB}{css:List (List Value)}(h:cS T wd (fun b=>b<base) base W v ds css)(hb:LA<=base):cS T wd (fun b=>b<LA) LA W v ds css:=by
  refine⟨h.1,h.2.1,⟨h.2.2.1.1,?_⟩,fun i h1 h2=>aw.weaken (fun b _ e=>e.elim (fun e=>.inl (by omega)) .inr) _ _ (h.2.2.2 i h1 h2)⟩;rcases h.2.2.1.2 with h5 |⟨g,cap,cur,hv,hg,rest⟩
  ·exact .inl h5
  exact .inr ⟨g,cap,cur,hv,by omega,rest⟩
theorem IZ(l:List Mv)(hl:DL l)(name:List UInt8)(hn:name.length<=1000000)(a:Tm)(ZQ:a.wt<=300000)(w:World)(la:Option Addr)(lc:Nat)(cs:List Value)(hL:ai ae w 6 (l.map Mv.az) la 0)(h:aw ae w a.az cs):
    Calls Tryz.prog 46 #[.slice la l.length lc,.string (B name),.agg cs.toArray] w (Vy (kU l name a) (Dk l name a) (dq l.length name a) w):=by
  obtain⟨i0,hi,fS,gn,eH⟩:=info_parts qR;obtain⟨k,nm,i,ts,aa,cap,ht,rfl,_,_⟩:=aP h;generalize ts.length=len at *
  obtain⟨w1,aF⟩:∃ w1,w1=w.alloc (.cells #[.int .i64 k,.string (B nm),.int .i64 i,.slice aa len cap] 29):=⟨_,rfl⟩;have aH:af ae w w1:=by rw[aF];exact(af.refl ae w).alloc _
  have gy:au w1 w.heap.size (.int .i64 k) (.string (B nm)) (.int .i64 i) (.slice aa len cap) 29:=by rw[aF];exact au.av rfl
  have di:=h.on aH;have has:=Tm.bB a;have DS:=mA l (by have:=hl.len;omega) hl.dup w1 la lc (hL.on aH);have CK:=fun(W:World)(hu:af ae w1 W)=>CR l.length name a hn (by omega) W _ (di.on hu)
  have DT:=fun(W:World)(hu:af ae w1 W)=>nK a (by omega) W _ (di.on hu)
  have HW:=ak aF;obtain⟨H,hH⟩:∃ H,H=w.heap.size:=⟨_,rfl⟩;have HH:=ak hH;rw[<-hH]at gy;obtain⟨ll,du⟩:∃ ll,ll=l.length:=⟨_,rfl⟩;have ED:(ll:Int)<=2048:=by have:=hl.len;omega
  obtain⟨E,hE⟩:∃ E:Int,E=dq l.length name a:=⟨_,rfl⟩;obtain⟨L2,oG⟩:∃ L2,L2=kU l name a:=⟨_,rfl⟩;obtain⟨I2,D8⟩:∃ I2,I2=Dk l name a:=⟨_,rfl⟩;rw[<-hE,<-oG,<-D8];unfold kU at oG;unfold Dk at D8;rw[<-hE]at CK oG D8;rw[<-du]at CK D8 DS;rw[<-du];have HL:=ak (And.intro du (And.intro oG D8));have mX:=gy.lt;clear aF hH hE oG D8 du h ht hL di;obtain⟨t0,t1,t2,t3⟩:=gy.cells;go_enter Tryz.func46,Tryz.ntmps46;go_upto_region 1 with fail;rw[<-HW.out,<-HH.out];go_wp2_with fail
  (with_reducible refine DS.mono ?_);rintro e w2 ⟨v,css,rfl,hRD,aL⟩;have CK2:=CK w2 aL;have Hm:=gy.kept aL;clear t0 t1 t2 t3 DS CK;obtain⟨t0,t1,t2,t3⟩:=Hm.cells;go_wp2_with fail
  (with_reducible refine CK2.mono ?_);rintro e w3 ⟨rfl,aZ⟩;have iA:=aL.and aZ;have KF:=gy.kept iA;have Pf:=hRD.on aZ (fun b e=>e);clear t0 t1 t2 t3 Hm CK2;by_cases hz:E=0
  ·subst hz;have DT3:=DT w3 iA;obtain⟨t0,t1,t2,t3⟩:=KF.cells;go_wp2_with fail
   (with_reducible refine DT3.mono ?_);rintro e w4 ⟨k4,i4,n4,a4,l4,c4,rfl,OE,bw⟩;have YS:=Pf.on bw (fun b e=>e);have cK:=(af.refl ae w4).alloc (.cells #[.string (B name),.int .i64 k4,.string (B n4),.int .i64 i4,.slice a4 l4 c4,.slice none 0 0] 96);have QO:=YS.on cK (fun b e=>e);have own:=QO.2.2.1;rw[List.length_map,<-HL.out.1]at own;have DX:w1.heap.size<=w4.heap.size:=Nat.le_trans iA.size bw.size;go_wp2_with (at_builtin;go_loud (refine wpList_append_lies _ (by rfl) _ _ 23 (by rfl) w1.heap.size 96 i0 (.agg #[.string (B []),.int .i64 0,.string (B []),.int .i64 0,.slice none 0 0,.slice none 0 0]) 6 96 (by kernel_rfl) hi fS gn eH rfl (by decide) v ll css.flatten (by rfl) own ⟨w4.heap.size,0,none⟩ 1 1 [.string (B name),.int .i64 k4,.string (B n4),.int .i64 i4,.slice a4 l4 c4,.slice none 0 0] (by rfl) rfl (World.news_of_block (heap_alloc_new w4 _)) (by simp[Value.oneCell']) (by omega) (by simp only[maxLen];omega) (by omega) (by simp;omega) _ rfl ?_);intro g aS w5 bq aN ft _hg5)
   have A8:aw (fun b=>b<w1.heap.size\/v.ownBlock=some b) (w4.alloc (.cells #[.string (B name),.int .i64 k4,.string (B n4),.int .i64 i4,.slice a4 l4 c4,.slice none 0 0] 96)) (Mv.az ⟨name,a,[]⟩) [.string (B name),.int .i64 k4,.string (B n4),.int .i64 i4,.slice a4 l4 c4,.slice none 0 0]:=by
     refine jF.2 ⟨[.int .i64 k4,.string (B n4),.int .i64 i4,.slice a4 l4 c4],none,0,rfl,(aw.weaken (fun b _ e=>?_) _ _ OE).on cK,Nat.le_refl _,by simp only[List.map_nil,ai]⟩;rcases e with e |e
     ·have:=iA.size;omega
     have:=(Pf.2.2.1.lt b e).2;omega
   have gE:w5.ownsRow w1.heap.size 96 6 (.slice (some ⟨g,0,none⟩) ((l.map Mv.az).length+1) aS) ((l.map Mv.az).length+1) (css.flatten++[.string (B name),.int .i64 k4,.string (B n4),.int .i64 i4,.slice a4 l4 c4,.slice none 0 0]):=by rw[List.length_map,<-HL.out.1];exact bq
   have NK:=QO.appended (d:=Mv.az ⟨name,a,[]⟩) rfl A8 gE aN ft (Nat.le_refl _);rw[List.length_map,<-HL.out.1,show l.map Mv.az++[Mv.az ⟨name,a,[]⟩]=(l++[(⟨name,a,[]⟩:Mv)]).map Mv.az by simp]at NK;have ba:af ae w1 w5:=((iA.and bw).and cK).trans (ck aN) (fun b hb e=>by have:=(QO.2.2.1.lt b e).1;omega);have HR:=ak (And.intro NK ba);clear NK ba gE A8 bq aN ft own QO YS Pf hRD;go_wp2_with fail;refine bodyPost_ret (v:=.tuple #[.slice (some ⟨g,0,none⟩) (ll+1) aS,.int .i64 (ll:Int),.int .i64 0]) ?_ rfl ?_
   ·simp[results,Tryz.f46,go_sem]
   refine⟨_,css++[[.string (B name),.int .i64 k4,.string (B n4),.int .i64 i4,.slice a4 l4 c4,.slice none 0 0]],by rw[HL.out.2.2,if_neg (by simp)],?_,aH.and HR.out.2⟩;rw[HL.out.2.1,if_neg (by simp)];exact HR.out.1.lower (by have:=HH.out;omega)
  have hz':(E !=0)=true:=by simpa using hz
  have HZ:=ak hz;clear hz;go_wp2_with fail;refine bodyPost_ret (v:=.tuple #[v,.int .i64 0,.int .i64 E]) ?_ rfl ?_
  ·simp[results,Tryz.f46,go_sem]
  refine⟨v,css,by rw[HL.out.2.2,if_pos HZ.out],?_,aH.and iA⟩;rw[HL.out.2.1,if_pos HZ.out];exact Pf.lower (by have:=HH.out;omega)
end
section
open Go.RowKit Go.LF
theorem Gq{O:Nat->Prop}{W:World}{ts:List Int}(h:ai O W 1 (ts.map (fB.int .i64)) none 0):ts=[]:=by
  cases ts with
  |nil=>rfl
  |cons t ts=>simp only[List.map_cons,ai]at h;obtain⟨⟨_,_,_,e,_⟩,_⟩:=h;cases e
theorem tT{w:World}{O:Nat->Prop}{base:Nat}{v:Value}{L:List Int}(hS:dv base w v L)(A:Option Addr)(m c:Nat)(us:List Int)(hm:m=us.length)
    (hE:ai O w 1 (us.map (fB.int .i64)) A 0) (hl:L.length+us.length<=100000000) (dh:base<=w.heap.size) (ty:TypeId):
    ∃ v' w',(Builtin.append_ #[22,22] ty #[v,.slice A m c]).run Tryz.prog w=.ok v' w'/\dv base w' v' (L++us)/\w.grownBy w' v.ownBlock/\(v'.ownBlock=v.ownBlock\/v'.ownBlock=some w.heap.size):=by
  obtain⟨i0,hi,fS,gn,eH⟩:=info_parts nI;rcases A with _ |ad
  ·obtain rfl:=Gq hE;have pf:m=0:=by simpa using hm
   subst pf;refine⟨v,w,?_,by simpa using hS,World.grownBy.refl w _,.inl rfl⟩;have hu:Tryz.prog.underlying 22=some (.slice 3):=by kernel_rfl
   rcases hS.2 with⟨rfl,_⟩|⟨g,cap,cur,rfl,_,_,kz,_⟩
   ·simp[Builtin.append_,run_underlying hu,sizeOf,typeInfo,hi,Builtin.lenOf,Builtin.firstCells]
   simp[Builtin.append_,run_underlying hu,sizeOf,typeInfo,hi,Builtin.lenOf,Builtin.firstCells,kz,storeCells]
  have pT:∀ j u,(us.map (Value.int .i64))[j]? =some u->w.cell? (ad.add j)=some u:=by
    intro j u hu;rw[List.getElem?_map]at hu;obtain⟨x,hx,rfl⟩:=Option.map_eq_some_iff.1 hu;obtain⟨hj,rfl⟩:=List.getElem?_eq_some_iff.1 hx;obtain⟨b',o',e,_,_,hc⟩:=eX hE j hj;cases e
    have gF:(⟨b',o',none⟩:Addr).add j=⟨b',o'+j,none⟩:=by unfold Addr.add;split<;>simp_all
    rw[gF];exact hc
  obtain⟨v',w',mg,h2,h3,_,h5⟩:=run_append_own_at (P:=Tryz.prog) w base 22 ty 3 i0 (.int .i64 0) 1 8 (by kernel_rfl) hi fS gn eH rfl (by decide) v L.length (L.map (Value.int .i64)) hS ad m c (us.map (Value.int .i64)) (by simp[hm]) pT (by simp[Value.oneCell']) (by simp only[maxLen];omega) (by omega) dh;exact⟨v',w',mg,by unfold dv;simpa[hm]using h2,h3,h5⟩
theorem j8{w:World}{ops:Array Oper}{rest:List Oper}{o:Oper}{a:Act}{Q:Exit->Act->World->Prop}(ve:o.guard=none)(s x:Operand)
    (ho:o.op=.call { callee:=.builtin .append,args:=#[s,x],argTypes:=#[22,22] }){O:Nat->Prop}{base:Nat}{v:Value}{L:List Int} (hs:a.eval s=v) (hS:dv base w v L)
    (A:Option Addr) (m c:Nat) (us:List Int) (hx:a.eval x=.slice A m c) (hm:m=us.length) (hE:ai O w 1 (us.map (fB.int .i64)) A 0) (hl:L.length+us.length<=100000000) (dh:base<=w.heap.size)
    (h:∀ v' w',dv base w' v' (L++us)->w.grownBy w' v.ownBlock->(v'.ownBlock=v.ownBlock\/v'.ownBlock=some w.heap.size)->wpList Tryz.prog ops Q rest (a.put o.dst v') w'):wpList Tryz.prog ops Q (o :: rest) a w:=by
  refine wpList_plain ve fun _ hK=>?_
  obtain⟨v',w',mg,h1,h2,h3⟩:=tT hS A m c us hm hE hl dh o.type;unfold Oper.wp execOp;simp only[ho,resolve,invoke,builtin,Sem.run_bind,Sem.run_pure,Result.andThen_ok,List.map_toArray,List.map_cons,List.map_nil,hs,hx,mg];exact hK _ _ (h v' w' h1 h2 h3)
theorem ja{O:Nat->Prop}{W:World}{l:List Mv}{a:Option Addr}(h:ai O W 6 (l.map Mv.az) a 0)(j:Nat)(hj:j<l.length):
    ∃ b o k n i aa cap va vc,a=some ⟨b,o,none⟩/\b<W.heap.size/\¬O b/\(W.cell? ⟨b,o+j * 6,none⟩=some (.string (B l[j].name))/\W.cell? ⟨b,o+j * 6+1,none⟩=some (.int .i64 k)/\W.cell? ⟨b,o+j * 6+2,none⟩=some (.string (B n))/\
      W.cell? ⟨b,o+j * 6+3,none⟩=some (.int .i64 i)/\W.cell? ⟨b,o+j * 6+4,none⟩=some (.slice aa l[j].type.args.length cap)/\W.cell? ⟨b,o+j * 6+5,none⟩=some (.slice va l[j].value.length vc))/\
      aw O W l[j].type.az [.int .i64 k,.string (B n),.int .i64 i,.slice aa l[j].type.args.length cap]/\l[j].value.length<=vc/\ai O W 4 (l[j].value.map Tm.az) va 0:=by
  obtain⟨b,o,cs,h1,hb,h2,h3,h4,h5⟩:=h.get j (by simpa using hj);simp only[List.getElem_map]at h5;obtain⟨k,n,i,aa,cap,va,vc,rfl,h6,h7,h8⟩:=gx h5;refine⟨b,o,k,n,i,aa,cap,va,vc,h1,hb,h2,⟨?_,?_,?_,?_,?_,?_⟩,h6,h7,h8⟩
  ·simpa using h4 0 _ rfl
  ·simpa using h4 1 _ rfl
  ·simpa using h4 2 _ rfl
  ·simpa using h4 3 _ rfl
  ·simpa using h4 4 _ rfl
  simpa using h4 5 _ rfl
theorem Jq{l:List Tm}(j:Nat)(h:j<l.length):(l.take (j+1)).flatMap Tm.ay=(l.take j).flatMap Tm.ay++Tm.ay l[j]:=by
  rw[List.take_succ_eq_append_getElem h,List.flatMap_append,List.flatMap_cons,List.flatMap_nil,List.append_nil]
theorem Nf{l:List Tm}(h:∀ v∈l,v.wt<=300000):(l.flatMap Tm.ay).length<=l.length * 300000:=by
  induction l with
  |nil=>simp
  |cons t ts ih=>
   have h1:=eL t;have h2:=h t (by simp);have h3:=ih (fun v hv=>h v (by simp[hv]));simp only[List.flatMap_cons,List.length_append,List.length_cons,Nat.add_mul,Nat.one_mul];omega
theorem dv.on{base:Nat}{W W':World}{v:Value}{L:List Int}(h:dv base W v L)(hU:af ae W W'):dv base W' v L:=
  World.ownsRow.kept (row:=none) h ⟨hU.os,hU.tape,hU.output,hU.size,fun k hk _=>hU.block k hk (fun x=>x)⟩ (by cases v.ownBlock<;>simp)
end
end Go.Proofs.YthgmimncdjhgnaaGreatDoor
namespace Go.LF
open Tm Go.Proofs.YthgmimncdjhgnaaGreatDoor
def dst(seen:List Int):List Int->Bool
  | []=>true
  |v :: vs=>if(decide (v<0)|| seen.contains v)=true then false else dst (seen++[v]) vs
end Go.LF
namespace Go.Proofs.YthgmimncdjhgnaaGreatDoor
open Go.RowKit Go.LF
def pe(W:World)(g:Nat)(cs:Array Value)(T:TypeId):Prop:=W.heap[g]? =some (.cells cs T (0,0))
section
variable {W W':World}{g:Nat}{cs:Array Value}{T:TypeId}{S:Nat->Prop}
theorem pe.av(hb:W.heap.size=g):pe (W.alloc (.cells cs T)) g cs T:=by subst hb;exact heap_alloc_new W _
theorem pe.lt(h:pe W g cs T):g<W.heap.size:=(Array.getElem?_eq_some_iff.1 h).1
theorem pe.cell(h:pe W g cs T)(i:Nat):W.cell? ⟨g,i,none⟩=cs[i]? :=by unfold pe at h;simp[World.cell?,h]
theorem pe.ag(h:pe W g cs T)(hU:af S W W')(hS:¬S g):pe W' g cs T:=(hU.block g h.lt hS).trans h
theorem pe.kept(h:pe W g cs T)(hU:af ae W W'):pe W' g cs T:=h.ag hU (fun x=>x)
end
end Go.Proofs.YthgmimncdjhgnaaGreatDoor
