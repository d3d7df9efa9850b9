/- A row of yw of ake own is appended to; K5 it holds aml in blocks wh aqA there. -/
import Derived.Test.YthgmimncdjhgnaaGreatDoorXFB
set_option maxRecDepth 100000
set_option maxHeartbeats 8000000
namespace Go.Proofs.YthgmimncdjhgnaaGreatDoor
section
open Go.RowKit Go.LF
def kq(O:Nat->Prop)(base:Nat)(W:World)(v:Value)(ms:List Mv)(css:List (List Value)):Prop:=
  css.length=ms.length/\(∀ cs∈css,cs.length=6)/\W.ownsRow base 96 6 v ms.length css.flatten/\∀ i(h:i<ms.length)(h':i<css.length),aw (fun b=>O b\/base<=b) W ms[i].az css[i]
section
variable {O:Nat->Prop}{base:Nat}{W W':World}{v:Value}{ms:List Mv}{css:List (List Value)}
theorem kq.nil(O:Nat->Prop)(base:Nat)(W:World):kq O base W (.slice none 0 0) [] []:=⟨rfl,by simp,World.ownsRow_nil _ _ _ _,fun i h=>by simp at h⟩
theorem kq.on(h:kq O base W v ms css)(hU:af ae W W'):kq O base W' v ms css:=by
  obtain⟨h1,h2,h3,h4⟩:=h;refine⟨h1,h2,⟨h3.1,?_⟩,fun i h h'=>(h4 i h h').on hU⟩;rcases h3.2 with h5 |⟨g,cap,cur,rfl,hb,hg,rest⟩
  ·exact .inl h5
  exact .inr ⟨g,cap,cur,rfl,hb,(hU.block g (Array.getElem?_eq_some_iff.1 hg).1 (fun x=>x)).trans hg,rest⟩
theorem kq.D9(h:kq O base W v ms css):cS 96 6 (fun b=>base<=b) base W v (ms.map Mv.az) css:=by
  obtain⟨h1,h2,h3,h4⟩:=h;refine⟨by simp[h1],h2,by simpa using h3,fun i hi dZ=>?_⟩;simp only[List.getElem_map];exact aw.weaken (fun b _ e=>.inr (e.elim id (fun e=>(h3.lt b e).1))) _ _ (h4 i (by simpa using hi) dZ)
theorem kq.row(h:kq O base W v ms css):∃ a cap,v=.slice a ms.length cap/\ms.length<=cap/\ai ae W 6 (ms.map Mv.az) a 0:=by
  obtain⟨a,cap,hv,aX,hc⟩:=h.D9.cells;rw[List.length_map]at hv aX;refine⟨a,cap,hv,aX,bT _ _ _ (fun i hi=>?_)⟩;have eH:i<css.length:=by have:=h.1;rw[List.length_map]at hi;omega
  obtain⟨g,rfl,bq,hb,aB,_,hg⟩:=hc i hi eH;refine⟨g,0,css[i],rfl,aB,fun x=>x,h.2.1 _ (List.getElem_mem eH),fun m u hu=>?_,?_⟩
  ·rw[show 0+0+i * 6+m=i * 6+m by omega];exact hg m u hu
  simp only[List.getElem_map];exact aw.weaken (fun _ _ x=>x.elim) _ _ (h.2.2.2 i (by simpa using hi) eH)
end
theorem ny{w:World}{O:Nat->Prop}{base:Nat}{v:Value}{ts:List Mv}{css:List (List Value)}(hS:kq O base w v ts css)(A:Option Addr)(m c:Nat)(us:List Mv)(hm:m=us.length)
    (hE:ai ae w 6 (us.map Mv.az) A 0) (hR:∀ i(h:i<us.length)cs,aw ae w us[i].az cs->(∀ m u,cs[m]? =some u->∃ b o,A=some ⟨b,o,none⟩/\w.cell? ⟨b,o+(i * 6+m),none⟩=some u)->aw (fun b=>O b\/base<=b) w us[i].az cs) (hl:ts.length+us.length<=900000) (dh:base<=w.heap.size) (ty:TypeId):
    ∃ v' w' fY,(Builtin.append_ #[23,23] ty #[v,.slice A m c]).run Tryz.prog w=.ok v' w'/\kq O base w' v' (ts++us) fY/\w.grownBy w' v.ownBlock/\(v'.ownBlock=v.ownBlock\/v'.ownBlock=some w.heap.size):=by
  obtain⟨i0,hi,fS,gn,eH⟩:=info_parts qR;obtain⟨iY,r1,r2,r3,r4,r5⟩:=pQ us A 0 hE;have iw:=(DD 6 iY r2).1;rw[r1,<-hm]at iw
  have r5':∀ i(h:i<us.length)(h':i<iY.length),aw (fun b=>O b\/base<=b) w us[i].az iY[i]:=by
    intro i h h';refine hR i h _ (r5 i h h') (fun m u hu=>?_);obtain⟨b,o,e,hc⟩:=r4 (i * 6+m) u ((DD 6 iY r2).2 i h' m u hu);exact⟨b,o,e,by simpa using hc⟩
  have fin:∀(v':Value)(w':World),w'.ownsRow base 96 6 v' (ts.length+m) (css.flatten++iY.flatten)->w.grownBy w' v.ownBlock->kq O base w' v' (ts++us) (css++iY):=by
    intro v' w' bq hg;obtain⟨h1,h2,h3,h4⟩:=hS;have pa:nO (fun b=>O b\/base<=b) w w':=⟨hg.size,fun b o u hb hu=>hg.cell hu (fun e=>hb (.inr (h3.lt b e.symm).1))⟩;refine⟨by simp[h1,r1],?_,by simpa[hm]using bq,fun i hi dZ=>?_⟩
    ·intro x hx;rcases List.mem_append.1 hx with hx |hx
     ·exact h2 x hx
     exact r2 x hx
    by_cases aB:i<ts.length
    ·rw[List.getElem_append_left aB,List.getElem_append_left (by omega)];exact aw.carry pa _ _ (h4 i aB (by omega))
    have eH:i - ts.length<us.length:=by simp at hi;omega
    rw[List.getElem_append_right (by omega),List.getElem_append_right (by omega)];simp only[h1];exact aw.carry pa _ _ (r5' _ eH (by omega))
  rcases A with _ |ad
  ·obtain rfl:=vA hE;have pf:m=0:=by simpa using hm
   subst pf;obtain rfl:iY=[]:=by simpa using r1
   refine⟨v,w,css,?_,by simpa using hS,World.grownBy.refl w _,.inl rfl⟩;have hu:Tryz.prog.underlying 23=some (.slice 96):=by kernel_rfl
   rcases hS.2.2.1.2 with⟨rfl,_⟩|⟨g,cap,cur,rfl,_,_,kz,_⟩
   ·simp[Builtin.append_,run_underlying hu,sizeOf,typeInfo,hi,Builtin.lenOf,Builtin.firstCells]
   simp[Builtin.append_,run_underlying hu,sizeOf,typeInfo,hi,Builtin.lenOf,Builtin.firstCells,kz,storeCells]
  have pT:∀ j u,iY.flatten[j]? =some u->w.cell? (ad.add j)=some u:=by
    intro j u hu;obtain⟨b',o',e,hc⟩:=r4 j u hu;cases e
    have gF:(⟨b',o',none⟩:Addr).add j=⟨b',o'+j,none⟩:=by unfold Addr.add;split<;>simp_all
    rw[gF];simpa using hc
  obtain⟨v',w',mg,h2,h3,_,h5⟩:=run_append_own_at (P:=Tryz.prog) w base 23 ty 96 i0 (.agg #[.string (B []),.int .i64 0,.string (B []),.int .i64 0,.slice none 0 0,.slice none 0 0]) 6 96 (by kernel_rfl) hi fS gn eH rfl (by decide) v ts.length css.flatten hS.2.2.1 ad m c iY.flatten iw pT r3 (by simp only[maxLen];omega) (by omega) dh;exact⟨v',w',_,mg,fin v' w' h2 h3,h3,h5⟩
theorem Qp{O:Nat->Prop}{base:Nat}{w:World}{A:Option Addr}{us:List Mv}(hE:ai (fun b=>O b\/base<=b) w 6 (us.map Mv.az) A 0):∀ i(h:i<us.length)cs,aw ae w us[i].az cs->(∀ m u,cs[m]? =some u->∃ b o,A=some ⟨b,o,none⟩/\w.cell? ⟨b,o+(i * 6+m),none⟩=some u)->aw (fun b=>O b\/base<=b) w us[i].az cs:=by
  intro i hi cs hR hc;obtain⟨b,o,qs,rfl,hb,hO,hl,pj,hr⟩:=hE.get i (by simpa using hi);simp only[List.getElem_map]at hr;obtain⟨k,n,ix,a,cap,va,vc,e1,_⟩:=gx hR;obtain⟨k',n',ix',a',aS,va',vc',e2,_⟩:=gx hr
  have:cs=qs:=by
    refine List.ext_getElem? (fun m=>?_);by_cases hm:m<6
    ·obtain⟨u,hu⟩:∃ u,cs[m]? =some u:=⟨_,List.getElem?_eq_getElem (by rw[e1];simpa using hm)⟩;obtain⟨u',Ks⟩:∃ u,qs[m]? =some u:=⟨_,List.getElem?_eq_getElem (by rw[hl];exact hm)⟩;obtain⟨b',o',e,h1⟩:=hc m u hu;cases e
     have h2:=pj m u' Ks;rw[show o+(i * 6+m)=o+0+i * 6+m by omega]at h1;simp only[Nat.add_zero]at h1 h2;rw[h1]at h2;rw[hu,Ks,Option.some.inj h2]
    rw[List.getElem?_eq_none (by rw[e1];simp;omega),List.getElem?_eq_none (by omega)]
  rw[this];exact hr
theorem vI{O:Nat->Prop}{base:Nat}{w:World}{A:Option Addr}{us:List Mv}(hE:ai (fun b=>O b\/base<=b) w 6 (us.map Mv.az) A 0):ai ae w 6 (us.map Mv.az) A 0/\∀ i(h:i<us.length)cs,aw ae w us[i].az cs->(∀ m u,cs[m]? =some u->∃ b o,A=some ⟨b,o,none⟩/\w.cell? ⟨b,o+(i * 6+m),none⟩=some u)->aw (fun b=>O b\/base<=b) w us[i].az cs:=
  ⟨ai.weaken (fun _ _ x=>x.elim) _ _ _ _ hE,Qp hE⟩
theorem vZ{O:Nat->Prop}{base:Nat}{w:World}{g:Nat}{u:Mv}{c0 c1 c2 c3 c4 c5:Value}{T:TypeId}(hB:bC w g c0 c1 c2 c3 c4 c5 T)(hR:aw (fun b=>O b\/base<=b) w u.az [c0,c1,c2,c3,c4,c5]):
    ai ae w 6 ([u].map Mv.az) (some ⟨g,0,none⟩) 0/\∀ i(h:i<[u].length)cs,aw ae w [u][i].az cs->(∀ m v,cs[m]? =some v->∃ b o,(some ⟨g,0,none⟩:Option Addr)=some ⟨b,o,none⟩/\w.cell? ⟨b,o+(i * 6+m),none⟩=some v)->aw (fun b=>O b\/base<=b) w [u][i].az cs:=by
  obtain⟨x0,x1,x2,x3,x4,x5⟩:=hB.cells;refine⟨bT _ _ _ (fun j hj=>?_),fun i hi cs h1 h2=>?_⟩
  ·obtain rfl:j=0:=by simpa using hj
   refine⟨g,0,[c0,c1,c2,c3,c4,c5],rfl,hB.lt,fun x=>x,rfl,fun q v hv=>?_,by simpa using aw.weaken (fun _ _ x=>x.elim) _ _ hR⟩;match q,hv with
   |0,hv=>cases hv;exact x0
   |1,hv=>cases hv;exact x1
   |2,hv=>cases hv;exact x2
   |3,hv=>cases hv;exact x3
   |4,hv=>cases hv;exact x4
   |5,hv=>cases hv;exact x5
   |q+6,hv=>simp at hv
  obtain rfl:i=0:=by simpa using hi
  obtain⟨k',n',ix',a',aS,va',vc',e2,_⟩:=gx h1
  have key:∀ m v c,cs[m]? =some v->w.cell? ⟨g,m,none⟩=some c->v=c:=by
    intro m v c hv hc;obtain⟨b,o,e,h3⟩:=h2 m v hv;cases e
    rw[show 0+(0 * 6+m)=m by omega,hc]at h3;exact(Option.some.inj h3).symm
  have e:cs=[c0,c1,c2,c3,c4,c5]:=by
    rw[e2]at key ⊢;rw[key 0 _ _ rfl x0,key 1 _ _ rfl x1,key 2 _ _ rfl x2,key 3 _ _ rfl x3,key 4 _ _ rfl x4,key 5 _ _ rfl x5]
  rw[e];exact hR
theorem gW{w:World}{ops:Array Oper}{o:Oper}{a:Act}{K:Act->World->Prop}{Q:Exit->Act->World->Prop}{E:Prop}(ve:o.guard=none)(s x:Operand)
    (ho:o.op=.call { callee:=.builtin .append,args:=#[s,x],argTypes:=#[23,23] }){O:Nat->Prop}{base:Nat}{v:Value}{ts:List Mv}{css:List (List Value)} (hs:a.eval s=v) (hS:kq O base w v ts css)
    (A:Option Addr) (m c:Nat) (us:List Mv) (hx:a.eval x=.slice A m c) (hm:m=us.length) (Gf:ai ae w 6 (us.map Mv.az) A 0/\∀ i(h:i<us.length)cs,aw ae w us[i].az cs->(∀ m u,cs[m]? =some u->∃ b o,A=some ⟨b,o,none⟩/\w.cell? ⟨b,o+(i * 6+m),none⟩=some u)->aw (fun b=>O b\/base<=b) w us[i].az cs) (hl:ts.length+us.length<=900000) (dh:base<=w.heap.size)
    (h:∀ v' w' fY,kq O base w' v' (ts++us) fY->w.grownBy w' v.ownBlock->(v'.ownBlock=v.ownBlock\/v'.ownBlock=some w.heap.size)->K (a.put o.dst v') w'):
    if Region.wanted o (yielded ops a.tmps)=true then Oper.wp Tryz.prog o a w K Q else E:=by
  have hw:Region.wanted o (yielded ops a.tmps)=true:=by simp[Region.wanted,ve]
  rw[if_pos hw];obtain⟨v',w',fY,mg,h1,h2,h3⟩:=ny hS A m c us hm Gf.1 Gf.2 hl dh o.type;unfold Oper.wp execOp;simp only[ho,resolve,invoke,builtin,Sem.run_bind,Sem.run_pure,Result.andThen_ok,List.map_toArray,List.map_cons,List.map_nil,hs,hx,mg];exact h v' w' fY h1 h2 h3
theorem qv{w:World}{ops:Array Oper}{rest:List Oper}{o:Oper}{a:Act}{Q:Exit->Act->World->Prop}(ve:o.guard=none)(s x:Operand)
    (ho:o.op=.call { callee:=.builtin .append,args:=#[s,x],argTypes:=#[23,23] }){O:Nat->Prop}{base:Nat}{v:Value}{ts:List Mv}{css:List (List Value)} (hs:a.eval s=v) (hS:kq O base w v ts css)
    (A:Option Addr) (m c:Nat) (us:List Mv) (hx:a.eval x=.slice A m c) (hm:m=us.length) (Gf:ai ae w 6 (us.map Mv.az) A 0/\∀ i(h:i<us.length)cs,aw ae w us[i].az cs->(∀ m u,cs[m]? =some u->∃ b o,A=some ⟨b,o,none⟩/\w.cell? ⟨b,o+(i * 6+m),none⟩=some u)->aw (fun b=>O b\/base<=b) w us[i].az cs) (hl:ts.length+us.length<=900000) (dh:base<=w.heap.size)
    (h:∀ v' w' fY,kq O base w' v' (ts++us) fY->w.grownBy w' v.ownBlock->(v'.ownBlock=v.ownBlock\/v'.ownBlock=some w.heap.size)->wpList Tryz.prog ops Q rest (a.put o.dst v') w'):wpList Tryz.prog ops Q (o :: rest) a w:=by
  refine wpList_plain ve fun _ hK=>?_
  obtain⟨v',w',fY,mg,h1,h2,h3⟩:=ny hS A m c us hm Gf.1 Gf.2 hl dh o.type;unfold Oper.wp execOp;simp only[ho,resolve,invoke,builtin,Sem.run_bind,Sem.run_pure,Result.andThen_ok,List.map_toArray,List.map_cons,List.map_nil,hs,hx,mg];exact hK _ _ (h v' w' fY h1 h2 h3)
end
section
open Go.RowKit Go.LF
def ew(W:World)(q:Nat)(l:List Bool):Prop:=W.heap[q]? =some (.cells (l.map Value.bool).toArray 4 (0,0))
section
variable {W W':World}{q:Nat}{l:List Bool}{S:Nat->Prop}
theorem ew.lt(h:ew W q l):q<W.heap.size:=(Array.getElem?_eq_some_iff.1 h).1
theorem ew.cell(h:ew W q l)(i:Nat)(hi:i<l.length):W.cell? ⟨q,i,none⟩=some (.bool l[i]):=by
  unfold ew at h;simp[World.cell?,h,hi]
theorem ew.frozen(h:ew W q l)(i:Nat):W.frozen? ⟨q,i,none⟩=false:=by
  unfold ew at h;simp[World.frozen?,h]
theorem ew.ag(h:ew W q l)(hU:af S W W')(hS:¬S q):ew W' q l:=(hU.block q h.lt hS).trans h
theorem ew.kept(h:ew W q l)(hU:af ae W W'):ew W' q l:=h.ag hU (fun x=>x)
theorem ew.set(h:ew W q l)(i:Nat)(b:Bool):ew (W.setCell ⟨q,i,none⟩ (.bool b)) q (l.set i b):=by
  obtain⟨aB,hk⟩:=Array.getElem?_eq_some_iff.1 h;show(W.heap.modify q _)[q]? =_;rw[Array.getElem?_eq_getElem (by rw[Array.size_modify];exact aB),Array.getElem_modify_self,hk];simp[List.map_set]
end
theorem CC:(Tryz.prog.info? 4).map (fun i=>(i.zero,i.size,i.bytes))=some (some (.bool false),1,1):=by kernel_rfl
theorem rR(n:Nat)(hn:n<=1048576)(w:World):
    (Instr.makeSlice 122 (.int .i64 n) (.int .i64 n)).run Tryz.prog w=.ok (.slice (some ⟨w.heap.size,0,none⟩) n n) (w.alloc (.cells ((List.replicate n false).map Value.bool).toArray 4)):=by
  obtain⟨i0,hi,fS,gn,eH⟩:=info_parts CC;have h:=run_make (P:=Tryz.prog) w 122 4 i0 _ (by kernel_rfl) hi fS .i64 .i64 n n (by omega) (by omega) (by rw[eH];omega) (by omega);rw[Int.toNat_natCast,gn,Nat.mul_one]at h
  have e:madeCells (Value.bool false).cells n=((List.replicate n false).map Value.bool).toArray:=by
    apply Array.ext
    ·simp[madeCells]
    intro i h1 h2;have e:i % 1=0:=Nat.mod_one i;simp[madeCells,Value.cells,e]
  rw[<-e];exact h
end
section
open Go.RowKit Go.LF
theorem tN{α:Type}(p:α->Bool)(l:List α)(j:Nat)(h:j<l.length):(l.take (j+1)).any p=((l.take j).any p || p l[j]):=by
  rw[List.take_succ_eq_append_getElem h];simp only[List.any_append,List.any_cons,List.any_nil,Bool.or_false]
theorem nZ(t:Tm)(n:Int)(iH:t.wt<=1000000)(w:World)(cs:List Value)(h:aw ae w t.az cs):
    Calls Tryz.prog 56 #[.agg cs.toArray,.int .i64 n] w fun e w'=>e=.returned (.bool (!(Tm.ay t).any (fun i=>decide (n<=i))))/\af ae w w':=by
  obtain⟨k,nm,i,ts,a,cap,ht,rfl,_,_⟩:=aP h;generalize ts.length=len at *
  obtain⟨w1,aF⟩:∃ w1,w1=w.alloc (.cells #[.int .i64 k,.string (B nm),.int .i64 i,.slice a len cap] 29):=⟨_,rfl⟩;have aH:af ae w w1:=by rw[aF];exact(af.refl ae w).alloc _
  have gy:au w1 w.heap.size (.int .i64 k) (.string (B nm)) (.int .i64 i) (.slice a len cap) 29:=by rw[aF];exact au.av rfl
  have MT:=iE t iH w1 _ (h.on aH);have mR:(Tm.ay t).length<=1000000:=Nat.le_trans (eL t) iH;obtain⟨ms,jw⟩:∃ ms,ms=Tm.ay t:=⟨_,rfl⟩;rw[<-jw]at MT mR ⊢;have HW:=ak aF;obtain⟨H,hH⟩:∃ H,H=w.heap.size:=⟨_,rfl⟩;have HH:=ak hH;rw[<-hH]at gy;obtain⟨ml,jk⟩:∃ ml,ml=ms.length:=⟨_,rfl⟩;rw[<-jk]at mR;have Ry:=ak jk;clear aF hH jw jk h ht;obtain⟨t0,t1,t2,t3⟩:=gy.cells;go_enter Tryz.func56,Tryz.ntmps56;go_upto_region 1 with fail;rw[<-HW.out,<-HH.out];go_wp2_with fail
  (with_reducible refine MT.mono ?_);rintro e w2 ⟨v,rfl,hI,aL⟩;obtain⟨va,vc,rfl,fp,hE⟩:=cO hI.rep;have kh:=aH.and aL;rw[<-Ry.out];clear hI t0 t1 t2 t3 MT fp;go_wp2_with fail;go_loopw [6] (fun v6 wr=>∃ j:Nat,v6=.int .i64 (j:Int)/\j<=ml/\(ms.take j).any (fun i=>decide (n<=i))=false/\af ae w2 wr) (fun v6 _=>ml - (intOf v6).toNat)
  case atStart=>exact⟨0,rfl,Nat.zero_le _,rfl,af.refl _ _⟩
  obtain⟨j,rfl,hj,hA,hU⟩:=hrel;have HA:=ak hA;clear hA;have BW:(j:Int)<=1000000:=by omega
  by_cases aB:j<ml
  ·have b7:j<ms.length:=by have:=Ry.out;omega
   obtain⟨b,o,rfl,hb,_,hc⟩:=eX (hE.on hU) j b7;have hT:=tN (fun i=>decide (n<=i)) ms j b7;have hM:n<=ms[j]->ms.any (fun i=>decide (n<=i))=true:=fun h=>List.any_eq_true.2 ⟨_,List.getElem_mem b7,by simpa using h⟩
   rw[HA.out]at hT;have HT:=ak hT;have HM:=ak hM;clear hT hM;generalize ms[j]=x at *
   clear b7;have Dp:(j:Int)<(ml:Int):=by omega
   by_cases hx:n<=x
   ·go_wp2_with fail;go_ret;exact⟨by rw[HM.out hx];rfl,kh.and hU⟩
   have Ox:x<n:=by omega
   go_wp2_with fail;go_roundw;case rel=>exact⟨j+1,by go_num,by omega,by rw[HT.out];simp;omega,hU⟩
   simp[intOf];omega
  have rG:ms.take j=ms:=List.take_of_length_le (by have:=Ry.out;omega);have hA:=HA.out;rw[rG]at hA;have HF:=ak hA;clear HA rG hA;go_wp2_with fail;go_ret;exact⟨by rw[HF.out];rfl,kh.and hU⟩
theorem vp(m:Tm)(n:Int)(iH:m.wt<=1000000)(w:World)(cs:List Value)(h:aw ae w m.az cs):
    Calls Tryz.prog 112 #[.agg cs.toArray,.int .i64 n] w fun e w'=>e=.returned (.int .i64 (ik m n))/\af ae w w':=by
  obtain⟨k,nm,i,ts,a,cap,ht,rfl,_,_⟩:=aP h;generalize ts.length=len at *
  obtain⟨w1,aF⟩:∃ w1,w1=w.alloc (.cells #[.int .i64 k,.string (B nm),.int .i64 i,.slice a len cap] 29):=⟨_,rfl⟩;have aH:af ae w w1:=by rw[aF];exact(af.refl ae w).alloc _
  have gy:au w1 w.heap.size (.int .i64 k) (.string (B nm)) (.int .i64 i) (.slice a len cap) 29:=by rw[aF];exact au.av rfl
  have di:=h.on aH;have WF:=dx m iH w1 _ di;have iO:=fun(W:World)(hu:af ae w1 W)=>jy m iH W _ (di.on hu)
  have SC:=fun(W:World)(hu:af ae w1 W)=>mD m iH W _ (di.on hu)
  have KN:=fun(W:World)(hu:af ae w1 W)=>nZ m n iH W _ (di.on hu)
  have HW:=ak aF;obtain⟨H,hH⟩:∃ H,H=w.heap.size:=⟨_,rfl⟩;have HH:=ak hH;rw[<-hH]at gy;obtain⟨r,hr⟩:∃ r,r=ik m n:=⟨_,rfl⟩;rw[<-hr];unfold ik tQ at hr;obtain⟨sc,fJ⟩:∃ sc:Int,sc=(if m.wf == 0 then m.scope else 0):=⟨_,rfl⟩;rw[<-fJ]at hr SC;obtain⟨kb,Rr⟩:∃ kb,kb=(Tm.ay m).any (fun i=>decide (n<=i)):=⟨_,rfl⟩;rw[<-Rr]at hr KN;clear fJ Rr;generalize m.wf=q at *
  generalize (m.isObj && m.small)=ob at *
  have HR:=ak hr;clear aF hH hr h ht di;obtain⟨t0,t1,t2,t3⟩:=gy.cells;go_enter Tryz.func112,Tryz.ntmps112;go_upto_region 1 with fail;rw[<-HW.out,<-HH.out];go_wp2_with fail
  (with_reducible refine WF.mono ?_);rintro e w2 ⟨rfl,aL⟩;have Hm:=gy.kept aL;have IO2:=iO w2 aL;clear t0 t1 t2 t3 WF iO;obtain⟨t0,t1,t2,t3⟩:=Hm.cells;by_cases hq:q=0
  case neg=>
    have QH:(q !=0)=true:=by simpa using hq
    have HE:=ak (show r=q by rw[HR.out,if_pos hq]);clear hq;go_wp2_with fail;go_ret;exact⟨by rw[HE.out];rfl,aH.and aL⟩
  subst hq;go_wp2_with fail
  (with_reducible refine IO2.mono ?_);rintro e w3 ⟨rfl,aZ⟩;have iA:=aL.and aZ;have KF:=gy.kept iA;have Nz:=SC w3 iA;clear t0 t1 t2 t3 IO2 SC Hm;obtain⟨t0,t1,t2,t3⟩:=KF.cells;cases ob
  case false=>
    have HE:=ak (show r=32 by rw[HR.out,if_neg (by simp),if_pos rfl]);go_wp2_with fail;go_ret;exact⟨by rw[HE.out];rfl,aH.and iA⟩
  have Tr:=ak (show r=if(decide (0<sc)|| kb)=true then 3 else 0 by rw[HR.out,if_neg (by simp),if_neg (by simp)]);clear HR;by_cases hs:0<sc
  ·have HE:=ak (show r=3 by rw[Tr.out,if_pos (by simp[hs])]);clear Tr;go_wp2_with (first |((go_at_call 36);(with_reducible refine Nz.mono ?_);rintro e w4 ⟨rfl,bw⟩))
   go_ret;exact⟨by rw[HE.out];rfl,aH.and (iA.and bw)⟩
  have HE:=ak (show r=if kb=true then 3 else 0 by rw[Tr.out,decide_eq_false hs];rfl);clear Tr;go_wp2_with (first |((go_at_call 36);(with_reducible refine Nz.mono ?_);rintro e w4 ⟨rfl,bw⟩;have lg:=iA.and bw;clear t0 t1 t2 t3;obtain⟨t0,t1,t2,t3⟩:=(gy.kept lg).cells;have KN4:=KN w4 lg)|((go_at_call 56);(with_reducible refine KN4.mono ?_);rintro e w5 ⟨rfl,ba⟩;cases kb))
  ·go_ret;exact⟨by rw[HE.out];rfl,aH.and (lg.and ba)⟩
  go_ret;exact⟨by rw[HE.out];rfl,aH.and (lg.and ba)⟩
theorem Fx(n:Int)(name:List UInt8)(a:Tm):dq n name a=if(!(name == []) && !isName name)=true\/a.wf=1 then 1 else if a.wf≠0 then a.wf else if(a.aC && a.small)=false then 32 else if(decide (0<(if a.wf == 0 then a.scope else 0))|| (Tm.ay a).any (fun i=>decide (n<=i)))=true then 3 else if 2048<=n then 7 else 0:=by
  unfold dq tQ;have hb:(!(name == []) && !isName name)=true↔(name≠[]/\isName name=false):=by simp
  by_cases h1:name≠[]/\isName name=false
  ·rw[if_pos h1,if_pos (.inl (hb.2 h1))]
  rw[if_neg h1];by_cases h2:a.wf=1
  ·rw[if_pos (by rw[h2];decide),if_pos (.inr h2),h2]
  conv=>rhs;rw[if_neg (fun e=>e.elim (fun e=>h1 (hb.1 e)) h2)]
end
section
open Go.RowKit Go.LF
abbrev VJ(b o b2 o2:Nat)(x0 x1 x2 x3 y0 y1 y2 y3:Value)(w':World):Prop:=
  (w'.cell? ⟨b,o,none⟩=some x0/\w'.cell? ⟨b,o+1,none⟩=some x1/\w'.cell? ⟨b,o+2,none⟩=some x2/\w'.cell? ⟨b,o+3,none⟩=some x3)/\(w'.cell? ⟨b2,o2,none⟩=some y0/\w'.cell? ⟨b2,o2+1,none⟩=some y1/\w'.cell? ⟨b2,o2+2,none⟩=some y2/\w'.cell? ⟨b2,o2+3,none⟩=some y3)
theorem VJ.on{b o b2 o2:Nat}{x0 x1 x2 x3 y0 y1 y2 y3:Value}{w w':World}(h:VJ b o b2 o2 x0 x1 x2 x3 y0 y1 y2 y3 w)(hU:af ae w w'):VJ b o b2 o2 x0 x1 x2 x3 y0 y1 y2 y3 w':=by
  obtain⟨⟨a0,a1,a2,a3⟩,c0,c1,c2,c3⟩:=h;exact⟨⟨hU.cell a0 (fun x=>x),hU.cell a1 (fun x=>x),hU.cell a2 (fun x=>x),hU.cell a3 (fun x=>x)⟩,hU.cell c0 (fun x=>x),hU.cell c1 (fun x=>x),hU.cell c2 (fun x=>x),hU.cell c3 (fun x=>x)⟩
theorem tz(ts:List Tm)(hs:∀ t∈ts,t.size<=1000000)(hl:ts.length<=1000000)(w:World)(a a2:Option Addr)(cap fP:Nat)(hE:ai ae w 4 (ts.map Tm.az) a 0)(kJ:ai ae w 4 (ts.map Tm.az) a2 0):
    Calls Tryz.prog 21 #[.slice a ts.length cap,.slice a2 ts.length fP] w fun e w'=>e=.returned (.bool true)/\af ae w w':=by
  obtain⟨tl,jh⟩:∃ tl,tl=ts.length:=⟨_,rfl⟩;rw[<-jh];rw[<-jh]at hl;have HL:=ak jh;clear jh;go_enter Tryz.func21,Tryz.ntmps21;go_wp2_with fail;go_loopw [5] (fun v5 wr=>∃ j:Nat,v5=.int .i64 (j:Int)/\j<=tl/\af ae w wr) (fun v5 _=>tl - (intOf v5).toNat)
  case atStart=>exact⟨0,rfl,Nat.zero_le _,af.refl _ _⟩
  obtain⟨j,rfl,hj,hU⟩:=hrel;have BW:(j:Int)<=1000000:=by omega
  by_cases aB:j<tl
  ·have b7:j<ts.length:=by have:=HL.out;omega
   obtain⟨b,o,k1,n1,i1,s1,z1,rfl,hb,_,x0,x1,x2,x3,di⟩:=aY (hE.on hU) j b7;obtain⟨b2,o2,k2,n2,i2,s2,z2,rfl,pB,_,y0,y1,y2,y3,fG⟩:=aY (kJ.on hU) j b7;have hd:af ae wr wr.drew:=(af.refl ae _).drew;have SM:=nG ts[j] (hs _ (List.getElem_mem b7)) ts[j] wr.drew _ _ (di.on hd) (fG.on hd);rw[Tm.zI]at SM;have S0:VJ b (o+j * 4) b2 (o2+j * 4) _ _ _ _ _ _ _ _ wr.drew:=VJ.on ⟨⟨x0,x1,x2,x3⟩,y0,y1,y2,y3⟩ hd;generalize ts[j].args.length=al at *
   have Dp:(j:Int)<(tl:Int):=by omega
   clear di fG x0 x1 x2 x3 y0 y1 y2 y3 b7;go_wp2_with fail
   go_region_held3 (fun w'=>VJ b (o+j * 4) b2 (o2+j * 4) (.int .i64 k1) (.string (B n1)) (.int .i64 i1) (.slice s1 al z1) (.int .i64 k2) (.string (B n2)) (.int .i64 i2) (.slice s2 al z2) w')
     (first |(with_reducible assumption)|(with_reducible exact S0))
     (first |((go_at_call 14);(with_reducible refine SM.mono ?_);rintro e w6 ⟨rfl,bj⟩;have S6:=VJ.on S0 bj))
   all_goals
     go_wp2_with fail;go_roundw;case rel=>exact⟨j+1,by go_num,by omega,(hU.and hd).and bj⟩
     simp[intOf];omega
  have sA:¬(j:Int)<(tl:Int):=by omega
  go_wp2_with fail;go_ret;exact⟨rfl,hU⟩
end
section
open Go.RowKit Go.LF
theorem FK(m:Mv)(h1:m.type.wt<=300000)(h2:m.value.length<=100)(h3:∀ v∈m.value,v.wt<=300000)(w:World)(cs:List Value)(h:aw ae w m.az cs):
    Calls Tryz.prog 164 #[.agg cs.toArray] w fun e w'=>∃ v,e=.returned v/\dv w.heap.size w' v (ke m)/\af ae w w':=by
  obtain⟨k,n,i,aa,cap,va,vc,rfl,hR,fp,hV⟩:=gx h;obtain⟨vl,xN⟩:∃ vl,vl=m.value.length:=⟨_,rfl⟩;rw[<-xN]at h2 fp;rw[<-xN];generalize m.type.args.length=al at *
  obtain⟨w1,aF⟩:∃ w1,w1=w.alloc (.cells #[.string (B m.name),.int .i64 k,.string (B n),.int .i64 i,.slice aa al cap,.slice va vl vc] 96):=⟨_,rfl⟩;have aH:af ae w w1:=by rw[aF];exact(af.refl ae w).alloc _
  have jA:bC w1 w.heap.size (.string (B m.name)) (.int .i64 k) (.string (B n)) (.int .i64 i) (.slice aa al cap) (.slice va vl vc) 96:=by rw[aF];exact bC.av rfl
  have MT:=iE m.type (by omega) w1 _ (hR.on aH);have OJ:=hV.on aH;have mR:=eL m.type;have HM:=ak xN;have HW:=ak aF;obtain⟨H,hH⟩:∃ H,H=w.heap.size:=⟨_,rfl⟩;have HH:=ak hH;rw[<-hH]at jA ⊢;have mX:=jA.lt;obtain⟨H1,Sj⟩:∃ H1,H1=w1.heap.size:=⟨_,rfl⟩;have RW:=ak Sj;rw[<-Sj]at MT mX;clear aF hH xN h hR hV Sj;obtain⟨c0,c1,c2,c3,c4,c5⟩:=jA.cells;go_enter Tryz.func164,Tryz.ntmps164;go_upto_region 1 with fail;rw[<-HW.out,<-HH.out];go_wp2_with fail
  (with_reducible refine MT.mono ?_);rintro e w2 ⟨v,rfl,hI0,aL⟩;have hI:=hI0;clear c0 c1 c2 c3 c4 c5 MT hI0;go_wp2_with fail
  go_loopw [3,4] (fun v3 v4 wr=>∃ p:Nat,v4=.int .i64 (p:Int)/\p<=vl/\dv H1 wr v3 (Tm.ay m.type++(m.value.take p).flatMap Tm.ay)/\af ae w1 wr)
    (fun _ v4 _=>vl - (intOf v4).toNat)
  case atStart=>exact⟨0,rfl,Nat.zero_le _,by simpa using hI,aL⟩
  obtain⟨p,rfl,hp,KE,iB⟩:=hrel;obtain⟨vo,KH⟩:∃ v,v=u3:=⟨_,rfl⟩;rw[<-KH]at KE;rw[<-KH];have HVO:=ak KH;clear KH;have u1:(p:Int)<=100:=by omega
  obtain⟨c0,c1,c2,c3,c4,c5⟩:=(jA.kept iB).cells;by_cases aB:(p:Int)<(vl:Int)
  ·have jB:p<m.value.length:=by have:=HM.out;omega
   obtain⟨b1,p1,k1,n1,i1,s1,z1,rfl,iV,_,y0,y1,y2,y3,di⟩:=aY (OJ.on iB) p jB;have eQ:=Jq p jB;have xV:=h3 _ (List.getElem_mem jB);have R7:=Nf (l:=m.value.take p) (fun v hv=>h3 v (List.mem_of_mem_take hv));rw[List.length_take,Nat.min_eq_left (Nat.le_of_lt jB)]at R7;generalize m.value[p]=u at *
   generalize u.args.length=ul at *
   have cZ:=eL u;have MTu:=iE u (by omega) wr _ di;have HT:=ak eQ;have aj4:p<=100:=by omega
   have hH9:H1<=wr.heap.size:=by have:=iB.size;have:=RW.out;omega
   clear di eQ;go_wp2_with (first |((go_at_call 35);(with_reducible refine MTu.mono ?_);rintro e w6 ⟨vu,rfl,hIu,bj⟩;obtain⟨Vg,Ww,rfl,agn,Tz⟩:=cO hIu.rep;have hIo:=KE.on bj;have DN:=bj.size)|(at_builtin;go_loud (refine j8 (by rfl) _ _ (by rfl) (by rfl) hIo Vg (Tm.ay u).length Ww (Tm.ay u) (by rfl) rfl Tz (by rw[List.length_append];omega) (by omega) ?_);intro v7 w7 XX OX Lg))
   have cm:af ae w1 w7:=(iB.and bj).trans (ck OX) (fun b hb e=>by have:=(hIo.lt b e).1;have:=RW.out;omega);rw[List.append_assoc,<-HT.out]at XX;go_wp2_with fail;go_roundw;case rel=>exact⟨p+1,by go_num,by omega,XX,cm⟩
   simp[intOf];omega
  have hpe:p=m.value.length:=by have:=HM.out;omega
  rw[hpe,List.take_length]at KE;have HI:=ak KE;clear KE hpe;go_wp2_with fail;go_ret;exact⟨_,rfl,HI.out.mono (by omega),aH.and iB⟩
end
section
open Go.RowKit Go.LF
def Hi(O:Nat->Prop)(L:List Mv)(i e':Int)(w:World)(e:Ending)(w':World):Prop:=
  ∃(a:Option Addr)(cap:Nat),e=.returned (.tuple #[.slice a L.length cap,.int .i64 i,.int .i64 e'])/\L.length<=cap/\ai O w' 6 (L.map Mv.az) a 0/\af ae w w'
theorem kq.af1{O:Nat->Prop}{base:Nat}{W:World}{v:Value}{ms:List Mv}{css:List (List Value)}(h:kq O base W v ms css)(hO:∀ b,O b->b<base):∃ a cap,v=.slice a ms.length cap/\ms.length<=cap/\ai O W 6 (ms.map Mv.az) a 0:=by
  obtain⟨a,cap,hv,aX,hc⟩:=h.D9.cells;rw[List.length_map]at hv aX;refine⟨a,cap,hv,aX,bT _ _ _ (fun i hi=>?_)⟩;have eH:i<css.length:=by have:=h.1;rw[List.length_map]at hi;omega
  obtain⟨g,rfl,bq,hb,aB,_,hg⟩:=hc i hi eH;refine⟨g,0,css[i],rfl,aB,fun e=>by have:=hO g e;omega,h.2.1 _ (List.getElem_mem eH),fun m u hu=>?_,?_⟩
  ·rw[show 0+0+i * 6+m=i * 6+m by omega];exact hg m u hu
  simp only[List.getElem_map];exact aw.weaken (fun _ _ e=>.inl e) _ _ (h.2.2.2 i (by simpa using hi) eH)
theorem Dl(O:Nat->Prop)(l:List Mv)(ED:l.length<=2048)(name:List UInt8)(hn:name.length<=1000000)(a:Tm)(ZQ:a.wt<=1000000)(w:World)(hO:∀ b,O b->b<w.heap.size)(la:Option Addr)(lc:Nat)(Rd:l.length<=lc)(cs:List Value)(hL:ai O w 6 (l.map Mv.az) la 0)(h:aw O w a.az cs):
    Calls Tryz.prog 47 #[.slice la l.length lc,.string (B name),.agg cs.toArray] w (Hi O (kU l name a) (Dk l name a) (dq l.length name a) w):=by
  obtain⟨k,nm,i,ts,aa,cap,ht,rfl,_,_⟩:=aP h;generalize ts.length=len at *
  obtain⟨w1,aF⟩:∃ w1,w1=w.alloc (.cells #[.int .i64 k,.string (B nm),.int .i64 i,.slice aa len cap] 29):=⟨_,rfl⟩;have aH:af ae w w1:=by rw[aF];exact(af.refl ae w).alloc _
  have gy:au w1 w.heap.size (.int .i64 k) (.string (B nm)) (.int .i64 i) (.slice aa len cap) 29:=by rw[aF];exact au.av rfl
  have Ku:=h.on aH;have di:=aw.weaken (O':=ae) (fun _ _ x=>x.elim) _ _ Ku;have kA:=hL.on aH;have WF:=dx a ZQ w1 _ di;have IN:=fun(W:World)=>cw name W hn
  have IT:=fun(W:World)(hu:af ae w1 W)=>pk a ZQ W _ (di.on hu)
  have SC:=fun(W:World)(hu:af ae w1 W)=>mD a ZQ W _ (di.on hu)
  have KN:=fun(W:World)(hu:af ae w1 W)=>nZ a l.length ZQ W _ (di.on hu)
  have HW:=ak aF;obtain⟨H,hH⟩:∃ H,H=w.heap.size:=⟨_,rfl⟩;have HH:=ak hH;rw[<-hH]at gy;obtain⟨E,hE⟩:∃ E:Int,E=dq l.length name a:=⟨_,rfl⟩;obtain⟨L2,oG⟩:∃ L2,L2=kU l name a:=⟨_,rfl⟩;obtain⟨I2,D8⟩:∃ I2,I2=Dk l name a:=⟨_,rfl⟩;rw[<-hE,<-oG,<-D8];unfold kU at oG;unfold Dk at D8;rw[<-hE]at oG D8;rw[Fx]at hE;obtain⟨sc,fJ⟩:∃ sc:Int,sc=(if a.wf == 0 then a.scope else 0):=⟨_,rfl⟩;rw[<-fJ]at hE SC;obtain⟨kb,Rr⟩:∃ kb,kb=(Tm.ay a).any (fun i=>decide ((l.length:Int)<=i)):=⟨_,rfl⟩;rw[<-Rr]at hE KN;clear fJ Rr;generalize a.wf=q at *
  generalize (a.aC && a.small)=ty at *
  generalize isName name=nb at *
  obtain⟨ll,du⟩:∃ ll,ll=l.length:=⟨_,rfl⟩;rw[<-du]at KN hE D8 Rd;rw[<-du];have Dw:(ll:Int)<=2048:=by omega
  obtain⟨bad,dV⟩:∃ bad,bad=((!(name == []) && !nb)|| (q == 1)):=⟨_,rfl⟩
  have fU:E=if bad=true then 1 else if q≠0 then q else if ty=false then 32 else if(decide (0<sc)|| kb)=true then 3 else if(2048:Int)<=(ll:Int)then 7 else 0:=by
    rw[hE,dV];congr 1;simp[Bool.or_eq_true]
  have HL:=ak (And.intro du (And.intro oG (And.intro D8 fU)));obtain⟨q1,QU⟩:∃ q1,q1=(q == 1):=⟨_,rfl⟩;rw[<-QU]at dV;have Z1:(q == 1)=q1:=QU.symm;obtain⟨b0,Rz⟩:∃ b0,b0=(!(name == []) && !nb):=⟨_,rfl⟩;rw[<-Rz]at dV;have HB0:=ak Rz;have Iw:=ak dV
  have stay:∀(z:Int)(W:World),z≠0->E=z->af ae w1 W->Hi O L2 I2 E w (.returned (.tuple #[.slice la ll lc,.int .i64 0,.int .i64 z])) W:=by
    intro z W hz GZ hu;refine⟨la,lc,?_,?_,?_,aH.and hu⟩
    ·rw[D8,oG,if_pos (by rw[GZ];exact hz),if_pos (by rw[GZ];exact hz),GZ,du]
    ·rw[oG,if_pos (by rw[GZ];exact hz),<-du];exact Rd
    rw[oG,if_pos (by rw[GZ];exact hz)];exact kA.on hu
  have HS:=ak stay;clear di;clear aF hH hE fU oG D8 du h ht hL dV stay QU Rz;obtain⟨t0,t1,t2,t3⟩:=gy.cells;go_enter Tryz.func47,Tryz.ntmps47;go_upto_region 1 with fail;rw[<-HW.out,<-HH.out];go_wp2_with fail
  (with_reducible refine WF.mono ?_);rintro e w2 ⟨rfl,aL⟩;have Hm:=gy.kept aL;clear t0 t1 t2 t3 WF;obtain⟨t0,t1,t2,t3⟩:=Hm.cells;go_upto_region 2 with fail;go_cut [12]from 12 to 19 (fun v12 wx=>v12=.bool b0/\w2=wx)
  case first=>
    clear Z1;cases name with
    |nil=>
     go_wp2_with fail;go_meet
     exact⟨by rw[HB0.out];rfl,rfl⟩
    |cons c cs=>
     cases nb
     ·go_wp2_with (first |((go_at_call 109);(with_reducible refine(IN _).mono ?_);rintro e w3 ⟨rfl,rfl⟩))
      go_meet
      exact⟨by rw[HB0.out];rfl,rfl⟩
     go_wp2_with (first |((go_at_call 109);(with_reducible refine(IN _).mono ?_);rintro e w3 ⟨rfl,rfl⟩))
     go_meet
     exact⟨by rw[HB0.out];rfl,rfl⟩
  obtain⟨rfl,rfl⟩:=hcut;go_upto_if 12 with fail
  go_cut [12]from 12 to 21 (fun v12 wx=>v12=.bool bad/\w2=wx)
  case first=>
   cases b0
   ·go_wp2_with fail;go_meet
    exact⟨by rw[Iw.out];rfl,rfl⟩
   go_wp2_with fail;go_meet
   exact⟨by rw[Iw.out];rfl,rfl⟩
  obtain⟨rfl,rfl⟩:=hcut;clear Z1;have HE:=HL.out.2.2.2;cases bad
  case true=>
    have hz:E=1:=by rw[HE];rfl
    have HF:=ak (HS.out 1 w2 (by decide) hz aL);clear HE hz;go_wp2_with fail;refine bodyPost_ret (v:=.tuple #[.slice la ll lc,.int .i64 0,.int .i64 1]) (by simp[results,Tryz.f47,go_sem]) rfl HF.out
  case false=>
    rw[if_neg (by simp)]at HE;have HE2:=ak HE;clear HE Iw;by_cases hq:q=0
    case neg=>
      have hz:E=q:=by rw[HE2.out,if_pos hq]
      have HF:=ak (HS.out q w2 hq hz aL);have QH:(q !=0)=true:=by simpa using hq
      clear hz hq;go_wp2_with fail;refine bodyPost_ret (v:=.tuple #[.slice la ll lc,.int .i64 0,.int .i64 q]) (by simp[results,Tryz.f47,go_sem]) rfl HF.out
    subst hq;have YE:=ak (show E=_ from by rw[HE2.out,if_neg (by simp)]);clear HE2;have OK:=IT w2 aL;clear IT;go_wp2_with fail
    (with_reducible refine OK.mono ?_);rintro e w3 ⟨rfl,aZ⟩;have iA:=aL.and aZ;have KF:=gy.kept iA;clear t0 t1 t2 t3 OK Hm;obtain⟨t0,t1,t2,t3⟩:=KF.cells;cases ty
    case false=>
      have hz:E=32:=by rw[YE.out,if_pos rfl]
      have HF:=ak (HS.out 32 w3 (by decide) hz iA);clear hz;go_wp2_with fail;refine bodyPost_ret (v:=.tuple #[.slice la ll lc,.int .i64 0,.int .i64 32]) (by simp[results,Tryz.f47,go_sem]) rfl HF.out
    have VL:=ak (show E=_ from by rw[YE.out,if_neg (by simp)]);clear YE;have Nz:=SC w3 iA;clear SC;by_cases hs:0<sc
    ·have hz:E=3:=by rw[VL.out,if_pos (by simp[hs])]
     have HF:=fun W hu=>HS.out 3 W (by decide) hz hu
     clear hz;have Yq:=ak HF;clear HF;go_wp2_with (first |((go_at_call 36);(with_reducible refine Nz.mono ?_);rintro e w4 ⟨rfl,bw⟩))
     refine bodyPost_ret (v:=.tuple #[.slice la ll lc,.int .i64 0,.int .i64 3]) (by simp[results,Tryz.f47,go_sem]) rfl (Yq.out _ (iA.and bw))
    have Wl:=ak (show E=if kb=true then 3 else if(2048:Int)<=(ll:Int)then 7 else 0 by rw[VL.out,decide_eq_false hs];rfl);clear VL;go_wp2_with (first |((go_at_call 36);(with_reducible refine Nz.mono ?_);rintro e w4 ⟨rfl,bw⟩;have lg:=iA.and bw;clear t0 t1 t2 t3;obtain⟨t0,t1,t2,t3⟩:=(gy.kept lg).cells;have KN4:=KN w4 lg)|((go_at_call 56);(with_reducible refine KN4.mono ?_);rintro e w5 ⟨rfl,ba⟩;have mW:=lg.and ba;clear t0 t1 t2 t3;obtain⟨t0,t1,t2,t3⟩:=(gy.kept mW).cells;cases kb;by_cases rQ:(2048:Int)<=(ll:Int)))
    ·have hz:E=7:=by rw[Wl.out,if_neg (by simp),if_pos (by omega)]
     refine bodyPost_ret (v:=.tuple #[.slice la ll lc,.int .i64 0,.int .i64 7]) (by simp[results,Tryz.f47,go_sem]) rfl (HS.out 7 _ (by decide) hz mW)
    ·have hz:E=0:=by rw[Wl.out,if_neg (by simp),if_neg (by omega)]
     have xP:L2=l++[⟨name,a,[]⟩]:=by rw[HL.out.2.1,if_neg (by simp[hz])]
     have hI3:I2=(ll:Int):=by rw[HL.out.2.2.1,if_neg (by simp[hz])]
     have HF:=ak (And.intro hz (And.intro xP hI3));clear hz xP hI3;have Tw:=ai.aG _ _ _ _ (kA.on mW);have kM:=aw.aG _ _ (Ku.on mW);have KG:af ae w5 w5.drew:=(af.refl ae _).drew;have Kz:=gy.kept mW;obtain⟨x0,x1,x2,x3⟩:=(Kz.kept KG).cells;obtain⟨o,ho⟩:∃ o,o=Obj.cells #[.string (B name),.int .i64 k,.string (B nm),.int .i64 i,.slice aa len cap,.slice none 0 0] 96:=⟨_,rfl⟩;have HO:=ak ho;have Qc:af ae w5 (w5.drew.alloc o):=KG.alloc _;have hBa:bC (w5.drew.alloc o) w5.heap.size (.string (B name)) (.int .i64 k) (.string (B nm)) (.int .i64 i) (.slice aa len cap) (.slice none 0 0) 96:=by rw[ho];exact bC.av rfl
     have xm:∀ W,af ae w5 W->aw (fun b=>O b\/w5.heap.size<=b) W (Mv.az ⟨name,a,[]⟩) [.string (B name),.int .i64 k,.string (B nm),.int .i64 i,.slice aa len cap,.slice none 0 0]:=fun W hu=>jF.2 ⟨[.int .i64 k,.string (B nm),.int .i64 i,.slice aa len cap],none,0,rfl,kM.on hu,Nat.le_refl _,by simp only[List.map_nil,ai]⟩
     have hga:∀(W W':World),W.grownBy W' (Value.slice none 0 0).ownBlock->af ae W W':=fun W W' hg=>(ck hg).mono (fun _ _ e=>by simp[Value.ownBlock]at e)
     rw[ho]at Qc hBa;clear ho KG;have KG:af ae w5 w5.drew:=(af.refl ae _).drew
     go_region_law (first
       |((refine gW (by rfl) _ _ (by rfl) (by rfl) (kq.nil O w5.heap.size _) la ll lc l (by rfl) HL.out.1 (vI (Tw.on KG)) (by simp;omega) (Nat.le_refl _) ?_);intro v7 w7 WR Eg OX Lg;have cm:=KG.and (hga _ _ OX);clear x0 x1 x2 x3;obtain⟨x0,x1,x2,x3⟩:=(Kz.kept cm).cells;have hz7:=cm.size)
       |((refine gW (by rfl) _ _ (by rfl) (by rfl) (kq.nil O w5.heap.size _) la ll lc l (by rfl) HL.out.1 (vI (Tw.on Qc)) (by simp;omega) (by simp) ?_);intro v8 w8 acG hS8 Yb WA;have cW:=Qc.and (hga _ _ Yb);have OO:=hBa.kept (hga _ _ Yb);have hz8:=cW.size)
       |((refine gW (by rfl) _ _ (by rfl) (by rfl) (Eg.on ((af.refl ae w7).alloc _)) (some ⟨w7.heap.size,0,none⟩) 1 1 [⟨name,a,[]⟩] (by rfl) rfl (vZ (bC.av rfl) (xm _ (cm.alloc _))) (by simp;omega) (by simp;omega) ?_);intro v9 w9 aiv Xy Qo afH;have bU:af ae w5 w9:=(cm.alloc _).trans (ck Qo) (fun b hb e=>by have:=(Eg.2.2.1.lt b e).1;omega))
       |((refine gW (by rfl) _ _ (by rfl) (by rfl) hS8 (some ⟨w5.heap.size,0,none⟩) 1 1 [⟨name,a,[]⟩] (by rfl) rfl (vZ OO (xm _ cW)) (by simp;omega) (by omega) ?_);intro v9 w9 aiv Xy Qo afH;have bU:af ae w5 w9:=cW.trans (ck Qo) (fun b hb e=>by have:=(hS8.2.2.1.lt b e).1;omega)))
     all_goals
       obtain⟨a9,c9,rfl,Xh,Gv⟩:=Xy.af1 (fun b e=>Nat.lt_of_lt_of_le (hO b e) (Nat.le_trans aH.size mW.size));have HQ:=ak (And.intro Xh (And.intro Gv bU));clear Xh Gv bU Xy;go_wp2_with fail;refine bodyPost_ret (v:=.tuple #[.slice a9 (l++[(⟨name,a,[]⟩:Mv)]).length c9,.int .i64 (ll:Int),.int .i64 0]) (by simp[results,Tryz.f47,go_sem]) rfl ⟨a9,c9,by rw[HF.out.1,HF.out.2.1,HF.out.2.2],by rw[HF.out.2.1];exact HQ.out.1,by rw[HF.out.2.1];exact HQ.out.2.1,aH.and (mW.and HQ.out.2.2)⟩
    have hz:E=3:=by rw[Wl.out,if_pos (by simp)]
    refine bodyPost_ret (v:=.tuple #[.slice la ll lc,.int .i64 0,.int .i64 3]) (by simp[results,Tryz.f47,go_sem]) rfl (HS.out 3 _ (by decide) hz mW)
end
end Go.Proofs.YthgmimncdjhgnaaGreatDoor
