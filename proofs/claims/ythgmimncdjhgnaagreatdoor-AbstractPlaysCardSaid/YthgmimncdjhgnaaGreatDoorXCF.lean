/- Scope, by sU iterator. -/
import Derived.Test.YthgmimncdjhgnaaGreatDoorXCC
import Derived.Test.YthgmimncdjhgnaaGreatDoorXFirsts
import Derived.Deep.AppendLies
import Derived.Deep.Onto
import Derived.Laws.OwnMore
import Derived.Maps.AppendAt
import Derived.Maps.OwnIn
set_option maxRecDepth 100000
set_option maxHeartbeats 4000000
namespace Go.Proofs.YthgmimncdjhgnaaGreatDoor
section
open Go.RowKit Go.LF Go.Shelf
attribute [local go_sem] Oper.semAt_some
theorem wI{w w':World}(h:af ae w w'):Below w.heap.size w w':=⟨h.os,h.tape,h.output,h.size,fun k hk=>h.block k hk (fun x=>x)⟩
def qe(xs:List Nd):Int:=xs.foldl (fun acc x=>if x.k == 5 then max acc (wrap64 (wrap64 (x.i - x.b)+1))else acc) 0
theorem D3(pre:List Nd)(x:Nd):qe (pre++[x])=if x.k == 5 then max (qe pre) (wrap64 (wrap64 (x.i - x.b)+1))else qe pre:=by simp[qe]
theorem foldl_eq{α β γ:Type}(f:γ->α->γ)(g:γ->β->γ)(m:α->β):∀(xs:List α)(a:γ),(∀ x∈xs,∀ a,f a x=g a (m x))->xs.foldl f a=(xs.map m).foldl g a:=by
  intro xs;induction xs with
  |nil=>intro a _;rfl
  |cons x xs ih=>intro a h;simp only[List.foldl_cons,List.map_cons,h x (by simp),ih _ (fun y hy=>h y (by simp[hy]))]
theorem J8(t:Tm)(h:t.wf=0)(xs:List Nd)(hx:xs.map Nd.bare=t.nodes 0):qe xs=t.scope:=by
  obtain⟨ho,hs,_⟩:=Tm.pD t h;rw[<-Tm.C5 t (fun hk=>?_),<-hx]
  ·refine foldl_eq _ Tm.dy Nd.bare xs 0 (fun x hm a=>?_);have Io:x.bare∈t.nodes 0:=by rw[<-hx];exact List.mem_map_of_mem hm
   have h1:=ho 0 _ Io;have h2:=Tm.A6 t 0 _ Io;simp only[Nd.bare]at h1 h2;unfold Tm.dy;simp only[Nd.bare];by_cases hk:(x.k == 5)=true
   ·have h3:=h1.1 hk;simp only at h3;simp only[hk,if_true];rw[Go.IntWalk.wrap64_in (x.i - x.b) (by omega),Go.IntWalk.wrap64_in _ (by omega)]
   simp only[hk];rfl
  cases t with
  |mk k n i l=>
   have:=(ho 0 ⟨0,k,n,i⟩ (by rw[Tm.br];simp)).1 hk;exact this.1
theorem Mg(t:Tm)(iH:t.wt<=1000000)(w:World)(cs:List Value)(h:aw ae w t.az cs):
    CallsIn Fence.wide 3 Tryz.prog 72 #[.agg cs.toArray] w fun e w'=>e=.returned (.int .i64 (if t.wf == 0 then t.scope else 0))/\af ae w w':=by
  have hs:t.size<=1000000:=Nat.le_trans (Tm.bB t) iH;have HW:=fun w cs h=>callsIn_wide (n:=2)|>.2 (cG t iH w cs h)
  obtain⟨k,nm,i,ts,a,cap,ht,rfl,aX,hE⟩:=aP h;have hr:(if t.wf == 0 then t.scope else 0)=(if t.wf == 0 then t.scope else 0):=rfl;generalize hq:(if t.wf == 0 then t.scope else 0)=r at *
  have HQ:=ak hq;have HT:=ak ht;clear hq hr ht aX;generalize hl:ts.length=len at *
  clear hl;obtain⟨wf,jm⟩:∃ wf,wf=t.wf:=⟨_,rfl⟩;rw[<-jm]at HW;have HF:=ak jm;by_cases hz:(wf == 0)=true
  ·have z1:(wf !=0)=false:=by simp[bne,hz]
   have z2:wf=0:=by simpa using hz
   have HZ:=ak (z2.symm.trans jm).symm;clear z2 jm;refine callsIn_of_wp_marks Tryz.func72 rfl trivial ?_ rfl;simp only[Tryz.ntmps72,List.size_toArray,List.length_cons,List.length_nil,Nat.reduceAdd,Nat.reduceSub,Array.replicate_succ,Array.replicate_zero,List.push_toArray,List.append_toArray,List.nil_append,List.cons_append];gi_wp2_with fail
   refine⟨trivial,?_⟩;refine(HW _ _ (h.new _)).mono ?_;rintro e w1 ⟨rfl,aH⟩;obtain⟨b0,b1,b2,b3⟩:=b8 aH;have aF:af ae w w1:=aH.behind;have q0:=World.block_lt_of_cell? w1 _ b0;simp only at q0;gi_wp2_with fail
   refine⟨trivial,?_⟩;refine(callsIn_wide.2 (sk _ _ _ _ _)).mono ?_;rintro e w' ⟨rfl,rfl⟩;gi_wp2
   obtain⟨W1,sg⟩:∃ W1,W1=w1.alloc (.cells #[.int .i64 0] 3):=⟨_,rfl⟩;have mX:W1.heap.size=w1.heap.size+1:=by rw[sg];simp
   have hn:W1.cell? ⟨w1.heap.size,0,none⟩=some (.int .i64 0)/\W1.frozen? ⟨w1.heap.size,0,none⟩=false:=by rw[sg];exact oR _ _ _
   have jA:Below w.heap.size w W1:=by rw[sg];exact(wI aF).alloc (by have:=aF.size;omega) _
   have di:aw (fun b=>b=w1.heap.size) W1 t.az [.int .i64 k,.string (B nm),.int .i64 i,.slice a len cap]:=by
     rw[sg];exact aw.weaken (O:=fun b=>w1.heap.size<=b) (fun b _ e=>by omega) _ _ (aw.carry (O:=fun b=>w1.heap.size<=b) (((af.refl ae w1).alloc _).Bk (fun _ x=>x.elim)) _ _ (aw.fresh (h.on aF)))
   have UH:w.heap.size<=w1.heap.size:=aF.size;rw[<-sg,<-mX];clear sg h b0 b1 b2 b3 q0 aH;have x6:Below w.heap.size w (W1.alloc (.cells #[.int .i64 k,.string (B nm),.int .i64 i,.slice a len cap] 29)):=jA.alloc (by omega) _
   refine wpIn_rangeFunc_ownH (w:=W1.alloc (.cells #[.int .i64 k,.string (B nm),.int .i64 i,.slice a len cap] 29)) rfl (by omega) (gf:=173) (lb:=#[.pointer (some ⟨W1.heap.size,0,none⟩)]) rfl trivial (enters_of Tryz.func173 (by kernel_rfl) rfl)
     (np 2 (fun _ b=>b=w1.heap.size) W1.heap.size (w1.heap.size+1) (nF.of _ _ (fun b hb e=>by omega)) (fun _ _ _ _ _ h=>h) t hs
       (W1.alloc (.cells #[.int .i64 k,.string (B nm),.int .i64 i,.slice a len cap] 29)) (by simp;omega) k nm i a len cap (di.new _)
       (by rw[World.cell?_alloc_new];rfl) (by rw[World.cell?_alloc_new];rfl) (by rw[World.cell?_alloc_new];rfl) (by rw[World.cell?_alloc_new];rfl))
     dI.trans (fun W l o o' _ ho hc _=>dI.of _ (vw W l o o' ho hc)) (Below.refl _ _) (fun _=>rfl)
     (fun pre W=>(W.cell? ⟨w1.heap.size,0,none⟩=some (.int .i64 (qe pre))/\W.frozen? ⟨w1.heap.size,0,none⟩=false)/\Below w.heap.size w W)
     (fun _ _ _=>False)
     (OwnFrom.and (Own.from (fun s A B row hs hg hr=>⟨cell_kept hs.1 hg hr,(frozen_kept hs.1 hg hr).trans hs.2⟩) _) (ownFrom_below (by omega) (by simp;omega)))
     (fun _ _ _ _ _ hs _ _=>hs)
     ⟨⟨eG _ hn.1,kS _ hn.1 hn.2⟩,x6⟩
     (fun x a' W=>∃ Bx,w1.heap.size<Bx/\(W.cell? ⟨Bx,0,none⟩=some (.int .i64 x.k)/\W.cell? ⟨Bx,2,none⟩=some (.int .i64 x.i))/\a'={ tmps:=#[.agg #[.int .i64 k,.string (B nm),.int .i64 i,.slice a len cap],.pointer (some ⟨w.heap.size,0,none⟩),.int .i64 0,.pointer (some ⟨w1.heap.size,0,none⟩),.int .i64 x.b,.pointer (some ⟨Bx,0,none⟩),
       .agg #[.int .i64 k,.string (B nm),.int .i64 i,.slice a len cap],.int .i64 wf,.bool false,.agg #[.int .i64 k,.string (B nm),.int .i64 i,.slice a len cap],.func (.func 173) #[] #[.pointer (some ⟨W1.heap.size,0,none⟩)],.int .i64 x.b,.agg #[.int .i64 x.k,.string (B x.n),.int .i64 x.i,.slice x.a x.len x.cap],undef,undef,undef,undef,undef,undef,undef,undef,undef,undef,undef],defers:=[] })
     (fun x a' _ X Y row hs hg hr=>by obtain⟨Bx,h1,h2,h3⟩:=hs;exact⟨Bx,h1,⟨cell_kept h2.1 hg (fun r e=>(hr r e).2),cell_kept h2.2 hg (fun r e=>(hr r e).2)⟩,h3⟩) ?assign ?body ?done ?stop
   case assign=>
     rintro l pre x W K ⟨⟨hc,hf⟩,hB⟩ hK;simp[Nd.enc];gi_wp2
     have q1:=World.block_lt_of_cell? W _ hc;have bb:=(nO.refl ae (W.alloc (.cells #[.int .i64 x.k,.string (B x.n),.int .i64 x.i,.slice x.a x.len x.cap] 29))).qu (fun x=>x);exact hK _ _ ((KeepsOthers.alloc _ _).from _) (dI.of _ ((nO.refl _ W).alloc _)) ⟨⟨eG _ hc,kS _ hc hf⟩,hB.alloc hB.size _⟩ ⟨W.heap.size,q1,⟨bb.1,bb.2.2.1⟩,rfl⟩
   case body=>
     rintro l pre x a' W hl _ ⟨⟨hc,hf⟩,hB⟩ ⟨Bx,hBx,⟨x0,x2⟩,rfl⟩ aB;have HS:=ak (D3 pre x);by_cases h5:(x.k == 5)=true
     ·have h5':=ak h5;gi_wp2
      all_goals exact⟨(KeepsOthers.setCell _ _ _).from _,dI.of _ (tt W ⟨w1.heap.size,0,none⟩ _ rfl),⟨by rw[World.cell?_setCell_same W ⟨w1.heap.size,0,none⟩ _ hc,HS.out,if_pos h5'.out];exact congrArg some (int_eq (by omega)),by rw[World.frozen?_setCell];exact hf⟩,hB.setCell (p:=⟨w1.heap.size,0,none⟩) (by simp;omega) _⟩
     have h5':=ak h5;replace h5:(x.k == 5)=false:=by simpa using h5
     gi_wp2
     exact⟨KeepsFrom.refl _ _,dI.refl _ _,⟨by rw[HS.out,if_neg h5'.out];exact hc,hf⟩,hB⟩
   case done=>
     rintro D ys W hD On ⟨⟨hc,_⟩,hB⟩ hK;have hr:qe ys=r:=by rw[J8 t HZ.out ys On,<-HQ.out,HZ.out];rfl
     rw[hr]at hc;gi_wp2
     refine⟨by simp,.inl ⟨_,_,rfl,run_takeDeferred hK,?_⟩⟩;exact⟨_,results_tmp rfl _ _ _,rfl,af.nX (hB.trans (belowK_b (w:=w) (Nat.le_refl _) W D _ _ (by simp at hD;omega) hK rfl rfl))⟩
   case stop=>
     rintro D c pre W _ _ h _;exact h.elim
  have z1:(wf !=0)=true:=by simp at hz;simp[bne,hz]
  have hr:r=0:=by rw[<-HQ.out,<-jm];simp at hz;simp[hz]
  subst hr;clear jm;refine callsIn_of_wp_marks Tryz.func72 rfl trivial ?_ rfl;simp only[Tryz.ntmps72,List.size_toArray,List.length_cons,List.length_nil,Nat.reduceAdd,Nat.reduceSub,Array.replicate_succ,Array.replicate_zero,List.push_toArray,List.append_toArray,List.nil_append,List.cons_append];gi_wp2_with fail
  refine⟨trivial,?_⟩;refine(HW _ _ (h.new _)).mono ?_;rintro e w1 ⟨rfl,aH⟩;obtain⟨b0,b1,b2,b3⟩:=b8 aH;have aF:af ae w w1:=aH.behind;have q0:=World.block_lt_of_cell? w1 _ b0;simp only at q0;gi_wp2_with fail
  exact⟨_,results_tmp rfl _ _ _,rfl,aF⟩
theorem sG(t:Tm)(iH:t.wt<=1000000)(w:World)(cs:List Value)(h:aw ae w t.az cs):
    Calls Tryz.prog 72 #[.agg cs.toArray] w fun e w'=>e=.returned (.int .i64 (if t.wf == 0 then t.scope else 0))/\af ae w w':=callsIn_wide.1 (Mg t iH w cs h)
end
section
open Go.RowKit Go.LF Go.Shelf
attribute [local go_sem] Oper.semAt_some
theorem LB{w w1:World}{c0 c1 c2 c3 d:Value}{T T2:TypeId}(hU:af ae ((w.alloc (.cells #[c0,c1,c2,c3] T)).alloc (.cells #[d] T2)) w1):
    (w1.cell? ⟨w.heap.size,0,none⟩=some c0/\w1.cell? ⟨w.heap.size,1,none⟩=some c1/\w1.cell? ⟨w.heap.size,2,none⟩=some c2/\w1.cell? ⟨w.heap.size,3,none⟩=some c3)/\
      w1.cell? ⟨w.heap.size+1,0,none⟩=some d/\af ae w w1/\w.heap.size+1<w1.heap.size:=by
  have hz:(w.alloc (.cells #[c0,c1,c2,c3] T)).heap.size=w.heap.size+1:=by simp
  have h1:=(nO.refl ae (w.alloc (.cells #[c0,c1,c2,c3] T))).qu (fun x=>x);have h2:=oR (w.alloc (.cells #[c0,c1,c2,c3] T)) d T2;rw[hz]at h2;refine⟨⟨?_,?_,?_,?_⟩,?_,?_,?_⟩
  ·exact hU.cell (eG _ h1.1) (fun x=>x)
  ·exact hU.cell (eG _ h1.2.1) (fun x=>x)
  ·exact hU.cell (eG _ h1.2.2.1) (fun x=>x)
  ·exact hU.cell (eG _ h1.2.2.2) (fun x=>x)
  ·exact hU.cell h2.1 (fun x=>x)
  ·exact(((af.refl ae w).alloc _).alloc _).and hU
  have:=hU.size;simp at this;omega
end
section
open Go.RowKit Go.LF Go.Shelf
def JN(n0:Nat)(W:World)(b:Nat):Prop:=n0<=b/\¬∃ cur T fr,qF T/\W.heap[b]? =some (.cells cur T fr)
theorem wZ{n0:Nat}{W W':World}{b:Nat}(h:W'.heap[b]? =W.heap[b]?)(hn:¬JN n0 W b):¬JN n0 W' b:=by
  unfold JN at *
  rw[h];exact hn
theorem oQ(n0 H0:Nat):nF (JN n0) H0 qF:=by
  refine⟨fun W cs T hT _ hb=>hb.2 ⟨cs,T,_,hT,heap_alloc_new W _⟩,fun W o b hb hn=>wZ (nW W o b hb) hn⟩
theorem lE{n0:Nat}{W W':World}{row:Option Nat}(hg:W.grownBy W' row)(hr:∀ r,row=some r->JN n0 W r):dI (JN n0) W W':=by
  refine⟨hg.size,fun b hb hn=>?_⟩;have gJ:some b≠row:=fun e=>hn (hr b e.symm)
  exact⟨wZ (hg.block b hb gJ) hn,fun o v hv=>(World.cell?_of_block (a:=⟨b,o,none⟩) (hg.block b hb gJ)).trans hv⟩
theorem Qb{n0:Nat}(W:World)(l:Nat)(o o':Obj)(hl:n0<=l)(ho:W.heap[l]? =some o)(hc:o.isCells=false):dI (JN n0) W (W.putObj l o'):=by
  refine lE (grownBy_putObj' W l o') (fun r e=>?_);cases e
  refine⟨hl,?_⟩;rintro⟨cur,T,fr,_,h⟩;rw[ho]at h;cases h
  cases hc
theorem sZ{n0:Nat}{W:World}{b:Nat}{cur:Array Value}{T:TypeId}{fr:Nat×Nat}(hb:n0<=b)(h:W.heap[b]? =some (.cells cur T fr))(hT:¬qF T):JN n0 W b:=by
  refine⟨hb,?_⟩;rintro⟨amQ,T',fr',hT',h'⟩;rw[h]at h';cases h'
  exact hT hT'
theorem Pn{n0:Nat}{W:World}{base e size k:Nat}{v:Value}{xs:List Value}(h:W.ownsRow base e size v k xs)(hb:n0<=base)(hT:¬qF e):∀ r,v.ownBlock=some r->JN n0 W r:=by
  intro r hr;rcases h.2 with⟨rfl,_⟩|⟨g,cap,cur,rfl,hbg,EF,_⟩
  ·simp[Value.ownBlock]at hr
  obtain rfl:g=r:=by simpa[Value.ownBlock]using hr
  exact sZ (by omega) EF hT
theorem qi{w w':World}(h:af ae w w'):w.grownBy w' none:=⟨h.os,h.tape,h.output,h.size,fun k hk _=>h.block k hk (fun x=>x)⟩
theorem xz{W:World}{base e size k m:Nat}{v:Value}{xs ks:List Value}(h:W.ownsRow base e size v k xs)(hS:Seen W m ks):v.ownBlock≠some m:=by
  rcases h.2 with⟨rfl,_⟩|⟨g,cap,cur,rfl,_,EF,_⟩
  ·simp[Value.ownBlock]
  obtain⟨es,clock,h1,_⟩:=hS;intro e;obtain rfl:g=m:=by simpa[Value.ownBlock]using e
  rw[EF]at h1;cases h1
theorem mF{W W':World}{row:Option Nat}{b o:Nat}{v:Value}(h:W.cell? ⟨b,o,none⟩=some v)(hg:W.grownBy W' row)(hr:∀ r,row=some r->r≠b):W'.cell? ⟨b,o,none⟩=some v:=
  hg.cell h (fun e=>hr b e.symm rfl)
end
section
open Go.RowKit Go.LF Go.Shelf
attribute [local go_sem] Oper.semAt_some
def ms(xs:List Nd):List Int:=(xs.map Nd.bare).foldl Tm.dt []
theorem Wp(pre:List Nd)(x:Nd)(h:(x.k == 6)=true)(hc:(ms pre).contains x.i=false):ms (pre++[x])=ms pre++[x.i]:=by
  unfold ms at *
  rw[List.map_append,List.foldl_append];simp only[List.map_cons,List.map_nil,List.foldl_cons,List.foldl_nil,Tm.dt,Nd.bare];rw[h,hc];rfl
theorem Qx(pre:List Nd)(x:Nd)(h:((x.k == 6) && !(ms pre).contains x.i)=false):ms (pre++[x])=ms pre:=by
  unfold ms at *
  rw[List.map_append,List.foldl_append];simp only[List.map_cons,List.map_nil,List.foldl_cons,List.foldl_nil,Tm.dt,Nd.bare];rw[h];rfl
theorem WH(xs:List Nd):(ms xs).length<=xs.length:=by
  have key:∀(ys:List Tm.BV)(a:List Int),(ys.foldl Tm.dt a).length<=a.length+ys.length:=by
    intro ys;induction ys with
    |nil=>intro a;simp
    |cons y ys ih=>
     intro a;rw[List.foldl_cons];have:=ih (Tm.dt a y);have h2:(Tm.dt a y).length<=a.length+1:=by unfold Tm.dt;split<;>simp
     simp only[List.length_cons];omega
  have:=key (xs.map Nd.bare) [];simpa[ms]using this
theorem nI:(Tryz.prog.info? 3).map (fun i=>(i.zero,i.size,i.bytes))=some (some (.int .i64 0),1,8):=by kernel_rfl
theorem Bt(l:List Int):∀ k∈l.map (Value.int .i64),MapKept.IsKey (.int .i64) k:=by
  intro k hk;obtain⟨x,_,rfl⟩:=List.mem_map.1 hk;rfl
theorem yH(W:World):(zeroValue 4).run Tryz.prog W=.ok (.bool false) W:=by kernel_rfl
theorem Da(t:Tm)(iH:t.wt<=1000000)(w:World)(cs:List Value)(h:aw ae w t.az cs):
    CallsIn Fence.wide 3 Tryz.prog 119 #[.agg cs.toArray,.func (.func 120) #[] #[]] w fun e w'=>
      ∃ v,e=.returned v/\w'.ownsRow w.heap.size 3 1 v (if t.wf == 0 then t.lG else []).length ((if t.wf == 0 then t.lG else []).map (Value.int .i64))/\af ae w w':=by
  have hs:t.size<=1000000:=Nat.le_trans (Tm.bB t) iH;have HW:=fun w cs h=>callsIn_wide (n:=2)|>.2 (cG t iH w cs h)
  obtain⟨k,nm,i,ts,a,cap,ht,rfl,aX,hE⟩:=aP h;generalize hq:(if t.wf == 0 then t.lG else [])=r at *
  have HQ:=ak hq;have HT:=ak ht;clear hq ht aX;generalize hl:ts.length=len at *
  clear hl;obtain⟨wf,jm⟩:∃ wf,wf=t.wf:=⟨_,rfl⟩;rw[<-jm]at HW;have HF:=ak jm;have FI:=@run_makeMap Tryz.prog;by_cases hz:(wf == 0)=true
  ·have z1:(wf !=0)=false:=by simp[bne,hz]
   have z2:wf=0:=by simpa using hz
   have HZ:=ak (z2.symm.trans jm).symm;clear z2 jm;refine callsIn_of_wp_marks Tryz.func119 rfl trivial ?_ rfl;simp only[Tryz.ntmps119,List.size_toArray,List.length_cons,List.length_nil,Nat.reduceAdd,Nat.reduceSub,Array.replicate_succ,Array.replicate_zero,List.push_toArray,List.append_toArray,List.nil_append,List.cons_append];gi_wp2_with fail
   refine⟨trivial,?_⟩;refine(HW _ _ ((h.new _).new _)).mono ?_;rintro e w1 ⟨rfl,aH⟩;obtain⟨⟨b0,b1,b2,b3⟩,b4,aF,mX⟩:=LB aH;have q0:=World.block_lt_of_cell? w1 _ b0;have q1:=World.block_lt_of_cell? w1 _ b4;simp only at q0 q1;have q2:w.heap.size<w1.heap.size+1:=by omega
   have q3:w.heap.size<w1.heap.size+1+1:=by omega
   clear aH;gi_wp2_with fail
   refine⟨trivial,?_⟩;refine(callsIn_wide.2 (sk _ _ _ _ _)).mono ?_;rintro e w' ⟨rfl,rfl⟩;gi_wp2
   obtain⟨W0,Wb⟩:∃ W0,W0=((w1.alloc (.cells #[.slice none 0 0] 22)).alloc (.map #[] 0)).alloc (.cells #[.map (some (w1.heap.size+1))] 162):=⟨_,rfl⟩;have UH:W0.heap.size=w1.heap.size+1+1+1:=by rw[Wb];simp
   have bO:Boxed W0 w1.heap.size 22 (.slice none 0 0):=by rw[Wb];exact((Boxed.new _ _ _).alloc _).alloc _
   have bS:Seen W0 (w1.heap.size+1) []:=by
     have:=(Seen.made (w1.alloc (.cells #[.slice none 0 0] 22))).kept (World.grownBy_alloc _ (.cells #[.map (some (w1.heap.size+1))] 162) none) (by simp);rw[World.size_alloc]at this;rw[Wb];exact this
   have bM:Boxed W0 (w1.heap.size+1+1) 162 (.map (some (w1.heap.size+1))):=by
     have:=Boxed.new ((w1.alloc (.cells #[.slice none 0 0] 22)).alloc (.map #[] 0)) 162 (.map (some (w1.heap.size+1)));rw[World.size_alloc,World.size_alloc]at this;rw[Wb];exact this
   have m9:af ae w1 W0:=by rw[Wb];exact(((af.refl ae w1).alloc _).alloc _).alloc _
   have bF:W0.cell? ⟨w.heap.size+1,0,none⟩=some (.func (.func 120) #[] #[]):=m9.cell b4 (fun x=>x);have XG:af ae w W0:=aF.and m9;have jA:Below w.heap.size w W0:=wI XG
   have di:aw (JN w.heap.size W0) W0 t.az [.int .i64 k,.string (B nm),.int .i64 i,.slice a len cap]:=
     aw.weaken (O:=fun b=>w.heap.size<=b) (fun b _ e=>e.1) _ _ (aw.carry (O:=fun b=>w.heap.size<=b) (XG.Bk (fun _ x=>x.elim)) _ _ (aw.fresh h))
   rw[<-Wb,<-UH];clear Wb h b0 b1 b2 b3 b4 q0 q1 m9 FI;have x6:Below w.heap.size w (W0.alloc (.cells #[.int .i64 k,.string (B nm),.int .i64 i,.slice a len cap] 29)):=jA.alloc (by omega) _
   refine wpIn_rangeFunc_ownH (w:=W0.alloc (.cells #[.int .i64 k,.string (B nm),.int .i64 i,.slice a len cap] 29)) rfl (by omega) (gf:=173) (lb:=#[.pointer (some ⟨W0.heap.size,0,none⟩)]) rfl trivial (enters_of Tryz.func173 (by kernel_rfl) rfl)
     (np 2 (JN w.heap.size) W0.heap.size W0.heap.size (oQ _ _) (fun _ _ _ _ h hn=>wZ h hn) t hs
       (W0.alloc (.cells #[.int .i64 k,.string (B nm),.int .i64 i,.slice a len cap] 29)) (by simp) k nm i a len cap (aw.je (dI.ki (oQ _ 0) W0 _) _ _ di)
       (by rw[World.cell?_alloc_new];rfl) (by rw[World.cell?_alloc_new];rfl) (by rw[World.cell?_alloc_new];rfl) (by rw[World.cell?_alloc_new];rfl))
     dI.trans (fun W l o o' hl ho hc _=>Qb W l o o' (by simp at hl;omega) ho hc) (Below.refl _ _) (fun _=>rfl)
     (fun pre W=>((∃ v,Boxed W w1.heap.size 22 v/\W.ownsRow w1.heap.size 3 1 v (ms pre).length ((ms pre).map (Value.int .i64))/\True)/\
       (Seen W (w1.heap.size+1) ((ms pre).map (Value.int .i64))/\Boxed W (w1.heap.size+1+1) 162 (.map (some (w1.heap.size+1)))/\W.cell? ⟨w.heap.size+1,0,none⟩=some (.func (.func 120) #[] #[])))/\Below w.heap.size w W)
     (fun _ _ _=>False)
     (OwnFrom.and (OwnFrom.and (Own.from (holdsRow_own w1.heap.size w1.heap.size 22 3 1 (fun pre=>(ms pre).length) (fun pre=>(ms pre).map (Value.int .i64)) (fun _ _=>True)) _)
       (fun s A B row hs hg hr=>⟨hs.1.kept hg (fun e=>by have:=(hr _ e.symm).1;simp at this;omega),hs.2.1.kept hg (fun e=>by have:=(hr _ e.symm).1;simp at this;omega),cell_kept hs.2.2 hg (fun r e=>(hr r e).2)⟩)) (ownFrom_below (by omega) (by simp;omega)))
     (fun _ _ _ _ _ hs _ _=>hs)
     ⟨⟨⟨_,bO.alloc _,World.ownsRow_nil _ _ _ _,trivial⟩,bS.kept (World.grownBy_alloc _ _ none) (by simp),bM.alloc _,eG _ bF⟩,x6⟩
     (fun x a' W=>∃ Bx,w1.heap.size+1+1<Bx/\(W.cell? ⟨Bx,0,none⟩=some (.int .i64 x.k)/\W.cell? ⟨Bx,1,none⟩=some (.string (B x.n))/\W.cell? ⟨Bx,2,none⟩=some (.int .i64 x.i)/\W.cell? ⟨Bx,3,none⟩=some (.slice x.a x.len x.cap))/\
       a'={ tmps:=#[.agg #[.int .i64 k,.string (B nm),.int .i64 i,.slice a len cap],.func (.func 120) #[] #[],.pointer (some ⟨w.heap.size,0,none⟩),.pointer (some ⟨w.heap.size+1,0,none⟩),.slice none 0 0,.pointer (some ⟨w1.heap.size,0,none⟩),.pointer (some ⟨w1.heap.size+1+1,0,none⟩),undef,.pointer (some ⟨Bx,0,none⟩),undef,undef,
       .agg #[.int .i64 k,.string (B nm),.int .i64 i,.slice a len cap],.int .i64 wf,.bool false,.map (some (w1.heap.size+1)),.agg #[.int .i64 k,.string (B nm),.int .i64 i,.slice a len cap],.func (.func 173) #[] #[.pointer (some ⟨W0.heap.size,0,none⟩)],.int .i64 x.b,.agg #[.int .i64 x.k,.string (B x.n),.int .i64 x.i,.slice x.a x.len x.cap],
       undef,undef,undef,undef,undef,undef,undef,undef,undef,undef,undef,undef,undef,undef,undef,undef,undef,undef,undef,undef],defers:=[] })
     (fun x a' _ X Y row hs hg hr=>by obtain⟨Bx,h1,h2,h3⟩:=hs;exact⟨Bx,h1,⟨cell_kept h2.1 hg (fun r e=>(hr r e).2),cell_kept h2.2.1 hg (fun r e=>(hr r e).2),cell_kept h2.2.2.1 hg (fun r e=>(hr r e).2),cell_kept h2.2.2.2 hg (fun r e=>(hr r e).2)⟩,h3⟩) ?assign ?body ?done ?stop
   case assign=>
     rintro l pre x W K ⟨⟨⟨v,hv,fl,_⟩,hS,hM,hF⟩,hB⟩ hK;clear UH;simp[Nd.enc];gi_wp2
     have q1:=hM.lt;have bb:=(nO.refl ae (W.alloc (.cells #[.int .i64 x.k,.string (B x.n),.int .i64 x.i,.slice x.a x.len x.cap] 29))).qu (fun x=>x);exact hK _ _ ((KeepsOthers.alloc _ _).from _) (dI.ki (oQ _ 0) _ _) ⟨⟨⟨v,hv.alloc _,fl.alloc _,trivial⟩,hS.kept (World.grownBy_alloc _ _ none) (by simp),hM.alloc _,eG _ hF⟩,hB.alloc hB.size _⟩ ⟨W.heap.size,q1,bb,rfl⟩
   case body=>
     rintro l pre x a' W hl _ ⟨⟨⟨v,hv,fl,_⟩,hS,hM,hF⟩,hB⟩ ⟨Bx,hBx,⟨x0,x1,x2,x3⟩,rfl⟩ aB;have hc:=hv.cell;have HM1:=ak (Qx pre x);have VX:=ak (Wp pre x);have jB:=WH pre;gi_wp2_with fail
     refine⟨trivial,?_⟩;refine(CallsIn.inRound l (callsIn_wide (n:=0)|>.2 (FT x.k x.i x.n x.a x.len x.cap W))).mono ?_;rintro e W2 ⟨rfl,aL⟩;have g2:=qi aL;have hC2:dI (JN w.heap.size) W W2:=lE g2 (fun r e=>by cases e);have KP:KeepsFrom (W0.alloc (.cells #[.int .i64 k,.string (B nm),.int .i64 i,.slice a len cap] 29)).heap.size W W2:=KeepsFrom.of_grownBy g2 (fun r e=>by cases e);have RL:=hv.kept g2 (by simp);have Dn:=fl.kept g2 (by cases v.ownBlock<;>simp);have JD:=hS.kept g2 (by simp);have hM2:=hM.kept g2 (by simp);have GJ:=hM2.cell;have xI:=aL.cell hF (fun x=>x);have zG:Below w.heap.size w W2:=hB.grown g2 hB.size (fun r e=>by cases e);have ju:=RL.cell;have hf2:=RL.frozen;clear hv fl hS hM hF hc hB aL g2 x0 x1 x2 x3;by_cases h6:(x.k == 6)=true
     ·have h6':=ak h6;by_cases EV:(ms pre).contains x.i=true
      ·have JY:=JD.lookup (P:=Tryz.prog) (mt:=162) (kt:=3) (bt:=4) (key:=.int .i64 x.i) (by kernel_rfl) (by kernel_rfl) (yH W2) (Bt _) rfl true (by simp at EV;simp[EV]);have hm:=HM1.out (by rw[h6'.out,EV];rfl);have N8:=ak hm;clear hm EV;gi_wp2
       exact⟨KP,hC2,⟨⟨⟨v,RL,by rw[N8.out];exact Dn,trivial⟩,by rw[N8.out];exact JD,hM2,xI⟩,zG⟩⟩
      have JY:=JD.lookup (P:=Tryz.prog) (mt:=162) (kt:=3) (bt:=4) (key:=.int .i64 x.i) (by kernel_rfl) (by kernel_rfl) (yH W2) (Bt _) rfl false (by simp at EV;simp[EV]);have hm:=VX.out h6'.out (by simpa using EV);have N8:=ak hm;obtain⟨W3,Ol,Ii,g3,vY⟩:=JD.store (P:=Tryz.prog) (mt:=162) (kt:=3) (bt:=4) (key:=.int .i64 x.i) (by kernel_rfl) (by kernel_rfl) (Bt _) rfl (by simp at EV;simp[EV]);clear hm EV;obtain⟨i0,hi,fS,gn,eH⟩:=info_parts nI;have qG:=xz Dn JD;have Ki:=RL.kept g3 (by simp);have yI:=Dn.kept g3 (.inr qG);have KC:=hM2.kept g3 (by simp);have Rv:=KC.cell;have BP:=mF xI g3 (fun r e=>by cases e;omega);have Qs:Below w.heap.size w W3:=zG.grown g3 zG.size (fun r e=>by cases e;omega)
      have hC3:dI (JN w.heap.size) W2 W3:=by
        refine lE g3 (fun r e=>?_);cases e
        obtain⟨es,clock,h1,_⟩:=JD;refine⟨by omega,?_⟩;rintro⟨cur,T,fr,_,h⟩;rw[h1]at h;cases h
      have hK3:KeepsFrom (W0.alloc (.cells #[.int .i64 k,.string (B nm),.int .i64 i,.slice a len cap] 29)).heap.size W2 W3:=KeepsFrom.of_grownBy g3 (fun r e=>by cases e;simp;omega);have yT:=Ki.cell;have hlen:(ms pre).length<=1000000:=by omega
      have Un:w1.heap.size<=W3.heap.size:=Nat.le_of_lt Ki.lt;clear Dn RL;gi_wp2_with (gi_at_builtin;refine wpListIn_append_own _ rfl _ _ 22 rfl w1.heap.size 3 i0 (.int .i64 0) 1 8 (by kernel_rfl) hi fS gn eH rfl (by decide) _ _ _ rfl (yI.alloc _) ⟨W3.heap.size,0,none⟩ 1 1 [.int .i64 x.i] rfl rfl (cell_one_new _ _ _) (by simp[Value.oneCell']) (by simp only[maxLen];omega) (by omega) (by simp;omega) ?_;intro v' w4 tk aN _;obtain⟨g',aS,rfl⟩:=ownsRow_succ tk;obtain⟨Vn,Q6,dR,rV,Kz⟩:=Ki.appended (by decide) yI Un (Nat.le_refl _) tk aN;have hc4:=Vn.cell;have hf4:=Vn.frozen)
      have ga:=World.grownBy_alloc W3 (.cells #[.int .i64 x.i] 3) none;have gs:=grownBy_setCell' w4 w1.heap.size (.slice (some ⟨g',0,none⟩) ((ms pre).length+1) aS);have afU:some (w1.heap.size+1)≠v.ownBlock:=fun e=>xz yI Ii e.symm
      have hS5:=((Ii.kept ga (by simp)).kept aN afU).kept gs (by simp);have hC5:=((dI.ki (oQ w.heap.size 0) W3 (.cells #[.int .i64 x.i] 3)).trans (lE aN (Pn (yI.alloc _) (by omega) (by simp[qF])))).trans (lE gs (fun r e=>by cases e;exact sZ (by omega) Vn (by simp[qF])));have GG:=(((KC.kept ga (by simp)).kept aN (KC.not_row (by decide) yI)).kept gs (by simp;omega));have ES:=mF (mF (mF BP ga (fun r e=>by cases e)) aN (fun r e h=>by subst h;have:=yI.lt _ e;omega)) gs (fun r e=>by cases e;omega);exact⟨(KP.trans hK3).trans (rV.from _),(hC2.trans hC3).trans hC5,⟨⟨_,Q6,by rw[N8.out];simpa using dR,trivial⟩,by rw[N8.out];simpa using hS5,GG,ES⟩,Qs.trans (Kz.mono (by omega))⟩
     have h6':=ak h6;replace h6:(x.k == 6)=false:=by simpa using h6
     have hm:=HM1.out (by rw[h6];rfl);have N8:=ak hm;clear hm;gi_wp2
     exact⟨KP,hC2,⟨⟨⟨v,RL,by rw[N8.out];exact Dn,trivial⟩,by rw[N8.out];exact JD,hM2,xI⟩,zG⟩⟩
   case done=>
     rintro D ys W hD On ⟨⟨⟨v,hv,fl,_⟩,hS,hM,hF⟩,hB⟩ hK;have hc:=hv.cell;have hr:ms ys=r:=by rw[<-HQ.out,HZ.out];unfold ms;rw[On];exact Tm.pW t 0 []
     rw[hr]at fl;clear hr On;gi_wp2
     refine⟨by simp,.inl ⟨_,_,rfl,run_takeDeferred hK,?_⟩⟩;exact⟨_,results_tmp rfl _ _ _,v,rfl,(ownsRow_putObj fl _ hK rfl).mono aF.size,af.nX (hB.trans (belowK_b (w:=w) (Nat.le_refl _) W D _ _ (by simp at hD;omega) hK rfl rfl))⟩
   case stop=>
     rintro D c pre W _ _ h _;exact h.elim
  have z1:(wf !=0)=true:=by simp at hz;simp[bne,hz]
  have hr:r=[]:=by rw[<-HQ.out,<-jm];simp at hz;simp[hz]
  subst hr;clear jm;refine callsIn_of_wp_marks Tryz.func119 rfl trivial ?_ rfl;simp only[Tryz.ntmps119,List.size_toArray,List.length_cons,List.length_nil,Nat.reduceAdd,Nat.reduceSub,Array.replicate_succ,Array.replicate_zero,List.push_toArray,List.append_toArray,List.nil_append,List.cons_append];gi_wp2_with fail
  refine⟨trivial,?_⟩;refine(HW _ _ ((h.new _).new _)).mono ?_;rintro e w1 ⟨rfl,aH⟩;obtain⟨⟨b0,b1,b2,b3⟩,b4,aF,mX⟩:=LB aH;gi_wp2_with fail
  exact⟨_,results_tmp rfl _ _ _,_,rfl,World.ownsRow_nil _ _ _ _,aF⟩
end
section
open Go.RowKit Go.LF Go.Shelf
attribute [local go_sem] Oper.semAt_some
def ns(xs:List Nd):List (List UInt8):=(xs.map Nd.bare).foldl Tm.JS []
end
section
open Go.RowKit Go.LF
def dv(base:Nat)(W:World)(v:Value)(l:List Int):Prop:=W.ownsRow base 3 1 v l.length (l.map (Value.int .i64))
def Tm.ay(t:Tm):List Int:=if t.wf == 0 then t.lG else []
theorem sJ(t:Tm)(iH:t.wt<=1000000)(w:World)(cs:List Value)(h:aw ae w t.az cs):
    Calls Tryz.prog 52 #[.agg cs.toArray] w fun e w'=>∃ v,e=.returned v/\dv w.heap.size w' v (Tm.ay t)/\af ae w w':=by
  have HF:=fun w cs h=>callsIn_wide.1 (Da t iH w cs h)
  obtain⟨k,n,i,ts,a,cap,ht,rfl,aX,hE⟩:=aP h;have HT:=ak ht;clear ht aX;generalize ts.length=len at *
  go_enter Tryz.func52,Tryz.ntmps52;go_wp2_with fail;refine(HF _ _ (h.new _)).mono ?_;rintro e w1 ⟨v,rfl,hr,hU⟩;go_wp2
  go_ret;exact⟨v,rfl,hr.mono (by simp),hU.kR⟩
end
section
open Go.RowKit Go.LF
def UX(g:FuncId)(ts:List Tm):Prop:=∀ x∈ts,∀(y:Tm)(w:World)(cs ds:List Value),aw ae w x.az cs->aw ae w y.az ds->
    Calls Tryz.prog g #[.agg cs.toArray,.agg ds.toArray] w fun e w'=>e=.returned (.bool (x.same y))/\af ae w w'
end
section
open Go.RowKit Go.LF
structure cB(T:TypeId)(base:Nat)(w w':World):Prop where
  os:w'.os=w.os
  tape:w'.tape=w.tape
  output:w'.output=w.output
  size:w.heap.size<=w'.heap.size
  block:∀ k,k<w.heap.size->(base<=k->¬∃ cur fr,w.heap[k]? =some (.cells cur T fr))->w'.heap[k]? =w.heap[k]?
section
variable {T:TypeId}{base:Nat}{a b c w w':World}
theorem cB.refl(T:TypeId)(base:Nat)(w:World):cB T base w w:=⟨rfl,rfl,rfl,Nat.le_refl _,fun _ _ _=>rfl⟩
theorem cB.trans(h:cB T base a b)(k:cB T base b c):cB T base a c:=by
  refine⟨k.os.trans h.os,k.tape.trans h.tape,k.output.trans h.output,Nat.le_trans h.size k.size,fun i hi hn=>?_⟩;have h1:=h.block i hi hn;exact(k.block i (Nat.lt_of_lt_of_le hi h.size) (by rw[h1];exact hn)).trans h1
theorem cB.of(h:af ae a b):cB T base a b:=⟨h.os,h.tape,h.output,h.size,fun k hk _=>h.block k hk (fun x=>x)⟩
theorem cB.on(h:cB T base a b)(k:af ae b c):cB T base a c:=h.trans (cB.of k)
theorem cB.alloc(h:cB T base a b)(o:Obj):cB T base a (b.alloc o):=h.on ((af.refl ae b).alloc o)
theorem cB.grown{size n:Nat}{v:Value}{xs:List Value}(hr:w.ownsRow base T size v n xs)(hg:w.grownBy w' v.ownBlock):cB T base w w':=by
  refine⟨hg.os,hg.tape,hg.output,hg.size,fun k hk hn=>hg.block k hk (fun e=>?_)⟩;rcases hr.2 with⟨rfl,_⟩|⟨g,cap,cur,rfl,hb,EF,_⟩
  ·simp[Value.ownBlock]at e
  obtain rfl:k=g:=by simpa[Value.ownBlock]using e
  exact hn hb ⟨_,_,EF⟩
theorem cB.upto(h:cB T base a b)(hb:a.heap.size<=base):af ae a b:=⟨h.os,h.tape,h.output,h.size,fun k hk _=>h.block k hk (fun e=>by omega)⟩
theorem cB.other(h:cB T base a b){g:Nat}{cur:Array Value}{T':TypeId}{fr:Nat×Nat}(hg:a.heap[g]? =some (.cells cur T' fr))(hT:T'≠T):b.heap[g]? =some (.cells cur T' fr):=by
  rw[h.block g (Array.getElem?_eq_some_iff.1 hg).1 (fun _=>?_)]
  ·exact hg
  rintro⟨c,f,e⟩;rw[hg]at e;cases e
  exact hT rfl
theorem cB.Bk(h:cB T base a b):nO (fun b=>base<=b) a b:=
  ⟨h.size,fun x o v hx hv=>(World.cell?_of_block (a:=⟨x,o,none⟩) (h.block x (by simpa using World.block_lt_of_cell? a _ hv) (fun e=>absurd e hx))).trans hv⟩
end
def au(W:World)(g:Nat)(c0 c1 c2 c3:Value)(T:TypeId):Prop:=W.heap[g]? =some (.cells #[c0,c1,c2,c3] T (0,0))
theorem au.new(W:World)(c0 c1 c2 c3:Value)(T:TypeId):au (W.alloc (.cells #[c0,c1,c2,c3] T)) W.heap.size c0 c1 c2 c3 T:=heap_alloc_new W _
theorem au.up{a b:World}{U:TypeId}{base g:Nat}{c0 c1 c2 c3:Value}{T:TypeId}(h:au a g c0 c1 c2 c3 T)(hu:cB U base a b)(hT:T≠U):au b g c0 c1 c2 c3 T:=hu.other h hT
theorem au.cells{W:World}{g:Nat}{c0 c1 c2 c3:Value}{T:TypeId}(h:au W g c0 c1 c2 c3 T):
    W.cell? ⟨g,0,none⟩=some c0/\W.cell? ⟨g,1,none⟩=some c1/\W.cell? ⟨g,2,none⟩=some c2/\W.cell? ⟨g,3,none⟩=some c3:=by
  unfold au at h;refine⟨?_,?_,?_,?_⟩<;>simp[World.cell?,h]
theorem au.kept{W W':World}{g:Nat}{c0 c1 c2 c3:Value}{T:TypeId}(h:au W g c0 c1 c2 c3 T)(hu:af ae W W'):au W' g c0 c1 c2 c3 T:=
  (hu.block g (Array.getElem?_eq_some_iff.1 h).1 (fun x=>x)).trans h
theorem CX(v:Value):v.ownBlock=none\/v.ownBlock≠none:=by cases v.ownBlock<;>simp
abbrev Nw(l:List Int):fB:=.seq 1 (l.map (fB.int .i64))
abbrev Ns(l:List (List UInt8)):fB:=.seq 1 (l.map fun s=>fB.str (B s))
theorem PF{W:World}{base:Nat}{T:TypeId}{v:Value}{xs:List Value}(h:W.ownsRow base T 1 v xs.length xs):∃ a cap,v=.slice a xs.length cap/\xs.length<=cap/\∀ i(hi:i<xs.length),∃ b,a=some ⟨b,0,none⟩/\b<W.heap.size/\base<=b/\W.cell? ⟨b,i,none⟩=some xs[i]:=by
  rcases h.2 with⟨rfl,h0⟩|⟨g,cap,cur,rfl,hb,hg,kz,_,_,_⟩
  ·exact⟨none,0,by rw[h0],by omega,fun i hi=>by omega⟩
  refine⟨_,cap,rfl,kz,fun i hi=>⟨g,rfl,(Array.getElem?_eq_some_iff.1 hg).1,hb,?_⟩⟩;have:=h.cells (g:=g) rfl i xs[i] (by simp);have gF:(⟨g,0,none⟩:Addr).add i=⟨g,i,none⟩:=by unfold Addr.add;split<;>simp_all
  rwa [gF]at this
theorem Et{α:Type}{O:Nat->Prop}{W:World}{D:α->fB}{V:α->Value}(hD:∀ x,aw O W (D x) [V x]):∀(l:List α)(a:Option Addr)(j:Nat),
    (∀ i(hi:i<l.length),∃ b,a=some ⟨b,0,none⟩/\b<W.heap.size/\¬O b/\W.cell? ⟨b,j+i,none⟩=some (V l[i]))->ai O W 1 (l.map D) a j
  | [],_,_,_=>by simp only[List.map_nil,ai]
  |x :: l,a,j,h=>by
   simp only[List.map_cons,ai];refine⟨?_,Et hD l a (j+1) (fun i hi=>?_)⟩
   ·obtain⟨b,h1,h2,h3,h4⟩:=h 0 (by simp);refine⟨b,0,[V x],h1,h2,h3,rfl,fun i v hv=>?_,hD x⟩;cases i with
    |zero=>
     cases hv
     have e:0+j+0=j+0:=by omega
     rw[e];exact h4
    |succ i=>simp at hv
   obtain⟨b,h1,h2,h3,h4⟩:=h (i+1) (by simp;omega);refine⟨b,h1,h2,h3,?_⟩;rw[show j+1+i=j+(i+1) by omega];exact h4
theorem dv.rep{base:Nat}{W:World}{v:Value}{l:List Int}(h:dv base W v l):aw (fun b=>b<base) W (Nw l) [v]:=by
  obtain⟨a,cap,h1,h2,h3⟩:=PF (by simpa[dv]using h:W.ownsRow base 3 1 v (l.map (Value.int .i64)).length (l.map (Value.int .i64)));simp only[List.length_map]at h1 h2 h3;simp only[aw];refine⟨a,cap,by simp[h1],by simpa using h2,Et (V:=Value.int .i64) (fun x=>by simp[aw]) l a 0 (fun i hi=>?_)⟩;obtain⟨b,g1,g2,g3,g4⟩:=h3 i hi;exact⟨b,g1,g2,by omega,by simpa using g4⟩
theorem cO{O:Nat->Prop}{W:World}{l:List Int}{v:Value}(h:aw O W (Nw l) [v]):∃ a cap,v=.slice a l.length cap/\l.length<=cap/\ai O W 1 (l.map (fB.int .i64)) a 0:=by
  simp only[aw]at h;obtain⟨a,cap,h1,h2,h3⟩:=h;exact⟨a,cap,by simpa using h1,by simpa using h2,h3⟩
theorem eX{O:Nat->Prop}{W:World}{l:List Int}{a:Option Addr}(h:ai O W 1 (l.map (fB.int .i64)) a 0)(i:Nat)(hi:i<l.length):
    ∃ b o,a=some ⟨b,o,none⟩/\b<W.heap.size/\¬O b/\W.cell? ⟨b,o+i,none⟩=some (.int .i64 l[i]):=by
  obtain⟨b,o,cs,h1,h2,h3,h4,h5,h6⟩:=h.get i (by simpa using hi);simp only[List.getElem_map,aw]at h6;subst h6;exact⟨b,o,h1,h2,h3,by simpa using h5 0 _ rfl⟩
theorem IV{O:Nat->Prop}{W:World}{l:List (List UInt8)}{v:Value}(h:aw O W (Ns l) [v]):∃ a cap,v=.slice a l.length cap/\l.length<=cap/\ai O W 1 (l.map fun s=>fB.str (B s)) a 0:=by
  simp only[aw]at h;obtain⟨a,cap,h1,h2,h3⟩:=h;exact⟨a,cap,by simpa using h1,by simpa using h2,h3⟩
theorem DM{O:Nat->Prop}{W:World}{l:List (List UInt8)}{a:Option Addr}(h:ai O W 1 (l.map fun s=>fB.str (B s)) a 0)(i:Nat)(hi:i<l.length):
    ∃ b o,a=some ⟨b,o,none⟩/\b<W.heap.size/\¬O b/\W.cell? ⟨b,o+i,none⟩=some (.string (B l[i])):=by
  obtain⟨b,o,cs,h1,h2,h3,h4,h5,h6⟩:=h.get i (by simpa using hi);simp only[List.getElem_map,aw]at h6;subst h6;exact⟨b,o,h1,h2,h3,by simpa using h5 0 _ rfl⟩
end
section
open Go.RowKit Go.LF
theorem bT{O:Nat->Prop}{W:World}{wd:Nat}:∀(ds:List fB)(a:Option Addr)(j:Nat),
    (∀ i(h:i<ds.length),∃ b o cs,a=some ⟨b,o,none⟩/\b<W.heap.size/\¬O b/\cs.length=wd/\(∀ m v,cs[m]? =some v->W.cell? ⟨b,o+j+i * wd+m,none⟩=some v)/\aw O W ds[i] cs)->ai O W wd ds a j
  | [],_,_,_=>by simp only[ai]
  |d :: ds,a,j,h=>by
   simp only[ai];refine⟨?_,bT ds a (j+wd) (fun i hi=>?_)⟩
   ·obtain⟨b,o,cs,h1,h2,h3,h4,h5,h6⟩:=h 0 (by simp);exact⟨b,o,cs,h1,h2,h3,h4,fun i v hv=>by simpa using h5 i v hv,h6⟩
   obtain⟨b,o,cs,h1,h2,h3,h4,h5,h6⟩:=h (i+1) (by simp;omega);refine⟨b,o,cs,h1,h2,h3,h4,fun m v hv=>?_,h6⟩;have:=h5 m v hv;rw[Nat.add_mul,Nat.one_mul]at this;rw[show o+(j+wd)+i * wd+m=o+j+(i * wd+wd)+m by omega];exact this
theorem zN:∀(css:List (List Value)),(∀ cs∈css,cs.length=4)->css.flatten.length=css.length * 4/\∀ i(h:i<css.length)m v,css[i][m]? =some v->css.flatten[i * 4+m]? =some v
  | [],_=>⟨rfl,fun i h=>by simp at h⟩
  |c :: css,hl=>by
   obtain⟨h1,h2⟩:=zN css (fun cs hc=>hl cs (by simp[hc]));have hc:=hl c (by simp);refine⟨by simp[h1,hc];omega,fun i h m v hv=>?_⟩;cases i with
   |zero=>
    simp only[List.getElem_cons_zero]at hv;have hm:m<c.length:=(List.getElem?_eq_some_iff.1 hv).1;simp only[List.flatten_cons,Nat.zero_mul,Nat.zero_add];rw[List.getElem?_append_left hm];exact hv
   |succ i=>
    simp only[List.getElem_cons_succ]at hv;simp only[List.flatten_cons];rw[List.getElem?_append_right (by rw[hc,Nat.add_mul];omega),hc,show(i+1) * 4+m - 4=i * 4+m by omega];exact h2 i (by simpa using h) m v hv
def dG(base:Nat)(W:World)(v:Value)(ts:List Tm)(css:List (List Value)):Prop:=
  css.length=ts.length/\(∀ cs∈css,cs.length=4)/\W.ownsRow base 29 4 v ts.length css.flatten/\
    ∀ i(h:i<ts.length)(h':i<css.length),aw (fun b=>b<base\/v.ownBlock=some b) W ts[i].az css[i]
theorem dG.nil(base:Nat)(W:World):dG base W (.slice none 0 0) [] []:=⟨rfl,by simp,World.ownsRow_nil _ _ _ _,fun i h=>by simp at h⟩
theorem dG.ag{base:Nat}{W W':World}{v:Value}{ts:List Tm}{css:List (List Value)}{S:Nat->Prop}(h:dG base W v ts css)(hU:af S W W')(hS:∀ b,S b->b<base):dG base W' v ts css:=by
  obtain⟨h1,h2,h3,h4⟩:=h;refine⟨h1,h2,⟨h3.1,?_⟩,fun i h h'=>aw.ag hU (fun b hb=>.inl (hS b hb)) _ _ (h4 i h h')⟩;rcases h3.2 with h5 |⟨g,cap,cur,rfl,hb,hg,rest⟩
  ·exact .inl h5
  exact .inr ⟨g,cap,cur,rfl,hb,(hU.block g (Array.getElem?_eq_some_iff.1 hg).1 (fun e=>by have:=hS g e;omega)).trans hg,rest⟩
theorem dG.on{base:Nat}{W W':World}{v:Value}{ts:List Tm}{css:List (List Value)}(h:dG base W v ts css)(hU:af ae W W'):dG base W' v ts css:=h.ag hU (fun _ x=>x.elim)
theorem dG.rep{base:Nat}{W:World}{v:Value}{ts:List Tm}{css:List (List Value)}(h:dG base W v ts css):∃ a cap,v=.slice a ts.length cap/\ts.length<=cap/\ai (fun b=>b<base) W 4 (ts.map Tm.az) a 0:=by
  obtain⟨h1,h2,h3,h4⟩:=h;rcases h3.2 with⟨rfl,h0⟩|⟨g,cap,cur,rfl,hb,hg,kz,_⟩
  ·obtain rfl:ts=[]:=List.eq_nil_of_length_eq_zero h0;exact⟨none,0,rfl,Nat.le_refl _,by simp only[List.map_nil,ai]⟩
  refine⟨_,cap,rfl,kz,bT _ _ _ (fun i hi=>?_)⟩;simp only[List.length_map]at hi;have dZ:i<css.length:=by omega
  refine⟨g,0,css[i],rfl,(Array.getElem?_eq_some_iff.1 hg).1,by omega,h2 _ (List.getElem_mem dZ),fun m u hu=>?_,?_⟩
  ·have:=h3.cells (g:=g) rfl _ u ((zN css h2).2 i dZ m u hu);have gF:(⟨g,0,none⟩:Addr).add (i * 4+m)=⟨g,i * 4+m,none⟩:=by unfold Addr.add;split<;>simp_all
   rw[gF]at this;rw[show 0+0+i * 4+m=i * 4+m by omega];exact this
  simp only[List.getElem_map];exact aw.weaken (fun b _ e=>.inl e) _ _ (h4 i hi dZ)
theorem dG.appended{base:Nat}{W w':World}{v:Value}{ts:List Tm}{css:List (List Value)}{t:Tm}{cs:List Value}{g cap H:Nat}(h:dG base W v ts css)(pj:cs.length=4)
    (hr:aw (fun b=>b<base\/v.ownBlock=some b) W t.az cs) (bq:w'.ownsRow base 29 4 (.slice (some ⟨g,0,none⟩) (ts.length+1) cap) (ts.length+1) (css.flatten++cs)) (hg:W.grownBy w' v.ownBlock)
    (ft:v.ownBlock=some g\/g=H) (hH:W.heap.size<=H):dG base w' (.slice (some ⟨g,0,none⟩) (ts.length+1) cap) (ts++[t]) (css++[cs]):=by
  obtain⟨h1,h2,h3,h4⟩:=h
  have pa:nO (fun b=>(b<base\/v.ownBlock=some b)\/W.heap.size<=b) W w':=by
    refine⟨hg.size,fun b o u hb hu=>hg.cell hu (fun e=>hb (.inl (.inr ?_)))⟩;exact e.symm
  have key:∀(d:fB)(cs:List Value),aw (fun b=>b<base\/v.ownBlock=some b) W d cs->aw (fun b=>b<base\/(Value.slice (some ⟨g,0,none⟩) (ts.length+1) cap).ownBlock=some b) w' d cs:=by
    intro d cs h;refine aw.weaken (fun b _ e=>?_) _ _ (aw.carry pa _ _ (aw.fR h));rcases e with e |e
    ·exact .inl (.inl e)
    simp only[Value.ownBlock,Option.some.injEq]at e;subst e;rcases ft with ft |rfl
    ·exact .inl (.inr ft)
    exact .inr hH
  refine⟨by simp[h1],?_,by simpa using bq,fun i hi dZ=>?_⟩
  ·intro c hc;rcases List.mem_append.1 hc with hc |hc
   ·exact h2 c hc
   obtain rfl:c=cs:=by simpa using hc
   exact pj
  by_cases aB:i<ts.length
  ·have kZ:i<css.length:=by omega
   rw[List.getElem_append_left aB,List.getElem_append_left kZ];exact key _ _ (h4 i aB kZ)
  have e1:i=ts.length:=by simp at hi;omega
  subst e1;rw[List.getElem_append_right (Nat.le_refl _),List.getElem_append_right (by omega)];simp only[h1,Nat.sub_self,List.getElem_cons_zero];exact key _ _ hr
theorem au.ui{W:World}{g:Nat}{c0 c1 c2 c3:Value}{T:TypeId}(h:au W g c0 c1 c2 c3 T)(v:Value):au (W.setCell ⟨g,0,none⟩ v) g v c1 c2 c3 T:=by
  obtain⟨aB,hk⟩:=Array.getElem?_eq_some_iff.1 h;show(W.heap.modify g _)[g]? =_;rw[Array.getElem?_eq_getElem (by rw[Array.size_modify];exact aB),Array.getElem_modify_self,hk];rfl
theorem au.mu{W:World}{g:Nat}{c0 c1 c2 c3:Value}{T:TypeId}(h:au W g c0 c1 c2 c3 T)(v:Value):au (W.setCell ⟨g,1,none⟩ v) g c0 v c2 c3 T:=by
  obtain⟨aB,hk⟩:=Array.getElem?_eq_some_iff.1 h;show(W.heap.modify g _)[g]? =_;rw[Array.getElem?_eq_getElem (by rw[Array.size_modify];exact aB),Array.getElem_modify_self,hk];rfl
theorem au.kG{W:World}{g:Nat}{c0 c1 c2 c3:Value}{T:TypeId}(h:au W g c0 c1 c2 c3 T)(v:Value):au (W.setCell ⟨g,2,none⟩ v) g c0 c1 v c3 T:=by
  obtain⟨aB,hk⟩:=Array.getElem?_eq_some_iff.1 h;show(W.heap.modify g _)[g]? =_;rw[Array.getElem?_eq_getElem (by rw[Array.size_modify];exact aB),Array.getElem_modify_self,hk];rfl
theorem au.mH{W:World}{g:Nat}{c0 c1 c2 c3:Value}{T:TypeId}(h:au W g c0 c1 c2 c3 T)(v:Value):au (W.setCell ⟨g,3,none⟩ v) g c0 c1 c2 v T:=by
  obtain⟨aB,hk⟩:=Array.getElem?_eq_some_iff.1 h;show(W.heap.modify g _)[g]? =_;rw[Array.getElem?_eq_getElem (by rw[Array.size_modify];exact aB),Array.getElem_modify_self,hk];rfl
theorem au.other{W:World}{g b o:Nat}{c0 c1 c2 c3:Value}{T:TypeId}(h:au W g c0 c1 c2 c3 T)(hb:g≠b)(v:Value):au (W.setCell ⟨b,o,none⟩ v) g c0 c1 c2 c3 T:=
  (Below.heap_setCell _ _ _ _ hb).trans h
theorem au.frozen{W:World}{g:Nat}{c0 c1 c2 c3:Value}{T:TypeId}(h:au W g c0 c1 c2 c3 T)(j:Nat):W.frozen? ⟨g,j,none⟩=false:=by
  unfold au at h;simp[World.frozen?,h]
theorem au.aq{W:World}{g:Nat}{c0 c1 c2 c3:Value}{T:TypeId}(h:au W g c0 c1 c2 c3 T):
    W.frozen? ⟨g,0,none⟩=false/\W.frozen? ⟨g,1,none⟩=false/\W.frozen? ⟨g,2,none⟩=false/\W.frozen? ⟨g,3,none⟩=false:=⟨h.frozen 0,h.frozen 1,h.frozen 2,h.frozen 3⟩
theorem au.ag{W W':World}{S:Nat->Prop}{g:Nat}{c0 c1 c2 c3:Value}{T:TypeId}(h:au W g c0 c1 c2 c3 T)(hU:af S W W')(hS:¬S g):au W' g c0 c1 c2 c3 T:=
  (hU.block g (Array.getElem?_eq_some_iff.1 h).1 hS).trans h
theorem au.lt{W:World}{g:Nat}{c0 c1 c2 c3:Value}{T:TypeId}(h:au W g c0 c1 c2 c3 T):g<W.heap.size:=(Array.getElem?_eq_some_iff.1 h).1
theorem au.row{W W':World}{g base:Nat}{c0 c1 c2 c3:Value}{T:TypeId}{v:Value}{ts:List Tm}{css:List (List Value)}(h:au W g c0 c1 c2 c3 T)(hg:W.grownBy W' v.ownBlock)(ht:dG base W v ts css)(hb:g<base):au W' g c0 c1 c2 c3 T:=
  (hg.block g h.lt (fun e=>by have:=(ht.2.2.1.lt g e.symm).1;omega)).trans h
end
section
open Go.RowKit Go.LF
theorem bD{O:Nat->Prop}{W:World}(k:Int)(n:List UInt8)(i:Int):aw O W (Tm.mk k n i []).az [.int .i64 k,.string (B n),.int .i64 i,.slice none 0 0]:=
  bg.2 ⟨none,0,rfl,Nat.le_refl _,by simp only[List.map_nil,ai]⟩
theorem A1{O:Nat->Prop}{W:World}{t:Tm}{c0 c1 c2 c3:Value}{b:Nat}{T:TypeId}(h:aw O W t.az [c0,c1,c2,c3])(hb:¬O b)(hB:au W b c0 c1 c2 c3 T)(k:Int)(n:List UInt8)(i:Int):
    aw O W (Tm.mk k n i [t]).az [.int .i64 k,.string (B n),.int .i64 i,.slice (some ⟨b,0,none⟩) 1 1]:=by
  obtain⟨n0,m1,m2,m3⟩:=hB.cells;refine bg.2 ⟨_,1,rfl,Nat.le_refl _,?_⟩;refine bT _ _ _ (fun i hi=>?_);obtain rfl:i=0:=by simpa using hi
  refine⟨b,0,_,rfl,hB.lt,hb,rfl,fun m v hv=>?_,h⟩;match m,hv with
  |0,hv=>cases hv;exact n0
  |1,hv=>cases hv;exact m1
  |2,hv=>cases hv;exact m2
  |3,hv=>cases hv;exact m3
end
section
open Go.RowKit Go.LF
theorem au.av{w:World}{c0 c1 c2 c3:Value}{T:TypeId}{b:Nat}(hb:w.heap.size=b):au (w.alloc (.cells #[c0,c1,c2,c3] T)) b c0 c1 c2 c3 T:=by subst hb;exact au.new _ _ _ _ _ _
theorem af.set{a w:World}{b:Nat}(h:af (fun x=>x=b) a w)(o:Nat)(v:Value):af (fun x=>x=b) a (w.setCell ⟨b,o,none⟩ v):=af.setCell (S:=fun x=>x=b) (p:=⟨b,o,none⟩) h (fun _=>rfl) v
theorem af.ofRow{U:TypeId}{base:Nat}{a b:World}(h:cB U base a b):af (fun k=>base<=k) a b:=⟨h.os,h.tape,h.output,h.size,fun k hk hn=>h.block k hk (fun e=>absurd e hn)⟩
theorem au.set{W:World}{b:Nat}{c0 c1 c2 c3 d0 d1 d2 d3:Value}{T:TypeId}(h:au W b c0 c1 c2 c3 T):
    au ((((W.setCell ⟨b,0,none⟩ d0).setCell ⟨b,1,none⟩ d1).setCell ⟨b,2,none⟩ d2).setCell ⟨b,3,none⟩ d3) b d0 d1 d2 d3 T/\
      af (fun x=>x=b) W ((((W.setCell ⟨b,0,none⟩ d0).setCell ⟨b,1,none⟩ d1).setCell ⟨b,2,none⟩ d2).setCell ⟨b,3,none⟩ d3):=by
  refine⟨(((h.ui _).mu _).kG _).mH _,?_⟩;exact af.set (af.set (af.set (af.set (af.refl _ W) 0 _) 1 _) 2 _) 3 _
theorem de:(Tryz.prog.info? 29).map (fun i=>(i.zero,i.size,i.bytes))=some (some (.agg #[.int .i64 0,.string (B []),.int .i64 0,.slice none 0 0]),4,56):=by kernel_rfl
end
end Go.Proofs.YthgmimncdjhgnaaGreatDoor
namespace Go.LF
namespace Sm
mutual
def az:Sm->fB
  |mk f l=>.st [.str (B f),.seq 2 (Aq l)]
def Aq:List Sm->List fB
  | []=>[]
  |t :: ts=>az t :: Aq ts
end
theorem By(l:List Sm):Aq l=l.map az:=by
  induction l with
  |nil=>rfl
  |cons t ts ih=>simp[Aq,ih]
end Sm
end Go.LF
namespace Go.Proofs.YthgmimncdjhgnaaGreatDoor
section
open Go.RowKit Go.LF
theorem ig{O:Nat->Prop}{w:World}{f:List UInt8}{l:List Sm}{cs:List Value}:
    aw O w (Sm.mk f l).az cs↔∃ a cap,cs=[.string (B f),.slice a l.length cap]/\l.length<=cap/\ai O w 2 (l.map Sm.az) a 0:=by
  simp only[Sm.az,aw,fX,Sm.By];constructor
  ·rintro⟨c1,c2,rfl,rfl,c7,c8,rfl,⟨a,cap,rfl,h1,h2⟩,rfl⟩;exact⟨a,cap,by simp,by simpa using h1,h2⟩
  rintro⟨a,cap,rfl,h1,h2⟩;exact⟨[_],[_],rfl,rfl,[.slice a l.length cap],[],rfl,⟨a,cap,by simp,by simpa using h1,h2⟩,rfl⟩
theorem oC{O:Nat->Prop}{w:World}{s:Sm}{cs:List Value}(h:aw O w s.az cs):
    ∃ f l a cap,s=.mk f l/\cs=[.string (B f),.slice a l.length cap]/\l.length<=cap/\ai O w 2 (l.map Sm.az) a 0:=by
  cases s with
  |mk f l=>
   obtain⟨a,cap,h1,h2,h3⟩:=ig.1 h;exact⟨f,l,a,cap,rfl,h1,h2,h3⟩
theorem kV{O:Nat->Prop}{w:World}{l:List Sm}{a:Option Addr}(h:ai O w 2 (l.map Sm.az) a 0)(i:Nat)(hi:i<l.length):
    ∃ b o n s c,a=some ⟨b,o,none⟩/\b<w.heap.size/\¬O b/\w.cell? ⟨b,o+i * 2,none⟩=some (.string (B n))/\w.cell? ⟨b,o+i * 2+1,none⟩=some (.slice s l[i].args.length c)/\
      aw O w l[i].az [.string (B n),.slice s l[i].args.length c]:=by
  obtain⟨b,o,cs,h1,hb,h2,h3,h4,h5⟩:=h.get i (by simpa using hi);simp only[List.getElem_map]at h5;cases hx:l[i]with
  |mk f m=>
   rw[hx]at h5;obtain⟨s,c,rfl,g1,g2⟩:=ig.1 h5;refine⟨b,o,f,s,c,h1,hb,h2,?_,?_,h5⟩
   ·simpa using h4 0 _ rfl
   simpa[Sm.args]using h4 1 _ rfl
theorem Lr{O:Nat->Prop}{w:World}{t:Sm}{n:List UInt8}{s:Option Addr}{l c:Nat}(h:aw O w t.az [.string (B n),.slice s l c]):
    ∃ ts,t=.mk n ts/\l=ts.length/\l<=c/\ai O w 2 (ts.map Sm.az) s 0:=by
  obtain⟨f,ts,a',aS,rfl,e,aX,hE⟩:=oC h;simp only[List.cons.injEq,Value.string.injEq,Value.slice.injEq,and_true]at e;obtain⟨e2,rfl,rfl,rfl⟩:=e;obtain rfl:n=f:=by have:=congrArg (fun b=>b.data.toList) e2;simpa using this
  exact⟨ts,rfl,rfl,aX,hE⟩
def bK(W:World)(g:Nat)(c0 c1:Value)(T:TypeId):Prop:=W.heap[g]? =some (.cells #[c0,c1] T (0,0))
section
variable {W W':World}{g b:Nat}{c0 c1:Value}{T:TypeId}{S:Nat->Prop}
theorem bK.av(hb:W.heap.size=b):bK (W.alloc (.cells #[c0,c1] T)) b c0 c1 T:=by subst hb;exact heap_alloc_new W _
theorem bK.lt(h:bK W g c0 c1 T):g<W.heap.size:=(Array.getElem?_eq_some_iff.1 h).1
theorem bK.cells(h:bK W g c0 c1 T):W.cell? ⟨g,0,none⟩=some c0/\W.cell? ⟨g,1,none⟩=some c1:=by unfold bK at h;constructor<;>simp[World.cell?,h]
theorem bK.aq(h:bK W g c0 c1 T):W.frozen? ⟨g,0,none⟩=false/\W.frozen? ⟨g,1,none⟩=false:=by unfold bK at h;constructor<;>simp[World.frozen?,h]
theorem bK.ag(h:bK W g c0 c1 T)(hU:af S W W')(hS:¬S g):bK W' g c0 c1 T:=(hU.block g h.lt hS).trans h
theorem bK.kept(h:bK W g c0 c1 T)(hU:af ae W W'):bK W' g c0 c1 T:=h.ag hU (fun x=>x)
theorem bK.ui(h:bK W g c0 c1 T)(v:Value):bK (W.setCell ⟨g,0,none⟩ v) g v c1 T:=by
  obtain⟨aB,hk⟩:=Array.getElem?_eq_some_iff.1 h;show(W.heap.modify g _)[g]? =_;rw[Array.getElem?_eq_getElem (by rw[Array.size_modify];exact aB),Array.getElem_modify_self,hk];rfl
theorem bK.mu(h:bK W g c0 c1 T)(v:Value):bK (W.setCell ⟨g,1,none⟩ v) g c0 v T:=by
  obtain⟨aB,hk⟩:=Array.getElem?_eq_some_iff.1 h;show(W.heap.modify g _)[g]? =_;rw[Array.getElem?_eq_getElem (by rw[Array.size_modify];exact aB),Array.getElem_modify_self,hk];rfl
end
end
section
open Go.RowKit Go.LF
theorem H5:∀(css:List (List Value)),(∀ cs∈css,cs.length=2)->css.flatten.length=css.length * 2/\∀ i(h:i<css.length)m v,css[i][m]? =some v->css.flatten[i * 2+m]? =some v
  | [],_=>⟨rfl,fun i h=>by simp at h⟩
  |c :: css,hl=>by
   obtain⟨h1,h2⟩:=H5 css (fun cs hc=>hl cs (by simp[hc]));have hc:=hl c (by simp);refine⟨by simp[h1,hc];omega,fun i h m v hv=>?_⟩;cases i with
   |zero=>
    simp only[List.getElem_cons_zero]at hv;have hm:m<c.length:=(List.getElem?_eq_some_iff.1 hv).1;simp only[List.flatten_cons,Nat.zero_mul,Nat.zero_add];rw[List.getElem?_append_left hm];exact hv
   |succ i=>
    simp only[List.getElem_cons_succ]at hv;simp only[List.flatten_cons];rw[List.getElem?_append_right (by rw[hc,Nat.add_mul];omega),hc,show(i+1) * 2+m - 2=i * 2+m by omega];exact h2 i (by simpa using h) m v hv
def oe(base:Nat)(W:World)(v:Value)(ts:List Sm)(css:List (List Value)):Prop:=
  css.length=ts.length/\(∀ cs∈css,cs.length=2)/\W.ownsRow base 115 2 v ts.length css.flatten/\
    ∀ i(h:i<ts.length)(h':i<css.length),aw (fun b=>b<base\/v.ownBlock=some b) W ts[i].az css[i]
theorem oe.nil(base:Nat)(W:World):oe base W (.slice none 0 0) [] []:=⟨rfl,by simp,World.ownsRow_nil _ _ _ _,fun i h=>by simp at h⟩
theorem oe.ag{base:Nat}{W W':World}{v:Value}{ts:List Sm}{css:List (List Value)}{S:Nat->Prop}(h:oe base W v ts css)(hU:af S W W')(hS:∀ b,S b->b<base):oe base W' v ts css:=by
  obtain⟨h1,h2,h3,h4⟩:=h;refine⟨h1,h2,⟨h3.1,?_⟩,fun i h h'=>aw.ag hU (fun b hb=>.inl (hS b hb)) _ _ (h4 i h h')⟩;rcases h3.2 with h5 |⟨g,cap,cur,rfl,hb,hg,rest⟩
  ·exact .inl h5
  exact .inr ⟨g,cap,cur,rfl,hb,(hU.block g (Array.getElem?_eq_some_iff.1 hg).1 (fun e=>by have:=hS g e;omega)).trans hg,rest⟩
theorem oe.on{base:Nat}{W W':World}{v:Value}{ts:List Sm}{css:List (List Value)}(h:oe base W v ts css)(hU:af ae W W'):oe base W' v ts css:=h.ag hU (fun _ x=>x.elim)
theorem oe.rep{base:Nat}{W:World}{v:Value}{ts:List Sm}{css:List (List Value)}(h:oe base W v ts css):∃ a cap,v=.slice a ts.length cap/\ts.length<=cap/\ai (fun b=>b<base) W 2 (ts.map Sm.az) a 0:=by
  obtain⟨h1,h2,h3,h4⟩:=h;rcases h3.2 with⟨rfl,h0⟩|⟨g,cap,cur,rfl,hb,hg,kz,_⟩
  ·obtain rfl:ts=[]:=List.eq_nil_of_length_eq_zero h0;exact⟨none,0,rfl,Nat.le_refl _,by simp only[List.map_nil,ai]⟩
  refine⟨_,cap,rfl,kz,bT _ _ _ (fun i hi=>?_)⟩;simp only[List.length_map]at hi;have dZ:i<css.length:=by omega
  refine⟨g,0,css[i],rfl,(Array.getElem?_eq_some_iff.1 hg).1,by omega,h2 _ (List.getElem_mem dZ),fun m u hu=>?_,?_⟩
  ·have:=h3.cells (g:=g) rfl _ u ((H5 css h2).2 i dZ m u hu);have gF:(⟨g,0,none⟩:Addr).add (i * 2+m)=⟨g,i * 2+m,none⟩:=by unfold Addr.add;split<;>simp_all
   rw[gF]at this;rw[show 0+0+i * 2+m=i * 2+m by omega];exact this
  simp only[List.getElem_map];exact aw.weaken (fun b _ e=>.inl e) _ _ (h4 i hi dZ)
theorem oe.appended{base:Nat}{W w':World}{v:Value}{ts:List Sm}{css:List (List Value)}{t:Sm}{cs:List Value}{g cap H:Nat}(h:oe base W v ts css)(pj:cs.length=2)
    (hr:aw (fun b=>b<base\/v.ownBlock=some b) W t.az cs) (bq:w'.ownsRow base 115 2 (.slice (some ⟨g,0,none⟩) (ts.length+1) cap) (ts.length+1) (css.flatten++cs)) (hg:W.grownBy w' v.ownBlock)
    (ft:v.ownBlock=some g\/g=H) (hH:W.heap.size<=H):oe base w' (.slice (some ⟨g,0,none⟩) (ts.length+1) cap) (ts++[t]) (css++[cs]):=by
  obtain⟨h1,h2,h3,h4⟩:=h
  have pa:nO (fun b=>(b<base\/v.ownBlock=some b)\/W.heap.size<=b) W w':=by
    refine⟨hg.size,fun b o u hb hu=>hg.cell hu (fun e=>hb (.inl (.inr ?_)))⟩;exact e.symm
  have key:∀(d:fB)(cs:List Value),aw (fun b=>b<base\/v.ownBlock=some b) W d cs->aw (fun b=>b<base\/(Value.slice (some ⟨g,0,none⟩) (ts.length+1) cap).ownBlock=some b) w' d cs:=by
    intro d cs h;refine aw.weaken (fun b _ e=>?_) _ _ (aw.carry pa _ _ (aw.fR h));rcases e with e |e
    ·exact .inl (.inl e)
    simp only[Value.ownBlock,Option.some.injEq]at e;subst e;rcases ft with ft |rfl
    ·exact .inl (.inr ft)
    exact .inr hH
  refine⟨by simp[h1],?_,by simpa using bq,fun i hi dZ=>?_⟩
  ·intro c hc;rcases List.mem_append.1 hc with hc |hc
   ·exact h2 c hc
   obtain rfl:c=cs:=by simpa using hc
   exact pj
  by_cases aB:i<ts.length
  ·have kZ:i<css.length:=by omega
   rw[List.getElem_append_left aB,List.getElem_append_left kZ];exact key _ _ (h4 i aB kZ)
  have e1:i=ts.length:=by simp at hi;omega
  subst e1;rw[List.getElem_append_right (Nat.le_refl _),List.getElem_append_right (by omega)];simp only[h1,Nat.sub_self,List.getElem_cons_zero];exact key _ _ hr
theorem bK.row{W W':World}{g base:Nat}{c0 c1:Value}{T:TypeId}{v:Value}{ts:List Sm}{css:List (List Value)}(h:bK W g c0 c1 T)(hg:W.grownBy W' v.ownBlock)(ht:oe base W v ts css)(hb:g<base):bK W' g c0 c1 T:=
  (hg.block g h.lt (fun e=>by have:=(ht.2.2.1.lt g e.symm).1;omega)).trans h
theorem bK.set{W:World}{b:Nat}{c0 c1 d0 d1:Value}{T:TypeId}(h:bK W b c0 c1 T):
    bK ((W.setCell ⟨b,0,none⟩ d0).setCell ⟨b,1,none⟩ d1) b d0 d1 T/\af (fun x=>x=b) W ((W.setCell ⟨b,0,none⟩ d0).setCell ⟨b,1,none⟩ d1):=
  ⟨(h.ui _).mu _,af.set (af.set (af.refl _ W) 0 _) 1 _⟩
theorem tp:(Tryz.prog.info? 115).map (fun i=>(i.zero,i.size,i.bytes))=some (some (.agg #[.string (B []),.slice none 0 0]),2,40):=by kernel_rfl
end
section
open Go.RowKit Go.LF
theorem Gc{O:Nat->Prop}{W:World}{ts:List Sm}(h:ai O W 2 (ts.map Sm.az) none 0):ts=[]:=by
  cases ts with
  |nil=>rfl
  |cons t ts=>simp only[List.map_cons,ai]at h;obtain⟨⟨_,_,_,e,_⟩,_⟩:=h;cases e
theorem wR{O:Nat->Prop}{W:World}:∀(ts:List Sm)(a:Option Addr)(j:Nat),ai O W 2 (ts.map Sm.az) a j->
    ∃ css:List (List Value),css.length=ts.length/\(∀ cs∈css,cs.length=2)/\(∀ u∈css.flatten,u.oneCell'=true)/\(∀ i u,css.flatten[i]? =some u->∃ b o,a=some ⟨b,o,none⟩/\W.cell? ⟨b,o+j+i,none⟩=some u)/\
      ∀ i(h:i<ts.length)(h':i<css.length),aw O W ts[i].az css[i]
  | [],_,_,_=>⟨[],rfl,by simp,by simp,by simp,fun i h=>by simp at h⟩
  |t :: ts,a,j,h=>by
   simp only[List.map_cons,ai]at h;obtain⟨⟨b,o,cs,rfl,hb,hO,hl,hc,hr⟩,DA⟩:=h;obtain⟨css,h1,h2,h3,h4,h5⟩:=wR ts _ (j+2) DA;obtain⟨f,l,a',aS,ht,pj,_⟩:=oC hr;refine⟨cs :: css,by simp[h1],?_,?_,?_,?_⟩
   ·intro x hx;rcases List.mem_cons.1 hx with rfl |hx
    ·exact hl
    exact h2 x hx
   ·intro u hu;rw[List.flatten_cons,List.mem_append]at hu;rcases hu with hu |hu
    ·rw[pj]at hu;simp only[List.mem_cons,List.not_mem_nil,or_false]at hu;rcases hu with rfl |rfl<;>rfl
    exact h3 u hu
   ·intro m u hu;rw[List.flatten_cons]at hu;by_cases hm:m<cs.length
    ·rw[List.getElem?_append_left hm]at hu;exact⟨b,o,rfl,hc m u hu⟩
    rw[List.getElem?_append_right (by omega)]at hu;obtain⟨b',o',e,AX⟩:=h4 _ u hu;cases e
    refine⟨b,o,rfl,?_⟩;rw[show o+j+m=o+(j+2)+(m - cs.length) by omega];exact AX
   intro m hm Io;cases m with
   |zero=>exact hr
   |succ m=>exact h5 m (by simpa using hm) (by simpa using Io)
def mI(O:Nat->Prop)(base:Nat)(W:World)(v:Value)(ts:List Sm)(css:List (List Value)):Prop:=
  css.length=ts.length/\(∀ cs∈css,cs.length=2)/\W.ownsRow base 115 2 v ts.length css.flatten/\∀ i(h:i<ts.length)(h':i<css.length),aw (fun b=>O b\/base<=b) W ts[i].az css[i]
theorem mI.cells{O:Nat->Prop}{base:Nat}{W:World}{v:Value}{ts:List Sm}{css:List (List Value)}(h:mI O base W v ts css):∃ a cap,v=.slice a ts.length cap/\ts.length<=cap/\
    ∀ i(hi:i<ts.length)(dZ:i<css.length),∃ g,a=some ⟨g,0,none⟩/\v.ownBlock=some g/\base<=g/\g<W.heap.size/\(∀ o,W.frozen? ⟨g,o,none⟩=false)/\∀ m u,css[i][m]? =some u->W.cell? ⟨g,i * 2+m,none⟩=some u:=by
  obtain⟨h1,h2,h3,h4⟩:=h;rcases h3.2 with⟨rfl,h0⟩|⟨g,cap,cur,rfl,hb,hg,kz,_⟩
  ·exact⟨none,0,by rw[h0],by omega,fun i hi=>by omega⟩
  refine⟨_,cap,rfl,kz,fun i hi dZ=>⟨g,rfl,rfl,hb,(Array.getElem?_eq_some_iff.1 hg).1,fun o=>by simp[World.frozen?,hg],fun m u hu=>?_⟩⟩;have:=h3.cells (g:=g) rfl _ u ((H5 css h2).2 i dZ m u hu);have gF:(⟨g,0,none⟩:Addr).add (i * 2+m)=⟨g,i * 2+m,none⟩:=by unfold Addr.add;split<;>simp_all
  rwa [gF]at this
theorem mI.rep{O:Nat->Prop}{base:Nat}{W:World}{v:Value}{ts:List Sm}{css:List (List Value)}(h:mI O base W v ts css):∃ a cap,v=.slice a ts.length cap/\ts.length<=cap/\ai (fun b=>(O b/\b<base)\/(base<=b/\v.ownBlock≠some b)) W 2 (ts.map Sm.az) a 0:=by
  obtain⟨a,cap,hv,aX,hc⟩:=h.cells;refine⟨a,cap,hv,aX,bT _ _ _ (fun i hi=>?_)⟩;simp only[List.length_map]at hi;have dZ:i<css.length:=by have:=h.1;omega
  obtain⟨g,rfl,bq,hb,aB,_,hg⟩:=hc i hi dZ;refine⟨g,0,css[i],rfl,aB,fun x=>x.elim (fun y=>by omega) (fun y=>y.2 bq),h.2.1 _ (List.getElem_mem dZ),fun m u hu=>?_,?_⟩
  ·rw[show 0+0+i * 2+m=i * 2+m by omega];exact hg m u hu
  simp only[List.getElem_map];exact aw.weaken (fun _ _ x=>x.elim (fun y=>.inl y.1) (fun y=>.inr y.1)) _ _ (h.2.2.2 i hi dZ)
theorem uV{w:World}{O:Nat->Prop}{base:Nat}{v:Value}{ts:List Sm}{css:List (List Value)}(hS:mI O base w v ts css)(A:Option Addr)(m c:Nat)(us:List Sm)(hm:m=us.length)
    (hE:ai (fun b=>O b\/base<=b) w 2 (us.map Sm.az) A 0) (hl:ts.length+us.length<=900000) (dh:base<=w.heap.size) (ty:TypeId):
    ∃ v' w' fY,(Builtin.append_ #[113,113] ty #[v,.slice A m c]).run Tryz.prog w=.ok v' w'/\mI O base w' v' (ts++us) fY/\w.grownBy w' v.ownBlock/\(v'.ownBlock=v.ownBlock\/v'.ownBlock=some w.heap.size):=by
  obtain⟨i0,hi,fS,gn,eH⟩:=info_parts tp;obtain⟨iY,r1,r2,r3,r4,r5⟩:=wR us A 0 hE;have iw:=(H5 iY r2).1;rw[r1,<-hm]at iw
  have fin:∀(v':Value)(w':World),w'.ownsRow base 115 2 v' (ts.length+m) (css.flatten++iY.flatten)->w.grownBy w' v.ownBlock->mI O base w' v' (ts++us) (css++iY):=by
    intro v' w' bq hg;obtain⟨h1,h2,h3,h4⟩:=hS;have pa:nO (fun b=>O b\/base<=b) w w':=⟨hg.size,fun b o u hb hu=>hg.cell hu (fun e=>hb (.inr (h3.lt b e.symm).1))⟩;refine⟨by simp[h1,r1],?_,by simpa[hm]using bq,fun i hi dZ=>?_⟩
    ·intro x hx;rcases List.mem_append.1 hx with hx |hx
     ·exact h2 x hx
     exact r2 x hx
    by_cases aB:i<ts.length
    ·rw[List.getElem_append_left aB,List.getElem_append_left (by omega)];exact aw.carry pa _ _ (h4 i aB (by omega))
    have eH:i - ts.length<us.length:=by simp at hi;omega
    rw[List.getElem_append_right (by omega),List.getElem_append_right (by omega)];simp only[h1];exact aw.carry pa _ _ (r5 _ eH (by omega))
  rcases A with _ |ad
  ·obtain rfl:=Gc hE;have pf:m=0:=by simpa using hm
   subst pf;obtain rfl:iY=[]:=by simpa using r1
   refine⟨v,w,css,?_,by simpa using hS,World.grownBy.refl w _,.inl rfl⟩;have hu:Tryz.prog.underlying 113=some (.slice 115):=by kernel_rfl
   rcases hS.2.2.1.2 with⟨rfl,_⟩|⟨g,cap,cur,rfl,_,_,kz,_⟩
   ·simp[Builtin.append_,run_underlying hu,sizeOf,typeInfo,hi,Builtin.lenOf,Builtin.firstCells]
   simp[Builtin.append_,run_underlying hu,sizeOf,typeInfo,hi,Builtin.lenOf,Builtin.firstCells,kz,storeCells]
  have pT:∀ j u,iY.flatten[j]? =some u->w.cell? (ad.add j)=some u:=by
    intro j u hu;obtain⟨b',o',e,hc⟩:=r4 j u hu;cases e
    have gF:(⟨b',o',none⟩:Addr).add j=⟨b',o'+j,none⟩:=by unfold Addr.add;split<;>simp_all
    rw[gF];simpa using hc
  obtain⟨v',w',mg,h2,h3,_,h5⟩:=run_append_own_at (P:=Tryz.prog) w base 113 ty 115 i0 (.agg #[.string (B []),.slice none 0 0]) 2 40 (by kernel_rfl) hi fS gn eH rfl (by decide) v ts.length css.flatten hS.2.2.1 ad m c iY.flatten iw pT r3 (by simp only[maxLen];omega) (by omega) dh;exact⟨v',w',_,mg,fin v' w' h2 h3,h3,h5⟩
theorem tS{w:World}{ops:Array Oper}{o:Oper}{a:Act}{K:Act->World->Prop}{Q:Exit->Act->World->Prop}{E:Prop}(ve:o.guard=none)(s x:Operand)
    (ho:o.op=.call { callee:=.builtin .append,args:=#[s,x],argTypes:=#[113,113] }){O:Nat->Prop}{base:Nat}{v:Value}{ts:List Sm}{css:List (List Value)} (hs:a.eval s=v) (hS:mI O base w v ts css)
    (A:Option Addr) (m c:Nat) (us:List Sm) (hx:a.eval x=.slice A m c) (hm:m=us.length) (hE:ai (fun b=>O b\/base<=b) w 2 (us.map Sm.az) A 0) (hl:ts.length+us.length<=900000) (dh:base<=w.heap.size)
    (h:∀ v' w' fY,mI O base w' v' (ts++us) fY->w.grownBy w' v.ownBlock->(v'.ownBlock=v.ownBlock\/v'.ownBlock=some w.heap.size)->K (a.put o.dst v') w'):
    if Region.wanted o (yielded ops a.tmps)=true then Oper.wp Tryz.prog o a w K Q else E:=by
  have hw:Region.wanted o (yielded ops a.tmps)=true:=by simp[Region.wanted,ve]
  rw[if_pos hw];obtain⟨v',w',fY,mg,h1,h2,h3⟩:=uV hS A m c us hm hE hl dh o.type;unfold Oper.wp execOp;simp only[ho,resolve,invoke,builtin,Sem.run_bind,Sem.run_pure,Result.andThen_ok,List.map_toArray,List.map_cons,List.map_nil,hs,hx,mg];exact h v' w' fY h1 h2 h3
theorem mI.one{O:Nat->Prop}{W:World}{t:Sm}{f:List UInt8}{a:Option Addr}{len cap:Nat}(hR:aw O W t.az [.string (B f),.slice a len cap]):
    mI O W.heap.size (W.alloc (.cells #[.string (B f),.slice a len cap] 115)) (.slice (some ⟨W.heap.size,0,none⟩) 1 1) [t] [[.string (B f),.slice a len cap]]:=by
  refine⟨rfl,by simp,⟨by simp,.inr ⟨_,_,_,rfl,Nat.le_refl _,heap_alloc_new W _,Nat.le_refl _,by simp only[maxLen];omega,by simp,by simp⟩⟩,fun i h h'=>?_⟩;obtain rfl:i=0:=by simpa using h
  exact(aw.aG _ _ hR).on ((af.refl ae W).alloc _)
end
end Go.Proofs.YthgmimncdjhgnaaGreatDoor
