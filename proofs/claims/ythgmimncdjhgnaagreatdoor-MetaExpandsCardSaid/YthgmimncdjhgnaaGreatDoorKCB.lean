/- The iterator over the nodes of a term. -/
import Derived.Test.YthgmimncdjhgnaaGreatDoorKCA
import Derived.Test.YthgmimncdjhgnaaGreatDoorRows
import Derived.Laws.EntriesVeiled
import Derived.Laws.Externs
import Derived.Laws.StandIn
import Derived.Lib.Bytealg
import Derived.LoopIn
import Derived.LoopNIn
import Derived.OwnWalkIn
import Derived.RangeFuncBound
import Derived.RangeFuncCalls
import Derived.RangeFuncFrom
import Derived.RangeFuncLeaves
import Derived.RangeFuncNested
import Derived.Shelf.Abstract
import Derived.Shelf.RegionOpen
import Derived.TacticsInMore
import Derived.WalkKit
set_option maxRecDepth 100000
set_option maxHeartbeats 2000000
namespace Go.Proofs.YthgmimncdjhgnaaGreatDoor
section
open Go.RowKit Go.LF Go.Shelf
attribute [local go_sem] Oper.semAt_some
structure Nd where
  b:Int
  k:Int
  n:List UInt8
  i:Int
  a:Option Addr
  len:Nat
  cap:Nat
def Nd.bare(x:Nd):Tm.Nd0:=⟨x.b,x.k,x.n,x.i⟩
def Nd.enc(x:Nd):Array Value:=#[.int .i64 x.b,.agg #[.int .i64 x.k,.string (B x.n),.int .i64 x.i,.slice x.a x.len x.cap]]
theorem zCN{F:Fence}(hd:F.depth=none)(k:Nat):F.room k:=fun d h=>by rw[hd]at h;cases h
theorem RoundIn.zAb{F:Fence}(hd:F.depth=none){m m':Nat}{P:Program}{l:Nat}{f:FuncId}{tmps:Array Value}{assign body:Code}{w:World}{R:Ending->World->Prop}
    (h:RoundIn F m P l f tmps assign body w R):RoundIn F m' P l f tmps assign body w R:=⟨h.1,fun c cs _=>h.2 c cs (zCN hd _)⟩
theorem YieldAt.zAb{F:Fence}(hd:F.depth=none){m:Nat}(m':Nat){P:Program}{l:Nat}{args:Array Value}{W:World}{R:Ending->World->Prop}(h:YieldAt F m P l args W R):YieldAt F m' P l args W R:=by
  obtain⟨fn,tmps,assign,body,hy,hR⟩:=h
  exact⟨fn,tmps,assign,body,hy,RoundIn.zAb hd hR⟩
theorem zEG{b k i u:Int}{nm:List UInt8}{ts:List Tm}{j:Nat}{t:Tm}{xs ys:List Nd}(hx:xs.map Nd.bare=(⟨b,k,nm,i⟩:Tm.Nd0) :: Tm.za b k 0 (ts.take j))
    (ht:Tm.za b k 0 (ts.take (j+1))=Tm.za b k 0 (ts.take j)++Tm.nodes (b+u) t) (hy:ys.map Nd.bare <+: Tm.nodes (b+u) t):
    (xs++ys).map Nd.bare <+: Tm.nodes b (Tm.mk k nm i ts):=by
  rw[List.map_append,hx,Tm.zg,List.cons_append]
  refine List.cons_prefix_cons.2 ⟨rfl,?_⟩
  refine List.IsPrefix.trans ?_ (Tm.xH ts b k (j+1))
  rw[ht]
  exact(List.prefix_append_right_inj _).2 hy
def qg(T:TypeId):Prop:=T=29\/T=183\/T=80
theorem zBW(l:Nat)(O:World->Nat->Prop)(Y K:Nat)(N:Nat)(J Jx:List Nd->World->Prop)(H0:Nat)(FO:Y9 O H0 qg)
    (hJ:∀ pre W o,J pre W->J pre (W.alloc o))
    (hY:∀ m pre x W,J pre W->pre.length<N->YieldAt Fence.wide m Tryz.prog l (Nd.enc x) W fun e W'=>
      (e=.returned (.bool true)/\J (pre++[x]) W'/\yf O W W')\/(e=.returned (.bool false)/\Jx (pre++[x]) W'))
    (t:Tm):t.size<=1000000->∀(n:Nat)(b:Int)(pre:List Nd)(W:World)(cs:List Value),0<=b->b+t.size<=10000000->H0<=W.heap.size->zM (O W) W t.zN cs->J pre W->pre.length+t.size<=N->
      At O W Y 0 (.func (.yield l) #[] #[])->At O W K 0 (.func (.func 174) #[] #[.pointer (some ⟨Y,0,none⟩),.pointer (some ⟨K,0,none⟩)])->
      CallsIn Fence.wide n Tryz.prog 174 #[.agg cs.toArray,.int .i64 b,.pointer (some ⟨Y,0,none⟩),.pointer (some ⟨K,0,none⟩)] W fun e W'=>
        (e=.returned (.bool true)/\∃ xs:List Nd,xs.map Nd.bare=t.nodes b/\J (pre++xs) W'/\yf O W W')\/
        (e=.returned (.bool false)/\∃ xs:List Nd,xs.map Nd.bare <+: t.nodes b/\Jx (pre++xs) W'):=by
  induction t using Tm.ind with
  |h k nm i ts ih=>
   intro hs n b pre W cs hb0 hb1 hH h hJ0 hN hyA hkA
   obtain⟨a,cap,rfl,hcap,hE⟩:=zk.1 h
   have hlen:=Tm.zO ts
   simp only[Tm.zS]at hs hb1 hN
   obtain⟨x,hx⟩:∃ x:Nd,x=⟨b,k,nm,i,a,ts.length,cap⟩:=⟨_,rfl⟩
   have hy1:=hY (n - 1) pre x (W.alloc (.cells #[.int .i64 k,.string (B nm),.int .i64 i,.slice a ts.length cap] 29)) (hJ _ _ _ hJ0) (by omega)
   rw[hx]at hy1
   simp only[Nd.enc]at hy1
   have hyc:=hyA.2
   have hkc:=hkA.2
   have hyb:Y<W.heap.size:=World.block_lt_of_cell? W _ hyc
   have hkb:K<W.heap.size:=World.block_lt_of_cell? W _ hkc
   obtain⟨fn,tmps,assign,body,hy,hR⟩:=hy1
   refine callsIn_of_wp Tryz.func174 rfl trivial ?_ rfl
   simp only[Tryz.ntmps174,List.size_toArray,List.length_cons,List.length_nil,Nat.reduceAdd,Nat.reduceSub,Array.replicate_succ,Array.replicate_zero,List.push_toArray,List.append_toArray,List.nil_append,List.cons_append]
   gi_wp2
   refine⟨fun h=>(by cases h),?_⟩
   refine hR.mono ?_
   rintro e W1 (⟨rfl,hJ1,hc1⟩|⟨rfl,hJx1⟩)
   case inr=>
     gi_wp2
     go_ret
     exact .inr ⟨rfl,[⟨b,k,nm,i,a,ts.length,cap⟩],by rw[Tm.zg];exact⟨_,rfl⟩,hJx1⟩
   clear hR hy
   obtain⟨b0A,b1A,b2A,b3A⟩:=FO.qe (.inl rfl) hH hc1
   have b0:=b0A.2
   have b1:=b1A.2
   have b2:=b2A.2
   have b3:=b3A.2
   have hC1:yf O W W1:=(yf.Zn FO W _).trans hc1
   have hE1:=hE.zKm hC1
   have hy1:=hC1.at hyA
   have hk1:=hC1.at hkA
   gi_wp2
   gi_loopw [18] (fun v wr=>∃(j:Nat)(xs:List Nd),j<=ts.length/\v=.int .i64 j/\xs.map Nd.bare=(⟨b,k,nm,i⟩:Tm.Nd0) :: Tm.za b k 0 (ts.take j)/\J (pre++xs) wr/\yf O W1 wr)
     (fun v _=>ts.length - (intOf v).toNat)
   case atStart=>exact⟨0,[⟨b,k,nm,i,a,ts.length,cap⟩],Nat.zero_le _,rfl,rfl,hJ1,yf.refl _ _⟩
   case round=>
     obtain⟨j,xs,hj,rfl,hxs,hJr,hCr⟩:=hrel
     have HX:=zH hxs
     clear hxs
     obtain⟨e0,e1,e2,e3⟩:=(⟨(hCr.at b0A).2,(hCr.at b1A).2,(hCr.at b2A).2,(hCr.at b3A).2⟩:_/\_/\_/\_)
     have hyrA:=hCr.at hy1
     have hkrA:=hCr.at hk1
     have hyr:=hyrA.2
     have hkr:=hkrA.2
     have q0:=World.block_lt_of_cell? wr _ e0
     have q1:=World.block_lt_of_cell? wr _ hyr
     have q2:=World.block_lt_of_cell? wr _ hkr
     simp only at q0 q1 q2
     by_cases hlt:j<ts.length
     ·obtain⟨bb,oo,k1,n1,x1,s1,c1,rfl,hbb,hOb,hc0,hc1,hc2,hc3,hR⟩:=zd (hE1.zKm hCr) j hlt
      have hs1:=Tm.zR (List.getElem_mem hlt)
      have hun:=Tm.ym k j
      have hxl:xs.length=1+Tm.zP (ts.take j):=by
        have:=congrArg List.length HX.out
        simp only[List.length_map,List.length_cons]at this
        rw[Tm.Xt _ _ _ _ (fun t _ b=>Tm.ZL t b)]at this
        omega
      have hsz:=Tm.zl ts j hlt
      have hsz2:=Tm.zp ts (j+1)
      have HL:=zH (⟨hxl,hsz,hsz2⟩:_/\_/\_)
      clear hxl hsz hsz2
      have key:=ih _ (List.getElem_mem hlt) (by omega) (n - 1) (b+Tm.under k j) (pre++xs) (wr.alloc (.cells #[.int .i64 k1,.string (B n1),.int .i64 x1,.slice s1 ts[j].args.length c1] 29)) _ (by omega) (by omega)
        (by have:=hC1.1;have:=hCr.1;simp;omega) (zM.ZQ (yf.Zn FO wr _) _ _ hR) (hJ _ _ _ hJr) (by have:=HL.out;simp only[List.length_append];omega)
        ((yf.Zn FO wr _).at hyrA) ((yf.Zn FO wr _).at hkrA)
      have hT:=Tm.ZP ts b k j hlt
      have HT:=zH hT
      clear hT
      have rest:=YV k j
      generalize hu:Tm.under k j=u at *
      clear hun
      rcases rest with⟨k3,rfl⟩|⟨k3,k2,j1,rfl⟩|⟨k3,k2,j1,rfl⟩|⟨k3,k2,rfl⟩
      all_goals
        have HU:=zH hu
        clear hu
        try simp only[Int.add_zero]at key
        gi_wp2_with fail
        refine⟨trivial,fun h=>(by cases h),?_⟩
        refine key.mono ?_
        rintro e W2 (⟨rfl,ys,hys,hJ2,hC2⟩|⟨rfl,ys,hys,hJx2⟩)
      all_goals
        have HY:=zH hys
        clear hys
        gi_wp2
      all_goals first
        |exact⟨⟨j+1,xs++ys,by omega,by go_num,by rw[List.map_append,HX.out,HY.out,HT.out];simp,by rw[<-List.append_assoc];exact hJ2,hCr.trans ((yf.Zn FO wr _).trans hC2)⟩,by simp[intOf];omega⟩
        |(go_ret;exact .inr ⟨rfl,xs++ys,zEG HX.out HT.out (by simpa using HY.out),by rw[<-List.append_assoc];exact hJx2⟩)
     ·have hj':ts.take j=ts:=List.take_of_length_le (by omega)
      have HX':=HX.out
      rw[hj']at HX'
      clear HX hj'
      have HX:=zH HX'
      clear HX'
      gi_wp2
      go_ret
      exact .inl ⟨rfl,xs,by rw[HX.out,Tm.zg],hJr,hC1.trans hCr⟩
end
section
open Go.RowKit Go.LF Go.Shelf
attribute [local go_sem] Oper.semAt_some
theorem zGP(n:Nat)(l:Nat)(O:World->Nat->Prop)(T0:Nat)(J Jx:List Nd->World->Prop)(H0:Nat)(FO:Y9 O H0 qg)
    (t:Tm) (hs:t.size<=1000000)
    (hJ:∀ pre W o,J pre W->J pre (W.alloc o))
    (hY:∀ m pre x W,J pre W->pre.length<t.size->YieldAt Fence.wide m Tryz.prog l (Nd.enc x) W fun e W'=>
      (e=.returned (.bool true)/\J (pre++[x]) W'/\yf O W W')\/(e=.returned (.bool false)/\Jx (pre++[x]) W'))
    (W:World) (hH:H0<=W.heap.size) (k:Int) (nm:List UInt8) (i:Int) (a:Option Addr) (len cap:Nat)
    (h:zM (O W) W t.zN [.int .i64 k,.string (B nm),.int .i64 i,.slice a len cap])
    (c0:W.cell? ⟨T0,0,none⟩=some (.int .i64 k)) (c1:W.cell? ⟨T0,1,none⟩=some (.string (B nm))) (c2:W.cell? ⟨T0,2,none⟩=some (.int .i64 i)) (c3:W.cell? ⟨T0,3,none⟩=some (.slice a len cap))
    (h0:J [] W):
    CallsIn Fence.wide n Tryz.prog 173 #[.func (.yield l) #[] #[],.pointer (some ⟨T0,0,none⟩)] W fun e W'=>(∃ v,e=.returned v)/\
      ((∃ xs:List Nd,xs.map Nd.bare=t.nodes 0/\J xs W')\/(∃ xs:List Nd,xs.map Nd.bare <+: t.nodes 0/\Jx xs W')):=by
  have hb:=World.block_lt_of_cell? W _ c0
  simp only at hb
  refine callsIn_of_wp Tryz.func173 rfl trivial ?_ rfl
  simp only[Tryz.ntmps173,List.size_toArray,List.length_cons,List.length_nil,Nat.reduceAdd,Nat.reduceSub,Array.replicate_succ,Array.replicate_zero,List.push_toArray,List.append_toArray,List.nil_append,List.cons_append]
  gi_wp2_with fail
  refine⟨trivial,fun h=>(by cases h),?_⟩
  obtain⟨W2,hW2⟩:∃ W2,W2=(W.alloc (.cells #[.func (.yield l) #[] #[]] 183)).alloc (.cells #[.func (.func 174) #[] #[.pointer (some ⟨W.heap.size,0,none⟩),.pointer (some ⟨W.heap.size+1,0,none⟩)]] 80):=⟨_,rfl⟩
  have hC:yf O W W2:=by rw[hW2];exact(yf.Zn FO _ _).trans (yf.Zn FO _ _)
  have hJ2:J [] W2:=by rw[hW2];exact hJ _ _ _ (hJ _ _ _ h0)
  have hyc:At O W2 W.heap.size 0 (.func (.yield l) #[] #[]):=by
    have h1:At O (W.alloc (.cells #[.func (.yield l) #[] #[]] 183)) W.heap.size 0 (.func (.yield l) #[] #[]):=⟨FO.new W _ _ (.inr (.inl rfl)) hH,by rw[World.cell?_alloc_new];rfl⟩
    rw[hW2]
    exact(yf.Zn FO _ _).at h1
  have hkc:At O W2 (W.heap.size+1) 0 (.func (.func 174) #[] #[.pointer (some ⟨W.heap.size,0,none⟩),.pointer (some ⟨W.heap.size+1,0,none⟩)]):=by
    have:=World.cell?_alloc_new (W.alloc (.cells #[.func (.yield l) #[] #[]] 183)) #[.func (.func 174) #[] #[.pointer (some ⟨W.heap.size,0,none⟩),.pointer (some ⟨W.heap.size+1,0,none⟩)]] 80 0
    have h2:=FO.new (W.alloc (.cells #[.func (.yield l) #[] #[]] 183)) #[.func (.func 174) #[] #[.pointer (some ⟨W.heap.size,0,none⟩),.pointer (some ⟨W.heap.size+1,0,none⟩)]] 80 (.inr (.inr rfl)) (by simp;omega)
    rw[World.size_alloc]at this h2
    rw[hW2]
    exact⟨h2,by rw[this];rfl⟩
  have key:=zBW l O W.heap.size (W.heap.size+1) t.size J Jx H0 FO hJ hY t hs (n - 1) 0 [] W2 _ (by omega) (by omega) (by have:=hC.1;omega) (zM.ZQ hC _ _ h) hJ2 (by simp) hyc hkc
  rw[hW2]at key
  refine key.mono ?_
  clear key
  rintro e W3 (⟨rfl,xs,hxs,hJ3,_⟩|⟨rfl,xs,hxs,hJx3⟩)
  ·gi_wp2
   go_end0
   exact⟨⟨_,rfl⟩,.inl ⟨xs,hxs,by simpa using hJ3⟩⟩
  ·gi_wp2
   go_end0
   exact⟨⟨_,rfl⟩,.inr ⟨xs,hxs,by simpa using hJx3⟩⟩
theorem XF(n:Nat)(O:World->Nat->Prop)(T0:Nat)(H0:Nat)(FO:Y9 O H0 qg)
    (hOB:∀ W W' b,b<W.heap.size->W'.heap[b]? =W.heap[b]?->¬O W b->¬O W' b)
    (t:Tm) (hs:t.size<=1000000) (w:World) (hH:H0<=w.heap.size) (k:Int) (nm:List UInt8) (i:Int) (a:Option Addr) (len cap:Nat)
    (h:zM (O w) w t.zN [.int .i64 k,.string (B nm),.int .i64 i,.slice a len cap])
    (c0:w.cell? ⟨T0,0,none⟩=some (.int .i64 k)) (c1:w.cell? ⟨T0,1,none⟩=some (.string (B nm))) (c2:w.cell? ⟨T0,2,none⟩=some (.int .i64 i)) (c3:w.cell? ⟨T0,3,none⟩=some (.slice a len cap)):
    SeqStopsK Fence.wide n Tryz.prog 173 #[.pointer (some ⟨T0,0,none⟩)] Nd.enc (yf O) (fun xs=>xs.map Nd.bare=t.nodes 0) (fun xs=>xs.map Nd.bare <+: t.nodes 0) t.size w:=by
  intro l J Jx W hW hJ hJx hY h0
  have hC0:Y0 zC w W:=(zD.Y6 (S:=zC) hW).cel (fun _ x=>x.elim)
  have hC:yf O w W:=⟨hC0.1,fun b hb hn=>⟨hOB w W b hb (hW.block b hb) hn,fun o v hv=>hC0.2 b o v (fun x=>x) hv⟩⟩
  exact zGP n l O T0 J Jx H0 FO t hs (fun pre W o hj=>hJ pre W _ none hj (World.grownBy_alloc W o none) (by simp))
    (fun m pre x W hj hl=>YieldAt.zAb rfl m (hY pre x W hj hl)) W (by have:=hC.1;omega) k nm i a len cap (zM.ZQ hC _ _ h) (hC0.cell (fun x=>x) c0) (hC0.cell (fun x=>x) c1) (hC0.cell (fun x=>x) c2) (hC0.cell (fun x=>x) c3) h0
theorem QJ(c0 c1 c2 c3:Value)(w:World):
    Calls Tryz.prog 133 #[.agg #[c0,c1,c2,c3]] w fun e w'=>e=.returned (.func (.func 173) #[] #[.pointer (some ⟨w.heap.size,0,none⟩)])/\w.alloc (.cells #[c0,c1,c2,c3] 29)=w':=by
  go_enter Tryz.func133,Tryz.ntmps133
  go_wp2
  go_ret
  exact⟨rfl,rfl⟩
end
section
open Go.RowKit Go.LF Go.Shelf
attribute [local go_sem] Oper.semAt_some
theorem zAG{O:Nat->Prop}(W:World)(l:Nat)(o o':Obj)(h:W.heap[l]? =some o)(hc:o.isCells=false):Y0 O W (W.putObj l o'):=by
  have hl:l<W.heap.size:=(Array.getElem?_eq_some_iff.1 h).1
  refine⟨by have:=(grownBy_putObj' W l o').size;exact this,?_⟩
  intro b off v _ hv
  have hne:b≠l:=by
    intro e
    subst e
    unfold World.cell? at hv
    rw[h]at hv
    cases o<;>simp[Obj.isCells]at hc hv
  exact(World.cell?_of_block (a:=⟨b,off,none⟩) (World.putObj_heap_other hne)).trans hv
theorem Xc(W:World)(v:Value)(t:TypeId):(W.alloc (.cells #[v] t)).cell? ⟨W.heap.size,0,none⟩=some v/\(W.alloc (.cells #[v] t)).frozen? ⟨W.heap.size,0,none⟩=false:=by
  constructor<;>simp
theorem yw{W:World}{a:Addr}{v:Value}(o:Obj)(h:W.cell? a=some v):(W.alloc o).cell? a=some v:=cell_kept h (World.grownBy_alloc W o none) (fun r e=>by cases e)
theorem Z7{W:World}{a:Addr}{v:Value}(o:Obj)(h:W.cell? a=some v)(hf:W.frozen? a=false):(W.alloc o).frozen? a=false:=(frozen_kept h (World.grownBy_alloc W o none) (fun r e=>by cases e)).trans hf
theorem Qq{O:Nat->Prop}(W:World)(p:Addr)(v:Value)(h:O p.block):Y0 O W (W.setCell p v):=by
  refine⟨by simp,?_⟩
  intro b off u hb hu
  rw[World.cell?_setCell_other]
  ·exact hu
  ·intro e
   rw[e]at h
   exact hb h
theorem zIo(t:Tm)(hs:t.size<=1000000)(w:World)(cs:List Value)(h:zM zC w t.zN cs):
    CallsIn Fence.wide 3 Tryz.prog 122 #[.agg cs.toArray] w fun e w'=>e=.returned (.int .i64 t.size)/\Below w.heap.size w w':=by
  obtain⟨k,nm,i,ts,rfl⟩:∃ k nm i ts,t=.mk k nm i ts:=by cases t;exact⟨_,_,_,_,rfl⟩
  obtain⟨a,cap,rfl,hcap,hE⟩:=zk.1 h
  generalize hT:Tm.mk k nm i ts=t at *
  have HT:=zH hT
  clear hT
  generalize hl:ts.length=len at *
  refine callsIn_of_wp_marks Tryz.func122 rfl trivial ?_ rfl
  simp only[Tryz.ntmps122,List.size_toArray,List.length_cons,List.length_nil,Nat.reduceAdd,Nat.reduceSub,Array.replicate_succ,Array.replicate_zero,List.push_toArray,List.append_toArray,List.nil_append,List.cons_append]
  gi_wp2_with fail
  refine⟨trivial,?_⟩
  refine(callsIn_wide.2 (QJ _ _ _ _ _)).mono ?_
  rintro e w' ⟨rfl,rfl⟩
  gi_wp2
  obtain⟨W1,hW1⟩:∃ W1,W1=(w.alloc (.cells #[.int .i64 k,.string (B nm),.int .i64 i,.slice a len cap] 29)).alloc (.cells #[.int .i64 0] 3):=⟨_,rfl⟩
  have hz:W1.heap.size=w.heap.size+1+1:=by rw[hW1];simp
  have hn:W1.cell? ⟨w.heap.size+1,0,none⟩=some (.int .i64 0)/\W1.frozen? ⟨w.heap.size+1,0,none⟩=false:=by
    have:=Xc (w.alloc (.cells #[.int .i64 k,.string (B nm),.int .i64 i,.slice a len cap] 29)) (.int .i64 0) 3
    rw[World.size_alloc]at this
    rw[hW1];exact this
  have hB1:Below w.heap.size w W1:=by rw[hW1];exact((Below.refl _ w).alloc (Nat.le_refl _) _).alloc (by simp) _
  have hR1:zM (fun b=>b=w.heap.size+1) W1 t.zN [.int .i64 k,.string (B nm),.int .i64 i,.slice a len cap]:=
    zM.weaken (O:=fun b=>w.heap.size<=b) (fun b _ e=>by omega) _ _ (zM.carry (O:=fun b=>w.heap.size<=b) ((zD.Y6 (S:=zC) hB1).cel (fun _ x=>x.elim)) _ _ (zM.fresh h))
  rw[<-hW1]
  clear hW1 h
  have hW2:Below w.heap.size w (W1.alloc (.cells #[.int .i64 k,.string (B nm),.int .i64 i,.slice a len cap] 29)):=hB1.alloc (by omega) _
  refine wpIn_rangeFunc_ownF (w:=W1.alloc (.cells #[.int .i64 k,.string (B nm),.int .i64 i,.slice a len cap] 29)) rfl (by omega) (gf:=173) (lb:=#[.pointer (some ⟨w.heap.size+1+1,0,none⟩)]) rfl trivial (enters_of Tryz.func173 (by kernel_rfl) rfl)
    (XF 2 (fun _ b=>b=w.heap.size+1) (w.heap.size+1+1) (w.heap.size+2) (Y9.of _ _ (fun b hb e=>by omega)) (fun _ _ _ _ _ h=>h) t hs
      (W1.alloc (.cells #[.int .i64 k,.string (B nm),.int .i64 i,.slice a len cap] 29)) (by simp;omega) k nm i a len cap (hR1.new _)
      (by rw[<-hz,World.cell?_alloc_new];rfl) (by rw[<-hz,World.cell?_alloc_new];rfl) (by rw[<-hz,World.cell?_alloc_new];rfl) (by rw[<-hz,World.cell?_alloc_new];rfl))
    yf.trans (fun W l o o' _ ho hc _=>yf.of _ (zAG W l o o' ho hc)) (Below.refl _ _) (fun _=>rfl)
    (fun pre W=>(W.cell? ⟨w.heap.size+1,0,none⟩=some (.int .i64 pre.length)/\W.frozen? ⟨w.heap.size+1,0,none⟩=false)/\Below w.heap.size w W)
    (fun _ _ _=>False)
    (OwnFrom.and (Own.from (fun s A B row hs hg hr=>⟨cell_kept hs.1 hg hr,(frozen_kept hs.1 hg hr).trans hs.2⟩) _) (ownFrom_below (Nat.le_refl _) (by simp;omega)))
    (fun _ _ _ _ _ hs _ _=>hs)
    ⟨⟨yw _ hn.1,Z7 _ hn.1 hn.2⟩,hW2⟩
    (fun x=>{ tmps:=#[.agg #[.int .i64 k,.string (B nm),.int .i64 i,.slice a len cap],.pointer (some ⟨w.heap.size,0,none⟩),.int .i64 0,.pointer (some ⟨w.heap.size+1,0,none⟩),.agg #[.int .i64 k,.string (B nm),.int .i64 i,.slice a len cap],.func (.func 173) #[] #[.pointer (some ⟨w.heap.size+1+1,0,none⟩)],.int .i64 x.b,.agg #[.int .i64 x.k,.string (B x.n),.int .i64 x.i,.slice x.a x.len x.cap],undef,undef,undef],defers:=[] }) ?assign ?body ?done ?stop
  case assign=>
    intro l x W K hK
    simp[Nd.enc]
    gi_wp2
    exact hK
  case body=>
    rintro l pre x W ⟨⟨hc,hf⟩,hB⟩ hlt
    have hlt':pre.length<1000000:=by omega
    gi_wp2
    have hc':(W.setCell ⟨w.heap.size+1,0,none⟩ (.int .i64 (pre.length+1))).cell? ⟨w.heap.size+1,0,none⟩=some (.int .i64 (pre.length+1)):=World.cell?_setCell_same _ _ _ hc
    exact⟨KeepsOthers.setCell _ _ _,yf.of _ (Qq W ⟨w.heap.size+1,0,none⟩ _ rfl),⟨by rw[hc',List.length_append];rfl,by rw[World.frozen?_setCell];exact hf⟩,hB.setCell (p:=⟨w.heap.size+1,0,none⟩) (by simp) _⟩
  case done=>
    rintro D ys W hD hys ⟨⟨hc,_⟩,hB⟩ hK
    have hlen:ys.length=t.size:=by rw[<-Tm.ZL t 0,<-hys,List.length_map]
    rw[hlen]at hc
    gi_wp2
    refine⟨by simp,.inl ⟨_,_,rfl,run_takeDeferred hK,?_⟩⟩
    exact⟨_,results_tmp rfl _ _ _,rfl,hB.trans (belowK_b (w:=w) (Nat.le_refl _) W D _ _ (by simp at hD;omega) hK rfl rfl)⟩
  case stop=>
    rintro D c pre W _ _ h _
    exact h.elim
theorem zBJ(t:Tm)(hs:t.size<=1000000)(w:World)(cs:List Value)(h:zM zC w t.zN cs):
    Calls Tryz.prog 122 #[.agg cs.toArray] w fun e w'=>e=.returned (.int .i64 t.size)/\zD zC w w':=
  (callsIn_wide.1 (zIo t hs w cs h)).mono fun _ _ ⟨h1,h2⟩=>⟨h1,zD.Y6 h2⟩
end
section
open Go.RowKit Go.LF
theorem QO(t:Tm):t.size<=1000000->∀(w:World)(cs:List Value),zM zC w t.zN cs->
    Calls Tryz.prog 123 #[.agg cs.toArray] w fun e w'=>e=.returned (.int .i64 t.depth)/\zD zC w w':=by
  induction t using Tm.ind with
  |h k n i ts ih=>
   intro hs w cs h
   obtain⟨a,cap,rfl,hcap,hE⟩:=zk.1 h
   have hlen:=Tm.zO ts
   have hds:=Tm.zo ts
   simp only[Tm.zS]at hs
   go_enter Tryz.func123,Tryz.ntmps123
   go_wp2_with fail
   go_loopw [3,9] (fun v3 v9 wr=>∃ j:Nat,j<=ts.length/\v9=.int .i64 j/\v3=.int .i64 (Tm.zV (ts.take j))/\zD zC (w.alloc (.cells #[.int .i64 k,.string (B n),.int .i64 i,.slice a ts.length cap] 29)) wr)
     (fun _ v9 _=>ts.length - (intOf v9).toNat)
   case atStart=>exact⟨0,Nat.zero_le _,rfl,rfl,zD.refl _ _⟩
   case round=>
     obtain⟨j,hj,rfl,rfl,hU⟩:=hrel
     have hw:zD zC w wr:=hU.behind
     have hdj:=Tm.yj ts j
     by_cases hlt:j<ts.length
     ·obtain⟨b,o,k1,n1,x1,s1,c1,rfl,hb,_,hc0,hc1,hc2,hc3,hR⟩:=zd (hE.on hw) j hlt
      have hd1:=Tm.yA (List.getElem_mem hlt)
      have hs1:=Tm.zR (List.getElem_mem hlt)
      go_wp2_with fail
      refine(ih _ (List.getElem_mem hlt) (by omega) _ _ (hR.new _)).mono ?_
      rintro e w1 ⟨rfl,hU1⟩
      go_wp2
      go_roundw
      case rel=>
        refine⟨j+1,by omega,by go_num,int_eq ?_,hU.trans hU1.behind (fun _ _ x=>x)⟩
        rw[Tm.yh ts j hlt]
        split<;>omega
      case measure=>simp[intOf];omega
     ·have hj':ts.take j=ts:=List.take_of_length_le (by omega)
      go_wp2
      go_ret
      exact⟨zb (by simp),hw⟩
end
section
open Go.RowKit Go.LF
theorem zA9(c:UInt8)(w:World):Calls Tryz.prog 189 #[.int .u8 c.toNat] w fun e w'=>e=.returned (.bool (qW c))/\w=w':=by
  have hc:=c.toNat_lt
  go_enter Tryz.func189,Tryz.ntmps189
  go_wp2
  all_goals go_ret
  all_goals exact⟨zU (by rw[Bool.eq_iff_iff];simp[qW];try omega),rfl⟩
theorem Qu(c:UInt8)(w:World):Calls Tryz.prog 162 #[.int .u8 c.toNat] w fun e w'=>e=.returned (.bool (yG c))/\w=w':=by
  have hc:=c.toNat_lt
  go_enter Tryz.func162,Tryz.ntmps162
  go_wp2_with (go_at_call 189;refine(zA9 _ _).mono ?_;rintro e w' ⟨rfl,rfl⟩)
  all_goals go_ret
  all_goals refine⟨zU ?_,rfl⟩
  all_goals(rw[Bool.eq_iff_iff];simp[yG, *];try omega)
theorem ZZ(s:List UInt8)(w:World):Calls Tryz.prog 161 #[.string (B s)] w fun e w'=>e=.returned (.bool (xi s))/\w=w':=by
  go_enter Tryz.func161,Tryz.ntmps161
  go_wp2
  all_goals go_ret
  all_goals refine⟨zU ?_,rfl⟩
  all_goals(rw[Bool.eq_iff_iff];simp[xi, *])
theorem zHz(c:UInt8)(r:List UInt8)(h:0<(B (c :: r)).size):(B (c :: r))[0]=c:=rfl
theorem yB(s:List UInt8)(w:World)(hs:s.length<=1000000):Calls Tryz.prog 109 #[.string (B s)] w fun e w'=>e=.returned (.bool (isName s))/\w=w':=by
  cases s with
  |nil=>
   go_enter Tryz.func109,Tryz.ntmps109
   go_wp2_with fail
   go_ret
   exact⟨zU (by simp[isName]),rfl⟩
  |cons c r=>
   have h0:=zHz c r (by simp[zCm])
   have z1:(((r.length:Int)+1) == 0)=false:=by simp;omega
   by_cases h1:r.length+1<=64
   case neg=>
     go_enter Tryz.func109,Tryz.ntmps109
     go_wp2_with fail
     go_ret
     exact⟨zU (by rw[eq_comm,yl];exact fun x=>h1 x.1),rfl⟩
   have z2:decide ((64:Int)<(r.length:Int)+1)=false:=by simp;omega
   by_cases h2:xi (c :: r)=true
   case pos=>
     go_enter Tryz.func109,Tryz.ntmps109
     go_wp2_with (go_at_call 161;refine(ZZ _ _).mono ?_;rintro e w' ⟨rfl,rfl⟩)
     go_ret
     exact⟨zU (by rw[eq_comm,yl];simp[h2]),rfl⟩
   replace h2:xi (c :: r)=false:=by simpa using h2
   by_cases h3:c.toNat=64
   case pos=>
     have h3':((c.toNat:Int) == 64)=true:=by simp[h3]
     have H3:=zH h3
     clear h3
     go_enter Tryz.func109,Tryz.ntmps109
     go_wp2_with (go_at_call 161;refine(ZZ _ _).mono ?_;rintro e w' ⟨rfl,rfl⟩)
     go_ret
     exact⟨zU (by rw[eq_comm,yl];exact fun x=>x.2.2.2 H3.out),rfl⟩
   have h3':((c.toNat:Int) == 64)=false:=by simp;omega
   go_enter Tryz.func109,Tryz.ntmps109
   go_wp2_with (go_at_call 161;refine(ZZ _ _).mono ?_;rintro e w' ⟨rfl,rfl⟩)
   go_loop [3] (fun v=>∃ j:Nat,j<=r.length+1/\v=.int .i64 j/\((c :: r).take j).all yG=true) (fun v=>r.length+1 - (intOf v).toNat)
   case atStart=>exact⟨0,by omega,rfl,rfl⟩
   case round=>
     obtain⟨j,hj,rfl,hA⟩:=hrel
     have HA:=zH hA
     clear hA
     by_cases hlt:j<r.length+1
     ·have hb:(B (c :: r))[j]'(by simpa[zCm]using hlt)=(c :: r)[j]'(by simpa using hlt):=rfl
      have hT:=xg yG (c :: r) j (by simpa using hlt)
      rw[HA.out]at hT
      have HT:=zH hT
      clear hT
      by_cases hn:yG ((c :: r)[j]'(by simpa using hlt))=true
      all_goals go_wp2_with (go_at_call 162;refine(Qu _ _).mono ?_;rintro e w' ⟨rfl,rfl⟩)
      ·go_round
       case rel=>exact⟨j+1,by omega,by go_num,by rw[HT.out,hn];rfl⟩
       case measure=>simp[intOf];omega
      ·go_ret
       exact⟨zU (by rw[eq_comm,yl];exact fun x=>hn (List.all_eq_true.1 x.2.1 _ (List.getElem_mem _))),rfl⟩
     ·have hj':(c :: r).take j=c :: r:=List.take_of_length_le (by simp;omega)
      have HA':=HA.out
      rw[hj']at HA'
      have H:=zH ((zA8 c r).2 ⟨h1,HA',h2,h3⟩)
      clear HA' hj'
      go_wp2
      go_ret
      exact⟨zU (by rw[H.out]),rfl⟩
end
section
open Go.RowKit Go.LF
theorem Xz(s:List UInt8)(c:UInt8)(w:World):
    Calls Tryz.prog 219 #[.string (B s),.int .u8 c.toNat] w fun e w'=>e=.returned (.int .i64 (Lib.indexByte s c))/\w=w':=by
  go_enter Tryz.func219,Tryz.ntmps219
  go_wp2
  rw[run_callFunc_extern Tryz.func224 (by kernel_rfl) (by kernel_rfl) (by kernel_rfl) (e:=Extern.BytealgIndexByte.indexByte) (by kernel_rfl),Lib.run_indexByteString]
  simp only[Result.andThen]
  rw[Oper.upon_value]
  go_wp2
  go_ret
  exact⟨zb (by simp),rfl⟩
theorem zBd(s:List UInt8)(c:UInt8)(w:World):
    Calls Tryz.prog 208 #[.string (B s),.int .u8 c.toNat] w fun e w'=>e=.returned (.int .i64 (Lib.indexByte s c))/\w=w':=by
  go_enter Tryz.func208,Tryz.ntmps208
  go_wp2_with (go_at_call 219;refine(Xz _ _ _).mono ?_;rintro e w' ⟨rfl,rfl⟩)
  go_ret
  exact⟨rfl,rfl⟩
def zAf(c:UInt8):Int:=Lib.indexByte [40,41,91,93,123,125,58,46,37] c
theorem zGi:∀ n:Fin 256,decide (zAf (UInt8.ofNat n.val)<0)=(!qW (UInt8.ofNat n.val) && (UInt8.ofNat n.val).toNat !=37):=by
  decide+kernel
theorem zKk(c:UInt8):decide (zAf c<0)=(!qW c && c.toNat !=37):=by
  have h:=zGi ⟨c.toNat,c.toNat_lt⟩
  simpa using h
theorem zAq(c:UInt8)(w:World):
    Calls Tryz.prog 208 #[.string (B [40,41,91,93,123,125,58,46,37]),.int .u8 c.toNat] w fun e w'=>e=.returned (.int .i64 (zAf c))/\w=w':=
  zBd _ _ _
theorem qQ(c:UInt8)(w:World):Calls Tryz.prog 186 #[.int .u8 c.toNat] w fun e w'=>e=.returned (.bool (yG c))/\w=w':=by
  have hc:=c.toNat_lt
  go_enter Tryz.func186,Tryz.ntmps186
  go_wp2_with (go_at_call 208;refine(zAq _ _).mono ?_;rintro e w' ⟨rfl,rfl⟩)
  all_goals go_ret
  all_goals refine⟨zU ?_,rfl⟩
  ·rw[zKk,yG]
   have h1:33<=c.toNat:=by omega
   have h2:c.toNat<=126:=by omega
   simp[h1,h2]
  all_goals(rw[eq_comm,yG];simp;intros;omega)
theorem zCL(s:List UInt8)(w:World):Calls Tryz.prog 187 #[.string (B s)] w fun e w'=>e=.returned (.bool (xi s))/\w=w':=by
  go_enter Tryz.func187,Tryz.ntmps187
  go_wp2
  all_goals go_ret
  all_goals refine⟨zU ?_,rfl⟩
  all_goals(rw[Bool.eq_iff_iff];first |(simp[xi, *];done)|(exfalso;simp_all;done))
def xR:List UInt8->Nat
  | []=>0
  |c :: r=>if yG c then xR r+1 else 0
theorem zA6(s:List UInt8):xR s<=s.length:=by
  induction s with
  |nil=>simp[xR]
  |cons c r ih=>simp only[xR,List.length_cons];split<;>omega
theorem zD8(s:List UInt8):(xR s=s.length)↔s.all yG=true:=by
  induction s with
  |nil=>simp[xR]
  |cons c r ih=>
   simp only[xR,List.length_cons,List.all_cons,Bool.and_eq_true]
   split
   ·rename_i h;simp only[h,true_and];rw[<-ih];omega
   ·rename_i h;simp[h]
theorem zEd(s:List UInt8)(j:Nat)(h:j<=s.length)(hA:(s.take j).all yG=true):j<=xR s:=by
  induction s generalizing j with
  |nil=>simp at h;omega
  |cons c r ih=>
   cases j with
   |zero=>simp
   |succ j=>
    simp only[List.take_succ_cons,List.all_cons,Bool.and_eq_true]at hA
    simp only[xR,hA.1,if_true]
    have:=ih j (by simpa using h) hA.2
    omega
theorem zCl(s:List UInt8)(j:Nat)(h:j<s.length)(hA:(s.take j).all yG=true)(hn:yG s[j]=false):xR s=j:=by
  induction s generalizing j with
  |nil=>simp at h
  |cons c r ih=>
   cases j with
   |zero=>simp only[List.getElem_cons_zero]at hn;simp[xR,hn]
   |succ j=>
    simp only[List.take_succ_cons,List.all_cons,Bool.and_eq_true]at hA
    simp only[List.getElem_cons_succ]at hn
    simp only[xR,hA.1,if_true]
    rw[ih j (by simpa using h) hA.2 hn]
theorem zIh(s:List UInt8)(w:World)(hs:s.length<=1000000):
    Calls Tryz.prog 185 #[.string (B s),.int .i64 0,.func (.func 186) #[] #[]] w fun e w'=>e=.returned (.int .i64 (xR s))/\w=w':=by
  go_enter Tryz.func185,Tryz.ntmps185
  go_wp2_with fail
  go_loop [1] (fun v=>∃ j:Nat,j<=s.length/\v=.int .i64 j/\(s.take j).all yG=true) (fun v=>s.length - (intOf v).toNat)
  case atStart=>exact⟨0,by omega,rfl,rfl⟩
  case round=>
    obtain⟨j,hj,rfl,hA⟩:=hrel
    have HA:=zH hA
    clear hA
    by_cases hlt:j<s.length
    ·have hb:(B s)[j]'(by simpa[zCm]using hlt)=s[j]:=rfl
     have hT:=xg yG s j hlt
     rw[HA.out]at hT
     have HT:=zH hT
     clear hT
     by_cases hn:yG s[j]=true
     ·go_wp2_with (go_at_call 186;refine(qQ _ _).mono ?_;rintro e w' ⟨rfl,rfl⟩)
      go_round
      case rel=>exact⟨j+1,by omega,by go_num,by rw[HT.out,hn];rfl⟩
      case measure=>simp[intOf];omega
     ·have hst:=zCl s j hlt HA.out (by simpa using hn)
      have HST:=zH hst
      clear hst
      go_wp2_with (go_at_call 186;refine(qQ _ _).mono ?_;rintro e w' ⟨rfl,rfl⟩)
      go_ret
      exact⟨zb (by rw[HST.out]),rfl⟩
    ·have h1:=zEd s j hj HA.out
     have h2:=zA6 s
     go_wp2_with fail
     go_ret
     exact⟨zb (by omega),rfl⟩
theorem Yd(s:List UInt8)(w:World)(hs:s.length<=1000000):Calls Tryz.prog 159 #[.string (B s)] w fun e w'=>e=.returned (.bool (isName s))/\w=w':=by
  cases s with
  |nil=>
   go_enter Tryz.func159,Tryz.ntmps159
   go_wp2_with fail
   go_ret
   exact⟨zU (by simp[isName]),rfl⟩
  |cons c r=>
   have h0:=zHz c r (by simp[zCm])
   have hr:=zD8 (c :: r)
   have hl:=zA6 (c :: r)
   simp only[List.length_cons]at hr hl hs
   have HR:=zH hr
   clear hr
   generalize hx:xR (c :: r)=x at *
   have HX:=zH hx
   clear hx
   have hrun:∀ w,Calls Tryz.prog 185 #[.string (B (c :: r)),.int .i64 0,.func (.func 186) #[] #[]] w fun e w'=>e=.returned (.int .i64 x)/\w=w':=by
     intro w;have:=zIh (c :: r) w (by simp;omega);rwa [HX.out]at this
   go_enter Tryz.func159,Tryz.ntmps159
   go_wp2_with (first |(go_at_call 185;refine(hrun _).mono ?_;rintro e w' ⟨rfl,rfl⟩)|(go_at_call 187;refine(zCL _ _).mono ?_;rintro e w' ⟨rfl,rfl⟩))
   all_goals go_ret
   all_goals refine⟨zU ?_,rfl⟩
   ·rename_i h
    rw[eq_comm,yl]
    simp[h]
   ·rename_i h1 h2 h3
    have h4:x=r.length+1:=by omega
    have h5:=HR.out.1 h4
    rw[Qh]
    simp only[List.all_cons,Bool.and_eq_true]at h5
    have h6:r.length+1<=64:=by omega
    rw[Bool.eq_iff_iff]
    simp[h5,h6,h3]
    omega
   ·rename_i h1 h2
    rw[eq_comm,yl]
    intro hh
    exact h2 (by have:=HR.out.2 hh.2.1;omega)
   ·rename_i h1
    rw[eq_comm,yl]
    intro hh
    omega
end
end Go.Proofs.YthgmimncdjhgnaaGreatDoor
