/- The reference's simple types: form, Size, depth, WellFormed, longSize. -/
import Derived.Test.YthgmimncdjhgnaaGreatDoorWCA
import Derived.Test.YthgmimncdjhgnaaGreatDoorWCF
import Derived.Test.YthgmimncdjhgnaaGreatDoorWCJ
import Derived.Test.YthgmimncdjhgnaaGreatDoorWCK
import Derived.Deep.RegionHeld3
import Derived.Deep.RegionLaw
import Derived.Laws.OwnMore
import Derived.Maps.AppendAt
set_option maxRecDepth 100000
set_option maxHeartbeats 16000000
namespace Go.Proofs.YthgmimncdjhgnaaGreatDoor
section
open Go.RowKit Go.LF
def zA6(base deep:Nat)(T:Nat)(w:World)(e:Ending)(w':World):Prop:=
  ∃(f:List UInt8)(a:Option Addr)(len cap:Nat)(s:Sm),e=.returned (.agg #[.string (B f),.slice a len cap])/\zK (fun b=>b<base) w' s.zM [.string (B f),.slice a len cap]/\s.YZ deep/\zg w' T/\zD (zv T) w w'
def Xn(base deep:Nat)(T:Nat)(w:World)(e:Ending)(w':World):Prop:=
  ∃(f:List UInt8)(a:Option Addr)(cap:Nat)(ts:List Sm)(css:List (List Value))(B':Nat),e=.returned (.agg #[.string (B f),.slice a ts.length cap])/\base<=B'/\ts.length<=cap/\Z0 B' w' (.slice a ts.length cap) ts css/\(Sm.mk f ts).YZ deep/\zg w' T/\zD (zv T) w w'
theorem Xn.s{base deep T:Nat}{w w':World}{e:Ending}(h:Xn base deep T w e w'):zA6 base deep T w e w':=by
  obtain⟨f,a,cap,ts,css,B',rfl,hb,hcap,hS,hF,hT,hU⟩:=h;obtain⟨a',cap',e,hc,hE⟩:=hS.rep;cases e
  exact⟨f,a,_,cap,.mk f ts,rfl,Zi.2 ⟨a,cap,rfl,hcap,zH.weaken (fun b _ e=>by omega) _ _ _ _ hE⟩,hF,hT,hU⟩
theorem zGr{W:World}{b:Nat}{T':TypeId}{fr:Nat×Nat}(h:W.heap[b]? =some (.cells #[.string (B [110,97,116]),.string (B [116,109]),.string (B [116,121,112,101])] T' fr))(c:Nat)(hc:(c:Int)<3):
    ∃ f:List UInt8,W.cell? ⟨b,c,none⟩=some (.string (B f))/\Sm.zAZ f=true/\f.length<=4:=by
  have hcell:∀ i,W.cell? ⟨b,i,none⟩=(#[.string (B [110,97,116]),.string (B [116,109]),.string (B [116,121,112,101])]:Array Value)[i]? :=fun i=>by simp[World.cell?,h]
  have hk:c=0\/c=1\/c=2:=by omega
  rcases hk with rfl |rfl |rfl
  ·exact⟨_,(hcell 0),by decide,by decide⟩
  ·exact⟨_,(hcell 1),by decide,by decide⟩
  ·exact⟨_,(hcell 2),by decide,by decide⟩
theorem qe(d:Nat)(hd:d<=10)(T:Nat)(ih:∀ d',d=d'+1->∀(w:World),zg w T->Calls Tryz.prog 90 #[.pointer (some ⟨T,0,none⟩),.int .i64 d'] w (zA6 w.heap.size d' T w))
    (w:World) (hT:zg w T):Calls Tryz.prog 90 #[.pointer (some ⟨T,0,none⟩),.int .i64 d] w (Xn w.heap.size d T w):=by
  have NX:=fun(n:Int)h0 h1 w hT=>xL n h0 h1 T w hT
  obtain⟨D,hD⟩:∃ D:Int,D=(d:Int):=⟨_,rfl⟩;rw[<-hD];have D0:0<=D:=by omega
  have D1:D<=13:=by omega
  have HD:=zF hD;clear hD;have hTl:=hT.lt;obtain⟨i0,hi,hi0,hi1,hi2⟩:=info_parts qZ;go_enter Tryz.func90,Tryz.ntmps90
  go_wp2_with fail
  refine(NX _ (by omega) (by omega) _ ((hT.on ((zD.refl zC w).alloc _)).on ((zD.refl zC _).alloc _))).mono ?_;rintro e w1 ⟨⟨c,hc,rfl⟩,hT1,hU1⟩
  have hk0:w1.heap[w.heap.size+1]? =some (.cells #[.string (B [110,97,116]),.string (B [116,109]),.string (B [116,121,112,101])] 9 (0,0)):=by
    rw[hU1.block _ (by simp) (fun e=>by simp only[zv]at e;omega)];have:=heap_alloc_new (w.alloc (.cells #[.string (B []),.slice none 0 0] 115)) (.cells #[.string (B [110,97,116]),.string (B [116,109]),.string (B [116,121,112,101])] 9);rw[World.size_alloc]at this;exact this
  obtain⟨f,hfc,hff,hfl⟩:=zGr hk0 c hc;have hw1:zD (zv T) w w1:=(((zD.refl (zv T) w).alloc _).alloc _).trans hU1 (fun _ _ x=>x);have c0:(0:Int)<=(c:Int):=by omega
  have c3:(c:Int)<3:=hc
  have hres:zn w1 w.heap.size (.string (B [])) (.slice none 0 0) 115:=by
    unfold zn;rw[hU1.block _ (by simp;omega) (fun e=>by simp only[zv]at e;omega)];exact(Zm _ _ _ (by simp)).trans (heap_alloc_new w _)
  clear hU1 hk0 hT;have hresne:w.heap.size≠T:=by omega
  go_wp2_with fail
  refine(NX _ (by omega) (by omega) _ (hT1.on ((zD.refl zC w1).alloc _))).mono ?_;rintro e w3 ⟨⟨nn,hnn,rfl⟩,hT3,hU3⟩;have hoT:w1.heap.size≠T:=by have:=hT1.lt;omega
  have hout3:zn w3 w1.heap.size (.string (B f)) (.slice none 0 0) 115:=by
    unfold zn;rw[hU3.block _ (by simp) (fun e=>by simp only[zv]at e;omega)];exact heap_alloc_new w1 _
  have hw13:zD (zv T) w1 w3:=((zD.refl (zv T) w1).alloc _).trans hU3 (fun _ _ x=>x);have q1:w.heap.size<w1.heap.size:=hres.lt;have hres3:=hres.zE hw13 hresne;have hw3U:=hw1.trans hw13 (fun _ _ x=>x);have q3:=hout3.lt;have HFF:=zF (And.intro hff hfl);have HFC:=zF hfc;clear hU3 hw13 hT1 hres hw1 hff hfl hfc;have hnn2:nn<=2:=by omega
  go_wp2_with fail
  go_loopw [6] (fun v6 wr=>∃(m:Nat)(v:Value)(ts:List Sm)(css:List (List Value)),v6=.int .i64 m/\m+ts.length<=2/\Z0 w3.heap.size wr v ts css/\(∀ t∈ts,∃ d',d=d'+1/\Sm.YZ t d')/\
      zn wr w1.heap.size (.string (B f)) v 115/\zn wr w.heap.size (.string (B [])) (.slice none 0 0) 115/\zg wr T/\zD (zv T) w wr/\w3.heap.size<=wr.heap.size)
    (fun v6 _=>(intOf v6).toNat)
  case atStart=>exact⟨nn,_,[],[],rfl,by simpa using hnn2,Z0.nil _ _,by simp,hout3,hres3,hT3,hw3U,Nat.le_refl _⟩
  case round=>
    clear hout3 hres3 hT3 hw3U;obtain⟨m,v,ts,css,rfl,hmt,hts,hfs,hout,hres,hTr,hwr,hbr⟩:=hrel;have hT1l:T<w1.heap.size:=by omega
    obtain⟨b0,b1⟩:=hout.cells;obtain⟨f0,f1⟩:=hout.zI;have hways:(0<m/\0<D)\/(0<m/\¬0<D)\/m=0:=by omega
    rcases hways with⟨hm0,hD0⟩|hex
    ·have hm1:(0:Int)<(m:Int):=by omega
     obtain⟨d',hd'⟩:∃ d',d=d'+1:=⟨d - 1,by have:=HD.out;omega⟩;have HDd:=zF (show IntKind.i64.wrap (D - 1)=(d':Int) by have:=HD.out;rw[Go.IntWalk.i64_in _ (by omega)];omega)
     have IH:∀(x:Int)(W:World),x=d'->zg W T->Calls Tryz.prog 90 #[.pointer (some ⟨T,0,none⟩),.int .i64 x] W (zA6 W.heap.size d' T W):=by
       intro x W hx h2;rw[hx];exact ih d' hd' W h2
     have HD':=zF hd';clear hd' ih;go_wp2_with fail
     go_region_law (first
       |((rw[if_pos (by rfl)]);go_simp;(go_at_call 90);refine(IH _ _ HDd.out (hTr.on (zD.refl zC wr).drew)).mono ?_;rintro e w6 ⟨f1',a1,len1,cap1,t,rfl,hR6,hF6,hT6,hU6⟩;have hU6':zD (zv T) wr w6:=zD.trans ((zD.refl (zv T) wr).drew) hU6 (fun _ _ x=>x);have hout6:=hout.zE hU6' hoT;have q6:=hout6.lt;have c6:=hout6.cells.2;have z6:=hout6.zI.2;have hs6:=hU6'.size;have hts6:=hts.zE hU6' (fun b e=>(by simp only[zv]at e;omega)))
       |(refine step_append_lies _ (by rfl) _ _ 113 (by rfl) w3.heap.size 115 i0 (.agg #[.string (B []),.slice none 0 0]) 2 40 (by kernel_rfl) hi hi0 hi1 hi2 rfl (by decide) v ts.length css.flatten (by rfl) ((hts6.on ((zD.refl zC w6).alloc _)).2.2.1) ⟨w6.heap.size,0,none⟩ 1 1 [.string (B f1'),.slice a1 len1 cap1] (by rfl) rfl (World.news_of_block (heap_alloc_new w6 _)) (by simp[Value.oneCell']) (by omega) (by simp only[maxLen];omega) (by omega) (by simp;omega) _ rfl ?_;intro g cap' w7 hown hgrow hat hlt;have hout7:=(hout6.kept ((zD.refl zC w6).alloc _)).row hgrow (hts6.on ((zD.refl zC w6).alloc _)) (by omega);have c7:=hout7.cells.2;have z7:=hout7.zI.2))
     all_goals
       have hts6':=hts6.on ((zD.refl zC w6).alloc (.cells #[.string (B f1'),.slice a1 len1 cap1] 115))
       have hR6':zK (fun b=>b<w3.heap.size\/v.ownBlock=some b) (w6.alloc (.cells #[.string (B f1'),.slice a1 len1 cap1] 115)) t.zM [.string (B f1'),.slice a1 len1 cap1]:=by
         refine(zK.weaken (fun b _ e=>?_) _ _ hR6).new _;rcases e with e |e
         ·exact Nat.lt_of_lt_of_le e hbr
         ·exact(hts.2.2.1.lt b e).2
       have hT7:=hts6'.appended rfl hR6' hown hgrow hat (Nat.le_refl _);have hset7:zD (fun b=>b=w1.heap.size) w7 (w7.setCell ⟨w1.heap.size,1,none⟩ (.slice (some ⟨g,0,none⟩) (ts.length+1) cap')):=zD.set (zD.refl _ _) 1 _;have hrow7:=zD.ofRow (zw.grown hts6'.2.2.1 hgrow);have hal6:zD zC w6 (w6.alloc (.cells #[.string (B f1'),.slice a1 len1 cap1] 115)):=(zD.refl zC w6).alloc _;have hT7':=((hT6.on hal6).Zy hrow7 (fun b e=>by omega)).Zy hset7 (fun b e=>by omega);have hres7:zn (w7.setCell ⟨w1.heap.size,1,none⟩ (.slice (some ⟨g,0,none⟩) (ts.length+1) cap')) w.heap.size _ _ _:=(((hres.zE hU6' hresne).kept hal6).zE hrow7 (by omega)).zE hset7 (by omega);have hw7U:zD (zv T) w (w7.setCell ⟨w1.heap.size,1,none⟩ (.slice (some ⟨g,0,none⟩) (ts.length+1) cap')):=((((hwr.trans hU6' (fun _ _ x=>x)).trans hal6 (fun _ _ x=>x.elim)).trans hrow7 (fun b hb e=>by omega))).trans hset7 (fun b hb e=>by omega);have hsz7:w3.heap.size<=(w7.setCell ⟨w1.heap.size,1,none⟩ (.slice (some ⟨g,0,none⟩) (ts.length+1) cap')).heap.size:=by have:=hset7.size;have:=hrow7.size;have:=hal6.size;omega
       have hfs7:∀ t'∈ts++[t],∃ d',d=d'+1/\Sm.YZ t' d':=by
         intro t' ht';rcases List.mem_append.1 ht' with h |h
         ·exact hfs t' h
         ·obtain rfl:t'=t:=by simpa using h
          exact⟨d',HD'.out,hF6⟩
       have hT7s:=hT7.zE hset7 (fun b e=>by omega);go_wp2_with fail
       go_roundw
       case rel=>exact⟨m - 1,_,ts++[t],_,int_eq (by omega),by simp;omega,hT7s,hfs7,hout7.Xh _,hres7,hT7',hw7U,hsz7⟩
       case measure=>simp[intOf];omega
    ·obtain⟨r0,r1⟩:=hres.cells;obtain⟨rf0,rf1⟩:=hres.zI;have qr:=hres.lt;obtain⟨a,cap,rfl,hcap,hE⟩:=hts.rep
     have hfit':Sm.YZ (.mk f ts) d:=by
       rcases Nat.eq_zero_or_pos ts.length with h0 |h0
       ·obtain rfl:=List.eq_nil_of_length_eq_zero h0;exact(Sm.zGH HFF.out.1 HFF.out.2).mono (by omega)
       ·obtain⟨d',hd',_⟩:=hfs ts[0] (List.getElem_mem h0);subst hd';refine Sm.zH5 HFF.out.1 HFF.out.2 (by omega) (fun t ht=>?_);obtain⟨d2,h2,h3⟩:=hfs t ht;obtain rfl:d2=d':=by omega
        exact h3
     obtain⟨len,hlen⟩:∃ len,len=ts.length:=⟨_,rfl⟩;rw[<-hlen]at hout hcap b1;have HL:=zF hlen;have hset9:=hres.set (d0:=.string (B f)) (d1:=.slice a len cap);obtain⟨e0,e1⟩:=hset9.1.cells;have HE:=zF (And.intro e0 e1);have hts9:=hts.zE hset9.2 (fun b e=>by omega);rw[<-hlen]at hts9;clear hlen hfs hts e0 e1 hE
     have fin:Xn w.heap.size d T w (.returned (.agg #[.string (B f),.slice a len cap])) ((wr.setCell ⟨w.heap.size,0,none⟩ (.string (B f))).setCell ⟨w.heap.size,1,none⟩ (.slice a len cap)):=by
       refine⟨f,a,cap,ts,css,w3.heap.size,by rw[HL.out],by omega,by have:=HL.out;omega,by rw[<-HL.out];exact hts9,hfit',hTr.Zy hset9.2 (fun b e=>by omega),hwr.trans hset9.2 (fun b hb e=>by omega)⟩
     have HFIN:=zF fin;clear fin;rcases hex with⟨hm0,hDn⟩|rfl
     ·have hm1:(0:Int)<(m:Int):=by omega
      go_wp2_with fail
      obtain⟨e0,e1⟩:=HE.out;refine bodyPost_ret (v:=.agg #[.string (B f),.slice a len cap]) ?_ rfl ?_
      ·simp[results,Tryz.f90,go_sem,e0,e1]
      ·exact HFIN.out
     ·go_wp2_with fail
      obtain⟨e0,e1⟩:=HE.out;refine bodyPost_ret (v:=.agg #[.string (B f),.slice a len cap]) ?_ rfl ?_
      ·simp[results,Tryz.f90,go_sem,e0,e1]
      ·exact HFIN.out
theorem zCu(deep:Nat):deep<=10->∀(T:Nat)(w:World),zg w T->Calls Tryz.prog 90 #[.pointer (some ⟨T,0,none⟩),.int .i64 deep] w (zA6 w.heap.size deep T w):=by
  induction deep with
  |zero=>intro h T w hT;exact(qe 0 h T (fun d' e=>absurd e (by omega)) w hT).mono fun _ _ h=>h.s
  |succ d ih=>intro h T w hT;exact(qe (d+1) h T (fun d' e w hT=>by obtain rfl:d'=d:=(by omega);exact ih (by omega) T w hT) w hT).mono fun _ _ h=>h.s
end
section
open Go.RowKit Go.LF
theorem YW{w:World}{O:Nat->Prop}{base:Nat}{v:Value}{ts:List Tm}{css:List (List Value)}(hS:xN O base w v ts css)(A:Option Addr)(m c:Nat)(us:List Tm)(hm:m=us.length)
    (hE:zH (fun b=>O b\/base<=b) w 4 (us.map Tm.zM) A 0) (hl:ts.length+us.length<=900000) (hbase:base<=w.heap.size) (ty:TypeId):
    ∃ v' w' css',(Builtin.append_ #[26,26] ty #[v,.slice A m c]).run Tryz.prog w=.ok v' w'/\xN O base w' v' (ts++us) css'/\w.grownBy w' v.ownBlock/\(v'.ownBlock=v.ownBlock\/v'.ownBlock=some w.heap.size):=by
  obtain⟨i0,hi,hi0,hi1,hi2⟩:=info_parts yV;obtain⟨css2,r1,r2,r3,r4,r5⟩:=Ys us A 0 hE;have hflat:=(zAT css2 r2).1;rw[r1,<-hm]at hflat
  have fin:∀(v':Value)(w':World),w'.ownsRow base 29 4 v' (ts.length+m) (css.flatten++css2.flatten)->w.grownBy w' v.ownBlock->xN O base w' v' (ts++us) (css++css2):=by
    intro v' w' hown hg;obtain⟨h1,h2,h3,h4⟩:=hS;have hcel:YO (fun b=>O b\/base<=b) w w':=⟨hg.size,fun b o u hb hu=>hg.cell hu (fun e=>hb (.inr (h3.lt b e.symm).1))⟩;refine⟨by simp[h1,r1],?_,by simpa[hm]using hown,fun i hi hi'=>?_⟩
    ·intro x hx;rcases List.mem_append.1 hx with hx |hx
     ·exact h2 x hx
     ·exact r2 x hx
    ·by_cases hlt:i<ts.length
     ·rw[List.getElem_append_left hlt,List.getElem_append_left (by omega)];exact zK.carry hcel _ _ (h4 i hlt (by omega))
     ·have hi2:i - ts.length<us.length:=by simp at hi;omega
      rw[List.getElem_append_right (by omega),List.getElem_append_right (by omega)];simp only[h1];exact zK.carry hcel _ _ (r5 _ hi2 (by omega))
  rcases A with _ |ad
  ·obtain rfl:=zAJ hE;have hm0:m=0:=by simpa using hm
   subst hm0;obtain rfl:css2=[]:=by simpa using r1
   refine⟨v,w,css,?_,by simpa using hS,World.grownBy.refl w _,.inl rfl⟩;have hu:Tryz.prog.underlying 26=some (.slice 29):=by kernel_rfl
   rcases hS.2.2.1.2 with⟨rfl,_⟩|⟨g,cap,cur,rfl,_,_,hnc,_⟩
   ·simp[Builtin.append_,run_underlying hu,sizeOf,typeInfo,hi,Builtin.lenOf,Builtin.firstCells]
   ·simp[Builtin.append_,run_underlying hu,sizeOf,typeInfo,hi,Builtin.lenOf,Builtin.firstCells,hnc,storeCells]
  ·have hcells:∀ j u,css2.flatten[j]? =some u->w.cell? (ad.add j)=some u:=by
     intro j u hu;obtain⟨b',o',e,hc⟩:=r4 j u hu;cases e
     have hadd:(⟨b',o',none⟩:Addr).add j=⟨b',o'+j,none⟩:=by unfold Addr.add;split<;>simp_all
     rw[hadd];simpa using hc
   obtain⟨v',w',hrun,h2,h3,_,h5⟩:=run_append_own_at (P:=Tryz.prog) w base 26 ty 29 i0 (.agg #[.int .i64 0,.string (B []),.int .i64 0,.slice none 0 0]) 4 56 (by kernel_rfl) hi hi0 hi1 hi2 rfl (by decide) v ts.length css.flatten hS.2.2.1 ad m c css2.flatten hflat hcells r3 (by simp only[maxLen];omega) (by omega) hbase;exact⟨v',w',_,hrun,fin v' w' h2 h3,h3,h5⟩
theorem YG{w:World}{ops:Array Oper}{o:Oper}{a:Act}{K:Act->World->Prop}{Q:Exit->Act->World->Prop}{E:Prop}(hgd:o.guard=none)(s x:Operand)
    (ho:o.op=.call { callee:=.builtin .append,args:=#[s,x],argTypes:=#[26,26] }){O:Nat->Prop}{base:Nat}{v:Value}{ts:List Tm}{css:List (List Value)} (hs:a.eval s=v) (hS:xN O base w v ts css)
    (A:Option Addr) (m c:Nat) (us:List Tm) (hx:a.eval x=.slice A m c) (hm:m=us.length) (hE:zH (fun b=>O b\/base<=b) w 4 (us.map Tm.zM) A 0) (hl:ts.length+us.length<=900000) (hbase:base<=w.heap.size)
    (h:∀ v' w' css',xN O base w' v' (ts++us) css'->w.grownBy w' v.ownBlock->(v'.ownBlock=v.ownBlock\/v'.ownBlock=some w.heap.size)->K (a.put o.dst v') w'):
    if Region.wanted o (yielded ops a.tmps)=true then Oper.wp Tryz.prog o a w K Q else E:=by
  have hw:Region.wanted o (yielded ops a.tmps)=true:=by simp[Region.wanted,hgd]
  rw[if_pos hw];obtain⟨v',w',css',hrun,h1,h2,h3⟩:=YW hS A m c us hm hE hl hbase o.type;unfold Oper.wp execOp;simp only[ho,resolve,invoke,builtin,Sem.run_bind,Sem.run_pure,Result.andThen_ok,List.map_toArray,List.map_cons,List.map_nil,hs,hx,hrun];exact h v' w' css' h1 h2 h3
theorem zEb{v2:Value}{w1:World}(h:v2.ownBlock=(Value.slice none 0 0).ownBlock\/v2.ownBlock=some w1.drew.heap.size)(x:Nat)(hx:x<w1.heap.size):¬v2.ownBlock=some x:=by
  intro e;rcases h with e2 |e2
  ·rw[e2]at e;simp[Value.ownBlock]at e
  ·rw[e2]at e;have:w1.heap.size=x:=Option.some.inj e;omega
def zFr(u:Tm)(O:Nat->Prop)(w:World)(e:Ending)(w':World):Prop:=
  ∃(k i:Int)(n:List UInt8)(a:Option Addr)(len cap:Nat),e=.returned (.agg #[.int .i64 k,.string (B n),.int .i64 i,.slice a len cap])/\zK O w' u.zM [.int .i64 k,.string (B n),.int .i64 i,.slice a len cap]/\zD zC w w'
theorem zCN(h:Tm)(us:List Tm)(hl:h.args.length+us.length<=900000)(O:Nat->Prop)(w:World)(hO:∀ b,O b->b<w.heap.size)(cs:List Value)(hR:zK O w h.zM cs)(ua:Option Addr)(uc:Nat)(hE:zH O w 4 (us.map Tm.zM) ua 0):
    Calls Tryz.prog 144 #[.agg cs.toArray,.slice ua us.length uc] w (zFr (h.more us) O w):=by
  obtain⟨k,n,i,ts,a,cap,rfl,rfl,hcap,hT⟩:=zU hR;simp only[Tm.yt]at hl;have hmore:(Tm.mk k n i ts).more us=.mk k n i (ts++us):=rfl;rw[hmore];clear hmore;obtain⟨w1,hw1⟩:∃ w1,w1=(w.alloc (.cells #[.int .i64 k,.string (B n),.int .i64 i,.slice a ts.length cap] 29)).alloc (.cells #[.int .i64 0,.string (B []),.int .i64 0,.slice none 0 0] 29):=⟨_,rfl⟩;have hU1:zD zC w w1:=by rw[hw1];exact((zD.refl zC w).alloc _).alloc _
  have hB1:zG w1 w.heap.size (.int .i64 k) (.string (B n)) (.int .i64 i) (.slice a ts.length cap) 29:=by rw[hw1];exact(zG.zJ rfl).kept ((zD.refl zC _).alloc _)
  have hr1:zG w1 (w.heap.size+1) (.int .i64 0) (.string (B [])) (.int .i64 0) (.slice none 0 0) 29:=by rw[hw1];exact zG.zJ (by simp)
  have hT1:zH (fun b=>O b\/w.heap.size<=b) w1 4 (ts.map Tm.zM) a 0:=(zH.zY _ _ _ _ hT).on hU1;have hE1:zH (fun b=>O b\/w.heap.size<=b) w1 4 (us.map Tm.zM) ua 0:=(zH.zY _ _ _ _ hE).on hU1;have hS1:xN O w.heap.size w1 (.slice none 0 0) [] []:=⟨rfl,by simp,World.ownsRow_nil _ _ _ _,fun i h=>by simp at h⟩;have hz1:w.heap.size+2<=w1.heap.size:=by have:=hr1.lt;omega
  obtain⟨len,hlen⟩:∃ len,len=ts.length:=⟨_,rfl⟩;obtain⟨ul,hul⟩:∃ ul,ul=us.length:=⟨_,rfl⟩;have hl6:len+ul<=900000:=by omega
  rw[<-hlen]at hB1;rw[<-hlen,<-hul];have HL:=zF (And.intro hlen hul);have HW:=zF hw1;have HWL:=zF hl;clear hw1 hR hT hE hcap hl;obtain⟨b0,b1,b2,b3⟩:=hB1.cells;have S1d:ZK w.heap.size (.int .i64 k) (.string (B n)) (.int .i64 i) (.slice a len cap) w1.drew:=ZK.zE (S:=zC) ⟨b0,b1,b2,b3⟩ (zD.refl zC w1).drew (fun x=>x);have hd:zD zC w1 w1.drew:=(zD.refl zC w1).drew;rw[HL.out.1]at hlen;clear hlen hul;rw[<-HL.out.1]at HW;have hneb:w.heap.size≠w.heap.size+1:=by omega
  go_enter Tryz.func144,Tryz.ntmps144
  go_wp2_with fail
  rw[<-show B []={ data:=#[] }from rfl,<-HW.out]
  go_region_held3 (fun w'=>ZK w.heap.size (.int .i64 k) (.string (B n)) (.int .i64 i) (.slice a len cap) w')
    (first |(with_reducible assumption)|(with_reducible exact S1d)|(with_reducible exact ZK.set (ZK.set (ZK.set (ZK.set S3 hneb 0 _) hneb 1 _) hneb 2 _) hneb 3 _))
    (first
      |((refine YG (by rfl) _ _ (by rfl) (by rfl) hS2 ua ul uc us (by rfl) HL.out.2 (hE1.on hU2) (by simpa using HWL.out) (by have:=hU2.size;omega) ?_;intro v3 w3 css3 hS3 hg3 hat3;have hU3:=x8 hg3;have hne2:∀ x,x<w1.heap.size->¬v2.ownBlock=some x:=(fun x hx e=>(zEb hat2 x hx e));have S3:=S2.zE hU3 (hne2 _ (by omega));have hr3:=(hr1.kept hU2).zE hU3 (hne2 _ (by omega));obtain⟨x0,x1,x2,x3⟩:=hr3.cells;obtain⟨y0,y1,y2,y3⟩:=hr3.zI;obtain⟨fa,fc,e3,hfc,hF⟩:=hS3.rep;subst e3;have HN:=zF (And.intro hat2 (And.intro hat3 hne2));clear hat2 hat3 hne2;have HG:=zF (And.intro hg2 hg3);clear hg2 hg3))
      |((refine YG (by rfl) _ _ (by rfl) (by rfl) (hS1.on hd) a len cap ts (by rfl) HL.out.1 (hT1.on hd) (by simp;have:=HWL.out;omega) (by have:=hd.size;omega) ?_;intro v2 w2 css2 hS2 hg2 hat2;have hU2:zD zC w1 w2:=hd.and (xS hg2);have S2:=S1d.zE (xS hg2) (fun x=>x))))
  all_goals
    have hset:=hr3.set (d0:=.int .i64 k) (d1:=.string (B n)) (d2:=.int .i64 i) (d3:=.slice fa ([]++ts++us).length fc);obtain⟨r0,r1,r2,r3⟩:=hset.1.cells;simp only[List.nil_append,List.length_append]at r0 r1 r2 r3 hset;go_wp2_with fail
    refine bodyPost_ret (v:=.agg #[.int .i64 k,.string (B n),.int .i64 i,.slice fa (ts.length+us.length) fc]) ?_ rfl ?_
    ·simp[results,Tryz.f144,go_sem,r0,r1,r2,r3]
    ·have hne2:=HN.out.2.2;have hz:=hU2.size
     have hown:¬(Value.slice fa ([]++ts++us).length fc).ownBlock=some (w.heap.size+1):=by
       intro e;rcases HN.out.2.1 with e2 |e2
       ·exact hne2 _ (by omega) (e2.symm.trans e)
       ·have:=Option.some.inj (e2.symm.trans e);omega
     refine⟨k,i,n,fa,_,fc,rfl,zd.2 ⟨fa,fc,by rw[List.length_append],by simpa using hfc,?_⟩,((hU1.and hU2).trans hU3 (fun x hx e=>(hne2 x (by omega) e).elim)).trans hset.2 (fun x hx e=>by omega)⟩;have hF2:zH (fun b=>O b\/b=w.heap.size+1) w3 4 (([]++ts++us).map Tm.zM) fa 0:=zH.weaken (fun b _ e=>e.elim (fun e=>.inl ⟨e,hO b e⟩) (fun e=>.inr ⟨by omega,fun e2=>hown (by rw[e2,e])⟩)) _ _ _ _ hF;have hF3:=zH.zE hset.2 (fun b e=>.inr e) _ _ _ _ hF2;simp only[List.nil_append]at hF3;exact zH.weaken (fun b _ e=>.inl e) _ _ _ _ hF3
end
end Go.Proofs.YthgmimncdjhgnaaGreatDoor
