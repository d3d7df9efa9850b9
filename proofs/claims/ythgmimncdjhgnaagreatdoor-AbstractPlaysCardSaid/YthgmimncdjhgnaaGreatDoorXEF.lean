/- BF measure; run and its deferred closure. -/
import Derived.Test.YthgmimncdjhgnaaGreatDoorXEE
import Derived.Recover
set_option maxRecDepth 100000
set_option maxHeartbeats 8000000
namespace Go.Proofs.YthgmimncdjhgnaaGreatDoor
section
open Go.RowKit Go.LF
theorem gC.Ac{b r:Nat}{a0 a1 a2 a3:Value}{w:World}(h:gC b a0 a1 a2 a3 w)(gJ:b≠r)(d0 d1 d2 d3 d4 d5:Value):
    gC b a0 a1 a2 a3 ((((((w.setCell ⟨r,0,none⟩ d0).setCell ⟨r,1,none⟩ d1).setCell ⟨r,2,none⟩ d2).setCell ⟨r,3,none⟩ d3).setCell ⟨r,4,none⟩ d4).setCell ⟨r,5,none⟩ d5):=
  gC.set (gC.set (gC.set (gC.set (gC.set (gC.set h gJ 0 _) gJ 1 _) gJ 2 _) gJ 3 _) gJ 4 _) gJ 5 _
theorem tn(t:Tm)(hs:t.size<=1000000)(O:Nat->Prop)(w:World)(hO:∀ b,O b->b<w.heap.size)(k i:Int)(n:List UInt8)(a:Option Addr)(len cap:Nat)(h:aw O w t.az [.int .i64 k,.string (B n),.int .i64 i,.slice a len cap]):
    Calls Tryz.prog 196 #[.agg #[.int .i64 k,.string (B n),.int .i64 i,.slice a len cap]] w fun e w'=>
      e=.returned (.agg #[.int .i64 k,.string (B n),.int .i64 i,.slice a len cap,.int .i64 t.size,.int .i64 t.depth])/\aw O w' t.az [.int .i64 k,.string (B n),.int .i64 i,.slice a len cap]/\af ae w w':=by
  obtain⟨w1,aF⟩:∃ w1,w1=(w.alloc (.cells #[.int .i64 k,.string (B n),.int .i64 i,.slice a len cap] 29)).alloc (.cells #[.int .i64 0,.string (B []),.int .i64 0,.slice none 0 0,.int .i64 0,.int .i64 0] 200):=⟨_,rfl⟩;have aH:af ae w w1:=by rw[aF];exact((af.refl ae w).alloc _).alloc _
  have iV:au w1 w.heap.size (.int .i64 k) (.string (B n)) (.int .i64 i) (.slice a len cap) 29:=by rw[aF];exact(au.av rfl).kept ((af.refl ae _).alloc _)
  have dK:bC w1 (w.heap.size+1) (.int .i64 0) (.string (B [])) (.int .i64 0) (.slice none 0 0) (.int .i64 0) (.int .i64 0) 200:=by rw[aF];exact bC.av (by simp)
  have di:=(aw.fR h).on aH;have C1:=fun(W:World)(hc:aw ae W t.az [.int .i64 k,.string (B n),.int .i64 i,.slice a len cap])=>wW t hs W _ hc
  have C2:=fun(W:World)(hc:aw ae W t.az [.int .i64 k,.string (B n),.int .i64 i,.slice a len cap])=>si t hs W _ hc
  have HW:=ak aF;obtain⟨H,hH⟩:∃ H,H=w.heap.size:=⟨_,rfl⟩;have HH:=ak hH;rw[<-hH]at iV dK di;have HO:=ak hO;clear aF hH h hO hs;generalize hz:t.size=ez at *
  generalize hd:t.depth=ed at *
  clear hz hd;have S1:gC H (.int .i64 k) (.string (B n)) (.int .i64 i) (.slice a len cap) w1:=iV.cells;have hd:af ae w1 w1.drew:=(af.refl ae w1).drew;have Sd:=S1.ag hd (fun x=>x);have gJ:H≠H+1:=by omega
  have B9:=dK.kept hd;go_enter Tryz.func196,Tryz.ntmps196;go_upto_region 1 with fail;rw[<-show B []={ data:=#[] }from rfl,<-HW.out,<-HH.out]
  go_region_held3 (fun w'=>gC H (.int .i64 k) (.string (B n)) (.int .i64 i) (.slice a len cap) w')
    (first |(with_reducible assumption)|(with_reducible exact Sd)|(with_reducible exact gC.Ac S4 gJ _ _ _ _ _ _))
    (first
      |((go_at_call 122);(with_reducible refine(C1 _ (dj (di.on hd))).mono ?_);rintro e w3 ⟨rfl,aZ⟩;have S3:=Sd.ag aZ (fun x=>x);have iL:=B9.kept aZ)
      |((go_at_call 123);(with_reducible refine(C2 _ (dj ((di.on hd).on aZ))).mono ?_);rintro e w4 ⟨rfl,bw⟩;have S4:=S3.ag bw (fun x=>x);have iX:=iL.kept bw;have c8:=iX.cells;have z8:=iX.aq;obtain⟨c80,c81,c82,c83,c84,c85⟩:=c8;obtain⟨z80,z81,z82,z83,z84,z85⟩:=z8))
  all_goals
    have ah:=iX.set (d0:=.int .i64 k) (d1:=.string (B n)) (d2:=.int .i64 i) (d3:=.slice a len cap) (d4:=.int .i64 ez) (d5:=.int .i64 ed);obtain⟨e0,e1,e2,e3,e4,e5⟩:=ah.1.cells;have dJ:=ak (And.intro e0 (And.intro e1 (And.intro e2 (And.intro e3 (And.intro e4 (And.intro e5 ah.2))))));clear e0 e1 e2 e3 e4 e5 ah;go_wp2_with fail;obtain⟨e0,e1,e2,e3,e4,e5,ah⟩:=dJ.out;refine bodyPost_ret (v:=.agg #[.int .i64 k,.string (B n),.int .i64 i,.slice a len cap,.int .i64 ez,.int .i64 ed]) ?_ rfl ?_
    ·simp[results,Tryz.f196,go_sem,e0,e1,e2,e3,e4,e5]
    exact⟨rfl,aw.weaken (fun b _ e=>.inl e) _ _ (aw.ag ah (fun b e=>.inr (by omega)) _ _ (((di.on hd).on aZ).on bw)),(((aH.and hd).and aZ).and bw).trans ah (fun b hb e=>by have:=HH.out;omega)⟩
abbrev Fo(W:World)(b:Nat)(e:Int):Prop:=W.heap[b]? =some (.cells #[.int .i64 e] 30 (0,0))
theorem lB{W:World}{b:Nat}{e:Int}(h:Fo W b e):W.cell? ⟨b,0,none⟩=some (.int .i64 e)/\W.frozen? ⟨b,0,none⟩=false/\b<W.heap.size:=⟨by simp[World.cell?,h],by simp[World.frozen?,h],(Array.getElem?_eq_some_iff.1 h).1⟩
theorem lz{W W':World}{b:Nat}{e:Int}{S:Nat->Prop}(h:Fo W b e)(hU:af S W W')(hS:¬S b):Fo W' b e:=(hU.block b (lB h).2.2 hS).trans h
theorem Ck{W:World}{b:Nat}{e:Int}(h:Fo W b e)(e':Int):Fo (W.setCell ⟨b,0,none⟩ (.int .i64 e')) b e':=by
  obtain⟨aB,hk⟩:=Array.getElem?_eq_some_iff.1 h;show(W.heap.modify b _)[b]? =_;rw[Array.getElem?_eq_getElem (by rw[Array.size_modify];exact aB),Array.getElem_modify_self,hk];rfl
theorem Fh(p q:Nat)(w:World):
    CallsD Tryz.prog 209 #[.pointer (some ⟨p,0,none⟩),.pointer (some ⟨q,0,none⟩)] .returning w fun e u' w'=>e=.returned (.tuple #[])/\u'=.returning/\w'=w:=by
  refine callsD_of_wpS Tryz.func209 rfl fun c₀ cs hu=>?_
  apply wpS_seq;apply wpS_region;simp[wpOpsS,go_sem,recoverD,hu,Tryz.ntmps209,Exit.thenS];rw[show(Array.replicate 11 undef)=#[undef,undef,undef,undef,undef,undef,undef,undef,undef,undef,undef]from rfl];simp only[List.setIfInBounds_toArray,List.set_cons_succ,List.set_cons_zero,List.append_toArray,List.cons_append,List.nil_append];refine wpS_of_wp ?_;go_wp2_with fail;cases c₀
  simp_all [bodyPostS,results,Tryz.results209]
theorem A9(ev:Int)(xt:TypeId)(w:World):Sem.run Tryz.prog (Instr.typeAssert (.iface 30 (.int .i64 ev)) xt 30 true) w=.ok (.tuple #[.int .i64 ev,.bool true]) w:=by
  have hu:Tryz.prog.underlying 30=Tryz.prog.underlying 3:=by kernel_rfl
  have h3:=Tryz.underlying3;rw[h3]at hu;unfold Instr.typeAssert;simp[run_underlying hu]
theorem ug(p q:Nat)(hpq:p≠q)(x y z:Int)(xn:List UInt8)(xa:Option Addr)(xl xc:Nat)(ev:Int)(Sv:List PanicEntry)(w:World)(hp:au w p (.int .i64 x) (.string (B xn)) (.int .i64 y) (.slice xa xl xc) 29)(hq:Fo w q z):
    CallsD Tryz.prog 209 #[.pointer (some ⟨p,0,none⟩),.pointer (some ⟨q,0,none⟩)] (.panicking ({ v:=.iface 30 (.int .i64 ev),recovered:=false } :: Sv)) w fun e u' w'=>
      e=.returned (.tuple #[])/\u'=.panicking ({ v:=.iface 30 (.int .i64 ev),recovered:=true } :: Sv)/\
       w'=((((w.setCell ⟨p,0,none⟩ (.int .i64 0)).setCell ⟨p,1,none⟩ (.string (B []))).setCell ⟨p,2,none⟩ (.int .i64 0)).setCell ⟨p,3,none⟩ (.slice none 0 0)).setCell ⟨q,0,none⟩ (.int .i64 ev):=by
  obtain⟨c0,c1,c2,c3⟩:=hp.cells;obtain⟨f0,f1,f2,f3⟩:=hp.aq;obtain⟨d0,d1,_⟩:=lB hq;have gJ:q≠p:=fun e=>hpq e.symm
  have hta:=A9 ev;refine callsD_of_wpS Tryz.func209 rfl fun c₀ cs hu=>?_
  apply wpS_seq;apply wpS_region;simp[wpOpsS,go_sem,recoverD,hu,Tryz.ntmps209,Exit.thenS];rw[show(Array.replicate 11 undef)=#[undef,undef,undef,undef,undef,undef,undef,undef,undef,undef,undef]from rfl];simp only[List.setIfInBounds_toArray,List.set_cons_succ,List.set_cons_zero,List.append_toArray,List.cons_append,List.nil_append];refine wpS_of_wp ?_;go_wp2_with fail;refine⟨rfl,_,rfl,.tuple #[],?_,rfl,rfl,rfl⟩;simp[results,Tryz.results209]
theorem Gn(k i s d:Int)(n:List UInt8)(a:Option Addr)(len cap:Nat)(w:World):Sem.run Tryz.prog (Instr.field 200 (.agg #[.int .i64 k,.string (B n),.int .i64 i,.slice a len cap,.int .i64 s,.int .i64 d]) 0) w=.ok (.agg #[.int .i64 k,.string (B n),.int .i64 i,.slice a len cap]) w:=by
  kernel_rfl
theorem GA(F:FuncId)(jJ:List Value)(r:Tm.gp)(SG:r.e≠0->r.t=Tm.aO)(O:Nat->Prop)(w:World)
    (Xe:∀ args w,Sem.run Tryz.prog (callFunc F args) w=.ok (Next.enter F args) w)
    (hF:∀(W:World)(wk:Nat),af ae w W->wk=w.heap.size+1+1->W.heap.size=w.heap.size+3->im wk 0 W->Calls Tryz.prog F (.pointer (some ⟨wk,0,none⟩) :: jJ).toArray W fun e W'=>OA (fun b=>O b\/(w.heap.size<=b/\b<w.heap.size+3)) r e W'/\af (fun b=>b=wk) W W'):
    Calls Tryz.prog 194 #[.func (.func F) #[] jJ.toArray] w fun e w'=>∃(k i:Int)(n:List UInt8)(a:Option Addr)(len cap:Nat),e=.returned (.tuple #[.agg #[.int .i64 k,.string (B n),.int .i64 i,.slice a len cap],.int .i64 r.e])/\
      aw O w' r.t.az [.int .i64 k,.string (B n),.int .i64 i,.slice a len cap]/\af ae w w':=by
  have hmf:∀(fn:Fn)(first cap:Array Value)(w:World),(Instr.makeFunc fn first cap).run Tryz.prog w=.ok (.func fn first cap) w:=fun _ _ _ _=>rfl
  obtain⟨w1,aF⟩:∃ w1,w1=((w.alloc (.cells #[.int .i64 0,.string (B []),.int .i64 0,.slice none 0 0] 29)).alloc (.cells #[.int .i64 0] 30)).alloc (.cells #[.int .i64 0] 3):=⟨_,rfl⟩;have aH:af ae w w1:=by rw[aF];exact(((af.refl ae w).alloc _).alloc _).alloc _
  have mN:au w1 w.heap.size (.int .i64 0) (.string (B [])) (.int .i64 0) (.slice none 0 0) 29:=by rw[aF];exact((au.av rfl).kept ((af.refl ae _).alloc _)).kept ((af.refl ae _).alloc _)
  have he1:Fo w1 (w.heap.size+1) 0:=by
    rw[aF];have h:=heap_alloc_new (w.alloc (.cells #[.int .i64 0,.string (B []),.int .i64 0,.slice none 0 0] 29)) (.cells #[.int .i64 0] 30);rw[World.size_alloc]at h;exact lz h ((af.refl ae _).alloc _) (fun x=>x)
  have Gm:im (w.heap.size+1+1) 0 w1:=by
    rw[aF];have h:=heap_alloc_new ((w.alloc (.cells #[.int .i64 0,.string (B []),.int .i64 0,.slice none 0 0] 29)).alloc (.cells #[.int .i64 0] 30)) (.cells #[.int .i64 0] 3);rw[World.size_alloc,World.size_alloc]at h;exact h
  have mX:w1.heap.size=w.heap.size+3:=by rw[aF];simp
  have CF:=hF w1 _ aH rfl mX Gm;have HW:=ak aF;obtain⟨H,hH⟩:∃ H,H=w.heap.size:=⟨_,rfl⟩;have HH:=ak hH;rw[<-hH]at mN he1 Gm CF;clear aF hH hF mX;go_enter_defers Tryz.func194,Tryz.ntmps194
  go_wp2_with fail;rw[<-show B []={ data:=#[] }from rfl,<-HW.out,<-HH.out];by_cases he:r.e=0
  ·have HE:=ak he;clear he
   (with_reducible refine CF.mono ?_);rintro e w2 ⟨lS,aL⟩;obtain⟨k,n,i,a,len,cap,rfl,fG⟩:=lS.ok HE.out;have iD:=mN.ag aL (by omega);have Ey:=lz he1 aL (by omega);obtain⟨c0,c1,c2,c3⟩:=iD.cells;obtain⟨f0,f1,f2,f3⟩:=iD.aq;obtain⟨d0,d1,d2⟩:=lB Ey;have SU:=iD.set (d0:=.int .i64 k) (d1:=.string (B n)) (d2:=.int .i64 i) (d3:=.slice a len cap);have hn:H≠H+1:=by omega
   have HS:=ak SU;have X1:=Gn k i r.t.size r.t.depth n a len cap;clear SU;go_wp2_with fail;obtain⟨g1,g2⟩:=HS.out;have g3:af (fun b=>b=H+1) ((((w2.setCell ⟨H,0,none⟩ (.int .i64 k)).setCell ⟨H,1,none⟩ (.string (B n))).setCell ⟨H,2,none⟩ (.int .i64 i)).setCell ⟨H,3,none⟩ (.slice a len cap)) (((((w2.setCell ⟨H,0,none⟩ (.int .i64 k)).setCell ⟨H,1,none⟩ (.string (B n))).setCell ⟨H,2,none⟩ (.int .i64 i)).setCell ⟨H,3,none⟩ (.slice a len cap)).setCell ⟨H+1,0,none⟩ (.int .i64 0)):=af.set (af.refl _ _) 0 _;have g4:=(g1.ag g3 hn).cells;have g5:=(lB (Ck (lz Ey g2 hn.symm) 0)).1;have gR:=aw.weaken (fun b _ e=>.inl e) _ _ (aw.ag g3 (fun b e=>.inr (by omega:H<=b/\b<H+3)) _ _ (aw.ag g2 (fun b e=>.inr (by omega:H<=b/\b<H+3)) _ _ fG));have gU:af ae w (((((w2.setCell ⟨H,0,none⟩ (.int .i64 k)).setCell ⟨H,1,none⟩ (.string (B n))).setCell ⟨H,2,none⟩ (.int .i64 i)).setCell ⟨H,3,none⟩ (.slice a len cap)).setCell ⟨H+1,0,none⟩ (.int .i64 0)):=((aH.trans aL (fun b hb e=>by have:=HH.out;omega)).trans g2 (fun b hb e=>by have:=HH.out;omega)).trans g3 (fun b hb e=>by have:=HH.out;omega);obtain⟨g40,g41,g42,g43⟩:=g4;refine leaves_cons (f:=209) (args:=#[.pointer (some ⟨H,0,none⟩),.pointer (some ⟨H+1,0,none⟩)]) (by simp) (by simp[go_sem]) ?_;refine(Fh H (H+1) _).mono ?_;rintro e u' w4 ⟨rfl,rfl,rfl⟩;refine⟨.tuple #[.agg #[.int .i64 k,.string (B n),.int .i64 i,.slice a len cap],.int .i64 0],?_,k,i,n,a,len,cap,by rw[HE.out],gR,gU⟩;simp[results,Tryz.f194,go_sem,g40,g41,g42,g43,g5]
  have HE:=ak he;clear he
  (with_reducible refine CF.mono ?_);rintro e w2 ⟨lS,aL⟩;obtain rfl:=lS.bad HE.out;unfold mY;go_wp2_with fail;have hn:H≠H+1:=by omega
  have iD:=mN.ag aL (by omega);have Ey:=lz he1 aL (by omega);obtain⟨g1,g2⟩:=iD.set (d0:=.int .i64 0) (d1:=.string (B [])) (d2:=.int .i64 0) (d3:=.slice none 0 0);have g3:af (fun b=>b=H+1) ((((w2.setCell ⟨H,0,none⟩ (.int .i64 0)).setCell ⟨H,1,none⟩ (.string (B []))).setCell ⟨H,2,none⟩ (.int .i64 0)).setCell ⟨H,3,none⟩ (.slice none 0 0)) (((((w2.setCell ⟨H,0,none⟩ (.int .i64 0)).setCell ⟨H,1,none⟩ (.string (B []))).setCell ⟨H,2,none⟩ (.int .i64 0)).setCell ⟨H,3,none⟩ (.slice none 0 0)).setCell ⟨H+1,0,none⟩ (.int .i64 r.e)):=af.set (af.refl _ _) 0 _;have g4:=(g1.ag g3 hn).cells;have g5:=(lB (Ck (lz Ey g2 hn.symm) r.e)).1;have gU:af ae w (((((w2.setCell ⟨H,0,none⟩ (.int .i64 0)).setCell ⟨H,1,none⟩ (.string (B []))).setCell ⟨H,2,none⟩ (.int .i64 0)).setCell ⟨H,3,none⟩ (.slice none 0 0)).setCell ⟨H+1,0,none⟩ (.int .i64 r.e)):=((aH.trans aL (fun b hb e=>by have:=HH.out;omega)).trans g2 (fun b hb e=>by have:=HH.out;omega)).trans g3 (fun b hb e=>by have:=HH.out;omega);obtain⟨g40,g41,g42,g43⟩:=g4;refine leaves_cons (f:=209) (args:=#[.pointer (some ⟨H,0,none⟩),.pointer (some ⟨H+1,0,none⟩)]) (by simp) (by simp[go_sem]) ?_;refine(ug H (H+1) hn 0 0 0 [] none 0 0 r.e [] w2 iD Ey).mono ?_;rintro e u' w4 ⟨rfl,rfl,rfl⟩;refine⟨.tuple #[.agg #[.int .i64 0,.string (B []),.int .i64 0,.slice none 0 0],.int .i64 r.e],?_,0,0,[],none,0,0,rfl,?_,gU⟩
  ·simp[results,Tryz.f194,go_sem,g40,g41,g42,g43,g5]
  rw[SG HE.out];exact bD 0 [] 0
end
section
open Go.RowKit Go.LF
theorem eU.mu{W:World}{g:Nat}{c0 c1 c2:Value}{T:TypeId}(h:eU W g c0 c1 c2 T)(v:Value):eU (W.setCell ⟨g,1,none⟩ v) g c0 v c2 T:=by
  obtain⟨aB,hk⟩:=Array.getElem?_eq_some_iff.1 h;show(W.heap.modify g _)[g]? =_;rw[Array.getElem?_eq_getElem (by rw[Array.size_modify];exact aB),Array.getElem_modify_self,hk];rfl
theorem eU.aq{W:World}{g:Nat}{c0 c1 c2:Value}{T:TypeId}(h:eU W g c0 c1 c2 T)(o:Nat):W.frozen? ⟨g,o,none⟩=false:=by unfold eU at h;simp[World.frozen?,h]
end
end Go.Proofs.YthgmimncdjhgnaaGreatDoor
