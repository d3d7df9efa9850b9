/- A row of zp wh a call makes and ajT. -/
import Derived.Test.YthgmimncdjhgnaaGreatDoorXFB
import Derived.BigQuiet
set_option maxRecDepth 100000
set_option maxHeartbeats 16000000
namespace Go.Proofs.YthgmimncdjhgnaaGreatDoor
section
open Go.RowKit Go.LF
structure sF(O:Nat->Prop)(n:Nat)(W:World)(g:Nat)(us:List Tm):Prop where
  len:us.length<=n
  lt:g<W.heap.size
  fr:∀ o,W.frozen? ⟨g,o,none⟩=false
  cell:∀ o,o<n * 4->∃ u,W.cell? ⟨g,o,none⟩=some u
  rep:∀ i(h:i<us.length),∃ cs,cs.length=4/\(∀ m u,cs[m]? =some u->W.cell? ⟨g,i * 4+m,none⟩=some u)/\aw (fun b=>O b\/b=g) W us[i].az cs
section
variable {O S:Nat->Prop}{n:Nat}{W W':World}{g:Nat}{us:List Tm}
theorem sF.ag(h:sF O n W g us)(hU:af S W W')(hS:∀ b,S b->O b)(hg:¬S g):sF O n W' g us:=by
  refine⟨h.len,Nat.lt_of_lt_of_le h.lt hU.size,fun o=>?_,fun o ho=>?_,fun i hi=>?_⟩
  ·rw[hU.cells.2 g o h.lt hg];exact h.fr o
  ·obtain⟨u,hu⟩:=h.cell o ho;exact⟨u,hU.cell hu hg⟩
  obtain⟨cs,h1,h2,h3⟩:=h.rep i hi;exact⟨cs,h1,fun m u hu=>hU.cell (h2 m u hu) hg,aw.ag hU (fun b e=>.inl (hS b e)) _ _ h3⟩
theorem sF.made{T:TypeId}{c:Array Value}(n:Nat)(hg:W.heap.size=g):sF O n (W.alloc (.cells (madeCells c (n * 4)) T)) g []:=by
  have hb:(W.alloc (.cells (madeCells c (n * 4)) T)).heap[g]? =some (.cells (madeCells c (n * 4)) T (0,0)):=by rw[<-hg];exact heap_alloc_new W _
  have aB:g<(W.alloc (.cells (madeCells c (n * 4)) T)).heap.size:=by simp[hg]
  have hs:(madeCells c (n * 4)).size=n * 4:=by simp[madeCells]
  generalize madeCells c (n * 4)=cs at *
  generalize W.alloc (.cells cs T)=V at *
  refine⟨Nat.zero_le _,aB,fun o=>by simp only[World.frozen?,hb];simp,fun o ho=>?_,fun i h=>by simp at h⟩;exact⟨cs[o]'(by omega),by simp only[World.cell?,hb];exact Array.getElem?_eq_getElem (show o<cs.size by omega)⟩
theorem sF.next{u:Tm}{d0 d1 d2 d3:Value}(h:sF O n W g us)(hj:us.length<n)(hR:aw (fun b=>O b\/b=g) W u.az [d0,d1,d2,d3])
    (hW:W'=(((W.setCell ⟨g,us.length * 4,none⟩ d0).setCell ⟨g,us.length * 4+1,none⟩ d1).setCell ⟨g,us.length * 4+2,none⟩ d2).setCell ⟨g,us.length * 4+3,none⟩ d3):
    sF O n W' g (us++[u])/\af (fun b=>b=g) W W':=by
  obtain⟨_,u0⟩:=h.cell (us.length * 4) (by omega);obtain⟨_,u1⟩:=h.cell (us.length * 4+1) (by omega);obtain⟨_,u2⟩:=h.cell (us.length * 4+2) (by omega);obtain⟨_,u3⟩:=h.cell (us.length * 4+3) (by omega);obtain⟨⟨a0,a1,a2,a3⟩,ao,aU⟩:=iv u0 u1 u2 u3 hW;refine⟨⟨by simp;omega,Nat.lt_of_lt_of_le h.lt aU.size,fun o=>?_,fun o ho=>?_,fun i hi=>?_⟩,aU⟩
  ·subst hW;simp only[World.frozen?_setCell];exact h.fr o
  ·by_cases e0:o=us.length * 4
   ·exact⟨_,by rw[e0];exact a0⟩
   by_cases e1:o=us.length * 4+1
   ·exact⟨_,by rw[e1];exact a1⟩
   by_cases e2:o=us.length * 4+2
   ·exact⟨_,by rw[e2];exact a2⟩
   by_cases e3:o=us.length * 4+3
   ·exact⟨_,by rw[e3];exact a3⟩
   obtain⟨u,hu⟩:=h.cell o ho;exact⟨u,(ao o e0 e1 e2 e3).trans hu⟩
  by_cases aB:i<us.length
  ·obtain⟨cs,h1,h2,h3⟩:=h.rep i aB;refine⟨cs,h1,fun m v hv=>?_,?_⟩
   ·have hm:m<4:=by rw[<-h1];exact(List.getElem?_eq_some_iff.1 hv).1
    rw[ao _ (by omega) (by omega) (by omega) (by omega)];exact h2 m v hv
   rw[List.getElem_append_left aB];exact aw.ag aU (fun b e=>.inr e) _ _ h3
  obtain rfl:i=us.length:=by simp at hi;omega
  refine⟨[d0,d1,d2,d3],rfl,fun m v hv=>?_,?_⟩
  ·match m,hv with
   |0,hv=>cases hv;exact a0
   |1,hv=>cases hv;exact a1
   |2,hv=>cases hv;exact a2
   |3,hv=>cases hv;exact a3
   |m+4,hv=>simp at hv
  simp only[List.getElem_append_right (Nat.le_refl _),Nat.sub_self,List.getElem_cons_zero];exact aw.ag aU (fun b e=>.inr e) _ _ hR
theorem sF.row(h:sF O n W g us)(_hl:us.length=n)(hg:¬O g):ai O W 4 (us.map Tm.az) (some ⟨g,0,none⟩) 0:=by
  refine bT _ _ _ (fun i hi=>?_);obtain⟨cs,h1,h2,h3⟩:=h.rep i (by simpa using hi);refine⟨g,0,cs,rfl,h.lt,hg,h1,fun m u hu=>?_,?_⟩
  ·rw[show 0+0+i * 4+m=i * 4+m by omega];exact h2 m u hu
  simp only[List.getElem_map];exact aw.weaken (fun b _ e=>.inl e) _ _ h3
end
theorem Iq:(Tryz.prog.info? 29).map (fun i=>(i.zero,i.size,i.bytes))=some (some (.agg #[.int .i64 0,.string (B []),.int .i64 0,.slice none 0 0]),4,56):=by kernel_rfl
theorem vF(n:Nat)(hn:n<=1048576)(w:World):
    (Instr.makeSlice 26 (.int .i64 n) (.int .i64 n)).run Tryz.prog w=.ok (.slice (some ⟨w.heap.size,0,none⟩) n n) (w.alloc (.cells (madeCells #[.int .i64 0,.string (B []),.int .i64 0,.slice none 0 0] (n * 4)) 29)):=by
  obtain⟨i0,hi,fS,gn,eH⟩:=info_parts Iq;have h:=run_make (P:=Tryz.prog) w 26 29 i0 _ (by kernel_rfl) hi fS .i64 .i64 n n (by omega) (by omega) (by rw[eH];omega) (by omega);rw[Int.toNat_natCast,gn]at h;exact h
end
section
open Go.RowKit Go.LF
def ExR(O:Nat->Prop)(xb:Nat)(la:Option Addr)(ll lc:Nat)(r:Tm.gp)(w:World)(e:Ending)(w':World):Prop:=
  ∃(k i:Int)(n:List UInt8)(a:Option Addr)(len cap:Nat),e=.returned (.tuple #[.agg #[.int .i64 k,.string (B n),.int .i64 i,.slice a len cap],.int .i64 r.e])/\
   aw O w' r.t.az [.int .i64 k,.string (B n),.int .i64 i,.slice a len cap]/\bK w' xb (.slice la ll lc) (.int .i64 (r.w:Int)) 78/\af (fun b=>b=xb) w w'
def TL(l:List Mv)(n:Nat)(t:Tm):Prop:=
  ∀(c xb:Nat)(O:Nat->Prop)(w:World)(la:Option Addr)(lc:Nat)(cs:List Value),16385<=n+c->c<=16384->t.wf=0->Kn l.length t->O xb->(∀ b,O b->b<w.heap.size)->
   bK w xb (.slice la l.length lc) (.int .i64 (c:Int)) 78->ai O w 6 (l.map Mv.az) la 0->aw O w t.az cs->
   Calls Tryz.prog 54 #[.pointer (some ⟨xb,0,none⟩),.agg cs.toArray] w (ExR O xb la l.length lc (gG l n t c) w)
def aau(l:List Mv)(n:Nat):Prop:=
  ∀(m:Mv)(us:List Tm)(c xb:Nat)(O:Nat->Prop)(w:World)(la:Option Addr)(lc:Nat)(cs:List Value)(ua:Option Addr)(uc:Nat),16385<=n+1+c->c<=16384->m∈l->m.value≠[]->us.length<=200->us.length<=uc->(∀ u∈us,u.isObj=true/\u.small=true/\Kn l.length u)->O xb->(∀ b,O b->b<w.heap.size)->
   bK w xb (.slice la l.length lc) (.int .i64 (c:Int)) 78->ai O w 6 (l.map Mv.az) la 0->aw O w m.az cs->ai O w 4 (us.map Tm.az) ua 0->
   Calls Tryz.prog 121 #[.pointer (some ⟨xb,0,none⟩),.agg cs.toArray,.slice ua us.length uc] w (ExR O xb la l.length lc (Oh l n m us c) w)
theorem GO{k i:Int}{n:List UInt8}{l:List Tm}(h:(Tm.mk k n i l).wf=0):∀ t∈l,t.wf=0:=by
  obtain⟨h1,h2,h3⟩:=Tm.dz h;intro t ht
  have hs:t.small=true:=by
    refine Jg (k:=k) (n:=n) (i:=i) ?_ t ht;unfold Tm.small;rw[Bool.and_eq_true,decide_eq_true_eq,decide_eq_true_eq];exact⟨h2,by omega⟩
  have key:t.isObj=true\/t.aC=true\/t.aI=true:=by
    rcases h1 with h1 |h1 |h1
    ·exact .inl ((Tm.lK h1).1 t ht)
    ·rw[Tm.aC,Tm.isAtom]at h1;simp only[Bool.or_eq_true,Bool.and_eq_true]at h1;rcases h1 with h1 |h1
     ·have:=h1.2.2;rw[Tm.cM,List.all_eq_true]at this;exact .inl (this t ht)
     have:=h1.2.2;rw[Tm.mB,List.all_eq_true]at this;exact .inr (.inl (this t ht))
    unfold Tm.aI at h1;split at h1
    ·rename_i heq;cases heq
     simp only[Bool.and_eq_true]at h1;rcases List.mem_cons.1 ht with rfl |ht
     ·exact .inr (.inl h1.2.2.1)
     obtain rfl:=List.mem_singleton.1 ht;exact .inr (.inr h1.2.2.2)
    rename_i heq;cases heq
    simp only[Bool.and_eq_true,List.isEmpty_iff]at h1;rw[h1.2.2.2]at ht;cases ht
  unfold Tm.wf;rw[hs];rcases key with h |h |h
  ·rw[h];rfl
  ·rw[h];simp
  rw[h];simp
theorem VI{α β:Type}{P:α->β->Prop}{l:List α}{m:List β}(h:Pw P l m):∀ u∈m,∃ t∈l,P t u:=by
  induction h with
  |nil=>intro u hu;cases hu
  |cons h1 _ ih=>
   intro u hu;rcases List.mem_cons.1 hu with rfl |hu
   ·exact⟨_,by simp,h1⟩
   obtain⟨t,ht,hp⟩:=ih u hu;exact⟨t,by simp[ht],hp⟩
theorem Ei{l:List Mv}(hG:GW l){n c:Nat}{ts:List Tm}(h:(eN (nM l (gG l n)) ts c).e=0):∀ u∈(eN (nM l (gG l n)) ts c).ts,u.small=true/\((∀ t∈ts,t.isObj=true)->u.isObj=true)/\((∀ t∈ts,Kn l.length t)->Kn l.length u):=by
  have hP:=ur (nM l (gG l n)) (fun t u=>u.small=true/\(t.isObj=true->u.isObj=true)/\(Kn l.length t->Kn l.length u)) ts (fun t _ c he=>by
    rw[<-eZ]at he ⊢;exact⟨zr l (n+1) t c he,(zS l (n+1) t c he).1,fun hk=>Az Fg AW l (fun m hm v hv=>(hG.mv m hm).kn.2 v hv) (n+1) t c hk⟩) c h
  intro u hu;obtain⟨t,ht,h1,h2,h3⟩:=VI hP u hu;exact⟨h1,fun ho=>h2 (ho t ht),fun hk=>h3 (hk t ht)⟩
theorem qt{t:Tm}(h:t.aC=true)(hs:t.small=true):t.wf=0:=by unfold Tm.wf;rw[h,hs];simp
theorem sV{us:List Tm}(h:∀ u∈us,u.small=true):Tm.aD us<=us.length * 4096:=by
  induction us with
  |nil=>simp[Tm.aD]
  |cons u us ih=>
   have h1:=h u (by simp);have h2:=ih (fun v hv=>h v (by simp[hv]));unfold Tm.small at h1;rw[Bool.and_eq_true,decide_eq_true_eq]at h1;simp only[Tm.aD,List.length_cons,Nat.add_mul,Nat.one_mul];omega
theorem uF{i:Int}{n:List UInt8}{ts:List Tm}(h:(Tm.mk 6 n i ts).wf=0):(∀ t∈ts,t.isObj=true)/\0<=i:=by
  rcases(Tm.dz h).1 with h1 |h1 |h1
  ·refine⟨(Tm.lK h1).1,?_⟩;rw[Tm.isObj]at h1;simp at h1;omega
  ·rw[Tm.aC,Tm.isAtom]at h1;simp at h1
  unfold Tm.aI at h1;split at h1
  ·rename_i heq;cases heq;simp at h1
  rename_i heq;cases heq;simp at h1
abbrev tD(xb H mb mo:Nat)(x0 t0 t1 t2 t3 m0 m1 m2 m3 m4 m5:Value)(w':World):Prop:=
  w'.cell? ⟨xb,0,none⟩=some x0/\(w'.cell? ⟨H,0,none⟩=some t0/\w'.cell? ⟨H,1,none⟩=some t1/\w'.cell? ⟨H,2,none⟩=some t2/\w'.cell? ⟨H,3,none⟩=some t3)/\
  (w'.cell? ⟨mb,mo,none⟩=some m0/\w'.cell? ⟨mb,mo+1,none⟩=some m1/\w'.cell? ⟨mb,mo+2,none⟩=some m2/\w'.cell? ⟨mb,mo+3,none⟩=some m3/\w'.cell? ⟨mb,mo+4,none⟩=some m4/\w'.cell? ⟨mb,mo+5,none⟩=some m5)
theorem tD.ag{S:Nat->Prop}{xb H mb mo:Nat}{x0 t0 t1 t2 t3 m0 m1 m2 m3 m4 m5 y0:Value}{w w':World}(h:tD xb H mb mo x0 t0 t1 t2 t3 m0 m1 m2 m3 m4 m5 w)(hU:af S w w')(h1:w'.cell? ⟨xb,0,none⟩=some y0)(h2:¬S H)(h3:¬S mb):tD xb H mb mo y0 t0 t1 t2 t3 m0 m1 m2 m3 m4 m5 w':=by
  obtain⟨a0,⟨b0,b1,b2,b3⟩,c0,c1,c2,c3,c4,c5⟩:=h;exact⟨h1,⟨hU.cell b0 h2,hU.cell b1 h2,hU.cell b2 h2,hU.cell b3 h2⟩,hU.cell c0 h3,hU.cell c1 h3,hU.cell c2 h3,hU.cell c3 h3,hU.cell c4 h3,hU.cell c5 h3⟩
theorem tD.kT{xb H mb mo r:Nat}{x0 t0 t1 t2 t3 m0 m1 m2 m3 m4 m5:Value}{w:World}(h:tD xb H mb mo x0 t0 t1 t2 t3 m0 m1 m2 m3 m4 m5 w)(h1:¬xb=r)(h2:¬H=r)(h3:¬mb=r)(d0 d1 d2 d3:Value):
    tD xb H mb mo x0 t0 t1 t2 t3 m0 m1 m2 m3 m4 m5 ((((w.setCell ⟨r,0,none⟩ d0).setCell ⟨r,1,none⟩ d1).setCell ⟨r,2,none⟩ d2).setCell ⟨r,3,none⟩ d3):=by
  have hU:af (fun b=>b=r) w ((((w.setCell ⟨r,0,none⟩ d0).setCell ⟨r,1,none⟩ d1).setCell ⟨r,2,none⟩ d2).setCell ⟨r,3,none⟩ d3):=af.set (af.set (af.set (af.set (af.refl _ _) 0 _) 1 _) 2 _) 3 _;exact h.ag hU (hU.cell h.1 h1) h2 h3
theorem pP{O:Nat->Prop}{xb:Nat}{la:Option Addr}{ll lc:Nat}{r:Tm.gp}{w W W':World}{r0:Nat}{E k i:Int}{n:List UInt8}{a:Option Addr}{len cap:Nat}(hE:E=r.e)(lV:aw (fun b=>O b\/b=r0) W r.t.az [.int .i64 k,.string (B n),.int .i64 i,.slice a len cap])
    (hB:bK W xb (.slice la ll lc) (.int .i64 (r.w:Int)) 78) (hU:af (fun b=>b=xb) w W) (ah:af (fun b=>b=r0) W W') (h1:w.heap.size<=r0) (h2:xb<w.heap.size):
    ExR O xb la ll lc r w (.returned (.tuple #[.agg #[.int .i64 k,.string (B n),.int .i64 i,.slice a len cap],.int .i64 E])) W':=by
  subst hE;exact⟨k,i,n,a,len,cap,rfl,aw.weaken (fun b _ e=>.inl e) _ _ (aw.ag ah (fun b e=>.inr e) _ _ lV),hB.ag ah (by omega),hU.trans ah (fun b hb e=>by omega)⟩
end
section
open Go.RowKit Go.LF
theorem gX(w:World)(n:Nat):af ae w (w.drewN n):=⟨rfl,rfl,rfl,Nat.le_refl _,fun _ _ _=>rfl⟩
theorem Cg(l:List Mv)(hG:GW l)(n:Nat)(RP:aau l n)(t:Tm):TL l (n+1) t:=by
  induction t using Tm.ind with
  |h k nm i ts ih=>
   intro c xb O w la lc cs hn hc jm FB wO hO hX hL hR;obtain⟨ta,tc,rfl,EM,hT⟩:=bg.1 hR;have m7:=Tm.dz jm;have De:=GO jm;have F1:=(Tm.cz _ _ _ _).1 FB;have Lx:=(Tm.bV _).1 F1.2;have xO:=F1.1;have zW:=vF ts.length (by have:=xO.2;omega);obtain⟨tl,jh⟩:∃ tl,tl=ts.length:=⟨_,rfl⟩;rw[<-jh]at zW xO EM;have aaH:tl<=200:=xO.2;obtain⟨w3,cQ⟩:∃ w3,w3=((w.alloc (.cells #[.int .i64 k,.string (B nm),.int .i64 i,.slice ta tl tc] 29)).alloc (.cells #[.int .i64 0,.string (B []),.int .i64 0,.slice none 0 0] 29)).alloc (.cells (madeCells #[.int .i64 0,.string (B []),.int .i64 0,.slice none 0 0] (tl * 4)) 29):=⟨_,rfl⟩;have aZ:af ae w w3:=by rw[cQ];exact(((af.refl ae w).alloc _).alloc _).alloc _
   have rH:au w3 w.heap.size (.int .i64 k) (.string (B nm)) (.int .i64 i) (.slice ta tl tc) 29:=by rw[cQ];exact((au.av rfl).kept ((af.refl ae _).alloc _)).kept ((af.refl ae _).alloc _)
   have iL:au w3 (w.heap.size+1) (.int .i64 0) (.string (B [])) (.int .i64 0) (.slice none 0 0) 29:=by rw[cQ];exact(au.av (by simp)).kept ((af.refl ae _).alloc _)
   obtain⟨H,hH⟩:∃ H,H=w.heap.size:=⟨_,rfl⟩;rw[<-hH]at rH iL;have j9:∀ b,O b->b<H:=by rw[hH];exact hO
   have BP:sF (fun b=>O b\/b=H\/b=H+1) tl w3 (H+1+1) []:=by rw[cQ];exact sF.made tl (by simp[hH])
   have Ht:=hX.kept aZ;have xP:=(ai.aG _ _ _ _ hL).on aZ;have lU:=(ai.aG _ _ _ _ hT).on aZ;rw[<-hH]at xP lU;obtain⟨ll,du⟩:∃ ll,ll=l.length:=⟨_,rfl⟩;rw[<-du]at Ht xO;rw[<-du,<-jh];have Dw:(ll:Int)<=40:=by have:=hG.len;omega
   obtain⟨R,iR⟩:∃ R,R=gG l (n+1) (.mk k nm i ts) c:=⟨_,rfl⟩;rw[<-iR];rw[eZ,kY]at iR;have K6:∀ t c,kv (nM l (gG l n)) t c=gG l (n+1) t c:=fun t c=>by rw[eZ]
   obtain⟨g,hg⟩:∃ g,g=nM l (gG l n):=⟨_,rfl⟩;rw[<-hg]at iR K6;have HW:=ak cQ;have HH:=ak hH;have HL:=ak (And.intro jh du);have HP:=ak (And.intro hn (And.intro jm (And.intro j9 iR)));have O8:=ak hg;have TC:(tl:Int)<=200:=by omega
   have ack:=xO.1;have HK6:=ak ack;have Q7:xb<H:=j9 xb wO;have m9:=aZ;have vY:H+3<=w3.heap.size:=by have:=BP.lt;omega
   clear cQ hH hX hR hL hT hO jm FB jh du iR hn F1 xO ack m7 hg j9;obtain⟨t0,t1,t2,t3⟩:=rH.cells;go_enter Tryz.func54,Tryz.ntmps54;go_upto_region 2 with fail;rw[<-show B []={ data:=#[] }from rfl,<-HW.out,<-HH.out];clear zW;go_wp2_with fail
   go_loopw [17] (fun Vo wr=>∃(j cj:Nat)(us:List Tm),Vo=.int .i64 (j:Int)/\j<=tl/\(eN g (ts.take j) c=⟨0,us,cj⟩/\cj<=16384/\c<=cj/\us.length=j)/\sF (fun b=>O b\/b=H\/b=H+1) tl wr (H+1+1) us/\
       bK wr xb (.slice la ll lc) (.int .i64 (cj:Int)) 78/\af (fun b=>b=xb\/b=H+1+1) w3 wr) (fun Vo _=>tl - (intOf Vo).toNat)
   case atStart=>exact⟨0,c,[],rfl,Nat.zero_le _,⟨by simp[qC],hc,Nat.le_refl _,rfl⟩,BP,Ht,af.refl _ _⟩
   clear BP Ht t0 t1 t2 t3;obtain⟨j,cj,us,rfl,hj,⟨hA,jG,MG,cZ⟩,hF,hX,hU⟩:=hrel;have EG:=rH.ag hU (by omega);have Pb:=iL.ag hU (by omega);have BW:(j:Int)<=200:=by omega
   have HA:=ak (And.intro hA (And.intro jG (And.intro MG cZ)));clear hA jG MG cZ;by_cases aB:j<tl
   ·have b7:j<ts.length:=by have:=HL.out.1;omega
    obtain⟨eb,eo,ek,en,ex,es,ec,rfl,mz,heO,p0,p1,p2,p3,eY⟩:=aY (ai.ag (S:=fun b=>b=xb\/b=H+1+1) hU (fun b e=>e.elim (fun e=>.inl (e ▸ wO)) (fun e=>.inr (by omega))) _ _ _ _ lU) j b7;have L8:=ih ts[j] (List.getElem_mem b7);have dw:=pH g ts c j b7 (by rw[HA.out.1]);rw[HA.out.1,K6]at dw;simp only at dw;have Cb:=List.getElem_mem b7;have Ex:=De _ Cb;have hkj:=Lx _ Cb;obtain⟨wa,mP⟩:∃ wa,wa=wr.alloc (.cells #[.int .i64 ek,.string (B en),.int .i64 ex,.slice es ts[j].args.length ec] 29):=⟨_,rfl⟩;have dM:af ae wr wa:=by rw[mP];exact(af.refl ae wr).alloc _
    have hB:au wa wr.heap.size (.int .i64 ek) (.string (B en)) (.int .i64 ex) (.slice es ts[j].args.length ec) 29:=by rw[mP];exact au.av rfl
    have IH:=L8 cj xb (fun b=>O b\/b=H\/b=H+1\/b=H+1+1) wa la lc _ (by have:=HP.out.1;have:=HA.out.2.2.1;omega) HA.out.2.1 Ex hkj (.inl wO)
      (fun b e=>by have:=hU.size;have:=dM.size;have h0:=HP.out.2.2.1 b;rcases e with e |e |e |e;(have:=h0 e;omega);all_goals omega)
      (by rw[<-HL.out.2];exact hX.kept dM)
      (ai.weaken (fun b _ e=>by rcases e with e |e |e |e;(exact .inl e);all_goals exact .inr (by omega)) _ _ _ _ (ai.on (ai.ag (S:=fun b=>b=xb\/b=H+1+1) hU (fun b e=>e.elim (fun e=>.inl (e ▸ wO)) (fun e=>.inr (by omega))) _ _ _ _ xP) dM))
      (aw.weaken (fun b _ e=>by rcases e with e |e |e |e;(exact .inl e);all_goals exact .inr (by omega)) _ _ (eY.on dM))
    rw[<-HL.out.2]at IH;obtain⟨r,hr⟩:∃ r,r=gG l (n+1) ts[j] cj:=⟨_,rfl⟩;rw[<-hr]at IH dw;have jZ:=ak dw;have HRE:=ak (And.intro hr (show r.e≠0->r.t=Tm.aO from fun h=>by rw[hr]at h ⊢;exact rE l (n+1) _ _ h));generalize ts[j].args.length=el at *
    obtain⟨Q,hQ⟩:∃ Q,Q=wr.heap.size:=⟨_,rfl⟩;rw[<-hQ]at hB;have HQ:=ak hQ;have NV:=ak mP;have Dp:(j:Int)<(tl:Int):=by omega
    have ee:=hU.size;obtain⟨b0,b1,b2,b3⟩:=hB.cells;clear dw hr Ex hkj Cb mP hQ eY L8;go_upto_region 6 with fail;rw[<-NV.out,<-HQ.out];clear p0 p1 p2 p3;go_wp2_with fail
    (with_reducible refine IH.mono ?_);rintro e w6 ⟨k6,i6,n6,a6,l6,c6,rfl,dg,tL,bj⟩;have sL:af (fun b=>b=xb) wr w6:=(dM.mono (fun _ _ e=>e.elim)).trans bj (fun _ _ e=>e);have wo:=hF.ag sL (fun b e=>.inl (e ▸ wO)) (by omega);have ao5:j * 4+3<tl * 4:=by omega
    obtain⟨_,g0⟩:=wo.cell (j * 4) (by omega);obtain⟨_,g1⟩:=wo.cell (j * 4+1) (by omega);obtain⟨_,g2⟩:=wo.cell (j * 4+2) (by omega);obtain⟨_,g3⟩:=wo.cell (j * 4+3) (by omega);have f6:=wo.fr;have WO:=wo.lt;have jd:=wo.next (u:=r.t) (d0:=.int .i64 k6) (d1:=.string (B n6)) (d2:=.int .i64 i6) (d3:=.slice a6 l6 c6) (by rw[HA.out.2.2.2];exact aB) (aw.weaken (fun b _ e=>by rcases e with e |e;(rcases e with e |e |e;(exact .inl e);(exact .inr (.inl e));exact .inr (.inr (.inl e)));exact .inr (.inr (.inr e))) _ _ dg) rfl;rw[HA.out.2.2.2]at jd;obtain⟨w7,rJ⟩:∃ w7,w7=(((w6.setCell ⟨H+1+1,j * 4,none⟩ (.int .i64 k6)).setCell ⟨H+1+1,j * 4+1,none⟩ (.string (B n6))).setCell ⟨H+1+1,j * 4+2,none⟩ (.int .i64 i6)).setCell ⟨H+1+1,j * 4+3,none⟩ (.slice a6 l6 c6):=⟨_,rfl⟩;rw[<-rJ]at jd;have KI:=ak rJ;have cm:=(hU.trans sL (fun b hb e=>.inl e)).trans jd.2 (fun b hb e=>.inr e);have Ea:=tL.ag jd.2 (by omega);have Lc:=ak (And.intro jd.1 (And.intro cm Ea));have j4:=iL.ag cm (by omega);clear jd wo hF rJ tL sL dg hB b0 b1 b2 b3 IH cm Ea;by_cases EK:r.e=0
    ·have hz:=ak EK;rw[EK];have HE:=ak (show eN g (ts.take (j+1)) c=⟨0,(eN g (ts.take j) c).ts++[r.t],r.w⟩ by rw[jZ.out,if_pos EK,HA.out.1])
     have OL:r.w<=16384:=by
       have h2:=Im l (n+1) ts[j] cj HA.out.2.1;rw[<-HRE.out.1]at h2;exact h2 EK
     have ln:c<=r.w:=by
       have h1:=HA.out.2.2.1;have h2:=Ng l (n+1) ts[j] cj;rw[<-HRE.out.1]at h2;omega
     clear EK HRE jZ;go_wp2_with fail;rw[<-KI.out];go_roundw;case rel=>exact⟨j+1,r.w,us++[r.t],by go_num,by omega,⟨by rw[HE.out,HA.out.1],OL,ln,by simp[HA.out.2.2.2]⟩,Lc.out.1,Lc.out.2.2,Lc.out.2.1⟩
     simp[intOf];omega
    have HR:=ak (show R=⟨r.e,Tm.aO,r.w⟩ by
      have h1:(eN g (ts.take (j+1)) c)=⟨r.e,[],r.w⟩:=by rw[jZ.out,if_neg EK]
      have h2:=Ci g ts c (j+1) (by rw[h1];exact EK);rw[HP.out.2.2.2,h2,h1,if_neg EK])
    have ae4:(r.e !=0)=true:=by simpa using EK
    have Ke:=ak EK;clear EK jZ HRE;obtain⟨re,EK⟩:∃ re,re=r.e:=⟨_,rfl⟩;rw[<-EK]at ae4;rw[<-EK];have agr:=ak EK;clear EK;obtain⟨y0,y1,y2,y3⟩:=j4.cells;obtain⟨z0,z1,z2,z3⟩:=j4.aq;have qr:=j4.lt;have ah:=j4.set (d0:=.int .i64 0) (d1:=.string (B [])) (d2:=.int .i64 0) (d3:=.slice none 0 0);obtain⟨e0,e1,e2,e3⟩:=ah.1.cells;have dJ:=ak (And.intro e0 (And.intro e1 (And.intro e2 (And.intro e3 ah.2))));clear e0 e1 e2 e3 ah;go_upto_region 7 with fail;rw[<-KI.out];clear g0 g1 g2 g3;go_wp2_with fail;obtain⟨e0,e1,e2,e3,ah⟩:=dJ.out;refine bodyPost_ret (v:=.tuple #[.agg #[.int .i64 0,.string (B []),.int .i64 0,.slice none 0 0],.int .i64 re]) ?_ rfl ?_
    ·simp[results,Tryz.f54,go_sem,e0,e1,e2,e3]
    exact pP (r0:=H+1) (by rw[HR.out,agr.out]) (by rw[HR.out];exact bD 0 [] 0) (by rw[HR.out];exact Lc.out.2.2) ((m9.mono (fun _ _ e=>e.elim)).trans Lc.out.2.1 (fun b hb e=>e.elim id (fun e=>by have:=HH.out;omega))) ah (by have:=HH.out;omega) (by have:=HH.out;omega)
   have sA:¬(j:Int)<(tl:Int):=by omega
   have rG:ts.take j=ts:=List.take_of_length_le (by have:=HL.out.1;omega);have cZ:us.length=tl:=by have:=HA.out.2.2.2;omega
   have O7:eN g ts c=⟨0,us,cj⟩:=by have:=HA.out.1;rw[rG]at this;exact this
   obtain⟨x0,x1,x2,x3⟩:=EG.cells;obtain⟨f0,f1,f2,f3⟩:=EG.aq;have apY:=EG.lt;obtain⟨w8,mT⟩:∃ w8,w8=wr.setCell ⟨H,3,none⟩ (.slice (some ⟨H+1+1,0,none⟩) tl tl):=⟨_,rfl⟩;have XN:af (fun b=>b=H) wr w8:=by rw[mT];exact af.set (af.refl _ _) 3 _
   have Ow:au w8 H (.int .i64 k) (.string (B nm)) (.int .i64 i) (.slice (some ⟨H+1+1,0,none⟩) tl tl) 29:=by rw[mT];exact EG.mH _
   have oF:=Pb.ag XN (by omega);have KQ:=hX.ag XN (by omega);have TJ:=hF.ag XN (fun b e=>.inr (.inl e)) (by omega);have L4:=TJ.row cZ (fun e=>by rcases e with e |e |e;(have:=HP.out.2.2.1 _ e;omega);all_goals omega);have cW:af (fun b=>b=xb\/H<=b) w3 w8:=(hU.mono (fun b hb e=>e.elim .inl (fun e=>.inr (by omega)))).trans XN (fun b hb e=>.inr (by omega));have Kq:=ai.ag cW (fun b e=>e.elim (fun e=>.inl (e ▸ wO)) .inr) _ _ _ _ xP;have lM:aw (fun b=>O b\/b=H\/b=H+1) w8 (Tm.mk k nm i us).az [.int .i64 k,.string (B nm),.int .i64 i,.slice (some ⟨H+1+1,0,none⟩) tl tl]:=bg.2 ⟨_,_,by rw[cZ],by rw[cZ];exact Nat.le_refl _,L4⟩;have Vi:=ak mT;have nc:c<=cj:=HA.out.2.2.1;have gm:=Ei hG (n:=n) (c:=c) (ts:=ts) (by rw[<-O8.out,O7]);rw[<-O8.out,O7]at gm;have HU:=ak (And.intro cZ (And.intro O7 gm));clear mT rG O7 gm hF hX Pb cZ;go_upto_region 11 with fail;rw[<-Vi.out];clear x0 x1 x2 x3 f0 f1 f2 f3;obtain⟨sb,NY⟩:∃ sb,sb=(zo l k i).isSome:=⟨_,rfl⟩;have L3:=ak NY;have hd8:af ae w8 w8.drew:=(af.refl ae _).drew
   have KW:k=6->0<=i:=fun e=>by
     have h:=HP.out.2.1;rw[e]at h;exact(uF h).2
   have HK0:=ak KW;clear NY KW;go_cut [63]from 38 to 63 (fun v63 wx=>v63=.bool sb/\af ae w8 wx)
   case first=>
     by_cases hk:k=6
     ·have fS:=HK0.out hk;have N4:=HK6.out hk;obtain⟨p,rfl⟩:∃ p:Nat,i=(p:Int):=⟨i.toNat,by omega⟩;have jB:p<l.length:=by have:=HL.out.2;omega
      have Rh:p<ll:=by omega
      obtain⟨b2,o2,k2,n2,wV,uP,fP,Ca,zw,rfl,pB,_,⟨c0,c1,c2,c3,c4,c5⟩,_,_,_⟩:=ja Kq p jB
      have hsv:sb=!(l[p].value.isEmpty):=by
        rw[L3.out];unfold zo;rw[if_pos ⟨hk,fS⟩];simp only[Int.toNat_natCast,List.getElem?_eq_getElem jB];cases l[p].value<;>rfl
      obtain⟨vl,xN⟩:∃ vl,vl=l[p].value.length:=⟨_,rfl⟩;rw[<-xN]at c5
      have Nj:sb=decide (0<vl):=by
        rw[hsv,xN];cases l[p].value<;>simp
      have F7:=ak Nj;generalize l[p].type.args.length=Lm at *
      generalize l[p].name=PO at *
      obtain⟨q0,q1⟩:=KQ.cells;obtain⟨t0,t1,t2,t3⟩:=Ow.cells;have e5:=c5;have Kt:vl=0\/0<vl:=by omega
      have Cc:(k == 6)=true:=by simpa using hk
      clear hsv Nj xN c0 c1 c2 c3 c4 c5 hk;rcases Kt with rfl |Kt
      ·go_quiet (fail)
       all_goals
         go_wp2_with fail;go_meet
         exact⟨by rw[F7.out];rfl,gX _ _⟩
      have hvi:(0:Int)<(vl:Int):=by omega
      go_quiet (fail)
      all_goals
        go_wp2_with fail;go_meet
        exact⟨by rw[F7.out,decide_eq_true Kt],gX _ _⟩
     have Cc:(k == 6)=false:=by simpa using hk
     have F7:=ak (show sb=false by rw[L3.out,H7 hk];rfl);obtain⟨t0,t1,t2,t3⟩:=Ow.cells;clear hk;go_quiet (fail)
     all_goals
       go_wp2_with fail;go_meet
       exact⟨by rw[F7.out],gX _ _⟩
   obtain⟨rfl,vC⟩:=hcut;have EM:=Ow.kept vC;have ln:=oF.kept vC;have N5:=KQ.kept vC;have kz:=lM.on vC;have Ce:=Kq.on vC;have acu:=L4.on vC;have aeG:af (fun b=>b=xb\/H<=b) w3 wc:=cW.trans vC (fun _ _ e=>e.elim);have F5:af (fun b=>b=xb) w wc:=(m9.mono (fun _ _ e=>e.elim)).trans aeG (fun b hb e=>e.elim id (fun e=>by have:=HH.out;omega));obtain⟨wd,rfl⟩:∃ wd,wd=wc:=⟨_,rfl⟩;have iR:=HP.out.2.2.2;rw[HU.out.2.1,if_pos rfl]at iR;simp only at iR;have Uk:H+1<wd.heap.size:=by have:=ln.lt;omega
   clear Ow oF KQ lM Kq L4 cW vC HK6 hd8;cases sb
   case false=>
     have pA:zo l k i=none:=by
       have h:=L3.out;cases hh:zo l k i with
       |none=>rfl
       |some m=>rw[hh]at h;cases h
     have fG:R=Tm.jo (.mk k nm i us) cj:=by rw[iR,O8.out,wL pA];rfl
     have ee:(Tm.mk k nm i us).size<=1000000:=by
       have h1:Tm.aD us<=us.length * 4096:=sV (fun u hu=>(HU.out.2.2 u hu).1);have h2:us.length=tl:=HU.out.1;rw[h2]at h1;rw[Tm.aM];omega
     have SZ:=wW (Tm.mk k nm i us) ee wd _ (dj kz);have DP:=fun(W:World)(hu:af ae wd W)=>si (Tm.mk k nm i us) ee W _ (dj (kz.on hu))
     obtain⟨nd,JV⟩:∃ nd,nd=Tm.mk k nm i us:=⟨_,rfl⟩;rw[<-JV]at SZ DP fG kz ee;have AZ:nd.small=(decide (nd.size<=4096) && decide (nd.depth<=128)):=rfl;obtain⟨s1,jI⟩:∃ s1,s1=nd.size:=⟨_,rfl⟩;obtain⟨d1,te⟩:∃ d1,d1=nd.depth:=⟨_,rfl⟩;rw[<-jI]at SZ ee AZ;rw[<-te]at DP AZ;have Oo:=ak (And.intro fG AZ);obtain⟨t0,t1,t2,t3⟩:=EM.cells;clear iR pA fG JV jI te AZ
     have bad:∀(W:World),af ae wd W->nd.small=false->∀ W',af (fun b=>b=H+1) W W'->ExR O xb la ll lc R w (.returned (.tuple #[.agg #[.int .i64 0,.string (B []),.int .i64 0,.slice none 0 0],.int .i64 2])) W':=by
       intro W hu hb W' ah;have e:R=⟨2,Tm.aO,cj⟩:=by rw[Oo.out.1];unfold Tm.jo;rw[if_neg (by rw[hb];simp)]
       exact pP (r0:=H+1) (by rw[e]) (by rw[e];exact bD 0 [] 0) (by rw[e];exact N5.kept hu) (F5.trans hu (fun _ _ e=>e.elim)) ah (by have:=HH.out;omega) (by have:=HH.out;omega)
     have HBD:=ak bad;clear bad;by_cases rQ:(4096:Int)<(s1:Int)
     ·have hb:nd.small=false:=by rw[Oo.out.2,decide_eq_false (by omega)];rfl
      have HB:=ak hb;clear hb;go_wp2_with (first |((go_at_call 122);(with_reducible refine SZ.mono ?_);rintro e w9 ⟨rfl,bU⟩;obtain⟨y0,y1,y2,y3⟩:=(ln.kept bU).cells;obtain⟨z0,z1,z2,z3⟩:=(ln.kept bU).aq;have qr:=(ln.kept bU).lt;have ah:=(ln.kept bU).set (d0:=.int .i64 0) (d1:=.string (B [])) (d2:=.int .i64 0) (d3:=.slice none 0 0);have dJ:=ak ah;clear ah))
      obtain⟨gK,ah⟩:=dJ.out;obtain⟨e0,e1,e2,e3⟩:=gK.cells;refine bodyPost_ret (v:=.tuple #[.agg #[.int .i64 0,.string (B []),.int .i64 0,.slice none 0 0],.int .i64 2]) ?_ rfl ?_
      ·simp[results,Tryz.f54,go_sem,e0,e1,e2,e3]
      exact HBD.out w9 bU HB.out _ ah
     by_cases ajF:(128:Int)<(d1:Int)
     ·have hb:nd.small=false:=by rw[Oo.out.2,decide_eq_false (show ¬d1<=128 by omega)];simp
      have HB:=ak hb;clear hb;go_wp2_with (first |((go_at_call 122);(with_reducible refine SZ.mono ?_);rintro e w9 ⟨rfl,bU⟩;have DP9:=DP w9 bU;clear t0 t1 t2 t3;obtain⟨t0,t1,t2,t3⟩:=(EM.kept bU).cells)|((go_at_call 123);(with_reducible refine DP9.mono ?_);rintro e kB ⟨rfl,gZ⟩;have kN:=bU.and gZ;obtain⟨y0,y1,y2,y3⟩:=(ln.kept kN).cells;obtain⟨z0,z1,z2,z3⟩:=(ln.kept kN).aq;have qr:=(ln.kept kN).lt;have ah:=(ln.kept kN).set (d0:=.int .i64 0) (d1:=.string (B [])) (d2:=.int .i64 0) (d3:=.slice none 0 0);have dJ:=ak ah;clear ah))
      obtain⟨gK,ah⟩:=dJ.out;obtain⟨e0,e1,e2,e3⟩:=gK.cells;refine bodyPost_ret (v:=.tuple #[.agg #[.int .i64 0,.string (B []),.int .i64 0,.slice none 0 0],.int .i64 2]) ?_ rfl ?_
      ·simp[results,Tryz.f54,go_sem,e0,e1,e2,e3]
      exact HBD.out kB kN HB.out _ ah
     have hb:R=⟨0,nd,cj⟩:=by rw[Oo.out.1];unfold Tm.jo;rw[if_pos (by rw[Oo.out.2,decide_eq_true (show s1<=4096 by omega),decide_eq_true (show d1<=128 by omega)];rfl)]
     have HB:=ak hb;clear hb;go_wp2_with (first |((go_at_call 122);(with_reducible refine SZ.mono ?_);rintro e w9 ⟨rfl,bU⟩;have DP9:=DP w9 bU;clear t0 t1 t2 t3;obtain⟨t0,t1,t2,t3⟩:=(EM.kept bU).cells)|((go_at_call 123);(with_reducible refine DP9.mono ?_);rintro e kB ⟨rfl,gZ⟩;have kN:=bU.and gZ;clear t0 t1 t2 t3;obtain⟨t0,t1,t2,t3⟩:=(EM.kept kN).cells;obtain⟨y0,y1,y2,y3⟩:=(ln.kept kN).cells;obtain⟨z0,z1,z2,z3⟩:=(ln.kept kN).aq;have qr:=(ln.kept kN).lt;have ah:=(ln.kept kN).set (d0:=.int .i64 k) (d1:=.string (B nm)) (d2:=.int .i64 i) (d3:=.slice (some ⟨H+1+1,0,none⟩) tl tl);have dJ:=ak ah;clear ah))
     obtain⟨gK,ah⟩:=dJ.out;obtain⟨e0,e1,e2,e3⟩:=gK.cells;refine bodyPost_ret (v:=.tuple #[.agg #[.int .i64 k,.string (B nm),.int .i64 i,.slice (some ⟨H+1+1,0,none⟩) tl tl],.int .i64 0]) ?_ rfl ?_
     ·simp[results,Tryz.f54,go_sem,e0,e1,e2,e3]
     exact pP (r0:=H+1) (by rw[HB.out]) (by rw[HB.out];exact aw.weaken (fun b _ e=>by rcases e with e |e;(exact .inl e);exact .inr (.inr e)) _ _ (kz.on kN)) (by rw[HB.out];exact N5.kept kN) (F5.trans kN (fun _ _ e=>e.elim)) ah (by have:=HH.out;omega) (by have:=HH.out;omega)
   case true=>
     obtain⟨m,pA⟩:∃ m,zo l k i=some m:=by
       have h:=L3.out;cases hh:zo l k i with
       |none=>rw[hh]at h;cases h
       |some m=>exact⟨m,rfl⟩
     obtain⟨hk,fS,N4,ky,mR,xm⟩:=lJ pA;obtain⟨p,rfl⟩:∃ p:Nat,i=(p:Int):=⟨i.toNat,by omega⟩;have jB:p<l.length:=by omega
     have hm:m=l[p]:=by
       rw[Int.toNat_natCast,List.getElem?_eq_getElem jB]at ky;exact(Option.some.inj ky).symm
     subst hm;have fG:R=Oh l n l[p] us cj:=by rw[iR,O8.out,vJ pA];rfl
     have Rh:p<ll:=by have:=HL.out.2;omega
     obtain⟨b2,o2,k2,n2,wV,uP,fP,Ca,zw,rfl,pB,tI,⟨c0,c1,c2,c3,c4,c5⟩,uR,wG,H6⟩:=ja Ce p jB;have hd:af ae wd wd.drew:=(af.refl ae _).drew;have Np:=(uF (by have h:=HP.out.2.1;rw[hk]at h;exact h)).1;have wk:∀ b,b<wd.heap.size->(O b\/b=H\/b=H+1)->(O b\/H<=b):=fun b _ e=>by rcases e with e |e |e;(exact .inl e);all_goals exact .inr (by omega)
     have O0:aw (fun b=>O b\/b=H\/b=H+1) wd.drew l[p].az [.string (B l[p].name),.int .i64 k2,.string (B n2),.int .i64 wV,.slice uP l[p].type.args.length fP,.slice Ca l[p].value.length zw]:=jF.2 ⟨[.int .i64 k2,.string (B n2),.int .i64 wV,.slice uP l[p].type.args.length fP],Ca,zw,rfl,(aw.weaken wk _ _ uR).on hd,wG,(ai.weaken wk _ _ _ _ H6).on hd⟩
     have RPc:=RP l[p] us cj xb (fun b=>O b\/b=H\/b=H+1) wd.drew (some ⟨b2,o2,none⟩) lc [.string (B l[p].name),.int .i64 k2,.string (B n2),.int .i64 wV,.slice uP l[p].type.args.length fP,.slice Ca l[p].value.length zw] (some ⟨H+1+1,0,none⟩) tl
       (by have:=HP.out.1;have:=HA.out.2.2.1;omega) HA.out.2.1 mR xm (by have:=HU.out.1;omega) (by have:=HU.out.1;omega)
       (fun u hu=>⟨(HU.out.2.2 u hu).2.1 Np,(HU.out.2.2 u hu).1,(HU.out.2.2 u hu).2.2 Lx⟩) (.inl wO) (fun b e=>by have h0:=HP.out.2.2.1 b;have:=hd.size;rcases e with e |e |e;(have:=h0 e;omega);all_goals omega)
       (by rw[<-HL.out.2];exact N5.kept hd) ((ai.weaken wk _ _ _ _ Ce).on hd) O0 (acu.on hd)
     rw[<-HL.out.2,HU.out.1,<-fG]at RPc;have S0:tD xb H b2 (o2+p * 6) _ _ _ _ _ _ _ _ _ _ _ wd.drew:=⟨(N5.kept hd).cells.1,(EM.kept hd).cells,hd.cell c0 (fun x=>x),hd.cell c1 (fun x=>x),hd.cell c2 (fun x=>x),hd.cell c3 (fun x=>x),hd.cell c4 (fun x=>x),hd.cell c5 (fun x=>x)⟩;generalize l[p].type.args.length=Lm at *
     generalize l[p].value.length=vl2 at *
     generalize l[p].name=PO at *
     have n1:¬xb=H+1:=by omega
     have W7:¬H=H+1:=by omega
     have n4:¬H=xb:=by omega
     have n5:¬b2=xb:=fun e=>tI (.inl (e ▸ wO))
     have n3:¬b2=H+1:=fun e=>tI (.inr (by omega))
     clear iR pA ky xm mR fG uR H6 c0 c1 c2 c3 c4 c5 Np O0;go_upto_region 12 with fail
     go_region_held3 (fun w'=>tD xb H b2 (o2+p * 6) (.slice (some ⟨b2,o2,none⟩) ll lc) (.int .i64 k) (.string (B nm)) (.int .i64 (p:Int)) (.slice (some ⟨H+1+1,0,none⟩) tl tl) (.string (B PO)) (.int .i64 k2) (.string (B n2)) (.int .i64 wV) (.slice uP Lm fP) (.slice Ca vl2 zw) w')
       (first |(with_reducible assumption)|(with_reducible exact S0)|(with_reducible exact tD.kT S9 n1 W7 n3 _ _ _ _))
       (first |((go_at_call 121);(with_reducible refine RPc.mono ?_);rintro e w9 ⟨k9,i9,n9,a9,l9,c9,rfl,oK,sr,bU⟩;have gM:=(ln.kept hd).ag bU (by omega);obtain⟨y0,y1,y2,y3⟩:=gM.cells;obtain⟨z0,z1,z2,z3⟩:=gM.aq;have qr:=gM.lt;have S9:=tD.ag S0 bU sr.cells.1 n4 n5))
     all_goals
       have ah:=gM.set (d0:=.int .i64 k9) (d1:=.string (B n9)) (d2:=.int .i64 i9) (d3:=.slice a9 l9 c9);have dJ:=ak ah;have Ye:=ak (And.intro oK (And.intro sr bU));clear ah oK sr bU gM;go_wp2_with fail;obtain⟨gK,ah⟩:=dJ.out;obtain⟨e0,e1,e2,e3⟩:=gK.cells;refine bodyPost_ret (v:=.tuple #[.agg #[.int .i64 k9,.string (B n9),.int .i64 i9,.slice a9 l9 c9],.int .i64 R.e]) ?_ rfl ?_
       ·simp[results,Tryz.f54,go_sem,e0,e1,e2,e3]
       exact pP (r0:=H+1) rfl (aw.weaken (fun b _ e=>by rcases e with e |e;(exact .inl e);exact .inr (.inr e)) _ _ Ye.out.1) Ye.out.2.1 ((F5.trans hd (fun _ _ e=>e.elim)).trans Ye.out.2.2 (fun _ _ e=>e)) ah (by have:=HH.out;omega) (by have:=HH.out;omega)
end
end Go.Proofs.YthgmimncdjhgnaaGreatDoor
