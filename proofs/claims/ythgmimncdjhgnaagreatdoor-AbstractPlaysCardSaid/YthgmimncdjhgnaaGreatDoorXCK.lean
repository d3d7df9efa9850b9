/- Xz of free yQ, as plain data. No program is in qP here. -/
import Derived.Test.YthgmimncdjhgnaaGreatDoorXCJ
import Derived.Laws.CopyOwn
import Derived.Laws.MakeOwn
import Derived.Shelf.Bits.Mul64
set_option maxRecDepth 100000
set_option maxHeartbeats 16000000
namespace Go.LF.Tm
abbrev To:=Int->Int×Bool
def lN(f:To)(b k i:Int):Int:=if k=5/\b<=i then(f (i - b)).1+b else i
def G4(f:To)(b k i:Int):Bool:=!(k == 5 && decide (b<=i))|| ((f (i - b)).2 && (decide (0<=(f (i - b)).1) && decide ((f (i - b)).1<=1048576 - b)))
mutual
def mv(f:To)(b:Int):Tm->Tm
  |mk k n i l=>mk k n (lN f b k i) (iC f b k 0 l)
def iC(f:To)(b k:Int)(j:Nat):List Tm->List Tm
  | []=>[]
  |t :: ts=>mv f (b+under k j) t :: iC f b k (j+1) ts
end
mutual
def il(f:To)(b:Int):Tm->Bool
  |mk k _ i l=>G4 f b k i && gi f b k 0 l
def gi(f:To)(b k:Int)(j:Nat):List Tm->Bool
  | []=>true
  |t :: ts=>il f (b+under k j) t && gi f b k (j+1) ts
end
theorem iN(f:To)(b k n i l):mv f b (mk k n i l)=mk k n (lN f b k i) (iC f b k 0 l):=by rw[mv]
theorem oU(f:To)(b k n i l):il f b (mk k n i l)=(G4 f b k i && gi f b k 0 l):=by rw[il]
theorem Fe(f:To)(b k:Int)(l m:List Tm)(j:Nat):iC f b k j (l++m)=iC f b k j l++iC f b k (j+l.length) m:=by
  induction l generalizing j with
  |nil=>simp[iC]
  |cons t ts ih=>simp[iC,ih (j+1),Nat.add_assoc,Nat.add_comm 1 ts.length]
theorem BJ(f:To)(b k:Int)(l m:List Tm)(j:Nat):gi f b k j (l++m)=(gi f b k j l && gi f b k (j+l.length) m):=by
  induction l generalizing j with
  |nil=>simp[gi]
  |cons t ts ih=>simp[gi,ih (j+1),Nat.add_assoc,Nat.add_comm 1 ts.length,Bool.and_assoc]
theorem j7(f:To)(b k:Int)(l:List Tm)(j:Nat):(iC f b k j l).length=l.length:=by
  induction l generalizing j with
  |nil=>simp[iC]
  |cons t ts ih=>simp[iC,ih (j+1)]
theorem pE(f:To)(b k:Int)(l:List Tm)(j:Nat)(h:j<l.length):iC f b k 0 (l.take (j+1))=iC f b k 0 (l.take j)++[mv f (b+under k j) l[j]]:=by
  rw[List.take_succ_eq_append_getElem h,Fe];simp[iC,Nat.min_eq_left (Nat.le_of_lt h)]
theorem mS(f:To)(b k:Int)(l:List Tm)(j:Nat)(h:j<l.length):gi f b k 0 (l.take (j+1))=(gi f b k 0 (l.take j) && il f (b+under k j) l[j]):=by
  rw[List.take_succ_eq_append_getElem h,BJ];simp[gi,Nat.min_eq_left (Nat.le_of_lt h)]
theorem vK(f:To)(t:Tm):∀ b,il f b t=(nodes b t).all (fun x=>G4 f x.b x.k x.i):=by
  induction t using ind with
  |h k n i l ih=>
   intro b
   have key:∀(l':List Tm),(∀ t∈l',∀ b,il f b t=(nodes b t).all (fun x=>G4 f x.b x.k x.i))->∀ j,gi f b k j l'=(bh b k j l').all (fun x=>G4 f x.b x.k x.i):=by
     intro l';induction l' with
     |nil=>intro _ j;simp[gi,bh]
     |cons t ts dF=>intro h j;rw[gi,bh,List.all_append,h t (by simp),dF (fun t ht=>h t (by simp[ht]))]
   rw[oU,br,List.all_cons,key l ih 0]
theorem xB(f:To)(t:Tm):∀ b,nodes b (mv f b t)=(nodes b t).map (fun x=>⟨x.b,x.k,x.n,lN f x.b x.k x.i⟩):=by
  induction t using ind with
  |h k n i l ih=>
   intro b
   have key:∀(l':List Tm),(∀ t∈l',∀ b,nodes b (mv f b t)=(nodes b t).map (fun x=>⟨x.b,x.k,x.n,lN f x.b x.k x.i⟩))->∀ j,bh b k j (iC f b k j l')=(bh b k j l').map (fun x=>⟨x.b,x.k,x.n,lN f x.b x.k x.i⟩):=by
     intro l';induction l' with
     |nil=>intro _ j;simp[iC,bh]
     |cons t ts dF=>intro h j;rw[iC,bh,bh,List.map_append,h t (by simp),dF (fun t ht=>h t (by simp[ht]))]
   rw[iN,br,br,List.map_cons,key l ih 0]
theorem q9(f g:To)(t:Tm):∀ b,(∀ x∈nodes b t,lN f x.b x.k x.i=lN g x.b x.k x.i)->mv f b t=mv g b t:=by
  induction t using ind with
  |h k n i l ih=>
   intro b h
   have key:∀(l':List Tm),(∀ t∈l',∀ b,(∀ x∈nodes b t,lN f x.b x.k x.i=lN g x.b x.k x.i)->mv f b t=mv g b t)->∀ j,(∀ x∈bh b k j l',lN f x.b x.k x.i=lN g x.b x.k x.i)->iC f b k j l'=iC g b k j l':=by
     intro l';induction l' with
     |nil=>intro _ j _;simp[iC]
     |cons t ts dF=>
      intro h j hx;simp only[bh,List.mem_append]at hx;rw[iC,iC,h t (by simp) _ (fun x hm=>hx x (.inl hm)),dF (fun t ht=>h t (by simp[ht])) _ (fun x hm=>hx x (.inr hm))]
   rw[br]at h;rw[iN,iN,key l ih 0 (fun x hx=>h x (by simp[hx])),h ⟨b,k,n,i⟩ (by simp)]
theorem He(t:Tm):∀ b,mv (fun i=>(i,true)) b t=t:=by
  induction t using ind with
  |h k n i l ih=>
   intro b
   have key:∀(l':List Tm),(∀ t∈l',∀ b,mv (fun i=>(i,true)) b t=t)->∀ j,iC (fun i=>(i,true)) b k j l'=l':=by
     intro l';induction l' with
     |nil=>intro _ j;simp[iC]
     |cons t ts dF=>intro h j;rw[iC,h t (by simp),dF (fun t ht=>h t (by simp[ht]))]
   rw[iN,key l ih 0];congr 1;unfold lN;split
   ·simp
   rfl
theorem Lf(b k i:Int):lN (fun i=>(i,true)) b k i=i:=by unfold lN;split<;>simp
theorem Z2(f:To)(t:Tm)(b:Int)(h:∀ x∈nodes b t,lN f x.b x.k x.i=x.i):mv f b t=t:=by
  rw[q9 f (fun i=>(i,true)) t b (fun x hx=>by rw[h x hx,Lf]),He]
theorem PY(f g:To)(b k i:Int)(h:k=5->b<=i->0<=(f (i - b)).1):lN g b k (lN f b k i)=lN (fun i=>g (f i).1) b k i:=by
  by_cases hk:k=5/\b<=i
  ·have:=h hk.1 hk.2;have e1:∀(g:To)(j:Int),b<=j->lN g b k j=(g (j - b)).1+b:=fun g j hj=>if_pos ⟨hk.1,hj⟩
   rw[e1 f i hk.2,e1 g _ (by omega),e1 _ i hk.2,show(f (i - b)).1+b - b=(f (i - b)).1 by omega]
  simp only[lN,if_neg hk]
theorem Sr(f g:To)(t:Tm):∀ b,(∀ x∈nodes b t,x.k=5->x.b<=x.i->0<=(f (x.i - x.b)).1)->mv g b (mv f b t)=mv (fun i=>g (f i).1) b t:=by
  induction t using ind with
  |h k n i l ih=>
   intro b h
   have key:∀(l':List Tm),(∀ t∈l',∀ b,(∀ x∈nodes b t,x.k=5->x.b<=x.i->0<=(f (x.i - x.b)).1)->mv g b (mv f b t)=mv (fun i=>g (f i).1) b t)->∀ j,(∀ x∈bh b k j l',x.k=5->x.b<=x.i->0<=(f (x.i - x.b)).1)->iC g b k j (iC f b k j l')=iC (fun i=>g (f i).1) b k j l':=by
     intro l';induction l' with
     |nil=>intro _ j _;simp[iC]
     |cons t ts dF=>
      intro h j hx;simp only[bh,List.mem_append]at hx;rw[iC,iC,iC,h t (by simp) _ (fun x hm=>hx x (.inl hm)),dF (fun t ht=>h t (by simp[ht])) _ (fun x hm=>hx x (.inr hm))]
   rw[br]at h;rw[iN,iN,iN,key l ih 0 (fun x hx=>h x (by simp[hx])),PY _ _ _ _ _ (h ⟨b,k,n,i⟩ (by simp))]
theorem uv(f:To)(t:Tm)(b:Int):(mv f b t).size=t.size:=by
  rw[<-iG _ b,xB,List.length_map,iG]
theorem xF(f:To)(t:Tm):∀ b,(mv f b t).depth=t.depth:=by
  induction t using ind with
  |h k n i l ih=>
   intro b
   have key:∀(l':List Tm),(∀ t∈l',∀ b,(mv f b t).depth=t.depth)->∀ j,aQ (iC f b k j l')=aQ l':=by
     intro l';induction l' with
     |nil=>intro _ j;simp[iC]
     |cons t ts dF=>intro h j;rw[iC,aQ,aQ,h t (by simp),dF (fun t ht=>h t (by simp[ht]))]
   rw[iN,cD,cD,key l ih 0]
theorem Ob(f:To)(t:Tm):∀ b,(mv f b t).wt=t.wt:=by
  induction t using ind with
  |h k n i l ih=>
   intro b
   have key:∀(l':List Tm),(∀ t∈l',∀ b,(mv f b t).wt=t.wt)->∀ j,eV (iC f b k j l')=eV l':=by
     intro l';induction l' with
     |nil=>intro _ j;simp[iC]
     |cons t ts dF=>intro h j;rw[iC,eV,eV,h t (by simp),dF (fun t ht=>h t (by simp[ht]))]
   rw[iN,cU,cU,key l ih 0]
theorem jN(f:To)(b k i:Int)(h:k≠5):lN f b k i=i:=by unfold lN;rw[if_neg (fun e=>h e.1)]
theorem Fk(f:To)(t:Tm):t.isObj=true->∀ b,0<=b->il f b t=true->(mv f b t).isObj=true:=by
  induction t using ind with
  |h k n i l ih=>
   intro ho b hb h
   have key:∀(l':List Tm),(∀ t∈l',t.isObj=true->∀ b,0<=b->il f b t=true->(mv f b t).isObj=true)->∀ j,aV l'=true->gi f b k j l'=true->aV (iC f b k j l')=true:=by
     intro l';induction l' with
     |nil=>intro _ j _ _;simp[iC,aV]
     |cons t ts dF=>
      intro h j ha hm;simp only[aV,gi,Bool.and_eq_true]at ha hm;simp only[iC,aV,Bool.and_eq_true];exact⟨h t (by simp) ha.1 _ (by have:=bZ k j;omega) hm.1,dF (fun t ht=>h t (by simp[ht])) _ ha.2 hm.2⟩
   rw[oU,Bool.and_eq_true]at h;have k1:=key l ih 0;rw[iN];rw[isObj]at ho ⊢;by_cases h3:k=3
   ·subst h3;simp only[if_true,Bool.and_eq_true,bound,j7]at ho ⊢;rw[jN f b 3 i (by decide)];exact⟨ho.1,k1 ho.2 h.2⟩
   rw[if_neg h3]at ho ⊢;by_cases h4:k=4
   ·subst h4;simp only[if_true,Bool.and_eq_true]at ho ⊢;rw[jN f b 4 i (by decide)];exact⟨ho.1,k1 ho.2 h.2⟩
   rw[if_neg h4]at ho ⊢;by_cases h5:k=5
   ·subst h5;simp only[if_true,Bool.and_eq_true,decide_eq_true_eq]at ho ⊢;refine⟨⟨⟨ho.1.1.1,?_⟩,?_⟩,k1 ho.2 h.2⟩
    all_goals
      have hh:=h.1;unfold lN;by_cases uy:b<=i
      ·simp only[G4,uy]at hh;simp at hh;simp[uy];omega
      rw[if_neg (fun e=>uy e.2)];omega
   rw[if_neg h5]at ho ⊢;by_cases h6:k=6
   ·subst h6;simp only[if_true,Bool.and_eq_true]at ho ⊢;rw[jN f b 6 i (by decide)];exact⟨ho.1,k1 ho.2 h.2⟩
   rw[if_neg h6]at ho;cases ho
theorem PQ(f:To)(k n i l)(ha:isAtom (mk k n i l)=true)(b:Int)(hb:0<=b)(h:il f b (mk k n i l)=true):isAtom (mv f b (mk k n i l))=true:=by
  simp only[isAtom,Bool.and_eq_true,beq_iff_eq]at ha;obtain⟨rfl,h1,h2⟩:=ha;have ho:=Fk f (mk 4 n i l) (by rw[isObj];simp[h1,h2]) b hb h;rw[iN,isObj]at ho;rw[iN,isAtom];simpa using ho
theorem NL(f:To)(t:Tm):t.aC=true->∀ b,0<=b->il f b t=true->(mv f b t).aC=true:=by
  induction t using ind with
  |h k n i l ih=>
   intro ho b hb h;rw[aC]at ho;rcases Bool.or_eq_true_iff.1 ho with ho |ho
   ·have:=PQ f k n i l ho b hb h;rw[iN]at this ⊢;rw[aC,this];rfl
   have key:∀(l':List Tm),(∀ t∈l',t.aC=true->∀ b,0<=b->il f b t=true->(mv f b t).aC=true)->∀ j,cI l'=true->gi f b k j l'=true->cI (iC f b k j l')=true:=by
     intro l';induction l' with
     |nil=>intro _ j _ _;simp[iC,cI]
     |cons t ts dF=>
      intro h j ha hm;simp only[cI,gi,Bool.and_eq_true]at ha hm;simp only[iC,cI,Bool.and_eq_true];exact⟨h t (by simp) ha.1 _ (by have:=bZ k j;omega) hm.1,dF (fun t ht=>h t (by simp[ht])) _ ha.2 hm.2⟩
   simp only[Bool.and_eq_true,beq_iff_eq]at ho;obtain⟨rfl,h1,h2⟩:=ho;rw[oU,Bool.and_eq_true]at h;rw[iN,aC];simp only[Bool.or_eq_true,Bool.and_eq_true,bound,j7]at h1 ⊢;right;rw[jN f b 2 i (by decide)];exact⟨rfl,h1,key l ih 0 h2 h.2⟩
theorem VG(f:To)(t:Tm):t.aI=true->∀ b,0<=b->il f b t=true->(mv f b t).aI=true:=by
  induction t using ind with
  |h k n i l ih=>
   intro ho b hb h;rw[oU,Bool.and_eq_true]at h;rw[iN];match l,ho,ih,h with
   | [],ho,_,_=>
     simp only[aI,Bool.and_eq_true,beq_iff_eq]at ho;obtain⟨rfl,h1⟩:=ho;rw[jN f b 1 i (by decide)];simp only[iC,aI,Bool.and_eq_true,beq_iff_eq];exact⟨trivial,h1⟩
   | [a],ho,_,_=>simp[aI]at ho
   |a :: c :: d :: l,ho,_,_=>simp[aI]at ho
   | [a,c],ho,ih,h=>
     simp only[aI,Bool.and_eq_true,beq_iff_eq]at ho;obtain⟨rfl,h1,h2,h3⟩:=ho;simp only[gi,Bool.and_eq_true]at h;rw[jN f b 2 i (by decide)];simp only[iC,aI,Bool.and_eq_true,beq_iff_eq];refine⟨trivial,by simpa[bound]using h1,NL f a h2 _ (by have:=bZ 2 0;omega) h.2.1,ih c (by simp) h3 _ (by have:=bZ 2 (0+1);omega) h.2.2.1⟩
theorem aaR(f:To)(t:Tm)(h:t.wf=0)(hm:il f 0 t=true):(mv f 0 t).wf=0:=by
  unfold wf at h ⊢;by_cases h1:(!t.isObj && !t.aC && !t.aI)=true
  ·rw[if_pos h1]at h;omega
  rw[if_neg h1]at h;have hs:(mv f 0 t).small=t.small:=by unfold small;rw[uv,xF]
  rw[if_neg ?_,hs]
  ·exact h
  intro e;simp only[Bool.and_eq_true,Bool.not_eq_true']at e h1;apply h1;refine⟨⟨?_,?_⟩,?_⟩<;>rw[Bool.eq_false_iff]<;>intro h2
  ·have:=Fk f t h2 0 (by omega) hm;rw[e.1.1]at this;cases this
  ·have:=NL f t h2 0 (by omega) hm;rw[e.1.2]at this;cases this
  have:=VG f t h2 0 (by omega) hm;rw[e.2]at this;cases this
theorem nN:∀(l:List BV)(a:Int),a<=l.foldl dy a/\∀ x∈l,x.k=5->x.i - x.b+1<=l.foldl dy a
  | [],a=>⟨Int.le_refl _,fun x hx=>by cases hx⟩
  |y :: l,a=>by
   have h:=nN l (dy a y)
   have hy:a<=dy a y/\(y.k=5->y.i - y.b+1<=dy a y):=by
     unfold dy;split
     ·omega
     rename_i e;refine⟨Int.le_refl _,fun e2=>absurd (by simp[e2]) e⟩
   refine⟨by have:=h.1;simp only[List.foldl_cons];omega,fun x hx hk=>?_⟩;rw[List.foldl_cons];rcases List.mem_cons.1 hx with rfl |hx
   ·have:=hy.2 hk;have:=h.1;omega
   exact h.2 x hx hk
theorem Ro(t:Tm):∀ x∈nodes 0 t,x.k=5->x.i - x.b<scope t\/x.i - x.b<0:=by
  intro x hx hk;have h:=(nN (nodes 0 t) 0).2 x hx hk;rw[wF t 0 0 (by omega) (by omega)]at h;omega
theorem se{b k i:Int}{n:List UInt8}{l:List Tm}(j:Nat)(h:j<l.length){x:BV}(hx:x∈nodes (b+under k j) l[j]):x∈nodes b (mk k n i l):=by
  rw[br];refine List.mem_cons_of_mem _ ((fz l b k (j+1)).subset ?_);rw[jc l b k j h];simp[hx]
theorem G2{k i:Int}{n:List UInt8}{l:List Tm}(h:∀ b,∀ x∈nodes b (mk k n i l),x.ok):∀ t∈l,∀ b,∀ x∈nodes b t,x.ok:=by
  intro t ht b x hx;obtain⟨j,hj,rfl⟩:=List.getElem_of_mem ht;exact h (b - under k j) x (se j hj (by rw[show b - under k j+under k j=b by omega];exact hx))
theorem zI(t:Tm):t.same t=true:=by
  induction t using ind with
  |h k n i l ih=>
   rw[Hb]
   have key:∀(l':List Tm),(∀ t∈l',t.same t=true)->fF l' l'=true:=by
     intro l';induction l' with
     |nil=>intro _;simp[fF]
     |cons t ts dF=>intro h;simp only[fF,Bool.and_eq_true];exact⟨h t (by simp),dF (fun t ht=>h t (by simp[ht]))⟩
   simp[key l ih]
theorem pg.wf{t:Tm}{sz v m:Nat}(h:pg t sz v m)(hs:sz<=4096):t.wf=0:=by
  unfold Tm.wf;rw[if_neg,if_neg]
  ·unfold small;have:=h.depth;have:=h.size;simp;omega
  intro e;simp only[Bool.and_eq_true,Bool.not_eq_true']at e;rcases h.any with h |h |h
  ·rw[e.1.1]at h;cases h
  ·rw[e.1.2]at h;cases h
  rw[e.2]at h;cases h
end Go.LF.Tm
namespace Go.Proofs.YthgmimncdjhgnaaGreatDoor
section
open Go.RowKit Go.LF
def cq(W:World)(g:Nat)(c:Value)(T:TypeId):Prop:=W.heap[g]? =some (.cells #[c] T (0,0))
section
variable {W W':World}{g b:Nat}{c:Value}{T:TypeId}{S:Nat->Prop}
theorem cq.av(hb:W.heap.size=b):cq (W.alloc (.cells #[c] T)) b c T:=by subst hb;exact heap_alloc_new W _
theorem cq.lt(h:cq W g c T):g<W.heap.size:=(Array.getElem?_eq_some_iff.1 h).1
theorem cq.cell(h:cq W g c T):W.cell? ⟨g,0,none⟩=some c:=by unfold cq at h;simp[World.cell?,h]
theorem cq.frozen(h:cq W g c T):W.frozen? ⟨g,0,none⟩=false:=by unfold cq at h;simp[World.frozen?,h]
theorem cq.ag(h:cq W g c T)(hU:af S W W')(hS:¬S g):cq W' g c T:=(hU.block g h.lt hS).trans h
theorem cq.kept(h:cq W g c T)(hU:af ae W W'):cq W' g c T:=h.ag hU (fun x=>x)
theorem cq.set(h:cq W g c T)(v:Value):cq (W.setCell ⟨g,0,none⟩ v) g v T:=by
  obtain⟨aB,hk⟩:=Array.getElem?_eq_some_iff.1 h;show(W.heap.modify g _)[g]? =_;rw[Array.getElem?_eq_getElem (by rw[Array.size_modify];exact aB),Array.getElem_modify_self,hk];rfl
end
theorem zz{O:Nat->Prop}{W:World}{ts:List Tm}(h:ai O W 4 (ts.map Tm.az) none 0):ts=[]:=by
  cases ts with
  |nil=>rfl
  |cons t ts=>simp only[List.map_cons,ai]at h;obtain⟨⟨_,_,_,e,_⟩,_⟩:=h;cases e
def VD(O:Nat->Prop)(ts:List Tm)(w:World)(e:Ending)(w':World):Prop:=∃ v css,e=.returned v/\gP O w.heap.size w' v ts css/\af ae w w'
theorem oq(ts:List Tm)(O:Nat->Prop)(w:World)(a:Option Addr)(cap:Nat)(hl:ts.length<=900000)(hE:ai O w 4 (ts.map Tm.az) a 0):
    Calls Tryz.prog 176 #[.slice a ts.length cap] w (VD O ts w):=by
  obtain⟨i0,hi,fS,gn,eH⟩:=info_parts de;rcases a with _ |ad
  ·obtain rfl:=zz hE;clear hE;have he:∀ w:World,(binOp .eql 26 (.slice none 0 cap) (.slice none 0 0)).run Tryz.prog w=.ok (.bool true) w:=fun _=>rfl
   go_enter Tryz.func176,Tryz.ntmps176;go_wp2_with fail;go_ret;exact⟨_,[],rfl,⟨rfl,by simp,World.ownsRow_nil _ _ _ _,fun i h=>by simp at h⟩,af.refl _ _⟩
  rcases Nat.eq_zero_or_pos ts.length with h0 |h0
  ·obtain rfl:ts=[]:=List.eq_nil_of_length_eq_zero h0;clear hE h0;simp only[List.length_nil];have he:∀ w:World,(binOp .eql 26 (.slice (some ad) 0 cap) (.slice none 0 0)).run Tryz.prog w=.ok (.bool false) w:=fun _=>rfl
   go_enter Tryz.func176,Tryz.ntmps176;go_wp2_with fail;go_ret;exact⟨_,[],rfl,⟨rfl,by simp,World.ownsRow_made w #[] 0 (Nat.le_refl _) (by decide) (by simp),fun i h=>by simp at h⟩,(af.refl ae w).alloc _⟩
  obtain⟨css,r1,r2,r3,r4,r5⟩:=oB ts _ 0 (ai.aG 4 _ _ _ hE);have iw:=(zN css r2).1;rw[r1]at iw
  obtain⟨ub,uo,he⟩:∃ ub uo,ad=⟨ub,uo,none⟩:=by
    obtain⟨u,hu⟩:∃ u,css.flatten[0]? =some u:=⟨_,List.getElem?_eq_getElem (by omega)⟩;obtain⟨b,o,e,_⟩:=r4 0 u hu;cases e
    exact⟨b,o,rfl⟩
  subst he
  have HN:∀ j u,css.flatten[j]? =some u->(w.alloc (.cells #[] 29)).cell? ((⟨ub,uo,none⟩:Addr).add j)=some u:=by
    intro j u hu;obtain⟨b',o',e,hc⟩:=r4 j u hu;cases e
    have gF:(⟨ub,uo,none⟩:Addr).add j=⟨ub,uo+j,none⟩:=by unfold Addr.add;split<;>simp_all
    rw[gF];exact((af.refl ae w).alloc _).cell (by simpa using hc) (fun x=>x)
  have HL:=ak (And.intro r1 (And.intro r2 r5));obtain⟨len,hlen⟩:∃ len,len=ts.length:=⟨_,rfl⟩;rw[<-hlen]at hl h0 iw ⊢;have HE:=ak hlen;clear hE r1 r2 r4 r5 hlen;have he:∀ w:World,(binOp .eql 26 (.slice (some ⟨ub,uo,none⟩) len cap) (.slice none 0 0)).run Tryz.prog w=.ok (.bool false) w:=fun _=>rfl
  go_enter Tryz.func176,Tryz.ntmps176;go_wp2_with (at_builtin;refine wpList_append_lies _ (by rfl) _ _ 26 (by rfl) w.heap.size 29 i0 (.agg #[.int .i64 0,.string (B []),.int .i64 0,.slice none 0 0]) 4 56 (by kernel_rfl) hi fS gn eH rfl (by decide) (.slice (some ⟨w.heap.size,0,none⟩) 0 0) 0 [] (by rfl) (World.ownsRow_made w #[] 0 (Nat.le_refl _) (by decide) (by simp)) ⟨ub,uo,none⟩ len cap css.flatten (by rfl) iw HN r3 h0 (by simp only[maxLen];omega) (by omega) (by simp) _ rfl ?_;intro g aS w7 bq aN ft aB)
  go_ret;have cm:af ae w w7:=((af.refl ae w).alloc (.cells #[] 29)).trans (ck aN) (fun i hi e=>by simp only[Value.ownBlock,Option.some.injEq]at e;omega);refine⟨_,css,rfl,⟨HL.out.1,HL.out.2.1,?_,fun i hi dZ=>(HL.out.2.2 i hi dZ).on cm⟩,cm⟩;rw[<-HE.out];simpa using bq
end
section
open Go.RowKit Go.LF
def FF(w:World)(F:FuncId)(jJ:List Value)(f:Tm.To):Prop:=
  ∀(i:Int)(W:World),0<=i->i<=1048576->af ae w W->Calls Tryz.prog F (.int .i64 i :: jJ).toArray W fun e W'=>e=.returned (.tuple #[.int .i64 (f i).1,.bool (f i).2])/\af ae W W'
def Zg(f:Tm.To)(okb:Nat)(o:Bool)(b:Int)(t:Tm)(w:World)(e:Ending)(w':World):Prop:=
  ∃(k i:Int)(n:List UInt8)(a:Option Addr)(len cap:Nat)(u:Tm),e=.returned (.agg #[.int .i64 k,.string (B n),.int .i64 i,.slice a len cap])/\
   aw (fun x=>x<w.heap.size) w' u.az [.int .i64 k,.string (B n),.int .i64 i,.slice a len cap]/\(t.il f b=true->u=t.mv f b)/\u.size=t.size/\
   cq w' okb (.bool (o && t.il f b)) 4/\af (fun x=>x=okb) w w'
def jf(okb lo base:Nat)(W:World)(a:Option Addr)(us ts:List Tm):Prop:=
  ∀ i,i<ts.length->∃ g cs,a=some ⟨g,0,none⟩/\base<=g/\g<W.heap.size/\(∀ o,W.frozen? ⟨g,o,none⟩=false)/\cs.length=4/\(∀ m u,cs[m]? =some u->W.cell? ⟨g,i * 4+m,none⟩=some u)/\
    (∀(h:i<us.length),aw (fun b=>b<base\/b=g) W us[i].az cs)/\(∀(h:i<ts.length),us.length<=i->aw (fun b=>b=okb\/lo<=b) W ts[i].az cs)
section
variable {okb lo base:Nat}{W W':World}{a:Option Addr}{us ts:List Tm}
theorem jf.start{O:Nat->Prop}{sc:Nat}{css:List (List Value)}{sa:Option Addr}(h:gP O base W (.slice sa ts.length sc) ts css)(hO:∀ b,b=okb\/lo<=b->O b\/base<=b):jf okb lo base W sa [] ts:=by
  intro i hi;obtain⟨RY,FR,hv,_,hc⟩:=h.cells;simp only[Value.slice.injEq]at hv;obtain⟨rfl,_,rfl⟩:=hv;have dZ:i<css.length:=by have:=h.1;omega
  obtain⟨g,rfl,_,hb,aB,hf,hg⟩:=hc i hi dZ;exact⟨g,css[i],rfl,hb,aB,hf,h.2.1 _ (List.getElem_mem dZ),hg,fun h=>by simp at h,fun h' _=>aw.weaken (fun b _ e=>hO b e) _ _ (h.2.2.2 i hi dZ)⟩
theorem jf.ag{S:Nat->Prop}(h:jf okb lo base W a us ts)(hU:af S W W')(hS:∀ b,S b->(b=okb\/lo<=b)/\b<base):jf okb lo base W' a us ts:=by
  intro i hi;obtain⟨g,cs,h1,h2,h3,h4,h5,h6,h7,h8⟩:=h i hi;have hg:¬S g:=fun e=>by have:=(hS g e).2;omega
  refine⟨g,cs,h1,h2,Nat.lt_of_lt_of_le h3 hU.size,fun o=>?_,h5,fun m u hu=>hU.cell (h6 m u hu) hg,fun h=>?_,fun h dZ=>?_⟩
  ·rw[hU.cells.2 g o h3 hg];exact h4 o
  ·exact aw.ag hU (fun b e=>.inl (hS b e).2) _ _ (h7 h)
  exact aw.ag hU (fun b e=>(hS b e).1) _ _ (h8 h dZ)
theorem jf.kept(h:jf okb lo base W a us ts)(hU:af ae W W'):jf okb lo base W' a us ts:=h.ag hU (fun _ x=>x.elim)
theorem jf.next{g:Nat}{u:Tm}{d0 d1 d2 d3:Value}(h:jf okb lo base W (some ⟨g,0,none⟩) us ts)(hj:us.length<ts.length)(sP:lo<=base)(hR:aw (fun b=>b<base\/b=g) W u.az [d0,d1,d2,d3])
    (hW:W'=(((W.setCell ⟨g,us.length * 4,none⟩ d0).setCell ⟨g,us.length * 4+1,none⟩ d1).setCell ⟨g,us.length * 4+2,none⟩ d2).setCell ⟨g,us.length * 4+3,none⟩ d3):
    jf okb lo base W' (some ⟨g,0,none⟩) (us++[u]) ts/\af (fun b=>b=g) W W':=by
  obtain⟨g',cs,e,hb,aB,hf,nc,hc,_,_⟩:=h us.length hj;cases e
  have jG:∀ m,m<4->∃ u,W.cell? ⟨g,us.length * 4+m,none⟩=some u:=fun m hm=>⟨_,hc m _ (List.getElem?_eq_getElem (by rw[nc];exact hm))⟩
  obtain⟨_,u0⟩:=jG 0 (by omega);obtain⟨_,u1⟩:=jG 1 (by omega);obtain⟨_,u2⟩:=jG 2 (by omega);obtain⟨_,u3⟩:=jG 3 (by omega);obtain⟨⟨v0,v1,v2,v3⟩,mZ,hU⟩:=iv (d0:=d0) (d1:=d1) (d2:=d2) (d3:=d3) u0 u1 u2 u3 hW;refine⟨fun i hi=>?_,hU⟩;obtain⟨g',qs,e,WI,kZ,hf',qI,AX,h7,h8⟩:=h i hi;cases e
  have tG:∀ o,W'.frozen? ⟨g,o,none⟩=false:=fun o=>by rw[hW];simp only[World.frozen?_setCell];exact hf o
  by_cases Bc:i=us.length
  ·subst Bc;refine⟨g,[d0,d1,d2,d3],rfl,hb,Nat.lt_of_lt_of_le aB hU.size,tG,rfl,fun m x hx=>?_,fun h'=>?_,fun _ h'=>?_⟩
   ·match m,hx with
    |0,hx=>cases hx;exact v0
    |1,hx=>cases hx;exact v1
    |2,hx=>cases hx;exact v2
    |3,hx=>cases hx;exact v3
   ·simp only[List.getElem_concat_length];exact aw.ag hU (fun b e=>.inr e) _ _ hR
   (simp at h';omega)
  refine⟨g,qs,rfl,hb,Nat.lt_of_lt_of_le aB hU.size,tG,qI,fun m x hx=>?_,fun h'=>?_,fun h' h''=>?_⟩
  ·have hm:m<4:=by rw[<-qI];exact(List.getElem?_eq_some_iff.1 hx).1
   rw[mZ _ (by omega) (by omega) (by omega) (by omega)];exact AX m x hx
  ·have C0:i<us.length:=by simp at h';omega
   rw[List.getElem_append_left C0];exact aw.ag hU (fun b e=>.inr e) _ _ (h7 C0)
  simp at h'';exact aw.ag hU (fun b e=>.inr (by omega)) _ _ (h8 h' (by omega))
theorem jf.rep(h:jf okb lo base W a us ts)(hl:us.length=ts.length):ai (fun b=>b<base) W 4 (us.map Tm.az) a 0:=by
  refine bT _ _ _ (fun i hi=>?_);simp only[List.length_map]at hi;obtain⟨g,cs,rfl,hb,aB,_,nc,hc,h7,_⟩:=h i (by omega);refine⟨g,0,cs,rfl,aB,by omega,nc,fun m u hu=>?_,?_⟩
  ·rw[show 0+0+i * 4+m=i * 4+m by omega];exact hc m u hu
  simp only[List.getElem_map];exact aw.weaken (fun b _ e=>.inl e) _ _ (h7 hi)
end
end
section
open Go.RowKit Go.LF
abbrev BT(B K tb:Nat)(sa:Option Addr)(len sc:Nat)(fv c0 c1 c2 c3:Value)(w':World):Prop:=
  w'.cell? ⟨B,3,none⟩=some (.slice sa len sc)/\w'.cell? ⟨K,0,none⟩=some fv/\gC tb c0 c1 c2 c3 w'
theorem BT.ag{B K tb len sc:Nat}{sa:Option Addr}{fv c0 c1 c2 c3:Value}{w w':World}{S:Nat->Prop}(h:BT B K tb sa len sc fv c0 c1 c2 c3 w)(hU:af S w w')(h1:¬S B)(h2:¬S K)(h3:¬S tb):BT B K tb sa len sc fv c0 c1 c2 c3 w':=
  ⟨hU.cell h.1 h1,hU.cell h.2.1 h2,h.2.2.ag hU h3⟩
theorem BT.set{B K tb len sc g:Nat}{sa:Option Addr}{fv c0 c1 c2 c3:Value}{w:World}(h:BT B K tb sa len sc fv c0 c1 c2 c3 w)(h1:B≠g)(h2:K≠g)(h3:tb≠g)(o:Nat)(v:Value):BT B K tb sa len sc fv c0 c1 c2 c3 (w.setCell ⟨g,o,none⟩ v):=
  h.ag (af.set (af.refl _ w) o v) h1 h2 h3
theorem Nh(f:Tm.To)(w0:World)(okb BU K:Nat)(F:FuncId)(jJ:List Value)(hF:FF w0 F jJ f)(Xe:∀ args w,Sem.run Tryz.prog (callFunc F args) w=.ok (Next.enter F args) w)(hk:w0.heap.size<=okb)(ht0:BU≠okb)(hK0:K≠okb)(t:Tm):t.size<=100000->(∀ b,∀ x∈t.nodes b,x.ok)->
    ∀(b:Int)(o:Bool)(w:World)(cs:List Value),0<=b->b+t.size<=1000000->aw (fun x=>x=okb) w t.az cs->af ae w0 w->cq w okb (.bool o) 4->w.cell? ⟨BU,0,none⟩=some (.func (.func F) #[] jJ.toArray)->
    w.cell? ⟨K,0,none⟩=some (.func (.func 184) #[] #[.pointer (some ⟨BU,0,none⟩),.pointer (some ⟨okb,0,none⟩),.pointer (some ⟨K,0,none⟩)])->
    Calls Tryz.prog 184 #[.agg cs.toArray,.int .i64 b,.pointer (some ⟨BU,0,none⟩),.pointer (some ⟨okb,0,none⟩),.pointer (some ⟨K,0,none⟩)] w (Zg f okb o b t w):=by
  induction t using Tm.ind with
  |h k nm i ts ih=>
   intro ee gD b o w cs Rz iV hR m9 hO hT hK;obtain⟨a,cap,rfl,aX,hE⟩:=bg.1 hR;have hlen:=Tm.aA ts;simp only[Tm.aM]at ee iV;have Ay:=gD b;rw[Tm.br]at Ay;have VP:k=5->0<=i/\i<=1048576:=fun e=>(Ay _ (List.mem_cons_self ..)).1 (by simp[e])
   have GL:∀ x∈ts,∀ b,∀ y∈x.nodes b,y.ok:=Tm.G2 gD;have anE:=hO.lt;have agA:BU<w.heap.size:=World.block_lt_of_cell? w _ hT;have hKb:K<w.heap.size:=World.block_lt_of_cell? w _ hK;obtain⟨w2,dY⟩:∃ w2,w2=(w.alloc (.cells #[.int .i64 k,.string (B nm),.int .i64 i,.slice a ts.length cap] 29)).alloc (.cells #[.int .i64 0,.string (B []),.int .i64 0,.slice none 0 0] 29):=⟨_,rfl⟩;have aL:af ae w w2:=by rw[dY];exact((af.refl ae w).alloc _).alloc _
   have iD:au w2 w.heap.size (.int .i64 k) (.string (B nm)) (.int .i64 i) (.slice a ts.length cap) 29:=by rw[dY];exact(au.av rfl).kept ((af.refl ae _).alloc _)
   have dO:au w2 (w.heap.size+1) (.int .i64 0) (.string (B [])) (.int .i64 0) (.slice none 0 0) 29:=by rw[dY];exact au.av (by simp)
   have FA:=hO.kept aL;have yZ:=aL.cell hT (fun x=>x);have KP:=aL.cell hK (fun x=>x);obtain⟨t0,t1,t2,t3⟩:=iD.cells;obtain⟨f0,f1,f2,f3⟩:=iD.aq;have q0:=FA.cell;have q1:=FA.frozen;have B7:=ak dY;have HW:=ak (And.intro ee iV);clear dY hR Ay gD;obtain⟨c21,YN⟩:∃ c,c=(k == 5 && decide (b<=i)):=⟨_,rfl⟩
   have cV:((k == 5)=true/\b<=i)\/((k == 5)=true/\i<b)\/(k == 5)=false:=by
     by_cases h:k=5
     ·by_cases h':b<=i
      ·exact .inl ⟨by simp[h],h'⟩
      exact .inr (.inl ⟨by simp[h],by omega⟩)
     exact .inr (.inr (by simp[h]))
   have HC:=ak YN;have HY:=ak cV;clear YN cV;go_enter Tryz.func184,Tryz.ntmps184;go_upto_region 1 with fail;rw[<-B7.out];go_cut [21]from 13 to 21 (fun v21 wx=>v21=.bool c21/\w2=wx)
   case first=>
     rcases HY.out with⟨h5,uy⟩|⟨h5,uy⟩|h5
     all_goals
       go_wp2_with fail;go_meet
       exact⟨by rw[HC.out];simp[h5]<;>omega,rfl⟩
   obtain⟨rfl,rfl⟩:=hcut;go_upto_if 21 with fail
   go_cut []from 13 to 46 (fun wc=>∃(i2:Int)(o1:Bool),au wc w.heap.size (.int .i64 k) (.string (B nm)) (.int .i64 i2) (.slice a ts.length cap) 29/\au wc (w.heap.size+1) (.int .i64 0) (.string (B [])) (.int .i64 0) (.slice none 0 0) 29/\
     cq wc okb (.bool o1) 4/\af (fun x=>x=okb\/x=w.heap.size) w2 wc/\(Tm.G4 f b k i=true->i2=Tm.lN f b k i)/\o1=(o && Tm.G4 f b k i))
   case first=>
     cases c21
     ·go_wp2_with fail;go_meet
      have hc:=HC.out;exact⟨i,o,iD,dO,FA,af.refl _ _,fun _=>(if_neg (fun e=>by simp[e.1,e.2]at hc)).symm,by unfold Tm.G4;rw[<-hc];simp⟩
     have hki:k=5/\b<=i:=by have:=HC.out;simpa using this.symm
     obtain⟨rV,uy⟩:=hki;have hi6:=VP rV;have KJ:0<=i - b:=by omega
     have te:i - b<=1048576:=by omega
     have HF:=ak (hF (i - b));clear hF;have HK:=ak rV;clear rV VP;go_wp2_with fail;refine(HF.out _ (by omega) (by omega) (m9.and aL)).mono ?_;rintro e w3 ⟨rfl,aZ⟩;obtain⟨⟨n,fd⟩,hp⟩:∃ p,p=f (i - b):=⟨_,rfl⟩;rw[<-hp];have Tn:Tm.G4 f b k i=(fd && (decide (0<=n) && decide (n<=1048576 - b))):=by unfold Tm.G4;rw[<-hp,HK.out];simp[uy]
     have qp:Tm.lN f b k i=n+b:=by unfold Tm.lN;rw[if_pos ⟨HK.out,uy⟩,<-hp]
     have HO:=ak (And.intro Tn qp);clear Tn qp hp HF t0 t1 t2 t3 f0 f1 f2 f3 q0 q1;have rH:=iD.kept aZ;have iL:=dO.kept aZ;have Kc:=FA.kept aZ;obtain⟨x0,x1,x2,x3⟩:=rH.cells;obtain⟨y0,y1,y2,y3⟩:=rH.aq;have q0:=Kc.cell;have q1:=Kc.frozen;have gJ:w.heap.size≠okb:=by omega
     have ae7:w.heap.size+1≠okb:=by omega
     have cV:(fd=true/\0<=n/\n<=1048576 - b)\/fd=false\/(fd=true/\n<0)\/(fd=true/\0<=n/\1048576 - b<n):=by
       cases fd
       ·exact .inr (.inl rfl)
       by_cases h0:0<=n
       ·by_cases h1:n<=1048576 - b
        ·exact .inl ⟨rfl,h0,h1⟩
        exact .inr (.inr (.inr ⟨rfl,h0,by omega⟩))
       exact .inr (.inr (.inl ⟨rfl,by omega⟩))
     rcases cV with⟨rfl,h1,h2⟩|rfl |⟨rfl,h1⟩|⟨rfl,h1,h2⟩;all_goals go_wp2_with fail
     all_goals go_meet
     all_goals first
       |exact⟨n+b,o,rH.kG _,iL.other (by omega) _,Kc.ag (af.set (af.refl _ _) 2 _) (by omega),(aZ.mono (fun _ _ e=>e.elim)).trans (af.set (af.refl _ _) 2 _) (fun _ _ e=>.inr e),fun _=>HO.out.2.symm,by rw[HO.out.1];simp[h1,h2]⟩
       |exact⟨_,false,(rH.other gJ _).kG _,(iL.other ae7 _).other (by omega) _,(Kc.set _).ag (af.set (af.refl _ _) 2 _) (by omega),((aZ.mono (fun _ _ e=>e.elim)).trans (af.set (af.refl _ _) 0 _) (fun _ _ e=>.inl e)).trans (af.set (af.refl _ _) 2 _) (fun _ _ e=>.inr e),fun e=>(by rw[HO.out.1]at e;simp at e<;>omega),by rw[HO.out.1];simp<;>omega⟩
       |trace_state
   obtain⟨i2,o1,hB,Kf,Rw,vC,eH,Tn⟩:=hcut;obtain⟨x0,x1,x2,x3⟩:=hB.cells;obtain⟨y0,y1,y2,y3⟩:=hB.aq;have kJ:ai (fun x=>x=okb\/w.heap.size<=x) wc 4 (ts.map Tm.az) a 0:=ai.ag vC (fun x e=>e.elim .inl (fun e=>.inr (by omega))) _ _ _ _ ((ai.aG _ _ _ _ hE).on aL);have HI:=ak (And.intro eH Tn);clear eH Tn t0 t1 t2 t3 f0 f1 f2 f3 q0 q1 VP;go_wp2_with fail;have hwz:w.heap.size<wc.heap.size:=hB.lt;refine(oq ts (fun x=>x=okb\/w.heap.size<=x) wc a cap (by omega) kJ).mono ?_;rintro e w4 ⟨v,css,rfl,hS,bw⟩;obtain⟨sa,sc,rfl,fJ,_⟩:=hS.cells;have xK:=jf.start (okb:=okb) (lo:=w.heap.size) hS (fun b e=>.inl e);have NQ:=hB.kept bw;have OE:=Kf.kept bw;have KU:=Rw.kept bw;obtain⟨base,dh⟩:∃ base,base=wc.heap.size:=⟨_,rfl⟩;rw[<-dh]at xK hwz;have EE:base<=w4.heap.size:=by rw[dh];exact bw.size
   have Kz:w.heap.size+1<base:=by rw[dh];exact Kf.lt
   have MU:af (fun x=>x=okb\/x=w.heap.size) w2 w4:=vC.trans bw (fun _ _ e=>e.elim);obtain⟨z0,z1,z2,z3⟩:=NQ.cells;obtain⟨v0,v1,v2,v3⟩:=NQ.aq;clear hS hB Kf Rw hE kJ x0 x1 x2 x3 y0 y1 y2 y3 dh bw vC;go_wp2_with fail;obtain⟨w5,gT⟩:∃ w5,w5=w4.setCell ⟨w.heap.size,3,none⟩ (.slice sa ts.length sc):=⟨_,rfl⟩;have fH:af (fun x=>x=w.heap.size) w4 w5:=by rw[gT];exact af.set (af.refl _ _) 3 _
   have Jr:au w5 w.heap.size (.int .i64 k) (.string (B nm)) (.int .i64 i2) (.slice sa ts.length sc) 29:=by rw[gT];exact NQ.mH _
   have gN:au w5 (w.heap.size+1) (.int .i64 0) (.string (B [])) (.int .i64 0) (.slice none 0 0) 29:=OE.ag fH (by omega);have LM:=KU.ag fH (by omega);have rT:af (fun x=>x=okb) w w5:=(aL.mono (fun _ _ e=>e.elim)).trans (MU.trans fH (fun _ _ e=>.inr e)) (fun x hx e=>e.elim id (fun e=>by omega));have yz:=fH.size;have GG:jf okb w.heap.size base w5 sa [] ts:=xK.ag fH (fun b e=>⟨.inr (by omega),by omega⟩);rw[<-gT];clear gT NQ OE KU xK fH MU z0 z1 z2 z3 v0 v1 v2 v3
   go_loopw [54] (fun v54 wr=>∃(j:Nat)(us:List Tm)(o2:Bool),v54=.int .i64 j/\j<=ts.length/\us.length=j/\(Tm.gi f b k 0 (ts.take j)=true->us=Tm.iC f b k 0 (ts.take j))/\Tm.aD us=Tm.aD (ts.take j)/\o2=(o1 && Tm.gi f b k 0 (ts.take j))/\jf okb w.heap.size base wr sa us ts/\
       au wr w.heap.size (.int .i64 k) (.string (B nm)) (.int .i64 i2) (.slice sa ts.length sc) 29/\au wr (w.heap.size+1) (.int .i64 0) (.string (B [])) (.int .i64 0) (.slice none 0 0) 29/\
       cq wr okb (.bool o2) 4/\af (fun x=>x=okb) w wr/\base<=wr.heap.size)
     (fun v54 _=>ts.length - (intOf v54).toNat)
   case atStart=>exact⟨0,[],o1,rfl,Nat.zero_le _,rfl,fun _=>by simp[Tm.iC],by simp,by simp[Tm.gi],GG,Jr,gN,LM,rT,by omega⟩
   obtain⟨j,us,o2,rfl,hj,RO,gd,hzs,qq,hM,hB,xG,aap,hU,Ax⟩:=hrel;obtain⟨x0,x1,x2,x3⟩:=hB.cells;have qB:=hB.lt;have Dp:(j:Int)<=100000:=by omega
   have Fl:(0:Int)<=(j:Int):=by omega
   have xq:=hU.cell hT (by exact ht0);have Jb:=hU.cell hK (by exact hK0);have Qf:af ae w0 wr:=m9.trans hU (fun x hx e=>by omega);have HS:=ak (And.intro RO (And.intro gd (And.intro hzs qq)));clear RO gd hzs qq;by_cases aB:j<ts.length
   ·obtain⟨g,cs,rfl,EF,px,sR,Km,iQ,_,pw⟩:=hM j aB;have oO:=pw aB (by have:=HS.out.1;omega);obtain⟨kj,nj,ij,lj,aj,cj,Cb,rfl,_,_⟩:=aP oO;have g0:=iQ 0 _ rfl;rw[Nat.add_zero]at g0;have g1:=iQ 1 _ rfl;have g2:=iQ 2 _ rfl;have g3:=iQ 3 _ rfl;have ET:(j:Int)<(ts.length:Int):=by omega
    have yA:=Tm.aK (List.getElem_mem aB);have qx:=Tm.bZ k j;have IH:=fun w'(h1:aw (fun x=>x=okb) w' (ts[j]'aB).az [.int .i64 kj,.string (B nj),.int .i64 ij,.slice aj lj.length cj])=>ih (ts[j]'aB) (List.getElem_mem aB) (by omega) (GL _ (List.getElem_mem aB)) (b+Tm.under k j) o2 w' _ (by omega) (by omega) h1
    have yN:=ak (show j<ts.length from aB);have HG:=ak (And.intro Cb iQ);clear Cb iQ pw Km;have Nt:¬g=okb:=by omega
    have ym:w.heap.size≠g:=by omega
    have yP:K≠g:=by omega
    have tZ:wr.heap.size≠g:=by omega
    generalize lj.length=Bg at *
    have rest:=jW k j;generalize hu:Tm.under k j=u at *
    clear qx;obtain⟨wa,mP⟩:∃ wa,wa=wr.alloc (.cells #[.int .i64 kj,.string (B nj),.int .i64 ij,.slice aj Bg cj] 29):=⟨_,rfl⟩;have dM:af ae wr wa.drew:=by rw[mP];exact((af.refl ae wr).alloc _).drew
    have PE:wa.drew.heap.size=wr.heap.size+1:=by rw[mP];simp[World.drew]
    have Zt:gC wr.heap.size (.int .i64 kj) (.string (B nj)) (.int .i64 ij) (.slice aj Bg cj) wa.drew:=by rw[mP];exact gC.ag (au.av (T:=29) rfl).cells (af.refl ae _).drew (fun x=>x)
    have nL:okb<base/\K<base:=by omega
    have S0:BT w.heap.size K wr.heap.size (some ⟨g,0,none⟩) ts.length sc (.func (.func 184) #[] #[.pointer (some ⟨BU,0,none⟩),.pointer (some ⟨okb,0,none⟩),.pointer (some ⟨K,0,none⟩)]) (.int .i64 kj) (.string (B nj)) (.int .i64 ij) (.slice aj Bg cj) wa.drew:=⟨dM.cell x3 (fun x=>x),dM.cell Jb (fun x=>x),Zt⟩;have Yg:=aw.weaken (O':=fun x=>x=okb) (fun b _ e=>.inl e) _ _ (oO.on dM);have LY:=IH _ Yg (Qf.and dM) (aap.kept dM) (dM.cell xq (fun x=>x)) (dM.cell Jb (fun x=>x));have NV:=ak mP;clear mP IH Yg oO Zt xq;rcases rest with⟨k3,rfl⟩|⟨k3,k2,j1,rfl⟩|⟨k3,k2,j1,rfl⟩|⟨k3,k2,rfl⟩
    all_goals
      have HU:=ak hu;clear hu;try simp only[Int.add_zero]at LY
      go_wp2_with fail;rw[<-NV.out]
      go_region_held3 (fun w'=>BT w.heap.size K wr.heap.size (some ⟨g,0,none⟩) ts.length sc (.func (.func 184) #[] #[.pointer (some ⟨BU,0,none⟩),.pointer (some ⟨okb,0,none⟩),.pointer (some ⟨K,0,none⟩)]) (.int .i64 kj) (.string (B nj)) (.int .i64 ij) (.slice aj Bg cj) w')
        (first |(with_reducible assumption)|(with_reducible exact S0)|(with_reducible exact BT.set (BT.set (BT.set (BT.set S6 ym yP tZ _ _) ym yP tZ _ _) ym yP tZ _ _) ym yP tZ _ _))
        ((go_at_call 184;refine LY.mono ?_;rintro e w6 ⟨k6,i6,n6,a6,l6,c6,u6,rfl,dg,JK,sf,Nc,bj⟩;have S6:=S0.ag bj (by omega) (by omega) (by omega);have cL:af (fun x=>x=okb) wr w6:=(dM.mono (fun _ _ e=>e.elim)).trans bj (fun _ _ e=>e);have v0:=cL.cell g0 (by exact Nt);have v1:=cL.cell g1 (by exact Nt);have v2:=cL.cell g2 (by exact Nt);have v3:=cL.cell g3 (by exact Nt);have f6:=fun o=>(cL.cells.2 g o px Nt).trans (sR o);have DN:=cL.size))
    all_goals
      have yB:=hM.ag cL (fun b e=>⟨.inl e,by omega⟩);have jd:=jf.next (u:=u6) (d0:=.int .i64 k6) (d1:=.string (B n6)) (d2:=.int .i64 i6) (d3:=.slice a6 l6 c6) yB (by have:=HS.out.1;have:=yN.out;omega) (by omega) (aw.weaken (fun b _ e=>by omega) _ _ dg) rfl;rw[HS.out.1]at jd;have mq:=(hB.ag cL (by omega)).ag jd.2 (by omega);have oK:=(xG.ag cL (by omega)).ag jd.2 (by omega);have hO9:=Nc.ag jd.2 (by omega);have bU:=(hU.trans cL (fun _ _ e=>e)).trans jd.2 (fun x hx e=>by omega);have hz9:=jd.2.size;have n1:(us++[u6]).length=j+1:=by simp[HS.out.1]
      have n2:Tm.gi f b k 0 (ts.take (j+1))=true->us++[u6]=Tm.iC f b k 0 (ts.take (j+1)):=by
        intro e;rw[Tm.mS _ _ _ _ _ aB,HU.out,Bool.and_eq_true]at e;rw[Tm.pE _ _ _ _ _ aB,HU.out,HS.out.2.1 e.1];try simp only[Int.add_zero]at e ⊢
        rw[JK e.2]
      have n3:Tm.aD (us++[u6])=Tm.aD (ts.take (j+1)):=by rw[Tm.gB,Tm.bJ _ _ aB,HS.out.2.2.1];simp[Tm.aD,sf]
      have n4:=HS.out.2.2.2;have n5:=Tm.mS f b k ts j aB;rw[HU.out]at n5;try simp only[Int.add_zero]at n5
      have HN:=ak (And.intro n1 (And.intro n2 (And.intro n3 (And.intro n4 n5))));clear n1 n2 n3 n4 n5 JK sf;go_wp2_with fail;go_roundw;case rel=>exact⟨j+1,us++[u6],_,by go_num,Nat.succ_le_of_lt yN.out,HN.out.1,HN.out.2.1,HN.out.2.2.1,by rw[HN.out.2.2.2.1,HN.out.2.2.2.2,Bool.and_assoc],jd.1,mq,oK,hO9,bU,by omega⟩
      (have:=yN.out;simp[intOf];omega)
   obtain⟨r0,r1,r2,r3⟩:=xG.cells;obtain⟨rf0,Zm,rf2,Y0⟩:=xG.aq;have b7:j=ts.length:=by omega
   have tB:=hM.rep (by have:=HS.out.1;omega);have sA:¬(j:Int)<(ts.length:Int):=by omega
   have HJ:=ak b7;clear b7 hM;go_wp2_with fail;obtain⟨w9,bf⟩:∃ w9,w9=(((wr.setCell ⟨w.heap.size+1,0,none⟩ (.int .i64 k)).setCell ⟨w.heap.size+1,1,none⟩ (.string (B nm))).setCell ⟨w.heap.size+1,2,none⟩ (.int .i64 i2)).setCell ⟨w.heap.size+1,3,none⟩ (.slice sa ts.length sc):=⟨_,rfl⟩;have aJ:=xG.set (d0:=.int .i64 k) (d1:=.string (B nm)) (d2:=.int .i64 i2) (d3:=.slice sa ts.length sc);rw[<-bf]at aJ;rw[<-bf];clear bf;obtain⟨e0,e1,e2,e3⟩:=aJ.1.cells;refine bodyPost_ret (v:=.agg #[.int .i64 k,.string (B nm),.int .i64 i2,.slice sa ts.length sc]) ?_ rfl ?_
   ·simp[results,Tryz.f184,go_sem,e0,e1,e2,e3]
   have h1:=HS.out.1;have h2:=HS.out.2.1;have h3:=HS.out.2.2.1;have h4:=HS.out.2.2.2;rw[List.take_of_length_le (by have:=HJ.out;omega)]at h2 h3 h4;have h5:us.length=ts.length:=by have:=HJ.out;omega
   refine⟨k,i2,nm,sa,ts.length,sc,.mk k nm i2 us,rfl,bg.2 ⟨sa,sc,by rw[h5],by rw[h5];exact fJ,?_⟩,fun e=>?_,by simp[h3],?_,hU.trans aJ.2 (fun x hx e=>by omega)⟩
   ·exact ai.weaken (fun b _ e=>by omega) _ _ _ _ (ai.ag aJ.2 (fun b e=>by omega) _ _ _ _ tB)
   ·rw[Tm.oU,Bool.and_eq_true]at e;rw[Tm.iN,HI.out.1 e.1,h2 e.2]
   rw[Tm.oU,<-Bool.and_assoc,<-HI.out.2,<-h4];exact aap.ag aJ.2 (by omega)
end
section
open Go.RowKit Go.LF
def Yj(f:Tm.To)(t:Tm)(w:World)(e:Ending)(w':World):Prop:=
  ∃(k i:Int)(n:List UInt8)(a:Option Addr)(len cap:Nat)(u:Tm),e=.returned (.tuple #[.agg #[.int .i64 k,.string (B n),.int .i64 i,.slice a len cap],.bool (t.il f 0)])/\
   aw (fun x=>x<w.heap.size) w' u.az [.int .i64 k,.string (B n),.int .i64 i,.slice a len cap]/\u=(if t.il f 0 then t.mv f 0 else .mk 0 [] 0 [])/\u.size<=t.size/\af ae w w'
theorem N6(f:Tm.To)(F:FuncId)(jJ:List Value)(t:Tm)(w:World)(cs:List Value)(hF:FF w F jJ f)(Xe:∀ args w,Sem.run Tryz.prog (callFunc F args) w=.ok (Next.enter F args) w)(ee:t.size<=100000)
    (gD:∀ b,∀ x∈t.nodes b,x.ok) (h:aw ae w t.az cs):Calls Tryz.prog 156 #[.agg cs.toArray,.func (.func F) #[] jJ.toArray] w (Yj f t w):=by
  obtain⟨k,n,i,ts,a,cap,rfl,rfl,aX,hE⟩:=aP h;have hW:=fun okb BU K h1 h2 h3 w' h4 h5 h6 h7 h8=>Nh f w okb BU K F jJ hF Xe h1 h2 h3 (.mk k n i ts) ee gD 0 true w' [.int .i64 k,.string (B n),.int .i64 i,.slice a ts.length cap] (by omega) (by omega) h4 h5 h6 h7 h8
  clear hF gD;obtain⟨H,hH⟩:∃ H,H=w.heap.size:=⟨_,rfl⟩;obtain⟨w3,cQ⟩:∃ w3,w3=((w.alloc (.cells #[.int .i64 k,.string (B n),.int .i64 i,.slice a ts.length cap] 29)).alloc (.cells #[.func (.func F) #[] jJ.toArray] 172)).alloc (.cells #[.int .i64 0,.string (B []),.int .i64 0,.slice none 0 0] 29):=⟨_,rfl⟩;obtain⟨w5,gT⟩:∃ w5,w5=(w3.alloc (.cells #[.bool true] 4)).alloc (.cells #[.func (.func 184) #[] #[.pointer (some ⟨w.heap.size+1,0,none⟩),.pointer (some ⟨w.heap.size+1+1+1,0,none⟩),.pointer (some ⟨w.heap.size+1+1+1+1,0,none⟩)]] 106):=⟨_,rfl⟩;have vY:w3.heap.size=w.heap.size+1+1+1:=by rw[cQ];simp
  have aZ:af ae w w3:=by rw[cQ];exact(((af.refl ae w).alloc _).alloc _).alloc _
  have ba:af ae w3 w5:=by rw[gT];exact((af.refl ae w3).alloc _).alloc _
  have jg:=aZ.and ba
  have qT:cq w5 (w.heap.size+1) (.func (.func F) #[] jJ.toArray) 172:=by
    refine cq.kept ?_ ba;rw[cQ];exact(cq.av (by simp)).kept ((af.refl ae _).alloc _)
  have dR:au w5 (w.heap.size+1+1) (.int .i64 0) (.string (B [])) (.int .i64 0) (.slice none 0 0) 29:=by
    refine au.kept ?_ ba;rw[cQ];exact au.av (by simp)
  have I9:au w5 w.heap.size (.int .i64 k) (.string (B n)) (.int .i64 i) (.slice a ts.length cap) 29:=by
    refine au.kept ?_ ba;rw[cQ];exact((au.av rfl).kept ((af.refl ae _).alloc _)).kept ((af.refl ae _).alloc _)
  have LM:cq w5 (w.heap.size+1+1+1) (.bool true) 4:=by rw[gT];exact(cq.av vY).kept ((af.refl ae _).alloc _)
  have uG:cq w5 (w.heap.size+1+1+1+1) (.func (.func 184) #[] #[.pointer (some ⟨w.heap.size+1,0,none⟩),.pointer (some ⟨w.heap.size+1+1+1,0,none⟩),.pointer (some ⟨w.heap.size+1+1+1+1,0,none⟩)]) 106:=by rw[gT];exact cq.av (by simp[vY])
  have gN:aw (fun x=>x=w.heap.size+1+1+1) w5 (Tm.mk k n i ts).az [.int .i64 k,.string (B n),.int .i64 i,.slice a ts.length cap]:=(aw.weaken (fun b _ e=>.inr (by omega)) _ _ (aw.aG _ _ h)).on jg;have hWW:=hW (w.heap.size+1+1+1) (w.heap.size+1) (w.heap.size+1+1+1+1) (by omega) (by omega) (by omega) w5 gN jg LM qT.cell uG.cell;have XU:=LM.lt;rw[cQ]at gT;have GK:=ak gT;clear hW cQ gT aZ ba gN hE h uG qT LM;clear vY w3 hH;go_enter Tryz.func156,Tryz.ntmps156;go_wp2_with fail;rw[<-show B []={ data:=#[] }from rfl,<-GK.out];refine hWW.mono ?_;rintro e w6 ⟨k6,i6,n6,a6,l6,c6,u,rfl,dg,JK,sf,Nc,bj⟩;have fD:=dR.ag bj (by omega);have q0:=Nc.cell;have q1:=Nc.lt;obtain⟨x0,x1,x2,x3⟩:=fD.cells;obtain⟨y0,y1,y2,y3⟩:=fD.aq;have qr:=fD.lt;obtain⟨ok,gD⟩:∃ ok,ok=(Tm.mk k n i ts).il f 0:=⟨_,rfl⟩;rw[<-gD]at q0 JK;have HO:=ak (And.intro gD (And.intro JK sf));clear gD JK sf hWW;simp only[Bool.true_and]at q0;have jC:af ae w w6:=jg.trans bj (fun x hx e=>by omega);have aer:=jg.size;cases ok
  ·go_wp2_with fail;obtain⟨w9,bf⟩:∃ w9,w9=((((w6.setCell ⟨w.heap.size+1+1,0,none⟩ (.int .i64 0)).setCell ⟨w.heap.size+1+1,1,none⟩ (.string (B []))).setCell ⟨w.heap.size+1+1,2,none⟩ (.int .i64 0)).setCell ⟨w.heap.size+1+1,3,none⟩ (.slice none 0 0)).alloc (.cells #[.int .i64 k6,.string (B n6),.int .i64 i6,.slice a6 l6 c6] 29):=⟨_,rfl⟩;have ah:=fD.set (d0:=.int .i64 0) (d1:=.string (B [])) (d2:=.int .i64 0) (d3:=.slice none 0 0);have mq:au w9 (w.heap.size+1+1) (.int .i64 0) (.string (B [])) (.int .i64 0) (.slice none 0 0) 29:=by rw[bf];exact ah.1.kept ((af.refl ae _).alloc _)
   have bU:af (fun x=>x=w.heap.size+1+1) w6 w9:=by rw[bf];exact ah.2.alloc _
   rw[<-bf];clear bf ah;obtain⟨e0,e1,e2,e3⟩:=mq.cells;refine bodyPost_ret (v:=.tuple #[.agg #[.int .i64 0,.string (B []),.int .i64 0,.slice none 0 0],.bool false]) ?_ rfl ?_
   ·simp[results,Tryz.f156,go_sem,e0,e1,e2,e3]
   exact⟨0,0,[],none,0,0,.mk 0 [] 0 [],by rw[<-HO.out.1],bD _ _ _,by rw[<-HO.out.1];rfl,by simp[Tm.aD],jC.trans bU (fun x hx e=>by omega)⟩
  go_wp2_with fail;obtain⟨w9,bf⟩:∃ w9,w9=((((w6.setCell ⟨w.heap.size+1+1,0,none⟩ (.int .i64 k6)).setCell ⟨w.heap.size+1+1,1,none⟩ (.string (B n6))).setCell ⟨w.heap.size+1+1,2,none⟩ (.int .i64 i6)).setCell ⟨w.heap.size+1+1,3,none⟩ (.slice a6 l6 c6)).alloc (.cells #[.int .i64 k6,.string (B n6),.int .i64 i6,.slice a6 l6 c6] 29):=⟨_,rfl⟩;have ah:=fD.set (d0:=.int .i64 k6) (d1:=.string (B n6)) (d2:=.int .i64 i6) (d3:=.slice a6 l6 c6);have mq:au w9 (w.heap.size+1+1) (.int .i64 k6) (.string (B n6)) (.int .i64 i6) (.slice a6 l6 c6) 29:=by rw[bf];exact ah.1.kept ((af.refl ae _).alloc _)
  have bU:af (fun x=>x=w.heap.size+1+1) w6 w9:=by rw[bf];exact ah.2.alloc _
  rw[<-bf];clear bf ah;obtain⟨e0,e1,e2,e3⟩:=mq.cells;refine bodyPost_ret (v:=.tuple #[.agg #[.int .i64 k6,.string (B n6),.int .i64 i6,.slice a6 l6 c6],.bool true]) ?_ rfl ?_
  ·simp[results,Tryz.f156,go_sem,e0,e1,e2,e3]
  exact⟨k6,i6,n6,a6,l6,c6,u,by rw[<-HO.out.1],aw.weaken (fun b _ e=>by omega) _ _ (aw.ag bU (fun b e=>by omega) _ _ dg),by rw[<-HO.out.1];exact HO.out.2.1 trivial,by rw[HO.out.2.2];exact Nat.le_refl _,jC.trans bU (fun x hx e=>by omega)⟩
end
end Go.Proofs.YthgmimncdjhgnaaGreatDoor
namespace Go.LF.Tm
def dE(eP bl:Int):To:=fun i=>if i<bl then(i,true)else(Go.RowKit.wrap64 (i+eP),decide (eP<=1048576))
def xE(bl n:Int):To:=fun i=>if i<bl then(i,true)else(i - n,decide (n<=i - bl))
def aaj(l:List Int):To:=fun i=>match l[i.toNat]? with |some n=>(n,true)|none=>(0,false)
def zero:Tm:=mk 0 [] 0 []
def ey(t:Tm)(eP bl:Int):Int:=if t.wf≠0 then t.wf else if eP<0\/bl<0 then 5 else if il (dE eP bl) 0 t then 0 else 5
def fh(t:Tm)(eP bl:Int):Tm:=if ey t eP bl=0 then mv (dE eP bl) 0 t else zero
def BR(t:Tm)(bl n:Int):Bool:=decide (0<=bl) && (decide (0<=n) && (t.wf == 0 && il (xE bl n) 0 t))
def NZ(t:Tm)(bl n:Int):Tm:=if BR t bl n then mv (xE bl n) 0 t else zero
def aiG(t:Tm)(l:List Int):Bool:=t.wf == 0 && il (aaj l) 0 t
def bX(t:Tm)(l:List Int):Tm:=if aiG t l then mv (aaj l) 0 t else zero
end Go.LF.Tm
namespace Go.Proofs.YthgmimncdjhgnaaGreatDoor
open Go.RowKit Go.LF
def D7(u:Tm)(r:Value)(w:World)(e:Ending)(w':World):Prop:=
  ∃(k i:Int)(n:List UInt8)(a:Option Addr)(len cap:Nat),e=.returned (.tuple #[.agg #[.int .i64 k,.string (B n),.int .i64 i,.slice a len cap],r])/\
   aw (fun x=>x<w.heap.size) w' u.az [.int .i64 k,.string (B n),.int .i64 i,.slice a len cap]/\af ae w w'
theorem D7.on{u:Tm}{r:Value}{w W W':World}{e:Ending}(h:D7 u r w e W)(hU:af ae W W'):D7 u r w e W':=by
  obtain⟨k,i,n,a,len,cap,h1,h2,h3⟩:=h;exact⟨k,i,n,a,len,cap,h1,h2.on hU,h3.and hU⟩
theorem oH{w W W':World}{u:Tm}{r:Value}{k i:Int}{n:List UInt8}{a:Option Addr}{len cap hb:Nat}{T:TypeId}{z0 z1 z2 z3:Value}(hr:au W hb z0 z1 z2 z3 T)(aB:w.heap.size<=hb)(hU:af ae w W)
    (hR:aw (fun x=>x<=hb) W u.az [.int .i64 k,.string (B n),.int .i64 i,.slice a len cap])
    (hW:W'=(((W.setCell ⟨hb,0,none⟩ (.int .i64 k)).setCell ⟨hb,1,none⟩ (.string (B n))).setCell ⟨hb,2,none⟩ (.int .i64 i)).setCell ⟨hb,3,none⟩ (.slice a len cap)):
    D7 u r w (.returned (.tuple #[.agg #[.int .i64 k,.string (B n),.int .i64 i,.slice a len cap],r])) W'/\au W' hb (.int .i64 k) (.string (B n)) (.int .i64 i) (.slice a len cap) T:=by
  have hs:=hr.set (d0:=.int .i64 k) (d1:=.string (B n)) (d2:=.int .i64 i) (d3:=.slice a len cap);rw[<-hW]at hs;exact⟨⟨k,i,n,a,len,cap,rfl,aw.weaken (fun b _ e=>Nat.le_of_lt (Nat.lt_of_lt_of_le e aB)) _ _ (aw.ag hs.2 (fun b e=>Nat.le_of_eq e) _ _ hR),hU.trans hs.2 (fun b WI e=>by omega)⟩,hs.1⟩
theorem M3(w:World)(fb bb:Nat)(bl eP:Int)(h1:w.cell? ⟨fb,0,none⟩=some (.int .i64 bl))(h2:w.cell? ⟨bb,0,none⟩=some (.int .i64 eP)):
    FF w 211 [.pointer (some ⟨fb,0,none⟩),.pointer (some ⟨bb,0,none⟩)] (Tm.dE eP bl):=by
  intro i W h0 hi hU;have c1:=hU.cell h1 (fun x=>x);have c2:=hU.cell h2 (fun x=>x);by_cases aB:i<bl
  ·have hf:Tm.dE eP bl i=(i,true):=by unfold Tm.dE;rw[if_pos aB]
   rw[hf];clear hf h1 h2 hU;go_enter Tryz.func211,Tryz.ntmps211;go_wp2_with fail;refine bodyPost_ret (v:=.tuple #[.int .i64 i,.bool true]) ?_ rfl ?_
   ·simp[results,Tryz.f211,go_sem]
   exact⟨rfl,af.refl _ _⟩
  have hf:Tm.dE eP bl i=(Go.RowKit.wrap64 (i+eP),decide (eP<=1048576)):=by unfold Tm.dE;rw[if_neg aB]
  rw[hf];clear hf h1 h2 hU;go_enter Tryz.func211,Tryz.ntmps211;go_wp2_with fail;go_region
  all_goals
    go_wp2_with fail;refine bodyPost_ret (v:=.tuple #[.int .i64 (Go.RowKit.wrap64 (i+eP)),.bool (decide (eP<=1048576))]) ?_ rfl ?_
    ·simp[results,Tryz.f211,go_sem]
    exact⟨rfl,(af.refl _ _).drew⟩
theorem zM(t:Tm)(hs:t.wt<=1000000)(eP bl:Int)(w:World)(cs:List Value)(h:aw ae w t.az cs):
    Calls Tryz.prog 198 #[.agg cs.toArray,.int .i64 eP,.int .i64 bl] w (D7 (t.fh eP bl) (.int .i64 (t.ey eP bl)) w):=by
  have jm:=Tm.pD t;obtain⟨k,n,i,ts,a,cap,ht,rfl,aX,hE⟩:=aP h;obtain⟨w4,eh⟩:∃ w4,w4=(((w.alloc (.cells #[.int .i64 k,.string (B n),.int .i64 i,.slice a ts.length cap] 29)).alloc (.cells #[.int .i64 eP] 3)).alloc (.cells #[.int .i64 bl] 3)).alloc (.cells #[.int .i64 0,.string (B []),.int .i64 0,.slice none 0 0] 29):=⟨_,rfl⟩;have bw:af ae w w4:=by rw[eh];exact((((af.refl ae w).alloc _).alloc _).alloc _).alloc _
  have Ib:au w4 w.heap.size (.int .i64 k) (.string (B n)) (.int .i64 i) (.slice a ts.length cap) 29:=by
    rw[eh];exact(((au.av rfl).kept ((af.refl ae _).alloc _)).kept ((af.refl ae _).alloc _)).kept ((af.refl ae _).alloc _)
  have EE:cq w4 (w.heap.size+1) (.int .i64 eP) 3:=by rw[eh];exact((cq.av (by simp)).kept ((af.refl ae _).alloc _)).kept ((af.refl ae _).alloc _)
  have hf4:cq w4 (w.heap.size+1+1) (.int .i64 bl) 3:=by rw[eh];exact(cq.av (by simp)).kept ((af.refl ae _).alloc _)
  have iX:au w4 (w.heap.size+1+1+1) (.int .i64 0) (.string (B [])) (.int .i64 0) (.slice none 0 0) 29:=by rw[eh];exact au.av (by simp)
  have h4:=h.on bw;have Lk:=ak eh;have HT:=ak ht;obtain⟨x0,x1,x2,x3⟩:=Ib.cells;clear eh ht hE h;go_enter Tryz.func198,Tryz.ntmps198;go_wp2_with fail;rw[<-show B []={ data:=#[] }from rfl,<-Lk.out];refine(cG t hs w4 _ h4).mono ?_;rintro e w5 ⟨rfl,ba⟩;have I9:=Ib.kept ba;have Kz:=EE.kept ba;have hf5:=hf4.kept ba;have dR:=iX.kept ba;have h5:=h4.on ba;have rT:=bw.and ba;clear x0 x1 x2 x3 Ib EE hf4 iX h4 bw ba;obtain⟨x0,x1,x2,x3⟩:=I9.cells;obtain⟨y0,y1,y2,y3⟩:=dR.cells;obtain⟨z0,z1,z2,z3⟩:=dR.aq;have b0:=Kz.cell;have f0:=hf5.cell;have q0:=dR.lt;obtain⟨wf,Uh⟩:∃ wf,wf=t.wf:=⟨_,rfl⟩;rw[<-Uh]at jm ⊢;have KR:=ak Uh;clear Uh;by_cases h0:wf=0
  case neg=>
    have hE:t.ey eP bl=wf:=by unfold Tm.ey;rw[<-KR.out,if_pos h0]
    have hT:t.fh eP bl=.mk 0 [] 0 []:=by unfold Tm.fh;rw[hE,if_neg h0];rfl
    have hwn:(wf !=0)=true:=by simp[h0]
    have dJ:=ak (And.intro hE hT);clear hE hT jm h0;go_wp2_with fail;obtain⟨w8,mT⟩:∃ w8,w8=(((w5.setCell ⟨w.heap.size+1+1+1,0,none⟩ (.int .i64 0)).setCell ⟨w.heap.size+1+1+1,1,none⟩ (.string (B []))).setCell ⟨w.heap.size+1+1+1,2,none⟩ (.int .i64 0)).setCell ⟨w.heap.size+1+1+1,3,none⟩ (.slice none 0 0):=⟨_,rfl⟩;obtain⟨hG,mq⟩:=oH (r:=.int .i64 wf) dR (by omega) rT (bD (k:=0) (n:=[]) (i:=0)) mT;try rw[<-show B []={ data:=#[] }from rfl]
    rw[<-mT];clear mT;obtain⟨e0,e1,e2,e3⟩:=mq.cells;refine bodyPost_ret (v:=.tuple #[.agg #[.int .i64 0,.string (B []),.int .i64 0,.slice none 0 0],.int .i64 wf]) ?_ rfl ?_
    ·simp[results,Tryz.f198,go_sem,e0,e1,e2,e3]
    rw[dJ.out.1,dJ.out.2];exact hG
  case pos=>
    subst h0;obtain⟨gD,ee,_⟩:=jm rfl;have UM:t.ey eP bl=if eP<0\/bl<0 then 5 else if Tm.il (Tm.dE eP bl) 0 t then 0 else 5:=by unfold Tm.ey;rw[<-KR.out,if_neg (by omega)]
    have Yy:=ak UM;have H8:=M3 w5 (w.heap.size+1+1) (w.heap.size+1) bl eP f0 b0;have HM:=fun h=>N6 (Tm.dE eP bl) 211 _ t w5 [.int .i64 k,.string (B n),.int .i64 i,.slice a ts.length cap] H8 (fun _ _=>by simp only[go_sem,Tryz.call211]) (by omega) gD h
    have VX:=HM h5;clear UM jm gD ee HM H8;have cV:eP<0\/(0<=eP/\bl<0)\/(0<=eP/\0<=bl):=by omega
    rcases cV with g1 |⟨g1,g2⟩|⟨g1,g2⟩;case' inl=>have hE:t.ey eP bl=5:=by rw[Yy.out,if_pos (.inl g1)]
    case' inr.inl=>have hE:t.ey eP bl=5:=by rw[Yy.out,if_pos (.inr g2)]
    case' inr.inr=>
      have hE:t.ey eP bl=if Tm.il (Tm.dE eP bl) 0 t then 0 else 5:=by rw[Yy.out,if_neg (by omega)]
      have HE:=ak hE;clear hE;go_wp2_with fail;refine VX.mono ?_;rintro e w6 ⟨k6,i6,n6,a6,l6,c6,u,rfl,dg,JK,sf,bj⟩;have fD:=dR.kept bj;have jC:=rT.and bj;have og:=aw.weaken (O':=fun x=>x<=w.heap.size+1+1+1) (fun b _ e=>by omega) _ _ dg;clear y0 y1 y2 y3 z0 z1 z2 z3 VX;obtain⟨y0,y1,y2,y3⟩:=fD.cells;obtain⟨z0,z1,z2,z3⟩:=fD.aq;have q6:=fD.lt;obtain⟨ok,gD⟩:∃ ok,ok=t.il (Tm.dE eP bl) 0:=⟨_,rfl⟩;rw[<-gD]at JK ⊢;have HO:=ak (And.intro gD JK);clear gD JK;cases ok
    all_goals first
      |(have hT:t.fh eP bl=.mk 0 [] 0 []:=by unfold Tm.fh;rw[hE];rfl
        have dJ:=ak (And.intro hE hT);clear hE hT VX;go_wp2_with fail;obtain⟨w8,mT⟩:∃ w8,w8=(((w5.setCell ⟨w.heap.size+1+1+1,0,none⟩ (.int .i64 0)).setCell ⟨w.heap.size+1+1+1,1,none⟩ (.string (B []))).setCell ⟨w.heap.size+1+1+1,2,none⟩ (.int .i64 0)).setCell ⟨w.heap.size+1+1+1,3,none⟩ (.slice none 0 0):=⟨_,rfl⟩;obtain⟨hG,mq⟩:=oH (r:=.int .i64 5) dR (by omega) rT (bD (k:=0) (n:=[]) (i:=0)) mT;try rw[<-show B []={ data:=#[] }from rfl]
        rw[<-mT];clear mT;obtain⟨e0,e1,e2,e3⟩:=mq.cells;refine bodyPost_ret (v:=.tuple #[.agg #[.int .i64 0,.string (B []),.int .i64 0,.slice none 0 0],.int .i64 5]) ?_ rfl ?_
        ·simp[results,Tryz.f198,go_sem,e0,e1,e2,e3]
        rw[dJ.out.1,dJ.out.2];exact hG)
      |skip
    case false=>
      have hE:t.ey eP bl=5:=by rw[HE.out,<-HO.out.1];rfl
      have hT:t.fh eP bl=.mk 0 [] 0 []:=by unfold Tm.fh;rw[hE];rfl
      have dJ:=ak (And.intro hE hT);clear hE hT;go_wp2_with fail;obtain⟨w8,mT⟩:∃ w8,w8=(((w6.setCell ⟨w.heap.size+1+1+1,0,none⟩ (.int .i64 0)).setCell ⟨w.heap.size+1+1+1,1,none⟩ (.string (B []))).setCell ⟨w.heap.size+1+1+1,2,none⟩ (.int .i64 0)).setCell ⟨w.heap.size+1+1+1,3,none⟩ (.slice none 0 0):=⟨_,rfl⟩;obtain⟨hG,mq⟩:=oH (r:=.int .i64 5) fD (by omega) jC (bD (k:=0) (n:=[]) (i:=0)) mT;obtain⟨w9,bf⟩:∃ w9,w9=w8.alloc (.cells #[.int .i64 k6,.string (B n6),.int .i64 i6,.slice a6 l6 c6] 29):=⟨_,rfl⟩;replace hG:=hG.on (W':=w9) (by rw[bf];exact(af.refl ae w8).alloc _);replace mq:=mq.kept (W':=w9) (by rw[bf];exact(af.refl ae w8).alloc _);rw[mT]at bf;try rw[<-show B []={ data:=#[] }from rfl]
      rw[<-bf];clear bf mT;obtain⟨e0,e1,e2,e3⟩:=mq.cells;refine bodyPost_ret (v:=.tuple #[.agg #[.int .i64 0,.string (B []),.int .i64 0,.slice none 0 0],.int .i64 5]) ?_ rfl ?_
      ·simp[results,Tryz.f198,go_sem,e0,e1,e2,e3]
      rw[dJ.out.1,dJ.out.2];exact hG
    case true=>
      have hE:t.ey eP bl=0:=by rw[HE.out,<-HO.out.1];rfl
      have hT:t.fh eP bl=u:=by unfold Tm.fh;rw[hE,HO.out.2];rfl
      have dJ:=ak (And.intro hE hT);clear hE hT;go_wp2_with fail;obtain⟨w8,mT⟩:∃ w8,w8=(((w6.setCell ⟨w.heap.size+1+1+1,0,none⟩ (.int .i64 k6)).setCell ⟨w.heap.size+1+1+1,1,none⟩ (.string (B n6))).setCell ⟨w.heap.size+1+1+1,2,none⟩ (.int .i64 i6)).setCell ⟨w.heap.size+1+1+1,3,none⟩ (.slice a6 l6 c6):=⟨_,rfl⟩;obtain⟨hG,mq⟩:=oH (r:=.int .i64 0) fD (by omega) jC og mT;obtain⟨w9,bf⟩:∃ w9,w9=w8.alloc (.cells #[.int .i64 k6,.string (B n6),.int .i64 i6,.slice a6 l6 c6] 29):=⟨_,rfl⟩;replace hG:=hG.on (W':=w9) (by rw[bf];exact(af.refl ae w8).alloc _);replace mq:=mq.kept (W':=w9) (by rw[bf];exact(af.refl ae w8).alloc _);rw[mT]at bf;try rw[<-show B []={ data:=#[] }from rfl]
      rw[<-bf];clear bf mT;obtain⟨e0,e1,e2,e3⟩:=mq.cells;refine bodyPost_ret (v:=.tuple #[.agg #[.int .i64 k6,.string (B n6),.int .i64 i6,.slice a6 l6 c6],.int .i64 0]) ?_ rfl ?_
      ·simp[results,Tryz.f198,go_sem,e0,e1,e2,e3]
      rw[dJ.out.1,dJ.out.2];exact hG
end Go.Proofs.YthgmimncdjhgnaaGreatDoor
namespace Go.LF.Tm
def jU(eP bl:Int):To:=fun v=>(if v<bl then v else v+eP,true)
end Go.LF.Tm
namespace Go.Proofs.YthgmimncdjhgnaaGreatDoor
open Go.RowKit Go.LF
def wN(u:Tm)(w:World)(e:Ending)(w':World):Prop:=
  ∃(k i:Int)(n:List UInt8)(a:Option Addr)(len cap:Nat),e=.returned (.agg #[.int .i64 k,.string (B n),.int .i64 i,.slice a len cap])/\
   aw (fun x=>x<w.heap.size) w' u.az [.int .i64 k,.string (B n),.int .i64 i,.slice a len cap]/\af ae w w'
theorem xf{base H:Nat}{w wr w5 w6 w7:World}{v r0 r1 r2 r3 t0 t1 t2 t3:Value}{us:List Tm}{css:List (List Value)}{u:Tm}{k mi k1 i1:Int}{nm n1:List UInt8}{a1:Option Addr}{bH bG g aS:Nat}
    (eB:dG base wr v us css) (b6:au wr (H+1+1) (.int .i64 k) (.string (B nm)) (.int .i64 mi) v 29) (rK:au wr H t0 t1 t2 t3 29) (kM:au wr (H+1) r0 r1 r2 r3 29) (hU:af ae w wr) (hw:w.heap.size=H) (dh:H+1+1<base) (Ax:base<=wr.heap.size)
    (cL:af ae wr w6) (h5:wr.heap.size<=w5.heap.size) (dg:aw (fun x=>x<w5.heap.size) w6 u.az [.int .i64 k1,.string (B n1),.int .i64 i1,.slice a1 bH bG])
    (bq:w7.ownsRow base 29 4 (.slice (some ⟨g,0,none⟩) (us.length+1) aS) (us.length+1) (css.flatten++[.int .i64 k1,.string (B n1),.int .i64 i1,.slice a1 bH bG])) (aN:(w6.alloc (.cells #[.int .i64 k1,.string (B n1),.int .i64 i1,.slice a1 bH bG] 29)).grownBy w7 v.ownBlock)
    (ft:v.ownBlock=some g\/g=(w6.alloc (.cells #[.int .i64 k1,.string (B n1),.int .i64 i1,.slice a1 bH bG] 29)).heap.size):
    ∃(v':Value)(fY:List (List Value)),dG base (w7.setCell ⟨H+1+1,3,none⟩ (.slice (some ⟨g,0,none⟩) (us.length+1) aS)) v' (us++[u]) fY/\
     au (w7.setCell ⟨H+1+1,3,none⟩ (.slice (some ⟨g,0,none⟩) (us.length+1) aS)) (H+1+1) (.int .i64 k) (.string (B nm)) (.int .i64 mi) v' 29/\
     au (w7.setCell ⟨H+1+1,3,none⟩ (.slice (some ⟨g,0,none⟩) (us.length+1) aS)) H t0 t1 t2 t3 29/\au (w7.setCell ⟨H+1+1,3,none⟩ (.slice (some ⟨g,0,none⟩) (us.length+1) aS)) (H+1) r0 r1 r2 r3 29/\
     af ae w (w7.setCell ⟨H+1+1,3,none⟩ (.slice (some ⟨g,0,none⟩) (us.length+1) aS))/\base<=(w7.setCell ⟨H+1+1,3,none⟩ (.slice (some ⟨g,0,none⟩) (us.length+1) aS)).heap.size:=by
  have cK:af ae w6 (w6.alloc (.cells #[.int .i64 k1,.string (B n1),.int .i64 i1,.slice a1 bH bG] 29)):=(af.refl ae w6).alloc _;have Ol:=cL.and cK;have jH:=eB.on Ol;have aeV:=(b6.kept Ol).row aN jH (by omega)
  have tF:aw (fun b=>b<base\/v.ownBlock=some b) (w6.alloc (.cells #[.int .i64 k1,.string (B n1),.int .i64 i1,.slice a1 bH bG] 29)) u.az [.int .i64 k1,.string (B n1),.int .i64 i1,.slice a1 bH bG]:=by
    refine(aw.weaken (fun b _ e=>?_) _ _ dg).new _;rcases e with e |e
    ·omega
    have:=(eB.2.2.1.lt b e).2;omega
  have lL:=jH.appended rfl tF bq aN ft (Nat.le_refl _);have dn:af (fun b=>b=H+1+1) w7 (w7.setCell ⟨H+1+1,3,none⟩ (.slice (some ⟨g,0,none⟩) (us.length+1) aS)):=af.set (af.refl _ _) 3 _;have eK:=af.ofRow (cB.grown jH.2.2.1 aN);have afP:=((rK.kept Ol).ag eK (by omega)).ag dn (by omega);have aiB:=((kM.kept Ol).ag eK (by omega)).ag dn (by omega);have cm:=((hU.and Ol).trans eK (fun b hb e=>by omega)).trans dn (fun b hb e=>by omega);have jI:=dn.size;have Ie:=eK.size;have xL:=Ol.size;exact⟨_,_,lL.ag dn (fun b e=>by omega),aeV.mH _,afP,aiB,cm,by omega⟩
theorem Db(eP bl:Int)(Rz:0<=eP)(iV:eP<=1048576)(hf0:0<=bl)(tU:bl<=1048576)(t:Tm):t.size<=100000->(∀ b,∀ x∈t.nodes b,x.ok)->∀(b F:Int)(w:World)(cs:List Value),0<=b->b+t.size<=1000000->F=bl+b->
    aw ae w t.az cs->Calls Tryz.prog 145 #[.agg cs.toArray,.int .i64 eP,.int .i64 F] w (wN (t.mv (Tm.jU eP bl) b) w):=by
  induction t using Tm.ind with
  |h k nm i ts ih=>
   intro ee gD b F w cs h0 h1 hFF hR;obtain⟨a,cap,rfl,aX,hE⟩:=bg.1 hR;have hlen:=Tm.aA ts;simp only[Tm.aM]at ee h1;have GL:=Tm.G2 gD;have Ay:=gD b;rw[Tm.br]at Ay;have VP:k=5->0<=i/\i<=1048576:=fun e=>(Ay _ (List.mem_cons_self ..)).1 (by simp[e])
   obtain⟨i0,hi,fS,gn,eH⟩:=info_parts de;obtain⟨w2,dY⟩:∃ w2,w2=((w.alloc (.cells #[.int .i64 k,.string (B nm),.int .i64 i,.slice a ts.length cap] 29)).alloc (.cells #[.int .i64 0,.string (B []),.int .i64 0,.slice none 0 0] 29)).alloc (.cells #[.int .i64 k,.string (B nm),.int .i64 i,.slice none 0 0] 29):=⟨_,rfl⟩;have aL:af ae w w2:=by rw[dY];exact(((af.refl ae w).alloc _).alloc _).alloc _
   have iD:au w2 w.heap.size (.int .i64 k) (.string (B nm)) (.int .i64 i) (.slice a ts.length cap) 29:=by rw[dY];exact((au.av rfl).kept ((af.refl ae _).alloc _)).kept ((af.refl ae _).alloc _)
   have dO:au w2 (w.heap.size+1) (.int .i64 0) (.string (B [])) (.int .i64 0) (.slice none 0 0) 29:=by rw[dY];exact(au.av (by simp)).kept ((af.refl ae _).alloc _)
   have qq:au w2 (w.heap.size+1+1) (.int .i64 k) (.string (B nm)) (.int .i64 i) (.slice none 0 0) 29:=by rw[dY];exact au.av (by simp)
   obtain⟨t0,t1,t2,t3⟩:=iD.cells;obtain⟨o0,o1,o2,o3⟩:=qq.cells;obtain⟨f0,f1,f2,f3⟩:=qq.aq;have GY:=qq.lt;have B7:=ak dY;have HW:=ak (And.intro ee h1);obtain⟨c24,abO⟩:∃ c,c=(k == 5 && decide (F<=i)):=⟨_,rfl⟩
   have cV:((k == 5)=true/\F<=i)\/((k == 5)=true/\i<F)\/(k == 5)=false:=by
     by_cases h:k=5
     ·by_cases h':F<=i
      ·exact .inl ⟨by simp[h],h'⟩
      exact .inr (.inl ⟨by simp[h],by omega⟩)
     exact .inr (.inr (by simp[h]))
   have HC:=ak abO;have HY:=ak cV;have hF0:0<=F:=by omega
   have RZ:F<=3000000:=by omega
   have Yq:=ak hFF;clear dY hR Ay gD abO cV hFF;go_enter Tryz.func145,Tryz.ntmps145;go_upto_region 2 with fail;rw[<-B7.out];go_cut [24]from 9 to 24 (fun v24 wx=>v24=.bool c24/\w2=wx)
   case first=>
     rcases HY.out with⟨h5,uy⟩|⟨h5,uy⟩|h5
     all_goals
       go_wp2_with fail;go_meet
       exact⟨by rw[HC.out];simp[h5]<;>omega,rfl⟩
   obtain⟨rfl,rfl⟩:=hcut;go_upto_if 24 with fail
   go_cut []from 9 to 29 (fun wc=>au wc w.heap.size (.int .i64 k) (.string (B nm)) (.int .i64 i) (.slice a ts.length cap) 29/\au wc (w.heap.size+1) (.int .i64 0) (.string (B [])) (.int .i64 0) (.slice none 0 0) 29/\
     au wc (w.heap.size+1+1) (.int .i64 k) (.string (B nm)) (.int .i64 (Tm.lN (Tm.jU eP bl) b k i)) (.slice none 0 0) 29/\af ae w wc)
   case first=>
     cases c24
     ·go_wp2_with fail;go_meet
      have hc:=HC.out
      have e:Tm.lN (Tm.jU eP bl) b k i=i:=by
        unfold Tm.lN;by_cases hk:k=5/\b<=i
        ·rw[if_pos hk];have hn:¬F<=i:=fun e=>by simp[hk.1,e]at hc
         unfold Tm.jU;have:=Yq.out;simp only;rw[if_pos (by omega)];omega
        rw[if_neg hk]
      exact⟨iD,dO,by rw[e];exact qq,aL⟩
     have hki:k=5/\F<=i:=by have:=HC.out;simpa using this.symm
     obtain⟨rV,uy⟩:=hki;have hi6:=VP rV
     have e:Tm.lN (Tm.jU eP bl) b k i=i+eP:=by
       have:=Yq.out;unfold Tm.lN;rw[if_pos ⟨rV,by omega⟩];unfold Tm.jU;simp only;rw[if_neg (by omega)];omega
     have HEe:=ak e;clear e VP rV;go_wp2_with fail;go_meet
     exact⟨iD.other (by omega) _,dO.other (by omega) _,by rw[HEe.out];exact qq.kG _,aL.trans (af.set (af.refl _ _) 2 _) (fun x hx e=>by omega)⟩
   obtain⟨Yz,Z8,KO,hUp⟩:=hcut;clear t0 t1 t2 t3 o0 o1 o2 o3 f0 f1 f2 f3 iD dO qq aL VP;obtain⟨mi,Dy⟩:∃ mi,mi=Tm.lN (Tm.jU eP bl) b k i:=⟨_,rfl⟩;rw[<-Dy]at KO;have Ou:=ak Dy;have dh:w.heap.size+1+1<wc.heap.size:=KO.lt;obtain⟨wp,rfl⟩:∃ wp,wp=wc:=⟨_,rfl⟩;clear Dy;go_wp2_with fail
   go_loopw [8] (fun v8 wr=>∃(j:Nat)(v:Value)(css:List (List Value)),v8=.int .i64 j/\j<=ts.length/\dG wp.heap.size wr v (Tm.iC (Tm.jU eP bl) b k 0 (ts.take j)) css/\
       au wr (w.heap.size+1+1) (.int .i64 k) (.string (B nm)) (.int .i64 mi) v 29/\au wr w.heap.size (.int .i64 k) (.string (B nm)) (.int .i64 i) (.slice a ts.length cap) 29/\
       au wr (w.heap.size+1) (.int .i64 0) (.string (B [])) (.int .i64 0) (.slice none 0 0) 29/\af ae w wr/\wp.heap.size<=wr.heap.size)
     (fun v8 _=>ts.length - (intOf v8).toNat)
   case atStart=>exact⟨0,_,[],rfl,Nat.zero_le _,by simp only[List.take_zero,Tm.iC];exact dG.nil _ _,KO,Yz,Z8,hUp,Nat.le_refl _⟩
   obtain⟨j,v,css,rfl,hj,eB,b6,rK,kM,hU,Ax⟩:=hrel;obtain⟨b0,b1,b2,b3⟩:=b6.cells;obtain⟨f0,f1,f2,f3⟩:=b6.aq;obtain⟨t0,t1,t2,t3⟩:=rK.cells;have qo:=b6.lt;have Fl:(0:Int)<=(j:Int):=by omega
   have Dp:(j:Int)<=100000:=by omega
   by_cases aB:j<ts.length
   ·obtain⟨eb,eo,ek,en,ex,es,ec,rfl,mz,_,p0,p1,p2,p3,eY⟩:=aY (hE.on hU) j aB;have YB:=Tm.aK (List.getElem_mem aB);obtain⟨IQ,Hh⟩:=Tm.bZ k j;have ET:(j:Int)<(ts.length:Int):=by omega
    have hd:af ae wr wr.drew:=(af.refl ae wr).drew;have H2:=fun w'(hU:af ae wr w')=>(oV k j j rfl nm i (.slice (some ⟨eb,eo,none⟩) ts.length cap) w').mono fun _ _ ⟨he,hV⟩=>(⟨he,hU.and hV⟩:_/\af ae wr _)
    have IH:=fun(z:Int)w'(hz:z=F+Tm.under k j)(hU:af ae wr w')=>ih (ts[j]'aB) (List.getElem_mem aB) (by omega) (GL _ (List.getElem_mem aB)) (b+Tm.under k j) z w' _ (by omega) (by omega) (by have:=Yq.out;omega) (eY.on hU)
    obtain⟨us,gd⟩:∃ us,us=Tm.iC (Tm.jU eP bl) b k 0 (ts.take j):=⟨_,rfl⟩;obtain⟨u,hu⟩:∃ u,u=(ts[j]'aB).mv (Tm.jU eP bl) (b+Tm.under k j):=⟨_,rfl⟩;have cZ:us.length=j:=by rw[gd,Tm.j7,List.length_take];omega
    have sX:us++[u]=Tm.iC (Tm.jU eP bl) b k 0 (ts.take (j+1)):=by rw[Tm.pE _ _ _ _ _ aB,<-gd,<-hu]
    rw[<-gd]at eB;rw[<-hu]at IH;have HS:=ak (And.intro cZ sX);have Wk:us.length<=1000000:=by omega
    have yN:=ak (show j<ts.length from aB);have XA:IntKind.i64.wrap (F+Tm.under k j)=F+Tm.under k j:=Go.IntWalk.i64_in _ (by omega);clear cZ sX gd hu ih;generalize Tm.under k j=ud at *
    generalize (ts[j]'aB).args.length=el at *
    go_wp2_with fail
    go_region_law (first
      |((rw[if_pos (by rfl)]);go_simp;(go_at_call 136);refine(H2 _ hd).mono ?_;rintro e w5 ⟨rfl,ba⟩;have fK:=b6.kept ba;have TE:=rK.kept ba;have q5:=fK.lt;have c5:=fK.cells.2.2.2;have z5:=fK.frozen 3;have y5:=TE.cells.2.2.2;have XD:=ba.size;have p05:=ba.cell p0 (fun x=>x);have p15:=ba.cell p1 (fun x=>x);have p25:=ba.cell p2 (fun x=>x);have p35:=ba.cell p3 (fun x=>x))
      |((rw[if_pos (by rfl)]);go_simp;(go_at_call 145);refine(IH _ _ (by first |rfl |omega) ba).mono ?_;rintro e w6 ⟨k1,i1,n1,a1,bH,bG,rfl,dg,bj⟩;have cL:af ae wr w6:=ba.and bj;have dc:=b6.kept cL;have Mh:=rK.kept cL;have q6:=dc.lt;have c6:=dc.cells.2.2.2;have z6:=dc.frozen 3;have y6:=Mh.cells.2.2.2;have ss6:=cL.size;have iT:=eB.on cL)
      |(refine step_append_lies _ (by rfl) _ _ 26 (by rfl) wp.heap.size 29 i0 (.agg #[.int .i64 0,.string (B []),.int .i64 0,.slice none 0 0]) 4 56 (by kernel_rfl) hi fS gn eH rfl (by decide) v us.length css.flatten (by rfl) ((iT.on ((af.refl ae w6).alloc _)).2.2.1) ⟨w6.heap.size,0,none⟩ 1 1 [.int .i64 k1,.string (B n1),.int .i64 i1,.slice a1 bH bG] (by rfl) rfl (World.news_of_block (heap_alloc_new w6 _)) (by simp[Value.oneCell']) (by omega) (by simp only[maxLen];omega) (by omega) (by simp;omega) _ rfl ?_;intro g aS w7 bq aN ft xY;have fe:=(dc.kept ((af.refl ae w6).alloc _)).row aN (iT.on ((af.refl ae w6).alloc _)) (by omega);have c7:=fe.cells.2.2.2;have z7:=fe.frozen 3))
    all_goals
      obtain⟨v',fY,lL,MP,Nq,Mo,cW,Ni⟩:=xf eB b6 rK kM hU rfl dh Ax cL XD dg bq aN ft;rw[HS.out.2]at lL;have HT7:=ak lL;clear lL;go_wp2_with fail;go_roundw;case rel=>exact⟨j+1,_,_,by go_num,Nat.succ_le_of_lt yN.out,HT7.out,MP,Nq,Mo,cW,Ni⟩
      (have:=yN.out;simp[intOf];omega)
   obtain⟨us,gd⟩:∃ us,us=Tm.iC (Tm.jU eP bl) b k 0 (ts.take j):=⟨_,rfl⟩;rw[<-gd]at eB;obtain⟨s0,s1,s2,s3⟩:=kM.cells;obtain⟨g0,g1,g2,g3⟩:=kM.aq;have qr:=kM.lt;have b7:j=ts.length:=by omega
   have sA:¬(j:Int)<(ts.length:Int):=by omega
   obtain⟨a9,dQ,rfl,lP,Gv⟩:=eB.rep;obtain⟨len,oh⟩:∃ len,len=us.length:=⟨_,rfl⟩;rw[<-oh]at b6 lP b3
   have eJ:Tm.mv (Tm.jU eP bl) b (.mk k nm i ts)=.mk k nm mi us:=by
     rw[List.take_of_length_le (by omega)]at gd;rw[Tm.iN,<-Ou.out,<-gd]
   have HL:=ak oh;have tg:=ak eJ;have xG:aw (fun x=>x<=w.heap.size+1) wr (Tm.mk k nm mi us).az [.int .i64 k,.string (B nm),.int .i64 mi,.slice a9 len dQ]:=bg.2 ⟨a9,dQ,by rw[HL.out],by rw[<-HL.out];exact lP,ai.weaken (fun b _ e=>by omega) _ _ _ _ Gv⟩;clear oh b7 eB gd eJ;go_wp2_with fail;obtain⟨w9,bf⟩:∃ w9,w9=(((wr.setCell ⟨w.heap.size+1,0,none⟩ (.int .i64 k)).setCell ⟨w.heap.size+1,1,none⟩ (.string (B nm))).setCell ⟨w.heap.size+1,2,none⟩ (.int .i64 mi)).setCell ⟨w.heap.size+1,3,none⟩ (.slice a9 len dQ):=⟨_,rfl⟩;have aJ:=kM.set (d0:=.int .i64 k) (d1:=.string (B nm)) (d2:=.int .i64 mi) (d3:=.slice a9 len dQ);rw[<-bf]at aJ;rw[<-bf];clear bf;obtain⟨e0,e1,e2,e3⟩:=aJ.1.cells;refine bodyPost_ret (v:=.agg #[.int .i64 k,.string (B nm),.int .i64 mi,.slice a9 len dQ]) ?_ rfl ?_
   ·simp[results,Tryz.f145,go_sem,e0,e1,e2,e3]
   rw[tg.out];exact⟨k,mi,nm,a9,len,dQ,rfl,aw.weaken (fun b _ e=>by omega) _ _ (aw.ag aJ.2 (fun b e=>by omega) _ _ xG),hU.trans aJ.2 (fun x hx e=>by omega)⟩
end Go.Proofs.YthgmimncdjhgnaaGreatDoor
namespace Go.LF.Tm
section
theorem G8(f:To)(t:Tm)(h:∀ x∈nodes 0 t,x.k=5->x.b<=x.i->(f (x.i - x.b)).2=true/\0<=(f (x.i - x.b)).1/\(f (x.i - x.b)).1<=1048576 - x.b):il f 0 t=true:=by
  rw[vK,List.all_eq_true];intro x hx;unfold G4;by_cases hk:x.k=5/\x.b<=x.i
  ·obtain⟨h1,h2,h3⟩:=h x hx hk.1 hk.2;simp[h1,h2,h3]
  have:(x.k == 5 && decide (x.b<=x.i))=false:=by rw[Bool.eq_false_iff];intro e;exact hk (by simpa using e)
  rw[this];rfl
theorem uO(f g:To)(t:Tm)(h:∀ x∈nodes 0 t,x.k=5->x.b<=x.i->0<=(f (x.i - x.b)).1/\(g (f (x.i - x.b)).1).2=true/\0<=(g (f (x.i - x.b)).1).1/\(g (f (x.i - x.b)).1).1<=1048576 - x.b):il g 0 (mv f 0 t)=true:=by
  refine G8 g _ ?_;rw[xB];intro y hy;obtain⟨x,hx,rfl⟩:=List.mem_map.1 hy;simp only;intro h5 uy;unfold lN at uy ⊢;by_cases hk:x.k=5/\x.b<=x.i
  ·rw[if_pos hk];obtain⟨h1,h2,h3,h4⟩:=h x hx hk.1 hk.2;rw[show(f (x.i - x.b)).1+x.b - x.b=(f (x.i - x.b)).1 by omega];exact⟨h2,h3,h4⟩
  rw[if_neg hk]at uy;exact absurd ⟨h5,uy⟩ hk
theorem Gk{f g:To}{x:BV}(h:x.k=5->x.b<=x.i->(f (x.i - x.b)).1=(g (x.i - x.b)).1):lN f x.b x.k x.i=lN g x.b x.k x.i:=by
  unfold lN;by_cases hk:x.k=5/\x.b<=x.i
  ·rw[if_pos hk,if_pos hk,h hk.1 hk.2]
  rw[if_neg hk,if_neg hk]
theorem pg.free{t:Tm}{sz v m:Nat}(h:pg t sz v m)(hs:sz<=4096):∀ x∈nodes 0 t,x.k=5->x.b<=x.i->0<=x.i - x.b/\x.i - x.b<v/\0<=x.b/\x.b<=4096:=by
  intro x hx hk hb;have h1:=Ro t x hx hk;have h2:=A6 t 0 x hx;have:=h.scope;have:=h.size;omega
theorem cr{a c v:Int}(ha:0<=a)(Hm:a<=1048576)(hv:0<=v)(RL:v<=1048576):dE a c v=(if v<c then v else v+a,true):=by
  unfold dE;by_cases h:v<c
  ·rw[if_pos h,if_pos h]
  rw[if_neg h,if_neg h,decide_eq_true Hm];congr 1;unfold Go.RowKit.wrap64;omega
theorem back{t:Tm}{sz m:Nat}(h:pg t sz 5 m)(hs:sz<=4096)(a b c:Nat)(ha:a<=8)(hb:b<=8)(hc:c<=6):
    ∃ x y:Tm,t.ey a c=0/\t.fh a c=x/\x.BR c a=true/\x.NZ c a=t/\x.ey b c=0/\x.fh b c=y/\t.ey ((a+b:Nat):Int) c=0/\t.fh ((a+b:Nat):Int) c=y/\x.wt=t.wt/\y.wt=t.wt:=by
  have hf:=h.free hs;have hw:=h.wf hs
  have sh:∀(t:Tm)(d:Nat),t.wf=0->il (dE d c) 0 t=true->t.ey d c=0/\t.fh d c=mv (dE d c) 0 t:=by
    intro t d hw hm;have e:t.ey d c=0:=by unfold ey;rw[hw,if_neg (by omega),if_neg (by omega),hm];rfl
    exact⟨e,by unfold fh;rw[e,if_pos rfl]⟩
  have ok1:∀ d:Nat,d<=100->il (dE d c) 0 t=true:=by
    intro d hd;refine G8 _ _ (fun x hx hk hb=>?_);have:=hf x hx hk hb;rw[cr (by omega) (by omega) (by omega) (by omega)];refine⟨rfl,?_⟩;simp only;split<;>omega
  have wx:(mv (dE a c) 0 t).wf=0:=aaR _ _ hw (ok1 a (by omega))
  have ok2:il (dE b c) 0 (mv (dE a c) 0 t)=true:=by
    refine uO _ _ _ (fun x hx hk hb=>?_);have:=hf x hx hk hb;rw[cr (a:=a) (by omega) (by omega) (by omega) (by omega)];simp only;by_cases hv:x.i - x.b<(c:Int)
    ·rw[if_pos hv,cr (by omega) (by omega) (by omega) (by omega),if_pos hv];refine⟨by omega,rfl,?_,?_⟩<;>simp only<;>omega
    rw[if_neg hv,cr (by omega) (by omega) (by omega) (by omega),if_neg (by omega)];refine⟨by omega,rfl,?_,?_⟩<;>simp only<;>omega
  have nn:∀ x∈nodes 0 t,x.k=5->x.b<=x.i->0<=(dE a c (x.i - x.b)).1:=by
    intro x hx hk hb;have:=hf x hx hk hb;rw[cr (by omega) (by omega) (by omega) (by omega)];simp only;split<;>omega
  have ok3:il (xE c a) 0 (mv (dE a c) 0 t)=true:=by
    refine uO _ _ _ (fun x hx hk hb=>?_);have:=hf x hx hk hb;rw[cr (a:=a) (by omega) (by omega) (by omega) (by omega)];simp only;unfold xE;by_cases hv:x.i - x.b<(c:Int)
    ·rw[if_pos hv,if_pos hv];refine⟨by omega,rfl,?_,?_⟩<;>simp only<;>omega
    rw[if_neg hv,if_neg (by omega)];refine⟨by omega,by simp only[decide_eq_true_eq];omega,?_,?_⟩<;>simp only<;>omega
  obtain⟨e1,e2⟩:=sh t a hw (ok1 a (by omega));obtain⟨e3,e4⟩:=sh _ b wx ok2;obtain⟨e5,e6⟩:=sh t (a+b) hw (ok1 (a+b) (by omega));have hlB:(mv (dE a c) 0 t).BR c a=true:=by unfold BR;rw[ok3,wx,decide_eq_true (by omega),decide_eq_true (by omega)];rfl
  refine⟨_,_,e1,e2,hlB,?_,e3,e4,e5,?_,Ob _ _ _,by rw[Ob,Ob]⟩
  ·unfold NZ;rw[hlB,if_pos rfl,Sr _ _ _ _ nn];refine Z2 _ _ _ (fun x hx=>?_);refine(Gk (g:=fun i=>(i,true)) (fun hk hb=>?_)).trans (Lf _ _ _);have:=hf x hx hk hb;rw[cr (by omega) (by omega) (by omega) (by omega)];simp only;unfold xE;by_cases hv:x.i - x.b<(c:Int)
   ·rw[if_pos hv,if_pos hv]
   rw[if_neg hv,if_neg (by omega)];simp only;omega
  rw[e6,Sr _ _ _ _ nn];refine q9 _ _ _ _ (fun x hx=>Gk (fun hk hb=>?_));have:=hf x hx hk hb;rw[cr (by omega) (by omega) (by omega) (by omega),cr (a:=a) (by omega) (by omega) (by omega) (by omega)];simp only;by_cases hv:x.i - x.b<(c:Int)
  ·rw[if_pos hv,if_pos hv,cr (by omega) (by omega) (by omega) (by omega),if_pos hv]
  rw[if_neg hv,if_neg hv,cr (by omega) (by omega) (by omega) (by omega),if_neg (by omega)];simp only;omega
end
section
mutual
def fI:Tm->Int
  |mk k _ i l=>fN (if k == 5 then i else -1) l
def fN(acc:Int):List Tm->Int
  | []=>acc
  |t :: ts=>fN (max acc (fI t)) ts
end
theorem lF(l:List Tm)(acc:Int)(j:Nat)(h:j<l.length):fN acc (l.take (j+1))=max (fN acc (l.take j)) (fI l[j]):=by
  induction l generalizing acc j with
  |nil=>simp at h
  |cons t ts ih=>
   cases j with
   |zero=>simp[fN]
   |succ j=>simpa[fN]using ih (max acc (fI t)) j (by simpa using h)
theorem CB(t:Tm)(m:Int)(hm: -1<=m):∀ b,(fI t<=m↔∀ x∈nodes b t,x.k=5->x.i<=m):=by
  induction t using ind with
  |h k n i l ih=>
   intro b
   have key:∀(l':List Tm),(∀ t∈l',∀ b,(fI t<=m↔∀ x∈nodes b t,x.k=5->x.i<=m))->∀ j acc,(fN acc l'<=m↔acc<=m/\∀ x∈bh b k j l',x.k=5->x.i<=m):=by
     intro l';induction l' with
     |nil=>intro _ j acc;simp[fN,bh]
     |cons t ts dF=>
      intro h j acc;rw[fN,dF (fun t ht=>h t (by simp[ht])) (j+1)];have h1:=h t (by simp) (b+under k j);simp only[bh,List.mem_append];constructor
      ·rintro⟨h2,h3⟩;refine⟨by omega,fun x hx=>?_⟩;rcases hx with hx |hx
       ·exact h1.1 (by omega) x hx
       exact h3 x hx
      rintro⟨h2,h3⟩;have:=h1.2 (fun x hx=>h3 x (.inl hx));exact⟨by omega,fun x hx=>h3 x (.inr hx)⟩
   rw[fI,key l ih 0,br];constructor
   ·rintro⟨h1,h2⟩ x hx hk;rcases List.mem_cons.1 hx with rfl |hx
    ·simp only at hk;subst hk;simpa using h1
    exact h2 x hx hk
   intro h;refine⟨?_,fun x hx=>h x (by simp[hx])⟩;by_cases hk:(k == 5)=true
   ·rw[if_pos hk];exact h ⟨b,k,n,i⟩ (by simp) (by simpa using hk)
   rw[if_neg hk];omega
theorem rZ(t:Tm)(hw:t.wf=0)(eP bl:Int)(h0:0<=eP)(h1:eP<=1048576)(_h2:0<=bl)(_h3:bl<=1048576):
    mv (jU eP bl) 0 t=mv (dE eP bl) 0 t/\(fI (mv (jU eP bl) 0 t)<=1048576↔il (dE eP bl) 0 t=true):=by
  have gD:=(pD t hw).1 0;have ee:=(pD t hw).2.1
  have hn:∀ x∈nodes 0 t,x.k=5->0<=x.i/\x.i<=1048576/\0<=x.b:=fun x hx hk=>by
    have:=(gD x hx).1 (by simp[hk]);have:=A6 t 0 x hx;omega
  have e1:mv (jU eP bl) 0 t=mv (dE eP bl) 0 t:=q9 _ _ _ _ (fun x hx=>Gk (fun hk hb=>by
    have:=hn x hx hk;rw[cr h0 h1 (by omega) (by omega)];rfl))
  refine⟨e1,?_⟩;rw[CB _ _ (by omega) 0,xB,vK,List.all_eq_true];constructor
  ·intro h x hx;unfold G4;by_cases hk:x.k=5/\x.b<=x.i
   ·have h4:=hn x hx hk.1;have h5:=h _ (List.mem_map.2 ⟨x,hx,rfl⟩) hk.1;simp only[lN]at h5;rw[if_pos hk]at h5;rw[cr h0 h1 (by omega) (by omega)];unfold jU at h5;simp only at h5;simp only[hk.1,Bool.or_eq_true,Bool.and_eq_true,decide_eq_true_eq,Bool.true_and];right;split at h5<;>rename_i aB
    ·rw[if_pos aB];omega
    rw[if_neg aB];omega
   have:(x.k == 5 && decide (x.b<=x.i))=false:=by rw[Bool.eq_false_iff];intro e;exact hk (by simpa using e)
   rw[this];rfl
  intro h y hy rV;obtain⟨x,hx,rfl⟩:=List.mem_map.1 hy;simp only at rV ⊢;have h4:=hn x hx rV;unfold lN;by_cases hb:x.b<=x.i
  ·rw[if_pos ⟨rV,hb⟩];have h5:=h x hx;unfold G4 at h5;rw[cr h0 h1 (by omega) (by omega)]at h5;simp only[rV,hb]at h5;simp at h5;unfold jU;simp only;split<;>rename_i aB
   ·omega
   rw[if_neg aB]at h5;omega
  rw[if_neg (fun e=>hb e.2)];omega
end
end Go.LF.Tm
namespace Go.Proofs.YthgmimncdjhgnaaGreatDoor
section
open Go.RowKit Go.LF
theorem dj{O:Nat->Prop}{w:World}{d:fB}{cs:List Value}(h:aw O w d cs):aw ae w d cs:=aw.weaken (fun _ _ x=>x.elim) _ _ h
end
section
open Go.RowKit Go.LF
theorem uh(t:Tm):t.size<=1000000->∀(w:World)(cs:List Value),aw ae w t.az cs->Calls Tryz.prog 212 #[.agg cs.toArray] w fun e w'=>e=.returned (.int .i64 t.fI)/\af ae w w':=by
  induction t using Tm.ind with
  |h k nm i ts ih=>
   intro ee w cs h;obtain⟨a,cap,rfl,aX,hE⟩:=bg.1 h;have hlen:=Tm.aA ts;simp only[Tm.aM]at ee;obtain⟨c,hc⟩:∃ c:Int,c=if(k == 5)=true then i else -1:=⟨_,rfl⟩
   have hg:(Tm.mk k nm i ts).fI=Tm.fN c ts:=by rw[Tm.fI,hc]
   have HG:=ak hg
   have cV:((k == 5)=true/\c=i)\/((k == 5)=false/\c= -1):=by
     cases hk:(k == 5)
     ·exact .inr ⟨rfl,by rw[hc,hk];rfl⟩
     exact .inl ⟨rfl,by rw[hc,hk];rfl⟩
   clear hg hc h;rcases cV with⟨hk,rfl⟩|⟨hk,rfl⟩
   ·go_enter Tryz.func212,Tryz.ntmps212;go_wp2_with fail;go_loopw [3,4] (fun v3 v4 wr=>∃(j:Nat),v4=.int .i64 j/\j<=ts.length/\v3=.int .i64 (Tm.fN c (ts.take j))/\af ae (w.alloc (.cells #[.int .i64 k,.string (B nm),.int .i64 c,.slice a ts.length cap] 29)) wr) (fun _ v4 _=>ts.length - (intOf v4).toNat)
    case atStart=>exact⟨0,rfl,Nat.zero_le _,by simp[Tm.fN],af.refl _ _⟩
    obtain⟨j,rfl,hj,rfl,hU⟩:=hrel;have hw:af ae w wr:=hU.behind;obtain⟨b0,b1,b2,b3⟩:=b8 hU;have Fl:(0:Int)<=(j:Int):=by omega
    have Dp:(j:Int)<=1000000:=by omega
    by_cases aB:j<ts.length
    ·obtain⟨b,o,k1,n1,x1,s1,cp,rfl,hb,_,p0,p1,p2,p3,eY⟩:=aY (hE.on hw) j aB;have hT:=Tm.lF ts c j aB;have Bv:=Tm.aK (List.getElem_mem aB);have IH:=ih _ (List.getElem_mem aB) (by omega) wr _ eY;have ET:(j:Int)<(ts.length:Int):=by omega
     have HT:=ak hT;clear hT ih;generalize (ts[j]'aB).fI=gj at *
     generalize (ts[j]'aB).args.length=el at *
     generalize hA:Tm.fN c (ts.take j)=A at *
     have HAA:=ak hA;clear hA;go_wp2_with fail;refine IH.mono ?_;rintro e w1 ⟨rfl,aH⟩;go_wp2_with fail;refine⟨⟨j+1,by go_num,aB,by rw[HT.out];first |rfl |(congr 1;omega),hU.and aH⟩,?_⟩;simp[intOf];omega
    have ET:¬(j:Int)<(ts.length:Int):=by omega
    have eJ:(Tm.mk k nm c ts).fI=Tm.fN c (ts.take j):=by rw[HG.out,List.take_of_length_le (by omega)]
    have HF:=ak eJ;clear eJ;go_wp2_with fail;go_ret;exact⟨bd HF.out.symm,hw⟩
   go_enter Tryz.func212,Tryz.ntmps212;go_wp2_with fail;go_loopw [3,4] (fun v3 v4 wr=>∃(j:Nat),v4=.int .i64 j/\j<=ts.length/\v3=.int .i64 (Tm.fN (-1) (ts.take j))/\af ae (w.alloc (.cells #[.int .i64 k,.string (B nm),.int .i64 i,.slice a ts.length cap] 29)) wr) (fun _ v4 _=>ts.length - (intOf v4).toNat)
   case atStart=>exact⟨0,rfl,Nat.zero_le _,by simp[Tm.fN],af.refl _ _⟩
   obtain⟨j,rfl,hj,rfl,hU⟩:=hrel;have hw:af ae w wr:=hU.behind;obtain⟨b0,b1,b2,b3⟩:=b8 hU;have Fl:(0:Int)<=(j:Int):=by omega
   have Dp:(j:Int)<=1000000:=by omega
   by_cases aB:j<ts.length
   ·obtain⟨b,o,k1,n1,x1,s1,cp,rfl,hb,_,p0,p1,p2,p3,eY⟩:=aY (hE.on hw) j aB;have hT:=Tm.lF ts (-1) j aB;have Bv:=Tm.aK (List.getElem_mem aB);have IH:=ih _ (List.getElem_mem aB) (by omega) wr _ eY;have ET:(j:Int)<(ts.length:Int):=by omega
    have HT:=ak hT;clear hT ih;generalize (ts[j]'aB).fI=gj at *
    generalize (ts[j]'aB).args.length=el at *
    generalize hA:Tm.fN (-1) (ts.take j)=A at *
    have HAA:=ak hA;clear hA;go_wp2_with fail;refine IH.mono ?_;rintro e w1 ⟨rfl,aH⟩;go_wp2_with fail;refine⟨⟨j+1,by go_num,aB,by rw[HT.out];first |rfl |(congr 1;omega),hU.and aH⟩,?_⟩;simp[intOf];omega
   have ET:¬(j:Int)<(ts.length:Int):=by omega
   have eJ:(Tm.mk k nm i ts).fI=Tm.fN (-1) (ts.take j):=by rw[HG.out,List.take_of_length_le (by omega)]
   have HF:=ak eJ;clear eJ;go_wp2_with fail;go_ret;exact⟨bd HF.out.symm,hw⟩
end
end Go.Proofs.YthgmimncdjhgnaaGreatDoor
