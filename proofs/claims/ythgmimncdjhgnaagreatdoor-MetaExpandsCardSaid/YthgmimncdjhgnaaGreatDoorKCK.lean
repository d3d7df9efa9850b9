/- Renamings of free variables, as plain data. No program is in sight here. -/
import Derived.Test.YthgmimncdjhgnaaGreatDoorKCD
import Derived.Test.YthgmimncdjhgnaaGreatDoorKCH
import Derived.Test.YthgmimncdjhgnaaGreatDoorKCJ
import Derived.Deep.AppendLies
import Derived.Deep.CutRange
import Derived.Deep.RegionHeld3
import Derived.Deep.RegionLaw
import Derived.Laws.CopyOwn
import Derived.Laws.MakeOwn
import Derived.Shelf.Bits.Mul64
set_option maxRecDepth 100000
set_option maxHeartbeats 16000000
namespace Go.LF.Tm
abbrev To:=Int->Int×Bool
def Z1(f:To)(b k i:Int):Int:=if k=5/\b<=i then(f (i - b)).1+b else i
def oki(f:To)(b k i:Int):Bool:=!(k == 5 && decide (b<=i))|| ((f (i - b)).2 && (decide (0<=(f (i - b)).1) && decide ((f (i - b)).1<=1048576 - b)))
mutual
def mv(f:To)(b:Int):Tm->Tm
  |mk k n i l=>mk k n (Z1 f b k i) (ZA f b k 0 l)
def ZA(f:To)(b k:Int)(j:Nat):List Tm->List Tm
  | []=>[]
  |t :: ts=>mv f (b+under k j) t :: ZA f b k (j+1) ts
end
mutual
def xv(f:To)(b:Int):Tm->Bool
  |mk k _ i l=>oki f b k i && xT f b k 0 l
def xT(f:To)(b k:Int)(j:Nat):List Tm->Bool
  | []=>true
  |t :: ts=>xv f (b+under k j) t && xT f b k (j+1) ts
end
theorem x7(f:To)(b k n i l):mv f b (mk k n i l)=mk k n (Z1 f b k i) (ZA f b k 0 l):=by rw[mv]
theorem Xg(f:To)(b k n i l):xv f b (mk k n i l)=(oki f b k i && xT f b k 0 l):=by rw[xv]
theorem zEQ(f:To)(b k:Int)(l m:List Tm)(j:Nat):ZA f b k j (l++m)=ZA f b k j l++ZA f b k (j+l.length) m:=by
  induction l generalizing j with
  |nil=>simp[ZA]
  |cons t ts ih=>simp[ZA,ih (j+1),Nat.add_assoc,Nat.add_comm 1 ts.length]
theorem zCY(f:To)(b k:Int)(l m:List Tm)(j:Nat):xT f b k j (l++m)=(xT f b k j l && xT f b k (j+l.length) m):=by
  induction l generalizing j with
  |nil=>simp[xT]
  |cons t ts ih=>simp[xT,ih (j+1),Nat.add_assoc,Nat.add_comm 1 ts.length,Bool.and_assoc]
theorem Zv(f:To)(b k:Int)(l:List Tm)(j:Nat):(ZA f b k j l).length=l.length:=by
  induction l generalizing j with
  |nil=>simp[ZA]
  |cons t ts ih=>simp[ZA,ih (j+1)]
theorem Xx(f:To)(b k:Int)(l:List Tm)(j:Nat)(h:j<l.length):ZA f b k 0 (l.take (j+1))=ZA f b k 0 (l.take j)++[mv f (b+under k j) l[j]]:=by
  rw[List.take_succ_eq_append_getElem h,zEQ]
  simp[ZA,Nat.min_eq_left (Nat.le_of_lt h)]
theorem Yi(f:To)(b k:Int)(l:List Tm)(j:Nat)(h:j<l.length):xT f b k 0 (l.take (j+1))=(xT f b k 0 (l.take j) && xv f (b+under k j) l[j]):=by
  rw[List.take_succ_eq_append_getElem h,zCY]
  simp[xT,Nat.min_eq_left (Nat.le_of_lt h)]
theorem zBK(f:To)(t:Tm):∀ b,xv f b t=(nodes b t).all (fun x=>oki f x.b x.k x.i):=by
  induction t using ind with
  |h k n i l ih=>
   intro b
   have key:∀(l':List Tm),(∀ t∈l',∀ b,xv f b t=(nodes b t).all (fun x=>oki f x.b x.k x.i))->∀ j,xT f b k j l'=(za b k j l').all (fun x=>oki f x.b x.k x.i):=by
     intro l'
     induction l' with
     |nil=>intro _ j;simp[xT,za]
     |cons t ts ih2=>intro h j;rw[xT,za,List.all_append,h t (by simp),ih2 (fun t ht=>h t (by simp[ht]))]
   rw[Xg,zg,List.all_cons,key l ih 0]
theorem zAg(f:To)(t:Tm):∀ b,nodes b (mv f b t)=(nodes b t).map (fun x=>⟨x.b,x.k,x.n,Z1 f x.b x.k x.i⟩):=by
  induction t using ind with
  |h k n i l ih=>
   intro b
   have key:∀(l':List Tm),(∀ t∈l',∀ b,nodes b (mv f b t)=(nodes b t).map (fun x=>⟨x.b,x.k,x.n,Z1 f x.b x.k x.i⟩))->∀ j,za b k j (ZA f b k j l')=(za b k j l').map (fun x=>⟨x.b,x.k,x.n,Z1 f x.b x.k x.i⟩):=by
     intro l'
     induction l' with
     |nil=>intro _ j;simp[ZA,za]
     |cons t ts ih2=>intro h j;rw[ZA,za,za,List.map_append,h t (by simp),ih2 (fun t ht=>h t (by simp[ht]))]
   rw[x7,zg,zg,List.map_cons,key l ih 0]
theorem qv(f g:To)(t:Tm):∀ b,(∀ x∈nodes b t,Z1 f x.b x.k x.i=Z1 g x.b x.k x.i)->mv f b t=mv g b t:=by
  induction t using ind with
  |h k n i l ih=>
   intro b h
   have key:∀(l':List Tm),(∀ t∈l',∀ b,(∀ x∈nodes b t,Z1 f x.b x.k x.i=Z1 g x.b x.k x.i)->mv f b t=mv g b t)->∀ j,(∀ x∈za b k j l',Z1 f x.b x.k x.i=Z1 g x.b x.k x.i)->ZA f b k j l'=ZA g b k j l':=by
     intro l'
     induction l' with
     |nil=>intro _ j _;simp[ZA]
     |cons t ts ih2=>
      intro h j hx
      simp only[za,List.mem_append]at hx
      rw[ZA,ZA,h t (by simp) _ (fun x hm=>hx x (.inl hm)),ih2 (fun t ht=>h t (by simp[ht])) _ (fun x hm=>hx x (.inr hm))]
   rw[zg]at h
   rw[x7,x7,key l ih 0 (fun x hx=>h x (by simp[hx])),h ⟨b,k,n,i⟩ (by simp)]
theorem zFn(t:Tm):∀ b,mv (fun i=>(i,true)) b t=t:=by
  induction t using ind with
  |h k n i l ih=>
   intro b
   have key:∀(l':List Tm),(∀ t∈l',∀ b,mv (fun i=>(i,true)) b t=t)->∀ j,ZA (fun i=>(i,true)) b k j l'=l':=by
     intro l'
     induction l' with
     |nil=>intro _ j;simp[ZA]
     |cons t ts ih2=>intro h j;rw[ZA,h t (by simp),ih2 (fun t ht=>h t (by simp[ht]))]
   rw[x7,key l ih 0]
   congr 1
   unfold Z1
   split
   ·simp
   ·rfl
theorem zHe(b k i:Int):Z1 (fun i=>(i,true)) b k i=i:=by unfold Z1;split<;>simp
theorem zKV(f:To)(t:Tm)(b:Int)(h:∀ x∈nodes b t,Z1 f x.b x.k x.i=x.i):mv f b t=t:=by
  rw[qv f (fun i=>(i,true)) t b (fun x hx=>by rw[h x hx,zHe]),zFn]
theorem zII(f g:To)(b k i:Int)(h:k=5->b<=i->0<=(f (i - b)).1):Z1 g b k (Z1 f b k i)=Z1 (fun i=>g (f i).1) b k i:=by
  by_cases hk:k=5/\b<=i
  ·have:=h hk.1 hk.2
   have e1:∀(g:To)(j:Int),b<=j->Z1 g b k j=(g (j - b)).1+b:=fun g j hj=>if_pos ⟨hk.1,hj⟩
   rw[e1 f i hk.2,e1 g _ (by omega),e1 _ i hk.2,show(f (i - b)).1+b - b=(f (i - b)).1 by omega]
  ·simp only[Z1,if_neg hk]
theorem zJF(f g:To)(t:Tm):∀ b,(∀ x∈nodes b t,x.k=5->x.b<=x.i->0<=(f (x.i - x.b)).1)->mv g b (mv f b t)=mv (fun i=>g (f i).1) b t:=by
  induction t using ind with
  |h k n i l ih=>
   intro b h
   have key:∀(l':List Tm),(∀ t∈l',∀ b,(∀ x∈nodes b t,x.k=5->x.b<=x.i->0<=(f (x.i - x.b)).1)->mv g b (mv f b t)=mv (fun i=>g (f i).1) b t)->∀ j,(∀ x∈za b k j l',x.k=5->x.b<=x.i->0<=(f (x.i - x.b)).1)->ZA g b k j (ZA f b k j l')=ZA (fun i=>g (f i).1) b k j l':=by
     intro l'
     induction l' with
     |nil=>intro _ j _;simp[ZA]
     |cons t ts ih2=>
      intro h j hx
      simp only[za,List.mem_append]at hx
      rw[ZA,ZA,ZA,h t (by simp) _ (fun x hm=>hx x (.inl hm)),ih2 (fun t ht=>h t (by simp[ht])) _ (fun x hm=>hx x (.inr hm))]
   rw[zg]at h
   rw[x7,x7,x7,key l ih 0 (fun x hx=>h x (by simp[hx])),zII _ _ _ _ _ (h ⟨b,k,n,i⟩ (by simp))]
theorem Q9(f:To)(t:Tm)(b:Int):(mv f b t).size=t.size:=by
  rw[<-ZL _ b,zAg,List.length_map,ZL]
theorem zBA(f:To)(t:Tm):∀ b,(mv f b t).depth=t.depth:=by
  induction t using ind with
  |h k n i l ih=>
   intro b
   have key:∀(l':List Tm),(∀ t∈l',∀ b,(mv f b t).depth=t.depth)->∀ j,zV (ZA f b k j l')=zV l':=by
     intro l'
     induction l' with
     |nil=>intro _ j;simp[ZA]
     |cons t ts ih2=>intro h j;rw[ZA,zV,zV,h t (by simp),ih2 (fun t ht=>h t (by simp[ht]))]
   rw[x7,yY,yY,key l ih 0]
theorem zHc(f:To)(t:Tm):∀ b,(mv f b t).wt=t.wt:=by
  induction t using ind with
  |h k n i l ih=>
   intro b
   have key:∀(l':List Tm),(∀ t∈l',∀ b,(mv f b t).wt=t.wt)->∀ j,xJ (ZA f b k j l')=xJ l':=by
     intro l'
     induction l' with
     |nil=>intro _ j;simp[ZA]
     |cons t ts ih2=>intro h j;rw[ZA,xJ,xJ,h t (by simp),ih2 (fun t ht=>h t (by simp[ht]))]
   rw[x7,yi,yi,key l ih 0]
theorem Ze(f:To)(b k i:Int)(h:k≠5):Z1 f b k i=i:=by unfold Z1;rw[if_neg (fun e=>h e.1)]
theorem zET(f:To)(t:Tm):t.isObj=true->∀ b,0<=b->xv f b t=true->(mv f b t).isObj=true:=by
  induction t using ind with
  |h k n i l ih=>
   intro ho b hb h
   have key:∀(l':List Tm),(∀ t∈l',t.isObj=true->∀ b,0<=b->xv f b t=true->(mv f b t).isObj=true)->∀ j,zY l'=true->xT f b k j l'=true->zY (ZA f b k j l')=true:=by
     intro l'
     induction l' with
     |nil=>intro _ j _ _;simp[ZA,zY]
     |cons t ts ih2=>
      intro h j ha hm
      simp only[zY,xT,Bool.and_eq_true]at ha hm
      simp only[ZA,zY,Bool.and_eq_true]
      exact⟨h t (by simp) ha.1 _ (by have:=ym k j;omega) hm.1,ih2 (fun t ht=>h t (by simp[ht])) _ ha.2 hm.2⟩
   rw[Xg,Bool.and_eq_true]at h
   have k1:=key l ih 0
   rw[x7]
   rw[isObj]at ho ⊢
   by_cases h3:k=3
   ·subst h3
    simp only[if_true,Bool.and_eq_true,bound,Zv]at ho ⊢
    rw[Ze f b 3 i (by decide)]
    exact⟨ho.1,k1 ho.2 h.2⟩
   rw[if_neg h3]at ho ⊢
   by_cases h4:k=4
   ·subst h4
    simp only[if_true,Bool.and_eq_true]at ho ⊢
    rw[Ze f b 4 i (by decide)]
    exact⟨ho.1,k1 ho.2 h.2⟩
   rw[if_neg h4]at ho ⊢
   by_cases h5:k=5
   ·subst h5
    simp only[if_true,Bool.and_eq_true,decide_eq_true_eq]at ho ⊢
    refine⟨⟨⟨ho.1.1.1,?_⟩,?_⟩,k1 ho.2 h.2⟩
    all_goals
      have hh:=h.1
      unfold Z1
      by_cases hbi:b<=i
      ·simp only[oki,hbi]at hh
       simp at hh
       simp[hbi]
       omega
      ·rw[if_neg (fun e=>hbi e.2)]
       omega
   rw[if_neg h5]at ho ⊢
   by_cases h6:k=6
   ·subst h6
    simp only[if_true,Bool.and_eq_true]at ho ⊢
    rw[Ze f b 6 i (by decide)]
    exact⟨ho.1,k1 ho.2 h.2⟩
   ·rw[if_neg h6]at ho
    cases ho
theorem zIv(f:To)(k n i l)(ha:isAtom (mk k n i l)=true)(b:Int)(hb:0<=b)(h:xv f b (mk k n i l)=true):isAtom (mv f b (mk k n i l))=true:=by
  simp only[isAtom,Bool.and_eq_true,beq_iff_eq]at ha
  obtain⟨rfl,h1,h2⟩:=ha
  have ho:=zET f (mk 4 n i l) (by rw[isObj];simp[h1,h2]) b hb h
  rw[x7,isObj]at ho
  rw[x7,isAtom]
  simpa using ho
theorem zHr(f:To)(t:Tm):t.zW=true->∀ b,0<=b->xv f b t=true->(mv f b t).zW=true:=by
  induction t using ind with
  |h k n i l ih=>
   intro ho b hb h
   rw[zW]at ho
   rcases Bool.or_eq_true_iff.1 ho with ho |ho
   ·have:=zIv f k n i l ho b hb h
    rw[x7]at this ⊢
    rw[zW,this]
    rfl
   ·have key:∀(l':List Tm),(∀ t∈l',t.zW=true->∀ b,0<=b->xv f b t=true->(mv f b t).zW=true)->∀ j,yq l'=true->xT f b k j l'=true->yq (ZA f b k j l')=true:=by
      intro l'
      induction l' with
      |nil=>intro _ j _ _;simp[ZA,yq]
      |cons t ts ih2=>
       intro h j ha hm
       simp only[yq,xT,Bool.and_eq_true]at ha hm
       simp only[ZA,yq,Bool.and_eq_true]
       exact⟨h t (by simp) ha.1 _ (by have:=ym k j;omega) hm.1,ih2 (fun t ht=>h t (by simp[ht])) _ ha.2 hm.2⟩
    simp only[Bool.and_eq_true,beq_iff_eq]at ho
    obtain⟨rfl,h1,h2⟩:=ho
    rw[Xg,Bool.and_eq_true]at h
    rw[x7,zW]
    simp only[Bool.or_eq_true,Bool.and_eq_true,bound,Zv]at h1 ⊢
    right
    rw[Ze f b 2 i (by decide)]
    exact⟨rfl,h1,key l ih 0 h2 h.2⟩
theorem zJU(f:To)(t:Tm):t.zZ=true->∀ b,0<=b->xv f b t=true->(mv f b t).zZ=true:=by
  induction t using ind with
  |h k n i l ih=>
   intro ho b hb h
   rw[Xg,Bool.and_eq_true]at h
   rw[x7]
   match l,ho,ih,h with
   | [],ho,_,_=>
     simp only[zZ,Bool.and_eq_true,beq_iff_eq]at ho
     obtain⟨rfl,h1⟩:=ho
     rw[Ze f b 1 i (by decide)]
     simp only[ZA,zZ,Bool.and_eq_true,beq_iff_eq]
     exact⟨trivial,h1⟩
   | [a],ho,_,_=>simp[zZ]at ho
   |a :: c :: d :: l,ho,_,_=>simp[zZ]at ho
   | [a,c],ho,ih,h=>
     simp only[zZ,Bool.and_eq_true,beq_iff_eq]at ho
     obtain⟨rfl,h1,h2,h3⟩:=ho
     simp only[xT,Bool.and_eq_true]at h
     rw[Ze f b 2 i (by decide)]
     simp only[ZA,zZ,Bool.and_eq_true,beq_iff_eq]
     refine⟨trivial,by simpa[bound]using h1,zHr f a h2 _ (by have:=ym 2 0;omega) h.2.1,ih c (by simp) h3 _ (by have:=ym 2 (0+1);omega) h.2.2.1⟩
theorem zKf(f:To)(t:Tm)(h:t.wf=0)(hm:xv f 0 t=true):(mv f 0 t).wf=0:=by
  unfold wf at h ⊢
  by_cases h1:(!t.isObj && !t.zW && !t.zZ)=true
  ·rw[if_pos h1]at h;omega
  rw[if_neg h1]at h
  have hs:(mv f 0 t).small=t.small:=by unfold small;rw[Q9,zBA]
  rw[if_neg ?_,hs]
  ·exact h
  ·intro e
   simp only[Bool.and_eq_true,Bool.not_eq_true']at e h1
   apply h1
   refine⟨⟨?_,?_⟩,?_⟩<;>rw[Bool.eq_false_iff]<;>intro h2
   ·have:=zET f t h2 0 (by omega) hm;rw[e.1.1]at this;cases this
   ·have:=zHr f t h2 0 (by omega) hm;rw[e.1.2]at this;cases this
   ·have:=zJU f t h2 0 (by omega) hm;rw[e.2]at this;cases this
theorem XM:∀(l:List Nd0)(a:Int),a<=l.foldl yb a/\∀ x∈l,x.k=5->x.i - x.b+1<=l.foldl yb a
  | [],a=>⟨Int.le_refl _,fun x hx=>by cases hx⟩
  |y :: l,a=>by
   have h:=XM l (yb a y)
   have hy:a<=yb a y/\(y.k=5->y.i - y.b+1<=yb a y):=by
     unfold yb
     split
     ·omega
     ·rename_i e;refine⟨Int.le_refl _,fun e2=>absurd (by simp[e2]) e⟩
   refine⟨by have:=h.1;simp only[List.foldl_cons];omega,fun x hx hk=>?_⟩
   rw[List.foldl_cons]
   rcases List.mem_cons.1 hx with rfl |hx
   ·have:=hy.2 hk;have:=h.1;omega
   ·exact h.2 x hx hk
theorem zIm(t:Tm):∀ x∈nodes 0 t,x.k=5->x.i - x.b<scope t\/x.i - x.b<0:=by
  intro x hx hk
  have h:=(XM (nodes 0 t) 0).2 x hx hk
  rw[zAt t 0 0 (by omega) (by omega)]at h
  omega
theorem zF8{b k i:Int}{n:List UInt8}{l:List Tm}(j:Nat)(h:j<l.length){x:Nd0}(hx:x∈nodes (b+under k j) l[j]):x∈nodes b (mk k n i l):=by
  rw[zg]
  refine List.mem_cons_of_mem _ ((xH l b k (j+1)).subset ?_)
  rw[ZP l b k j h]
  simp[hx]
theorem zFd{k i:Int}{n:List UInt8}{l:List Tm}(h:∀ b,∀ x∈nodes b (mk k n i l),x.ok):∀ t∈l,∀ b,∀ x∈nodes b t,x.ok:=by
  intro t ht b x hx
  obtain⟨j,hj,rfl⟩:=List.getElem_of_mem ht
  exact h (b - under k j) x (zF8 j hj (by rw[show b - under k j+under k j=b by omega];exact hx))
theorem QK(t:Tm):t.same t=true:=by
  induction t using ind with
  |h k n i l ih=>
   rw[zFL]
   have key:∀(l':List Tm),(∀ t∈l',t.same t=true)->xL l' l'=true:=by
     intro l'
     induction l' with
     |nil=>intro _;simp[xL]
     |cons t ts ih2=>intro h;simp only[xL,Bool.and_eq_true];exact⟨h t (by simp),ih2 (fun t ht=>h t (by simp[ht]))⟩
   simp[key l ih]
theorem YO.wf{t:Tm}{sz v m:Nat}(h:YO t sz v m)(hs:sz<=4096):t.wf=0:=by
  unfold Tm.wf
  rw[if_neg,if_neg]
  ·unfold small
   have:=h.depth
   have:=h.size
   simp
   omega
  ·intro e
   simp only[Bool.and_eq_true,Bool.not_eq_true']at e
   rcases h.any with h |h |h
   ·rw[e.1.1]at h;cases h
   ·rw[e.1.2]at h;cases h
   ·rw[e.2]at h;cases h
end Go.LF.Tm
namespace Go.Proofs.YthgmimncdjhgnaaGreatDoor
section
open Go.RowKit Go.LF
def yC(W:World)(g:Nat)(c:Value)(T:TypeId):Prop:=W.heap[g]? =some (.cells #[c] T (0,0))
section
variable {W W':World}{g b:Nat}{c:Value}{T:TypeId}{S:Nat->Prop}
theorem yC.zL(hb:W.heap.size=b):yC (W.alloc (.cells #[c] T)) b c T:=by subst hb;exact heap_alloc_new W _
theorem yC.lt(h:yC W g c T):g<W.heap.size:=(Array.getElem?_eq_some_iff.1 h).1
theorem yC.cell(h:yC W g c T):W.cell? ⟨g,0,none⟩=some c:=by unfold yC at h;simp[World.cell?,h]
theorem yC.frozen(h:yC W g c T):W.frozen? ⟨g,0,none⟩=false:=by unfold yC at h;simp[World.frozen?,h]
theorem yC.zF(h:yC W g c T)(hU:zD S W W')(hS:¬S g):yC W' g c T:=(hU.block g h.lt hS).trans h
theorem yC.kept(h:yC W g c T)(hU:zD zC W W'):yC W' g c T:=h.zF hU (fun x=>x)
theorem yC.set(h:yC W g c T)(v:Value):yC (W.setCell ⟨g,0,none⟩ v) g v T:=by
  obtain⟨hlt,hk⟩:=Array.getElem?_eq_some_iff.1 h
  show(W.heap.modify g _)[g]? =_
  rw[Array.getElem?_eq_getElem (by rw[Array.size_modify];exact hlt),Array.getElem_modify_self,hk]
  rfl
end
theorem zBs{O:Nat->Prop}{W:World}{ts:List Tm}(h:zG O W 4 (ts.map Tm.zN) none 0):ts=[]:=by
  cases ts with
  |nil=>rfl
  |cons t ts=>simp only[List.map_cons,zG]at h;obtain⟨⟨_,_,_,e,_⟩,_⟩:=h;cases e
def zJT(O:Nat->Prop)(ts:List Tm)(w:World)(e:Ending)(w':World):Prop:=∃ v css,e=.returned v/\ZC O w.heap.size w' v ts css/\zD zC w w'
theorem QD(ts:List Tm)(O:Nat->Prop)(w:World)(a:Option Addr)(cap:Nat)(hl:ts.length<=900000)(hE:zG O w 4 (ts.map Tm.zN) a 0):
    Calls Tryz.prog 176 #[.slice a ts.length cap] w (zJT O ts w):=by
  obtain⟨i0,hi,hi0,hi1,hi2⟩:=info_parts yZ
  rcases a with _ |ad
  ·obtain rfl:=zBs hE
   clear hE
   have he:∀ w:World,(binOp .eql 26 (.slice none 0 cap) (.slice none 0 0)).run Tryz.prog w=.ok (.bool true) w:=fun _=>rfl
   go_enter Tryz.func176,Tryz.ntmps176
   go_wp2_with fail
   go_ret
   exact⟨_,[],rfl,⟨rfl,by simp,World.ownsRow_nil _ _ _ _,fun i h=>by simp at h⟩,zD.refl _ _⟩
  ·rcases Nat.eq_zero_or_pos ts.length with h0 |h0
   ·obtain rfl:ts=[]:=List.eq_nil_of_length_eq_zero h0
    clear hE h0
    simp only[List.length_nil]
    have he:∀ w:World,(binOp .eql 26 (.slice (some ad) 0 cap) (.slice none 0 0)).run Tryz.prog w=.ok (.bool false) w:=fun _=>rfl
    go_enter Tryz.func176,Tryz.ntmps176
    go_wp2_with fail
    go_ret
    exact⟨_,[],rfl,⟨rfl,by simp,World.ownsRow_made w #[] 0 (Nat.le_refl _) (by decide) (by simp),fun i h=>by simp at h⟩,(zD.refl zC w).alloc _⟩
   ·obtain⟨css,r1,r2,r3,r4,r5⟩:=XR ts _ 0 (zG.zQ 4 _ _ _ hE)
    have hflat:=(zB0 css r2).1
    rw[r1]at hflat
    obtain⟨ub,uo,he⟩:∃ ub uo,ad=⟨ub,uo,none⟩:=by
      obtain⟨u,hu⟩:∃ u,css.flatten[0]? =some u:=⟨_,List.getElem?_eq_getElem (by omega)⟩
      obtain⟨b,o,e,_⟩:=r4 0 u hu
      cases e
      exact⟨b,o,rfl⟩
    subst he
    have HN:∀ j u,css.flatten[j]? =some u->(w.alloc (.cells #[] 29)).cell? ((⟨ub,uo,none⟩:Addr).add j)=some u:=by
      intro j u hu
      obtain⟨b',o',e,hc⟩:=r4 j u hu
      cases e
      have hadd:(⟨ub,uo,none⟩:Addr).add j=⟨ub,uo+j,none⟩:=by unfold Addr.add;split<;>simp_all
      rw[hadd]
      exact((zD.refl zC w).alloc _).cell (by simpa using hc) (fun x=>x)
    have HL:=zH (And.intro r1 (And.intro r2 r5))
    obtain⟨len,hlen⟩:∃ len,len=ts.length:=⟨_,rfl⟩
    rw[<-hlen]at hl h0 hflat ⊢
    have HE:=zH hlen
    clear hE r1 r2 r4 r5 hlen
    have he:∀ w:World,(binOp .eql 26 (.slice (some ⟨ub,uo,none⟩) len cap) (.slice none 0 0)).run Tryz.prog w=.ok (.bool false) w:=fun _=>rfl
    go_enter Tryz.func176,Tryz.ntmps176
    go_wp2_with (at_builtin;refine wpList_append_lies _ (by rfl) _ _ 26 (by rfl) w.heap.size 29 i0 (.agg #[.int .i64 0,.string (B []),.int .i64 0,.slice none 0 0]) 4 56 (by kernel_rfl) hi hi0 hi1 hi2 rfl (by decide) (.slice (some ⟨w.heap.size,0,none⟩) 0 0) 0 [] (by rfl) (World.ownsRow_made w #[] 0 (Nat.le_refl _) (by decide) (by simp)) ⟨ub,uo,none⟩ len cap css.flatten (by rfl) hflat HN r3 h0 (by simp only[maxLen];omega) (by omega) (by simp) _ rfl ?_;intro g cap' w7 hown hgrow hat hlt)
    go_ret
    have hU7:zD zC w w7:=((zD.refl zC w).alloc (.cells #[] 29)).trans (zy hgrow) (fun i hi e=>by simp only[Value.ownBlock,Option.some.injEq]at e;omega)
    refine⟨_,css,rfl,⟨HL.out.1,HL.out.2.1,?_,fun i hi hi'=>(HL.out.2.2 i hi hi').on hU7⟩,hU7⟩
    rw[<-HE.out]
    simpa using hown
end
section
open Go.RowKit Go.LF
def zEv(w:World)(F:FuncId)(caps:List Value)(f:Tm.To):Prop:=
  ∀(i:Int)(W:World),0<=i->i<=1048576->zD zC w W->Calls Tryz.prog F (.int .i64 i :: caps).toArray W fun e W'=>e=.returned (.tuple #[.int .i64 (f i).1,.bool (f i).2])/\zD zC W W'
def zKX(f:Tm.To)(okb:Nat)(o:Bool)(b:Int)(t:Tm)(w:World)(e:Ending)(w':World):Prop:=
  ∃(k i:Int)(n:List UInt8)(a:Option Addr)(len cap:Nat)(u:Tm),e=.returned (.agg #[.int .i64 k,.string (B n),.int .i64 i,.slice a len cap])/\
   zM (fun x=>x<w.heap.size) w' u.zN [.int .i64 k,.string (B n),.int .i64 i,.slice a len cap]/\(t.xv f b=true->u=t.mv f b)/\u.size=t.size/\
   yC w' okb (.bool (o && t.xv f b)) 4/\zD (fun x=>x=okb) w w'
def Zo(okb lo base:Nat)(W:World)(a:Option Addr)(us ts:List Tm):Prop:=
  ∀ i,i<ts.length->∃ g cs,a=some ⟨g,0,none⟩/\base<=g/\g<W.heap.size/\(∀ o,W.frozen? ⟨g,o,none⟩=false)/\cs.length=4/\(∀ m u,cs[m]? =some u->W.cell? ⟨g,i * 4+m,none⟩=some u)/\
    (∀(h:i<us.length),zM (fun b=>b<base\/b=g) W us[i].zN cs)/\(∀(h:i<ts.length),us.length<=i->zM (fun b=>b=okb\/lo<=b) W ts[i].zN cs)
section
variable {okb lo base:Nat}{W W':World}{a:Option Addr}{us ts:List Tm}
theorem Zo.start{O:Nat->Prop}{sc:Nat}{css:List (List Value)}{sa:Option Addr}(h:ZC O base W (.slice sa ts.length sc) ts css)(hO:∀ b,b=okb\/lo<=b->O b\/base<=b):Zo okb lo base W sa [] ts:=by
  intro i hi
  obtain⟨sa',sc',hv,_,hc⟩:=h.cells
  simp only[Value.slice.injEq]at hv
  obtain⟨rfl,_,rfl⟩:=hv
  have hi':i<css.length:=by have:=h.1;omega
  obtain⟨g,rfl,_,hb,hlt,hf,hg⟩:=hc i hi hi'
  exact⟨g,css[i],rfl,hb,hlt,hf,h.2.1 _ (List.getElem_mem hi'),hg,fun h=>by simp at h,fun h' _=>zM.weaken (fun b _ e=>hO b e) _ _ (h.2.2.2 i hi hi')⟩
theorem Zo.zF{S:Nat->Prop}(h:Zo okb lo base W a us ts)(hU:zD S W W')(hS:∀ b,S b->(b=okb\/lo<=b)/\b<base):Zo okb lo base W' a us ts:=by
  intro i hi
  obtain⟨g,cs,h1,h2,h3,h4,h5,h6,h7,h8⟩:=h i hi
  have hg:¬S g:=fun e=>by have:=(hS g e).2;omega
  refine⟨g,cs,h1,h2,Nat.lt_of_lt_of_le h3 hU.size,fun o=>?_,h5,fun m u hu=>hU.cell (h6 m u hu) hg,fun h=>?_,fun h hi'=>?_⟩
  ·rw[hU.cells.2 g o h3 hg];exact h4 o
  ·exact zM.zF hU (fun b e=>.inl (hS b e).2) _ _ (h7 h)
  ·exact zM.zF hU (fun b e=>(hS b e).1) _ _ (h8 h hi')
theorem Zo.kept(h:Zo okb lo base W a us ts)(hU:zD zC W W'):Zo okb lo base W' a us ts:=h.zF hU (fun _ x=>x.elim)
theorem Zo.next{g:Nat}{u:Tm}{d0 d1 d2 d3:Value}(h:Zo okb lo base W (some ⟨g,0,none⟩) us ts)(hj:us.length<ts.length)(hob:lo<=base)(hR:zM (fun b=>b<base\/b=g) W u.zN [d0,d1,d2,d3])
    (hW:W'=(((W.setCell ⟨g,us.length * 4,none⟩ d0).setCell ⟨g,us.length * 4+1,none⟩ d1).setCell ⟨g,us.length * 4+2,none⟩ d2).setCell ⟨g,us.length * 4+3,none⟩ d3):
    Zo okb lo base W' (some ⟨g,0,none⟩) (us++[u]) ts/\zD (fun b=>b=g) W W':=by
  obtain⟨g',cs,e,hb,hlt,hf,hcl,hc,_,_⟩:=h us.length hj
  cases e
  have hcj:∀ m,m<4->∃ u,W.cell? ⟨g,us.length * 4+m,none⟩=some u:=fun m hm=>⟨_,hc m _ (List.getElem?_eq_getElem (by rw[hcl];exact hm))⟩
  obtain⟨_,u0⟩:=hcj 0 (by omega)
  obtain⟨_,u1⟩:=hcj 1 (by omega)
  obtain⟨_,u2⟩:=hcj 2 (by omega)
  obtain⟨_,u3⟩:=hcj 3 (by omega)
  obtain⟨⟨v0,v1,v2,v3⟩,hoth,hU⟩:=Zg (d0:=d0) (d1:=d1) (d2:=d2) (d3:=d3) u0 u1 u2 u3 hW
  refine⟨fun i hi=>?_,hU⟩
  obtain⟨g',cs',e,hb',hlt',hf',hcl',hc',h7,h8⟩:=h i hi
  cases e
  have hfr:∀ o,W'.frozen? ⟨g,o,none⟩=false:=fun o=>by rw[hW];simp only[World.frozen?_setCell];exact hf o
  by_cases hij:i=us.length
  ·subst hij
   refine⟨g,[d0,d1,d2,d3],rfl,hb,Nat.lt_of_lt_of_le hlt hU.size,hfr,rfl,fun m x hx=>?_,fun h'=>?_,fun _ h'=>?_⟩
   ·match m,hx with
    |0,hx=>cases hx;exact v0
    |1,hx=>cases hx;exact v1
    |2,hx=>cases hx;exact v2
    |3,hx=>cases hx;exact v3
   ·simp only[List.getElem_concat_length]
    exact zM.zF hU (fun b e=>.inr e) _ _ hR
   ·(simp at h';omega)
  ·refine⟨g,cs',rfl,hb,Nat.lt_of_lt_of_le hlt hU.size,hfr,hcl',fun m x hx=>?_,fun h'=>?_,fun h' h''=>?_⟩
   ·have hm:m<4:=by rw[<-hcl'];exact(List.getElem?_eq_some_iff.1 hx).1
    rw[hoth _ (by omega) (by omega) (by omega) (by omega)]
    exact hc' m x hx
   ·have hlt2:i<us.length:=by simp at h';omega
    rw[List.getElem_append_left hlt2]
    exact zM.zF hU (fun b e=>.inr e) _ _ (h7 hlt2)
   ·simp at h''
    exact zM.zF hU (fun b e=>.inr (by omega)) _ _ (h8 h' (by omega))
theorem Zo.rep(h:Zo okb lo base W a us ts)(hl:us.length=ts.length):zG (fun b=>b<base) W 4 (us.map Tm.zN) a 0:=by
  refine zn _ _ _ (fun i hi=>?_)
  simp only[List.length_map]at hi
  obtain⟨g,cs,rfl,hb,hlt,_,hcl,hc,h7,_⟩:=h i (by omega)
  refine⟨g,0,cs,rfl,hlt,by omega,hcl,fun m u hu=>?_,?_⟩
  ·rw[show 0+0+i * 4+m=i * 4+m by omega]
   exact hc m u hu
  ·simp only[List.getElem_map]
   exact zM.weaken (fun b _ e=>.inl e) _ _ (h7 hi)
end
end
section
open Go.RowKit Go.LF
abbrev MvS(B K tb:Nat)(sa:Option Addr)(len sc:Nat)(fv c0 c1 c2 c3:Value)(w':World):Prop:=
  w'.cell? ⟨B,3,none⟩=some (.slice sa len sc)/\w'.cell? ⟨K,0,none⟩=some fv/\Yn tb c0 c1 c2 c3 w'
theorem MvS.zF{B K tb len sc:Nat}{sa:Option Addr}{fv c0 c1 c2 c3:Value}{w w':World}{S:Nat->Prop}(h:MvS B K tb sa len sc fv c0 c1 c2 c3 w)(hU:zD S w w')(h1:¬S B)(h2:¬S K)(h3:¬S tb):MvS B K tb sa len sc fv c0 c1 c2 c3 w':=
  ⟨hU.cell h.1 h1,hU.cell h.2.1 h2,h.2.2.zF hU h3⟩
theorem MvS.set{B K tb len sc g:Nat}{sa:Option Addr}{fv c0 c1 c2 c3:Value}{w:World}(h:MvS B K tb sa len sc fv c0 c1 c2 c3 w)(h1:B≠g)(h2:K≠g)(h3:tb≠g)(o:Nat)(v:Value):MvS B K tb sa len sc fv c0 c1 c2 c3 (w.setCell ⟨g,o,none⟩ v):=
  h.zF (zD.set (zD.refl _ w) o v) h1 h2 h3
theorem zG3(f:Tm.To)(w0:World)(okb tob K:Nat)(F:FuncId)(caps:List Value)(hF:zEv w0 F caps f)(hFE:∀ args w,Sem.run Tryz.prog (callFunc F args) w=.ok (Next.enter F args) w)(hk:w0.heap.size<=okb)(ht0:tob≠okb)(hK0:K≠okb)(t:Tm):t.size<=100000->(∀ b,∀ x∈t.nodes b,x.ok)->
    ∀(b:Int)(o:Bool)(w:World)(cs:List Value),0<=b->b+t.size<=1000000->zM (fun x=>x=okb) w t.zN cs->zD zC w0 w->yC w okb (.bool o) 4->w.cell? ⟨tob,0,none⟩=some (.func (.func F) #[] caps.toArray)->
    w.cell? ⟨K,0,none⟩=some (.func (.func 184) #[] #[.pointer (some ⟨tob,0,none⟩),.pointer (some ⟨okb,0,none⟩),.pointer (some ⟨K,0,none⟩)])->
    Calls Tryz.prog 184 #[.agg cs.toArray,.int .i64 b,.pointer (some ⟨tob,0,none⟩),.pointer (some ⟨okb,0,none⟩),.pointer (some ⟨K,0,none⟩)] w (zKX f okb o b t w):=by
  induction t using Tm.ind with
  |h k nm i ts ih=>
   intro hsz hok b o w cs hb0 hb1 hR hU0 hO hT hK
   obtain⟨a,cap,rfl,hcap,hE⟩:=zk.1 hR
   have hlen:=Tm.zO ts
   simp only[Tm.zS]at hsz hb1
   have hno:=hok b
   rw[Tm.zg]at hno
   have hi5:k=5->0<=i/\i<=1048576:=fun e=>(hno _ (List.mem_cons_self ..)).1 (by simp[e])
   have hoks:∀ x∈ts,∀ b,∀ y∈x.nodes b,y.ok:=Tm.zFd hok
   have hokb:=hO.lt
   have htob:tob<w.heap.size:=World.block_lt_of_cell? w _ hT
   have hKb:K<w.heap.size:=World.block_lt_of_cell? w _ hK
   obtain⟨w2,hw2⟩:∃ w2,w2=(w.alloc (.cells #[.int .i64 k,.string (B nm),.int .i64 i,.slice a ts.length cap] 29)).alloc (.cells #[.int .i64 0,.string (B []),.int .i64 0,.slice none 0 0] 29):=⟨_,rfl⟩
   have hU2:zD zC w w2:=by rw[hw2];exact((zD.refl zC w).alloc _).alloc _
   have ht2:zK w2 w.heap.size (.int .i64 k) (.string (B nm)) (.int .i64 i) (.slice a ts.length cap) 29:=by rw[hw2];exact(zK.zL rfl).kept ((zD.refl zC _).alloc _)
   have hr2:zK w2 (w.heap.size+1) (.int .i64 0) (.string (B [])) (.int .i64 0) (.slice none 0 0) 29:=by rw[hw2];exact zK.zL (by simp)
   have hO2:=hO.kept hU2
   have hT2:=hU2.cell hT (fun x=>x)
   have hK2:=hU2.cell hK (fun x=>x)
   obtain⟨t0,t1,t2,t3⟩:=ht2.cells
   obtain⟨f0,f1,f2,f3⟩:=ht2.zI
   have q0:=hO2.cell
   have q1:=hO2.frozen
   have HW2:=zH hw2
   have HW:=zH (And.intro hsz hb1)
   clear hw2 hR hno hok
   obtain⟨c21,hc21⟩:∃ c,c=(k == 5 && decide (b<=i)):=⟨_,rfl⟩
   have hways:((k == 5)=true/\b<=i)\/((k == 5)=true/\i<b)\/(k == 5)=false:=by
     by_cases h:k=5
     ·by_cases h':b<=i
      ·exact .inl ⟨by simp[h],h'⟩
      ·exact .inr (.inl ⟨by simp[h],by omega⟩)
     ·exact .inr (.inr (by simp[h]))
   have HC:=zH hc21
   have HY:=zH hways
   clear hc21 hways
   go_enter Tryz.func184,Tryz.ntmps184
   go_upto_region 1 with fail
   rw[<-HW2.out]
   go_cut [21]from 13 to 21 (fun v21 wx=>v21=.bool c21/\w2=wx)
   case first=>
     rcases HY.out with⟨h5,hbi⟩|⟨h5,hbi⟩|h5
     all_goals
       go_wp2_with fail
       go_meet
       case rel=>exact⟨by rw[HC.out];simp[h5]<;>omega,rfl⟩
   case rest=>
     obtain⟨rfl,rfl⟩:=hcut
     go_upto_if 21 with fail
     go_cut []from 13 to 46 (fun wc=>∃(i2:Int)(o1:Bool),zK wc w.heap.size (.int .i64 k) (.string (B nm)) (.int .i64 i2) (.slice a ts.length cap) 29/\zK wc (w.heap.size+1) (.int .i64 0) (.string (B [])) (.int .i64 0) (.slice none 0 0) 29/\
       yC wc okb (.bool o1) 4/\zD (fun x=>x=okb\/x=w.heap.size) w2 wc/\(Tm.oki f b k i=true->i2=Tm.Z1 f b k i)/\o1=(o && Tm.oki f b k i))
     case first=>
       cases c21
       ·go_wp2_with fail
        go_meet
        case rel=>
          have hc:=HC.out
          exact⟨i,o,ht2,hr2,hO2,zD.refl _ _,fun _=>(if_neg (fun e=>by simp[e.1,e.2]at hc)).symm,by unfold Tm.oki;rw[<-hc];simp⟩
       ·have hki:k=5/\b<=i:=by have:=HC.out;simpa using this.symm
        obtain⟨hk5,hbi⟩:=hki
        have hi6:=hi5 hk5
        have hd0:0<=i - b:=by omega
        have hd1:i - b<=1048576:=by omega
        have HF:=zH (hF (i - b))
        clear hF
        have HK:=zH hk5
        clear hk5 hi5
        go_wp2_with fail
        refine(HF.out _ (by omega) (by omega) (hU0.and hU2)).mono ?_
        rintro e w3 ⟨rfl,hU3⟩
        obtain⟨⟨n,fd⟩,hp⟩:∃ p,p=f (i - b):=⟨_,rfl⟩
        rw[<-hp]
        have ho1:Tm.oki f b k i=(fd && (decide (0<=n) && decide (n<=1048576 - b))):=by unfold Tm.oki;rw[<-hp,HK.out];simp[hbi]
        have hm1:Tm.Z1 f b k i=n+b:=by unfold Tm.Z1;rw[if_pos ⟨HK.out,hbi⟩,<-hp]
        have HO:=zH (And.intro ho1 hm1)
        clear ho1 hm1 hp HF t0 t1 t2 t3 f0 f1 f2 f3 q0 q1
        have ht3:=ht2.kept hU3
        have hr3:=hr2.kept hU3
        have hO3:=hO2.kept hU3
        obtain⟨x0,x1,x2,x3⟩:=ht3.cells
        obtain⟨y0,y1,y2,y3⟩:=ht3.zI
        have q0:=hO3.cell
        have q1:=hO3.frozen
        have hne:w.heap.size≠okb:=by omega
        have hne1:w.heap.size+1≠okb:=by omega
        have hways:(fd=true/\0<=n/\n<=1048576 - b)\/fd=false\/(fd=true/\n<0)\/(fd=true/\0<=n/\1048576 - b<n):=by
          cases fd
          ·exact .inr (.inl rfl)
          ·by_cases h0:0<=n
           ·by_cases h1:n<=1048576 - b
            ·exact .inl ⟨rfl,h0,h1⟩
            ·exact .inr (.inr (.inr ⟨rfl,h0,by omega⟩))
           ·exact .inr (.inr (.inl ⟨rfl,by omega⟩))
        rcases hways with⟨rfl,h1,h2⟩|rfl |⟨rfl,h1⟩|⟨rfl,h1,h2⟩
        all_goals go_wp2_with fail
        all_goals go_meet
        all_goals first
          |exact⟨n+b,o,ht3.Yq _,hr3.other (by omega) _,hO3.zF (zD.set (zD.refl _ _) 2 _) (by omega),(hU3.mono (fun _ _ e=>e.elim)).trans (zD.set (zD.refl _ _) 2 _) (fun _ _ e=>.inr e),fun _=>HO.out.2.symm,by rw[HO.out.1];simp[h1,h2]⟩
          |exact⟨_,false,(ht3.other hne _).Yq _,(hr3.other hne1 _).other (by omega) _,(hO3.set _).zF (zD.set (zD.refl _ _) 2 _) (by omega),((hU3.mono (fun _ _ e=>e.elim)).trans (zD.set (zD.refl _ _) 0 _) (fun _ _ e=>.inl e)).trans (zD.set (zD.refl _ _) 2 _) (fun _ _ e=>.inr e),fun e=>(by rw[HO.out.1]at e;simp at e<;>omega),by rw[HO.out.1];simp<;>omega⟩
          |trace_state
     case rest=>
       obtain⟨i2,o1,hB,hRs,hO1,hUc,hi2,ho1⟩:=hcut
       obtain⟨x0,x1,x2,x3⟩:=hB.cells
       obtain⟨y0,y1,y2,y3⟩:=hB.zI
       have hE2:zG (fun x=>x=okb\/w.heap.size<=x) wc 4 (ts.map Tm.zN) a 0:=zG.zF hUc (fun x e=>e.elim .inl (fun e=>.inr (by omega))) _ _ _ _ ((zG.zQ _ _ _ _ hE).on hU2)
       have HI:=zH (And.intro hi2 ho1)
       clear hi2 ho1 t0 t1 t2 t3 f0 f1 f2 f3 q0 q1 hi5
       go_wp2_with fail
       have hwz:w.heap.size<wc.heap.size:=hB.lt
       refine(QD ts (fun x=>x=okb\/w.heap.size<=x) wc a cap (by omega) hE2).mono ?_
       rintro e w4 ⟨v,css,rfl,hS,hU4⟩
       obtain⟨sa,sc,rfl,hsc,_⟩:=hS.cells
       have hM4:=Zo.start (okb:=okb) (lo:=w.heap.size) hS (fun b e=>.inl e)
       have hB4:=hB.kept hU4
       have hR4:=hRs.kept hU4
       have hO4:=hO1.kept hU4
       obtain⟨base,hbase⟩:∃ base,base=wc.heap.size:=⟨_,rfl⟩
       rw[<-hbase]at hM4 hwz
       have hb4:base<=w4.heap.size:=by rw[hbase];exact hU4.size
       have hb5:w.heap.size+1<base:=by rw[hbase];exact hRs.lt
       have hUw4:zD (fun x=>x=okb\/x=w.heap.size) w2 w4:=hUc.trans hU4 (fun _ _ e=>e.elim)
       obtain⟨z0,z1,z2,z3⟩:=hB4.cells
       obtain⟨v0,v1,v2,v3⟩:=hB4.zI
       clear hS hB hRs hO1 hE hE2 x0 x1 x2 x3 y0 y1 y2 y3 hbase hU4 hUc
       go_wp2_with fail
       obtain⟨w5,hw5⟩:∃ w5,w5=w4.setCell ⟨w.heap.size,3,none⟩ (.slice sa ts.length sc):=⟨_,rfl⟩
       have hset5:zD (fun x=>x=w.heap.size) w4 w5:=by rw[hw5];exact zD.set (zD.refl _ _) 3 _
       have hB5:zK w5 w.heap.size (.int .i64 k) (.string (B nm)) (.int .i64 i2) (.slice sa ts.length sc) 29:=by rw[hw5];exact hB4.Yt _
       have hR5:zK w5 (w.heap.size+1) (.int .i64 0) (.string (B [])) (.int .i64 0) (.slice none 0 0) 29:=hR4.zF hset5 (by omega)
       have hO5:=hO4.zF hset5 (by omega)
       have hUw5:zD (fun x=>x=okb) w w5:=(hU2.mono (fun _ _ e=>e.elim)).trans (hUw4.trans hset5 (fun _ _ e=>.inr e)) (fun x hx e=>e.elim id (fun e=>by omega))
       have hs5:=hset5.size
       have hM5:Zo okb w.heap.size base w5 sa [] ts:=hM4.zF hset5 (fun b e=>⟨.inr (by omega),by omega⟩)
       rw[<-hw5]
       clear hw5 hB4 hR4 hO4 hM4 hset5 hUw4 z0 z1 z2 z3 v0 v1 v2 v3
       go_loopw [54] (fun v54 wr=>∃(j:Nat)(us:List Tm)(o2:Bool),v54=.int .i64 j/\j<=ts.length/\us.length=j/\(Tm.xT f b k 0 (ts.take j)=true->us=Tm.ZA f b k 0 (ts.take j))/\Tm.zP us=Tm.zP (ts.take j)/\o2=(o1 && Tm.xT f b k 0 (ts.take j))/\Zo okb w.heap.size base wr sa us ts/\
           zK wr w.heap.size (.int .i64 k) (.string (B nm)) (.int .i64 i2) (.slice sa ts.length sc) 29/\zK wr (w.heap.size+1) (.int .i64 0) (.string (B [])) (.int .i64 0) (.slice none 0 0) 29/\
           yC wr okb (.bool o2) 4/\zD (fun x=>x=okb) w wr/\base<=wr.heap.size)
         (fun v54 _=>ts.length - (intOf v54).toNat)
       case atStart=>exact⟨0,[],o1,rfl,Nat.zero_le _,rfl,fun _=>by simp[Tm.ZA],by simp,by simp[Tm.xT],hM5,hB5,hR5,hO5,hUw5,by omega⟩
       case round=>
         obtain⟨j,us,o2,rfl,hj,huj,hus,hzs,ho2,hM,hB,hRr,hO2',hU,hbr⟩:=hrel
         obtain⟨x0,x1,x2,x3⟩:=hB.cells
         have qB:=hB.lt
         have hjb:(j:Int)<=100000:=by omega
         have hj0:(0:Int)<=(j:Int):=by omega
         have hTr:=hU.cell hT (by exact ht0)
         have hKr:=hU.cell hK (by exact hK0)
         have hU0r:zD zC w0 wr:=hU0.trans hU (fun x hx e=>by omega)
         have HS:=zH (And.intro huj (And.intro hus (And.intro hzs ho2)))
         clear huj hus hzs ho2
         by_cases hlt:j<ts.length
         ·obtain⟨g,cs,rfl,hgb,hgl,hgf,hgn,hgc,_,hgr⟩:=hM j hlt
          have hRj:=hgr hlt (by have:=HS.out.1;omega)
          obtain⟨kj,nj,ij,lj,aj,cj,htj,rfl,_,_⟩:=zX hRj
          have g0:=hgc 0 _ rfl
          rw[Nat.add_zero]at g0
          have g1:=hgc 1 _ rfl
          have g2:=hgc 2 _ rfl
          have g3:=hgc 3 _ rfl
          have hj1:(j:Int)<(ts.length:Int):=by omega
          have hsj:=Tm.zR (List.getElem_mem hlt)
          have hun:=Tm.ym k j
          have IH:=fun w'(h1:zM (fun x=>x=okb) w' (ts[j]'hlt).zN [.int .i64 kj,.string (B nj),.int .i64 ij,.slice aj lj.length cj])=>ih (ts[j]'hlt) (List.getElem_mem hlt) (by omega) (hoks _ (List.getElem_mem hlt)) (b+Tm.under k j) o2 w' _ (by omega) (by omega) h1
          have HLT:=zH (show j<ts.length from hlt)
          have HG:=zH (And.intro htj hgc)
          clear htj hgc hgr hgn
          have hgo2:¬g=okb:=by omega
          have hg1:w.heap.size≠g:=by omega
          have hg2:K≠g:=by omega
          have hg3:wr.heap.size≠g:=by omega
          generalize lj.length=ljl at *
          have rest:=YV k j
          generalize hu:Tm.under k j=u at *
          clear hun
          obtain⟨wa,hwa⟩:∃ wa,wa=wr.alloc (.cells #[.int .i64 kj,.string (B nj),.int .i64 ij,.slice aj ljl cj] 29):=⟨_,rfl⟩
          have hUa:zD zC wr wa.drew:=by rw[hwa];exact((zD.refl zC wr).alloc _).drew
          have hza:wa.drew.heap.size=wr.heap.size+1:=by rw[hwa];simp[World.drew]
          have hTc:Yn wr.heap.size (.int .i64 kj) (.string (B nj)) (.int .i64 ij) (.slice aj ljl cj) wa.drew:=by rw[hwa];exact Yn.zF (zK.zL (T:=29) rfl).cells (zD.refl zC _).drew (fun x=>x)
          have hgo:okb<base/\K<base:=by omega
          have S0:MvS w.heap.size K wr.heap.size (some ⟨g,0,none⟩) ts.length sc (.func (.func 184) #[] #[.pointer (some ⟨tob,0,none⟩),.pointer (some ⟨okb,0,none⟩),.pointer (some ⟨K,0,none⟩)]) (.int .i64 kj) (.string (B nj)) (.int .i64 ij) (.slice aj ljl cj) wa.drew:=⟨hUa.cell x3 (fun x=>x),hUa.cell hKr (fun x=>x),hTc⟩
          have hRd:=zM.weaken (O':=fun x=>x=okb) (fun b _ e=>.inl e) _ _ (hRj.on hUa)
          have IH2:=IH _ hRd (hU0r.and hUa) (hO2'.kept hUa) (hUa.cell hTr (fun x=>x)) (hUa.cell hKr (fun x=>x))
          have HWA:=zH hwa
          clear hwa IH hRd hRj hTc hTr
          rcases rest with⟨k3,rfl⟩|⟨k3,k2,j1,rfl⟩|⟨k3,k2,j1,rfl⟩|⟨k3,k2,rfl⟩
          all_goals
            have HU:=zH hu
            clear hu
            try simp only[Int.add_zero]at IH2
            go_wp2_with fail
            rw[<-HWA.out]
            go_region_held3 (fun w'=>MvS w.heap.size K wr.heap.size (some ⟨g,0,none⟩) ts.length sc (.func (.func 184) #[] #[.pointer (some ⟨tob,0,none⟩),.pointer (some ⟨okb,0,none⟩),.pointer (some ⟨K,0,none⟩)]) (.int .i64 kj) (.string (B nj)) (.int .i64 ij) (.slice aj ljl cj) w')
              (first |(with_reducible assumption)|(with_reducible exact S0)|(with_reducible exact MvS.set (MvS.set (MvS.set (MvS.set S6 hg1 hg2 hg3 _ _) hg1 hg2 hg3 _ _) hg1 hg2 hg3 _ _) hg1 hg2 hg3 _ _))
              ((go_at_call 184;refine IH2.mono ?_;rintro e w6 ⟨k6,i6,n6,a6,l6,c6,u6,rfl,hR6,hu6,hs6,hO6,hU6⟩;have S6:=S0.zF hU6 (by omega) (by omega) (by omega);have hU6':zD (fun x=>x=okb) wr w6:=(hUa.mono (fun _ _ e=>e.elim)).trans hU6 (fun _ _ e=>e);have v0:=hU6'.cell g0 (by exact hgo2);have v1:=hU6'.cell g1 (by exact hgo2);have v2:=hU6'.cell g2 (by exact hgo2);have v3:=hU6'.cell g3 (by exact hgo2);have f6:=fun o=>(hU6'.cells.2 g o hgl hgo2).trans (hgf o);have hz6:=hU6'.size))
          all_goals
            have hM6:=hM.zF hU6' (fun b e=>⟨.inl e,by omega⟩)
            have hnx:=Zo.next (u:=u6) (d0:=.int .i64 k6) (d1:=.string (B n6)) (d2:=.int .i64 i6) (d3:=.slice a6 l6 c6) hM6 (by have:=HS.out.1;have:=HLT.out;omega) (by omega) (zM.weaken (fun b _ e=>by omega) _ _ hR6) rfl
            rw[HS.out.1]at hnx
            have hB9:=(hB.zF hU6' (by omega)).zF hnx.2 (by omega)
            have hR9:=(hRr.zF hU6' (by omega)).zF hnx.2 (by omega)
            have hO9:=hO6.zF hnx.2 (by omega)
            have hU9:=(hU.trans hU6' (fun _ _ e=>e)).trans hnx.2 (fun x hx e=>by omega)
            have hz9:=hnx.2.size
            have n1:(us++[u6]).length=j+1:=by simp[HS.out.1]
            have n2:Tm.xT f b k 0 (ts.take (j+1))=true->us++[u6]=Tm.ZA f b k 0 (ts.take (j+1)):=by
              intro e
              rw[Tm.Yi _ _ _ _ _ hlt,HU.out,Bool.and_eq_true]at e
              rw[Tm.Xx _ _ _ _ _ hlt,HU.out,HS.out.2.1 e.1]
              try simp only[Int.add_zero]at e ⊢
              rw[hu6 e.2]
            have n3:Tm.zP (us++[u6])=Tm.zP (ts.take (j+1)):=by rw[Tm.xE,Tm.zl _ _ hlt,HS.out.2.2.1];simp[Tm.zP,hs6]
            have n4:=HS.out.2.2.2
            have n5:=Tm.Yi f b k ts j hlt
            rw[HU.out]at n5
            try simp only[Int.add_zero]at n5
            have HN:=zH (And.intro n1 (And.intro n2 (And.intro n3 (And.intro n4 n5))))
            clear n1 n2 n3 n4 n5 hu6 hs6
            go_wp2_with fail
            go_roundw
            case rel=>exact⟨j+1,us++[u6],_,by go_num,Nat.succ_le_of_lt HLT.out,HN.out.1,HN.out.2.1,HN.out.2.2.1,by rw[HN.out.2.2.2.1,HN.out.2.2.2.2,Bool.and_assoc],hnx.1,hB9,hR9,hO9,hU9,by omega⟩
            case measure=>(have:=HLT.out;simp[intOf];omega)
         ·obtain⟨r0,r1,r2,r3⟩:=hRr.cells
          obtain⟨rf0,rf1,rf2,rf3⟩:=hRr.zI
          have hjl:j=ts.length:=by omega
          have hrep:=hM.rep (by have:=HS.out.1;omega)
          have hjn:¬(j:Int)<(ts.length:Int):=by omega
          have HJ:=zH hjl
          clear hjl hM
          go_wp2_with fail
          obtain⟨w9,hw9⟩:∃ w9,w9=(((wr.setCell ⟨w.heap.size+1,0,none⟩ (.int .i64 k)).setCell ⟨w.heap.size+1,1,none⟩ (.string (B nm))).setCell ⟨w.heap.size+1,2,none⟩ (.int .i64 i2)).setCell ⟨w.heap.size+1,3,none⟩ (.slice sa ts.length sc):=⟨_,rfl⟩
          have hset9:=hRr.set (d0:=.int .i64 k) (d1:=.string (B nm)) (d2:=.int .i64 i2) (d3:=.slice sa ts.length sc)
          rw[<-hw9]at hset9
          rw[<-hw9]
          clear hw9
          obtain⟨e0,e1,e2,e3⟩:=hset9.1.cells
          refine bodyPost_ret (v:=.agg #[.int .i64 k,.string (B nm),.int .i64 i2,.slice sa ts.length sc]) ?_ rfl ?_
          ·simp[results,Tryz.f184,go_sem,e0,e1,e2,e3]
          ·have h1:=HS.out.1
           have h2:=HS.out.2.1
           have h3:=HS.out.2.2.1
           have h4:=HS.out.2.2.2
           rw[List.take_of_length_le (by have:=HJ.out;omega)]at h2 h3 h4
           have h5:us.length=ts.length:=by have:=HJ.out;omega
           refine⟨k,i2,nm,sa,ts.length,sc,.mk k nm i2 us,rfl,zk.2 ⟨sa,sc,by rw[h5],by rw[h5];exact hsc,?_⟩,fun e=>?_,by simp[h3],?_,hU.trans hset9.2 (fun x hx e=>by omega)⟩
           ·exact zG.weaken (fun b _ e=>by omega) _ _ _ _ (zG.zF hset9.2 (fun b e=>by omega) _ _ _ _ hrep)
           ·rw[Tm.Xg,Bool.and_eq_true]at e
            rw[Tm.x7,HI.out.1 e.1,h2 e.2]
           ·rw[Tm.Xg,<-Bool.and_assoc,<-HI.out.2,<-h4]
            exact hO2'.zF hset9.2 (by omega)
end
section
open Go.RowKit Go.LF
def zKR(f:Tm.To)(t:Tm)(w:World)(e:Ending)(w':World):Prop:=
  ∃(k i:Int)(n:List UInt8)(a:Option Addr)(len cap:Nat)(u:Tm),e=.returned (.tuple #[.agg #[.int .i64 k,.string (B n),.int .i64 i,.slice a len cap],.bool (t.xv f 0)])/\
   zM (fun x=>x<w.heap.size) w' u.zN [.int .i64 k,.string (B n),.int .i64 i,.slice a len cap]/\u=(if t.xv f 0 then t.mv f 0 else .mk 0 [] 0 [])/\u.size<=t.size/\zD zC w w'
theorem zG4(f:Tm.To)(F:FuncId)(caps:List Value)(t:Tm)(w:World)(cs:List Value)(hF:zEv w F caps f)(hFE:∀ args w,Sem.run Tryz.prog (callFunc F args) w=.ok (Next.enter F args) w)(hsz:t.size<=100000)
    (hok:∀ b,∀ x∈t.nodes b,x.ok) (h:zM zC w t.zN cs):Calls Tryz.prog 156 #[.agg cs.toArray,.func (.func F) #[] caps.toArray] w (zKR f t w):=by
  obtain⟨k,n,i,ts,a,cap,rfl,rfl,hcap,hE⟩:=zX h
  have hW:=fun okb tob K h1 h2 h3 w' h4 h5 h6 h7 h8=>zG3 f w okb tob K F caps hF hFE h1 h2 h3 (.mk k n i ts) hsz hok 0 true w' [.int .i64 k,.string (B n),.int .i64 i,.slice a ts.length cap] (by omega) (by omega) h4 h5 h6 h7 h8
  clear hF hok
  obtain⟨H,hH⟩:∃ H,H=w.heap.size:=⟨_,rfl⟩
  obtain⟨w3,hw3⟩:∃ w3,w3=((w.alloc (.cells #[.int .i64 k,.string (B n),.int .i64 i,.slice a ts.length cap] 29)).alloc (.cells #[.func (.func F) #[] caps.toArray] 172)).alloc (.cells #[.int .i64 0,.string (B []),.int .i64 0,.slice none 0 0] 29):=⟨_,rfl⟩
  obtain⟨w5,hw5⟩:∃ w5,w5=(w3.alloc (.cells #[.bool true] 4)).alloc (.cells #[.func (.func 184) #[] #[.pointer (some ⟨w.heap.size+1,0,none⟩),.pointer (some ⟨w.heap.size+1+1+1,0,none⟩),.pointer (some ⟨w.heap.size+1+1+1+1,0,none⟩)]] 106):=⟨_,rfl⟩
  have hz3:w3.heap.size=w.heap.size+1+1+1:=by rw[hw3];simp
  have hU3:zD zC w w3:=by rw[hw3];exact(((zD.refl zC w).alloc _).alloc _).alloc _
  have hU5:zD zC w3 w5:=by rw[hw5];exact((zD.refl zC w3).alloc _).alloc _
  have hUw:=hU3.and hU5
  have hT5:yC w5 (w.heap.size+1) (.func (.func F) #[] caps.toArray) 172:=by
    refine yC.kept ?_ hU5
    rw[hw3];exact(yC.zL (by simp)).kept ((zD.refl zC _).alloc _)
  have hr5:zK w5 (w.heap.size+1+1) (.int .i64 0) (.string (B [])) (.int .i64 0) (.slice none 0 0) 29:=by
    refine zK.kept ?_ hU5
    rw[hw3];exact zK.zL (by simp)
  have ht5:zK w5 w.heap.size (.int .i64 k) (.string (B n)) (.int .i64 i) (.slice a ts.length cap) 29:=by
    refine zK.kept ?_ hU5
    rw[hw3];exact((zK.zL rfl).kept ((zD.refl zC _).alloc _)).kept ((zD.refl zC _).alloc _)
  have hO5:yC w5 (w.heap.size+1+1+1) (.bool true) 4:=by rw[hw5];exact(yC.zL hz3).kept ((zD.refl zC _).alloc _)
  have hK5:yC w5 (w.heap.size+1+1+1+1) (.func (.func 184) #[] #[.pointer (some ⟨w.heap.size+1,0,none⟩),.pointer (some ⟨w.heap.size+1+1+1,0,none⟩),.pointer (some ⟨w.heap.size+1+1+1+1,0,none⟩)]) 106:=by rw[hw5];exact yC.zL (by simp[hz3])
  have hR5:zM (fun x=>x=w.heap.size+1+1+1) w5 (Tm.mk k n i ts).zN [.int .i64 k,.string (B n),.int .i64 i,.slice a ts.length cap]:=(zM.weaken (fun b _ e=>.inr (by omega)) _ _ (zM.zQ _ _ h)).on hUw
  have hWW:=hW (w.heap.size+1+1+1) (w.heap.size+1) (w.heap.size+1+1+1+1) (by omega) (by omega) (by omega) w5 hR5 hUw hO5 hT5.cell hK5.cell
  have hq5:=hO5.lt
  rw[hw3]at hw5
  have HW5:=zH hw5
  clear hW hw3 hw5 hU3 hU5 hR5 hE h hK5 hT5 hO5
  clear hz3 w3 hH
  go_enter Tryz.func156,Tryz.ntmps156
  go_wp2_with fail
  rw[<-show B []={ data:=#[] }from rfl,<-HW5.out]
  refine hWW.mono ?_
  rintro e w6 ⟨k6,i6,n6,a6,l6,c6,u,rfl,hR6,hu6,hs6,hO6,hU6⟩
  have hr6:=hr5.zF hU6 (by omega)
  have q0:=hO6.cell
  have q1:=hO6.lt
  obtain⟨x0,x1,x2,x3⟩:=hr6.cells
  obtain⟨y0,y1,y2,y3⟩:=hr6.zI
  have qr:=hr6.lt
  obtain⟨ok,hok⟩:∃ ok,ok=(Tm.mk k n i ts).xv f 0:=⟨_,rfl⟩
  rw[<-hok]at q0 hu6
  have HO:=zH (And.intro hok (And.intro hu6 hs6))
  clear hok hu6 hs6 hWW
  simp only[Bool.true_and]at q0
  have hUw6:zD zC w w6:=hUw.trans hU6 (fun x hx e=>by omega)
  have hUwz:=hUw.size
  cases ok
  ·go_wp2_with fail
   obtain⟨w9,hw9⟩:∃ w9,w9=((((w6.setCell ⟨w.heap.size+1+1,0,none⟩ (.int .i64 0)).setCell ⟨w.heap.size+1+1,1,none⟩ (.string (B []))).setCell ⟨w.heap.size+1+1,2,none⟩ (.int .i64 0)).setCell ⟨w.heap.size+1+1,3,none⟩ (.slice none 0 0)).alloc (.cells #[.int .i64 k6,.string (B n6),.int .i64 i6,.slice a6 l6 c6] 29):=⟨_,rfl⟩
   have hset:=hr6.set (d0:=.int .i64 0) (d1:=.string (B [])) (d2:=.int .i64 0) (d3:=.slice none 0 0)
   have hB9:zK w9 (w.heap.size+1+1) (.int .i64 0) (.string (B [])) (.int .i64 0) (.slice none 0 0) 29:=by rw[hw9];exact hset.1.kept ((zD.refl zC _).alloc _)
   have hU9:zD (fun x=>x=w.heap.size+1+1) w6 w9:=by rw[hw9];exact hset.2.alloc _
   rw[<-hw9]
   clear hw9 hset
   obtain⟨e0,e1,e2,e3⟩:=hB9.cells
   refine bodyPost_ret (v:=.tuple #[.agg #[.int .i64 0,.string (B []),.int .i64 0,.slice none 0 0],.bool false]) ?_ rfl ?_
   ·simp[results,Tryz.f156,go_sem,e0,e1,e2,e3]
   ·exact⟨0,0,[],none,0,0,.mk 0 [] 0 [],by rw[<-HO.out.1],ze _ _ _,by rw[<-HO.out.1];rfl,by simp[Tm.zP],hUw6.trans hU9 (fun x hx e=>by omega)⟩
  ·go_wp2_with fail
   obtain⟨w9,hw9⟩:∃ w9,w9=((((w6.setCell ⟨w.heap.size+1+1,0,none⟩ (.int .i64 k6)).setCell ⟨w.heap.size+1+1,1,none⟩ (.string (B n6))).setCell ⟨w.heap.size+1+1,2,none⟩ (.int .i64 i6)).setCell ⟨w.heap.size+1+1,3,none⟩ (.slice a6 l6 c6)).alloc (.cells #[.int .i64 k6,.string (B n6),.int .i64 i6,.slice a6 l6 c6] 29):=⟨_,rfl⟩
   have hset:=hr6.set (d0:=.int .i64 k6) (d1:=.string (B n6)) (d2:=.int .i64 i6) (d3:=.slice a6 l6 c6)
   have hB9:zK w9 (w.heap.size+1+1) (.int .i64 k6) (.string (B n6)) (.int .i64 i6) (.slice a6 l6 c6) 29:=by rw[hw9];exact hset.1.kept ((zD.refl zC _).alloc _)
   have hU9:zD (fun x=>x=w.heap.size+1+1) w6 w9:=by rw[hw9];exact hset.2.alloc _
   rw[<-hw9]
   clear hw9 hset
   obtain⟨e0,e1,e2,e3⟩:=hB9.cells
   refine bodyPost_ret (v:=.tuple #[.agg #[.int .i64 k6,.string (B n6),.int .i64 i6,.slice a6 l6 c6],.bool true]) ?_ rfl ?_
   ·simp[results,Tryz.f156,go_sem,e0,e1,e2,e3]
   ·exact⟨k6,i6,n6,a6,l6,c6,u,by rw[<-HO.out.1],zM.weaken (fun b _ e=>by omega) _ _ (zM.zF hU9 (fun b e=>by omega) _ _ hR6),by rw[<-HO.out.1];exact HO.out.2.1 trivial,by rw[HO.out.2.2];exact Nat.le_refl _,hUw6.trans hU9 (fun x hx e=>by omega)⟩
end
end Go.Proofs.YthgmimncdjhgnaaGreatDoor
namespace Go.LF.Tm
def yd(by' from':Int):To:=fun i=>if i<from' then(i,true)else(Go.RowKit.wrap64 (i+by'),decide (by'<=1048576))
def zAL(from' n:Int):To:=fun i=>if i<from' then(i,true)else(i - n,decide (n<=i - from'))
def zKJ(l:List Int):To:=fun i=>match l[i.toNat]? with |some n=>(n,true)|none=>(0,false)
def zero:Tm:=mk 0 [] 0 []
def yo(t:Tm)(by' from':Int):Int:=if t.wf≠0 then t.wf else if by'<0\/from'<0 then 5 else if xv (yd by' from') 0 t then 0 else 5
def xB(t:Tm)(by' from':Int):Tm:=if yo t by' from'=0 then mv (yd by' from') 0 t else zero
def zCG(t:Tm)(from' n:Int):Bool:=decide (0<=from') && (decide (0<=n) && (t.wf == 0 && xv (zAL from' n) 0 t))
def zH6(t:Tm)(from' n:Int):Tm:=if zCG t from' n then mv (zAL from' n) 0 t else zero
def zK2(t:Tm)(l:List Int):Bool:=t.wf == 0 && xv (zKJ l) 0 t
def zq(t:Tm)(l:List Int):Tm:=if zK2 t l then mv (zKJ l) 0 t else zero
end Go.LF.Tm
namespace Go.Proofs.YthgmimncdjhgnaaGreatDoor
open Go.RowKit Go.LF
def zD3(u:Tm)(r:Value)(w:World)(e:Ending)(w':World):Prop:=
  ∃(k i:Int)(n:List UInt8)(a:Option Addr)(len cap:Nat),e=.returned (.tuple #[.agg #[.int .i64 k,.string (B n),.int .i64 i,.slice a len cap],r])/\
   zM (fun x=>x<w.heap.size) w' u.zN [.int .i64 k,.string (B n),.int .i64 i,.slice a len cap]/\zD zC w w'
theorem zD3.on{u:Tm}{r:Value}{w W W':World}{e:Ending}(h:zD3 u r w e W)(hU:zD zC W W'):zD3 u r w e W':=by
  obtain⟨k,i,n,a,len,cap,h1,h2,h3⟩:=h
  exact⟨k,i,n,a,len,cap,h1,h2.on hU,h3.and hU⟩
theorem XY{w W W':World}{u:Tm}{r:Value}{k i:Int}{n:List UInt8}{a:Option Addr}{len cap hb:Nat}{T:TypeId}{z0 z1 z2 z3:Value}(hr:zK W hb z0 z1 z2 z3 T)(hlt:w.heap.size<=hb)(hU:zD zC w W)
    (hR:zM (fun x=>x<=hb) W u.zN [.int .i64 k,.string (B n),.int .i64 i,.slice a len cap])
    (hW:W'=(((W.setCell ⟨hb,0,none⟩ (.int .i64 k)).setCell ⟨hb,1,none⟩ (.string (B n))).setCell ⟨hb,2,none⟩ (.int .i64 i)).setCell ⟨hb,3,none⟩ (.slice a len cap)):
    zD3 u r w (.returned (.tuple #[.agg #[.int .i64 k,.string (B n),.int .i64 i,.slice a len cap],r])) W'/\zK W' hb (.int .i64 k) (.string (B n)) (.int .i64 i) (.slice a len cap) T:=by
  have hs:=hr.set (d0:=.int .i64 k) (d1:=.string (B n)) (d2:=.int .i64 i) (d3:=.slice a len cap)
  rw[<-hW]at hs
  exact⟨⟨k,i,n,a,len,cap,rfl,zM.weaken (fun b _ e=>Nat.le_of_lt (Nat.lt_of_lt_of_le e hlt)) _ _ (zM.zF hs.2 (fun b e=>Nat.le_of_eq e) _ _ hR),hU.trans hs.2 (fun b hb' e=>by omega)⟩,hs.1⟩
theorem zHm(w:World)(fb bb:Nat)(from' by':Int)(h1:w.cell? ⟨fb,0,none⟩=some (.int .i64 from'))(h2:w.cell? ⟨bb,0,none⟩=some (.int .i64 by')):
    zEv w 211 [.pointer (some ⟨fb,0,none⟩),.pointer (some ⟨bb,0,none⟩)] (Tm.yd by' from'):=by
  intro i W h0 hi hU
  have c1:=hU.cell h1 (fun x=>x)
  have c2:=hU.cell h2 (fun x=>x)
  by_cases hlt:i<from'
  ·have hf:Tm.yd by' from' i=(i,true):=by unfold Tm.yd;rw[if_pos hlt]
   rw[hf]
   clear hf h1 h2 hU
   go_enter Tryz.func211,Tryz.ntmps211
   go_wp2_with fail
   refine bodyPost_ret (v:=.tuple #[.int .i64 i,.bool true]) ?_ rfl ?_
   ·simp[results,Tryz.f211,go_sem]
   ·exact⟨rfl,zD.refl _ _⟩
  ·have hf:Tm.yd by' from' i=(Go.RowKit.wrap64 (i+by'),decide (by'<=1048576)):=by unfold Tm.yd;rw[if_neg hlt]
   rw[hf]
   clear hf h1 h2 hU
   go_enter Tryz.func211,Tryz.ntmps211
   go_wp2_with fail
   go_region
   all_goals
     go_wp2_with fail
     refine bodyPost_ret (v:=.tuple #[.int .i64 (Go.RowKit.wrap64 (i+by')),.bool (decide (by'<=1048576))]) ?_ rfl ?_
     ·simp[results,Tryz.f211,go_sem]
     ·exact⟨rfl,(zD.refl _ _).drew⟩
theorem zBy(t:Tm)(hs:t.wt<=1000000)(by' from':Int)(w:World)(cs:List Value)(h:zM zC w t.zN cs):
    Calls Tryz.prog 198 #[.agg cs.toArray,.int .i64 by',.int .i64 from'] w (zD3 (t.xB by' from') (.int .i64 (t.yo by' from')) w):=by
  have hwf:=Tm.zB2 t
  obtain⟨k,n,i,ts,a,cap,ht,rfl,hcap,hE⟩:=zX h
  obtain⟨w4,hw4⟩:∃ w4,w4=(((w.alloc (.cells #[.int .i64 k,.string (B n),.int .i64 i,.slice a ts.length cap] 29)).alloc (.cells #[.int .i64 by'] 3)).alloc (.cells #[.int .i64 from'] 3)).alloc (.cells #[.int .i64 0,.string (B []),.int .i64 0,.slice none 0 0] 29):=⟨_,rfl⟩
  have hU4:zD zC w w4:=by rw[hw4];exact((((zD.refl zC w).alloc _).alloc _).alloc _).alloc _
  have ht4:zK w4 w.heap.size (.int .i64 k) (.string (B n)) (.int .i64 i) (.slice a ts.length cap) 29:=by
    rw[hw4];exact(((zK.zL rfl).kept ((zD.refl zC _).alloc _)).kept ((zD.refl zC _).alloc _)).kept ((zD.refl zC _).alloc _)
  have hb4:yC w4 (w.heap.size+1) (.int .i64 by') 3:=by rw[hw4];exact((yC.zL (by simp)).kept ((zD.refl zC _).alloc _)).kept ((zD.refl zC _).alloc _)
  have hf4:yC w4 (w.heap.size+1+1) (.int .i64 from') 3:=by rw[hw4];exact(yC.zL (by simp)).kept ((zD.refl zC _).alloc _)
  have hr4:zK w4 (w.heap.size+1+1+1) (.int .i64 0) (.string (B [])) (.int .i64 0) (.slice none 0 0) 29:=by rw[hw4];exact zK.zL (by simp)
  have h4:=h.on hU4
  have HW4:=zH hw4
  have HT:=zH ht
  obtain⟨x0,x1,x2,x3⟩:=ht4.cells
  clear hw4 ht hE h
  go_enter Tryz.func198,Tryz.ntmps198
  go_wp2_with fail
  rw[<-show B []={ data:=#[] }from rfl,<-HW4.out]
  refine(yX t hs w4 _ h4).mono ?_
  rintro e w5 ⟨rfl,hU5⟩
  have ht5:=ht4.kept hU5
  have hb5:=hb4.kept hU5
  have hf5:=hf4.kept hU5
  have hr5:=hr4.kept hU5
  have h5:=h4.on hU5
  have hUw5:=hU4.and hU5
  clear x0 x1 x2 x3 ht4 hb4 hf4 hr4 h4 hU4 hU5
  obtain⟨x0,x1,x2,x3⟩:=ht5.cells
  obtain⟨y0,y1,y2,y3⟩:=hr5.cells
  obtain⟨z0,z1,z2,z3⟩:=hr5.zI
  have b0:=hb5.cell
  have f0:=hf5.cell
  have q0:=hr5.lt
  obtain⟨wf,hwf0⟩:∃ wf,wf=t.wf:=⟨_,rfl⟩
  rw[<-hwf0]at hwf ⊢
  have HWF:=zH hwf0
  clear hwf0
  by_cases h0:wf=0
  case neg=>
    have hE:t.yo by' from'=wf:=by unfold Tm.yo;rw[<-HWF.out,if_pos h0]
    have hT:t.xB by' from'=.mk 0 [] 0 []:=by unfold Tm.xB;rw[hE,if_neg h0];rfl
    have hwn:(wf !=0)=true:=by simp[h0]
    have HEE:=zH (And.intro hE hT)
    clear hE hT hwf h0
    go_wp2_with fail
    obtain⟨w8,hw8⟩:∃ w8,w8=(((w5.setCell ⟨w.heap.size+1+1+1,0,none⟩ (.int .i64 0)).setCell ⟨w.heap.size+1+1+1,1,none⟩ (.string (B []))).setCell ⟨w.heap.size+1+1+1,2,none⟩ (.int .i64 0)).setCell ⟨w.heap.size+1+1+1,3,none⟩ (.slice none 0 0):=⟨_,rfl⟩
    obtain⟨hG,hB9⟩:=XY (r:=.int .i64 wf) hr5 (by omega) hUw5 (ze (k:=0) (n:=[]) (i:=0)) hw8
    try rw[<-show B []={ data:=#[] }from rfl]
    rw[<-hw8]
    clear hw8
    obtain⟨e0,e1,e2,e3⟩:=hB9.cells
    refine bodyPost_ret (v:=.tuple #[.agg #[.int .i64 0,.string (B []),.int .i64 0,.slice none 0 0],.int .i64 wf]) ?_ rfl ?_
    ·simp[results,Tryz.f198,go_sem,e0,e1,e2,e3]
    ·rw[HEE.out.1,HEE.out.2];exact hG
  case pos=>
    subst h0
    obtain⟨hok,hsz,_⟩:=hwf rfl
    have hSE:t.yo by' from'=if by'<0\/from'<0 then 5 else if Tm.xv (Tm.yd by' from') 0 t then 0 else 5:=by unfold Tm.yo;rw[<-HWF.out,if_neg (by omega)]
    have HSE:=zH hSE
    have hTS:=zHm w5 (w.heap.size+1+1) (w.heap.size+1) from' by' f0 b0
    have HM:=fun h=>zG4 (Tm.yd by' from') 211 _ t w5 [.int .i64 k,.string (B n),.int .i64 i,.slice a ts.length cap] hTS (fun _ _=>by simp only[go_sem,Tryz.call211]) (by omega) hok h
    have HM2:=HM h5
    clear hSE hwf hok hsz HM hTS
    have hways:by'<0\/(0<=by'/\from'<0)\/(0<=by'/\0<=from'):=by omega
    rcases hways with g1 |⟨g1,g2⟩|⟨g1,g2⟩
    case' inl=>have hE:t.yo by' from'=5:=by rw[HSE.out,if_pos (.inl g1)]
    case' inr.inl=>have hE:t.yo by' from'=5:=by rw[HSE.out,if_pos (.inr g2)]
    case' inr.inr=>
      have hE:t.yo by' from'=if Tm.xv (Tm.yd by' from') 0 t then 0 else 5:=by rw[HSE.out,if_neg (by omega)]
      have HE:=zH hE
      clear hE
      go_wp2_with fail
      refine HM2.mono ?_
      rintro e w6 ⟨k6,i6,n6,a6,l6,c6,u,rfl,hR6,hu6,hs6,hU6⟩
      have hr6:=hr5.kept hU6
      have hUw6:=hUw5.and hU6
      have hR7:=zM.weaken (O':=fun x=>x<=w.heap.size+1+1+1) (fun b _ e=>by omega) _ _ hR6
      clear y0 y1 y2 y3 z0 z1 z2 z3 HM2
      obtain⟨y0,y1,y2,y3⟩:=hr6.cells
      obtain⟨z0,z1,z2,z3⟩:=hr6.zI
      have q6:=hr6.lt
      obtain⟨ok,hok⟩:∃ ok,ok=t.xv (Tm.yd by' from') 0:=⟨_,rfl⟩
      rw[<-hok]at hu6 ⊢
      have HO:=zH (And.intro hok hu6)
      clear hok hu6
      cases ok
    all_goals first
      |(have hT:t.xB by' from'=.mk 0 [] 0 []:=by unfold Tm.xB;rw[hE];rfl
        have HEE:=zH (And.intro hE hT)
        clear hE hT HM2
        go_wp2_with fail
        obtain⟨w8,hw8⟩:∃ w8,w8=(((w5.setCell ⟨w.heap.size+1+1+1,0,none⟩ (.int .i64 0)).setCell ⟨w.heap.size+1+1+1,1,none⟩ (.string (B []))).setCell ⟨w.heap.size+1+1+1,2,none⟩ (.int .i64 0)).setCell ⟨w.heap.size+1+1+1,3,none⟩ (.slice none 0 0):=⟨_,rfl⟩
        obtain⟨hG,hB9⟩:=XY (r:=.int .i64 5) hr5 (by omega) hUw5 (ze (k:=0) (n:=[]) (i:=0)) hw8
        try rw[<-show B []={ data:=#[] }from rfl]
        rw[<-hw8]
        clear hw8
        obtain⟨e0,e1,e2,e3⟩:=hB9.cells
        refine bodyPost_ret (v:=.tuple #[.agg #[.int .i64 0,.string (B []),.int .i64 0,.slice none 0 0],.int .i64 5]) ?_ rfl ?_
        ·simp[results,Tryz.f198,go_sem,e0,e1,e2,e3]
        ·rw[HEE.out.1,HEE.out.2];exact hG)
      |skip
    case false=>
      have hE:t.yo by' from'=5:=by rw[HE.out,<-HO.out.1];rfl
      have hT:t.xB by' from'=.mk 0 [] 0 []:=by unfold Tm.xB;rw[hE];rfl
      have HEE:=zH (And.intro hE hT)
      clear hE hT
      go_wp2_with fail
      obtain⟨w8,hw8⟩:∃ w8,w8=(((w6.setCell ⟨w.heap.size+1+1+1,0,none⟩ (.int .i64 0)).setCell ⟨w.heap.size+1+1+1,1,none⟩ (.string (B []))).setCell ⟨w.heap.size+1+1+1,2,none⟩ (.int .i64 0)).setCell ⟨w.heap.size+1+1+1,3,none⟩ (.slice none 0 0):=⟨_,rfl⟩
      obtain⟨hG,hB9⟩:=XY (r:=.int .i64 5) hr6 (by omega) hUw6 (ze (k:=0) (n:=[]) (i:=0)) hw8
      obtain⟨w9,hw9⟩:∃ w9,w9=w8.alloc (.cells #[.int .i64 k6,.string (B n6),.int .i64 i6,.slice a6 l6 c6] 29):=⟨_,rfl⟩
      replace hG:=hG.on (W':=w9) (by rw[hw9];exact(zD.refl zC w8).alloc _)
      replace hB9:=hB9.kept (W':=w9) (by rw[hw9];exact(zD.refl zC w8).alloc _)
      rw[hw8]at hw9
      try rw[<-show B []={ data:=#[] }from rfl]
      rw[<-hw9]
      clear hw9 hw8
      obtain⟨e0,e1,e2,e3⟩:=hB9.cells
      refine bodyPost_ret (v:=.tuple #[.agg #[.int .i64 0,.string (B []),.int .i64 0,.slice none 0 0],.int .i64 5]) ?_ rfl ?_
      ·simp[results,Tryz.f198,go_sem,e0,e1,e2,e3]
      ·rw[HEE.out.1,HEE.out.2];exact hG
    case true=>
      have hE:t.yo by' from'=0:=by rw[HE.out,<-HO.out.1];rfl
      have hT:t.xB by' from'=u:=by unfold Tm.xB;rw[hE,HO.out.2];rfl
      have HEE:=zH (And.intro hE hT)
      clear hE hT
      go_wp2_with fail
      obtain⟨w8,hw8⟩:∃ w8,w8=(((w6.setCell ⟨w.heap.size+1+1+1,0,none⟩ (.int .i64 k6)).setCell ⟨w.heap.size+1+1+1,1,none⟩ (.string (B n6))).setCell ⟨w.heap.size+1+1+1,2,none⟩ (.int .i64 i6)).setCell ⟨w.heap.size+1+1+1,3,none⟩ (.slice a6 l6 c6):=⟨_,rfl⟩
      obtain⟨hG,hB9⟩:=XY (r:=.int .i64 0) hr6 (by omega) hUw6 hR7 hw8
      obtain⟨w9,hw9⟩:∃ w9,w9=w8.alloc (.cells #[.int .i64 k6,.string (B n6),.int .i64 i6,.slice a6 l6 c6] 29):=⟨_,rfl⟩
      replace hG:=hG.on (W':=w9) (by rw[hw9];exact(zD.refl zC w8).alloc _)
      replace hB9:=hB9.kept (W':=w9) (by rw[hw9];exact(zD.refl zC w8).alloc _)
      rw[hw8]at hw9
      try rw[<-show B []={ data:=#[] }from rfl]
      rw[<-hw9]
      clear hw9 hw8
      obtain⟨e0,e1,e2,e3⟩:=hB9.cells
      refine bodyPost_ret (v:=.tuple #[.agg #[.int .i64 k6,.string (B n6),.int .i64 i6,.slice a6 l6 c6],.int .i64 0]) ?_ rfl ?_
      ·simp[results,Tryz.f198,go_sem,e0,e1,e2,e3]
      ·rw[HEE.out.1,HEE.out.2];exact hG
end Go.Proofs.YthgmimncdjhgnaaGreatDoor
namespace Go.LF.Tm
def ZY(by' from':Int):To:=fun v=>(if v<from' then v else v+by',true)
end Go.LF.Tm
namespace Go.Proofs.YthgmimncdjhgnaaGreatDoor
open Go.RowKit Go.LF
def zB6(u:Tm)(w:World)(e:Ending)(w':World):Prop:=
  ∃(k i:Int)(n:List UInt8)(a:Option Addr)(len cap:Nat),e=.returned (.agg #[.int .i64 k,.string (B n),.int .i64 i,.slice a len cap])/\
   zM (fun x=>x<w.heap.size) w' u.zN [.int .i64 k,.string (B n),.int .i64 i,.slice a len cap]/\zD zC w w'
theorem zDR{base H:Nat}{w wr w5 w6 w7:World}{v r0 r1 r2 r3 t0 t1 t2 t3:Value}{us:List Tm}{css:List (List Value)}{u:Tm}{k mi k1 i1:Int}{nm n1:List UInt8}{a1:Option Addr}{len1 cap1 g cap':Nat}
    (hts:xD base wr v us css) (hout:zK wr (H+1+1) (.int .i64 k) (.string (B nm)) (.int .i64 mi) v 29) (htb:zK wr H t0 t1 t2 t3 29) (hrb:zK wr (H+1) r0 r1 r2 r3 29) (hU:zD zC w wr) (hw:w.heap.size=H) (hbase:H+1+1<base) (hbr:base<=wr.heap.size)
    (hU6':zD zC wr w6) (h5:wr.heap.size<=w5.heap.size) (hR6:zM (fun x=>x<w5.heap.size) w6 u.zN [.int .i64 k1,.string (B n1),.int .i64 i1,.slice a1 len1 cap1])
    (hown:w7.ownsRow base 29 4 (.slice (some ⟨g,0,none⟩) (us.length+1) cap') (us.length+1) (css.flatten++[.int .i64 k1,.string (B n1),.int .i64 i1,.slice a1 len1 cap1])) (hgrow:(w6.alloc (.cells #[.int .i64 k1,.string (B n1),.int .i64 i1,.slice a1 len1 cap1] 29)).grownBy w7 v.ownBlock)
    (hat:v.ownBlock=some g\/g=(w6.alloc (.cells #[.int .i64 k1,.string (B n1),.int .i64 i1,.slice a1 len1 cap1] 29)).heap.size):
    ∃(v':Value)(css':List (List Value)),xD base (w7.setCell ⟨H+1+1,3,none⟩ (.slice (some ⟨g,0,none⟩) (us.length+1) cap')) v' (us++[u]) css'/\
     zK (w7.setCell ⟨H+1+1,3,none⟩ (.slice (some ⟨g,0,none⟩) (us.length+1) cap')) (H+1+1) (.int .i64 k) (.string (B nm)) (.int .i64 mi) v' 29/\
     zK (w7.setCell ⟨H+1+1,3,none⟩ (.slice (some ⟨g,0,none⟩) (us.length+1) cap')) H t0 t1 t2 t3 29/\zK (w7.setCell ⟨H+1+1,3,none⟩ (.slice (some ⟨g,0,none⟩) (us.length+1) cap')) (H+1) r0 r1 r2 r3 29/\
     zD zC w (w7.setCell ⟨H+1+1,3,none⟩ (.slice (some ⟨g,0,none⟩) (us.length+1) cap'))/\base<=(w7.setCell ⟨H+1+1,3,none⟩ (.slice (some ⟨g,0,none⟩) (us.length+1) cap')).heap.size:=by
  have hal:zD zC w6 (w6.alloc (.cells #[.int .i64 k1,.string (B n1),.int .i64 i1,.slice a1 len1 cap1] 29)):=(zD.refl zC w6).alloc _
  have hup:=hU6'.and hal
  have hts6':=hts.on hup
  have hou7:=(hout.kept hup).row hgrow hts6' (by omega)
  have hR6':zM (fun b=>b<base\/v.ownBlock=some b) (w6.alloc (.cells #[.int .i64 k1,.string (B n1),.int .i64 i1,.slice a1 len1 cap1] 29)) u.zN [.int .i64 k1,.string (B n1),.int .i64 i1,.slice a1 len1 cap1]:=by
    refine(zM.weaken (fun b _ e=>?_) _ _ hR6).new _
    rcases e with e |e
    ·omega
    ·have:=(hts.2.2.1.lt b e).2;omega
  have hT7:=hts6'.appended rfl hR6' hown hgrow hat (Nat.le_refl _)
  have hset7:zD (fun b=>b=H+1+1) w7 (w7.setCell ⟨H+1+1,3,none⟩ (.slice (some ⟨g,0,none⟩) (us.length+1) cap')):=zD.set (zD.refl _ _) 3 _
  have hrow7:=zD.ofRow (yH.grown hts6'.2.2.1 hgrow)
  have htb7:=((htb.kept hup).zF hrow7 (by omega)).zF hset7 (by omega)
  have hrb7:=((hrb.kept hup).zF hrow7 (by omega)).zF hset7 (by omega)
  have hU7:=((hU.and hup).trans hrow7 (fun b hb e=>by omega)).trans hset7 (fun b hb e=>by omega)
  have hs1:=hset7.size
  have hs2:=hrow7.size
  have hs3:=hup.size
  exact⟨_,_,hT7.zF hset7 (fun b e=>by omega),hou7.Yt _,htb7,hrb7,hU7,by omega⟩
theorem zDp(by' from':Int)(hb0:0<=by')(hb1:by'<=1048576)(hf0:0<=from')(hf1:from'<=1048576)(t:Tm):t.size<=100000->(∀ b,∀ x∈t.nodes b,x.ok)->∀(b F:Int)(w:World)(cs:List Value),0<=b->b+t.size<=1000000->F=from'+b->
    zM zC w t.zN cs->Calls Tryz.prog 145 #[.agg cs.toArray,.int .i64 by',.int .i64 F] w (zB6 (t.mv (Tm.ZY by' from') b) w):=by
  induction t using Tm.ind with
  |h k nm i ts ih=>
   intro hsz hok b F w cs h0 h1 hFF hR
   obtain⟨a,cap,rfl,hcap,hE⟩:=zk.1 hR
   have hlen:=Tm.zO ts
   simp only[Tm.zS]at hsz h1
   have hoks:=Tm.zFd hok
   have hno:=hok b
   rw[Tm.zg]at hno
   have hi5:k=5->0<=i/\i<=1048576:=fun e=>(hno _ (List.mem_cons_self ..)).1 (by simp[e])
   obtain⟨i0,hi,hi0,hi1,hi2⟩:=info_parts yZ
   obtain⟨w2,hw2⟩:∃ w2,w2=((w.alloc (.cells #[.int .i64 k,.string (B nm),.int .i64 i,.slice a ts.length cap] 29)).alloc (.cells #[.int .i64 0,.string (B []),.int .i64 0,.slice none 0 0] 29)).alloc (.cells #[.int .i64 k,.string (B nm),.int .i64 i,.slice none 0 0] 29):=⟨_,rfl⟩
   have hU2:zD zC w w2:=by rw[hw2];exact(((zD.refl zC w).alloc _).alloc _).alloc _
   have ht2:zK w2 w.heap.size (.int .i64 k) (.string (B nm)) (.int .i64 i) (.slice a ts.length cap) 29:=by rw[hw2];exact((zK.zL rfl).kept ((zD.refl zC _).alloc _)).kept ((zD.refl zC _).alloc _)
   have hr2:zK w2 (w.heap.size+1) (.int .i64 0) (.string (B [])) (.int .i64 0) (.slice none 0 0) 29:=by rw[hw2];exact(zK.zL (by simp)).kept ((zD.refl zC _).alloc _)
   have ho2:zK w2 (w.heap.size+1+1) (.int .i64 k) (.string (B nm)) (.int .i64 i) (.slice none 0 0) 29:=by rw[hw2];exact zK.zL (by simp)
   obtain⟨t0,t1,t2,t3⟩:=ht2.cells
   obtain⟨o0,o1,o2,o3⟩:=ho2.cells
   obtain⟨f0,f1,f2,f3⟩:=ho2.zI
   have hz2:=ho2.lt
   have HW2:=zH hw2
   have HW:=zH (And.intro hsz h1)
   obtain⟨c24,hc24⟩:∃ c,c=(k == 5 && decide (F<=i)):=⟨_,rfl⟩
   have hways:((k == 5)=true/\F<=i)\/((k == 5)=true/\i<F)\/(k == 5)=false:=by
     by_cases h:k=5
     ·by_cases h':F<=i
      ·exact .inl ⟨by simp[h],h'⟩
      ·exact .inr (.inl ⟨by simp[h],by omega⟩)
     ·exact .inr (.inr (by simp[h]))
   have HC:=zH hc24
   have HY:=zH hways
   have hF0:0<=F:=by omega
   have hF1:F<=3000000:=by omega
   have HFF:=zH hFF
   clear hw2 hR hno hok hc24 hways hFF
   go_enter Tryz.func145,Tryz.ntmps145
   go_upto_region 2 with fail
   rw[<-HW2.out]
   go_cut [24]from 9 to 24 (fun v24 wx=>v24=.bool c24/\w2=wx)
   case first=>
     rcases HY.out with⟨h5,hbi⟩|⟨h5,hbi⟩|h5
     all_goals
       go_wp2_with fail
       go_meet
       case rel=>exact⟨by rw[HC.out];simp[h5]<;>omega,rfl⟩
   case rest=>
     obtain⟨rfl,rfl⟩:=hcut
     go_upto_if 24 with fail
     go_cut []from 9 to 29 (fun wc=>zK wc w.heap.size (.int .i64 k) (.string (B nm)) (.int .i64 i) (.slice a ts.length cap) 29/\zK wc (w.heap.size+1) (.int .i64 0) (.string (B [])) (.int .i64 0) (.slice none 0 0) 29/\
       zK wc (w.heap.size+1+1) (.int .i64 k) (.string (B nm)) (.int .i64 (Tm.Z1 (Tm.ZY by' from') b k i)) (.slice none 0 0) 29/\zD zC w wc)
     case first=>
       cases c24
       ·go_wp2_with fail
        go_meet
        case rel=>
          have hc:=HC.out
          have e:Tm.Z1 (Tm.ZY by' from') b k i=i:=by
            unfold Tm.Z1
            by_cases hk:k=5/\b<=i
            ·rw[if_pos hk]
             have hn:¬F<=i:=fun e=>by simp[hk.1,e]at hc
             unfold Tm.ZY
             have:=HFF.out
             simp only
             rw[if_pos (by omega)]
             omega
            ·rw[if_neg hk]
          exact⟨ht2,hr2,by rw[e];exact ho2,hU2⟩
       ·have hki:k=5/\F<=i:=by have:=HC.out;simpa using this.symm
        obtain⟨hk5,hbi⟩:=hki
        have hi6:=hi5 hk5
        have e:Tm.Z1 (Tm.ZY by' from') b k i=i+by':=by
          have:=HFF.out
          unfold Tm.Z1
          rw[if_pos ⟨hk5,by omega⟩]
          unfold Tm.ZY
          simp only
          rw[if_neg (by omega)]
          omega
        have HEe:=zH e
        clear e hi5 hk5
        go_wp2_with fail
        go_meet
        case rel=>exact⟨ht2.other (by omega) _,hr2.other (by omega) _,by rw[HEe.out];exact ho2.Yq _,hU2.trans (zD.set (zD.refl _ _) 2 _) (fun x hx e=>by omega)⟩
     case rest=>
       obtain⟨htp,hrp,hop,hUp⟩:=hcut
       clear t0 t1 t2 t3 o0 o1 o2 o3 f0 f1 f2 f3 ht2 hr2 ho2 hU2 hi5
       obtain⟨mi,hmi⟩:∃ mi,mi=Tm.Z1 (Tm.ZY by' from') b k i:=⟨_,rfl⟩
       rw[<-hmi]at hop
       have HMI:=zH hmi
       have hbase:w.heap.size+1+1<wc.heap.size:=hop.lt
       obtain⟨wp,rfl⟩:∃ wp,wp=wc:=⟨_,rfl⟩
       clear hmi
       go_wp2_with fail
       go_loopw [8] (fun v8 wr=>∃(j:Nat)(v:Value)(css:List (List Value)),v8=.int .i64 j/\j<=ts.length/\xD wp.heap.size wr v (Tm.ZA (Tm.ZY by' from') b k 0 (ts.take j)) css/\
           zK wr (w.heap.size+1+1) (.int .i64 k) (.string (B nm)) (.int .i64 mi) v 29/\zK wr w.heap.size (.int .i64 k) (.string (B nm)) (.int .i64 i) (.slice a ts.length cap) 29/\
           zK wr (w.heap.size+1) (.int .i64 0) (.string (B [])) (.int .i64 0) (.slice none 0 0) 29/\zD zC w wr/\wp.heap.size<=wr.heap.size)
         (fun v8 _=>ts.length - (intOf v8).toNat)
       case atStart=>exact⟨0,_,[],rfl,Nat.zero_le _,by simp only[List.take_zero,Tm.ZA];exact xD.nil _ _,hop,htp,hrp,hUp,Nat.le_refl _⟩
       case round=>
         obtain⟨j,v,css,rfl,hj,hts,hout,htb,hrb,hU,hbr⟩:=hrel
         obtain⟨b0,b1,b2,b3⟩:=hout.cells
         obtain⟨f0,f1,f2,f3⟩:=hout.zI
         obtain⟨t0,t1,t2,t3⟩:=htb.cells
         have qo:=hout.lt
         have hj0:(0:Int)<=(j:Int):=by omega
         have hjb:(j:Int)<=100000:=by omega
         by_cases hlt:j<ts.length
         ·obtain⟨eb,eo,ek,en,ex,es,ec,rfl,hebl,_,p0,p1,p2,p3,hRp⟩:=zd (hE.on hU) j hlt
          have hsz1:=Tm.zR (List.getElem_mem hlt)
          obtain⟨hu0,hu1⟩:=Tm.ym k j
          have hj1:(j:Int)<(ts.length:Int):=by omega
          have hd:zD zC wr wr.drew:=(zD.refl zC wr).drew
          have H2:=fun w'(hU:zD zC wr w')=>(QR k j j rfl nm i (.slice (some ⟨eb,eo,none⟩) ts.length cap) w').mono fun _ _ ⟨he,hV⟩=>(⟨he,hU.and hV⟩:_/\zD zC wr _)
          have IH:=fun(z:Int)w'(hz:z=F+Tm.under k j)(hU:zD zC wr w')=>ih (ts[j]'hlt) (List.getElem_mem hlt) (by omega) (hoks _ (List.getElem_mem hlt)) (b+Tm.under k j) z w' _ (by omega) (by omega) (by have:=HFF.out;omega) (hRp.on hU)
          obtain⟨us,hus⟩:∃ us,us=Tm.ZA (Tm.ZY by' from') b k 0 (ts.take j):=⟨_,rfl⟩
          obtain⟨u,hu⟩:∃ u,u=(ts[j]'hlt).mv (Tm.ZY by' from') (b+Tm.under k j):=⟨_,rfl⟩
          have hul:us.length=j:=by rw[hus,Tm.Zv,List.length_take];omega
          have hsucc:us++[u]=Tm.ZA (Tm.ZY by' from') b k 0 (ts.take (j+1)):=by rw[Tm.Xx _ _ _ _ _ hlt,<-hus,<-hu]
          rw[<-hus]at hts
          rw[<-hu]at IH
          have HS:=zH (And.intro hul hsucc)
          have hul6:us.length<=1000000:=by omega
          have HLT:=zH (show j<ts.length from hlt)
          have hzw:IntKind.i64.wrap (F+Tm.under k j)=F+Tm.under k j:=Go.IntWalk.i64_in _ (by omega)
          clear hul hsucc hus hu ih
          generalize Tm.under k j=ud at *
          generalize (ts[j]'hlt).args.length=el at *
          go_wp2_with fail
          go_region_law (first
            |((rw[if_pos (by rfl)]);go_simp;(go_at_call 136);refine(H2 _ hd).mono ?_;rintro e w5 ⟨rfl,hU5⟩;have hout5:=hout.kept hU5;have htb5:=htb.kept hU5;have q5:=hout5.lt;have c5:=hout5.cells.2.2.2;have z5:=hout5.frozen 3;have y5:=htb5.cells.2.2.2;have ss5:=hU5.size;have p05:=hU5.cell p0 (fun x=>x);have p15:=hU5.cell p1 (fun x=>x);have p25:=hU5.cell p2 (fun x=>x);have p35:=hU5.cell p3 (fun x=>x))
            |((rw[if_pos (by rfl)]);go_simp;(go_at_call 145);refine(IH _ _ (by first |rfl |omega) hU5).mono ?_;rintro e w6 ⟨k1,i1,n1,a1,len1,cap1,rfl,hR6,hU6⟩;have hU6':zD zC wr w6:=hU5.and hU6;have hout6:=hout.kept hU6';have htb6:=htb.kept hU6';have q6:=hout6.lt;have c6:=hout6.cells.2.2.2;have z6:=hout6.frozen 3;have y6:=htb6.cells.2.2.2;have ss6:=hU6'.size;have hts6:=hts.on hU6')
            |(refine step_append_lies _ (by rfl) _ _ 26 (by rfl) wp.heap.size 29 i0 (.agg #[.int .i64 0,.string (B []),.int .i64 0,.slice none 0 0]) 4 56 (by kernel_rfl) hi hi0 hi1 hi2 rfl (by decide) v us.length css.flatten (by rfl) ((hts6.on ((zD.refl zC w6).alloc _)).2.2.1) ⟨w6.heap.size,0,none⟩ 1 1 [.int .i64 k1,.string (B n1),.int .i64 i1,.slice a1 len1 cap1] (by rfl) rfl (World.news_of_block (heap_alloc_new w6 _)) (by simp[Value.oneCell']) (by omega) (by simp only[maxLen];omega) (by omega) (by simp;omega) _ rfl ?_;intro g cap' w7 hown hgrow hat hlt7;have hout7:=(hout6.kept ((zD.refl zC w6).alloc _)).row hgrow (hts6.on ((zD.refl zC w6).alloc _)) (by omega);have c7:=hout7.cells.2.2.2;have z7:=hout7.frozen 3))
          all_goals
            obtain⟨v',css',hT7,hou8,htb8,hrb8,hU8,hsz8⟩:=zDR hts hout htb hrb hU rfl hbase hbr hU6' ss5 hR6 hown hgrow hat
            rw[HS.out.2]at hT7
            have HT7:=zH hT7
            clear hT7
            go_wp2_with fail
            go_roundw
            case rel=>exact⟨j+1,_,_,by go_num,Nat.succ_le_of_lt HLT.out,HT7.out,hou8,htb8,hrb8,hU8,hsz8⟩
            case measure=>(have:=HLT.out;simp[intOf];omega)
         ·obtain⟨us,hus⟩:∃ us,us=Tm.ZA (Tm.ZY by' from') b k 0 (ts.take j):=⟨_,rfl⟩
          rw[<-hus]at hts
          obtain⟨s0,s1,s2,s3⟩:=hrb.cells
          obtain⟨g0,g1,g2,g3⟩:=hrb.zI
          have qr:=hrb.lt
          have hjl:j=ts.length:=by omega
          have hjn:¬(j:Int)<(ts.length:Int):=by omega
          obtain⟨a9,cap9,rfl,hcap9,hE9⟩:=hts.rep
          obtain⟨len,hlen9⟩:∃ len,len=us.length:=⟨_,rfl⟩
          rw[<-hlen9]at hout hcap9 b3
          have hfin:Tm.mv (Tm.ZY by' from') b (.mk k nm i ts)=.mk k nm mi us:=by
            rw[List.take_of_length_le (by omega)]at hus
            rw[Tm.x7,<-HMI.out,<-hus]
          have HL:=zH hlen9
          have HFI:=zH hfin
          have hRr:zM (fun x=>x<=w.heap.size+1) wr (Tm.mk k nm mi us).zN [.int .i64 k,.string (B nm),.int .i64 mi,.slice a9 len cap9]:=zk.2 ⟨a9,cap9,by rw[HL.out],by rw[<-HL.out];exact hcap9,zG.weaken (fun b _ e=>by omega) _ _ _ _ hE9⟩
          clear hlen9 hjl hts hus hfin
          go_wp2_with fail
          obtain⟨w9,hw9⟩:∃ w9,w9=(((wr.setCell ⟨w.heap.size+1,0,none⟩ (.int .i64 k)).setCell ⟨w.heap.size+1,1,none⟩ (.string (B nm))).setCell ⟨w.heap.size+1,2,none⟩ (.int .i64 mi)).setCell ⟨w.heap.size+1,3,none⟩ (.slice a9 len cap9):=⟨_,rfl⟩
          have hset9:=hrb.set (d0:=.int .i64 k) (d1:=.string (B nm)) (d2:=.int .i64 mi) (d3:=.slice a9 len cap9)
          rw[<-hw9]at hset9
          rw[<-hw9]
          clear hw9
          obtain⟨e0,e1,e2,e3⟩:=hset9.1.cells
          refine bodyPost_ret (v:=.agg #[.int .i64 k,.string (B nm),.int .i64 mi,.slice a9 len cap9]) ?_ rfl ?_
          ·simp[results,Tryz.f145,go_sem,e0,e1,e2,e3]
          ·rw[HFI.out]
           exact⟨k,mi,nm,a9,len,cap9,rfl,zM.weaken (fun b _ e=>by omega) _ _ (zM.zF hset9.2 (fun b e=>by omega) _ _ hRr),hU.trans hset9.2 (fun x hx e=>by omega)⟩
end Go.Proofs.YthgmimncdjhgnaaGreatDoor
namespace Go.LF.Tm
section
theorem zFm(f:To)(t:Tm)(h:∀ x∈nodes 0 t,x.k=5->x.b<=x.i->(f (x.i - x.b)).2=true/\0<=(f (x.i - x.b)).1/\(f (x.i - x.b)).1<=1048576 - x.b):xv f 0 t=true:=by
  rw[zBK,List.all_eq_true]
  intro x hx
  unfold oki
  by_cases hk:x.k=5/\x.b<=x.i
  ·obtain⟨h1,h2,h3⟩:=h x hx hk.1 hk.2
   simp[h1,h2,h3]
  ·have:(x.k == 5 && decide (x.b<=x.i))=false:=by rw[Bool.eq_false_iff];intro e;exact hk (by simpa using e)
   rw[this];rfl
theorem zBC(f g:To)(t:Tm)(h:∀ x∈nodes 0 t,x.k=5->x.b<=x.i->0<=(f (x.i - x.b)).1/\(g (f (x.i - x.b)).1).2=true/\0<=(g (f (x.i - x.b)).1).1/\(g (f (x.i - x.b)).1).1<=1048576 - x.b):xv g 0 (mv f 0 t)=true:=by
  refine zFm g _ ?_
  rw[zAg]
  intro y hy
  obtain⟨x,hx,rfl⟩:=List.mem_map.1 hy
  simp only
  intro h5 hbi
  unfold Z1 at hbi ⊢
  by_cases hk:x.k=5/\x.b<=x.i
  ·rw[if_pos hk]
   obtain⟨h1,h2,h3,h4⟩:=h x hx hk.1 hk.2
   rw[show(f (x.i - x.b)).1+x.b - x.b=(f (x.i - x.b)).1 by omega]
   exact⟨h2,h3,h4⟩
  ·rw[if_neg hk]at hbi
   exact absurd ⟨h5,hbi⟩ hk
theorem zEc{f g:To}{x:Nd0}(h:x.k=5->x.b<=x.i->(f (x.i - x.b)).1=(g (x.i - x.b)).1):Z1 f x.b x.k x.i=Z1 g x.b x.k x.i:=by
  unfold Z1
  by_cases hk:x.k=5/\x.b<=x.i
  ·rw[if_pos hk,if_pos hk,h hk.1 hk.2]
  ·rw[if_neg hk,if_neg hk]
theorem YO.free{t:Tm}{sz v m:Nat}(h:YO t sz v m)(hs:sz<=4096):∀ x∈nodes 0 t,x.k=5->x.b<=x.i->0<=x.i - x.b/\x.i - x.b<v/\0<=x.b/\x.b<=4096:=by
  intro x hx hk hb
  have h1:=zIm t x hx hk
  have h2:=zCF t 0 x hx
  have:=h.scope
  have:=h.size
  omega
theorem zx{a c v:Int}(ha:0<=a)(ha2:a<=1048576)(hv:0<=v)(hv2:v<=1048576):yd a c v=(if v<c then v else v+a,true):=by
  unfold yd
  by_cases h:v<c
  ·rw[if_pos h,if_pos h]
  ·rw[if_neg h,if_neg h,decide_eq_true ha2]
   congr 1
   unfold Go.RowKit.wrap64
   omega
theorem back{t:Tm}{sz m:Nat}(h:YO t sz 5 m)(hs:sz<=4096)(a b c:Nat)(ha:a<=8)(hb:b<=8)(hc:c<=6):
    ∃ x y:Tm,t.yo a c=0/\t.xB a c=x/\x.zCG c a=true/\x.zH6 c a=t/\x.yo b c=0/\x.xB b c=y/\t.yo ((a+b:Nat):Int) c=0/\t.xB ((a+b:Nat):Int) c=y/\x.wt=t.wt/\y.wt=t.wt:=by
  have hf:=h.free hs
  have hw:=h.wf hs
  have sh:∀(t:Tm)(d:Nat),t.wf=0->xv (yd d c) 0 t=true->t.yo d c=0/\t.xB d c=mv (yd d c) 0 t:=by
    intro t d hw hm
    have e:t.yo d c=0:=by unfold yo;rw[hw,if_neg (by omega),if_neg (by omega),hm];rfl
    exact⟨e,by unfold xB;rw[e,if_pos rfl]⟩
  have ok1:∀ d:Nat,d<=100->xv (yd d c) 0 t=true:=by
    intro d hd
    refine zFm _ _ (fun x hx hk hb=>?_)
    have:=hf x hx hk hb
    rw[zx (by omega) (by omega) (by omega) (by omega)]
    refine⟨rfl,?_⟩
    simp only
    split<;>omega
  have wx:(mv (yd a c) 0 t).wf=0:=zKf _ _ hw (ok1 a (by omega))
  have ok2:xv (yd b c) 0 (mv (yd a c) 0 t)=true:=by
    refine zBC _ _ _ (fun x hx hk hb=>?_)
    have:=hf x hx hk hb
    rw[zx (a:=a) (by omega) (by omega) (by omega) (by omega)]
    simp only
    by_cases hv:x.i - x.b<(c:Int)
    ·rw[if_pos hv,zx (by omega) (by omega) (by omega) (by omega),if_pos hv]
     refine⟨by omega,rfl,?_,?_⟩<;>simp only<;>omega
    ·rw[if_neg hv,zx (by omega) (by omega) (by omega) (by omega),if_neg (by omega)]
     refine⟨by omega,rfl,?_,?_⟩<;>simp only<;>omega
  have nn:∀ x∈nodes 0 t,x.k=5->x.b<=x.i->0<=(yd a c (x.i - x.b)).1:=by
    intro x hx hk hb
    have:=hf x hx hk hb
    rw[zx (by omega) (by omega) (by omega) (by omega)]
    simp only
    split<;>omega
  have ok3:xv (zAL c a) 0 (mv (yd a c) 0 t)=true:=by
    refine zBC _ _ _ (fun x hx hk hb=>?_)
    have:=hf x hx hk hb
    rw[zx (a:=a) (by omega) (by omega) (by omega) (by omega)]
    simp only
    unfold zAL
    by_cases hv:x.i - x.b<(c:Int)
    ·rw[if_pos hv,if_pos hv]
     refine⟨by omega,rfl,?_,?_⟩<;>simp only<;>omega
    ·rw[if_neg hv,if_neg (by omega)]
     refine⟨by omega,by simp only[decide_eq_true_eq];omega,?_,?_⟩<;>simp only<;>omega
  obtain⟨e1,e2⟩:=sh t a hw (ok1 a (by omega))
  obtain⟨e3,e4⟩:=sh _ b wx ok2
  obtain⟨e5,e6⟩:=sh t (a+b) hw (ok1 (a+b) (by omega))
  have hlB:(mv (yd a c) 0 t).zCG c a=true:=by unfold zCG;rw[ok3,wx,decide_eq_true (by omega),decide_eq_true (by omega)];rfl
  refine⟨_,_,e1,e2,hlB,?_,e3,e4,e5,?_,zHc _ _ _,by rw[zHc,zHc]⟩
  ·unfold zH6
   rw[hlB,if_pos rfl,zJF _ _ _ _ nn]
   refine zKV _ _ _ (fun x hx=>?_)
   refine(zEc (g:=fun i=>(i,true)) (fun hk hb=>?_)).trans (zHe _ _ _)
   have:=hf x hx hk hb
   rw[zx (by omega) (by omega) (by omega) (by omega)]
   simp only
   unfold zAL
   by_cases hv:x.i - x.b<(c:Int)
   ·rw[if_pos hv,if_pos hv]
   ·rw[if_neg hv,if_neg (by omega)];simp only;omega
  ·rw[e6,zJF _ _ _ _ nn]
   refine qv _ _ _ _ (fun x hx=>zEc (fun hk hb=>?_))
   have:=hf x hx hk hb
   rw[zx (by omega) (by omega) (by omega) (by omega),zx (a:=a) (by omega) (by omega) (by omega) (by omega)]
   simp only
   by_cases hv:x.i - x.b<(c:Int)
   ·rw[if_pos hv,if_pos hv,zx (by omega) (by omega) (by omega) (by omega),if_pos hv]
   ·rw[if_neg hv,if_neg hv,zx (by omega) (by omega) (by omega) (by omega),if_neg (by omega)];simp only;omega
end
section
mutual
def xK:Tm->Int
  |mk k _ i l=>xO (if k == 5 then i else -1) l
def xO(acc:Int):List Tm->Int
  | []=>acc
  |t :: ts=>xO (max acc (xK t)) ts
end
theorem YA(l:List Tm)(acc:Int)(j:Nat)(h:j<l.length):xO acc (l.take (j+1))=max (xO acc (l.take j)) (xK l[j]):=by
  induction l generalizing acc j with
  |nil=>simp at h
  |cons t ts ih=>
   cases j with
   |zero=>simp[xO]
   |succ j=>simpa[xO]using ih (max acc (xK t)) j (by simpa using h)
theorem zDr(t:Tm)(m:Int)(hm: -1<=m):∀ b,(xK t<=m↔∀ x∈nodes b t,x.k=5->x.i<=m):=by
  induction t using ind with
  |h k n i l ih=>
   intro b
   have key:∀(l':List Tm),(∀ t∈l',∀ b,(xK t<=m↔∀ x∈nodes b t,x.k=5->x.i<=m))->∀ j acc,(xO acc l'<=m↔acc<=m/\∀ x∈za b k j l',x.k=5->x.i<=m):=by
     intro l'
     induction l' with
     |nil=>intro _ j acc;simp[xO,za]
     |cons t ts ih2=>
      intro h j acc
      rw[xO,ih2 (fun t ht=>h t (by simp[ht])) (j+1)]
      have h1:=h t (by simp) (b+under k j)
      simp only[za,List.mem_append]
      constructor
      ·rintro⟨h2,h3⟩
       refine⟨by omega,fun x hx=>?_⟩
       rcases hx with hx |hx
       ·exact h1.1 (by omega) x hx
       ·exact h3 x hx
      ·rintro⟨h2,h3⟩
       have:=h1.2 (fun x hx=>h3 x (.inl hx))
       exact⟨by omega,fun x hx=>h3 x (.inr hx)⟩
   rw[xK,key l ih 0,zg]
   constructor
   ·rintro⟨h1,h2⟩ x hx hk
    rcases List.mem_cons.1 hx with rfl |hx
    ·simp only at hk;subst hk;simpa using h1
    ·exact h2 x hx hk
   ·intro h
    refine⟨?_,fun x hx=>h x (by simp[hx])⟩
    by_cases hk:(k == 5)=true
    ·rw[if_pos hk];exact h ⟨b,k,n,i⟩ (by simp) (by simpa using hk)
    ·rw[if_neg hk];omega
theorem QF(t:Tm)(hw:t.wf=0)(by' from':Int)(h0:0<=by')(h1:by'<=1048576)(_h2:0<=from')(_h3:from'<=1048576):
    mv (ZY by' from') 0 t=mv (yd by' from') 0 t/\(xK (mv (ZY by' from') 0 t)<=1048576↔xv (yd by' from') 0 t=true):=by
  have hok:=(zB2 t hw).1 0
  have hsz:=(zB2 t hw).2.1
  have hn:∀ x∈nodes 0 t,x.k=5->0<=x.i/\x.i<=1048576/\0<=x.b:=fun x hx hk=>by
    have:=(hok x hx).1 (by simp[hk])
    have:=zCF t 0 x hx
    omega
  have e1:mv (ZY by' from') 0 t=mv (yd by' from') 0 t:=qv _ _ _ _ (fun x hx=>zEc (fun hk hb=>by
    have:=hn x hx hk
    rw[zx h0 h1 (by omega) (by omega)]
    rfl))
  refine⟨e1,?_⟩
  rw[zDr _ _ (by omega) 0,zAg,zBK,List.all_eq_true]
  constructor
  ·intro h x hx
   unfold oki
   by_cases hk:x.k=5/\x.b<=x.i
   ·have h4:=hn x hx hk.1
    have h5:=h _ (List.mem_map.2 ⟨x,hx,rfl⟩) hk.1
    simp only[Z1]at h5
    rw[if_pos hk]at h5
    rw[zx h0 h1 (by omega) (by omega)]
    unfold ZY at h5
    simp only at h5
    simp only[hk.1,Bool.or_eq_true,Bool.and_eq_true,decide_eq_true_eq,Bool.true_and]
    right
    split at h5<;>rename_i hlt
    ·rw[if_pos hlt];omega
    ·rw[if_neg hlt];omega
   ·have:(x.k == 5 && decide (x.b<=x.i))=false:=by rw[Bool.eq_false_iff];intro e;exact hk (by simpa using e)
    rw[this];rfl
  ·intro h y hy hk5
   obtain⟨x,hx,rfl⟩:=List.mem_map.1 hy
   simp only at hk5 ⊢
   have h4:=hn x hx hk5
   unfold Z1
   by_cases hb:x.b<=x.i
   ·rw[if_pos ⟨hk5,hb⟩]
    have h5:=h x hx
    unfold oki at h5
    rw[zx h0 h1 (by omega) (by omega)]at h5
    simp only[hk5,hb]at h5
    simp at h5
    unfold ZY
    simp only
    split<;>rename_i hlt
    ·omega
    ·rw[if_neg hlt]at h5;omega
   ·rw[if_neg (fun e=>hb e.2)];omega
end
end Go.LF.Tm
namespace Go.Proofs.YthgmimncdjhgnaaGreatDoor
section
open Go.RowKit Go.LF
theorem yV{O:Nat->Prop}{w:World}{d:yz}{cs:List Value}(h:zM O w d cs):zM zC w d cs:=zM.weaken (fun _ _ x=>x.elim) _ _ h
end
section
open Go.RowKit Go.LF
theorem Qy(t:Tm):t.size<=1000000->∀(w:World)(cs:List Value),zM zC w t.zN cs->Calls Tryz.prog 212 #[.agg cs.toArray] w fun e w'=>e=.returned (.int .i64 t.xK)/\zD zC w w':=by
  induction t using Tm.ind with
  |h k nm i ts ih=>
   intro hsz w cs h
   obtain⟨a,cap,rfl,hcap,hE⟩:=zk.1 h
   have hlen:=Tm.zO ts
   simp only[Tm.zS]at hsz
   obtain⟨c,hc⟩:∃ c:Int,c=if(k == 5)=true then i else -1:=⟨_,rfl⟩
   have hg:(Tm.mk k nm i ts).xK=Tm.xO c ts:=by rw[Tm.xK,hc]
   have HG:=zH hg
   have hways:((k == 5)=true/\c=i)\/((k == 5)=false/\c= -1):=by
     cases hk:(k == 5)
     ·exact .inr ⟨rfl,by rw[hc,hk];rfl⟩
     ·exact .inl ⟨rfl,by rw[hc,hk];rfl⟩
   clear hg hc h
   rcases hways with⟨hk,rfl⟩|⟨hk,rfl⟩
   ·go_enter Tryz.func212,Tryz.ntmps212
    go_wp2_with fail
    go_loopw [3,4] (fun v3 v4 wr=>∃(j:Nat),v4=.int .i64 j/\j<=ts.length/\v3=.int .i64 (Tm.xO c (ts.take j))/\zD zC (w.alloc (.cells #[.int .i64 k,.string (B nm),.int .i64 c,.slice a ts.length cap] 29)) wr) (fun _ v4 _=>ts.length - (intOf v4).toNat)
    case atStart=>exact⟨0,rfl,Nat.zero_le _,by simp[Tm.xO],zD.refl _ _⟩
    case round=>
      obtain⟨j,rfl,hj,rfl,hU⟩:=hrel
      have hw:zD zC w wr:=hU.behind
      obtain⟨b0,b1,b2,b3⟩:=zv hU
      have hj0:(0:Int)<=(j:Int):=by omega
      have hjb:(j:Int)<=1000000:=by omega
      by_cases hlt:j<ts.length
      ·obtain⟨b,o,k1,n1,x1,s1,cp,rfl,hb,_,p0,p1,p2,p3,hRp⟩:=zd (hE.on hw) j hlt
       have hT:=Tm.YA ts c j hlt
       have hs4:=Tm.zR (List.getElem_mem hlt)
       have IH:=ih _ (List.getElem_mem hlt) (by omega) wr _ hRp
       have hj1:(j:Int)<(ts.length:Int):=by omega
       have HT:=zH hT
       clear hT ih
       generalize (ts[j]'hlt).xK=gj at *
       generalize (ts[j]'hlt).args.length=el at *
       generalize hA:Tm.xO c (ts.take j)=A at *
       have HAA:=zH hA
       clear hA
       go_wp2_with fail
       refine IH.mono ?_
       rintro e w1 ⟨rfl,hU1⟩
       go_wp2_with fail
       refine⟨⟨j+1,by go_num,hlt,by rw[HT.out];first |rfl |(congr 1;omega),hU.and hU1⟩,?_⟩
       simp[intOf];omega
      ·have hj1:¬(j:Int)<(ts.length:Int):=by omega
       have hfin:(Tm.mk k nm c ts).xK=Tm.xO c (ts.take j):=by rw[HG.out,List.take_of_length_le (by omega)]
       have HF:=zH hfin
       clear hfin
       go_wp2_with fail
       go_ret
       exact⟨zb HF.out.symm,hw⟩
   ·go_enter Tryz.func212,Tryz.ntmps212
    go_wp2_with fail
    go_loopw [3,4] (fun v3 v4 wr=>∃(j:Nat),v4=.int .i64 j/\j<=ts.length/\v3=.int .i64 (Tm.xO (-1) (ts.take j))/\zD zC (w.alloc (.cells #[.int .i64 k,.string (B nm),.int .i64 i,.slice a ts.length cap] 29)) wr) (fun _ v4 _=>ts.length - (intOf v4).toNat)
    case atStart=>exact⟨0,rfl,Nat.zero_le _,by simp[Tm.xO],zD.refl _ _⟩
    case round=>
      obtain⟨j,rfl,hj,rfl,hU⟩:=hrel
      have hw:zD zC w wr:=hU.behind
      obtain⟨b0,b1,b2,b3⟩:=zv hU
      have hj0:(0:Int)<=(j:Int):=by omega
      have hjb:(j:Int)<=1000000:=by omega
      by_cases hlt:j<ts.length
      ·obtain⟨b,o,k1,n1,x1,s1,cp,rfl,hb,_,p0,p1,p2,p3,hRp⟩:=zd (hE.on hw) j hlt
       have hT:=Tm.YA ts (-1) j hlt
       have hs4:=Tm.zR (List.getElem_mem hlt)
       have IH:=ih _ (List.getElem_mem hlt) (by omega) wr _ hRp
       have hj1:(j:Int)<(ts.length:Int):=by omega
       have HT:=zH hT
       clear hT ih
       generalize (ts[j]'hlt).xK=gj at *
       generalize (ts[j]'hlt).args.length=el at *
       generalize hA:Tm.xO (-1) (ts.take j)=A at *
       have HAA:=zH hA
       clear hA
       go_wp2_with fail
       refine IH.mono ?_
       rintro e w1 ⟨rfl,hU1⟩
       go_wp2_with fail
       refine⟨⟨j+1,by go_num,hlt,by rw[HT.out];first |rfl |(congr 1;omega),hU.and hU1⟩,?_⟩
       simp[intOf];omega
      ·have hj1:¬(j:Int)<(ts.length:Int):=by omega
       have hfin:(Tm.mk k nm i ts).xK=Tm.xO (-1) (ts.take j):=by rw[HG.out,List.take_of_length_le (by omega)]
       have HF:=zH hfin
       clear hfin
       go_wp2_with fail
       go_ret
       exact⟨zb HF.out.symm,hw⟩
end
end Go.Proofs.YthgmimncdjhgnaaGreatDoor
