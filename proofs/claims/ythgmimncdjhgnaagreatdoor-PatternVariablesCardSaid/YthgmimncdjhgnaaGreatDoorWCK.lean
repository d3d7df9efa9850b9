/- Renamings of free variables, as plain data. No program is in sight here. -/
import Derived.Test.YthgmimncdjhgnaaGreatDoorWCD
import Derived.Test.YthgmimncdjhgnaaGreatDoorWCH
import Derived.Test.YthgmimncdjhgnaaGreatDoorWCJ
import Derived.Deep.AppendLies
import Derived.Deep.CutRange
import Derived.Deep.RegionHeld3
import Derived.Deep.RegionLaw
import Derived.Laws.CopyOwn
import Derived.Laws.MakeOwn
import Derived.Shelf.Bits.Mul64
set_option maxRecDepth 100000
set_option maxHeartbeats 16000000
namespace Go.LF.Tm
abbrev To:=Int->Int×Bool
def xu(f:To)(b k i:Int):Int:=if k=5/\b<=i then(f (i - b)).1+b else i
def XK(f:To)(b k i:Int):Bool:=!(k == 5 && decide (b<=i))|| ((f (i - b)).2 && (decide (0<=(f (i - b)).1) && decide ((f (i - b)).1<=1048576 - b)))
mutual
def mv(f:To)(b:Int):Tm->Tm
  |mk k n i l=>mk k n (xu f b k i) (yu f b k 0 l)
def yu(f:To)(b k:Int)(j:Nat):List Tm->List Tm
  | []=>[]
  |t :: ts=>mv f (b+under k j) t :: yu f b k (j+1) ts
end
mutual
def yG(f:To)(b:Int):Tm->Bool
  |mk k _ i l=>XK f b k i && yY f b k 0 l
def yY(f:To)(b k:Int)(j:Nat):List Tm->Bool
  | []=>true
  |t :: ts=>yG f (b+under k j) t && yY f b k (j+1) ts
end
theorem y8(f:To)(b k n i l):mv f b (mk k n i l)=mk k n (xu f b k i) (yu f b k 0 l):=by rw[mv]
theorem xQ(f:To)(b k n i l):yG f b (mk k n i l)=(XK f b k i && yY f b k 0 l):=by rw[yG]
theorem zCq(f:To)(b k:Int)(l m:List Tm)(j:Nat):yu f b k j (l++m)=yu f b k j l++yu f b k (j+l.length) m:=by
  induction l generalizing j with
  |nil=>simp[yu]
  |cons t ts ih=>simp[yu,ih (j+1),Nat.add_assoc,Nat.add_comm 1 ts.length]
theorem YE(f:To)(b k:Int)(l m:List Tm)(j:Nat):yY f b k j (l++m)=(yY f b k j l && yY f b k (j+l.length) m):=by
  induction l generalizing j with
  |nil=>simp[yY]
  |cons t ts ih=>simp[yY,ih (j+1),Nat.add_assoc,Nat.add_comm 1 ts.length,Bool.and_assoc]
theorem xR(f:To)(b k:Int)(l:List Tm)(j:Nat):(yu f b k j l).length=l.length:=by
  induction l generalizing j with
  |nil=>simp[yu]
  |cons t ts ih=>simp[yu,ih (j+1)]
theorem ZA(f:To)(b k:Int)(l:List Tm)(j:Nat)(h:j<l.length):yu f b k 0 (l.take (j+1))=yu f b k 0 (l.take j)++[mv f (b+under k j) l[j]]:=by
  rw[List.take_succ_eq_append_getElem h,zCq];simp[yu,Nat.min_eq_left (Nat.le_of_lt h)]
theorem yU(f:To)(b k:Int)(l:List Tm)(j:Nat)(h:j<l.length):yY f b k 0 (l.take (j+1))=(yY f b k 0 (l.take j) && yG f (b+under k j) l[j]):=by
  rw[List.take_succ_eq_append_getElem h,YE];simp[yY,Nat.min_eq_left (Nat.le_of_lt h)]
theorem ZS(f:To)(t:Tm):∀ b,yG f b t=(nodes b t).all (fun x=>XK f x.b x.k x.i):=by
  induction t using ind with
  |h k n i l ih=>
   intro b
   have key:∀(l':List Tm),(∀ t∈l',∀ b,yG f b t=(nodes b t).all (fun x=>XK f x.b x.k x.i))->∀ j,yY f b k j l'=(zX b k j l').all (fun x=>XK f x.b x.k x.i):=by
     intro l';induction l' with
     |nil=>intro _ j;simp[yY,zX]
     |cons t ts ih2=>intro h j;rw[yY,zX,List.all_append,h t (by simp),ih2 (fun t ht=>h t (by simp[ht]))]
   rw[xQ,zb,List.all_cons,key l ih 0]
theorem QD(f:To)(t:Tm):∀ b,nodes b (mv f b t)=(nodes b t).map (fun x=>⟨x.b,x.k,x.n,xu f x.b x.k x.i⟩):=by
  induction t using ind with
  |h k n i l ih=>
   intro b
   have key:∀(l':List Tm),(∀ t∈l',∀ b,nodes b (mv f b t)=(nodes b t).map (fun x=>⟨x.b,x.k,x.n,xu f x.b x.k x.i⟩))->∀ j,zX b k j (yu f b k j l')=(zX b k j l').map (fun x=>⟨x.b,x.k,x.n,xu f x.b x.k x.i⟩):=by
     intro l';induction l' with
     |nil=>intro _ j;simp[yu,zX]
     |cons t ts ih2=>intro h j;rw[yu,zX,zX,List.map_append,h t (by simp),ih2 (fun t ht=>h t (by simp[ht]))]
   rw[y8,zb,zb,List.map_cons,key l ih 0]
theorem Xp(f g:To)(t:Tm):∀ b,(∀ x∈nodes b t,xu f x.b x.k x.i=xu g x.b x.k x.i)->mv f b t=mv g b t:=by
  induction t using ind with
  |h k n i l ih=>
   intro b h
   have key:∀(l':List Tm),(∀ t∈l',∀ b,(∀ x∈nodes b t,xu f x.b x.k x.i=xu g x.b x.k x.i)->mv f b t=mv g b t)->∀ j,(∀ x∈zX b k j l',xu f x.b x.k x.i=xu g x.b x.k x.i)->yu f b k j l'=yu g b k j l':=by
     intro l';induction l' with
     |nil=>intro _ j _;simp[yu]
     |cons t ts ih2=>
      intro h j hx;simp only[zX,List.mem_append]at hx;rw[yu,yu,h t (by simp) _ (fun x hm=>hx x (.inl hm)),ih2 (fun t ht=>h t (by simp[ht])) _ (fun x hm=>hx x (.inr hm))]
   rw[zb]at h;rw[y8,y8,key l ih 0 (fun x hx=>h x (by simp[hx])),h ⟨b,k,n,i⟩ (by simp)]
theorem zDt(t:Tm):∀ b,mv (fun i=>(i,true)) b t=t:=by
  induction t using ind with
  |h k n i l ih=>
   intro b
   have key:∀(l':List Tm),(∀ t∈l',∀ b,mv (fun i=>(i,true)) b t=t)->∀ j,yu (fun i=>(i,true)) b k j l'=l':=by
     intro l';induction l' with
     |nil=>intro _ j;simp[yu]
     |cons t ts ih2=>intro h j;rw[yu,h t (by simp),ih2 (fun t ht=>h t (by simp[ht]))]
   rw[y8,key l ih 0];congr 1;unfold xu;split
   ·simp
   ·rfl
theorem zFt(b k i:Int):xu (fun i=>(i,true)) b k i=i:=by unfold xu;split<;>simp
theorem zId(f:To)(t:Tm)(b:Int)(h:∀ x∈nodes b t,xu f x.b x.k x.i=x.i):mv f b t=t:=by
  rw[Xp f (fun i=>(i,true)) t b (fun x hx=>by rw[h x hx,zFt]),zDt]
theorem zGP(f g:To)(b k i:Int)(h:k=5->b<=i->0<=(f (i - b)).1):xu g b k (xu f b k i)=xu (fun i=>g (f i).1) b k i:=by
  by_cases hk:k=5/\b<=i
  ·have:=h hk.1 hk.2;have e1:∀(g:To)(j:Int),b<=j->xu g b k j=(g (j - b)).1+b:=fun g j hj=>if_pos ⟨hk.1,hj⟩
   rw[e1 f i hk.2,e1 g _ (by omega),e1 _ i hk.2,show(f (i - b)).1+b - b=(f (i - b)).1 by omega]
  ·simp only[xu,if_neg hk]
theorem zIL(f g:To)(t:Tm):∀ b,(∀ x∈nodes b t,x.k=5->x.b<=x.i->0<=(f (x.i - x.b)).1)->mv g b (mv f b t)=mv (fun i=>g (f i).1) b t:=by
  induction t using ind with
  |h k n i l ih=>
   intro b h
   have key:∀(l':List Tm),(∀ t∈l',∀ b,(∀ x∈nodes b t,x.k=5->x.b<=x.i->0<=(f (x.i - x.b)).1)->mv g b (mv f b t)=mv (fun i=>g (f i).1) b t)->∀ j,(∀ x∈zX b k j l',x.k=5->x.b<=x.i->0<=(f (x.i - x.b)).1)->yu g b k j (yu f b k j l')=yu (fun i=>g (f i).1) b k j l':=by
     intro l';induction l' with
     |nil=>intro _ j _;simp[yu]
     |cons t ts ih2=>
      intro h j hx;simp only[zX,List.mem_append]at hx;rw[yu,yu,yu,h t (by simp) _ (fun x hm=>hx x (.inl hm)),ih2 (fun t ht=>h t (by simp[ht])) _ (fun x hm=>hx x (.inr hm))]
   rw[zb]at h;rw[y8,y8,y8,key l ih 0 (fun x hx=>h x (by simp[hx])),zGP _ _ _ _ _ (h ⟨b,k,n,i⟩ (by simp))]
theorem qy(f:To)(t:Tm)(b:Int):(mv f b t).size=t.size:=by
  rw[<-xe _ b,QD,List.length_map,xe]
theorem Xo(f:To)(t:Tm):∀ b,(mv f b t).depth=t.depth:=by
  induction t using ind with
  |h k n i l ih=>
   intro b
   have key:∀(l':List Tm),(∀ t∈l',∀ b,(mv f b t).depth=t.depth)->∀ j,zQ (yu f b k j l')=zQ l':=by
     intro l';induction l' with
     |nil=>intro _ j;simp[yu]
     |cons t ts ih2=>intro h j;rw[yu,zQ,zQ,h t (by simp),ih2 (fun t ht=>h t (by simp[ht]))]
   rw[y8,yW,yW,key l ih 0]
theorem zCD(f:To)(t:Tm):∀ b,(mv f b t).wt=t.wt:=by
  induction t using ind with
  |h k n i l ih=>
   intro b
   have key:∀(l':List Tm),(∀ t∈l',∀ b,(mv f b t).wt=t.wt)->∀ j,ye (yu f b k j l')=ye l':=by
     intro l';induction l' with
     |nil=>intro _ j;simp[yu]
     |cons t ts ih2=>intro h j;rw[yu,ye,ye,h t (by simp),ih2 (fun t ht=>h t (by simp[ht]))]
   rw[y8,yM,yM,key l ih 0]
theorem ZM(f:To)(b k i:Int)(h:k≠5):xu f b k i=i:=by unfold xu;rw[if_neg (fun e=>h e.1)]
theorem Qb(f:To)(t:Tm):t.isObj=true->∀ b,0<=b->yG f b t=true->(mv f b t).isObj=true:=by
  induction t using ind with
  |h k n i l ih=>
   intro ho b hb h
   have key:∀(l':List Tm),(∀ t∈l',t.isObj=true->∀ b,0<=b->yG f b t=true->(mv f b t).isObj=true)->∀ j,ze l'=true->yY f b k j l'=true->ze (yu f b k j l')=true:=by
     intro l';induction l' with
     |nil=>intro _ j _ _;simp[yu,ze]
     |cons t ts ih2=>
      intro h j ha hm;simp only[ze,yY,Bool.and_eq_true]at ha hm;simp only[yu,ze,Bool.and_eq_true];exact⟨h t (by simp) ha.1 _ (by have:=yF k j;omega) hm.1,ih2 (fun t ht=>h t (by simp[ht])) _ ha.2 hm.2⟩
   rw[xQ,Bool.and_eq_true]at h;have k1:=key l ih 0;rw[y8];rw[isObj]at ho ⊢;by_cases h3:k=3
   ·subst h3;simp only[if_true,Bool.and_eq_true,bound,xR]at ho ⊢;rw[ZM f b 3 i (by decide)];exact⟨ho.1,k1 ho.2 h.2⟩
   rw[if_neg h3]at ho ⊢;by_cases h4:k=4
   ·subst h4;simp only[if_true,Bool.and_eq_true]at ho ⊢;rw[ZM f b 4 i (by decide)];exact⟨ho.1,k1 ho.2 h.2⟩
   rw[if_neg h4]at ho ⊢;by_cases h5:k=5
   ·subst h5;simp only[if_true,Bool.and_eq_true,decide_eq_true_eq]at ho ⊢;refine⟨⟨⟨ho.1.1.1,?_⟩,?_⟩,k1 ho.2 h.2⟩
    all_goals
      have hh:=h.1;unfold xu;by_cases hbi:b<=i
      ·simp only[XK,hbi]at hh;simp at hh;simp[hbi];omega
      ·rw[if_neg (fun e=>hbi e.2)];omega
   rw[if_neg h5]at ho ⊢;by_cases h6:k=6
   ·subst h6;simp only[if_true,Bool.and_eq_true]at ho ⊢;rw[ZM f b 6 i (by decide)];exact⟨ho.1,k1 ho.2 h.2⟩
   ·rw[if_neg h6]at ho;cases ho
theorem zGp(f:To)(k n i l)(ha:isAtom (mk k n i l)=true)(b:Int)(hb:0<=b)(h:yG f b (mk k n i l)=true):isAtom (mv f b (mk k n i l))=true:=by
  simp only[isAtom,Bool.and_eq_true,beq_iff_eq]at ha;obtain⟨rfl,h1,h2⟩:=ha;have ho:=Qb f (mk 4 n i l) (by rw[isObj];simp[h1,h2]) b hb h;rw[y8,isObj]at ho;rw[y8,isAtom];simpa using ho
theorem zFq(f:To)(t:Tm):t.zT=true->∀ b,0<=b->yG f b t=true->(mv f b t).zT=true:=by
  induction t using ind with
  |h k n i l ih=>
   intro ho b hb h;rw[zT]at ho;rcases Bool.or_eq_true_iff.1 ho with ho |ho
   ·have:=zGp f k n i l ho b hb h;rw[y8]at this ⊢;rw[zT,this];rfl
   ·have key:∀(l':List Tm),(∀ t∈l',t.zT=true->∀ b,0<=b->yG f b t=true->(mv f b t).zT=true)->∀ j,yq l'=true->yY f b k j l'=true->yq (yu f b k j l')=true:=by
      intro l';induction l' with
      |nil=>intro _ j _ _;simp[yu,yq]
      |cons t ts ih2=>
       intro h j ha hm;simp only[yq,yY,Bool.and_eq_true]at ha hm;simp only[yu,yq,Bool.and_eq_true];exact⟨h t (by simp) ha.1 _ (by have:=yF k j;omega) hm.1,ih2 (fun t ht=>h t (by simp[ht])) _ ha.2 hm.2⟩
    simp only[Bool.and_eq_true,beq_iff_eq]at ho;obtain⟨rfl,h1,h2⟩:=ho;rw[xQ,Bool.and_eq_true]at h;rw[y8,zT];simp only[Bool.or_eq_true,Bool.and_eq_true,bound,xR]at h1 ⊢;right;rw[ZM f b 2 i (by decide)];exact⟨rfl,h1,key l ih 0 h2 h.2⟩
theorem zHa(f:To)(t:Tm):t.zc=true->∀ b,0<=b->yG f b t=true->(mv f b t).zc=true:=by
  induction t using ind with
  |h k n i l ih=>
   intro ho b hb h;rw[xQ,Bool.and_eq_true]at h;rw[y8];match l,ho,ih,h with
   | [],ho,_,_=>
     simp only[zc,Bool.and_eq_true,beq_iff_eq]at ho;obtain⟨rfl,h1⟩:=ho;rw[ZM f b 1 i (by decide)];simp only[yu,zc,Bool.and_eq_true,beq_iff_eq];exact⟨trivial,h1⟩
   | [a],ho,_,_=>simp[zc]at ho
   |a :: c :: d :: l,ho,_,_=>simp[zc]at ho
   | [a,c],ho,ih,h=>
     simp only[zc,Bool.and_eq_true,beq_iff_eq]at ho;obtain⟨rfl,h1,h2,h3⟩:=ho;simp only[yY,Bool.and_eq_true]at h;rw[ZM f b 2 i (by decide)];simp only[yu,zc,Bool.and_eq_true,beq_iff_eq];refine⟨trivial,by simpa[bound]using h1,zFq f a h2 _ (by have:=yF 2 0;omega) h.2.1,ih c (by simp) h3 _ (by have:=yF 2 (0+1);omega) h.2.2.1⟩
theorem zIZ(f:To)(t:Tm)(h:t.wf=0)(hm:yG f 0 t=true):(mv f 0 t).wf=0:=by
  unfold wf at h ⊢;by_cases h1:(!t.isObj && !t.zT && !t.zc)=true
  ·rw[if_pos h1]at h;omega
  rw[if_neg h1]at h;have hs:(mv f 0 t).small=t.small:=by unfold small;rw[qy,Xo]
  rw[if_neg ?_,hs]
  ·exact h
  ·intro e;simp only[Bool.and_eq_true,Bool.not_eq_true']at e h1;apply h1;refine⟨⟨?_,?_⟩,?_⟩<;>rw[Bool.eq_false_iff]<;>intro h2
   ·have:=Qb f t h2 0 (by omega) hm;rw[e.1.1]at this;cases this
   ·have:=zFq f t h2 0 (by omega) hm;rw[e.1.2]at this;cases this
   ·have:=zHa f t h2 0 (by omega) hm;rw[e.2]at this;cases this
theorem Yf:∀(l:List Nd0)(a:Int),a<=l.foldl yL a/\∀ x∈l,x.k=5->x.i - x.b+1<=l.foldl yL a
  | [],a=>⟨Int.le_refl _,fun x hx=>by cases hx⟩
  |y :: l,a=>by
   have h:=Yf l (yL a y)
   have hy:a<=yL a y/\(y.k=5->y.i - y.b+1<=yL a y):=by
     unfold yL;split
     ·omega
     ·rename_i e;refine⟨Int.le_refl _,fun e2=>absurd (by simp[e2]) e⟩
   refine⟨by have:=h.1;simp only[List.foldl_cons];omega,fun x hx hk=>?_⟩;rw[List.foldl_cons];rcases List.mem_cons.1 hx with rfl |hx
   ·have:=hy.2 hk;have:=h.1;omega
   ·exact h.2 x hx hk
theorem zDr(t:Tm):∀ x∈nodes 0 t,x.k=5->x.i - x.b<scope t\/x.i - x.b<0:=by
  intro x hx hk;have h:=(Yf (nodes 0 t) 0).2 x hx hk;rw[QX t 0 0 (by omega) (by omega)]at h;omega
theorem zEn{b k i:Int}{n:List UInt8}{l:List Tm}(j:Nat)(h:j<l.length){x:Nd0}(hx:x∈nodes (b+under k j) l[j]):x∈nodes b (mk k n i l):=by
  rw[zb];refine List.mem_cons_of_mem _ ((yi l b k (j+1)).subset ?_);rw[x7 l b k j h];simp[hx]
theorem qt{k i:Int}{n:List UInt8}{l:List Tm}(h:∀ b,∀ x∈nodes b (mk k n i l),x.ok):∀ t∈l,∀ b,∀ x∈nodes b t,x.ok:=by
  intro t ht b x hx;obtain⟨j,hj,rfl⟩:=List.getElem_of_mem ht;exact h (b - under k j) x (zEn j hj (by rw[show b - under k j+under k j=b by omega];exact hx))
theorem zAb(t:Tm):t.same t=true:=by
  induction t using ind with
  |h k n i l ih=>
   rw[zDx]
   have key:∀(l':List Tm),(∀ t∈l',t.same t=true)->yk l' l'=true:=by
     intro l';induction l' with
     |nil=>intro _;simp[yk]
     |cons t ts ih2=>intro h;simp only[yk,Bool.and_eq_true];exact⟨h t (by simp),ih2 (fun t ht=>h t (by simp[ht]))⟩
   simp[key l ih]
theorem YP.wf{t:Tm}{sz v m:Nat}(h:YP t sz v m)(hs:sz<=4096):t.wf=0:=by
  unfold Tm.wf;rw[if_neg,if_neg]
  ·unfold small;have:=h.depth;have:=h.size;simp;omega
  ·intro e;simp only[Bool.and_eq_true,Bool.not_eq_true']at e;rcases h.any with h |h |h
   ·rw[e.1.1]at h;cases h
   ·rw[e.1.2]at h;cases h
   ·rw[e.2]at h;cases h
end Go.LF.Tm
namespace Go.Proofs.YthgmimncdjhgnaaGreatDoor
section
open Go.RowKit Go.LF
def zt(W:World)(g:Nat)(c:Value)(T:TypeId):Prop:=W.heap[g]? =some (.cells #[c] T (0,0))
section
variable {W W':World}{g b:Nat}{c:Value}{T:TypeId}{S:Nat->Prop}
theorem zt.zJ(hb:W.heap.size=b):zt (W.alloc (.cells #[c] T)) b c T:=by subst hb;exact heap_alloc_new W _
theorem zt.lt(h:zt W g c T):g<W.heap.size:=(Array.getElem?_eq_some_iff.1 h).1
theorem zt.cell(h:zt W g c T):W.cell? ⟨g,0,none⟩=some c:=by unfold zt at h;simp[World.cell?,h]
theorem zt.frozen(h:zt W g c T):W.frozen? ⟨g,0,none⟩=false:=by unfold zt at h;simp[World.frozen?,h]
theorem zt.zE(h:zt W g c T)(hU:zD S W W')(hS:¬S g):zt W' g c T:=(hU.block g h.lt hS).trans h
theorem zt.kept(h:zt W g c T)(hU:zD zC W W'):zt W' g c T:=h.zE hU (fun x=>x)
theorem zt.set(h:zt W g c T)(v:Value):zt (W.setCell ⟨g,0,none⟩ v) g v T:=by
  obtain⟨hlt,hk⟩:=Array.getElem?_eq_some_iff.1 h;show(W.heap.modify g _)[g]? =_;rw[Array.getElem?_eq_getElem (by rw[Array.size_modify];exact hlt),Array.getElem_modify_self,hk];rfl
end
theorem zAJ{O:Nat->Prop}{W:World}{ts:List Tm}(h:zH O W 4 (ts.map Tm.zM) none 0):ts=[]:=by
  cases ts with
  |nil=>rfl
  |cons t ts=>simp only[List.map_cons,zH]at h;obtain⟨⟨_,_,_,e,_⟩,_⟩:=h;cases e
def zHZ(O:Nat->Prop)(ts:List Tm)(w:World)(e:Ending)(w':World):Prop:=∃ v css,e=.returned v/\xN O w.heap.size w' v ts css/\zD zC w w'
theorem zAI(ts:List Tm)(O:Nat->Prop)(w:World)(a:Option Addr)(cap:Nat)(hl:ts.length<=900000)(hE:zH O w 4 (ts.map Tm.zM) a 0):
    Calls Tryz.prog 176 #[.slice a ts.length cap] w (zHZ O ts w):=by
  obtain⟨i0,hi,hi0,hi1,hi2⟩:=info_parts yV;rcases a with _ |ad
  ·obtain rfl:=zAJ hE;clear hE;have he:∀ w:World,(binOp .eql 26 (.slice none 0 cap) (.slice none 0 0)).run Tryz.prog w=.ok (.bool true) w:=fun _=>rfl
   go_enter Tryz.func176,Tryz.ntmps176
   go_wp2_with fail
   go_ret
   exact⟨_,[],rfl,⟨rfl,by simp,World.ownsRow_nil _ _ _ _,fun i h=>by simp at h⟩,zD.refl _ _⟩
  ·rcases Nat.eq_zero_or_pos ts.length with h0 |h0
   ·obtain rfl:ts=[]:=List.eq_nil_of_length_eq_zero h0;clear hE h0;simp only[List.length_nil];have he:∀ w:World,(binOp .eql 26 (.slice (some ad) 0 cap) (.slice none 0 0)).run Tryz.prog w=.ok (.bool false) w:=fun _=>rfl
    go_enter Tryz.func176,Tryz.ntmps176
    go_wp2_with fail
    go_ret
    exact⟨_,[],rfl,⟨rfl,by simp,World.ownsRow_made w #[] 0 (Nat.le_refl _) (by decide) (by simp),fun i h=>by simp at h⟩,(zD.refl zC w).alloc _⟩
   ·obtain⟨css,r1,r2,r3,r4,r5⟩:=Ys ts _ 0 (zH.zY 4 _ _ _ hE);have hflat:=(zAT css r2).1;rw[r1]at hflat
    obtain⟨ub,uo,he⟩:∃ ub uo,ad=⟨ub,uo,none⟩:=by
      obtain⟨u,hu⟩:∃ u,css.flatten[0]? =some u:=⟨_,List.getElem?_eq_getElem (by omega)⟩;obtain⟨b,o,e,_⟩:=r4 0 u hu;cases e
      exact⟨b,o,rfl⟩
    subst he
    have HN:∀ j u,css.flatten[j]? =some u->(w.alloc (.cells #[] 29)).cell? ((⟨ub,uo,none⟩:Addr).add j)=some u:=by
      intro j u hu;obtain⟨b',o',e,hc⟩:=r4 j u hu;cases e
      have hadd:(⟨ub,uo,none⟩:Addr).add j=⟨ub,uo+j,none⟩:=by unfold Addr.add;split<;>simp_all
      rw[hadd];exact((zD.refl zC w).alloc _).cell (by simpa using hc) (fun x=>x)
    have HL:=zF (And.intro r1 (And.intro r2 r5));obtain⟨len,hlen⟩:∃ len,len=ts.length:=⟨_,rfl⟩;rw[<-hlen]at hl h0 hflat ⊢;have HE:=zF hlen;clear hE r1 r2 r4 r5 hlen;have he:∀ w:World,(binOp .eql 26 (.slice (some ⟨ub,uo,none⟩) len cap) (.slice none 0 0)).run Tryz.prog w=.ok (.bool false) w:=fun _=>rfl
    go_enter Tryz.func176,Tryz.ntmps176
    go_wp2_with (at_builtin;refine wpList_append_lies _ (by rfl) _ _ 26 (by rfl) w.heap.size 29 i0 (.agg #[.int .i64 0,.string (B []),.int .i64 0,.slice none 0 0]) 4 56 (by kernel_rfl) hi hi0 hi1 hi2 rfl (by decide) (.slice (some ⟨w.heap.size,0,none⟩) 0 0) 0 [] (by rfl) (World.ownsRow_made w #[] 0 (Nat.le_refl _) (by decide) (by simp)) ⟨ub,uo,none⟩ len cap css.flatten (by rfl) hflat HN r3 h0 (by simp only[maxLen];omega) (by omega) (by simp) _ rfl ?_;intro g cap' w7 hown hgrow hat hlt)
    go_ret
    have hU7:zD zC w w7:=((zD.refl zC w).alloc (.cells #[] 29)).trans (x8 hgrow) (fun i hi e=>by simp only[Value.ownBlock,Option.some.injEq]at e;omega);refine⟨_,css,rfl,⟨HL.out.1,HL.out.2.1,?_,fun i hi hi'=>(HL.out.2.2 i hi hi').on hU7⟩,hU7⟩;rw[<-HE.out];simpa using hown
end
section
open Go.RowKit Go.LF
def zAe(w:World)(F:FuncId)(caps:List Value)(f:Tm.To):Prop:=
  ∀(i:Int)(W:World),0<=i->i<=1048576->zD zC w W->Calls Tryz.prog F (.int .i64 i :: caps).toArray W fun e W'=>e=.returned (.tuple #[.int .i64 (f i).1,.bool (f i).2])/\zD zC W W'
def zIh(f:Tm.To)(okb:Nat)(o:Bool)(b:Int)(t:Tm)(w:World)(e:Ending)(w':World):Prop:=
  ∃(k i:Int)(n:List UInt8)(a:Option Addr)(len cap:Nat)(u:Tm),e=.returned (.agg #[.int .i64 k,.string (B n),.int .i64 i,.slice a len cap])/\
   zK (fun x=>x<w.heap.size) w' u.zM [.int .i64 k,.string (B n),.int .i64 i,.slice a len cap]/\(t.yG f b=true->u=t.mv f b)/\u.size=t.size/\
   zt w' okb (.bool (o && t.yG f b)) 4/\zD (fun x=>x=okb) w w'
def Zn(okb lo base:Nat)(W:World)(a:Option Addr)(us ts:List Tm):Prop:=
  ∀ i,i<ts.length->∃ g cs,a=some ⟨g,0,none⟩/\base<=g/\g<W.heap.size/\(∀ o,W.frozen? ⟨g,o,none⟩=false)/\cs.length=4/\(∀ m u,cs[m]? =some u->W.cell? ⟨g,i * 4+m,none⟩=some u)/\
    (∀(h:i<us.length),zK (fun b=>b<base\/b=g) W us[i].zM cs)/\(∀(h:i<ts.length),us.length<=i->zK (fun b=>b=okb\/lo<=b) W ts[i].zM cs)
section
variable {okb lo base:Nat}{W W':World}{a:Option Addr}{us ts:List Tm}
theorem Zn.start{O:Nat->Prop}{sc:Nat}{css:List (List Value)}{sa:Option Addr}(h:xN O base W (.slice sa ts.length sc) ts css)(hO:∀ b,b=okb\/lo<=b->O b\/base<=b):Zn okb lo base W sa [] ts:=by
  intro i hi;obtain⟨sa',sc',hv,_,hc⟩:=h.cells;simp only[Value.slice.injEq]at hv;obtain⟨rfl,_,rfl⟩:=hv;have hi':i<css.length:=by have:=h.1;omega
  obtain⟨g,rfl,_,hb,hlt,hf,hg⟩:=hc i hi hi';exact⟨g,css[i],rfl,hb,hlt,hf,h.2.1 _ (List.getElem_mem hi'),hg,fun h=>by simp at h,fun h' _=>zK.weaken (fun b _ e=>hO b e) _ _ (h.2.2.2 i hi hi')⟩
theorem Zn.zE{S:Nat->Prop}(h:Zn okb lo base W a us ts)(hU:zD S W W')(hS:∀ b,S b->(b=okb\/lo<=b)/\b<base):Zn okb lo base W' a us ts:=by
  intro i hi;obtain⟨g,cs,h1,h2,h3,h4,h5,h6,h7,h8⟩:=h i hi;have hg:¬S g:=fun e=>by have:=(hS g e).2;omega
  refine⟨g,cs,h1,h2,Nat.lt_of_lt_of_le h3 hU.size,fun o=>?_,h5,fun m u hu=>hU.cell (h6 m u hu) hg,fun h=>?_,fun h hi'=>?_⟩
  ·rw[hU.cells.2 g o h3 hg];exact h4 o
  ·exact zK.zE hU (fun b e=>.inl (hS b e).2) _ _ (h7 h)
  ·exact zK.zE hU (fun b e=>(hS b e).1) _ _ (h8 h hi')
theorem Zn.kept(h:Zn okb lo base W a us ts)(hU:zD zC W W'):Zn okb lo base W' a us ts:=h.zE hU (fun _ x=>x.elim)
theorem Zn.next{g:Nat}{u:Tm}{d0 d1 d2 d3:Value}(h:Zn okb lo base W (some ⟨g,0,none⟩) us ts)(hj:us.length<ts.length)(hob:lo<=base)(hR:zK (fun b=>b<base\/b=g) W u.zM [d0,d1,d2,d3])
    (hW:W'=(((W.setCell ⟨g,us.length * 4,none⟩ d0).setCell ⟨g,us.length * 4+1,none⟩ d1).setCell ⟨g,us.length * 4+2,none⟩ d2).setCell ⟨g,us.length * 4+3,none⟩ d3):
    Zn okb lo base W' (some ⟨g,0,none⟩) (us++[u]) ts/\zD (fun b=>b=g) W W':=by
  obtain⟨g',cs,e,hb,hlt,hf,hcl,hc,_,_⟩:=h us.length hj;cases e
  have hcj:∀ m,m<4->∃ u,W.cell? ⟨g,us.length * 4+m,none⟩=some u:=fun m hm=>⟨_,hc m _ (List.getElem?_eq_getElem (by rw[hcl];exact hm))⟩
  obtain⟨_,u0⟩:=hcj 0 (by omega);obtain⟨_,u1⟩:=hcj 1 (by omega);obtain⟨_,u2⟩:=hcj 2 (by omega);obtain⟨_,u3⟩:=hcj 3 (by omega);obtain⟨⟨v0,v1,v2,v3⟩,hoth,hU⟩:=ZP (d0:=d0) (d1:=d1) (d2:=d2) (d3:=d3) u0 u1 u2 u3 hW;refine⟨fun i hi=>?_,hU⟩;obtain⟨g',cs',e,hb',hlt',hf',hcl',hc',h7,h8⟩:=h i hi;cases e
  have hfr:∀ o,W'.frozen? ⟨g,o,none⟩=false:=fun o=>by rw[hW];simp only[World.frozen?_setCell];exact hf o
  by_cases hij:i=us.length
  ·subst hij;refine⟨g,[d0,d1,d2,d3],rfl,hb,Nat.lt_of_lt_of_le hlt hU.size,hfr,rfl,fun m x hx=>?_,fun h'=>?_,fun _ h'=>?_⟩
   ·match m,hx with
    |0,hx=>cases hx;exact v0
    |1,hx=>cases hx;exact v1
    |2,hx=>cases hx;exact v2
    |3,hx=>cases hx;exact v3
   ·simp only[List.getElem_concat_length];exact zK.zE hU (fun b e=>.inr e) _ _ hR
   ·(simp at h';omega)
  ·refine⟨g,cs',rfl,hb,Nat.lt_of_lt_of_le hlt hU.size,hfr,hcl',fun m x hx=>?_,fun h'=>?_,fun h' h''=>?_⟩
   ·have hm:m<4:=by rw[<-hcl'];exact(List.getElem?_eq_some_iff.1 hx).1
    rw[hoth _ (by omega) (by omega) (by omega) (by omega)];exact hc' m x hx
   ·have hlt2:i<us.length:=by simp at h';omega
    rw[List.getElem_append_left hlt2];exact zK.zE hU (fun b e=>.inr e) _ _ (h7 hlt2)
   ·simp at h'';exact zK.zE hU (fun b e=>.inr (by omega)) _ _ (h8 h' (by omega))
theorem Zn.rep(h:Zn okb lo base W a us ts)(hl:us.length=ts.length):zH (fun b=>b<base) W 4 (us.map Tm.zM) a 0:=by
  refine zp _ _ _ (fun i hi=>?_);simp only[List.length_map]at hi;obtain⟨g,cs,rfl,hb,hlt,_,hcl,hc,h7,_⟩:=h i (by omega);refine⟨g,0,cs,rfl,hlt,by omega,hcl,fun m u hu=>?_,?_⟩
  ·rw[show 0+0+i * 4+m=i * 4+m by omega];exact hc m u hu
  ·simp only[List.getElem_map];exact zK.weaken (fun b _ e=>.inl e) _ _ (h7 hi)
end
end
section
open Go.RowKit Go.LF
abbrev MvS(B K tb:Nat)(sa:Option Addr)(len sc:Nat)(fv c0 c1 c2 c3:Value)(w':World):Prop:=
  w'.cell? ⟨B,3,none⟩=some (.slice sa len sc)/\w'.cell? ⟨K,0,none⟩=some fv/\ZK tb c0 c1 c2 c3 w'
theorem MvS.zE{B K tb len sc:Nat}{sa:Option Addr}{fv c0 c1 c2 c3:Value}{w w':World}{S:Nat->Prop}(h:MvS B K tb sa len sc fv c0 c1 c2 c3 w)(hU:zD S w w')(h1:¬S B)(h2:¬S K)(h3:¬S tb):MvS B K tb sa len sc fv c0 c1 c2 c3 w':=
  ⟨hU.cell h.1 h1,hU.cell h.2.1 h2,h.2.2.zE hU h3⟩
theorem MvS.set{B K tb len sc g:Nat}{sa:Option Addr}{fv c0 c1 c2 c3:Value}{w:World}(h:MvS B K tb sa len sc fv c0 c1 c2 c3 w)(h1:B≠g)(h2:K≠g)(h3:tb≠g)(o:Nat)(v:Value):MvS B K tb sa len sc fv c0 c1 c2 c3 (w.setCell ⟨g,o,none⟩ v):=
  h.zE (zD.set (zD.refl _ w) o v) h1 h2 h3
theorem zFd(f:Tm.To)(w0:World)(okb tob K:Nat)(F:FuncId)(caps:List Value)(hF:zAe w0 F caps f)(hFE:∀ args w,Sem.run Tryz.prog (callFunc F args) w=.ok (Next.enter F args) w)(hk:w0.heap.size<=okb)(ht0:tob≠okb)(hK0:K≠okb)(t:Tm):t.size<=100000->(∀ b,∀ x∈t.nodes b,x.ok)->
    ∀(b:Int)(o:Bool)(w:World)(cs:List Value),0<=b->b+t.size<=1000000->zK (fun x=>x=okb) w t.zM cs->zD zC w0 w->zt w okb (.bool o) 4->w.cell? ⟨tob,0,none⟩=some (.func (.func F) #[] caps.toArray)->
    w.cell? ⟨K,0,none⟩=some (.func (.func 184) #[] #[.pointer (some ⟨tob,0,none⟩),.pointer (some ⟨okb,0,none⟩),.pointer (some ⟨K,0,none⟩)])->
    Calls Tryz.prog 184 #[.agg cs.toArray,.int .i64 b,.pointer (some ⟨tob,0,none⟩),.pointer (some ⟨okb,0,none⟩),.pointer (some ⟨K,0,none⟩)] w (zIh f okb o b t w):=by
  induction t using Tm.ind with
  |h k nm i ts ih=>
   intro hsz hok b o w cs hb0 hb1 hR hU0 hO hT hK;obtain⟨a,cap,rfl,hcap,hE⟩:=zd.1 hR;have hlen:=Tm.zN ts;simp only[Tm.zS]at hsz hb1;have hno:=hok b;rw[Tm.zb]at hno;have hi5:k=5->0<=i/\i<=1048576:=fun e=>(hno _ (List.mem_cons_self ..)).1 (by simp[e])
   have hoks:∀ x∈ts,∀ b,∀ y∈x.nodes b,y.ok:=Tm.qt hok;have hokb:=hO.lt;have htob:tob<w.heap.size:=World.block_lt_of_cell? w _ hT;have hKb:K<w.heap.size:=World.block_lt_of_cell? w _ hK;obtain⟨w2,hw2⟩:∃ w2,w2=(w.alloc (.cells #[.int .i64 k,.string (B nm),.int .i64 i,.slice a ts.length cap] 29)).alloc (.cells #[.int .i64 0,.string (B []),.int .i64 0,.slice none 0 0] 29):=⟨_,rfl⟩;have hU2:zD zC w w2:=by rw[hw2];exact((zD.refl zC w).alloc _).alloc _
   have ht2:zG w2 w.heap.size (.int .i64 k) (.string (B nm)) (.int .i64 i) (.slice a ts.length cap) 29:=by rw[hw2];exact(zG.zJ rfl).kept ((zD.refl zC _).alloc _)
   have hr2:zG w2 (w.heap.size+1) (.int .i64 0) (.string (B [])) (.int .i64 0) (.slice none 0 0) 29:=by rw[hw2];exact zG.zJ (by simp)
   have hO2:=hO.kept hU2;have hT2:=hU2.cell hT (fun x=>x);have hK2:=hU2.cell hK (fun x=>x);obtain⟨t0,t1,t2,t3⟩:=ht2.cells;obtain⟨f0,f1,f2,f3⟩:=ht2.zI;have q0:=hO2.cell;have q1:=hO2.frozen;have HW2:=zF hw2;have HW:=zF (And.intro hsz hb1);clear hw2 hR hno hok;obtain⟨c21,hc21⟩:∃ c,c=(k == 5 && decide (b<=i)):=⟨_,rfl⟩
   have hways:((k == 5)=true/\b<=i)\/((k == 5)=true/\i<b)\/(k == 5)=false:=by
     by_cases h:k=5
     ·by_cases h':b<=i
      ·exact .inl ⟨by simp[h],h'⟩
      ·exact .inr (.inl ⟨by simp[h],by omega⟩)
     ·exact .inr (.inr (by simp[h]))
   have HC:=zF hc21;have HY:=zF hways;clear hc21 hways;go_enter Tryz.func184,Tryz.ntmps184
   go_upto_region 1 with fail
   rw[<-HW2.out];go_cut [21]from 13 to 21 (fun v21 wx=>v21=.bool c21/\w2=wx)
   case first=>
     rcases HY.out with⟨h5,hbi⟩|⟨h5,hbi⟩|h5
     all_goals
       go_wp2_with fail
       go_meet
       case rel=>exact⟨by rw[HC.out];simp[h5]<;>omega,rfl⟩
   case rest=>
     obtain⟨rfl,rfl⟩:=hcut;go_upto_if 21 with fail
     go_cut []from 13 to 46 (fun wc=>∃(i2:Int)(o1:Bool),zG wc w.heap.size (.int .i64 k) (.string (B nm)) (.int .i64 i2) (.slice a ts.length cap) 29/\zG wc (w.heap.size+1) (.int .i64 0) (.string (B [])) (.int .i64 0) (.slice none 0 0) 29/\
       zt wc okb (.bool o1) 4/\zD (fun x=>x=okb\/x=w.heap.size) w2 wc/\(Tm.XK f b k i=true->i2=Tm.xu f b k i)/\o1=(o && Tm.XK f b k i))
     case first=>
       cases c21
       ·go_wp2_with fail
        go_meet
        case rel=>
          have hc:=HC.out;exact⟨i,o,ht2,hr2,hO2,zD.refl _ _,fun _=>(if_neg (fun e=>by simp[e.1,e.2]at hc)).symm,by unfold Tm.XK;rw[<-hc];simp⟩
       ·have hki:k=5/\b<=i:=by have:=HC.out;simpa using this.symm
        obtain⟨hk5,hbi⟩:=hki;have hi6:=hi5 hk5;have hd0:0<=i - b:=by omega
        have hd1:i - b<=1048576:=by omega
        have HF:=zF (hF (i - b));clear hF;have HK:=zF hk5;clear hk5 hi5;go_wp2_with fail
        refine(HF.out _ (by omega) (by omega) (hU0.and hU2)).mono ?_;rintro e w3 ⟨rfl,hU3⟩;obtain⟨⟨n,fd⟩,hp⟩:∃ p,p=f (i - b):=⟨_,rfl⟩;rw[<-hp];have ho1:Tm.XK f b k i=(fd && (decide (0<=n) && decide (n<=1048576 - b))):=by unfold Tm.XK;rw[<-hp,HK.out];simp[hbi]
        have hm1:Tm.xu f b k i=n+b:=by unfold Tm.xu;rw[if_pos ⟨HK.out,hbi⟩,<-hp]
        have HO:=zF (And.intro ho1 hm1);clear ho1 hm1 hp HF t0 t1 t2 t3 f0 f1 f2 f3 q0 q1;have ht3:=ht2.kept hU3;have hr3:=hr2.kept hU3;have hO3:=hO2.kept hU3;obtain⟨x0,x1,x2,x3⟩:=ht3.cells;obtain⟨y0,y1,y2,y3⟩:=ht3.zI;have q0:=hO3.cell;have q1:=hO3.frozen;have hne:w.heap.size≠okb:=by omega
        have hne1:w.heap.size+1≠okb:=by omega
        have hways:(fd=true/\0<=n/\n<=1048576 - b)\/fd=false\/(fd=true/\n<0)\/(fd=true/\0<=n/\1048576 - b<n):=by
          cases fd
          ·exact .inr (.inl rfl)
          ·by_cases h0:0<=n
           ·by_cases h1:n<=1048576 - b
            ·exact .inl ⟨rfl,h0,h1⟩
            ·exact .inr (.inr (.inr ⟨rfl,h0,by omega⟩))
           ·exact .inr (.inr (.inl ⟨rfl,by omega⟩))
        rcases hways with⟨rfl,h1,h2⟩|rfl |⟨rfl,h1⟩|⟨rfl,h1,h2⟩;all_goals go_wp2_with fail
        all_goals go_meet
        all_goals first
          |exact⟨n+b,o,ht3.qO _,hr3.other (by omega) _,hO3.zE (zD.set (zD.refl _ _) 2 _) (by omega),(hU3.mono (fun _ _ e=>e.elim)).trans (zD.set (zD.refl _ _) 2 _) (fun _ _ e=>.inr e),fun _=>HO.out.2.symm,by rw[HO.out.1];simp[h1,h2]⟩
          |exact⟨_,false,(ht3.other hne _).qO _,(hr3.other hne1 _).other (by omega) _,(hO3.set _).zE (zD.set (zD.refl _ _) 2 _) (by omega),((hU3.mono (fun _ _ e=>e.elim)).trans (zD.set (zD.refl _ _) 0 _) (fun _ _ e=>.inl e)).trans (zD.set (zD.refl _ _) 2 _) (fun _ _ e=>.inr e),fun e=>(by rw[HO.out.1]at e;simp at e<;>omega),by rw[HO.out.1];simp<;>omega⟩
          |trace_state
     case rest=>
       obtain⟨i2,o1,hB,hRs,hO1,hUc,hi2,ho1⟩:=hcut;obtain⟨x0,x1,x2,x3⟩:=hB.cells;obtain⟨y0,y1,y2,y3⟩:=hB.zI;have hE2:zH (fun x=>x=okb\/w.heap.size<=x) wc 4 (ts.map Tm.zM) a 0:=zH.zE hUc (fun x e=>e.elim .inl (fun e=>.inr (by omega))) _ _ _ _ ((zH.zY _ _ _ _ hE).on hU2);have HI:=zF (And.intro hi2 ho1);clear hi2 ho1 t0 t1 t2 t3 f0 f1 f2 f3 q0 q1 hi5;go_wp2_with fail
       have hwz:w.heap.size<wc.heap.size:=hB.lt;refine(zAI ts (fun x=>x=okb\/w.heap.size<=x) wc a cap (by omega) hE2).mono ?_;rintro e w4 ⟨v,css,rfl,hS,hU4⟩;obtain⟨sa,sc,rfl,hsc,_⟩:=hS.cells;have hM4:=Zn.start (okb:=okb) (lo:=w.heap.size) hS (fun b e=>.inl e);have hB4:=hB.kept hU4;have hR4:=hRs.kept hU4;have hO4:=hO1.kept hU4;obtain⟨base,hbase⟩:∃ base,base=wc.heap.size:=⟨_,rfl⟩;rw[<-hbase]at hM4 hwz;have hb4:base<=w4.heap.size:=by rw[hbase];exact hU4.size
       have hb5:w.heap.size+1<base:=by rw[hbase];exact hRs.lt
       have hUw4:zD (fun x=>x=okb\/x=w.heap.size) w2 w4:=hUc.trans hU4 (fun _ _ e=>e.elim);obtain⟨z0,z1,z2,z3⟩:=hB4.cells;obtain⟨v0,v1,v2,v3⟩:=hB4.zI;clear hS hB hRs hO1 hE hE2 x0 x1 x2 x3 y0 y1 y2 y3 hbase hU4 hUc;go_wp2_with fail
       obtain⟨w5,hw5⟩:∃ w5,w5=w4.setCell ⟨w.heap.size,3,none⟩ (.slice sa ts.length sc):=⟨_,rfl⟩;have hset5:zD (fun x=>x=w.heap.size) w4 w5:=by rw[hw5];exact zD.set (zD.refl _ _) 3 _
       have hB5:zG w5 w.heap.size (.int .i64 k) (.string (B nm)) (.int .i64 i2) (.slice sa ts.length sc) 29:=by rw[hw5];exact hB4.YR _
       have hR5:zG w5 (w.heap.size+1) (.int .i64 0) (.string (B [])) (.int .i64 0) (.slice none 0 0) 29:=hR4.zE hset5 (by omega);have hO5:=hO4.zE hset5 (by omega);have hUw5:zD (fun x=>x=okb) w w5:=(hU2.mono (fun _ _ e=>e.elim)).trans (hUw4.trans hset5 (fun _ _ e=>.inr e)) (fun x hx e=>e.elim id (fun e=>by omega));have hs5:=hset5.size;have hM5:Zn okb w.heap.size base w5 sa [] ts:=hM4.zE hset5 (fun b e=>⟨.inr (by omega),by omega⟩);rw[<-hw5];clear hw5 hB4 hR4 hO4 hM4 hset5 hUw4 z0 z1 z2 z3 v0 v1 v2 v3
       go_loopw [54] (fun v54 wr=>∃(j:Nat)(us:List Tm)(o2:Bool),v54=.int .i64 j/\j<=ts.length/\us.length=j/\(Tm.yY f b k 0 (ts.take j)=true->us=Tm.yu f b k 0 (ts.take j))/\Tm.zO us=Tm.zO (ts.take j)/\o2=(o1 && Tm.yY f b k 0 (ts.take j))/\Zn okb w.heap.size base wr sa us ts/\
           zG wr w.heap.size (.int .i64 k) (.string (B nm)) (.int .i64 i2) (.slice sa ts.length sc) 29/\zG wr (w.heap.size+1) (.int .i64 0) (.string (B [])) (.int .i64 0) (.slice none 0 0) 29/\
           zt wr okb (.bool o2) 4/\zD (fun x=>x=okb) w wr/\base<=wr.heap.size)
         (fun v54 _=>ts.length - (intOf v54).toNat)
       case atStart=>exact⟨0,[],o1,rfl,Nat.zero_le _,rfl,fun _=>by simp[Tm.yu],by simp,by simp[Tm.yY],hM5,hB5,hR5,hO5,hUw5,by omega⟩
       case round=>
         obtain⟨j,us,o2,rfl,hj,huj,hus,hzs,ho2,hM,hB,hRr,hO2',hU,hbr⟩:=hrel;obtain⟨x0,x1,x2,x3⟩:=hB.cells;have qB:=hB.lt;have hjb:(j:Int)<=100000:=by omega
         have hj0:(0:Int)<=(j:Int):=by omega
         have hTr:=hU.cell hT (by exact ht0);have hKr:=hU.cell hK (by exact hK0);have hU0r:zD zC w0 wr:=hU0.trans hU (fun x hx e=>by omega);have HS:=zF (And.intro huj (And.intro hus (And.intro hzs ho2)));clear huj hus hzs ho2;by_cases hlt:j<ts.length
         ·obtain⟨g,cs,rfl,hgb,hgl,hgf,hgn,hgc,_,hgr⟩:=hM j hlt;have hRj:=hgr hlt (by have:=HS.out.1;omega);obtain⟨kj,nj,ij,lj,aj,cj,htj,rfl,_,_⟩:=zU hRj;have g0:=hgc 0 _ rfl;rw[Nat.add_zero]at g0;have g1:=hgc 1 _ rfl;have g2:=hgc 2 _ rfl;have g3:=hgc 3 _ rfl;have hj1:(j:Int)<(ts.length:Int):=by omega
          have hsj:=Tm.zR (List.getElem_mem hlt);have hun:=Tm.yF k j;have IH:=fun w'(h1:zK (fun x=>x=okb) w' (ts[j]'hlt).zM [.int .i64 kj,.string (B nj),.int .i64 ij,.slice aj lj.length cj])=>ih (ts[j]'hlt) (List.getElem_mem hlt) (by omega) (hoks _ (List.getElem_mem hlt)) (b+Tm.under k j) o2 w' _ (by omega) (by omega) h1
          have HLT:=zF (show j<ts.length from hlt);have HG:=zF (And.intro htj hgc);clear htj hgc hgr hgn;have hgo2:¬g=okb:=by omega
          have hg1:w.heap.size≠g:=by omega
          have hg2:K≠g:=by omega
          have hg3:wr.heap.size≠g:=by omega
          generalize lj.length=ljl at *
          have rest:=Z1 k j;generalize hu:Tm.under k j=u at *
          clear hun;obtain⟨wa,hwa⟩:∃ wa,wa=wr.alloc (.cells #[.int .i64 kj,.string (B nj),.int .i64 ij,.slice aj ljl cj] 29):=⟨_,rfl⟩;have hUa:zD zC wr wa.drew:=by rw[hwa];exact((zD.refl zC wr).alloc _).drew
          have hza:wa.drew.heap.size=wr.heap.size+1:=by rw[hwa];simp[World.drew]
          have hTc:ZK wr.heap.size (.int .i64 kj) (.string (B nj)) (.int .i64 ij) (.slice aj ljl cj) wa.drew:=by rw[hwa];exact ZK.zE (zG.zJ (T:=29) rfl).cells (zD.refl zC _).drew (fun x=>x)
          have hgo:okb<base/\K<base:=by omega
          have S0:MvS w.heap.size K wr.heap.size (some ⟨g,0,none⟩) ts.length sc (.func (.func 184) #[] #[.pointer (some ⟨tob,0,none⟩),.pointer (some ⟨okb,0,none⟩),.pointer (some ⟨K,0,none⟩)]) (.int .i64 kj) (.string (B nj)) (.int .i64 ij) (.slice aj ljl cj) wa.drew:=⟨hUa.cell x3 (fun x=>x),hUa.cell hKr (fun x=>x),hTc⟩;have hRd:=zK.weaken (O':=fun x=>x=okb) (fun b _ e=>.inl e) _ _ (hRj.on hUa);have IH2:=IH _ hRd (hU0r.and hUa) (hO2'.kept hUa) (hUa.cell hTr (fun x=>x)) (hUa.cell hKr (fun x=>x));have HWA:=zF hwa;clear hwa IH hRd hRj hTc hTr;rcases rest with⟨k3,rfl⟩|⟨k3,k2,j1,rfl⟩|⟨k3,k2,j1,rfl⟩|⟨k3,k2,rfl⟩
          all_goals
            have HU:=zF hu;clear hu;try simp only[Int.add_zero]at IH2
            go_wp2_with fail
            rw[<-HWA.out]
            go_region_held3 (fun w'=>MvS w.heap.size K wr.heap.size (some ⟨g,0,none⟩) ts.length sc (.func (.func 184) #[] #[.pointer (some ⟨tob,0,none⟩),.pointer (some ⟨okb,0,none⟩),.pointer (some ⟨K,0,none⟩)]) (.int .i64 kj) (.string (B nj)) (.int .i64 ij) (.slice aj ljl cj) w')
              (first |(with_reducible assumption)|(with_reducible exact S0)|(with_reducible exact MvS.set (MvS.set (MvS.set (MvS.set S6 hg1 hg2 hg3 _ _) hg1 hg2 hg3 _ _) hg1 hg2 hg3 _ _) hg1 hg2 hg3 _ _))
              ((go_at_call 184;refine IH2.mono ?_;rintro e w6 ⟨k6,i6,n6,a6,l6,c6,u6,rfl,hR6,hu6,hs6,hO6,hU6⟩;have S6:=S0.zE hU6 (by omega) (by omega) (by omega);have hU6':zD (fun x=>x=okb) wr w6:=(hUa.mono (fun _ _ e=>e.elim)).trans hU6 (fun _ _ e=>e);have v0:=hU6'.cell g0 (by exact hgo2);have v1:=hU6'.cell g1 (by exact hgo2);have v2:=hU6'.cell g2 (by exact hgo2);have v3:=hU6'.cell g3 (by exact hgo2);have f6:=fun o=>(hU6'.cells.2 g o hgl hgo2).trans (hgf o);have hz6:=hU6'.size))
          all_goals
            have hM6:=hM.zE hU6' (fun b e=>⟨.inl e,by omega⟩);have hnx:=Zn.next (u:=u6) (d0:=.int .i64 k6) (d1:=.string (B n6)) (d2:=.int .i64 i6) (d3:=.slice a6 l6 c6) hM6 (by have:=HS.out.1;have:=HLT.out;omega) (by omega) (zK.weaken (fun b _ e=>by omega) _ _ hR6) rfl;rw[HS.out.1]at hnx;have hB9:=(hB.zE hU6' (by omega)).zE hnx.2 (by omega);have hR9:=(hRr.zE hU6' (by omega)).zE hnx.2 (by omega);have hO9:=hO6.zE hnx.2 (by omega);have hU9:=(hU.trans hU6' (fun _ _ e=>e)).trans hnx.2 (fun x hx e=>by omega);have hz9:=hnx.2.size;have n1:(us++[u6]).length=j+1:=by simp[HS.out.1]
            have n2:Tm.yY f b k 0 (ts.take (j+1))=true->us++[u6]=Tm.yu f b k 0 (ts.take (j+1)):=by
              intro e;rw[Tm.yU _ _ _ _ _ hlt,HU.out,Bool.and_eq_true]at e;rw[Tm.ZA _ _ _ _ _ hlt,HU.out,HS.out.2.1 e.1];try simp only[Int.add_zero]at e ⊢
              rw[hu6 e.2]
            have n3:Tm.zO (us++[u6])=Tm.zO (ts.take (j+1)):=by rw[Tm.xE,Tm.yE _ _ hlt,HS.out.2.2.1];simp[Tm.zO,hs6]
            have n4:=HS.out.2.2.2;have n5:=Tm.yU f b k ts j hlt;rw[HU.out]at n5;try simp only[Int.add_zero]at n5
            have HN:=zF (And.intro n1 (And.intro n2 (And.intro n3 (And.intro n4 n5))));clear n1 n2 n3 n4 n5 hu6 hs6;go_wp2_with fail
            go_roundw
            case rel=>exact⟨j+1,us++[u6],_,by go_num,Nat.succ_le_of_lt HLT.out,HN.out.1,HN.out.2.1,HN.out.2.2.1,by rw[HN.out.2.2.2.1,HN.out.2.2.2.2,Bool.and_assoc],hnx.1,hB9,hR9,hO9,hU9,by omega⟩
            case measure=>(have:=HLT.out;simp[intOf];omega)
         ·obtain⟨r0,r1,r2,r3⟩:=hRr.cells;obtain⟨rf0,rf1,rf2,rf3⟩:=hRr.zI;have hjl:j=ts.length:=by omega
          have hrep:=hM.rep (by have:=HS.out.1;omega);have hjn:¬(j:Int)<(ts.length:Int):=by omega
          have HJ:=zF hjl;clear hjl hM;go_wp2_with fail
          obtain⟨w9,hw9⟩:∃ w9,w9=(((wr.setCell ⟨w.heap.size+1,0,none⟩ (.int .i64 k)).setCell ⟨w.heap.size+1,1,none⟩ (.string (B nm))).setCell ⟨w.heap.size+1,2,none⟩ (.int .i64 i2)).setCell ⟨w.heap.size+1,3,none⟩ (.slice sa ts.length sc):=⟨_,rfl⟩;have hset9:=hRr.set (d0:=.int .i64 k) (d1:=.string (B nm)) (d2:=.int .i64 i2) (d3:=.slice sa ts.length sc);rw[<-hw9]at hset9;rw[<-hw9];clear hw9;obtain⟨e0,e1,e2,e3⟩:=hset9.1.cells;refine bodyPost_ret (v:=.agg #[.int .i64 k,.string (B nm),.int .i64 i2,.slice sa ts.length sc]) ?_ rfl ?_
          ·simp[results,Tryz.f184,go_sem,e0,e1,e2,e3]
          ·have h1:=HS.out.1;have h2:=HS.out.2.1;have h3:=HS.out.2.2.1;have h4:=HS.out.2.2.2;rw[List.take_of_length_le (by have:=HJ.out;omega)]at h2 h3 h4;have h5:us.length=ts.length:=by have:=HJ.out;omega
           refine⟨k,i2,nm,sa,ts.length,sc,.mk k nm i2 us,rfl,zd.2 ⟨sa,sc,by rw[h5],by rw[h5];exact hsc,?_⟩,fun e=>?_,by simp[h3],?_,hU.trans hset9.2 (fun x hx e=>by omega)⟩
           ·exact zH.weaken (fun b _ e=>by omega) _ _ _ _ (zH.zE hset9.2 (fun b e=>by omega) _ _ _ _ hrep)
           ·rw[Tm.xQ,Bool.and_eq_true]at e;rw[Tm.y8,HI.out.1 e.1,h2 e.2]
           ·rw[Tm.xQ,<-Bool.and_assoc,<-HI.out.2,<-h4];exact hO2'.zE hset9.2 (by omega)
end
section
open Go.RowKit Go.LF
def zIe(f:Tm.To)(t:Tm)(w:World)(e:Ending)(w':World):Prop:=
  ∃(k i:Int)(n:List UInt8)(a:Option Addr)(len cap:Nat)(u:Tm),e=.returned (.tuple #[.agg #[.int .i64 k,.string (B n),.int .i64 i,.slice a len cap],.bool (t.yG f 0)])/\
   zK (fun x=>x<w.heap.size) w' u.zM [.int .i64 k,.string (B n),.int .i64 i,.slice a len cap]/\u=(if t.yG f 0 then t.mv f 0 else .mk 0 [] 0 [])/\u.size<=t.size/\zD zC w w'
theorem zCS(f:Tm.To)(F:FuncId)(caps:List Value)(t:Tm)(w:World)(cs:List Value)(hF:zAe w F caps f)(hFE:∀ args w,Sem.run Tryz.prog (callFunc F args) w=.ok (Next.enter F args) w)(hsz:t.size<=100000)
    (hok:∀ b,∀ x∈t.nodes b,x.ok) (h:zK zC w t.zM cs):Calls Tryz.prog 156 #[.agg cs.toArray,.func (.func F) #[] caps.toArray] w (zIe f t w):=by
  obtain⟨k,n,i,ts,a,cap,rfl,rfl,hcap,hE⟩:=zU h;have hW:=fun okb tob K h1 h2 h3 w' h4 h5 h6 h7 h8=>zFd f w okb tob K F caps hF hFE h1 h2 h3 (.mk k n i ts) hsz hok 0 true w' [.int .i64 k,.string (B n),.int .i64 i,.slice a ts.length cap] (by omega) (by omega) h4 h5 h6 h7 h8
  clear hF hok;obtain⟨H,hH⟩:∃ H,H=w.heap.size:=⟨_,rfl⟩;obtain⟨w3,hw3⟩:∃ w3,w3=((w.alloc (.cells #[.int .i64 k,.string (B n),.int .i64 i,.slice a ts.length cap] 29)).alloc (.cells #[.func (.func F) #[] caps.toArray] 172)).alloc (.cells #[.int .i64 0,.string (B []),.int .i64 0,.slice none 0 0] 29):=⟨_,rfl⟩;obtain⟨w5,hw5⟩:∃ w5,w5=(w3.alloc (.cells #[.bool true] 4)).alloc (.cells #[.func (.func 184) #[] #[.pointer (some ⟨w.heap.size+1,0,none⟩),.pointer (some ⟨w.heap.size+1+1+1,0,none⟩),.pointer (some ⟨w.heap.size+1+1+1+1,0,none⟩)]] 106):=⟨_,rfl⟩;have hz3:w3.heap.size=w.heap.size+1+1+1:=by rw[hw3];simp
  have hU3:zD zC w w3:=by rw[hw3];exact(((zD.refl zC w).alloc _).alloc _).alloc _
  have hU5:zD zC w3 w5:=by rw[hw5];exact((zD.refl zC w3).alloc _).alloc _
  have hUw:=hU3.and hU5
  have hT5:zt w5 (w.heap.size+1) (.func (.func F) #[] caps.toArray) 172:=by
    refine zt.kept ?_ hU5;rw[hw3];exact(zt.zJ (by simp)).kept ((zD.refl zC _).alloc _)
  have hr5:zG w5 (w.heap.size+1+1) (.int .i64 0) (.string (B [])) (.int .i64 0) (.slice none 0 0) 29:=by
    refine zG.kept ?_ hU5;rw[hw3];exact zG.zJ (by simp)
  have ht5:zG w5 w.heap.size (.int .i64 k) (.string (B n)) (.int .i64 i) (.slice a ts.length cap) 29:=by
    refine zG.kept ?_ hU5;rw[hw3];exact((zG.zJ rfl).kept ((zD.refl zC _).alloc _)).kept ((zD.refl zC _).alloc _)
  have hO5:zt w5 (w.heap.size+1+1+1) (.bool true) 4:=by rw[hw5];exact(zt.zJ hz3).kept ((zD.refl zC _).alloc _)
  have hK5:zt w5 (w.heap.size+1+1+1+1) (.func (.func 184) #[] #[.pointer (some ⟨w.heap.size+1,0,none⟩),.pointer (some ⟨w.heap.size+1+1+1,0,none⟩),.pointer (some ⟨w.heap.size+1+1+1+1,0,none⟩)]) 106:=by rw[hw5];exact zt.zJ (by simp[hz3])
  have hR5:zK (fun x=>x=w.heap.size+1+1+1) w5 (Tm.mk k n i ts).zM [.int .i64 k,.string (B n),.int .i64 i,.slice a ts.length cap]:=(zK.weaken (fun b _ e=>.inr (by omega)) _ _ (zK.zY _ _ h)).on hUw;have hWW:=hW (w.heap.size+1+1+1) (w.heap.size+1) (w.heap.size+1+1+1+1) (by omega) (by omega) (by omega) w5 hR5 hUw hO5 hT5.cell hK5.cell;have hq5:=hO5.lt;rw[hw3]at hw5;have HW5:=zF hw5;clear hW hw3 hw5 hU3 hU5 hR5 hE h hK5 hT5 hO5;clear hz3 w3 hH;go_enter Tryz.func156,Tryz.ntmps156
  go_wp2_with fail
  rw[<-show B []={ data:=#[] }from rfl,<-HW5.out];refine hWW.mono ?_;rintro e w6 ⟨k6,i6,n6,a6,l6,c6,u,rfl,hR6,hu6,hs6,hO6,hU6⟩;have hr6:=hr5.zE hU6 (by omega);have q0:=hO6.cell;have q1:=hO6.lt;obtain⟨x0,x1,x2,x3⟩:=hr6.cells;obtain⟨y0,y1,y2,y3⟩:=hr6.zI;have qr:=hr6.lt;obtain⟨ok,hok⟩:∃ ok,ok=(Tm.mk k n i ts).yG f 0:=⟨_,rfl⟩;rw[<-hok]at q0 hu6;have HO:=zF (And.intro hok (And.intro hu6 hs6));clear hok hu6 hs6 hWW;simp only[Bool.true_and]at q0;have hUw6:zD zC w w6:=hUw.trans hU6 (fun x hx e=>by omega);have hUwz:=hUw.size;cases ok
  ·go_wp2_with fail
   obtain⟨w9,hw9⟩:∃ w9,w9=((((w6.setCell ⟨w.heap.size+1+1,0,none⟩ (.int .i64 0)).setCell ⟨w.heap.size+1+1,1,none⟩ (.string (B []))).setCell ⟨w.heap.size+1+1,2,none⟩ (.int .i64 0)).setCell ⟨w.heap.size+1+1,3,none⟩ (.slice none 0 0)).alloc (.cells #[.int .i64 k6,.string (B n6),.int .i64 i6,.slice a6 l6 c6] 29):=⟨_,rfl⟩;have hset:=hr6.set (d0:=.int .i64 0) (d1:=.string (B [])) (d2:=.int .i64 0) (d3:=.slice none 0 0);have hB9:zG w9 (w.heap.size+1+1) (.int .i64 0) (.string (B [])) (.int .i64 0) (.slice none 0 0) 29:=by rw[hw9];exact hset.1.kept ((zD.refl zC _).alloc _)
   have hU9:zD (fun x=>x=w.heap.size+1+1) w6 w9:=by rw[hw9];exact hset.2.alloc _
   rw[<-hw9];clear hw9 hset;obtain⟨e0,e1,e2,e3⟩:=hB9.cells;refine bodyPost_ret (v:=.tuple #[.agg #[.int .i64 0,.string (B []),.int .i64 0,.slice none 0 0],.bool false]) ?_ rfl ?_
   ·simp[results,Tryz.f156,go_sem,e0,e1,e2,e3]
   ·exact⟨0,0,[],none,0,0,.mk 0 [] 0 [],by rw[<-HO.out.1],zV _ _ _,by rw[<-HO.out.1];rfl,by simp[Tm.zO],hUw6.trans hU9 (fun x hx e=>by omega)⟩
  ·go_wp2_with fail
   obtain⟨w9,hw9⟩:∃ w9,w9=((((w6.setCell ⟨w.heap.size+1+1,0,none⟩ (.int .i64 k6)).setCell ⟨w.heap.size+1+1,1,none⟩ (.string (B n6))).setCell ⟨w.heap.size+1+1,2,none⟩ (.int .i64 i6)).setCell ⟨w.heap.size+1+1,3,none⟩ (.slice a6 l6 c6)).alloc (.cells #[.int .i64 k6,.string (B n6),.int .i64 i6,.slice a6 l6 c6] 29):=⟨_,rfl⟩;have hset:=hr6.set (d0:=.int .i64 k6) (d1:=.string (B n6)) (d2:=.int .i64 i6) (d3:=.slice a6 l6 c6);have hB9:zG w9 (w.heap.size+1+1) (.int .i64 k6) (.string (B n6)) (.int .i64 i6) (.slice a6 l6 c6) 29:=by rw[hw9];exact hset.1.kept ((zD.refl zC _).alloc _)
   have hU9:zD (fun x=>x=w.heap.size+1+1) w6 w9:=by rw[hw9];exact hset.2.alloc _
   rw[<-hw9];clear hw9 hset;obtain⟨e0,e1,e2,e3⟩:=hB9.cells;refine bodyPost_ret (v:=.tuple #[.agg #[.int .i64 k6,.string (B n6),.int .i64 i6,.slice a6 l6 c6],.bool true]) ?_ rfl ?_
   ·simp[results,Tryz.f156,go_sem,e0,e1,e2,e3]
   ·exact⟨k6,i6,n6,a6,l6,c6,u,by rw[<-HO.out.1],zK.weaken (fun b _ e=>by omega) _ _ (zK.zE hU9 (fun b e=>by omega) _ _ hR6),by rw[<-HO.out.1];exact HO.out.2.1 trivial,by rw[HO.out.2.2];exact Nat.le_refl _,hUw6.trans hU9 (fun x hx e=>by omega)⟩
end
end Go.Proofs.YthgmimncdjhgnaaGreatDoor
namespace Go.LF.Tm
def xJ(by' from':Int):To:=fun i=>if i<from' then(i,true)else(Go.RowKit.wrap64 (i+by'),decide (by'<=1048576))
def zz(l:List Int):To:=fun i=>match l[i.toNat]? with |some n=>(n,true)|none=>(0,false)
def zero:Tm:=mk 0 [] 0 []
def xI(t:Tm)(by' from':Int):Int:=if t.wf≠0 then t.wf else if by'<0\/from'<0 then 5 else if yG (xJ by' from') 0 t then 0 else 5
def xT(t:Tm)(by' from':Int):Tm:=if xI t by' from'=0 then mv (xJ by' from') 0 t else zero
def YL(t:Tm)(l:List Int):Bool:=t.wf == 0 && yG (zz l) 0 t
def Y1(t:Tm)(l:List Int):Tm:=if YL t l then mv (zz l) 0 t else zero
end Go.LF.Tm
namespace Go.Proofs.YthgmimncdjhgnaaGreatDoor
section
open Go.RowKit Go.LF
def Zw(u:Tm)(r:Value)(w:World)(e:Ending)(w':World):Prop:=
  ∃(k i:Int)(n:List UInt8)(a:Option Addr)(len cap:Nat),e=.returned (.tuple #[.agg #[.int .i64 k,.string (B n),.int .i64 i,.slice a len cap],r])/\
   zK (fun x=>x<w.heap.size) w' u.zM [.int .i64 k,.string (B n),.int .i64 i,.slice a len cap]/\zD zC w w'
theorem Zw.on{u:Tm}{r:Value}{w W W':World}{e:Ending}(h:Zw u r w e W)(hU:zD zC W W'):Zw u r w e W':=by
  obtain⟨k,i,n,a,len,cap,h1,h2,h3⟩:=h;exact⟨k,i,n,a,len,cap,h1,h2.on hU,h3.and hU⟩
theorem zm{w W W':World}{u:Tm}{r:Value}{k i:Int}{n:List UInt8}{a:Option Addr}{len cap hb:Nat}{T:TypeId}{z0 z1 z2 z3:Value}(hr:zG W hb z0 z1 z2 z3 T)(hlt:w.heap.size<=hb)(hU:zD zC w W)
    (hR:zK (fun x=>x<=hb) W u.zM [.int .i64 k,.string (B n),.int .i64 i,.slice a len cap])
    (hW:W'=(((W.setCell ⟨hb,0,none⟩ (.int .i64 k)).setCell ⟨hb,1,none⟩ (.string (B n))).setCell ⟨hb,2,none⟩ (.int .i64 i)).setCell ⟨hb,3,none⟩ (.slice a len cap)):
    Zw u r w (.returned (.tuple #[.agg #[.int .i64 k,.string (B n),.int .i64 i,.slice a len cap],r])) W'/\zG W' hb (.int .i64 k) (.string (B n)) (.int .i64 i) (.slice a len cap) T:=by
  have hs:=hr.set (d0:=.int .i64 k) (d1:=.string (B n)) (d2:=.int .i64 i) (d3:=.slice a len cap);rw[<-hW]at hs;exact⟨⟨k,i,n,a,len,cap,rfl,zK.weaken (fun b _ e=>Nat.le_of_lt (Nat.lt_of_lt_of_le e hlt)) _ _ (zK.zE hs.2 (fun b e=>Nat.le_of_eq e) _ _ hR),hU.trans hs.2 (fun b hb' e=>by omega)⟩,hs.1⟩
theorem zFs(w:World)(fb bb:Nat)(from' by':Int)(h1:w.cell? ⟨fb,0,none⟩=some (.int .i64 from'))(h2:w.cell? ⟨bb,0,none⟩=some (.int .i64 by')):
    zAe w 211 [.pointer (some ⟨fb,0,none⟩),.pointer (some ⟨bb,0,none⟩)] (Tm.xJ by' from'):=by
  intro i W h0 hi hU;have c1:=hU.cell h1 (fun x=>x);have c2:=hU.cell h2 (fun x=>x);by_cases hlt:i<from'
  ·have hf:Tm.xJ by' from' i=(i,true):=by unfold Tm.xJ;rw[if_pos hlt]
   rw[hf];clear hf h1 h2 hU;go_enter Tryz.func211,Tryz.ntmps211
   go_wp2_with fail
   refine bodyPost_ret (v:=.tuple #[.int .i64 i,.bool true]) ?_ rfl ?_
   ·simp[results,Tryz.f211,go_sem]
   ·exact⟨rfl,zD.refl _ _⟩
  ·have hf:Tm.xJ by' from' i=(Go.RowKit.wrap64 (i+by'),decide (by'<=1048576)):=by unfold Tm.xJ;rw[if_neg hlt]
   rw[hf];clear hf h1 h2 hU;go_enter Tryz.func211,Tryz.ntmps211
   go_wp2_with fail
   go_region
   all_goals
     go_wp2_with fail
     refine bodyPost_ret (v:=.tuple #[.int .i64 (Go.RowKit.wrap64 (i+by')),.bool (decide (by'<=1048576))]) ?_ rfl ?_
     ·simp[results,Tryz.f211,go_sem]
     ·exact⟨rfl,(zD.refl _ _).drew⟩
theorem zHS(w:World)(tb:Nat)(l:List Int)(a:Option Addr)(cap:Nat)(_hl:l.length<=1100000)(h1:w.cell? ⟨tb,0,none⟩=some (.slice a l.length cap))(hE:zH zC w 1 (l.map (yP.int .i64)) a 0):
    zAe w 157 [.pointer (some ⟨tb,0,none⟩)] (Tm.zz l):=by
  intro i W h0 hi hU;have c1:=hU.cell h1 (fun x=>x);have hE1:=hE.on hU;clear h1 hE hU;by_cases hlt:i<(l.length:Int)
  ·have hn:i.toNat<l.length:=by omega
   have hf:Tm.zz l i=(l[i.toNat],true):=by unfold Tm.zz;rw[List.getElem?_eq_getElem hn]
   obtain⟨b,o,rfl,_,_,hc⟩:=yJ hE1 i.toNat hn;rw[hf];clear hf hE1;generalize l[i.toNat]=x at *
   go_enter Tryz.func157,Tryz.ntmps157
   go_wp2_with fail
   refine bodyPost_ret (v:=.tuple #[.int .i64 x,.bool true]) ?_ rfl ?_
   ·simp[results,Tryz.f157,go_sem]
   ·exact⟨rfl,zD.refl _ _⟩
  ·have hf:Tm.zz l i=(0,false):=by unfold Tm.zz;rw[List.getElem?_eq_none (by omega)]
   rw[hf];clear hf hE1;go_enter Tryz.func157,Tryz.ntmps157
   go_wp2_with fail
   refine bodyPost_ret (v:=.tuple #[.int .i64 0,.bool false]) ?_ rfl ?_
   ·simp[results,Tryz.f157,go_sem]
   ·exact⟨rfl,zD.refl _ _⟩
theorem zAP(t:Tm)(hs:t.wt<=1000000)(by' from':Int)(w:World)(cs:List Value)(h:zK zC w t.zM cs):
    Calls Tryz.prog 198 #[.agg cs.toArray,.int .i64 by',.int .i64 from'] w (Zw (t.xT by' from') (.int .i64 (t.xI by' from')) w):=by
  have hwf:=Tm.YV t;obtain⟨k,n,i,ts,a,cap,ht,rfl,hcap,hE⟩:=zU h;obtain⟨w4,hw4⟩:∃ w4,w4=(((w.alloc (.cells #[.int .i64 k,.string (B n),.int .i64 i,.slice a ts.length cap] 29)).alloc (.cells #[.int .i64 by'] 3)).alloc (.cells #[.int .i64 from'] 3)).alloc (.cells #[.int .i64 0,.string (B []),.int .i64 0,.slice none 0 0] 29):=⟨_,rfl⟩;have hU4:zD zC w w4:=by rw[hw4];exact((((zD.refl zC w).alloc _).alloc _).alloc _).alloc _
  have ht4:zG w4 w.heap.size (.int .i64 k) (.string (B n)) (.int .i64 i) (.slice a ts.length cap) 29:=by
    rw[hw4];exact(((zG.zJ rfl).kept ((zD.refl zC _).alloc _)).kept ((zD.refl zC _).alloc _)).kept ((zD.refl zC _).alloc _)
  have hb4:zt w4 (w.heap.size+1) (.int .i64 by') 3:=by rw[hw4];exact((zt.zJ (by simp)).kept ((zD.refl zC _).alloc _)).kept ((zD.refl zC _).alloc _)
  have hf4:zt w4 (w.heap.size+1+1) (.int .i64 from') 3:=by rw[hw4];exact(zt.zJ (by simp)).kept ((zD.refl zC _).alloc _)
  have hr4:zG w4 (w.heap.size+1+1+1) (.int .i64 0) (.string (B [])) (.int .i64 0) (.slice none 0 0) 29:=by rw[hw4];exact zG.zJ (by simp)
  have h4:=h.on hU4;have HW4:=zF hw4;have HT:=zF ht;obtain⟨x0,x1,x2,x3⟩:=ht4.cells;clear hw4 ht hE h;go_enter Tryz.func198,Tryz.ntmps198
  go_wp2_with fail
  rw[<-show B []={ data:=#[] }from rfl,<-HW4.out];refine(zj t hs w4 _ h4).mono ?_;rintro e w5 ⟨rfl,hU5⟩;have ht5:=ht4.kept hU5;have hb5:=hb4.kept hU5;have hf5:=hf4.kept hU5;have hr5:=hr4.kept hU5;have h5:=h4.on hU5;have hUw5:=hU4.and hU5;clear x0 x1 x2 x3 ht4 hb4 hf4 hr4 h4 hU4 hU5;obtain⟨x0,x1,x2,x3⟩:=ht5.cells;obtain⟨y0,y1,y2,y3⟩:=hr5.cells;obtain⟨z0,z1,z2,z3⟩:=hr5.zI;have b0:=hb5.cell;have f0:=hf5.cell;have q0:=hr5.lt;obtain⟨wf,hwf0⟩:∃ wf,wf=t.wf:=⟨_,rfl⟩;rw[<-hwf0]at hwf ⊢;have HWF:=zF hwf0;clear hwf0;by_cases h0:wf=0
  case neg=>
    have hE:t.xI by' from'=wf:=by unfold Tm.xI;rw[<-HWF.out,if_pos h0]
    have hT:t.xT by' from'=.mk 0 [] 0 []:=by unfold Tm.xT;rw[hE,if_neg h0];rfl
    have hwn:(wf !=0)=true:=by simp[h0]
    have HEE:=zF (And.intro hE hT);clear hE hT hwf h0;go_wp2_with fail
    obtain⟨w8,hw8⟩:∃ w8,w8=(((w5.setCell ⟨w.heap.size+1+1+1,0,none⟩ (.int .i64 0)).setCell ⟨w.heap.size+1+1+1,1,none⟩ (.string (B []))).setCell ⟨w.heap.size+1+1+1,2,none⟩ (.int .i64 0)).setCell ⟨w.heap.size+1+1+1,3,none⟩ (.slice none 0 0):=⟨_,rfl⟩;obtain⟨hG,hB9⟩:=zm (r:=.int .i64 wf) hr5 (by omega) hUw5 (zV (k:=0) (n:=[]) (i:=0)) hw8;try rw[<-show B []={ data:=#[] }from rfl]
    rw[<-hw8];clear hw8;obtain⟨e0,e1,e2,e3⟩:=hB9.cells;refine bodyPost_ret (v:=.tuple #[.agg #[.int .i64 0,.string (B []),.int .i64 0,.slice none 0 0],.int .i64 wf]) ?_ rfl ?_
    ·simp[results,Tryz.f198,go_sem,e0,e1,e2,e3]
    ·rw[HEE.out.1,HEE.out.2];exact hG
  case pos=>
    subst h0;obtain⟨hok,hsz,_⟩:=hwf rfl;have hSE:t.xI by' from'=if by'<0\/from'<0 then 5 else if Tm.yG (Tm.xJ by' from') 0 t then 0 else 5:=by unfold Tm.xI;rw[<-HWF.out,if_neg (by omega)]
    have HSE:=zF hSE;have hTS:=zFs w5 (w.heap.size+1+1) (w.heap.size+1) from' by' f0 b0;have HM:=fun h=>zCS (Tm.xJ by' from') 211 _ t w5 [.int .i64 k,.string (B n),.int .i64 i,.slice a ts.length cap] hTS (fun _ _=>by simp only[go_sem,Tryz.call211]) (by omega) hok h
    have HM2:=HM h5;clear hSE hwf hok hsz HM hTS;have hways:by'<0\/(0<=by'/\from'<0)\/(0<=by'/\0<=from'):=by omega
    rcases hways with g1 |⟨g1,g2⟩|⟨g1,g2⟩;case' inl=>have hE:t.xI by' from'=5:=by rw[HSE.out,if_pos (.inl g1)]
    case' inr.inl=>have hE:t.xI by' from'=5:=by rw[HSE.out,if_pos (.inr g2)]
    case' inr.inr=>
      have hE:t.xI by' from'=if Tm.yG (Tm.xJ by' from') 0 t then 0 else 5:=by rw[HSE.out,if_neg (by omega)]
      have HE:=zF hE;clear hE;go_wp2_with fail
      refine HM2.mono ?_;rintro e w6 ⟨k6,i6,n6,a6,l6,c6,u,rfl,hR6,hu6,hs6,hU6⟩;have hr6:=hr5.kept hU6;have hUw6:=hUw5.and hU6;have hR7:=zK.weaken (O':=fun x=>x<=w.heap.size+1+1+1) (fun b _ e=>by omega) _ _ hR6;clear y0 y1 y2 y3 z0 z1 z2 z3 HM2;obtain⟨y0,y1,y2,y3⟩:=hr6.cells;obtain⟨z0,z1,z2,z3⟩:=hr6.zI;have q6:=hr6.lt;obtain⟨ok,hok⟩:∃ ok,ok=t.yG (Tm.xJ by' from') 0:=⟨_,rfl⟩;rw[<-hok]at hu6 ⊢;have HO:=zF (And.intro hok hu6);clear hok hu6;cases ok
    all_goals first
      |(have hT:t.xT by' from'=.mk 0 [] 0 []:=by unfold Tm.xT;rw[hE];rfl
        have HEE:=zF (And.intro hE hT);clear hE hT HM2;go_wp2_with fail
        obtain⟨w8,hw8⟩:∃ w8,w8=(((w5.setCell ⟨w.heap.size+1+1+1,0,none⟩ (.int .i64 0)).setCell ⟨w.heap.size+1+1+1,1,none⟩ (.string (B []))).setCell ⟨w.heap.size+1+1+1,2,none⟩ (.int .i64 0)).setCell ⟨w.heap.size+1+1+1,3,none⟩ (.slice none 0 0):=⟨_,rfl⟩;obtain⟨hG,hB9⟩:=zm (r:=.int .i64 5) hr5 (by omega) hUw5 (zV (k:=0) (n:=[]) (i:=0)) hw8;try rw[<-show B []={ data:=#[] }from rfl]
        rw[<-hw8];clear hw8;obtain⟨e0,e1,e2,e3⟩:=hB9.cells;refine bodyPost_ret (v:=.tuple #[.agg #[.int .i64 0,.string (B []),.int .i64 0,.slice none 0 0],.int .i64 5]) ?_ rfl ?_
        ·simp[results,Tryz.f198,go_sem,e0,e1,e2,e3]
        ·rw[HEE.out.1,HEE.out.2];exact hG)
      |skip
    case false=>
      have hE:t.xI by' from'=5:=by rw[HE.out,<-HO.out.1];rfl
      have hT:t.xT by' from'=.mk 0 [] 0 []:=by unfold Tm.xT;rw[hE];rfl
      have HEE:=zF (And.intro hE hT);clear hE hT;go_wp2_with fail
      obtain⟨w8,hw8⟩:∃ w8,w8=(((w6.setCell ⟨w.heap.size+1+1+1,0,none⟩ (.int .i64 0)).setCell ⟨w.heap.size+1+1+1,1,none⟩ (.string (B []))).setCell ⟨w.heap.size+1+1+1,2,none⟩ (.int .i64 0)).setCell ⟨w.heap.size+1+1+1,3,none⟩ (.slice none 0 0):=⟨_,rfl⟩;obtain⟨hG,hB9⟩:=zm (r:=.int .i64 5) hr6 (by omega) hUw6 (zV (k:=0) (n:=[]) (i:=0)) hw8;obtain⟨w9,hw9⟩:∃ w9,w9=w8.alloc (.cells #[.int .i64 k6,.string (B n6),.int .i64 i6,.slice a6 l6 c6] 29):=⟨_,rfl⟩;replace hG:=hG.on (W':=w9) (by rw[hw9];exact(zD.refl zC w8).alloc _);replace hB9:=hB9.kept (W':=w9) (by rw[hw9];exact(zD.refl zC w8).alloc _);rw[hw8]at hw9;try rw[<-show B []={ data:=#[] }from rfl]
      rw[<-hw9];clear hw9 hw8;obtain⟨e0,e1,e2,e3⟩:=hB9.cells;refine bodyPost_ret (v:=.tuple #[.agg #[.int .i64 0,.string (B []),.int .i64 0,.slice none 0 0],.int .i64 5]) ?_ rfl ?_
      ·simp[results,Tryz.f198,go_sem,e0,e1,e2,e3]
      ·rw[HEE.out.1,HEE.out.2];exact hG
    case true=>
      have hE:t.xI by' from'=0:=by rw[HE.out,<-HO.out.1];rfl
      have hT:t.xT by' from'=u:=by unfold Tm.xT;rw[hE,HO.out.2];rfl
      have HEE:=zF (And.intro hE hT);clear hE hT;go_wp2_with fail
      obtain⟨w8,hw8⟩:∃ w8,w8=(((w6.setCell ⟨w.heap.size+1+1+1,0,none⟩ (.int .i64 k6)).setCell ⟨w.heap.size+1+1+1,1,none⟩ (.string (B n6))).setCell ⟨w.heap.size+1+1+1,2,none⟩ (.int .i64 i6)).setCell ⟨w.heap.size+1+1+1,3,none⟩ (.slice a6 l6 c6):=⟨_,rfl⟩;obtain⟨hG,hB9⟩:=zm (r:=.int .i64 0) hr6 (by omega) hUw6 hR7 hw8;obtain⟨w9,hw9⟩:∃ w9,w9=w8.alloc (.cells #[.int .i64 k6,.string (B n6),.int .i64 i6,.slice a6 l6 c6] 29):=⟨_,rfl⟩;replace hG:=hG.on (W':=w9) (by rw[hw9];exact(zD.refl zC w8).alloc _);replace hB9:=hB9.kept (W':=w9) (by rw[hw9];exact(zD.refl zC w8).alloc _);rw[hw8]at hw9;try rw[<-show B []={ data:=#[] }from rfl]
      rw[<-hw9];clear hw9 hw8;obtain⟨e0,e1,e2,e3⟩:=hB9.cells;refine bodyPost_ret (v:=.tuple #[.agg #[.int .i64 k6,.string (B n6),.int .i64 i6,.slice a6 l6 c6],.int .i64 0]) ?_ rfl ?_
      ·simp[results,Tryz.f198,go_sem,e0,e1,e2,e3]
      ·rw[HEE.out.1,HEE.out.2];exact hG
end
section
open Go.RowKit Go.LF
theorem zD2(t:Tm)(hs:t.wt<=1000000)(l:List Int)(la:Option Addr)(lc:Nat)(hl:l.length<=1100000)(w:World)(cs:List Value)(h:zK zC w t.zM cs)(hE0:zH zC w 1 (l.map (yP.int .i64)) la 0):
    Calls Tryz.prog 102 #[.agg cs.toArray,.slice la l.length lc] w (Zw (t.Y1 l) (.bool (t.YL l)) w):=by
  have hwf:=Tm.YV t;obtain⟨k,n,i,ts,a,cap,ht,rfl,hcap,hE⟩:=zU h;obtain⟨w4,hw4⟩:∃ w4,w4=((w.alloc (.cells #[.int .i64 k,.string (B n),.int .i64 i,.slice a ts.length cap] 29)).alloc (.cells #[.slice la l.length lc] 22)).alloc (.cells #[.int .i64 0,.string (B []),.int .i64 0,.slice none 0 0] 29):=⟨_,rfl⟩;have hU4:zD zC w w4:=by rw[hw4];exact(((zD.refl zC w).alloc _).alloc _).alloc _
  have ht4:zG w4 w.heap.size (.int .i64 k) (.string (B n)) (.int .i64 i) (.slice a ts.length cap) 29:=by
    rw[hw4];exact((zG.zJ rfl).kept ((zD.refl zC _).alloc _)).kept ((zD.refl zC _).alloc _)
  have hb4:zt w4 (w.heap.size+1) (.slice la l.length lc) 22:=by rw[hw4];exact(zt.zJ (by simp)).kept ((zD.refl zC _).alloc _)
  have hr4:zG w4 (w.heap.size+1+1) (.int .i64 0) (.string (B [])) (.int .i64 0) (.slice none 0 0) 29:=by rw[hw4];exact zG.zJ (by simp)
  have h4:=h.on hU4;have hE4:=hE0.on hU4;have HW4:=zF hw4;have HT:=zF ht;obtain⟨x0,x1,x2,x3⟩:=ht4.cells;clear hw4 ht hE h hE0;have HWF:=zj t hs w4 _ h4;have hB:t.YL l=(t.wf == 0 && Tm.yG (Tm.zz l) 0 t):=rfl;have hT:t.Y1 l=if t.YL l then Tm.mv (Tm.zz l) 0 t else .mk 0 [] 0 []:=rfl
  have HB:=zF (And.intro hB hT);clear hB hT;go_enter Tryz.func102,Tryz.ntmps102
  go_wp2_with fail
  rw[<-show B []={ data:=#[] }from rfl,<-HW4.out];refine HWF.mono ?_;rintro e w5 ⟨rfl,hU5⟩;have ht5:=ht4.kept hU5;have hb5:=hb4.kept hU5;have hr5:=hr4.kept hU5;have h5:=h4.on hU5;have hE5:=hE4.on hU5;have hUw5:=hU4.and hU5;clear x0 x1 x2 x3 ht4 hb4 hr4 h4 hE4 hU4 hU5 HWF;obtain⟨x0,x1,x2,x3⟩:=ht5.cells;obtain⟨y0,y1,y2,y3⟩:=hr5.cells;obtain⟨z0,z1,z2,z3⟩:=hr5.zI;have b0:=hb5.cell;have q0:=hr5.lt;obtain⟨wf,hwf0⟩:∃ wf,wf=t.wf:=⟨_,rfl⟩;rw[<-hwf0]at hwf HB ⊢;clear hwf0;by_cases h0:wf=0
  case neg=>
    have hE:t.YL l=false:=by rw[HB.out.1];simp[h0]
    have hT:t.Y1 l=.mk 0 [] 0 []:=by rw[HB.out.2,hE];rfl
    have HEE:=zF (And.intro hE hT);have hwn:(wf !=0)=true:=by simp[h0]
    clear hE hT hwf h0;go_wp2_with fail
    obtain⟨w8,hw8⟩:∃ w8,w8=(((w5.setCell ⟨w.heap.size+1+1,0,none⟩ (.int .i64 0)).setCell ⟨w.heap.size+1+1,1,none⟩ (.string (B []))).setCell ⟨w.heap.size+1+1,2,none⟩ (.int .i64 0)).setCell ⟨w.heap.size+1+1,3,none⟩ (.slice none 0 0):=⟨_,rfl⟩;obtain⟨hG,hB9⟩:=zm (r:=.bool false) hr5 (by omega) hUw5 (zV (k:=0) (n:=[]) (i:=0)) hw8;try rw[<-show B []={ data:=#[] }from rfl]
    rw[<-hw8];clear hw8;obtain⟨e0,e1,e2,e3⟩:=hB9.cells;refine bodyPost_ret (v:=.tuple #[.agg #[.int .i64 0,.string (B []),.int .i64 0,.slice none 0 0],.bool false]) ?_ rfl ?_
    ·simp[results,Tryz.f102,go_sem,e0,e1,e2,e3]
    ·rw[HEE.out.1,HEE.out.2];exact hG
  case pos=>
    subst h0;obtain⟨hok,hsz,_⟩:=hwf rfl;have hTS:=zHS w5 (w.heap.size+1) l la lc hl b0 hE5;have HM2:=zCS (Tm.zz l) 157 _ t w5 [.int .i64 k,.string (B n),.int .i64 i,.slice a ts.length cap] hTS (fun _ _=>by simp only[go_sem,Tryz.call157]) (by omega) hok h5;clear hwf hok hsz hTS hE5;go_wp2_with fail
    refine HM2.mono ?_;rintro e w6 ⟨k6,i6,n6,a6,l6,c6,u,rfl,hR6,hu6,hs6,hU6⟩;have hr6:=hr5.kept hU6;have hUw6:=hUw5.and hU6;have hR7:=zK.weaken (O':=fun x=>x<=w.heap.size+1+1) (fun b _ e=>by omega) _ _ hR6;clear y0 y1 y2 y3 z0 z1 z2 z3 HM2;obtain⟨y0,y1,y2,y3⟩:=hr6.cells;obtain⟨z0,z1,z2,z3⟩:=hr6.zI;have q6:=hr6.lt;have hE:t.YL l=t.yG (Tm.zz l) 0:=by rw[HB.out.1];simp
    have hT:t.Y1 l=u:=by rw[HB.out.2,hE,hu6]
    have HEE:=zF (And.intro hE hT);clear hE hT hu6;generalize t.yG (Tm.zz l) 0=ok at *
    go_wp2_with fail
    obtain⟨w8,hw8⟩:∃ w8,w8=(((w6.setCell ⟨w.heap.size+1+1,0,none⟩ (.int .i64 k6)).setCell ⟨w.heap.size+1+1,1,none⟩ (.string (B n6))).setCell ⟨w.heap.size+1+1,2,none⟩ (.int .i64 i6)).setCell ⟨w.heap.size+1+1,3,none⟩ (.slice a6 l6 c6):=⟨_,rfl⟩;obtain⟨hG,hB9⟩:=zm (r:=.bool ok) hr6 (by omega) hUw6 hR7 hw8;try rw[<-show B []={ data:=#[] }from rfl]
    rw[<-hw8];clear hw8;obtain⟨e0,e1,e2,e3⟩:=hB9.cells;refine bodyPost_ret (v:=.tuple #[.agg #[.int .i64 k6,.string (B n6),.int .i64 i6,.slice a6 l6 c6],.bool ok]) ?_ rfl ?_
    ·simp[results,Tryz.f102,go_sem,e0,e1,e2,e3]
    ·rw[HEE.out.1,HEE.out.2];exact hG
end
end Go.Proofs.YthgmimncdjhgnaaGreatDoor
namespace Go.LF.Tm
def ZH(by' from':Int):To:=fun v=>(if v<from' then v else v+by',true)
end Go.LF.Tm
namespace Go.Proofs.YthgmimncdjhgnaaGreatDoor
open Go.RowKit Go.LF
def zBn(u:Tm)(w:World)(e:Ending)(w':World):Prop:=
  ∃(k i:Int)(n:List UInt8)(a:Option Addr)(len cap:Nat),e=.returned (.agg #[.int .i64 k,.string (B n),.int .i64 i,.slice a len cap])/\
   zK (fun x=>x<w.heap.size) w' u.zM [.int .i64 k,.string (B n),.int .i64 i,.slice a len cap]/\zD zC w w'
theorem zFj{base H:Nat}{w wr w5 w6 w7:World}{v r0 r1 r2 r3 t0 t1 t2 t3:Value}{us:List Tm}{css:List (List Value)}{u:Tm}{k mi k1 i1:Int}{nm n1:List UInt8}{a1:Option Addr}{len1 cap1 g cap':Nat}
    (hts:yD base wr v us css) (hout:zG wr (H+1+1) (.int .i64 k) (.string (B nm)) (.int .i64 mi) v 29) (htb:zG wr H t0 t1 t2 t3 29) (hrb:zG wr (H+1) r0 r1 r2 r3 29) (hU:zD zC w wr) (hw:w.heap.size=H) (hbase:H+1+1<base) (hbr:base<=wr.heap.size)
    (hU6':zD zC wr w6) (h5:wr.heap.size<=w5.heap.size) (hR6:zK (fun x=>x<w5.heap.size) w6 u.zM [.int .i64 k1,.string (B n1),.int .i64 i1,.slice a1 len1 cap1])
    (hown:w7.ownsRow base 29 4 (.slice (some ⟨g,0,none⟩) (us.length+1) cap') (us.length+1) (css.flatten++[.int .i64 k1,.string (B n1),.int .i64 i1,.slice a1 len1 cap1])) (hgrow:(w6.alloc (.cells #[.int .i64 k1,.string (B n1),.int .i64 i1,.slice a1 len1 cap1] 29)).grownBy w7 v.ownBlock)
    (hat:v.ownBlock=some g\/g=(w6.alloc (.cells #[.int .i64 k1,.string (B n1),.int .i64 i1,.slice a1 len1 cap1] 29)).heap.size):
    ∃(v':Value)(css':List (List Value)),yD base (w7.setCell ⟨H+1+1,3,none⟩ (.slice (some ⟨g,0,none⟩) (us.length+1) cap')) v' (us++[u]) css'/\
     zG (w7.setCell ⟨H+1+1,3,none⟩ (.slice (some ⟨g,0,none⟩) (us.length+1) cap')) (H+1+1) (.int .i64 k) (.string (B nm)) (.int .i64 mi) v' 29/\
     zG (w7.setCell ⟨H+1+1,3,none⟩ (.slice (some ⟨g,0,none⟩) (us.length+1) cap')) H t0 t1 t2 t3 29/\zG (w7.setCell ⟨H+1+1,3,none⟩ (.slice (some ⟨g,0,none⟩) (us.length+1) cap')) (H+1) r0 r1 r2 r3 29/\
     zD zC w (w7.setCell ⟨H+1+1,3,none⟩ (.slice (some ⟨g,0,none⟩) (us.length+1) cap'))/\base<=(w7.setCell ⟨H+1+1,3,none⟩ (.slice (some ⟨g,0,none⟩) (us.length+1) cap')).heap.size:=by
  have hal:zD zC w6 (w6.alloc (.cells #[.int .i64 k1,.string (B n1),.int .i64 i1,.slice a1 len1 cap1] 29)):=(zD.refl zC w6).alloc _;have hup:=hU6'.and hal;have hts6':=hts.on hup;have hou7:=(hout.kept hup).row hgrow hts6' (by omega)
  have hR6':zK (fun b=>b<base\/v.ownBlock=some b) (w6.alloc (.cells #[.int .i64 k1,.string (B n1),.int .i64 i1,.slice a1 len1 cap1] 29)) u.zM [.int .i64 k1,.string (B n1),.int .i64 i1,.slice a1 len1 cap1]:=by
    refine(zK.weaken (fun b _ e=>?_) _ _ hR6).new _;rcases e with e |e
    ·omega
    ·have:=(hts.2.2.1.lt b e).2;omega
  have hT7:=hts6'.appended rfl hR6' hown hgrow hat (Nat.le_refl _);have hset7:zD (fun b=>b=H+1+1) w7 (w7.setCell ⟨H+1+1,3,none⟩ (.slice (some ⟨g,0,none⟩) (us.length+1) cap')):=zD.set (zD.refl _ _) 3 _;have hrow7:=zD.ofRow (zw.grown hts6'.2.2.1 hgrow);have htb7:=((htb.kept hup).zE hrow7 (by omega)).zE hset7 (by omega);have hrb7:=((hrb.kept hup).zE hrow7 (by omega)).zE hset7 (by omega);have hU7:=((hU.and hup).trans hrow7 (fun b hb e=>by omega)).trans hset7 (fun b hb e=>by omega);have hs1:=hset7.size;have hs2:=hrow7.size;have hs3:=hup.size;exact⟨_,_,hT7.zE hset7 (fun b e=>by omega),hou7.YR _,htb7,hrb7,hU7,by omega⟩
theorem zBc(by' from':Int)(hb0:0<=by')(hb1:by'<=1048576)(hf0:0<=from')(hf1:from'<=1048576)(t:Tm):t.size<=100000->(∀ b,∀ x∈t.nodes b,x.ok)->∀(b F:Int)(w:World)(cs:List Value),0<=b->b+t.size<=1000000->F=from'+b->
    zK zC w t.zM cs->Calls Tryz.prog 145 #[.agg cs.toArray,.int .i64 by',.int .i64 F] w (zBn (t.mv (Tm.ZH by' from') b) w):=by
  induction t using Tm.ind with
  |h k nm i ts ih=>
   intro hsz hok b F w cs h0 h1 hFF hR;obtain⟨a,cap,rfl,hcap,hE⟩:=zd.1 hR;have hlen:=Tm.zN ts;simp only[Tm.zS]at hsz h1;have hoks:=Tm.qt hok;have hno:=hok b;rw[Tm.zb]at hno;have hi5:k=5->0<=i/\i<=1048576:=fun e=>(hno _ (List.mem_cons_self ..)).1 (by simp[e])
   obtain⟨i0,hi,hi0,hi1,hi2⟩:=info_parts yV;obtain⟨w2,hw2⟩:∃ w2,w2=((w.alloc (.cells #[.int .i64 k,.string (B nm),.int .i64 i,.slice a ts.length cap] 29)).alloc (.cells #[.int .i64 0,.string (B []),.int .i64 0,.slice none 0 0] 29)).alloc (.cells #[.int .i64 k,.string (B nm),.int .i64 i,.slice none 0 0] 29):=⟨_,rfl⟩;have hU2:zD zC w w2:=by rw[hw2];exact(((zD.refl zC w).alloc _).alloc _).alloc _
   have ht2:zG w2 w.heap.size (.int .i64 k) (.string (B nm)) (.int .i64 i) (.slice a ts.length cap) 29:=by rw[hw2];exact((zG.zJ rfl).kept ((zD.refl zC _).alloc _)).kept ((zD.refl zC _).alloc _)
   have hr2:zG w2 (w.heap.size+1) (.int .i64 0) (.string (B [])) (.int .i64 0) (.slice none 0 0) 29:=by rw[hw2];exact(zG.zJ (by simp)).kept ((zD.refl zC _).alloc _)
   have ho2:zG w2 (w.heap.size+1+1) (.int .i64 k) (.string (B nm)) (.int .i64 i) (.slice none 0 0) 29:=by rw[hw2];exact zG.zJ (by simp)
   obtain⟨t0,t1,t2,t3⟩:=ht2.cells;obtain⟨o0,o1,o2,o3⟩:=ho2.cells;obtain⟨f0,f1,f2,f3⟩:=ho2.zI;have hz2:=ho2.lt;have HW2:=zF hw2;have HW:=zF (And.intro hsz h1);obtain⟨c24,hc24⟩:∃ c,c=(k == 5 && decide (F<=i)):=⟨_,rfl⟩
   have hways:((k == 5)=true/\F<=i)\/((k == 5)=true/\i<F)\/(k == 5)=false:=by
     by_cases h:k=5
     ·by_cases h':F<=i
      ·exact .inl ⟨by simp[h],h'⟩
      ·exact .inr (.inl ⟨by simp[h],by omega⟩)
     ·exact .inr (.inr (by simp[h]))
   have HC:=zF hc24;have HY:=zF hways;have hF0:0<=F:=by omega
   have hF1:F<=3000000:=by omega
   have HFF:=zF hFF;clear hw2 hR hno hok hc24 hways hFF;go_enter Tryz.func145,Tryz.ntmps145
   go_upto_region 2 with fail
   rw[<-HW2.out];go_cut [24]from 9 to 24 (fun v24 wx=>v24=.bool c24/\w2=wx)
   case first=>
     rcases HY.out with⟨h5,hbi⟩|⟨h5,hbi⟩|h5
     all_goals
       go_wp2_with fail
       go_meet
       case rel=>exact⟨by rw[HC.out];simp[h5]<;>omega,rfl⟩
   case rest=>
     obtain⟨rfl,rfl⟩:=hcut;go_upto_if 24 with fail
     go_cut []from 9 to 29 (fun wc=>zG wc w.heap.size (.int .i64 k) (.string (B nm)) (.int .i64 i) (.slice a ts.length cap) 29/\zG wc (w.heap.size+1) (.int .i64 0) (.string (B [])) (.int .i64 0) (.slice none 0 0) 29/\
       zG wc (w.heap.size+1+1) (.int .i64 k) (.string (B nm)) (.int .i64 (Tm.xu (Tm.ZH by' from') b k i)) (.slice none 0 0) 29/\zD zC w wc)
     case first=>
       cases c24
       ·go_wp2_with fail
        go_meet
        case rel=>
          have hc:=HC.out
          have e:Tm.xu (Tm.ZH by' from') b k i=i:=by
            unfold Tm.xu;by_cases hk:k=5/\b<=i
            ·rw[if_pos hk];have hn:¬F<=i:=fun e=>by simp[hk.1,e]at hc
             unfold Tm.ZH;have:=HFF.out;simp only;rw[if_pos (by omega)];omega
            ·rw[if_neg hk]
          exact⟨ht2,hr2,by rw[e];exact ho2,hU2⟩
       ·have hki:k=5/\F<=i:=by have:=HC.out;simpa using this.symm
        obtain⟨hk5,hbi⟩:=hki;have hi6:=hi5 hk5
        have e:Tm.xu (Tm.ZH by' from') b k i=i+by':=by
          have:=HFF.out;unfold Tm.xu;rw[if_pos ⟨hk5,by omega⟩];unfold Tm.ZH;simp only;rw[if_neg (by omega)];omega
        have HEe:=zF e;clear e hi5 hk5;go_wp2_with fail
        go_meet
        case rel=>exact⟨ht2.other (by omega) _,hr2.other (by omega) _,by rw[HEe.out];exact ho2.qO _,hU2.trans (zD.set (zD.refl _ _) 2 _) (fun x hx e=>by omega)⟩
     case rest=>
       obtain⟨htp,hrp,hop,hUp⟩:=hcut;clear t0 t1 t2 t3 o0 o1 o2 o3 f0 f1 f2 f3 ht2 hr2 ho2 hU2 hi5;obtain⟨mi,hmi⟩:∃ mi,mi=Tm.xu (Tm.ZH by' from') b k i:=⟨_,rfl⟩;rw[<-hmi]at hop;have HMI:=zF hmi;have hbase:w.heap.size+1+1<wc.heap.size:=hop.lt;obtain⟨wp,rfl⟩:∃ wp,wp=wc:=⟨_,rfl⟩;clear hmi;go_wp2_with fail
       go_loopw [8] (fun v8 wr=>∃(j:Nat)(v:Value)(css:List (List Value)),v8=.int .i64 j/\j<=ts.length/\yD wp.heap.size wr v (Tm.yu (Tm.ZH by' from') b k 0 (ts.take j)) css/\
           zG wr (w.heap.size+1+1) (.int .i64 k) (.string (B nm)) (.int .i64 mi) v 29/\zG wr w.heap.size (.int .i64 k) (.string (B nm)) (.int .i64 i) (.slice a ts.length cap) 29/\
           zG wr (w.heap.size+1) (.int .i64 0) (.string (B [])) (.int .i64 0) (.slice none 0 0) 29/\zD zC w wr/\wp.heap.size<=wr.heap.size)
         (fun v8 _=>ts.length - (intOf v8).toNat)
       case atStart=>exact⟨0,_,[],rfl,Nat.zero_le _,by simp only[List.take_zero,Tm.yu];exact yD.nil _ _,hop,htp,hrp,hUp,Nat.le_refl _⟩
       case round=>
         obtain⟨j,v,css,rfl,hj,hts,hout,htb,hrb,hU,hbr⟩:=hrel;obtain⟨b0,b1,b2,b3⟩:=hout.cells;obtain⟨f0,f1,f2,f3⟩:=hout.zI;obtain⟨t0,t1,t2,t3⟩:=htb.cells;have qo:=hout.lt;have hj0:(0:Int)<=(j:Int):=by omega
         have hjb:(j:Int)<=100000:=by omega
         by_cases hlt:j<ts.length
         ·obtain⟨eb,eo,ek,en,ex,es,ec,rfl,hebl,_,p0,p1,p2,p3,hRp⟩:=zk (hE.on hU) j hlt;have hsz1:=Tm.zR (List.getElem_mem hlt);obtain⟨hu0,hu1⟩:=Tm.yF k j;have hj1:(j:Int)<(ts.length:Int):=by omega
          have hd:zD zC wr wr.drew:=(zD.refl zC wr).drew;have H2:=fun w'(hU:zD zC wr w')=>(Yx k j j rfl nm i (.slice (some ⟨eb,eo,none⟩) ts.length cap) w').mono fun _ _ ⟨he,hV⟩=>(⟨he,hU.and hV⟩:_/\zD zC wr _)
          have IH:=fun(z:Int)w'(hz:z=F+Tm.under k j)(hU:zD zC wr w')=>ih (ts[j]'hlt) (List.getElem_mem hlt) (by omega) (hoks _ (List.getElem_mem hlt)) (b+Tm.under k j) z w' _ (by omega) (by omega) (by have:=HFF.out;omega) (hRp.on hU)
          obtain⟨us,hus⟩:∃ us,us=Tm.yu (Tm.ZH by' from') b k 0 (ts.take j):=⟨_,rfl⟩;obtain⟨u,hu⟩:∃ u,u=(ts[j]'hlt).mv (Tm.ZH by' from') (b+Tm.under k j):=⟨_,rfl⟩;have hul:us.length=j:=by rw[hus,Tm.xR,List.length_take];omega
          have hsucc:us++[u]=Tm.yu (Tm.ZH by' from') b k 0 (ts.take (j+1)):=by rw[Tm.ZA _ _ _ _ _ hlt,<-hus,<-hu]
          rw[<-hus]at hts;rw[<-hu]at IH;have HS:=zF (And.intro hul hsucc);have hul6:us.length<=1000000:=by omega
          have HLT:=zF (show j<ts.length from hlt);have hzw:IntKind.i64.wrap (F+Tm.under k j)=F+Tm.under k j:=Go.IntWalk.i64_in _ (by omega);clear hul hsucc hus hu ih;generalize Tm.under k j=ud at *
          generalize (ts[j]'hlt).args.length=el at *
          go_wp2_with fail
          go_region_law (first
            |((rw[if_pos (by rfl)]);go_simp;(go_at_call 136);refine(H2 _ hd).mono ?_;rintro e w5 ⟨rfl,hU5⟩;have hout5:=hout.kept hU5;have htb5:=htb.kept hU5;have q5:=hout5.lt;have c5:=hout5.cells.2.2.2;have z5:=hout5.frozen 3;have y5:=htb5.cells.2.2.2;have ss5:=hU5.size;have p05:=hU5.cell p0 (fun x=>x);have p15:=hU5.cell p1 (fun x=>x);have p25:=hU5.cell p2 (fun x=>x);have p35:=hU5.cell p3 (fun x=>x))
            |((rw[if_pos (by rfl)]);go_simp;(go_at_call 145);refine(IH _ _ (by first |rfl |omega) hU5).mono ?_;rintro e w6 ⟨k1,i1,n1,a1,len1,cap1,rfl,hR6,hU6⟩;have hU6':zD zC wr w6:=hU5.and hU6;have hout6:=hout.kept hU6';have htb6:=htb.kept hU6';have q6:=hout6.lt;have c6:=hout6.cells.2.2.2;have z6:=hout6.frozen 3;have y6:=htb6.cells.2.2.2;have ss6:=hU6'.size;have hts6:=hts.on hU6')
            |(refine step_append_lies _ (by rfl) _ _ 26 (by rfl) wp.heap.size 29 i0 (.agg #[.int .i64 0,.string (B []),.int .i64 0,.slice none 0 0]) 4 56 (by kernel_rfl) hi hi0 hi1 hi2 rfl (by decide) v us.length css.flatten (by rfl) ((hts6.on ((zD.refl zC w6).alloc _)).2.2.1) ⟨w6.heap.size,0,none⟩ 1 1 [.int .i64 k1,.string (B n1),.int .i64 i1,.slice a1 len1 cap1] (by rfl) rfl (World.news_of_block (heap_alloc_new w6 _)) (by simp[Value.oneCell']) (by omega) (by simp only[maxLen];omega) (by omega) (by simp;omega) _ rfl ?_;intro g cap' w7 hown hgrow hat hlt7;have hout7:=(hout6.kept ((zD.refl zC w6).alloc _)).row hgrow (hts6.on ((zD.refl zC w6).alloc _)) (by omega);have c7:=hout7.cells.2.2.2;have z7:=hout7.frozen 3))
          all_goals
            obtain⟨v',css',hT7,hou8,htb8,hrb8,hU8,hsz8⟩:=zFj hts hout htb hrb hU rfl hbase hbr hU6' ss5 hR6 hown hgrow hat;rw[HS.out.2]at hT7;have HT7:=zF hT7;clear hT7;go_wp2_with fail
            go_roundw
            case rel=>exact⟨j+1,_,_,by go_num,Nat.succ_le_of_lt HLT.out,HT7.out,hou8,htb8,hrb8,hU8,hsz8⟩
            case measure=>(have:=HLT.out;simp[intOf];omega)
         ·obtain⟨us,hus⟩:∃ us,us=Tm.yu (Tm.ZH by' from') b k 0 (ts.take j):=⟨_,rfl⟩;rw[<-hus]at hts;obtain⟨s0,s1,s2,s3⟩:=hrb.cells;obtain⟨g0,g1,g2,g3⟩:=hrb.zI;have qr:=hrb.lt;have hjl:j=ts.length:=by omega
          have hjn:¬(j:Int)<(ts.length:Int):=by omega
          obtain⟨a9,cap9,rfl,hcap9,hE9⟩:=hts.rep;obtain⟨len,hlen9⟩:∃ len,len=us.length:=⟨_,rfl⟩;rw[<-hlen9]at hout hcap9 b3
          have hfin:Tm.mv (Tm.ZH by' from') b (.mk k nm i ts)=.mk k nm mi us:=by
            rw[List.take_of_length_le (by omega)]at hus;rw[Tm.y8,<-HMI.out,<-hus]
          have HL:=zF hlen9;have HFI:=zF hfin;have hRr:zK (fun x=>x<=w.heap.size+1) wr (Tm.mk k nm mi us).zM [.int .i64 k,.string (B nm),.int .i64 mi,.slice a9 len cap9]:=zd.2 ⟨a9,cap9,by rw[HL.out],by rw[<-HL.out];exact hcap9,zH.weaken (fun b _ e=>by omega) _ _ _ _ hE9⟩;clear hlen9 hjl hts hus hfin;go_wp2_with fail
          obtain⟨w9,hw9⟩:∃ w9,w9=(((wr.setCell ⟨w.heap.size+1,0,none⟩ (.int .i64 k)).setCell ⟨w.heap.size+1,1,none⟩ (.string (B nm))).setCell ⟨w.heap.size+1,2,none⟩ (.int .i64 mi)).setCell ⟨w.heap.size+1,3,none⟩ (.slice a9 len cap9):=⟨_,rfl⟩;have hset9:=hrb.set (d0:=.int .i64 k) (d1:=.string (B nm)) (d2:=.int .i64 mi) (d3:=.slice a9 len cap9);rw[<-hw9]at hset9;rw[<-hw9];clear hw9;obtain⟨e0,e1,e2,e3⟩:=hset9.1.cells;refine bodyPost_ret (v:=.agg #[.int .i64 k,.string (B nm),.int .i64 mi,.slice a9 len cap9]) ?_ rfl ?_
          ·simp[results,Tryz.f145,go_sem,e0,e1,e2,e3]
          ·rw[HFI.out];exact⟨k,mi,nm,a9,len,cap9,rfl,zK.weaken (fun b _ e=>by omega) _ _ (zK.zE hset9.2 (fun b e=>by omega) _ _ hRr),hU.trans hset9.2 (fun x hx e=>by omega)⟩
end Go.Proofs.YthgmimncdjhgnaaGreatDoor
namespace Go.LF.Tm
section
theorem zDn(f:To)(t:Tm)(h:∀ x∈nodes 0 t,x.k=5->x.b<=x.i->(f (x.i - x.b)).2=true/\0<=(f (x.i - x.b)).1/\(f (x.i - x.b)).1<=1048576 - x.b):yG f 0 t=true:=by
  rw[ZS,List.all_eq_true];intro x hx;unfold XK;by_cases hk:x.k=5/\x.b<=x.i
  ·obtain⟨h1,h2,h3⟩:=h x hx hk.1 hk.2;simp[h1,h2,h3]
  ·have:(x.k == 5 && decide (x.b<=x.i))=false:=by rw[Bool.eq_false_iff];intro e;exact hk (by simpa using e)
   rw[this];rfl
theorem zCj(f g:To)(t:Tm)(h:∀ x∈nodes 0 t,x.k=5->x.b<=x.i->0<=(f (x.i - x.b)).1/\(g (f (x.i - x.b)).1).2=true/\0<=(g (f (x.i - x.b)).1).1/\(g (f (x.i - x.b)).1).1<=1048576 - x.b):yG g 0 (mv f 0 t)=true:=by
  refine zDn g _ ?_;rw[QD];intro y hy;obtain⟨x,hx,rfl⟩:=List.mem_map.1 hy;simp only;intro h5 hbi;unfold xu at hbi ⊢;by_cases hk:x.k=5/\x.b<=x.i
  ·rw[if_pos hk];obtain⟨h1,h2,h3,h4⟩:=h x hx hk.1 hk.2;rw[show(f (x.i - x.b)).1+x.b - x.b=(f (x.i - x.b)).1 by omega];exact⟨h2,h3,h4⟩
  ·rw[if_neg hk]at hbi;exact absurd ⟨h5,hbi⟩ hk
theorem zFw{f g:To}{x:Nd0}(h:x.k=5->x.b<=x.i->(f (x.i - x.b)).1=(g (x.i - x.b)).1):xu f x.b x.k x.i=xu g x.b x.k x.i:=by
  unfold xu;by_cases hk:x.k=5/\x.b<=x.i
  ·rw[if_pos hk,if_pos hk,h hk.1 hk.2]
  ·rw[if_neg hk,if_neg hk]
theorem YP.free{t:Tm}{sz v m:Nat}(h:YP t sz v m)(hs:sz<=4096):∀ x∈nodes 0 t,x.k=5->x.b<=x.i->0<=x.i - x.b/\x.i - x.b<v/\0<=x.b/\x.b<=4096:=by
  intro x hx hk hb;have h1:=zDr t x hx hk;have h2:=zBA t 0 x hx;have:=h.scope;have:=h.size;omega
theorem YA{a c v:Int}(ha:0<=a)(ha2:a<=1048576)(hv:0<=v)(hv2:v<=1048576):xJ a c v=(if v<c then v else v+a,true):=by
  unfold xJ;by_cases h:v<c
  ·rw[if_pos h,if_pos h]
  ·rw[if_neg h,if_neg h,decide_eq_true ha2];congr 1;unfold Go.RowKit.wrap64;omega
end
section
mutual
def Za:Tm->Int
  |mk k _ i l=>Qe (if k == 5 then i else -1) l
def Qe(acc:Int):List Tm->Int
  | []=>acc
  |t :: ts=>Qe (max acc (Za t)) ts
end
theorem zBj(t:Tm)(m:Int)(hm: -1<=m):∀ b,(Za t<=m↔∀ x∈nodes b t,x.k=5->x.i<=m):=by
  induction t using ind with
  |h k n i l ih=>
   intro b
   have key:∀(l':List Tm),(∀ t∈l',∀ b,(Za t<=m↔∀ x∈nodes b t,x.k=5->x.i<=m))->∀ j acc,(Qe acc l'<=m↔acc<=m/\∀ x∈zX b k j l',x.k=5->x.i<=m):=by
     intro l';induction l' with
     |nil=>intro _ j acc;simp[Qe,zX]
     |cons t ts ih2=>
      intro h j acc;rw[Qe,ih2 (fun t ht=>h t (by simp[ht])) (j+1)];have h1:=h t (by simp) (b+under k j);simp only[zX,List.mem_append];constructor
      ·rintro⟨h2,h3⟩;refine⟨by omega,fun x hx=>?_⟩;rcases hx with hx |hx
       ·exact h1.1 (by omega) x hx
       ·exact h3 x hx
      ·rintro⟨h2,h3⟩;have:=h1.2 (fun x hx=>h3 x (.inl hx));exact⟨by omega,fun x hx=>h3 x (.inr hx)⟩
   rw[Za,key l ih 0,zb];constructor
   ·rintro⟨h1,h2⟩ x hx hk;rcases List.mem_cons.1 hx with rfl |hx
    ·simp only at hk;subst hk;simpa using h1
    ·exact h2 x hx hk
   ·intro h;refine⟨?_,fun x hx=>h x (by simp[hx])⟩;by_cases hk:(k == 5)=true
    ·rw[if_pos hk];exact h ⟨b,k,n,i⟩ (by simp) (by simpa using hk)
    ·rw[if_neg hk];omega
theorem qM(t:Tm)(hw:t.wf=0)(by' from':Int)(h0:0<=by')(h1:by'<=1048576)(_h2:0<=from')(_h3:from'<=1048576):
    mv (ZH by' from') 0 t=mv (xJ by' from') 0 t/\(Za (mv (ZH by' from') 0 t)<=1048576↔yG (xJ by' from') 0 t=true):=by
  have hok:=(YV t hw).1 0;have hsz:=(YV t hw).2.1
  have hn:∀ x∈nodes 0 t,x.k=5->0<=x.i/\x.i<=1048576/\0<=x.b:=fun x hx hk=>by
    have:=(hok x hx).1 (by simp[hk]);have:=zBA t 0 x hx;omega
  have e1:mv (ZH by' from') 0 t=mv (xJ by' from') 0 t:=Xp _ _ _ _ (fun x hx=>zFw (fun hk hb=>by
    have:=hn x hx hk;rw[YA h0 h1 (by omega) (by omega)];rfl))
  refine⟨e1,?_⟩;rw[zBj _ _ (by omega) 0,QD,ZS,List.all_eq_true];constructor
  ·intro h x hx;unfold XK;by_cases hk:x.k=5/\x.b<=x.i
   ·have h4:=hn x hx hk.1;have h5:=h _ (List.mem_map.2 ⟨x,hx,rfl⟩) hk.1;simp only[xu]at h5;rw[if_pos hk]at h5;rw[YA h0 h1 (by omega) (by omega)];unfold ZH at h5;simp only at h5;simp only[hk.1,Bool.or_eq_true,Bool.and_eq_true,decide_eq_true_eq,Bool.true_and];right;split at h5<;>rename_i hlt
    ·rw[if_pos hlt];omega
    ·rw[if_neg hlt];omega
   ·have:(x.k == 5 && decide (x.b<=x.i))=false:=by rw[Bool.eq_false_iff];intro e;exact hk (by simpa using e)
    rw[this];rfl
  ·intro h y hy hk5;obtain⟨x,hx,rfl⟩:=List.mem_map.1 hy;simp only at hk5 ⊢;have h4:=hn x hx hk5;unfold xu;by_cases hb:x.b<=x.i
   ·rw[if_pos ⟨hk5,hb⟩];have h5:=h x hx;unfold XK at h5;rw[YA h0 h1 (by omega) (by omega)]at h5;simp only[hk5,hb]at h5;simp at h5;unfold ZH;simp only;split<;>rename_i hlt
    ·omega
    ·rw[if_neg hlt]at h5;omega
   ·rw[if_neg (fun e=>hb e.2)];omega
end
end Go.LF.Tm
namespace Go.Proofs.YthgmimncdjhgnaaGreatDoor
section
open Go.RowKit Go.LF
def _root_.Go.LF.Tm.mvz(f:Tm.To)(b:Int)(t:Tm):Tm:=if t.yG f b then t.mv f b else .mk 0 [] 0 []
theorem _root_.Go.LF.Tm.zAz{f:Tm.To}{b:Int}{t:Tm}(h:t.yG f b=false):t.mvz f b=.mk 0 [] 0 []:=by unfold Tm.mvz;rw[h];rfl
theorem _root_.Go.LF.Tm.zGW{f:Tm.To}{b:Int}{t:Tm}(h:t.yG f b=true):t.mvz f b=t.mv f b:=by unfold Tm.mvz;rw[h];rfl
abbrev qv(tb eb eo:Nat)(c0 c1 c2 c3 d0 d1 d2 d3:Value)(w':World):Prop:=
  ZK tb c0 c1 c2 c3 w'/\w'.cell? ⟨eb,eo,none⟩=some d0/\w'.cell? ⟨eb,eo+1,none⟩=some d1/\w'.cell? ⟨eb,eo+2,none⟩=some d2/\w'.cell? ⟨eb,eo+3,none⟩=some d3
theorem qv.zE{tb eb eo:Nat}{c0 c1 c2 c3 d0 d1 d2 d3:Value}{w w':World}{S:Nat->Prop}(h:qv tb eb eo c0 c1 c2 c3 d0 d1 d2 d3 w)(hU:zD S w w')(h1:¬S tb)(h2:¬S eb):qv tb eb eo c0 c1 c2 c3 d0 d1 d2 d3 w':=
  ⟨h.1.zE hU h1,hU.cell h.2.1 h2,hU.cell h.2.2.1 h2,hU.cell h.2.2.2.1 h2,hU.cell h.2.2.2.2 h2⟩
theorem qv.on{tb eb eo:Nat}{c0 c1 c2 c3 d0 d1 d2 d3:Value}{w w':World}(h:qv tb eb eo c0 c1 c2 c3 d0 d1 d2 d3 w)(hU:zD zC w w'):qv tb eb eo c0 c1 c2 c3 d0 d1 d2 d3 w':=h.zE hU (fun x=>x) (fun x=>x)
theorem qv.new{tb eb eo:Nat}{c0 c1 c2 c3 d0 d1 d2 d3:Value}{w:World}(h:qv tb eb eo c0 c1 c2 c3 d0 d1 d2 d3 w)(o:Obj):qv tb eb eo c0 c1 c2 c3 d0 d1 d2 d3 (w.alloc o):=h.on ((zD.refl zC w).alloc o)
theorem qv.set{tb eb eo r:Nat}{c0 c1 c2 c3 d0 d1 d2 d3:Value}{w:World}(h:qv tb eb eo c0 c1 c2 c3 d0 d1 d2 d3 w)(h1:tb≠r)(h2:eb≠r)(o:Nat)(v:Value):qv tb eb eo c0 c1 c2 c3 d0 d1 d2 d3 (w.setCell ⟨r,o,none⟩ v):=h.zE (zD.set (zD.refl _ w) o v) h1 h2
end
section
open Go.RowKit Go.LF
theorem zEj(y:Nat)(hy:y<=1100000)(w:World):
    Calls Tryz.prog 183 #[.int .u64 1,.int .u64 y] w fun e w'=>e=.returned (.tuple #[.int .u64 0,.int .u64 y])/\w'=w:=by
  have e1:=Mul64.maskN y (by omega);rw[show y % 4294967296=y by omega]at e1;have e2:(y:Int) / 4294967296=0:=by omega
  have e3:IntKind.u64.wrap (y:Int)=(y:Int):=Mul64.wrapN y (by omega);have e4:bits .and .u64 1 4294967295=1:=by kernel_rfl
  have e5:bits .and .u64 0 4294967295=0:=by kernel_rfl
  have e6:IntKind.u64.wrap 0=0:=by kernel_rfl
  have e7:(0:Int) / 4294967296=0:=by omega
  go_enter Tryz.func183,Tryz.ntmps183
  go_wp2_with fail
  refine bodyPost_ret (v:=.tuple #[.int .u64 0,.int .u64 y]) ?_ rfl ⟨rfl,rfl⟩;simp[results,Tryz.f183,go_sem]
theorem zE7(y:Nat)(hy:y<=1100000)(w:World):
    Calls Tryz.prog 155 #[.int .u64 1,.int .u64 y] w fun e w'=>e=.returned (.tuple #[.int .u64 0,.int .u64 y])/\w'=w:=by
  go_enter Tryz.func155,Tryz.ntmps155
  go_wp2_with fail
  refine(zEj y hy w).mono ?_;rintro e w' ⟨rfl,rfl⟩;go_wp2_with fail
  refine bodyPost_ret (v:=.tuple #[.int .u64 0,.int .u64 y]) ?_ rfl ⟨rfl,rfl⟩;simp[results,Tryz.f155,go_sem]
def zo(m n:Nat):List Value:=List.replicate m (.int .i64 (-1))++List.replicate (n - m) (.int .i64 0)
theorem Y6{m n c:Nat}(h:m+c<=n):splice (zo m n) m (List.replicate c (.int .i64 (-1)))=zo (m+c) n:=by
  unfold splice zo;rw[List.take_left' (by simp),List.length_replicate,List.drop_append,List.drop_eq_nil_of_le (by simp),List.nil_append,List.length_replicate,List.drop_replicate,<-List.append_assoc,List.replicate_append_replicate];congr 2;omega
theorem zB7{W:World}{g m n:Nat}{T:TypeId}(h:W.heap[g]? =some (.cells (zo m n).toArray T (0,0)))(i:Nat)(hi:i<m):W.cell? ⟨g,i,none⟩=some (.int .i64 (-1)):=by
  simp[World.cell?,h,zo,List.getElem?_append,hi]
theorem zEo(n:Nat):madeCells #[.int .i64 0] n=(zo 0 n).toArray:=by
  apply Array.ext
  ·simp[madeCells,zo]
  ·intro i h1 h2;have e:i % 1=0:=Nat.mod_one i;simp[madeCells,zo,e]
theorem Zc(n:Nat)(hn:n<=1100000)(w:World):
    (Instr.makeSlice 22 (.int .i64 n) (.int .i64 n)).run Tryz.prog w=.ok (.slice (some ⟨w.heap.size,0,none⟩) n n) (w.alloc (.cells (zo 0 n).toArray 3)):=by
  obtain⟨i0,hi,hi0,hi1,hi2⟩:=info_parts Zq;have h:=run_make (P:=Tryz.prog) w 22 3 i0 _ (by kernel_rfl) hi hi0 .i64 .i64 n n (by omega) (by omega) (by rw[hi2];omega) (by omega);rw[Int.toNat_natCast,hi1,Nat.mul_one]at h;rw[<-zEo];exact h
theorem zDQ(n:Nat)(hn:n<=1100000)(w:World)(b o:Nat)(hb:w.cell? ⟨b,o,none⟩=some (.int .i64 (-1))):
    Calls Tryz.prog 101 #[.slice (some ⟨b,o,none⟩) 1 1,.int .i64 n] w fun e w'=>e=.returned (.slice (some ⟨w.heap.size,0,none⟩) n n)/\
      w'.heap[w.heap.size]? =some (.cells (zo n n).toArray 3 (0,0))/\zD zC w w':=by
  have HM:=zE7 n hn w;have HK:=Zc n hn w;obtain⟨m,hm⟩:∃ m,m=Nat.min 1 n:=⟨_,rfl⟩;have hm1:m<=1:=by rw[hm];exact Nat.min_le_left _ _
  have hm2:m<=n:=by rw[hm];exact Nat.min_le_right _ _
  have hm3:0<n->0<m:=by intro h;rw[hm];exact Nat.lt_min.2 ⟨by omega,h⟩
  have hCP:=run_copy_row (P:=Tryz.prog) (w.alloc (.cells (zo 0 n).toArray 3)) 22 22 3 3 w.heap.size 0 n n ⟨b,o,none⟩ 1 1 (zo 0 n).toArray 3 (List.replicate m (.int .i64 (-1))) (by kernel_rfl) (by kernel_rfl) (heap_alloc_new w _) (by simp[hm])
    (fun j v hj=>by
      have hjm:j<m:=by simpa using(List.getElem?_eq_some_iff.1 hj).1
      obtain rfl:j=0:=by omega
      have hv:v=.int .i64 (-1):=by rw[List.getElem?_replicate,if_pos hjm]at hj;cases hj;rfl
      have hadd:(⟨b,o,none⟩:Addr).add 0=⟨b,o,none⟩:=by unfold Addr.add;split<;>simp_all
      rw[hadd,hv];exact((zD.refl zC w).alloc _).cell hb (fun x=>x)) (by simp[zo];omega) (by simp[Value.oneCell'])
  have hrow:(zo 0 n).take 0++List.replicate m (.int .i64 (-1))++(zo 0 n).drop (0+m)=zo m n:=by
    have:=Y6 (m:=0) (n:=n) (c:=m) (by omega);rw[Nat.zero_add]at this;rw[<-this];simp[splice]
  simp only[List.length_replicate]at hCP;rw[hrow]at hCP;obtain⟨wc,hwc⟩:∃ wc,wc=(w.alloc (.cells (zo 0 n).toArray 3)).setRow w.heap.size (zo m n).toArray:=⟨_,rfl⟩;have hg:wc.heap[w.heap.size]? =some (.cells (zo m n).toArray 3 (0,0)):=by rw[hwc];exact setRow_heap _ _ _ _ _ _ (heap_alloc_new w _)
  have hU:zD zC w wc:=by
    have hb:=below_setRow (((zD.refl (fun k=>w.heap.size<=k) w).alloc (.cells (zo 0 n).toArray 3)).below (Nat.le_refl _)) (Nat.le_refl _) (zo m n).toArray;rw[<-hwc]at hb;exact zD.ZR hb
  rw[<-hwc]at hCP;have HG:=zF (And.intro hg hU);clear hwc hrow hm hb hg hU;go_enter Tryz.func101,Tryz.ntmps101
  go_wp2_with fail
  refine HM.mono ?_;rintro e w' ⟨rfl,rfl⟩;go_wp2_with fail
  go_loopw [8] (fun v8 wr=>∃ m:Nat,v8=.int .i64 m/\m<=n/\(0<n->0<m)/\wr.heap[w'.heap.size]? =some (.cells (zo m n).toArray 3 (0,0))/\zD zC w' wr) (fun v8 _=>n - (intOf v8).toNat)
  case atStart=>exact⟨m,by first |rfl |simp[goInt],hm2,hm3,HG.out.1,HG.out.2⟩
  case round=>
    obtain⟨m,rfl,hm,hm3,hg,hU⟩:=hrel;have HG:=zF hg;clear hg hCP HK HM;by_cases hlt:m<n
    ·have hlt':(m:Int)<(n:Int):=by omega
     have hnm:¬n=m:=by omega
     obtain⟨c,hc⟩:∃ c,c=Nat.min m (n - m):=⟨_,rfl⟩;have hc1:c<=m:=by rw[hc];exact Nat.min_le_left _ _
     have hc2:c<=n - m:=by rw[hc];exact Nat.min_le_right _ _
     have hc3:0<c:=by rw[hc];exact Nat.lt_min.2 ⟨hm3 (by omega),by omega⟩
     have hgd:wr.drew.heap[w'.heap.size]? =some (.cells (zo m n).toArray 3 (0,0)):=HG.out
     have hCP:=run_copy_row (P:=Tryz.prog) wr.drew 22 22 3 3 w'.heap.size m (n - m) (n - m) ⟨w'.heap.size,0,none⟩ m n (zo m n).toArray 3 (List.replicate c (.int .i64 (-1))) (by kernel_rfl) (by kernel_rfl) hgd (by simp[hc])
       (fun j v hj=>by
         have hjm:j<c:=by simpa using(List.getElem?_eq_some_iff.1 hj).1
         have hv:v=.int .i64 (-1):=by rw[List.getElem?_replicate,if_pos hjm]at hj;cases hj;rfl
         have hadd:(⟨w'.heap.size,0,none⟩:Addr).add j=⟨w'.heap.size,j,none⟩:=by unfold Addr.add;split<;>simp_all
         rw[hadd,hv];exact zB7 hgd j (by omega)) (by simp[zo];omega) (by simp[Value.oneCell'])
     have hrow:(zo m n).take m++List.replicate c (.int .i64 (-1))++(zo m n).drop (m+c)=zo (m+c) n:=by
       rw[<-Y6 (m:=m) (n:=n) (c:=c) (by omega)];simp[splice]
     simp only[List.length_replicate]at hCP;rw[hrow]at hCP;obtain⟨wd,hwd⟩:∃ wd,wd=wr.drew.setRow w'.heap.size (zo (m+c) n).toArray:=⟨_,rfl⟩;have hg':wd.heap[w'.heap.size]? =some (.cells (zo (m+c) n).toArray 3 (0,0)):=by rw[hwd];exact setRow_heap _ _ _ _ _ _ hgd
     have hU':zD zC w' wd:=by
       have hb:=below_setRow ((hU.drew.mono (fun _ _ e=>e.elim)).below (Nat.le_refl _)) (Nat.le_refl _) (zo (m+c) n).toArray;rw[<-hwd]at hb;exact zD.ZR hb
     rw[<-hwd]at hCP;have HG':=zF (And.intro hg' hU');clear hwd hrow hc hg' hU' hgd;go_wp2_with fail
     go_region
     all_goals
       go_wp2_with fail
       go_roundw
       case rel=>exact⟨m+c,by simp,by omega,fun _=>by omega,HG'.out.1,HG'.out.2⟩
       case measure=>(simp[intOf];omega)
    ·have hlt':¬(m:Int)<(n:Int):=by omega
     obtain rfl:m=n:=by omega
     go_wp2_with fail
     go_ret
     exact⟨rfl,HG.out,hU⟩
end
section
open Go.RowKit Go.LF
def xh(W:World)(g:Nat)(l:List Int):Prop:=W.heap[g]? =some (.cells (l.map (Value.int .i64)).toArray 3 (0,0))
section
variable {W W':World}{g:Nat}{l:List Int}{S:Nat->Prop}
theorem xh.lt(h:xh W g l):g<W.heap.size:=(Array.getElem?_eq_some_iff.1 h).1
theorem xh.cell(h:xh W g l)(i:Nat)(hi:i<l.length):W.cell? ⟨g,i,none⟩=some (.int .i64 (l.getD i 0)):=by
  unfold xh at h;simp[World.cell?,h,List.getD,hi]
theorem xh.frozen(h:xh W g l)(i:Nat):W.frozen? ⟨g,i,none⟩=false:=by unfold xh at h;simp[World.frozen?,h]
theorem xh.zE(h:xh W g l)(hU:zD S W W')(hS:¬S g):xh W' g l:=(hU.block g h.lt hS).trans h
theorem xh.set(h:xh W g l)(i:Nat)(_hi:i<l.length)(x:Int):xh (W.setCell ⟨g,i,none⟩ (.int .i64 x)) g (l.set i x):=by
  obtain⟨hlt,hk⟩:=Array.getElem?_eq_some_iff.1 h;show(W.heap.modify g _)[g]? =_;rw[Array.getElem?_eq_getElem (by rw[Array.size_modify];exact hlt),Array.getElem_modify_self,hk];simp
theorem xh.rep(h:xh W g l){O:Nat->Prop}(hO:¬O g):zH O W 1 (l.map (yP.int .i64)) (some ⟨g,0,none⟩) 0:=
  Xz (V:=Value.int .i64) (fun x=>by simp[zK]) l _ 0 (fun i hi=>⟨g,rfl,h.lt,hO,by rw[Nat.zero_add,h.cell i hi];simp[List.getD,hi]⟩)
end
end
section
open Go.RowKit Go.LF
theorem yw{O:Nat->Prop}{w:World}{d:yP}{cs:List Value}(h:zK O w d cs):zK zC w d cs:=zK.weaken (fun _ _ x=>x.elim) _ _ h
end
end Go.Proofs.YthgmimncdjhgnaaGreatDoor
