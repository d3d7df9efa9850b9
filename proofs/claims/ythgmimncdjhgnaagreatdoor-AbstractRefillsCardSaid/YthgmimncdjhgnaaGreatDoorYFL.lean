/- How many free variables there are behind a substitution. No program is in sight here. -/
import Derived.Test.YthgmimncdjhgnaaGreatDoorYFB
import Derived.Test.YthgmimncdjhgnaaGreatDoorYFJ
namespace Go.LF.Tm
mutual
def lt(n:Int):Tm->Prop
  |mk k _ i l=>(k=5->i<n)/\qk n k 0 l
def qk(n k:Int)(j:Nat):List Tm->Prop
  | []=>True
  |t :: ts=>lt (n+under k j) t/\qk n k (j+1) ts
end
theorem ZC(n k nm i l):lt n (mk k nm i l)↔(k=5->i<n)/\qk n k 0 l:=by rw[lt]
theorem xI(n k:Int)(j:Nat):qk n k j []:=by rw[qk];trivial
theorem yC(n k:Int)(j:Nat)(t:Tm)(ts:List Tm):qk n k j (t :: ts)↔lt (n+under k j) t/\qk n k (j+1) ts:=by rw[qk]
theorem zJ5(t:Tm):∀{n n':Int},n<=n'->lt n t->lt n' t:=by
  induction t using ind with
  |h k nm i l ih=>
   intro n n' hn h
   rw[ZC]at h ⊢
   refine⟨fun e=>by have:=h.1 e;omega,?_⟩
   have key:∀(l':List Tm),(∀ t∈l',t∈l)->∀ j,qk n k j l'->qk n' k j l':=by
     intro l'
     induction l' with
     |nil=>intro _ j _;exact xI _ _ _
     |cons t ts ih2=>
      intro hm j h
      rw[yC]at h ⊢
      exact⟨ih t (hm t (by simp)) (by omega) h.1,ih2 (fun t ht=>hm t (by simp[ht])) (j+1) h.2⟩
   exact key l (fun _ h=>h) 0 h.2
theorem xo(t:Tm):∀{n:Int},0<=n->(lt n t↔scope t<=n):=by
  induction t using ind with
  |h k nm i l ih=>
   intro n hn
   rw[ZC,scope]
   have key:∀(l':List Tm),(∀ t∈l',t∈l)->∀(j:Nat)(acc:Int),(acc<=n/\qk n k j l')↔scopes k j acc l'<=n:=by
     intro l'
     induction l' with
     |nil=>intro _ j acc;rw[scopes];exact⟨fun h=>h.1,fun h=>⟨h,xI _ _ _⟩⟩
     |cons t ts ih2=>
      intro hm j acc
      have hu:=zt k j
      rw[scopes,yC,<-ih2 (fun t ht=>hm t (by simp[ht])),ih t (hm t (by simp)) (by omega)]
      constructor
      ·rintro⟨h1,h2,h3⟩;exact⟨by omega,h3⟩
      ·rintro⟨h1,h2⟩;exact⟨by omega,by omega,h2⟩
   rw[<-key l (fun _ h=>h)]
   by_cases hk:k=5
   ·subst hk
    simp only[beq_self_eq_true,if_true,forall_const]
    constructor
    ·rintro⟨h1,h2⟩;exact⟨by omega,h2⟩
    ·rintro⟨h1,h2⟩;exact⟨by omega,h2⟩
   ·rw[if_neg (by simpa using hk)]
    exact⟨fun h=>⟨hn,h.2⟩,fun h=>⟨fun e=>absurd e hk,h.2⟩⟩
theorem yb{n:Int}:lt n zU:=(ZC _ _ _ _ _).2 ⟨fun e=>absurd e (by decide),xI _ _ _⟩
theorem zJ2(t:Tm):∀(by' b n:Int),0<=by'->lt n t->lt (n+by') (mv (qM by' 0) b t):=by
  induction t using ind with
  |h k nm i l ih=>
   intro by' b n h0 h
   rw[ZC]at h
   rw[X4,ZC]
   refine⟨fun e=>?_,?_⟩
   ·have:=h.1 e
    unfold QF qM
    simp only
    split
    ·split<;>omega
    ·omega
   have key:∀(l':List Tm),(∀ t∈l',t∈l)->∀ j,qk n k j l'->qk (n+by') k j (YK (qM by' 0) b k j l'):=by
     intro l'
     induction l' with
     |nil=>intro _ j _;rw[YK];exact xI _ _ _
     |cons t ts ih2=>
      intro hm j h
      rw[yC]at h
      rw[YK,yC]
      refine⟨?_,ih2 (fun t ht=>hm t (by simp[ht])) (j+1) h.2⟩
      have:=ih t (hm t (by simp)) by' (b+under k j) (n+under k j) h0 h.1
      rw[show n+by'+under k j=n+under k j+by' by omega]
      exact this
   exact key l (fun _ h=>h) 0 h.2
theorem zCW{t:Tm}{w:Nat}{n:Int}(h:lt n t):lt n (Zs t w).t:=by
  unfold Zs
  split
  ·exact h
  ·exact yb
theorem zHV(n:Int)(f:Tm->Sm->Tm->Nat->xZ)(hf:∀ u s b w,lt n u->lt (n+1) b->lt n (f u s b w).t)(us:List Tm):∀(m:Tm)(ss:List Sm)(w:Nat),lt n m->(∀ u∈us,lt n u)->lt n (Z4 f m ss us w).t:=by
  induction us with
  |nil=>
   intro m ss w hm _
   unfold Z4
   split
   ·exact yb
   ·exact zCW hm
  |cons u us ih=>
   intro m ss w hm hu
   cases ss with
   |nil=>unfold Z4;exact yb
   |cons s ss=>
    rw[Z4]
    split
    ·rename_i hk
     have hb:lt (n+1) (m.args.headD zU):=by
       cases m with
       |mk k nm i l=>
        rw[ZC]at hm
        have hk:k=3:=hk
        subst hk
        cases l with
        |nil=>exact yb
        |cons t ts=>
         have:=hm.2
         rw[yC]at this
         exact this.1
     have hf1:=hf u s _ w (hu u (by simp)) hb
     split
     ·exact ih _ _ _ hf1 (fun u h=>hu u (by simp[h]))
     ·exact hf1
    ·exact yb
theorem zJN(N:Int)(hN:0<=N)(f:Tm->Sm->Tm->Nat->xZ)(ms:List Tm)(ss:List Sm)(d k:Int)(hd:0<=d)(hf:∀ u s b w,lt (N+d) u->lt (N+d+1) b->lt (N+d) (f u s b w).t)(nm:List UInt8)(i:Int)(us:List Tm)(w:Nat)
    (hms:∀ m∈ms,lt N m) (hi:k=5->i<N+ms.length+d) (hu:qk (N+d) k 0 us):lt (N+d) (sbN f ms ss d k nm i us w).t:=by
  unfold sbN
  split
  ·rename_i hk
   obtain⟨rfl,hdi⟩:=hk
   have hus:∀ u∈us,lt (N+d) u:=by
     have key:∀(l:List Tm)j,qk (N+d) 5 j l->∀ u∈l,lt (N+d) u:=by
       intro l
       induction l with
       |nil=>intro j _ u hu;cases hu
       |cons t ts ih=>
        intro j h u hu
        rw[yC]at h
        rcases List.mem_cons.1 hu with rfl |hu
        ·have:=h.1;rw[show under 5 j=0 by unfold under;simp]at this;simpa using this
        ·exact ih (j+1) h.2 u hu
     exact key us 0 hu
   split
   ·rename_i hlt
    split
    ·exact yb
    ·unfold ap
     split
     ·refine zHV (N+d) f hf us _ _ _ ?_ hus
      have hl:(i - d).toNat<ms.length:=by omega
      rw[List.getD,List.getElem?_eq_getElem hl]
      exact zJ2 _ d 0 N hd (hms _ (List.getElem_mem hl))
     ·exact yb
   ·refine zCW ((ZC _ _ _ _ _).2 ⟨fun _=>?_,hu⟩)
    have:=hi rfl
    omega
  ·rename_i hk
   refine zCW ((ZC _ _ _ _ _).2 ⟨fun e=>?_,hu⟩)
   have:i<d:=by
     by_cases h:i<d
     ·exact h
     ·exact absurd ⟨e,by omega⟩ hk
   omega
theorem zJX(n:Nat):∀(N:Int)(ms:List Tm)(ss:List Sm)(d:Int)(t:Tm)(w:Nat),0<=N->0<=d->(∀ m∈ms,lt N m)->lt (N+ms.length+d) t->lt (N+d) (sb n ms ss d t w).t:=by
  induction n with
  |zero=>intro N ms ss d t w _ _ _ _;rw[sb];exact yb
  |succ n ih=>
   intro N ms ss d t w hN hd hms ht
   rw[sb]
   split
   ·exact yb
   ·split
    ·cases t with
     |mk k nm i l=>
      simp only[zCD,zBs,zAM,Ya]at *
      rw[ZC]at ht
      refine zJN N hN _ ms ss d k hd (fun u s b w hu hb=>?_) nm i _ _ hms ht.1 ?_
      ·have:=ih (N+d) [u] [s] 0 b w (by omega) (by omega) (fun m hm=>by obtain rfl:=List.mem_singleton.1 hm;exact hu) (by simpa using hb)
       simpa using this
      ·have key:∀(l':List Tm),(∀ t∈l',t∈l)->∀(j w:Nat),qk (N+ms.length+d) k j l'->qk (N+d) k j (yq (fun d' t' w'=>sb n ms ss d' t' w') d k j l' w).ts:=by
         intro l'
         induction l' with
         |nil=>intro _ j w _;rw[yq];exact xI _ _ _
         |cons t ts ih2=>
          intro hm j w h
          rw[yC]at h
          have hu:=zt k j
          rw[yq]
          split
          ·split
           ·show qk _ _ _ (_ :: _)
            rw[yC]
            refine⟨?_,ih2 (fun t ht=>hm t (by simp[ht])) (j+1) _ h.2⟩
            have:=ih N ms ss (d+under k j) t w hN (by omega) hms (by rw[<-Int.add_assoc];exact h.1)
            rw[Int.add_assoc]
            exact this
           ·exact xI _ _ _
          ·exact xI _ _ _
       exact key l (fun _ h=>h) 0 _ ht.2
    ·exact yb
theorem zJ4(n:Nat)(N:Int)(hN:0<=N)(m:Tm)(ss:List Sm)(us:List Tm)(w:Nat)(hm:lt N m)(hu:∀ u∈us,lt N u):lt N (ap (fun u s b w'=>sb n [u] [s] 0 b w') m ss us w).t:=by
  unfold ap
  split
  ·refine zHV N _ (fun u s b w h1 h2=>?_) us m ss w hm hu
   have:=zJX n N [u] [s] 0 b w hN (by omega) (fun m hm=>by obtain rfl:=List.mem_singleton.1 hm;exact h1) (by simpa using h2)
   simpa using this
  ·exact yb
end Go.LF.Tm
namespace Go.LF
section
open Tm Go.Proofs.YthgmimncdjhgnaaGreatDoor
theorem ZY(f:Int->Int)(k n i l):yI f (mk k n i l)=mk k n (if k=6 then f i else i) (l.map (yI f)):=by rw[yI,zBF]
theorem zFo(f:Int->Int)(t:Tm):(yI f t).size=t.size:=by
  induction t using ind with
  |h k n i l ih=>
   rw[ZY,zW,zW]
   have key:∀(l':List Tm),(∀ t∈l',t∈l)->zN (l'.map (yI f))=zN l':=by
     intro l'
     induction l' with
     |nil=>intro _;rfl
     |cons t ts ih2=>intro hm;rw[List.map_cons,zN,zN,ih t (hm t (by simp)),ih2 (fun t ht=>hm t (by simp[ht]))]
   rw[key l (fun _ h=>h)]
theorem zEp(f:Int->Int)(t:Tm):(yI f t).depth=t.depth:=by
  induction t using ind with
  |h k n i l ih=>
   rw[ZY,yK,yK]
   have key:∀(l':List Tm),(∀ t∈l',t∈l)->zS (l'.map (yI f))=zS l':=by
     intro l'
     induction l' with
     |nil=>intro _;rfl
     |cons t ts ih2=>intro hm;rw[List.map_cons,zS,zS,ih t (hm t (by simp)),ih2 (fun t ht=>hm t (by simp[ht]))]
   rw[key l (fun _ h=>h)]
theorem Qx(f:Int->Int)(t:Tm):(yI f t).small=t.small:=by unfold small;rw[zFo,zEp]
def Rok(f:Int->Int)(t:Tm):Prop:=xA (fun k _ i _=>k=6->0<=f i/\f i<2048) t
theorem Q3{f:Int->Int}{k i:Int}{n:List UInt8}{l:List Tm}(h:Rok f (mk k n i l)):∀ t∈l,Rok f t:=fun t ht=>(zq l).1 ((zz _ _ _ _).1 h).2 t ht
theorem zAo(f:Int->Int)(t:Tm):Rok f t->t.isObj=true->(yI f t).isObj=true:=by
  induction t using ind with
  |h k n i l ih=>
   intro hr h
   have ha:=Q3 hr
   have h6:=((zz _ _ _ _).1 hr).1
   have key:∀(l':List Tm),(∀ t∈l',t∈l)->zV l'=true->zV (l'.map (yI f))=true:=by
     intro l'
     induction l' with
     |nil=>intro _ h;exact h
     |cons t ts ih2=>
      intro hm h
      rw[zV,Bool.and_eq_true]at h
      rw[List.map_cons,zV,ih t (hm t (by simp)) (ha t (hm t (by simp))) h.1,ih2 (fun t ht=>hm t (by simp[ht])) h.2];rfl
   rw[ZY,isObj]
   rw[isObj]at h
   split
   ·rename_i hk;rw[if_pos hk]at h
    subst hk
    rw[if_neg (by decide)]
    unfold bound at h ⊢
    rw[List.length_map]
    rw[Bool.and_eq_true]at h ⊢;exact⟨h.1,key l (fun _ h=>h) h.2⟩
   rename_i hk3
   rw[if_neg hk3]at h
   split
   ·rename_i hk;rw[if_pos hk]at h;subst hk;rw[if_neg (by decide)];rw[Bool.and_eq_true]at h ⊢;exact⟨h.1,key l (fun _ h=>h) h.2⟩
   rename_i hk4
   rw[if_neg hk4]at h
   split
   ·rename_i hk;rw[if_pos hk]at h;subst hk;rw[if_neg (by decide)];rw[Bool.and_eq_true]at h ⊢;exact⟨h.1,key l (fun _ h=>h) h.2⟩
   rename_i hk5
   rw[if_neg hk5]at h
   split
   ·rename_i hk;rw[if_pos hk]at h;subst hk
    simp only[Bool.and_eq_true,decide_eq_true_eq]at h ⊢
    exact⟨⟨⟨h.1.1.1,(h6 rfl).1⟩,(h6 rfl).2⟩,key l (fun _ h=>h) h.2⟩
   ·rename_i hk;rw[if_neg hk]at h;cases h
theorem zBM(f:Int->Int):∀(l:List Tm),(∀ t∈l,Rok f t)->zV l=true->zV (l.map (yI f))=true
  | [],_,h=>h
  |t :: ts,hr,h=>by
   rw[zV,Bool.and_eq_true]at h
   rw[List.map_cons,zV,zAo f t (hr t (by simp)) h.1,zBM f ts (fun t ht=>hr t (by simp[ht])) h.2];rfl
theorem qH(f:Int->Int)(t:Tm):Rok f t->t.zO=true->(yI f t).zO=true:=by
  induction t using ind with
  |h k n i l ih=>
   intro hr h
   have ha:=Q3 hr
   have key:∀(l':List Tm),(∀ t∈l',t∈l)->yO l'=true->yO (l'.map (yI f))=true:=by
     intro l'
     induction l' with
     |nil=>intro _ h;exact h
     |cons t ts ih2=>
      intro hm h
      rw[yO,Bool.and_eq_true]at h
      rw[List.map_cons,yO,ih t (hm t (by simp)) (ha t (hm t (by simp))) h.1,ih2 (fun t ht=>hm t (by simp[ht])) h.2];rfl
   rw[ZY]
   rw[zO,isAtom]at h ⊢
   unfold bound at h ⊢
   rw[List.length_map]
   simp only[Bool.or_eq_true,Bool.and_eq_true,beq_iff_eq]at h ⊢
   rcases h with⟨rfl,⟨h1,h2⟩,h3⟩|⟨rfl,h2,h3⟩
   ·exact .inl ⟨rfl,⟨h1,by rw[if_neg (by decide)];exact h2⟩,zBM f l ha h3⟩
   ·exact .inr ⟨rfl,by rw[if_neg (by decide)];exact h2,key l (fun _ h=>h) h3⟩
theorem zBX{t:Tm}(h:t.zP=true):(∃ n i a b,t=mk 2 n i [a,b]/\bound n i [a,b] 2=true/\a.zO=true/\b.zP=true)\/t=mk 1 [] 0 []:=by
  unfold zP at h
  split at h
  ·rename_i k n i a b
   simp only[Bool.and_eq_true,beq_iff_eq]at h
   obtain⟨rfl,h1,h2,h3⟩:=h
   exact .inl ⟨n,i,a,b,rfl,h1,h2,h3⟩
  ·rename_i k n i l _
   simp only[Bool.and_eq_true,beq_iff_eq,List.isEmpty_iff]at h
   obtain⟨rfl,rfl,rfl,rfl⟩:=h
   exact .inr rfl
theorem zDO(f:Int->Int)(t:Tm):Rok f t->t.zP=true->(yI f t).zP=true:=by
  induction t using ind with
  |h k n i l ih=>
   intro hr h
   have ha:=Q3 hr
   rcases zBX h with⟨n',i',a,b,e,h1,h2,h3⟩|e
   ·cases e
    rw[ZY]
    show zP (mk 2 n (if(2:Int)=6 then f i else i) [yI f a,yI f b])=true
    rw[if_neg (by decide),zP]
    unfold bound at h1 ⊢
    simp only[Bool.and_eq_true]at h1 ⊢
    exact⟨rfl,h1,qH f a (ha a (by simp)) h2,ih b (by simp) (ha b (by simp)) h3⟩
   ·cases e;rw[ZY];rfl
theorem zH6(f:Int->Int)(t:Tm)(hr:Rok f t)(h:t.wf=0):(yI f t).wf=0:=by
  have hs:=yf h
  have hsm:(yI f t).small=true:=by rw[Qx];unfold small;simp[hs.2.1,hs.2.2]
  unfold wf
  rw[hsm]
  rcases hs.1 with h1 |h1 |h1
  ·rw[zAo f t hr h1];rfl
  ·rw[qH f t hr h1];simp
  ·rw[zDO f t hr h1];simp
theorem zFU(f:Int->Int)(t:Tm):∀ n,lt n t->lt n (yI f t):=by
  induction t using ind with
  |h k nm i l ih=>
   intro n h
   rw[ZC]at h
   rw[ZY,ZC]
   refine⟨fun e=>by rw[if_neg (by omega)];exact h.1 e,?_⟩
   have key:∀(l':List Tm),(∀ t∈l',t∈l)->∀ j,qk n k j l'->qk n k j (l'.map (yI f)):=by
     intro l'
     induction l' with
     |nil=>intro _ j _;exact xI _ _ _
     |cons t ts ih2=>
      intro hm j h
      rw[yC]at h
      rw[List.map_cons,yC]
      exact⟨ih t (hm t (by simp)) _ h.1,ih2 (fun t ht=>hm t (by simp[ht])) (j+1) h.2⟩
   exact key l (fun _ h=>h) 0 h.2
theorem zDr{N M:Int->List UInt8->Int->Nat->Prop}(f:Int->Int)(hNM:∀ k n i z,N k n i z->M k n (if k=6 then f i else i) z)(t:Tm):xA N t->xA M (yI f t):=by
  induction t using ind with
  |h k n i l ih=>
   intro h
   rw[zz,zq]at h
   rw[ZY,zz,zq,List.length_map]
   refine⟨hNM _ _ _ _ h.1,fun u hu=>?_⟩
   obtain⟨v,hv,rfl⟩:=List.mem_map.1 hu
   exact ih v hv (h.2 v hv)
theorem zCS{f:Int->Int}{S:Int->Prop}(hf:∀ a b,S a->S b->f a=f b->a=b)(t:Tm):xA (fun k _ i _=>k=6->S i) t->∀ acc,(∀ a∈acc,S a)->yB (acc.map f) (yI f t)=(yB acc t).map f/\∀ a∈yB acc t,S a:=by
  induction t using ind with
  |h k n i l ih=>
   intro h acc hacc
   rw[zz,zq]at h
   have key:∀(l':List Tm),(∀ t∈l',t∈l)->∀ acc,(∀ a∈acc,S a)->zj (acc.map f) (l'.map (yI f))=(zj acc l').map f/\∀ a∈zj acc l',S a:=by
     intro l'
     induction l' with
     |nil=>intro _ acc hacc;rw[List.map_nil,zj,zj];exact⟨rfl,hacc⟩
     |cons t ts ih2=>
      intro hm acc hacc
      obtain⟨h1,h2⟩:=ih t (hm t (by simp)) (h.2 t (hm t (by simp))) acc hacc
      rw[List.map_cons,zj,zj,h1]
      exact ih2 (fun t ht=>hm t (by simp[ht])) _ h2
   rw[ZY,yB,yB]
   by_cases hk:k=6
   ·subst hk
    have hS:=h.1 rfl
    have hc:(acc.map f).contains (f i)=acc.contains i:=by
      rw[Bool.eq_iff_iff]
      simp only[List.contains_eq_mem,decide_eq_true_eq,List.mem_map]
      exact⟨fun⟨a,ha,e⟩=>(hf a i (hacc a ha) hS e) ▸ ha,fun h=>⟨i,h,rfl⟩⟩
    rw[if_pos rfl,hc]
    by_cases hb:(((6:Int) == 6) && !acc.contains i)=true
    ·rw[if_pos hb,if_pos hb]
     have:=key l (fun _ h=>h) (acc++[i]) (fun a ha=>by rcases List.mem_append.1 ha with ha |ha;(exact hacc a ha);rw[List.mem_singleton.1 ha];exact hS)
     rw[List.map_append]at this
     exact this
    ·rw[if_neg hb,if_neg hb]
     exact key l (fun _ h=>h) acc hacc
   ·have hb:∀(b:Bool),¬((k == 6) && b)=true:=fun b=>by simp[hk]
    rw[if_neg (hb _),if_neg (hb _)]
    exact key l (fun _ h=>h) acc hacc
theorem zGN{f:Int->Int}{t:Tm}(h:t.wf=0)(hr:∀ i∈Tm.zL t,0<=f i/\f i<2048)(hf:∀ a b,a∈Tm.zL t->b∈Tm.zL t->f a=f b->a=b):Tm.zL (yI f t)=(Tm.zL t).map f/\(yI f t).wf=0:=by
  have hw:=zH6 f t ((yS t h).2 hr) h
  refine⟨?_,hw⟩
  have:=(zCS hf t ((yS t h).2 (fun _ h=>h)) [] (fun _ h=>by cases h)).1
  unfold Tm.zL
  rw[if_pos (by simp[hw]),if_pos (by simp[h])]
  exact this
theorem zCq{n:Int}{k:Int}(hk:k≠3/\k≠2):∀(l:List Tm)(j:Nat),qk n k j l->∀ u∈l,lt n u
  | [],_,_,_,hu=>by cases hu
  |t :: ts,j,h,u,hu=>by
   rw[yC]at h
   rcases List.mem_cons.1 hu with rfl |hu
   ·have:=h.1;rw[show under k j=0 by unfold under;simp[hk]]at this;simpa using this
   ·exact zCq hk ts (j+1) h.2 u hu
theorem zJH(g:Int->Int->List Tm->Nat->Option xZ)(hg:∀ k i us c r,g k i us c=some r->k=6/\∀ N:Int,0<=N->(∀ u∈us,lt N u)->lt N r.t)(t:Tm):∀(N:Int),0<=N->lt N t->∀ c,lt N (Zq g t c).t:=by
  induction t using ind with
  |h k nm i l ih=>
   intro N hN h c
   rw[ZC]at h
   have key:∀(l':List Tm),(∀ t∈l',t∈l)->∀ j,qk N k j l'->∀ c,qk N k j (yv g l' c).ts:=by
     intro l'
     induction l' with
     |nil=>intro _ j _ c;rw[Qc];exact xI _ _ _
     |cons t ts ih2=>
      intro hm j h c
      rw[yC]at h
      have hu:=zt k j
      rw[Q6]
      split
      ·split
       ·show qk _ _ _ (_ :: _)
        rw[yC]
        exact⟨ih t (hm t (by simp)) _ (by omega) h.1 c,ih2 (fun t ht=>hm t (by simp[ht])) (j+1) h.2 _⟩
       ·exact xI _ _ _
      ·exact xI _ _ _
   have hA:=key l (fun _ h=>h) 0 h.2 c
   rw[YX]
   split
   ·cases hq:g k i (yv g l c).ts (yv g l c).w with
    |none=>exact zCW ((ZC _ _ _ _ _).2 ⟨h.1,hA⟩)
    |some r=>
     obtain⟨rfl,h2⟩:=hg _ _ _ _ _ hq
     exact h2 N hN (zCq ⟨by decide,by decide⟩ _ 0 hA)
   ·exact yb
theorem zJc(l:List Mv)(hv:∀ m∈l,∀ v∈m.value,lt 0 v)(n:Nat):∀ t(N:Int),0<=N->lt N t->∀ c,lt N (ZH l n t c).t:=by
  induction n with
  |zero=>intro t N _ _ c;exact yb
  |succ n ih=>
   intro t
   rw[xO]
   refine zJH _ (fun k i us c r hr=>?_) t
   unfold XU at hr
   obtain⟨m,hm,rfl⟩:=Option.map_eq_some_iff.1 hr
   obtain⟨h6,_,_,_,hml,hmv⟩:=Z8 hm
   refine⟨h6,fun N hN hus=>?_⟩
   split
   ·exact yb
   split
   ·exact yb
   rename_i h2
   refine ih _ N hN ?_ _
   unfold Xt
   rw[if_pos (Decidable.not_not.1 h2)]
   refine zJ4 262145 N hN _ _ _ _ ?_ hus
   match hv':m.value,hmv with
   |v :: r,_=>exact zJ5 _ hN (hv m hml v (by rw[hv'];simp))
theorem qN.closed{l:List Mv}(h:qN l){t:Tm}(he:xL l t=0)(ht:t.scope<=0):(zu l t).scope<=0:=by
  unfold zu
  rw[if_pos he]
  refine(xo _ (by omega)).1 (zJc l (fun m hm v hv=>?_) 16385 t 0 (by omega) ((xo _ (by omega)).2 ht) 0)
  obtain⟨_,h1,h2,h3,_⟩:=xW ((h.val m hm).2 v hv)
  exact(xo _ (by omega)).2 h3
end
section
open Tm Go.Proofs.YthgmimncdjhgnaaGreatDoor
inductive Col(l:List Mv):List Int->List Int->List Int->Prop
  |nil (o):Col l [] o o
  |skip {m ms o o'} (h:m∈o) (t:Col l ms o o'):Col l (m :: ms) o o'
  |add {m ms o o1 o'} (h:m∉o) (he:xL l (typeOf l m)=0) (hi:Col l (Tm.zL (zu l (typeOf l m))) o o1) (t:Col l ms (o1++[m]) o'):Col l (m :: ms) o o'
theorem zGz{l:List Mv}{ms:List Int}(h:Bel l 0 ms):ms=[]:=by
  cases ms with
  |nil=>rfl
  |cons m ms=>have:=(h m (by simp)).2.2;omega
theorem zJW{l:List Mv}(hP:qN l):∀ R ms o,Bel l R ms->(cF l R ms ⟨o,0⟩).e=0->Col l ms o (cF l R ms ⟨o,0⟩).o:=by
  intro R
  induction R with
  |zero=>
   intro ms o hb _
   rw[zGz hb]
   exact .nil o
  |succ R ih=>
   intro ms
   show ∀ o,Bel l (R+1) ms->(zBz l R ms ⟨o,0⟩).e=0->Col l ms o (zBz l R ms ⟨o,0⟩).o
   rw[zFQ]
   induction ms with
   |nil=>intro o _ _;rw[xm];exact .nil o
   |cons m ms ih2=>
    intro o hb h
    have hb2:Bel l (R+1) ms:=fun x hx=>hb x (by simp[hx])
    obtain⟨m0,ml,mr⟩:=hb m (by simp)
    rw[xm,if_neg (by simp)]at h ⊢
    by_cases h1:o.contains m=true
    ·rw[if_pos h1]at h ⊢
     exact .skip (by simpa using h1) (ih2 o hb2 h)
    rw[if_neg h1]at h ⊢
    by_cases h2:xL l (typeOf l m)≠0
    ·rw[if_pos h2]at h;exact absurd h h2
    rw[if_neg h2]at h ⊢
    have hE:xL l (typeOf l m)=0:=by omega
    have hbi:=Qd hP m0 ml hE mr
    by_cases h3:(cF l R (Tm.zL (zu l (typeOf l m))) ⟨o,0⟩).e=0
    ·rw[if_pos h3]at h ⊢
     exact .add (by simpa using h1) hE (ih _ o hbi h3) (ih2 _ hb2 h)
    ·rw[if_neg h3]at h;exact absurd h h3
theorem zDg{l:List Mv}{ms o o':List Int}(h:Col l ms o o'):(∀ x∈o,x∈o')/\∀ m∈ms,m∈o':=by
  induction h with
  |nil o=>exact⟨fun _ h=>h,fun _ h=>by cases h⟩
  |skip hm _ ih=>exact⟨ih.1,fun x hx=>by rcases List.mem_cons.1 hx with rfl |hx;(exact ih.1 _ hm);exact ih.2 x hx⟩
  |add _ _ _ _ ih1 ih2=>exact⟨fun x hx=>ih2.1 x (List.mem_append.2 (.inl (ih1.1 x hx))),fun x hx=>by rcases List.mem_cons.1 hx with rfl |hx;(exact ih2.1 _ (by simp));exact ih2.2 x hx⟩
theorem zGm{l:List Mv}(hP:qN l){ms o o':List Int}(h:Col l ms o o'):∀ R,Bel l R ms->∀ x∈o',x∈o\/(0<=x/\x<l.length/\rk l x<R):=by
  induction h with
  |nil o=>intro R _ x hx;exact .inl hx
  |skip hm _ ih=>intro R hb x hx;exact ih R (fun y hy=>hb y (by simp[hy])) x hx
  | @add m ms o o1 o' hm he _ _ ih1 ih2=>
    intro R hb x hx
    obtain⟨m0,ml,mr⟩:=hb m (by simp)
    rcases ih2 R (fun y hy=>hb y (by simp[hy])) x hx with h |h
    ·rcases List.mem_append.1 h with h |h
     ·rcases ih1 (rk l m) (Qd hP m0 ml he (by omega)) x h with h |h
      ·exact .inl h
      ·exact .inr ⟨h.1,h.2.1,by omega⟩
     ·rw[List.mem_singleton.1 h];exact .inr ⟨m0,ml,mr⟩
    ·exact .inr h
structure XX(l:List Mv)(o:List Int):Prop where
  cnt:yo l o+o.length<=l.length
  inn:∀ x∈o,0<=x/\x<l.length
  YJ:∀ p(h:p<o.length),xL l (typeOf l o[p])=0/\∀ j∈Tm.zL (zu l (typeOf l o[p])),j∈o.take p
theorem XX.nil(l:List Mv):XX l []:=⟨zAl l,fun _ h=>(by cases h),fun p h=>(by simp at h)⟩
theorem zJL{l:List Mv}(hP:qN l){ms o o':List Int}(h:Col l ms o o'):∀ R,Bel l R ms->XX l o->XX l o':=by
  induction h with
  |nil o=>intro R _ h;exact h
  |skip hm _ ih=>intro R hb h;exact ih R (fun y hy=>hb y (by simp[hy])) h
  | @add m ms o o1 o' hm he hi _ ih1 ih2=>
    intro R hb h
    obtain⟨m0,ml,mr⟩:=hb m (by simp)
    have hbi:=Qd hP (R:=rk l m) m0 ml he (by omega)
    have h1:=ih1 _ hbi h
    have hn:m∉o1:=fun hx=>by
      rcases zGm hP hi _ hbi m hx with h |h
      ·exact hm h
      ·omega
    refine ih2 R (fun y hy=>hb y (by simp[hy])) ⟨Qt h1.cnt m0 ml hn,fun x hx=>?_,fun p hp=>?_⟩
    ·rcases List.mem_append.1 hx with hx |hx
     ·exact h1.inn x hx
     ·rw[List.mem_singleton.1 hx];exact⟨m0,ml⟩
    ·rw[List.length_append,List.length_singleton]at hp
     by_cases e:p<o1.length
     ·rw[List.getElem_append_left e,List.take_append_of_le_length (by omega)]
      exact h1.YJ p e
     ·obtain rfl:p=o1.length:=by omega
      rw[List.getElem_append_right (by omega)]
      simp only[Nat.sub_self,List.getElem_cons_zero]
      rw[List.take_append_of_le_length (by omega),List.take_length]
      exact⟨he,fun j hj=>(zDg hi).2 j hj⟩
theorem Qg{o:List Int}{x:Int}(h:x∈o):0<=xN o x/\xN o x<o.length:=by
  unfold xN
  rw[if_pos h]
  have:=List.idxOf_lt_length_iff.2 h
  exact⟨by omega,by omega⟩
theorem zGj{o:List Int}{a b:Int}(ha:a∈o)(hb:b∈o)(h:xN o a=xN o b):a=b:=by
  unfold xN at h
  rw[if_pos ha,if_pos hb]at h
  have h1:o.idxOf a<o.length:=List.idxOf_lt_length_iff.2 ha
  have h2:o.idxOf b<o.length:=List.idxOf_lt_length_iff.2 hb
  have e1:o[o.idxOf a]=a:=List.getElem_idxOf h1
  have e2:o[o.idxOf b]=b:=List.getElem_idxOf h2
  rw[<-e1,<-e2]
  congr 1
  omega
theorem zBc{o:List Int}{p:Nat}{x:Int}(h:x∈o.take p):xN o x<p:=by
  have hx:=List.mem_of_mem_take h
  unfold xN
  rw[if_pos hx]
  obtain⟨q,hq,rfl⟩:=List.getElem_of_mem h
  have hq':=hq
  rw[List.length_take]at hq'
  have:o.idxOf ((o.take p)[q])<=q:=by
    rw[List.getElem_take]
    by_cases hc:o.idxOf o[q]<=q
    ·exact hc
    ·exfalso
     have:=List.not_of_lt_findIdx (p:=fun y=>y == o[q]) (xs:=o) (i:=q) (by
       show q<o.findIdx _
       have h2:o.idxOf o[q]=o.findIdx (fun y=>y == o[q]):=rfl
       omega)
     simp at this
  omega
theorem zF7{n:Int}{name:List UInt8}{a:Tm}(h0:name=[]\/isName name=true)(h1:a.wf=0)(h2:a.zO=true)(h3:a.small=true)(h4:a.scope<=0)(h5:∀ i∈Tm.zL a,i<n)(h6:n<2048):yP n name a=0:=by
  unfold yP
  rw[if_neg,if_neg (by simp[h1]),if_neg (by simp[h2,h3]),if_neg,if_neg (by omega)]
  ·unfold QV
   rw[h1]
   simp only[Bool.or_eq_true,not_or,decide_eq_true_eq,List.any_eq_true,not_exists,not_and]
   exact⟨by rw[if_pos (by rfl)];omega,fun i hi=>by have:=h5 i hi;omega⟩
  ·rintro⟨h7,h8⟩
   rcases h0 with h |h
   ·exact h7 h
   ·rw[h]at h8;cases h8
section
variable {l:List Mv} (hP:qN l)
include hP in
theorem zIM{t:Tm}(h:xA (fun _ _ _ z=>z<=200) t):xA (fun _ _ _ z=>z<=200) (zu l t):=by
  unfold zu
  split
  ·exact zB9 (fun _ _ _ _ h=>h) (Nat.zero_le _) l (fun m hm v hv=>(hP.kn m hm).2 v hv) 16385 t 0 h
  ·exact zn (Nat.zero_le _)
include hP in
theorem zBp{ts:List Tm}(h:XT l ts=0):ZZ l ts=0/\Col l ((ts.map (zu l)).flatMap Tm.zL) [] (qR l ts)/\XX l (qR l ts)/\Bel l (l.length+1) ((ts.map (zu l)).flatMap Tm.zL):=by
  have h0:=h
  unfold XT at h
  by_cases h1:ZZ l ts≠0
  ·rw[if_pos h1]at h;exact absurd h h1
  rw[if_neg h1]at h
  have hA:ZZ l ts=0:=by omega
  have hR:YQ l ts=ts.map (zu l):=by unfold YQ;rw[if_pos hA]
  have hb:Bel l (l.length+1) ((ts.map (zu l)).flatMap Tm.zL):=zE7 l (fun x hx=>by
    obtain⟨u,hu,hx⟩:=List.mem_flatMap.1 hx
    obtain⟨t,ht,rfl⟩:=List.mem_map.1 hu
    exact⟨(YB x hx).1,(Zm hP (YI l ts hA t ht)).2.2 x hx⟩)
  have hO:qR l ts=(cF l (l.length+1) ((ts.map (zu l)).flatMap Tm.zL) ⟨[],0⟩).o:=by
    unfold qR zHO
    rw[if_pos h0,zBR,hR]
    rfl
  have hE:(cF l (l.length+1) ((ts.map (zu l)).flatMap Tm.zL) ⟨[],0⟩).e=0:=by
    unfold zHO at h
    rw[zBR,hR]at h
    exact h
  have hC:=zJW hP _ _ [] hb hE
  rw[<-hO]at hC
  exact⟨hA,hC,zJL hP hC _ hb (XX.nil l),hb⟩
theorem XX.len{o:List Int}(h:XX l o):o.length<=l.length:=by have:=h.cnt;omega
def qE(l:List Mv)(o:List Int):List Mv:=o.map (Yq l o)
theorem Zl(o:List Int):(qE l o).length=o.length:=by unfold qE;simp
theorem zCc{o:List Int}{p:Nat}(h:p<(qE l o).length)(h':p<o.length):(qE l o)[p]=Yq l o o[p]:=by
  have h2:(qE l o)[p]? =some (Yq l o o[p]):=by
    unfold qE
    rw[List.getElem?_map,List.getElem?_eq_getElem h'];rfl
  rw[List.getElem?_eq_getElem h]at h2
  exact Option.some.inj h2
theorem zAO{o:List Int}:∀ m∈qE l o,m.value=[]:=by
  intro m hm
  unfold qE at hm
  obtain⟨j,_,rfl⟩:=List.mem_map.1 hm
  rfl
include hP in
theorem qn{o:List Int}(ho:XX l o){t:Tm}(hw:t.wf=0)(hm:∀ i∈Tm.zL t,i∈o):Tm.zL (yI (xN o) t)=(Tm.zL t).map (xN o)/\(yI (xN o) t).wf=0/\(∀ i∈Tm.zL (yI (xN o) t),0<=i/\i<(qE l o).length):=by
  have hl:=ho.len
  have hl2:=hP.len
  obtain⟨h1,h2⟩:=zGN (f:=xN o) hw (fun i hi=>by have:=Qg (hm i hi);exact⟨by omega,by omega⟩) (fun a b ha hb e=>zGj (hm a ha) (hm b hb) e)
  refine⟨h1,h2,fun i hi=>?_⟩
  rw[h1]at hi
  obtain⟨j,hj,rfl⟩:=List.mem_map.1 hi
  rw[Zl]
  exact Qg (hm j hj)
include hP in
theorem zHD{o:List Int}(ho:XX l o):qN (qE l o):=by
  have hl:=ho.len
  have hl2:=hP.len
  have key:∀(p:Nat)(h:p<o.length),∃ q:Nat,q<l.length/\o[p]=(q:Int):=fun p h=>by
    have:=ho.inn _ (List.getElem_mem h)
    exact⟨o[p].toNat,by omega,by omega⟩
  have hdown:∀ i:Int,∀ j∈zp (qE l o) i,0<=i/\i<(qE l o).length/\j<i:=by
    intro i j hj
    by_cases h0:0<=i
    ·by_cases h1:i<(qE l o).length
     ·refine⟨h0,h1,?_⟩
      obtain⟨p,rfl⟩:∃ p:Nat,i=(p:Int):=⟨i.toNat,by omega⟩
      rw[Zl]at h1
      have hp:p<o.length:=by omega
      rw[zDn (by rw[Zl];exact hp),zCc (by rw[Zl];exact hp) hp]at hj
      unfold Zg at hj
      have hj:j∈Tm.zL (yI (xN o) (zu l (typeOf l o[p]))):=by
        unfold Yq at hj
        simpa using hj
      obtain⟨he,ht⟩:=ho.YJ p hp
      obtain⟨q,hq,e⟩:=key p hp
      have hw:=zCY hP (i:=o[p]) (by omega) (by omega) he
      rw[(qn hP ho hw (fun i hi=>List.mem_of_mem_take (ht i hi))).1]at hj
      obtain⟨x,hx,rfl⟩:=List.mem_map.1 hj
      exact zBc (ht x hx)
     ·rw[zGG h1]at hj;cases hj
    ·rw[zFx h0]at hj;cases hj
  refine⟨by rw[Zl];omega,fun p hp=>?_,fun m hm=>?_,fun m hm=>?_,fun i hi j hj hr=>?_⟩
  ·have hp':p<o.length:=by rw[Zl]at hp;exact hp
   rw[zCc hp hp']
   obtain⟨q,hq,e⟩:=key p hp'
   obtain⟨he,ht⟩:=ho.YJ p hp'
   have hw:=zCY hP (i:=o[p]) (by omega) (by omega) he
   obtain⟨c0,c1,c2,c3,c4,_,_⟩:=ye (hP.ok q hq)
   have hto:=qZ hq
   obtain⟨r1,r2,r3⟩:=qn hP ho hw (fun i hi=>List.mem_of_mem_take (ht i hi))
   unfold Yq
   rw[e]at he ht hw r1 r2 r3 ⊢
   rw[hto]at he ht hw r1 r2 r3 ⊢
   rw[zBY hq]
   have hex:=(Qj he).2.2
   have hty:(zu l l[q].type).zO=true:=by
     unfold zu
     rw[if_pos he]
     exact(zCZ l 16385 _ 0 hex).2.1 c2
   have hrok:Rok (xN o) (zu l l[q].type):=(yS _ hw).2 (fun i hi=>by
     have:=Qg (List.mem_of_mem_take (ht i hi))
     exact⟨by omega,by omega⟩)
   refine zF7 c0 r2 (qH _ _ hrok hty) ?_ ?_ ?_ (by omega)
   ·rw[Qx]
    have:=(yf hw).2
    unfold small;simp[this.1,this.2]
   ·exact(xo _ (by omega)).1 (zFU _ _ _ ((xo _ (by omega)).2 (hP.closed he c4)))
   ·intro i hi
    rw[r1]at hi
    obtain⟨x,hx,rfl⟩:=List.mem_map.1 hi
    exact zBc (ht x hx)
  ·have:=zAO m hm
   rw[this]
   exact⟨by simp,fun v hv=>by cases hv⟩
  ·have hv:=zAO m hm
   rw[hv]
   refine⟨?_,fun v hv=>by cases hv⟩
   obtain⟨p,hp,rfl⟩:=List.getElem_of_mem hm
   have hp':p<o.length:=by rw[Zl]at hp;exact hp
   rw[zCc hp hp']
   obtain⟨q,hq,e⟩:=key p hp'
   unfold Yq
   rw[e,qZ hq]
   exact zDr _ (fun _ _ _ _ h=>h) _ (zIM hP (hP.kn _ (List.getElem_mem hq)).1)
  ·have:∀{a b:Int},Z2 (qE l o) a b->b<=a:=by
     intro a b h
     induction h with
     |refl _=>omega
     |step _ hj _ ih=>have:=(hdown _ _ hj).2.2;omega
   have h1:=this hr
   have h2:=(hdown _ _ hj).2.2
   omega
end
end
section
open Tm Go.Proofs.YthgmimncdjhgnaaGreatDoor
mutual
def chT(c:Int->Int->Int->Int×Int)(d:Int):Tm->Tm
  |mk k n i l=>mk (c d k i).1 n (c d k i).2 (XQ c d k 0 l)
def XQ(c:Int->Int->Int->Int×Int)(d k:Int)(j:Nat):List Tm->List Tm
  | []=>[]
  |t :: ts=>chT c (d+under k j) t :: XQ c d k (j+1) ts
end
theorem xq(c d k n i l):chT c d (mk k n i l)=mk (c d k i).1 n (c d k i).2 (XQ c d k 0 l):=by rw[chT]
theorem yW(c d k j):XQ c d k j []=[]:=by rw[XQ]
theorem yG(c d k j t ts):XQ c d k j (t :: ts)=chT c (d+under k j) t :: XQ c d k (j+1) ts:=by rw[XQ]
theorem yz(c d k)(l:List Tm):∀ j,(XQ c d k j l).length=l.length:=by
  induction l with
  |nil=>intro j;rw[yW]
  |cons t ts ih=>intro j;rw[yG,List.length_cons,List.length_cons,ih]
theorem zDo(c d k)(l:List Tm):∀ j n,(XQ c d k j l).take n=XQ c d k j (l.take n):=by
  induction l with
  |nil=>intro j n;rw[List.take_nil,yW,List.take_nil]
  |cons t ts ih=>
   intro j n
   cases n with
   |zero=>rw[List.take_zero,List.take_zero,yW]
   |succ n=>rw[yG,List.take_succ_cons,List.take_succ_cons,yG,ih]
theorem zJT(c d k)(l:List Tm):∀(j i:Nat)(h:i<l.length)(h':i<(XQ c d k j l).length),(XQ c d k j l)[i]=chT c (d+under k (j+i)) l[i]:=by
  induction l with
  |nil=>intro j i h;cases h
  |cons t ts ih=>
   intro j i h h'
   cases i with
   |zero=>simp only[yG,List.getElem_cons_zero,Nat.add_zero]
   |succ i=>
    simp only[yG,List.getElem_cons_succ]
    rw[ih (j+1) i (by simpa using h) (by rw[yz];simpa using h),show j+1+i=j+(i+1) by omega]
theorem Xc(c d k)(l:List Tm)(i:Nat)(h:i<l.length):XQ c d k 0 (l.take (i+1))=XQ c d k 0 (l.take i)++[chT c (d+under k i) l[i]]:=by
  rw[<-zDo,<-zDo,List.take_succ_eq_append_getElem (by rw[yz];exact h),zJT c d k l 0 i h (by rw[yz];exact h),Nat.zero_add]
theorem Qn(c)(t:Tm):∀ d,(chT c d t).size=t.size:=by
  induction t using ind with
  |h k n i l ih=>
   intro d
   rw[xq,zW,zW]
   have key:∀(l':List Tm),(∀ t∈l',t∈l)->∀ j,zN (XQ c d k j l')=zN l':=by
     intro l'
     induction l' with
     |nil=>intro _ j;rw[yW]
     |cons t ts ih2=>intro hm j;rw[yG,zN,zN,ih t (hm t (by simp)),ih2 (fun t ht=>hm t (by simp[ht]))]
   rw[key l (fun _ h=>h)]
theorem zFA{N M:Int->List UInt8->Int->Nat->Prop}(c)(hNM:∀ d k n i z,N k n i z->M (c d k i).1 n (c d k i).2 z)(t:Tm):∀ d,xA N t->xA M (chT c d t):=by
  induction t using ind with
  |h k n i l ih=>
   intro d h
   rw[zz,zq]at h
   rw[xq,zz,yz]
   refine⟨hNM _ _ _ _ _ h.1,?_⟩
   have key:∀(l':List Tm),(∀ t∈l',t∈l)->∀ j,xf M (XQ c d k j l'):=by
     intro l'
     induction l' with
     |nil=>intro _ j;rw[yW];exact ZG
     |cons t ts ih2=>intro hm j;rw[yG,xf];exact⟨ih t (hm t (by simp)) _ (h.2 t (hm t (by simp))),ih2 (fun t ht=>hm t (by simp[ht])) _⟩
   exact key l (fun _ h=>h) 0
theorem zGW{c c':Int->Int->Int->Int×Int}{e:Int}(hk:∀ d k i j,under (c' d k i).1 j=under k j)(t:Tm):∀ d,chT c d (chT c' (d+e) t)=chT (fun d k i=>c d (c' (d+e) k i).1 (c' (d+e) k i).2) d t:=by
  induction t using ind with
  |h k n i l ih=>
   intro d
   rw[xq,xq,xq]
   congr 1
   have key:∀(l':List Tm),(∀ t∈l',t∈l)->∀ j,XQ c d (c' (d+e) k i).1 j (XQ c' (d+e) k j l')=XQ (fun d k i=>c d (c' (d+e) k i).1 (c' (d+e) k i).2) d k j l':=by
     intro l'
     induction l' with
     |nil=>intro _ j;rw[yW,yW,yW]
     |cons t ts ih2=>
      intro hm j
      rw[yG,yG,yG,hk,show d+e+under k j=d+under k j+e by omega,ih t (hm t (by simp)),ih2 (fun t ht=>hm t (by simp[ht]))]
   exact key l (fun _ h=>h) 0
def ZB(p:Int):Int->Int->Int->Int×Int:=fun d k i=>if k=6 then(5,d+p - 1 - i)else(k,i)
def bnd(p d:Int)(t:Tm):Tm:=chT (ZB p) d t
def ZQ(f n:Int):Int->Int->Int->Int×Int:=fun d k i=>if k=5/\d<=i then(6,f+n - 1 - (i - d))else(k,i)
def Zx(f n d:Int)(t:Tm):Tm:=chT (ZQ f n) d t
def X1(j:Int):Int->Int->Int->Int×Int:=fun d k i=>if k=5/\i=d then(6,j)else if k=5/\d<i then(5,i - 1)else(k,i)
def mfo(j d:Int)(t:Tm):Tm:=chT (X1 j) d t
theorem zBd(j:Nat):under 6 j=under 5 j:=by unfold under;simp
theorem zHq(f n d:Int)(t:Tm):mfo (f+n) d (Zx f n (d+1) t)=Zx f (n+1) d t:=by
  unfold mfo Zx
  rw[zGW (fun d k i j=>by unfold ZQ;split;(rename_i h;rw[h.1];exact zBd j);rfl)]
  congr 1
  funext d k i
  by_cases h5:k=5
  ·subst h5
   by_cases h1:d+1<=i
   ·have e:ZQ f n (d+1) 5 i=(6,f+n - 1 - (i - (d+1))):=by unfold ZQ;rw[if_pos ⟨rfl,h1⟩]
    rw[e]
    unfold ZQ X1
    simp only
    rw[if_neg (fun h=>absurd h.1 (by decide)),if_neg (fun h=>absurd h.1 (by decide)),if_pos ⟨trivial,by omega⟩]
    congr 1
    omega
   ·have e:ZQ f n (d+1) 5 i=(5,i):=by unfold ZQ;rw[if_neg (fun h=>h1 h.2)]
    rw[e]
    unfold ZQ X1
    simp only
    by_cases h2:i=d
    ·rw[if_pos ⟨trivial,h2⟩,if_pos ⟨trivial,by omega⟩]
     congr 1
     omega
    ·rw[if_neg (fun h=>h2 h.2),if_neg (fun h=>by omega),if_neg (fun h=>by omega)]
  ·have e:ZQ f n (d+1) k i=(k,i):=by unfold ZQ;rw[if_neg (fun h=>h5 h.1)]
   rw[e]
   unfold ZQ X1
   simp only
   rw[if_neg (fun h=>h5 h.1),if_neg (fun h=>h5 h.1),if_neg (fun h=>h5 h.1)]
theorem zGy(f:Int)(t:Tm)(d:Int)(h0:0<=d):lt d t->Zx f 0 d t=t:=by
  unfold Zx
  induction t using ind generalizing d with
  |h k n i l ih=>
   intro h
   rw[ZC]at h
   rw[xq]
   have hc:ZQ f 0 d k i=(k,i):=by
     unfold ZQ
     rw[if_neg]
     rintro⟨h5,hd⟩
     have:=h.1 h5
     omega
   rw[hc]
   congr 1
   have key:∀(l':List Tm),(∀ t∈l',t∈l)->∀ j,qk d k j l'->XQ (ZQ f 0) d k j l'=l':=by
     intro l'
     induction l' with
     |nil=>intro _ j _;rw[yW]
     |cons t ts ih2=>
      intro hm j h
      rw[yC]at h
      have hu:=zt k j
      rw[yG,ih t (hm t (by simp)) _ (by omega) h.1,ih2 (fun t ht=>hm t (by simp[ht])) _ h.2]
   exact key l (fun _ h=>h) 0 h.2
theorem zEY(t:Tm):xA (fun _ _ _ _=>True) t:=by
  induction t using ind with
  |h k n i l ih=>exact(zz _ _ _ _).2 ⟨trivial,(zq l).2 ih⟩
theorem zGq(p d:Int)(t:Tm):xA (fun k _ _ _=>k≠6) (bnd p d t):=
  zFA (N:=fun _ _ _ _=>True) _ (fun d k n i z _=>by
    unfold ZB
    split
    ·exact(by decide:(5:Int)≠6)
    ·rename_i h;exact h) t d (zEY t)
theorem zGn(p:Int)(hp:0<=p)(t:Tm):∀ d,0<=d->xA (fun k _ i _=>k=6->0<=i) t->lt d t->lt (d+p) (bnd p d t):=by
  unfold bnd
  induction t using ind with
  |h k n i l ih=>
   intro d h0 hn h
   rw[ZC]at h
   rw[zz,zq]at hn
   rw[xq,ZC]
   have hc:(ZB p d k i).1=5->(ZB p d k i).2<d+p:=by
     unfold ZB
     split
     ·rename_i h6;have:=hn.1 h6;intro _;show d+p - 1 - i<d+p;omega
     ·intro h5;have:=h.1 h5;show i<d+p;omega
   refine⟨hc,?_⟩
   have hu':∀ j,under (ZB p d k i).1 j=under k j:=fun j=>by unfold ZB;split;(rename_i h6;rw[h6];exact(zBd j).symm);rfl
   have key:∀(l':List Tm),(∀ t∈l',t∈l)->∀ j,qk d k j l'->qk (d+p) (ZB p d k i).1 j (XQ (ZB p) d k j l'):=by
     intro l'
     induction l' with
     |nil=>intro _ j _;rw[yW];exact xI _ _ _
     |cons t ts ih2=>
      intro hm j h
      rw[yC]at h
      have hu:=zt k j
      rw[yG,yC,hu']
      refine⟨?_,ih2 (fun t ht=>hm t (by simp[ht])) _ h.2⟩
      have:=ih t (hm t (by simp)) (d+under k j) (by omega) (hn.2 t (hm t (by simp))) h.1
      rw[show d+p+under k j=d+under k j+p by omega]
      exact this
   exact key l (fun _ h=>h) 0 h.2
abbrev Mlt(p:Int)(t:Tm):Prop:=xA (fun k _ i _=>k=6->0<=i/\i<p) t
theorem zFB(p:Int)(hp:p<=1000)(t:Tm):∀ d:Int,0<=d->d+t.depth<=100000->Mlt p t->t.isObj=true->(bnd p d t).isObj=true:=by
  unfold bnd
  induction t using ind with
  |h k n i l ih=>
   intro d h0 hd hn h
   have hn:=(zz _ _ _ _).1 hn
   rw[zq]at hn
   rw[yK]at hd
   have key:∀(l':List Tm),(∀ t∈l',t∈l)->∀ j,zV l'=true->zV (XQ (ZB p) d k j l')=true:=by
     intro l'
     induction l' with
     |nil=>intro _ j h;rw[yW];exact h
     |cons t ts ih2=>
      intro hm j h
      rw[zV,Bool.and_eq_true]at h
      have hu:=zt k j
      have hdt:=zh (hm t (by simp))
      rw[yG,zV,ih t (hm t (by simp)) _ (by omega) (by omega) (hn.2 t (hm t (by simp))) h.1,ih2 (fun t ht=>hm t (by simp[ht])) _ h.2];rfl
   rw[xq]
   rw[isObj]at h
   by_cases h6:k=6
   ·subst h6
    have hi:=hn.1 rfl
    rw[if_neg (by decide),if_neg (by decide),if_neg (by decide),if_pos rfl]at h
    simp only[Bool.and_eq_true,decide_eq_true_eq]at h
    have e:ZB p d 6 i=(5,d+p - 1 - i):=by unfold ZB;rw[if_pos rfl]
    rw[e]
    simp only
    rw[isObj,if_neg (by decide),if_neg (by decide),if_pos rfl]
    simp only[Bool.and_eq_true,decide_eq_true_eq]
    exact⟨⟨⟨h.1.1.1,by omega⟩,by omega⟩,key l (fun _ h=>h) 0 h.2⟩
   ·have e:ZB p d k i=(k,i):=by unfold ZB;rw[if_neg h6]
    rw[e]
    simp only
    rw[isObj]
    split
    ·rename_i hk;rw[if_pos hk]at h
     unfold bound at h ⊢
     rw[yz]
     rw[Bool.and_eq_true]at h ⊢;exact⟨h.1,key l (fun _ h=>h) 0 h.2⟩
    rename_i hk3
    rw[if_neg hk3]at h
    split
    ·rename_i hk;rw[if_pos hk]at h;rw[Bool.and_eq_true]at h ⊢;exact⟨h.1,key l (fun _ h=>h) 0 h.2⟩
    rename_i hk4
    rw[if_neg hk4]at h
    split
    ·rename_i hk;rw[if_pos hk]at h;rw[Bool.and_eq_true]at h ⊢;exact⟨h.1,key l (fun _ h=>h) 0 h.2⟩
    rename_i hk5
    rw[if_neg hk5,if_neg h6]at h
    cases h
theorem zCu(p:Int)(hp:p<=1000)(d k:Int)(h0:0<=d):∀(l:List Tm)(j:Nat),(∀ t∈l,d+1+t.depth<=100000/\Mlt p t)->zV l=true->zV (XQ (ZB p) d k j l)=true
  | [],_,_,h=>by rw[yW];exact h
  |t :: ts,j,ht,h=>by
   rw[zV,Bool.and_eq_true]at h
   have hu:=zt k j
   have h1:=ht t (by simp)
   rw[yG,zV,show chT (ZB p) (d+under k j) t=bnd p (d+under k j) t from rfl,zFB p hp t _ (by omega) (by omega) h1.2 h.1,zCu p hp d k h0 ts (j+1) (fun t h=>ht t (by simp[h])) h.2];rfl
theorem zBu(p:Int)(hp:p<=1000)(t:Tm):∀ d:Int,0<=d->d+t.depth<=100000->Mlt p t->t.zO=true->(bnd p d t).zO=true:=by
  unfold bnd
  induction t using ind with
  |h k n i l ih=>
   intro d h0 hd hn h
   have hn:=(zz _ _ _ _).1 hn
   rw[zq]at hn
   rw[yK]at hd
   have key:∀(l':List Tm),(∀ t∈l',t∈l)->∀ j,yO l'=true->yO (XQ (ZB p) d k j l')=true:=by
     intro l'
     induction l' with
     |nil=>intro _ j h;rw[yW];exact h
     |cons t ts ih2=>
      intro hm j h
      rw[yO,Bool.and_eq_true]at h
      have hu:=zt k j
      have hdt:=zh (hm t (by simp))
      rw[yG,yO,ih t (hm t (by simp)) _ (by omega) (by omega) (hn.2 t (hm t (by simp))) h.1,ih2 (fun t ht=>hm t (by simp[ht])) _ h.2];rfl
   rw[xq]
   rw[zO,isAtom]at h
   have h6:k≠6:=by rintro rfl;simp at h
   have e:ZB p d k i=(k,i):=by unfold ZB;rw[if_neg h6]
   rw[e]
   simp only
   rw[zO,isAtom]
   unfold bound at h ⊢
   rw[yz]
   simp only[Bool.or_eq_true,Bool.and_eq_true,beq_iff_eq]at h ⊢
   rcases h with⟨h1,h2,h3⟩|⟨h1,h2,h3⟩
   ·exact .inl ⟨h1,h2,zCu p hp d k h0 l 0 (fun t ht=>⟨by have:=zh ht;omega,hn.2 t ht⟩) h3⟩
   ·exact .inr ⟨h1,h2,key l (fun _ h=>h) 0 h3⟩
theorem zIU(p:Int)(hp:p<=1000)(t:Tm):∀ d:Int,0<=d->d+t.depth<=100000->Mlt p t->t.zP=true->(bnd p d t).zP=true:=by
  induction t using ind with
  |h k n i l ih=>
   intro d h0 hd hn h
   rcases zBX h with⟨n',i',a,b,e,h1,h2,h3⟩|e
   ·cases e
    have hn':=(zz _ _ _ _).1 hn
    rw[zq]at hn'
    rw[yK]at hd
    have da:=zh (show a∈[a,b] by simp)
    have db:=zh (show b∈[a,b] by simp)
    have e1:=zBu p hp a (d+under 2 0) (by have:=zt 2 0;omega) (by have:=zt 2 0;omega) (hn'.2 a (by simp)) h2
    have e2:=ih b (by simp) (d+under 2 1) (by have:=zt 2 1;omega) (by have:=zt 2 1;omega) (hn'.2 b (by simp)) h3
    unfold bnd at e1 e2 ⊢
    rw[xq,yG,yG,yW]
    have e:ZB p d 2 i=(2,i):=by unfold ZB;rw[if_neg (by decide)]
    rw[e,zP]
    unfold bound at h1 ⊢
    simp only[Bool.and_eq_true]at h1 ⊢
    exact⟨rfl,h1,e1,e2⟩
   ·cases e
    unfold bnd
    rw[xq,yW]
    have e:ZB p d 1 0=(1,0):=by unfold ZB;rw[if_neg (by decide)]
    rw[e]
    rfl
def par(pi:Bool)(m:Mv)(j:Nat)(t:Tm):Tm:=if pi=true then mk 2 m.name 0 [bnd j 0 m.type,t]else mk 3 m.name 0 [t]
def wrp(pi:Bool)(K:List Mv):Nat->Tm->Tm
  |0,t=>t
  |j+1,t=>wrp pi K j (par pi (K.getD j ⟨[],zU,[]⟩) j t)
def X8(K:List Mv)(pi:Bool)(t:Tm):Tm:=wrp pi K K.length (bnd K.length 0 t)
end
section
open Tm Go.Proofs.YthgmimncdjhgnaaGreatDoor
def zBS(K:List Mv):List Tm->List Tm
  | []=>[]
  |t :: ts=>X8 K true t :: ts.map (X8 K false)
def XR(l:List Mv)(all:List Tm):List Tm:=zBS (x7 l all) (ZA l all)
def YF(l:List Mv)(a:Tm)(ms:List Tm):Int:=
  if zk wf (a :: ms)≠0 then zk wf (a :: ms)
  else if(!(a.zO || a.zP)|| ms.any (fun m=>!m.isObj))=true then 32
  else if(a :: ms).any (fun t=>decide (0<t.scope))=true then 3
  else if XT l (a :: ms)≠0 then XT l (a :: ms)
  else if 64<(x7 l (a :: ms)).length then 7
  else if(XR l (a :: ms)).all small=true then 0 else 2
def zCT(l:List Mv)(a:Tm)(ms:List Tm):Tm:=if YF l a ms=0 then(XR l (a :: ms)).headD zU else zU
def zBB(l:List Mv)(a:Tm)(ms:List Tm):List Tm:=if YF l a ms=0 then(XR l (a :: ms)).tail else []
def zC3(l:List Mv)(a:Tm)(ms:List Tm):Nat:=if YF l a ms=0 then(x7 l (a :: ms)).length else 0
def zJh(n:List UInt8):Bool:=n == []|| n == [95]|| isName n
structure zIu(K:List Mv):Prop where
  len:K.length<=40
  nm:∀ j(h:j<K.length),zJh K[j].name=true
  YJ:∀ j(h:j<K.length),K[j].type.zO=true/\K[j].type.small=true/\Mlt j K[j].type/\lt 0 K[j].type
theorem qN.bnd{K:List Mv}(h:qN K):zIu K:=by
  refine⟨h.len,fun j hj=>?_,fun j hj=>?_⟩
  ·obtain⟨h1,_⟩:=ye (h.ok j hj)
   unfold zJh
   rcases h1 with h1 |h1
   ·rw[h1];rfl
   ·rw[h1];simp
  ·obtain⟨_,h1,h2,h3,h4,h5,_⟩:=ye (h.ok j hj)
   exact⟨h2,h3,(yS _ h1).2 (fun i hi=>⟨(YB i hi).1,h5 i hi⟩),(xo _ (by omega)).2 h4⟩
theorem Yp{t:Tm}(h:t.small=true):t.size<=4096/\t.depth<=128:=by
  unfold small at h
  rw[Bool.and_eq_true,decide_eq_true_eq,decide_eq_true_eq]at h
  exact h
section
variable {K:List Mv} (hK:zIu K)
include hK in
theorem zIi{j:Nat}(hj:j<K.length){t:Tm}:(t.zO=true->(par true K[j] j t).zO=true)/\(t.zP=true->(par true K[j] j t).zP=true)/\(t.isObj=true->(par false K[j] j t).isObj=true):=by
  obtain⟨h1,h2,h3,h4⟩:=hK.YJ j hj
  have hl:=hK.len
  have hn:=hK.nm j hj
  unfold zJh at hn
  have hb:=zBu (j:Int) (by omega) K[j].type 0 (Int.le_refl _) (by have:=(Yp h2).2;omega) h3 h1
  refine⟨fun h=>?_,fun h=>?_,fun h=>?_⟩
  ·unfold par
   rw[if_pos rfl,zO]
   unfold bound
   rw[yO,yO,yO,hb,h,hn]
   simp
  ·unfold par
   rw[if_pos rfl,zP]
   unfold bound
   rw[hb,h,hn]
   simp
  ·unfold par
   rw[if_neg (by simp),isObj,if_pos rfl]
   unfold bound
   rw[zV,zV,h,hn]
   simp
theorem Qi(K:List Mv)(j:Nat)(h:j<K.length):K.getD j ⟨[],zU,[]⟩=K[j]:=by rw[List.getD_eq_getElem?_getD,List.getElem?_eq_getElem h];rfl
include hK in
theorem zB2(n:Nat):n<=K.length->∀{t:Tm},(t.zO=true->(wrp true K n t).zO=true)/\(t.zP=true->(wrp true K n t).zP=true)/\(t.isObj=true->(wrp false K n t).isObj=true):=by
  induction n with
  |zero=>intro _ t;exact⟨fun h=>h,fun h=>h,fun h=>h⟩
  |succ n ih=>
   intro hn t
   obtain⟨h1,h2,h3⟩:=zIi hK (show n<K.length by omega) (t:=t)
   have e:=Qi K n (by omega)
   refine⟨fun h=>?_,fun h=>?_,fun h=>?_⟩
   ·rw[wrp,e];exact(ih (by omega)).1 (h1 h)
   ·rw[wrp,e];exact(ih (by omega)).2.1 (h2 h)
   ·rw[wrp,e];exact(ih (by omega)).2.2 (h3 h)
theorem zEv{m:Mv}{j:Nat}{t:Tm}(pi:Bool)(h:xA (fun k _ _ _=>k≠6) t):xA (fun k _ _ _=>k≠6) (par pi m j t):=by
  unfold par
  split
  ·exact(zz _ _ _ _).2 ⟨by decide,(zq _).2 (fun u hu=>by
     rcases List.mem_cons.1 hu with rfl |hu
     ·exact zGq _ _ _
     ·rw[List.mem_singleton.1 hu];exact h)⟩
  ·exact(zz _ _ _ _).2 ⟨by decide,(zq _).2 (fun u hu=>by rw[List.mem_singleton.1 hu];exact h)⟩
theorem zD7(pi:Bool)(K:List Mv)(n:Nat):∀{t:Tm},xA (fun k _ _ _=>k≠6) t->xA (fun k _ _ _=>k≠6) (wrp pi K n t):=by
  induction n with
  |zero=>intro t h;exact h
  |succ n ih=>intro t h;rw[wrp];exact ih (zEv pi h)
include hK in
theorem zJY(pi:Bool)(n:Nat):n<=K.length->∀{t:Tm},lt (n:Int) t->lt 0 (wrp pi K n t):=by
  induction n with
  |zero=>intro _ t h;exact h
  |succ n ih=>
   intro hn t h
   rw[wrp,Qi K n (by omega)]
   refine ih (by omega) ?_
   obtain⟨_,_,h3,h4⟩:=hK.YJ n (by omega)
   unfold par
   split
   ·rw[ZC,yC,yC]
    refine⟨fun e=>absurd e (by decide),?_,?_,xI _ _ _⟩
    ·have:=zGn (n:Int) (by omega) K[n].type 0 (Int.le_refl _) (zCP (fun _ _ _ _ h e=>(h e).1) _ h3) h4
     simpa[under]using this
    ·simpa[under]using h
   ·rw[ZC,yC]
    exact⟨fun e=>absurd e (by decide),by simpa[under]using h,xI _ _ _⟩
end
theorem qw(c)(t:Tm):∀ d,(chT c d t).wt=t.wt:=by
  induction t using ind with
  |h k n i l ih=>
   intro d
   rw[xq,yM,yM]
   have key:∀(l':List Tm),(∀ t∈l',t∈l)->∀ j,yp (XQ c d k j l')=yp l':=by
     intro l'
     induction l' with
     |nil=>intro _ j;rw[yW]
     |cons t ts ih2=>intro hm j;rw[yG,yp,yp,ih t (hm t (by simp)),ih2 (fun t ht=>hm t (by simp[ht]))]
   rw[key l (fun _ h=>h)]
theorem zJb{c:Nat}(t:Tm):xA (fun _ n _ _=>n.length<=c) t->t.wt<=(c+1) * t.size:=by
  induction t using ind with
  |h k n i l ih=>
   intro h
   rw[zz,zq]at h
   rw[yM,zW]
   have key:∀(l':List Tm),(∀ t∈l',t∈l)->yp l'<=(c+1) * zN l':=by
     intro l'
     induction l' with
     |nil=>intro _;simp[yp,zN]
     |cons t ts ih2=>
      intro hm
      have h1:=ih t (hm t (by simp)) (h.2 t (hm t (by simp)))
      have h2:=ih2 (fun t ht=>hm t (by simp[ht]))
      rw[yp,zN,Nat.mul_add]
      omega
   have h1:=key l (fun _ h=>h)
   have h2:=h.1
   rw[Nat.mul_add]
   omega
theorem zI3(pi:Bool)(K:List Mv)(c:Nat)(hc:∀ j(h:j<K.length),K[j].name.length+K[j].type.wt<=c)(n:Nat):n<=K.length->∀{t:Tm},(wrp pi K n t).wt<=t.wt+n * (c+1):=by
  induction n with
  |zero=>intro _ t;rw[wrp];omega
  |succ n ih=>
   intro hn t
   rw[wrp,Qi K n (by omega)]
   have h1:=ih (by omega) (t:=par pi K[n] n t)
   have h2:(par pi K[n] n t).wt<=t.wt+(c+1):=by
     have h3:=hc n (by omega)
     unfold par
     split
     ·simp only[yM,yp]
      unfold bnd
      rw[qw]
      omega
     ·simp only[yM,yp]
      omega
   rw[Nat.add_mul]
   omega
def xJ(l:List Mv):Prop:=∀ m∈l,xA (fun _ n _ _=>n.length<=4) m.type/\∀ v∈m.value,xA (fun _ n _ _=>n.length<=4) v
section
variable {l:List Mv} (hP:qN l){ts:List Tm} (h:XT l ts=0)
include hP h in
theorem zAr:qN (x7 l ts):=zHD hP (zBp hP h).2.2.1
include hP h in
theorem XJ:(ZA l ts).length=ts.length/\∀ i(hi:i<ts.length)(hi':i<(ZA l ts).length),Kp ts[i] (ZA l ts)[i]/\(ZA l ts)[i].wf=0/\Mlt (x7 l ts).length (ZA l ts)[i]/\(ts[i].scope<=0->lt 0 (ZA l ts)[i]):=by
  obtain⟨hA,hC,ho,hb⟩:=zBp hP h
  have hT:ZA l ts=(ts.map (zu l)).map (yI (xN (qR l ts))):=by
    unfold ZA
    rw[if_pos h]
    unfold YQ
    rw[if_pos hA]
  have hl:=ho.len
  have hl2:=hP.len
  refine⟨by rw[hT];simp,fun i hi hi'=>?_⟩
  have e:(ZA l ts)[i]=yI (xN (qR l ts)) (zu l ts[i]):=by
    have h2:(ZA l ts)[i]? =some (yI (xN (qR l ts)) (zu l ts[i])):=by
      rw[hT,List.getElem?_map,List.getElem?_map,List.getElem?_eq_getElem hi];rfl
    rw[List.getElem?_eq_getElem hi']at h2
    exact Option.some.inj h2
  rw[e]
  have he:=YI l ts hA _ (List.getElem_mem hi)
  have hw:=(Zm hP he).1
  have hin:∀ j∈Tm.zL (zu l ts[i]),j∈qR l ts:=fun j hj=>(zDg hC).2 j (List.mem_flatMap.2 ⟨_,List.mem_map.2 ⟨_,List.getElem_mem hi,rfl⟩,hj⟩)
  obtain⟨r1,r2,r3⟩:=qn hP ho hw hin
  have hex:=(Qj he).2.2
  have hrok:Rok (xN (qR l ts)) (zu l ts[i]):=(yS _ hw).2 (fun j hj=>by
    have:=Qg (hin j hj)
    exact⟨by omega,by omega⟩)
  have hkp:Kp ts[i] (zu l ts[i]):=by
    unfold zu
    rw[if_pos he]
    exact zCZ l 16385 _ 0 hex
  refine⟨⟨fun h=>zAo _ _ hrok (hkp.1 h),fun h=>qH _ _ hrok (hkp.2.1 h),fun h=>zDO _ _ hrok (hkp.2.2 h)⟩,r2,(yS _ r2).2 r3,fun hs=>?_⟩
  exact zFU _ _ _ ((xo _ (by omega)).2 (hP.closed he hs))
theorem zE0(hS:xJ l):∀ m∈x7 l ts,xA (fun _ n _ _=>n.length<=4) m.type:=by
  intro m hm
  unfold x7 at hm
  obtain⟨j,_,rfl⟩:=List.mem_map.1 hm
  unfold Yq
  refine zDr _ (fun _ _ _ _ h=>h) _ ?_
  have h0:xA (fun _ n _ _=>n.length<=4) (typeOf l j):=by
    unfold typeOf
    split
    ·rename_i m hm
     exact(hS m (List.mem_of_getElem? hm)).1
    ·exact zn (N:=fun _ n _ _=>n.length<=4) (by decide)
  unfold zu
  split
  ·exact zB9 (N:=fun _ n _ _=>n.length<=4) (fun _ _ _ _ h=>h) (by decide) l (fun m hm v hv=>(hS m hm).2 v hv) 16385 _ 0 h0
  ·exact zn (N:=fun _ n _ _=>n.length<=4) (by decide)
include hP h in
theorem zEb(pi:Bool){i:Nat}(hi:i<ts.length)(hi':i<(ZA l ts).length)(hc:ts[i].scope<=0)(ho:if pi=true then ts[i].zO=true\/ts[i].zP=true else ts[i].isObj=true):
    xA (fun k _ _ _=>k≠6) (X8 (x7 l ts) pi (ZA l ts)[i])/\(X8 (x7 l ts) pi (ZA l ts)[i]).scope<=0/\(if pi=true then(X8 (x7 l ts) pi (ZA l ts)[i]).zO=true\/(X8 (x7 l ts) pi (ZA l ts)[i]).zP=true else(X8 (x7 l ts) pi (ZA l ts)[i]).isObj=true):=by
  have hK:=(zAr hP h).bnd
  have hl:=hK.len
  obtain⟨hkp,hw,hm,hlt⟩:=(XJ hP h).2 i hi hi'
  have hd:=(yf hw).2.2
  unfold X8
  refine⟨zD7 _ _ _ (zGq _ _ _),(xo _ (by omega)).1 (zJY hK pi _ (Nat.le_refl _) ?_),?_⟩
  ·have:=zGn ((x7 l ts).length:Int) (by omega) _ 0 (Int.le_refl _) (zCP (fun _ _ _ _ h e=>(h e).1) _ hm) (hlt hc)
   simpa using this
  ·cases pi with
   |true=>
    rw[if_pos rfl]at ho ⊢
    rcases ho with ho |ho
    ·exact .inl ((zB2 hK _ (Nat.le_refl _)).1 (zBu _ (by omega) _ 0 (Int.le_refl _) (by omega) hm (hkp.2.1 ho)))
    ·exact .inr ((zB2 hK _ (Nat.le_refl _)).2.1 (zIU _ (by omega) _ 0 (Int.le_refl _) (by omega) hm (hkp.2.2 ho)))
   |false=>
    rw[if_neg (by simp)]at ho ⊢
    exact(zB2 hK _ (Nat.le_refl _)).2.2 (zFB _ (by omega) _ 0 (Int.le_refl _) (by omega) hm (hkp.1 ho))
include hP h in
theorem zIg(hS:xJ l)(hl:l.length<=10)(pi:Bool){i:Nat}(hi:i<ts.length)(hi':i<(ZA l ts).length):(X8 (x7 l ts) pi (ZA l ts)[i]).wt<=1000000:=by
  have hKp:=zAr hP h
  have hko:(x7 l ts).length<=l.length:=by
    unfold x7
    rw[List.length_map]
    exact(zBp hP h).2.2.1.len
  obtain⟨_,hw,_,_⟩:=(XJ hP h).2 i hi hi'
  have h1:=Tm.Zw hw
  unfold X8
  have h2:=zI3 pi (x7 l ts) 20544 (fun j hj=>by
    obtain⟨h3,h4,_,h5,_⟩:=ye (hKp.ok j hj)
    have h6:=zJb _ (zE0 hS (ts:=ts) _ (List.getElem_mem hj))
    have h7:=(Yp h5).1
    have h8:(x7 l ts)[j].name.length<=64:=by
      rcases h3 with h3 |h3
      ·rw[h3];simp
      ·unfold isName at h3
       simp at h3
       omega
    omega) (x7 l ts).length (Nat.le_refl _) (t:=bnd (x7 l ts).length 0 (ZA l ts)[i])
  unfold bnd at h2 ⊢
  rw[qw]at h2
  have h9:(x7 l ts).length * (20544+1)<=10 * (20544+1):=Nat.mul_le_mul_right _ (by omega)
  omega
end
theorem YC{t:Tm}(h:t.isObj=true\/t.zO=true\/t.zP=true):t.wf=if t.small=true then 0 else 2:=by
  unfold wf
  have:(!t.isObj && !t.zO && !t.zP)=false:=by
    rcases h with h |h |h<;>rw[h]<;>simp
  rw[this]
  cases t.small<;>rfl
end
end Go.LF
