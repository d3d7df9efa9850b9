/- How many free variables there are behind a substitution. No program is in sight here. -/
import Derived.Test.YthgmimncdjhgnaaGreatDoorKFB
import Derived.Test.YthgmimncdjhgnaaGreatDoorKFC
import Derived.Test.YthgmimncdjhgnaaGreatDoorKFJ
namespace Go.LF.Tm
mutual
def lt(n:Int):Tm->Prop
  |mk k _ i l=>(k=5->i<n)/\Q3 n k 0 l
def Q3(n k:Int)(j:Nat):List Tm->Prop
  | []=>True
  |t :: ts=>lt (n+under k j) t/\Q3 n k (j+1) ts
end
theorem YJ(n k nm i l):lt n (mk k nm i l)↔(k=5->i<n)/\Q3 n k 0 l:=by rw[lt]
theorem ZG(n k:Int)(j:Nat):Q3 n k j []:=by rw[Q3];trivial
theorem xA(n k:Int)(j:Nat)(t:Tm)(ts:List Tm):Q3 n k j (t :: ts)↔lt (n+under k j) t/\Q3 n k (j+1) ts:=by rw[Q3]
theorem zKU(t:Tm):∀{n n':Int},n<=n'->lt n t->lt n' t:=by
  induction t using ind with
  |h k nm i l ih=>
   intro n n' hn h
   rw[YJ]at h ⊢
   refine⟨fun e=>by have:=h.1 e;omega,?_⟩
   have key:∀(l':List Tm),(∀ t∈l',t∈l)->∀ j,Q3 n k j l'->Q3 n' k j l':=by
     intro l'
     induction l' with
     |nil=>intro _ j _;exact ZG _ _ _
     |cons t ts ih2=>
      intro hm j h
      rw[xA]at h ⊢
      exact⟨ih t (hm t (by simp)) (by omega) h.1,ih2 (fun t ht=>hm t (by simp[ht])) (j+1) h.2⟩
   exact key l (fun _ h=>h) 0 h.2
theorem YM(t:Tm):∀{n:Int},0<=n->(lt n t↔scope t<=n):=by
  induction t using ind with
  |h k nm i l ih=>
   intro n hn
   rw[YJ,scope]
   have key:∀(l':List Tm),(∀ t∈l',t∈l)->∀(j:Nat)(acc:Int),(acc<=n/\Q3 n k j l')↔scopes k j acc l'<=n:=by
     intro l'
     induction l' with
     |nil=>intro _ j acc;rw[scopes];exact⟨fun h=>h.1,fun h=>⟨h,ZG _ _ _⟩⟩
     |cons t ts ih2=>
      intro hm j acc
      have hu:=ym k j
      rw[scopes,xA,<-ih2 (fun t ht=>hm t (by simp[ht])),ih t (hm t (by simp)) (by omega)]
      constructor
      ·rintro⟨h1,h2,h3⟩;exact⟨by omega,h3⟩
      ·rintro⟨h1,h2⟩;exact⟨by omega,by omega,h2⟩
   rw[<-key l (fun _ h=>h)]
   by_cases hk:k=5
   ·subst hk
    simp only[beq_self_eq_true,if_true,forall_const]
    constructor
    ·rintro⟨h1,h2⟩;exact⟨by omega,h2⟩
    ·rintro⟨h1,h2⟩;exact⟨by omega,h2⟩
   ·rw[if_neg (by simpa using hk)]
    exact⟨fun h=>⟨hn,h.2⟩,fun h=>⟨fun e=>absurd e hk,h.2⟩⟩
theorem yn{n:Int}:lt n zT:=(YJ _ _ _ _ _).2 ⟨fun e=>absurd e (by decide),ZG _ _ _⟩
theorem zKl(t:Tm):∀(by' b n:Int),0<=by'->lt n t->lt (n+by') (mv (ZY by' 0) b t):=by
  induction t using ind with
  |h k nm i l ih=>
   intro by' b n h0 h
   rw[YJ]at h
   rw[x7,YJ]
   refine⟨fun e=>?_,?_⟩
   ·have:=h.1 e
    unfold Z1 ZY
    simp only
    split
    ·split<;>omega
    ·omega
   have key:∀(l':List Tm),(∀ t∈l',t∈l)->∀ j,Q3 n k j l'->Q3 (n+by') k j (ZA (ZY by' 0) b k j l'):=by
     intro l'
     induction l' with
     |nil=>intro _ j _;rw[ZA];exact ZG _ _ _
     |cons t ts ih2=>
      intro hm j h
      rw[xA]at h
      rw[ZA,xA]
      refine⟨?_,ih2 (fun t ht=>hm t (by simp[ht])) (j+1) h.2⟩
      have:=ih t (hm t (by simp)) by' (b+under k j) (n+under k j) h0 h.1
      rw[show n+by'+under k j=n+under k j+by' by omega]
      exact this
   exact key l (fun _ h=>h) 0 h.2
theorem zCe{t:Tm}{w:Nat}{n:Int}(h:lt n t):lt n (ZU t w).t:=by
  unfold ZU
  split
  ·exact h
  ·exact yn
theorem zGy(n:Int)(f:Tm->Sm->Tm->Nat->xU)(hf:∀ u s b w,lt n u->lt (n+1) b->lt n (f u s b w).t)(us:List Tm):∀(m:Tm)(ss:List Sm)(w:Nat),lt n m->(∀ u∈us,lt n u)->lt n (Z8 f m ss us w).t:=by
  induction us with
  |nil=>
   intro m ss w hm _
   unfold Z8
   split
   ·exact yn
   ·exact zCe hm
  |cons u us ih=>
   intro m ss w hm hu
   cases ss with
   |nil=>unfold Z8;exact yn
   |cons s ss=>
    rw[Z8]
    split
    ·rename_i hk
     have hb:lt (n+1) (m.args.headD zT):=by
       cases m with
       |mk k nm i l=>
        rw[YJ]at hm
        have hk:k=3:=hk
        subst hk
        cases l with
        |nil=>exact yn
        |cons t ts=>
         have:=hm.2
         rw[xA]at this
         exact this.1
     have hf1:=hf u s _ w (hu u (by simp)) hb
     split
     ·exact ih _ _ _ hf1 (fun u h=>hu u (by simp[h]))
     ·exact hf1
    ·exact yn
theorem zJ1(N:Int)(hN:0<=N)(f:Tm->Sm->Tm->Nat->xU)(ms:List Tm)(ss:List Sm)(d k:Int)(hd:0<=d)(hf:∀ u s b w,lt (N+d) u->lt (N+d+1) b->lt (N+d) (f u s b w).t)(nm:List UInt8)(i:Int)(us:List Tm)(w:Nat)
    (hms:∀ m∈ms,lt N m) (hi:k=5->i<N+ms.length+d) (hu:Q3 (N+d) k 0 us):lt (N+d) (sbN f ms ss d k nm i us w).t:=by
  unfold sbN
  split
  ·rename_i hk
   obtain⟨rfl,hdi⟩:=hk
   have hus:∀ u∈us,lt (N+d) u:=by
     have key:∀(l:List Tm)j,Q3 (N+d) 5 j l->∀ u∈l,lt (N+d) u:=by
       intro l
       induction l with
       |nil=>intro j _ u hu;cases hu
       |cons t ts ih=>
        intro j h u hu
        rw[xA]at h
        rcases List.mem_cons.1 hu with rfl |hu
        ·have:=h.1;rw[show under 5 j=0 by unfold under;simp]at this;simpa using this
        ·exact ih (j+1) h.2 u hu
     exact key us 0 hu
   split
   ·rename_i hlt
    split
    ·exact yn
    ·unfold ap
     split
     ·refine zGy (N+d) f hf us _ _ _ ?_ hus
      have hl:(i - d).toNat<ms.length:=by omega
      rw[List.getD,List.getElem?_eq_getElem hl]
      exact zKl _ d 0 N hd (hms _ (List.getElem_mem hl))
     ·exact yn
   ·refine zCe ((YJ _ _ _ _ _).2 ⟨fun _=>?_,hu⟩)
    have:=hi rfl
    omega
  ·rename_i hk
   refine zCe ((YJ _ _ _ _ _).2 ⟨fun e=>?_,hu⟩)
   have:i<d:=by
     by_cases h:i<d
     ·exact h
     ·exact absurd ⟨e,by omega⟩ hk
   omega
theorem zJm(n:Nat):∀(N:Int)(ms:List Tm)(ss:List Sm)(d:Int)(t:Tm)(w:Nat),0<=N->0<=d->(∀ m∈ms,lt N m)->lt (N+ms.length+d) t->lt (N+d) (sb n ms ss d t w).t:=by
  induction n with
  |zero=>intro N ms ss d t w _ _ _ _;rw[sb];exact yn
  |succ n ih=>
   intro N ms ss d t w hN hd hms ht
   rw[sb]
   split
   ·exact yn
   ·split
    ·cases t with
     |mk k nm i l=>
      simp only[zAC,zCE,zA2,ZR]at *
      rw[YJ]at ht
      refine zJ1 N hN _ ms ss d k hd (fun u s b w hu hb=>?_) nm i _ _ hms ht.1 ?_
      ·have:=ih (N+d) [u] [s] 0 b w (by omega) (by omega) (fun m hm=>by obtain rfl:=List.mem_singleton.1 hm;exact hu) (by simpa using hb)
       simpa using this
      ·have key:∀(l':List Tm),(∀ t∈l',t∈l)->∀(j w:Nat),Q3 (N+ms.length+d) k j l'->Q3 (N+d) k j (yy (fun d' t' w'=>sb n ms ss d' t' w') d k j l' w).ts:=by
         intro l'
         induction l' with
         |nil=>intro _ j w _;rw[yy];exact ZG _ _ _
         |cons t ts ih2=>
          intro hm j w h
          rw[xA]at h
          have hu:=ym k j
          rw[yy]
          split
          ·split
           ·show Q3 _ _ _ (_ :: _)
            rw[xA]
            refine⟨?_,ih2 (fun t ht=>hm t (by simp[ht])) (j+1) _ h.2⟩
            have:=ih N ms ss (d+under k j) t w hN (by omega) hms (by rw[<-Int.add_assoc];exact h.1)
            rw[Int.add_assoc]
            exact this
           ·exact ZG _ _ _
          ·exact ZG _ _ _
       exact key l (fun _ h=>h) 0 _ ht.2
    ·exact yn
theorem zKd(n:Nat)(N:Int)(hN:0<=N)(m:Tm)(ss:List Sm)(us:List Tm)(w:Nat)(hm:lt N m)(hu:∀ u∈us,lt N u):lt N (ap (fun u s b w'=>sb n [u] [s] 0 b w') m ss us w).t:=by
  unfold ap
  split
  ·refine zGy N _ (fun u s b w h1 h2=>?_) us m ss w hm hu
   have:=zJm n N [u] [s] 0 b w hN (by omega) (fun m hm=>by obtain rfl:=List.mem_singleton.1 hm;exact h1) (by simpa using h2)
   simpa using this
  ·exact yn
end Go.LF.Tm
namespace Go.LF
section
open Tm Go.Proofs.YthgmimncdjhgnaaGreatDoor
theorem xm(f:Int->Int)(k n i l):zq f (mk k n i l)=mk k n (if k=6 then f i else i) (l.map (zq f)):=by rw[zq,zBl]
theorem zGY(f:Int->Int)(t:Tm):(zq f t).size=t.size:=by
  induction t using ind with
  |h k n i l ih=>
   rw[xm,zS,zS]
   have key:∀(l':List Tm),(∀ t∈l',t∈l)->zP (l'.map (zq f))=zP l':=by
     intro l'
     induction l' with
     |nil=>intro _;rfl
     |cons t ts ih2=>intro hm;rw[List.map_cons,zP,zP,ih t (hm t (by simp)),ih2 (fun t ht=>hm t (by simp[ht]))]
   rw[key l (fun _ h=>h)]
theorem zEi(f:Int->Int)(t:Tm):(zq f t).depth=t.depth:=by
  induction t using ind with
  |h k n i l ih=>
   rw[xm,yY,yY]
   have key:∀(l':List Tm),(∀ t∈l',t∈l)->zV (l'.map (zq f))=zV l':=by
     intro l'
     induction l' with
     |nil=>intro _;rfl
     |cons t ts ih2=>intro hm;rw[List.map_cons,zV,zV,ih t (hm t (by simp)),ih2 (fun t ht=>hm t (by simp[ht]))]
   rw[key l (fun _ h=>h)]
theorem zAK(f:Int->Int)(t:Tm):(zq f t).small=t.small:=by unfold small;rw[zGY,zEi]
def Rok(f:Int->Int)(t:Tm):Prop:=x8 (fun k _ i _=>k=6->0<=f i/\f i<2048) t
theorem zAy{f:Int->Int}{k i:Int}{n:List UInt8}{l:List Tm}(h:Rok f (mk k n i l)):∀ t∈l,Rok f t:=fun t ht=>(yQ l).1 ((yk _ _ _ _).1 h).2 t ht
theorem zBL(f:Int->Int)(t:Tm):Rok f t->t.isObj=true->(zq f t).isObj=true:=by
  induction t using ind with
  |h k n i l ih=>
   intro hr h
   have ha:=zAy hr
   have h6:=((yk _ _ _ _).1 hr).1
   have key:∀(l':List Tm),(∀ t∈l',t∈l)->zY l'=true->zY (l'.map (zq f))=true:=by
     intro l'
     induction l' with
     |nil=>intro _ h;exact h
     |cons t ts ih2=>
      intro hm h
      rw[zY,Bool.and_eq_true]at h
      rw[List.map_cons,zY,ih t (hm t (by simp)) (ha t (hm t (by simp))) h.1,ih2 (fun t ht=>hm t (by simp[ht])) h.2];rfl
   rw[xm,isObj]
   rw[isObj]at h
   split
   ·rename_i hk;rw[if_pos hk]at h
    subst hk
    rw[if_neg (by decide)]
    unfold bound at h ⊢
    rw[List.length_map]
    rw[Bool.and_eq_true]at h ⊢;exact⟨h.1,key l (fun _ h=>h) h.2⟩
   rename_i hk3
   rw[if_neg hk3]at h
   split
   ·rename_i hk;rw[if_pos hk]at h;subst hk;rw[if_neg (by decide)];rw[Bool.and_eq_true]at h ⊢;exact⟨h.1,key l (fun _ h=>h) h.2⟩
   rename_i hk4
   rw[if_neg hk4]at h
   split
   ·rename_i hk;rw[if_pos hk]at h;subst hk;rw[if_neg (by decide)];rw[Bool.and_eq_true]at h ⊢;exact⟨h.1,key l (fun _ h=>h) h.2⟩
   rename_i hk5
   rw[if_neg hk5]at h
   split
   ·rename_i hk;rw[if_pos hk]at h;subst hk
    simp only[Bool.and_eq_true,decide_eq_true_eq]at h ⊢
    exact⟨⟨⟨h.1.1.1,(h6 rfl).1⟩,(h6 rfl).2⟩,key l (fun _ h=>h) h.2⟩
   ·rename_i hk;rw[if_neg hk]at h;cases h
theorem zBk(f:Int->Int):∀(l:List Tm),(∀ t∈l,Rok f t)->zY l=true->zY (l.map (zq f))=true
  | [],_,h=>h
  |t :: ts,hr,h=>by
   rw[zY,Bool.and_eq_true]at h
   rw[List.map_cons,zY,zBL f t (hr t (by simp)) h.1,zBk f ts (fun t ht=>hr t (by simp[ht])) h.2];rfl
theorem qM(f:Int->Int)(t:Tm):Rok f t->t.zW=true->(zq f t).zW=true:=by
  induction t using ind with
  |h k n i l ih=>
   intro hr h
   have ha:=zAy hr
   have key:∀(l':List Tm),(∀ t∈l',t∈l)->yq l'=true->yq (l'.map (zq f))=true:=by
     intro l'
     induction l' with
     |nil=>intro _ h;exact h
     |cons t ts ih2=>
      intro hm h
      rw[yq,Bool.and_eq_true]at h
      rw[List.map_cons,yq,ih t (hm t (by simp)) (ha t (hm t (by simp))) h.1,ih2 (fun t ht=>hm t (by simp[ht])) h.2];rfl
   rw[xm]
   rw[zW,isAtom]at h ⊢
   unfold bound at h ⊢
   rw[List.length_map]
   simp only[Bool.or_eq_true,Bool.and_eq_true,beq_iff_eq]at h ⊢
   rcases h with⟨rfl,⟨h1,h2⟩,h3⟩|⟨rfl,h2,h3⟩
   ·exact .inl ⟨rfl,⟨h1,by rw[if_neg (by decide)];exact h2⟩,zBk f l ha h3⟩
   ·exact .inr ⟨rfl,by rw[if_neg (by decide)];exact h2,key l (fun _ h=>h) h3⟩
theorem zFw{t:Tm}(h:t.zZ=true):(∃ n i a b,t=mk 2 n i [a,b]/\bound n i [a,b] 2=true/\a.zW=true/\b.zZ=true)\/t=mk 1 [] 0 []:=by
  unfold zZ at h
  split at h
  ·rename_i k n i a b
   simp only[Bool.and_eq_true,beq_iff_eq]at h
   obtain⟨rfl,h1,h2,h3⟩:=h
   exact .inl ⟨n,i,a,b,rfl,h1,h2,h3⟩
  ·rename_i k n i l _
   simp only[Bool.and_eq_true,beq_iff_eq,List.isEmpty_iff]at h
   obtain⟨rfl,rfl,rfl,rfl⟩:=h
   exact .inr rfl
theorem zDk(f:Int->Int)(t:Tm):Rok f t->t.zZ=true->(zq f t).zZ=true:=by
  induction t using ind with
  |h k n i l ih=>
   intro hr h
   have ha:=zAy hr
   rcases zFw h with⟨n',i',a,b,e,h1,h2,h3⟩|e
   ·cases e
    rw[xm]
    show zZ (mk 2 n (if(2:Int)=6 then f i else i) [zq f a,zq f b])=true
    rw[if_neg (by decide),zZ]
    unfold bound at h1 ⊢
    simp only[Bool.and_eq_true]at h1 ⊢
    exact⟨rfl,h1,qM f a (ha a (by simp)) h2,ih b (by simp) (ha b (by simp)) h3⟩
   ·cases e;rw[xm];rfl
theorem zI4(f:Int->Int)(t:Tm)(hr:Rok f t)(h:t.wf=0):(zq f t).wf=0:=by
  have hs:=yr h
  have hsm:(zq f t).small=true:=by rw[zAK];unfold small;simp[hs.2.1,hs.2.2]
  unfold wf
  rw[hsm]
  rcases hs.1 with h1 |h1 |h1
  ·rw[zBL f t hr h1];rfl
  ·rw[qM f t hr h1];simp
  ·rw[zDk f t hr h1];simp
theorem zFv(f:Int->Int)(t:Tm):∀ n,lt n t->lt n (zq f t):=by
  induction t using ind with
  |h k nm i l ih=>
   intro n h
   rw[YJ]at h
   rw[xm,YJ]
   refine⟨fun e=>by rw[if_neg (by omega)];exact h.1 e,?_⟩
   have key:∀(l':List Tm),(∀ t∈l',t∈l)->∀ j,Q3 n k j l'->Q3 n k j (l'.map (zq f)):=by
     intro l'
     induction l' with
     |nil=>intro _ j _;exact ZG _ _ _
     |cons t ts ih2=>
      intro hm j h
      rw[xA]at h
      rw[List.map_cons,xA]
      exact⟨ih t (hm t (by simp)) _ h.1,ih2 (fun t ht=>hm t (by simp[ht])) (j+1) h.2⟩
   exact key l (fun _ h=>h) 0 h.2
theorem zHG{N M:Int->List UInt8->Int->Nat->Prop}(f:Int->Int)(hNM:∀ k n i z,N k n i z->M k n (if k=6 then f i else i) z)(t:Tm):x8 N t->x8 M (zq f t):=by
  induction t using ind with
  |h k n i l ih=>
   intro h
   rw[yk,yQ]at h
   rw[xm,yk,yQ,List.length_map]
   refine⟨hNM _ _ _ _ h.1,fun u hu=>?_⟩
   obtain⟨v,hv,rfl⟩:=List.mem_map.1 hu
   exact ih v hv (h.2 v hv)
theorem zCR{f:Int->Int}{S:Int->Prop}(hf:∀ a b,S a->S b->f a=f b->a=b)(t:Tm):x8 (fun k _ i _=>k=6->S i) t->∀ acc,(∀ a∈acc,S a)->yJ (acc.map f) (zq f t)=(yJ acc t).map f/\∀ a∈yJ acc t,S a:=by
  induction t using ind with
  |h k n i l ih=>
   intro h acc hacc
   rw[yk,yQ]at h
   have key:∀(l':List Tm),(∀ t∈l',t∈l)->∀ acc,(∀ a∈acc,S a)->zt (acc.map f) (l'.map (zq f))=(zt acc l').map f/\∀ a∈zt acc l',S a:=by
     intro l'
     induction l' with
     |nil=>intro _ acc hacc;rw[List.map_nil,zt,zt];exact⟨rfl,hacc⟩
     |cons t ts ih2=>
      intro hm acc hacc
      obtain⟨h1,h2⟩:=ih t (hm t (by simp)) (h.2 t (hm t (by simp))) acc hacc
      rw[List.map_cons,zt,zt,h1]
      exact ih2 (fun t ht=>hm t (by simp[ht])) _ h2
   rw[xm,yJ,yJ]
   by_cases hk:k=6
   ·subst hk
    have hS:=h.1 rfl
    have hc:(acc.map f).contains (f i)=acc.contains i:=by
      rw[Bool.eq_iff_iff]
      simp only[List.contains_eq_mem,decide_eq_true_eq,List.mem_map]
      exact⟨fun⟨a,ha,e⟩=>(hf a i (hacc a ha) hS e) ▸ ha,fun h=>⟨i,h,rfl⟩⟩
    rw[if_pos rfl,hc]
    by_cases hb:(((6:Int) == 6) && !acc.contains i)=true
    ·rw[if_pos hb,if_pos hb]
     have:=key l (fun _ h=>h) (acc++[i]) (fun a ha=>by rcases List.mem_append.1 ha with ha |ha;(exact hacc a ha);rw[List.mem_singleton.1 ha];exact hS)
     rw[List.map_append]at this
     exact this
    ·rw[if_neg hb,if_neg hb]
     exact key l (fun _ h=>h) acc hacc
   ·have hb:∀(b:Bool),¬((k == 6) && b)=true:=fun b=>by simp[hk]
    rw[if_neg (hb _),if_neg (hb _)]
    exact key l (fun _ h=>h) acc hacc
theorem zGL{f:Int->Int}{t:Tm}(h:t.wf=0)(hr:∀ i∈Tm.zJ t,0<=f i/\f i<2048)(hf:∀ a b,a∈Tm.zJ t->b∈Tm.zJ t->f a=f b->a=b):Tm.zJ (zq f t)=(Tm.zJ t).map f/\(zq f t).wf=0:=by
  have hw:=zI4 f t ((yS t h).2 hr) h
  refine⟨?_,hw⟩
  have:=(zCR hf t ((yS t h).2 (fun _ h=>h)) [] (fun _ h=>by cases h)).1
  unfold Tm.zJ
  rw[if_pos (by simp[hw]),if_pos (by simp[h])]
  exact this
theorem zDF{n:Int}{k:Int}(hk:k≠3/\k≠2):∀(l:List Tm)(j:Nat),Q3 n k j l->∀ u∈l,lt n u
  | [],_,_,_,hu=>by cases hu
  |t :: ts,j,h,u,hu=>by
   rw[xA]at h
   rcases List.mem_cons.1 hu with rfl |hu
   ·have:=h.1;rw[show under k j=0 by unfold under;simp[hk]]at this;simpa using this
   ·exact zDF hk ts (j+1) h.2 u hu
theorem zJf(g:Int->Int->List Tm->Nat->Option xU)(hg:∀ k i us c r,g k i us c=some r->k=6/\∀ N:Int,0<=N->(∀ u∈us,lt N u)->lt N r.t)(t:Tm):∀(N:Int),0<=N->lt N t->∀ c,lt N (Zm g t c).t:=by
  induction t using ind with
  |h k nm i l ih=>
   intro N hN h c
   rw[YJ]at h
   have key:∀(l':List Tm),(∀ t∈l',t∈l)->∀ j,Q3 N k j l'->∀ c,Q3 N k j (yx g l' c).ts:=by
     intro l'
     induction l' with
     |nil=>intro _ j _ c;rw[qh];exact ZG _ _ _
     |cons t ts ih2=>
      intro hm j h c
      rw[xA]at h
      have hu:=ym k j
      rw[zAe]
      split
      ·split
       ·show Q3 _ _ _ (_ :: _)
        rw[xA]
        exact⟨ih t (hm t (by simp)) _ (by omega) h.1 c,ih2 (fun t ht=>hm t (by simp[ht])) (j+1) h.2 _⟩
       ·exact ZG _ _ _
      ·exact ZG _ _ _
   have hA:=key l (fun _ h=>h) 0 h.2 c
   rw[Z0]
   split
   ·cases hq:g k i (yx g l c).ts (yx g l c).w with
    |none=>exact zCe ((YJ _ _ _ _ _).2 ⟨h.1,hA⟩)
    |some r=>
     obtain⟨rfl,h2⟩:=hg _ _ _ _ _ hq
     exact h2 N hN (zDF ⟨by decide,by decide⟩ _ 0 hA)
   ·exact yn
theorem zJb(l:List Mv)(hv:∀ m∈l,∀ v∈m.value,lt 0 v)(n:Nat):∀ t(N:Int),0<=N->lt N t->∀ c,lt N (xe l n t c).t:=by
  induction n with
  |zero=>intro t N _ _ c;exact yn
  |succ n ih=>
   intro t
   rw[xC]
   refine zJf _ (fun k i us c r hr=>?_) t
   unfold XD at hr
   obtain⟨m,hm,rfl⟩:=Option.map_eq_some_iff.1 hr
   obtain⟨h6,_,_,_,hml,hmv⟩:=YL hm
   refine⟨h6,fun N hN hus=>?_⟩
   split
   ·exact yn
   split
   ·exact yn
   rename_i h2
   refine ih _ N hN ?_ _
   unfold Z3
   rw[if_pos (Decidable.not_not.1 h2)]
   refine zKd 262145 N hN _ _ _ _ ?_ hus
   match hv':m.value,hmv with
   |v :: r,_=>exact zKU _ hN (hv m hml v (by rw[hv'];simp))
theorem Zw.closed{l:List Mv}(h:Zw l){t:Tm}(he:yc l t=0)(ht:t.scope<=0):(zj l t).scope<=0:=by
  unfold zj
  rw[if_pos he]
  refine(YM _ (by omega)).1 (zJb l (fun m hm v hv=>?_) 16385 t 0 (by omega) ((YM _ (by omega)).2 ht) 0)
  obtain⟨_,h1,h2,h3,_⟩:=xX ((h.val m hm).2 v hv)
  exact(YM _ (by omega)).2 h3
end
section
open Tm Go.Proofs.YthgmimncdjhgnaaGreatDoor
inductive Col(l:List Mv):List Int->List Int->List Int->Prop
  |nil (o):Col l [] o o
  |skip {m ms o o'} (h:m∈o) (t:Col l ms o o'):Col l (m :: ms) o o'
  |add {m ms o o1 o'} (h:m∉o) (he:yc l (typeOf l m)=0) (hi:Col l (Tm.zJ (zj l (typeOf l m))) o o1) (t:Col l ms (o1++[m]) o'):Col l (m :: ms) o o'
theorem zDZ{l:List Mv}{ms:List Int}(h:Bel l 0 ms):ms=[]:=by
  cases ms with
  |nil=>rfl
  |cons m ms=>have:=(h m (by simp)).2.2;omega
theorem zJV{l:List Mv}(hP:Zw l):∀ R ms o,Bel l R ms->(cF l R ms ⟨o,0⟩).e=0->Col l ms o (cF l R ms ⟨o,0⟩).o:=by
  intro R
  induction R with
  |zero=>
   intro ms o hb _
   rw[zDZ hb]
   exact .nil o
  |succ R ih=>
   intro ms
   show ∀ o,Bel l (R+1) ms->(Yr l R ms ⟨o,0⟩).e=0->Col l ms o (Yr l R ms ⟨o,0⟩).o
   rw[XX]
   induction ms with
   |nil=>intro o _ _;rw[yU];exact .nil o
   |cons m ms ih2=>
    intro o hb h
    have hb2:Bel l (R+1) ms:=fun x hx=>hb x (by simp[hx])
    obtain⟨m0,ml,mr⟩:=hb m (by simp)
    rw[yU,if_neg (by simp)]at h ⊢
    by_cases h1:o.contains m=true
    ·rw[if_pos h1]at h ⊢
     exact .skip (by simpa using h1) (ih2 o hb2 h)
    rw[if_neg h1]at h ⊢
    by_cases h2:yc l (typeOf l m)≠0
    ·rw[if_pos h2]at h;exact absurd h h2
    rw[if_neg h2]at h ⊢
    have hE:yc l (typeOf l m)=0:=by omega
    have hbi:=ZS hP m0 ml hE mr
    by_cases h3:(cF l R (Tm.zJ (zj l (typeOf l m))) ⟨o,0⟩).e=0
    ·rw[if_pos h3]at h ⊢
     exact .add (by simpa using h1) hE (ih _ o hbi h3) (ih2 _ hb2 h)
    ·rw[if_neg h3]at h;exact absurd h h3
theorem zAP{l:List Mv}{ms o o':List Int}(h:Col l ms o o'):(∀ x∈o,x∈o')/\∀ m∈ms,m∈o':=by
  induction h with
  |nil o=>exact⟨fun _ h=>h,fun _ h=>by cases h⟩
  |skip hm _ ih=>exact⟨ih.1,fun x hx=>by rcases List.mem_cons.1 hx with rfl |hx;(exact ih.1 _ hm);exact ih.2 x hx⟩
  |add _ _ _ _ ih1 ih2=>exact⟨fun x hx=>ih2.1 x (List.mem_append.2 (.inl (ih1.1 x hx))),fun x hx=>by rcases List.mem_cons.1 hx with rfl |hx;(exact ih2.1 _ (by simp));exact ih2.2 x hx⟩
theorem zHW{l:List Mv}(hP:Zw l){ms o o':List Int}(h:Col l ms o o'):∀ R,Bel l R ms->∀ x∈o',x∈o\/(0<=x/\x<l.length/\rk l x<R):=by
  induction h with
  |nil o=>intro R _ x hx;exact .inl hx
  |skip hm _ ih=>intro R hb x hx;exact ih R (fun y hy=>hb y (by simp[hy])) x hx
  | @add m ms o o1 o' hm he _ _ ih1 ih2=>
    intro R hb x hx
    obtain⟨m0,ml,mr⟩:=hb m (by simp)
    rcases ih2 R (fun y hy=>hb y (by simp[hy])) x hx with h |h
    ·rcases List.mem_append.1 h with h |h
     ·rcases ih1 (rk l m) (ZS hP m0 ml he (by omega)) x h with h |h
      ·exact .inl h
      ·exact .inr ⟨h.1,h.2.1,by omega⟩
     ·rw[List.mem_singleton.1 h];exact .inr ⟨m0,ml,mr⟩
    ·exact .inr h
structure Yj(l:List Mv)(o:List Int):Prop where
  cnt:yF l o+o.length<=l.length
  inn:∀ x∈o,0<=x/\x<l.length
  YQ:∀ p(h:p<o.length),yc l (typeOf l o[p])=0/\∀ j∈Tm.zJ (zj l (typeOf l o[p])),j∈o.take p
theorem Yj.nil(l:List Mv):Yj l []:=⟨X1 l,fun _ h=>(by cases h),fun p h=>(by simp at h)⟩
theorem zJM{l:List Mv}(hP:Zw l){ms o o':List Int}(h:Col l ms o o'):∀ R,Bel l R ms->Yj l o->Yj l o':=by
  induction h with
  |nil o=>intro R _ h;exact h
  |skip hm _ ih=>intro R hb h;exact ih R (fun y hy=>hb y (by simp[hy])) h
  | @add m ms o o1 o' hm he hi _ ih1 ih2=>
    intro R hb h
    obtain⟨m0,ml,mr⟩:=hb m (by simp)
    have hbi:=ZS hP (R:=rk l m) m0 ml he (by omega)
    have h1:=ih1 _ hbi h
    have hn:m∉o1:=fun hx=>by
      rcases zHW hP hi _ hbi m hx with h |h
      ·exact hm h
      ·omega
    refine ih2 R (fun y hy=>hb y (by simp[hy])) ⟨X0 h1.cnt m0 ml hn,fun x hx=>?_,fun p hp=>?_⟩
    ·rcases List.mem_append.1 hx with hx |hx
     ·exact h1.inn x hx
     ·rw[List.mem_singleton.1 hx];exact⟨m0,ml⟩
    ·rw[List.length_append,List.length_singleton]at hp
     by_cases e:p<o1.length
     ·rw[List.getElem_append_left e,List.take_append_of_le_length (by omega)]
      exact h1.YQ p e
     ·obtain rfl:p=o1.length:=by omega
      rw[List.getElem_append_right (by omega)]
      simp only[Nat.sub_self,List.getElem_cons_zero]
      rw[List.take_append_of_le_length (by omega),List.take_length]
      exact⟨he,fun j hj=>(zAP hi).2 j hj⟩
theorem Q8{o:List Int}{x:Int}(h:x∈o):0<=yg o x/\yg o x<o.length:=by
  unfold yg
  rw[if_pos h]
  have:=List.idxOf_lt_length_iff.2 h
  exact⟨by omega,by omega⟩
theorem zIn{o:List Int}(hn:o.Nodup){p:Nat}(h:p<o.length):yg o o[p]=(p:Int):=by
  unfold yg
  rw[if_pos (List.getElem_mem h)]
  have hk:o.idxOf o[p]<o.length:=List.idxOf_lt_length_iff.2 (List.getElem_mem h)
  have:=(List.getElem_inj hn).1 (List.getElem_idxOf hk)
  rw[this]
theorem zHT{o:List Int}{a b:Int}(ha:a∈o)(hb:b∈o)(h:yg o a=yg o b):a=b:=by
  unfold yg at h
  rw[if_pos ha,if_pos hb]at h
  have h1:o.idxOf a<o.length:=List.idxOf_lt_length_iff.2 ha
  have h2:o.idxOf b<o.length:=List.idxOf_lt_length_iff.2 hb
  have e1:o[o.idxOf a]=a:=List.getElem_idxOf h1
  have e2:o[o.idxOf b]=b:=List.getElem_idxOf h2
  rw[<-e1,<-e2]
  congr 1
  omega
theorem zBr{o:List Int}{p:Nat}{x:Int}(h:x∈o.take p):yg o x<p:=by
  have hx:=List.mem_of_mem_take h
  unfold yg
  rw[if_pos hx]
  obtain⟨q,hq,rfl⟩:=List.getElem_of_mem h
  have hq':=hq
  rw[List.length_take]at hq'
  have:o.idxOf ((o.take p)[q])<=q:=by
    rw[List.getElem_take]
    by_cases hc:o.idxOf o[q]<=q
    ·exact hc
    ·exfalso
     have:=List.not_of_lt_findIdx (p:=fun y=>y == o[q]) (xs:=o) (i:=q) (by
       show q<o.findIdx _
       have h2:o.idxOf o[q]=o.findIdx (fun y=>y == o[q]):=rfl
       omega)
     simp at this
  omega
theorem zGh{n:Int}{name:List UInt8}{a:Tm}(h0:name=[]\/isName name=true)(h1:a.wf=0)(h2:a.zW=true)(h3:a.small=true)(h4:a.scope<=0)(h5:∀ i∈Tm.zJ a,i<n)(h6:n<2048):yM n name a=0:=by
  unfold yM
  rw[if_neg,if_neg (by simp[h1]),if_neg (by simp[h2,h3]),if_neg,if_neg (by omega)]
  ·unfold QB
   rw[h1]
   simp only[Bool.or_eq_true,not_or,decide_eq_true_eq,List.any_eq_true,not_exists,not_and]
   exact⟨by rw[if_pos (by rfl)];omega,fun i hi=>by have:=h5 i hi;omega⟩
  ·rintro⟨h7,h8⟩
   rcases h0 with h |h
   ·exact h7 h
   ·rw[h]at h8;cases h8
section
variable {l:List Mv} (hP:Zw l)
include hP in
theorem zIZ{t:Tm}(h:x8 (fun _ _ _ z=>z<=200) t):x8 (fun _ _ _ z=>z<=200) (zj l t):=by
  unfold zj
  split
  ·exact zFc (fun _ _ _ _ h=>h) (Nat.zero_le _) l (fun m hm v hv=>(hP.kn m hm).2 v hv) 16385 t 0 h
  ·exact yD (Nat.zero_le _)
include hP in
theorem qj{ts:List Tm}(h:ZW l ts=0):xh l ts=0/\Col l ((ts.map (zj l)).flatMap Tm.zJ) [] (ZB l ts)/\Yj l (ZB l ts)/\Bel l (l.length+1) ((ts.map (zj l)).flatMap Tm.zJ):=by
  have h0:=h
  unfold ZW at h
  by_cases h1:xh l ts≠0
  ·rw[if_pos h1]at h;exact absurd h h1
  rw[if_neg h1]at h
  have hA:xh l ts=0:=by omega
  have hR:xf l ts=ts.map (zj l):=by unfold xf;rw[if_pos hA]
  have hb:Bel l (l.length+1) ((ts.map (zj l)).flatMap Tm.zJ):=zAD l (fun x hx=>by
    obtain⟨u,hu,hx⟩:=List.mem_flatMap.1 hx
    obtain⟨t,ht,rfl⟩:=List.mem_map.1 hu
    exact⟨(ZX x hx).1,(xw hP (Zj l ts hA t ht)).2.2 x hx⟩)
  have hO:ZB l ts=(cF l (l.length+1) ((ts.map (zj l)).flatMap Tm.zJ) ⟨[],0⟩).o:=by
    unfold ZB zCg
    rw[if_pos h0,QQ,hR]
    rfl
  have hE:(cF l (l.length+1) ((ts.map (zj l)).flatMap Tm.zJ) ⟨[],0⟩).e=0:=by
    unfold zCg at h
    rw[QQ,hR]at h
    exact h
  have hC:=zJV hP _ _ [] hb hE
  rw[<-hO]at hC
  exact⟨hA,hC,zJM hP hC _ hb (Yj.nil l),hb⟩
theorem Yj.nodup{o:List Int}(h:Yj l o):o.Nodup:=YY l o h.cnt
theorem Yj.len{o:List Int}(h:Yj l o):o.length<=l.length:=by have:=h.cnt;omega
def qu(l:List Mv)(o:List Int):List Mv:=o.map (Zb l o)
theorem Zs(o:List Int):(qu l o).length=o.length:=by unfold qu;simp
theorem zCr{o:List Int}{p:Nat}(h:p<(qu l o).length)(h':p<o.length):(qu l o)[p]=Zb l o o[p]:=by
  have h2:(qu l o)[p]? =some (Zb l o o[p]):=by
    unfold qu
    rw[List.getElem?_map,List.getElem?_eq_getElem h'];rfl
  rw[List.getElem?_eq_getElem h]at h2
  exact Option.some.inj h2
theorem zAm{o:List Int}:∀ m∈qu l o,m.value=[]:=by
  intro m hm
  unfold qu at hm
  obtain⟨j,_,rfl⟩:=List.mem_map.1 hm
  rfl
include hP in
theorem QL{o:List Int}(ho:Yj l o){t:Tm}(hw:t.wf=0)(hm:∀ i∈Tm.zJ t,i∈o):Tm.zJ (zq (yg o) t)=(Tm.zJ t).map (yg o)/\(zq (yg o) t).wf=0/\(∀ i∈Tm.zJ (zq (yg o) t),0<=i/\i<(qu l o).length):=by
  have hl:=ho.len
  have hl2:=hP.len
  obtain⟨h1,h2⟩:=zGL (f:=yg o) hw (fun i hi=>by have:=Q8 (hm i hi);exact⟨by omega,by omega⟩) (fun a b ha hb e=>zHT (hm a ha) (hm b hb) e)
  refine⟨h1,h2,fun i hi=>?_⟩
  rw[h1]at hi
  obtain⟨j,hj,rfl⟩:=List.mem_map.1 hi
  rw[Zs]
  exact Q8 (hm j hj)
include hP in
theorem zH2{o:List Int}(ho:Yj l o):Zw (qu l o):=by
  have hl:=ho.len
  have hl2:=hP.len
  have key:∀(p:Nat)(h:p<o.length),∃ q:Nat,q<l.length/\o[p]=(q:Int):=fun p h=>by
    have:=ho.inn _ (List.getElem_mem h)
    exact⟨o[p].toNat,by omega,by omega⟩
  have hdown:∀ i:Int,∀ j∈zf (qu l o) i,0<=i/\i<(qu l o).length/\j<i:=by
    intro i j hj
    by_cases h0:0<=i
    ·by_cases h1:i<(qu l o).length
     ·refine⟨h0,h1,?_⟩
      obtain⟨p,rfl⟩:∃ p:Nat,i=(p:Int):=⟨i.toNat,by omega⟩
      rw[Zs]at h1
      have hp:p<o.length:=by omega
      rw[zAZ (by rw[Zs];exact hp),zCr (by rw[Zs];exact hp) hp]at hj
      unfold xP at hj
      have hj:j∈Tm.zJ (zq (yg o) (zj l (typeOf l o[p]))):=by
        unfold Zb at hj
        simpa using hj
      obtain⟨he,ht⟩:=ho.YQ p hp
      obtain⟨q,hq,e⟩:=key p hp
      have hw:=ql hP (i:=o[p]) (by omega) (by omega) he
      rw[(QL hP ho hw (fun i hi=>List.mem_of_mem_take (ht i hi))).1]at hj
      obtain⟨x,hx,rfl⟩:=List.mem_map.1 hj
      exact zBr (ht x hx)
     ·rw[zGS h1]at hj;cases hj
    ·rw[zFx h0]at hj;cases hj
  refine⟨by rw[Zs];omega,fun p hp=>?_,fun m hm=>?_,fun m hm=>?_,fun i hi j hj hr=>?_⟩
  ·have hp':p<o.length:=by rw[Zs]at hp;exact hp
   rw[zCr hp hp']
   obtain⟨q,hq,e⟩:=key p hp'
   obtain⟨he,ht⟩:=ho.YQ p hp'
   have hw:=ql hP (i:=o[p]) (by omega) (by omega) he
   obtain⟨c0,c1,c2,c3,c4,_,_⟩:=ZM (hP.ok q hq)
   have hto:=YB hq
   obtain⟨r1,r2,r3⟩:=QL hP ho hw (fun i hi=>List.mem_of_mem_take (ht i hi))
   unfold Zb
   rw[e]at he ht hw r1 r2 r3 ⊢
   rw[hto]at he ht hw r1 r2 r3 ⊢
   rw[QA hq]
   have hex:=(zAF he).2.2
   have hty:(zj l l[q].type).zW=true:=by
     unfold zj
     rw[if_pos he]
     exact(zCv l 16385 _ 0 hex).2.1 c2
   have hrok:Rok (yg o) (zj l l[q].type):=(yS _ hw).2 (fun i hi=>by
     have:=Q8 (List.mem_of_mem_take (ht i hi))
     exact⟨by omega,by omega⟩)
   refine zGh c0 r2 (qM _ _ hrok hty) ?_ ?_ ?_ (by omega)
   ·rw[zAK]
    have:=(yr hw).2
    unfold small;simp[this.1,this.2]
   ·exact(YM _ (by omega)).1 (zFv _ _ _ ((YM _ (by omega)).2 (hP.closed he c4)))
   ·intro i hi
    rw[r1]at hi
    obtain⟨x,hx,rfl⟩:=List.mem_map.1 hi
    exact zBr (ht x hx)
  ·have:=zAm m hm
   rw[this]
   exact⟨by simp,fun v hv=>by cases hv⟩
  ·have hv:=zAm m hm
   rw[hv]
   refine⟨?_,fun v hv=>by cases hv⟩
   obtain⟨p,hp,rfl⟩:=List.getElem_of_mem hm
   have hp':p<o.length:=by rw[Zs]at hp;exact hp
   rw[zCr hp hp']
   obtain⟨q,hq,e⟩:=key p hp'
   unfold Zb
   rw[e,YB hq]
   exact zHG _ (fun _ _ _ _ h=>h) _ (zIZ hP (hP.kn _ (List.getElem_mem hq)).1)
  ·have:∀{a b:Int},Zc (qu l o) a b->b<=a:=by
     intro a b h
     induction h with
     |refl _=>omega
     |step _ hj _ ih=>have:=(hdown _ _ hj).2.2;omega
   have h1:=this hr
   have h2:=(hdown _ _ hj).2.2
   omega
end
end
section
open Tm Go.Proofs.YthgmimncdjhgnaaGreatDoor
theorem zJz{l:List Mv}(hP:Zw l):∀ R R2 ms o,Bel l R ms->Bel l R2 ms->∀ x∈(cF l R ms ⟨o,0⟩).o,x∈o\/rk l x<R2:=by
  intro R
  induction R with
  |zero=>intro R2 ms o _ _ x hx;exact .inl hx
  |succ R ih=>
   intro R2 ms
   show ∀ o,Bel l (R+1) ms->Bel l R2 ms->∀ x∈(Yr l R ms ⟨o,0⟩).o,x∈o\/rk l x<R2
   rw[XX]
   induction ms with
   |nil=>intro o _ _ x hx;rw[yU]at hx;exact .inl hx
   |cons m ms ih2=>
    intro o hb hc x hx
    have hb2:Bel l (R+1) ms:=fun x hx=>hb x (by simp[hx])
    have hc2:Bel l R2 ms:=fun x hx=>hc x (by simp[hx])
    obtain⟨m0,ml,mr⟩:=hb m (by simp)
    have mr2:=(hc m (by simp)).2.2
    rw[yU,if_neg (by simp)]at hx
    by_cases h1:o.contains m=true
    ·rw[if_pos h1]at hx;exact ih2 o hb2 hc2 x hx
    rw[if_neg h1]at hx
    by_cases h2:yc l (typeOf l m)≠0
    ·rw[if_pos h2]at hx;exact .inl hx
    rw[if_neg h2]at hx
    have hE:yc l (typeOf l m)=0:=by omega
    have key:=ih (rk l m) (Tm.zJ (zj l (typeOf l m))) o (ZS hP m0 ml hE mr) (ZS hP m0 ml hE (by omega))
    split at hx
    ·rcases ih2 _ hb2 hc2 x hx with h |h
     ·rcases List.mem_append.1 h with h |h
      ·exact(key x h).imp id (fun h=>by omega)
      ·rw[List.mem_singleton.1 h];exact .inr mr2
     ·exact .inr h
    ·exact(key x hx).imp id (fun h=>by omega)
theorem zH7{l:List Mv}(hP:Zw l):∀ R ms o,Bel l R ms->yF l o+o.length<=l.length->yF l (cF l R ms ⟨o,0⟩).o+(cF l R ms ⟨o,0⟩).o.length<=l.length/\∀ x∈(cF l R ms ⟨o,0⟩).o,x∈o\/rk l x<R:=by
  intro R
  induction R with
  |zero=>intro ms o _ h;exact⟨h,fun x hx=>.inl hx⟩
  |succ R ih=>
   intro ms
   show ∀ o,Bel l (R+1) ms->_->yF l (Yr l R ms ⟨o,0⟩).o+(Yr l R ms ⟨o,0⟩).o.length<=l.length/\∀ x∈(Yr l R ms ⟨o,0⟩).o,x∈o\/rk l x<R+1
   rw[XX]
   induction ms with
   |nil=>intro o _ h;rw[yU];exact⟨h,fun x hx=>.inl hx⟩
   |cons m ms ih2=>
    intro o hb h
    have hb2:Bel l (R+1) ms:=fun x hx=>hb x (by simp[hx])
    obtain⟨m0,ml,mr⟩:=hb m (by simp)
    rw[yU,if_neg (by simp)]
    by_cases h1:o.contains m=true
    ·rw[if_pos h1];exact ih2 o hb2 h
    rw[if_neg h1]
    by_cases h2:yc l (typeOf l m)≠0
    ·rw[if_pos h2];exact⟨h,fun x hx=>.inl hx⟩
    rw[if_neg h2]
    have hE:yc l (typeOf l m)=0:=by omega
    obtain⟨i1,_⟩:=ih _ o (ZS hP m0 ml hE mr) h
    obtain⟨_,i2⟩:=ih2 o hb2 h
    have hbr:Bel l (rk l m) (Tm.zJ (zj l (typeOf l m))):=ZS hP m0 ml hE (by omega)
    have i3:∀ x∈(cF l R (Tm.zJ (zj l (typeOf l m))) ⟨o,0⟩).o,x∈o\/rk l x<rk l m:=fun x hx=>by
      have:=zJz hP R (rk l m) _ o (ZS hP m0 ml hE mr) hbr x hx
      exact this
    split
    ·have hn:m∉(cF l R (Tm.zJ (zj l (typeOf l m))) ⟨o,0⟩).o:=fun hx=>by
       rcases i3 m hx with h |h
       ·exact h1 (by simpa using h)
       ·omega
     obtain⟨j1,j2⟩:=ih2 _ hb2 (X0 i1 m0 ml hn)
     refine⟨j1,fun x hx=>?_⟩
     rcases j2 x hx with h |h
     ·rcases List.mem_append.1 h with h |h
      ·exact(i3 x h).imp id (fun h=>by omega)
      ·rw[List.mem_singleton.1 h];exact .inr mr
     ·exact .inr h
    ·exact⟨i1,fun x hx=>(i3 x hx).imp id (fun h=>by omega)⟩
end
section
open Tm Go.Proofs.YthgmimncdjhgnaaGreatDoor
abbrev Mlt(p:Int)(t:Tm):Prop:=x8 (fun k _ i _=>k=6->0<=i/\i<p) t
end
section
open Tm Go.Proofs.YthgmimncdjhgnaaGreatDoor
section
variable {l:List Mv} (hP:Zw l){ts:List Tm} (h:ZW l ts=0)
include hP h in
theorem zHA:Zw (Yx l ts):=zH2 hP (qj hP h).2.2.1
include hP h in
theorem zGN:(ZV l ts).length=ts.length/\∀ i(hi:i<ts.length)(hi':i<(ZV l ts).length),Kp ts[i] (ZV l ts)[i]/\(ZV l ts)[i].wf=0/\Mlt (Yx l ts).length (ZV l ts)[i]/\(ts[i].scope<=0->lt 0 (ZV l ts)[i]):=by
  obtain⟨hA,hC,ho,hb⟩:=qj hP h
  have hT:ZV l ts=(ts.map (zj l)).map (zq (yg (ZB l ts))):=by
    unfold ZV
    rw[if_pos h]
    unfold xf
    rw[if_pos hA]
  have hl:=ho.len
  have hl2:=hP.len
  refine⟨by rw[hT];simp,fun i hi hi'=>?_⟩
  have e:(ZV l ts)[i]=zq (yg (ZB l ts)) (zj l ts[i]):=by
    have h2:(ZV l ts)[i]? =some (zq (yg (ZB l ts)) (zj l ts[i])):=by
      rw[hT,List.getElem?_map,List.getElem?_map,List.getElem?_eq_getElem hi];rfl
    rw[List.getElem?_eq_getElem hi']at h2
    exact Option.some.inj h2
  rw[e]
  have he:=Zj l ts hA _ (List.getElem_mem hi)
  have hw:=(xw hP he).1
  have hin:∀ j∈Tm.zJ (zj l ts[i]),j∈ZB l ts:=fun j hj=>(zAP hC).2 j (List.mem_flatMap.2 ⟨_,List.mem_map.2 ⟨_,List.getElem_mem hi,rfl⟩,hj⟩)
  obtain⟨r1,r2,r3⟩:=QL hP ho hw hin
  have hex:=(zAF he).2.2
  have hrok:Rok (yg (ZB l ts)) (zj l ts[i]):=(yS _ hw).2 (fun j hj=>by
    have:=Q8 (hin j hj)
    exact⟨by omega,by omega⟩)
  have hkp:Kp ts[i] (zj l ts[i]):=by
    unfold zj
    rw[if_pos he]
    exact zCv l 16385 _ 0 hex
  refine⟨⟨fun h=>zBL _ _ hrok (hkp.1 h),fun h=>qM _ _ hrok (hkp.2.1 h),fun h=>zDk _ _ hrok (hkp.2.2 h)⟩,r2,(yS _ r2).2 r3,fun hs=>?_⟩
  exact zFv _ _ _ ((YM _ (by omega)).2 (hP.closed he hs))
end
theorem zDC{t:Tm}(h:t.isObj=true\/t.zW=true\/t.zZ=true):t.wf=if t.small=true then 0 else 2:=by
  unfold wf
  have:(!t.isObj && !t.zW && !t.zZ)=false:=by
    rcases h with h |h |h<;>rw[h]<;>simp
  rw[this]
  cases t.small<;>rfl
end
section
open Tm Go.Proofs.YthgmimncdjhgnaaGreatDoor
theorem Zw.zDz{l:List Mv}(h:Zw l):zBY l:=by
  refine⟨by have:=h.len;omega,fun m hm=>⟨?_,by have:=(h.val m hm).1;omega,fun v hv=>?_⟩⟩
  ·have:=Tm.xo (h.YQ m hm);omega
  ·have:=Tm.xo (h.zEK m hm v hv);omega
theorem zGB{l:List Mv}(hP:Zw l)(ts:List Tm):zBY (Yx l ts)/\(∀ u∈ZV l ts,u.size<=1000000)/\(ZV l ts).length<=ts.length/\(ZB l ts).length<=1000000:=by
  by_cases h:ZW l ts=0
  ·obtain⟨e1,e2⟩:=zGN hP h
   refine⟨(zHA hP h).zDz,fun u hu=>?_,by omega,?_⟩
   ·obtain⟨i,hi,rfl⟩:=List.getElem_of_mem hu
    have:=(yr (e2 i (by omega) hi).2.1).2.1
    omega
   ·have h1:=(qj hP h).2.2.1.len
    have h2:=hP.len
    omega
  ·have h1:ZB l ts=[]:=by unfold ZB;rw[if_neg h]
   have h2:ZV l ts=[]:=by unfold ZV;rw[if_neg h]
   have h3:Yx l ts=[]:=by unfold Yx;rw[h1];rfl
   rw[h1,h2,h3]
   exact⟨⟨by simp,fun m hm=>(by cases hm)⟩,fun u hu=>(by cases hu),by simp,by simp⟩
theorem zHn{l:List Mv}(hP:Zw l)(t:Tm):(zj l t).size<=1000000:=by
  by_cases h:yc l t=0
  ·have:=(yr (xw hP h).1).2.1
   omega
  ·unfold zj;rw[if_neg h];decide
end
end Go.LF
