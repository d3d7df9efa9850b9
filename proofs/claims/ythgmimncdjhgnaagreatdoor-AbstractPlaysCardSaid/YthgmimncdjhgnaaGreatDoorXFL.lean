/- How many free yQ there are behind a jM. No program is in qP here. -/
import Derived.Test.YthgmimncdjhgnaaGreatDoorXFJ
namespace Go.LF.Tm
mutual
def lt(n:Int):Tm->Prop
  |mk k _ i l=>(k=5->i<n)/\th n k 0 l
def th(n k:Int)(j:Nat):List Tm->Prop
  | []=>True
  |t :: ts=>lt (n+under k j) t/\th n k (j+1) ts
end
theorem iW(n k nm i l):lt n (mk k nm i l)↔(k=5->i<n)/\th n k 0 l:=by rw[lt]
theorem fW(n k:Int)(j:Nat):th n k j []:=by rw[th];trivial
theorem cN(n k:Int)(j:Nat)(t:Tm)(ts:List Tm):th n k j (t :: ts)↔lt (n+under k j) t/\th n k (j+1) ts:=by rw[th]
theorem Za(t:Tm):∀{n n':Int},n<=n'->lt n t->lt n' t:=by
  induction t using ind with
  |h k nm i l ih=>
   intro n n' hn h;rw[iW]at h ⊢;refine⟨fun e=>by have:=h.1 e;omega,?_⟩
   have key:∀(l':List Tm),(∀ t∈l',t∈l)->∀ j,th n k j l'->th n' k j l':=by
     intro l';induction l' with
     |nil=>intro _ j _;exact fW _ _ _
     |cons t ts dF=>
      intro hm j h;rw[cN]at h ⊢;exact⟨ih t (hm t (by simp)) (by omega) h.1,dF (fun t ht=>hm t (by simp[ht])) (j+1) h.2⟩
   exact key l (fun _ h=>h) 0 h.2
theorem iI(t:Tm):∀{n:Int},0<=n->(lt n t↔scope t<=n):=by
  induction t using ind with
  |h k nm i l ih=>
   intro n hn;rw[iW,scope]
   have key:∀(l':List Tm),(∀ t∈l',t∈l)->∀(j:Nat)(acc:Int),(acc<=n/\th n k j l')↔scopes k j acc l'<=n:=by
     intro l';induction l' with
     |nil=>intro _ j acc;rw[scopes];exact⟨fun h=>h.1,fun h=>⟨h,fW _ _ _⟩⟩
     |cons t ts dF=>
      intro hm j acc;have hu:=bZ k j;rw[scopes,cN,<-dF (fun t ht=>hm t (by simp[ht])),ih t (hm t (by simp)) (by omega)];constructor
      ·rintro⟨h1,h2,h3⟩;exact⟨by omega,h3⟩
      rintro⟨h1,h2⟩;exact⟨by omega,by omega,h2⟩
   rw[<-key l (fun _ h=>h)];by_cases hk:k=5
   ·subst hk;simp only[beq_self_eq_true,if_true,forall_const];constructor
    ·rintro⟨h1,h2⟩;exact⟨by omega,h2⟩
    rintro⟨h1,h2⟩;exact⟨by omega,h2⟩
   rw[if_neg (by simpa using hk)];exact⟨fun h=>⟨hn,h.2⟩,fun h=>⟨fun e=>absurd e hk,h.2⟩⟩
theorem dS{n:Int}:lt n aO:=(iW _ _ _ _ _).2 ⟨fun e=>absurd e (by decide),fW _ _ _⟩
theorem acq(t:Tm):∀(eP b n:Int),0<=eP->lt n t->lt (n+eP) (mv (jU eP 0) b t):=by
  induction t using ind with
  |h k nm i l ih=>
   intro eP b n h0 h;rw[iW]at h;rw[iN,iW];refine⟨fun e=>?_,?_⟩
   ·have:=h.1 e;unfold lN jU;simp only;split
    ·split<;>omega
    omega
   have key:∀(l':List Tm),(∀ t∈l',t∈l)->∀ j,th n k j l'->th (n+eP) k j (iC (jU eP 0) b k j l'):=by
     intro l';induction l' with
     |nil=>intro _ j _;rw[iC];exact fW _ _ _
     |cons t ts dF=>
      intro hm j h;rw[cN]at h;rw[iC,cN];refine⟨?_,dF (fun t ht=>hm t (by simp[ht])) (j+1) h.2⟩;have:=ih t (hm t (by simp)) eP (b+under k j) (n+under k j) h0 h.1;rw[show n+eP+under k j=n+under k j+eP by omega];exact this
   exact key l (fun _ h=>h) 0 h.2
theorem BH{t:Tm}{w:Nat}{n:Int}(h:lt n t):lt n (jo t w).t:=by
  unfold jo;split
  ·exact h
  exact dS
theorem Ms(n:Int)(f:Tm->Sm->Tm->Nat->gp)(hf:∀ u s b w,lt n u->lt (n+1) b->lt n (f u s b w).t)(us:List Tm):∀(m:Tm)(ss:List Sm)(w:Nat),lt n m->(∀ u∈us,lt n u)->lt n (ld f m ss us w).t:=by
  induction us with
  |nil=>
   intro m ss w hm _;unfold ld;split
   ·exact dS
   exact BH hm
  |cons u us ih=>
   intro m ss w hm hu;cases ss with
   |nil=>unfold ld;exact dS
   |cons s ss=>
    rw[ld];split
    ·rename_i hk
     have hb:lt (n+1) (m.args.headD aO):=by
       cases m with
       |mk k nm i l=>
        rw[iW]at hm;have hk:k=3:=hk;subst hk;cases l with
        |nil=>exact dS
        |cons t ts=>
         have:=hm.2;rw[cN]at this;exact this.1
     have tU:=hf u s _ w (hu u (by simp)) hb;split
     ·exact ih _ _ _ tU (fun u h=>hu u (by simp[h]))
     exact tU
    exact dS
theorem Wo(N:Int)(hN:0<=N)(f:Tm->Sm->Tm->Nat->gp)(ms:List Tm)(ss:List Sm)(d k:Int)(hd:0<=d)(hf:∀ u s b w,lt (N+d) u->lt (N+d+1) b->lt (N+d) (f u s b w).t)(nm:List UInt8)(i:Int)(us:List Tm)(w:Nat)
    (jw:∀ m∈ms,lt N m) (hi:k=5->i<N+ms.length+d) (hu:th (N+d) k 0 us):lt (N+d) (ye f ms ss d k nm i us w).t:=by
  unfold ye;split
  ·rename_i hk;obtain⟨rfl,OS⟩:=hk
   have gd:∀ u∈us,lt (N+d) u:=by
     have key:∀(l:List Tm)j,th (N+d) 5 j l->∀ u∈l,lt (N+d) u:=by
       intro l;induction l with
       |nil=>intro j _ u hu;cases hu
       |cons t ts ih=>
        intro j h u hu;rw[cN]at h;rcases List.mem_cons.1 hu with rfl |hu
        ·have:=h.1;rw[show under 5 j=0 by unfold under;simp]at this;simpa using this
        exact ih (j+1) h.2 u hu
     exact key us 0 hu
   split
   ·rename_i aB;split
    ·exact dS
    unfold ap;split
    ·refine Ms (N+d) f hf us _ _ _ ?_ gd;have hl:(i - d).toNat<ms.length:=by omega
     rw[List.getD,List.getElem?_eq_getElem hl];exact acq _ d 0 N hd (jw _ (List.getElem_mem hl))
    exact dS
   refine BH ((iW _ _ _ _ _).2 ⟨fun _=>?_,hu⟩);have:=hi rfl;omega
  rename_i hk;refine BH ((iW _ _ _ _ _).2 ⟨fun e=>?_,hu⟩)
  have:i<d:=by
    by_cases h:i<d
    ·exact h
    exact absurd ⟨e,by omega⟩ hk
  omega
theorem UT(n:Nat):∀(N:Int)(ms:List Tm)(ss:List Sm)(d:Int)(t:Tm)(w:Nat),0<=N->0<=d->(∀ m∈ms,lt N m)->lt (N+ms.length+d) t->lt (N+d) (sb n ms ss d t w).t:=by
  induction n with
  |zero=>intro N ms ss d t w _ _ _ _;rw[sb];exact dS
  |succ n ih=>
   intro N ms ss d t w hN hd jw ht;rw[sb];split
   ·exact dS
   split
   ·cases t with
    |mk k nm i l=>
     simp only[zR,BN,wy,jK]at *
     rw[iW]at ht;refine Wo N hN _ ms ss d k hd (fun u s b w hu hb=>?_) nm i _ _ jw ht.1 ?_
     ·have:=ih (N+d) [u] [s] 0 b w (by omega) (by omega) (fun m hm=>by obtain rfl:=List.mem_singleton.1 hm;exact hu) (by simpa using hb);simpa using this
     have key:∀(l':List Tm),(∀ t∈l',t∈l)->∀(j w:Nat),th (N+ms.length+d) k j l'->th (N+d) k j (eO (fun d' t' w'=>sb n ms ss d' t' w') d k j l' w).ts:=by
       intro l';induction l' with
       |nil=>intro _ j w _;rw[eO];exact fW _ _ _
       |cons t ts dF=>
        intro hm j w h;rw[cN]at h;have hu:=bZ k j;rw[eO];split
        ·split
         ·show th _ _ _ (_ :: _);rw[cN];refine⟨?_,dF (fun t ht=>hm t (by simp[ht])) (j+1) _ h.2⟩;have:=ih N ms ss (d+under k j) t w hN (by omega) jw (by rw[<-Int.add_assoc];exact h.1);rw[Int.add_assoc];exact this
         exact fW _ _ _
        exact fW _ _ _
     exact key l (fun _ h=>h) 0 _ ht.2
   exact dS
theorem acr(n:Nat)(N:Int)(hN:0<=N)(m:Tm)(ss:List Sm)(us:List Tm)(w:Nat)(hm:lt N m)(hu:∀ u∈us,lt N u):lt N (ap (fun u s b w'=>sb n [u] [s] 0 b w') m ss us w).t:=by
  unfold ap;split
  ·refine Ms N _ (fun u s b w h1 h2=>?_) us m ss w hm hu;have:=UT n N [u] [s] 0 b w hN (by omega) (fun m hm=>by obtain rfl:=List.mem_singleton.1 hm;exact h1) (by simpa using h2);simpa using this
  exact dS
end Go.LF.Tm
namespace Go.LF
section
open Tm Go.Proofs.YthgmimncdjhgnaaGreatDoor
theorem gV(f:Int->Int)(k n i l):bX f (mk k n i l)=mk k n (if k=6 then f i else i) (l.map (bX f)):=by rw[bX,zF]
theorem Jn(f:Int->Int)(t:Tm):(bX f t).size=t.size:=by
  induction t using ind with
  |h k n i l ih=>
   rw[gV,aM,aM]
   have key:∀(l':List Tm),(∀ t∈l',t∈l)->aD (l'.map (bX f))=aD l':=by
     intro l';induction l' with
     |nil=>intro _;rfl
     |cons t ts dF=>intro hm;rw[List.map_cons,aD,aD,ih t (hm t (by simp)),dF (fun t ht=>hm t (by simp[ht]))]
   rw[key l (fun _ h=>h)]
theorem FU(f:Int->Int)(t:Tm):(bX f t).depth=t.depth:=by
  induction t using ind with
  |h k n i l ih=>
   rw[gV,cD,cD]
   have key:∀(l':List Tm),(∀ t∈l',t∈l)->aQ (l'.map (bX f))=aQ l':=by
     intro l';induction l' with
     |nil=>intro _;rfl
     |cons t ts dF=>intro hm;rw[List.map_cons,aQ,aQ,ih t (hm t (by simp)),dF (fun t ht=>hm t (by simp[ht]))]
   rw[key l (fun _ h=>h)]
theorem xv(f:Int->Int)(t:Tm):(bX f t).small=t.small:=by unfold small;rw[Jn,FU]
def QT(f:Int->Int)(t:Tm):Prop:=fi (fun k _ i _=>k=6->0<=f i/\f i<2048) t
theorem xg{f:Int->Int}{k i:Int}{n:List UInt8}{l:List Tm}(h:QT f (mk k n i l)):∀ t∈l,QT f t:=fun t ht=>(bV l).1 ((cz _ _ _ _).1 h).2 t ht
theorem wY(f:Int->Int)(t:Tm):QT f t->t.isObj=true->(bX f t).isObj=true:=by
  induction t using ind with
  |h k n i l ih=>
   intro hr h;have ha:=xg hr;have h6:=((cz _ _ _ _).1 hr).1
   have key:∀(l':List Tm),(∀ t∈l',t∈l)->aV l'=true->aV (l'.map (bX f))=true:=by
     intro l';induction l' with
     |nil=>intro _ h;exact h
     |cons t ts dF=>
      intro hm h;rw[aV,Bool.and_eq_true]at h;rw[List.map_cons,aV,ih t (hm t (by simp)) (ha t (hm t (by simp))) h.1,dF (fun t ht=>hm t (by simp[ht])) h.2];rfl
   rw[gV,isObj];rw[isObj]at h;split
   ·rename_i hk;rw[if_pos hk]at h;subst hk;rw[if_neg (by decide)];unfold bound at h ⊢;rw[List.length_map];rw[Bool.and_eq_true]at h ⊢;exact⟨h.1,key l (fun _ h=>h) h.2⟩
   rename_i mU;rw[if_neg mU]at h;split
   ·rename_i hk;rw[if_pos hk]at h;subst hk;rw[if_neg (by decide)];rw[Bool.and_eq_true]at h ⊢;exact⟨h.1,key l (fun _ h=>h) h.2⟩
   rename_i hk4;rw[if_neg hk4]at h;split
   ·rename_i hk;rw[if_pos hk]at h;subst hk;rw[if_neg (by decide)];rw[Bool.and_eq_true]at h ⊢;exact⟨h.1,key l (fun _ h=>h) h.2⟩
   rename_i rV;rw[if_neg rV]at h;split
   ·rename_i hk;rw[if_pos hk]at h;subst hk;simp only[Bool.and_eq_true,decide_eq_true_eq]at h ⊢;exact⟨⟨⟨h.1.1.1,(h6 rfl).1⟩,(h6 rfl).2⟩,key l (fun _ h=>h) h.2⟩
   rename_i hk;rw[if_neg hk]at h;cases h
theorem zf(f:Int->Int):∀(l:List Tm),(∀ t∈l,QT f t)->aV l=true->aV (l.map (bX f))=true
  | [],_,h=>h
  |t :: ts,hr,h=>by
   rw[aV,Bool.and_eq_true]at h;rw[List.map_cons,aV,wY f t (hr t (by simp)) h.1,zf f ts (fun t ht=>hr t (by simp[ht])) h.2];rfl
theorem rj(f:Int->Int)(t:Tm):QT f t->t.aC=true->(bX f t).aC=true:=by
  induction t using ind with
  |h k n i l ih=>
   intro hr h;have ha:=xg hr
   have key:∀(l':List Tm),(∀ t∈l',t∈l)->cI l'=true->cI (l'.map (bX f))=true:=by
     intro l';induction l' with
     |nil=>intro _ h;exact h
     |cons t ts dF=>
      intro hm h;rw[cI,Bool.and_eq_true]at h;rw[List.map_cons,cI,ih t (hm t (by simp)) (ha t (hm t (by simp))) h.1,dF (fun t ht=>hm t (by simp[ht])) h.2];rfl
   rw[gV];rw[aC,isAtom]at h ⊢;unfold bound at h ⊢;rw[List.length_map];simp only[Bool.or_eq_true,Bool.and_eq_true,beq_iff_eq]at h ⊢;rcases h with⟨rfl,⟨h1,h2⟩,h3⟩|⟨rfl,h2,h3⟩
   ·exact .inl ⟨rfl,⟨h1,by rw[if_neg (by decide)];exact h2⟩,zf f l ha h3⟩
   exact .inr ⟨rfl,by rw[if_neg (by decide)];exact h2,key l (fun _ h=>h) h3⟩
theorem yF{t:Tm}(h:t.aI=true):(∃ n i a b,t=mk 2 n i [a,b]/\bound n i [a,b] 2=true/\a.aC=true/\b.aI=true)\/t=mk 1 [] 0 []:=by
  unfold aI at h;split at h
  ·rename_i k n i a b;simp only[Bool.and_eq_true,beq_iff_eq]at h;obtain⟨rfl,h1,h2,h3⟩:=h;exact .inl ⟨n,i,a,b,rfl,h1,h2,h3⟩
  rename_i k n i l _;simp only[Bool.and_eq_true,beq_iff_eq,List.isEmpty_iff]at h;obtain⟨rfl,rfl,rfl,rfl⟩:=h;exact .inr rfl
theorem CZ(f:Int->Int)(t:Tm):QT f t->t.aI=true->(bX f t).aI=true:=by
  induction t using ind with
  |h k n i l ih=>
   intro hr h;have ha:=xg hr;rcases yF h with⟨n',i',a,b,e,h1,h2,h3⟩|e
   ·cases e
    rw[gV];show aI (mk 2 n (if(2:Int)=6 then f i else i) [bX f a,bX f b])=true;rw[if_neg (by decide),aI];unfold bound at h1 ⊢;simp only[Bool.and_eq_true]at h1 ⊢;exact⟨rfl,h1,rj f a (ha a (by simp)) h2,ih b (by simp) (ha b (by simp)) h3⟩
   cases e;rw[gV];rfl
theorem Rn(f:Int->Int)(t:Tm)(hr:QT f t)(h:t.wf=0):(bX f t).wf=0:=by
  have hs:=dz h;have m7:(bX f t).small=true:=by rw[xv];unfold small;simp[hs.2.1,hs.2.2]
  unfold wf;rw[m7];rcases hs.1 with h1 |h1 |h1
  ·rw[wY f t hr h1];rfl
  ·rw[rj f t hr h1];simp
  rw[CZ f t hr h1];simp
theorem G9(f:Int->Int)(t:Tm):∀ n,lt n t->lt n (bX f t):=by
  induction t using ind with
  |h k nm i l ih=>
   intro n h;rw[iW]at h;rw[gV,iW];refine⟨fun e=>by rw[if_neg (by omega)];exact h.1 e,?_⟩
   have key:∀(l':List Tm),(∀ t∈l',t∈l)->∀ j,th n k j l'->th n k j (l'.map (bX f)):=by
     intro l';induction l' with
     |nil=>intro _ j _;exact fW _ _ _
     |cons t ts dF=>
      intro hm j h;rw[cN]at h;rw[List.map_cons,cN];exact⟨ih t (hm t (by simp)) _ h.1,dF (fun t ht=>hm t (by simp[ht])) (j+1) h.2⟩
   exact key l (fun _ h=>h) 0 h.2
theorem Co{N M:Int->List UInt8->Int->Nat->Prop}(f:Int->Int)(Y2:∀ k n i z,N k n i z->M k n (if k=6 then f i else i) z)(t:Tm):fi N t->fi M (bX f t):=by
  induction t using ind with
  |h k n i l ih=>
   intro h;rw[cz,bV]at h;rw[gV,cz,bV,List.length_map];refine⟨Y2 _ _ _ _ h.1,fun u hu=>?_⟩;obtain⟨v,hv,rfl⟩:=List.mem_map.1 hu;exact ih v hv (h.2 v hv)
theorem Aa{f:Int->Int}{S:Int->Prop}(hf:∀ a b,S a->S b->f a=f b->a=b)(t:Tm):fi (fun k _ i _=>k=6->S i) t->∀ acc,(∀ a∈acc,S a)->cC (acc.map f) (bX f t)=(cC acc t).map f/\∀ a∈cC acc t,S a:=by
  induction t using ind with
  |h k n i l ih=>
   intro h acc CV;rw[cz,bV]at h
   have key:∀(l':List Tm),(∀ t∈l',t∈l)->∀ acc,(∀ a∈acc,S a)->bY (acc.map f) (l'.map (bX f))=(bY acc l').map f/\∀ a∈bY acc l',S a:=by
     intro l';induction l' with
     |nil=>intro _ acc CV;rw[List.map_nil,bY,bY];exact⟨rfl,CV⟩
     |cons t ts dF=>
      intro hm acc CV;obtain⟨h1,h2⟩:=ih t (hm t (by simp)) (h.2 t (hm t (by simp))) acc CV;rw[List.map_cons,bY,bY,h1];exact dF (fun t ht=>hm t (by simp[ht])) _ h2
   rw[gV,cC,cC];by_cases hk:k=6
   ·subst hk;have hS:=h.1 rfl
    have hc:(acc.map f).contains (f i)=acc.contains i:=by
      rw[Bool.eq_iff_iff];simp only[List.contains_eq_mem,decide_eq_true_eq,List.mem_map];exact⟨fun⟨a,ha,e⟩=>(hf a i (CV a ha) hS e) ▸ ha,fun h=>⟨i,h,rfl⟩⟩
    rw[if_pos rfl,hc];by_cases hb:(((6:Int) == 6) && !acc.contains i)=true
    ·rw[if_pos hb,if_pos hb];have:=key l (fun _ h=>h) (acc++[i]) (fun a ha=>by rcases List.mem_append.1 ha with ha |ha;(exact CV a ha);rw[List.mem_singleton.1 ha];exact hS);rw[List.map_append]at this;exact this
    rw[if_neg hb,if_neg hb];exact key l (fun _ h=>h) acc CV
   have hb:∀(b:Bool),¬((k == 6) && b)=true:=fun b=>by simp[hk]
   rw[if_neg (hb _),if_neg (hb _)];exact key l (fun _ h=>h) acc CV
theorem JO{f:Int->Int}{t:Tm}(h:t.wf=0)(hr:∀ i∈Tm.ay t,0<=f i/\f i<2048)(hf:∀ a b,a∈Tm.ay t->b∈Tm.ay t->f a=f b->a=b):Tm.ay (bX f t)=(Tm.ay t).map f/\(bX f t).wf=0:=by
  have hw:=Rn f t ((cT t h).2 hr) h;refine⟨?_,hw⟩;have:=(Aa hf t ((cT t h).2 (fun _ h=>h)) [] (fun _ h=>by cases h)).1;unfold Tm.ay;rw[if_pos (by simp[hw]),if_pos (by simp[h])];exact this
theorem Cq{n:Int}{k:Int}(hk:k≠3/\k≠2):∀(l:List Tm)(j:Nat),th n k j l->∀ u∈l,lt n u
  | [],_,_,_,hu=>by cases hu
  |t :: ts,j,h,u,hu=>by
   rw[cN]at h;rcases List.mem_cons.1 hu with rfl |hu
   ·have:=h.1;rw[show under k j=0 by unfold under;simp[hk]]at this;simpa using this
   exact Cq hk ts (j+1) h.2 u hu
theorem Ty(g:Int->Int->List Tm->Nat->Option gp)(hg:∀ k i us c r,g k i us c=some r->k=6/\∀ N:Int,0<=N->(∀ u∈us,lt N u)->lt N r.t)(t:Tm):∀(N:Int),0<=N->lt N t->∀ c,lt N (kv g t c).t:=by
  induction t using ind with
  |h k nm i l ih=>
   intro N hN h c;rw[iW]at h
   have key:∀(l':List Tm),(∀ t∈l',t∈l)->∀ j,th N k j l'->∀ c,th N k j (eN g l' c).ts:=by
     intro l';induction l' with
     |nil=>intro _ j _ c;rw[qC];exact fW _ _ _
     |cons t ts dF=>
      intro hm j h c;rw[cN]at h;have hu:=bZ k j;rw[uZ];split
      ·split
       ·show th _ _ _ (_ :: _);rw[cN];exact⟨ih t (hm t (by simp)) _ (by omega) h.1 c,dF (fun t ht=>hm t (by simp[ht])) (j+1) h.2 _⟩
       exact fW _ _ _
      exact fW _ _ _
   have hA:=key l (fun _ h=>h) 0 h.2 c;rw[kY];split
   ·cases hq:g k i (eN g l c).ts (eN g l c).w with
    |none=>exact BH ((iW _ _ _ _ _).2 ⟨h.1,hA⟩)
    |some r=>
     obtain⟨rfl,h2⟩:=hg _ _ _ _ _ hq;exact h2 N hN (Cq ⟨by decide,by decide⟩ _ 0 hA)
   exact dS
theorem UO(l:List Mv)(hv:∀ m∈l,∀ v∈m.value,lt 0 v)(n:Nat):∀ t(N:Int),0<=N->lt N t->∀ c,lt N (gG l n t c).t:=by
  induction n with
  |zero=>intro t N _ _ c;exact dS
  |succ n ih=>
   intro t;rw[eZ];refine Ty _ (fun k i us c r hr=>?_) t;unfold nM at hr;obtain⟨m,hm,rfl⟩:=Option.map_eq_some_iff.1 hr;obtain⟨h6,_,_,_,mR,xm⟩:=lJ hm;refine⟨h6,fun N hN gd=>?_⟩;split
   ·exact dS
   split
   ·exact dS
   rename_i h2;refine ih _ N hN ?_ _;unfold lp;rw[if_pos (Decidable.not_not.1 h2)];refine acr 262145 N hN _ _ _ _ ?_ gd;match EC:m.value,xm with
   |v :: r,_=>exact Za _ hN (hv m mR v (by rw[EC];simp))
theorem lf.closed{l:List Mv}(h:lf l){t:Tm}(he:ep l t=0)(ht:t.scope<=0):(bP l t).scope<=0:=by
  unfold bP;rw[if_pos he];refine(iI _ (by omega)).1 (UO l (fun m hm v hv=>?_) 16385 t 0 (by omega) ((iI _ (by omega)).2 ht) 0);obtain⟨_,h1,h2,h3,_⟩:=gw ((h.val m hm).2 v hv);exact(iI _ (by omega)).2 h3
end
section
open Tm Go.Proofs.YthgmimncdjhgnaaGreatDoor
inductive Ko(l:List Mv):List Int->List Int->List Int->Prop
  |nil (o):Ko l [] o o
  |skip {m ms o o'} (h:m∈o) (t:Ko l ms o o'):Ko l (m :: ms) o o'
  |add {m ms o o1 o'} (h:m∉o) (he:ep l (typeOf l m)=0) (hi:Ko l (Tm.ay (bP l (typeOf l m))) o o1) (t:Ko l ms (o1++[m]) o'):Ko l (m :: ms) o o'
theorem Dc{l:List Mv}{ms:List Int}(h:xo l 0 ms):ms=[]:=by
  cases ms with
  |nil=>rfl
  |cons m ms=>have:=(h m (by simp)).2.2;omega
theorem TT{l:List Mv}(hP:lf l):∀ R ms o,xo l R ms->(cF l R ms ⟨o,0⟩).e=0->Ko l ms o (cF l R ms ⟨o,0⟩).o:=by
  intro R;induction R with
  |zero=>
   intro ms o hb _;rw[Dc hb];exact .nil o
  |succ R ih=>
   intro ms;show ∀ o,xo l (R+1) ms->(o5 l R ms ⟨o,0⟩).e=0->Ko l ms o (o5 l R ms ⟨o,0⟩).o;rw[ow];induction ms with
   |nil=>intro o _ _;rw[dk];exact .nil o
   |cons m ms dF=>
    intro o hb h;have pB:xo l (R+1) ms:=fun x hx=>hb x (by simp[hx])
    obtain⟨m0,ml,mr⟩:=hb m (by simp);rw[dk,if_neg (by simp)]at h ⊢;by_cases h1:o.contains m=true
    ·rw[if_pos h1]at h ⊢;exact .skip (by simpa using h1) (dF o pB h)
    rw[if_neg h1]at h ⊢;by_cases h2:ep l (typeOf l m)≠0
    ·rw[if_pos h2]at h;exact absurd h h2
    rw[if_neg h2]at h ⊢;have hE:ep l (typeOf l m)=0:=by omega
    have uy:=ji hP m0 ml hE mr;by_cases h3:(cF l R (Tm.ay (bP l (typeOf l m))) ⟨o,0⟩).e=0
    ·rw[if_pos h3]at h ⊢;exact .add (by simpa using h1) hE (ih _ o uy h3) (dF _ pB h)
    rw[if_neg h3]at h;exact absurd h h3
theorem wP{l:List Mv}{ms o o':List Int}(h:Ko l ms o o'):(∀ x∈o,x∈o')/\∀ m∈ms,m∈o':=by
  induction h with
  |nil o=>exact⟨fun _ h=>h,fun _ h=>by cases h⟩
  |skip hm _ ih=>exact⟨ih.1,fun x hx=>by rcases List.mem_cons.1 hx with rfl |hx;(exact ih.1 _ hm);exact ih.2 x hx⟩
  |add _ _ _ _ YA dF=>exact⟨fun x hx=>dF.1 x (List.mem_append.2 (.inl (YA.1 x hx))),fun x hx=>by rcases List.mem_cons.1 hx with rfl |hx;(exact dF.1 _ (by simp));exact dF.2 x hx⟩
theorem Nl{l:List Mv}(hP:lf l){ms o o':List Int}(h:Ko l ms o o'):∀ R,xo l R ms->∀ x∈o',x∈o\/(0<=x/\x<l.length/\rk l x<R):=by
  induction h with
  |nil o=>intro R _ x hx;exact .inl hx
  |skip hm _ ih=>intro R hb x hx;exact ih R (fun y hy=>hb y (by simp[hy])) x hx
  | @add m ms o o1 o' hm he _ _ YA dF=>
    intro R hb x hx;obtain⟨m0,ml,mr⟩:=hb m (by simp);rcases dF R (fun y hy=>hb y (by simp[hy])) x hx with h |h
    ·rcases List.mem_append.1 h with h |h
     ·rcases YA (rk l m) (ji hP m0 ml he (by omega)) x h with h |h
      ·exact .inl h
      exact .inr ⟨h.1,h.2.1,by omega⟩
     rw[List.mem_singleton.1 h];exact .inr ⟨m0,ml,mr⟩
    exact .inr h
structure mK(l:List Mv)(o:List Int):Prop where
  Oy:cY l o+o.length<=l.length
  inn:∀ x∈o,0<=x/\x<l.length
  kQ:∀ p(h:p<o.length),ep l (typeOf l o[p])=0/\∀ j∈Tm.ay (bP l (typeOf l o[p])),j∈o.take p
theorem mK.nil(l:List Mv):mK l []:=⟨qj l,fun _ h=>(by cases h),fun p h=>(by simp at h)⟩
theorem Ut{l:List Mv}(hP:lf l){ms o o':List Int}(h:Ko l ms o o'):∀ R,xo l R ms->mK l o->mK l o':=by
  induction h with
  |nil o=>intro R _ h;exact h
  |skip hm _ ih=>intro R hb h;exact ih R (fun y hy=>hb y (by simp[hy])) h
  | @add m ms o o1 o' hm he hi _ YA dF=>
    intro R hb h;obtain⟨m0,ml,mr⟩:=hb m (by simp);have uy:=ji hP (R:=rk l m) m0 ml he (by omega);have h1:=YA _ uy h
    have hn:m∉o1:=fun hx=>by
      rcases Nl hP hi _ uy m hx with h |h
      ·exact hm h
      omega
    refine dF R (fun y hy=>hb y (by simp[hy])) ⟨pN h1.Oy m0 ml hn,fun x hx=>?_,fun p hp=>?_⟩
    ·rcases List.mem_append.1 hx with hx |hx
     ·exact h1.inn x hx
     rw[List.mem_singleton.1 hx];exact⟨m0,ml⟩
    rw[List.length_append,List.length_singleton]at hp;by_cases e:p<o1.length
    ·rw[List.getElem_append_left e,List.take_append_of_le_length (by omega)];exact h1.kQ p e
    obtain rfl:p=o1.length:=by omega
    rw[List.getElem_append_right (by omega)];simp only[Nat.sub_self,List.getElem_cons_zero];rw[List.take_append_of_le_length (by omega),List.take_length];exact⟨he,fun j hj=>(wP hi).2 j hj⟩
theorem uz{o:List Int}{x:Int}(h:x∈o):0<=dN o x/\dN o x<o.length:=by
  unfold dN;rw[if_pos h];have:=List.idxOf_lt_length_iff.2 h;exact⟨by omega,by omega⟩
theorem Qa{o:List Int}(hn:o.Nodup){p:Nat}(h:p<o.length):dN o o[p]=(p:Int):=by
  unfold dN;rw[if_pos (List.getElem_mem h)];have hk:o.idxOf o[p]<o.length:=List.idxOf_lt_length_iff.2 (List.getElem_mem h);have:=(List.getElem_inj hn).1 (List.getElem_idxOf hk);rw[this]
theorem MS{o:List Int}{a b:Int}(ha:a∈o)(hb:b∈o)(h:dN o a=dN o b):a=b:=by
  unfold dN at h;rw[if_pos ha,if_pos hb]at h;have h1:o.idxOf a<o.length:=List.idxOf_lt_length_iff.2 ha;have h2:o.idxOf b<o.length:=List.idxOf_lt_length_iff.2 hb;have e1:o[o.idxOf a]=a:=List.getElem_idxOf h1;have e2:o[o.idxOf b]=b:=List.getElem_idxOf h2;rw[<-e1,<-e2];congr 1;omega
theorem zy{o:List Int}{p:Nat}{x:Int}(h:x∈o.take p):dN o x<p:=by
  have hx:=List.mem_of_mem_take h;unfold dN;rw[if_pos hx];obtain⟨q,hq,rfl⟩:=List.getElem_of_mem h;have QH:=hq;rw[List.length_take]at QH
  have:o.idxOf ((o.take p)[q])<=q:=by
    rw[List.getElem_take];by_cases hc:o.idxOf o[q]<=q
    ·exact hc
    exfalso
    have:=List.not_of_lt_findIdx (p:=fun y=>y == o[q]) (xs:=o) (i:=q) (by
      show q<o.findIdx _;have h2:o.idxOf o[q]=o.findIdx (fun y=>y == o[q]):=rfl;omega)
    simp at this
  omega
theorem Jy{n:Int}{name:List UInt8}{a:Tm}(h0:name=[]\/isName name=true)(h1:a.wf=0)(h2:a.aC=true)(h3:a.small=true)(h4:a.scope<=0)(h5:∀ i∈Tm.ay a,i<n)(h6:n<2048):dq n name a=0:=by
  unfold dq;rw[if_neg,if_neg (by simp[h1]),if_neg (by simp[h2,h3]),if_neg,if_neg (by omega)]
  ·unfold tQ;rw[h1];simp only[Bool.or_eq_true,not_or,decide_eq_true_eq,List.any_eq_true,not_exists,not_and];exact⟨by rw[if_pos (by rfl)];omega,fun i hi=>by have:=h5 i hi;omega⟩
  rintro⟨h7,h8⟩;rcases h0 with h |h
  ·exact h7 h
  rw[h]at h8;cases h8
section
variable {l:List Mv} (hP:lf l)
include hP in
theorem Qr{t:Tm}(h:fi (fun _ _ _ z=>z<=200) t):fi (fun _ _ _ z=>z<=200) (bP l t):=by
  unfold bP;split
  ·exact Az (fun _ _ _ _ h=>h) (Nat.zero_le _) l (fun m hm v hv=>(hP.kn m hm).2 v hv) 16385 t 0 h
  exact cf (Nat.zero_le _)
include hP in
theorem qS{ts:List Tm}(h:iz l ts=0):iU l ts=0/\Ko l ((ts.map (bP l)).flatMap Tm.ay) [] (lQ l ts)/\mK l (lQ l ts)/\xo l (l.length+1) ((ts.map (bP l)).flatMap Tm.ay):=by
  have h0:=h;unfold iz at h;by_cases h1:iU l ts≠0
  ·rw[if_pos h1]at h;exact absurd h h1
  rw[if_neg h1]at h;have hA:iU l ts=0:=by omega
  have hR:iy l ts=ts.map (bP l):=by unfold iy;rw[if_pos hA]
  have hb:xo l (l.length+1) ((ts.map (bP l)).flatMap Tm.ay):=ux l (fun x hx=>by
    obtain⟨u,hu,hx⟩:=List.mem_flatMap.1 hx;obtain⟨t,ht,rfl⟩:=List.mem_map.1 hu;exact⟨(jt x hx).1,(iZ hP (jS l ts hA t ht)).2.2 x hx⟩)
  have hO:lQ l ts=(cF l (l.length+1) ((ts.map (bP l)).flatMap Tm.ay) ⟨[],0⟩).o:=by
    unfold lQ IU;rw[if_pos h0,sE,hR];rfl
  have hE:(cF l (l.length+1) ((ts.map (bP l)).flatMap Tm.ay) ⟨[],0⟩).e=0:=by
    unfold IU at h;rw[sE,hR]at h;exact h
  have hC:=TT hP _ _ [] hb hE;rw[<-hO]at hC;exact⟨hA,hC,Ut hP hC _ hb (mK.nil l),hb⟩
theorem mK.nodup{o:List Int}(h:mK l o):o.Nodup:=mf l o h.Oy
theorem mK.len{o:List Int}(h:mK l o):o.length<=l.length:=by have:=h.Oy;omega
def qD(l:List Mv)(o:List Int):List Mv:=o.map (jE l o)
theorem j5(o:List Int):(qD l o).length=o.length:=by unfold qD;simp
theorem zX{o:List Int}{p:Nat}(h:p<(qD l o).length)(h':p<o.length):(qD l o)[p]=jE l o o[p]:=by
  have h2:(qD l o)[p]? =some (jE l o o[p]):=by
    unfold qD;rw[List.getElem?_map,List.getElem?_eq_getElem h'];rfl
  rw[List.getElem?_eq_getElem h]at h2;exact Option.some.inj h2
theorem xk{o:List Int}:∀ m∈qD l o,m.value=[]:=by
  intro m hm;unfold qD at hm;obtain⟨j,_,rfl⟩:=List.mem_map.1 hm;rfl
include hP in
theorem sB{o:List Int}(ho:mK l o){t:Tm}(hw:t.wf=0)(hm:∀ i∈Tm.ay t,i∈o):Tm.ay (bX (dN o) t)=(Tm.ay t).map (dN o)/\(bX (dN o) t).wf=0/\(∀ i∈Tm.ay (bX (dN o) t),0<=i/\i<(qD l o).length):=by
  have hl:=ho.len;have ED:=hP.len;obtain⟨h1,h2⟩:=JO (f:=dN o) hw (fun i hi=>by have:=uz (hm i hi);exact⟨by omega,by omega⟩) (fun a b ha hb e=>MS (hm a ha) (hm b hb) e);refine⟨h1,h2,fun i hi=>?_⟩;rw[h1]at hi;obtain⟨j,hj,rfl⟩:=List.mem_map.1 hi;rw[j5];exact uz (hm j hj)
include hP in
theorem NT{o:List Int}(ho:mK l o):lf (qD l o):=by
  have hl:=ho.len;have ED:=hP.len
  have key:∀(p:Nat)(h:p<o.length),∃ q:Nat,q<l.length/\o[p]=(q:Int):=fun p h=>by
    have:=ho.inn _ (List.getElem_mem h);exact⟨o[p].toNat,by omega,by omega⟩
  have SK:∀ i:Int,∀ j∈cy (qD l o) i,0<=i/\i<(qD l o).length/\j<i:=by
    intro i j hj;by_cases h0:0<=i
    ·by_cases h1:i<(qD l o).length
     ·refine⟨h0,h1,?_⟩;obtain⟨p,rfl⟩:∃ p:Nat,i=(p:Int):=⟨i.toNat,by omega⟩;rw[j5]at h1;have hp:p<o.length:=by omega
      rw[DZ (by rw[j5];exact hp),zX (by rw[j5];exact hp) hp]at hj;unfold ke at hj
      have hj:j∈Tm.ay (bX (dN o) (bP l (typeOf l o[p]))):=by
        unfold jE at hj;simpa using hj
      obtain⟨he,ht⟩:=ho.kQ p hp;obtain⟨q,hq,e⟩:=key p hp;have hw:=qz hP (i:=o[p]) (by omega) (by omega) he;rw[(sB hP ho hw (fun i hi=>List.mem_of_mem_take (ht i hi))).1]at hj;obtain⟨x,hx,rfl⟩:=List.mem_map.1 hj;exact zy (ht x hx)
     rw[JE h1]at hj;cases hj
    rw[Iz h0]at hj;cases hj
  refine⟨by rw[j5];omega,fun p hp=>?_,fun m hm=>?_,fun m hm=>?_,fun i hi j hj hr=>?_⟩
  ·have XS:p<o.length:=by rw[j5]at hp;exact hp
   rw[zX hp XS];obtain⟨q,hq,e⟩:=key p XS;obtain⟨he,ht⟩:=ho.kQ p XS;have hw:=qz hP (i:=o[p]) (by omega) (by omega) he;obtain⟨c0,c1,c2,c3,c4,_,_⟩:=fC (hP.ok q hq);have OH:=lR hq;obtain⟨r1,r2,r3⟩:=sB hP ho hw (fun i hi=>List.mem_of_mem_take (ht i hi));unfold jE;rw[e]at he ht hw r1 r2 r3 ⊢;rw[OH]at he ht hw r1 r2 r3 ⊢;rw[sI hq];have hex:=(uB he).2.2
   have Sk:(bP l l[q].type).aC=true:=by
     unfold bP;rw[if_pos he];exact(zS l 16385 _ 0 hex).2.1 c2
   have LK:QT (dN o) (bP l l[q].type):=(cT _ hw).2 (fun i hi=>by
     have:=uz (List.mem_of_mem_take (ht i hi));exact⟨by omega,by omega⟩)
   refine Jy c0 r2 (rj _ _ LK Sk) ?_ ?_ ?_ (by omega)
   ·rw[xv];have:=(dz hw).2;unfold small;simp[this.1,this.2]
   ·exact(iI _ (by omega)).1 (G9 _ _ _ ((iI _ (by omega)).2 (hP.closed he c4)))
   intro i hi;rw[r1]at hi;obtain⟨x,hx,rfl⟩:=List.mem_map.1 hi;exact zy (ht x hx)
  ·have:=xk m hm;rw[this];exact⟨by simp,fun v hv=>by cases hv⟩
  ·have hv:=xk m hm;rw[hv];refine⟨?_,fun v hv=>by cases hv⟩;obtain⟨p,hp,rfl⟩:=List.getElem_of_mem hm;have XS:p<o.length:=by rw[j5]at hp;exact hp
   rw[zX hp XS];obtain⟨q,hq,e⟩:=key p XS;unfold jE;rw[e,lR hq];exact Co _ (fun _ _ _ _ h=>h) _ (Qr hP (hP.kn _ (List.getElem_mem hq)).1)
  have:∀{a b:Int},lX (qD l o) a b->b<=a:=by
    intro a b h;induction h with
    |refl _=>omega
    |step _ hj _ ih=>have:=(SK _ _ hj).2.2;omega
  have h1:=this hr;have h2:=(SK _ _ hj).2.2;omega
end
end
section
open Tm Go.Proofs.YthgmimncdjhgnaaGreatDoor
theorem TU{l:List Mv}(hP:lf l):∀ R R2 ms o,xo l R ms->xo l R2 ms->∀ x∈(cF l R ms ⟨o,0⟩).o,x∈o\/rk l x<R2:=by
  intro R;induction R with
  |zero=>intro R2 ms o _ _ x hx;exact .inl hx
  |succ R ih=>
   intro R2 ms;show ∀ o,xo l (R+1) ms->xo l R2 ms->∀ x∈(o5 l R ms ⟨o,0⟩).o,x∈o\/rk l x<R2;rw[ow];induction ms with
   |nil=>intro o _ _ x hx;rw[dk]at hx;exact .inl hx
   |cons m ms dF=>
    intro o hb hc x hx;have pB:xo l (R+1) ms:=fun x hx=>hb x (by simp[hx])
    have ju:xo l R2 ms:=fun x hx=>hc x (by simp[hx])
    obtain⟨m0,ml,mr⟩:=hb m (by simp);have mr2:=(hc m (by simp)).2.2;rw[dk,if_neg (by simp)]at hx;by_cases h1:o.contains m=true
    ·rw[if_pos h1]at hx;exact dF o pB ju x hx
    rw[if_neg h1]at hx;by_cases h2:ep l (typeOf l m)≠0
    ·rw[if_pos h2]at hx;exact .inl hx
    rw[if_neg h2]at hx;have hE:ep l (typeOf l m)=0:=by omega
    have key:=ih (rk l m) (Tm.ay (bP l (typeOf l m))) o (ji hP m0 ml hE mr) (ji hP m0 ml hE (by omega));split at hx
    ·rcases dF _ pB ju x hx with h |h
     ·rcases List.mem_append.1 h with h |h
      ·exact(key x h).imp id (fun h=>by omega)
      rw[List.mem_singleton.1 h];exact .inr mr2
     exact .inr h
    exact(key x hx).imp id (fun h=>by omega)
theorem LU{l:List Mv}(hP:lf l):∀ R ms o,xo l R ms->cY l o+o.length<=l.length->cY l (cF l R ms ⟨o,0⟩).o+(cF l R ms ⟨o,0⟩).o.length<=l.length/\∀ x∈(cF l R ms ⟨o,0⟩).o,x∈o\/rk l x<R:=by
  intro R;induction R with
  |zero=>intro ms o _ h;exact⟨h,fun x hx=>.inl hx⟩
  |succ R ih=>
   intro ms;show ∀ o,xo l (R+1) ms->_->cY l (o5 l R ms ⟨o,0⟩).o+(o5 l R ms ⟨o,0⟩).o.length<=l.length/\∀ x∈(o5 l R ms ⟨o,0⟩).o,x∈o\/rk l x<R+1;rw[ow];induction ms with
   |nil=>intro o _ h;rw[dk];exact⟨h,fun x hx=>.inl hx⟩
   |cons m ms dF=>
    intro o hb h;have pB:xo l (R+1) ms:=fun x hx=>hb x (by simp[hx])
    obtain⟨m0,ml,mr⟩:=hb m (by simp);rw[dk,if_neg (by simp)];by_cases h1:o.contains m=true
    ·rw[if_pos h1];exact dF o pB h
    rw[if_neg h1];by_cases h2:ep l (typeOf l m)≠0
    ·rw[if_pos h2];exact⟨h,fun x hx=>.inl hx⟩
    rw[if_neg h2];have hE:ep l (typeOf l m)=0:=by omega
    obtain⟨i1,_⟩:=ih _ o (ji hP m0 ml hE mr) h;obtain⟨_,i2⟩:=dF o pB h;have Ax:xo l (rk l m) (Tm.ay (bP l (typeOf l m))):=ji hP m0 ml hE (by omega)
    have i3:∀ x∈(cF l R (Tm.ay (bP l (typeOf l m))) ⟨o,0⟩).o,x∈o\/rk l x<rk l m:=fun x hx=>by
      have:=TU hP R (rk l m) _ o (ji hP m0 ml hE mr) Ax x hx;exact this
    split
    ·have hn:m∉(cF l R (Tm.ay (bP l (typeOf l m))) ⟨o,0⟩).o:=fun hx=>by
       rcases i3 m hx with h |h
       ·exact h1 (by simpa using h)
       omega
     obtain⟨j1,j2⟩:=dF _ pB (pN i1 m0 ml hn);refine⟨j1,fun x hx=>?_⟩;rcases j2 x hx with h |h
     ·rcases List.mem_append.1 h with h |h
      ·exact(i3 x h).imp id (fun h=>by omega)
      rw[List.mem_singleton.1 h];exact .inr mr
     exact .inr h
    exact⟨i1,fun x hx=>(i3 x hx).imp id (fun h=>by omega)⟩
end
section
open Tm Go.Proofs.YthgmimncdjhgnaaGreatDoor
mutual
def xQ(c:Int->Int->Int->Int×Int)(d:Int):Tm->Tm
  |mk k n i l=>mk (c d k i).1 n (c d k i).2 (pO c d k 0 l)
def pO(c:Int->Int->Int->Int×Int)(d k:Int)(j:Nat):List Tm->List Tm
  | []=>[]
  |t :: ts=>xQ c (d+under k j) t :: pO c d k (j+1) ts
end
theorem jv(c d k n i l):xQ c d (mk k n i l)=mk (c d k i).1 n (c d k i).2 (pO c d k 0 l):=by rw[xQ]
theorem eW(c d k j):pO c d k j []=[]:=by rw[pO]
theorem dH(c d k j t ts):pO c d k j (t :: ts)=xQ c (d+under k j) t :: pO c d k (j+1) ts:=by rw[pO]
theorem fu(c d k)(l:List Tm):∀ j,(pO c d k j l).length=l.length:=by
  induction l with
  |nil=>intro j;rw[eW]
  |cons t ts ih=>intro j;rw[dH,List.length_cons,List.length_cons,ih]
theorem DJ(c d k)(l:List Tm):∀ j n,(pO c d k j l).take n=pO c d k j (l.take n):=by
  induction l with
  |nil=>intro j n;rw[List.take_nil,eW,List.take_nil]
  |cons t ts ih=>
   intro j n;cases n with
   |zero=>rw[List.take_zero,List.take_zero,eW]
   |succ n=>rw[dH,List.take_succ_cons,List.take_succ_cons,dH,ih]
theorem WK(c d k)(l:List Tm):∀(j i:Nat)(h:i<l.length)(h':i<(pO c d k j l).length),(pO c d k j l)[i]=xQ c (d+under k (j+i)) l[i]:=by
  induction l with
  |nil=>intro j i h;cases h
  |cons t ts ih=>
   intro j i h h';cases i with
   |zero=>simp only[dH,List.getElem_cons_zero,Nat.add_zero]
   |succ i=>
    simp only[dH,List.getElem_cons_succ];rw[ih (j+1) i (by simpa using h) (by rw[fu];simpa using h),show j+1+i=j+(i+1) by omega]
theorem pz(c d k)(l:List Tm)(i:Nat)(h:i<l.length):pO c d k 0 (l.take (i+1))=pO c d k 0 (l.take i)++[xQ c (d+under k i) l[i]]:=by
  rw[<-DJ,<-DJ,List.take_succ_eq_append_getElem (by rw[fu];exact h),WK c d k l 0 i h (by rw[fu];exact h),Nat.zero_add]
theorem QF{N M:Int->List UInt8->Int->Nat->Prop}(c)(Y2:∀ d k n i z,N k n i z->M (c d k i).1 n (c d k i).2 z)(t:Tm):∀ d,fi N t->fi M (xQ c d t):=by
  induction t using ind with
  |h k n i l ih=>
   intro d h;rw[cz,bV]at h;rw[jv,cz,fu];refine⟨Y2 _ _ _ _ _ h.1,?_⟩
   have key:∀(l':List Tm),(∀ t∈l',t∈l)->∀ j,gI M (pO c d k j l'):=by
     intro l';induction l' with
     |nil=>intro _ j;rw[eW];exact iO
     |cons t ts dF=>intro hm j;rw[dH,gI];exact⟨ih t (hm t (by simp)) _ (h.2 t (hm t (by simp))),dF (fun t ht=>hm t (by simp[ht])) _⟩
   exact key l (fun _ h=>h) 0
theorem Z6{c c':Int->Int->Int->Int×Int}{e:Int}(hk:∀ d k i j,under (c' d k i).1 j=under k j)(t:Tm):∀ d,xQ c d (xQ c' (d+e) t)=xQ (fun d k i=>c d (c' (d+e) k i).1 (c' (d+e) k i).2) d t:=by
  induction t using ind with
  |h k n i l ih=>
   intro d;rw[jv,jv,jv];congr 1
   have key:∀(l':List Tm),(∀ t∈l',t∈l)->∀ j,pO c d (c' (d+e) k i).1 j (pO c' (d+e) k j l')=pO (fun d k i=>c d (c' (d+e) k i).1 (c' (d+e) k i).2) d k j l':=by
     intro l';induction l' with
     |nil=>intro _ j;rw[eW,eW,eW]
     |cons t ts dF=>
      intro hm j;rw[dH,dH,dH,hk,show d+e+under k j=d+under k j+e by omega,ih t (hm t (by simp)),dF (fun t ht=>hm t (by simp[ht]))]
   exact key l (fun _ h=>h) 0
def eS(p:Int):Int->Int->Int->Int×Int:=fun d k i=>if k=6 then(5,d+p - 1 - i)else(k,i)
def sH(p d:Int)(t:Tm):Tm:=xQ (eS p) d t
def A7(f n:Int):Int->Int->Int->Int×Int:=fun d k i=>if k=5/\d<=i then(6,f+n - 1 - (i - d))else(k,i)
def BZ(f n d:Int)(t:Tm):Tm:=xQ (A7 f n) d t
theorem IL(j:Nat):under 6 j=under 5 j:=by unfold under;simp
theorem Fa(t:Tm):fi (fun _ _ _ _=>True) t:=by
  induction t using ind with
  |h k n i l ih=>exact(cz _ _ _ _).2 ⟨trivial,(bV l).2 ih⟩
theorem N3(p d:Int)(t:Tm):fi (fun k _ _ _=>k≠6) (sH p d t):=
  QF (N:=fun _ _ _ _=>True) _ (fun d k n i z _=>by
    unfold eS;split
    ·exact(by decide:(5:Int)≠6)
    rename_i h;exact h) t d (Fa t)
theorem MY(p:Int)(hp:0<=p)(t:Tm):∀ d,0<=d->fi (fun k _ i _=>k=6->0<=i) t->lt d t->lt (d+p) (sH p d t):=by
  unfold sH;induction t using ind with
  |h k n i l ih=>
   intro d h0 hn h;rw[iW]at h;rw[cz,bV]at hn;rw[jv,iW]
   have hc:(eS p d k i).1=5->(eS p d k i).2<d+p:=by
     unfold eS;split
     ·rename_i h6;have:=hn.1 h6;intro _;show d+p - 1 - i<d+p;omega
     intro h5;have:=h.1 h5;show i<d+p;omega
   refine⟨hc,?_⟩;have Ks:∀ j,under (eS p d k i).1 j=under k j:=fun j=>by unfold eS;split;(rename_i h6;rw[h6];exact(IL j).symm);rfl
   have key:∀(l':List Tm),(∀ t∈l',t∈l)->∀ j,th d k j l'->th (d+p) (eS p d k i).1 j (pO (eS p) d k j l'):=by
     intro l';induction l' with
     |nil=>intro _ j _;rw[eW];exact fW _ _ _
     |cons t ts dF=>
      intro hm j h;rw[cN]at h;have hu:=bZ k j;rw[dH,cN,Ks];refine⟨?_,dF (fun t ht=>hm t (by simp[ht])) _ h.2⟩;have:=ih t (hm t (by simp)) (d+under k j) (by omega) (hn.2 t (hm t (by simp))) h.1;rw[show d+p+under k j=d+under k j+p by omega];exact this
   exact key l (fun _ h=>h) 0 h.2
abbrev RR(p:Int)(t:Tm):Prop:=fi (fun k _ i _=>k=6->0<=i/\i<p) t
theorem Il(p:Int)(hp:p<=1000)(t:Tm):∀ d:Int,0<=d->d+t.depth<=100000->RR p t->t.isObj=true->(sH p d t).isObj=true:=by
  unfold sH;induction t using ind with
  |h k n i l ih=>
   intro d h0 hd hn h;have hn:=(cz _ _ _ _).1 hn;rw[bV]at hn;rw[cD]at hd
   have key:∀(l':List Tm),(∀ t∈l',t∈l)->∀ j,aV l'=true->aV (pO (eS p) d k j l')=true:=by
     intro l';induction l' with
     |nil=>intro _ j h;rw[eW];exact h
     |cons t ts dF=>
      intro hm j h;rw[aV,Bool.and_eq_true]at h;have hu:=bZ k j;have hdt:=bz (hm t (by simp));rw[dH,aV,ih t (hm t (by simp)) _ (by omega) (by omega) (hn.2 t (hm t (by simp))) h.1,dF (fun t ht=>hm t (by simp[ht])) _ h.2];rfl
   rw[jv];rw[isObj]at h;by_cases h6:k=6
   ·subst h6;have hi:=hn.1 rfl;rw[if_neg (by decide),if_neg (by decide),if_neg (by decide),if_pos rfl]at h;simp only[Bool.and_eq_true,decide_eq_true_eq]at h;have e:eS p d 6 i=(5,d+p - 1 - i):=by unfold eS;rw[if_pos rfl]
    rw[e];simp only;rw[isObj,if_neg (by decide),if_neg (by decide),if_pos rfl];simp only[Bool.and_eq_true,decide_eq_true_eq];exact⟨⟨⟨h.1.1.1,by omega⟩,by omega⟩,key l (fun _ h=>h) 0 h.2⟩
   have e:eS p d k i=(k,i):=by unfold eS;rw[if_neg h6]
   rw[e];simp only;rw[isObj];split
   ·rename_i hk;rw[if_pos hk]at h;unfold bound at h ⊢;rw[fu];rw[Bool.and_eq_true]at h ⊢;exact⟨h.1,key l (fun _ h=>h) 0 h.2⟩
   rename_i mU;rw[if_neg mU]at h;split
   ·rename_i hk;rw[if_pos hk]at h;rw[Bool.and_eq_true]at h ⊢;exact⟨h.1,key l (fun _ h=>h) 0 h.2⟩
   rename_i hk4;rw[if_neg hk4]at h;split
   ·rename_i hk;rw[if_pos hk]at h;rw[Bool.and_eq_true]at h ⊢;exact⟨h.1,key l (fun _ h=>h) 0 h.2⟩
   rename_i rV;rw[if_neg rV,if_neg h6]at h;cases h
theorem Cn(p:Int)(hp:p<=1000)(d k:Int)(h0:0<=d):∀(l:List Tm)(j:Nat),(∀ t∈l,d+1+t.depth<=100000/\RR p t)->aV l=true->aV (pO (eS p) d k j l)=true
  | [],_,_,h=>by rw[eW];exact h
  |t :: ts,j,ht,h=>by
   rw[aV,Bool.and_eq_true]at h;have hu:=bZ k j;have h1:=ht t (by simp);rw[dH,aV,show xQ (eS p) (d+under k j) t=sH p (d+under k j) t from rfl,Il p hp t _ (by omega) (by omega) h1.2 h.1,Cn p hp d k h0 ts (j+1) (fun t h=>ht t (by simp[h])) h.2];rfl
theorem zY(p:Int)(hp:p<=1000)(t:Tm):∀ d:Int,0<=d->d+t.depth<=100000->RR p t->t.aC=true->(sH p d t).aC=true:=by
  unfold sH;induction t using ind with
  |h k n i l ih=>
   intro d h0 hd hn h;have hn:=(cz _ _ _ _).1 hn;rw[bV]at hn;rw[cD]at hd
   have key:∀(l':List Tm),(∀ t∈l',t∈l)->∀ j,cI l'=true->cI (pO (eS p) d k j l')=true:=by
     intro l';induction l' with
     |nil=>intro _ j h;rw[eW];exact h
     |cons t ts dF=>
      intro hm j h;rw[cI,Bool.and_eq_true]at h;have hu:=bZ k j;have hdt:=bz (hm t (by simp));rw[dH,cI,ih t (hm t (by simp)) _ (by omega) (by omega) (hn.2 t (hm t (by simp))) h.1,dF (fun t ht=>hm t (by simp[ht])) _ h.2];rfl
   rw[jv];rw[aC,isAtom]at h;have h6:k≠6:=by rintro rfl;simp at h
   have e:eS p d k i=(k,i):=by unfold eS;rw[if_neg h6]
   rw[e];simp only;rw[aC,isAtom];unfold bound at h ⊢;rw[fu];simp only[Bool.or_eq_true,Bool.and_eq_true,beq_iff_eq]at h ⊢;rcases h with⟨h1,h2,h3⟩|⟨h1,h2,h3⟩
   ·exact .inl ⟨h1,h2,Cn p hp d k h0 l 0 (fun t ht=>⟨by have:=bz ht;omega,hn.2 t ht⟩) h3⟩
   exact .inr ⟨h1,h2,key l (fun _ h=>h) 0 h3⟩
theorem O4(p:Int)(hp:p<=1000)(t:Tm):∀ d:Int,0<=d->d+t.depth<=100000->RR p t->t.aI=true->(sH p d t).aI=true:=by
  induction t using ind with
  |h k n i l ih=>
   intro d h0 hd hn h;rcases yF h with⟨n',i',a,b,e,h1,h2,h3⟩|e
   ·cases e
    have Su:=(cz _ _ _ _).1 hn;rw[bV]at Su;rw[cD]at hd;have da:=bz (show a∈[a,b] by simp);have db:=bz (show b∈[a,b] by simp);have e1:=zY p hp a (d+under 2 0) (by have:=bZ 2 0;omega) (by have:=bZ 2 0;omega) (Su.2 a (by simp)) h2;have e2:=ih b (by simp) (d+under 2 1) (by have:=bZ 2 1;omega) (by have:=bZ 2 1;omega) (Su.2 b (by simp)) h3;unfold sH at e1 e2 ⊢;rw[jv,dH,dH,eW];have e:eS p d 2 i=(2,i):=by unfold eS;rw[if_neg (by decide)]
    rw[e,aI];unfold bound at h1 ⊢;simp only[Bool.and_eq_true]at h1 ⊢;exact⟨rfl,h1,e1,e2⟩
   cases e
   unfold sH;rw[jv,eW];have e:eS p d 1 0=(1,0):=by unfold eS;rw[if_neg (by decide)]
   rw[e];rfl
def par(pi:Bool)(m:Mv)(j:Nat)(t:Tm):Tm:=if pi=true then mk 2 m.name 0 [sH j 0 m.type,t]else mk 3 m.name 0 [t]
def tV(pi:Bool)(K:List Mv):Nat->Tm->Tm
  |0,t=>t
  |j+1,t=>tV pi K j (par pi (K.getD j ⟨[],aO,[]⟩) j t)
def m8(K:List Mv)(pi:Bool)(t:Tm):Tm:=tV pi K K.length (sH K.length 0 t)
end
section
open Tm Go.Proofs.YthgmimncdjhgnaaGreatDoor
def vN(K:List Mv):List Tm->List Tm
  | []=>[]
  |t :: ts=>m8 K true t :: ts.map (m8 K false)
def kC(l:List Mv)(all:List Tm):List Tm:=vN (fk l all) (fQ l all)
def iP(l:List Mv)(a:Tm)(ms:List Tm):Int:=
  if bI wf (a :: ms)≠0 then bI wf (a :: ms)
  else if(!(a.aC || a.aI)|| ms.any (fun m=>!m.isObj))=true then 32
  else if(a :: ms).any (fun t=>decide (0<t.scope))=true then 3
  else if iz l (a :: ms)≠0 then iz l (a :: ms)
  else if 64<(fk l (a :: ms)).length then 7
  else if(kC l (a :: ms)).all small=true then 0 else 2
def lC(l:List Mv)(a:Tm)(ms:List Tm):Tm:=if iP l a ms=0 then(kC l (a :: ms)).headD aO else aO
def jL(l:List Mv)(a:Tm)(ms:List Tm):List Tm:=if iP l a ms=0 then(kC l (a :: ms)).tail else []
def tH(l:List Mv)(a:Tm)(ms:List Tm):Nat:=if iP l a ms=0 then(fk l (a :: ms)).length else 0
def WX(n:List UInt8):Bool:=n == []|| n == [95]|| isName n
structure Ss(K:List Mv):Prop where
  len:K.length<=40
  nm:∀ j(h:j<K.length),WX K[j].name=true
  kQ:∀ j(h:j<K.length),K[j].type.aC=true/\K[j].type.small=true/\RR j K[j].type/\lt 0 K[j].type
theorem lf.sH{K:List Mv}(h:lf K):Ss K:=by
  refine⟨h.len,fun j hj=>?_,fun j hj=>?_⟩
  ·obtain⟨h1,_⟩:=fC (h.ok j hj);unfold WX;rcases h1 with h1 |h1
   ·rw[h1];rfl
   rw[h1];simp
  obtain⟨_,h1,h2,h3,h4,h5,_⟩:=fC (h.ok j hj);exact⟨h2,h3,(cT _ h1).2 (fun i hi=>⟨(jt i hi).1,h5 i hi⟩),(iI _ (by omega)).2 h4⟩
theorem kH{t:Tm}(h:t.small=true):t.size<=4096/\t.depth<=128:=by
  unfold small at h;rw[Bool.and_eq_true,decide_eq_true_eq,decide_eq_true_eq]at h;exact h
section
variable {K:List Mv} (hK:Ss K)
include hK in
theorem QP{j:Nat}(hj:j<K.length){t:Tm}:(t.aC=true->(par true K[j] j t).aC=true)/\(t.aI=true->(par true K[j] j t).aI=true)/\(t.isObj=true->(par false K[j] j t).isObj=true):=by
  obtain⟨h1,h2,h3,h4⟩:=hK.kQ j hj;have hl:=hK.len;have hn:=hK.nm j hj;unfold WX at hn;have hb:=zY (j:Int) (by omega) K[j].type 0 (Int.le_refl _) (by have:=(kH h2).2;omega) h3 h1;refine⟨fun h=>?_,fun h=>?_,fun h=>?_⟩
  ·unfold par;rw[if_pos rfl,aC];unfold bound;rw[cI,cI,cI,hb,h,hn];simp
  ·unfold par;rw[if_pos rfl,aI];unfold bound;rw[hb,h,hn];simp
  unfold par;rw[if_neg (by simp),isObj,if_pos rfl];unfold bound;rw[aV,aV,h,hn];simp
theorem rC(K:List Mv)(j:Nat)(h:j<K.length):K.getD j ⟨[],aO,[]⟩=K[j]:=by rw[List.getD_eq_getElem?_getD,List.getElem?_eq_getElem h];rfl
include hK in
theorem BA(n:Nat):n<=K.length->∀{t:Tm},(t.aC=true->(tV true K n t).aC=true)/\(t.aI=true->(tV true K n t).aI=true)/\(t.isObj=true->(tV false K n t).isObj=true):=by
  induction n with
  |zero=>intro _ t;exact⟨fun h=>h,fun h=>h,fun h=>h⟩
  |succ n ih=>
   intro hn t;obtain⟨h1,h2,h3⟩:=QP hK (show n<K.length by omega) (t:=t);have e:=rC K n (by omega);refine⟨fun h=>?_,fun h=>?_,fun h=>?_⟩
   ·rw[tV,e];exact(ih (by omega)).1 (h1 h)
   ·rw[tV,e];exact(ih (by omega)).2.1 (h2 h)
   rw[tV,e];exact(ih (by omega)).2.2 (h3 h)
theorem FP{m:Mv}{j:Nat}{t:Tm}(pi:Bool)(h:fi (fun k _ _ _=>k≠6) t):fi (fun k _ _ _=>k≠6) (par pi m j t):=by
  unfold par;split
  ·exact(cz _ _ _ _).2 ⟨by decide,(bV _).2 (fun u hu=>by
     rcases List.mem_cons.1 hu with rfl |hu
     ·exact N3 _ _ _
     rw[List.mem_singleton.1 hu];exact h)⟩
  exact(cz _ _ _ _).2 ⟨by decide,(bV _).2 (fun u hu=>by rw[List.mem_singleton.1 hu];exact h)⟩
theorem FD(pi:Bool)(K:List Mv)(n:Nat):∀{t:Tm},fi (fun k _ _ _=>k≠6) t->fi (fun k _ _ _=>k≠6) (tV pi K n t):=by
  induction n with
  |zero=>intro t h;exact h
  |succ n ih=>intro t h;rw[tV];exact ih (FP pi h)
include hK in
theorem VQ(pi:Bool)(n:Nat):n<=K.length->∀{t:Tm},lt (n:Int) t->lt 0 (tV pi K n t):=by
  induction n with
  |zero=>intro _ t h;exact h
  |succ n ih=>
   intro hn t h;rw[tV,rC K n (by omega)];refine ih (by omega) ?_;obtain⟨_,_,h3,h4⟩:=hK.kQ n (by omega);unfold par;split
   ·rw[iW,cN,cN];refine⟨fun e=>absurd e (by decide),?_,?_,fW _ _ _⟩
    ·have:=MY (n:Int) (by omega) K[n].type 0 (Int.le_refl _) (Am (fun _ _ _ _ h e=>(h e).1) _ h3) h4;simpa[under]using this
    simpa[under]using h
   rw[iW,cN];exact⟨fun e=>absurd e (by decide),by simpa[under]using h,fW _ _ _⟩
end
theorem Bn(c)(t:Tm):∀ d,(xQ c d t).wt=t.wt:=by
  induction t using ind with
  |h k n i l ih=>
   intro d;rw[jv,cU,cU]
   have key:∀(l':List Tm),(∀ t∈l',t∈l)->∀ j,eV (pO c d k j l')=eV l':=by
     intro l';induction l' with
     |nil=>intro _ j;rw[eW]
     |cons t ts dF=>intro hm j;rw[dH,eV,eV,ih t (hm t (by simp)),dF (fun t ht=>hm t (by simp[ht]))]
   rw[key l (fun _ h=>h)]
theorem U7{c:Nat}(t:Tm):fi (fun _ n _ _=>n.length<=c) t->t.wt<=(c+1) * t.size:=by
  induction t using ind with
  |h k n i l ih=>
   intro h;rw[cz,bV]at h;rw[cU,aM]
   have key:∀(l':List Tm),(∀ t∈l',t∈l)->eV l'<=(c+1) * aD l':=by
     intro l';induction l' with
     |nil=>intro _;simp[eV,aD]
     |cons t ts dF=>
      intro hm;have h1:=ih t (hm t (by simp)) (h.2 t (hm t (by simp)));have h2:=dF (fun t ht=>hm t (by simp[ht]));rw[eV,aD,Nat.mul_add];omega
   have h1:=key l (fun _ h=>h);have h2:=h.1;rw[Nat.mul_add];omega
theorem V8(pi:Bool)(K:List Mv)(c:Nat)(hc:∀ j(h:j<K.length),K[j].name.length+K[j].type.wt<=c)(n:Nat):n<=K.length->∀{t:Tm},(tV pi K n t).wt<=t.wt+n * (c+1):=by
  induction n with
  |zero=>intro _ t;rw[tV];omega
  |succ n ih=>
   intro hn t;rw[tV,rC K n (by omega)];have h1:=ih (by omega) (t:=par pi K[n] n t)
   have h2:(par pi K[n] n t).wt<=t.wt+(c+1):=by
     have h3:=hc n (by omega);unfold par;split
     ·simp only[cU,eV];unfold sH;rw[Bn];omega
     simp only[cU,eV];omega
   rw[Nat.add_mul];omega
def eD(l:List Mv):Prop:=∀ m∈l,fi (fun _ n _ _=>n.length<=4) m.type/\∀ v∈m.value,fi (fun _ n _ _=>n.length<=4) v
section
variable {l:List Mv} (hP:lf l){ts:List Tm} (h:iz l ts=0)
include hP h in
theorem rl:lf (fk l ts):=NT hP (qS hP h).2.2.1
include hP h in
theorem jV:(fQ l ts).length=ts.length/\∀ i(hi:i<ts.length)(dZ:i<(fQ l ts).length),Kp ts[i] (fQ l ts)[i]/\(fQ l ts)[i].wf=0/\RR (fk l ts).length (fQ l ts)[i]/\(ts[i].scope<=0->lt 0 (fQ l ts)[i]):=by
  obtain⟨hA,hC,ho,hb⟩:=qS hP h
  have hT:fQ l ts=(ts.map (bP l)).map (bX (dN (lQ l ts))):=by
    unfold fQ;rw[if_pos h];unfold iy;rw[if_pos hA]
  have hl:=ho.len;have ED:=hP.len;refine⟨by rw[hT];simp,fun i hi dZ=>?_⟩
  have e:(fQ l ts)[i]=bX (dN (lQ l ts)) (bP l ts[i]):=by
    have h2:(fQ l ts)[i]? =some (bX (dN (lQ l ts)) (bP l ts[i])):=by
      rw[hT,List.getElem?_map,List.getElem?_map,List.getElem?_eq_getElem hi];rfl
    rw[List.getElem?_eq_getElem dZ]at h2;exact Option.some.inj h2
  rw[e];have he:=jS l ts hA _ (List.getElem_mem hi);have hw:=(iZ hP he).1;have qM:∀ j∈Tm.ay (bP l ts[i]),j∈lQ l ts:=fun j hj=>(wP hC).2 j (List.mem_flatMap.2 ⟨_,List.mem_map.2 ⟨_,List.getElem_mem hi,rfl⟩,hj⟩)
  obtain⟨r1,r2,r3⟩:=sB hP ho hw qM;have hex:=(uB he).2.2
  have LK:QT (dN (lQ l ts)) (bP l ts[i]):=(cT _ hw).2 (fun j hj=>by
    have:=uz (qM j hj);exact⟨by omega,by omega⟩)
  have TD:Kp ts[i] (bP l ts[i]):=by
    unfold bP;rw[if_pos he];exact zS l 16385 _ 0 hex
  refine⟨⟨fun h=>wY _ _ LK (TD.1 h),fun h=>rj _ _ LK (TD.2.1 h),fun h=>CZ _ _ LK (TD.2.2 h)⟩,r2,(cT _ r2).2 r3,fun hs=>?_⟩;exact G9 _ _ _ ((iI _ (by omega)).2 (hP.closed he hs))
theorem F9(hS:eD l):∀ m∈fk l ts,fi (fun _ n _ _=>n.length<=4) m.type:=by
  intro m hm;unfold fk at hm;obtain⟨j,_,rfl⟩:=List.mem_map.1 hm;unfold jE;refine Co _ (fun _ _ _ _ h=>h) _ ?_
  have h0:fi (fun _ n _ _=>n.length<=4) (typeOf l j):=by
    unfold typeOf;split
    ·rename_i m hm;exact(hS m (List.mem_of_getElem? hm)).1
    exact cf (N:=fun _ n _ _=>n.length<=4) (by decide)
  unfold bP;split
  ·exact Az (N:=fun _ n _ _=>n.length<=4) (fun _ _ _ _ h=>h) (by decide) l (fun m hm v hv=>(hS m hm).2 v hv) 16385 _ 0 h0
  exact cf (N:=fun _ n _ _=>n.length<=4) (by decide)
include hP h in
theorem qf(pi:Bool){i:Nat}(hi:i<ts.length)(dZ:i<(fQ l ts).length)(hc:ts[i].scope<=0)(ho:if pi=true then ts[i].aC=true\/ts[i].aI=true else ts[i].isObj=true):
    fi (fun k _ _ _=>k≠6) (m8 (fk l ts) pi (fQ l ts)[i])/\(m8 (fk l ts) pi (fQ l ts)[i]).scope<=0/\(if pi=true then(m8 (fk l ts) pi (fQ l ts)[i]).aC=true\/(m8 (fk l ts) pi (fQ l ts)[i]).aI=true else(m8 (fk l ts) pi (fQ l ts)[i]).isObj=true):=by
  have hK:=(rl hP h).sH;have hl:=hK.len;obtain⟨TD,hw,hm,aB⟩:=(jV hP h).2 i hi dZ;have hd:=(dz hw).2.2;unfold m8;refine⟨FD _ _ _ (N3 _ _ _),(iI _ (by omega)).1 (VQ hK pi _ (Nat.le_refl _) ?_),?_⟩
  ·have:=MY ((fk l ts).length:Int) (by omega) _ 0 (Int.le_refl _) (Am (fun _ _ _ _ h e=>(h e).1) _ hm) (aB hc);simpa using this
  cases pi with
  |true=>
   rw[if_pos rfl]at ho ⊢;rcases ho with ho |ho
   ·exact .inl ((BA hK _ (Nat.le_refl _)).1 (zY _ (by omega) _ 0 (Int.le_refl _) (by omega) hm (TD.2.1 ho)))
   exact .inr ((BA hK _ (Nat.le_refl _)).2.1 (O4 _ (by omega) _ 0 (Int.le_refl _) (by omega) hm (TD.2.2 ho)))
  |false=>
   rw[if_neg (by simp)]at ho ⊢;exact(BA hK _ (Nat.le_refl _)).2.2 (Il _ (by omega) _ 0 (Int.le_refl _) (by omega) hm (TD.1 ho))
include hP h in
theorem QM(hS:eD l)(hl:l.length<=10)(pi:Bool){i:Nat}(hi:i<ts.length)(dZ:i<(fQ l ts).length):(m8 (fk l ts) pi (fQ l ts)[i]).wt<=1000000:=by
  have hKp:=rl hP h
  have hko:(fk l ts).length<=l.length:=by
    unfold fk;rw[List.length_map];exact(qS hP h).2.2.1.len
  obtain⟨_,hw,_,_⟩:=(jV hP h).2 i hi dZ;have h1:=Tm.iM hw;unfold m8
  have h2:=V8 pi (fk l ts) 20544 (fun j hj=>by
    obtain⟨h3,h4,_,h5,_⟩:=fC (hKp.ok j hj);have h6:=U7 _ (F9 hS (ts:=ts) _ (List.getElem_mem hj));have h7:=(kH h5).1
    have h8:(fk l ts)[j].name.length<=64:=by
      rcases h3 with h3 |h3
      ·rw[h3];simp
      unfold isName at h3;simp at h3;omega
    omega) (fk l ts).length (Nat.le_refl _) (t:=sH (fk l ts).length 0 (fQ l ts)[i])
  unfold sH at h2 ⊢;rw[Bn]at h2;have h9:(fk l ts).length * (20544+1)<=10 * (20544+1):=Nat.mul_le_mul_right _ (by omega);omega
end
theorem nQ{t:Tm}(h:t.isObj=true\/t.aC=true\/t.aI=true):t.wf=if t.small=true then 0 else 2:=by
  unfold wf
  have:(!t.isObj && !t.aC && !t.aI)=false:=by
    rcases h with h |h |h<;>rw[h]<;>simp
  rw[this];cases t.small<;>rfl
end
end Go.LF
