/- How many free variables there are behind a substitution. No program is in sight here. -/
import Derived.Test.YthgmimncdjhgnaaGreatDoorVFB
import Derived.Test.YthgmimncdjhgnaaGreatDoorVFJ
namespace Go.LF.Tm
mutual
def lt(n:Int):Tm->Prop
  |mk k _ i l=>(k=5->i<n)/\ltA n k 0 l
def ltA(n k:Int)(j:Nat):List Tm->Prop
  | []=>True
  |t :: ts=>lt (n+under k j) t/\ltA n k (j+1) ts
end
theorem ZS(n k nm i l):lt n (mk k nm i l)↔(k=5->i<n)/\ltA n k 0 l:=by rw[lt]
theorem xS(n k:Int)(j:Nat):ltA n k j []:=by rw[ltA];trivial
theorem yQ(n k:Int)(j:Nat)(t:Tm)(ts:List Tm):ltA n k j (t :: ts)↔lt (n+under k j) t/\ltA n k (j+1) ts:=by rw[ltA]
theorem zK9(t:Tm):∀{n n':Int},n<=n'->lt n t->lt n' t:=by
  induction t using ind with
  |h k nm i l ih=>
   intro n n' hn h;rw[ZS]at h ⊢;refine⟨fun e=>by have:=h.1 e;omega,?_⟩
   have key:∀(l':List Tm),(∀ t∈l',t∈l)->∀ j,ltA n k j l'->ltA n' k j l':=by
     intro l';induction l' with
     |nil=>intro _ j _;exact xS _ _ _
     |cons t ts ih2=>
      intro hm j h;rw[yQ]at h ⊢;exact⟨ih t (hm t (by simp)) (by omega) h.1,ih2 (fun t ht=>hm t (by simp[ht])) (j+1) h.2⟩
   exact key l (fun _ h=>h) 0 h.2
theorem ZM(t:Tm):∀{n:Int},0<=n->(lt n t↔scope t<=n):=by
  induction t using ind with
  |h k nm i l ih=>
   intro n hn;rw[ZS,scope]
   have key:∀(l':List Tm),(∀ t∈l',t∈l)->∀(j:Nat)(acc:Int),(acc<=n/\ltA n k j l')↔scopes k j acc l'<=n:=by
     intro l';induction l' with
     |nil=>intro _ j acc;rw[scopes];exact⟨fun h=>h.1,fun h=>⟨h,xS _ _ _⟩⟩
     |cons t ts ih2=>
      intro hm j acc;have hu:=yC k j;rw[scopes,yQ,<-ih2 (fun t ht=>hm t (by simp[ht])),ih t (hm t (by simp)) (by omega)];constructor
      ·rintro⟨h1,h2,h3⟩;exact⟨by omega,h3⟩
      ·rintro⟨h1,h2⟩;exact⟨by omega,by omega,h2⟩
   rw[<-key l (fun _ h=>h)];by_cases hk:k=5
   ·subst hk;simp only[beq_self_eq_true,if_true,forall_const];constructor
    ·rintro⟨h1,h2⟩;exact⟨by omega,h2⟩
    ·rintro⟨h1,h2⟩;exact⟨by omega,h2⟩
   ·rw[if_neg (by simpa using hk)];exact⟨fun h=>⟨hn,h.2⟩,fun h=>⟨fun e=>absurd e hk,h.2⟩⟩
theorem yn{n:Int}:lt n zV:=(ZS _ _ _ _ _).2 ⟨fun e=>absurd e (by decide),xS _ _ _⟩
theorem zLE(t:Tm):∀(by' b n:Int),0<=by'->lt n t->lt (n+by') (mv (Zr by' 0) b t):=by
  induction t using ind with
  |h k nm i l ih=>
   intro by' b n h0 h;rw[ZS]at h;rw[ZO,ZS];refine⟨fun e=>?_,?_⟩
   ·have:=h.1 e;unfold Ye Zr;simp only;split
    ·split<;>omega
    ·omega
   have key:∀(l':List Tm),(∀ t∈l',t∈l)->∀ j,ltA n k j l'->ltA (n+by') k j (ZG (Zr by' 0) b k j l'):=by
     intro l';induction l' with
     |nil=>intro _ j _;rw[ZG];exact xS _ _ _
     |cons t ts ih2=>
      intro hm j h;rw[yQ]at h;rw[ZG,yQ];refine⟨?_,ih2 (fun t ht=>hm t (by simp[ht])) (j+1) h.2⟩;have:=ih t (hm t (by simp)) by' (b+under k j) (n+under k j) h0 h.1;rw[show n+by'+under k j=n+under k j+by' by omega];exact this
   exact key l (fun _ h=>h) 0 h.2
theorem zDL{t:Tm}{w:Nat}{n:Int}(h:lt n t):lt n (ZY t w).t:=by
  unfold ZY;split
  ·exact h
  ·exact yn
theorem zHm(n:Int)(f:Tm->Sm->Tm->Nat->xW)(hf:∀ u s b w,lt n u->lt (n+1) b->lt n (f u s b w).t)(us:List Tm):∀(m:Tm)(ss:List Sm)(w:Nat),lt n m->(∀ u∈us,lt n u)->lt n (YO f m ss us w).t:=by
  induction us with
  |nil=>
   intro m ss w hm _;unfold YO;split
   ·exact yn
   ·exact zDL hm
  |cons u us ih=>
   intro m ss w hm hu;cases ss with
   |nil=>unfold YO;exact yn
   |cons s ss=>
    rw[YO];split
    ·rename_i hk
     have hb:lt (n+1) (m.args.headD zV):=by
       cases m with
       |mk k nm i l=>
        rw[ZS]at hm;have hk:k=3:=hk;subst hk;cases l with
        |nil=>exact yn
        |cons t ts=>
         have:=hm.2;rw[yQ]at this;exact this.1
     have hf1:=hf u s _ w (hu u (by simp)) hb;split
     ·exact ih _ _ _ hf1 (fun u h=>hu u (by simp[h]))
     ·exact hf1
    ·exact yn
theorem zKN(N:Int)(hN:0<=N)(f:Tm->Sm->Tm->Nat->xW)(ms:List Tm)(ss:List Sm)(d k:Int)(hd:0<=d)(hf:∀ u s b w,lt (N+d) u->lt (N+d+1) b->lt (N+d) (f u s b w).t)(nm:List UInt8)(i:Int)(us:List Tm)(w:Nat)
    (hms:∀ m∈ms,lt N m) (hi:k=5->i<N+ms.length+d) (hu:ltA (N+d) k 0 us):lt (N+d) (sbN f ms ss d k nm i us w).t:=by
  unfold sbN;split
  ·rename_i hk;obtain⟨rfl,hdi⟩:=hk
   have hus:∀ u∈us,lt (N+d) u:=by
     have key:∀(l:List Tm)j,ltA (N+d) 5 j l->∀ u∈l,lt (N+d) u:=by
       intro l;induction l with
       |nil=>intro j _ u hu;cases hu
       |cons t ts ih=>
        intro j h u hu;rw[yQ]at h;rcases List.mem_cons.1 hu with rfl |hu
        ·have:=h.1;rw[show under 5 j=0 by unfold under;simp]at this;simpa using this
        ·exact ih (j+1) h.2 u hu
     exact key us 0 hu
   split
   ·rename_i hlt;split
    ·exact yn
    ·unfold ap;split
     ·refine zHm (N+d) f hf us _ _ _ ?_ hus;have hl:(i - d).toNat<ms.length:=by omega
      rw[List.getD,List.getElem?_eq_getElem hl];exact zLE _ d 0 N hd (hms _ (List.getElem_mem hl))
     ·exact yn
   ·refine zDL ((ZS _ _ _ _ _).2 ⟨fun _=>?_,hu⟩);have:=hi rfl;omega
  ·rename_i hk;refine zDL ((ZS _ _ _ _ _).2 ⟨fun e=>?_,hu⟩)
   have:i<d:=by
     by_cases h:i<d
     ·exact h
     ·exact absurd ⟨e,by omega⟩ hk
   omega
theorem zKC(n:Nat):∀(N:Int)(ms:List Tm)(ss:List Sm)(d:Int)(t:Tm)(w:Nat),0<=N->0<=d->(∀ m∈ms,lt N m)->lt (N+ms.length+d) t->lt (N+d) (sb n ms ss d t w).t:=by
  induction n with
  |zero=>intro N ms ss d t w _ _ _ _;rw[sb];exact yn
  |succ n ih=>
   intro N ms ss d t w hN hd hms ht;rw[sb];split
   ·exact yn
   ·split
    ·cases t with
     |mk k nm i l=>
      simp only[zCx,zCj,zAk,Zo]at *
      rw[ZS]at ht;refine zKN N hN _ ms ss d k hd (fun u s b w hu hb=>?_) nm i _ _ hms ht.1 ?_
      ·have:=ih (N+d) [u] [s] 0 b w (by omega) (by omega) (fun m hm=>by obtain rfl:=List.mem_singleton.1 hm;exact hu) (by simpa using hb);simpa using this
      ·have key:∀(l':List Tm),(∀ t∈l',t∈l)->∀(j w:Nat),ltA (N+ms.length+d) k j l'->ltA (N+d) k j (yz (fun d' t' w'=>sb n ms ss d' t' w') d k j l' w).ts:=by
         intro l';induction l' with
         |nil=>intro _ j w _;rw[yz];exact xS _ _ _
         |cons t ts ih2=>
          intro hm j w h;rw[yQ]at h;have hu:=yC k j;rw[yz];split
          ·split
           ·show ltA _ _ _ (_ :: _);rw[yQ];refine⟨?_,ih2 (fun t ht=>hm t (by simp[ht])) (j+1) _ h.2⟩;have:=ih N ms ss (d+under k j) t w hN (by omega) hms (by rw[<-Int.add_assoc];exact h.1);rw[Int.add_assoc];exact this
           ·exact xS _ _ _
          ·exact xS _ _ _
       exact key l (fun _ h=>h) 0 _ ht.2
    ·exact yn
theorem zK6(n:Nat)(N:Int)(hN:0<=N)(m:Tm)(ss:List Sm)(us:List Tm)(w:Nat)(hm:lt N m)(hu:∀ u∈us,lt N u):lt N (ap (fun u s b w'=>sb n [u] [s] 0 b w') m ss us w).t:=by
  unfold ap;split
  ·refine zHm N _ (fun u s b w h1 h2=>?_) us m ss w hm hu;have:=zKC n N [u] [s] 0 b w hN (by omega) (fun m hm=>by obtain rfl:=List.mem_singleton.1 hm;exact h1) (by simpa using h2);simpa using this
  ·exact yn
end Go.LF.Tm
namespace Go.LF
section
open Tm Go.Proofs.YthgmimncdjhgnaaGreatDoor
theorem Zc(f:Int->Int)(k n i l):yL f (mk k n i l)=mk k n (if k=6 then f i else i) (l.map (yL f)):=by rw[yL,zCU]
theorem zGh(f:Int->Int)(t:Tm):(yL f t).size=t.size:=by
  induction t using ind with
  |h k n i l ih=>
   rw[Zc,zU,zU]
   have key:∀(l':List Tm),(∀ t∈l',t∈l)->zQ (l'.map (yL f))=zQ l':=by
     intro l';induction l' with
     |nil=>intro _;rfl
     |cons t ts ih2=>intro hm;rw[List.map_cons,zQ,zQ,ih t (hm t (by simp)),ih2 (fun t ht=>hm t (by simp[ht]))]
   rw[key l (fun _ h=>h)]
theorem zFE(f:Int->Int)(t:Tm):(yL f t).depth=t.depth:=by
  induction t using ind with
  |h k n i l ih=>
   rw[Zc,yO,yO]
   have key:∀(l':List Tm),(∀ t∈l',t∈l)->zX (l'.map (yL f))=zX l':=by
     intro l';induction l' with
     |nil=>intro _;rfl
     |cons t ts ih2=>intro hm;rw[List.map_cons,zX,zX,ih t (hm t (by simp)),ih2 (fun t ht=>hm t (by simp[ht]))]
   rw[key l (fun _ h=>h)]
theorem zAq(f:Int->Int)(t:Tm):(yL f t).small=t.small:=by unfold small;rw[zGh,zFE]
def Rok(f:Int->Int)(t:Tm):Prop:=yk (fun k _ i _=>k=6->0<=f i/\f i<2048) t
theorem zBX{f:Int->Int}{k i:Int}{n:List UInt8}{l:List Tm}(h:Rok f (mk k n i l)):∀ t∈l,Rok f t:=fun t ht=>(zi l).1 ((zy _ _ _ _).1 h).2 t ht
theorem zAw(f:Int->Int)(t:Tm):Rok f t->t.isObj=true->(yL f t).isObj=true:=by
  induction t using ind with
  |h k n i l ih=>
   intro hr h;have ha:=zBX hr;have h6:=((zy _ _ _ _).1 hr).1
   have key:∀(l':List Tm),(∀ t∈l',t∈l)->zZ l'=true->zZ (l'.map (yL f))=true:=by
     intro l';induction l' with
     |nil=>intro _ h;exact h
     |cons t ts ih2=>
      intro hm h;rw[zZ,Bool.and_eq_true]at h;rw[List.map_cons,zZ,ih t (hm t (by simp)) (ha t (hm t (by simp))) h.1,ih2 (fun t ht=>hm t (by simp[ht])) h.2];rfl
   rw[Zc,isObj];rw[isObj]at h;split
   ·rename_i hk;rw[if_pos hk]at h;subst hk;rw[if_neg (by decide)];unfold bound at h ⊢;rw[List.length_map];rw[Bool.and_eq_true]at h ⊢;exact⟨h.1,key l (fun _ h=>h) h.2⟩
   rename_i hk3;rw[if_neg hk3]at h;split
   ·rename_i hk;rw[if_pos hk]at h;subst hk;rw[if_neg (by decide)];rw[Bool.and_eq_true]at h ⊢;exact⟨h.1,key l (fun _ h=>h) h.2⟩
   rename_i hk4;rw[if_neg hk4]at h;split
   ·rename_i hk;rw[if_pos hk]at h;subst hk;rw[if_neg (by decide)];rw[Bool.and_eq_true]at h ⊢;exact⟨h.1,key l (fun _ h=>h) h.2⟩
   rename_i hk5;rw[if_neg hk5]at h;split
   ·rename_i hk;rw[if_pos hk]at h;subst hk;simp only[Bool.and_eq_true,decide_eq_true_eq]at h ⊢;exact⟨⟨⟨h.1.1.1,(h6 rfl).1⟩,(h6 rfl).2⟩,key l (fun _ h=>h) h.2⟩
   ·rename_i hk;rw[if_neg hk]at h;cases h
theorem zCQ(f:Int->Int):∀(l:List Tm),(∀ t∈l,Rok f t)->zZ l=true->zZ (l.map (yL f))=true
  | [],_,h=>h
  |t :: ts,hr,h=>by
   rw[zZ,Bool.and_eq_true]at h;rw[List.map_cons,zZ,zAw f t (hr t (by simp)) h.1,zCQ f ts (fun t ht=>hr t (by simp[ht])) h.2];rfl
theorem ql(f:Int->Int)(t:Tm):Rok f t->t.zP=true->(yL f t).zP=true:=by
  induction t using ind with
  |h k n i l ih=>
   intro hr h;have ha:=zBX hr
   have key:∀(l':List Tm),(∀ t∈l',t∈l)->yJ l'=true->yJ (l'.map (yL f))=true:=by
     intro l';induction l' with
     |nil=>intro _ h;exact h
     |cons t ts ih2=>
      intro hm h;rw[yJ,Bool.and_eq_true]at h;rw[List.map_cons,yJ,ih t (hm t (by simp)) (ha t (hm t (by simp))) h.1,ih2 (fun t ht=>hm t (by simp[ht])) h.2];rfl
   rw[Zc];rw[zP,isAtom]at h ⊢;unfold bound at h ⊢;rw[List.length_map];simp only[Bool.or_eq_true,Bool.and_eq_true,beq_iff_eq]at h ⊢;rcases h with⟨rfl,⟨h1,h2⟩,h3⟩|⟨rfl,h2,h3⟩
   ·exact .inl ⟨rfl,⟨h1,by rw[if_neg (by decide)];exact h2⟩,zCQ f l ha h3⟩
   ·exact .inr ⟨rfl,by rw[if_neg (by decide)];exact h2,key l (fun _ h=>h) h3⟩
theorem zCT{t:Tm}(h:t.zR=true):(∃ n i a b,t=mk 2 n i [a,b]/\bound n i [a,b] 2=true/\a.zP=true/\b.zR=true)\/t=mk 1 [] 0 []:=by
  unfold zR at h;split at h
  ·rename_i k n i a b;simp only[Bool.and_eq_true,beq_iff_eq]at h;obtain⟨rfl,h1,h2,h3⟩:=h;exact .inl ⟨n,i,a,b,rfl,h1,h2,h3⟩
  ·rename_i k n i l _;simp only[Bool.and_eq_true,beq_iff_eq,List.isEmpty_iff]at h;obtain⟨rfl,rfl,rfl,rfl⟩:=h;exact .inr rfl
theorem zD7(f:Int->Int)(t:Tm):Rok f t->t.zR=true->(yL f t).zR=true:=by
  induction t using ind with
  |h k n i l ih=>
   intro hr h;have ha:=zBX hr;rcases zCT h with⟨n',i',a,b,e,h1,h2,h3⟩|e
   ·cases e
    rw[Zc];show zR (mk 2 n (if(2:Int)=6 then f i else i) [yL f a,yL f b])=true;rw[if_neg (by decide),zR];unfold bound at h1 ⊢;simp only[Bool.and_eq_true]at h1 ⊢;exact⟨rfl,h1,ql f a (ha a (by simp)) h2,ih b (by simp) (ha b (by simp)) h3⟩
   ·cases e;rw[Zc];rfl
theorem zI5(f:Int->Int)(t:Tm)(hr:Rok f t)(h:t.wf=0):(yL f t).wf=0:=by
  have hs:=yd h;have hsm:(yL f t).small=true:=by rw[zAq];unfold small;simp[hs.2.1,hs.2.2]
  unfold wf;rw[hsm];rcases hs.1 with h1 |h1 |h1
  ·rw[zAw f t hr h1];rfl
  ·rw[ql f t hr h1];simp
  ·rw[zD7 f t hr h1];simp
theorem zGR(f:Int->Int)(t:Tm):∀ n,lt n t->lt n (yL f t):=by
  induction t using ind with
  |h k nm i l ih=>
   intro n h;rw[ZS]at h;rw[Zc,ZS];refine⟨fun e=>by rw[if_neg (by omega)];exact h.1 e,?_⟩
   have key:∀(l':List Tm),(∀ t∈l',t∈l)->∀ j,ltA n k j l'->ltA n k j (l'.map (yL f)):=by
     intro l';induction l' with
     |nil=>intro _ j _;exact xS _ _ _
     |cons t ts ih2=>
      intro hm j h;rw[yQ]at h;rw[List.map_cons,yQ];exact⟨ih t (hm t (by simp)) _ h.1,ih2 (fun t ht=>hm t (by simp[ht])) (j+1) h.2⟩
   exact key l (fun _ h=>h) 0 h.2
theorem zBV{N M:Int->List UInt8->Int->Nat->Prop}(f:Int->Int)(hNM:∀ k n i z,N k n i z->M k n (if k=6 then f i else i) z)(t:Tm):yk N t->yk M (yL f t):=by
  induction t using ind with
  |h k n i l ih=>
   intro h;rw[zy,zi]at h;rw[Zc,zy,zi,List.length_map];refine⟨hNM _ _ _ _ h.1,fun u hu=>?_⟩;obtain⟨v,hv,rfl⟩:=List.mem_map.1 hu;exact ih v hv (h.2 v hv)
theorem zIo(f:Int->Int)(t:Tm):yk (fun k _ i _=>k=6->f i=i) t->yL f t=t:=by
  induction t using ind with
  |h k n i l ih=>
   intro h;rw[zy,zi]at h;rw[Zc];have h1:(if k=6 then f i else i)=i:=by split;(rename_i e;exact h.1 e);rfl
   rw[h1];congr 1
   have key:∀(l':List Tm),(∀ t∈l',t∈l)->l'.map (yL f)=l':=by
     intro l';induction l' with
     |nil=>intro _;rfl
     |cons t ts ih2=>intro hm;rw[List.map_cons,ih t (hm t (by simp)) (h.2 t (hm t (by simp))),ih2 (fun t ht=>hm t (by simp[ht]))]
   exact key l (fun _ h=>h)
theorem zC7{f:Int->Int}{S:Int->Prop}(hf:∀ a b,S a->S b->f a=f b->a=b)(t:Tm):yk (fun k _ i _=>k=6->S i) t->∀ acc,(∀ a∈acc,S a)->yN (acc.map f) (yL f t)=(yN acc t).map f/\∀ a∈yN acc t,S a:=by
  induction t using ind with
  |h k n i l ih=>
   intro h acc hacc;rw[zy,zi]at h
   have key:∀(l':List Tm),(∀ t∈l',t∈l)->∀ acc,(∀ a∈acc,S a)->zx (acc.map f) (l'.map (yL f))=(zx acc l').map f/\∀ a∈zx acc l',S a:=by
     intro l';induction l' with
     |nil=>intro _ acc hacc;rw[List.map_nil,zx,zx];exact⟨rfl,hacc⟩
     |cons t ts ih2=>
      intro hm acc hacc;obtain⟨h1,h2⟩:=ih t (hm t (by simp)) (h.2 t (hm t (by simp))) acc hacc;rw[List.map_cons,zx,zx,h1];exact ih2 (fun t ht=>hm t (by simp[ht])) _ h2
   rw[Zc,yN,yN];by_cases hk:k=6
   ·subst hk;have hS:=h.1 rfl
    have hc:(acc.map f).contains (f i)=acc.contains i:=by
      rw[Bool.eq_iff_iff];simp only[List.contains_eq_mem,decide_eq_true_eq,List.mem_map];exact⟨fun⟨a,ha,e⟩=>(hf a i (hacc a ha) hS e) ▸ ha,fun h=>⟨i,h,rfl⟩⟩
    rw[if_pos rfl,hc];by_cases hb:(((6:Int) == 6) && !acc.contains i)=true
    ·rw[if_pos hb,if_pos hb];have:=key l (fun _ h=>h) (acc++[i]) (fun a ha=>by rcases List.mem_append.1 ha with ha |ha;(exact hacc a ha);rw[List.mem_singleton.1 ha];exact hS);rw[List.map_append]at this;exact this
    ·rw[if_neg hb,if_neg hb];exact key l (fun _ h=>h) acc hacc
   ·have hb:∀(b:Bool),¬((k == 6) && b)=true:=fun b=>by simp[hk]
    rw[if_neg (hb _),if_neg (hb _)];exact key l (fun _ h=>h) acc hacc
theorem zGk{f:Int->Int}{t:Tm}(h:t.wf=0)(hr:∀ i∈Tm.zM t,0<=f i/\f i<2048)(hf:∀ a b,a∈Tm.zM t->b∈Tm.zM t->f a=f b->a=b):Tm.zM (yL f t)=(Tm.zM t).map f/\(yL f t).wf=0:=by
  have hw:=zI5 f t ((yR t h).2 hr) h;refine⟨?_,hw⟩;have:=(zC7 hf t ((yR t h).2 (fun _ h=>h)) [] (fun _ h=>by cases h)).1;unfold Tm.zM;rw[if_pos (by simp[hw]),if_pos (by simp[h])];exact this
theorem zEa{n:Int}{k:Int}(hk:k≠3/\k≠2):∀(l:List Tm)(j:Nat),ltA n k j l->∀ u∈l,lt n u
  | [],_,_,_,hu=>by cases hu
  |t :: ts,j,h,u,hu=>by
   rw[yQ]at h;rcases List.mem_cons.1 hu with rfl |hu
   ·have:=h.1;rw[show under k j=0 by unfold under;simp[hk]]at this;simpa using this
   ·exact zEa hk ts (j+1) h.2 u hu
theorem zJu(g:Int->Int->List Tm->Nat->Option xW)(hg:∀ k i us c r,g k i us c=some r->k=6/\∀ N:Int,0<=N->(∀ u∈us,lt N u)->lt N r.t)(t:Tm):∀(N:Int),0<=N->lt N t->∀ c,lt N (Zl g t c).t:=by
  induction t using ind with
  |h k nm i l ih=>
   intro N hN h c;rw[ZS]at h
   have key:∀(l':List Tm),(∀ t∈l',t∈l)->∀ j,ltA N k j l'->∀ c,ltA N k j (yr g l' c).ts:=by
     intro l';induction l' with
     |nil=>intro _ j _ c;rw[Xf];exact xS _ _ _
     |cons t ts ih2=>
      intro hm j h c;rw[yQ]at h;have hu:=yC k j;rw[QC];split
      ·split
       ·show ltA _ _ _ (_ :: _);rw[yQ];exact⟨ih t (hm t (by simp)) _ (by omega) h.1 c,ih2 (fun t ht=>hm t (by simp[ht])) (j+1) h.2 _⟩
       ·exact xS _ _ _
      ·exact xS _ _ _
   have hA:=key l (fun _ h=>h) 0 h.2 c;rw[Z5];split
   ·cases hq:g k i (yr g l c).ts (yr g l c).w with
    |none=>exact zDL ((ZS _ _ _ _ _).2 ⟨h.1,hA⟩)
    |some r=>
     obtain⟨rfl,h2⟩:=hg _ _ _ _ _ hq;exact h2 N hN (zEa ⟨by decide,by decide⟩ _ 0 hA)
   ·exact yn
theorem zKH(l:List Mv)(hv:∀ m∈l,∀ v∈m.value,lt 0 v)(n:Nat):∀ t(N:Int),0<=N->lt N t->∀ c,lt N (xo l n t c).t:=by
  induction n with
  |zero=>intro t N _ _ c;exact yn
  |succ n ih=>
   intro t;rw[yt];refine zJu _ (fun k i us c r hr=>?_) t;unfold Yg at hr;obtain⟨m,hm,rfl⟩:=Option.map_eq_some_iff.1 hr;obtain⟨h6,_,_,_,hml,hmv⟩:=Zh hm;refine⟨h6,fun N hN hus=>?_⟩;split
   ·exact yn
   split
   ·exact yn
   rename_i h2;refine ih _ N hN ?_ _;unfold YL;rw[if_pos (Decidable.not_not.1 h2)];refine zK6 262145 N hN _ _ _ _ ?_ hus;match hv':m.value,hmv with
   |v :: r,_=>exact zK9 _ hN (hv m hml v (by rw[hv'];simp))
theorem YK.closed{l:List Mv}(h:YK l){t:Tm}(he:yg l t=0)(ht:t.scope<=0):(zq l t).scope<=0:=by
  unfold zq;rw[if_pos he];refine(ZM _ (by omega)).1 (zKH l (fun m hm v hv=>?_) 16385 t 0 (by omega) ((ZM _ (by omega)).2 ht) 0);obtain⟨_,h1,h2,h3,_⟩:=xg ((h.val m hm).2 v hv);exact(ZM _ (by omega)).2 h3
end
section
open Tm Go.Proofs.YthgmimncdjhgnaaGreatDoor
inductive Col(l:List Mv):List Int->List Int->List Int->Prop
  |nil (o):Col l [] o o
  |skip {m ms o o'} (h:m∈o) (t:Col l ms o o'):Col l (m :: ms) o o'
  |add {m ms o o1 o'} (h:m∉o) (he:yg l (typeOf l m)=0) (hi:Col l (Tm.zM (zq l (typeOf l m))) o o1) (t:Col l ms (o1++[m]) o'):Col l (m :: ms) o o'
theorem zEL{l:List Mv}{ms:List Int}(h:Bel l 0 ms):ms=[]:=by
  cases ms with
  |nil=>rfl
  |cons m ms=>have:=(h m (by simp)).2.2;omega
theorem zKF{l:List Mv}(hP:YK l):∀ R ms o,Bel l R ms->(cF l R ms ⟨o,0⟩).e=0->Col l ms o (cF l R ms ⟨o,0⟩).o:=by
  intro R;induction R with
  |zero=>
   intro ms o hb _;rw[zEL hb];exact .nil o
  |succ R ih=>
   intro ms;show ∀ o,Bel l (R+1) ms->(X4 l R ms ⟨o,0⟩).e=0->Col l ms o (X4 l R ms ⟨o,0⟩).o;rw[Ys];induction ms with
   |nil=>intro o _ _;rw[yX];exact .nil o
   |cons m ms ih2=>
    intro o hb h;have hb2:Bel l (R+1) ms:=fun x hx=>hb x (by simp[hx])
    obtain⟨m0,ml,mr⟩:=hb m (by simp);rw[yX,if_neg (by simp)]at h ⊢;by_cases h1:o.contains m=true
    ·rw[if_pos h1]at h ⊢;exact .skip (by simpa using h1) (ih2 o hb2 h)
    rw[if_neg h1]at h ⊢;by_cases h2:yg l (typeOf l m)≠0
    ·rw[if_pos h2]at h;exact absurd h h2
    rw[if_neg h2]at h ⊢;have hE:yg l (typeOf l m)=0:=by omega
    have hbi:=Zb hP m0 ml hE mr;by_cases h3:(cF l R (Tm.zM (zq l (typeOf l m))) ⟨o,0⟩).e=0
    ·rw[if_pos h3]at h ⊢;exact .add (by simpa using h1) hE (ih _ o hbi h3) (ih2 _ hb2 h)
    ·rw[if_neg h3]at h;exact absurd h h3
theorem zDj{l:List Mv}{ms o o':List Int}(h:Col l ms o o'):(∀ x∈o,x∈o')/\∀ m∈ms,m∈o':=by
  induction h with
  |nil o=>exact⟨fun _ h=>h,fun _ h=>by cases h⟩
  |skip hm _ ih=>exact⟨ih.1,fun x hx=>by rcases List.mem_cons.1 hx with rfl |hx;(exact ih.1 _ hm);exact ih.2 x hx⟩
  |add _ _ _ _ ih1 ih2=>exact⟨fun x hx=>ih2.1 x (List.mem_append.2 (.inl (ih1.1 x hx))),fun x hx=>by rcases List.mem_cons.1 hx with rfl |hx;(exact ih2.1 _ (by simp));exact ih2.2 x hx⟩
theorem zIF{l:List Mv}(hP:YK l){ms o o':List Int}(h:Col l ms o o'):∀ R,Bel l R ms->∀ x∈o',x∈o\/(0<=x/\x<l.length/\rk l x<R):=by
  induction h with
  |nil o=>intro R _ x hx;exact .inl hx
  |skip hm _ ih=>intro R hb x hx;exact ih R (fun y hy=>hb y (by simp[hy])) x hx
  | @add m ms o o1 o' hm he _ _ ih1 ih2=>
    intro R hb x hx;obtain⟨m0,ml,mr⟩:=hb m (by simp);rcases ih2 R (fun y hy=>hb y (by simp[hy])) x hx with h |h
    ·rcases List.mem_append.1 h with h |h
     ·rcases ih1 (rk l m) (Zb hP m0 ml he (by omega)) x h with h |h
      ·exact .inl h
      ·exact .inr ⟨h.1,h.2.1,by omega⟩
     ·rw[List.mem_singleton.1 h];exact .inr ⟨m0,ml,mr⟩
    ·exact .inr h
structure qE(l:List Mv)(o:List Int):Prop where
  cnt:yV l o+o.length<=l.length
  inn:∀ x∈o,0<=x/\x<l.length
  Yf:∀ p(h:p<o.length),yg l (typeOf l o[p])=0/\∀ j∈Tm.zM (zq l (typeOf l o[p])),j∈o.take p
theorem qE.nil(l:List Mv):qE l []:=⟨qS l,fun _ h=>(by cases h),fun p h=>(by simp at h)⟩
theorem zKT{l:List Mv}(hP:YK l){ms o o':List Int}(h:Col l ms o o'):∀ R,Bel l R ms->qE l o->qE l o':=by
  induction h with
  |nil o=>intro R _ h;exact h
  |skip hm _ ih=>intro R hb h;exact ih R (fun y hy=>hb y (by simp[hy])) h
  | @add m ms o o1 o' hm he hi _ ih1 ih2=>
    intro R hb h;obtain⟨m0,ml,mr⟩:=hb m (by simp);have hbi:=Zb hP (R:=rk l m) m0 ml he (by omega);have h1:=ih1 _ hbi h
    have hn:m∉o1:=fun hx=>by
      rcases zIF hP hi _ hbi m hx with h |h
      ·exact hm h
      ·omega
    refine ih2 R (fun y hy=>hb y (by simp[hy])) ⟨qf h1.cnt m0 ml hn,fun x hx=>?_,fun p hp=>?_⟩
    ·rcases List.mem_append.1 hx with hx |hx
     ·exact h1.inn x hx
     ·rw[List.mem_singleton.1 hx];exact⟨m0,ml⟩
    ·rw[List.length_append,List.length_singleton]at hp;by_cases e:p<o1.length
     ·rw[List.getElem_append_left e,List.take_append_of_le_length (by omega)];exact h1.Yf p e
     ·obtain rfl:p=o1.length:=by omega
      rw[List.getElem_append_right (by omega)];simp only[Nat.sub_self,List.getElem_cons_zero];rw[List.take_append_of_le_length (by omega),List.take_length];exact⟨he,fun j hj=>(zDj hi).2 j hj⟩
theorem zAY{o:List Int}{x:Int}(h:x∈o):0<=xN o x/\xN o x<o.length:=by
  unfold xN;rw[if_pos h];have:=List.idxOf_lt_length_iff.2 h;exact⟨by omega,by omega⟩
theorem zHu{o:List Int}{a b:Int}(ha:a∈o)(hb:b∈o)(h:xN o a=xN o b):a=b:=by
  unfold xN at h;rw[if_pos ha,if_pos hb]at h;have h1:o.idxOf a<o.length:=List.idxOf_lt_length_iff.2 ha;have h2:o.idxOf b<o.length:=List.idxOf_lt_length_iff.2 hb;have e1:o[o.idxOf a]=a:=List.getElem_idxOf h1;have e2:o[o.idxOf b]=b:=List.getElem_idxOf h2;rw[<-e1,<-e2];congr 1;omega
theorem zCH{o:List Int}{p:Nat}{x:Int}(h:x∈o.take p):xN o x<p:=by
  have hx:=List.mem_of_mem_take h;unfold xN;rw[if_pos hx];obtain⟨q,hq,rfl⟩:=List.getElem_of_mem h;have hq':=hq;rw[List.length_take]at hq'
  have:o.idxOf ((o.take p)[q])<=q:=by
    rw[List.getElem_take];by_cases hc:o.idxOf o[q]<=q
    ·exact hc
    ·exfalso
     have:=List.not_of_lt_findIdx (p:=fun y=>y == o[q]) (xs:=o) (i:=q) (by
       show q<o.findIdx _;have h2:o.idxOf o[q]=o.findIdx (fun y=>y == o[q]):=rfl;omega)
     simp at this
  omega
theorem zGb{n:Int}{name:List UInt8}{a:Tm}(h0:name=[]\/isName name=true)(h1:a.wf=0)(h2:a.zP=true)(h3:a.small=true)(h4:a.scope<=0)(h5:∀ i∈Tm.zM a,i<n)(h6:n<2048):ya n name a=0:=by
  unfold ya;rw[if_neg,if_neg (by simp[h1]),if_neg (by simp[h2,h3]),if_neg,if_neg (by omega)]
  ·unfold zAH;rw[h1];simp only[Bool.or_eq_true,not_or,decide_eq_true_eq,List.any_eq_true,not_exists,not_and];exact⟨by rw[if_pos (by rfl)];omega,fun i hi=>by have:=h5 i hi;omega⟩
  ·rintro⟨h7,h8⟩;rcases h0 with h |h
   ·exact h7 h
   ·rw[h]at h8;cases h8
theorem zG3{k:List Mv}(hk:∀ m∈k,m.value=[]){t:Tm}(hw:t.wf=0)(hm:∀ i∈Tm.zM t,i<k.length):yg k t=0/\zq k t=t:=by
  have hs:t.small=true:=by have:=(yd hw).2;unfold small;simp[this.1,this.2]
  have hu:Us k t:=by
    refine Yn (M:=fun k' _ i _=>slv k k' i=none) (N:=fun _ _ _ _=>True) (fun k' _ i _ _=>?_) t ?_
    ·cases h:slv k k' i with
     |none=>rfl
     |some m=>obtain⟨_,_,_,_,h1,h2⟩:=Zh h;exact absurd (hk m h1) h2
    ·clear hw hm hs;induction t using ind with
     |h k n i l ih=>exact(zy _ _ _ _).2 ⟨trivial,(zi l).2 ih⟩
  have h1:=zH2 k 16384 t hu hs 0
  have h2:yg k t=0:=by
    unfold yg;rw[if_neg (by simp[hw]),if_neg,h1];simp only[List.any_eq_true,decide_eq_true_eq,not_exists,not_and];exact fun i hi=>by have:=hm i hi;omega
  exact⟨h2,by unfold zq;rw[if_pos h2,h1]⟩
section
variable {l:List Mv} (hP:YK l)
include hP in
theorem zGM{t:Tm}(h:yk (fun _ _ _ z=>z<=200) t):yk (fun _ _ _ z=>z<=200) (zq l t):=by
  unfold zq;split
  ·exact zC1 (fun _ _ _ _ h=>h) (Nat.zero_le _) l (fun m hm v hv=>(hP.kn m hm).2 v hv) 16385 t 0 h
  ·exact zw (Nat.zero_le _)
include hP in
theorem zAV{ts:List Tm}(h:ZU l ts=0):ZD l ts=0/\Col l ((ts.map (zq l)).flatMap Tm.zM) [] (YD l ts)/\qE l (YD l ts)/\Bel l (l.length+1) ((ts.map (zq l)).flatMap Tm.zM):=by
  have h0:=h;unfold ZU at h;by_cases h1:ZD l ts≠0
  ·rw[if_pos h1]at h;exact absurd h h1
  rw[if_neg h1]at h;have hA:ZD l ts=0:=by omega
  have hR:ZE l ts=ts.map (zq l):=by unfold ZE;rw[if_pos hA]
  have hb:Bel l (l.length+1) ((ts.map (zq l)).flatMap Tm.zM):=zAe l (fun x hx=>by
    obtain⟨u,hu,hx⟩:=List.mem_flatMap.1 hx;obtain⟨t,ht,rfl⟩:=List.mem_map.1 hu;exact⟨(Zg x hx).1,(Z2 hP (YW l ts hA t ht)).2.2 x hx⟩)
  have hO:YD l ts=(cF l (l.length+1) ((ts.map (zq l)).flatMap Tm.zM) ⟨[],0⟩).o:=by
    unfold YD zEP;rw[if_pos h0,Xh,hR];rfl
  have hE:(cF l (l.length+1) ((ts.map (zq l)).flatMap Tm.zM) ⟨[],0⟩).e=0:=by
    unfold zEP at h;rw[Xh,hR]at h;exact h
  have hC:=zKF hP _ _ [] hb hE;rw[<-hO]at hC;exact⟨hA,hC,zKT hP hC _ hb (qE.nil l),hb⟩
theorem qE.len{o:List Int}(h:qE l o):o.length<=l.length:=by have:=h.cnt;omega
def QP(l:List Mv)(o:List Int):List Mv:=o.map (XH l o)
theorem Z7(o:List Int):(QP l o).length=o.length:=by unfold QP;simp
theorem zDS{o:List Int}{p:Nat}(h:p<(QP l o).length)(h':p<o.length):(QP l o)[p]=XH l o o[p]:=by
  have h2:(QP l o)[p]? =some (XH l o o[p]):=by
    unfold QP;rw[List.getElem?_map,List.getElem?_eq_getElem h'];rfl
  rw[List.getElem?_eq_getElem h]at h2;exact Option.some.inj h2
theorem zA0{o:List Int}:∀ m∈QP l o,m.value=[]:=by
  intro m hm;unfold QP at hm;obtain⟨j,_,rfl⟩:=List.mem_map.1 hm;rfl
include hP in
theorem Qo{o:List Int}(ho:qE l o){t:Tm}(hw:t.wf=0)(hm:∀ i∈Tm.zM t,i∈o):Tm.zM (yL (xN o) t)=(Tm.zM t).map (xN o)/\(yL (xN o) t).wf=0/\(∀ i∈Tm.zM (yL (xN o) t),0<=i/\i<(QP l o).length):=by
  have hl:=ho.len;have hl2:=hP.len;obtain⟨h1,h2⟩:=zGk (f:=xN o) hw (fun i hi=>by have:=zAY (hm i hi);exact⟨by omega,by omega⟩) (fun a b ha hb e=>zHu (hm a ha) (hm b hb) e);refine⟨h1,h2,fun i hi=>?_⟩;rw[h1]at hi;obtain⟨j,hj,rfl⟩:=List.mem_map.1 hi;rw[Z7];exact zAY (hm j hj)
include hP in
theorem zH8{o:List Int}(ho:qE l o):YK (QP l o):=by
  have hl:=ho.len;have hl2:=hP.len
  have key:∀(p:Nat)(h:p<o.length),∃ q:Nat,q<l.length/\o[p]=(q:Int):=fun p h=>by
    have:=ho.inn _ (List.getElem_mem h);exact⟨o[p].toNat,by omega,by omega⟩
  have hdown:∀ i:Int,∀ j∈zz (QP l o) i,0<=i/\i<(QP l o).length/\j<i:=by
    intro i j hj;by_cases h0:0<=i
    ·by_cases h1:i<(QP l o).length
     ·refine⟨h0,h1,?_⟩;obtain⟨p,rfl⟩:∃ p:Nat,i=(p:Int):=⟨i.toNat,by omega⟩;rw[Z7]at h1;have hp:p<o.length:=by omega
      rw[zEb (by rw[Z7];exact hp),zDS (by rw[Z7];exact hp) hp]at hj;unfold Zy at hj
      have hj:j∈Tm.zM (yL (xN o) (zq l (typeOf l o[p]))):=by
        unfold XH at hj;simpa using hj
      obtain⟨he,ht⟩:=ho.Yf p hp;obtain⟨q,hq,e⟩:=key p hp;have hw:=zAa hP (i:=o[p]) (by omega) (by omega) he;rw[(Qo hP ho hw (fun i hi=>List.mem_of_mem_take (ht i hi))).1]at hj;obtain⟨x,hx,rfl⟩:=List.mem_map.1 hj;exact zCH (ht x hx)
     ·rw[zGp h1]at hj;cases hj
    ·rw[zGy h0]at hj;cases hj
  refine⟨by rw[Z7];omega,fun p hp=>?_,fun m hm=>?_,fun m hm=>?_,fun i hi j hj hr=>?_⟩
  ·have hp':p<o.length:=by rw[Z7]at hp;exact hp
   rw[zDS hp hp'];obtain⟨q,hq,e⟩:=key p hp';obtain⟨he,ht⟩:=ho.Yf p hp';have hw:=zAa hP (i:=o[p]) (by omega) (by omega) he;obtain⟨c0,c1,c2,c3,c4,_,_⟩:=xI (hP.ok q hq);have hto:=Xi hq;obtain⟨r1,r2,r3⟩:=Qo hP ho hw (fun i hi=>List.mem_of_mem_take (ht i hi));unfold XH;rw[e]at he ht hw r1 r2 r3 ⊢;rw[hto]at he ht hw r1 r2 r3 ⊢;rw[zCL hq];have hex:=(zAd he).2.2
   have hty:(zq l l[q].type).zP=true:=by
     unfold zq;rw[if_pos he];exact(zDB l 16385 _ 0 hex).2.1 c2
   have hrok:Rok (xN o) (zq l l[q].type):=(yR _ hw).2 (fun i hi=>by
     have:=zAY (List.mem_of_mem_take (ht i hi));exact⟨by omega,by omega⟩)
   refine zGb c0 r2 (ql _ _ hrok hty) ?_ ?_ ?_ (by omega)
   ·rw[zAq];have:=(yd hw).2;unfold small;simp[this.1,this.2]
   ·exact(ZM _ (by omega)).1 (zGR _ _ _ ((ZM _ (by omega)).2 (hP.closed he c4)))
   ·intro i hi;rw[r1]at hi;obtain⟨x,hx,rfl⟩:=List.mem_map.1 hi;exact zCH (ht x hx)
  ·have:=zA0 m hm;rw[this];exact⟨by simp,fun v hv=>by cases hv⟩
  ·have hv:=zA0 m hm;rw[hv];refine⟨?_,fun v hv=>by cases hv⟩;obtain⟨p,hp,rfl⟩:=List.getElem_of_mem hm;have hp':p<o.length:=by rw[Z7]at hp;exact hp
   rw[zDS hp hp'];obtain⟨q,hq,e⟩:=key p hp';unfold XH;rw[e,Xi hq];exact zBV _ (fun _ _ _ _ h=>h) _ (zGM hP (hP.kn _ (List.getElem_mem hq)).1)
  ·have:∀{a b:Int},YR (QP l o) a b->b<=a:=by
     intro a b h;induction h with
     |refl _=>omega
     |step _ hj _ ih=>have:=(hdown _ _ hj).2.2;omega
   have h1:=this hr;have h2:=(hdown _ _ hj).2.2;omega
end
end
section
open Tm Go.Proofs.YthgmimncdjhgnaaGreatDoor
theorem zKB{l:List Mv}(hP:YK l):∀ R R2 ms o,Bel l R ms->Bel l R2 ms->∀ x∈(cF l R ms ⟨o,0⟩).o,x∈o\/rk l x<R2:=by
  intro R;induction R with
  |zero=>intro R2 ms o _ _ x hx;exact .inl hx
  |succ R ih=>
   intro R2 ms;show ∀ o,Bel l (R+1) ms->Bel l R2 ms->∀ x∈(X4 l R ms ⟨o,0⟩).o,x∈o\/rk l x<R2;rw[Ys];induction ms with
   |nil=>intro o _ _ x hx;rw[yX]at hx;exact .inl hx
   |cons m ms ih2=>
    intro o hb hc x hx;have hb2:Bel l (R+1) ms:=fun x hx=>hb x (by simp[hx])
    have hc2:Bel l R2 ms:=fun x hx=>hc x (by simp[hx])
    obtain⟨m0,ml,mr⟩:=hb m (by simp);have mr2:=(hc m (by simp)).2.2;rw[yX,if_neg (by simp)]at hx;by_cases h1:o.contains m=true
    ·rw[if_pos h1]at hx;exact ih2 o hb2 hc2 x hx
    rw[if_neg h1]at hx;by_cases h2:yg l (typeOf l m)≠0
    ·rw[if_pos h2]at hx;exact .inl hx
    rw[if_neg h2]at hx;have hE:yg l (typeOf l m)=0:=by omega
    have key:=ih (rk l m) (Tm.zM (zq l (typeOf l m))) o (Zb hP m0 ml hE mr) (Zb hP m0 ml hE (by omega));split at hx
    ·rcases ih2 _ hb2 hc2 x hx with h |h
     ·rcases List.mem_append.1 h with h |h
      ·exact(key x h).imp id (fun h=>by omega)
      ·rw[List.mem_singleton.1 h];exact .inr mr2
     ·exact .inr h
    ·exact(key x hx).imp id (fun h=>by omega)
theorem zHg{l:List Mv}(hP:YK l):∀ R ms o,Bel l R ms->yV l o+o.length<=l.length->yV l (cF l R ms ⟨o,0⟩).o+(cF l R ms ⟨o,0⟩).o.length<=l.length/\∀ x∈(cF l R ms ⟨o,0⟩).o,x∈o\/rk l x<R:=by
  intro R;induction R with
  |zero=>intro ms o _ h;exact⟨h,fun x hx=>.inl hx⟩
  |succ R ih=>
   intro ms;show ∀ o,Bel l (R+1) ms->_->yV l (X4 l R ms ⟨o,0⟩).o+(X4 l R ms ⟨o,0⟩).o.length<=l.length/\∀ x∈(X4 l R ms ⟨o,0⟩).o,x∈o\/rk l x<R+1;rw[Ys];induction ms with
   |nil=>intro o _ h;rw[yX];exact⟨h,fun x hx=>.inl hx⟩
   |cons m ms ih2=>
    intro o hb h;have hb2:Bel l (R+1) ms:=fun x hx=>hb x (by simp[hx])
    obtain⟨m0,ml,mr⟩:=hb m (by simp);rw[yX,if_neg (by simp)];by_cases h1:o.contains m=true
    ·rw[if_pos h1];exact ih2 o hb2 h
    rw[if_neg h1];by_cases h2:yg l (typeOf l m)≠0
    ·rw[if_pos h2];exact⟨h,fun x hx=>.inl hx⟩
    rw[if_neg h2];have hE:yg l (typeOf l m)=0:=by omega
    obtain⟨i1,_⟩:=ih _ o (Zb hP m0 ml hE mr) h;obtain⟨_,i2⟩:=ih2 o hb2 h;have hbr:Bel l (rk l m) (Tm.zM (zq l (typeOf l m))):=Zb hP m0 ml hE (by omega)
    have i3:∀ x∈(cF l R (Tm.zM (zq l (typeOf l m))) ⟨o,0⟩).o,x∈o\/rk l x<rk l m:=fun x hx=>by
      have:=zKB hP R (rk l m) _ o (Zb hP m0 ml hE mr) hbr x hx;exact this
    split
    ·have hn:m∉(cF l R (Tm.zM (zq l (typeOf l m))) ⟨o,0⟩).o:=fun hx=>by
       rcases i3 m hx with h |h
       ·exact h1 (by simpa using h)
       ·omega
     obtain⟨j1,j2⟩:=ih2 _ hb2 (qf i1 m0 ml hn);refine⟨j1,fun x hx=>?_⟩;rcases j2 x hx with h |h
     ·rcases List.mem_append.1 h with h |h
      ·exact(i3 x h).imp id (fun h=>by omega)
      ·rw[List.mem_singleton.1 h];exact .inr mr
     ·exact .inr h
    ·exact⟨i1,fun x hx=>(i3 x hx).imp id (fun h=>by omega)⟩
end
section
open Tm Go.Proofs.YthgmimncdjhgnaaGreatDoor
mutual
def chT(c:Int->Int->Int->Int×Int)(d:Int):Tm->Tm
  |mk k n i l=>mk (c d k i).1 n (c d k i).2 (Ql c d k 0 l)
def Ql(c:Int->Int->Int->Int×Int)(d k:Int)(j:Nat):List Tm->List Tm
  | []=>[]
  |t :: ts=>chT c (d+under k j) t :: Ql c d k (j+1) ts
end
theorem Z3(c d k n i l):chT c d (mk k n i l)=mk (c d k i).1 n (c d k i).2 (Ql c d k 0 l):=by rw[chT]
theorem xF(c d k j):Ql c d k j []=[]:=by rw[Ql]
theorem yi(c d k j t ts):Ql c d k j (t :: ts)=chT c (d+under k j) t :: Ql c d k (j+1) ts:=by rw[Ql]
theorem xe(c d k)(l:List Tm):∀ j,(Ql c d k j l).length=l.length:=by
  induction l with
  |nil=>intro j;rw[xF]
  |cons t ts ih=>intro j;rw[yi,List.length_cons,List.length_cons,ih]
theorem zDn(c d k)(l:List Tm):∀ j n,(Ql c d k j l).take n=Ql c d k j (l.take n):=by
  induction l with
  |nil=>intro j n;rw[List.take_nil,xF,List.take_nil]
  |cons t ts ih=>
   intro j n;cases n with
   |zero=>rw[List.take_zero,List.take_zero,xF]
   |succ n=>rw[yi,List.take_succ_cons,List.take_succ_cons,yi,ih]
theorem zKK(c d k)(l:List Tm):∀(j i:Nat)(h:i<l.length)(h':i<(Ql c d k j l).length),(Ql c d k j l)[i]=chT c (d+under k (j+i)) l[i]:=by
  induction l with
  |nil=>intro j i h;cases h
  |cons t ts ih=>
   intro j i h h';cases i with
   |zero=>simp only[yi,List.getElem_cons_zero,Nat.add_zero]
   |succ i=>
    simp only[yi,List.getElem_cons_succ];rw[ih (j+1) i (by simpa using h) (by rw[xe];simpa using h),show j+1+i=j+(i+1) by omega]
theorem zB1(c d k)(l:List Tm)(i:Nat)(h:i<l.length):Ql c d k 0 (l.take (i+1))=Ql c d k 0 (l.take i)++[chT c (d+under k i) l[i]]:=by
  rw[<-zDn,<-zDn,List.take_succ_eq_append_getElem (by rw[xe];exact h),zKK c d k l 0 i h (by rw[xe];exact h),Nat.zero_add]
theorem zCz{N M:Int->List UInt8->Int->Nat->Prop}(c)(hNM:∀ d k n i z,N k n i z->M (c d k i).1 n (c d k i).2 z)(t:Tm):∀ d,yk N t->yk M (chT c d t):=by
  induction t using ind with
  |h k n i l ih=>
   intro d h;rw[zy,zi]at h;rw[Z3,zy,xe];refine⟨hNM _ _ _ _ _ h.1,?_⟩
   have key:∀(l':List Tm),(∀ t∈l',t∈l)->∀ j,xp M (Ql c d k j l'):=by
     intro l';induction l' with
     |nil=>intro _ j;rw[xF];exact ZH
     |cons t ts ih2=>intro hm j;rw[yi,xp];exact⟨ih t (hm t (by simp)) _ (h.2 t (hm t (by simp))),ih2 (fun t ht=>hm t (by simp[ht])) _⟩
   exact key l (fun _ h=>h) 0
theorem zGZ{c c':Int->Int->Int->Int×Int}(t:Tm):∀ d,yk (fun k _ i _=>∀ d,c d k i=c' d k i) t->chT c d t=chT c' d t:=by
  induction t using ind with
  |h k n i l ih=>
   intro d h;rw[zy,zi]at h;rw[Z3,Z3,h.1 d];congr 1
   have key:∀(l':List Tm),(∀ t∈l',t∈l)->∀ j,Ql c d k j l'=Ql c' d k j l':=by
     intro l';induction l' with
     |nil=>intro _ j;rw[xF,xF]
     |cons t ts ih2=>intro hm j;rw[yi,yi,ih t (hm t (by simp)) _ (h.2 t (hm t (by simp))),ih2 (fun t ht=>hm t (by simp[ht]))]
   exact key l (fun _ h=>h) 0
theorem zKd(t:Tm):∀ d,chT (fun _ k i=>(k,i)) d t=t:=by
  induction t using ind with
  |h k n i l ih=>
   intro d;rw[Z3];congr 1
   have key:∀(l':List Tm),(∀ t∈l',t∈l)->∀ j,Ql (fun _ k i=>(k,i)) d k j l'=l':=by
     intro l';induction l' with
     |nil=>intro _ j;rw[xF]
     |cons t ts ih2=>intro hm j;rw[yi,ih t (hm t (by simp)),ih2 (fun t ht=>hm t (by simp[ht]))]
   exact key l (fun _ h=>h) 0
def ZF(p:Int):Int->Int->Int->Int×Int:=fun d k i=>if k=6 then(5,d+p - 1 - i)else(k,i)
def QK(p d:Int)(t:Tm):Tm:=chT (ZF p) d t
def zDM(f n:Int):Int->Int->Int->Int×Int:=fun d k i=>if k=5/\d<=i then(6,f+n - 1 - (i - d))else(k,i)
def fil(f n d:Int)(t:Tm):Tm:=chT (zDM f n) d t
theorem zHI(j:Nat):under 6 j=under 5 j:=by unfold under;simp
theorem zFS(p d:Int)(t:Tm)(h:yk (fun k _ _ _=>k≠6) t):QK p d t=t:=by
  unfold QK;rw[zGZ (c':=fun _ k i=>(k,i)) t d (Yn (fun k n i z hk d=>by unfold ZF;rw[if_neg hk]) t h),zKd]
theorem zE3(t:Tm):yk (fun _ _ _ _=>True) t:=by
  induction t using ind with
  |h k n i l ih=>exact(zy _ _ _ _).2 ⟨trivial,(zi l).2 ih⟩
theorem zH6(p d:Int)(t:Tm):yk (fun k _ _ _=>k≠6) (QK p d t):=
  zCz (N:=fun _ _ _ _=>True) _ (fun d k n i z _=>by
    unfold ZF;split
    ·exact(by decide:(5:Int)≠6)
    ·rename_i h;exact h) t d (zE3 t)
theorem qN{t:Tm}(h:yk (fun k _ _ _=>k≠6) t):Tm.zM t=[]:=by
  by_cases hw:t.wf=0
  ·have:=(yR (N:=fun _=>False) t hw).1 (Yn (fun k n i z h e=>h e) t h);exact List.eq_nil_iff_forall_not_mem.2 this
  ·exact Qm t hw
theorem zHo(p:Int)(hp:0<=p)(t:Tm):∀ d,0<=d->yk (fun k _ i _=>k=6->0<=i) t->lt d t->lt (d+p) (QK p d t):=by
  unfold QK;induction t using ind with
  |h k n i l ih=>
   intro d h0 hn h;rw[ZS]at h;rw[zy,zi]at hn;rw[Z3,ZS]
   have hc:(ZF p d k i).1=5->(ZF p d k i).2<d+p:=by
     unfold ZF;split
     ·rename_i h6;have:=hn.1 h6;intro _;show d+p - 1 - i<d+p;omega
     ·intro h5;have:=h.1 h5;show i<d+p;omega
   refine⟨hc,?_⟩;have hu':∀ j,under (ZF p d k i).1 j=under k j:=fun j=>by unfold ZF;split;(rename_i h6;rw[h6];exact(zHI j).symm);rfl
   have key:∀(l':List Tm),(∀ t∈l',t∈l)->∀ j,ltA d k j l'->ltA (d+p) (ZF p d k i).1 j (Ql (ZF p) d k j l'):=by
     intro l';induction l' with
     |nil=>intro _ j _;rw[xF];exact xS _ _ _
     |cons t ts ih2=>
      intro hm j h;rw[yQ]at h;have hu:=yC k j;rw[yi,yQ,hu'];refine⟨?_,ih2 (fun t ht=>hm t (by simp[ht])) _ h.2⟩;have:=ih t (hm t (by simp)) (d+under k j) (by omega) (hn.2 t (hm t (by simp))) h.1;rw[show d+p+under k j=d+under k j+p by omega];exact this
   exact key l (fun _ h=>h) 0 h.2
abbrev Mlt(p:Int)(t:Tm):Prop:=yk (fun k _ i _=>k=6->0<=i/\i<p) t
theorem zFx(p:Int)(hp:p<=1000)(t:Tm):∀ d:Int,0<=d->d+t.depth<=100000->Mlt p t->t.isObj=true->(QK p d t).isObj=true:=by
  unfold QK;induction t using ind with
  |h k n i l ih=>
   intro d h0 hd hn h;have hn:=(zy _ _ _ _).1 hn;rw[zi]at hn;rw[yO]at hd
   have key:∀(l':List Tm),(∀ t∈l',t∈l)->∀ j,zZ l'=true->zZ (Ql (ZF p) d k j l')=true:=by
     intro l';induction l' with
     |nil=>intro _ j h;rw[xF];exact h
     |cons t ts ih2=>
      intro hm j h;rw[zZ,Bool.and_eq_true]at h;have hu:=yC k j;have hdt:=zg (hm t (by simp));rw[yi,zZ,ih t (hm t (by simp)) _ (by omega) (by omega) (hn.2 t (hm t (by simp))) h.1,ih2 (fun t ht=>hm t (by simp[ht])) _ h.2];rfl
   rw[Z3];rw[isObj]at h;by_cases h6:k=6
   ·subst h6;have hi:=hn.1 rfl;rw[if_neg (by decide),if_neg (by decide),if_neg (by decide),if_pos rfl]at h;simp only[Bool.and_eq_true,decide_eq_true_eq]at h;have e:ZF p d 6 i=(5,d+p - 1 - i):=by unfold ZF;rw[if_pos rfl]
    rw[e];simp only;rw[isObj,if_neg (by decide),if_neg (by decide),if_pos rfl];simp only[Bool.and_eq_true,decide_eq_true_eq];exact⟨⟨⟨h.1.1.1,by omega⟩,by omega⟩,key l (fun _ h=>h) 0 h.2⟩
   ·have e:ZF p d k i=(k,i):=by unfold ZF;rw[if_neg h6]
    rw[e];simp only;rw[isObj];split
    ·rename_i hk;rw[if_pos hk]at h;unfold bound at h ⊢;rw[xe];rw[Bool.and_eq_true]at h ⊢;exact⟨h.1,key l (fun _ h=>h) 0 h.2⟩
    rename_i hk3;rw[if_neg hk3]at h;split
    ·rename_i hk;rw[if_pos hk]at h;rw[Bool.and_eq_true]at h ⊢;exact⟨h.1,key l (fun _ h=>h) 0 h.2⟩
    rename_i hk4;rw[if_neg hk4]at h;split
    ·rename_i hk;rw[if_pos hk]at h;rw[Bool.and_eq_true]at h ⊢;exact⟨h.1,key l (fun _ h=>h) 0 h.2⟩
    rename_i hk5;rw[if_neg hk5,if_neg h6]at h;cases h
theorem zEF(p:Int)(hp:p<=1000)(d k:Int)(h0:0<=d):∀(l:List Tm)(j:Nat),(∀ t∈l,d+1+t.depth<=100000/\Mlt p t)->zZ l=true->zZ (Ql (ZF p) d k j l)=true
  | [],_,_,h=>by rw[xF];exact h
  |t :: ts,j,ht,h=>by
   rw[zZ,Bool.and_eq_true]at h;have hu:=yC k j;have h1:=ht t (by simp);rw[yi,zZ,show chT (ZF p) (d+under k j) t=QK p (d+under k j) t from rfl,zFx p hp t _ (by omega) (by omega) h1.2 h.1,zEF p hp d k h0 ts (j+1) (fun t h=>ht t (by simp[h])) h.2];rfl
theorem zDT(p:Int)(hp:p<=1000)(t:Tm):∀ d:Int,0<=d->d+t.depth<=100000->Mlt p t->t.zP=true->(QK p d t).zP=true:=by
  unfold QK;induction t using ind with
  |h k n i l ih=>
   intro d h0 hd hn h;have hn:=(zy _ _ _ _).1 hn;rw[zi]at hn;rw[yO]at hd
   have key:∀(l':List Tm),(∀ t∈l',t∈l)->∀ j,yJ l'=true->yJ (Ql (ZF p) d k j l')=true:=by
     intro l';induction l' with
     |nil=>intro _ j h;rw[xF];exact h
     |cons t ts ih2=>
      intro hm j h;rw[yJ,Bool.and_eq_true]at h;have hu:=yC k j;have hdt:=zg (hm t (by simp));rw[yi,yJ,ih t (hm t (by simp)) _ (by omega) (by omega) (hn.2 t (hm t (by simp))) h.1,ih2 (fun t ht=>hm t (by simp[ht])) _ h.2];rfl
   rw[Z3];rw[zP,isAtom]at h;have h6:k≠6:=by rintro rfl;simp at h
   have e:ZF p d k i=(k,i):=by unfold ZF;rw[if_neg h6]
   rw[e];simp only;rw[zP,isAtom];unfold bound at h ⊢;rw[xe];simp only[Bool.or_eq_true,Bool.and_eq_true,beq_iff_eq]at h ⊢;rcases h with⟨h1,h2,h3⟩|⟨h1,h2,h3⟩
   ·exact .inl ⟨h1,h2,zEF p hp d k h0 l 0 (fun t ht=>⟨by have:=zg ht;omega,hn.2 t ht⟩) h3⟩
   ·exact .inr ⟨h1,h2,key l (fun _ h=>h) 0 h3⟩
theorem zJL(p:Int)(hp:p<=1000)(t:Tm):∀ d:Int,0<=d->d+t.depth<=100000->Mlt p t->t.zR=true->(QK p d t).zR=true:=by
  induction t using ind with
  |h k n i l ih=>
   intro d h0 hd hn h;rcases zCT h with⟨n',i',a,b,e,h1,h2,h3⟩|e
   ·cases e
    have hn':=(zy _ _ _ _).1 hn;rw[zi]at hn';rw[yO]at hd;have da:=zg (show a∈[a,b] by simp);have db:=zg (show b∈[a,b] by simp);have e1:=zDT p hp a (d+under 2 0) (by have:=yC 2 0;omega) (by have:=yC 2 0;omega) (hn'.2 a (by simp)) h2;have e2:=ih b (by simp) (d+under 2 1) (by have:=yC 2 1;omega) (by have:=yC 2 1;omega) (hn'.2 b (by simp)) h3;unfold QK at e1 e2 ⊢;rw[Z3,yi,yi,xF];have e:ZF p d 2 i=(2,i):=by unfold ZF;rw[if_neg (by decide)]
    rw[e,zR];unfold bound at h1 ⊢;simp only[Bool.and_eq_true]at h1 ⊢;exact⟨rfl,h1,e1,e2⟩
   ·cases e
    unfold QK;rw[Z3,xF];have e:ZF p d 1 0=(1,0):=by unfold ZF;rw[if_neg (by decide)]
    rw[e];rfl
def par(pi:Bool)(m:Mv)(j:Nat)(t:Tm):Tm:=if pi=true then mk 2 m.name 0 [QK j 0 m.type,t]else mk 3 m.name 0 [t]
def wrp(pi:Bool)(K:List Mv):Nat->Tm->Tm
  |0,t=>t
  |j+1,t=>wrp pi K j (par pi (K.getD j ⟨[],zV,[]⟩) j t)
def Z6(K:List Mv)(pi:Bool)(t:Tm):Tm:=wrp pi K K.length (QK K.length 0 t)
end
section
open Tm Go.Proofs.YthgmimncdjhgnaaGreatDoor
def Q9(K:List Mv):List Tm->List Tm
  | []=>[]
  |t :: ts=>Z6 K true t :: ts.map (Z6 K false)
def Zz(l:List Mv)(all:List Tm):List Tm:=Q9 (xE l all) (xQ l all)
def ZC(l:List Mv)(a:Tm)(ms:List Tm):Int:=
  if zo wf (a :: ms)≠0 then zo wf (a :: ms)
  else if(!(a.zP || a.zR)|| ms.any (fun m=>!m.isObj))=true then 32
  else if(a :: ms).any (fun t=>decide (0<t.scope))=true then 3
  else if ZU l (a :: ms)≠0 then ZU l (a :: ms)
  else if 64<(xE l (a :: ms)).length then 7
  else if(Zz l (a :: ms)).all small=true then 0 else 2
def ZX(l:List Mv)(a:Tm)(ms:List Tm):Tm:=if ZC l a ms=0 then(Zz l (a :: ms)).headD zV else zV
def ZB(l:List Mv)(a:Tm)(ms:List Tm):List Tm:=if ZC l a ms=0 then(Zz l (a :: ms)).tail else []
def QZ(l:List Mv)(a:Tm)(ms:List Tm):Nat:=if ZC l a ms=0 then(xE l (a :: ms)).length else 0
def zKG(n:List UInt8):Bool:=n == []|| n == [95]|| isName n
structure zJe(K:List Mv):Prop where
  len:K.length<=40
  nm:∀ j(h:j<K.length),zKG K[j].name=true
  Yf:∀ j(h:j<K.length),K[j].type.zP=true/\K[j].type.small=true/\Mlt j K[j].type/\lt 0 K[j].type
theorem YK.QK{K:List Mv}(h:YK K):zJe K:=by
  refine⟨h.len,fun j hj=>?_,fun j hj=>?_⟩
  ·obtain⟨h1,_⟩:=xI (h.ok j hj);unfold zKG;rcases h1 with h1 |h1
   ·rw[h1];rfl
   ·rw[h1];simp
  ·obtain⟨_,h1,h2,h3,h4,h5,_⟩:=xI (h.ok j hj);exact⟨h2,h3,(yR _ h1).2 (fun i hi=>⟨(Zg i hi).1,h5 i hi⟩),(ZM _ (by omega)).2 h4⟩
theorem XA{t:Tm}(h:t.small=true):t.size<=4096/\t.depth<=128:=by
  unfold small at h;rw[Bool.and_eq_true,decide_eq_true_eq,decide_eq_true_eq]at h;exact h
section
variable {K:List Mv} (hK:zJe K)
include hK in
theorem zJE{j:Nat}(hj:j<K.length){t:Tm}:(t.zP=true->(par true K[j] j t).zP=true)/\(t.zR=true->(par true K[j] j t).zR=true)/\(t.isObj=true->(par false K[j] j t).isObj=true):=by
  obtain⟨h1,h2,h3,h4⟩:=hK.Yf j hj;have hl:=hK.len;have hn:=hK.nm j hj;unfold zKG at hn;have hb:=zDT (j:Int) (by omega) K[j].type 0 (Int.le_refl _) (by have:=(XA h2).2;omega) h3 h1;refine⟨fun h=>?_,fun h=>?_,fun h=>?_⟩
  ·unfold par;rw[if_pos rfl,zP];unfold bound;rw[yJ,yJ,yJ,hb,h,hn];simp
  ·unfold par;rw[if_pos rfl,zR];unfold bound;rw[hb,h,hn];simp
  ·unfold par;rw[if_neg (by simp),isObj,if_pos rfl];unfold bound;rw[zZ,zZ,h,hn];simp
theorem zAf(K:List Mv)(j:Nat)(h:j<K.length):K.getD j ⟨[],zV,[]⟩=K[j]:=by rw[List.getD_eq_getElem?_getD,List.getElem?_eq_getElem h];rfl
include hK in
theorem zDR(n:Nat):n<=K.length->∀{t:Tm},(t.zP=true->(wrp true K n t).zP=true)/\(t.zR=true->(wrp true K n t).zR=true)/\(t.isObj=true->(wrp false K n t).isObj=true):=by
  induction n with
  |zero=>intro _ t;exact⟨fun h=>h,fun h=>h,fun h=>h⟩
  |succ n ih=>
   intro hn t;obtain⟨h1,h2,h3⟩:=zJE hK (show n<K.length by omega) (t:=t);have e:=zAf K n (by omega);refine⟨fun h=>?_,fun h=>?_,fun h=>?_⟩
   ·rw[wrp,e];exact(ih (by omega)).1 (h1 h)
   ·rw[wrp,e];exact(ih (by omega)).2.1 (h2 h)
   ·rw[wrp,e];exact(ih (by omega)).2.2 (h3 h)
theorem zEw{m:Mv}{j:Nat}{t:Tm}(pi:Bool)(h:yk (fun k _ _ _=>k≠6) t):yk (fun k _ _ _=>k≠6) (par pi m j t):=by
  unfold par;split
  ·exact(zy _ _ _ _).2 ⟨by decide,(zi _).2 (fun u hu=>by
     rcases List.mem_cons.1 hu with rfl |hu
     ·exact zH6 _ _ _
     ·rw[List.mem_singleton.1 hu];exact h)⟩
  ·exact(zy _ _ _ _).2 ⟨by decide,(zi _).2 (fun u hu=>by rw[List.mem_singleton.1 hu];exact h)⟩
theorem zE0(pi:Bool)(K:List Mv)(n:Nat):∀{t:Tm},yk (fun k _ _ _=>k≠6) t->yk (fun k _ _ _=>k≠6) (wrp pi K n t):=by
  induction n with
  |zero=>intro t h;exact h
  |succ n ih=>intro t h;rw[wrp];exact ih (zEw pi h)
include hK in
theorem zKJ(pi:Bool)(n:Nat):n<=K.length->∀{t:Tm},lt (n:Int) t->lt 0 (wrp pi K n t):=by
  induction n with
  |zero=>intro _ t h;exact h
  |succ n ih=>
   intro hn t h;rw[wrp,zAf K n (by omega)];refine ih (by omega) ?_;obtain⟨_,_,h3,h4⟩:=hK.Yf n (by omega);unfold par;split
   ·rw[ZS,yQ,yQ];refine⟨fun e=>absurd e (by decide),?_,?_,xS _ _ _⟩
    ·have:=zHo (n:Int) (by omega) K[n].type 0 (Int.le_refl _) (Yn (fun _ _ _ _ h e=>(h e).1) _ h3) h4;simpa[under]using this
    ·simpa[under]using h
   ·rw[ZS,yQ];exact⟨fun e=>absurd e (by decide),by simpa[under]using h,xS _ _ _⟩
end
theorem zCq(c)(t:Tm):∀ d,(chT c d t).wt=t.wt:=by
  induction t using ind with
  |h k n i l ih=>
   intro d;rw[Z3,yv,yv]
   have key:∀(l':List Tm),(∀ t∈l',t∈l)->∀ j,ZP (Ql c d k j l')=ZP l':=by
     intro l';induction l' with
     |nil=>intro _ j;rw[xF]
     |cons t ts ih2=>intro hm j;rw[yi,ZP,ZP,ih t (hm t (by simp)),ih2 (fun t ht=>hm t (by simp[ht]))]
   rw[key l (fun _ h=>h)]
theorem zJ5{c:Nat}(t:Tm):yk (fun _ n _ _=>n.length<=c) t->t.wt<=(c+1) * t.size:=by
  induction t using ind with
  |h k n i l ih=>
   intro h;rw[zy,zi]at h;rw[yv,zU]
   have key:∀(l':List Tm),(∀ t∈l',t∈l)->ZP l'<=(c+1) * zQ l':=by
     intro l';induction l' with
     |nil=>intro _;simp[ZP,zQ]
     |cons t ts ih2=>
      intro hm;have h1:=ih t (hm t (by simp)) (h.2 t (hm t (by simp)));have h2:=ih2 (fun t ht=>hm t (by simp[ht]));rw[ZP,zQ,Nat.mul_add];omega
   have h1:=key l (fun _ h=>h);have h2:=h.1;rw[Nat.mul_add];omega
theorem zJ6(pi:Bool)(K:List Mv)(c:Nat)(hc:∀ j(h:j<K.length),K[j].name.length+K[j].type.wt<=c)(n:Nat):n<=K.length->∀{t:Tm},(wrp pi K n t).wt<=t.wt+n * (c+1):=by
  induction n with
  |zero=>intro _ t;rw[wrp];omega
  |succ n ih=>
   intro hn t;rw[wrp,zAf K n (by omega)];have h1:=ih (by omega) (t:=par pi K[n] n t)
   have h2:(par pi K[n] n t).wt<=t.wt+(c+1):=by
     have h3:=hc n (by omega);unfold par;split
     ·simp only[yv,ZP];unfold QK;rw[zCq];omega
     ·simp only[yv,ZP];omega
   rw[Nat.add_mul];omega
def y8(l:List Mv):Prop:=∀ m∈l,yk (fun _ n _ _=>n.length<=4) m.type/\∀ v∈m.value,yk (fun _ n _ _=>n.length<=4) v
section
variable {l:List Mv} (hP:YK l){ts:List Tm} (h:ZU l ts=0)
include hP h in
theorem QF:YK (xE l ts):=zH8 hP (zAV hP h).2.2.1
include hP h in
theorem YZ:(xQ l ts).length=ts.length/\∀ i(hi:i<ts.length)(hi':i<(xQ l ts).length),Kp ts[i] (xQ l ts)[i]/\(xQ l ts)[i].wf=0/\Mlt (xE l ts).length (xQ l ts)[i]/\(ts[i].scope<=0->lt 0 (xQ l ts)[i]):=by
  obtain⟨hA,hC,ho,hb⟩:=zAV hP h
  have hT:xQ l ts=(ts.map (zq l)).map (yL (xN (YD l ts))):=by
    unfold xQ;rw[if_pos h];unfold ZE;rw[if_pos hA]
  have hl:=ho.len;have hl2:=hP.len;refine⟨by rw[hT];simp,fun i hi hi'=>?_⟩
  have e:(xQ l ts)[i]=yL (xN (YD l ts)) (zq l ts[i]):=by
    have h2:(xQ l ts)[i]? =some (yL (xN (YD l ts)) (zq l ts[i])):=by
      rw[hT,List.getElem?_map,List.getElem?_map,List.getElem?_eq_getElem hi];rfl
    rw[List.getElem?_eq_getElem hi']at h2;exact Option.some.inj h2
  rw[e];have he:=YW l ts hA _ (List.getElem_mem hi);have hw:=(Z2 hP he).1;have hin:∀ j∈Tm.zM (zq l ts[i]),j∈YD l ts:=fun j hj=>(zDj hC).2 j (List.mem_flatMap.2 ⟨_,List.mem_map.2 ⟨_,List.getElem_mem hi,rfl⟩,hj⟩)
  obtain⟨r1,r2,r3⟩:=Qo hP ho hw hin;have hex:=(zAd he).2.2
  have hrok:Rok (xN (YD l ts)) (zq l ts[i]):=(yR _ hw).2 (fun j hj=>by
    have:=zAY (hin j hj);exact⟨by omega,by omega⟩)
  have hkp:Kp ts[i] (zq l ts[i]):=by
    unfold zq;rw[if_pos he];exact zDB l 16385 _ 0 hex
  refine⟨⟨fun h=>zAw _ _ hrok (hkp.1 h),fun h=>ql _ _ hrok (hkp.2.1 h),fun h=>zD7 _ _ hrok (hkp.2.2 h)⟩,r2,(yR _ r2).2 r3,fun hs=>?_⟩;exact zGR _ _ _ ((ZM _ (by omega)).2 (hP.closed he hs))
theorem zFd(hS:y8 l):∀ m∈xE l ts,yk (fun _ n _ _=>n.length<=4) m.type:=by
  intro m hm;unfold xE at hm;obtain⟨j,_,rfl⟩:=List.mem_map.1 hm;unfold XH;refine zBV _ (fun _ _ _ _ h=>h) _ ?_
  have h0:yk (fun _ n _ _=>n.length<=4) (typeOf l j):=by
    unfold typeOf;split
    ·rename_i m hm;exact(hS m (List.mem_of_getElem? hm)).1
    ·exact zw (N:=fun _ n _ _=>n.length<=4) (by decide)
  unfold zq;split
  ·exact zC1 (N:=fun _ n _ _=>n.length<=4) (fun _ _ _ _ h=>h) (by decide) l (fun m hm v hv=>(hS m hm).2 v hv) 16385 _ 0 h0
  ·exact zw (N:=fun _ n _ _=>n.length<=4) (by decide)
include hP h in
theorem qU(pi:Bool){i:Nat}(hi:i<ts.length)(hi':i<(xQ l ts).length)(hc:ts[i].scope<=0)(ho:if pi=true then ts[i].zP=true\/ts[i].zR=true else ts[i].isObj=true):
    yk (fun k _ _ _=>k≠6) (Z6 (xE l ts) pi (xQ l ts)[i])/\(Z6 (xE l ts) pi (xQ l ts)[i]).scope<=0/\(if pi=true then(Z6 (xE l ts) pi (xQ l ts)[i]).zP=true\/(Z6 (xE l ts) pi (xQ l ts)[i]).zR=true else(Z6 (xE l ts) pi (xQ l ts)[i]).isObj=true):=by
  have hK:=(QF hP h).QK;have hl:=hK.len;obtain⟨hkp,hw,hm,hlt⟩:=(YZ hP h).2 i hi hi';have hd:=(yd hw).2.2;unfold Z6;refine⟨zE0 _ _ _ (zH6 _ _ _),(ZM _ (by omega)).1 (zKJ hK pi _ (Nat.le_refl _) ?_),?_⟩
  ·have:=zHo ((xE l ts).length:Int) (by omega) _ 0 (Int.le_refl _) (Yn (fun _ _ _ _ h e=>(h e).1) _ hm) (hlt hc);simpa using this
  ·cases pi with
   |true=>
    rw[if_pos rfl]at ho ⊢;rcases ho with ho |ho
    ·exact .inl ((zDR hK _ (Nat.le_refl _)).1 (zDT _ (by omega) _ 0 (Int.le_refl _) (by omega) hm (hkp.2.1 ho)))
    ·exact .inr ((zDR hK _ (Nat.le_refl _)).2.1 (zJL _ (by omega) _ 0 (Int.le_refl _) (by omega) hm (hkp.2.2 ho)))
   |false=>
    rw[if_neg (by simp)]at ho ⊢;exact(zDR hK _ (Nat.le_refl _)).2.2 (zFx _ (by omega) _ 0 (Int.le_refl _) (by omega) hm (hkp.1 ho))
include hP h in
theorem zIh(hS:y8 l)(hl:l.length<=10)(pi:Bool){i:Nat}(hi:i<ts.length)(hi':i<(xQ l ts).length):(Z6 (xE l ts) pi (xQ l ts)[i]).wt<=1000000:=by
  have hKp:=QF hP h
  have hko:(xE l ts).length<=l.length:=by
    unfold xE;rw[List.length_map];exact(zAV hP h).2.2.1.len
  obtain⟨_,hw,_,_⟩:=(YZ hP h).2 i hi hi';have h1:=Tm.ZN hw;unfold Z6
  have h2:=zJ6 pi (xE l ts) 20544 (fun j hj=>by
    obtain⟨h3,h4,_,h5,_⟩:=xI (hKp.ok j hj);have h6:=zJ5 _ (zFd hS (ts:=ts) _ (List.getElem_mem hj));have h7:=(XA h5).1
    have h8:(xE l ts)[j].name.length<=64:=by
      rcases h3 with h3 |h3
      ·rw[h3];simp
      ·unfold isName at h3;simp at h3;omega
    omega) (xE l ts).length (Nat.le_refl _) (t:=QK (xE l ts).length 0 (xQ l ts)[i])
  unfold QK at h2 ⊢;rw[zCq]at h2;have h9:(xE l ts).length * (20544+1)<=10 * (20544+1):=Nat.mul_le_mul_right _ (by omega);omega
end
theorem Z0{t:Tm}(h:t.isObj=true\/t.zP=true\/t.zR=true):t.wf=if t.small=true then 0 else 2:=by
  unfold wf
  have:(!t.isObj && !t.zP && !t.zR)=false:=by
    rcases h with h |h |h<;>rw[h]<;>simp
  rw[this];cases t.small<;>rfl
end
end Go.LF
