/- How many free variables there are behind a substitution. No program is in sight here. -/
import Derived.Test.YthgmimncdjhgnaaGreatQFB
import Derived.Test.YthgmimncdjhgnaaGreatQFJ
namespace Go.LF.Tm
mutual
def lt(n:Int):Tm->Prop
  |mk k _ i l=>(k=5->i<n)/\Qx n k 0 l
def Qx(n k:Int)(j:Nat):List Tm->Prop
  | []=>True
  |t :: ts=>lt (n+under k j) t/\Qx n k (j+1) ts
end
theorem YI(n k nm i l):lt n (mk k nm i l)↔(k=5->i<n)/\Qx n k 0 l:=by rw[lt]
theorem xm(n k:Int)(j:Nat):Qx n k j []:=by rw[Qx];trivial
theorem yx(n k:Int)(j:Nat)(t:Tm)(ts:List Tm):Qx n k j (t :: ts)↔lt (n+under k j) t/\Qx n k (j+1) ts:=by rw[Qx]
theorem zH3(t:Tm):∀{n n':Int},n<=n'->lt n t->lt n' t:=by
  induction t using ind with
  |h k nm i l ih=>
   intro n n' hn h;rw[YI]at h ⊢;refine⟨fun e=>by have:=h.1 e;omega,?_⟩
   have key:∀(l':List Tm),(∀ t∈l',t∈l)->∀ j,Qx n k j l'->Qx n' k j l':=by
     intro l';induction l' with
     |nil=>intro _ j _;exact xm _ _ _
     |cons t ts ih2=>
      intro hm j h;rw[yx]at h ⊢;exact⟨ih t (hm t (by simp)) (by omega) h.1,ih2 (fun t ht=>hm t (by simp[ht])) (j+1) h.2⟩
   exact key l (fun _ h=>h) 0 h.2
theorem Qo(t:Tm):∀{n:Int},0<=n->(lt n t↔scope t<=n):=by
  induction t using ind with
  |h k nm i l ih=>
   intro n hn;rw[YI,scope]
   have key:∀(l':List Tm),(∀ t∈l',t∈l)->∀(j:Nat)(acc:Int),(acc<=n/\Qx n k j l')↔scopes k j acc l'<=n:=by
     intro l';induction l' with
     |nil=>intro _ j acc;rw[scopes];exact⟨fun h=>h.1,fun h=>⟨h,xm _ _ _⟩⟩
     |cons t ts ih2=>
      intro hm j acc;have hu:=yl k j;rw[scopes,yx,<-ih2 (fun t ht=>hm t (by simp[ht])),ih t (hm t (by simp)) (by omega)];constructor
      ·rintro⟨h1,h2,h3⟩;exact⟨by omega,h3⟩
      ·rintro⟨h1,h2⟩;exact⟨by omega,by omega,h2⟩
   rw[<-key l (fun _ h=>h)];by_cases hk:k=5
   ·subst hk;simp only[beq_self_eq_true,if_true,forall_const];constructor
    ·rintro⟨h1,h2⟩;exact⟨by omega,h2⟩
    ·rintro⟨h1,h2⟩;exact⟨by omega,h2⟩
   ·rw[if_neg (by simpa using hk)];exact⟨fun h=>⟨hn,h.2⟩,fun h=>⟨fun e=>absurd e hk,h.2⟩⟩
theorem yR{n:Int}:lt n zR:=(YI _ _ _ _ _).2 ⟨fun e=>absurd e (by decide),xm _ _ _⟩
theorem zHg(t:Tm):∀(by' b n:Int),0<=by'->lt n t->lt (n+by') (mv (ZC by' 0) b t):=by
  induction t using ind with
  |h k nm i l ih=>
   intro by' b n h0 h;rw[YI]at h;rw[xX,YI];refine⟨fun e=>?_,?_⟩
   ·have:=h.1 e;unfold Zg ZC;simp only;split
    ·split<;>omega
    ·omega
   have key:∀(l':List Tm),(∀ t∈l',t∈l)->∀ j,Qx n k j l'->Qx (n+by') k j (xN (ZC by' 0) b k j l'):=by
     intro l';induction l' with
     |nil=>intro _ j _;rw[xN];exact xm _ _ _
     |cons t ts ih2=>
      intro hm j h;rw[yx]at h;rw[xN,yx];refine⟨?_,ih2 (fun t ht=>hm t (by simp[ht])) (j+1) h.2⟩;have:=ih t (hm t (by simp)) by' (b+under k j) (n+under k j) h0 h.1;rw[show n+by'+under k j=n+under k j+by' by omega];exact this
   exact key l (fun _ h=>h) 0 h.2
theorem zAp{t:Tm}{w:Nat}{n:Int}(h:lt n t):lt n (xp t w).t:=by
  unfold xp;split
  ·exact h
  ·exact yR
theorem zEl(n:Int)(f:Tm->Sm->Tm->Nat->yw)(hf:∀ u s b w,lt n u->lt (n+1) b->lt n (f u s b w).t)(us:List Tm):∀(m:Tm)(ss:List Sm)(w:Nat),lt n m->(∀ u∈us,lt n u)->lt n (ZN f m ss us w).t:=by
  induction us with
  |nil=>
   intro m ss w hm _;unfold ZN;split
   ·exact yR
   ·exact zAp hm
  |cons u us ih=>
   intro m ss w hm hu;cases ss with
   |nil=>unfold ZN;exact yR
   |cons s ss=>
    rw[ZN];split
    ·rename_i hk
     have hb:lt (n+1) (m.args.headD zR):=by
       cases m with
       |mk k nm i l=>
        rw[YI]at hm;have hk:k=3:=hk;subst hk;cases l with
        |nil=>exact yR
        |cons t ts=>
         have:=hm.2;rw[yx]at this;exact this.1
     have hf1:=hf u s _ w (hu u (by simp)) hb;split
     ·exact ih _ _ _ hf1 (fun u h=>hu u (by simp[h]))
     ·exact hf1
    ·exact yR
theorem zHA(N:Int)(hN:0<=N)(f:Tm->Sm->Tm->Nat->yw)(ms:List Tm)(ss:List Sm)(d k:Int)(hd:0<=d)(hf:∀ u s b w,lt (N+d) u->lt (N+d+1) b->lt (N+d) (f u s b w).t)(nm:List UInt8)(i:Int)(us:List Tm)(w:Nat)
    (hms:∀ m∈ms,lt N m) (hi:k=5->i<N+ms.length+d) (hu:Qx (N+d) k 0 us):lt (N+d) (Q3 f ms ss d k nm i us w).t:=by
  unfold Q3;split
  ·rename_i hk;obtain⟨rfl,hdi⟩:=hk
   have hus:∀ u∈us,lt (N+d) u:=by
     have key:∀(l:List Tm)j,Qx (N+d) 5 j l->∀ u∈l,lt (N+d) u:=by
       intro l;induction l with
       |nil=>intro j _ u hu;cases hu
       |cons t ts ih=>
        intro j h u hu;rw[yx]at h;rcases List.mem_cons.1 hu with rfl |hu
        ·have:=h.1;rw[show under 5 j=0 by unfold under;simp]at this;simpa using this
        ·exact ih (j+1) h.2 u hu
     exact key us 0 hu
   split
   ·rename_i hlt;split
    ·exact yR
    ·unfold ap;split
     ·refine zEl (N+d) f hf us _ _ _ ?_ hus;have hl:(i - d).toNat<ms.length:=by omega
      rw[List.getD,List.getElem?_eq_getElem hl];exact zHg _ d 0 N hd (hms _ (List.getElem_mem hl))
     ·exact yR
   ·refine zAp ((YI _ _ _ _ _).2 ⟨fun _=>?_,hu⟩);have:=hi rfl;omega
  ·rename_i hk;refine zAp ((YI _ _ _ _ _).2 ⟨fun e=>?_,hu⟩)
   have:i<d:=by
     by_cases h:i<d
     ·exact h
     ·exact absurd ⟨e,by omega⟩ hk
   omega
theorem zHG(n:Nat):∀(N:Int)(ms:List Tm)(ss:List Sm)(d:Int)(t:Tm)(w:Nat),0<=N->0<=d->(∀ m∈ms,lt N m)->lt (N+ms.length+d) t->lt (N+d) (sb n ms ss d t w).t:=by
  induction n with
  |zero=>intro N ms ss d t w _ _ _ _;rw[sb];exact yR
  |succ n ih=>
   intro N ms ss d t w hN hd hms ht;rw[sb];split
   ·exact yR
   ·split
    ·cases t with
     |mk k nm i l=>
      simp only[zAz,zBI,Qb,x6]at *
      rw[YI]at ht;refine zHA N hN _ ms ss d k hd (fun u s b w hu hb=>?_) nm i _ _ hms ht.1 ?_
      ·have:=ih (N+d) [u] [s] 0 b w (by omega) (by omega) (fun m hm=>by obtain rfl:=List.mem_singleton.1 hm;exact hu) (by simpa using hb);simpa using this
      ·have key:∀(l':List Tm),(∀ t∈l',t∈l)->∀(j w:Nat),Qx (N+ms.length+d) k j l'->Qx (N+d) k j (ya (fun d' t' w'=>sb n ms ss d' t' w') d k j l' w).ts:=by
         intro l';induction l' with
         |nil=>intro _ j w _;rw[ya];exact xm _ _ _
         |cons t ts ih2=>
          intro hm j w h;rw[yx]at h;have hu:=yl k j;rw[ya];split
          ·split
           ·show Qx _ _ _ (_ :: _);rw[yx];refine⟨?_,ih2 (fun t ht=>hm t (by simp[ht])) (j+1) _ h.2⟩;have:=ih N ms ss (d+under k j) t w hN (by omega) hms (by rw[<-Int.add_assoc];exact h.1);rw[Int.add_assoc];exact this
           ·exact xm _ _ _
          ·exact xm _ _ _
       exact key l (fun _ h=>h) 0 _ ht.2
    ·exact yR
theorem zH1(n:Nat)(N:Int)(hN:0<=N)(m:Tm)(ss:List Sm)(us:List Tm)(w:Nat)(hm:lt N m)(hu:∀ u∈us,lt N u):lt N (ap (fun u s b w'=>sb n [u] [s] 0 b w') m ss us w).t:=by
  unfold ap;split
  ·refine zEl N _ (fun u s b w h1 h2=>?_) us m ss w hm hu;have:=zHG n N [u] [s] 0 b w hN (by omega) (fun m hm=>by obtain rfl:=List.mem_singleton.1 hm;exact h1) (by simpa using h2);simpa using this
  ·exact yR
end Go.LF.Tm
namespace Go.LF
section
open Tm Go.Proofs.YthgmimncdjhgnaaGreat
theorem zCN{n:Int}{k:Int}(hk:k≠3/\k≠2):∀(l:List Tm)(j:Nat),Qx n k j l->∀ u∈l,lt n u
  | [],_,_,_,hu=>by cases hu
  |t :: ts,j,h,u,hu=>by
   rw[yx]at h;rcases List.mem_cons.1 hu with rfl |hu
   ·have:=h.1;rw[show under k j=0 by unfold under;simp[hk]]at this;simpa using this
   ·exact zCN hk ts (j+1) h.2 u hu
theorem zHD(g:Int->Int->List Tm->Nat->Option yw)(hg:∀ k i us c r,g k i us c=some r->k=6/\∀ N:Int,0<=N->(∀ u∈us,lt N u)->lt N r.t)(t:Tm):∀(N:Int),0<=N->lt N t->∀ c,lt N (ZF g t c).t:=by
  induction t using ind with
  |h k nm i l ih=>
   intro N hN h c;rw[YI]at h
   have key:∀(l':List Tm),(∀ t∈l',t∈l)->∀ j,Qx N k j l'->∀ c,Qx N k j (yZ g l' c).ts:=by
     intro l';induction l' with
     |nil=>intro _ j _ c;rw[Xa];exact xm _ _ _
     |cons t ts ih2=>
      intro hm j h c;rw[yx]at h;have hu:=yl k j;rw[Qn];split
      ·split
       ·show Qx _ _ _ (_ :: _);rw[yx];exact⟨ih t (hm t (by simp)) _ (by omega) h.1 c,ih2 (fun t ht=>hm t (by simp[ht])) (j+1) h.2 _⟩
       ·exact xm _ _ _
      ·exact xm _ _ _
   have hA:=key l (fun _ h=>h) 0 h.2 c;rw[ZS];split
   ·cases hq:g k i (yZ g l c).ts (yZ g l c).w with
    |none=>exact zAp ((YI _ _ _ _ _).2 ⟨h.1,hA⟩)
    |some r=>
     obtain⟨rfl,h2⟩:=hg _ _ _ _ _ hq;exact h2 N hN (zCN ⟨by decide,by decide⟩ _ 0 hA)
   ·exact yR
theorem zGr(l:List Mv)(hv:∀ m∈l,∀ v∈m.value,lt 0 v)(n:Nat):∀ t(N:Int),0<=N->lt N t->∀ c,lt N (xC l n t c).t:=by
  induction n with
  |zero=>intro t N _ _ c;exact yR
  |succ n ih=>
   intro t;rw[yb];refine zHD _ (fun k i us c r hr=>?_) t;unfold YJ at hr;obtain⟨m,hm,rfl⟩:=Option.map_eq_some_iff.1 hr;obtain⟨h6,_,_,_,hml,hmv⟩:=ZG hm;refine⟨h6,fun N hN hus=>?_⟩;split
   ·exact yR
   split
   ·exact yR
   rename_i h2;refine ih _ N hN ?_ _;unfold ZR;rw[if_pos (Decidable.not_not.1 h2)];refine zH1 262145 N hN _ _ _ _ ?_ hus;match hv':m.value,hmv with
   |v :: r,_=>exact zH3 _ hN (hv m hml v (by rw[hv'];simp))
theorem qf.closed{l:List Mv}(h:qf l){t:Tm}(he:yf l t=0)(ht:t.scope<=0):(zz l t).scope<=0:=by
  unfold zz;rw[if_pos he];refine(Qo _ (by omega)).1 (zGr l (fun m hm v hv=>?_) 16385 t 0 (by omega) ((Qo _ (by omega)).2 ht) 0);obtain⟨_,h1,h2,h3,_⟩:=xU ((h.val m hm).2 v hv);exact(Qo _ (by omega)).2 h3
end
section
open Tm Go.Proofs.YthgmimncdjhgnaaGreat
structure zDZ(l:List Mv)(o:List Int):Prop where
  cnt:yL l o+o.length<=l.length
  inn:∀ x∈o,0<=x/\x<l.length
  XD:∀ p(h:p<o.length),yf l (typeOf l o[p])=0/\∀ j∈Tm.zP (zz l (typeOf l o[p])),j∈o.take p
theorem zDZ.nil(l:List Mv):zDZ l []:=⟨QV l,fun _ h=>(by cases h),fun p h=>(by simp at h)⟩
section
variable {l:List Mv} (hP:qf l)
theorem zDZ.len{o:List Int}(h:zDZ l o):o.length<=l.length:=by have:=h.cnt;omega
end
end
end Go.LF
