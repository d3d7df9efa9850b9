/- A property of all nodes that a substitution keeps: variables may have any index. No program is in sight here. -/
import Derived.Test.YthgmimncdjhgnaaGreatDoorKCH
import Derived.Test.YthgmimncdjhgnaaGreatDoorKDC
import Derived.Test.YthgmimncdjhgnaaGreatDoorKEA
import Derived.Test.YthgmimncdjhgnaaGreatDoorKFA
import Derived.Test.YthgmimncdjhgnaaGreatDoorKSC
namespace Go.LF.Tm
mutual
def x8(N:Int->List UInt8->Int->Nat->Prop):Tm->Prop
  |mk k n i l=>N k n i l.length/\xr N l
def xr(N:Int->List UInt8->Int->Nat->Prop):List Tm->Prop
  | []=>True
  |t :: ts=>x8 N t/\xr N ts
end
section
variable {N:Int->List UInt8->Int->Nat->Prop}
theorem yk(k n i l):x8 N (mk k n i l)↔N k n i l.length/\xr N l:=by rw[x8]
theorem yQ(l:List Tm):xr N l↔∀ t∈l,x8 N t:=by
  induction l with
  |nil=>simp[xr]
  |cons t ts ih=>simp[xr,ih]
theorem Zp:xr N []:=by rw[xr];trivial
theorem zIe{M:Int->List UInt8->Int->Nat->Prop}(hNM:∀ k n i z,N k n i z->M k n i z)(t:Tm):x8 N t->x8 M t:=by
  induction t using ind with
  |h k n i l ih=>
   intro h
   rw[yk,yQ]at h ⊢
   exact⟨hNM _ _ _ _ h.1,fun u hu=>ih u hu (h.2 u hu)⟩
theorem zGJ{M:Int->List UInt8->Int->Prop}(t:Tm):∀ b,x8 (fun k n i _=>M k n i) t↔∀ x∈nodes b t,M x.k x.n x.i:=by
  induction t using ind with
  |h k n i l ih=>
   intro b
   have key:∀(l':List Tm),(∀ t∈l',t∈l)->∀ j,xr (fun k n i _=>M k n i) l'↔∀ x∈za b k j l',M x.k x.n x.i:=by
     intro l'
     induction l' with
     |nil=>intro _ j;simp[xr,za]
     |cons t ts ih2=>
      intro hm j
      rw[xr,za,ih t (hm t (by simp)) (b+under k j),ih2 (fun t ht=>hm t (by simp[ht])) (j+1)]
      simp only[List.mem_append]
      exact⟨fun h x hx=>hx.elim (h.1 x) (h.2 x),fun h=>⟨fun x hx=>h x (.inl hx),fun x hx=>h x (.inr hx)⟩⟩
   rw[yk,zg,key l (fun _ h=>h) 0]
   simp
theorem zAY{c:Nat}(t:Tm):t.size<=c->x8 (fun _ _ _ z=>z<=c) t:=by
  induction t using ind with
  |h k n i l ih=>
   intro h
   rw[zS]at h
   have:=zO l
   rw[yk,yQ]
   exact⟨by omega,fun u hu=>ih u hu (by have:=zR hu;omega)⟩
variable (hv:∀ n i i' z,N 5 n i z->N 5 n i' z) (h0:N 0 [] 0 0)
include h0 in
theorem yD:x8 N zT:=(yk _ _ _ _).2 ⟨h0,Zp⟩
include hv in
theorem zJw(f:To)(t:Tm):∀ b,x8 N t->x8 N (mv f b t):=by
  induction t using ind with
  |h k n i l ih=>
   intro b h
   rw[yk]at h
   rw[x7,yk]
   refine⟨?_,?_⟩
   ·by_cases hk:k=5
    ·subst hk;rw[Zv];exact hv _ _ _ _ h.1
    ·unfold Z1;rw[if_neg (fun e=>hk e.1),Zv];exact h.1
   have key:∀(l':List Tm),(∀ t∈l',t∈l)->xr N l'->∀ j,xr N (ZA f b k j l'):=by
     intro l'
     induction l' with
     |nil=>intro _ _ j;rw[ZA];exact Zp
     |cons t ts ih2=>
      intro hm hn j
      rw[xr]at hn
      rw[ZA,xr]
      exact⟨ih t (hm t (by simp)) _ hn.1,ih2 (fun t ht=>hm t (by simp[ht])) hn.2 (j+1)⟩
   exact key l (fun _ h=>h) h.2 0
include h0 in
theorem qP{t:Tm}{w:Nat}(h:x8 N t):x8 N (ZU t w).t:=by
  unfold ZU
  split
  ·exact h
  ·exact yD h0
theorem zIS(f:Int->Tm->Nat->xU)(d k:Int)(l:List Tm)(hf:∀ t∈l,∀ d w,x8 N (f d t w).t):∀ j w,xr N (yy f d k j l w).ts:=by
  induction l with
  |nil=>intro j w;rw[yy];exact Zp
  |cons t ts ih=>
   intro j w
   rw[yy]
   split
   ·split
    ·show xr N (_ :: _)
     rw[xr]
     exact⟨hf t (by simp) _ _,ih (fun t ht=>hf t (by simp[ht])) _ _⟩
    ·exact Zp
   ·exact Zp
include h0 in
theorem zFX(f:Tm->Sm->Tm->Nat->xU)(hf:∀ u s b w,x8 N u->x8 N b->x8 N (f u s b w).t)(us:List Tm):∀(m:Tm)(ss:List Sm)(w:Nat),x8 N m->xr N us->x8 N (Z8 f m ss us w).t:=by
  induction us with
  |nil=>
   intro m ss w hm _
   unfold Z8
   split
   ·exact yD h0
   ·exact qP h0 hm
  |cons u us ih=>
   intro m ss w hm hu
   rw[xr]at hu
   cases ss with
   |nil=>unfold Z8;exact yD h0
   |cons s ss=>
    rw[Z8]
    have hb:x8 N (m.args.headD zT):=by
      cases m with
      |mk k n i l=>
       rw[yk]at hm
       cases l with
       |nil=>exact yD h0
       |cons t ts=>
        have:=hm.2
        rw[xr]at this
        exact this.1
    have hf1:=hf u s _ w hu.1 hb
    split
    ·split
     ·exact ih _ _ _ hf1 hu.2
     ·exact hf1
    ·exact yD h0
include hv h0 in
theorem zIz(f:Tm->Sm->Tm->Nat->xU)(hf:∀ u s b w,x8 N u->x8 N b->x8 N (f u s b w).t)(ms:List Tm)(ss:List Sm)(d k:Int)(nm:List UInt8)(i:Int)(us:List Tm)(w:Nat)
    (hms:xr N ms) (hn:N k nm i us.length) (hu:xr N us):x8 N (sbN f ms ss d k nm i us w).t:=by
  unfold sbN
  split
  ·rename_i hk
   split
   ·rename_i hlt
    split
    ·exact yD h0
    ·unfold ap
     split
     ·refine zFX h0 f hf us _ _ _ (zJw hv _ _ _ ?_) hu
      by_cases h:(i - d).toNat<ms.length
      ·rw[List.getD,List.getElem?_eq_getElem h]
       exact(yQ ms).1 hms _ (List.getElem_mem _)
      ·rw[List.getD,List.getElem?_eq_none (by omega)]
       exact yD h0
     ·exact yD h0
   ·refine qP h0 ((yk _ _ _ _).2 ⟨?_,hu⟩)
    obtain⟨rfl,_⟩:=hk
    exact hv _ _ _ _ hn
  ·exact qP h0 ((yk _ _ _ _).2 ⟨hn,hu⟩)
include hv h0 in
theorem zJo(n:Nat):∀ ms ss d t w,xr N ms->x8 N t->x8 N (sb n ms ss d t w).t:=by
  induction n with
  |zero=>intro ms ss d t w _ _;rw[sb];exact yD h0
  |succ n ih=>
   intro ms ss d t w hms ht
   rw[sb]
   split
   ·exact yD h0
   ·split
    ·rename_i hA
     cases t with
     |mk k nm i l=>
      simp only[zAC,zCE,zA2,ZR]at *
      rw[yk]at ht
      refine zIz hv h0 _ (fun u s b w hu hb=>ih [u] [s] 0 b w ?_ hb) ms ss d k nm i _ _ hms (by rw[Ya _ _ _ _ _ _ hA];exact ht.1) ?_
      ·rw[xr];exact⟨hu,Zp⟩
      ·exact zIS _ d k l (fun t ht' d w=>ih ms ss d t w hms ((yQ l).1 ht.2 t ht')) 0 (w+1)
    ·exact yD h0
include hv h0 in
theorem zJk(n:Nat)(m:Tm)(ss:List Sm)(us:List Tm)(w:Nat)(hm:x8 N m)(hu:xr N us):x8 N (ap (fun u s b w'=>sb n [u] [s] 0 b w') m ss us w).t:=by
  unfold ap
  split
  ·exact zFX h0 _ (fun u s b w h1 h2=>zJo hv h0 n [u] [s] 0 b w (by rw[xr];exact⟨h1,Zp⟩) h2) us m ss w hm hu
  ·exact yD h0
end
end Go.LF.Tm
namespace Go.LF
section
open Tm
mutual
def Zm(g:Int->Int->List Tm->Nat->Option xU):Tm->Nat->xU
  |mk k n i l,c=>if(yx g l c).e=0 then((g k i (yx g l c).ts (yx g l c).w).getD (ZU (mk k n i (yx g l c).ts) (yx g l c).w))else⟨(yx g l c).e,zT,(yx g l c).w⟩
def yx(g:Int->Int->List Tm->Nat->Option xU):List Tm->Nat->zKc
  | [],c=>⟨0,[],c⟩
  |t :: ts,c=>
   if(Zm g t c).e=0 then
     (if(yx g ts (Zm g t c).w).e=0 then⟨0,(Zm g t c).t :: (yx g ts (Zm g t c).w).ts,(yx g ts (Zm g t c).w).w⟩
       else⟨(yx g ts (Zm g t c).w).e,[],(yx g ts (Zm g t c).w).w⟩)
   else⟨(Zm g t c).e,[],(Zm g t c).w⟩
end
theorem Z0(g k n i l c):Zm g (mk k n i l) c=if(yx g l c).e=0 then((g k i (yx g l c).ts (yx g l c).w).getD (ZU (mk k n i (yx g l c).ts) (yx g l c).w))else⟨(yx g l c).e,zT,(yx g l c).w⟩:=by rw[Zm]
theorem XW(g:Int->Int->List Tm->Nat->Option xU)(l:List Tm):∀(j c:Nat),yx g l c=yy (fun _ t c=>Zm g t c) 0 0 j l c:=by
  induction l with
  |nil=>intro j c;rw[yx,yy]
  |cons t ts ih=>intro j c;rw[yx,yy,ih (j+1)]
theorem Xs(g:Int->Int->List Tm->Nat->Option xU)(l:List Tm)(c j:Nat)(h:j<l.length)(h0:(yx g (l.take j) c).e=0):yx g (l.take (j+1)) c=
    if(Zm g l[j] (yx g (l.take j) c).w).e=0 then⟨0,(yx g (l.take j) c).ts++[(Zm g l[j] (yx g (l.take j) c).w).t],(Zm g l[j] (yx g (l.take j) c).w).w⟩
    else⟨(Zm g l[j] (yx g (l.take j) c).w).e,[],(Zm g l[j] (yx g (l.take j) c).w).w⟩:=by
  rw[XW g _ 0,XW g _ 0]at *
  rw[Z6 _ _ _ _ _ _ h h0]
theorem zDb(g:Int->Int->List Tm->Nat->Option xU)(l:List Tm)(c j:Nat)(h0:(yx g (l.take j) c).e≠0):yx g l c=yx g (l.take j) c:=by
  rw[XW g _ 0,XW g _ 0]at *
  exact zAs _ _ _ _ _ _ h0
theorem zEZ(g:Int->Int->List Tm->Nat->Option xU)(l:List Tm)(c:Nat)(h:(yx g l c).e=0):(yx g l c).ts.length=l.length:=by
  rw[XW g _ 0]at *;exact Ya _ _ _ _ _ _ h
theorem qh(g:Int->Int->List Tm->Nat->Option xU)(c:Nat):yx g [] c=⟨0,[],c⟩:=by rw[yx]
theorem zAe(g:Int->Int->List Tm->Nat->Option xU)(t:Tm)(ts:List Tm)(c:Nat):yx g (t :: ts) c=if(Zm g t c).e=0 then
      (if(yx g ts (Zm g t c).w).e=0 then⟨0,(Zm g t c).t :: (yx g ts (Zm g t c).w).ts,(yx g ts (Zm g t c).w).w⟩
        else⟨(yx g ts (Zm g t c).w).e,[],(yx g ts (Zm g t c).w).w⟩)
    else⟨(Zm g t c).e,[],(Zm g t c).w⟩:=by rw[yx]
def slv(l:List Mv)(k i:Int):Option Mv:=if k=6/\0<=i then(match l[i.toNat]? with |some m=>if m.value=[]then none else some m |none=>none)else none
theorem YL{l:List Mv}{k i:Int}{m:Mv}(h:slv l k i=some m):k=6/\0<=i/\i<l.length/\l[i.toNat]? =some m/\m∈l/\m.value≠[]:=by
  unfold slv at h
  split at h
  ·rename_i hk
   split at h
   ·rename_i m' hm
    split at h
    ·cases h
    ·rename_i hv
     cases h
     obtain⟨h1,h2⟩:=List.getElem?_eq_some_iff.1 hm
     exact⟨hk.1,hk.2,by omega,hm,h2 ▸ List.getElem_mem _,hv⟩
   ·cases h
  ·cases h
def XD(l:List Mv)(f:Tm->Nat->xU)(k i:Int)(us:List Tm)(c:Nat):Option xU:=
  (slv l k i).map fun m=>if 16384<c+1 then⟨2,zT,c+1⟩else
    if Ys (m.value.headD zT) (er m.type) us≠0 then⟨Ys (m.value.headD zT) (er m.type) us,zT,c+1⟩else f (Z3 (m.value.headD zT) (er m.type) us) (c+1)
def xe(l:List Mv):Nat->Tm->Nat->xU
  |0=>fun _ c=>⟨2,zT,c+1⟩
  |n+1=>Zm (XD l (xe l n))
theorem xC(l:List Mv)(n:Nat):xe l (n+1)=Zm (XD l (xe l n)):=by rw[xe]
def exR(l:List Mv)(n:Nat)(m:Mv)(us:List Tm)(c:Nat):xU:=if 16384<c+1 then⟨2,zT,c+1⟩else
    if Ys (m.value.headD zT) (er m.type) us≠0 then⟨Ys (m.value.headD zT) (er m.type) us,zT,c+1⟩else xe l n (Z3 (m.value.headD zT) (er m.type) us) (c+1)
theorem zAp{l:List Mv}{n:Nat}{k i:Int}{m:Mv}(h:slv l k i=some m)(us:List Tm)(c:Nat):XD l (xe l n) k i us c=some (exR l n m us c):=by unfold XD exR;rw[h];rfl
theorem zAa{l:List Mv}{f:Tm->Nat->xU}{k i:Int}(h:slv l k i=none)(us:List Tm)(c:Nat):XD l f k i us c=none:=by unfold XD;rw[h];rfl
structure MvG(n:Int)(m:Mv):Prop where
  YQ:m.type.zW=true/\m.type.small=true
  val:∀ v∈m.value,v.isObj=true/\v.small=true
  one:m.value.length<=1
  kn:x8 (fun k _ i z=>(k=6->i<n)/\z<=200) m.type/\∀ v∈m.value,x8 (fun k _ i z=>(k=6->i<n)/\z<=200) v
abbrev Kn(n:Int)(t:Tm):Prop:=x8 (fun k _ i z=>(k=6->i<n)/\z<=200) t
structure StG(l:List Mv):Prop where
  len:l.length<=40
  mv:∀ m∈l,MvG l.length m
theorem zEX{m:Tm}{s:Sm}{us:List Tm}(h:Ys m s us=0):(m.isObj=true/\m.small=true)/\(∀ u∈us,u.isObj=true/\u.small=true)/\(Tm.ap (Tm.Xb 262145) m s.args us 0).e=0/\Z3 m s us=(Tm.ap (Tm.Xb 262145) m s.args us 0).t:=by
  have h0:=h
  unfold Ys at h
  split at h
  ·rename_i h1;exact absurd h h1
  split at h
  ·rename_i h1;exact absurd h h1
  split at h
  ·omega
  rename_i h1
  simp only[List.any_cons,Bool.or_eq_true,not_or,List.any_eq_true,Bool.not_eq_true',Bool.and_eq_false_iff]at h1
  refine⟨?_,fun u hu=>?_,h,by unfold Z3;rw[if_pos h0]⟩
  ·have:=h1.1
   simp only[Bool.not_eq_false]at this
   exact this
  ·have h2:=h1.2
   by_cases hc:u.isObj=true/\u.small=true
   ·exact hc
   ·exact absurd ⟨u,hu,by
      cases h3:u.isObj<;>cases h4:u.small<;>simp_all⟩ h2
theorem zGW(f:Tm->Sm->Tm->Nat->xU)(m:Tm)(ss:List Sm)(us:List Tm)(w:Nat)(h:(ap f m ss us w).e=0):(ap f m ss us w).t.small=true:=by
  unfold ap at h ⊢
  split
  ·rename_i hl
   rw[if_pos hl]at h
   exact QG _ _ _ _ _ h
  ·rename_i hl
   rw[if_neg hl]at h
   simp at h
theorem qR{m:Tm}{s:Sm}{us:List Tm}(h:Ys m s us=0):(Z3 m s us).isObj=true/\(Z3 m s us).small=true:=by
  obtain⟨h1,h2,h3,h4⟩:=zEX h
  rw[h4]
  refine⟨?_,zGW _ _ _ _ _ h3⟩
  rcases zCS (Xb 262145) (fun u s b w hu hs hb hd=>Xd 262145 [u] [s] 0 b w (fun x hx=>by obtain rfl:x=u:=(by simpa using hx);exact⟨hu,hs⟩) (by omega) (by omega) hb) us m s.args 0 h2 h1.1 h1.2 with h5 |h5
  ·exact h5.2.1
  ·exact absurd h3 h5.1
theorem qV{N:Int->List UInt8->Int->Nat->Prop}(hv:∀ n i i' z,N 5 n i z->N 5 n i' z)(h0:N 0 [] 0 0){m:Tm}{s:Sm}{us:List Tm}(hm:x8 N m)(hu:xr N us):x8 N (Z3 m s us):=by
  unfold Z3
  split
  ·exact zJk hv h0 262145 m s.args us 0 hm hu
  ·exact yD h0
theorem zEY{n:Int}:∀(_:List UInt8)(i i':Int)(z:Nat),((5:Int)=6->i<n)/\z<=200->((5:Int)=6->i'<n)/\z<=200:=fun _ _ _ _ h=>⟨fun e=>absurd e (by decide),h.2⟩
theorem zCz{n:Int}:((0:Int)=6->(0:Int)<n)/\0<=200:=⟨fun e=>absurd e (by decide),by decide⟩
inductive Pw{α β:Type}(P:α->β->Prop):List α->List β->Prop
  |nil:Pw P [] []
  |cons {a b l m} (h:P a b) (t:Pw P l m):Pw P (a :: l) (b :: m)
theorem Q2(g:Int->Int->List Tm->Nat->Option xU)(P:Tm->Tm->Prop)(l:List Tm)(h:∀ t∈l,∀ c,(Zm g t c).e=0->P t (Zm g t c).t):∀ c,(yx g l c).e=0->Pw P l (yx g l c).ts:=by
  induction l with
  |nil=>intro c _;rw[qh];exact .nil
  |cons t ts ih=>
   intro c h0
   rw[zAe]at h0 ⊢
   by_cases h1:(Zm g t c).e=0
   ·rw[if_pos h1]at h0 ⊢
    by_cases h2:(yx g ts (Zm g t c).w).e=0
    ·rw[if_pos h2]
     exact .cons (h t (by simp) c h1) (ih (fun t ht=>h t (by simp[ht])) _ h2)
    ·rw[if_neg h2]at h0;exact absurd h0 h2
   ·rw[if_neg h1]at h0;exact absurd h0 h1
theorem zJ0(g:Int->Int->List Tm->Nat->Option xU)(l:List Tm)(h:∀ t∈l,∀ c,c<=(Zm g t c).w):∀ c,c<=(yx g l c).w:=by
  have key:∀(l:List Tm),(∀ t∈l,∀ c,c<=(Zm g t c).w)->∀ j c,c<=(yy (fun _ t c=>Zm g t c) 0 0 j l c).w:=by
    intro l
    induction l with
    |nil=>intro _ j c;rw[yy];exact Nat.le_refl _
    |cons t ts ih=>
     intro h j c
     have h1:=h t (by simp) c
     have h2:=ih (fun t ht=>h t (by simp[ht])) (j+1) (Zm g t c).w
     rw[yy]
     split
     ·split
      ·exact Nat.le_trans h1 h2
      ·exact Nat.le_trans h1 h2
     ·exact h1
  intro c
  rw[XW g _ 0]
  exact key l h 0 c
theorem zJd(g:Int->Int->List Tm->Nat->Option xU)(hg:∀ k i us c r,g k i us c=some r->c<=r.w)(t:Tm):∀ c,c<=(Zm g t c).w:=by
  induction t using ind with
  |h k n i l ih=>
   intro c
   have h1:=zJ0 g l ih c
   rw[Z0]
   split
   ·cases hq:g k i (yx g l c).ts (yx g l c).w with
    |none=>show c<=(ZU _ _).w;rw[Xv];exact h1
    |some r=>exact Nat.le_trans h1 (hg _ _ _ _ _ hq)
   ·exact h1
theorem zHQ(l:List Mv)(n:Nat):∀ t c,c<=(xe l n t c).w:=by
  induction n with
  |zero=>intro t c;exact Nat.le_succ c
  |succ n ih=>
   intro t c
   rw[xC]
   refine zJd _ (fun k i us c r h=>?_) t c
   unfold XD at h
   obtain⟨m,_,rfl⟩:=Option.map_eq_some_iff.1 h
   split
   ·exact Nat.le_succ c
   ·split
    ·exact Nat.le_succ c
    ·exact Nat.le_trans (Nat.le_succ c) (ih _ _)
theorem qk(l:List Mv)(n:Nat):∀ t c,(xe l n t c).e≠0->(xe l n t c).t=zT:=by
  induction n with
  |zero=>intro t c _;rfl
  |succ n ih=>
   intro t c h
   rw[xC]at h ⊢
   cases t with
   |mk k nm i ts=>
    rw[Z0]at h ⊢
    split
    ·rename_i h0
     rw[if_pos h0]at h
     cases hq:XD l (xe l n) k i (yx (XD l (xe l n)) ts c).ts (yx (XD l (xe l n)) ts c).w with
     |none=>
      rw[hq]at h
      show(ZU _ _).t=_
      have h:(ZU (mk k nm i (yx (XD l (xe l n)) ts c).ts) (yx (XD l (xe l n)) ts c).w).e≠0:=h
      unfold ZU at h ⊢
      split
      ·rename_i h1;rw[if_pos h1]at h;exact absurd rfl h
      ·rfl
     |some r=>
      rw[hq]at h
      show r.t=_
      have h:r.e≠0:=h
      unfold XD at hq
      obtain⟨m,_,rfl⟩:=Option.map_eq_some_iff.1 hq
      split
      ·rfl
      ·rename_i h1
       rw[if_neg h1]at h
       split
       ·rfl
       ·rename_i h2
        rw[if_neg h2]at h
        exact ih _ _ h
    ·rfl
theorem zBt(l:List Mv)(n:Nat):∀ t c,(xe l n t c).e=0->(xe l n t c).t.small=true:=by
  induction n with
  |zero=>intro t c h;simp[xe]at h
  |succ n ih=>
   intro t c h
   rw[xC]at h ⊢
   cases t with
   |mk k nm i ts=>
    rw[Z0]at h ⊢
    split
    ·rename_i h0
     rw[if_pos h0]at h
     cases hq:XD l (xe l n) k i (yx (XD l (xe l n)) ts c).ts (yx (XD l (xe l n)) ts c).w with
     |none=>rw[hq]at h;exact Xa _ _ h
     |some r=>
      rw[hq]at h
      show r.t.small=_
      have h:r.e=0:=h
      unfold XD at hq
      obtain⟨m,_,rfl⟩:=Option.map_eq_some_iff.1 hq
      split
      ·rename_i h1;rw[if_pos h1]at h;simp at h
      ·rename_i h1
       rw[if_neg h1]at h
       split
       ·rename_i h2;rw[if_pos h2]at h;exact absurd h h2
       ·rename_i h2
        rw[if_neg h2]at h
        exact ih _ _ h
    ·rename_i h0;rw[if_neg h0]at h;exact absurd h h0
theorem zIy{N:Int->List UInt8->Int->Nat->Prop}(h0:N 0 [] 0 0)(g:Int->Int->List Tm->Nat->Option xU)(hg:∀ k i us c r,xr N us->g k i us c=some r->x8 N r.t)(t:Tm):x8 N t->∀ c,x8 N (Zm g t c).t:=by
  induction t using ind with
  |h k n i l ih=>
   intro ht c
   rw[yk]at ht
   rw[Z0]
   split
   ·rename_i he
    have hA:xr N (yx g l c).ts:=by
      rw[yQ]
      have hF:=Q2 g (fun _ r=>x8 N r) l (fun t h c _=>ih t h ((yQ l).1 ht.2 t h) c) c he
      generalize (yx g l c).ts=us at hF
      clear he ih ht
      induction hF with
      |nil=>simp
      |cons h1 _ ih=>intro u hu;rcases List.mem_cons.1 hu with rfl |hu;(exact h1);exact ih u hu
    cases hq:g k i (yx g l c).ts (yx g l c).w with
    |none=>exact qP h0 ((yk _ _ _ _).2 ⟨by rw[zEZ g l c he];exact ht.1,hA⟩)
    |some r=>exact hg _ _ _ _ _ hA hq
   ·exact yD h0
theorem zFc{N:Int->List UInt8->Int->Nat->Prop}(hv:∀ n i i' z,N 5 n i z->N 5 n i' z)(h0:N 0 [] 0 0)(l:List Mv)(hl:∀ m∈l,∀ v∈m.value,x8 N v)(n:Nat):∀ t c,x8 N t->x8 N (xe l n t c).t:=by
  induction n with
  |zero=>intro t c _;exact yD h0
  |succ n ih=>
   intro t c ht
   rw[xC]
   refine zIy h0 _ (fun k i us c r hus h=>?_) t ht c
   unfold XD at h
   obtain⟨m,hm,rfl⟩:=Option.map_eq_some_iff.1 h
   obtain⟨_,_,_,_,hml,hmv⟩:=YL hm
   split
   ·exact yD h0
   ·split
    ·exact yD h0
    ·refine ih _ _ (qV hv h0 ?_ hus)
     match hv':m.value,hmv with
     |v :: r,_=>exact hl m hml v (by rw[hv'];simp)
end
section
open Tm
theorem zJX{t:Tm}{w:Nat}(h:(ZU t w).e=0):(ZU t w).t=t:=by
  unfold ZU at h ⊢
  split
  ·rfl
  ·rename_i h1;rw[if_neg h1]at h;simp at h
def Kp(t r:Tm):Prop:=(t.isObj=true->r.isObj=true)/\(t.zW=true->r.zW=true)/\(t.zZ=true->r.zZ=true)
theorem zJg{l us:List Tm}(h:Pw Kp l us):zY l=true->zY us=true:=by
  induction h with
  |nil=>exact fun h=>h
  |cons h1 _ ih=>intro h;rw[zY,Bool.and_eq_true]at h ⊢;exact⟨h1.1 h.1,ih h.2⟩
theorem zJj{l us:List Tm}(h:Pw Kp l us):yq l=true->yq us=true:=by
  induction h with
  |nil=>exact fun h=>h
  |cons h1 _ ih=>intro h;rw[yq,Bool.and_eq_true]at h ⊢;exact⟨h1.2.1 h.1,ih h.2⟩
theorem zJR{l us:List Tm}(h:Pw Kp l us):us.length=l.length:=by
  induction h with
  |nil=>rfl
  |cons _ _ ih=>simp[ih]
theorem zIb{k i:Int}{n:List UInt8}{l us:List Tm}(h:Pw Kp l us):Kp (mk k n i l) (mk k n i us):=by
  have hl:=zJR h
  have ho:=zJg h
  have ht:=zJj h
  refine⟨fun e=>?_,fun e=>?_,fun e=>?_⟩
  ·rw[isObj]at e ⊢
   unfold bound at e ⊢
   rw[hl]
   split at e
   ·rename_i hk;rw[if_pos hk];rw[Bool.and_eq_true]at e ⊢;exact⟨e.1,ho e.2⟩
   ·rename_i hk
    rw[if_neg hk]
    split at e
    ·rename_i hk;rw[if_pos hk];rw[Bool.and_eq_true]at e ⊢;exact⟨e.1,ho e.2⟩
    ·rename_i hk
     rw[if_neg hk]
     split at e
     ·rename_i hk;rw[if_pos hk];rw[Bool.and_eq_true]at e ⊢;exact⟨e.1,ho e.2⟩
     ·rename_i hk
      rw[if_neg hk]
      split at e
      ·rename_i hk;rw[if_pos hk];rw[Bool.and_eq_true]at e ⊢;exact⟨e.1,ho e.2⟩
      ·cases e
  ·rw[zW,isAtom]at e ⊢
   unfold bound at e ⊢
   rw[hl]
   simp only[Bool.or_eq_true,Bool.and_eq_true]at e ⊢
   rcases e with e |e
   ·exact .inl ⟨e.1,e.2.1,ho e.2.2⟩
   ·exact .inr ⟨e.1,e.2.1,ht e.2.2⟩
  ·unfold zZ at e
   split at e
   ·rename_i heq
    cases heq
    cases h with
    |cons h1 h2=>
     cases h2 with
     |cons h3 h4=>
      cases h4
      rw[zZ]
      unfold bound at e ⊢
      simp only[Bool.and_eq_true]at e ⊢
      exact⟨e.1,e.2.1,h1.2.1 e.2.2.1,h3.2.2 e.2.2.2⟩
   ·rename_i heq
    cases heq
    simp only[Bool.and_eq_true,List.isEmpty_iff]at e
    obtain⟨h1,h2,h3,h4⟩:=e
    subst h4
    cases h
    rw[zZ]
    ·simp[h1,h2,h3]
    ·intro a b hab;cases hab
theorem zIx{n:List UInt8}{i:Int}{l:List Tm}{r:Tm}(h:r.isObj=true):Kp (mk 6 n i l) r:=by
  refine⟨fun _=>h,fun e=>?_,fun e=>?_⟩
  ·rw[zW,isAtom]at e;simp at e
  ·unfold zZ at e
   split at e
   ·rename_i heq;cases heq;simp at e
   ·rename_i heq;cases heq;simp at e
theorem zJr(g:Int->Int->List Tm->Nat->Option xU)(hg:∀ k i us c r,g k i us c=some r->r.e=0->k=6/\r.t.isObj=true)(t:Tm):∀ c,(Zm g t c).e=0->Kp t (Zm g t c).t:=by
  induction t using ind with
  |h k n i l ih=>
   intro c h
   rw[Z0]at h ⊢
   split
   ·rename_i he
    rw[if_pos he]at h
    have hF:=Q2 g Kp l ih c he
    cases hq:g k i (yx g l c).ts (yx g l c).w with
    |none=>
     rw[hq]at h
     show Kp _ (ZU _ _).t
     have h:(ZU (mk k n i (yx g l c).ts) (yx g l c).w).e=0:=h
     rw[zJX h]
     exact zIb hF
    |some r=>
     rw[hq]at h
     obtain⟨rfl,h2⟩:=hg _ _ _ _ _ hq h
     exact zIx h2
   ·rename_i he;rw[if_neg he]at h;exact absurd h he
theorem zCv(l:List Mv)(n:Nat):∀ t c,(xe l n t c).e=0->Kp t (xe l n t c).t:=by
  induction n with
  |zero=>intro t c h;simp[xe]at h
  |succ n ih=>
   intro t c h
   rw[xC]at h ⊢
   refine zJr _ (fun k i us c r hr h0=>?_) t c h
   unfold XD at hr
   obtain⟨m,hm,rfl⟩:=Option.map_eq_some_iff.1 hr
   refine⟨(YL hm).1,?_⟩
   split at h0
   ·simp at h0
   ·rename_i h1
    rw[if_neg h1]
    split at h0
    ·rename_i h2;exact absurd h0 h2
    ·rename_i h2
     rw[if_neg h2]
     exact(ih _ _ h0).1 (qR (by simpa using h2)).1
theorem zCj(l:List Mv)(n:Nat)(t:Tm)(c:Nat)(ht:t.wf=0)(h:(xe l n t c).e=0):(xe l n t c).t.wf=0:=by
  obtain⟨h1,h2,h3⟩:=zCv l n t c h
  have hs:=zBt l n t c h
  unfold wf
  rw[hs]
  rcases(yr ht).1 with h4 |h4 |h4
  ·rw[h1 h4];rfl
  ·rw[h2 h4];simp
  ·rw[h3 h4];simp
theorem zIX(g:Int->Int->List Tm->Nat->Option xU)(N:Nat)(hg:∀ k i us c r,g k i us c=some r->c<=N->r.e=0->r.w<=N)(t:Tm):∀ c,c<=N->(Zm g t c).e=0->(Zm g t c).w<=N:=by
  induction t using ind with
  |h k n i l ih=>
   intro c hc h
   have key:∀(us:List Tm),(∀ t∈us,t∈l)->∀ c,c<=N->(yx g us c).e=0->(yx g us c).w<=N:=by
     intro us
     induction us with
     |nil=>intro _ c hc _;rw[qh];exact hc
     |cons t ts ih2=>
      intro hm c hc h
      rw[zAe]at h ⊢
      split
      ·rename_i h1
       rw[if_pos h1]at h
       split
       ·rename_i h2
        exact ih2 (fun t ht=>hm t (by simp[ht])) _ (ih t (hm t (by simp)) c hc h1) h2
       ·rename_i h2;rw[if_neg h2]at h;exact absurd h h2
      ·rename_i h1;rw[if_neg h1]at h;exact absurd h h1
   rw[Z0]at h ⊢
   split
   ·rename_i he
    rw[if_pos he]at h
    have h1:=key l (fun _ h=>h) c hc he
    cases hq:g k i (yx g l c).ts (yx g l c).w with
    |none=>show(ZU _ _).w<=N;rw[Xv];exact h1
    |some r=>rw[hq]at h;exact hg _ _ _ _ _ hq h1 h
   ·rename_i he;rw[if_neg he]at h;exact absurd h he
theorem zFS(l:List Mv)(n:Nat):∀ t c,c<=16384->(xe l n t c).e=0->(xe l n t c).w<=16384:=by
  induction n with
  |zero=>intro t c _ h;simp[xe]at h
  |succ n ih=>
   intro t
   rw[xC]
   refine zIX _ 16384 (fun k i us c r hr hc h0=>?_) t
   unfold XD at hr
   obtain⟨m,hm,rfl⟩:=Option.map_eq_some_iff.1 hr
   split at h0
   ·simp at h0
   ·rename_i h1
    split at h0
    ·rename_i h2;exact absurd h0 h2
    ·rename_i h2
     rw[if_neg h1,if_neg h2]
     exact ih _ _ (by omega) h0
theorem zFq{l:List Mv}{k i:Int}(h:k≠6):slv l k i=none:=by unfold slv;rw[if_neg (fun e=>h e.1)]
theorem zF1{k i:Int}{n:List UInt8}{l:List Tm}(h:(mk k n i l).small=true):∀ u∈l,u.small=true:=by
  intro u hu
  unfold small at h ⊢
  rw[Bool.and_eq_true,decide_eq_true_eq,decide_eq_true_eq]at h ⊢
  rw[zS,yY]at h
  have:=zR hu
  have:=yA hu
  exact⟨by omega,by omega⟩
end
section
open Tm Go.Proofs.YthgmimncdjhgnaaGreatDoor
def yc(l:List Mv)(t:Tm):Int:=if t.wf≠0 then t.wf else if(Tm.zJ t).any (fun i=>decide ((l.length:Int)<=i))=true then 3 else(xe l 16385 t 0).e
def zj(l:List Mv)(t:Tm):Tm:=if yc l t=0 then(xe l 16385 t 0).t else zT
theorem QC(t:Tm)(h:t.wf=0)(i:Int):i∈Tm.zJ t↔∃ x∈nodes 0 t,x.k=6/\x.i=i:=by
  unfold Tm.zJ Tm.YF
  rw[if_pos (by simp[h]),<-X9 t 0 []]
  have key:∀(xs:List Nd0)(acc:List Int),i∈xs.foldl yW acc↔i∈acc\/∃ x∈xs,x.k=6/\x.i=i:=by
    intro xs
    induction xs with
    |nil=>intro acc;simp
    |cons x xs ih=>
     intro acc
     rw[List.foldl_cons,ih]
     have hs:i∈yW acc x↔i∈acc\/(x.k=6/\x.i=i):=by
       unfold yW
       split
       ·rename_i hc
        simp only[Bool.and_eq_true,beq_iff_eq]at hc
        rw[List.mem_append,List.mem_singleton]
        exact⟨fun h=>h.imp id (fun h=>⟨hc.1,h.symm⟩),fun h=>h.imp id (fun h=>h.2.symm)⟩
       ·rename_i hc
        refine⟨.inl,fun h=>h.elim id (fun h=>?_)⟩
        obtain⟨h1,rfl⟩:=h
        simpa[h1]using hc
     rw[hs]
     constructor
     ·rintro((h |h)|⟨y,hy,h⟩)
      ·exact .inl h
      ·exact .inr ⟨x,by simp,h⟩
      ·exact .inr ⟨y,by simp[hy],h⟩
     ·rintro(h |⟨y,hy,h⟩)
      ·exact .inl (.inl h)
      ·rcases List.mem_cons.1 hy with rfl |hy
       ·exact .inl (.inr h)
       ·exact .inr ⟨y,hy,h⟩
  rw[key]
  simp
theorem zB7(t:Tm)(h:¬t.wf=0):Tm.zJ t=[]:=by
  unfold Tm.zJ
  rw[if_neg (by simpa using h)]
theorem yS{N:Int->Prop}(t:Tm)(h:t.wf=0):x8 (fun k _ i _=>k=6->N i) t↔∀ i∈Tm.zJ t,N i:=by
  rw[zGJ (M:=fun k _ i=>k=6->N i) t 0]
  constructor
  ·intro hn i hi
   obtain⟨x,hx,h6,rfl⟩:=(QC t h i).1 hi
   exact hn x hx h6
  ·intro hn x hx h6
   exact hn _ ((QC t h _).2 ⟨x,hx,h6,rfl⟩)
theorem qn{N M:Int->List UInt8->Int->Nat->Prop}(t:Tm):x8 N t->x8 M t->x8 (fun k n i z=>N k n i z/\M k n i z) t:=by
  induction t using ind with
  |h k n i l ih=>
   intro h1 h2
   rw[yk,yQ]at h1 h2 ⊢
   exact⟨⟨h1.1,h2.1⟩,fun u hu=>ih u hu (h1.2 u hu) (h2.2 u hu)⟩
theorem zDs{n:Int}(t:Tm)(h:t.wf=0)(hs:t.size<=200)(hm:∀ i∈Tm.zJ t,i<n):Kn n t:=qn t ((yS t h).2 hm) (zAY t hs)
theorem Y1{n:Int}{t:Tm}(hm:Kn n t):∀ i∈Tm.zJ t,i<n:=by
  intro i hi
  by_cases h:t.wf=0
  ·exact(yS (N:=fun i=>i<n) t h).1 (zIe (fun _ _ _ _ h=>h.1) t hm) i hi
  ·rw[zB7 t h]at hi;cases hi
theorem ZX{t:Tm}:∀ i∈Tm.zJ t,0<=i/\i<2048:=by
  intro i hi
  by_cases h:t.wf=0
  ·obtain⟨x,hx,h6,rfl⟩:=(QC t h i).1 hi
   exact((zB2 t h).1 0 x hx).2.1 (by simp[h6])
  ·rw[zB7 t h]at hi;cases hi
structure Ord where
  o:List Int
  e:Int
def typeOf(l:List Mv)(i:Int):Tm:=match l[i.toNat]? with |some m=>m.type |none=>zT
def yU(l:List Mv)(f:List Int->Ord->Ord):List Int->Ord->Ord
  | [],s=>s
  |m :: ms,s=>
   if s.e≠0 then s else if s.o.contains m=true then yU l f ms s else
   if yc l (typeOf l m)≠0 then⟨s.o,yc l (typeOf l m)⟩else
   if(f (Tm.zJ (zj l (typeOf l m))) s).e=0 then yU l f ms ⟨(f (Tm.zJ (zj l (typeOf l m))) s).o++[m],0⟩else f (Tm.zJ (zj l (typeOf l m))) s
def Yr(l:List Mv):Nat->List Int->Ord->Ord
  |0=>yU l (fun _ s=>s)
  |d+1=>yU l (Yr l d)
theorem Yu(l:List Mv)(f:List Int->Ord->Ord)(ms:List Int)(s:Ord)(h:s.e≠0):yU l f ms s=s:=by
  cases ms with
  |nil=>rfl
  |cons m ms=>rw[yU,if_pos h]
theorem XN(l:List Mv)(f:List Int->Ord->Ord)(a b:List Int):∀ s,yU l f (a++b) s=yU l f b (yU l f a s):=by
  induction a with
  |nil=>intro s;rfl
  |cons m ms ih=>
   intro s
   rw[List.cons_append,yU,yU]
   by_cases h0:s.e≠0
   ·rw[if_pos h0,if_pos h0,Yu l f b s h0]
   rw[if_neg h0,if_neg h0]
   by_cases h1:s.o.contains m=true
   ·rw[if_pos h1,if_pos h1,ih]
   rw[if_neg h1,if_neg h1]
   by_cases h2:yc l (typeOf l m)≠0
   ·rw[if_pos h2,if_pos h2,Yu l f b _ h2]
   rw[if_neg h2,if_neg h2]
   by_cases h3:(f (Tm.zJ (zj l (typeOf l m))) s).e=0
   ·rw[if_pos h3,if_pos h3,ih]
   ·rw[if_neg h3,if_neg h3,Yu l f b _ h3]
theorem XH(l:List Mv)(f:List Int->Ord->Ord)(m:Int)(s:Ord):yU l f [m] s=
    if s.e≠0 then s else if s.o.contains m=true then s else
    if yc l (typeOf l m)≠0 then⟨s.o,yc l (typeOf l m)⟩else
    if(f (Tm.zJ (zj l (typeOf l m))) s).e=0 then⟨(f (Tm.zJ (zj l (typeOf l m))) s).o++[m],0⟩else f (Tm.zJ (zj l (typeOf l m))) s:=by
  rw[yU,yU,yU]
theorem XJ(l:List Mv)(f:List Int->Ord->Ord)(ms:List Int)(j:Nat)(h:j<ms.length)(s:Ord):yU l f (ms.take (j+1)) s=yU l f [ms[j]] (yU l f (ms.take j) s):=by
  rw[List.take_succ_eq_append_getElem h,XN]
theorem zBv(l:List Mv)(f:List Int->Ord->Ord)(ms:List Int)(j:Nat)(s:Ord)(h:(yU l f (ms.take j) s).e≠0):yU l f ms s=yU l f (ms.take j) s:=by
  conv=>lhs;rw[<-List.take_append_drop j ms]
  rw[XN,Yu _ _ _ _ h]
theorem zFV(l:List Mv)(d:Nat):∃ f,Yr l d=yU l f:=by
  cases d with
  |zero=>exact⟨_,rfl⟩
  |succ d=>exact⟨_,rfl⟩
def ZN(l:List Mv)(d:Nat):List Tm->Ord->Ord
  | [],s=>s
  |t :: ts,s=>ZN l d ts (Yr l d (Tm.zJ t) s)
theorem QQ(l:List Mv)(d:Nat)(ts:List Tm):∀ s,ZN l d ts s=Yr l d (ts.flatMap Tm.zJ) s:=by
  obtain⟨f,hf⟩:=zFV l d
  induction ts with
  |nil=>intro s;rw[hf];rfl
  |cons t ts ih=>intro s;rw[ZN,ih,hf,List.flatMap_cons,XN]
end
section
open Tm Go.Proofs.YthgmimncdjhgnaaGreatDoor
def Acy(l:List Mv):Prop:=∀ i:Int,i<l.length->∀ j∈zf l i,¬Zc l j i
open Classical in
noncomputable def rk (l:List Mv) (i:Int):Nat:=((List.range l.length).filter (fun j:Nat=>decide (Zc l i (j:Int)))).length
theorem zKY(l:List Mv)(i:Int):rk l i<=l.length:=by
  unfold rk
  refine Nat.le_trans (List.length_filter_le _ _) ?_
  simp
theorem zJC{l:List Mv}(hA:Acy l){i j:Int}(h0:0<=i)(hi:i<l.length)(hj:j∈zf l i)(_hn:¬j<l.length\/True):rk l j<rk l i:=by
  classical
  unfold rk
  have e:∀ k:Nat,Zc l j (k:Int)->Zc l i (k:Int):=fun k h=>.step hi hj h
  rw[show(List.range l.length).filter (fun k:Nat=>decide (Zc l j (k:Int)))=((List.range l.length).filter (fun k:Nat=>decide (Zc l i (k:Int)))).filter (fun k:Nat=>decide (Zc l j (k:Int))) by
    rw[List.filter_filter]
    refine List.filter_congr (fun k _=>?_)
    rw[Bool.eq_iff_iff]
    simp only[decide_eq_true_eq,Bool.and_eq_true]
    exact⟨fun h=>⟨h,e k h⟩,fun h=>h.1⟩]
  rw[List.length_filter_lt_length_iff_exists]
  refine⟨i.toNat,?_,?_⟩
  ·rw[List.mem_filter]
   refine⟨List.mem_range.2 (by omega),?_⟩
   simp only[decide_eq_true_eq]
   rw[show((i.toNat:Nat):Int)=i by omega]
   exact .refl hi
  ·simp only[decide_eq_true_eq]
   rw[show((i.toNat:Nat):Int)=i by omega]
   exact hA i hi j hj
theorem zAR{l:List Mv}{i:Int}(h0:0<=i)(hi:i<l.length):∃ m∈l,l[i.toNat]? =some m/\typeOf l i=m.type:=by
  have h:i.toNat<l.length:=by omega
  refine⟨l[i.toNat],List.getElem_mem h,List.getElem?_eq_getElem h,?_⟩
  unfold typeOf
  rw[List.getElem?_eq_getElem h]
theorem zFP(l:List Mv)(n:Nat)(t:Tm)(S:Int->Prop)(hc:∀ i,S i->∀ j∈zf l i,S j)(ht:∀ i∈Tm.zJ t,S i)(hw:t.wf=0)(hv:∀ m∈l,∀ v∈m.value,v.wf=0)(c:Nat)(h:(xe l n t c).e=0):∀ i∈Tm.zJ (xe l n t c).t,S i:=by
  have hN:x8 (fun k _ i _=>k=6->S i) t:=(yS t hw).2 ht
  have hw':=zCj l n t c hw h
  rw[<-yS (N:=S) _ hw']
  revert h hw'
  clear hw ht
  induction n generalizing t c with
  |zero=>intro h;simp[xe]at h
  |succ n ih=>
   intro h _
   rw[xC]at h ⊢
   have key:∀(t:Tm),x8 (fun k _ i _=>k=6->S i) t->∀ c,(Zm (XD l (xe l n)) t c).e=0->x8 (fun k _ i _=>k=6->S i) (Zm (XD l (xe l n)) t c).t:=by
     intro t
     induction t using ind with
     |h k nm i ts ih2=>
      intro ht c h
      rw[yk,yQ]at ht
      rw[Z0]at h ⊢
      split
      ·rename_i he
       rw[if_pos he]at h
       have hA:xr (fun k _ i _=>k=6->S i) (yx (XD l (xe l n)) ts c).ts:=by
         rw[yQ]
         have hF:=Q2 (XD l (xe l n)) (fun t r=>x8 (fun k _ i _=>k=6->S i) t->x8 (fun k _ i _=>k=6->S i) r) ts (fun t h c he ht=>ih2 t h ht c he) c he
         generalize (yx (XD l (xe l n)) ts c).ts=us at hF
         have h2:=ht.2
         clear he h ih2 ht
         induction hF with
         |nil=>simp
         |cons h1 _ ih3=>
          intro u hu
          rcases List.mem_cons.1 hu with rfl |hu
          ·exact h1 (h2 _ (by simp))
          ·exact ih3 (fun a ha=>h2 a (by simp[ha])) u hu
       cases hs:slv l k i with
       |none=>
        rw[zAa hs]
        exact qP (fun e=>absurd e (by decide)) ((yk _ _ _ _).2 ⟨ht.1,hA⟩)
       |some m=>
        rw[zAp hs]at h ⊢
        have h:(exR l n m (yx (XD l (xe l n)) ts c).ts (yx (XD l (xe l n)) ts c).w).e=0:=h
        show x8 _ (exR l n m _ _).t
        unfold exR at h ⊢
        split
        ·rename_i h1;rw[if_pos h1]at h;simp at h
        ·rename_i h1
         rw[if_neg h1]at h
         split
         ·rename_i h2;rw[if_pos h2]at h;exact absurd h h2
         ·rename_i h2
          rw[if_neg h2]at h
          obtain⟨h6,h0,hl,hm,hml,hmv⟩:=YL hs
          have ho:=qR (Decidable.not_not.1 h2)
          refine ih _ _ ?_ h (zCj l n _ _ (ZT ho.1 ho.2) h)
          refine qV (fun _ _ _ _ h e=>absurd e (by decide)) (fun e=>absurd e (by decide)) ?_ hA
          match hv':m.value,hmv with
          |v :: r,_=>
           show x8 _ v
           have hvm:v∈m.value:=by rw[hv'];simp
           rw[yS v (hv m hml v hvm)]
           intro j hj
           refine hc i (ht.1 h6) j ?_
           unfold zf
           rw[if_pos h0,hm]
           show j∈xP m
           unfold xP
           exact List.mem_append.2 (.inr (List.mem_flatMap.2 ⟨v,hvm,hj⟩))
      ·exact yD (fun e=>absurd e (by decide))
   exact key t hN c h
theorem zG2{l:List Mv}(hA:Acy l)(hG:StG l)(hT:∀ m∈l,m.type.wf=0)(hV:∀ m∈l,∀ v∈m.value,v.wf=0){i:Int}(h0:0<=i)(hi:i<l.length)(he:yc l (typeOf l i)=0):∀ j∈Tm.zJ (zj l (typeOf l i)),j<l.length/\rk l j<rk l i:=by
  obtain⟨m,hm,hmi,ht⟩:=zAR h0 hi
  have hs:∀ j∈Tm.zJ m.type,j∈zf l i:=by
    intro j hj
    unfold zf
    rw[if_pos h0,hmi]
    exact List.mem_append.2 (.inl hj)
  have he2:=he
  unfold yc at he2
  rw[ht,if_neg (by rw[hT m hm];simp)]at he2
  split at he2
  ·omega
  intro j hj
  have e1:zj l (typeOf l i)=(xe l 16385 m.type 0).t:=by unfold zj;rw[if_pos he,ht]
  rw[e1]at hj
  refine zFP l 16385 m.type (fun j=>j<l.length/\rk l j<rk l i) ?_ ?_ (hT m hm) hV 0 he2 j hj
  ·rintro k ⟨hk,hr⟩ j hj
   by_cases h:0<=k
   ·have h1:=zJC hA h hk hj (.inr trivial)
    refine⟨?_,by omega⟩
    unfold zf at hj
    rw[if_pos h,List.getElem?_eq_getElem (by omega)]at hj
    have hg:=hG.mv _ (List.getElem_mem (show k.toNat<l.length by omega))
    rcases List.mem_append.1 hj with hj |hj
    ·exact Y1 hg.kn.1 j hj
    ·obtain⟨v,hv,hj⟩:=List.mem_flatMap.1 hj
     exact Y1 (hg.kn.2 v hv) j hj
   ·unfold zf at hj
    rw[if_neg h]at hj
    cases hj
  ·intro j hj
   exact⟨Y1 (hG.mv m hm).kn.1 j hj,zJC hA h0 hi (hs j hj) (.inr trivial)⟩
end
section
open Tm Go.Proofs.YthgmimncdjhgnaaGreatDoor
open Classical in
noncomputable def xG (l:List Mv) (is:List Int) (i:Int):Bool:=decide (∃ x∈is,Zc l x i)
noncomputable def xu (l:List Mv) (i:Int) (m:Tm):Int:=
  if ¬(0<=i/\i<l.length)then 3 else if(match l[i.toNat]? with |some v=>v.value |none=>[])≠[]then 53 else if yK m l.length≠0 then yK m l.length else if xG l (Tm.zJ m) i=true then 51 else 0
def X3(l:List Mv)(i:Int)(m:Tm):List Mv:=match l[i.toNat]? with |some v=>l.set i.toNat ⟨v.name,v.type,[m]⟩|none=>l
noncomputable def ZK (l:List Mv) (i:Int) (m:Tm):List Mv:=if xu l i m≠0 then l else X3 l i m
def mvE(n:Nat)(i:Nat)(m:Mv):Int:=if yM i m.name m.type≠0 then yM i m.name m.type else if 1<m.value.length then 7 else zu (fun v=>yK v n) m.value
def Z2(n:Nat):Nat->List Mv->Int×Int
  |i,[]=>(i,0)
  |i,m :: ms=>if mvE n i m≠0 then(i,mvE n i m)else Z2 n (i+1) ms
open Classical in
noncomputable def zAi (l:List Mv):Nat->Nat->Int×Int
  |i,0=>(i,0)
  |i,k+1=>if ∃ j∈zf l i,Zc l j i then((i:Int),51)else zAi l (i+1) k
noncomputable def XA (l:List Mv):Int×Int:=if(Z2 l.length 0 l).2≠0 then Z2 l.length 0 l else zAi l 0 l.length
structure ZD(l:List Mv):Prop where
  len:l.length<=40
  ok:∀ i(h:i<l.length),yM i l[i].name l[i].type=0
  val:∀ m∈l,m.value.length<=1/\∀ v∈m.value,yK v l.length=0
  ar:∀ m∈l,m.type.size<=200/\∀ v∈m.value,v.size<=200
  acy:Acy l
structure Zw(l:List Mv):Prop where
  len:l.length<=40
  ok:∀ i(h:i<l.length),yM i l[i].name l[i].type=0
  val:∀ m∈l,m.value.length<=1/\∀ v∈m.value,yK v l.length=0
  kn:∀ m∈l,x8 (fun _ _ _ z=>z<=200) m.type/\∀ v∈m.value,x8 (fun _ _ _ z=>z<=200) v
  acy:Acy l
theorem ZD.plz{l:List Mv}(h:ZD l):Zw l:=⟨h.len,h.ok,h.val,fun m hm=>⟨zAY _ (h.ar m hm).1,fun v hv=>zAY _ ((h.ar m hm).2 v hv)⟩,h.acy⟩
theorem ZM{n:Int}{name:List UInt8}{a:Tm}(h:yM n name a=0):(name=[]\/isName name=true)/\a.wf=0/\a.zW=true/\a.small=true/\a.scope<=0/\(∀ i∈Tm.zJ a,i<n)/\n<2048:=by
  unfold yM at h
  split at h
  ·omega
  rename_i h1
  split at h
  ·rename_i h2;exact absurd h h2
  rename_i h2
  split at h
  ·omega
  rename_i h3
  split at h
  ·omega
  rename_i h4
  split at h
  ·omega
  rename_i h5
  have h2:a.wf=0:=by simpa using h2
  have h3:a.zW=true/\a.small=true:=by simpa using h3
  unfold QB at h4
  rw[h2]at h4
  simp only[Bool.or_eq_true,not_or,decide_eq_true_eq,List.any_eq_true,not_exists,not_and]at h4
  refine⟨?_,h2,h3.1,h3.2,?_,fun i hi=>?_,by omega⟩
  ·by_cases hn:name=[]
   ·exact .inl hn
   ·refine .inr ?_
    cases hb:isName name with
    |true=>rfl
    |false=>exact absurd ⟨hn,hb⟩ h1
  ·have:=h4.1
   rw[if_pos (by rfl)]at this
   omega
  ·have:=h4.2 i hi
   omega
theorem xX{n:Int}{a:Tm}(h:yK a n=0):a.wf=0/\a.isObj=true/\a.small=true/\a.scope<=0/\(∀ i∈Tm.zJ a,i<n):=by
  unfold yK at h
  split at h
  ·rename_i h2;exact absurd h h2
  rename_i h2
  split at h
  ·omega
  rename_i h3
  split at h
  ·omega
  rename_i h4
  have h2:a.wf=0:=by simpa using h2
  have h3:a.isObj=true/\a.small=true:=by simpa using h3
  unfold QB at h4
  rw[h2]at h4
  simp only[Bool.or_eq_true,not_or,decide_eq_true_eq,List.any_eq_true,not_exists,not_and]at h4
  refine⟨h2,h3.1,h3.2,?_,fun i hi=>?_⟩
  ·have:=h4.1
   rw[if_pos (by rfl)]at this
   omega
  ·have:=h4.2 i hi
   omega
theorem zF6{n:Int}{a:Tm}(h1:a.isObj=true)(h2:a.small=true)(h3:a.scope<=0)(h4:∀ i∈Tm.zJ a,i<n):yK a n=0:=by
  have hw:=ZT h1 h2
  unfold yK
  rw[if_neg (by simp[hw]),if_neg (by simp[h1,h2]),if_neg]
  unfold QB
  simp only[hw,Bool.or_eq_true,not_or,decide_eq_true_eq,List.any_eq_true,not_exists,not_and]
  exact⟨by rw[if_pos (by rfl)];omega,fun i hi=>by have:=h4 i hi;omega⟩
theorem Zw.qG{l:List Mv}(h:Zw l):StG l:=by
  refine⟨h.len,fun m hm=>?_⟩
  obtain⟨i,hi,rfl⟩:=List.getElem_of_mem hm
  obtain⟨_,h1,h2,h3,h4,h5,_⟩:=ZM (h.ok i hi)
  obtain⟨h6,h7⟩:=h.val _ hm
  obtain⟨h8,h9⟩:=h.kn _ hm
  refine⟨⟨h2,h3⟩,fun v hv=>?_,h6,qn _ ((yS _ h1).2 (fun j hj=>by have:=h5 j hj;omega)) h8,fun v hv=>?_⟩
  ·obtain⟨_,h10,h11,_⟩:=xX (h7 v hv)
   exact⟨h10,h11⟩
  ·obtain⟨h10,_,_,_,h11⟩:=xX (h7 v hv)
   exact qn _ ((yS _ h10).2 h11) (h9 v hv)
theorem ZD.qG{l:List Mv}(h:ZD l):StG l:=h.plz.qG
theorem Zw.YQ{l:List Mv}(h:Zw l):∀ m∈l,m.type.wf=0:=by
  intro m hm
  obtain⟨i,hi,rfl⟩:=List.getElem_of_mem hm
  exact(ZM (h.ok i hi)).2.1
theorem Zw.zEK{l:List Mv}(h:Zw l):∀ m∈l,∀ v∈m.value,v.wf=0:=fun m hm v hv=>(xX ((h.val m hm).2 v hv)).1
theorem ZD.YQ{l:List Mv}(h:ZD l):∀ m∈l,m.type.wf=0:=h.plz.YQ
theorem ZD.zEK{l:List Mv}(h:ZD l):∀ m∈l,∀ v∈m.value,v.wf=0:=h.plz.zEK
theorem ZD.nil:ZD []:=by
  refine⟨by simp,fun i h=>(by simp at h),fun m h=>(by cases h),fun m h=>(by cases h),fun i h1 j hj=>?_⟩
  unfold zf at hj
  split at hj
  ·simp at hj
  ·cases hj
theorem zAZ{l:List Mv}{i:Nat}(h:i<l.length):zf l (i:Int)=xP l[i]:=by
  unfold zf
  rw[if_pos (by omega),List.getElem?_eq_getElem (by simpa using h)]
  rfl
theorem zFx{l:List Mv}{i:Int}(h:¬0<=i):zf l i=[]:=by unfold zf;rw[if_neg h]
theorem zGS{l:List Mv}{i:Int}(h:¬i<l.length):zf l i=[]:=by
  unfold zf
  split
  ·rw[List.getElem?_eq_none (by omega)]
  ·rfl
theorem qw{l:List Mv}{m:Mv}{i:Int}(h:i<l.length):zf (l++[m]) i=zf l i:=by
  unfold zf
  split
  ·rw[List.getElem?_append_left (by omega)]
  ·rfl
theorem zAr{l:List Mv}{m:Mv}(hk:∀ i:Int,∀ j∈zf l i,j<l.length){i j:Int}(h:Zc (l++[m]) i j):i<l.length->Zc l i j:=by
  induction h with
  |refl _=>intro h;exact .refl h
  |step h hj hk' ih=>
   intro hi
   rw[qw hi]at hj
   exact .step hi hj (ih (hk _ _ hj))
theorem zFg{l:List Mv}(hG:StG l):∀ i:Int,∀ j∈zf l i,j<l.length:=by
  intro i j hj
  unfold zf at hj
  split at hj
  ·split at hj
   ·rename_i m hm
    have hg:=hG.mv m (List.mem_of_getElem? hm)
    rcases List.mem_append.1 hj with hj |hj
    ·exact Y1 hg.kn.1 j hj
    ·obtain⟨v,hv,hj⟩:=List.mem_flatMap.1 hj
     exact Y1 (hg.kn.2 v hv) j hj
   ·cases hj
  ·cases hj
theorem ZD.new{l:List Mv}(h:ZD l){name:List UInt8}{a:Tm}(hl:l.length<40)(ha:a.size<=200):ZD (XI l name a):=by
  unfold XI
  split
  ·exact h
  ·rename_i hc
   have hc:yM l.length name a=0:=by simpa using hc
   obtain⟨_,h1,h2,h3,h4,h5,h6⟩:=ZM hc
   refine⟨by simp;omega,fun i hi=>?_,fun m hm=>?_,fun m hm=>?_,?_⟩
   ·rw[List.length_append,List.length_singleton]at hi
    by_cases e:i<l.length
    ·rw[List.getElem_append_left e];exact h.ok i e
    ·obtain rfl:i=l.length:=by omega
     simpa using hc
   ·rcases List.mem_append.1 hm with hm |hm
    ·obtain⟨h7,h8⟩:=h.val m hm
     refine⟨h7,fun v hv=>?_⟩
     obtain⟨_,e1,e2,e3,e4⟩:=xX (h8 v hv)
     exact zF6 e1 e2 e3 (fun i hi=>by have:=e4 i hi;simp;omega)
    ·obtain rfl:=List.mem_singleton.1 hm
     exact⟨by simp,fun v hv=>by cases hv⟩
   ·rcases List.mem_append.1 hm with hm |hm
    ·exact h.ar m hm
    ·obtain rfl:=List.mem_singleton.1 hm
     exact⟨ha,fun v hv=>by cases hv⟩
   ·intro i hi j hj hr
    have hk:=zFg h.qG
    by_cases e:i<l.length
    ·rw[qw e]at hj
     exact h.acy i e j hj (zAr hk hr (hk _ _ hj))
    ·have hi':i=l.length:=by simp at hi;omega
     subst hi'
     have hj':j∈xP (⟨name,a,[]⟩:Mv):=by
       rw[show((l.length:Nat):Int)=((l.length:Nat):Int)from rfl,zAZ (by simp)]at hj
       simpa using hj
     have hjl:j<l.length:=by
       unfold xP at hj'
       simp only[List.flatMap_nil,List.append_nil]at hj'
       exact h5 j hj'
     have:=(zAr hk hr hjl).lt'
     omega
theorem XT{l:List Mv}{i:Int}{v:Mv}(h:l[i.toNat]? =some v)(m:Tm):X3 l i m=l.set i.toNat ⟨v.name,v.type,[m]⟩:=by unfold X3;rw[h]
theorem yv(l:List Mv)(i:Int)(m:Tm):(X3 l i m).length=l.length:=by unfold X3;split<;>simp
theorem zDv{l:List Mv}{i:Int}{m:Tm}(h:xu l i m=0):(0<=i/\i<l.length)/\(∃ v,l[i.toNat]? =some v/\v.value=[]/\v∈l)/\yK m l.length=0/\∀ x∈Tm.zJ m,¬Zc l x i:=by
  unfold xu at h
  by_cases h1:0<=i/\i<l.length
  case neg=>rw[if_pos h1]at h;omega
  rw[if_neg (by simpa using h1)]at h
  have hi:i.toNat<l.length:=by omega
  rw[List.getElem?_eq_getElem hi]at h
  simp only at h
  by_cases h2:l[i.toNat].value≠[]
  ·rw[if_pos h2]at h;omega
  rw[if_neg h2]at h
  by_cases h3:yK m l.length≠0
  ·rw[if_pos h3]at h;exact absurd h h3
  rw[if_neg h3]at h
  by_cases h4:xG l (Tm.zJ m) i=true
  ·rw[if_pos h4]at h;omega
  refine⟨h1,⟨l[i.toNat],List.getElem?_eq_getElem hi,by simpa using h2,List.getElem_mem _⟩,by simpa using h3,fun x hx hr=>h4 ?_⟩
  unfold xG
  classical
  exact decide_eq_true ⟨x,hx,hr⟩
theorem zHE{l:List Mv}{i:Int}{m:Tm}{v:Mv}(h1:0<=i/\i<l.length)(h2:l[i.toNat]? =some v)(h3:v.value=[])(h4:yK m l.length=0)(h5:∀ x∈Tm.zJ m,¬Zc l x i):xu l i m=0:=by
  unfold xu
  rw[if_neg (by simp[h1]),if_neg (by rw[h2];simp[h3]),if_neg (by simp[h4]),if_neg]
  unfold xG
  classical
  intro h
  obtain⟨x,hx,hr⟩:=of_decide_eq_true h
  exact h5 x hx hr
section
variable {l:List Mv}{i:Int}{m:Tm}{v:Mv} (h0:0<=i) (hi:i<l.length) (hv:l[i.toNat]? =some v) (hn:v.value=[])
include h0 hv in
theorem zBP{k:Int}(hk:k≠i):zf (X3 l i m) k=zf l k:=by
  rw[XT hv]
  unfold zf
  split
  ·rw[List.getElem?_set_ne (by omega)]
  ·rfl
include h0 hi hv hn in
theorem zBm:zf (X3 l i m) i=zf l i++Tm.zJ m:=by
  rw[XT hv]
  unfold zf
  rw[if_pos h0,if_pos h0,List.getElem?_set_self (by omega),hv]
  unfold xP
  simp[hn]
include h0 hi hv hn in
theorem zFh{a b:Int}(h:Zc (X3 l i m) a b):Zc l a b\/(Zc l a i/\∃ x∈Tm.zJ m,Zc (X3 l i m) x b):=by
  induction h with
  |refl h=>exact .inl (.refl (by rw[yv]at h;exact h))
  | @step a j k h hj hr ih=>
    rw[yv]at h
    by_cases e:a=i
    ·subst e
     rw[zBm h0 hi hv hn]at hj
     rcases List.mem_append.1 hj with hj |hj
     ·rcases ih with ih |⟨ih,hx⟩
      ·exact .inl (.step h hj ih)
      ·exact .inr ⟨.refl h,hx⟩
     ·exact .inr ⟨.refl h,j,hj,hr⟩
    ·rw[zBP h0 hv e]at hj
     rcases ih with ih |⟨ih,hx⟩
     ·exact .inl (.step h hj ih)
     ·exact .inr ⟨.step h hj ih,hx⟩
include h0 hi hv hn in
theorem zIl{a b:Int}(h:Zc (X3 l i m) a b):¬Zc l a i->Zc l a b:=by
  intro ha
  rcases zFh h0 hi hv hn h with h |h
  ·exact h
  ·exact absurd h.1 ha
include h0 hi hv hn in
theorem zIG(hA:Acy l)(hm:∀ x∈Tm.zJ m,¬Zc l x i):Acy (X3 l i m):=by
  intro k hk j hj hr
  rw[yv]at hk
  rcases zFh h0 hi hv hn hr with h |⟨h1,x,hx,h2⟩
  ·by_cases e:k=i
   ·subst e
    rw[zBm h0 hi hv hn]at hj
    rcases List.mem_append.1 hj with hj |hj
    ·exact hA k hk j hj h
    ·exact hm j hj h
   ·rw[zBP h0 hv e]at hj
    exact hA k hk j hj h
  ·have h3:=zIl h0 hi hv hn h2 (hm x hx)
   by_cases e:k=i
   ·subst e;exact hm x hx h3
   ·rw[zBP h0 hv e]at hj
    exact hm x hx (h3.trans (.step hk hj h1))
end
theorem ZD.solve{l:List Mv}(h:ZD l){i:Int}{m:Tm}(hm:m.size<=200):ZD (ZK l i m):=by
  unfold ZK
  split
  ·exact h
  ·rename_i hs
   obtain⟨⟨h0,hi⟩,⟨v,hv,hn,hvl⟩,h3,h4⟩:=zDv (by simpa using hs)
   have hmem:∀ u∈X3 l i m,u∈l\/u=⟨v.name,v.type,[m]⟩:=by
     intro u hu
     rw[XT hv]at hu
     exact(List.mem_or_eq_of_mem_set hu)
   refine⟨by rw[yv];exact h.len,fun k hk=>?_,fun u hu=>?_,fun u hu=>?_,zIG h0 hi hv hn h.acy h4⟩
   ·rw[yv]at hk
    have hk2:=h.ok k hk
    have e:(X3 l i m)[k]? =if i.toNat=k then some ⟨v.name,v.type,[m]⟩else l[k]? :=by
      rw[XT hv,List.getElem?_set]
      split
      ·rename_i e;subst e;simp[hk]
      ·rfl
    by_cases e2:i.toNat=k
    ·rw[if_pos e2]at e
     subst e2
     rw[List.getElem?_eq_getElem (by rw[yv];exact hk)]at e
     rw[Option.some.inj e]
     rw[List.getElem?_eq_getElem hk]at hv
     rw[<-Option.some.inj hv]
     exact hk2
    ·rw[if_neg e2,List.getElem?_eq_getElem (by rw[yv];exact hk),List.getElem?_eq_getElem hk]at e
     rw[Option.some.inj e]
     exact hk2
   ·rw[yv]
    rcases hmem u hu with hu |rfl
    ·exact h.val u hu
    ·exact⟨by simp,fun x hx=>by obtain rfl:=List.mem_singleton.1 hx;exact h3⟩
   ·rcases hmem u hu with hu |rfl
    ·exact h.ar u hu
    ·exact⟨(h.ar v hvl).1,fun x hx=>by obtain rfl:=List.mem_singleton.1 hx;exact hm⟩
theorem Qk{α:Type}(f:α->Int)(x:α)(h:f x=0):zu f [x]=0:=by
  unfold zu
  rw[if_neg (by simp[h])]
  unfold zu
  rfl
theorem zIO(n:Nat)(l:List Mv):∀ k,(∀ i(h:i<l.length),mvE n (k+i) l[i]=0)->Z2 n k l=(((k+l.length:Nat):Int),0):=by
  induction l with
  |nil=>intro k _;rfl
  |cons m ms ih=>
   intro k h
   have h0:=h 0 (by simp)
   simp only[Nat.add_zero,List.getElem_cons_zero]at h0
   rw[Z2,if_neg (by simp[h0]),ih (k+1) (fun i hi=>by have:=h (i+1) (by simpa using hi);rw[show k+1+i=k+(i+1) by omega];simpa using this)]
   simp only[List.length_cons]
   rw[show k+1+ms.length=k+(ms.length+1) by omega]
theorem zI2{l:List Mv}(hA:Acy l)(k:Nat):∀ i,i+k<=l.length->zAi l i k=(((i+k:Nat):Int),0):=by
  induction k with
  |zero=>intro i _;rfl
  |succ k ih=>
   intro i hi
   rw[zAi,if_neg,ih (i+1) (by omega),show i+1+k=i+(k+1) by omega]
   rintro⟨j,hj,hr⟩
   exact hA i (by omega) j hj hr
theorem Zw.mvE{l:List Mv}(h:Zw l)(i:Nat)(hi:i<l.length):mvE l.length i l[i]=0:=by
  unfold LF.mvE
  obtain⟨h1,h2⟩:=h.val _ (List.getElem_mem hi)
  rw[if_neg (by simp[h.ok i hi]),if_neg (by omega)]
  match hv:l[i].value with
  | []=>rfl
  | [v]=>exact Qk _ v (h2 v (by rw[hv];simp))
  |a :: b :: r=>rw[hv]at h1;simp at h1
theorem Zw.valid{l:List Mv}(h:Zw l):XA l=((l.length:Int),0):=by
  unfold XA
  have h1:=zIO l.length l 0 (fun i hi=>by rw[Nat.zero_add];exact h.mvE i hi)
  rw[h1,if_neg (by simp)]
  rw[zI2 h.acy l.length 0 (by omega),Nat.zero_add]
theorem ZD.valid{l:List Mv}(h:ZD l):XA l=((l.length:Int),0):=h.plz.valid
end
section
open Tm Go.Proofs.YthgmimncdjhgnaaGreatDoor
theorem zAF{l:List Mv}{t:Tm}(h:yc l t=0):t.wf=0/\(∀ i∈Tm.zJ t,i<l.length)/\(xe l 16385 t 0).e=0:=by
  unfold yc at h
  split at h
  ·rename_i h1;exact absurd h h1
  rename_i h1
  split at h
  ·omega
  rename_i h2
  refine⟨by simpa using h1,fun i hi=>?_,h⟩
  simp only[List.any_eq_true,not_exists,not_and,decide_eq_true_eq]at h2
  have:=h2 i hi
  omega
end
end Go.LF
