/- A property of all nodes that a substitution keeps: variables may have any index. No program is in sight here. -/
import Derived.Test.YthgmimncdjhgnaaGreatQCH
import Derived.Test.YthgmimncdjhgnaaGreatQDC
import Derived.Test.YthgmimncdjhgnaaGreatQEA
import Derived.Test.YthgmimncdjhgnaaGreatQFA
import Derived.Test.YthgmimncdjhgnaaGreatQSC
namespace Go.LF.Tm
mutual
def xo(N:Int->List UInt8->Int->Nat->Prop):Tm->Prop
  |mk k n i l=>N k n i l.length/\yq N l
def yq(N:Int->List UInt8->Int->Nat->Prop):List Tm->Prop
  | []=>True
  |t :: ts=>xo N t/\yq N ts
end
section
variable {N:Int->List UInt8->Int->Nat->Prop}
theorem yQ(k n i l):xo N (mk k n i l)↔N k n i l.length/\yq N l:=by rw[xo]
theorem yg(l:List Tm):yq N l↔∀ t∈l,xo N t:=by
  induction l with
  |nil=>simp[yq]
  |cons t ts ih=>simp[yq,ih]
theorem ZE:yq N []:=by rw[yq];trivial
theorem zGH{M:Int->List UInt8->Int->Nat->Prop}(hNM:∀ k n i z,N k n i z->M k n i z)(t:Tm):xo N t->xo M t:=by
  induction t using ind with
  |h k n i l ih=>
   intro h;rw[yQ,yg]at h ⊢;exact⟨hNM _ _ _ _ h.1,fun u hu=>ih u hu (h.2 u hu)⟩
theorem zEc{M:Int->List UInt8->Int->Prop}(t:Tm):∀ b,xo (fun k n i _=>M k n i) t↔∀ x∈nodes b t,M x.k x.n x.i:=by
  induction t using ind with
  |h k n i l ih=>
   intro b
   have key:∀(l':List Tm),(∀ t∈l',t∈l)->∀ j,yq (fun k n i _=>M k n i) l'↔∀ x∈za b k j l',M x.k x.n x.i:=by
     intro l';induction l' with
     |nil=>intro _ j;simp[yq,za]
     |cons t ts ih2=>
      intro hm j;rw[yq,za,ih t (hm t (by simp)) (b+under k j),ih2 (fun t ht=>hm t (by simp[ht])) (j+1)];simp only[List.mem_append];exact⟨fun h x hx=>hx.elim (h.1 x) (h.2 x),fun h=>⟨fun x hx=>h x (.inl hx),fun x hx=>h x (.inr hx)⟩⟩
   rw[yQ,zo,key l (fun _ h=>h) 0];simp
theorem Qu{c:Nat}(t:Tm):t.size<=c->xo (fun _ _ _ z=>z<=c) t:=by
  induction t using ind with
  |h k n i l ih=>
   intro h;rw[zT]at h;have:=zM l;rw[yQ,yg];exact⟨by omega,fun u hu=>ih u hu (by have:=zQ hu;omega)⟩
variable (hv:∀ n i i' z,N 5 n i z->N 5 n i' z) (h0:N 0 [] 0 0)
include h0 in
theorem zv:xo N zR:=(yQ _ _ _ _).2 ⟨h0,ZE⟩
include hv in
theorem zG3(f:To)(t:Tm):∀ b,xo N t->xo N (mv f b t):=by
  induction t using ind with
  |h k n i l ih=>
   intro b h;rw[yQ]at h;rw[xX,yQ];refine⟨?_,?_⟩
   ·by_cases hk:k=5
    ·subst hk;rw[ZK];exact hv _ _ _ _ h.1
    ·unfold Zg;rw[if_neg (fun e=>hk e.1),ZK];exact h.1
   have key:∀(l':List Tm),(∀ t∈l',t∈l)->yq N l'->∀ j,yq N (xN f b k j l'):=by
     intro l';induction l' with
     |nil=>intro _ _ j;rw[xN];exact ZE
     |cons t ts ih2=>
      intro hm hn j;rw[yq]at hn;rw[xN,yq];exact⟨ih t (hm t (by simp)) _ hn.1,ih2 (fun t ht=>hm t (by simp[ht])) hn.2 (j+1)⟩
   exact key l (fun _ h=>h) h.2 0
include h0 in
theorem XE{t:Tm}{w:Nat}(h:xo N t):xo N (xp t w).t:=by
  unfold xp;split
  ·exact h
  ·exact zv h0
theorem zFn(f:Int->Tm->Nat->yw)(d k:Int)(l:List Tm)(hf:∀ t∈l,∀ d w,xo N (f d t w).t):∀ j w,yq N (ya f d k j l w).ts:=by
  induction l with
  |nil=>intro j w;rw[ya];exact ZE
  |cons t ts ih=>
   intro j w;rw[ya];split
   ·split
    ·show yq N (_ :: _);rw[yq];exact⟨hf t (by simp) _ _,ih (fun t ht=>hf t (by simp[ht])) _ _⟩
    ·exact ZE
   ·exact ZE
include h0 in
theorem zDr(f:Tm->Sm->Tm->Nat->yw)(hf:∀ u s b w,xo N u->xo N b->xo N (f u s b w).t)(us:List Tm):∀(m:Tm)(ss:List Sm)(w:Nat),xo N m->yq N us->xo N (ZN f m ss us w).t:=by
  induction us with
  |nil=>
   intro m ss w hm _;unfold ZN;split
   ·exact zv h0
   ·exact XE h0 hm
  |cons u us ih=>
   intro m ss w hm hu;rw[yq]at hu;cases ss with
   |nil=>unfold ZN;exact zv h0
   |cons s ss=>
    rw[ZN]
    have hb:xo N (m.args.headD zR):=by
      cases m with
      |mk k n i l=>
       rw[yQ]at hm;cases l with
       |nil=>exact zv h0
       |cons t ts=>
        have:=hm.2;rw[yq]at this;exact this.1
    have hf1:=hf u s _ w hu.1 hb;split
    ·split
     ·exact ih _ _ _ hf1 hu.2
     ·exact hf1
    ·exact zv h0
include hv h0 in
theorem zGP(f:Tm->Sm->Tm->Nat->yw)(hf:∀ u s b w,xo N u->xo N b->xo N (f u s b w).t)(ms:List Tm)(ss:List Sm)(d k:Int)(nm:List UInt8)(i:Int)(us:List Tm)(w:Nat)
    (hms:yq N ms) (hn:N k nm i us.length) (hu:yq N us):xo N (Q3 f ms ss d k nm i us w).t:=by
  unfold Q3;split
  ·rename_i hk;split
   ·rename_i hlt;split
    ·exact zv h0
    ·unfold ap;split
     ·refine zDr h0 f hf us _ _ _ (zG3 hv _ _ _ ?_) hu;by_cases h:(i - d).toNat<ms.length
      ·rw[List.getD,List.getElem?_eq_getElem h];exact(yg ms).1 hms _ (List.getElem_mem _)
      ·rw[List.getD,List.getElem?_eq_none (by omega)];exact zv h0
     ·exact zv h0
   ·refine XE h0 ((yQ _ _ _ _).2 ⟨?_,hu⟩);obtain⟨rfl,_⟩:=hk;exact hv _ _ _ _ hn
  ·exact XE h0 ((yQ _ _ _ _).2 ⟨hn,hu⟩)
include hv h0 in
theorem zGq(n:Nat):∀ ms ss d t w,yq N ms->xo N t->xo N (sb n ms ss d t w).t:=by
  induction n with
  |zero=>intro ms ss d t w _ _;rw[sb];exact zv h0
  |succ n ih=>
   intro ms ss d t w hms ht;rw[sb];split
   ·exact zv h0
   ·split
    ·rename_i hA;cases t with
     |mk k nm i l=>
      simp only[zAz,zBI,Qb,x6]at *
      rw[yQ]at ht;refine zGP hv h0 _ (fun u s b w hu hb=>ih [u] [s] 0 b w ?_ hb) ms ss d k nm i _ _ hms (by rw[Zk _ _ _ _ _ _ hA];exact ht.1) ?_
      ·rw[yq];exact⟨hu,ZE⟩
      ·exact zFn _ d k l (fun t ht' d w=>ih ms ss d t w hms ((yg l).1 ht.2 t ht')) 0 (w+1)
    ·exact zv h0
include hv h0 in
theorem zGp(n:Nat)(m:Tm)(ss:List Sm)(us:List Tm)(w:Nat)(hm:xo N m)(hu:yq N us):xo N (ap (fun u s b w'=>sb n [u] [s] 0 b w') m ss us w).t:=by
  unfold ap;split
  ·exact zDr h0 _ (fun u s b w h1 h2=>zGq hv h0 n [u] [s] 0 b w (by rw[yq];exact⟨h1,ZE⟩) h2) us m ss w hm hu
  ·exact zv h0
end
end Go.LF.Tm
namespace Go.LF
section
open Tm
mutual
def ZF(g:Int->Int->List Tm->Nat->Option yw):Tm->Nat->yw
  |mk k n i l,c=>if(yZ g l c).e=0 then((g k i (yZ g l c).ts (yZ g l c).w).getD (xp (mk k n i (yZ g l c).ts) (yZ g l c).w))else⟨(yZ g l c).e,zR,(yZ g l c).w⟩
def yZ(g:Int->Int->List Tm->Nat->Option yw):List Tm->Nat->zHn
  | [],c=>⟨0,[],c⟩
  |t :: ts,c=>
   if(ZF g t c).e=0 then
     (if(yZ g ts (ZF g t c).w).e=0 then⟨0,(ZF g t c).t :: (yZ g ts (ZF g t c).w).ts,(yZ g ts (ZF g t c).w).w⟩
       else⟨(yZ g ts (ZF g t c).w).e,[],(yZ g ts (ZF g t c).w).w⟩)
   else⟨(ZF g t c).e,[],(ZF g t c).w⟩
end
theorem ZS(g k n i l c):ZF g (mk k n i l) c=if(yZ g l c).e=0 then((g k i (yZ g l c).ts (yZ g l c).w).getD (xp (mk k n i (yZ g l c).ts) (yZ g l c).w))else⟨(yZ g l c).e,zR,(yZ g l c).w⟩:=by rw[ZF]
theorem Yc(g:Int->Int->List Tm->Nat->Option yw)(l:List Tm):∀(j c:Nat),yZ g l c=ya (fun _ t c=>ZF g t c) 0 0 j l c:=by
  induction l with
  |nil=>intro j c;rw[yZ,ya]
  |cons t ts ih=>intro j c;rw[yZ,ya,ih (j+1)]
theorem Yv(g:Int->Int->List Tm->Nat->Option yw)(l:List Tm)(c j:Nat)(h:j<l.length)(h0:(yZ g (l.take j) c).e=0):yZ g (l.take (j+1)) c=
    if(ZF g l[j] (yZ g (l.take j) c).w).e=0 then⟨0,(yZ g (l.take j) c).ts++[(ZF g l[j] (yZ g (l.take j) c).w).t],(ZF g l[j] (yZ g (l.take j) c).w).w⟩
    else⟨(ZF g l[j] (yZ g (l.take j) c).w).e,[],(ZF g l[j] (yZ g (l.take j) c).w).w⟩:=by
  rw[Yc g _ 0,Yc g _ 0]at *
  rw[ZO _ _ _ _ _ _ h h0]
theorem zBi(g:Int->Int->List Tm->Nat->Option yw)(l:List Tm)(c j:Nat)(h0:(yZ g (l.take j) c).e≠0):yZ g l c=yZ g (l.take j) c:=by
  rw[Yc g _ 0,Yc g _ 0]at *
  exact Qe _ _ _ _ _ _ h0
theorem zCp(g:Int->Int->List Tm->Nat->Option yw)(l:List Tm)(c:Nat)(h:(yZ g l c).e=0):(yZ g l c).ts.length=l.length:=by
  rw[Yc g _ 0]at *;exact Zk _ _ _ _ _ _ h
theorem Xa(g:Int->Int->List Tm->Nat->Option yw)(c:Nat):yZ g [] c=⟨0,[],c⟩:=by rw[yZ]
theorem Qn(g:Int->Int->List Tm->Nat->Option yw)(t:Tm)(ts:List Tm)(c:Nat):yZ g (t :: ts) c=if(ZF g t c).e=0 then
      (if(yZ g ts (ZF g t c).w).e=0 then⟨0,(ZF g t c).t :: (yZ g ts (ZF g t c).w).ts,(yZ g ts (ZF g t c).w).w⟩
        else⟨(yZ g ts (ZF g t c).w).e,[],(yZ g ts (ZF g t c).w).w⟩)
    else⟨(ZF g t c).e,[],(ZF g t c).w⟩:=by rw[yZ]
def Qw(l:List Mv)(k i:Int):Option Mv:=if k=6/\0<=i then(match l[i.toNat]? with |some m=>if m.value=[]then none else some m |none=>none)else none
theorem ZG{l:List Mv}{k i:Int}{m:Mv}(h:Qw l k i=some m):k=6/\0<=i/\i<l.length/\l[i.toNat]? =some m/\m∈l/\m.value≠[]:=by
  unfold Qw at h;split at h
  ·rename_i hk;split at h
   ·rename_i m' hm;split at h
    ·cases h
    ·rename_i hv;cases h
     obtain⟨h1,h2⟩:=List.getElem?_eq_some_iff.1 hm;exact⟨hk.1,hk.2,by omega,hm,h2 ▸ List.getElem_mem _,hv⟩
   ·cases h
  ·cases h
def YJ(l:List Mv)(f:Tm->Nat->yw)(k i:Int)(us:List Tm)(c:Nat):Option yw:=
  (Qw l k i).map fun m=>if 16384<c+1 then⟨2,zR,c+1⟩else
    if Z3 (m.value.headD zR) (er m.type) us≠0 then⟨Z3 (m.value.headD zR) (er m.type) us,zR,c+1⟩else f (ZR (m.value.headD zR) (er m.type) us) (c+1)
def xC(l:List Mv):Nat->Tm->Nat->yw
  |0=>fun _ c=>⟨2,zR,c+1⟩
  |n+1=>ZF (YJ l (xC l n))
theorem yb(l:List Mv)(n:Nat):xC l (n+1)=ZF (YJ l (xC l n)):=by rw[xC]
def exR(l:List Mv)(n:Nat)(m:Mv)(us:List Tm)(c:Nat):yw:=if 16384<c+1 then⟨2,zR,c+1⟩else
    if Z3 (m.value.headD zR) (er m.type) us≠0 then⟨Z3 (m.value.headD zR) (er m.type) us,zR,c+1⟩else xC l n (ZR (m.value.headD zR) (er m.type) us) (c+1)
theorem qi{l:List Mv}{n:Nat}{k i:Int}{m:Mv}(h:Qw l k i=some m)(us:List Tm)(c:Nat):YJ l (xC l n) k i us c=some (exR l n m us c):=by unfold YJ exR;rw[h];rfl
theorem Qf{l:List Mv}{f:Tm->Nat->yw}{k i:Int}(h:Qw l k i=none)(us:List Tm)(c:Nat):YJ l f k i us c=none:=by unfold YJ;rw[h];rfl
structure MvG(n:Int)(m:Mv):Prop where
  XD:m.type.zX=true/\m.type.small=true
  val:∀ v∈m.value,v.isObj=true/\v.small=true
  one:m.value.length<=1
  kn:xo (fun k _ i z=>(k=6->i<n)/\z<=200) m.type/\∀ v∈m.value,xo (fun k _ i z=>(k=6->i<n)/\z<=200) v
abbrev Kn(n:Int)(t:Tm):Prop:=xo (fun k _ i z=>(k=6->i<n)/\z<=200) t
structure StG(l:List Mv):Prop where
  len:l.length<=40
  mv:∀ m∈l,MvG l.length m
theorem StG.Qw{l:List Mv}(h:StG l){k i:Int}{m:Mv}(hs:Qw l k i=some m):∃ v,m.value=[v]/\v.isObj=true/\v.small=true/\Kn l.length v/\m.type.zX=true/\m.type.small=true:=by
  obtain⟨_,_,_,_,hm,hv⟩:=ZG hs;have hg:=h.mv m hm;have h1:=hg.one;match hm':m.value,hv with
  | [v],_=>
    rw[hm']at h1;have h2:=hg.val v (by rw[hm'];simp);exact⟨v,rfl,h2.1,h2.2,hg.kn.2 v (by rw[hm'];simp),hg.XD.1,hg.XD.2⟩
  |a :: b :: r,_=>rw[hm']at h1;simp at h1
theorem zCV{m:Tm}{s:Sm}{us:List Tm}(h:Z3 m s us=0):(m.isObj=true/\m.small=true)/\(∀ u∈us,u.isObj=true/\u.small=true)/\(Tm.ap (Tm.YS 262145) m s.args us 0).e=0/\ZR m s us=(Tm.ap (Tm.YS 262145) m s.args us 0).t:=by
  have h0:=h;unfold Z3 at h;split at h
  ·rename_i h1;exact absurd h h1
  split at h
  ·rename_i h1;exact absurd h h1
  split at h
  ·omega
  rename_i h1;simp only[List.any_cons,Bool.or_eq_true,not_or,List.any_eq_true,Bool.not_eq_true',Bool.and_eq_false_iff]at h1;refine⟨?_,fun u hu=>?_,h,by unfold ZR;rw[if_pos h0]⟩
  ·have:=h1.1;simp only[Bool.not_eq_false]at this;exact this
  ·have h2:=h1.2;by_cases hc:u.isObj=true/\u.small=true
   ·exact hc
   ·exact absurd ⟨u,hu,by
      cases h3:u.isObj<;>cases h4:u.small<;>simp_all⟩ h2
theorem zET(f:Tm->Sm->Tm->Nat->yw)(m:Tm)(ss:List Sm)(us:List Tm)(w:Nat)(h:(ap f m ss us w).e=0):(ap f m ss us w).t.small=true:=by
  unfold ap at h ⊢;split
  ·rename_i hl;rw[if_pos hl]at h;exact Xl _ _ _ _ _ h
  ·rename_i hl;rw[if_neg hl]at h;simp at h
theorem XG{m:Tm}{s:Sm}{us:List Tm}(h:Z3 m s us=0):(ZR m s us).isObj=true/\(ZR m s us).small=true:=by
  obtain⟨h1,h2,h3,h4⟩:=zCV h;rw[h4];refine⟨?_,zET _ _ _ _ _ h3⟩;rcases zBN (YS 262145) (fun u s b w hu hs hb hd=>YO 262145 [u] [s] 0 b w (fun x hx=>by obtain rfl:x=u:=(by simpa using hx);exact⟨hu,hs⟩) (by omega) (by omega) hb) us m s.args 0 h2 h1.1 h1.2 with h5 |h5
  ·exact h5.2.1
  ·exact absurd h3 h5.1
theorem Xi{N:Int->List UInt8->Int->Nat->Prop}(hv:∀ n i i' z,N 5 n i z->N 5 n i' z)(h0:N 0 [] 0 0){m:Tm}{s:Sm}{us:List Tm}(hm:xo N m)(hu:yq N us):xo N (ZR m s us):=by
  unfold ZR;split
  ·exact zGp hv h0 262145 m s.args us 0 hm hu
  ·exact zv h0
theorem zCj{n:Int}:∀(_:List UInt8)(i i':Int)(z:Nat),((5:Int)=6->i<n)/\z<=200->((5:Int)=6->i'<n)/\z<=200:=fun _ _ _ _ h=>⟨fun e=>absurd e (by decide),h.2⟩
theorem zA6{n:Int}:((0:Int)=6->(0:Int)<n)/\0<=200:=⟨fun e=>absurd e (by decide),by decide⟩
inductive Pw{α β:Type}(P:α->β->Prop):List α->List β->Prop
  |nil:Pw P [] []
  |cons {a b l m} (h:P a b) (t:Pw P l m):Pw P (a :: l) (b :: m)
theorem qe(g:Int->Int->List Tm->Nat->Option yw)(P:Tm->Tm->Prop)(l:List Tm)(h:∀ t∈l,∀ c,(ZF g t c).e=0->P t (ZF g t c).t):∀ c,(yZ g l c).e=0->Pw P l (yZ g l c).ts:=by
  induction l with
  |nil=>intro c _;rw[Xa];exact .nil
  |cons t ts ih=>
   intro c h0;rw[Qn]at h0 ⊢;by_cases h1:(ZF g t c).e=0
   ·rw[if_pos h1]at h0 ⊢;by_cases h2:(yZ g ts (ZF g t c).w).e=0
    ·rw[if_pos h2];exact .cons (h t (by simp) c h1) (ih (fun t ht=>h t (by simp[ht])) _ h2)
    ·rw[if_neg h2]at h0;exact absurd h0 h2
   ·rw[if_neg h1]at h0;exact absurd h0 h1
theorem zG4(g:Int->Int->List Tm->Nat->Option yw)(l:List Tm)(h:∀ t∈l,∀ c,c<=(ZF g t c).w):∀ c,c<=(yZ g l c).w:=by
  have key:∀(l:List Tm),(∀ t∈l,∀ c,c<=(ZF g t c).w)->∀ j c,c<=(ya (fun _ t c=>ZF g t c) 0 0 j l c).w:=by
    intro l;induction l with
    |nil=>intro _ j c;rw[ya];exact Nat.le_refl _
    |cons t ts ih=>
     intro h j c;have h1:=h t (by simp) c;have h2:=ih (fun t ht=>h t (by simp[ht])) (j+1) (ZF g t c).w;rw[ya];split
     ·split
      ·exact Nat.le_trans h1 h2
      ·exact Nat.le_trans h1 h2
     ·exact h1
  intro c;rw[Yc g _ 0];exact key l h 0 c
theorem zG6(g:Int->Int->List Tm->Nat->Option yw)(hg:∀ k i us c r,g k i us c=some r->c<=r.w)(t:Tm):∀ c,c<=(ZF g t c).w:=by
  induction t using ind with
  |h k n i l ih=>
   intro c;have h1:=zG4 g l ih c;rw[ZS];split
   ·cases hq:g k i (yZ g l c).ts (yZ g l c).w with
    |none=>show c<=(xp _ _).w;rw[Yw];exact h1
    |some r=>exact Nat.le_trans h1 (hg _ _ _ _ _ hq)
   ·exact h1
theorem zFT(l:List Mv)(n:Nat):∀ t c,c<=(xC l n t c).w:=by
  induction n with
  |zero=>intro t c;exact Nat.le_succ c
  |succ n ih=>
   intro t c;rw[yb];refine zG6 _ (fun k i us c r h=>?_) t c;unfold YJ at h;obtain⟨m,_,rfl⟩:=Option.map_eq_some_iff.1 h;split
   ·exact Nat.le_succ c
   ·split
    ·exact Nat.le_succ c
    ·exact Nat.le_trans (Nat.le_succ c) (ih _ _)
theorem XX(l:List Mv)(n:Nat):∀ t c,(xC l n t c).e≠0->(xC l n t c).t=zR:=by
  induction n with
  |zero=>intro t c _;rfl
  |succ n ih=>
   intro t c h;rw[yb]at h ⊢;cases t with
   |mk k nm i ts=>
    rw[ZS]at h ⊢;split
    ·rename_i h0;rw[if_pos h0]at h;cases hq:YJ l (xC l n) k i (yZ (YJ l (xC l n)) ts c).ts (yZ (YJ l (xC l n)) ts c).w with
     |none=>
      rw[hq]at h;show(xp _ _).t=_;have h:(xp (mk k nm i (yZ (YJ l (xC l n)) ts c).ts) (yZ (YJ l (xC l n)) ts c).w).e≠0:=h;unfold xp at h ⊢;split
      ·rename_i h1;rw[if_pos h1]at h;exact absurd rfl h
      ·rfl
     |some r=>
      rw[hq]at h;show r.t=_;have h:r.e≠0:=h;unfold YJ at hq;obtain⟨m,_,rfl⟩:=Option.map_eq_some_iff.1 hq;split
      ·rfl
      ·rename_i h1;rw[if_neg h1]at h;split
       ·rfl
       ·rename_i h2;rw[if_neg h2]at h;exact ih _ _ h
    ·rfl
theorem zAY(l:List Mv)(n:Nat):∀ t c,(xC l n t c).e=0->(xC l n t c).t.small=true:=by
  induction n with
  |zero=>intro t c h;simp[xC]at h
  |succ n ih=>
   intro t c h;rw[yb]at h ⊢;cases t with
   |mk k nm i ts=>
    rw[ZS]at h ⊢;split
    ·rename_i h0;rw[if_pos h0]at h;cases hq:YJ l (xC l n) k i (yZ (YJ l (xC l n)) ts c).ts (yZ (YJ l (xC l n)) ts c).w with
     |none=>rw[hq]at h;exact YR _ _ h
     |some r=>
      rw[hq]at h;show r.t.small=_;have h:r.e=0:=h;unfold YJ at hq;obtain⟨m,_,rfl⟩:=Option.map_eq_some_iff.1 hq;split
      ·rename_i h1;rw[if_pos h1]at h;simp at h
      ·rename_i h1;rw[if_neg h1]at h;split
       ·rename_i h2;rw[if_pos h2]at h;exact absurd h h2
       ·rename_i h2;rw[if_neg h2]at h;exact ih _ _ h
    ·rename_i h0;rw[if_neg h0]at h;exact absurd h h0
theorem zGF{N:Int->List UInt8->Int->Nat->Prop}(h0:N 0 [] 0 0)(g:Int->Int->List Tm->Nat->Option yw)(hg:∀ k i us c r,yq N us->g k i us c=some r->xo N r.t)(t:Tm):xo N t->∀ c,xo N (ZF g t c).t:=by
  induction t using ind with
  |h k n i l ih=>
   intro ht c;rw[yQ]at ht;rw[ZS];split
   ·rename_i he
    have hA:yq N (yZ g l c).ts:=by
      rw[yg];have hF:=qe g (fun _ r=>xo N r) l (fun t h c _=>ih t h ((yg l).1 ht.2 t h) c) c he;generalize (yZ g l c).ts=us at hF;clear he ih ht;induction hF with
      |nil=>simp
      |cons h1 _ ih=>intro u hu;rcases List.mem_cons.1 hu with rfl |hu;(exact h1);exact ih u hu
    cases hq:g k i (yZ g l c).ts (yZ g l c).w with
    |none=>exact XE h0 ((yQ _ _ _ _).2 ⟨by rw[zCp g l c he];exact ht.1,hA⟩)
    |some r=>exact hg _ _ _ _ _ hA hq
   ·exact zv h0
theorem zGC{N:Int->List UInt8->Int->Nat->Prop}(hv:∀ n i i' z,N 5 n i z->N 5 n i' z)(h0:N 0 [] 0 0)(l:List Mv)(hl:∀ m∈l,∀ v∈m.value,xo N v)(n:Nat):∀ t c,xo N t->xo N (xC l n t c).t:=by
  induction n with
  |zero=>intro t c _;exact zv h0
  |succ n ih=>
   intro t c ht;rw[yb];refine zGF h0 _ (fun k i us c r hus h=>?_) t ht c;unfold YJ at h;obtain⟨m,hm,rfl⟩:=Option.map_eq_some_iff.1 h;obtain⟨_,_,_,_,hml,hmv⟩:=ZG hm;split
   ·exact zv h0
   ·split
    ·exact zv h0
    ·refine ih _ _ (Xi hv h0 ?_ hus);match hv':m.value,hmv with
     |v :: r,_=>exact hl m hml v (by rw[hv'];simp)
end
section
open Tm
theorem zHO{t:Tm}{w:Nat}(h:(xp t w).e=0):(xp t w).t=t:=by
  unfold xp at h ⊢;split
  ·rfl
  ·rename_i h1;rw[if_neg h1]at h;simp at h
def Kp(t r:Tm):Prop:=(t.isObj=true->r.isObj=true)/\(t.zX=true->r.zX=true)/\(t.zb=true->r.zb=true)
theorem zG2{l us:List Tm}(h:Pw Kp l us):ze l=true->ze us=true:=by
  induction h with
  |nil=>exact fun h=>h
  |cons h1 _ ih=>intro h;rw[ze,Bool.and_eq_true]at h ⊢;exact⟨h1.1 h.1,ih h.2⟩
theorem zHV{l us:List Tm}(h:Pw Kp l us):yy l=true->yy us=true:=by
  induction h with
  |nil=>exact fun h=>h
  |cons h1 _ ih=>intro h;rw[yy,Bool.and_eq_true]at h ⊢;exact⟨h1.2.1 h.1,ih h.2⟩
theorem zG0{l us:List Tm}(h:Pw Kp l us):us.length=l.length:=by
  induction h with
  |nil=>rfl
  |cons _ _ ih=>simp[ih]
theorem zFi{k i:Int}{n:List UInt8}{l us:List Tm}(h:Pw Kp l us):Kp (mk k n i l) (mk k n i us):=by
  have hl:=zG0 h;have ho:=zG2 h;have ht:=zHV h;refine⟨fun e=>?_,fun e=>?_,fun e=>?_⟩
  ·rw[isObj]at e ⊢;unfold bound at e ⊢;rw[hl];split at e
   ·rename_i hk;rw[if_pos hk];rw[Bool.and_eq_true]at e ⊢;exact⟨e.1,ho e.2⟩
   ·rename_i hk;rw[if_neg hk];split at e
    ·rename_i hk;rw[if_pos hk];rw[Bool.and_eq_true]at e ⊢;exact⟨e.1,ho e.2⟩
    ·rename_i hk;rw[if_neg hk];split at e
     ·rename_i hk;rw[if_pos hk];rw[Bool.and_eq_true]at e ⊢;exact⟨e.1,ho e.2⟩
     ·rename_i hk;rw[if_neg hk];split at e
      ·rename_i hk;rw[if_pos hk];rw[Bool.and_eq_true]at e ⊢;exact⟨e.1,ho e.2⟩
      ·cases e
  ·rw[zX,isAtom]at e ⊢;unfold bound at e ⊢;rw[hl];simp only[Bool.or_eq_true,Bool.and_eq_true]at e ⊢;rcases e with e |e
   ·exact .inl ⟨e.1,e.2.1,ho e.2.2⟩
   ·exact .inr ⟨e.1,e.2.1,ht e.2.2⟩
  ·unfold zb at e;split at e
   ·rename_i heq;cases heq
    cases h with
    |cons h1 h2=>
     cases h2 with
     |cons h3 h4=>
      cases h4
      rw[zb];unfold bound at e ⊢;simp only[Bool.and_eq_true]at e ⊢;exact⟨e.1,e.2.1,h1.2.1 e.2.2.1,h3.2.2 e.2.2.2⟩
   ·rename_i heq;cases heq
    simp only[Bool.and_eq_true,List.isEmpty_iff]at e;obtain⟨h1,h2,h3,h4⟩:=e;subst h4;cases h
    rw[zb]
    ·simp[h1,h2,h3]
    ·intro a b hab;cases hab
theorem zGV{n:List UInt8}{i:Int}{l:List Tm}{r:Tm}(h:r.isObj=true):Kp (mk 6 n i l) r:=by
  refine⟨fun _=>h,fun e=>?_,fun e=>?_⟩
  ·rw[zX,isAtom]at e;simp at e
  ·unfold zb at e;split at e
   ·rename_i heq;cases heq;simp at e
   ·rename_i heq;cases heq;simp at e
theorem zHM(g:Int->Int->List Tm->Nat->Option yw)(hg:∀ k i us c r,g k i us c=some r->r.e=0->k=6/\r.t.isObj=true)(t:Tm):∀ c,(ZF g t c).e=0->Kp t (ZF g t c).t:=by
  induction t using ind with
  |h k n i l ih=>
   intro c h;rw[ZS]at h ⊢;split
   ·rename_i he;rw[if_pos he]at h;have hF:=qe g Kp l ih c he;cases hq:g k i (yZ g l c).ts (yZ g l c).w with
    |none=>
     rw[hq]at h;show Kp _ (xp _ _).t;have h:(xp (mk k n i (yZ g l c).ts) (yZ g l c).w).e=0:=h;rw[zHO h];exact zFi hF
    |some r=>
     rw[hq]at h;obtain⟨rfl,h2⟩:=hg _ _ _ _ _ hq h;exact zGV h2
   ·rename_i he;rw[if_neg he]at h;exact absurd h he
theorem zFP(l:List Mv)(n:Nat):∀ t c,(xC l n t c).e=0->Kp t (xC l n t c).t:=by
  induction n with
  |zero=>intro t c h;simp[xC]at h
  |succ n ih=>
   intro t c h;rw[yb]at h ⊢;refine zHM _ (fun k i us c r hr h0=>?_) t c h;unfold YJ at hr;obtain⟨m,hm,rfl⟩:=Option.map_eq_some_iff.1 hr;refine⟨(ZG hm).1,?_⟩;split at h0
   ·simp at h0
   ·rename_i h1;rw[if_neg h1];split at h0
    ·rename_i h2;exact absurd h0 h2
    ·rename_i h2;rw[if_neg h2];exact(ih _ _ h0).1 (XG (by simpa using h2)).1
theorem QR(l:List Mv)(n:Nat)(t:Tm)(c:Nat)(ht:t.wf=0)(h:(xC l n t c).e=0):(xC l n t c).t.wf=0:=by
  obtain⟨h1,h2,h3⟩:=zFP l n t c h;have hs:=zAY l n t c h;unfold wf;rw[hs];rcases(y9 ht).1 with h4 |h4 |h4
  ·rw[h1 h4];rfl
  ·rw[h2 h4];simp
  ·rw[h3 h4];simp
theorem zFl(g:Int->Int->List Tm->Nat->Option yw)(N:Nat)(hg:∀ k i us c r,g k i us c=some r->c<=N->r.e=0->r.w<=N)(t:Tm):∀ c,c<=N->(ZF g t c).e=0->(ZF g t c).w<=N:=by
  induction t using ind with
  |h k n i l ih=>
   intro c hc h
   have key:∀(us:List Tm),(∀ t∈us,t∈l)->∀ c,c<=N->(yZ g us c).e=0->(yZ g us c).w<=N:=by
     intro us;induction us with
     |nil=>intro _ c hc _;rw[Xa];exact hc
     |cons t ts ih2=>
      intro hm c hc h;rw[Qn]at h ⊢;split
      ·rename_i h1;rw[if_pos h1]at h;split
       ·rename_i h2;exact ih2 (fun t ht=>hm t (by simp[ht])) _ (ih t (hm t (by simp)) c hc h1) h2
       ·rename_i h2;rw[if_neg h2]at h;exact absurd h h2
      ·rename_i h1;rw[if_neg h1]at h;exact absurd h h1
   rw[ZS]at h ⊢;split
   ·rename_i he;rw[if_pos he]at h;have h1:=key l (fun _ h=>h) c hc he;cases hq:g k i (yZ g l c).ts (yZ g l c).w with
    |none=>show(xp _ _).w<=N;rw[Yw];exact h1
    |some r=>rw[hq]at h;exact hg _ _ _ _ _ hq h1 h
   ·rename_i he;rw[if_neg he]at h;exact absurd h he
theorem zDu(l:List Mv)(n:Nat):∀ t c,c<=16384->(xC l n t c).e=0->(xC l n t c).w<=16384:=by
  induction n with
  |zero=>intro t c _ h;simp[xC]at h
  |succ n ih=>
   intro t;rw[yb];refine zFl _ 16384 (fun k i us c r hr hc h0=>?_) t;unfold YJ at hr;obtain⟨m,hm,rfl⟩:=Option.map_eq_some_iff.1 hr;split at h0
   ·simp at h0
   ·rename_i h1;split at h0
    ·rename_i h2;exact absurd h0 h2
    ·rename_i h2;rw[if_neg h1,if_neg h2];exact ih _ _ (by omega) h0
theorem zDh{l:List Mv}{k i:Int}(h:k≠6):Qw l k i=none:=by unfold Qw;rw[if_neg (fun e=>h e.1)]
theorem zEh{k i:Int}{n:List UInt8}{l:List Tm}(h:(mk k n i l).small=true):∀ u∈l,u.small=true:=by
  intro u hu;unfold small at h ⊢;rw[Bool.and_eq_true,decide_eq_true_eq,decide_eq_true_eq]at h ⊢;rw[zT,yT]at h;have:=zQ hu;have:=zp hu;exact⟨by omega,by omega⟩
end
section
open Tm Go.Proofs.YthgmimncdjhgnaaGreat
def yf(l:List Mv)(t:Tm):Int:=if t.wf≠0 then t.wf else if(Tm.zP t).any (fun i=>decide ((l.length:Int)<=i))=true then 3 else(xC l 16385 t 0).e
def zz(l:List Mv)(t:Tm):Tm:=if yf l t=0 then(xC l 16385 t 0).t else zR
theorem Xn(t:Tm)(h:t.wf=0)(i:Int):i∈Tm.zP t↔∃ x∈nodes 0 t,x.k=6/\x.i=i:=by
  unfold Tm.zP Tm.Zd;rw[if_pos (by simp[h]),<-Y3 t 0 []]
  have key:∀(xs:List Nd0)(acc:List Int),i∈xs.foldl yG acc↔i∈acc\/∃ x∈xs,x.k=6/\x.i=i:=by
    intro xs;induction xs with
    |nil=>intro acc;simp
    |cons x xs ih=>
     intro acc;rw[List.foldl_cons,ih]
     have hs:i∈yG acc x↔i∈acc\/(x.k=6/\x.i=i):=by
       unfold yG;split
       ·rename_i hc;simp only[Bool.and_eq_true,beq_iff_eq]at hc;rw[List.mem_append,List.mem_singleton];exact⟨fun h=>h.imp id (fun h=>⟨hc.1,h.symm⟩),fun h=>h.imp id (fun h=>h.2.symm)⟩
       ·rename_i hc;refine⟨.inl,fun h=>h.elim id (fun h=>?_)⟩;obtain⟨h1,rfl⟩:=h;simpa[h1]using hc
     rw[hs];constructor
     ·rintro((h |h)|⟨y,hy,h⟩)
      ·exact .inl h
      ·exact .inr ⟨x,by simp,h⟩
      ·exact .inr ⟨y,by simp[hy],h⟩
     ·rintro(h |⟨y,hy,h⟩)
      ·exact .inl (.inl h)
      ·rcases List.mem_cons.1 hy with rfl |hy
       ·exact .inl (.inr h)
       ·exact .inr ⟨y,hy,h⟩
  rw[key];simp
theorem zAR(t:Tm)(h:¬t.wf=0):Tm.zP t=[]:=by
  unfold Tm.zP;rw[if_neg (by simpa using h)]
theorem xM{N:Int->Prop}(t:Tm)(h:t.wf=0):xo (fun k _ i _=>k=6->N i) t↔∀ i∈Tm.zP t,N i:=by
  rw[zEc (M:=fun k _ i=>k=6->N i) t 0];constructor
  ·intro hn i hi;obtain⟨x,hx,h6,rfl⟩:=(Xn t h i).1 hi;exact hn x hx h6
  ·intro hn x hx h6;exact hn _ ((Xn t h _).2 ⟨x,hx,h6,rfl⟩)
theorem qX{N M:Int->List UInt8->Int->Nat->Prop}(t:Tm):xo N t->xo M t->xo (fun k n i z=>N k n i z/\M k n i z) t:=by
  induction t using ind with
  |h k n i l ih=>
   intro h1 h2;rw[yQ,yg]at h1 h2 ⊢;exact⟨⟨h1.1,h2.1⟩,fun u hu=>ih u hu (h1.2 u hu) (h2.2 u hu)⟩
theorem zFE{n:Int}(t:Tm)(h:t.wf=0)(hs:t.size<=200)(hm:∀ i∈Tm.zP t,i<n):Kn n t:=qX t ((xM t h).2 hm) (Qu t hs)
theorem Z9{n:Int}{t:Tm}(hm:Kn n t):∀ i∈Tm.zP t,i<n:=by
  intro i hi;by_cases h:t.wf=0
  ·exact(xM (N:=fun i=>i<n) t h).1 (zGH (fun _ _ _ _ h=>h.1) t hm) i hi
  ·rw[zAR t h]at hi;cases hi
theorem Xg{t:Tm}:∀ i∈Tm.zP t,0<=i/\i<2048:=by
  intro i hi;by_cases h:t.wf=0
  ·obtain⟨x,hx,h6,rfl⟩:=(Xn t h i).1 hi;exact((zCE t h).1 0 x hx).2.1 (by simp[h6])
  ·rw[zAR t h]at hi;cases hi
structure Ord where
  o:List Int
  e:Int
def typeOf(l:List Mv)(i:Int):Tm:=match l[i.toNat]? with |some m=>m.type |none=>zR
def xY(l:List Mv)(f:List Int->Ord->Ord):List Int->Ord->Ord
  | [],s=>s
  |m :: ms,s=>
   if s.e≠0 then s else if s.o.contains m=true then xY l f ms s else
   if yf l (typeOf l m)≠0 then⟨s.o,yf l (typeOf l m)⟩else
   if(f (Tm.zP (zz l (typeOf l m))) s).e=0 then xY l f ms ⟨(f (Tm.zP (zz l (typeOf l m))) s).o++[m],0⟩else f (Tm.zP (zz l (typeOf l m))) s
def zCx(l:List Mv):Nat->List Int->Ord->Ord
  |0=>xY l (fun _ s=>s)
  |d+1=>xY l (zCx l d)
theorem qz(l:List Mv)(f:List Int->Ord->Ord)(ms:List Int)(s:Ord)(h:s.e≠0):xY l f ms s=s:=by
  cases ms with
  |nil=>rfl
  |cons m ms=>rw[xY,if_pos h]
theorem zBn(l:List Mv)(f:List Int->Ord->Ord)(a b:List Int):∀ s,xY l f (a++b) s=xY l f b (xY l f a s):=by
  induction a with
  |nil=>intro s;rfl
  |cons m ms ih=>
   intro s;rw[List.cons_append,xY,xY];by_cases h0:s.e≠0
   ·rw[if_pos h0,if_pos h0,qz l f b s h0]
   rw[if_neg h0,if_neg h0];by_cases h1:s.o.contains m=true
   ·rw[if_pos h1,if_pos h1,ih]
   rw[if_neg h1,if_neg h1];by_cases h2:yf l (typeOf l m)≠0
   ·rw[if_pos h2,if_pos h2,qz l f b _ h2]
   rw[if_neg h2,if_neg h2];by_cases h3:(f (Tm.zP (zz l (typeOf l m))) s).e=0
   ·rw[if_pos h3,if_pos h3,ih]
   ·rw[if_neg h3,if_neg h3,qz l f b _ h3]
theorem XZ(l:List Mv)(f:List Int->Ord->Ord)(m:Int)(s:Ord):xY l f [m] s=
    if s.e≠0 then s else if s.o.contains m=true then s else
    if yf l (typeOf l m)≠0 then⟨s.o,yf l (typeOf l m)⟩else
    if(f (Tm.zP (zz l (typeOf l m))) s).e=0 then⟨(f (Tm.zP (zz l (typeOf l m))) s).o++[m],0⟩else f (Tm.zP (zz l (typeOf l m))) s:=by
  rw[xY,xY,xY]
theorem QB(l:List Mv)(f:List Int->Ord->Ord)(ms:List Int)(j:Nat)(h:j<ms.length)(s:Ord):xY l f (ms.take (j+1)) s=xY l f [ms[j]] (xY l f (ms.take j) s):=by
  rw[List.take_succ_eq_append_getElem h,zBn]
def Q7(l:List Mv)(d:Nat):List Tm->Ord->Ord
  | [],s=>s
  |t :: ts,s=>Q7 l d ts (zCx l d (Tm.zP t) s)
end
section
open Tm Go.Proofs.YthgmimncdjhgnaaGreat
def Acy(l:List Mv):Prop:=∀ i:Int,i<l.length->∀ j∈zt l i,¬Zx l j i
open Classical in
noncomputable def rk (l:List Mv) (i:Int):Nat:=((List.range l.length).filter (fun j:Nat=>decide (Zx l i (j:Int)))).length
theorem zH6(l:List Mv)(i:Int):rk l i<=l.length:=by
  unfold rk;refine Nat.le_trans (List.length_filter_le _ _) ?_;simp
theorem zGi{l:List Mv}(hA:Acy l){i j:Int}(h0:0<=i)(hi:i<l.length)(hj:j∈zt l i)(_hn:¬j<l.length\/True):rk l j<rk l i:=by
  classical
  unfold rk;have e:∀ k:Nat,Zx l j (k:Int)->Zx l i (k:Int):=fun k h=>.step hi hj h
  rw[show(List.range l.length).filter (fun k:Nat=>decide (Zx l j (k:Int)))=((List.range l.length).filter (fun k:Nat=>decide (Zx l i (k:Int)))).filter (fun k:Nat=>decide (Zx l j (k:Int))) by
    rw[List.filter_filter];refine List.filter_congr (fun k _=>?_);rw[Bool.eq_iff_iff];simp only[decide_eq_true_eq,Bool.and_eq_true];exact⟨fun h=>⟨h,e k h⟩,fun h=>h.1⟩]
  rw[List.length_filter_lt_length_iff_exists];refine⟨i.toNat,?_,?_⟩
  ·rw[List.mem_filter];refine⟨List.mem_range.2 (by omega),?_⟩;simp only[decide_eq_true_eq];rw[show((i.toNat:Nat):Int)=i by omega];exact .refl hi
  ·simp only[decide_eq_true_eq];rw[show((i.toNat:Nat):Int)=i by omega];exact hA i hi j hj
theorem qp{l:List Mv}{i:Int}(h0:0<=i)(hi:i<l.length):∃ m∈l,l[i.toNat]? =some m/\typeOf l i=m.type:=by
  have h:i.toNat<l.length:=by omega
  refine⟨l[i.toNat],List.getElem_mem h,List.getElem?_eq_getElem h,?_⟩;unfold typeOf;rw[List.getElem?_eq_getElem h]
theorem zDq(l:List Mv)(n:Nat)(t:Tm)(S:Int->Prop)(hc:∀ i,S i->∀ j∈zt l i,S j)(ht:∀ i∈Tm.zP t,S i)(hw:t.wf=0)(hv:∀ m∈l,∀ v∈m.value,v.wf=0)(c:Nat)(h:(xC l n t c).e=0):∀ i∈Tm.zP (xC l n t c).t,S i:=by
  have hN:xo (fun k _ i _=>k=6->S i) t:=(xM t hw).2 ht;have hw':=QR l n t c hw h;rw[<-xM (N:=S) _ hw'];revert h hw';clear hw ht;induction n generalizing t c with
  |zero=>intro h;simp[xC]at h
  |succ n ih=>
   intro h _;rw[yb]at h ⊢
   have key:∀(t:Tm),xo (fun k _ i _=>k=6->S i) t->∀ c,(ZF (YJ l (xC l n)) t c).e=0->xo (fun k _ i _=>k=6->S i) (ZF (YJ l (xC l n)) t c).t:=by
     intro t;induction t using ind with
     |h k nm i ts ih2=>
      intro ht c h;rw[yQ,yg]at ht;rw[ZS]at h ⊢;split
      ·rename_i he;rw[if_pos he]at h
       have hA:yq (fun k _ i _=>k=6->S i) (yZ (YJ l (xC l n)) ts c).ts:=by
         rw[yg];have hF:=qe (YJ l (xC l n)) (fun t r=>xo (fun k _ i _=>k=6->S i) t->xo (fun k _ i _=>k=6->S i) r) ts (fun t h c he ht=>ih2 t h ht c he) c he;generalize (yZ (YJ l (xC l n)) ts c).ts=us at hF;have h2:=ht.2;clear he h ih2 ht;induction hF with
         |nil=>simp
         |cons h1 _ ih3=>
          intro u hu;rcases List.mem_cons.1 hu with rfl |hu
          ·exact h1 (h2 _ (by simp))
          ·exact ih3 (fun a ha=>h2 a (by simp[ha])) u hu
       cases hs:Qw l k i with
       |none=>
        rw[Qf hs];exact XE (fun e=>absurd e (by decide)) ((yQ _ _ _ _).2 ⟨ht.1,hA⟩)
       |some m=>
        rw[qi hs]at h ⊢;have h:(exR l n m (yZ (YJ l (xC l n)) ts c).ts (yZ (YJ l (xC l n)) ts c).w).e=0:=h;show xo _ (exR l n m _ _).t;unfold exR at h ⊢;split
        ·rename_i h1;rw[if_pos h1]at h;simp at h
        ·rename_i h1;rw[if_neg h1]at h;split
         ·rename_i h2;rw[if_pos h2]at h;exact absurd h h2
         ·rename_i h2;rw[if_neg h2]at h;obtain⟨h6,h0,hl,hm,hml,hmv⟩:=ZG hs;have ho:=XG (Decidable.not_not.1 h2);refine ih _ _ ?_ h (QR l n _ _ (xq ho.1 ho.2) h);refine Xi (fun _ _ _ _ h e=>absurd e (by decide)) (fun e=>absurd e (by decide)) ?_ hA;match hv':m.value,hmv with
          |v :: r,_=>
           show xo _ v;have hvm:v∈m.value:=by rw[hv'];simp
           rw[xM v (hv m hml v hvm)];intro j hj;refine hc i (ht.1 h6) j ?_;unfold zt;rw[if_pos h0,hm];show j∈xV m;unfold xV;exact List.mem_append.2 (.inr (List.mem_flatMap.2 ⟨v,hvm,hj⟩))
      ·exact zv (fun e=>absurd e (by decide))
   exact key t hN c h
theorem zE2{l:List Mv}(hA:Acy l)(hG:StG l)(hT:∀ m∈l,m.type.wf=0)(hV:∀ m∈l,∀ v∈m.value,v.wf=0){i:Int}(h0:0<=i)(hi:i<l.length)(he:yf l (typeOf l i)=0):∀ j∈Tm.zP (zz l (typeOf l i)),j<l.length/\rk l j<rk l i:=by
  obtain⟨m,hm,hmi,ht⟩:=qp h0 hi
  have hs:∀ j∈Tm.zP m.type,j∈zt l i:=by
    intro j hj;unfold zt;rw[if_pos h0,hmi];exact List.mem_append.2 (.inl hj)
  have he2:=he;unfold yf at he2;rw[ht,if_neg (by rw[hT m hm];simp)]at he2;split at he2
  ·omega
  intro j hj;have e1:zz l (typeOf l i)=(xC l 16385 m.type 0).t:=by unfold zz;rw[if_pos he,ht]
  rw[e1]at hj;refine zDq l 16385 m.type (fun j=>j<l.length/\rk l j<rk l i) ?_ ?_ (hT m hm) hV 0 he2 j hj
  ·rintro k ⟨hk,hr⟩ j hj;by_cases h:0<=k
   ·have h1:=zGi hA h hk hj (.inr trivial);refine⟨?_,by omega⟩;unfold zt at hj;rw[if_pos h,List.getElem?_eq_getElem (by omega)]at hj;have hg:=hG.mv _ (List.getElem_mem (show k.toNat<l.length by omega));rcases List.mem_append.1 hj with hj |hj
    ·exact Z9 hg.kn.1 j hj
    ·obtain⟨v,hv,hj⟩:=List.mem_flatMap.1 hj;exact Z9 (hg.kn.2 v hv) j hj
   ·unfold zt at hj;rw[if_neg h]at hj;cases hj
  ·intro j hj;exact⟨Z9 (hG.mv m hm).kn.1 j hj,zGi hA h0 hi (hs j hj) (.inr trivial)⟩
end
section
open Tm Go.Proofs.YthgmimncdjhgnaaGreat
open Classical in
noncomputable def xz (l:List Mv) (is:List Int) (i:Int):Bool:=decide (∃ x∈is,Zx l x i)
noncomputable def ZH (l:List Mv) (i:Int) (m:Tm):Int:=
  if ¬(0<=i/\i<l.length)then 3 else if(match l[i.toNat]? with |some v=>v.value |none=>[])≠[]then 53 else if yI m l.length≠0 then yI m l.length else if xz l (Tm.zP m) i=true then 51 else 0
def Z7(l:List Mv)(i:Int)(m:Tm):List Mv:=match l[i.toNat]? with |some v=>l.set i.toNat ⟨v.name,v.type,[m]⟩|none=>l
noncomputable def Y4 (l:List Mv) (i:Int) (m:Tm):List Mv:=if ZH l i m≠0 then l else Z7 l i m
def mvE(n:Nat)(i:Nat)(m:Mv):Int:=if yV i m.name m.type≠0 then yV i m.name m.type else if 1<m.value.length then 7 else zl (fun v=>yI v n) m.value
def ZT(n:Nat):Nat->List Mv->Int×Int
  |i,[]=>(i,0)
  |i,m :: ms=>if mvE n i m≠0 then(i,mvE n i m)else ZT n (i+1) ms
open Classical in
noncomputable def qj (l:List Mv):Nat->Nat->Int×Int
  |i,0=>(i,0)
  |i,k+1=>if ∃ j∈zt l i,Zx l j i then((i:Int),51)else qj l (i+1) k
noncomputable def Z8 (l:List Mv):Int×Int:=if(ZT l.length 0 l).2≠0 then ZT l.length 0 l else qj l 0 l.length
structure xk(l:List Mv):Prop where
  len:l.length<=40
  ok:∀ i(h:i<l.length),yV i l[i].name l[i].type=0
  val:∀ m∈l,m.value.length<=1/\∀ v∈m.value,yI v l.length=0
  ar:∀ m∈l,m.type.size<=200/\∀ v∈m.value,v.size<=200
  acy:Acy l
structure qf(l:List Mv):Prop where
  len:l.length<=40
  ok:∀ i(h:i<l.length),yV i l[i].name l[i].type=0
  val:∀ m∈l,m.value.length<=1/\∀ v∈m.value,yI v l.length=0
  kn:∀ m∈l,xo (fun _ _ _ z=>z<=200) m.type/\∀ v∈m.value,xo (fun _ _ _ z=>z<=200) v
  acy:Acy l
theorem xk.plz{l:List Mv}(h:xk l):qf l:=⟨h.len,h.ok,h.val,fun m hm=>⟨Qu _ (h.ar m hm).1,fun v hv=>Qu _ ((h.ar m hm).2 v hv)⟩,h.acy⟩
theorem Zp{n:Int}{name:List UInt8}{a:Tm}(h:yV n name a=0):(name=[]\/isName name=true)/\a.wf=0/\a.zX=true/\a.small=true/\a.scope<=0/\(∀ i∈Tm.zP a,i<n)/\n<2048:=by
  unfold yV at h;split at h
  ·omega
  rename_i h1;split at h
  ·rename_i h2;exact absurd h h2
  rename_i h2;split at h
  ·omega
  rename_i h3;split at h
  ·omega
  rename_i h4;split at h
  ·omega
  rename_i h5;have h2:a.wf=0:=by simpa using h2
  have h3:a.zX=true/\a.small=true:=by simpa using h3
  unfold zAF at h4;rw[h2]at h4;simp only[Bool.or_eq_true,not_or,decide_eq_true_eq,List.any_eq_true,not_exists,not_and]at h4;refine⟨?_,h2,h3.1,h3.2,?_,fun i hi=>?_,by omega⟩
  ·by_cases hn:name=[]
   ·exact .inl hn
   ·refine .inr ?_;cases hb:isName name with
    |true=>rfl
    |false=>exact absurd ⟨hn,hb⟩ h1
  ·have:=h4.1;rw[if_pos (by rfl)]at this;omega
  ·have:=h4.2 i hi;omega
theorem xU{n:Int}{a:Tm}(h:yI a n=0):a.wf=0/\a.isObj=true/\a.small=true/\a.scope<=0/\(∀ i∈Tm.zP a,i<n):=by
  unfold yI at h;split at h
  ·rename_i h2;exact absurd h h2
  rename_i h2;split at h
  ·omega
  rename_i h3;split at h
  ·omega
  rename_i h4;have h2:a.wf=0:=by simpa using h2
  have h3:a.isObj=true/\a.small=true:=by simpa using h3
  unfold zAF at h4;rw[h2]at h4;simp only[Bool.or_eq_true,not_or,decide_eq_true_eq,List.any_eq_true,not_exists,not_and]at h4;refine⟨h2,h3.1,h3.2,?_,fun i hi=>?_⟩
  ·have:=h4.1;rw[if_pos (by rfl)]at this;omega
  ·have:=h4.2 i hi;omega
theorem zD8{n:Int}{a:Tm}(h1:a.isObj=true)(h2:a.small=true)(h3:a.scope<=0)(h4:∀ i∈Tm.zP a,i<n):yI a n=0:=by
  have hw:=xq h1 h2;unfold yI;rw[if_neg (by simp[hw]),if_neg (by simp[h1,h2]),if_neg];unfold zAF;simp only[hw,Bool.or_eq_true,not_or,decide_eq_true_eq,List.any_eq_true,not_exists,not_and];exact⟨by rw[if_pos (by rfl)];omega,fun i hi=>by have:=h4 i hi;omega⟩
theorem qf.qR{l:List Mv}(h:qf l):StG l:=by
  refine⟨h.len,fun m hm=>?_⟩;obtain⟨i,hi,rfl⟩:=List.getElem_of_mem hm;obtain⟨_,h1,h2,h3,h4,h5,_⟩:=Zp (h.ok i hi);obtain⟨h6,h7⟩:=h.val _ hm;obtain⟨h8,h9⟩:=h.kn _ hm;refine⟨⟨h2,h3⟩,fun v hv=>?_,h6,qX _ ((xM _ h1).2 (fun j hj=>by have:=h5 j hj;omega)) h8,fun v hv=>?_⟩
  ·obtain⟨_,h10,h11,_⟩:=xU (h7 v hv);exact⟨h10,h11⟩
  ·obtain⟨h10,_,_,_,h11⟩:=xU (h7 v hv);exact qX _ ((xM _ h10).2 h11) (h9 v hv)
theorem xk.qR{l:List Mv}(h:xk l):StG l:=h.plz.qR
theorem qf.XD{l:List Mv}(h:qf l):∀ m∈l,m.type.wf=0:=by
  intro m hm;obtain⟨i,hi,rfl⟩:=List.getElem_of_mem hm;exact(Zp (h.ok i hi)).2.1
theorem qf.zEW{l:List Mv}(h:qf l):∀ m∈l,∀ v∈m.value,v.wf=0:=fun m hm v hv=>(xU ((h.val m hm).2 v hv)).1
theorem xk.XD{l:List Mv}(h:xk l):∀ m∈l,m.type.wf=0:=h.plz.XD
theorem xk.zEW{l:List Mv}(h:xk l):∀ m∈l,∀ v∈m.value,v.wf=0:=h.plz.zEW
theorem xk.nil:xk []:=by
  refine⟨by simp,fun i h=>(by simp at h),fun m h=>(by cases h),fun m h=>(by cases h),fun i h1 j hj=>?_⟩;unfold zt at hj;split at hj
  ·simp at hj
  ·cases hj
theorem zBj{l:List Mv}{i:Nat}(h:i<l.length):zt l (i:Int)=xV l[i]:=by
  unfold zt;rw[if_pos (by omega),List.getElem?_eq_getElem (by simpa using h)];rfl
theorem XH{l:List Mv}{m:Mv}{i:Int}(h:i<l.length):zt (l++[m]) i=zt l i:=by
  unfold zt;split
  ·rw[List.getElem?_append_left (by omega)]
  ·rfl
theorem QJ{l:List Mv}{m:Mv}(hk:∀ i:Int,∀ j∈zt l i,j<l.length){i j:Int}(h:Zx (l++[m]) i j):i<l.length->Zx l i j:=by
  induction h with
  |refl _=>intro h;exact .refl h
  |step h hj hk' ih=>
   intro hi;rw[XH hi]at hj;exact .step hi hj (ih (hk _ _ hj))
theorem zDb{l:List Mv}(hG:StG l):∀ i:Int,∀ j∈zt l i,j<l.length:=by
  intro i j hj;unfold zt at hj;split at hj
  ·split at hj
   ·rename_i m hm;have hg:=hG.mv m (List.mem_of_getElem? hm);rcases List.mem_append.1 hj with hj |hj
    ·exact Z9 hg.kn.1 j hj
    ·obtain⟨v,hv,hj⟩:=List.mem_flatMap.1 hj;exact Z9 (hg.kn.2 v hv) j hj
   ·cases hj
  ·cases hj
theorem xk.new{l:List Mv}(h:xk l){name:List UInt8}{a:Tm}(hl:l.length<40)(ha:a.size<=200):xk (zBL l name a):=by
  unfold zBL;split
  ·exact h
  ·rename_i hc;have hc:yV l.length name a=0:=by simpa using hc
   obtain⟨_,h1,h2,h3,h4,h5,h6⟩:=Zp hc;refine⟨by simp;omega,fun i hi=>?_,fun m hm=>?_,fun m hm=>?_,?_⟩
   ·rw[List.length_append,List.length_singleton]at hi;by_cases e:i<l.length
    ·rw[List.getElem_append_left e];exact h.ok i e
    ·obtain rfl:i=l.length:=by omega
     simpa using hc
   ·rcases List.mem_append.1 hm with hm |hm
    ·obtain⟨h7,h8⟩:=h.val m hm;refine⟨h7,fun v hv=>?_⟩;obtain⟨_,e1,e2,e3,e4⟩:=xU (h8 v hv);exact zD8 e1 e2 e3 (fun i hi=>by have:=e4 i hi;simp;omega)
    ·obtain rfl:=List.mem_singleton.1 hm;exact⟨by simp,fun v hv=>by cases hv⟩
   ·rcases List.mem_append.1 hm with hm |hm
    ·exact h.ar m hm
    ·obtain rfl:=List.mem_singleton.1 hm;exact⟨ha,fun v hv=>by cases hv⟩
   ·intro i hi j hj hr;have hk:=zDb h.qR;by_cases e:i<l.length
    ·rw[XH e]at hj;exact h.acy i e j hj (QJ hk hr (hk _ _ hj))
    ·have hi':i=l.length:=by simp at hi;omega
     subst hi'
     have hj':j∈xV (⟨name,a,[]⟩:Mv):=by
       rw[show((l.length:Nat):Int)=((l.length:Nat):Int)from rfl,zBj (by simp)]at hj;simpa using hj
     have hjl:j<l.length:=by
       unfold xV at hj';simp only[List.flatMap_nil,List.append_nil]at hj';exact h5 j hj'
     have:=(QJ hk hr hjl).lt';omega
theorem YM{l:List Mv}{i:Int}{v:Mv}(h:l[i.toNat]? =some v)(m:Tm):Z7 l i m=l.set i.toNat ⟨v.name,v.type,[m]⟩:=by unfold Z7;rw[h]
theorem yh(l:List Mv)(i:Int)(m:Tm):(Z7 l i m).length=l.length:=by unfold Z7;split<;>simp
theorem zB1{l:List Mv}{i:Int}{m:Tm}(h:ZH l i m=0):(0<=i/\i<l.length)/\(∃ v,l[i.toNat]? =some v/\v.value=[]/\v∈l)/\yI m l.length=0/\∀ x∈Tm.zP m,¬Zx l x i:=by
  unfold ZH at h;by_cases h1:0<=i/\i<l.length;case neg=>rw[if_pos h1]at h;omega
  rw[if_neg (by simpa using h1)]at h;have hi:i.toNat<l.length:=by omega
  rw[List.getElem?_eq_getElem hi]at h;simp only at h;by_cases h2:l[i.toNat].value≠[]
  ·rw[if_pos h2]at h;omega
  rw[if_neg h2]at h;by_cases h3:yI m l.length≠0
  ·rw[if_pos h3]at h;exact absurd h h3
  rw[if_neg h3]at h;by_cases h4:xz l (Tm.zP m) i=true
  ·rw[if_pos h4]at h;omega
  refine⟨h1,⟨l[i.toNat],List.getElem?_eq_getElem hi,by simpa using h2,List.getElem_mem _⟩,by simpa using h3,fun x hx hr=>h4 ?_⟩;unfold xz;classical
  exact decide_eq_true ⟨x,hx,hr⟩
theorem zFU{l:List Mv}{i:Int}{m:Tm}{v:Mv}(h1:0<=i/\i<l.length)(h2:l[i.toNat]? =some v)(h3:v.value=[])(h4:yI m l.length=0)(h5:∀ x∈Tm.zP m,¬Zx l x i):ZH l i m=0:=by
  unfold ZH;rw[if_neg (by simp[h1]),if_neg (by rw[h2];simp[h3]),if_neg (by simp[h4]),if_neg];unfold xz;classical
  intro h;obtain⟨x,hx,hr⟩:=of_decide_eq_true h;exact h5 x hx hr
section
variable {l:List Mv}{i:Int}{m:Tm}{v:Mv} (h0:0<=i) (hi:i<l.length) (hv:l[i.toNat]? =some v) (hn:v.value=[])
include h0 hv in
theorem QO{k:Int}(hk:k≠i):zt (Z7 l i m) k=zt l k:=by
  rw[YM hv];unfold zt;split
  ·rw[List.getElem?_set_ne (by omega)]
  ·rfl
include h0 hi hv hn in
theorem zAZ:zt (Z7 l i m) i=zt l i++Tm.zP m:=by
  rw[YM hv];unfold zt;rw[if_pos h0,if_pos h0,List.getElem?_set_self (by omega),hv];unfold xV;simp[hn]
include h0 hi hv hn in
theorem zDl{a b:Int}(h:Zx (Z7 l i m) a b):Zx l a b\/(Zx l a i/\∃ x∈Tm.zP m,Zx (Z7 l i m) x b):=by
  induction h with
  |refl h=>exact .inl (.refl (by rw[yh]at h;exact h))
  | @step a j k h hj hr ih=>
    rw[yh]at h;by_cases e:a=i
    ·subst e;rw[zAZ h0 hi hv hn]at hj;rcases List.mem_append.1 hj with hj |hj
     ·rcases ih with ih |⟨ih,hx⟩
      ·exact .inl (.step h hj ih)
      ·exact .inr ⟨.refl h,hx⟩
     ·exact .inr ⟨.refl h,j,hj,hr⟩
    ·rw[QO h0 hv e]at hj;rcases ih with ih |⟨ih,hx⟩
     ·exact .inl (.step h hj ih)
     ·exact .inr ⟨.step h hj ih,hx⟩
include h0 hi hv hn in
theorem zGI{a b:Int}(h:Zx (Z7 l i m) a b):¬Zx l a i->Zx l a b:=by
  intro ha;rcases zDl h0 hi hv hn h with h |h
  ·exact h
  ·exact absurd h.1 ha
include h0 hi hv hn in
theorem zF8(hA:Acy l)(hm:∀ x∈Tm.zP m,¬Zx l x i):Acy (Z7 l i m):=by
  intro k hk j hj hr;rw[yh]at hk;rcases zDl h0 hi hv hn hr with h |⟨h1,x,hx,h2⟩
  ·by_cases e:k=i
   ·subst e;rw[zAZ h0 hi hv hn]at hj;rcases List.mem_append.1 hj with hj |hj
    ·exact hA k hk j hj h
    ·exact hm j hj h
   ·rw[QO h0 hv e]at hj;exact hA k hk j hj h
  ·have h3:=zGI h0 hi hv hn h2 (hm x hx);by_cases e:k=i
   ·subst e;exact hm x hx h3
   ·rw[QO h0 hv e]at hj;exact hm x hx (h3.trans (.step hk hj h1))
end
theorem xk.solve{l:List Mv}(h:xk l){i:Int}{m:Tm}(hm:m.size<=200):xk (Y4 l i m):=by
  unfold Y4;split
  ·exact h
  ·rename_i hs;obtain⟨⟨h0,hi⟩,⟨v,hv,hn,hvl⟩,h3,h4⟩:=zB1 (by simpa using hs)
   have hmem:∀ u∈Z7 l i m,u∈l\/u=⟨v.name,v.type,[m]⟩:=by
     intro u hu;rw[YM hv]at hu;exact(List.mem_or_eq_of_mem_set hu)
   refine⟨by rw[yh];exact h.len,fun k hk=>?_,fun u hu=>?_,fun u hu=>?_,zF8 h0 hi hv hn h.acy h4⟩
   ·rw[yh]at hk;have hk2:=h.ok k hk
    have e:(Z7 l i m)[k]? =if i.toNat=k then some ⟨v.name,v.type,[m]⟩else l[k]? :=by
      rw[YM hv,List.getElem?_set];split
      ·rename_i e;subst e;simp[hk]
      ·rfl
    by_cases e2:i.toNat=k
    ·rw[if_pos e2]at e;subst e2;rw[List.getElem?_eq_getElem (by rw[yh];exact hk)]at e;rw[Option.some.inj e];rw[List.getElem?_eq_getElem hk]at hv;rw[<-Option.some.inj hv];exact hk2
    ·rw[if_neg e2,List.getElem?_eq_getElem (by rw[yh];exact hk),List.getElem?_eq_getElem hk]at e;rw[Option.some.inj e];exact hk2
   ·rw[yh];rcases hmem u hu with hu |rfl
    ·exact h.val u hu
    ·exact⟨by simp,fun x hx=>by obtain rfl:=List.mem_singleton.1 hx;exact h3⟩
   ·rcases hmem u hu with hu |rfl
    ·exact h.ar u hu
    ·exact⟨(h.ar v hvl).1,fun x hx=>by obtain rfl:=List.mem_singleton.1 hx;exact hm⟩
theorem X9{α:Type}(f:α->Int)(x:α)(h:f x=0):zl f [x]=0:=by
  unfold zl;rw[if_neg (by simp[h])];unfold zl;rfl
theorem zFx(n:Nat)(l:List Mv):∀ k,(∀ i(h:i<l.length),mvE n (k+i) l[i]=0)->ZT n k l=(((k+l.length:Nat):Int),0):=by
  induction l with
  |nil=>intro k _;rfl
  |cons m ms ih=>
   intro k h;have h0:=h 0 (by simp);simp only[Nat.add_zero,List.getElem_cons_zero]at h0;rw[ZT,if_neg (by simp[h0]),ih (k+1) (fun i hi=>by have:=h (i+1) (by simpa using hi);rw[show k+1+i=k+(i+1) by omega];simpa using this)];simp only[List.length_cons];rw[show k+1+ms.length=k+(ms.length+1) by omega]
theorem zFv{l:List Mv}(hA:Acy l)(k:Nat):∀ i,i+k<=l.length->qj l i k=(((i+k:Nat):Int),0):=by
  induction k with
  |zero=>intro i _;rfl
  |succ k ih=>
   intro i hi;rw[qj,if_neg,ih (i+1) (by omega),show i+1+k=i+(k+1) by omega];rintro⟨j,hj,hr⟩;exact hA i (by omega) j hj hr
theorem qf.mvE{l:List Mv}(h:qf l)(i:Nat)(hi:i<l.length):mvE l.length i l[i]=0:=by
  unfold LF.mvE;obtain⟨h1,h2⟩:=h.val _ (List.getElem_mem hi);rw[if_neg (by simp[h.ok i hi]),if_neg (by omega)];match hv:l[i].value with
  | []=>rfl
  | [v]=>exact X9 _ v (h2 v (by rw[hv];simp))
  |a :: b :: r=>rw[hv]at h1;simp at h1
theorem qf.valid{l:List Mv}(h:qf l):Z8 l=((l.length:Int),0):=by
  unfold Z8;have h1:=zFx l.length l 0 (fun i hi=>by rw[Nat.zero_add];exact h.mvE i hi);rw[h1,if_neg (by simp)];rw[zFv h.acy l.length 0 (by omega),Nat.zero_add]
theorem xk.valid{l:List Mv}(h:xk l):Z8 l=((l.length:Int),0):=h.plz.valid
end
section
open Tm Go.Proofs.YthgmimncdjhgnaaGreat
theorem zAy{l:List Mv}{t:Tm}(h:yf l t=0):t.wf=0/\(∀ i∈Tm.zP t,i<l.length)/\(xC l 16385 t 0).e=0:=by
  unfold yf at h;split at h
  ·rename_i h1;exact absurd h h1
  rename_i h1;split at h
  ·omega
  rename_i h2;refine⟨by simpa using h1,fun i hi=>?_,h⟩;simp only[List.any_eq_true,not_exists,not_and,decide_eq_true_eq]at h2;have:=h2 i hi;omega
end
end Go.LF
