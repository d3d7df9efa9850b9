/- A property of all nodes that a substitution keeps: variables may have any index. No program is in sight here. -/
import Derived.Test.YthgmimncdjhgnaaGreatDoorYCH
import Derived.Test.YthgmimncdjhgnaaGreatDoorYDC
import Derived.Test.YthgmimncdjhgnaaGreatDoorYEA
import Derived.Test.YthgmimncdjhgnaaGreatDoorYFA
import Derived.Test.YthgmimncdjhgnaaGreatDoorYSC
namespace Go.LF.Tm
mutual
def xA(N:Int->List UInt8->Int->Nat->Prop):Tm->Prop
  |mk k n i l=>N k n i l.length/\xf N l
def xf(N:Int->List UInt8->Int->Nat->Prop):List Tm->Prop
  | []=>True
  |t :: ts=>xA N t/\xf N ts
end
section
variable {N:Int->List UInt8->Int->Nat->Prop}
theorem zz(k n i l):xA N (mk k n i l)↔N k n i l.length/\xf N l:=by rw[xA]
theorem zq(l:List Tm):xf N l↔∀ t∈l,xA N t:=by
  induction l with
  |nil=>simp[xf]
  |cons t ts ih=>simp[xf,ih]
theorem ZG:xf N []:=by rw[xf];trivial
theorem zCP{M:Int->List UInt8->Int->Nat->Prop}(hNM:∀ k n i z,N k n i z->M k n i z)(t:Tm):xA N t->xA M t:=by
  induction t using ind with
  |h k n i l ih=>
   intro h
   rw[zz,zq]at h ⊢
   exact⟨hNM _ _ _ _ h.1,fun u hu=>ih u hu (h.2 u hu)⟩
theorem Z9{M:Int->List UInt8->Int->Prop}(t:Tm):∀ b,xA (fun k n i _=>M k n i) t↔∀ x∈nodes b t,M x.k x.n x.i:=by
  induction t using ind with
  |h k n i l ih=>
   intro b
   have key:∀(l':List Tm),(∀ t∈l',t∈l)->∀ j,xf (fun k n i _=>M k n i) l'↔∀ x∈za b k j l',M x.k x.n x.i:=by
     intro l'
     induction l' with
     |nil=>intro _ j;simp[xf,za]
     |cons t ts ih2=>
      intro hm j
      rw[xf,za,ih t (hm t (by simp)) (b+under k j),ih2 (fun t ht=>hm t (by simp[ht])) (j+1)]
      simp only[List.mem_append]
      exact⟨fun h x hx=>hx.elim (h.1 x) (h.2 x),fun h=>⟨fun x hx=>h x (.inl hx),fun x hx=>h x (.inr hx)⟩⟩
   rw[zz,ze,key l (fun _ h=>h) 0]
   simp
theorem zAg{c:Nat}(t:Tm):t.size<=c->xA (fun _ _ _ z=>z<=c) t:=by
  induction t using ind with
  |h k n i l ih=>
   intro h
   rw[zW]at h
   have:=zQ l
   rw[zz,zq]
   exact⟨by omega,fun u hu=>ih u hu (by have:=zY hu;omega)⟩
variable (hv:∀ n i i' z,N 5 n i z->N 5 n i' z) (h0:N 0 [] 0 0)
include h0 in
theorem zn:xA N zU:=(zz _ _ _ _).2 ⟨h0,ZG⟩
include hv in
theorem zJo(f:To)(t:Tm):∀ b,xA N t->xA N (mv f b t):=by
  induction t using ind with
  |h k n i l ih=>
   intro b h
   rw[zz]at h
   rw[X4,zz]
   refine⟨?_,?_⟩
   ·by_cases hk:k=5
    ·subst hk;rw[Xv];exact hv _ _ _ _ h.1
    ·unfold QF;rw[if_neg (fun e=>hk e.1),Xv];exact h.1
   have key:∀(l':List Tm),(∀ t∈l',t∈l)->xf N l'->∀ j,xf N (YK f b k j l'):=by
     intro l'
     induction l' with
     |nil=>intro _ _ j;rw[YK];exact ZG
     |cons t ts ih2=>
      intro hm hn j
      rw[xf]at hn
      rw[YK,xf]
      exact⟨ih t (hm t (by simp)) _ hn.1,ih2 (fun t ht=>hm t (by simp[ht])) hn.2 (j+1)⟩
   exact key l (fun _ h=>h) h.2 0
include h0 in
theorem qS{t:Tm}{w:Nat}(h:xA N t):xA N (Zs t w).t:=by
  unfold Zs
  split
  ·exact h
  ·exact zn h0
theorem zIh(f:Int->Tm->Nat->xZ)(d k:Int)(l:List Tm)(hf:∀ t∈l,∀ d w,xA N (f d t w).t):∀ j w,xf N (yq f d k j l w).ts:=by
  induction l with
  |nil=>intro j w;rw[yq];exact ZG
  |cons t ts ih=>
   intro j w
   rw[yq]
   split
   ·split
    ·show xf N (_ :: _)
     rw[xf]
     exact⟨hf t (by simp) _ _,ih (fun t ht=>hf t (by simp[ht])) _ _⟩
    ·exact ZG
   ·exact ZG
include h0 in
theorem zFI(f:Tm->Sm->Tm->Nat->xZ)(hf:∀ u s b w,xA N u->xA N b->xA N (f u s b w).t)(us:List Tm):∀(m:Tm)(ss:List Sm)(w:Nat),xA N m->xf N us->xA N (Z4 f m ss us w).t:=by
  induction us with
  |nil=>
   intro m ss w hm _
   unfold Z4
   split
   ·exact zn h0
   ·exact qS h0 hm
  |cons u us ih=>
   intro m ss w hm hu
   rw[xf]at hu
   cases ss with
   |nil=>unfold Z4;exact zn h0
   |cons s ss=>
    rw[Z4]
    have hb:xA N (m.args.headD zU):=by
      cases m with
      |mk k n i l=>
       rw[zz]at hm
       cases l with
       |nil=>exact zn h0
       |cons t ts=>
        have:=hm.2
        rw[xf]at this
        exact this.1
    have hf1:=hf u s _ w hu.1 hb
    split
    ·split
     ·exact ih _ _ _ hf1 hu.2
     ·exact hf1
    ·exact zn h0
include hv h0 in
theorem zIR(f:Tm->Sm->Tm->Nat->xZ)(hf:∀ u s b w,xA N u->xA N b->xA N (f u s b w).t)(ms:List Tm)(ss:List Sm)(d k:Int)(nm:List UInt8)(i:Int)(us:List Tm)(w:Nat)
    (hms:xf N ms) (hn:N k nm i us.length) (hu:xf N us):xA N (sbN f ms ss d k nm i us w).t:=by
  unfold sbN
  split
  ·rename_i hk
   split
   ·rename_i hlt
    split
    ·exact zn h0
    ·unfold ap
     split
     ·refine zFI h0 f hf us _ _ _ (zJo hv _ _ _ ?_) hu
      by_cases h:(i - d).toNat<ms.length
      ·rw[List.getD,List.getElem?_eq_getElem h]
       exact(zq ms).1 hms _ (List.getElem_mem _)
      ·rw[List.getD,List.getElem?_eq_none (by omega)]
       exact zn h0
     ·exact zn h0
   ·refine qS h0 ((zz _ _ _ _).2 ⟨?_,hu⟩)
    obtain⟨rfl,_⟩:=hk
    exact hv _ _ _ _ hn
  ·exact qS h0 ((zz _ _ _ _).2 ⟨hn,hu⟩)
include hv h0 in
theorem zJk(n:Nat):∀ ms ss d t w,xf N ms->xA N t->xA N (sb n ms ss d t w).t:=by
  induction n with
  |zero=>intro ms ss d t w _ _;rw[sb];exact zn h0
  |succ n ih=>
   intro ms ss d t w hms ht
   rw[sb]
   split
   ·exact zn h0
   ·split
    ·rename_i hA
     cases t with
     |mk k nm i l=>
      simp only[zCD,zBs,zAM,Ya]at *
      rw[zz]at ht
      refine zIR hv h0 _ (fun u s b w hu hb=>ih [u] [s] 0 b w ?_ hb) ms ss d k nm i _ _ hms (by rw[YT _ _ _ _ _ _ hA];exact ht.1) ?_
      ·rw[xf];exact⟨hu,ZG⟩
      ·exact zIh _ d k l (fun t ht' d w=>ih ms ss d t w hms ((zq l).1 ht.2 t ht')) 0 (w+1)
    ·exact zn h0
include hv h0 in
theorem zJQ(n:Nat)(m:Tm)(ss:List Sm)(us:List Tm)(w:Nat)(hm:xA N m)(hu:xf N us):xA N (ap (fun u s b w'=>sb n [u] [s] 0 b w') m ss us w).t:=by
  unfold ap
  split
  ·exact zFI h0 _ (fun u s b w h1 h2=>zJk hv h0 n [u] [s] 0 b w (by rw[xf];exact⟨h1,ZG⟩) h2) us m ss w hm hu
  ·exact zn h0
end
end Go.LF.Tm
namespace Go.LF
section
open Tm
mutual
def Zq(g:Int->Int->List Tm->Nat->Option xZ):Tm->Nat->xZ
  |mk k n i l,c=>if(yv g l c).e=0 then((g k i (yv g l c).ts (yv g l c).w).getD (Zs (mk k n i (yv g l c).ts) (yv g l c).w))else⟨(yv g l c).e,zU,(yv g l c).w⟩
def yv(g:Int->Int->List Tm->Nat->Option xZ):List Tm->Nat->zJ3
  | [],c=>⟨0,[],c⟩
  |t :: ts,c=>
   if(Zq g t c).e=0 then
     (if(yv g ts (Zq g t c).w).e=0 then⟨0,(Zq g t c).t :: (yv g ts (Zq g t c).w).ts,(yv g ts (Zq g t c).w).w⟩
       else⟨(yv g ts (Zq g t c).w).e,[],(yv g ts (Zq g t c).w).w⟩)
   else⟨(Zq g t c).e,[],(Zq g t c).w⟩
end
theorem YX(g k n i l c):Zq g (mk k n i l) c=if(yv g l c).e=0 then((g k i (yv g l c).ts (yv g l c).w).getD (Zs (mk k n i (yv g l c).ts) (yv g l c).w))else⟨(yv g l c).e,zU,(yv g l c).w⟩:=by rw[Zq]
theorem XC(g:Int->Int->List Tm->Nat->Option xZ)(l:List Tm):∀(j c:Nat),yv g l c=yq (fun _ t c=>Zq g t c) 0 0 j l c:=by
  induction l with
  |nil=>intro j c;rw[yv,yq]
  |cons t ts ih=>intro j c;rw[yv,yq,ih (j+1)]
theorem zA1(g:Int->Int->List Tm->Nat->Option xZ)(l:List Tm)(c j:Nat)(h:j<l.length)(h0:(yv g (l.take j) c).e=0):yv g (l.take (j+1)) c=
    if(Zq g l[j] (yv g (l.take j) c).w).e=0 then⟨0,(yv g (l.take j) c).ts++[(Zq g l[j] (yv g (l.take j) c).w).t],(Zq g l[j] (yv g (l.take j) c).w).w⟩
    else⟨(Zq g l[j] (yv g (l.take j) c).w).e,[],(Zq g l[j] (yv g (l.take j) c).w).w⟩:=by
  rw[XC g _ 0,XC g _ 0]at *
  rw[XW _ _ _ _ _ _ h h0]
theorem zHY(g:Int->Int->List Tm->Nat->Option xZ)(l:List Tm)(c j:Nat)(h0:(yv g (l.take j) c).e≠0):yv g l c=yv g (l.take j) c:=by
  rw[XC g _ 0,XC g _ 0]at *
  exact zC4 _ _ _ _ _ _ h0
theorem zEU(g:Int->Int->List Tm->Nat->Option xZ)(l:List Tm)(c:Nat)(h:(yv g l c).e=0):(yv g l c).ts.length=l.length:=by
  rw[XC g _ 0]at *;exact YT _ _ _ _ _ _ h
theorem Qc(g:Int->Int->List Tm->Nat->Option xZ)(c:Nat):yv g [] c=⟨0,[],c⟩:=by rw[yv]
theorem Q6(g:Int->Int->List Tm->Nat->Option xZ)(t:Tm)(ts:List Tm)(c:Nat):yv g (t :: ts) c=if(Zq g t c).e=0 then
      (if(yv g ts (Zq g t c).w).e=0 then⟨0,(Zq g t c).t :: (yv g ts (Zq g t c).w).ts,(yv g ts (Zq g t c).w).w⟩
        else⟨(yv g ts (Zq g t c).w).e,[],(yv g ts (Zq g t c).w).w⟩)
    else⟨(Zq g t c).e,[],(Zq g t c).w⟩:=by rw[yv]
def slv(l:List Mv)(k i:Int):Option Mv:=if k=6/\0<=i then(match l[i.toNat]? with |some m=>if m.value=[]then none else some m |none=>none)else none
theorem Z8{l:List Mv}{k i:Int}{m:Mv}(h:slv l k i=some m):k=6/\0<=i/\i<l.length/\l[i.toNat]? =some m/\m∈l/\m.value≠[]:=by
  unfold slv at h
  split at h
  ·rename_i hk
   split at h
   ·rename_i m' hm
    split at h
    ·cases h
    ·rename_i hv
     cases h
     obtain⟨h1,h2⟩:=List.getElem?_eq_some_iff.1 hm
     exact⟨hk.1,hk.2,by omega,hm,h2 ▸ List.getElem_mem _,hv⟩
   ·cases h
  ·cases h
def XU(l:List Mv)(f:Tm->Nat->xZ)(k i:Int)(us:List Tm)(c:Nat):Option xZ:=
  (slv l k i).map fun m=>if 16384<c+1 then⟨2,zU,c+1⟩else
    if qb (m.value.headD zU) (er m.type) us≠0 then⟨qb (m.value.headD zU) (er m.type) us,zU,c+1⟩else f (Xt (m.value.headD zU) (er m.type) us) (c+1)
def ZH(l:List Mv):Nat->Tm->Nat->xZ
  |0=>fun _ c=>⟨2,zU,c+1⟩
  |n+1=>Zq (XU l (ZH l n))
theorem xO(l:List Mv)(n:Nat):ZH l (n+1)=Zq (XU l (ZH l n)):=by rw[ZH]
def exR(l:List Mv)(n:Nat)(m:Mv)(us:List Tm)(c:Nat):xZ:=if 16384<c+1 then⟨2,zU,c+1⟩else
    if qb (m.value.headD zU) (er m.type) us≠0 then⟨qb (m.value.headD zU) (er m.type) us,zU,c+1⟩else ZH l n (Xt (m.value.headD zU) (er m.type) us) (c+1)
theorem zDj{l:List Mv}{n:Nat}{k i:Int}{m:Mv}(h:slv l k i=some m)(us:List Tm)(c:Nat):XU l (ZH l n) k i us c=some (exR l n m us c):=by unfold XU exR;rw[h];rfl
theorem zDF{l:List Mv}{f:Tm->Nat->xZ}{k i:Int}(h:slv l k i=none)(us:List Tm)(c:Nat):XU l f k i us c=none:=by unfold XU;rw[h];rfl
structure MvG(n:Int)(m:Mv):Prop where
  YJ:m.type.zO=true/\m.type.small=true
  val:∀ v∈m.value,v.isObj=true/\v.small=true
  one:m.value.length<=1
  kn:xA (fun k _ i z=>(k=6->i<n)/\z<=200) m.type/\∀ v∈m.value,xA (fun k _ i z=>(k=6->i<n)/\z<=200) v
abbrev Kn(n:Int)(t:Tm):Prop:=xA (fun k _ i z=>(k=6->i<n)/\z<=200) t
structure StG(l:List Mv):Prop where
  len:l.length<=40
  mv:∀ m∈l,MvG l.length m
theorem StG.slv{l:List Mv}(h:StG l){k i:Int}{m:Mv}(hs:slv l k i=some m):∃ v,m.value=[v]/\v.isObj=true/\v.small=true/\Kn l.length v/\m.type.zO=true/\m.type.small=true:=by
  obtain⟨_,_,_,_,hm,hv⟩:=Z8 hs
  have hg:=h.mv m hm
  have h1:=hg.one
  match hm':m.value,hv with
  | [v],_=>
    rw[hm']at h1
    have h2:=hg.val v (by rw[hm'];simp)
    exact⟨v,rfl,h2.1,h2.2,hg.kn.2 v (by rw[hm'];simp),hg.YJ.1,hg.YJ.2⟩
  |a :: b :: r,_=>rw[hm']at h1;simp at h1
theorem zEX{m:Tm}{s:Sm}{us:List Tm}(h:qb m s us=0):(m.isObj=true/\m.small=true)/\(∀ u∈us,u.isObj=true/\u.small=true)/\(Tm.ap (Tm.sb1 262145) m s.args us 0).e=0/\Xt m s us=(Tm.ap (Tm.sb1 262145) m s.args us 0).t:=by
  have h0:=h
  unfold qb at h
  split at h
  ·rename_i h1;exact absurd h h1
  split at h
  ·rename_i h1;exact absurd h h1
  split at h
  ·omega
  rename_i h1
  simp only[List.any_cons,Bool.or_eq_true,not_or,List.any_eq_true,Bool.not_eq_true',Bool.and_eq_false_iff]at h1
  refine⟨?_,fun u hu=>?_,h,by unfold Xt;rw[if_pos h0]⟩
  ·have:=h1.1
   simp only[Bool.not_eq_false]at this
   exact this
  ·have h2:=h1.2
   by_cases hc:u.isObj=true/\u.small=true
   ·exact hc
   ·exact absurd ⟨u,hu,by
      cases h3:u.isObj<;>cases h4:u.small<;>simp_all⟩ h2
theorem zFs(f:Tm->Sm->Tm->Nat->xZ)(m:Tm)(ss:List Sm)(us:List Tm)(w:Nat)(h:(ap f m ss us w).e=0):(ap f m ss us w).t.small=true:=by
  unfold ap at h ⊢
  split
  ·rename_i hl
   rw[if_pos hl]at h
   exact qa _ _ _ _ _ h
  ·rename_i hl
   rw[if_neg hl]at h
   simp at h
theorem zAW{m:Tm}{s:Sm}{us:List Tm}(h:qb m s us=0):(Xt m s us).isObj=true/\(Xt m s us).small=true:=by
  obtain⟨h1,h2,h3,h4⟩:=zEX h
  rw[h4]
  refine⟨?_,zFs _ _ _ _ _ h3⟩
  rcases zBh (sb1 262145) (fun u s b w hu hs hb hd=>Qb 262145 [u] [s] 0 b w (fun x hx=>by obtain rfl:x=u:=(by simpa using hx);exact⟨hu,hs⟩) (by omega) (by omega) hb) us m s.args 0 h2 h1.1 h1.2 with h5 |h5
  ·exact h5.2.1
  ·exact absurd h3 h5.1
theorem Q0{N:Int->List UInt8->Int->Nat->Prop}(hv:∀ n i i' z,N 5 n i z->N 5 n i' z)(h0:N 0 [] 0 0){m:Tm}{s:Sm}{us:List Tm}(hm:xA N m)(hu:xf N us):xA N (Xt m s us):=by
  unfold Xt
  split
  ·exact zJQ hv h0 262145 m s.args us 0 hm hu
  ·exact zn h0
theorem zGf{n:Int}:∀(_:List UInt8)(i i':Int)(z:Nat),((5:Int)=6->i<n)/\z<=200->((5:Int)=6->i'<n)/\z<=200:=fun _ _ _ _ h=>⟨fun e=>absurd e (by decide),h.2⟩
theorem zFP{n:Int}:((0:Int)=6->(0:Int)<n)/\0<=200:=⟨fun e=>absurd e (by decide),by decide⟩
inductive Pw{α β:Type}(P:α->β->Prop):List α->List β->Prop
  |nil:Pw P [] []
  |cons {a b l m} (h:P a b) (t:Pw P l m):Pw P (a :: l) (b :: m)
theorem Qa(g:Int->Int->List Tm->Nat->Option xZ)(P:Tm->Tm->Prop)(l:List Tm)(h:∀ t∈l,∀ c,(Zq g t c).e=0->P t (Zq g t c).t):∀ c,(yv g l c).e=0->Pw P l (yv g l c).ts:=by
  induction l with
  |nil=>intro c _;rw[Qc];exact .nil
  |cons t ts ih=>
   intro c h0
   rw[Q6]at h0 ⊢
   by_cases h1:(Zq g t c).e=0
   ·rw[if_pos h1]at h0 ⊢
    by_cases h2:(yv g ts (Zq g t c).w).e=0
    ·rw[if_pos h2]
     exact .cons (h t (by simp) c h1) (ih (fun t ht=>h t (by simp[ht])) _ h2)
    ·rw[if_neg h2]at h0;exact absurd h0 h2
   ·rw[if_neg h1]at h0;exact absurd h0 h1
theorem zI5(g:Int->Int->List Tm->Nat->Option xZ)(l:List Tm)(h:∀ t∈l,∀ c,c<=(Zq g t c).w):∀ c,c<=(yv g l c).w:=by
  have key:∀(l:List Tm),(∀ t∈l,∀ c,c<=(Zq g t c).w)->∀ j c,c<=(yq (fun _ t c=>Zq g t c) 0 0 j l c).w:=by
    intro l
    induction l with
    |nil=>intro _ j c;rw[yq];exact Nat.le_refl _
    |cons t ts ih=>
     intro h j c
     have h1:=h t (by simp) c
     have h2:=ih (fun t ht=>h t (by simp[ht])) (j+1) (Zq g t c).w
     rw[yq]
     split
     ·split
      ·exact Nat.le_trans h1 h2
      ·exact Nat.le_trans h1 h2
     ·exact h1
  intro c
  rw[XC g _ 0]
  exact key l h 0 c
theorem zJB(g:Int->Int->List Tm->Nat->Option xZ)(hg:∀ k i us c r,g k i us c=some r->c<=r.w)(t:Tm):∀ c,c<=(Zq g t c).w:=by
  induction t using ind with
  |h k n i l ih=>
   intro c
   have h1:=zI5 g l ih c
   rw[YX]
   split
   ·cases hq:g k i (yv g l c).ts (yv g l c).w with
    |none=>show c<=(Zs _ _).w;rw[Xh];exact h1
    |some r=>exact Nat.le_trans h1 (hg _ _ _ _ _ hq)
   ·exact h1
theorem zJZ(l:List Mv)(n:Nat):∀ t c,c<=(ZH l n t c).w:=by
  induction n with
  |zero=>intro t c;exact Nat.le_succ c
  |succ n ih=>
   intro t c
   rw[xO]
   refine zJB _ (fun k i us c r h=>?_) t c
   unfold XU at h
   obtain⟨m,_,rfl⟩:=Option.map_eq_some_iff.1 h
   split
   ·exact Nat.le_succ c
   ·split
    ·exact Nat.le_succ c
    ·exact Nat.le_trans (Nat.le_succ c) (ih _ _)
theorem zDB(l:List Mv)(n:Nat):∀ t c,(ZH l n t c).e≠0->(ZH l n t c).t=zU:=by
  induction n with
  |zero=>intro t c _;rfl
  |succ n ih=>
   intro t c h
   rw[xO]at h ⊢
   cases t with
   |mk k nm i ts=>
    rw[YX]at h ⊢
    split
    ·rename_i h0
     rw[if_pos h0]at h
     cases hq:XU l (ZH l n) k i (yv (XU l (ZH l n)) ts c).ts (yv (XU l (ZH l n)) ts c).w with
     |none=>
      rw[hq]at h
      show(Zs _ _).t=_
      have h:(Zs (mk k nm i (yv (XU l (ZH l n)) ts c).ts) (yv (XU l (ZH l n)) ts c).w).e≠0:=h
      unfold Zs at h ⊢
      split
      ·rename_i h1;rw[if_pos h1]at h;exact absurd rfl h
      ·rfl
     |some r=>
      rw[hq]at h
      show r.t=_
      have h:r.e≠0:=h
      unfold XU at hq
      obtain⟨m,_,rfl⟩:=Option.map_eq_some_iff.1 hq
      split
      ·rfl
      ·rename_i h1
       rw[if_neg h1]at h
       split
       ·rfl
       ·rename_i h2
        rw[if_neg h2]at h
        exact ih _ _ h
    ·rfl
theorem zBG(l:List Mv)(n:Nat):∀ t c,(ZH l n t c).e=0->(ZH l n t c).t.small=true:=by
  induction n with
  |zero=>intro t c h;simp[ZH]at h
  |succ n ih=>
   intro t c h
   rw[xO]at h ⊢
   cases t with
   |mk k nm i ts=>
    rw[YX]at h ⊢
    split
    ·rename_i h0
     rw[if_pos h0]at h
     cases hq:XU l (ZH l n) k i (yv (XU l (ZH l n)) ts c).ts (yv (XU l (ZH l n)) ts c).w with
     |none=>rw[hq]at h;exact Y9 _ _ h
     |some r=>
      rw[hq]at h
      show r.t.small=_
      have h:r.e=0:=h
      unfold XU at hq
      obtain⟨m,_,rfl⟩:=Option.map_eq_some_iff.1 hq
      split
      ·rename_i h1;rw[if_pos h1]at h;simp at h
      ·rename_i h1
       rw[if_neg h1]at h
       split
       ·rename_i h2;rw[if_pos h2]at h;exact absurd h h2
       ·rename_i h2
        rw[if_neg h2]at h
        exact ih _ _ h
    ·rename_i h0;rw[if_neg h0]at h;exact absurd h h0
theorem zIc{N:Int->List UInt8->Int->Nat->Prop}(h0:N 0 [] 0 0)(g:Int->Int->List Tm->Nat->Option xZ)(hg:∀ k i us c r,xf N us->g k i us c=some r->xA N r.t)(t:Tm):xA N t->∀ c,xA N (Zq g t c).t:=by
  induction t using ind with
  |h k n i l ih=>
   intro ht c
   rw[zz]at ht
   rw[YX]
   split
   ·rename_i he
    have hA:xf N (yv g l c).ts:=by
      rw[zq]
      have hF:=Qa g (fun _ r=>xA N r) l (fun t h c _=>ih t h ((zq l).1 ht.2 t h) c) c he
      generalize (yv g l c).ts=us at hF
      clear he ih ht
      induction hF with
      |nil=>simp
      |cons h1 _ ih=>intro u hu;rcases List.mem_cons.1 hu with rfl |hu;(exact h1);exact ih u hu
    cases hq:g k i (yv g l c).ts (yv g l c).w with
    |none=>exact qS h0 ((zz _ _ _ _).2 ⟨by rw[zEU g l c he];exact ht.1,hA⟩)
    |some r=>exact hg _ _ _ _ _ hA hq
   ·exact zn h0
theorem zB9{N:Int->List UInt8->Int->Nat->Prop}(hv:∀ n i i' z,N 5 n i z->N 5 n i' z)(h0:N 0 [] 0 0)(l:List Mv)(hl:∀ m∈l,∀ v∈m.value,xA N v)(n:Nat):∀ t c,xA N t->xA N (ZH l n t c).t:=by
  induction n with
  |zero=>intro t c _;exact zn h0
  |succ n ih=>
   intro t c ht
   rw[xO]
   refine zIc h0 _ (fun k i us c r hus h=>?_) t ht c
   unfold XU at h
   obtain⟨m,hm,rfl⟩:=Option.map_eq_some_iff.1 h
   obtain⟨_,_,_,_,hml,hmv⟩:=Z8 hm
   split
   ·exact zn h0
   ·split
    ·exact zn h0
    ·refine ih _ _ (Q0 hv h0 ?_ hus)
     match hv':m.value,hmv with
     |v :: r,_=>exact hl m hml v (by rw[hv'];simp)
end
section
open Tm
theorem zJG{t:Tm}{w:Nat}(h:(Zs t w).e=0):(Zs t w).t=t:=by
  unfold Zs at h ⊢
  split
  ·rfl
  ·rename_i h1;rw[if_neg h1]at h;simp at h
def Kp(t r:Tm):Prop:=(t.isObj=true->r.isObj=true)/\(t.zO=true->r.zO=true)/\(t.zP=true->r.zP=true)
theorem zI0{l us:List Tm}(h:Pw Kp l us):zV l=true->zV us=true:=by
  induction h with
  |nil=>exact fun h=>h
  |cons h1 _ ih=>intro h;rw[zV,Bool.and_eq_true]at h ⊢;exact⟨h1.1 h.1,ih h.2⟩
theorem zJP{l us:List Tm}(h:Pw Kp l us):yO l=true->yO us=true:=by
  induction h with
  |nil=>exact fun h=>h
  |cons h1 _ ih=>intro h;rw[yO,Bool.and_eq_true]at h ⊢;exact⟨h1.2.1 h.1,ih h.2⟩
theorem zIy{l us:List Tm}(h:Pw Kp l us):us.length=l.length:=by
  induction h with
  |nil=>rfl
  |cons _ _ ih=>simp[ih]
theorem zH3{k i:Int}{n:List UInt8}{l us:List Tm}(h:Pw Kp l us):Kp (mk k n i l) (mk k n i us):=by
  have hl:=zIy h
  have ho:=zI0 h
  have ht:=zJP h
  refine⟨fun e=>?_,fun e=>?_,fun e=>?_⟩
  ·rw[isObj]at e ⊢
   unfold bound at e ⊢
   rw[hl]
   split at e
   ·rename_i hk;rw[if_pos hk];rw[Bool.and_eq_true]at e ⊢;exact⟨e.1,ho e.2⟩
   ·rename_i hk
    rw[if_neg hk]
    split at e
    ·rename_i hk;rw[if_pos hk];rw[Bool.and_eq_true]at e ⊢;exact⟨e.1,ho e.2⟩
    ·rename_i hk
     rw[if_neg hk]
     split at e
     ·rename_i hk;rw[if_pos hk];rw[Bool.and_eq_true]at e ⊢;exact⟨e.1,ho e.2⟩
     ·rename_i hk
      rw[if_neg hk]
      split at e
      ·rename_i hk;rw[if_pos hk];rw[Bool.and_eq_true]at e ⊢;exact⟨e.1,ho e.2⟩
      ·cases e
  ·rw[zO,isAtom]at e ⊢
   unfold bound at e ⊢
   rw[hl]
   simp only[Bool.or_eq_true,Bool.and_eq_true]at e ⊢
   rcases e with e |e
   ·exact .inl ⟨e.1,e.2.1,ho e.2.2⟩
   ·exact .inr ⟨e.1,e.2.1,ht e.2.2⟩
  ·unfold zP at e
   split at e
   ·rename_i heq
    cases heq
    cases h with
    |cons h1 h2=>
     cases h2 with
     |cons h3 h4=>
      cases h4
      rw[zP]
      unfold bound at e ⊢
      simp only[Bool.and_eq_true]at e ⊢
      exact⟨e.1,e.2.1,h1.2.1 e.2.2.1,h3.2.2 e.2.2.2⟩
   ·rename_i heq
    cases heq
    simp only[Bool.and_eq_true,List.isEmpty_iff]at e
    obtain⟨h1,h2,h3,h4⟩:=e
    subst h4
    cases h
    rw[zP]
    ·simp[h1,h2,h3]
    ·intro a b hab;cases hab
theorem zH5{n:List UInt8}{i:Int}{l:List Tm}{r:Tm}(h:r.isObj=true):Kp (mk 6 n i l) r:=by
  refine⟨fun _=>h,fun e=>?_,fun e=>?_⟩
  ·rw[zO,isAtom]at e;simp at e
  ·unfold zP at e
   split at e
   ·rename_i heq;cases heq;simp at e
   ·rename_i heq;cases heq;simp at e
theorem zJA(g:Int->Int->List Tm->Nat->Option xZ)(hg:∀ k i us c r,g k i us c=some r->r.e=0->k=6/\r.t.isObj=true)(t:Tm):∀ c,(Zq g t c).e=0->Kp t (Zq g t c).t:=by
  induction t using ind with
  |h k n i l ih=>
   intro c h
   rw[YX]at h ⊢
   split
   ·rename_i he
    rw[if_pos he]at h
    have hF:=Qa g Kp l ih c he
    cases hq:g k i (yv g l c).ts (yv g l c).w with
    |none=>
     rw[hq]at h
     show Kp _ (Zs _ _).t
     have h:(Zs (mk k n i (yv g l c).ts) (yv g l c).w).e=0:=h
     rw[zJG h]
     exact zH3 hF
    |some r=>
     rw[hq]at h
     obtain⟨rfl,h2⟩:=hg _ _ _ _ _ hq h
     exact zH5 h2
   ·rename_i he;rw[if_neg he]at h;exact absurd h he
theorem zCZ(l:List Mv)(n:Nat):∀ t c,(ZH l n t c).e=0->Kp t (ZH l n t c).t:=by
  induction n with
  |zero=>intro t c h;simp[ZH]at h
  |succ n ih=>
   intro t c h
   rw[xO]at h ⊢
   refine zJA _ (fun k i us c r hr h0=>?_) t c h
   unfold XU at hr
   obtain⟨m,hm,rfl⟩:=Option.map_eq_some_iff.1 hr
   refine⟨(Z8 hm).1,?_⟩
   split at h0
   ·simp at h0
   ·rename_i h1
    rw[if_neg h1]
    split at h0
    ·rename_i h2;exact absurd h0 h2
    ·rename_i h2
     rw[if_neg h2]
     exact(ih _ _ h0).1 (zAW (by simpa using h2)).1
theorem zBl(l:List Mv)(n:Nat)(t:Tm)(c:Nat)(ht:t.wf=0)(h:(ZH l n t c).e=0):(ZH l n t c).t.wf=0:=by
  obtain⟨h1,h2,h3⟩:=zCZ l n t c h
  have hs:=zBG l n t c h
  unfold wf
  rw[hs]
  rcases(yf ht).1 with h4 |h4 |h4
  ·rw[h1 h4];rfl
  ·rw[h2 h4];simp
  ·rw[h3 h4];simp
theorem zIZ(g:Int->Int->List Tm->Nat->Option xZ)(N:Nat)(hg:∀ k i us c r,g k i us c=some r->c<=N->r.e=0->r.w<=N)(t:Tm):∀ c,c<=N->(Zq g t c).e=0->(Zq g t c).w<=N:=by
  induction t using ind with
  |h k n i l ih=>
   intro c hc h
   have key:∀(us:List Tm),(∀ t∈us,t∈l)->∀ c,c<=N->(yv g us c).e=0->(yv g us c).w<=N:=by
     intro us
     induction us with
     |nil=>intro _ c hc _;rw[Qc];exact hc
     |cons t ts ih2=>
      intro hm c hc h
      rw[Q6]at h ⊢
      split
      ·rename_i h1
       rw[if_pos h1]at h
       split
       ·rename_i h2
        exact ih2 (fun t ht=>hm t (by simp[ht])) _ (ih t (hm t (by simp)) c hc h1) h2
       ·rename_i h2;rw[if_neg h2]at h;exact absurd h h2
      ·rename_i h1;rw[if_neg h1]at h;exact absurd h h1
   rw[YX]at h ⊢
   split
   ·rename_i he
    rw[if_pos he]at h
    have h1:=key l (fun _ h=>h) c hc he
    cases hq:g k i (yv g l c).ts (yv g l c).w with
    |none=>show(Zs _ _).w<=N;rw[Xh];exact h1
    |some r=>rw[hq]at h;exact hg _ _ _ _ _ hq h1 h
   ·rename_i he;rw[if_neg he]at h;exact absurd h he
theorem zId(l:List Mv)(n:Nat):∀ t c,c<=16384->(ZH l n t c).e=0->(ZH l n t c).w<=16384:=by
  induction n with
  |zero=>intro t c _ h;simp[ZH]at h
  |succ n ih=>
   intro t
   rw[xO]
   refine zIZ _ 16384 (fun k i us c r hr hc h0=>?_) t
   unfold XU at hr
   obtain⟨m,hm,rfl⟩:=Option.map_eq_some_iff.1 hr
   split at h0
   ·simp at h0
   ·rename_i h1
    split at h0
    ·rename_i h2;exact absurd h0 h2
    ·rename_i h2
     rw[if_neg h1,if_neg h2]
     exact ih _ _ (by omega) h0
theorem zHu{l:List Mv}{k i:Int}(h:k≠6):slv l k i=none:=by unfold slv;rw[if_neg (fun e=>h e.1)]
theorem zFu{k i:Int}{n:List UInt8}{l:List Tm}(h:(mk k n i l).small=true):∀ u∈l,u.small=true:=by
  intro u hu
  unfold small at h ⊢
  rw[Bool.and_eq_true,decide_eq_true_eq,decide_eq_true_eq]at h ⊢
  rw[zW,yK]at h
  have:=zY hu
  have:=zh hu
  exact⟨by omega,by omega⟩
end
section
open Tm Go.Proofs.YthgmimncdjhgnaaGreatDoor
def xL(l:List Mv)(t:Tm):Int:=if t.wf≠0 then t.wf else if(Tm.zL t).any (fun i=>decide ((l.length:Int)<=i))=true then 3 else(ZH l 16385 t 0).e
def zu(l:List Mv)(t:Tm):Tm:=if xL l t=0 then(ZH l 16385 t 0).t else zU
theorem qz(t:Tm)(h:t.wf=0)(i:Int):i∈Tm.zL t↔∃ x∈nodes 0 t,x.k=6/\x.i=i:=by
  unfold Tm.zL Tm.YA
  rw[if_pos (by simp[h]),<-Xy t 0 []]
  have key:∀(xs:List Nd0)(acc:List Int),i∈xs.foldl yR acc↔i∈acc\/∃ x∈xs,x.k=6/\x.i=i:=by
    intro xs
    induction xs with
    |nil=>intro acc;simp
    |cons x xs ih=>
     intro acc
     rw[List.foldl_cons,ih]
     have hs:i∈yR acc x↔i∈acc\/(x.k=6/\x.i=i):=by
       unfold yR
       split
       ·rename_i hc
        simp only[Bool.and_eq_true,beq_iff_eq]at hc
        rw[List.mem_append,List.mem_singleton]
        exact⟨fun h=>h.imp id (fun h=>⟨hc.1,h.symm⟩),fun h=>h.imp id (fun h=>h.2.symm)⟩
       ·rename_i hc
        refine⟨.inl,fun h=>h.elim id (fun h=>?_)⟩
        obtain⟨h1,rfl⟩:=h
        simpa[h1]using hc
     rw[hs]
     constructor
     ·rintro((h |h)|⟨y,hy,h⟩)
      ·exact .inl h
      ·exact .inr ⟨x,by simp,h⟩
      ·exact .inr ⟨y,by simp[hy],h⟩
     ·rintro(h |⟨y,hy,h⟩)
      ·exact .inl (.inl h)
      ·rcases List.mem_cons.1 hy with rfl |hy
       ·exact .inl (.inr h)
       ·exact .inr ⟨y,hy,h⟩
  rw[key]
  simp
theorem zBT(t:Tm)(h:¬t.wf=0):Tm.zL t=[]:=by
  unfold Tm.zL
  rw[if_neg (by simpa using h)]
theorem yS{N:Int->Prop}(t:Tm)(h:t.wf=0):xA (fun k _ i _=>k=6->N i) t↔∀ i∈Tm.zL t,N i:=by
  rw[Z9 (M:=fun k _ i=>k=6->N i) t 0]
  constructor
  ·intro hn i hi
   obtain⟨x,hx,h6,rfl⟩:=(qz t h i).1 hi
   exact hn x hx h6
  ·intro hn x hx h6
   exact hn _ ((qz t h _).2 ⟨x,hx,h6,rfl⟩)
theorem Qe{N M:Int->List UInt8->Int->Nat->Prop}(t:Tm):xA N t->xA M t->xA (fun k n i z=>N k n i z/\M k n i z) t:=by
  induction t using ind with
  |h k n i l ih=>
   intro h1 h2
   rw[zz,zq]at h1 h2 ⊢
   exact⟨⟨h1.1,h2.1⟩,fun u hu=>ih u hu (h1.2 u hu) (h2.2 u hu)⟩
theorem zDl{n:Int}(t:Tm)(h:t.wf=0)(hs:t.size<=200)(hm:∀ i∈Tm.zL t,i<n):Kn n t:=Qe t ((yS t h).2 hm) (zAg t hs)
theorem Yt{n:Int}{t:Tm}(hm:Kn n t):∀ i∈Tm.zL t,i<n:=by
  intro i hi
  by_cases h:t.wf=0
  ·exact(yS (N:=fun i=>i<n) t h).1 (zCP (fun _ _ _ _ h=>h.1) t hm) i hi
  ·rw[zBT t h]at hi;cases hi
theorem YB{t:Tm}:∀ i∈Tm.zL t,0<=i/\i<2048:=by
  intro i hi
  by_cases h:t.wf=0
  ·obtain⟨x,hx,h6,rfl⟩:=(qz t h i).1 hi
   exact((Ys t h).1 0 x hx).2.1 (by simp[h6])
  ·rw[zBT t h]at hi;cases hi
structure Ord where
  o:List Int
  e:Int
def typeOf(l:List Mv)(i:Int):Tm:=match l[i.toNat]? with |some m=>m.type |none=>zU
def xm(l:List Mv)(f:List Int->Ord->Ord):List Int->Ord->Ord
  | [],s=>s
  |m :: ms,s=>
   if s.e≠0 then s else if s.o.contains m=true then xm l f ms s else
   if xL l (typeOf l m)≠0 then⟨s.o,xL l (typeOf l m)⟩else
   if(f (Tm.zL (zu l (typeOf l m))) s).e=0 then xm l f ms ⟨(f (Tm.zL (zu l (typeOf l m))) s).o++[m],0⟩else f (Tm.zL (zu l (typeOf l m))) s
def zBz(l:List Mv):Nat->List Int->Ord->Ord
  |0=>xm l (fun _ s=>s)
  |d+1=>xm l (zBz l d)
theorem zAi(l:List Mv)(f:List Int->Ord->Ord)(ms:List Int)(s:Ord)(h:s.e≠0):xm l f ms s=s:=by
  cases ms with
  |nil=>rfl
  |cons m ms=>rw[xm,if_pos h]
theorem QJ(l:List Mv)(f:List Int->Ord->Ord)(a b:List Int):∀ s,xm l f (a++b) s=xm l f b (xm l f a s):=by
  induction a with
  |nil=>intro s;rfl
  |cons m ms ih=>
   intro s
   rw[List.cons_append,xm,xm]
   by_cases h0:s.e≠0
   ·rw[if_pos h0,if_pos h0,zAi l f b s h0]
   rw[if_neg h0,if_neg h0]
   by_cases h1:s.o.contains m=true
   ·rw[if_pos h1,if_pos h1,ih]
   rw[if_neg h1,if_neg h1]
   by_cases h2:xL l (typeOf l m)≠0
   ·rw[if_pos h2,if_pos h2,zAi l f b _ h2]
   rw[if_neg h2,if_neg h2]
   by_cases h3:(f (Tm.zL (zu l (typeOf l m))) s).e=0
   ·rw[if_pos h3,if_pos h3,ih]
   ·rw[if_neg h3,if_neg h3,zAi l f b _ h3]
theorem Q1(l:List Mv)(f:List Int->Ord->Ord)(m:Int)(s:Ord):xm l f [m] s=
    if s.e≠0 then s else if s.o.contains m=true then s else
    if xL l (typeOf l m)≠0 then⟨s.o,xL l (typeOf l m)⟩else
    if(f (Tm.zL (zu l (typeOf l m))) s).e=0 then⟨(f (Tm.zL (zu l (typeOf l m))) s).o++[m],0⟩else f (Tm.zL (zu l (typeOf l m))) s:=by
  rw[xm,xm,xm]
theorem Qp(l:List Mv)(f:List Int->Ord->Ord)(ms:List Int)(j:Nat)(h:j<ms.length)(s:Ord):xm l f (ms.take (j+1)) s=xm l f [ms[j]] (xm l f (ms.take j) s):=by
  rw[List.take_succ_eq_append_getElem h,QJ]
theorem zH0(l:List Mv)(d:Nat):∃ f,zBz l d=xm l f:=by
  cases d with
  |zero=>exact⟨_,rfl⟩
  |succ d=>exact⟨_,rfl⟩
def zAL(l:List Mv)(d:Nat):List Tm->Ord->Ord
  | [],s=>s
  |t :: ts,s=>zAL l d ts (zBz l d (Tm.zL t) s)
theorem zBR(l:List Mv)(d:Nat)(ts:List Tm):∀ s,zAL l d ts s=zBz l d (ts.flatMap Tm.zL) s:=by
  obtain⟨f,hf⟩:=zH0 l d
  induction ts with
  |nil=>intro s;rw[hf];rfl
  |cons t ts ih=>intro s;rw[zAL,ih,hf,List.flatMap_cons,QJ]
end
section
open Tm Go.Proofs.YthgmimncdjhgnaaGreatDoor
def Acy(l:List Mv):Prop:=∀ i:Int,i<l.length->∀ j∈zp l i,¬Z2 l j i
open Classical in
noncomputable def rk (l:List Mv) (i:Int):Nat:=((List.range l.length).filter (fun j:Nat=>decide (Z2 l i (j:Int)))).length
theorem zKL(l:List Mv)(i:Int):rk l i<=l.length:=by
  unfold rk
  refine Nat.le_trans (List.length_filter_le _ _) ?_
  simp
theorem zIq{l:List Mv}(hA:Acy l){i j:Int}(h0:0<=i)(hi:i<l.length)(hj:j∈zp l i)(_hn:¬j<l.length\/True):rk l j<rk l i:=by
  classical
  unfold rk
  have e:∀ k:Nat,Z2 l j (k:Int)->Z2 l i (k:Int):=fun k h=>.step hi hj h
  rw[show(List.range l.length).filter (fun k:Nat=>decide (Z2 l j (k:Int)))=((List.range l.length).filter (fun k:Nat=>decide (Z2 l i (k:Int)))).filter (fun k:Nat=>decide (Z2 l j (k:Int))) by
    rw[List.filter_filter]
    refine List.filter_congr (fun k _=>?_)
    rw[Bool.eq_iff_iff]
    simp only[decide_eq_true_eq,Bool.and_eq_true]
    exact⟨fun h=>⟨h,e k h⟩,fun h=>h.1⟩]
  rw[List.length_filter_lt_length_iff_exists]
  refine⟨i.toNat,?_,?_⟩
  ·rw[List.mem_filter]
   refine⟨List.mem_range.2 (by omega),?_⟩
   simp only[decide_eq_true_eq]
   rw[show((i.toNat:Nat):Int)=i by omega]
   exact .refl hi
  ·simp only[decide_eq_true_eq]
   rw[show((i.toNat:Nat):Int)=i by omega]
   exact hA i hi j hj
theorem zAc{l:List Mv}{i:Int}(h0:0<=i)(hi:i<l.length):∃ m∈l,l[i.toNat]? =some m/\typeOf l i=m.type:=by
  have h:i.toNat<l.length:=by omega
  refine⟨l[i.toNat],List.getElem_mem h,List.getElem?_eq_getElem h,?_⟩
  unfold typeOf
  rw[List.getElem?_eq_getElem h]
theorem zFT(l:List Mv)(n:Nat)(t:Tm)(S:Int->Prop)(hc:∀ i,S i->∀ j∈zp l i,S j)(ht:∀ i∈Tm.zL t,S i)(hw:t.wf=0)(hv:∀ m∈l,∀ v∈m.value,v.wf=0)(c:Nat)(h:(ZH l n t c).e=0):∀ i∈Tm.zL (ZH l n t c).t,S i:=by
  have hN:xA (fun k _ i _=>k=6->S i) t:=(yS t hw).2 ht
  have hw':=zBl l n t c hw h
  rw[<-yS (N:=S) _ hw']
  revert h hw'
  clear hw ht
  induction n generalizing t c with
  |zero=>intro h;simp[ZH]at h
  |succ n ih=>
   intro h _
   rw[xO]at h ⊢
   have key:∀(t:Tm),xA (fun k _ i _=>k=6->S i) t->∀ c,(Zq (XU l (ZH l n)) t c).e=0->xA (fun k _ i _=>k=6->S i) (Zq (XU l (ZH l n)) t c).t:=by
     intro t
     induction t using ind with
     |h k nm i ts ih2=>
      intro ht c h
      rw[zz,zq]at ht
      rw[YX]at h ⊢
      split
      ·rename_i he
       rw[if_pos he]at h
       have hA:xf (fun k _ i _=>k=6->S i) (yv (XU l (ZH l n)) ts c).ts:=by
         rw[zq]
         have hF:=Qa (XU l (ZH l n)) (fun t r=>xA (fun k _ i _=>k=6->S i) t->xA (fun k _ i _=>k=6->S i) r) ts (fun t h c he ht=>ih2 t h ht c he) c he
         generalize (yv (XU l (ZH l n)) ts c).ts=us at hF
         have h2:=ht.2
         clear he h ih2 ht
         induction hF with
         |nil=>simp
         |cons h1 _ ih3=>
          intro u hu
          rcases List.mem_cons.1 hu with rfl |hu
          ·exact h1 (h2 _ (by simp))
          ·exact ih3 (fun a ha=>h2 a (by simp[ha])) u hu
       cases hs:slv l k i with
       |none=>
        rw[zDF hs]
        exact qS (fun e=>absurd e (by decide)) ((zz _ _ _ _).2 ⟨ht.1,hA⟩)
       |some m=>
        rw[zDj hs]at h ⊢
        have h:(exR l n m (yv (XU l (ZH l n)) ts c).ts (yv (XU l (ZH l n)) ts c).w).e=0:=h
        show xA _ (exR l n m _ _).t
        unfold exR at h ⊢
        split
        ·rename_i h1;rw[if_pos h1]at h;simp at h
        ·rename_i h1
         rw[if_neg h1]at h
         split
         ·rename_i h2;rw[if_pos h2]at h;exact absurd h h2
         ·rename_i h2
          rw[if_neg h2]at h
          obtain⟨h6,h0,hl,hm,hml,hmv⟩:=Z8 hs
          have ho:=zAW (Decidable.not_not.1 h2)
          refine ih _ _ ?_ h (zBl l n _ _ (Z7 ho.1 ho.2) h)
          refine Q0 (fun _ _ _ _ h e=>absurd e (by decide)) (fun e=>absurd e (by decide)) ?_ hA
          match hv':m.value,hmv with
          |v :: r,_=>
           show xA _ v
           have hvm:v∈m.value:=by rw[hv'];simp
           rw[yS v (hv m hml v hvm)]
           intro j hj
           refine hc i (ht.1 h6) j ?_
           unfold zp
           rw[if_pos h0,hm]
           show j∈Zg m
           unfold Zg
           exact List.mem_append.2 (.inr (List.mem_flatMap.2 ⟨v,hvm,hj⟩))
      ·exact zn (fun e=>absurd e (by decide))
   exact key t hN c h
theorem zGp{l:List Mv}(hA:Acy l)(hG:StG l)(hT:∀ m∈l,m.type.wf=0)(hV:∀ m∈l,∀ v∈m.value,v.wf=0){i:Int}(h0:0<=i)(hi:i<l.length)(he:xL l (typeOf l i)=0):∀ j∈Tm.zL (zu l (typeOf l i)),j<l.length/\rk l j<rk l i:=by
  obtain⟨m,hm,hmi,ht⟩:=zAc h0 hi
  have hs:∀ j∈Tm.zL m.type,j∈zp l i:=by
    intro j hj
    unfold zp
    rw[if_pos h0,hmi]
    exact List.mem_append.2 (.inl hj)
  have he2:=he
  unfold xL at he2
  rw[ht,if_neg (by rw[hT m hm];simp)]at he2
  split at he2
  ·omega
  intro j hj
  have e1:zu l (typeOf l i)=(ZH l 16385 m.type 0).t:=by unfold zu;rw[if_pos he,ht]
  rw[e1]at hj
  refine zFT l 16385 m.type (fun j=>j<l.length/\rk l j<rk l i) ?_ ?_ (hT m hm) hV 0 he2 j hj
  ·rintro k ⟨hk,hr⟩ j hj
   by_cases h:0<=k
   ·have h1:=zIq hA h hk hj (.inr trivial)
    refine⟨?_,by omega⟩
    unfold zp at hj
    rw[if_pos h,List.getElem?_eq_getElem (by omega)]at hj
    have hg:=hG.mv _ (List.getElem_mem (show k.toNat<l.length by omega))
    rcases List.mem_append.1 hj with hj |hj
    ·exact Yt hg.kn.1 j hj
    ·obtain⟨v,hv,hj⟩:=List.mem_flatMap.1 hj
     exact Yt (hg.kn.2 v hv) j hj
   ·unfold zp at hj
    rw[if_neg h]at hj
    cases hj
  ·intro j hj
   exact⟨Yt (hG.mv m hm).kn.1 j hj,zIq hA h0 hi (hs j hj) (.inr trivial)⟩
end
section
open Tm Go.Proofs.YthgmimncdjhgnaaGreatDoor
open Classical in
noncomputable def Z3 (l:List Mv) (is:List Int) (i:Int):Bool:=decide (∃ x∈is,Z2 l x i)
noncomputable def Xk (l:List Mv) (i:Int) (m:Tm):Int:=
  if ¬(0<=i/\i<l.length)then 3 else if(match l[i.toNat]? with |some v=>v.value |none=>[])≠[]then 53 else if xw m l.length≠0 then xw m l.length else if Z3 l (Tm.zL m) i=true then 51 else 0
def Xi(l:List Mv)(i:Int)(m:Tm):List Mv:=match l[i.toNat]? with |some v=>l.set i.toNat ⟨v.name,v.type,[m]⟩|none=>l
noncomputable def Zo (l:List Mv) (i:Int) (m:Tm):List Mv:=if Xk l i m≠0 then l else Xi l i m
structure ZP(l:List Mv):Prop where
  len:l.length<=40
  ok:∀ i(h:i<l.length),yP i l[i].name l[i].type=0
  val:∀ m∈l,m.value.length<=1/\∀ v∈m.value,xw v l.length=0
  ar:∀ m∈l,m.type.size<=200/\∀ v∈m.value,v.size<=200
  acy:Acy l
structure qN(l:List Mv):Prop where
  len:l.length<=40
  ok:∀ i(h:i<l.length),yP i l[i].name l[i].type=0
  val:∀ m∈l,m.value.length<=1/\∀ v∈m.value,xw v l.length=0
  kn:∀ m∈l,xA (fun _ _ _ z=>z<=200) m.type/\∀ v∈m.value,xA (fun _ _ _ z=>z<=200) v
  acy:Acy l
theorem ZP.plz{l:List Mv}(h:ZP l):qN l:=⟨h.len,h.ok,h.val,fun m hm=>⟨zAg _ (h.ar m hm).1,fun v hv=>zAg _ ((h.ar m hm).2 v hv)⟩,h.acy⟩
theorem ye{n:Int}{name:List UInt8}{a:Tm}(h:yP n name a=0):(name=[]\/isName name=true)/\a.wf=0/\a.zO=true/\a.small=true/\a.scope<=0/\(∀ i∈Tm.zL a,i<n)/\n<2048:=by
  unfold yP at h
  split at h
  ·omega
  rename_i h1
  split at h
  ·rename_i h2;exact absurd h h2
  rename_i h2
  split at h
  ·omega
  rename_i h3
  split at h
  ·omega
  rename_i h4
  split at h
  ·omega
  rename_i h5
  have h2:a.wf=0:=by simpa using h2
  have h3:a.zO=true/\a.small=true:=by simpa using h3
  unfold QV at h4
  rw[h2]at h4
  simp only[Bool.or_eq_true,not_or,decide_eq_true_eq,List.any_eq_true,not_exists,not_and]at h4
  refine⟨?_,h2,h3.1,h3.2,?_,fun i hi=>?_,by omega⟩
  ·by_cases hn:name=[]
   ·exact .inl hn
   ·refine .inr ?_
    cases hb:isName name with
    |true=>rfl
    |false=>exact absurd ⟨hn,hb⟩ h1
  ·have:=h4.1
   rw[if_pos (by rfl)]at this
   omega
  ·have:=h4.2 i hi
   omega
theorem xW{n:Int}{a:Tm}(h:xw a n=0):a.wf=0/\a.isObj=true/\a.small=true/\a.scope<=0/\(∀ i∈Tm.zL a,i<n):=by
  unfold xw at h
  split at h
  ·rename_i h2;exact absurd h h2
  rename_i h2
  split at h
  ·omega
  rename_i h3
  split at h
  ·omega
  rename_i h4
  have h2:a.wf=0:=by simpa using h2
  have h3:a.isObj=true/\a.small=true:=by simpa using h3
  unfold QV at h4
  rw[h2]at h4
  simp only[Bool.or_eq_true,not_or,decide_eq_true_eq,List.any_eq_true,not_exists,not_and]at h4
  refine⟨h2,h3.1,h3.2,?_,fun i hi=>?_⟩
  ·have:=h4.1
   rw[if_pos (by rfl)]at this
   omega
  ·have:=h4.2 i hi
   omega
theorem zGF{n:Int}{a:Tm}(h1:a.isObj=true)(h2:a.small=true)(h3:a.scope<=0)(h4:∀ i∈Tm.zL a,i<n):xw a n=0:=by
  have hw:=Z7 h1 h2
  unfold xw
  rw[if_neg (by simp[hw]),if_neg (by simp[h1,h2]),if_neg]
  unfold QV
  simp only[hw,Bool.or_eq_true,not_or,decide_eq_true_eq,List.any_eq_true,not_exists,not_and]
  exact⟨by rw[if_pos (by rfl)];omega,fun i hi=>by have:=h4 i hi;omega⟩
theorem qN.zC1{l:List Mv}(h:qN l):StG l:=by
  refine⟨h.len,fun m hm=>?_⟩
  obtain⟨i,hi,rfl⟩:=List.getElem_of_mem hm
  obtain⟨_,h1,h2,h3,h4,h5,_⟩:=ye (h.ok i hi)
  obtain⟨h6,h7⟩:=h.val _ hm
  obtain⟨h8,h9⟩:=h.kn _ hm
  refine⟨⟨h2,h3⟩,fun v hv=>?_,h6,Qe _ ((yS _ h1).2 (fun j hj=>by have:=h5 j hj;omega)) h8,fun v hv=>?_⟩
  ·obtain⟨_,h10,h11,_⟩:=xW (h7 v hv)
   exact⟨h10,h11⟩
  ·obtain⟨h10,_,_,_,h11⟩:=xW (h7 v hv)
   exact Qe _ ((yS _ h10).2 h11) (h9 v hv)
theorem ZP.zC1{l:List Mv}(h:ZP l):StG l:=h.plz.zC1
theorem qN.YJ{l:List Mv}(h:qN l):∀ m∈l,m.type.wf=0:=by
  intro m hm
  obtain⟨i,hi,rfl⟩:=List.getElem_of_mem hm
  exact(ye (h.ok i hi)).2.1
theorem qN.zGA{l:List Mv}(h:qN l):∀ m∈l,∀ v∈m.value,v.wf=0:=fun m hm v hv=>(xW ((h.val m hm).2 v hv)).1
theorem ZP.YJ{l:List Mv}(h:ZP l):∀ m∈l,m.type.wf=0:=h.plz.YJ
theorem ZP.zGA{l:List Mv}(h:ZP l):∀ m∈l,∀ v∈m.value,v.wf=0:=h.plz.zGA
theorem ZP.nil:ZP []:=by
  refine⟨by simp,fun i h=>(by simp at h),fun m h=>(by cases h),fun m h=>(by cases h),fun i h1 j hj=>?_⟩
  unfold zp at hj
  split at hj
  ·simp at hj
  ·cases hj
theorem zDn{l:List Mv}{i:Nat}(h:i<l.length):zp l (i:Int)=Zg l[i]:=by
  unfold zp
  rw[if_pos (by omega),List.getElem?_eq_getElem (by simpa using h)]
  rfl
theorem zFx{l:List Mv}{i:Int}(h:¬0<=i):zp l i=[]:=by unfold zp;rw[if_neg h]
theorem zGG{l:List Mv}{i:Int}(h:¬i<l.length):zp l i=[]:=by
  unfold zp
  split
  ·rw[List.getElem?_eq_none (by omega)]
  ·rfl
theorem X9{l:List Mv}{m:Mv}{i:Int}(h:i<l.length):zp (l++[m]) i=zp l i:=by
  unfold zp
  split
  ·rw[List.getElem?_append_left (by omega)]
  ·rfl
theorem Q8{l:List Mv}{m:Mv}(hk:∀ i:Int,∀ j∈zp l i,j<l.length){i j:Int}(h:Z2 (l++[m]) i j):i<l.length->Z2 l i j:=by
  induction h with
  |refl _=>intro h;exact .refl h
  |step h hj hk' ih=>
   intro hi
   rw[X9 hi]at hj
   exact .step hi hj (ih (hk _ _ hj))
theorem zE9{l:List Mv}(hG:StG l):∀ i:Int,∀ j∈zp l i,j<l.length:=by
  intro i j hj
  unfold zp at hj
  split at hj
  ·split at hj
   ·rename_i m hm
    have hg:=hG.mv m (List.mem_of_getElem? hm)
    rcases List.mem_append.1 hj with hj |hj
    ·exact Yt hg.kn.1 j hj
    ·obtain⟨v,hv,hj⟩:=List.mem_flatMap.1 hj
     exact Yt (hg.kn.2 v hv) j hj
   ·cases hj
  ·cases hj
theorem ZP.new{l:List Mv}(h:ZP l){name:List UInt8}{a:Tm}(hl:l.length<40)(ha:a.size<=200):ZP (ZU l name a):=by
  unfold ZU
  split
  ·exact h
  ·rename_i hc
   have hc:yP l.length name a=0:=by simpa using hc
   obtain⟨_,h1,h2,h3,h4,h5,h6⟩:=ye hc
   refine⟨by simp;omega,fun i hi=>?_,fun m hm=>?_,fun m hm=>?_,?_⟩
   ·rw[List.length_append,List.length_singleton]at hi
    by_cases e:i<l.length
    ·rw[List.getElem_append_left e];exact h.ok i e
    ·obtain rfl:i=l.length:=by omega
     simpa using hc
   ·rcases List.mem_append.1 hm with hm |hm
    ·obtain⟨h7,h8⟩:=h.val m hm
     refine⟨h7,fun v hv=>?_⟩
     obtain⟨_,e1,e2,e3,e4⟩:=xW (h8 v hv)
     exact zGF e1 e2 e3 (fun i hi=>by have:=e4 i hi;simp;omega)
    ·obtain rfl:=List.mem_singleton.1 hm
     exact⟨by simp,fun v hv=>by cases hv⟩
   ·rcases List.mem_append.1 hm with hm |hm
    ·exact h.ar m hm
    ·obtain rfl:=List.mem_singleton.1 hm
     exact⟨ha,fun v hv=>by cases hv⟩
   ·intro i hi j hj hr
    have hk:=zE9 h.zC1
    by_cases e:i<l.length
    ·rw[X9 e]at hj
     exact h.acy i e j hj (Q8 hk hr (hk _ _ hj))
    ·have hi':i=l.length:=by simp at hi;omega
     subst hi'
     have hj':j∈Zg (⟨name,a,[]⟩:Mv):=by
       rw[show((l.length:Nat):Int)=((l.length:Nat):Int)from rfl,zDn (by simp)]at hj
       simpa using hj
     have hjl:j<l.length:=by
       unfold Zg at hj'
       simp only[List.flatMap_nil,List.append_nil]at hj'
       exact h5 j hj'
     have:=(Q8 hk hr hjl).lt'
     omega
theorem Y6{l:List Mv}{i:Int}{v:Mv}(h:l[i.toNat]? =some v)(m:Tm):Xi l i m=l.set i.toNat ⟨v.name,v.type,[m]⟩:=by unfold Xi;rw[h]
theorem yj(l:List Mv)(i:Int)(m:Tm):(Xi l i m).length=l.length:=by unfold Xi;split<;>simp
theorem zCw{l:List Mv}{i:Int}{m:Tm}(h:Xk l i m=0):(0<=i/\i<l.length)/\(∃ v,l[i.toNat]? =some v/\v.value=[]/\v∈l)/\xw m l.length=0/\∀ x∈Tm.zL m,¬Z2 l x i:=by
  unfold Xk at h
  by_cases h1:0<=i/\i<l.length
  case neg=>rw[if_pos h1]at h;omega
  rw[if_neg (by simpa using h1)]at h
  have hi:i.toNat<l.length:=by omega
  rw[List.getElem?_eq_getElem hi]at h
  simp only at h
  by_cases h2:l[i.toNat].value≠[]
  ·rw[if_pos h2]at h;omega
  rw[if_neg h2]at h
  by_cases h3:xw m l.length≠0
  ·rw[if_pos h3]at h;exact absurd h h3
  rw[if_neg h3]at h
  by_cases h4:Z3 l (Tm.zL m) i=true
  ·rw[if_pos h4]at h;omega
  refine⟨h1,⟨l[i.toNat],List.getElem?_eq_getElem hi,by simpa using h2,List.getElem_mem _⟩,by simpa using h3,fun x hx hr=>h4 ?_⟩
  unfold Z3
  classical
  exact decide_eq_true ⟨x,hx,hr⟩
section
variable {l:List Mv}{i:Int}{m:Tm}{v:Mv} (h0:0<=i) (hi:i<l.length) (hv:l[i.toNat]? =some v) (hn:v.value=[])
include h0 hv in
theorem Q7{k:Int}(hk:k≠i):zp (Xi l i m) k=zp l k:=by
  rw[Y6 hv]
  unfold zp
  split
  ·rw[List.getElem?_set_ne (by omega)]
  ·rfl
include h0 hi hv hn in
theorem zBK:zp (Xi l i m) i=zp l i++Tm.zL m:=by
  rw[Y6 hv]
  unfold zp
  rw[if_pos h0,if_pos h0,List.getElem?_set_self (by omega),hv]
  unfold Zg
  simp[hn]
include h0 hi hv hn in
theorem zFN{a b:Int}(h:Z2 (Xi l i m) a b):Z2 l a b\/(Z2 l a i/\∃ x∈Tm.zL m,Z2 (Xi l i m) x b):=by
  induction h with
  |refl h=>exact .inl (.refl (by rw[yj]at h;exact h))
  | @step a j k h hj hr ih=>
    rw[yj]at h
    by_cases e:a=i
    ·subst e
     rw[zBK h0 hi hv hn]at hj
     rcases List.mem_append.1 hj with hj |hj
     ·rcases ih with ih |⟨ih,hx⟩
      ·exact .inl (.step h hj ih)
      ·exact .inr ⟨.refl h,hx⟩
     ·exact .inr ⟨.refl h,j,hj,hr⟩
    ·rw[Q7 h0 hv e]at hj
     rcases ih with ih |⟨ih,hx⟩
     ·exact .inl (.step h hj ih)
     ·exact .inr ⟨.step h hj ih,hx⟩
include h0 hi hv hn in
theorem zIF{a b:Int}(h:Z2 (Xi l i m) a b):¬Z2 l a i->Z2 l a b:=by
  intro ha
  rcases zFN h0 hi hv hn h with h |h
  ·exact h
  ·exact absurd h.1 ha
include h0 hi hv hn in
theorem zIk(hA:Acy l)(hm:∀ x∈Tm.zL m,¬Z2 l x i):Acy (Xi l i m):=by
  intro k hk j hj hr
  rw[yj]at hk
  rcases zFN h0 hi hv hn hr with h |⟨h1,x,hx,h2⟩
  ·by_cases e:k=i
   ·subst e
    rw[zBK h0 hi hv hn]at hj
    rcases List.mem_append.1 hj with hj |hj
    ·exact hA k hk j hj h
    ·exact hm j hj h
   ·rw[Q7 h0 hv e]at hj
    exact hA k hk j hj h
  ·have h3:=zIF h0 hi hv hn h2 (hm x hx)
   by_cases e:k=i
   ·subst e;exact hm x hx h3
   ·rw[Q7 h0 hv e]at hj
    exact hm x hx (h3.trans (.step hk hj h1))
end
theorem ZP.solve{l:List Mv}(h:ZP l){i:Int}{m:Tm}(hm:m.size<=200):ZP (Zo l i m):=by
  unfold Zo
  split
  ·exact h
  ·rename_i hs
   obtain⟨⟨h0,hi⟩,⟨v,hv,hn,hvl⟩,h3,h4⟩:=zCw (by simpa using hs)
   have hmem:∀ u∈Xi l i m,u∈l\/u=⟨v.name,v.type,[m]⟩:=by
     intro u hu
     rw[Y6 hv]at hu
     exact(List.mem_or_eq_of_mem_set hu)
   refine⟨by rw[yj];exact h.len,fun k hk=>?_,fun u hu=>?_,fun u hu=>?_,zIk h0 hi hv hn h.acy h4⟩
   ·rw[yj]at hk
    have hk2:=h.ok k hk
    have e:(Xi l i m)[k]? =if i.toNat=k then some ⟨v.name,v.type,[m]⟩else l[k]? :=by
      rw[Y6 hv,List.getElem?_set]
      split
      ·rename_i e;subst e;simp[hk]
      ·rfl
    by_cases e2:i.toNat=k
    ·rw[if_pos e2]at e
     subst e2
     rw[List.getElem?_eq_getElem (by rw[yj];exact hk)]at e
     rw[Option.some.inj e]
     rw[List.getElem?_eq_getElem hk]at hv
     rw[<-Option.some.inj hv]
     exact hk2
    ·rw[if_neg e2,List.getElem?_eq_getElem (by rw[yj];exact hk),List.getElem?_eq_getElem hk]at e
     rw[Option.some.inj e]
     exact hk2
   ·rw[yj]
    rcases hmem u hu with hu |rfl
    ·exact h.val u hu
    ·exact⟨by simp,fun x hx=>by obtain rfl:=List.mem_singleton.1 hx;exact h3⟩
   ·rcases hmem u hu with hu |rfl
    ·exact h.ar u hu
    ·exact⟨(h.ar v hvl).1,fun x hx=>by obtain rfl:=List.mem_singleton.1 hx;exact hm⟩
end
section
open Tm Go.Proofs.YthgmimncdjhgnaaGreatDoor
theorem Qj{l:List Mv}{t:Tm}(h:xL l t=0):t.wf=0/\(∀ i∈Tm.zL t,i<l.length)/\(ZH l 16385 t 0).e=0:=by
  unfold xL at h
  split at h
  ·rename_i h1;exact absurd h h1
  rename_i h1
  split at h
  ·omega
  rename_i h2
  refine⟨by simpa using h1,fun i hi=>?_,h⟩
  simp only[List.any_eq_true,not_exists,not_and,decide_eq_true_eq]at h2
  have:=h2 i hi
  omega
end
end Go.LF
