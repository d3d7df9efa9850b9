/- A property of all nodes wh a jM keeps: yQ may have any index. No program is in qP here. -/
import Derived.Test.YthgmimncdjhgnaaGreatDoorXFA
import Derived.Test.YthgmimncdjhgnaaGreatDoorXSC
namespace Go.LF.Tm
mutual
def fi(N:Int->List UInt8->Int->Nat->Prop):Tm->Prop
  |mk k n i l=>N k n i l.length/\gI N l
def gI(N:Int->List UInt8->Int->Nat->Prop):List Tm->Prop
  | []=>True
  |t :: ts=>fi N t/\gI N ts
end
section
variable {N:Int->List UInt8->Int->Nat->Prop}
theorem cz(k n i l):fi N (mk k n i l)↔N k n i l.length/\gI N l:=by rw[fi]
theorem bV(l:List Tm):gI N l↔∀ t∈l,fi N t:=by
  induction l with
  |nil=>simp[gI]
  |cons t ts ih=>simp[gI,ih]
theorem iO:gI N []:=by rw[gI];trivial
theorem Am{M:Int->List UInt8->Int->Nat->Prop}(Y2:∀ k n i z,N k n i z->M k n i z)(t:Tm):fi N t->fi M t:=by
  induction t using ind with
  |h k n i l ih=>
   intro h;rw[cz,bV]at h ⊢;exact⟨Y2 _ _ _ _ h.1,fun u hu=>ih u hu (h.2 u hu)⟩
theorem oz{M:Int->List UInt8->Int->Prop}(t:Tm):∀ b,fi (fun k n i _=>M k n i) t↔∀ x∈nodes b t,M x.k x.n x.i:=by
  induction t using ind with
  |h k n i l ih=>
   intro b
   have key:∀(l':List Tm),(∀ t∈l',t∈l)->∀ j,gI (fun k n i _=>M k n i) l'↔∀ x∈bh b k j l',M x.k x.n x.i:=by
     intro l';induction l' with
     |nil=>intro _ j;simp[gI,bh]
     |cons t ts dF=>
      intro hm j;rw[gI,bh,ih t (hm t (by simp)) (b+under k j),dF (fun t ht=>hm t (by simp[ht])) (j+1)];simp only[List.mem_append];exact⟨fun h x hx=>hx.elim (h.1 x) (h.2 x),fun h=>⟨fun x hx=>h x (.inl hx),fun x hx=>h x (.inr hx)⟩⟩
   rw[cz,br,key l (fun _ h=>h) 0];simp
theorem vQ{c:Nat}(t:Tm):t.size<=c->fi (fun _ _ _ z=>z<=c) t:=by
  induction t using ind with
  |h k n i l ih=>
   intro h;rw[aM]at h;have:=aA l;rw[cz,bV];exact⟨by omega,fun u hu=>ih u hu (by have:=aK hu;omega)⟩
variable (hv:∀ n i i' z,N 5 n i z->N 5 n i' z) (h0:N 0 [] 0 0)
include h0 in
theorem cf:fi N aO:=(cz _ _ _ _).2 ⟨h0,iO⟩
include hv in
theorem Vs(f:To)(t:Tm):∀ b,fi N t->fi N (mv f b t):=by
  induction t using ind with
  |h k n i l ih=>
   intro b h;rw[cz]at h;rw[iN,cz];refine⟨?_,?_⟩
   ·by_cases hk:k=5
    ·subst hk;rw[j7];exact hv _ _ _ _ h.1
    unfold lN;rw[if_neg (fun e=>hk e.1),j7];exact h.1
   have key:∀(l':List Tm),(∀ t∈l',t∈l)->gI N l'->∀ j,gI N (iC f b k j l'):=by
     intro l';induction l' with
     |nil=>intro _ _ j;rw[iC];exact iO
     |cons t ts dF=>
      intro hm hn j;rw[gI]at hn;rw[iC,gI];exact⟨ih t (hm t (by simp)) _ hn.1,dF (fun t ht=>hm t (by simp[ht])) hn.2 (j+1)⟩
   exact key l (fun _ h=>h) h.2 0
include h0 in
theorem qJ{t:Tm}{w:Nat}(h:fi N t):fi N (jo t w).t:=by
  unfold jo;split
  ·exact h
  exact cf h0
theorem O6(f:Int->Tm->Nat->gp)(d k:Int)(l:List Tm)(hf:∀ t∈l,∀ d w,fi N (f d t w).t):∀ j w,gI N (eO f d k j l w).ts:=by
  induction l with
  |nil=>intro j w;rw[eO];exact iO
  |cons t ts ih=>
   intro j w;rw[eO];split
   ·split
    ·show gI N (_ :: _);rw[gI];exact⟨hf t (by simp) _ _,ih (fun t ht=>hf t (by simp[ht])) _ _⟩
    exact iO
   exact iO
include h0 in
theorem Ig(f:Tm->Sm->Tm->Nat->gp)(hf:∀ u s b w,fi N u->fi N b->fi N (f u s b w).t)(us:List Tm):∀(m:Tm)(ss:List Sm)(w:Nat),fi N m->gI N us->fi N (ld f m ss us w).t:=by
  induction us with
  |nil=>
   intro m ss w hm _;unfold ld;split
   ·exact cf h0
   exact qJ h0 hm
  |cons u us ih=>
   intro m ss w hm hu;rw[gI]at hu;cases ss with
   |nil=>unfold ld;exact cf h0
   |cons s ss=>
    rw[ld]
    have hb:fi N (m.args.headD aO):=by
      cases m with
      |mk k n i l=>
       rw[cz]at hm;cases l with
       |nil=>exact cf h0
       |cons t ts=>
        have:=hm.2;rw[gI]at this;exact this.1
    have tU:=hf u s _ w hu.1 hb;split
    ·split
     ·exact ih _ _ _ tU hu.2
     exact tU
    exact cf h0
include hv h0 in
theorem Qg(f:Tm->Sm->Tm->Nat->gp)(hf:∀ u s b w,fi N u->fi N b->fi N (f u s b w).t)(ms:List Tm)(ss:List Sm)(d k:Int)(nm:List UInt8)(i:Int)(us:List Tm)(w:Nat)
    (jw:gI N ms) (hn:N k nm i us.length) (hu:gI N us):fi N (ye f ms ss d k nm i us w).t:=by
  unfold ye;split
  ·rename_i hk;split
   ·rename_i aB;split
    ·exact cf h0
    unfold ap;split
    ·refine Ig h0 f hf us _ _ _ (Vs hv _ _ _ ?_) hu;by_cases h:(i - d).toNat<ms.length
     ·rw[List.getD,List.getElem?_eq_getElem h];exact(bV ms).1 jw _ (List.getElem_mem _)
     rw[List.getD,List.getElem?_eq_none (by omega)];exact cf h0
    exact cf h0
   refine qJ h0 ((cz _ _ _ _).2 ⟨?_,hu⟩);obtain⟨rfl,_⟩:=hk;exact hv _ _ _ _ hn
  exact qJ h0 ((cz _ _ _ _).2 ⟨hn,hu⟩)
include hv h0 in
theorem U4(n:Nat):∀ ms ss d t w,gI N ms->fi N t->fi N (sb n ms ss d t w).t:=by
  induction n with
  |zero=>intro ms ss d t w _ _;rw[sb];exact cf h0
  |succ n ih=>
   intro ms ss d t w jw ht;rw[sb];split
   ·exact cf h0
   split
   ·rename_i hA;cases t with
    |mk k nm i l=>
     simp only[zR,BN,wy,jK]at *
     rw[cz]at ht;refine Qg hv h0 _ (fun u s b w hu hb=>ih [u] [s] 0 b w ?_ hb) ms ss d k nm i _ _ jw (by rw[lY _ _ _ _ _ _ hA];exact ht.1) ?_
     ·rw[gI];exact⟨hu,iO⟩
     exact O6 _ d k l (fun t EG d w=>ih ms ss d t w jw ((bV l).1 ht.2 t EG)) 0 (w+1)
   exact cf h0
include hv h0 in
theorem TB(n:Nat)(m:Tm)(ss:List Sm)(us:List Tm)(w:Nat)(hm:fi N m)(hu:gI N us):fi N (ap (fun u s b w'=>sb n [u] [s] 0 b w') m ss us w).t:=by
  unfold ap;split
  ·exact Ig h0 _ (fun u s b w h1 h2=>U4 hv h0 n [u] [s] 0 b w (by rw[gI];exact⟨h1,iO⟩) h2) us m ss w hm hu
  exact cf h0
end
end Go.LF.Tm
namespace Go.LF
section
open Tm
mutual
def kv(g:Int->Int->List Tm->Nat->Option gp):Tm->Nat->gp
  |mk k n i l,c=>if(eN g l c).e=0 then((g k i (eN g l c).ts (eN g l c).w).getD (jo (mk k n i (eN g l c).ts) (eN g l c).w))else⟨(eN g l c).e,aO,(eN g l c).w⟩
def eN(g:Int->Int->List Tm->Nat->Option gp):List Tm->Nat->abe
  | [],c=>⟨0,[],c⟩
  |t :: ts,c=>
   if(kv g t c).e=0 then
     (if(eN g ts (kv g t c).w).e=0 then⟨0,(kv g t c).t :: (eN g ts (kv g t c).w).ts,(eN g ts (kv g t c).w).w⟩
       else⟨(eN g ts (kv g t c).w).e,[],(eN g ts (kv g t c).w).w⟩)
   else⟨(kv g t c).e,[],(kv g t c).w⟩
end
theorem kY(g k n i l c):kv g (mk k n i l) c=if(eN g l c).e=0 then((g k i (eN g l c).ts (eN g l c).w).getD (jo (mk k n i (eN g l c).ts) (eN g l c).w))else⟨(eN g l c).e,aO,(eN g l c).w⟩:=by rw[kv]
theorem oY(g:Int->Int->List Tm->Nat->Option gp)(l:List Tm):∀(j c:Nat),eN g l c=eO (fun _ t c=>kv g t c) 0 0 j l c:=by
  induction l with
  |nil=>intro j c;rw[eN,eO]
  |cons t ts ih=>intro j c;rw[eN,eO,ih (j+1)]
theorem pH(g:Int->Int->List Tm->Nat->Option gp)(l:List Tm)(c j:Nat)(h:j<l.length)(h0:(eN g (l.take j) c).e=0):eN g (l.take (j+1)) c=
    if(kv g l[j] (eN g (l.take j) c).w).e=0 then⟨0,(eN g (l.take j) c).ts++[(kv g l[j] (eN g (l.take j) c).w).t],(kv g l[j] (eN g (l.take j) c).w).w⟩
    else⟨(kv g l[j] (eN g (l.take j) c).w).e,[],(kv g l[j] (eN g (l.take j) c).w).w⟩:=by
  rw[oY g _ 0,oY g _ 0]at *
  rw[lu _ _ _ _ _ _ h h0]
theorem Ci(g:Int->Int->List Tm->Nat->Option gp)(l:List Tm)(c j:Nat)(h0:(eN g (l.take j) c).e≠0):eN g l c=eN g (l.take j) c:=by
  rw[oY g _ 0,oY g _ 0]at *
  exact vG _ _ _ _ _ _ h0
theorem GH(g:Int->Int->List Tm->Nat->Option gp)(l:List Tm)(c:Nat)(h:(eN g l c).e=0):(eN g l c).ts.length=l.length:=by
  rw[oY g _ 0]at *;exact lY _ _ _ _ _ _ h
theorem qC(g:Int->Int->List Tm->Nat->Option gp)(c:Nat):eN g [] c=⟨0,[],c⟩:=by rw[eN]
theorem uZ(g:Int->Int->List Tm->Nat->Option gp)(t:Tm)(ts:List Tm)(c:Nat):eN g (t :: ts) c=if(kv g t c).e=0 then
      (if(eN g ts (kv g t c).w).e=0 then⟨0,(kv g t c).t :: (eN g ts (kv g t c).w).ts,(eN g ts (kv g t c).w).w⟩
        else⟨(eN g ts (kv g t c).w).e,[],(eN g ts (kv g t c).w).w⟩)
    else⟨(kv g t c).e,[],(kv g t c).w⟩:=by rw[eN]
def zo(l:List Mv)(k i:Int):Option Mv:=if k=6/\0<=i then(match l[i.toNat]? with |some m=>if m.value=[]then none else some m |none=>none)else none
theorem lJ{l:List Mv}{k i:Int}{m:Mv}(h:zo l k i=some m):k=6/\0<=i/\i<l.length/\l[i.toNat]? =some m/\m∈l/\m.value≠[]:=by
  unfold zo at h;split at h
  ·rename_i hk;split at h
   ·rename_i m' hm;split at h
    ·cases h
    rename_i hv;cases h
    obtain⟨h1,h2⟩:=List.getElem?_eq_some_iff.1 hm;exact⟨hk.1,hk.2,by omega,hm,h2 ▸ List.getElem_mem _,hv⟩
   cases h
  cases h
def nM(l:List Mv)(f:Tm->Nat->gp)(k i:Int)(us:List Tm)(c:Nat):Option gp:=
  (zo l k i).map fun m=>if 16384<c+1 then⟨2,aO,c+1⟩else
    if m6 (m.value.headD aO) (er m.type) us≠0 then⟨m6 (m.value.headD aO) (er m.type) us,aO,c+1⟩else f (lp (m.value.headD aO) (er m.type) us) (c+1)
def gG(l:List Mv):Nat->Tm->Nat->gp
  |0=>fun _ c=>⟨2,aO,c+1⟩
  |n+1=>kv (nM l (gG l n))
theorem eZ(l:List Mv)(n:Nat):gG l (n+1)=kv (nM l (gG l n)):=by rw[gG]
def Oh(l:List Mv)(n:Nat)(m:Mv)(us:List Tm)(c:Nat):gp:=if 16384<c+1 then⟨2,aO,c+1⟩else
    if m6 (m.value.headD aO) (er m.type) us≠0 then⟨m6 (m.value.headD aO) (er m.type) us,aO,c+1⟩else gG l n (lp (m.value.headD aO) (er m.type) us) (c+1)
theorem vJ{l:List Mv}{n:Nat}{k i:Int}{m:Mv}(h:zo l k i=some m)(us:List Tm)(c:Nat):nM l (gG l n) k i us c=some (Oh l n m us c):=by unfold nM Oh;rw[h];rfl
theorem wL{l:List Mv}{f:Tm->Nat->gp}{k i:Int}(h:zo l k i=none)(us:List Tm)(c:Nat):nM l f k i us c=none:=by unfold nM;rw[h];rfl
structure MvG(n:Int)(m:Mv):Prop where
  kQ:m.type.aC=true/\m.type.small=true
  val:∀ v∈m.value,v.isObj=true/\v.small=true
  one:m.value.length<=1
  kn:fi (fun k _ i z=>(k=6->i<n)/\z<=200) m.type/\∀ v∈m.value,fi (fun k _ i z=>(k=6->i<n)/\z<=200) v
abbrev Kn(n:Int)(t:Tm):Prop:=fi (fun k _ i z=>(k=6->i<n)/\z<=200) t
structure GW(l:List Mv):Prop where
  len:l.length<=40
  mv:∀ m∈l,MvG l.length m
theorem Fs{m:Tm}{s:Sm}{us:List Tm}(h:m6 m s us=0):(m.isObj=true/\m.small=true)/\(∀ u∈us,u.isObj=true/\u.small=true)/\(Tm.ap (Tm.oI 262145) m s.args us 0).e=0/\lp m s us=(Tm.ap (Tm.oI 262145) m s.args us 0).t:=by
  have h0:=h;unfold m6 at h;split at h
  ·rename_i h1;exact absurd h h1
  split at h
  ·rename_i h1;exact absurd h h1
  split at h
  ·omega
  rename_i h1;simp only[List.any_cons,Bool.or_eq_true,not_or,List.any_eq_true,Bool.not_eq_true',Bool.and_eq_false_iff]at h1;refine⟨?_,fun u hu=>?_,h,by unfold lp;rw[if_pos h0]⟩
  ·have:=h1.1;simp only[Bool.not_eq_false]at this;exact this
  have h2:=h1.2;by_cases hc:u.isObj=true/\u.small=true
  ·exact hc
  exact absurd ⟨u,hu,by
    cases h3:u.isObj<;>cases h4:u.small<;>simp_all⟩ h2
theorem Jp(f:Tm->Sm->Tm->Nat->gp)(m:Tm)(ss:List Sm)(us:List Tm)(w:Nat)(h:(ap f m ss us w).e=0):(ap f m ss us w).t.small=true:=by
  unfold ap at h ⊢;split
  ·rename_i hl;rw[if_pos hl]at h;exact rN _ _ _ _ _ h
  rename_i hl;rw[if_neg hl]at h;simp at h
theorem rb{m:Tm}{s:Sm}{us:List Tm}(h:m6 m s us=0):(lp m s us).isObj=true/\(lp m s us).small=true:=by
  obtain⟨h1,h2,h3,h4⟩:=Fs h;rw[h4];refine⟨?_,Jp _ _ _ _ _ h3⟩;rcases Br (oI 262145) (fun u s b w hu hs hb hd=>oD 262145 [u] [s] 0 b w (fun x hx=>by obtain rfl:x=u:=(by simpa using hx);exact⟨hu,hs⟩) (by omega) (by omega) hb) us m s.args 0 h2 h1.1 h1.2 with h5 |h5
  ·exact h5.2.1
  exact absurd h3 h5.1
theorem rA{N:Int->List UInt8->Int->Nat->Prop}(hv:∀ n i i' z,N 5 n i z->N 5 n i' z)(h0:N 0 [] 0 0){m:Tm}{s:Sm}{us:List Tm}(hm:fi N m)(hu:gI N us):fi N (lp m s us):=by
  unfold lp;split
  ·exact TB hv h0 262145 m s.args us 0 hm hu
  exact cf h0
theorem Fg{n:Int}:∀(_:List UInt8)(i i':Int)(z:Nat),((5:Int)=6->i<n)/\z<=200->((5:Int)=6->i'<n)/\z<=200:=fun _ _ _ _ h=>⟨fun e=>absurd e (by decide),h.2⟩
theorem AW{n:Int}:((0:Int)=6->(0:Int)<n)/\0<=200:=⟨fun e=>absurd e (by decide),by decide⟩
inductive Pw{α β:Type}(P:α->β->Prop):List α->List β->Prop
  |nil:Pw P [] []
  |cons {a b l m} (h:P a b) (t:Pw P l m):Pw P (a :: l) (b :: m)
theorem ur(g:Int->Int->List Tm->Nat->Option gp)(P:Tm->Tm->Prop)(l:List Tm)(h:∀ t∈l,∀ c,(kv g t c).e=0->P t (kv g t c).t):∀ c,(eN g l c).e=0->Pw P l (eN g l c).ts:=by
  induction l with
  |nil=>intro c _;rw[qC];exact .nil
  |cons t ts ih=>
   intro c h0;rw[uZ]at h0 ⊢;by_cases h1:(kv g t c).e=0
   ·rw[if_pos h1]at h0 ⊢;by_cases h2:(eN g ts (kv g t c).w).e=0
    ·rw[if_pos h2];exact .cons (h t (by simp) c h1) (ih (fun t ht=>h t (by simp[ht])) _ h2)
    rw[if_neg h2]at h0;exact absurd h0 h2
   rw[if_neg h1]at h0;exact absurd h0 h1
theorem VK(g:Int->Int->List Tm->Nat->Option gp)(l:List Tm)(h:∀ t∈l,∀ c,c<=(kv g t c).w):∀ c,c<=(eN g l c).w:=by
  have key:∀(l:List Tm),(∀ t∈l,∀ c,c<=(kv g t c).w)->∀ j c,c<=(eO (fun _ t c=>kv g t c) 0 0 j l c).w:=by
    intro l;induction l with
    |nil=>intro _ j c;rw[eO];exact Nat.le_refl _
    |cons t ts ih=>
     intro h j c;have h1:=h t (by simp) c;have h2:=ih (fun t ht=>h t (by simp[ht])) (j+1) (kv g t c).w;rw[eO];split
     ·split
      ·exact Nat.le_trans h1 h2
      exact Nat.le_trans h1 h2
     exact h1
  intro c;rw[oY g _ 0];exact key l h 0 c
theorem V2(g:Int->Int->List Tm->Nat->Option gp)(hg:∀ k i us c r,g k i us c=some r->c<=r.w)(t:Tm):∀ c,c<=(kv g t c).w:=by
  induction t using ind with
  |h k n i l ih=>
   intro c;have h1:=VK g l ih c;rw[kY];split
   ·cases hq:g k i (eN g l c).ts (eN g l c).w with
    |none=>show c<=(jo _ _).w;rw[pv];exact h1
    |some r=>exact Nat.le_trans h1 (hg _ _ _ _ _ hq)
   exact h1
theorem Ng(l:List Mv)(n:Nat):∀ t c,c<=(gG l n t c).w:=by
  induction n with
  |zero=>intro t c;exact Nat.le_succ c
  |succ n ih=>
   intro t c;rw[eZ];refine V2 _ (fun k i us c r h=>?_) t c;unfold nM at h;obtain⟨m,_,rfl⟩:=Option.map_eq_some_iff.1 h;split
   ·exact Nat.le_succ c
   split
   ·exact Nat.le_succ c
   exact Nat.le_trans (Nat.le_succ c) (ih _ _)
theorem rE(l:List Mv)(n:Nat):∀ t c,(gG l n t c).e≠0->(gG l n t c).t=aO:=by
  induction n with
  |zero=>intro t c _;rfl
  |succ n ih=>
   intro t c h;rw[eZ]at h ⊢;cases t with
   |mk k nm i ts=>
    rw[kY]at h ⊢;split
    ·rename_i h0;rw[if_pos h0]at h;cases hq:nM l (gG l n) k i (eN (nM l (gG l n)) ts c).ts (eN (nM l (gG l n)) ts c).w with
     |none=>
      rw[hq]at h;show(jo _ _).t=_;have h:(jo (mk k nm i (eN (nM l (gG l n)) ts c).ts) (eN (nM l (gG l n)) ts c).w).e≠0:=h;unfold jo at h ⊢;split
      ·rename_i h1;rw[if_pos h1]at h;exact absurd rfl h
      rfl
     |some r=>
      rw[hq]at h;show r.t=_;have h:r.e≠0:=h;unfold nM at hq;obtain⟨m,_,rfl⟩:=Option.map_eq_some_iff.1 hq;split
      ·rfl
      rename_i h1;rw[if_neg h1]at h;split
      ·rfl
      rename_i h2;rw[if_neg h2]at h;exact ih _ _ h
    rfl
theorem zr(l:List Mv)(n:Nat):∀ t c,(gG l n t c).e=0->(gG l n t c).t.small=true:=by
  induction n with
  |zero=>intro t c h;simp[gG]at h
  |succ n ih=>
   intro t c h;rw[eZ]at h ⊢;cases t with
   |mk k nm i ts=>
    rw[kY]at h ⊢;split
    ·rename_i h0;rw[if_pos h0]at h;cases hq:nM l (gG l n) k i (eN (nM l (gG l n)) ts c).ts (eN (nM l (gG l n)) ts c).w with
     |none=>rw[hq]at h;exact oX _ _ h
     |some r=>
      rw[hq]at h;show r.t.small=_;have h:r.e=0:=h;unfold nM at hq;obtain⟨m,_,rfl⟩:=Option.map_eq_some_iff.1 hq;split
      ·rename_i h1;rw[if_pos h1]at h;simp at h
      rename_i h1;rw[if_neg h1]at h;split
      ·rename_i h2;rw[if_pos h2]at h;exact absurd h h2
      rename_i h2;rw[if_neg h2]at h;exact ih _ _ h
    rename_i h0;rw[if_neg h0]at h;exact absurd h h0
theorem Rp{N:Int->List UInt8->Int->Nat->Prop}(h0:N 0 [] 0 0)(g:Int->Int->List Tm->Nat->Option gp)(hg:∀ k i us c r,gI N us->g k i us c=some r->fi N r.t)(t:Tm):fi N t->∀ c,fi N (kv g t c).t:=by
  induction t using ind with
  |h k n i l ih=>
   intro ht c;rw[cz]at ht;rw[kY];split
   ·rename_i he
    have hA:gI N (eN g l c).ts:=by
      rw[bV];have hF:=ur g (fun _ r=>fi N r) l (fun t h c _=>ih t h ((bV l).1 ht.2 t h) c) c he;generalize (eN g l c).ts=us at hF;clear he ih ht;induction hF with
      |nil=>simp
      |cons h1 _ ih=>intro u hu;rcases List.mem_cons.1 hu with rfl |hu;(exact h1);exact ih u hu
    cases hq:g k i (eN g l c).ts (eN g l c).w with
    |none=>exact qJ h0 ((cz _ _ _ _).2 ⟨by rw[GH g l c he];exact ht.1,hA⟩)
    |some r=>exact hg _ _ _ _ _ hA hq
   exact cf h0
theorem Az{N:Int->List UInt8->Int->Nat->Prop}(hv:∀ n i i' z,N 5 n i z->N 5 n i' z)(h0:N 0 [] 0 0)(l:List Mv)(hl:∀ m∈l,∀ v∈m.value,fi N v)(n:Nat):∀ t c,fi N t->fi N (gG l n t c).t:=by
  induction n with
  |zero=>intro t c _;exact cf h0
  |succ n ih=>
   intro t c ht;rw[eZ];refine Rp h0 _ (fun k i us c r gd h=>?_) t ht c;unfold nM at h;obtain⟨m,hm,rfl⟩:=Option.map_eq_some_iff.1 h;obtain⟨_,_,_,_,mR,xm⟩:=lJ hm;split
   ·exact cf h0
   split
   ·exact cf h0
   refine ih _ _ (rA hv h0 ?_ gd);match EC:m.value,xm with
   |v :: r,_=>exact hl m mR v (by rw[EC];simp)
end
section
open Tm
theorem U6{t:Tm}{w:Nat}(h:(jo t w).e=0):(jo t w).t=t:=by
  unfold jo at h ⊢;split
  ·rfl
  rename_i h1;rw[if_neg h1]at h;simp at h
def Kp(t r:Tm):Prop:=(t.isObj=true->r.isObj=true)/\(t.aC=true->r.aC=true)/\(t.aI=true->r.aI=true)
theorem UD{l us:List Tm}(h:Pw Kp l us):aV l=true->aV us=true:=by
  induction h with
  |nil=>exact fun h=>h
  |cons h1 _ ih=>intro h;rw[aV,Bool.and_eq_true]at h ⊢;exact⟨h1.1 h.1,ih h.2⟩
theorem VN{l us:List Tm}(h:Pw Kp l us):cI l=true->cI us=true:=by
  induction h with
  |nil=>exact fun h=>h
  |cons h1 _ ih=>intro h;rw[cI,Bool.and_eq_true]at h ⊢;exact⟨h1.2.1 h.1,ih h.2⟩
theorem TQ{l us:List Tm}(h:Pw Kp l us):us.length=l.length:=by
  induction h with
  |nil=>rfl
  |cons _ _ ih=>simp[ih]
theorem PW{k i:Int}{n:List UInt8}{l us:List Tm}(h:Pw Kp l us):Kp (mk k n i l) (mk k n i us):=by
  have hl:=TQ h;have ho:=UD h;have ht:=VN h;refine⟨fun e=>?_,fun e=>?_,fun e=>?_⟩
  ·rw[isObj]at e ⊢;unfold bound at e ⊢;rw[hl];split at e
   ·rename_i hk;rw[if_pos hk];rw[Bool.and_eq_true]at e ⊢;exact⟨e.1,ho e.2⟩
   rename_i hk;rw[if_neg hk];split at e
   ·rename_i hk;rw[if_pos hk];rw[Bool.and_eq_true]at e ⊢;exact⟨e.1,ho e.2⟩
   rename_i hk;rw[if_neg hk];split at e
   ·rename_i hk;rw[if_pos hk];rw[Bool.and_eq_true]at e ⊢;exact⟨e.1,ho e.2⟩
   rename_i hk;rw[if_neg hk];split at e
   ·rename_i hk;rw[if_pos hk];rw[Bool.and_eq_true]at e ⊢;exact⟨e.1,ho e.2⟩
   cases e
  ·rw[aC,isAtom]at e ⊢;unfold bound at e ⊢;rw[hl];simp only[Bool.or_eq_true,Bool.and_eq_true]at e ⊢;rcases e with e |e
   ·exact .inl ⟨e.1,e.2.1,ho e.2.2⟩
   exact .inr ⟨e.1,e.2.1,ht e.2.2⟩
  unfold aI at e;split at e
  ·rename_i heq;cases heq
   cases h with
   |cons h1 h2=>
    cases h2 with
    |cons h3 h4=>
     cases h4
     rw[aI];unfold bound at e ⊢;simp only[Bool.and_eq_true]at e ⊢;exact⟨e.1,e.2.1,h1.2.1 e.2.2.1,h3.2.2 e.2.2.2⟩
  rename_i heq;cases heq
  simp only[Bool.and_eq_true,List.isEmpty_iff]at e;obtain⟨h1,h2,h3,h4⟩:=e;subst h4;cases h
  rw[aI]
  ·simp[h1,h2,h3]
  intro a b hab;cases hab
theorem Q5{n:List UInt8}{i:Int}{l:List Tm}{r:Tm}(h:r.isObj=true):Kp (mk 6 n i l) r:=by
  refine⟨fun _=>h,fun e=>?_,fun e=>?_⟩
  ·rw[aC,isAtom]at e;simp at e
  unfold aI at e;split at e
  ·rename_i heq;cases heq;simp at e
  rename_i heq;cases heq;simp at e
theorem VU(g:Int->Int->List Tm->Nat->Option gp)(hg:∀ k i us c r,g k i us c=some r->r.e=0->k=6/\r.t.isObj=true)(t:Tm):∀ c,(kv g t c).e=0->Kp t (kv g t c).t:=by
  induction t using ind with
  |h k n i l ih=>
   intro c h;rw[kY]at h ⊢;split
   ·rename_i he;rw[if_pos he]at h;have hF:=ur g Kp l ih c he;cases hq:g k i (eN g l c).ts (eN g l c).w with
    |none=>
     rw[hq]at h;show Kp _ (jo _ _).t;have h:(jo (mk k n i (eN g l c).ts) (eN g l c).w).e=0:=h;rw[U6 h];exact PW hF
    |some r=>
     rw[hq]at h;obtain⟨rfl,h2⟩:=hg _ _ _ _ _ hq h;exact Q5 h2
   rename_i he;rw[if_neg he]at h;exact absurd h he
theorem zS(l:List Mv)(n:Nat):∀ t c,(gG l n t c).e=0->Kp t (gG l n t c).t:=by
  induction n with
  |zero=>intro t c h;simp[gG]at h
  |succ n ih=>
   intro t c h;rw[eZ]at h ⊢;refine VU _ (fun k i us c r hr h0=>?_) t c h;unfold nM at hr;obtain⟨m,hm,rfl⟩:=Option.map_eq_some_iff.1 hr;refine⟨(lJ hm).1,?_⟩;split at h0
   ·simp at h0
   rename_i h1;rw[if_neg h1];split at h0
   ·rename_i h2;exact absurd h0 h2
   rename_i h2;rw[if_neg h2];exact(ih _ _ h0).1 (rb (by simpa using h2)).1
theorem Ba(l:List Mv)(n:Nat)(t:Tm)(c:Nat)(ht:t.wf=0)(h:(gG l n t c).e=0):(gG l n t c).t.wf=0:=by
  obtain⟨h1,h2,h3⟩:=zS l n t c h;have hs:=zr l n t c h;unfold wf;rw[hs];rcases(dz ht).1 with h4 |h4 |h4
  ·rw[h1 h4];rfl
  ·rw[h2 h4];simp
  rw[h3 h4];simp
theorem Rs(g:Int->Int->List Tm->Nat->Option gp)(N:Nat)(hg:∀ k i us c r,g k i us c=some r->c<=N->r.e=0->r.w<=N)(t:Tm):∀ c,c<=N->(kv g t c).e=0->(kv g t c).w<=N:=by
  induction t using ind with
  |h k n i l ih=>
   intro c hc h
   have key:∀(us:List Tm),(∀ t∈us,t∈l)->∀ c,c<=N->(eN g us c).e=0->(eN g us c).w<=N:=by
     intro us;induction us with
     |nil=>intro _ c hc _;rw[qC];exact hc
     |cons t ts dF=>
      intro hm c hc h;rw[uZ]at h ⊢;split
      ·rename_i h1;rw[if_pos h1]at h;split
       ·rename_i h2;exact dF (fun t ht=>hm t (by simp[ht])) _ (ih t (hm t (by simp)) c hc h1) h2
       rename_i h2;rw[if_neg h2]at h;exact absurd h h2
      rename_i h1;rw[if_neg h1]at h;exact absurd h h1
   rw[kY]at h ⊢;split
   ·rename_i he;rw[if_pos he]at h;have h1:=key l (fun _ h=>h) c hc he;cases hq:g k i (eN g l c).ts (eN g l c).w with
    |none=>show(jo _ _).w<=N;rw[pv];exact h1
    |some r=>rw[hq]at h;exact hg _ _ _ _ _ hq h1 h
   rename_i he;rw[if_neg he]at h;exact absurd h he
theorem Im(l:List Mv)(n:Nat):∀ t c,c<=16384->(gG l n t c).e=0->(gG l n t c).w<=16384:=by
  induction n with
  |zero=>intro t c _ h;simp[gG]at h
  |succ n ih=>
   intro t;rw[eZ];refine Rs _ 16384 (fun k i us c r hr hc h0=>?_) t;unfold nM at hr;obtain⟨m,hm,rfl⟩:=Option.map_eq_some_iff.1 hr;split at h0
   ·simp at h0
   rename_i h1;split at h0
   ·rename_i h2;exact absurd h0 h2
   rename_i h2;rw[if_neg h1,if_neg h2];exact ih _ _ (by omega) h0
theorem H7{l:List Mv}{k i:Int}(h:k≠6):zo l k i=none:=by unfold zo;rw[if_neg (fun e=>h e.1)]
theorem Jg{k i:Int}{n:List UInt8}{l:List Tm}(h:(mk k n i l).small=true):∀ u∈l,u.small=true:=by
  intro u hu;unfold small at h ⊢;rw[Bool.and_eq_true,decide_eq_true_eq,decide_eq_true_eq]at h ⊢;rw[aM,cD]at h;have:=aK hu;have:=bz hu;exact⟨by omega,by omega⟩
end
section
open Tm Go.Proofs.YthgmimncdjhgnaaGreatDoor
def ep(l:List Mv)(t:Tm):Int:=if t.wf≠0 then t.wf else if(Tm.ay t).any (fun i=>decide ((l.length:Int)<=i))=true then 3 else(gG l 16385 t 0).e
def bP(l:List Mv)(t:Tm):Tm:=if ep l t=0 then(gG l 16385 t 0).t else aO
theorem r8(t:Tm)(h:t.wf=0)(i:Int):i∈Tm.ay t↔∃ x∈nodes 0 t,x.k=6/\x.i=i:=by
  unfold Tm.ay Tm.lG;rw[if_pos (by simp[h]),<-pW t 0 []]
  have key:∀(xs:List BV)(acc:List Int),i∈xs.foldl dt acc↔i∈acc\/∃ x∈xs,x.k=6/\x.i=i:=by
    intro xs;induction xs with
    |nil=>intro acc;simp
    |cons x xs ih=>
     intro acc;rw[List.foldl_cons,ih]
     have hs:i∈dt acc x↔i∈acc\/(x.k=6/\x.i=i):=by
       unfold dt;split
       ·rename_i hc;simp only[Bool.and_eq_true,beq_iff_eq]at hc;rw[List.mem_append,List.mem_singleton];exact⟨fun h=>h.imp id (fun h=>⟨hc.1,h.symm⟩),fun h=>h.imp id (fun h=>h.2.symm)⟩
       rename_i hc;refine⟨.inl,fun h=>h.elim id (fun h=>?_)⟩;obtain⟨h1,rfl⟩:=h;simpa[h1]using hc
     rw[hs];constructor
     ·rintro((h |h)|⟨y,hy,h⟩)
      ·exact .inl h
      ·exact .inr ⟨x,by simp,h⟩
      exact .inr ⟨y,by simp[hy],h⟩
     rintro(h |⟨y,hy,h⟩)
     ·exact .inl (.inl h)
     rcases List.mem_cons.1 hy with rfl |hy
     ·exact .inl (.inr h)
     exact .inr ⟨y,hy,h⟩
  rw[key];simp
theorem zL(t:Tm)(h:¬t.wf=0):Tm.ay t=[]:=by
  unfold Tm.ay;rw[if_neg (by simpa using h)]
theorem cT{N:Int->Prop}(t:Tm)(h:t.wf=0):fi (fun k _ i _=>k=6->N i) t↔∀ i∈Tm.ay t,N i:=by
  rw[oz (M:=fun k _ i=>k=6->N i) t 0];constructor
  ·intro hn i hi;obtain⟨x,hx,h6,rfl⟩:=(r8 t h i).1 hi;exact hn x hx h6
  intro hn x hx h6;exact hn _ ((r8 t h _).2 ⟨x,hx,h6,rfl⟩)
theorem qQ{N M:Int->List UInt8->Int->Nat->Prop}(t:Tm):fi N t->fi M t->fi (fun k n i z=>N k n i z/\M k n i z) t:=by
  induction t using ind with
  |h k n i l ih=>
   intro h1 h2;rw[cz,bV]at h1 h2 ⊢;exact⟨⟨h1.1,h2.1⟩,fun u hu=>ih u hu (h1.2 u hu) (h2.2 u hu)⟩
theorem vT{n:Int}(t:Tm)(h:t.wf=0)(hs:t.size<=200)(hm:∀ i∈Tm.ay t,i<n):Kn n t:=qQ t ((cT t h).2 hm) (vQ t hs)
theorem nP{n:Int}{t:Tm}(hm:Kn n t):∀ i∈Tm.ay t,i<n:=by
  intro i hi;by_cases h:t.wf=0
  ·exact(cT (N:=fun i=>i<n) t h).1 (Am (fun _ _ _ _ h=>h.1) t hm) i hi
  rw[zL t h]at hi;cases hi
theorem jt{t:Tm}:∀ i∈Tm.ay t,0<=i/\i<2048:=by
  intro i hi;by_cases h:t.wf=0
  ·obtain⟨x,hx,h6,rfl⟩:=(r8 t h i).1 hi;exact((pD t h).1 0 x hx).2.1 (by simp[h6])
  rw[zL t h]at hi;cases hi
structure Ord where
  o:List Int
  e:Int
def typeOf(l:List Mv)(i:Int):Tm:=match l[i.toNat]? with |some m=>m.type |none=>aO
def dk(l:List Mv)(f:List Int->Ord->Ord):List Int->Ord->Ord
  | [],s=>s
  |m :: ms,s=>
   if s.e≠0 then s else if s.o.contains m=true then dk l f ms s else
   if ep l (typeOf l m)≠0 then⟨s.o,ep l (typeOf l m)⟩else
   if(f (Tm.ay (bP l (typeOf l m))) s).e=0 then dk l f ms ⟨(f (Tm.ay (bP l (typeOf l m))) s).o++[m],0⟩else f (Tm.ay (bP l (typeOf l m))) s
def o5(l:List Mv):Nat->List Int->Ord->Ord
  |0=>dk l (fun _ s=>s)
  |d+1=>dk l (o5 l d)
theorem nH(l:List Mv)(f:List Int->Ord->Ord)(ms:List Int)(s:Ord)(h:s.e≠0):dk l f ms s=s:=by
  cases ms with
  |nil=>rfl
  |cons m ms=>rw[dk,if_pos h]
theorem nU(l:List Mv)(f:List Int->Ord->Ord)(a b:List Int):∀ s,dk l f (a++b) s=dk l f b (dk l f a s):=by
  induction a with
  |nil=>intro s;rfl
  |cons m ms ih=>
   intro s;rw[List.cons_append,dk,dk];by_cases h0:s.e≠0
   ·rw[if_pos h0,if_pos h0,nH l f b s h0]
   rw[if_neg h0,if_neg h0];by_cases h1:s.o.contains m=true
   ·rw[if_pos h1,if_pos h1,ih]
   rw[if_neg h1,if_neg h1];by_cases h2:ep l (typeOf l m)≠0
   ·rw[if_pos h2,if_pos h2,nH l f b _ h2]
   rw[if_neg h2,if_neg h2];by_cases h3:(f (Tm.ay (bP l (typeOf l m))) s).e=0
   ·rw[if_pos h3,if_pos h3,ih]
   rw[if_neg h3,if_neg h3,nH l f b _ h3]
theorem qO(l:List Mv)(f:List Int->Ord->Ord)(m:Int)(s:Ord):dk l f [m] s=
    if s.e≠0 then s else if s.o.contains m=true then s else
    if ep l (typeOf l m)≠0 then⟨s.o,ep l (typeOf l m)⟩else
    if(f (Tm.ay (bP l (typeOf l m))) s).e=0 then⟨(f (Tm.ay (bP l (typeOf l m))) s).o++[m],0⟩else f (Tm.ay (bP l (typeOf l m))) s:=by
  rw[dk,dk,dk]
theorem nE(l:List Mv)(f:List Int->Ord->Ord)(ms:List Int)(j:Nat)(h:j<ms.length)(s:Ord):dk l f (ms.take (j+1)) s=dk l f [ms[j]] (dk l f (ms.take j) s):=by
  rw[List.take_succ_eq_append_getElem h,nU]
theorem zm(l:List Mv)(f:List Int->Ord->Ord)(ms:List Int)(j:Nat)(s:Ord)(h:(dk l f (ms.take j) s).e≠0):dk l f ms s=dk l f (ms.take j) s:=by
  conv=>lhs;rw[<-List.take_append_drop j ms]
  rw[nU,nH _ _ _ _ h]
theorem Hq(l:List Mv)(d:Nat):∃ f,o5 l d=dk l f:=by
  cases d with
  |zero=>exact⟨_,rfl⟩
  |succ d=>exact⟨_,rfl⟩
def iS(l:List Mv)(d:Nat):List Tm->Ord->Ord
  | [],s=>s
  |t :: ts,s=>iS l d ts (o5 l d (Tm.ay t) s)
theorem sE(l:List Mv)(d:Nat)(ts:List Tm):∀ s,iS l d ts s=o5 l d (ts.flatMap Tm.ay) s:=by
  obtain⟨f,hf⟩:=Hq l d;induction ts with
  |nil=>intro s;rw[hf];rfl
  |cons t ts ih=>intro s;rw[iS,ih,hf,List.flatMap_cons,nU]
end
section
open Tm Go.Proofs.YthgmimncdjhgnaaGreatDoor
def XT(l:List Mv):Prop:=∀ i:Int,i<l.length->∀ j∈cy l i,¬lX l j i
open Classical in
noncomputable def rk (l:List Mv) (i:Int):Nat:=((List.range l.length).filter (fun j:Nat=>decide (lX l i (j:Int)))).length
theorem Yp(l:List Mv)(i:Int):rk l i<=l.length:=by
  unfold rk;refine Nat.le_trans (List.length_filter_le _ _) ?_;simp
theorem Tc{l:List Mv}(hA:XT l){i j:Int}(h0:0<=i)(hi:i<l.length)(hj:j∈cy l i)(_hn:¬j<l.length\/True):rk l j<rk l i:=by
  classical
  unfold rk;have e:∀ k:Nat,lX l j (k:Int)->lX l i (k:Int):=fun k h=>.step hi hj h
  rw[show(List.range l.length).filter (fun k:Nat=>decide (lX l j (k:Int)))=((List.range l.length).filter (fun k:Nat=>decide (lX l i (k:Int)))).filter (fun k:Nat=>decide (lX l j (k:Int))) by
    rw[List.filter_filter];refine List.filter_congr (fun k _=>?_);rw[Bool.eq_iff_iff];simp only[decide_eq_true_eq,Bool.and_eq_true];exact⟨fun h=>⟨h,e k h⟩,fun h=>h.1⟩]
  rw[List.length_filter_lt_length_iff_exists];refine⟨i.toNat,?_,?_⟩
  ·rw[List.mem_filter];refine⟨List.mem_range.2 (by omega),?_⟩;simp only[decide_eq_true_eq];rw[show((i.toNat:Nat):Int)=i by omega];exact .refl hi
  simp only[decide_eq_true_eq];rw[show((i.toNat:Nat):Int)=i by omega];exact hA i hi j hj
theorem uT{l:List Mv}{i:Int}(h0:0<=i)(hi:i<l.length):∃ m∈l,l[i.toNat]? =some m/\typeOf l i=m.type:=by
  have h:i.toNat<l.length:=by omega
  refine⟨l[i.toNat],List.getElem_mem h,List.getElem?_eq_getElem h,?_⟩;unfold typeOf;rw[List.getElem?_eq_getElem h]
theorem G0(l:List Mv)(n:Nat)(t:Tm)(S:Int->Prop)(hc:∀ i,S i->∀ j∈cy l i,S j)(ht:∀ i∈Tm.ay t,S i)(hw:t.wf=0)(hv:∀ m∈l,∀ v∈m.value,v.wf=0)(c:Nat)(h:(gG l n t c).e=0):∀ i∈Tm.ay (gG l n t c).t,S i:=by
  have hN:fi (fun k _ i _=>k=6->S i) t:=(cT t hw).2 ht;have hw':=Ba l n t c hw h;rw[<-cT (N:=S) _ hw'];revert h hw';clear hw ht;induction n generalizing t c with
  |zero=>intro h;simp[gG]at h
  |succ n ih=>
   intro h _;rw[eZ]at h ⊢
   have key:∀(t:Tm),fi (fun k _ i _=>k=6->S i) t->∀ c,(kv (nM l (gG l n)) t c).e=0->fi (fun k _ i _=>k=6->S i) (kv (nM l (gG l n)) t c).t:=by
     intro t;induction t using ind with
     |h k nm i ts dF=>
      intro ht c h;rw[cz,bV]at ht;rw[kY]at h ⊢;split
      ·rename_i he;rw[if_pos he]at h
       have hA:gI (fun k _ i _=>k=6->S i) (eN (nM l (gG l n)) ts c).ts:=by
         rw[bV];have hF:=ur (nM l (gG l n)) (fun t r=>fi (fun k _ i _=>k=6->S i) t->fi (fun k _ i _=>k=6->S i) r) ts (fun t h c he ht=>dF t h ht c he) c he;generalize (eN (nM l (gG l n)) ts c).ts=us at hF;have h2:=ht.2;clear he h dF ht;induction hF with
         |nil=>simp
         |cons h1 _ ih3=>
          intro u hu;rcases List.mem_cons.1 hu with rfl |hu
          ·exact h1 (h2 _ (by simp))
          exact ih3 (fun a ha=>h2 a (by simp[ha])) u hu
       cases hs:zo l k i with
       |none=>
        rw[wL hs];exact qJ (fun e=>absurd e (by decide)) ((cz _ _ _ _).2 ⟨ht.1,hA⟩)
       |some m=>
        rw[vJ hs]at h ⊢;have h:(Oh l n m (eN (nM l (gG l n)) ts c).ts (eN (nM l (gG l n)) ts c).w).e=0:=h;show fi _ (Oh l n m _ _).t;unfold Oh at h ⊢;split
        ·rename_i h1;rw[if_pos h1]at h;simp at h
        rename_i h1;rw[if_neg h1]at h;split
        ·rename_i h2;rw[if_pos h2]at h;exact absurd h h2
        rename_i h2;rw[if_neg h2]at h;obtain⟨h6,h0,hl,hm,mR,xm⟩:=lJ hs;have ho:=rb (Decidable.not_not.1 h2);refine ih _ _ ?_ h (Ba l n _ _ (jq ho.1 ho.2) h);refine rA (fun _ _ _ _ h e=>absurd e (by decide)) (fun e=>absurd e (by decide)) ?_ hA;match EC:m.value,xm with
        |v :: r,_=>
         show fi _ v;have Kt:v∈m.value:=by rw[EC];simp
         rw[cT v (hv m mR v Kt)];intro j hj;refine hc i (ht.1 h6) j ?_;unfold cy;rw[if_pos h0,hm];show j∈ke m;unfold ke;exact List.mem_append.2 (.inr (List.mem_flatMap.2 ⟨v,Kt,hj⟩))
      exact cf (fun e=>absurd e (by decide))
   exact key t hN c h
theorem Mw{l:List Mv}(hA:XT l)(hG:GW l)(hT:∀ m∈l,m.type.wf=0)(hV:∀ m∈l,∀ v∈m.value,v.wf=0){i:Int}(h0:0<=i)(hi:i<l.length)(he:ep l (typeOf l i)=0):∀ j∈Tm.ay (bP l (typeOf l i)),j<l.length/\rk l j<rk l i:=by
  obtain⟨m,hm,Dy,ht⟩:=uT h0 hi
  have hs:∀ j∈Tm.ay m.type,j∈cy l i:=by
    intro j hj;unfold cy;rw[if_pos h0,Dy];exact List.mem_append.2 (.inl hj)
  have Ey:=he;unfold ep at Ey;rw[ht,if_neg (by rw[hT m hm];simp)]at Ey;split at Ey
  ·omega
  intro j hj;have e1:bP l (typeOf l i)=(gG l 16385 m.type 0).t:=by unfold bP;rw[if_pos he,ht]
  rw[e1]at hj;refine G0 l 16385 m.type (fun j=>j<l.length/\rk l j<rk l i) ?_ ?_ (hT m hm) hV 0 Ey j hj
  ·rintro k ⟨hk,hr⟩ j hj;by_cases h:0<=k
   ·have h1:=Tc hA h hk hj (.inr trivial);refine⟨?_,by omega⟩;unfold cy at hj;rw[if_pos h,List.getElem?_eq_getElem (by omega)]at hj;have hg:=hG.mv _ (List.getElem_mem (show k.toNat<l.length by omega));rcases List.mem_append.1 hj with hj |hj
    ·exact nP hg.kn.1 j hj
    obtain⟨v,hv,hj⟩:=List.mem_flatMap.1 hj;exact nP (hg.kn.2 v hv) j hj
   unfold cy at hj;rw[if_neg h]at hj;cases hj
  intro j hj;exact⟨nP (hG.mv m hm).kn.1 j hj,Tc hA h0 hi (hs j hj) (.inr trivial)⟩
end
section
open Tm Go.Proofs.YthgmimncdjhgnaaGreatDoor
open Classical in
noncomputable def lq (l:List Mv) (is:List Int) (i:Int):Bool:=decide (∃ x∈is,lX l x i)
noncomputable def pS (l:List Mv) (i:Int) (m:Tm):Int:=
  if ¬(0<=i/\i<l.length)then 3 else if(match l[i.toNat]? with |some v=>v.value |none=>[])≠[]then 53 else if ik m l.length≠0 then ik m l.length else if lq l (Tm.ay m) i=true then 51 else 0
def qc(l:List Mv)(i:Int)(m:Tm):List Mv:=match l[i.toNat]? with |some v=>l.set i.toNat ⟨v.name,v.type,[m]⟩|none=>l
noncomputable def ku (l:List Mv) (i:Int) (m:Tm):List Mv:=if pS l i m≠0 then l else qc l i m
structure jn(l:List Mv):Prop where
  len:l.length<=40
  ok:∀ i(h:i<l.length),dq i l[i].name l[i].type=0
  val:∀ m∈l,m.value.length<=1/\∀ v∈m.value,ik v l.length=0
  ar:∀ m∈l,m.type.size<=200/\∀ v∈m.value,v.size<=200
  Xp:XT l
structure lf(l:List Mv):Prop where
  len:l.length<=40
  ok:∀ i(h:i<l.length),dq i l[i].name l[i].type=0
  val:∀ m∈l,m.value.length<=1/\∀ v∈m.value,ik v l.length=0
  kn:∀ m∈l,fi (fun _ _ _ z=>z<=200) m.type/\∀ v∈m.value,fi (fun _ _ _ z=>z<=200) v
  Xp:XT l
theorem jn.R5{l:List Mv}(h:jn l):lf l:=⟨h.len,h.ok,h.val,fun m hm=>⟨vQ _ (h.ar m hm).1,fun v hv=>vQ _ ((h.ar m hm).2 v hv)⟩,h.Xp⟩
theorem fC{n:Int}{name:List UInt8}{a:Tm}(h:dq n name a=0):(name=[]\/isName name=true)/\a.wf=0/\a.aC=true/\a.small=true/\a.scope<=0/\(∀ i∈Tm.ay a,i<n)/\n<2048:=by
  unfold dq at h;split at h
  ·omega
  rename_i h1;split at h
  ·rename_i h2;exact absurd h h2
  rename_i h2;split at h
  ·omega
  rename_i h3;split at h
  ·omega
  rename_i h4;split at h
  ·omega
  rename_i h5;have h2:a.wf=0:=by simpa using h2
  have h3:a.aC=true/\a.small=true:=by simpa using h3
  unfold tQ at h4;rw[h2]at h4;simp only[Bool.or_eq_true,not_or,decide_eq_true_eq,List.any_eq_true,not_exists,not_and]at h4;refine⟨?_,h2,h3.1,h3.2,?_,fun i hi=>?_,by omega⟩
  ·by_cases hn:name=[]
   ·exact .inl hn
   refine .inr ?_;cases hb:isName name with
   |true=>rfl
   |false=>exact absurd ⟨hn,hb⟩ h1
  ·have:=h4.1;rw[if_pos (by rfl)]at this;omega
  have:=h4.2 i hi;omega
theorem gw{n:Int}{a:Tm}(h:ik a n=0):a.wf=0/\a.isObj=true/\a.small=true/\a.scope<=0/\(∀ i∈Tm.ay a,i<n):=by
  unfold ik at h;split at h
  ·rename_i h2;exact absurd h h2
  rename_i h2;split at h
  ·omega
  rename_i h3;split at h
  ·omega
  rename_i h4;have h2:a.wf=0:=by simpa using h2
  have h3:a.isObj=true/\a.small=true:=by simpa using h3
  unfold tQ at h4;rw[h2]at h4;simp only[Bool.or_eq_true,not_or,decide_eq_true_eq,List.any_eq_true,not_exists,not_and]at h4;refine⟨h2,h3.1,h3.2,?_,fun i hi=>?_⟩
  ·have:=h4.1;rw[if_pos (by rfl)]at this;omega
  have:=h4.2 i hi;omega
theorem IY{n:Int}{a:Tm}(h1:a.isObj=true)(h2:a.small=true)(h3:a.scope<=0)(h4:∀ i∈Tm.ay a,i<n):ik a n=0:=by
  have hw:=jq h1 h2;unfold ik;rw[if_neg (by simp[hw]),if_neg (by simp[h1,h2]),if_neg];unfold tQ;simp only[hw,Bool.or_eq_true,not_or,decide_eq_true_eq,List.any_eq_true,not_exists,not_and];exact⟨by rw[if_pos (by rfl)];omega,fun i hi=>by have:=h4 i hi;omega⟩
theorem lf.uX{l:List Mv}(h:lf l):GW l:=by
  refine⟨h.len,fun m hm=>?_⟩;obtain⟨i,hi,rfl⟩:=List.getElem_of_mem hm;obtain⟨_,h1,h2,h3,h4,h5,_⟩:=fC (h.ok i hi);obtain⟨h6,h7⟩:=h.val _ hm;obtain⟨h8,h9⟩:=h.kn _ hm;refine⟨⟨h2,h3⟩,fun v hv=>?_,h6,qQ _ ((cT _ h1).2 (fun j hj=>by have:=h5 j hj;omega)) h8,fun v hv=>?_⟩
  ·obtain⟨_,h10,ZK,_⟩:=gw (h7 v hv);exact⟨h10,ZK⟩
  obtain⟨h10,_,_,_,ZK⟩:=gw (h7 v hv);exact qQ _ ((cT _ h10).2 ZK) (h9 v hv)
theorem jn.uX{l:List Mv}(h:jn l):GW l:=h.R5.uX
theorem lf.kQ{l:List Mv}(h:lf l):∀ m∈l,m.type.wf=0:=by
  intro m hm;obtain⟨i,hi,rfl⟩:=List.getElem_of_mem hm;exact(fC (h.ok i hi)).2.1
theorem lf.JU{l:List Mv}(h:lf l):∀ m∈l,∀ v∈m.value,v.wf=0:=fun m hm v hv=>(gw ((h.val m hm).2 v hv)).1
theorem jn.kQ{l:List Mv}(h:jn l):∀ m∈l,m.type.wf=0:=h.R5.kQ
theorem jn.JU{l:List Mv}(h:jn l):∀ m∈l,∀ v∈m.value,v.wf=0:=h.R5.JU
theorem jn.nil:jn []:=by
  refine⟨by simp,fun i h=>(by simp at h),fun m h=>(by cases h),fun m h=>(by cases h),fun i h1 j hj=>?_⟩;unfold cy at hj;split at hj
  ·simp at hj
  cases hj
theorem DZ{l:List Mv}{i:Nat}(h:i<l.length):cy l (i:Int)=ke l[i]:=by
  unfold cy;rw[if_pos (by omega),List.getElem?_eq_getElem (by simpa using h)];rfl
theorem Iz{l:List Mv}{i:Int}(h:¬0<=i):cy l i=[]:=by unfold cy;rw[if_neg h]
theorem JE{l:List Mv}{i:Int}(h:¬i<l.length):cy l i=[]:=by
  unfold cy;split
  ·rw[List.getElem?_eq_none (by omega)]
  rfl
theorem rz{l:List Mv}{m:Mv}{i:Int}(h:i<l.length):cy (l++[m]) i=cy l i:=by
  unfold cy;split
  ·rw[List.getElem?_append_left (by omega)]
  rfl
theorem vx{l:List Mv}{m:Mv}(hk:∀ i:Int,∀ j∈cy l i,j<l.length){i j:Int}(h:lX (l++[m]) i j):i<l.length->lX l i j:=by
  induction h with
  |refl _=>intro h;exact .refl h
  |step h hj Cc ih=>
   intro hi;rw[rz hi]at hj;exact .step hi hj (ih (hk _ _ hj))
theorem Hp{l:List Mv}(hG:GW l):∀ i:Int,∀ j∈cy l i,j<l.length:=by
  intro i j hj;unfold cy at hj;split at hj
  ·split at hj
   ·rename_i m hm;have hg:=hG.mv m (List.mem_of_getElem? hm);rcases List.mem_append.1 hj with hj |hj
    ·exact nP hg.kn.1 j hj
    obtain⟨v,hv,hj⟩:=List.mem_flatMap.1 hj;exact nP (hg.kn.2 v hv) j hj
   cases hj
  cases hj
theorem jn.new{l:List Mv}(h:jn l){name:List UInt8}{a:Tm}(hl:l.length<40)(ha:a.size<=200):jn (kU l name a):=by
  unfold kU;split
  ·exact h
  rename_i hc;have hc:dq l.length name a=0:=by simpa using hc
  obtain⟨_,h1,h2,h3,h4,h5,h6⟩:=fC hc;refine⟨by simp;omega,fun i hi=>?_,fun m hm=>?_,fun m hm=>?_,?_⟩
  ·rw[List.length_append,List.length_singleton]at hi;by_cases e:i<l.length
   ·rw[List.getElem_append_left e];exact h.ok i e
   obtain rfl:i=l.length:=by omega
   simpa using hc
  ·rcases List.mem_append.1 hm with hm |hm
   ·obtain⟨h7,h8⟩:=h.val m hm;refine⟨h7,fun v hv=>?_⟩;obtain⟨_,e1,e2,e3,e4⟩:=gw (h8 v hv);exact IY e1 e2 e3 (fun i hi=>by have:=e4 i hi;simp;omega)
   obtain rfl:=List.mem_singleton.1 hm;exact⟨by simp,fun v hv=>by cases hv⟩
  ·rcases List.mem_append.1 hm with hm |hm
   ·exact h.ar m hm
   obtain rfl:=List.mem_singleton.1 hm;exact⟨ha,fun v hv=>by cases hv⟩
  intro i hi j hj hr;have hk:=Hp h.uX;by_cases e:i<l.length
  ·rw[rz e]at hj;exact h.Xp i e j hj (vx hk hr (hk _ _ hj))
  have dZ:i=l.length:=by simp at hi;omega
  subst dZ
  have jR:j∈ke (⟨name,a,[]⟩:Mv):=by
    rw[show((l.length:Nat):Int)=((l.length:Nat):Int)from rfl,DZ (by simp)]at hj;simpa using hj
  have b7:j<l.length:=by
    unfold ke at jR;simp only[List.flatMap_nil,List.append_nil]at jR;exact h5 j jR
  have:=(vx hk hr b7).lt';omega
theorem oT{l:List Mv}{i:Int}{v:Mv}(h:l[i.toNat]? =some v)(m:Tm):qc l i m=l.set i.toNat ⟨v.name,v.type,[m]⟩:=by unfold qc;rw[h]
theorem eF(l:List Mv)(i:Int)(m:Tm):(qc l i m).length=l.length:=by unfold qc;split<;>simp
theorem CU{l:List Mv}{i:Int}{m:Tm}(h:pS l i m=0):(0<=i/\i<l.length)/\(∃ v,l[i.toNat]? =some v/\v.value=[]/\v∈l)/\ik m l.length=0/\∀ x∈Tm.ay m,¬lX l x i:=by
  unfold pS at h;by_cases h1:0<=i/\i<l.length;case neg=>rw[if_pos h1]at h;omega
  rw[if_neg (by simpa using h1)]at h;have hi:i.toNat<l.length:=by omega
  rw[List.getElem?_eq_getElem hi]at h;simp only at h;by_cases h2:l[i.toNat].value≠[]
  ·rw[if_pos h2]at h;omega
  rw[if_neg h2]at h;by_cases h3:ik m l.length≠0
  ·rw[if_pos h3]at h;exact absurd h h3
  rw[if_neg h3]at h;by_cases h4:lq l (Tm.ay m) i=true
  ·rw[if_pos h4]at h;omega
  refine⟨h1,⟨l[i.toNat],List.getElem?_eq_getElem hi,by simpa using h2,List.getElem_mem _⟩,by simpa using h3,fun x hx hr=>h4 ?_⟩;unfold lq;classical
  exact decide_eq_true ⟨x,hx,hr⟩
section
variable {l:List Mv}{i:Int}{m:Tm}{v:Mv} (h0:0<=i) (hi:i<l.length) (hv:l[i.toNat]? =some v) (hn:v.value=[])
include h0 hv in
theorem vH{k:Int}(hk:k≠i):cy (qc l i m) k=cy l k:=by
  rw[oT hv];unfold cy;split
  ·rw[List.getElem?_set_ne (by omega)]
  rfl
include h0 hi hv hn in
theorem zh:cy (qc l i m) i=cy l i++Tm.ay m:=by
  rw[oT hv];unfold cy;rw[if_pos h0,if_pos h0,List.getElem?_set_self (by omega),hv];unfold ke;simp[hn]
include h0 hi hv hn in
theorem Hv{a b:Int}(h:lX (qc l i m) a b):lX l a b\/(lX l a i/\∃ x∈Tm.ay m,lX (qc l i m) x b):=by
  induction h with
  |refl h=>exact .inl (.refl (by rw[eF]at h;exact h))
  | @step a j k h hj hr ih=>
    rw[eF]at h;by_cases e:a=i
    ·subst e;rw[zh h0 hi hv hn]at hj;rcases List.mem_append.1 hj with hj |hj
     ·rcases ih with ih |⟨ih,hx⟩
      ·exact .inl (.step h hj ih)
      exact .inr ⟨.refl h,hx⟩
     exact .inr ⟨.refl h,j,hj,hr⟩
    rw[vH h0 hv e]at hj;rcases ih with ih |⟨ih,hx⟩
    ·exact .inl (.step h hj ih)
    exact .inr ⟨.step h hj ih,hx⟩
include h0 hi hv hn in
theorem QN{a b:Int}(h:lX (qc l i m) a b):¬lX l a i->lX l a b:=by
  intro ha;rcases Hv h0 hi hv hn h with h |h
  ·exact h
  exact absurd h.1 ha
include h0 hi hv hn in
theorem Pr(hA:XT l)(hm:∀ x∈Tm.ay m,¬lX l x i):XT (qc l i m):=by
  intro k hk j hj hr;rw[eF]at hk;rcases Hv h0 hi hv hn hr with h |⟨h1,x,hx,h2⟩
  ·by_cases e:k=i
   ·subst e;rw[zh h0 hi hv hn]at hj;rcases List.mem_append.1 hj with hj |hj
    ·exact hA k hk j hj h
    exact hm j hj h
   rw[vH h0 hv e]at hj;exact hA k hk j hj h
  have h3:=QN h0 hi hv hn h2 (hm x hx);by_cases e:k=i
  ·subst e;exact hm x hx h3
  rw[vH h0 hv e]at hj;exact hm x hx (h3.trans (.step hk hj h1))
end
theorem jn.solve{l:List Mv}(h:jn l){i:Int}{m:Tm}(hm:m.size<=200):jn (ku l i m):=by
  unfold ku;split
  ·exact h
  rename_i hs;obtain⟨⟨h0,hi⟩,⟨v,hv,hn,xN⟩,h3,h4⟩:=CU (by simpa using hs)
  have lr:∀ u∈qc l i m,u∈l\/u=⟨v.name,v.type,[m]⟩:=by
    intro u hu;rw[oT hv]at hu;exact(List.mem_or_eq_of_mem_set hu)
  refine⟨by rw[eF];exact h.len,fun k hk=>?_,fun u hu=>?_,fun u hu=>?_,Pr h0 hi hv hn h.Xp h4⟩
  ·rw[eF]at hk;have yJ:=h.ok k hk
   have e:(qc l i m)[k]? =if i.toNat=k then some ⟨v.name,v.type,[m]⟩else l[k]? :=by
     rw[oT hv,List.getElem?_set];split
     ·rename_i e;subst e;simp[hk]
     rfl
   by_cases e2:i.toNat=k
   ·rw[if_pos e2]at e;subst e2;rw[List.getElem?_eq_getElem (by rw[eF];exact hk)]at e;rw[Option.some.inj e];rw[List.getElem?_eq_getElem hk]at hv;rw[<-Option.some.inj hv];exact yJ
   rw[if_neg e2,List.getElem?_eq_getElem (by rw[eF];exact hk),List.getElem?_eq_getElem hk]at e;rw[Option.some.inj e];exact yJ
  ·rw[eF];rcases lr u hu with hu |rfl
   ·exact h.val u hu
   exact⟨by simp,fun x hx=>by obtain rfl:=List.mem_singleton.1 hx;exact h3⟩
  rcases lr u hu with hu |rfl
  ·exact h.ar u hu
  exact⟨(h.ar v xN).1,fun x hx=>by obtain rfl:=List.mem_singleton.1 hx;exact hm⟩
end
section
open Tm Go.Proofs.YthgmimncdjhgnaaGreatDoor
theorem uB{l:List Mv}{t:Tm}(h:ep l t=0):t.wf=0/\(∀ i∈Tm.ay t,i<l.length)/\(gG l 16385 t 0).e=0:=by
  unfold ep at h;split at h
  ·rename_i h1;exact absurd h h1
  rename_i h1;split at h
  ·omega
  rename_i h2;refine⟨by simpa using h1,fun i hi=>?_,h⟩;simp only[List.any_eq_true,not_exists,not_and,decide_eq_true_eq]at h2;have:=h2 i hi;omega
end
end Go.LF
namespace Go.Proofs.YthgmimncdjhgnaaGreatDoor
open Go.RowKit Go.LF
structure StR(l:List Mv):Prop where
  ok:DL l
  val:∀ m∈l,m.value.length<=100
  nx:∀ m∈l,(ke m).length<=300000
  few:l.length<=250
theorem StR.Td{l:List Mv}(_:StR l):∀ m∈l,∀ x∈ke m,0<=x/\x<=100000:=by
  intro m _ x hx;have key:∀ t:Tm,x∈Tm.ay t->0<=x/\x<=100000:=fun t h=>by have:=jt x h;omega
  rcases List.mem_append.1 hx with h |h
  ·exact key _ h
  obtain⟨v,_,h⟩:=List.mem_flatMap.1 h;exact key _ h
end Go.Proofs.YthgmimncdjhgnaaGreatDoor
namespace Go.LF
open Tm Go.Proofs.YthgmimncdjhgnaaGreatDoor
theorem rD(t:Tm):(Tm.ay t).length<=t.size:=by
  unfold Tm.ay;split
  ·have:=mw t [];simp at this;show(Tm.cC [] t).length<=_;omega
  simp
theorem jn.abS{l:List Mv}(h:jn l):DL l:=by
  refine⟨by have:=h.len;omega,fun m hm=>⟨?_,by have:=(h.val m hm).1;omega,fun v hv=>?_⟩⟩
  ·have:=Tm.iM (h.kQ m hm);omega
  have:=Tm.iM (h.JU m hm v hv);omega
theorem jn.stR{l:List Mv}(h:jn l):StR l:=by
  refine⟨h.abS,fun m hm=>by have:=(h.val m hm).1;omega,fun m hm=>?_,by have:=h.len;omega⟩;obtain⟨h1,h2⟩:=h.ar m hm;have h3:=(h.val m hm).1;unfold ke;rw[List.length_append];have h4:=rD m.type
  have h5:(m.value.flatMap Tm.ay).length<=200:=by
    match hv:m.value,h3 with
    | [],_=>simp
    | [v],_=>
      have h6:=rD v;have h7:=h2 v (by rw[hv];simp);simp only[List.flatMap_cons,List.flatMap_nil,List.append_nil];omega
  omega
end Go.LF
