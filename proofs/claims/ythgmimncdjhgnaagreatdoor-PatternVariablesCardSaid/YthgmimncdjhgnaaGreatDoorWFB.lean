/- A property of all nodes that a substitution keeps: variables may have any index. No program is in sight here. -/
import Derived.Test.YthgmimncdjhgnaaGreatDoorWCH
import Derived.Test.YthgmimncdjhgnaaGreatDoorWDC
import Derived.Test.YthgmimncdjhgnaaGreatDoorWEA
import Derived.Test.YthgmimncdjhgnaaGreatDoorWFA
import Derived.Test.YthgmimncdjhgnaaGreatDoorWSC
namespace Go.LF.Tm
mutual
def ZT(N:Int->List UInt8->Int->Nat->Prop):Tm->Prop
  |mk k n i l=>N k n i l.length/\xW N l
def xW(N:Int->List UInt8->Int->Nat->Prop):List Tm->Prop
  | []=>True
  |t :: ts=>ZT N t/\xW N ts
end
section
variable {N:Int->List UInt8->Int->Nat->Prop}
theorem xf(k n i l):ZT N (mk k n i l)↔N k n i l.length/\xW N l:=by rw[ZT]
theorem xZ(l:List Tm):xW N l↔∀ t∈l,ZT N t:=by
  induction l with
  |nil=>simp[xW]
  |cons t ts ih=>simp[xW,ih]
theorem ZQ:xW N []:=by rw[xW];trivial
theorem zGq{M:Int->List UInt8->Int->Nat->Prop}(hNM:∀ k n i z,N k n i z->M k n i z)(t:Tm):ZT N t->ZT M t:=by
  induction t using ind with
  |h k n i l ih=>
   intro h;rw[xf,xZ]at h ⊢;exact⟨hNM _ _ _ _ h.1,fun u hu=>ih u hu (h.2 u hu)⟩
theorem zEq{M:Int->List UInt8->Int->Prop}(t:Tm):∀ b,ZT (fun k n i _=>M k n i) t↔∀ x∈nodes b t,M x.k x.n x.i:=by
  induction t using ind with
  |h k n i l ih=>
   intro b
   have key:∀(l':List Tm),(∀ t∈l',t∈l)->∀ j,xW (fun k n i _=>M k n i) l'↔∀ x∈zX b k j l',M x.k x.n x.i:=by
     intro l';induction l' with
     |nil=>intro _ j;simp[xW,zX]
     |cons t ts ih2=>
      intro hm j;rw[xW,zX,ih t (hm t (by simp)) (b+under k j),ih2 (fun t ht=>hm t (by simp[ht])) (j+1)];simp only[List.mem_append];exact⟨fun h x hx=>hx.elim (h.1 x) (h.2 x),fun h=>⟨fun x hx=>h x (.inl hx),fun x hx=>h x (.inr hx)⟩⟩
   rw[xf,zb,key l (fun _ h=>h) 0];simp
theorem QS{c:Nat}(t:Tm):t.size<=c->ZT (fun _ _ _ z=>z<=c) t:=by
  induction t using ind with
  |h k n i l ih=>
   intro h;rw[zS]at h;have:=zN l;rw[xf,xZ];exact⟨by omega,fun u hu=>ih u hu (by have:=zR hu;omega)⟩
variable (hv:∀ n i i' z,N 5 n i z->N 5 n i' z) (h0:N 0 [] 0 0)
include h0 in
theorem zx:ZT N zZ:=(xf _ _ _ _).2 ⟨h0,ZQ⟩
include hv in
theorem zHd(f:To)(t:Tm):∀ b,ZT N t->ZT N (mv f b t):=by
  induction t using ind with
  |h k n i l ih=>
   intro b h;rw[xf]at h;rw[y8,xf];refine⟨?_,?_⟩
   ·by_cases hk:k=5
    ·subst hk;rw[xR];exact hv _ _ _ _ h.1
    ·unfold xu;rw[if_neg (fun e=>hk e.1),xR];exact h.1
   have key:∀(l':List Tm),(∀ t∈l',t∈l)->xW N l'->∀ j,xW N (yu f b k j l'):=by
     intro l';induction l' with
     |nil=>intro _ _ j;rw[yu];exact ZQ
     |cons t ts ih2=>
      intro hm hn j;rw[xW]at hn;rw[yu,xW];exact⟨ih t (hm t (by simp)) _ hn.1,ih2 (fun t ht=>hm t (by simp[ht])) hn.2 (j+1)⟩
   exact key l (fun _ h=>h) h.2 0
include h0 in
theorem q9{t:Tm}{w:Nat}(h:ZT N t):ZT N (ZV t w).t:=by
  unfold ZV;split
  ·exact h
  ·exact zx h0
theorem zGG(f:Int->Tm->Nat->xG)(d k:Int)(l:List Tm)(hf:∀ t∈l,∀ d w,ZT N (f d t w).t):∀ j w,xW N (yd f d k j l w).ts:=by
  induction l with
  |nil=>intro j w;rw[yd];exact ZQ
  |cons t ts ih=>
   intro j w;rw[yd];split
   ·split
    ·show xW N (_ :: _);rw[xW];exact⟨hf t (by simp) _ _,ih (fun t ht=>hf t (by simp[ht])) _ _⟩
    ·exact ZQ
   ·exact ZQ
include h0 in
theorem zDo(f:Tm->Sm->Tm->Nat->xG)(hf:∀ u s b w,ZT N u->ZT N b->ZT N (f u s b w).t)(us:List Tm):∀(m:Tm)(ss:List Sm)(w:Nat),ZT N m->xW N us->ZT N (Zg f m ss us w).t:=by
  induction us with
  |nil=>
   intro m ss w hm _;unfold Zg;split
   ·exact zx h0
   ·exact q9 h0 hm
  |cons u us ih=>
   intro m ss w hm hu;rw[xW]at hu;cases ss with
   |nil=>unfold Zg;exact zx h0
   |cons s ss=>
    rw[Zg]
    have hb:ZT N (m.args.headD zZ):=by
      cases m with
      |mk k n i l=>
       rw[xf]at hm;cases l with
       |nil=>exact zx h0
       |cons t ts=>
        have:=hm.2;rw[xW]at this;exact this.1
    have hf1:=hf u s _ w hu.1 hb;split
    ·split
     ·exact ih _ _ _ hf1 hu.2
     ·exact hf1
    ·exact zx h0
include hv h0 in
theorem zGs(f:Tm->Sm->Tm->Nat->xG)(hf:∀ u s b w,ZT N u->ZT N b->ZT N (f u s b w).t)(ms:List Tm)(ss:List Sm)(d k:Int)(nm:List UInt8)(i:Int)(us:List Tm)(w:Nat)
    (hms:xW N ms) (hn:N k nm i us.length) (hu:xW N us):ZT N (sbN f ms ss d k nm i us w).t:=by
  unfold sbN;split
  ·rename_i hk;split
   ·rename_i hlt;split
    ·exact zx h0
    ·unfold ap;split
     ·refine zDo h0 f hf us _ _ _ (zHd hv _ _ _ ?_) hu;by_cases h:(i - d).toNat<ms.length
      ·rw[List.getD,List.getElem?_eq_getElem h];exact(xZ ms).1 hms _ (List.getElem_mem _)
      ·rw[List.getD,List.getElem?_eq_none (by omega)];exact zx h0
     ·exact zx h0
   ·refine q9 h0 ((xf _ _ _ _).2 ⟨?_,hu⟩);obtain⟨rfl,_⟩:=hk;exact hv _ _ _ _ hn
  ·exact q9 h0 ((xf _ _ _ _).2 ⟨hn,hu⟩)
include hv h0 in
theorem zHc(n:Nat):∀ ms ss d t w,xW N ms->ZT N t->ZT N (sb n ms ss d t w).t:=by
  induction n with
  |zero=>intro ms ss d t w _ _;rw[sb];exact zx h0
  |succ n ih=>
   intro ms ss d t w hms ht;rw[sb];split
   ·exact zx h0
   ·split
    ·rename_i hA;cases t with
     |mk k nm i l=>
      simp only[QC,zBB,Qo,yt]at *
      rw[xf]at ht;refine zGs hv h0 _ (fun u s b w hu hb=>ih [u] [s] 0 b w ?_ hb) ms ss d k nm i _ _ hms (by rw[Z5 _ _ _ _ _ _ hA];exact ht.1) ?_
      ·rw[xW];exact⟨hu,ZQ⟩
      ·exact zGG _ d k l (fun t ht' d w=>ih ms ss d t w hms ((xZ l).1 ht.2 t ht')) 0 (w+1)
    ·exact zx h0
include hv h0 in
theorem zHn(n:Nat)(m:Tm)(ss:List Sm)(us:List Tm)(w:Nat)(hm:ZT N m)(hu:xW N us):ZT N (ap (fun u s b w'=>sb n [u] [s] 0 b w') m ss us w).t:=by
  unfold ap;split
  ·exact zDo h0 _ (fun u s b w h1 h2=>zHc hv h0 n [u] [s] 0 b w (by rw[xW];exact⟨h1,ZQ⟩) h2) us m ss w hm hu
  ·exact zx h0
end
end Go.LF.Tm
namespace Go.LF
section
open Tm
mutual
def ZY(g:Int->Int->List Tm->Nat->Option xG):Tm->Nat->xG
  |mk k n i l,c=>if(yj g l c).e=0 then((g k i (yj g l c).ts (yj g l c).w).getD (ZV (mk k n i (yj g l c).ts) (yj g l c).w))else⟨(yj g l c).e,zZ,(yj g l c).w⟩
def yj(g:Int->Int->List Tm->Nat->Option xG):List Tm->Nat->zIg
  | [],c=>⟨0,[],c⟩
  |t :: ts,c=>
   if(ZY g t c).e=0 then
     (if(yj g ts (ZY g t c).w).e=0 then⟨0,(ZY g t c).t :: (yj g ts (ZY g t c).w).ts,(yj g ts (ZY g t c).w).w⟩
       else⟨(yj g ts (ZY g t c).w).e,[],(yj g ts (ZY g t c).w).w⟩)
   else⟨(ZY g t c).e,[],(ZY g t c).w⟩
end
theorem Ya(g k n i l c):ZY g (mk k n i l) c=if(yj g l c).e=0 then((g k i (yj g l c).ts (yj g l c).w).getD (ZV (mk k n i (yj g l c).ts) (yj g l c).w))else⟨(yj g l c).e,zZ,(yj g l c).w⟩:=by rw[ZY]
theorem Yz(g:Int->Int->List Tm->Nat->Option xG)(l:List Tm):∀(j c:Nat),yj g l c=yd (fun _ t c=>ZY g t c) 0 0 j l c:=by
  induction l with
  |nil=>intro j c;rw[yj,yd]
  |cons t ts ih=>intro j c;rw[yj,yd,ih (j+1)]
theorem zAG(g:Int->Int->List Tm->Nat->Option xG)(l:List Tm)(c j:Nat)(h:j<l.length)(h0:(yj g (l.take j) c).e=0):yj g (l.take (j+1)) c=
    if(ZY g l[j] (yj g (l.take j) c).w).e=0 then⟨0,(yj g (l.take j) c).ts++[(ZY g l[j] (yj g (l.take j) c).w).t],(ZY g l[j] (yj g (l.take j) c).w).w⟩
    else⟨(ZY g l[j] (yj g (l.take j) c).w).e,[],(ZY g l[j] (yj g (l.take j) c).w).w⟩:=by
  rw[Yz g _ 0,Yz g _ 0]at *
  rw[XA _ _ _ _ _ _ h h0]
theorem zFn(g:Int->Int->List Tm->Nat->Option xG)(l:List Tm)(c j:Nat)(h0:(yj g (l.take j) c).e≠0):yj g l c=yj g (l.take j) c:=by
  rw[Yz g _ 0,Yz g _ 0]at *
  exact zCQ _ _ _ _ _ _ h0
theorem zDH(g:Int->Int->List Tm->Nat->Option xG)(l:List Tm)(c:Nat)(h:(yj g l c).e=0):(yj g l c).ts.length=l.length:=by
  rw[Yz g _ 0]at *;exact Z5 _ _ _ _ _ _ h
theorem qp(g:Int->Int->List Tm->Nat->Option xG)(c:Nat):yj g [] c=⟨0,[],c⟩:=by rw[yj]
theorem Qn(g:Int->Int->List Tm->Nat->Option xG)(t:Tm)(ts:List Tm)(c:Nat):yj g (t :: ts) c=if(ZY g t c).e=0 then
      (if(yj g ts (ZY g t c).w).e=0 then⟨0,(ZY g t c).t :: (yj g ts (ZY g t c).w).ts,(yj g ts (ZY g t c).w).w⟩
        else⟨(yj g ts (ZY g t c).w).e,[],(yj g ts (ZY g t c).w).w⟩)
    else⟨(ZY g t c).e,[],(ZY g t c).w⟩:=by rw[yj]
def slv(l:List Mv)(k i:Int):Option Mv:=if k=6/\0<=i then(match l[i.toNat]? with |some m=>if m.value=[]then none else some m |none=>none)else none
theorem YU{l:List Mv}{k i:Int}{m:Mv}(h:slv l k i=some m):k=6/\0<=i/\i<l.length/\l[i.toNat]? =some m/\m∈l/\m.value≠[]:=by
  unfold slv at h;split at h
  ·rename_i hk;split at h
   ·rename_i m' hm;split at h
    ·cases h
    ·rename_i hv;cases h
     obtain⟨h1,h2⟩:=List.getElem?_eq_some_iff.1 hm;exact⟨hk.1,hk.2,by omega,hm,h2 ▸ List.getElem_mem _,hv⟩
   ·cases h
  ·cases h
def qR(l:List Mv)(f:Tm->Nat->xG)(k i:Int)(us:List Tm)(c:Nat):Option xG:=
  (slv l k i).map fun m=>if 16384<c+1 then⟨2,zZ,c+1⟩else
    if qI (m.value.headD zZ) (er m.type) us≠0 then⟨qI (m.value.headD zZ) (er m.type) us,zZ,c+1⟩else f (XG (m.value.headD zZ) (er m.type) us) (c+1)
def Ze(l:List Mv):Nat->Tm->Nat->xG
  |0=>fun _ c=>⟨2,zZ,c+1⟩
  |n+1=>ZY (qR l (Ze l n))
theorem xM(l:List Mv)(n:Nat):Ze l (n+1)=ZY (qR l (Ze l n)):=by rw[Ze]
def exR(l:List Mv)(n:Nat)(m:Mv)(us:List Tm)(c:Nat):xG:=if 16384<c+1 then⟨2,zZ,c+1⟩else
    if qI (m.value.headD zZ) (er m.type) us≠0 then⟨qI (m.value.headD zZ) (er m.type) us,zZ,c+1⟩else Ze l n (XG (m.value.headD zZ) (er m.type) us) (c+1)
theorem zE1{l:List Mv}{n:Nat}{k i:Int}{m:Mv}(h:slv l k i=some m)(us:List Tm)(c:Nat):qR l (Ze l n) k i us c=some (exR l n m us c):=by unfold qR exR;rw[h];rfl
theorem zFR{l:List Mv}{f:Tm->Nat->xG}{k i:Int}(h:slv l k i=none)(us:List Tm)(c:Nat):qR l f k i us c=none:=by unfold qR;rw[h];rfl
structure MvG(n:Int)(m:Mv):Prop where
  typ:m.type.zT=true/\m.type.small=true
  val:∀ v∈m.value,v.isObj=true/\v.small=true
  one:m.value.length<=1
  kn:ZT (fun k _ i z=>(k=6->i<n)/\z<=200) m.type/\∀ v∈m.value,ZT (fun k _ i z=>(k=6->i<n)/\z<=200) v
abbrev Kn(n:Int)(t:Tm):Prop:=ZT (fun k _ i z=>(k=6->i<n)/\z<=200) t
structure StG(l:List Mv):Prop where
  len:l.length<=40
  mv:∀ m∈l,MvG l.length m
theorem StG.slv{l:List Mv}(h:StG l){k i:Int}{m:Mv}(hs:slv l k i=some m):∃ v,m.value=[v]/\v.isObj=true/\v.small=true/\Kn l.length v/\m.type.zT=true/\m.type.small=true:=by
  obtain⟨_,_,_,_,hm,hv⟩:=YU hs;have hg:=h.mv m hm;have h1:=hg.one;match hm':m.value,hv with
  | [v],_=>
    rw[hm']at h1;have h2:=hg.val v (by rw[hm'];simp);exact⟨v,rfl,h2.1,h2.2,hg.kn.2 v (by rw[hm'];simp),hg.typ.1,hg.typ.2⟩
  |a :: b :: r,_=>rw[hm']at h1;simp at h1
theorem zDM{m:Tm}{s:Sm}{us:List Tm}(h:qI m s us=0):(m.isObj=true/\m.small=true)/\(∀ u∈us,u.isObj=true/\u.small=true)/\(Tm.ap (Tm.Q1 262145) m s.args us 0).e=0/\XG m s us=(Tm.ap (Tm.Q1 262145) m s.args us 0).t:=by
  have h0:=h;unfold qI at h;split at h
  ·rename_i h1;exact absurd h h1
  split at h
  ·rename_i h1;exact absurd h h1
  split at h
  ·omega
  rename_i h1;simp only[List.any_cons,Bool.or_eq_true,not_or,List.any_eq_true,Bool.not_eq_true',Bool.and_eq_false_iff]at h1;refine⟨?_,fun u hu=>?_,h,by unfold XG;rw[if_pos h0]⟩
  ·have:=h1.1;simp only[Bool.not_eq_false]at this;exact this
  ·have h2:=h1.2;by_cases hc:u.isObj=true/\u.small=true
   ·exact hc
   ·exact absurd ⟨u,hu,by
      cases h3:u.isObj<;>cases h4:u.small<;>simp_all⟩ h2
theorem zD6(f:Tm->Sm->Tm->Nat->xG)(m:Tm)(ss:List Sm)(us:List Tm)(w:Nat)(h:(ap f m ss us w).e=0):(ap f m ss us w).t.small=true:=by
  unfold ap at h ⊢;split
  ·rename_i hl;rw[if_pos hl]at h;exact qC _ _ _ _ _ h
  ·rename_i hl;rw[if_neg hl]at h;simp at h
theorem zBS{m:Tm}{s:Sm}{us:List Tm}(h:qI m s us=0):(XG m s us).isObj=true/\(XG m s us).small=true:=by
  obtain⟨h1,h2,h3,h4⟩:=zDM h;rw[h4];refine⟨?_,zD6 _ _ _ _ _ h3⟩;rcases zAo (Q1 262145) (fun u s b w hu hs hb hd=>qu 262145 [u] [s] 0 b w (fun x hx=>by obtain rfl:x=u:=(by simpa using hx);exact⟨hu,hs⟩) (by omega) (by omega) hb) us m s.args 0 h2 h1.1 h1.2 with h5 |h5
  ·exact h5.2.1
  ·exact absurd h3 h5.1
theorem zBf{N:Int->List UInt8->Int->Nat->Prop}(hv:∀ n i i' z,N 5 n i z->N 5 n i' z)(h0:N 0 [] 0 0){m:Tm}{s:Sm}{us:List Tm}(hm:ZT N m)(hu:xW N us):ZT N (XG m s us):=by
  unfold XG;split
  ·exact zHn hv h0 262145 m s.args us 0 hm hu
  ·exact zx h0
theorem zFe{n:Int}:∀(_:List UInt8)(i i':Int)(z:Nat),((5:Int)=6->i<n)/\z<=200->((5:Int)=6->i'<n)/\z<=200:=fun _ _ _ _ h=>⟨fun e=>absurd e (by decide),h.2⟩
theorem zDl{n:Int}:((0:Int)=6->(0:Int)<n)/\0<=200:=⟨fun e=>absurd e (by decide),by decide⟩
inductive Pw{α β:Type}(P:α->β->Prop):List α->List β->Prop
  |nil:Pw P [] []
  |cons {a b l m} (h:P a b) (t:Pw P l m):Pw P (a :: l) (b :: m)
theorem zBC(g:Int->Int->List Tm->Nat->Option xG)(P:Tm->Tm->Prop)(l:List Tm)(h:∀ t∈l,∀ c,(ZY g t c).e=0->P t (ZY g t c).t):∀ c,(yj g l c).e=0->Pw P l (yj g l c).ts:=by
  induction l with
  |nil=>intro c _;rw[qp];exact .nil
  |cons t ts ih=>
   intro c h0;rw[Qn]at h0 ⊢;by_cases h1:(ZY g t c).e=0
   ·rw[if_pos h1]at h0 ⊢;by_cases h2:(yj g ts (ZY g t c).w).e=0
    ·rw[if_pos h2];exact .cons (h t (by simp) c h1) (ih (fun t ht=>h t (by simp[ht])) _ h2)
    ·rw[if_neg h2]at h0;exact absurd h0 h2
   ·rw[if_neg h1]at h0;exact absurd h0 h1
theorem zHO(g:Int->Int->List Tm->Nat->Option xG)(l:List Tm)(h:∀ t∈l,∀ c,c<=(ZY g t c).w):∀ c,c<=(yj g l c).w:=by
  have key:∀(l:List Tm),(∀ t∈l,∀ c,c<=(ZY g t c).w)->∀ j c,c<=(yd (fun _ t c=>ZY g t c) 0 0 j l c).w:=by
    intro l;induction l with
    |nil=>intro _ j c;rw[yd];exact Nat.le_refl _
    |cons t ts ih=>
     intro h j c;have h1:=h t (by simp) c;have h2:=ih (fun t ht=>h t (by simp[ht])) (j+1) (ZY g t c).w;rw[yd];split
     ·split
      ·exact Nat.le_trans h1 h2
      ·exact Nat.le_trans h1 h2
     ·exact h1
  intro c;rw[Yz g _ 0];exact key l h 0 c
theorem zHe(g:Int->Int->List Tm->Nat->Option xG)(hg:∀ k i us c r,g k i us c=some r->c<=r.w)(t:Tm):∀ c,c<=(ZY g t c).w:=by
  induction t using ind with
  |h k n i l ih=>
   intro c;have h1:=zHO g l ih c;rw[Ya];split
   ·cases hq:g k i (yj g l c).ts (yj g l c).w with
    |none=>show c<=(ZV _ _).w;rw[XD];exact h1
    |some r=>exact Nat.le_trans h1 (hg _ _ _ _ _ hq)
   ·exact h1
theorem zHj(l:List Mv)(n:Nat):∀ t c,c<=(Ze l n t c).w:=by
  induction n with
  |zero=>intro t c;exact Nat.le_succ c
  |succ n ih=>
   intro t c;rw[xM];refine zHe _ (fun k i us c r h=>?_) t c;unfold qR at h;obtain⟨m,_,rfl⟩:=Option.map_eq_some_iff.1 h;split
   ·exact Nat.le_succ c
   ·split
    ·exact Nat.le_succ c
    ·exact Nat.le_trans (Nat.le_succ c) (ih _ _)
theorem zBY(l:List Mv)(n:Nat):∀ t c,(Ze l n t c).e≠0->(Ze l n t c).t=zZ:=by
  induction n with
  |zero=>intro t c _;rfl
  |succ n ih=>
   intro t c h;rw[xM]at h ⊢;cases t with
   |mk k nm i ts=>
    rw[Ya]at h ⊢;split
    ·rename_i h0;rw[if_pos h0]at h;cases hq:qR l (Ze l n) k i (yj (qR l (Ze l n)) ts c).ts (yj (qR l (Ze l n)) ts c).w with
     |none=>
      rw[hq]at h;show(ZV _ _).t=_;have h:(ZV (mk k nm i (yj (qR l (Ze l n)) ts c).ts) (yj (qR l (Ze l n)) ts c).w).e≠0:=h;unfold ZV at h ⊢;split
      ·rename_i h1;rw[if_pos h1]at h;exact absurd rfl h
      ·rfl
     |some r=>
      rw[hq]at h;show r.t=_;have h:r.e≠0:=h;unfold qR at hq;obtain⟨m,_,rfl⟩:=Option.map_eq_some_iff.1 hq;split
      ·rfl
      ·rename_i h1;rw[if_neg h1]at h;split
       ·rfl
       ·rename_i h2;rw[if_neg h2]at h;exact ih _ _ h
    ·rfl
theorem zEt(l:List Mv)(n:Nat):∀ t c,(Ze l n t c).e=0->(Ze l n t c).t.small=true:=by
  induction n with
  |zero=>intro t c h;simp[Ze]at h
  |succ n ih=>
   intro t c h;rw[xM]at h ⊢;cases t with
   |mk k nm i ts=>
    rw[Ya]at h ⊢;split
    ·rename_i h0;rw[if_pos h0]at h;cases hq:qR l (Ze l n) k i (yj (qR l (Ze l n)) ts c).ts (yj (qR l (Ze l n)) ts c).w with
     |none=>rw[hq]at h;exact Yl _ _ h
     |some r=>
      rw[hq]at h;show r.t.small=_;have h:r.e=0:=h;unfold qR at hq;obtain⟨m,_,rfl⟩:=Option.map_eq_some_iff.1 hq;split
      ·rename_i h1;rw[if_pos h1]at h;simp at h
      ·rename_i h1;rw[if_neg h1]at h;split
       ·rename_i h2;rw[if_pos h2]at h;exact absurd h h2
       ·rename_i h2;rw[if_neg h2]at h;exact ih _ _ h
    ·rename_i h0;rw[if_neg h0]at h;exact absurd h h0
theorem zG4{N:Int->List UInt8->Int->Nat->Prop}(h0:N 0 [] 0 0)(g:Int->Int->List Tm->Nat->Option xG)(hg:∀ k i us c r,xW N us->g k i us c=some r->ZT N r.t)(t:Tm):ZT N t->∀ c,ZT N (ZY g t c).t:=by
  induction t using ind with
  |h k n i l ih=>
   intro ht c;rw[xf]at ht;rw[Ya];split
   ·rename_i he
    have hA:xW N (yj g l c).ts:=by
      rw[xZ];have hF:=zBC g (fun _ r=>ZT N r) l (fun t h c _=>ih t h ((xZ l).1 ht.2 t h) c) c he;generalize (yj g l c).ts=us at hF;clear he ih ht;induction hF with
      |nil=>simp
      |cons h1 _ ih=>intro u hu;rcases List.mem_cons.1 hu with rfl |hu;(exact h1);exact ih u hu
    cases hq:g k i (yj g l c).ts (yj g l c).w with
    |none=>exact q9 h0 ((xf _ _ _ _).2 ⟨by rw[zDH g l c he];exact ht.1,hA⟩)
    |some r=>exact hg _ _ _ _ _ hA hq
   ·exact zx h0
theorem zG3{N:Int->List UInt8->Int->Nat->Prop}(hv:∀ n i i' z,N 5 n i z->N 5 n i' z)(h0:N 0 [] 0 0)(l:List Mv)(hl:∀ m∈l,∀ v∈m.value,ZT N v)(n:Nat):∀ t c,ZT N t->ZT N (Ze l n t c).t:=by
  induction n with
  |zero=>intro t c _;exact zx h0
  |succ n ih=>
   intro t c ht;rw[xM];refine zG4 h0 _ (fun k i us c r hus h=>?_) t ht c;unfold qR at h;obtain⟨m,hm,rfl⟩:=Option.map_eq_some_iff.1 h;obtain⟨_,_,_,_,hml,hmv⟩:=YU hm;split
   ·exact zx h0
   ·split
    ·exact zx h0
    ·refine ih _ _ (zBf hv h0 ?_ hus);match hv':m.value,hmv with
     |v :: r,_=>exact hl m hml v (by rw[hv'];simp)
end
section
open Tm
theorem zHx{t:Tm}{w:Nat}(h:(ZV t w).e=0):(ZV t w).t=t:=by
  unfold ZV at h ⊢;split
  ·rfl
  ·rename_i h1;rw[if_neg h1]at h;simp at h
def Kp(t r:Tm):Prop:=(t.isObj=true->r.isObj=true)/\(t.zT=true->r.zT=true)/\(t.zc=true->r.zc=true)
theorem zH2{l us:List Tm}(h:Pw Kp l us):ze l=true->ze us=true:=by
  induction h with
  |nil=>exact fun h=>h
  |cons h1 _ ih=>intro h;rw[ze,Bool.and_eq_true]at h ⊢;exact⟨h1.1 h.1,ih h.2⟩
theorem zH3{l us:List Tm}(h:Pw Kp l us):yq l=true->yq us=true:=by
  induction h with
  |nil=>exact fun h=>h
  |cons h1 _ ih=>intro h;rw[yq,Bool.and_eq_true]at h ⊢;exact⟨h1.2.1 h.1,ih h.2⟩
theorem zHU{l us:List Tm}(h:Pw Kp l us):us.length=l.length:=by
  induction h with
  |nil=>rfl
  |cons _ _ ih=>simp[ih]
theorem zGA{k i:Int}{n:List UInt8}{l us:List Tm}(h:Pw Kp l us):Kp (mk k n i l) (mk k n i us):=by
  have hl:=zHU h;have ho:=zH2 h;have ht:=zH3 h;refine⟨fun e=>?_,fun e=>?_,fun e=>?_⟩
  ·rw[isObj]at e ⊢;unfold bound at e ⊢;rw[hl];split at e
   ·rename_i hk;rw[if_pos hk];rw[Bool.and_eq_true]at e ⊢;exact⟨e.1,ho e.2⟩
   ·rename_i hk;rw[if_neg hk];split at e
    ·rename_i hk;rw[if_pos hk];rw[Bool.and_eq_true]at e ⊢;exact⟨e.1,ho e.2⟩
    ·rename_i hk;rw[if_neg hk];split at e
     ·rename_i hk;rw[if_pos hk];rw[Bool.and_eq_true]at e ⊢;exact⟨e.1,ho e.2⟩
     ·rename_i hk;rw[if_neg hk];split at e
      ·rename_i hk;rw[if_pos hk];rw[Bool.and_eq_true]at e ⊢;exact⟨e.1,ho e.2⟩
      ·cases e
  ·rw[zT,isAtom]at e ⊢;unfold bound at e ⊢;rw[hl];simp only[Bool.or_eq_true,Bool.and_eq_true]at e ⊢;rcases e with e |e
   ·exact .inl ⟨e.1,e.2.1,ho e.2.2⟩
   ·exact .inr ⟨e.1,e.2.1,ht e.2.2⟩
  ·unfold zc at e;split at e
   ·rename_i heq;cases heq
    cases h with
    |cons h1 h2=>
     cases h2 with
     |cons h3 h4=>
      cases h4
      rw[zc];unfold bound at e ⊢;simp only[Bool.and_eq_true]at e ⊢;exact⟨e.1,e.2.1,h1.2.1 e.2.2.1,h3.2.2 e.2.2.2⟩
   ·rename_i heq;cases heq
    simp only[Bool.and_eq_true,List.isEmpty_iff]at e;obtain⟨h1,h2,h3,h4⟩:=e;subst h4;cases h
    rw[zc]
    ·simp[h1,h2,h3]
    ·intro a b hab;cases hab
theorem zG6{n:List UInt8}{i:Int}{l:List Tm}{r:Tm}(h:r.isObj=true):Kp (mk 6 n i l) r:=by
  refine⟨fun _=>h,fun e=>?_,fun e=>?_⟩
  ·rw[zT,isAtom]at e;simp at e
  ·unfold zc at e;split at e
   ·rename_i heq;cases heq;simp at e
   ·rename_i heq;cases heq;simp at e
theorem zHy(g:Int->Int->List Tm->Nat->Option xG)(hg:∀ k i us c r,g k i us c=some r->r.e=0->k=6/\r.t.isObj=true)(t:Tm):∀ c,(ZY g t c).e=0->Kp t (ZY g t c).t:=by
  induction t using ind with
  |h k n i l ih=>
   intro c h;rw[Ya]at h ⊢;split
   ·rename_i he;rw[if_pos he]at h;have hF:=zBC g Kp l ih c he;cases hq:g k i (yj g l c).ts (yj g l c).w with
    |none=>
     rw[hq]at h;show Kp _ (ZV _ _).t;have h:(ZV (mk k n i (yj g l c).ts) (yj g l c).w).e=0:=h;rw[zHx h];exact zGA hF
    |some r=>
     rw[hq]at h;obtain⟨rfl,h2⟩:=hg _ _ _ _ _ hq h;exact zG6 h2
   ·rename_i he;rw[if_neg he]at h;exact absurd h he
theorem zHW(l:List Mv)(n:Nat):∀ t c,(Ze l n t c).e=0->Kp t (Ze l n t c).t:=by
  induction n with
  |zero=>intro t c h;simp[Ze]at h
  |succ n ih=>
   intro t c h;rw[xM]at h ⊢;refine zHy _ (fun k i us c r hr h0=>?_) t c h;unfold qR at hr;obtain⟨m,hm,rfl⟩:=Option.map_eq_some_iff.1 hr;refine⟨(YU hm).1,?_⟩;split at h0
   ·simp at h0
   ·rename_i h1;rw[if_neg h1];split at h0
    ·rename_i h2;exact absurd h0 h2
    ·rename_i h2;rw[if_neg h2];exact(ih _ _ h0).1 (zBS (by simpa using h2)).1
theorem zGw(g:Int->Int->List Tm->Nat->Option xG)(N:Nat)(hg:∀ k i us c r,g k i us c=some r->c<=N->r.e=0->r.w<=N)(t:Tm):∀ c,c<=N->(ZY g t c).e=0->(ZY g t c).w<=N:=by
  induction t using ind with
  |h k n i l ih=>
   intro c hc h
   have key:∀(us:List Tm),(∀ t∈us,t∈l)->∀ c,c<=N->(yj g us c).e=0->(yj g us c).w<=N:=by
     intro us;induction us with
     |nil=>intro _ c hc _;rw[qp];exact hc
     |cons t ts ih2=>
      intro hm c hc h;rw[Qn]at h ⊢;split
      ·rename_i h1;rw[if_pos h1]at h;split
       ·rename_i h2;exact ih2 (fun t ht=>hm t (by simp[ht])) _ (ih t (hm t (by simp)) c hc h1) h2
       ·rename_i h2;rw[if_neg h2]at h;exact absurd h h2
      ·rename_i h1;rw[if_neg h1]at h;exact absurd h h1
   rw[Ya]at h ⊢;split
   ·rename_i he;rw[if_pos he]at h;have h1:=key l (fun _ h=>h) c hc he;cases hq:g k i (yj g l c).ts (yj g l c).w with
    |none=>show(ZV _ _).w<=N;rw[XD];exact h1
    |some r=>rw[hq]at h;exact hg _ _ _ _ _ hq h1 h
   ·rename_i he;rw[if_neg he]at h;exact absurd h he
theorem zGD(l:List Mv)(n:Nat):∀ t c,c<=16384->(Ze l n t c).e=0->(Ze l n t c).w<=16384:=by
  induction n with
  |zero=>intro t c _ h;simp[Ze]at h
  |succ n ih=>
   intro t;rw[xM];refine zGw _ 16384 (fun k i us c r hr hc h0=>?_) t;unfold qR at hr;obtain⟨m,hm,rfl⟩:=Option.map_eq_some_iff.1 hr;split at h0
   ·simp at h0
   ·rename_i h1;split at h0
    ·rename_i h2;exact absurd h0 h2
    ·rename_i h2;rw[if_neg h1,if_neg h2];exact ih _ _ (by omega) h0
theorem zF9{l:List Mv}{k i:Int}(h:k≠6):slv l k i=none:=by unfold slv;rw[if_neg (fun e=>h e.1)]
theorem zEr{k i:Int}{n:List UInt8}{l:List Tm}(h:(mk k n i l).small=true):∀ u∈l,u.small=true:=by
  intro u hu;unfold small at h ⊢;rw[Bool.and_eq_true,decide_eq_true_eq,decide_eq_true_eq]at h ⊢;rw[zS,yW]at h;have:=zR hu;have:=yN hu;exact⟨by omega,by omega⟩
end
section
open Tm Go.Proofs.YthgmimncdjhgnaaGreatDoor
def zDY(l:List Mv)(t:Tm):Int:=if t.wf≠0 then t.wf else if(Tm.zL t).any (fun i=>decide ((l.length:Int)<=i))=true then 3 else(Ze l 16385 t 0).e
def Q8(l:List Mv)(t:Tm):Tm:=if zDY l t=0 then(Ze l 16385 t 0).t else zZ
theorem qN(t:Tm)(h:t.wf=0)(i:Int):i∈Tm.zL t↔∃ x∈nodes 0 t,x.k=6/\x.i=i:=by
  unfold Tm.zL Tm.Zo;rw[if_pos (by simp[h]),<-XW t 0 []]
  have key:∀(xs:List Nd0)(acc:List Int),i∈xs.foldl yI acc↔i∈acc\/∃ x∈xs,x.k=6/\x.i=i:=by
    intro xs;induction xs with
    |nil=>intro acc;simp
    |cons x xs ih=>
     intro acc;rw[List.foldl_cons,ih]
     have hs:i∈yI acc x↔i∈acc\/(x.k=6/\x.i=i):=by
       unfold yI;split
       ·rename_i hc;simp only[Bool.and_eq_true,beq_iff_eq]at hc;rw[List.mem_append,List.mem_singleton];exact⟨fun h=>h.imp id (fun h=>⟨hc.1,h.symm⟩),fun h=>h.imp id (fun h=>h.2.symm)⟩
       ·rename_i hc;refine⟨.inl,fun h=>h.elim id (fun h=>?_)⟩;obtain⟨h1,rfl⟩:=h;simpa[h1]using hc
     rw[hs];constructor
     ·rintro((h |h)|⟨y,hy,h⟩)
      ·exact .inl h
      ·exact .inr ⟨x,by simp,h⟩
      ·exact .inr ⟨y,by simp[hy],h⟩
     ·rintro(h |⟨y,hy,h⟩)
      ·exact .inl (.inl h)
      ·rcases List.mem_cons.1 hy with rfl |hy
       ·exact .inl (.inr h)
       ·exact .inr ⟨y,hy,h⟩
  rw[key];simp
theorem zAH(t:Tm)(h:¬t.wf=0):Tm.zL t=[]:=by
  unfold Tm.zL;rw[if_neg (by simpa using h)]
theorem Yn{N:Int->Prop}(t:Tm)(h:t.wf=0):ZT (fun k _ i _=>k=6->N i) t↔∀ i∈Tm.zL t,N i:=by
  rw[zEq (M:=fun k _ i=>k=6->N i) t 0];constructor
  ·intro hn i hi;obtain⟨x,hx,h6,rfl⟩:=(qN t h i).1 hi;exact hn x hx h6
  ·intro hn x hx h6;exact hn _ ((qN t h _).2 ⟨x,hx,h6,rfl⟩)
theorem zA4{N M:Int->List UInt8->Int->Nat->Prop}(t:Tm):ZT N t->ZT M t->ZT (fun k n i z=>N k n i z/\M k n i z) t:=by
  induction t using ind with
  |h k n i l ih=>
   intro h1 h2;rw[xf,xZ]at h1 h2 ⊢;exact⟨⟨h1.1,h2.1⟩,fun u hu=>ih u hu (h1.2 u hu) (h2.2 u hu)⟩
theorem zE3{n:Int}(t:Tm)(h:t.wf=0)(hs:t.size<=200)(hm:∀ i∈Tm.zL t,i<n):Kn n t:=zA4 t ((Yn t h).2 hm) (QS t hs)
theorem zCX{n:Int}{t:Tm}(hm:Kn n t):∀ i∈Tm.zL t,i<n:=by
  intro i hi;by_cases h:t.wf=0
  ·exact(Yn (N:=fun i=>i<n) t h).1 (zGq (fun _ _ _ _ h=>h.1) t hm) i hi
  ·rw[zAH t h]at hi;cases hi
theorem zCL{t:Tm}:∀ i∈Tm.zL t,0<=i/\i<2048:=by
  intro i hi;by_cases h:t.wf=0
  ·obtain⟨x,hx,h6,rfl⟩:=(qN t h i).1 hi;exact((YV t h).1 0 x hx).2.1 (by simp[h6])
  ·rw[zAH t h]at hi;cases hi
def typeOf(l:List Mv)(i:Int):Tm:=match l[i.toNat]? with |some m=>m.type |none=>zZ
end
section
open Tm Go.Proofs.YthgmimncdjhgnaaGreatDoor
def Acy(l:List Mv):Prop:=∀ i:Int,i<l.length->∀ j∈xv l i,¬Q6 l j i
end
section
open Tm Go.Proofs.YthgmimncdjhgnaaGreatDoor
open Classical in
noncomputable def X4 (l:List Mv) (is:List Int) (i:Int):Bool:=decide (∃ x∈is,Q6 l x i)
noncomputable def XS (l:List Mv) (i:Int) (m:Tm):Int:=
  if ¬(0<=i/\i<l.length)then 3 else if(match l[i.toNat]? with |some v=>v.value |none=>[])≠[]then 53 else if xo m l.length≠0 then xo m l.length else if X4 l (Tm.zL m) i=true then 51 else 0
def zIo(l:List Mv)(i:Int)(m:Tm):List Mv:=match l[i.toNat]? with |some v=>l.set i.toNat ⟨v.name,v.type,[m]⟩|none=>l
noncomputable def qP (l:List Mv) (i:Int) (m:Tm):List Mv:=if XS l i m≠0 then l else zIo l i m
structure Zx(l:List Mv):Prop where
  len:l.length<=40
  ok:∀ i(h:i<l.length),yp i l[i].name l[i].type=0
  val:∀ m∈l,m.value.length<=1/\∀ v∈m.value,xo v l.length=0
  ar:∀ m∈l,m.type.size<=200/\∀ v∈m.value,v.size<=200
  acy:Acy l
structure Plz(l:List Mv):Prop where
  len:l.length<=40
  ok:∀ i(h:i<l.length),yp i l[i].name l[i].type=0
  val:∀ m∈l,m.value.length<=1/\∀ v∈m.value,xo v l.length=0
  kn:∀ m∈l,ZT (fun _ _ _ z=>z<=200) m.type/\∀ v∈m.value,ZT (fun _ _ _ z=>z<=200) v
  acy:Acy l
theorem Zx.plz{l:List Mv}(h:Zx l):Plz l:=⟨h.len,h.ok,h.val,fun m hm=>⟨QS _ (h.ar m hm).1,fun v hv=>QS _ ((h.ar m hm).2 v hv)⟩,h.acy⟩
theorem Z2{n:Int}{name:List UInt8}{a:Tm}(h:yp n name a=0):(name=[]\/isName name=true)/\a.wf=0/\a.zT=true/\a.small=true/\a.scope<=0/\(∀ i∈Tm.zL a,i<n)/\n<2048:=by
  unfold yp at h;split at h
  ·omega
  rename_i h1;split at h
  ·rename_i h2;exact absurd h h2
  rename_i h2;split at h
  ·omega
  rename_i h3;split at h
  ·omega
  rename_i h4;split at h
  ·omega
  rename_i h5;have h2:a.wf=0:=by simpa using h2
  have h3:a.zT=true/\a.small=true:=by simpa using h3
  unfold Q4 at h4;rw[h2]at h4;simp only[Bool.or_eq_true,not_or,decide_eq_true_eq,List.any_eq_true,not_exists,not_and]at h4;refine⟨?_,h2,h3.1,h3.2,?_,fun i hi=>?_,by omega⟩
  ·by_cases hn:name=[]
   ·exact .inl hn
   ·refine .inr ?_;cases hb:isName name with
    |true=>rfl
    |false=>exact absurd ⟨hn,hb⟩ h1
  ·have:=h4.1;rw[if_pos (by rfl)]at this;omega
  ·have:=h4.2 i hi;omega
theorem xg{n:Int}{a:Tm}(h:xo a n=0):a.wf=0/\a.isObj=true/\a.small=true/\a.scope<=0/\(∀ i∈Tm.zL a,i<n):=by
  unfold xo at h;split at h
  ·rename_i h2;exact absurd h h2
  rename_i h2;split at h
  ·omega
  rename_i h3;split at h
  ·omega
  rename_i h4;have h2:a.wf=0:=by simpa using h2
  have h3:a.isObj=true/\a.small=true:=by simpa using h3
  unfold Q4 at h4;rw[h2]at h4;simp only[Bool.or_eq_true,not_or,decide_eq_true_eq,List.any_eq_true,not_exists,not_and]at h4;refine⟨h2,h3.1,h3.2,?_,fun i hi=>?_⟩
  ·have:=h4.1;rw[if_pos (by rfl)]at this;omega
  ·have:=h4.2 i hi;omega
theorem zEI{n:Int}{a:Tm}(h1:a.isObj=true)(h2:a.small=true)(h3:a.scope<=0)(h4:∀ i∈Tm.zL a,i<n):xo a n=0:=by
  have hw:=YX h1 h2;unfold xo;rw[if_neg (by simp[hw]),if_neg (by simp[h1,h2]),if_neg];unfold Q4;simp only[hw,Bool.or_eq_true,not_or,decide_eq_true_eq,List.any_eq_true,not_exists,not_and];exact⟨by rw[if_pos (by rfl)];omega,fun i hi=>by have:=h4 i hi;omega⟩
theorem Plz.zGi{l:List Mv}(h:Plz l):StG l:=by
  refine⟨h.len,fun m hm=>?_⟩;obtain⟨i,hi,rfl⟩:=List.getElem_of_mem hm;obtain⟨_,h1,h2,h3,h4,h5,_⟩:=Z2 (h.ok i hi);obtain⟨h6,h7⟩:=h.val _ hm;obtain⟨h8,h9⟩:=h.kn _ hm;refine⟨⟨h2,h3⟩,fun v hv=>?_,h6,zA4 _ ((Yn _ h1).2 (fun j hj=>by have:=h5 j hj;omega)) h8,fun v hv=>?_⟩
  ·obtain⟨_,h10,h11,_⟩:=xg (h7 v hv);exact⟨h10,h11⟩
  ·obtain⟨h10,_,_,_,h11⟩:=xg (h7 v hv);exact zA4 _ ((Yn _ h10).2 h11) (h9 v hv)
theorem Zx.zGi{l:List Mv}(h:Zx l):StG l:=h.plz.zGi
theorem Plz.typ{l:List Mv}(h:Plz l):∀ m∈l,m.type.wf=0:=by
  intro m hm;obtain⟨i,hi,rfl⟩:=List.getElem_of_mem hm;exact(Z2 (h.ok i hi)).2.1
theorem Plz.zHY{l:List Mv}(h:Plz l):∀ m∈l,∀ v∈m.value,v.wf=0:=fun m hm v hv=>(xg ((h.val m hm).2 v hv)).1
theorem Zx.typ{l:List Mv}(h:Zx l):∀ m∈l,m.type.wf=0:=h.plz.typ
theorem Zx.zHY{l:List Mv}(h:Zx l):∀ m∈l,∀ v∈m.value,v.wf=0:=h.plz.zHY
theorem Zx.nil:Zx []:=by
  refine⟨by simp,fun i h=>(by simp at h),fun m h=>(by cases h),fun m h=>(by cases h),fun i h1 j hj=>?_⟩;unfold xv at hj;split at hj
  ·simp at hj
  ·cases hj
theorem zE4{l:List Mv}{i:Nat}(h:i<l.length):xv l (i:Int)=Zp l[i]:=by
  unfold xv;rw[if_pos (by omega),List.getElem?_eq_getElem (by simpa using h)];rfl
theorem Xe{l:List Mv}{m:Mv}{i:Int}(h:i<l.length):xv (l++[m]) i=xv l i:=by
  unfold xv;split
  ·rw[List.getElem?_append_left (by omega)]
  ·rfl
theorem QV{l:List Mv}{m:Mv}(hk:∀ i:Int,∀ j∈xv l i,j<l.length){i j:Int}(h:Q6 (l++[m]) i j):i<l.length->Q6 l i j:=by
  induction h with
  |refl _=>intro h;exact .refl h
  |step h hj hk' ih=>
   intro hi;rw[Xe hi]at hj;exact .step hi hj (ih (hk _ _ hj))
theorem zGY{l:List Mv}(hG:StG l):∀ i:Int,∀ j∈xv l i,j<l.length:=by
  intro i j hj;unfold xv at hj;split at hj
  ·split at hj
   ·rename_i m hm;have hg:=hG.mv m (List.mem_of_getElem? hm);rcases List.mem_append.1 hj with hj |hj
    ·exact zCX hg.kn.1 j hj
    ·obtain⟨v,hv,hj⟩:=List.mem_flatMap.1 hj;exact zCX (hg.kn.2 v hv) j hj
   ·cases hj
  ·cases hj
theorem Zx.new{l:List Mv}(h:Zx l){name:List UInt8}{a:Tm}(hl:l.length<40)(ha:a.size<=200):Zx (zBD l name a):=by
  unfold zBD;split
  ·exact h
  ·rename_i hc;have hc:yp l.length name a=0:=by simpa using hc
   obtain⟨_,h1,h2,h3,h4,h5,h6⟩:=Z2 hc;refine⟨by simp;omega,fun i hi=>?_,fun m hm=>?_,fun m hm=>?_,?_⟩
   ·rw[List.length_append,List.length_singleton]at hi;by_cases e:i<l.length
    ·rw[List.getElem_append_left e];exact h.ok i e
    ·obtain rfl:i=l.length:=by omega
     simpa using hc
   ·rcases List.mem_append.1 hm with hm |hm
    ·obtain⟨h7,h8⟩:=h.val m hm;refine⟨h7,fun v hv=>?_⟩;obtain⟨_,e1,e2,e3,e4⟩:=xg (h8 v hv);exact zEI e1 e2 e3 (fun i hi=>by have:=e4 i hi;simp;omega)
    ·obtain rfl:=List.mem_singleton.1 hm;exact⟨by simp,fun v hv=>by cases hv⟩
   ·rcases List.mem_append.1 hm with hm |hm
    ·exact h.ar m hm
    ·obtain rfl:=List.mem_singleton.1 hm;exact⟨ha,fun v hv=>by cases hv⟩
   ·intro i hi j hj hr;have hk:=zGY h.zGi;by_cases e:i<l.length
    ·rw[Xe e]at hj;exact h.acy i e j hj (QV hk hr (hk _ _ hj))
    ·have hi':i=l.length:=by simp at hi;omega
     subst hi'
     have hj':j∈Zp (⟨name,a,[]⟩:Mv):=by
       rw[show((l.length:Nat):Int)=((l.length:Nat):Int)from rfl,zE4 (by simp)]at hj;simpa using hj
     have hjl:j<l.length:=by
       unfold Zp at hj';simp only[List.flatMap_nil,List.append_nil]at hj';exact h5 j hj'
     have:=(QV hk hr hjl).lt';omega
theorem zEx{l:List Mv}{i:Int}{m:Tm}{v:Mv}(h1:0<=i/\i<l.length)(h2:l[i.toNat]? =some v)(h3:v.value=[])(h4:xo m l.length=0)(h5:∀ x∈Tm.zL m,¬Q6 l x i):XS l i m=0:=by
  unfold XS;rw[if_neg (by simp[h1]),if_neg (by rw[h2];simp[h3]),if_neg (by simp[h4]),if_neg];unfold X4;classical
  intro h;obtain⟨x,hx,hr⟩:=of_decide_eq_true h;exact h5 x hx hr
end
end Go.LF
