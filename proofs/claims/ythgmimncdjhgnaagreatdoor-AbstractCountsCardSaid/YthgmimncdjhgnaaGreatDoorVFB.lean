/- A property of all nodes that a substitution keeps: variables may have any index. No program is in sight here. -/
import Derived.Test.YthgmimncdjhgnaaGreatDoorVCH
import Derived.Test.YthgmimncdjhgnaaGreatDoorVDC
import Derived.Test.YthgmimncdjhgnaaGreatDoorVEA
import Derived.Test.YthgmimncdjhgnaaGreatDoorVFA
import Derived.Test.YthgmimncdjhgnaaGreatDoorVSC
namespace Go.LF.Tm
mutual
def yk(N:Int->List UInt8->Int->Nat->Prop):Tm->Prop
  |mk k n i l=>N k n i l.length/\xp N l
def xp(N:Int->List UInt8->Int->Nat->Prop):List Tm->Prop
  | []=>True
  |t :: ts=>yk N t/\xp N ts
end
section
variable {N:Int->List UInt8->Int->Nat->Prop}
theorem zy(k n i l):yk N (mk k n i l)↔N k n i l.length/\xp N l:=by rw[yk]
theorem zi(l:List Tm):xp N l↔∀ t∈l,yk N t:=by
  induction l with
  |nil=>simp[xp]
  |cons t ts ih=>simp[xp,ih]
theorem ZH:xp N []:=by rw[xp];trivial
theorem Yn{M:Int->List UInt8->Int->Nat->Prop}(hNM:∀ k n i z,N k n i z->M k n i z)(t:Tm):yk N t->yk M t:=by
  induction t using ind with
  |h k n i l ih=>
   intro h;rw[zy,zi]at h ⊢;exact⟨hNM _ _ _ _ h.1,fun u hu=>ih u hu (h.2 u hu)⟩
theorem Qn{M:Int->List UInt8->Int->Prop}(t:Tm):∀ b,yk (fun k n i _=>M k n i) t↔∀ x∈nodes b t,M x.k x.n x.i:=by
  induction t using ind with
  |h k n i l ih=>
   intro b
   have key:∀(l':List Tm),(∀ t∈l',t∈l)->∀ j,xp (fun k n i _=>M k n i) l'↔∀ x∈zd b k j l',M x.k x.n x.i:=by
     intro l';induction l' with
     |nil=>intro _ j;simp[xp,zd]
     |cons t ts ih2=>
      intro hm j;rw[xp,zd,ih t (hm t (by simp)) (b+under k j),ih2 (fun t ht=>hm t (by simp[ht])) (j+1)];simp only[List.mem_append];exact⟨fun h x hx=>hx.elim (h.1 x) (h.2 x),fun h=>⟨fun x hx=>h x (.inl hx),fun x hx=>h x (.inr hx)⟩⟩
   rw[zy,zn,key l (fun _ h=>h) 0];simp
theorem Y8{c:Nat}(t:Tm):t.size<=c->yk (fun _ _ _ z=>z<=c) t:=by
  induction t using ind with
  |h k n i l ih=>
   intro h;rw[zU]at h;have:=zO l;rw[zy,zi];exact⟨by omega,fun u hu=>ih u hu (by have:=zT hu;omega)⟩
variable (hv:∀ n i i' z,N 5 n i z->N 5 n i' z) (h0:N 0 [] 0 0)
include h0 in
theorem zw:yk N zV:=(zy _ _ _ _).2 ⟨h0,ZH⟩
include hv in
theorem zJt(f:To)(t:Tm):∀ b,yk N t->yk N (mv f b t):=by
  induction t using ind with
  |h k n i l ih=>
   intro b h;rw[zy]at h;rw[ZO,zy];refine⟨?_,?_⟩
   ·by_cases hk:k=5
    ·subst hk;rw[Z4];exact hv _ _ _ _ h.1
    ·unfold Ye;rw[if_neg (fun e=>hk e.1),Z4];exact h.1
   have key:∀(l':List Tm),(∀ t∈l',t∈l)->xp N l'->∀ j,xp N (ZG f b k j l'):=by
     intro l';induction l' with
     |nil=>intro _ _ j;rw[ZG];exact ZH
     |cons t ts ih2=>
      intro hm hn j;rw[xp]at hn;rw[ZG,xp];exact⟨ih t (hm t (by simp)) _ hn.1,ih2 (fun t ht=>hm t (by simp[ht])) hn.2 (j+1)⟩
   exact key l (fun _ h=>h) h.2 0
include h0 in
theorem qm{t:Tm}{w:Nat}(h:yk N t):yk N (ZY t w).t:=by
  unfold ZY;split
  ·exact h
  ·exact zw h0
theorem zIy(f:Int->Tm->Nat->xW)(d k:Int)(l:List Tm)(hf:∀ t∈l,∀ d w,yk N (f d t w).t):∀ j w,xp N (yz f d k j l w).ts:=by
  induction l with
  |nil=>intro j w;rw[yz];exact ZH
  |cons t ts ih=>
   intro j w;rw[yz];split
   ·split
    ·show xp N (_ :: _);rw[xp];exact⟨hf t (by simp) _ _,ih (fun t ht=>hf t (by simp[ht])) _ _⟩
    ·exact ZH
   ·exact ZH
include h0 in
theorem zGC(f:Tm->Sm->Tm->Nat->xW)(hf:∀ u s b w,yk N u->yk N b->yk N (f u s b w).t)(us:List Tm):∀(m:Tm)(ss:List Sm)(w:Nat),yk N m->xp N us->yk N (YO f m ss us w).t:=by
  induction us with
  |nil=>
   intro m ss w hm _;unfold YO;split
   ·exact zw h0
   ·exact qm h0 hm
  |cons u us ih=>
   intro m ss w hm hu;rw[xp]at hu;cases ss with
   |nil=>unfold YO;exact zw h0
   |cons s ss=>
    rw[YO]
    have hb:yk N (m.args.headD zV):=by
      cases m with
      |mk k n i l=>
       rw[zy]at hm;cases l with
       |nil=>exact zw h0
       |cons t ts=>
        have:=hm.2;rw[xp]at this;exact this.1
    have hf1:=hf u s _ w hu.1 hb;split
    ·split
     ·exact ih _ _ _ hf1 hu.2
     ·exact hf1
    ·exact zw h0
include hv h0 in
theorem zI9(f:Tm->Sm->Tm->Nat->xW)(hf:∀ u s b w,yk N u->yk N b->yk N (f u s b w).t)(ms:List Tm)(ss:List Sm)(d k:Int)(nm:List UInt8)(i:Int)(us:List Tm)(w:Nat)
    (hms:xp N ms) (hn:N k nm i us.length) (hu:xp N us):yk N (sbN f ms ss d k nm i us w).t:=by
  unfold sbN;split
  ·rename_i hk;split
   ·rename_i hlt;split
    ·exact zw h0
    ·unfold ap;split
     ·refine zGC h0 f hf us _ _ _ (zJt hv _ _ _ ?_) hu;by_cases h:(i - d).toNat<ms.length
      ·rw[List.getD,List.getElem?_eq_getElem h];exact(zi ms).1 hms _ (List.getElem_mem _)
      ·rw[List.getD,List.getElem?_eq_none (by omega)];exact zw h0
     ·exact zw h0
   ·refine qm h0 ((zy _ _ _ _).2 ⟨?_,hu⟩);obtain⟨rfl,_⟩:=hk;exact hv _ _ _ _ hn
  ·exact qm h0 ((zy _ _ _ _).2 ⟨hn,hu⟩)
include hv h0 in
theorem zJr(n:Nat):∀ ms ss d t w,xp N ms->yk N t->yk N (sb n ms ss d t w).t:=by
  induction n with
  |zero=>intro ms ss d t w _ _;rw[sb];exact zw h0
  |succ n ih=>
   intro ms ss d t w hms ht;rw[sb];split
   ·exact zw h0
   ·split
    ·rename_i hA;cases t with
     |mk k nm i l=>
      simp only[zCx,zCj,zAk,Zo]at *
      rw[zy]at ht;refine zI9 hv h0 _ (fun u s b w hu hb=>ih [u] [s] 0 b w ?_ hb) ms ss d k nm i _ _ hms (by rw[Yh _ _ _ _ _ _ hA];exact ht.1) ?_
      ·rw[xp];exact⟨hu,ZH⟩
      ·exact zIy _ d k l (fun t ht' d w=>ih ms ss d t w hms ((zi l).1 ht.2 t ht')) 0 (w+1)
    ·exact zw h0
include hv h0 in
theorem zKD(n:Nat)(m:Tm)(ss:List Sm)(us:List Tm)(w:Nat)(hm:yk N m)(hu:xp N us):yk N (ap (fun u s b w'=>sb n [u] [s] 0 b w') m ss us w).t:=by
  unfold ap;split
  ·exact zGC h0 _ (fun u s b w h1 h2=>zJr hv h0 n [u] [s] 0 b w (by rw[xp];exact⟨h1,ZH⟩) h2) us m ss w hm hu
  ·exact zw h0
end
end Go.LF.Tm
namespace Go.LF
section
open Tm
mutual
def Zl(g:Int->Int->List Tm->Nat->Option xW):Tm->Nat->xW
  |mk k n i l,c=>if(yr g l c).e=0 then((g k i (yr g l c).ts (yr g l c).w).getD (ZY (mk k n i (yr g l c).ts) (yr g l c).w))else⟨(yr g l c).e,zV,(yr g l c).w⟩
def yr(g:Int->Int->List Tm->Nat->Option xW):List Tm->Nat->zLG
  | [],c=>⟨0,[],c⟩
  |t :: ts,c=>
   if(Zl g t c).e=0 then
     (if(yr g ts (Zl g t c).w).e=0 then⟨0,(Zl g t c).t :: (yr g ts (Zl g t c).w).ts,(yr g ts (Zl g t c).w).w⟩
       else⟨(yr g ts (Zl g t c).w).e,[],(yr g ts (Zl g t c).w).w⟩)
   else⟨(Zl g t c).e,[],(Zl g t c).w⟩
end
theorem Z5(g k n i l c):Zl g (mk k n i l) c=if(yr g l c).e=0 then((g k i (yr g l c).ts (yr g l c).w).getD (ZY (mk k n i (yr g l c).ts) (yr g l c).w))else⟨(yr g l c).e,zV,(yr g l c).w⟩:=by rw[Zl]
theorem Xr(g:Int->Int->List Tm->Nat->Option xW)(l:List Tm):∀(j c:Nat),yr g l c=yz (fun _ t c=>Zl g t c) 0 0 j l c:=by
  induction l with
  |nil=>intro j c;rw[yr,yz]
  |cons t ts ih=>intro j c;rw[yr,yz,ih (j+1)]
theorem X8(g:Int->Int->List Tm->Nat->Option xW)(l:List Tm)(c j:Nat)(h:j<l.length)(h0:(yr g (l.take j) c).e=0):yr g (l.take (j+1)) c=
    if(Zl g l[j] (yr g (l.take j) c).w).e=0 then⟨0,(yr g (l.take j) c).ts++[(Zl g l[j] (yr g (l.take j) c).w).t],(Zl g l[j] (yr g (l.take j) c).w).w⟩
    else⟨(Zl g l[j] (yr g (l.take j) c).w).e,[],(Zl g l[j] (yr g (l.take j) c).w).w⟩:=by
  rw[Xr g _ 0,Xr g _ 0]at *
  rw[YI _ _ _ _ _ _ h h0]
theorem zDm(g:Int->Int->List Tm->Nat->Option xW)(l:List Tm)(c j:Nat)(h0:(yr g (l.take j) c).e≠0):yr g l c=yr g (l.take j) c:=by
  rw[Xr g _ 0,Xr g _ 0]at *
  exact zBU _ _ _ _ _ _ h0
theorem zFa(g:Int->Int->List Tm->Nat->Option xW)(l:List Tm)(c:Nat)(h:(yr g l c).e=0):(yr g l c).ts.length=l.length:=by
  rw[Xr g _ 0]at *;exact Yh _ _ _ _ _ _ h
theorem Xf(g:Int->Int->List Tm->Nat->Option xW)(c:Nat):yr g [] c=⟨0,[],c⟩:=by rw[yr]
theorem QC(g:Int->Int->List Tm->Nat->Option xW)(t:Tm)(ts:List Tm)(c:Nat):yr g (t :: ts) c=if(Zl g t c).e=0 then
      (if(yr g ts (Zl g t c).w).e=0 then⟨0,(Zl g t c).t :: (yr g ts (Zl g t c).w).ts,(yr g ts (Zl g t c).w).w⟩
        else⟨(yr g ts (Zl g t c).w).e,[],(yr g ts (Zl g t c).w).w⟩)
    else⟨(Zl g t c).e,[],(Zl g t c).w⟩:=by rw[yr]
def slv(l:List Mv)(k i:Int):Option Mv:=if k=6/\0<=i then(match l[i.toNat]? with |some m=>if m.value=[]then none else some m |none=>none)else none
theorem Zh{l:List Mv}{k i:Int}{m:Mv}(h:slv l k i=some m):k=6/\0<=i/\i<l.length/\l[i.toNat]? =some m/\m∈l/\m.value≠[]:=by
  unfold slv at h;split at h
  ·rename_i hk;split at h
   ·rename_i m' hm;split at h
    ·cases h
    ·rename_i hv;cases h
     obtain⟨h1,h2⟩:=List.getElem?_eq_some_iff.1 hm;exact⟨hk.1,hk.2,by omega,hm,h2 ▸ List.getElem_mem _,hv⟩
   ·cases h
  ·cases h
def Yg(l:List Mv)(f:Tm->Nat->xW)(k i:Int)(us:List Tm)(c:Nat):Option xW:=
  (slv l k i).map fun m=>if 16384<c+1 then⟨2,zV,c+1⟩else
    if Y1 (m.value.headD zV) (er m.type) us≠0 then⟨Y1 (m.value.headD zV) (er m.type) us,zV,c+1⟩else f (YL (m.value.headD zV) (er m.type) us) (c+1)
def xo(l:List Mv):Nat->Tm->Nat->xW
  |0=>fun _ c=>⟨2,zV,c+1⟩
  |n+1=>Zl (Yg l (xo l n))
theorem yt(l:List Mv)(n:Nat):xo l (n+1)=Zl (Yg l (xo l n)):=by rw[xo]
def exR(l:List Mv)(n:Nat)(m:Mv)(us:List Tm)(c:Nat):xW:=if 16384<c+1 then⟨2,zV,c+1⟩else
    if Y1 (m.value.headD zV) (er m.type) us≠0 then⟨Y1 (m.value.headD zV) (er m.type) us,zV,c+1⟩else xo l n (YL (m.value.headD zV) (er m.type) us) (c+1)
theorem zBe{l:List Mv}{n:Nat}{k i:Int}{m:Mv}(h:slv l k i=some m)(us:List Tm)(c:Nat):Yg l (xo l n) k i us c=some (exR l n m us c):=by unfold Yg exR;rw[h];rfl
theorem QH{l:List Mv}{f:Tm->Nat->xW}{k i:Int}(h:slv l k i=none)(us:List Tm)(c:Nat):Yg l f k i us c=none:=by unfold Yg;rw[h];rfl
structure MvG(n:Int)(m:Mv):Prop where
  Yf:m.type.zP=true/\m.type.small=true
  val:∀ v∈m.value,v.isObj=true/\v.small=true
  one:m.value.length<=1
  kn:yk (fun k _ i z=>(k=6->i<n)/\z<=200) m.type/\∀ v∈m.value,yk (fun k _ i z=>(k=6->i<n)/\z<=200) v
abbrev Kn(n:Int)(t:Tm):Prop:=yk (fun k _ i z=>(k=6->i<n)/\z<=200) t
structure StG(l:List Mv):Prop where
  len:l.length<=40
  mv:∀ m∈l,MvG l.length m
theorem StG.slv{l:List Mv}(h:StG l){k i:Int}{m:Mv}(hs:slv l k i=some m):∃ v,m.value=[v]/\v.isObj=true/\v.small=true/\Kn l.length v/\m.type.zP=true/\m.type.small=true:=by
  obtain⟨_,_,_,_,hm,hv⟩:=Zh hs;have hg:=h.mv m hm;have h1:=hg.one;match hm':m.value,hv with
  | [v],_=>
    rw[hm']at h1;have h2:=hg.val v (by rw[hm'];simp);exact⟨v,rfl,h2.1,h2.2,hg.kn.2 v (by rw[hm'];simp),hg.Yf.1,hg.Yf.2⟩
  |a :: b :: r,_=>rw[hm']at h1;simp at h1
theorem zE9{m:Tm}{s:Sm}{us:List Tm}(h:Y1 m s us=0):(m.isObj=true/\m.small=true)/\(∀ u∈us,u.isObj=true/\u.small=true)/\(Tm.ap (Tm.Xd 262145) m s.args us 0).e=0/\YL m s us=(Tm.ap (Tm.Xd 262145) m s.args us 0).t:=by
  have h0:=h;unfold Y1 at h;split at h
  ·rename_i h1;exact absurd h h1
  split at h
  ·rename_i h1;exact absurd h h1
  split at h
  ·omega
  rename_i h1;simp only[List.any_cons,Bool.or_eq_true,not_or,List.any_eq_true,Bool.not_eq_true',Bool.and_eq_false_iff]at h1;refine⟨?_,fun u hu=>?_,h,by unfold YL;rw[if_pos h0]⟩
  ·have:=h1.1;simp only[Bool.not_eq_false]at this;exact this
  ·have h2:=h1.2;by_cases hc:u.isObj=true/\u.small=true
   ·exact hc
   ·exact absurd ⟨u,hu,by
      cases h3:u.isObj<;>cases h4:u.small<;>simp_all⟩ h2
theorem zHC(f:Tm->Sm->Tm->Nat->xW)(m:Tm)(ss:List Sm)(us:List Tm)(w:Nat)(h:(ap f m ss us w).e=0):(ap f m ss us w).t.small=true:=by
  unfold ap at h ⊢;split
  ·rename_i hl;rw[if_pos hl]at h;exact Qp _ _ _ _ _ h
  ·rename_i hl;rw[if_neg hl]at h;simp at h
theorem QW{m:Tm}{s:Sm}{us:List Tm}(h:Y1 m s us=0):(YL m s us).isObj=true/\(YL m s us).small=true:=by
  obtain⟨h1,h2,h3,h4⟩:=zE9 h;rw[h4];refine⟨?_,zHC _ _ _ _ _ h3⟩;rcases zDK (Xd 262145) (fun u s b w hu hs hb hd=>XY 262145 [u] [s] 0 b w (fun x hx=>by obtain rfl:x=u:=(by simpa using hx);exact⟨hu,hs⟩) (by omega) (by omega) hb) us m s.args 0 h2 h1.1 h1.2 with h5 |h5
  ·exact h5.2.1
  ·exact absurd h3 h5.1
theorem QL{N:Int->List UInt8->Int->Nat->Prop}(hv:∀ n i i' z,N 5 n i z->N 5 n i' z)(h0:N 0 [] 0 0){m:Tm}{s:Sm}{us:List Tm}(hm:yk N m)(hu:xp N us):yk N (YL m s us):=by
  unfold YL;split
  ·exact zKD hv h0 262145 m s.args us 0 hm hu
  ·exact zw h0
theorem zFI{n:Int}:∀(_:List UInt8)(i i':Int)(z:Nat),((5:Int)=6->i<n)/\z<=200->((5:Int)=6->i'<n)/\z<=200:=fun _ _ _ _ h=>⟨fun e=>absurd e (by decide),h.2⟩
theorem zCt{n:Int}:((0:Int)=6->(0:Int)<n)/\0<=200:=⟨fun e=>absurd e (by decide),by decide⟩
inductive Pw{α β:Type}(P:α->β->Prop):List α->List β->Prop
  |nil:Pw P [] []
  |cons {a b l m} (h:P a b) (t:Pw P l m):Pw P (a :: l) (b :: m)
theorem zAT(g:Int->Int->List Tm->Nat->Option xW)(P:Tm->Tm->Prop)(l:List Tm)(h:∀ t∈l,∀ c,(Zl g t c).e=0->P t (Zl g t c).t):∀ c,(yr g l c).e=0->Pw P l (yr g l c).ts:=by
  induction l with
  |nil=>intro c _;rw[Xf];exact .nil
  |cons t ts ih=>
   intro c h0;rw[QC]at h0 ⊢;by_cases h1:(Zl g t c).e=0
   ·rw[if_pos h1]at h0 ⊢;by_cases h2:(yr g ts (Zl g t c).w).e=0
    ·rw[if_pos h2];exact .cons (h t (by simp) c h1) (ih (fun t ht=>h t (by simp[ht])) _ h2)
    ·rw[if_neg h2]at h0;exact absurd h0 h2
   ·rw[if_neg h1]at h0;exact absurd h0 h1
theorem zJv(g:Int->Int->List Tm->Nat->Option xW)(l:List Tm)(h:∀ t∈l,∀ c,c<=(Zl g t c).w):∀ c,c<=(yr g l c).w:=by
  have key:∀(l:List Tm),(∀ t∈l,∀ c,c<=(Zl g t c).w)->∀ j c,c<=(yz (fun _ t c=>Zl g t c) 0 0 j l c).w:=by
    intro l;induction l with
    |nil=>intro _ j c;rw[yz];exact Nat.le_refl _
    |cons t ts ih=>
     intro h j c;have h1:=h t (by simp) c;have h2:=ih (fun t ht=>h t (by simp[ht])) (j+1) (Zl g t c).w;rw[yz];split
     ·split
      ·exact Nat.le_trans h1 h2
      ·exact Nat.le_trans h1 h2
     ·exact h1
  intro c;rw[Xr g _ 0];exact key l h 0 c
theorem zKQ(g:Int->Int->List Tm->Nat->Option xW)(hg:∀ k i us c r,g k i us c=some r->c<=r.w)(t:Tm):∀ c,c<=(Zl g t c).w:=by
  induction t using ind with
  |h k n i l ih=>
   intro c;have h1:=zJv g l ih c;rw[Z5];split
   ·cases hq:g k i (yr g l c).ts (yr g l c).w with
    |none=>show c<=(ZY _ _).w;rw[X9];exact h1
    |some r=>exact Nat.le_trans h1 (hg _ _ _ _ _ hq)
   ·exact h1
theorem zIC(l:List Mv)(n:Nat):∀ t c,c<=(xo l n t c).w:=by
  induction n with
  |zero=>intro t c;exact Nat.le_succ c
  |succ n ih=>
   intro t c;rw[yt];refine zKQ _ (fun k i us c r h=>?_) t c;unfold Yg at h;obtain⟨m,_,rfl⟩:=Option.map_eq_some_iff.1 h;split
   ·exact Nat.le_succ c
   ·split
    ·exact Nat.le_succ c
    ·exact Nat.le_trans (Nat.le_succ c) (ih _ _)
theorem qp(l:List Mv)(n:Nat):∀ t c,(xo l n t c).e≠0->(xo l n t c).t=zV:=by
  induction n with
  |zero=>intro t c _;rfl
  |succ n ih=>
   intro t c h;rw[yt]at h ⊢;cases t with
   |mk k nm i ts=>
    rw[Z5]at h ⊢;split
    ·rename_i h0;rw[if_pos h0]at h;cases hq:Yg l (xo l n) k i (yr (Yg l (xo l n)) ts c).ts (yr (Yg l (xo l n)) ts c).w with
     |none=>
      rw[hq]at h;show(ZY _ _).t=_;have h:(ZY (mk k nm i (yr (Yg l (xo l n)) ts c).ts) (yr (Yg l (xo l n)) ts c).w).e≠0:=h;unfold ZY at h ⊢;split
      ·rename_i h1;rw[if_pos h1]at h;exact absurd rfl h
      ·rfl
     |some r=>
      rw[hq]at h;show r.t=_;have h:r.e≠0:=h;unfold Yg at hq;obtain⟨m,_,rfl⟩:=Option.map_eq_some_iff.1 hq;split
      ·rfl
      ·rename_i h1;rw[if_neg h1]at h;split
       ·rfl
       ·rename_i h2;rw[if_neg h2]at h;exact ih _ _ h
    ·rfl
theorem zCB(l:List Mv)(n:Nat):∀ t c,(xo l n t c).e=0->(xo l n t c).t.small=true:=by
  induction n with
  |zero=>intro t c h;simp[xo]at h
  |succ n ih=>
   intro t c h;rw[yt]at h ⊢;cases t with
   |mk k nm i ts=>
    rw[Z5]at h ⊢;split
    ·rename_i h0;rw[if_pos h0]at h;cases hq:Yg l (xo l n) k i (yr (Yg l (xo l n)) ts c).ts (yr (Yg l (xo l n)) ts c).w with
     |none=>rw[hq]at h;exact Xa _ _ h
     |some r=>
      rw[hq]at h;show r.t.small=_;have h:r.e=0:=h;unfold Yg at hq;obtain⟨m,_,rfl⟩:=Option.map_eq_some_iff.1 hq;split
      ·rename_i h1;rw[if_pos h1]at h;simp at h
      ·rename_i h1;rw[if_neg h1]at h;split
       ·rename_i h2;rw[if_pos h2]at h;exact absurd h h2
       ·rename_i h2;rw[if_neg h2]at h;exact ih _ _ h
    ·rename_i h0;rw[if_neg h0]at h;exact absurd h h0
theorem zJS{N:Int->List UInt8->Int->Nat->Prop}(h0:N 0 [] 0 0)(g:Int->Int->List Tm->Nat->Option xW)(hg:∀ k i us c r,xp N us->g k i us c=some r->yk N r.t)(t:Tm):yk N t->∀ c,yk N (Zl g t c).t:=by
  induction t using ind with
  |h k n i l ih=>
   intro ht c;rw[zy]at ht;rw[Z5];split
   ·rename_i he
    have hA:xp N (yr g l c).ts:=by
      rw[zi];have hF:=zAT g (fun _ r=>yk N r) l (fun t h c _=>ih t h ((zi l).1 ht.2 t h) c) c he;generalize (yr g l c).ts=us at hF;clear he ih ht;induction hF with
      |nil=>simp
      |cons h1 _ ih=>intro u hu;rcases List.mem_cons.1 hu with rfl |hu;(exact h1);exact ih u hu
    cases hq:g k i (yr g l c).ts (yr g l c).w with
    |none=>exact qm h0 ((zy _ _ _ _).2 ⟨by rw[zFa g l c he];exact ht.1,hA⟩)
    |some r=>exact hg _ _ _ _ _ hA hq
   ·exact zw h0
theorem zC1{N:Int->List UInt8->Int->Nat->Prop}(hv:∀ n i i' z,N 5 n i z->N 5 n i' z)(h0:N 0 [] 0 0)(l:List Mv)(hl:∀ m∈l,∀ v∈m.value,yk N v)(n:Nat):∀ t c,yk N t->yk N (xo l n t c).t:=by
  induction n with
  |zero=>intro t c _;exact zw h0
  |succ n ih=>
   intro t c ht;rw[yt];refine zJS h0 _ (fun k i us c r hus h=>?_) t ht c;unfold Yg at h;obtain⟨m,hm,rfl⟩:=Option.map_eq_some_iff.1 h;obtain⟨_,_,_,_,hml,hmv⟩:=Zh hm;split
   ·exact zw h0
   ·split
    ·exact zw h0
    ·refine ih _ _ (QL hv h0 ?_ hus);match hv':m.value,hmv with
     |v :: r,_=>exact hl m hml v (by rw[hv'];simp)
end
section
open Tm
theorem zKY{t:Tm}{w:Nat}(h:(ZY t w).e=0):(ZY t w).t=t:=by
  unfold ZY at h ⊢;split
  ·rfl
  ·rename_i h1;rw[if_neg h1]at h;simp at h
def Kp(t r:Tm):Prop:=(t.isObj=true->r.isObj=true)/\(t.zP=true->r.zP=true)/\(t.zR=true->r.zR=true)
theorem zKS{l us:List Tm}(h:Pw Kp l us):zZ l=true->zZ us=true:=by
  induction h with
  |nil=>exact fun h=>h
  |cons h1 _ ih=>intro h;rw[zZ,Bool.and_eq_true]at h ⊢;exact⟨h1.1 h.1,ih h.2⟩
theorem zKU{l us:List Tm}(h:Pw Kp l us):yJ l=true->yJ us=true:=by
  induction h with
  |nil=>exact fun h=>h
  |cons h1 _ ih=>intro h;rw[yJ,Bool.and_eq_true]at h ⊢;exact⟨h1.2.1 h.1,ih h.2⟩
theorem zJx{l us:List Tm}(h:Pw Kp l us):us.length=l.length:=by
  induction h with
  |nil=>rfl
  |cons _ _ ih=>simp[ih]
theorem zIf{k i:Int}{n:List UInt8}{l us:List Tm}(h:Pw Kp l us):Kp (mk k n i l) (mk k n i us):=by
  have hl:=zJx h;have ho:=zKS h;have ht:=zKU h;refine⟨fun e=>?_,fun e=>?_,fun e=>?_⟩
  ·rw[isObj]at e ⊢;unfold bound at e ⊢;rw[hl];split at e
   ·rename_i hk;rw[if_pos hk];rw[Bool.and_eq_true]at e ⊢;exact⟨e.1,ho e.2⟩
   ·rename_i hk;rw[if_neg hk];split at e
    ·rename_i hk;rw[if_pos hk];rw[Bool.and_eq_true]at e ⊢;exact⟨e.1,ho e.2⟩
    ·rename_i hk;rw[if_neg hk];split at e
     ·rename_i hk;rw[if_pos hk];rw[Bool.and_eq_true]at e ⊢;exact⟨e.1,ho e.2⟩
     ·rename_i hk;rw[if_neg hk];split at e
      ·rename_i hk;rw[if_pos hk];rw[Bool.and_eq_true]at e ⊢;exact⟨e.1,ho e.2⟩
      ·cases e
  ·rw[zP,isAtom]at e ⊢;unfold bound at e ⊢;rw[hl];simp only[Bool.or_eq_true,Bool.and_eq_true]at e ⊢;rcases e with e |e
   ·exact .inl ⟨e.1,e.2.1,ho e.2.2⟩
   ·exact .inr ⟨e.1,e.2.1,ht e.2.2⟩
  ·unfold zR at e;split at e
   ·rename_i heq;cases heq
    cases h with
    |cons h1 h2=>
     cases h2 with
     |cons h3 h4=>
      cases h4
      rw[zR];unfold bound at e ⊢;simp only[Bool.and_eq_true]at e ⊢;exact⟨e.1,e.2.1,h1.2.1 e.2.2.1,h3.2.2 e.2.2.2⟩
   ·rename_i heq;cases heq
    simp only[Bool.and_eq_true,List.isEmpty_iff]at e;obtain⟨h1,h2,h3,h4⟩:=e;subst h4;cases h
    rw[zR]
    ·simp[h1,h2,h3]
    ·intro a b hab;cases hab
theorem zJB{n:List UInt8}{i:Int}{l:List Tm}{r:Tm}(h:r.isObj=true):Kp (mk 6 n i l) r:=by
  refine⟨fun _=>h,fun e=>?_,fun e=>?_⟩
  ·rw[zP,isAtom]at e;simp at e
  ·unfold zR at e;split at e
   ·rename_i heq;cases heq;simp at e
   ·rename_i heq;cases heq;simp at e
theorem zJq(g:Int->Int->List Tm->Nat->Option xW)(hg:∀ k i us c r,g k i us c=some r->r.e=0->k=6/\r.t.isObj=true)(t:Tm):∀ c,(Zl g t c).e=0->Kp t (Zl g t c).t:=by
  induction t using ind with
  |h k n i l ih=>
   intro c h;rw[Z5]at h ⊢;split
   ·rename_i he;rw[if_pos he]at h;have hF:=zAT g Kp l ih c he;cases hq:g k i (yr g l c).ts (yr g l c).w with
    |none=>
     rw[hq]at h;show Kp _ (ZY _ _).t;have h:(ZY (mk k n i (yr g l c).ts) (yr g l c).w).e=0:=h;rw[zKY h];exact zIf hF
    |some r=>
     rw[hq]at h;obtain⟨rfl,h2⟩:=hg _ _ _ _ _ hq h;exact zJB h2
   ·rename_i he;rw[if_neg he]at h;exact absurd h he
theorem zDB(l:List Mv)(n:Nat):∀ t c,(xo l n t c).e=0->Kp t (xo l n t c).t:=by
  induction n with
  |zero=>intro t c h;simp[xo]at h
  |succ n ih=>
   intro t c h;rw[yt]at h ⊢;refine zJq _ (fun k i us c r hr h0=>?_) t c h;unfold Yg at hr;obtain⟨m,hm,rfl⟩:=Option.map_eq_some_iff.1 hr;refine⟨(Zh hm).1,?_⟩;split at h0
   ·simp at h0
   ·rename_i h1;rw[if_neg h1];split at h0
    ·rename_i h2;exact absurd h0 h2
    ·rename_i h2;rw[if_neg h2];exact(ih _ _ h0).1 (QW (by simpa using h2)).1
theorem zCs(l:List Mv)(n:Nat)(t:Tm)(c:Nat)(ht:t.wf=0)(h:(xo l n t c).e=0):(xo l n t c).t.wf=0:=by
  obtain⟨h1,h2,h3⟩:=zDB l n t c h;have hs:=zCB l n t c h;unfold wf;rw[hs];rcases(yd ht).1 with h4 |h4 |h4
  ·rw[h1 h4];rfl
  ·rw[h2 h4];simp
  ·rw[h3 h4];simp
theorem zJT(g:Int->Int->List Tm->Nat->Option xW)(N:Nat)(hg:∀ k i us c r,g k i us c=some r->c<=N->r.e=0->r.w<=N)(t:Tm):∀ c,c<=N->(Zl g t c).e=0->(Zl g t c).w<=N:=by
  induction t using ind with
  |h k n i l ih=>
   intro c hc h
   have key:∀(us:List Tm),(∀ t∈us,t∈l)->∀ c,c<=N->(yr g us c).e=0->(yr g us c).w<=N:=by
     intro us;induction us with
     |nil=>intro _ c hc _;rw[Xf];exact hc
     |cons t ts ih2=>
      intro hm c hc h;rw[QC]at h ⊢;split
      ·rename_i h1;rw[if_pos h1]at h;split
       ·rename_i h2;exact ih2 (fun t ht=>hm t (by simp[ht])) _ (ih t (hm t (by simp)) c hc h1) h2
       ·rename_i h2;rw[if_neg h2]at h;exact absurd h h2
      ·rename_i h1;rw[if_neg h1]at h;exact absurd h h1
   rw[Z5]at h ⊢;split
   ·rename_i he;rw[if_pos he]at h;have h1:=key l (fun _ h=>h) c hc he;cases hq:g k i (yr g l c).ts (yr g l c).w with
    |none=>show(ZY _ _).w<=N;rw[X9];exact h1
    |some r=>rw[hq]at h;exact hg _ _ _ _ _ hq h1 h
   ·rename_i he;rw[if_neg he]at h;exact absurd h he
theorem zGJ(l:List Mv)(n:Nat):∀ t c,c<=16384->(xo l n t c).e=0->(xo l n t c).w<=16384:=by
  induction n with
  |zero=>intro t c _ h;simp[xo]at h
  |succ n ih=>
   intro t;rw[yt];refine zJT _ 16384 (fun k i us c r hr hc h0=>?_) t;unfold Yg at hr;obtain⟨m,hm,rfl⟩:=Option.map_eq_some_iff.1 hr;split at h0
   ·simp at h0
   ·rename_i h1;split at h0
    ·rename_i h2;exact absurd h0 h2
    ·rename_i h2;rw[if_neg h1,if_neg h2];exact ih _ _ (by omega) h0
abbrev Us(l:List Mv)(t:Tm):Prop:=yk (fun k _ i _=>slv l k i=none) t
theorem zFt{l:List Mv}{k i:Int}(h:k≠6):slv l k i=none:=by unfold slv;rw[if_neg (fun e=>h e.1)]
theorem zCR{k i:Int}{n:List UInt8}{l:List Tm}(h:(mk k n i l).small=true):∀ u∈l,u.small=true:=by
  intro u hu;unfold small at h ⊢;rw[Bool.and_eq_true,decide_eq_true_eq,decide_eq_true_eq]at h ⊢;rw[zU,yO]at h;have:=zT hu;have:=zg hu;exact⟨by omega,by omega⟩
theorem zIY(l:List Mv)(f:Tm->Nat->xW)(t:Tm):Us l t->t.small=true->∀ c,Zl (Yg l f) t c=⟨0,t,c⟩:=by
  induction t using ind with
  |h k n i ts ih=>
   intro hU hs c;have hU:=(zy _ _ _ _).1 hU;have h1:∀ t∈ts,∀ c,Zl (Yg l f) t c=⟨0,t,c⟩:=fun t ht c=>ih t ht ((zi ts).1 hU.2 t ht) (zCR hs t ht) c
   have key:∀(us:List Tm),(∀ t∈us,∀ c,Zl (Yg l f) t c=⟨0,t,c⟩)->∀ c,yr (Yg l f) us c=⟨0,us,c⟩:=by
     intro us;induction us with
     |nil=>intro _ c;rw[Xf]
     |cons t us ih2=>
      intro h1 c;rw[QC,h1 t (by simp),if_pos rfl,ih2 (fun t ht=>h1 t (by simp[ht])),if_pos rfl]
   have hA:∀ c,yr (Yg l f) ts c=⟨0,ts,c⟩:=key ts h1;rw[Z5,hA,if_pos rfl];simp only;rw[QH hU.1];show ZY _ _=_;unfold ZY;rw[if_pos hs]
theorem zH2(l:List Mv)(n:Nat)(t:Tm)(hU:Us l t)(hs:t.small=true)(c:Nat):xo l (n+1) t c=⟨0,t,c⟩:=by rw[yt];exact zIY l _ t hU hs c
end
section
open Tm Go.Proofs.YthgmimncdjhgnaaGreatDoor
def yg(l:List Mv)(t:Tm):Int:=if t.wf≠0 then t.wf else if(Tm.zM t).any (fun i=>decide ((l.length:Int)<=i))=true then 3 else(xo l 16385 t 0).e
def zq(l:List Mv)(t:Tm):Tm:=if yg l t=0 then(xo l 16385 t 0).t else zV
theorem Qt(t:Tm)(h:t.wf=0)(i:Int):i∈Tm.zM t↔∃ x∈nodes 0 t,x.k=6/\x.i=i:=by
  unfold Tm.zM Tm.YY;rw[if_pos (by simp[h]),<-qi t 0 []]
  have key:∀(xs:List Nd0)(acc:List Int),i∈xs.foldl yb acc↔i∈acc\/∃ x∈xs,x.k=6/\x.i=i:=by
    intro xs;induction xs with
    |nil=>intro acc;simp
    |cons x xs ih=>
     intro acc;rw[List.foldl_cons,ih]
     have hs:i∈yb acc x↔i∈acc\/(x.k=6/\x.i=i):=by
       unfold yb;split
       ·rename_i hc;simp only[Bool.and_eq_true,beq_iff_eq]at hc;rw[List.mem_append,List.mem_singleton];exact⟨fun h=>h.imp id (fun h=>⟨hc.1,h.symm⟩),fun h=>h.imp id (fun h=>h.2.symm)⟩
       ·rename_i hc;refine⟨.inl,fun h=>h.elim id (fun h=>?_)⟩;obtain⟨h1,rfl⟩:=h;simpa[h1]using hc
     rw[hs];constructor
     ·rintro((h |h)|⟨y,hy,h⟩)
      ·exact .inl h
      ·exact .inr ⟨x,by simp,h⟩
      ·exact .inr ⟨y,by simp[hy],h⟩
     ·rintro(h |⟨y,hy,h⟩)
      ·exact .inl (.inl h)
      ·rcases List.mem_cons.1 hy with rfl |hy
       ·exact .inl (.inr h)
       ·exact .inr ⟨y,hy,h⟩
  rw[key];simp
theorem Qm(t:Tm)(h:¬t.wf=0):Tm.zM t=[]:=by
  unfold Tm.zM;rw[if_neg (by simpa using h)]
theorem yR{N:Int->Prop}(t:Tm)(h:t.wf=0):yk (fun k _ i _=>k=6->N i) t↔∀ i∈Tm.zM t,N i:=by
  rw[Qn (M:=fun k _ i=>k=6->N i) t 0];constructor
  ·intro hn i hi;obtain⟨x,hx,h6,rfl⟩:=(Qt t h i).1 hi;exact hn x hx h6
  ·intro hn x hx h6;exact hn _ ((Qt t h _).2 ⟨x,hx,h6,rfl⟩)
theorem Xt{N M:Int->List UInt8->Int->Nat->Prop}(t:Tm):yk N t->yk M t->yk (fun k n i z=>N k n i z/\M k n i z) t:=by
  induction t using ind with
  |h k n i l ih=>
   intro h1 h2;rw[zy,zi]at h1 h2 ⊢;exact⟨⟨h1.1,h2.1⟩,fun u hu=>ih u hu (h1.2 u hu) (h2.2 u hu)⟩
theorem QD{n:Int}(t:Tm)(h:t.wf=0)(hs:t.size<=200)(hm:∀ i∈Tm.zM t,i<n):Kn n t:=Xt t ((yR t h).2 hm) (Y8 t hs)
theorem XG{n:Int}{t:Tm}(hm:Kn n t):∀ i∈Tm.zM t,i<n:=by
  intro i hi;by_cases h:t.wf=0
  ·exact(yR (N:=fun i=>i<n) t h).1 (Yn (fun _ _ _ _ h=>h.1) t hm) i hi
  ·rw[Qm t h]at hi;cases hi
theorem Zg{t:Tm}:∀ i∈Tm.zM t,0<=i/\i<2048:=by
  intro i hi;by_cases h:t.wf=0
  ·obtain⟨x,hx,h6,rfl⟩:=(Qt t h i).1 hi;exact((QU t h).1 0 x hx).2.1 (by simp[h6])
  ·rw[Qm t h]at hi;cases hi
structure Ord where
  o:List Int
  e:Int
def typeOf(l:List Mv)(i:Int):Tm:=match l[i.toNat]? with |some m=>m.type |none=>zV
def yX(l:List Mv)(f:List Int->Ord->Ord):List Int->Ord->Ord
  | [],s=>s
  |m :: ms,s=>
   if s.e≠0 then s else if s.o.contains m=true then yX l f ms s else
   if yg l (typeOf l m)≠0 then⟨s.o,yg l (typeOf l m)⟩else
   if(f (Tm.zM (zq l (typeOf l m))) s).e=0 then yX l f ms ⟨(f (Tm.zM (zq l (typeOf l m))) s).o++[m],0⟩else f (Tm.zM (zq l (typeOf l m))) s
def X4(l:List Mv):Nat->List Int->Ord->Ord
  |0=>yX l (fun _ s=>s)
  |d+1=>yX l (X4 l d)
theorem Y7(l:List Mv)(f:List Int->Ord->Ord)(ms:List Int)(s:Ord)(h:s.e≠0):yX l f ms s=s:=by
  cases ms with
  |nil=>rfl
  |cons m ms=>rw[yX,if_pos h]
theorem Y5(l:List Mv)(f:List Int->Ord->Ord)(a b:List Int):∀ s,yX l f (a++b) s=yX l f b (yX l f a s):=by
  induction a with
  |nil=>intro s;rfl
  |cons m ms ih=>
   intro s;rw[List.cons_append,yX,yX];by_cases h0:s.e≠0
   ·rw[if_pos h0,if_pos h0,Y7 l f b s h0]
   rw[if_neg h0,if_neg h0];by_cases h1:s.o.contains m=true
   ·rw[if_pos h1,if_pos h1,ih]
   rw[if_neg h1,if_neg h1];by_cases h2:yg l (typeOf l m)≠0
   ·rw[if_pos h2,if_pos h2,Y7 l f b _ h2]
   rw[if_neg h2,if_neg h2];by_cases h3:(f (Tm.zM (zq l (typeOf l m))) s).e=0
   ·rw[if_pos h3,if_pos h3,ih]
   ·rw[if_neg h3,if_neg h3,Y7 l f b _ h3]
theorem QQ(l:List Mv)(f:List Int->Ord->Ord)(m:Int)(s:Ord):yX l f [m] s=
    if s.e≠0 then s else if s.o.contains m=true then s else
    if yg l (typeOf l m)≠0 then⟨s.o,yg l (typeOf l m)⟩else
    if(f (Tm.zM (zq l (typeOf l m))) s).e=0 then⟨(f (Tm.zM (zq l (typeOf l m))) s).o++[m],0⟩else f (Tm.zM (zq l (typeOf l m))) s:=by
  rw[yX,yX,yX]
theorem XS(l:List Mv)(f:List Int->Ord->Ord)(ms:List Int)(j:Nat)(h:j<ms.length)(s:Ord):yX l f (ms.take (j+1)) s=yX l f [ms[j]] (yX l f (ms.take j) s):=by
  rw[List.take_succ_eq_append_getElem h,Y5]
theorem zCX(l:List Mv)(f:List Int->Ord->Ord)(ms:List Int)(j:Nat)(s:Ord)(h:(yX l f (ms.take j) s).e≠0):yX l f ms s=yX l f (ms.take j) s:=by
  conv=>lhs;rw[<-List.take_append_drop j ms]
  rw[Y5,Y7 _ _ _ _ h]
theorem zF4(l:List Mv)(d:Nat):∃ f,X4 l d=yX l f:=by
  cases d with
  |zero=>exact⟨_,rfl⟩
  |succ d=>exact⟨_,rfl⟩
def ZQ(l:List Mv)(d:Nat):List Tm->Ord->Ord
  | [],s=>s
  |t :: ts,s=>ZQ l d ts (X4 l d (Tm.zM t) s)
theorem Xh(l:List Mv)(d:Nat)(ts:List Tm):∀ s,ZQ l d ts s=X4 l d (ts.flatMap Tm.zM) s:=by
  obtain⟨f,hf⟩:=zF4 l d;induction ts with
  |nil=>intro s;rw[hf];rfl
  |cons t ts ih=>intro s;rw[ZQ,ih,hf,List.flatMap_cons,Y5]
end
section
open Tm Go.Proofs.YthgmimncdjhgnaaGreatDoor
def Acy(l:List Mv):Prop:=∀ i:Int,i<l.length->∀ j∈zz l i,¬YR l j i
open Classical in
noncomputable def rk (l:List Mv) (i:Int):Nat:=((List.range l.length).filter (fun j:Nat=>decide (YR l i (j:Int)))).length
theorem zKt(l:List Mv)(i:Int):rk l i<=l.length:=by
  unfold rk;refine Nat.le_trans (List.length_filter_le _ _) ?_;simp
theorem zJf{l:List Mv}(hA:Acy l){i j:Int}(h0:0<=i)(hi:i<l.length)(hj:j∈zz l i)(_hn:¬j<l.length\/True):rk l j<rk l i:=by
  classical
  unfold rk;have e:∀ k:Nat,YR l j (k:Int)->YR l i (k:Int):=fun k h=>.step hi hj h
  rw[show(List.range l.length).filter (fun k:Nat=>decide (YR l j (k:Int)))=((List.range l.length).filter (fun k:Nat=>decide (YR l i (k:Int)))).filter (fun k:Nat=>decide (YR l j (k:Int))) by
    rw[List.filter_filter];refine List.filter_congr (fun k _=>?_);rw[Bool.eq_iff_iff];simp only[decide_eq_true_eq,Bool.and_eq_true];exact⟨fun h=>⟨h,e k h⟩,fun h=>h.1⟩]
  rw[List.length_filter_lt_length_iff_exists];refine⟨i.toNat,?_,?_⟩
  ·rw[List.mem_filter];refine⟨List.mem_range.2 (by omega),?_⟩;simp only[decide_eq_true_eq];rw[show((i.toNat:Nat):Int)=i by omega];exact .refl hi
  ·simp only[decide_eq_true_eq];rw[show((i.toNat:Nat):Int)=i by omega];exact hA i hi j hj
theorem zBN{l:List Mv}{i:Int}(h0:0<=i)(hi:i<l.length):∃ m∈l,l[i.toNat]? =some m/\typeOf l i=m.type:=by
  have h:i.toNat<l.length:=by omega
  refine⟨l[i.toNat],List.getElem_mem h,List.getElem?_eq_getElem h,?_⟩;unfold typeOf;rw[List.getElem?_eq_getElem h]
theorem zF6(l:List Mv)(n:Nat)(t:Tm)(S:Int->Prop)(hc:∀ i,S i->∀ j∈zz l i,S j)(ht:∀ i∈Tm.zM t,S i)(hw:t.wf=0)(hv:∀ m∈l,∀ v∈m.value,v.wf=0)(c:Nat)(h:(xo l n t c).e=0):∀ i∈Tm.zM (xo l n t c).t,S i:=by
  have hN:yk (fun k _ i _=>k=6->S i) t:=(yR t hw).2 ht;have hw':=zCs l n t c hw h;rw[<-yR (N:=S) _ hw'];revert h hw';clear hw ht;induction n generalizing t c with
  |zero=>intro h;simp[xo]at h
  |succ n ih=>
   intro h _;rw[yt]at h ⊢
   have key:∀(t:Tm),yk (fun k _ i _=>k=6->S i) t->∀ c,(Zl (Yg l (xo l n)) t c).e=0->yk (fun k _ i _=>k=6->S i) (Zl (Yg l (xo l n)) t c).t:=by
     intro t;induction t using ind with
     |h k nm i ts ih2=>
      intro ht c h;rw[zy,zi]at ht;rw[Z5]at h ⊢;split
      ·rename_i he;rw[if_pos he]at h
       have hA:xp (fun k _ i _=>k=6->S i) (yr (Yg l (xo l n)) ts c).ts:=by
         rw[zi];have hF:=zAT (Yg l (xo l n)) (fun t r=>yk (fun k _ i _=>k=6->S i) t->yk (fun k _ i _=>k=6->S i) r) ts (fun t h c he ht=>ih2 t h ht c he) c he;generalize (yr (Yg l (xo l n)) ts c).ts=us at hF;have h2:=ht.2;clear he h ih2 ht;induction hF with
         |nil=>simp
         |cons h1 _ ih3=>
          intro u hu;rcases List.mem_cons.1 hu with rfl |hu
          ·exact h1 (h2 _ (by simp))
          ·exact ih3 (fun a ha=>h2 a (by simp[ha])) u hu
       cases hs:slv l k i with
       |none=>
        rw[QH hs];exact qm (fun e=>absurd e (by decide)) ((zy _ _ _ _).2 ⟨ht.1,hA⟩)
       |some m=>
        rw[zBe hs]at h ⊢;have h:(exR l n m (yr (Yg l (xo l n)) ts c).ts (yr (Yg l (xo l n)) ts c).w).e=0:=h;show yk _ (exR l n m _ _).t;unfold exR at h ⊢;split
        ·rename_i h1;rw[if_pos h1]at h;simp at h
        ·rename_i h1;rw[if_neg h1]at h;split
         ·rename_i h2;rw[if_pos h2]at h;exact absurd h h2
         ·rename_i h2;rw[if_neg h2]at h;obtain⟨h6,h0,hl,hm,hml,hmv⟩:=Zh hs;have ho:=QW (Decidable.not_not.1 h2);refine ih _ _ ?_ h (zCs l n _ _ (Zd ho.1 ho.2) h);refine QL (fun _ _ _ _ h e=>absurd e (by decide)) (fun e=>absurd e (by decide)) ?_ hA;match hv':m.value,hmv with
          |v :: r,_=>
           show yk _ v;have hvm:v∈m.value:=by rw[hv'];simp
           rw[yR v (hv m hml v hvm)];intro j hj;refine hc i (ht.1 h6) j ?_;unfold zz;rw[if_pos h0,hm];show j∈Zy m;unfold Zy;exact List.mem_append.2 (.inr (List.mem_flatMap.2 ⟨v,hvm,hj⟩))
      ·exact zw (fun e=>absurd e (by decide))
   exact key t hN c h
theorem zHT{l:List Mv}(hA:Acy l)(hG:StG l)(hT:∀ m∈l,m.type.wf=0)(hV:∀ m∈l,∀ v∈m.value,v.wf=0){i:Int}(h0:0<=i)(hi:i<l.length)(he:yg l (typeOf l i)=0):∀ j∈Tm.zM (zq l (typeOf l i)),j<l.length/\rk l j<rk l i:=by
  obtain⟨m,hm,hmi,ht⟩:=zBN h0 hi
  have hs:∀ j∈Tm.zM m.type,j∈zz l i:=by
    intro j hj;unfold zz;rw[if_pos h0,hmi];exact List.mem_append.2 (.inl hj)
  have he2:=he;unfold yg at he2;rw[ht,if_neg (by rw[hT m hm];simp)]at he2;split at he2
  ·omega
  intro j hj;have e1:zq l (typeOf l i)=(xo l 16385 m.type 0).t:=by unfold zq;rw[if_pos he,ht]
  rw[e1]at hj;refine zF6 l 16385 m.type (fun j=>j<l.length/\rk l j<rk l i) ?_ ?_ (hT m hm) hV 0 he2 j hj
  ·rintro k ⟨hk,hr⟩ j hj;by_cases h:0<=k
   ·have h1:=zJf hA h hk hj (.inr trivial);refine⟨?_,by omega⟩;unfold zz at hj;rw[if_pos h,List.getElem?_eq_getElem (by omega)]at hj;have hg:=hG.mv _ (List.getElem_mem (show k.toNat<l.length by omega));rcases List.mem_append.1 hj with hj |hj
    ·exact XG hg.kn.1 j hj
    ·obtain⟨v,hv,hj⟩:=List.mem_flatMap.1 hj;exact XG (hg.kn.2 v hv) j hj
   ·unfold zz at hj;rw[if_neg h]at hj;cases hj
  ·intro j hj;exact⟨XG (hG.mv m hm).kn.1 j hj,zJf hA h0 hi (hs j hj) (.inr trivial)⟩
end
section
open Tm Go.Proofs.YthgmimncdjhgnaaGreatDoor
open Classical in
noncomputable def YN (l:List Mv) (is:List Int) (i:Int):Bool:=decide (∃ x∈is,YR l x i)
noncomputable def qL (l:List Mv) (i:Int) (m:Tm):Int:=
  if ¬(0<=i/\i<l.length)then 3 else if(match l[i.toNat]? with |some v=>v.value |none=>[])≠[]then 53 else if x6 m l.length≠0 then x6 m l.length else if YN l (Tm.zM m) i=true then 51 else 0
def qO(l:List Mv)(i:Int)(m:Tm):List Mv:=match l[i.toNat]? with |some v=>l.set i.toNat ⟨v.name,v.type,[m]⟩|none=>l
noncomputable def YA (l:List Mv) (i:Int) (m:Tm):List Mv:=if qL l i m≠0 then l else qO l i m
structure ZZ(l:List Mv):Prop where
  len:l.length<=40
  ok:∀ i(h:i<l.length),ya i l[i].name l[i].type=0
  val:∀ m∈l,m.value.length<=1/\∀ v∈m.value,x6 v l.length=0
  ar:∀ m∈l,m.type.size<=200/\∀ v∈m.value,v.size<=200
  acy:Acy l
structure YK(l:List Mv):Prop where
  len:l.length<=40
  ok:∀ i(h:i<l.length),ya i l[i].name l[i].type=0
  val:∀ m∈l,m.value.length<=1/\∀ v∈m.value,x6 v l.length=0
  kn:∀ m∈l,yk (fun _ _ _ z=>z<=200) m.type/\∀ v∈m.value,yk (fun _ _ _ z=>z<=200) v
  acy:Acy l
theorem ZZ.plz{l:List Mv}(h:ZZ l):YK l:=⟨h.len,h.ok,h.val,fun m hm=>⟨Y8 _ (h.ar m hm).1,fun v hv=>Y8 _ ((h.ar m hm).2 v hv)⟩,h.acy⟩
theorem xI{n:Int}{name:List UInt8}{a:Tm}(h:ya n name a=0):(name=[]\/isName name=true)/\a.wf=0/\a.zP=true/\a.small=true/\a.scope<=0/\(∀ i∈Tm.zM a,i<n)/\n<2048:=by
  unfold ya at h;split at h
  ·omega
  rename_i h1;split at h
  ·rename_i h2;exact absurd h h2
  rename_i h2;split at h
  ·omega
  rename_i h3;split at h
  ·omega
  rename_i h4;split at h
  ·omega
  rename_i h5;have h2:a.wf=0:=by simpa using h2
  have h3:a.zP=true/\a.small=true:=by simpa using h3
  unfold zAH at h4;rw[h2]at h4;simp only[Bool.or_eq_true,not_or,decide_eq_true_eq,List.any_eq_true,not_exists,not_and]at h4;refine⟨?_,h2,h3.1,h3.2,?_,fun i hi=>?_,by omega⟩
  ·by_cases hn:name=[]
   ·exact .inl hn
   ·refine .inr ?_;cases hb:isName name with
    |true=>rfl
    |false=>exact absurd ⟨hn,hb⟩ h1
  ·have:=h4.1;rw[if_pos (by rfl)]at this;omega
  ·have:=h4.2 i hi;omega
theorem xg{n:Int}{a:Tm}(h:x6 a n=0):a.wf=0/\a.isObj=true/\a.small=true/\a.scope<=0/\(∀ i∈Tm.zM a,i<n):=by
  unfold x6 at h;split at h
  ·rename_i h2;exact absurd h h2
  rename_i h2;split at h
  ·omega
  rename_i h3;split at h
  ·omega
  rename_i h4;have h2:a.wf=0:=by simpa using h2
  have h3:a.isObj=true/\a.small=true:=by simpa using h3
  unfold zAH at h4;rw[h2]at h4;simp only[Bool.or_eq_true,not_or,decide_eq_true_eq,List.any_eq_true,not_exists,not_and]at h4;refine⟨h2,h3.1,h3.2,?_,fun i hi=>?_⟩
  ·have:=h4.1;rw[if_pos (by rfl)]at this;omega
  ·have:=h4.2 i hi;omega
theorem zG6{n:Int}{a:Tm}(h1:a.isObj=true)(h2:a.small=true)(h3:a.scope<=0)(h4:∀ i∈Tm.zM a,i<n):x6 a n=0:=by
  have hw:=Zd h1 h2;unfold x6;rw[if_neg (by simp[hw]),if_neg (by simp[h1,h2]),if_neg];unfold zAH;simp only[hw,Bool.or_eq_true,not_or,decide_eq_true_eq,List.any_eq_true,not_exists,not_and];exact⟨by rw[if_pos (by rfl)];omega,fun i hi=>by have:=h4 i hi;omega⟩
theorem YK.zBx{l:List Mv}(h:YK l):StG l:=by
  refine⟨h.len,fun m hm=>?_⟩;obtain⟨i,hi,rfl⟩:=List.getElem_of_mem hm;obtain⟨_,h1,h2,h3,h4,h5,_⟩:=xI (h.ok i hi);obtain⟨h6,h7⟩:=h.val _ hm;obtain⟨h8,h9⟩:=h.kn _ hm;refine⟨⟨h2,h3⟩,fun v hv=>?_,h6,Xt _ ((yR _ h1).2 (fun j hj=>by have:=h5 j hj;omega)) h8,fun v hv=>?_⟩
  ·obtain⟨_,h10,h11,_⟩:=xg (h7 v hv);exact⟨h10,h11⟩
  ·obtain⟨h10,_,_,_,h11⟩:=xg (h7 v hv);exact Xt _ ((yR _ h10).2 h11) (h9 v hv)
theorem ZZ.zBx{l:List Mv}(h:ZZ l):StG l:=h.plz.zBx
theorem YK.Yf{l:List Mv}(h:YK l):∀ m∈l,m.type.wf=0:=by
  intro m hm;obtain⟨i,hi,rfl⟩:=List.getElem_of_mem hm;exact(xI (h.ok i hi)).2.1
theorem YK.zGq{l:List Mv}(h:YK l):∀ m∈l,∀ v∈m.value,v.wf=0:=fun m hm v hv=>(xg ((h.val m hm).2 v hv)).1
theorem ZZ.Yf{l:List Mv}(h:ZZ l):∀ m∈l,m.type.wf=0:=h.plz.Yf
theorem ZZ.zGq{l:List Mv}(h:ZZ l):∀ m∈l,∀ v∈m.value,v.wf=0:=h.plz.zGq
theorem ZZ.nil:ZZ []:=by
  refine⟨by simp,fun i h=>(by simp at h),fun m h=>(by cases h),fun m h=>(by cases h),fun i h1 j hj=>?_⟩;unfold zz at hj;split at hj
  ·simp at hj
  ·cases hj
theorem zEb{l:List Mv}{i:Nat}(h:i<l.length):zz l (i:Int)=Zy l[i]:=by
  unfold zz;rw[if_pos (by omega),List.getElem?_eq_getElem (by simpa using h)];rfl
theorem zGy{l:List Mv}{i:Int}(h:¬0<=i):zz l i=[]:=by unfold zz;rw[if_neg h]
theorem zGp{l:List Mv}{i:Int}(h:¬i<l.length):zz l i=[]:=by
  unfold zz;split
  ·rw[List.getElem?_eq_none (by omega)]
  ·rfl
theorem QJ{l:List Mv}{m:Mv}{i:Int}(h:i<l.length):zz (l++[m]) i=zz l i:=by
  unfold zz;split
  ·rw[List.getElem?_append_left (by omega)]
  ·rfl
theorem zBj{l:List Mv}{m:Mv}(hk:∀ i:Int,∀ j∈zz l i,j<l.length){i j:Int}(h:YR (l++[m]) i j):i<l.length->YR l i j:=by
  induction h with
  |refl _=>intro h;exact .refl h
  |step h hj hk' ih=>
   intro hi;rw[QJ hi]at hj;exact .step hi hj (ih (hk _ _ hj))
theorem zFv{l:List Mv}(hG:StG l):∀ i:Int,∀ j∈zz l i,j<l.length:=by
  intro i j hj;unfold zz at hj;split at hj
  ·split at hj
   ·rename_i m hm;have hg:=hG.mv m (List.mem_of_getElem? hm);rcases List.mem_append.1 hj with hj |hj
    ·exact XG hg.kn.1 j hj
    ·obtain⟨v,hv,hj⟩:=List.mem_flatMap.1 hj;exact XG (hg.kn.2 v hv) j hj
   ·cases hj
  ·cases hj
theorem ZZ.new{l:List Mv}(h:ZZ l){name:List UInt8}{a:Tm}(hl:l.length<40)(ha:a.size<=200):ZZ (YJ l name a):=by
  unfold YJ;split
  ·exact h
  ·rename_i hc;have hc:ya l.length name a=0:=by simpa using hc
   obtain⟨_,h1,h2,h3,h4,h5,h6⟩:=xI hc;refine⟨by simp;omega,fun i hi=>?_,fun m hm=>?_,fun m hm=>?_,?_⟩
   ·rw[List.length_append,List.length_singleton]at hi;by_cases e:i<l.length
    ·rw[List.getElem_append_left e];exact h.ok i e
    ·obtain rfl:i=l.length:=by omega
     simpa using hc
   ·rcases List.mem_append.1 hm with hm |hm
    ·obtain⟨h7,h8⟩:=h.val m hm;refine⟨h7,fun v hv=>?_⟩;obtain⟨_,e1,e2,e3,e4⟩:=xg (h8 v hv);exact zG6 e1 e2 e3 (fun i hi=>by have:=e4 i hi;simp;omega)
    ·obtain rfl:=List.mem_singleton.1 hm;exact⟨by simp,fun v hv=>by cases hv⟩
   ·rcases List.mem_append.1 hm with hm |hm
    ·exact h.ar m hm
    ·obtain rfl:=List.mem_singleton.1 hm;exact⟨ha,fun v hv=>by cases hv⟩
   ·intro i hi j hj hr;have hk:=zFv h.zBx;by_cases e:i<l.length
    ·rw[QJ e]at hj;exact h.acy i e j hj (zBj hk hr (hk _ _ hj))
    ·have hi':i=l.length:=by simp at hi;omega
     subst hi'
     have hj':j∈Zy (⟨name,a,[]⟩:Mv):=by
       rw[show((l.length:Nat):Int)=((l.length:Nat):Int)from rfl,zEb (by simp)]at hj;simpa using hj
     have hjl:j<l.length:=by
       unfold Zy at hj';simp only[List.flatMap_nil,List.append_nil]at hj';exact h5 j hj'
     have:=(zBj hk hr hjl).lt';omega
theorem Xv{l:List Mv}{i:Int}{v:Mv}(h:l[i.toNat]? =some v)(m:Tm):qO l i m=l.set i.toNat ⟨v.name,v.type,[m]⟩:=by unfold qO;rw[h]
theorem yw(l:List Mv)(i:Int)(m:Tm):(qO l i m).length=l.length:=by unfold qO;split<;>simp
theorem zER{l:List Mv}{i:Int}{m:Tm}(h:qL l i m=0):(0<=i/\i<l.length)/\(∃ v,l[i.toNat]? =some v/\v.value=[]/\v∈l)/\x6 m l.length=0/\∀ x∈Tm.zM m,¬YR l x i:=by
  unfold qL at h;by_cases h1:0<=i/\i<l.length;case neg=>rw[if_pos h1]at h;omega
  rw[if_neg (by simpa using h1)]at h;have hi:i.toNat<l.length:=by omega
  rw[List.getElem?_eq_getElem hi]at h;simp only at h;by_cases h2:l[i.toNat].value≠[]
  ·rw[if_pos h2]at h;omega
  rw[if_neg h2]at h;by_cases h3:x6 m l.length≠0
  ·rw[if_pos h3]at h;exact absurd h h3
  rw[if_neg h3]at h;by_cases h4:YN l (Tm.zM m) i=true
  ·rw[if_pos h4]at h;omega
  refine⟨h1,⟨l[i.toNat],List.getElem?_eq_getElem hi,by simpa using h2,List.getElem_mem _⟩,by simpa using h3,fun x hx hr=>h4 ?_⟩;unfold YN;classical
  exact decide_eq_true ⟨x,hx,hr⟩
section
variable {l:List Mv}{i:Int}{m:Tm}{v:Mv} (h0:0<=i) (hi:i<l.length) (hv:l[i.toNat]? =some v) (hn:v.value=[])
include h0 hv in
theorem zBP{k:Int}(hk:k≠i):zz (qO l i m) k=zz l k:=by
  rw[Xv hv];unfold zz;split
  ·rw[List.getElem?_set_ne (by omega)]
  ·rfl
include h0 hi hv hn in
theorem zCD:zz (qO l i m) i=zz l i++Tm.zM m:=by
  rw[Xv hv];unfold zz;rw[if_pos h0,if_pos h0,List.getElem?_set_self (by omega),hv];unfold Zy;simp[hn]
include h0 hi hv hn in
theorem zGT{a b:Int}(h:YR (qO l i m) a b):YR l a b\/(YR l a i/\∃ x∈Tm.zM m,YR (qO l i m) x b):=by
  induction h with
  |refl h=>exact .inl (.refl (by rw[yw]at h;exact h))
  | @step a j k h hj hr ih=>
    rw[yw]at h;by_cases e:a=i
    ·subst e;rw[zCD h0 hi hv hn]at hj;rcases List.mem_append.1 hj with hj |hj
     ·rcases ih with ih |⟨ih,hx⟩
      ·exact .inl (.step h hj ih)
      ·exact .inr ⟨.refl h,hx⟩
     ·exact .inr ⟨.refl h,j,hj,hr⟩
    ·rw[zBP h0 hv e]at hj;rcases ih with ih |⟨ih,hx⟩
     ·exact .inl (.step h hj ih)
     ·exact .inr ⟨.step h hj ih,hx⟩
include h0 hi hv hn in
theorem zIq{a b:Int}(h:YR (qO l i m) a b):¬YR l a i->YR l a b:=by
  intro ha;rcases zGT h0 hi hv hn h with h |h
  ·exact h
  ·exact absurd h.1 ha
include h0 hi hv hn in
theorem zI2(hA:Acy l)(hm:∀ x∈Tm.zM m,¬YR l x i):Acy (qO l i m):=by
  intro k hk j hj hr;rw[yw]at hk;rcases zGT h0 hi hv hn hr with h |⟨h1,x,hx,h2⟩
  ·by_cases e:k=i
   ·subst e;rw[zCD h0 hi hv hn]at hj;rcases List.mem_append.1 hj with hj |hj
    ·exact hA k hk j hj h
    ·exact hm j hj h
   ·rw[zBP h0 hv e]at hj;exact hA k hk j hj h
  ·have h3:=zIq h0 hi hv hn h2 (hm x hx);by_cases e:k=i
   ·subst e;exact hm x hx h3
   ·rw[zBP h0 hv e]at hj;exact hm x hx (h3.trans (.step hk hj h1))
end
theorem ZZ.solve{l:List Mv}(h:ZZ l){i:Int}{m:Tm}(hm:m.size<=200):ZZ (YA l i m):=by
  unfold YA;split
  ·exact h
  ·rename_i hs;obtain⟨⟨h0,hi⟩,⟨v,hv,hn,hvl⟩,h3,h4⟩:=zER (by simpa using hs)
   have hmem:∀ u∈qO l i m,u∈l\/u=⟨v.name,v.type,[m]⟩:=by
     intro u hu;rw[Xv hv]at hu;exact(List.mem_or_eq_of_mem_set hu)
   refine⟨by rw[yw];exact h.len,fun k hk=>?_,fun u hu=>?_,fun u hu=>?_,zI2 h0 hi hv hn h.acy h4⟩
   ·rw[yw]at hk;have hk2:=h.ok k hk
    have e:(qO l i m)[k]? =if i.toNat=k then some ⟨v.name,v.type,[m]⟩else l[k]? :=by
      rw[Xv hv,List.getElem?_set];split
      ·rename_i e;subst e;simp[hk]
      ·rfl
    by_cases e2:i.toNat=k
    ·rw[if_pos e2]at e;subst e2;rw[List.getElem?_eq_getElem (by rw[yw];exact hk)]at e;rw[Option.some.inj e];rw[List.getElem?_eq_getElem hk]at hv;rw[<-Option.some.inj hv];exact hk2
    ·rw[if_neg e2,List.getElem?_eq_getElem (by rw[yw];exact hk),List.getElem?_eq_getElem hk]at e;rw[Option.some.inj e];exact hk2
   ·rw[yw];rcases hmem u hu with hu |rfl
    ·exact h.val u hu
    ·exact⟨by simp,fun x hx=>by obtain rfl:=List.mem_singleton.1 hx;exact h3⟩
   ·rcases hmem u hu with hu |rfl
    ·exact h.ar u hu
    ·exact⟨(h.ar v hvl).1,fun x hx=>by obtain rfl:=List.mem_singleton.1 hx;exact hm⟩
end
section
open Tm Go.Proofs.YthgmimncdjhgnaaGreatDoor
theorem zAd{l:List Mv}{t:Tm}(h:yg l t=0):t.wf=0/\(∀ i∈Tm.zM t,i<l.length)/\(xo l 16385 t 0).e=0:=by
  unfold yg at h;split at h
  ·rename_i h1;exact absurd h h1
  rename_i h1;split at h
  ·omega
  rename_i h2;refine⟨by simpa using h1,fun i hi=>?_,h⟩;simp only[List.any_eq_true,not_exists,not_and,decide_eq_true_eq]at h2;have:=h2 i hi;omega
end
end Go.LF
