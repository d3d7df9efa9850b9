/- xD as plain data, and what the functions of layer 5 compute of them. No program is in sight here. -/
import Derived.Below
import Derived.IntWalk
import Derived.MapKept
import Derived.Maps.Keyed
import Derived.RowKit
import Derived.WalkKit
namespace Go.LF
section
inductive Tm where
  |mk (kind:Int) (name:List UInt8) (index:Int) (args:List Tm)
namespace Tm
def kind:Tm->Int |mk k _ _ _=>k
def name:Tm->List UInt8 |mk _ n _ _=>n
def index:Tm->Int |mk _ _ i _=>i
def args:Tm->List Tm |mk _ _ _ l=>l
@[simp] theorem zAC(k n i l):kind (mk k n i l)=k:=rfl
@[simp] theorem zCE(k n i l):name (mk k n i l)=n:=rfl
@[simp] theorem zA2(k n i l):index (mk k n i l)=i:=rfl
@[simp] theorem ZR(k n i l):args (mk k n i l)=l:=rfl
theorem ind{P:Tm->Prop}(h:∀ k n i l,(∀ a∈l,P a)->P (mk k n i l))(t:Tm):P t:=
  Tm.rec (motive_1:=P) (motive_2:=fun l=>∀ a∈l,P a) (fun k n i l ih=>h k n i l ih) (by simp) (fun t ts h1 h2=>by simpa using⟨h1,h2⟩) t
mutual
def size:Tm->Nat
  |mk _ _ _ l=>zP l+1
def zP:List Tm->Nat
  | []=>0
  |t :: ts=>size t+zP ts
end
mutual
def depth:Tm->Nat
  |mk _ _ _ l=>zV l+1
def zV:List Tm->Nat
  | []=>0
  |t :: ts=>max (depth t) (zV ts)
end
@[simp] theorem zS(k n i l):size (mk k n i l)=zP l+1:=by rw[size]
@[simp] theorem yY(k n i l):depth (mk k n i l)=zV l+1:=by rw[depth]
theorem size_pos(t:Tm):0<t.size:=by cases t;simp
theorem xE(a b:List Tm):zP (a++b)=zP a+zP b:=by
  induction a with
  |nil=>simp[zP]
  |cons t ts ih=>simp[zP,ih];omega
theorem xj(a b:List Tm):zV (a++b)=max (zV a) (zV b):=by
  induction a with
  |nil=>simp[zV]
  |cons t ts ih=>simp[zV,ih]
theorem zO(l:List Tm):l.length<=zP l:=by
  induction l with
  |nil=>simp
  |cons t ts ih=>have:=size_pos t;simp only[zP,List.length_cons];omega
theorem zR{t:Tm}{l:List Tm}(h:t∈l):t.size<=zP l:=by
  induction l with
  |nil=>cases h
  |cons u us ih=>
   rcases List.mem_cons.1 h with rfl |h
   ·simp only[zP];omega
   ·have:=ih h;simp only[zP];omega
theorem yA{t:Tm}{l:List Tm}(h:t∈l):t.depth<=zV l:=by
  induction l with
  |nil=>cases h
  |cons u us ih=>
   rcases List.mem_cons.1 h with rfl |h
   ·simp only[zV];omega
   ·have:=ih h;simp only[zV];omega
theorem yT(t:Tm):t.depth<=t.size:=by
  induction t using ind with
  |h k n i l ih=>
   simp only[yY,zS,Nat.add_le_add_iff_right]
   induction l with
   |nil=>simp[zV]
   |cons t ts ih2=>
    have h1:=ih t (by simp)
    have h2:=ih2 (fun a ha=>ih a (by simp[ha]))
    simp[zV,zP];omega
theorem zo(l:List Tm):zV l<=zP l:=by
  have:=yT (mk 0 [] 0 l);simpa using this
theorem zl(l:List Tm)(j:Nat)(h:j<l.length):zP (l.take (j+1))=zP (l.take j)+l[j].size:=by
  rw[List.take_succ_eq_append_getElem h,xE];simp[zP]
theorem yh(l:List Tm)(j:Nat)(h:j<l.length):zV (l.take (j+1))=max (zV (l.take j)) l[j].depth:=by
  rw[List.take_succ_eq_append_getElem h,xj];simp[zV]
theorem zp(l:List Tm)(j:Nat):zP (l.take j)<=zP l:=by
  conv=>rhs;rw[<-List.take_append_drop j l,xE]
  omega
theorem yj(l:List Tm)(j:Nat):zV (l.take j)<=zV l:=by
  conv=>rhs;rw[<-List.take_append_drop j l,xj]
  omega
mutual
def wt:Tm->Nat
  |mk _ n _ l=>n.length+xJ l+1
def xJ:List Tm->Nat
  | []=>0
  |t :: ts=>wt t+xJ ts
end
@[simp] theorem yi(k n i l):wt (mk k n i l)=n.length+xJ l+1:=by rw[wt]
theorem xN{t:Tm}{l:List Tm}(h:t∈l):t.wt<=xJ l:=by
  induction l with
  |nil=>cases h
  |cons u us ih=>
   rcases List.mem_cons.1 h with rfl |h
   ·simp only[xJ];omega
   ·have:=ih h;simp only[xJ];omega
theorem qC(a b:List Tm):xJ (a++b)=xJ a+xJ b:=by
  induction a with
  |nil=>simp[xJ]
  |cons t ts ih=>simp[xJ,ih];omega
theorem zi(t:Tm):t.size<=t.wt:=by
  induction t using ind with
  |h k n i l ih=>
   simp only[yi,zS]
   have:zP l<=xJ l:=by
     induction l with
     |nil=>simp[zP]
     |cons t ts ih2=>
      have h1:=ih t (by simp)
      have h2:=ih2 (fun a ha=>ih a (by simp[ha]))
      simp only[zP,xJ];omega
   omega
theorem yu(l:List Tm):zP l<=xJ l:=by
  have:=zi (mk 0 [] 0 l)
  simp only[yi,zS,List.length_nil]at this;omega
mutual
def same:Tm->Tm->Bool
  |mk k n i l,mk k' n' i' l'=>k == k' && (i == i' && ((n == n' || (k == 2 || k == 3)) && xL l l'))
def xL:List Tm->List Tm->Bool
  | [],[]=>true
  |a :: as',b :: bs=>same a b && xL as' bs
  | [],_ :: _=>false
  |_ :: _,[]=>false
end
theorem qX:∀(l m:List Tm),xL l m=true->l.length=m.length
  | [],[],_=>rfl
  |_ :: as',_ :: bs,h=>by simp only[xL,Bool.and_eq_true]at h;simp[qX as' bs h.2]
theorem qF(l m:List Tm)(h:l.length≠m.length):xL l m=false:=by
  cases hs:xL l m with
  |false=>rfl
  |true=>exact absurd (qX l m hs) h
theorem zEo(l m:List Tm)(j:Nat)(h1:j<l.length)(h2:j<m.length):xL (l.take (j+1)) (m.take (j+1))=(xL (l.take j) (m.take j) && same l[j] m[j]):=by
  induction l generalizing m j with
  |nil=>simp at h1
  |cons a as' ih=>
   cases m with
   |nil=>simp at h2
   |cons b bs=>
    cases j with
    |zero=>simp[xL]
    |succ j=>
     have:=ih bs j (by simpa using h1) (by simpa using h2)
     simp only[List.take_succ_cons,xL,List.getElem_cons_succ,this,Bool.and_assoc]
theorem zDX(l m:List Tm)(j:Nat)(hl:l.length=m.length)(h1:j<l.length)(h:same l[j] (m[j]'(by omega))=false):xL l m=false:=by
  induction l generalizing m j with
  |nil=>simp at h1
  |cons a as' ih=>
   cases m with
   |nil=>simp at hl
   |cons b bs=>
    cases j with
    |zero=>simp only[List.getElem_cons_zero]at h;simp[xL,h]
    |succ j=>
     have:=ih bs j (by simpa using hl) (by simpa using h1) (by simpa using h)
     simp[xL,this]
theorem zFL(k n i l k' n' i' l'):same (mk k n i l) (mk k' n' i' l')=(k == k' && (i == i' && ((n == n' || (k == 2 || k == 3)) && xL l l'))):=by rw[same]
structure Nd0 where
  b:Int
  k:Int
  n:List UInt8
  i:Int
def under(k:Int)(j:Nat):Int:=if k=3\/(k=2/\j=1)then 1 else 0
mutual
def nodes(b:Int):Tm->List Nd0
  |mk k n i l=>⟨b,k,n,i⟩ :: za b k 0 l
def za(b k:Int)(j:Nat):List Tm->List Nd0
  | []=>[]
  |t :: ts=>nodes (b+under k j) t++za b k (j+1) ts
end
theorem zg(b k n i l):nodes b (mk k n i l)=⟨b,k,n,i⟩ :: za b k 0 l:=by rw[nodes]
theorem Xt(l:List Tm)(b k:Int)(j:Nat)(h:∀ t∈l,∀ b,(nodes b t).length=t.size):(za b k j l).length=zP l:=by
  induction l generalizing j with
  |nil=>simp[za,zP]
  |cons t ts ih=>simp[za,zP,h t (by simp),ih (j+1) (fun u hu=>h u (by simp[hu]))]
theorem ZL(t:Tm):∀ b,(nodes b t).length=t.size:=by
  induction t using ind with
  |h k n i l ih=>intro b;rw[zg];simp[Xt l b k 0 ih]
theorem Xw(l m:List Tm)(b k:Int)(j:Nat):za b k j (l++m)=za b k j l++za b k (j+l.length) m:=by
  induction l generalizing j with
  |nil=>simp[za]
  |cons t ts ih=>simp[za,ih (j+1),Nat.add_assoc,Nat.add_comm 1 ts.length]
theorem ZP(l:List Tm)(b k:Int)(j:Nat)(h:j<l.length):za b k 0 (l.take (j+1))=za b k 0 (l.take j)++nodes (b+under k j) l[j]:=by
  rw[List.take_succ_eq_append_getElem h,Xw]
  simp[za,Nat.min_eq_left (Nat.le_of_lt h)]
theorem xH(l:List Tm)(b k:Int)(j:Nat):za b k 0 (l.take j) <+: za b k 0 l:=by
  conv=>rhs;rw[<-List.take_append_drop j l,Xw]
  exact List.prefix_append _ _
theorem ym(k:Int)(j:Nat):0<=under k j/\under k j<=1:=by unfold under;split<;>omega
end Tm
end
section
def qW(c:UInt8):Bool:=c.toNat == 40 || c.toNat == 41 || c.toNat == 91 || c.toNat == 93 || c.toNat == 123 || c.toNat == 125 || c.toNat == 58 || c.toNat == 46
def yG(c:UInt8):Bool:=decide (33<=c.toNat) && (decide (c.toNat<=126) && (!qW c && c.toNat !=37))
def xi(s:List UInt8):Bool:=s == [45,62]|| s == [60,45]|| s == [61]|| s == [95]|| s == [116,121,112,101]
def isName(s:List UInt8):Bool:=!s.isEmpty && decide (s.length<=64) && s.all yG && !xi s && s.head? !=some 64
theorem Qh(c:UInt8)(r:List UInt8):isName (c :: r)=(decide (r.length+1<=64) && (yG c && r.all yG) && !xi (c :: r) && c.toNat !=64):=by
  have h:((c :: r).head? !=some 64)=(c.toNat !=64):=by
    rw[Bool.eq_iff_iff];simp[<-UInt8.toNat_inj]
  simp only[isName,h]
  simp
theorem zA8(c:UInt8)(r:List UInt8):isName (c :: r)=true↔r.length+1<=64/\(c :: r).all yG=true/\xi (c :: r)=false/\c.toNat≠64:=by
  rw[Qh];simp[and_assoc]
theorem yl(c:UInt8)(r:List UInt8):isName (c :: r)=false↔¬(r.length+1<=64/\(c :: r).all yG=true/\xi (c :: r)=false/\c.toNat≠64):=by
  rw[<-zA8];simp
theorem xg{α:Type}(p:α->Bool)(l:List α)(j:Nat)(h:j<l.length):(l.take (j+1)).all p=((l.take j).all p && p l[j]):=by
  rw[List.take_succ_eq_append_getElem h];simp only[List.all_append,List.all_cons,List.all_nil,Bool.and_true]
namespace Tm
def bound(n:List UInt8)(i:Int)(l:List Tm)(k:Nat):Bool:=i == 0 && l.length == k && (n == []|| n == [95]|| isName n)
mutual
def isObj:Tm->Bool
  |mk k n i l=>
   if k=3 then bound n i l 1 && zY l
   else if k=4 then isName n && i == 0 && zY l
   else if k=5 then n == [] && decide (0<=i) && decide (i<=1048576) && zY l
   else if k=6 then n == [] && decide (0<=i) && decide (i<2048) && zY l
   else false
def zY:List Tm->Bool
  | []=>true
  |t :: ts=>isObj t && zY ts
end
def isAtom:Tm->Bool |mk k n i l=>k == 4 && (isName n && i == 0 && zY l)
mutual
def zW:Tm->Bool
  |mk k n i l=>isAtom (mk k n i l)|| (k == 2 && (bound n i l 2 && yq l))
def yq:List Tm->Bool
  | []=>true
  |t :: ts=>zW t && yq ts
end
def zZ:Tm->Bool
  |mk k n i [a,b]=>k == 2 && (bound n i [a,b] 2 && (zW a && zZ b))
  |mk k n i l=>k == 1 && (n == [] && (i == 0 && l.isEmpty))
def small(t:Tm):Bool:=decide (t.size<=4096) && decide (t.depth<=128)
def wf(t:Tm):Int:=if !t.isObj && !t.zW && !t.zZ then 1 else if !t.small then 2 else 0
theorem yE(l:List Tm):zY l=l.all isObj:=by
  induction l with
  |nil=>rfl
  |cons t ts ih=>simp[zY,ih]
theorem YX(l:List Tm):yq l=l.all zW:=by
  induction l with
  |nil=>rfl
  |cons t ts ih=>simp[yq,ih]
end Tm
end
section
inductive Sm where
  |mk (fam:List UInt8) (args:List Sm)
namespace Sm
def fam:Sm->List UInt8 |mk f _=>f
def args:Sm->List Sm |mk _ l=>l
@[simp] theorem zJ7(f l):fam (mk f l)=f:=rfl
@[simp] theorem ZR(f l):args (mk f l)=l:=rfl
theorem ind{P:Sm->Prop}(h:∀ f l,(∀ a∈l,P a)->P (mk f l))(t:Sm):P t:=
  Sm.rec (motive_1:=P) (motive_2:=fun l=>∀ a∈l,P a) (fun f l ih=>h f l ih) (by simp) (fun t ts h1 h2=>by simpa using⟨h1,h2⟩) t
mutual
def size:Sm->Nat
  |mk _ l=>zP l+1
def zP:List Sm->Nat
  | []=>0
  |t :: ts=>size t+zP ts
end
mutual
def depth:Sm->Nat
  |mk _ l=>zV l+1
def zV:List Sm->Nat
  | []=>0
  |t :: ts=>max (depth t) (zV ts)
end
mutual
def wt:Sm->Nat
  |mk f l=>f.length+xJ l+1
def xJ:List Sm->Nat
  | []=>0
  |t :: ts=>wt t+xJ ts
end
@[simp] theorem zS(f l):size (mk f l)=zP l+1:=by rw[size]
@[simp] theorem yY(f l):depth (mk f l)=zV l+1:=by rw[depth]
@[simp] theorem yi(f l):wt (mk f l)=f.length+xJ l+1:=by rw[wt]
theorem size_pos(t:Sm):0<t.size:=by cases t;simp
theorem xE(a b:List Sm):zP (a++b)=zP a+zP b:=by
  induction a with
  |nil=>simp[zP]
  |cons t ts ih=>simp[zP,ih];omega
theorem xj(a b:List Sm):zV (a++b)=max (zV a) (zV b):=by
  induction a with
  |nil=>simp[zV]
  |cons t ts ih=>simp[zV,ih]
theorem qC(a b:List Sm):xJ (a++b)=xJ a+xJ b:=by
  induction a with
  |nil=>simp[xJ]
  |cons t ts ih=>simp[xJ,ih];omega
theorem zO(l:List Sm):l.length<=zP l:=by
  induction l with
  |nil=>simp
  |cons t ts ih=>have:=size_pos t;simp only[zP,List.length_cons];omega
theorem zR{t:Sm}{l:List Sm}(h:t∈l):t.size<=zP l:=by
  induction l with
  |nil=>cases h
  |cons u us ih=>
   rcases List.mem_cons.1 h with rfl |h
   ·simp only[zP];omega
   ·have:=ih h;simp only[zP];omega
theorem xN{t:Sm}{l:List Sm}(h:t∈l):t.wt<=xJ l:=by
  induction l with
  |nil=>cases h
  |cons u us ih=>
   rcases List.mem_cons.1 h with rfl |h
   ·simp only[xJ];omega
   ·have:=ih h;simp only[xJ];omega
theorem zi(t:Sm):t.size<=t.wt:=by
  induction t using ind with
  |h f l ih=>
   simp only[yi,zS]
   have:zP l<=xJ l:=by
     induction l with
     |nil=>simp[zP]
     |cons t ts ih2=>
      have h1:=ih t (by simp)
      have h2:=ih2 (fun a ha=>ih a (by simp[ha]))
      simp only[zP,xJ];omega
   omega
theorem yu(l:List Sm):zP l<=xJ l:=by
  have:=zi (mk [] l)
  simp only[yi,zS,List.length_nil]at this;omega
theorem yT(t:Sm):t.depth<=t.size:=by
  induction t using ind with
  |h f l ih=>
   simp only[yY,zS,Nat.add_le_add_iff_right]
   induction l with
   |nil=>simp[zV]
   |cons t ts ih2=>
    have h1:=ih t (by simp)
    have h2:=ih2 (fun a ha=>ih a (by simp[ha]))
    simp[zV,zP];omega
theorem zo(l:List Sm):zV l<=zP l:=by
  have:=yT (mk [] l);simpa using this
theorem zl(l:List Sm)(j:Nat)(h:j<l.length):zP (l.take (j+1))=zP (l.take j)+l[j].size:=by
  rw[List.take_succ_eq_append_getElem h,xE];simp[zP]
theorem yh(l:List Sm)(j:Nat)(h:j<l.length):zV (l.take (j+1))=max (zV (l.take j)) l[j].depth:=by
  rw[List.take_succ_eq_append_getElem h,xj];simp[zV]
theorem zp(l:List Sm)(j:Nat):zP (l.take j)<=zP l:=by
  conv=>rhs;rw[<-List.take_append_drop j l,xE]
  omega
theorem yj(l:List Sm)(j:Nat):zV (l.take j)<=zV l:=by
  conv=>rhs;rw[<-List.take_append_drop j l,xj]
  omega
def zD1(f:List UInt8):Bool:=f == [116,121,112,101]|| isName f
mutual
def form:Sm->Bool
  |mk f l=>zD1 f && YC l
def YC:List Sm->Bool
  | []=>true
  |t :: ts=>form t && YC ts
end
theorem zFs(f l):form (mk f l)=(zD1 f && YC l):=by rw[form]
theorem zGk(l:List Sm):YC l=l.all form:=by
  induction l with
  |nil=>rfl
  |cons t ts ih=>simp[YC,ih]
theorem zE0(l:List Sm)(j:Nat)(h:j<l.length):YC (l.drop j)=(form l[j] && YC (l.drop (j+1))):=by
  rw[List.drop_eq_getElem_cons h,YC]
def wf(s:Sm):Int:=if !s.form then 1 else if decide (4096<s.size)|| decide (128<s.depth)then 2 else 0
mutual
def lsz:Sm->Nat
  |mk _ l=>zCI (1+l.length) l
def zCI(n:Nat):List Sm->Nat
  | []=>n
  |t :: ts=>if n<=4096 then zCI (n+lsz t) ts else n
end
theorem zKC(f l):lsz (mk f l)=zCI (1+l.length) l:=by rw[lsz]
theorem zJZ(t:Sm):lsz t<=2 * size t - 1/\(lsz t<=4096->lsz t=2 * size t - 1):=by
  induction t using ind with
  |h f l ih=>
   have key:∀(l':List Sm),(∀ t∈l',lsz t<=2 * size t - 1/\(lsz t<=4096->lsz t=2 * size t - 1))->∀ n,n<=zCI n l'/\zCI n l'+l'.length<=n+2 * zP l'/\(zCI n l'<=4096->zCI n l'+l'.length=n+2 * zP l'):=by
     intro l'
     induction l' with
     |nil=>intro _ n;simp[zCI,zP]
     |cons t ts ih2=>
      intro h n
      have h1:=h t (by simp)
      have h0:=size_pos t
      obtain⟨a1,a2,a3⟩:=ih2 (fun t ht=>h t (by simp[ht])) (n+lsz t)
      have hl:=zO ts
      rw[zCI,zP,List.length_cons]
      split
      ·refine⟨by omega,by omega,fun hh=>?_⟩
       have:=a3 hh
       have:=h1.2 (by omega)
       omega
      ·refine⟨by omega,by omega,fun hh=>by omega⟩
   obtain⟨a1,a2,a3⟩:=key l ih (1+l.length)
   have hl:=zO l
   rw[zKC,zS]
   exact⟨by omega,fun hh=>by have:=a3 hh;omega⟩
mutual
def same:Sm->Sm->Bool
  |mk f l,mk f' l'=>f == f' && xL l l'
def xL:List Sm->List Sm->Bool
  | [],[]=>true
  |a :: as',b :: bs=>same a b && xL as' bs
  | [],_ :: _=>false
  |_ :: _,[]=>false
end
end Sm
namespace Tm
def zD6:Nat->Tm->Tm
  |0,t=>t
  |n+1,t=>zD6 n (mk 3 [] 0 [t])
def more(h:Tm)(ts:List Tm):Tm:=mk h.kind h.name h.index (h.args++ts)
mutual
def xp(h:Tm):Sm->Tm
  | .mk _ l=>zD6 l.length (more h (xpA ((l.length:Int) - 1) l))
def xpA(m:Int):List Sm->List Tm
  | []=>[]
  |a :: as'=>xp (mk 5 [] (m+a.args.length) []) a :: xpA (m - 1) as'
end
theorem zHO(h:Tm)(f l):xp h (.mk f l)=zD6 l.length (more h (xpA ((l.length:Int) - 1) l)):=by rw[xp]
theorem zF5(n:Nat)(t:Tm):(zD6 n t).size=t.size+n:=by
  induction n generalizing t with
  |zero=>rfl
  |succ n ih=>rw[zD6,ih];simp[zP];omega
theorem zIW(n:Nat)(t:Tm):(zD6 n t).wt=t.wt+n:=by
  induction n generalizing t with
  |zero=>rfl
  |succ n ih=>rw[zD6,ih];simp[xJ];omega
theorem zHv(n:Nat)(t:Tm)(h:t.isObj=true):(zD6 n t).isObj=true:=by
  induction n generalizing t with
  |zero=>exact h
  |succ n ih=>exact ih _ (by rw[isObj,if_pos rfl];simp[bound,zY,h])
theorem zGj(h:Tm)(ts:List Tm):(more h ts).size=h.size+zP ts:=by
  cases h;simp[more,xE];omega
theorem zIk(h:Tm)(ts:List Tm):(more h ts).wt=h.wt+xJ ts:=by
  cases h;simp[more,qC];omega
theorem zKn(s:Sm):∀ h:Tm,(xp h s).size+2=h.size+2 * s.size:=by
  induction s using Sm.ind with
  |h f l ih=>
   intro h
   have key:∀(l':List Sm),(∀ s∈l',∀ h:Tm,(xp h s).size+2=h.size+2 * s.size)->∀ m,zP (xpA m l')+l'.length=2 * Sm.zP l':=by
     intro l'
     induction l' with
     |nil=>intro _ m;simp[xpA,zP,Sm.zP]
     |cons t ts ih2=>
      intro h m
      have h1:=h t (by simp) (mk 5 [] (m+t.args.length) [])
      have h2:=ih2 (fun t ht=>h t (by simp[ht])) (m - 1)
      simp only[xpA,zP,Sm.zP,List.length_cons]
      simp[zP]at h1
      omega
   have:=key l ih ((l.length:Int) - 1)
   rw[zHO,zF5,zGj,Sm.zS]
   omega
theorem zK9(s:Sm):∀ h:Tm,(xp h s).wt+2=h.wt+2 * s.size:=by
  induction s using Sm.ind with
  |h f l ih=>
   intro h
   have key:∀(l':List Sm),(∀ s∈l',∀ h:Tm,(xp h s).wt+2=h.wt+2 * s.size)->∀ m,xJ (xpA m l')+l'.length=2 * Sm.zP l':=by
     intro l'
     induction l' with
     |nil=>intro _ m;simp[xpA,xJ,Sm.zP]
     |cons t ts ih2=>
      intro h m
      have h1:=h t (by simp) (mk 5 [] (m+t.args.length) [])
      have h2:=ih2 (fun t ht=>h t (by simp[ht])) (m - 1)
      simp only[xpA,xJ,Sm.zP,List.length_cons]
      simp[xJ]at h1
      omega
   have:=key l ih ((l.length:Int) - 1)
   rw[zHO,zIW,zIk,Sm.zS]
   omega
theorem zG6(h:Tm)(ts:List Tm)(ho:h.isObj=true)(hk:h.kind≠3)(hts:zY ts=true):(more h ts).isObj=true:=by
  cases h with
  |mk k n i l=>
   have ha:∀ l:List Tm,zY (l++ts)=(zY l && zY ts):=fun l=>by simp[yE]
   have hk':¬k=3:=hk
   have e:more (mk k n i l) ts=mk k n i (l++ts):=rfl
   rw[e,isObj]
   rw[isObj]at ho
   rw[if_neg hk']at ho ⊢
   simp only[ha,hts,Bool.and_true]
   exact ho
theorem zKv(s:Sm):∀ h:Tm,h.isObj=true->h.kind≠3->s.size<=500000->(xp h s).isObj=true:=by
  induction s using Sm.ind with
  |h f l ih=>
   intro h ho hk hs
   rw[Sm.zS]at hs
   have hl:=Sm.zO l
   have key:∀(l':List Sm),(∀ s∈l',∀ h:Tm,h.isObj=true->h.kind≠3->s.size<=500000->(xp h s).isObj=true)->Sm.zP l'<=500000->∀ m:Int,(l'.length:Int)<=m+1->m<=500000->zY (xpA m l')=true:=by
     intro l'
     induction l' with
     |nil=>intro _ _ m _ _;simp[xpA,zY]
     |cons t ts ih2=>
      intro h hs m h0 h1
      rw[Sm.zP]at hs
      rw[List.length_cons]at h0
      have hlt:(t.args.length:Int)<=500000:=by
        cases t with
        |mk f' l''=>have:=Sm.zO l'';rw[Sm.zS]at hs;simp only[Sm.ZR];omega
      rw[xpA,zY,ih2 (fun t ht=>h t (by simp[ht])) (by omega) (m - 1) (by omega) (by omega),Bool.and_true]
      refine h t (by simp) _ ?_ (by simp) (by omega)
      rw[isObj]
      simp[zY]
      omega
   rw[zHO]
   exact zHv _ _ (zG6 _ _ ho hk (key l ih (by omega) _ (by omega) (by omega)))
end Tm
end
section
inductive yz where
  |int (k:IntKind) (n:Int)
  |bool (b:Bool)
  |str (s:ByteArray)
  |st (fs:List yz)
  |seq (wd:Nat) (xs:List yz)
structure zD(S:Nat->Prop)(w w':World):Prop where
  os:w'.os=w.os
  tape:w'.tape=w.tape
  output:w'.output=w.output
  size:w.heap.size<=w'.heap.size
  block:∀ k,k<w.heap.size->¬S k->w'.heap[k]? =w.heap[k]?
abbrev zC:Nat->Prop:=fun _=>False
theorem XB(w:World)(o:Obj)(b:Nat)(h:b<w.heap.size):(w.alloc o).heap[b]? =w.heap[b]? :=RowKit.Below.heap_alloc _ _ _ h
theorem zD.refl(S:Nat->Prop)(w:World):zD S w w:=⟨rfl,rfl,rfl,Nat.le_refl _,fun _ _ _=>rfl⟩
theorem zD.trans{S S':Nat->Prop}{a b c:World}(h:zD S a b)(k:zD S' b c)(hs:∀ i,i<a.heap.size->S' i->S i):zD S a c:=
  ⟨k.os.trans h.os,k.tape.trans h.tape,k.output.trans h.output,Nat.le_trans h.size k.size,
    fun i hi hn=>(k.block i (Nat.lt_of_lt_of_le hi h.size) (fun x=>hn (hs i hi x))).trans (h.block i hi hn)⟩
theorem zD.mono{S S':Nat->Prop}{a b:World}(h:zD S a b)(hs:∀ i,i<a.heap.size->S i->S' i):zD S' a b:=
  ⟨h.os,h.tape,h.output,h.size,fun i hi hn=>h.block i hi (fun x=>hn (hs i hi x))⟩
theorem zD.drew{S:Nat->Prop}{a w:World}(h:zD S a w):zD S a w.drew:=⟨h.os,h.tape,h.output,h.size,h.block⟩
theorem zD.alloc{S:Nat->Prop}{a w:World}(h:zD S a w)(o:Obj):zD S a (w.alloc o):=
  h.trans (S':=zC) ⟨rfl,rfl,rfl,by simp,fun k hk _=>RowKit.Below.heap_alloc _ _ _ hk⟩ (fun _ _ x=>x.elim)
theorem zD.setCell{S:Nat->Prop}{a w:World}(h:zD S a w){p:Addr}(hp:p.block<a.heap.size->S p.block)(u:Value):zD S a (w.setCell p u):=
  h.trans (S':=fun k=>k=p.block) ⟨rfl,rfl,rfl,by simp[World.setCell],fun k _ hk=>RowKit.Below.heap_setCell _ _ _ _ hk⟩ (fun i hi e=>by subst e;exact hp hi)
theorem zD.below{B:Nat}{w w':World}(h:zD (fun k=>B<=k) w w')(hB:B<=w.heap.size):RowKit.Below B w w':=
  ⟨h.os,h.tape,h.output,h.size,fun k hk=>h.block k (by omega) (by omega)⟩
theorem zD.Y6{S:Nat->Prop}{w w':World}(h:RowKit.Below w.heap.size w w'):zD S w w':=
  ⟨h.os,h.tape,h.output,h.size,fun k hk _=>h.block k hk⟩
theorem zD.cell{S:Nat->Prop}{w w':World}(h:zD S w w'){a:Addr}{v:Value}(hc:w.cell? a=some v)(hs:¬S a.block):w'.cell? a=some v:=
  (World.cell?_of_block (h.block _ (World.block_lt_of_cell? w a hc) hs)).trans hc
mutual
def zM(O:Nat->Prop)(w:World):yz->List Value->Prop
  | .int k n,cs=>cs=[.int k n]
  | .bool b,cs=>cs=[.bool b]
  | .str s,cs=>cs=[.string s]
  | .st fs,cs=>xS O w fs cs
  | .seq wd xs,cs=>∃ a cap,cs=[.slice a xs.length cap]/\xs.length<=cap/\zG O w wd xs a 0
def xS(O:Nat->Prop)(w:World):List yz->List Value->Prop
  | [],cs=>cs=[]
  |d :: ds,cs=>∃ c1 c2,cs=c1++c2/\zM O w d c1/\xS O w ds c2
def zG(O:Nat->Prop)(w:World)(wd:Nat):List yz->Option Addr->Nat->Prop
  | [],_,_=>True
  |d :: ds,a,j=>(∃ b o cs,a=some ⟨b,o,none⟩/\b<w.heap.size/\¬O b/\cs.length=wd/\(∀ i v,cs[i]? =some v->w.cell? ⟨b,o+j+i,none⟩=some v)/\zM O w d cs)/\
     zG O w wd ds a (j+wd)
end
def Y0(O:Nat->Prop)(w w':World):Prop:=w.heap.size<=w'.heap.size/\∀ b o v,¬O b->w.cell? ⟨b,o,none⟩=some v->w'.cell? ⟨b,o,none⟩=some v
theorem zD.cel{O S:Nat->Prop}{w w':World}(h:zD S w w')(hs:∀ k,S k->O k):Y0 O w w':=⟨h.size,fun _ _ _ hb hv=>h.cell hv (fun x=>hb (hs _ x))⟩
theorem Y0.trans{O:Nat->Prop}{a b c:World}(h:Y0 O a b)(k:Y0 O b c):Y0 O a c:=⟨Nat.le_trans h.1 k.1,fun x o v hx hv=>k.2 x o v hx (h.2 x o v hx hv)⟩
mutual
theorem zM.carry{O:Nat->Prop}{w w':World}(h:Y0 O w w'):∀(d:yz)(cs:List Value),zM O w d cs->zM O w' d cs
  | .int _ _,_,r=>by simpa only[zM]using r
  | .bool _,_,r=>by simpa only[zM]using r
  | .str _,_,r=>by simpa only[zM]using r
  | .st fs,cs,r=>by simp only[zM]at r ⊢;exact xS.carry h fs cs r
  | .seq wd xs,cs,r=>by
      simp only[zM]at r ⊢
      obtain⟨a,cap,h1,h2,h3⟩:=r
      exact⟨a,cap,h1,h2,zG.carry h wd xs a 0 h3⟩
theorem xS.carry{O:Nat->Prop}{w w':World}(h:Y0 O w w'):∀(ds:List yz)(cs:List Value),xS O w ds cs->xS O w' ds cs
  | [],_,r=>by simpa only[xS]using r
  |d :: ds,cs,r=>by
     simp only[xS]at r ⊢
     obtain⟨c1,c2,h1,h2,h3⟩:=r
     exact⟨c1,c2,h1,zM.carry h d c1 h2,xS.carry h ds c2 h3⟩
theorem zG.carry{O:Nat->Prop}{w w':World}(h:Y0 O w w')(wd:Nat):∀(ds:List yz)(a:Option Addr)(j:Nat),zG O w wd ds a j->zG O w' wd ds a j
  | [],_,_,_=>by simp only[zG]
  |d :: ds,a,j,r=>by
     simp only[zG]at r ⊢
     obtain⟨⟨b,o,cs,h1,hb,h2,h3,h4,h5⟩,h6⟩:=r
     exact⟨⟨b,o,cs,h1,Nat.lt_of_lt_of_le hb h.1,h2,h3,fun i v hv=>h.2 _ _ _ h2 (h4 i v hv),zM.carry h d cs h5⟩,zG.carry h wd ds a _ h6⟩
end
theorem zM.zF{O S:Nat->Prop}{w w':World}(h:zD S w w')(hs:∀ k,S k->O k)(d:yz)(cs:List Value)(r:zM O w d cs):zM O w' d cs:=zM.carry (h.cel hs) d cs r
theorem zG.zF{O S:Nat->Prop}{w w':World}(h:zD S w w')(hs:∀ k,S k->O k)(wd:Nat)(ds:List yz)(a:Option Addr)(j:Nat)(r:zG O w wd ds a j):zG O w' wd ds a j:=zG.carry (h.cel hs) wd ds a j r
mutual
theorem zM.weaken{O O':Nat->Prop}{w:World}(hs:∀ k,k<w.heap.size->O' k->O k):∀(d:yz)(cs:List Value),zM O w d cs->zM O' w d cs
  | .int _ _,_,r=>by simpa only[zM]using r
  | .bool _,_,r=>by simpa only[zM]using r
  | .str _,_,r=>by simpa only[zM]using r
  | .st fs,cs,r=>by simp only[zM]at r ⊢;exact xS.weaken hs fs cs r
  | .seq wd xs,cs,r=>by
      simp only[zM]at r ⊢
      obtain⟨a,cap,h1,h2,h3⟩:=r
      exact⟨a,cap,h1,h2,zG.weaken hs wd xs a 0 h3⟩
theorem xS.weaken{O O':Nat->Prop}{w:World}(hs:∀ k,k<w.heap.size->O' k->O k):∀(ds:List yz)(cs:List Value),xS O w ds cs->xS O' w ds cs
  | [],_,r=>by simpa only[xS]using r
  |d :: ds,cs,r=>by
     simp only[xS]at r ⊢
     obtain⟨c1,c2,h1,h2,h3⟩:=r
     exact⟨c1,c2,h1,zM.weaken hs d c1 h2,xS.weaken hs ds c2 h3⟩
theorem zG.weaken{O O':Nat->Prop}{w:World}(hs:∀ k,k<w.heap.size->O' k->O k)(wd:Nat):∀(ds:List yz)(a:Option Addr)(j:Nat),zG O w wd ds a j->zG O' w wd ds a j
  | [],_,_,_=>by simp only[zG]
  |d :: ds,a,j,r=>by
     simp only[zG]at r ⊢
     obtain⟨⟨b,o,cs,h1,hb,h2,h3,h4,h5⟩,h6⟩:=r
     exact⟨⟨b,o,cs,h1,hb,fun x=>h2 (hs _ hb x),h3,h4,zM.weaken hs d cs h5⟩,zG.weaken hs wd ds a _ h6⟩
end
theorem zG.get{O:Nat->Prop}{w:World}{wd:Nat}:∀{xs:List yz}{a:Option Addr}{j:Nat},zG O w wd xs a j->∀ i(h:i<xs.length),
    ∃ b o cs,a=some ⟨b,o,none⟩/\b<w.heap.size/\¬O b/\cs.length=wd/\(∀ m v,cs[m]? =some v->w.cell? ⟨b,o+j+i * wd+m,none⟩=some v)/\zM O w xs[i] cs:=by
  intro xs
  induction xs with
  |nil=>intro a j _ i h;simp at h
  |cons d ds ih=>
   intro a j r i h
   simp only[zG]at r
   obtain⟨⟨b,o,cs,h1,hb,h2,h3,h4,h5⟩,h6⟩:=r
   cases i with
   |zero=>exact⟨b,o,cs,h1,hb,h2,h3,by simpa using h4,h5⟩
   |succ i=>
    obtain⟨b',o',cs',g1,gb,g2,g3,g4,g5⟩:=ih h6 i (by simpa using h)
    refine⟨b',o',cs',g1,gb,g2,g3,?_,g5⟩
    intro m v hm
    have:=g4 m v hm
    rw[Nat.add_mul,Nat.one_mul]
    rw[show o'+j+(i * wd+wd)+m=o'+(j+wd)+i * wd+m from by omega]
    exact this
abbrev B(l:List UInt8):ByteArray:=⟨l.toArray⟩
theorem zCm(l:List UInt8):(B l).size=l.length:=rfl
namespace Tm
mutual
def zN:Tm->yz
  |mk k n i as=>.st [.int .i64 k,.str (B n),.int .i64 i,.seq 4 (zC0 as)]
def zC0:List Tm->List yz
  | []=>[]
  |t :: ts=>zN t :: zC0 ts
end
theorem zCc(l:List Tm):zC0 l=l.map zN:=by
  induction l with
  |nil=>rfl
  |cons t ts ih=>simp[zC0,ih]
end Tm
theorem zk{O:Nat->Prop}{w:World}{k:Int}{n:List UInt8}{i:Int}{as:List Tm}{cs:List Value}:
    zM O w (Tm.mk k n i as).zN cs↔∃ a cap,cs=[.int .i64 k,.string (B n),.int .i64 i,.slice a as.length cap]/\as.length<=cap/\zG O w 4 (as.map Tm.zN) a 0:=by
  simp only[Tm.zN,zM,xS,Tm.zCc]
  constructor
  ·rintro⟨c1,c2,rfl,rfl,c3,c4,rfl,rfl,c5,c6,rfl,rfl,c7,c8,rfl,⟨a,cap,rfl,h1,h2⟩,rfl⟩
   exact⟨a,cap,by simp,by simpa using h1,h2⟩
  ·rintro⟨a,cap,rfl,h1,h2⟩
   exact⟨[_],[_,_,_],rfl,rfl,[_],[_,_],rfl,rfl,[_],[_],rfl,rfl,[.slice a as.length cap],[],rfl,⟨a,cap,by simp,by simpa using h1,h2⟩,rfl⟩
theorem zd{O:Nat->Prop}{w:World}{as:List Tm}{a:Option Addr}(h:zG O w 4 (as.map Tm.zN) a 0)(i:Nat)(hi:i<as.length):
    ∃ b o k n x s c,a=some ⟨b,o,none⟩/\b<w.heap.size/\¬O b/\
      w.cell? ⟨b,o+i * 4,none⟩=some (.int .i64 k)/\w.cell? ⟨b,o+i * 4+1,none⟩=some (.string (B n))/\
      w.cell? ⟨b,o+i * 4+2,none⟩=some (.int .i64 x)/\w.cell? ⟨b,o+i * 4+3,none⟩=some (.slice s as[i].args.length c)/\
      zM O w as[i].zN [.int .i64 k,.string (B n),.int .i64 x,.slice s as[i].args.length c]:=by
  obtain⟨b,o,cs,h1,hb,h2,h3,h4,h5⟩:=h.get i (by simpa using hi)
  simp only[List.getElem_map]at h5
  cases hx:as[i]with
  |mk k n x bs=>
   rw[hx]at h5
   obtain⟨s,c,rfl,g1,g2⟩:=zk.1 h5
   refine⟨b,o,k,n,x,s,c,h1,hb,h2,?_,?_,?_,?_,h5⟩
   ·simpa using h4 0 _ rfl
   ·simpa using h4 1 _ rfl
   ·simpa using h4 2 _ rfl
   ·simpa[Tm.args]using h4 3 _ rfl
theorem Y0.cell{O:Nat->Prop}{w w':World}(h:Y0 O w w'){b o:Nat}{v:Value}(hb:¬O b)(hv:w.cell? ⟨b,o,none⟩=some v):w'.cell? ⟨b,o,none⟩=some v:=h.2 b o v hb hv
theorem Y0.refl(O:Nat->Prop)(w:World):Y0 O w w:=⟨Nat.le_refl _,fun _ _ _ _ h=>h⟩
theorem Y0.alloc{O:Nat->Prop}{a w:World}(h:Y0 O a w)(o:Obj):Y0 O a (w.alloc o):=h.trans (((zD.refl zC w).alloc o).cel (fun _ x=>x.elim))
theorem Y0.qe{O:Nat->Prop}{w w':World}{c0 c1 c2 c3:Value}{T:TypeId}(h:Y0 O (w.alloc (.cells #[c0,c1,c2,c3] T)) w')(hb:¬O w.heap.size):
    w'.cell? ⟨w.heap.size,0,none⟩=some c0/\w'.cell? ⟨w.heap.size,1,none⟩=some c1/\w'.cell? ⟨w.heap.size,2,none⟩=some c2/\w'.cell? ⟨w.heap.size,3,none⟩=some c3:=by
  refine⟨h.cell hb ?_,h.cell hb ?_,h.cell hb ?_,h.cell hb ?_⟩<;>rw[World.cell?_alloc_new]<;>rfl
theorem zD.behind{S:Nat->Prop}{w w':World}{o:Obj}(h:zD S (w.alloc o) w')(hs:∀ k,k<w.heap.size->S k->zC k:=by exact fun _ _ x=>x):zD zC w w':=
  ((zD.refl zC w).alloc o).trans h hs
theorem zD.cells{S:Nat->Prop}{W w1:World}(hb:zD S W w1):
    (∀ b o,b<W.heap.size->¬S b->w1.cell? ⟨b,o,none⟩=W.cell? ⟨b,o,none⟩)/\(∀ b o,b<W.heap.size->¬S b->w1.frozen? ⟨b,o,none⟩=W.frozen? ⟨b,o,none⟩):=
  ⟨fun b _ h n=>World.cell?_of_block (hb.block b h n),fun b _ h n=>World.frozen?_of_block (hb.block b h n)⟩
theorem zD.zCq{W w1:World}(hb:zD zC W w1):
    (∀ b o,b<W.heap.size->w1.cell? ⟨b,o,none⟩=W.cell? ⟨b,o,none⟩)/\(∀ b o,b<W.heap.size->w1.frozen? ⟨b,o,none⟩=W.frozen? ⟨b,o,none⟩):=
  ⟨fun b _ h=>World.cell?_of_block (hb.block b h (fun x=>x)),fun b _ h=>World.frozen?_of_block (hb.block b h (fun x=>x))⟩
theorem zM.on{O:Nat->Prop}{w w':World}{d:yz}{cs:List Value}(r:zM O w d cs)(h:zD zC w w'):zM O w' d cs:=zM.zF h (fun _ x=>x.elim) d cs r
theorem zG.cel{O:Nat->Prop}{w w':World}{wd:Nat}{ds:List yz}{a:Option Addr}{j:Nat}(r:zG O w wd ds a j)(h:Y0 O w w'):zG O w' wd ds a j:=zG.carry h wd ds a j r
theorem zG.on{O:Nat->Prop}{w w':World}{wd:Nat}{ds:List yz}{a:Option Addr}{j:Nat}(r:zG O w wd ds a j)(h:zD zC w w'):zG O w' wd ds a j:=zG.zF h (fun _ x=>x.elim) wd ds a j r
theorem zM.new{O:Nat->Prop}{w:World}{d:yz}{cs:List Value}(r:zM O w d cs)(o:Obj):zM O (w.alloc o) d cs:=r.on ((zD.refl _ w).alloc o)
theorem zH{p:Prop}(h:p):RowKit.Hid p:=h
mutual
theorem zM.zQ{O:Nat->Prop}{w:World}:∀(d:yz)(cs:List Value),zM O w d cs->zM (fun b=>O b\/w.heap.size<=b) w d cs
  | .int _ _,_,r=>by simpa only[zM]using r
  | .bool _,_,r=>by simpa only[zM]using r
  | .str _,_,r=>by simpa only[zM]using r
  | .st fs,cs,r=>by simp only[zM]at r ⊢;exact xS.zQ fs cs r
  | .seq wd xs,cs,r=>by
      simp only[zM]at r ⊢
      obtain⟨a,cap,h1,h2,h3⟩:=r
      exact⟨a,cap,h1,h2,zG.zQ wd xs a 0 h3⟩
theorem xS.zQ{O:Nat->Prop}{w:World}:∀(ds:List yz)(cs:List Value),xS O w ds cs->xS (fun b=>O b\/w.heap.size<=b) w ds cs
  | [],_,r=>by simpa only[xS]using r
  |d :: ds,cs,r=>by
     simp only[xS]at r ⊢
     obtain⟨c1,c2,h1,h2,h3⟩:=r
     exact⟨c1,c2,h1,zM.zQ d c1 h2,xS.zQ ds c2 h3⟩
theorem zG.zQ{O:Nat->Prop}{w:World}(wd:Nat):∀(ds:List yz)(a:Option Addr)(j:Nat),zG O w wd ds a j->zG (fun b=>O b\/w.heap.size<=b) w wd ds a j
  | [],_,_,_=>by simp only[zG]
  |d :: ds,a,j,r=>by
     simp only[zG]at r ⊢
     obtain⟨⟨b,o,cs,h1,hb,h2,h3,h4,h5⟩,h6⟩:=r
     exact⟨⟨b,o,cs,h1,hb,fun x=>x.elim h2 (fun y=>by omega),h3,h4,zM.zQ d cs h5⟩,zG.zQ wd ds a _ h6⟩
end
theorem zM.fresh{O:Nat->Prop}{w:World}{d:yz}{cs:List Value}(r:zM O w d cs):zM (fun b=>w.heap.size<=b) w d cs:=zM.weaken (fun _ _ h=>.inr h) d cs (zM.zQ d cs r)
theorem zM.xZ{O:Nat->Prop}{w:World}{d:yz}{cs:List Value}(r:zM O w d cs):zM (fun b=>O b\/w.heap.size<=b) w d cs:=zM.zQ d cs r
theorem zb{k:IntKind}{a b:Int}(h:a=b):Ending.returned (.int k a)=.returned (.int k b):=by rw[h]
theorem zU{a b:Bool}(h:a=b):Ending.returned (.bool a)=.returned (.bool b):=by rw[h]
theorem int_eq{k:IntKind}{a b:Int}(h:a=b):Value.int k a=.int k b:=by rw[h]
end
section
theorem zEr{W w':World}{b:Nat}{c0 c1 c2 c3:Value}(hU:zD zC W w')
    (h:W.cell? ⟨b,0,none⟩=some c0/\W.cell? ⟨b,1,none⟩=some c1/\W.cell? ⟨b,2,none⟩=some c2/\W.cell? ⟨b,3,none⟩=some c3):
    w'.cell? ⟨b,0,none⟩=some c0/\w'.cell? ⟨b,1,none⟩=some c1/\w'.cell? ⟨b,2,none⟩=some c2/\w'.cell? ⟨b,3,none⟩=some c3:=
  ⟨hU.cell h.1 (fun x=>x),hU.cell h.2.1 (fun x=>x),hU.cell h.2.2.1 (fun x=>x),hU.cell h.2.2.2 (fun x=>x)⟩
theorem zv{w w1:World}{c0 c1 c2 c3:Value}{T:TypeId}(hU:zD zC (w.alloc (.cells #[c0,c1,c2,c3] T)) w1):
    w1.cell? ⟨w.heap.size,0,none⟩=some c0/\w1.cell? ⟨w.heap.size,1,none⟩=some c1/\w1.cell? ⟨w.heap.size,2,none⟩=some c2/\w1.cell? ⟨w.heap.size,3,none⟩=some c3:=
  (hU.cel (O:=zC) (fun _ x=>x)).qe (fun x=>x)
theorem zD.and{a b c:World}(h:zD zC a b)(k:zD zC b c):zD zC a c:=h.trans k (fun _ _ x=>x)
theorem zX{O:Nat->Prop}{w:World}{t:Tm}{cs:List Value}(h:zM O w t.zN cs):
    ∃ k n i ts a cap,t=.mk k n i ts/\cs=[.int .i64 k,.string (B n),.int .i64 i,.slice a ts.length cap]/\ts.length<=cap/\zG O w 4 (ts.map Tm.zN) a 0:=by
  cases t with
  |mk k n i ts=>
   obtain⟨a,cap,h1,h2,h3⟩:=zk.1 h
   exact⟨k,n,i,ts,a,cap,rfl,h1,h2,h3⟩
theorem YV(k:Int)(j:Nat):((k == 3)=true/\Tm.under k j=1)\/((k == 3)=false/\(k == 2)=true/\((j:Int) == 1)=true/\Tm.under k j=1)\/
    ((k == 3)=false/\(k == 2)=true/\((j:Int) == 1)=false/\Tm.under k j=0)\/((k == 3)=false/\(k == 2)=false/\Tm.under k j=0):=by
  unfold Tm.under
  by_cases h3:k=3
  ·left;simp[h3]
  by_cases h2:k=2
  ·by_cases h1:j=1
   ·right;left;simp[h2,h1]
   ·right;right;left;simp[h2,h1];omega
  ·right;right;right;simp[h3,h2]
theorem zD.Zy{w w':World}{o:Obj}(h:zD zC (w.alloc o) w'):zD zC w w':=((zD.refl zC w).alloc o).and h
end
section
open Go.RowKit
def yf(O:World->Nat->Prop)(w w':World):Prop:=w.heap.size<=w'.heap.size/\∀ b,b<w.heap.size->¬O w b->¬O w' b/\∀ o v,w.cell? ⟨b,o,none⟩=some v->w'.cell? ⟨b,o,none⟩=some v
def At(O:World->Nat->Prop)(w:World)(b o:Nat)(v:Value):Prop:=¬O w b/\w.cell? ⟨b,o,none⟩=some v
structure Y9(O:World->Nat->Prop)(H0:Nat)(Ts:TypeId->Prop):Prop where
  new:∀(W:World)(cs:Array Value)(T:TypeId),Ts T->H0<=W.heap.size->¬O (W.alloc (.cells cs T)) W.heap.size
  old:∀(W:World)(o:Obj)(b:Nat),b<W.heap.size->¬O W b->¬O (W.alloc o) b
section
variable {O:World->Nat->Prop}{H0:Nat}{Ts:TypeId->Prop}{w w' a b c:World}
theorem yf.refl(O:World->Nat->Prop)(w:World):yf O w w:=⟨Nat.le_refl _,fun _ _ h=>⟨h,fun _ _ h'=>h'⟩⟩
theorem yf.trans{A B C:World}(h:yf O A B)(k:yf O B C):yf O A C:=⟨Nat.le_trans h.1 k.1,fun x hx hn=>⟨(k.2 x (Nat.lt_of_lt_of_le hx h.1) (h.2 x hx hn).1).1,fun o v hv=>(k.2 x (Nat.lt_of_lt_of_le hx h.1) (h.2 x hx hn).1).2 o v ((h.2 x hx hn).2 o v hv)⟩⟩
theorem yf.at{x o:Nat}{v:Value}(h:yf O w w')(ha:At O w x o v):At O w' x o v:=by
  have:=h.2 x (by simpa using World.block_lt_of_cell? w _ ha.2) ha.1
  exact⟨this.1,this.2 o v ha.2⟩
theorem yf.Zn(F:Y9 O H0 Ts)(w:World)(o:Obj):yf O w (w.alloc o):=by
  exact⟨by simp,fun x hl hx=>⟨F.old w o x hl hx,fun off v hv=>((zD.refl zC w).alloc o).cell hv (fun x=>x)⟩⟩
theorem Y9.qe(F:Y9 O H0 Ts){T:TypeId}(hT:Ts T){W w':World}(hH:H0<=W.heap.size){c0 c1 c2 c3:Value}(h:yf O (W.alloc (.cells #[c0,c1,c2,c3] T)) w'):
    At O w' W.heap.size 0 c0/\At O w' W.heap.size 1 c1/\At O w' W.heap.size 2 c2/\At O w' W.heap.size 3 c3:=by
  have hn:=F.new W #[c0,c1,c2,c3] T hT hH
  have bb:=(Y0.refl zC (W.alloc (.cells #[c0,c1,c2,c3] T))).qe (fun x=>x)
  exact⟨h.at ⟨hn,bb.1⟩,h.at ⟨hn,bb.2.1⟩,h.at ⟨hn,bb.2.2.1⟩,h.at ⟨hn,bb.2.2.2⟩⟩
mutual
theorem zM.ZQ(h:yf O w w'):∀(d:yz)(cs:List Value),zM (O w) w d cs->zM (O w') w' d cs
  | .int _ _,_,r=>by simpa only[zM]using r
  | .bool _,_,r=>by simpa only[zM]using r
  | .str _,_,r=>by simpa only[zM]using r
  | .st fs,cs,r=>by simp only[zM]at r ⊢;exact xS.ZQ h fs cs r
  | .seq wd xs,cs,r=>by
      simp only[zM]at r ⊢
      obtain⟨a,cap,h1,h2,h3⟩:=r
      exact⟨a,cap,h1,h2,zG.ZQ h wd xs a 0 h3⟩
theorem xS.ZQ(h:yf O w w'):∀(ds:List yz)(cs:List Value),xS (O w) w ds cs->xS (O w') w' ds cs
  | [],_,r=>by simpa only[xS]using r
  |d :: ds,cs,r=>by
     simp only[xS]at r ⊢
     obtain⟨c1,c2,h1,h2,h3⟩:=r
     exact⟨c1,c2,h1,zM.ZQ h d c1 h2,xS.ZQ h ds c2 h3⟩
theorem zG.ZQ(h:yf O w w')(wd:Nat):∀(ds:List yz)(a:Option Addr)(j:Nat),zG (O w) w wd ds a j->zG (O w') w' wd ds a j
  | [],_,_,_=>by simp only[zG]
  |d :: ds,a,j,r=>by
     simp only[zG]at r ⊢
     obtain⟨⟨b,o,cs,h1,hb,h2,h3,h4,h5⟩,h6⟩:=r
     exact⟨⟨b,o,cs,h1,Nat.lt_of_lt_of_le hb h.1,(h.2 b hb h2).1,h3,fun i v hv=>(h.2 b hb h2).2 _ v (h4 i v hv),zM.ZQ h d cs h5⟩,zG.ZQ h wd ds a _ h6⟩
end
theorem yf.of(O:Nat->Prop)(h:Y0 O w w'):yf (fun _=>O) w w':=⟨h.1,fun b _ hn=>⟨hn,fun o v hv=>h.2 b o v hn hv⟩⟩
theorem Y9.of(O:Nat->Prop)(Ts:TypeId->Prop)(h:∀ b,H0<=b->¬O b):Y9 (fun _=>O) H0 Ts:=⟨fun _ _ _ _ hb=>h _ hb,fun _ _ _ _ h=>h⟩
theorem zG.zKm{wd:Nat}{ds:List yz}{x:Option Addr}{j:Nat}(r:zG (O w) w wd ds x j)(h:yf O w w'):zG (O w') w' wd ds x j:=zG.ZQ h wd ds x j r
end
end
section
namespace Tm
mutual
def scope:Tm->Int
  |mk k _ i l=>scopes k 0 (if k == 5 then i+1 else 0) l
def scopes(k:Int)(j:Nat)(acc:Int):List Tm->Int
  | []=>acc
  |t :: ts=>scopes k (j+1) (max acc (scope t - under k j)) ts
end
mutual
def occ:Tm->Int->Bool
  |mk k _ i l,v=>(k == 5 && i == v)|| occs k 0 l v
def occs(k:Int)(j:Nat):List Tm->Int->Bool
  | [],_=>false
  |t :: ts,v=>occ t (v+under k j)|| occs k (j+1) ts v
end
mutual
def yJ(acc:List Int):Tm->List Int
  |mk k _ i l=>zt (if k == 6 && !acc.contains i then acc++[i]else acc) l
def zt(acc:List Int):List Tm->List Int
  | []=>acc
  |t :: ts=>zt (yJ acc t) ts
end
def YF(t:Tm):List Int:=yJ [] t
def yb(acc:Int)(x:Nd0):Int:=if x.k == 5 then max acc (x.i - x.b+1)else acc
def yW(acc:List Int)(x:Nd0):List Int:=if x.k == 6 && !acc.contains x.i then acc++[x.i]else acc
def zGT(acc:List (List UInt8))(x:Nd0):List (List UInt8):=if x.k == 4 && !acc.contains x.n then acc++[x.n]else acc
def zAA(v:Int)(x:Nd0):Bool:=x.k == 5 && x.i - x.b == v
theorem QM(k:Int)(l:List Tm):∀(j:Nat)(acc:Int),acc<=scopes k j acc l:=by
  induction l with
  |nil=>intro j acc;simp[scopes]
  |cons t ts ih=>intro j acc;rw[scopes];have:=ih (j+1) (max acc (scope t - under k j));omega
theorem qb(t:Tm)(h:t.kind == 5->0<=t.index):0<=scope t:=by
  cases t with
  |mk k n i l=>
   rw[scope]
   have:=QM k l 0 (if(k == 5)=true then i+1 else 0)
   by_cases hk:(k == 5)=true
   ·rw[if_pos hk]at this ⊢;have:=h hk;simp at this;omega
   ·rw[if_neg hk]at this ⊢;omega
theorem zAt(t:Tm):∀(b acc:Int),0<=b->0<=acc->(nodes b t).foldl yb acc=max acc (scope t - b):=by
  induction t using ind with
  |h k n i l ih=>
   intro b acc hb ha
   rw[zg,List.foldl_cons,scope]
   have key:∀(l':List Tm),(∀ t∈l',∀(b acc:Int),0<=b->0<=acc->(nodes b t).foldl yb acc=max acc (scope t - b))->
       ∀(j:Nat)(a c:Int),0<=a->a=max a (c - b)->(za b k j l').foldl yb a=max a (scopes k j c l' - b):=by
     intro l'
     induction l' with
     |nil=>intro _ j a c h0 h1;simp only[za,List.foldl_nil,scopes];exact h1
     |cons t ts ih2=>
      intro h j a c h0 h1
      have hu:=ym k j
      simp only[za,List.foldl_append,scopes]
      rw[h t (by simp) (b+under k j) a (by omega) h0,ih2 (fun t ht=>h t (by simp[ht])) (j+1) _ (max c (t.scope - under k j)) (by omega) (by omega)]
      have:=QM k ts (j+1) (max c (t.scope - under k j))
      omega
   by_cases hk:(k == 5)=true
   ·simp only[yb,hk,if_true]
    rw[key l ih 0 (max acc (i - b+1)) (i+1) (by omega) (by omega)]
    have:=QM k l 0 (i+1)
    omega
   ·simp only[yb,if_neg hk]
    exact key l ih 0 acc 0 (by omega) (by omega)
theorem zDL(t:Tm)(h:t.kind == 5->0<=t.index):(nodes 0 t).foldl yb 0=scope t:=by
  rw[zAt t 0 0 (by omega) (by omega)]
  have:=qb t h
  omega
theorem X9(t:Tm):∀(b:Int)(acc:List Int),(nodes b t).foldl yW acc=yJ acc t:=by
  induction t using ind with
  |h k n i l ih=>
   intro b acc
   rw[zg,List.foldl_cons,yJ]
   have key:∀(l':List Tm),(∀ t∈l',∀(b:Int)(acc:List Int),(nodes b t).foldl yW acc=yJ acc t)->∀(j:Nat)(acc:List Int),(za b k j l').foldl yW acc=zt acc l':=by
     intro l'
     induction l' with
     |nil=>intro _ j acc;simp[za,zt]
     |cons t ts ih2=>intro h j acc;simp only[za,List.foldl_append,zt];rw[h t (by simp),ih2 (fun t ht=>h t (by simp[ht]))]
   exact key l ih 0 _
theorem zKp(t:Tm):∀(b v:Int),(nodes b t).any (zAA v)=occ t (v+b):=by
  induction t using ind with
  |h k n i l ih=>
   intro b v
   rw[zg,List.any_cons,occ]
   have key:∀(l':List Tm),(∀ t∈l',∀(b v:Int),(nodes b t).any (zAA v)=occ t (v+b))->∀(j:Nat),(za b k j l').any (zAA v)=occs k j l' (v+b):=by
     intro l'
     induction l' with
     |nil=>intro _ j;simp[za,occs]
     |cons t ts ih2=>intro h j;simp only[za,List.any_append,occs];rw[h t (by simp),ih2 (fun t ht=>h t (by simp[ht]))];rw[Int.add_assoc]
   rw[key l ih 0]
   congr 1
   simp only[zAA]
   congr 1
   rw[Bool.eq_iff_iff]
   simp only[beq_iff_eq]
   omega
def Nd0.ok(x:Nd0):Prop:=((x.k == 5)=true->0<=x.i/\x.i<=1048576)/\((x.k == 6)=true->0<=x.i/\x.i<2048)/\((x.k == 4)=true->x.n.length<=64)
theorem qH(n:List UInt8)(h:isName n=true):n.length<=64:=by
  simp[isName]at h;omega
theorem YZ{p:Nd0->Prop}{b k:Int}{l:List Tm}(h:∀ t∈l,∀ b,∀ x∈nodes b t,p x):∀ j,∀ x∈za b k j l,p x:=by
  induction l with
  |nil=>intro j x hx;simp[za]at hx
  |cons t ts ih=>
   intro j x hx
   simp only[za,List.mem_append]at hx
   rcases hx with hx |hx
   ·exact h t (by simp) _ x hx
   ·exact ih (fun t ht=>h t (by simp[ht])) (j+1) x hx
theorem zBB(t:Tm):t.isObj=true->∀ b,∀ x∈nodes b t,x.ok:=by
  induction t using ind with
  |h k n i l ih=>
   intro h b x hx
   have hall:zY l=true->∀ t∈l,t.isObj=true:=by rw[yE,List.all_eq_true];exact fun x=>x
   rw[isObj]at h
   rw[zg]at hx
   have hA:zY l=true:=by split at h<;>(try split at h)<;>(try split at h)<;>(try split at h)<;>simp_all
   rcases List.mem_cons.1 hx with rfl |hx
   ·refine⟨fun e=>?_,fun e=>?_,fun e=>?_⟩<;>simp at e<;>subst e<;>simp at h
    ·simp;omega
    ·simp;omega
    ·simpa using qH n h.1.1
   ·exact YZ (fun t ht b x hx=>ih t ht (hall hA t ht) b x hx) 0 x hx
theorem zFA(t:Tm):t.zW=true->∀ b,∀ x∈nodes b t,x.ok:=by
  induction t using ind with
  |h k n i l ih=>
   intro h b x hx
   rw[zW]at h
   rcases Bool.or_eq_true_iff.1 h with h |h
   ·refine zBB _ ?_ b x hx
    simp[isAtom]at h
    rw[isObj]
    simp[h]
   ·have hall:yq l=true->∀ t∈l,t.zW=true:=by rw[YX,List.all_eq_true];exact fun x=>x
    simp at h
    rw[zg]at hx
    rcases List.mem_cons.1 hx with rfl |hx
    ·refine⟨fun e=>?_,fun e=>?_,fun e=>?_⟩<;>simp[h.1]at e
    ·exact YZ (fun t ht b x hx=>ih t ht (hall h.2.2 t ht) b x hx) 0 x hx
theorem zJ6(t:Tm):t.zZ=true->∀ b,∀ x∈nodes b t,x.ok:=by
  induction t using ind with
  |h k n i l ih=>
   intro h b x hx
   rw[zg]at hx
   match l,h,ih,hx with
   | [],h,ih,hx=>
     simp[zZ]at h
     simp[za]at hx
     subst hx
     refine⟨fun e=>?_,fun e=>?_,fun e=>?_⟩<;>simp[h.1]at e
   | [a],h,ih,hx=>simp[zZ]at h
   |a :: c :: d :: l,h,ih,hx=>simp[zZ]at h
   | [a,c],h,ih,hx=>
     simp[zZ]at h
     rcases List.mem_cons.1 hx with rfl |hx
     ·refine⟨fun e=>?_,fun e=>?_,fun e=>?_⟩<;>simp[h.1]at e
     ·simp only[za,List.append_nil,List.mem_append]at hx
      rcases hx with hx |hx
      ·exact zFA a h.2.2.1 _ x hx
      ·exact ih c (by simp) h.2.2.2 _ x hx
theorem zB2(t:Tm)(h:t.wf=0):(∀ b,∀ x∈nodes b t,x.ok)/\t.size<=4096/\t.depth<=128:=by
  unfold wf at h
  by_cases h1:(!t.isObj && !t.zW && !t.zZ)=true
  ·rw[if_pos h1]at h;omega
  rw[if_neg h1]at h
  by_cases h2:(!t.small)=true
  ·rw[if_pos h2]at h;omega
  have h2':t.small=true:=by simpa using h2
  unfold small at h2'
  simp at h2' h1
  refine⟨?_,h2'⟩
  by_cases ho:t.isObj=true
  ·exact zBB t ho
  by_cases hy:t.zW=true
  ·exact zFA t hy
  ·exact zJ6 t (h1 (by simpa using ho) (by simpa using hy))
theorem zCF(t:Tm):∀ b,∀ x∈nodes b t,b<=x.b/\x.b<b+t.size:=by
  induction t using ind with
  |h k n i l ih=>
   intro b x hx
   rw[zg]at hx
   rw[zS]
   rcases List.mem_cons.1 hx with rfl |hx
   ·simp;omega
   ·have key:∀(l':List Tm),(∀ t∈l',t∈l)->∀ j,∀ x∈za b k j l',b<=x.b/\x.b<b+(zP l+1):=by
      intro l'
      induction l' with
      |nil=>intro _ j x hx;simp[za]at hx
      |cons t ts ih2=>
       intro hs j x hx
       simp only[za,List.mem_append]at hx
       rcases hx with hx |hx
       ·have:=ih t (hs t (by simp)) _ x hx
        have:=ym k j
        have:=zR (hs t (by simp))
        omega
       ·exact ih2 (fun t ht=>hs t (by simp[ht])) _ x hx
    exact key l (fun _ h=>h) 0 x hx
end Tm
end
section
open Go.RowKit Go.MapKept
def Seen(W:World)(m:Nat)(ks:List Value):Prop:=∃ es clock,W.heap[m]? =some (.map es clock)/\es.toList.map (·.key)=ks/\∀ e∈es.toList,e.val=.bool true
variable {P:Program}{W:World}{mt kt bt:TypeId}{d:TypeDesc}{m:Nat}{ks:List Value}{key:Value}
theorem Seen.made(W:World):Seen (W.alloc (.map #[] 0)) W.heap.size []:=⟨#[],0,heap_alloc_new W _,rfl,by simp⟩
theorem Seen.kept{W':World}{row:Option Nat}(h:Seen W m ks)(hg:W.grownBy W' row)(hr:some m≠row):Seen W' m ks:=by
  obtain⟨es,clock,h1,h2,h3⟩:=h
  exact⟨es,clock,(hg.block m (Array.getElem?_eq_some_iff.1 h1).1 hr).trans h1,h2,h3⟩
theorem Seen.lookup(hm:P.underlying mt=some (.map kt bt))(hk:P.underlying kt=some d)(hb:(zeroValue bt).run P W=.ok (.bool false) W)(hS:Seen W m ks)
    (hks:∀ k∈ks,IsKey d k) (hkey:IsKey d key) (b:Bool) (hbk:b=true↔key∈ks):(Instr.lookup mt (.map (some m)) key false).run P W=.ok (.bool b) W:=by
  obtain⟨es,clock,h1,h2,h3⟩:=hS
  have hes:∀ x∈es.toList,IsKey d x.key:=fun x hx=>hks _ (by rw[<-h2];exact List.mem_map_of_mem hx)
  rcases findNow_spec hkey es.toList 0 hes with⟨f1,f2⟩|⟨j,e,f1,f2,f3⟩
  ·have hbf:b=false:=by
     rw[<-Bool.not_eq_true,hbk,<-h2]
     intro h
     obtain⟨x,hx,hxk⟩:=List.mem_map.1 h
     exact f2 x hx hxk
   subst hbf
   simp[Instr.lookup,run_underlying hm,MapKept.run_getObj_map h1,run_checkKey hk hkey,run_findKey hk f1,hb,Result.andThen]
  ·have he:e∈es.toList:=List.mem_of_getElem? f2
   have hbt:b=true:=by
     rw[hbk,<-h2]
     exact List.mem_map.2 ⟨e,he,f3⟩
   subst hbt
   simp[Instr.lookup,run_underlying hm,MapKept.run_getObj_map h1,run_checkKey hk hkey,run_findKey hk f1,h3 e he,Result.andThen]
theorem Seen.store(hm:P.underlying mt=some (.map kt bt))(hk:P.underlying kt=some d)(hS:Seen W m ks)
    (hks:∀ k∈ks,IsKey d k) (hkey:IsKey d key) (hn:key∉ks):∃ W',(Instr.mapUpdate mt (.map (some m)) key (.bool true)).run P W=.ok () W'/\Seen W' m (ks++[key])/\W.grownBy W' (some m)/\W.heap.size<=W'.heap.size:=by
  obtain⟨es,clock,h1,h2,h3⟩:=hS
  have hes:∀ x∈es.toList,IsKey d x.key:=fun x hx=>hks _ (by rw[<-h2];exact List.mem_map_of_mem hx)
  rcases findNow_spec hkey es.toList 0 hes with⟨f1,f2⟩|⟨j,e,f1,f2,f3⟩
  ·refine⟨{ W with heap:=W.heap.setIfInBounds m (.map (es.push { key,val:=.bool true,born:=clock }) (clock+1)) },?_,⟨_,_,(heap_set h1).1,?_,?_⟩,⟨rfl,rfl,rfl,by simp,fun k _ hne=>?_⟩,by simp⟩
   ·simp[Instr.mapUpdate,run_underlying hm,MapKept.run_getObj_map h1,run_checkKey hk hkey,run_findKey hk f1,run_setObj_map _ h1,Result.andThen]
   ·simp[h2]
   ·intro x hx
    simp only[Array.toList_push,List.mem_append,List.mem_singleton]at hx
    rcases hx with hx |rfl
    ·exact h3 x hx
    ·rfl
   ·exact(heap_set h1).2 k (fun e=>hne (by rw[e]))
  ·exact absurd (by rw[<-h2];exact List.mem_map.2 ⟨e,List.mem_of_getElem? f2,f3⟩) hn
end
section
namespace Tm
mutual
def vr(n:Int):Tm->Option Int
  |mk k _ i l=>if k == 3 then vr0 n l else if k == 5 && (decide (n<=i) && ((l.length:Int) == n && vrs (n - 1) l))then some (i - n)else none
def vr0(n:Int):List Tm->Option Int
  | []=>none
  |t :: _=>vr (n+1) t
def vrs(e:Int):List Tm->Bool
  | []=>true
  |t :: ts=>vr 0 t == some e && vrs (e - 1) ts
end
theorem zKh(n k nm i l):vr n (mk k nm i l)=if k == 3 then vr0 n l else if k == 5 && (decide (n<=i) && ((l.length:Int) == n && vrs (n - 1) l))then some (i - n)else none:=by rw[vr]
def vrw(t:Tm):Option Int:=if t.wf == 0 then vr 0 t else none
theorem zJq{t:Tm}(hw:t.wf=0):t.kind=3\/t.kind=5->t.isObj=true:=by
  intro hk
  cases ho:t.isObj with
  |true=>rfl
  |false=>
   cases t with
   |mk k n i l=>
    simp only[zAC]at hk
    have ht:(mk k n i l).zW=false:=by rw[zW,isAtom];rcases hk with rfl |rfl<;>simp
    have hn:(mk k n i l).zZ=false:=by
      unfold zZ
      split
      ·rename_i e;cases e;rcases hk with rfl |rfl<;>simp
      ·rename_i e;cases e;rcases hk with rfl |rfl<;>simp
    unfold wf at hw
    rw[ho,ht,hn]at hw
    simp at hw
theorem zKs{t:Tm}{v:Int}(h:t.vrw=some v):t.isObj=true/\vr 0 t=some v:=by
  unfold vrw at h
  split at h
  ·rename_i hw
   refine⟨zJq (by simpa using hw) ?_,h⟩
   cases t with
   |mk k n i l=>
    rw[zKh]at h
    by_cases h3:k=3
    ·exact .inl h3
    ·rw[if_neg (by simpa using h3)]at h
     split at h
     ·rename_i h5;simp at h5;exact .inr h5.1
     ·simp at h
  ·simp at h
theorem YI{k i:Int}{n:List UInt8}{l:List Tm}(h:(mk k n i l).isObj=true):(∀ t∈l,t.isObj=true)/\(k=3->l.length=1):=by
  rw[isObj]at h
  have key:zY l=true->∀ t∈l,t.isObj=true:=fun h=>by rw[yE,List.all_eq_true]at h;exact h
  split at h
  ·simp[bound]at h;exact⟨key h.2,fun _=>h.1.1.2⟩
  ·rename_i h3
   refine⟨?_,fun e=>absurd e h3⟩
   split at h
   ·simp at h;exact key h.2
   ·split at h
    ·simp at h;exact key h.2
    ·split at h
     ·simp at h;exact key h.2
     ·cases h
end Tm
end
end Go.LF
namespace Go.LF.Tm
def zBe(t:Tm):Prop:=t.isObj=true\/t.zW=true\/t.zZ=true
theorem zB5{k i:Int}{n:List UInt8}{l:List Tm}(h:zBe (mk k n i l)):
    (∀ a∈l,zBe a)/\(k=5->(∀ a∈l,a.isObj=true)/\0<=i/\i<=1048576)/\(k=3->l.length=1)/\(k=2->l.length=2):=by
  rcases h with h |h |h
  ·obtain⟨h1,h2⟩:=YI h
   refine⟨fun a ha=>.inl (h1 a ha),fun e=>⟨h1,?_⟩,h2,fun e=>?_⟩
   ·subst e;rw[isObj]at h;simp at h;omega
   ·subst e;rw[isObj]at h;simp at h
  ·rw[zW,isAtom]at h
   by_cases h4:k=4
   ·subst h4
    simp at h
    have h3:zY l=true:=h.2
    rw[yE,List.all_eq_true]at h3
    exact⟨fun a ha=>.inl (h3 a ha),fun e=>absurd e (by decide),fun e=>absurd e (by decide),fun e=>absurd e (by decide)⟩
   ·have h4':(k == 4)=false:=by simpa using h4
    rw[h4']at h
    simp only[Bool.false_and,Bool.false_or,Bool.and_eq_true,beq_iff_eq]at h
    obtain⟨rfl,h2,h3⟩:=h
    rw[YX,List.all_eq_true]at h3
    unfold bound at h2
    simp only[Bool.and_eq_true,beq_iff_eq]at h2
    exact⟨fun a ha=>.inr (.inl (h3 a ha)),fun e=>absurd e (by decide),fun e=>absurd e (by decide),fun _=>h2.1.2⟩
  ·unfold zZ at h
   split at h
   ·rename_i a b e
    cases e
    simp only[Bool.and_eq_true,beq_iff_eq]at h
    obtain⟨rfl,h2,h3,h4⟩:=h
    refine⟨fun x hx=>?_,fun e=>absurd e (by decide),fun e=>absurd e (by decide),fun _=>rfl⟩
    rcases List.mem_cons.1 hx with rfl |hx
    ·exact .inr (.inl h3)
    ·obtain rfl:x=b:=by simpa using hx
     exact .inr (.inr h4)
   ·rename_i e
    cases e
    simp at h
    obtain⟨rfl,h2,h3,h4⟩:=h
    subst h4
    exact⟨fun x hx=>by simp at hx,fun e=>absurd e (by decide),fun e=>absurd e (by decide),fun e=>absurd e (by decide)⟩
theorem yr{t:Tm}(h:t.wf=0):zBe t/\t.size<=4096/\t.depth<=128:=by
  unfold wf at h
  split at h
  ·cases h
  ·rename_i h1
   split at h
   ·cases h
   ·rename_i h2
    simp only[small,Bool.not_eq_true',Bool.not_eq_false,Bool.and_eq_true,decide_eq_true_eq]at h2
    refine⟨?_,h2⟩
    unfold zBe
    cases ho:t.isObj
    ·cases hy:t.zW
     ·cases hk:t.zZ
      ·rw[ho,hy,hk]at h1;simp at h1
      ·simp
     ·simp
    ·simp
end Go.LF.Tm
