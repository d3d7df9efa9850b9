/- yD as plain data, and what the functions of layer 5 compute of them. No program is in sight here. -/
import Derived.Below
import Derived.IntWalk
import Derived.MapKept
import Derived.Maps.Keyed
import Derived.RowKit
import Derived.WalkKit
namespace Go.LF
section
inductive Tm where
  |mk (kind:Int) (name:List UInt8) (index:Int) (args:List Tm)
namespace Tm
def kind:Tm->Int |mk k _ _ _=>k
def name:Tm->List UInt8 |mk _ n _ _=>n
def index:Tm->Int |mk _ _ i _=>i
def args:Tm->List Tm |mk _ _ _ l=>l
@[simp] theorem QC(k n i l):kind (mk k n i l)=k:=rfl
@[simp] theorem zBB(k n i l):name (mk k n i l)=n:=rfl
@[simp] theorem Qo(k n i l):index (mk k n i l)=i:=rfl
@[simp] theorem yt(k n i l):args (mk k n i l)=l:=rfl
theorem ind{P:Tm->Prop}(h:∀ k n i l,(∀ a∈l,P a)->P (mk k n i l))(t:Tm):P t:=
  Tm.rec (motive_1:=P) (motive_2:=fun l=>∀ a∈l,P a) (fun k n i l ih=>h k n i l ih) (by simp) (fun t ts h1 h2=>by simpa using⟨h1,h2⟩) t
mutual
def size:Tm->Nat
  |mk _ _ _ l=>zO l+1
def zO:List Tm->Nat
  | []=>0
  |t :: ts=>size t+zO ts
end
mutual
def depth:Tm->Nat
  |mk _ _ _ l=>zQ l+1
def zQ:List Tm->Nat
  | []=>0
  |t :: ts=>max (depth t) (zQ ts)
end
@[simp] theorem zS(k n i l):size (mk k n i l)=zO l+1:=by rw[size]
@[simp] theorem yW(k n i l):depth (mk k n i l)=zQ l+1:=by rw[depth]
theorem size_pos(t:Tm):0<t.size:=by cases t;simp
theorem xE(a b:List Tm):zO (a++b)=zO a+zO b:=by
  induction a with
  |nil=>simp[zO]
  |cons t ts ih=>simp[zO,ih];omega
theorem xP(a b:List Tm):zQ (a++b)=max (zQ a) (zQ b):=by
  induction a with
  |nil=>simp[zQ]
  |cons t ts ih=>simp[zQ,ih]
theorem zN(l:List Tm):l.length<=zO l:=by
  induction l with
  |nil=>simp
  |cons t ts ih=>have:=size_pos t;simp only[zO,List.length_cons];omega
theorem zR{t:Tm}{l:List Tm}(h:t∈l):t.size<=zO l:=by
  induction l with
  |nil=>cases h
  |cons u us ih=>
   rcases List.mem_cons.1 h with rfl |h
   ·simp only[zO];omega
   ·have:=ih h;simp only[zO];omega
theorem yN{t:Tm}{l:List Tm}(h:t∈l):t.depth<=zQ l:=by
  induction l with
  |nil=>cases h
  |cons u us ih=>
   rcases List.mem_cons.1 h with rfl |h
   ·simp only[zQ];omega
   ·have:=ih h;simp only[zQ];omega
theorem yn(t:Tm):t.depth<=t.size:=by
  induction t using ind with
  |h k n i l ih=>
   simp only[yW,zS,Nat.add_le_add_iff_right];induction l with
   |nil=>simp[zQ]
   |cons t ts ih2=>
    have h1:=ih t (by simp);have h2:=ih2 (fun a ha=>ih a (by simp[ha]));simp[zQ,zO];omega
theorem yC(l:List Tm):zQ l<=zO l:=by
  have:=yn (mk 0 [] 0 l);simpa using this
theorem yE(l:List Tm)(j:Nat)(h:j<l.length):zO (l.take (j+1))=zO (l.take j)+l[j].size:=by
  rw[List.take_succ_eq_append_getElem h,xE];simp[zO]
theorem xD(l:List Tm)(j:Nat)(h:j<l.length):zQ (l.take (j+1))=max (zQ (l.take j)) l[j].depth:=by
  rw[List.take_succ_eq_append_getElem h,xP];simp[zQ]
theorem ya(l:List Tm)(j:Nat):zO (l.take j)<=zO l:=by
  conv=>rhs;rw[<-List.take_append_drop j l,xE]
  omega
theorem xm(l:List Tm)(j:Nat):zQ (l.take j)<=zQ l:=by
  conv=>rhs;rw[<-List.take_append_drop j l,xP]
  omega
mutual
def wt:Tm->Nat
  |mk _ n _ l=>n.length+ye l+1
def ye:List Tm->Nat
  | []=>0
  |t :: ts=>wt t+ye ts
end
@[simp] theorem yM(k n i l):wt (mk k n i l)=n.length+ye l+1:=by rw[wt]
theorem xA{t:Tm}{l:List Tm}(h:t∈l):t.wt<=ye l:=by
  induction l with
  |nil=>cases h
  |cons u us ih=>
   rcases List.mem_cons.1 h with rfl |h
   ·simp only[ye];omega
   ·have:=ih h;simp only[ye];omega
theorem XM(a b:List Tm):ye (a++b)=ye a+ye b:=by
  induction a with
  |nil=>simp[ye]
  |cons t ts ih=>simp[ye,ih];omega
theorem zi(t:Tm):t.size<=t.wt:=by
  induction t using ind with
  |h k n i l ih=>
   simp only[yM,zS]
   have:zO l<=ye l:=by
     induction l with
     |nil=>simp[zO]
     |cons t ts ih2=>
      have h1:=ih t (by simp);have h2:=ih2 (fun a ha=>ih a (by simp[ha]));simp only[zO,ye];omega
   omega
theorem yg(l:List Tm):zO l<=ye l:=by
  have:=zi (mk 0 [] 0 l);simp only[yM,zS,List.length_nil]at this;omega
mutual
def same:Tm->Tm->Bool
  |mk k n i l,mk k' n' i' l'=>k == k' && (i == i' && ((n == n' || (k == 2 || k == 3)) && yk l l'))
def yk:List Tm->List Tm->Bool
  | [],[]=>true
  |a :: as',b :: bs=>same a b && yk as' bs
  | [],_ :: _=>false
  |_ :: _,[]=>false
end
theorem Xk:∀(l m:List Tm),yk l m=true->l.length=m.length
  | [],[],_=>rfl
  |_ :: as',_ :: bs,h=>by simp only[yk,Bool.and_eq_true]at h;simp[Xk as' bs h.2]
theorem XZ(l m:List Tm)(h:l.length≠m.length):yk l m=false:=by
  cases hs:yk l m with
  |false=>rfl
  |true=>exact absurd (Xk l m hs) h
theorem zC2(l m:List Tm)(j:Nat)(h1:j<l.length)(h2:j<m.length):yk (l.take (j+1)) (m.take (j+1))=(yk (l.take j) (m.take j) && same l[j] m[j]):=by
  induction l generalizing m j with
  |nil=>simp at h1
  |cons a as' ih=>
   cases m with
   |nil=>simp at h2
   |cons b bs=>
    cases j with
    |zero=>simp[yk]
    |succ j=>
     have:=ih bs j (by simpa using h1) (by simpa using h2);simp only[List.take_succ_cons,yk,List.getElem_cons_succ,this,Bool.and_assoc]
theorem zCI(l m:List Tm)(j:Nat)(hl:l.length=m.length)(h1:j<l.length)(h:same l[j] (m[j]'(by omega))=false):yk l m=false:=by
  induction l generalizing m j with
  |nil=>simp at h1
  |cons a as' ih=>
   cases m with
   |nil=>simp at hl
   |cons b bs=>
    cases j with
    |zero=>simp only[List.getElem_cons_zero]at h;simp[yk,h]
    |succ j=>
     have:=ih bs j (by simpa using hl) (by simpa using h1) (by simpa using h);simp[yk,this]
theorem zDx(k n i l k' n' i' l'):same (mk k n i l) (mk k' n' i' l')=(k == k' && (i == i' && ((n == n' || (k == 2 || k == 3)) && yk l l'))):=by rw[same]
structure Nd0 where
  b:Int
  k:Int
  n:List UInt8
  i:Int
def under(k:Int)(j:Nat):Int:=if k=3\/(k=2/\j=1)then 1 else 0
mutual
def nodes(b:Int):Tm->List Nd0
  |mk k n i l=>⟨b,k,n,i⟩ :: zX b k 0 l
def zX(b k:Int)(j:Nat):List Tm->List Nd0
  | []=>[]
  |t :: ts=>nodes (b+under k j) t++zX b k (j+1) ts
end
theorem zb(b k n i l):nodes b (mk k n i l)=⟨b,k,n,i⟩ :: zX b k 0 l:=by rw[nodes]
theorem Y8(l:List Tm)(b k:Int)(j:Nat)(h:∀ t∈l,∀ b,(nodes b t).length=t.size):(zX b k j l).length=zO l:=by
  induction l generalizing j with
  |nil=>simp[zX,zO]
  |cons t ts ih=>simp[zX,zO,h t (by simp),ih (j+1) (fun u hu=>h u (by simp[hu]))]
theorem xe(t:Tm):∀ b,(nodes b t).length=t.size:=by
  induction t using ind with
  |h k n i l ih=>intro b;rw[zb];simp[Y8 l b k 0 ih]
theorem Y7(l m:List Tm)(b k:Int)(j:Nat):zX b k j (l++m)=zX b k j l++zX b k (j+l.length) m:=by
  induction l generalizing j with
  |nil=>simp[zX]
  |cons t ts ih=>simp[zX,ih (j+1),Nat.add_assoc,Nat.add_comm 1 ts.length]
theorem x7(l:List Tm)(b k:Int)(j:Nat)(h:j<l.length):zX b k 0 (l.take (j+1))=zX b k 0 (l.take j)++nodes (b+under k j) l[j]:=by
  rw[List.take_succ_eq_append_getElem h,Y7];simp[zX,Nat.min_eq_left (Nat.le_of_lt h)]
theorem yi(l:List Tm)(b k:Int)(j:Nat):zX b k 0 (l.take j) <+: zX b k 0 l:=by
  conv=>rhs;rw[<-List.take_append_drop j l,Y7]
  exact List.prefix_append _ _
theorem yF(k:Int)(j:Nat):0<=under k j/\under k j<=1:=by unfold under;split<;>omega
end Tm
end
section
def Xs(c:UInt8):Bool:=c.toNat == 40 || c.toNat == 41 || c.toNat == 91 || c.toNat == 93 || c.toNat == 123 || c.toNat == 125 || c.toNat == 58 || c.toNat == 46
def zr(c:UInt8):Bool:=decide (33<=c.toNat) && (decide (c.toNat<=126) && (!Xs c && c.toNat !=37))
def xO(s:List UInt8):Bool:=s == [45,62]|| s == [60,45]|| s == [61]|| s == [95]|| s == [116,121,112,101]
def isName(s:List UInt8):Bool:=!s.isEmpty && decide (s.length<=64) && s.all zr && !xO s && s.head? !=some 64
theorem qf(c:UInt8)(r:List UInt8):isName (c :: r)=(decide (r.length+1<=64) && (zr c && r.all zr) && !xO (c :: r) && c.toNat !=64):=by
  have h:((c :: r).head? !=some 64)=(c.toNat !=64):=by
    rw[Bool.eq_iff_iff];simp[<-UInt8.toNat_inj]
  simp only[isName,h];simp
theorem QG(c:UInt8)(r:List UInt8):isName (c :: r)=true↔r.length+1<=64/\(c :: r).all zr=true/\xO (c :: r)=false/\c.toNat≠64:=by
  rw[qf];simp[and_assoc]
theorem yT(c:UInt8)(r:List UInt8):isName (c :: r)=false↔¬(r.length+1<=64/\(c :: r).all zr=true/\xO (c :: r)=false/\c.toNat≠64):=by
  rw[<-QG];simp
theorem xK{α:Type}(p:α->Bool)(l:List α)(j:Nat)(h:j<l.length):(l.take (j+1)).all p=((l.take j).all p && p l[j]):=by
  rw[List.take_succ_eq_append_getElem h];simp only[List.all_append,List.all_cons,List.all_nil,Bool.and_true]
namespace Tm
def bound(n:List UInt8)(i:Int)(l:List Tm)(k:Nat):Bool:=i == 0 && l.length == k && (n == []|| n == [95]|| isName n)
mutual
def isObj:Tm->Bool
  |mk k n i l=>
   if k=3 then bound n i l 1 && ze l
   else if k=4 then isName n && i == 0 && ze l
   else if k=5 then n == [] && decide (0<=i) && decide (i<=1048576) && ze l
   else if k=6 then n == [] && decide (0<=i) && decide (i<2048) && ze l
   else false
def ze:List Tm->Bool
  | []=>true
  |t :: ts=>isObj t && ze ts
end
def isAtom:Tm->Bool |mk k n i l=>k == 4 && (isName n && i == 0 && ze l)
mutual
def zT:Tm->Bool
  |mk k n i l=>isAtom (mk k n i l)|| (k == 2 && (bound n i l 2 && yq l))
def yq:List Tm->Bool
  | []=>true
  |t :: ts=>zT t && yq ts
end
def zc:Tm->Bool
  |mk k n i [a,b]=>k == 2 && (bound n i [a,b] 2 && (zT a && zc b))
  |mk k n i l=>k == 1 && (n == [] && (i == 0 && l.isEmpty))
def small(t:Tm):Bool:=decide (t.size<=4096) && decide (t.depth<=128)
def wf(t:Tm):Int:=if !t.isObj && !t.zT && !t.zc then 1 else if !t.small then 2 else 0
theorem zu(l:List Tm):ze l=l.all isObj:=by
  induction l with
  |nil=>rfl
  |cons t ts ih=>simp[ze,ih]
theorem YB(l:List Tm):yq l=l.all zT:=by
  induction l with
  |nil=>rfl
  |cons t ts ih=>simp[yq,ih]
end Tm
end
section
inductive Sm where
  |mk (fam:List UInt8) (args:List Sm)
namespace Sm
def fam:Sm->List UInt8 |mk f _=>f
def args:Sm->List Sm |mk _ l=>l
@[simp] theorem zHJ(f l):fam (mk f l)=f:=rfl
@[simp] theorem yt(f l):args (mk f l)=l:=rfl
theorem ind{P:Sm->Prop}(h:∀ f l,(∀ a∈l,P a)->P (mk f l))(t:Sm):P t:=
  Sm.rec (motive_1:=P) (motive_2:=fun l=>∀ a∈l,P a) (fun f l ih=>h f l ih) (by simp) (fun t ts h1 h2=>by simpa using⟨h1,h2⟩) t
mutual
def size:Sm->Nat
  |mk _ l=>zO l+1
def zO:List Sm->Nat
  | []=>0
  |t :: ts=>size t+zO ts
end
mutual
def depth:Sm->Nat
  |mk _ l=>zQ l+1
def zQ:List Sm->Nat
  | []=>0
  |t :: ts=>max (depth t) (zQ ts)
end
mutual
def wt:Sm->Nat
  |mk f l=>f.length+ye l+1
def ye:List Sm->Nat
  | []=>0
  |t :: ts=>wt t+ye ts
end
@[simp] theorem zS(f l):size (mk f l)=zO l+1:=by rw[size]
@[simp] theorem yW(f l):depth (mk f l)=zQ l+1:=by rw[depth]
@[simp] theorem yM(f l):wt (mk f l)=f.length+ye l+1:=by rw[wt]
theorem size_pos(t:Sm):0<t.size:=by cases t;simp
theorem xE(a b:List Sm):zO (a++b)=zO a+zO b:=by
  induction a with
  |nil=>simp[zO]
  |cons t ts ih=>simp[zO,ih];omega
theorem xP(a b:List Sm):zQ (a++b)=max (zQ a) (zQ b):=by
  induction a with
  |nil=>simp[zQ]
  |cons t ts ih=>simp[zQ,ih]
theorem XM(a b:List Sm):ye (a++b)=ye a+ye b:=by
  induction a with
  |nil=>simp[ye]
  |cons t ts ih=>simp[ye,ih];omega
theorem zN(l:List Sm):l.length<=zO l:=by
  induction l with
  |nil=>simp
  |cons t ts ih=>have:=size_pos t;simp only[zO,List.length_cons];omega
theorem zR{t:Sm}{l:List Sm}(h:t∈l):t.size<=zO l:=by
  induction l with
  |nil=>cases h
  |cons u us ih=>
   rcases List.mem_cons.1 h with rfl |h
   ·simp only[zO];omega
   ·have:=ih h;simp only[zO];omega
theorem xA{t:Sm}{l:List Sm}(h:t∈l):t.wt<=ye l:=by
  induction l with
  |nil=>cases h
  |cons u us ih=>
   rcases List.mem_cons.1 h with rfl |h
   ·simp only[ye];omega
   ·have:=ih h;simp only[ye];omega
theorem zi(t:Sm):t.size<=t.wt:=by
  induction t using ind with
  |h f l ih=>
   simp only[yM,zS]
   have:zO l<=ye l:=by
     induction l with
     |nil=>simp[zO]
     |cons t ts ih2=>
      have h1:=ih t (by simp);have h2:=ih2 (fun a ha=>ih a (by simp[ha]));simp only[zO,ye];omega
   omega
theorem yg(l:List Sm):zO l<=ye l:=by
  have:=zi (mk [] l);simp only[yM,zS,List.length_nil]at this;omega
theorem yn(t:Sm):t.depth<=t.size:=by
  induction t using ind with
  |h f l ih=>
   simp only[yW,zS,Nat.add_le_add_iff_right];induction l with
   |nil=>simp[zQ]
   |cons t ts ih2=>
    have h1:=ih t (by simp);have h2:=ih2 (fun a ha=>ih a (by simp[ha]));simp[zQ,zO];omega
theorem yC(l:List Sm):zQ l<=zO l:=by
  have:=yn (mk [] l);simpa using this
theorem yE(l:List Sm)(j:Nat)(h:j<l.length):zO (l.take (j+1))=zO (l.take j)+l[j].size:=by
  rw[List.take_succ_eq_append_getElem h,xE];simp[zO]
theorem xD(l:List Sm)(j:Nat)(h:j<l.length):zQ (l.take (j+1))=max (zQ (l.take j)) l[j].depth:=by
  rw[List.take_succ_eq_append_getElem h,xP];simp[zQ]
theorem ya(l:List Sm)(j:Nat):zO (l.take j)<=zO l:=by
  conv=>rhs;rw[<-List.take_append_drop j l,xE]
  omega
theorem xm(l:List Sm)(j:Nat):zQ (l.take j)<=zQ l:=by
  conv=>rhs;rw[<-List.take_append_drop j l,xP]
  omega
def zAZ(f:List UInt8):Bool:=f == [116,121,112,101]|| isName f
mutual
def form:Sm->Bool
  |mk f l=>zAZ f && XB l
def XB:List Sm->Bool
  | []=>true
  |t :: ts=>form t && XB ts
end
theorem zAm(f l):form (mk f l)=(zAZ f && XB l):=by rw[form]
theorem zEm(l:List Sm):XB l=l.all form:=by
  induction l with
  |nil=>rfl
  |cons t ts ih=>simp[XB,ih]
def wf(s:Sm):Int:=if !s.form then 1 else if decide (4096<s.size)|| decide (128<s.depth)then 2 else 0
mutual
def same:Sm->Sm->Bool
  |mk f l,mk f' l'=>f == f' && yk l l'
def yk:List Sm->List Sm->Bool
  | [],[]=>true
  |a :: as',b :: bs=>same a b && yk as' bs
  | [],_ :: _=>false
  |_ :: _,[]=>false
end
end Sm
namespace Tm
def yQ:Nat->Tm->Tm
  |0,t=>t
  |n+1,t=>yQ n (mk 3 [] 0 [t])
theorem xw(n:Nat)(t:Tm):yQ (n+1) t=mk 3 [] 0 [yQ n t]:=by
  induction n generalizing t with
  |zero=>rfl
  |succ n ih=>rw[yQ,ih];rfl
def more(h:Tm)(ts:List Tm):Tm:=mk h.kind h.name h.index (h.args++ts)
mutual
def xp(h:Tm):Sm->Tm
  | .mk _ l=>yQ l.length (more h (QF ((l.length:Int) - 1) l))
def QF(m:Int):List Sm->List Tm
  | []=>[]
  |a :: as'=>xp (mk 5 [] (m+a.args.length) []) a :: QF (m - 1) as'
end
theorem zHC(h:Tm)(f l):xp h (.mk f l)=yQ l.length (more h (QF ((l.length:Int) - 1) l)):=by rw[xp]
theorem zDR(l:List Sm):∀ m,(QF m l).length=l.length:=by
  induction l with
  |nil=>intro m;simp[QF]
  |cons t ts ih=>intro m;simp[QF,ih]
theorem zDT(l l':List Sm):∀ m,QF m (l++l')=QF m l++QF (m - l.length) l':=by
  induction l with
  |nil=>intro m;simp[QF]
  |cons t ts ih=>
   intro m;simp only[List.cons_append,QF,ih,List.length_cons];congr 3;omega
theorem Q5(l:List Sm)(m:Int)(j:Nat)(h:j<l.length):QF m (l.take (j+1))=QF m (l.take j)++[xp (mk 5 [] (m - j+l[j].args.length) []) l[j]]:=by
  rw[List.take_succ_eq_append_getElem h,zDT];simp[QF,Nat.min_eq_left (Nat.le_of_lt h)]
theorem zG5(n:Nat)(t:Tm):(yQ n t).wt=t.wt+n:=by
  induction n generalizing t with
  |zero=>rfl
  |succ n ih=>rw[yQ,ih];simp[ye];omega
theorem zG1(h:Tm)(ts:List Tm):(more h ts).wt=h.wt+ye ts:=by
  cases h;simp[more,XM];omega
theorem zEG(h:Tm)(a b:List Tm):more (more h a) b=more h (a++b):=by simp[more]
theorem zBo(h:Tm):more h []=h:=by cases h;simp[more]
theorem zIQ(s:Sm):∀ h:Tm,(xp h s).wt+2=h.wt+2 * s.size:=by
  induction s using Sm.ind with
  |h f l ih=>
   intro h
   have key:∀(l':List Sm),(∀ s∈l',∀ h:Tm,(xp h s).wt+2=h.wt+2 * s.size)->∀ m,ye (QF m l')+l'.length=2 * Sm.zO l':=by
     intro l';induction l' with
     |nil=>intro _ m;simp[QF,ye,Sm.zO]
     |cons t ts ih2=>
      intro h m;have h1:=h t (by simp) (mk 5 [] (m+t.args.length) []);have h2:=ih2 (fun t ht=>h t (by simp[ht])) (m - 1);simp only[QF,ye,Sm.zO,List.length_cons];simp[ye]at h1;omega
   have:=key l ih ((l.length:Int) - 1);rw[zHC,zG5,zG1,Sm.zS];omega
end Tm
end
section
inductive yP where
  |int (k:IntKind) (n:Int)
  |bool (b:Bool)
  |str (s:ByteArray)
  |st (fs:List yP)
  |seq (wd:Nat) (xs:List yP)
structure zD(S:Nat->Prop)(w w':World):Prop where
  os:w'.os=w.os
  tape:w'.tape=w.tape
  output:w'.output=w.output
  size:w.heap.size<=w'.heap.size
  block:∀ k,k<w.heap.size->¬S k->w'.heap[k]? =w.heap[k]?
abbrev zC:Nat->Prop:=fun _=>False
theorem Zm(w:World)(o:Obj)(b:Nat)(h:b<w.heap.size):(w.alloc o).heap[b]? =w.heap[b]? :=RowKit.Below.heap_alloc _ _ _ h
theorem zD.refl(S:Nat->Prop)(w:World):zD S w w:=⟨rfl,rfl,rfl,Nat.le_refl _,fun _ _ _=>rfl⟩
theorem zD.trans{S S':Nat->Prop}{a b c:World}(h:zD S a b)(k:zD S' b c)(hs:∀ i,i<a.heap.size->S' i->S i):zD S a c:=
  ⟨k.os.trans h.os,k.tape.trans h.tape,k.output.trans h.output,Nat.le_trans h.size k.size,
    fun i hi hn=>(k.block i (Nat.lt_of_lt_of_le hi h.size) (fun x=>hn (hs i hi x))).trans (h.block i hi hn)⟩
theorem zD.mono{S S':Nat->Prop}{a b:World}(h:zD S a b)(hs:∀ i,i<a.heap.size->S i->S' i):zD S' a b:=
  ⟨h.os,h.tape,h.output,h.size,fun i hi hn=>h.block i hi (fun x=>hn (hs i hi x))⟩
theorem zD.drew{S:Nat->Prop}{a w:World}(h:zD S a w):zD S a w.drew:=⟨h.os,h.tape,h.output,h.size,h.block⟩
theorem zD.alloc{S:Nat->Prop}{a w:World}(h:zD S a w)(o:Obj):zD S a (w.alloc o):=
  h.trans (S':=zC) ⟨rfl,rfl,rfl,by simp,fun k hk _=>RowKit.Below.heap_alloc _ _ _ hk⟩ (fun _ _ x=>x.elim)
theorem zD.setCell{S:Nat->Prop}{a w:World}(h:zD S a w){p:Addr}(hp:p.block<a.heap.size->S p.block)(u:Value):zD S a (w.setCell p u):=
  h.trans (S':=fun k=>k=p.block) ⟨rfl,rfl,rfl,by simp[World.setCell],fun k _ hk=>RowKit.Below.heap_setCell _ _ _ _ hk⟩ (fun i hi e=>by subst e;exact hp hi)
theorem zD.below{B:Nat}{w w':World}(h:zD (fun k=>B<=k) w w')(hB:B<=w.heap.size):RowKit.Below B w w':=
  ⟨h.os,h.tape,h.output,h.size,fun k hk=>h.block k (by omega) (by omega)⟩
theorem zD.ZR{S:Nat->Prop}{w w':World}(h:RowKit.Below w.heap.size w w'):zD S w w':=
  ⟨h.os,h.tape,h.output,h.size,fun k hk _=>h.block k hk⟩
theorem zD.cell{S:Nat->Prop}{w w':World}(h:zD S w w'){a:Addr}{v:Value}(hc:w.cell? a=some v)(hs:¬S a.block):w'.cell? a=some v:=
  (World.cell?_of_block (h.block _ (World.block_lt_of_cell? w a hc) hs)).trans hc
mutual
def zK(O:Nat->Prop)(w:World):yP->List Value->Prop
  | .int k n,cs=>cs=[.int k n]
  | .bool b,cs=>cs=[.bool b]
  | .str s,cs=>cs=[.string s]
  | .st fs,cs=>yy O w fs cs
  | .seq wd xs,cs=>∃ a cap,cs=[.slice a xs.length cap]/\xs.length<=cap/\zH O w wd xs a 0
def yy(O:Nat->Prop)(w:World):List yP->List Value->Prop
  | [],cs=>cs=[]
  |d :: ds,cs=>∃ c1 c2,cs=c1++c2/\zK O w d c1/\yy O w ds c2
def zH(O:Nat->Prop)(w:World)(wd:Nat):List yP->Option Addr->Nat->Prop
  | [],_,_=>True
  |d :: ds,a,j=>(∃ b o cs,a=some ⟨b,o,none⟩/\b<w.heap.size/\¬O b/\cs.length=wd/\(∀ i v,cs[i]? =some v->w.cell? ⟨b,o+j+i,none⟩=some v)/\zK O w d cs)/\
     zH O w wd ds a (j+wd)
end
def YO(O:Nat->Prop)(w w':World):Prop:=w.heap.size<=w'.heap.size/\∀ b o v,¬O b->w.cell? ⟨b,o,none⟩=some v->w'.cell? ⟨b,o,none⟩=some v
theorem zD.cel{O S:Nat->Prop}{w w':World}(h:zD S w w')(hs:∀ k,S k->O k):YO O w w':=⟨h.size,fun _ _ _ hb hv=>h.cell hv (fun x=>hb (hs _ x))⟩
theorem YO.trans{O:Nat->Prop}{a b c:World}(h:YO O a b)(k:YO O b c):YO O a c:=⟨Nat.le_trans h.1 k.1,fun x o v hx hv=>k.2 x o v hx (h.2 x o v hx hv)⟩
mutual
theorem zK.carry{O:Nat->Prop}{w w':World}(h:YO O w w'):∀(d:yP)(cs:List Value),zK O w d cs->zK O w' d cs
  | .int _ _,_,r=>by simpa only[zK]using r
  | .bool _,_,r=>by simpa only[zK]using r
  | .str _,_,r=>by simpa only[zK]using r
  | .st fs,cs,r=>by simp only[zK]at r ⊢;exact yy.carry h fs cs r
  | .seq wd xs,cs,r=>by
      simp only[zK]at r ⊢;obtain⟨a,cap,h1,h2,h3⟩:=r;exact⟨a,cap,h1,h2,zH.carry h wd xs a 0 h3⟩
theorem yy.carry{O:Nat->Prop}{w w':World}(h:YO O w w'):∀(ds:List yP)(cs:List Value),yy O w ds cs->yy O w' ds cs
  | [],_,r=>by simpa only[yy]using r
  |d :: ds,cs,r=>by
     simp only[yy]at r ⊢;obtain⟨c1,c2,h1,h2,h3⟩:=r;exact⟨c1,c2,h1,zK.carry h d c1 h2,yy.carry h ds c2 h3⟩
theorem zH.carry{O:Nat->Prop}{w w':World}(h:YO O w w')(wd:Nat):∀(ds:List yP)(a:Option Addr)(j:Nat),zH O w wd ds a j->zH O w' wd ds a j
  | [],_,_,_=>by simp only[zH]
  |d :: ds,a,j,r=>by
     simp only[zH]at r ⊢;obtain⟨⟨b,o,cs,h1,hb,h2,h3,h4,h5⟩,h6⟩:=r;exact⟨⟨b,o,cs,h1,Nat.lt_of_lt_of_le hb h.1,h2,h3,fun i v hv=>h.2 _ _ _ h2 (h4 i v hv),zK.carry h d cs h5⟩,zH.carry h wd ds a _ h6⟩
end
theorem zK.zE{O S:Nat->Prop}{w w':World}(h:zD S w w')(hs:∀ k,S k->O k)(d:yP)(cs:List Value)(r:zK O w d cs):zK O w' d cs:=zK.carry (h.cel hs) d cs r
theorem zH.zE{O S:Nat->Prop}{w w':World}(h:zD S w w')(hs:∀ k,S k->O k)(wd:Nat)(ds:List yP)(a:Option Addr)(j:Nat)(r:zH O w wd ds a j):zH O w' wd ds a j:=zH.carry (h.cel hs) wd ds a j r
mutual
theorem zK.weaken{O O':Nat->Prop}{w:World}(hs:∀ k,k<w.heap.size->O' k->O k):∀(d:yP)(cs:List Value),zK O w d cs->zK O' w d cs
  | .int _ _,_,r=>by simpa only[zK]using r
  | .bool _,_,r=>by simpa only[zK]using r
  | .str _,_,r=>by simpa only[zK]using r
  | .st fs,cs,r=>by simp only[zK]at r ⊢;exact yy.weaken hs fs cs r
  | .seq wd xs,cs,r=>by
      simp only[zK]at r ⊢;obtain⟨a,cap,h1,h2,h3⟩:=r;exact⟨a,cap,h1,h2,zH.weaken hs wd xs a 0 h3⟩
theorem yy.weaken{O O':Nat->Prop}{w:World}(hs:∀ k,k<w.heap.size->O' k->O k):∀(ds:List yP)(cs:List Value),yy O w ds cs->yy O' w ds cs
  | [],_,r=>by simpa only[yy]using r
  |d :: ds,cs,r=>by
     simp only[yy]at r ⊢;obtain⟨c1,c2,h1,h2,h3⟩:=r;exact⟨c1,c2,h1,zK.weaken hs d c1 h2,yy.weaken hs ds c2 h3⟩
theorem zH.weaken{O O':Nat->Prop}{w:World}(hs:∀ k,k<w.heap.size->O' k->O k)(wd:Nat):∀(ds:List yP)(a:Option Addr)(j:Nat),zH O w wd ds a j->zH O' w wd ds a j
  | [],_,_,_=>by simp only[zH]
  |d :: ds,a,j,r=>by
     simp only[zH]at r ⊢;obtain⟨⟨b,o,cs,h1,hb,h2,h3,h4,h5⟩,h6⟩:=r;exact⟨⟨b,o,cs,h1,hb,fun x=>h2 (hs _ hb x),h3,h4,zK.weaken hs d cs h5⟩,zH.weaken hs wd ds a _ h6⟩
end
theorem zH.get{O:Nat->Prop}{w:World}{wd:Nat}:∀{xs:List yP}{a:Option Addr}{j:Nat},zH O w wd xs a j->∀ i(h:i<xs.length),
    ∃ b o cs,a=some ⟨b,o,none⟩/\b<w.heap.size/\¬O b/\cs.length=wd/\(∀ m v,cs[m]? =some v->w.cell? ⟨b,o+j+i * wd+m,none⟩=some v)/\zK O w xs[i] cs:=by
  intro xs;induction xs with
  |nil=>intro a j _ i h;simp at h
  |cons d ds ih=>
   intro a j r i h;simp only[zH]at r;obtain⟨⟨b,o,cs,h1,hb,h2,h3,h4,h5⟩,h6⟩:=r;cases i with
   |zero=>exact⟨b,o,cs,h1,hb,h2,h3,by simpa using h4,h5⟩
   |succ i=>
    obtain⟨b',o',cs',g1,gb,g2,g3,g4,g5⟩:=ih h6 i (by simpa using h);refine⟨b',o',cs',g1,gb,g2,g3,?_,g5⟩;intro m v hm;have:=g4 m v hm;rw[Nat.add_mul,Nat.one_mul];rw[show o'+j+(i * wd+wd)+m=o'+(j+wd)+i * wd+m from by omega];exact this
abbrev B(l:List UInt8):ByteArray:=⟨l.toArray⟩
theorem zAl(l:List UInt8):(B l).size=l.length:=rfl
namespace Tm
mutual
def zM:Tm->yP
  |mk k n i as=>.st [.int .i64 k,.str (B n),.int .i64 i,.seq 4 (zA0 as)]
def zA0:List Tm->List yP
  | []=>[]
  |t :: ts=>zM t :: zA0 ts
end
theorem zAv(l:List Tm):zA0 l=l.map zM:=by
  induction l with
  |nil=>rfl
  |cons t ts ih=>simp[zA0,ih]
end Tm
theorem zd{O:Nat->Prop}{w:World}{k:Int}{n:List UInt8}{i:Int}{as:List Tm}{cs:List Value}:
    zK O w (Tm.mk k n i as).zM cs↔∃ a cap,cs=[.int .i64 k,.string (B n),.int .i64 i,.slice a as.length cap]/\as.length<=cap/\zH O w 4 (as.map Tm.zM) a 0:=by
  simp only[Tm.zM,zK,yy,Tm.zAv];constructor
  ·rintro⟨c1,c2,rfl,rfl,c3,c4,rfl,rfl,c5,c6,rfl,rfl,c7,c8,rfl,⟨a,cap,rfl,h1,h2⟩,rfl⟩;exact⟨a,cap,by simp,by simpa using h1,h2⟩
  ·rintro⟨a,cap,rfl,h1,h2⟩;exact⟨[_],[_,_,_],rfl,rfl,[_],[_,_],rfl,rfl,[_],[_],rfl,rfl,[.slice a as.length cap],[],rfl,⟨a,cap,by simp,by simpa using h1,h2⟩,rfl⟩
theorem zk{O:Nat->Prop}{w:World}{as:List Tm}{a:Option Addr}(h:zH O w 4 (as.map Tm.zM) a 0)(i:Nat)(hi:i<as.length):
    ∃ b o k n x s c,a=some ⟨b,o,none⟩/\b<w.heap.size/\¬O b/\
      w.cell? ⟨b,o+i * 4,none⟩=some (.int .i64 k)/\w.cell? ⟨b,o+i * 4+1,none⟩=some (.string (B n))/\
      w.cell? ⟨b,o+i * 4+2,none⟩=some (.int .i64 x)/\w.cell? ⟨b,o+i * 4+3,none⟩=some (.slice s as[i].args.length c)/\
      zK O w as[i].zM [.int .i64 k,.string (B n),.int .i64 x,.slice s as[i].args.length c]:=by
  obtain⟨b,o,cs,h1,hb,h2,h3,h4,h5⟩:=h.get i (by simpa using hi);simp only[List.getElem_map]at h5;cases hx:as[i]with
  |mk k n x bs=>
   rw[hx]at h5;obtain⟨s,c,rfl,g1,g2⟩:=zd.1 h5;refine⟨b,o,k,n,x,s,c,h1,hb,h2,?_,?_,?_,?_,h5⟩
   ·simpa using h4 0 _ rfl
   ·simpa using h4 1 _ rfl
   ·simpa using h4 2 _ rfl
   ·simpa[Tm.args]using h4 3 _ rfl
theorem YO.cell{O:Nat->Prop}{w w':World}(h:YO O w w'){b o:Nat}{v:Value}(hb:¬O b)(hv:w.cell? ⟨b,o,none⟩=some v):w'.cell? ⟨b,o,none⟩=some v:=h.2 b o v hb hv
theorem YO.refl(O:Nat->Prop)(w:World):YO O w w:=⟨Nat.le_refl _,fun _ _ _ _ h=>h⟩
theorem YO.alloc{O:Nat->Prop}{a w:World}(h:YO O a w)(o:Obj):YO O a (w.alloc o):=h.trans (((zD.refl zC w).alloc o).cel (fun _ x=>x.elim))
theorem YO.weaken{O O':Nat->Prop}{w w':World}(h:YO O w w')(hs:∀ k,O k->O' k):YO O' w w':=⟨h.1,fun b o v hb hv=>h.2 b o v (fun x=>hb (hs _ x)) hv⟩
theorem YO.Xu{O:Nat->Prop}{w w':World}{c0 c1 c2 c3:Value}{T:TypeId}(h:YO O (w.alloc (.cells #[c0,c1,c2,c3] T)) w')(hb:¬O w.heap.size):
    w'.cell? ⟨w.heap.size,0,none⟩=some c0/\w'.cell? ⟨w.heap.size,1,none⟩=some c1/\w'.cell? ⟨w.heap.size,2,none⟩=some c2/\w'.cell? ⟨w.heap.size,3,none⟩=some c3:=by
  refine⟨h.cell hb ?_,h.cell hb ?_,h.cell hb ?_,h.cell hb ?_⟩<;>rw[World.cell?_alloc_new]<;>rfl
theorem zD.behind{S:Nat->Prop}{w w':World}{o:Obj}(h:zD S (w.alloc o) w')(hs:∀ k,k<w.heap.size->S k->zC k:=by exact fun _ _ x=>x):zD zC w w':=
  ((zD.refl zC w).alloc o).trans h hs
theorem zD.cells{S:Nat->Prop}{W w1:World}(hb:zD S W w1):
    (∀ b o,b<W.heap.size->¬S b->w1.cell? ⟨b,o,none⟩=W.cell? ⟨b,o,none⟩)/\(∀ b o,b<W.heap.size->¬S b->w1.frozen? ⟨b,o,none⟩=W.frozen? ⟨b,o,none⟩):=
  ⟨fun b _ h n=>World.cell?_of_block (hb.block b h n),fun b _ h n=>World.frozen?_of_block (hb.block b h n)⟩
theorem zD.zA2{W w1:World}(hb:zD zC W w1):
    (∀ b o,b<W.heap.size->w1.cell? ⟨b,o,none⟩=W.cell? ⟨b,o,none⟩)/\(∀ b o,b<W.heap.size->w1.frozen? ⟨b,o,none⟩=W.frozen? ⟨b,o,none⟩):=
  ⟨fun b _ h=>World.cell?_of_block (hb.block b h (fun x=>x)),fun b _ h=>World.frozen?_of_block (hb.block b h (fun x=>x))⟩
theorem zK.on{O:Nat->Prop}{w w':World}{d:yP}{cs:List Value}(r:zK O w d cs)(h:zD zC w w'):zK O w' d cs:=zK.zE h (fun _ x=>x.elim) d cs r
theorem zH.cel{O:Nat->Prop}{w w':World}{wd:Nat}{ds:List yP}{a:Option Addr}{j:Nat}(r:zH O w wd ds a j)(h:YO O w w'):zH O w' wd ds a j:=zH.carry h wd ds a j r
theorem zH.on{O:Nat->Prop}{w w':World}{wd:Nat}{ds:List yP}{a:Option Addr}{j:Nat}(r:zH O w wd ds a j)(h:zD zC w w'):zH O w' wd ds a j:=zH.zE h (fun _ x=>x.elim) wd ds a j r
theorem zK.new{O:Nat->Prop}{w:World}{d:yP}{cs:List Value}(r:zK O w d cs)(o:Obj):zK O (w.alloc o) d cs:=r.on ((zD.refl _ w).alloc o)
theorem zF{p:Prop}(h:p):RowKit.Hid p:=h
mutual
theorem zK.zY{O:Nat->Prop}{w:World}:∀(d:yP)(cs:List Value),zK O w d cs->zK (fun b=>O b\/w.heap.size<=b) w d cs
  | .int _ _,_,r=>by simpa only[zK]using r
  | .bool _,_,r=>by simpa only[zK]using r
  | .str _,_,r=>by simpa only[zK]using r
  | .st fs,cs,r=>by simp only[zK]at r ⊢;exact yy.zY fs cs r
  | .seq wd xs,cs,r=>by
      simp only[zK]at r ⊢;obtain⟨a,cap,h1,h2,h3⟩:=r;exact⟨a,cap,h1,h2,zH.zY wd xs a 0 h3⟩
theorem yy.zY{O:Nat->Prop}{w:World}:∀(ds:List yP)(cs:List Value),yy O w ds cs->yy (fun b=>O b\/w.heap.size<=b) w ds cs
  | [],_,r=>by simpa only[yy]using r
  |d :: ds,cs,r=>by
     simp only[yy]at r ⊢;obtain⟨c1,c2,h1,h2,h3⟩:=r;exact⟨c1,c2,h1,zK.zY d c1 h2,yy.zY ds c2 h3⟩
theorem zH.zY{O:Nat->Prop}{w:World}(wd:Nat):∀(ds:List yP)(a:Option Addr)(j:Nat),zH O w wd ds a j->zH (fun b=>O b\/w.heap.size<=b) w wd ds a j
  | [],_,_,_=>by simp only[zH]
  |d :: ds,a,j,r=>by
     simp only[zH]at r ⊢;obtain⟨⟨b,o,cs,h1,hb,h2,h3,h4,h5⟩,h6⟩:=r;exact⟨⟨b,o,cs,h1,hb,fun x=>x.elim h2 (fun y=>by omega),h3,h4,zK.zY d cs h5⟩,zH.zY wd ds a _ h6⟩
end
theorem zK.fresh{O:Nat->Prop}{w:World}{d:yP}{cs:List Value}(r:zK O w d cs):zK (fun b=>w.heap.size<=b) w d cs:=zK.weaken (fun _ _ h=>.inr h) d cs (zK.zY d cs r)
theorem zK.xx{O:Nat->Prop}{w:World}{d:yP}{cs:List Value}(r:zK O w d cs):zK (fun b=>O b\/w.heap.size<=b) w d cs:=zK.zY d cs r
theorem zh{k:IntKind}{a b:Int}(h:a=b):Ending.returned (.int k a)=.returned (.int k b):=by rw[h]
theorem zP{a b:Bool}(h:a=b):Ending.returned (.bool a)=.returned (.bool b):=by rw[h]
theorem int_eq{k:IntKind}{a b:Int}(h:a=b):Value.int k a=.int k b:=by rw[h]
end
section
theorem QH{W w':World}{b:Nat}{c0 c1 c2 c3:Value}(hU:zD zC W w')
    (h:W.cell? ⟨b,0,none⟩=some c0/\W.cell? ⟨b,1,none⟩=some c1/\W.cell? ⟨b,2,none⟩=some c2/\W.cell? ⟨b,3,none⟩=some c3):
    w'.cell? ⟨b,0,none⟩=some c0/\w'.cell? ⟨b,1,none⟩=some c1/\w'.cell? ⟨b,2,none⟩=some c2/\w'.cell? ⟨b,3,none⟩=some c3:=
  ⟨hU.cell h.1 (fun x=>x),hU.cell h.2.1 (fun x=>x),hU.cell h.2.2.1 (fun x=>x),hU.cell h.2.2.2 (fun x=>x)⟩
theorem zy{w w1:World}{c0 c1 c2 c3:Value}{T:TypeId}(hU:zD zC (w.alloc (.cells #[c0,c1,c2,c3] T)) w1):
    w1.cell? ⟨w.heap.size,0,none⟩=some c0/\w1.cell? ⟨w.heap.size,1,none⟩=some c1/\w1.cell? ⟨w.heap.size,2,none⟩=some c2/\w1.cell? ⟨w.heap.size,3,none⟩=some c3:=
  (hU.cel (O:=zC) (fun _ x=>x)).Xu (fun x=>x)
theorem zD.and{a b c:World}(h:zD zC a b)(k:zD zC b c):zD zC a c:=h.trans k (fun _ _ x=>x)
theorem zU{O:Nat->Prop}{w:World}{t:Tm}{cs:List Value}(h:zK O w t.zM cs):
    ∃ k n i ts a cap,t=.mk k n i ts/\cs=[.int .i64 k,.string (B n),.int .i64 i,.slice a ts.length cap]/\ts.length<=cap/\zH O w 4 (ts.map Tm.zM) a 0:=by
  cases t with
  |mk k n i ts=>
   obtain⟨a,cap,h1,h2,h3⟩:=zd.1 h;exact⟨k,n,i,ts,a,cap,rfl,h1,h2,h3⟩
theorem Z1(k:Int)(j:Nat):((k == 3)=true/\Tm.under k j=1)\/((k == 3)=false/\(k == 2)=true/\((j:Int) == 1)=true/\Tm.under k j=1)\/
    ((k == 3)=false/\(k == 2)=true/\((j:Int) == 1)=false/\Tm.under k j=0)\/((k == 3)=false/\(k == 2)=false/\Tm.under k j=0):=by
  unfold Tm.under;by_cases h3:k=3
  ·left;simp[h3]
  by_cases h2:k=2
  ·by_cases h1:j=1
   ·right;left;simp[h2,h1]
   ·right;right;left;simp[h2,h1];omega
  ·right;right;right;simp[h3,h2]
theorem zD.yv{w w':World}{o:Obj}(h:zD zC (w.alloc o) w'):zD zC w w':=((zD.refl zC w).alloc o).and h
end
section
open Go.RowKit
def yH(O:World->Nat->Prop)(w w':World):Prop:=w.heap.size<=w'.heap.size/\∀ b,b<w.heap.size->¬O w b->¬O w' b/\∀ o v,w.cell? ⟨b,o,none⟩=some v->w'.cell? ⟨b,o,none⟩=some v
def At(O:World->Nat->Prop)(w:World)(b o:Nat)(v:Value):Prop:=¬O w b/\w.cell? ⟨b,o,none⟩=some v
structure YH(O:World->Nat->Prop)(H0:Nat)(Ts:TypeId->Prop):Prop where
  new:∀(W:World)(cs:Array Value)(T:TypeId),Ts T->H0<=W.heap.size->¬O (W.alloc (.cells cs T)) W.heap.size
  old:∀(W:World)(o:Obj)(b:Nat),b<W.heap.size->¬O W b->¬O (W.alloc o) b
section
variable {O:World->Nat->Prop}{H0:Nat}{Ts:TypeId->Prop}{w w' a b c:World}
theorem yH.refl(O:World->Nat->Prop)(w:World):yH O w w:=⟨Nat.le_refl _,fun _ _ h=>⟨h,fun _ _ h'=>h'⟩⟩
theorem yH.trans{A B C:World}(h:yH O A B)(k:yH O B C):yH O A C:=⟨Nat.le_trans h.1 k.1,fun x hx hn=>⟨(k.2 x (Nat.lt_of_lt_of_le hx h.1) (h.2 x hx hn).1).1,fun o v hv=>(k.2 x (Nat.lt_of_lt_of_le hx h.1) (h.2 x hx hn).1).2 o v ((h.2 x hx hn).2 o v hv)⟩⟩
theorem yH.at{x o:Nat}{v:Value}(h:yH O w w')(ha:At O w x o v):At O w' x o v:=by
  have:=h.2 x (by simpa using World.block_lt_of_cell? w _ ha.2) ha.1;exact⟨this.1,this.2 o v ha.2⟩
theorem yH.ZE(F:YH O H0 Ts)(w:World)(o:Obj):yH O w (w.alloc o):=by
  exact⟨by simp,fun x hl hx=>⟨F.old w o x hl hx,fun off v hv=>((zD.refl zC w).alloc o).cell hv (fun x=>x)⟩⟩
theorem yH.alloc(F:YH O H0 Ts)(h:yH O a w)(o:Obj):yH O a (w.alloc o):=h.trans (yH.ZE F w o)
theorem YH.Xu(F:YH O H0 Ts){T:TypeId}(hT:Ts T){W w':World}(hH:H0<=W.heap.size){c0 c1 c2 c3:Value}(h:yH O (W.alloc (.cells #[c0,c1,c2,c3] T)) w'):
    At O w' W.heap.size 0 c0/\At O w' W.heap.size 1 c1/\At O w' W.heap.size 2 c2/\At O w' W.heap.size 3 c3:=by
  have hn:=F.new W #[c0,c1,c2,c3] T hT hH;have bb:=(YO.refl zC (W.alloc (.cells #[c0,c1,c2,c3] T))).Xu (fun x=>x);exact⟨h.at ⟨hn,bb.1⟩,h.at ⟨hn,bb.2.1⟩,h.at ⟨hn,bb.2.2.1⟩,h.at ⟨hn,bb.2.2.2⟩⟩
mutual
theorem zK.xy(h:yH O w w'):∀(d:yP)(cs:List Value),zK (O w) w d cs->zK (O w') w' d cs
  | .int _ _,_,r=>by simpa only[zK]using r
  | .bool _,_,r=>by simpa only[zK]using r
  | .str _,_,r=>by simpa only[zK]using r
  | .st fs,cs,r=>by simp only[zK]at r ⊢;exact yy.xy h fs cs r
  | .seq wd xs,cs,r=>by
      simp only[zK]at r ⊢;obtain⟨a,cap,h1,h2,h3⟩:=r;exact⟨a,cap,h1,h2,zH.xy h wd xs a 0 h3⟩
theorem yy.xy(h:yH O w w'):∀(ds:List yP)(cs:List Value),yy (O w) w ds cs->yy (O w') w' ds cs
  | [],_,r=>by simpa only[yy]using r
  |d :: ds,cs,r=>by
     simp only[yy]at r ⊢;obtain⟨c1,c2,h1,h2,h3⟩:=r;exact⟨c1,c2,h1,zK.xy h d c1 h2,yy.xy h ds c2 h3⟩
theorem zH.xy(h:yH O w w')(wd:Nat):∀(ds:List yP)(a:Option Addr)(j:Nat),zH (O w) w wd ds a j->zH (O w') w' wd ds a j
  | [],_,_,_=>by simp only[zH]
  |d :: ds,a,j,r=>by
     simp only[zH]at r ⊢;obtain⟨⟨b,o,cs,h1,hb,h2,h3,h4,h5⟩,h6⟩:=r;exact⟨⟨b,o,cs,h1,Nat.lt_of_lt_of_le hb h.1,(h.2 b hb h2).1,h3,fun i v hv=>(h.2 b hb h2).2 _ v (h4 i v hv),zK.xy h d cs h5⟩,zH.xy h wd ds a _ h6⟩
end
theorem yH.of(O:Nat->Prop)(h:YO O w w'):yH (fun _=>O) w w':=⟨h.1,fun b _ hn=>⟨hn,fun o v hv=>h.2 b o v hn hv⟩⟩
theorem YH.of(O:Nat->Prop)(Ts:TypeId->Prop)(h:∀ b,H0<=b->¬O b):YH (fun _=>O) H0 Ts:=⟨fun _ _ _ _ hb=>h _ hb,fun _ _ _ _ h=>h⟩
theorem zH.zIb{wd:Nat}{ds:List yP}{x:Option Addr}{j:Nat}(r:zH (O w) w wd ds x j)(h:yH O w w'):zH (O w') w' wd ds x j:=zH.xy h wd ds x j r
end
end
section
namespace Tm
mutual
def scope:Tm->Int
  |mk k _ i l=>scopes k 0 (if k == 5 then i+1 else 0) l
def scopes(k:Int)(j:Nat)(acc:Int):List Tm->Int
  | []=>acc
  |t :: ts=>scopes k (j+1) (max acc (scope t - under k j)) ts
end
mutual
def ZB(acc:List Int):Tm->List Int
  |mk k _ i l=>Zs (if k == 6 && !acc.contains i then acc++[i]else acc) l
def Zs(acc:List Int):List Tm->List Int
  | []=>acc
  |t :: ts=>Zs (ZB acc t) ts
end
def Zo(t:Tm):List Int:=ZB [] t
def yL(acc:Int)(x:Nd0):Int:=if x.k == 5 then max acc (x.i - x.b+1)else acc
def yI(acc:List Int)(x:Nd0):List Int:=if x.k == 6 && !acc.contains x.i then acc++[x.i]else acc
def zEk(acc:List (List UInt8))(x:Nd0):List (List UInt8):=if x.k == 4 && !acc.contains x.n then acc++[x.n]else acc
theorem qH(k:Int)(l:List Tm):∀(j:Nat)(acc:Int),acc<=scopes k j acc l:=by
  induction l with
  |nil=>intro j acc;simp[scopes]
  |cons t ts ih=>intro j acc;rw[scopes];have:=ih (j+1) (max acc (scope t - under k j));omega
theorem Xd(t:Tm)(h:t.kind == 5->0<=t.index):0<=scope t:=by
  cases t with
  |mk k n i l=>
   rw[scope];have:=qH k l 0 (if(k == 5)=true then i+1 else 0);by_cases hk:(k == 5)=true
   ·rw[if_pos hk]at this ⊢;have:=h hk;simp at this;omega
   ·rw[if_neg hk]at this ⊢;omega
theorem QX(t:Tm):∀(b acc:Int),0<=b->0<=acc->(nodes b t).foldl yL acc=max acc (scope t - b):=by
  induction t using ind with
  |h k n i l ih=>
   intro b acc hb ha;rw[zb,List.foldl_cons,scope]
   have key:∀(l':List Tm),(∀ t∈l',∀(b acc:Int),0<=b->0<=acc->(nodes b t).foldl yL acc=max acc (scope t - b))->
       ∀(j:Nat)(a c:Int),0<=a->a=max a (c - b)->(zX b k j l').foldl yL a=max a (scopes k j c l' - b):=by
     intro l';induction l' with
     |nil=>intro _ j a c h0 h1;simp only[zX,List.foldl_nil,scopes];exact h1
     |cons t ts ih2=>
      intro h j a c h0 h1;have hu:=yF k j;simp only[zX,List.foldl_append,scopes];rw[h t (by simp) (b+under k j) a (by omega) h0,ih2 (fun t ht=>h t (by simp[ht])) (j+1) _ (max c (t.scope - under k j)) (by omega) (by omega)];have:=qH k ts (j+1) (max c (t.scope - under k j));omega
   by_cases hk:(k == 5)=true
   ·simp only[yL,hk,if_true];rw[key l ih 0 (max acc (i - b+1)) (i+1) (by omega) (by omega)];have:=qH k l 0 (i+1);omega
   ·simp only[yL,if_neg hk];exact key l ih 0 acc 0 (by omega) (by omega)
theorem zB0(t:Tm)(h:t.kind == 5->0<=t.index):(nodes 0 t).foldl yL 0=scope t:=by
  rw[QX t 0 0 (by omega) (by omega)];have:=Xd t h;omega
theorem XW(t:Tm):∀(b:Int)(acc:List Int),(nodes b t).foldl yI acc=ZB acc t:=by
  induction t using ind with
  |h k n i l ih=>
   intro b acc;rw[zb,List.foldl_cons,ZB]
   have key:∀(l':List Tm),(∀ t∈l',∀(b:Int)(acc:List Int),(nodes b t).foldl yI acc=ZB acc t)->∀(j:Nat)(acc:List Int),(zX b k j l').foldl yI acc=Zs acc l':=by
     intro l';induction l' with
     |nil=>intro _ j acc;simp[zX,Zs]
     |cons t ts ih2=>intro h j acc;simp only[zX,List.foldl_append,Zs];rw[h t (by simp),ih2 (fun t ht=>h t (by simp[ht]))]
   exact key l ih 0 _
def Nd0.ok(x:Nd0):Prop:=((x.k == 5)=true->0<=x.i/\x.i<=1048576)/\((x.k == 6)=true->0<=x.i/\x.i<2048)/\((x.k == 4)=true->x.n.length<=64)
theorem XY(n:List UInt8)(h:isName n=true):n.length<=64:=by
  simp[isName]at h;omega
theorem Z9{p:Nd0->Prop}{b k:Int}{l:List Tm}(h:∀ t∈l,∀ b,∀ x∈nodes b t,p x):∀ j,∀ x∈zX b k j l,p x:=by
  induction l with
  |nil=>intro j x hx;simp[zX]at hx
  |cons t ts ih=>
   intro j x hx;simp only[zX,List.mem_append]at hx;rcases hx with hx |hx
   ·exact h t (by simp) _ x hx
   ·exact ih (fun t ht=>h t (by simp[ht])) (j+1) x hx
theorem Q0(t:Tm):t.isObj=true->∀ b,∀ x∈nodes b t,x.ok:=by
  induction t using ind with
  |h k n i l ih=>
   intro h b x hx;have hall:ze l=true->∀ t∈l,t.isObj=true:=by rw[zu,List.all_eq_true];exact fun x=>x
   rw[isObj]at h;rw[zb]at hx;have hA:ze l=true:=by split at h<;>(try split at h)<;>(try split at h)<;>(try split at h)<;>simp_all
   rcases List.mem_cons.1 hx with rfl |hx
   ·refine⟨fun e=>?_,fun e=>?_,fun e=>?_⟩<;>simp at e<;>subst e<;>simp at h
    ·simp;omega
    ·simp;omega
    ·simpa using XY n h.1.1
   ·exact Z9 (fun t ht b x hx=>ih t ht (hall hA t ht) b x hx) 0 x hx
theorem zDD(t:Tm):t.zT=true->∀ b,∀ x∈nodes b t,x.ok:=by
  induction t using ind with
  |h k n i l ih=>
   intro h b x hx;rw[zT]at h;rcases Bool.or_eq_true_iff.1 h with h |h
   ·refine Q0 _ ?_ b x hx;simp[isAtom]at h;rw[isObj];simp[h]
   ·have hall:yq l=true->∀ t∈l,t.zT=true:=by rw[YB,List.all_eq_true];exact fun x=>x
    simp at h;rw[zb]at hx;rcases List.mem_cons.1 hx with rfl |hx
    ·refine⟨fun e=>?_,fun e=>?_,fun e=>?_⟩<;>simp[h.1]at e
    ·exact Z9 (fun t ht b x hx=>ih t ht (hall h.2.2 t ht) b x hx) 0 x hx
theorem zHf(t:Tm):t.zc=true->∀ b,∀ x∈nodes b t,x.ok:=by
  induction t using ind with
  |h k n i l ih=>
   intro h b x hx;rw[zb]at hx;match l,h,ih,hx with
   | [],h,ih,hx=>
     simp[zc]at h;simp[zX]at hx;subst hx;refine⟨fun e=>?_,fun e=>?_,fun e=>?_⟩<;>simp[h.1]at e
   | [a],h,ih,hx=>simp[zc]at h
   |a :: c :: d :: l,h,ih,hx=>simp[zc]at h
   | [a,c],h,ih,hx=>
     simp[zc]at h;rcases List.mem_cons.1 hx with rfl |hx
     ·refine⟨fun e=>?_,fun e=>?_,fun e=>?_⟩<;>simp[h.1]at e
     ·simp only[zX,List.append_nil,List.mem_append]at hx;rcases hx with hx |hx
      ·exact zDD a h.2.2.1 _ x hx
      ·exact ih c (by simp) h.2.2.2 _ x hx
theorem YV(t:Tm)(h:t.wf=0):(∀ b,∀ x∈nodes b t,x.ok)/\t.size<=4096/\t.depth<=128:=by
  unfold wf at h;by_cases h1:(!t.isObj && !t.zT && !t.zc)=true
  ·rw[if_pos h1]at h;omega
  rw[if_neg h1]at h;by_cases h2:(!t.small)=true
  ·rw[if_pos h2]at h;omega
  have h2':t.small=true:=by simpa using h2
  unfold small at h2';simp at h2' h1;refine⟨?_,h2'⟩;by_cases ho:t.isObj=true
  ·exact Q0 t ho
  by_cases hy:t.zT=true
  ·exact zDD t hy
  ·exact zHf t (h1 (by simpa using ho) (by simpa using hy))
theorem zBA(t:Tm):∀ b,∀ x∈nodes b t,b<=x.b/\x.b<b+t.size:=by
  induction t using ind with
  |h k n i l ih=>
   intro b x hx;rw[zb]at hx;rw[zS];rcases List.mem_cons.1 hx with rfl |hx
   ·simp;omega
   ·have key:∀(l':List Tm),(∀ t∈l',t∈l)->∀ j,∀ x∈zX b k j l',b<=x.b/\x.b<b+(zO l+1):=by
      intro l';induction l' with
      |nil=>intro _ j x hx;simp[zX]at hx
      |cons t ts ih2=>
       intro hs j x hx;simp only[zX,List.mem_append]at hx;rcases hx with hx |hx
       ·have:=ih t (hs t (by simp)) _ x hx;have:=yF k j;have:=zR (hs t (by simp));omega
       ·exact ih2 (fun t ht=>hs t (by simp[ht])) _ x hx
    exact key l (fun _ h=>h) 0 x hx
end Tm
end
section
open Go.RowKit Go.MapKept
def Seen(W:World)(m:Nat)(ks:List Value):Prop:=∃ es clock,W.heap[m]? =some (.map es clock)/\es.toList.map (·.key)=ks/\∀ e∈es.toList,e.val=.bool true
variable {P:Program}{W:World}{mt kt bt:TypeId}{d:TypeDesc}{m:Nat}{ks:List Value}{key:Value}
theorem Seen.made(W:World):Seen (W.alloc (.map #[] 0)) W.heap.size []:=⟨#[],0,heap_alloc_new W _,rfl,by simp⟩
theorem Seen.kept{W':World}{row:Option Nat}(h:Seen W m ks)(hg:W.grownBy W' row)(hr:some m≠row):Seen W' m ks:=by
  obtain⟨es,clock,h1,h2,h3⟩:=h;exact⟨es,clock,(hg.block m (Array.getElem?_eq_some_iff.1 h1).1 hr).trans h1,h2,h3⟩
theorem Seen.lookup(hm:P.underlying mt=some (.map kt bt))(hk:P.underlying kt=some d)(hb:(zeroValue bt).run P W=.ok (.bool false) W)(hS:Seen W m ks)
    (hks:∀ k∈ks,IsKey d k) (hkey:IsKey d key) (b:Bool) (hbk:b=true↔key∈ks):(Instr.lookup mt (.map (some m)) key false).run P W=.ok (.bool b) W:=by
  obtain⟨es,clock,h1,h2,h3⟩:=hS;have hes:∀ x∈es.toList,IsKey d x.key:=fun x hx=>hks _ (by rw[<-h2];exact List.mem_map_of_mem hx)
  rcases findNow_spec hkey es.toList 0 hes with⟨f1,f2⟩|⟨j,e,f1,f2,f3⟩
  ·have hbf:b=false:=by
     rw[<-Bool.not_eq_true,hbk,<-h2];intro h;obtain⟨x,hx,hxk⟩:=List.mem_map.1 h;exact f2 x hx hxk
   subst hbf;simp[Instr.lookup,run_underlying hm,MapKept.run_getObj_map h1,run_checkKey hk hkey,run_findKey hk f1,hb,Result.andThen]
  ·have he:e∈es.toList:=List.mem_of_getElem? f2
   have hbt:b=true:=by
     rw[hbk,<-h2];exact List.mem_map.2 ⟨e,he,f3⟩
   subst hbt;simp[Instr.lookup,run_underlying hm,MapKept.run_getObj_map h1,run_checkKey hk hkey,run_findKey hk f1,h3 e he,Result.andThen]
theorem Seen.store(hm:P.underlying mt=some (.map kt bt))(hk:P.underlying kt=some d)(hS:Seen W m ks)
    (hks:∀ k∈ks,IsKey d k) (hkey:IsKey d key) (hn:key∉ks):∃ W',(Instr.mapUpdate mt (.map (some m)) key (.bool true)).run P W=.ok () W'/\Seen W' m (ks++[key])/\W.grownBy W' (some m)/\W.heap.size<=W'.heap.size:=by
  obtain⟨es,clock,h1,h2,h3⟩:=hS;have hes:∀ x∈es.toList,IsKey d x.key:=fun x hx=>hks _ (by rw[<-h2];exact List.mem_map_of_mem hx)
  rcases findNow_spec hkey es.toList 0 hes with⟨f1,f2⟩|⟨j,e,f1,f2,f3⟩
  ·refine⟨{ W with heap:=W.heap.setIfInBounds m (.map (es.push { key,val:=.bool true,born:=clock }) (clock+1)) },?_,⟨_,_,(heap_set h1).1,?_,?_⟩,⟨rfl,rfl,rfl,by simp,fun k _ hne=>?_⟩,by simp⟩
   ·simp[Instr.mapUpdate,run_underlying hm,MapKept.run_getObj_map h1,run_checkKey hk hkey,run_findKey hk f1,run_setObj_map _ h1,Result.andThen]
   ·simp[h2]
   ·intro x hx;simp only[Array.toList_push,List.mem_append,List.mem_singleton]at hx;rcases hx with hx |rfl
    ·exact h3 x hx
    ·rfl
   ·exact(heap_set h1).2 k (fun e=>hne (by rw[e]))
  ·exact absurd (by rw[<-h2];exact List.mem_map.2 ⟨e,List.mem_of_getElem? f2,f3⟩) hn
end
section
namespace Tm
mutual
def vr(n:Int):Tm->Option Int
  |mk k _ i l=>if k == 3 then vr0 n l else if k == 5 && (decide (n<=i) && ((l.length:Int) == n && vrs (n - 1) l))then some (i - n)else none
def vr0(n:Int):List Tm->Option Int
  | []=>none
  |t :: _=>vr (n+1) t
def vrs(e:Int):List Tm->Bool
  | []=>true
  |t :: ts=>vr 0 t == some e && vrs (e - 1) ts
end
theorem zDc(n k nm i l):vr n (mk k nm i l)=if k == 3 then vr0 n l else if k == 5 && (decide (n<=i) && ((l.length:Int) == n && vrs (n - 1) l))then some (i - n)else none:=by rw[vr]
def vrw(t:Tm):Option Int:=if t.wf == 0 then vr 0 t else none
theorem zCO(e:Int)(l:List Tm)(j:Nat)(h:j<l.length):vrs (e - j) (l.drop j)=(vr 0 l[j] == some (e - j) && vrs (e - (j+1:Nat)) (l.drop (j+1))):=by
  rw[List.drop_eq_getElem_cons h,vrs];congr 2;omega
theorem zFP{t:Tm}(hw:t.wf=0):t.kind=3\/t.kind=5->t.isObj=true:=by
  intro hk;cases ho:t.isObj with
  |true=>rfl
  |false=>
   cases t with
   |mk k n i l=>
    simp only[QC]at hk;have ht:(mk k n i l).zT=false:=by rw[zT,isAtom];rcases hk with rfl |rfl<;>simp
    have hn:(mk k n i l).zc=false:=by
      unfold zc;split
      ·rename_i e;cases e;rcases hk with rfl |rfl<;>simp
      ·rename_i e;cases e;rcases hk with rfl |rfl<;>simp
    unfold wf at hw;rw[ho,ht,hn]at hw;simp at hw
theorem ym{k i:Int}{n:List UInt8}{l:List Tm}(h:(mk k n i l).isObj=true):(∀ t∈l,t.isObj=true)/\(k=3->l.length=1):=by
  rw[isObj]at h;have key:ze l=true->∀ t∈l,t.isObj=true:=fun h=>by rw[zu,List.all_eq_true]at h;exact h
  split at h
  ·simp[bound]at h;exact⟨key h.2,fun _=>h.1.1.2⟩
  ·rename_i h3;refine⟨?_,fun e=>absurd e h3⟩;split at h
   ·simp at h;exact key h.2
   ·split at h
    ·simp at h;exact key h.2
    ·split at h
     ·simp at h;exact key h.2
     ·cases h
end Tm
end
end Go.LF
namespace Go.LF.Tm
def zA7(t:Tm):Prop:=t.isObj=true\/t.zT=true\/t.zc=true
theorem zEp{k i:Int}{n:List UInt8}{l:List Tm}(h:zA7 (mk k n i l)):
    (∀ a∈l,zA7 a)/\(k=5->(∀ a∈l,a.isObj=true)/\0<=i/\i<=1048576)/\(k=3->l.length=1)/\(k=2->l.length=2):=by
  rcases h with h |h |h
  ·obtain⟨h1,h2⟩:=ym h;refine⟨fun a ha=>.inl (h1 a ha),fun e=>⟨h1,?_⟩,h2,fun e=>?_⟩
   ·subst e;rw[isObj]at h;simp at h;omega
   ·subst e;rw[isObj]at h;simp at h
  ·rw[zT,isAtom]at h;by_cases h4:k=4
   ·subst h4;simp at h;have h3:ze l=true:=h.2;rw[zu,List.all_eq_true]at h3;exact⟨fun a ha=>.inl (h3 a ha),fun e=>absurd e (by decide),fun e=>absurd e (by decide),fun e=>absurd e (by decide)⟩
   ·have h4':(k == 4)=false:=by simpa using h4
    rw[h4']at h;simp only[Bool.false_and,Bool.false_or,Bool.and_eq_true,beq_iff_eq]at h;obtain⟨rfl,h2,h3⟩:=h;rw[YB,List.all_eq_true]at h3;unfold bound at h2;simp only[Bool.and_eq_true,beq_iff_eq]at h2;exact⟨fun a ha=>.inr (.inl (h3 a ha)),fun e=>absurd e (by decide),fun e=>absurd e (by decide),fun _=>h2.1.2⟩
  ·unfold zc at h;split at h
   ·rename_i a b e;cases e
    simp only[Bool.and_eq_true,beq_iff_eq]at h;obtain⟨rfl,h2,h3,h4⟩:=h;refine⟨fun x hx=>?_,fun e=>absurd e (by decide),fun e=>absurd e (by decide),fun _=>rfl⟩;rcases List.mem_cons.1 hx with rfl |hx
    ·exact .inr (.inl h3)
    ·obtain rfl:x=b:=by simpa using hx
     exact .inr (.inr h4)
   ·rename_i e;cases e
    simp at h;obtain⟨rfl,h2,h3,h4⟩:=h;subst h4;exact⟨fun x hx=>by simp at hx,fun e=>absurd e (by decide),fun e=>absurd e (by decide),fun e=>absurd e (by decide)⟩
theorem ZZ{t:Tm}(h:t.wf=0):zA7 t/\t.size<=4096/\t.depth<=128:=by
  unfold wf at h;split at h
  ·cases h
  ·rename_i h1;split at h
   ·cases h
   ·rename_i h2;simp only[small,Bool.not_eq_true',Bool.not_eq_false,Bool.and_eq_true,decide_eq_true_eq]at h2;refine⟨?_,h2⟩;unfold zA7;cases ho:t.isObj
    ·cases hy:t.zT
     ·cases hk:t.zc
      ·rw[ho,hy,hk]at h1;simp at h1
      ·simp
     ·simp
    ·simp
end Go.LF.Tm
namespace Go.LF.Sm
structure YZ(s:Sm)(d:Nat):Prop where
  form:s.form=true
  depth:s.depth<=d+1
  size:s.size+1<=2 ^ (d+1)
  wt:s.wt+5<=5 * 2 ^ (d+1)
theorem zH5{f:List UInt8}{ts:List Sm}{d:Nat}(hf:zAZ f=true)(hl:f.length<=4)(hlen:ts.length<=2)(hts:∀ t∈ts,YZ t d):YZ (mk f ts) (d+1):=by
  have h2:2 ^ (d+1+1)=2 * 2 ^ (d+1):=by rw[Nat.pow_succ];omega
  have hsz:XB ts=true/\zO ts+ts.length<=ts.length * 2 ^ (d+1)/\zQ ts<=d+1/\ye ts+5 * ts.length<=5 * (ts.length * 2 ^ (d+1)):=by
    clear hlen;induction ts with
    |nil=>simp[zO,zQ,ye,XB]
    |cons t ts ih=>
     obtain⟨i1,i2,i3,i4⟩:=ih (fun t ht=>hts t (by simp[ht]));have h:=hts t (by simp);have:=h.size;have:=h.depth;have:=h.wt;simp only[zO,zQ,ye,XB,List.length_cons,Nat.add_mul,Nat.one_mul,h.form,Bool.true_and];exact⟨i1,by omega,by omega,by omega⟩
  have hmul:ts.length * 2 ^ (d+1)<=2 * 2 ^ (d+1):=Nat.mul_le_mul_right _ hlen;have hp:1<=2 ^ (d+1):=Nat.one_le_two_pow;obtain⟨ho,hs,hd,hw⟩:=hsz;refine⟨?_,?_,?_,?_⟩
  ·rw[zAm,hf,ho];rfl
  ·simp;omega
  ·have:ts.length=0\/ts.length=1\/ts.length=2:=by omega
   simp only[zS];rcases this with e |e |e<;>rw[e]at hs<;>omega
  ·have:ts.length=0\/ts.length=1\/ts.length=2:=by omega
   simp only[yM];rcases this with e |e |e<;>rw[e]at hw<;>omega
theorem zGH{f:List UInt8}(hf:zAZ f=true)(hl:f.length<=4):YZ (mk f []) 0:=by
  refine⟨?_,by simp[zQ],by simp[zO],by simp[ye];omega⟩;rw[zAm,hf];rfl
theorem YZ.mono{s:Sm}{d d':Nat}(h:YZ s d)(hd:d<=d'):YZ s d':=by
  have:=Nat.pow_le_pow_right (show 0<2 by omega) (show d+1<=d'+1 by omega);exact⟨h.form,by have:=h.depth;omega,by have:=h.size;omega,by have:=h.wt;omega⟩
end Go.LF.Sm
