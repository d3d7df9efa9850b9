/- xT as plain data, and what the functions of layer 5 compute of them. No program is in sight here. -/
import Derived.Below
import Derived.IntWalk
import Derived.MapKept
import Derived.Maps.Keyed
import Derived.RowKit
import Derived.WalkKit
namespace Go.LF
section
inductive Tm where
  |mk (kind:Int) (name:List UInt8) (index:Int) (args:List Tm)
namespace Tm
def kind:Tm->Int |mk k _ _ _=>k
def name:Tm->List UInt8 |mk _ n _ _=>n
def index:Tm->Int |mk _ _ i _=>i
def args:Tm->List Tm |mk _ _ _ l=>l
@[simp] theorem zAz(k n i l):kind (mk k n i l)=k:=rfl
@[simp] theorem zBI(k n i l):name (mk k n i l)=n:=rfl
@[simp] theorem Qb(k n i l):index (mk k n i l)=i:=rfl
@[simp] theorem x6(k n i l):args (mk k n i l)=l:=rfl
theorem ind{P:Tm->Prop}(h:∀ k n i l,(∀ a∈l,P a)->P (mk k n i l))(t:Tm):P t:=
  Tm.rec (motive_1:=P) (motive_2:=fun l=>∀ a∈l,P a) (fun k n i l ih=>h k n i l ih) (by simp) (fun t ts h1 h2=>by simpa using⟨h1,h2⟩) t
mutual
def size:Tm->Nat
  |mk _ _ _ l=>zO l+1
def zO:List Tm->Nat
  | []=>0
  |t :: ts=>size t+zO ts
end
mutual
def depth:Tm->Nat
  |mk _ _ _ l=>zW l+1
def zW:List Tm->Nat
  | []=>0
  |t :: ts=>max (depth t) (zW ts)
end
@[simp] theorem zT(k n i l):size (mk k n i l)=zO l+1:=by rw[size]
@[simp] theorem yT(k n i l):depth (mk k n i l)=zW l+1:=by rw[depth]
theorem size_pos(t:Tm):0<t.size:=by cases t;simp
theorem y8(a b:List Tm):zO (a++b)=zO a+zO b:=by
  induction a with
  |nil=>simp[zO]
  |cons t ts ih=>simp[zO,ih];omega
theorem xF(a b:List Tm):zW (a++b)=max (zW a) (zW b):=by
  induction a with
  |nil=>simp[zW]
  |cons t ts ih=>simp[zW,ih]
theorem zM(l:List Tm):l.length<=zO l:=by
  induction l with
  |nil=>simp
  |cons t ts ih=>have:=size_pos t;simp only[zO,List.length_cons];omega
theorem zQ{t:Tm}{l:List Tm}(h:t∈l):t.size<=zO l:=by
  induction l with
  |nil=>cases h
  |cons u us ih=>
   rcases List.mem_cons.1 h with rfl |h
   ·simp only[zO];omega
   ·have:=ih h;simp only[zO];omega
theorem zp{t:Tm}{l:List Tm}(h:t∈l):t.depth<=zW l:=by
  induction l with
  |nil=>cases h
  |cons u us ih=>
   rcases List.mem_cons.1 h with rfl |h
   ·simp only[zW];omega
   ·have:=ih h;simp only[zW];omega
theorem yE(t:Tm):t.depth<=t.size:=by
  induction t using ind with
  |h k n i l ih=>
   simp only[yT,zT,Nat.add_le_add_iff_right];induction l with
   |nil=>simp[zW]
   |cons t ts ih2=>
    have h1:=ih t (by simp);have h2:=ih2 (fun a ha=>ih a (by simp[ha]));simp[zW,zO];omega
theorem zh(l:List Tm):zW l<=zO l:=by
  have:=yE (mk 0 [] 0 l);simpa using this
theorem zd(l:List Tm)(j:Nat)(h:j<l.length):zO (l.take (j+1))=zO (l.take j)+l[j].size:=by
  rw[List.take_succ_eq_append_getElem h,y8];simp[zO]
theorem yP(l:List Tm)(j:Nat)(h:j<l.length):zW (l.take (j+1))=max (zW (l.take j)) l[j].depth:=by
  rw[List.take_succ_eq_append_getElem h,xF];simp[zW]
theorem zj(l:List Tm)(j:Nat):zO (l.take j)<=zO l:=by
  conv=>rhs;rw[<-List.take_append_drop j l,y8]
  omega
theorem yU(l:List Tm)(j:Nat):zW (l.take j)<=zW l:=by
  conv=>rhs;rw[<-List.take_append_drop j l,xF]
  omega
mutual
def wt:Tm->Nat
  |mk _ n _ l=>n.length+Zz l+1
def Zz:List Tm->Nat
  | []=>0
  |t :: ts=>wt t+Zz ts
end
@[simp] theorem xP(k n i l):wt (mk k n i l)=n.length+Zz l+1:=by rw[wt]
theorem xA{t:Tm}{l:List Tm}(h:t∈l):t.wt<=Zz l:=by
  induction l with
  |nil=>cases h
  |cons u us ih=>
   rcases List.mem_cons.1 h with rfl |h
   ·simp only[Zz];omega
   ·have:=ih h;simp only[Zz];omega
theorem zk(t:Tm):t.size<=t.wt:=by
  induction t using ind with
  |h k n i l ih=>
   simp only[xP,zT]
   have:zO l<=Zz l:=by
     induction l with
     |nil=>simp[zO]
     |cons t ts ih2=>
      have h1:=ih t (by simp);have h2:=ih2 (fun a ha=>ih a (by simp[ha]));simp only[zO,Zz];omega
   omega
theorem yk(l:List Tm):zO l<=Zz l:=by
  have:=zk (mk 0 [] 0 l);simp only[xP,zT,List.length_nil]at this;omega
mutual
def same:Tm->Tm->Bool
  |mk k n i l,mk k' n' i' l'=>k == k' && (i == i' && ((n == n' || (k == 2 || k == 3)) && yn l l'))
def yn:List Tm->List Tm->Bool
  | [],[]=>true
  |a :: as',b :: bs=>same a b && yn as' bs
  | [],_ :: _=>false
  |_ :: _,[]=>false
end
theorem XT:∀(l m:List Tm),yn l m=true->l.length=m.length
  | [],[],_=>rfl
  |_ :: as',_ :: bs,h=>by simp only[yn,Bool.and_eq_true]at h;simp[XT as' bs h.2]
theorem XA(l m:List Tm)(h:l.length≠m.length):yn l m=false:=by
  cases hs:yn l m with
  |false=>rfl
  |true=>exact absurd (XT l m hs) h
theorem zCn(l m:List Tm)(j:Nat)(h1:j<l.length)(h2:j<m.length):yn (l.take (j+1)) (m.take (j+1))=(yn (l.take j) (m.take j) && same l[j] m[j]):=by
  induction l generalizing m j with
  |nil=>simp at h1
  |cons a as' ih=>
   cases m with
   |nil=>simp at h2
   |cons b bs=>
    cases j with
    |zero=>simp[yn]
    |succ j=>
     have:=ih bs j (by simpa using h1) (by simpa using h2);simp only[List.take_succ_cons,yn,List.getElem_cons_succ,this,Bool.and_assoc]
theorem zBt(l m:List Tm)(j:Nat)(hl:l.length=m.length)(h1:j<l.length)(h:same l[j] (m[j]'(by omega))=false):yn l m=false:=by
  induction l generalizing m j with
  |nil=>simp at h1
  |cons a as' ih=>
   cases m with
   |nil=>simp at hl
   |cons b bs=>
    cases j with
    |zero=>simp only[List.getElem_cons_zero]at h;simp[yn,h]
    |succ j=>
     have:=ih bs j (by simpa using hl) (by simpa using h1) (by simpa using h);simp[yn,this]
theorem zDd(k n i l k' n' i' l'):same (mk k n i l) (mk k' n' i' l')=(k == k' && (i == i' && ((n == n' || (k == 2 || k == 3)) && yn l l'))):=by rw[same]
structure Nd0 where
  b:Int
  k:Int
  n:List UInt8
  i:Int
def under(k:Int)(j:Nat):Int:=if k=3\/(k=2/\j=1)then 1 else 0
mutual
def nodes(b:Int):Tm->List Nd0
  |mk k n i l=>⟨b,k,n,i⟩ :: za b k 0 l
def za(b k:Int)(j:Nat):List Tm->List Nd0
  | []=>[]
  |t :: ts=>nodes (b+under k j) t++za b k (j+1) ts
end
theorem zo(b k n i l):nodes b (mk k n i l)=⟨b,k,n,i⟩ :: za b k 0 l:=by rw[nodes]
theorem Yq(l:List Tm)(b k:Int)(j:Nat)(h:∀ t∈l,∀ b,(nodes b t).length=t.size):(za b k j l).length=zO l:=by
  induction l generalizing j with
  |nil=>simp[za,zO]
  |cons t ts ih=>simp[za,zO,h t (by simp),ih (j+1) (fun u hu=>h u (by simp[hu]))]
theorem xS(t:Tm):∀ b,(nodes b t).length=t.size:=by
  induction t using ind with
  |h k n i l ih=>intro b;rw[zo];simp[Yq l b k 0 ih]
theorem Yt(l m:List Tm)(b k:Int)(j:Nat):za b k j (l++m)=za b k j l++za b k (j+l.length) m:=by
  induction l generalizing j with
  |nil=>simp[za]
  |cons t ts ih=>simp[za,ih (j+1),Nat.add_assoc,Nat.add_comm 1 ts.length]
theorem xj(l:List Tm)(b k:Int)(j:Nat)(h:j<l.length):za b k 0 (l.take (j+1))=za b k 0 (l.take j)++nodes (b+under k j) l[j]:=by
  rw[List.take_succ_eq_append_getElem h,Yt];simp[za,Nat.min_eq_left (Nat.le_of_lt h)]
theorem xJ(l:List Tm)(b k:Int)(j:Nat):za b k 0 (l.take j) <+: za b k 0 l:=by
  conv=>rhs;rw[<-List.take_append_drop j l,Yt]
  exact List.prefix_append _ _
theorem yl(k:Int)(j:Nat):0<=under k j/\under k j<=1:=by unfold under;split<;>omega
end Tm
end
section
def XQ(c:UInt8):Bool:=c.toNat == 40 || c.toNat == 41 || c.toNat == 91 || c.toNat == 93 || c.toNat == 123 || c.toNat == 125 || c.toNat == 58 || c.toNat == 46
def zx(c:UInt8):Bool:=decide (33<=c.toNat) && (decide (c.toNat<=126) && (!XQ c && c.toNat !=37))
def xG(s:List UInt8):Bool:=s == [45,62]|| s == [60,45]|| s == [61]|| s == [95]|| s == [116,121,112,101]
def isName(s:List UInt8):Bool:=!s.isEmpty && decide (s.length<=64) && s.all zx && !xG s && s.head? !=some 64
theorem qC(c:UInt8)(r:List UInt8):isName (c :: r)=(decide (r.length+1<=64) && (zx c && r.all zx) && !xG (c :: r) && c.toNat !=64):=by
  have h:((c :: r).head? !=some 64)=(c.toNat !=64):=by
    rw[Bool.eq_iff_iff];simp[<-UInt8.toNat_inj]
  simp only[isName,h];simp
theorem QH(c:UInt8)(r:List UInt8):isName (c :: r)=true↔r.length+1<=64/\(c :: r).all zx=true/\xG (c :: r)=false/\c.toNat≠64:=by
  rw[qC];simp[and_assoc]
theorem yS(c:UInt8)(r:List UInt8):isName (c :: r)=false↔¬(r.length+1<=64/\(c :: r).all zx=true/\xG (c :: r)=false/\c.toNat≠64):=by
  rw[<-QH];simp
theorem xH{α:Type}(p:α->Bool)(l:List α)(j:Nat)(h:j<l.length):(l.take (j+1)).all p=((l.take j).all p && p l[j]):=by
  rw[List.take_succ_eq_append_getElem h];simp only[List.all_append,List.all_cons,List.all_nil,Bool.and_true]
namespace Tm
def bound(n:List UInt8)(i:Int)(l:List Tm)(k:Nat):Bool:=i == 0 && l.length == k && (n == []|| n == [95]|| isName n)
mutual
def isObj:Tm->Bool
  |mk k n i l=>
   if k=3 then bound n i l 1 && ze l
   else if k=4 then isName n && i == 0 && ze l
   else if k=5 then n == [] && decide (0<=i) && decide (i<=1048576) && ze l
   else if k=6 then n == [] && decide (0<=i) && decide (i<2048) && ze l
   else false
def ze:List Tm->Bool
  | []=>true
  |t :: ts=>isObj t && ze ts
end
def isAtom:Tm->Bool |mk k n i l=>k == 4 && (isName n && i == 0 && ze l)
mutual
def zX:Tm->Bool
  |mk k n i l=>isAtom (mk k n i l)|| (k == 2 && (bound n i l 2 && yy l))
def yy:List Tm->Bool
  | []=>true
  |t :: ts=>zX t && yy ts
end
def zb:Tm->Bool
  |mk k n i [a,b]=>k == 2 && (bound n i [a,b] 2 && (zX a && zb b))
  |mk k n i l=>k == 1 && (n == [] && (i == 0 && l.isEmpty))
def small(t:Tm):Bool:=decide (t.size<=4096) && decide (t.depth<=128)
def wf(t:Tm):Int:=if !t.isObj && !t.zX && !t.zb then 1 else if !t.small then 2 else 0
theorem yA(l:List Tm):ze l=l.all isObj:=by
  induction l with
  |nil=>rfl
  |cons t ts ih=>simp[ze,ih]
theorem Zl(l:List Tm):yy l=l.all zX:=by
  induction l with
  |nil=>rfl
  |cons t ts ih=>simp[yy,ih]
end Tm
end
section
inductive Sm where
  |mk (fam:List UInt8) (args:List Sm)
namespace Sm
def fam:Sm->List UInt8 |mk f _=>f
def args:Sm->List Sm |mk _ l=>l
@[simp] theorem zG5(f l):fam (mk f l)=f:=rfl
@[simp] theorem x6(f l):args (mk f l)=l:=rfl
theorem ind{P:Sm->Prop}(h:∀ f l,(∀ a∈l,P a)->P (mk f l))(t:Sm):P t:=
  Sm.rec (motive_1:=P) (motive_2:=fun l=>∀ a∈l,P a) (fun f l ih=>h f l ih) (by simp) (fun t ts h1 h2=>by simpa using⟨h1,h2⟩) t
mutual
def size:Sm->Nat
  |mk _ l=>zO l+1
def zO:List Sm->Nat
  | []=>0
  |t :: ts=>size t+zO ts
end
mutual
def depth:Sm->Nat
  |mk _ l=>zW l+1
def zW:List Sm->Nat
  | []=>0
  |t :: ts=>max (depth t) (zW ts)
end
mutual
def wt:Sm->Nat
  |mk f l=>f.length+Zz l+1
def Zz:List Sm->Nat
  | []=>0
  |t :: ts=>wt t+Zz ts
end
@[simp] theorem zT(f l):size (mk f l)=zO l+1:=by rw[size]
@[simp] theorem yT(f l):depth (mk f l)=zW l+1:=by rw[depth]
@[simp] theorem xP(f l):wt (mk f l)=f.length+Zz l+1:=by rw[wt]
theorem size_pos(t:Sm):0<t.size:=by cases t;simp
theorem y8(a b:List Sm):zO (a++b)=zO a+zO b:=by
  induction a with
  |nil=>simp[zO]
  |cons t ts ih=>simp[zO,ih];omega
theorem xF(a b:List Sm):zW (a++b)=max (zW a) (zW b):=by
  induction a with
  |nil=>simp[zW]
  |cons t ts ih=>simp[zW,ih]
theorem zM(l:List Sm):l.length<=zO l:=by
  induction l with
  |nil=>simp
  |cons t ts ih=>have:=size_pos t;simp only[zO,List.length_cons];omega
theorem zQ{t:Sm}{l:List Sm}(h:t∈l):t.size<=zO l:=by
  induction l with
  |nil=>cases h
  |cons u us ih=>
   rcases List.mem_cons.1 h with rfl |h
   ·simp only[zO];omega
   ·have:=ih h;simp only[zO];omega
theorem xA{t:Sm}{l:List Sm}(h:t∈l):t.wt<=Zz l:=by
  induction l with
  |nil=>cases h
  |cons u us ih=>
   rcases List.mem_cons.1 h with rfl |h
   ·simp only[Zz];omega
   ·have:=ih h;simp only[Zz];omega
theorem zk(t:Sm):t.size<=t.wt:=by
  induction t using ind with
  |h f l ih=>
   simp only[xP,zT]
   have:zO l<=Zz l:=by
     induction l with
     |nil=>simp[zO]
     |cons t ts ih2=>
      have h1:=ih t (by simp);have h2:=ih2 (fun a ha=>ih a (by simp[ha]));simp only[zO,Zz];omega
   omega
theorem yk(l:List Sm):zO l<=Zz l:=by
  have:=zk (mk [] l);simp only[xP,zT,List.length_nil]at this;omega
theorem yE(t:Sm):t.depth<=t.size:=by
  induction t using ind with
  |h f l ih=>
   simp only[yT,zT,Nat.add_le_add_iff_right];induction l with
   |nil=>simp[zW]
   |cons t ts ih2=>
    have h1:=ih t (by simp);have h2:=ih2 (fun a ha=>ih a (by simp[ha]));simp[zW,zO];omega
theorem zh(l:List Sm):zW l<=zO l:=by
  have:=yE (mk [] l);simpa using this
theorem zd(l:List Sm)(j:Nat)(h:j<l.length):zO (l.take (j+1))=zO (l.take j)+l[j].size:=by
  rw[List.take_succ_eq_append_getElem h,y8];simp[zO]
theorem yP(l:List Sm)(j:Nat)(h:j<l.length):zW (l.take (j+1))=max (zW (l.take j)) l[j].depth:=by
  rw[List.take_succ_eq_append_getElem h,xF];simp[zW]
theorem zj(l:List Sm)(j:Nat):zO (l.take j)<=zO l:=by
  conv=>rhs;rw[<-List.take_append_drop j l,y8]
  omega
theorem yU(l:List Sm)(j:Nat):zW (l.take j)<=zW l:=by
  conv=>rhs;rw[<-List.take_append_drop j l,xF]
  omega
def zBY(f:List UInt8):Bool:=f == [116,121,112,101]|| isName f
mutual
def form:Sm->Bool
  |mk f l=>zBY f && Za l
def Za:List Sm->Bool
  | []=>true
  |t :: ts=>form t && Za ts
end
theorem zDV(f l):form (mk f l)=(zBY f && Za l):=by rw[form]
theorem zD2(l:List Sm):Za l=l.all form:=by
  induction l with
  |nil=>rfl
  |cons t ts ih=>simp[Za,ih]
theorem zDP(l:List Sm)(j:Nat)(h:j<l.length):Za (l.drop j)=(form l[j] && Za (l.drop (j+1))):=by
  rw[List.drop_eq_getElem_cons h,Za]
def wf(s:Sm):Int:=if !s.form then 1 else if decide (4096<s.size)|| decide (128<s.depth)then 2 else 0
mutual
def same:Sm->Sm->Bool
  |mk f l,mk f' l'=>f == f' && yn l l'
def yn:List Sm->List Sm->Bool
  | [],[]=>true
  |a :: as',b :: bs=>same a b && yn as' bs
  | [],_ :: _=>false
  |_ :: _,[]=>false
end
end Sm
end
section
inductive yv where
  |int (k:IntKind) (n:Int)
  |bool (b:Bool)
  |str (s:ByteArray)
  |st (fs:List yv)
  |seq (wd:Nat) (xs:List yv)
structure zD(S:Nat->Prop)(w w':World):Prop where
  os:w'.os=w.os
  tape:w'.tape=w.tape
  output:w'.output=w.output
  size:w.heap.size<=w'.heap.size
  block:∀ k,k<w.heap.size->¬S k->w'.heap[k]? =w.heap[k]?
abbrev zC:Nat->Prop:=fun _=>False
theorem zFF(w:World)(o:Obj)(b:Nat)(h:b<w.heap.size):(w.alloc o).heap[b]? =w.heap[b]? :=RowKit.Below.heap_alloc _ _ _ h
theorem zD.refl(S:Nat->Prop)(w:World):zD S w w:=⟨rfl,rfl,rfl,Nat.le_refl _,fun _ _ _=>rfl⟩
theorem zD.trans{S S':Nat->Prop}{a b c:World}(h:zD S a b)(k:zD S' b c)(hs:∀ i,i<a.heap.size->S' i->S i):zD S a c:=
  ⟨k.os.trans h.os,k.tape.trans h.tape,k.output.trans h.output,Nat.le_trans h.size k.size,
    fun i hi hn=>(k.block i (Nat.lt_of_lt_of_le hi h.size) (fun x=>hn (hs i hi x))).trans (h.block i hi hn)⟩
theorem zD.mono{S S':Nat->Prop}{a b:World}(h:zD S a b)(hs:∀ i,i<a.heap.size->S i->S' i):zD S' a b:=
  ⟨h.os,h.tape,h.output,h.size,fun i hi hn=>h.block i hi (fun x=>hn (hs i hi x))⟩
theorem zD.drew{S:Nat->Prop}{a w:World}(h:zD S a w):zD S a w.drew:=⟨h.os,h.tape,h.output,h.size,h.block⟩
theorem zD.alloc{S:Nat->Prop}{a w:World}(h:zD S a w)(o:Obj):zD S a (w.alloc o):=
  h.trans (S':=zC) ⟨rfl,rfl,rfl,by simp,fun k hk _=>RowKit.Below.heap_alloc _ _ _ hk⟩ (fun _ _ x=>x.elim)
theorem zD.setCell{S:Nat->Prop}{a w:World}(h:zD S a w){p:Addr}(hp:p.block<a.heap.size->S p.block)(u:Value):zD S a (w.setCell p u):=
  h.trans (S':=fun k=>k=p.block) ⟨rfl,rfl,rfl,by simp[World.setCell],fun k _ hk=>RowKit.Below.heap_setCell _ _ _ _ hk⟩ (fun i hi e=>by subst e;exact hp hi)
theorem zD.below{B:Nat}{w w':World}(h:zD (fun k=>B<=k) w w')(hB:B<=w.heap.size):RowKit.Below B w w':=
  ⟨h.os,h.tape,h.output,h.size,fun k hk=>h.block k (by omega) (by omega)⟩
theorem zD.YL{S:Nat->Prop}{w w':World}(h:RowKit.Below w.heap.size w w'):zD S w w':=
  ⟨h.os,h.tape,h.output,h.size,fun k hk _=>h.block k hk⟩
theorem zD.cell{S:Nat->Prop}{w w':World}(h:zD S w w'){a:Addr}{v:Value}(hc:w.cell? a=some v)(hs:¬S a.block):w'.cell? a=some v:=
  (World.cell?_of_block (h.block _ (World.block_lt_of_cell? w a hc) hs)).trans hc
mutual
def zK(O:Nat->Prop)(w:World):yv->List Value->Prop
  | .int k n,cs=>cs=[.int k n]
  | .bool b,cs=>cs=[.bool b]
  | .str s,cs=>cs=[.string s]
  | .st fs,cs=>yu O w fs cs
  | .seq wd xs,cs=>∃ a cap,cs=[.slice a xs.length cap]/\xs.length<=cap/\zH O w wd xs a 0
def yu(O:Nat->Prop)(w:World):List yv->List Value->Prop
  | [],cs=>cs=[]
  |d :: ds,cs=>∃ c1 c2,cs=c1++c2/\zK O w d c1/\yu O w ds c2
def zH(O:Nat->Prop)(w:World)(wd:Nat):List yv->Option Addr->Nat->Prop
  | [],_,_=>True
  |d :: ds,a,j=>(∃ b o cs,a=some ⟨b,o,none⟩/\b<w.heap.size/\¬O b/\cs.length=wd/\(∀ i v,cs[i]? =some v->w.cell? ⟨b,o+j+i,none⟩=some v)/\zK O w d cs)/\
     zH O w wd ds a (j+wd)
end
def Z5(O:Nat->Prop)(w w':World):Prop:=w.heap.size<=w'.heap.size/\∀ b o v,¬O b->w.cell? ⟨b,o,none⟩=some v->w'.cell? ⟨b,o,none⟩=some v
theorem zD.cel{O S:Nat->Prop}{w w':World}(h:zD S w w')(hs:∀ k,S k->O k):Z5 O w w':=⟨h.size,fun _ _ _ hb hv=>h.cell hv (fun x=>hb (hs _ x))⟩
theorem Z5.trans{O:Nat->Prop}{a b c:World}(h:Z5 O a b)(k:Z5 O b c):Z5 O a c:=⟨Nat.le_trans h.1 k.1,fun x o v hx hv=>k.2 x o v hx (h.2 x o v hx hv)⟩
mutual
theorem zK.carry{O:Nat->Prop}{w w':World}(h:Z5 O w w'):∀(d:yv)(cs:List Value),zK O w d cs->zK O w' d cs
  | .int _ _,_,r=>by simpa only[zK]using r
  | .bool _,_,r=>by simpa only[zK]using r
  | .str _,_,r=>by simpa only[zK]using r
  | .st fs,cs,r=>by simp only[zK]at r ⊢;exact yu.carry h fs cs r
  | .seq wd xs,cs,r=>by
      simp only[zK]at r ⊢;obtain⟨a,cap,h1,h2,h3⟩:=r;exact⟨a,cap,h1,h2,zH.carry h wd xs a 0 h3⟩
theorem yu.carry{O:Nat->Prop}{w w':World}(h:Z5 O w w'):∀(ds:List yv)(cs:List Value),yu O w ds cs->yu O w' ds cs
  | [],_,r=>by simpa only[yu]using r
  |d :: ds,cs,r=>by
     simp only[yu]at r ⊢;obtain⟨c1,c2,h1,h2,h3⟩:=r;exact⟨c1,c2,h1,zK.carry h d c1 h2,yu.carry h ds c2 h3⟩
theorem zH.carry{O:Nat->Prop}{w w':World}(h:Z5 O w w')(wd:Nat):∀(ds:List yv)(a:Option Addr)(j:Nat),zH O w wd ds a j->zH O w' wd ds a j
  | [],_,_,_=>by simp only[zH]
  |d :: ds,a,j,r=>by
     simp only[zH]at r ⊢;obtain⟨⟨b,o,cs,h1,hb,h2,h3,h4,h5⟩,h6⟩:=r;exact⟨⟨b,o,cs,h1,Nat.lt_of_lt_of_le hb h.1,h2,h3,fun i v hv=>h.2 _ _ _ h2 (h4 i v hv),zK.carry h d cs h5⟩,zH.carry h wd ds a _ h6⟩
end
theorem zK.zF{O S:Nat->Prop}{w w':World}(h:zD S w w')(hs:∀ k,S k->O k)(d:yv)(cs:List Value)(r:zK O w d cs):zK O w' d cs:=zK.carry (h.cel hs) d cs r
theorem zH.zF{O S:Nat->Prop}{w w':World}(h:zD S w w')(hs:∀ k,S k->O k)(wd:Nat)(ds:List yv)(a:Option Addr)(j:Nat)(r:zH O w wd ds a j):zH O w' wd ds a j:=zH.carry (h.cel hs) wd ds a j r
mutual
theorem zK.weaken{O O':Nat->Prop}{w:World}(hs:∀ k,k<w.heap.size->O' k->O k):∀(d:yv)(cs:List Value),zK O w d cs->zK O' w d cs
  | .int _ _,_,r=>by simpa only[zK]using r
  | .bool _,_,r=>by simpa only[zK]using r
  | .str _,_,r=>by simpa only[zK]using r
  | .st fs,cs,r=>by simp only[zK]at r ⊢;exact yu.weaken hs fs cs r
  | .seq wd xs,cs,r=>by
      simp only[zK]at r ⊢;obtain⟨a,cap,h1,h2,h3⟩:=r;exact⟨a,cap,h1,h2,zH.weaken hs wd xs a 0 h3⟩
theorem yu.weaken{O O':Nat->Prop}{w:World}(hs:∀ k,k<w.heap.size->O' k->O k):∀(ds:List yv)(cs:List Value),yu O w ds cs->yu O' w ds cs
  | [],_,r=>by simpa only[yu]using r
  |d :: ds,cs,r=>by
     simp only[yu]at r ⊢;obtain⟨c1,c2,h1,h2,h3⟩:=r;exact⟨c1,c2,h1,zK.weaken hs d c1 h2,yu.weaken hs ds c2 h3⟩
theorem zH.weaken{O O':Nat->Prop}{w:World}(hs:∀ k,k<w.heap.size->O' k->O k)(wd:Nat):∀(ds:List yv)(a:Option Addr)(j:Nat),zH O w wd ds a j->zH O' w wd ds a j
  | [],_,_,_=>by simp only[zH]
  |d :: ds,a,j,r=>by
     simp only[zH]at r ⊢;obtain⟨⟨b,o,cs,h1,hb,h2,h3,h4,h5⟩,h6⟩:=r;exact⟨⟨b,o,cs,h1,hb,fun x=>h2 (hs _ hb x),h3,h4,zK.weaken hs d cs h5⟩,zH.weaken hs wd ds a _ h6⟩
end
theorem zH.get{O:Nat->Prop}{w:World}{wd:Nat}:∀{xs:List yv}{a:Option Addr}{j:Nat},zH O w wd xs a j->∀ i(h:i<xs.length),
    ∃ b o cs,a=some ⟨b,o,none⟩/\b<w.heap.size/\¬O b/\cs.length=wd/\(∀ m v,cs[m]? =some v->w.cell? ⟨b,o+j+i * wd+m,none⟩=some v)/\zK O w xs[i] cs:=by
  intro xs;induction xs with
  |nil=>intro a j _ i h;simp at h
  |cons d ds ih=>
   intro a j r i h;simp only[zH]at r;obtain⟨⟨b,o,cs,h1,hb,h2,h3,h4,h5⟩,h6⟩:=r;cases i with
   |zero=>exact⟨b,o,cs,h1,hb,h2,h3,by simpa using h4,h5⟩
   |succ i=>
    obtain⟨b',o',cs',g1,gb,g2,g3,g4,g5⟩:=ih h6 i (by simpa using h);refine⟨b',o',cs',g1,gb,g2,g3,?_,g5⟩;intro m v hm;have:=g4 m v hm;rw[Nat.add_mul,Nat.one_mul];rw[show o'+j+(i * wd+wd)+m=o'+(j+wd)+i * wd+m from by omega];exact this
abbrev B(l:List UInt8):ByteArray:=⟨l.toArray⟩
theorem zBC(l:List UInt8):(B l).size=l.length:=rfl
namespace Tm
mutual
def zN:Tm->yv
  |mk k n i as=>.st [.int .i64 k,.str (B n),.int .i64 i,.seq 4 (zAm as)]
def zAm:List Tm->List yv
  | []=>[]
  |t :: ts=>zN t :: zAm ts
end
theorem zAq(l:List Tm):zAm l=l.map zN:=by
  induction l with
  |nil=>rfl
  |cons t ts ih=>simp[zAm,ih]
end Tm
theorem zi{O:Nat->Prop}{w:World}{k:Int}{n:List UInt8}{i:Int}{as:List Tm}{cs:List Value}:
    zK O w (Tm.mk k n i as).zN cs↔∃ a cap,cs=[.int .i64 k,.string (B n),.int .i64 i,.slice a as.length cap]/\as.length<=cap/\zH O w 4 (as.map Tm.zN) a 0:=by
  simp only[Tm.zN,zK,yu,Tm.zAq];constructor
  ·rintro⟨c1,c2,rfl,rfl,c3,c4,rfl,rfl,c5,c6,rfl,rfl,c7,c8,rfl,⟨a,cap,rfl,h1,h2⟩,rfl⟩;exact⟨a,cap,by simp,by simpa using h1,h2⟩
  ·rintro⟨a,cap,rfl,h1,h2⟩;exact⟨[_],[_,_,_],rfl,rfl,[_],[_,_],rfl,rfl,[_],[_],rfl,rfl,[.slice a as.length cap],[],rfl,⟨a,cap,by simp,by simpa using h1,h2⟩,rfl⟩
theorem zg{O:Nat->Prop}{w:World}{as:List Tm}{a:Option Addr}(h:zH O w 4 (as.map Tm.zN) a 0)(i:Nat)(hi:i<as.length):
    ∃ b o k n x s c,a=some ⟨b,o,none⟩/\b<w.heap.size/\¬O b/\
      w.cell? ⟨b,o+i * 4,none⟩=some (.int .i64 k)/\w.cell? ⟨b,o+i * 4+1,none⟩=some (.string (B n))/\
      w.cell? ⟨b,o+i * 4+2,none⟩=some (.int .i64 x)/\w.cell? ⟨b,o+i * 4+3,none⟩=some (.slice s as[i].args.length c)/\
      zK O w as[i].zN [.int .i64 k,.string (B n),.int .i64 x,.slice s as[i].args.length c]:=by
  obtain⟨b,o,cs,h1,hb,h2,h3,h4,h5⟩:=h.get i (by simpa using hi);simp only[List.getElem_map]at h5;cases hx:as[i]with
  |mk k n x bs=>
   rw[hx]at h5;obtain⟨s,c,rfl,g1,g2⟩:=zi.1 h5;refine⟨b,o,k,n,x,s,c,h1,hb,h2,?_,?_,?_,?_,h5⟩
   ·simpa using h4 0 _ rfl
   ·simpa using h4 1 _ rfl
   ·simpa using h4 2 _ rfl
   ·simpa[Tm.args]using h4 3 _ rfl
theorem Z5.cell{O:Nat->Prop}{w w':World}(h:Z5 O w w'){b o:Nat}{v:Value}(hb:¬O b)(hv:w.cell? ⟨b,o,none⟩=some v):w'.cell? ⟨b,o,none⟩=some v:=h.2 b o v hb hv
theorem Z5.refl(O:Nat->Prop)(w:World):Z5 O w w:=⟨Nat.le_refl _,fun _ _ _ _ h=>h⟩
theorem Z5.alloc{O:Nat->Prop}{a w:World}(h:Z5 O a w)(o:Obj):Z5 O a (w.alloc o):=h.trans (((zD.refl zC w).alloc o).cel (fun _ x=>x.elim))
theorem Z5.weaken{O O':Nat->Prop}{w w':World}(h:Z5 O w w')(hs:∀ k,O k->O' k):Z5 O' w w':=⟨h.1,fun b o v hb hv=>h.2 b o v (fun x=>hb (hs _ x)) hv⟩
theorem Z5.XJ{O:Nat->Prop}{w w':World}{c0 c1 c2 c3:Value}{T:TypeId}(h:Z5 O (w.alloc (.cells #[c0,c1,c2,c3] T)) w')(hb:¬O w.heap.size):
    w'.cell? ⟨w.heap.size,0,none⟩=some c0/\w'.cell? ⟨w.heap.size,1,none⟩=some c1/\w'.cell? ⟨w.heap.size,2,none⟩=some c2/\w'.cell? ⟨w.heap.size,3,none⟩=some c3:=by
  refine⟨h.cell hb ?_,h.cell hb ?_,h.cell hb ?_,h.cell hb ?_⟩<;>rw[World.cell?_alloc_new]<;>rfl
theorem zD.behind{S:Nat->Prop}{w w':World}{o:Obj}(h:zD S (w.alloc o) w')(hs:∀ k,k<w.heap.size->S k->zC k:=by exact fun _ _ x=>x):zD zC w w':=
  ((zD.refl zC w).alloc o).trans h hs
theorem zD.cells{S:Nat->Prop}{W w1:World}(hb:zD S W w1):
    (∀ b o,b<W.heap.size->¬S b->w1.cell? ⟨b,o,none⟩=W.cell? ⟨b,o,none⟩)/\(∀ b o,b<W.heap.size->¬S b->w1.frozen? ⟨b,o,none⟩=W.frozen? ⟨b,o,none⟩):=
  ⟨fun b _ h n=>World.cell?_of_block (hb.block b h n),fun b _ h n=>World.frozen?_of_block (hb.block b h n)⟩
theorem zD.zCa{W w1:World}(hb:zD zC W w1):
    (∀ b o,b<W.heap.size->w1.cell? ⟨b,o,none⟩=W.cell? ⟨b,o,none⟩)/\(∀ b o,b<W.heap.size->w1.frozen? ⟨b,o,none⟩=W.frozen? ⟨b,o,none⟩):=
  ⟨fun b _ h=>World.cell?_of_block (hb.block b h (fun x=>x)),fun b _ h=>World.frozen?_of_block (hb.block b h (fun x=>x))⟩
theorem zK.on{O:Nat->Prop}{w w':World}{d:yv}{cs:List Value}(r:zK O w d cs)(h:zD zC w w'):zK O w' d cs:=zK.zF h (fun _ x=>x.elim) d cs r
theorem zH.cel{O:Nat->Prop}{w w':World}{wd:Nat}{ds:List yv}{a:Option Addr}{j:Nat}(r:zH O w wd ds a j)(h:Z5 O w w'):zH O w' wd ds a j:=zH.carry h wd ds a j r
theorem zH.on{O:Nat->Prop}{w w':World}{wd:Nat}{ds:List yv}{a:Option Addr}{j:Nat}(r:zH O w wd ds a j)(h:zD zC w w'):zH O w' wd ds a j:=zH.zF h (fun _ x=>x.elim) wd ds a j r
theorem zK.new{O:Nat->Prop}{w:World}{d:yv}{cs:List Value}(r:zK O w d cs)(o:Obj):zK O (w.alloc o) d cs:=r.on ((zD.refl _ w).alloc o)
theorem zG{p:Prop}(h:p):RowKit.Hid p:=h
mutual
theorem zK.zU{O:Nat->Prop}{w:World}:∀(d:yv)(cs:List Value),zK O w d cs->zK (fun b=>O b\/w.heap.size<=b) w d cs
  | .int _ _,_,r=>by simpa only[zK]using r
  | .bool _,_,r=>by simpa only[zK]using r
  | .str _,_,r=>by simpa only[zK]using r
  | .st fs,cs,r=>by simp only[zK]at r ⊢;exact yu.zU fs cs r
  | .seq wd xs,cs,r=>by
      simp only[zK]at r ⊢;obtain⟨a,cap,h1,h2,h3⟩:=r;exact⟨a,cap,h1,h2,zH.zU wd xs a 0 h3⟩
theorem yu.zU{O:Nat->Prop}{w:World}:∀(ds:List yv)(cs:List Value),yu O w ds cs->yu (fun b=>O b\/w.heap.size<=b) w ds cs
  | [],_,r=>by simpa only[yu]using r
  |d :: ds,cs,r=>by
     simp only[yu]at r ⊢;obtain⟨c1,c2,h1,h2,h3⟩:=r;exact⟨c1,c2,h1,zK.zU d c1 h2,yu.zU ds c2 h3⟩
theorem zH.zU{O:Nat->Prop}{w:World}(wd:Nat):∀(ds:List yv)(a:Option Addr)(j:Nat),zH O w wd ds a j->zH (fun b=>O b\/w.heap.size<=b) w wd ds a j
  | [],_,_,_=>by simp only[zH]
  |d :: ds,a,j,r=>by
     simp only[zH]at r ⊢;obtain⟨⟨b,o,cs,h1,hb,h2,h3,h4,h5⟩,h6⟩:=r;exact⟨⟨b,o,cs,h1,hb,fun x=>x.elim h2 (fun y=>by omega),h3,h4,zK.zU d cs h5⟩,zH.zU wd ds a _ h6⟩
end
theorem zK.fresh{O:Nat->Prop}{w:World}{d:yv}{cs:List Value}(r:zK O w d cs):zK (fun b=>w.heap.size<=b) w d cs:=zK.weaken (fun _ _ h=>.inr h) d cs (zK.zU d cs r)
theorem zK.xE{O:Nat->Prop}{w:World}{d:yv}{cs:List Value}(r:zK O w d cs):zK (fun b=>O b\/w.heap.size<=b) w d cs:=zK.zU d cs r
theorem zY{k:IntKind}{a b:Int}(h:a=b):Ending.returned (.int k a)=.returned (.int k b):=by rw[h]
theorem zS{a b:Bool}(h:a=b):Ending.returned (.bool a)=.returned (.bool b):=by rw[h]
theorem int_eq{k:IntKind}{a b:Int}(h:a=b):Value.int k a=.int k b:=by rw[h]
end
section
theorem zAx{W w':World}{b:Nat}{c0 c1 c2 c3:Value}(hU:zD zC W w')
    (h:W.cell? ⟨b,0,none⟩=some c0/\W.cell? ⟨b,1,none⟩=some c1/\W.cell? ⟨b,2,none⟩=some c2/\W.cell? ⟨b,3,none⟩=some c3):
    w'.cell? ⟨b,0,none⟩=some c0/\w'.cell? ⟨b,1,none⟩=some c1/\w'.cell? ⟨b,2,none⟩=some c2/\w'.cell? ⟨b,3,none⟩=some c3:=
  ⟨hU.cell h.1 (fun x=>x),hU.cell h.2.1 (fun x=>x),hU.cell h.2.2.1 (fun x=>x),hU.cell h.2.2.2 (fun x=>x)⟩
theorem zu{w w1:World}{c0 c1 c2 c3:Value}{T:TypeId}(hU:zD zC (w.alloc (.cells #[c0,c1,c2,c3] T)) w1):
    w1.cell? ⟨w.heap.size,0,none⟩=some c0/\w1.cell? ⟨w.heap.size,1,none⟩=some c1/\w1.cell? ⟨w.heap.size,2,none⟩=some c2/\w1.cell? ⟨w.heap.size,3,none⟩=some c3:=
  (hU.cel (O:=zC) (fun _ x=>x)).XJ (fun x=>x)
theorem zD.and{a b c:World}(h:zD zC a b)(k:zD zC b c):zD zC a c:=h.trans k (fun _ _ x=>x)
theorem zZ{O:Nat->Prop}{w:World}{t:Tm}{cs:List Value}(h:zK O w t.zN cs):
    ∃ k n i ts a cap,t=.mk k n i ts/\cs=[.int .i64 k,.string (B n),.int .i64 i,.slice a ts.length cap]/\ts.length<=cap/\zH O w 4 (ts.map Tm.zN) a 0:=by
  cases t with
  |mk k n i ts=>
   obtain⟨a,cap,h1,h2,h3⟩:=zi.1 h;exact⟨k,n,i,ts,a,cap,rfl,h1,h2,h3⟩
theorem Zq(k:Int)(j:Nat):((k == 3)=true/\Tm.under k j=1)\/((k == 3)=false/\(k == 2)=true/\((j:Int) == 1)=true/\Tm.under k j=1)\/
    ((k == 3)=false/\(k == 2)=true/\((j:Int) == 1)=false/\Tm.under k j=0)\/((k == 3)=false/\(k == 2)=false/\Tm.under k j=0):=by
  unfold Tm.under;by_cases h3:k=3
  ·left;simp[h3]
  by_cases h2:k=2
  ·by_cases h1:j=1
   ·right;left;simp[h2,h1]
   ·right;right;left;simp[h2,h1];omega
  ·right;right;right;simp[h3,h2]
theorem zD.YN{w w':World}{o:Obj}(h:zD zC (w.alloc o) w'):zD zC w w':=((zD.refl zC w).alloc o).and h
end
section
open Go.RowKit
def yF(O:World->Nat->Prop)(w w':World):Prop:=w.heap.size<=w'.heap.size/\∀ b,b<w.heap.size->¬O w b->¬O w' b/\∀ o v,w.cell? ⟨b,o,none⟩=some v->w'.cell? ⟨b,o,none⟩=some v
def At(O:World->Nat->Prop)(w:World)(b o:Nat)(v:Value):Prop:=¬O w b/\w.cell? ⟨b,o,none⟩=some v
structure Z1(O:World->Nat->Prop)(H0:Nat)(Ts:TypeId->Prop):Prop where
  new:∀(W:World)(cs:Array Value)(T:TypeId),Ts T->H0<=W.heap.size->¬O (W.alloc (.cells cs T)) W.heap.size
  old:∀(W:World)(o:Obj)(b:Nat),b<W.heap.size->¬O W b->¬O (W.alloc o) b
section
variable {O:World->Nat->Prop}{H0:Nat}{Ts:TypeId->Prop}{w w' a b c:World}
theorem yF.refl(O:World->Nat->Prop)(w:World):yF O w w:=⟨Nat.le_refl _,fun _ _ h=>⟨h,fun _ _ h'=>h'⟩⟩
theorem yF.trans{A B C:World}(h:yF O A B)(k:yF O B C):yF O A C:=⟨Nat.le_trans h.1 k.1,fun x hx hn=>⟨(k.2 x (Nat.lt_of_lt_of_le hx h.1) (h.2 x hx hn).1).1,fun o v hv=>(k.2 x (Nat.lt_of_lt_of_le hx h.1) (h.2 x hx hn).1).2 o v ((h.2 x hx hn).2 o v hv)⟩⟩
theorem yF.at{x o:Nat}{v:Value}(h:yF O w w')(ha:At O w x o v):At O w' x o v:=by
  have:=h.2 x (by simpa using World.block_lt_of_cell? w _ ha.2) ha.1;exact⟨this.1,this.2 o v ha.2⟩
theorem yF.xu(F:Z1 O H0 Ts)(w:World)(o:Obj):yF O w (w.alloc o):=by
  exact⟨by simp,fun x hl hx=>⟨F.old w o x hl hx,fun off v hv=>((zD.refl zC w).alloc o).cell hv (fun x=>x)⟩⟩
theorem yF.alloc(F:Z1 O H0 Ts)(h:yF O a w)(o:Obj):yF O a (w.alloc o):=h.trans (yF.xu F w o)
theorem Z1.XJ(F:Z1 O H0 Ts){T:TypeId}(hT:Ts T){W w':World}(hH:H0<=W.heap.size){c0 c1 c2 c3:Value}(h:yF O (W.alloc (.cells #[c0,c1,c2,c3] T)) w'):
    At O w' W.heap.size 0 c0/\At O w' W.heap.size 1 c1/\At O w' W.heap.size 2 c2/\At O w' W.heap.size 3 c3:=by
  have hn:=F.new W #[c0,c1,c2,c3] T hT hH;have bb:=(Z5.refl zC (W.alloc (.cells #[c0,c1,c2,c3] T))).XJ (fun x=>x);exact⟨h.at ⟨hn,bb.1⟩,h.at ⟨hn,bb.2.1⟩,h.at ⟨hn,bb.2.2.1⟩,h.at ⟨hn,bb.2.2.2⟩⟩
mutual
theorem zK.xi(h:yF O w w'):∀(d:yv)(cs:List Value),zK (O w) w d cs->zK (O w') w' d cs
  | .int _ _,_,r=>by simpa only[zK]using r
  | .bool _,_,r=>by simpa only[zK]using r
  | .str _,_,r=>by simpa only[zK]using r
  | .st fs,cs,r=>by simp only[zK]at r ⊢;exact yu.xi h fs cs r
  | .seq wd xs,cs,r=>by
      simp only[zK]at r ⊢;obtain⟨a,cap,h1,h2,h3⟩:=r;exact⟨a,cap,h1,h2,zH.xi h wd xs a 0 h3⟩
theorem yu.xi(h:yF O w w'):∀(ds:List yv)(cs:List Value),yu (O w) w ds cs->yu (O w') w' ds cs
  | [],_,r=>by simpa only[yu]using r
  |d :: ds,cs,r=>by
     simp only[yu]at r ⊢;obtain⟨c1,c2,h1,h2,h3⟩:=r;exact⟨c1,c2,h1,zK.xi h d c1 h2,yu.xi h ds c2 h3⟩
theorem zH.xi(h:yF O w w')(wd:Nat):∀(ds:List yv)(a:Option Addr)(j:Nat),zH (O w) w wd ds a j->zH (O w') w' wd ds a j
  | [],_,_,_=>by simp only[zH]
  |d :: ds,a,j,r=>by
     simp only[zH]at r ⊢;obtain⟨⟨b,o,cs,h1,hb,h2,h3,h4,h5⟩,h6⟩:=r;exact⟨⟨b,o,cs,h1,Nat.lt_of_lt_of_le hb h.1,(h.2 b hb h2).1,h3,fun i v hv=>(h.2 b hb h2).2 _ v (h4 i v hv),zK.xi h d cs h5⟩,zH.xi h wd ds a _ h6⟩
end
theorem yF.of(O:Nat->Prop)(h:Z5 O w w'):yF (fun _=>O) w w':=⟨h.1,fun b _ hn=>⟨hn,fun o v hv=>h.2 b o v hn hv⟩⟩
theorem Z1.of(O:Nat->Prop)(Ts:TypeId->Prop)(h:∀ b,H0<=b->¬O b):Z1 (fun _=>O) H0 Ts:=⟨fun _ _ _ _ hb=>h _ hb,fun _ _ _ _ h=>h⟩
theorem zH.zHs{wd:Nat}{ds:List yv}{x:Option Addr}{j:Nat}(r:zH (O w) w wd ds x j)(h:yF O w w'):zH (O w') w' wd ds x j:=zH.xi h wd ds x j r
end
end
section
namespace Tm
mutual
def scope:Tm->Int
  |mk k _ i l=>scopes k 0 (if k == 5 then i+1 else 0) l
def scopes(k:Int)(j:Nat)(acc:Int):List Tm->Int
  | []=>acc
  |t :: ts=>scopes k (j+1) (max acc (scope t - under k j)) ts
end
mutual
def yM(acc:List Int):Tm->List Int
  |mk k _ i l=>yD (if k == 6 && !acc.contains i then acc++[i]else acc) l
def yD(acc:List Int):List Tm->List Int
  | []=>acc
  |t :: ts=>yD (yM acc t) ts
end
def Zd(t:Tm):List Int:=yM [] t
def yJ(acc:Int)(x:Nd0):Int:=if x.k == 5 then max acc (x.i - x.b+1)else acc
def yG(acc:List Int)(x:Nd0):List Int:=if x.k == 6 && !acc.contains x.i then acc++[x.i]else acc
def zEG(acc:List (List UInt8))(x:Nd0):List (List UInt8):=if x.k == 4 && !acc.contains x.n then acc++[x.n]else acc
theorem Xu(k:Int)(l:List Tm):∀(j:Nat)(acc:Int),acc<=scopes k j acc l:=by
  induction l with
  |nil=>intro j acc;simp[scopes]
  |cons t ts ih=>intro j acc;rw[scopes];have:=ih (j+1) (max acc (scope t - under k j));omega
theorem zA9(t:Tm)(h:t.kind == 5->0<=t.index):0<=scope t:=by
  cases t with
  |mk k n i l=>
   rw[scope];have:=Xu k l 0 (if(k == 5)=true then i+1 else 0);by_cases hk:(k == 5)=true
   ·rw[if_pos hk]at this ⊢;have:=h hk;simp at this;omega
   ·rw[if_neg hk]at this ⊢;omega
theorem QF(t:Tm):∀(b acc:Int),0<=b->0<=acc->(nodes b t).foldl yJ acc=max acc (scope t - b):=by
  induction t using ind with
  |h k n i l ih=>
   intro b acc hb ha;rw[zo,List.foldl_cons,scope]
   have key:∀(l':List Tm),(∀ t∈l',∀(b acc:Int),0<=b->0<=acc->(nodes b t).foldl yJ acc=max acc (scope t - b))->
       ∀(j:Nat)(a c:Int),0<=a->a=max a (c - b)->(za b k j l').foldl yJ a=max a (scopes k j c l' - b):=by
     intro l';induction l' with
     |nil=>intro _ j a c h0 h1;simp only[za,List.foldl_nil,scopes];exact h1
     |cons t ts ih2=>
      intro h j a c h0 h1;have hu:=yl k j;simp only[za,List.foldl_append,scopes];rw[h t (by simp) (b+under k j) a (by omega) h0,ih2 (fun t ht=>h t (by simp[ht])) (j+1) _ (max c (t.scope - under k j)) (by omega) (by omega)];have:=Xu k ts (j+1) (max c (t.scope - under k j));omega
   by_cases hk:(k == 5)=true
   ·simp only[yJ,hk,if_true];rw[key l ih 0 (max acc (i - b+1)) (i+1) (by omega) (by omega)];have:=Xu k l 0 (i+1);omega
   ·simp only[yJ,if_neg hk];exact key l ih 0 acc 0 (by omega) (by omega)
theorem zBe(t:Tm)(h:t.kind == 5->0<=t.index):(nodes 0 t).foldl yJ 0=scope t:=by
  rw[QF t 0 0 (by omega) (by omega)];have:=zA9 t h;omega
theorem Y3(t:Tm):∀(b:Int)(acc:List Int),(nodes b t).foldl yG acc=yM acc t:=by
  induction t using ind with
  |h k n i l ih=>
   intro b acc;rw[zo,List.foldl_cons,yM]
   have key:∀(l':List Tm),(∀ t∈l',∀(b:Int)(acc:List Int),(nodes b t).foldl yG acc=yM acc t)->∀(j:Nat)(acc:List Int),(za b k j l').foldl yG acc=yD acc l':=by
     intro l';induction l' with
     |nil=>intro _ j acc;simp[za,yD]
     |cons t ts ih2=>intro h j acc;simp only[za,List.foldl_append,yD];rw[h t (by simp),ih2 (fun t ht=>h t (by simp[ht]))]
   exact key l ih 0 _
def Nd0.ok(x:Nd0):Prop:=((x.k == 5)=true->0<=x.i/\x.i<=1048576)/\((x.k == 6)=true->0<=x.i/\x.i<2048)/\((x.k == 4)=true->x.n.length<=64)
theorem Yy(n:List UInt8)(h:isName n=true):n.length<=64:=by
  simp[isName]at h;omega
theorem qs{p:Nd0->Prop}{b k:Int}{l:List Tm}(h:∀ t∈l,∀ b,∀ x∈nodes b t,p x):∀ j,∀ x∈za b k j l,p x:=by
  induction l with
  |nil=>intro j x hx;simp[za]at hx
  |cons t ts ih=>
   intro j x hx;simp only[za,List.mem_append]at hx;rcases hx with hx |hx
   ·exact h t (by simp) _ x hx
   ·exact ih (fun t ht=>h t (by simp[ht])) (j+1) x hx
theorem q8(t:Tm):t.isObj=true->∀ b,∀ x∈nodes b t,x.ok:=by
  induction t using ind with
  |h k n i l ih=>
   intro h b x hx;have hall:ze l=true->∀ t∈l,t.isObj=true:=by rw[yA,List.all_eq_true];exact fun x=>x
   rw[isObj]at h;rw[zo]at hx;have hA:ze l=true:=by split at h<;>(try split at h)<;>(try split at h)<;>(try split at h)<;>simp_all
   rcases List.mem_cons.1 hx with rfl |hx
   ·refine⟨fun e=>?_,fun e=>?_,fun e=>?_⟩<;>simp at e<;>subst e<;>simp at h
    ·simp;omega
    ·simp;omega
    ·simpa using Yy n h.1.1
   ·exact qs (fun t ht b x hx=>ih t ht (hall hA t ht) b x hx) 0 x hx
theorem zE5(t:Tm):t.zX=true->∀ b,∀ x∈nodes b t,x.ok:=by
  induction t using ind with
  |h k n i l ih=>
   intro h b x hx;rw[zX]at h;rcases Bool.or_eq_true_iff.1 h with h |h
   ·refine q8 _ ?_ b x hx;simp[isAtom]at h;rw[isObj];simp[h]
   ·have hall:yy l=true->∀ t∈l,t.zX=true:=by rw[Zl,List.all_eq_true];exact fun x=>x
    simp at h;rw[zo]at hx;rcases List.mem_cons.1 hx with rfl |hx
    ·refine⟨fun e=>?_,fun e=>?_,fun e=>?_⟩<;>simp[h.1]at e
    ·exact qs (fun t ht b x hx=>ih t ht (hall h.2.2 t ht) b x hx) 0 x hx
theorem zGn(t:Tm):t.zb=true->∀ b,∀ x∈nodes b t,x.ok:=by
  induction t using ind with
  |h k n i l ih=>
   intro h b x hx;rw[zo]at hx;match l,h,ih,hx with
   | [],h,ih,hx=>
     simp[zb]at h;simp[za]at hx;subst hx;refine⟨fun e=>?_,fun e=>?_,fun e=>?_⟩<;>simp[h.1]at e
   | [a],h,ih,hx=>simp[zb]at h
   |a :: c :: d :: l,h,ih,hx=>simp[zb]at h
   | [a,c],h,ih,hx=>
     simp[zb]at h;rcases List.mem_cons.1 hx with rfl |hx
     ·refine⟨fun e=>?_,fun e=>?_,fun e=>?_⟩<;>simp[h.1]at e
     ·simp only[za,List.append_nil,List.mem_append]at hx;rcases hx with hx |hx
      ·exact zE5 a h.2.2.1 _ x hx
      ·exact ih c (by simp) h.2.2.2 _ x hx
theorem zCE(t:Tm)(h:t.wf=0):(∀ b,∀ x∈nodes b t,x.ok)/\t.size<=4096/\t.depth<=128:=by
  unfold wf at h;by_cases h1:(!t.isObj && !t.zX && !t.zb)=true
  ·rw[if_pos h1]at h;omega
  rw[if_neg h1]at h;by_cases h2:(!t.small)=true
  ·rw[if_pos h2]at h;omega
  have h2':t.small=true:=by simpa using h2
  unfold small at h2';simp at h2' h1;refine⟨?_,h2'⟩;by_cases ho:t.isObj=true
  ·exact q8 t ho
  by_cases hy:t.zX=true
  ·exact zE5 t hy
  ·exact zGn t (h1 (by simpa using ho) (by simpa using hy))
theorem zA8(t:Tm):∀ b,∀ x∈nodes b t,b<=x.b/\x.b<b+t.size:=by
  induction t using ind with
  |h k n i l ih=>
   intro b x hx;rw[zo]at hx;rw[zT];rcases List.mem_cons.1 hx with rfl |hx
   ·simp;omega
   ·have key:∀(l':List Tm),(∀ t∈l',t∈l)->∀ j,∀ x∈za b k j l',b<=x.b/\x.b<b+(zO l+1):=by
      intro l';induction l' with
      |nil=>intro _ j x hx;simp[za]at hx
      |cons t ts ih2=>
       intro hs j x hx;simp only[za,List.mem_append]at hx;rcases hx with hx |hx
       ·have:=ih t (hs t (by simp)) _ x hx;have:=yl k j;have:=zQ (hs t (by simp));omega
       ·exact ih2 (fun t ht=>hs t (by simp[ht])) _ x hx
    exact key l (fun _ h=>h) 0 x hx
end Tm
end
section
open Go.RowKit Go.MapKept
def Seen(W:World)(m:Nat)(ks:List Value):Prop:=∃ es clock,W.heap[m]? =some (.map es clock)/\es.toList.map (·.key)=ks/\∀ e∈es.toList,e.val=.bool true
variable {P:Program}{W:World}{mt kt bt:TypeId}{d:TypeDesc}{m:Nat}{ks:List Value}{key:Value}
theorem Seen.made(W:World):Seen (W.alloc (.map #[] 0)) W.heap.size []:=⟨#[],0,heap_alloc_new W _,rfl,by simp⟩
theorem Seen.kept{W':World}{row:Option Nat}(h:Seen W m ks)(hg:W.grownBy W' row)(hr:some m≠row):Seen W' m ks:=by
  obtain⟨es,clock,h1,h2,h3⟩:=h;exact⟨es,clock,(hg.block m (Array.getElem?_eq_some_iff.1 h1).1 hr).trans h1,h2,h3⟩
theorem Seen.lookup(hm:P.underlying mt=some (.map kt bt))(hk:P.underlying kt=some d)(hb:(zeroValue bt).run P W=.ok (.bool false) W)(hS:Seen W m ks)
    (hks:∀ k∈ks,IsKey d k) (hkey:IsKey d key) (b:Bool) (hbk:b=true↔key∈ks):(Instr.lookup mt (.map (some m)) key false).run P W=.ok (.bool b) W:=by
  obtain⟨es,clock,h1,h2,h3⟩:=hS;have hes:∀ x∈es.toList,IsKey d x.key:=fun x hx=>hks _ (by rw[<-h2];exact List.mem_map_of_mem hx)
  rcases findNow_spec hkey es.toList 0 hes with⟨f1,f2⟩|⟨j,e,f1,f2,f3⟩
  ·have hbf:b=false:=by
     rw[<-Bool.not_eq_true,hbk,<-h2];intro h;obtain⟨x,hx,hxk⟩:=List.mem_map.1 h;exact f2 x hx hxk
   subst hbf;simp[Instr.lookup,run_underlying hm,MapKept.run_getObj_map h1,run_checkKey hk hkey,run_findKey hk f1,hb,Result.andThen]
  ·have he:e∈es.toList:=List.mem_of_getElem? f2
   have hbt:b=true:=by
     rw[hbk,<-h2];exact List.mem_map.2 ⟨e,he,f3⟩
   subst hbt;simp[Instr.lookup,run_underlying hm,MapKept.run_getObj_map h1,run_checkKey hk hkey,run_findKey hk f1,h3 e he,Result.andThen]
theorem Seen.store(hm:P.underlying mt=some (.map kt bt))(hk:P.underlying kt=some d)(hS:Seen W m ks)
    (hks:∀ k∈ks,IsKey d k) (hkey:IsKey d key) (hn:key∉ks):∃ W',(Instr.mapUpdate mt (.map (some m)) key (.bool true)).run P W=.ok () W'/\Seen W' m (ks++[key])/\W.grownBy W' (some m)/\W.heap.size<=W'.heap.size:=by
  obtain⟨es,clock,h1,h2,h3⟩:=hS;have hes:∀ x∈es.toList,IsKey d x.key:=fun x hx=>hks _ (by rw[<-h2];exact List.mem_map_of_mem hx)
  rcases findNow_spec hkey es.toList 0 hes with⟨f1,f2⟩|⟨j,e,f1,f2,f3⟩
  ·refine⟨{ W with heap:=W.heap.setIfInBounds m (.map (es.push { key,val:=.bool true,born:=clock }) (clock+1)) },?_,⟨_,_,(heap_set h1).1,?_,?_⟩,⟨rfl,rfl,rfl,by simp,fun k _ hne=>?_⟩,by simp⟩
   ·simp[Instr.mapUpdate,run_underlying hm,MapKept.run_getObj_map h1,run_checkKey hk hkey,run_findKey hk f1,run_setObj_map _ h1,Result.andThen]
   ·simp[h2]
   ·intro x hx;simp only[Array.toList_push,List.mem_append,List.mem_singleton]at hx;rcases hx with hx |rfl
    ·exact h3 x hx
    ·rfl
   ·exact(heap_set h1).2 k (fun e=>hne (by rw[e]))
  ·exact absurd (by rw[<-h2];exact List.mem_map.2 ⟨e,List.mem_of_getElem? f2,f3⟩) hn
end
section
namespace Tm
theorem Zb{k i:Int}{n:List UInt8}{l:List Tm}(h:(mk k n i l).isObj=true):(∀ t∈l,t.isObj=true)/\(k=3->l.length=1):=by
  rw[isObj]at h;have key:ze l=true->∀ t∈l,t.isObj=true:=fun h=>by rw[yA,List.all_eq_true]at h;exact h
  split at h
  ·simp[bound]at h;exact⟨key h.2,fun _=>h.1.1.2⟩
  ·rename_i h3;refine⟨?_,fun e=>absurd e h3⟩;split at h
   ·simp at h;exact key h.2
   ·split at h
    ·simp at h;exact key h.2
    ·split at h
     ·simp at h;exact key h.2
     ·cases h
end Tm
end
end Go.LF
namespace Go.LF.Tm
def zAE(t:Tm):Prop:=t.isObj=true\/t.zX=true\/t.zb=true
theorem zAa{k i:Int}{n:List UInt8}{l:List Tm}(h:zAE (mk k n i l)):
    (∀ a∈l,zAE a)/\(k=5->(∀ a∈l,a.isObj=true)/\0<=i/\i<=1048576)/\(k=3->l.length=1)/\(k=2->l.length=2):=by
  rcases h with h |h |h
  ·obtain⟨h1,h2⟩:=Zb h;refine⟨fun a ha=>.inl (h1 a ha),fun e=>⟨h1,?_⟩,h2,fun e=>?_⟩
   ·subst e;rw[isObj]at h;simp at h;omega
   ·subst e;rw[isObj]at h;simp at h
  ·rw[zX,isAtom]at h;by_cases h4:k=4
   ·subst h4;simp at h;have h3:ze l=true:=h.2;rw[yA,List.all_eq_true]at h3;exact⟨fun a ha=>.inl (h3 a ha),fun e=>absurd e (by decide),fun e=>absurd e (by decide),fun e=>absurd e (by decide)⟩
   ·have h4':(k == 4)=false:=by simpa using h4
    rw[h4']at h;simp only[Bool.false_and,Bool.false_or,Bool.and_eq_true,beq_iff_eq]at h;obtain⟨rfl,h2,h3⟩:=h;rw[Zl,List.all_eq_true]at h3;unfold bound at h2;simp only[Bool.and_eq_true,beq_iff_eq]at h2;exact⟨fun a ha=>.inr (.inl (h3 a ha)),fun e=>absurd e (by decide),fun e=>absurd e (by decide),fun _=>h2.1.2⟩
  ·unfold zb at h;split at h
   ·rename_i a b e;cases e
    simp only[Bool.and_eq_true,beq_iff_eq]at h;obtain⟨rfl,h2,h3,h4⟩:=h;refine⟨fun x hx=>?_,fun e=>absurd e (by decide),fun e=>absurd e (by decide),fun _=>rfl⟩;rcases List.mem_cons.1 hx with rfl |hx
    ·exact .inr (.inl h3)
    ·obtain rfl:x=b:=by simpa using hx
     exact .inr (.inr h4)
   ·rename_i e;cases e
    simp at h;obtain⟨rfl,h2,h3,h4⟩:=h;subst h4;exact⟨fun x hx=>by simp at hx,fun e=>absurd e (by decide),fun e=>absurd e (by decide),fun e=>absurd e (by decide)⟩
theorem y9{t:Tm}(h:t.wf=0):zAE t/\t.size<=4096/\t.depth<=128:=by
  unfold wf at h;split at h
  ·cases h
  ·rename_i h1;split at h
   ·cases h
   ·rename_i h2;simp only[small,Bool.not_eq_true',Bool.not_eq_false,Bool.and_eq_true,decide_eq_true_eq]at h2;refine⟨?_,h2⟩;unfold zAE;cases ho:t.isObj
    ·cases hy:t.zX
     ·cases hk:t.zb
      ·rw[ho,hy,hk]at h1;simp at h1
      ·simp
     ·simp
    ·simp
end Go.LF.Tm
