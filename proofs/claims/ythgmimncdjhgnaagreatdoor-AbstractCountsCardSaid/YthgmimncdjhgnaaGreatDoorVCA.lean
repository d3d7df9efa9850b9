/- xO as plain data, and what the functions of layer 5 compute of them. No program is in sight here. -/
import Derived.Below
import Derived.IntWalk
import Derived.MapKept
import Derived.Maps.Keyed
import Derived.RowKit
import Derived.WalkKit
namespace Go.LF
section
inductive Tm where
  |mk (kind:Int) (name:List UInt8) (index:Int) (args:List Tm)
namespace Tm
def kind:Tm->Int |mk k _ _ _=>k
def name:Tm->List UInt8 |mk _ n _ _=>n
def index:Tm->Int |mk _ _ i _=>i
def args:Tm->List Tm |mk _ _ _ l=>l
@[simp] theorem zCx(k n i l):kind (mk k n i l)=k:=rfl
@[simp] theorem zCj(k n i l):name (mk k n i l)=n:=rfl
@[simp] theorem zAk(k n i l):index (mk k n i l)=i:=rfl
@[simp] theorem Zo(k n i l):args (mk k n i l)=l:=rfl
theorem ind{P:Tm->Prop}(h:∀ k n i l,(∀ a∈l,P a)->P (mk k n i l))(t:Tm):P t:=
  Tm.rec (motive_1:=P) (motive_2:=fun l=>∀ a∈l,P a) (fun k n i l ih=>h k n i l ih) (by simp) (fun t ts h1 h2=>by simpa using⟨h1,h2⟩) t
mutual
def size:Tm->Nat
  |mk _ _ _ l=>zQ l+1
def zQ:List Tm->Nat
  | []=>0
  |t :: ts=>size t+zQ ts
end
mutual
def depth:Tm->Nat
  |mk _ _ _ l=>zX l+1
def zX:List Tm->Nat
  | []=>0
  |t :: ts=>max (depth t) (zX ts)
end
@[simp] theorem zU(k n i l):size (mk k n i l)=zQ l+1:=by rw[size]
@[simp] theorem yO(k n i l):depth (mk k n i l)=zX l+1:=by rw[depth]
theorem size_pos(t:Tm):0<t.size:=by cases t;simp
theorem xj(a b:List Tm):zQ (a++b)=zQ a+zQ b:=by
  induction a with
  |nil=>simp[zQ]
  |cons t ts ih=>simp[zQ,ih];omega
theorem xr(a b:List Tm):zX (a++b)=max (zX a) (zX b):=by
  induction a with
  |nil=>simp[zX]
  |cons t ts ih=>simp[zX,ih]
theorem zO(l:List Tm):l.length<=zQ l:=by
  induction l with
  |nil=>simp
  |cons t ts ih=>have:=size_pos t;simp only[zQ,List.length_cons];omega
theorem zT{t:Tm}{l:List Tm}(h:t∈l):t.size<=zQ l:=by
  induction l with
  |nil=>cases h
  |cons u us ih=>
   rcases List.mem_cons.1 h with rfl |h
   ·simp only[zQ];omega
   ·have:=ih h;simp only[zQ];omega
theorem zg{t:Tm}{l:List Tm}(h:t∈l):t.depth<=zX l:=by
  induction l with
  |nil=>cases h
  |cons u us ih=>
   rcases List.mem_cons.1 h with rfl |h
   ·simp only[zX];omega
   ·have:=ih h;simp only[zX];omega
theorem yZ(t:Tm):t.depth<=t.size:=by
  induction t using ind with
  |h k n i l ih=>
   simp only[yO,zU,Nat.add_le_add_iff_right];induction l with
   |nil=>simp[zX]
   |cons t ts ih2=>
    have h1:=ih t (by simp);have h2:=ih2 (fun a ha=>ih a (by simp[ha]));simp[zX,zQ];omega
theorem zr(l:List Tm):zX l<=zQ l:=by
  have:=yZ (mk 0 [] 0 l);simpa using this
theorem zm(l:List Tm)(j:Nat)(h:j<l.length):zQ (l.take (j+1))=zQ (l.take j)+l[j].size:=by
  rw[List.take_succ_eq_append_getElem h,xj];simp[zQ]
theorem yl(l:List Tm)(j:Nat)(h:j<l.length):zX (l.take (j+1))=max (zX (l.take j)) l[j].depth:=by
  rw[List.take_succ_eq_append_getElem h,xr];simp[zX]
theorem zu(l:List Tm)(j:Nat):zQ (l.take j)<=zQ l:=by
  conv=>rhs;rw[<-List.take_append_drop j l,xj]
  omega
theorem ym(l:List Tm)(j:Nat):zX (l.take j)<=zX l:=by
  conv=>rhs;rw[<-List.take_append_drop j l,xr]
  omega
mutual
def wt:Tm->Nat
  |mk _ n _ l=>n.length+ZP l+1
def ZP:List Tm->Nat
  | []=>0
  |t :: ts=>wt t+ZP ts
end
@[simp] theorem yv(k n i l):wt (mk k n i l)=n.length+ZP l+1:=by rw[wt]
theorem xk{t:Tm}{l:List Tm}(h:t∈l):t.wt<=ZP l:=by
  induction l with
  |nil=>cases h
  |cons u us ih=>
   rcases List.mem_cons.1 h with rfl |h
   ·simp only[ZP];omega
   ·have:=ih h;simp only[ZP];omega
theorem zp(t:Tm):t.size<=t.wt:=by
  induction t using ind with
  |h k n i l ih=>
   simp only[yv,zU]
   have:zQ l<=ZP l:=by
     induction l with
     |nil=>simp[zQ]
     |cons t ts ih2=>
      have h1:=ih t (by simp);have h2:=ih2 (fun a ha=>ih a (by simp[ha]));simp only[zQ,ZP];omega
   omega
theorem xH(l:List Tm):zQ l<=ZP l:=by
  have:=zp (mk 0 [] 0 l);simp only[yv,zU,List.length_nil]at this;omega
mutual
def same:Tm->Tm->Bool
  |mk k n i l,mk k' n' i' l'=>k == k' && (i == i' && ((n == n' || (k == 2 || k == 3)) && xL l l'))
def xL:List Tm->List Tm->Bool
  | [],[]=>true
  |a :: as',b :: bs=>same a b && xL as' bs
  | [],_ :: _=>false
  |_ :: _,[]=>false
end
theorem q9:∀(l m:List Tm),xL l m=true->l.length=m.length
  | [],[],_=>rfl
  |_ :: as',_ :: bs,h=>by simp only[xL,Bool.and_eq_true]at h;simp[q9 as' bs h.2]
theorem qT(l m:List Tm)(h:l.length≠m.length):xL l m=false:=by
  cases hs:xL l m with
  |false=>rfl
  |true=>exact absurd (q9 l m hs) h
theorem zEm(l m:List Tm)(j:Nat)(h1:j<l.length)(h2:j<m.length):xL (l.take (j+1)) (m.take (j+1))=(xL (l.take j) (m.take j) && same l[j] m[j]):=by
  induction l generalizing m j with
  |nil=>simp at h1
  |cons a as' ih=>
   cases m with
   |nil=>simp at h2
   |cons b bs=>
    cases j with
    |zero=>simp[xL]
    |succ j=>
     have:=ih bs j (by simpa using h1) (by simpa using h2);simp only[List.take_succ_cons,xL,List.getElem_cons_succ,this,Bool.and_assoc]
theorem zEd(l m:List Tm)(j:Nat)(hl:l.length=m.length)(h1:j<l.length)(h:same l[j] (m[j]'(by omega))=false):xL l m=false:=by
  induction l generalizing m j with
  |nil=>simp at h1
  |cons a as' ih=>
   cases m with
   |nil=>simp at hl
   |cons b bs=>
    cases j with
    |zero=>simp only[List.getElem_cons_zero]at h;simp[xL,h]
    |succ j=>
     have:=ih bs j (by simpa using hl) (by simpa using h1) (by simpa using h);simp[xL,this]
theorem zF3(k n i l k' n' i' l'):same (mk k n i l) (mk k' n' i' l')=(k == k' && (i == i' && ((n == n' || (k == 2 || k == 3)) && xL l l'))):=by rw[same]
structure Nd0 where
  b:Int
  k:Int
  n:List UInt8
  i:Int
def under(k:Int)(j:Nat):Int:=if k=3\/(k=2/\j=1)then 1 else 0
mutual
def nodes(b:Int):Tm->List Nd0
  |mk k n i l=>⟨b,k,n,i⟩ :: zd b k 0 l
def zd(b k:Int)(j:Nat):List Tm->List Nd0
  | []=>[]
  |t :: ts=>nodes (b+under k j) t++zd b k (j+1) ts
end
theorem zn(b k n i l):nodes b (mk k n i l)=⟨b,k,n,i⟩ :: zd b k 0 l:=by rw[nodes]
theorem qD(l:List Tm)(b k:Int)(j:Nat)(h:∀ t∈l,∀ b,(nodes b t).length=t.size):(zd b k j l).length=zQ l:=by
  induction l generalizing j with
  |nil=>simp[zd,zQ]
  |cons t ts ih=>simp[zd,zQ,h t (by simp),ih (j+1) (fun u hu=>h u (by simp[hu]))]
theorem ZJ(t:Tm):∀ b,(nodes b t).length=t.size:=by
  induction t using ind with
  |h k n i l ih=>intro b;rw[zn];simp[qD l b k 0 ih]
theorem X7(l m:List Tm)(b k:Int)(j:Nat):zd b k j (l++m)=zd b k j l++zd b k (j+l.length) m:=by
  induction l generalizing j with
  |nil=>simp[zd]
  |cons t ts ih=>simp[zd,ih (j+1),Nat.add_assoc,Nat.add_comm 1 ts.length]
theorem ZW(l:List Tm)(b k:Int)(j:Nat)(h:j<l.length):zd b k 0 (l.take (j+1))=zd b k 0 (l.take j)++nodes (b+under k j) l[j]:=by
  rw[List.take_succ_eq_append_getElem h,X7];simp[zd,Nat.min_eq_left (Nat.le_of_lt h)]
theorem xG(l:List Tm)(b k:Int)(j:Nat):zd b k 0 (l.take j) <+: zd b k 0 l:=by
  conv=>rhs;rw[<-List.take_append_drop j l,X7]
  exact List.prefix_append _ _
theorem yC(k:Int)(j:Nat):0<=under k j/\under k j<=1:=by unfold under;split<;>omega
end Tm
end
section
def QS(c:UInt8):Bool:=c.toNat == 40 || c.toNat == 41 || c.toNat == 91 || c.toNat == 93 || c.toNat == 123 || c.toNat == 125 || c.toNat == 58 || c.toNat == 46
def yK(c:UInt8):Bool:=decide (33<=c.toNat) && (decide (c.toNat<=126) && (!QS c && c.toNat !=37))
def xq(s:List UInt8):Bool:=s == [45,62]|| s == [60,45]|| s == [61]|| s == [95]|| s == [116,121,112,101]
def isName(s:List UInt8):Bool:=!s.isEmpty && decide (s.length<=64) && s.all yK && !xq s && s.head? !=some 64
theorem Qy(c:UInt8)(r:List UInt8):isName (c :: r)=(decide (r.length+1<=64) && (yK c && r.all yK) && !xq (c :: r) && c.toNat !=64):=by
  have h:((c :: r).head? !=some 64)=(c.toNat !=64):=by
    rw[Bool.eq_iff_iff];simp[<-UInt8.toNat_inj]
  simp only[isName,h];simp
theorem zBL(c:UInt8)(r:List UInt8):isName (c :: r)=true↔r.length+1<=64/\(c :: r).all yK=true/\xq (c :: r)=false/\c.toNat≠64:=by
  rw[Qy];simp[and_assoc]
theorem yo(c:UInt8)(r:List UInt8):isName (c :: r)=false↔¬(r.length+1<=64/\(c :: r).all yK=true/\xq (c :: r)=false/\c.toNat≠64):=by
  rw[<-zBL];simp
theorem xu{α:Type}(p:α->Bool)(l:List α)(j:Nat)(h:j<l.length):(l.take (j+1)).all p=((l.take j).all p && p l[j]):=by
  rw[List.take_succ_eq_append_getElem h];simp only[List.all_append,List.all_cons,List.all_nil,Bool.and_true]
namespace Tm
def bound(n:List UInt8)(i:Int)(l:List Tm)(k:Nat):Bool:=i == 0 && l.length == k && (n == []|| n == [95]|| isName n)
mutual
def isObj:Tm->Bool
  |mk k n i l=>
   if k=3 then bound n i l 1 && zZ l
   else if k=4 then isName n && i == 0 && zZ l
   else if k=5 then n == [] && decide (0<=i) && decide (i<=1048576) && zZ l
   else if k=6 then n == [] && decide (0<=i) && decide (i<2048) && zZ l
   else false
def zZ:List Tm->Bool
  | []=>true
  |t :: ts=>isObj t && zZ ts
end
def isAtom:Tm->Bool |mk k n i l=>k == 4 && (isName n && i == 0 && zZ l)
mutual
def zP:Tm->Bool
  |mk k n i l=>isAtom (mk k n i l)|| (k == 2 && (bound n i l 2 && yJ l))
def yJ:List Tm->Bool
  | []=>true
  |t :: ts=>zP t && yJ ts
end
def zR:Tm->Bool
  |mk k n i [a,b]=>k == 2 && (bound n i [a,b] 2 && (zP a && zR b))
  |mk k n i l=>k == 1 && (n == [] && (i == 0 && l.isEmpty))
def small(t:Tm):Bool:=decide (t.size<=4096) && decide (t.depth<=128)
def wf(t:Tm):Int:=if !t.isObj && !t.zP && !t.zR then 1 else if !t.small then 2 else 0
theorem yP(l:List Tm):zZ l=l.all isObj:=by
  induction l with
  |nil=>rfl
  |cons t ts ih=>simp[zZ,ih]
theorem Yp(l:List Tm):yJ l=l.all zP:=by
  induction l with
  |nil=>rfl
  |cons t ts ih=>simp[yJ,ih]
end Tm
end
section
inductive Sm where
  |mk (fam:List UInt8) (args:List Sm)
namespace Sm
def fam:Sm->List UInt8 |mk f _=>f
def args:Sm->List Sm |mk _ l=>l
@[simp] theorem zKW(f l):fam (mk f l)=f:=rfl
@[simp] theorem Zo(f l):args (mk f l)=l:=rfl
theorem ind{P:Sm->Prop}(h:∀ f l,(∀ a∈l,P a)->P (mk f l))(t:Sm):P t:=
  Sm.rec (motive_1:=P) (motive_2:=fun l=>∀ a∈l,P a) (fun f l ih=>h f l ih) (by simp) (fun t ts h1 h2=>by simpa using⟨h1,h2⟩) t
mutual
def size:Sm->Nat
  |mk _ l=>zQ l+1
def zQ:List Sm->Nat
  | []=>0
  |t :: ts=>size t+zQ ts
end
mutual
def depth:Sm->Nat
  |mk _ l=>zX l+1
def zX:List Sm->Nat
  | []=>0
  |t :: ts=>max (depth t) (zX ts)
end
mutual
def wt:Sm->Nat
  |mk f l=>f.length+ZP l+1
def ZP:List Sm->Nat
  | []=>0
  |t :: ts=>wt t+ZP ts
end
@[simp] theorem zU(f l):size (mk f l)=zQ l+1:=by rw[size]
@[simp] theorem yO(f l):depth (mk f l)=zX l+1:=by rw[depth]
@[simp] theorem yv(f l):wt (mk f l)=f.length+ZP l+1:=by rw[wt]
theorem size_pos(t:Sm):0<t.size:=by cases t;simp
theorem xj(a b:List Sm):zQ (a++b)=zQ a+zQ b:=by
  induction a with
  |nil=>simp[zQ]
  |cons t ts ih=>simp[zQ,ih];omega
theorem xr(a b:List Sm):zX (a++b)=max (zX a) (zX b):=by
  induction a with
  |nil=>simp[zX]
  |cons t ts ih=>simp[zX,ih]
theorem zO(l:List Sm):l.length<=zQ l:=by
  induction l with
  |nil=>simp
  |cons t ts ih=>have:=size_pos t;simp only[zQ,List.length_cons];omega
theorem zT{t:Sm}{l:List Sm}(h:t∈l):t.size<=zQ l:=by
  induction l with
  |nil=>cases h
  |cons u us ih=>
   rcases List.mem_cons.1 h with rfl |h
   ·simp only[zQ];omega
   ·have:=ih h;simp only[zQ];omega
theorem xk{t:Sm}{l:List Sm}(h:t∈l):t.wt<=ZP l:=by
  induction l with
  |nil=>cases h
  |cons u us ih=>
   rcases List.mem_cons.1 h with rfl |h
   ·simp only[ZP];omega
   ·have:=ih h;simp only[ZP];omega
theorem zp(t:Sm):t.size<=t.wt:=by
  induction t using ind with
  |h f l ih=>
   simp only[yv,zU]
   have:zQ l<=ZP l:=by
     induction l with
     |nil=>simp[zQ]
     |cons t ts ih2=>
      have h1:=ih t (by simp);have h2:=ih2 (fun a ha=>ih a (by simp[ha]));simp only[zQ,ZP];omega
   omega
theorem xH(l:List Sm):zQ l<=ZP l:=by
  have:=zp (mk [] l);simp only[yv,zU,List.length_nil]at this;omega
theorem yZ(t:Sm):t.depth<=t.size:=by
  induction t using ind with
  |h f l ih=>
   simp only[yO,zU,Nat.add_le_add_iff_right];induction l with
   |nil=>simp[zX]
   |cons t ts ih2=>
    have h1:=ih t (by simp);have h2:=ih2 (fun a ha=>ih a (by simp[ha]));simp[zX,zQ];omega
theorem zr(l:List Sm):zX l<=zQ l:=by
  have:=yZ (mk [] l);simpa using this
theorem zm(l:List Sm)(j:Nat)(h:j<l.length):zQ (l.take (j+1))=zQ (l.take j)+l[j].size:=by
  rw[List.take_succ_eq_append_getElem h,xj];simp[zQ]
theorem yl(l:List Sm)(j:Nat)(h:j<l.length):zX (l.take (j+1))=max (zX (l.take j)) l[j].depth:=by
  rw[List.take_succ_eq_append_getElem h,xr];simp[zX]
theorem zu(l:List Sm)(j:Nat):zQ (l.take j)<=zQ l:=by
  conv=>rhs;rw[<-List.take_append_drop j l,xj]
  omega
theorem ym(l:List Sm)(j:Nat):zX (l.take j)<=zX l:=by
  conv=>rhs;rw[<-List.take_append_drop j l,xr]
  omega
def zD9(f:List UInt8):Bool:=f == [116,121,112,101]|| isName f
mutual
def form:Sm->Bool
  |mk f l=>zD9 f && YE l
def YE:List Sm->Bool
  | []=>true
  |t :: ts=>form t && YE ts
end
theorem zF0(f l):form (mk f l)=(zD9 f && YE l):=by rw[form]
theorem zHB(l:List Sm):YE l=l.all form:=by
  induction l with
  |nil=>rfl
  |cons t ts ih=>simp[YE,ih]
theorem zEs(l:List Sm)(j:Nat)(h:j<l.length):YE (l.drop j)=(form l[j] && YE (l.drop (j+1))):=by
  rw[List.drop_eq_getElem_cons h,YE]
def wf(s:Sm):Int:=if !s.form then 1 else if decide (4096<s.size)|| decide (128<s.depth)then 2 else 0
mutual
def same:Sm->Sm->Bool
  |mk f l,mk f' l'=>f == f' && xL l l'
def xL:List Sm->List Sm->Bool
  | [],[]=>true
  |a :: as',b :: bs=>same a b && xL as' bs
  | [],_ :: _=>false
  |_ :: _,[]=>false
end
end Sm
end
section
inductive xC where
  |int (k:IntKind) (n:Int)
  |bool (b:Bool)
  |str (s:ByteArray)
  |st (fs:List xC)
  |seq (wd:Nat) (xs:List xC)
structure zD(S:Nat->Prop)(w w':World):Prop where
  os:w'.os=w.os
  tape:w'.tape=w.tape
  output:w'.output=w.output
  size:w.heap.size<=w'.heap.size
  block:∀ k,k<w.heap.size->¬S k->w'.heap[k]? =w.heap[k]?
abbrev zC:Nat->Prop:=fun _=>False
theorem XF(w:World)(o:Obj)(b:Nat)(h:b<w.heap.size):(w.alloc o).heap[b]? =w.heap[b]? :=RowKit.Below.heap_alloc _ _ _ h
theorem zD.refl(S:Nat->Prop)(w:World):zD S w w:=⟨rfl,rfl,rfl,Nat.le_refl _,fun _ _ _=>rfl⟩
theorem zD.trans{S S':Nat->Prop}{a b c:World}(h:zD S a b)(k:zD S' b c)(hs:∀ i,i<a.heap.size->S' i->S i):zD S a c:=
  ⟨k.os.trans h.os,k.tape.trans h.tape,k.output.trans h.output,Nat.le_trans h.size k.size,
    fun i hi hn=>(k.block i (Nat.lt_of_lt_of_le hi h.size) (fun x=>hn (hs i hi x))).trans (h.block i hi hn)⟩
theorem zD.mono{S S':Nat->Prop}{a b:World}(h:zD S a b)(hs:∀ i,i<a.heap.size->S i->S' i):zD S' a b:=
  ⟨h.os,h.tape,h.output,h.size,fun i hi hn=>h.block i hi (fun x=>hn (hs i hi x))⟩
theorem zD.drew{S:Nat->Prop}{a w:World}(h:zD S a w):zD S a w.drew:=⟨h.os,h.tape,h.output,h.size,h.block⟩
theorem zD.alloc{S:Nat->Prop}{a w:World}(h:zD S a w)(o:Obj):zD S a (w.alloc o):=
  h.trans (S':=zC) ⟨rfl,rfl,rfl,by simp,fun k hk _=>RowKit.Below.heap_alloc _ _ _ hk⟩ (fun _ _ x=>x.elim)
theorem zD.setCell{S:Nat->Prop}{a w:World}(h:zD S a w){p:Addr}(hp:p.block<a.heap.size->S p.block)(u:Value):zD S a (w.setCell p u):=
  h.trans (S':=fun k=>k=p.block) ⟨rfl,rfl,rfl,by simp[World.setCell],fun k _ hk=>RowKit.Below.heap_setCell _ _ _ _ hk⟩ (fun i hi e=>by subst e;exact hp hi)
theorem zD.below{B:Nat}{w w':World}(h:zD (fun k=>B<=k) w w')(hB:B<=w.heap.size):RowKit.Below B w w':=
  ⟨h.os,h.tape,h.output,h.size,fun k hk=>h.block k (by omega) (by omega)⟩
theorem zD.XK{S:Nat->Prop}{w w':World}(h:RowKit.Below w.heap.size w w'):zD S w w':=
  ⟨h.os,h.tape,h.output,h.size,fun k hk _=>h.block k hk⟩
theorem zD.cell{S:Nat->Prop}{w w':World}(h:zD S w w'){a:Addr}{v:Value}(hc:w.cell? a=some v)(hs:¬S a.block):w'.cell? a=some v:=
  (World.cell?_of_block (h.block _ (World.block_lt_of_cell? w a hc) hs)).trans hc
mutual
def zL(O:Nat->Prop)(w:World):xC->List Value->Prop
  | .int k n,cs=>cs=[.int k n]
  | .bool b,cs=>cs=[.bool b]
  | .str s,cs=>cs=[.string s]
  | .st fs,cs=>xV O w fs cs
  | .seq wd xs,cs=>∃ a cap,cs=[.slice a xs.length cap]/\xs.length<=cap/\zH O w wd xs a 0
def xV(O:Nat->Prop)(w:World):List xC->List Value->Prop
  | [],cs=>cs=[]
  |d :: ds,cs=>∃ c1 c2,cs=c1++c2/\zL O w d c1/\xV O w ds c2
def zH(O:Nat->Prop)(w:World)(wd:Nat):List xC->Option Addr->Nat->Prop
  | [],_,_=>True
  |d :: ds,a,j=>(∃ b o cs,a=some ⟨b,o,none⟩/\b<w.heap.size/\¬O b/\cs.length=wd/\(∀ i v,cs[i]? =some v->w.cell? ⟨b,o+j+i,none⟩=some v)/\zL O w d cs)/\
     zH O w wd ds a (j+wd)
end
def Y0(O:Nat->Prop)(w w':World):Prop:=w.heap.size<=w'.heap.size/\∀ b o v,¬O b->w.cell? ⟨b,o,none⟩=some v->w'.cell? ⟨b,o,none⟩=some v
theorem zD.cel{O S:Nat->Prop}{w w':World}(h:zD S w w')(hs:∀ k,S k->O k):Y0 O w w':=⟨h.size,fun _ _ _ hb hv=>h.cell hv (fun x=>hb (hs _ x))⟩
theorem Y0.trans{O:Nat->Prop}{a b c:World}(h:Y0 O a b)(k:Y0 O b c):Y0 O a c:=⟨Nat.le_trans h.1 k.1,fun x o v hx hv=>k.2 x o v hx (h.2 x o v hx hv)⟩
mutual
theorem zL.carry{O:Nat->Prop}{w w':World}(h:Y0 O w w'):∀(d:xC)(cs:List Value),zL O w d cs->zL O w' d cs
  | .int _ _,_,r=>by simpa only[zL]using r
  | .bool _,_,r=>by simpa only[zL]using r
  | .str _,_,r=>by simpa only[zL]using r
  | .st fs,cs,r=>by simp only[zL]at r ⊢;exact xV.carry h fs cs r
  | .seq wd xs,cs,r=>by
      simp only[zL]at r ⊢;obtain⟨a,cap,h1,h2,h3⟩:=r;exact⟨a,cap,h1,h2,zH.carry h wd xs a 0 h3⟩
theorem xV.carry{O:Nat->Prop}{w w':World}(h:Y0 O w w'):∀(ds:List xC)(cs:List Value),xV O w ds cs->xV O w' ds cs
  | [],_,r=>by simpa only[xV]using r
  |d :: ds,cs,r=>by
     simp only[xV]at r ⊢;obtain⟨c1,c2,h1,h2,h3⟩:=r;exact⟨c1,c2,h1,zL.carry h d c1 h2,xV.carry h ds c2 h3⟩
theorem zH.carry{O:Nat->Prop}{w w':World}(h:Y0 O w w')(wd:Nat):∀(ds:List xC)(a:Option Addr)(j:Nat),zH O w wd ds a j->zH O w' wd ds a j
  | [],_,_,_=>by simp only[zH]
  |d :: ds,a,j,r=>by
     simp only[zH]at r ⊢;obtain⟨⟨b,o,cs,h1,hb,h2,h3,h4,h5⟩,h6⟩:=r;exact⟨⟨b,o,cs,h1,Nat.lt_of_lt_of_le hb h.1,h2,h3,fun i v hv=>h.2 _ _ _ h2 (h4 i v hv),zL.carry h d cs h5⟩,zH.carry h wd ds a _ h6⟩
end
theorem zL.zF{O S:Nat->Prop}{w w':World}(h:zD S w w')(hs:∀ k,S k->O k)(d:xC)(cs:List Value)(r:zL O w d cs):zL O w' d cs:=zL.carry (h.cel hs) d cs r
theorem zH.zF{O S:Nat->Prop}{w w':World}(h:zD S w w')(hs:∀ k,S k->O k)(wd:Nat)(ds:List xC)(a:Option Addr)(j:Nat)(r:zH O w wd ds a j):zH O w' wd ds a j:=zH.carry (h.cel hs) wd ds a j r
mutual
theorem zL.weaken{O O':Nat->Prop}{w:World}(hs:∀ k,k<w.heap.size->O' k->O k):∀(d:xC)(cs:List Value),zL O w d cs->zL O' w d cs
  | .int _ _,_,r=>by simpa only[zL]using r
  | .bool _,_,r=>by simpa only[zL]using r
  | .str _,_,r=>by simpa only[zL]using r
  | .st fs,cs,r=>by simp only[zL]at r ⊢;exact xV.weaken hs fs cs r
  | .seq wd xs,cs,r=>by
      simp only[zL]at r ⊢;obtain⟨a,cap,h1,h2,h3⟩:=r;exact⟨a,cap,h1,h2,zH.weaken hs wd xs a 0 h3⟩
theorem xV.weaken{O O':Nat->Prop}{w:World}(hs:∀ k,k<w.heap.size->O' k->O k):∀(ds:List xC)(cs:List Value),xV O w ds cs->xV O' w ds cs
  | [],_,r=>by simpa only[xV]using r
  |d :: ds,cs,r=>by
     simp only[xV]at r ⊢;obtain⟨c1,c2,h1,h2,h3⟩:=r;exact⟨c1,c2,h1,zL.weaken hs d c1 h2,xV.weaken hs ds c2 h3⟩
theorem zH.weaken{O O':Nat->Prop}{w:World}(hs:∀ k,k<w.heap.size->O' k->O k)(wd:Nat):∀(ds:List xC)(a:Option Addr)(j:Nat),zH O w wd ds a j->zH O' w wd ds a j
  | [],_,_,_=>by simp only[zH]
  |d :: ds,a,j,r=>by
     simp only[zH]at r ⊢;obtain⟨⟨b,o,cs,h1,hb,h2,h3,h4,h5⟩,h6⟩:=r;exact⟨⟨b,o,cs,h1,hb,fun x=>h2 (hs _ hb x),h3,h4,zL.weaken hs d cs h5⟩,zH.weaken hs wd ds a _ h6⟩
end
theorem zH.get{O:Nat->Prop}{w:World}{wd:Nat}:∀{xs:List xC}{a:Option Addr}{j:Nat},zH O w wd xs a j->∀ i(h:i<xs.length),
    ∃ b o cs,a=some ⟨b,o,none⟩/\b<w.heap.size/\¬O b/\cs.length=wd/\(∀ m v,cs[m]? =some v->w.cell? ⟨b,o+j+i * wd+m,none⟩=some v)/\zL O w xs[i] cs:=by
  intro xs;induction xs with
  |nil=>intro a j _ i h;simp at h
  |cons d ds ih=>
   intro a j r i h;simp only[zH]at r;obtain⟨⟨b,o,cs,h1,hb,h2,h3,h4,h5⟩,h6⟩:=r;cases i with
   |zero=>exact⟨b,o,cs,h1,hb,h2,h3,by simpa using h4,h5⟩
   |succ i=>
    obtain⟨b',o',cs',g1,gb,g2,g3,g4,g5⟩:=ih h6 i (by simpa using h);refine⟨b',o',cs',g1,gb,g2,g3,?_,g5⟩;intro m v hm;have:=g4 m v hm;rw[Nat.add_mul,Nat.one_mul];rw[show o'+j+(i * wd+wd)+m=o'+(j+wd)+i * wd+m from by omega];exact this
abbrev B(l:List UInt8):ByteArray:=⟨l.toArray⟩
theorem zCd(l:List UInt8):(B l).size=l.length:=rfl
namespace Tm
mutual
def zN:Tm->xC
  |mk k n i as=>.st [.int .i64 k,.str (B n),.int .i64 i,.seq 4 (zCv as)]
def zCv:List Tm->List xC
  | []=>[]
  |t :: ts=>zN t :: zCv ts
end
theorem zDG(l:List Tm):zCv l=l.map zN:=by
  induction l with
  |nil=>rfl
  |cons t ts ih=>simp[zCv,ih]
end Tm
theorem zf{O:Nat->Prop}{w:World}{k:Int}{n:List UInt8}{i:Int}{as:List Tm}{cs:List Value}:
    zL O w (Tm.mk k n i as).zN cs↔∃ a cap,cs=[.int .i64 k,.string (B n),.int .i64 i,.slice a as.length cap]/\as.length<=cap/\zH O w 4 (as.map Tm.zN) a 0:=by
  simp only[Tm.zN,zL,xV,Tm.zDG];constructor
  ·rintro⟨c1,c2,rfl,rfl,c3,c4,rfl,rfl,c5,c6,rfl,rfl,c7,c8,rfl,⟨a,cap,rfl,h1,h2⟩,rfl⟩;exact⟨a,cap,by simp,by simpa using h1,h2⟩
  ·rintro⟨a,cap,rfl,h1,h2⟩;exact⟨[_],[_,_,_],rfl,rfl,[_],[_,_],rfl,rfl,[_],[_],rfl,rfl,[.slice a as.length cap],[],rfl,⟨a,cap,by simp,by simpa using h1,h2⟩,rfl⟩
theorem zc{O:Nat->Prop}{w:World}{as:List Tm}{a:Option Addr}(h:zH O w 4 (as.map Tm.zN) a 0)(i:Nat)(hi:i<as.length):
    ∃ b o k n x s c,a=some ⟨b,o,none⟩/\b<w.heap.size/\¬O b/\
      w.cell? ⟨b,o+i * 4,none⟩=some (.int .i64 k)/\w.cell? ⟨b,o+i * 4+1,none⟩=some (.string (B n))/\
      w.cell? ⟨b,o+i * 4+2,none⟩=some (.int .i64 x)/\w.cell? ⟨b,o+i * 4+3,none⟩=some (.slice s as[i].args.length c)/\
      zL O w as[i].zN [.int .i64 k,.string (B n),.int .i64 x,.slice s as[i].args.length c]:=by
  obtain⟨b,o,cs,h1,hb,h2,h3,h4,h5⟩:=h.get i (by simpa using hi);simp only[List.getElem_map]at h5;cases hx:as[i]with
  |mk k n x bs=>
   rw[hx]at h5;obtain⟨s,c,rfl,g1,g2⟩:=zf.1 h5;refine⟨b,o,k,n,x,s,c,h1,hb,h2,?_,?_,?_,?_,h5⟩
   ·simpa using h4 0 _ rfl
   ·simpa using h4 1 _ rfl
   ·simpa using h4 2 _ rfl
   ·simpa[Tm.args]using h4 3 _ rfl
theorem Y0.cell{O:Nat->Prop}{w w':World}(h:Y0 O w w'){b o:Nat}{v:Value}(hb:¬O b)(hv:w.cell? ⟨b,o,none⟩=some v):w'.cell? ⟨b,o,none⟩=some v:=h.2 b o v hb hv
theorem Y0.refl(O:Nat->Prop)(w:World):Y0 O w w:=⟨Nat.le_refl _,fun _ _ _ _ h=>h⟩
theorem Y0.alloc{O:Nat->Prop}{a w:World}(h:Y0 O a w)(o:Obj):Y0 O a (w.alloc o):=h.trans (((zD.refl zC w).alloc o).cel (fun _ x=>x.elim))
theorem Y0.weaken{O O':Nat->Prop}{w w':World}(h:Y0 O w w')(hs:∀ k,O k->O' k):Y0 O' w w':=⟨h.1,fun b o v hb hv=>h.2 b o v (fun x=>hb (hs _ x)) hv⟩
theorem Y0.QO{O:Nat->Prop}{w w':World}{c0 c1 c2 c3:Value}{T:TypeId}(h:Y0 O (w.alloc (.cells #[c0,c1,c2,c3] T)) w')(hb:¬O w.heap.size):
    w'.cell? ⟨w.heap.size,0,none⟩=some c0/\w'.cell? ⟨w.heap.size,1,none⟩=some c1/\w'.cell? ⟨w.heap.size,2,none⟩=some c2/\w'.cell? ⟨w.heap.size,3,none⟩=some c3:=by
  refine⟨h.cell hb ?_,h.cell hb ?_,h.cell hb ?_,h.cell hb ?_⟩<;>rw[World.cell?_alloc_new]<;>rfl
theorem zD.behind{S:Nat->Prop}{w w':World}{o:Obj}(h:zD S (w.alloc o) w')(hs:∀ k,k<w.heap.size->S k->zC k:=by exact fun _ _ x=>x):zD zC w w':=
  ((zD.refl zC w).alloc o).trans h hs
theorem zD.cells{S:Nat->Prop}{W w1:World}(hb:zD S W w1):
    (∀ b o,b<W.heap.size->¬S b->w1.cell? ⟨b,o,none⟩=W.cell? ⟨b,o,none⟩)/\(∀ b o,b<W.heap.size->¬S b->w1.frozen? ⟨b,o,none⟩=W.frozen? ⟨b,o,none⟩):=
  ⟨fun b _ h n=>World.cell?_of_block (hb.block b h n),fun b _ h n=>World.frozen?_of_block (hb.block b h n)⟩
theorem zD.zJz{W w1:World}(hb:zD zC W w1):
    (∀ b o,b<W.heap.size->w1.cell? ⟨b,o,none⟩=W.cell? ⟨b,o,none⟩)/\(∀ b o,b<W.heap.size->w1.frozen? ⟨b,o,none⟩=W.frozen? ⟨b,o,none⟩):=
  ⟨fun b _ h=>World.cell?_of_block (hb.block b h (fun x=>x)),fun b _ h=>World.frozen?_of_block (hb.block b h (fun x=>x))⟩
theorem zL.on{O:Nat->Prop}{w w':World}{d:xC}{cs:List Value}(r:zL O w d cs)(h:zD zC w w'):zL O w' d cs:=zL.zF h (fun _ x=>x.elim) d cs r
theorem zH.cel{O:Nat->Prop}{w w':World}{wd:Nat}{ds:List xC}{a:Option Addr}{j:Nat}(r:zH O w wd ds a j)(h:Y0 O w w'):zH O w' wd ds a j:=zH.carry h wd ds a j r
theorem zH.on{O:Nat->Prop}{w w':World}{wd:Nat}{ds:List xC}{a:Option Addr}{j:Nat}(r:zH O w wd ds a j)(h:zD zC w w'):zH O w' wd ds a j:=zH.zF h (fun _ x=>x.elim) wd ds a j r
theorem zL.new{O:Nat->Prop}{w:World}{d:xC}{cs:List Value}(r:zL O w d cs)(o:Obj):zL O (w.alloc o) d cs:=r.on ((zD.refl _ w).alloc o)
theorem zG{p:Prop}(h:p):RowKit.Hid p:=h
mutual
theorem zL.zS{O:Nat->Prop}{w:World}:∀(d:xC)(cs:List Value),zL O w d cs->zL (fun b=>O b\/w.heap.size<=b) w d cs
  | .int _ _,_,r=>by simpa only[zL]using r
  | .bool _,_,r=>by simpa only[zL]using r
  | .str _,_,r=>by simpa only[zL]using r
  | .st fs,cs,r=>by simp only[zL]at r ⊢;exact xV.zS fs cs r
  | .seq wd xs,cs,r=>by
      simp only[zL]at r ⊢;obtain⟨a,cap,h1,h2,h3⟩:=r;exact⟨a,cap,h1,h2,zH.zS wd xs a 0 h3⟩
theorem xV.zS{O:Nat->Prop}{w:World}:∀(ds:List xC)(cs:List Value),xV O w ds cs->xV (fun b=>O b\/w.heap.size<=b) w ds cs
  | [],_,r=>by simpa only[xV]using r
  |d :: ds,cs,r=>by
     simp only[xV]at r ⊢;obtain⟨c1,c2,h1,h2,h3⟩:=r;exact⟨c1,c2,h1,zL.zS d c1 h2,xV.zS ds c2 h3⟩
theorem zH.zS{O:Nat->Prop}{w:World}(wd:Nat):∀(ds:List xC)(a:Option Addr)(j:Nat),zH O w wd ds a j->zH (fun b=>O b\/w.heap.size<=b) w wd ds a j
  | [],_,_,_=>by simp only[zH]
  |d :: ds,a,j,r=>by
     simp only[zH]at r ⊢;obtain⟨⟨b,o,cs,h1,hb,h2,h3,h4,h5⟩,h6⟩:=r;exact⟨⟨b,o,cs,h1,hb,fun x=>x.elim h2 (fun y=>by omega),h3,h4,zL.zS d cs h5⟩,zH.zS wd ds a _ h6⟩
end
theorem zL.fresh{O:Nat->Prop}{w:World}{d:xC}{cs:List Value}(r:zL O w d cs):zL (fun b=>w.heap.size<=b) w d cs:=zL.weaken (fun _ _ h=>.inr h) d cs (zL.zS d cs r)
theorem zL.xY{O:Nat->Prop}{w:World}{d:xC}{cs:List Value}(r:zL O w d cs):zL (fun b=>O b\/w.heap.size<=b) w d cs:=zL.zS d cs r
theorem zb{k:IntKind}{a b:Int}(h:a=b):Ending.returned (.int k a)=.returned (.int k b):=by rw[h]
theorem zY{a b:Bool}(h:a=b):Ending.returned (.bool a)=.returned (.bool b):=by rw[h]
theorem int_eq{k:IntKind}{a b:Int}(h:a=b):Value.int k a=.int k b:=by rw[h]
end
section
theorem XL{W w':World}{b:Nat}{c0 c1 c2 c3:Value}(hU:zD zC W w')
    (h:W.cell? ⟨b,0,none⟩=some c0/\W.cell? ⟨b,1,none⟩=some c1/\W.cell? ⟨b,2,none⟩=some c2/\W.cell? ⟨b,3,none⟩=some c3):
    w'.cell? ⟨b,0,none⟩=some c0/\w'.cell? ⟨b,1,none⟩=some c1/\w'.cell? ⟨b,2,none⟩=some c2/\w'.cell? ⟨b,3,none⟩=some c3:=
  ⟨hU.cell h.1 (fun x=>x),hU.cell h.2.1 (fun x=>x),hU.cell h.2.2.1 (fun x=>x),hU.cell h.2.2.2 (fun x=>x)⟩
theorem yA{w w1:World}{c0 c1 c2 c3:Value}{T:TypeId}(hU:zD zC (w.alloc (.cells #[c0,c1,c2,c3] T)) w1):
    w1.cell? ⟨w.heap.size,0,none⟩=some c0/\w1.cell? ⟨w.heap.size,1,none⟩=some c1/\w1.cell? ⟨w.heap.size,2,none⟩=some c2/\w1.cell? ⟨w.heap.size,3,none⟩=some c3:=
  (hU.cel (O:=zC) (fun _ x=>x)).QO (fun x=>x)
theorem zD.and{a b c:World}(h:zD zC a b)(k:zD zC b c):zD zC a c:=h.trans k (fun _ _ x=>x)
theorem zW{O:Nat->Prop}{w:World}{t:Tm}{cs:List Value}(h:zL O w t.zN cs):
    ∃ k n i ts a cap,t=.mk k n i ts/\cs=[.int .i64 k,.string (B n),.int .i64 i,.slice a ts.length cap]/\ts.length<=cap/\zH O w 4 (ts.map Tm.zN) a 0:=by
  cases t with
  |mk k n i ts=>
   obtain⟨a,cap,h1,h2,h3⟩:=zf.1 h;exact⟨k,n,i,ts,a,cap,rfl,h1,h2,h3⟩
theorem Z9(k:Int)(j:Nat):((k == 3)=true/\Tm.under k j=1)\/((k == 3)=false/\(k == 2)=true/\((j:Int) == 1)=true/\Tm.under k j=1)\/
    ((k == 3)=false/\(k == 2)=true/\((j:Int) == 1)=false/\Tm.under k j=0)\/((k == 3)=false/\(k == 2)=false/\Tm.under k j=0):=by
  unfold Tm.under;by_cases h3:k=3
  ·left;simp[h3]
  by_cases h2:k=2
  ·by_cases h1:j=1
   ·right;left;simp[h2,h1]
   ·right;right;left;simp[h2,h1];omega
  ·right;right;right;simp[h3,h2]
theorem zD.YG{w w':World}{o:Obj}(h:zD zC (w.alloc o) w'):zD zC w w':=((zD.refl zC w).alloc o).and h
end
section
open Go.RowKit
def yY(O:World->Nat->Prop)(w w':World):Prop:=w.heap.size<=w'.heap.size/\∀ b,b<w.heap.size->¬O w b->¬O w' b/\∀ o v,w.cell? ⟨b,o,none⟩=some v->w'.cell? ⟨b,o,none⟩=some v
def At(O:World->Nat->Prop)(w:World)(b o:Nat)(v:Value):Prop:=¬O w b/\w.cell? ⟨b,o,none⟩=some v
structure Yy(O:World->Nat->Prop)(H0:Nat)(Ts:TypeId->Prop):Prop where
  new:∀(W:World)(cs:Array Value)(T:TypeId),Ts T->H0<=W.heap.size->¬O (W.alloc (.cells cs T)) W.heap.size
  old:∀(W:World)(o:Obj)(b:Nat),b<W.heap.size->¬O W b->¬O (W.alloc o) b
section
variable {O:World->Nat->Prop}{H0:Nat}{Ts:TypeId->Prop}{w w' a b c:World}
theorem yY.refl(O:World->Nat->Prop)(w:World):yY O w w:=⟨Nat.le_refl _,fun _ _ h=>⟨h,fun _ _ h'=>h'⟩⟩
theorem yY.trans{A B C:World}(h:yY O A B)(k:yY O B C):yY O A C:=⟨Nat.le_trans h.1 k.1,fun x hx hn=>⟨(k.2 x (Nat.lt_of_lt_of_le hx h.1) (h.2 x hx hn).1).1,fun o v hv=>(k.2 x (Nat.lt_of_lt_of_le hx h.1) (h.2 x hx hn).1).2 o v ((h.2 x hx hn).2 o v hv)⟩⟩
theorem yY.at{x o:Nat}{v:Value}(h:yY O w w')(ha:At O w x o v):At O w' x o v:=by
  have:=h.2 x (by simpa using World.block_lt_of_cell? w _ ha.2) ha.1;exact⟨this.1,this.2 o v ha.2⟩
theorem yY.Zj(F:Yy O H0 Ts)(w:World)(o:Obj):yY O w (w.alloc o):=by
  exact⟨by simp,fun x hl hx=>⟨F.old w o x hl hx,fun off v hv=>((zD.refl zC w).alloc o).cell hv (fun x=>x)⟩⟩
theorem yY.alloc(F:Yy O H0 Ts)(h:yY O a w)(o:Obj):yY O a (w.alloc o):=h.trans (yY.Zj F w o)
theorem Yy.QO(F:Yy O H0 Ts){T:TypeId}(hT:Ts T){W w':World}(hH:H0<=W.heap.size){c0 c1 c2 c3:Value}(h:yY O (W.alloc (.cells #[c0,c1,c2,c3] T)) w'):
    At O w' W.heap.size 0 c0/\At O w' W.heap.size 1 c1/\At O w' W.heap.size 2 c2/\At O w' W.heap.size 3 c3:=by
  have hn:=F.new W #[c0,c1,c2,c3] T hT hH;have bb:=(Y0.refl zC (W.alloc (.cells #[c0,c1,c2,c3] T))).QO (fun x=>x);exact⟨h.at ⟨hn,bb.1⟩,h.at ⟨hn,bb.2.1⟩,h.at ⟨hn,bb.2.2.1⟩,h.at ⟨hn,bb.2.2.2⟩⟩
mutual
theorem zL.Za(h:yY O w w'):∀(d:xC)(cs:List Value),zL (O w) w d cs->zL (O w') w' d cs
  | .int _ _,_,r=>by simpa only[zL]using r
  | .bool _,_,r=>by simpa only[zL]using r
  | .str _,_,r=>by simpa only[zL]using r
  | .st fs,cs,r=>by simp only[zL]at r ⊢;exact xV.Za h fs cs r
  | .seq wd xs,cs,r=>by
      simp only[zL]at r ⊢;obtain⟨a,cap,h1,h2,h3⟩:=r;exact⟨a,cap,h1,h2,zH.Za h wd xs a 0 h3⟩
theorem xV.Za(h:yY O w w'):∀(ds:List xC)(cs:List Value),xV (O w) w ds cs->xV (O w') w' ds cs
  | [],_,r=>by simpa only[xV]using r
  |d :: ds,cs,r=>by
     simp only[xV]at r ⊢;obtain⟨c1,c2,h1,h2,h3⟩:=r;exact⟨c1,c2,h1,zL.Za h d c1 h2,xV.Za h ds c2 h3⟩
theorem zH.Za(h:yY O w w')(wd:Nat):∀(ds:List xC)(a:Option Addr)(j:Nat),zH (O w) w wd ds a j->zH (O w') w' wd ds a j
  | [],_,_,_=>by simp only[zH]
  |d :: ds,a,j,r=>by
     simp only[zH]at r ⊢;obtain⟨⟨b,o,cs,h1,hb,h2,h3,h4,h5⟩,h6⟩:=r;exact⟨⟨b,o,cs,h1,Nat.lt_of_lt_of_le hb h.1,(h.2 b hb h2).1,h3,fun i v hv=>(h.2 b hb h2).2 _ v (h4 i v hv),zL.Za h d cs h5⟩,zH.Za h wd ds a _ h6⟩
end
theorem yY.of(O:Nat->Prop)(h:Y0 O w w'):yY (fun _=>O) w w':=⟨h.1,fun b _ hn=>⟨hn,fun o v hv=>h.2 b o v hn hv⟩⟩
theorem Yy.of(O:Nat->Prop)(Ts:TypeId->Prop)(h:∀ b,H0<=b->¬O b):Yy (fun _=>O) H0 Ts:=⟨fun _ _ _ _ hb=>h _ hb,fun _ _ _ _ h=>h⟩
theorem zH.zK0{wd:Nat}{ds:List xC}{x:Option Addr}{j:Nat}(r:zH (O w) w wd ds x j)(h:yY O w w'):zH (O w') w' wd ds x j:=zH.Za h wd ds x j r
end
end
section
namespace Tm
mutual
def scope:Tm->Int
  |mk k _ i l=>scopes k 0 (if k == 5 then i+1 else 0) l
def scopes(k:Int)(j:Nat)(acc:Int):List Tm->Int
  | []=>acc
  |t :: ts=>scopes k (j+1) (max acc (scope t - under k j)) ts
end
mutual
def yN(acc:List Int):Tm->List Int
  |mk k _ i l=>zx (if k == 6 && !acc.contains i then acc++[i]else acc) l
def zx(acc:List Int):List Tm->List Int
  | []=>acc
  |t :: ts=>zx (yN acc t) ts
end
def YY(t:Tm):List Int:=yN [] t
def yf(acc:Int)(x:Nd0):Int:=if x.k == 5 then max acc (x.i - x.b+1)else acc
def yb(acc:List Int)(x:Nd0):List Int:=if x.k == 6 && !acc.contains x.i then acc++[x.i]else acc
def zHG(acc:List (List UInt8))(x:Nd0):List (List UInt8):=if x.k == 4 && !acc.contains x.n then acc++[x.n]else acc
theorem QX(k:Int)(l:List Tm):∀(j:Nat)(acc:Int),acc<=scopes k j acc l:=by
  induction l with
  |nil=>intro j acc;simp[scopes]
  |cons t ts ih=>intro j acc;rw[scopes];have:=ih (j+1) (max acc (scope t - under k j));omega
theorem qy(t:Tm)(h:t.kind == 5->0<=t.index):0<=scope t:=by
  cases t with
  |mk k n i l=>
   rw[scope];have:=QX k l 0 (if(k == 5)=true then i+1 else 0);by_cases hk:(k == 5)=true
   ·rw[if_pos hk]at this ⊢;have:=h hk;simp at this;omega
   ·rw[if_neg hk]at this ⊢;omega
theorem zBY(t:Tm):∀(b acc:Int),0<=b->0<=acc->(nodes b t).foldl yf acc=max acc (scope t - b):=by
  induction t using ind with
  |h k n i l ih=>
   intro b acc hb ha;rw[zn,List.foldl_cons,scope]
   have key:∀(l':List Tm),(∀ t∈l',∀(b acc:Int),0<=b->0<=acc->(nodes b t).foldl yf acc=max acc (scope t - b))->
       ∀(j:Nat)(a c:Int),0<=a->a=max a (c - b)->(zd b k j l').foldl yf a=max a (scopes k j c l' - b):=by
     intro l';induction l' with
     |nil=>intro _ j a c h0 h1;simp only[zd,List.foldl_nil,scopes];exact h1
     |cons t ts ih2=>
      intro h j a c h0 h1;have hu:=yC k j;simp only[zd,List.foldl_append,scopes];rw[h t (by simp) (b+under k j) a (by omega) h0,ih2 (fun t ht=>h t (by simp[ht])) (j+1) _ (max c (t.scope - under k j)) (by omega) (by omega)];have:=QX k ts (j+1) (max c (t.scope - under k j));omega
   by_cases hk:(k == 5)=true
   ·simp only[yf,hk,if_true];rw[key l ih 0 (max acc (i - b+1)) (i+1) (by omega) (by omega)];have:=QX k l 0 (i+1);omega
   ·simp only[yf,if_neg hk];exact key l ih 0 acc 0 (by omega) (by omega)
theorem zEX(t:Tm)(h:t.kind == 5->0<=t.index):(nodes 0 t).foldl yf 0=scope t:=by
  rw[zBY t 0 0 (by omega) (by omega)];have:=qy t h;omega
theorem qi(t:Tm):∀(b:Int)(acc:List Int),(nodes b t).foldl yb acc=yN acc t:=by
  induction t using ind with
  |h k n i l ih=>
   intro b acc;rw[zn,List.foldl_cons,yN]
   have key:∀(l':List Tm),(∀ t∈l',∀(b:Int)(acc:List Int),(nodes b t).foldl yb acc=yN acc t)->∀(j:Nat)(acc:List Int),(zd b k j l').foldl yb acc=zx acc l':=by
     intro l';induction l' with
     |nil=>intro _ j acc;simp[zd,zx]
     |cons t ts ih2=>intro h j acc;simp only[zd,List.foldl_append,zx];rw[h t (by simp),ih2 (fun t ht=>h t (by simp[ht]))]
   exact key l ih 0 _
def Nd0.ok(x:Nd0):Prop:=((x.k == 5)=true->0<=x.i/\x.i<=1048576)/\((x.k == 6)=true->0<=x.i/\x.i<2048)/\((x.k == 4)=true->x.n.length<=64)
theorem qh(n:List UInt8)(h:isName n=true):n.length<=64:=by
  simp[isName]at h;omega
theorem Yo{p:Nd0->Prop}{b k:Int}{l:List Tm}(h:∀ t∈l,∀ b,∀ x∈nodes b t,p x):∀ j,∀ x∈zd b k j l,p x:=by
  induction l with
  |nil=>intro j x hx;simp[zd]at hx
  |cons t ts ih=>
   intro j x hx;simp only[zd,List.mem_append]at hx;rcases hx with hx |hx
   ·exact h t (by simp) _ x hx
   ·exact ih (fun t ht=>h t (by simp[ht])) (j+1) x hx
theorem zAr(t:Tm):t.isObj=true->∀ b,∀ x∈nodes b t,x.ok:=by
  induction t using ind with
  |h k n i l ih=>
   intro h b x hx;have hall:zZ l=true->∀ t∈l,t.isObj=true:=by rw[yP,List.all_eq_true];exact fun x=>x
   rw[isObj]at h;rw[zn]at hx;have hA:zZ l=true:=by split at h<;>(try split at h)<;>(try split at h)<;>(try split at h)<;>simp_all
   rcases List.mem_cons.1 hx with rfl |hx
   ·refine⟨fun e=>?_,fun e=>?_,fun e=>?_⟩<;>simp at e<;>subst e<;>simp at h
    ·simp;omega
    ·simp;omega
    ·simpa using qh n h.1.1
   ·exact Yo (fun t ht b x hx=>ih t ht (hall hA t ht) b x hx) 0 x hx
theorem zCe(t:Tm):t.zP=true->∀ b,∀ x∈nodes b t,x.ok:=by
  induction t using ind with
  |h k n i l ih=>
   intro h b x hx;rw[zP]at h;rcases Bool.or_eq_true_iff.1 h with h |h
   ·refine zAr _ ?_ b x hx;simp[isAtom]at h;rw[isObj];simp[h]
   ·have hall:yJ l=true->∀ t∈l,t.zP=true:=by rw[Yp,List.all_eq_true];exact fun x=>x
    simp at h;rw[zn]at hx;rcases List.mem_cons.1 hx with rfl |hx
    ·refine⟨fun e=>?_,fun e=>?_,fun e=>?_⟩<;>simp[h.1]at e
    ·exact Yo (fun t ht b x hx=>ih t ht (hall h.2.2 t ht) b x hx) 0 x hx
theorem zH1(t:Tm):t.zR=true->∀ b,∀ x∈nodes b t,x.ok:=by
  induction t using ind with
  |h k n i l ih=>
   intro h b x hx;rw[zn]at hx;match l,h,ih,hx with
   | [],h,ih,hx=>
     simp[zR]at h;simp[zd]at hx;subst hx;refine⟨fun e=>?_,fun e=>?_,fun e=>?_⟩<;>simp[h.1]at e
   | [a],h,ih,hx=>simp[zR]at h
   |a :: c :: d :: l,h,ih,hx=>simp[zR]at h
   | [a,c],h,ih,hx=>
     simp[zR]at h;rcases List.mem_cons.1 hx with rfl |hx
     ·refine⟨fun e=>?_,fun e=>?_,fun e=>?_⟩<;>simp[h.1]at e
     ·simp only[zd,List.append_nil,List.mem_append]at hx;rcases hx with hx |hx
      ·exact zCe a h.2.2.1 _ x hx
      ·exact ih c (by simp) h.2.2.2 _ x hx
theorem QU(t:Tm)(h:t.wf=0):(∀ b,∀ x∈nodes b t,x.ok)/\t.size<=4096/\t.depth<=128:=by
  unfold wf at h;by_cases h1:(!t.isObj && !t.zP && !t.zR)=true
  ·rw[if_pos h1]at h;omega
  rw[if_neg h1]at h;by_cases h2:(!t.small)=true
  ·rw[if_pos h2]at h;omega
  have h2':t.small=true:=by simpa using h2
  unfold small at h2';simp at h2' h1;refine⟨?_,h2'⟩;by_cases ho:t.isObj=true
  ·exact zAr t ho
  by_cases hy:t.zP=true
  ·exact zCe t hy
  ·exact zH1 t (h1 (by simpa using ho) (by simpa using hy))
theorem zCc(t:Tm):∀ b,∀ x∈nodes b t,b<=x.b/\x.b<b+t.size:=by
  induction t using ind with
  |h k n i l ih=>
   intro b x hx;rw[zn]at hx;rw[zU];rcases List.mem_cons.1 hx with rfl |hx
   ·simp;omega
   ·have key:∀(l':List Tm),(∀ t∈l',t∈l)->∀ j,∀ x∈zd b k j l',b<=x.b/\x.b<b+(zQ l+1):=by
      intro l';induction l' with
      |nil=>intro _ j x hx;simp[zd]at hx
      |cons t ts ih2=>
       intro hs j x hx;simp only[zd,List.mem_append]at hx;rcases hx with hx |hx
       ·have:=ih t (hs t (by simp)) _ x hx;have:=yC k j;have:=zT (hs t (by simp));omega
       ·exact ih2 (fun t ht=>hs t (by simp[ht])) _ x hx
    exact key l (fun _ h=>h) 0 x hx
end Tm
end
section
open Go.RowKit Go.MapKept
def Seen(W:World)(m:Nat)(ks:List Value):Prop:=∃ es clock,W.heap[m]? =some (.map es clock)/\es.toList.map (·.key)=ks/\∀ e∈es.toList,e.val=.bool true
variable {P:Program}{W:World}{mt kt bt:TypeId}{d:TypeDesc}{m:Nat}{ks:List Value}{key:Value}
theorem Seen.made(W:World):Seen (W.alloc (.map #[] 0)) W.heap.size []:=⟨#[],0,heap_alloc_new W _,rfl,by simp⟩
theorem Seen.kept{W':World}{row:Option Nat}(h:Seen W m ks)(hg:W.grownBy W' row)(hr:some m≠row):Seen W' m ks:=by
  obtain⟨es,clock,h1,h2,h3⟩:=h;exact⟨es,clock,(hg.block m (Array.getElem?_eq_some_iff.1 h1).1 hr).trans h1,h2,h3⟩
theorem Seen.lookup(hm:P.underlying mt=some (.map kt bt))(hk:P.underlying kt=some d)(hb:(zeroValue bt).run P W=.ok (.bool false) W)(hS:Seen W m ks)
    (hks:∀ k∈ks,IsKey d k) (hkey:IsKey d key) (b:Bool) (hbk:b=true↔key∈ks):(Instr.lookup mt (.map (some m)) key false).run P W=.ok (.bool b) W:=by
  obtain⟨es,clock,h1,h2,h3⟩:=hS;have hes:∀ x∈es.toList,IsKey d x.key:=fun x hx=>hks _ (by rw[<-h2];exact List.mem_map_of_mem hx)
  rcases findNow_spec hkey es.toList 0 hes with⟨f1,f2⟩|⟨j,e,f1,f2,f3⟩
  ·have hbf:b=false:=by
     rw[<-Bool.not_eq_true,hbk,<-h2];intro h;obtain⟨x,hx,hxk⟩:=List.mem_map.1 h;exact f2 x hx hxk
   subst hbf;simp[Instr.lookup,run_underlying hm,MapKept.run_getObj_map h1,run_checkKey hk hkey,run_findKey hk f1,hb,Result.andThen]
  ·have he:e∈es.toList:=List.mem_of_getElem? f2
   have hbt:b=true:=by
     rw[hbk,<-h2];exact List.mem_map.2 ⟨e,he,f3⟩
   subst hbt;simp[Instr.lookup,run_underlying hm,MapKept.run_getObj_map h1,run_checkKey hk hkey,run_findKey hk f1,h3 e he,Result.andThen]
theorem Seen.store(hm:P.underlying mt=some (.map kt bt))(hk:P.underlying kt=some d)(hS:Seen W m ks)
    (hks:∀ k∈ks,IsKey d k) (hkey:IsKey d key) (hn:key∉ks):∃ W',(Instr.mapUpdate mt (.map (some m)) key (.bool true)).run P W=.ok () W'/\Seen W' m (ks++[key])/\W.grownBy W' (some m)/\W.heap.size<=W'.heap.size:=by
  obtain⟨es,clock,h1,h2,h3⟩:=hS;have hes:∀ x∈es.toList,IsKey d x.key:=fun x hx=>hks _ (by rw[<-h2];exact List.mem_map_of_mem hx)
  rcases findNow_spec hkey es.toList 0 hes with⟨f1,f2⟩|⟨j,e,f1,f2,f3⟩
  ·refine⟨{ W with heap:=W.heap.setIfInBounds m (.map (es.push { key,val:=.bool true,born:=clock }) (clock+1)) },?_,⟨_,_,(heap_set h1).1,?_,?_⟩,⟨rfl,rfl,rfl,by simp,fun k _ hne=>?_⟩,by simp⟩
   ·simp[Instr.mapUpdate,run_underlying hm,MapKept.run_getObj_map h1,run_checkKey hk hkey,run_findKey hk f1,run_setObj_map _ h1,Result.andThen]
   ·simp[h2]
   ·intro x hx;simp only[Array.toList_push,List.mem_append,List.mem_singleton]at hx;rcases hx with hx |rfl
    ·exact h3 x hx
    ·rfl
   ·exact(heap_set h1).2 k (fun e=>hne (by rw[e]))
  ·exact absurd (by rw[<-h2];exact List.mem_map.2 ⟨e,List.mem_of_getElem? f2,f3⟩) hn
end
section
namespace Tm
mutual
def vr(n:Int):Tm->Option Int
  |mk k _ i l=>if k == 3 then vr0 n l else if k == 5 && (decide (n<=i) && ((l.length:Int) == n && vrs (n - 1) l))then some (i - n)else none
def vr0(n:Int):List Tm->Option Int
  | []=>none
  |t :: _=>vr (n+1) t
def vrs(e:Int):List Tm->Bool
  | []=>true
  |t :: ts=>vr 0 t == some e && vrs (e - 1) ts
end
theorem YX{k i:Int}{n:List UInt8}{l:List Tm}(h:(mk k n i l).isObj=true):(∀ t∈l,t.isObj=true)/\(k=3->l.length=1):=by
  rw[isObj]at h;have key:zZ l=true->∀ t∈l,t.isObj=true:=fun h=>by rw[yP,List.all_eq_true]at h;exact h
  split at h
  ·simp[bound]at h;exact⟨key h.2,fun _=>h.1.1.2⟩
  ·rename_i h3;refine⟨?_,fun e=>absurd e h3⟩;split at h
   ·simp at h;exact key h.2
   ·split at h
    ·simp at h;exact key h.2
    ·split at h
     ·simp at h;exact key h.2
     ·cases h
end Tm
end
end Go.LF
namespace Go.LF.Tm
def zB2(t:Tm):Prop:=t.isObj=true\/t.zP=true\/t.zR=true
theorem zCI{k i:Int}{n:List UInt8}{l:List Tm}(h:zB2 (mk k n i l)):
    (∀ a∈l,zB2 a)/\(k=5->(∀ a∈l,a.isObj=true)/\0<=i/\i<=1048576)/\(k=3->l.length=1)/\(k=2->l.length=2):=by
  rcases h with h |h |h
  ·obtain⟨h1,h2⟩:=YX h;refine⟨fun a ha=>.inl (h1 a ha),fun e=>⟨h1,?_⟩,h2,fun e=>?_⟩
   ·subst e;rw[isObj]at h;simp at h;omega
   ·subst e;rw[isObj]at h;simp at h
  ·rw[zP,isAtom]at h;by_cases h4:k=4
   ·subst h4;simp at h;have h3:zZ l=true:=h.2;rw[yP,List.all_eq_true]at h3;exact⟨fun a ha=>.inl (h3 a ha),fun e=>absurd e (by decide),fun e=>absurd e (by decide),fun e=>absurd e (by decide)⟩
   ·have h4':(k == 4)=false:=by simpa using h4
    rw[h4']at h;simp only[Bool.false_and,Bool.false_or,Bool.and_eq_true,beq_iff_eq]at h;obtain⟨rfl,h2,h3⟩:=h;rw[Yp,List.all_eq_true]at h3;unfold bound at h2;simp only[Bool.and_eq_true,beq_iff_eq]at h2;exact⟨fun a ha=>.inr (.inl (h3 a ha)),fun e=>absurd e (by decide),fun e=>absurd e (by decide),fun _=>h2.1.2⟩
  ·unfold zR at h;split at h
   ·rename_i a b e;cases e
    simp only[Bool.and_eq_true,beq_iff_eq]at h;obtain⟨rfl,h2,h3,h4⟩:=h;refine⟨fun x hx=>?_,fun e=>absurd e (by decide),fun e=>absurd e (by decide),fun _=>rfl⟩;rcases List.mem_cons.1 hx with rfl |hx
    ·exact .inr (.inl h3)
    ·obtain rfl:x=b:=by simpa using hx
     exact .inr (.inr h4)
   ·rename_i e;cases e
    simp at h;obtain⟨rfl,h2,h3,h4⟩:=h;subst h4;exact⟨fun x hx=>by simp at hx,fun e=>absurd e (by decide),fun e=>absurd e (by decide),fun e=>absurd e (by decide)⟩
theorem yd{t:Tm}(h:t.wf=0):zB2 t/\t.size<=4096/\t.depth<=128:=by
  unfold wf at h;split at h
  ·cases h
  ·rename_i h1;split at h
   ·cases h
   ·rename_i h2;simp only[small,Bool.not_eq_true',Bool.not_eq_false,Bool.and_eq_true,decide_eq_true_eq]at h2;refine⟨?_,h2⟩;unfold zB2;cases ho:t.isObj
    ·cases hy:t.zP
     ·cases hk:t.zR
      ·rw[ho,hy,hk]at h1;simp at h1
      ·simp
     ·simp
    ·simp
end Go.LF.Tm
