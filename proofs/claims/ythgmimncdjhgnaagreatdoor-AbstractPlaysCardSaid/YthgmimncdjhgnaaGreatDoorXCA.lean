/- dG as plain data, and K5 sU JA of SL 5 compute of abu. No program is in qP here. -/
import Derived.Below
import Derived.IntWalk
import Derived.MapKept
import Derived.Maps.Keyed
import Derived.RowKit
import Derived.WalkKit
namespace Go.LF
section
inductive Tm where
  |mk (kind:Int) (name:List UInt8) (index:Int) (args:List Tm)
namespace Tm
def kind:Tm->Int |mk k _ _ _=>k
def name:Tm->List UInt8 |mk _ n _ _=>n
def index:Tm->Int |mk _ _ i _=>i
def args:Tm->List Tm |mk _ _ _ l=>l
@[simp] theorem zR(k n i l):kind (mk k n i l)=k:=rfl
@[simp] theorem BN(k n i l):name (mk k n i l)=n:=rfl
@[simp] theorem wy(k n i l):index (mk k n i l)=i:=rfl
@[simp] theorem jK(k n i l):args (mk k n i l)=l:=rfl
theorem ind{P:Tm->Prop}(h:∀ k n i l,(∀ a∈l,P a)->P (mk k n i l))(t:Tm):P t:=
  Tm.rec (motive_1:=P) (motive_2:=fun l=>∀ a∈l,P a) (fun k n i l ih=>h k n i l ih) (by simp) (fun t ts h1 h2=>by simpa using⟨h1,h2⟩) t
mutual
def size:Tm->Nat
  |mk _ _ _ l=>aD l+1
def aD:List Tm->Nat
  | []=>0
  |t :: ts=>size t+aD ts
end
mutual
def depth:Tm->Nat
  |mk _ _ _ l=>aQ l+1
def aQ:List Tm->Nat
  | []=>0
  |t :: ts=>max (depth t) (aQ ts)
end
@[simp] theorem aM(k n i l):size (mk k n i l)=aD l+1:=by rw[size]
@[simp] theorem cD(k n i l):depth (mk k n i l)=aQ l+1:=by rw[depth]
theorem size_pos(t:Tm):0<t.size:=by cases t;simp
theorem gB(a b:List Tm):aD (a++b)=aD a+aD b:=by
  induction a with
  |nil=>simp[aD]
  |cons t ts ih=>simp[aD,ih];omega
theorem gS(a b:List Tm):aQ (a++b)=max (aQ a) (aQ b):=by
  induction a with
  |nil=>simp[aQ]
  |cons t ts ih=>simp[aQ,ih]
theorem aA(l:List Tm):l.length<=aD l:=by
  induction l with
  |nil=>simp
  |cons t ts ih=>have:=size_pos t;simp only[aD,List.length_cons];omega
theorem aK{t:Tm}{l:List Tm}(h:t∈l):t.size<=aD l:=by
  induction l with
  |nil=>cases h
  |cons u us ih=>
   rcases List.mem_cons.1 h with rfl |h
   ·simp only[aD];omega
   have:=ih h;simp only[aD];omega
theorem bz{t:Tm}{l:List Tm}(h:t∈l):t.depth<=aQ l:=by
  induction l with
  |nil=>cases h
  |cons u us ih=>
   rcases List.mem_cons.1 h with rfl |h
   ·simp only[aQ];omega
   have:=ih h;simp only[aQ];omega
theorem dm(t:Tm):t.depth<=t.size:=by
  induction t using ind with
  |h k n i l ih=>
   simp only[cD,aM,Nat.add_le_add_iff_right];induction l with
   |nil=>simp[aQ]
   |cons t ts dF=>
    have h1:=ih t (by simp);have h2:=dF (fun a ha=>ih a (by simp[ha]));simp[aQ,aD];omega
theorem bQ(l:List Tm):aQ l<=aD l:=by
  have:=dm (mk 0 [] 0 l);simpa using this
theorem bJ(l:List Tm)(j:Nat)(h:j<l.length):aD (l.take (j+1))=aD (l.take j)+l[j].size:=by
  rw[List.take_succ_eq_append_getElem h,gB];simp[aD]
theorem dP(l:List Tm)(j:Nat)(h:j<l.length):aQ (l.take (j+1))=max (aQ (l.take j)) l[j].depth:=by
  rw[List.take_succ_eq_append_getElem h,gS];simp[aQ]
theorem bW(l:List Tm)(j:Nat):aD (l.take j)<=aD l:=by
  conv=>rhs;rw[<-List.take_append_drop j l,gB]
  omega
theorem dT(l:List Tm)(j:Nat):aQ (l.take j)<=aQ l:=by
  conv=>rhs;rw[<-List.take_append_drop j l,gS]
  omega
mutual
def wt:Tm->Nat
  |mk _ n _ l=>n.length+eV l+1
def eV:List Tm->Nat
  | []=>0
  |t :: ts=>wt t+eV ts
end
@[simp] theorem cU(k n i l):wt (mk k n i l)=n.length+eV l+1:=by rw[wt]
theorem fM{t:Tm}{l:List Tm}(h:t∈l):t.wt<=eV l:=by
  induction l with
  |nil=>cases h
  |cons u us ih=>
   rcases List.mem_cons.1 h with rfl |h
   ·simp only[eV];omega
   have:=ih h;simp only[eV];omega
theorem uI(a b:List Tm):eV (a++b)=eV a+eV b:=by
  induction a with
  |nil=>simp[eV]
  |cons t ts ih=>simp[eV,ih];omega
theorem bB(t:Tm):t.size<=t.wt:=by
  induction t using ind with
  |h k n i l ih=>
   simp only[cU,aM]
   have:aD l<=eV l:=by
     induction l with
     |nil=>simp[aD]
     |cons t ts dF=>
      have h1:=ih t (by simp);have h2:=dF (fun a ha=>ih a (by simp[ha]));simp only[aD,eV];omega
   omega
theorem eC(l:List Tm):aD l<=eV l:=by
  have:=bB (mk 0 [] 0 l);simp only[cU,aM,List.length_nil]at this;omega
mutual
def same:Tm->Tm->Bool
  |mk k n i l,mk k' n' i' l'=>k == k' && (i == i' && ((n == n' || (k == 2 || k == 3)) && fF l l'))
def fF:List Tm->List Tm->Bool
  | [],[]=>true
  |a :: Vq,b :: bs=>same a b && fF Vq bs
  | [],_ :: _=>false
  |_ :: _,[]=>false
end
theorem qw:∀(l m:List Tm),fF l m=true->l.length=m.length
  | [],[],_=>rfl
  |_ :: Vq,_ :: bs,h=>by simp only[fF,Bool.and_eq_true]at h;simp[qw Vq bs h.2]
theorem p7(l m:List Tm)(h:l.length≠m.length):fF l m=false:=by
  cases hs:fF l m with
  |false=>rfl
  |true=>exact absurd (qw l m hs) h
theorem Fi(l m:List Tm)(j:Nat)(h1:j<l.length)(h2:j<m.length):fF (l.take (j+1)) (m.take (j+1))=(fF (l.take j) (m.take j) && same l[j] m[j]):=by
  induction l generalizing m j with
  |nil=>simp at h1
  |cons a Vq ih=>
   cases m with
   |nil=>simp at h2
   |cons b bs=>
    cases j with
    |zero=>simp[fF]
    |succ j=>
     have:=ih bs j (by simpa using h1) (by simpa using h2);simp only[List.take_succ_cons,fF,List.getElem_cons_succ,this,Bool.and_assoc]
theorem Dg(l m:List Tm)(j:Nat)(hl:l.length=m.length)(h1:j<l.length)(h:same l[j] (m[j]'(by omega))=false):fF l m=false:=by
  induction l generalizing m j with
  |nil=>simp at h1
  |cons a Vq ih=>
   cases m with
   |nil=>simp at hl
   |cons b bs=>
    cases j with
    |zero=>simp only[List.getElem_cons_zero]at h;simp[fF,h]
    |succ j=>
     have:=ih bs j (by simpa using hl) (by simpa using h1) (by simpa using h);simp[fF,this]
theorem Hb(k n i l k' n' i' l'):same (mk k n i l) (mk k' n' i' l')=(k == k' && (i == i' && ((n == n' || (k == 2 || k == 3)) && fF l l'))):=by rw[same]
structure BV where
  b:Int
  k:Int
  n:List UInt8
  i:Int
def under(k:Int)(j:Nat):Int:=if k=3\/(k=2/\j=1)then 1 else 0
mutual
def nodes(b:Int):Tm->List BV
  |mk k n i l=>⟨b,k,n,i⟩ :: bh b k 0 l
def bh(b k:Int)(j:Nat):List Tm->List BV
  | []=>[]
  |t :: ts=>nodes (b+under k j) t++bh b k (j+1) ts
end
theorem br(b k n i l):nodes b (mk k n i l)=⟨b,k,n,i⟩ :: bh b k 0 l:=by rw[nodes]
theorem pF(l:List Tm)(b k:Int)(j:Nat)(h:∀ t∈l,∀ b,(nodes b t).length=t.size):(bh b k j l).length=aD l:=by
  induction l generalizing j with
  |nil=>simp[bh,aD]
  |cons t ts ih=>simp[bh,aD,h t (by simp),ih (j+1) (fun u hu=>h u (by simp[hu]))]
theorem iG(t:Tm):∀ b,(nodes b t).length=t.size:=by
  induction t using ind with
  |h k n i l ih=>intro b;rw[br];simp[pF l b k 0 ih]
theorem pG(l m:List Tm)(b k:Int)(j:Nat):bh b k j (l++m)=bh b k j l++bh b k (j+l.length) m:=by
  induction l generalizing j with
  |nil=>simp[bh]
  |cons t ts ih=>simp[bh,ih (j+1),Nat.add_assoc,Nat.add_comm 1 ts.length]
theorem jc(l:List Tm)(b k:Int)(j:Nat)(h:j<l.length):bh b k 0 (l.take (j+1))=bh b k 0 (l.take j)++nodes (b+under k j) l[j]:=by
  rw[List.take_succ_eq_append_getElem h,pG];simp[bh,Nat.min_eq_left (Nat.le_of_lt h)]
theorem fz(l:List Tm)(b k:Int)(j:Nat):bh b k 0 (l.take j) <+: bh b k 0 l:=by
  conv=>rhs;rw[<-List.take_append_drop j l,pG]
  exact List.prefix_append _ _
theorem bZ(k:Int)(j:Nat):0<=under k j/\under k j<=1:=by unfold under;split<;>omega
end Tm
end
section
def qZ(c:UInt8):Bool:=c.toNat == 40 || c.toNat == 41 || c.toNat == 91 || c.toNat == 93 || c.toNat == 123 || c.toNat == 125 || c.toNat == 58 || c.toNat == 46
def cH(c:UInt8):Bool:=decide (33<=c.toNat) && (decide (c.toNat<=126) && (!qZ c && c.toNat !=37))
def gQ(s:List UInt8):Bool:=s == [45,62]|| s == [60,45]|| s == [61]|| s == [95]|| s == [116,121,112,101]
def isName(s:List UInt8):Bool:=!s.isEmpty && decide (s.length<=64) && s.all cH && !gQ s && s.head? !=some 64
theorem tr(c:UInt8)(r:List UInt8):isName (c :: r)=(decide (r.length+1<=64) && (cH c && r.all cH) && !gQ (c :: r) && c.toNat !=64):=by
  have h:((c :: r).head? !=some 64)=(c.toNat !=64):=by
    rw[Bool.eq_iff_iff];simp[<-UInt8.toNat_inj]
  simp only[isName,h];simp
theorem vB(c:UInt8)(r:List UInt8):isName (c :: r)=true↔r.length+1<=64/\(c :: r).all cH=true/\gQ (c :: r)=false/\c.toNat≠64:=by
  rw[tr];simp[and_assoc]
theorem dW(c:UInt8)(r:List UInt8):isName (c :: r)=false↔¬(r.length+1<=64/\(c :: r).all cH=true/\gQ (c :: r)=false/\c.toNat≠64):=by
  rw[<-vB];simp
theorem gO{α:Type}(p:α->Bool)(l:List α)(j:Nat)(h:j<l.length):(l.take (j+1)).all p=((l.take j).all p && p l[j]):=by
  rw[List.take_succ_eq_append_getElem h];simp only[List.all_append,List.all_cons,List.all_nil,Bool.and_true]
namespace Tm
def bound(n:List UInt8)(i:Int)(l:List Tm)(k:Nat):Bool:=i == 0 && l.length == k && (n == []|| n == [95]|| isName n)
mutual
def isObj:Tm->Bool
  |mk k n i l=>
   if k=3 then bound n i l 1 && aV l
   else if k=4 then isName n && i == 0 && aV l
   else if k=5 then n == [] && decide (0<=i) && decide (i<=1048576) && aV l
   else if k=6 then n == [] && decide (0<=i) && decide (i<2048) && aV l
   else false
def aV:List Tm->Bool
  | []=>true
  |t :: ts=>isObj t && aV ts
end
def isAtom:Tm->Bool |mk k n i l=>k == 4 && (isName n && i == 0 && aV l)
mutual
def aC:Tm->Bool
  |mk k n i l=>isAtom (mk k n i l)|| (k == 2 && (bound n i l 2 && cI l))
def cI:List Tm->Bool
  | []=>true
  |t :: ts=>aC t && cI ts
end
def aI:Tm->Bool
  |mk k n i [a,b]=>k == 2 && (bound n i [a,b] 2 && (aC a && aI b))
  |mk k n i l=>k == 1 && (n == [] && (i == 0 && l.isEmpty))
def small(t:Tm):Bool:=decide (t.size<=4096) && decide (t.depth<=128)
def wf(t:Tm):Int:=if !t.isObj && !t.aC && !t.aI then 1 else if !t.small then 2 else 0
theorem cM(l:List Tm):aV l=l.all isObj:=by
  induction l with
  |nil=>rfl
  |cons t ts ih=>simp[aV,ih]
theorem mB(l:List Tm):cI l=l.all aC:=by
  induction l with
  |nil=>rfl
  |cons t ts ih=>simp[cI,ih]
end Tm
end
section
inductive Sm where
  |mk (Vp:List UInt8) (args:List Sm)
namespace Sm
def Vp:Sm->List UInt8 |mk f _=>f
def args:Sm->List Sm |mk _ l=>l
@[simp] theorem VM(f l):Vp (mk f l)=f:=rfl
@[simp] theorem jK(f l):args (mk f l)=l:=rfl
theorem ind{P:Sm->Prop}(h:∀ f l,(∀ a∈l,P a)->P (mk f l))(t:Sm):P t:=
  Sm.rec (motive_1:=P) (motive_2:=fun l=>∀ a∈l,P a) (fun f l ih=>h f l ih) (by simp) (fun t ts h1 h2=>by simpa using⟨h1,h2⟩) t
mutual
def size:Sm->Nat
  |mk _ l=>aD l+1
def aD:List Sm->Nat
  | []=>0
  |t :: ts=>size t+aD ts
end
mutual
def depth:Sm->Nat
  |mk _ l=>aQ l+1
def aQ:List Sm->Nat
  | []=>0
  |t :: ts=>max (depth t) (aQ ts)
end
mutual
def wt:Sm->Nat
  |mk f l=>f.length+eV l+1
def eV:List Sm->Nat
  | []=>0
  |t :: ts=>wt t+eV ts
end
@[simp] theorem aM(f l):size (mk f l)=aD l+1:=by rw[size]
@[simp] theorem cD(f l):depth (mk f l)=aQ l+1:=by rw[depth]
@[simp] theorem cU(f l):wt (mk f l)=f.length+eV l+1:=by rw[wt]
theorem size_pos(t:Sm):0<t.size:=by cases t;simp
theorem gB(a b:List Sm):aD (a++b)=aD a+aD b:=by
  induction a with
  |nil=>simp[aD]
  |cons t ts ih=>simp[aD,ih];omega
theorem gS(a b:List Sm):aQ (a++b)=max (aQ a) (aQ b):=by
  induction a with
  |nil=>simp[aQ]
  |cons t ts ih=>simp[aQ,ih]
theorem uI(a b:List Sm):eV (a++b)=eV a+eV b:=by
  induction a with
  |nil=>simp[eV]
  |cons t ts ih=>simp[eV,ih];omega
theorem aA(l:List Sm):l.length<=aD l:=by
  induction l with
  |nil=>simp
  |cons t ts ih=>have:=size_pos t;simp only[aD,List.length_cons];omega
theorem aK{t:Sm}{l:List Sm}(h:t∈l):t.size<=aD l:=by
  induction l with
  |nil=>cases h
  |cons u us ih=>
   rcases List.mem_cons.1 h with rfl |h
   ·simp only[aD];omega
   have:=ih h;simp only[aD];omega
theorem fM{t:Sm}{l:List Sm}(h:t∈l):t.wt<=eV l:=by
  induction l with
  |nil=>cases h
  |cons u us ih=>
   rcases List.mem_cons.1 h with rfl |h
   ·simp only[eV];omega
   have:=ih h;simp only[eV];omega
theorem bB(t:Sm):t.size<=t.wt:=by
  induction t using ind with
  |h f l ih=>
   simp only[cU,aM]
   have:aD l<=eV l:=by
     induction l with
     |nil=>simp[aD]
     |cons t ts dF=>
      have h1:=ih t (by simp);have h2:=dF (fun a ha=>ih a (by simp[ha]));simp only[aD,eV];omega
   omega
theorem eC(l:List Sm):aD l<=eV l:=by
  have:=bB (mk [] l);simp only[cU,aM,List.length_nil]at this;omega
theorem dm(t:Sm):t.depth<=t.size:=by
  induction t using ind with
  |h f l ih=>
   simp only[cD,aM,Nat.add_le_add_iff_right];induction l with
   |nil=>simp[aQ]
   |cons t ts dF=>
    have h1:=ih t (by simp);have h2:=dF (fun a ha=>ih a (by simp[ha]));simp[aQ,aD];omega
theorem bQ(l:List Sm):aQ l<=aD l:=by
  have:=dm (mk [] l);simpa using this
theorem bJ(l:List Sm)(j:Nat)(h:j<l.length):aD (l.take (j+1))=aD (l.take j)+l[j].size:=by
  rw[List.take_succ_eq_append_getElem h,gB];simp[aD]
theorem dP(l:List Sm)(j:Nat)(h:j<l.length):aQ (l.take (j+1))=max (aQ (l.take j)) l[j].depth:=by
  rw[List.take_succ_eq_append_getElem h,gS];simp[aQ]
theorem bW(l:List Sm)(j:Nat):aD (l.take j)<=aD l:=by
  conv=>rhs;rw[<-List.take_append_drop j l,gB]
  omega
theorem dT(l:List Sm)(j:Nat):aQ (l.take j)<=aQ l:=by
  conv=>rhs;rw[<-List.take_append_drop j l,gS]
  omega
def DV(f:List UInt8):Bool:=f == [116,121,112,101]|| isName f
mutual
def form:Sm->Bool
  |mk f l=>DV f && kP l
def kP:List Sm->Bool
  | []=>true
  |t :: ts=>form t && kP ts
end
theorem Ij(f l):form (mk f l)=(DV f && kP l):=by rw[form]
theorem II(l:List Sm):kP l=l.all form:=by
  induction l with
  |nil=>rfl
  |cons t ts ih=>simp[kP,ih]
theorem Gz(l:List Sm)(j:Nat)(h:j<l.length):kP (l.drop j)=(form l[j] && kP (l.drop (j+1))):=by
  rw[List.drop_eq_getElem_cons h,kP]
def wf(s:Sm):Int:=if !s.form then 1 else if decide (4096<s.size)|| decide (128<s.depth)then 2 else 0
mutual
def same:Sm->Sm->Bool
  |mk f l,mk f' l'=>f == f' && fF l l'
def fF:List Sm->List Sm->Bool
  | [],[]=>true
  |a :: Vq,b :: bs=>same a b && fF Vq bs
  | [],_ :: _=>false
  |_ :: _,[]=>false
end
end Sm
end
section
inductive fB where
  |int (k:IntKind) (n:Int)
  |bool (b:Bool)
  |str (s:ByteArray)
  |st (fs:List fB)
  |seq (wd:Nat) (xs:List fB)
structure af(S:Nat->Prop)(w w':World):Prop where
  os:w'.os=w.os
  tape:w'.tape=w.tape
  output:w'.output=w.output
  size:w.heap.size<=w'.heap.size
  block:∀ k,k<w.heap.size->¬S k->w'.heap[k]? =w.heap[k]?
abbrev ae:Nat->Prop:=fun _=>False
theorem nW(w:World)(o:Obj)(b:Nat)(h:b<w.heap.size):(w.alloc o).heap[b]? =w.heap[b]? :=RowKit.Below.heap_alloc _ _ _ h
theorem af.refl(S:Nat->Prop)(w:World):af S w w:=⟨rfl,rfl,rfl,Nat.le_refl _,fun _ _ _=>rfl⟩
theorem af.trans{S S':Nat->Prop}{a b c:World}(h:af S a b)(k:af S' b c)(hs:∀ i,i<a.heap.size->S' i->S i):af S a c:=
  ⟨k.os.trans h.os,k.tape.trans h.tape,k.output.trans h.output,Nat.le_trans h.size k.size,
    fun i hi hn=>(k.block i (Nat.lt_of_lt_of_le hi h.size) (fun x=>hn (hs i hi x))).trans (h.block i hi hn)⟩
theorem af.mono{S S':Nat->Prop}{a b:World}(h:af S a b)(hs:∀ i,i<a.heap.size->S i->S' i):af S' a b:=
  ⟨h.os,h.tape,h.output,h.size,fun i hi hn=>h.block i hi (fun x=>hn (hs i hi x))⟩
theorem af.drew{S:Nat->Prop}{a w:World}(h:af S a w):af S a w.drew:=⟨h.os,h.tape,h.output,h.size,h.block⟩
theorem af.alloc{S:Nat->Prop}{a w:World}(h:af S a w)(o:Obj):af S a (w.alloc o):=
  h.trans (S':=ae) ⟨rfl,rfl,rfl,by simp,fun k hk _=>RowKit.Below.heap_alloc _ _ _ hk⟩ (fun _ _ x=>x.elim)
theorem af.setCell{S:Nat->Prop}{a w:World}(h:af S a w){p:Addr}(hp:p.block<a.heap.size->S p.block)(u:Value):af S a (w.setCell p u):=
  h.trans (S':=fun k=>k=p.block) ⟨rfl,rfl,rfl,by simp[World.setCell],fun k _ hk=>RowKit.Below.heap_setCell _ _ _ _ hk⟩ (fun i hi e=>by subst e;exact hp hi)
theorem af.below{B:Nat}{w w':World}(h:af (fun k=>B<=k) w w')(hB:B<=w.heap.size):RowKit.Below B w w':=
  ⟨h.os,h.tape,h.output,h.size,fun k hk=>h.block k (by omega) (by omega)⟩
theorem af.nX{S:Nat->Prop}{w w':World}(h:RowKit.Below w.heap.size w w'):af S w w':=
  ⟨h.os,h.tape,h.output,h.size,fun k hk _=>h.block k hk⟩
theorem af.cell{S:Nat->Prop}{w w':World}(h:af S w w'){a:Addr}{v:Value}(hc:w.cell? a=some v)(hs:¬S a.block):w'.cell? a=some v:=
  (World.cell?_of_block (h.block _ (World.block_lt_of_cell? w a hc) hs)).trans hc
mutual
def aw(O:Nat->Prop)(w:World):fB->List Value->Prop
  | .int k n,cs=>cs=[.int k n]
  | .bool b,cs=>cs=[.bool b]
  | .str s,cs=>cs=[.string s]
  | .st fs,cs=>fX O w fs cs
  | .seq wd xs,cs=>∃ a cap,cs=[.slice a xs.length cap]/\xs.length<=cap/\ai O w wd xs a 0
def fX(O:Nat->Prop)(w:World):List fB->List Value->Prop
  | [],cs=>cs=[]
  |d :: ds,cs=>∃ c1 c2,cs=c1++c2/\aw O w d c1/\fX O w ds c2
def ai(O:Nat->Prop)(w:World)(wd:Nat):List fB->Option Addr->Nat->Prop
  | [],_,_=>True
  |d :: ds,a,j=>(∃ b o cs,a=some ⟨b,o,none⟩/\b<w.heap.size/\¬O b/\cs.length=wd/\(∀ i v,cs[i]? =some v->w.cell? ⟨b,o+j+i,none⟩=some v)/\aw O w d cs)/\
     ai O w wd ds a (j+wd)
end
def nO(O:Nat->Prop)(w w':World):Prop:=w.heap.size<=w'.heap.size/\∀ b o v,¬O b->w.cell? ⟨b,o,none⟩=some v->w'.cell? ⟨b,o,none⟩=some v
theorem af.Bk{O S:Nat->Prop}{w w':World}(h:af S w w')(hs:∀ k,S k->O k):nO O w w':=⟨h.size,fun _ _ _ hb hv=>h.cell hv (fun x=>hb (hs _ x))⟩
theorem nO.trans{O:Nat->Prop}{a b c:World}(h:nO O a b)(k:nO O b c):nO O a c:=⟨Nat.le_trans h.1 k.1,fun x o v hx hv=>k.2 x o v hx (h.2 x o v hx hv)⟩
mutual
theorem aw.carry{O:Nat->Prop}{w w':World}(h:nO O w w'):∀(d:fB)(cs:List Value),aw O w d cs->aw O w' d cs
  | .int _ _,_,r=>by simpa only[aw]using r
  | .bool _,_,r=>by simpa only[aw]using r
  | .str _,_,r=>by simpa only[aw]using r
  | .st fs,cs,r=>by simp only[aw]at r ⊢;exact fX.carry h fs cs r
  | .seq wd xs,cs,r=>by
      simp only[aw]at r ⊢;obtain⟨a,cap,h1,h2,h3⟩:=r;exact⟨a,cap,h1,h2,ai.carry h wd xs a 0 h3⟩
theorem fX.carry{O:Nat->Prop}{w w':World}(h:nO O w w'):∀(ds:List fB)(cs:List Value),fX O w ds cs->fX O w' ds cs
  | [],_,r=>by simpa only[fX]using r
  |d :: ds,cs,r=>by
     simp only[fX]at r ⊢;obtain⟨c1,c2,h1,h2,h3⟩:=r;exact⟨c1,c2,h1,aw.carry h d c1 h2,fX.carry h ds c2 h3⟩
theorem ai.carry{O:Nat->Prop}{w w':World}(h:nO O w w')(wd:Nat):∀(ds:List fB)(a:Option Addr)(j:Nat),ai O w wd ds a j->ai O w' wd ds a j
  | [],_,_,_=>by simp only[ai]
  |d :: ds,a,j,r=>by
     simp only[ai]at r ⊢;obtain⟨⟨b,o,cs,h1,hb,h2,h3,h4,h5⟩,h6⟩:=r;exact⟨⟨b,o,cs,h1,Nat.lt_of_lt_of_le hb h.1,h2,h3,fun i v hv=>h.2 _ _ _ h2 (h4 i v hv),aw.carry h d cs h5⟩,ai.carry h wd ds a _ h6⟩
end
theorem aw.ag{O S:Nat->Prop}{w w':World}(h:af S w w')(hs:∀ k,S k->O k)(d:fB)(cs:List Value)(r:aw O w d cs):aw O w' d cs:=aw.carry (h.Bk hs) d cs r
theorem ai.ag{O S:Nat->Prop}{w w':World}(h:af S w w')(hs:∀ k,S k->O k)(wd:Nat)(ds:List fB)(a:Option Addr)(j:Nat)(r:ai O w wd ds a j):ai O w' wd ds a j:=ai.carry (h.Bk hs) wd ds a j r
mutual
theorem aw.weaken{O O':Nat->Prop}{w:World}(hs:∀ k,k<w.heap.size->O' k->O k):∀(d:fB)(cs:List Value),aw O w d cs->aw O' w d cs
  | .int _ _,_,r=>by simpa only[aw]using r
  | .bool _,_,r=>by simpa only[aw]using r
  | .str _,_,r=>by simpa only[aw]using r
  | .st fs,cs,r=>by simp only[aw]at r ⊢;exact fX.weaken hs fs cs r
  | .seq wd xs,cs,r=>by
      simp only[aw]at r ⊢;obtain⟨a,cap,h1,h2,h3⟩:=r;exact⟨a,cap,h1,h2,ai.weaken hs wd xs a 0 h3⟩
theorem fX.weaken{O O':Nat->Prop}{w:World}(hs:∀ k,k<w.heap.size->O' k->O k):∀(ds:List fB)(cs:List Value),fX O w ds cs->fX O' w ds cs
  | [],_,r=>by simpa only[fX]using r
  |d :: ds,cs,r=>by
     simp only[fX]at r ⊢;obtain⟨c1,c2,h1,h2,h3⟩:=r;exact⟨c1,c2,h1,aw.weaken hs d c1 h2,fX.weaken hs ds c2 h3⟩
theorem ai.weaken{O O':Nat->Prop}{w:World}(hs:∀ k,k<w.heap.size->O' k->O k)(wd:Nat):∀(ds:List fB)(a:Option Addr)(j:Nat),ai O w wd ds a j->ai O' w wd ds a j
  | [],_,_,_=>by simp only[ai]
  |d :: ds,a,j,r=>by
     simp only[ai]at r ⊢;obtain⟨⟨b,o,cs,h1,hb,h2,h3,h4,h5⟩,h6⟩:=r;exact⟨⟨b,o,cs,h1,hb,fun x=>h2 (hs _ hb x),h3,h4,aw.weaken hs d cs h5⟩,ai.weaken hs wd ds a _ h6⟩
end
theorem ai.get{O:Nat->Prop}{w:World}{wd:Nat}:∀{xs:List fB}{a:Option Addr}{j:Nat},ai O w wd xs a j->∀ i(h:i<xs.length),
    ∃ b o cs,a=some ⟨b,o,none⟩/\b<w.heap.size/\¬O b/\cs.length=wd/\(∀ m v,cs[m]? =some v->w.cell? ⟨b,o+j+i * wd+m,none⟩=some v)/\aw O w xs[i] cs:=by
  intro xs;induction xs with
  |nil=>intro a j _ i h;simp at h
  |cons d ds ih=>
   intro a j r i h;simp only[ai]at r;obtain⟨⟨b,o,cs,h1,hb,h2,h3,h4,h5⟩,h6⟩:=r;cases i with
   |zero=>exact⟨b,o,cs,h1,hb,h2,h3,by simpa using h4,h5⟩
   |succ i=>
    obtain⟨b',o',qs,g1,gb,g2,g3,g4,g5⟩:=ih h6 i (by simpa using h);refine⟨b',o',qs,g1,gb,g2,g3,?_,g5⟩;intro m v hm;have:=g4 m v hm;rw[Nat.add_mul,Nat.one_mul];rw[show o'+j+(i * wd+wd)+m=o'+(j+wd)+i * wd+m from by omega];exact this
abbrev B(l:List UInt8):ByteArray:=⟨l.toArray⟩
theorem Av(l:List UInt8):(B l).size=l.length:=rfl
namespace Tm
mutual
def az:Tm->fB
  |mk k n i as=>.st [.int .i64 k,.str (B n),.int .i64 i,.seq 4 (Aq as)]
def Aq:List Tm->List fB
  | []=>[]
  |t :: ts=>az t :: Aq ts
end
theorem By(l:List Tm):Aq l=l.map az:=by
  induction l with
  |nil=>rfl
  |cons t ts ih=>simp[Aq,ih]
end Tm
theorem bg{O:Nat->Prop}{w:World}{k:Int}{n:List UInt8}{i:Int}{as:List Tm}{cs:List Value}:
    aw O w (Tm.mk k n i as).az cs↔∃ a cap,cs=[.int .i64 k,.string (B n),.int .i64 i,.slice a as.length cap]/\as.length<=cap/\ai O w 4 (as.map Tm.az) a 0:=by
  simp only[Tm.az,aw,fX,Tm.By];constructor
  ·rintro⟨c1,c2,rfl,rfl,c3,c4,rfl,rfl,c5,c6,rfl,rfl,c7,c8,rfl,⟨a,cap,rfl,h1,h2⟩,rfl⟩;exact⟨a,cap,by simp,by simpa using h1,h2⟩
  rintro⟨a,cap,rfl,h1,h2⟩;exact⟨[_],[_,_,_],rfl,rfl,[_],[_,_],rfl,rfl,[_],[_],rfl,rfl,[.slice a as.length cap],[],rfl,⟨a,cap,by simp,by simpa using h1,h2⟩,rfl⟩
theorem aY{O:Nat->Prop}{w:World}{as:List Tm}{a:Option Addr}(h:ai O w 4 (as.map Tm.az) a 0)(i:Nat)(hi:i<as.length):
    ∃ b o k n x s c,a=some ⟨b,o,none⟩/\b<w.heap.size/\¬O b/\
      w.cell? ⟨b,o+i * 4,none⟩=some (.int .i64 k)/\w.cell? ⟨b,o+i * 4+1,none⟩=some (.string (B n))/\
      w.cell? ⟨b,o+i * 4+2,none⟩=some (.int .i64 x)/\w.cell? ⟨b,o+i * 4+3,none⟩=some (.slice s as[i].args.length c)/\
      aw O w as[i].az [.int .i64 k,.string (B n),.int .i64 x,.slice s as[i].args.length c]:=by
  obtain⟨b,o,cs,h1,hb,h2,h3,h4,h5⟩:=h.get i (by simpa using hi);simp only[List.getElem_map]at h5;cases hx:as[i]with
  |mk k n x bs=>
   rw[hx]at h5;obtain⟨s,c,rfl,g1,g2⟩:=bg.1 h5;refine⟨b,o,k,n,x,s,c,h1,hb,h2,?_,?_,?_,?_,h5⟩
   ·simpa using h4 0 _ rfl
   ·simpa using h4 1 _ rfl
   ·simpa using h4 2 _ rfl
   simpa[Tm.args]using h4 3 _ rfl
theorem nO.cell{O:Nat->Prop}{w w':World}(h:nO O w w'){b o:Nat}{v:Value}(hb:¬O b)(hv:w.cell? ⟨b,o,none⟩=some v):w'.cell? ⟨b,o,none⟩=some v:=h.2 b o v hb hv
theorem nO.refl(O:Nat->Prop)(w:World):nO O w w:=⟨Nat.le_refl _,fun _ _ _ _ h=>h⟩
theorem nO.alloc{O:Nat->Prop}{a w:World}(h:nO O a w)(o:Obj):nO O a (w.alloc o):=h.trans (((af.refl ae w).alloc o).Bk (fun _ x=>x.elim))
theorem nO.qu{O:Nat->Prop}{w w':World}{c0 c1 c2 c3:Value}{T:TypeId}(h:nO O (w.alloc (.cells #[c0,c1,c2,c3] T)) w')(hb:¬O w.heap.size):
    w'.cell? ⟨w.heap.size,0,none⟩=some c0/\w'.cell? ⟨w.heap.size,1,none⟩=some c1/\w'.cell? ⟨w.heap.size,2,none⟩=some c2/\w'.cell? ⟨w.heap.size,3,none⟩=some c3:=by
  refine⟨h.cell hb ?_,h.cell hb ?_,h.cell hb ?_,h.cell hb ?_⟩<;>rw[World.cell?_alloc_new]<;>rfl
theorem af.behind{S:Nat->Prop}{w w':World}{o:Obj}(h:af S (w.alloc o) w')(hs:∀ k,k<w.heap.size->S k->ae k:=by exact fun _ _ x=>x):af ae w w':=
  ((af.refl ae w).alloc o).trans h hs
theorem af.cells{S:Nat->Prop}{W w1:World}(hb:af S W w1):
    (∀ b o,b<W.heap.size->¬S b->w1.cell? ⟨b,o,none⟩=W.cell? ⟨b,o,none⟩)/\(∀ b o,b<W.heap.size->¬S b->w1.frozen? ⟨b,o,none⟩=W.frozen? ⟨b,o,none⟩):=
  ⟨fun b _ h n=>World.cell?_of_block (hb.block b h n),fun b _ h n=>World.frozen?_of_block (hb.block b h n)⟩
theorem af.LR{W w1:World}(hb:af ae W w1):
    (∀ b o,b<W.heap.size->w1.cell? ⟨b,o,none⟩=W.cell? ⟨b,o,none⟩)/\(∀ b o,b<W.heap.size->w1.frozen? ⟨b,o,none⟩=W.frozen? ⟨b,o,none⟩):=
  ⟨fun b _ h=>World.cell?_of_block (hb.block b h (fun x=>x)),fun b _ h=>World.frozen?_of_block (hb.block b h (fun x=>x))⟩
theorem aw.on{O:Nat->Prop}{w w':World}{d:fB}{cs:List Value}(r:aw O w d cs)(h:af ae w w'):aw O w' d cs:=aw.ag h (fun _ x=>x.elim) d cs r
theorem ai.Bk{O:Nat->Prop}{w w':World}{wd:Nat}{ds:List fB}{a:Option Addr}{j:Nat}(r:ai O w wd ds a j)(h:nO O w w'):ai O w' wd ds a j:=ai.carry h wd ds a j r
theorem ai.on{O:Nat->Prop}{w w':World}{wd:Nat}{ds:List fB}{a:Option Addr}{j:Nat}(r:ai O w wd ds a j)(h:af ae w w'):ai O w' wd ds a j:=ai.ag h (fun _ x=>x.elim) wd ds a j r
theorem aw.new{O:Nat->Prop}{w:World}{d:fB}{cs:List Value}(r:aw O w d cs)(o:Obj):aw O (w.alloc o) d cs:=r.on ((af.refl _ w).alloc o)
theorem ak{p:Prop}(h:p):RowKit.Hid p:=h
mutual
theorem aw.aG{O:Nat->Prop}{w:World}:∀(d:fB)(cs:List Value),aw O w d cs->aw (fun b=>O b\/w.heap.size<=b) w d cs
  | .int _ _,_,r=>by simpa only[aw]using r
  | .bool _,_,r=>by simpa only[aw]using r
  | .str _,_,r=>by simpa only[aw]using r
  | .st fs,cs,r=>by simp only[aw]at r ⊢;exact fX.aG fs cs r
  | .seq wd xs,cs,r=>by
      simp only[aw]at r ⊢;obtain⟨a,cap,h1,h2,h3⟩:=r;exact⟨a,cap,h1,h2,ai.aG wd xs a 0 h3⟩
theorem fX.aG{O:Nat->Prop}{w:World}:∀(ds:List fB)(cs:List Value),fX O w ds cs->fX (fun b=>O b\/w.heap.size<=b) w ds cs
  | [],_,r=>by simpa only[fX]using r
  |d :: ds,cs,r=>by
     simp only[fX]at r ⊢;obtain⟨c1,c2,h1,h2,h3⟩:=r;exact⟨c1,c2,h1,aw.aG d c1 h2,fX.aG ds c2 h3⟩
theorem ai.aG{O:Nat->Prop}{w:World}(wd:Nat):∀(ds:List fB)(a:Option Addr)(j:Nat),ai O w wd ds a j->ai (fun b=>O b\/w.heap.size<=b) w wd ds a j
  | [],_,_,_=>by simp only[ai]
  |d :: ds,a,j,r=>by
     simp only[ai]at r ⊢;obtain⟨⟨b,o,cs,h1,hb,h2,h3,h4,h5⟩,h6⟩:=r;exact⟨⟨b,o,cs,h1,hb,fun x=>x.elim h2 (fun y=>by omega),h3,h4,aw.aG d cs h5⟩,ai.aG wd ds a _ h6⟩
end
theorem aw.fresh{O:Nat->Prop}{w:World}{d:fB}{cs:List Value}(r:aw O w d cs):aw (fun b=>w.heap.size<=b) w d cs:=aw.weaken (fun _ _ h=>.inr h) d cs (aw.aG d cs r)
theorem aw.fR{O:Nat->Prop}{w:World}{d:fB}{cs:List Value}(r:aw O w d cs):aw (fun b=>O b\/w.heap.size<=b) w d cs:=aw.aG d cs r
theorem bd{k:IntKind}{a b:Int}(h:a=b):Ending.returned (.int k a)=.returned (.int k b):=by rw[h]
theorem aR{a b:Bool}(h:a=b):Ending.returned (.bool a)=.returned (.bool b):=by rw[h]
theorem int_eq{k:IntKind}{a b:Int}(h:a=b):Value.int k a=.int k b:=by rw[h]
end
section
theorem E8{W w':World}{b:Nat}{c0 c1 c2 c3:Value}(hU:af ae W w')
    (h:W.cell? ⟨b,0,none⟩=some c0/\W.cell? ⟨b,1,none⟩=some c1/\W.cell? ⟨b,2,none⟩=some c2/\W.cell? ⟨b,3,none⟩=some c3):
    w'.cell? ⟨b,0,none⟩=some c0/\w'.cell? ⟨b,1,none⟩=some c1/\w'.cell? ⟨b,2,none⟩=some c2/\w'.cell? ⟨b,3,none⟩=some c3:=
  ⟨hU.cell h.1 (fun x=>x),hU.cell h.2.1 (fun x=>x),hU.cell h.2.2.1 (fun x=>x),hU.cell h.2.2.2 (fun x=>x)⟩
theorem b8{w w1:World}{c0 c1 c2 c3:Value}{T:TypeId}(hU:af ae (w.alloc (.cells #[c0,c1,c2,c3] T)) w1):
    w1.cell? ⟨w.heap.size,0,none⟩=some c0/\w1.cell? ⟨w.heap.size,1,none⟩=some c1/\w1.cell? ⟨w.heap.size,2,none⟩=some c2/\w1.cell? ⟨w.heap.size,3,none⟩=some c3:=
  (hU.Bk (O:=ae) (fun _ x=>x)).qu (fun x=>x)
theorem af.and{a b c:World}(h:af ae a b)(k:af ae b c):af ae a c:=h.trans k (fun _ _ x=>x)
theorem aP{O:Nat->Prop}{w:World}{t:Tm}{cs:List Value}(h:aw O w t.az cs):
    ∃ k n i ts a cap,t=.mk k n i ts/\cs=[.int .i64 k,.string (B n),.int .i64 i,.slice a ts.length cap]/\ts.length<=cap/\ai O w 4 (ts.map Tm.az) a 0:=by
  cases t with
  |mk k n i ts=>
   obtain⟨a,cap,h1,h2,h3⟩:=bg.1 h;exact⟨k,n,i,ts,a,cap,rfl,h1,h2,h3⟩
theorem jW(k:Int)(j:Nat):((k == 3)=true/\Tm.under k j=1)\/((k == 3)=false/\(k == 2)=true/\((j:Int) == 1)=true/\Tm.under k j=1)\/
    ((k == 3)=false/\(k == 2)=true/\((j:Int) == 1)=false/\Tm.under k j=0)\/((k == 3)=false/\(k == 2)=false/\Tm.under k j=0):=by
  unfold Tm.under;by_cases h3:k=3
  ·left;simp[h3]
  by_cases h2:k=2
  ·by_cases h1:j=1
   ·right;left;simp[h2,h1]
   right;right;left;simp[h2,h1];omega
  right;right;right;simp[h3,h2]
theorem af.kR{w w':World}{o:Obj}(h:af ae (w.alloc o) w'):af ae w w':=((af.refl ae w).alloc o).and h
end
section
open Go.RowKit
def dI(O:World->Nat->Prop)(w w':World):Prop:=w.heap.size<=w'.heap.size/\∀ b,b<w.heap.size->¬O w b->¬O w' b/\∀ o v,w.cell? ⟨b,o,none⟩=some v->w'.cell? ⟨b,o,none⟩=some v
def At(O:World->Nat->Prop)(w:World)(b o:Nat)(v:Value):Prop:=¬O w b/\w.cell? ⟨b,o,none⟩=some v
structure nF(O:World->Nat->Prop)(H0:Nat)(Ts:TypeId->Prop):Prop where
  new:∀(W:World)(cs:Array Value)(T:TypeId),Ts T->H0<=W.heap.size->¬O (W.alloc (.cells cs T)) W.heap.size
  old:∀(W:World)(o:Obj)(b:Nat),b<W.heap.size->¬O W b->¬O (W.alloc o) b
section
variable {O:World->Nat->Prop}{H0:Nat}{Ts:TypeId->Prop}{w w' a b c:World}
theorem dI.refl(O:World->Nat->Prop)(w:World):dI O w w:=⟨Nat.le_refl _,fun _ _ h=>⟨h,fun _ _ h'=>h'⟩⟩
theorem dI.trans{A B C:World}(h:dI O A B)(k:dI O B C):dI O A C:=⟨Nat.le_trans h.1 k.1,fun x hx hn=>⟨(k.2 x (Nat.lt_of_lt_of_le hx h.1) (h.2 x hx hn).1).1,fun o v hv=>(k.2 x (Nat.lt_of_lt_of_le hx h.1) (h.2 x hx hn).1).2 o v ((h.2 x hx hn).2 o v hv)⟩⟩
theorem dI.at{x o:Nat}{v:Value}(h:dI O w w')(ha:At O w x o v):At O w' x o v:=by
  have:=h.2 x (by simpa using World.block_lt_of_cell? w _ ha.2) ha.1;exact⟨this.1,this.2 o v ha.2⟩
theorem dI.ki(F:nF O H0 Ts)(w:World)(o:Obj):dI O w (w.alloc o):=by
  exact⟨by simp,fun x hl hx=>⟨F.old w o x hl hx,fun off v hv=>((af.refl ae w).alloc o).cell hv (fun x=>x)⟩⟩
theorem nF.qu(F:nF O H0 Ts){T:TypeId}(hT:Ts T){W w':World}(hH:H0<=W.heap.size){c0 c1 c2 c3:Value}(h:dI O (W.alloc (.cells #[c0,c1,c2,c3] T)) w'):
    At O w' W.heap.size 0 c0/\At O w' W.heap.size 1 c1/\At O w' W.heap.size 2 c2/\At O w' W.heap.size 3 c3:=by
  have hn:=F.new W #[c0,c1,c2,c3] T hT hH;have bb:=(nO.refl ae (W.alloc (.cells #[c0,c1,c2,c3] T))).qu (fun x=>x);exact⟨h.at ⟨hn,bb.1⟩,h.at ⟨hn,bb.2.1⟩,h.at ⟨hn,bb.2.2.1⟩,h.at ⟨hn,bb.2.2.2⟩⟩
mutual
theorem aw.je(h:dI O w w'):∀(d:fB)(cs:List Value),aw (O w) w d cs->aw (O w') w' d cs
  | .int _ _,_,r=>by simpa only[aw]using r
  | .bool _,_,r=>by simpa only[aw]using r
  | .str _,_,r=>by simpa only[aw]using r
  | .st fs,cs,r=>by simp only[aw]at r ⊢;exact fX.je h fs cs r
  | .seq wd xs,cs,r=>by
      simp only[aw]at r ⊢;obtain⟨a,cap,h1,h2,h3⟩:=r;exact⟨a,cap,h1,h2,ai.je h wd xs a 0 h3⟩
theorem fX.je(h:dI O w w'):∀(ds:List fB)(cs:List Value),fX (O w) w ds cs->fX (O w') w' ds cs
  | [],_,r=>by simpa only[fX]using r
  |d :: ds,cs,r=>by
     simp only[fX]at r ⊢;obtain⟨c1,c2,h1,h2,h3⟩:=r;exact⟨c1,c2,h1,aw.je h d c1 h2,fX.je h ds c2 h3⟩
theorem ai.je(h:dI O w w')(wd:Nat):∀(ds:List fB)(a:Option Addr)(j:Nat),ai (O w) w wd ds a j->ai (O w') w' wd ds a j
  | [],_,_,_=>by simp only[ai]
  |d :: ds,a,j,r=>by
     simp only[ai]at r ⊢;obtain⟨⟨b,o,cs,h1,hb,h2,h3,h4,h5⟩,h6⟩:=r;exact⟨⟨b,o,cs,h1,Nat.lt_of_lt_of_le hb h.1,(h.2 b hb h2).1,h3,fun i v hv=>(h.2 b hb h2).2 _ v (h4 i v hv),aw.je h d cs h5⟩,ai.je h wd ds a _ h6⟩
end
theorem dI.of(O:Nat->Prop)(h:nO O w w'):dI (fun _=>O) w w':=⟨h.1,fun b _ hn=>⟨hn,fun o v hv=>h.2 b o v hn hv⟩⟩
theorem nF.of(O:Nat->Prop)(Ts:TypeId->Prop)(h:∀ b,H0<=b->¬O b):nF (fun _=>O) H0 Ts:=⟨fun _ _ _ _ hb=>h _ hb,fun _ _ _ _ h=>h⟩
theorem ai.ab2{wd:Nat}{ds:List fB}{x:Option Addr}{j:Nat}(r:ai (O w) w wd ds x j)(h:dI O w w'):ai (O w') w' wd ds x j:=ai.je h wd ds x j r
end
end
section
namespace Tm
mutual
def scope:Tm->Int
  |mk k _ i l=>scopes k 0 (if k == 5 then i+1 else 0) l
def scopes(k:Int)(j:Nat)(acc:Int):List Tm->Int
  | []=>acc
  |t :: ts=>scopes k (j+1) (max acc (scope t - under k j)) ts
end
mutual
def occ:Tm->Int->Bool
  |mk k _ i l,v=>(k == 5 && i == v)|| occs k 0 l v
def occs(k:Int)(j:Nat):List Tm->Int->Bool
  | [],_=>false
  |t :: ts,v=>occ t (v+under k j)|| occs k (j+1) ts v
end
mutual
def cC(acc:List Int):Tm->List Int
  |mk k _ i l=>bY (if k == 6 && !acc.contains i then acc++[i]else acc) l
def bY(acc:List Int):List Tm->List Int
  | []=>acc
  |t :: ts=>bY (cC acc t) ts
end
def lG(t:Tm):List Int:=cC [] t
def dy(acc:Int)(x:BV):Int:=if x.k == 5 then max acc (x.i - x.b+1)else acc
def dt(acc:List Int)(x:BV):List Int:=if x.k == 6 && !acc.contains x.i then acc++[x.i]else acc
def JS(acc:List (List UInt8))(x:BV):List (List UInt8):=if x.k == 4 && !acc.contains x.n then acc++[x.n]else acc
def uu(v:Int)(x:BV):Bool:=x.k == 5 && x.i - x.b == v
theorem rU(k:Int)(l:List Tm):∀(j:Nat)(acc:Int),acc<=scopes k j acc l:=by
  induction l with
  |nil=>intro j acc;simp[scopes]
  |cons t ts ih=>intro j acc;rw[scopes];have:=ih (j+1) (max acc (scope t - under k j));omega
theorem qW(t:Tm)(h:t.kind == 5->0<=t.index):0<=scope t:=by
  cases t with
  |mk k n i l=>
   rw[scope];have:=rU k l 0 (if(k == 5)=true then i+1 else 0);by_cases hk:(k == 5)=true
   ·rw[if_pos hk]at this ⊢;have:=h hk;simp at this;omega
   rw[if_neg hk]at this ⊢;omega
theorem wF(t:Tm):∀(b acc:Int),0<=b->0<=acc->(nodes b t).foldl dy acc=max acc (scope t - b):=by
  induction t using ind with
  |h k n i l ih=>
   intro b acc hb ha;rw[br,List.foldl_cons,scope]
   have key:∀(l':List Tm),(∀ t∈l',∀(b acc:Int),0<=b->0<=acc->(nodes b t).foldl dy acc=max acc (scope t - b))->
       ∀(j:Nat)(a c:Int),0<=a->a=max a (c - b)->(bh b k j l').foldl dy a=max a (scopes k j c l' - b):=by
     intro l';induction l' with
     |nil=>intro _ j a c h0 h1;simp only[bh,List.foldl_nil,scopes];exact h1
     |cons t ts dF=>
      intro h j a c h0 h1;have hu:=bZ k j;simp only[bh,List.foldl_append,scopes];rw[h t (by simp) (b+under k j) a (by omega) h0,dF (fun t ht=>h t (by simp[ht])) (j+1) _ (max c (t.scope - under k j)) (by omega) (by omega)];have:=rU k ts (j+1) (max c (t.scope - under k j));omega
   by_cases hk:(k == 5)=true
   ·simp only[dy,hk,if_true];rw[key l ih 0 (max acc (i - b+1)) (i+1) (by omega) (by omega)];have:=rU k l 0 (i+1);omega
   simp only[dy,if_neg hk];exact key l ih 0 acc 0 (by omega) (by omega)
theorem C5(t:Tm)(h:t.kind == 5->0<=t.index):(nodes 0 t).foldl dy 0=scope t:=by
  rw[wF t 0 0 (by omega) (by omega)];have:=qW t h;omega
theorem pW(t:Tm):∀(b:Int)(acc:List Int),(nodes b t).foldl dt acc=cC acc t:=by
  induction t using ind with
  |h k n i l ih=>
   intro b acc;rw[br,List.foldl_cons,cC]
   have key:∀(l':List Tm),(∀ t∈l',∀(b:Int)(acc:List Int),(nodes b t).foldl dt acc=cC acc t)->∀(j:Nat)(acc:List Int),(bh b k j l').foldl dt acc=bY acc l':=by
     intro l';induction l' with
     |nil=>intro _ j acc;simp[bh,bY]
     |cons t ts dF=>intro h j acc;simp only[bh,List.foldl_append,bY];rw[h t (by simp),dF (fun t ht=>h t (by simp[ht]))]
   exact key l ih 0 _
theorem adq(t:Tm):∀(b v:Int),(nodes b t).any (uu v)=occ t (v+b):=by
  induction t using ind with
  |h k n i l ih=>
   intro b v;rw[br,List.any_cons,occ]
   have key:∀(l':List Tm),(∀ t∈l',∀(b v:Int),(nodes b t).any (uu v)=occ t (v+b))->∀(j:Nat),(bh b k j l').any (uu v)=occs k j l' (v+b):=by
     intro l';induction l' with
     |nil=>intro _ j;simp[bh,occs]
     |cons t ts dF=>intro h j;simp only[bh,List.any_append,occs];rw[h t (by simp),dF (fun t ht=>h t (by simp[ht]))];rw[Int.add_assoc]
   rw[key l ih 0];congr 1;simp only[uu];congr 1;rw[Bool.eq_iff_iff];simp only[beq_iff_eq];omega
def BV.ok(x:BV):Prop:=((x.k == 5)=true->0<=x.i/\x.i<=1048576)/\((x.k == 6)=true->0<=x.i/\x.i<2048)/\((x.k == 4)=true->x.n.length<=64)
theorem p9(n:List UInt8)(h:isName n=true):n.length<=64:=by
  simp[isName]at h;omega
theorem my{p:BV->Prop}{b k:Int}{l:List Tm}(h:∀ t∈l,∀ b,∀ x∈nodes b t,p x):∀ j,∀ x∈bh b k j l,p x:=by
  induction l with
  |nil=>intro j x hx;simp[bh]at hx
  |cons t ts ih=>
   intro j x hx;simp only[bh,List.mem_append]at hx;rcases hx with hx |hx
   ·exact h t (by simp) _ x hx
   exact ih (fun t ht=>h t (by simp[ht])) (j+1) x hx
theorem uL(t:Tm):t.isObj=true->∀ b,∀ x∈nodes b t,x.ok:=by
  induction t using ind with
  |h k n i l ih=>
   intro h b x hx;have fO:aV l=true->∀ t∈l,t.isObj=true:=by rw[cM,List.all_eq_true];exact fun x=>x
   rw[isObj]at h;rw[br]at hx;have hA:aV l=true:=by split at h<;>(try split at h)<;>(try split at h)<;>(try split at h)<;>simp_all
   rcases List.mem_cons.1 hx with rfl |hx
   ·refine⟨fun e=>?_,fun e=>?_,fun e=>?_⟩<;>simp at e<;>subst e<;>simp at h
    ·simp;omega
    ·simp;omega
    simpa using p9 n h.1.1
   exact my (fun t ht b x hx=>ih t ht (fO hA t ht) b x hx) 0 x hx
theorem xw(t:Tm):t.aC=true->∀ b,∀ x∈nodes b t,x.ok:=by
  induction t using ind with
  |h k n i l ih=>
   intro h b x hx;rw[aC]at h;rcases Bool.or_eq_true_iff.1 h with h |h
   ·refine uL _ ?_ b x hx;simp[isAtom]at h;rw[isObj];simp[h]
   have fO:cI l=true->∀ t∈l,t.aC=true:=by rw[mB,List.all_eq_true];exact fun x=>x
   simp at h;rw[br]at hx;rcases List.mem_cons.1 hx with rfl |hx
   ·refine⟨fun e=>?_,fun e=>?_,fun e=>?_⟩<;>simp[h.1]at e
   exact my (fun t ht b x hx=>ih t ht (fO h.2.2 t ht) b x hx) 0 x hx
theorem L0(t:Tm):t.aI=true->∀ b,∀ x∈nodes b t,x.ok:=by
  induction t using ind with
  |h k n i l ih=>
   intro h b x hx;rw[br]at hx;match l,h,ih,hx with
   | [],h,ih,hx=>
     simp[aI]at h;simp[bh]at hx;subst hx;refine⟨fun e=>?_,fun e=>?_,fun e=>?_⟩<;>simp[h.1]at e
   | [a],h,ih,hx=>simp[aI]at h
   |a :: c :: d :: l,h,ih,hx=>simp[aI]at h
   | [a,c],h,ih,hx=>
     simp[aI]at h;rcases List.mem_cons.1 hx with rfl |hx
     ·refine⟨fun e=>?_,fun e=>?_,fun e=>?_⟩<;>simp[h.1]at e
     simp only[bh,List.append_nil,List.mem_append]at hx;rcases hx with hx |hx
     ·exact xw a h.2.2.1 _ x hx
     exact ih c (by simp) h.2.2.2 _ x hx
theorem pD(t:Tm)(h:t.wf=0):(∀ b,∀ x∈nodes b t,x.ok)/\t.size<=4096/\t.depth<=128:=by
  unfold wf at h;by_cases h1:(!t.isObj && !t.aC && !t.aI)=true
  ·rw[if_pos h1]at h;omega
  rw[if_neg h1]at h;by_cases h2:(!t.small)=true
  ·rw[if_pos h2]at h;omega
  have VS:t.small=true:=by simpa using h2
  unfold small at VS;simp at VS h1;refine⟨?_,VS⟩;by_cases ho:t.isObj=true
  ·exact uL t ho
  by_cases hy:t.aC=true
  ·exact xw t hy
  exact L0 t (h1 (by simpa using ho) (by simpa using hy))
theorem A6(t:Tm):∀ b,∀ x∈nodes b t,b<=x.b/\x.b<b+t.size:=by
  induction t using ind with
  |h k n i l ih=>
   intro b x hx;rw[br]at hx;rw[aM];rcases List.mem_cons.1 hx with rfl |hx
   ·simp;omega
   have key:∀(l':List Tm),(∀ t∈l',t∈l)->∀ j,∀ x∈bh b k j l',b<=x.b/\x.b<b+(aD l+1):=by
     intro l';induction l' with
     |nil=>intro _ j x hx;simp[bh]at hx
     |cons t ts dF=>
      intro hs j x hx;simp only[bh,List.mem_append]at hx;rcases hx with hx |hx
      ·have:=ih t (hs t (by simp)) _ x hx;have:=bZ k j;have:=aK (hs t (by simp));omega
      exact dF (fun t ht=>hs t (by simp[ht])) _ x hx
   exact key l (fun _ h=>h) 0 x hx
end Tm
end
section
open Go.RowKit Go.MapKept
def Seen(W:World)(m:Nat)(ks:List Value):Prop:=∃ es clock,W.heap[m]? =some (.map es clock)/\es.toList.map (·.key)=ks/\∀ e∈es.toList,e.val=.bool true
variable {P:Program}{W:World}{mt kt bt:TypeId}{d:TypeDesc}{m:Nat}{ks:List Value}{key:Value}
theorem Seen.made(W:World):Seen (W.alloc (.map #[] 0)) W.heap.size []:=⟨#[],0,heap_alloc_new W _,rfl,by simp⟩
theorem Seen.kept{W':World}{row:Option Nat}(h:Seen W m ks)(hg:W.grownBy W' row)(hr:some m≠row):Seen W' m ks:=by
  obtain⟨es,clock,h1,h2,h3⟩:=h;exact⟨es,clock,(hg.block m (Array.getElem?_eq_some_iff.1 h1).1 hr).trans h1,h2,h3⟩
theorem Seen.lookup(hm:P.underlying mt=some (.map kt bt))(hk:P.underlying kt=some d)(hb:(zeroValue bt).run P W=.ok (.bool false) W)(hS:Seen W m ks)
    (NU:∀ k∈ks,IsKey d k) (lO:IsKey d key) (b:Bool) (OM:b=true↔key∈ks):(Instr.lookup mt (.map (some m)) key false).run P W=.ok (.bool b) W:=by
  obtain⟨es,clock,h1,h2,h3⟩:=hS;have Zh:∀ x∈es.toList,IsKey d x.key:=fun x hx=>NU _ (by rw[<-h2];exact List.mem_map_of_mem hx)
  rcases findNow_spec lO es.toList 0 Zh with⟨f1,f2⟩|⟨j,e,f1,f2,f3⟩
  ·have hbf:b=false:=by
     rw[<-Bool.not_eq_true,OM,<-h2];intro h;obtain⟨x,hx,JM⟩:=List.mem_map.1 h;exact f2 x hx JM
   subst hbf;simp[Instr.lookup,run_underlying hm,MapKept.run_getObj_map h1,run_checkKey hk lO,run_findKey hk f1,hb,Result.andThen]
  have he:e∈es.toList:=List.mem_of_getElem? f2
  have E5:b=true:=by
    rw[OM,<-h2];exact List.mem_map.2 ⟨e,he,f3⟩
  subst E5;simp[Instr.lookup,run_underlying hm,MapKept.run_getObj_map h1,run_checkKey hk lO,run_findKey hk f1,h3 e he,Result.andThen]
theorem Seen.store(hm:P.underlying mt=some (.map kt bt))(hk:P.underlying kt=some d)(hS:Seen W m ks)
    (NU:∀ k∈ks,IsKey d k) (lO:IsKey d key) (hn:key∉ks):∃ W',(Instr.mapUpdate mt (.map (some m)) key (.bool true)).run P W=.ok () W'/\Seen W' m (ks++[key])/\W.grownBy W' (some m)/\W.heap.size<=W'.heap.size:=by
  obtain⟨es,clock,h1,h2,h3⟩:=hS;have Zh:∀ x∈es.toList,IsKey d x.key:=fun x hx=>NU _ (by rw[<-h2];exact List.mem_map_of_mem hx)
  rcases findNow_spec lO es.toList 0 Zh with⟨f1,f2⟩|⟨j,e,f1,f2,f3⟩
  ·refine⟨{ W with heap:=W.heap.setIfInBounds m (.map (es.push { key,val:=.bool true,born:=clock }) (clock+1)) },?_,⟨_,_,(heap_set h1).1,?_,?_⟩,⟨rfl,rfl,rfl,by simp,fun k _ gJ=>?_⟩,by simp⟩
   ·simp[Instr.mapUpdate,run_underlying hm,MapKept.run_getObj_map h1,run_checkKey hk lO,run_findKey hk f1,run_setObj_map _ h1,Result.andThen]
   ·simp[h2]
   ·intro x hx;simp only[Array.toList_push,List.mem_append,List.mem_singleton]at hx;rcases hx with hx |rfl
    ·exact h3 x hx
    rfl
   exact(heap_set h1).2 k (fun e=>gJ (by rw[e]))
  exact absurd (by rw[<-h2];exact List.mem_map.2 ⟨e,List.mem_of_getElem? f2,f3⟩) hn
end
section
namespace Tm
mutual
def vr(n:Int):Tm->Option Int
  |mk k _ i l=>if k == 3 then vr0 n l else if k == 5 && (decide (n<=i) && ((l.length:Int) == n && vrs (n - 1) l))then some (i - n)else none
def vr0(n:Int):List Tm->Option Int
  | []=>none
  |t :: _=>vr (n+1) t
def vrs(e:Int):List Tm->Bool
  | []=>true
  |t :: ts=>vr 0 t == some e && vrs (e - 1) ts
end
theorem lK{k i:Int}{n:List UInt8}{l:List Tm}(h:(mk k n i l).isObj=true):(∀ t∈l,t.isObj=true)/\(k=3->l.length=1):=by
  rw[isObj]at h;have key:aV l=true->∀ t∈l,t.isObj=true:=fun h=>by rw[cM,List.all_eq_true]at h;exact h
  split at h
  ·simp[bound]at h;exact⟨key h.2,fun _=>h.1.1.2⟩
  rename_i h3;refine⟨?_,fun e=>absurd e h3⟩;split at h
  ·simp at h;exact key h.2
  split at h
  ·simp at h;exact key h.2
  split at h
  ·simp at h;exact key h.2
  cases h
end Tm
end
end Go.LF
namespace Go.LF.Tm
def xS(t:Tm):Prop:=t.isObj=true\/t.aC=true\/t.aI=true
theorem yK{k i:Int}{n:List UInt8}{l:List Tm}(h:xS (mk k n i l)):
    (∀ a∈l,xS a)/\(k=5->(∀ a∈l,a.isObj=true)/\0<=i/\i<=1048576)/\(k=3->l.length=1)/\(k=2->l.length=2):=by
  rcases h with h |h |h
  ·obtain⟨h1,h2⟩:=lK h;refine⟨fun a ha=>.inl (h1 a ha),fun e=>⟨h1,?_⟩,h2,fun e=>?_⟩
   ·subst e;rw[isObj]at h;simp at h;omega
   subst e;rw[isObj]at h;simp at h
  ·rw[aC,isAtom]at h;by_cases h4:k=4
   ·subst h4;simp at h;have h3:aV l=true:=h.2;rw[cM,List.all_eq_true]at h3;exact⟨fun a ha=>.inl (h3 a ha),fun e=>absurd e (by decide),fun e=>absurd e (by decide),fun e=>absurd e (by decide)⟩
   have h4':(k == 4)=false:=by simpa using h4
   rw[h4']at h;simp only[Bool.false_and,Bool.false_or,Bool.and_eq_true,beq_iff_eq]at h;obtain⟨rfl,h2,h3⟩:=h;rw[mB,List.all_eq_true]at h3;unfold bound at h2;simp only[Bool.and_eq_true,beq_iff_eq]at h2;exact⟨fun a ha=>.inr (.inl (h3 a ha)),fun e=>absurd e (by decide),fun e=>absurd e (by decide),fun _=>h2.1.2⟩
  unfold aI at h;split at h
  ·rename_i a b e;cases e
   simp only[Bool.and_eq_true,beq_iff_eq]at h;obtain⟨rfl,h2,h3,h4⟩:=h;refine⟨fun x hx=>?_,fun e=>absurd e (by decide),fun e=>absurd e (by decide),fun _=>rfl⟩;rcases List.mem_cons.1 hx with rfl |hx
   ·exact .inr (.inl h3)
   obtain rfl:x=b:=by simpa using hx
   exact .inr (.inr h4)
  rename_i e;cases e
  simp at h;obtain⟨rfl,h2,h3,h4⟩:=h;subst h4;exact⟨fun x hx=>by simp at hx,fun e=>absurd e (by decide),fun e=>absurd e (by decide),fun e=>absurd e (by decide)⟩
theorem dz{t:Tm}(h:t.wf=0):xS t/\t.size<=4096/\t.depth<=128:=by
  unfold wf at h;split at h
  ·cases h
  rename_i h1;split at h
  ·cases h
  rename_i h2;simp only[small,Bool.not_eq_true',Bool.not_eq_false,Bool.and_eq_true,decide_eq_true_eq]at h2;refine⟨?_,h2⟩;unfold xS;cases ho:t.isObj
  ·cases hy:t.aC
   ·cases hk:t.aI
    ·rw[ho,hy,hk]at h1;simp at h1
    simp
   simp
  simp
end Go.LF.Tm
namespace Go.LF.Sm
structure SQ(s:Sm)(d:Nat):Prop where
  form:s.form=true
  depth:s.depth<=d+1
  size:s.size+1<=2 ^ (d+1)
  wt:s.wt+5<=5 * 2 ^ (d+1)
end Go.LF.Sm
