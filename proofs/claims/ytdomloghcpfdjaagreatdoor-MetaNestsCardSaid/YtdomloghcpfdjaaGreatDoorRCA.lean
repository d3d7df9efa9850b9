/- Terms as plain data, and what the functions of layer 5 compute of them. No program is in sight here. -/
import Derived.Below
import Derived.IntWalk
import Derived.MapKept
import Derived.Maps.Keyed
import Derived.RowKit
import Derived.WalkKit
namespace Go.LF
/-- Terms. -/
inductive Tm where
  | mk (kind : Int) (name : List UInt8) (index : Int) (args : List Tm)
namespace Tm
def kind : Tm → Int | mk k _ _ _ => k
def name : Tm → List UInt8 | mk _ n _ _ => n
def index : Tm → Int | mk _ _ i _ => i
def args : Tm → List Tm | mk _ _ _ l => l
@[simp] theorem kind_mk (k n i l) : kind (mk k n i l) = k := rfl
@[simp] theorem name_mk (k n i l) : name (mk k n i l) = n := rfl
@[simp] theorem index_mk (k n i l) : index (mk k n i l) = i := rfl
@[simp] theorem args_mk (k n i l) : args (mk k n i l) = l := rfl
theorem ind {P : Tm → Prop} (h : ∀ k n i l, (∀ a ∈ l, P a) → P (mk k n i l)) (t : Tm) : P t :=
  Tm.rec (motive_1 := P) (motive_2 := fun l => ∀ a ∈ l, P a) (fun k n i l ih => h k n i l ih) (by simp) (fun t ts h1 h2 => by simpa using ⟨h1, h2⟩) t
mutual
def size : Tm → Nat
  | mk _ _ _ l => sizes l + 1
def sizes : List Tm → Nat
  | [] => 0
  | t :: ts => size t + sizes ts
end
mutual
def depth : Tm → Nat
  | mk _ _ _ l => depths l + 1
def depths : List Tm → Nat
  | [] => 0
  | t :: ts => max (depth t) (depths ts)
end
@[simp] theorem size_mk (k n i l) : size (mk k n i l) = sizes l + 1 := by rw [size]
@[simp] theorem depth_mk (k n i l) : depth (mk k n i l) = depths l + 1 := by rw [depth]
theorem size_pos (t : Tm) : 0 < t.size := by cases t; simp
theorem sizes_append (a b : List Tm) : sizes (a ++ b) = sizes a + sizes b := by
  induction a with
  | nil => simp [sizes]
  | cons t ts ih => simp [sizes, ih]; omega
theorem depths_append (a b : List Tm) : depths (a ++ b) = max (depths a) (depths b) := by
  induction a with
  | nil => simp [depths]
  | cons t ts ih => simp [depths, ih]
theorem length_le_sizes (l : List Tm) : l.length ≤ sizes l := by
  induction l with
  | nil => simp
  | cons t ts ih => have := size_pos t; simp only [sizes, List.length_cons]; omega
theorem size_le_sizes {t : Tm} {l : List Tm} (h : t ∈ l) : t.size ≤ sizes l := by
  induction l with
  | nil => cases h
  | cons u us ih =>
    rcases List.mem_cons.1 h with rfl | h
    · simp only [sizes]; omega
    · have := ih h; simp only [sizes]; omega
theorem depth_le_depths {t : Tm} {l : List Tm} (h : t ∈ l) : t.depth ≤ depths l := by
  induction l with
  | nil => cases h
  | cons u us ih =>
    rcases List.mem_cons.1 h with rfl | h
    · simp only [depths]; omega
    · have := ih h; simp only [depths]; omega
theorem depth_le_size (t : Tm) : t.depth ≤ t.size := by
  induction t using ind with
  | h k n i l ih =>
    simp only [depth_mk, size_mk, Nat.add_le_add_iff_right]
    induction l with
    | nil => simp [depths]
    | cons t ts ih2 =>
      have h1 := ih t (by simp)
      have h2 := ih2 (fun a ha => ih a (by simp [ha]))
      simp [depths, sizes]; omega
theorem depths_le_sizes (l : List Tm) : depths l ≤ sizes l := by
  have := depth_le_size (mk 0 [] 0 l); simpa using this
theorem sizes_take_succ (l : List Tm) (j : Nat) (h : j < l.length) : sizes (l.take (j + 1)) = sizes (l.take j) + l[j].size := by
  rw [List.take_succ_eq_append_getElem h, sizes_append]; simp [sizes]
theorem depths_take_succ (l : List Tm) (j : Nat) (h : j < l.length) : depths (l.take (j + 1)) = max (depths (l.take j)) l[j].depth := by
  rw [List.take_succ_eq_append_getElem h, depths_append]; simp [depths]
theorem sizes_take_le (l : List Tm) (j : Nat) : sizes (l.take j) ≤ sizes l := by
  conv => rhs; rw [← List.take_append_drop j l, sizes_append]
  omega
theorem depths_take_le (l : List Tm) (j : Nat) : depths (l.take j) ≤ depths l := by
  conv => rhs; rw [← List.take_append_drop j l, depths_append]
  omega
mutual
/-- Nodes and the bytes of names. -/
def wt : Tm → Nat
  | mk _ n _ l => n.length + wts l + 1
def wts : List Tm → Nat
  | [] => 0
  | t :: ts => wt t + wts ts
end
@[simp] theorem wt_mk (k n i l) : wt (mk k n i l) = n.length + wts l + 1 := by rw [wt]
theorem wt_le_wts {t : Tm} {l : List Tm} (h : t ∈ l) : t.wt ≤ wts l := by
  induction l with
  | nil => cases h
  | cons u us ih =>
    rcases List.mem_cons.1 h with rfl | h
    · simp only [wts]; omega
    · have := ih h; simp only [wts]; omega
theorem wts_append (a b : List Tm) : wts (a ++ b) = wts a + wts b := by
  induction a with
  | nil => simp [wts]
  | cons t ts ih => simp [wts, ih]; omega
theorem size_le_wt (t : Tm) : t.size ≤ t.wt := by
  induction t using ind with
  | h k n i l ih =>
    simp only [wt_mk, size_mk]
    have : sizes l ≤ wts l := by
      induction l with
      | nil => simp [sizes]
      | cons t ts ih2 =>
        have h1 := ih t (by simp)
        have h2 := ih2 (fun a ha => ih a (by simp [ha]))
        simp only [sizes, wts]; omega
    omega
theorem sizes_le_wts (l : List Tm) : sizes l ≤ wts l := by
  have := size_le_wt (mk 0 [] 0 l)
  simp only [wt_mk, size_mk, List.length_nil] at this; omega
mutual
/-- Equal, the names of binders aside. -/
def same : Tm → Tm → Bool
  | mk k n i l, mk k' n' i' l' => k == k' && (i == i' && ((n == n' || (k == 2 || k == 3)) && sames l l'))
def sames : List Tm → List Tm → Bool
  | [], [] => true
  | a :: as', b :: bs => same a b && sames as' bs
  | [], _ :: _ => false
  | _ :: _, [] => false
end
theorem sames_length : ∀ (l m : List Tm), sames l m = true → l.length = m.length
  | [], [], _ => rfl
  | _ :: as', _ :: bs, h => by simp only [sames, Bool.and_eq_true] at h; simp [sames_length as' bs h.2]
theorem sames_of_length_ne (l m : List Tm) (h : l.length ≠ m.length) : sames l m = false := by
  cases hs : sames l m with
  | false => rfl
  | true => exact absurd (sames_length l m hs) h
theorem sames_take (l m : List Tm) (j : Nat) (h1 : j < l.length) (h2 : j < m.length) : sames (l.take (j + 1)) (m.take (j + 1)) = (sames (l.take j) (m.take j) && same l[j] m[j]) := by
  induction l generalizing m j with
  | nil => simp at h1
  | cons a as' ih =>
    cases m with
    | nil => simp at h2
    | cons b bs =>
      cases j with
      | zero => simp [sames]
      | succ j =>
        have := ih bs j (by simpa using h1) (by simpa using h2)
        simp only [List.take_succ_cons, sames, List.getElem_cons_succ, this, Bool.and_assoc]
theorem sames_false (l m : List Tm) (j : Nat) (hl : l.length = m.length) (h1 : j < l.length) (h : same l[j] (m[j]'(by omega)) = false) : sames l m = false := by
  induction l generalizing m j with
  | nil => simp at h1
  | cons a as' ih =>
    cases m with
    | nil => simp at hl
    | cons b bs =>
      cases j with
      | zero => simp only [List.getElem_cons_zero] at h; simp [sames, h]
      | succ j =>
        have := ih bs j (by simpa using hl) (by simpa using h1) (by simpa using h)
        simp [sames, this]
theorem same_mk (k n i l k' n' i' l') : same (mk k n i l) (mk k' n' i' l') = (k == k' && (i == i' && ((n == n' || (k == 2 || k == 3)) && sames l l'))) := by rw [same]
/-- A node as an iterator hands it on: the binders around it, its kind, name and index. -/
structure Nd0 where
  b : Int
  k : Int
  n : List UInt8
  i : Int
/-- How many binders an argument of a node is under. -/
def under (k : Int) (j : Nat) : Int := if k = 3 ∨ (k = 2 ∧ j = 1) then 1 else 0
mutual
/-- All nodes of a term, a node before its arguments. -/
def nodes (b : Int) : Tm → List Nd0
  | mk k n i l => ⟨b, k, n, i⟩ :: nodesA b k 0 l
def nodesA (b k : Int) (j : Nat) : List Tm → List Nd0
  | [] => []
  | t :: ts => nodes (b + under k j) t ++ nodesA b k (j + 1) ts
end
theorem nodes_mk (b k n i l) : nodes b (mk k n i l) = ⟨b, k, n, i⟩ :: nodesA b k 0 l := by rw [nodes]
theorem nodesA_length (l : List Tm) (b k : Int) (j : Nat) (h : ∀ t ∈ l, ∀ b, (nodes b t).length = t.size) : (nodesA b k j l).length = sizes l := by
  induction l generalizing j with
  | nil => simp [nodesA, sizes]
  | cons t ts ih => simp [nodesA, sizes, h t (by simp), ih (j + 1) (fun u hu => h u (by simp [hu]))]
theorem nodes_length (t : Tm) : ∀ b, (nodes b t).length = t.size := by
  induction t using ind with
  | h k n i l ih => intro b; rw [nodes_mk]; simp [nodesA_length l b k 0 ih]
theorem nodesA_append (l m : List Tm) (b k : Int) (j : Nat) : nodesA b k j (l ++ m) = nodesA b k j l ++ nodesA b k (j + l.length) m := by
  induction l generalizing j with
  | nil => simp [nodesA]
  | cons t ts ih => simp [nodesA, ih (j + 1), Nat.add_assoc, Nat.add_comm 1 ts.length]
theorem nodesA_take_succ (l : List Tm) (b k : Int) (j : Nat) (h : j < l.length) : nodesA b k 0 (l.take (j + 1)) = nodesA b k 0 (l.take j) ++ nodes (b + under k j) l[j] := by
  rw [List.take_succ_eq_append_getElem h, nodesA_append]
  simp [nodesA, Nat.min_eq_left (Nat.le_of_lt h)]
theorem nodesA_take_prefix (l : List Tm) (b k : Int) (j : Nat) : nodesA b k 0 (l.take j) <+: nodesA b k 0 l := by
  conv => rhs; rw [← List.take_append_drop j l, nodesA_append]
  exact List.prefix_append _ _
theorem under_le (k : Int) (j : Nat) : 0 ≤ under k j ∧ under k j ≤ 1 := by unfold under; split <;> omega
end Tm
end Go.LF
namespace Go.LF
/-- A byte that is a token by itself. -/
def special (c : UInt8) : Bool := c.toNat == 40 || c.toNat == 41 || c.toNat == 91 || c.toNat == 93 || c.toNat == 123 || c.toNat == 125 || c.toNat == 58 || c.toNat == 46
/-- A byte that may be part of a name. -/
def nameByte (c : UInt8) : Bool := decide (33 ≤ c.toNat) && (decide (c.toNat ≤ 126) && (!special c && c.toNat != 37))
def reserved (s : List UInt8) : Bool := s == [45, 62] || s == [60, 45] || s == [61] || s == [95] || s == [116, 121, 112, 101]
def isName (s : List UInt8) : Bool := !s.isEmpty && decide (s.length ≤ 64) && s.all nameByte && !reserved s && s.head? != some 64
theorem isName_cons (c : UInt8) (r : List UInt8) : isName (c :: r) = (decide (r.length + 1 ≤ 64) && (nameByte c && r.all nameByte) && !reserved (c :: r) && c.toNat != 64) := by
  have h : ((c :: r).head? != some 64) = (c.toNat != 64) := by
    rw [Bool.eq_iff_iff]; simp [← UInt8.toNat_inj]
  simp only [isName, h]
  simp
theorem isName_iff (c : UInt8) (r : List UInt8) : isName (c :: r) = true ↔ r.length + 1 ≤ 64 ∧ (c :: r).all nameByte = true ∧ reserved (c :: r) = false ∧ c.toNat ≠ 64 := by
  rw [isName_cons]; simp [and_assoc]
theorem isName_not_iff (c : UInt8) (r : List UInt8) : isName (c :: r) = false ↔ ¬ (r.length + 1 ≤ 64 ∧ (c :: r).all nameByte = true ∧ reserved (c :: r) = false ∧ c.toNat ≠ 64) := by
  rw [← isName_iff]; simp
theorem all_take_succ {α : Type} (p : α → Bool) (l : List α) (j : Nat) (h : j < l.length) : (l.take (j + 1)).all p = ((l.take j).all p && p l[j]) := by
  rw [List.take_succ_eq_append_getElem h]; simp only [List.all_append, List.all_cons, List.all_nil, Bool.and_true]
namespace Tm
/-- A binder's name and index, and so many arguments. -/
def bound (n : List UInt8) (i : Int) (l : List Tm) (k : Nat) : Bool := i == 0 && l.length == k && (n == [] || n == [95] || isName n)
mutual
def isObj : Tm → Bool
  | mk k n i l =>
    if k = 3 then bound n i l 1 && allObj l
    else if k = 4 then isName n && i == 0 && allObj l
    else if k = 5 then n == [] && decide (0 ≤ i) && decide (i ≤ 1048576) && allObj l
    else if k = 6 then n == [] && decide (0 ≤ i) && decide (i < 2048) && allObj l
    else false
def allObj : List Tm → Bool
  | [] => true
  | t :: ts => isObj t && allObj ts
end
/-- A constant whose arguments are objects. -/
def isAtom : Tm → Bool | mk k n i l => k == 4 && (isName n && i == 0 && allObj l)
mutual
def isTyp : Tm → Bool
  | mk k n i l => isAtom (mk k n i l) || (k == 2 && (bound n i l 2 && allTyp l))
def allTyp : List Tm → Bool
  | [] => true
  | t :: ts => isTyp t && allTyp ts
end
def isKnd : Tm → Bool
  | mk k n i [a, b] => k == 2 && (bound n i [a, b] 2 && (isTyp a && isKnd b))
  | mk k n i l => k == 1 && (n == [] && (i == 0 && l.isEmpty))
def small (t : Tm) : Bool := decide (t.size ≤ 4096) && decide (t.depth ≤ 128)
/-- 0: well formed; 1: not; 2: too large. -/
def wf (t : Tm) : Int := if !t.isObj && !t.isTyp && !t.isKnd then 1 else if !t.small then 2 else 0
theorem allObj_iff (l : List Tm) : allObj l = l.all isObj := by
  induction l with
  | nil => rfl
  | cons t ts ih => simp [allObj, ih]
theorem allTyp_iff (l : List Tm) : allTyp l = l.all isTyp := by
  induction l with
  | nil => rfl
  | cons t ts ih => simp [allTyp, ih]
end Tm
end Go.LF
namespace Go.LF
/-- Simple types. -/
inductive Sm where
  | mk (fam : List UInt8) (args : List Sm)
namespace Sm
def fam : Sm → List UInt8 | mk f _ => f
def args : Sm → List Sm | mk _ l => l
@[simp] theorem fam_mk (f l) : fam (mk f l) = f := rfl
@[simp] theorem args_mk (f l) : args (mk f l) = l := rfl
theorem ind {P : Sm → Prop} (h : ∀ f l, (∀ a ∈ l, P a) → P (mk f l)) (t : Sm) : P t :=
  Sm.rec (motive_1 := P) (motive_2 := fun l => ∀ a ∈ l, P a) (fun f l ih => h f l ih) (by simp) (fun t ts h1 h2 => by simpa using ⟨h1, h2⟩) t
mutual
def size : Sm → Nat
  | mk _ l => sizes l + 1
def sizes : List Sm → Nat
  | [] => 0
  | t :: ts => size t + sizes ts
end
mutual
def depth : Sm → Nat
  | mk _ l => depths l + 1
def depths : List Sm → Nat
  | [] => 0
  | t :: ts => max (depth t) (depths ts)
end
mutual
/-- Nodes and the bytes of names. -/
def wt : Sm → Nat
  | mk f l => f.length + wts l + 1
def wts : List Sm → Nat
  | [] => 0
  | t :: ts => wt t + wts ts
end
@[simp] theorem size_mk (f l) : size (mk f l) = sizes l + 1 := by rw [size]
@[simp] theorem depth_mk (f l) : depth (mk f l) = depths l + 1 := by rw [depth]
@[simp] theorem wt_mk (f l) : wt (mk f l) = f.length + wts l + 1 := by rw [wt]
theorem size_pos (t : Sm) : 0 < t.size := by cases t; simp
theorem sizes_append (a b : List Sm) : sizes (a ++ b) = sizes a + sizes b := by
  induction a with
  | nil => simp [sizes]
  | cons t ts ih => simp [sizes, ih]; omega
theorem depths_append (a b : List Sm) : depths (a ++ b) = max (depths a) (depths b) := by
  induction a with
  | nil => simp [depths]
  | cons t ts ih => simp [depths, ih]
theorem wts_append (a b : List Sm) : wts (a ++ b) = wts a + wts b := by
  induction a with
  | nil => simp [wts]
  | cons t ts ih => simp [wts, ih]; omega
theorem length_le_sizes (l : List Sm) : l.length ≤ sizes l := by
  induction l with
  | nil => simp
  | cons t ts ih => have := size_pos t; simp only [sizes, List.length_cons]; omega
theorem size_le_sizes {t : Sm} {l : List Sm} (h : t ∈ l) : t.size ≤ sizes l := by
  induction l with
  | nil => cases h
  | cons u us ih =>
    rcases List.mem_cons.1 h with rfl | h
    · simp only [sizes]; omega
    · have := ih h; simp only [sizes]; omega
theorem wt_le_wts {t : Sm} {l : List Sm} (h : t ∈ l) : t.wt ≤ wts l := by
  induction l with
  | nil => cases h
  | cons u us ih =>
    rcases List.mem_cons.1 h with rfl | h
    · simp only [wts]; omega
    · have := ih h; simp only [wts]; omega
theorem size_le_wt (t : Sm) : t.size ≤ t.wt := by
  induction t using ind with
  | h f l ih =>
    simp only [wt_mk, size_mk]
    have : sizes l ≤ wts l := by
      induction l with
      | nil => simp [sizes]
      | cons t ts ih2 =>
        have h1 := ih t (by simp)
        have h2 := ih2 (fun a ha => ih a (by simp [ha]))
        simp only [sizes, wts]; omega
    omega
theorem sizes_le_wts (l : List Sm) : sizes l ≤ wts l := by
  have := size_le_wt (mk [] l)
  simp only [wt_mk, size_mk, List.length_nil] at this; omega
theorem depth_le_size (t : Sm) : t.depth ≤ t.size := by
  induction t using ind with
  | h f l ih =>
    simp only [depth_mk, size_mk, Nat.add_le_add_iff_right]
    induction l with
    | nil => simp [depths]
    | cons t ts ih2 =>
      have h1 := ih t (by simp)
      have h2 := ih2 (fun a ha => ih a (by simp [ha]))
      simp [depths, sizes]; omega
theorem depths_le_sizes (l : List Sm) : depths l ≤ sizes l := by
  have := depth_le_size (mk [] l); simpa using this
theorem sizes_take_succ (l : List Sm) (j : Nat) (h : j < l.length) : sizes (l.take (j + 1)) = sizes (l.take j) + l[j].size := by
  rw [List.take_succ_eq_append_getElem h, sizes_append]; simp [sizes]
theorem depths_take_succ (l : List Sm) (j : Nat) (h : j < l.length) : depths (l.take (j + 1)) = max (depths (l.take j)) l[j].depth := by
  rw [List.take_succ_eq_append_getElem h, depths_append]; simp [depths]
theorem sizes_take_le (l : List Sm) (j : Nat) : sizes (l.take j) ≤ sizes l := by
  conv => rhs; rw [← List.take_append_drop j l, sizes_append]
  omega
theorem depths_take_le (l : List Sm) (j : Nat) : depths (l.take j) ≤ depths l := by
  conv => rhs; rw [← List.take_append_drop j l, depths_append]
  omega
/-- A family's name, or the word type. -/
def famOk (f : List UInt8) : Bool := f == [116, 121, 112, 101] || isName f
mutual
def form : Sm → Bool
  | mk f l => famOk f && forms l
def forms : List Sm → Bool
  | [] => true
  | t :: ts => form t && forms ts
end
theorem form_mk (f l) : form (mk f l) = (famOk f && forms l) := by rw [form]
theorem forms_iff (l : List Sm) : forms l = l.all form := by
  induction l with
  | nil => rfl
  | cons t ts ih => simp [forms, ih]
/-- 0: well formed; 1: not; 2: too large. -/
def wf (s : Sm) : Int := if !s.form then 1 else if decide (4096 < s.size) || decide (128 < s.depth) then 2 else 0
mutual
def same : Sm → Sm → Bool
  | mk f l, mk f' l' => f == f' && sames l l'
def sames : List Sm → List Sm → Bool
  | [], [] => true
  | a :: as', b :: bs => same a b && sames as' bs
  | [], _ :: _ => false
  | _ :: _, [] => false
end
end Sm
namespace Tm
end Tm
end Go.LF
namespace Go.LF
/-- Plain data. -/
inductive Dat where
  | int (k : IntKind) (n : Int)
  | bool (b : Bool)
  | str (s : ByteArray)
  | st (fs : List Dat)
  | seq (wd : Nat) (xs : List Dat)
/-- Outside the blocks S the world w' is as w was; new blocks may be there. -/
structure Upto (S : Nat → Prop) (w w' : World) : Prop where
  os : w'.os = w.os
  tape : w'.tape = w.tape
  output : w'.output = w.output
  size : w.heap.size ≤ w'.heap.size
  block : ∀ k, k < w.heap.size → ¬ S k → w'.heap[k]? = w.heap[k]?
abbrev none' : Nat → Prop := fun _ => False
theorem heap_old (w : World) (o : Obj) (b : Nat) (h : b < w.heap.size) : (w.alloc o).heap[b]? = w.heap[b]? := RowKit.Below.heap_alloc _ _ _ h
theorem Upto.refl (S : Nat → Prop) (w : World) : Upto S w w := ⟨rfl, rfl, rfl, Nat.le_refl _, fun _ _ _ => rfl⟩
theorem Upto.trans {S S' : Nat → Prop} {a b c : World} (h : Upto S a b) (k : Upto S' b c) (hs : ∀ i, i < a.heap.size → S' i → S i) : Upto S a c :=
  ⟨k.os.trans h.os, k.tape.trans h.tape, k.output.trans h.output, Nat.le_trans h.size k.size,
    fun i hi hn => (k.block i (Nat.lt_of_lt_of_le hi h.size) (fun x => hn (hs i hi x))).trans (h.block i hi hn)⟩
theorem Upto.mono {S S' : Nat → Prop} {a b : World} (h : Upto S a b) (hs : ∀ i, i < a.heap.size → S i → S' i) : Upto S' a b :=
  ⟨h.os, h.tape, h.output, h.size, fun i hi hn => h.block i hi (fun x => hn (hs i hi x))⟩
theorem Upto.drew {S : Nat → Prop} {a w : World} (h : Upto S a w) : Upto S a w.drew := ⟨h.os, h.tape, h.output, h.size, h.block⟩
theorem Upto.alloc {S : Nat → Prop} {a w : World} (h : Upto S a w) (o : Obj) : Upto S a (w.alloc o) :=
  h.trans (S' := none') ⟨rfl, rfl, rfl, by simp, fun k hk _ => RowKit.Below.heap_alloc _ _ _ hk⟩ (fun _ _ x => x.elim)
theorem Upto.setCell {S : Nat → Prop} {a w : World} (h : Upto S a w) {p : Addr} (hp : p.block < a.heap.size → S p.block) (u : Value) : Upto S a (w.setCell p u) :=
  h.trans (S' := fun k => k = p.block) ⟨rfl, rfl, rfl, by simp [World.setCell], fun k _ hk => RowKit.Below.heap_setCell _ _ _ _ hk⟩ (fun i hi e => by subst e; exact hp hi)
theorem Upto.below {B : Nat} {w w' : World} (h : Upto (fun k => B ≤ k) w w') (hB : B ≤ w.heap.size) : RowKit.Below B w w' :=
  ⟨h.os, h.tape, h.output, h.size, fun k hk => h.block k (by omega) (by omega)⟩
theorem Upto.of_below {S : Nat → Prop} {w w' : World} (h : RowKit.Below w.heap.size w w') : Upto S w w' :=
  ⟨h.os, h.tape, h.output, h.size, fun k hk _ => h.block k hk⟩
theorem Upto.cell {S : Nat → Prop} {w w' : World} (h : Upto S w w') {a : Addr} {v : Value} (hc : w.cell? a = some v) (hs : ¬ S a.block) : w'.cell? a = some v :=
  (World.cell?_of_block (h.block _ (World.block_lt_of_cell? w a hc) hs)).trans hc
mutual
/-- These cells read as this datum in w; no cell of a block of O is looked at. -/
def Rep (O : Nat → Prop) (w : World) : Dat → List Value → Prop
  | .int k n, cs => cs = [.int k n]
  | .bool b, cs => cs = [.bool b]
  | .str s, cs => cs = [.string s]
  | .st fs, cs => RepF O w fs cs
  | .seq wd xs, cs => ∃ a cap, cs = [.slice a xs.length cap] ∧ xs.length ≤ cap ∧ RepE O w wd xs a 0
/-- The fields of a struct. -/
def RepF (O : Nat → Prop) (w : World) : List Dat → List Value → Prop
  | [], cs => cs = []
  | d :: ds, cs => ∃ c1 c2, cs = c1 ++ c2 ∧ Rep O w d c1 ∧ RepF O w ds c2
/-- The elements of a slice, from an offset on. -/
def RepE (O : Nat → Prop) (w : World) (wd : Nat) : List Dat → Option Addr → Nat → Prop
  | [], _, _ => True
  | d :: ds, a, j => (∃ b o cs, a = some ⟨b, o, none⟩ ∧ b < w.heap.size ∧ ¬ O b ∧ cs.length = wd ∧ (∀ i v, cs[i]? = some v → w.cell? ⟨b, o + j + i, none⟩ = some v) ∧ Rep O w d cs) ∧
      RepE O w wd ds a (j + wd)
end
/-- Cells outside the blocks O read as they did. -/
def Cel (O : Nat → Prop) (w w' : World) : Prop := w.heap.size ≤ w'.heap.size ∧ ∀ b o v, ¬ O b → w.cell? ⟨b, o, none⟩ = some v → w'.cell? ⟨b, o, none⟩ = some v
theorem Upto.cel {O S : Nat → Prop} {w w' : World} (h : Upto S w w') (hs : ∀ k, S k → O k) : Cel O w w' := ⟨h.size, fun _ _ _ hb hv => h.cell hv (fun x => hb (hs _ x))⟩
theorem Cel.trans {O : Nat → Prop} {a b c : World} (h : Cel O a b) (k : Cel O b c) : Cel O a c := ⟨Nat.le_trans h.1 k.1, fun x o v hx hv => k.2 x o v hx (h.2 x o v hx hv)⟩
mutual
theorem Rep.carry {O : Nat → Prop} {w w' : World} (h : Cel O w w') : ∀ (d : Dat) (cs : List Value), Rep O w d cs → Rep O w' d cs
  | .int _ _, _, r => by simpa only [Rep] using r
  | .bool _, _, r => by simpa only [Rep] using r
  | .str _, _, r => by simpa only [Rep] using r
  | .st fs, cs, r => by simp only [Rep] at r ⊢; exact RepF.carry h fs cs r
  | .seq wd xs, cs, r => by
      simp only [Rep] at r ⊢
      obtain ⟨a, cap, h1, h2, h3⟩ := r
      exact ⟨a, cap, h1, h2, RepE.carry h wd xs a 0 h3⟩
theorem RepF.carry {O : Nat → Prop} {w w' : World} (h : Cel O w w') : ∀ (ds : List Dat) (cs : List Value), RepF O w ds cs → RepF O w' ds cs
  | [], _, r => by simpa only [RepF] using r
  | d :: ds, cs, r => by
      simp only [RepF] at r ⊢
      obtain ⟨c1, c2, h1, h2, h3⟩ := r
      exact ⟨c1, c2, h1, Rep.carry h d c1 h2, RepF.carry h ds c2 h3⟩
theorem RepE.carry {O : Nat → Prop} {w w' : World} (h : Cel O w w') (wd : Nat) : ∀ (ds : List Dat) (a : Option Addr) (j : Nat), RepE O w wd ds a j → RepE O w' wd ds a j
  | [], _, _, _ => by simp only [RepE]
  | d :: ds, a, j, r => by
      simp only [RepE] at r ⊢
      obtain ⟨⟨b, o, cs, h1, hb, h2, h3, h4, h5⟩, h6⟩ := r
      exact ⟨⟨b, o, cs, h1, Nat.lt_of_lt_of_le hb h.1, h2, h3, fun i v hv => h.2 _ _ _ h2 (h4 i v hv), Rep.carry h d cs h5⟩, RepE.carry h wd ds a _ h6⟩
end
theorem Rep.keep {O S : Nat → Prop} {w w' : World} (h : Upto S w w') (hs : ∀ k, S k → O k) (d : Dat) (cs : List Value) (r : Rep O w d cs) : Rep O w' d cs := Rep.carry (h.cel hs) d cs r
theorem RepE.keep {O S : Nat → Prop} {w w' : World} (h : Upto S w w') (hs : ∀ k, S k → O k) (wd : Nat) (ds : List Dat) (a : Option Addr) (j : Nat) (r : RepE O w wd ds a j) : RepE O w' wd ds a j := RepE.carry (h.cel hs) wd ds a j r
mutual
theorem Rep.weaken {O O' : Nat → Prop} {w : World} (hs : ∀ k, k < w.heap.size → O' k → O k) : ∀ (d : Dat) (cs : List Value), Rep O w d cs → Rep O' w d cs
  | .int _ _, _, r => by simpa only [Rep] using r
  | .bool _, _, r => by simpa only [Rep] using r
  | .str _, _, r => by simpa only [Rep] using r
  | .st fs, cs, r => by simp only [Rep] at r ⊢; exact RepF.weaken hs fs cs r
  | .seq wd xs, cs, r => by
      simp only [Rep] at r ⊢
      obtain ⟨a, cap, h1, h2, h3⟩ := r
      exact ⟨a, cap, h1, h2, RepE.weaken hs wd xs a 0 h3⟩
theorem RepF.weaken {O O' : Nat → Prop} {w : World} (hs : ∀ k, k < w.heap.size → O' k → O k) : ∀ (ds : List Dat) (cs : List Value), RepF O w ds cs → RepF O' w ds cs
  | [], _, r => by simpa only [RepF] using r
  | d :: ds, cs, r => by
      simp only [RepF] at r ⊢
      obtain ⟨c1, c2, h1, h2, h3⟩ := r
      exact ⟨c1, c2, h1, Rep.weaken hs d c1 h2, RepF.weaken hs ds c2 h3⟩
theorem RepE.weaken {O O' : Nat → Prop} {w : World} (hs : ∀ k, k < w.heap.size → O' k → O k) (wd : Nat) : ∀ (ds : List Dat) (a : Option Addr) (j : Nat), RepE O w wd ds a j → RepE O' w wd ds a j
  | [], _, _, _ => by simp only [RepE]
  | d :: ds, a, j, r => by
      simp only [RepE] at r ⊢
      obtain ⟨⟨b, o, cs, h1, hb, h2, h3, h4, h5⟩, h6⟩ := r
      exact ⟨⟨b, o, cs, h1, hb, fun x => h2 (hs _ hb x), h3, h4, Rep.weaken hs d cs h5⟩, RepE.weaken hs wd ds a _ h6⟩
end
theorem RepE.get {O : Nat → Prop} {w : World} {wd : Nat} : ∀ {xs : List Dat} {a : Option Addr} {j : Nat}, RepE O w wd xs a j → ∀ i (h : i < xs.length),
    ∃ b o cs, a = some ⟨b, o, none⟩ ∧ b < w.heap.size ∧ ¬ O b ∧ cs.length = wd ∧ (∀ m v, cs[m]? = some v → w.cell? ⟨b, o + j + i * wd + m, none⟩ = some v) ∧ Rep O w xs[i] cs := by
  intro xs
  induction xs with
  | nil => intro a j _ i h; simp at h
  | cons d ds ih =>
    intro a j r i h
    simp only [RepE] at r
    obtain ⟨⟨b, o, cs, h1, hb, h2, h3, h4, h5⟩, h6⟩ := r
    cases i with
    | zero => exact ⟨b, o, cs, h1, hb, h2, h3, by simpa using h4, h5⟩
    | succ i =>
      obtain ⟨b', o', cs', g1, gb, g2, g3, g4, g5⟩ := ih h6 i (by simpa using h)
      refine ⟨b', o', cs', g1, gb, g2, g3, ?_, g5⟩
      intro m v hm
      have := g4 m v hm
      rw [Nat.add_mul, Nat.one_mul]
      rw [show o' + j + (i * wd + wd) + m = o' + (j + wd) + i * wd + m from by omega]
      exact this
/-- A string as its bytes. -/
abbrev B (l : List UInt8) : ByteArray := ⟨l.toArray⟩
theorem B_size (l : List UInt8) : (B l).size = l.length := rfl
namespace Tm
mutual
def dat : Tm → Dat
  | mk k n i as => .st [.int .i64 k, .str (B n), .int .i64 i, .seq 4 (dats as)]
def dats : List Tm → List Dat
  | [] => []
  | t :: ts => dat t :: dats ts
end
theorem dats_eq (l : List Tm) : dats l = l.map dat := by
  induction l with
  | nil => rfl
  | cons t ts ih => simp [dats, ih]
end Tm
theorem rep_tm {O : Nat → Prop} {w : World} {k : Int} {n : List UInt8} {i : Int} {as : List Tm} {cs : List Value} :
    Rep O w (Tm.mk k n i as).dat cs ↔ ∃ a cap, cs = [.int .i64 k, .string (B n), .int .i64 i, .slice a as.length cap] ∧ as.length ≤ cap ∧ RepE O w 4 (as.map Tm.dat) a 0 := by
  simp only [Tm.dat, Rep, RepF, Tm.dats_eq]
  constructor
  · rintro ⟨c1, c2, rfl, rfl, c3, c4, rfl, rfl, c5, c6, rfl, rfl, c7, c8, rfl, ⟨a, cap, rfl, h1, h2⟩, rfl⟩
    exact ⟨a, cap, by simp, by simpa using h1, h2⟩
  · rintro ⟨a, cap, rfl, h1, h2⟩
    exact ⟨[_], [_, _, _], rfl, rfl, [_], [_, _], rfl, rfl, [_], [_], rfl, rfl, [.slice a as.length cap], [], rfl, ⟨a, cap, by simp, by simpa using h1, h2⟩, rfl⟩
/-- An argument of a term, in memory. -/
theorem arg_tm {O : Nat → Prop} {w : World} {as : List Tm} {a : Option Addr} (h : RepE O w 4 (as.map Tm.dat) a 0) (i : Nat) (hi : i < as.length) :
    ∃ b o k n x s c, a = some ⟨b, o, none⟩ ∧ b < w.heap.size ∧ ¬ O b ∧
      w.cell? ⟨b, o + i * 4, none⟩ = some (.int .i64 k) ∧ w.cell? ⟨b, o + i * 4 + 1, none⟩ = some (.string (B n)) ∧
      w.cell? ⟨b, o + i * 4 + 2, none⟩ = some (.int .i64 x) ∧ w.cell? ⟨b, o + i * 4 + 3, none⟩ = some (.slice s as[i].args.length c) ∧
      Rep O w as[i].dat [.int .i64 k, .string (B n), .int .i64 x, .slice s as[i].args.length c] := by
  obtain ⟨b, o, cs, h1, hb, h2, h3, h4, h5⟩ := h.get i (by simpa using hi)
  simp only [List.getElem_map] at h5
  cases hx : as[i] with
  | mk k n x bs =>
    rw [hx] at h5
    obtain ⟨s, c, rfl, g1, g2⟩ := rep_tm.1 h5
    refine ⟨b, o, k, n, x, s, c, h1, hb, h2, ?_, ?_, ?_, ?_, h5⟩
    · simpa using h4 0 _ rfl
    · simpa using h4 1 _ rfl
    · simpa using h4 2 _ rfl
    · simpa [Tm.args] using h4 3 _ rfl
theorem Cel.cell {O : Nat → Prop} {w w' : World} (h : Cel O w w') {b o : Nat} {v : Value} (hb : ¬ O b) (hv : w.cell? ⟨b, o, none⟩ = some v) : w'.cell? ⟨b, o, none⟩ = some v := h.2 b o v hb hv
theorem Cel.refl (O : Nat → Prop) (w : World) : Cel O w w := ⟨Nat.le_refl _, fun _ _ _ _ h => h⟩
theorem Cel.alloc {O : Nat → Prop} {a w : World} (h : Cel O a w) (o : Obj) : Cel O a (w.alloc o) := h.trans (((Upto.refl none' w).alloc o).cel (fun _ x => x.elim))
theorem Cel.weaken {O O' : Nat → Prop} {w w' : World} (h : Cel O w w') (hs : ∀ k, O k → O' k) : Cel O' w w' := ⟨h.1, fun b o v hb hv => h.2 b o v (fun x => hb (hs _ x)) hv⟩
/-- A box that has just been laid. -/
theorem Cel.box4 {O : Nat → Prop} {w w' : World} {c0 c1 c2 c3 : Value} {T : TypeId} (h : Cel O (w.alloc (.cells #[c0, c1, c2, c3] T)) w') (hb : ¬ O w.heap.size) :
    w'.cell? ⟨w.heap.size, 0, none⟩ = some c0 ∧ w'.cell? ⟨w.heap.size, 1, none⟩ = some c1 ∧ w'.cell? ⟨w.heap.size, 2, none⟩ = some c2 ∧ w'.cell? ⟨w.heap.size, 3, none⟩ = some c3 := by
  refine ⟨h.cell hb ?_, h.cell hb ?_, h.cell hb ?_, h.cell hb ?_⟩ <;> rw [World.cell?_alloc_new] <;> rfl
theorem Upto.behind {S : Nat → Prop} {w w' : World} {o : Obj} (h : Upto S (w.alloc o) w') (hs : ∀ k, k < w.heap.size → S k → none' k := by exact fun _ _ x => x) : Upto none' w w' :=
  ((Upto.refl none' w).alloc o).trans h hs
theorem Upto.cells {S : Nat → Prop} {W w1 : World} (hb : Upto S W w1) :
    (∀ b o, b < W.heap.size → ¬ S b → w1.cell? ⟨b, o, none⟩ = W.cell? ⟨b, o, none⟩) ∧ (∀ b o, b < W.heap.size → ¬ S b → w1.frozen? ⟨b, o, none⟩ = W.frozen? ⟨b, o, none⟩) :=
  ⟨fun b _ h n => World.cell?_of_block (hb.block b h n), fun b _ h n => World.frozen?_of_block (hb.block b h n)⟩
/-- What lay below reads as it did. -/
theorem Upto.cells0 {W w1 : World} (hb : Upto none' W w1) :
    (∀ b o, b < W.heap.size → w1.cell? ⟨b, o, none⟩ = W.cell? ⟨b, o, none⟩) ∧ (∀ b o, b < W.heap.size → w1.frozen? ⟨b, o, none⟩ = W.frozen? ⟨b, o, none⟩) :=
  ⟨fun b _ h => World.cell?_of_block (hb.block b h (fun x => x)), fun b _ h => World.frozen?_of_block (hb.block b h (fun x => x))⟩
theorem Rep.on {O : Nat → Prop} {w w' : World} {d : Dat} {cs : List Value} (r : Rep O w d cs) (h : Upto none' w w') : Rep O w' d cs := Rep.keep h (fun _ x => x.elim) d cs r
theorem RepE.cel {O : Nat → Prop} {w w' : World} {wd : Nat} {ds : List Dat} {a : Option Addr} {j : Nat} (r : RepE O w wd ds a j) (h : Cel O w w') : RepE O w' wd ds a j := RepE.carry h wd ds a j r
theorem RepE.on {O : Nat → Prop} {w w' : World} {wd : Nat} {ds : List Dat} {a : Option Addr} {j : Nat} (r : RepE O w wd ds a j) (h : Upto none' w w') : RepE O w' wd ds a j := RepE.keep h (fun _ x => x.elim) wd ds a j r
theorem Rep.new {O : Nat → Prop} {w : World} {d : Dat} {cs : List Value} (r : Rep O w d cs) (o : Obj) : Rep O (w.alloc o) d cs := r.on ((Upto.refl _ w).alloc o)
theorem hid {p : Prop} (h : p) : RowKit.Hid p := h
mutual
/-- What is read lies in blocks that are there: so it is none of those to come. -/
theorem Rep.fresh' {O : Nat → Prop} {w : World} : ∀ (d : Dat) (cs : List Value), Rep O w d cs → Rep (fun b => O b ∨ w.heap.size ≤ b) w d cs
  | .int _ _, _, r => by simpa only [Rep] using r
  | .bool _, _, r => by simpa only [Rep] using r
  | .str _, _, r => by simpa only [Rep] using r
  | .st fs, cs, r => by simp only [Rep] at r ⊢; exact RepF.fresh' fs cs r
  | .seq wd xs, cs, r => by
      simp only [Rep] at r ⊢
      obtain ⟨a, cap, h1, h2, h3⟩ := r
      exact ⟨a, cap, h1, h2, RepE.fresh' wd xs a 0 h3⟩
theorem RepF.fresh' {O : Nat → Prop} {w : World} : ∀ (ds : List Dat) (cs : List Value), RepF O w ds cs → RepF (fun b => O b ∨ w.heap.size ≤ b) w ds cs
  | [], _, r => by simpa only [RepF] using r
  | d :: ds, cs, r => by
      simp only [RepF] at r ⊢
      obtain ⟨c1, c2, h1, h2, h3⟩ := r
      exact ⟨c1, c2, h1, Rep.fresh' d c1 h2, RepF.fresh' ds c2 h3⟩
theorem RepE.fresh' {O : Nat → Prop} {w : World} (wd : Nat) : ∀ (ds : List Dat) (a : Option Addr) (j : Nat), RepE O w wd ds a j → RepE (fun b => O b ∨ w.heap.size ≤ b) w wd ds a j
  | [], _, _, _ => by simp only [RepE]
  | d :: ds, a, j, r => by
      simp only [RepE] at r ⊢
      obtain ⟨⟨b, o, cs, h1, hb, h2, h3, h4, h5⟩, h6⟩ := r
      exact ⟨⟨b, o, cs, h1, hb, fun x => x.elim h2 (fun y => by omega), h3, h4, Rep.fresh' d cs h5⟩, RepE.fresh' wd ds a _ h6⟩
end
theorem Rep.fresh {O : Nat → Prop} {w : World} {d : Dat} {cs : List Value} (r : Rep O w d cs) : Rep (fun b => w.heap.size ≤ b) w d cs := Rep.weaken (fun _ _ h => .inr h) d cs (Rep.fresh' d cs r)
theorem Rep.freshO {O : Nat → Prop} {w : World} {d : Dat} {cs : List Value} (r : Rep O w d cs) : Rep (fun b => O b ∨ w.heap.size ≤ b) w d cs := Rep.fresh' d cs r
theorem ret_int {k : IntKind} {a b : Int} (h : a = b) : Ending.returned (.int k a) = .returned (.int k b) := by rw [h]
theorem ret_bool {a b : Bool} (h : a = b) : Ending.returned (.bool a) = .returned (.bool b) := by rw [h]
theorem int_eq {k : IntKind} {a b : Int} (h : a = b) : Value.int k a = .int k b := by rw [h]
end Go.LF
namespace Go.LF
/-- The four cells of a box, later. -/
theorem box_on {W w' : World} {b : Nat} {c0 c1 c2 c3 : Value} (hU : Upto none' W w')
    (h : W.cell? ⟨b, 0, none⟩ = some c0 ∧ W.cell? ⟨b, 1, none⟩ = some c1 ∧ W.cell? ⟨b, 2, none⟩ = some c2 ∧ W.cell? ⟨b, 3, none⟩ = some c3) :
    w'.cell? ⟨b, 0, none⟩ = some c0 ∧ w'.cell? ⟨b, 1, none⟩ = some c1 ∧ w'.cell? ⟨b, 2, none⟩ = some c2 ∧ w'.cell? ⟨b, 3, none⟩ = some c3 :=
  ⟨hU.cell h.1 (fun x => x), hU.cell h.2.1 (fun x => x), hU.cell h.2.2.1 (fun x => x), hU.cell h.2.2.2 (fun x => x)⟩
theorem box_new {w w1 : World} {c0 c1 c2 c3 : Value} {T : TypeId} (hU : Upto none' (w.alloc (.cells #[c0, c1, c2, c3] T)) w1) :
    w1.cell? ⟨w.heap.size, 0, none⟩ = some c0 ∧ w1.cell? ⟨w.heap.size, 1, none⟩ = some c1 ∧ w1.cell? ⟨w.heap.size, 2, none⟩ = some c2 ∧ w1.cell? ⟨w.heap.size, 3, none⟩ = some c3 :=
  (hU.cel (O := none') (fun _ x => x)).box4 (fun x => x)
theorem Upto.and {a b c : World} (h : Upto none' a b) (k : Upto none' b c) : Upto none' a c := h.trans k (fun _ _ x => x)
/-- The argument of a contract, opened. -/
theorem tm_open {O : Nat → Prop} {w : World} {t : Tm} {cs : List Value} (h : Rep O w t.dat cs) :
    ∃ k n i ts a cap, t = .mk k n i ts ∧ cs = [.int .i64 k, .string (B n), .int .i64 i, .slice a ts.length cap] ∧ ts.length ≤ cap ∧ RepE O w 4 (ts.map Tm.dat) a 0 := by
  cases t with
  | mk k n i ts =>
    obtain ⟨a, cap, h1, h2, h3⟩ := rep_tm.1 h
    exact ⟨k, n, i, ts, a, cap, rfl, h1, h2, h3⟩
theorem under_ways (k : Int) (j : Nat) : ((k == 3) = true ∧ Tm.under k j = 1) ∨ ((k == 3) = false ∧ (k == 2) = true ∧ ((j : Int) == 1) = true ∧ Tm.under k j = 1) ∨
    ((k == 3) = false ∧ (k == 2) = true ∧ ((j : Int) == 1) = false ∧ Tm.under k j = 0) ∨ ((k == 3) = false ∧ (k == 2) = false ∧ Tm.under k j = 0) := by
  unfold Tm.under
  by_cases h3 : k = 3
  · left; simp [h3]
  by_cases h2 : k = 2
  · by_cases h1 : j = 1
    · right; left; simp [h2, h1]
    · right; right; left; simp [h2, h1]; omega
  · right; right; right; simp [h3, h2]
theorem Upto.behind' {w w' : World} {o : Obj} (h : Upto none' (w.alloc o) w') : Upto none' w w' := ((Upto.refl none' w).alloc o).and h
end Go.LF
namespace Go.LF
open Go.RowKit
/-- Cells outside the blocks O read as they did, and stay outside. -/
def CelW (O : World → Nat → Prop) (w w' : World) : Prop := w.heap.size ≤ w'.heap.size ∧ ∀ b, b < w.heap.size → ¬ O w b → ¬ O w' b ∧ ∀ o v, w.cell? ⟨b, o, none⟩ = some v → w'.cell? ⟨b, o, none⟩ = some v
/-- A cell outside the blocks O. -/
def At (O : World → Nat → Prop) (w : World) (b o : Nat) (v : Value) : Prop := ¬ O w b ∧ w.cell? ⟨b, o, none⟩ = some v
/-- New blocks are outside O. -/
structure Fresh (O : World → Nat → Prop) (H0 : Nat) (Ts : TypeId → Prop) : Prop where
  new : ∀ (W : World) (cs : Array Value) (T : TypeId), Ts T → H0 ≤ W.heap.size → ¬ O (W.alloc (.cells cs T)) W.heap.size
  old : ∀ (W : World) (o : Obj) (b : Nat), b < W.heap.size → ¬ O W b → ¬ O (W.alloc o) b
section
variable {O : World → Nat → Prop} {H0 : Nat} {Ts : TypeId → Prop} {w w' a b c : World}
theorem CelW.refl (O : World → Nat → Prop) (w : World) : CelW O w w := ⟨Nat.le_refl _, fun _ _ h => ⟨h, fun _ _ h' => h'⟩⟩
theorem CelW.trans {A B C : World} (h : CelW O A B) (k : CelW O B C) : CelW O A C := ⟨Nat.le_trans h.1 k.1, fun x hx hn => ⟨(k.2 x (Nat.lt_of_lt_of_le hx h.1) (h.2 x hx hn).1).1, fun o v hv => (k.2 x (Nat.lt_of_lt_of_le hx h.1) (h.2 x hx hn).1).2 o v ((h.2 x hx hn).2 o v hv)⟩⟩
theorem CelW.at {x o : Nat} {v : Value} (h : CelW O w w') (ha : At O w x o v) : At O w' x o v := by
  have := h.2 x (by simpa using World.block_lt_of_cell? w _ ha.2) ha.1
  exact ⟨this.1, this.2 o v ha.2⟩
theorem CelW.alloc' (F : Fresh O H0 Ts) (w : World) (o : Obj) : CelW O w (w.alloc o) := by
  exact ⟨by simp, fun x hl hx => ⟨F.old w o x hl hx, fun off v hv => ((Upto.refl none' w).alloc o).cell hv (fun x => x)⟩⟩
theorem CelW.alloc (F : Fresh O H0 Ts) (h : CelW O a w) (o : Obj) : CelW O a (w.alloc o) := h.trans (CelW.alloc' F w o)
theorem Fresh.box4 (F : Fresh O H0 Ts) {T : TypeId} (hT : Ts T) {W w' : World} (hH : H0 ≤ W.heap.size) {c0 c1 c2 c3 : Value} (h : CelW O (W.alloc (.cells #[c0, c1, c2, c3] T)) w') :
    At O w' W.heap.size 0 c0 ∧ At O w' W.heap.size 1 c1 ∧ At O w' W.heap.size 2 c2 ∧ At O w' W.heap.size 3 c3 := by
  have hn := F.new W #[c0, c1, c2, c3] T hT hH
  have bb := (Cel.refl none' (W.alloc (.cells #[c0, c1, c2, c3] T))).box4 (fun x => x)
  exact ⟨h.at ⟨hn, bb.1⟩, h.at ⟨hn, bb.2.1⟩, h.at ⟨hn, bb.2.2.1⟩, h.at ⟨hn, bb.2.2.2⟩⟩
mutual
theorem Rep.carryW (h : CelW O w w') : ∀ (d : Dat) (cs : List Value), Rep (O w) w d cs → Rep (O w') w' d cs
  | .int _ _, _, r => by simpa only [Rep] using r
  | .bool _, _, r => by simpa only [Rep] using r
  | .str _, _, r => by simpa only [Rep] using r
  | .st fs, cs, r => by simp only [Rep] at r ⊢; exact RepF.carryW h fs cs r
  | .seq wd xs, cs, r => by
      simp only [Rep] at r ⊢
      obtain ⟨a, cap, h1, h2, h3⟩ := r
      exact ⟨a, cap, h1, h2, RepE.carryW h wd xs a 0 h3⟩
theorem RepF.carryW (h : CelW O w w') : ∀ (ds : List Dat) (cs : List Value), RepF (O w) w ds cs → RepF (O w') w' ds cs
  | [], _, r => by simpa only [RepF] using r
  | d :: ds, cs, r => by
      simp only [RepF] at r ⊢
      obtain ⟨c1, c2, h1, h2, h3⟩ := r
      exact ⟨c1, c2, h1, Rep.carryW h d c1 h2, RepF.carryW h ds c2 h3⟩
theorem RepE.carryW (h : CelW O w w') (wd : Nat) : ∀ (ds : List Dat) (a : Option Addr) (j : Nat), RepE (O w) w wd ds a j → RepE (O w') w' wd ds a j
  | [], _, _, _ => by simp only [RepE]
  | d :: ds, a, j, r => by
      simp only [RepE] at r ⊢
      obtain ⟨⟨b, o, cs, h1, hb, h2, h3, h4, h5⟩, h6⟩ := r
      exact ⟨⟨b, o, cs, h1, Nat.lt_of_lt_of_le hb h.1, (h.2 b hb h2).1, h3, fun i v hv => (h.2 b hb h2).2 _ v (h4 i v hv), Rep.carryW h d cs h5⟩, RepE.carryW h wd ds a _ h6⟩
end
/-- Blocks that no world turns into others. -/
theorem CelW.of (O : Nat → Prop) (h : Cel O w w') : CelW (fun _ => O) w w' := ⟨h.1, fun b _ hn => ⟨hn, fun o v hv => h.2 b o v hn hv⟩⟩
theorem Fresh.of (O : Nat → Prop) (Ts : TypeId → Prop) (h : ∀ b, H0 ≤ b → ¬ O b) : Fresh (fun _ => O) H0 Ts := ⟨fun _ _ _ _ hb => h _ hb, fun _ _ _ _ h => h⟩
theorem RepE.celW {wd : Nat} {ds : List Dat} {x : Option Addr} {j : Nat} (r : RepE (O w) w wd ds x j) (h : CelW O w w') : RepE (O w') w' wd ds x j := RepE.carryW h wd ds x j r
end
end Go.LF
namespace Go.LF
namespace Tm
mutual
/-- The least number that is greater than all free variables. -/
def scope : Tm → Int
  | mk k _ i l => scopes k 0 (if k == 5 then i + 1 else 0) l
def scopes (k : Int) (j : Nat) (acc : Int) : List Tm → Int
  | [] => acc
  | t :: ts => scopes k (j + 1) (max acc (scope t - under k j)) ts
end
mutual
def addMetas (acc : List Int) : Tm → List Int
  | mk k _ i l => addMetasL (if k == 6 && !acc.contains i then acc ++ [i] else acc) l
def addMetasL (acc : List Int) : List Tm → List Int
  | [] => acc
  | t :: ts => addMetasL (addMetas acc t) ts
end
/-- The metavariables of a term. -/
def addMetas0 (t : Tm) : List Int := addMetas [] t
def scopeStep (acc : Int) (x : Nd0) : Int := if x.k == 5 then max acc (x.i - x.b + 1) else acc
def metaStep (acc : List Int) (x : Nd0) : List Int := if x.k == 6 && !acc.contains x.i then acc ++ [x.i] else acc
def constStep (acc : List (List UInt8)) (x : Nd0) : List (List UInt8) := if x.k == 4 && !acc.contains x.n then acc ++ [x.n] else acc
theorem scopes_ge (k : Int) (l : List Tm) : ∀ (j : Nat) (acc : Int), acc ≤ scopes k j acc l := by
  induction l with
  | nil => intro j acc; simp [scopes]
  | cons t ts ih => intro j acc; rw [scopes]; have := ih (j + 1) (max acc (scope t - under k j)); omega
theorem scope_nonneg (t : Tm) (h : t.kind == 5 → 0 ≤ t.index) : 0 ≤ scope t := by
  cases t with
  | mk k n i l =>
    rw [scope]
    have := scopes_ge k l 0 (if (k == 5) = true then i + 1 else 0)
    by_cases hk : (k == 5) = true
    · rw [if_pos hk] at this ⊢; have := h hk; simp at this; omega
    · rw [if_neg hk] at this ⊢; omega
theorem scope_fold (t : Tm) : ∀ (b acc : Int), 0 ≤ b → 0 ≤ acc → (nodes b t).foldl scopeStep acc = max acc (scope t - b) := by
  induction t using ind with
  | h k n i l ih =>
    intro b acc hb ha
    rw [nodes_mk, List.foldl_cons, scope]
    have key : ∀ (l' : List Tm), (∀ t ∈ l', ∀ (b acc : Int), 0 ≤ b → 0 ≤ acc → (nodes b t).foldl scopeStep acc = max acc (scope t - b)) →
        ∀ (j : Nat) (a c : Int), 0 ≤ a → a = max a (c - b) → (nodesA b k j l').foldl scopeStep a = max a (scopes k j c l' - b) := by
      intro l'
      induction l' with
      | nil => intro _ j a c h0 h1; simp only [nodesA, List.foldl_nil, scopes]; exact h1
      | cons t ts ih2 =>
        intro h j a c h0 h1
        have hu := under_le k j
        simp only [nodesA, List.foldl_append, scopes]
        rw [h t (by simp) (b + under k j) a (by omega) h0, ih2 (fun t ht => h t (by simp [ht])) (j + 1) _ (max c (t.scope - under k j)) (by omega) (by omega)]
        have := scopes_ge k ts (j + 1) (max c (t.scope - under k j))
        omega
    by_cases hk : (k == 5) = true
    · simp only [scopeStep, hk, if_true]
      rw [key l ih 0 (max acc (i - b + 1)) (i + 1) (by omega) (by omega)]
      have := scopes_ge k l 0 (i + 1)
      omega
    · simp only [scopeStep, if_neg hk]
      exact key l ih 0 acc 0 (by omega) (by omega)
theorem scope_nodes (t : Tm) (h : t.kind == 5 → 0 ≤ t.index) : (nodes 0 t).foldl scopeStep 0 = scope t := by
  rw [scope_fold t 0 0 (by omega) (by omega)]
  have := scope_nonneg t h
  omega
theorem metas_fold (t : Tm) : ∀ (b : Int) (acc : List Int), (nodes b t).foldl metaStep acc = addMetas acc t := by
  induction t using ind with
  | h k n i l ih =>
    intro b acc
    rw [nodes_mk, List.foldl_cons, addMetas]
    have key : ∀ (l' : List Tm), (∀ t ∈ l', ∀ (b : Int) (acc : List Int), (nodes b t).foldl metaStep acc = addMetas acc t) → ∀ (j : Nat) (acc : List Int), (nodesA b k j l').foldl metaStep acc = addMetasL acc l' := by
      intro l'
      induction l' with
      | nil => intro _ j acc; simp [nodesA, addMetasL]
      | cons t ts ih2 => intro h j acc; simp only [nodesA, List.foldl_append, addMetasL]; rw [h t (by simp), ih2 (fun t ht => h t (by simp [ht]))]
    exact key l ih 0 _
/-- The numbers in a node are those of a well-formed term. -/
def Nd0.ok (x : Nd0) : Prop := ((x.k == 5) = true → 0 ≤ x.i ∧ x.i ≤ 1048576) ∧ ((x.k == 6) = true → 0 ≤ x.i ∧ x.i < 2048) ∧ ((x.k == 4) = true → x.n.length ≤ 64)
theorem isName_len (n : List UInt8) (h : isName n = true) : n.length ≤ 64 := by
  simp [isName] at h; omega
theorem nodesA_all {p : Nd0 → Prop} {b k : Int} {l : List Tm} (h : ∀ t ∈ l, ∀ b, ∀ x ∈ nodes b t, p x) : ∀ j, ∀ x ∈ nodesA b k j l, p x := by
  induction l with
  | nil => intro j x hx; simp [nodesA] at hx
  | cons t ts ih =>
    intro j x hx
    simp only [nodesA, List.mem_append] at hx
    rcases hx with hx | hx
    · exact h t (by simp) _ x hx
    · exact ih (fun t ht => h t (by simp [ht])) (j + 1) x hx
theorem obj_ok (t : Tm) : t.isObj = true → ∀ b, ∀ x ∈ nodes b t, x.ok := by
  induction t using ind with
  | h k n i l ih =>
    intro h b x hx
    have hall : allObj l = true → ∀ t ∈ l, t.isObj = true := by rw [allObj_iff, List.all_eq_true]; exact fun x => x
    rw [isObj] at h
    rw [nodes_mk] at hx
    have hA : allObj l = true := by split at h <;> (try split at h) <;> (try split at h) <;> (try split at h) <;> simp_all
    rcases List.mem_cons.1 hx with rfl | hx
    · refine ⟨fun e => ?_, fun e => ?_, fun e => ?_⟩ <;> simp at e <;> subst e <;> simp at h
      · simp; omega
      · simp; omega
      · simpa using isName_len n h.1.1
    · exact nodesA_all (fun t ht b x hx => ih t ht (hall hA t ht) b x hx) 0 x hx
theorem typ_ok (t : Tm) : t.isTyp = true → ∀ b, ∀ x ∈ nodes b t, x.ok := by
  induction t using ind with
  | h k n i l ih =>
    intro h b x hx
    rw [isTyp] at h
    rcases Bool.or_eq_true_iff.1 h with h | h
    · refine obj_ok _ ?_ b x hx
      simp [isAtom] at h
      rw [isObj]
      simp [h]
    · have hall : allTyp l = true → ∀ t ∈ l, t.isTyp = true := by rw [allTyp_iff, List.all_eq_true]; exact fun x => x
      simp at h
      rw [nodes_mk] at hx
      rcases List.mem_cons.1 hx with rfl | hx
      · refine ⟨fun e => ?_, fun e => ?_, fun e => ?_⟩ <;> simp [h.1] at e
      · exact nodesA_all (fun t ht b x hx => ih t ht (hall h.2.2 t ht) b x hx) 0 x hx
theorem knd_ok (t : Tm) : t.isKnd = true → ∀ b, ∀ x ∈ nodes b t, x.ok := by
  induction t using ind with
  | h k n i l ih =>
    intro h b x hx
    rw [nodes_mk] at hx
    match l, h, ih, hx with
    | [], h, ih, hx =>
      simp [isKnd] at h
      simp [nodesA] at hx
      subst hx
      refine ⟨fun e => ?_, fun e => ?_, fun e => ?_⟩ <;> simp [h.1] at e
    | [a], h, ih, hx => simp [isKnd] at h
    | a :: c :: d :: l, h, ih, hx => simp [isKnd] at h
    | [a, c], h, ih, hx =>
      simp [isKnd] at h
      rcases List.mem_cons.1 hx with rfl | hx
      · refine ⟨fun e => ?_, fun e => ?_, fun e => ?_⟩ <;> simp [h.1] at e
      · simp only [nodesA, List.append_nil, List.mem_append] at hx
        rcases hx with hx | hx
        · exact typ_ok a h.2.2.1 _ x hx
        · exact ih c (by simp) h.2.2.2 _ x hx
/-- What a well-formed term is, sizes aside: an object, a type or a kind. -/
theorem wf_ok (t : Tm) (h : t.wf = 0) : (∀ b, ∀ x ∈ nodes b t, x.ok) ∧ t.size ≤ 4096 ∧ t.depth ≤ 128 := by
  unfold wf at h
  by_cases h1 : (!t.isObj && !t.isTyp && !t.isKnd) = true
  · rw [if_pos h1] at h; omega
  rw [if_neg h1] at h
  by_cases h2 : (!t.small) = true
  · rw [if_pos h2] at h; omega
  have h2' : t.small = true := by simpa using h2
  unfold small at h2'
  simp at h2' h1
  refine ⟨?_, h2'⟩
  by_cases ho : t.isObj = true
  · exact obj_ok t ho
  by_cases hy : t.isTyp = true
  · exact typ_ok t hy
  · exact knd_ok t (h1 (by simpa using ho) (by simpa using hy))
theorem nodes_b (t : Tm) : ∀ b, ∀ x ∈ nodes b t, b ≤ x.b ∧ x.b < b + t.size := by
  induction t using ind with
  | h k n i l ih =>
    intro b x hx
    rw [nodes_mk] at hx
    rw [size_mk]
    rcases List.mem_cons.1 hx with rfl | hx
    · simp; omega
    · have key : ∀ (l' : List Tm), (∀ t ∈ l', t ∈ l) → ∀ j, ∀ x ∈ nodesA b k j l', b ≤ x.b ∧ x.b < b + (sizes l + 1) := by
        intro l'
        induction l' with
        | nil => intro _ j x hx; simp [nodesA] at hx
        | cons t ts ih2 =>
          intro hs j x hx
          simp only [nodesA, List.mem_append] at hx
          rcases hx with hx | hx
          · have := ih t (hs t (by simp)) _ x hx
            have := under_le k j
            have := size_le_sizes (hs t (by simp))
            omega
          · exact ih2 (fun t ht => hs t (by simp [ht])) _ x hx
      exact key l (fun _ h => h) 0 x hx
end Tm
end Go.LF
namespace Go.LF
open Go.RowKit Go.MapKept
/-- The map at block m has just these keys, each with true. -/
def Seen (W : World) (m : Nat) (ks : List Value) : Prop := ∃ es clock, W.heap[m]? = some (.map es clock) ∧ es.toList.map (·.key) = ks ∧ ∀ e ∈ es.toList, e.val = .bool true
variable {P : Program} {W : World} {mt kt bt : TypeId} {d : TypeDesc} {m : Nat} {ks : List Value} {key : Value}
theorem Seen.made (W : World) : Seen (W.alloc (.map #[] 0)) W.heap.size [] := ⟨#[], 0, heap_alloc_new W _, rfl, by simp⟩
theorem Seen.kept {W' : World} {row : Option Nat} (h : Seen W m ks) (hg : W.grownBy W' row) (hr : some m ≠ row) : Seen W' m ks := by
  obtain ⟨es, clock, h1, h2, h3⟩ := h
  exact ⟨es, clock, (hg.block m (Array.getElem?_eq_some_iff.1 h1).1 hr).trans h1, h2, h3⟩
theorem Seen.lookup (hm : P.underlying mt = some (.map kt bt)) (hk : P.underlying kt = some d) (hb : (zeroValue bt).run P W = .ok (.bool false) W) (hS : Seen W m ks)
    (hks : ∀ k ∈ ks, IsKey d k) (hkey : IsKey d key) (b : Bool) (hbk : b = true ↔ key ∈ ks) : (Instr.lookup mt (.map (some m)) key false).run P W = .ok (.bool b) W := by
  obtain ⟨es, clock, h1, h2, h3⟩ := hS
  have hes : ∀ x ∈ es.toList, IsKey d x.key := fun x hx => hks _ (by rw [← h2]; exact List.mem_map_of_mem hx)
  rcases findNow_spec hkey es.toList 0 hes with ⟨f1, f2⟩ | ⟨j, e, f1, f2, f3⟩
  · have hbf : b = false := by
      rw [← Bool.not_eq_true, hbk, ← h2]
      intro h
      obtain ⟨x, hx, hxk⟩ := List.mem_map.1 h
      exact f2 x hx hxk
    subst hbf
    simp [Instr.lookup, run_underlying hm, MapKept.run_getObj_map h1, run_checkKey hk hkey, run_findKey hk f1, hb, Result.andThen]
  · have he : e ∈ es.toList := List.mem_of_getElem? f2
    have hbt : b = true := by
      rw [hbk, ← h2]
      exact List.mem_map.2 ⟨e, he, f3⟩
    subst hbt
    simp [Instr.lookup, run_underlying hm, MapKept.run_getObj_map h1, run_checkKey hk hkey, run_findKey hk f1, h3 e he, Result.andThen]
theorem Seen.store (hm : P.underlying mt = some (.map kt bt)) (hk : P.underlying kt = some d) (hS : Seen W m ks)
    (hks : ∀ k ∈ ks, IsKey d k) (hkey : IsKey d key) (hn : key ∉ ks) : ∃ W', (Instr.mapUpdate mt (.map (some m)) key (.bool true)).run P W = .ok () W' ∧ Seen W' m (ks ++ [key]) ∧ W.grownBy W' (some m) ∧ W.heap.size ≤ W'.heap.size := by
  obtain ⟨es, clock, h1, h2, h3⟩ := hS
  have hes : ∀ x ∈ es.toList, IsKey d x.key := fun x hx => hks _ (by rw [← h2]; exact List.mem_map_of_mem hx)
  rcases findNow_spec hkey es.toList 0 hes with ⟨f1, f2⟩ | ⟨j, e, f1, f2, f3⟩
  · refine ⟨{ W with heap := W.heap.setIfInBounds m (.map (es.push { key, val := .bool true, born := clock }) (clock + 1)) }, ?_, ⟨_, _, (heap_set h1).1, ?_, ?_⟩, ⟨rfl, rfl, rfl, by simp, fun k _ hne => ?_⟩, by simp⟩
    · simp [Instr.mapUpdate, run_underlying hm, MapKept.run_getObj_map h1, run_checkKey hk hkey, run_findKey hk f1, run_setObj_map _ h1, Result.andThen]
    · simp [h2]
    · intro x hx
      simp only [Array.toList_push, List.mem_append, List.mem_singleton] at hx
      rcases hx with hx | rfl
      · exact h3 x hx
      · rfl
    · exact (heap_set h1).2 k (fun e => hne (by rw [e]))
  · exact absurd (by rw [← h2]; exact List.mem_map.2 ⟨e, List.mem_of_getElem? f2, f3⟩) hn
end Go.LF
namespace Go.LF
namespace Tm
mutual
/-- The variable of which a term, below n Lams that have been taken off, is the eta-long form. -/
def vr (n : Int) : Tm → Option Int
  | mk k _ i l => if k == 3 then vr0 n l else if k == 5 && (decide (n ≤ i) && ((l.length : Int) == n && vrs (n - 1) l)) then some (i - n) else none
def vr0 (n : Int) : List Tm → Option Int
  | [] => none
  | t :: _ => vr (n + 1) t
/-- These are the eta-long forms of the variables e, e - 1 .. -/
def vrs (e : Int) : List Tm → Bool
  | [] => true
  | t :: ts => vr 0 t == some e && vrs (e - 1) ts
end
theorem obj_args {k i : Int} {n : List UInt8} {l : List Tm} (h : (mk k n i l).isObj = true) : (∀ t ∈ l, t.isObj = true) ∧ (k = 3 → l.length = 1) := by
  rw [isObj] at h
  have key : allObj l = true → ∀ t ∈ l, t.isObj = true := fun h => by rw [allObj_iff, List.all_eq_true] at h; exact h
  split at h
  · simp [bound] at h; exact ⟨key h.2, fun _ => h.1.1.2⟩
  · rename_i h3
    refine ⟨?_, fun e => absurd e h3⟩
    split at h
    · simp at h; exact key h.2
    · split at h
      · simp at h; exact key h.2
      · split at h
        · simp at h; exact key h.2
        · cases h
end Tm
end Go.LF
namespace Go.LF.Tm
/-- An object, a type or a kind. -/
def Any3 (t : Tm) : Prop := t.isObj = true ∨ t.isTyp = true ∨ t.isKnd = true
theorem any3_args {k i : Int} {n : List UInt8} {l : List Tm} (h : Any3 (mk k n i l)) :
    (∀ a ∈ l, Any3 a) ∧ (k = 5 → (∀ a ∈ l, a.isObj = true) ∧ 0 ≤ i ∧ i ≤ 1048576) ∧ (k = 3 → l.length = 1) ∧ (k = 2 → l.length = 2) := by
  rcases h with h | h | h
  · obtain ⟨h1, h2⟩ := obj_args h
    refine ⟨fun a ha => .inl (h1 a ha), fun e => ⟨h1, ?_⟩, h2, fun e => ?_⟩
    · subst e; rw [isObj] at h; simp at h; omega
    · subst e; rw [isObj] at h; simp at h
  · rw [isTyp, isAtom] at h
    by_cases h4 : k = 4
    · subst h4
      simp at h
      have h3 : allObj l = true := h.2
      rw [allObj_iff, List.all_eq_true] at h3
      exact ⟨fun a ha => .inl (h3 a ha), fun e => absurd e (by decide), fun e => absurd e (by decide), fun e => absurd e (by decide)⟩
    · have h4' : (k == 4) = false := by simpa using h4
      rw [h4'] at h
      simp only [Bool.false_and, Bool.false_or, Bool.and_eq_true, beq_iff_eq] at h
      obtain ⟨rfl, h2, h3⟩ := h
      rw [allTyp_iff, List.all_eq_true] at h3
      unfold bound at h2
      simp only [Bool.and_eq_true, beq_iff_eq] at h2
      exact ⟨fun a ha => .inr (.inl (h3 a ha)), fun e => absurd e (by decide), fun e => absurd e (by decide), fun _ => h2.1.2⟩
  · unfold isKnd at h
    split at h
    · rename_i a b e
      cases e
      simp only [Bool.and_eq_true, beq_iff_eq] at h
      obtain ⟨rfl, h2, h3, h4⟩ := h
      refine ⟨fun x hx => ?_, fun e => absurd e (by decide), fun e => absurd e (by decide), fun _ => rfl⟩
      rcases List.mem_cons.1 hx with rfl | hx
      · exact .inr (.inl h3)
      · obtain rfl : x = b := by simpa using hx
        exact .inr (.inr h4)
    · rename_i e
      cases e
      simp at h
      obtain ⟨rfl, h2, h3, h4⟩ := h
      subst h4
      exact ⟨fun x hx => by simp at hx, fun e => absurd e (by decide), fun e => absurd e (by decide), fun e => absurd e (by decide)⟩
theorem wf_any3 {t : Tm} (h : t.wf = 0) : Any3 t ∧ t.size ≤ 4096 ∧ t.depth ≤ 128 := by
  unfold wf at h
  split at h
  · cases h
  · rename_i h1
    split at h
    · cases h
    · rename_i h2
      simp only [small, Bool.not_eq_true', Bool.not_eq_false, Bool.and_eq_true, decide_eq_true_eq] at h2
      refine ⟨?_, h2⟩
      unfold Any3
      cases ho : t.isObj
      · cases hy : t.isTyp
        · cases hk : t.isKnd
          · rw [ho, hy, hk] at h1; simp at h1
          · simp
        · simp
      · simp
end Go.LF.Tm
