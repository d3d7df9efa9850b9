/- Terms as plain data, and what the functions of layer 5 compute of them. No program is in sight here. -/
import Derived.Below
import Derived.IntWalk
import Derived.MapKept
import Derived.Maps.Keyed
import Derived.RowKit
import Derived.WalkKit
namespace Go.LF
/-- Terms. -/
inductive Tm where
  | mk (kind : Int) (name : List UInt8) (index : Int) (args : List Tm)
namespace Tm
def kind : Tm → Int | mk k _ _ _ => k
def name : Tm → List UInt8 | mk _ n _ _ => n
def index : Tm → Int | mk _ _ i _ => i
def args : Tm → List Tm | mk _ _ _ l => l
@[simp] theorem kind_mk (k n i l) : kind (mk k n i l) = k := rfl
@[simp] theorem name_mk (k n i l) : name (mk k n i l) = n := rfl
@[simp] theorem index_mk (k n i l) : index (mk k n i l) = i := rfl
@[simp] theorem args_mk (k n i l) : args (mk k n i l) = l := rfl
theorem eta (t : Tm) : mk t.kind t.name t.index t.args = t := by cases t; rfl
theorem ind {P : Tm → Prop} (h : ∀ k n i l, (∀ a ∈ l, P a) → P (mk k n i l)) (t : Tm) : P t :=
  Tm.rec (motive_1 := P) (motive_2 := fun l => ∀ a ∈ l, P a) (fun k n i l ih => h k n i l ih) (by simp) (fun t ts h1 h2 => by simpa using ⟨h1, h2⟩) t
mutual
def size : Tm → Nat
  | mk _ _ _ l => sizes l + 1
def sizes : List Tm → Nat
  | [] => 0
  | t :: ts => size t + sizes ts
end
mutual
def depth : Tm → Nat
  | mk _ _ _ l => depths l + 1
def depths : List Tm → Nat
  | [] => 0
  | t :: ts => max (depth t) (depths ts)
end
@[simp] theorem size_mk (k n i l) : size (mk k n i l) = sizes l + 1 := by rw [size]
@[simp] theorem depth_mk (k n i l) : depth (mk k n i l) = depths l + 1 := by rw [depth]
theorem size_pos (t : Tm) : 0 < t.size := by cases t; simp
theorem sizes_append (a b : List Tm) : sizes (a ++ b) = sizes a + sizes b := by
  induction a with
  | nil => simp [sizes]
  | cons t ts ih => simp [sizes, ih]; omega
theorem depths_append (a b : List Tm) : depths (a ++ b) = max (depths a) (depths b) := by
  induction a with
  | nil => simp [depths]
  | cons t ts ih => simp [depths, ih]
theorem length_le_sizes (l : List Tm) : l.length ≤ sizes l := by
  induction l with
  | nil => simp
  | cons t ts ih => have := size_pos t; simp only [sizes, List.length_cons]; omega
theorem size_le_sizes {t : Tm} {l : List Tm} (h : t ∈ l) : t.size ≤ sizes l := by
  induction l with
  | nil => cases h
  | cons u us ih =>
    rcases List.mem_cons.1 h with rfl | h
    · simp only [sizes]; omega
    · have := ih h; simp only [sizes]; omega
theorem depth_le_depths {t : Tm} {l : List Tm} (h : t ∈ l) : t.depth ≤ depths l := by
  induction l with
  | nil => cases h
  | cons u us ih =>
    rcases List.mem_cons.1 h with rfl | h
    · simp only [depths]; omega
    · have := ih h; simp only [depths]; omega
theorem depth_le_size (t : Tm) : t.depth ≤ t.size := by
  induction t using ind with
  | h k n i l ih =>
    simp only [depth_mk, size_mk, Nat.add_le_add_iff_right]
    induction l with
    | nil => simp [depths]
    | cons t ts ih2 =>
      have h1 := ih t (by simp)
      have h2 := ih2 (fun a ha => ih a (by simp [ha]))
      simp [depths, sizes]; omega
theorem depths_le_sizes (l : List Tm) : depths l ≤ sizes l := by
  have := depth_le_size (mk 0 [] 0 l); simpa using this
theorem sizes_take_succ (l : List Tm) (j : Nat) (h : j < l.length) : sizes (l.take (j + 1)) = sizes (l.take j) + l[j].size := by
  rw [List.take_succ_eq_append_getElem h, sizes_append]; simp [sizes]
theorem depths_take_succ (l : List Tm) (j : Nat) (h : j < l.length) : depths (l.take (j + 1)) = max (depths (l.take j)) l[j].depth := by
  rw [List.take_succ_eq_append_getElem h, depths_append]; simp [depths]
theorem sizes_take_le (l : List Tm) (j : Nat) : sizes (l.take j) ≤ sizes l := by
  conv => rhs; rw [← List.take_append_drop j l, sizes_append]
  omega
theorem depths_take_le (l : List Tm) (j : Nat) : depths (l.take j) ≤ depths l := by
  conv => rhs; rw [← List.take_append_drop j l, depths_append]
  omega
mutual
/-- Nodes and the bytes of names. -/
def wt : Tm → Nat
  | mk _ n _ l => n.length + wts l + 1
def wts : List Tm → Nat
  | [] => 0
  | t :: ts => wt t + wts ts
end
@[simp] theorem wt_mk (k n i l) : wt (mk k n i l) = n.length + wts l + 1 := by rw [wt]
theorem wt_le_wts {t : Tm} {l : List Tm} (h : t ∈ l) : t.wt ≤ wts l := by
  induction l with
  | nil => cases h
  | cons u us ih =>
    rcases List.mem_cons.1 h with rfl | h
    · simp only [wts]; omega
    · have := ih h; simp only [wts]; omega
theorem wts_append (a b : List Tm) : wts (a ++ b) = wts a + wts b := by
  induction a with
  | nil => simp [wts]
  | cons t ts ih => simp [wts, ih]; omega
theorem size_le_wt (t : Tm) : t.size ≤ t.wt := by
  induction t using ind with
  | h k n i l ih =>
    simp only [wt_mk, size_mk]
    have : sizes l ≤ wts l := by
      induction l with
      | nil => simp [sizes]
      | cons t ts ih2 =>
        have h1 := ih t (by simp)
        have h2 := ih2 (fun a ha => ih a (by simp [ha]))
        simp only [sizes, wts]; omega
    omega
theorem sizes_le_wts (l : List Tm) : sizes l ≤ wts l := by
  have := size_le_wt (mk 0 [] 0 l)
  simp only [wt_mk, size_mk, List.length_nil] at this; omega
mutual
/-- Equal, the names of binders aside. -/
def same : Tm → Tm → Bool
  | mk k n i l, mk k' n' i' l' => k == k' && (i == i' && ((n == n' || (k == 2 || k == 3)) && sames l l'))
def sames : List Tm → List Tm → Bool
  | [], [] => true
  | a :: as', b :: bs => same a b && sames as' bs
  | [], _ :: _ => false
  | _ :: _, [] => false
end
theorem sames_length : ∀ (l m : List Tm), sames l m = true → l.length = m.length
  | [], [], _ => rfl
  | _ :: as', _ :: bs, h => by simp only [sames, Bool.and_eq_true] at h; simp [sames_length as' bs h.2]
theorem sames_of_length_ne (l m : List Tm) (h : l.length ≠ m.length) : sames l m = false := by
  cases hs : sames l m with
  | false => rfl
  | true => exact absurd (sames_length l m hs) h
theorem sames_take (l m : List Tm) (j : Nat) (h1 : j < l.length) (h2 : j < m.length) : sames (l.take (j + 1)) (m.take (j + 1)) = (sames (l.take j) (m.take j) && same l[j] m[j]) := by
  induction l generalizing m j with
  | nil => simp at h1
  | cons a as' ih =>
    cases m with
    | nil => simp at h2
    | cons b bs =>
      cases j with
      | zero => simp [sames]
      | succ j =>
        have := ih bs j (by simpa using h1) (by simpa using h2)
        simp only [List.take_succ_cons, sames, List.getElem_cons_succ, this, Bool.and_assoc]
theorem sames_false (l m : List Tm) (j : Nat) (hl : l.length = m.length) (h1 : j < l.length) (h : same l[j] (m[j]'(by omega)) = false) : sames l m = false := by
  induction l generalizing m j with
  | nil => simp at h1
  | cons a as' ih =>
    cases m with
    | nil => simp at hl
    | cons b bs =>
      cases j with
      | zero => simp only [List.getElem_cons_zero] at h; simp [sames, h]
      | succ j =>
        have := ih bs j (by simpa using hl) (by simpa using h1) (by simpa using h)
        simp [sames, this]
theorem same_mk (k n i l k' n' i' l') : same (mk k n i l) (mk k' n' i' l') = (k == k' && (i == i' && ((n == n' || (k == 2 || k == 3)) && sames l l'))) := by rw [same]
/-- A node as an iterator hands it on: the binders around it, its kind, name and index. -/
structure Nd0 where
  b : Int
  k : Int
  n : List UInt8
  i : Int
/-- How many binders an argument of a node is under. -/
def under (k : Int) (j : Nat) : Int := if k = 3 ∨ (k = 2 ∧ j = 1) then 1 else 0
mutual
/-- All nodes of a term, a node before its arguments. -/
def nodes (b : Int) : Tm → List Nd0
  | mk k n i l => ⟨b, k, n, i⟩ :: nodesA b k 0 l
def nodesA (b k : Int) (j : Nat) : List Tm → List Nd0
  | [] => []
  | t :: ts => nodes (b + under k j) t ++ nodesA b k (j + 1) ts
end
theorem nodes_mk (b k n i l) : nodes b (mk k n i l) = ⟨b, k, n, i⟩ :: nodesA b k 0 l := by rw [nodes]
theorem nodesA_length (l : List Tm) (b k : Int) (j : Nat) (h : ∀ t ∈ l, ∀ b, (nodes b t).length = t.size) : (nodesA b k j l).length = sizes l := by
  induction l generalizing j with
  | nil => simp [nodesA, sizes]
  | cons t ts ih => simp [nodesA, sizes, h t (by simp), ih (j + 1) (fun u hu => h u (by simp [hu]))]
theorem nodes_length (t : Tm) : ∀ b, (nodes b t).length = t.size := by
  induction t using ind with
  | h k n i l ih => intro b; rw [nodes_mk]; simp [nodesA_length l b k 0 ih]
theorem nodesA_append (l m : List Tm) (b k : Int) (j : Nat) : nodesA b k j (l ++ m) = nodesA b k j l ++ nodesA b k (j + l.length) m := by
  induction l generalizing j with
  | nil => simp [nodesA]
  | cons t ts ih => simp [nodesA, ih (j + 1), Nat.add_assoc, Nat.add_comm 1 ts.length]
theorem nodesA_take_succ (l : List Tm) (b k : Int) (j : Nat) (h : j < l.length) : nodesA b k 0 (l.take (j + 1)) = nodesA b k 0 (l.take j) ++ nodes (b + under k j) l[j] := by
  rw [List.take_succ_eq_append_getElem h, nodesA_append]
  simp [nodesA, Nat.min_eq_left (Nat.le_of_lt h)]
theorem nodesA_take_prefix (l : List Tm) (b k : Int) (j : Nat) : nodesA b k 0 (l.take j) <+: nodesA b k 0 l := by
  conv => rhs; rw [← List.take_append_drop j l, nodesA_append]
  exact List.prefix_append _ _
theorem under_le (k : Int) (j : Nat) : 0 ≤ under k j ∧ under k j ≤ 1 := by unfold under; split <;> omega
end Tm
end Go.LF
namespace Go.LF
/-- A byte that is a token by itself. -/
def special (c : UInt8) : Bool := c.toNat == 40 || c.toNat == 41 || c.toNat == 91 || c.toNat == 93 || c.toNat == 123 || c.toNat == 125 || c.toNat == 58 || c.toNat == 46
/-- A byte that may be part of a name. -/
def nameByte (c : UInt8) : Bool := decide (33 ≤ c.toNat) && (decide (c.toNat ≤ 126) && (!special c && c.toNat != 37))
def reserved (s : List UInt8) : Bool := s == [45, 62] || s == [60, 45] || s == [61] || s == [95] || s == [116, 121, 112, 101]
def isName (s : List UInt8) : Bool := !s.isEmpty && decide (s.length ≤ 64) && s.all nameByte && !reserved s && s.head? != some 64
theorem isName_cons (c : UInt8) (r : List UInt8) : isName (c :: r) = (decide (r.length + 1 ≤ 64) && (nameByte c && r.all nameByte) && !reserved (c :: r) && c.toNat != 64) := by
  have h : ((c :: r).head? != some 64) = (c.toNat != 64) := by
    rw [Bool.eq_iff_iff]; simp [← UInt8.toNat_inj]
  simp only [isName, h]
  simp
theorem isName_iff (c : UInt8) (r : List UInt8) : isName (c :: r) = true ↔ r.length + 1 ≤ 64 ∧ (c :: r).all nameByte = true ∧ reserved (c :: r) = false ∧ c.toNat ≠ 64 := by
  rw [isName_cons]; simp [and_assoc]
theorem isName_not_iff (c : UInt8) (r : List UInt8) : isName (c :: r) = false ↔ ¬ (r.length + 1 ≤ 64 ∧ (c :: r).all nameByte = true ∧ reserved (c :: r) = false ∧ c.toNat ≠ 64) := by
  rw [← isName_iff]; simp
theorem all_take_succ {α : Type} (p : α → Bool) (l : List α) (j : Nat) (h : j < l.length) : (l.take (j + 1)).all p = ((l.take j).all p && p l[j]) := by
  rw [List.take_succ_eq_append_getElem h]; simp only [List.all_append, List.all_cons, List.all_nil, Bool.and_true]
namespace Tm
/-- A binder's name and index, and so many arguments. -/
def bound (n : List UInt8) (i : Int) (l : List Tm) (k : Nat) : Bool := i == 0 && l.length == k && (n == [] || n == [95] || isName n)
mutual
def isObj : Tm → Bool
  | mk k n i l =>
    if k = 3 then bound n i l 1 && allObj l
    else if k = 4 then isName n && i == 0 && allObj l
    else if k = 5 then n == [] && decide (0 ≤ i) && decide (i ≤ 1048576) && allObj l
    else if k = 6 then n == [] && decide (0 ≤ i) && decide (i < 2048) && allObj l
    else false
def allObj : List Tm → Bool
  | [] => true
  | t :: ts => isObj t && allObj ts
end
/-- A constant whose arguments are objects. -/
def isAtom : Tm → Bool | mk k n i l => k == 4 && (isName n && i == 0 && allObj l)
mutual
def isTyp : Tm → Bool
  | mk k n i l => isAtom (mk k n i l) || (k == 2 && (bound n i l 2 && allTyp l))
def allTyp : List Tm → Bool
  | [] => true
  | t :: ts => isTyp t && allTyp ts
end
def isKnd : Tm → Bool
  | mk k n i [a, b] => k == 2 && (bound n i [a, b] 2 && (isTyp a && isKnd b))
  | mk k n i l => k == 1 && (n == [] && (i == 0 && l.isEmpty))
def small (t : Tm) : Bool := decide (t.size ≤ 4096) && decide (t.depth ≤ 128)
/-- 0: well formed; 1: not; 2: too large. -/
def wf (t : Tm) : Int := if !t.isObj && !t.isTyp && !t.isKnd then 1 else if !t.small then 2 else 0
theorem allObj_iff (l : List Tm) : allObj l = l.all isObj := by
  induction l with
  | nil => rfl
  | cons t ts ih => simp [allObj, ih]
theorem allTyp_iff (l : List Tm) : allTyp l = l.all isTyp := by
  induction l with
  | nil => rfl
  | cons t ts ih => simp [allTyp, ih]
end Tm
end Go.LF
namespace Go.LF
/-- Simple types. -/
inductive Sm where
  | mk (fam : List UInt8) (args : List Sm)
namespace Sm
def fam : Sm → List UInt8 | mk f _ => f
def args : Sm → List Sm | mk _ l => l
@[simp] theorem fam_mk (f l) : fam (mk f l) = f := rfl
@[simp] theorem args_mk (f l) : args (mk f l) = l := rfl
theorem ind {P : Sm → Prop} (h : ∀ f l, (∀ a ∈ l, P a) → P (mk f l)) (t : Sm) : P t :=
  Sm.rec (motive_1 := P) (motive_2 := fun l => ∀ a ∈ l, P a) (fun f l ih => h f l ih) (by simp) (fun t ts h1 h2 => by simpa using ⟨h1, h2⟩) t
mutual
def size : Sm → Nat
  | mk _ l => sizes l + 1
def sizes : List Sm → Nat
  | [] => 0
  | t :: ts => size t + sizes ts
end
mutual
def depth : Sm → Nat
  | mk _ l => depths l + 1
def depths : List Sm → Nat
  | [] => 0
  | t :: ts => max (depth t) (depths ts)
end
mutual
/-- Nodes and the bytes of names. -/
def wt : Sm → Nat
  | mk f l => f.length + wts l + 1
def wts : List Sm → Nat
  | [] => 0
  | t :: ts => wt t + wts ts
end
@[simp] theorem size_mk (f l) : size (mk f l) = sizes l + 1 := by rw [size]
@[simp] theorem depth_mk (f l) : depth (mk f l) = depths l + 1 := by rw [depth]
@[simp] theorem wt_mk (f l) : wt (mk f l) = f.length + wts l + 1 := by rw [wt]
theorem size_pos (t : Sm) : 0 < t.size := by cases t; simp
theorem sizes_append (a b : List Sm) : sizes (a ++ b) = sizes a + sizes b := by
  induction a with
  | nil => simp [sizes]
  | cons t ts ih => simp [sizes, ih]; omega
theorem depths_append (a b : List Sm) : depths (a ++ b) = max (depths a) (depths b) := by
  induction a with
  | nil => simp [depths]
  | cons t ts ih => simp [depths, ih]
theorem wts_append (a b : List Sm) : wts (a ++ b) = wts a + wts b := by
  induction a with
  | nil => simp [wts]
  | cons t ts ih => simp [wts, ih]; omega
theorem length_le_sizes (l : List Sm) : l.length ≤ sizes l := by
  induction l with
  | nil => simp
  | cons t ts ih => have := size_pos t; simp only [sizes, List.length_cons]; omega
theorem size_le_sizes {t : Sm} {l : List Sm} (h : t ∈ l) : t.size ≤ sizes l := by
  induction l with
  | nil => cases h
  | cons u us ih =>
    rcases List.mem_cons.1 h with rfl | h
    · simp only [sizes]; omega
    · have := ih h; simp only [sizes]; omega
theorem wt_le_wts {t : Sm} {l : List Sm} (h : t ∈ l) : t.wt ≤ wts l := by
  induction l with
  | nil => cases h
  | cons u us ih =>
    rcases List.mem_cons.1 h with rfl | h
    · simp only [wts]; omega
    · have := ih h; simp only [wts]; omega
theorem size_le_wt (t : Sm) : t.size ≤ t.wt := by
  induction t using ind with
  | h f l ih =>
    simp only [wt_mk, size_mk]
    have : sizes l ≤ wts l := by
      induction l with
      | nil => simp [sizes]
      | cons t ts ih2 =>
        have h1 := ih t (by simp)
        have h2 := ih2 (fun a ha => ih a (by simp [ha]))
        simp only [sizes, wts]; omega
    omega
theorem sizes_le_wts (l : List Sm) : sizes l ≤ wts l := by
  have := size_le_wt (mk [] l)
  simp only [wt_mk, size_mk, List.length_nil] at this; omega
theorem depth_le_size (t : Sm) : t.depth ≤ t.size := by
  induction t using ind with
  | h f l ih =>
    simp only [depth_mk, size_mk, Nat.add_le_add_iff_right]
    induction l with
    | nil => simp [depths]
    | cons t ts ih2 =>
      have h1 := ih t (by simp)
      have h2 := ih2 (fun a ha => ih a (by simp [ha]))
      simp [depths, sizes]; omega
theorem depths_le_sizes (l : List Sm) : depths l ≤ sizes l := by
  have := depth_le_size (mk [] l); simpa using this
theorem sizes_take_succ (l : List Sm) (j : Nat) (h : j < l.length) : sizes (l.take (j + 1)) = sizes (l.take j) + l[j].size := by
  rw [List.take_succ_eq_append_getElem h, sizes_append]; simp [sizes]
theorem depths_take_succ (l : List Sm) (j : Nat) (h : j < l.length) : depths (l.take (j + 1)) = max (depths (l.take j)) l[j].depth := by
  rw [List.take_succ_eq_append_getElem h, depths_append]; simp [depths]
theorem sizes_take_le (l : List Sm) (j : Nat) : sizes (l.take j) ≤ sizes l := by
  conv => rhs; rw [← List.take_append_drop j l, sizes_append]
  omega
theorem depths_take_le (l : List Sm) (j : Nat) : depths (l.take j) ≤ depths l := by
  conv => rhs; rw [← List.take_append_drop j l, depths_append]
  omega
/-- A family's name, or the word type. -/
def famOk (f : List UInt8) : Bool := f == [116, 121, 112, 101] || isName f
mutual
def form : Sm → Bool
  | mk f l => famOk f && forms l
def forms : List Sm → Bool
  | [] => true
  | t :: ts => form t && forms ts
end
theorem form_mk (f l) : form (mk f l) = (famOk f && forms l) := by rw [form]
theorem forms_iff (l : List Sm) : forms l = l.all form := by
  induction l with
  | nil => rfl
  | cons t ts ih => simp [forms, ih]
theorem forms_drop (l : List Sm) (j : Nat) (h : j < l.length) : forms (l.drop j) = (form l[j] && forms (l.drop (j + 1))) := by
  rw [List.drop_eq_getElem_cons h, forms]
/-- 0: well formed; 1: not; 2: too large. -/
def wf (s : Sm) : Int := if !s.form then 1 else if decide (4096 < s.size) || decide (128 < s.depth) then 2 else 0
mutual
def order : Sm → Nat
  | mk _ l => orders l
def orders : List Sm → Nat
  | [] => 0
  | t :: ts => max (order t + 1) (orders ts)
end
mutual
/-- The size of the eta-long form of a variable, at most a little more than may be. -/
def lsz : Sm → Nat
  | mk _ l => lszA (1 + l.length) l
def lszA (n : Nat) : List Sm → Nat
  | [] => n
  | t :: ts => if n ≤ 4096 then lszA (n + lsz t) ts else n
end
theorem lsz_mk (f l) : lsz (mk f l) = lszA (1 + l.length) l := by rw [lsz]
theorem lszA_drop (n : Nat) (l : List Sm) (j : Nat) (h : j < l.length) : lszA n (l.drop j) = if n ≤ 4096 then lszA (n + lsz l[j]) (l.drop (j + 1)) else n := by
  rw [List.drop_eq_getElem_cons h, lszA]
theorem lsz_bounds (t : Sm) : lsz t ≤ 2 * size t - 1 ∧ (lsz t ≤ 4096 → lsz t = 2 * size t - 1) := by
  induction t using ind with
  | h f l ih =>
    have key : ∀ (l' : List Sm), (∀ t ∈ l', lsz t ≤ 2 * size t - 1 ∧ (lsz t ≤ 4096 → lsz t = 2 * size t - 1)) → ∀ n, n ≤ lszA n l' ∧ lszA n l' + l'.length ≤ n + 2 * sizes l' ∧ (lszA n l' ≤ 4096 → lszA n l' + l'.length = n + 2 * sizes l') := by
      intro l'
      induction l' with
      | nil => intro _ n; simp [lszA, sizes]
      | cons t ts ih2 =>
        intro h n
        have h1 := h t (by simp)
        have h0 := size_pos t
        obtain ⟨a1, a2, a3⟩ := ih2 (fun t ht => h t (by simp [ht])) (n + lsz t)
        have hl := length_le_sizes ts
        rw [lszA, sizes, List.length_cons]
        split
        · refine ⟨by omega, by omega, fun hh => ?_⟩
          have := a3 hh
          have := h1.2 (by omega)
          omega
        · refine ⟨by omega, by omega, fun hh => by omega⟩
    obtain ⟨a1, a2, a3⟩ := key l ih (1 + l.length)
    have hl := length_le_sizes l
    rw [lsz_mk, size_mk]
    exact ⟨by omega, fun hh => by have := a3 hh; omega⟩
mutual
def same : Sm → Sm → Bool
  | mk f l, mk f' l' => f == f' && sames l l'
def sames : List Sm → List Sm → Bool
  | [], [] => true
  | a :: as', b :: bs => same a b && sames as' bs
  | [], _ :: _ => false
  | _ :: _, [] => false
end
end Sm
namespace Tm
/-- So many Lams around a term. -/
def lamN : Nat → Tm → Tm
  | 0, t => t
  | n + 1, t => lamN n (mk 3 [] 0 [t])
theorem lamN_succ (n : Nat) (t : Tm) : lamN (n + 1) t = mk 3 [] 0 [lamN n t] := by
  induction n generalizing t with
  | zero => rfl
  | succ n ih => rw [lamN, ih]; rfl
/-- A head with more arguments. -/
def more (h : Tm) (ts : List Tm) : Tm := mk h.kind h.name h.index (h.args ++ ts)
mutual
/-- The eta-long form of a head that is shifted already. -/
def xp (h : Tm) : Sm → Tm
  | .mk _ l => lamN l.length (more h (xpA ((l.length : Int) - 1) l))
def xpA (m : Int) : List Sm → List Tm
  | [] => []
  | a :: as' => xp (mk 5 [] (m + a.args.length) []) a :: xpA (m - 1) as'
end
theorem xp_mk (h : Tm) (f l) : xp h (.mk f l) = lamN l.length (more h (xpA ((l.length : Int) - 1) l)) := by rw [xp]
theorem xpA_length (l : List Sm) : ∀ m, (xpA m l).length = l.length := by
  induction l with
  | nil => intro m; simp [xpA]
  | cons t ts ih => intro m; simp [xpA, ih]
theorem xpA_append (l l' : List Sm) : ∀ m, xpA m (l ++ l') = xpA m l ++ xpA (m - l.length) l' := by
  induction l with
  | nil => intro m; simp [xpA]
  | cons t ts ih =>
    intro m
    simp only [List.cons_append, xpA, ih, List.length_cons]
    congr 3
    omega
theorem xpA_take_succ (l : List Sm) (m : Int) (j : Nat) (h : j < l.length) : xpA m (l.take (j + 1)) = xpA m (l.take j) ++ [xp (mk 5 [] (m - j + l[j].args.length) []) l[j]] := by
  rw [List.take_succ_eq_append_getElem h, xpA_append]
  simp [xpA, Nat.min_eq_left (Nat.le_of_lt h)]
theorem size_lamN (n : Nat) (t : Tm) : (lamN n t).size = t.size + n := by
  induction n generalizing t with
  | zero => rfl
  | succ n ih => rw [lamN, ih]; simp [sizes]; omega
theorem depth_lamN (n : Nat) (t : Tm) : (lamN n t).depth = t.depth + n := by
  induction n generalizing t with
  | zero => rfl
  | succ n ih => rw [lamN, ih]; simp [depths]; omega
theorem wt_lamN (n : Nat) (t : Tm) : (lamN n t).wt = t.wt + n := by
  induction n generalizing t with
  | zero => rfl
  | succ n ih => rw [lamN, ih]; simp [wts]; omega
theorem obj_lamN (n : Nat) (t : Tm) (h : t.isObj = true) : (lamN n t).isObj = true := by
  induction n generalizing t with
  | zero => exact h
  | succ n ih => exact ih _ (by rw [isObj, if_pos rfl]; simp [bound, allObj, h])
theorem size_more (h : Tm) (ts : List Tm) : (more h ts).size = h.size + sizes ts := by
  cases h; simp [more, sizes_append]; omega
theorem wt_more (h : Tm) (ts : List Tm) : (more h ts).wt = h.wt + wts ts := by
  cases h; simp [more, wts_append]; omega
theorem more_more (h : Tm) (a b : List Tm) : more (more h a) b = more h (a ++ b) := by simp [more]
theorem more_nil (h : Tm) : more h [] = h := by cases h; simp [more]
theorem size_xp (s : Sm) : ∀ h : Tm, (xp h s).size + 2 = h.size + 2 * s.size := by
  induction s using Sm.ind with
  | h f l ih =>
    intro h
    have key : ∀ (l' : List Sm), (∀ s ∈ l', ∀ h : Tm, (xp h s).size + 2 = h.size + 2 * s.size) → ∀ m, sizes (xpA m l') + l'.length = 2 * Sm.sizes l' := by
      intro l'
      induction l' with
      | nil => intro _ m; simp [xpA, sizes, Sm.sizes]
      | cons t ts ih2 =>
        intro h m
        have h1 := h t (by simp) (mk 5 [] (m + t.args.length) [])
        have h2 := ih2 (fun t ht => h t (by simp [ht])) (m - 1)
        simp only [xpA, sizes, Sm.sizes, List.length_cons]
        simp [sizes] at h1
        omega
    have := key l ih ((l.length : Int) - 1)
    rw [xp_mk, size_lamN, size_more, Sm.size_mk]
    omega
theorem wt_xp (s : Sm) : ∀ h : Tm, (xp h s).wt + 2 = h.wt + 2 * s.size := by
  induction s using Sm.ind with
  | h f l ih =>
    intro h
    have key : ∀ (l' : List Sm), (∀ s ∈ l', ∀ h : Tm, (xp h s).wt + 2 = h.wt + 2 * s.size) → ∀ m, wts (xpA m l') + l'.length = 2 * Sm.sizes l' := by
      intro l'
      induction l' with
      | nil => intro _ m; simp [xpA, wts, Sm.sizes]
      | cons t ts ih2 =>
        intro h m
        have h1 := h t (by simp) (mk 5 [] (m + t.args.length) [])
        have h2 := ih2 (fun t ht => h t (by simp [ht])) (m - 1)
        simp only [xpA, wts, Sm.sizes, List.length_cons]
        simp [wts] at h1
        omega
    have := key l ih ((l.length : Int) - 1)
    rw [xp_mk, wt_lamN, wt_more, Sm.size_mk]
    omega
theorem obj_more (h : Tm) (ts : List Tm) (ho : h.isObj = true) (hk : h.kind ≠ 3) (hts : allObj ts = true) : (more h ts).isObj = true := by
  cases h with
  | mk k n i l =>
    have ha : ∀ l : List Tm, allObj (l ++ ts) = (allObj l && allObj ts) := fun l => by simp [allObj_iff]
    have hk' : ¬ k = 3 := hk
    have e : more (mk k n i l) ts = mk k n i (l ++ ts) := rfl
    rw [e, isObj]
    rw [isObj] at ho
    rw [if_neg hk'] at ho ⊢
    simp only [ha, hts, Bool.and_true]
    exact ho
theorem obj_xp (s : Sm) : ∀ h : Tm, h.isObj = true → h.kind ≠ 3 → s.size ≤ 500000 → (xp h s).isObj = true := by
  induction s using Sm.ind with
  | h f l ih =>
    intro h ho hk hs
    rw [Sm.size_mk] at hs
    have hl := Sm.length_le_sizes l
    have key : ∀ (l' : List Sm), (∀ s ∈ l', ∀ h : Tm, h.isObj = true → h.kind ≠ 3 → s.size ≤ 500000 → (xp h s).isObj = true) → Sm.sizes l' ≤ 500000 → ∀ m : Int, (l'.length : Int) ≤ m + 1 → m ≤ 500000 → allObj (xpA m l') = true := by
      intro l'
      induction l' with
      | nil => intro _ _ m _ _; simp [xpA, allObj]
      | cons t ts ih2 =>
        intro h hs m h0 h1
        rw [Sm.sizes] at hs
        rw [List.length_cons] at h0
        have hlt : (t.args.length : Int) ≤ 500000 := by
          cases t with
          | mk f' l'' => have := Sm.length_le_sizes l''; rw [Sm.size_mk] at hs; simp only [Sm.args_mk]; omega
        rw [xpA, allObj, ih2 (fun t ht => h t (by simp [ht])) (by omega) (m - 1) (by omega) (by omega), Bool.and_true]
        refine h t (by simp) _ ?_ (by simp) (by omega)
        rw [isObj]
        simp [allObj]
        omega
    rw [xp_mk]
    exact obj_lamN _ _ (obj_more _ _ ho hk (key l ih (by omega) _ (by omega) (by omega)))
end Tm
end Go.LF
namespace Go.LF
/-- Plain data. -/
inductive Dat where
  | int (k : IntKind) (n : Int)
  | bool (b : Bool)
  | str (s : ByteArray)
  | st (fs : List Dat)
  | seq (wd : Nat) (xs : List Dat)
/-- Outside the blocks S the world w' is as w was; new blocks may be there. -/
structure Upto (S : Nat → Prop) (w w' : World) : Prop where
  os : w'.os = w.os
  tape : w'.tape = w.tape
  output : w'.output = w.output
  size : w.heap.size ≤ w'.heap.size
  block : ∀ k, k < w.heap.size → ¬ S k → w'.heap[k]? = w.heap[k]?
abbrev none' : Nat → Prop := fun _ => False
theorem heap_old (w : World) (o : Obj) (b : Nat) (h : b < w.heap.size) : (w.alloc o).heap[b]? = w.heap[b]? := RowKit.Below.heap_alloc _ _ _ h
theorem Upto.refl (S : Nat → Prop) (w : World) : Upto S w w := ⟨rfl, rfl, rfl, Nat.le_refl _, fun _ _ _ => rfl⟩
theorem Upto.trans {S S' : Nat → Prop} {a b c : World} (h : Upto S a b) (k : Upto S' b c) (hs : ∀ i, i < a.heap.size → S' i → S i) : Upto S a c :=
  ⟨k.os.trans h.os, k.tape.trans h.tape, k.output.trans h.output, Nat.le_trans h.size k.size,
    fun i hi hn => (k.block i (Nat.lt_of_lt_of_le hi h.size) (fun x => hn (hs i hi x))).trans (h.block i hi hn)⟩
theorem Upto.mono {S S' : Nat → Prop} {a b : World} (h : Upto S a b) (hs : ∀ i, i < a.heap.size → S i → S' i) : Upto S' a b :=
  ⟨h.os, h.tape, h.output, h.size, fun i hi hn => h.block i hi (fun x => hn (hs i hi x))⟩
theorem Upto.drew {S : Nat → Prop} {a w : World} (h : Upto S a w) : Upto S a w.drew := ⟨h.os, h.tape, h.output, h.size, h.block⟩
theorem Upto.alloc {S : Nat → Prop} {a w : World} (h : Upto S a w) (o : Obj) : Upto S a (w.alloc o) :=
  h.trans (S' := none') ⟨rfl, rfl, rfl, by simp, fun k hk _ => RowKit.Below.heap_alloc _ _ _ hk⟩ (fun _ _ x => x.elim)
theorem Upto.setCell {S : Nat → Prop} {a w : World} (h : Upto S a w) {p : Addr} (hp : p.block < a.heap.size → S p.block) (u : Value) : Upto S a (w.setCell p u) :=
  h.trans (S' := fun k => k = p.block) ⟨rfl, rfl, rfl, by simp [World.setCell], fun k _ hk => RowKit.Below.heap_setCell _ _ _ _ hk⟩ (fun i hi e => by subst e; exact hp hi)
theorem Upto.below {B : Nat} {w w' : World} (h : Upto (fun k => B ≤ k) w w') (hB : B ≤ w.heap.size) : RowKit.Below B w w' :=
  ⟨h.os, h.tape, h.output, h.size, fun k hk => h.block k (by omega) (by omega)⟩
theorem Upto.of_below {S : Nat → Prop} {w w' : World} (h : RowKit.Below w.heap.size w w') : Upto S w w' :=
  ⟨h.os, h.tape, h.output, h.size, fun k hk _ => h.block k hk⟩
theorem Upto.cell {S : Nat → Prop} {w w' : World} (h : Upto S w w') {a : Addr} {v : Value} (hc : w.cell? a = some v) (hs : ¬ S a.block) : w'.cell? a = some v :=
  (World.cell?_of_block (h.block _ (World.block_lt_of_cell? w a hc) hs)).trans hc
mutual
/-- These cells read as this datum in w; no cell of a block of O is looked at. -/
def Rep (O : Nat → Prop) (w : World) : Dat → List Value → Prop
  | .int k n, cs => cs = [.int k n]
  | .bool b, cs => cs = [.bool b]
  | .str s, cs => cs = [.string s]
  | .st fs, cs => RepF O w fs cs
  | .seq wd xs, cs => ∃ a cap, cs = [.slice a xs.length cap] ∧ xs.length ≤ cap ∧ RepE O w wd xs a 0
/-- The fields of a struct. -/
def RepF (O : Nat → Prop) (w : World) : List Dat → List Value → Prop
  | [], cs => cs = []
  | d :: ds, cs => ∃ c1 c2, cs = c1 ++ c2 ∧ Rep O w d c1 ∧ RepF O w ds c2
/-- The elements of a slice, from an offset on. -/
def RepE (O : Nat → Prop) (w : World) (wd : Nat) : List Dat → Option Addr → Nat → Prop
  | [], _, _ => True
  | d :: ds, a, j => (∃ b o cs, a = some ⟨b, o, none⟩ ∧ b < w.heap.size ∧ ¬ O b ∧ cs.length = wd ∧ (∀ i v, cs[i]? = some v → w.cell? ⟨b, o + j + i, none⟩ = some v) ∧ Rep O w d cs) ∧
      RepE O w wd ds a (j + wd)
end
/-- Cells outside the blocks O read as they did. -/
def Cel (O : Nat → Prop) (w w' : World) : Prop := w.heap.size ≤ w'.heap.size ∧ ∀ b o v, ¬ O b → w.cell? ⟨b, o, none⟩ = some v → w'.cell? ⟨b, o, none⟩ = some v
theorem Upto.cel {O S : Nat → Prop} {w w' : World} (h : Upto S w w') (hs : ∀ k, S k → O k) : Cel O w w' := ⟨h.size, fun _ _ _ hb hv => h.cell hv (fun x => hb (hs _ x))⟩
theorem Cel.trans {O : Nat → Prop} {a b c : World} (h : Cel O a b) (k : Cel O b c) : Cel O a c := ⟨Nat.le_trans h.1 k.1, fun x o v hx hv => k.2 x o v hx (h.2 x o v hx hv)⟩
mutual
theorem Rep.carry {O : Nat → Prop} {w w' : World} (h : Cel O w w') : ∀ (d : Dat) (cs : List Value), Rep O w d cs → Rep O w' d cs
  | .int _ _, _, r => by simpa only [Rep] using r
  | .bool _, _, r => by simpa only [Rep] using r
  | .str _, _, r => by simpa only [Rep] using r
  | .st fs, cs, r => by simp only [Rep] at r ⊢; exact RepF.carry h fs cs r
  | .seq wd xs, cs, r => by
      simp only [Rep] at r ⊢
      obtain ⟨a, cap, h1, h2, h3⟩ := r
      exact ⟨a, cap, h1, h2, RepE.carry h wd xs a 0 h3⟩
theorem RepF.carry {O : Nat → Prop} {w w' : World} (h : Cel O w w') : ∀ (ds : List Dat) (cs : List Value), RepF O w ds cs → RepF O w' ds cs
  | [], _, r => by simpa only [RepF] using r
  | d :: ds, cs, r => by
      simp only [RepF] at r ⊢
      obtain ⟨c1, c2, h1, h2, h3⟩ := r
      exact ⟨c1, c2, h1, Rep.carry h d c1 h2, RepF.carry h ds c2 h3⟩
theorem RepE.carry {O : Nat → Prop} {w w' : World} (h : Cel O w w') (wd : Nat) : ∀ (ds : List Dat) (a : Option Addr) (j : Nat), RepE O w wd ds a j → RepE O w' wd ds a j
  | [], _, _, _ => by simp only [RepE]
  | d :: ds, a, j, r => by
      simp only [RepE] at r ⊢
      obtain ⟨⟨b, o, cs, h1, hb, h2, h3, h4, h5⟩, h6⟩ := r
      exact ⟨⟨b, o, cs, h1, Nat.lt_of_lt_of_le hb h.1, h2, h3, fun i v hv => h.2 _ _ _ h2 (h4 i v hv), Rep.carry h d cs h5⟩, RepE.carry h wd ds a _ h6⟩
end
theorem Rep.keep {O S : Nat → Prop} {w w' : World} (h : Upto S w w') (hs : ∀ k, S k → O k) (d : Dat) (cs : List Value) (r : Rep O w d cs) : Rep O w' d cs := Rep.carry (h.cel hs) d cs r
theorem RepE.keep {O S : Nat → Prop} {w w' : World} (h : Upto S w w') (hs : ∀ k, S k → O k) (wd : Nat) (ds : List Dat) (a : Option Addr) (j : Nat) (r : RepE O w wd ds a j) : RepE O w' wd ds a j := RepE.carry (h.cel hs) wd ds a j r
mutual
theorem Rep.weaken {O O' : Nat → Prop} {w : World} (hs : ∀ k, k < w.heap.size → O' k → O k) : ∀ (d : Dat) (cs : List Value), Rep O w d cs → Rep O' w d cs
  | .int _ _, _, r => by simpa only [Rep] using r
  | .bool _, _, r => by simpa only [Rep] using r
  | .str _, _, r => by simpa only [Rep] using r
  | .st fs, cs, r => by simp only [Rep] at r ⊢; exact RepF.weaken hs fs cs r
  | .seq wd xs, cs, r => by
      simp only [Rep] at r ⊢
      obtain ⟨a, cap, h1, h2, h3⟩ := r
      exact ⟨a, cap, h1, h2, RepE.weaken hs wd xs a 0 h3⟩
theorem RepF.weaken {O O' : Nat → Prop} {w : World} (hs : ∀ k, k < w.heap.size → O' k → O k) : ∀ (ds : List Dat) (cs : List Value), RepF O w ds cs → RepF O' w ds cs
  | [], _, r => by simpa only [RepF] using r
  | d :: ds, cs, r => by
      simp only [RepF] at r ⊢
      obtain ⟨c1, c2, h1, h2, h3⟩ := r
      exact ⟨c1, c2, h1, Rep.weaken hs d c1 h2, RepF.weaken hs ds c2 h3⟩
theorem RepE.weaken {O O' : Nat → Prop} {w : World} (hs : ∀ k, k < w.heap.size → O' k → O k) (wd : Nat) : ∀ (ds : List Dat) (a : Option Addr) (j : Nat), RepE O w wd ds a j → RepE O' w wd ds a j
  | [], _, _, _ => by simp only [RepE]
  | d :: ds, a, j, r => by
      simp only [RepE] at r ⊢
      obtain ⟨⟨b, o, cs, h1, hb, h2, h3, h4, h5⟩, h6⟩ := r
      exact ⟨⟨b, o, cs, h1, hb, fun x => h2 (hs _ hb x), h3, h4, Rep.weaken hs d cs h5⟩, RepE.weaken hs wd ds a _ h6⟩
end
theorem RepE.get {O : Nat → Prop} {w : World} {wd : Nat} : ∀ {xs : List Dat} {a : Option Addr} {j : Nat}, RepE O w wd xs a j → ∀ i (h : i < xs.length),
    ∃ b o cs, a = some ⟨b, o, none⟩ ∧ b < w.heap.size ∧ ¬ O b ∧ cs.length = wd ∧ (∀ m v, cs[m]? = some v → w.cell? ⟨b, o + j + i * wd + m, none⟩ = some v) ∧ Rep O w xs[i] cs := by
  intro xs
  induction xs with
  | nil => intro a j _ i h; simp at h
  | cons d ds ih =>
    intro a j r i h
    simp only [RepE] at r
    obtain ⟨⟨b, o, cs, h1, hb, h2, h3, h4, h5⟩, h6⟩ := r
    cases i with
    | zero => exact ⟨b, o, cs, h1, hb, h2, h3, by simpa using h4, h5⟩
    | succ i =>
      obtain ⟨b', o', cs', g1, gb, g2, g3, g4, g5⟩ := ih h6 i (by simpa using h)
      refine ⟨b', o', cs', g1, gb, g2, g3, ?_, g5⟩
      intro m v hm
      have := g4 m v hm
      rw [Nat.add_mul, Nat.one_mul]
      rw [show o' + j + (i * wd + wd) + m = o' + (j + wd) + i * wd + m from by omega]
      exact this
/-- A string as its bytes. -/
abbrev B (l : List UInt8) : ByteArray := ⟨l.toArray⟩
theorem B_size (l : List UInt8) : (B l).size = l.length := rfl
namespace Tm
mutual
def dat : Tm → Dat
  | mk k n i as => .st [.int .i64 k, .str (B n), .int .i64 i, .seq 4 (dats as)]
def dats : List Tm → List Dat
  | [] => []
  | t :: ts => dat t :: dats ts
end
theorem dats_eq (l : List Tm) : dats l = l.map dat := by
  induction l with
  | nil => rfl
  | cons t ts ih => simp [dats, ih]
end Tm
theorem rep_tm {O : Nat → Prop} {w : World} {k : Int} {n : List UInt8} {i : Int} {as : List Tm} {cs : List Value} :
    Rep O w (Tm.mk k n i as).dat cs ↔ ∃ a cap, cs = [.int .i64 k, .string (B n), .int .i64 i, .slice a as.length cap] ∧ as.length ≤ cap ∧ RepE O w 4 (as.map Tm.dat) a 0 := by
  simp only [Tm.dat, Rep, RepF, Tm.dats_eq]
  constructor
  · rintro ⟨c1, c2, rfl, rfl, c3, c4, rfl, rfl, c5, c6, rfl, rfl, c7, c8, rfl, ⟨a, cap, rfl, h1, h2⟩, rfl⟩
    exact ⟨a, cap, by simp, by simpa using h1, h2⟩
  · rintro ⟨a, cap, rfl, h1, h2⟩
    exact ⟨[_], [_, _, _], rfl, rfl, [_], [_, _], rfl, rfl, [_], [_], rfl, rfl, [.slice a as.length cap], [], rfl, ⟨a, cap, by simp, by simpa using h1, h2⟩, rfl⟩
/-- An argument of a term, in memory. -/
theorem arg_tm {O : Nat → Prop} {w : World} {as : List Tm} {a : Option Addr} (h : RepE O w 4 (as.map Tm.dat) a 0) (i : Nat) (hi : i < as.length) :
    ∃ b o k n x s c, a = some ⟨b, o, none⟩ ∧ b < w.heap.size ∧ ¬ O b ∧
      w.cell? ⟨b, o + i * 4, none⟩ = some (.int .i64 k) ∧ w.cell? ⟨b, o + i * 4 + 1, none⟩ = some (.string (B n)) ∧
      w.cell? ⟨b, o + i * 4 + 2, none⟩ = some (.int .i64 x) ∧ w.cell? ⟨b, o + i * 4 + 3, none⟩ = some (.slice s as[i].args.length c) ∧
      Rep O w as[i].dat [.int .i64 k, .string (B n), .int .i64 x, .slice s as[i].args.length c] := by
  obtain ⟨b, o, cs, h1, hb, h2, h3, h4, h5⟩ := h.get i (by simpa using hi)
  simp only [List.getElem_map] at h5
  cases hx : as[i] with
  | mk k n x bs =>
    rw [hx] at h5
    obtain ⟨s, c, rfl, g1, g2⟩ := rep_tm.1 h5
    refine ⟨b, o, k, n, x, s, c, h1, hb, h2, ?_, ?_, ?_, ?_, h5⟩
    · simpa using h4 0 _ rfl
    · simpa using h4 1 _ rfl
    · simpa using h4 2 _ rfl
    · simpa [Tm.args] using h4 3 _ rfl
theorem Cel.cell {O : Nat → Prop} {w w' : World} (h : Cel O w w') {b o : Nat} {v : Value} (hb : ¬ O b) (hv : w.cell? ⟨b, o, none⟩ = some v) : w'.cell? ⟨b, o, none⟩ = some v := h.2 b o v hb hv
theorem Cel.refl (O : Nat → Prop) (w : World) : Cel O w w := ⟨Nat.le_refl _, fun _ _ _ _ h => h⟩
theorem Cel.alloc {O : Nat → Prop} {a w : World} (h : Cel O a w) (o : Obj) : Cel O a (w.alloc o) := h.trans (((Upto.refl none' w).alloc o).cel (fun _ x => x.elim))
theorem Cel.weaken {O O' : Nat → Prop} {w w' : World} (h : Cel O w w') (hs : ∀ k, O k → O' k) : Cel O' w w' := ⟨h.1, fun b o v hb hv => h.2 b o v (fun x => hb (hs _ x)) hv⟩
/-- A box that has just been laid. -/
theorem Cel.box4 {O : Nat → Prop} {w w' : World} {c0 c1 c2 c3 : Value} {T : TypeId} (h : Cel O (w.alloc (.cells #[c0, c1, c2, c3] T)) w') (hb : ¬ O w.heap.size) :
    w'.cell? ⟨w.heap.size, 0, none⟩ = some c0 ∧ w'.cell? ⟨w.heap.size, 1, none⟩ = some c1 ∧ w'.cell? ⟨w.heap.size, 2, none⟩ = some c2 ∧ w'.cell? ⟨w.heap.size, 3, none⟩ = some c3 := by
  refine ⟨h.cell hb ?_, h.cell hb ?_, h.cell hb ?_, h.cell hb ?_⟩ <;> rw [World.cell?_alloc_new] <;> rfl
theorem Cel.box1 {O : Nat → Prop} {w w' : World} {c0 : Value} {T : TypeId} (h : Cel O (w.alloc (.cells #[c0] T)) w') (hb : ¬ O w.heap.size) :
    w'.cell? ⟨w.heap.size, 0, none⟩ = some c0 := by
  refine h.cell hb ?_; rw [World.cell?_alloc_new]; rfl
theorem Upto.behind {S : Nat → Prop} {w w' : World} {o : Obj} (h : Upto S (w.alloc o) w') (hs : ∀ k, k < w.heap.size → S k → none' k := by exact fun _ _ x => x) : Upto none' w w' :=
  ((Upto.refl none' w).alloc o).trans h hs
theorem Upto.cells {S : Nat → Prop} {W w1 : World} (hb : Upto S W w1) :
    (∀ b o, b < W.heap.size → ¬ S b → w1.cell? ⟨b, o, none⟩ = W.cell? ⟨b, o, none⟩) ∧ (∀ b o, b < W.heap.size → ¬ S b → w1.frozen? ⟨b, o, none⟩ = W.frozen? ⟨b, o, none⟩) :=
  ⟨fun b _ h n => World.cell?_of_block (hb.block b h n), fun b _ h n => World.frozen?_of_block (hb.block b h n)⟩
/-- What lay below reads as it did. -/
theorem Upto.cells0 {W w1 : World} (hb : Upto none' W w1) :
    (∀ b o, b < W.heap.size → w1.cell? ⟨b, o, none⟩ = W.cell? ⟨b, o, none⟩) ∧ (∀ b o, b < W.heap.size → w1.frozen? ⟨b, o, none⟩ = W.frozen? ⟨b, o, none⟩) :=
  ⟨fun b _ h => World.cell?_of_block (hb.block b h (fun x => x)), fun b _ h => World.frozen?_of_block (hb.block b h (fun x => x))⟩
theorem Rep.on {O : Nat → Prop} {w w' : World} {d : Dat} {cs : List Value} (r : Rep O w d cs) (h : Upto none' w w') : Rep O w' d cs := Rep.keep h (fun _ x => x.elim) d cs r
theorem RepE.cel {O : Nat → Prop} {w w' : World} {wd : Nat} {ds : List Dat} {a : Option Addr} {j : Nat} (r : RepE O w wd ds a j) (h : Cel O w w') : RepE O w' wd ds a j := RepE.carry h wd ds a j r
theorem RepE.on {O : Nat → Prop} {w w' : World} {wd : Nat} {ds : List Dat} {a : Option Addr} {j : Nat} (r : RepE O w wd ds a j) (h : Upto none' w w') : RepE O w' wd ds a j := RepE.keep h (fun _ x => x.elim) wd ds a j r
theorem Rep.new {O : Nat → Prop} {w : World} {d : Dat} {cs : List Value} (r : Rep O w d cs) (o : Obj) : Rep O (w.alloc o) d cs := r.on ((Upto.refl _ w).alloc o)
theorem hid {p : Prop} (h : p) : RowKit.Hid p := h
mutual
/-- What is read lies in blocks that are there: so it is none of those to come. -/
theorem Rep.fresh' {O : Nat → Prop} {w : World} : ∀ (d : Dat) (cs : List Value), Rep O w d cs → Rep (fun b => O b ∨ w.heap.size ≤ b) w d cs
  | .int _ _, _, r => by simpa only [Rep] using r
  | .bool _, _, r => by simpa only [Rep] using r
  | .str _, _, r => by simpa only [Rep] using r
  | .st fs, cs, r => by simp only [Rep] at r ⊢; exact RepF.fresh' fs cs r
  | .seq wd xs, cs, r => by
      simp only [Rep] at r ⊢
      obtain ⟨a, cap, h1, h2, h3⟩ := r
      exact ⟨a, cap, h1, h2, RepE.fresh' wd xs a 0 h3⟩
theorem RepF.fresh' {O : Nat → Prop} {w : World} : ∀ (ds : List Dat) (cs : List Value), RepF O w ds cs → RepF (fun b => O b ∨ w.heap.size ≤ b) w ds cs
  | [], _, r => by simpa only [RepF] using r
  | d :: ds, cs, r => by
      simp only [RepF] at r ⊢
      obtain ⟨c1, c2, h1, h2, h3⟩ := r
      exact ⟨c1, c2, h1, Rep.fresh' d c1 h2, RepF.fresh' ds c2 h3⟩
theorem RepE.fresh' {O : Nat → Prop} {w : World} (wd : Nat) : ∀ (ds : List Dat) (a : Option Addr) (j : Nat), RepE O w wd ds a j → RepE (fun b => O b ∨ w.heap.size ≤ b) w wd ds a j
  | [], _, _, _ => by simp only [RepE]
  | d :: ds, a, j, r => by
      simp only [RepE] at r ⊢
      obtain ⟨⟨b, o, cs, h1, hb, h2, h3, h4, h5⟩, h6⟩ := r
      exact ⟨⟨b, o, cs, h1, hb, fun x => x.elim h2 (fun y => by omega), h3, h4, Rep.fresh' d cs h5⟩, RepE.fresh' wd ds a _ h6⟩
end
theorem Rep.fresh {O : Nat → Prop} {w : World} {d : Dat} {cs : List Value} (r : Rep O w d cs) : Rep (fun b => w.heap.size ≤ b) w d cs := Rep.weaken (fun _ _ h => .inr h) d cs (Rep.fresh' d cs r)
theorem Rep.freshO {O : Nat → Prop} {w : World} {d : Dat} {cs : List Value} (r : Rep O w d cs) : Rep (fun b => O b ∨ w.heap.size ≤ b) w d cs := Rep.fresh' d cs r
theorem ret_int {k : IntKind} {a b : Int} (h : a = b) : Ending.returned (.int k a) = .returned (.int k b) := by rw [h]
theorem ret_bool {a b : Bool} (h : a = b) : Ending.returned (.bool a) = .returned (.bool b) := by rw [h]
theorem int_eq {k : IntKind} {a b : Int} (h : a = b) : Value.int k a = .int k b := by rw [h]
end Go.LF
namespace Go.LF
/-- The four cells of a box, later. -/
theorem box_on {W w' : World} {b : Nat} {c0 c1 c2 c3 : Value} (hU : Upto none' W w')
    (h : W.cell? ⟨b, 0, none⟩ = some c0 ∧ W.cell? ⟨b, 1, none⟩ = some c1 ∧ W.cell? ⟨b, 2, none⟩ = some c2 ∧ W.cell? ⟨b, 3, none⟩ = some c3) :
    w'.cell? ⟨b, 0, none⟩ = some c0 ∧ w'.cell? ⟨b, 1, none⟩ = some c1 ∧ w'.cell? ⟨b, 2, none⟩ = some c2 ∧ w'.cell? ⟨b, 3, none⟩ = some c3 :=
  ⟨hU.cell h.1 (fun x => x), hU.cell h.2.1 (fun x => x), hU.cell h.2.2.1 (fun x => x), hU.cell h.2.2.2 (fun x => x)⟩
theorem box_new {w w1 : World} {c0 c1 c2 c3 : Value} {T : TypeId} (hU : Upto none' (w.alloc (.cells #[c0, c1, c2, c3] T)) w1) :
    w1.cell? ⟨w.heap.size, 0, none⟩ = some c0 ∧ w1.cell? ⟨w.heap.size, 1, none⟩ = some c1 ∧ w1.cell? ⟨w.heap.size, 2, none⟩ = some c2 ∧ w1.cell? ⟨w.heap.size, 3, none⟩ = some c3 :=
  (hU.cel (O := none') (fun _ x => x)).box4 (fun x => x)
theorem Upto.and {a b c : World} (h : Upto none' a b) (k : Upto none' b c) : Upto none' a c := h.trans k (fun _ _ x => x)
/-- The argument of a contract, opened. -/
theorem tm_open {O : Nat → Prop} {w : World} {t : Tm} {cs : List Value} (h : Rep O w t.dat cs) :
    ∃ k n i ts a cap, t = .mk k n i ts ∧ cs = [.int .i64 k, .string (B n), .int .i64 i, .slice a ts.length cap] ∧ ts.length ≤ cap ∧ RepE O w 4 (ts.map Tm.dat) a 0 := by
  cases t with
  | mk k n i ts =>
    obtain ⟨a, cap, h1, h2, h3⟩ := rep_tm.1 h
    exact ⟨k, n, i, ts, a, cap, rfl, h1, h2, h3⟩
theorem under_ways (k : Int) (j : Nat) : ((k == 3) = true ∧ Tm.under k j = 1) ∨ ((k == 3) = false ∧ (k == 2) = true ∧ ((j : Int) == 1) = true ∧ Tm.under k j = 1) ∨
    ((k == 3) = false ∧ (k == 2) = true ∧ ((j : Int) == 1) = false ∧ Tm.under k j = 0) ∨ ((k == 3) = false ∧ (k == 2) = false ∧ Tm.under k j = 0) := by
  unfold Tm.under
  by_cases h3 : k = 3
  · left; simp [h3]
  by_cases h2 : k = 2
  · by_cases h1 : j = 1
    · right; left; simp [h2, h1]
    · right; right; left; simp [h2, h1]; omega
  · right; right; right; simp [h3, h2]
theorem Upto.behind' {w w' : World} {o : Obj} (h : Upto none' (w.alloc o) w') : Upto none' w w' := ((Upto.refl none' w).alloc o).and h
end Go.LF
namespace Go.LF
open Go.RowKit
/-- Cells outside the blocks O read as they did, and stay outside. -/
def CelW (O : World → Nat → Prop) (w w' : World) : Prop := w.heap.size ≤ w'.heap.size ∧ ∀ b, b < w.heap.size → ¬ O w b → ¬ O w' b ∧ ∀ o v, w.cell? ⟨b, o, none⟩ = some v → w'.cell? ⟨b, o, none⟩ = some v
/-- A cell outside the blocks O. -/
def At (O : World → Nat → Prop) (w : World) (b o : Nat) (v : Value) : Prop := ¬ O w b ∧ w.cell? ⟨b, o, none⟩ = some v
/-- New blocks are outside O. -/
structure Fresh (O : World → Nat → Prop) (H0 : Nat) (Ts : TypeId → Prop) : Prop where
  new : ∀ (W : World) (cs : Array Value) (T : TypeId), Ts T → H0 ≤ W.heap.size → ¬ O (W.alloc (.cells cs T)) W.heap.size
  old : ∀ (W : World) (o : Obj) (b : Nat), b < W.heap.size → ¬ O W b → ¬ O (W.alloc o) b
section
variable {O : World → Nat → Prop} {H0 : Nat} {Ts : TypeId → Prop} {w w' a b c : World}
theorem CelW.refl (O : World → Nat → Prop) (w : World) : CelW O w w := ⟨Nat.le_refl _, fun _ _ h => ⟨h, fun _ _ h' => h'⟩⟩
theorem CelW.trans {A B C : World} (h : CelW O A B) (k : CelW O B C) : CelW O A C := ⟨Nat.le_trans h.1 k.1, fun x hx hn => ⟨(k.2 x (Nat.lt_of_lt_of_le hx h.1) (h.2 x hx hn).1).1, fun o v hv => (k.2 x (Nat.lt_of_lt_of_le hx h.1) (h.2 x hx hn).1).2 o v ((h.2 x hx hn).2 o v hv)⟩⟩
theorem CelW.at {x o : Nat} {v : Value} (h : CelW O w w') (ha : At O w x o v) : At O w' x o v := by
  have := h.2 x (by simpa using World.block_lt_of_cell? w _ ha.2) ha.1
  exact ⟨this.1, this.2 o v ha.2⟩
theorem CelW.alloc' (F : Fresh O H0 Ts) (w : World) (o : Obj) : CelW O w (w.alloc o) := by
  exact ⟨by simp, fun x hl hx => ⟨F.old w o x hl hx, fun off v hv => ((Upto.refl none' w).alloc o).cell hv (fun x => x)⟩⟩
theorem CelW.alloc (F : Fresh O H0 Ts) (h : CelW O a w) (o : Obj) : CelW O a (w.alloc o) := h.trans (CelW.alloc' F w o)
theorem Fresh.box4 (F : Fresh O H0 Ts) {T : TypeId} (hT : Ts T) {W w' : World} (hH : H0 ≤ W.heap.size) {c0 c1 c2 c3 : Value} (h : CelW O (W.alloc (.cells #[c0, c1, c2, c3] T)) w') :
    At O w' W.heap.size 0 c0 ∧ At O w' W.heap.size 1 c1 ∧ At O w' W.heap.size 2 c2 ∧ At O w' W.heap.size 3 c3 := by
  have hn := F.new W #[c0, c1, c2, c3] T hT hH
  have bb := (Cel.refl none' (W.alloc (.cells #[c0, c1, c2, c3] T))).box4 (fun x => x)
  exact ⟨h.at ⟨hn, bb.1⟩, h.at ⟨hn, bb.2.1⟩, h.at ⟨hn, bb.2.2.1⟩, h.at ⟨hn, bb.2.2.2⟩⟩
mutual
theorem Rep.carryW (h : CelW O w w') : ∀ (d : Dat) (cs : List Value), Rep (O w) w d cs → Rep (O w') w' d cs
  | .int _ _, _, r => by simpa only [Rep] using r
  | .bool _, _, r => by simpa only [Rep] using r
  | .str _, _, r => by simpa only [Rep] using r
  | .st fs, cs, r => by simp only [Rep] at r ⊢; exact RepF.carryW h fs cs r
  | .seq wd xs, cs, r => by
      simp only [Rep] at r ⊢
      obtain ⟨a, cap, h1, h2, h3⟩ := r
      exact ⟨a, cap, h1, h2, RepE.carryW h wd xs a 0 h3⟩
theorem RepF.carryW (h : CelW O w w') : ∀ (ds : List Dat) (cs : List Value), RepF (O w) w ds cs → RepF (O w') w' ds cs
  | [], _, r => by simpa only [RepF] using r
  | d :: ds, cs, r => by
      simp only [RepF] at r ⊢
      obtain ⟨c1, c2, h1, h2, h3⟩ := r
      exact ⟨c1, c2, h1, Rep.carryW h d c1 h2, RepF.carryW h ds c2 h3⟩
theorem RepE.carryW (h : CelW O w w') (wd : Nat) : ∀ (ds : List Dat) (a : Option Addr) (j : Nat), RepE (O w) w wd ds a j → RepE (O w') w' wd ds a j
  | [], _, _, _ => by simp only [RepE]
  | d :: ds, a, j, r => by
      simp only [RepE] at r ⊢
      obtain ⟨⟨b, o, cs, h1, hb, h2, h3, h4, h5⟩, h6⟩ := r
      exact ⟨⟨b, o, cs, h1, Nat.lt_of_lt_of_le hb h.1, (h.2 b hb h2).1, h3, fun i v hv => (h.2 b hb h2).2 _ v (h4 i v hv), Rep.carryW h d cs h5⟩, RepE.carryW h wd ds a _ h6⟩
end
/-- Blocks that no world turns into others. -/
theorem CelW.of (O : Nat → Prop) (h : Cel O w w') : CelW (fun _ => O) w w' := ⟨h.1, fun b _ hn => ⟨hn, fun o v hv => h.2 b o v hn hv⟩⟩
theorem Fresh.of (O : Nat → Prop) (Ts : TypeId → Prop) (h : ∀ b, H0 ≤ b → ¬ O b) : Fresh (fun _ => O) H0 Ts := ⟨fun _ _ _ _ hb => h _ hb, fun _ _ _ _ h => h⟩
theorem RepE.celW {wd : Nat} {ds : List Dat} {x : Option Addr} {j : Nat} (r : RepE (O w) w wd ds x j) (h : CelW O w w') : RepE (O w') w' wd ds x j := RepE.carryW h wd ds x j r
end
end Go.LF
namespace Go.LF
namespace Tm
mutual
/-- The least number that is greater than all free variables. -/
def scope : Tm → Int
  | mk k _ i l => scopes k 0 (if k == 5 then i + 1 else 0) l
def scopes (k : Int) (j : Nat) (acc : Int) : List Tm → Int
  | [] => acc
  | t :: ts => scopes k (j + 1) (max acc (scope t - under k j)) ts
end
mutual
/-- A free variable occurs. -/
def occ : Tm → Int → Bool
  | mk k _ i l, v => (k == 5 && i == v) || occs k 0 l v
def occs (k : Int) (j : Nat) : List Tm → Int → Bool
  | [], _ => false
  | t :: ts, v => occ t (v + under k j) || occs k (j + 1) ts v
end
mutual
def addMetas (acc : List Int) : Tm → List Int
  | mk k _ i l => addMetasL (if k == 6 && !acc.contains i then acc ++ [i] else acc) l
def addMetasL (acc : List Int) : List Tm → List Int
  | [] => acc
  | t :: ts => addMetasL (addMetas acc t) ts
end
mutual
def addConsts (acc : List (List UInt8)) : Tm → List (List UInt8)
  | mk k n _ l => addConstsL (if k == 4 && !acc.contains n then acc ++ [n] else acc) l
def addConstsL (acc : List (List UInt8)) : List Tm → List (List UInt8)
  | [] => acc
  | t :: ts => addConstsL (addConsts acc t) ts
end
/-- The metavariables of a term. -/
def addMetas0 (t : Tm) : List Int := addMetas [] t
/-- The constants of a term. -/
def addConsts0 (t : Tm) : List (List UInt8) := addConsts [] t
def scopeStep (acc : Int) (x : Nd0) : Int := if x.k == 5 then max acc (x.i - x.b + 1) else acc
def metaStep (acc : List Int) (x : Nd0) : List Int := if x.k == 6 && !acc.contains x.i then acc ++ [x.i] else acc
def constStep (acc : List (List UInt8)) (x : Nd0) : List (List UInt8) := if x.k == 4 && !acc.contains x.n then acc ++ [x.n] else acc
def occStep (v : Int) (x : Nd0) : Bool := x.k == 5 && x.i - x.b == v
theorem scopes_ge (k : Int) (l : List Tm) : ∀ (j : Nat) (acc : Int), acc ≤ scopes k j acc l := by
  induction l with
  | nil => intro j acc; simp [scopes]
  | cons t ts ih => intro j acc; rw [scopes]; have := ih (j + 1) (max acc (scope t - under k j)); omega
theorem scope_nonneg (t : Tm) (h : t.kind == 5 → 0 ≤ t.index) : 0 ≤ scope t := by
  cases t with
  | mk k n i l =>
    rw [scope]
    have := scopes_ge k l 0 (if (k == 5) = true then i + 1 else 0)
    by_cases hk : (k == 5) = true
    · rw [if_pos hk] at this ⊢; have := h hk; simp at this; omega
    · rw [if_neg hk] at this ⊢; omega
theorem scopes_max (k : Int) (l : List Tm) : ∀ (j : Nat) (a b : Int), scopes k j (max a b) l = max a (scopes k j b l) := by
  induction l with
  | nil => intro j a b; simp [scopes]
  | cons t ts ih => intro j a b; simp only [scopes]; rw [show max (max a b) (t.scope - under k j) = max a (max b (t.scope - under k j)) by omega, ih]
theorem scope_fold (t : Tm) : ∀ (b acc : Int), 0 ≤ b → 0 ≤ acc → (nodes b t).foldl scopeStep acc = max acc (scope t - b) := by
  induction t using ind with
  | h k n i l ih =>
    intro b acc hb ha
    rw [nodes_mk, List.foldl_cons, scope]
    have key : ∀ (l' : List Tm), (∀ t ∈ l', ∀ (b acc : Int), 0 ≤ b → 0 ≤ acc → (nodes b t).foldl scopeStep acc = max acc (scope t - b)) →
        ∀ (j : Nat) (a c : Int), 0 ≤ a → a = max a (c - b) → (nodesA b k j l').foldl scopeStep a = max a (scopes k j c l' - b) := by
      intro l'
      induction l' with
      | nil => intro _ j a c h0 h1; simp only [nodesA, List.foldl_nil, scopes]; exact h1
      | cons t ts ih2 =>
        intro h j a c h0 h1
        have hu := under_le k j
        simp only [nodesA, List.foldl_append, scopes]
        rw [h t (by simp) (b + under k j) a (by omega) h0, ih2 (fun t ht => h t (by simp [ht])) (j + 1) _ (max c (t.scope - under k j)) (by omega) (by omega)]
        have := scopes_ge k ts (j + 1) (max c (t.scope - under k j))
        omega
    by_cases hk : (k == 5) = true
    · simp only [scopeStep, hk, if_true]
      rw [key l ih 0 (max acc (i - b + 1)) (i + 1) (by omega) (by omega)]
      have := scopes_ge k l 0 (i + 1)
      omega
    · simp only [scopeStep, if_neg hk]
      exact key l ih 0 acc 0 (by omega) (by omega)
theorem scope_nodes (t : Tm) (h : t.kind == 5 → 0 ≤ t.index) : (nodes 0 t).foldl scopeStep 0 = scope t := by
  rw [scope_fold t 0 0 (by omega) (by omega)]
  have := scope_nonneg t h
  omega
theorem metas_fold (t : Tm) : ∀ (b : Int) (acc : List Int), (nodes b t).foldl metaStep acc = addMetas acc t := by
  induction t using ind with
  | h k n i l ih =>
    intro b acc
    rw [nodes_mk, List.foldl_cons, addMetas]
    have key : ∀ (l' : List Tm), (∀ t ∈ l', ∀ (b : Int) (acc : List Int), (nodes b t).foldl metaStep acc = addMetas acc t) → ∀ (j : Nat) (acc : List Int), (nodesA b k j l').foldl metaStep acc = addMetasL acc l' := by
      intro l'
      induction l' with
      | nil => intro _ j acc; simp [nodesA, addMetasL]
      | cons t ts ih2 => intro h j acc; simp only [nodesA, List.foldl_append, addMetasL]; rw [h t (by simp), ih2 (fun t ht => h t (by simp [ht]))]
    exact key l ih 0 _
theorem consts_fold (t : Tm) : ∀ (b : Int) (acc : List (List UInt8)), (nodes b t).foldl constStep acc = addConsts acc t := by
  induction t using ind with
  | h k n i l ih =>
    intro b acc
    rw [nodes_mk, List.foldl_cons, addConsts]
    have key : ∀ (l' : List Tm), (∀ t ∈ l', ∀ (b : Int) (acc : List (List UInt8)), (nodes b t).foldl constStep acc = addConsts acc t) → ∀ (j : Nat) (acc : List (List UInt8)), (nodesA b k j l').foldl constStep acc = addConstsL acc l' := by
      intro l'
      induction l' with
      | nil => intro _ j acc; simp [nodesA, addConstsL]
      | cons t ts ih2 => intro h j acc; simp only [nodesA, List.foldl_append, addConstsL]; rw [h t (by simp), ih2 (fun t ht => h t (by simp [ht]))]
    exact key l ih 0 _
theorem occ_any (t : Tm) : ∀ (b v : Int), (nodes b t).any (occStep v) = occ t (v + b) := by
  induction t using ind with
  | h k n i l ih =>
    intro b v
    rw [nodes_mk, List.any_cons, occ]
    have key : ∀ (l' : List Tm), (∀ t ∈ l', ∀ (b v : Int), (nodes b t).any (occStep v) = occ t (v + b)) → ∀ (j : Nat), (nodesA b k j l').any (occStep v) = occs k j l' (v + b) := by
      intro l'
      induction l' with
      | nil => intro _ j; simp [nodesA, occs]
      | cons t ts ih2 => intro h j; simp only [nodesA, List.any_append, occs]; rw [h t (by simp), ih2 (fun t ht => h t (by simp [ht]))]; rw [Int.add_assoc]
    rw [key l ih 0]
    congr 1
    simp only [occStep]
    congr 1
    rw [Bool.eq_iff_iff]
    simp only [beq_iff_eq]
    omega
/-- The numbers in a node are those of a well-formed term. -/
def Nd0.ok (x : Nd0) : Prop := ((x.k == 5) = true → 0 ≤ x.i ∧ x.i ≤ 1048576) ∧ ((x.k == 6) = true → 0 ≤ x.i ∧ x.i < 2048) ∧ ((x.k == 4) = true → x.n.length ≤ 64)
theorem isName_len (n : List UInt8) (h : isName n = true) : n.length ≤ 64 := by
  simp [isName] at h; omega
theorem nodesA_all {p : Nd0 → Prop} {b k : Int} {l : List Tm} (h : ∀ t ∈ l, ∀ b, ∀ x ∈ nodes b t, p x) : ∀ j, ∀ x ∈ nodesA b k j l, p x := by
  induction l with
  | nil => intro j x hx; simp [nodesA] at hx
  | cons t ts ih =>
    intro j x hx
    simp only [nodesA, List.mem_append] at hx
    rcases hx with hx | hx
    · exact h t (by simp) _ x hx
    · exact ih (fun t ht => h t (by simp [ht])) (j + 1) x hx
theorem obj_ok (t : Tm) : t.isObj = true → ∀ b, ∀ x ∈ nodes b t, x.ok := by
  induction t using ind with
  | h k n i l ih =>
    intro h b x hx
    have hall : allObj l = true → ∀ t ∈ l, t.isObj = true := by rw [allObj_iff, List.all_eq_true]; exact fun x => x
    rw [isObj] at h
    rw [nodes_mk] at hx
    have hA : allObj l = true := by split at h <;> (try split at h) <;> (try split at h) <;> (try split at h) <;> simp_all
    rcases List.mem_cons.1 hx with rfl | hx
    · refine ⟨fun e => ?_, fun e => ?_, fun e => ?_⟩ <;> simp at e <;> subst e <;> simp at h
      · simp; omega
      · simp; omega
      · simpa using isName_len n h.1.1
    · exact nodesA_all (fun t ht b x hx => ih t ht (hall hA t ht) b x hx) 0 x hx
theorem typ_ok (t : Tm) : t.isTyp = true → ∀ b, ∀ x ∈ nodes b t, x.ok := by
  induction t using ind with
  | h k n i l ih =>
    intro h b x hx
    rw [isTyp] at h
    rcases Bool.or_eq_true_iff.1 h with h | h
    · refine obj_ok _ ?_ b x hx
      simp [isAtom] at h
      rw [isObj]
      simp [h]
    · have hall : allTyp l = true → ∀ t ∈ l, t.isTyp = true := by rw [allTyp_iff, List.all_eq_true]; exact fun x => x
      simp at h
      rw [nodes_mk] at hx
      rcases List.mem_cons.1 hx with rfl | hx
      · refine ⟨fun e => ?_, fun e => ?_, fun e => ?_⟩ <;> simp [h.1] at e
      · exact nodesA_all (fun t ht b x hx => ih t ht (hall h.2.2 t ht) b x hx) 0 x hx
theorem knd_ok (t : Tm) : t.isKnd = true → ∀ b, ∀ x ∈ nodes b t, x.ok := by
  induction t using ind with
  | h k n i l ih =>
    intro h b x hx
    rw [nodes_mk] at hx
    match l, h, ih, hx with
    | [], h, ih, hx =>
      simp [isKnd] at h
      simp [nodesA] at hx
      subst hx
      refine ⟨fun e => ?_, fun e => ?_, fun e => ?_⟩ <;> simp [h.1] at e
    | [a], h, ih, hx => simp [isKnd] at h
    | a :: c :: d :: l, h, ih, hx => simp [isKnd] at h
    | [a, c], h, ih, hx =>
      simp [isKnd] at h
      rcases List.mem_cons.1 hx with rfl | hx
      · refine ⟨fun e => ?_, fun e => ?_, fun e => ?_⟩ <;> simp [h.1] at e
      · simp only [nodesA, List.append_nil, List.mem_append] at hx
        rcases hx with hx | hx
        · exact typ_ok a h.2.2.1 _ x hx
        · exact ih c (by simp) h.2.2.2 _ x hx
/-- What a well-formed term is, sizes aside: an object, a type or a kind. -/
theorem wf_ok (t : Tm) (h : t.wf = 0) : (∀ b, ∀ x ∈ nodes b t, x.ok) ∧ t.size ≤ 4096 ∧ t.depth ≤ 128 := by
  unfold wf at h
  by_cases h1 : (!t.isObj && !t.isTyp && !t.isKnd) = true
  · rw [if_pos h1] at h; omega
  rw [if_neg h1] at h
  by_cases h2 : (!t.small) = true
  · rw [if_pos h2] at h; omega
  have h2' : t.small = true := by simpa using h2
  unfold small at h2'
  simp at h2' h1
  refine ⟨?_, h2'⟩
  by_cases ho : t.isObj = true
  · exact obj_ok t ho
  by_cases hy : t.isTyp = true
  · exact typ_ok t hy
  · exact knd_ok t (h1 (by simpa using ho) (by simpa using hy))
theorem nodes_b (t : Tm) : ∀ b, ∀ x ∈ nodes b t, b ≤ x.b ∧ x.b < b + t.size := by
  induction t using ind with
  | h k n i l ih =>
    intro b x hx
    rw [nodes_mk] at hx
    rw [size_mk]
    rcases List.mem_cons.1 hx with rfl | hx
    · simp; omega
    · have key : ∀ (l' : List Tm), (∀ t ∈ l', t ∈ l) → ∀ j, ∀ x ∈ nodesA b k j l', b ≤ x.b ∧ x.b < b + (sizes l + 1) := by
        intro l'
        induction l' with
        | nil => intro _ j x hx; simp [nodesA] at hx
        | cons t ts ih2 =>
          intro hs j x hx
          simp only [nodesA, List.mem_append] at hx
          rcases hx with hx | hx
          · have := ih t (hs t (by simp)) _ x hx
            have := under_le k j
            have := size_le_sizes (hs t (by simp))
            omega
          · exact ih2 (fun t ht => hs t (by simp [ht])) _ x hx
      exact key l (fun _ h => h) 0 x hx
end Tm
end Go.LF
namespace Go.LF
open Go.RowKit Go.MapKept
/-- The map at block m has just these keys, each with true. -/
def Seen (W : World) (m : Nat) (ks : List Value) : Prop := ∃ es clock, W.heap[m]? = some (.map es clock) ∧ es.toList.map (·.key) = ks ∧ ∀ e ∈ es.toList, e.val = .bool true
variable {P : Program} {W : World} {mt kt bt : TypeId} {d : TypeDesc} {m : Nat} {ks : List Value} {key : Value}
theorem Seen.made (W : World) : Seen (W.alloc (.map #[] 0)) W.heap.size [] := ⟨#[], 0, heap_alloc_new W _, rfl, by simp⟩
theorem Seen.kept {W' : World} {row : Option Nat} (h : Seen W m ks) (hg : W.grownBy W' row) (hr : some m ≠ row) : Seen W' m ks := by
  obtain ⟨es, clock, h1, h2, h3⟩ := h
  exact ⟨es, clock, (hg.block m (Array.getElem?_eq_some_iff.1 h1).1 hr).trans h1, h2, h3⟩
theorem Seen.lookup (hm : P.underlying mt = some (.map kt bt)) (hk : P.underlying kt = some d) (hb : (zeroValue bt).run P W = .ok (.bool false) W) (hS : Seen W m ks)
    (hks : ∀ k ∈ ks, IsKey d k) (hkey : IsKey d key) (b : Bool) (hbk : b = true ↔ key ∈ ks) : (Instr.lookup mt (.map (some m)) key false).run P W = .ok (.bool b) W := by
  obtain ⟨es, clock, h1, h2, h3⟩ := hS
  have hes : ∀ x ∈ es.toList, IsKey d x.key := fun x hx => hks _ (by rw [← h2]; exact List.mem_map_of_mem hx)
  rcases findNow_spec hkey es.toList 0 hes with ⟨f1, f2⟩ | ⟨j, e, f1, f2, f3⟩
  · have hbf : b = false := by
      rw [← Bool.not_eq_true, hbk, ← h2]
      intro h
      obtain ⟨x, hx, hxk⟩ := List.mem_map.1 h
      exact f2 x hx hxk
    subst hbf
    simp [Instr.lookup, run_underlying hm, MapKept.run_getObj_map h1, run_checkKey hk hkey, run_findKey hk f1, hb, Result.andThen]
  · have he : e ∈ es.toList := List.mem_of_getElem? f2
    have hbt : b = true := by
      rw [hbk, ← h2]
      exact List.mem_map.2 ⟨e, he, f3⟩
    subst hbt
    simp [Instr.lookup, run_underlying hm, MapKept.run_getObj_map h1, run_checkKey hk hkey, run_findKey hk f1, h3 e he, Result.andThen]
theorem Seen.store (hm : P.underlying mt = some (.map kt bt)) (hk : P.underlying kt = some d) (hS : Seen W m ks)
    (hks : ∀ k ∈ ks, IsKey d k) (hkey : IsKey d key) (hn : key ∉ ks) : ∃ W', (Instr.mapUpdate mt (.map (some m)) key (.bool true)).run P W = .ok () W' ∧ Seen W' m (ks ++ [key]) ∧ W.grownBy W' (some m) ∧ W.heap.size ≤ W'.heap.size := by
  obtain ⟨es, clock, h1, h2, h3⟩ := hS
  have hes : ∀ x ∈ es.toList, IsKey d x.key := fun x hx => hks _ (by rw [← h2]; exact List.mem_map_of_mem hx)
  rcases findNow_spec hkey es.toList 0 hes with ⟨f1, f2⟩ | ⟨j, e, f1, f2, f3⟩
  · refine ⟨{ W with heap := W.heap.setIfInBounds m (.map (es.push { key, val := .bool true, born := clock }) (clock + 1)) }, ?_, ⟨_, _, (heap_set h1).1, ?_, ?_⟩, ⟨rfl, rfl, rfl, by simp, fun k _ hne => ?_⟩, by simp⟩
    · simp [Instr.mapUpdate, run_underlying hm, MapKept.run_getObj_map h1, run_checkKey hk hkey, run_findKey hk f1, run_setObj_map _ h1, Result.andThen]
    · simp [h2]
    · intro x hx
      simp only [Array.toList_push, List.mem_append, List.mem_singleton] at hx
      rcases hx with hx | rfl
      · exact h3 x hx
      · rfl
    · exact (heap_set h1).2 k (fun e => hne (by rw [e]))
  · exact absurd (by rw [← h2]; exact List.mem_map.2 ⟨e, List.mem_of_getElem? f2, f3⟩) hn
end Go.LF
namespace Go.LF
namespace Tm
mutual
/-- The variable of which a term, below n Lams that have been taken off, is the eta-long form. -/
def vr (n : Int) : Tm → Option Int
  | mk k _ i l => if k == 3 then vr0 n l else if k == 5 && (decide (n ≤ i) && ((l.length : Int) == n && vrs (n - 1) l)) then some (i - n) else none
def vr0 (n : Int) : List Tm → Option Int
  | [] => none
  | t :: _ => vr (n + 1) t
/-- These are the eta-long forms of the variables e, e - 1 .. -/
def vrs (e : Int) : List Tm → Bool
  | [] => true
  | t :: ts => vr 0 t == some e && vrs (e - 1) ts
end
theorem vr_mk (n k nm i l) : vr n (mk k nm i l) = if k == 3 then vr0 n l else if k == 5 && (decide (n ≤ i) && ((l.length : Int) == n && vrs (n - 1) l)) then some (i - n) else none := by rw [vr]
/-- The variable of which a term is the eta-long form, if it is well formed. -/
def vrw (t : Tm) : Option Int := if t.wf == 0 then vr 0 t else none
theorem vrs_drop (e : Int) (l : List Tm) (j : Nat) (h : j < l.length) : vrs (e - j) (l.drop j) = (vr 0 l[j] == some (e - j) && vrs (e - (j + 1 : Nat)) (l.drop (j + 1))) := by
  rw [List.drop_eq_getElem_cons h, vrs]
  congr 2
  omega
theorem vr_nonneg (t : Tm) : ∀ (n v : Int), vr n t = some v → 0 ≤ v := by
  induction t using ind with
  | h k nm i l ih =>
    intro n v h
    rw [vr_mk] at h
    split at h
    · cases l with
      | nil => simp [vr0] at h
      | cons t ts => rw [vr0] at h; exact ih t (by simp) _ _ h
    · split at h
      · rename_i h2
        simp at h2 h
        omega
      · simp at h
/-- The index of the head is bounded. -/
theorem vr_le (t : Tm) : ∀ (n v : Int), 0 ≤ n → t.isObj = true → vr n t = some v → v ≤ 1048576 := by
  induction t using ind with
  | h k nm i l ih =>
    intro n v hn ho h
    rw [vr_mk] at h
    rw [isObj] at ho
    split at h
    · rename_i hk
      simp at hk
      subst hk
      simp at ho
      cases l with
      | nil => simp [vr0] at h
      | cons t ts => rw [vr0] at h; exact ih t (by simp) _ _ (by omega) (by have := ho.2; rw [allObj] at this; simp at this; exact this.1) h
    · split at h
      · rename_i h2
        simp at h2 h
        rw [if_neg (by omega), if_neg (by omega), if_pos h2.1] at ho
        simp at ho
        omega
      · simp at h
theorem wf_lam {t : Tm} (hw : t.wf = 0) : t.kind = 3 ∨ t.kind = 5 → t.isObj = true := by
  intro hk
  cases ho : t.isObj with
  | true => rfl
  | false =>
    cases t with
    | mk k n i l =>
      simp only [kind_mk] at hk
      have ht : (mk k n i l).isTyp = false := by rw [isTyp, isAtom]; rcases hk with rfl | rfl <;> simp
      have hn : (mk k n i l).isKnd = false := by
        unfold isKnd
        split
        · rename_i e; cases e; rcases hk with rfl | rfl <;> simp
        · rename_i e; cases e; rcases hk with rfl | rfl <;> simp
      unfold wf at hw
      rw [ho, ht, hn] at hw
      simp at hw
theorem vrw_obj {t : Tm} {v : Int} (h : t.vrw = some v) : t.isObj = true ∧ vr 0 t = some v := by
  unfold vrw at h
  split at h
  · rename_i hw
    refine ⟨wf_lam (by simpa using hw) ?_, h⟩
    cases t with
    | mk k n i l =>
      rw [vr_mk] at h
      by_cases h3 : k = 3
      · exact .inl h3
      · rw [if_neg (by simpa using h3)] at h
        split at h
        · rename_i h5; simp at h5; exact .inr h5.1
        · simp at h
  · simp at h
theorem obj_args {k i : Int} {n : List UInt8} {l : List Tm} (h : (mk k n i l).isObj = true) : (∀ t ∈ l, t.isObj = true) ∧ (k = 3 → l.length = 1) := by
  rw [isObj] at h
  have key : allObj l = true → ∀ t ∈ l, t.isObj = true := fun h => by rw [allObj_iff, List.all_eq_true] at h; exact h
  split at h
  · simp [bound] at h; exact ⟨key h.2, fun _ => h.1.1.2⟩
  · rename_i h3
    refine ⟨?_, fun e => absurd e h3⟩
    split at h
    · simp at h; exact key h.2
    · split at h
      · simp at h; exact key h.2
      · split at h
        · simp at h; exact key h.2
        · cases h
end Tm
end Go.LF
namespace Go.LF
/-- The kind of a free variable. -/
def kof (ks : List Int) (i : Int) : Int := if decide (0 ≤ i) && (decide (i < ks.length) && (ks.getD i.toNat 0 == 1 || ks.getD i.toNat 0 == 2)) then ks.getD i.toNat 0 else 0
/-- The kind of a variable below d binders. -/
def kd (ks : List Int) (d i : Int) : Int := if i < d then 2 else kof ks (i - d)
/-- An occurrence of a flexible variable. -/
def flx (ks : List Int) (d k i : Int) : Bool := k == 5 && (decide (d ≤ i) && kof ks (i - d) == 1)
/-- Different local variables. -/
def spn (ks : List Int) (d : Int) (seen : List Int) : List Tm → Bool
  | [] => true
  | a :: as' => match a.vrw with
    | none => false
    | some v => !seen.contains v && (kd ks d v == 2 && spn ks d (seen ++ [v]) as')
/-- An occurrence: of which variable, whether in the arguments of a flexible one, whether its arguments are different local variables. -/
structure Ev where
  i : Int
  ins : Bool
  pat : Bool
def Ev.strict (e : Ev) : Bool := !e.ins && e.pat
namespace Tm
mutual
def evs (ks : List Int) (d : Int) (ins : Bool) : Tm → List Ev
  | mk k _ i l => (if flx ks d k i then [⟨i - d, ins, spn ks d [] l⟩] else []) ++ evsA ks d k 0 (ins || flx ks d k i) l
def evsA (ks : List Int) (d k : Int) (j : Nat) (ins : Bool) : List Tm → List Ev
  | [] => []
  | t :: ts => evs ks (d + under k j) ins t ++ evsA ks d k (j + 1) ins ts
end
theorem evs_mk (ks d ins k n i l) : evs ks d ins (mk k n i l) = (if flx ks d k i then [⟨i - d, ins, spn ks d [] l⟩] else []) ++ evsA ks d k 0 (ins || flx ks d k i) l := by rw [evs]
theorem evsA_append (ks d k ins) (l m : List Tm) (j : Nat) : evsA ks d k j ins (l ++ m) = evsA ks d k j ins l ++ evsA ks d k (j + l.length) ins m := by
  induction l generalizing j with
  | nil => simp [evsA]
  | cons t ts ih => simp [evsA, ih (j + 1), Nat.add_assoc, Nat.add_comm 1 ts.length]
theorem evsA_take_succ (ks d k ins) (l : List Tm) (j : Nat) (h : j < l.length) : evsA ks d k 0 ins (l.take (j + 1)) = evsA ks d k 0 ins (l.take j) ++ evs ks (d + under k j) ins l[j] := by
  rw [List.take_succ_eq_append_getElem h, evsA_append]
  simp [evsA, Nat.min_eq_left (Nat.le_of_lt h)]
mutual
/-- The flexible variables that occur, or that occur strictly. -/
def mrk (ks : List Int) (st : Bool) (d : Int) : Tm → List Int
  | mk k _ i l => (if flx ks d k i && (!st || spn ks d [] l) then [i - d] else []) ++ (if flx ks d k i && st then [] else mrkA ks st d k 0 l)
def mrkA (ks : List Int) (st : Bool) (d k : Int) (j : Nat) : List Tm → List Int
  | [] => []
  | t :: ts => mrk ks st (d + under k j) t ++ mrkA ks st d k (j + 1) ts
end
theorem mrk_mk (ks st d k n i l) : mrk ks st d (mk k n i l) = (if flx ks d k i && (!st || spn ks d [] l) then [i - d] else []) ++ (if flx ks d k i && st then [] else mrkA ks st d k 0 l) := by rw [mrk]
theorem mrkA_append (ks st d k) (l m : List Tm) (j : Nat) : mrkA ks st d k j (l ++ m) = mrkA ks st d k j l ++ mrkA ks st d k (j + l.length) m := by
  induction l generalizing j with
  | nil => simp [mrkA]
  | cons t ts ih => simp [mrkA, ih (j + 1), Nat.add_assoc, Nat.add_comm 1 ts.length]
theorem mrkA_take_succ (ks st d k) (l : List Tm) (j : Nat) (h : j < l.length) : mrkA ks st d k 0 (l.take (j + 1)) = mrkA ks st d k 0 (l.take j) ++ mrk ks st (d + under k j) l[j] := by
  rw [List.take_succ_eq_append_getElem h, mrkA_append]
  simp [mrkA, Nat.min_eq_left (Nat.le_of_lt h)]
mutual
/-- The arguments of all flexible variables are different local variables. -/
def pats (ks : List Int) (d : Int) : Tm → Bool
  | mk k _ i l => !(flx ks d k i && !spn ks d [] l) && patsA ks d k 0 l
def patsA (ks : List Int) (d k : Int) (j : Nat) : List Tm → Bool
  | [] => true
  | t :: ts => pats ks (d + under k j) t && patsA ks d k (j + 1) ts
end
theorem pats_mk (ks d k n i l) : pats ks d (mk k n i l) = (!(flx ks d k i && !spn ks d [] l) && patsA ks d k 0 l) := by rw [pats]
theorem patsA_drop (ks d k) (l : List Tm) (j : Nat) (h : j < l.length) : patsA ks d k j (l.drop j) = (pats ks (d + under k j) l[j] && patsA ks d k (j + 1) (l.drop (j + 1))) := by
  rw [List.drop_eq_getElem_cons h, patsA]
theorem ins_true (t : Tm) : ∀ (ks : List Int) (d : Int), ∀ e ∈ evs ks d true t, e.ins = true := by
  induction t using ind with
  | h k n i l ih =>
    intro ks d e he
    rw [evs_mk, List.mem_append] at he
    rcases he with he | he
    · split at he
      · simp at he; rw [he]
      · simp at he
    · have key : ∀ (l' : List Tm), (∀ t ∈ l', ∀ (ks : List Int) (d : Int), ∀ e ∈ evs ks d true t, e.ins = true) → ∀ j, ∀ e ∈ evsA ks d k j true l', e.ins = true := by
        intro l'
        induction l' with
        | nil => intro _ j e he; simp [evsA] at he
        | cons t ts ih2 =>
          intro h j e he
          rw [evsA, List.mem_append] at he
          rcases he with he | he
          · exact h t (by simp) _ _ _ he
          · exact ih2 (fun t ht => h t (by simp [ht])) _ _ he
      exact key l ih 0 e he
theorem mrk_occ (t : Tm) : ∀ (ks : List Int) (d : Int) (ins : Bool), mrk ks false d t = (evs ks d ins t).map (·.i) := by
  induction t using ind with
  | h k n i l ih =>
    intro ks d ins
    have key : ∀ (l' : List Tm), (∀ t ∈ l', ∀ (ks : List Int) (d : Int) (ins : Bool), mrk ks false d t = (evs ks d ins t).map (·.i)) → ∀ j ins, mrkA ks false d k j l' = (evsA ks d k j ins l').map (·.i) := by
      intro l'
      induction l' with
      | nil => intro _ j ins; simp [evsA, mrkA]
      | cons t ts ih2 => intro h j ins; rw [evsA, mrkA, List.map_append, h t (by simp) _ _ ins, ih2 (fun t ht => h t (by simp [ht])) _ ins]
    rw [evs_mk, mrk_mk, List.map_append, ← key l ih 0]
    cases flx ks d k i <;> simp
theorem mrk_strict (t : Tm) : ∀ (ks : List Int) (d : Int), mrk ks true d t = ((evs ks d false t).filter Ev.strict).map (·.i) := by
  induction t using ind with
  | h k n i l ih =>
    intro ks d
    have key : ∀ (l' : List Tm), (∀ t ∈ l', ∀ (ks : List Int) (d : Int), mrk ks true d t = ((evs ks d false t).filter Ev.strict).map (·.i)) → ∀ j, mrkA ks true d k j l' = ((evsA ks d k j false l').filter Ev.strict).map (·.i) := by
      intro l'
      induction l' with
      | nil => intro _ j; simp [evsA, mrkA]
      | cons t ts ih2 => intro h j; rw [evsA, mrkA, List.filter_append, List.map_append, h t (by simp), ih2 (fun t ht => h t (by simp [ht]))]
    have none : ∀ (l' : List Tm) j, (evsA ks d k j true l').filter Ev.strict = [] := by
      intro l'
      induction l' with
      | nil => intro j; simp [evsA]
      | cons t ts ih2 =>
        intro j
        rw [evsA, List.filter_append, ih2, List.append_nil, List.filter_eq_nil_iff]
        intro e he
        rw [Ev.strict, ins_true t _ _ e he]
        simp
    rw [evs_mk, mrk_mk, List.filter_append, List.map_append]
    cases flx ks d k i
    · simp [key l ih 0]
    · simp only [Bool.or_true, none, Bool.and_true, Bool.not_true, Bool.false_or, Bool.true_and, if_true, List.map_nil, List.append_nil]
      cases hs : spn ks d [] l <;> simp [Ev.strict]
theorem pats_all (t : Tm) : ∀ (ks : List Int) (d : Int) (ins : Bool), pats ks d t = (evs ks d ins t).all (·.pat) := by
  induction t using ind with
  | h k n i l ih =>
    intro ks d ins
    have key : ∀ (l' : List Tm), (∀ t ∈ l', ∀ (ks : List Int) (d : Int) (ins : Bool), pats ks d t = (evs ks d ins t).all (·.pat)) → ∀ j ins, patsA ks d k j l' = (evsA ks d k j ins l').all (·.pat) := by
      intro l'
      induction l' with
      | nil => intro _ j ins; simp [evsA, patsA]
      | cons t ts ih2 => intro h j ins; rw [evsA, patsA, List.all_append, h t (by simp) _ _ ins, ih2 (fun t ht => h t (by simp [ht])) _ ins]
    rw [evs_mk, pats_mk, List.all_append, ← key l ih 0]
    cases flx ks d k i <;> simp
/-- An event's variable is one of the list, and flexible. -/
theorem evs_lt (t : Tm) : ∀ (ks : List Int) (d : Int) (ins : Bool), ∀ e ∈ evs ks d ins t, 0 ≤ e.i ∧ e.i < ks.length := by
  induction t using ind with
  | h k n i l ih =>
    intro ks d ins e he
    rw [evs_mk, List.mem_append] at he
    rcases he with he | he
    · split at he
      · rename_i hf
        simp at he
        subst he
        simp only [flx, kof] at hf
        split at hf
        · rename_i h2; simp only [Bool.and_eq_true, decide_eq_true_eq] at h2; exact ⟨h2.1, h2.2.1⟩
        · simp at hf
      · simp at he
    · have key : ∀ (l' : List Tm), (∀ t ∈ l', ∀ (ks : List Int) (d : Int) (ins : Bool), ∀ e ∈ evs ks d ins t, 0 ≤ e.i ∧ e.i < ks.length) → ∀ j ins, ∀ e ∈ evsA ks d k j ins l', 0 ≤ e.i ∧ e.i < ks.length := by
        intro l'
        induction l' with
        | nil => intro _ j ins e he; simp [evsA] at he
        | cons t ts ih2 =>
          intro h j ins e he
          rw [evsA, List.mem_append] at he
          rcases he with he | he
          · exact h t (by simp) _ _ _ _ he
          · exact ih2 (fun t ht => h t (by simp [ht])) _ _ _ he
      exact key l ih 0 _ e he
/-- No flexible variable occurs in the eta-long form of a local variable. -/
theorem evs_local (t : Tm) : t.isObj = true → ∀ (ks : List Int) (d : Int) (ins : Bool) (n v : Int), 0 ≤ d → 0 ≤ n → vr n t = some v → kd ks d v = 2 → evs ks (d + n) ins t = [] := by
  induction t using ind with
  | h k nm i l ih =>
    intro ho ks d ins n v hd hn h hk
    obtain ⟨ho1, ho2⟩ := obj_args ho
    rw [vr_mk] at h
    rw [evs_mk]
    split at h
    · rename_i h3
      have h3' : k = 3 := by simpa using h3
      cases l with
      | nil => simp [vr0] at h
      | cons t ts =>
        have hts : ts = [] := by have := ho2 h3'; simp at this; exact this
        subst hts
        subst h3'
        rw [vr0] at h
        have hnf : flx ks (d + n) 3 i = false := by simp [flx]
        have h1 := ih t (by simp) (ho1 t (by simp)) ks d ins (n + 1) v hd (by omega) h hk
        rw [hnf, if_neg (by simp), List.nil_append, Bool.or_false, evsA, evsA, List.append_nil]
        have hu : under 3 0 = 1 := rfl
        rw [hu, Int.add_assoc]
        exact h1
    · split at h
      · rename_i h2
        simp only [Bool.and_eq_true, beq_iff_eq, decide_eq_true_eq] at h2
        obtain ⟨h5, h6, h7, h8⟩ := h2
        have hi : i = n + v := by simp at h; omega
        have hnf : flx ks (d + n) k i = false := by
          unfold kd at hk
          unfold flx
          split at hk
          · have : ¬ d + n ≤ i := by omega
            simp [this]
          · have : i - (d + n) = v - d := by omega
            rw [this, hk]
            simp
        rw [hnf, if_neg (by simp), List.nil_append, Bool.or_false]
        have key : ∀ (l' : List Tm), (∀ t ∈ l', t.isObj = true) → (∀ t ∈ l', t.isObj = true → ∀ (ks : List Int) (d : Int) (ins : Bool) (n v : Int), 0 ≤ d → 0 ≤ n → vr n t = some v → kd ks d v = 2 → evs ks (d + n) ins t = []) → ∀ (j : Nat) (e : Int), e < n → vrs e l' = true → evsA ks (d + n) k j ins l' = [] := by
          intro l'
          induction l' with
          | nil => intro _ _ j e _ _; simp [evsA]
          | cons t ts ih2 =>
            intro hb h j e he hv
            rw [vrs, Bool.and_eq_true, beq_iff_eq] at hv
            have hu : under k j = 0 := by unfold under; rw [if_neg (by omega)]
            rw [evsA, hu, ih2 (fun t ht => hb t (by simp [ht])) (fun t ht => h t (by simp [ht])) (j + 1) (e - 1) (by omega) hv.2, List.append_nil]
            have := h t (by simp) (hb t (by simp)) ks (d + n) ins 0 e (by omega) (by omega) hv.1 (by unfold kd; rw [if_pos (by omega)])
            exact this
        exact key l ho1 ih 0 (n - 1) (by omega) h8
      · simp at h
/-- No flexible variable occurs in different local variables. -/
theorem evs_spine (ks : List Int) (d : Int) (hd : 0 ≤ d) (ins : Bool) : ∀ (l : List Tm) (seen : List Int) (j : Nat), spn ks d seen l = true → evsA ks d 5 j ins l = [] := by
  intro l
  induction l with
  | nil => intro seen j _; simp [evsA]
  | cons t ts ih =>
    intro seen j h
    rw [spn] at h
    split at h
    · cases h
    · rename_i v hv
      simp only [Bool.and_eq_true, beq_iff_eq] at h
      obtain ⟨ho, hv0⟩ := vrw_obj hv
      have hu : under 5 j = 0 := by unfold under; rw [if_neg (by omega)]
      rw [evsA, hu, ih _ (j + 1) h.2.2, List.append_nil]
      exact evs_local t ho ks d ins 0 v hd (by omega) hv0 h.2.1
/-- Where all spines are patterns each occurrence is strict. -/
theorem evs_implies (t : Tm) : ∀ (ks : List Int) (d : Int), 0 ≤ d → (evs ks d false t).all (·.pat) = true → ∀ e ∈ evs ks d false t, e.strict = true := by
  induction t using ind with
  | h k n i l ih =>
    intro ks d hd ha e he
    rw [evs_mk] at ha he
    cases hf : flx ks d k i with
    | true =>
      rw [hf, if_pos rfl, Bool.or_true, List.all_append, Bool.and_eq_true] at ha
      rw [hf, if_pos rfl, Bool.or_true] at he
      have hp : spn ks d [] l = true := by simpa using ha.1
      have hk : k = 5 := by simp [flx] at hf; exact hf.1
      subst hk
      rw [evs_spine ks d hd true l [] 0 hp, List.append_nil] at he
      simp at he
      rw [he, Ev.strict]
      simp [hp]
    | false =>
      rw [hf] at ha he
      simp only [Bool.false_eq_true, if_false, List.nil_append, Bool.or_false] at ha he
      have key : ∀ (l' : List Tm), (∀ t ∈ l', ∀ (ks : List Int) (d : Int), 0 ≤ d → (evs ks d false t).all (·.pat) = true → ∀ e ∈ evs ks d false t, e.strict = true) → ∀ j, (evsA ks d k j false l').all (·.pat) = true → ∀ e ∈ evsA ks d k j false l', e.strict = true := by
        intro l'
        induction l' with
        | nil => intro _ j _ e he; simp [evsA] at he
        | cons t ts ih2 =>
          intro h j ha e he
          have hu := under_le k j
          rw [evsA, List.all_append, Bool.and_eq_true] at ha
          rw [evsA, List.mem_append] at he
          rcases he with he | he
          · exact h t (by simp) ks _ (by omega) ha.1 e he
          · exact ih2 (fun t ht => h t (by simp [ht])) _ ha.2 e he
      exact key l ih 0 ha e he
end Tm
/-- Marks. -/
def marks (l : List Bool) (is : List Int) : List Bool := is.foldl (fun l i => l.set i.toNat true) l
theorem marks_append (l : List Bool) (a b : List Int) : marks l (a ++ b) = marks (marks l a) b := by simp [marks]
theorem marks_length (is : List Int) : ∀ (l : List Bool), (marks l is).length = l.length := by
  induction is with
  | nil => intro l; rfl
  | cons i is ih => intro l; show (marks (l.set i.toNat true) is).length = _; rw [ih]; simp
theorem marks_get (is : List Int) : ∀ (l : List Bool) (j : Nat), (∀ i ∈ is, 0 ≤ i) → j < l.length → (marks l is).getD j false = (l.getD j false || is.contains (j : Int)) := by
  induction is with
  | nil => intro l j _ _; simp [marks]
  | cons i is ih =>
    intro l j hi hj
    show (marks (l.set i.toNat true) is).getD j false = _
    rw [ih _ j (fun x hx => hi x (by simp [hx])) (by simpa using hj)]
    have h0 := hi i (by simp)
    rw [List.contains_cons]
    by_cases e : i.toNat = j
    · subst e
      have : ((i.toNat : Int) == i) = true := by simp; omega
      rw [this]
      simp [List.getD, hj]
    · have : ((j : Int) == i) = false := by simp; omega
      rw [this]
      simp [List.getD, e]
/-- What Strict's closure does. -/
def noteS (l : List Bool) (e : Ev) : List Bool := l.set e.i.toNat (l.getD e.i.toNat false || (!e.ins && e.pat))
theorem noteS_fold (es : List Ev) : ∀ (l : List Bool), es.foldl noteS l = marks l ((es.filter Ev.strict).map (·.i)) := by
  induction es with
  | nil => intro l; rfl
  | cons e es ih =>
    intro l
    rw [List.foldl_cons, ih]
    cases hs : Ev.strict e with
    | true =>
      rw [List.filter_cons_of_pos hs]
      unfold Ev.strict at hs
      have : noteS l e = l.set e.i.toNat true := by unfold noteS; rw [hs, Bool.or_true]
      rw [this]
      rfl
    | false =>
      rw [List.filter_cons_of_neg (by simp [hs])]
      unfold Ev.strict at hs
      have : noteS l e = l := by
        unfold noteS
        rw [hs, Bool.or_false]
        apply List.ext_getElem?
        intro j
        rw [List.getElem?_set]
        by_cases e1 : e.i.toNat = j
        · subst e1
          by_cases e2 : e.i.toNat < l.length
          · simp [e2]
          · simp [e2]
        · simp [e1]
      rw [this]
/-- What Occur's closure does. -/
def noteO (l : List Bool) (e : Ev) : List Bool := l.set e.i.toNat true
theorem noteO_fold (es : List Ev) : ∀ (l : List Bool), es.foldl noteO l = marks l (es.map (·.i)) := by
  induction es with
  | nil => intro l; rfl
  | cons e es ih => intro l; rw [List.foldl_cons, ih]; rfl
/-- A variable is known. -/
def kn (known : List Bool) (i : Int) : Bool := decide (i < known.length) && known.getD i.toNat false
/-- What the program's functions compute. -/
def occurV (t : Tm) (ks : List Int) : List Bool := marks (List.replicate ks.length false) (if t.wf == 0 then (Tm.evs ks 0 false t).map (·.i) else [])
def strictV (t : Tm) (ks : List Int) : List Bool := marks (List.replicate ks.length false) (if t.wf == 0 then ((Tm.evs ks 0 false t).filter Ev.strict).map (·.i) else [])
def patternsV (t : Tm) (ks : List Int) : Bool := t.wf == 0 && (Tm.evs ks 0 false t).all (·.pat)
def knownV (t : Tm) (ks : List Int) (known : List Bool) : Bool := t.wf == 0 && (Tm.evs ks 0 false t).all (fun e => kn known e.i)
theorem replicate_getD (n j : Nat) : (List.replicate n false).getD j false = false := by
  simp only [List.getD, List.getElem?_replicate]
  split <;> rfl
theorem occurV_length (t : Tm) (ks : List Int) : (occurV t ks).length = ks.length := by unfold occurV; rw [marks_length]; simp
theorem strictV_length (t : Tm) (ks : List Int) : (strictV t ks).length = ks.length := by unfold strictV; rw [marks_length]; simp
theorem evs_nonneg {t : Tm} {ks : List Int} {d : Int} {ins : Bool} {es : List Ev} (hs : ∀ e ∈ es, e ∈ Tm.evs ks d ins t) : ∀ i ∈ es.map (·.i), 0 ≤ i := by
  intro i hi
  obtain ⟨e, he, rfl⟩ := List.mem_map.1 hi
  exact (Tm.evs_lt t ks d ins e (hs e he)).1
theorem occurV_get (t : Tm) (ks : List Int) (j : Nat) (hj : j < ks.length) : (occurV t ks).getD j false = (t.wf == 0 && ((Tm.evs ks 0 false t).map (·.i)).contains (j : Int)) := by
  unfold occurV
  cases t.wf == 0
  · rw [if_neg (by simp), marks_get _ _ _ (by simp) (by simpa using hj), replicate_getD]; simp
  · rw [if_pos rfl, marks_get _ _ _ (evs_nonneg (t := t) (ks := ks) (d := 0) (ins := false) (fun e he => he)) (by simpa using hj), replicate_getD]; simp
theorem strictV_get (t : Tm) (ks : List Int) (j : Nat) (hj : j < ks.length) : (strictV t ks).getD j false = (t.wf == 0 && (((Tm.evs ks 0 false t).filter Ev.strict).map (·.i)).contains (j : Int)) := by
  unfold strictV
  cases t.wf == 0
  · rw [if_neg (by simp), marks_get _ _ _ (by simp) (by simpa using hj), replicate_getD]; simp
  · rw [if_pos rfl, marks_get _ _ _ (evs_nonneg (t := t) (ks := ks) (d := 0) (ins := false) (fun e he => (List.mem_filter.1 he).1)) (by simpa using hj), replicate_getD]; simp
/-- StrictImplies. -/
theorem strict_implies (t : Tm) (ks : List Int) (j : Nat) (hj : j < ks.length) : ((strictV t ks).getD j false && !(occurV t ks).getD j false || patternsV t ks && ((occurV t ks).getD j false != (strictV t ks).getD j false)) = false := by
  rw [occurV_get t ks j hj, strictV_get t ks j hj]
  unfold patternsV
  cases t.wf == 0 with
  | false => simp
  | true =>
    simp only [Bool.true_and]
    have h1 : (((Tm.evs ks 0 false t).filter Ev.strict).map (·.i)).contains (j : Int) = true → ((Tm.evs ks 0 false t).map (·.i)).contains (j : Int) = true := by
      simp only [List.contains_iff_mem, List.mem_map, List.mem_filter]
      rintro ⟨e, ⟨he, _⟩, hi⟩
      exact ⟨e, he, hi⟩
    have h2 : (Tm.evs ks 0 false t).all (·.pat) = true → ((Tm.evs ks 0 false t).filter Ev.strict) = Tm.evs ks 0 false t := by
      intro ha
      rw [List.filter_eq_self]
      exact Tm.evs_implies t ks 0 (by omega) ha
    cases ha : (Tm.evs ks 0 false t).all (·.pat) with
    | false =>
      cases hs : (((Tm.evs ks 0 false t).filter Ev.strict).map (·.i)).contains (j : Int) with
      | false => simp
      | true => rw [h1 hs]; simp
    | true => rw [h2 ha]; simp
end Go.LF
namespace Go.LF.Tm
/-- An object, a type or a kind. -/
def Any3 (t : Tm) : Prop := t.isObj = true ∨ t.isTyp = true ∨ t.isKnd = true
theorem any3_args {k i : Int} {n : List UInt8} {l : List Tm} (h : Any3 (mk k n i l)) :
    (∀ a ∈ l, Any3 a) ∧ (k = 5 → (∀ a ∈ l, a.isObj = true) ∧ 0 ≤ i ∧ i ≤ 1048576) ∧ (k = 3 → l.length = 1) ∧ (k = 2 → l.length = 2) := by
  rcases h with h | h | h
  · obtain ⟨h1, h2⟩ := obj_args h
    refine ⟨fun a ha => .inl (h1 a ha), fun e => ⟨h1, ?_⟩, h2, fun e => ?_⟩
    · subst e; rw [isObj] at h; simp at h; omega
    · subst e; rw [isObj] at h; simp at h
  · rw [isTyp, isAtom] at h
    by_cases h4 : k = 4
    · subst h4
      simp at h
      have h3 : allObj l = true := h.2
      rw [allObj_iff, List.all_eq_true] at h3
      exact ⟨fun a ha => .inl (h3 a ha), fun e => absurd e (by decide), fun e => absurd e (by decide), fun e => absurd e (by decide)⟩
    · have h4' : (k == 4) = false := by simpa using h4
      rw [h4'] at h
      simp only [Bool.false_and, Bool.false_or, Bool.and_eq_true, beq_iff_eq] at h
      obtain ⟨rfl, h2, h3⟩ := h
      rw [allTyp_iff, List.all_eq_true] at h3
      unfold bound at h2
      simp only [Bool.and_eq_true, beq_iff_eq] at h2
      exact ⟨fun a ha => .inr (.inl (h3 a ha)), fun e => absurd e (by decide), fun e => absurd e (by decide), fun _ => h2.1.2⟩
  · unfold isKnd at h
    split at h
    · rename_i a b e
      cases e
      simp only [Bool.and_eq_true, beq_iff_eq] at h
      obtain ⟨rfl, h2, h3, h4⟩ := h
      refine ⟨fun x hx => ?_, fun e => absurd e (by decide), fun e => absurd e (by decide), fun _ => rfl⟩
      rcases List.mem_cons.1 hx with rfl | hx
      · exact .inr (.inl h3)
      · obtain rfl : x = b := by simpa using hx
        exact .inr (.inr h4)
    · rename_i e
      cases e
      simp at h
      obtain ⟨rfl, h2, h3, h4⟩ := h
      subst h4
      exact ⟨fun x hx => by simp at hx, fun e => absurd e (by decide), fun e => absurd e (by decide), fun e => absurd e (by decide)⟩
theorem wf_any3 {t : Tm} (h : t.wf = 0) : Any3 t ∧ t.size ≤ 4096 ∧ t.depth ≤ 128 := by
  unfold wf at h
  split at h
  · cases h
  · rename_i h1
    split at h
    · cases h
    · rename_i h2
      simp only [small, Bool.not_eq_true', Bool.not_eq_false, Bool.and_eq_true, decide_eq_true_eq] at h2
      refine ⟨?_, h2⟩
      unfold Any3
      cases ho : t.isObj
      · cases hy : t.isTyp
        · cases hk : t.isKnd
          · rw [ho, hy, hk] at h1; simp at h1
          · simp
        · simp
      · simp
end Go.LF.Tm
namespace Go.LF.Sm
structure FitsS (s : Sm) (d : Nat) : Prop where
  form : s.form = true
  depth : s.depth ≤ d + 1
  size : s.size + 1 ≤ 2 ^ (d + 1)
  wt : s.wt + 5 ≤ 5 * 2 ^ (d + 1)
theorem fits_s {f : List UInt8} {ts : List Sm} {d : Nat} (hf : famOk f = true) (hl : f.length ≤ 4) (hlen : ts.length ≤ 2) (hts : ∀ t ∈ ts, FitsS t d) : FitsS (mk f ts) (d + 1) := by
  have h2 : 2 ^ (d + 1 + 1) = 2 * 2 ^ (d + 1) := by rw [Nat.pow_succ]; omega
  have hsz : forms ts = true ∧ sizes ts + ts.length ≤ ts.length * 2 ^ (d + 1) ∧ depths ts ≤ d + 1 ∧ wts ts + 5 * ts.length ≤ 5 * (ts.length * 2 ^ (d + 1)) := by
    clear hlen
    induction ts with
    | nil => simp [sizes, depths, wts, forms]
    | cons t ts ih =>
      obtain ⟨i1, i2, i3, i4⟩ := ih (fun t ht => hts t (by simp [ht]))
      have h := hts t (by simp)
      have := h.size
      have := h.depth
      have := h.wt
      simp only [sizes, depths, wts, forms, List.length_cons, Nat.add_mul, Nat.one_mul, h.form, Bool.true_and]
      exact ⟨i1, by omega, by omega, by omega⟩
  have hmul : ts.length * 2 ^ (d + 1) ≤ 2 * 2 ^ (d + 1) := Nat.mul_le_mul_right _ hlen
  have hp : 1 ≤ 2 ^ (d + 1) := Nat.one_le_two_pow
  obtain ⟨ho, hs, hd, hw⟩ := hsz
  refine ⟨?_, ?_, ?_, ?_⟩
  · rw [form_mk, hf, ho]; rfl
  · simp; omega
  · have : ts.length = 0 ∨ ts.length = 1 ∨ ts.length = 2 := by omega
    simp only [size_mk]
    rcases this with e | e | e <;> rw [e] at hs <;> omega
  · have : ts.length = 0 ∨ ts.length = 1 ∨ ts.length = 2 := by omega
    simp only [wt_mk]
    rcases this with e | e | e <;> rw [e] at hw <;> omega
theorem fits_s0 {f : List UInt8} (hf : famOk f = true) (hl : f.length ≤ 4) : FitsS (mk f []) 0 := by
  refine ⟨?_, by simp [depths], by simp [sizes], by simp [wts]; omega⟩
  rw [form_mk, hf]; rfl
theorem FitsS.mono {s : Sm} {d d' : Nat} (h : FitsS s d) (hd : d ≤ d') : FitsS s d' := by
  have := Nat.pow_le_pow_right (show 0 < 2 by omega) (show d + 1 ≤ d' + 1 by omega)
  exact ⟨h.form, by have := h.depth; omega, by have := h.size; omega, by have := h.wt; omega⟩
theorem FitsS.wf0 {s : Sm} {d : Nat} (h : FitsS s d) (hd : d ≤ 10) : s.wf = 0 := by
  have := Nat.pow_le_pow_right (show 0 < 2 by omega) (show d + 1 ≤ 11 by omega)
  have h1 := h.size
  have h2 := h.depth
  unfold wf
  rw [h.form]
  have e1 : ¬ 4096 < s.size := by omega
  have e2 : ¬ 128 < s.depth := by omega
  simp [e1, e2]
end Go.LF.Sm
namespace Go.LF.Tm
/-- An argument. -/
structure FitsX (t : Tm) (d : Nat) : Prop where
  obj : t.isObj = true
  depth : t.depth ≤ d + 5
  size : t.size ≤ 5 * 4 ^ d
  wt : t.wt ≤ 25 * 4 ^ d
/-- A term with occurrences of variables. -/
structure FitsO (t : Tm) (d : Nat) : Prop where
  obj : t.isObj = true
  depth : t.depth ≤ d + 6
  size : t.size ≤ 20 * 4 ^ d
  wt : t.wt ≤ 100 * 4 ^ d
theorem FitsO.arg {t : Tm} {d : Nat} (h : FitsO t d) : FitsX t (d + 1) := by
  have e : 4 ^ (d + 1) = 4 * 4 ^ d := by rw [Nat.pow_succ]; omega
  exact ⟨h.obj, by have := h.depth; omega, by have := h.size; omega, by have := h.wt; omega⟩
theorem fitsX_small {t : Tm} {d : Nat} (ho : t.isObj = true) (hs : t.size ≤ 5) (hw : t.wt ≤ 25) : FitsX t d := by
  have hp : 1 ≤ 4 ^ d := Nat.one_le_pow _ _ (by omega)
  exact ⟨ho, by have := depth_le_size t; omega, by omega, by omega⟩
theorem fits_args {d : Nat} : ∀ (ts : List Tm), (∀ t ∈ ts, FitsX t d) → allObj ts = true ∧ depths ts ≤ d + 5 ∧ sizes ts ≤ ts.length * (5 * 4 ^ d) ∧ wts ts ≤ ts.length * (25 * 4 ^ d)
  | [], _ => by simp [allObj, depths, sizes, wts]
  | t :: ts, h => by
    obtain ⟨h1, h2, h3, h4⟩ := fits_args ts (fun t ht => h t (by simp [ht]))
    have h0 := h t (by simp)
    have := h0.depth
    have := h0.size
    have := h0.wt
    simp only [allObj, depths, sizes, wts, List.length_cons, Nat.add_mul, Nat.one_mul, h0.obj, Bool.true_and]
    exact ⟨h1, by omega, by omega, by omega⟩
theorem fitsO_node {k i : Int} {n : List UInt8} {ts : List Tm} {d : Nat} (hl : ts.length ≤ 3) (h : ∀ t ∈ ts, FitsX t d) (hn : n.length ≤ 1) (hk : (k = 3 ∧ n = [] ∧ i = 0 ∧ ts.length = 1) ∨ (k = 4 ∧ n = [99] ∧ i = 0) ∨ (k = 5 ∧ n = [] ∧ 0 ≤ i ∧ i ≤ 1048576)) : FitsO (mk k n i ts) d := by
  obtain ⟨h1, h2, h3, h4⟩ := fits_args ts h
  have hp : 1 ≤ 4 ^ d := Nat.one_le_pow _ _ (by omega)
  have hm : ts.length * (5 * 4 ^ d) ≤ 3 * (5 * 4 ^ d) := Nat.mul_le_mul_right _ hl
  have hm2 : ts.length * (25 * 4 ^ d) ≤ 3 * (25 * 4 ^ d) := Nat.mul_le_mul_right _ hl
  refine ⟨?_, by simp; omega, by simp only [size_mk]; omega, by simp only [wt_mk]; omega⟩
  rw [isObj]
  rcases hk with ⟨rfl, rfl, rfl, e⟩ | ⟨rfl, rfl, rfl⟩ | ⟨rfl, rfl, e1, e2⟩
  · simp [bound, h1, e]
  · have : isName [99] = true := by decide
    simp [this, h1]
  · simp [h1, e1, e2]
theorem FitsO.wf0 {t : Tm} {d : Nat} (h : FitsO t d) (hd : d ≤ 3) : t.wf = 0 := by
  have hp : 4 ^ d ≤ 4 ^ 3 := Nat.pow_le_pow_right (by omega) hd
  have h1 := h.size
  have h2 := h.depth
  unfold wf small
  rw [h.obj]
  have e1 : t.size ≤ 4096 := by omega
  have e2 : t.depth ≤ 128 := by omega
  simp [e1, e2]
theorem FitsO.wt0 {t : Tm} {d : Nat} (h : FitsO t d) (hd : d ≤ 3) : t.wt ≤ 10000 := by
  have hp : 4 ^ d ≤ 4 ^ 3 := Nat.pow_le_pow_right (by omega) hd
  have := h.wt
  omega
end Go.LF.Tm
namespace Go.LF
/-- StrictParts. -/
theorem strict_parts (x y : Tm) (hx : x.wf = 0) (hy : y.wf = 0) (hw : (Tm.mk 4 [99] 0 [x, y]).wf = 0) (ks : List Int) (j : Nat) (hj : j < ks.length) :
    (strictV (Tm.mk 4 [99] 0 [x, y]) ks).getD j false = ((strictV x ks).getD j false || (strictV y ks).getD j false) := by
  rw [strictV_get _ _ _ hj, strictV_get _ _ _ hj, strictV_get _ _ _ hj, hx, hy, hw]
  have e : Tm.evs ks 0 false (Tm.mk 4 [99] 0 [x, y]) = Tm.evs ks 0 false x ++ Tm.evs ks 0 false y := by
    rw [Tm.evs_mk]
    simp [Tm.evsA, flx, Tm.under]
  rw [e, List.filter_append, List.map_append]
  simp only [beq_self_eq_true, Bool.true_and, List.contains_eq_mem, List.mem_append, Bool.decide_or]
end Go.LF
