/- Terms as plain data, and what the functions of layer 5 compute of them. No program is in sight here. -/
namespace Go.LF

/-- Terms. -/
inductive Tm where
  | mk (kind : Int) (name : List UInt8) (index : Int) (args : List Tm)

namespace Tm
def kind : Tm → Int | mk k _ _ _ => k
def name : Tm → List UInt8 | mk _ n _ _ => n
def index : Tm → Int | mk _ _ i _ => i
def args : Tm → List Tm | mk _ _ _ l => l
@[simp] theorem kind_mk (k n i l) : kind (mk k n i l) = k := rfl
@[simp] theorem name_mk (k n i l) : name (mk k n i l) = n := rfl
@[simp] theorem index_mk (k n i l) : index (mk k n i l) = i := rfl
@[simp] theorem args_mk (k n i l) : args (mk k n i l) = l := rfl
theorem eta (t : Tm) : mk t.kind t.name t.index t.args = t := by cases t; rfl

theorem ind {P : Tm → Prop} (h : ∀ k n i l, (∀ a ∈ l, P a) → P (mk k n i l)) (t : Tm) : P t :=
  Tm.rec (motive_1 := P) (motive_2 := fun l => ∀ a ∈ l, P a) (fun k n i l ih => h k n i l ih) (by simp) (fun t ts h1 h2 => by simpa using ⟨h1, h2⟩) t

mutual
def size : Tm → Nat
  | mk _ _ _ l => sizes l + 1
def sizes : List Tm → Nat
  | [] => 0
  | t :: ts => size t + sizes ts
end
mutual
def depth : Tm → Nat
  | mk _ _ _ l => depths l + 1
def depths : List Tm → Nat
  | [] => 0
  | t :: ts => max (depth t) (depths ts)
end
@[simp] theorem size_mk (k n i l) : size (mk k n i l) = sizes l + 1 := by rw [size]
@[simp] theorem depth_mk (k n i l) : depth (mk k n i l) = depths l + 1 := by rw [depth]
theorem size_pos (t : Tm) : 0 < t.size := by cases t; simp
theorem sizes_append (a b : List Tm) : sizes (a ++ b) = sizes a + sizes b := by
  induction a with
  | nil => simp [sizes]
  | cons t ts ih => simp [sizes, ih]; omega
theorem depths_append (a b : List Tm) : depths (a ++ b) = max (depths a) (depths b) := by
  induction a with
  | nil => simp [depths]
  | cons t ts ih => simp [depths, ih]
theorem length_le_sizes (l : List Tm) : l.length ≤ sizes l := by
  induction l with
  | nil => simp
  | cons t ts ih => have := size_pos t; simp only [sizes, List.length_cons]; omega
theorem size_le_sizes {t : Tm} {l : List Tm} (h : t ∈ l) : t.size ≤ sizes l := by
  induction l with
  | nil => cases h
  | cons u us ih =>
    rcases List.mem_cons.1 h with rfl | h
    · simp only [sizes]; omega
    · have := ih h; simp only [sizes]; omega
theorem depth_le_depths {t : Tm} {l : List Tm} (h : t ∈ l) : t.depth ≤ depths l := by
  induction l with
  | nil => cases h
  | cons u us ih =>
    rcases List.mem_cons.1 h with rfl | h
    · simp only [depths]; omega
    · have := ih h; simp only [depths]; omega
theorem depth_le_size (t : Tm) : t.depth ≤ t.size := by
  induction t using ind with
  | h k n i l ih =>
    simp only [depth_mk, size_mk, Nat.add_le_add_iff_right]
    induction l with
    | nil => simp [depths]
    | cons t ts ih2 =>
      have h1 := ih t (by simp)
      have h2 := ih2 (fun a ha => ih a (by simp [ha]))
      simp [depths, sizes]; omega
theorem depths_le_sizes (l : List Tm) : depths l ≤ sizes l := by
  have := depth_le_size (mk 0 [] 0 l); simpa using this
theorem sizes_take_succ (l : List Tm) (j : Nat) (h : j < l.length) : sizes (l.take (j + 1)) = sizes (l.take j) + l[j].size := by
  rw [List.take_succ_eq_append_getElem h, sizes_append]; simp [sizes]
theorem depths_take_succ (l : List Tm) (j : Nat) (h : j < l.length) : depths (l.take (j + 1)) = max (depths (l.take j)) l[j].depth := by
  rw [List.take_succ_eq_append_getElem h, depths_append]; simp [depths]
theorem sizes_take_le (l : List Tm) (j : Nat) : sizes (l.take j) ≤ sizes l := by
  conv => rhs; rw [← List.take_append_drop j l, sizes_append]
  omega
theorem depths_take_le (l : List Tm) (j : Nat) : depths (l.take j) ≤ depths l := by
  conv => rhs; rw [← List.take_append_drop j l, depths_append]
  omega

mutual
/-- Nodes and the bytes of names. -/
def wt : Tm → Nat
  | mk _ n _ l => n.length + wts l + 1
def wts : List Tm → Nat
  | [] => 0
  | t :: ts => wt t + wts ts
end
@[simp] theorem wt_mk (k n i l) : wt (mk k n i l) = n.length + wts l + 1 := by rw [wt]
theorem wt_le_wts {t : Tm} {l : List Tm} (h : t ∈ l) : t.wt ≤ wts l := by
  induction l with
  | nil => cases h
  | cons u us ih =>
    rcases List.mem_cons.1 h with rfl | h
    · simp only [wts]; omega
    · have := ih h; simp only [wts]; omega
theorem wts_append (a b : List Tm) : wts (a ++ b) = wts a + wts b := by
  induction a with
  | nil => simp [wts]
  | cons t ts ih => simp [wts, ih]; omega
theorem size_le_wt (t : Tm) : t.size ≤ t.wt := by
  induction t using ind with
  | h k n i l ih =>
    simp only [wt_mk, size_mk]
    have : sizes l ≤ wts l := by
      induction l with
      | nil => simp [sizes]
      | cons t ts ih2 =>
        have h1 := ih t (by simp)
        have h2 := ih2 (fun a ha => ih a (by simp [ha]))
        simp only [sizes, wts]; omega
    omega
theorem sizes_le_wts (l : List Tm) : sizes l ≤ wts l := by
  have := size_le_wt (mk 0 [] 0 l)
  simp only [wt_mk, size_mk, List.length_nil] at this; omega

mutual
/-- Equal, the names of binders aside. -/
def same : Tm → Tm → Bool
  | mk k n i l, mk k' n' i' l' => k == k' && (i == i' && ((n == n' || (k == 2 || k == 3)) && sames l l'))
def sames : List Tm → List Tm → Bool
  | [], [] => true
  | a :: as', b :: bs => same a b && sames as' bs
  | [], _ :: _ => false
  | _ :: _, [] => false
end
theorem sames_length : ∀ (l m : List Tm), sames l m = true → l.length = m.length
  | [], [], _ => rfl
  | _ :: as', _ :: bs, h => by simp only [sames, Bool.and_eq_true] at h; simp [sames_length as' bs h.2]
theorem sames_of_length_ne (l m : List Tm) (h : l.length ≠ m.length) : sames l m = false := by
  cases hs : sames l m with
  | false => rfl
  | true => exact absurd (sames_length l m hs) h
theorem sames_take (l m : List Tm) (j : Nat) (h1 : j < l.length) (h2 : j < m.length) : sames (l.take (j + 1)) (m.take (j + 1)) = (sames (l.take j) (m.take j) && same l[j] m[j]) := by
  induction l generalizing m j with
  | nil => simp at h1
  | cons a as' ih =>
    cases m with
    | nil => simp at h2
    | cons b bs =>
      cases j with
      | zero => simp [sames]
      | succ j =>
        have := ih bs j (by simpa using h1) (by simpa using h2)
        simp only [List.take_succ_cons, sames, List.getElem_cons_succ, this, Bool.and_assoc]
theorem sames_false (l m : List Tm) (j : Nat) (hl : l.length = m.length) (h1 : j < l.length) (h : same l[j] (m[j]'(by omega)) = false) : sames l m = false := by
  induction l generalizing m j with
  | nil => simp at h1
  | cons a as' ih =>
    cases m with
    | nil => simp at hl
    | cons b bs =>
      cases j with
      | zero => simp only [List.getElem_cons_zero] at h; simp [sames, h]
      | succ j =>
        have := ih bs j (by simpa using hl) (by simpa using h1) (by simpa using h)
        simp [sames, this]
theorem same_mk (k n i l k' n' i' l') : same (mk k n i l) (mk k' n' i' l') = (k == k' && (i == i' && ((n == n' || (k == 2 || k == 3)) && sames l l'))) := by rw [same]

/-- A node as an iterator hands it on: the binders around it, its kind, name and index. -/
structure Nd0 where
  b : Int
  k : Int
  n : List UInt8
  i : Int
/-- How many binders an argument of a node is under. -/
def under (k : Int) (j : Nat) : Int := if k = 3 ∨ (k = 2 ∧ j = 1) then 1 else 0
mutual
/-- All nodes of a term, a node before its arguments. -/
def nodes (b : Int) : Tm → List Nd0
  | mk k n i l => ⟨b, k, n, i⟩ :: nodesA b k 0 l
def nodesA (b k : Int) (j : Nat) : List Tm → List Nd0
  | [] => []
  | t :: ts => nodes (b + under k j) t ++ nodesA b k (j + 1) ts
end
theorem nodes_mk (b k n i l) : nodes b (mk k n i l) = ⟨b, k, n, i⟩ :: nodesA b k 0 l := by rw [nodes]
theorem nodesA_length (l : List Tm) (b k : Int) (j : Nat) (h : ∀ t ∈ l, ∀ b, (nodes b t).length = t.size) : (nodesA b k j l).length = sizes l := by
  induction l generalizing j with
  | nil => simp [nodesA, sizes]
  | cons t ts ih => simp [nodesA, sizes, h t (by simp), ih (j + 1) (fun u hu => h u (by simp [hu]))]
theorem nodes_length (t : Tm) : ∀ b, (nodes b t).length = t.size := by
  induction t using ind with
  | h k n i l ih => intro b; rw [nodes_mk]; simp [nodesA_length l b k 0 ih]
theorem nodesA_append (l m : List Tm) (b k : Int) (j : Nat) : nodesA b k j (l ++ m) = nodesA b k j l ++ nodesA b k (j + l.length) m := by
  induction l generalizing j with
  | nil => simp [nodesA]
  | cons t ts ih => simp [nodesA, ih (j + 1), Nat.add_assoc, Nat.add_comm 1 ts.length]
theorem nodesA_take_succ (l : List Tm) (b k : Int) (j : Nat) (h : j < l.length) : nodesA b k 0 (l.take (j + 1)) = nodesA b k 0 (l.take j) ++ nodes (b + under k j) l[j] := by
  rw [List.take_succ_eq_append_getElem h, nodesA_append]
  simp [nodesA, Nat.min_eq_left (Nat.le_of_lt h)]
theorem nodesA_take_prefix (l : List Tm) (b k : Int) (j : Nat) : nodesA b k 0 (l.take j) <+: nodesA b k 0 l := by
  conv => rhs; rw [← List.take_append_drop j l, nodesA_append]
  exact List.prefix_append _ _
theorem under_le (k : Int) (j : Nat) : 0 ≤ under k j ∧ under k j ≤ 1 := by unfold under; split <;> omega
end Tm
end Go.LF
