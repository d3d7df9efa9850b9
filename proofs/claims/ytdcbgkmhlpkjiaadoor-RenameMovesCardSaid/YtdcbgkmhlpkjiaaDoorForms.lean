/- Which terms are objects, types, kinds: as plain functions. No program is in sight here. -/
import Derived.Test.YtdcbgkmhlpkjiaaDoorSpec
namespace Go.LF

/-- A byte that is a token by itself. -/
def special (c : UInt8) : Bool := c.toNat == 40 || c.toNat == 41 || c.toNat == 91 || c.toNat == 93 || c.toNat == 123 || c.toNat == 125 || c.toNat == 58 || c.toNat == 46
/-- A byte that may be part of a name. -/
def nameByte (c : UInt8) : Bool := decide (33 ≤ c.toNat) && (decide (c.toNat ≤ 126) && (!special c && c.toNat != 37))
def reserved (s : List UInt8) : Bool := s == [45, 62] || s == [60, 45] || s == [61] || s == [95] || s == [116, 121, 112, 101]
def isName (s : List UInt8) : Bool := !s.isEmpty && decide (s.length ≤ 64) && s.all nameByte && !reserved s && s.head? != some 64

theorem isName_cons (c : UInt8) (r : List UInt8) : isName (c :: r) = (decide (r.length + 1 ≤ 64) && (nameByte c && r.all nameByte) && !reserved (c :: r) && c.toNat != 64) := by
  have h : ((c :: r).head? != some 64) = (c.toNat != 64) := by
    rw [Bool.eq_iff_iff]; simp [← UInt8.toNat_inj]
  simp only [isName, h]
  simp
theorem isName_iff (c : UInt8) (r : List UInt8) : isName (c :: r) = true ↔ r.length + 1 ≤ 64 ∧ (c :: r).all nameByte = true ∧ reserved (c :: r) = false ∧ c.toNat ≠ 64 := by
  rw [isName_cons]; simp [and_assoc]
theorem isName_not_iff (c : UInt8) (r : List UInt8) : isName (c :: r) = false ↔ ¬ (r.length + 1 ≤ 64 ∧ (c :: r).all nameByte = true ∧ reserved (c :: r) = false ∧ c.toNat ≠ 64) := by
  rw [← isName_iff]; simp
theorem all_take_succ {α : Type} (p : α → Bool) (l : List α) (j : Nat) (h : j < l.length) : (l.take (j + 1)).all p = ((l.take j).all p && p l[j]) := by
  rw [List.take_succ_eq_append_getElem h]; simp only [List.all_append, List.all_cons, List.all_nil, Bool.and_true]

namespace Tm
/-- A binder's name and index, and so many arguments. -/
def bound (n : List UInt8) (i : Int) (l : List Tm) (k : Nat) : Bool := i == 0 && l.length == k && (n == [] || n == [95] || isName n)

mutual
def isObj : Tm → Bool
  | mk k n i l =>
    if k = 3 then bound n i l 1 && allObj l
    else if k = 4 then isName n && i == 0 && allObj l
    else if k = 5 then n == [] && decide (0 ≤ i) && decide (i ≤ 1048576) && allObj l
    else if k = 6 then n == [] && decide (0 ≤ i) && decide (i < 2048) && allObj l
    else false
def allObj : List Tm → Bool
  | [] => true
  | t :: ts => isObj t && allObj ts
end
/-- A constant whose arguments are objects. -/
def isAtom : Tm → Bool | mk k n i l => k == 4 && (isName n && i == 0 && allObj l)
mutual
def isTyp : Tm → Bool
  | mk k n i l => isAtom (mk k n i l) || (k == 2 && (bound n i l 2 && allTyp l))
def allTyp : List Tm → Bool
  | [] => true
  | t :: ts => isTyp t && allTyp ts
end
def isKnd : Tm → Bool
  | mk k n i [a, b] => k == 2 && (bound n i [a, b] 2 && (isTyp a && isKnd b))
  | mk k n i l => k == 1 && (n == [] && (i == 0 && l.isEmpty))
def small (t : Tm) : Bool := decide (t.size ≤ 4096) && decide (t.depth ≤ 128)
/-- 0: well formed; 1: not; 2: too large. -/
def wf (t : Tm) : Int := if !t.isObj && !t.isTyp && !t.isKnd then 1 else if !t.small then 2 else 0

theorem allObj_iff (l : List Tm) : allObj l = l.all isObj := by
  induction l with
  | nil => rfl
  | cons t ts ih => simp [allObj, ih]
theorem allTyp_iff (l : List Tm) : allTyp l = l.all isTyp := by
  induction l with
  | nil => rfl
  | cons t ts ih => simp [allTyp, ih]
end Tm
end Go.LF
