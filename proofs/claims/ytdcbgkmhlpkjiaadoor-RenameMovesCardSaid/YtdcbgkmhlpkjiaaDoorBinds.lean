/- Variables, metavariables and constants of a term: as plain functions. -/
import Derived.Test.YtdcbgkmhlpkjiaaDoorForms
import Derived.RowKit
import Derived.IntWalk
namespace Go.LF
namespace Tm
mutual
/-- The least number that is greater than all free variables. -/
def scope : Tm → Int
  | mk k _ i l => scopes k 0 (if k == 5 then i + 1 else 0) l
def scopes (k : Int) (j : Nat) (acc : Int) : List Tm → Int
  | [] => acc
  | t :: ts => scopes k (j + 1) (max acc (scope t - under k j)) ts
end
mutual
/-- A free variable occurs. -/
def occ : Tm → Int → Bool
  | mk k _ i l, v => (k == 5 && i == v) || occs k 0 l v
def occs (k : Int) (j : Nat) : List Tm → Int → Bool
  | [], _ => false
  | t :: ts, v => occ t (v + under k j) || occs k (j + 1) ts v
end
mutual
def addMetas (acc : List Int) : Tm → List Int
  | mk k _ i l => addMetasL (if k == 6 && !acc.contains i then acc ++ [i] else acc) l
def addMetasL (acc : List Int) : List Tm → List Int
  | [] => acc
  | t :: ts => addMetasL (addMetas acc t) ts
end
mutual
def addConsts (acc : List (List UInt8)) : Tm → List (List UInt8)
  | mk k n _ l => addConstsL (if k == 4 && !acc.contains n then acc ++ [n] else acc) l
def addConstsL (acc : List (List UInt8)) : List Tm → List (List UInt8)
  | [] => acc
  | t :: ts => addConstsL (addConsts acc t) ts
end

/-- The metavariables of a term. -/
def addMetas0 (t : Tm) : List Int := addMetas [] t
/-- The constants of a term. -/
def addConsts0 (t : Tm) : List (List UInt8) := addConsts [] t

def scopeStep (acc : Int) (x : Nd0) : Int := if x.k == 5 then max acc (x.i - x.b + 1) else acc
def metaStep (acc : List Int) (x : Nd0) : List Int := if x.k == 6 && !acc.contains x.i then acc ++ [x.i] else acc
def constStep (acc : List (List UInt8)) (x : Nd0) : List (List UInt8) := if x.k == 4 && !acc.contains x.n then acc ++ [x.n] else acc
def occStep (v : Int) (x : Nd0) : Bool := x.k == 5 && x.i - x.b == v

theorem scopes_ge (k : Int) (l : List Tm) : ∀ (j : Nat) (acc : Int), acc ≤ scopes k j acc l := by
  induction l with
  | nil => intro j acc; simp [scopes]
  | cons t ts ih => intro j acc; rw [scopes]; have := ih (j + 1) (max acc (scope t - under k j)); omega
theorem scope_nonneg (t : Tm) (h : t.kind == 5 → 0 ≤ t.index) : 0 ≤ scope t := by
  cases t with
  | mk k n i l =>
    rw [scope]
    have := scopes_ge k l 0 (if (k == 5) = true then i + 1 else 0)
    by_cases hk : (k == 5) = true
    · rw [if_pos hk] at this ⊢; have := h hk; simp at this; omega
    · rw [if_neg hk] at this ⊢; omega

theorem scopes_max (k : Int) (l : List Tm) : ∀ (j : Nat) (a b : Int), scopes k j (max a b) l = max a (scopes k j b l) := by
  induction l with
  | nil => intro j a b; simp [scopes]
  | cons t ts ih => intro j a b; simp only [scopes]; rw [show max (max a b) (t.scope - under k j) = max a (max b (t.scope - under k j)) by omega, ih]

theorem scope_fold (t : Tm) : ∀ (b acc : Int), 0 ≤ b → 0 ≤ acc → (nodes b t).foldl scopeStep acc = max acc (scope t - b) := by
  induction t using ind with
  | h k n i l ih =>
    intro b acc hb ha
    rw [nodes_mk, List.foldl_cons, scope]
    have key : ∀ (l' : List Tm), (∀ t ∈ l', ∀ (b acc : Int), 0 ≤ b → 0 ≤ acc → (nodes b t).foldl scopeStep acc = max acc (scope t - b)) →
        ∀ (j : Nat) (a c : Int), 0 ≤ a → a = max a (c - b) → (nodesA b k j l').foldl scopeStep a = max a (scopes k j c l' - b) := by
      intro l'
      induction l' with
      | nil => intro _ j a c h0 h1; simp only [nodesA, List.foldl_nil, scopes]; exact h1
      | cons t ts ih2 =>
        intro h j a c h0 h1
        have hu := under_le k j
        simp only [nodesA, List.foldl_append, scopes]
        rw [h t (by simp) (b + under k j) a (by omega) h0, ih2 (fun t ht => h t (by simp [ht])) (j + 1) _ (max c (t.scope - under k j)) (by omega) (by omega)]
        have := scopes_ge k ts (j + 1) (max c (t.scope - under k j))
        omega
    by_cases hk : (k == 5) = true
    · simp only [scopeStep, hk, if_true]
      rw [key l ih 0 (max acc (i - b + 1)) (i + 1) (by omega) (by omega)]
      have := scopes_ge k l 0 (i + 1)
      omega
    · simp only [scopeStep, if_neg hk]
      exact key l ih 0 acc 0 (by omega) (by omega)
theorem scope_nodes (t : Tm) (h : t.kind == 5 → 0 ≤ t.index) : (nodes 0 t).foldl scopeStep 0 = scope t := by
  rw [scope_fold t 0 0 (by omega) (by omega)]
  have := scope_nonneg t h
  omega

theorem metas_fold (t : Tm) : ∀ (b : Int) (acc : List Int), (nodes b t).foldl metaStep acc = addMetas acc t := by
  induction t using ind with
  | h k n i l ih =>
    intro b acc
    rw [nodes_mk, List.foldl_cons, addMetas]
    have key : ∀ (l' : List Tm), (∀ t ∈ l', ∀ (b : Int) (acc : List Int), (nodes b t).foldl metaStep acc = addMetas acc t) → ∀ (j : Nat) (acc : List Int), (nodesA b k j l').foldl metaStep acc = addMetasL acc l' := by
      intro l'
      induction l' with
      | nil => intro _ j acc; simp [nodesA, addMetasL]
      | cons t ts ih2 => intro h j acc; simp only [nodesA, List.foldl_append, addMetasL]; rw [h t (by simp), ih2 (fun t ht => h t (by simp [ht]))]
    exact key l ih 0 _
theorem consts_fold (t : Tm) : ∀ (b : Int) (acc : List (List UInt8)), (nodes b t).foldl constStep acc = addConsts acc t := by
  induction t using ind with
  | h k n i l ih =>
    intro b acc
    rw [nodes_mk, List.foldl_cons, addConsts]
    have key : ∀ (l' : List Tm), (∀ t ∈ l', ∀ (b : Int) (acc : List (List UInt8)), (nodes b t).foldl constStep acc = addConsts acc t) → ∀ (j : Nat) (acc : List (List UInt8)), (nodesA b k j l').foldl constStep acc = addConstsL acc l' := by
      intro l'
      induction l' with
      | nil => intro _ j acc; simp [nodesA, addConstsL]
      | cons t ts ih2 => intro h j acc; simp only [nodesA, List.foldl_append, addConstsL]; rw [h t (by simp), ih2 (fun t ht => h t (by simp [ht]))]
    exact key l ih 0 _
theorem occ_any (t : Tm) : ∀ (b v : Int), (nodes b t).any (occStep v) = occ t (v + b) := by
  induction t using ind with
  | h k n i l ih =>
    intro b v
    rw [nodes_mk, List.any_cons, occ]
    have key : ∀ (l' : List Tm), (∀ t ∈ l', ∀ (b v : Int), (nodes b t).any (occStep v) = occ t (v + b)) → ∀ (j : Nat), (nodesA b k j l').any (occStep v) = occs k j l' (v + b) := by
      intro l'
      induction l' with
      | nil => intro _ j; simp [nodesA, occs]
      | cons t ts ih2 => intro h j; simp only [nodesA, List.any_append, occs]; rw [h t (by simp), ih2 (fun t ht => h t (by simp [ht]))]; rw [Int.add_assoc]
    rw [key l ih 0]
    congr 1
    simp only [occStep]
    congr 1
    rw [Bool.eq_iff_iff]
    simp only [beq_iff_eq]
    omega

/-- The numbers in a node are those of a well-formed term. -/
def Nd0.ok (x : Nd0) : Prop := ((x.k == 5) = true → 0 ≤ x.i ∧ x.i ≤ 1048576) ∧ ((x.k == 6) = true → 0 ≤ x.i ∧ x.i < 2048) ∧ ((x.k == 4) = true → x.n.length ≤ 64)

theorem isName_len (n : List UInt8) (h : isName n = true) : n.length ≤ 64 := by
  simp [isName] at h; omega
theorem nodesA_all {p : Nd0 → Prop} {b k : Int} {l : List Tm} (h : ∀ t ∈ l, ∀ b, ∀ x ∈ nodes b t, p x) : ∀ j, ∀ x ∈ nodesA b k j l, p x := by
  induction l with
  | nil => intro j x hx; simp [nodesA] at hx
  | cons t ts ih =>
    intro j x hx
    simp only [nodesA, List.mem_append] at hx
    rcases hx with hx | hx
    · exact h t (by simp) _ x hx
    · exact ih (fun t ht => h t (by simp [ht])) (j + 1) x hx
theorem obj_ok (t : Tm) : t.isObj = true → ∀ b, ∀ x ∈ nodes b t, x.ok := by
  induction t using ind with
  | h k n i l ih =>
    intro h b x hx
    have hall : allObj l = true → ∀ t ∈ l, t.isObj = true := by rw [allObj_iff, List.all_eq_true]; exact fun x => x
    rw [isObj] at h
    rw [nodes_mk] at hx
    have hA : allObj l = true := by split at h <;> (try split at h) <;> (try split at h) <;> (try split at h) <;> simp_all
    rcases List.mem_cons.1 hx with rfl | hx
    · refine ⟨fun e => ?_, fun e => ?_, fun e => ?_⟩ <;> simp at e <;> subst e <;> simp at h
      · simp; omega
      · simp; omega
      · simpa using isName_len n h.1.1
    · exact nodesA_all (fun t ht b x hx => ih t ht (hall hA t ht) b x hx) 0 x hx
theorem typ_ok (t : Tm) : t.isTyp = true → ∀ b, ∀ x ∈ nodes b t, x.ok := by
  induction t using ind with
  | h k n i l ih =>
    intro h b x hx
    rw [isTyp] at h
    rcases Bool.or_eq_true_iff.1 h with h | h
    · refine obj_ok _ ?_ b x hx
      simp [isAtom] at h
      rw [isObj]
      simp [h]
    · have hall : allTyp l = true → ∀ t ∈ l, t.isTyp = true := by rw [allTyp_iff, List.all_eq_true]; exact fun x => x
      simp at h
      rw [nodes_mk] at hx
      rcases List.mem_cons.1 hx with rfl | hx
      · refine ⟨fun e => ?_, fun e => ?_, fun e => ?_⟩ <;> simp [h.1] at e
      · exact nodesA_all (fun t ht b x hx => ih t ht (hall h.2.2 t ht) b x hx) 0 x hx
theorem knd_ok (t : Tm) : t.isKnd = true → ∀ b, ∀ x ∈ nodes b t, x.ok := by
  induction t using ind with
  | h k n i l ih =>
    intro h b x hx
    rw [nodes_mk] at hx
    match l, h, ih, hx with
    | [], h, ih, hx =>
      simp [isKnd] at h
      simp [nodesA] at hx
      subst hx
      refine ⟨fun e => ?_, fun e => ?_, fun e => ?_⟩ <;> simp [h.1] at e
    | [a], h, ih, hx => simp [isKnd] at h
    | a :: c :: d :: l, h, ih, hx => simp [isKnd] at h
    | [a, c], h, ih, hx =>
      simp [isKnd] at h
      rcases List.mem_cons.1 hx with rfl | hx
      · refine ⟨fun e => ?_, fun e => ?_, fun e => ?_⟩ <;> simp [h.1] at e
      · simp only [nodesA, List.append_nil, List.mem_append] at hx
        rcases hx with hx | hx
        · exact typ_ok a h.2.2.1 _ x hx
        · exact ih c (by simp) h.2.2.2 _ x hx
/-- What a well-formed term is, sizes aside: an object, a type or a kind. -/
theorem wf_ok (t : Tm) (h : t.wf = 0) : (∀ b, ∀ x ∈ nodes b t, x.ok) ∧ t.size ≤ 4096 ∧ t.depth ≤ 128 := by
  unfold wf at h
  by_cases h1 : (!t.isObj && !t.isTyp && !t.isKnd) = true
  · rw [if_pos h1] at h; omega
  rw [if_neg h1] at h
  by_cases h2 : (!t.small) = true
  · rw [if_pos h2] at h; omega
  have h2' : t.small = true := by simpa using h2
  unfold small at h2'
  simp at h2' h1
  refine ⟨?_, h2'⟩
  by_cases ho : t.isObj = true
  · exact obj_ok t ho
  by_cases hy : t.isTyp = true
  · exact typ_ok t hy
  · exact knd_ok t (h1 (by simpa using ho) (by simpa using hy))
theorem nodes_b (t : Tm) : ∀ b, ∀ x ∈ nodes b t, b ≤ x.b ∧ x.b < b + t.size := by
  induction t using ind with
  | h k n i l ih =>
    intro b x hx
    rw [nodes_mk] at hx
    rw [size_mk]
    rcases List.mem_cons.1 hx with rfl | hx
    · simp; omega
    · have key : ∀ (l' : List Tm), (∀ t ∈ l', t ∈ l) → ∀ j, ∀ x ∈ nodesA b k j l', b ≤ x.b ∧ x.b < b + (sizes l + 1) := by
        intro l'
        induction l' with
        | nil => intro _ j x hx; simp [nodesA] at hx
        | cons t ts ih2 =>
          intro hs j x hx
          simp only [nodesA, List.mem_append] at hx
          rcases hx with hx | hx
          · have := ih t (hs t (by simp)) _ x hx
            have := under_le k j
            have := size_le_sizes (hs t (by simp))
            omega
          · exact ih2 (fun t ht => hs t (by simp [ht])) _ x hx
      exact key l (fun _ h => h) 0 x hx
end Tm
end Go.LF
