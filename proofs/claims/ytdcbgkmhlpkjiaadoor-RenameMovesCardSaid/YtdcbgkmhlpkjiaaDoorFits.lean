/- What the terms are that a law makes. -/
import Derived.Test.YtdcbgkmhlpkjiaaDoorRefBinds
namespace Go.LF.Tm

/-- An object that a law makes: so many free variables and metavariables, so deep. -/
structure Fits (t : Tm) (deep vars metas : Nat) : Prop where
  obj : t.isObj = true
  scope : t.scope ≤ vars
  metas : ∀ b, ∀ x ∈ t.nodes b, (x.k == 6) = true → x.i < metas
  depth : t.depth ≤ deep + 1
  size : t.size + 1 ≤ 2 ^ (deep + 1)
  wt : t.wt + 5 ≤ 5 * 2 ^ (deep + 1)

theorem scopes_bound {k : Int} {v : Int} : ∀ (l : List Tm) (j : Nat) (a : Int), a ≤ v → (∀ t ∈ l, t.scope ≤ v) → scopes k j a l ≤ v := by
  intro l
  induction l with
  | nil => intro j a h _; simpa [scopes] using h
  | cons t ts ih =>
    intro j a ha h
    rw [scopes]
    have := h t (by simp)
    have := under_le k j
    exact ih _ _ (by omega) (fun t ht => h t (by simp [ht]))
theorem pow_mono {a b : Nat} (h : a ≤ b) : 2 ^ a ≤ 2 ^ b := Nat.pow_le_pow_right (by omega) h
theorem Fits.mono {t : Tm} {d d' v m : Nat} (h : Fits t d v m) (hd : d ≤ d') : Fits t d' v m :=
  ⟨h.obj, h.scope, h.metas, by have := h.depth; omega, by have := h.size; have := pow_mono (show d + 1 ≤ d' + 1 by omega); omega, by have := h.wt; have := pow_mono (show d + 1 ≤ d' + 1 by omega); omega⟩

theorem fits_lam {t : Tm} {d v m : Nat} (h : Fits t d (v + 1) m) (nm : List UInt8) (hn : (nm == [] || nm == [95] || isName nm) = true) (hl : nm.length ≤ 4) : Fits (mk 3 nm 0 [t]) (d + 1) v m := by
  have h2 : 2 ^ (d + 1 + 1) = 2 * 2 ^ (d + 1) := by rw [Nat.pow_succ]; omega
  have hp : 1 ≤ 2 ^ (d + 1) := Nat.one_le_two_pow
  refine ⟨?_, ?_, ?_, ?_, ?_, ?_⟩
  · rw [isObj]; simp only [if_true]
    simp [bound, allObj, h.obj]
    simpa [or_assoc] using hn
  · have := h.scope
    rw [Tm.scope, scopes, scopes]
    simp [under]
    omega
  · intro b x hx h6
    rw [nodes_mk] at hx
    rcases List.mem_cons.1 hx with rfl | hx
    · simp at h6
    · simp only [nodesA, List.append_nil] at hx
      exact h.metas _ x hx h6
  · have := h.depth; simp [depths]; omega
  · have := h.size; simp [sizes]; omega
  · have := h.wt; simp [wts]; omega

theorem fits_node {k i : Int} {nm : List UInt8} {ts : List Tm} {d v m : Nat} (hk : k = 4 ∨ k = 5 ∨ k = 6) (hlen : ts.length ≤ 2) (hts : ∀ t ∈ ts, Fits t d v m) (h4 : k = 4 → isName nm = true ∧ i = 0) (h5 : k = 5 → nm = [] ∧ 0 ≤ i ∧ i < v) (h6 : k = 6 → nm = [] ∧ 0 ≤ i ∧ i < m)
    (hv : v ≤ 100000) (hm : m ≤ 2000) (hl : nm.length ≤ 4) : Fits (mk k nm i ts) (d + 1) v m := by
  have h2 : 2 ^ (d + 1 + 1) = 2 * 2 ^ (d + 1) := by rw [Nat.pow_succ]; omega
  have hp : 1 ≤ 2 ^ (d + 1) := Nat.one_le_two_pow
  have hall : allObj ts = true := by rw [allObj_iff, List.all_eq_true]; exact fun t ht => (hts t ht).obj
  have hsz : sizes ts + ts.length ≤ ts.length * 2 ^ (d + 1) ∧ depths ts ≤ d + 1 ∧ wts ts + 5 * ts.length ≤ 5 * (ts.length * 2 ^ (d + 1)) := by
    clear hlen hall
    induction ts with
    | nil => simp [sizes, depths, wts]
    | cons t ts ih =>
      have := ih (fun t ht => hts t (by simp [ht]))
      have h := hts t (by simp)
      have := h.size
      have := h.depth
      have := h.wt
      simp only [sizes, depths, wts, List.length_cons, Nat.add_mul, Nat.one_mul]
      omega
  have hmul : ts.length * 2 ^ (d + 1) ≤ 2 * 2 ^ (d + 1) := Nat.mul_le_mul_right _ hlen
  obtain ⟨hs, hd, hw⟩ := hsz
  refine ⟨?_, ?_, ?_, ?_, ?_, ?_⟩
  · rw [isObj]
    rcases hk with rfl | rfl | rfl
    · simp [h4 rfl, hall]
    · have := h5 rfl; simp [this, hall]; omega
    · have := h6 rfl; simp [this, hall]; omega
  · rw [Tm.scope]
    refine scopes_bound ts 0 _ ?_ (fun t ht => (hts t ht).scope)
    by_cases e : (k == 5) = true
    · rw [if_pos e]; have := h5 (by simpa using e); omega
    · rw [if_neg e]; omega
  · intro b x hx e6
    rw [nodes_mk] at hx
    rcases List.mem_cons.1 hx with rfl | hx
    · exact (h6 (by simpa using e6)).2.2
    · exact nodesA_all (p := fun x => (x.k == 6) = true → x.i < m) (fun t ht b x hx => (hts t ht).metas b x hx) 0 x hx e6
  · simp; omega
  · have : ts.length = 0 ∨ ts.length = 1 ∨ ts.length = 2 := by omega
    simp only [size_mk]
    rcases this with e | e | e <;> rw [e] at hs <;> omega
  · have : ts.length = 0 ∨ ts.length = 1 ∨ ts.length = 2 := by omega
    simp only [wt_mk]
    rcases this with e | e | e <;> rw [e] at hw <;> omega
theorem fits_leaf {k i : Int} {nm : List UInt8} {v m : Nat} (hk : k = 4 ∨ k = 5 ∨ k = 6) (h4 : k = 4 → isName nm = true ∧ i = 0) (h5 : k = 5 → nm = [] ∧ 0 ≤ i ∧ i < v) (h6 : k = 6 → nm = [] ∧ 0 ≤ i ∧ i < m)
    (hv : v ≤ 100000) (hm : m ≤ 2000) (hl : nm.length ≤ 4) : Fits (mk k nm i []) 0 v m := by
  have hN := fits_node (d := 0) (ts := []) hk (by simp) (by simp) h4 h5 h6 hv hm hl
  refine ⟨hN.obj, hN.scope, hN.metas, by simp [depths], by simp [sizes], ?_⟩
  simp only [wt_mk, wts]; omega
end Go.LF.Tm
