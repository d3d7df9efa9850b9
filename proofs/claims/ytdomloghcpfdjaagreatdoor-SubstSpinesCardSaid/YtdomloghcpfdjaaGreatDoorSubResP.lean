/- Result, as plain data: what it hands back is well formed. No program is in sight here. -/
import Derived.Test.YtdomloghcpfdjaaGreatDoorSubIns
import Derived.Test.YtdomloghcpfdjaaGreatDoorSubWfP
namespace Go.LF
theorem manyE_sb9 {t : Tm} {ms : List Tm} {ss : List Sm} (h : manyE t ms ss = 0) : (Tm.sb 262145 ms ss 0 t 0).e = 0 ∧ manyT t ms ss = (Tm.sb 262145 ms ss 0 t 0).t := by
  have h0 := h
  unfold manyE at h
  split at h
  · omega
  split at h
  · omega
  split at h
  · omega
  split at h
  · omega
  exact ⟨h, by unfold manyT; rw [if_pos h0]⟩
theorem Tm.wf_pi2 {n : List UInt8} {i : Int} {l : List Tm} (h : (Tm.mk 2 n i l).wf = 0) : ∃ a b, l = [a, b] ∧ (b.isObj = true ∨ b.isTyp = true ∨ b.isKnd = true) ∧ b.depth ≤ 1000 := by
  have hd := (Tm.wf_any3 h).2.2
  rcases (Tm.wf_any3 h).1 with h1 | h1 | h1
  · rw [Tm.isObj] at h1; simp at h1
  · rw [Tm.isTyp, Tm.isAtom] at h1
    simp only [Tm.bound, Bool.or_eq_true, Bool.and_eq_true, beq_iff_eq] at h1
    rcases h1 with h1 | ⟨_, ⟨⟨_, hl⟩, _⟩, h3⟩
    · exact absurd h1.1 (by decide)
    obtain ⟨a, b, rfl⟩ : ∃ a b, l = [a, b] := by
      match l, hl with
      | [a, b], _ => exact ⟨a, b, rfl⟩
    simp only [Tm.allTyp, Bool.and_eq_true] at h3
    simp only [Tm.depth_mk, Tm.depths] at hd
    exact ⟨a, b, rfl, .inr (.inl h3.2.1), by omega⟩
  · unfold Tm.isKnd at h1
    split at h1
    · rename_i a b e
      cases e
      simp only [Bool.and_eq_true, beq_iff_eq] at h1
      simp only [Tm.depth_mk, Tm.depths] at hd
      exact ⟨a, b, rfl, .inr (.inr h1.2.2.2), by omega⟩
    · rename_i e
      injection e with e1
      subst e1
      simp at h1
theorem instT_wf {p m : Tm} (h : instE p m = 0) : (instT p m).wf = 0 := by
  have h0 := h
  unfold instT
  rw [if_pos h0]
  unfold instE at h
  split at h
  · rename_i h1; exact absurd h h1
  rename_i h1
  have h1 : firstE Tm.wf [p, m] = 0 := by simpa using h1
  split at h
  · omega
  rename_i hk
  split at h
  · omega
  rename_i hm
  have hm : (m.isObj && m.small) = true := by simpa using hm
  rw [Bool.and_eq_true] at hm
  obtain ⟨e1, e2⟩ := manyE_sb9 h
  rw [e2]
  have hp := firstE_zero Tm.wf [p, m] h1 p (by simp)
  cases p with
  | mk k n i l =>
    have hk : k = 2 := by simpa using hk
    subst hk
    obtain ⟨a, b, rfl, hb, hd⟩ := Tm.wf_pi2 hp
    simp only [Tm.args_mk, List.getD_cons_zero, List.getD_cons_succ] at e1 ⊢
    exact Tm.sb_wf (fun u hu => by obtain rfl : u = m := (by simpa using hu); exact hm) hb hd e1
/-- One argument behind the other: the first error. -/
def resE : Tm → List Tm → Int
  | _, [] => 0
  | a, m :: ms => if instE a m ≠ 0 then instE a m else resE (instT a m) ms
def resT : Tm → List Tm → Tm
  | a, [] => a
  | a, m :: ms => resT (instT a m) ms
theorem resE_cons (a m : Tm) (ms : List Tm) : resE a (m :: ms) = if instE a m ≠ 0 then instE a m else resE (instT a m) ms := by rw [resE]
theorem resT_cons (a m : Tm) (ms : List Tm) : resT a (m :: ms) = resT (instT a m) ms := by rw [resT]
/-- What Result hands back. -/
def resultE (a : Tm) (us : List Tm) : Int := if firstE Tm.wf (a :: us) ≠ 0 then firstE Tm.wf (a :: us) else if ((a.isTyp && a.small) || (a.isKnd && a.small)) = false then 32 else resE a us
def resultT (a : Tm) (us : List Tm) : Tm := if resultE a us = 0 then resT a us else Tm.none0
theorem resT_le (us : List Tm) : ∀ (a : Tm), a.size ≤ 100000 → resE a us = 0 → (resT a us).size ≤ 100000 := by
  induction us with
  | nil => intro a ha _; exact ha
  | cons u us ih =>
    intro a ha h
    rw [resE_cons] at h
    split at h
    · rename_i h1; exact absurd h h1
    · rename_i h1
      rw [resT_cons]
      have h1 : instE a u = 0 := by simpa using h1
      exact ih _ (by have := (Tm.wf_any3 (instT_wf h1)).2.1; omega) h
theorem resultT_le (a : Tm) (us : List Tm) (ha : a.size ≤ 100000) : (resultT a us).size ≤ 100000 := by
  unfold resultT
  split
  · rename_i h
    unfold resultE at h
    split at h
    · rename_i h1; exact absurd h h1
    split at h
    · omega
    exact resT_le us a ha h
  · simp [Tm.sizes]
namespace Tm
/-- A well-formed term moved by nothing. -/
theorem shift_zero0 (t : Tm) (hwf : t.wf = 0) : t.shiftE 0 0 = 0 ∧ t.shiftT 0 0 = t ∧ mv (shF 0 0) 0 t = t := by
  have hm : mv (shF 0 0) 0 t = t := by
    rw [mv_congr (shF 0 0) (fun i => (i, true)) t 0 (fun x _ => by unfold mvi shF; split <;> simp), mv_same]
  have hg : great (mv (shF 0 0) 0 t) ≤ 1048576 := by
    rw [hm]
    exact (great_le t 1048576 (by omega) 0).2 (fun x hx h5 => (((wf_ok t hwf).1 0 x hx).1 (by simp [h5])).2)
  obtain ⟨e1, e2⟩ := shift_ref t hwf 0 0 (by omega) (by omega) (by omega) (by omega)
  have he : t.shiftE 0 0 = 0 := by
    unfold shiftE
    rw [if_neg (by rw [hwf]; simp), if_neg (by omega), if_pos (e2.1 hg)]
  refine ⟨he, ?_, hm⟩
  unfold shiftT
  rw [he, if_pos rfl, ← e1, hm]
end Tm
end Go.LF
