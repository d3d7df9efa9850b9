/- subst.Many. -/
import Derived.Test.YtdomloghcpfdjaaGreatDoorRCL
import Derived.Test.YtdomloghcpfdjaaGreatDoorREB
import Derived.Test.YtdomloghcpfdjaaGreatDoorREF
import Derived.Deep.CutRange
namespace Go.LF
namespace Tm
theorem apF_none (f : Tm → Sm → Tm → Nat → Res) (hf : ∀ u s b w, (f u s b w).e ≠ 0 → (f u s b w).t = none0) (us : List Tm) : ∀ (m : Tm) (ss : List Sm) (w : Nat), (apF f m ss us w).e ≠ 0 → (apF f m ss us w).t = none0 := by
  induction us with
  | nil =>
    intro m ss w h
    unfold apF at h ⊢
    split
    · rfl
    · rename_i hk; rw [if_neg hk] at h; unfold chk at h ⊢; split
      · rename_i h2; rw [if_pos h2] at h; exact absurd rfl h
      · rfl
  | cons u us ih =>
    intro m ss w h
    cases ss with
    | nil => unfold apF; rfl
    | cons s ss =>
      rw [apF] at h ⊢
      split
      · rename_i hk
        rw [if_pos hk] at h
        split
        · rename_i he; rw [if_pos he] at h; exact ih _ _ _ h
        · rename_i he; exact hf _ _ _ _ he
      · rfl
theorem sb_none (n : Nat) : ∀ ms ss d t w, (sb n ms ss d t w).e ≠ 0 → (sb n ms ss d t w).t = none0 := by
  induction n with
  | zero => intro ms ss d t w _; rw [sb]
  | succ n ih =>
    intro ms ss d t w h
    rw [sb] at h ⊢
    split
    · rfl
    · rename_i h1
      rw [if_neg h1] at h
      split
      · rename_i h2
        rw [if_pos h2] at h
        revert h
        have hck : ∀ (t : Tm) (w : Nat), (chk t w).e ≠ 0 → (chk t w).t = none0 := by
          intro t w h
          unfold chk at h ⊢
          split
          · rename_i h3; rw [if_pos h3] at h; exact absurd rfl h
          · rfl
        unfold sbN
        split
        · split
          · split
            · intro _; rfl
            · unfold ap
              split
              · exact apF_none _ (fun u s b w h => ih _ _ _ _ _ h) _ _ _ _
              · intro _; rfl
          · exact hck _ _
        · exact hck _ _
      · rfl
end Tm
end Go.LF
namespace Go.Proofs.YtdomloghcpfdjaaGreatDoor
open Go.RowKit Go.LF
/-- A row of one that has just been laid. -/
theorem RowS.one {O : Nat → Prop} {W : World} {t : Tm} {k i : Int} {n : List UInt8} {a : Option Addr} {len cap : Nat} (hR : Rep O W t.dat [.int .i64 k, .string (B n), .int .i64 i, .slice a len cap]) :
    RowS O W.heap.size (W.alloc (.cells #[.int .i64 k, .string (B n), .int .i64 i, .slice a len cap] 29)) (.slice (some ⟨W.heap.size, 0, none⟩) 1 1) [t] [[.int .i64 k, .string (B n), .int .i64 i, .slice a len cap]] := by
  refine ⟨rfl, by simp, ⟨by simp, .inr ⟨_, _, _, rfl, Nat.le_refl _, heap_alloc_new W _, Nat.le_refl _, by simp only [maxLen]; omega, by simp, by simp⟩⟩, fun j h h' => ?_⟩
  obtain rfl : j = 0 := by simpa using h
  exact (Rep.fresh' _ _ hR).on ((Upto.refl none' W).alloc _)
/-- What Many's first region reads. -/
abbrev Mn1 (H : Nat) (t0 t1 t2 t3 m0 s0 : Value) (w' : World) : Prop :=
  (w'.cell? ⟨H, 0, none⟩ = some t0 ∧ w'.cell? ⟨H, 1, none⟩ = some t1 ∧ w'.cell? ⟨H, 2, none⟩ = some t2 ∧ w'.cell? ⟨H, 3, none⟩ = some t3) ∧ w'.cell? ⟨H + 1, 0, none⟩ = some m0 ∧ w'.cell? ⟨H + 1 + 1, 0, none⟩ = some s0
theorem Mn1.keep {H : Nat} {t0 t1 t2 t3 m0 s0 : Value} {w w' : World} {S : Nat → Prop} (h : Mn1 H t0 t1 t2 t3 m0 s0 w) (hU : Upto S w w') (h1 : ¬ S H) (h2 : ¬ S (H + 1)) (h3 : ¬ S (H + 1 + 1)) : Mn1 H t0 t1 t2 t3 m0 s0 w' :=
  ⟨⟨hU.cell h.1.1 h1, hU.cell h.1.2.1 h1, hU.cell h.1.2.2.1 h1, hU.cell h.1.2.2.2 h1⟩, hU.cell h.2.1 h2, hU.cell h.2.2 h3⟩
theorem rep_pre' {O : Nat → Prop} {w : World} {wd : Nat} {ds : List Dat} {a : Option Addr} {j : Nat} (h : RepE O w wd ds a j) : RepE none' w wd ds a j := RepE.weaken (fun _ _ x => x.elim) _ _ _ _ h
end Go.Proofs.YtdomloghcpfdjaaGreatDoor
