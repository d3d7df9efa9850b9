/- What SubstShaped compares is never an error of the shape, and what it compares is small. No program is in sight here. -/
import Derived.Test.YtadphaobbpngkaaSubApp
import Derived.Test.YtadphaobbpngkaaSubMtP
import Derived.Test.YtadphaobbpngkaaShpdP
import Derived.Test.YtadphaobbpngkaaCA
namespace Go.LF
theorem firstE_ne6 {α : Type} (f : α → Int) (hf : ∀ x, f x ≠ 6) (l : List α) : firstE f l ≠ 6 := by
  induction l with
  | nil => simp [firstE]
  | cons x xs ih =>
    rw [firstE]
    split
    · exact hf x
    · exact ih
theorem Tm.wf_ne6 (t : Tm) : t.wf ≠ 6 := by
  unfold Tm.wf
  split
  · omega
  · split <;> omega
theorem Sm.wf_ne6 (s : Sm) : s.wf ≠ 6 := by
  unfold Sm.wf
  split
  · omega
  · split <;> omega
theorem manyE_ne6 {Γ : List Sm} {t m : Tm} {s : Sm} {ty : List Sm} (ht : Tm.shp (s :: Γ) ty t) (hm : Tm.shp Γ s.args m) : manyE t [m] [s] ≠ 6 := by
  unfold manyE
  split
  · exact firstE_ne6 _ Tm.wf_ne6 _
  split
  · exact firstE_ne6 _ Sm.wf_ne6 _
  split
  · omega
  split
  · omega
  exact (Tm.sb_shp 262145 [] Γ [m] [s] t ty 0 0 (by simp) (Tm.shpA_one.2 hm) (by simpa using ht)).1
theorem appE_ne6 {Γ : List Sm} {m : Tm} {s : Sm} {us : List Tm} (hm : Tm.shp Γ s.args m) (hu : Tm.shpA Γ s.args us) : appE m s us ≠ 6 := by
  unfold appE
  split
  · exact firstE_ne6 _ Tm.wf_ne6 _
  split
  · exact Sm.wf_ne6 _
  split
  · omega
  exact Tm.ap_shp 262145 Γ m s.args us 0 hm hu
theorem appT_le (m : Tm) (s : Sm) (us : List Tm) : (appT m s us).size ≤ 4096 := by
  unfold appT
  split
  · rename_i h
    unfold appE at h
    split at h
    · omega
    split at h
    · omega
    split at h
    · omega
    refine Tm.small_size ?_
    unfold Tm.ap at h ⊢
    split
    · rename_i h2
      rw [if_pos h2] at h
      exact Tm.apF_small _ _ _ _ _ h
    · rename_i h2
      rw [if_neg h2] at h
      simp at h
  · simp [Tm.sizes]
end Go.LF
