/- What Apply and Instantiate hand back is small. No program is in sight here. -/
import Derived.Test.YtdomloghcpfdjaaGreatDoorSubApp
import Derived.Test.YtdomloghcpfdjaaGreatDoorSubIns
import Derived.Test.YtdomloghcpfdjaaGreatDoorSubMtP
namespace Go.LF
theorem appT_le8 (m : Tm) (s : Sm) (us : List Tm) : (appT m s us).size ≤ 4096 := by
  unfold appT
  split
  · rename_i h
    unfold appE at h
    split at h
    · omega
    split at h
    · omega
    split at h
    · omega
    refine Tm.small_size ?_
    unfold Tm.ap at h ⊢
    split
    · rename_i h2
      rw [if_pos h2] at h
      exact Tm.apF_small _ _ _ _ _ h
    · rename_i h2
      rw [if_neg h2] at h
      simp at h
  · simp [Tm.sizes]
theorem instT_le8 (p m : Tm) : (instT p m).size ≤ 4096 := by
  unfold instT
  split
  · exact manyT_le _ _ _
  · simp [Tm.sizes]
end Go.LF
