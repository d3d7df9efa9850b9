/- What a substitution hands back is small. No program is in sight here. -/
import Derived.Test.YtdomloghcpfdjaaGreatDoorEG
namespace Go.LF
theorem manyT_le (t : Tm) (ms : List Tm) (ss : List Sm) : (manyT t ms ss).size ≤ 4096 := by
  unfold manyT
  split
  · rename_i h
    unfold manyE at h
    split at h
    · omega
    split at h
    · omega
    split at h
    · omega
    split at h
    · omega
    exact Tm.small_size (Tm.sb_small 262145 ms ss 0 t 0 h)
  · simp [Tm.sizes]
end Go.LF
