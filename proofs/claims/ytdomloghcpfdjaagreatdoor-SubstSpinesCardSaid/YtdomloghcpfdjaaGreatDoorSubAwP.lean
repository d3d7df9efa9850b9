/- What layer 8's awake computes. -/
import Derived.Test.YtdomloghcpfdjaaGreatDoorSubApl
import Derived.Test.YtdomloghcpfdjaaGreatDoorSubIns
namespace Go.LF
abbrev wC : Tm := .mk 4 [99] 0 []
abbrev wId : Tm := .mk 3 [] 0 [.mk 5 [] 0 []]
abbrev wX : Tm := .mk 5 [] 0 [wC]
abbrev wNat : Sm := .mk [110, 97, 116] []
abbrev wFun : Sm := .mk [110, 97, 116] [wNat]
abbrev wV : Tm := .mk 4 [118] 0 [.mk 5 [] 0 []]
abbrev wPi : Tm := .mk 2 [] 0 [wC, wV]
abbrev wA : Tm := .mk 4 [118] 0 [wC]
theorem w8a : manyE wX [wId] [wFun] = 0 ∧ manyT wX [wId] [wFun] = wC := by
  constructor
  · decide +kernel
  · rfl
theorem w8b : manyE wX [wC] [wFun] = 6 := by decide +kernel
theorem w8c : appE wId wFun [wC] = 0 := by decide +kernel
theorem w8d : instE wPi wC = 0 := by decide +kernel
end Go.LF
namespace Go.LF
theorem w8c2 : appT wId wFun [wC] = wC := rfl
theorem w8d2 : instT wPi wC = wA := rfl
theorem w8b2 : manyT wX [wC] [wFun] = Tm.none0 := by unfold manyT; rw [w8b]; rfl
theorem w8w : wX.wt ≤ 1000 ∧ wId.wt ≤ 1000 ∧ wC.wt ≤ 1000 ∧ wPi.wt ≤ 1000 ∧ wFun.wt ≤ 1000 := by decide +kernel
end Go.LF
