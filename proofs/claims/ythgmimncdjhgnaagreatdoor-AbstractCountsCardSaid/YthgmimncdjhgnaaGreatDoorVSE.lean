/- What layer 8's awake computes. -/
import Derived.Test.YthgmimncdjhgnaaGreatDoorVSC
namespace Go.LF
abbrev wC:Tm:=.mk 4 [99] 0 []
abbrev wId:Tm:=.mk 3 [] 0 [.mk 5 [] 0 []]
abbrev zLb:Sm:=.mk [110,97,116] []
abbrev zLK:Sm:=.mk [110,97,116] [zLb]
abbrev wA:Tm:=.mk 4 [118] 0 [wC]
end Go.LF
namespace Go.Proofs.YthgmimncdjhgnaaGreatDoor
open Go.RowKit Go.LF
structure Aw8(b:Nat)(w w':World):Prop where
  fn:zk w' (b+1+1) (.string (B [110,97,116])) (.slice (some ⟨b+1,0,none⟩) 1 1) 115
  idb:zK w' (b+1+1+1+1) (.int .i64 3) (.string (B [])) (.int .i64 0) (.slice (some ⟨b+1+1+1,0,none⟩) 1 1) 29
  cb:zK w' (b+1+1+1+1+1) (.int .i64 4) (.string (B [99])) (.int .i64 0) (.slice none 0 0) 29
  zLd:zL zC w' zLK.zN [.string (B [110,97,116]),.slice (some ⟨b+1,0,none⟩) 1 1]
  zLR:zL zC w' wId.zN [.int .i64 3,.string (B []),.int .i64 0,.slice (some ⟨b+1+1+1,0,none⟩) 1 1]
  up:zD zC w w'
theorem Aw8.on{b:Nat}{w w' w1:World}(h:Aw8 b w w')(hU:zD zC w' w1):Aw8 b w w1:=⟨h.fn.kept hU,h.idb.kept hU,h.cb.kept hU,h.zLd.on hU,h.zLR.on hU,h.up.and hU⟩
end Go.Proofs.YthgmimncdjhgnaaGreatDoor
