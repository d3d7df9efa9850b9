/- What layer 8's awake computes. -/
import Derived.Test.YthgmimncdjhgnaaGreatDoorYSC
namespace Go.LF
abbrev wC:Tm:=.mk 4 [99] 0 []
abbrev wId:Tm:=.mk 3 [] 0 [.mk 5 [] 0 []]
abbrev zKj:Sm:=.mk [110,97,116] []
abbrev zKW:Sm:=.mk [110,97,116] [zKj]
abbrev wA:Tm:=.mk 4 [118] 0 [wC]
end Go.LF
namespace Go.Proofs.YthgmimncdjhgnaaGreatDoor
open Go.RowKit Go.LF
structure Aw8(b:Nat)(w w':World):Prop where
  fn:zx w' (b+1+1) (.string (B [110,97,116])) (.slice (some ⟨b+1,0,none⟩) 1 1) 115
  idb:zI w' (b+1+1+1+1) (.int .i64 3) (.string (B [])) (.int .i64 0) (.slice (some ⟨b+1+1+1,0,none⟩) 1 1) 29
  cb:zI w' (b+1+1+1+1+1) (.int .i64 4) (.string (B [99])) (.int .i64 0) (.slice none 0 0) 29
  zKT:zJ zC w' zKW.zM [.string (B [110,97,116]),.slice (some ⟨b+1,0,none⟩) 1 1]
  zKd:zJ zC w' wId.zM [.int .i64 3,.string (B []),.int .i64 0,.slice (some ⟨b+1+1+1,0,none⟩) 1 1]
  up:zD zC w w'
theorem Aw8.on{b:Nat}{w w' w1:World}(h:Aw8 b w w')(hU:zD zC w' w1):Aw8 b w w1:=⟨h.fn.kept hU,h.idb.kept hU,h.cb.kept hU,h.zKT.on hU,h.zKd.on hU,h.up.and hU⟩
end Go.Proofs.YthgmimncdjhgnaaGreatDoor
