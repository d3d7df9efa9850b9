/- What layer 8's awake computes. -/
import Derived.Test.YthgmimncdjhgnaaGreatDoorKSC
namespace Go.LF
abbrev wC:Tm:=.mk 4 [99] 0 []
abbrev wA:Tm:=.mk 4 [118] 0 [wC]
end Go.LF
namespace Go.Proofs.YthgmimncdjhgnaaGreatDoor
open Go.RowKit Go.LF
theorem zF4{O:Nat->Prop}{E k i:Int}{n:List UInt8}{l:List Tm}{w w':World}{e:Ending}(h:Y4 O E (.mk k n i l) w e w'):
    ∃ a cap,e=.returned (.tuple #[.agg #[.int .i64 k,.string (B n),.int .i64 i,.slice a l.length cap],.int .i64 E])/\zM O w' (Tm.mk k n i l).zN [.int .i64 k,.string (B n),.int .i64 i,.slice a l.length cap]/\zD zC w w':=by
  obtain⟨k',i',n',a,len,cap,rfl,hR,hU⟩:=h
  obtain⟨a',cap',e,hc,hE⟩:=zk.1 hR
  simp only[List.cons.injEq,Value.int.injEq,Value.string.injEq,Value.slice.injEq,and_true,true_and]at e
  obtain⟨rfl,en,rfl,rfl,rfl,rfl⟩:=e
  exact⟨a,cap,by rw[en],by rw[en]at hR;exact hR,hU⟩
end Go.Proofs.YthgmimncdjhgnaaGreatDoor
