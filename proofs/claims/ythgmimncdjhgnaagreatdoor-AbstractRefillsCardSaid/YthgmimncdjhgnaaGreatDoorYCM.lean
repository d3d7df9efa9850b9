/- The reference's Long. -/
import Derived.Test.YthgmimncdjhgnaaGreatDoorYCF
import Derived.Test.YthgmimncdjhgnaaGreatDoorYCK
import Derived.Test.YthgmimncdjhgnaaGreatDoorYCL
namespace Go.Proofs.YthgmimncdjhgnaaGreatDoor
open Go.RowKit Go.LF
def cellAt(b j:Nat)(w:World):Value:=(w.cell? ⟨b,j,none⟩).getD undef
theorem XM{b j:Nat}{w:World}{v:Value}(h:w.cell? ⟨b,j,none⟩=some v):cellAt b j w=v:=by unfold cellAt;rw[h];rfl
theorem zI.at{W:World}{g:Nat}{c0 c1 c2 c3:Value}{T:TypeId}(h:zI W g c0 c1 c2 c3 T):cellAt g 0 W=c0/\cellAt g 1 W=c1/\cellAt g 2 W=c2/\cellAt g 3 W=c3:=⟨XM h.cells.1,XM h.cells.2.1,XM h.cells.2.2.1,XM h.cells.2.2.2⟩
theorem zDW{O:Nat->Prop}{W:World}{t:Tm}{c0 c1 c2 c3:Value}{b:Nat}{T:TypeId}(h:zJ O W t.zM [c0,c1,c2,c3])(hb:¬O b)(hB:zI W b c0 c1 c2 c3 T):zF O W 4 ([t].map Tm.zM) (some ⟨b,0,none⟩) 0:=by
  obtain⟨a,cap,e,_,hE⟩:=zd.1 (zBt h hb hB 0 [] 0)
  simp only[List.cons.injEq,Value.slice.injEq,and_true,true_and]at e
  obtain⟨rfl,_⟩:=e
  exact hE
end Go.Proofs.YthgmimncdjhgnaaGreatDoor
