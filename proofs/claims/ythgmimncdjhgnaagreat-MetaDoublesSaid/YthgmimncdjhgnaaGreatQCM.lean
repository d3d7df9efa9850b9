/- The reference's Long. -/
import Derived.Test.YthgmimncdjhgnaaGreatQCF
import Derived.Test.YthgmimncdjhgnaaGreatQCK
import Derived.Test.YthgmimncdjhgnaaGreatQCL
namespace Go.Proofs.YthgmimncdjhgnaaGreat
open Go.RowKit Go.LF
def cellAt(b j:Nat)(w:World):Value:=(w.cell? ⟨b,j,none⟩).getD undef
theorem YP{b j:Nat}{w:World}{v:Value}(h:w.cell? ⟨b,j,none⟩=some v):cellAt b j w=v:=by unfold cellAt;rw[h];rfl
theorem zL.at{W:World}{g:Nat}{c0 c1 c2 c3:Value}{T:TypeId}(h:zL W g c0 c1 c2 c3 T):cellAt g 0 W=c0/\cellAt g 1 W=c1/\cellAt g 2 W=c2/\cellAt g 3 W=c3:=⟨YP h.cells.1,YP h.cells.2.1,YP h.cells.2.2.1,YP h.cells.2.2.2⟩
theorem Xc{O:Nat->Prop}{W:World}{t:Tm}{c0 c1 c2 c3:Value}{b:Nat}{T:TypeId}(h:zK O W t.zN [c0,c1,c2,c3])(hb:¬O b)(hB:zL W b c0 c1 c2 c3 T):zH O W 4 ([t].map Tm.zN) (some ⟨b,0,none⟩) 0:=by
  obtain⟨a,cap,e,_,hE⟩:=zi.1 (qZ h hb hB 0 [] 0);simp only[List.cons.injEq,Value.slice.injEq,and_true,true_and]at e;obtain⟨rfl,_⟩:=e;exact hE
end Go.Proofs.YthgmimncdjhgnaaGreat
