/- The reference's Long. -/
import Derived.Test.YthgmimncdjhgnaaGreatDoorKCF
import Derived.Test.YthgmimncdjhgnaaGreatDoorKCK
import Derived.Test.YthgmimncdjhgnaaGreatDoorKCL
namespace Go.LF.Tm
theorem zK0(m:Nat)(i:Int)(h0:0<=i):mv (ZY m 0) 0 (mk 5 [] i [])=mk 5 [] (i+m) []:=by
  have e:Z1 (ZY m 0) 0 5 i=i+m:=by
    unfold Z1
    rw[if_pos ⟨rfl,h0⟩]
    unfold ZY
    simp only
    rw[if_neg (by omega)]
    omega
  rw[x7,ZA,e]
end Go.LF.Tm
namespace Go.Proofs.YthgmimncdjhgnaaGreatDoor
open Go.RowKit Go.LF
theorem zD4{O:Nat->Prop}{W:World}{t:Tm}{c0 c1 c2 c3:Value}{b:Nat}{T:TypeId}(h:zM O W t.zN [c0,c1,c2,c3])(hb:¬O b)(hB:zK W b c0 c1 c2 c3 T):zG O W 4 ([t].map Tm.zN) (some ⟨b,0,none⟩) 0:=by
  obtain⟨a,cap,e,_,hE⟩:=zk.1 (zAE h hb hB 0 [] 0)
  simp only[List.cons.injEq,Value.slice.injEq,and_true,true_and]at e
  obtain⟨rfl,_⟩:=e
  exact hE
theorem zJ3{O:Nat->Prop}{W:World}{b:Nat}{t:Tm}{t0 t1 t2 t3:Value}{T:TypeId}(hB:zK W b t0 t1 t2 t3 T)(hR:zM O W t.zN [t0,t1,t2,t3])(hb:O b)(hO:∀ x,O x->x<W.heap.size)(k:Int)(n:List UInt8)(i:Int){W':World}
    (hW:W'=((((W.setCell ⟨b,0,none⟩ (.int .i64 k)).setCell ⟨b,1,none⟩ (.string (B n))).setCell ⟨b,2,none⟩ (.int .i64 i)).setCell ⟨b,3,none⟩ (.slice (some ⟨W.heap.size,0,none⟩) 1 1)).alloc (.cells #[t0,t1,t2,t3] T)):
    zK W' b (.int .i64 k) (.string (B n)) (.int .i64 i) (.slice (some ⟨W.heap.size,0,none⟩) 1 1) T/\zM O W' (Tm.mk k n i [t]).zN [.int .i64 k,.string (B n),.int .i64 i,.slice (some ⟨W.heap.size,0,none⟩) 1 1]/\zD (fun x=>x=b) W W':=by
  subst hW
  have hs:=hB.set (d0:=.int .i64 k) (d1:=.string (B n)) (d2:=.int .i64 i) (d3:=.slice (some ⟨W.heap.size,0,none⟩) 1 1)
  have hU:=hs.2.alloc (.cells #[t0,t1,t2,t3] T)
  exact⟨hs.1.kept ((zD.refl zC _).alloc _),zAE (zM.zF hU (fun x e=>by subst e;exact hb) _ _ hR) (fun e=>by have:=hO _ e;omega) (zK.zL (by simp)) k n i,hU⟩
end Go.Proofs.YthgmimncdjhgnaaGreatDoor
