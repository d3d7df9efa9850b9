/- subst.Many. -/
import Derived.Test.YthgmimncdjhgnaaGreatDoorKCL
import Derived.Test.YthgmimncdjhgnaaGreatDoorKEB
import Derived.Test.YthgmimncdjhgnaaGreatDoorKEF
import Derived.Deep.CutRange
namespace Go.LF
namespace Tm
theorem zAI(f:Tm->Sm->Tm->Nat->xU)(hf:∀ u s b w,(f u s b w).e≠0->(f u s b w).t=zT)(us:List Tm):∀(m:Tm)(ss:List Sm)(w:Nat),(Z8 f m ss us w).e≠0->(Z8 f m ss us w).t=zT:=by
  induction us with
  |nil=>
   intro m ss w h
   unfold Z8 at h ⊢
   split
   ·rfl
   ·rename_i hk;rw[if_neg hk]at h;unfold ZU at h ⊢;split
    ·rename_i h2;rw[if_pos h2]at h;exact absurd rfl h
    ·rfl
  |cons u us ih=>
   intro m ss w h
   cases ss with
   |nil=>unfold Z8;rfl
   |cons s ss=>
    rw[Z8]at h ⊢
    split
    ·rename_i hk
     rw[if_pos hk]at h
     split
     ·rename_i he;rw[if_pos he]at h;exact ih _ _ _ h
     ·rename_i he;exact hf _ _ _ _ he
    ·rfl
theorem zCk(n:Nat):∀ ms ss d t w,(sb n ms ss d t w).e≠0->(sb n ms ss d t w).t=zT:=by
  induction n with
  |zero=>intro ms ss d t w _;rw[sb]
  |succ n ih=>
   intro ms ss d t w h
   rw[sb]at h ⊢
   split
   ·rfl
   ·rename_i h1
    rw[if_neg h1]at h
    split
    ·rename_i h2
     rw[if_pos h2]at h
     revert h
     have hck:∀(t:Tm)(w:Nat),(ZU t w).e≠0->(ZU t w).t=zT:=by
       intro t w h
       unfold ZU at h ⊢
       split
       ·rename_i h3;rw[if_pos h3]at h;exact absurd rfl h
       ·rfl
     unfold sbN
     split
     ·split
      ·split
       ·intro _;rfl
       ·unfold ap
        split
        ·exact zAI _ (fun u s b w h=>ih _ _ _ _ _ h) _ _ _ _
        ·intro _;rfl
      ·exact hck _ _
     ·exact hck _ _
    ·rfl
end Tm
end Go.LF
namespace Go.Proofs.YthgmimncdjhgnaaGreatDoor
open Go.RowKit Go.LF
theorem ZC.one{O:Nat->Prop}{W:World}{t:Tm}{k i:Int}{n:List UInt8}{a:Option Addr}{len cap:Nat}(hR:zM O W t.zN [.int .i64 k,.string (B n),.int .i64 i,.slice a len cap]):
    ZC O W.heap.size (W.alloc (.cells #[.int .i64 k,.string (B n),.int .i64 i,.slice a len cap] 29)) (.slice (some ⟨W.heap.size,0,none⟩) 1 1) [t] [[.int .i64 k,.string (B n),.int .i64 i,.slice a len cap]]:=by
  refine⟨rfl,by simp,⟨by simp,.inr ⟨_,_,_,rfl,Nat.le_refl _,heap_alloc_new W _,Nat.le_refl _,by simp only[maxLen];omega,by simp,by simp⟩⟩,fun j h h'=>?_⟩
  obtain rfl:j=0:=by simpa using h
  exact(zM.zQ _ _ hR).on ((zD.refl zC W).alloc _)
theorem qm{O:Nat->Prop}{w:World}{wd:Nat}{ds:List yz}{a:Option Addr}{j:Nat}(h:zG O w wd ds a j):zG zC w wd ds a j:=zG.weaken (fun _ _ x=>x.elim) _ _ _ _ h
end Go.Proofs.YthgmimncdjhgnaaGreatDoor
