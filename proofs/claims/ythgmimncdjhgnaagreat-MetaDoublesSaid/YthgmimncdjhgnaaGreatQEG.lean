/- subst.Many. -/
import Derived.Test.YthgmimncdjhgnaaGreatQCL
import Derived.Test.YthgmimncdjhgnaaGreatQEB
import Derived.Test.YthgmimncdjhgnaaGreatQEF
import Derived.Deep.CutRange
namespace Go.LF
namespace Tm
theorem qx(f:Tm->Sm->Tm->Nat->yw)(hf:∀ u s b w,(f u s b w).e≠0->(f u s b w).t=zR)(us:List Tm):∀(m:Tm)(ss:List Sm)(w:Nat),(ZN f m ss us w).e≠0->(ZN f m ss us w).t=zR:=by
  induction us with
  |nil=>
   intro m ss w h;unfold ZN at h ⊢;split
   ·rfl
   ·rename_i hk;rw[if_neg hk]at h;unfold xp at h ⊢;split
    ·rename_i h2;rw[if_pos h2]at h;exact absurd rfl h
    ·rfl
  |cons u us ih=>
   intro m ss w h;cases ss with
   |nil=>unfold ZN;rfl
   |cons s ss=>
    rw[ZN]at h ⊢;split
    ·rename_i hk;rw[if_pos hk]at h;split
     ·rename_i he;rw[if_pos he]at h;exact ih _ _ _ h
     ·rename_i he;exact hf _ _ _ _ he
    ·rfl
theorem zBH(n:Nat):∀ ms ss d t w,(sb n ms ss d t w).e≠0->(sb n ms ss d t w).t=zR:=by
  induction n with
  |zero=>intro ms ss d t w _;rw[sb]
  |succ n ih=>
   intro ms ss d t w h;rw[sb]at h ⊢;split
   ·rfl
   ·rename_i h1;rw[if_neg h1]at h;split
    ·rename_i h2;rw[if_pos h2]at h;revert h
     have hck:∀(t:Tm)(w:Nat),(xp t w).e≠0->(xp t w).t=zR:=by
       intro t w h;unfold xp at h ⊢;split
       ·rename_i h3;rw[if_pos h3]at h;exact absurd rfl h
       ·rfl
     unfold Q3;split
     ·split
      ·split
       ·intro _;rfl
       ·unfold ap;split
        ·exact qx _ (fun u s b w h=>ih _ _ _ _ _ h) _ _ _ _
        ·intro _;rfl
      ·exact hck _ _
     ·exact hck _ _
    ·rfl
end Tm
end Go.LF
namespace Go.Proofs.YthgmimncdjhgnaaGreat
open Go.RowKit Go.LF
theorem xr.one{O:Nat->Prop}{W:World}{t:Tm}{k i:Int}{n:List UInt8}{a:Option Addr}{len cap:Nat}(hR:zK O W t.zN [.int .i64 k,.string (B n),.int .i64 i,.slice a len cap]):
    xr O W.heap.size (W.alloc (.cells #[.int .i64 k,.string (B n),.int .i64 i,.slice a len cap] 25)) (.slice (some ⟨W.heap.size,0,none⟩) 1 1) [t] [[.int .i64 k,.string (B n),.int .i64 i,.slice a len cap]]:=by
  refine⟨rfl,by simp,⟨by simp,.inr ⟨_,_,_,rfl,Nat.le_refl _,heap_alloc_new W _,Nat.le_refl _,by simp only[maxLen];omega,by simp,by simp⟩⟩,fun j h h'=>?_⟩;obtain rfl:j=0:=by simpa using h
  exact(zK.zU _ _ hR).on ((zD.refl zC W).alloc _)
abbrev Mn1(H:Nat)(t0 t1 t2 t3 m0 s0:Value)(w':World):Prop:=
  (w'.cell? ⟨H,0,none⟩=some t0/\w'.cell? ⟨H,1,none⟩=some t1/\w'.cell? ⟨H,2,none⟩=some t2/\w'.cell? ⟨H,3,none⟩=some t3)/\w'.cell? ⟨H+1,0,none⟩=some m0/\w'.cell? ⟨H+1+1,0,none⟩=some s0
theorem Mn1.zF{H:Nat}{t0 t1 t2 t3 m0 s0:Value}{w w':World}{S:Nat->Prop}(h:Mn1 H t0 t1 t2 t3 m0 s0 w)(hU:zD S w w')(h1:¬S H)(h2:¬S (H+1))(h3:¬S (H+1+1)):Mn1 H t0 t1 t2 t3 m0 s0 w':=
  ⟨⟨hU.cell h.1.1 h1,hU.cell h.1.2.1 h1,hU.cell h.1.2.2.1 h1,hU.cell h.1.2.2.2 h1⟩,hU.cell h.2.1 h2,hU.cell h.2.2 h3⟩
theorem XU{O:Nat->Prop}{w:World}{wd:Nat}{ds:List yv}{a:Option Addr}{j:Nat}(h:zH O w wd ds a j):zH zC w wd ds a j:=zH.weaken (fun _ _ x=>x.elim) _ _ _ _ h
end Go.Proofs.YthgmimncdjhgnaaGreat
