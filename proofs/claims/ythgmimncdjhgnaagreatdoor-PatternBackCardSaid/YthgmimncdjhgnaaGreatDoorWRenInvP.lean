/- RenameInverts, as plain data. -/
import Derived.Test.YthgmimncdjhgnaaGreatDoorWCK
namespace Go.LF
namespace Tm
theorem zGN{l:List Int}{v:Int}(h0:0<=v)(h1:v<l.length):zz l v=(l.getD v.toNat 0,true):=by
  unfold zz;rw[List.getElem?_eq_getElem (by omega)];simp[List.getD,show v.toNat<l.length by omega]
theorem zHP{t:Tm}{l:List Int}(hw:t.wf=0)(h:yG (zz l) 0 t=true):t.YL l=true/\t.Y1 l=mv (zz l) 0 t:=by
  have e:t.YL l=true:=by unfold YL;rw[hw,h];rfl
  exact⟨e,by unfold Y1;rw[e,if_pos rfl]⟩
end Tm
theorem swap_perm{l:List Int}(i k:Nat)(hi:i<l.length)(hk:k<l.length):((l.set i (l.getD k 0)).set k (l.getD i 0)).Perm l:=by
  have e1:l.getD k 0=l[k]:=by simp[List.getD,hk]
  have e2:l.getD i 0=l[i]:=by simp[List.getD,hi]
  rw[e1,e2];exact List.set_set_perm hi hk
end Go.LF
