/- abstract.replace's walk. -/
import Derived.Test.YthgmimncdjhgnaaGreatQCK
import Derived.Test.YthgmimncdjhgnaaGreatQCM
import Derived.Test.YthgmimncdjhgnaaGreatQFA
import Derived.Test.YthgmimncdjhgnaaGreatQFL
namespace Go.Proofs.YthgmimncdjhgnaaGreat
open Go.RowKit Go.LF
abbrev Pr2(M P:Nat)(m0 m1 m2 m3 m4 c0 c1 c2 c3:Value)(w':World):Prop:=
  (w'.cell? ⟨M,0,none⟩=some m0/\w'.cell? ⟨M,1,none⟩=some m1/\w'.cell? ⟨M,2,none⟩=some m2/\w'.cell? ⟨M,3,none⟩=some m3/\w'.cell? ⟨M,4,none⟩=some m4)/\X2 P c0 c1 c2 c3 w'
theorem Pr2.zF{M P:Nat}{m0 m1 m2 m3 m4 c0 c1 c2 c3:Value}{w w':World}{S:Nat->Prop}(h:Pr2 M P m0 m1 m2 m3 m4 c0 c1 c2 c3 w)(hU:zD S w w')(h1:¬S M)(h2:¬S P):Pr2 M P m0 m1 m2 m3 m4 c0 c1 c2 c3 w':=
  ⟨⟨hU.cell h.1.1 h1,hU.cell h.1.2.1 h1,hU.cell h.1.2.2.1 h1,hU.cell h.1.2.2.2.1 h1,hU.cell h.1.2.2.2.2 h1⟩,h.2.zF hU h2⟩
theorem Pr2.new{M P:Nat}{m0 m1 m2 m3 m4 c0 c1 c2 c3:Value}{w:World}(h:Pr2 M P m0 m1 m2 m3 m4 c0 c1 c2 c3 w)(o:Obj):Pr2 M P m0 m1 m2 m3 m4 c0 c1 c2 c3 (w.alloc o):=h.zF ((zD.refl zC w).alloc o) (fun x=>x) (fun x=>x)
theorem Pr2.set{M P g:Nat}{m0 m1 m2 m3 m4 c0 c1 c2 c3:Value}{w:World}(h:Pr2 M P m0 m1 m2 m3 m4 c0 c1 c2 c3 w)(h1:M≠g)(h2:P≠g)(o:Nat)(v:Value):Pr2 M P m0 m1 m2 m3 m4 c0 c1 c2 c3 (w.setCell ⟨g,o,none⟩ v):=
  h.zF (zD.set (zD.refl _ w) o v) h1 h2
theorem Xq{O:Nat->Prop}{W:World}{t u:Tm}{c0 c1 c2 c3 d0 d1 d2 d3:Value}{b:Nat}{T:TypeId}(h:zK O W t.zN [c0,c1,c2,c3])(h':zK O W u.zN [d0,d1,d2,d3])(hb:¬O b)(hB:W.heap[b]? =some (.cells #[c0,c1,c2,c3,d0,d1,d2,d3] T (0,0))):zH O W 4 ([t,u].map Tm.zN) (some ⟨b,0,none⟩) 0:=by
  have hlt:b<W.heap.size:=(Array.getElem?_eq_some_iff.1 hB).1;have hc:∀ i,W.cell? ⟨b,i,none⟩=(#[c0,c1,c2,c3,d0,d1,d2,d3]:Array Value)[i]? :=fun i=>by simp[World.cell?,hB]
  refine zn _ _ _ (fun i hi=>?_);have:i=0\/i=1:=by simp at hi;omega
  rcases this with rfl |rfl
  ·refine⟨b,0,_,rfl,hlt,hb,rfl,fun q v hv=>?_,h⟩;rw[show 0+0+0 * 4+q=q by omega,hc];match q,hv with
   |0,hv=>cases hv;rfl
   |1,hv=>cases hv;rfl
   |2,hv=>cases hv;rfl
   |3,hv=>cases hv;rfl
   |q+4,hv=>simp at hv
  ·refine⟨b,0,_,rfl,hlt,hb,rfl,fun q v hv=>?_,h'⟩;rw[show 0+0+1 * 4+q=q+4 by omega,hc];match q,hv with
   |0,hv=>cases hv;rfl
   |1,hv=>cases hv;rfl
   |2,hv=>cases hv;rfl
   |3,hv=>cases hv;rfl
   |q+4,hv=>simp at hv
end Go.Proofs.YthgmimncdjhgnaaGreat
