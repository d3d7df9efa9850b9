/- meta.renumber's closure. -/
import Derived.Test.YthgmimncdjhgnaaGreatDoorWFA
import Derived.Test.YthgmimncdjhgnaaGreatDoorWFH
import Derived.Test.YthgmimncdjhgnaaGreatDoorWFI
import Derived.Deep.CutRange
import Derived.Deep.RegionHeld3
import Derived.Deep.RegionLaw
namespace Go.LF
mutual
def Y1(f:Int->Int):Tm->Tm
  | .mk k n i ts=>.mk k n (if k=6 then f i else i) (zHA f ts)
def zHA(f:Int->Int):List Tm->List Tm
  | []=>[]
  |t :: ts=>Y1 f t :: zHA f ts
end
end Go.LF
namespace Go.Proofs.YthgmimncdjhgnaaGreatDoor
section
open Go.RowKit Go.LF
theorem XI.zEy{W:World}{lo hi:Nat}{t:Tm}{cs:List Value}(h:XI W lo hi t cs):cs.length=4:=by cases h;rfl
abbrev rnV(tb wb:Nat):Value:=.func (.func 128) #[] #[.pointer (some ⟨tb,0,none⟩),.pointer (some ⟨wb,0,none⟩)]
structure RnW(rf:Int->Int)(tb wb M:Nat)(kvs:List (Value×Value))(W:World):Prop where
  bx:zt W tb (.map (some M)) 94
  wk:zt W wb (rnV tb wb) 140
  map:xF W M kvs
theorem RnW.zE{rf:Int->Int}{tb wb M:Nat}{kvs:List (Value×Value)}{W W':World}{S:Nat->Prop}(h:RnW rf tb wb M kvs W)(hU:zD S W W')(h1:¬S tb)(h2:¬S wb)(h3:¬S M):RnW rf tb wb M kvs W':=⟨h.bx.zE hU h1,h.wk.zE hU h2,h.map.on hU h3⟩
end
section
open Go.RowKit Go.LF
def Y3(W:World)(a:Option Addr)(zs:List Tm):Prop:=
  ∀ i(_:i<zs.length),∃ g cs,a=some ⟨g,0,none⟩/\g<W.heap.size/\(∀ o,W.frozen? ⟨g,o,none⟩=false)/\cs.length=4/\(∀ m u,cs[m]? =some u->W.cell? ⟨g,i * 4+m,none⟩=some u)/\zK (fun b=>b=g) W zs[i].zM cs
section
variable {W W':World}{a:Option Addr}{zs:List Tm}
theorem Y3.kept(h:Y3 W a zs)(hU:zD zC W W'):Y3 W' a zs:=by
  intro i hi;obtain⟨g,cs,h1,h2,h3,h4,h5,h6⟩:=h i hi;exact⟨g,cs,h1,Nat.lt_of_lt_of_le h2 hU.size,fun o=>by rw[hU.cells.2 g o h2 (fun x=>x)];exact h3 o,h4,fun m u hu=>hU.cell (h5 m u hu) (fun x=>x),h6.on hU⟩
theorem Y3.start{T:TypeId}{O:Nat->Prop}{base n cap:Nat}{css:List (List Value)}(h:yb T 4 O base W (.slice a n cap) (zs.map Tm.zM) css):Y3 W a zs:=by
  intro i hi;obtain⟨a',c',hv,_,hc⟩:=h.cells;simp only[Value.slice.injEq]at hv;obtain⟨rfl,_,rfl⟩:=hv;have hi':i<css.length:=by have:=h.1;simp at this;omega
  obtain⟨g,rfl,hown,hb,hlt,hf,hg⟩:=hc i (by simpa using hi) hi';have h6:=h.2.2.2 i (by simpa using hi) hi';simp only[List.getElem_map]at h6;exact⟨g,css[i],rfl,hlt,hf,h.2.1 _ (List.getElem_mem hi'),hg,zK.weaken (fun b _ e=>.inr (by rw[e];exact hown)) _ _ h6⟩
theorem Y3.next{g j:Nat}{u:Tm}{d0 d1 d2 d3:Value}(h:Y3 W (some ⟨g,0,none⟩) zs)(hj:j<zs.length)(hR:zK (fun b=>b=g) W u.zM [d0,d1,d2,d3])
    (hW:W'=(((W.setCell ⟨g,j * 4,none⟩ d0).setCell ⟨g,j * 4+1,none⟩ d1).setCell ⟨g,j * 4+2,none⟩ d2).setCell ⟨g,j * 4+3,none⟩ d3):Y3 W' (some ⟨g,0,none⟩) (zs.set j u)/\zD (fun b=>b=g) W W':=by
  obtain⟨g',cs,e,hlt,hf,hcl,hc,_⟩:=h j hj;cases e
  have hcj:∀ m,m<4->∃ u,W.cell? ⟨g,j * 4+m,none⟩=some u:=fun m hm=>⟨_,hc m _ (List.getElem?_eq_getElem (by rw[hcl];exact hm))⟩
  obtain⟨_,u0⟩:=hcj 0 (by omega);obtain⟨_,u1⟩:=hcj 1 (by omega);obtain⟨_,u2⟩:=hcj 2 (by omega);obtain⟨_,u3⟩:=hcj 3 (by omega);obtain⟨⟨v0,v1,v2,v3⟩,hoth,hU⟩:=ZP (d0:=d0) (d1:=d1) (d2:=d2) (d3:=d3) u0 u1 u2 u3 hW;refine⟨fun i hi=>?_,hU⟩;have hi':i<zs.length:=by simpa using hi
  obtain⟨g',cs',e,hlt',hf',hcl',hc',h7⟩:=h i hi';cases e
  have hfr:∀ o,W'.frozen? ⟨g,o,none⟩=false:=fun o=>by rw[hW];simp only[World.frozen?_setCell];exact hf o
  by_cases hij:i=j
  ·subst hij;refine⟨g,[d0,d1,d2,d3],rfl,Nat.lt_of_lt_of_le hlt hU.size,hfr,rfl,fun m x hx=>?_,?_⟩
   ·match m,hx with
    |0,hx=>cases hx;exact v0
    |1,hx=>cases hx;exact v1
    |2,hx=>cases hx;exact v2
    |3,hx=>cases hx;exact v3
   ·simp only[List.getElem_set_self];exact zK.zE hU (fun b e=>e) _ _ hR
  ·refine⟨g,cs',rfl,Nat.lt_of_lt_of_le hlt hU.size,hfr,hcl',fun m x hx=>?_,?_⟩
   ·have hm:m<4:=by rw[<-hcl'];exact(List.getElem?_eq_some_iff.1 hx).1
    rw[hoth _ (by omega) (by omega) (by omega) (by omega)];exact hc' m x hx
   ·rw[List.getElem_set_ne (by omega)];exact zK.zE hU (fun b e=>e) _ _ h7
theorem Y3.rep(h:Y3 W a zs):zH zC W 4 (zs.map Tm.zM) a 0:=by
  refine zp _ _ _ (fun i hi=>?_);simp only[List.length_map]at hi;obtain⟨g,cs,rfl,hlt,_,hcl,hc,h7⟩:=h i hi;refine⟨g,0,cs,rfl,hlt,fun x=>x,hcl,fun m u hu=>?_,?_⟩
  ·rw[show 0+0+i * 4+m=i * 4+m by omega];exact hc m u hu
  ·simp only[List.getElem_map];exact zK.weaken (fun _ _ e=>e.elim) _ _ h7
end
end
section
open Go.RowKit Go.LF
def zHG(E:Int)(ks:List Mv)(us:List Tm)(w:World)(e:Ending)(w':World):Prop:=
  ∃(ka ua:Option Addr)(kc uc:Nat),e=.returned (.tuple #[.slice ka ks.length kc,.slice ua us.length uc,.int .i64 E])/\(ks.length<=kc/\us.length<=uc)/\zH zC w' 6 (ks.map Mv.zM) ka 0/\zH zC w' 4 (us.map Tm.zM) ua 0/\zD zC w w'
def q8(E:Int)(ks:List Mv)(us:List Tm)(w:World)(e:Ending)(w':World):Prop:=
  ∃(ka ua:Option Addr)(kc uc:Nat),e=.returned (.tuple #[.slice ka ks.length kc,.slice ua us.length uc,.int .i64 E])/\(ks.length<=kc/\us.length<=uc)/\zH (fun b=>ua=some ⟨b,0,none⟩/\0<us.length) w' 6 (ks.map Mv.zM) ka 0/\Y3 w' ua us/\(∀ g,0<us.length->ua=some ⟨g,0,none⟩->w.heap.size<=g)/\zD zC w w'
theorem q8.plain{E:Int}{ks:List Mv}{us:List Tm}{w w':World}{e:Ending}(h:q8 E ks us w e w'):zHG E ks us w e w':=by
  obtain⟨ka,ua,kc,uc,h1,h2,h3,h4,_,h6⟩:=h;exact⟨ka,ua,kc,uc,h1,h2,zH.weaken (fun _ _ e=>e.elim) _ _ _ _ h3,h4.rep,h6⟩
theorem q8.bad{E:Int}{ks:List Mv}{us:List Tm}{w w':World}{E':Int}(h1:E'=E)(h2:ks=[])(h3:us=[])(hU:zD zC w w'):q8 E ks us w (.returned (.tuple #[.slice none 0 0,.slice none 0 0,.int .i64 E'])) w':=by
  subst h1 h2 h3;exact⟨none,none,0,0,rfl,⟨Nat.le_refl _,Nat.le_refl _⟩,zp _ _ _ (fun i hi=>by simp at hi),fun i hi=>by simp at hi,fun g h=>by simp at h,hU⟩
end
end Go.Proofs.YthgmimncdjhgnaaGreatDoor
