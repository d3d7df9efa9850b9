/- What Abstract makes: bounds. No program is in sight here. -/
import Derived.Test.YthgmimncdjhgnaaGreatDoorVFU
import Derived.Test.YthgmimncdjhgnaaGreatDoorVAbsC
namespace Go.LF
open Tm Go.Proofs.YthgmimncdjhgnaaGreatDoor
theorem zKf{l:List Mv}(hP:YK l)(hS:y8 l)(hl:l.length<=10){a:Tm}{ms:List Tm}(h:ZC l a ms=0):∀ t∈ZX l a ms :: ZB l a ms,t.wt<=1000000:=by
  obtain⟨h1,h2,h3,h4,h5,h6⟩:=qW h;obtain⟨b,ns,e1,e2,e3,e4,e5⟩:=qZ hP h4 h2 h3 (fun t ht=>(h1 t ht).2);have eA:ZX l a ms=b:=by unfold ZX;rw[if_pos h,e1];rfl
  have eM:ZB l a ms=ns:=by unfold ZB;rw[if_pos h,e1];rfl
  obtain⟨f1,f2,f3⟩:=Qq hP hS hl h4 h2 h3 (fun t ht=>(h1 t ht).2);intro t ht;rw[eA,eM,<-e1]at ht;obtain⟨i,hi,rfl⟩:=List.getElem_of_mem ht;exact(f3 i (by omega) hi).2.1
abbrev Ar:Int->List UInt8->Int->Nat->Prop:=fun _ _ _ z=>z<=200
theorem zJs(pi:Bool){m:Mv}(hm:yk Ar m.type)(j:Nat){t:Tm}(ht:yk Ar t):yk Ar (par pi m j t):=by
  have hb:yk Ar (QK j 0 m.type):=by unfold QK;exact zCz (N:=Ar) (M:=Ar) _ (fun _ _ _ _ _ h=>h) _ _ hm
  unfold par;split
  ·rw[zy,zi];exact⟨by simp[Ar],fun x hx=>by simp only[List.mem_cons,List.not_mem_nil,or_false]at hx;rcases hx with rfl |rfl<;>assumption⟩
  ·rw[zy,zi];exact⟨by simp[Ar],fun x hx=>by simp only[List.mem_cons,List.not_mem_nil,or_false]at hx;rcases hx with rfl;assumption⟩
theorem zHh{K:List Mv}(hK:∀ m∈K,yk Ar m.type)(pi:Bool):∀(j:Nat)(t:Tm),yk Ar t->yk Ar (wrp pi K j t)
  |0,t,h=>by rw[wrp];exact h
  |j+1,t,h=>by
   rw[wrp];refine zHh hK pi j _ (zJs pi ?_ j h);by_cases hj:j<K.length
   ·rw[List.getD_eq_getElem?_getD,List.getElem?_eq_getElem hj];exact hK _ (List.getElem_mem hj)
   ·rw[List.getD_eq_getElem?_getD,List.getElem?_eq_none (by omega)];exact zw (Nat.zero_le _)
theorem zJI{l:List Mv}(hP:YK l){ts:List Tm}(h:ZU l ts=0)(hts:∀ t∈ts,yk Ar t):∀ u∈xQ l ts,∀ pi,yk Ar (Z6 (xE l ts) pi u):=by
  obtain⟨hA,hC,ho,hb⟩:=zAV hP h;intro u hu pi
  have hT:xQ l ts=(ts.map (zq l)).map (yL (xN (YD l ts))):=by
    unfold xQ;rw[if_pos h];unfold ZE;rw[if_pos hA]
  rw[hT]at hu;obtain⟨v,hv,rfl⟩:=List.mem_map.1 hu;obtain⟨y,hy,rfl⟩:=List.mem_map.1 hv;unfold Z6;refine zHh (fun m hm=>((QF hP h).kn m hm).1) pi _ _ ?_;unfold QK;exact zCz (N:=Ar) (M:=Ar) _ (fun _ _ _ _ _ h=>h) _ _ (zBV (N:=Ar) (M:=Ar) _ (fun _ _ _ _ h=>h) _ (zGM hP (hts y hy)))
theorem zJ7{l:List Mv}(hP:YK l)(hS:y8 l)(hl:l.length<=10){a:Tm}{ms:List Tm}(h:ZC l a ms=0)(hts:∀ t∈a :: ms,yk Ar t):∀ t∈ZX l a ms :: ZB l a ms,yk Ar t:=by
  obtain⟨h1,h2,h3,h4,h5,h6⟩:=qW h;obtain⟨b,ns,e1,e2,e3,e4,e5⟩:=qZ hP h4 h2 h3 (fun t ht=>(h1 t ht).2);have eA:ZX l a ms=b:=by unfold ZX;rw[if_pos h,e1];rfl
  have eM:ZB l a ms=ns:=by unfold ZB;rw[if_pos h,e1];rfl
  obtain⟨f1,f2,f3⟩:=Qq hP hS hl h4 h2 h3 (fun t ht=>(h1 t ht).2);intro t ht;rw[eA,eM,<-e1]at ht;obtain⟨i,hi,rfl⟩:=List.getElem_of_mem ht;rw[(f3 i (by omega) hi).1];exact zJI hP h4 hts _ (List.getElem_mem _) _
end Go.LF
