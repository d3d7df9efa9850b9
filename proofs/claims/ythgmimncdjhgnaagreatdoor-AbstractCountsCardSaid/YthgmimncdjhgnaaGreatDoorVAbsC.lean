/- Abstract of what Abstract returns. No program is in sight here. -/
import Derived.Test.YthgmimncdjhgnaaGreatDoorVFL
namespace Go.LF
open Tm Go.Proofs.YthgmimncdjhgnaaGreatDoor
theorem qc{α:Type}(f:α->Int):∀(l:List α),zo f l=0↔∀ x∈l,f x=0
  | []=>by simp[zo]
  |x :: xs=>by
   rw[zo];by_cases h:f x≠0
   ·rw[if_pos h];simp[h]
   ·rw[if_neg h,qc f xs];have:f x=0:=by omega
    simp[this]
theorem qW{l:List Mv}{a:Tm}{ms:List Tm}(h:ZC l a ms=0):(∀ t∈a :: ms,t.wf=0/\t.scope<=0)/\(a.zP=true\/a.zR=true)/\(∀ m∈ms,m.isObj=true)/\ZU l (a :: ms)=0/\(xE l (a :: ms)).length<=64/\∀ t∈Zz l (a :: ms),t.small=true:=by
  unfold ZC at h;by_cases h1:zo wf (a :: ms)≠0
  ·rw[if_pos h1]at h;exact absurd h h1
  rw[if_neg h1]at h;by_cases h2:(!(a.zP || a.zR)|| ms.any (fun m=>!m.isObj))=true
  ·rw[if_pos h2]at h;exact absurd h (by decide)
  rw[if_neg h2]at h;by_cases h3:(a :: ms).any (fun t=>decide (0<t.scope))=true
  ·rw[if_pos h3]at h;exact absurd h (by decide)
  rw[if_neg h3]at h;by_cases h4:ZU l (a :: ms)≠0
  ·rw[if_pos h4]at h;exact absurd h h4
  rw[if_neg h4]at h;by_cases h5:64<(xE l (a :: ms)).length
  ·rw[if_pos h5]at h;exact absurd h (by decide)
  rw[if_neg h5]at h;by_cases h6:(Zz l (a :: ms)).all small=true;case neg=>rw[if_neg h6]at h;exact absurd h (by decide)
  have h1:=(qc wf (a :: ms)).1 (by omega);simp only[Bool.or_eq_true,Bool.not_eq_true',Bool.or_eq_false_iff,List.any_eq_true,not_or,not_and,not_exists,Bool.not_eq_false,decide_eq_true_eq]at h2 h3;refine⟨fun t ht=>⟨h1 t ht,by have:=h3 t ht;omega⟩,?_,fun m hm=>by have:=h2.2 m hm;simpa using this,by omega,by omega,fun t ht=>List.all_eq_true.1 h6 t ht⟩;cases hb:a.zP with
  |true=>exact .inl rfl
  |false=>exact .inr (h2.1 hb)
theorem zHH{l:List Mv}(hP:YK l){a:Tm}{ms:List Tm}(h:ZU l (a :: ms)=0):∃ t0 ts,xQ l (a :: ms)=t0 :: ts/\ts.length=ms.length/\Zz l (a :: ms)=Z6 (xE l (a :: ms)) true t0 :: ts.map (Z6 (xE l (a :: ms)) false):=by
  have hl:=(YZ hP h).1;match hc:xQ l (a :: ms)with
  | []=>rw[hc]at hl;simp at hl
  |t0 :: ts=>
   rw[hc]at hl;refine⟨t0,ts,rfl,by simpa using hl,?_⟩;unfold Zz;rw[hc,Q9]
theorem qZ{l:List Mv}(hP:YK l){a:Tm}{ms:List Tm}(h:ZU l (a :: ms)=0)(ht:a.zP=true\/a.zR=true)(ho:∀ m∈ms,m.isObj=true)(hc:∀ t∈a :: ms,t.scope<=0):
    ∃ b ns,Zz l (a :: ms)=b :: ns/\ns.length=ms.length/\(b.zP=true\/b.zR=true)/\(∀ n∈ns,n.isObj=true)/\∀ t∈b :: ns,yk (fun k _ _ _=>k≠6) t/\t.scope<=0:=by
  obtain⟨t0,ts,e1,e2,e3⟩:=zHH hP h;have f0:=qU hP h true (i:=0) (by simp) (by rw[e1];simp) (hc _ (by simp)) (by rw[if_pos rfl];simpa using ht);simp only[e1,List.getElem_cons_zero]at f0;rw[if_pos trivial]at f0
  have fs:∀ n∈ts.map (Z6 (xE l (a :: ms)) false),yk (fun k _ _ _=>k≠6) n/\n.scope<=0/\n.isObj=true:=by
    intro n hn;obtain⟨t,ht,rfl⟩:=List.mem_map.1 hn;obtain⟨i,hi,rfl⟩:=List.getElem_of_mem ht;have hi2:i<ms.length:=by omega
    have f1:=qU hP h false (i:=i+1) (by simpa using hi2) (by rw[e1];simpa using hi) (by rw[List.getElem_cons_succ];exact hc _ (by simp)) (by rw[if_neg (by simp),List.getElem_cons_succ];exact ho _ (List.getElem_mem hi2));simp only[e1,List.getElem_cons_succ]at f1;simpa using f1
  refine⟨_,_,e3,by rw[List.length_map];exact e2,f0.2.2,fun n hn=>(fs n hn).2.2,fun t ht=>?_⟩;rcases List.mem_cons.1 ht with rfl |ht
  ·exact⟨f0.1,f0.2.1⟩
  ·exact⟨(fs t ht).1,(fs t ht).2.1⟩
theorem zHd{b:Tm}{ns:List Tm}(hb:b.zP=true\/b.zR=true)(hn:∀ n∈ns,n.isObj=true)(h:∀ t∈b :: ns,t.small=true/\yk (fun k _ _ _=>k≠6) t/\t.scope<=0):
    ZC [] b ns=0/\ZX [] b ns=b/\ZB [] b ns=ns/\QZ [] b ns=0:=by
  have hw:∀ t∈b :: ns,t.wf=0:=fun t ht=>by
    rw[Z0,if_pos (h t ht).1];rcases List.mem_cons.1 ht with rfl |ht
    ·exact .inr hb
    ·exact .inl (hn t ht)
  have hx:∀ t∈b :: ns,yg [] t=0/\zq [] t=t:=fun t ht=>zG3 (fun m hm=>by cases hm) (hw t ht) (by rw[qN (h t ht).2.1];intro i hi;cases hi)
  have hall:∀(ys:List Tm),(∀ y∈ys,yg [] y=0/\zq [] y=y)->ZD [] ys=0/\ZE [] ys=ys:=by
    intro ys hy
    have h1:ZD [] ys=0:=by
      induction ys with
      |nil=>rfl
      |cons y ys ih=>rw[ZD,if_neg (by simp[(hy y (by simp)).1]),ih (fun z hz=>hy z (by simp[hz]))]
    refine⟨h1,?_⟩;unfold ZE;rw[if_pos h1];clear h1;induction ys with
    |nil=>rfl
    |cons y ys ih=>rw[List.map_cons,(hy y (by simp)).2,ih (fun z hz=>hy z (by simp[hz]))]
  obtain⟨hA,hR⟩:=hall _ hx
  have hS:zEP [] (b :: ns)=⟨[],0⟩:=by
    unfold zEP;rw[hR,Xh]
    have:(b :: ns).flatMap Tm.zM=[]:=by
      rw[List.flatMap_eq_nil_iff];exact fun t ht=>qN (h t ht).2.1
    rw[this,Ys];rfl
  have hE:ZU [] (b :: ns)=0:=by unfold ZU;rw[if_neg (by simp[hA]),hS]
  have hO:YD [] (b :: ns)=[]:=by unfold YD;rw[if_pos hE,hS]
  have hK:xE [] (b :: ns)=[]:=by unfold xE;rw[hO];rfl
  have hT:xQ [] (b :: ns)=b :: ns:=by
    unfold xQ;rw[if_pos hE,hR,hO]
    have:∀ ys:List Tm,(∀ y∈ys,yL (xN []) y=y)->ys.map (yL (xN []))=ys:=by
      intro ys;induction ys with
      |nil=>intro _;rfl
      |cons y ys ih=>intro hy;rw[List.map_cons,hy y (by simp),ih (fun z hz=>hy z (by simp[hz]))]
    exact this _ (fun y hy=>zIo _ y (Yn (fun _ _ _ _ h e=>absurd e h) y (h y hy).2.1))
  have hab:∀(pi:Bool),∀ t∈b :: ns,Z6 [] pi t=t:=fun pi t ht=>by
    unfold Z6;show wrp pi [] 0 (QK 0 0 t)=t;rw[wrp];exact zFS _ _ _ (h t ht).2.1
  have hSS:Zz [] (b :: ns)=b :: ns:=by
    unfold Zz;rw[hK,hT,Q9,hab true b (by simp)];congr 1
    have:∀ ys:List Tm,(∀ y∈ys,Z6 [] false y=y)->ys.map (Z6 [] false)=ys:=by
      intro ys;induction ys with
      |nil=>intro _;rfl
      |cons y ys ih=>intro hy;rw[List.map_cons,hy y (by simp),ih (fun z hz=>hy z (by simp[hz]))]
    exact this ns (fun y hy=>hab false y (by simp[hy]))
  have hE0:ZC [] b ns=0:=by
    unfold ZC;rw[if_neg (by simp[(qc wf (b :: ns)).2 hw]),if_neg,if_neg,if_neg (by simp[hE]),if_neg (by rw[hK];simp),if_pos]
    ·rw[hSS,List.all_eq_true];exact fun t ht=>(h t ht).1
    ·simp only[List.any_eq_true,decide_eq_true_eq,not_exists,not_and];exact fun t ht=>by have:=(h t ht).2.2;omega
    ·simp only[Bool.or_eq_true,Bool.not_eq_true',Bool.or_eq_false_iff,List.any_eq_true,not_or,not_and,not_exists,Bool.not_eq_false];exact⟨fun e=>hb.elim (fun h=>by rw[h]at e;cases e) id,fun n h2=>hn n h2⟩
  refine⟨hE0,?_,?_,?_⟩
  ·unfold ZX;rw[if_pos hE0,hSS];rfl
  ·unfold ZB;rw[if_pos hE0,hSS];rfl
  ·unfold QZ;rw[if_pos hE0,hK];rfl
theorem zE8{l:List Mv}(hP:YK l){a:Tm}{ms:List Tm}(h:ZC l a ms=0):
    ZU l (a :: ms)=0/\QZ l a ms=(YD l (a :: ms)).length/\(ZB l a ms).length=ms.length/\
    (∀ t∈ZX l a ms :: ZB l a ms,t.wf=0/\Tm.zM t=[]/\t.scope<=0)/\
    ZC [] (ZX l a ms) (ZB l a ms)=0/\ZX [] (ZX l a ms) (ZB l a ms)=ZX l a ms/\ZB [] (ZX l a ms) (ZB l a ms)=ZB l a ms/\QZ [] (ZX l a ms) (ZB l a ms)=0:=by
  obtain⟨h1,h2,h3,h4,h5,h6⟩:=qW h;obtain⟨b,ns,e1,e2,e3,e4,e5⟩:=qZ hP h4 h2 h3 (fun t ht=>(h1 t ht).2);have eA:ZX l a ms=b:=by unfold ZX;rw[if_pos h,e1];rfl
  have eM:ZB l a ms=ns:=by unfold ZB;rw[if_pos h,e1];rfl
  rw[eA,eM];rw[e1]at h6
  have hw:∀ t∈b :: ns,t.wf=0:=fun t ht=>by
    rw[Z0,if_pos (h6 t ht)];rcases List.mem_cons.1 ht with rfl |ht
    ·exact .inr e3
    ·exact .inl (e4 t ht)
  refine⟨h4,?_,e2,fun t ht=>⟨hw t ht,qN (e5 t ht).1,(e5 t ht).2⟩,zHd e3 e4 (fun t ht=>⟨h6 t ht,e5 t ht⟩)⟩;unfold QZ;rw[if_pos h];unfold xE;rw[List.length_map]
end Go.LF
