/- Abstract of K5 Abstract returns. No program is in qP here. -/
import Derived.Test.YthgmimncdjhgnaaGreatDoorXFU
namespace Go.LF
open Tm Go.Proofs.YthgmimncdjhgnaaGreatDoor
theorem wD{α:Type}(f:α->Int):∀(l:List α),bI f l=0↔∀ x∈l,f x=0
  | []=>by simp[bI]
  |x :: xs=>by
   rw[bI];by_cases h:f x≠0
   ·rw[if_pos h];simp[h]
   rw[if_neg h,wD f xs];have:f x=0:=by omega
   simp[this]
theorem we{l:List Mv}{a:Tm}{ms:List Tm}(h:iP l a ms=0):(∀ t∈a :: ms,t.wf=0/\t.scope<=0)/\(a.aC=true\/a.aI=true)/\(∀ m∈ms,m.isObj=true)/\iz l (a :: ms)=0/\(fk l (a :: ms)).length<=64/\∀ t∈kC l (a :: ms),t.small=true:=by
  unfold iP at h;by_cases h1:bI wf (a :: ms)≠0
  ·rw[if_pos h1]at h;exact absurd h h1
  rw[if_neg h1]at h;by_cases h2:(!(a.aC || a.aI)|| ms.any (fun m=>!m.isObj))=true
  ·rw[if_pos h2]at h;exact absurd h (by decide)
  rw[if_neg h2]at h;by_cases h3:(a :: ms).any (fun t=>decide (0<t.scope))=true
  ·rw[if_pos h3]at h;exact absurd h (by decide)
  rw[if_neg h3]at h;by_cases h4:iz l (a :: ms)≠0
  ·rw[if_pos h4]at h;exact absurd h h4
  rw[if_neg h4]at h;by_cases h5:64<(fk l (a :: ms)).length
  ·rw[if_pos h5]at h;exact absurd h (by decide)
  rw[if_neg h5]at h;by_cases h6:(kC l (a :: ms)).all small=true;case neg=>rw[if_neg h6]at h;exact absurd h (by decide)
  have h1:=(wD wf (a :: ms)).1 (by omega);simp only[Bool.or_eq_true,Bool.not_eq_true',Bool.or_eq_false_iff,List.any_eq_true,not_or,not_and,not_exists,Bool.not_eq_false,decide_eq_true_eq]at h2 h3;refine⟨fun t ht=>⟨h1 t ht,by have:=h3 t ht;omega⟩,?_,fun m hm=>by have:=h2.2 m hm;simpa using this,by omega,by omega,fun t ht=>List.all_eq_true.1 h6 t ht⟩;cases hb:a.aC with
  |true=>exact .inl rfl
  |false=>exact .inr (h2.1 hb)
theorem Jc{l:List Mv}(hP:lf l){a:Tm}{ms:List Tm}(h:iz l (a :: ms)=0):∃ t0 ts,fQ l (a :: ms)=t0 :: ts/\ts.length=ms.length/\kC l (a :: ms)=m8 (fk l (a :: ms)) true t0 :: ts.map (m8 (fk l (a :: ms)) false):=by
  have hl:=(jV hP h).1;match hc:fQ l (a :: ms)with
  | []=>rw[hc]at hl;simp at hl
  |t0 :: ts=>
   rw[hc]at hl;refine⟨t0,ts,rfl,by simpa using hl,?_⟩;unfold kC;rw[hc,vN]
theorem Gd{l:List Mv}(hP:lf l){a:Tm}{ms:List Tm}(h:iz l (a :: ms)=0)(ht:a.aC=true\/a.aI=true)(ho:∀ m∈ms,m.isObj=true)(hc:∀ t∈a :: ms,t.scope<=0):
    ∃ b ns,kC l (a :: ms)=b :: ns/\ns.length=ms.length/\(b.aC=true\/b.aI=true)/\(∀ n∈ns,n.isObj=true)/\∀ t∈b :: ns,fi (fun k _ _ _=>k≠6) t/\t.scope<=0:=by
  obtain⟨t0,ts,e1,e2,e3⟩:=Jc hP h;have f0:=qf hP h true (i:=0) (by simp) (by rw[e1];simp) (hc _ (by simp)) (by rw[if_pos rfl];simpa using ht);simp only[e1,List.getElem_cons_zero]at f0;rw[if_pos trivial]at f0
  have fs:∀ n∈ts.map (m8 (fk l (a :: ms)) false),fi (fun k _ _ _=>k≠6) n/\n.scope<=0/\n.isObj=true:=by
    intro n hn;obtain⟨t,ht,rfl⟩:=List.mem_map.1 hn;obtain⟨i,hi,rfl⟩:=List.getElem_of_mem ht;have eH:i<ms.length:=by omega
    have f1:=qf hP h false (i:=i+1) (by simpa using eH) (by rw[e1];simpa using hi) (by rw[List.getElem_cons_succ];exact hc _ (by simp)) (by rw[if_neg (by simp),List.getElem_cons_succ];exact ho _ (List.getElem_mem eH));simp only[e1,List.getElem_cons_succ]at f1;simpa using f1
  refine⟨_,_,e3,by rw[List.length_map];exact e2,f0.2.2,fun n hn=>(fs n hn).2.2,fun t ht=>?_⟩;rcases List.mem_cons.1 ht with rfl |ht
  ·exact⟨f0.1,f0.2.1⟩
  exact⟨(fs t ht).1,(fs t ht).2.1⟩
end Go.LF
namespace Go.LF
open Tm Go.Proofs.YthgmimncdjhgnaaGreatDoor
theorem Ux{l:List Mv}(hP:lf l)(hS:eD l)(hl:l.length<=10){a:Tm}{ms:List Tm}(h:iP l a ms=0):∀ t∈lC l a ms :: jL l a ms,t.wt<=1000000:=by
  obtain⟨h1,h2,h3,h4,h5,h6⟩:=we h;obtain⟨b,ns,e1,e2,e3,e4,e5⟩:=Gd hP h4 h2 h3 (fun t ht=>(h1 t ht).2);have eA:lC l a ms=b:=by unfold lC;rw[if_pos h,e1];rfl
  have eM:jL l a ms=ns:=by unfold jL;rw[if_pos h,e1];rfl
  obtain⟨f1,f2,f3⟩:=oJ hP hS hl h4 h2 h3 (fun t ht=>(h1 t ht).2);intro t ht;rw[eA,eM,<-e1]at ht;obtain⟨i,hi,rfl⟩:=List.getElem_of_mem ht;exact(f3 i (by omega) hi).2.1
end Go.LF
