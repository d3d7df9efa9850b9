/- A row of metavariables of one's own is appended to; what it holds lies in blocks that were there. -/
import Derived.Test.YthgmimncdjhgnaaGreatQCB
import Derived.Test.YthgmimncdjhgnaaGreatQCH
import Derived.Test.YthgmimncdjhgnaaGreatQCL
import Derived.Test.YthgmimncdjhgnaaGreatQFA
import Derived.Test.YthgmimncdjhgnaaGreatQFC
import Derived.Deep.RegionHeld3
import Derived.Maps.AppendAt
set_option maxRecDepth 100000
set_option maxHeartbeats 4000000
namespace Go.Proofs.YthgmimncdjhgnaaGreat
section
open Go.RowKit Go.LF
def Q8(O:Nat->Prop)(base:Nat)(W:World)(v:Value)(ms:List Mv)(css:List (List Value)):Prop:=
  css.length=ms.length/\(∀ cs∈css,cs.length=6)/\W.ownsRow base 28 6 v ms.length css.flatten/\∀ i(h:i<ms.length)(h':i<css.length),zK (fun b=>O b\/base<=b) W ms[i].zN css[i]
section
variable {O:Nat->Prop}{base:Nat}{W W':World}{v:Value}{ms:List Mv}{css:List (List Value)}
theorem Q8.nil(O:Nat->Prop)(base:Nat)(W:World):Q8 O base W (.slice none 0 0) [] []:=⟨rfl,by simp,World.ownsRow_nil _ _ _ _,fun i h=>by simp at h⟩
theorem Q8.on(h:Q8 O base W v ms css)(hU:zD zC W W'):Q8 O base W' v ms css:=by
  obtain⟨h1,h2,h3,h4⟩:=h;refine⟨h1,h2,⟨h3.1,?_⟩,fun i h h'=>(h4 i h h').on hU⟩;rcases h3.2 with h5 |⟨g,cap,cur,rfl,hb,hg,rest⟩
  ·exact .inl h5
  ·exact .inr ⟨g,cap,cur,rfl,hb,(hU.block g (Array.getElem?_eq_some_iff.1 hg).1 (fun x=>x)).trans hg,rest⟩
theorem Q8.Q5(h:Q8 O base W v ms css):yB 28 6 (fun b=>base<=b) base W v (ms.map Mv.zN) css:=by
  obtain⟨h1,h2,h3,h4⟩:=h;refine⟨by simp[h1],h2,by simpa using h3,fun i hi hi'=>?_⟩;simp only[List.getElem_map];exact zK.weaken (fun b _ e=>.inr (e.elim id (fun e=>(h3.lt b e).1))) _ _ (h4 i (by simpa using hi) hi')
theorem Q8.row(h:Q8 O base W v ms css):∃ a cap,v=.slice a ms.length cap/\ms.length<=cap/\zH zC W 6 (ms.map Mv.zN) a 0:=by
  obtain⟨a,cap,hv,hcap,hc⟩:=h.Q5.cells;rw[List.length_map]at hv hcap;refine⟨a,cap,hv,hcap,zn _ _ _ (fun i hi=>?_)⟩;have hi2:i<css.length:=by have:=h.1;rw[List.length_map]at hi;omega
  obtain⟨g,rfl,hown,hb,hlt,_,hg⟩:=hc i hi hi2;refine⟨g,0,css[i],rfl,hlt,fun x=>x,h.2.1 _ (List.getElem_mem hi2),fun m u hu=>?_,?_⟩
  ·rw[show 0+0+i * 6+m=i * 6+m by omega];exact hg m u hu
  ·simp only[List.getElem_map];exact zK.weaken (fun _ _ x=>x.elim) _ _ (h.2.2.2 i (by simpa using hi) hi2)
end
end
section
open Go.RowKit Go.LF
theorem qP{α:Type}(p:α->Bool)(l:List α)(j:Nat)(h:j<l.length):(l.take (j+1)).any p=((l.take j).any p || p l[j]):=by
  rw[List.take_succ_eq_append_getElem h];simp only[List.any_append,List.any_cons,List.any_nil,Bool.or_false]
theorem zBW(t:Tm)(n:Int)(hwt:t.wt<=1000000)(w:World)(cs:List Value)(h:zK zC w t.zN cs):
    Calls Tryz.prog 15 #[.agg cs.toArray,.int .i64 n] w fun e w'=>e=.returned (.bool (!(Tm.zP t).any (fun i=>decide (n<=i))))/\zD zC w w':=by
  obtain⟨k,nm,i,ts,a,cap,ht,rfl,_,_⟩:=zZ h;generalize ts.length=len at *
  obtain⟨w1,hw1⟩:∃ w1,w1=w.alloc (.cells #[.int .i64 k,.string (B nm),.int .i64 i,.slice a len cap] 25):=⟨_,rfl⟩;have hU1:zD zC w w1:=by rw[hw1];exact(zD.refl zC w).alloc _
  have ha1:zL w1 w.heap.size (.int .i64 k) (.string (B nm)) (.int .i64 i) (.slice a len cap) 25:=by rw[hw1];exact zL.zI rfl
  have MT:=zBQ t hwt w1 _ (h.on hU1);have hml:(Tm.zP t).length<=1000000:=Nat.le_trans (yY t) hwt;obtain⟨ms,hms⟩:∃ ms,ms=Tm.zP t:=⟨_,rfl⟩;rw[<-hms]at MT hml ⊢;have HW:=zG hw1;obtain⟨H,hH⟩:∃ H,H=w.heap.size:=⟨_,rfl⟩;have HH:=zG hH;rw[<-hH]at ha1;obtain⟨ml,hmll⟩:∃ ml,ml=ms.length:=⟨_,rfl⟩;rw[<-hmll]at hml;have HML:=zG hmll;clear hw1 hH hms hmll h ht;obtain⟨t0,t1,t2,t3⟩:=ha1.cells;go_enter Tryz.func15,Tryz.ntmps15
  go_upto_region 1 with fail
  rw[<-HW.out,<-HH.out];go_wp2_with fail
  (with_reducible refine MT.mono ?_);rintro e w2 ⟨v,rfl,hI,hU2⟩;obtain⟨va,vc,rfl,hvc,hE⟩:=yO hI.rep;have hU12:=hU1.and hU2;rw[<-HML.out];clear hI t0 t1 t2 t3 MT hvc;go_wp2_with fail
  go_loopw [6] (fun v6 wr=>∃ j:Nat,v6=.int .i64 (j:Int)/\j<=ml/\(ms.take j).any (fun i=>decide (n<=i))=false/\zD zC w2 wr) (fun v6 _=>ml - (intOf v6).toNat)
  case atStart=>exact⟨0,rfl,Nat.zero_le _,rfl,zD.refl _ _⟩
  case round=>
    obtain⟨j,rfl,hj,hA,hU⟩:=hrel;have HA:=zG hA;clear hA;have hjm:(j:Int)<=1000000:=by omega
    by_cases hlt:j<ml
    ·have hjl:j<ms.length:=by have:=HML.out;omega
     obtain⟨b,o,rfl,hb,_,hc⟩:=xR (hE.on hU) j hjl;have hT:=qP (fun i=>decide (n<=i)) ms j hjl;have hM:n<=ms[j]->ms.any (fun i=>decide (n<=i))=true:=fun h=>List.any_eq_true.2 ⟨_,List.getElem_mem hjl,by simpa using h⟩
     rw[HA.out]at hT;have HT:=zG hT;have HM:=zG hM;clear hT hM;generalize ms[j]=x at *
     clear hjl;have hjb:(j:Int)<(ml:Int):=by omega
     by_cases hx:n<=x
     ·go_wp2_with fail
      go_ret
      exact⟨by rw[HM.out hx];rfl,hU12.and hU⟩
     ·have hx':x<n:=by omega
      go_wp2_with fail
      go_roundw
      case rel=>exact⟨j+1,by go_num,by omega,by rw[HT.out];simp;omega,hU⟩
      case measure=>simp[intOf];omega
    ·have hje:ms.take j=ms:=List.take_of_length_le (by have:=HML.out;omega);have hA:=HA.out;rw[hje]at hA;have HF:=zG hA;clear HA hje hA;go_wp2_with fail
     go_ret
     exact⟨by rw[HF.out];rfl,hU12.and hU⟩
end
end Go.Proofs.YthgmimncdjhgnaaGreat
