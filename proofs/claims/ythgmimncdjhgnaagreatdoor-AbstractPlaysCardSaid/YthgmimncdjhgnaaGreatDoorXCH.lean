/- AR sU sum of sU cu of a term is, by its kind. No program is in qP here but for sU name of sU sum. -/
import Derived.Test.YthgmimncdjhgnaaGreatDoorXCE
import Derived.Test.YthgmimncdjhgnaaGreatDoorXCG
import Derived.ChangeSame
import Derived.Deep.RegionLaw
import Derived.LaidMore
import Derived.Laws.AppendOwn
import Derived.MakeChecks
import Derived.OpenShut
import Derived.ProofKit
import Derived.SevenTiedAt
import Derived.SizedLaws
import Derived.Stop.Joined
set_option maxRecDepth 100000
set_option maxHeartbeats 8000000
namespace Go.Proofs.YthgmimncdjhgnaaGreatDoor
section
open Go.LF
theorem gA(k n i ts)(h4:(k == 4)=false)(h:(k == 2 && Tm.bound n i ts 2)=false):(Tm.mk k n i ts).aC=false:=by
  rw[nT,Tm.isAtom,h4,Bool.false_and,Bool.false_or,<-Bool.and_assoc,h,Bool.false_and]
theorem P8(k n i ts)(h:(k == 1)=true):cu (.mk k n i ts)=if n == [] && (i == 0 && ts.isEmpty)then 4 else 0:=by
  have hk:k=1:=by simpa using h
  subst hk;rw[cu,G3 _ _ _ _ h,nS _ _ _ _ rfl rfl rfl rfl,gA _ _ _ _ rfl rfl];simp
theorem E6(k n i ts)(h:(k == 2)=true)(hb:Tm.bound n i ts 2=false):cu (.mk k n i ts)=0:=by
  have hk:k=2:=by simpa using h
  subst hk;rw[cu,ot _ _ _ _ rfl (by rw[hb];rfl),nS _ _ _ _ rfl rfl rfl rfl,gA _ _ _ _ rfl (by rw[hb];rfl)];simp
theorem PD(k n i x y)(h:(k == 2)=true)(hb:Tm.bound n i [x,y] 2=true):
    cu (.mk k n i [x,y])=if x.aC then(if y.aC then 2 else 0)+(if y.aI then 4 else 0)else 0:=by
  have hk:k=2:=by simpa using h
  subst hk;rw[cu,Hw _ _ _ _ _ (by rw[hb];rfl),nS _ _ _ _ rfl rfl rfl rfl,nT,hb];have e:(((2:Int) == 4) && (isName n && i == 0 && Tm.aV [x,y])|| ((2:Int) == 2) && (true && (x.aC && (y.aC && true))))=(x.aC && y.aC):=by simp
  simp only[Tm.isAtom,Tm.cI,e];by_cases hx:x.aC=true<;>by_cases hy:y.aC=true<;>by_cases hz:y.aI=true<;>simp[hx,hy,hz]
theorem fw(k n i ts)(h1:(k == 1)=false)(h2:(k == 2)=false):(Tm.mk k n i ts).aI=false:=ot _ _ _ _ h1 (by rw[h2];rfl)
theorem GF(k n i ts)(h:(k == 3)=true)(hb:Tm.bound n i ts 1=false):cu (.mk k n i ts)=0:=by
  have hk:k=3:=by simpa using h
  subst hk;rw[cu,fw _ _ _ _ rfl rfl,AM _ _ _ _ rfl,hb,gA _ _ _ _ rfl rfl];simp
theorem QR(k n i x)(h:(k == 3)=true)(hb:Tm.bound n i [x] 1=true):cu (.mk k n i [x])=if x.isObj then 1 else 0:=by
  have hk:k=3:=by simpa using h
  subst hk;rw[cu,fw _ _ _ _ rfl rfl,AM _ _ _ _ rfl,hb,gA _ _ _ _ rfl rfl];simp[Tm.aV]
theorem Gg(k n i ts)(h:(k == 4)=true)(hb:(isName n && i == 0)=false):cu (.mk k n i ts)=0:=by
  have hk:k=4:=by simpa using h
  subst hk;rw[cu,fw _ _ _ _ rfl rfl,Ag _ _ _ _ rfl,nT,Tm.isAtom,hb];simp
theorem Rg(k n i ts)(h:(k == 4)=true)(hb:(isName n && i == 0)=true):cu (.mk k n i ts)=if Tm.aV ts then 3 else 0:=by
  have hk:k=4:=by simpa using h
  subst hk;rw[cu,fw _ _ _ _ rfl rfl,Ag _ _ _ _ rfl,nT,Tm.isAtom,hb];cases Tm.aV ts<;>rfl
theorem Fc(k n i ts)(h:(k == 5)=true)(hb:(n == [] && decide (0<=i) && decide (i<=1048576))=false):cu (.mk k n i ts)=0:=by
  have hk:k=5:=by simpa using h
  subst hk;rw[cu,fw _ _ _ _ rfl rfl,AT _ _ _ _ rfl,hb,gA _ _ _ _ rfl rfl];simp
theorem Q3(k n i ts)(h:(k == 5)=true)(hb:(n == [] && decide (0<=i) && decide (i<=1048576))=true):cu (.mk k n i ts)=if Tm.aV ts then 1 else 0:=by
  have hk:k=5:=by simpa using h
  subst hk;rw[cu,fw _ _ _ _ rfl rfl,AT _ _ _ _ rfl,hb,gA _ _ _ _ rfl rfl];simp
theorem F6(k n i ts)(h:(k == 6)=true)(hb:(n == [] && decide (0<=i) && decide (i<2048))=false):cu (.mk k n i ts)=0:=by
  have hk:k=6:=by simpa using h
  subst hk;rw[cu,fw _ _ _ _ rfl rfl,A4 _ _ _ _ rfl,hb,gA _ _ _ _ rfl rfl];simp
theorem PX(k n i ts)(h:(k == 6)=true)(hb:(n == [] && decide (0<=i) && decide (i<2048))=true):cu (.mk k n i ts)=if Tm.aV ts then 1 else 0:=by
  have hk:k=6:=by simpa using h
  subst hk;rw[cu,fw _ _ _ _ rfl rfl,A4 _ _ _ _ rfl,hb,gA _ _ _ _ rfl rfl];simp
theorem PL(k n i ts)(h1:(k == 1)=false)(h2:(k == 2)=false)(h3:(k == 3)=false)(h4:(k == 4)=false)(h5:(k == 5)=false)(h6:(k == 6)=false):cu (.mk k n i ts)=0:=by
  rw[cu,fw _ _ _ _ h1 h2,nS _ _ _ _ h3 h4 h5 h6,gA _ _ _ _ h4 (by rw[h2];rfl)];simp
theorem MN(t:Tm):t.wf=if cu t == 0 then 1 else if !t.small then 2 else 0:=by
  unfold Tm.wf cu;cases t.isObj<;>cases t.aC<;>cases t.aI<;>rfl
end
section
open Go.RowKit Go.LF
theorem oy(t:Tm):t.wt<=1000000->∀(w:World)(cs:List Value),aw ae w t.az cs->
    Calls Tryz.prog 124 #[.agg cs.toArray] w fun e w'=>e=.returned (.int .i64 (cu t))/\af ae w w':=by
  induction t using Tm.ind with
  |h k n i ts ih=>
   intro hs w cs h;obtain⟨a,cap,rfl,aX,hE⟩:=bg.1 h;simp only[Tm.cU]at hs;have hlen:ts.length<=1000000:=by have:=Tm.aA ts;have:=Tm.eC ts;omega
   have hn:n.length<=1000000:=by omega
   have H:om ts:=fun x hx w cs h=>ih x hx (by have:=Tm.fM hx;omega) w cs h
   clear ih h aX hs
   have key:∀ r:Int,cu (.mk k n i ts)=r->Calls Tryz.prog 124 #[.agg #[.int .i64 k,.string (B n),.int .i64 i,.slice a ts.length cap]] w (fun e w'=>e=.returned (.int .i64 r)/\af ae w w')->
       Calls Tryz.prog 124 #[.agg #[.int .i64 k,.string (B n),.int .i64 i,.slice a ts.length cap]] w (fun e w'=>e=.returned (.int .i64 (cu (.mk k n i ts)))/\af ae w w'):=by
     intro r hr hc;rw[hr];exact hc
   cases h1:(k == 1)
   case true=>exact key _ (P8 k n i ts h1) (Fb k i n ts h1 _ rfl w a cap)
   cases h2:(k == 2)
   case true=>
     cases hb:Tm.bound n i ts 2
     ·exact key _ (E6 k n i ts h2 hb) (IF k i n hn ts h2 hb w a cap)
     have iV:ts.length=2:=by unfold Tm.bound at hb;simp at hb;exact hb.1.2
     obtain⟨x,y,rfl⟩:∃ x y,ts=[x,y]:=by match ts,iV with | [x,y],_=>exact⟨x,y,rfl⟩
     exact key _ (PD k n i x y h2 hb) (Fm k i n hn x y H h2 hb w a cap hE _ rfl)
   cases h3:(k == 3)
   case true=>
     cases hb:Tm.bound n i ts 1
     ·exact key _ (GF k n i ts h3 hb) (JR k i n hn ts h3 hb w a cap)
     have iV:ts.length=1:=by unfold Tm.bound at hb;simp at hb;exact hb.1.2
     obtain⟨x,rfl⟩:∃ x,ts=[x]:=List.length_eq_one_iff.1 iV;exact key _ (QR k n i x h3 hb) (EY k i n hn x H h3 hb w a cap hE)
   cases h4:(k == 4)
   case true=>
     cases hb:(isName n && i == 0)
     ·exact key _ (Gg k n i ts h4 hb) (Jm k i n hn ts h4 hb w a cap)
     obtain⟨hf,hi⟩:isName n=true/\i=0:=by simpa using hb
     exact key _ (Rg k n i ts h4 hb) (Gj k i n hn ts hlen H h4 hf hi w a cap hE _ rfl)
   cases h5:(k == 5)
   case true=>
     cases hb:(n == [] && decide (0<=i) && decide (i<=1048576))
     ·exact key _ (Fc k n i ts h5 hb) (IC k i n ts h5 hb w a cap)
     obtain⟨⟨hf,hi⟩,hj⟩:(n=[]/\0<=i)/\i<=1048576:=by simpa using hb
     exact key _ (Q3 k n i ts h5 hb) (Fy k i n hn ts hlen H h5 hf hi hj w a cap hE _ rfl)
   cases h6:(k == 6)
   case true=>
     cases hb:(n == [] && decide (0<=i) && decide (i<2048))
     ·exact key _ (F6 k n i ts h6 hb) (IA k i n ts h6 hb w a cap)
     obtain⟨⟨hf,hi⟩,hj⟩:(n=[]/\0<=i)/\i<2048:=by simpa using hb
     exact key _ (PX k n i ts h6 hb) (Fu k i n hn ts hlen H h6 hf hi hj w a cap hE _ rfl)
   exact key _ (PL k n i ts h1 h2 h3 h4 h5 h6) (Fw k i n ts h1 h2 h3 h4 h5 h6 w a cap)
theorem xW(t:Tm)(hs:t.wt<=1000000)(w:World)(cs:List Value)(h:aw ae w t.az cs):
    Calls Tryz.prog 77 #[.agg cs.toArray] w fun e w'=>e=.returned (.bool (t.aI && t.small))/\af ae w w':=by
  have HK:=fun w cs h=>oy t hs w cs h
  have HS:=fun w cs h=>gz t (by have:=Tm.bB t;omega) w cs h
  have rv:=Od t;obtain⟨k,n,i,ts,a,cap,ht,rfl,aX,hE⟩:=aP h;generalize cu t=st at *
  generalize t.aI=bk at *
  generalize t.small=sm at *
  have HT:=ak ht;clear ht aX;generalize ts.length=len at *
  cases bk
  all_goals
    simp only[Bool.false_eq_true,if_false,if_true]at rv;go_enter Tryz.func77,Tryz.ntmps77;go_wp2_with fail;refine(HK _ _ (h.new _)).mono ?_;rintro e w1 ⟨rfl,hU⟩;obtain⟨b0,b1,b2,b3⟩:=b8 hU;have aF:af ae w w1:=hU.behind;go_wp2_with fail
  ·go_ret;exact⟨rfl,aF⟩
  refine(HS _ _ (h.on aF)).mono ?_;rintro e w2 ⟨rfl,aL⟩;go_wp2
  go_ret;exact⟨rfl,aF.and aL⟩
theorem pk(t:Tm)(hs:t.wt<=1000000)(w:World)(cs:List Value)(h:aw ae w t.az cs):
    Calls Tryz.prog 76 #[.agg cs.toArray] w fun e w'=>e=.returned (.bool (t.aC && t.small))/\af ae w w':=by
  have HK:=fun w cs h=>oy t hs w cs h
  have HS:=fun w cs h=>gz t (by have:=Tm.bB t;omega) w cs h
  have rv:=CS t;obtain⟨k,n,i,ts,a,cap,ht,rfl,aX,hE⟩:=aP h;generalize cu t=st at *
  generalize t.aC=bk at *
  generalize t.small=sm at *
  have HT:=ak ht;clear ht aX;generalize ts.length=len at *
  cases bk
  all_goals
    simp only[Bool.false_eq_true,if_false,if_true]at rv;go_enter Tryz.func76,Tryz.ntmps76;go_wp2_with fail;refine(HK _ _ (h.new _)).mono ?_;rintro e w1 ⟨rfl,hU⟩;obtain⟨b0,b1,b2,b3⟩:=b8 hU;have aF:af ae w w1:=hU.behind;go_wp2_with fail
  ·go_ret;exact⟨rfl,aF⟩
  refine(HS _ _ (h.on aF)).mono ?_;rintro e w2 ⟨rfl,aL⟩;go_wp2
  go_ret;exact⟨rfl,aF.and aL⟩
theorem jy(t:Tm)(hs:t.wt<=1000000)(w:World)(cs:List Value)(h:aw ae w t.az cs):
    Calls Tryz.prog 78 #[.agg cs.toArray] w fun e w'=>e=.returned (.bool (t.isObj && t.small))/\af ae w w':=by
  have HK:=fun w cs h=>oy t hs w cs h
  have HS:=fun w cs h=>gz t (by have:=Tm.bB t;omega) w cs h
  have rv:=oi t;obtain⟨k,n,i,ts,a,cap,ht,rfl,aX,hE⟩:=aP h;generalize cu t=st at *
  generalize t.isObj=bk at *
  generalize t.small=sm at *
  have HT:=ak ht;clear ht aX;generalize ts.length=len at *
  cases bk
  all_goals
    simp only[Bool.false_eq_true,if_false,if_true]at rv;go_enter Tryz.func78,Tryz.ntmps78;go_wp2_with fail;refine(HK _ _ (h.new _)).mono ?_;rintro e w1 ⟨rfl,hU⟩;obtain⟨b0,b1,b2,b3⟩:=b8 hU;have aF:af ae w w1:=hU.behind;go_wp2_with fail
  ·go_ret;exact⟨rfl,aF⟩
  refine(HS _ _ (h.on aF)).mono ?_;rintro e w2 ⟨rfl,aL⟩;go_wp2
  go_ret;exact⟨rfl,aF.and aL⟩
theorem dx(t:Tm)(hs:t.wt<=1000000)(w:World)(cs:List Value)(h:aw ae w t.az cs):
    Calls Tryz.prog 55 #[.agg cs.toArray] w fun e w'=>e=.returned (.int .i64 t.wf)/\af ae w w':=by
  have HK:=fun w cs h=>oy t hs w cs h
  have HS:=fun w cs h=>gz t (by have:=Tm.bB t;omega) w cs h
  have hp:=MN t;obtain⟨k,n,i,ts,a,cap,ht,rfl,aX,hE⟩:=aP h;generalize cu t=st at *
  generalize t.small=sm at *
  generalize t.wf=r at *
  have HT:=ak ht;have HP:=ak hp;clear ht aX hp;generalize ts.length=len at *
  cases hz:(st == 0)
  all_goals
    go_enter Tryz.func55,Tryz.ntmps55;go_wp2_with fail;refine(HK _ _ (h.new _)).mono ?_;rintro e w1 ⟨rfl,hU⟩;obtain⟨b0,b1,b2,b3⟩:=b8 hU;have aF:af ae w w1:=hU.behind;go_wp2_with fail
  ·refine(HS _ _ (h.on aF)).mono ?_;rintro e w2 ⟨rfl,aL⟩;cases sm
   all_goals
     go_wp2
     go_ret;exact⟨bd (by rw[HP.out,hz];rfl),aF.and aL⟩
  go_ret;exact⟨bd (by rw[HP.out,hz];rfl),aF⟩
end
end Go.Proofs.YthgmimncdjhgnaaGreatDoor
namespace Go.LF.Tm
theorem rW(k:Int)(l:List Tm):∀(j0:Nat)(a:Int)(j:Nat)(h:j<l.length),scopes k j0 a (l.take (j+1))=max (scopes k j0 a (l.take j)) (scope l[j] - under k (j0+j)):=by
  induction l with
  |nil=>intro j0 a j h;simp at h
  |cons t ts ih=>
   intro j0 a j h;cases j with
   |zero=>simp[scopes]
   |succ j=>
    simp only[List.take_succ_cons,scopes,List.getElem_cons_succ];rw[ih (j0+1) _ j (by simpa using h)];rw[show j0+1+j=j0+(j+1) by omega]
def ok(t:Tm):Prop:=∀ b,∀ x∈nodes b t,x.ok
theorem FX{k i:Int}{n:List UInt8}{l:List Tm}(h:(mk k n i l).ok)(j:Nat)(hj:j<l.length):(l[j]).ok:=by
  intro b x hx;refine h (b - under k j) x ?_;rw[br];refine List.mem_cons.2 (.inr ?_);refine(fz l (b - under k j) k (j+1)).subset ?_;rw[jc _ _ _ _ hj];refine List.mem_append.2 (.inr ?_);rw[show b - under k j+under k j=b by omega];exact hx
theorem uH{k i:Int}{n:List UInt8}{l:List Tm}(h:(mk k n i l).ok):(k == 5)=true->0<=i/\i<=1048576:=(h 0 ⟨0,k,n,i⟩ (by rw[br];simp)).1
theorem Dm(t:Tm):t.ok->0<=scope t/\scope t<=1048577:=by
  induction t using ind with
  |h k n i l ih=>
   intro h;have hh:=uH h;refine⟨qW _ (fun e=>(hh e).1),?_⟩;rw[scope]
   have key:∀(l':List Tm),(∀ t∈l',t.scope<=1048577)->∀(j:Nat)(a:Int),a<=1048577->scopes k j a l'<=1048577:=by
     intro l';induction l' with
     |nil=>intro _ j a h;simpa[scopes]using h
     |cons t ts dF=>
      intro h j a ha;rw[scopes];have:=h t (by simp);have:=bZ k j;exact dF (fun t ht=>h t (by simp[ht])) _ _ (by omega)
   refine key l (fun t ht=>?_) 0 _ ?_;rotate_left
   ·by_cases h5:(k == 5)=true
    ·have:=hh h5;rw[if_pos h5];omega
    rw[if_neg h5];omega
   obtain⟨j,hj,rfl⟩:=List.mem_iff_getElem.1 ht;exact(ih _ ht (FX h j hj)).2
theorem IP{k i:Int}{n:List UInt8}{l:List Tm}(h:(mk k n i l).ok)(j:Nat):0<=scopes k 0 (if k == 5 then i+1 else 0) (l.take j)/\scopes k 0 (if k == 5 then i+1 else 0) (l.take j)<=1048577:=by
  have:=Dm (mk k n i (l.take j)) (fun b x hx=>h b x (by
    rw[br]at hx ⊢;rcases List.mem_cons.1 hx with rfl |hx
    ·simp
    exact List.mem_cons.2 (.inr ((fz l b k j).subset hx))))
  rw[scope]at this;exact this
end Go.LF.Tm
namespace Go.Proofs.YthgmimncdjhgnaaGreatDoor
section
open Go.RowKit Go.LF
theorem AG(t:Tm):t.size<=1000000->t.ok->∀(w:World)(cs:List Value),aw ae w t.az cs->
    Calls Tryz.prog 88 #[.agg cs.toArray] w fun e w'=>e=.returned (.int .i64 t.scope)/\af ae w w':=by
  induction t using Tm.ind with
  |h k n i ts ih=>
   intro hs gD w cs h;obtain⟨a,cap,rfl,aX,hE⟩:=bg.1 h;have hlen:=Tm.aA ts;simp only[Tm.aM]at hs;have hi:=Tm.uH gD;have hr:(Tm.mk k n i ts).scope=Tm.scopes k 0 (if k == 5 then i+1 else 0) ts:=by rw[Tm.scope]
   generalize (Tm.mk k n i ts).scope=r at *
   have HR:=ak hr;have HOK:=ak gD;clear hr gD h;obtain⟨s0,yR⟩:∃ s0,s0=(if k == 5 then i+1 else 0):=⟨_,rfl⟩
   have jI:0<=s0/\s0<=1048577:=by
     rw[yR];by_cases h5:(k == 5)=true
     ·have:=hi h5;rw[if_pos h5];omega
     rw[if_neg h5];omega
   have HS:=ak yR;have pA:∀ j,0<=Tm.scopes k 0 s0 (ts.take j)/\Tm.scopes k 0 s0 (ts.take j)<=1048577:=by rw[yR];exact Tm.IP HOK.out
   have HSL:=ak pA;clear pA
   have EO:((k == 5)=true/\s0=i+1/\0<=i/\i<=1048576)\/((k == 5)=false/\s0=0):=by
     by_cases h5:(k == 5)=true
     ·exact .inl ⟨h5,by rw[yR,if_pos h5],hi h5⟩
     exact .inr ⟨by simpa using h5,by rw[yR,if_neg h5]⟩
   rw[<-yR]at HR;clear hi yR;rcases EO with⟨h5,Ie,fS,gn⟩|⟨h5,Ie⟩
   all_goals
     have F7:=ak Ie;clear Ie;go_enter Tryz.func88,Tryz.ntmps88;go_wp2_with fail
     go_loopw [3,4] (fun v3 v4 wr=>∃ j:Nat,j<=ts.length/\v4=.int .i64 j/\v3=.int .i64 (Tm.scopes k 0 s0 (ts.take j))/\af ae (w.alloc (.cells #[.int .i64 k,.string (B n),.int .i64 i,.slice a ts.length cap] 29)) wr)
       (fun _ v4 _=>ts.length - (intOf v4).toNat)
     case atStart=>exact⟨0,Nat.zero_le _,rfl,int_eq (by rw[F7.out];simp[Tm.scopes]),af.refl _ _⟩
     obtain⟨j,hj,rfl,rfl,hU⟩:=hrel;have hw:af ae w wr:=hU.behind;obtain⟨b0,b1,b2,b3⟩:=b8 hU;obtain⟨c0,c1⟩:=HSL.out j;by_cases aB:j<ts.length
     ·obtain⟨b,o,k1,n1,x1,s1,cp,rfl,hb,_,p0,p1,p2,p3,eY⟩:=aY (hE.on hw) j aB;have hT:=Tm.rW k ts 0 s0 j aB;rw[Nat.zero_add]at hT;have Bv:=Tm.aK (List.getElem_mem aB);have gD:=Tm.FX HOK.out j aB;obtain⟨d0,d1⟩:=Tm.Dm _ gD;obtain⟨e0,e1⟩:=Tm.bZ k j;have hd:af ae wr wr.drew:=(af.refl ae wr).drew;have H1:=fun w'(hU:af ae wr w')=>(ih _ (List.getElem_mem aB) (by omega) gD w' _ (eY.on hU)).mono fun _ _ ⟨he,hV⟩=>(⟨he,hU.and hV⟩:_/\af ae wr _)
      have H2:=fun w'(hU:af ae wr w')=>(oV k j j rfl n i (.slice (some ⟨b,o,none⟩) ts.length cap) w').mono fun _ _ ⟨he,hV⟩=>(⟨he,hU.and hV⟩:_/\af ae wr _)
      have HT:=ak hT;clear hT gD;have j0:(0:Int)<=(j:Int):=by omega
      have j1:(j:Int)<(ts.length:Int):=by omega
      generalize ts[j].scope=sc at *
      generalize Tm.under k j=u at *
      generalize Tm.scopes k 0 s0 (ts.take j)=acc at *
      go_wp2_with fail
      go_region_held3 (fun w'=>(w'.cell? ⟨w.heap.size,0,none⟩=some (.int .i64 k)/\w'.cell? ⟨w.heap.size,1,none⟩=some (.string (B n))/\w'.cell? ⟨w.heap.size,2,none⟩=some (.int .i64 i)/\w'.cell? ⟨w.heap.size,3,none⟩=some (.slice (some ⟨b,o,none⟩) ts.length cap))/\
          w'.cell? ⟨b,o+j * 4,none⟩=some (.int .i64 k1)/\w'.cell? ⟨b,o+j * 4+1,none⟩=some (.string (B n1))/\w'.cell? ⟨b,o+j * 4+2,none⟩=some (.int .i64 x1)/\w'.cell? ⟨b,o+j * 4+3,none⟩=some (.slice s1 ts[j].args.length cp))
        (first |go_keep |(exact⟨⟨aH.cell b0 (fun x=>x),aH.cell b1 (fun x=>x),aH.cell b2 (fun x=>x),aH.cell b3 (fun x=>x)⟩,aH.cell p0 (fun x=>x),aH.cell p1 (fun x=>x),aH.cell p2 (fun x=>x),aH.cell p3 (fun x=>x)⟩))
        (first |(go_at_call 88;refine(H1 _ (by first |exact aH |exact hd)).mono ?_;rintro e w1 ⟨rfl,aH⟩)|(go_at_call 136;refine(H2 _ (by first |exact aH |exact hd)).mono ?_;rintro e w1 ⟨rfl,aH⟩))
      go_wp2
      go_roundw
      case rel=>
        have fin:∃ j1:Nat,j1<=ts.length/\Value.int .i64 ((j:Int)+1)=.int .i64 j1/\Value.int .i64 (if acc<IntKind.i64.wrap (sc - u)then IntKind.i64.wrap (sc - u)else acc)=.int .i64 (Tm.scopes k 0 s0 (ts.take j1))/\af ae _ w1:=
          ⟨j+1,by omega,by go_num,int_eq (by rw[HT.out,Go.IntWalk.i64_left,Go.IntWalk.wrap64_in _ (by omega)];split<;>omega),hU.and aH⟩
        first |exact fin |((repeat apply Exists.intro);exact⟨fin,rfl⟩)
      simp[intOf];omega
     have jR:ts.take j=ts:=List.take_of_length_le (by omega);rw[jR]at *
     go_wp2
     go_ret;exact⟨bd HR.out.symm,hw⟩
theorem mD(t:Tm)(iH:t.wt<=1000000)(w:World)(cs:List Value)(h:aw ae w t.az cs):
    Calls Tryz.prog 36 #[.agg cs.toArray] w fun e w'=>e=.returned (.int .i64 (if t.wf == 0 then t.scope else 0))/\af ae w w':=by
  have HW:=fun w cs h=>dx t iH w cs h
  have HS:=fun(gD:t.ok)w cs h=>AG t (Nat.le_trans (Tm.bB t) iH) gD w cs h
  have hq:t.wf=0->t.ok:=fun h=>(Tm.pD t h).1
  obtain⟨k,n,i,ts,a,cap,ht,rfl,aX,hE⟩:=aP h;generalize t.scope=sc at *
  generalize t.wf=wf at *
  have HT:=ak ht;clear ht aX;generalize ts.length=len at *
  by_cases hz:(wf == 0)=true
  ·have z1:(wf !=0)=false:=by simp[bne,hz]
   have gD:=hq (by simpa using hz);simp only[hz,if_true];clear hq;go_enter Tryz.func36,Tryz.ntmps36;go_wp2_with fail;refine(HW _ _ (h.new _)).mono ?_;rintro e w1 ⟨rfl,hU⟩;obtain⟨b0,b1,b2,b3⟩:=b8 hU;have aF:af ae w w1:=hU.kR;go_wp2_with fail;refine(HS gD _ _ (h.on aF)).mono ?_;rintro e w2 ⟨rfl,aL⟩;go_wp2
   go_ret;exact⟨rfl,aF.and aL⟩
  have z1:(wf !=0)=true:=by simp at hz;simp[bne,hz]
  simp only[hz];clear hq;go_enter Tryz.func36,Tryz.ntmps36;go_wp2_with fail;refine(HW _ _ (h.new _)).mono ?_;rintro e w1 ⟨rfl,hU⟩;have aF:af ae w w1:=hU.kR;go_wp2
  go_ret;exact⟨rfl,aF⟩
end
section
open Go.RowKit Go.LF
theorem yy(l:List Int)(n:Int)(j:Nat)(h:j<l.length):(l.take (j+1)).contains n=((l.take j).contains n || l[j] == n):=by
  rw[List.take_succ_eq_append_getElem h,List.contains_eq_any_beq,List.contains_eq_any_beq,List.any_append];simp[Bool.beq_comm]
theorem DG(l:List Int)(n:Int)(j:Nat)(h:j<l.length)(e:(l[j] == n)=true):l.contains n=true:=by
  have:l[j]=n:=by simpa using e
  rw[<-this];simp
theorem xr(l:List Int)(hl:l.length<=10000000)(n:Int){O:Nat->Prop}(w:World)(v:Value)(h:aw O w (Nw l) [v]):
    Calls Tryz.prog 94 #[v,.int .i64 n] w fun e w'=>e=.returned (.bool (l.contains n))/\af ae w w':=by
  obtain⟨a,cap,rfl,aX,hE⟩:=cO h;obtain⟨r,hr⟩:∃ r,r=l.contains n:=⟨_,rfl⟩;rw[<-hr];have HR:=ak hr;clear hr h;go_enter Tryz.func94,Tryz.ntmps94;go_wp2_with fail
  go_loopw [5] (fun v5 wr=>∃ j:Nat,j<=l.length/\v5=.int .i64 j/\(l.take j).contains n=false/\w=wr)
    (fun v5 _=>l.length - (intOf v5).toNat)
  case atStart=>exact⟨0,Nat.zero_le _,rfl,rfl,rfl⟩
  obtain⟨j,hj,rfl,hA,rfl⟩:=hrel;have HA:=ak hA;clear hA;by_cases aB:j<l.length
  ·obtain⟨b,o,rfl,hb,_,hc⟩:=eX hE j aB;have hT:=yy l n j aB;have hM:=DG l n j aB;rw[HA.out,Bool.false_or]at hT;have HT:=ak hT;have HM:=ak hM;clear hT hM;generalize l[j]=x at *
   by_cases hx:(x == n)=true
   ·have Ox:=ak hx;go_wp2
    go_ret;exact⟨aR (by rw[HR.out,HM.out Ox.out]),af.refl _ _⟩
   have Ox:=ak hx;replace hx:(x == n)=false:=by simpa using hx
   go_wp2
   go_roundw
   case rel=>
     have fin:∃ j1:Nat,j1<=l.length/\Value.int .i64 ((j:Int)+1)=.int .i64 j1/\(l.take j1).contains n=false/\True:=
       ⟨j+1,by omega,by go_num,by rw[HT.out];simpa using Ox.out,trivial⟩
     first |exact fin |((repeat apply Exists.intro);exact⟨fin,rfl⟩)
   simp[intOf];omega
  have jR:l.take j=l:=List.take_of_length_le (by omega);have mx:=HA.out;rw[jR]at mx;have HO:=ak mx;clear HA mx jR;go_wp2
  go_ret;exact⟨aR (by rw[HR.out,HO.out]),af.refl _ _⟩
theorem o7(l:List Tm):∀(acc:List Int)(j:Nat)(h:j<l.length),Tm.bY acc (l.take (j+1))=Tm.cC (Tm.bY acc (l.take j)) l[j]:=by
  induction l with
  |nil=>intro acc j h;simp at h
  |cons t ts ih=>
   intro acc j h;cases j with
   |zero=>simp[Tm.bY]
   |succ j=>simp only[List.take_succ_cons,Tm.bY,List.getElem_cons_succ];exact ih _ j (by simpa using h)
theorem mw(t:Tm)(acc:List Int):(Tm.cC acc t).length<=acc.length+t.size:=by
  rw[<-Tm.pW t 0 acc,<-Tm.iG t 0]
  have key:∀(ys:List Tm.BV)(a:List Int),(ys.foldl Tm.dt a).length<=a.length+ys.length:=by
    intro ys;induction ys with
    |nil=>intro a;simp
    |cons y ys ih=>
     intro a;rw[List.foldl_cons];have:=ih (Tm.dt a y);have h2:(Tm.dt a y).length<=a.length+1:=by unfold Tm.dt;split<;>simp
     simp only[List.length_cons];omega
  exact key _ _
theorem yj(l:List Tm):∀(acc:List Int),(Tm.bY acc l).length<=acc.length+Tm.aD l:=by
  induction l with
  |nil=>intro acc;simp[Tm.bY]
  |cons t ts ih=>intro acc;simp only[Tm.bY,Tm.aD];have:=ih (Tm.cC acc t);have:=mw t acc;omega
theorem Bl(t:Tm):t.size<=1000000->∀(acc:List Int)(base:Nat)(w:World)(v:Value)(cs:List Value),acc.length+t.size<=2000000->base<=w.heap.size->dv base w v acc->aw (fun b=>base<=b) w t.az cs->
    Calls Tryz.prog 87 #[v,.agg cs.toArray] w fun e w'=>∃ v',e=.returned v'/\dv base w' v' (Tm.cC acc t)/\cB 3 base w w':=by
  induction t using Tm.ind with
  |h k n i ts ih=>
   intro hs acc base w v cs hac hbw hv h;obtain⟨a,cap,rfl,aX,hE⟩:=bg.1 h;have hlen:=Tm.aA ts;simp only[Tm.aM]at hs hac;have hr:Tm.cC acc (Tm.mk k n i ts)=Tm.bY (if k == 6 && !acc.contains i then acc++[i]else acc) ts:=by rw[Tm.cC]
   generalize Tm.cC acc (Tm.mk k n i ts)=r at *
   have HR:=ak hr;clear hr h;have HI:=fun w v h=>xr acc (by omega) i (O:=fun b=>b<base) w v h
   obtain⟨i0,hi,fS,gn,eH⟩:=info_parts nI;have hvr:=hv.rep;obtain⟨va,tY,XP,_,_⟩:=cO hvr;subst XP;obtain⟨ct,hct⟩:∃ ct,ct=acc.contains i:=⟨_,rfl⟩;rw[<-hct]at HR HI;obtain⟨pM,yL⟩:∃ pM,pM=(if k == 6 && !ct then acc++[i]else acc):=⟨_,rfl⟩;rw[<-yL]at HR;have KX:=au.new w (.int .i64 k) (.string (B n)) (.int .i64 i) (.slice a ts.length cap) 29;have aqd:pM.length+Tm.aD ts<=2000000:=by rw[yL];split<;>(try simp only[List.length_append,List.length_cons,List.length_nil])<;>omega
   have cV:((k == 6)=false/\pM=acc)\/((k == 6)=true/\ct=true/\pM=acc)\/((k == 6)=true/\ct=false/\pM=acc++[i]):=by
     cases h6:(k == 6)
     ·exact .inl ⟨rfl,by rw[yL,h6];rfl⟩
     cases ct
     ·exact .inr (.inr ⟨rfl,rfl,by rw[yL,h6];rfl⟩)
     exact .inr (.inl ⟨rfl,rfl,by rw[yL,h6];rfl⟩)
   clear yL hct;have xN:acc.length<=2000000:=by omega
   rcases cV with⟨h6,h0⟩|⟨h6,hc,h0⟩|⟨h6,hc,h0⟩
   case' inl=>
     subst h0;go_enter Tryz.func87,Tryz.ntmps87;go_wp2_with fail;obtain⟨w0,EO⟩:∃ w0,w0=w.alloc (.cells #[.int .i64 k,.string (B n),.int .i64 i,.slice a ts.length cap] 29):=⟨_,rfl⟩;have Kx:dv base w0 (.slice va pM.length tY) pM:=by rw[EO];exact World.ownsRow.alloc hv _
     have m9:cB 3 base w w0:=by rw[EO];exact(cB.refl _ _ _).alloc _
     rw[<-EO]at KX ⊢;clear EO hv
   case' inr.inl=>
     subst h0 hc;go_enter Tryz.func87,Tryz.ntmps87;go_wp2_with fail;refine(HI _ _ (dv.rep (World.ownsRow.alloc hv _))).mono ?_;rintro e w0 ⟨rfl,aH⟩;have Kx:dv base w0 (.slice va pM.length tY) pM:=(World.ownsRow.alloc hv _).kept (qi aH) (CX _);have m9:cB 3 base w w0:=((cB.refl _ _ _).alloc _).on aH;replace KX:=KX.kept aH;have nc:=KX.cells;clear aH hv;go_wp2_with fail;clear nc
   case' inr.inr=>
     subst hc;go_enter Tryz.func87,Tryz.ntmps87;go_wp2_with fail;refine(HI _ _ (dv.rep (World.ownsRow.alloc hv _))).mono ?_;rintro e wa ⟨rfl,aH⟩;have XP:dv base wa (.slice va acc.length tY) acc:=(World.ownsRow.alloc hv _).kept (qi aH) (CX _);have dM:cB 3 base w wa:=((cB.refl _ _ _).alloc _).on aH;replace KX:=KX.kept aH;have nc:=KX.cells;have aqr:base<=wa.heap.size:=Nat.le_trans hbw dM.size;clear aH hv;go_wp2_with (at_builtin;refine wpList_append_own _ rfl _ _ 22 rfl base 3 i0 (.int .i64 0) 1 8 (by kernel_rfl) hi fS gn eH rfl (by decide) _ _ _ rfl (World.ownsRow.alloc XP _) ⟨wa.heap.size,0,none⟩ 1 1 [.int .i64 i] rfl rfl (cell_one_new _ _ _) (by simp[Value.oneCell']) (by simp only[maxLen];omega) (by omega) (by simp;omega) ?_;intro v' w0 tk aN _;obtain⟨g',aS,rfl⟩:=ownsRow_succ tk)
     have Kx:dv base w0 (.slice (some ⟨g',0,none⟩) (acc.length+1) aS) pM:=by rw[h0];unfold dv;simpa using tk
     have m9:cB 3 base w w0:=(dM.alloc _).trans (cB.grown (World.ownsRow.alloc XP _) aN);replace KX:au w0 w.heap.size _ _ _ _ _:=((KX.kept ((af.refl ae wa).alloc _)).up (cB.grown (World.ownsRow.alloc XP _) aN) (by decide));clear XP dM nc tk aN
   all_goals
     go_loopw [0,5] (fun v0 v5 wr=>∃ j:Nat,j<=ts.length/\v5=.int .i64 j/\dv base wr v0 (Tm.bY pM (ts.take j))/\au wr w.heap.size (.int .i64 k) (.string (B n)) (.int .i64 i) (.slice a ts.length cap) 29/\cB 3 base w wr)
       (fun _ v5 _=>ts.length - (intOf v5).toNat)
     case atStart=>exact⟨0,Nat.zero_le _,rfl,Kx,KX,m9⟩
     obtain⟨j,hj,rfl,hvj,hBj,hUj⟩:=hrel;clear Kx KX m9;obtain⟨b0,b1,b2,b3⟩:=hBj.cells;by_cases aB:j<ts.length
     ·obtain⟨b,o,k1,n1,x1,s1,cp,rfl,hb,_,p0,p1,p2,p3,eY⟩:=aY (hE.Bk hUj.Bk) j aB;have Bv:=Tm.aK (List.getElem_mem aB);have rI:=yj (ts.take j) pM;have ED:=Tm.bJ ts j aB;have TF:=Tm.bW ts (j+1);have hT:=o7 ts pM j aB;have HT:=ak hT;have key:=ih _ (List.getElem_mem aB) (by omega) _ base wr _ _ (by omega) (Nat.le_trans hbw hUj.size) hvj eY;clear hT rI ED TF;go_wp2_with fail;refine key.mono ?_;rintro e w1 ⟨v',rfl,EC,aH⟩;go_wp2
      go_roundw
      case rel=>
        have fin:∃ j1:Nat,j1<=ts.length/\Value.int .i64 ((j:Int)+1)=.int .i64 j1/\dv base w1 v' (Tm.bY pM (ts.take j1))/\au w1 w.heap.size (.int .i64 k) (.string (B n)) (.int .i64 i) (.slice (some ⟨b,o,none⟩) ts.length cap) 29/\cB 3 base w w1:=
          ⟨j+1,by omega,by go_num,by rw[HT.out];exact EC,hBj.up aH (by decide),hUj.trans aH⟩
        first |exact fin |((repeat apply Exists.intro);exact⟨fin,rfl⟩)
      simp[intOf];omega
     have jR:ts.take j=ts:=List.take_of_length_le (by omega);rw[jR,<-HR.out]at hvj;clear jR;go_wp2
     go_ret;exact⟨_,rfl,hvj,hUj⟩
theorem iE(t:Tm)(iH:t.wt<=1000000)(w:World)(cs:List Value)(h:aw ae w t.az cs):
    Calls Tryz.prog 35 #[.agg cs.toArray] w fun e w'=>∃ v,e=.returned v/\dv w.heap.size w' v (Tm.ay t)/\af ae w w':=by
  have HW:=fun w cs h=>dx t iH w cs h
  have HS:=fun w v cs(h:aw (fun b=>w.heap.size<=b) w t.az cs)hv=>Bl t (Nat.le_trans (Tm.bB t) iH) [] w.heap.size w v cs (by have:=Tm.bB t;simp;omega) (Nat.le_refl _) hv h
  have hm:Tm.ay t=if t.wf == 0 then Tm.cC [] t else []:=rfl
  obtain⟨k,n,i,ts,a,cap,ht,rfl,aX,hE⟩:=aP h;generalize Tm.ay t=r at *
  generalize Tm.cC [] t=r' at *
  generalize t.wf=wf at *
  have HT:=ak ht;clear ht aX;generalize ts.length=len at *
  by_cases hz:(wf == 0)=true
  ·have z1:(wf !=0)=false:=by simp[bne,hz]
   rw[if_pos hz]at hm;subst hm;go_enter Tryz.func35,Tryz.ntmps35;go_wp2_with fail;refine(HW _ _ (h.new _)).mono ?_;rintro e w1 ⟨rfl,hU⟩;obtain⟨b0,b1,b2,b3⟩:=b8 hU;have aF:af ae w w1:=hU.kR;go_wp2_with fail;refine(HS _ _ _ (aw.fresh (h.on aF)) (World.ownsRow_nil _ _ _ _)).mono ?_;rintro e w2 ⟨v,rfl,hv,aL⟩;go_wp2
   go_ret;exact⟨v,rfl,hv.mono aF.size,aF.and (aL.upto (Nat.le_refl _))⟩
  have z1:(wf !=0)=true:=by simp at hz;simp[bne,hz]
  rw[if_neg hz]at hm;subst hm;go_enter Tryz.func35,Tryz.ntmps35;go_wp2_with fail;refine(HW _ _ (h.new _)).mono ?_;rintro e w1 ⟨rfl,hU⟩;have aF:af ae w w1:=hU.kR;go_wp2
  go_ret;exact⟨_,rfl,World.ownsRow_nil _ _ _ _,aF⟩
end
section
open Go.RowKit Go.LF
theorem wu(x:Int):0<=IntKind.u64.wrap x:=by
  unfold IntKind.wrap;simp[IntKind.signed,IntKind.bits];omega
theorem Hz(x n:Int)(h0:0<n)(h1:n<=1000000)(w:World):
    Calls Tryz.prog 25 #[.int .i64 x,.int .i64 n] w fun e w'=>(∃ c:Nat,(c:Int)<n/\e=.returned (.int .i64 c))/\w=w':=by
  go_enter Tryz.func25,Tryz.ntmps25;go_wp2_with fail;go_ret;have hx:0<=IntKind.u64.wrap x:=wu x;have h2:(IntKind.u64.wrap x).tmod n=(IntKind.u64.wrap x) % n:=Int.tmod_eq_emod_of_nonneg hx;have h3:=Int.emod_nonneg (IntKind.u64.wrap x) (show n≠0 by omega);have h4:=Int.emod_lt_of_pos (IntKind.u64.wrap x) h0;refine⟨⟨((IntKind.u64.wrap x) % n).toNat,by omega,?_⟩,rfl⟩;refine bd ?_;rw[h2,Go.IntWalk.wrap64_in _ (by omega)];omega
end
section
open Go.RowKit Go.LF
def bL(W:World)(T:Nat):Prop:=∃(l:List Int)(a:Option Addr)(cap i:Nat),W.cell? ⟨T,0,none⟩=some (.slice a l.length cap)/\W.cell? ⟨T,1,none⟩=some (.int .i64 i)/\W.frozen? ⟨T,1,none⟩=false/\
  i<=l.length/\l.length<=4611686018427387904/\ai (fun b=>T<=b) W 1 (l.map (fB.int .i64)) a 0
abbrev cv(T:Nat):Nat->Prop:=fun b=>b=T
theorem bL.on{W W':World}{T:Nat}(h:bL W T)(hU:af ae W W'):bL W' T:=by
  obtain⟨l,a,cap,i,h1,h2,h3,h4,h5,h6⟩:=h;refine⟨l,a,cap,i,hU.cell h1 (fun x=>x),hU.cell h2 (fun x=>x),?_,h4,h5,h6.on hU⟩;rw[hU.LR.2 _ _ (World.block_lt_of_cell? W _ h2)];exact h3
theorem bL.kW{W W':World}{T:Nat}{S:Nat->Prop}(h:bL W T)(hU:af S W W')(hS:∀ b,S b->T<b):bL W' T:=by
  obtain⟨l,a,cap,i,h1,h2,h3,h4,h5,h6⟩:=h;have hn:¬S T:=fun e=>by have:=hS T e;omega
  refine⟨l,a,cap,i,hU.cell h1 hn,hU.cell h2 hn,?_,h4,h5,ai.ag hU (fun b e=>Nat.le_of_lt (hS b e)) _ _ _ _ h6⟩;rw[World.frozen?_of_block (hU.block T (World.block_lt_of_cell? W _ h2) hn)];exact h3
theorem bL.lt{W:World}{T:Nat}(h:bL W T):T<W.heap.size:=by
  obtain⟨l,a,cap,i,h1,_⟩:=h;exact World.block_lt_of_cell? W _ h1
theorem gh(n:Int)(h0:0<n)(h1:n<=1000000)(T:Nat)(w:World)(hT:bL w T):
    Calls Tryz.prog 27 #[.pointer (some ⟨T,0,none⟩),.int .i64 n] w fun e w'=>(∃ c:Nat,(c:Int)<n/\e=.returned (.int .i64 c))/\bL w' T/\af (cv T) w w':=by
  obtain⟨l,a,cap,i,c0,c1,f1,hi,du,hE⟩:=hT;by_cases aB:i<l.length
  ·obtain⟨b,o,rfl,hb,hbT,hc⟩:=eX hE i aB;have HC:=fun x w=>Hz x n h0 h1 w
   have j0:(0:Int)<=(i:Int):=by omega
   have j1:(i:Int)<(l.length:Int):=by omega
   have j2:IntKind.i64.wrap ((i:Int)+1 - 1)=(i:Int):=by rw[Go.IntWalk.i64_left,Go.IntWalk.wrap64_in _ (by omega)];omega
   have j3:IntKind.i64.wrap (i:Int)=(i:Int):=by rw[Go.IntWalk.i64_left,Go.IntWalk.wrap64_in _ (by omega)]
   generalize l[i]=x at *
   go_enter Tryz.func27,Tryz.ntmps27;go_wp2_with fail;go_region
   go_wp2_with fail;obtain⟨W,hW⟩:∃ W,W=(w.setCell ⟨T,1,none⟩ (.int .i64 ((i:Int)+1))).drew:=⟨_,rfl⟩;have d0:W.cell? ⟨T,0,none⟩=some (.slice (some ⟨b,o,none⟩) l.length cap):=by rw[hW];exact(World.cell?_setCell_other _ _ _ _ (by simp)).trans c0
   have d1:W.cell? ⟨T,1,none⟩=some (.int .i64 ((i:Int)+1)):=by rw[hW];exact World.cell?_setCell_same _ _ _ c1
   have d2:W.cell? ⟨b,o+i,none⟩=some (.int .i64 x):=by rw[hW];exact(World.cell?_setCell_other _ _ _ _ (by intro e;have e2:T=b:=congrArg Addr.block e;exact hbT (Nat.le_of_eq e2))).trans hc
   have dU:af (cv T) w W:=by rw[hW];exact((af.refl (cv T) w).setCell (fun _=>rfl) _).drew
   have df:W.frozen? ⟨T,1,none⟩=false:=by rw[hW];exact(World.frozen?_setCell _ _ _ _).trans f1
   have Au:ai (fun b=>T<=b) W 1 (l.map (fB.int .i64)) (some ⟨b,o,none⟩) 0:=ai.ag dU (fun _ h=>Nat.le_of_eq h.symm) _ _ _ _ hE;rw[<-hW];clear hW c0 c1 f1 hc hE
   go_region_held3 (fun w'=>w'.cell? ⟨T,0,none⟩=some (.slice (some ⟨b,o,none⟩) l.length cap)/\w'.cell? ⟨T,1,none⟩=some (.int .i64 ((i:Int)+1))/\w'.cell? ⟨b,o+i,none⟩=some (.int .i64 x))
     (first |go_keep |(exact⟨d0,d1,d2⟩))
     ((go_at_call 25;refine(HC _ _).mono ?_;rintro e w1 ⟨⟨c,Y6,rfl⟩,rfl⟩))
   go_wp2
   go_ret;exact⟨⟨c,Y6,rfl⟩,⟨l,_,cap,i+1,d0,d1,df,by omega,du,ai.ag ((af.refl (cv T) W).drew) (fun _ h=>Nat.le_of_eq h.symm) _ _ _ _ Au⟩,dU.drew⟩
  have N4:(i:Int)=l.length:=by omega
  go_enter Tryz.func27,Tryz.ntmps27;go_wp2_with fail;go_region
  go_wp2
  go_ret;exact⟨⟨0,by omega,rfl⟩,⟨l,a,cap,i,c0,c1,f1,hi,du,ai.ag ((af.refl (cv T) w).drew) (fun _ h=>Nat.le_of_eq h.symm) _ _ _ _ hE⟩,(af.refl _ _).drew⟩
end
end Go.Proofs.YthgmimncdjhgnaaGreatDoor
namespace Go.LF.Tm
section
structure Fits(t:Tm)(deep vars ay:Nat):Prop where
  obj:t.isObj=true
  scope:t.scope<=vars
  ay:∀ b,∀ x∈t.nodes b,(x.k == 6)=true->x.i<ay
  depth:t.depth<=deep+1
  size:t.size+1<=2 ^ (deep+1)
  wt:t.wt+5<=5 * 2 ^ (deep+1)
  LX:∀ b,∀ x∈t.nodes b,x.n.length<=4
theorem Aw{k:Int}{v:Int}:∀(l:List Tm)(j:Nat)(a:Int),a<=v->(∀ t∈l,t.scope<=v)->scopes k j a l<=v:=by
  intro l;induction l with
  |nil=>intro j a h _;simpa[scopes]using h
  |cons t ts ih=>
   intro j a ha h;rw[scopes];have:=h t (by simp);have:=bZ k j;exact ih _ _ (by omega) (fun t ht=>h t (by simp[ht]))
theorem Cu{a b:Nat}(h:a<=b):2 ^ a<=2 ^ b:=Nat.pow_le_pow_right (by omega) h
theorem Fits.mono{t:Tm}{d d' v m:Nat}(h:Fits t d v m)(hd:d<=d'):Fits t d' v m:=
  ⟨h.obj,h.scope,h.ay,by have:=h.depth;omega,by have:=h.size;have:=Cu (show d+1<=d'+1 by omega);omega,by have:=h.wt;have:=Cu (show d+1<=d'+1 by omega);omega,h.LX⟩
theorem Oi{t:Tm}{d v m:Nat}(h:Fits t d (v+1) m)(nm:List UInt8)(hn:(nm == []|| nm == [95]|| isName nm)=true)(hl:nm.length<=4):Fits (mk 3 nm 0 [t]) (d+1) v m:=by
  have h2:2 ^ (d+1+1)=2 * 2 ^ (d+1):=by rw[Nat.pow_succ];omega
  have hp:1<=2 ^ (d+1):=Nat.one_le_two_pow;refine⟨?_,?_,?_,?_,?_,?_,?_⟩
  ·rw[isObj];simp only[if_true];simp[bound,aV,h.obj];simpa[or_assoc]using hn
  ·have:=h.scope;rw[Tm.scope,scopes,scopes];simp[under];omega
  ·intro b x hx h6;rw[br]at hx;rcases List.mem_cons.1 hx with rfl |hx
   ·simp at h6
   simp only[bh,List.append_nil]at hx;exact h.ay _ x hx h6
  ·have:=h.depth;simp[aQ];omega
  ·have:=h.size;simp[aD];omega
  ·have:=h.wt;simp[eV];omega
  intro b x hx;rw[br]at hx;rcases List.mem_cons.1 hx with rfl |hx
  ·exact hl
  simp only[bh,List.append_nil]at hx;exact h.LX _ x hx
theorem jQ{k i:Int}{nm:List UInt8}{ts:List Tm}{d v m:Nat}(hk:k=4\/k=5\/k=6)(hlen:ts.length<=2)(eB:∀ t∈ts,Fits t d v m)(h4:k=4->isName nm=true/\i=0)(h5:k=5->nm=[]/\0<=i/\i<v)(h6:k=6->nm=[]/\0<=i/\i<m)
    (hv:v<=100000) (hm:m<=2000) (hl:nm.length<=4):Fits (mk k nm i ts) (d+1) v m:=by
  have h2:2 ^ (d+1+1)=2 * 2 ^ (d+1):=by rw[Nat.pow_succ];omega
  have hp:1<=2 ^ (d+1):=Nat.one_le_two_pow;have fO:aV ts=true:=by rw[cM,List.all_eq_true];exact fun t ht=>(eB t ht).obj
  have ee:aD ts+ts.length<=ts.length * 2 ^ (d+1)/\aQ ts<=d+1/\eV ts+5 * ts.length<=5 * (ts.length * 2 ^ (d+1)):=by
    clear hlen fO;induction ts with
    |nil=>simp[aD,aQ,eV]
    |cons t ts ih=>
     have:=ih (fun t ht=>eB t (by simp[ht]));have h:=eB t (by simp);have:=h.size;have:=h.depth;have:=h.wt;simp only[aD,aQ,eV,List.length_cons,Nat.add_mul,Nat.one_mul];omega
  have hmul:ts.length * 2 ^ (d+1)<=2 * 2 ^ (d+1):=Nat.mul_le_mul_right _ hlen;obtain⟨hs,hd,hw⟩:=ee;refine⟨?_,?_,?_,?_,?_,?_,?_⟩
  ·rw[isObj];rcases hk with rfl |rfl |rfl
   ·simp[h4 rfl,fO]
   ·have:=h5 rfl;simp[this,fO];omega
   have:=h6 rfl;simp[this,fO];omega
  ·rw[Tm.scope];refine Aw ts 0 _ ?_ (fun t ht=>(eB t ht).scope);by_cases e:(k == 5)=true
   ·rw[if_pos e];have:=h5 (by simpa using e);omega
   rw[if_neg e];omega
  ·intro b x hx e6;rw[br]at hx;rcases List.mem_cons.1 hx with rfl |hx
   ·exact(h6 (by simpa using e6)).2.2
   exact my (p:=fun x=>(x.k == 6)=true->x.i<m) (fun t ht b x hx=>(eB t ht).ay b x hx) 0 x hx e6
  ·simp;omega
  ·have:ts.length=0\/ts.length=1\/ts.length=2:=by omega
   simp only[aM];rcases this with e |e |e<;>rw[e]at hs<;>omega
  ·have:ts.length=0\/ts.length=1\/ts.length=2:=by omega
   simp only[cU];rcases this with e |e |e<;>rw[e]at hw<;>omega
  intro b x hx;rw[br]at hx;rcases List.mem_cons.1 hx with rfl |hx
  ·exact hl
  exact my (p:=fun x=>x.n.length<=4) (fun t ht b x hx=>(eB t ht).LX b x hx) 0 x hx
theorem lH{k i:Int}{nm:List UInt8}{v m:Nat}(hk:k=4\/k=5\/k=6)(h4:k=4->isName nm=true/\i=0)(h5:k=5->nm=[]/\0<=i/\i<v)(h6:k=6->nm=[]/\0<=i/\i<m)
    (hv:v<=100000) (hm:m<=2000) (hl:nm.length<=4):Fits (mk k nm i []) 0 v m:=by
  have hN:=jQ (d:=0) (ts:=[]) hk (by simp) (by simp) h4 h5 h6 hv hm hl;refine⟨hN.obj,hN.scope,hN.ay,by simp[aQ],by simp[aD],?_,hN.LX⟩;simp only[cU,eV];omega
end
section
theorem Fits.vars{t:Tm}{d v v' m:Nat}(h:Fits t d v m)(hv:v<=v'):Fits t d v' m:=⟨h.obj,by have:=h.scope;omega,h.ay,h.depth,h.size,h.wt,h.LX⟩
end
end Go.LF.Tm
namespace Go.Proofs.YthgmimncdjhgnaaGreatDoor
section
open Go.RowKit Go.LF
def eE:List (List UInt8):=[[120],[121],[78],[102],[95],[]]
def nameAt(j:Nat):List UInt8:=eE.getD j []
theorem oP(j:Nat):(nameAt j == []|| nameAt j == [95]|| isName (nameAt j))=true/\(nameAt j).length<=4:=by
  match j with
  |0=>decide
  |1=>decide
  |2=>decide
  |3=>decide
  |4=>decide
  |5=>decide
  |n+6=>exact⟨rfl,by show(0:Nat)<=4;omega⟩
def aW(T:Nat)(W:World):Prop:=T≠0/\∃ v,W.cell? ⟨0,0,none⟩=some v/\aw (fun b=>T<=b) W (Ns eE) [v]
def jO(nb no:Nat)(w':World):Prop:=∀ j,j<6->w'.cell? ⟨nb,no+j,none⟩=some (.string (B (nameAt j)))
theorem aW.open{T:Nat}{W:World}(h:aW T W):∃ nb no lh,6<=lh/\T≠0/\nb<T/\W.cell? ⟨0,0,none⟩=some (.slice (some ⟨nb,no,none⟩) 6 lh)/\jO nb no W:=by
  obtain⟨SY,nv,kz,hnr⟩:=h;obtain⟨na,lh,rfl,aX,hnE⟩:=IV hnr;obtain⟨nb,no,rfl,_,Kv,_⟩:=DM hnE 0 (by decide);refine⟨nb,no,lh,aX,SY,by omega,kz,fun j hj=>?_⟩;obtain⟨b,o,e,_,_,hc⟩:=DM hnE j hj;cases e
  rw[hc];unfold nameAt;rw[List.getD_eq_getElem?_getD,List.getElem?_eq_getElem hj];rfl
theorem jO.ag{nb no T:Nat}{W W':World}(h:jO nb no W)(hU:af (cv T) W W')(hT:nb<T):jO nb no W':=fun j hj=>hU.cell (h j hj) (fun e=>by simp only[cv]at e;omega)
theorem aW.ag{T:Nat}{W W':World}(h:aW T W)(hU:af (cv T) W W'):aW T W':=by
  obtain⟨h0,v,h1,h2⟩:=h;exact⟨h0,v,hU.cell h1 (fun e=>h0 e.symm),aw.ag hU (fun _ e=>Nat.le_of_eq e.symm) _ _ h2⟩
theorem aW.kW{T:Nat}{W W':World}{S:Nat->Prop}(h:aW T W)(hU:af S W W')(hS:∀ b,S b->T<=b):aW T W':=by
  obtain⟨h0,v,h1,h2⟩:=h;exact⟨h0,v,hU.cell h1 (fun e=>by have:=hS 0 e;omega),aw.ag hU hS _ _ h2⟩
theorem aW.on{T:Nat}{W W':World}(h:aW T W)(hU:af ae W W'):aW T W':=h.ag (hU.mono (fun _ _ x=>x.elim))
end
section
open Go.RowKit Go.LF
def sT(base:Nat)(deep vars ay:Nat)(T:Nat)(w:World)(e:Ending)(w':World):Prop:=
  ∃(k i:Int)(n:List UInt8)(a:Option Addr)(len cap:Nat)(t:Tm),e=.returned (.agg #[.int .i64 k,.string (B n),.int .i64 i,.slice a len cap])/\
   aw (fun b=>b<base) w' t.az [.int .i64 k,.string (B n),.int .i64 i,.slice a len cap]/\Tm.Fits t deep vars ay/\bL w' T/\aW T w'/\af (cv T) w w'
theorem DW{W:World}{b:Nat}{T':TypeId}{fr:Nat×Nat}(h:W.heap[b]? =some (.cells #[.int .i64 3,.int .i64 4,.int .i64 4,.int .i64 5,.int .i64 6] T' fr))(c:Nat)(hc:(c:Int)<5):
    ∃ k:Int,W.cell? ⟨b,c,none⟩=some (.int .i64 k)/\(k=3\/k=4\/k=5\/k=6):=by
  have bR:∀ i,W.cell? ⟨b,i,none⟩=(#[.int .i64 3,.int .i64 4,.int .i64 4,.int .i64 5,.int .i64 6]:Array Value)[i]? :=fun i=>by simp[World.cell?,h]
  match c,hc with
  |0,_=>exact⟨3,bR 0,.inl rfl⟩
  |1,_=>exact⟨4,bR 1,.inr (.inl rfl)⟩
  |2,_=>exact⟨4,bR 2,.inr (.inl rfl)⟩
  |3,_=>exact⟨5,bR 3,.inr (.inr (.inl rfl))⟩
  |4,_=>exact⟨6,bR 4,.inr (.inr (.inr rfl))⟩
  |n+5,h=>omega
theorem ph{W:World}{b:Nat}{T':TypeId}{fr:Nat×Nat}(h:W.heap[b]? =some (.cells #[.string (B [122]),.string (B [115]),.string (B [99]),.string (B [97,112,112])] T' fr))(c:Nat)(hc:(c:Int)<4):
    ∃ nm,W.cell? ⟨b,c,none⟩=some (.string (B nm))/\isName nm=true/\nm.length<=4:=by
  have bR:∀ i,W.cell? ⟨b,i,none⟩=(#[.string (B [122]),.string (B [115]),.string (B [99]),.string (B [97,112,112])]:Array Value)[i]? :=fun i=>by simp[World.cell?,h]
  match c,hc with
  |0,_=>exact⟨[122],bR 0,by decide,by decide⟩
  |1,_=>exact⟨[115],bR 1,by decide,by decide⟩
  |2,_=>exact⟨[99],bR 2,by decide,by decide⟩
  |3,_=>exact⟨[97,112,112],bR 3,by decide,by decide⟩
  |n+4,h=>omega
theorem rr{W w9:World}{w:World}{T deep vars ay base len:Nat}{kf ix:Int}{nm:List UInt8}{a:Option Addr}{cap:Nat}{ts:List Tm}{U:TypeId}{x0 x1 x2 x3:Value}{hb:Nat}(hw:w.heap.size=hb)(hlen:len=ts.length)(aX:len<=cap)(hE:ai (fun b=>b<base) W 4 (ts.map Tm.az) a 0)(dh:w.heap.size<base)
    (h9:au w9 hb x0 x1 x2 x3 U/\af (fun b=>b=hb) W w9) (sD:Tm.Fits (.mk kf nm ix ts) deep vars ay) (hT:bL W T) (hN:aW T W) (hU:af (cv T) w W) (lD:T<w.heap.size):
    sT w.heap.size deep vars ay T w (.returned (.agg #[.int .i64 kf,.string (B nm),.int .i64 ix,.slice a len cap])) w9:=by
  subst hw;refine⟨kf,ix,nm,a,len,cap,.mk kf nm ix ts,rfl,?_,sD,hT.kW h9.2 (fun b e=>by omega),hN.kW h9.2 (fun b e=>by omega),hU.trans h9.2 (fun b hb e=>by omega)⟩;exact bg.2 ⟨a,cap,by rw[hlen],by omega,ai.weaken (fun b _ e=>by omega) _ _ _ _ (ai.ag h9.2 (fun b e=>by omega) _ _ _ _ hE)⟩
end
section
open Go.RowKit Go.LF
theorem Nr(vars ay:Nat)(hv:vars<=1000)(hm:ay<=1000)(T:Nat)(w:World)(hT:bL w T)(hN:aW T w):
    Calls Tryz.prog 28 #[.pointer (some ⟨T,0,none⟩),.int .i64 ((0:Nat):Int),.int .i64 vars,.int .i64 ay] w (sT w.heap.size 0 vars ay T w):=by
  obtain⟨D,hD⟩:∃ D:Int,D=((0:Nat):Int):=⟨_,rfl⟩;obtain⟨V,hV⟩:∃ V:Int,V=(vars:Int):=⟨_,rfl⟩;obtain⟨M,hM⟩:∃ M:Int,M=(ay:Int):=⟨_,rfl⟩;rw[<-hD,<-hV,<-hM];have NX:=fun(n:Int)h0 h1 w hT=>gh n h0 h1 T w hT
  have D0:¬0<D:=by omega
  have D1:D<=0:=by omega
  have V0:0<=V:=by omega
  have V1:V<=1000:=by omega
  have M0:0<=M:=by omega
  have M1:M<=1000:=by omega
  have HD:=ak hD;have HV:=ak hV;have HM:=ak hM;clear hD hV hM;have lD:=hT.lt;go_enter Tryz.func28,Tryz.ntmps28;go_wp2_with fail;refine(NX _ (by omega) (by omega) _ ((hT.on ((af.refl ae w).alloc _)).on ((af.refl ae _).alloc _))).mono ?_;rintro e w1 ⟨⟨c,hc,rfl⟩,ic,aH⟩
  have KW:w1.heap[w.heap.size+1]? =some (.cells #[.int .i64 3,.int .i64 4,.int .i64 4,.int .i64 5,.int .i64 6] 3 (0,0)):=by
    rw[aH.block _ (by simp) (fun e=>by simp only[cv]at e;omega)];have:=heap_alloc_new (w.alloc (.cells #[.int .i64 0,.string (B []),.int .i64 0,.slice none 0 0] 29)) (.cells #[.int .i64 3,.int .i64 4,.int .i64 4,.int .i64 5,.int .i64 6] 3);rw[World.size_alloc]at this;exact this
  obtain⟨kk,MK,Nv⟩:=DW KW c hc;have aF:af (cv T) w w1:=(((af.refl (cv T) w).alloc _).alloc _).trans aH (fun _ _ x=>x);have c0:(0:Int)<=(c:Int):=by omega
  have c5:(c:Int)<5:=hc;clear KW hT
  have cP:au w1 w.heap.size (.int .i64 0) (.string (B [])) (.int .i64 0) (.slice none 0 0) 29:=by
    unfold au;rw[aH.block _ (by simp;omega) (fun e=>by simp only[cv]at e;omega)];exact(nW _ _ _ (by simp)).trans (heap_alloc_new w _)
  clear aH;have yb:aW T w1:=hN.ag aF;clear hN;have dD:w.heap.size≠T:=by omega
  have cV:kk=3\/kk=4\/(kk=5/\V=0)\/(kk=6/\M=0)\/(kk=5/\(V == 0)=false/\0<V)\/(kk=6/\(M == 0)=false/\0<M):=by
    rcases Nv with rfl |rfl |rfl |rfl
    ·exact .inl rfl
    ·exact .inr (.inl rfl)
    ·by_cases h:V=0
     ·exact .inr (.inr (.inl ⟨rfl,h⟩))
     exact .inr (.inr (.inr (.inr (.inl ⟨rfl,by simpa using h,by omega⟩))))
    by_cases h:M=0
    ·exact .inr (.inr (.inr (.inl ⟨rfl,h⟩)))
    exact .inr (.inr (.inr (.inr (.inr ⟨rfl,by simpa using h,by omega⟩))))
  clear Nv;rcases cV with rfl |rfl |⟨rfl,rfl⟩|⟨rfl,rfl⟩|⟨rfl,XF,hp⟩|⟨rfl,XF,hp⟩
  case inl |inr.inl |inr.inr.inl |inr.inr.inr.inl=>
    go_wp2_with fail;refine(NX _ (by omega) (by omega) _ ((ic.on ((af.refl ae w1).alloc _)).on ((af.refl ae _).alloc _))).mono ?_;rintro e w3 ⟨⟨c2,ju,rfl⟩,lU,aZ⟩
    have mU:w3.heap[w1.heap.size+1]? =some (.cells #[.string (B [122]),.string (B [115]),.string (B [99]),.string (B [97,112,112])] 9 (0,0)):=by
      rw[aZ.block _ (by simp) (fun e=>by simp only[cv]at e;have:=ic.lt;omega)];have:=heap_alloc_new (w1.alloc (.cells #[.int .i64 4,.string (B []),.int .i64 0,.slice none 0 0] 29)) (.cells #[.string (B [122]),.string (B [115]),.string (B [99]),.string (B [97,112,112])] 9);rw[World.size_alloc]at this;exact this
    obtain⟨nm,qG,zn,uE⟩:=ph mU c2 ju;have d0:(0:Int)<=(c2:Int):=by omega
    have Bb:w1.heap.size≠T:=by have:=ic.lt;omega
    have et:au w3 w1.heap.size (.int .i64 4) (.string (B [])) (.int .i64 0) (.slice none 0 0) 29:=by
      unfold au;rw[aZ.block _ (by simp;omega) (fun e=>by simp only[cv]at e;omega)];exact(nW _ _ _ (by simp)).trans (heap_alloc_new w1 _)
    have j6:af (cv T) w1 w3:=(((af.refl (cv T) w1).alloc _).alloc _).trans aZ (fun _ _ x=>x);clear aZ mU;obtain⟨y0,y1,y2,y3⟩:=et.cells;obtain⟨g0,g1,g2,g3⟩:=et.aq;have q1:w.heap.size<w1.heap.size:=cP.lt;have eR:=cP.ag j6 dD;obtain⟨z0,z1,z2,z3⟩:=eR.cells;obtain⟨e0,e1,e2,e3⟩:=eR.aq;go_wp2_with fail;obtain⟨wp,xJ⟩:∃ wp,wp=w3.setCell ⟨w1.heap.size,1,none⟩ (.string (B nm)):=⟨_,rfl⟩;have ah:af (fun b=>b=w1.heap.size) w3 wp:=by rw[xJ];exact af.set (af.refl _ _) 1 _
    have abT:T<w1.heap.size:=by omega
    have tf:=eR.ag ah (by omega);have aJ:=tf.set (d0:=.int .i64 4) (d1:=.string (B nm)) (d2:=.int .i64 0) (d3:=.slice none 0 0);have RM:=lU.kW ah (fun b e=>by omega);have Ta:aW T wp:=(yb.ag j6).kW ah (fun b e=>by omega);have DR:af (cv T) w wp:=(aF.trans j6 (fun _ _ x=>x)).trans ah (fun b hb e=>by omega);rw[<-xJ];have sD:Tm.Fits (.mk 4 nm 0 []) 0 vars ay:=Tm.lH (.inl rfl) (fun _=>⟨zn,rfl⟩) (fun e=>by omega) (fun e=>by omega) (by omega) (by omega) uE;obtain⟨w9,bf⟩:∃ w9,w9=(((wp.setCell ⟨w.heap.size,0,none⟩ (.int .i64 4)).setCell ⟨w.heap.size,1,none⟩ (.string (B nm))).setCell ⟨w.heap.size,2,none⟩ (.int .i64 0)).setCell ⟨w.heap.size,3,none⟩ (.slice none 0 0):=⟨_,rfl⟩;rw[<-bf]at aJ;rw[<-bf];clear bf xJ y0 y1 y2 y3 z0 z1 z2 z3;obtain⟨x0,x1,x2,x3⟩:=aJ.1.cells;refine bodyPost_ret (v:=.agg #[.int .i64 4,.string (B nm),.int .i64 0,.slice none 0 0]) ?_ rfl ?_
    ·simp[results,Tryz.f28,go_sem,x0,x1,x2,x3]
    exact rr (base:=w.heap.size+1) (ts:=[]) rfl rfl (Nat.le_refl _) (by simp only[List.map_nil,ai]) (by omega) aJ sD RM Ta DR lD
  case inr.inr.inr.inr.inl=>
    go_wp2_with fail;refine(NX _ (by omega) (by omega) _ (ic.on ((af.refl ae w1).alloc _))).mono ?_;rintro e w3 ⟨⟨c2,ju,rfl⟩,lU,aZ⟩;have Bb:w1.heap.size≠T:=by have:=ic.lt;omega
    have et:au w3 w1.heap.size (.int .i64 5) (.string (B [])) (.int .i64 0) (.slice none 0 0) 29:=by
      unfold au;rw[aZ.block _ (by simp) (fun e=>by simp only[cv]at e;omega)];exact heap_alloc_new w1 _
    have j6:af (cv T) w1 w3:=((af.refl (cv T) w1).alloc _).trans aZ (fun _ _ x=>x);clear aZ;obtain⟨y0,y1,y2,y3⟩:=et.cells;obtain⟨g0,g1,g2,g3⟩:=et.aq;have q1:w.heap.size<w1.heap.size:=cP.lt;have eR:=cP.ag j6 dD;obtain⟨z0,z1,z2,z3⟩:=eR.cells;obtain⟨e0,e1,e2,e3⟩:=eR.aq;go_wp2_with fail;obtain⟨wp,xJ⟩:∃ wp,wp=w3.setCell ⟨w1.heap.size,2,none⟩ (.int .i64 c2):=⟨_,rfl⟩;have ah:af (fun b=>b=w1.heap.size) w3 wp:=by rw[xJ];exact af.set (af.refl _ _) 2 _
    have abT:T<w1.heap.size:=by omega
    have tf:=eR.ag ah (by omega);have aJ:=tf.set (d0:=.int .i64 5) (d1:=.string (B [])) (d2:=.int .i64 c2) (d3:=.slice none 0 0);have RM:=lU.kW ah (fun b e=>by omega);have Ta:aW T wp:=(yb.ag j6).kW ah (fun b e=>by omega);have DR:af (cv T) w wp:=(aF.trans j6 (fun _ _ x=>x)).trans ah (fun b hb e=>by omega);rw[<-xJ];have sD:Tm.Fits (.mk 5 [] c2 []) 0 vars ay:=Tm.lH (.inr (.inl rfl)) (fun e=>by omega) (fun _=>⟨rfl,by omega,by have:=HV.out;omega⟩) (fun e=>by omega) (by omega) (by omega) (by simp);obtain⟨w9,bf⟩:∃ w9,w9=(((wp.setCell ⟨w.heap.size,0,none⟩ (.int .i64 5)).setCell ⟨w.heap.size,1,none⟩ (.string (B []))).setCell ⟨w.heap.size,2,none⟩ (.int .i64 c2)).setCell ⟨w.heap.size,3,none⟩ (.slice none 0 0):=⟨_,rfl⟩;rw[<-bf]at aJ;rw[<-bf];clear bf xJ y0 y1 y2 y3 z0 z1 z2 z3;obtain⟨x0,x1,x2,x3⟩:=aJ.1.cells;refine bodyPost_ret (v:=.agg #[.int .i64 5,.string (B []),.int .i64 c2,.slice none 0 0]) ?_ rfl ?_
    ·simp[results,Tryz.f28,go_sem,x0,x1,x2,x3]
    exact rr (base:=w.heap.size+1) (ts:=[]) rfl rfl (Nat.le_refl _) (by simp only[List.map_nil,ai]) (by omega) aJ sD RM Ta DR lD
  case inr.inr.inr.inr.inr=>
    go_wp2_with fail;refine(NX _ (by omega) (by omega) _ (ic.on ((af.refl ae w1).alloc _))).mono ?_;rintro e w3 ⟨⟨c2,ju,rfl⟩,lU,aZ⟩;have Bb:w1.heap.size≠T:=by have:=ic.lt;omega
    have et:au w3 w1.heap.size (.int .i64 6) (.string (B [])) (.int .i64 0) (.slice none 0 0) 29:=by
      unfold au;rw[aZ.block _ (by simp) (fun e=>by simp only[cv]at e;omega)];exact heap_alloc_new w1 _
    have j6:af (cv T) w1 w3:=((af.refl (cv T) w1).alloc _).trans aZ (fun _ _ x=>x);clear aZ;obtain⟨y0,y1,y2,y3⟩:=et.cells;obtain⟨g0,g1,g2,g3⟩:=et.aq;have q1:w.heap.size<w1.heap.size:=cP.lt;have eR:=cP.ag j6 dD;obtain⟨z0,z1,z2,z3⟩:=eR.cells;obtain⟨e0,e1,e2,e3⟩:=eR.aq;go_wp2_with fail;obtain⟨wp,xJ⟩:∃ wp,wp=w3.setCell ⟨w1.heap.size,2,none⟩ (.int .i64 c2):=⟨_,rfl⟩;have ah:af (fun b=>b=w1.heap.size) w3 wp:=by rw[xJ];exact af.set (af.refl _ _) 2 _
    have abT:T<w1.heap.size:=by omega
    have tf:=eR.ag ah (by omega);have aJ:=tf.set (d0:=.int .i64 6) (d1:=.string (B [])) (d2:=.int .i64 c2) (d3:=.slice none 0 0);have RM:=lU.kW ah (fun b e=>by omega);have Ta:aW T wp:=(yb.ag j6).kW ah (fun b e=>by omega);have DR:af (cv T) w wp:=(aF.trans j6 (fun _ _ x=>x)).trans ah (fun b hb e=>by omega);rw[<-xJ];have sD:Tm.Fits (.mk 6 [] c2 []) 0 vars ay:=Tm.lH (.inr (.inr rfl)) (fun e=>by omega) (fun e=>by omega) (fun _=>⟨rfl,by omega,by have:=HM.out;omega⟩) (by omega) (by omega) (by simp);obtain⟨w9,bf⟩:∃ w9,w9=(((wp.setCell ⟨w.heap.size,0,none⟩ (.int .i64 6)).setCell ⟨w.heap.size,1,none⟩ (.string (B []))).setCell ⟨w.heap.size,2,none⟩ (.int .i64 c2)).setCell ⟨w.heap.size,3,none⟩ (.slice none 0 0):=⟨_,rfl⟩;rw[<-bf]at aJ;rw[<-bf];clear bf xJ y0 y1 y2 y3 z0 z1 z2 z3;obtain⟨x0,x1,x2,x3⟩:=aJ.1.cells;refine bodyPost_ret (v:=.agg #[.int .i64 6,.string (B []),.int .i64 c2,.slice none 0 0]) ?_ rfl ?_
    ·simp[results,Tryz.f28,go_sem,x0,x1,x2,x3]
    exact rr (base:=w.heap.size+1) (ts:=[]) rfl rfl (Nat.le_refl _) (by simp only[List.map_nil,ai]) (by omega) aJ sD RM Ta DR lD
end
section
open Go.ChangeShapes Go.WideShapes Go.ChangeAt Go.RowKit Go.LF
theorem af.toBelow{w w':World}(h:af ae w w'):Below w.heap.size w w':=af.below (h.mono (fun _ _ x=>x.elim)) (Nat.le_refl _)
theorem own:ownKnob Tryz.prog.godebug=none:=by kernel_rfl
end
section
open Go.ChangeShapes Go.WideShapes Go.ChangeAt Go.RowKit Go.LF
theorem laidOut:laidOutB Tryz.prog=true:=by kernel_rfl
theorem yG:Tryz.prog.cellsOf 3=1:=by kernel_rfl
theorem Ka:Tryz.prog.cellsOf 9=1:=by kernel_rfl
theorem J0:Tryz.prog.bytesOf 3=8:=by kernel_rfl
theorem Ct{H:Type}{enc:TypeId×Value->H}{W:World}{a0:Option Addr}{len cap:Nat}{d:DataW H}{p:List MemPlace}{ts:List TypeId}{ds:List (DataW H)}{j:Nat}
    (hj:DataW.Trod enc Tryz.prog W 0 (fun _=>true) true 22 (Value.slice a0 len cap) d p) (ee:(DataW.weightsEach Tryz.prog ts ds).all (·<=reachBytes)=true) (ht:ts[j]? =some 22) (hd:ds[j]? =some d):
    ∃ l:List Int,l.length=len/\len<=cap/\len<=17592186044416/\ai ae W 1 (l.map (fB.int .i64)) a0 0:=by
  obtain⟨fuel,hf⟩:=hj;rcases open_ints Tryz.underlying22 Tryz.underlying3 yG hf with⟨pj,hx⟩|⟨a,nC,aS,zs,pj,_,hl,hm,hz,hx,bR,hwz⟩
  ·simp[Value.cells]at pj;obtain⟨rfl,rfl,rfl⟩:=pj;exact⟨[],rfl,Nat.le_refl _,by omega,by simp only[List.map_nil,ai]⟩
  simp[Value.cells]at pj;obtain⟨rfl,rfl,rfl⟩:=pj;simp only[Prod.mk.injEq]at hx;obtain⟨rfl,rfl⟩:=hx;simp only[if_true]at hz;have hw:=sized_slice ee ht hd Tryz.underlying22;rw[J0]at hw;simp only[lits,List.length_map,List.length_take,List.length_drop,reachBytes]at hw;have hlz:(zs.take len).length=len:=by simp;omega
  refine⟨zs.take len,hlz,hl,by omega,bT _ _ _ (fun i hi=>?_)⟩;have dZ:i<len:=by rw[List.length_map,hlz]at hi;exact hi
  have hc:=bR i (by omega);obtain⟨b,o,s⟩:=a
  have hs:s=none:=by
    have:=World.cell?_spot hc;unfold Addr.add at this;split at this
    ·exact this
    have h0:=World.cell?_spot (bR 0 (by omega));unfold Addr.add at h0;simpa using h0
  subst hs;have gF:(⟨b,o,none⟩:Addr).add i=⟨b,o+i,none⟩:=by unfold Addr.add;split<;>simp_all
  rw[gF]at hc;refine⟨b,o,[.int .i64 (zs.getD i 0)],rfl,by simpa using World.block_lt_of_cell? W _ hc,fun x=>x,rfl,fun m v hv=>?_,?_⟩
  ·cases m with
   |zero=>cases hv;simpa using hc
   |succ m=>simp at hv
  simp[aw,List.getD,List.getElem?_eq_getElem (show i<zs.length by omega)]
theorem Nb(os:Os)(args:Array Value):laidMetH Tryz.prog [("lfcheck/lfcheckmade.names",Rows.laid_lfcheck_lfcheckmade_names)] ((World.doorLaid Tryz.prog 400 os).forCall (fun _ _=>0) ⟨#[],args,[]⟩).memory:=
  laidMetH_of_parts3 (fuel:=8) (laidMet_of_run' 8 (by kernel_rfl) (by kernel_rfl)) (by kernel_rfl) (by kernel_rfl)
def oE(W:World):Prop:=∃ v,W.cell? ⟨0,0,none⟩=some v/\aw ae W (Ns eE) [v]
theorem oE.ok{W W':World}{T:Nat}(h:oE W)(hU:af ae W W')(hT:W.heap.size<=T):aW T W':=by
  obtain⟨v,h1,h2⟩:=h;have h0:0<W.heap.size:=by simpa using World.block_lt_of_cell? W _ h1
  exact⟨by omega,v,hU.cell h1 (fun x=>x),(aw.weaken (fun b _ e=>by omega) _ _ (aw.fresh h2)).on hU⟩
theorem Vl:Tryz.prog.globalNamed "lfcheck/lfcheckmade.names"=some 0:=by kernel_rfl
theorem V6:(Tryz.prog.globals[0]?).map (·.type)=some 68:=by kernel_rfl
theorem yo{W:World}(h:laidMetH Tryz.prog [("lfcheck/lfcheckmade.names",Rows.laid_lfcheck_lfcheckmade_names)] W):oE W:=by
  rw[MakeChecks.laidMetH_plain _ _ _ (by kernel_rfl)]at h;obtain⟨ps,⟨g0,t0,cs0,f0,p0,q0,hg0,ht0,Kx,KJ,_⟩,_⟩:=h;obtain rfl:=Option.some.inj (Vl.symm.trans hg0);obtain rfl:=Option.some.inj (V6.symm.trans ht0);have bR:=World.var?_cell hg0 Kx 0;rcases open_strings Tryz.underlying68 Tryz.underlying9 Ka KJ with⟨_,hx⟩|⟨a,len,cap,ss,pj,_,hl,hm,hz,hx,hc,hws⟩
  ·simp[Rows.laid_lfcheck_lfcheckmade_names]at hx
  simp only[Prod.mk.injEq,Rows.laid_lfcheck_lfcheckmade_names,DataW.slice.injEq]at hx
  have QW:(ss.take len).map (fun s=>s.data.toList)=eE:=by
    have h1:=hx.1.1;have h2:=congrArg (List.map fun d:DataW Unit=>match d with | .lit (.string b)=>b |_=>[]) h1;simp only[strs,List.map_map]at h2;exact h2.symm
  have hlen:(ss.take len).length=6:=by
    have:=congrArg List.length QW;simpa[eE]using this
  have hlz:len<=ss.length:=by simp only[if_true]at hz;omega
  have h6:len=6:=by simp at hlen;omega
  subst h6;obtain⟨l1⟩:=cs0;obtain rfl:l1=[.slice (some a) 6 cap]:=pj;refine⟨_,by simpa using bR,?_⟩;simp only[aw];refine⟨some a,cap,by simp[eE],by simpa[eE]using hl,bT _ _ _ (fun i hi=>?_)⟩;have dZ:i<6:=by simpa[eE]using hi
  have Xg:=hc i (by omega);obtain⟨b,o,s⟩:=a
  have hs:s=none:=by
    have h0:=World.cell?_spot (hc 0 (by omega));unfold Addr.add at h0;simpa using h0
  subst hs;have gF:(⟨b,o,none⟩:Addr).add i=⟨b,o+i,none⟩:=by unfold Addr.add;split<;>simp_all
  rw[gF]at Xg
  have hsi:ss.getD i ByteArray.empty=B (eE[i]'(by simpa[eE]using dZ)):=by
    have h1:((ss.take 6).map (fun s=>s.data.toList))[i]? =eE[i]? :=by rw[QW]
    rw[List.getElem?_map,List.getElem?_take_of_lt dZ,List.getElem?_eq_getElem (show i<ss.length by omega),List.getElem?_eq_getElem (by simpa[eE]using dZ)]at h1;simp only[Option.map_some,Option.some.injEq]at h1;rw[List.getD,List.getElem?_eq_getElem (show i<ss.length by omega),<-h1];rfl
  rw[hsi]at Xg;refine⟨b,o,[.string (B (eE[i]'(by simpa[eE]using dZ)))],rfl,by simpa using World.block_lt_of_cell? W _ Xg,fun x=>x,rfl,fun m v hv=>?_,?_⟩
  ·cases m with
   |zero=>cases hv;simpa using Xg
   |succ m=>simp at hv
  simp[aw]
end
end Go.Proofs.YthgmimncdjhgnaaGreatDoor
namespace Go.Proofs.YthgmimncdjhgnaaGreatDoor
open Go.RowKit Go.LF
theorem sK{O:Nat->Prop}{w:World}{t:Tm}{k x:Int}{n:List UInt8}{s:Option Addr}{l c:Nat}(h:aw O w t.az [.int .i64 k,.string (B n),.int .i64 x,.slice s l c]):
    ∃ ts,t=.mk k n x ts/\l=ts.length/\l<=c/\ai O w 4 (ts.map Tm.az) s 0:=by
  obtain⟨k',n',i',ts,a',aS,rfl,e,aX,hE⟩:=aP h;simp only[List.cons.injEq,Value.int.injEq,Value.string.injEq,Value.slice.injEq,and_true,true_and]at e;obtain⟨rfl,e2,rfl,rfl,rfl,rfl⟩:=e;obtain rfl:n=n':=by have:=congrArg (fun b=>b.data.toList) e2;simpa using this
  exact⟨ts,rfl,rfl,aX,hE⟩
end Go.Proofs.YthgmimncdjhgnaaGreatDoor
