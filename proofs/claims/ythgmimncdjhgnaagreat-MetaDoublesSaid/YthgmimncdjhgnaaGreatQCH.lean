/- What the sum of the zr of a term is, by its kind. No program is in sight here but for the name of the sum. -/
import Derived.Test.YthgmimncdjhgnaaGreatQCA
import Derived.Test.YthgmimncdjhgnaaGreatQCC
import Derived.Test.YthgmimncdjhgnaaGreatQCD
import Derived.Test.YthgmimncdjhgnaaGreatQCE
import Derived.Test.YthgmimncdjhgnaaGreatQCF
import Derived.Test.YthgmimncdjhgnaaGreatQCG
import Derived.Test.YthgmimncdjhgnaaGreatRows
import Derived.Below
import Derived.ChangeSame
import Derived.Deep.RegionHeld3
import Derived.Deep.RegionLaw
import Derived.IntWalk
import Derived.LaidMore
import Derived.Laws.AppendOwn
import Derived.MakeChecks
import Derived.OpenShut
import Derived.ProofKit
import Derived.SevenTiedAt
import Derived.SizedLaws
import Derived.Stop.Joined
set_option maxRecDepth 100000
set_option maxHeartbeats 4000000
namespace Go.Proofs.YthgmimncdjhgnaaGreat
section
open Go.LF
theorem xB(k n i ts)(h4:(k == 4)=false)(h:(k == 2 && Tm.bound n i ts 2)=false):(Tm.mk k n i ts).zX=false:=by
  rw[YD,Tm.isAtom,h4,Bool.false_and,Bool.false_or,<-Bool.and_assoc,h,Bool.false_and]
theorem zFu(k n i ts)(h:(k == 1)=true):zr (.mk k n i ts)=if n == [] && (i == 0 && ts.isEmpty)then 4 else 0:=by
  have hk:k=1:=by simpa using h
  subst hk;rw[zr,zDY _ _ _ _ h,YH _ _ _ _ rfl rfl rfl rfl,xB _ _ _ _ rfl rfl];simp
theorem zCo(k n i ts)(h:(k == 2)=true)(hb:Tm.bound n i ts 2=false):zr (.mk k n i ts)=0:=by
  have hk:k=2:=by simpa using h
  subst hk;rw[zr,YY _ _ _ _ rfl (by rw[hb];rfl),YH _ _ _ _ rfl rfl rfl rfl,xB _ _ _ _ rfl (by rw[hb];rfl)];simp
theorem zGN(k n i x y)(h:(k == 2)=true)(hb:Tm.bound n i [x,y] 2=true):
    zr (.mk k n i [x,y])=if x.zX then(if y.zX then 2 else 0)+(if y.zb then 4 else 0)else 0:=by
  have hk:k=2:=by simpa using h
  subst hk;rw[zr,zDp _ _ _ _ _ (by rw[hb];rfl),YH _ _ _ _ rfl rfl rfl rfl,YD,hb];have e:(((2:Int) == 4) && (isName n && i == 0 && Tm.ze [x,y])|| ((2:Int) == 2) && (true && (x.zX && (y.zX && true))))=(x.zX && y.zX):=by simp
  simp only[Tm.isAtom,Tm.yy,e];by_cases hx:x.zX=true<;>by_cases hy:y.zX=true<;>by_cases hz:y.zb=true<;>simp[hx,hy,hz]
theorem yi(k n i ts)(h1:(k == 1)=false)(h2:(k == 2)=false):(Tm.mk k n i ts).zb=false:=YY _ _ _ _ h1 (by rw[h2];rfl)
theorem zCw(k n i ts)(h:(k == 3)=true)(hb:Tm.bound n i ts 1=false):zr (.mk k n i ts)=0:=by
  have hk:k=3:=by simpa using h
  subst hk;rw[zr,yi _ _ _ _ rfl rfl,zA3 _ _ _ _ rfl,hb,xB _ _ _ _ rfl rfl];simp
theorem zGG(k n i x)(h:(k == 3)=true)(hb:Tm.bound n i [x] 1=true):zr (.mk k n i [x])=if x.isObj then 1 else 0:=by
  have hk:k=3:=by simpa using h
  subst hk;rw[zr,yi _ _ _ _ rfl rfl,zA3 _ _ _ _ rfl,hb,xB _ _ _ _ rfl rfl];simp[Tm.ze]
theorem zC7(k n i ts)(h:(k == 4)=true)(hb:(isName n && i == 0)=false):zr (.mk k n i ts)=0:=by
  have hk:k=4:=by simpa using h
  subst hk;rw[zr,yi _ _ _ _ rfl rfl,zBK _ _ _ _ rfl,YD,Tm.isAtom,hb];simp
theorem zFt(k n i ts)(h:(k == 4)=true)(hb:(isName n && i == 0)=true):zr (.mk k n i ts)=if Tm.ze ts then 3 else 0:=by
  have hk:k=4:=by simpa using h
  subst hk;rw[zr,yi _ _ _ _ rfl rfl,zBK _ _ _ _ rfl,YD,Tm.isAtom,hb];cases Tm.ze ts<;>rfl
theorem zC8(k n i ts)(h:(k == 5)=true)(hb:(n == [] && decide (0<=i) && decide (i<=1048576))=false):zr (.mk k n i ts)=0:=by
  have hk:k=5:=by simpa using h
  subst hk;rw[zr,yi _ _ _ _ rfl rfl,zA2 _ _ _ _ rfl,hb,xB _ _ _ _ rfl rfl];simp
theorem zFz(k n i ts)(h:(k == 5)=true)(hb:(n == [] && decide (0<=i) && decide (i<=1048576))=true):zr (.mk k n i ts)=if Tm.ze ts then 1 else 0:=by
  have hk:k=5:=by simpa using h
  subst hk;rw[zr,yi _ _ _ _ rfl rfl,zA2 _ _ _ _ rfl,hb,xB _ _ _ _ rfl rfl];simp
theorem zDO(k n i ts)(h:(k == 6)=true)(hb:(n == [] && decide (0<=i) && decide (i<2048))=false):zr (.mk k n i ts)=0:=by
  have hk:k=6:=by simpa using h
  subst hk;rw[zr,yi _ _ _ _ rfl rfl,zBO _ _ _ _ rfl,hb,xB _ _ _ _ rfl rfl];simp
theorem zFq(k n i ts)(h:(k == 6)=true)(hb:(n == [] && decide (0<=i) && decide (i<2048))=true):zr (.mk k n i ts)=if Tm.ze ts then 1 else 0:=by
  have hk:k=6:=by simpa using h
  subst hk;rw[zr,yi _ _ _ _ rfl rfl,zBO _ _ _ _ rfl,hb,xB _ _ _ _ rfl rfl];simp
theorem zF1(k n i ts)(h1:(k == 1)=false)(h2:(k == 2)=false)(h3:(k == 3)=false)(h4:(k == 4)=false)(h5:(k == 5)=false)(h6:(k == 6)=false):zr (.mk k n i ts)=0:=by
  rw[zr,yi _ _ _ _ h1 h2,YH _ _ _ _ h3 h4 h5 h6,xB _ _ _ _ h4 (by rw[h2];rfl)];simp
theorem zFa(t:Tm):t.wf=if zr t == 0 then 1 else if !t.small then 2 else 0:=by
  unfold Tm.wf zr;cases t.isObj<;>cases t.zX<;>cases t.zb<;>rfl
end
section
open Go.RowKit Go.LF
theorem zAk(t:Tm):t.wt<=1000000->∀(w:World)(cs:List Value),zK zC w t.zN cs->
    Calls Tryz.prog 32 #[.agg cs.toArray] w fun e w'=>e=.returned (.int .i64 (zr t))/\zD zC w w':=by
  induction t using Tm.ind with
  |h k n i ts ih=>
   intro hs w cs h;obtain⟨a,cap,rfl,hcap,hE⟩:=zi.1 h;simp only[Tm.xP]at hs;have hlen:ts.length<=1000000:=by have:=Tm.zM ts;have:=Tm.yk ts;omega
   have hn:n.length<=1000000:=by omega
   have H:YX ts:=fun x hx w cs h=>ih x hx (by have:=Tm.xA hx;omega) w cs h
   clear ih h hcap hs
   have key:∀ r:Int,zr (.mk k n i ts)=r->Calls Tryz.prog 32 #[.agg #[.int .i64 k,.string (B n),.int .i64 i,.slice a ts.length cap]] w (fun e w'=>e=.returned (.int .i64 r)/\zD zC w w')->
       Calls Tryz.prog 32 #[.agg #[.int .i64 k,.string (B n),.int .i64 i,.slice a ts.length cap]] w (fun e w'=>e=.returned (.int .i64 (zr (.mk k n i ts)))/\zD zC w w'):=by
     intro r hr hc;rw[hr];exact hc
   cases h1:(k == 1)
   case true=>exact key _ (zFu k n i ts h1) (zDL k i n ts h1 _ rfl w a cap)
   cases h2:(k == 2)
   case true=>
     cases hb:Tm.bound n i ts 2
     ·exact key _ (zCo k n i ts h2 hb) (zER k i n hn ts h2 hb w a cap)
     ·have hb1:ts.length=2:=by unfold Tm.bound at hb;simp at hb;exact hb.1.2
      obtain⟨x,y,rfl⟩:∃ x y,ts=[x,y]:=by match ts,hb1 with | [x,y],_=>exact⟨x,y,rfl⟩
      exact key _ (zGN k n i x y h2 hb) (zCT k i n hn x y H h2 hb w a cap hE _ rfl)
   cases h3:(k == 3)
   case true=>
     cases hb:Tm.bound n i ts 1
     ·exact key _ (zCw k n i ts h3 hb) (zEA k i n hn ts h3 hb w a cap)
     ·have hb1:ts.length=1:=by unfold Tm.bound at hb;simp at hb;exact hb.1.2
      obtain⟨x,rfl⟩:∃ x,ts=[x]:=List.length_eq_one_iff.1 hb1;exact key _ (zGG k n i x h3 hb) (zCq k i n hn x H h3 hb w a cap hE)
   cases h4:(k == 4)
   case true=>
     cases hb:(isName n && i == 0)
     ·exact key _ (zC7 k n i ts h4 hb) (zEI k i n hn ts h4 hb w a cap)
     ·obtain⟨hf,hi⟩:isName n=true/\i=0:=by simpa using hb
      exact key _ (zFt k n i ts h4 hb) (zDB k i n hn ts hlen H h4 hf hi w a cap hE _ rfl)
   cases h5:(k == 5)
   case true=>
     cases hb:(n == [] && decide (0<=i) && decide (i<=1048576))
     ·exact key _ (zC8 k n i ts h5 hb) (zEK k i n ts h5 hb w a cap)
     ·obtain⟨⟨hf,hi⟩,hj⟩:(n=[]/\0<=i)/\i<=1048576:=by simpa using hb
      exact key _ (zFz k n i ts h5 hb) (zDD k i n hn ts hlen H h5 hf hi hj w a cap hE _ rfl)
   cases h6:(k == 6)
   case true=>
     cases hb:(n == [] && decide (0<=i) && decide (i<2048))
     ·exact key _ (zDO k n i ts h6 hb) (zEf k i n ts h6 hb w a cap)
     ·obtain⟨⟨hf,hi⟩,hj⟩:(n=[]/\0<=i)/\i<2048:=by simpa using hb
      exact key _ (zFq k n i ts h6 hb) (zCW k i n hn ts hlen H h6 hf hi hj w a cap hE _ rfl)
   exact key _ (zF1 k n i ts h1 h2 h3 h4 h5 h6) (zDG k i n ts h1 h2 h3 h4 h5 h6 w a cap)
theorem qN(t:Tm)(hs:t.wt<=1000000)(w:World)(cs:List Value)(h:zK zC w t.zN cs):
    Calls Tryz.prog 89 #[.agg cs.toArray] w fun e w'=>e=.returned (.bool (t.isObj && t.small))/\zD zC w w':=by
  have HK:=fun w cs h=>zAk t hs w cs h
  have HS:=fun w cs h=>Zn t (by have:=Tm.zk t;omega) w cs h
  have hbit:=YE t;obtain⟨k,n,i,ts,a,cap,ht,rfl,hcap,hE⟩:=zZ h;generalize zr t=st at *
  generalize t.isObj=bk at *
  generalize t.small=sm at *
  have HT:=zG ht;clear ht hcap;generalize ts.length=len at *
  cases bk
  all_goals
    simp only[Bool.false_eq_true,if_false,if_true]at hbit;go_enter Tryz.func89,Tryz.ntmps89
    go_wp2_with fail
    refine(HK _ _ (h.new _)).mono ?_;rintro e w1 ⟨rfl,hU⟩;obtain⟨b0,b1,b2,b3⟩:=zu hU;have hw1:zD zC w w1:=hU.behind;go_wp2_with fail
  ·go_ret
   exact⟨rfl,hw1⟩
  ·refine(HS _ _ (h.on hw1)).mono ?_;rintro e w2 ⟨rfl,hU2⟩;go_wp2
   go_ret
   exact⟨rfl,hw1.and hU2⟩
theorem xQ(t:Tm)(hs:t.wt<=1000000)(w:World)(cs:List Value)(h:zK zC w t.zN cs):
    Calls Tryz.prog 14 #[.agg cs.toArray] w fun e w'=>e=.returned (.int .i64 t.wf)/\zD zC w w':=by
  have HK:=fun w cs h=>zAk t hs w cs h
  have HS:=fun w cs h=>Zn t (by have:=Tm.zk t;omega) w cs h
  have hp:=zFa t;obtain⟨k,n,i,ts,a,cap,ht,rfl,hcap,hE⟩:=zZ h;generalize zr t=st at *
  generalize t.small=sm at *
  generalize t.wf=r at *
  have HT:=zG ht;have HP:=zG hp;clear ht hcap hp;generalize ts.length=len at *
  cases hz:(st == 0)
  all_goals
    go_enter Tryz.func14,Tryz.ntmps14
    go_wp2_with fail
    refine(HK _ _ (h.new _)).mono ?_;rintro e w1 ⟨rfl,hU⟩;obtain⟨b0,b1,b2,b3⟩:=zu hU;have hw1:zD zC w w1:=hU.behind;go_wp2_with fail
  ·refine(HS _ _ (h.on hw1)).mono ?_;rintro e w2 ⟨rfl,hU2⟩;cases sm
   all_goals
     go_wp2
     go_ret
     exact⟨zY (by rw[HP.out,hz];rfl),hw1.and hU2⟩
  ·go_ret
   exact⟨zY (by rw[HP.out,hz];rfl),hw1⟩
end
end Go.Proofs.YthgmimncdjhgnaaGreat
namespace Go.LF.Tm
def ok(t:Tm):Prop:=∀ b,∀ x∈nodes b t,x.ok
theorem zHK{k i:Int}{n:List UInt8}{l:List Tm}(h:(mk k n i l).ok)(j:Nat)(hj:j<l.length):(l[j]).ok:=by
  intro b x hx;refine h (b - under k j) x ?_;rw[zo];refine List.mem_cons.2 (.inr ?_);refine(xJ l (b - under k j) k (j+1)).subset ?_;rw[xj _ _ _ _ hj];refine List.mem_append.2 (.inr ?_);rw[show b - under k j+under k j=b by omega];exact hx
theorem zDt{k i:Int}{n:List UInt8}{l:List Tm}(h:(mk k n i l).ok):(k == 5)=true->0<=i/\i<=1048576:=(h 0 ⟨0,k,n,i⟩ (by rw[zo];simp)).1
end Go.LF.Tm
namespace Go.Proofs.YthgmimncdjhgnaaGreat
section
open Go.RowKit Go.LF
theorem zAG(l:List Int)(n:Int)(j:Nat)(h:j<l.length):(l.take (j+1)).contains n=((l.take j).contains n || l[j] == n):=by
  rw[List.take_succ_eq_append_getElem h,List.contains_eq_any_beq,List.contains_eq_any_beq,List.any_append];simp[Bool.beq_comm]
theorem zBw(l:List Int)(n:Int)(j:Nat)(h:j<l.length)(e:(l[j] == n)=true):l.contains n=true:=by
  have:l[j]=n:=by simpa using e
  rw[<-this];simp
theorem zCb(l:List Int)(hl:l.length<=10000000)(n:Int){O:Nat->Prop}(w:World)(v:Value)(h:zK O w (zEr l) [v]):
    Calls Tryz.prog 85 #[v,.int .i64 n] w fun e w'=>e=.returned (.bool (l.contains n))/\zD zC w w':=by
  obtain⟨a,cap,rfl,hcap,hE⟩:=yO h;obtain⟨r,hr⟩:∃ r,r=l.contains n:=⟨_,rfl⟩;rw[<-hr];have HR:=zG hr;clear hr h;go_enter Tryz.func85,Tryz.ntmps85
  go_wp2_with fail
  go_loopw [5] (fun v5 wr=>∃ j:Nat,j<=l.length/\v5=.int .i64 j/\(l.take j).contains n=false/\w=wr)
    (fun v5 _=>l.length - (intOf v5).toNat)
  case atStart=>exact⟨0,Nat.zero_le _,rfl,rfl,rfl⟩
  case round=>
    obtain⟨j,hj,rfl,hA,rfl⟩:=hrel;have HA:=zG hA;clear hA;by_cases hlt:j<l.length
    ·obtain⟨b,o,rfl,hb,_,hc⟩:=xR hE j hlt;have hT:=zAG l n j hlt;have hM:=zBw l n j hlt;rw[HA.out,Bool.false_or]at hT;have HT:=zG hT;have HM:=zG hM;clear hT hM;generalize l[j]=x at *
     by_cases hx:(x == n)=true
     ·have hx':=zG hx;go_wp2
      go_ret
      exact⟨zS (by rw[HR.out,HM.out hx'.out]),zD.refl _ _⟩
     ·have hx':=zG hx;replace hx:(x == n)=false:=by simpa using hx
      go_wp2
      go_roundw
      case rel=>
        have fin:∃ j1:Nat,j1<=l.length/\Value.int .i64 ((j:Int)+1)=.int .i64 j1/\(l.take j1).contains n=false/\True:=
          ⟨j+1,by omega,by go_num,by rw[HT.out];simpa using hx'.out,trivial⟩
        first |exact fin |((repeat apply Exists.intro);exact⟨fin,rfl⟩)
      case measure=>simp[intOf];omega
    ·have hj':l.take j=l:=List.take_of_length_le (by omega);have HA':=HA.out;rw[hj']at HA';have HO:=zG HA';clear HA HA' hj';go_wp2
     go_ret
     exact⟨zS (by rw[HR.out,HO.out]),zD.refl _ _⟩
theorem Yk(l:List Tm):∀(acc:List Int)(j:Nat)(h:j<l.length),Tm.yD acc (l.take (j+1))=Tm.yM (Tm.yD acc (l.take j)) l[j]:=by
  induction l with
  |nil=>intro acc j h;simp at h
  |cons t ts ih=>
   intro acc j h;cases j with
   |zero=>simp[Tm.yD]
   |succ j=>simp only[List.take_succ_cons,Tm.yD,List.getElem_cons_succ];exact ih _ j (by simpa using h)
theorem Zj(t:Tm)(acc:List Int):(Tm.yM acc t).length<=acc.length+t.size:=by
  rw[<-Tm.Y3 t 0 acc,<-Tm.xS t 0]
  have key:∀(ys:List Tm.Nd0)(a:List Int),(ys.foldl Tm.yG a).length<=a.length+ys.length:=by
    intro ys;induction ys with
    |nil=>intro a;simp
    |cons y ys ih=>
     intro a;rw[List.foldl_cons];have:=ih (Tm.yG a y);have h2:(Tm.yG a y).length<=a.length+1:=by unfold Tm.yG;split<;>simp
     simp only[List.length_cons];omega
  exact key _ _
theorem zAK(l:List Tm):∀(acc:List Int),(Tm.yD acc l).length<=acc.length+Tm.zO l:=by
  induction l with
  |nil=>intro acc;simp[Tm.yD]
  |cons t ts ih=>intro acc;simp only[Tm.yD,Tm.zO];have:=ih (Tm.yM acc t);have:=Zj t acc;omega
theorem zA4(t:Tm):t.size<=1000000->∀(acc:List Int)(base:Nat)(w:World)(v:Value)(cs:List Value),acc.length+t.size<=2000000->base<=w.heap.size->xD base w v acc->zK (fun b=>base<=b) w t.zN cs->
    Calls Tryz.prog 55 #[v,.agg cs.toArray] w fun e w'=>∃ v',e=.returned v'/\xD base w' v' (Tm.yM acc t)/\zy 3 base w w':=by
  induction t using Tm.ind with
  |h k n i ts ih=>
   intro hs acc base w v cs hac hbw hv h;obtain⟨a,cap,rfl,hcap,hE⟩:=zi.1 h;have hlen:=Tm.zM ts;simp only[Tm.zT]at hs hac;have hr:Tm.yM acc (Tm.mk k n i ts)=Tm.yD (if k == 6 && !acc.contains i then acc++[i]else acc) ts:=by rw[Tm.yM]
   generalize Tm.yM acc (Tm.mk k n i ts)=r at *
   have HR:=zG hr;clear hr h;have HI:=fun w v h=>zCb acc (by omega) i (O:=fun b=>b<base) w v h
   obtain⟨i0,hi,hi0,hi1,hi2⟩:=info_parts XL;have hvr:=hv.rep;obtain⟨va,vcap,hva,_,_⟩:=yO hvr;subst hva;obtain⟨ct,hct⟩:∃ ct,ct=acc.contains i:=⟨_,rfl⟩;rw[<-hct]at HR HI;obtain⟨acc0,hacc0⟩:∃ acc0,acc0=(if k == 6 && !ct then acc++[i]else acc):=⟨_,rfl⟩;rw[<-hacc0]at HR;have hB0:=zL.new w (.int .i64 k) (.string (B n)) (.int .i64 i) (.slice a ts.length cap) 25;have hal0:acc0.length+Tm.zO ts<=2000000:=by rw[hacc0];split<;>(try simp only[List.length_append,List.length_cons,List.length_nil])<;>omega
   have hways:((k == 6)=false/\acc0=acc)\/((k == 6)=true/\ct=true/\acc0=acc)\/((k == 6)=true/\ct=false/\acc0=acc++[i]):=by
     cases h6:(k == 6)
     ·exact .inl ⟨rfl,by rw[hacc0,h6];rfl⟩
     ·cases ct
      ·exact .inr (.inr ⟨rfl,rfl,by rw[hacc0,h6];rfl⟩)
      ·exact .inr (.inl ⟨rfl,rfl,by rw[hacc0,h6];rfl⟩)
   clear hacc0 hct;have hvl:acc.length<=2000000:=by omega
   rcases hways with⟨h6,h0⟩|⟨h6,hc,h0⟩|⟨h6,hc,h0⟩
   case' inl=>
     subst h0;go_enter Tryz.func55,Tryz.ntmps55
     go_wp2_with fail
     obtain⟨w0,hw0⟩:∃ w0,w0=w.alloc (.cells #[.int .i64 k,.string (B n),.int .i64 i,.slice a ts.length cap] 25):=⟨_,rfl⟩;have hv0:xD base w0 (.slice va acc0.length vcap) acc0:=by rw[hw0];exact World.ownsRow.alloc hv _
     have hU0:zy 3 base w w0:=by rw[hw0];exact(zy.refl _ _ _).alloc _
     rw[<-hw0]at hB0 ⊢;clear hw0 hv
   case' inr.inl=>
     subst h0 hc;go_enter Tryz.func55,Tryz.ntmps55
     go_wp2_with fail
     refine(HI _ _ (xD.rep (World.ownsRow.alloc hv _))).mono ?_;rintro e w0 ⟨rfl,hU1⟩;have hv0:xD base w0 (.slice va acc0.length vcap) acc0:=(World.ownsRow.alloc hv _).kept (Y7 hU1) (zCM _);have hU0:zy 3 base w w0:=((zy.refl _ _ _).alloc _).on hU1;replace hB0:=hB0.kept hU1;have hcl:=hB0.cells;clear hU1 hv;go_wp2_with fail
     clear hcl
   case' inr.inr=>
     subst hc;go_enter Tryz.func55,Tryz.ntmps55
     go_wp2_with fail
     refine(HI _ _ (xD.rep (World.ownsRow.alloc hv _))).mono ?_;rintro e wa ⟨rfl,hU1⟩;have hva:xD base wa (.slice va acc.length vcap) acc:=(World.ownsRow.alloc hv _).kept (Y7 hU1) (zCM _);have hUa:zy 3 base w wa:=((zy.refl _ _ _).alloc _).on hU1;replace hB0:=hB0.kept hU1;have hcl:=hB0.cells;have hbwa:base<=wa.heap.size:=Nat.le_trans hbw hUa.size;clear hU1 hv;go_wp2_with (at_builtin;refine wpList_append_own _ rfl _ _ 38 rfl base 3 i0 (.int .i64 0) 1 8 (by kernel_rfl) hi hi0 hi1 hi2 rfl (by decide) _ _ _ rfl (World.ownsRow.alloc hva _) ⟨wa.heap.size,0,none⟩ 1 1 [.int .i64 i] rfl rfl (cell_one_new _ _ _) (by simp[Value.oneCell']) (by simp only[maxLen];omega) (by omega) (by simp;omega) ?_;intro v' w0 hown' hgrow _;obtain⟨g',cap',rfl⟩:=ownsRow_succ hown')
     have hv0:xD base w0 (.slice (some ⟨g',0,none⟩) (acc.length+1) cap') acc0:=by rw[h0];unfold xD;simpa using hown'
     have hU0:zy 3 base w w0:=(hUa.alloc _).trans (zy.grown (World.ownsRow.alloc hva _) hgrow);replace hB0:zL w0 w.heap.size _ _ _ _ _:=((hB0.kept ((zD.refl zC wa).alloc _)).up (zy.grown (World.ownsRow.alloc hva _) hgrow) (by decide));clear hva hUa hcl hown' hgrow
   all_goals
     go_loopw [0,5] (fun v0 v5 wr=>∃ j:Nat,j<=ts.length/\v5=.int .i64 j/\xD base wr v0 (Tm.yD acc0 (ts.take j))/\zL wr w.heap.size (.int .i64 k) (.string (B n)) (.int .i64 i) (.slice a ts.length cap) 25/\zy 3 base w wr)
       (fun _ v5 _=>ts.length - (intOf v5).toNat)
     case atStart=>exact⟨0,Nat.zero_le _,rfl,hv0,hB0,hU0⟩
     case round=>
       obtain⟨j,hj,rfl,hvj,hBj,hUj⟩:=hrel;clear hv0 hB0 hU0;obtain⟨b0,b1,b2,b3⟩:=hBj.cells;by_cases hlt:j<ts.length
       ·obtain⟨b,o,k1,n1,x1,s1,cp,rfl,hb,_,p0,p1,p2,p3,hRp⟩:=zg (hE.cel hUj.cel) j hlt;have hs4:=Tm.zQ (List.getElem_mem hlt);have hl1:=zAK (ts.take j) acc0;have hl2:=Tm.zd ts j hlt;have hl3:=Tm.zj ts (j+1);have hT:=Yk ts acc0 j hlt;have HT:=zG hT;have key:=ih _ (List.getElem_mem hlt) (by omega) _ base wr _ _ (by omega) (Nat.le_trans hbw hUj.size) hvj hRp;clear hT hl1 hl2 hl3;go_wp2_with fail
        refine key.mono ?_;rintro e w1 ⟨v',rfl,hv',hU1⟩;go_wp2
        go_roundw
        case rel=>
          have fin:∃ j1:Nat,j1<=ts.length/\Value.int .i64 ((j:Int)+1)=.int .i64 j1/\xD base w1 v' (Tm.yD acc0 (ts.take j1))/\zL w1 w.heap.size (.int .i64 k) (.string (B n)) (.int .i64 i) (.slice (some ⟨b,o,none⟩) ts.length cap) 25/\zy 3 base w w1:=
            ⟨j+1,by omega,by go_num,by rw[HT.out];exact hv',hBj.up hU1 (by decide),hUj.trans hU1⟩
          first |exact fin |((repeat apply Exists.intro);exact⟨fin,rfl⟩)
        case measure=>simp[intOf];omega
       ·have hj':ts.take j=ts:=List.take_of_length_le (by omega);rw[hj',<-HR.out]at hvj;clear hj';go_wp2
        go_ret
        exact⟨_,rfl,hvj,hUj⟩
theorem zBQ(t:Tm)(hwt:t.wt<=1000000)(w:World)(cs:List Value)(h:zK zC w t.zN cs):
    Calls Tryz.prog 34 #[.agg cs.toArray] w fun e w'=>∃ v,e=.returned v/\xD w.heap.size w' v (Tm.zP t)/\zD zC w w':=by
  have HW:=fun w cs h=>xQ t hwt w cs h
  have HS:=fun w v cs(h:zK (fun b=>w.heap.size<=b) w t.zN cs)hv=>zA4 t (Nat.le_trans (Tm.zk t) hwt) [] w.heap.size w v cs (by have:=Tm.zk t;simp;omega) (Nat.le_refl _) hv h
  have hm:Tm.zP t=if t.wf == 0 then Tm.yM [] t else []:=rfl
  obtain⟨k,n,i,ts,a,cap,ht,rfl,hcap,hE⟩:=zZ h;generalize Tm.zP t=r at *
  generalize Tm.yM [] t=r' at *
  generalize t.wf=wf at *
  have HT:=zG ht;clear ht hcap;generalize ts.length=len at *
  by_cases hz:(wf == 0)=true
  ·have z1:(wf !=0)=false:=by simp[bne,hz]
   rw[if_pos hz]at hm;subst hm;go_enter Tryz.func34,Tryz.ntmps34
   go_wp2_with fail
   refine(HW _ _ (h.new _)).mono ?_;rintro e w1 ⟨rfl,hU⟩;obtain⟨b0,b1,b2,b3⟩:=zu hU;have hw1:zD zC w w1:=hU.YN;go_wp2_with fail
   refine(HS _ _ _ (zK.fresh (h.on hw1)) (World.ownsRow_nil _ _ _ _)).mono ?_;rintro e w2 ⟨v,rfl,hv,hU2⟩;go_wp2
   go_ret
   exact⟨v,rfl,hv.mono hw1.size,hw1.and (hU2.upto (Nat.le_refl _))⟩
  ·have z1:(wf !=0)=true:=by simp at hz;simp[bne,hz]
   rw[if_neg hz]at hm;subst hm;go_enter Tryz.func34,Tryz.ntmps34
   go_wp2_with fail
   refine(HW _ _ (h.new _)).mono ?_;rintro e w1 ⟨rfl,hU⟩;have hw1:zD zC w w1:=hU.YN;go_wp2
   go_ret
   exact⟨_,rfl,World.ownsRow_nil _ _ _ _,hw1⟩
end
section
open Go.RowKit Go.LF
theorem zC4(x:Int):0<=IntKind.u64.wrap x:=by
  unfold IntKind.wrap;simp[IntKind.signed,IntKind.bits];omega
end
section
open Go.RowKit Go.LF
def QC(W:World)(T:Nat):Prop:=∃(l:List Int)(a:Option Addr)(cap i:Nat),W.cell? ⟨T,0,none⟩=some (.slice a l.length cap)/\W.cell? ⟨T,1,none⟩=some (.int .i64 i)/\W.frozen? ⟨T,1,none⟩=false/\
  i<=l.length/\l.length<=4611686018427387904/\zH (fun b=>T<=b) W 1 (l.map (yv.int .i64)) a 0
abbrev isT(T:Nat):Nat->Prop:=fun b=>b=T
theorem QC.on{W W':World}{T:Nat}(h:QC W T)(hU:zD zC W W'):QC W' T:=by
  obtain⟨l,a,cap,i,h1,h2,h3,h4,h5,h6⟩:=h;refine⟨l,a,cap,i,hU.cell h1 (fun x=>x),hU.cell h2 (fun x=>x),?_,h4,h5,h6.on hU⟩;rw[hU.zCa.2 _ _ (World.block_lt_of_cell? W _ h2)];exact h3
theorem QC.lt{W:World}{T:Nat}(h:QC W T):T<W.heap.size:=by
  obtain⟨l,a,cap,i,h1,_⟩:=h;exact World.block_lt_of_cell? W _ h1
end
end Go.Proofs.YthgmimncdjhgnaaGreat
namespace Go.LF.Tm
section
structure Fits(t:Tm)(deep vars zP:Nat):Prop where
  obj:t.isObj=true
  scope:t.scope<=vars
  zP:∀ b,∀ x∈t.nodes b,(x.k == 6)=true->x.i<zP
  depth:t.depth<=deep+1
  size:t.size+1<=2 ^ (deep+1)
  wt:t.wt+5<=5 * 2 ^ (deep+1)
  nml:∀ b,∀ x∈t.nodes b,x.n.length<=4
theorem XO{a b:Nat}(h:a<=b):2 ^ a<=2 ^ b:=Nat.pow_le_pow_right (by omega) h
theorem Fits.mono{t:Tm}{d d' v m:Nat}(h:Fits t d v m)(hd:d<=d'):Fits t d' v m:=
  ⟨h.obj,h.scope,h.zP,by have:=h.depth;omega,by have:=h.size;have:=XO (show d+1<=d'+1 by omega);omega,by have:=h.wt;have:=XO (show d+1<=d'+1 by omega);omega,h.nml⟩
end
section
theorem Fits.wf0{t:Tm}{d v m:Nat}(h:Fits t d v m)(hd:d<=10):t.wf=0:=by
  have h1:=h.depth;have h2:=h.size;have h3:=XO (show d+1<=11 by omega);have h4:(2:Nat) ^ 11=2048:=rfl;unfold wf small;rw[h.obj];have e1:t.size<=4096:=by omega
  have e2:t.depth<=128:=by omega
  simp[e1,e2]
theorem Fits.vars{t:Tm}{d v v' m:Nat}(h:Fits t d v m)(hv:v<=v'):Fits t d v' m:=⟨h.obj,by have:=h.scope;omega,h.zP,h.depth,h.size,h.wt,h.nml⟩
theorem Fits.small{t:Tm}{d v m:Nat}(h:Fits t d v m)(hd:d<=10):t.wt<=1000000/\t.size<=1000000:=by
  have h2:=h.wt;have h3:=XO (show d+1<=11 by omega);have h4:(2:Nat) ^ 11=2048:=rfl;have h5:=zk t;omega
end
end Go.LF.Tm
namespace Go.Proofs.YthgmimncdjhgnaaGreat
section
open Go.RowKit Go.LF
def Qg:List (List UInt8):=[[120],[121],[78],[102],[95],[]]
def nameAt(j:Nat):List UInt8:=Qg.getD j []
def x7(T:Nat)(W:World):Prop:=T≠0/\∃ v,W.cell? ⟨0,0,none⟩=some v/\zK (fun b=>T<=b) W (zDk Qg) [v]
def YZ(nb no:Nat)(w':World):Prop:=∀ j,j<6->w'.cell? ⟨nb,no+j,none⟩=some (.string (B (nameAt j)))
theorem x7.open{T:Nat}{W:World}(h:x7 T W):∃ nb no ncap,6<=ncap/\T≠0/\nb<T/\W.cell? ⟨0,0,none⟩=some (.slice (some ⟨nb,no,none⟩) 6 ncap)/\YZ nb no W:=by
  obtain⟨hT0,nv,hnc,hnr⟩:=h;obtain⟨na,ncap,rfl,hcap,hnE⟩:=zDz hnr;obtain⟨nb,no,rfl,_,hnb,_⟩:=zBc hnE 0 (by decide);refine⟨nb,no,ncap,hcap,hT0,by omega,hnc,fun j hj=>?_⟩;obtain⟨b,o,e,_,_,hc⟩:=zBc hnE j hj;cases e
  rw[hc];unfold nameAt;rw[List.getD_eq_getElem?_getD,List.getElem?_eq_getElem hj];rfl
theorem YZ.zF{nb no T:Nat}{W W':World}(h:YZ nb no W)(hU:zD (isT T) W W')(hT:nb<T):YZ nb no W':=fun j hj=>hU.cell (h j hj) (fun e=>by simp only[isT]at e;omega)
theorem x7.zF{T:Nat}{W W':World}(h:x7 T W)(hU:zD (isT T) W W'):x7 T W':=by
  obtain⟨h0,v,h1,h2⟩:=h;exact⟨h0,v,hU.cell h1 (fun e=>h0 e.symm),zK.zF hU (fun _ e=>Nat.le_of_eq e.symm) _ _ h2⟩
theorem x7.on{T:Nat}{W W':World}(h:x7 T W)(hU:zD zC W W'):x7 T W':=h.zF (hU.mono (fun _ _ x=>x.elim))
end
section
open Go.ChangeShapes Go.WideShapes Go.ChangeAt Go.RowKit Go.LF
theorem zD.toBelow{w w':World}(h:zD zC w w'):Below w.heap.size w w':=zD.below (h.mono (fun _ _ x=>x.elim)) (Nat.le_refl _)
theorem own:ownKnob Tryz.prog.godebug=none:=by kernel_rfl
end
section
open Go.ChangeShapes Go.WideShapes Go.ChangeAt Go.RowKit Go.LF
def zAg(W:World):Prop:=∃ v,W.cell? ⟨0,0,none⟩=some v/\zK zC W (zDk Qg) [v]
theorem zAg.ok{W W':World}{T:Nat}(h:zAg W)(hU:zD zC W W')(hT:W.heap.size<=T):x7 T W':=by
  obtain⟨v,h1,h2⟩:=h;have h0:0<W.heap.size:=by simpa using World.block_lt_of_cell? W _ h1
  exact⟨by omega,v,hU.cell h1 (fun x=>x),(zK.weaken (fun b _ e=>by omega) _ _ (zK.fresh h2)).on hU⟩
end
end Go.Proofs.YthgmimncdjhgnaaGreat
