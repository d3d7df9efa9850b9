/- Which terms are objects, types and kinds: the program's functions. -/
import Derived.Test.YthgmimncdjhgnaaGreatDoorKCA
import Derived.Test.YthgmimncdjhgnaaGreatDoorKCB
set_option maxHeartbeats 2000000
namespace Go.Proofs.YthgmimncdjhgnaaGreatDoor
section
open Go.RowKit Go.LF
theorem qf(n:List UInt8)(i:Int)(l:List Tm)(k:Nat):Tm.bound n i l k=(i == 0 && (((l.length:Int) == (k:Int)) && (n == []|| (n == [95]|| isName n)))):=by
  unfold Tm.bound
  have:((l.length:Int) == (k:Int))=(l.length == k):=by rw[Bool.eq_iff_iff];simp;omega
  rw[this,Bool.and_assoc,Bool.or_assoc]
theorem Zf(k i m:Int)(n:List UInt8)(a:Option Addr)(len cap:Nat)(w:World)(hn:n.length<=1000000)(b:Bool)
    (hb:(i == 0 && (((len:Int) == m) && (n == []|| (n == [95]|| isName n))))=b):
    Calls Tryz.prog 165 #[.agg #[.int .i64 k,.string (B n),.int .i64 i,.slice a len cap],.int .i64 m] w fun e w'=>
      e=.returned (.bool b)/\zD zC w w':=by
  have HB:=zH hb
  clear hb
  go_enter Tryz.func165,Tryz.ntmps165
  go_wp2_with (go_at_call 159;refine(Yd _ _ hn).mono ?_;rintro e w' ⟨rfl,rfl⟩)
  all_goals go_ret
  all_goals refine⟨zU ?_,(zD.refl _ _).alloc _⟩
  all_goals(rw[<-HB.out,Bool.eq_iff_iff];simp[*])
section
def zDO(ts:List Tm):Prop:=∀ x∈ts,∀(w:World)(cs:List Value),zM zC w x.zN cs->
    Calls Tryz.prog 114 #[.agg cs.toArray] w fun e w'=>e=.returned (.bool x.isObj)/\zD zC w w'
theorem zHP{ts:List Tm}(H:zDO ts)(x:Tm)(hx:x∈ts)(w:World)(cs:List Value)(h:zM zC w x.zN cs):
    Calls Tryz.prog 190 #[.agg cs.toArray] w fun e w'=>e=.returned (.bool (!x.isObj))/\zD zC w w':=by
  obtain⟨k,n,i,l,a,cap,rfl,rfl,hcap,hE⟩:=zX h
  have H1:=H _ hx _ _ (h.new (.cells #[.int .i64 k,.string (B n),.int .i64 i,.slice a l.length cap] 29))
  generalize (Tm.mk k n i l).isObj=b at *
  go_enter Tryz.func190,Tryz.ntmps190
  go_wp2_with fail
  refine H1.mono ?_
  rintro e w1 ⟨rfl,hU⟩
  go_wp2
  go_ret
  exact⟨rfl,hU.behind⟩
def Found(b:Bool)(e:Ending):Prop:=∃ m:Int,e=.returned (.int .i64 m)/\decide (0<=m)=b
theorem zBT{ts:List Tm}(g:FuncId)(p:Tm->Bool)(hlen:ts.length<=1000000)
    (H:∀ x∈ts,∀(w:World)(cs:List Value),zM zC w x.zN cs->Calls Tryz.prog g #[.agg cs.toArray] w fun e w'=>e=.returned (.bool (p x))/\zD zC w w')
    (hg:∀ args w,(callFunc g args).run Tryz.prog w=.ok (.enter g args) w)
    (w:World) (a:Option Addr) (cap:Nat) (hE:zG zC w 4 (ts.map Tm.zN) a 0):
    Calls Tryz.prog 132 #[.slice a ts.length cap,.func (.func g) #[] #[]] w fun e w'=>
      Found (ts.any p) e/\zD zC w w':=by
  go_enter Tryz.func132,Tryz.ntmps132
  go_wp2_with fail
  go_loopw [8] (fun v wr=>∃ j:Nat,j<=ts.length/\v=.int .i64 j/\(ts.take j).any p=false/\zD zC w wr)
    (fun v _=>ts.length - (intOf v).toNat)
  case atStart=>exact⟨0,Nat.zero_le _,rfl,rfl,zD.refl _ _⟩
  case round=>
    obtain⟨j,hj,rfl,hA,hU⟩:=hrel
    have HA:=zH hA
    clear hA
    by_cases hlt:j<ts.length
    ·obtain⟨b,o,k1,n1,x1,s1,c1,rfl,hb,_,hc0,hc1,hc2,hc3,hR⟩:=zd (hE.on hU) j hlt
     have H1:=H _ (List.getElem_mem hlt) _ _ hR
     have hT:(ts.take (j+1)).any p=((ts.take j).any p || p ts[j]):=by
       rw[List.take_succ_eq_append_getElem hlt];simp only[List.any_append,List.any_cons,List.any_nil,Bool.or_false]
     have hM:p ts[j]=true->ts.any p=true:=fun h=>List.any_eq_true.2 ⟨_,List.getElem_mem hlt,h⟩
     rw[HA.out]at hT
     have HT:=zH hT
     have HM:=zH hM
     clear hT hM
     generalize p ts[j]=b at *
     cases b
     all_goals
       go_wp2_with fail
       refine H1.mono ?_
       rintro e w1 ⟨rfl,hU1⟩
       go_wp2
     ·go_roundw
      case rel=>exact⟨j+1,by omega,by go_num,by rw[HT.out];rfl,hU.trans hU1 (fun _ _ x=>x)⟩
      case measure=>simp[intOf];omega
     ·go_ret
      exact⟨⟨j,rfl,by rw[HM.out (by trivial)];simp⟩,hU.trans hU1 (fun _ _ x=>x)⟩
    ·have hj':ts.take j=ts:=List.take_of_length_le (by omega)
     have HA':=HA.out
     rw[hj']at HA'
     clear HA hj'
     have HA:=zH HA'
     clear HA'
     go_wp2
     go_ret
     exact⟨⟨-1,rfl,by rw[HA.out];rfl⟩,hU⟩
theorem YE{ts:List Tm}(g:FuncId)(p:Tm->Bool)(hlen:ts.length<=1000000)
    (H:∀ x∈ts,∀(w:World)(cs:List Value),zM zC w x.zN cs->Calls Tryz.prog g #[.agg cs.toArray] w fun e w'=>e=.returned (.bool (p x))/\zD zC w w')
    (hg:∀ args w,(callFunc g args).run Tryz.prog w=.ok (.enter g args) w)
    (w:World) (a:Option Addr) (cap:Nat) (hE:zG zC w 4 (ts.map Tm.zN) a 0):
    Calls Tryz.prog 68 #[.slice a ts.length cap,.func (.func g) #[] #[]] w fun e w'=>
      e=.returned (.bool (ts.any p))/\zD zC w w':=by
  have H1:=zBT g p hlen H hg w a cap hE
  clear H
  go_enter Tryz.func68,Tryz.ntmps68
  go_wp2_with fail
  refine H1.mono ?_
  rintro e w1 ⟨⟨m,rfl,hm⟩,hU⟩
  have HM:=zH hm
  clear hm H1
  go_wp2
  go_ret
  exact⟨zU HM.out,hU⟩
theorem zCM{ts:List Tm}(H:zDO ts)(hlen:ts.length<=1000000)(k i:Int)(n:List UInt8)(a:Option Addr)(cap:Nat)(w:World)(hE:zG zC w 4 (ts.map Tm.zN) a 0)(b:Bool)(hb:Tm.zY ts=b):
    Calls Tryz.prog 167 #[.agg #[.int .i64 k,.string (B n),.int .i64 i,.slice a ts.length cap]] w fun e w'=>e=.returned (.bool b)/\zD zC w w':=by
  have H1:=YE 190 (fun x=>!x.isObj) hlen (fun x hx w cs h=>zHP H x hx w cs h) (enters_of Tryz.func190 (by kernel_rfl) rfl)
    (w.alloc (.cells #[.int .i64 k,.string (B n),.int .i64 i,.slice a ts.length cap] 29)) a cap (hE.on ((zD.refl _ w).alloc _))
  have hb2:(!ts.any fun x=>!x.isObj)=b:=by rw[<-hb,Tm.yE,Bool.eq_iff_iff];simp
  have HB:=zH hb2
  clear hb hb2
  generalize (ts.any fun x=>!x.isObj)=c at *
  go_enter Tryz.func167,Tryz.ntmps167
  go_wp2_with fail
  refine H1.mono ?_
  rintro e w1 ⟨rfl,hU⟩
  go_wp2
  go_ret
  exact⟨zU HB.out,hU.behind⟩
theorem zDH{ts:List Tm}(H:zDO ts)(hlen:ts.length<=1000000)(k i:Int)(n:List UInt8)(hn:n.length<=1000000)(a:Option Addr)(cap:Nat)(w:World)(hE:zG zC w 4 (ts.map Tm.zN) a 0):
    Calls Tryz.prog 166 #[.agg #[.int .i64 k,.string (B n),.int .i64 i,.slice a ts.length cap]] w fun e w'=>e=.returned (.bool (Tm.mk k n i ts).isAtom)/\zD zC w w':=by
  have hp:(k == 4 && (isName n && i == 0 && Tm.zY ts))=(Tm.mk k n i ts).isAtom:=rfl
  generalize (Tm.mk k n i ts).isAtom=r at *
  generalize hA:Tm.zY ts=al at *
  have H1:=fun k i n W hW=>zCM H hlen k i n a cap W hW al hA
  have HP:=zH hp
  clear hp hA H
  go_enter Tryz.func166,Tryz.ntmps166
  go_wp2_with (first |(go_at_call 159;refine(Yd _ _ hn).mono ?_;rintro e w' ⟨rfl,rfl⟩)|(go_at_call 167;refine(H1 _ _ _ _ (hE.on ((zD.refl _ w).alloc _))).mono ?_;rintro e w1 ⟨rfl,hU⟩))
  all_goals go_ret
  all_goals first |refine⟨zU ?_,hU.behind⟩|refine⟨zU ?_,(zD.refl _ _).alloc _⟩
  all_goals(clear H1 hE;rw[<-HP.out,Bool.eq_iff_iff];simp[*])
end
end
section
open Go.RowKit Go.LF
theorem zCU(k i n ts)(h:(k == 3)=true):(Tm.mk k n i ts).isObj=(Tm.bound n i ts 1 && Tm.zY ts):=by
  have:k=3:=by simpa using h
  rw[Tm.isObj];simp[this]
theorem zCs(k i n ts)(h:(k == 4)=true):(Tm.mk k n i ts).isObj=(Tm.mk k n i ts).isAtom:=by
  have:k=4:=by simpa using h
  rw[Tm.isObj,Tm.isAtom];simp[this]
theorem zCJ(k i n ts)(h:(k == 5)=true):(Tm.mk k n i ts).isObj=(n == [] && decide (0<=i) && decide (i<=1048576) && Tm.zY ts):=by
  have:k=5:=by simpa using h
  rw[Tm.isObj];simp[this]
theorem zCK(k i n ts)(h:(k == 6)=true):(Tm.mk k n i ts).isObj=(n == [] && decide (0<=i) && decide (i<2048) && Tm.zY ts):=by
  have:k=6:=by simpa using h
  rw[Tm.isObj];simp[this]
theorem XE(k i n ts)(h3:(k == 3)=false)(h4:(k == 4)=false)(h5:(k == 5)=false)(h6:(k == 6)=false):(Tm.mk k n i ts).isObj=false:=by
  rw[Tm.isObj];simp at h3 h4 h5 h6;simp[h3,h4,h5,h6]
theorem zGd(k:Int):(k == 3)=true\/((k == 3)=false/\(k == 4)=true)\/((k == 3)=false/\(k == 4)=false/\(k == 5)=true)\/
    ((k == 3)=false/\(k == 4)=false/\(k == 5)=false/\(k == 6)=true)\/((k == 3)=false/\(k == 4)=false/\(k == 5)=false/\(k == 6)=false):=by
  cases(k == 3)<;>cases(k == 4)<;>cases(k == 5)<;>cases(k == 6)<;>simp
theorem X2(t:Tm):t.wt<=1000000->∀(w:World)(cs:List Value),zM zC w t.zN cs->
    Calls Tryz.prog 114 #[.agg cs.toArray] w fun e w'=>e=.returned (.bool t.isObj)/\zD zC w w':=by
  induction t using Tm.ind with
  |h k n i ts ih=>
   intro hs w cs h
   obtain⟨a,cap,rfl,hcap,hE⟩:=zk.1 h
   simp only[Tm.yi]at hs
   have hlen:ts.length<=1000000:=by have:=Tm.zO ts;have:=Tm.yu ts;omega
   have hn:n.length<=1000000:=by omega
   have H:zDO ts:=fun x hx w cs h=>ih x hx (by have:=Tm.xN hx;omega) w cs h
   clear ih h
   rcases zGd k with h3 |⟨h3,h4⟩|⟨h3,h4,h5⟩|⟨h3,h4,h5,h6⟩|⟨h3,h4,h5,h6⟩
   ·rw[zCU k i n ts h3]
    by_cases hb:Tm.bound n i ts 1=true
    ·have hb1:ts.length=1:=by unfold Tm.bound at hb;simp at hb;exact hb.1.2
     have hbb:=qf n i ts 1
     rw[hb]at hbb
     obtain⟨x,rfl⟩:∃ x,ts=[x]:=List.length_eq_one_iff.1 hb1
     have hlt:(0:Nat)<([x]:List Tm).length:=by simp
     obtain⟨b,o,k1,n1,x1,s1,c1,rfl,hbs,_,hc0,hc1,hc2,hc3,hR⟩:=zd hE 0 hlt
     simp only[Nat.zero_mul,Nat.add_zero,List.getElem_cons_zero]at hc0 hc1 hc2 hc3 hR
     simp only[List.length_cons,List.length_nil,Nat.zero_add]at *
     have HB:=fun k i W h=>Zf k i 1 n (some ⟨b,o,none⟩) 1 cap W hn true h
     have Hx:=H x (by simp)
     have hO:(true && Tm.zY [x])=x.isObj:=by simp[Tm.zY]
     rw[hb,hO]
     have HBB:=zH hbb.symm
     clear hbb hb hb1 hO H
     go_enter Tryz.func114,Tryz.ntmps114
     go_wp2_with fail
     refine(HB _ _ _ HBB.out).mono ?_
     rintro e w1 ⟨rfl,hU⟩
     obtain⟨b0,b1,b2,b3⟩:=(hU.cel (O:=zC) (fun _ x=>x)).qe (fun x=>x)
     have hw1:zD zC w w1:=hU.behind
     have d0:=hw1.cell hc0 (fun x=>x)
     have d1:=hw1.cell hc1 (fun x=>x)
     have d2:=hw1.cell hc2 (fun x=>x)
     have d3:=hw1.cell hc3 (fun x=>x)
     clear hc0 hc1 hc2 hc3
     go_wp2_with fail
     refine(Hx _ _ (hR.on hw1)).mono ?_
     rintro e w2 ⟨rfl,hU2⟩
     go_wp2
     go_ret
     exact⟨rfl,hw1.trans hU2 (fun _ _ x=>x)⟩
    ·have hbb:=qf n i ts 1
     have hbf:Tm.bound n i ts 1=false:=by simpa using hb
     rw[hbf]at hbb
     have HB:=fun k i W h=>Zf k i 1 n a ts.length cap W hn false h
     have HBB:=zH hbb.symm
     rw[hbf,Bool.false_and]
     clear hbb hb hbf H
     go_enter Tryz.func114,Tryz.ntmps114
     go_wp2_with fail
     refine(HB _ _ _ HBB.out).mono ?_
     rintro e w1 ⟨rfl,hU⟩
     go_wp2
     go_ret
     exact⟨rfl,hU.behind⟩
   ·rw[zCs k i n ts h4]
    have HA:=zDH H hlen k i n hn a cap (w.alloc (.cells #[.int .i64 k,.string (B n),.int .i64 i,.slice a ts.length cap] 29)) (hE.on ((zD.refl _ w).alloc _))
    generalize (Tm.mk k n i ts).isAtom=r at *
    clear H
    go_enter Tryz.func114,Tryz.ntmps114
    go_wp2_with fail
    refine HA.mono ?_
    rintro e w1 ⟨rfl,hU⟩
    go_wp2
    go_ret
    exact⟨rfl,hU.behind⟩
   ·have hp:=zCJ k i n ts h5
    generalize (Tm.mk k n i ts).isObj=r at *
    generalize hA:Tm.zY ts=al at *
    have H1:=fun k i n W hW=>zCM H hlen k i n a cap W hW al hA
    have HP:=zH hp
    clear hp hA H
    go_enter Tryz.func114,Tryz.ntmps114
    go_wp2_with (go_at_call 167;refine(H1 _ _ _ _ (hE.on ((zD.refl _ w).alloc _))).mono ?_;rintro e w1 ⟨rfl,hU⟩)
    all_goals go_ret
    all_goals first |refine⟨zU ?_,hU.behind⟩|refine⟨zU ?_,(zD.refl _ _).alloc _⟩
    all_goals(clear H1 hE;rw[HP.out,Bool.eq_iff_iff];simp[*]<;>(intros;omega))
   ·have hp:=zCK k i n ts h6
    generalize (Tm.mk k n i ts).isObj=r at *
    generalize hA:Tm.zY ts=al at *
    have H1:=fun k i n W hW=>zCM H hlen k i n a cap W hW al hA
    have HP:=zH hp
    clear hp hA H
    go_enter Tryz.func114,Tryz.ntmps114
    go_wp2_with (go_at_call 167;refine(H1 _ _ _ _ (hE.on ((zD.refl _ w).alloc _))).mono ?_;rintro e w1 ⟨rfl,hU⟩)
    all_goals go_ret
    all_goals first |refine⟨zU ?_,hU.behind⟩|refine⟨zU ?_,(zD.refl _ _).alloc _⟩
    all_goals(clear H1 hE;rw[HP.out,Bool.eq_iff_iff];simp[*]<;>(intros;omega))
   ·have hp:=XE k i n ts h3 h4 h5 h6
    rw[hp]
    clear hp H
    go_enter Tryz.func114,Tryz.ntmps114
    go_wp2_with fail
    go_ret
    exact⟨rfl,(zD.refl _ _).alloc _⟩
theorem zKW{ts:List Tm}(h:Tm.xJ ts<=1000000):zDO ts:=fun x hx w cs hr=>X2 x (by have:=Tm.xN hx;omega) w cs hr
theorem Y3(k i n ts):(Tm.mk k n i ts).zW=((Tm.mk k n i ts).isAtom || (k == 2 && (Tm.bound n i ts 2 && Tm.yq ts))):=by rw[Tm.zW]
theorem QE(t:Tm):t.wt<=1000000->∀(w:World)(cs:List Value),zM zC w t.zN cs->
    Calls Tryz.prog 115 #[.agg cs.toArray] w fun e w'=>e=.returned (.bool t.zW)/\zD zC w w':=by
  induction t using Tm.ind with
  |h k n i ts ih=>
   intro hs w cs h
   obtain⟨a,cap,rfl,hcap,hE⟩:=zk.1 h
   simp only[Tm.yi]at hs
   have hlen:ts.length<=1000000:=by have:=Tm.zO ts;have:=Tm.yu ts;omega
   have hn:n.length<=1000000:=by omega
   have H:∀ x∈ts,∀(w:World)(cs:List Value),zM zC w x.zN cs->Calls Tryz.prog 115 #[.agg cs.toArray] w fun e w'=>e=.returned (.bool x.zW)/\zD zC w w':=
     fun x hx w cs h=>ih x hx (by have:=Tm.xN hx;omega) w cs h
   clear ih h
   have HA:=zDH (zKW (ts:=ts) (by omega)) hlen k i n hn a cap (w.alloc (.cells #[.int .i64 k,.string (B n),.int .i64 i,.slice a ts.length cap] 29)) (hE.on ((zD.refl _ w).alloc _))
   have hp:=Y3 k i n ts
   generalize (Tm.mk k n i ts).zW=r at *
   generalize (Tm.mk k n i ts).isAtom=at' at *
   cases at'
   case true=>
     have HR:=zH hp
     clear hp H
     go_enter Tryz.func115,Tryz.ntmps115
     go_wp2_with fail
     refine HA.mono ?_
     rintro e w1 ⟨rfl,hU⟩
     obtain⟨b0,b1,b2,b3⟩:=(hU.cel (O:=zC) (fun _ x=>x)).qe (fun x=>x)
     go_wp2_with fail
     go_ret
     exact⟨zU (by rw[HR.out];rfl),hU.behind⟩
   rw[Bool.false_or]at hp
   cases h2:(k == 2)
   ·rw[h2,Bool.false_and]at hp
    have HR:=zH hp
    clear hp H
    go_enter Tryz.func115,Tryz.ntmps115
    go_wp2_with fail
    refine HA.mono ?_
    rintro e w1 ⟨rfl,hU⟩
    obtain⟨b0,b1,b2,b3⟩:=(hU.cel (O:=zC) (fun _ x=>x)).qe (fun x=>x)
    go_wp2_with fail
    go_ret
    exact⟨zU (by rw[HR.out]),hU.behind⟩
   rw[h2,Bool.true_and]at hp
   have hbb:=qf n i ts 2
   cases hb:Tm.bound n i ts 2
   ·rw[hb]at hbb
    rw[hb,Bool.false_and]at hp
    have HB:=fun k i W h=>Zf k i 2 n a ts.length cap W hn false h
    have HBB:=zH hbb.symm
    have HR:=zH hp
    clear hbb hb hp H
    go_enter Tryz.func115,Tryz.ntmps115
    go_wp2_with fail
    refine HA.mono ?_
    rintro e w1 ⟨rfl,hU⟩
    obtain⟨b0,b1,b2,b3⟩:=(hU.cel (O:=zC) (fun _ x=>x)).qe (fun x=>x)
    go_wp2_with fail
    refine(HB _ _ _ HBB.out).mono ?_
    rintro e w2 ⟨rfl,hU2⟩
    go_wp2_with fail
    go_ret
    exact⟨zU (by rw[HR.out]),hU.behind.trans hU2 (fun _ _ x=>x)⟩
   rw[hb]at hbb
   rw[hb,Bool.true_and]at hp
   have hb1:ts.length=2:=by unfold Tm.bound at hb;simp at hb;exact hb.1.2
   obtain⟨x,y,rfl⟩:∃ x y,ts=[x,y]:=by match ts,hb1 with | [x,y],_=>exact⟨x,y,rfl⟩
   have hl0:(0:Nat)<([x,y]:List Tm).length:=by simp
   have hl1:(1:Nat)<([x,y]:List Tm).length:=by simp
   obtain⟨b,o,k1,n1,x1,s1,c1,rfl,hbs,_,p0,p1,p2,p3,hR⟩:=zd hE 0 hl0
   obtain⟨b',o',k2,n2,x2,s2,c2,e',hbs',_,q0,q1,q2,q3,hR2⟩:=zd hE 1 hl1
   simp only[Option.some.injEq,Addr.mk.injEq]at e'
   obtain⟨rfl,rfl,_⟩:=e'
   simp only[Nat.zero_mul,Nat.add_zero,Nat.one_mul,List.getElem_cons_zero,List.getElem_cons_succ]at p0 p1 p2 p3 q0 q1 q2 q3 hR hR2
   simp only[List.length_cons,List.length_nil,Nat.zero_add]at *
   have HB:=fun k i W h=>Zf k i 2 n (some ⟨b,o,none⟩) 2 cap W hn true h
   have Hx:=H x (by simp)
   have Hy:=H y (by simp)
   have hO:Tm.yq [x,y]=(x.zW && y.zW):=by simp[Tm.yq]
   rw[hO]at hp
   have HBB:=zH hbb.symm
   have HR:=zH hp
   clear hbb hb hb1 hO hp H
   generalize x.zW=bx at *
   generalize y.zW=by' at *
   cases bx
   all_goals
     go_enter Tryz.func115,Tryz.ntmps115
     go_wp2_with fail
     refine HA.mono ?_
     rintro e w1 ⟨rfl,hU⟩
     obtain⟨b0,b1,b2,b3⟩:=(hU.cel (O:=zC) (fun _ x=>x)).qe (fun x=>x)
     have hw1:zD zC w w1:=hU.behind
     go_wp2_with fail
     refine(HB _ _ _ HBB.out).mono ?_
     rintro e w2 ⟨rfl,hU2⟩
     have hw2:=hw1.trans hU2 (fun _ _ x=>x)
     have e0:=hU2.cell b0 (fun x=>x)
     have e1:=hU2.cell b1 (fun x=>x)
     have e2:=hU2.cell b2 (fun x=>x)
     have e3:=hU2.cell b3 (fun x=>x)
     have f0:=hw2.cell p0 (fun x=>x)
     have f1:=hw2.cell p1 (fun x=>x)
     have f2:=hw2.cell p2 (fun x=>x)
     have f3:=hw2.cell p3 (fun x=>x)
     clear b0 b1 b2 b3 p0 p1 p2 p3
     go_wp2_with fail
     refine(Hx _ _ (hR.on hw2)).mono ?_
     rintro e w3 ⟨rfl,hU3⟩
     have hw3:=hw2.trans hU3 (fun _ _ x=>x)
   ·go_wp2_with fail
    go_ret
    exact⟨zU (by rw[HR.out];rfl),hw3⟩
   ·have g0:=hU3.cell e0 (fun x=>x)
    have g1:=hU3.cell e1 (fun x=>x)
    have g2:=hU3.cell e2 (fun x=>x)
    have g3:=hU3.cell e3 (fun x=>x)
    have r0:=hw3.cell q0 (fun x=>x)
    have r1:=hw3.cell q1 (fun x=>x)
    have r2:=hw3.cell q2 (fun x=>x)
    have r3:=hw3.cell q3 (fun x=>x)
    clear e0 e1 e2 e3 q0 q1 q2 q3
    go_wp2_with fail
    refine(Hy _ _ (hR2.on hw3)).mono ?_
    rintro e w4 ⟨rfl,hU4⟩
    go_wp2_with fail
    go_ret
    exact⟨zU (by rw[HR.out];rfl),hw3.trans hU4 (fun _ _ x=>x)⟩
end
section
open Go.RowKit Go.LF
theorem zFJ(k i n ts)(h:(k == 1)=true):(Tm.mk k n i ts).zZ=(n == [] && (i == 0 && ts.isEmpty)):=by
  have:k=1:=by simpa using h
  subst this
  unfold Tm.zZ
  split<;>simp_all
  rename_i h2;obtain⟨rfl,rfl,rfl,rfl⟩:=h2;simp
theorem Xk(k i n ts)(h:(k == 1)=false)(hb:(k == 2 && Tm.bound n i ts 2)=false):(Tm.mk k n i ts).zZ=false:=by
  match ts,hb with
  | [a,b],hb=>unfold Tm.zZ;rw[Bool.and_eq_false_iff]at hb;rcases hb with hb |hb<;>simp[hb]
  | [],_=>unfold Tm.zZ;simp[h]
  | [_],_=>unfold Tm.zZ;simp[h]
  |_ :: _ :: _ :: _,_=>unfold Tm.zZ;simp[h]
theorem zFZ(k i n x y)(hb:(k == 2 && Tm.bound n i [x,y] 2)=true):(Tm.mk k n i [x,y]).zZ=(x.zW && y.zZ):=by
  rw[Bool.and_eq_true]at hb
  rw[Tm.zZ,hb.1,hb.2];simp
theorem zEF(t:Tm):t.wt<=1000000->∀(w:World)(cs:List Value),zM zC w t.zN cs->
    Calls Tryz.prog 116 #[.agg cs.toArray] w fun e w'=>e=.returned (.bool t.zZ)/\zD zC w w':=by
  induction t using Tm.ind with
  |h k n i ts ih=>
   intro hs w cs h
   obtain⟨a,cap,rfl,hcap,hE⟩:=zk.1 h
   simp only[Tm.yi]at hs
   have hlen:ts.length<=1000000:=by have:=Tm.zO ts;have:=Tm.yu ts;omega
   have hn:n.length<=1000000:=by omega
   have H:∀ x∈ts,∀(w:World)(cs:List Value),zM zC w x.zN cs->Calls Tryz.prog 116 #[.agg cs.toArray] w fun e w'=>e=.returned (.bool x.zZ)/\zD zC w w':=
     fun x hx w cs h=>ih x hx (by have:=Tm.xN hx;omega) w cs h
   have HT:∀ x∈ts,∀(w:World)(cs:List Value),zM zC w x.zN cs->Calls Tryz.prog 115 #[.agg cs.toArray] w fun e w'=>e=.returned (.bool x.zW)/\zD zC w w':=
     fun x hx w cs h=>QE x (by have:=Tm.xN hx;omega) w cs h
   clear ih h
   cases h1:(k == 1)
   case true=>
     have hp:=zFJ k i n ts h1
     generalize (Tm.mk k n i ts).zZ=r at *
     have hz:((ts.length:Int) == 0)=ts.isEmpty:=by cases ts<;>simp;omega
     have HP:=zH hp
     have HZ:=zH hz
     clear hp hz H HT
     go_enter Tryz.func116,Tryz.ntmps116
     go_wp2
     all_goals go_ret
     all_goals refine⟨zU ?_,(zD.refl _ _).alloc _⟩
     all_goals(clear hE;rw[HP.out,Bool.eq_iff_iff];simp[*])
   cases h2:(k == 2)
   ·rw[Xk k i n ts h1 (by rw[h2];rfl)]
    clear H HT
    go_enter Tryz.func116,Tryz.ntmps116
    go_wp2
    go_ret
    exact⟨rfl,(zD.refl _ _).alloc _⟩
   have hbb:=qf n i ts 2
   cases hb:Tm.bound n i ts 2
   ·rw[hb]at hbb
    rw[Xk k i n ts h1 (by rw[h2,hb];rfl)]
    have HB:=fun k i W h=>Zf k i 2 n a ts.length cap W hn false h
    have HBB:=zH hbb.symm
    clear hbb hb H HT
    go_enter Tryz.func116,Tryz.ntmps116
    go_wp2_with fail
    refine(HB _ _ _ HBB.out).mono ?_
    rintro e w2 ⟨rfl,hU2⟩
    go_wp2_with fail
    go_ret
    exact⟨rfl,hU2.behind⟩
   rw[hb]at hbb
   have hb1:ts.length=2:=by unfold Tm.bound at hb;simp at hb;exact hb.1.2
   obtain⟨x,y,rfl⟩:∃ x y,ts=[x,y]:=by match ts,hb1 with | [x,y],_=>exact⟨x,y,rfl⟩
   have hp:=zFZ k i n x y (by rw[h2,hb];rfl)
   have hl0:(0:Nat)<([x,y]:List Tm).length:=by simp
   have hl1:(1:Nat)<([x,y]:List Tm).length:=by simp
   obtain⟨b,o,k1,n1,x1,s1,c1,rfl,hbs,_,p0,p1,p2,p3,hR⟩:=zd hE 0 hl0
   obtain⟨b',o',k2,n2,x2,s2,c2,e',hbs',_,q0,q1,q2,q3,hR2⟩:=zd hE 1 hl1
   simp only[Option.some.injEq,Addr.mk.injEq]at e'
   obtain⟨rfl,rfl,_⟩:=e'
   simp only[Nat.zero_mul,Nat.add_zero,Nat.one_mul,List.getElem_cons_zero,List.getElem_cons_succ]at p0 p1 p2 p3 q0 q1 q2 q3 hR hR2
   simp only[List.length_cons,List.length_nil,Nat.zero_add]at *
   have HB:=fun k i W h=>Zf k i 2 n (some ⟨b,o,none⟩) 2 cap W hn true h
   have Hx:=HT x (by simp)
   have Hy:=H y (by simp)
   generalize (Tm.mk k n i [x,y]).zZ=r at *
   have HBB:=zH hbb.symm
   have HR:=zH hp
   clear hbb hb hb1 hp H HT
   generalize x.zW=bx at *
   generalize y.zZ=by' at *
   cases bx
   all_goals
     go_enter Tryz.func116,Tryz.ntmps116
     go_wp2_with fail
     refine(HB _ _ _ HBB.out).mono ?_
     rintro e w2 ⟨rfl,hU2⟩
     obtain⟨e0,e1,e2,e3⟩:=(hU2.cel (O:=zC) (fun _ x=>x)).qe (fun x=>x)
     have hw2:zD zC w w2:=hU2.behind
     have f0:=hw2.cell p0 (fun x=>x)
     have f1:=hw2.cell p1 (fun x=>x)
     have f2:=hw2.cell p2 (fun x=>x)
     have f3:=hw2.cell p3 (fun x=>x)
     clear p0 p1 p2 p3
     go_wp2_with fail
     refine(Hx _ _ (hR.on hw2)).mono ?_
     rintro e w3 ⟨rfl,hU3⟩
     have hw3:=hw2.trans hU3 (fun _ _ x=>x)
   ·go_wp2_with fail
    go_ret
    exact⟨zU (by rw[HR.out];rfl),hw3⟩
   ·have g0:=hU3.cell e0 (fun x=>x)
    have g1:=hU3.cell e1 (fun x=>x)
    have g2:=hU3.cell e2 (fun x=>x)
    have g3:=hU3.cell e3 (fun x=>x)
    have r0:=hw3.cell q0 (fun x=>x)
    have r1:=hw3.cell q1 (fun x=>x)
    have r2:=hw3.cell q2 (fun x=>x)
    have r3:=hw3.cell q3 (fun x=>x)
    clear e0 e1 e2 e3 q0 q1 q2 q3
    go_wp2_with fail
    refine(Hy _ _ (hR2.on hw3)).mono ?_
    rintro e w4 ⟨rfl,hU4⟩
    go_wp2_with fail
    go_ret
    exact⟨zU (by rw[HR.out];rfl),hw3.trans hU4 (fun _ _ x=>x)⟩
theorem XV(t:Tm)(hs:t.wt<=1000000)(w:World)(cs:List Value)(h:zM zC w t.zN cs):
    Calls Tryz.prog 117 #[.agg cs.toArray] w fun e w'=>e=.returned (.bool t.small)/\zD zC w w':=by
  have hs':t.size<=1000000:=by have:=Tm.zi t;omega
  have hp:(decide (t.size<=4096) && decide (t.depth<=128))=t.small:=rfl
  have HS:=fun w cs h=>zBJ t hs' w cs h
  have HD:=fun w cs h=>QO t hs' w cs h
  obtain⟨k,n,i,ts,a,cap,ht,rfl,hcap,hE⟩:=zX h
  generalize t.size=sz at *
  generalize t.depth=dp at *
  generalize t.small=sm at *
  have HT:=zH ht
  have HP:=zH hp
  clear ht hp hcap
  generalize ts.length=len at *
  go_enter Tryz.func117,Tryz.ntmps117
  go_wp2_with fail
  refine(HS _ _ (h.new _)).mono ?_
  rintro e w1 ⟨rfl,hU⟩
  obtain⟨b0,b1,b2,b3⟩:=(hU.cel (O:=zC) (fun _ x=>x)).qe (fun x=>x)
  have hw1:zD zC w w1:=hU.behind
  by_cases hsz:sz<=4096
  ·go_wp2_with fail
   refine(HD _ _ (h.on hw1)).mono ?_
   rintro e w2 ⟨rfl,hU2⟩
   go_wp2
   go_ret
   exact⟨zU (by rw[<-HP.out,Bool.eq_iff_iff];simp;omega),hw1.trans hU2 (fun _ _ x=>x)⟩
  ·go_wp2_with fail
   go_ret
   exact⟨zU (by rw[<-HP.out,Bool.eq_iff_iff];simp;omega),hw1⟩
end
section
open Go.RowKit Go.LF
theorem zEw(t:Tm)(hs:t.wt<=1000000)(w:World)(cs:List Value)(h:zM zC w t.zN cs):
    Calls Tryz.prog 131 #[.agg cs.toArray] w fun e w'=>e=.returned (.bool (t.zZ && t.small))/\zD zC w w':=by
  have HK:=fun w cs h=>zEF t hs w cs h
  have HS:=fun w cs h=>XV t hs w cs h
  obtain⟨k,n,i,ts,a,cap,ht,rfl,hcap,hE⟩:=zX h
  generalize t.zZ=bk at *
  generalize t.small=sm at *
  have HT:=zH ht
  clear ht hcap
  generalize ts.length=len at *
  go_enter Tryz.func131,Tryz.ntmps131
  go_wp2_with fail
  refine(HK _ _ (h.new _)).mono ?_
  rintro e w1 ⟨rfl,hU⟩
  obtain⟨b0,b1,b2,b3⟩:=zv hU
  have hw1:zD zC w w1:=hU.behind
  cases bk
  ·go_wp2_with fail
   go_ret
   exact⟨rfl,hw1⟩
  ·go_wp2_with fail
   refine(HS _ _ (h.on hw1)).mono ?_
   rintro e w2 ⟨rfl,hU2⟩
   go_wp2
   go_ret
   exact⟨rfl,hw1.and hU2⟩
theorem zAW(t:Tm)(hs:t.wt<=1000000)(w:World)(cs:List Value)(h:zM zC w t.zN cs):
    Calls Tryz.prog 130 #[.agg cs.toArray] w fun e w'=>e=.returned (.bool (t.zW && t.small))/\zD zC w w':=by
  have HK:=fun w cs h=>QE t hs w cs h
  have HS:=fun w cs h=>XV t hs w cs h
  obtain⟨k,n,i,ts,a,cap,ht,rfl,hcap,hE⟩:=zX h
  generalize t.zW=bk at *
  generalize t.small=sm at *
  have HT:=zH ht
  clear ht hcap
  generalize ts.length=len at *
  go_enter Tryz.func130,Tryz.ntmps130
  go_wp2_with fail
  refine(HK _ _ (h.new _)).mono ?_
  rintro e w1 ⟨rfl,hU⟩
  obtain⟨b0,b1,b2,b3⟩:=zv hU
  have hw1:zD zC w w1:=hU.behind
  cases bk
  ·go_wp2_with fail
   go_ret
   exact⟨rfl,hw1⟩
  ·go_wp2_with fail
   refine(HS _ _ (h.on hw1)).mono ?_
   rintro e w2 ⟨rfl,hU2⟩
   go_wp2
   go_ret
   exact⟨rfl,hw1.and hU2⟩
theorem qO(t:Tm)(hs:t.wt<=1000000)(w:World)(cs:List Value)(h:zM zC w t.zN cs):
    Calls Tryz.prog 70 #[.agg cs.toArray] w fun e w'=>e=.returned (.bool (t.isObj && t.small))/\zD zC w w':=by
  have HK:=fun w cs h=>X2 t hs w cs h
  have HS:=fun w cs h=>XV t hs w cs h
  obtain⟨k,n,i,ts,a,cap,ht,rfl,hcap,hE⟩:=zX h
  generalize t.isObj=bk at *
  generalize t.small=sm at *
  have HT:=zH ht
  clear ht hcap
  generalize ts.length=len at *
  go_enter Tryz.func70,Tryz.ntmps70
  go_wp2_with fail
  refine(HK _ _ (h.new _)).mono ?_
  rintro e w1 ⟨rfl,hU⟩
  obtain⟨b0,b1,b2,b3⟩:=zv hU
  have hw1:zD zC w w1:=hU.behind
  cases bk
  ·go_wp2_with fail
   go_ret
   exact⟨rfl,hw1⟩
  ·go_wp2_with fail
   refine(HS _ _ (h.on hw1)).mono ?_
   rintro e w2 ⟨rfl,hU2⟩
   go_wp2
   go_ret
   exact⟨rfl,hw1.and hU2⟩
theorem yX(t:Tm)(hs:t.wt<=1000000)(w:World)(cs:List Value)(h:zM zC w t.zN cs):
    Calls Tryz.prog 50 #[.agg cs.toArray] w fun e w'=>e=.returned (.int .i64 t.wf)/\zD zC w w':=by
  have HO:=fun w cs h=>X2 t hs w cs h
  have HY:=fun w cs h=>QE t hs w cs h
  have HK:=fun w cs h=>zEF t hs w cs h
  have HS:=fun w cs h=>XV t hs w cs h
  have hp:(if !t.isObj && !t.zW && !t.zZ then 1 else if !t.small then 2 else 0)=t.wf:=rfl
  obtain⟨k,n,i,ts,a,cap,ht,rfl,hcap,hE⟩:=zX h
  generalize t.isObj=bo at *
  generalize t.zW=bt at *
  generalize t.zZ=bk at *
  generalize t.small=sm at *
  generalize t.wf=r at *
  have HT:=zH ht
  have HP:=zH hp
  clear ht hcap hp
  generalize ts.length=len at *
  have fin:∀ w1,zD zC w w1->w1.cell? ⟨w.heap.size,0,none⟩=some (.int .i64 k)/\w1.cell? ⟨w.heap.size,1,none⟩=some (.string (B n))/\w1.cell? ⟨w.heap.size,2,none⟩=some (.int .i64 i)/\w1.cell? ⟨w.heap.size,3,none⟩=some (.slice a len cap)->
      Calls Tryz.prog 117 #[.agg #[.int .i64 k,.string (B n),.int .i64 i,.slice a len cap]] w1 fun e w'=>e=.returned (.bool sm)/\zD zC w w':=
    fun w1 hU _=>(HS _ _ (h.on hU)).mono fun _ _ ⟨he,hU2⟩=>⟨he,hU.and hU2⟩
  have FIN:=zH fin
  clear fin
  cases bo
  ·cases bt
   ·cases bk
    all_goals
      go_enter Tryz.func50,Tryz.ntmps50
      go_wp2_with fail
      refine(HO _ _ (h.new _)).mono ?_
      rintro e w1 ⟨rfl,hU⟩
      have B1:=zv hU
      obtain⟨b0,b1,b2,b3⟩:=B1
      have hw1:zD zC w w1:=hU.behind
      go_wp2_with fail
      refine(HY _ _ (h.on hw1)).mono ?_
      rintro e w2 ⟨rfl,hU2⟩
      have B2:=zEr hU2 ⟨b0,b1,b2,b3⟩
      obtain⟨c0,c1,c2,c3⟩:=B2
      have hw2:=hw1.and hU2
      go_wp2_with fail
      refine(HK _ _ (h.on hw2)).mono ?_
      rintro e w3 ⟨rfl,hU3⟩
      have B3:=zEr hU3 ⟨c0,c1,c2,c3⟩
      obtain⟨d0,d1,d2,d3⟩:=B3
      have hw3:=hw2.and hU3
      go_wp2_with fail
    ·go_ret
     exact⟨zb (by rw[<-HP.out];rfl),hw3⟩
    ·refine(FIN.out _ hw3 ⟨d0,d1,d2,d3⟩).mono ?_
     rintro e w4 ⟨rfl,hU4⟩
     cases sm
     all_goals
       go_wp2
       go_ret
       exact⟨zb (by rw[<-HP.out];rfl),hU4⟩
   ·go_enter Tryz.func50,Tryz.ntmps50
    go_wp2_with fail
    refine(HO _ _ (h.new _)).mono ?_
    rintro e w1 ⟨rfl,hU⟩
    have B1:=zv hU
    obtain⟨b0,b1,b2,b3⟩:=B1
    have hw1:zD zC w w1:=hU.behind
    go_wp2_with fail
    refine(HY _ _ (h.on hw1)).mono ?_
    rintro e w2 ⟨rfl,hU2⟩
    have B2:=zEr hU2 ⟨b0,b1,b2,b3⟩
    obtain⟨c0,c1,c2,c3⟩:=B2
    have hw2:=hw1.and hU2
    go_wp2_with fail
    refine(FIN.out _ hw2 ⟨c0,c1,c2,c3⟩).mono ?_
    rintro e w4 ⟨rfl,hU4⟩
    cases sm
    all_goals
      go_wp2
      go_ret
      exact⟨zb (by rw[<-HP.out];cases bk<;>rfl),hU4⟩
  ·go_enter Tryz.func50,Tryz.ntmps50
   go_wp2_with fail
   refine(HO _ _ (h.new _)).mono ?_
   rintro e w1 ⟨rfl,hU⟩
   have B1:=zv hU
   obtain⟨b0,b1,b2,b3⟩:=B1
   have hw1:zD zC w w1:=hU.behind
   go_wp2_with fail
   refine(FIN.out _ hw1 ⟨b0,b1,b2,b3⟩).mono ?_
   rintro e w4 ⟨rfl,hU4⟩
   cases sm
   all_goals
     go_wp2
     go_ret
     exact⟨zb (by rw[<-HP.out];cases bt<;>cases bk<;>rfl),hU4⟩
end
end Go.Proofs.YthgmimncdjhgnaaGreatDoor
