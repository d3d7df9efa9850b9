/- ak8 zp are objects, types and kinds: sU rO JA. -/
import Derived.Test.YthgmimncdjhgnaaGreatDoorXCB
set_option maxHeartbeats 2000000
namespace Go.Proofs.YthgmimncdjhgnaaGreatDoor
section
open Go.RowKit Go.LF
theorem rF(n:List UInt8)(i:Int)(l:List Tm)(k:Nat):Tm.bound n i l k=(i == 0 && (((l.length:Int) == (k:Int)) && (n == []|| (n == [95]|| isName n)))):=by
  unfold Tm.bound;have:((l.length:Int) == (k:Int))=(l.length == k):=by rw[Bool.eq_iff_iff];simp;omega
  rw[this,Bool.and_assoc,Bool.or_assoc]
theorem jT(k i m:Int)(n:List UInt8)(a:Option Addr)(len cap:Nat)(w:World)(hn:n.length<=1000000)(b:Bool)
    (hb:(i == 0 && (((len:Int) == m) && (n == []|| (n == [95]|| isName n))))=b):
    Calls Tryz.prog 165 #[.agg #[.int .i64 k,.string (B n),.int .i64 i,.slice a len cap],.int .i64 m] w fun e w'=>
      e=.returned (.bool b)/\af ae w w':=by
  have HB:=ak hb;clear hb;go_enter Tryz.func165,Tryz.ntmps165;go_wp2_with (go_at_call 159;refine(mh _ _ hn).mono ?_;rintro e w' ⟨rfl,rfl⟩)
  all_goals go_ret
  all_goals refine⟨aR ?_,(af.refl _ _).alloc _⟩
  all_goals(rw[<-HB.out,Bool.eq_iff_iff];simp[*])
section
def El(ts:List Tm):Prop:=∀ x∈ts,∀(w:World)(cs:List Value),aw ae w x.az cs->
    Calls Tryz.prog 114 #[.agg cs.toArray] w fun e w'=>e=.returned (.bool x.isObj)/\af ae w w'
theorem NR{ts:List Tm}(H:El ts)(x:Tm)(hx:x∈ts)(w:World)(cs:List Value)(h:aw ae w x.az cs):
    Calls Tryz.prog 190 #[.agg cs.toArray] w fun e w'=>e=.returned (.bool (!x.isObj))/\af ae w w':=by
  obtain⟨k,n,i,l,a,cap,rfl,rfl,aX,hE⟩:=aP h;have H1:=H _ hx _ _ (h.new (.cells #[.int .i64 k,.string (B n),.int .i64 i,.slice a l.length cap] 29));generalize (Tm.mk k n i l).isObj=b at *
  go_enter Tryz.func190,Tryz.ntmps190;go_wp2_with fail;refine H1.mono ?_;rintro e w1 ⟨rfl,hU⟩;go_wp2
  go_ret;exact⟨rfl,hU.behind⟩
def Found(b:Bool)(e:Ending):Prop:=∃ m:Int,e=.returned (.int .i64 m)/\decide (0<=m)=b
theorem xR{ts:List Tm}(g:FuncId)(p:Tm->Bool)(hlen:ts.length<=1000000)
    (H:∀ x∈ts,∀(w:World)(cs:List Value),aw ae w x.az cs->Calls Tryz.prog g #[.agg cs.toArray] w fun e w'=>e=.returned (.bool (p x))/\af ae w w')
    (hg:∀ args w,(callFunc g args).run Tryz.prog w=.ok (.enter g args) w)
    (w:World) (a:Option Addr) (cap:Nat) (hE:ai ae w 4 (ts.map Tm.az) a 0):
    Calls Tryz.prog 132 #[.slice a ts.length cap,.func (.func g) #[] #[]] w fun e w'=>
      Found (ts.any p) e/\af ae w w':=by
  go_enter Tryz.func132,Tryz.ntmps132;go_wp2_with fail
  go_loopw [8] (fun v wr=>∃ j:Nat,j<=ts.length/\v=.int .i64 j/\(ts.take j).any p=false/\af ae w wr)
    (fun v _=>ts.length - (intOf v).toNat)
  case atStart=>exact⟨0,Nat.zero_le _,rfl,rfl,af.refl _ _⟩
  obtain⟨j,hj,rfl,hA,hU⟩:=hrel;have HA:=ak hA;clear hA;by_cases aB:j<ts.length
  ·obtain⟨b,o,k1,n1,x1,s1,c1,rfl,hb,_,tw,s5,ju,yT,hR⟩:=aY (hE.on hU) j aB;have H1:=H _ (List.getElem_mem aB) _ _ hR
   have hT:(ts.take (j+1)).any p=((ts.take j).any p || p ts[j]):=by
     rw[List.take_succ_eq_append_getElem aB];simp only[List.any_append,List.any_cons,List.any_nil,Bool.or_false]
   have hM:p ts[j]=true->ts.any p=true:=fun h=>List.any_eq_true.2 ⟨_,List.getElem_mem aB,h⟩
   rw[HA.out]at hT;have HT:=ak hT;have HM:=ak hM;clear hT hM;generalize p ts[j]=b at *
   cases b
   all_goals
     go_wp2_with fail;refine H1.mono ?_;rintro e w1 ⟨rfl,aH⟩;go_wp2
   ·go_roundw;case rel=>exact⟨j+1,by omega,by go_num,by rw[HT.out];rfl,hU.trans aH (fun _ _ x=>x)⟩
    simp[intOf];omega
   go_ret;exact⟨⟨j,rfl,by rw[HM.out (by trivial)];simp⟩,hU.trans aH (fun _ _ x=>x)⟩
  have jR:ts.take j=ts:=List.take_of_length_le (by omega);have mx:=HA.out;rw[jR]at mx;clear HA jR;have HA:=ak mx;clear mx;go_wp2
  go_ret;exact⟨⟨-1,rfl,by rw[HA.out];rfl⟩,hU⟩
theorem gv{ts:List Tm}(g:FuncId)(p:Tm->Bool)(hlen:ts.length<=1000000)
    (H:∀ x∈ts,∀(w:World)(cs:List Value),aw ae w x.az cs->Calls Tryz.prog g #[.agg cs.toArray] w fun e w'=>e=.returned (.bool (p x))/\af ae w w')
    (hg:∀ args w,(callFunc g args).run Tryz.prog w=.ok (.enter g args) w)
    (w:World) (a:Option Addr) (cap:Nat) (hE:ai ae w 4 (ts.map Tm.az) a 0):
    Calls Tryz.prog 68 #[.slice a ts.length cap,.func (.func g) #[] #[]] w fun e w'=>
      e=.returned (.bool (ts.any p))/\af ae w w':=by
  have H1:=xR g p hlen H hg w a cap hE;clear H;go_enter Tryz.func68,Tryz.ntmps68;go_wp2_with fail;refine H1.mono ?_;rintro e w1 ⟨⟨m,rfl,hm⟩,hU⟩;have HM:=ak hm;clear hm H1;go_wp2
  go_ret;exact⟨aR HM.out,hU⟩
theorem AD{ts:List Tm}(H:El ts)(hlen:ts.length<=1000000)(k i:Int)(n:List UInt8)(a:Option Addr)(cap:Nat)(w:World)(hE:ai ae w 4 (ts.map Tm.az) a 0)(b:Bool)(hb:Tm.aV ts=b):
    Calls Tryz.prog 167 #[.agg #[.int .i64 k,.string (B n),.int .i64 i,.slice a ts.length cap]] w fun e w'=>e=.returned (.bool b)/\af ae w w':=by
  have H1:=gv 190 (fun x=>!x.isObj) hlen (fun x hx w cs h=>NR H x hx w cs h) (enters_of Tryz.func190 (by kernel_rfl) rfl)
    (w.alloc (.cells #[.int .i64 k,.string (B n),.int .i64 i,.slice a ts.length cap] 29)) a cap (hE.on ((af.refl _ w).alloc _))
  have pB:(!ts.any fun x=>!x.isObj)=b:=by rw[<-hb,Tm.cM,Bool.eq_iff_iff];simp
  have HB:=ak pB;clear hb pB;generalize (ts.any fun x=>!x.isObj)=c at *
  go_enter Tryz.func167,Tryz.ntmps167;go_wp2_with fail;refine H1.mono ?_;rintro e w1 ⟨rfl,hU⟩;go_wp2
  go_ret;exact⟨aR HB.out,hU.behind⟩
theorem Dv{ts:List Tm}(H:El ts)(hlen:ts.length<=1000000)(k i:Int)(n:List UInt8)(hn:n.length<=1000000)(a:Option Addr)(cap:Nat)(w:World)(hE:ai ae w 4 (ts.map Tm.az) a 0):
    Calls Tryz.prog 166 #[.agg #[.int .i64 k,.string (B n),.int .i64 i,.slice a ts.length cap]] w fun e w'=>e=.returned (.bool (Tm.mk k n i ts).isAtom)/\af ae w w':=by
  have hp:(k == 4 && (isName n && i == 0 && Tm.aV ts))=(Tm.mk k n i ts).isAtom:=rfl;generalize (Tm.mk k n i ts).isAtom=r at *
  generalize hA:Tm.aV ts=al at *
  have H1:=fun k i n W hW=>AD H hlen k i n a cap W hW al hA
  have HP:=ak hp;clear hp hA H;go_enter Tryz.func166,Tryz.ntmps166;go_wp2_with (first |(go_at_call 159;refine(mh _ _ hn).mono ?_;rintro e w' ⟨rfl,rfl⟩)|(go_at_call 167;refine(H1 _ _ _ _ (hE.on ((af.refl _ w).alloc _))).mono ?_;rintro e w1 ⟨rfl,hU⟩))
  all_goals go_ret
  all_goals first |refine⟨aR ?_,hU.behind⟩|refine⟨aR ?_,(af.refl _ _).alloc _⟩
  all_goals(clear H1 hE;rw[<-HP.out,Bool.eq_iff_iff];simp[*])
end
end
section
open Go.RowKit Go.LF
theorem AM(k i n ts)(h:(k == 3)=true):(Tm.mk k n i ts).isObj=(Tm.bound n i ts 1 && Tm.aV ts):=by
  have:k=3:=by simpa using h
  rw[Tm.isObj];simp[this]
theorem Ag(k i n ts)(h:(k == 4)=true):(Tm.mk k n i ts).isObj=(Tm.mk k n i ts).isAtom:=by
  have:k=4:=by simpa using h
  rw[Tm.isObj,Tm.isAtom];simp[this]
theorem AT(k i n ts)(h:(k == 5)=true):(Tm.mk k n i ts).isObj=(n == [] && decide (0<=i) && decide (i<=1048576) && Tm.aV ts):=by
  have:k=5:=by simpa using h
  rw[Tm.isObj];simp[this]
theorem A4(k i n ts)(h:(k == 6)=true):(Tm.mk k n i ts).isObj=(n == [] && decide (0<=i) && decide (i<2048) && Tm.aV ts):=by
  have:k=6:=by simpa using h
  rw[Tm.isObj];simp[this]
theorem nS(k i n ts)(h3:(k == 3)=false)(h4:(k == 4)=false)(h5:(k == 5)=false)(h6:(k == 6)=false):(Tm.mk k n i ts).isObj=false:=by
  rw[Tm.isObj];simp at h3 h4 h5 h6;simp[h3,h4,h5,h6]
theorem JJ(k:Int):(k == 3)=true\/((k == 3)=false/\(k == 4)=true)\/((k == 3)=false/\(k == 4)=false/\(k == 5)=true)\/
    ((k == 3)=false/\(k == 4)=false/\(k == 5)=false/\(k == 6)=true)\/((k == 3)=false/\(k == 4)=false/\(k == 5)=false/\(k == 6)=false):=by
  cases(k == 3)<;>cases(k == 4)<;>cases(k == 5)<;>cases(k == 6)<;>simp
theorem pY(t:Tm):t.wt<=1000000->∀(w:World)(cs:List Value),aw ae w t.az cs->
    Calls Tryz.prog 114 #[.agg cs.toArray] w fun e w'=>e=.returned (.bool t.isObj)/\af ae w w':=by
  induction t using Tm.ind with
  |h k n i ts ih=>
   intro hs w cs h;obtain⟨a,cap,rfl,aX,hE⟩:=bg.1 h;simp only[Tm.cU]at hs;have hlen:ts.length<=1000000:=by have:=Tm.aA ts;have:=Tm.eC ts;omega
   have hn:n.length<=1000000:=by omega
   have H:El ts:=fun x hx w cs h=>ih x hx (by have:=Tm.fM hx;omega) w cs h
   clear ih h;rcases JJ k with h3 |⟨h3,h4⟩|⟨h3,h4,h5⟩|⟨h3,h4,h5,h6⟩|⟨h3,h4,h5,h6⟩
   ·rw[AM k i n ts h3];by_cases hb:Tm.bound n i ts 1=true
    ·have iV:ts.length=1:=by unfold Tm.bound at hb;simp at hb;exact hb.1.2
     have rh:=rF n i ts 1;rw[hb]at rh;obtain⟨x,rfl⟩:∃ x,ts=[x]:=List.length_eq_one_iff.1 iV;have aB:(0:Nat)<([x]:List Tm).length:=by simp
     obtain⟨b,o,k1,n1,x1,s1,c1,rfl,St,_,tw,s5,ju,yT,hR⟩:=aY hE 0 aB;simp only[Nat.zero_mul,Nat.add_zero,List.getElem_cons_zero]at tw s5 ju yT hR;simp only[List.length_cons,List.length_nil,Nat.zero_add]at *
     have HB:=fun k i W h=>jT k i 1 n (some ⟨b,o,none⟩) 1 cap W hn true h
     have Hx:=H x (by simp);have hO:(true && Tm.aV [x])=x.isObj:=by simp[Tm.aV]
     rw[hb,hO];have En:=ak rh.symm;clear rh hb iV hO H;go_enter Tryz.func114,Tryz.ntmps114;go_wp2_with fail;refine(HB _ _ _ En.out).mono ?_;rintro e w1 ⟨rfl,hU⟩;obtain⟨b0,b1,b2,b3⟩:=(hU.Bk (O:=ae) (fun _ x=>x)).qu (fun x=>x);have aF:af ae w w1:=hU.behind;have d0:=aF.cell tw (fun x=>x);have d1:=aF.cell s5 (fun x=>x);have d2:=aF.cell ju (fun x=>x);have d3:=aF.cell yT (fun x=>x);clear tw s5 ju yT;go_wp2_with fail;refine(Hx _ _ (hR.on aF)).mono ?_;rintro e w2 ⟨rfl,aL⟩;go_wp2
     go_ret;exact⟨rfl,aF.trans aL (fun _ _ x=>x)⟩
    have rh:=rF n i ts 1;have hbf:Tm.bound n i ts 1=false:=by simpa using hb
    rw[hbf]at rh;have HB:=fun k i W h=>jT k i 1 n a ts.length cap W hn false h
    have En:=ak rh.symm;rw[hbf,Bool.false_and];clear rh hb hbf H;go_enter Tryz.func114,Tryz.ntmps114;go_wp2_with fail;refine(HB _ _ _ En.out).mono ?_;rintro e w1 ⟨rfl,hU⟩;go_wp2
    go_ret;exact⟨rfl,hU.behind⟩
   ·rw[Ag k i n ts h4];have HA:=Dv H hlen k i n hn a cap (w.alloc (.cells #[.int .i64 k,.string (B n),.int .i64 i,.slice a ts.length cap] 29)) (hE.on ((af.refl _ w).alloc _));generalize (Tm.mk k n i ts).isAtom=r at *
    clear H;go_enter Tryz.func114,Tryz.ntmps114;go_wp2_with fail;refine HA.mono ?_;rintro e w1 ⟨rfl,hU⟩;go_wp2
    go_ret;exact⟨rfl,hU.behind⟩
   ·have hp:=AT k i n ts h5;generalize (Tm.mk k n i ts).isObj=r at *
    generalize hA:Tm.aV ts=al at *
    have H1:=fun k i n W hW=>AD H hlen k i n a cap W hW al hA
    have HP:=ak hp;clear hp hA H;go_enter Tryz.func114,Tryz.ntmps114;go_wp2_with (go_at_call 167;refine(H1 _ _ _ _ (hE.on ((af.refl _ w).alloc _))).mono ?_;rintro e w1 ⟨rfl,hU⟩)
    all_goals go_ret
    all_goals first |refine⟨aR ?_,hU.behind⟩|refine⟨aR ?_,(af.refl _ _).alloc _⟩
    all_goals(clear H1 hE;rw[HP.out,Bool.eq_iff_iff];simp[*]<;>(intros;omega))
   ·have hp:=A4 k i n ts h6;generalize (Tm.mk k n i ts).isObj=r at *
    generalize hA:Tm.aV ts=al at *
    have H1:=fun k i n W hW=>AD H hlen k i n a cap W hW al hA
    have HP:=ak hp;clear hp hA H;go_enter Tryz.func114,Tryz.ntmps114;go_wp2_with (go_at_call 167;refine(H1 _ _ _ _ (hE.on ((af.refl _ w).alloc _))).mono ?_;rintro e w1 ⟨rfl,hU⟩)
    all_goals go_ret
    all_goals first |refine⟨aR ?_,hU.behind⟩|refine⟨aR ?_,(af.refl _ _).alloc _⟩
    all_goals(clear H1 hE;rw[HP.out,Bool.eq_iff_iff];simp[*]<;>(intros;omega))
   have hp:=nS k i n ts h3 h4 h5 h6;rw[hp];clear hp H;go_enter Tryz.func114,Tryz.ntmps114;go_wp2_with fail;go_ret;exact⟨rfl,(af.refl _ _).alloc _⟩
theorem aag{ts:List Tm}(h:Tm.eV ts<=1000000):El ts:=fun x hx w cs hr=>pY x (by have:=Tm.fM hx;omega) w cs hr
theorem nT(k i n ts):(Tm.mk k n i ts).aC=((Tm.mk k n i ts).isAtom || (k == 2 && (Tm.bound n i ts 2 && Tm.cI ts))):=by rw[Tm.aC]
theorem sC(t:Tm):t.wt<=1000000->∀(w:World)(cs:List Value),aw ae w t.az cs->
    Calls Tryz.prog 115 #[.agg cs.toArray] w fun e w'=>e=.returned (.bool t.aC)/\af ae w w':=by
  induction t using Tm.ind with
  |h k n i ts ih=>
   intro hs w cs h;obtain⟨a,cap,rfl,aX,hE⟩:=bg.1 h;simp only[Tm.cU]at hs;have hlen:ts.length<=1000000:=by have:=Tm.aA ts;have:=Tm.eC ts;omega
   have hn:n.length<=1000000:=by omega
   have H:∀ x∈ts,∀(w:World)(cs:List Value),aw ae w x.az cs->Calls Tryz.prog 115 #[.agg cs.toArray] w fun e w'=>e=.returned (.bool x.aC)/\af ae w w':=
     fun x hx w cs h=>ih x hx (by have:=Tm.fM hx;omega) w cs h
   clear ih h;have HA:=Dv (aag (ts:=ts) (by omega)) hlen k i n hn a cap (w.alloc (.cells #[.int .i64 k,.string (B n),.int .i64 i,.slice a ts.length cap] 29)) (hE.on ((af.refl _ w).alloc _));have hp:=nT k i n ts;generalize (Tm.mk k n i ts).aC=r at *
   generalize (Tm.mk k n i ts).isAtom=at' at *
   cases at'
   case true=>
     have HR:=ak hp;clear hp H;go_enter Tryz.func115,Tryz.ntmps115;go_wp2_with fail;refine HA.mono ?_;rintro e w1 ⟨rfl,hU⟩;obtain⟨b0,b1,b2,b3⟩:=(hU.Bk (O:=ae) (fun _ x=>x)).qu (fun x=>x);go_wp2_with fail;go_ret;exact⟨aR (by rw[HR.out];rfl),hU.behind⟩
   rw[Bool.false_or]at hp;cases h2:(k == 2)
   ·rw[h2,Bool.false_and]at hp;have HR:=ak hp;clear hp H;go_enter Tryz.func115,Tryz.ntmps115;go_wp2_with fail;refine HA.mono ?_;rintro e w1 ⟨rfl,hU⟩;obtain⟨b0,b1,b2,b3⟩:=(hU.Bk (O:=ae) (fun _ x=>x)).qu (fun x=>x);go_wp2_with fail;go_ret;exact⟨aR (by rw[HR.out]),hU.behind⟩
   rw[h2,Bool.true_and]at hp;have rh:=rF n i ts 2;cases hb:Tm.bound n i ts 2
   ·rw[hb]at rh;rw[hb,Bool.false_and]at hp;have HB:=fun k i W h=>jT k i 2 n a ts.length cap W hn false h
    have En:=ak rh.symm;have HR:=ak hp;clear rh hb hp H;go_enter Tryz.func115,Tryz.ntmps115;go_wp2_with fail;refine HA.mono ?_;rintro e w1 ⟨rfl,hU⟩;obtain⟨b0,b1,b2,b3⟩:=(hU.Bk (O:=ae) (fun _ x=>x)).qu (fun x=>x);go_wp2_with fail;refine(HB _ _ _ En.out).mono ?_;rintro e w2 ⟨rfl,aL⟩;go_wp2_with fail;go_ret;exact⟨aR (by rw[HR.out]),hU.behind.trans aL (fun _ _ x=>x)⟩
   rw[hb]at rh;rw[hb,Bool.true_and]at hp;have iV:ts.length=2:=by unfold Tm.bound at hb;simp at hb;exact hb.1.2
   obtain⟨x,y,rfl⟩:∃ x y,ts=[x,y]:=by match ts,iV with | [x,y],_=>exact⟨x,y,rfl⟩
   have OI:(0:Nat)<([x,y]:List Tm).length:=by simp
   have rI:(1:Nat)<([x,y]:List Tm).length:=by simp
   obtain⟨b,o,k1,n1,x1,s1,c1,rfl,St,_,p0,p1,p2,p3,hR⟩:=aY hE 0 OI;obtain⟨b',o',k2,n2,x2,s2,c2,e',aar,_,q0,q1,q2,q3,fG⟩:=aY hE 1 rI;simp only[Option.some.injEq,Addr.mk.injEq]at e';obtain⟨rfl,rfl,_⟩:=e';simp only[Nat.zero_mul,Nat.add_zero,Nat.one_mul,List.getElem_cons_zero,List.getElem_cons_succ]at p0 p1 p2 p3 q0 q1 q2 q3 hR fG;simp only[List.length_cons,List.length_nil,Nat.zero_add]at *
   have HB:=fun k i W h=>jT k i 2 n (some ⟨b,o,none⟩) 2 cap W hn true h
   have Hx:=H x (by simp);have Hy:=H y (by simp);have hO:Tm.cI [x,y]=(x.aC && y.aC):=by simp[Tm.cI]
   rw[hO]at hp;have En:=ak rh.symm;have HR:=ak hp;clear rh hb iV hO hp H;generalize x.aC=bx at *
   generalize y.aC=eP at *
   cases bx
   all_goals
     go_enter Tryz.func115,Tryz.ntmps115;go_wp2_with fail;refine HA.mono ?_;rintro e w1 ⟨rfl,hU⟩;obtain⟨b0,b1,b2,b3⟩:=(hU.Bk (O:=ae) (fun _ x=>x)).qu (fun x=>x);have aF:af ae w w1:=hU.behind;go_wp2_with fail;refine(HB _ _ _ En.out).mono ?_;rintro e w2 ⟨rfl,aL⟩;have dY:=aF.trans aL (fun _ _ x=>x);have e0:=aL.cell b0 (fun x=>x);have e1:=aL.cell b1 (fun x=>x);have e2:=aL.cell b2 (fun x=>x);have e3:=aL.cell b3 (fun x=>x);have f0:=dY.cell p0 (fun x=>x);have f1:=dY.cell p1 (fun x=>x);have f2:=dY.cell p2 (fun x=>x);have f3:=dY.cell p3 (fun x=>x);clear b0 b1 b2 b3 p0 p1 p2 p3;go_wp2_with fail;refine(Hx _ _ (hR.on dY)).mono ?_;rintro e w3 ⟨rfl,aZ⟩;have cQ:=dY.trans aZ (fun _ _ x=>x)
   ·go_wp2_with fail;go_ret;exact⟨aR (by rw[HR.out];rfl),cQ⟩
   have g0:=aZ.cell e0 (fun x=>x);have g1:=aZ.cell e1 (fun x=>x);have g2:=aZ.cell e2 (fun x=>x);have g3:=aZ.cell e3 (fun x=>x);have r0:=cQ.cell q0 (fun x=>x);have r1:=cQ.cell q1 (fun x=>x);have r2:=cQ.cell q2 (fun x=>x);have r3:=cQ.cell q3 (fun x=>x);clear e0 e1 e2 e3 q0 q1 q2 q3;go_wp2_with fail;refine(Hy _ _ (fG.on cQ)).mono ?_;rintro e w4 ⟨rfl,bw⟩;go_wp2_with fail;go_ret;exact⟨aR (by rw[HR.out];rfl),cQ.trans bw (fun _ _ x=>x)⟩
end
section
open Go.RowKit Go.LF
theorem G3(k i n ts)(h:(k == 1)=true):(Tm.mk k n i ts).aI=(n == [] && (i == 0 && ts.isEmpty)):=by
  have:k=1:=by simpa using h
  subst this;unfold Tm.aI;split<;>simp_all
  rename_i h2;obtain⟨rfl,rfl,rfl,rfl⟩:=h2;simp
theorem ot(k i n ts)(h:(k == 1)=false)(hb:(k == 2 && Tm.bound n i ts 2)=false):(Tm.mk k n i ts).aI=false:=by
  match ts,hb with
  | [a,b],hb=>unfold Tm.aI;rw[Bool.and_eq_false_iff]at hb;rcases hb with hb |hb<;>simp[hb]
  | [],_=>unfold Tm.aI;simp[h]
  | [_],_=>unfold Tm.aI;simp[h]
  |_ :: _ :: _ :: _,_=>unfold Tm.aI;simp[h]
theorem Hw(k i n x y)(hb:(k == 2 && Tm.bound n i [x,y] 2)=true):(Tm.mk k n i [x,y]).aI=(x.aC && y.aI):=by
  rw[Bool.and_eq_true]at hb;rw[Tm.aI,hb.1,hb.2];simp
theorem CA(t:Tm):t.wt<=1000000->∀(w:World)(cs:List Value),aw ae w t.az cs->
    Calls Tryz.prog 116 #[.agg cs.toArray] w fun e w'=>e=.returned (.bool t.aI)/\af ae w w':=by
  induction t using Tm.ind with
  |h k n i ts ih=>
   intro hs w cs h;obtain⟨a,cap,rfl,aX,hE⟩:=bg.1 h;simp only[Tm.cU]at hs;have hlen:ts.length<=1000000:=by have:=Tm.aA ts;have:=Tm.eC ts;omega
   have hn:n.length<=1000000:=by omega
   have H:∀ x∈ts,∀(w:World)(cs:List Value),aw ae w x.az cs->Calls Tryz.prog 116 #[.agg cs.toArray] w fun e w'=>e=.returned (.bool x.aI)/\af ae w w':=
     fun x hx w cs h=>ih x hx (by have:=Tm.fM hx;omega) w cs h
   have HT:∀ x∈ts,∀(w:World)(cs:List Value),aw ae w x.az cs->Calls Tryz.prog 115 #[.agg cs.toArray] w fun e w'=>e=.returned (.bool x.aC)/\af ae w w':=
     fun x hx w cs h=>sC x (by have:=Tm.fM hx;omega) w cs h
   clear ih h;cases h1:(k == 1)
   case true=>
     have hp:=G3 k i n ts h1;generalize (Tm.mk k n i ts).aI=r at *
     have hz:((ts.length:Int) == 0)=ts.isEmpty:=by cases ts<;>simp;omega
     have HP:=ak hp;have HZ:=ak hz;clear hp hz H HT;go_enter Tryz.func116,Tryz.ntmps116;go_wp2
     all_goals go_ret
     all_goals refine⟨aR ?_,(af.refl _ _).alloc _⟩
     all_goals(clear hE;rw[HP.out,Bool.eq_iff_iff];simp[*])
   cases h2:(k == 2)
   ·rw[ot k i n ts h1 (by rw[h2];rfl)];clear H HT;go_enter Tryz.func116,Tryz.ntmps116;go_wp2
    go_ret;exact⟨rfl,(af.refl _ _).alloc _⟩
   have rh:=rF n i ts 2;cases hb:Tm.bound n i ts 2
   ·rw[hb]at rh;rw[ot k i n ts h1 (by rw[h2,hb];rfl)];have HB:=fun k i W h=>jT k i 2 n a ts.length cap W hn false h
    have En:=ak rh.symm;clear rh hb H HT;go_enter Tryz.func116,Tryz.ntmps116;go_wp2_with fail;refine(HB _ _ _ En.out).mono ?_;rintro e w2 ⟨rfl,aL⟩;go_wp2_with fail;go_ret;exact⟨rfl,aL.behind⟩
   rw[hb]at rh;have iV:ts.length=2:=by unfold Tm.bound at hb;simp at hb;exact hb.1.2
   obtain⟨x,y,rfl⟩:∃ x y,ts=[x,y]:=by match ts,iV with | [x,y],_=>exact⟨x,y,rfl⟩
   have hp:=Hw k i n x y (by rw[h2,hb];rfl);have OI:(0:Nat)<([x,y]:List Tm).length:=by simp
   have rI:(1:Nat)<([x,y]:List Tm).length:=by simp
   obtain⟨b,o,k1,n1,x1,s1,c1,rfl,St,_,p0,p1,p2,p3,hR⟩:=aY hE 0 OI;obtain⟨b',o',k2,n2,x2,s2,c2,e',aar,_,q0,q1,q2,q3,fG⟩:=aY hE 1 rI;simp only[Option.some.injEq,Addr.mk.injEq]at e';obtain⟨rfl,rfl,_⟩:=e';simp only[Nat.zero_mul,Nat.add_zero,Nat.one_mul,List.getElem_cons_zero,List.getElem_cons_succ]at p0 p1 p2 p3 q0 q1 q2 q3 hR fG;simp only[List.length_cons,List.length_nil,Nat.zero_add]at *
   have HB:=fun k i W h=>jT k i 2 n (some ⟨b,o,none⟩) 2 cap W hn true h
   have Hx:=HT x (by simp);have Hy:=H y (by simp);generalize (Tm.mk k n i [x,y]).aI=r at *
   have En:=ak rh.symm;have HR:=ak hp;clear rh hb iV hp H HT;generalize x.aC=bx at *
   generalize y.aI=eP at *
   cases bx
   all_goals
     go_enter Tryz.func116,Tryz.ntmps116;go_wp2_with fail;refine(HB _ _ _ En.out).mono ?_;rintro e w2 ⟨rfl,aL⟩;obtain⟨e0,e1,e2,e3⟩:=(aL.Bk (O:=ae) (fun _ x=>x)).qu (fun x=>x);have dY:af ae w w2:=aL.behind;have f0:=dY.cell p0 (fun x=>x);have f1:=dY.cell p1 (fun x=>x);have f2:=dY.cell p2 (fun x=>x);have f3:=dY.cell p3 (fun x=>x);clear p0 p1 p2 p3;go_wp2_with fail;refine(Hx _ _ (hR.on dY)).mono ?_;rintro e w3 ⟨rfl,aZ⟩;have cQ:=dY.trans aZ (fun _ _ x=>x)
   ·go_wp2_with fail;go_ret;exact⟨aR (by rw[HR.out];rfl),cQ⟩
   have g0:=aZ.cell e0 (fun x=>x);have g1:=aZ.cell e1 (fun x=>x);have g2:=aZ.cell e2 (fun x=>x);have g3:=aZ.cell e3 (fun x=>x);have r0:=cQ.cell q0 (fun x=>x);have r1:=cQ.cell q1 (fun x=>x);have r2:=cQ.cell q2 (fun x=>x);have r3:=cQ.cell q3 (fun x=>x);clear e0 e1 e2 e3 q0 q1 q2 q3;go_wp2_with fail;refine(Hy _ _ (fG.on cQ)).mono ?_;rintro e w4 ⟨rfl,bw⟩;go_wp2_with fail;go_ret;exact⟨aR (by rw[HR.out];rfl),cQ.trans bw (fun _ _ x=>x)⟩
theorem oL(t:Tm)(hs:t.wt<=1000000)(w:World)(cs:List Value)(h:aw ae w t.az cs):
    Calls Tryz.prog 117 #[.agg cs.toArray] w fun e w'=>e=.returned (.bool t.small)/\af ae w w':=by
  have K2:t.size<=1000000:=by have:=Tm.bB t;omega
  have hp:(decide (t.size<=4096) && decide (t.depth<=128))=t.small:=rfl;have HS:=fun w cs h=>wW t K2 w cs h
  have HD:=fun w cs h=>si t K2 w cs h
  obtain⟨k,n,i,ts,a,cap,ht,rfl,aX,hE⟩:=aP h;generalize t.size=sz at *
  generalize t.depth=dp at *
  generalize t.small=sm at *
  have HT:=ak ht;have HP:=ak hp;clear ht hp aX;generalize ts.length=len at *
  go_enter Tryz.func117,Tryz.ntmps117;go_wp2_with fail;refine(HS _ _ (h.new _)).mono ?_;rintro e w1 ⟨rfl,hU⟩;obtain⟨b0,b1,b2,b3⟩:=(hU.Bk (O:=ae) (fun _ x=>x)).qu (fun x=>x);have aF:af ae w w1:=hU.behind;by_cases ee:sz<=4096
  ·go_wp2_with fail;refine(HD _ _ (h.on aF)).mono ?_;rintro e w2 ⟨rfl,aL⟩;go_wp2
   go_ret;exact⟨aR (by rw[<-HP.out,Bool.eq_iff_iff];simp;omega),aF.trans aL (fun _ _ x=>x)⟩
  go_wp2_with fail;go_ret;exact⟨aR (by rw[<-HP.out,Bool.eq_iff_iff];simp;omega),aF⟩
end
section
open Go.RowKit Go.LF
theorem wm(t:Tm)(hs:t.wt<=1000000)(w:World)(cs:List Value)(h:aw ae w t.az cs):
    Calls Tryz.prog 131 #[.agg cs.toArray] w fun e w'=>e=.returned (.bool (t.aI && t.small))/\af ae w w':=by
  have HK:=fun w cs h=>CA t hs w cs h
  have HS:=fun w cs h=>oL t hs w cs h
  obtain⟨k,n,i,ts,a,cap,ht,rfl,aX,hE⟩:=aP h;generalize t.aI=bk at *
  generalize t.small=sm at *
  have HT:=ak ht;clear ht aX;generalize ts.length=len at *
  go_enter Tryz.func131,Tryz.ntmps131;go_wp2_with fail;refine(HK _ _ (h.new _)).mono ?_;rintro e w1 ⟨rfl,hU⟩;obtain⟨b0,b1,b2,b3⟩:=b8 hU;have aF:af ae w w1:=hU.behind;cases bk
  ·go_wp2_with fail;go_ret;exact⟨rfl,aF⟩
  go_wp2_with fail;refine(HS _ _ (h.on aF)).mono ?_;rintro e w2 ⟨rfl,aL⟩;go_wp2
  go_ret;exact⟨rfl,aF.and aL⟩
theorem pZ(t:Tm)(hs:t.wt<=1000000)(w:World)(cs:List Value)(h:aw ae w t.az cs):
    Calls Tryz.prog 130 #[.agg cs.toArray] w fun e w'=>e=.returned (.bool (t.aC && t.small))/\af ae w w':=by
  have HK:=fun w cs h=>sC t hs w cs h
  have HS:=fun w cs h=>oL t hs w cs h
  obtain⟨k,n,i,ts,a,cap,ht,rfl,aX,hE⟩:=aP h;generalize t.aC=bk at *
  generalize t.small=sm at *
  have HT:=ak ht;clear ht aX;generalize ts.length=len at *
  go_enter Tryz.func130,Tryz.ntmps130;go_wp2_with fail;refine(HK _ _ (h.new _)).mono ?_;rintro e w1 ⟨rfl,hU⟩;obtain⟨b0,b1,b2,b3⟩:=b8 hU;have aF:af ae w w1:=hU.behind;cases bk
  ·go_wp2_with fail;go_ret;exact⟨rfl,aF⟩
  go_wp2_with fail;refine(HS _ _ (h.on aF)).mono ?_;rintro e w2 ⟨rfl,aL⟩;go_wp2
  go_ret;exact⟨rfl,aF.and aL⟩
theorem qX(t:Tm)(hs:t.wt<=1000000)(w:World)(cs:List Value)(h:aw ae w t.az cs):
    Calls Tryz.prog 70 #[.agg cs.toArray] w fun e w'=>e=.returned (.bool (t.isObj && t.small))/\af ae w w':=by
  have HK:=fun w cs h=>pY t hs w cs h
  have HS:=fun w cs h=>oL t hs w cs h
  obtain⟨k,n,i,ts,a,cap,ht,rfl,aX,hE⟩:=aP h;generalize t.isObj=bk at *
  generalize t.small=sm at *
  have HT:=ak ht;clear ht aX;generalize ts.length=len at *
  go_enter Tryz.func70,Tryz.ntmps70;go_wp2_with fail;refine(HK _ _ (h.new _)).mono ?_;rintro e w1 ⟨rfl,hU⟩;obtain⟨b0,b1,b2,b3⟩:=b8 hU;have aF:af ae w w1:=hU.behind;cases bk
  ·go_wp2_with fail;go_ret;exact⟨rfl,aF⟩
  go_wp2_with fail;refine(HS _ _ (h.on aF)).mono ?_;rintro e w2 ⟨rfl,aL⟩;go_wp2
  go_ret;exact⟨rfl,aF.and aL⟩
theorem cG(t:Tm)(hs:t.wt<=1000000)(w:World)(cs:List Value)(h:aw ae w t.az cs):
    Calls Tryz.prog 50 #[.agg cs.toArray] w fun e w'=>e=.returned (.int .i64 t.wf)/\af ae w w':=by
  have HO:=fun w cs h=>pY t hs w cs h
  have HY:=fun w cs h=>sC t hs w cs h
  have HK:=fun w cs h=>CA t hs w cs h
  have HS:=fun w cs h=>oL t hs w cs h
  have hp:(if !t.isObj && !t.aC && !t.aI then 1 else if !t.small then 2 else 0)=t.wf:=rfl;obtain⟨k,n,i,ts,a,cap,ht,rfl,aX,hE⟩:=aP h;generalize t.isObj=bo at *
  generalize t.aC=bt at *
  generalize t.aI=bk at *
  generalize t.small=sm at *
  generalize t.wf=r at *
  have HT:=ak ht;have HP:=ak hp;clear ht aX hp;generalize ts.length=len at *
  have fin:∀ w1,af ae w w1->w1.cell? ⟨w.heap.size,0,none⟩=some (.int .i64 k)/\w1.cell? ⟨w.heap.size,1,none⟩=some (.string (B n))/\w1.cell? ⟨w.heap.size,2,none⟩=some (.int .i64 i)/\w1.cell? ⟨w.heap.size,3,none⟩=some (.slice a len cap)->
      Calls Tryz.prog 117 #[.agg #[.int .i64 k,.string (B n),.int .i64 i,.slice a len cap]] w1 fun e w'=>e=.returned (.bool sm)/\af ae w w':=
    fun w1 hU _=>(HS _ _ (h.on hU)).mono fun _ _ ⟨he,aL⟩=>⟨he,hU.and aL⟩
  have FIN:=ak fin;clear fin;cases bo
  ·cases bt
   ·cases bk
    all_goals
      go_enter Tryz.func50,Tryz.ntmps50;go_wp2_with fail;refine(HO _ _ (h.new _)).mono ?_;rintro e w1 ⟨rfl,hU⟩;have B1:=b8 hU;obtain⟨b0,b1,b2,b3⟩:=B1;have aF:af ae w w1:=hU.behind;go_wp2_with fail;refine(HY _ _ (h.on aF)).mono ?_;rintro e w2 ⟨rfl,aL⟩;have B2:=E8 aL ⟨b0,b1,b2,b3⟩;obtain⟨c0,c1,c2,c3⟩:=B2;have dY:=aF.and aL;go_wp2_with fail;refine(HK _ _ (h.on dY)).mono ?_;rintro e w3 ⟨rfl,aZ⟩;have B3:=E8 aZ ⟨c0,c1,c2,c3⟩;obtain⟨d0,d1,d2,d3⟩:=B3;have cQ:=dY.and aZ;go_wp2_with fail
    ·go_ret;exact⟨bd (by rw[<-HP.out];rfl),cQ⟩
    refine(FIN.out _ cQ ⟨d0,d1,d2,d3⟩).mono ?_;rintro e w4 ⟨rfl,bw⟩;cases sm
    all_goals
      go_wp2
      go_ret;exact⟨bd (by rw[<-HP.out];rfl),bw⟩
   go_enter Tryz.func50,Tryz.ntmps50;go_wp2_with fail;refine(HO _ _ (h.new _)).mono ?_;rintro e w1 ⟨rfl,hU⟩;have B1:=b8 hU;obtain⟨b0,b1,b2,b3⟩:=B1;have aF:af ae w w1:=hU.behind;go_wp2_with fail;refine(HY _ _ (h.on aF)).mono ?_;rintro e w2 ⟨rfl,aL⟩;have B2:=E8 aL ⟨b0,b1,b2,b3⟩;obtain⟨c0,c1,c2,c3⟩:=B2;have dY:=aF.and aL;go_wp2_with fail;refine(FIN.out _ dY ⟨c0,c1,c2,c3⟩).mono ?_;rintro e w4 ⟨rfl,bw⟩;cases sm
   all_goals
     go_wp2
     go_ret;exact⟨bd (by rw[<-HP.out];cases bk<;>rfl),bw⟩
  go_enter Tryz.func50,Tryz.ntmps50;go_wp2_with fail;refine(HO _ _ (h.new _)).mono ?_;rintro e w1 ⟨rfl,hU⟩;have B1:=b8 hU;obtain⟨b0,b1,b2,b3⟩:=B1;have aF:af ae w w1:=hU.behind;go_wp2_with fail;refine(FIN.out _ aF ⟨b0,b1,b2,b3⟩).mono ?_;rintro e w4 ⟨rfl,bw⟩;cases sm
  all_goals
    go_wp2
    go_ret;exact⟨bd (by rw[<-HP.out];cases bt<;>cases bk<;>rfl),bw⟩
end
end Go.Proofs.YthgmimncdjhgnaaGreatDoor
