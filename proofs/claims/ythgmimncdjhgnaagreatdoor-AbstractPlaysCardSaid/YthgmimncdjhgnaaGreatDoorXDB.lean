/- Ge rO simple types: VH, depth. -/
import Derived.Test.YthgmimncdjhgnaaGreatDoorXCF
set_option maxRecDepth 100000
set_option maxHeartbeats 4000000
namespace Go.Proofs.YthgmimncdjhgnaaGreatDoor
section
open Go.RowKit Go.LF
theorem Fz(t:Sm):t.size<=1000000->∀(w:World)(cs:List Value),aw ae w t.az cs->
    Calls Tryz.prog 216 #[.agg cs.toArray] w fun e w'=>e=.returned (.int .i64 t.size)/\af ae w w':=by
  induction t using Sm.ind with
  |h f ts ih=>
   intro hs w cs h;obtain⟨a,cap,rfl,aX,hE⟩:=ig.1 h;have hlen:=Sm.aA ts;have FW:=Sm.bQ ts;simp only[Sm.aM]at hs;obtain⟨w1,aF⟩:∃ w1,w1=w.alloc (.cells #[.string (B f),.slice a ts.length cap] 115):=⟨_,rfl⟩;have aH:af ae w w1:=by rw[aF];exact(af.refl ae w).alloc _
   have jA:bK w1 w.heap.size (.string (B f)) (.slice a ts.length cap) 115:=by rw[aF];exact bK.av rfl
   have kE:=ak aF;clear aF h;obtain⟨b0,b1⟩:=jA.cells;skip;go_enter Tryz.func216,Tryz.ntmps216;go_wp2_with fail;rw[<-kE.out];go_loopw [3,9] (fun v3 v wr=>∃ j:Nat,v=.int .i64 j/\j<=ts.length/\v3=.int .i64 (1+Sm.aD (ts.take j))/\af ae w1 wr) (fun _ v _=>ts.length - (intOf v).toNat)
   case atStart=>exact⟨0,rfl,Nat.zero_le _,rfl,af.refl _ _⟩
   obtain⟨j,rfl,hj,rfl,hU⟩:=hrel;clear b0 b1;have hw:=aH.and hU;have UY:=jA.kept hU;obtain⟨b0,b1⟩:=UY.cells;have j0:(0:Int)<=(j:Int):=by omega
   have jb:(j:Int)<=2000000:=by omega
   have OG:=Sm.bW ts j;have K4:=Sm.dT ts j;skip;by_cases aB:j<ts.length
   ·obtain⟨b,o,n1,s1,cp,rfl,hb,_,p0,p1,eY⟩:=kV (hE.on hw) j aB;have j1:(j:Int)<(ts.length:Int):=by omega
    have Bv:=Sm.aK (List.getElem_mem aB);have yz:=Sm.dm ts[j];have key:=fun W(hW:af ae wr W)=>ih _ (List.getElem_mem aB) (by omega) W _ (eY.on hW)
    have PK:Sm.aD (ts.take j)+ts[j].size<=Sm.aD ts:=by rw[<-Sm.bJ ts j aB];exact Sm.bW ts (j+1)
    generalize ts[j].args.length=el at *
    go_wp2_with fail;refine(key _ ((af.refl ae wr).alloc _)).mono ?_;rintro e w5 ⟨rfl,ba⟩;go_wp2_with fail;go_roundw
    case rel=>
      refine⟨j+1,by go_num,by omega,int_eq ?_,(hU.alloc _).and ba⟩;rw[Sm.bJ ts j aB];omega
    (simp[intOf];omega)
   have sA:¬(j:Int)<(ts.length:Int):=by omega
   have tR:ts.take j=ts:=List.take_of_length_le (by omega);rw[tR]at OG K4 ⊢;go_wp2_with fail;go_ret;exact⟨bd (by first |omega |(rw[Sm.aM];omega)),hw⟩
def Sm.cR(g:Sm->Nat):List Sm->Nat
  | []=>0
  |t :: ts=>max (g t) (Sm.cR g ts)
theorem Sm.tM(g:Sm->Nat)(a b:List Sm):Sm.cR g (a++b)=max (Sm.cR g a) (Sm.cR g b):=by
  induction a with
  |nil=>simp[Sm.cR]
  |cons t ts ih=>simp[Sm.cR,ih]
theorem Sm.qm(g:Sm->Nat)(l:List Sm)(j:Nat)(h:j<l.length):Sm.cR g (l.take (j+1))=max (Sm.cR g (l.take j)) (g l[j]):=by
  rw[List.take_succ_eq_append_getElem h,Sm.tM];simp[Sm.cR]
theorem Sm.Cv(g:Sm->Nat)(l:List Sm)(n:Nat)(h:∀ t∈l,g t<=n):Sm.cR g l<=n:=by
  induction l with
  |nil=>simp[Sm.cR]
  |cons t ts ih=>have:=h t (by simp);have:=ih (fun t ht=>h t (by simp[ht]));simp only[Sm.cR];omega
theorem Sm.wT(l:List Sm):Sm.cR Sm.depth l=Sm.aQ l:=by
  induction l with
  |nil=>simp[Sm.cR,Sm.aQ]
  |cons t ts ih=>simp[Sm.cR,Sm.aQ,ih]
theorem Ed(gf:FuncId)(g:Sm->Nat)(f:List UInt8)(ts:List Sm)(hlen:ts.length<=1000000)(ym:∀ t∈ts,g t<=1000000)
    (ih:∀ x∈ts,∀(w:World)(cs:List Value),aw ae w x.az cs->Calls Tryz.prog gf #[.agg cs.toArray] w fun e w'=>e=.returned (.int .i64 (g x))/\af ae w w')
    (hg:∀ args w,(callFunc gf args).run Tryz.prog w=.ok (.enter gf args) w) (a:Option Addr) (cap:Nat) (w:World) (hE:ai ae w 2 (ts.map Sm.az) a 0):
    Calls Tryz.prog 223 #[.agg #[.string (B f),.slice a ts.length cap],.func (.func gf) #[] #[]] w fun e w'=>e=.returned (.int .i64 (Sm.cR g ts))/\af ae w w':=by
  obtain⟨w1,aF⟩:∃ w1,w1=w.alloc (.cells #[.string (B f),.slice a ts.length cap] 115):=⟨_,rfl⟩;have aH:af ae w w1:=by rw[aF];exact(af.refl ae w).alloc _
  have jA:bK w1 w.heap.size (.string (B f)) (.slice a ts.length cap) 115:=by rw[aF];exact bK.av rfl
  have kE:=ak aF;clear aF;obtain⟨b0,b1⟩:=jA.cells;go_enter Tryz.func223,Tryz.ntmps223;go_wp2_with fail;rw[<-kE.out];go_loopw [5,11] (fun v3 v wr=>∃ j:Nat,v=.int .i64 j/\j<=ts.length/\v3=.int .i64 (Sm.cR g (ts.take j))/\af ae w1 wr) (fun _ v _=>ts.length - (intOf v).toNat)
  case atStart=>exact⟨0,rfl,Nat.zero_le _,rfl,af.refl _ _⟩
  obtain⟨j,rfl,hj,rfl,hU⟩:=hrel;clear b0 b1;have hw:=aH.and hU;have j0:(0:Int)<=(j:Int):=by omega
  have jb:(j:Int)<=2000000:=by omega
  have hgj:Sm.cR g (ts.take j)<=1000000:=Sm.Cv g _ _ (fun t ht=>ym t (List.mem_of_mem_take ht));by_cases aB:j<ts.length
  ·obtain⟨b,o,n1,s1,cp,rfl,hb,_,p0,p1,eY⟩:=kV (hE.on hw) j aB;have j1:(j:Int)<(ts.length:Int):=by omega
   have yz:=ym _ (List.getElem_mem aB);have key:=fun W(hW:af ae wr W)=>ih _ (List.getElem_mem aB) W _ (eY.on hW)
   have dw:=Sm.qm g ts j aB;generalize ts[j].args.length=el at *
   generalize g ts[j]=x at *
   generalize Sm.cR g (ts.take j)=y at *
   have jZ:=ak dw;clear dw;go_wp2_with fail;refine(key _ ((af.refl ae wr).alloc _)).mono ?_;rintro e w5 ⟨rfl,ba⟩;go_wp2_with fail;go_roundw
   case rel=>
     refine⟨j+1,by go_num,by omega,int_eq ?_,(hU.alloc _).and ba⟩;rw[jZ.out];omega
   (simp[intOf];omega)
  have sA:¬(j:Int)<(ts.length:Int):=by omega
  have tR:ts.take j=ts:=List.take_of_length_le (by omega);rw[tR]at hgj ⊢;go_wp2_with fail;go_ret;exact⟨rfl,hw⟩
theorem Ek(t:Sm):t.size<=1000000->∀(w:World)(cs:List Value),aw ae w t.az cs->
    Calls Tryz.prog 217 #[.agg cs.toArray] w fun e w'=>e=.returned (.int .i64 t.depth)/\af ae w w':=by
  induction t using Sm.ind with
  |h f ts ih=>
   intro hs w cs h;obtain⟨a,cap,rfl,aX,hE⟩:=ig.1 h;have hlen:=Sm.aA ts;have FW:=Sm.bQ ts;simp only[Sm.aM]at hs
   have key:=fun W(hW:af ae w W)=>Ed 217 Sm.depth f ts (by omega) (fun t ht=>by have:=Sm.dm t;have:=Sm.aK ht;omega) (fun x hx=>ih x hx (by have:=Sm.aK hx;omega))
     (enters_of Tryz.func217 (by kernel_rfl) rfl) a cap W (hE.on hW)
   rw[Sm.wT]at key;have hd:(Sm.mk f ts).depth=Sm.aQ ts+1:=Sm.cD f ts;rw[hd];generalize Sm.aQ ts=d at *
   clear ih h hE hlen;go_enter Tryz.func217,Tryz.ntmps217;go_wp2_with fail;refine(key _ ((af.refl ae w).alloc _)).mono ?_;rintro e w5 ⟨rfl,ba⟩;go_wp2_with fail;go_ret;exact⟨bd (by omega),((af.refl ae w).alloc _).and ba⟩
end
section
open Go.RowKit Go.LF
def Vb(b:Bool)(e:Ending):Prop:=∃ m:Int,e=.returned (.int .i64 m)/\decide (0<=m)=b
theorem Cy{ts:List Sm}(g:FuncId)(K:Nat)(p:Sm->Bool)(hlen:ts.length<=1000000)(w:World)
    (H:∀ x∈ts,∀(W:World)(cs:List Value),af ae w W->aw ae W x.az cs->Calls Tryz.prog g #[.agg cs.toArray,.pointer (some ⟨K,0,none⟩)] W fun e w'=>e=.returned (.bool (p x))/\af ae W w')
    (hg:∀ args w,(callFunc g args).run Tryz.prog w=.ok (.enter g args) w)
    (a:Option Addr) (cap:Nat) (hE:ai ae w 2 (ts.map Sm.az) a 0):
    Calls Tryz.prog 222 #[.slice a ts.length cap,.func (.func g) #[] #[.pointer (some ⟨K,0,none⟩)]] w fun e w'=>
      Vb (ts.any p) e/\af ae w w':=by
  go_enter Tryz.func222,Tryz.ntmps222;go_wp2_with fail
  go_loopw [8] (fun v wr=>∃ j:Nat,j<=ts.length/\v=.int .i64 j/\(ts.take j).any p=false/\af ae w wr)
    (fun v _=>ts.length - (intOf v).toNat)
  case atStart=>exact⟨0,Nat.zero_le _,rfl,rfl,af.refl _ _⟩
  obtain⟨j,hj,rfl,hA,hU⟩:=hrel;have HA:=ak hA;clear hA;by_cases aB:j<ts.length
  ·obtain⟨b,o,n1,s1,c1,rfl,hb,_,tw,s5,hR⟩:=kV (hE.on hU) j aB;have H1:=H _ (List.getElem_mem aB) _ _ hU hR
   have hT:(ts.take (j+1)).any p=((ts.take j).any p || p ts[j]):=by
     rw[List.take_succ_eq_append_getElem aB];simp only[List.any_append,List.any_cons,List.any_nil,Bool.or_false]
   have hM:p ts[j]=true->ts.any p=true:=fun h=>List.any_eq_true.2 ⟨_,List.getElem_mem aB,h⟩
   rw[HA.out]at hT;have HT:=ak hT;have HM:=ak hM;clear hT hM;generalize p ts[j]=b at *
   generalize ts[j].args.length=el at *
   have j1:(j:Int)<(ts.length:Int):=by omega
   cases b
   all_goals
     go_wp2_with fail;refine H1.mono ?_;rintro e w1 ⟨rfl,aH⟩;go_wp2
   ·go_roundw;case rel=>exact⟨j+1,by omega,by go_num,by rw[HT.out];rfl,hU.and aH⟩
    simp[intOf];omega
   go_ret;exact⟨⟨j,rfl,by rw[HM.out (by trivial)];simp⟩,hU.and aH⟩
  have jR:ts.take j=ts:=List.take_of_length_le (by omega);have mx:=HA.out;rw[jR]at mx;clear HA jR;have HA:=ak mx;clear mx;go_wp2
  go_ret;exact⟨⟨-1,rfl,by rw[HA.out];rfl⟩,hU⟩
theorem vj{ts:List Sm}(g:FuncId)(K:Nat)(p:Sm->Bool)(hlen:ts.length<=1000000)(w:World)
    (H:∀ x∈ts,∀(W:World)(cs:List Value),af ae w W->aw ae W x.az cs->Calls Tryz.prog g #[.agg cs.toArray,.pointer (some ⟨K,0,none⟩)] W fun e w'=>e=.returned (.bool (p x))/\af ae W w')
    (hg:∀ args w,(callFunc g args).run Tryz.prog w=.ok (.enter g args) w)
    (a:Option Addr) (cap:Nat) (hE:ai ae w 2 (ts.map Sm.az) a 0):
    Calls Tryz.prog 214 #[.slice a ts.length cap,.func (.func g) #[] #[.pointer (some ⟨K,0,none⟩)]] w fun e w'=>
      e=.returned (.bool (ts.any p))/\af ae w w':=by
  have H1:=Cy g K p hlen w H hg a cap hE;clear H;go_enter Tryz.func214,Tryz.ntmps214;go_wp2_with fail;refine H1.mono ?_;rintro e w1 ⟨⟨m,rfl,hm⟩,hU⟩;have HM:=ak hm;clear hm H1;go_wp2
  go_ret;exact⟨aR HM.out,hU⟩
theorem Mj{W:World}{b:Nat}{v:Value}{T:TypeId}{fr:Nat×Nat}(h:W.heap[b]? =some (.cells #[v] T fr)):W.cell? ⟨b,0,none⟩=some v:=by simp[World.cell?,h]
abbrev uA(K:Nat)(W:World):Prop:=W.cell? ⟨K,0,none⟩=some (.func (.func 213) #[] #[.pointer (some ⟨K,0,none⟩)])
theorem Eo(K:Nat)(x:Sm)(w:World)(cs:List Value)(hK:uA K w)
    (H:∀(W:World),af ae w W->Calls Tryz.prog 213 #[.agg cs.toArray,.pointer (some ⟨K,0,none⟩)] W fun e w'=>e=.returned (.bool x.form)/\af ae W w')
    (h:aw ae w x.az cs):
    Calls Tryz.prog 215 #[.agg cs.toArray,.pointer (some ⟨K,0,none⟩)] w fun e w'=>e=.returned (.bool (!x.form))/\af ae w w':=by
  obtain⟨f,ts,a,cap,rfl,rfl,aX,_⟩:=oC h;generalize (Sm.mk f ts).form=b at *
  have J4:uA K (w.alloc (.cells #[.string (B f),.slice a ts.length cap] 115)):=((af.refl ae w).alloc _).cell hK (fun x=>x);have s9:=Tryz.call213;go_enter Tryz.func215,Tryz.ntmps215;go_wp2_with fail;refine(H _ ((af.refl ae w).alloc _)).mono ?_;rintro e w1 ⟨rfl,hU⟩;go_wp2
  go_ret;exact⟨rfl,((af.refl ae w).alloc _).and hU⟩
theorem IE(ts:List Sm):(!ts.any fun x=>!x.form)=Sm.kP ts:=by rw[Sm.II,Bool.eq_iff_iff];simp
theorem Jt(t:Sm):t.wt<=1000000->∀(K:Nat)(w:World)(cs:List Value),uA K w->aw ae w t.az cs->
    Calls Tryz.prog 213 #[.agg cs.toArray,.pointer (some ⟨K,0,none⟩)] w fun e w'=>e=.returned (.bool t.form)/\af ae w w':=by
  induction t using Sm.ind with
  |h f ts ih=>
   intro hs K w cs hK h;obtain⟨a,cap,rfl,aX,hE⟩:=ig.1 h;have hlen:=Sm.aA ts;have CG:=Sm.eC ts;simp only[Sm.cU]at hs;obtain⟨r,hr⟩:∃ r,r=(Sm.mk f ts).form:=⟨_,rfl⟩;rw[<-hr];rw[Sm.Ij,<-IE]at hr;have HN:=fun w=>mh f w (by omega)
   have N7:Sm.DV f=(f == [116,121,112,101]|| isName f):=rfl
   have HC:=fun W(hU:af ae w W)=>vj (ts:=ts) 215 K (fun x=>!x.form) (by omega) W
     (fun x hx W' cs Yh hR=>Eo K x W' cs ((hU.and Yh).cell hK (fun x=>x)) (fun W2 x6=>ih x hx (by have:=Sm.fM hx;omega) K W2 cs (((hU.and Yh).and x6).cell hK (fun x=>x)) (hR.on x6)) hR)
     (enters_of Tryz.func215 (by kernel_rfl) rfl) a cap (hE.on hU)
   generalize (ts.any fun x=>!x.form)=c at *
   generalize isName f=nb at *
   obtain⟨tb,rK⟩:∃ tb,tb=(f == [116,121,112,101]):=⟨_,rfl⟩;rw[<-rK]at N7;have HR:=ak (And.intro hr N7);have Xl:=ak rK;clear hr N7 rK h ih hlen CG hs;obtain⟨w1,aF⟩:∃ w1,w1=w.alloc (.cells #[.string (B f),.slice a ts.length cap] 115):=⟨_,rfl⟩;have aH:af ae w w1:=by rw[aF];exact(af.refl ae w).alloc _
   have jA:bK w1 w.heap.size (.string (B f)) (.slice a ts.length cap) 115:=by rw[aF];exact bK.av rfl
   have kE:=ak aF;clear aF;obtain⟨b0,b1⟩:=jA.cells;have hmf:∀(fn:Fn)(first cap:Array Value)(w:World),(Instr.makeFunc fn first cap).run Tryz.prog w=.ok (.func fn first cap) w:=fun _ _ _ _=>rfl
   cases nb
   ·cases tb
    ·have hnf:(f == [116,121,112,101])=false:=Xl.out.symm;go_enter Tryz.func213,Tryz.ntmps213;go_wp2_with fail;rw[<-kE.out];refine(HN w1).mono ?_;rintro e w2 ⟨rfl,rfl⟩;go_wp2_with fail;go_ret;exact⟨aR (by rw[HR.out.1,HR.out.2];rfl),aH⟩
    obtain rfl:f=[116,121,112,101]:=by simpa using Xl.out.symm
    go_enter Tryz.func213,Tryz.ntmps213;go_wp2_with fail;rw[<-kE.out];refine(HN w1).mono ?_;rintro e w2 ⟨rfl,rfl⟩;go_wp2_with fail;refine(HC _ aH).mono ?_;rintro e w3 ⟨rfl,aZ⟩;go_wp2_with fail;go_ret;exact⟨aR (by rw[HR.out.1,HR.out.2];rfl),aH.and aZ⟩
   go_enter Tryz.func213,Tryz.ntmps213;go_wp2_with fail;rw[<-kE.out];refine(HN w1).mono ?_;rintro e w2 ⟨rfl,rfl⟩;go_wp2_with fail;refine(HC _ aH).mono ?_;rintro e w3 ⟨rfl,aZ⟩;go_wp2_with fail;go_ret;exact⟨aR (by rw[HR.out.1,HR.out.2];simp),aH.and aZ⟩
theorem NI(t:Sm)(hs:t.wt<=1000000)(w:World)(cs:List Value)(h:aw ae w t.az cs):
    Calls Tryz.prog 204 #[.agg cs.toArray] w fun e w'=>e=.returned (.int .i64 t.wf)/\af ae w w':=by
  have ee:=Sm.bB t;have hdz:=Sm.dm t;have HF:=fun K w' hK h=>Jt t hs K w' cs hK h
  have HZ:=fun w' h=>Fz t (by omega) w' cs h
  have HD:=fun w' h=>Ek t (by omega) w' cs h
  obtain⟨f,ts,a,cap,ht,rfl,aX,hE⟩:=oC h;obtain⟨r,hr⟩:∃ r,r=t.wf:=⟨_,rfl⟩;rw[<-hr];unfold Sm.wf at hr;generalize t.form=fb at *
  generalize t.size=sz at *
  generalize t.depth=dp at *
  have HR:=ak hr;clear hr ht hE;generalize ts.length=len at *
  obtain⟨w1,aF⟩:∃ w1,w1=(w.alloc (.cells #[.string (B f),.slice a len cap] 115)).alloc (.cells #[.func (.func 213) #[] #[.pointer (some ⟨w.heap.size+1,0,none⟩)]] 206):=⟨_,rfl⟩;have aH:af ae w w1:=by rw[aF];exact((af.refl ae w).alloc _).alloc _
  have jA:bK w1 w.heap.size (.string (B f)) (.slice a len cap) 115:=by rw[aF];exact(bK.av rfl).kept ((af.refl ae _).alloc _)
  have J4:uA (w.heap.size+1) w1:=by
    have:=heap_alloc_new (w.alloc (.cells #[.string (B f),.slice a len cap] 115)) (.cells #[.func (.func 213) #[] #[.pointer (some ⟨w.heap.size+1,0,none⟩)]] 206);rw[World.size_alloc]at this;rw[aF];exact Mj this
  have kE:=ak aF;clear aF;have hmf:∀(fn:Fn)(first cap:Array Value)(w:World),(Instr.makeFunc fn first cap).run Tryz.prog w=.ok (.func fn first cap) w:=fun _ _ _ _=>rfl
  have s9:=Tryz.call213;cases fb
  ·go_enter Tryz.func204,Tryz.ntmps204;go_wp2_with fail;rw[<-kE.out];refine(HF _ w1 J4 (h.on aH)).mono ?_;rintro e w2 ⟨rfl,aL⟩;go_wp2_with fail;go_ret;exact⟨bd (by rw[HR.out];rfl),aH.and aL⟩
  by_cases h1:4096<sz
  ·have h1':(4096:Int)<(sz:Int):=by omega
   go_enter Tryz.func204,Tryz.ntmps204;go_wp2_with fail;rw[<-kE.out];refine(HF _ w1 J4 (h.on aH)).mono ?_;rintro e w2 ⟨rfl,aL⟩;have zG:=jA.kept aL;obtain⟨b0,b1⟩:=zG.cells;go_wp2_with fail;refine(HZ w2 (h.on (aH.and aL))).mono ?_;rintro e w3 ⟨rfl,aZ⟩;go_wp2_with fail;go_ret;exact⟨bd (by rw[HR.out];simp[h1]),(aH.and aL).and aZ⟩
  have h1':¬(4096:Int)<(sz:Int):=by omega
  by_cases h2:128<dp
  ·have VS:(128:Int)<(dp:Int):=by omega
   go_enter Tryz.func204,Tryz.ntmps204;go_wp2_with fail;rw[<-kE.out];refine(HF _ w1 J4 (h.on aH)).mono ?_;rintro e w2 ⟨rfl,aL⟩;have zG:=jA.kept aL;obtain⟨b0,b1⟩:=zG.cells;go_wp2_with fail;refine(HZ w2 (h.on (aH.and aL))).mono ?_;rintro e w3 ⟨rfl,aZ⟩;have Qs:=zG.kept aZ;clear b0 b1;obtain⟨b0,b1⟩:=Qs.cells;go_wp2_with fail;refine(HD w3 (h.on ((aH.and aL).and aZ))).mono ?_;rintro e w4 ⟨rfl,bw⟩;go_wp2_with fail;go_ret;exact⟨bd (by rw[HR.out];simp[h2]),((aH.and aL).and aZ).and bw⟩
  have VS:¬(128:Int)<(dp:Int):=by omega
  go_enter Tryz.func204,Tryz.ntmps204;go_wp2_with fail;rw[<-kE.out];refine(HF _ w1 J4 (h.on aH)).mono ?_;rintro e w2 ⟨rfl,aL⟩;have zG:=jA.kept aL;obtain⟨b0,b1⟩:=zG.cells;go_wp2_with fail;refine(HZ w2 (h.on (aH.and aL))).mono ?_;rintro e w3 ⟨rfl,aZ⟩;have Qs:=zG.kept aZ;clear b0 b1;obtain⟨b0,b1⟩:=Qs.cells;go_wp2_with fail;refine(HD w3 (h.on ((aH.and aL).and aZ))).mono ?_;rintro e w4 ⟨rfl,bw⟩;go_wp2_with fail;go_ret;exact⟨bd (by rw[HR.out];simp[h1,h2]),((aH.and aL).and aZ).and bw⟩
end
end Go.Proofs.YthgmimncdjhgnaaGreatDoor
