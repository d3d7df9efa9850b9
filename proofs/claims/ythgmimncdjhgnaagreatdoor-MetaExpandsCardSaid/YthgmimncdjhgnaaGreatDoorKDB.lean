/- The program's simple types: Size, depth. -/
import Derived.Test.YthgmimncdjhgnaaGreatDoorKCB
import Derived.Test.YthgmimncdjhgnaaGreatDoorKCF
set_option maxRecDepth 100000
set_option maxHeartbeats 4000000
namespace Go.Proofs.YthgmimncdjhgnaaGreatDoor
section
open Go.RowKit Go.LF
theorem zE8(t:Sm):t.size<=1000000->∀(w:World)(cs:List Value),zM zC w t.zN cs->
    Calls Tryz.prog 216 #[.agg cs.toArray] w fun e w'=>e=.returned (.int .i64 t.size)/\zD zC w w':=by
  induction t using Sm.ind with
  |h f ts ih=>
   intro hs w cs h
   obtain⟨a,cap,rfl,hcap,hE⟩:=ZF.1 h
   have hlen:=Sm.zO ts
   have hds:=Sm.zo ts
   simp only[Sm.zS]at hs
   obtain⟨w1,hw1⟩:∃ w1,w1=w.alloc (.cells #[.string (B f),.slice a ts.length cap] 115):=⟨_,rfl⟩
   have hU1:zD zC w w1:=by rw[hw1];exact(zD.refl zC w).alloc _
   have hB1:zm w1 w.heap.size (.string (B f)) (.slice a ts.length cap) 115:=by rw[hw1];exact zm.zL rfl
   have HW1:=zH hw1
   clear hw1 h
   obtain⟨b0,b1⟩:=hB1.cells
   skip
   go_enter Tryz.func216,Tryz.ntmps216
   go_wp2_with fail
   rw[<-HW1.out]
   go_loopw [3,9] (fun v3 v wr=>∃ j:Nat,v=.int .i64 j/\j<=ts.length/\v3=.int .i64 (1+Sm.zP (ts.take j))/\zD zC w1 wr) (fun _ v _=>ts.length - (intOf v).toNat)
   case atStart=>exact⟨0,rfl,Nat.zero_le _,rfl,zD.refl _ _⟩
   case round=>
     obtain⟨j,rfl,hj,rfl,hU⟩:=hrel
     clear b0 b1
     have hw:=hU1.and hU
     have hBr:=hB1.kept hU
     obtain⟨b0,b1⟩:=hBr.cells
     have j0:(0:Int)<=(j:Int):=by omega
     have jb:(j:Int)<=2000000:=by omega
     have hdj:=Sm.zp ts j
     have hdj2:=Sm.yj ts j
     skip
     by_cases hlt:j<ts.length
     ·obtain⟨b,o,n1,s1,cp,rfl,hb,_,p0,p1,hRp⟩:=Zz (hE.on hw) j hlt
      have j1:(j:Int)<(ts.length:Int):=by omega
      have hs4:=Sm.zR (List.getElem_mem hlt)
      have hs5:=Sm.yT ts[j]
      have key:=fun W(hW:zD zC wr W)=>ih _ (List.getElem_mem hlt) (by omega) W _ (hRp.on hW)
      have hsum:Sm.zP (ts.take j)+ts[j].size<=Sm.zP ts:=by rw[<-Sm.zl ts j hlt];exact Sm.zp ts (j+1)
      generalize ts[j].args.length=el at *
      go_wp2_with fail
      refine(key _ ((zD.refl zC wr).alloc _)).mono ?_
      rintro e w5 ⟨rfl,hU5⟩
      go_wp2_with fail
      go_roundw
      case rel=>
        refine⟨j+1,by go_num,by omega,int_eq ?_,(hU.alloc _).and hU5⟩
        rw[Sm.zl ts j hlt]
        omega
      case measure=>(simp[intOf];omega)
     ·have hjn:¬(j:Int)<(ts.length:Int):=by omega
      have hdn:ts.take j=ts:=List.take_of_length_le (by omega)
      rw[hdn]at hdj hdj2 ⊢
      go_wp2_with fail
      go_ret
      exact⟨zb (by first |omega |(rw[Sm.zS];omega)),hw⟩
def Sm.yO(g:Sm->Nat):List Sm->Nat
  | []=>0
  |t :: ts=>max (g t) (Sm.yO g ts)
theorem Sm.Qx(g:Sm->Nat)(a b:List Sm):Sm.yO g (a++b)=max (Sm.yO g a) (Sm.yO g b):=by
  induction a with
  |nil=>simp[Sm.yO]
  |cons t ts ih=>simp[Sm.yO,ih]
theorem Sm.qE(g:Sm->Nat)(l:List Sm)(j:Nat)(h:j<l.length):Sm.yO g (l.take (j+1))=max (Sm.yO g (l.take j)) (g l[j]):=by
  rw[List.take_succ_eq_append_getElem h,Sm.Qx];simp[Sm.yO]
theorem Sm.zDh(g:Sm->Nat)(l:List Sm)(n:Nat)(h:∀ t∈l,g t<=n):Sm.yO g l<=n:=by
  induction l with
  |nil=>simp[Sm.yO]
  |cons t ts ih=>have:=h t (by simp);have:=ih (fun t ht=>h t (by simp[ht]));simp only[Sm.yO];omega
theorem Sm.zAv(l:List Sm):Sm.yO Sm.depth l=Sm.zV l:=by
  induction l with
  |nil=>simp[Sm.yO,Sm.zV]
  |cons t ts ih=>simp[Sm.yO,Sm.zV,ih]
theorem zED(gf:FuncId)(g:Sm->Nat)(f:List UInt8)(ts:List Sm)(hlen:ts.length<=1000000)(hg1:∀ t∈ts,g t<=1000000)
    (ih:∀ x∈ts,∀(w:World)(cs:List Value),zM zC w x.zN cs->Calls Tryz.prog gf #[.agg cs.toArray] w fun e w'=>e=.returned (.int .i64 (g x))/\zD zC w w')
    (hg:∀ args w,(callFunc gf args).run Tryz.prog w=.ok (.enter gf args) w) (a:Option Addr) (cap:Nat) (w:World) (hE:zG zC w 2 (ts.map Sm.zN) a 0):
    Calls Tryz.prog 223 #[.agg #[.string (B f),.slice a ts.length cap],.func (.func gf) #[] #[]] w fun e w'=>e=.returned (.int .i64 (Sm.yO g ts))/\zD zC w w':=by
  obtain⟨w1,hw1⟩:∃ w1,w1=w.alloc (.cells #[.string (B f),.slice a ts.length cap] 115):=⟨_,rfl⟩
  have hU1:zD zC w w1:=by rw[hw1];exact(zD.refl zC w).alloc _
  have hB1:zm w1 w.heap.size (.string (B f)) (.slice a ts.length cap) 115:=by rw[hw1];exact zm.zL rfl
  have HW1:=zH hw1
  clear hw1
  obtain⟨b0,b1⟩:=hB1.cells
  go_enter Tryz.func223,Tryz.ntmps223
  go_wp2_with fail
  rw[<-HW1.out]
  go_loopw [5,11] (fun v3 v wr=>∃ j:Nat,v=.int .i64 j/\j<=ts.length/\v3=.int .i64 (Sm.yO g (ts.take j))/\zD zC w1 wr) (fun _ v _=>ts.length - (intOf v).toNat)
  case atStart=>exact⟨0,rfl,Nat.zero_le _,rfl,zD.refl _ _⟩
  case round=>
    obtain⟨j,rfl,hj,rfl,hU⟩:=hrel
    clear b0 b1
    have hw:=hU1.and hU
    have j0:(0:Int)<=(j:Int):=by omega
    have jb:(j:Int)<=2000000:=by omega
    have hgj:Sm.yO g (ts.take j)<=1000000:=Sm.zDh g _ _ (fun t ht=>hg1 t (List.mem_of_mem_take ht))
    by_cases hlt:j<ts.length
    ·obtain⟨b,o,n1,s1,cp,rfl,hb,_,p0,p1,hRp⟩:=Zz (hE.on hw) j hlt
     have j1:(j:Int)<(ts.length:Int):=by omega
     have hs5:=hg1 _ (List.getElem_mem hlt)
     have key:=fun W(hW:zD zC wr W)=>ih _ (List.getElem_mem hlt) W _ (hRp.on hW)
     have hstep:=Sm.qE g ts j hlt
     generalize ts[j].args.length=el at *
     generalize g ts[j]=x at *
     generalize Sm.yO g (ts.take j)=y at *
     have HST:=zH hstep
     clear hstep
     go_wp2_with fail
     refine(key _ ((zD.refl zC wr).alloc _)).mono ?_
     rintro e w5 ⟨rfl,hU5⟩
     go_wp2_with fail
     go_roundw
     case rel=>
       refine⟨j+1,by go_num,by omega,int_eq ?_,(hU.alloc _).and hU5⟩
       rw[HST.out]
       omega
     case measure=>(simp[intOf];omega)
    ·have hjn:¬(j:Int)<(ts.length:Int):=by omega
     have hdn:ts.take j=ts:=List.take_of_length_le (by omega)
     rw[hdn]at hgj ⊢
     go_wp2_with fail
     go_ret
     exact⟨rfl,hw⟩
theorem zDm(t:Sm):t.size<=1000000->∀(w:World)(cs:List Value),zM zC w t.zN cs->
    Calls Tryz.prog 217 #[.agg cs.toArray] w fun e w'=>e=.returned (.int .i64 t.depth)/\zD zC w w':=by
  induction t using Sm.ind with
  |h f ts ih=>
   intro hs w cs h
   obtain⟨a,cap,rfl,hcap,hE⟩:=ZF.1 h
   have hlen:=Sm.zO ts
   have hds:=Sm.zo ts
   simp only[Sm.zS]at hs
   have key:=fun W(hW:zD zC w W)=>zED 217 Sm.depth f ts (by omega) (fun t ht=>by have:=Sm.yT t;have:=Sm.zR ht;omega) (fun x hx=>ih x hx (by have:=Sm.zR hx;omega))
     (enters_of Tryz.func217 (by kernel_rfl) rfl) a cap W (hE.on hW)
   rw[Sm.zAv]at key
   have hd:(Sm.mk f ts).depth=Sm.zV ts+1:=Sm.yY f ts
   rw[hd]
   generalize Sm.zV ts=d at *
   clear ih h hE hlen
   go_enter Tryz.func217,Tryz.ntmps217
   go_wp2_with fail
   refine(key _ ((zD.refl zC w).alloc _)).mono ?_
   rintro e w5 ⟨rfl,hU5⟩
   go_wp2_with fail
   go_ret
   exact⟨zb (by omega),((zD.refl zC w).alloc _).and hU5⟩
end
section
open Go.RowKit Go.LF
def zJi(b:Bool)(e:Ending):Prop:=∃ m:Int,e=.returned (.int .i64 m)/\decide (0<=m)=b
theorem zDw{ts:List Sm}(g:FuncId)(K:Nat)(p:Sm->Bool)(hlen:ts.length<=1000000)(w:World)
    (H:∀ x∈ts,∀(W:World)(cs:List Value),zD zC w W->zM zC W x.zN cs->Calls Tryz.prog g #[.agg cs.toArray,.pointer (some ⟨K,0,none⟩)] W fun e w'=>e=.returned (.bool (p x))/\zD zC W w')
    (hg:∀ args w,(callFunc g args).run Tryz.prog w=.ok (.enter g args) w)
    (a:Option Addr) (cap:Nat) (hE:zG zC w 2 (ts.map Sm.zN) a 0):
    Calls Tryz.prog 222 #[.slice a ts.length cap,.func (.func g) #[] #[.pointer (some ⟨K,0,none⟩)]] w fun e w'=>
      zJi (ts.any p) e/\zD zC w w':=by
  go_enter Tryz.func222,Tryz.ntmps222
  go_wp2_with fail
  go_loopw [8] (fun v wr=>∃ j:Nat,j<=ts.length/\v=.int .i64 j/\(ts.take j).any p=false/\zD zC w wr)
    (fun v _=>ts.length - (intOf v).toNat)
  case atStart=>exact⟨0,Nat.zero_le _,rfl,rfl,zD.refl _ _⟩
  case round=>
    obtain⟨j,hj,rfl,hA,hU⟩:=hrel
    have HA:=zH hA
    clear hA
    by_cases hlt:j<ts.length
    ·obtain⟨b,o,n1,s1,c1,rfl,hb,_,hc0,hc1,hR⟩:=Zz (hE.on hU) j hlt
     have H1:=H _ (List.getElem_mem hlt) _ _ hU hR
     have hT:(ts.take (j+1)).any p=((ts.take j).any p || p ts[j]):=by
       rw[List.take_succ_eq_append_getElem hlt];simp only[List.any_append,List.any_cons,List.any_nil,Bool.or_false]
     have hM:p ts[j]=true->ts.any p=true:=fun h=>List.any_eq_true.2 ⟨_,List.getElem_mem hlt,h⟩
     rw[HA.out]at hT
     have HT:=zH hT
     have HM:=zH hM
     clear hT hM
     generalize p ts[j]=b at *
     generalize ts[j].args.length=el at *
     have j1:(j:Int)<(ts.length:Int):=by omega
     cases b
     all_goals
       go_wp2_with fail
       refine H1.mono ?_
       rintro e w1 ⟨rfl,hU1⟩
       go_wp2
     ·go_roundw
      case rel=>exact⟨j+1,by omega,by go_num,by rw[HT.out];rfl,hU.and hU1⟩
      case measure=>simp[intOf];omega
     ·go_ret
      exact⟨⟨j,rfl,by rw[HM.out (by trivial)];simp⟩,hU.and hU1⟩
    ·have hj':ts.take j=ts:=List.take_of_length_le (by omega)
     have HA':=HA.out
     rw[hj']at HA'
     clear HA hj'
     have HA:=zH HA'
     clear HA'
     go_wp2
     go_ret
     exact⟨⟨-1,rfl,by rw[HA.out];rfl⟩,hU⟩
theorem zBM{ts:List Sm}(g:FuncId)(K:Nat)(p:Sm->Bool)(hlen:ts.length<=1000000)(w:World)
    (H:∀ x∈ts,∀(W:World)(cs:List Value),zD zC w W->zM zC W x.zN cs->Calls Tryz.prog g #[.agg cs.toArray,.pointer (some ⟨K,0,none⟩)] W fun e w'=>e=.returned (.bool (p x))/\zD zC W w')
    (hg:∀ args w,(callFunc g args).run Tryz.prog w=.ok (.enter g args) w)
    (a:Option Addr) (cap:Nat) (hE:zG zC w 2 (ts.map Sm.zN) a 0):
    Calls Tryz.prog 214 #[.slice a ts.length cap,.func (.func g) #[] #[.pointer (some ⟨K,0,none⟩)]] w fun e w'=>
      e=.returned (.bool (ts.any p))/\zD zC w w':=by
  have H1:=zDw g K p hlen w H hg a cap hE
  clear H
  go_enter Tryz.func214,Tryz.ntmps214
  go_wp2_with fail
  refine H1.mono ?_
  rintro e w1 ⟨⟨m,rfl,hm⟩,hU⟩
  have HM:=zH hm
  clear hm H1
  go_wp2
  go_ret
  exact⟨zU HM.out,hU⟩
theorem zHj{W:World}{b:Nat}{v:Value}{T:TypeId}{fr:Nat×Nat}(h:W.heap[b]? =some (.cells #[v] T fr)):W.cell? ⟨b,0,none⟩=some v:=by simp[World.cell?,h]
abbrev Q4(K:Nat)(W:World):Prop:=W.cell? ⟨K,0,none⟩=some (.func (.func 213) #[] #[.pointer (some ⟨K,0,none⟩)])
theorem zC7(K:Nat)(x:Sm)(w:World)(cs:List Value)(hK:Q4 K w)
    (H:∀(W:World),zD zC w W->Calls Tryz.prog 213 #[.agg cs.toArray,.pointer (some ⟨K,0,none⟩)] W fun e w'=>e=.returned (.bool x.form)/\zD zC W w')
    (h:zM zC w x.zN cs):
    Calls Tryz.prog 215 #[.agg cs.toArray,.pointer (some ⟨K,0,none⟩)] w fun e w'=>e=.returned (.bool (!x.form))/\zD zC w w':=by
  obtain⟨f,ts,a,cap,rfl,rfl,hcap,_⟩:=XZ h
  generalize (Sm.mk f ts).form=b at *
  have hK1:Q4 K (w.alloc (.cells #[.string (B f),.slice a ts.length cap] 115)):=((zD.refl zC w).alloc _).cell hK (fun x=>x)
  have hcall:=Tryz.call213
  go_enter Tryz.func215,Tryz.ntmps215
  go_wp2_with fail
  refine(H _ ((zD.refl zC w).alloc _)).mono ?_
  rintro e w1 ⟨rfl,hU⟩
  go_wp2
  go_ret
  exact⟨rfl,((zD.refl zC w).alloc _).and hU⟩
theorem zFz(ts:List Sm):(!ts.any fun x=>!x.form)=Sm.YC ts:=by rw[Sm.zGk,Bool.eq_iff_iff];simp
theorem zGp(t:Sm):t.wt<=1000000->∀(K:Nat)(w:World)(cs:List Value),Q4 K w->zM zC w t.zN cs->
    Calls Tryz.prog 213 #[.agg cs.toArray,.pointer (some ⟨K,0,none⟩)] w fun e w'=>e=.returned (.bool t.form)/\zD zC w w':=by
  induction t using Sm.ind with
  |h f ts ih=>
   intro hs K w cs hK h
   obtain⟨a,cap,rfl,hcap,hE⟩:=ZF.1 h
   have hlen:=Sm.zO ts
   have hsw:=Sm.yu ts
   simp only[Sm.yi]at hs
   obtain⟨r,hr⟩:∃ r,r=(Sm.mk f ts).form:=⟨_,rfl⟩
   rw[<-hr]
   rw[Sm.zFs,<-zFz]at hr
   have HN:=fun w=>Yd f w (by omega)
   have hfo:Sm.zD1 f=(f == [116,121,112,101]|| isName f):=rfl
   have HC:=fun W(hU:zD zC w W)=>zBM (ts:=ts) 215 K (fun x=>!x.form) (by omega) W
     (fun x hx W' cs hW' hR=>zC7 K x W' cs ((hU.and hW').cell hK (fun x=>x)) (fun W2 hW2=>ih x hx (by have:=Sm.xN hx;omega) K W2 cs (((hU.and hW').and hW2).cell hK (fun x=>x)) (hR.on hW2)) hR)
     (enters_of Tryz.func215 (by kernel_rfl) rfl) a cap (hE.on hU)
   generalize (ts.any fun x=>!x.form)=c at *
   generalize isName f=nb at *
   obtain⟨tb,htb⟩:∃ tb,tb=(f == [116,121,112,101]):=⟨_,rfl⟩
   rw[<-htb]at hfo
   have HR:=zH (And.intro hr hfo)
   have HTB:=zH htb
   clear hr hfo htb h ih hlen hsw hs
   obtain⟨w1,hw1⟩:∃ w1,w1=w.alloc (.cells #[.string (B f),.slice a ts.length cap] 115):=⟨_,rfl⟩
   have hU1:zD zC w w1:=by rw[hw1];exact(zD.refl zC w).alloc _
   have hB1:zm w1 w.heap.size (.string (B f)) (.slice a ts.length cap) 115:=by rw[hw1];exact zm.zL rfl
   have HW1:=zH hw1
   clear hw1
   obtain⟨b0,b1⟩:=hB1.cells
   have hmf:∀(fn:Fn)(first cap:Array Value)(w:World),(Instr.makeFunc fn first cap).run Tryz.prog w=.ok (.func fn first cap) w:=fun _ _ _ _=>rfl
   cases nb
   ·cases tb
    ·have hnf:(f == [116,121,112,101])=false:=HTB.out.symm
     go_enter Tryz.func213,Tryz.ntmps213
     go_wp2_with fail
     rw[<-HW1.out]
     refine(HN w1).mono ?_
     rintro e w2 ⟨rfl,rfl⟩
     go_wp2_with fail
     go_ret
     exact⟨zU (by rw[HR.out.1,HR.out.2];rfl),hU1⟩
    ·obtain rfl:f=[116,121,112,101]:=by simpa using HTB.out.symm
     go_enter Tryz.func213,Tryz.ntmps213
     go_wp2_with fail
     rw[<-HW1.out]
     refine(HN w1).mono ?_
     rintro e w2 ⟨rfl,rfl⟩
     go_wp2_with fail
     refine(HC _ hU1).mono ?_
     rintro e w3 ⟨rfl,hU3⟩
     go_wp2_with fail
     go_ret
     exact⟨zU (by rw[HR.out.1,HR.out.2];rfl),hU1.and hU3⟩
   ·go_enter Tryz.func213,Tryz.ntmps213
    go_wp2_with fail
    rw[<-HW1.out]
    refine(HN w1).mono ?_
    rintro e w2 ⟨rfl,rfl⟩
    go_wp2_with fail
    refine(HC _ hU1).mono ?_
    rintro e w3 ⟨rfl,hU3⟩
    go_wp2_with fail
    go_ret
    exact⟨zU (by rw[HR.out.1,HR.out.2];simp),hU1.and hU3⟩
theorem zHg(t:Sm)(hs:t.wt<=1000000)(w:World)(cs:List Value)(h:zM zC w t.zN cs):
    Calls Tryz.prog 204 #[.agg cs.toArray] w fun e w'=>e=.returned (.int .i64 t.wf)/\zD zC w w':=by
  have hsz:=Sm.zi t
  have hdz:=Sm.yT t
  have HF:=fun K w' hK h=>zGp t hs K w' cs hK h
  have HZ:=fun w' h=>zE8 t (by omega) w' cs h
  have HD:=fun w' h=>zDm t (by omega) w' cs h
  obtain⟨f,ts,a,cap,ht,rfl,hcap,hE⟩:=XZ h
  obtain⟨r,hr⟩:∃ r,r=t.wf:=⟨_,rfl⟩
  rw[<-hr]
  unfold Sm.wf at hr
  generalize t.form=fb at *
  generalize t.size=sz at *
  generalize t.depth=dp at *
  have HR:=zH hr
  clear hr ht hE
  generalize ts.length=len at *
  obtain⟨w1,hw1⟩:∃ w1,w1=(w.alloc (.cells #[.string (B f),.slice a len cap] 115)).alloc (.cells #[.func (.func 213) #[] #[.pointer (some ⟨w.heap.size+1,0,none⟩)]] 206):=⟨_,rfl⟩
  have hU1:zD zC w w1:=by rw[hw1];exact((zD.refl zC w).alloc _).alloc _
  have hB1:zm w1 w.heap.size (.string (B f)) (.slice a len cap) 115:=by rw[hw1];exact(zm.zL rfl).kept ((zD.refl zC _).alloc _)
  have hK1:Q4 (w.heap.size+1) w1:=by
    have:=heap_alloc_new (w.alloc (.cells #[.string (B f),.slice a len cap] 115)) (.cells #[.func (.func 213) #[] #[.pointer (some ⟨w.heap.size+1,0,none⟩)]] 206)
    rw[World.size_alloc]at this
    rw[hw1]
    exact zHj this
  have HW1:=zH hw1
  clear hw1
  have hmf:∀(fn:Fn)(first cap:Array Value)(w:World),(Instr.makeFunc fn first cap).run Tryz.prog w=.ok (.func fn first cap) w:=fun _ _ _ _=>rfl
  have hcall:=Tryz.call213
  cases fb
  ·go_enter Tryz.func204,Tryz.ntmps204
   go_wp2_with fail
   rw[<-HW1.out]
   refine(HF _ w1 hK1 (h.on hU1)).mono ?_
   rintro e w2 ⟨rfl,hU2⟩
   go_wp2_with fail
   go_ret
   exact⟨zb (by rw[HR.out];rfl),hU1.and hU2⟩
  ·by_cases h1:4096<sz
   ·have h1':(4096:Int)<(sz:Int):=by omega
    go_enter Tryz.func204,Tryz.ntmps204
    go_wp2_with fail
    rw[<-HW1.out]
    refine(HF _ w1 hK1 (h.on hU1)).mono ?_
    rintro e w2 ⟨rfl,hU2⟩
    have hB2:=hB1.kept hU2
    obtain⟨b0,b1⟩:=hB2.cells
    go_wp2_with fail
    refine(HZ w2 (h.on (hU1.and hU2))).mono ?_
    rintro e w3 ⟨rfl,hU3⟩
    go_wp2_with fail
    go_ret
    exact⟨zb (by rw[HR.out];simp[h1]),(hU1.and hU2).and hU3⟩
   ·have h1':¬(4096:Int)<(sz:Int):=by omega
    by_cases h2:128<dp
    ·have h2':(128:Int)<(dp:Int):=by omega
     go_enter Tryz.func204,Tryz.ntmps204
     go_wp2_with fail
     rw[<-HW1.out]
     refine(HF _ w1 hK1 (h.on hU1)).mono ?_
     rintro e w2 ⟨rfl,hU2⟩
     have hB2:=hB1.kept hU2
     obtain⟨b0,b1⟩:=hB2.cells
     go_wp2_with fail
     refine(HZ w2 (h.on (hU1.and hU2))).mono ?_
     rintro e w3 ⟨rfl,hU3⟩
     have hB3:=hB2.kept hU3
     clear b0 b1
     obtain⟨b0,b1⟩:=hB3.cells
     go_wp2_with fail
     refine(HD w3 (h.on ((hU1.and hU2).and hU3))).mono ?_
     rintro e w4 ⟨rfl,hU4⟩
     go_wp2_with fail
     go_ret
     exact⟨zb (by rw[HR.out];simp[h2]),((hU1.and hU2).and hU3).and hU4⟩
    ·have h2':¬(128:Int)<(dp:Int):=by omega
     go_enter Tryz.func204,Tryz.ntmps204
     go_wp2_with fail
     rw[<-HW1.out]
     refine(HF _ w1 hK1 (h.on hU1)).mono ?_
     rintro e w2 ⟨rfl,hU2⟩
     have hB2:=hB1.kept hU2
     obtain⟨b0,b1⟩:=hB2.cells
     go_wp2_with fail
     refine(HZ w2 (h.on (hU1.and hU2))).mono ?_
     rintro e w3 ⟨rfl,hU3⟩
     have hB3:=hB2.kept hU3
     clear b0 b1
     obtain⟨b0,b1⟩:=hB3.cells
     go_wp2_with fail
     refine(HD w3 (h.on ((hU1.and hU2).and hU3))).mono ?_
     rintro e w4 ⟨rfl,hU4⟩
     go_wp2_with fail
     go_ret
     exact⟨zb (by rw[HR.out];simp[h1,h2]),((hU1.and hU2).and hU3).and hU4⟩
end
end Go.Proofs.YthgmimncdjhgnaaGreatDoor
