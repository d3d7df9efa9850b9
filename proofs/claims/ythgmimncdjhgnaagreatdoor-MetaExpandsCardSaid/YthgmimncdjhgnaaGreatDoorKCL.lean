/- The reference's simple types: form, Size, depth, WellFormed, longSize. -/
import Derived.Test.YthgmimncdjhgnaaGreatDoorKCA
import Derived.Test.YthgmimncdjhgnaaGreatDoorKCF
import Derived.Test.YthgmimncdjhgnaaGreatDoorKCK
import Derived.Deep.RegionHeld3
import Derived.Laws.OwnMore
import Derived.Maps.AppendAt
set_option maxRecDepth 100000
set_option maxHeartbeats 4000000
namespace Go.Proofs.YthgmimncdjhgnaaGreatDoor
section
open Go.RowKit Go.LF
theorem zDJ(t:Sm):t.wt<=1000000->∀(w:World)(cs:List Value),zM zC w t.zN cs->
    Calls Tryz.prog 199 #[.agg cs.toArray] w fun e w'=>e=.returned (.bool t.form)/\zD zC w w':=by
  induction t using Sm.ind with
  |h f ts ih=>
   intro hs w cs h
   obtain⟨a,cap,rfl,hcap,hE⟩:=ZF.1 h
   have hlen:=Sm.zO ts
   have hsw:=Sm.yu ts
   simp only[Sm.yi]at hs
   obtain⟨r,hr⟩:∃ r,r=(Sm.mk f ts).form:=⟨_,rfl⟩
   rw[<-hr]
   rw[Sm.zFs]at hr
   have HN:=fun w=>yB f w (by omega)
   have hfo:Sm.zD1 f=(f == [116,121,112,101]|| isName f):=rfl
   obtain⟨nb,hnb⟩:∃ nb,nb=isName f:=⟨_,rfl⟩
   rw[<-hnb]at HN hfo
   obtain⟨tb,htb⟩:∃ tb,tb=(f == [116,121,112,101]):=⟨_,rfl⟩
   rw[<-htb]at hfo
   have HR:=zH (And.intro hr hfo)
   have HS:=zH hs
   have HTB:=zH htb
   clear hr hfo htb hnb hs h
   obtain⟨w1,hw1⟩:∃ w1,w1=w.alloc (.cells #[.string (B f),.slice a ts.length cap] 115):=⟨_,rfl⟩
   have hU1:zD zC w w1:=by rw[hw1];exact(zD.refl zC w).alloc _
   have hB1:zm w1 w.heap.size (.string (B f)) (.slice a ts.length cap) 115:=by rw[hw1];exact zm.zL rfl
   have HW1:=zH hw1
   clear hw1
   obtain⟨b0,b1⟩:=hB1.cells
   have hlen6:ts.length<=1000000:=by have:=HS.out;omega
   have hways:(tb=false/\nb=false)\/((tb=true\/tb=false/\nb=true)/\Sm.zD1 f=true):=by
     cases tb<;>cases nb<;>simp_all [HR.out.2]
   rcases hways with⟨rfl,rfl⟩|⟨hways,hfo⟩
   ·have hnf:(!f == [116,121,112,101])=true:=by rw[<-HTB.out];rfl
    go_enter Tryz.func199,Tryz.ntmps199
    go_wp2_with fail
    rw[<-HW1.out]
    refine(HN w1).mono ?_
    rintro e w2 ⟨rfl,rfl⟩
    go_wp2_with fail
    go_ret
    exact⟨zU (by rw[HR.out.1,HR.out.2];rfl),hU1⟩
   have HR2:=zH (show r=Sm.YC ts by rw[HR.out.1,hfo];rfl)
   clear HR hfo
   rcases hways with rfl |⟨rfl,rfl⟩
   case' inl=>
     obtain rfl:f=[116,121,112,101]:=by simpa using HTB.out.symm
     go_enter Tryz.func199,Tryz.ntmps199
     go_wp2_with fail
     rw[<-HW1.out]
   case' inr=>
     have hnf:(!f == [116,121,112,101])=true:=by rw[<-HTB.out];rfl
     go_enter Tryz.func199,Tryz.ntmps199
     go_wp2_with fail
     rw[<-HW1.out]
     refine(HN w1).mono ?_
     rintro e w2 ⟨rfl,rfl⟩
     go_wp2_with fail
   all_goals
     clear HN
     go_loopw [3] (fun v wr=>∃ j:Nat,v=.int .i64 j/\j<=ts.length/\r=Sm.YC (ts.drop j)/\zD zC w1 wr) (fun v _=>ts.length - (intOf v).toNat)
     case atStart=>exact⟨0,rfl,Nat.zero_le _,HR2.out,zD.refl _ _⟩
     case round=>
       obtain⟨j,rfl,hj,hv,hU⟩:=hrel
       have HV:=zH hv
       clear hv b0 b1
       have hw:=hU1.and hU
       have hBr:=hB1.kept hU
       obtain⟨b0,b1⟩:=hBr.cells
       have j0:(0:Int)<=(j:Int):=by omega
       have jb:(j:Int)<=2000000:=by omega
       by_cases hlt:j<ts.length
       ·obtain⟨b,o,n1,s1,cp,rfl,hb,_,p0,p1,hRp⟩:=Zz (hE.on hw) j hlt
        have j1:(j:Int)<(ts.length:Int):=by omega
        have hs4:=Sm.xN (List.getElem_mem hlt)
        have key:=ih _ (List.getElem_mem hlt) (by have:=HS.out;omega) wr _ hRp
        have hT:=Sm.zE0 ts j hlt
        generalize ts[j].args.length=el at *
        generalize ts[j].form=fb at *
        have HT:=zH (And.intro hT hlt)
        clear hT hlt hs4 hRp
        go_wp2_with fail
        refine key.mono ?_
        rintro e w5 ⟨rfl,hU5⟩
        cases fb
        ·go_wp2_with fail
         go_ret
         exact⟨zU (by rw[HV.out,HT.out.1];rfl),hw.and hU5⟩
        ·go_wp2_with fail
         go_roundw
         case rel=>exact⟨j+1,by go_num,Nat.succ_le_of_lt HT.out.2,by rw[HV.out,HT.out.1];rfl,hU.and hU5⟩
         case measure=>(have:=HT.out.2;simp[intOf];omega)
       ·have hjn:¬(j:Int)<(ts.length:Int):=by omega
        have hdn:ts.drop j=[]:=List.drop_eq_nil_of_le (by omega)
        have HD:=zH hdn
        clear hdn
        go_wp2_with fail
        go_ret
        exact⟨zU (by rw[HV.out,HD.out,Sm.YC]),hw⟩
theorem zBR(t:Sm):t.size<=1000000->∀(w:World)(cs:List Value),zM zC w t.zN cs->
    Calls Tryz.prog 200 #[.agg cs.toArray] w fun e w'=>e=.returned (.int .i64 t.size)/\zD zC w w':=by
  induction t using Sm.ind with
  |h f ts ih=>
   intro hs w cs h
   obtain⟨a,cap,rfl,hcap,hE⟩:=ZF.1 h
   have hlen:=Sm.zO ts
   have hds:=Sm.zo ts
   simp only[Sm.zS]at hs
   obtain⟨w1,hw1⟩:∃ w1,w1=w.alloc (.cells #[.string (B f),.slice a ts.length cap] 115):=⟨_,rfl⟩
   have hU1:zD zC w w1:=by rw[hw1];exact(zD.refl zC w).alloc _
   have hB1:zm w1 w.heap.size (.string (B f)) (.slice a ts.length cap) 115:=by rw[hw1];exact zm.zL rfl
   have HW1:=zH hw1
   clear hw1 h
   obtain⟨b0,b1⟩:=hB1.cells
   skip
   go_enter Tryz.func200,Tryz.ntmps200
   go_wp2_with fail
   rw[<-HW1.out]
   go_loopw [3,4] (fun v3 v wr=>∃ j:Nat,v=.int .i64 j/\j<=ts.length/\v3=.int .i64 (1+Sm.zP (ts.take j))/\zD zC w1 wr) (fun _ v _=>ts.length - (intOf v).toNat)
   case atStart=>exact⟨0,rfl,Nat.zero_le _,rfl,zD.refl _ _⟩
   case round=>
     obtain⟨j,rfl,hj,rfl,hU⟩:=hrel
     clear b0 b1
     have hw:=hU1.and hU
     have hBr:=hB1.kept hU
     obtain⟨b0,b1⟩:=hBr.cells
     have j0:(0:Int)<=(j:Int):=by omega
     have jb:(j:Int)<=2000000:=by omega
     have hdj:=Sm.zp ts j
     have hdj2:=Sm.yj ts j
     skip
     by_cases hlt:j<ts.length
     ·obtain⟨b,o,n1,s1,cp,rfl,hb,_,p0,p1,hRp⟩:=Zz (hE.on hw) j hlt
      have j1:(j:Int)<(ts.length:Int):=by omega
      have hs4:=Sm.zR (List.getElem_mem hlt)
      have hs5:=Sm.yT ts[j]
      have key:=ih _ (List.getElem_mem hlt) (by omega) wr _ hRp
      have hsum:Sm.zP (ts.take j)+ts[j].size<=Sm.zP ts:=by rw[<-Sm.zl ts j hlt];exact Sm.zp ts (j+1)
      generalize ts[j].args.length=el at *
      go_wp2_with fail
      refine key.mono ?_
      rintro e w5 ⟨rfl,hU5⟩
      go_wp2_with fail
      go_roundw
      case rel=>
        refine⟨j+1,by go_num,by omega,int_eq ?_,hU.and hU5⟩
        rw[Sm.zl ts j hlt]
        omega
      case measure=>(simp[intOf];omega)
     ·have hjn:¬(j:Int)<(ts.length:Int):=by omega
      have hdn:ts.take j=ts:=List.take_of_length_le (by omega)
      rw[hdn]at hdj hdj2 ⊢
      go_wp2_with fail
      go_ret
      exact⟨zb (by first |omega |(rw[Sm.zS];omega)),hw⟩
theorem zAd(t:Sm):t.size<=1000000->∀(w:World)(cs:List Value),zM zC w t.zN cs->
    Calls Tryz.prog 201 #[.agg cs.toArray] w fun e w'=>e=.returned (.int .i64 t.depth)/\zD zC w w':=by
  induction t using Sm.ind with
  |h f ts ih=>
   intro hs w cs h
   obtain⟨a,cap,rfl,hcap,hE⟩:=ZF.1 h
   have hlen:=Sm.zO ts
   have hds:=Sm.zo ts
   simp only[Sm.zS]at hs
   obtain⟨w1,hw1⟩:∃ w1,w1=w.alloc (.cells #[.string (B f),.slice a ts.length cap] 115):=⟨_,rfl⟩
   have hU1:zD zC w w1:=by rw[hw1];exact(zD.refl zC w).alloc _
   have hB1:zm w1 w.heap.size (.string (B f)) (.slice a ts.length cap) 115:=by rw[hw1];exact zm.zL rfl
   have HW1:=zH hw1
   clear hw1 h
   obtain⟨b0,b1⟩:=hB1.cells
   skip
   go_enter Tryz.func201,Tryz.ntmps201
   go_wp2_with fail
   rw[<-HW1.out]
   go_loopw [3,4] (fun v3 v wr=>∃ j:Nat,v=.int .i64 j/\j<=ts.length/\v3=.int .i64 (Sm.zV (ts.take j))/\zD zC w1 wr) (fun _ v _=>ts.length - (intOf v).toNat)
   case atStart=>exact⟨0,rfl,Nat.zero_le _,rfl,zD.refl _ _⟩
   case round=>
     obtain⟨j,rfl,hj,rfl,hU⟩:=hrel
     clear b0 b1
     have hw:=hU1.and hU
     have hBr:=hB1.kept hU
     obtain⟨b0,b1⟩:=hBr.cells
     have j0:(0:Int)<=(j:Int):=by omega
     have jb:(j:Int)<=2000000:=by omega
     have hdj:=Sm.zp ts j
     have hdj2:=Sm.yj ts j
     have hdz:=Sm.zo (ts.take j)
     by_cases hlt:j<ts.length
     ·obtain⟨b,o,n1,s1,cp,rfl,hb,_,p0,p1,hRp⟩:=Zz (hE.on hw) j hlt
      have j1:(j:Int)<(ts.length:Int):=by omega
      have hs4:=Sm.zR (List.getElem_mem hlt)
      have hs5:=Sm.yT ts[j]
      have key:=ih _ (List.getElem_mem hlt) (by omega) wr _ hRp
      have hsum:Sm.zP (ts.take j)+ts[j].size<=Sm.zP ts:=by rw[<-Sm.zl ts j hlt];exact Sm.zp ts (j+1)
      generalize ts[j].args.length=el at *
      go_wp2_with fail
      refine key.mono ?_
      rintro e w5 ⟨rfl,hU5⟩
      go_wp2_with fail
      go_roundw
      case rel=>
        refine⟨j+1,by go_num,by omega,int_eq ?_,hU.and hU5⟩
        rw[Sm.yh ts j hlt]
        omega
      case measure=>(simp[intOf];omega)
     ·have hjn:¬(j:Int)<(ts.length:Int):=by omega
      have hdn:ts.take j=ts:=List.take_of_length_le (by omega)
      rw[hdn]at hdj hdj2 ⊢
      go_wp2_with fail
      go_ret
      exact⟨zb (by first |omega |(rw[Sm.yY];omega)),hw⟩
end
section
open Go.RowKit Go.LF
theorem zC5(t:Sm)(hs:t.wt<=1000000)(w:World)(cs:List Value)(h:zM zC w t.zN cs):
    Calls Tryz.prog 170 #[.agg cs.toArray] w fun e w'=>e=.returned (.int .i64 t.wf)/\zD zC w w':=by
  have hsz:=Sm.zi t
  have hdz:=Sm.yT t
  have HF:=fun w' h=>zDJ t hs w' cs h
  have HZ:=fun w' h=>zBR t (by omega) w' cs h
  have HD:=fun w' h=>zAd t (by omega) w' cs h
  obtain⟨f,ts,a,cap,ht,rfl,hcap,hE⟩:=XZ h
  obtain⟨r,hr⟩:∃ r,r=t.wf:=⟨_,rfl⟩
  rw[<-hr]
  unfold Sm.wf at hr
  generalize t.form=fb at *
  generalize t.size=sz at *
  generalize t.depth=dp at *
  have HR:=zH hr
  clear hr ht hE
  generalize ts.length=len at *
  obtain⟨w1,hw1⟩:∃ w1,w1=w.alloc (.cells #[.string (B f),.slice a len cap] 115):=⟨_,rfl⟩
  have hU1:zD zC w w1:=by rw[hw1];exact(zD.refl zC w).alloc _
  have hB1:zm w1 w.heap.size (.string (B f)) (.slice a len cap) 115:=by rw[hw1];exact zm.zL rfl
  have HW1:=zH hw1
  clear hw1
  cases fb
  ·go_enter Tryz.func170,Tryz.ntmps170
   go_wp2_with fail
   rw[<-HW1.out]
   refine(HF w1 (h.on hU1)).mono ?_
   rintro e w2 ⟨rfl,hU2⟩
   go_wp2_with fail
   go_ret
   exact⟨zb (by rw[HR.out];rfl),hU1.and hU2⟩
  ·by_cases h1:4096<sz
   ·have h1':(4096:Int)<(sz:Int):=by omega
    go_enter Tryz.func170,Tryz.ntmps170
    go_wp2_with fail
    rw[<-HW1.out]
    refine(HF w1 (h.on hU1)).mono ?_
    rintro e w2 ⟨rfl,hU2⟩
    have hB2:=hB1.kept hU2
    obtain⟨b0,b1⟩:=hB2.cells
    go_wp2_with fail
    refine(HZ w2 (h.on (hU1.and hU2))).mono ?_
    rintro e w3 ⟨rfl,hU3⟩
    go_wp2_with fail
    go_ret
    exact⟨zb (by rw[HR.out];simp[h1]),(hU1.and hU2).and hU3⟩
   ·have h1':¬(4096:Int)<(sz:Int):=by omega
    by_cases h2:128<dp
    ·have h2':(128:Int)<(dp:Int):=by omega
     go_enter Tryz.func170,Tryz.ntmps170
     go_wp2_with fail
     rw[<-HW1.out]
     refine(HF w1 (h.on hU1)).mono ?_
     rintro e w2 ⟨rfl,hU2⟩
     have hB2:=hB1.kept hU2
     obtain⟨b0,b1⟩:=hB2.cells
     go_wp2_with fail
     refine(HZ w2 (h.on (hU1.and hU2))).mono ?_
     rintro e w3 ⟨rfl,hU3⟩
     have hB3:=hB2.kept hU3
     clear b0 b1
     obtain⟨b0,b1⟩:=hB3.cells
     go_wp2_with fail
     refine(HD w3 (h.on ((hU1.and hU2).and hU3))).mono ?_
     rintro e w4 ⟨rfl,hU4⟩
     go_wp2_with fail
     go_ret
     exact⟨zb (by rw[HR.out];simp[h2]),((hU1.and hU2).and hU3).and hU4⟩
    ·have h2':¬(128:Int)<(dp:Int):=by omega
     go_enter Tryz.func170,Tryz.ntmps170
     go_wp2_with fail
     rw[<-HW1.out]
     refine(HF w1 (h.on hU1)).mono ?_
     rintro e w2 ⟨rfl,hU2⟩
     have hB2:=hB1.kept hU2
     obtain⟨b0,b1⟩:=hB2.cells
     go_wp2_with fail
     refine(HZ w2 (h.on (hU1.and hU2))).mono ?_
     rintro e w3 ⟨rfl,hU3⟩
     have hB3:=hB2.kept hU3
     clear b0 b1
     obtain⟨b0,b1⟩:=hB3.cells
     go_wp2_with fail
     refine(HD w3 (h.on ((hU1.and hU2).and hU3))).mono ?_
     rintro e w4 ⟨rfl,hU4⟩
     go_wp2_with fail
     go_ret
     exact⟨zb (by rw[HR.out];simp[h1,h2]),((hU1.and hU2).and hU3).and hU4⟩
end
section
open Go.RowKit Go.LF
theorem zAH{w:World}{O:Nat->Prop}{base:Nat}{v:Value}{ts:List Tm}{css:List (List Value)}(hS:ZC O base w v ts css)(A:Option Addr)(m c:Nat)(us:List Tm)(hm:m=us.length)
    (hE:zG (fun b=>O b\/base<=b) w 4 (us.map Tm.zN) A 0) (hl:ts.length+us.length<=900000) (hbase:base<=w.heap.size) (ty:TypeId):
    ∃ v' w' css',(Builtin.append_ #[26,26] ty #[v,.slice A m c]).run Tryz.prog w=.ok v' w'/\ZC O base w' v' (ts++us) css'/\w.grownBy w' v.ownBlock/\(v'.ownBlock=v.ownBlock\/v'.ownBlock=some w.heap.size):=by
  obtain⟨i0,hi,hi0,hi1,hi2⟩:=info_parts yZ
  obtain⟨css2,r1,r2,r3,r4,r5⟩:=XR us A 0 hE
  have hflat:=(zB0 css2 r2).1
  rw[r1,<-hm]at hflat
  have fin:∀(v':Value)(w':World),w'.ownsRow base 29 4 v' (ts.length+m) (css.flatten++css2.flatten)->w.grownBy w' v.ownBlock->ZC O base w' v' (ts++us) (css++css2):=by
    intro v' w' hown hg
    obtain⟨h1,h2,h3,h4⟩:=hS
    have hcel:Y0 (fun b=>O b\/base<=b) w w':=⟨hg.size,fun b o u hb hu=>hg.cell hu (fun e=>hb (.inr (h3.lt b e.symm).1))⟩
    refine⟨by simp[h1,r1],?_,by simpa[hm]using hown,fun i hi hi'=>?_⟩
    ·intro x hx
     rcases List.mem_append.1 hx with hx |hx
     ·exact h2 x hx
     ·exact r2 x hx
    ·by_cases hlt:i<ts.length
     ·rw[List.getElem_append_left hlt,List.getElem_append_left (by omega)]
      exact zM.carry hcel _ _ (h4 i hlt (by omega))
     ·have hi2:i - ts.length<us.length:=by simp at hi;omega
      rw[List.getElem_append_right (by omega),List.getElem_append_right (by omega)]
      simp only[h1]
      exact zM.carry hcel _ _ (r5 _ hi2 (by omega))
  rcases A with _ |ad
  ·obtain rfl:=zBs hE
   have hm0:m=0:=by simpa using hm
   subst hm0
   obtain rfl:css2=[]:=by simpa using r1
   refine⟨v,w,css,?_,by simpa using hS,World.grownBy.refl w _,.inl rfl⟩
   have hu:Tryz.prog.underlying 26=some (.slice 29):=by kernel_rfl
   rcases hS.2.2.1.2 with⟨rfl,_⟩|⟨g,cap,cur,rfl,_,_,hnc,_⟩
   ·simp[Builtin.append_,run_underlying hu,sizeOf,typeInfo,hi,Builtin.lenOf,Builtin.firstCells]
   ·simp[Builtin.append_,run_underlying hu,sizeOf,typeInfo,hi,Builtin.lenOf,Builtin.firstCells,hnc,storeCells]
  ·have hcells:∀ j u,css2.flatten[j]? =some u->w.cell? (ad.add j)=some u:=by
     intro j u hu
     obtain⟨b',o',e,hc⟩:=r4 j u hu
     cases e
     have hadd:(⟨b',o',none⟩:Addr).add j=⟨b',o'+j,none⟩:=by unfold Addr.add;split<;>simp_all
     rw[hadd]
     simpa using hc
   obtain⟨v',w',hrun,h2,h3,_,h5⟩:=run_append_own_at (P:=Tryz.prog) w base 26 ty 29 i0 (.agg #[.int .i64 0,.string (B []),.int .i64 0,.slice none 0 0]) 4 56 (by kernel_rfl) hi hi0 hi1 hi2 rfl (by decide) v ts.length css.flatten hS.2.2.1 ad m c css2.flatten hflat hcells r3 (by simp only[maxLen];omega) (by omega) hbase
   exact⟨v',w',_,hrun,fin v' w' h2 h3,h3,h5⟩
end
end Go.Proofs.YthgmimncdjhgnaaGreatDoor
