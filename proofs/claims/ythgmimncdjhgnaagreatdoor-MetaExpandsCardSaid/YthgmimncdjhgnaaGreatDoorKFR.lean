/- lfchecklaw13.terms. -/
import Derived.Test.YthgmimncdjhgnaaGreatDoorKCJ
import Derived.Test.YthgmimncdjhgnaaGreatDoorKEA
import Derived.Test.YthgmimncdjhgnaaGreatDoorKFC
import Derived.Test.YthgmimncdjhgnaaGreatDoorKFP
import Derived.Deep.CutRange
set_option maxRecDepth 100000
set_option maxHeartbeats 8000000
namespace Go.Proofs.YthgmimncdjhgnaaGreatDoor
open Go.RowKit Go.LF
def zIu(n:Nat)(w:World)(e:Ending)(w':World):Prop:=
  ∃(ts:List Tm)(a:Option Addr)(cap:Nat),e=.returned (.slice a ts.length cap)/\ts.length<=cap/\ts.length<=3/\(∀ t∈ts,Tm.YO t 18 2 (n+1))/\zG zC w' 4 (ts.map Tm.zN) a 0/\zD zC w w'
theorem zD5(m0:List Int)(n:Nat)(hn:n<=900)(a0:Option Addr)(len0 cap0:Nat)(hl0:m0.length=len0)(hlen0:len0<=17592186044416)(w:World)(hE0:zG zC w 1 (m0.map (yz.int .i64)) a0 0)(hN:Zl w):
    Calls Tryz.prog 11 #[.slice a0 len0 cap0,.int .i64 n] w (zIu n w):=by
  obtain⟨i0,hi,hi0,hi1,hi2⟩:=info_parts yZ
  obtain⟨w1,hw1⟩:∃ w1,w1=w.alloc (.cells #[.slice a0 len0 cap0,.int .i64 0] 45):=⟨_,rfl⟩
  have hU1:zD zC w w1:=by rw[hw1];exact(zD.refl zC w).alloc _
  have hT1:zw w1 w.heap.size:=by
    rw[hw1]
    exact zC2 (w:=w) (cap:=cap0) (U:=45) hl0 hlen0 hE0
  have hK1:zc w.heap.size w1:=hN.ok hU1 (Nat.le_refl _)
  have hz1:w1.heap.size=w.heap.size+1:=by rw[hw1];simp
  obtain⟨T,hH⟩:∃ T,T=w.heap.size:=⟨_,rfl⟩
  rw[<-hH]at hT1 hK1 hz1
  have HH:=zH hH
  have HW:=zH hw1
  have HU1:=zH hU1
  have hTb:∀ b,yN T b->b<T+1:=fun b e=>by simp only[yN]at e;omega
  have HTB:=zH hTb
  have hni:(n:Int)<=900:=by omega
  clear hw1 hH hE0 hl0 hlen0 hN hU1 hTb
  go_enter Tryz.func11,Tryz.ntmps11
  go_upto_region 2 with fail
  rw[<-HH.out,<-HW.out]
  go_wp2_with fail
  go_loopw [6,7] (fun v6 v7 wr=>∃(ts:List Tm)(css:List (List Value)),v7=.int .i64 (ts.length:Int)/\ts.length<=3/\(∀ t∈ts,Tm.YO t 18 2 (n+1))/\yI 29 4 (yN T) (T+1) wr v6 (ts.map Tm.zN) css/\zw wr T/\zc T wr/\zD (yN T) w1 wr)
    (fun _ v7 _=>3 - (intOf v7).toNat)
  case atStart=>exact⟨[],[],rfl,by simp,fun _ h=>(by cases h),yI.nil _ _ _ _ _,hT1,hK1,zD.refl _ _⟩
  case round=>
    clear hT1 hK1
    obtain⟨ts,css,rfl,htl,hts,hD,hT,hK,hU⟩:=hrel
    obtain⟨vv,hvv⟩:∃ v,v=u6:=⟨_,rfl⟩
    rw[<-hvv]at hD
    rw[<-hvv]
    have HV:=zH hvv
    clear hvv
    have N1:=yP 3 (by omega) (by omega) T wr hT
    obtain⟨j,hj⟩:∃ j,j=ts.length:=⟨_,rfl⟩
    rw[<-hj]at htl
    rw[<-hj]
    have HJ:=zH hj
    have HTS:=zH hts
    have hj3:(j:Int)<=3:=by omega
    clear hj hts
    go_wp2_with fail
    (with_reducible refine N1.mono ?_)
    rintro e w2 ⟨⟨c,hc,rfl⟩,hT2,hU2⟩
    have hD2:=hD.zF hU2 (fun _ e=>e) HTB.out
    have hK2:=hK.zF hU2
    have hU12:=hU.trans hU2 (fun _ _ e=>e)
    have hc0:(0:Int)<=(c:Int):=by omega
    clear N1 hD hT hK hU hU2
    by_cases hlt:(j:Int)<1+(c:Int)
    ·have N2:=yP 9 (by omega) (by omega) T w2 hT2
     go_wp2_with fail
     (with_reducible refine N2.mono ?_)
     rintro e w3 ⟨⟨c2,hc2,rfl⟩,hT3,hU3⟩
     have hD3:=hD2.zF hU3 (fun _ e=>e) HTB.out
     have hK3:=hK2.zF hU3
     have hU13:=hU12.trans hU3 (fun _ _ e=>e)
     have hc20:(0:Int)<=(c2:Int):=by omega
     clear N2 hD2 hT2 hK2 hU12 hU3
     have AN:=zDe 2 (by omega) 2 (n+c2 / 8) (by omega) (by omega) T w3 hT3 hK3
     rw[show((2+1:Nat):Int)=3 from rfl,show((2:Nat):Int)=2 from rfl]at AN
     have hT3l:=hT3.lt
     have hz13:=hU13.size
     go_wp2_with fail
     rw[show(n:Int)+(c2:Int) / 8=((n+c2 / 8:Nat):Int) by omega]
     (with_reducible refine AN.mono ?_)
     rintro e w4 ⟨k,i,nm,a,len,cap,t,rfl,hR4,hF4,hT4,hK4,hU4⟩
     have hD4:=hD3.zF hU4 (fun _ e=>e) HTB.out
     have hU14:=hU13.trans hU4 (fun _ _ e=>e)
     have hR4':zM (fun b=>yN T b) w4 t.zN [.int .i64 k,.string (B nm),.int .i64 i,.slice a len cap]:=zM.weaken (fun b _ e=>by simp only[yN]at e;omega) _ _ hR4
     have hR4':zM (fun b=>yN T b\/vv.ownBlock=some b) w4 t.zN [.int .i64 k,.string (B nm),.int .i64 i,.slice a len cap]:=zM.weaken (fun b _ e=>by
       rcases e with e |e
       ·simp only[yN]at e;omega
       ·exact(hD3.2.2.1.lt b e).2) _ _ hR4
     have hal:zD zC w4 (w4.alloc (.cells #[.int .i64 k,.string (B nm),.int .i64 i,.slice a len cap] 29)):=(zD.refl zC w4).alloc _
     have hDa:=hD4.on hal HTB.out
     have hdl:(ts.map Tm.zN).length=j:=by rw[List.length_map,HJ.out]
     have own:=hDa.2.2.1
     rw[hdl]at own
     have hfit:Tm.YO t 18 2 (n+1):=⟨hF4.any,hF4.scope,fun b x hx h6=>by have:=hF4.zJ b x hx h6;omega,hF4.depth,hF4.size,hF4.wt⟩
     have HF:=zH (And.intro hfit (And.intro hT4 (And.intro hK4 hU14)))
     have hj2:j+1<=3:=by omega
     have hz4:T+1<=w4.heap.size:=by have:=hT4.lt;omega
     have HDL:=zH hdl
     clear AN hD3 hT3 hK3 hU13 hR4 hfit hT4 hK4 hU4 hF4 hU14 hdl
     go_wp2_with (at_builtin;go_loud (refine wpList_append_lies _ (by rfl) _ _ 26 (by rfl) (T+1) 29 i0 (.agg #[.int .i64 0,.string (B []),.int .i64 0,.slice none 0 0]) 4 56 (by kernel_rfl) hi hi0 hi1 hi2 rfl (by decide) vv j css.flatten (by rfl) own ⟨w4.heap.size,0,none⟩ 1 1 [.int .i64 k,.string (B nm),.int .i64 i,.slice a len cap] (by rfl) rfl (World.news_of_block (heap_alloc_new w4 _)) (by simp[Value.oneCell']) (by omega) (by simp only[maxLen];omega) (by omega) (by simp;omega) _ rfl ?_);intro g cap' w7 hown hgrow hat _hg7)
     have hown8:w7.ownsRow (T+1) 29 4 (.slice (some ⟨g,0,none⟩) ((ts.map Tm.zN).length+1) cap') ((ts.map Tm.zN).length+1) (css.flatten++[.int .i64 k,.string (B nm),.int .i64 i,.slice a len cap]):=by rw[HDL.out];exact hown
     have hD7:=hDa.appended (d:=t.zN) rfl (hR4'.on hal) hown8 hgrow hat (Nat.le_refl _)
     have hup:=hDa.upto hgrow
     have hU47:zD (fun b=>T+1<=b) w4 w7:=(hal.mono (fun _ _ e=>e.elim)).trans hup (fun _ _ e=>e)
     have hT7:=HF.out.2.1.YG hU47 (fun b e=>by omega)
     have hK7:=HF.out.2.2.1.YG hU47 (fun b e=>by omega)
     have hU17:=HF.out.2.2.2.trans hU47 (fun b hb e=>by omega)
     have hmap:ts.map Tm.zN++[t.zN]=(ts++[t]).map Tm.zN:=by simp
     rw[hmap,HDL.out]at hD7
     have HE:=zH (And.intro hD7 (And.intro hT7 (And.intro hK7 hU17)))
     clear hD7 hT7 hK7 hU17 hU47 hup hown8 hmap hDa hD4 hR4' own hown hgrow hat hal
     go_wp2_with fail
     go_roundw
     case rel=>exact⟨ts++[t],_,by rw[List.length_append,List.length_singleton,<-HJ.out];go_num,by rw[List.length_append,List.length_singleton,<-HJ.out];exact hj2,fun u hu=>(List.mem_append.1 hu).elim (HTS.out u) (fun h=>by rw[List.mem_singleton.1 h];exact HF.out.1),HE.out.1,HE.out.2.1,HE.out.2.2.1,HE.out.2.2.2⟩
     case measure=>simp[intOf];omega
    ·obtain⟨va,vc,hv,hvc,hF⟩:=hD2.rep HTB.out
     rw[List.length_map,<-HJ.out]at hv hvc
     subst hv
     have hF0:zG zC w2 4 (ts.map Tm.zN) va 0:=zG.weaken (fun _ _ e=>e.elim) _ _ _ _ hF
     have HE:=zH (And.intro hF0 (And.intro hvc hU12))
     clear hF hF0 hD2 hT2 hK2 hU12
     go_wp2_with fail
     refine bodyPost_ret (v:=.slice va j vc) (by simp[results,Tryz.f11,go_sem]) rfl ?_
     exact⟨ts,va,vc,by rw[<-HJ.out],by rw[<-HJ.out];exact HE.out.2.1,by rw[<-HJ.out];exact htl,HTS.out,HE.out.1,HU1.out.trans HE.out.2.2 (fun b hb e=>by have:=HH.out;simp only[yN]at e;omega)⟩
end Go.Proofs.YthgmimncdjhgnaaGreatDoor
namespace Go.LF
open Tm Go.Proofs.YthgmimncdjhgnaaGreatDoor
theorem Zw.names{l:List Mv}(h:Zw l):∀ m∈l,m.name.length<=1000000:=by
  intro m hm
  obtain⟨i,hi,rfl⟩:=List.getElem_of_mem hm
  rcases(ZM (h.ok i hi)).1 with h |h
  ·rw[h];simp
  ·unfold isName at h
   simp at h
   omega
end Go.LF
