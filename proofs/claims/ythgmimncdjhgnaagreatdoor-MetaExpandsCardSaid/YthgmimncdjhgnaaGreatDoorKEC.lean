/- subst's node. -/
import Derived.Test.YthgmimncdjhgnaaGreatDoorKCH
import Derived.Test.YthgmimncdjhgnaaGreatDoorKEA
set_option maxRecDepth 100000
set_option maxHeartbeats 8000000
namespace Go.Proofs.YthgmimncdjhgnaaGreatDoor
open Go.RowKit Go.LF
theorem zD9(us:List Tm)(hl:us.length<=100000)(hsz:Tm.zP us<=1000000000000)(k i:Int)(n:List UInt8)(oa:Option Addr)(ol oc:Nat)(O:Nat->Prop)(w:World)(hO:∀ b,O b->b<w.heap.size)(a:Option Addr)(cap w0:Nat)
    (hE:zG O w 6 (us.map ZI) a 0):
    Calls Tryz.prog 220 #[.agg #[.int .i64 k,.string (B n),.int .i64 i,.slice oa ol oc],.slice a us.length cap] w fun e w'=>OfR O (Tm.ZU (.mk k n i us) w0) e w'/\zD zC w w':=by
  obtain⟨i0,hi,hi0,hi1,hi2⟩:=info_parts yZ
  obtain⟨w1,hw1⟩:∃ w1,w1=((w.alloc (.cells #[.int .i64 k,.string (B n),.int .i64 i,.slice oa ol oc] 29)).alloc (.cells #[.int .i64 0,.string (B []),.int .i64 0,.slice none 0 0,.int .i64 0,.int .i64 0] 200)).alloc (.cells #[.int .i64 k,.string (B n),.int .i64 i,.slice oa ol oc,.int .i64 1,.int .i64 0] 200):=⟨_,rfl⟩
  have hU1:zD zC w w1:=by rw[hw1];exact(((zD.refl zC w).alloc _).alloc _).alloc _
  have hr1:zh w1 (w.heap.size+1) (.int .i64 0) (.string (B [])) (.int .i64 0) (.slice none 0 0) (.int .i64 0) (.int .i64 0) 200:=by rw[hw1];exact(zh.zL (by simp)).kept ((zD.refl zC _).alloc _)
  have hb1:zh w1 (w.heap.size+1+1) (.int .i64 k) (.string (B n)) (.int .i64 i) (.slice oa ol oc) (.int .i64 1) (.int .i64 0) 200:=by rw[hw1];exact zh.zL (by simp)
  have hE1:zG (fun b=>O b\/w.heap.size<=b) w1 6 (us.map ZI) a 0:=(zG.zQ _ _ _ _ hE).on hU1
  have hz1':w1.heap.size<=w.heap.size+3:=by rw[hw1];simp
  have hU0:=hU1
  have HW:=zH hw1
  obtain⟨H,hH⟩:∃ H,H=w.heap.size:=⟨_,rfl⟩
  have HH:=zH hH
  rw[<-hH]at hr1 hb1 hE1 hz1'
  have hO':∀ b,O b->b<H:=by rw[hH];exact hO
  have HO:Hid (∀ b,(O b\/b=H\/b=H+1\/b=H+1+1)->b<H+3):=zH (fun b h=>by rcases h with h |h |h |h;(have:=hO' b h;omega);all_goals omega)
  have hz1:H+3<=w1.heap.size:=by have:=hb1.lt;omega
  obtain⟨ul,hul⟩:∃ ul,ul=us.length:=⟨_,rfl⟩
  rw[<-hul]
  have hll:ul<=100000:=by omega
  have hll2:(ul:Int)<=100000:=by omega
  have hll3:(0:Int)<=(ul:Int):=by omega
  have HSZ:=zH hsz
  have HUL:=zH hul
  clear hw1 hE hH hO hl hsz hul
  go_enter Tryz.func220,Tryz.ntmps220
  go_upto_region 2 with fail
  rw[<-show B []={ data:=#[] }from rfl,<-HW.out,<-HH.out]
  obtain⟨z0,z1,z2,z3,z4,z5⟩:=hb1.zI
  go_wp2_with (at_make;go_loud (refine wpList_make_own _ rfl _ _ 26 rfl (H+3) 29 i0 (.agg #[.int .i64 0,.string (B []),.int .i64 0,.slice none 0 0]) 4 (by kernel_rfl) hi hi0 hi1 .i64 .i64 (ul:Int) ul rfl rfl rfl (by rw[hi2];omega) (by simp only[maxLen];omega) hz1 ?_);intro w3 hown3 hg3;have hb3:=hb1.kept (Zq hg3);have y3:=hb3.zI.2.2.2.1;have y4:=hb3.cells.2.2.2.1)
  have hU3:zD zC w1 w3:=Zq hg3
  have hset3:zD (fun b=>b=H+1+1) w3 (w3.setCell ⟨H+1+1,3,none⟩ (.slice (some ⟨w1.heap.size,0,none⟩) 0 ul)):=zD.set (zD.refl _ _) 3 _
  have hb4:=hb3.Yt (.slice (some ⟨w1.heap.size,0,none⟩) 0 ul)
  have hT3:yI 29 4 (fun b=>O b\/b=H\/b=H+1\/b=H+1+1) (H+3) w3 (.slice (some ⟨w1.heap.size,0,none⟩) 0 ul) [] []:=⟨rfl,by simp,hown3,fun i h=>by simp at h⟩
  have hT4:=hT3.zF hset3 (fun b e=>.inr (.inr (.inr e))) HO.out
  have hU4:zD (fun b=>b=H+1+1) w1 (w3.setCell ⟨H+1+1,3,none⟩ (.slice (some ⟨w1.heap.size,0,none⟩) 0 ul)):=(hU3.mono (fun _ _ x=>x.elim)).trans hset3 (fun _ _ e=>e)
  obtain⟨W4,hW4⟩:∃ W4,W4=w3.setCell ⟨H+1+1,3,none⟩ (.slice (some ⟨w1.heap.size,0,none⟩) 0 ul):=⟨_,rfl⟩
  rw[<-hW4]at hb4 hT4 hU4 ⊢
  clear hW4 hset3 hT3 hU3 hb3 y3 y4 hg3 hown3 hb1 z0 z1 z2 z3 z4 z5
  go_loopw [17] (fun v17 wr=>∃(j:Nat)(v:Value)(css:List (List Value)),v17=.int .i64 (j:Int)/\j<=ul/\yI 29 4 (fun b=>O b\/b=H\/b=H+1\/b=H+1+1) (H+3) wr v ((us.take j).map Tm.zN) css/\
      zh wr (H+1+1) (.int .i64 k) (.string (B n)) (.int .i64 i) v (.int .i64 (1+(Tm.zP (us.take j):Int))) (.int .i64 (Tm.zV (us.take j):Int)) 200/\zD (fun b=>b=H+1+1) w1 wr)
    (fun v17 _=>ul - (intOf v17).toNat)
  case atStart=>exact⟨0,_,[],rfl,Nat.zero_le _,hT4,hb4,hU4⟩
  case round=>
    clear hT4 hb4 hU4 W4
    obtain⟨j,v,css,rfl,hj,hT,hB,hU⟩:=hrel
    obtain⟨x0,x1,x2,x3,x4,x5⟩:=hB.cells
    obtain⟨f0,f1,f2,f3,f4,f5⟩:=hB.zI
    have q:=hB.lt
    have u2:(j:Int)<=100000:=by omega
    have u3:(0:Int)<=(j:Int):=by omega
    have hzU:=hU.size
    by_cases hlt:j<ul
    ·have hju:j<us.length:=by rw[<-HUL.out];exact hlt
     have u4:(j:Int)<(ul:Int):=by omega
     obtain⟨eb,eo,ek,en,ei,es,ec,rfl,hebl,hebO,p0,p1,p2,p3,p4,p5,hRp⟩:=zA1 (zG.zF hU (fun b e=>.inr (by omega)) _ _ _ _ hE1) j hju
     have hss:=Tm.zl us j hju
     have hds:=Tm.yh us j hju
     have hle:=Tm.zp us (j+1)
     have hdl:=Tm.zo (us.take (j+1))
     have htk:us.take (j+1)=us.take j++[us[j]]:=List.take_succ_eq_append_getElem hju
     have hln:((us.take j).map Tm.zN).length=j:=by rw[List.length_map,List.length_take];omega
     have b1:(Tm.zP (us.take j):Int)+(us[j]'hju).size<=1000000000000:=by have:=HSZ.out;omega
     have b2:((us[j]'hju).depth:Int)<=1000000000000:=by have:=HSZ.out;omega
     have b3:(Tm.zV (us.take j):Int)<=1000000000000:=by have:=HSZ.out;omega
     generalize (us[j]'hju).args.length=el at *
     obtain⟨u,hu⟩:∃ u,u=us[j]'hju:=⟨_,rfl⟩
     rw[<-hu]at p4 p5 hRp hss hds htk b1 b2
     obtain⟨S0,hS0⟩:∃ S0,S0=Tm.zP (us.take j):=⟨_,rfl⟩
     obtain⟨D0,hD0⟩:∃ D0,D0=Tm.zV (us.take j):=⟨_,rfl⟩
     rw[<-hS0]at hB x4 hss b1
     rw[<-hD0]at hB x5 hds b3
     have HX:=zH (And.intro hss (And.intro hds htk))
     have g0:(0:Int)<=(S0:Int):=by omega
     have g1:(0:Int)<=(u.size:Int):=by omega
     have g2:(0:Int)<=(u.depth:Int):=by omega
     have g3:(0:Int)<=(D0:Int):=by omega
     clear hss hds htk hu hS0 hD0 hle hdl
     go_upto_region 6 with fail
     obtain⟨w4,hw4⟩:∃ w4,w4=wr.alloc (.cells #[.int .i64 ek,.string (B en),.int .i64 ei,.slice es el ec,.int .i64 u.size,.int .i64 u.depth] 200):=⟨_,rfl⟩
     have hU4:zD zC wr w4:=by rw[hw4];exact(zD.refl zC _).alloc _
     have hx4:zh w4 wr.heap.size (.int .i64 ek) (.string (B en)) (.int .i64 ei) (.slice es el ec) (.int .i64 u.size) (.int .i64 u.depth) 200:=by rw[hw4];exact zh.zL rfl
     obtain⟨X,hX⟩:∃ X,X=wr.heap.size:=⟨_,rfl⟩
     rw[<-hw4,<-hX]
     rw[<-hX]at hx4
     have hXl:X<w4.heap.size:=hx4.lt
     have hz4:H+3<=w4.heap.size:=by have:=hU4.size;omega
     have hT4:=hT.on hU4 HO.out
     have hB4:=hB.kept hU4
     have hownX:v.ownBlock≠some X:=fun e=>by have:=(hT.2.2.1.lt X e).2;omega
     have HOX:=zH hownX
     have HXX:=zH hX
     clear hw4 p0 p1 p2 p3 p4 p5 x0 x1 x2 x3 x4 x5 f0 f1 f2 f3 f4 f5 hB hownX hX
     obtain⟨x0,x1,x2,x3,x4,x5⟩:=hB4.cells
     obtain⟨y0,y1,y2,y3,y4,y5⟩:=hx4.cells
     have hal:zD zC w4 (w4.alloc (.cells #[.int .i64 ek,.string (B en),.int .i64 ei,.slice es el ec] 29)):=(zD.refl zC _).alloc _
     have hTb:=hT4.on hal HO.out
     have hBb:=hB4.kept hal
     have hxb:=hx4.kept hal
     have hown:=hTb.2.2.1
     rw[hln]at hown
     have HLN:=zH hln
     clear hln
     go_wp2_with (at_builtin;go_loud (refine wpList_append_lies _ (by rfl) _ _ 26 (by rfl) (H+3) 29 i0 (.agg #[.int .i64 0,.string (B []),.int .i64 0,.slice none 0 0]) 4 56 (by kernel_rfl) hi hi0 hi1 hi2 rfl (by omega) v j css.flatten rfl hown ⟨w4.heap.size,0,none⟩ 1 1 [.int .i64 ek,.string (B en),.int .i64 ei,.slice es el ec] rfl rfl (World.news_of_block (heap_alloc_new w4 _)) (by simp[Value.oneCell']) (by omega) (by simp only[maxLen];omega) (by omega) (by simp;omega) (w4.heap.size+1) (by simp) ?_);intro g cap' w7 hown7 hgrow hat hlt7;have hB7:=hBb.zFG hgrow hTb (by omega);have c7:=hB7.cells;have z7:=hB7.zI;obtain⟨c70,c71,c72,c73,c74,c75⟩:=c7;obtain⟨z70,z71,z72,z73,z74,z75⟩:=z7;have hx7:=(hgrow.block X hxb.lt (fun e=>HOX.out e.symm)).trans hxb;have hx7c:=zh.cells hx7;obtain⟨v0,v1,v2,v3,v4,v5⟩:=hx7c)
     have hRu:zM (fun b=>(O b\/b=H\/b=H+1\/b=H+1+1)\/v.ownBlock=some b) (w4.alloc (.cells #[.int .i64 ek,.string (B en),.int .i64 ei,.slice es el ec] 29)) u.zN [.int .i64 ek,.string (B en),.int .i64 ei,.slice es el ec]:=by
       refine zM.weaken (fun b _ e=>?_) _ _ ((hRp.on hU4).on hal)
       rcases e with(e |e)|e
       ·exact .inl e
       ·right;omega
       ·right;have:=(hTb.2.2.1.lt b e).1;omega
     have hown8:w7.ownsRow (H+3) 29 4 (.slice (some ⟨g,0,none⟩) (((us.take j).map Tm.zN).length+1) cap') (((us.take j).map Tm.zN).length+1) (css.flatten++[.int .i64 ek,.string (B en),.int .i64 ei,.slice es el ec]):=by rw[HLN.out];exact hown7
     have hT7:=hTb.appended (d:=u.zN) rfl hRu hown8 hgrow hat (by simp)
     rw[HLN.out]at hT7
     have hrow:=hTb.upto hgrow
     have hs7:zD (fun b=>b=H+1+1) w7 (((w7.setCell ⟨H+1+1,3,none⟩ (.slice (some ⟨g,0,none⟩) (j+1) cap')).setCell ⟨H+1+1,4,none⟩ (.int .i64 (1+(S0:Int)+(u.size:Int)))).setCell ⟨H+1+1,5,none⟩ (.int .i64 (if D0<u.depth then(u.depth:Int)else(D0:Int)))):=zD.set (zD.set (zD.set (zD.refl _ _) 3 _) 4 _) 5 _
     have hT8:=hT7.zF hs7 (fun b e=>.inr (.inr (.inr e))) HO.out
     have hB8:=((hB7.Yt (.slice (some ⟨g,0,none⟩) (j+1) cap')).Ye (.int .i64 (1+(S0:Int)+(u.size:Int)))).zIr (.int .i64 (if D0<u.depth then(u.depth:Int)else(D0:Int)))
     have hU8:=(((hU.trans (hU4.and hal) (fun b _ e=>e.elim)).trans hrow (fun b hb e=>by omega)).trans hs7 (fun _ _ e=>e))
     have e1:(1+(S0:Int)+(u.size:Int))=1+((Tm.zP (us.take (j+1)):Nat):Int):=by rw[HX.out.1];omega
     have e2:(if D0<u.depth then(u.depth:Int)else(D0:Int))=((Tm.zV (us.take (j+1)):Nat):Int):=by
       rw[HX.out.2.1]
       split<;>omega
     have e3:(us.take (j+1)).map Tm.zN=(us.take j).map Tm.zN++[u.zN]:=by rw[HX.out.2.2];simp
     rw[<-e3]at hT8
     refine⟨⟨j+1,_,_,by go_num,by omega,hT8,?_,hU8⟩,by simp[intOf];omega⟩
     rw[<-e1,<-e2]
     exact hB8
    ·have hjl:j=ul:=by omega
     subst hjl
     have htk:us.take j=us:=List.take_of_length_le (by rw[<-HUL.out];exact Nat.le_refl _)
     rw[htk]at hT hB x4 x5
     obtain⟨va,vc,rfl,hvc,hF⟩:=hT.rep HO.out
     rw[List.length_map,<-HUL.out]at hvc hB x3
     have hds:=Tm.zo us
     have b1:(Tm.zP us:Int)<=1000000000000:=by have:=HSZ.out;omega
     have b2:(Tm.zV us:Int)<=1000000000000:=by have:=HSZ.out;omega
     have b3:(0:Int)<=(Tm.zP us:Int):=by omega
     have b4:(0:Int)<=(Tm.zV us:Int):=by omega
     have hsm:(Tm.mk k n i us).small=decide (¬(4096<1+(Tm.zP us:Int)\/128<(Tm.zV us:Int)+1)):=by
       unfold Tm.small
       rw[Tm.zS,Tm.yY,<-Bool.decide_and]
       exact decide_eq_decide.2 (by omega)
     have hsz2:((Tm.mk k n i us).size:Int)=1+(Tm.zP us:Int):=by rw[Tm.zS];omega
     have hdp2:((Tm.mk k n i us).depth:Int)=(Tm.zV us:Int)+1:=by rw[Tm.yY];omega
     have C:=fun W=>Qn k i (1+(Tm.zP us:Int)) ((Tm.zV us:Int)+1) n va j vc W
     have HSM:=zH (And.intro hsm (And.intro hsz2 (And.intro hdp2 htk)))
     obtain⟨S0,hS0⟩:∃ S0,S0=Tm.zP us:=⟨_,rfl⟩
     obtain⟨D0,hD0⟩:∃ D0,D0=Tm.zV us:=⟨_,rfl⟩
     rw[<-hS0]at hB x4 b1 b3 C
     rw[<-hD0]at hB x5 b2 b4 C
     have HS:=zH (And.intro hS0 hD0)
     have hset5:=hB.zIr (.int .i64 ((D0:Int)+1))
     have hs5:zD (fun b=>b=H+1+1) wr (wr.setCell ⟨H+1+1,5,none⟩ (.int .i64 ((D0:Int)+1))):=zD.set (zD.refl _ _) 5 _
     have hr5:=(hr1.zF hU (by omega)).zF hs5 (by omega)
     have hF5:=zG.zF hs5 (fun b e=>.inr (.inr (.inr e))) _ _ _ _ hF
     have hU5:=hU.trans hs5 (fun _ _ e=>e)
     have HC:=zH (And.intro hset5 (And.intro hr5 (And.intro hF5 (And.intro hU5 hvc))))
     clear hsm hsz2 hdp2 htk hds hS0 hD0 hset5 hs5 hr5 hF5 hU5 hF hT hE1 hU1 hi hi0 hi1 hi2 hvc
     by_cases hbad:4096<1+(S0:Int)\/128<(D0:Int)+1
     ·have hchk:Tm.ZU (.mk k n i us) w0=⟨2,Tm.zT,w0⟩:=by
        unfold Tm.ZU
        rw[HSM.out.1,<-HS.out.1,<-HS.out.2,decide_eq_false (fun h=>h hbad)]
        rfl
      have HK:=zH hchk
      simp only[if_pos hbad]at C
      clear hchk hbad
      go_wp2_with fail
      refine(C _).mono ?_
      rintro e w6 ⟨rfl,hU6⟩
      unfold Yp
      go_wp2_with fail
      obtain⟨c1,c2,c3,c4,c5⟩:=HC.out
      exact⟨rfl,.inr ⟨by rw[HK.out];simp,by rw[HK.out];rfl⟩,(hU0.trans c4 (fun b hb e=>by have:=HH.out;omega)).and hU6⟩
     ·have hchk:Tm.ZU (.mk k n i us) w0=⟨0,.mk k n i us,w0⟩:=by
        unfold Tm.ZU
        rw[HSM.out.1,<-HS.out.1,<-HS.out.2,decide_eq_true hbad]
        rfl
      have HK:=zH hchk
      simp only[if_neg hbad]at C
      clear hchk hbad
      go_wp2_with fail
      refine(C _).mono ?_
      rintro e w6 ⟨rfl,hU6⟩
      have hr6:=HC.out.2.1.kept hU6
      obtain⟨y0,y1,y2,y3,y4,y5⟩:=hr6.cells
      obtain⟨z0,z1,z2,z3,z4,z5⟩:=hr6.zI
      have hset:=hr6.set (d0:=.int .i64 k) (d1:=.string (B n)) (d2:=.int .i64 i) (d3:=.slice va j vc) (d4:=.int .i64 (1+(S0:Int))) (d5:=.int .i64 ((D0:Int)+1))
      obtain⟨e0,e1,e2,e3,e4,e5⟩:=hset.1.cells
      have HE:=zH (And.intro e0 (And.intro e1 (And.intro e2 (And.intro e3 (And.intro e4 (And.intro e5 hset.2))))))
      clear e0 e1 e2 e3 e4 e5 hset
      go_wp2_with fail
      obtain⟨e0,e1,e2,e3,e4,e5,hset⟩:=HE.out
      refine bodyPost_ret (v:=.agg #[.int .i64 k,.string (B n),.int .i64 i,.slice va j vc,.int .i64 (1+(S0:Int)),.int .i64 ((D0:Int)+1)]) ?_ rfl ?_
      ·simp[results,Tryz.f220,go_sem,e0,e1,e2,e3,e4,e5]
      ·obtain⟨c1,c2,c3,c4,c5⟩:=HC.out
       have hF6:=zG.zF hset (fun b e=>.inr e) _ _ _ _ (zG.weaken (O:=fun b=>O b\/b=H\/b=H+1\/b=H+1+1) (O':=fun b=>O b\/b=H+1) (fun b _ e=>e.elim .inl (fun e=>.inr (.inr (.inl e)))) _ _ _ _ (c3.on hU6))
       refine⟨.inl ⟨by rw[HK.out],k,n,i,va,j,vc,?_,?_⟩,((hU0.trans c4 (fun b hb e=>by have:=HH.out;omega)).and hU6).trans hset (fun b hb e=>by have:=HH.out;omega)⟩
       ·rw[HK.out]
        show _=Ending.returned (.agg #[.int .i64 k,.string (B n),.int .i64 i,.slice va j vc,.int .i64 (Tm.mk k n i us).size,.int .i64 (Tm.mk k n i us).depth])
        rw[HSM.out.2.1,HSM.out.2.2.1,HS.out.1,HS.out.2]
       ·rw[HK.out]
        exact zk.2 ⟨va,vc,by rw[<-HUL.out],by rw[<-HUL.out];exact c5,zG.weaken (fun b _ e=>.inl e) _ _ _ _ hF6⟩
end Go.Proofs.YthgmimncdjhgnaaGreatDoor
namespace Go.LF.Tm
theorem zH4(f:Int->Tm->Nat->xU)(hf:∀ d t w,w<=262144->(f d t w).e=0->(f d t w).w<=262144)(d k:Int)(l:List Tm):∀(j w:Nat),w<=262144->(yy f d k j l w).e=0->(yy f d k j l w).w<=262144:=by
  induction l with
  |nil=>intro j w h _;exact h
  |cons t ts ih=>
   intro j w h he
   rw[yy]at he ⊢
   split at he
   ·rename_i h1
    rw[if_pos h1]
    split at he
    ·rename_i h2
     rw[if_pos h2]
     exact ih _ _ (hf _ _ _ h h1) h2
    ·rename_i h2;exact absurd he h2
   ·rename_i h1;exact absurd he h1
theorem zHf(f:Tm->Sm->Tm->Nat->xU)(hf:∀ u s b w,w<=262144->(f u s b w).e=0->(f u s b w).w<=262144)(us:List Tm):∀(m:Tm)(ss:List Sm)(w:Nat),w<=262144->(Z8 f m ss us w).e=0->(Z8 f m ss us w).w<=262144:=by
  induction us with
  |nil=>intro m ss w h _;unfold Z8;split<;>simp[Xv,h]
  |cons u us ih=>
   intro m ss w h he
   cases ss with
   |nil=>unfold Z8;exact h
   |cons s ss=>
    rw[Z8]at he ⊢
    split
    ·rename_i hk
     rw[if_pos hk]at he
     split
     ·rename_i h1
      rw[if_pos h1]at he
      exact ih _ _ _ (hf _ _ _ _ h h1) he
     ·rename_i h1
      rw[if_neg h1]at he
      exact absurd he h1
    ·exact h
theorem zAB(n:Nat):∀ ms ss d t w,w<=262144->(sb n ms ss d t w).e=0->(sb n ms ss d t w).w<=262144:=by
  induction n with
  |zero=>intro ms ss d t w _ h;rw[sb]at h;simp at h
  |succ n ih=>
   intro ms ss d t w hw h
   rw[sb]at h ⊢
   split
   ·rename_i h1
    rw[if_pos h1]at h
    simp at h
   ·rename_i h1
    rw[if_neg h1]at h
    have hA:=zH4 (fun d' t' w'=>sb n ms ss d' t' w') (fun d t w=>ih _ _ _ _ _) d t.kind t.args 0 (w+1) (by omega)
    split
    ·rename_i h2
     rw[if_pos h2]at h
     have hw2:=hA h2
     revert h
     unfold sbN
     split
     ·split
      ·split
       ·intro h;simp at h
       ·unfold ap
        split
        ·exact fun h=>zHf _ (fun u s b w=>ih _ _ _ _ _) _ _ _ _ hw2 h
        ·intro h;simp at h
      ·rw[Xv];exact fun _=>hw2
     ·rw[Xv];exact fun _=>hw2
    ·rename_i h2
     rw[if_neg h2]at h
     exact absurd h h2
structure In(t:Tm):Prop where
  size:t.size<=4096
  depth:t.depth<=128
  ok:t.ok
  vars:t.vok
end Go.LF.Tm
namespace Go.Proofs.YthgmimncdjhgnaaGreatDoor
open Go.RowKit Go.LF
def xq(wk x:Nat)(W:World):Prop:=W.heap[wk]? =some (.cells #[.int .i64 (x:Int)] 3 (0,0))
theorem xq.lt{wk x:Nat}{W:World}(h:xq wk x W):wk<W.heap.size:=(Array.getElem?_eq_some_iff.1 h).1
theorem xq.cell{wk x:Nat}{W:World}(h:xq wk x W):W.cell? ⟨wk,0,none⟩=some (.int .i64 (x:Int)):=by unfold xq at h;simp[World.cell?,h]
theorem xq.frozen{wk x:Nat}{W:World}(h:xq wk x W):W.frozen? ⟨wk,0,none⟩=false:=by unfold xq at h;simp[World.frozen?,h]
theorem xq.zF{wk x:Nat}{W W':World}{S:Nat->Prop}(h:xq wk x W)(hU:zD S W W')(hS:¬S wk):xq wk x W':=(hU.block wk h.lt hS).trans h
theorem xq.kept{wk x:Nat}{W W':World}(h:xq wk x W)(hU:zD zC W W'):xq wk x W':=h.zF hU (fun x=>x)
theorem xq.set{wk x:Nat}{W:World}(h:xq wk x W)(y:Nat):xq wk y (W.setCell ⟨wk,0,none⟩ (.int .i64 (y:Int))):=by
  obtain⟨hlt,hk⟩:=Array.getElem?_eq_some_iff.1 h
  show(W.heap.modify wk _)[wk]? =_
  rw[Array.getElem?_eq_getElem (by rw[Array.size_modify];exact hlt),Array.getElem_modify_self,hk]
  rfl
def zIj(n:Nat):Prop:=
  ∀(ms:List Tm)(ss:List Sm)(d:Int)(t:Tm)(w0 wk:Nat)(O:Nat->Prop)(w:World)(ma:Option Addr)(mc:Nat)(sa:Option Addr)(sc:Nat)(cs:List Value),
   262145<=n+w0->w0<=262144->ms.length=ss.length->ms.length<=10000->(∀ u∈ms,u.isObj=true/\u.small=true)->(∀ s∈ss,s.size<=4096)->0<=d->d+(t.depth:Int)<=1048576->t.In->
   O wk->(∀ b,O b->b<w.heap.size)->xq wk w0 w->zG O w 6 (ms.map ZI) ma 0->zG O w 2 (ss.map Sm.zN) sa 0->zM O w t.zN cs->
   Calls Tryz.prog 210 #[.agg #[.pointer (some ⟨wk,0,none⟩),.slice ma ms.length mc,.slice sa ss.length sc],.agg cs.toArray,.int .i64 d] w fun e w'=>
     OfR O (Tm.sb n ms ss d t w0) e w'/\xq wk (Tm.sb n ms ss d t w0).w w'/\zD (fun b=>b=wk) w w'
theorem zER{O:Nat->Prop}{W:World}{ss:List Sm}{b o:Nat}(h:zG O W 2 (ss.map Sm.zN) (some ⟨b,o,none⟩) 0)(j:Nat)(hj:j<ss.length):zG O W 2 ([ss[j]].map Sm.zN) (some ⟨b,o+j * 2,none⟩) 0:=by
  obtain⟨b',o',cs,e,hb,hO,hl,hc,hr⟩:=h.get j (by simpa using hj)
  simp only[Option.some.injEq,Addr.mk.injEq,and_true]at e
  obtain⟨rfl,rfl⟩:=e
  refine zn _ _ _ (fun i hi=>?_)
  obtain rfl:i=0:=by simpa using hi
  refine⟨b,o+j * 2,cs,rfl,hb,hO,hl,fun m v hv=>?_,by simpa using hr⟩
  have:=hc m v hv
  simpa using this
theorem zHd{O:Nat->Prop}{W:World}{t:Tm}{c0 c1 c2 c3:Value}{b:Nat}{T:TypeId}(hB:zh W b c0 c1 c2 c3 (.int .i64 t.size) (.int .i64 t.depth) T)(hO:¬O b)(hR:zM O W t.zN [c0,c1,c2,c3]):zG O W 6 ([t].map ZI) (some ⟨b,0,none⟩) 0:=by
  refine zn _ _ _ (fun i hi=>?_)
  obtain rfl:i=0:=by simpa using hi
  obtain⟨x0,x1,x2,x3,x4,x5⟩:=hB.cells
  refine⟨b,0,[c0,c1,c2,c3,.int .i64 t.size,.int .i64 t.depth],rfl,hB.lt,hO,rfl,fun m v hv=>?_,by simpa using zAN.2 ⟨hR,rfl,rfl⟩⟩
  match m,hv with
  |0,hv=>cases hv;exact x0
  |1,hv=>cases hv;exact x1
  |2,hv=>cases hv;exact x2
  |3,hv=>cases hv;exact x3
  |4,hv=>cases hv;exact x4
  |5,hv=>cases hv;exact x5
  |m+6,hv=>simp at hv
end Go.Proofs.YthgmimncdjhgnaaGreatDoor
