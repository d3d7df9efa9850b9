/- The erasure of a type or a kind: the program's function. -/
import Derived.Test.YthgmimncdjhgnaaGreatDoorKCA
import Derived.Test.YthgmimncdjhgnaaGreatDoorKCF
import Derived.Test.YthgmimncdjhgnaaGreatDoorKCJ
import Derived.Test.YthgmimncdjhgnaaGreatDoorKCN
import Derived.Deep.RegionLaw
set_option maxRecDepth 100000
set_option maxHeartbeats 16000000
namespace Go.LF.Tm
mutual
def er:Tm->Sm
  |mk k n _ l=>if k == 2 then erA l else if k == 1 then .mk [116,121,112,101] []else .mk n []
def erA:List Tm->Sm
  |a :: b :: _=>.mk (er b).fam (er a :: (er b).args)
  |_=>.mk [] []
end
theorem zAh(k n i l):er (mk k n i l)=if k == 2 then erA l else if k == 1 then .mk [116,121,112,101] []else .mk n []:=by rw[er]
theorem zFe(a b:Tm):erA [a,b]=.mk (er b).fam (er a :: (er b).args):=by rw[erA]
theorem zFN(t:Tm):(er t).size<=t.size/\Sm.zP (er t).args<t.size:=by
  induction t using ind with
  |h k n i l ih=>
   rw[zAh]
   have h0:=size_pos (mk k n i l)
   split
   ·match l,ih with
    | [],_=>rw[erA];simp[Sm.zP];simp
    | [a],_=>rw[erA];simp[Sm.zP];simp
    |a :: b :: rest,ih=>
     have h1:=(ih a (by simp)).1
     have h2:=(ih b (by simp)).2
     rw[erA]
     simp only[Sm.zS,Sm.ZR,Sm.zP,zS,zP]
     omega
   ·split<;>simp[Sm.zP]<;>omega
end Go.LF.Tm
namespace Go.Proofs.YthgmimncdjhgnaaGreatDoor
open Go.RowKit Go.LF
def qD(s:Sm)(w:World)(e:Ending)(w':World):Prop:=
  ∃(f:List UInt8)(a:Option Addr)(len cap:Nat),e=.returned (.agg #[.string (B f),.slice a len cap])/\zM (fun b=>b<w.heap.size) w' s.zN [.string (B f),.slice a len cap]/\zD zC w w'
def rowLen(W:World)(g:Nat):Nat:=match W.cell? ⟨g,1,none⟩with |some (.slice _ l _)=>l |_=>0
theorem zEf(N:Nat)(hN:N<=100000)(ih:∀(t:Tm),t.size<N->t.zBe->∀(w:World)(cs:List Value),zM zC w t.zN cs->Calls Tryz.prog 191 #[.agg cs.toArray] w (qD t.er w))
    (t:Tm) (hsz:t.size<=N) (hany:t.zBe) (w:World) (cs:List Value) (h:zM zC w t.zN cs):Calls Tryz.prog 191 #[.agg cs.toArray] w (qD t.er w):=by
  obtain⟨k0,n0,i0,ts0,a0,cap0,ht,rfl,hcap0,_⟩:=zX h
  obtain⟨r,hr⟩:∃ r,r=t.er:=⟨_,rfl⟩
  rw[<-hr]
  obtain⟨w1,hw1⟩:∃ w1,w1=((w.alloc (.cells #[.int .i64 k0,.string (B n0),.int .i64 i0,.slice a0 ts0.length cap0] 29)).alloc (.cells #[.string (B []),.slice none 0 0] 115)).alloc (.cells #[.string (B []),.slice none 0 0] 115):=⟨_,rfl⟩
  have hU1:zD zC w w1:=by rw[hw1];exact(((zD.refl zC w).alloc _).alloc _).alloc _
  have hB1:zK w1 w.heap.size (.int .i64 k0) (.string (B n0)) (.int .i64 i0) (.slice a0 ts0.length cap0) 29:=by rw[hw1];exact((zK.zL rfl).kept ((zD.refl zC _).alloc _)).kept ((zD.refl zC _).alloc _)
  have hS1:zm w1 (w.heap.size+1) (.string (B [])) (.slice none 0 0) 115:=by rw[hw1];exact(zm.zL (by simp)).kept ((zD.refl zC _).alloc _)
  have hO1:zm w1 (w.heap.size+1+1) (.string (B [])) (.slice none 0 0) 115:=by rw[hw1];exact zm.zL (by simp)
  have hz1:w1.heap.size=w.heap.size+3:=by rw[hw1];simp
  have hR1:zM (fun b=>w.heap.size<=b) w1 t.zN [.int .i64 k0,.string (B n0),.int .i64 i0,.slice a0 ts0.length cap0]:=(zM.fresh h).on hU1
  have HW1:=zH hw1
  obtain⟨H,hH⟩:∃ H,H=w.heap.size:=⟨_,rfl⟩
  have HH:=zH hH
  rw[<-hH]at hB1 hR1 hS1 hO1 hz1
  obtain⟨i0',hi,hi0,hi1,hi2⟩:=info_parts Ql
  have HR:=zH hr
  have HT:=zH (And.intro ht (And.intro hsz hany))
  clear hw1 hH hcap0 h hr ht hsz hany
  go_enter Tryz.func191,Tryz.ntmps191
  go_wp2_with fail
  rw[<-show B []={ data:=#[] }from rfl,<-HW1.out,<-HH.out]
  go_loopw [] (fun wr=>∃(k i:Int)(n:List UInt8)(a:Option Addr)(ts:List Tm)(cap:Nat)(v:Value)(ss:List Sm)(css:List (List Value)),(Tm.mk k n i ts).zBe/\(Tm.mk k n i ts).size+ss.length<=N/\r=.mk (Tm.mk k n i ts).er.fam (ss++(Tm.mk k n i ts).er.args)/\
      zM (fun b=>H<=b) wr (Tm.mk k n i ts).zN [.int .i64 k,.string (B n),.int .i64 i,.slice a ts.length cap]/\zK wr H (.int .i64 k) (.string (B n)) (.int .i64 i) (.slice a ts.length cap) 29/\
      Xn (H+3) wr v ss css/\zm wr (H+1+1) (.string (B [])) v 115/\zm wr (H+1) (.string (B [])) (.slice none 0 0) 115/\H+3<=wr.heap.size/\zD zC w wr)
    (fun wr=>N - rowLen wr (H+1+1))
  case atStart=>
    obtain⟨h1,h2,h3⟩:=HT.out
    have h4:=HR.out
    rw[h1]at h2 h3 h4 hR1
    exact⟨_,_,_,_,_,_,_,[],[],h3,by simpa using h2,by rw[h4];cases(Tm.mk k0 n0 i0 ts0).er;rfl,hR1,hB1,Xn.nil _ _,hO1,hS1,by omega,hU1⟩
  case round=>
    clear hR1 hB1 hS1 hO1 hU1 hz1
    obtain⟨k,i,nm,a,ts,cap,v,ss,css,hany,hsz,hr,hR,hB,hts,hout,hres,hbr,hU⟩:=hrel
    obtain⟨b0,b1,b2,b3⟩:=hB.cells
    obtain⟨f0,f1,f2,f3⟩:=hB.zI
    obtain⟨o0,o1⟩:=hout.cells
    obtain⟨z0,z1⟩:=hout.zI
    obtain⟨_,_,e0,hcap,hE⟩:=zk.1 hR
    simp only[List.cons.injEq,Value.slice.injEq,and_true,true_and]at e0
    obtain⟨rfl,rfl⟩:=e0
    have hrl:rowLen wr (H+1+1)=ss.length:=by obtain⟨va,vcap,hv,_⟩:=hts.rep;simp only[rowLen,o1,hv]
    have HRL:=zH hrl
    clear hrl
    have hal:=Tm.zB5 hany
    have HQ:=zH (And.intro hany (And.intro hsz hr))
    have hssN:ss.length<=100000:=by have:=Tm.size_pos (Tm.mk k nm i ts);omega
    by_cases hk:k=2
    ·have hk2:(k == 2)=true:=by simp[hk]
     have hlen:=hal.2.2.2 hk
     obtain⟨x,y,rfl⟩:∃ x y,ts=[x,y]:=by
       match ts,hlen with
       | [x,y],_=>exact⟨x,y,rfl⟩
     obtain⟨gb,go',k1,n1,x1,s1,c1,rfl,hgl,hgO,g0,g1,g2,g3,hR1⟩:=zd hE 0 (by simp)
     obtain⟨gb',go2,k2,n2,x2,s2,c2,ega,hgl2,hgO2,p0,p1,p2,p3,hR2⟩:=zd hE 1 (by simp)
     simp only[Option.some.injEq,Addr.mk.injEq,and_true]at ega
     obtain⟨rfl,rfl⟩:=ega
     simp only[List.getElem_cons_zero,List.getElem_cons_succ,Nat.zero_mul,Nat.one_mul,Nat.add_zero]at g0 g1 g2 g3 hR1 p0 p1 p2 p3 hR2
     obtain⟨us,rfl,hul,hc1,hE1⟩:=QW hR1
     obtain⟨us2,rfl,hul2,hc2,hE2⟩:=QW hR2
     simp only[Tm.ZR]at g3 p3 hR1 hR2
     have IH:=fun W(hW:zD zC wr W)=>ih (.mk k1 n1 x1 us) (by have:=HQ.out.2.1;simp[Tm.zP]at this;simp;omega) (hal.1 _ (by simp)) W _ (zM.weaken (fun _ _ x=>x.elim) _ _ (hR1.on hW))
     have HK:=zH hk
     have HY:=zH (hal.1 _ (List.mem_cons_of_mem _ (List.mem_cons_self ..)))
     clear hk hal hE hE1 hE2 hany hsz hr hR hul hul2 ih hlen hR1
     simp only[List.length_cons,List.length_nil,Nat.zero_add,Nat.reduceAdd]at b3 hB
     go_wp2_with fail
     go_region_law (first
       |((rw[if_pos (by rfl)]);go_simp;(go_at_call 191);refine(IH _ (zD.refl zC wr).drew).mono ?_;rintro e w6 ⟨f1',a1,len1,cap1,rfl,hR6,hU6⟩;have hU6':zD zC wr w6:=(zD.refl zC wr).drew.and hU6;have hout6:=hout.kept hU6';have q6:=hout6.lt;have c6:=hout6.cells.2;have y6:=hout6.zI.2;have hs6:=hU6'.size;have hts6:=hts.on hU6')
       |(refine step_append_lies _ (by rfl) _ _ 113 (by rfl) (H+3) 115 i0' (.agg #[.string (B []),.slice none 0 0]) 2 40 (by kernel_rfl) hi hi0 hi1 hi2 rfl (by decide) v ss.length css.flatten (by rfl) ((hts6.on ((zD.refl zC w6).alloc _)).2.2.1) ⟨w6.heap.size,0,none⟩ 1 1 [.string (B f1'),.slice a1 len1 cap1] (by rfl) rfl (World.news_of_block (heap_alloc_new w6 _)) (by simp[Value.oneCell']) (by omega) (by simp only[maxLen];omega) (by omega) (by simp;omega) _ rfl ?_;intro g cap' w7 hown hgrow hat hlt;have hout7:=(hout6.kept ((zD.refl zC w6).alloc _)).row hgrow (hts6.on ((zD.refl zC w6).alloc _)) (by omega);have c7:=hout7.cells.2;have y7:=hout7.zI.2))
     all_goals
       have hal6:zD zC w6 (w6.alloc (.cells #[.string (B f1'),.slice a1 len1 cap1] 115)):=(zD.refl zC w6).alloc _
       have hts6':=hts6.on hal6
       have hR6':zM (fun b=>b<H+3\/v.ownBlock=some b) (w6.alloc (.cells #[.string (B f1'),.slice a1 len1 cap1] 115)) (Tm.mk k1 n1 x1 us).er.zN [.string (B f1'),.slice a1 len1 cap1]:=by
         refine(zM.weaken (fun b _ e=>?_) _ _ hR6).new _
         rcases e with e |e
         ·exact Nat.lt_of_lt_of_le e hbr
         ·exact(hts.2.2.1.lt b e).2
       have hT7:=hts6'.appended rfl hR6' hown hgrow hat (Nat.le_refl _)
       have hset7:zD (fun b=>b=H+1+1) w7 (w7.setCell ⟨H+1+1,1,none⟩ (.slice (some ⟨g,0,none⟩) (ss.length+1) cap')):=zD.set (zD.refl _ _) 1 _
       have hrow7:=zD.ofRow (yH.grown hts6'.2.2.1 hgrow)
       have hU8:zD (fun b=>H+1+1<=b) wr (w7.setCell ⟨H+1+1,1,none⟩ (.slice (some ⟨g,0,none⟩) (ss.length+1) cap')):=
         (((hU6'.and hal6).mono (fun _ _ x=>x.elim)).trans (hrow7.mono (fun b _ e=>by omega)) (fun _ _ x=>x)).trans (hset7.mono (fun b _ e=>by omega)) (fun _ _ x=>x)
       have hw8:zD zC w (w7.setCell ⟨H+1+1,1,none⟩ (.slice (some ⟨g,0,none⟩) (ss.length+1) cap')):=hU.trans hU8 (fun b hb e=>by have:=HH.out;omega)
       have hT8:=hT7.zF hset7 (fun b e=>by omega)
       have hout8:=hout7.YW (.slice (some ⟨g,0,none⟩) (ss.length+1) cap')
       have hz8:H+3<=(w7.setCell ⟨H+1+1,1,none⟩ (.slice (some ⟨g,0,none⟩) (ss.length+1) cap')).heap.size:=by have:=hU8.size;omega
       generalize w7.setCell ⟨H+1+1,1,none⟩ (.slice (some ⟨g,0,none⟩) (ss.length+1) cap')=w8 at *
       have hB8:=hB.zF hU8 (by omega)
       have hres8:=hres.zF hU8 (by omega)
       have r0:=hU8.cell p0 (fun e:H+1+1<=gb=>hgO (by omega))
       have r1:=hU8.cell p1 (fun e:H+1+1<=gb=>hgO (by omega))
       have r2:=hU8.cell p2 (fun e:H+1+1<=gb=>hgO (by omega))
       have r3:=hU8.cell p3 (fun e:H+1+1<=gb=>hgO (by omega))
       have hR8:=zM.zF hU8 (fun b e=>by omega) _ _ hR2
       clear b0 b1 b2 b3 f0 f1 f2 f3 o0 o1 z0 z1 p0 p1 p2 p3 g0 g1 g2 g3 hR2 hR6 hR6' hU6 hU6' hout hout6 hout7 c6 c7 y6 y7 hts hts6 hts6' hT7 hset7 hrow7 hU8 hal6 hB hres hU hown hgrow IH
       obtain⟨b0,b1,b2,b3⟩:=hB8.cells
       obtain⟨f0,f1,f2,f3⟩:=hB8.zI
       go_wp2_with fail
       have hset9:=hB8.set (d0:=.int .i64 k2) (d1:=.string (B n2)) (d2:=.int .i64 x2) (d3:=.slice s2 us2.length c2)
       have hR9:=zM.zF hset9.2 (fun b e=>by omega) _ _ hR8
       go_roundw
       case rel=>
         obtain⟨q1,q2,q3⟩:=HQ.out
         refine⟨k2,x2,n2,s2,us2,c2,_,ss++[(Tm.mk k1 n1 x1 us).er],_,HY.out,by simp[Tm.zP]at q2 ⊢;omega,?_,hR9,hset9.1,by simpa using hT8.zF hset9.2 (fun b e=>by omega),hout8.zF hset9.2 (by omega),hres8.zF hset9.2 (by omega),by have:=hset9.2.size;omega,hw8.trans hset9.2 (fun b hb e=>by have:=HH.out;omega)⟩
         rw[q3,Tm.zAh,if_pos hk2,Tm.zFe]
         simp
       case measure=>
         have e1:rowLen wr (H+1+1)=ss.length:=HRL.out
         have hc9:=(hout8.zF hset9.2 (by omega)).cells.2
         have:=HQ.out.2.1
         simp only[rowLen,hc9]
         simp only[rowLen]at e1
         simp[Tm.zP]at this
         omega
    ·have hk2:(k == 2)=false:=by simp[hk]
     obtain⟨va,vcap,rfl,hvc,hvE⟩:=hts.rep
     obtain⟨q0,q1⟩:=hres.cells
     obtain⟨y0,y1⟩:=hres.zI
     obtain⟨len,hlen⟩:∃ len,len=ss.length:=⟨_,rfl⟩
     rw[<-hlen]at hout hvc o1
     have HL:=zH hlen
     obtain⟨fm,hfm⟩:∃ fm:List UInt8,fm=if k=1 then [116,121,112,101]else nm:=⟨_,rfl⟩
     have hrr:r=.mk fm ss:=by
       rw[HQ.out.2.2,Tm.zAh,if_neg (by simp[hk2]),hfm]
       by_cases h1:k=1
       ·rw[if_pos (by simp[h1]),if_pos h1];simp
       ·rw[if_neg (by simp[h1]),if_neg h1];simp
     have fin:∀ W9,zD (fun b=>b=H+1\/b=H+1+1) wr W9->qD r w (.returned (.agg #[.string (B fm),.slice va len vcap])) W9:=by
       intro W9 hU9
       rw[hrr]
       refine⟨fm,va,len,vcap,rfl,ZF.2 ⟨va,vcap,by rw[HL.out],by have:=HL.out;omega,?_⟩,hU.trans hU9 (fun b hb e=>by have:=HH.out;omega)⟩
       exact zG.weaken (fun b _ e=>by have:=HH.out;omega) _ _ _ _ (zG.zF hU9 (fun b e=>by omega) _ _ _ _ hvE)
     have HF:=zH fin
     clear fin hrr hvE hlen hts hal hE hR hany hsz hr hk ih
     by_cases h1:k=1
     ·have hk1:(k == 1)=true:=by simp[h1]
      have hf1:fm=[116,121,112,101]:=by rw[hfm,if_pos h1]
      clear hfm h1
      have HF1:=zH hf1
      clear hf1
      have hU8:zD (fun b=>b=H+1+1) wr ((wr.setCell ⟨H+1+1,0,none⟩ (.string (B nm))).setCell ⟨H+1+1,0,none⟩ (.string (B [116,121,112,101]))):=zD.set (zD.set (zD.refl _ _) 0 _) 0 _
      have hset9:=(hres.zF hU8 (by omega)).set (d0:=.string (B [116,121,112,101])) (d1:=.slice va len vcap)
      obtain⟨e0,e1⟩:=hset9.1.cells
      have hUu:=(hU8.mono (S':=fun b=>b=H+1\/b=H+1+1) (fun b _ e=>.inr e)).trans (hset9.2.mono (S':=fun b=>b=H+1\/b=H+1+1) (fun b _ e=>.inl e)) (fun _ _ x=>x)
      have HE:=zH (And.intro e0 (And.intro e1 hUu))
      clear e0 e1 hUu hset9 hU8
      go_wp2_with fail
      obtain⟨e0,e1,hUu⟩:=HE.out
      refine bodyPost_ret (v:=.agg #[.string (B [116,121,112,101]),.slice va len vcap]) ?_ rfl ?_
      ·simp[results,Tryz.f191,go_sem,e0,e1]
      ·have:=HF.out _ hUu
       rwa [HF1.out]at this
     ·have hk1:(k == 1)=false:=by simp[h1]
      obtain rfl:fm=nm:=by rw[hfm,if_neg h1]
      clear hfm h1
      have hU8:zD (fun b=>b=H+1+1) wr (wr.setCell ⟨H+1+1,0,none⟩ (.string (B fm))):=zD.set (zD.refl _ _) 0 _
      have hset9:=(hres.zF hU8 (by omega)).set (d0:=.string (B fm)) (d1:=.slice va len vcap)
      obtain⟨e0,e1⟩:=hset9.1.cells
      have hUu:=(hU8.mono (S':=fun b=>b=H+1\/b=H+1+1) (fun b _ e=>.inr e)).trans (hset9.2.mono (S':=fun b=>b=H+1\/b=H+1+1) (fun b _ e=>.inl e)) (fun _ _ x=>x)
      have HE:=zH (And.intro e0 (And.intro e1 hUu))
      clear e0 e1 hUu hset9 hU8
      go_wp2_with fail
      obtain⟨e0,e1,hUu⟩:=HE.out
      refine bodyPost_ret (v:=.agg #[.string (B fm),.slice va len vcap]) ?_ rfl ?_
      ·simp[results,Tryz.f191,go_sem,e0,e1]
      ·exact HF.out _ hUu
theorem zF2(t:Tm)(hs:t.size<=100000)(hany:t.zBe)(w:World)(cs:List Value)(h:zM zC w t.zN cs):Calls Tryz.prog 191 #[.agg cs.toArray] w (qD t.er w):=by
  have key:∀ N,N<=100000->∀(t:Tm),t.size<=N->t.zBe->∀(w:World)(cs:List Value),zM zC w t.zN cs->Calls Tryz.prog 191 #[.agg cs.toArray] w (qD t.er w):=by
    intro N
    induction N with
    |zero=>intro _ t h;have:=t.size_pos;omega
    |succ N ih=>intro hN t ht ha w cs hR;exact zEf (N+1) hN (fun t' h'=>ih (by omega) t' (by omega)) t ht ha w cs hR
  exact key t.size hs t (Nat.le_refl _) hany w cs h
end Go.Proofs.YthgmimncdjhgnaaGreatDoor
namespace Go.LF.Tm
def erE(t:Tm):Int:=if t.wf≠0 then t.wf else if t.zW || t.zZ then 0 else 32
def erV(t:Tm):Sm:=if erE t=0 then er t else .mk [] []
theorem zDC{t:Tm}(h:t.wf=0):t.small=true:=by
  unfold wf at h
  split at h
  ·cases h
  ·split at h
   ·cases h
   ·rename_i h2;simpa using h2
end Go.LF.Tm
namespace Go.Proofs.YthgmimncdjhgnaaGreatDoor
section
open Go.RowKit Go.LF
def zHs(s:Sm)(r:Value)(w:World)(e:Ending)(w':World):Prop:=
  ∃(f:List UInt8)(a:Option Addr)(len cap:Nat),e=.returned (.tuple #[.agg #[.string (B f),.slice a len cap],r])/\zM (fun x=>x<w.heap.size) w' s.zN [.string (B f),.slice a len cap]/\zD zC w w'
theorem zEH(t:Tm)(hs:t.wt<=1000000)(w:World)(cs:List Value)(h:zM zC w t.zN cs):
    Calls Tryz.prog 168 #[.agg cs.toArray] w (zHs t.erV (.int .i64 t.erE) w):=by
  have H1:=fun W hc=>yX t (by omega) W cs hc
  have H2:=fun W hc=>zAW t (by omega) W cs hc
  have H3:=fun W hc=>zEw t (by omega) W cs hc
  have H4:=fun(e:t.wf=0)W hc=>zF2 t (by have:=(Tm.yr e).2.1;omega) (Tm.yr e).1 W cs hc
  have hsm:t.wf=0->t.small=true:=Tm.zDC
  obtain⟨k,n,i,ts,a,cap,ht,rfl,hcap,_⟩:=zX h
  obtain⟨E,hE⟩:∃ E,E=t.erE:=⟨_,rfl⟩
  obtain⟨X,hX⟩:∃ X,X=t.erV:=⟨_,rfl⟩
  rw[<-hE,<-hX]
  unfold Tm.erV at hX
  rw[<-hE]at hX
  unfold Tm.erE at hE
  generalize t.wf=wf at *
  generalize t.small=sm at *
  generalize t.zW=ty at *
  generalize t.zZ=kd at *
  generalize t.er=r at *
  have HX:=zH (And.intro hE hX)
  clear hE hX ht hcap
  obtain⟨w1,hw1⟩:∃ w1,w1=(w.alloc (.cells #[.int .i64 k,.string (B n),.int .i64 i,.slice a ts.length cap] 29)).alloc (.cells #[.string (B []),.slice none 0 0] 115):=⟨_,rfl⟩
  have hU1:zD zC w w1:=by rw[hw1];exact((zD.refl zC w).alloc _).alloc _
  have hb1:zK w1 w.heap.size (.int .i64 k) (.string (B n)) (.int .i64 i) (.slice a ts.length cap) 29:=by rw[hw1];exact(zK.zL rfl).kept ((zD.refl zC _).alloc _)
  have hr1:zm w1 (w.heap.size+1) (.string (B [])) (.slice none 0 0) 115:=by rw[hw1];exact zm.zL (by simp)
  have HW:=zH hw1
  clear hw1
  generalize ts.length=tl at *
  have RN:∀ W9(e:Value),zD zC w W9->zHs (.mk [] []) e w (.returned (.tuple #[.agg #[.string (B []),.slice none 0 0],e])) W9:=fun W9 e hU=>⟨[],none,0,0,rfl,ZF.2 ⟨none,0,rfl,Nat.le_refl _,by simp only[List.map_nil,zG]⟩,hU⟩
  by_cases hwf:wf=0
  case neg=>
    have hwf':(wf !=0)=true:=by simpa using hwf
    have hE0:E=wf:=by rw[HX.out.1,if_pos hwf]
    have hX0:X=.mk [] []:=by rw[HX.out.2,if_neg (by rw[hE0];exact hwf)]
    have H0:=zH (And.intro hE0 hX0)
    clear hE0 hX0 hwf
    go_enter Tryz.func168,Tryz.ntmps168
    go_wp2_with fail
    rw[<-show B []={ data:=#[] }from rfl,<-HW.out]
    refine(H1 w1 (h.on hU1)).mono ?_
    rintro e w2 ⟨rfl,hU2⟩
    have hr2:=hr1.kept hU2
    have hw2:=hU1.and hU2
    obtain⟨x0,x1⟩:=hr2.cells
    obtain⟨y0,y1⟩:=hr2.zI
    have hrz:=hr2.lt
    have hset:=hr2.set (d0:=.string (B [])) (d1:=.slice none 0 0)
    obtain⟨e0,e1⟩:=hset.1.cells
    have HE:=zH (And.intro e0 (And.intro e1 hset.2))
    clear e0 e1 hset
    go_wp2_with fail
    obtain⟨e0,e1,hset⟩:=HE.out
    refine bodyPost_ret (v:=.tuple #[.agg #[.string (B []),.slice none 0 0],.int .i64 wf]) ?_ rfl ?_
    ·simp[results,Tryz.f168,go_sem,e0,e1]
    ·rw[H0.out.1,H0.out.2];exact RN _ _ (hw2.trans hset (fun b hb e=>by omega))
  subst hwf
  obtain rfl:=hsm rfl
  simp only[Bool.and_true]at H2 H3
  by_cases htk:(ty || kd)=true
  case neg=>
    obtain⟨rfl,rfl⟩:ty=false/\kd=false:=by cases ty<;>cases kd<;>simp_all
    have hE0:E=32:=by rw[HX.out.1];rfl
    have hX0:X=.mk [] []:=by rw[HX.out.2,if_neg (by rw[hE0];omega)]
    have H0:=zH (And.intro hE0 hX0)
    clear hE0 hX0 htk
    go_enter Tryz.func168,Tryz.ntmps168
    go_wp2_with fail
    rw[<-show B []={ data:=#[] }from rfl,<-HW.out]
    refine(H1 w1 (h.on hU1)).mono ?_
    rintro e w2 ⟨rfl,hU2⟩
    have hb2:=hb1.kept hU2
    have b2:=hb2.cells
    go_wp2_with fail
    refine(H2 w2 (h.on (hU1.and hU2))).mono ?_
    rintro e w3 ⟨rfl,hU3⟩
    have hb3:=hb2.kept hU3
    have b3:=hb3.cells
    go_wp2_with fail
    refine(H3 w3 (h.on ((hU1.and hU2).and hU3))).mono ?_
    rintro e w4 ⟨rfl,hU4⟩
    have hr4:=((hr1.kept hU2).kept hU3).kept hU4
    have hw4:=((hU1.and hU2).and hU3).and hU4
    obtain⟨x0,x1⟩:=hr4.cells
    obtain⟨y0,y1⟩:=hr4.zI
    have hrz:=hr4.lt
    have hset:=hr4.set (d0:=.string (B [])) (d1:=.slice none 0 0)
    obtain⟨e0,e1⟩:=hset.1.cells
    have HE:=zH (And.intro e0 (And.intro e1 hset.2))
    clear e0 e1 hset
    go_wp2_with fail
    obtain⟨e0,e1,hset⟩:=HE.out
    refine bodyPost_ret (v:=.tuple #[.agg #[.string (B []),.slice none 0 0],.int .i64 32]) ?_ rfl ?_
    ·simp[results,Tryz.f168,go_sem,e0,e1]
    ·rw[H0.out.1,H0.out.2];exact RN _ _ (hw4.trans hset (fun b hb e=>by omega))
  have hE0:E=0:=by rw[HX.out.1];cases ty<;>cases kd<;>simp_all
  have hX0:X=r:=by rw[HX.out.2,if_pos hE0]
  subst hE0 hX0
  clear HX RN
  cases ty
  ·obtain rfl:kd=true:=by simpa using htk
   go_enter Tryz.func168,Tryz.ntmps168
   go_wp2_with fail
   rw[<-show B []={ data:=#[] }from rfl,<-HW.out]
   refine(H1 w1 (h.on hU1)).mono ?_
   rintro e w2 ⟨rfl,hU2⟩
   have hb2:=hb1.kept hU2
   have b2:=hb2.cells
   go_wp2_with fail
   refine(H2 w2 (h.on (hU1.and hU2))).mono ?_
   rintro e w3 ⟨rfl,hU3⟩
   have hb3:=hb2.kept hU3
   have b3:=hb3.cells
   go_wp2_with fail
   refine(H3 w3 (h.on ((hU1.and hU2).and hU3))).mono ?_
   rintro e w4 ⟨rfl,hU4⟩
   have hb4:=hb3.kept hU4
   have b4:=hb4.cells
   have hw4:=((hU1.and hU2).and hU3).and hU4
   have hr4:=((hr1.kept hU2).kept hU3).kept hU4
   go_wp2_with fail
   refine(H4 trivial _ (h.on hw4)).mono ?_
   rintro e w5 ⟨f5,a5,len5,cap5,rfl,hR5,hU5⟩
   have hr5:=hr4.kept hU5
   have hw5:=hw4.and hU5
   have hz4:=hr4.lt
   obtain⟨x0,x1⟩:=hr5.cells
   obtain⟨y0,y1⟩:=hr5.zI
   have hrz:=hr5.lt
   have hset:=hr5.set (d0:=.string (B f5)) (d1:=.slice a5 len5 cap5)
   obtain⟨e0,e1⟩:=hset.1.cells
   have HE:=zH (And.intro e0 (And.intro e1 hset.2))
   clear e0 e1 hset
   go_wp2_with fail
   obtain⟨e0,e1,hset⟩:=HE.out
   refine bodyPost_ret (v:=.tuple #[.agg #[.string (B f5),.slice a5 len5 cap5],.int .i64 0]) ?_ rfl ?_
   ·simp[results,Tryz.f168,go_sem,e0,e1]
   ·exact⟨f5,a5,len5,cap5,rfl,zM.weaken (fun b _ e=>by omega) _ _ (zM.zF hset (fun b e=>by omega) _ _ hR5),hw5.trans hset (fun b hb e=>by omega)⟩
  ·
   go_enter Tryz.func168,Tryz.ntmps168
   go_wp2_with fail
   rw[<-show B []={ data:=#[] }from rfl,<-HW.out]
   refine(H1 w1 (h.on hU1)).mono ?_
   rintro e w2 ⟨rfl,hU2⟩
   have hb2:=hb1.kept hU2
   have b2:=hb2.cells
   go_wp2_with fail
   refine(H2 w2 (h.on (hU1.and hU2))).mono ?_
   rintro e w3 ⟨rfl,hU3⟩
   have hb3:=hb2.kept hU3
   have b3:=hb3.cells
   go_wp2_with fail
   have hw4:=(hU1.and hU2).and hU3
   have hr4:=(hr1.kept hU2).kept hU3
   refine(H4 trivial _ (h.on hw4)).mono ?_
   rintro e w5 ⟨f5,a5,len5,cap5,rfl,hR5,hU5⟩
   have hr5:=hr4.kept hU5
   have hw5:=hw4.and hU5
   have hz4:=hr4.lt
   obtain⟨x0,x1⟩:=hr5.cells
   obtain⟨y0,y1⟩:=hr5.zI
   have hrz:=hr5.lt
   have hset:=hr5.set (d0:=.string (B f5)) (d1:=.slice a5 len5 cap5)
   obtain⟨e0,e1⟩:=hset.1.cells
   have HE:=zH (And.intro e0 (And.intro e1 hset.2))
   clear e0 e1 hset
   go_wp2_with fail
   obtain⟨e0,e1,hset⟩:=HE.out
   refine bodyPost_ret (v:=.tuple #[.agg #[.string (B f5),.slice a5 len5 cap5],.int .i64 0]) ?_ rfl ?_
   ·simp[results,Tryz.f168,go_sem,e0,e1]
   ·exact⟨f5,a5,len5,cap5,rfl,zM.weaken (fun b _ e=>by omega) _ _ (zM.zF hset (fun b e=>by omega) _ _ hR5),hw5.trans hset (fun b hb e=>by omega)⟩
end
section
open Go.RowKit Go.LF
abbrev ErS(sb H gb go:Nat)(f:List UInt8)(sv b3:Value)(k1:Int)(n1:List UInt8)(x1:Int)(v1:Value)(w':World):Prop:=
  w'.cell? ⟨sb,0,none⟩=some (.string (B f))/\w'.cell? ⟨sb,1,none⟩=some sv/\w'.cell? ⟨H,3,none⟩=some b3/\
  w'.cell? ⟨gb,go,none⟩=some (.int .i64 k1)/\w'.cell? ⟨gb,go+1,none⟩=some (.string (B n1))/\w'.cell? ⟨gb,go+2,none⟩=some (.int .i64 x1)/\w'.cell? ⟨gb,go+3,none⟩=some v1
theorem ErS.zF{sb H gb go:Nat}{f:List UInt8}{sv b3:Value}{k1:Int}{n1:List UInt8}{x1:Int}{v1:Value}{w w':World}{S:Nat->Prop}(h:ErS sb H gb go f sv b3 k1 n1 x1 v1 w)(hU:zD S w w')(h1:¬S sb)(h2:¬S H)(h3:¬S gb):ErS sb H gb go f sv b3 k1 n1 x1 v1 w':=
  ⟨hU.cell h.1 h1,hU.cell h.2.1 h1,hU.cell h.2.2.1 h2,hU.cell h.2.2.2.1 h3,hU.cell h.2.2.2.2.1 h3,hU.cell h.2.2.2.2.2.1 h3,hU.cell h.2.2.2.2.2.2 h3⟩
theorem ErS.on{sb H gb go:Nat}{f:List UInt8}{sv b3:Value}{k1:Int}{n1:List UInt8}{x1:Int}{v1:Value}{w w':World}(h:ErS sb H gb go f sv b3 k1 n1 x1 v1 w)(hU:zD zC w w'):ErS sb H gb go f sv b3 k1 n1 x1 v1 w':=h.zF hU (fun x=>x) (fun x=>x) (fun x=>x)
theorem ErS.zKi{sb H gb go:Nat}{f:List UInt8}{sv b3:Value}{k1:Int}{n1:List UInt8}{x1:Int}{v1:Value}{w:World}{r:Nat}(h:ErS sb H gb go f sv b3 k1 n1 x1 v1 w)(h1:sb≠r)(h2:H≠r)(h3:gb≠r)(o:Nat)(v:Value):ErS sb H gb go f sv b3 k1 n1 x1 v1 (w.setCell ⟨r,o,none⟩ v):=
  h.zF (zD.set (zD.refl _ _) o v) h1 h2 h3
theorem zFH(t:Tm):t.size<=100000->t.zBe->∀(w:World)(cs:List Value),zM zC w t.zN cs->Calls Tryz.prog 126 #[.agg cs.toArray] w (qD t.er w):=by
  induction t using Tm.ind with
  |h k nm i ts ih=>
   intro hsz hany w cs h
   obtain⟨a,cap,rfl,hcap,hE⟩:=zk.1 h
   obtain⟨w1,hw1⟩:∃ w1,w1=(w.alloc (.cells #[.int .i64 k,.string (B nm),.int .i64 i,.slice a ts.length cap] 29)).alloc (.cells #[.string (B []),.slice none 0 0] 115):=⟨_,rfl⟩
   have hU1:zD zC w w1:=by rw[hw1];exact((zD.refl zC w).alloc _).alloc _
   have hB1:zK w1 w.heap.size (.int .i64 k) (.string (B nm)) (.int .i64 i) (.slice a ts.length cap) 29:=by rw[hw1];exact(zK.zL rfl).kept ((zD.refl zC _).alloc _)
   have hS1:zm w1 (w.heap.size+1) (.string (B [])) (.slice none 0 0) 115:=by rw[hw1];exact zm.zL (by simp)
   have hE1:=hE.on hU1
   have HW1:=zH hw1
   obtain⟨H,hH⟩:∃ H,H=w.heap.size:=⟨_,rfl⟩
   have HH:=zH hH
   rw[<-hH]at hB1 hS1
   have hal:=Tm.zB5 hany
   have HC:=zH hcap
   have leaf:∀(W:World)(f:List UInt8),zD zC w W->zm W (H+1) (.string (B [])) (.slice none 0 0) 115->qD (.mk f []) w (.returned (.agg #[.string (B f),.slice none 0 0])) ((W.setCell ⟨H+1,0,none⟩ (.string (B f))).setCell ⟨H+1,1,none⟩ (.slice none 0 0)):=by
     intro W f hU hb
     exact⟨f,none,0,0,rfl,ZF.2 ⟨none,0,rfl,Nat.le_refl _,by simp only[List.map_nil,zG]⟩,hU.trans (hb.set (d0:=.string (B f)) (d1:=.slice none 0 0)).2 (fun b hb e=>by have:=HH.out;omega)⟩
   have HLF:=zH leaf
   clear hw1 hH h leaf hcap
   obtain⟨b0,b1,b2,b3⟩:=hB1.cells
   obtain⟨z0,z1⟩:=hS1.zI
   obtain⟨y0,y1⟩:=hS1.cells
   by_cases hk2:k=2
   case neg=>
     by_cases hk1:k=1
     ·subst hk1
      have her:(Tm.mk 1 nm i ts).er=.mk [116,121,112,101] []:=by rw[Tm.zAh];simp
      rw[her]
      have hset:=hS1.set (d0:=.string (B [116,121,112,101])) (d1:=.slice none 0 0)
      obtain⟨e0,e1⟩:=hset.1.cells
      have HE:=zH (And.intro e0 e1)
      clear e0 e1 hset her
      go_enter Tryz.func126,Tryz.ntmps126
      go_upto_region 1 with fail
      rw[<-show B []={ data:=#[] }from rfl,<-HW1.out,<-HH.out]
      go_wp2_with fail
      obtain⟨e0,e1⟩:=HE.out
      refine bodyPost_ret (v:=.agg #[.string (B [116,121,112,101]),.slice none 0 0]) ?_ rfl ?_
      ·simp[results,Tryz.f126,go_sem,e0,e1]
      ·exact HLF.out w1 _ hU1 hS1
     ·have her:(Tm.mk k nm i ts).er=.mk nm []:=by rw[Tm.zAh];simp[hk1,hk2]
      have t1:(k == 1)=false:=by simpa using hk1
      have t2:(k == 2)=false:=by simpa using hk2
      rw[her]
      have hset:=hS1.set (d0:=.string (B nm)) (d1:=.slice none 0 0)
      obtain⟨e0,e1⟩:=hset.1.cells
      have HE:=zH (And.intro e0 e1)
      clear e0 e1 hset her hk1 hk2
      go_enter Tryz.func126,Tryz.ntmps126
      go_upto_region 1 with fail
      rw[<-show B []={ data:=#[] }from rfl,<-HW1.out,<-HH.out]
      go_wp2_with fail
      obtain⟨e0,e1⟩:=HE.out
      refine bodyPost_ret (v:=.agg #[.string (B nm),.slice none 0 0]) ?_ rfl ?_
      ·simp[results,Tryz.f126,go_sem,e0,e1]
      ·exact HLF.out w1 _ hU1 hS1
   subst hk2
   obtain⟨x,y,rfl⟩:∃ x y,ts=[x,y]:=by
     match ts,hal.2.2.2 rfl with
     | [x,y],_=>exact⟨x,y,rfl⟩
   have her:(Tm.mk 2 nm i [x,y]).er=.mk y.er.fam (x.er :: y.er.args):=by rw[Tm.zAh,if_pos (by decide),Tm.zFe]
   rw[her]
   obtain⟨gb,go',k1,n1,x1,s1,c1,rfl,hgl,hgO,g0,g1,g2,g3,hR1⟩:=zd hE1 0 (by simp)
   have hgb:gb<H:=by
     obtain⟨b',o',_,_,_,_,_,e,hb',_⟩:=zd hE 0 (by simp)
     cases e
     rw[HH.out];exact hb'
   obtain⟨gb',go2,k2,n2,x2,s2,c2,ega,hgl2,hgO2,p0,p1,p2,p3,hR2⟩:=zd hE1 1 (by simp)
   simp only[Option.some.injEq,Addr.mk.injEq,and_true]at ega
   obtain⟨rfl,rfl⟩:=ega
   simp only[List.getElem_cons_zero,List.getElem_cons_succ,Nat.zero_mul,Nat.one_mul,Nat.add_zero]at g0 g1 g2 g3 hR1 p0 p1 p2 p3 hR2
   obtain⟨us,rfl,hul,hc1,hE1'⟩:=QW hR1
   obtain⟨us2,rfl,hul2,hc2,hE2'⟩:=QW hR2
   simp only[Tm.ZR]at g3 p3 hR1 hR2
   simp only[Tm.zS,Tm.zP]at hsz
   have IH1:=fun W(hW:zD zC w1 W)=>ih (.mk k1 n1 x1 us) (by simp) (by simp;omega) (hal.1 _ (by simp)) W _ (hR1.on hW)
   have IH2:=fun W(hW:zD zC w1 W)=>ih (.mk k2 n2 x2 us2) (by simp) (by simp;omega) (hal.1 _ (by simp)) W _ (hR2.on hW)
   have hz1:(Tm.mk k1 n1 x1 us).er.size<=100000:=by have:=(Tm.zFN (.mk k1 n1 x1 us)).1;simp at this;omega
   have hz2:(Tm.mk k2 n2 x2 us2).er.args.length<=100000:=by have:=(Tm.zFN (.mk k2 n2 x2 us2)).2;have h2:=Sm.zO (Tm.mk k2 n2 x2 us2).er.args;simp at this;omega
   generalize (Tm.mk k1 n1 x1 us).er=e1 at *
   generalize (Tm.mk k2 n2 x2 us2).er=e2 at *
   have HGX:=zH (And.intro hgl hz2)
   clear hE hal ih hany hE1 hE1' hE2' hR1 hR2 her hgO hgO2 hgl2 hul hul2 hc1 hc2 hsz hz1 hz2
   simp only[List.length_cons,List.length_nil,Nat.zero_add,Nat.reduceAdd]at b3 hB1
   go_enter Tryz.func126,Tryz.ntmps126
   go_upto_region 1 with fail
   rw[<-show B []={ data:=#[] }from rfl]
   simp only[List.length_cons,List.length_nil,Nat.zero_add,Nat.reduceAdd]at HW1
   rw[<-HW1.out,<-HH.out]
   have q1:=hgl
   go_wp2_with fail
   refine(IH2 w1 (zD.refl zC w1)).mono ?_
   rintro e w2 ⟨f2,sa,sl,sc,rfl,hR2,hU2⟩
   obtain⟨w3,hw3⟩:∃ w3,w3=w2.alloc (.cells #[.string (B f2),.slice sa sl sc] 115):=⟨_,rfl⟩
   have hUa:zD zC w2 w3:=by rw[hw3];exact(zD.refl zC w2).alloc _
   have hU13:=hU2.and hUa
   have hs3:zm w3 w2.heap.size (.string (B f2)) (.slice sa sl sc) 115:=by rw[hw3];exact zm.zL rfl
   have hR3:=hR2.on hUa
   obtain⟨f2',ss,sa',sc',he2,ecs,hsc,hE3⟩:=XZ hR3
   simp only[List.cons.injEq,Value.string.injEq,Value.slice.injEq,and_true]at ecs
   obtain⟨ef,rfl,rfl,rfl⟩:=ecs
   obtain rfl:f2=f2':=by have:=congrArg (fun b:ByteArray=>b.data.toList) ef;simpa using this
   have HE2:=zH he2
   have hssl:ss.length<=100000:=by have:=HGX.out.2;rw[he2]at this;simpa using this
   obtain⟨SB,hSB⟩:∃ SB,SB=w2.heap.size:=⟨_,rfl⟩
   rw[<-hSB]at hs3
   have hSBz:w1.heap.size<=SB:=by rw[hSB];exact hU2.size
   have HSB:=zH hSB
   have HW3:=zH hw3
   have hres3:=hS1.kept hU13
   have S3:ErS SB H gb go' f2 (.slice sa ss.length sc) (.slice (some ⟨gb,go',none⟩) 2 cap) k1 n1 x1 (.slice s1 us.length c1) w3:=⟨hs3.cells.1,hs3.cells.2,(hB1.kept hU13).cells.2.2.2,hU13.cell g0 (fun x=>x),hU13.cell g1 (fun x=>x),hU13.cell g2 (fun x=>x),hU13.cell g3 (fun x=>x)⟩
   have hU3:=hU1.and hU13
   have HS:=zH hs3
   clear hw3 hSB hUa hR2 hU2 he2 ef hR3 b0 b1 b2 b3 z0 z1 y0 y1 g0 g1 g2 g3 p0 p1 p2 p3 hB1 hs3 IH2
   go_upto_region 6 with fail
   rw[<-HSB.out,<-HW3.out]
   have hd:zD zC w3 w3.drew:=(zD.refl zC w3).drew
   have Sd:=S3.on hd
   have hzd:w3.heap.size<=w3.drew.heap.size:=hd.size
   have hSBl:=HS.out.lt
   have hS1lt:=hS1.lt
   have hHW:H+1<w1.heap.size:=by omega
   have hE3':=zG.zQ _ _ _ _ hE3
   have n1':SB≠H+1:=by have:=hres3.lt;have:=hS1lt;omega
   have n2':H≠H+1:=by omega
   have n3':gb≠H+1:=by omega
   go_region_held3 (fun w'=>ErS SB H gb go' f2 (.slice sa ss.length sc) (.slice (some ⟨gb,go',none⟩) 2 cap) k1 n1 x1 (.slice s1 us.length c1) w')
     (first |(with_reducible assumption)|(with_reducible exact Sd)|(with_reducible exact ErS.zKi (ErS.zKi S8 n1' n2' n3' 0 _) n1' n2' n3' 1 _))
     (first
       |((refine Qt (by rfl) _ _ (by rfl) (by rfl) hrow6 sa ss.length sc ss (by rfl) rfl hE6 (by simp;omega) (by rw[World.size_alloc];omega) ?_;intro v8 w8 css8 hS8 hg8 hat8;have hgo:=zy hg8;have S8:=S6a.zF hgo (by simp[Value.ownBlock];omega) (by simp[Value.ownBlock];omega) (by simp[Value.ownBlock];omega);have hr8:=(hr6.kept hal6).zF hgo (by simp[Value.ownBlock];omega);obtain⟨r0,r1⟩:=hr8.cells;obtain⟨r2,r3⟩:=hr8.zI;obtain⟨fa,fc,e8,hfc,hF⟩:=hS8.rep;subst e8;have HG8:=zH (And.intro hg8 hat8);clear hg8 hat8))
       |((go_at_call 126);(with_reducible refine(IH1 _ (hU13.and hd)).mono ?_);rintro e w6 ⟨f1',a1,len1,cap1,rfl,hR6,hU6⟩;have S6:=Sd.on hU6;have hal6:=(zD.refl zC w6).alloc (.cells #[.string (B f1'),.slice a1 len1 cap1] 115);have S6a:=S6.on hal6;have hz6:w3.heap.size<=w6.heap.size:=(Nat.le_trans hzd hU6.size);have hrow6:=Yg.one (O:=fun b=>b<=H+1) (zM.weaken (fun b _ e=>(by omega)) _ _ hR6);have hE6:zG (fun b=>b<=H+1\/w6.heap.size<=b) (w6.alloc (.cells #[.string (B f1'),.slice a1 len1 cap1] 115)) 2 (ss.map Sm.zN) sa 0:=(zG.weaken (fun b _ e=>(by omega)) _ _ _ _ (((hE3'.on hd).on hU6).on hal6));have hr6:=(hres3.kept hd).kept hU6;have hr6l:=hr6.lt))
   all_goals
     have hset:=hr8.set (d0:=.string (B f2)) (d1:=.slice fa ([e1]++ss).length fc)
     obtain⟨e00,e11⟩:=hset.1.cells
     have HE:=zH (And.intro e00 (And.intro e11 hset.2))
     clear e00 e11 hset
     go_wp2_with fail
     obtain⟨e00,e11,hset⟩:=HE.out
     have hl1:([e1]++ss).length=ss.length+1:=by simp
     rw[hl1]at e00 e11 hset hfc
     have hF9:=zG.zF hset (fun b e=>.inl ⟨by show b<=H+1;omega,by omega⟩) _ _ _ _ hF
     have hF0:zG (fun b=>b<w.heap.size) _ 2 ((e1 :: ss).map Sm.zN) fa 0:=zG.weaken (fun b _ e=>(by have:=HH.out;left;exact⟨by omega,by omega⟩)) _ _ _ _ hF9
     refine bodyPost_ret (v:=.agg #[.string (B f2),.slice fa (ss.length+1) fc]) ?_ rfl ?_
     ·simp[results,Tryz.f126,go_sem,e00,e11]
     ·rw[HE2.out]
      refine⟨f2,fa,ss.length+1,fc,rfl,ZF.2 ⟨fa,fc,rfl,hfc,hF0⟩,?_⟩
      exact(((hU3.and (hd.and hU6)).and hal6).trans (zy HG8.out.1) (fun b hb e=>by simp[Value.ownBlock]at e;have:=HH.out;omega)).trans hset (fun b hb e=>by have:=HH.out;omega)
end
end Go.Proofs.YthgmimncdjhgnaaGreatDoor
