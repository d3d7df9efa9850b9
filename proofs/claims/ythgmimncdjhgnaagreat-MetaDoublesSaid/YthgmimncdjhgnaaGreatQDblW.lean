/- MetaDoubles: its walk. -/
import Derived.Test.YthgmimncdjhgnaaGreatQDblP
import Derived.Test.YthgmimncdjhgnaaGreatQFK
import Derived.Test.YthgmimncdjhgnaaGreatQFG
import Derived.Test.YthgmimncdjhgnaaGreatQFM
import Derived.Test.YthgmimncdjhgnaaGreatQMvPut
import Derived.Test.YthgmimncdjhgnaaGreatQCG
import Derived.Test.YthgmimncdjhgnaaGreatQDF
import Derived.Test.YthgmimncdjhgnaaGreatQFS
import Derived.Test.YthgmimncdjhgnaaGreatQFB
import Derived.Deep.CutRange
import Derived.Deep.AppendLies
set_option maxRecDepth 100000
set_option maxHeartbeats 16000000
namespace Go.Proofs.YthgmimncdjhgnaaGreat
open Go.RowKit Go.LF
theorem xy.ofD{O:Nat->Prop}{base:Nat}{W:World}{a:Option Addr}{n cap:Nat}{zs:List Mv}{css:List (List Value)}(h:yB 28 6 O base W (.slice a n cap) (zs.map Mv.zN) css)(hO:∀ b,O b->b<base):xy O W a zs:=by
  intro i hi;obtain⟨a',c',hv,_,hc⟩:=h.cells;simp only[Value.slice.injEq]at hv;obtain⟨rfl,_,rfl⟩:=hv;have hi':i<css.length:=by have:=h.1;simp at this;omega
  obtain⟨g,rfl,hown,hb,hlt,hf,hg⟩:=hc i (by simpa using hi) hi';have h6:=h.2.2.2 i (by simpa using hi) hi';simp only[List.getElem_map]at h6;exact⟨g,css[i],rfl,fun e=>by have:=hO g e;omega,hlt,hf,h.2.1 _ (List.getElem_mem hi'),hg,zK.weaken (fun b _ e=>e.elim (fun e=>.inr (by rw[e];exact hown)) .inl) _ _ h6⟩
theorem xy.zIU{W:World}{a:Option Addr}{zs:List Mv}(h:xy zC W a zs):zH zC W 6 (zs.map Mv.zN) a 0:=
  zn _ _ _ (fun i hi=>by
    obtain⟨g,cs,h1,_,h3,_,h5,h6,h7⟩:=h i (by simpa using hi);refine⟨g,0,cs,h1,h3,fun e=>e,h5,fun m u hu=>?_,?_⟩
    ·rw[show 0+0+i * 6+m=i * 6+m by omega];exact h6 m u hu
    ·simp only[List.getElem_map];exact zK.weaken (fun _ _ e=>e.elim) _ _ h7)
theorem zBP{d:Bool}{k:Nat}{zs:List Mv}(h:∀ m∈zs,Gd d k m){j:Nat}(hj:j<zs.length){vs:List Tm}(hv:vs=[]\/vs=[zCg]\/vs=[bZ]\/∃ i,i<k/\vs=[qv d k i]):∀ m∈zs.set j ⟨zs[j].name,zs[j].type,vs⟩,Gd d k m:=fun m hm=>by
  rcases List.mem_or_eq_of_mem_set hm with h1 |rfl
  ·exact h m h1
  ·exact⟨(h _ (List.getElem_mem hj)).1,hv⟩
theorem zEZ(l:List Mv)(t:Tm):(zz l t).size<=1000000:=by
  by_cases h:yf l t=0
  ·obtain⟨h1,h2,h3⟩:=zAy h;have hw:(zz l t).wf=0:=by unfold zz;rw[if_pos h];exact QR l 16385 t 0 h1 h3
   have:=Tm.x8 hw;have:=Tm.zk (zz l t);omega
  ·unfold zz;rw[if_neg h];decide
theorem QS{wr w15 w16:World}{g i:Nat}{t:Tm}{zs:List Mv}{c0 c1 c2 c3:Value}(hP:xy zC wr (some ⟨g,0,none⟩) zs)(hU:zD zC wr w15)(hg:g<wr.heap.size)(hR:zK (fun b=>b=g\/False) w15 t.zN [c0,c1,c2,c3])(hi:i<zs.length)(hw:w16=w15.alloc (.cells #[c0,c1,c2,c3] 25)):
    (xy zC (w16.setCell ⟨g,i * 6+5,none⟩ (.slice (some ⟨w15.heap.size,0,none⟩) 1 1)) (some ⟨g,0,none⟩) (zs.set i ⟨zs[i].name,zs[i].type,[t]⟩)/\
    zD (fun b=>b=g) wr (w16.setCell ⟨g,i * 6+5,none⟩ (.slice (some ⟨w15.heap.size,0,none⟩) 1 1)))/\(∃ v,w16.cell? ⟨g,i * 6+5,none⟩=some v)/\w16.frozen? ⟨g,i * 6+5,none⟩=false/\g<w16.heap.size:=by
  have hUa:zD zC w15 w16:=by rw[hw];exact(zD.refl zC _).alloc _
  have hC:zL w16 w15.heap.size c0 c1 c2 c3 25:=by rw[hw];exact zL.zI rfl
  have hP16:=(hP.zF hU (fun _ e=>e)).zF hUa (fun _ e=>e);have hs:=hU.size;have hput:=hP16.Z7 (j:=i) (vs:=[t]) (wa:=some ⟨w15.heap.size,0,none⟩) (wc:=1) hi (Nat.le_refl _) (Xc (t:=t) (hR.on hUa) (by rintro(e |e)<;>first |omega |exact e) hC);obtain⟨g2,kx,nx,ix,ax,cx,vx,vxc,e2,_,_,hgf,⟨p0,p1,p2,p3,p4,p5⟩,_,_,_⟩:=hP16.open hi;cases e2
  exact⟨⟨hput.1,((hU.and hUa).mono (fun _ _ e=>e.elim)).trans hput.2 (fun _ _ e=>e)⟩,⟨_,p5⟩,hgf _,Nat.lt_of_lt_of_le hg (hU.and hUa).size⟩
theorem Xp(n:Int)(d:Bool)(w:World):Calls Tryz.prog 3 #[.int .i64 n,.bool d] w fun e w'=>e=.returned (.bool true)/\zD zC w w':=by
  have C1:=fun W=>zFw n 20 (by omega) (by omega) W
  obtain⟨hc0,hc1⟩:=zDX n 20 (by omega);obtain⟨k,hk⟩:∃ k:Nat,1+zA0 n 20=(k:Int):=⟨(1+zA0 n 20).toNat,by omega⟩;have hk1:1<=k/\k<=20:=by omega
  have HK:=zG hk1;have hkw:IntKind.i64.wrap (1+zA0 n 20)=(k:Int):=by rw[hk];exact Go.IntWalk.i64_in _ (by omega)
  obtain⟨w1,hw1⟩:∃ w1,w1=w.alloc (.cells #[.int .i64 4,.string (B [110,97,116]),.int .i64 0,.slice none 0 0] 25):=⟨_,rfl⟩;have hU1:zD zC w w1:=by rw[hw1];exact(zD.refl zC w).alloc _
  have hA1:zL w1 w.heap.size (.int .i64 4) (.string (B [110,97,116])) (.int .i64 0) (.slice none 0 0) 25:=by rw[hw1];exact zL.zI rfl
  have HW1:=zG hw1;obtain⟨A,hA⟩:∃ A,A=w.heap.size:=⟨_,rfl⟩;rw[<-hA]at hA1;have HA:=zG hA;obtain⟨H,hH⟩:∃ H,H=w1.heap.size:=⟨_,rfl⟩;have HH:=zG hH;have hAH:A<H:=by rw[hH];exact hA1.lt
  obtain⟨i0,hi,hi0,hi1,hi2⟩:=info_parts qY;have hki:(k:Int)<=20:=by omega
  clear hw1 hA hH hk hk1 hc0 hc1;go_enter Tryz.func3,Tryz.ntmps3
  go_upto_region 2 with(first |((go_at_call 4);(with_reducible refine(C1 _).mono ?_);rintro e w7 ⟨rfl,rfl⟩))
  go_upto_region 4 with fail
  rw[<-show B [110,97,116]={ data:=#[110,97,116] }from rfl,<-HW1.out,<-HA.out];go_wp2_with fail
  go_loopw [7,8] (fun v7 v8 wr=>∃(j:Nat)(zs:List Mv)(css:List (List Value))(vv:Value),vv=v7/\v8=.int .i64 (j:Int)/\j<=k+1/\zs.length=j/\(∀ m∈zs,Gd d k m)/\yB 28 6 zC H wr vv (zs.map Mv.zN) css/\zD zC w1 wr)
    (fun _ v8 _=>30 - (intOf v8).toNat)
  case atStart=>exact⟨0,[],[],_,rfl,rfl,by omega,rfl,(fun m h=>by cases h),yB.nil _ _ _ _ _,zD.refl _ _⟩
  case round=>
    obtain⟨j,zs,css,vv,hvv,rfl,hj,hzl,hG,hD,hU⟩:=hrel;subst hvv;have HZL:=zG hzl;clear hzl;have hAr:=hA1.kept hU;obtain⟨x0,x1,x2,x3⟩:=hAr.cells;have hj0:(j:Int)<=30:=by have:=HK.out;omega
    have hHr:H<=wr.heap.size:=by have:=hU.size;have:=HH.out;omega
    by_cases hlt:j<=k
    ·have hji:(j:Int)<=(k:Int):=by omega
     have hDl:(zs.map Mv.zN).length=j:=by rw[List.length_map];exact HZL.out
     obtain⟨ds,hds⟩:∃ ds,ds=zs.map Mv.zN:=⟨_,rfl⟩;rw[<-hds]at hD hDl;have hdl:ds.length<=30:=by have:=HK.out;omega
     have hal:=(zD.refl zC wr).alloc (.cells #[.string (B []),.int .i64 4,.string (B [110,97,116]),.int .i64 0,.slice none 0 0,.slice none 0 0] 28);have HD:=zG (And.intro hds hDl);clear hds hDl;go_wp2_with (at_builtin;go_loud (refine wpList_append_lies _ (by rfl) _ _ 26 (by rfl) H 28 i0 (.agg #[.string (B []),.int .i64 0,.string (B []),.int .i64 0,.slice none 0 0,.slice none 0 0]) 6 96 (by kernel_rfl) hi hi0 hi1 hi2 rfl (by decide) vv ds.length css.flatten (by rfl) ((hD.on hal (fun _ e=>e.elim)).2.2.1) ⟨wr.heap.size,0,none⟩ 1 1 [.string (B []),.int .i64 4,.string (B [110,97,116]),.int .i64 0,.slice none 0 0,.slice none 0 0] (by rfl) rfl (World.news_of_block (heap_alloc_new wr _)) (by simp[Value.oneCell']) (by omega) (by simp only[maxLen];omega) (by omega) (by simp;omega) _ rfl ?_);intro g' cap' w7 hown hgrow hat hlt7)
     have hD7:=(hD.on hal (fun _ e=>e.elim)).appended (d:=(⟨[],zBg,[]⟩:Mv).zN) rfl (Zv.2 ⟨[.int .i64 4,.string (B [110,97,116]),.int .i64 0,.slice none 0 0],none,0,rfl,zV 4 [110,97,116] 0,Nat.le_refl _,by simp only[List.map_nil,zH]⟩) hown hgrow hat (Nat.le_refl _);have hrow7:=zD.ofRow (zy.grown (hD.on hal (fun _ e=>e.elim)).2.2.1 hgrow);have hU7:zD zC w1 w7:=(hU.and hal).trans hrow7 (fun b hb e=>by have:=HH.out;omega);have hmap:ds++[(⟨[],zBg,[]⟩:Mv).zN]=(zs++[(⟨[],zBg,[]⟩:Mv)]).map Mv.zN:=by rw[HD.out.1,List.map_append];rfl
     rw[hmap]at hD7;have HN7:=zG (And.intro hD7 hU7);clear hD7 hrow7 hU7 hmap hown hgrow hat hal hD;go_roundw
     case rel=>exact⟨j+1,zs++[(⟨[],zBg,[]⟩:Mv)],_,_,rfl,by go_num,by omega,by simp[HZL.out],fun m hm=>(by
       rcases List.mem_append.1 hm with h |h
       ·exact hG m h
       ·rw[List.mem_singleton.1 h];exact⟨.inl rfl,.inl rfl⟩),HN7.out.1,HN7.out.2⟩
     case measure=>simp[intOf];have:=HK.out;omega
    ·obtain rfl:j=k+1:=by omega
     have hjn:¬((k+1:Nat):Int)<=(k:Int):=by omega
     obtain⟨wq,rfl⟩:∃ q,q=wr:=⟨_,rfl⟩;obtain⟨w8,hw8⟩:∃ z,z=((wq.alloc (.cells #[.int .i64 4,.string (B [110,97,116]),.int .i64 0,.slice none 0 0,.int .i64 4,.string (B [110,97,116]),.int .i64 0,.slice none 0 0] 25)).alloc (.cells #[.int .i64 4,.string (B [110,97,116]),.int .i64 0,.slice none 0 0,.int .i64 2,.string (B []),.int .i64 0,.slice (some ⟨wq.heap.size,0,none⟩) 2 2] 25)).alloc (.cells #[.int .i64 2,.string (B []),.int .i64 0,.slice (some ⟨wq.heap.size+1,0,none⟩) 2 2] 25):=⟨_,rfl⟩;have hU8:zD zC wq w8:=by rw[hw8];exact(((zD.refl zC wq).alloc _).alloc _).alloc _
     have hF8:zL w8 (wq.heap.size+1+1) (.int .i64 2) (.string (B [])) (.int .i64 0) (.slice (some ⟨wq.heap.size+1,0,none⟩) 2 2) 25:=by rw[hw8];exact zL.zI (by simp)
     have hRF:∀ O:Nat->Prop,(∀ b,O b->b<wq.heap.size)->zK O w8 zAC.zN [.int .i64 2,.string (B []),.int .i64 0,.slice (some ⟨wq.heap.size+1,0,none⟩) 2 2]:=fun O hO=>by
       rw[hw8];have h1:=heap_alloc_new wq (.cells #[.int .i64 4,.string (B [110,97,116]),.int .i64 0,.slice none 0 0,.int .i64 4,.string (B [110,97,116]),.int .i64 0,.slice none 0 0] 25);have r1:zK O _ bPi.zN [.int .i64 2,.string (B []),.int .i64 0,.slice (some ⟨wq.heap.size,0,none⟩) 2 2]:=zi.2 ⟨_,2,rfl,Nat.le_refl _,Xq (T:=25) (zV 4 [110,97,116] 0) (zV 4 [110,97,116] 0) (fun e=>by have:=hO _ e;omega) h1⟩;have h2:=heap_alloc_new (wq.alloc (.cells #[.int .i64 4,.string (B [110,97,116]),.int .i64 0,.slice none 0 0,.int .i64 4,.string (B [110,97,116]),.int .i64 0,.slice none 0 0] 25)) (.cells #[.int .i64 4,.string (B [110,97,116]),.int .i64 0,.slice none 0 0,.int .i64 2,.string (B []),.int .i64 0,.slice (some ⟨wq.heap.size,0,none⟩) 2 2] 25);simp only[World.size_alloc]at h2;exact(zi.2 ⟨_,2,rfl,Nat.le_refl _,Xq (T:=25) (zV 4 [110,97,116] 0) (r1.on ((zD.refl zC _).alloc _)) (fun e=>by have:=hO _ e;omega) h2⟩).on ((zD.refl zC _).alloc _)
     have HW8:=zG hw8;clear hw8;go_upto_region 9 with fail
     rw[<-show B []={ data:=#[] }from rfl,<-HW8.out];have hF8c:=hF8.cells;obtain⟨y0,y1,y2,y3⟩:=hF8c;have hD8:=hD.on hU8 (fun _ e=>e.elim);have hDl:(zs.map Mv.zN).length=k+1:=by rw[List.length_map];exact HZL.out
     obtain⟨ds,hds⟩:∃ ds,ds=zs.map Mv.zN:=⟨_,rfl⟩;rw[<-hds]at hD8 hDl;have hdl:ds.length<=30:=by have:=HK.out;omega
     have hown8:∀ b,vv.ownBlock=some b->b<wq.heap.size:=fun b e=>(hD.2.2.1.lt b e).2
     have hal:=(zD.refl zC w8).alloc (.cells #[.string (B []),.int .i64 2,.string (B []),.int .i64 0,.slice (some ⟨wq.heap.size+1,0,none⟩) 2 2,.slice none 0 0] 28);have hR9:zK (fun b=>False\/vv.ownBlock=some b) _ (⟨[],zAC,[]⟩:Mv).zN _:=Zv.2 ⟨[.int .i64 2,.string (B []),.int .i64 0,.slice (some ⟨wq.heap.size+1,0,none⟩) 2 2],none,0,rfl,(hRF _ (fun b e=>e.elim (fun e=>e.elim) (hown8 b))).on hal,Nat.le_refl _,by simp only[List.map_nil,zH]⟩;have hz8:=hU8.size;have HD:=zG (And.intro hds (And.intro hDl hR9));have hUw8:=hU.and hU8;have hH8:H<=w8.heap.size:=by omega
     clear hds hDl x0 x1 x2 x3 hD hR9 hRF hown8;go_upto_region 10 with(at_builtin;go_loud (refine wpList_append_lies _ (by rfl) _ _ 26 (by rfl) H 28 i0 (.agg #[.string (B []),.int .i64 0,.string (B []),.int .i64 0,.slice none 0 0,.slice none 0 0]) 6 96 (by kernel_rfl) hi hi0 hi1 hi2 rfl (by decide) vv ds.length css.flatten (by rfl) ((hD8.on hal (fun _ e=>e.elim)).2.2.1) ⟨w8.heap.size,0,none⟩ 1 1 [.string (B []),.int .i64 2,.string (B []),.int .i64 0,.slice (some ⟨wq.heap.size+1,0,none⟩) 2 2,.slice none 0 0] (by rfl) rfl (World.news_of_block (heap_alloc_new w8 _)) (by simp[Value.oneCell']) (by omega) (by simp only[maxLen];omega) (by omega) (by simp;omega) _ rfl ?_);intro g cap' w9 hown hgrow hat hlt7)
     have hD9:=(hD8.on hal (fun _ e=>e.elim)).appended (d:=(⟨[],zAC,[]⟩:Mv).zN) rfl HD.out.2.2 hown hgrow hat (Nat.le_refl _);have hrow9:=zD.ofRow (zy.grown (hD8.on hal (fun _ e=>e.elim)).2.2.1 hgrow);have hUw9:zD zC w1 w9:=(hUw8.and hal).trans hrow9 (fun b hb e=>by have:=HH.out;omega);have hmap:ds++[(⟨[],zAC,[]⟩:Mv).zN]=(zs++[(⟨[],zAC,[]⟩:Mv)]).map Mv.zN:=by rw[HD.out.1,List.map_append];rfl
     rw[hmap]at hD9;have hP9:xy zC w9 (some ⟨g,0,none⟩) (zs++[(⟨[],zAC,[]⟩:Mv)]):=xy.ofD hD9 (fun _ e=>e.elim)
     have hG9:∀ m∈zs++[(⟨[],zAC,[]⟩:Mv)],Gd d k m:=fun m hm=>by
       rcases List.mem_append.1 hm with h |h
       ·exact hG m h
       ·rw[List.mem_singleton.1 h];exact⟨.inr rfl,.inl rfl⟩
     have hzl9:(zs++[(⟨[],zAC,[]⟩:Mv)]).length=k+2:=by rw[List.length_append,HZL.out];rfl
     have hsl:ds.length+1=k+2:=by rw[HD.out.2.1]
     have hgw:w1.heap.size<=g:=by
       obtain⟨g2,cs2,e,_,_,_,_,_,_⟩:=hP9 0 (by rw[hzl9];omega);have h9:=(hD9.2.2.1.lt g rfl).1;have:=HH.out;omega
     rw[hsl];obtain⟨ys,hys⟩:∃ ys,ys=zs++[(⟨[],zAC,[]⟩:Mv)]:=⟨_,rfl⟩;rw[<-hys]at hP9 hG9 hzl9;clear hD9 hrow9 hmap hown hgrow hat hal hD8 hys hsl hG hU8 hF8 hUw8 hU y0 y1 y2 y3 hlt7 hAr hz8 hH8;obtain⟨w11,hw11⟩:∃ z,z=((w9.alloc (.cells #[.int .i64 4,.string (B [122]),.int .i64 0,.slice none 0 0] 25)).alloc (.cells #[.int .i64 3,.string (B []),.int .i64 0,.slice (some ⟨w9.heap.size,0,none⟩) 1 1] 25)).alloc (.cells #[.int .i64 3,.string (B []),.int .i64 0,.slice (some ⟨w9.heap.size+1,0,none⟩) 1 1] 25):=⟨_,rfl⟩;have hU11:zD zC w9 w11:=by rw[hw11];exact(((zD.refl zC w9).alloc _).alloc _).alloc _
     have hG11:zL w11 (w9.heap.size+1+1) (.int .i64 3) (.string (B [])) (.int .i64 0) (.slice (some ⟨w9.heap.size+1,0,none⟩) 1 1) 25:=by rw[hw11];exact zL.zI (by simp)
     have hB1:zL w11 w9.heap.size (.int .i64 4) (.string (B [122])) (.int .i64 0) (.slice none 0 0) 25:=by rw[hw11];exact((zL.zI rfl).kept ((zD.refl zC _).alloc _)).kept ((zD.refl zC _).alloc _)
     have hB2:zL w11 (w9.heap.size+1) (.int .i64 3) (.string (B [])) (.int .i64 0) (.slice (some ⟨w9.heap.size,0,none⟩) 1 1) 25:=by rw[hw11];exact(zL.zI (by simp)).kept ((zD.refl zC _).alloc _)
     have hgl9:g<w9.heap.size:=by
       obtain⟨g2,cs2,e,_,h9,_,_,_,_⟩:=hP9 0 (by omega);cases e;exact h9
     have hRf:zK (fun b=>b=g\/False) w11 zCg.zN [.int .i64 3,.string (B []),.int .i64 0,.slice (some ⟨w9.heap.size+1,0,none⟩) 1 1]:=qZ (qZ (zV 4 [122] 0) (by rintro(e |e)<;>first |omega |exact e) hB1 3 [] 0) (by rintro(e |e)<;>first |omega |exact e) hB2 3 [] 0;have HW11:=zG hw11;clear hw11 hB1 hB2;obtain⟨w12,hw12⟩:∃ z,z=w11.alloc (.cells #[.int .i64 3,.string (B []),.int .i64 0,.slice (some ⟨w9.heap.size+1,0,none⟩) 1 1] 25):=⟨_,rfl⟩;have hU12:zD zC w11 w12:=by rw[hw12];exact(zD.refl zC _).alloc _
     have hC12:zL w12 w11.heap.size (.int .i64 3) (.string (B [])) (.int .i64 0) (.slice (some ⟨w9.heap.size+1,0,none⟩) 1 1) 25:=by rw[hw12];exact zL.zI rfl
     have hz11:=hU11.size;have hkl:k+1<ys.length:=by omega
     have hP12:=(hP9.zF hU11 (fun _ e=>e)).zF hU12 (fun _ e=>e);have hput:=hP12.Z7 (j:=k+1) (vs:=[zCg]) (wa:=some ⟨w11.heap.size,0,none⟩) (wc:=1) hkl (Nat.le_refl _) (Xc (t:=zCg) (hRf.on hU12) (by rintro(e |e)<;>first |omega |exact e) hC12);have hset:=zBP hG9 hkl (vs:=[zCg]) (.inr (.inl rfl));obtain⟨g2,kx,nx,ix,ax,cx,vx,vxc,e2,_,_,hgf,⟨p0,p1,p2,p3,p4,p5⟩,_,_,_⟩:=hP12.open hkl;cases e2
     have hgl12:g<w12.heap.size:=Nat.lt_of_lt_of_le hgl9 (hU11.and hU12).size;have HW12:=zG hw12;obtain⟨y0,y1,y2,y3⟩:=hG11.cells;have hUw12:=hUw9.and (hU11.and hU12);obtain⟨w13,hw13⟩:∃ z,z=w12.setCell ⟨g,(k+1) * 6+5,none⟩ (.slice (some ⟨w11.heap.size,0,none⟩) 1 1):=⟨_,rfl⟩;have hput':xy zC w13 (some ⟨g,0,none⟩) (ys.set (k+1) ⟨ys[k+1].name,ys[k+1].type,[zCg]⟩)/\zD (fun b=>b=g) w12 w13:=by rw[hw13];exact hput
     have HW13:=zG hw13;clear hw12 hw13 hput;go_upto_region 11 with fail
     rw[<-show B []={ data:=#[] }from rfl,<-show B [122]={ data:=#[122] }from rfl,<-HW11.out];have hgl13:=Nat.lt_of_lt_of_le hgl12 hput'.2.size;have hU13:zD zC w1 w13:=hUw12.trans hput'.2 (fun b hb e=>by omega);rw[HW12.out]at p5 hgf hgl12;clear hP9 hG9 hRf hP12 hG11 hC12 hz11 hUw9 hU11 hU12;go_wp2_with fail
     rw[<-HW12.out,<-HW13.out]
     go_loopw [11] (fun v11 wr=>∃(i:Nat)(zs:List Mv),v11=.int .i64 (i:Int)/\i<=k/\zs.length=k+2/\(∀ m∈zs,Gd d k m)/\xy zC wr (some ⟨g,0,none⟩) zs/\zD (fun b=>b=g) w13 wr)
       (fun v11 _=>30 - (intOf v11).toNat)
     case atStart=>exact⟨0,_,rfl,Nat.zero_le _,by rw[List.length_set];exact hzl9,hset,hput'.1,zD.refl _ _⟩
     case round=>
       obtain⟨i,zs2,rfl,hik,hzl2,hG2,hP2,hU2⟩:=hrel;have hgr:g<wr.heap.size:=Nat.lt_of_lt_of_le hgl13 hU2.size;have HZL2:=zG hzl2;have hi20:(i:Int)<=20:=by omega
       clear hzl2 hset hput' y0 y1 y2 y3 p0 p1 p2 p3 p4 p5 hgf hgl12;by_cases hlt2:i<k
       ·have hji:(i:Int)<(k:Int):=by omega
        obtain⟨wq2,rfl⟩:∃ q,q=wr:=⟨_,rfl⟩;obtain⟨w15,hw15⟩:∃ z,z=wq2.alloc (.cells #[.int .i64 6,.string (B []),.int .i64 ((i:Int)+1),.slice none 0 0] 25):=⟨_,rfl⟩;have hU15:zD zC wq2 w15:=by rw[hw15];exact(zD.refl zC _).alloc _
        have hM15:zL w15 wq2.heap.size (.int .i64 6) (.string (B [])) (.int .i64 ((i:Int)+1)) (.slice none 0 0) 25:=by rw[hw15];exact zL.zI rfl
        obtain⟨w16,hw16⟩:∃ z,z=(w15.alloc (.cells #[.int .i64 6,.string (B []),.int .i64 ((i:Int)+1),.slice none 0 0,.int .i64 6,.string (B []),.int .i64 ((i:Int)+1),.slice none 0 0] 25)).alloc (.cells #[.int .i64 4,.string (B [102]),.int .i64 0,.slice (some ⟨w15.heap.size,0,none⟩) 2 2] 25):=⟨_,rfl⟩;have hU16:zD zC w15 w16:=by rw[hw16];exact((zD.refl zC _).alloc _).alloc _
        have hF16:zL w16 (w15.heap.size+1) (.int .i64 4) (.string (B [102])) (.int .i64 0) (.slice (some ⟨w15.heap.size,0,none⟩) 2 2) 25:=by rw[hw16];exact zL.zI (by simp)
        have hE17:zH (fun b=>(b=g\/False)\/b=w15.heap.size+1) w16 4 ([Tm.mk 6 [] ((i:Int)+1) [],Tm.mk 6 [] ((i:Int)+1) []].map Tm.zN) (some ⟨w15.heap.size,0,none⟩) 0:=by
          rw[hw16];have h1:=heap_alloc_new w15 (.cells #[.int .i64 6,.string (B []),.int .i64 ((i:Int)+1),.slice none 0 0,.int .i64 6,.string (B []),.int .i64 ((i:Int)+1),.slice none 0 0] 25);have h15:=hU15.size;exact(Xq (T:=25) (zV 6 [] _) (zV 6 [] _) (by rintro((e |e)|e)<;>first |omega |exact e) h1).on ((zD.refl zC _).alloc _)
        have hE16:zH (fun b=>b=g\/False) w16 4 ([Tm.mk 6 [] ((i:Int)+1) [],Tm.mk 6 [] ((i:Int)+1) []].map Tm.zN) (some ⟨w15.heap.size,0,none⟩) 0:=zH.weaken (fun _ _ e=>.inl e) _ _ _ _ hE17;have HW15:=zG hw15;have HW16:=zG hw16;clear hw15 hw16;have hUq16:=hU15.and hU16;go_upto_region 16 with fail
        rw[<-show B []={ data:=#[] }from rfl,<-HW15.out];obtain⟨x0,x1,x2,x3⟩:=hM15.cells;go_upto_region 17 with fail
        rw[<-show B [102]={ data:=#[102] }from rfl,<-HW16.out];clear x0 x1 x2 x3 hM15;cases d
        ·have hR17:zK (fun b=>b=g\/False) w16 (qv false k i).zN [.int .i64 4,.string (B [102]),.int .i64 0,.slice (some ⟨w15.heap.size,0,none⟩) 2 2]:=zi.2 ⟨_,2,rfl,Nat.le_refl _,hE16⟩;obtain⟨y0,y1,y2,y3⟩:=hF16.cells;obtain⟨w18,hw18⟩:∃ z,z=w16.alloc (.cells #[.int .i64 4,.string (B [102]),.int .i64 0,.slice (some ⟨w15.heap.size,0,none⟩) 2 2] 25):=⟨_,rfl⟩;have hst:=QS hP2 hUq16 hgr (i:=i) hR17 (by have:=HZL2.out;omega) hw18;obtain⟨w19,hw19⟩:∃ z,z=w18.setCell ⟨g,i * 6+5,none⟩ (.slice (some ⟨w16.heap.size,0,none⟩) 1 1):=⟨_,rfl⟩;rw[<-hw19]at hst;obtain⟨hs1,⟨sv,p5⟩,pf,pl⟩:=hst;have hs3:=zBP hG2 (j:=i) (by have:=HZL2.out;omega) (vs:=[qv false k i]) (.inr (.inr (.inr ⟨i,hlt2,rfl⟩)));have HS:=zG (And.intro hs1 hs3);have HW18:=zG hw18;have HW19:=zG hw19;rw[hw18]at p5 pf pl;clear hw18 hw19 hs1 hs3 hR17 hE16;go_wp2_with fail
         rw[<-HW18.out,<-HW19.out];go_roundw
         case rel=>exact⟨i+1,_,by go_num,by omega,by rw[List.length_set];exact HZL2.out,HS.out.2,HS.out.1.1,hU2.trans HS.out.1.2 (fun _ _ e=>e)⟩
         case measure=>simp[intOf];omega
        ·have hf16:=hF16.zJ;obtain⟨f0,f1,f2,f3⟩:=hf16;obtain⟨z0,z1,z2,z3⟩:=hF16.cells;have q:=hF16.lt;obtain⟨w17,hw17⟩:∃ z,z=((w16.setCell ⟨w15.heap.size+1,0,none⟩ (.int .i64 6)).setCell ⟨w15.heap.size+1,1,none⟩ (.string (B []))).setCell ⟨w15.heap.size+1,2,none⟩ (.int .i64 ((k:Int)+1)):=⟨_,rfl⟩;have hF17:zL w17 (w15.heap.size+1) (.int .i64 6) (.string (B [])) (.int .i64 ((k:Int)+1)) (.slice (some ⟨w15.heap.size,0,none⟩) 2 2) 25:=by rw[hw17];exact((hF16.zBr _).Ym _).XV _
         have hU17:zD (fun b=>b=w15.heap.size+1) w16 w17:=by rw[hw17];exact zD.set (zD.set (zD.set (zD.refl _ _) 0 _) 1 _) 2 _
         have hz15:=hU15.size;have hUq17:zD zC wq2 w17:=hUq16.trans hU17 (fun b hb e=>by omega);have hR17:zK (fun b=>b=g\/False) w17 (qv true k i).zN [.int .i64 6,.string (B []),.int .i64 ((k:Int)+1),.slice (some ⟨w15.heap.size,0,none⟩) 2 2]:=zi.2 ⟨_,2,rfl,Nat.le_refl _,zH.weaken (fun _ _ e=>.inl e) _ _ _ _ (zH.zF hU17 (fun _ e=>.inr e) _ _ _ _ hE17)⟩;have HW17:=zG hw17;clear hw17;go_upto_region 19 with fail
         rw[<-show B []={ data:=#[] }from rfl,<-HW17.out];clear z0 z1 z2 z3 f0 f1 f2 f3 q;obtain⟨y0,y1,y2,y3⟩:=hF17.cells;obtain⟨w18,hw18⟩:∃ z,z=w17.alloc (.cells #[.int .i64 6,.string (B []),.int .i64 ((k:Int)+1),.slice (some ⟨w15.heap.size,0,none⟩) 2 2] 25):=⟨_,rfl⟩;have hst:=QS hP2 hUq17 hgr (i:=i) hR17 (by have:=HZL2.out;omega) hw18;obtain⟨w19,hw19⟩:∃ z,z=w18.setCell ⟨g,i * 6+5,none⟩ (.slice (some ⟨w17.heap.size,0,none⟩) 1 1):=⟨_,rfl⟩;rw[<-hw19]at hst;obtain⟨hs1,⟨sv,p5⟩,pf,pl⟩:=hst;have hs3:=zBP hG2 (j:=i) (by have:=HZL2.out;omega) (vs:=[qv true k i]) (.inr (.inr (.inr ⟨i,hlt2,rfl⟩)));have HS:=zG (And.intro hs1 hs3);have HW18:=zG hw18;have HW19:=zG hw19;rw[hw18]at p5 pf pl;clear hw18 hw19 hs1 hs3 hR17 hE16;go_wp2_with fail
         rw[<-HW18.out,<-HW19.out];go_roundw
         case rel=>exact⟨i+1,_,by go_num,by omega,by rw[List.length_set];exact HZL2.out,HS.out.2,HS.out.1.1,hU2.trans HS.out.1.2 (fun _ _ e=>e)⟩
         case measure=>simp[intOf];omega
       ·obtain rfl:k=i:=by omega
        have hjn2:¬(k:Int)<(k:Int):=by omega
        obtain⟨wq2,rfl⟩:∃ q,q=wr:=⟨_,rfl⟩;obtain⟨w18,hw18⟩:∃ z,z=wq2.alloc (.cells #[.int .i64 4,.string (B [122]),.int .i64 0,.slice none 0 0] 25):=⟨_,rfl⟩;have hst:=QS hP2 (zD.refl _ _) hgr (i:=k) (t:=bZ) (zV 4 [122] 0) (by have:=HZL2.out;omega) hw18;obtain⟨w19,hw19⟩:∃ z,z=w18.setCell ⟨g,k * 6+5,none⟩ (.slice (some ⟨wq2.heap.size,0,none⟩) 1 1):=⟨_,rfl⟩;rw[<-hw19]at hst;obtain⟨⟨hs1,hs2⟩,⟨sv,p5⟩,pf,pl⟩:=hst;have hs3:=zBP hG2 (j:=k) (by have:=HZL2.out;omega) (vs:=[bZ]) (.inr (.inr (.inl rfl)));have hk2:k<zs2.length:=by have:=HZL2.out;omega
        obtain⟨zs3,hzs3⟩:∃ z,z=zs2.set k ⟨zs2[k].name,zs2[k].type,[bZ]⟩:=⟨_,rfl⟩;have hl3:zs3.length=k+2:=by rw[hzs3,List.length_set];exact HZL2.out
        rw[<-hzs3]at hs1 hs3;have hR3:=hs1.zIU;have hkn:Kn zs3.length (Tm.mk 6 [] 0 []):=by rw[hl3];simp[Kn,Tm.yQ,Tm.yq];omega
        have EX:=Zo zC zs3 (zCB (by omega) hl3 hs3) (Tm.mk 6 [] 0 []) (by decide) (fun _ _=>hkn) w19 (fun _ e=>e.elim) (some ⟨g,0,none⟩) cap' _ hR3 (zV 6 [] 0);have RX:=fun(W:World)(h:zD zC w19 W)=>Q2 zC zs3 (zCB (by omega) hl3 hs3) (Tm.mk 6 [] 0 []) (by decide) (fun _ _=>hkn) W (fun _ e=>e.elim) (some ⟨g,0,none⟩) cap' _ (hR3.on h) (zV 6 [] 0)
        have hxs:=zEZ zs3 (Tm.mk 6 [] 0 []);rw[hl3]at EX RX;have hU19:zD zC w1 w19:=(hU13.trans hU2 (fun b hb e=>by omega)).trans hs2 (fun b hb e=>by omega);generalize yf zs3 (Tm.mk 6 [] 0 [])=E at *
        generalize zz zs3 (Tm.mk 6 [] 0 [])=X at *
        have HW18:=zG hw18;have HW19:=zG hw19;rw[hw18]at p5 pf pl;clear hw18 hw19 hs1 hs2 hs3 hl3 hzs3 hk2 hkn hR3 hP2 hU2 hG2;go_wp2_with fail
        rw[<-World.setCell_alloc_past _ _ _ _ hgr,<-show B [122]={ data:=#[122] }from rfl,<-HW18.out,<-HW19.out];clear p5 pf pl
        (with_reducible refine EX.mono ?_);rintro e w4 ⟨k4,i4,n4,a4,l4,c4,rfl,hR4,hU4⟩;obtain⟨w5,hw5⟩:∃ w5,w5=w4.alloc (.cells #[.int .i64 k4,.string (B n4),.int .i64 i4,.slice a4 l4 c4] 25):=⟨_,rfl⟩;have hU5:zD zC w4 w5:=by rw[hw5];exact(zD.refl zC _).alloc _
        have hb5:zL w5 w4.heap.size (.int .i64 k4) (.string (B n4)) (.int .i64 i4) (.slice a4 l4 c4) 25:=by rw[hw5];exact zL.zI rfl
        obtain⟨P,hPz⟩:∃ P,P=w4.heap.size:=⟨_,rfl⟩;rw[<-hPz]at hb5;have HPz:=zG hPz;have HW5:=zG hw5;have hUr5:=hU4.and hU5;have RXw:=RX w5 hUr5;have hR5:=hR4.on hU5;have hU05:=hU19.and hUr5;clear EX RX hw5 hPz hR4 hU5 hU4 hUr5 hU19;go_upto_region 22 with fail
        rw[<-HPz.out,<-HW5.out];go_wp2_with fail
        (with_reducible refine RXw.mono ?_);rintro e w6 ⟨k6,i6,n6,a6,l6,c6,rfl,hR6,hU6⟩;have hal:zD zC w6 (w6.alloc (.cells #[.int .i64 k6,.string (B n6),.int .i64 i6,.slice a6 l6 c6] 25)):=(zD.refl zC _).alloc _;have SM:=zBv X hxs X (w6.alloc (.cells #[.int .i64 k6,.string (B n6),.int .i64 i6,.slice a6 l6 c6] 25)) _ _ (hR5.on (hU6.and hal)) (hR6.on hal);rw[Tm.zEX]at SM;obtain⟨x0,x1,x2,x3⟩:=(hb5.kept (hU6.and hal)).cells;have hU16:=(hU05.and hU6).and hal;clear RXw hR5 hR6 hb5 hU6 hU05;go_wp2_with fail
        (with_reducible refine SM.mono ?_);rintro e w7 ⟨rfl,hU7⟩;have hU17:=hU16.and hU7;clear SM x0 x1 x2 x3 hal;go_wp2_with fail
        (with_reducible refine(zGE w7).mono ?_);rintro e w8x ⟨rfl,hU8⟩;go_wp2_with fail
        go_ret
        exact⟨rfl,(hU1.and hU17).and hU8⟩
end Go.Proofs.YthgmimncdjhgnaaGreat
