/- PatternBack: its walk. -/
import Derived.Test.YthgmimncdjhgnaaGreatDoorWPH
import Derived.Test.YthgmimncdjhgnaaGreatDoorWPI
import Derived.Deep.RegionHeld3
set_option maxRecDepth 100000
set_option maxHeartbeats 16000000
namespace Go.Proofs.YthgmimncdjhgnaaGreatDoor
open Go.RowKit Go.LF
theorem zCU{W:World}{g:Nat}{l:List Int}(h:W.heap[g]? =some (.cells (l.map (Value.int .i64)).toArray 3 (0,0))):xh W g l:=h
theorem zAV(tv:List Int)(j k:Nat)(x y:Int)(hj:j<tv.length)(hk:k<tv.length)(hjk:j<=k)(hx:j=k->x=y):(((tv.set j x).set k y).take (j+1)).map X0=(tv.take j).map X0++[X0 x]:=by
  rw[List.take_succ_eq_append_getElem (by simpa using hj),List.map_append,List.map_cons,List.map_nil]
  have h1:((tv.set j x).set k y)[j]'(by simpa using hj)=x:=by
    rcases Nat.eq_or_lt_of_le hjk with h |h
    ·subst h;rw[List.getElem_set_self,hx rfl]
    ·rw[List.getElem_set_ne (by omega),List.getElem_set_self]
  rw[h1];congr 2;rw[List.take_set_of_le (by omega),List.take_set_of_le (by omega)]
def zBH(tv:List Int)(i:Nat):List Int:=List.replicate (4 - i) 0++(tv.take i).reverse
theorem zHT(tv:List Int)(h:tv.length=4)(i:Nat)(hi:i<=4):(zBH tv i).length=4:=by simp[zBH,h];omega
theorem zGc(tv:List Int)(h:tv.length=4)(i:Nat)(hi:i<4):(zBH tv i).set (3 - i) (tv.getD i 0)=zBH tv (i+1):=by
  match tv,h with
  | [a,b,c,d],_=>
    have:i=0\/i=1\/i=2\/i=3:=by omega
    rcases this with rfl |rfl |rfl |rfl<;>rfl
theorem X2(l0:List Int)(a0:Option Addr)(len0 cap0:Nat)(hl0:l0.length=len0)(hlen0:len0<=17592186044416)(m0 m1 m2 m3:Int)(w:World)(hE0:zH zC w 1 (l0.map (yP.int .i64)) a0 0)(hN:ZJ w):
    Calls Tryz.prog 9 #[.slice a0 len0 cap0,.agg #[.int .i64 m0,.int .i64 m1,.int .i64 m2,.int .i64 m3]] w fun e w'=>e=.returned (.bool true)/\zD zC w w':=by
  obtain⟨wa,hwa⟩:∃ wa,wa=w.alloc (.cells #[.int .i64 m0,.int .i64 m1,.int .i64 m2,.int .i64 m3] 54):=⟨_,rfl⟩;have hUa:zD zC w wa:=by rw[hwa];exact(zD.refl zC w).alloc _
  have hka:zG wa w.heap.size (.int .i64 m0) (.int .i64 m1) (.int .i64 m2) (.int .i64 m3) 54:=by rw[hwa];exact zG.zJ rfl
  have hza:wa.heap.size=w.heap.size+1:=by rw[hwa];simp
  obtain⟨w1,hw1⟩:∃ w1,w1=wa.alloc (.cells #[.slice a0 len0 cap0,.int .i64 0] 45):=⟨_,rfl⟩;have hU1:zD zC w w1:=by rw[hw1];exact hUa.alloc _
  have hT1:zg w1 wa.heap.size:=by
    rw[hw1];exact Qf (w:=wa) (cap:=cap0) (U:=45) hl0 hlen0 (hE0.on hUa)
  have hK1:zW wa.heap.size w1:=hN.ok hU1 (by omega);have hk1:zG w1 w.heap.size (.int .i64 m0) (.int .i64 m1) (.int .i64 m2) (.int .i64 m3) 54:=by rw[hw1];exact hka.kept ((zD.refl zC _).alloc _)
  rw[hza]at hT1 hK1;have hzz1:w1.heap.size=w.heap.size+1+1:=by rw[hw1];simp[hza]
  have TM:Calls Tryz.prog 28 #[.pointer (some ⟨w.heap.size+1,0,none⟩),.int .i64 4,.int .i64 4,.int .i64 2] w1 (qV w1.heap.size 4 4 2 (w.heap.size+1) w1):=Ye 4 (by omega) 4 2 (by omega) (by omega) (w.heap.size+1) w1 hT1 hK1;have hw1':w1=(w.alloc (.cells #[.int .i64 m0,.int .i64 m1,.int .i64 m2,.int .i64 m3] 54)).alloc (.cells #[.slice a0 len0 cap0,.int .i64 0] 45):=by rw[hw1,hwa]
  have HW1:=zF hw1';obtain⟨N,hNN⟩:∃ P,P=w.heap.size:=⟨_,rfl⟩;have HN:=zF hNN;rw[<-hNN]at hT1 hK1 hk1 TM hzz1;clear hwa hw1 hw1' hka hUa hza hE0 hl0 hlen0 hN hNN;go_enter Tryz.func9,Tryz.ntmps9
  go_upto_region 1 with fail
  go_wp2_with fail
  rw[<-HW1.out,<-HN.out]
  (with_reducible refine TM.mono ?_);rintro e w4 ⟨k1,i1,n1,a1,len1,cap1,t,rfl,hR,hF,_,_,hU4⟩;have hk4:=hk1.zE hU4 (by simp only[zv];omega);have hUw4:zD zC w w4:=hU1.trans hU4 (fun b hb e=>by simp only[zv]at e;have:=HN.out;omega);have hFA:=hF.any (by omega);have hob:=hF.obj;obtain⟨w2,hw2⟩:∃ w2,w2=(w4.alloc (.cells #[.int .i64 k1,.string (B n1),.int .i64 i1,.slice a1 len1 cap1] 29)).alloc (.cells #[.int .i64 0,.int .i64 1,.int .i64 2,.int .i64 3] 3):=⟨_,rfl⟩;have hU2:zD zC w4 w2:=by rw[hw2];exact((zD.refl zC w4).alloc _).alloc _
  have hA2:zG w2 w4.heap.size (.int .i64 k1) (.string (B n1)) (.int .i64 i1) (.slice a1 len1 cap1) 29:=by rw[hw2];exact(zG.zJ rfl).kept ((zD.refl zC _).alloc _)
  have hM2:xh w2 (w4.heap.size+1) [0,1,2,3]:=by
    have:=heap_alloc_new (w4.alloc (.cells #[.int .i64 k1,.string (B n1),.int .i64 i1,.slice a1 len1 cap1] 29)) (.cells #[.int .i64 0,.int .i64 1,.int .i64 2,.int .i64 3] 3);rw[<-hw2]at this;exact zCU (by simpa using this)
  have hR2:zK (fun x=>w4.heap.size<=x) w2 t.zM [.int .i64 k1,.string (B n1),.int .i64 i1,.slice a1 len1 cap1]:=(zK.weaken (fun b _ e=>.inr e) _ _ (zK.zY _ _ (yw hR))).on hU2;have hk2:=hk4.kept hU2;have hUw2:=hUw4.and hU2;have hz2:w2.heap.size=w4.heap.size+1+1:=by rw[hw2];simp
  have hNA:N<w4.heap.size:=hk4.lt;have HW2:=zF hw2;obtain⟨g,hg⟩:∃ g,g=w4.heap.size+1:=⟨_,rfl⟩;obtain⟨A,hA⟩:∃ A,A=w4.heap.size:=⟨_,rfl⟩;rw[<-hg]at hM2 hz2;rw[<-hA]at hA2 hR2 hNA;have hAg:A+1=g:=by omega
  have HG:=zF (And.intro hg hA);have HC:=fun(x n:Int)h0 h1 w=>zA1 x n h0 h1 w
  obtain⟨i0,hi,hi0,hi1,hi2⟩:=info_parts yV;obtain⟨H,hH⟩:∃ H,H=w2.heap.size:=⟨_,rfl⟩;have HH:=zF hH;rw[<-hH]at hz2;clear hw2 hg hA hU1 hU4 hUw4 hU2 hk1 hk4 hT1 hK1 TM hR hF hH;go_upto_region 4 with fail
  rw[<-HW2.out,<-HG.out.1,<-HG.out.2];go_wp2_with fail
  go_loopw [7,8] (fun v7 v8 wr=>∃(j:Nat)(tv:List Int)(css:List (List Value))(vv:Value),vv=v7/\v8=.int .i64 j/\j<=4/\tv.Perm [0,1,2,3]/\xh wr g tv/\yD H wr vv ((tv.take j).map X0) css/\zG wr A (.int .i64 k1) (.string (B n1)) (.int .i64 i1) (.slice a1 len1 cap1) 29/\
      zK (fun x=>A<=x) wr t.zM [.int .i64 k1,.string (B n1),.int .i64 i1,.slice a1 len1 cap1]/\zG wr N (.int .i64 m0) (.int .i64 m1) (.int .i64 m2) (.int .i64 m3) 54/\zD zC w wr/\H<=wr.heap.size) (fun _ v8 _=>4 - (intOf v8).toNat)
  case atStart=>exact⟨0,_,[],_,rfl,rfl,by omega,List.Perm.refl _,hM2,yD.nil _ _,hA2,hR2,hk2,hUw2,Nat.le_of_eq HH.out⟩
  case round=>
    clear hM2 hA2 hR2 hUw2 hk2;obtain⟨j,tv,css,vv,rfl,rfl,hj,hp,hM,hTs,hA,hR,hK,hU,hHr⟩:=hrel;have htl:tv.length=4:=hp.length_eq;have hj0:(0:Int)<=(j:Int):=by omega
    have HP:=zF (And.intro hp htl);clear hp htl;have hgl:=hM.lt;by_cases hj4:j<4
    ·have hj1:(j:Int)<4:=by omega
     have cj:=hM.cell j (by rw[HP.out.2];omega);have fj:=hM.frozen j;obtain⟨xj,hxj⟩:∃ xj,xj=tv.getD j 0:=⟨_,rfl⟩;rw[<-hxj]at cj;have HX:=zF hxj;clear hxj
     obtain⟨mx,mc⟩:∃ mx,wr.cell? ⟨N,j,none⟩=some (.int .i64 mx):=by
       obtain⟨c0,c1,c2,c3⟩:=hK.cells;have:j=0\/j=1\/j=2\/j=3:=by omega
       rcases this with rfl |rfl |rfl |rfl
       ·exact⟨_,c0⟩
       ·exact⟨_,c1⟩
       ·exact⟨_,c2⟩
       ·exact⟨_,c3⟩
     have hTl:((tv.take j).map X0).length=j:=by simp;have:=HP.out.2;omega
     have HTL:=zF hTl;clear hTl;go_wp2_with fail
     refine(HC _ (4 - (j:Int)) (by omega) (by omega) _).mono ?_;rintro e wd ⟨⟨c,hc,rfl⟩,rfl⟩;have hc0:(0:Int)<=(c:Int):=by omega
     have hck:(j:Int)+(c:Int)<4:=by omega
     go_upto_region 8 with fail
     go_cut []from 37 to 50 (fun wc=>∃(tv':List Int)(y:Int),tv'.Perm [0,1,2,3]/\tv'.getD j 0=y/\(tv'.take (j+1)).map X0=(tv.take j).map X0++[X0 y]/\xh wc g tv'/\zD (fun x=>x=g) wr wc)
     case first=>
       rcases Nat.eq_zero_or_pos c with rfl |hcp
       case' inl=>
         go_wp2_with fail
         go_region
       case' inr=>
         have ck:=hM.cell (j+c) (by rw[HP.out.2];omega);have fk:=hM.frozen (j+c);obtain⟨xk,hxk⟩:∃ xk,xk=tv.getD (j+c) 0:=⟨_,rfl⟩;rw[<-hxk]at ck;have HXK:=zF hxk;clear hxk;have hne:j≠j+c:=by omega
         go_wp2_with fail
         go_region
       all_goals first
         |(have hM':xh _ g _:=((hM.set j (by rw[HP.out.2];omega) xk).set (j+c) (by simp[HP.out.2];omega) xj).zE (zD.refl zC _).drew (fun x=>x)
           have hp':=(swap_perm (l:=tv) j (j+c) (by rw[HP.out.2];omega) (by rw[HP.out.2];omega)).trans HP.out.1;rw[<-HX.out,<-HXK.out]at hp';have ht':=zAV tv j (j+c) xk xj (by rw[HP.out.2];omega) (by rw[HP.out.2];omega) (by omega) (fun h=>absurd h (by omega));have hy':((tv.set j xk).set (j+c) xj).getD j 0=xk:=by simp[List.getD,List.getElem?_set_ne (show j+c≠j by omega),List.getElem?_set_self (show j<tv.length by rw[HP.out.2];omega)]
           have hUs:=((zD.set (zD.refl (fun x=>x=g) wr) j (.int .i64 xk)).trans (zD.set (zD.refl _ _) (j+c) (.int .i64 xj)) (fun _ _ e=>e)).drew;have HK:=zF (And.intro hp' (And.intro hy' ht'));clear hp' ht' hy';go_wp2_with fail
           go_meet
           case rel=>exact⟨_,_,HK.out.1,HK.out.2.1,HK.out.2.2,hM',hUs⟩)
         |(have hM':xh _ g _:=((hM.set j (by rw[HP.out.2];omega) xj).set j (by simp[HP.out.2];omega) xj).zE (zD.refl zC _).drew (fun x=>x)
           have hp':=(swap_perm (l:=tv) j j (by rw[HP.out.2];omega) (by rw[HP.out.2];omega)).trans HP.out.1;rw[<-HX.out]at hp';have ht':=zAV tv j j xj xj (by rw[HP.out.2];omega) (by rw[HP.out.2];omega) (by omega) (fun _=>rfl);have hy':((tv.set j xj).set j xj).getD j 0=xj:=by simp[List.getD,show j<tv.length by rw[HP.out.2];omega]
           have hUs:=((zD.set (zD.refl (fun x=>x=g) wr) j (.int .i64 xj)).trans (zD.set (zD.refl _ _) j (.int .i64 xj)) (fun _ _ e=>e)).drew;have HK:=zF (And.intro hp' (And.intro hy' ht'));clear hp' ht' hy';go_wp2_with fail
           go_meet
           case rel=>exact⟨_,_,HK.out.1,HK.out.2.1,HK.out.2.2,hM',hUs⟩)
     case rest=>
       obtain⟨tv',y,hp',hy',ht',hM',hUs⟩:=hcut;obtain⟨w5,rfl⟩:∃ q,q=wc:=⟨_,rfl⟩;have hl':tv'.length=4:=hp'.length_eq;have hgH:g<H:=by omega
       have hA5:=hA.zE hUs (by omega);have hR5:=zK.zE hUs (fun b e=>by omega) _ _ hR;have hK5:=hK.zE hUs (by omega);have hT5:=hTs.zE hUs (fun b e=>by omega);have hU5:=hU.trans hUs (fun b hb e=>by have:=HN.out;omega);have hz5:H<=w5.heap.size:=Nat.le_trans hHr hUs.size;have cy:=hM'.cell j (by omega);rw[hy']at cy;have HK2:=zF (And.intro hp' (And.intro ht' hl'));obtain⟨us,hus⟩:∃ us,us=(tv.take j).map X0:=⟨_,rfl⟩;rw[<-hus]at hT5 HTL ht';have hul:us.length<=10:=by have:=HTL.out;omega
       have HT':=zF ht';have hU5a:zD zC w5 (w5.alloc (.cells #[.int .i64 5,.string (B []),.int .i64 y,.slice none 0 0] 29)):=(zD.refl zC _).alloc _;clear hp' ht' hy' hM hTs hA hR hK hU hus cj fj mc hUs hl';go_upto_region 9 with fail
       go_wp2_with (at_builtin;refine wpList_append_lies _ (by rfl) _ _ 26 (by rfl) H 29 i0 (.agg #[.int .i64 0,.string (B []),.int .i64 0,.slice none 0 0]) 4 56 (by kernel_rfl) hi hi0 hi1 hi2 rfl (by decide) vv us.length css.flatten (by rfl) ((hT5.on hU5a).2.2.1) ⟨w5.heap.size,0,none⟩ 1 1 [.int .i64 5,.string (B []),.int .i64 y,.slice none 0 0] (by rfl) rfl (World.news_of_block (heap_alloc_new w5 _)) (by simp[Value.oneCell']) (by omega) (by simp only[maxLen];omega) (by omega) (by simp;omega) _ rfl ?_;intro g' cap' w7 hown hgrow hat hlt7)
       have hT7:=(hT5.on hU5a).appended rfl (zV 5 [] y) hown hgrow hat (Nat.le_refl _);have hrow7:=zD.ofRow (zw.grown (hT5.on hU5a).2.2.1 hgrow);have hUr:zD (fun b=>H<=b) w5 w7:=(hU5a.mono (fun _ _ e=>e.elim)).trans hrow7 (fun _ _ e=>e);rw[HT'.out.symm]at hT7;have HN7:=zF (And.intro (hM'.zE hUr (by omega)) (And.intro hT7 (And.intro (hA5.zE hUr (by omega)) (And.intro (zK.zE hUr (fun b e=>by omega) _ _ hR5) (And.intro (hK5.zE hUr (by omega)) (And.intro (hU5.trans hUr (fun b hb e=>by have:=HN.out;omega)) (Nat.le_trans hz5 hUr.size)))))));clear hT7 hrow7 hUr hown hgrow hat hT5 hM' hA5 hR5 hK5 hU5 hz5;go_roundw
       case rel=>exact⟨j+1,tv',_,_,rfl,by go_num,by omega,HK2.out.1,HN7.out.1,HN7.out.2.1,HN7.out.2.2.1,HN7.out.2.2.2.1,HN7.out.2.2.2.2.1,HN7.out.2.2.2.2.2.1,HN7.out.2.2.2.2.2.2⟩
       case measure=>simp[intOf];omega
    ·obtain rfl:j=4:=by omega
     have hFA':t.YP 34 4 2:=hFA;obtain⟨x,b1,b2,b3,b4,b5,b6,b7,b8,b9⟩:=zHQ hFA' hob tv HP.out.1;have hwt:t.wt<=1000:=by have:=hFA'.wt;omega
     have hst:t.size<=1000000:=by have:=Tm.zi t;omega
     have htk:tv.take 4=tv:=List.take_of_length_le (by rw[HP.out.2];omega);rw[htk]at hTs;obtain⟨va,vcap,rfl,hvcap,hVE⟩:=hTs.rep;have hml:(tv.map X0).length=4:=by rw[List.length_map];exact HP.out.2
     rw[hml]at hvcap;rw[hml];have hVE':=zH.weaken (O':=zC) (fun _ _ e=>e.elim) _ _ _ _ hVE;have hME:=hM.rep (O:=zC) (fun e=>e);have hRp:=zK.weaken (O':=zC) (fun _ _ e=>e.elim) _ _ hR;have IV:=Zh tv (by rw[HP.out.2];omega) t (by omega) wr (some ⟨g,0,none⟩) 4 _ hME hRp;have PV:=fun(W:World)(hW:zD zC wr W)=>ZX (tv.map X0) (by rw[hml];omega) (fun u hu=>by obtain⟨y,_,rfl⟩:=List.mem_map.1 hu;simp[Tm.yM,Tm.ye]) va vcap W (hVE'.on hW)
     have NU:=fun(W:World)(x y:Option Addr)(xc yc:Nat)h1 h2=>Yb tv (by rw[HP.out.2];omega) W x y xc yc h1 h2
     have RN:=fun(W:World)(cs:List Value)(tg:Nat)(h:zK zC W x.zM cs)h2=>Q7 x (by omega) tv.reverse (some ⟨tg,0,none⟩) 4 (by rw[List.length_reverse,HP.out.2];omega) W cs h h2
     have SM:=fun(W:World)(cs ds:List Value)h h'=>qa t hst t W cs ds h h'
     have SC:=fun(W:World)(cs:List Value)(h:zK zC W (Tm.yQ 4 x).zM cs)=>zA8 (Tm.yQ 4 x) (by omega) W cs h
     rw[HP.out.2,b1,b2]at IV;rw[hml,b5]at PV;rw[HP.out.2]at NU;rw[List.length_reverse,HP.out.2,b6,b7]at RN;rw[Tm.zAb]at SM;rw[b3]at SC;simp only[beq_self_eq_true,if_true]at SC;obtain⟨sc,hsc⟩:∃ z,z=(Tm.yQ 4 x).scope:=⟨_,rfl⟩;rw[<-hsc]at SC b4;unfold QA at PV;simp only[Option.getD_some,Option.isSome_some]at PV;rw[HP.out.2]at PV;have hscn:¬0<sc:=by omega
     have hML:xh wr g tv:=hM;obtain⟨x0,x1,x2,x3⟩:=hA.cells;clear b1 b2 b3 b4 b5 b6 b7 b8 b9 hsc hTs hVE hVE' HC hK hFA hFA' hob htk hml hwt hst;go_upto_region 10 with fail
     go_wp2_with fail
     (with_reducible refine IV.mono ?_);rintro e w5 ⟨k5,i5,n5,a5,l5,c5,rfl,hR5,hU5⟩;obtain⟨w6,hw6⟩:∃ z,z=w5.alloc (.cells #[.int .i64 k5,.string (B n5),.int .i64 i5,.slice a5 l5 c5] 29):=⟨_,rfl⟩;have hUa:zD zC w5 w6:=by rw[hw6];exact(zD.refl zC _).alloc _
     have hQ6:zG w6 w5.heap.size (.int .i64 k5) (.string (B n5)) (.int .i64 i5) (.slice a5 l5 c5) 29:=by rw[hw6];exact zG.zJ rfl
     have hUr6:=hU5.and hUa;have hR6:=(zK.weaken (O':=zC) (fun _ _ e=>e.elim) _ _ hR5).on hUa;have PV6:=PV w6 hUr6;have HW6:=zF hw6;obtain⟨Q,hQ⟩:∃ z,z=w5.heap.size:=⟨_,rfl⟩;rw[<-hQ]at hQ6;have HQ:=zF hQ;clear hw6 hQ x0 x1 x2 x3 IV PV hR5 hU5 hUa;go_upto_region 11 with fail
     rw[<-HQ.out,<-HW6.out];go_wp2_with fail
     (with_reducible refine PV6.mono ?_);rintro e w7 ⟨va7,vc7,rfl,hV7,hU7⟩;have hUr7:=hUr6.and hU7;have N7:=NU w7 va7 (some ⟨g,0,none⟩) vc7 4 hV7 (hME.on hUr7);have hQ7:=hQ6.kept hU7;clear PV6 NU hV7;go_upto_region 12 with fail
     go_wp2_with fail
     (with_reducible refine N7.mono ?_);rintro e w8 ⟨rfl,hU8⟩;have hU68:=hU7.and hU8;have SC8:=SC w8 _ (hR6.on hU68);obtain⟨x0,x1,x2,x3⟩:=(hQ7.kept hU8).cells;clear N7 SC;go_wp2_with fail
     (with_reducible refine SC8.mono ?_);rintro e w9 ⟨rfl,hU9⟩;have hU69:=hU68.and hU9;have hUr9:=hUr6.and hU69;have hR9:=hR6.on hU69;have hQ9:=(hQ7.kept (hU8.and hU9)).cells;obtain⟨w10,hw10⟩:∃ z,z=w9.alloc (.cells #[.int .i64 k5,.string (B n5),.int .i64 i5,.slice a5 l5 c5] 29):=⟨_,rfl⟩;have hUb:zD zC w9 w10:=by rw[hw10];exact(zD.refl zC _).alloc _
     have hD10:zG w10 w9.heap.size (.int .i64 k5) (.string (B n5)) (.int .i64 i5) (.slice a5 l5 c5) 29:=by rw[hw10];exact zG.zJ rfl
     have hR10:zK (fun b=>b=w9.heap.size) w10 (Tm.yQ 4 x).zM [.int .i64 k5,.string (B n5),.int .i64 i5,.slice a5 l5 c5]:=(zK.weaken (fun b _ e=>.inr (Nat.le_of_eq e.symm)) _ _ (zK.zY _ _ hR9)).on hUb;have hUr10:=hUr9.and hUb;have hMM10:=hML.zE hUr10 (fun e=>e);have hA10:=hA.kept hUr10;have hRt10:=hR.on hUr10;have hUw10:=hU.and hUr10;have hgl9:g<w9.heap.size:=Nat.lt_of_lt_of_le hgl hUr9.size;have hAl9:A<w9.heap.size:=Nat.lt_of_lt_of_le hA.lt hUr9.size;have HW10:=zF hw10;obtain⟨D,hDD⟩:∃ z,z=w9.heap.size:=⟨_,rfl⟩;rw[<-hDD]at hD10 hR10 hgl9 hAl9;have HD:=zF hDD;have hz10:=hD10.lt;clear hw10 hDD hR6 hR9 hQ6 hQ7 SC8 hML hA hRp hU hUr10 hUr9 hUr6 hUr7 hME hR;obtain⟨wq,rfl⟩:∃ q,q=wr:=⟨_,rfl⟩;clear x0 x1 x2 x3;obtain⟨x0,x1,x2,x3⟩:=hQ9;go_upto_region 15 with fail
     rw[<-HD.out,<-HW10.out];go_wp2_with fail
     go_loopw [15] (fun v15 wr=>∃(i:Nat)(k j:Int)(n:List UInt8)(a:Option Addr)(l c:Nat),v15=.int .i64 (i:Int)/\i<=4/\zG wr D (.int .i64 k) (.string (B n)) (.int .i64 j) (.slice a l c) 29/\zK (fun b=>b=D) wr (Tm.yQ (4 - i) x).zM [.int .i64 k,.string (B n),.int .i64 j,.slice a l c]/\zD (fun b=>b=D) w10 wr)
       (fun v15 _=>4 - (intOf v15).toNat)
     case atStart=>exact⟨0,_,_,_,_,_,_,rfl,by omega,hD10,hR10,zD.refl _ _⟩
     case round=>
       clear hD10 hR10;obtain⟨i,k,jj,n,a,l,c,rfl,hi,hB,hRr,hUr⟩:=hrel;have hii:(i:Int)<=4:=by omega
       obtain⟨y0,y1,y2,y3⟩:=hB.cells;obtain⟨f0,f1,f2,f3⟩:=hB.zI;have hBl:=hB.lt;by_cases hlt:i<4
       ·have hlti:(i:Int)<4:=by omega
        obtain⟨m,hm⟩:∃ m,4 - i=m+1:=⟨3 - i,by omega⟩;rw[hm,Tm.xw]at hRr;obtain⟨a',cap',e,_,hE⟩:=zd.1 hRr;simp only[List.cons.injEq,Value.int.injEq,Value.string.injEq,Value.slice.injEq,true_and,and_true,List.length_cons,List.length_nil,Nat.zero_add]at e;obtain⟨rfl,hn,rfl,rfl,rfl,rfl⟩:=e;obtain⟨eb,eo,k7,n7,i7,s7,c7,rfl,hebl,hebD,p0,p1,p2,p3,hR7⟩:=zk hE 0 (by simp);simp only[Nat.zero_mul,Nat.add_zero,List.getElem_cons_zero]at p0 p1 p2 p3 hR7;generalize (Tm.yQ m x).args.length=l7 at *
        have HM:=zF (show m=4 - (i+1) by omega);clear hm hE hRr;go_wp2_with fail
        have hset:=hB.set (d0:=.int .i64 k7) (d1:=.string (B n7)) (d2:=.int .i64 i7) (d3:=.slice s7 l7 c7);have HN7:=zF (And.intro hset.1 (And.intro (zK.zE hset.2 (fun b e=>e) _ _ hR7) (hUr.trans hset.2 (fun _ _ e=>e))));clear hset hR7;go_roundw
        case rel=>exact⟨i+1,_,_,_,_,_,_,by go_num,by omega,HN7.out.1,by rw[<-HM.out];exact HN7.out.2.1,HN7.out.2.2⟩
        case measure=>simp[intOf];omega
       ·obtain rfl:i=4:=by omega
        rw[show(4:Nat) - 4=0 from rfl,show Tm.yQ 0 x=x from rfl]at hRr;obtain⟨wd,rfl⟩:∃ q,q=wr:=⟨_,rfl⟩;have mk:=Zc 4 (by omega) wd;obtain⟨w11,hw11⟩:∃ z,z=wd.alloc (.cells (zo 0 4).toArray 3):=⟨_,rfl⟩;have hUc:zD zC wd w11:=by rw[hw11];exact(zD.refl zC _).alloc _
        have hG11:xh w11 wd.heap.size (zBH tv 0):=by
          have h:=heap_alloc_new wd (.cells (zo 0 4).toArray 3);rw[<-hw11]at h;exact zCU h
        have hD11:=hB.kept hUc;have hRx11:=(zK.zY _ _ (zK.weaken (O':=zC) (fun _ _ e=>e.elim) _ _ hRr)).on hUc;have hUr11:zD (fun b=>b=D) w10 w11:=hUr.trans hUc (fun _ _ e=>e.elim);have hMM11:=hMM10.zE hUr11 (by omega);have hA11:=hA10.zE hUr11 (by omega);have hRtA:=zK.zE hUr11 (fun b e=>(by omega:A<=b)) _ _ hRt10;have hUw11:zD zC w w11:=hUw10.trans hUr11 (fun b hb e=>by have:=HN.out;omega);have hGA:D<wd.heap.size:=hBl;rw[<-hw11]at mk;obtain⟨G,hGG⟩:∃ z,z=wd.heap.size:=⟨_,rfl⟩;rw[<-hGG]at hG11 mk hGA;simp only[Int.cast_ofNat_Int]at mk;have hRxG:=zK.weaken (O':=fun b=>b=G) (fun b _ e=>.inr (by rw[e,hGG];exact Nat.le_refl _)) _ _ hRx11;have HW11:=zF hw11;clear hw11 hGG y0 y1 y2 y3 f0 f1 f2 f3 hB hRr hUr hUc hMM10 hA10 hRt10 hUw10 hBl;go_wp2_with fail
        go_loopw [17] (fun v17 wz=>∃(i:Nat),v17=.int .i64 (i:Int)/\i<=4/\xh wz G (zBH tv i)/\zD (fun b=>b=G) w11 wz) (fun v17 _=>4 - (intOf v17).toNat)
        case atStart=>exact⟨0,rfl,by omega,hG11,zD.refl _ _⟩
        case round=>
          clear hG11;obtain⟨i,rfl,hi4,hG,hUz⟩:=hrel;have hii4:(i:Int)<=4:=by omega
          have htl:=HP.out.2;by_cases hlt:i<4
          ·have hlt4:(i:Int)<4:=by omega
           have cg:=(hMM11.zE hUz (by omega)).cell i (by omega);have hul:=zHT tv htl i (by omega);have ct:=hG.cell (3 - i) (by omega);have ft:=hG.frozen (3 - i);have hGl:=hG.lt;have hnx:=hG.set (3 - i) (by omega) (tv.getD i 0);rw[zGc tv htl i hlt]at hnx;have hUx:zD (fun b=>b=G) w11 (wr.setCell ⟨G,3 - i,none⟩ (.int .i64 (tv.getD i 0))):=hUz.trans (zD.set (zD.refl _ _) (3 - i) _) (fun _ _ e=>e);obtain⟨y,hy⟩:∃ y,y=tv.getD i 0:=⟨_,rfl⟩;rw[<-hy]at cg hnx hUx;generalize (zBH tv i).getD (3 - i) 0=z at *
           have HNX:=zF (And.intro hnx hUx);clear hnx hUx hul hy;have:i=0\/i=1\/i=2\/i=3:=by omega
           rcases this with rfl |rfl |rfl |rfl
           all_goals
             go_wp2_with fail
             go_roundw
             case rel=>exact⟨_+1,by go_num,by omega,HNX.out.1,HNX.out.2⟩
             case measure=>simp[intOf]
          ·obtain rfl:i=4:=by omega
           have hu4:zBH tv 4=tv.reverse:=by
             unfold zBH;rw[List.take_of_length_le (by omega)];rfl
           rw[hu4]at hG;have hD12:=hD11.zE hUz (by omega);have hA12:=hA11.zE hUz (by omega);have hRx12:zK zC wr x.zM _:=zK.weaken (fun _ _ e=>e.elim) _ _ (zK.zE hUz (fun b e=>e) _ _ hRxG);have hRt12:zK zC wr t.zM _:=zK.weaken (fun _ _ e=>e.elim) _ _ (zK.zE hUz (fun b e=>(by omega:A<=b)) _ _ hRtA);have hUw12:zD zC w wr:=hUw11.trans hUz (fun b hb e=>by have:=HN.out;omega);have RN12:=RN wr _ G hRx12 (hG.rep (fun e=>e));obtain⟨y0,y1,y2,y3⟩:=hD12.cells;clear RN hMM11 hD11 hA11 hRtA hUw11 hUz hG hRx11 mk hRx12;go_wp2_with fail
           (with_reducible refine RN12.mono ?_);rintro e w13 ⟨k13,i13,n13,a13,l13,c13,rfl,hR13,hU13⟩;obtain⟨w14,hw14⟩:∃ z,z=w13.alloc (.cells #[.int .i64 k13,.string (B n13),.int .i64 i13,.slice a13 l13 c13] 29):=⟨_,rfl⟩;have hUe:zD zC w13 w14:=by rw[hw14];exact(zD.refl zC _).alloc _
           have hX14:zG w14 w13.heap.size (.int .i64 k13) (.string (B n13)) (.int .i64 i13) (.slice a13 l13 c13) 29:=by rw[hw14];exact zG.zJ rfl
           have hU14:=hU13.and hUe;have S14:=SM w14 _ _ ((zK.weaken (O':=zC) (fun _ _ e=>e.elim) _ _ hR13).on hUe) (hRt12.on hU14);have HW14:=zF hw14;clear hw14 y0 y1 y2 y3 RN12 SM;obtain⟨z0,z1,z2,z3⟩:=hX14.cells;obtain⟨y0,y1,y2,y3⟩:=(hA12.kept hU14).cells;go_upto_region 27 with fail
           rw[<-HW14.out];go_wp2_with fail
           (with_reducible refine S14.mono ?_);rintro e w15 ⟨rfl,hU15⟩;go_wp2_with fail
           (with_reducible refine(zAd w15).mono ?_);rintro e w16 ⟨rfl,hU16⟩;go_wp2_with fail
           go_ret
           exact⟨rfl,((hUw12.and hU14).and hU15).and hU16⟩
end Go.Proofs.YthgmimncdjhgnaaGreatDoor
