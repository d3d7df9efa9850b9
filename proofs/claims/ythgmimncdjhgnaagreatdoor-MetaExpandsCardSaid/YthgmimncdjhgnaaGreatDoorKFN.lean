/- lfcheckref13.ExpandAll. -/
import Derived.Test.YthgmimncdjhgnaaGreatDoorKCH
import Derived.Test.YthgmimncdjhgnaaGreatDoorKFG
import Derived.Test.YthgmimncdjhgnaaGreatDoorKFH
import Derived.Test.YthgmimncdjhgnaaGreatDoorKFI
import Derived.Test.YthgmimncdjhgnaaGreatDoorKFL
import Derived.Test.YthgmimncdjhgnaaGreatDoorKFM
import Derived.BigQuiet
import Derived.Deep.CutRange
import Derived.Deep.RegionHeld3
set_option maxRecDepth 100000
set_option maxHeartbeats 8000000
namespace Go.Proofs.YthgmimncdjhgnaaGreatDoor
section
open Go.RowKit Go.LF
theorem zAx(O:Nat->Prop)(l:List Mv)(hG:StG l)(ts:List Tm)(hts:∀ t∈ts,t.wt<=1000000/\(t.wf=0->(∀ i∈Tm.zJ t,i<l.length)->Kn l.length t))(hlen:ts.length<=1000)(w:World)(hO:∀ b,O b->b<w.heap.size)(la:Option Addr)(lc:Nat)(ta:Option Addr)(tc:Nat)(hL:zG O w 6 (l.map Mv.zN) la 0)(hT:zG O w 4 (ts.map Tm.zN) ta 0):
    Calls Tryz.prog 60 #[.slice la l.length lc,.slice ta ts.length tc] w (zFW O (xh l ts) (xf l ts) w):=by
  obtain⟨i0,hi,hi0,hi1,hi2⟩:=info_parts yZ
  obtain⟨H,hH⟩:∃ H,H=w.heap.size:=⟨_,rfl⟩
  have hL1:=zG.zQ _ _ _ _ hL
  have hT1:=zG.zQ _ _ _ _ hT
  rw[<-hH]at hL1 hT1
  have hO':∀ b,O b->b<H:=by rw[hH];exact hO
  have HH:=zH hH
  obtain⟨ll,hll⟩:∃ ll,ll=l.length:=⟨_,rfl⟩
  obtain⟨tl,htl⟩:∃ tl,tl=ts.length:=⟨_,rfl⟩
  rw[<-hll,<-htl]
  rw[<-htl]at hlen
  have HL:=zH (And.intro hll htl)
  have HTS:=zH hts
  have HO:=zH hO'
  clear hll htl hH hO hL hT hts hO'
  go_enter Tryz.func60,Tryz.ntmps60
  go_wp2_with fail
  go_loopw [6,7] (fun v6 v7 wr=>∃(j:Nat)(css:List (List Value)),v7=.int .i64 (j:Int)/\j<=tl/\xh l (ts.take j)=0/\yI 29 4 O H wr v6 (((ts.take j).map (zj l)).map Tm.zN) css/\zD zC w wr)
    (fun _ v7 _=>tl - (intOf v7).toNat)
  case atStart=>exact⟨0,[],rfl,Nat.zero_le _,rfl,yI.nil _ _ _ _ _,zD.refl _ _⟩
  case round=>
    obtain⟨j,css,rfl,hj,hA,hD,hU⟩:=hrel
    have HA:=zH hA
    obtain⟨vv,hvv⟩:∃ v,v=u6:=⟨_,rfl⟩
    rw[<-hvv]at hD
    rw[<-hvv]
    have HV:=zH hvv
    have hzr:=hU.size
    rw[<-HH.out]at hzr
    have hln:(((ts.take j).map (zj l)).map Tm.zN).length=j:=by have:=HL.out.2;simp;omega
    clear hA hvv
    by_cases hlt:j<tl
    ·have hjl:j<ts.length:=by have:=HL.out.2;omega
     obtain⟨eb,eo,ek,en,ex,es,ec,rfl,hebl,_,p0,p1,p2,p3,hRp⟩:=zd (hT1.on hU) j hjl
     have hj1:(j:Int)<(tl:Int):=by omega
     have hjm:(j:Int)<=1000:=by omega
     have hU4:zD zC wr wr:=zD.refl zC wr
     have hD4:=hD.on hU4 HO.out
     have hown4:=hD4.2.2.1
     have wk:∀ b,b<wr.heap.size->(O b\/vv.ownBlock=some b)->(O b\/H<=b):=fun b _ e=>e.elim .inl (fun e=>.inr (hown4.lt b e).1)
     have EX:=Z4 (fun b=>O b\/vv.ownBlock=some b) l hG (ts[j]'hjl) (HTS.out _ (List.getElem_mem hjl)).1 (HTS.out _ (List.getElem_mem hjl)).2 wr
       (fun b e=>by have h0:=HO.out b;have h1:=hU4.size;rcases e with e |e;(have:=h0 e;omega);exact(hown4.lt b e).2) la lc _ ((zG.weaken wk _ _ _ _ (hL1.on hU)).on hU4) ((zM.weaken wk _ _ hRp).on hU4)
     rw[<-HL.out.1]at EX
     have hstop:=QV l ts j hjl HA.out
     have hnext:=QS l ts j hjl HA.out
     have htk:((ts.take (j+1)).map (zj l)).map Tm.zN=((ts.take j).map (zj l)).map Tm.zN++[(zj l (ts[j]'hjl)).zN]:=by rw[List.take_succ_eq_append_getElem hjl,List.map_append,List.map_append];rfl
     generalize yc l (ts[j]'hjl)=E at *
     generalize zj l (ts[j]'hjl)=X at *
     generalize (ts[j]'hjl).args.length=el at *
     have HST:=zH (And.intro hstop (And.intro hnext htk))
     have HW:=zH wk
     clear hstop hnext htk hRp hebl wk
     go_wp2_with fail
     (with_reducible refine EX.mono ?_)
     rintro e w5 ⟨k5,i5,n5,a5,l5,c5,rfl,hR5,hU5⟩
     by_cases hE:E=0
     case neg=>
       have hEr:=HST.out.1 hE
       have hE':(E !=0)=true:=by simpa using hE
       have HE:=zH (And.intro hEr hE)
       clear hEr hE
       go_wp2_with fail
       refine bodyPost_ret (v:=.tuple #[.slice none 0 0,.int .i64 E]) (by simp[results,Tryz.f60,go_sem]) rfl ?_
       refine⟨none,0,?_,?_,?_,?_,?_⟩
       ·rw[HE.out.1];unfold xf;rw[HE.out.1,if_neg HE.out.2];rfl
       ·unfold xf;rw[HE.out.1,if_neg HE.out.2];exact Nat.zero_le _
       ·unfold xf;rw[HE.out.1,if_neg HE.out.2];exact zn _ _ _ (fun i hi=>by simp at hi)
       ·exact((hU.and hU4).and hU5).alloc _
       ·unfold xf;rw[HE.out.1,if_neg HE.out.2];exact⟨[],yI.nil _ _ _ _ _⟩
     subst hE
     have hn:=HST.out.2.1 rfl
     have htk:=HST.out.2.2
     have HN:=zH (And.intro hn htk)
     obtain⟨w6,hw6⟩:∃ w6,w6=w5.alloc (.cells #[.int .i64 k5,.string (B n5),.int .i64 i5,.slice a5 l5 c5] 29):=⟨_,rfl⟩
     have hU6:zD zC w5 w6:=by rw[hw6];exact(zD.refl zC w5).alloc _
     have hb6:zK w6 w5.heap.size (.int .i64 k5) (.string (B n5)) (.int .i64 i5) (.slice a5 l5 c5) 29:=by rw[hw6];exact zK.zL rfl
     have hD6:=(hD4.on hU5 HO.out).on hU6 HO.out
     have hR6:=hR5.on hU6
     have hal6:=(zD.refl zC w6).alloc (.cells #[.int .i64 k5,.string (B n5),.int .i64 i5,.slice a5 l5 c5] 29)
     have hDa:=hD6.on hal6 HO.out
     have own6:=hDa.2.2.1
     rw[hln]at own6
     have hUw6:=((hU.and hU4).and hU5).and hU6
     have hz6:H<=w6.heap.size:=by have:=hUw6.size;have:=HH.out;omega
     have HW6:=zH hw6
     obtain⟨Q,hQ⟩:∃ Q,Q=w5.heap.size:=⟨_,rfl⟩
     rw[<-hQ]at hb6
     have HQ:=zH hQ
     clear hn htk hw6 hQ p0 p1 p2 p3 hD4 hown4 hR5
     obtain⟨p0,p1,p2,p3⟩:=hb6.cells
     have hQl:=hb6.lt
     go_upto_region 6 with fail
     rw[<-HQ.out,<-HW6.out]
     go_upto_region 8 with fail
     go_wp2_with (at_builtin;go_loud (refine wpList_append_lies _ (by rfl) _ _ 26 (by rfl) H 29 i0 (.agg #[.int .i64 0,.string (B []),.int .i64 0,.slice none 0 0]) 4 56 (by kernel_rfl) hi hi0 hi1 hi2 rfl (by decide) vv j css.flatten (by rfl) own6 ⟨w6.heap.size,0,none⟩ 1 1 [.int .i64 k5,.string (B n5),.int .i64 i5,.slice a5 l5 c5] (by rfl) rfl (World.news_of_block (heap_alloc_new w6 _)) (by simp[Value.oneCell']) (by omega) (by simp only[maxLen];omega) (by omega) (by simp;omega) _ rfl ?_);intro g cap' w7 hown hgrow hat _hg7)
     have hown8:w7.ownsRow H 29 4 (.slice (some ⟨g,0,none⟩) ((((ts.take j).map (zj l)).map Tm.zN).length+1) cap') ((((ts.take j).map (zj l)).map Tm.zN).length+1) (css.flatten++[.int .i64 k5,.string (B n5),.int .i64 i5,.slice a5 l5 c5]):=by rw[hln];exact hown
     have hD7:=hDa.appended (d:=X.zN) rfl (hR6.on hal6) hown8 hgrow hat (Nat.le_refl _)
     rw[<-HN.out.2,hln]at hD7
     have hU7:=(hUw6.and hal6).trans (hDa.upto hgrow) (fun b hb e=>by have:=HH.out;omega)
     have HD7:=zH hD7
     clear hD7
     go_wp2_with fail
     go_roundw
     case rel=>exact⟨j+1,_,by go_num,by omega,HN.out.1,HD7.out,hU7⟩
     case measure=>simp[intOf];omega
    ·have hjl:j=tl:=by omega
     subst hjl
     have htk:ts.take j=ts:=List.take_of_length_le (by rw[<-HL.out.2];exact Nat.le_refl _)
     have hA:=HA.out
     rw[htk]at hA hD
     rw[htk]at hln
     obtain⟨va,vc,hv,hvc,hF⟩:=hD.rep HO.out
     rw[hln]at hv hvc
     subst hv
     have HF:=zH (And.intro hA (And.intro hF (And.intro hvc hln)))
     have HDD:=zH hD
     clear hA hF hD hvc hln htk hL1 hT1
     go_wp2_with fail
     refine bodyPost_ret (v:=.tuple #[.slice va j vc,.int .i64 0]) (by simp[results,Tryz.f60,go_sem]) rfl ?_
     obtain⟨hA,hF,hvc,hln⟩:=HF.out
     have e:xf l ts=ts.map (zj l):=by unfold xf;rw[if_pos hA]
     rw[List.length_map,List.length_map]at hln
     refine⟨va,vc,?_,?_,?_,hU,?_⟩
     ·rw[e,hA,List.length_map,hln]
     ·rw[e,List.length_map,hln];exact hvc
     ·rw[e];exact hF
     ·rw[e,List.length_map,hln,<-HH.out];exact⟨css,HDD.out⟩
end
section
open Go.RowKit Go.LF
def RaC(l:List Mv)(s':Ord)(xb base:Nat)(la:Option Addr)(lc:Nat)(ov:Value)(w w':World):Prop:=
  ∃ ov',y8 w' xb (.slice la l.length lc) ov' (.int .i64 s'.e) 92/\yR base w' ov' s'.o/\zD (fun b=>b=xb\/ov.ownBlock=some b) w w'/\∀ b,ov'.ownBlock=some b->ov.ownBlock=some b\/w.heap.size<=b
def zJe(l:List Mv)(g:List Int->Ord->Ord)(R:Nat)(u:Tm):Prop:=
  ∀(xb base:Nat)(ov:Value)(o:List Int)(w:World)(la:Option Addr)(lc:Nat)(cs:List Value),u.wt<=1000000->Bel l R (Tm.zJ u)->yF l o+o.length<=l.length->xb<base->base<=w.heap.size->
   y8 w xb (.slice la l.length lc) ov (.int .i64 0) 92->yR base w ov o->zG (fun b=>b=xb\/ov.ownBlock=some b) w 6 (l.map Mv.zN) la 0->zM zC w u.zN cs->
   Calls Tryz.prog 61 #[.pointer (some ⟨xb,0,none⟩),.agg cs.toArray] w fun e w'=>e=.returned (.tuple #[])/\RaC l (g (Tm.zJ u) ⟨o,0⟩) xb base la lc ov w w'
abbrev Ra6(xb b o mb mo:Nat)(x m t0 t1 t2 t3:Value)(w':World):Prop:=
  w'.cell? ⟨xb,0,none⟩=some x/\w'.cell? ⟨mb,mo,none⟩=some m/\(w'.cell? ⟨b,o+1,none⟩=some t0/\w'.cell? ⟨b,o+2,none⟩=some t1/\w'.cell? ⟨b,o+3,none⟩=some t2/\w'.cell? ⟨b,o+4,none⟩=some t3)
theorem Ra6.zF{S:Nat->Prop}{xb b o mb mo:Nat}{x m t0 t1 t2 t3:Value}{w w':World}(h:Ra6 xb b o mb mo x m t0 t1 t2 t3 w)(hU:zD S w w')(h1:¬S xb)(h2:¬S mb)(h3:¬S b):Ra6 xb b o mb mo x m t0 t1 t2 t3 w':=by
  obtain⟨a0,a1,b0,b1,b2,b3⟩:=h
  exact⟨hU.cell a0 h1,hU.cell a1 h2,hU.cell b0 h3,hU.cell b1 h3,hU.cell b2 h3,hU.cell b3 h3⟩
theorem Ra6.new{xb b o mb mo:Nat}{x m t0 t1 t2 t3:Value}{w:World}(h:Ra6 xb b o mb mo x m t0 t1 t2 t3 w)(ob:Obj):Ra6 xb b o mb mo x m t0 t1 t2 t3 (w.alloc ob):=h.zF ((zD.refl zC w).alloc ob) (fun x=>x) (fun x=>x) (fun x=>x)
theorem Ra6.Ye{r xb b o mb mo:Nat}{x m t0 t1 t2 t3:Value}{w:World}(h:Ra6 xb b o mb mo x m t0 t1 t2 t3 w)(h1:¬xb=r)(h2:¬mb=r)(h3:¬b=r)(d0 d1 d2 d3:Value):
    Ra6 xb b o mb mo x m t0 t1 t2 t3 ((((w.setCell ⟨r,0,none⟩ d0).setCell ⟨r,1,none⟩ d1).setCell ⟨r,2,none⟩ d2).setCell ⟨r,3,none⟩ d3):=h.zF (zD.set (zD.set (zD.set (zD.set (zD.refl _ _) 0 _) 1 _) 2 _) 3 _) h1 h2 h3
abbrev Ra5(xb mb mo:Nat)(x m:Value)(w':World):Prop:=w'.cell? ⟨xb,1,none⟩=some x/\w'.cell? ⟨mb,mo,none⟩=some m
theorem qi(l:List Mv)(hP:Zw l)(p:Int)(hwft:(typeOf l p).wf=0)(har:Tm.x8 (fun _ _ _ z=>z<=200) (typeOf l p))(O:Nat->Prop)(w:World)(hO:∀ b,O b->b<w.heap.size)(la:Option Addr)(lc:Nat)(cs:List Value)(hL:zG O w 6 (l.map Mv.zN) la 0)(h:zM O w (typeOf l p).zN cs):
    Calls Tryz.prog 13 #[.slice la l.length lc,.agg cs.toArray] w (Y4 O (yc l (typeOf l p)) (zj l (typeOf l p)) w):=
  Z4 O l hP.qG (typeOf l p) (by have:=Tm.xo hwft;omega) (fun h1 h2=>qn _ ((yS _ h1).2 h2) har) w hO la lc cs hL h
theorem zFr(l:List Mv)(hP:Zw l)(f:List Int->Ord->Ord)(R:Nat)(u:Tm)(hinv:∀ o,yF l o+o.length<=l.length->Bel l (R+1) (Tm.zJ u)->∀ j,yF l (yU l f ((Tm.zJ u).take j) ⟨o,0⟩).o+(yU l f ((Tm.zJ u).take j) ⟨o,0⟩).o.length<=l.length)
    (hih:Tm.zJ u≠[]->∀ u,zJe l f R u):zJe l (yU l f) (R+1) u:=by
  intro xb base ov o w la lc cs hwt hbel hcnt hxb hbw hX hI hL hR
  obtain⟨i0,hi,hi0,hi1,hi2⟩:=info_parts Yz
  obtain⟨k,nm,i,ts,aa,cap,ht,rfl,_,_⟩:=zX hR
  generalize ts.length=len at *
  obtain⟨w1,hw1⟩:∃ w1,w1=w.alloc (.cells #[.int .i64 k,.string (B nm),.int .i64 i,.slice aa len cap] 29):=⟨_,rfl⟩
  have hU1:zD zC w w1:=by rw[hw1];exact(zD.refl zC _).alloc _
  have hb1:zK w1 w.heap.size (.int .i64 k) (.string (B nm)) (.int .i64 i) (.slice aa len cap) 29:=by rw[hw1];exact zK.zL rfl
  have MT:=ZJ u hwt w1 _ (hR.on hU1)
  have hcl:∀ b,(b=xb\/ov.ownBlock=some b)->b<w1.heap.size:=fun b e=>by
    have h1:=hU1.size
    rcases e with e |e
    ·omega
    ·have:=(hI.lt b e).2;omega
  have hinv:=hinv o hcnt hbel
  obtain⟨ns,hns⟩:∃ ns,ns=Tm.zJ u:=⟨_,rfl⟩
  have hnl2:(Tm.zJ u).length<=1000000:=Nat.le_trans (yL u) hwt
  rw[<-hns]at hbel hih MT hnl2 hinv
  rw[<-hns]
  have HIH:=zH hih
  have HB:=zH (And.intro hbel hinv)
  have HW:=zH hw1
  have HU:=zH hU1
  obtain⟨H,hH⟩:∃ H,H=w.heap.size:=⟨_,rfl⟩
  rw[<-hH]at hb1
  have HH:=zH hH
  obtain⟨nl,hnl⟩:∃ nl,nl=ns.length:=⟨_,rfl⟩
  rw[<-hnl]at hnl2
  have HN:=zH hnl
  have hHb:base<=H:=by omega
  have hX1:=hX.kept hU1
  have hI1:=hI.on hU1
  have hL1:=hL.on hU1
  obtain⟨ll,hll⟩:∃ ll,ll=l.length:=⟨_,rfl⟩
  rw[<-hll]at hX1
  have HLL:=zH hll
  clear hw1 hH hih hbel hns hR hL hnl hwt hX hI hinv hcnt hll
  obtain⟨t0,t1,t2,t3⟩:=hb1.cells
  go_enter Tryz.func61,Tryz.ntmps61
  go_upto_region 1 with fail
  rw[<-HH.out,<-HW.out]
  go_wp2_with fail
  (with_reducible refine MT.mono ?_)
  rintro e2 w2 ⟨v,rfl,hIv,hU2⟩
  obtain⟨va,vc,rfl,hvc,hEv⟩:=zr hIv.rep
  rw[<-HN.out]at hvc
  rw[<-HN.out]
  have hE2:zG (fun b=>b=xb\/ov.ownBlock=some b) w2 1 (ns.map (yz.int .i64)) va 0:=zG.weaken (fun b _ e=>hcl b e) _ _ _ _ hEv
  have hX2:=hX1.kept hU2
  have hI2:=hI1.on hU2
  have hL2:=zG.zQ _ _ _ _ (hL1.on hU2)
  have hE2f:=zG.zQ _ _ _ _ hE2
  have hz2:H<w2.heap.size:=by have:=hb1.lt;have:=hU2.size;omega
  clear hIv hEv MT t0 t1 t2 t3 hb1 hX1 hI1 hL1 hcl hE2
  go_wp2_with fail
  go_loopw [5] (fun v5 wr=>∃(j:Nat)(ovj:Value),v5=.int .i64 (j:Int)/\j<=nl/\y8 wr xb (.slice la ll lc) ovj (.int .i64 (yU l f (ns.take j) ⟨o,0⟩).e) 92/\yR base wr ovj (yU l f (ns.take j) ⟨o,0⟩).o/\zD (fun b=>b=xb\/ov.ownBlock=some b) w2 wr/\
      (∀ b,ovj.ownBlock=some b->ov.ownBlock=some b\/w2.heap.size<=b))
    (fun v5 _=>nl - (intOf v5).toNat)
  case atStart=>exact⟨0,ov,rfl,Nat.zero_le _,by rw[List.take_zero];exact hX2,by rw[List.take_zero];exact hI2,zD.refl _ _,fun b h=>.inl h⟩
  case round=>
    clear hX2 hI2
    obtain⟨j,ovj,rfl,hj,hX,hI,hU,hov⟩:=hrel
    obtain⟨sj,hsj⟩:∃ sj,sj=yU l f (ns.take j) ⟨o,0⟩:=⟨_,rfl⟩
    have hcj:=HB.out.2 j
    have hcj1:=HB.out.2 (j+1)
    rw[<-hsj]at hX hI hcj
    have hjm:(j:Int)<=1000000:=by omega
    have hzr:=hU.size
    obtain⟨x0,x1,x2⟩:=hX.cells
    have fx:=hX.zI
    have hxl:=hX.lt
    have HOV:=zH hov
    by_cases hgo:j<nl/\sj.e=0
    ·obtain⟨hlt,hse⟩:=hgo
     have hjl:j<ns.length:=by have:=HN.out;omega
     have htk:yU l f (ns.take (j+1)) ⟨o,0⟩=yU l f [ns[j]] sj:=by rw[hsj];exact XJ l f ns j hjl _
     have hwk:∀ b,b<wr.heap.size->(b=xb\/ovj.ownBlock=some b)->((b=xb\/ov.ownBlock=some b)\/w2.heap.size<=b):=fun b _ e=>by
       rcases e with e |e
       ·exact .inl (.inl e)
       ·exact(HOV.out b e).elim (fun e=>.inl (.inr e)) .inr
     obtain⟨b,ofs,rfl,hbl,hbO,hcell⟩:=ye (zG.weaken hwk _ _ _ _ (zG.zF hU (fun b e=>.inl e) _ _ _ _ hE2f)) j hjl
     obtain⟨m0,m1,m2⟩:=HB.out.1 _ (List.getElem_mem hjl)
     have hne:ns≠[]:=fun h=>by rw[h]at hjl;simp at hjl
     have IH:=HIH.out hne
     generalize ns[j]=m at *
     rw[XH,if_neg (by omega)]at htk
     have hsE:(⟨sj.o,0⟩:Ord)=sj:=by rw[<-hse]
     rw[hse]at hX x2
     have hjb:(j:Int)<(nl:Int):=by omega
     have HJ:=zH hlt
     have hd:zD zC wr wr.drew:=(zD.refl zC _).drew
     obtain⟨oa,oc,rfl,hoc,hoE⟩:=zr hI.rep
     have HI5:=zAM sj.o (by have:=hP.len;omega) m wr.drew (.slice oa sj.o.length oc) (hI.rep.on hd)
     obtain⟨cb,hcb⟩:∃ cb,cb=sj.o.contains m:=⟨_,rfl⟩
     rw[<-hcb]at htk HI5
     have hol:sj.o.length<=40:=by have:=hP.len;omega
     obtain⟨ol,hol'⟩:∃ ol,ol=sj.o.length:=⟨_,rfl⟩
     rw[<-hol']at HI5 hX x1 hoc hol hI hwk
     have HOV:Hid (∀ b,(Value.slice oa ol oc).ownBlock=some b->ov.ownBlock=some b\/w2.heap.size<=b):=zH (by rw[hol'];exact HOV.out)
     have HOL:=zH hol'
     have S5:Ra5 xb b (ofs+j) (.slice oa ol oc) (.int .i64 m) wr:=⟨x1,hcell⟩
     have S5d:Ra5 xb b (ofs+j) (.slice oa ol oc) (.int .i64 m) wr.drew:=⟨hd.cell x1 (fun x=>x),hd.cell hcell (fun x=>x)⟩
     have hse0:=hse
     have HCE:=zH (And.intro hcell hbO)
     have HTK:=zH (And.intro htk (And.intro hsE (And.intro hcj (And.intro hcj1 hcb))))
     have HI:=zH hI
     clear htk hsE hcj hcj1 hsj hse hlt hne hov hcb hol' hI hoE
     go_wp2_with fail
     go_region_held3 (fun w'=>Ra5 xb b (ofs+j) (.slice oa ol oc) (.int .i64 m) w')
       (first |(with_reducible assumption)|(with_reducible exact S5d))
       (first |((go_at_call 94);(with_reducible refine HI5.mono ?_);rintro e w5 ⟨rfl,hU5⟩;have S6:Ra5 xb b (ofs+j) (.slice oa ol oc) (.int .i64 m) w5:=⟨hU5.cell S5d.1 (fun x=>x),hU5.cell S5d.2 (fun x=>x)⟩;have hUr5:=hd.and hU5))
     have HSE:=zH (show sj.e=0 from hse0)
     cases cb
     case true=>
       have e1:yU l f (ns.take (j+1)) ⟨o,0⟩=sj:=by rw[HTK.out.1,if_pos rfl]
       have HE1:=zH e1
       clear e1 S5 S5d S6
       go_wp2_with fail
       go_roundw
       case rel=>exact⟨j+1,.slice oa ol oc,by go_num,by omega,by rw[HE1.out,HSE.out];exact hX.kept hUr5,by rw[HE1.out];exact HI.out.on hUr5,hU.trans hUr5 (fun _ _ e=>e.elim),HOV.out⟩
       case measure=>simp[intOf];omega
     case false=>
       have e1:=HTK.out.1
       rw[if_neg (by simp)]at e1
       obtain⟨p,rfl⟩:∃ p:Nat,m=(p:Int):=⟨m.toNat,by omega⟩
       have hpl:p<l.length:=by omega
       have hLw:zG (fun b=>b=xb\/(Value.slice oa ol oc).ownBlock=some b) w5 6 (l.map Mv.zN) la 0:=(zG.weaken hwk _ _ _ _ (zG.zF hU (fun b e=>.inl e) _ _ _ _ hL2)).on hUr5
       have hLf:=zG.zQ _ _ _ _ hLw
       obtain⟨b2,o2,k2,n2,ix2,aa2,cap2,va2,vc2,rfl,hb2l,hb2O,⟨d0,d1,d2,d3,d4,d5⟩,hRt,hvc2,hVv⟩:=xY hLw p hpl
       have hto:=YB hpl
       have hmem:=List.getElem_mem hpl
       have har:=(hP.kn _ hmem).1
       have hwft:=hP.YQ _ hmem
       rw[<-hto]at har hwft hRt d4
       have hRtf:=zM.zQ _ _ hRt
       clear hVv hvc2 d5 d0 hto hmem
       have hX5:=hX.kept hUr5
       have hI5:=HI.out.on hUr5
       have hbw5:base<=w5.heap.size:=by have:=hUr5.size;omega
       have hown5:∀ b,(b=xb\/(Value.slice oa ol oc).ownBlock=some b)->b<w5.heap.size:=fun b e=>by
         rcases e with e |e
         ·omega
         ·exact(hI5.lt b e).2
       have hbel2:=fun he=>ZS hP (i:=(p:Int)) (R:=R) m0 m1 he m2
       have hxw:=fun he=>ql hP (i:=(p:Int)) m0 m1 he
       have EXm:=fun(Q:Nat)(hQ:Q=xb\/w5.heap.size<=Q)(W:World)(hu:zD zC w5 W)(hq:Q<W.heap.size)=>qi l hP (p:Int) hwft har (fun b=>(b=xb\/(Value.slice oa ol oc).ownBlock=some b)\/b=Q) W (fun b e=>by rcases e with e |e;(have:=hown5 b e;have:=hu.size;omega);omega) (some ⟨b2,o2,none⟩) lc _
         ((zG.weaken (fun b hb e=>by rcases e with e |e;(exact .inl e);(rcases hQ with hQ |hQ;(exact .inl (.inl (by omega)));exact .inr (by omega))) _ _ _ _ hLf).on hu) ((zM.weaken (fun b hb e=>by rcases e with e |e;(exact .inl e);(rcases hQ with hQ |hQ;(exact .inl (.inl (by omega)));exact .inr (by omega))) _ _ hRtf).on hu)
       obtain⟨E,hE⟩:∃ E,E=yc l (typeOf l (p:Int)):=⟨_,rfl⟩
       obtain⟨X,hXX⟩:∃ X,X=zj l (typeOf l (p:Int)):=⟨_,rfl⟩
       rw[<-hE,<-hXX]at EXm
       rw[<-hE]at e1 hbel2 hxw
       rw[<-hXX]at e1 hbel2 hxw
       have hd5:zD zC w5 w5.drew:=(zD.refl zC _).drew
       have ha5:zD zC w5 (w5.alloc (.cells #[.int .i64 0,.string (B []),.int .i64 0,.slice none 0 0] 29)).drew:=((zD.refl zC _).alloc _).drew
       have hz5a:w5.heap.size<(w5.alloc (.cells #[.int .i64 0,.string (B []),.int .i64 0,.slice none 0 0] 29)).drew.heap.size:=by show w5.heap.size<(World.drew _).heap.size;simp
       have hzd5:=hd5.size
       have EXd:=EXm xb (.inl rfl) _ hd5 (by omega)
       have EXa:=EXm w5.heap.size (.inr (Nat.le_refl _)) _ ha5 hz5a
       rw[<-HLL.out]at EXd EXa
       generalize (typeOf l (p:Int)).args.length=tal at *
       have x50:=hX5.cells.1
       have S60:Ra6 xb b2 (o2+p * 6) b (ofs+j) (.slice (some ⟨b2,o2,none⟩) ll lc) (.int .i64 (p:Int)) (.int .i64 k2) (.string (B n2)) (.int .i64 ix2) (.slice aa2 tal cap2) w5:=⟨x50,S6.2,d1,d2,d3,d4⟩
       have S6d:=S60.zF hd5 (fun x=>x) (fun x=>x) (fun x=>x)
       have S6a:=S60.zF ha5 (fun x=>x) (fun x=>x) (fun x=>x)
       have hpl':(p:Int)<(ll:Int):=by have:=HLL.out;omega
       have hpm:(p:Int)<=40:=by have:=hP.len;omega
       have HE1:=zH (And.intro e1 (And.intro hbel2 hxw))
       clear e1 hbel2 hxw hE hXX har hwft hRt hRtf hLf S5 S5d S6 EXm hX hI5 d1 d2 d3 d4 x0 x1 x2 hxl fx hcell
       have hxl5:=hX5.lt
       have hbl5:b<w5.heap.size:=by have:=hUr5.size;omega
       go_upto_region 6 with fail
       go_cut [6,7]from 33 to 50 (fun v6 v7 wc=>∃(q:Nat)(k9 i9:Int)(n9:List UInt8)(aa9:Option Addr)(l9 c9:Nat),v6=.pointer (some ⟨q,0,none⟩)/\v7=.int .i64 E/\w5.heap.size<=q/\zK wc q (.int .i64 k9) (.string (B n9)) (.int .i64 i9) (.slice aa9 l9 c9) 29/\zM zC wc X.zN [.int .i64 k9,.string (B n9),.int .i64 i9,.slice aa9 l9 c9]/\zD zC w5 wc)
       case first=>
         go_region_held3 (fun w'=>Ra6 xb b2 (o2+p * 6) b (ofs+j) (.slice (some ⟨b2,o2,none⟩) ll lc) (.int .i64 (p:Int)) (.int .i64 k2) (.string (B n2)) (.int .i64 ix2) (.slice aa2 tal cap2) w')
           (first |(with_reducible assumption)|(with_reducible exact S6d)|(with_reducible exact S6a)|(repeat' (first |(with_reducible assumption)|(with_reducible refine Ra6.new ?_ _)|(with_reducible refine Ra6.Ye ?_ (by(try simp only[World.size_alloc]);omega) (by(try simp only[World.size_alloc]);omega) (by(try simp only[World.size_alloc]);omega) _ _ _ _))))
           (first
             |((go_at_call 13);(with_reducible refine EXd.mono ?_);rintro e w11 ⟨k11,i11,n11,a11,len11,cap11,rfl,hR11,hU11⟩;have S11:=S6d.zF hU11 (fun x=>x) (fun x=>x) (fun x=>x);have hU811:=hd5.and hU11;have z11:=hU811.size)
             |((go_at_call 13);(with_reducible refine EXa.mono ?_);rintro e w11 ⟨k11,i11,n11,a11,len11,cap11,rfl,hR11,hU11⟩;have S11:=S6a.zF hU11 (fun x=>x) (fun x=>x) (fun x=>x);have hU811:=ha5.and hU11;have z11:=hU811.size;have h6:=(((zK.zL rfl:zK (w5.alloc (.cells #[.int .i64 0,.string (B []),.int .i64 0,.slice none 0 0] 29)) w5.heap.size _ _ _ _ 29).kept (zD.refl zC _).drew).kept hU11);obtain⟨c0,c1,c2,c3⟩:=h6.cells;obtain⟨d0,d1,d2,d3⟩:=h6.zI;have h6l:=h6.lt))
         all_goals
           go_wp2_with fail
           go_meet
         all_goals first
           |(have h7:=h6
             refine⟨w5.heap.size,k11,i11,n11,a11,len11,cap11,rfl,rfl,by omega,h7.set.1,?_,?_⟩
             ·exact zM.weaken (fun _ _ e=>e.elim) _ _ (zM.zF h7.set.2 (fun b e=>.inr e) _ _ hR11)
             ·exact hU811.trans h7.set.2 (fun b hb e=>by omega))
           |(refine⟨w11.heap.size,k11,i11,n11,a11,len11,cap11,rfl,rfl,by omega,zK.zL rfl,?_,?_⟩
             ·exact(yV hR11).on ((zD.refl zC _).alloc _)
             ·exact hU811.alloc _)
       case rest=>
         obtain⟨q,k9,i9,n9,aa9,l9,c9,rfl,rfl,hqz,hB9,hR9,hU9⟩:=hcut
         obtain⟨w9,rfl⟩:∃ q,q=wc:=⟨wc,rfl⟩
         have hX9:=hX5.kept hU9
         have hU5r:=hUr5.and hU9
         have hI9:=HI.out.on hU5r
         have hL9:=hLw.on hU9
         have hz9:=hU5r.size
         clear S60 S6d S6a EXd EXa hd5 ha5 hX5 hLw
         obtain⟨x0,x1,x2⟩:=hX9.cells
         have fx:=hX9.zI
         have hxl:=hX9.lt
         by_cases hE0:E=0
         case neg=>
           have he':(E !=0)=true:=by simpa using hE0
           have e2:yU l f ns ⟨o,0⟩=⟨sj.o,E⟩:=by
             have h1:=HE1.out.1
             rw[if_pos hE0]at h1
             rw[zBv l f ns (j+1) ⟨o,0⟩ (by rw[h1];exact hE0),h1]
           have hXs:y8 (w9.setCell ⟨xb,2,none⟩ (.int .i64 E)) xb (.slice (some ⟨b2,o2,none⟩) ll lc) (.slice oa ol oc) (.int .i64 E) 92:=hX9.Yq _
           have hs:zD (fun b=>b=xb) w9 (w9.setCell ⟨xb,2,none⟩ (.int .i64 E)):=zD.set (zD.refl _ _) 2 _
           have hIs:yR base (w9.setCell ⟨xb,2,none⟩ (.int .i64 E)) (.slice oa ol oc) sj.o:=World.ownsRow.kept (row:=some xb) hI9 ⟨hs.os,hs.tape,hs.output,hs.size,fun k hk hne=>hs.block k hk (fun e=>hne (by rw[e]))⟩ (.inr fun e=>by have:=(hI9.lt xb e).1;omega)
           have hF:RaC l (yU l f ns ⟨o,0⟩) xb base (some ⟨b2,o2,none⟩) lc ov w (w9.setCell ⟨xb,2,none⟩ (.int .i64 E)):=by
             refine⟨.slice oa ol oc,by rw[e2,<-HLL.out];exact hXs,by rw[e2];exact hIs,((((HU.out.and hU2).mono (fun _ _ e=>e.elim)).trans hU (fun _ _ e=>e)).trans hU5r (fun _ _ e=>e.elim)).trans hs (fun b hb e=>.inl e),fun b e=>(HOV.out b e).imp id (fun h=>by have:=HU.out.size;have:=hU2.size;omega)⟩
           have HF:=zH hF
           clear hF hIs hs hXs e2 hE0
           go_wp2_with fail
           refine bodyPost_ret (results_none rfl _ _ _) rfl ?_
           exact⟨rfl,HF.out⟩
         case pos=>
           subst hE0
           have h1:=HE1.out.1
           rw[if_neg (by simp)]at h1
           have IHx:=IH X xb base (.slice oa ol oc) sj.o w9 (some ⟨b2,o2,none⟩) lc [.int .i64 k9,.string (B n9),.int .i64 i9,.slice aa9 l9 c9] (by have:=Tm.xo (HE1.out.2.2 rfl);omega) (HE1.out.2.1 rfl) HTK.out.2.2.1 hxb (by omega) (by rw[<-HLL.out];exact hX9) hI9 hL9 hR9
           rw[HTK.out.2.1]at IHx
           obtain⟨s',hs'⟩:∃ s',s'=f (Tm.zJ X) sj:=⟨_,rfl⟩
           rw[<-hs']at IHx h1
           have HH1:=zH h1
           obtain⟨t0,t1,t2,t3⟩:=hB9.cells
           clear h1 hs' x0 x1 x2 fx hX9
           go_wp2_with fail
           (with_reducible refine IHx.mono ?_)
           rintro e10 w10 ⟨rfl,ov10,hX10,hI10,hU10,ho10⟩
           rw[<-HLL.out]at hX10
           obtain⟨x0,x1,x2⟩:=hX10.cells
           have fx:=hX10.zI
           have hxl10:=hX10.lt
           have hz10:=hU10.size
           have hU10r:zD (fun b=>b=xb\/ov.ownBlock=some b) w2 w10:=(hU.trans hU5r (fun _ _ e=>e.elim)).trans hU10 (fun b hb e=>by
             rcases e with e |e
             ·exact .inl e
             ·exact(HOV.out b e).elim (fun e=>.inr e) (fun e=>by omega))
           have ho10r:∀ b,ov10.ownBlock=some b->ov.ownBlock=some b\/w2.heap.size<=b:=fun b e=>(ho10 b e).elim (fun e=>HOV.out b e) (fun e=>.inr (by omega))
           have HO10:=zH (And.intro hU10r ho10r)
           have hcj':=HTK.out.2.2.2.1
           clear IHx t0 t1 t2 t3 hB9 hR9 hU10r ho10r ho10
           by_cases hs0:s'.e=0
           case neg=>
             have he':(s'.e == 0)=false:=by simpa using hs0
             have h1:=HH1.out
             rw[if_neg hs0]at h1
             have HH2:=zH h1
             have HXI:=zH (And.intro hX10 hI10)
             obtain⟨z,hz⟩:∃ z,z=s'.e:=⟨_,rfl⟩
             rw[<-hz]at he' x2
             have HZ:=zH hz
             clear h1 hs0 hcj' hX10 hI10 hz
             go_wp2_with fail
             go_roundw
             case rel=>exact⟨j+1,ov10,by go_num,by have:=HJ.out;omega,by rw[HH2.out];exact HXI.out.1,by rw[HH2.out];exact HXI.out.2,HO10.out.1,HO10.out.2⟩
             case measure=>have:=HJ.out;simp[intOf];omega
           case pos=>
             have h1:=HH1.out
             rw[if_pos hs0]at h1
             rw[h1]at hcj'
             simp only[List.length_append,List.length_singleton]at hcj'
             have hl40:=hP.len
             have hsl:s'.o.length<=1000:=by omega
             have HH2:=zH h1
             have HS0:=zH hs0
             obtain⟨n9',hn9⟩:∃ n9,n9=s'.o.length:=⟨_,rfl⟩
             rw[hs0]at x2
             have hd10:zD zC w10 w10.drew:=(zD.refl zC w10).drew
             have hal:zD zC w10 (w10.drew.alloc (.cells #[.int .i64 (p:Int)] 3)):=hd10.alloc _
             have hrow10:=hI10.on hal
             have hrow10':(w10.drew.alloc (.cells #[.int .i64 (p:Int)] 3)).ownsRow base 3 1 ov10 n9' (s'.o.map (Value.int .i64)):=by rw[hn9];exact hrow10
             rw[<-hn9]at hsl
             have HN9:=zH hn9
             have HX10:=zH hX10
             have HI10:=zH hI10
             have hcellm:w10.cell? ⟨b,ofs+j,none⟩=some (.int .i64 (p:Int)):=hU10.cell (hU5r.cell HCE.out.1 (fun x=>x)) (by rw[HOL.out];exact HCE.out.2)
             have hcellm':=hd10.cell hcellm (fun x=>x)
             obtain⟨y0,y1,y2⟩:=(hX10.kept hd10).cells
             clear h1 hs0 hcj' hn9
             go_wp2_with fail
             go_region_law (first
               |(refine step_append_lies _ (by rfl) _ _ 22 (by rfl) base 3 i0 (.int .i64 0) 1 8 (by kernel_rfl) hi hi0 hi1 hi2 rfl (by decide) ov10 n9' (s'.o.map (Value.int .i64)) (by rfl) hrow10' ⟨w10.heap.size,0,none⟩ 1 1 [.int .i64 (p:Int)] (by rfl) rfl (World.news_of_block (heap_alloc_new w10.drew _)) (by simp[Value.oneCell']) (by omega) (by simp only[maxLen];omega) (by omega) (by simp;omega) _ rfl ?_;intro g cap' w11 hown hgrow9 hat _hg10;have hxb11:=(HX10.out.kept hal).zF (YR hgrow9) (zCC hrow10 hxb);have y1:=hxb11.cells.2.1;have fy:=hxb11.zI;have ly:=hxb11.lt))
             all_goals
               obtain⟨w12,hw12⟩:∃ w12,w12=w11.setCell ⟨xb,1,none⟩ (.slice (some ⟨g,0,none⟩) (n9'+1) cap'):=⟨_,rfl⟩
               have hset:zD (fun b=>b=xb) w11 w12:=by rw[hw12];exact zD.set (zD.refl _ _) 1 _
               have hX12:y8 w12 xb (.slice (some ⟨b2,o2,none⟩) ll lc) (.slice (some ⟨g,0,none⟩) (n9'+1) cap') (.int .i64 s'.e) 92:=by rw[hw12];exact hxb11.YW _
               have hI11:yR base w11 (.slice (some ⟨g,0,none⟩) (n9'+1) cap') (s'.o++[(p:Int)]):=by
                 unfold yR
                 rw[List.length_append,List.length_singleton,List.map_append,<-HN9.out]
                 exact hown
               have hI12:yR base w12 (.slice (some ⟨g,0,none⟩) (n9'+1) cap') (s'.o++[(p:Int)]):=World.ownsRow.kept (row:=some xb) hI11 ⟨hset.os,hset.tape,hset.output,hset.size,fun k hk hne=>hset.block k hk (fun e=>hne (by rw[e]))⟩ (.inr fun e=>by have:=(hI11.lt xb e).1;omega)
               have hU12:zD (fun b=>b=xb\/ov.ownBlock=some b) w2 w12:=((HO10.out.1.trans hal (fun _ _ e=>e.elim)).trans (YR hgrow9) (fun b hb e=>(HO10.out.2 b e).elim .inr (fun e=>by omega))).trans hset (fun b hb e=>.inl e)
               have ho12:∀ b,(Value.slice (some ⟨g,0,none⟩) (n9'+1) cap').ownBlock=some b->ov.ownBlock=some b\/w2.heap.size<=b:=fun b e=>by
                 simp only[Value.ownBlock,Option.some.injEq]at e
                 subst e
                 rcases hat with e |e
                 ·exact HO10.out.2 _ e
                 ·refine .inr ?_
                  have h1:=hal.size
                  have h2:=HO10.out.1.size
                  exact Nat.le_trans h2 (Nat.le_trans h1 (Nat.le_of_eq e.symm))
               rw[<-hw12]
               have HFI:=zH (And.intro hX12 (And.intro hI12 (And.intro hU12 ho12)))
               clear hX12 hI12 hU12 ho12 hset hI11 hown hgrow9 hat hw12 hxb11 y1 fy ly
               go_wp2_with fail
               go_roundw
               case rel=>exact⟨j+1,_,by go_num,by have:=HJ.out;omega,by rw[HH2.out];exact HS0.out ▸ HFI.out.1,by rw[HH2.out];exact HFI.out.2.1,HFI.out.2.2.1,HFI.out.2.2.2⟩
               case measure=>have:=HJ.out;simp[intOf];omega
    ·have hfin:yU l f ns ⟨o,0⟩=sj:=by
       by_cases hse:sj.e=0
       ·have:ns.take j=ns:=List.take_of_length_le (by have:=HN.out;omega)
        rw[hsj,this]
       ·rw[hsj]
        exact zBv l f ns j _ (by rw[<-hsj];exact hse)
     have hF:RaC l (yU l f ns ⟨o,0⟩) xb base la lc ov w wr:=⟨ovj,by rw[hfin,<-HLL.out];exact hX,by rw[hfin];exact hI,(((HU.out.and hU2).mono (fun _ _ e=>e.elim)).trans hU (fun _ _ e=>e)),fun b e=>(HOV.out b e).imp id (fun h=>by have:=HU.out.size;have:=hU2.size;omega)⟩
     have HF:=zH hF
     obtain⟨z,hz⟩:∃ z,z=sj.e:=⟨_,rfl⟩
     rw[<-hz]at x2
     have hways:¬(j:Int)<(nl:Int)\/((j:Int)<(nl:Int)/\(z == 0)=false):=by
       by_cases h:j<nl
       ·exact .inr ⟨by omega,by simpa[hz]using fun e=>hgo ⟨h,e⟩⟩
       ·exact .inl (by omega)
     clear hF hfin hI hcj hcj1 hsj hz hX hgo
     rcases hways with hlt |⟨hlt,hz0⟩
     all_goals
       go_wp2_with fail
       go_end0
       exact⟨rfl,HF.out⟩
end
end Go.Proofs.YthgmimncdjhgnaaGreatDoor
namespace Go.LF
open Tm Go.Proofs.YthgmimncdjhgnaaGreatDoor
theorem zDE(l:List Mv)(d:Nat):∀(ts:List Tm)(s:Ord),s.e≠0->ZN l d ts s=s
  | [],s,_=>rfl
  |t :: ts,s,h=>by
   obtain⟨f,hf⟩:=zFV l d
   rw[ZN,hf,Yu _ _ _ _ h]
   exact zDE l d ts s h
theorem zDx(l:List Mv)(d:Nat)(a b:List Tm):∀ s,ZN l d (a++b) s=ZN l d b (ZN l d a s):=by
  induction a with
  |nil=>intro s;rfl
  |cons t ts ih=>intro s;exact ih _
theorem zGU(l:List Mv)(d:Nat)(ts:List Tm)(j:Nat)(s:Ord)(h:(ZN l d (ts.take j) s).e≠0):ZN l d ts s=ZN l d (ts.take j) s:=by
  conv=>lhs;rw[<-List.take_append_drop j ts]
  rw[zDx,zDE _ _ _ _ h]
theorem zF7(l:List Mv)(d:Nat)(ts:List Tm)(j:Nat)(h:j<ts.length)(s:Ord):ZN l d (ts.take (j+1)) s=Yr l d (Tm.zJ ts[j]) (ZN l d (ts.take j) s):=by
  rw[List.take_succ_eq_append_getElem h,zDx]
  rfl
theorem zHF{l:List Mv}(hP:Zw l){us:List Tm}(hu:∀ u∈us,∀ i∈Tm.zJ u,i<l.length):yF l (ZN l l.length us ⟨[],0⟩).o+(ZN l l.length us ⟨[],0⟩).o.length<=l.length:=by
  rw[QQ]
  exact(zH7 hP (l.length+1) (us.flatMap Tm.zJ) [] (zAD l (fun x hx=>by
    obtain⟨u,hu',hx⟩:=List.mem_flatMap.1 hx
    exact⟨(ZX x hx).1,hu u hu' x hx⟩)) (X1 l)).1
end Go.LF
namespace Go.Proofs.YthgmimncdjhgnaaGreatDoor
open Go.RowKit Go.LF
theorem zHb(l:List Mv)(hP:Zw l):∀ R,∀ u,zJe l (cF l R) R u
  |0,u=>by
   intro xb base ov o w la lc cs h1 h2 h3 h4 h5 h6 h7 h8 h9
   have hm:Tm.zJ u=[]:=zDZ h2
   have:=zFr l hP (fun _ s=>s) 0 u (fun o h _ j=>by rw[hm,List.take_nil];exact h) (fun h=>absurd hm h) xb base ov o w la lc cs h1 (fun x hx=>by rw[hm]at hx;cases hx) h3 h4 h5 h6 h7 h8 h9
   rw[hm]at this ⊢
   exact this
  |R+1,u=>by
   have:=zFr l hP (cF l R) R u (fun o h hb j=>by
     have:=(zH7 hP (R+1) ((Tm.zJ u).take j) o (fun x hx=>hb x (List.mem_of_mem_take hx)) h).1
     have e:cF l (R+1) ((Tm.zJ u).take j) ⟨o,0⟩=yU l (cF l R) ((Tm.zJ u).take j) ⟨o,0⟩:=by show Yr l R _ _=_;rw[XX]
     rw[e]at this
     exact this) (fun _=>zHb l hP R)
   have e:cF l (R+1)=yU l (cF l R):=by show Yr l R=_;rw[XX]
   rw[e]
   exact this
theorem Yl(l:List Mv)(hP:Zw l)(ts:List Tm)(hts:∀ t∈ts,t.wt<=1000000/\(t.wf=0->(∀ i∈Tm.zJ t,i<l.length)->Kn l.length t))(hlen:ts.length<=1000)(w:World)(la:Option Addr)(lc:Nat)(ta:Option Addr)(tc:Nat)(hL:zG zC w 6 (l.map Mv.zN) la 0)(hT:zG zC w 4 (ts.map Tm.zN) ta 0):
    Calls Tryz.prog 16 #[.slice la l.length lc,.slice ta ts.length tc] w (zGz (ZW l ts) (ZB l ts) w):=by
  have AL:=zAx zC l hP.qG ts hts hlen w (fun _ e=>e.elim) la lc ta tc hL hT
  have hpar:=@qI l hP ts
  have hal:=qN l ts
  obtain⟨E,hE⟩:∃ E,E=ZW l ts:=⟨_,rfl⟩
  obtain⟨O,hO⟩:∃ O,O=ZB l ts:=⟨_,rfl⟩
  rw[<-hE,<-hO]
  unfold ZB at hO
  rw[<-hE]at hO
  unfold ZW at hE
  unfold zCg at hE hO
  generalize xh l ts=A at *
  generalize xf l ts=us at *
  obtain⟨S,hS⟩:∃ S,S=ZN l l.length us ⟨[],0⟩:=⟨_,rfl⟩
  rw[<-hS]at hE hO
  have HE:=zH (And.intro hE (And.intro hO hS))
  have hul:us.length<=1000:=by omega
  have HUL:=zH hpar
  obtain⟨ll,hll⟩:∃ ll,ll=l.length:=⟨_,rfl⟩
  rw[<-hll]at AL
  rw[<-hll]
  have HLL:=zH hll
  obtain⟨ul,hul'⟩:∃ ul,ul=us.length:=⟨_,rfl⟩
  have HUL':=zH hul'
  have hLf:=zG.zQ _ _ _ _ hL
  clear hE hO hS hpar hal hll hL hT hlen hts
  go_enter Tryz.func16,Tryz.ntmps16
  go_wp2_with fail
  (with_reducible refine AL.mono ?_)
  rintro e w2 ⟨ua,uc,rfl,huc,hUe,hU2,_⟩
  rw[<-hul']at huc hul
  rw[<-hul']
  clear hul'
  by_cases hA:A=0
  case neg=>
    have he:(A !=0)=true:=by simpa using hA
    have h1:E=A:=by rw[HE.out.1,if_pos hA]
    have h2:O=[]:=by rw[HE.out.2.1,if_neg (by rw[h1];exact hA)]
    have HF:=zH (And.intro h1 h2)
    clear h1 h2 hA AL
    go_wp2_with fail
    refine bodyPost_ret (v:=.tuple #[.slice none 0 0,.int .i64 A]) (by simp[results,Tryz.f16,go_sem]) rfl ?_
    exact⟨none,0,by rw[HF.out.1,HF.out.2];rfl,by rw[HF.out.2];exact Nat.le_refl _,by rw[HF.out.2];exact zn _ _ _ (fun i hi=>by simp at hi),hU2⟩
  case pos=>
    subst hA
    have h1:E=S.e:=by rw[HE.out.1,if_neg (by simp)]
    have HE1:=zH h1
    obtain⟨w3,hw3⟩:∃ w3,w3=w2.alloc (.cells #[.slice la ll lc,.slice none 0 0,.int .i64 0] 92):=⟨_,rfl⟩
    have hU3:zD zC w2 w3:=by rw[hw3];exact(zD.refl zC _).alloc _
    have hX3:y8 w3 w2.heap.size (.slice la ll lc) (.slice none 0 0) (.int .i64 0) 92:=by rw[hw3];exact y8.zL rfl
    have hz3:w3.heap.size=w2.heap.size+1:=by rw[hw3];simp
    obtain⟨Q,hQ⟩:∃ Q,Q=w2.heap.size:=⟨_,rfl⟩
    rw[<-hQ]at hX3 hz3
    have HQ:=zH hQ
    have HW3:=zH hw3
    have hUw3:=hU2.and hU3
    have hL3:=(hLf.on hU2).on hU3
    have hUe3:=(zG.zQ _ _ _ _ hUe).on hU3
    rw[<-hQ]at hUe3
    have hzQ:w.heap.size<=Q:=by rw[hQ];exact hU2.size
    clear h1 AL hw3 hQ hUe hU2 hU3 hLf
    go_upto_region 5 with fail
    rw[<-HQ.out,<-HW3.out]
    go_wp2_with fail
    go_loopw [9] (fun v9 wr=>∃(j:Nat)(ov:Value),v9=.int .i64 (j:Int)/\j<=ul/\y8 wr Q (.slice la ll lc) ov (.int .i64 (ZN l l.length (us.take j) ⟨[],0⟩).e) 92/\yR (Q+1) wr ov (ZN l l.length (us.take j) ⟨[],0⟩).o/\zD (fun b=>Q<=b) w3 wr)
      (fun v9 _=>ul - (intOf v9).toNat)
    case atStart=>exact⟨0,_,rfl,Nat.zero_le _,by rw[List.take_zero];exact hX3,by rw[List.take_zero];exact World.ownsRow_nil _ _ _ _,zD.refl _ _⟩
    case round=>
      clear hX3
      obtain⟨j,ov,rfl,hj,hX,hI,hU⟩:=hrel
      have hcnt:=zHF hP (us:=us.take j) (fun u hu=>(HUL.out u (List.mem_of_mem_take hu)).2)
      obtain⟨sj,hsj⟩:∃ sj,sj=ZN l l.length (us.take j) ⟨[],0⟩:=⟨_,rfl⟩
      rw[<-hsj]at hX hI hcnt
      have hzr:=hU.size
      have hji:(j:Int)<=1000:=by omega
      obtain⟨x0,x1,x2⟩:=hX.cells
      have fx:=hX.zI
      have hxl:=hX.lt
      have hUwr:zD zC w wr:=hUw3.trans hU (fun b hb e=>by omega)
      by_cases hgo:j<ul/\sj.e=0
      ·obtain⟨hlt,hse⟩:=hgo
       have hjl:j<us.length:=by have:=HUL'.out;omega
       have hnx:=zF7 l l.length us j hjl ⟨[],0⟩
       rw[<-hsj]at hnx
       obtain⟨eb,eo,ek,en,ex,es,ec,rfl,hebl,heO,p0,p1,p2,p3,hRp⟩:=zd (zG.zF hU (fun b e=>.inr e) _ _ _ _ hUe3) j hjl
       have hpj:=HUL.out _ (List.getElem_mem hjl)
       have hLr:=zG.zF hU (fun b e=>.inr (by omega)) _ _ _ _ hL3
       have RA:=zHb l hP (l.length+1) us[j] Q (Q+1) ov sj.o wr la lc _ hpj.1 (zAD l (fun x hx=>⟨(ZX x hx).1,hpj.2 x hx⟩)) hcnt (by omega) (by omega) (by rw[<-HLL.out,<-hse];exact hX) hI
         (zG.weaken (fun b _ e=>.inr (by rcases e with e |e;(omega);have:=(hI.lt b e).1;omega)) _ _ _ _ hLr) (yV hRp)
       rw[show(⟨sj.o,0⟩:Ord)=sj by rw[<-hse]]at RA
       have hcf:cF l (l.length+1) (Tm.zJ us[j]) sj=ZN l l.length (us.take (j+1)) ⟨[],0⟩:=by rw[hnx];rfl
       rw[hcf]at RA
       rw[hse]at x2
       have hjb:(j:Int)<(ul:Int):=by omega
       have hown:=fun b e=>(hI.lt b e).1
       generalize us[j].args.length=el at *
       clear hnx hcf hpj hcnt hsj hRp hLr hX hse
       go_wp2_with fail
       (with_reducible refine RA.mono ?_)
       rintro e w5 ⟨rfl,ov5,hX5,hI5,hU5,ho5⟩
       have HF:=zH (And.intro hX5 (And.intro hI5 (hU.trans hU5 (fun b hb e=>by rcases e with e |e;(omega);have:=hown b e;omega))))
       clear RA hX5 hI5 hU5 ho5 p0 p1 p2 p3 x0 x1 x2 fx hxl hown hI
       go_wp2_with fail
       go_roundw
       case rel=>exact⟨j+1,ov5,by go_num,by omega,by rw[HLL.out];exact HF.out.1,HF.out.2.1,HF.out.2.2⟩
       case measure=>simp[intOf];omega
      ·have hS:S=sj:=by
         by_cases hse:sj.e=0
         ·have:us.take j=us:=List.take_of_length_le (by have:=HUL'.out;omega)
          rw[this]at hsj
          rw[HE.out.2.2,hsj]
         ·rw[HE.out.2.2,hsj]
          exact zGU l l.length us j _ (by rw[<-hsj];exact hse)
       obtain⟨oa,oc,rfl,hoc,hoE⟩:=zr hI.rep
       by_cases hse:sj.e=0
       ·have hF1:E=0:=by rw[HE1.out,hS,hse]
        have hF2:O=sj.o:=by rw[HE.out.2.1,if_pos hF1,hS]
        have HF:=zH (And.intro hF1 (And.intro hF2 hoE))
        have hjn:¬(j:Int)<(ul:Int):=fun h=>hgo ⟨by omega,hse⟩
        rw[hse]at x2
        obtain⟨ol,hol⟩:∃ ol,ol=sj.o.length:=⟨_,rfl⟩
        rw[<-hol]at x1 hoc
        have HOL:=zH hol
        clear hS hF1 hF2 hgo hsj hX hI hcnt hoE hse hol
        go_wp2_with fail
        refine bodyPost_ret (v:=.tuple #[.slice oa ol oc,.int .i64 0]) (by simp[results,Tryz.f16,go_sem]) rfl ?_
        exact⟨oa,oc,by rw[HF.out.1,HF.out.2.1,HOL.out],by rw[HF.out.2.1,<-HOL.out];exact hoc,by rw[HF.out.2.1];exact zG.weaken (fun _ _ e=>e.elim) _ _ _ _ HF.out.2.2,hUwr⟩
       ·have hF1:E=sj.e:=by rw[HE1.out,hS]
        have hF2:O=[]:=by rw[HE.out.2.1,if_neg (by rw[hF1];exact hse)]
        have HF:=zH (And.intro hF1 hF2)
        obtain⟨z,hz⟩:∃ z,z=sj.e:=⟨_,rfl⟩
        rw[<-hz]at x2 hse hX
        have HZ:=zH hz
        have hz1:(z == 0)=false:=by simpa using hse
        have hz2:(z !=0)=true:=by simpa using hse
        have hways:(j:Int)<(ul:Int)\/¬(j:Int)<(ul:Int):=Classical.em _
        clear hS hF1 hF2 hgo hsj hI hcnt hoE hse hz
        rcases hways with hlt |hlt
        all_goals
          go_upto_region 10 with fail
          go_quiet (fail)
          all_goals
            go_wp2_with fail
            refine bodyPost_ret (v:=.tuple #[.slice none 0 0,.int .i64 z]) (by simp[results,Tryz.f16,go_sem]) rfl ?_
            exact⟨none,0,by rw[HF.out.1,HF.out.2,HZ.out];rfl,by rw[HF.out.2];exact Nat.le_refl _,by rw[HF.out.2];exact zn _ _ _ (fun i hi=>by simp at hi),by first |exact hUwr |exact hUwr.drew |exact hUwr.and (x6 _ _)⟩
end Go.Proofs.YthgmimncdjhgnaaGreatDoor
