/- lfcheckref13.Renumber. -/
import Derived.Test.YthgmimncdjhgnaaGreatDoorKCH
import Derived.Test.YthgmimncdjhgnaaGreatDoorKCK
import Derived.Test.YthgmimncdjhgnaaGreatDoorKFJ
import Derived.Test.YthgmimncdjhgnaaGreatDoorKFL
import Derived.Test.YthgmimncdjhgnaaGreatDoorKFN
import Derived.Deep.CutRange
import Derived.Deep.RegionHeld3
import Derived.Deep.RegionLaw
set_option maxRecDepth 100000
set_option maxHeartbeats 16000000
namespace Go.LF
open Tm
def Qv(o:List Int)(i:Int):Nat->Int
  |0=>i
  |k+1=>if o.getD k 0=i then(k:Int)else Qv o i k
def rIx(o:List Int)(i:Int):Int:=Qv o i o.length
theorem zFj(o:List Int)(i:Int)(p:Nat)(hp:o.getD p 0=i):∀ k,p<k->(∀ j,p<j->j<k->o.getD j 0≠i)->Qv o i k=p
  |0,h,_=>by omega
  |k+1,h,hu=>by
   rw[Qv]
   by_cases e:k=p
   ·subst e;rw[if_pos hp]
   ·rw[if_neg (hu k (by omega) (by omega)),zFj o i p hp k (by omega) (fun j h1 h2=>hu j h1 (by omega))]
theorem zJP{o:List Int}(hn:o.Nodup){i:Int}(hi:i∈o):rIx o i=yg o i:=by
  obtain⟨p,hp,rfl⟩:=List.getElem_of_mem hi
  rw[zIn hn]
  have hg:∀ j(h:j<o.length),o.getD j 0=o[j]:=fun j h=>by rw[List.getD_eq_getElem?_getD,List.getElem?_eq_getElem h];rfl
  refine zFj o _ p (hg p hp) o.length hp (fun j h1 h2 e=>?_)
  rw[hg j h2]at e
  have:=(List.getElem_inj hn).1 e
  omega
theorem zE2{f g:Int->Int}(t:Tm):x8 (fun k _ i _=>k=6->f i=g i) t->zq f t=zq g t:=by
  induction t using ind with
  |h k n i l ih=>
   intro h
   rw[yk,yQ]at h
   rw[xm,xm]
   have h1:(if k=6 then f i else i)=(if k=6 then g i else i):=by split;(rename_i e;exact h.1 e);rfl
   rw[h1]
   congr 1
   exact List.map_congr_left (fun t ht=>ih t ht (h.2 t ht))
end Go.LF
namespace Go.Proofs.YthgmimncdjhgnaaGreatDoor
open Go.RowKit Go.LF
theorem qy(o:List Int)(hol:o.length<=100000)(t:Tm):t.size<=100000->∀(w:World)(cs:List Value)(oa:Option Addr)(oc:Nat),zM zC w t.zN cs->zG zC w 1 (o.map (yz.int .i64)) oa 0->
    Calls Tryz.prog 63 #[.agg cs.toArray,.slice oa o.length oc] w (zB6 (zq (rIx o) t) w):=by
  induction t using Tm.ind with
  |h k nm i ts ih=>
   intro hsz w cs oa oc hR hO
   obtain⟨a,cap,rfl,hcap,hE⟩:=zk.1 hR
   have hlen:=Tm.zO ts
   simp only[Tm.zS]at hsz
   obtain⟨i0,hi,hi0,hi1,hi2⟩:=info_parts yZ
   obtain⟨w2,hw2⟩:∃ w2,w2=((w.alloc (.cells #[.int .i64 k,.string (B nm),.int .i64 i,.slice a ts.length cap] 29)).alloc (.cells #[.int .i64 0,.string (B []),.int .i64 0,.slice none 0 0] 29)).alloc (.cells #[.int .i64 k,.string (B nm),.int .i64 i,.slice none 0 0] 29):=⟨_,rfl⟩
   have hU2:zD zC w w2:=by rw[hw2];exact(((zD.refl zC w).alloc _).alloc _).alloc _
   have ht2:zK w2 w.heap.size (.int .i64 k) (.string (B nm)) (.int .i64 i) (.slice a ts.length cap) 29:=by rw[hw2];exact((zK.zL rfl).kept ((zD.refl zC _).alloc _)).kept ((zD.refl zC _).alloc _)
   have hr2:zK w2 (w.heap.size+1) (.int .i64 0) (.string (B [])) (.int .i64 0) (.slice none 0 0) 29:=by rw[hw2];exact(zK.zL (by simp)).kept ((zD.refl zC _).alloc _)
   have ho2:zK w2 (w.heap.size+1+1) (.int .i64 k) (.string (B nm)) (.int .i64 i) (.slice none 0 0) 29:=by rw[hw2];exact zK.zL (by simp)
   have hz2:=ho2.lt
   have HW2:=zH hw2
   have HW:=zH hsz
   have hO2:=(zG.zQ _ _ _ _ hO).on hU2
   have hE2:=(zG.zQ _ _ _ _ hE).on hU2
   obtain⟨ol,hol'⟩:∃ ol,ol=o.length:=⟨_,rfl⟩
   rw[<-hol']at hol
   rw[<-hol']
   have HOL:=zH hol'
   obtain⟨mi,hmi⟩:∃ mi,mi=(if k=6 then rIx o i else i):=⟨_,rfl⟩
   have HMI:=zH hmi
   have hoi:(ol:Int)<=100000:=by omega
   obtain⟨t0,t1,t2,t3⟩:=ht2.cells
   clear hw2 hR hol' hmi
   go_enter Tryz.func63,Tryz.ntmps63
   go_upto_region 2 with fail
   rw[<-HW2.out]
   go_upto_if 17 with fail
   go_cut []from 16 to 32 (fun wc=>zK wc w.heap.size (.int .i64 k) (.string (B nm)) (.int .i64 i) (.slice a ts.length cap) 29/\zK wc (w.heap.size+1) (.int .i64 0) (.string (B [])) (.int .i64 0) (.slice none 0 0) 29/\
       zK wc (w.heap.size+1+1) (.int .i64 k) (.string (B nm)) (.int .i64 mi) (.slice none 0 0) 29/\zD (fun b=>b=w.heap.size+1+1) w2 wc)
   case first=>
     by_cases hk:k=6
     ·have hk':(k == 6)=true:=by simpa using hk
      have hm2:mi=rIx o i:=by rw[HMI.out,if_pos hk]
      have HM2:=zH hm2
      clear hk hm2
      go_wp2_with fail
      go_loopw [6] (fun v6 wr=>∃(q:Nat),v6=.int .i64 (q:Int)/\q<=ol/\zK wr (w.heap.size+1+1) (.int .i64 k) (.string (B nm)) (.int .i64 (Qv o i q)) (.slice none 0 0) 29/\zD (fun b=>b=w.heap.size+1+1) w2 wr) (fun v6 _=>ol - (intOf v6).toNat)
      case atStart=>exact⟨0,rfl,Nat.zero_le _,ho2,zD.refl _ _⟩
      case round=>
        obtain⟨q,rfl,hq,hob,hU⟩:=hrel
        have htb:=ht2.zF hU (by omega)
        obtain⟨t0,t1,t2,t3⟩:=htb.cells
        obtain⟨o0,o1,o2,o3⟩:=hob.cells
        obtain⟨f0,f1,f2,f3⟩:=hob.zI
        have qo:=hob.lt
        have hqi:(q:Int)<=100000:=by omega
        by_cases hlt:q<ol
        ·have hql:q<o.length:=by have:=HOL.out;omega
         obtain⟨b,ofs,rfl,hbl,hbO,hcell⟩:=ye (zG.zF hU (fun b e=>.inr (by omega)) _ _ _ _ hO2) q hql
         have hgd:o.getD q 0=o[q]:=by rw[List.getD_eq_getElem?_getD,List.getElem?_eq_getElem hql];rfl
         have hst:Qv o i (q+1)=if o[q]=i then(q:Int)else Qv o i q:=by rw[Qv,hgd]
         generalize o[q]=x at *
         have hqb:(q:Int)<(ol:Int):=by omega
         have HS:=zH hst
         clear hst hgd
         have hd:zD zC wr wr.drew:=(zD.refl zC _).drew
         have S1d:wr.drew.cell? ⟨b,ofs+q,none⟩=some (.int .i64 x)/\wr.drew.cell? ⟨w.heap.size,2,none⟩=some (.int .i64 i):=⟨hd.cell hcell (fun x=>x),hd.cell t2 (fun x=>x)⟩
         have hobd:=hob.kept hd
         have hUd:=hU.trans hd (fun _ _ e=>e.elim)
         obtain⟨oo0,oo1,oo2,oo3⟩:=hobd.cells
         obtain⟨ff0,ff1,ff2,ff3⟩:=hobd.zI
         have qd:=hobd.lt
         by_cases hx:x=i
         ·have hst:Qv o i (q+1)=(q:Int):=by rw[HS.out,if_pos hx]
          have hx':(x == i)=true:=by simpa using hx
          have HS2:=zH hst
          clear hst hx
          go_wp2_with fail
          go_region_held3 (fun w'=>w'.cell? ⟨b,ofs+q,none⟩=some (.int .i64 x)/\w'.cell? ⟨w.heap.size,2,none⟩=some (.int .i64 i)) (first |(with_reducible assumption)|(with_reducible exact S1d)) (fail)
          go_wp2_with fail
          go_roundw
          case rel=>exact⟨q+1,by go_num,by omega,by rw[HS2.out];exact hobd.Yq _,hUd.trans (zD.set (zD.refl _ _) 2 _) (fun _ _ e=>e)⟩
          case measure=>simp[intOf];omega
         ·have hst:Qv o i (q+1)=Qv o i q:=by rw[HS.out,if_neg hx]
          have hx':(x == i)=false:=by simpa using hx
          have HS2:=zH hst
          clear hst hx
          go_wp2_with fail
          go_region_held3 (fun w'=>w'.cell? ⟨b,ofs+q,none⟩=some (.int .i64 x)/\w'.cell? ⟨w.heap.size,2,none⟩=some (.int .i64 i)) (first |(with_reducible assumption)|(with_reducible exact S1d)) (fail)
          go_wp2_with fail
          go_roundw
          case rel=>exact⟨q+1,by go_num,by omega,by rw[HS2.out];exact hobd,hUd⟩
          case measure=>simp[intOf];omega
        ·have hqe:q=ol:=by omega
         have hfin:mi=Qv o i q:=by rw[HM2.out,hqe,HOL.out];rfl
         rw[<-hfin]at hob
         have hlt':¬(q:Int)<(ol:Int):=by omega
         have HF:=zH (And.intro htb (And.intro (hr2.zF hU (by omega)) (And.intro hob hU)))
         clear hqe hfin
         go_wp2_with fail
         go_meet
         case rel=>exact HF.out
     ·have hk':(k == 6)=false:=by simpa using hk
      have hm2:mi=i:=by rw[HMI.out,if_neg hk]
      clear hk
      go_wp2_with fail
      go_meet
      case rel=>exact⟨ht2,hr2,by rw[hm2];exact ho2,zD.refl _ _⟩
   case rest=>
     obtain⟨htp,hrp,hop,hUp⟩:=hcut
     clear t0 t1 t2 t3 ht2 hr2 ho2 hO2 hE2
     have hbase:w.heap.size+1+1<wc.heap.size:=hop.lt
     have hUwp:zD zC w wc:=hU2.trans hUp (fun b hb e=>by omega)
     obtain⟨wp,rfl⟩:∃ wp,wp=wc:=⟨_,rfl⟩
     go_wp2_with fail
     go_loopw [7] (fun v7 wr=>∃(j:Nat)(v:Value)(css:List (List Value)),v7=.int .i64 j/\j<=ts.length/\xD wp.heap.size wr v ((ts.take j).map (zq (rIx o))) css/\
         zK wr (w.heap.size+1+1) (.int .i64 k) (.string (B nm)) (.int .i64 mi) v 29/\zK wr w.heap.size (.int .i64 k) (.string (B nm)) (.int .i64 i) (.slice a ts.length cap) 29/\
         zK wr (w.heap.size+1) (.int .i64 0) (.string (B [])) (.int .i64 0) (.slice none 0 0) 29/\zD zC w wr/\wp.heap.size<=wr.heap.size)
       (fun v7 _=>ts.length - (intOf v7).toNat)
     case atStart=>exact⟨0,_,[],rfl,Nat.zero_le _,by simp only[List.take_zero,List.map_nil];exact xD.nil _ _,hop,htp,hrp,hUwp,Nat.le_refl _⟩
     case round=>
       obtain⟨j,v,css,rfl,hj,hts,hout,htb,hrb,hU,hbr⟩:=hrel
       obtain⟨b0,b1,b2,b3⟩:=hout.cells
       obtain⟨f0,f1,f2,f3⟩:=hout.zI
       obtain⟨t0,t1,t2,t3⟩:=htb.cells
       have qo:=hout.lt
       have hj0:(0:Int)<=(j:Int):=by omega
       have hjb:(j:Int)<=100000:=by omega
       by_cases hlt:j<ts.length
       ·obtain⟨eb,eo,ek,en,ex,es,ec,rfl,hebl,_,p0,p1,p2,p3,hRp⟩:=zd (hE.on hU) j hlt
        have hsz1:=Tm.zR (List.getElem_mem hlt)
        have hj1:(j:Int)<(ts.length:Int):=by omega
        have hd:zD zC wr wr.drew:=(zD.refl zC wr).drew
        have IH:=ih (ts[j]'hlt) (List.getElem_mem hlt) (by omega) wr.drew _ oa oc (hRp.on hd) ((hO.on hU).on hd)
        rw[<-HOL.out]at IH
        obtain⟨us,hus⟩:∃ us,us=(ts.take j).map (zq (rIx o)):=⟨_,rfl⟩
        obtain⟨u,hu⟩:∃ u,u=zq (rIx o) (ts[j]'hlt):=⟨_,rfl⟩
        have hul:us.length=j:=by rw[hus,List.length_map,List.length_take];omega
        have hsucc:us++[u]=(ts.take (j+1)).map (zq (rIx o)):=by rw[List.take_succ_eq_append_getElem hlt,List.map_append,<-hus,hu];rfl
        rw[<-hus]at hts
        rw[<-hu]at IH
        have HS:=zH (And.intro hul hsucc)
        have hul6:us.length<=1000000:=by omega
        have HLT:=zH (show j<ts.length from hlt)
        clear hul hsucc hus hu ih
        generalize (ts[j]'hlt).args.length=el at *
        go_wp2_with fail
        go_region_law (first
          |((rw[if_pos (by rfl)]);go_simp;(go_at_call 63);refine IH.mono ?_;rintro e w6 ⟨k1,i1,n1,a1,len1,cap1,rfl,hR6,hU6⟩;have hU6':zD zC wr w6:=hd.and hU6;have hout6:=hout.kept hU6';have htb6:=htb.kept hU6';have q6:=hout6.lt;have c6:=hout6.cells.2.2.2;have z6:=hout6.frozen 3;have y6:=htb6.cells.2.2.2;have ss6:=hU6'.size;have ss5:=hd.size;have hts6:=hts.on hU6')
          |(refine step_append_lies _ (by rfl) _ _ 26 (by rfl) wp.heap.size 29 i0 (.agg #[.int .i64 0,.string (B []),.int .i64 0,.slice none 0 0]) 4 56 (by kernel_rfl) hi hi0 hi1 hi2 rfl (by decide) v us.length css.flatten (by rfl) ((hts6.on ((zD.refl zC w6).alloc _)).2.2.1) ⟨w6.heap.size,0,none⟩ 1 1 [.int .i64 k1,.string (B n1),.int .i64 i1,.slice a1 len1 cap1] (by rfl) rfl (World.news_of_block (heap_alloc_new w6 _)) (by simp[Value.oneCell']) (by omega) (by simp only[maxLen];omega) (by omega) (by simp;omega) _ rfl ?_;intro g cap' w7 hown hgrow hat hlt7;have hout7:=(hout6.kept ((zD.refl zC w6).alloc _)).row hgrow (hts6.on ((zD.refl zC w6).alloc _)) (by omega);have c7:=hout7.cells.2.2.2;have z7:=hout7.frozen 3))
        all_goals
          obtain⟨v',css',hT7,hou8,htb8,hrb8,hU8,hsz8⟩:=zDR hts hout htb hrb hU rfl hbase hbr hU6' ss5 hR6 hown hgrow hat
          rw[HS.out.2]at hT7
          have HT7:=zH hT7
          clear hT7
          go_wp2_with fail
          go_roundw
          case rel=>exact⟨j+1,_,_,by go_num,Nat.succ_le_of_lt HLT.out,HT7.out,hou8,htb8,hrb8,hU8,hsz8⟩
          case measure=>(have:=HLT.out;simp[intOf];omega)
       ·obtain⟨us,hus⟩:∃ us,us=(ts.take j).map (zq (rIx o)):=⟨_,rfl⟩
        rw[<-hus]at hts
        obtain⟨s0,s1,s2,s3⟩:=hrb.cells
        obtain⟨g0,g1,g2,g3⟩:=hrb.zI
        have qr:=hrb.lt
        have hjn:¬(j:Int)<(ts.length:Int):=by omega
        obtain⟨a9,cap9,rfl,hcap9,hE9⟩:=hts.rep
        obtain⟨len,hlen9⟩:∃ len,len=us.length:=⟨_,rfl⟩
        rw[<-hlen9]at hout hcap9 b3
        have hfin:zq (rIx o) (.mk k nm i ts)=.mk k nm mi us:=by
          rw[List.take_of_length_le (by omega)]at hus
          rw[xm,<-HMI.out,<-hus]
        have HL:=zH hlen9
        have HFI:=zH hfin
        have hRr:zM (fun x=>x<=w.heap.size+1) wr (Tm.mk k nm mi us).zN [.int .i64 k,.string (B nm),.int .i64 mi,.slice a9 len cap9]:=zk.2 ⟨a9,cap9,by rw[HL.out],by rw[<-HL.out];exact hcap9,zG.weaken (fun b _ e=>by omega) _ _ _ _ hE9⟩
        clear hlen9 hts hus hfin
        go_wp2_with fail
        obtain⟨w9,hw9⟩:∃ w9,w9=(((wr.setCell ⟨w.heap.size+1,0,none⟩ (.int .i64 k)).setCell ⟨w.heap.size+1,1,none⟩ (.string (B nm))).setCell ⟨w.heap.size+1,2,none⟩ (.int .i64 mi)).setCell ⟨w.heap.size+1,3,none⟩ (.slice a9 len cap9):=⟨_,rfl⟩
        have hset9:=hrb.set (d0:=.int .i64 k) (d1:=.string (B nm)) (d2:=.int .i64 mi) (d3:=.slice a9 len cap9)
        rw[<-hw9]at hset9
        rw[<-hw9]
        clear hw9
        obtain⟨e0,e1,e2,e3⟩:=hset9.1.cells
        refine bodyPost_ret (v:=.agg #[.int .i64 k,.string (B nm),.int .i64 mi,.slice a9 len cap9]) ?_ rfl ?_
        ·simp[results,Tryz.f63,go_sem,e0,e1,e2,e3]
        ·rw[HFI.out]
         exact⟨k,mi,nm,a9,len,cap9,rfl,zM.weaken (fun b _ e=>by omega) _ _ (zM.zF hset9.2 (fun b e=>by omega) _ _ hRr),hU.trans hset9.2 (fun x hx e=>by omega)⟩
end Go.Proofs.YthgmimncdjhgnaaGreatDoor
namespace Go.LF
open Tm Go.Proofs.YthgmimncdjhgnaaGreatDoor
theorem zHM{l:List Mv}(hP:Zw l){ts:List Tm}(h:ZW l ts=0):xh l ts=0/\∀ u∈xf l ts,u.wf=0/\∀ i∈Tm.zJ u,i∈ZB l ts:=by
  obtain⟨hA,hC,_,_⟩:=qj hP h
  refine⟨hA,fun u hu=>?_⟩
  unfold xf at hu
  rw[if_pos hA]at hu
  obtain⟨t,ht,rfl⟩:=List.mem_map.1 hu
  exact⟨(xw hP (Zj l ts hA t ht)).1,fun i hi=>(zAP hC).2 i (List.mem_flatMap.2 ⟨_,List.mem_map.2 ⟨t,ht,rfl⟩,hi⟩)⟩
theorem zBp{o:List Int}(hn:o.Nodup){t:Tm}(hw:t.wf=0)(hm:∀ i∈Tm.zJ t,i∈o):zq (rIx o) t=zq (yg o) t:=
  zE2 t ((yS (N:=fun i=>rIx o i=yg o i) t hw).2 (fun i hi=>zJP hn (hm i hi)))
end Go.LF
namespace Go.Proofs.YthgmimncdjhgnaaGreatDoor
open Go.RowKit Go.LF
abbrev zHR(P nb no:Nat)(t0 t1 t2 t3 nm:Value)(b2 o2:Nat)(m:Value)(w':World):Prop:=
  (w'.cell? ⟨P,0,none⟩=some t0/\w'.cell? ⟨P,1,none⟩=some t1/\w'.cell? ⟨P,2,none⟩=some t2/\w'.cell? ⟨P,3,none⟩=some t3)/\w'.cell? ⟨nb,no,none⟩=some nm/\w'.cell? ⟨b2,o2,none⟩=some m
theorem zHR.zF{S:Nat->Prop}{P nb no:Nat}{t0 t1 t2 t3 nm:Value}{b2 o2:Nat}{m:Value}{w w':World}(h:zHR P nb no t0 t1 t2 t3 nm b2 o2 m w)(hU:zD S w w')(h1:¬S P)(h2:¬S nb)(h3:¬S b2):zHR P nb no t0 t1 t2 t3 nm b2 o2 m w':=by
  obtain⟨⟨a0,a1,a2,a3⟩,b,c⟩:=h
  exact⟨⟨hU.cell a0 h1,hU.cell a1 h1,hU.cell a2 h1,hU.cell a3 h1⟩,hU.cell b h2,hU.cell c h3⟩
theorem zBi(l:List Mv)(hP:Zw l)(ts:List Tm)(hts:∀ t∈ts,t.wt<=1000000/\(t.wf=0->(∀ i∈Tm.zJ t,i<l.length)->Kn l.length t))(hlen:ts.length<=1000)(w:World)(la:Option Addr)(lc:Nat)(ta:Option Addr)(tc:Nat)(hL:zG zC w 6 (l.map Mv.zN) la 0)(hT:zG zC w 4 (ts.map Tm.zN) ta 0):
    Calls Tryz.prog 18 #[.slice la l.length lc,.slice ta ts.length tc] w (Za (ZW l ts) (Yx l ts) (ZV l ts) w):=by
  obtain⟨i0,hi,hi0,hi1,hi2⟩:=info_parts qL
  have UN:=Yl l hP ts hts hlen w la lc ta tc hL hT
  have AL:=fun(W:World)(h:zD zC w W)=>zAx zC l hP.qG ts hts hlen W (fun _ e=>e.elim) la lc ta tc (hL.on h) (hT.on h)
  have hfacts:=fun(h:ZW l ts=0)=>qj hP h
  have hall:=fun(h:ZW l ts=0)=>zHM hP h
  obtain⟨KS,hKS⟩:∃ K,K=Yx l ts:=⟨_,rfl⟩
  obtain⟨US,hUS⟩:∃ U,U=ZV l ts:=⟨_,rfl⟩
  rw[<-hKS,<-hUS]
  unfold Yx at hKS
  unfold ZV at hUS
  obtain⟨E,hE⟩:∃ E,E=ZW l ts:=⟨_,rfl⟩
  obtain⟨o,ho⟩:∃ O,O=ZB l ts:=⟨_,rfl⟩
  rw[<-hE,<-ho]at UN
  rw[<-ho]at hKS hUS hfacts hall
  rw[<-hE]at hUS hfacts hall
  rw[<-hE]
  have hO0:E≠0->o=[]:=fun h=>by rw[ho];unfold ZB;rw[if_neg (by rw[<-hE];exact h)]
  obtain⟨us,hus⟩:∃ us,us=xf l ts:=⟨_,rfl⟩
  rw[<-hus]at AL hUS hall
  have HE:=zH (And.intro hKS (And.intro hUS (And.intro hO0 (And.intro hfacts hall))))
  obtain⟨ll,hll⟩:∃ ll,ll=l.length:=⟨_,rfl⟩
  rw[<-hll]at UN AL
  rw[<-hll]
  have HLL:=zH hll
  have hL1:=zG.zQ _ _ _ _ hL
  have hT1:=zG.zQ _ _ _ _ hT
  obtain⟨ol,hol⟩:∃ ol,ol=o.length:=⟨_,rfl⟩
  obtain⟨ul,hul⟩:∃ ul,ul=us.length:=⟨_,rfl⟩
  have HOL:=zH (And.intro hol hul)
  have HULn:=zH (show us.length<=1000 from by rw[hus];have:=qN l ts;omega)
  clear hE ho hKS hUS hO0 hfacts hall hus hll hL hT hts hlen hol hul
  go_enter Tryz.func18,Tryz.ntmps18
  go_wp2_with fail
  (with_reducible refine UN.mono ?_)
  rintro e w2 ⟨oa,oc,rfl,hoc,hOe,hU2⟩
  rw[<-HOL.out.1]at hoc
  rw[<-HOL.out.1]
  by_cases hE0:E=0
  case neg=>
    have he:(E !=0)=true:=by simpa using hE0
    have h2:=HE.out.2.2.1 hE0
    have h3:KS=[]:=by rw[HE.out.1,h2];rfl
    have h4:US=[]:=by rw[HE.out.2.1,if_neg hE0]
    have HF:=zH (And.intro h3 h4)
    clear h2 h3 h4 hE0 UN AL
    go_wp2_with fail
    refine bodyPost_ret (v:=.tuple #[.slice none 0 0,.slice none 0 0,.int .i64 E]) (by simp[results,Tryz.f18,go_sem]) rfl ?_
    exact Za.bad rfl HF.out.1 HF.out.2 hU2
  subst hE0
  obtain⟨hKS,hUS,_,hfacts,hall⟩:=HE.out
  obtain⟨_,_,hord,_⟩:=hfacts rfl
  obtain⟨hA0,hwfu⟩:=hall rfl
  rw[if_pos rfl]at hUS
  have hnd:=hord.nodup
  have HF:=zH (And.intro hKS (And.intro hUS (And.intro hA0 (And.intro hwfu (And.intro hord hnd)))))
  have hol40:ol<=40:=by have h1:=hord.len;have h2:=hP.len;have:=HOL.out.1;omega
  have hL2:=hL1.on hU2
  have hT2:=hT1.on hU2
  have hOf:=zG.zQ _ _ _ _ hOe
  have hLf:=zG.zQ _ _ _ _ hL2
  obtain⟨B5,hB5⟩:∃ B5,B5=w2.heap.size:=⟨_,rfl⟩
  rw[<-hB5]at hOf hLf
  have HB5:=zH hB5
  clear hKS hUS hfacts hall hA0 hwfu hord hnd UN hB5 hOe hL1 hT1 hL2
  go_wp2_with fail
  go_loopw [9,10] (fun v9 v10 wr=>∃(j:Nat)(css:List (List Value)),v10=.int .i64 (j:Int)/\j<=ol/\yI 96 6 (fun b=>b<B5) B5 wr v9 (((o.take j).map (Zb l o)).map Mv.zN) css/\zD zC w2 wr)
    (fun _ v10 _=>ol - (intOf v10).toNat)
  case atStart=>exact⟨0,[],rfl,Nat.zero_le _,yI.nil _ _ _ _ _,zD.refl _ _⟩
  case round=>
    obtain⟨j,css,rfl,hj,hD,hUr⟩:=hrel
    obtain⟨vv,hvv⟩:∃ v,v=u9:=⟨_,rfl⟩
    rw[<-hvv]at hD
    rw[<-hvv]
    have HVV:=zH hvv
    have hjm:(j:Int)<=40:=by omega
    have hln:(((o.take j).map (Zb l o)).map Mv.zN).length=j:=by have:=HOL.out.1;simp;omega
    have hzr:B5<=wr.heap.size:=by have:=hUr.size;have:=HB5.out;omega
    clear hvv
    by_cases hlt:j<ol
    ·have hjl:j<o.length:=by have:=HOL.out.1;omega
     obtain⟨b,ofs,rfl,hbl,hbO,hcj⟩:=ye (hOf.on hUr) j hjl
     have hjb:(j:Int)<(ol:Int):=by omega
     have htk:((o.take (j+1)).map (Zb l o)).map Mv.zN=((o.take j).map (Zb l o)).map Mv.zN++[(Zb l o o[j]).zN]:=by rw[List.take_succ_eq_append_getElem hjl,List.map_append,List.map_append];rfl
     obtain⟨y0,y1⟩:=HF.out.2.2.2.2.1.inn _ (List.getElem_mem hjl)
     obtain⟨hye,hyt⟩:=HF.out.2.2.2.2.1.YQ j hjl
     have hyo:∀ i∈Tm.zJ (zj l (typeOf l o[j])),i∈o:=fun i hi=>List.mem_of_mem_take (hyt i hi)
     have hOn:zG zC wr 1 (o.map (yz.int .i64)) (some ⟨b,ofs,none⟩) 0:=zG.weaken (fun _ _ e=>e.elim) _ _ _ _ (hOf.on hUr)
     generalize o[j]=y at *
     obtain⟨p,rfl⟩:∃ p:Nat,y=(p:Int):=⟨y.toNat,by omega⟩
     have hpl:p<l.length:=by omega
     obtain⟨b2,o2,k2,n2,ix2,aa2,cap2,va2,vc2,rfl,hb2l,hb2O,⟨d0,d1,d2,d3,d4,d5⟩,hRt,_,_⟩:=xY (hLf.on hUr) p hpl
     have hto:=YB hpl
     have hmem:=List.getElem_mem hpl
     have har:=(hP.kn _ hmem).1
     have hwft:=hP.YQ _ hmem
     rw[<-hto]at har hwft hRt d4
     rw[<-QA hpl]at d0
     have hwx:=ql hP (i:=(p:Int)) y0 y1 hye
     have hren:=zBp HF.out.2.2.2.2.2 hwx hyo
     have hszx:=XO hwx
     have EX:=qi l hP (p:Int) hwft har zC wr (fun _ e=>e.elim) (some ⟨b2,o2,none⟩) lc _ (zG.weaken (fun _ _ e=>e.elim) _ _ _ _ (hLf.on hUr)) (yV hRt)
     rw[hye,<-HLL.out]at EX
     have hcan:Zb l o (p:Int)=⟨nameOf l (p:Int),zq (yg o) (zj l (typeOf l (p:Int))),[]⟩:=rfl
     rw[hcan]at htk
     have RNm:=fun(W:World)(cs:List Value)(h:zM zC W (zj l (typeOf l (p:Int))).zN cs)(h2:zG zC W 1 (o.map (yz.int .i64)) (some ⟨b,ofs,none⟩) 0)=>qy o (by have:=HOL.out.1;omega) (zj l (typeOf l (p:Int))) (by omega) W cs (some ⟨b,ofs,none⟩) oc h h2
     rw[hren,<-HOL.out.1]at RNm
     generalize zq (yg o) (zj l (typeOf l (p:Int)))=X at *
     generalize nameOf l (p:Int)=nm at *
     generalize zj l (typeOf l (p:Int))=Y at *
     generalize (typeOf l (p:Int)).args.length=tal at *
     have HTK:=zH htk
     have hpb:(p:Int)<(ll:Int):=by have:=HLL.out;omega
     have hpm:(p:Int)<=40:=by have:=hP.len;omega
     have hnb:¬some b2=vv.ownBlock:=fun e=>hb2O (.inr (hD.2.2.1.lt b2 e.symm).1)
     have hnbb:¬some b=vv.ownBlock:=fun e=>hbO (.inr (hD.2.2.1.lt b e.symm).1)
     clear htk hcan hye hyt hyo hto hmem har hwft hwx hren hszx d5 hRt y0 y1
     go_wp2_with fail
     (with_reducible refine EX.mono ?_)
     rintro e w5 ⟨k5,i5,n5,a5,l5,c5,rfl,hR5,hU5⟩
     obtain⟨w6,hw6⟩:∃ w6,w6=w5.alloc (.cells #[.int .i64 k5,.string (B n5),.int .i64 i5,.slice a5 l5 c5] 29):=⟨_,rfl⟩
     have hU6:zD zC w5 w6:=by rw[hw6];exact(zD.refl zC _).alloc _
     have hb6:zK w6 w5.heap.size (.int .i64 k5) (.string (B n5)) (.int .i64 i5) (.slice a5 l5 c5) 29:=by rw[hw6];exact zK.zL rfl
     obtain⟨P,hPz⟩:∃ P,P=w5.heap.size:=⟨_,rfl⟩
     rw[<-hPz]at hb6
     have HPz:=zH hPz
     have HW6:=zH hw6
     have hUr6:=hU5.and hU6
     have hd:zD zC w6 w6.drew:=(zD.refl zC w6).drew
     have hUrd:=hUr6.and hd
     have RN:=RNm w6.drew _ ((hR5.on hU6).on hd) (hOn.on hUrd)
     have S6:zHR P b2 (o2+p * 6) (.int .i64 k5) (.string (B n5)) (.int .i64 i5) (.slice a5 l5 c5) (.string (B nm)) b (ofs+j) (.int .i64 (p:Int)) w6:=⟨hb6.cells,hUr6.cell d0 (fun x=>x),hUr6.cell hcj (fun x=>x)⟩
     have S6d:=S6.zF hd (fun x=>x) (fun x=>x) (fun x=>x)
     have HO:∀ b,b<B5->b<B5:=fun _ e=>e
     have hDd:=hD.on hUrd HO
     have hz6r:=hUrd.size
     have mk:=fun(w7:World)(hU7:zD zC w6.drew w7)(k6 i6:Int)(n6:List UInt8)(a6:Option Addr)(l6 c6:Nat)=>show(w7.alloc (.cells #[.string (B nm),.int .i64 k6,.string (B n6),.int .i64 i6,.slice a6 l6 c6,.slice none 0 0] 96)).ownsRow B5 96 6 vv j css.flatten/\B5<=w7.heap.size from by
       have h:=(hDd.on (hU7.and ((zD.refl zC w7).alloc (.cells #[.string (B nm),.int .i64 k6,.string (B n6),.int .i64 i6,.slice a6 l6 c6,.slice none 0 0] 96))) HO).2.2.1
       rw[hln]at h
       exact⟨h,by have:=hU7.size;omega⟩
     have hnP:¬some P=vv.ownBlock:=fun e=>by have h1:=(hD.2.2.1.lt P e.symm).2;have h2:=HPz.out;have h3:=hU5.size;omega
     have HMK:=zH mk
     have HDd:=zH hDd
     clear EX hw6 hPz hR5 hb6 d0 d1 d2 d3 d4 hcj mk hDd hD S6 RNm hOn
     go_upto_region 9 with fail
     rw[<-HPz.out,<-HW6.out]
     go_upto_region 11 with fail
     go_region_held3 (fun w'=>zHR P b2 (o2+p * 6) (.int .i64 k5) (.string (B n5)) (.int .i64 i5) (.slice a5 l5 c5) (.string (B nm)) b (ofs+j) (.int .i64 (p:Int)) w') (first |(with_reducible assumption)|(with_reducible exact S6d)|(with_reducible exact s6)|(with_reducible exact s6a)|(with_reducible exact s7)) (first
       |((go_at_call 63);(with_reducible refine RN.mono ?_);rintro e w7 ⟨k6,i6,n6,a6,l6,c6,rfl,hR6,hU7⟩;have s6:=S6d.zF hU7 (fun x=>x) (fun x=>x) (fun x=>x);have s6a:=s6.zF ((zD.refl zC w7).alloc (.cells #[.string (B nm),.int .i64 k6,.string (B n6),.int .i64 i6,.slice a6 l6 c6,.slice none 0 0] 96)) (fun x=>x) (fun x=>x) (fun x=>x);obtain⟨own6,hz7⟩:=HMK.out w7 hU7 k6 i6 n6 a6 l6 c6)
       |(refine step_append_lies _ (by rfl) _ _ 23 (by rfl) B5 96 i0 (.agg #[.string (B []),.int .i64 0,.string (B []),.int .i64 0,.slice none 0 0,.slice none 0 0]) 6 96 (by kernel_rfl) hi hi0 hi1 hi2 rfl (by decide) vv j css.flatten (by rfl) own6 ⟨w7.heap.size,0,none⟩ 1 1 [.string (B nm),.int .i64 k6,.string (B n6),.int .i64 i6,.slice a6 l6 c6,.slice none 0 0] (by rfl) rfl (World.news_of_block (heap_alloc_new w7 _)) (by simp[Value.oneCell']) (by omega) (by simp only[maxLen];omega) (by omega) (by simp;omega) _ rfl ?_;intro g cap' w8 hown hgrow hat hlt7;have s7:=s6a.zF (YR hgrow) (fun e=>hnP e.symm) (fun e=>hnb e.symm) (fun e=>hnbb e.symm)))
     all_goals
       have hal:=(zD.refl zC w7).alloc (.cells #[.string (B nm),.int .i64 k6,.string (B n6),.int .i64 i6,.slice a6 l6 c6,.slice none 0 0] 96)
       have hDa:=HDd.out.on (hU7.and hal) (fun _ e=>e)
       have hRu:zM (fun b=>b<B5\/vv.ownBlock=some b) (w7.alloc (.cells #[.string (B nm),.int .i64 k6,.string (B n6),.int .i64 i6,.slice a6 l6 c6,.slice none 0 0] 96)) (Mv.zN ⟨nm,X,[]⟩) [.string (B nm),.int .i64 k6,.string (B n6),.int .i64 i6,.slice a6 l6 c6,.slice none 0 0]:=by
         refine Zu.2 ⟨[.int .i64 k6,.string (B n6),.int .i64 i6,.slice a6 l6 c6],none,0,rfl,(zM.weaken (fun b _ e=>?_) _ _ hR6).on hal,Nat.le_refl _,by simp only[List.map_nil,zG]⟩
         show b<w6.heap.size
         have hz5:=hUr6.size
         rcases e with e |e
         ·omega
         ·exact(HDd.out.2.2.1.lt b e).2
       have hown8:w8.ownsRow B5 96 6 (.slice (some ⟨g,0,none⟩) ((((o.take j).map (Zb l o)).map Mv.zN).length+1) cap') ((((o.take j).map (Zb l o)).map Mv.zN).length+1) (css.flatten++[.string (B nm),.int .i64 k6,.string (B n6),.int .i64 i6,.slice a6 l6 c6,.slice none 0 0]):=by rw[hln];exact hown
       have hRw:=hDa.appended (d:=Mv.zN ⟨nm,X,[]⟩) rfl hRu hown8 hgrow hat (Nat.le_refl _)
       rw[hln,<-HTK.out]at hRw
       have hU8:zD zC w2 w8:=(((hUr.and hUrd).and hU7).and hal).trans (zy hgrow) (fun b hb e=>by have:=(hDa.2.2.1.lt b e).1;have:=HB5.out;omega)
       have HR:=zH (And.intro hRw hU8)
       clear hRw hU8 hown8 hRu hown hgrow hat hDa hR6 hU7 s6 s6a s7 own6
       go_wp2_with fail
       go_roundw
       case rel=>exact⟨j+1,_,by go_num,by omega,HR.out.1,HR.out.2⟩
       case measure=>simp[intOf];omega
    ·have hje2:o.take j=o:=List.take_of_length_le (by have:=HOL.out.1;omega)
     rw[hje2,<-HF.out.1]at hD hln
     obtain⟨va,vc,hv,hvc,hKF⟩:=hD.rep (fun _ e=>e)
     rw[hln]at hv hvc
     subst hv
     obtain⟨w6,rfl⟩:∃ q,q=wr:=⟨wr,rfl⟩
     have hU26:=hU2.and hUr
     have ALw:=AL w6 hU26
     rw[HF.out.2.2.1]at ALw
     have hKf:=zG.zQ _ _ _ _ hKF
     have HKF:=zH (And.intro hKf (And.intro hvc hln))
     have hjn:¬(j:Int)<(ol:Int):=by omega
     have hO6:=(hOf.on hUr)
     have hO6f:=zG.zQ _ _ _ _ hO6
     obtain⟨B6,hB6⟩:∃ B6,B6=w6.heap.size:=⟨_,rfl⟩
     rw[<-hB6]at hO6f
     have HB6:=zH hB6
     clear hKF hvc hln hD hKf AL hO6 hB6 hOf hLf
     go_wp2_with fail
     (with_reducible refine ALw.mono ?_)
     rintro e w7 ⟨ua,uc,rfl,huc,hUe,hU7,ucss,hUD⟩
     have hZ:=Y2.start hUD
     have hug:∀ g,0<us.length->ua=some ⟨g,0,none⟩->w6.heap.size<=g/\g<w7.heap.size:=fun g h e=>by
       obtain⟨a',c',hv',_,hc⟩:=hUD.cells
       simp only[Value.slice.injEq]at hv'
       obtain⟨rfl,_,rfl⟩:=hv'
       obtain⟨g',e',_,g1,g2,_⟩:=hc 0 (by simpa using h) (by have:=hUD.1;simp at this;omega)
       rw[e]at e'
       cases e'
       exact⟨g1,g2⟩
     have HUG:=zH hug
     have hO7:=hO6f.on hU7
     have huli:(ul:Int)<=1000:=by have h1:=HOL.out.2;have h2:=HULn.out;omega
     rw[<-HOL.out.2]at huc
     rw[<-HOL.out.2]
     clear hug hUD hUe ALw hO6f
     go_wp2_with fail
     go_loopw [14] (fun v14 wr=>∃(i:Nat),v14=.int .i64 (i:Int)/\i<=ul/\Y2 wr ua ((us.take i).map (zq (yg o))++us.drop i)/\zD (fun b=>ua=some ⟨b,0,none⟩/\0<us.length) w7 wr)
       (fun v14 _=>ul - (intOf v14).toNat)
     case atStart=>exact⟨0,rfl,Nat.zero_le _,by simpa using hZ,zD.refl _ _⟩
     case round=>
       obtain⟨i,rfl,hij,hZr,hU8⟩:=hrel
       have him:(i:Int)<=1000:=by omega
       have hO8:=zG.zF hU8 (fun b e=>.inr (by have h1:=(HUG.out b e.2 e.1).1;have h2:=HB6.out;omega)) _ _ _ _ hO7
       have hO8n:zG zC wr 1 (o.map (yz.int .i64)) oa 0:=zG.weaken (fun _ _ e=>e.elim) _ _ _ _ hO8
       by_cases hil:i<ul
       ·have hil2:i<us.length:=by have:=HOL.out.2;omega
        have hul:i<((us.take i).map (zq (yg o))++us.drop i).length:=by simp;omega
        obtain⟨g,cs,rfl,hgl,hgf,hgn,hgc,hgr⟩:=hZr i hul
        have hget:((us.take i).map (zq (yg o))++us.drop i)[i]=us[i]:=by
          rw[List.getElem_append_right (by simp;omega)]
          simp only[List.length_map,List.length_take,List.getElem_drop]
          congr 1
          omega
        have hset:((us.take i).map (zq (yg o))++us.drop i).set i (zq (yg o) us[i])=(us.take (i+1)).map (zq (yg o))++us.drop (i+1):=by
          rw[List.set_append_right _ _ (by simp;omega),List.drop_eq_getElem_cons hil2,List.take_succ_eq_append_getElem hil2]
          simp only[List.length_map,List.length_take,Nat.min_eq_left (Nat.le_of_lt hil2),Nat.sub_self,List.set_cons_zero,List.map_append,List.map_cons,List.map_nil,List.append_assoc,List.singleton_append]
        rw[hget]at hgr
        obtain⟨hwi,hmi⟩:=HF.out.2.2.2.1 _ (List.getElem_mem hil2)
        have husz:=XO hwi
        have hren:=zBp HF.out.2.2.2.2.2 hwi hmi
        obtain⟨ek,en,ex,ets,ea,ec,hut,rfl,_,_⟩:=zX hgr
        generalize ets.length=el at *
        have p0:=hgc 0 _ rfl
        rw[Nat.add_zero]at p0
        have p1:=hgc 1 _ rfl
        have p2:=hgc 2 _ rfl
        have p3:=hgc 3 _ rfl
        have RN:=qy o (by have:=HOL.out.1;omega) us[i] (by omega) wr _ oa oc (zM.weaken (fun _ _ e=>e.elim) _ _ hgr) hO8n
        rw[hren,<-HOL.out.1]at RN
        have HST:=zH hset
        generalize zq (yg o) us[i]=X at *
        have hib:(i:Int)<(ul:Int):=by omega
        clear hset hget hut husz hgr hgn hwi hmi hren
        go_wp2_with fail
        (with_reducible refine RN.mono ?_)
        rintro e w8 ⟨k8,i8,n8,a8,l8,c8,rfl,hR8,hU9⟩
        have hZ8:=hZr.kept hU9
        have v0:=hU9.cell p0 (fun x=>x)
        have v1:=hU9.cell (hgc 1 _ rfl) (fun x=>x)
        have v2:=hU9.cell (hgc 2 _ rfl) (fun x=>x)
        have v3:=hU9.cell (hgc 3 _ rfl) (fun x=>x)
        have f8:=fun o=>(hU9.cells.2 g o hgl (fun x=>x)).trans (hgf o)
        have hgl8:g<w8.heap.size:=Nat.lt_of_lt_of_le hgl hU9.size
        have hnx:=Y2.next (u:=X) (d0:=.int .i64 k8) (d1:=.string (B n8)) (d2:=.int .i64 i8) (d3:=.slice a8 l8 c8) hZ8 hul (zM.weaken (fun b _ e=>by omega) _ _ hR8) rfl
        rw[HST.out]at hnx
        have hUn:zD (fun b=>(some ⟨g,0,none⟩:Option Addr)=some ⟨b,0,none⟩/\0<us.length) w7 _:=(hU8.trans hU9 (fun _ _ e=>e.elim)).trans hnx.2 (fun b _ e=>⟨by rw[e],by omega⟩)
        have HNX:=zH (And.intro hnx.1 hUn)
        clear hnx hUn hZ8 hZr hR8 hU9 RN hgc hgf p0 p1 p2 p3
        go_wp2_with fail
        go_roundw
        case rel=>exact⟨i+1,by go_num,by omega,HNX.out.1,HNX.out.2⟩
        case measure=>simp[intOf];omega
       ·have hie:i=us.length:=by have:=HOL.out.2;omega
        rw[hie,List.take_length,List.drop_length,List.append_nil,<-HF.out.2.1]at hZr
        have hUl:US.length=ul:=by rw[HF.out.2.1,List.length_map];exact HOL.out.2.symm
        have HFI:=zH (And.intro hZr hUl)
        have hin:¬(i:Int)<(ul:Int):=by omega
        clear hZr hUl hie
        go_wp2_with fail
        refine bodyPost_ret (v:=.tuple #[.slice va j vc,.slice ua ul uc,.int .i64 0]) (by simp[results,Tryz.f18,go_sem]) rfl ?_
        obtain⟨hKf,hvc,hln⟩:=HKF.out
        rw[List.length_map]at hln
        have huz:US.length=us.length:=by rw[HFI.out.2];exact HOL.out.2
        have hk:=zG.zF hU8 (fun b e=>.inr (HUG.out b e.2 e.1).1) _ _ _ _ (hKf.on hU7)
        refine⟨va,ua,vc,uc,by rw[hln,HFI.out.2],⟨by rw[hln];exact hvc,by rw[HFI.out.2];exact huc⟩,zG.weaken (fun b _ e=>.inr (HUG.out b (by have:=e.2;omega) e.1).1) _ _ _ _ hk,HFI.out.1,fun g h e=>by have h1:=(HUG.out g (by omega) e).1;have h2:=hU26.size;omega,?_⟩
        exact(hU26.and hU7).trans hU8 (fun b hb e=>by have h1:=(HUG.out b e.2 e.1).1;have h2:=hU26.size;omega)
theorem zCo(l:List Mv)(hP:Zw l)(ts:List Tm)(hts:∀ t∈ts,t.wt<=1000000/\(t.wf=0->(∀ i∈Tm.zJ t,i<l.length)->Kn l.length t))(hlen:ts.length<=1000)(w:World)(la:Option Addr)(lc:Nat)(ta:Option Addr)(tc:Nat)(hL:zG zC w 6 (l.map Mv.zN) la 0)(hT:zG zC w 4 (ts.map Tm.zN) ta 0):
    Calls Tryz.prog 18 #[.slice la l.length lc,.slice ta ts.length tc] w (zEy (ZW l ts) (Yx l ts) (ZV l ts) w):=
  (zBi l hP ts hts hlen w la lc ta tc hL hT).mono fun _ _ h=>h.plain
end Go.Proofs.YthgmimncdjhgnaaGreatDoor
