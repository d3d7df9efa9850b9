/- lfcheckref19.metaFor. -/
import Derived.Test.YthgmimncdjhgnaaGreatDoorYCK
import Derived.Test.YthgmimncdjhgnaaGreatDoorYFL
import Derived.Deep.CutBlock
import Derived.Deep.CutRange
import Derived.Deep.RegionHeld3
import Derived.Deep.RegionLaw
set_option maxRecDepth 100000
set_option maxHeartbeats 16000000
namespace Go.Proofs.YthgmimncdjhgnaaGreatDoor
open Go.RowKit Go.LF
theorem zDk(jj:Int)(t:Tm):t.size<=100000->(∀ b,∀ x∈t.nodes b,x.k=5->0<=x.i/\x.i<=1048576)->∀(b:Int)(w:World)(cs:List Value),0<=b->b+t.size<=1000000->
    zJ zC w t.zM cs->Calls Tryz.prog 86 #[.agg cs.toArray,.int .i64 b,.int .i64 jj] w (zDV (chT (X1 jj) b t) w):=by
  induction t using Tm.ind with
  |h k nm i ts ih=>
   intro hsz hok b w cs h0 h1 hR
   obtain⟨a,cap,rfl,hcap,hE⟩:=zd.1 hR
   have hlen:=Tm.zQ ts
   simp only[Tm.zW]at hsz h1
   have hno:=hok b
   rw[Tm.ze]at hno
   have hok0:=hno _ (List.mem_cons_self ..)
   simp only at hok0
   have hoks:∀ x∈ts,∀ b,∀ y∈x.nodes b,y.k=5->0<=y.i/\y.i<=1048576:=by
     intro x hx b' y hy
     obtain⟨j,hj,rfl⟩:=List.getElem_of_mem hx
     exact hok (b' - Tm.under k j) y (Tm.qx j hj (by rw[show b' - Tm.under k j+Tm.under k j=b' by omega];exact hy))
   obtain⟨i0,hi,hi0,hi1,hi2⟩:=info_parts xU
   obtain⟨w2,hw2⟩:∃ w2,w2=((w.alloc (.cells #[.int .i64 k,.string (B nm),.int .i64 i,.slice a ts.length cap] 29)).alloc (.cells #[.int .i64 0,.string (B []),.int .i64 0,.slice none 0 0] 29)).alloc (.cells #[.int .i64 k,.string (B nm),.int .i64 i,.slice none 0 0] 29):=⟨_,rfl⟩
   have hU2:zD zC w w2:=by rw[hw2];exact(((zD.refl zC w).alloc _).alloc _).alloc _
   have ht2:zI w2 w.heap.size (.int .i64 k) (.string (B nm)) (.int .i64 i) (.slice a ts.length cap) 29:=by rw[hw2];exact((zI.zK rfl).kept ((zD.refl zC _).alloc _)).kept ((zD.refl zC _).alloc _)
   have hr2:zI w2 (w.heap.size+1) (.int .i64 0) (.string (B [])) (.int .i64 0) (.slice none 0 0) 29:=by rw[hw2];exact(zI.zK (by simp)).kept ((zD.refl zC _).alloc _)
   have ho2:zI w2 (w.heap.size+1+1) (.int .i64 k) (.string (B nm)) (.int .i64 i) (.slice none 0 0) 29:=by rw[hw2];exact zI.zK (by simp)
   obtain⟨t0,t1,t2,t3⟩:=ht2.cells
   obtain⟨o0,o1,o2,o3⟩:=ho2.cells
   obtain⟨f0,f1,f2,f3⟩:=ho2.zH
   have hz2:=ho2.lt
   have HW2:=zG hw2
   have HW:=zG (And.intro hsz h1)
   obtain⟨mk',hmk⟩:∃ q,q=(X1 jj b k i).1:=⟨_,rfl⟩
   obtain⟨mi,hmi⟩:∃ q,q=(X1 jj b k i).2:=⟨_,rfl⟩
   have HMI:=zG (And.intro hmk hmi)
   clear hw2 hR hno hok hmk hmi
   go_enter Tryz.func86,Tryz.ntmps86
   go_upto_block 0 with fail
   rw[<-HW2.out]
   go_cut []from 16 to 43 (fun wc=>zI wc w.heap.size (.int .i64 k) (.string (B nm)) (.int .i64 i) (.slice a ts.length cap) 29/\zI wc (w.heap.size+1) (.int .i64 0) (.string (B [])) (.int .i64 0) (.slice none 0 0) 29/\
     zI wc (w.heap.size+1+1) (.int .i64 mk') (.string (B nm)) (.int .i64 mi) (.slice none 0 0) 29/\zD zC w wc)
   case first=>
     have hways:((k == 5)=true/\(i == b)=true/\mk'=6/\mi=jj)\/((k == 5)=true/\(i == b)=false/\b<i/\mk'=k/\mi=i - 1/\0<=i/\i<=1048576)\/((k == 5)=true/\(i == b)=false/\¬b<i/\mk'=k/\mi=i)\/((k == 5)=false/\mk'=k/\mi=i):=by
       obtain⟨e1,e2⟩:=HMI.out
       unfold X1 at e1 e2
       by_cases h5:k=5
       ·have hi5:=hok0 h5
        by_cases h6:i=b
        ·rw[if_pos ⟨h5,h6⟩]at e1 e2
         exact .inl ⟨by simpa using h5,by simpa using h6,e1,e2⟩
        ·rw[if_neg (fun h=>h6 h.2)]at e1 e2
         by_cases h7:b<i
         ·rw[if_pos ⟨h5,h7⟩]at e1 e2
          exact .inr (.inl ⟨by simpa using h5,by simpa using h6,h7,by rw[e1,h5],e2,hi5⟩)
         ·rw[if_neg (fun h=>h7 h.2)]at e1 e2
          exact .inr (.inr (.inl ⟨by simpa using h5,by simpa using h6,h7,e1,e2⟩))
       ·rw[if_neg (fun h=>h5 h.1),if_neg (fun h=>h5 h.1)]at e1 e2
        exact .inr (.inr (.inr ⟨by simpa using h5,e1,e2⟩))
     clear hok0
     rcases hways with⟨h5,h6,e1,e2⟩|⟨h5,h6,h7,e1,e2,h8,h9⟩|⟨h5,h6,h7,e1,e2⟩|⟨h5,e1,e2⟩
     ·have HE:=zG (And.intro e1 e2)
      clear e1 e2
      go_wp2_with fail
      go_meet
      case rel=>
        have hs1:zD (fun x=>x=w.heap.size+1+1) w2 ((w2.setCell ⟨w.heap.size+1+1,0,none⟩ (.int .i64 6)).setCell ⟨w.heap.size+1+1,2,none⟩ (.int .i64 jj)):=zD.set (zD.set (zD.refl _ _) 0 _) 2 _
        exact⟨ht2.zE hs1 (show ¬w.heap.size=w.heap.size+1+1 by omega),hr2.zE hs1 (show ¬w.heap.size+1=w.heap.size+1+1 by omega),by rw[HE.out.1,HE.out.2];exact(ho2.zA7 _).qI _,hU2.trans hs1 (fun x hx e=>by omega)⟩
     ·have HE:=zG (And.intro e1 e2)
      clear e1 e2
      go_wp2_with fail
      go_meet
      case rel=>
        have hs1:zD (fun x=>x=w.heap.size+1+1) w2 (w2.setCell ⟨w.heap.size+1+1,2,none⟩ (.int .i64 (i - 1))):=zD.set (zD.refl _ _) 2 _
        exact⟨ht2.zE hs1 (show ¬w.heap.size=w.heap.size+1+1 by omega),hr2.zE hs1 (show ¬w.heap.size+1=w.heap.size+1+1 by omega),by rw[HE.out.1,HE.out.2];exact ho2.qI _,hU2.trans hs1 (fun x hx e=>by omega)⟩
     ·have HE:=zG (And.intro e1 e2)
      clear e1 e2
      go_wp2_with fail
      go_meet
      case rel=>exact⟨ht2,hr2,by rw[HE.out.1,HE.out.2];exact ho2,hU2⟩
     ·have HE:=zG (And.intro e1 e2)
      clear e1 e2
      go_wp2_with fail
      go_meet
      case rel=>exact⟨ht2,hr2,by rw[HE.out.1,HE.out.2];exact ho2,hU2⟩
   case rest=>
     obtain⟨htp,hrp,hop,hUp⟩:=hcut
     clear t0 t1 t2 t3 o0 o1 o2 o3 f0 f1 f2 f3 ht2 hr2 ho2 hU2 hok0
     have hbase:w.heap.size+1+1<wc.heap.size:=hop.lt
     obtain⟨wp,rfl⟩:∃ wp,wp=wc:=⟨_,rfl⟩
     go_wp2_with fail
     go_loopw [8] (fun v8 wr=>∃(j:Nat)(v:Value)(css:List (List Value)),v8=.int .i64 j/\j<=ts.length/\xB wp.heap.size wr v (XQ (X1 jj) b k 0 (ts.take j)) css/\
         zI wr (w.heap.size+1+1) (.int .i64 mk') (.string (B nm)) (.int .i64 mi) v 29/\zI wr w.heap.size (.int .i64 k) (.string (B nm)) (.int .i64 i) (.slice a ts.length cap) 29/\
         zI wr (w.heap.size+1) (.int .i64 0) (.string (B [])) (.int .i64 0) (.slice none 0 0) 29/\zD zC w wr/\wp.heap.size<=wr.heap.size)
       (fun v8 _=>ts.length - (intOf v8).toNat)
     case atStart=>exact⟨0,_,[],rfl,Nat.zero_le _,by rw[List.take_zero,yW];exact xB.nil _ _,hop,htp,hrp,hUp,Nat.le_refl _⟩
     case round=>
       obtain⟨j,v,css,rfl,hj,hts,hout,htb,hrb,hU,hbr⟩:=hrel
       obtain⟨b0,b1,b2,b3⟩:=hout.cells
       obtain⟨f0,f1,f2,f3⟩:=hout.zH
       obtain⟨t0,t1,t2,t3⟩:=htb.cells
       have qo:=hout.lt
       have hj0:(0:Int)<=(j:Int):=by omega
       have hjb:(j:Int)<=100000:=by omega
       by_cases hlt:j<ts.length
       ·obtain⟨eb,eo,ek,en,ex,es,ec,rfl,hebl,_,p0,p1,p2,p3,hRp⟩:=zf (hE.on hU) j hlt
        have hsz1:=Tm.zY (List.getElem_mem hlt)
        obtain⟨hu0,hu1⟩:=Tm.zt k j
        have hj1:(j:Int)<(ts.length:Int):=by omega
        have hd:zD zC wr wr.drew:=(zD.refl zC wr).drew
        have H2:=fun w'(hU:zD zC wr w')=>(zBP k j j rfl nm i (.slice (some ⟨eb,eo,none⟩) ts.length cap) w').mono fun _ _ ⟨he,hV⟩=>(⟨he,hU.and hV⟩:_/\zD zC wr _)
        have IH:=fun(z:Int)w'(hz:z=b+Tm.under k j)(hU:zD zC wr w')=>ih (ts[j]'hlt) (List.getElem_mem hlt) (by omega) (hoks _ (List.getElem_mem hlt)) z w' _ (by omega) (by omega) (hRp.on hU)
        obtain⟨us,hus⟩:∃ us,us=XQ (X1 jj) b k 0 (ts.take j):=⟨_,rfl⟩
        obtain⟨u,hu⟩:∃ u,u=chT (X1 jj) (b+Tm.under k j) (ts[j]'hlt):=⟨_,rfl⟩
        have hul:us.length=j:=by rw[hus,yz,List.length_take];omega
        have hsucc:us++[u]=XQ (X1 jj) b k 0 (ts.take (j+1)):=by rw[Xc _ _ _ _ _ hlt,<-hus,<-hu]
        rw[<-hus]at hts
        have IH2:=fun w'(hU:zD zC wr w')=>IH (b+Tm.under k j) w' rfl hU
        rw[<-hu]at IH2
        have HS:=zG (And.intro hul hsucc)
        have hul6:us.length<=1000000:=by omega
        have HLT:=zG (show j<ts.length from hlt)
        have hzw:IntKind.i64.wrap (b+Tm.under k j)=b+Tm.under k j:=Go.IntWalk.i64_in _ (by omega)
        clear hul hsucc hus hu ih IH
        generalize Tm.under k j=ud at *
        generalize (ts[j]'hlt).args.length=el at *
        go_wp2_with fail
        go_region_law (first
          |((rw[if_pos (by rfl)]);go_simp;(go_at_call 136);refine(H2 _ hd).mono ?_;rintro e w5 ⟨rfl,hU5⟩;have hout5:=hout.kept hU5;have htb5:=htb.kept hU5;have q5:=hout5.lt;have c5:=hout5.cells.2.2.2;have z5:=hout5.frozen 3;have y5:=htb5.cells.2.2.2;have ss5:=hU5.size;have p05:=hU5.cell p0 (fun x=>x);have p15:=hU5.cell p1 (fun x=>x);have p25:=hU5.cell p2 (fun x=>x);have p35:=hU5.cell p3 (fun x=>x))
          |((rw[if_pos (by rfl)]);go_simp;(go_at_call 86);refine(IH2 _ hU5).mono ?_;rintro e w6 ⟨k1,i1,n1,a1,len1,cap1,rfl,hR6,hU6⟩;have hU6':zD zC wr w6:=hU5.and hU6;have hout6:=hout.kept hU6';have htb6:=htb.kept hU6';have q6:=hout6.lt;have c6:=hout6.cells.2.2.2;have z6:=hout6.frozen 3;have y6:=htb6.cells.2.2.2;have ss6:=hU6'.size;have hts6:=hts.on hU6')
          |(refine step_append_lies _ (by rfl) _ _ 26 (by rfl) wp.heap.size 29 i0 (.agg #[.int .i64 0,.string (B []),.int .i64 0,.slice none 0 0]) 4 56 (by kernel_rfl) hi hi0 hi1 hi2 rfl (by decide) v us.length css.flatten (by rfl) ((hts6.on ((zD.refl zC w6).alloc _)).2.2.1) ⟨w6.heap.size,0,none⟩ 1 1 [.int .i64 k1,.string (B n1),.int .i64 i1,.slice a1 len1 cap1] (by rfl) rfl (World.news_of_block (heap_alloc_new w6 _)) (by simp[Value.oneCell']) (by omega) (by simp only[maxLen];omega) (by omega) (by simp;omega) _ rfl ?_;intro g cap' w7 hown hgrow hat hlt7;have hout7:=(hout6.kept ((zD.refl zC w6).alloc _)).row hgrow (hts6.on ((zD.refl zC w6).alloc _)) (by omega);have c7:=hout7.cells.2.2.2;have z7:=hout7.frozen 3))
        all_goals
          obtain⟨v',css',hT7,hou8,htb8,hrb8,hU8,hsz8⟩:=zHJ hts hout htb hrb hU rfl hbase hbr hU6' ss5 hR6 hown hgrow hat
          rw[HS.out.2]at hT7
          have HT7:=zG hT7
          clear hT7
          go_wp2_with fail
          go_roundw
          case rel=>exact⟨j+1,_,_,by go_num,Nat.succ_le_of_lt HLT.out,HT7.out,hou8,htb8,hrb8,hU8,hsz8⟩
          case measure=>(have:=HLT.out;simp[intOf];omega)
       ·obtain⟨us,hus⟩:∃ us,us=XQ (X1 jj) b k 0 (ts.take j):=⟨_,rfl⟩
        rw[<-hus]at hts
        obtain⟨s0,s1,s2,s3⟩:=hrb.cells
        obtain⟨g0,g1,g2,g3⟩:=hrb.zH
        have qr:=hrb.lt
        have hjl:j=ts.length:=by omega
        have hjn:¬(j:Int)<(ts.length:Int):=by omega
        obtain⟨a9,cap9,rfl,hcap9,hE9⟩:=hts.rep
        obtain⟨len,hlen9⟩:∃ len,len=us.length:=⟨_,rfl⟩
        rw[<-hlen9]at hout hcap9 b3
        have hfin:chT (X1 jj) b (.mk k nm i ts)=.mk mk' nm mi us:=by
          rw[List.take_of_length_le (by omega)]at hus
          rw[xq,<-HMI.out.1,<-HMI.out.2,<-hus]
        have HL:=zG hlen9
        have HFI:=zG hfin
        have hRr:zJ (fun x=>x<=w.heap.size+1) wr (Tm.mk mk' nm mi us).zM [.int .i64 mk',.string (B nm),.int .i64 mi,.slice a9 len cap9]:=zd.2 ⟨a9,cap9,by rw[HL.out],by rw[<-HL.out];exact hcap9,zF.weaken (fun b _ e=>by omega) _ _ _ _ hE9⟩
        clear hlen9 hjl hts hus hfin
        go_wp2_with fail
        obtain⟨w9,hw9⟩:∃ w9,w9=(((wr.setCell ⟨w.heap.size+1,0,none⟩ (.int .i64 mk')).setCell ⟨w.heap.size+1,1,none⟩ (.string (B nm))).setCell ⟨w.heap.size+1,2,none⟩ (.int .i64 mi)).setCell ⟨w.heap.size+1,3,none⟩ (.slice a9 len cap9):=⟨_,rfl⟩
        have hset9:=hrb.set (d0:=.int .i64 mk') (d1:=.string (B nm)) (d2:=.int .i64 mi) (d3:=.slice a9 len cap9)
        rw[<-hw9]at hset9
        rw[<-hw9]
        clear hw9
        obtain⟨e0,e1,e2,e3⟩:=hset9.1.cells
        refine bodyPost_ret (v:=.agg #[.int .i64 mk',.string (B nm),.int .i64 mi,.slice a9 len cap9]) ?_ rfl ?_
        ·simp[results,Tryz.f86,go_sem,e0,e1,e2,e3]
        ·rw[HFI.out]
         exact⟨mk',mi,nm,a9,len,cap9,rfl,zJ.weaken (fun b _ e=>by omega) _ _ (zJ.zE hset9.2 (fun b e=>by omega) _ _ hRr),hU.trans hset9.2 (fun x hx e=>by omega)⟩
end Go.Proofs.YthgmimncdjhgnaaGreatDoor
