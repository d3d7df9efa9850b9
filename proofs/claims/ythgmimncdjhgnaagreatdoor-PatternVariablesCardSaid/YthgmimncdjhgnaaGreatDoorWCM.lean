/- The reference's Long. -/
import Derived.Test.YthgmimncdjhgnaaGreatDoorWCF
import Derived.Test.YthgmimncdjhgnaaGreatDoorWCK
import Derived.Test.YthgmimncdjhgnaaGreatDoorWCL
set_option maxRecDepth 100000
set_option maxHeartbeats 16000000
namespace Go.LF.Tm
theorem zFo(m:Nat)(i:Int)(h0:0<=i):mv (ZH m 0) 0 (mk 5 [] i [])=mk 5 [] (i+m) []:=by
  have e:xu (ZH m 0) 0 5 i=i+m:=by
    unfold xu;rw[if_pos ⟨rfl,h0⟩];unfold ZH;simp only;rw[if_neg (by omega)];omega
  rw[y8,yu,e]
end Go.LF.Tm
namespace Go.Proofs.YthgmimncdjhgnaaGreatDoor
open Go.RowKit Go.LF
def cellAt(b j:Nat)(w:World):Value:=(w.cell? ⟨b,j,none⟩).getD undef
theorem Yt{b j:Nat}{w:World}{v:Value}(h:w.cell? ⟨b,j,none⟩=some v):cellAt b j w=v:=by unfold cellAt;rw[h];rfl
theorem zG.at{W:World}{g:Nat}{c0 c1 c2 c3:Value}{T:TypeId}(h:zG W g c0 c1 c2 c3 T):cellAt g 0 W=c0/\cellAt g 1 W=c1/\cellAt g 2 W=c2/\cellAt g 3 W=c3:=⟨Yt h.cells.1,Yt h.cells.2.1,Yt h.cells.2.2.1,Yt h.cells.2.2.2⟩
theorem zFl{O:Nat->Prop}{W:World}{t:Tm}{c0 c1 c2 c3:Value}{b:Nat}{T:TypeId}(h:zK O W t.zM [c0,c1,c2,c3])(hb:¬O b)(hB:zG W b c0 c1 c2 c3 T):zH O W 4 ([t].map Tm.zM) (some ⟨b,0,none⟩) 0:=by
  obtain⟨a,cap,e,_,hE⟩:=zd.1 (Ym h hb hB 0 [] 0);simp only[List.cons.injEq,Value.slice.injEq,and_true,true_and]at e;obtain⟨rfl,_⟩:=e;exact hE
theorem zHw{O:Nat->Prop}{W:World}{b:Nat}{t:Tm}{t0 t1 t2 t3:Value}{T:TypeId}(hB:zG W b t0 t1 t2 t3 T)(hR:zK O W t.zM [t0,t1,t2,t3])(hb:O b)(hO:∀ x,O x->x<W.heap.size)(k:Int)(n:List UInt8)(i:Int){W':World}
    (hW:W'=((((W.setCell ⟨b,0,none⟩ (.int .i64 k)).setCell ⟨b,1,none⟩ (.string (B n))).setCell ⟨b,2,none⟩ (.int .i64 i)).setCell ⟨b,3,none⟩ (.slice (some ⟨W.heap.size,0,none⟩) 1 1)).alloc (.cells #[t0,t1,t2,t3] T)):
    zG W' b (.int .i64 k) (.string (B n)) (.int .i64 i) (.slice (some ⟨W.heap.size,0,none⟩) 1 1) T/\zK O W' (Tm.mk k n i [t]).zM [.int .i64 k,.string (B n),.int .i64 i,.slice (some ⟨W.heap.size,0,none⟩) 1 1]/\zD (fun x=>x=b) W W':=by
  subst hW;have hs:=hB.set (d0:=.int .i64 k) (d1:=.string (B n)) (d2:=.int .i64 i) (d3:=.slice (some ⟨W.heap.size,0,none⟩) 1 1);have hU:=hs.2.alloc (.cells #[t0,t1,t2,t3] T);exact⟨hs.1.kept ((zD.refl zC _).alloc _),Ym (zK.zE hU (fun x e=>by subst e;exact hb) _ _ hR) (fun e=>by have:=hO _ e;omega) (zG.zJ (by simp)) k n i,hU⟩
theorem zFB(s:Sm):s.size<=100000->∀(h:Tm),h.size<=100000->(∀ b,∀ x∈h.nodes b,x.ok)->∀(w:World)(cs ds:List Value),zK zC w h.zM cs->zK zC w s.zM ds->
    Calls Tryz.prog 89 #[.agg cs.toArray,.agg ds.toArray] w (zBn (Tm.xp (h.mv (Tm.ZH s.args.length 0) 0) s) w):=by
  induction s using Sm.ind with
  |h f ss ih=>
   intro hs h hh hok w cs ds hR hD;obtain⟨k,n,i,ts,a,cap,ht,rfl,hcap,_⟩:=zU hR;obtain⟨sa,sc,rfl,hsc,hE⟩:=Zi.1 hD;have hlen:=Sm.zN ss;simp only[Sm.zS]at hs;simp only[Sm.yt];have HM:=fun W c(hc:zK zC W h.zM c)=>zBc (ss.length:Int) 0 (by omega) (by omega) (by omega) (by omega) h hh hok 0 0 W c (by omega) (by omega) (by omega) hc
   rw[Tm.zHC];have hmw:(Tm.mv (Tm.ZH (ss.length:Int) 0) 0 h).size=h.size:=Tm.qy _ _ _;obtain⟨hm,hhm⟩:∃ hm,hm=Tm.mv (Tm.ZH (ss.length:Int) 0) 0 h:=⟨_,rfl⟩;rw[<-hhm]at HM hmw ⊢;obtain⟨w1,hw1⟩:∃ w1,w1=((w.alloc (.cells #[.int .i64 k,.string (B n),.int .i64 i,.slice a ts.length cap] 29)).alloc (.cells #[.string (B f),.slice sa ss.length sc] 115)).alloc (.cells #[.int .i64 0,.string (B []),.int .i64 0,.slice none 0 0] 29):=⟨_,rfl⟩;have hU1:zD zC w w1:=by rw[hw1];exact(((zD.refl zC w).alloc _).alloc _).alloc _
   have hs1:zn w1 (w.heap.size+1) (.string (B f)) (.slice sa ss.length sc) 115:=by rw[hw1];exact(zn.zJ (by simp)).kept ((zD.refl zC _).alloc _)
   have hr1:zG w1 (w.heap.size+1+1) (.int .i64 0) (.string (B [])) (.int .i64 0) (.slice none 0 0) 29:=by rw[hw1];exact zG.zJ (by simp)
   obtain⟨base,hbase⟩:∃ base,base=w1.heap.size:=⟨_,rfl⟩;have hz1:base=w.heap.size+1+1+1:=by rw[hbase,hw1];simp
   have hbb:zG w1 w.heap.size (.int .i64 k) (.string (B n)) (.int .i64 i) (.slice a ts.length cap) 29:=by rw[hw1];exact((zG.zJ rfl).kept ((zD.refl zC _).alloc _)).kept ((zD.refl zC _).alloc _)
   have HW:=zF hw1;have HT:=zF (And.intro ht hhm);have hR1:=hR.on hU1;have hlen6:ts.length<=100000:=by have:=Tm.zN ts;rw[ht,Tm.zS]at hh;omega
   have hml:hm.args.length+ss.length<=300000:=by
     have h1:hm.args.length<=hm.size:=by cases hm;rw[Tm.zS];have:=Tm.zN ‹List Tm›;simp only[Tm.yt];omega
     omega
   obtain⟨t0,t1,t2,t3⟩:=hbb.cells;obtain⟨s0,s1⟩:=hs1.cells;clear hw1 ht hhm hcap hR hD hmw;generalize ts.length=tl at *
   go_enter Tryz.func89,Tryz.ntmps89
   go_wp2_with fail
   rw[<-show B []={ data:=#[] }from rfl,<-HW.out];go_wp2_with fail
   refine(HM w1 _ hR1).mono ?_;rintro e w2 ⟨k2,i2,n2,a2,len2,cap2,rfl,hR2,hU2⟩;rw[<-hbase]at hR2;have hU12:=hU1.and hU2;have hz2:=hU2.size;rw[<-hbase]at hz2;clear HM hR1 t0 t1 t2 t3 hbb;go_wp2_with fail
   refine(zCN hm [] (by simp;omega) (fun x=>x<base) w2 (fun b hb=>by omega) _ hR2 none 0 (by simp only[List.map_nil,zH])).mono ?_;rintro e w3 ⟨k3,i3,n3,a3,len3,cap3,rfl,hR3,hU3⟩;rw[Tm.zBo]at hR3;obtain⟨w4,hw4⟩:∃ w4,w4=w3.alloc (.cells #[.int .i64 k3,.string (B n3),.int .i64 i3,.slice a3 len3 cap3] 29):=⟨_,rfl⟩;obtain⟨Bb,hBb⟩:∃ Bb,Bb=w3.heap.size:=⟨_,rfl⟩;have hU4:zD zC w3 w4:=by rw[hw4];exact(zD.refl zC w3).alloc _
   have hb4:zG w4 Bb (.int .i64 k3) (.string (B n3)) (.int .i64 i3) (.slice a3 len3 cap3) 29:=by rw[hw4];exact zG.zJ hBb.symm
   have hR4:zK (fun x=>x<base\/x=Bb) w4 hm.zM [.int .i64 k3,.string (B n3),.int .i64 i3,.slice a3 len3 cap3]:=(zK.weaken (fun b _ e=>e.elim .inl (fun e=>.inr (by omega))) _ _ (zK.zY _ _ hR3)).on hU4;have hUw4:=(hU12.and hU3).and hU4;have hzB:base<=Bb:=by have:=hU3.size;omega
   have hs4:=((hs1.kept hU2).kept hU3).kept hU4;have hr4:=((hr1.kept hU2).kept hU3).kept hU4;have HW4:=zF hw4;have HBb:=zF hBb;have hbz4:=hb4.lt;clear hw4 hR2 hR3 hs1 hr1 s0 s1 hU1 hU2 hU12 hU3 hU4;clear hBb;go_wp2_with fail
   rw[<-HBb.out,<-HW4.out]
   go_loopw [7] (fun v7 wr=>∃(j:Nat)(k i:Int)(n:List UInt8)(a:Option Addr)(len cap:Nat),v7=.int .i64 j/\j<=ss.length/\zK (fun x=>x<base\/x=Bb) wr (hm.more (Tm.QF ((ss.length:Int) - 1) (ss.take j))).zM [.int .i64 k,.string (B n),.int .i64 i,.slice a len cap]/\
       zG wr Bb (.int .i64 k) (.string (B n)) (.int .i64 i) (.slice a len cap) 29/\zD (fun x=>x=Bb) w4 wr) (fun v7 _=>ss.length - (intOf v7).toNat)
   case atStart=>exact⟨0,_,_,_,_,_,_,rfl,Nat.zero_le _,by simpa[Tm.QF,Tm.zBo]using hR4,hb4,zD.refl _ _⟩
   case round=>
     clear hR4 hb4;obtain⟨j,k4,i4,n4,a4,zEy,cap4,rfl,hj,hR,hB,hU⟩:=hrel;have hUw:zD zC w wr:=hUw4.trans hU (fun x hx e=>by omega);have hsr:=hs4.zE hU (by omega);obtain⟨s0,s1⟩:=hsr.cells;have j0:(0:Int)<=(j:Int):=by omega
     have jb:(j:Int)<=200000:=by omega
     have hBz:=hB.lt;by_cases hlt:j<ss.length
     ·obtain⟨eb,eo,en,es,ec,rfl,hebl,hebz,p0,p1,hRp⟩:=XR ((zH.zY _ _ _ _ hE).on hUw) j hlt;have j1:(j:Int)<(ss.length:Int):=by omega
      have hs9:=Sm.zR (List.getElem_mem hlt)
      have hal:(ss[j]'hlt).args.length<=100000:=by
        have h1:(ss[j]'hlt).args.length<=(ss[j]'hlt).size:=by
          cases(ss[j]'hlt)with
          |mk f' l'=>rw[Sm.zS];have:=Sm.zN l';simp only[Sm.yt];omega
        omega
      have hidx:(0:Int)<=(ss.length:Int) - 1 - (j:Int):=by omega
      have IH:=fun W(hV:zD zC wr W)=>ih (ss[j]'hlt) (List.getElem_mem hlt) (by omega) (.mk 5 [] ((ss.length:Int) - 1 - (j:Int)) []) (by simp[Tm.zO]) (by
        intro b x hx;rw[Tm.zb]at hx;simp only[Tm.zX,List.mem_singleton]at hx;subst hx;exact⟨fun _=>⟨hidx,by show(ss.length:Int) - 1 - (j:Int)<=1048576;omega⟩,fun e=>by simp at e,fun e=>by simp at e⟩) W _ _ (zV 5 [] ((ss.length:Int) - 1 - (j:Int))) (zK.weaken (fun _ _ x=>x.elim) _ _ (hRp.on hV))
      rw[Tm.zFo _ _ hidx]at IH;have hT:=Tm.Q5 ss ((ss.length:Int) - 1) j hlt;generalize (ss[j]'hlt).args.length=al at *
      obtain⟨u,hu⟩:∃ u,u=Tm.xp (.mk 5 [] ((ss.length:Int) - 1 - (j:Int)+(al:Int)) []) (ss[j]'hlt):=⟨_,rfl⟩;rw[<-hu]at IH hT;have HT2:=zF (And.intro hT hlt);obtain⟨body,hbody⟩:∃ body,body=hm.more (Tm.QF ((ss.length:Int) - 1) (ss.take j)):=⟨_,rfl⟩;rw[<-hbody]at hR
      have hbl:body.args.length+1<=900000:=by
        rw[hbody];have h1:(Tm.QF ((ss.length:Int) - 1) (ss.take j)).length<=100000:=by rw[Tm.zDR,List.length_take];omega
        simp only[Tm.more,Tm.yt,List.length_append];omega
      have hbs:body.more [u]=hm.more (Tm.QF ((ss.length:Int) - 1) (ss.take (j+1))):=by rw[hbody,Tm.zEG,hT]
      have HBS:=zF hbs;clear hT hbs hbody hu hs9 hal hlt hRp;have hwi:IntKind.i64.wrap ((ss.length:Int) - 1 - (j:Int))=(ss.length:Int) - 1 - (j:Int):=Go.IntWalk.i64_in _ (by omega);have hwi2:IntKind.i64.wrap ((ss.length:Int) - 1)=(ss.length:Int) - 1:=Go.IntWalk.i64_in _ (by omega);have hd:zD zC wr wr.drew:=(zD.refl zC wr).drew;obtain⟨b0,b1,b2,b3⟩:=hB.cells;have hE0:w.heap.size+1≠Bb:=by omega
      have hEb:eb<base:=by
        by_cases he:eb<base
        ·exact he
        ·exfalso;have:=hebz;omega
      go_wp2_with fail
      go_region_law (first
        |((rw[if_pos (by rfl)]);go_simp;(go_at_call 144);refine(zCN body [u] hbl (fun x=>x<base\/x=Bb) _ (fun x e=>by have:=hB6.lt;omega) _ hR6 (some ⟨w5.heap.size,0,none⟩) 1 hE6).mono ?_;rintro e w7 ⟨k7,i7,n7,a7,len7,cap7,rfl,hR7,hU7⟩;have hU7':=hU6.and hU7;have hB7:=hB6.kept hU7;obtain⟨z0,z1,z2,z3⟩:=hB7.zI;obtain⟨v0,v1,v2,v3⟩:=hB7.cells;have hset:=hB7.set (d0:=.int .i64 k7) (d1:=.string (B n7)) (d2:=.int .i64 i7) (d3:=.slice a7 len7 cap7))
        |((rw[if_pos (by rfl)]);go_simp;(go_at_call 89);refine(IH _ hd).mono ?_;rintro e w5 ⟨k5,i5,n5,a5,len5,cap5,rfl,hR5,hU5⟩;have hU5':zD zC wr w5:=hd.and hU5;have hB5:=hB.kept hU5';
             have hal5:zD zC w5 (w5.alloc (.cells #[.int .i64 k5,.string (B n5),.int .i64 i5,.slice a5 len5 cap5] 29)):=(zD.refl zC w5).alloc _;have hU6:=hU5'.and hal5;have hB6:=hB5.kept hal5;have hR6:=hR.on hU6;have hwz:wr.drew.heap.size=wr.heap.size:=rfl;have hzz:=hU5'.size;have hR5':zK (fun x=>x<base\/x=Bb) (w5.alloc (.cells #[.int .i64 k5,.string (B n5),.int .i64 i5,.slice a5 len5 cap5] 29)) u.zM [.int .i64 k5,.string (B n5),.int .i64 i5,.slice a5 len5 cap5]:=(zK.weaken (fun x _ e=>by show x<wr.drew.heap.size;omega) _ _ hR5).on hal5;have hE6:=zFl hR5' (by omega) (zG.zJ rfl:zG (w5.alloc (.cells #[.int .i64 k5,.string (B n5),.int .i64 i5,.slice a5 len5 cap5] 29)) w5.heap.size _ _ _ _ _);obtain⟨g50,g51,g52,g53⟩:=hB5.cells;obtain⟨g60,g61,g62,g63⟩:=hB6.cells))
      all_goals
        have hR9:=zK.zE hset.2 (fun x e=>.inr e) _ _ hR7;rw[HBS.out]at hR9;have HR9:=zF hR9;clear hR9;go_wp2_with fail
        go_roundw
        case rel=>exact⟨j+1,_,_,_,_,_,_,by go_num,Nat.succ_le_of_lt HT2.out.2,HR9.out,hset.1,(hU.trans (hU7'.mono (fun _ _ x=>x.elim)) (fun _ _ x=>x)).trans hset.2 (fun _ _ x=>x)⟩
        case measure=>(have:=HT2.out.2;simp[intOf];omega)
     ·have hjn:¬(j:Int)<(ss.length:Int):=by omega
      have hdn:ss.take j=ss:=List.take_of_length_le (by omega);rw[hdn]at hR;clear hdn s0 s1 hsr hlt;obtain⟨wq,rfl⟩:∃ wq,wq=wr:=⟨wr,rfl⟩;obtain⟨body,hbody⟩:∃ body,body=hm.more (Tm.QF ((ss.length:Int) - 1) ss):=⟨_,rfl⟩;rw[<-hbody]at hR;have HB:=zF hbody;clear hbody;go_wp2_with fail
      go_loopw [8] (fun v8 wr=>∃(j:Nat)(k i:Int)(n:List UInt8)(a:Option Addr)(len cap:Nat),v8=.int .i64 j/\j<=ss.length/\zK (fun x=>x<base\/x=Bb) wr (Tm.yQ j body).zM [.int .i64 k,.string (B n),.int .i64 i,.slice a len cap]/\
          zG wr Bb (.int .i64 k) (.string (B n)) (.int .i64 i) (.slice a len cap) 29/\zD (fun x=>x=Bb) w4 wr) (fun v8 _=>ss.length - (intOf v8).toNat)
      case atStart=>exact⟨0,_,_,_,_,_,_,rfl,Nat.zero_le _,hR,hB,hU⟩
      case round=>
        clear hR hB hU hUw;obtain⟨m,k5,i5,n5,a5,len5,cap5,rfl,hm',hR,hB,hU⟩:=hrel;obtain⟨b0,b1,b2,b3⟩:=hB.cells;obtain⟨f0,f1,f2,f3⟩:=hB.zI;have hBl:=hB.lt;have m0:(0:Int)<=(m:Int):=by omega
        have mb:(m:Int)<=200000:=by omega
        by_cases hlt:m<ss.length
        ·have m1:(m:Int)<(ss.length:Int):=by omega
         have hrl:=zHw hB hR (.inr rfl) (fun x e=>by omega) 3 [] 0 rfl;rw[<-Tm.xw]at hrl;have HRL:=zF hrl;have HLT:=zF hlt;clear hrl hlt;go_wp2_with fail
         go_roundw
         case rel=>exact⟨m+1,_,_,_,_,_,_,by go_num,Nat.succ_le_of_lt HLT.out,HRL.out.2.1,HRL.out.1,hU.trans HRL.out.2.2 (fun _ _ x=>x)⟩
         case measure=>(have:=HLT.out;simp[intOf];omega)
        ·have hmn:¬(m:Int)<(ss.length:Int):=by omega
         obtain rfl:m=ss.length:=by omega
         have hrr:=hr4.zE hU (by omega);obtain⟨x0,x1,x2,x3⟩:=hrr.cells;obtain⟨y0,y1,y2,y3⟩:=hrr.zI;have hrz:=hrr.lt;have hset:=hrr.set (d0:=.int .i64 k5) (d1:=.string (B n5)) (d2:=.int .i64 i5) (d3:=.slice a5 len5 cap5);obtain⟨e0,e1,e2,e3⟩:=hset.1.cells;have HE:=zF (And.intro e0 (And.intro e1 (And.intro e2 e3)));clear e0 e1 e2 e3;go_wp2_with fail
         obtain⟨e0,e1,e2,e3⟩:=HE.out;refine bodyPost_ret (v:=.agg #[.int .i64 k5,.string (B n5),.int .i64 i5,.slice a5 len5 cap5]) ?_ rfl ?_
         ·simp[results,Tryz.f89,go_sem,e0,e1,e2,e3]
         ·have hfin:zK (fun x=>x<w.heap.size) _ (Tm.yQ ss.length body).zM _:=zK.weaken (O:=fun x=>x<base\/x=Bb) (fun b _ e=>.inl (by omega)) _ _ (zK.zE hset.2 (fun b e=>.inl (by omega)) _ _ hR);rw[HB.out]at hfin;exact⟨k5,i5,n5,a5,len5,cap5,rfl,hfin,(hUw4.trans hU (fun x hx e=>by omega)).trans hset.2 (fun x hx e=>by omega)⟩
end Go.Proofs.YthgmimncdjhgnaaGreatDoor
