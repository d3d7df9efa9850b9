/- lfchecklaw14.args. -/
import Derived.Test.YthgmimncdjhgnaaGreatDoorWCI
import Derived.Test.YthgmimncdjhgnaaGreatDoorWCK
import Derived.Test.YthgmimncdjhgnaaGreatDoorWCL
import Derived.Test.YthgmimncdjhgnaaGreatDoorWCM
import Derived.Test.YthgmimncdjhgnaaGreatDoorWPA
import Derived.Deep.AppendLies
import Derived.Deep.RegionHeld3
set_option maxRecDepth 100000
set_option maxHeartbeats 8000000
namespace Go.Proofs.YthgmimncdjhgnaaGreatDoor
section
open Go.RowKit Go.LF
def zGl(T:Nat)(base:Nat)(w:World)(e:Ending)(w':World):Prop:=
  ∃(v:Value)(ts:List Tm)(css:List (List Value)),e=.returned v/\yD base w' v ts css/\ts.length<=4/\(∀ t∈ts,t.wt<=100)/\zg w' T/\zW T w'/\zD (zv T) w w'
theorem qG{base T:Nat}{w wr w6 w7:World}{v:Value}{us:List Tm}{css:List (List Value)}{u:Tm}{k1 i1:Int}{n1:List UInt8}{a1:Option Addr}{len1 cap1 g cap':Nat}
    (hts:yD base wr v us css) (hTb:T<base) (hbr:base<=wr.heap.size) (hU:zD (zv T) w wr) (hU6:zD (zv T) wr w6) (hwb:w.heap.size=base) (hT:zg w6 T) (hK:zW T w6)
    (hR6:zK (fun x=>x<wr.heap.size) w6 u.zM [.int .i64 k1,.string (B n1),.int .i64 i1,.slice a1 len1 cap1])
    (hown:w7.ownsRow base 29 4 (.slice (some ⟨g,0,none⟩) (us.length+1) cap') (us.length+1) (css.flatten++[.int .i64 k1,.string (B n1),.int .i64 i1,.slice a1 len1 cap1])) (hgrow:(w6.alloc (.cells #[.int .i64 k1,.string (B n1),.int .i64 i1,.slice a1 len1 cap1] 29)).grownBy w7 v.ownBlock)
    (hat:v.ownBlock=some g\/g=(w6.alloc (.cells #[.int .i64 k1,.string (B n1),.int .i64 i1,.slice a1 len1 cap1] 29)).heap.size):
    yD base w7 (.slice (some ⟨g,0,none⟩) (us.length+1) cap') (us++[u]) (css++[[.int .i64 k1,.string (B n1),.int .i64 i1,.slice a1 len1 cap1]])/\zg w7 T/\zW T w7/\zD (zv T) w w7:=by
  have hal:zD zC w6 (w6.alloc (.cells #[.int .i64 k1,.string (B n1),.int .i64 i1,.slice a1 len1 cap1] 29)):=(zD.refl zC w6).alloc _;have hts6:=(hts.zE hU6 (fun b e=>by simp only[zv]at e;omega)).on hal
  have hR6':zK (fun b=>b<base\/v.ownBlock=some b) (w6.alloc (.cells #[.int .i64 k1,.string (B n1),.int .i64 i1,.slice a1 len1 cap1] 29)) u.zM [.int .i64 k1,.string (B n1),.int .i64 i1,.slice a1 len1 cap1]:=by
    refine(zK.weaken (fun b _ e=>?_) _ _ hR6).new _;rcases e with e |e
    ·omega
    ·exact(hts.2.2.1.lt b e).2
  have hT7:=hts6.appended rfl hR6' hown hgrow hat (Nat.le_refl _);have hrow7:=zD.ofRow (zw.grown hts6.2.2.1 hgrow);have hs1:=hU.size;exact⟨hT7,(hT.on hal).Zy hrow7 (fun b e=>by omega),(hK.on hal).Zy hrow7 (fun b e=>by omega),((hU.trans hU6 (fun _ _ e=>e)).trans hal (fun _ _ e=>e.elim)).trans hrow7 (fun b hb e=>by omega)⟩
theorem zCe(n:Nat)(hn:n<=4)(T:Nat)(w:World)(hT:zg w T)(hK:zW T w):
    Calls Tryz.prog 37 #[.pointer (some ⟨T,0,none⟩),.int .i64 (n:Int)] w (zGl T w.heap.size w):=by
  obtain⟨i0,hi,hi0,hi1,hi2⟩:=info_parts yV;obtain⟨base,hb⟩:∃ b,b=w.heap.size:=⟨_,rfl⟩;have HB:=zF hb;have hTb:T<base:=by rw[hb];exact hT.lt
  clear hb;go_enter Tryz.func37,Tryz.ntmps37
  go_wp2_with fail
  go_loopw [1,5] (fun v1 v5 wr=>∃(m:Nat)(ts:List Tm)(css:List (List Value)),v1=.int .i64 (m:Int)/\m+ts.length<=4/\yD base wr v5 ts css/\(∀ t∈ts,t.wt<=100)/\zg wr T/\zW T wr/\zD (zv T) w wr)
    (fun v1 _ _=>(intOf v1).toNat)
  case atStart=>exact⟨n,[],[],rfl,by simpa using hn,yD.nil _ _,fun t ht=>(by cases ht),hT,hK,zD.refl _ _⟩
  case round=>
    clear hT hK;obtain⟨m,us,css,rfl,hm,hts,hwt,hT,hK,hU⟩:=hrel;obtain⟨vv,hvv⟩:∃ v,v=u5:=⟨_,rfl⟩;rw[<-hvv]at hts;rw[<-hvv];clear hvv;have hmi:(m:Int)<=4:=by omega
    have hbr:base<=wr.heap.size:=by have h1:=hU.size;have h2:=HB.out;omega
    have hWT:=zF hwt;have hus:us.length<=4:=by omega
    clear hwt;by_cases hlt:0<m
    ·have hlt':(0:Int)<(m:Int):=by omega
     have N1:=xL 6 (by omega) (by omega) T wr hT;go_wp2_with fail
     (with_reducible refine N1.mono ?_);rintro e w2 ⟨⟨c,hc,rfl⟩,hT2,hU2⟩;have hK2:=hK.zE hU2;have hUr2:=hU2;clear N1 hT hK
     have hways:c=0\/(c=1)\/(((c:Int) == 0)=false/\((c:Int) == 1)=false):=by
       by_cases h0:c=0
       ·exact .inl h0
       ·by_cases h1:c=1
        ·exact .inr (.inl h1)
        ·exact .inr (.inr ⟨by simp;omega,by simp;omega⟩)
     rcases hways with rfl |rfl |⟨hq0,hq1⟩
     ·have TM:=Ye 1 (by omega) 4 1 (by omega) (by omega) T w2 hT2 hK2;rw[show((1:Nat):Int)=1 from rfl,show((4:Nat):Int)=4 from rfl]at TM;go_wp2_with fail
      (with_reducible refine TM.mono ?_);rintro e w6 ⟨k1,i1,n1,a1,len1,cap1,u,rfl,hR6,hF6,hT6,hK6,hU6⟩;have hUr6:=hUr2.trans hU6 (fun _ _ e=>e);have hz:=hU2.size;have hR6':=zK.weaken (O':=fun x=>x<wr.heap.size) (fun b _ e=>by omega) _ _ hR6;have huw:u.wt<=100:=by have:=hF6.wt;omega
      have htsx:=hts.zE hUr6 (fun b e=>by simp only[zv]at e;omega);have hsx:=hUr6.size;clear TM;go_wp2_with (at_builtin;refine wpList_append_lies _ (by rfl) _ _ 26 (by rfl) base 29 i0 (.agg #[.int .i64 0,.string (B []),.int .i64 0,.slice none 0 0]) 4 56 (by kernel_rfl) hi hi0 hi1 hi2 rfl (by decide) vv us.length css.flatten (by rfl) ((htsx.on ((zD.refl zC w6).alloc _)).2.2.1) ⟨w6.heap.size,0,none⟩ 1 1 [.int .i64 k1,.string (B n1),.int .i64 i1,.slice a1 len1 cap1] (by rfl) rfl (World.news_of_block (heap_alloc_new w6 _)) (by simp[Value.oneCell']) (by omega) (by simp only[maxLen];omega) (by omega) (by simp;omega) _ rfl ?_;intro g cap' w7 hown hgrow hat hlt7)
      obtain⟨h1,h2,h3,h4⟩:=qG hts hTb hbr hU hUr6 HB.out.symm hT6 hK6 hR6' hown hgrow hat;have HR:=zF (And.intro h1 (And.intro h2 (And.intro h3 h4)));clear h1 h2 h3 h4 hown hgrow hat htsx hts hR6 hR6' hU6;go_roundw
      case rel=>exact⟨m - 1,us++[u],_,by go_num,by simp;omega,HR.out.1,fun t ht=>by rcases List.mem_append.1 ht with h |h;exact hWT.out t h;rw[List.mem_singleton.1 h];exact huw,HR.out.2.1,HR.out.2.2.1,HR.out.2.2.2⟩
      case measure=>simp[intOf];omega
     ·have N2:=xL 5 (by omega) (by omega) T w2 hT2;go_wp2_with fail
      (with_reducible refine N2.mono ?_);rintro e w3 ⟨⟨x,hx,rfl⟩,hT3,hU3⟩;have hK3:=hK2.zE hU3;have SI:=zCu 2 (by omega) T w3 hT3;rw[show((2:Nat):Int)=2 from rfl]at SI;clear N2 hT2 hK2;go_wp2_with fail
      (with_reducible refine SI.mono ?_);rintro e w4 ⟨f4,a4,l4,c4,sx,rfl,hR4,hF4,hT4,hU4⟩;have hK4:=hK3.zE hU4;have hxo:∀ b,∀ y∈(Tm.mk 5 [] (x:Int) []).nodes b,y.ok:=Tm.Q0 _ (by rw[Tm.isObj];simp[Tm.ze];omega);have hsz:=hF4.size;have LG:=zFB sx (by omega) (.mk 5 [] (x:Int) []) (by simp[Tm.zS,Tm.zO]) hxo w4 _ _ (zV 5 [] (x:Int)) (zK.weaken (fun _ _ e=>e.elim) _ _ hR4);rw[Tm.zFo _ _ (by omega)]at LG;have hwx:=Tm.zIQ sx (.mk 5 [] ((x:Int)+sx.args.length) []);simp only[Tm.yM,Tm.ye,List.length_nil]at hwx;obtain⟨u,hu⟩:∃ q,q=Tm.xp (.mk 5 [] ((x:Int)+sx.args.length) []) sx:=⟨_,rfl⟩;rw[<-hu]at LG hwx;have huw:u.wt<=100:=by omega
      clear SI hu hwx hxo hT3 hK3 hR4;go_wp2_with fail
      (with_reducible refine LG.mono ?_);rintro e w6 ⟨k1,i1,n1,a1,len1,cap1,rfl,hR6,hU6⟩;have hUr6:zD (zv T) wr w6:=(((hUr2.trans hU3 (fun _ _ e=>e)).trans hU4 (fun _ _ e=>e)).trans hU6 (fun _ _ e=>e.elim));have hz:wr.heap.size<=w4.heap.size:=((hUr2.trans hU3 (fun _ _ e=>e)).trans hU4 (fun _ _ e=>e)).size;have hR6':=zK.weaken (O':=fun x=>x<wr.heap.size) (fun b _ e=>by omega) _ _ hR6;have hT6:=hT4.on hU6;have hK6:=hK4.on hU6;have htsx:=hts.zE hUr6 (fun b e=>by simp only[zv]at e;omega);have hsx:=hUr6.size;clear LG;go_wp2_with (at_builtin;refine wpList_append_lies _ (by rfl) _ _ 26 (by rfl) base 29 i0 (.agg #[.int .i64 0,.string (B []),.int .i64 0,.slice none 0 0]) 4 56 (by kernel_rfl) hi hi0 hi1 hi2 rfl (by decide) vv us.length css.flatten (by rfl) ((htsx.on ((zD.refl zC w6).alloc _)).2.2.1) ⟨w6.heap.size,0,none⟩ 1 1 [.int .i64 k1,.string (B n1),.int .i64 i1,.slice a1 len1 cap1] (by rfl) rfl (World.news_of_block (heap_alloc_new w6 _)) (by simp[Value.oneCell']) (by omega) (by simp only[maxLen];omega) (by omega) (by simp;omega) _ rfl ?_;intro g cap' w7 hown hgrow hat hlt7)
      obtain⟨h1,h2,h3,h4⟩:=qG hts hTb hbr hU hUr6 HB.out.symm hT6 hK6 hR6' hown hgrow hat;have HR:=zF (And.intro h1 (And.intro h2 (And.intro h3 h4)));clear h1 h2 h3 h4 hown hgrow hat htsx hts hR6 hR6' hU6;go_roundw
      case rel=>exact⟨m - 1,us++[u],_,by go_num,by simp;omega,HR.out.1,fun t ht=>by rcases List.mem_append.1 ht with h |h;exact hWT.out t h;rw[List.mem_singleton.1 h];exact huw,HR.out.2.1,HR.out.2.2.1,HR.out.2.2.2⟩
      case measure=>simp[intOf];omega
     ·have N2:=xL 5 (by omega) (by omega) T w2 hT2;go_wp2_with fail
      (with_reducible refine N2.mono ?_);rintro e w6 ⟨⟨x,hx,rfl⟩,hT6,hU6⟩;have hK6:=hK2.zE hU6;have hUr6:=hUr2.trans hU6 (fun _ _ e=>e);have hz:=hU2.size;obtain⟨k1,hk1⟩:∃ q:Int,q=5:=⟨_,rfl⟩;obtain⟨i1,hi1'⟩:∃ q:Int,q=(x:Int):=⟨_,rfl⟩;obtain⟨u,hu⟩:∃ q,q=Tm.mk 5 [] (x:Int) []:=⟨_,rfl⟩;have hR6':zK (fun b=>b<wr.heap.size) w6 u.zM [.int .i64 5,.string (B []),.int .i64 (x:Int),.slice none 0 0]:=by rw[hu];exact zV 5 [] (x:Int)
      have huw:u.wt<=100:=by rw[hu];simp[Tm.yM,Tm.ye]
      have htsx:=hts.zE hUr6 (fun b e=>by simp only[zv]at e;omega);have hsx:=hUr6.size;clear N2 hu hT2 hK2 hk1 hi1' k1 i1;go_wp2_with (at_builtin;refine wpList_append_lies _ (by rfl) _ _ 26 (by rfl) base 29 i0 (.agg #[.int .i64 0,.string (B []),.int .i64 0,.slice none 0 0]) 4 56 (by kernel_rfl) hi hi0 hi1 hi2 rfl (by decide) vv us.length css.flatten (by rfl) ((htsx.on ((zD.refl zC w6).alloc _)).2.2.1) ⟨w6.heap.size,0,none⟩ 1 1 [.int .i64 5,.string (B []),.int .i64 (x:Int),.slice none 0 0] (by rfl) rfl (World.news_of_block (heap_alloc_new w6 _)) (by simp[Value.oneCell']) (by omega) (by simp only[maxLen];omega) (by omega) (by simp;omega) _ rfl ?_;intro g cap' w7 hown hgrow hat hlt7)
      obtain⟨h1,h2,h3,h4⟩:=qG hts hTb hbr hU hUr6 HB.out.symm hT6 hK6 hR6' hown hgrow hat;have HR:=zF (And.intro h1 (And.intro h2 (And.intro h3 h4)));clear h1 h2 h3 h4 hown hgrow hat htsx hts hR6' hU6;go_roundw
      case rel=>exact⟨m - 1,us++[u],_,by go_num,by simp;omega,HR.out.1,fun t ht=>by rcases List.mem_append.1 ht with h |h;exact hWT.out t h;rw[List.mem_singleton.1 h];exact huw,HR.out.2.1,HR.out.2.2.1,HR.out.2.2.2⟩
      case measure=>simp[intOf];omega
    ·have hge:¬(0:Int)<(m:Int):=by omega
     have HO:=zF (And.intro hts (And.intro hWT.out (And.intro hT (And.intro hK hU))));clear hts hT hK hU;go_wp2_with fail
     refine bodyPost_ret (v:=vv) (by simp[results,Tryz.f37,go_sem]) rfl ?_;exact⟨vv,us,css,rfl,by rw[<-HB.out];exact HO.out.1,hus,HO.out.2.1,HO.out.2.2.1,HO.out.2.2.2.1,HO.out.2.2.2.2⟩
end
section
open Go.RowKit Go.LF
theorem zAN{O:Nat->Prop}{W:World}{l:List Int}{a:Option Addr}(h:zH O W 1 (l.map (yP.int .i64)) a 0)(j:Nat)(hj:j<l.length):∃ b o,a=some ⟨b,o,none⟩/\W.cell? ⟨b,o+j,none⟩=some (.int .i64 l[j]):=by
  obtain⟨b,o,e,_,_,hc⟩:=yJ h j hj;exact⟨b,o,e,hc⟩
theorem Yb(l:List Int)(hl:l.length<=1000000)(w:World)(a a2:Option Addr)(cap cap2:Nat)(hE:zH zC w 1 (l.map (yP.int .i64)) a 0)(hE2:zH zC w 1 (l.map (yP.int .i64)) a2 0):
    Calls Tryz.prog 40 #[.slice a l.length cap,.slice a2 l.length cap2] w fun e w'=>e=.returned (.bool true)/\zD zC w w':=by
  obtain⟨tl,htl⟩:∃ tl,tl=l.length:=⟨_,rfl⟩;rw[<-htl];rw[<-htl]at hl;have HL:=zF htl;clear htl;go_enter Tryz.func40,Tryz.ntmps40
  go_wp2_with fail
  go_loopw [5] (fun v5 wr=>∃ j:Nat,v5=.int .i64 (j:Int)/\j<=tl/\zD zC w wr) (fun v5 _=>tl - (intOf v5).toNat)
  case atStart=>exact⟨0,rfl,Nat.zero_le _,zD.refl _ _⟩
  case round=>
    obtain⟨j,rfl,hj,hU⟩:=hrel;have hjm:(j:Int)<=1000000:=by omega
    by_cases hlt:j<tl
    ·have hjl:j<l.length:=by have:=HL.out;omega
     obtain⟨b,o,rfl,c1⟩:=zAN (hE.on hU) j hjl;obtain⟨b2,o2,rfl,c2⟩:=zAN (hE2.on hU) j hjl;have hd:zD zC wr wr.drew:=(zD.refl zC _).drew;generalize l[j]=x at *
     have d1:=hd.cell c1 (fun x=>x);have d2:=hd.cell c2 (fun x=>x);have hjb:(j:Int)<(tl:Int):=by omega
     clear hjl;go_wp2_with fail
     go_region_held3 (fun w'=>w'.cell? ⟨b,o+j,none⟩=some (.int .i64 x)/\w'.cell? ⟨b2,o2+j,none⟩=some (.int .i64 x))
       (first |(with_reducible assumption)|(exact⟨d1,d2⟩))
       (fail)
     all_goals
       go_wp2_with fail
       go_roundw
       case rel=>exact⟨j+1,by go_num,by omega,hU.and hd⟩
       case measure=>simp[intOf];omega
    ·have hjn:¬(j:Int)<(tl:Int):=by omega
     go_wp2_with fail
     go_ret
     exact⟨rfl,hU⟩
end
end Go.Proofs.YthgmimncdjhgnaaGreatDoor
