/- PatternVariables: its walk. -/
import Derived.Test.YthgmimncdjhgnaaGreatDoorWCJ
import Derived.Test.YthgmimncdjhgnaaGreatDoorWDF
import Derived.Test.YthgmimncdjhgnaaGreatDoorWFJ
import Derived.Test.YthgmimncdjhgnaaGreatDoorWPC
import Derived.Test.YthgmimncdjhgnaaGreatDoorWPF
import Derived.Test.YthgmimncdjhgnaaGreatDoorWCH
import Derived.Deep.CutBlock
import Derived.Deep.CutRange
set_option maxRecDepth 100000
set_option maxHeartbeats 16000000
namespace Go.Proofs.YthgmimncdjhgnaaGreatDoor
open Go.RowKit Go.LF
theorem zD0:∀(ts:List Tm)(seen:List Int),((pvs seen ts).getD []).length<=seen.length+ts.length
  | [],seen=>by rw[pvs];simp
  |t :: ts,seen=>by
   rw[pvs];split
   ·simp
   ·split
    ·simp
    ·rename_i v _ _;have:=zD0 ts (seen++[v]);simp only[List.length_append,List.length_cons,List.length_nil]at this ⊢;omega
theorem yD.zFb{base:Nat}{W:World}{v:Value}{ts:List Tm}{css:List (List Value)}(h:yD base W v ts css):yb 29 4 (fun b=>b<base) base W v (ts.map Tm.zM) css:=
  ⟨by rw[List.length_map];exact h.1,h.2.1,by rw[List.length_map];exact h.2.2.1,fun i h1 h2=>by
    simp only[List.getElem_map];exact h.2.2.2 i (by simpa using h1) h2⟩
theorem Y3.zHb{W:World}{a:Option Addr}{zs:List Tm}(h:Y3 W a zs){j:Nat}(hj:j<zs.length):∃ g k n i b c,a=some ⟨g,0,none⟩/\g<W.heap.size/\(∀ o,W.frozen? ⟨g,o,none⟩=false)/\
    (W.cell? ⟨g,j * 4,none⟩=some (.int .i64 k)/\W.cell? ⟨g,j * 4+1,none⟩=some (.string (B n))/\W.cell? ⟨g,j * 4+2,none⟩=some (.int .i64 i)/\W.cell? ⟨g,j * 4+3,none⟩=some (.slice b zs[j].args.length c))/\
    zK (fun b=>b=g) W zs[j].zM [.int .i64 k,.string (B n),.int .i64 i,.slice b zs[j].args.length c]:=by
  obtain⟨g,cs,h1,h2,h3,h4,h5,h6⟩:=h j hj;obtain⟨k,n,i,ts,b,c,e,rfl,_,_⟩:=zU h6;have e2:zs[j].args.length=ts.length:=by rw[e];rfl
  rw[e2];exact⟨g,k,n,i,b,c,h1,h2,h3,⟨by simpa using h5 0 _ rfl,h5 1 _ rfl,h5 2 _ rfl,h5 3 _ rfl⟩,h6⟩
theorem YK(l0:List Int)(a0:Option Addr)(len0 cap0:Nat)(hl0:l0.length=len0)(hlen0:len0<=17592186044416)(k0 k1 k2:Int)(w:World)(hE0:zH zC w 1 (l0.map (yP.int .i64)) a0 0)(hN:ZJ w):
    Calls Tryz.prog 7 #[.slice a0 len0 cap0,.agg #[.int .i64 k0,.int .i64 k1,.int .i64 k2]] w fun e w'=>e=.returned (.bool true)/\zD zC w w':=by
  obtain⟨wa,hwa⟩:∃ wa,wa=w.alloc (.cells #[.int .i64 k0,.int .i64 k1,.int .i64 k2] 42):=⟨_,rfl⟩;have hUa:zD zC w wa:=by rw[hwa];exact(zD.refl zC w).alloc _
  have hka:xB wa w.heap.size #[.int .i64 k0,.int .i64 k1,.int .i64 k2] 42:=by rw[hwa];exact xB.zJ rfl
  have hza:wa.heap.size=w.heap.size+1:=by rw[hwa];simp
  obtain⟨w1,hw1⟩:∃ w1,w1=wa.alloc (.cells #[.slice a0 len0 cap0,.int .i64 0] 45):=⟨_,rfl⟩;have hU1:zD zC w w1:=by rw[hw1];exact hUa.alloc _
  have hT1:zg w1 wa.heap.size:=by
    rw[hw1];exact Qf (w:=wa) (cap:=cap0) (U:=45) hl0 hlen0 (hE0.on hUa)
  have hK1:zW wa.heap.size w1:=hN.ok hU1 (by omega);have hk1:xB w1 w.heap.size #[.int .i64 k0,.int .i64 k1,.int .i64 k2] 42:=by rw[hw1];exact hka.kept ((zD.refl zC _).alloc _)
  rw[hza]at hT1 hK1;have hzz1:w1.heap.size=w.heap.size+1+1:=by rw[hw1];simp[hza]
  have NX:=xL 5 (by omega) (by omega) (w.heap.size+1) w1 hT1;have hw1':w1=(w.alloc (.cells #[.int .i64 k0,.int .i64 k1,.int .i64 k2] 42)).alloc (.cells #[.slice a0 len0 cap0,.int .i64 0] 45):=by rw[hw1,hwa]
  have HW1:=zF hw1';obtain⟨N,hNN⟩:∃ P,P=w.heap.size:=⟨_,rfl⟩;have HN:=zF hNN;rw[<-hNN]at hT1 hK1 hk1 NX hzz1;clear hwa hw1 hw1' hka hUa hza hE0 hl0 hlen0 hN hNN;go_enter Tryz.func7,Tryz.ntmps7
  go_upto_region 2 with fail
  rw[<-HW1.out,<-HN.out];go_wp2_with fail
  (with_reducible refine NX.mono ?_);rintro e w2 ⟨⟨c,hc,rfl⟩,hT2,hU2⟩;have AR:=zCe c (by omega) (N+1) w2 hT2 (hK1.zE hU2);clear NX hT1 hK1;go_wp2_with fail
  (with_reducible refine AR.mono ?_);rintro e w3 ⟨v3,ts,css,rfl,hTs,hlen,hwt,_,_,hU3⟩;obtain⟨a3,c3,rfl,hc3,hE3⟩:=hTs.rep
  have hgb:∀ g,0<ts.length->a3=some ⟨g,0,none⟩->w2.heap.size<=g:=fun g h1 h2=>by
    obtain⟨a',c',hv,_,hc9⟩:=hTs.zFb.cells;simp only[Value.slice.injEq]at hv;obtain⟨rfl,_,_⟩:=hv;obtain⟨g',e9,_,hb9,_⟩:=hc9 0 (by simpa using h1) (by have:=hTs.1;omega);rw[h2]at e9;simp at e9;omega
  have hz2:=hU2.size;have hZ3:Y3 w3 a3 ts:=Y3.start hTs.zFb;have hUw3:zD zC w w3:=(hU1.trans hU2 (fun b hb e=>by simp only[zv]at e;have:=HN.out;omega)).trans hU3 (fun b hb e=>by simp only[zv]at e;have:=HN.out;omega);have hk3:=(hk1.zE hU2 (by simp only[zv];omega)).zE hU3 (by simp only[zv];omega);have hE3':=zH.weaken (O':=zC) (fun _ _ e=>e.elim) _ _ _ _ hE3;have K1:=fun W=>qz k0 6 (by omega) (by omega) W
  generalize Qh k0 6=c0 at *
  obtain⟨q0,q1,q2⟩:w3.cell? ⟨N,0,none⟩=some (.int .i64 k0)/\w3.cell? ⟨N,1,none⟩=some (.int .i64 k1)/\w3.cell? ⟨N,2,none⟩=some (.int .i64 k2):=⟨by simpa using hk3.cell 0,by simpa using hk3.cell 1,by simpa using hk3.cell 2⟩;obtain⟨al,hal⟩:∃ k,k=ts.length:=⟨_,rfl⟩;rw[<-hal]at hlen hc3;rw[<-hal];have HAL:=zF hal;have hwt2:∀ t∈ts,t.wt<=200:=fun t ht=>by have:=hwt t ht;omega
  clear hal hTs hE3 hk1 hU1 hU2 hU3 hT2 AR hk3;go_upto_region 3 with fail
  go_cut [26]from 18 to 26 (fun v26 wx=>v26=.bool (decide (0<al) && (c0 == 0))/\w3=wx)
  case first=>
    by_cases h0:0<al
    ·have h1:decide ((0:Int)<(al:Int))=true:=by simpa using h0
     have h2:decide (0<al)=true:=by simpa using h0
     have H2:=zF h2;clear h2;go_wp2_with (first |((go_at_call 25);(with_reducible refine(K1 _).mono ?_);rintro e w7 ⟨rfl,rfl⟩))
     go_meet
     case rel=>exact⟨by rw[H2.out,Bool.true_and],rfl⟩
    ·obtain rfl:al=0:=by omega
     go_wp2_with fail
     go_meet
     case rel=>exact⟨rfl,rfl⟩
  case rest=>
    obtain⟨rfl,rfl⟩:=hcut;obtain⟨q,hq⟩:∃ q,q=(decide (0<al) && (c0 == 0)):=⟨_,rfl⟩;rw[<-hq];have HQ:=zF hq;clear hq;go_upto_if 26 with fail
    go_cut []from 27 to 36 (fun wc=>∃(ts':List Tm),ts'.length=al/\(∀ t∈ts',t.wt<=200)/\zH zC wc 4 (ts'.map Tm.zM) a3 0/\zD zC w wc)
    case first=>
      cases q
      ·go_wp2_with fail
       go_meet
       case rel=>exact⟨ts,HAL.out.symm,hwt2,hE3',hUw3⟩
      ·have h0:0<al:=by
         have:=HQ.out;rw[eq_comm,Bool.and_eq_true]at this;simpa using this.1
       have hal0:0<ts.length:=by have:=HAL.out;omega
       obtain⟨g,k4,n4,i4,b4,c4,rfl,hgl,hgf,⟨p0,p1,p2,p3⟩,hRt⟩:=hZ3.zHb hal0;simp only[Nat.zero_mul,Nat.zero_add]at p0 p1 p2 p3;have hd:=(zD.refl zC w3).drew;have hwt0:=hwt _ (List.getElem_mem hal0);have SP:=fun y z=>zAL ts[0] (by omega) (fun b=>b=g) y z w3.drew _ (hRt.on hd)
       obtain⟨u0,hu0⟩:∃ u,u=ts[0]:=⟨_,rfl⟩;rw[<-hu0]at p3 hRt SP hwt0;generalize u0.args.length=l4 at *
       have d0:=hd.cell p0 (fun x=>x);have d1:=hd.cell p1 (fun x=>x);have d2:=hd.cell p2 (fun x=>x);have d3:=hd.cell p3 (fun x=>x);have e1:=hd.cell q1 (fun x=>x);have e2:=hd.cell q2 (fun x=>x);have hZd:=hZ3.kept hd;have hali:(0:Int)<(al:Int):=by omega
       clear hu0 hE3' hRt;go_wp2_with fail
       go_region_law ((rw[if_pos (by rfl)]);go_simp;(go_at_call 29);(with_reducible refine(SP _ _).mono ?_);rintro e w8 ⟨k8,i8,n8,a8,l8,c8,t8,rfl,hR8,hwt8,hU8⟩;have x0:=hU8.cell d0 (fun x=>x);have x1:=hU8.cell d1 (fun x=>x);have x2:=hU8.cell d2 (fun x=>x);have x3:=hU8.cell d3 (fun x=>x);have hg8:∀ o,w8.frozen? ⟨g,o,none⟩=false:=(fun o=>by rw[hU8.cells.2 g o hgl (fun x=>x)];exact hgf o);have hgl8:g<w8.heap.size:=(Nat.lt_of_lt_of_le hgl hU8.size))
       all_goals
         have hput:=Y3.next (W':=(((w8.setCell ⟨g,0,none⟩ (.int .i64 k8)).setCell ⟨g,1,none⟩ (.string (B n8))).setCell ⟨g,2,none⟩ (.int .i64 i8)).setCell ⟨g,3,none⟩ (.slice a8 l8 c8)) (hZd.kept hU8) hal0 (zK.weaken (fun b _ e=>⟨e,by rw[e];exact Nat.lt_of_lt_of_le hgl hd.size⟩) _ _ hR8) rfl
         have hfin:∃(ts':List Tm),ts'.length=al/\(∀ t∈ts',t.wt<=200)/\zH zC _ 4 (ts'.map Tm.zM) (some ⟨g,0,none⟩) 0/\zD zC w _:=
           ⟨ts.set 0 t8,by rw[List.length_set];exact HAL.out.symm,fun t ht=>by rcases List.mem_or_eq_of_mem_set ht with h |h;exact hwt2 t h;rw[h];omega,hput.1.rep,(hUw3.and (hd.and hU8)).trans hput.2 (fun b hb e=>by have h8:=hgb g hal0 rfl;have:=HN.out;omega)⟩
         have HFI:=zF hfin;clear hput hfin;go_wp2_with fail
         go_meet
         case rel=>exact HFI.out
    case rest=>
      obtain⟨ts',hl',hw',hE',hU'⟩:=hcut;obtain⟨w4,rfl⟩:∃ q,q=wc:=⟨_,rfl⟩;have PV:=fun(W:World)(hW:zD zC w4 W)=>ZX ts' (by omega) (fun t ht=>by have:=hw' t ht;omega) a3 c3 W (hE'.on hW)
      have RV:=fun(W:World)(hW:zD zC w4 W)=>zB4 ts' (by omega) (fun t ht=>by have:=hw' t ht;omega) a3 c3 W (hE'.on hW)
      rw[hl']at PV RV;obtain⟨r,hr⟩:∃ r,r=pvs [] ts':=⟨_,rfl⟩;rw[<-hr]at PV RV;have hrl:(r.getD []).length<=1000000:=by have:=zD0 ts' [];rw[<-hr]at this;simp at this;omega
      unfold QA at PV RV;have NU:=fun(W:World)(x y:Option Addr)(xc yc:Nat)h1 h2=>Yb (r.getD []) hrl W x y xc yc h1 h2
      generalize r.isSome=bs at *
      generalize r.getD []=ns at *
      have P4:=PV w4 (zD.refl _ _);clear hr hE3' hZ3 K1 q0 q1 q2;go_upto_region 5 with fail
      go_wp2_with fail
      (with_reducible refine P4.mono ?_);rintro e w5 ⟨x5,xc5,rfl,hx5,hU5⟩;have R5:=RV w5 hU5;clear P4 PV RV;go_wp2_with fail
      (with_reducible refine R5.mono ?_);rintro e w6 ⟨x6,xc6,rfl,hx6,hU6⟩;have N6:=NU w6 x5 x6 xc5 xc6 (hx5.on hU6) hx6;have hbb:(bs == bs)=true:=by simp
      clear R5 NU;go_wp2_with fail
      (with_reducible refine N6.mono ?_);rintro e w7 ⟨rfl,hU7⟩;go_wp2_with fail
      (with_reducible refine(zAd w7).mono ?_);rintro e w8 ⟨rfl,hU8⟩;go_wp2_with fail
      go_ret
      exact⟨rfl,(((hU'.and hU5).and hU6).and hU7).and hU8⟩
end Go.Proofs.YthgmimncdjhgnaaGreatDoor
