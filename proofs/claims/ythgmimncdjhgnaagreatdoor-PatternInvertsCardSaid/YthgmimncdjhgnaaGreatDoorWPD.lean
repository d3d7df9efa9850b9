/- What lfchecklaw14.awake asks of the surveys of package pattern. -/
import Derived.Test.YthgmimncdjhgnaaGreatDoorWCC
import Derived.Test.YthgmimncdjhgnaaGreatDoorWFA
import Derived.Test.YthgmimncdjhgnaaGreatDoorWPA
set_option maxRecDepth 100000
set_option maxHeartbeats 4000000
namespace Go.LF
open Tm
def yz:Tm:=mk 4 [110,97,116] 0 []
def xX:Tm:=mk 2 [] 0 [yz,yz]
def tV1:Tm:=mk 5 [] 1 []
def tS1:Tm:=mk 4 [115] 0 [tV1]
end Go.LF
namespace Go.Proofs.YthgmimncdjhgnaaGreatDoor
section
open Go.RowKit Go.LF
def xB(W:World)(g:Nat)(cs:Array Value)(T:TypeId):Prop:=W.heap[g]? =some (.cells cs T (0,0))
section
variable {W W':World}{g:Nat}{cs:Array Value}{T:TypeId}{S:Nat->Prop}
theorem xB.zJ(hb:W.heap.size=g):xB (W.alloc (.cells cs T)) g cs T:=by subst hb;exact heap_alloc_new W _
theorem xB.lt(h:xB W g cs T):g<W.heap.size:=(Array.getElem?_eq_some_iff.1 h).1
theorem xB.cell(h:xB W g cs T)(i:Nat):W.cell? ⟨g,i,none⟩=cs[i]? :=by unfold xB at h;simp[World.cell?,h]
theorem xB.frozen(h:xB W g cs T)(i:Nat):W.frozen? ⟨g,i,none⟩=false:=by unfold xB at h;simp[World.frozen?,h]
theorem xB.zE(h:xB W g cs T)(hU:zD S W W')(hS:¬S g):xB W' g cs T:=(hU.block g h.lt hS).trans h
theorem xB.kept(h:xB W g cs T)(hU:zD zC W W'):xB W' g cs T:=h.zE hU (fun x=>x)
theorem xB.set(h:xB W g cs T)(i:Nat)(v:Value):xB (W.setCell ⟨g,i,none⟩ v) g (cs.setIfInBounds i v) T:=by
  obtain⟨hlt,hk⟩:=Array.getElem?_eq_some_iff.1 h;show(W.heap.modify g _)[g]? =_;rw[Array.getElem?_eq_getElem (by rw[Array.size_modify];exact hlt),Array.getElem_modify_self,hk];simp
end
abbrev Sv(W:World)(SB:Nat)(la:Option Addr)(ll lc:Nat)(I:Int)(M M2:Nat)(b3 b4 b5 b6:Bool):Prop:=
  xB W SB #[.slice la ll lc,.int .i64 I,.map (some M),.bool b3,.bool b4,.bool b5,.bool b6,.map (some M2)] 165
theorem zEQ(SB M M2:Nat)(la:Option Addr)(ll lc:Nat)(I:Int)(b3 b4 b5 b6:Bool)(w:World)(hB:Sv w SB la ll lc I M M2 b3 b4 b5 b6)(hS:Seen w M [.int .i64 0]):
    Calls Tryz.prog 206 #[.pointer (some ⟨SB,0,none⟩),.int .i64 1,.int .i64 0] w fun e w'=>e=.returned (.bool true)/\w'=w:=by
  have hlk:=hS.lookup (P:=Tryz.prog) (mt:=162) (kt:=3) (bt:=4) (key:=.int .i64 1) (by kernel_rfl) (by kernel_rfl) (x9 w) (xY [0]) rfl false (by simp);have c2:=hB.cell 2;simp at c2;go_enter Tryz.func206,Tryz.ntmps206
  go_wp2_with fail
  go_ret
  exact⟨rfl,rfl⟩
theorem zEX(SB:Nat)(es:Option Addr)(ec:Nat)(w:World):
    Calls Tryz.prog 181 #[.pointer (some ⟨SB,0,none⟩),.agg #[.int .i64 4,.string (B [110,97,116]),.int .i64 0,.slice es 0 ec],.agg #[.int .i64 0,.bool false,.bool false]] w fun e w'=>e=.returned (.tuple #[])/\zD zC w w':=by
  obtain⟨w1,hw1⟩:∃ q,q=((w.alloc (.cells #[.int .i64 4,.string (B [110,97,116]),.int .i64 0,.slice es 0 ec] 29)).alloc (.cells #[.int .i64 0,.bool false,.bool false] 189)).alloc (.cells #[.int .i64 0,.bool false,.bool false] 189):=⟨_,rfl⟩;have hU1:zD zC w w1:=by rw[hw1];exact(((zD.refl zC w).alloc _).alloc _).alloc _
  have ht1:zG w1 w.heap.size (.int .i64 4) (.string (B [110,97,116])) (.int .i64 0) (.slice es 0 ec) 29:=by rw[hw1];exact((zG.zJ rfl).kept ((zD.refl zC _).alloc _)).kept ((zD.refl zC _).alloc _)
  have HW1:=zF hw1;obtain⟨t0,t1,t2,t3⟩:=ht1.cells;clear hw1;go_enter Tryz.func181,Tryz.ntmps181
  go_upto_region 2 with fail
  rw[<-HW1.out];go_wp2_with fail
  go_loopw [62] (fun v wr=>v=.int .i64 0/\wr=w1) (fun _ _=>0)
  case atStart=>exact⟨rfl,rfl⟩
  case round=>
    obtain⟨rfl,rfl⟩:=hrel;go_wp2_with fail
    go_end0
    exact⟨rfl,hU1⟩
theorem zGF(es:Option Addr)(ec:Nat)(SB M M2:Nat)(la:Option Addr)(ll lc:Nat)(I:Int)(w:World)(hB:Sv w SB la ll lc I M M2 false false false false)(hS:Seen w M [.int .i64 0]):
    Calls Tryz.prog 181 #[.pointer (some ⟨SB,0,none⟩),.agg #[.int .i64 5,.string (B []),.int .i64 1,.slice es 0 ec],.agg #[.int .i64 0,.bool false,.bool false]] w fun e w'=>e=.returned (.tuple #[])/\Sv w' SB la ll lc I M M2 false true false true/\zD (fun b=>b=SB) w w':=by
  obtain⟨w1,hw1⟩:∃ q,q=((w.alloc (.cells #[.int .i64 5,.string (B []),.int .i64 1,.slice es 0 ec] 29)).alloc (.cells #[.int .i64 0,.bool false,.bool false] 189)).alloc (.cells #[.int .i64 0,.bool false,.bool false] 189):=⟨_,rfl⟩;have hU1:zD zC w w1:=by rw[hw1];exact(((zD.refl zC w).alloc _).alloc _).alloc _
  have ht1:zG w1 w.heap.size (.int .i64 5) (.string (B [])) (.int .i64 1) (.slice es 0 ec) 29:=by rw[hw1];exact((zG.zJ rfl).kept ((zD.refl zC _).alloc _)).kept ((zD.refl zC _).alloc _)
  have hp1:xB w1 (w.heap.size+1) #[.int .i64 0,.bool false,.bool false] 189:=by rw[hw1];exact(xB.zJ (by simp)).kept ((zD.refl zC _).alloc _)
  have hB1:=hB.kept hU1;have hS1:=Seen.kept hS (yO hU1) (by simp);have MI:=zEQ SB M M2 la ll lc I false false false false w1 hB1 hS1;have HW1:=zF hw1;obtain⟨t0,t1,t2,t3⟩:=ht1.cells;have p0:=hp1.cell 0;have p1:=hp1.cell 1;have p2:=hp1.cell 2;have s4:=hB1.cell 4;have s6:=hB1.cell 6;have f4:=hB1.frozen 4;have f6:=hB1.frozen 6;have hlt:=hB1.lt;have hlt0:=hB.lt;have hpl:=hp1.lt;simp at p0 p1 p2 s4 s6;have hne:¬w.heap.size=SB:=by omega
  have hne1:¬w.heap.size+1=SB:=by omega
  have hU9:zD (fun b=>b=SB) w ((w1.setCell ⟨SB,4,none⟩ (.bool true)).setCell ⟨SB,6,none⟩ (.bool true)):=(hU1.mono (fun _ _ e=>e.elim)).trans (zD.set (zD.set (zD.refl _ _) 4 _) 6 _) (fun _ _ e=>e);have hB9:=(hB1.set 4 (.bool true)).set 6 (.bool true);have t3':=((zD.set (zD.set (zD.refl (fun b=>b=SB) w1) 4 (.bool true)) 6 (.bool true)).cell t3 hne);have HF:=zF (And.intro hB9 hU9);clear hw1 hB9 hU9 hB hS hB1 hS1;go_enter Tryz.func181,Tryz.ntmps181
  go_upto_region 2 with fail
  rw[<-HW1.out];go_wp2_with fail
  (with_reducible refine MI.mono ?_);rintro e w2 ⟨rfl,rfl⟩;go_wp2_with fail
  go_loopw [62] (fun v wr=>v=.int .i64 0/\wr=(w2.setCell ⟨SB,4,none⟩ (.bool true)).setCell ⟨SB,6,none⟩ (.bool true)) (fun _ _=>0)
  case atStart=>exact⟨rfl,rfl⟩
  case round=>
    obtain⟨rfl,rfl⟩:=hrel;go_wp2_with fail
    go_end0
    exact⟨rfl,by simpa using HF.out.1,HF.out.2⟩
theorem zGB(SB M M2:Nat)(la:Option Addr)(ll lc:Nat)(I:Int)(w:World)(hB:Sv w SB la ll lc I M M2 false false false false)(hS:Seen w M [.int .i64 0])(cs:List Value)(h:zK zC w tS1.zM cs):
    Calls Tryz.prog 181 #[.pointer (some ⟨SB,0,none⟩),.agg cs.toArray,.agg #[.int .i64 0,.bool false,.bool false]] w fun e w'=>e=.returned (.tuple #[])/\Sv w' SB la ll lc I M M2 false true false true/\zD (fun b=>b=SB) w w':=by
  obtain⟨a,cap,rfl,hcap,hE⟩:=zd.1 h;obtain⟨eb,eo,ek,en,ex,es,ec,rfl,hebl,_,p0,p1,p2,p3,hRp⟩:=zk hE 0 (by simp);obtain⟨a5,c5,e5,-,-⟩:=zd.1 (show zK zC w (Tm.mk 5 [] 1 []).zM [.int .i64 ek,.string (B en),.int .i64 ex,.slice es 0 ec]from hRp);simp only[List.cons.injEq,Value.int.injEq,Value.string.injEq,Value.slice.injEq,true_and,and_true]at e5;obtain⟨rfl,hen,rfl,-,-⟩:=e5;rw[hen]at p1;have hl0:[tV1][0].args.length=0:=rfl;rw[hl0]at p3;clear hRp hE h hen hl0;obtain⟨w1,hw1⟩:∃ q,q=((w.alloc (.cells #[.int .i64 4,.string (B [115]),.int .i64 0,.slice (some ⟨eb,eo,none⟩) 1 cap] 29)).alloc (.cells #[.int .i64 0,.bool false,.bool false] 189)).alloc (.cells #[.int .i64 0,.bool false,.bool false] 189):=⟨_,rfl⟩;have hU1:zD zC w w1:=by rw[hw1];exact(((zD.refl zC w).alloc _).alloc _).alloc _
  have ht1:zG w1 w.heap.size (.int .i64 4) (.string (B [115])) (.int .i64 0) (.slice (some ⟨eb,eo,none⟩) 1 cap) 29:=by rw[hw1];exact((zG.zJ rfl).kept ((zD.refl zC _).alloc _)).kept ((zD.refl zC _).alloc _)
  have hp1:xB w1 (w.heap.size+1+1) #[.int .i64 0,.bool false,.bool false] 189:=by rw[hw1];exact xB.zJ (by simp)
  have hB1:=hB.kept hU1;have hS1:=Seen.kept hS (yO hU1) (by simp);have hSB:=hB.lt;have HW1:=zF hw1;have HCP:=zF hcap;obtain⟨t0,t1,t2,t3⟩:=ht1.cells;have l0:=hp1.cell 0;have l1:=hp1.cell 1;have l2:=hp1.cell 2;simp at l0 l1 l2;simp only[Nat.zero_mul,Nat.add_zero]at p0 p1 p2 p3;have q0:=hU1.cell p0 (fun x=>x);have q1:=hU1.cell p1 (fun x=>x);have q2:=hU1.cell p2 (fun x=>x);have q3:=hU1.cell p3 (fun x=>x);have hpl:=hp1.lt;obtain⟨w2,hw2⟩:∃ q,q=(w1.alloc (.cells #[.int .i64 5,.string (B []),.int .i64 1,.slice es 0 ec] 29)).alloc (.cells #[.int .i64 0,.bool false,.bool false] 189):=⟨_,rfl⟩;have hU2:zD zC w1 w2:=by rw[hw2];exact((zD.refl zC _).alloc _).alloc _
  have HW2:=zF hw2;have WV:=zGF es ec SB M M2 la ll lc I w2 (hB1.kept hU2) (Seen.kept hS1 (yO hU2) (by simp));have ht2:=ht1.kept hU2;have hz1:=hU1.size;have hp2:xB w2 (w1.heap.size+1) #[.int .i64 0,.bool false,.bool false] 189:=by rw[hw2];exact xB.zJ (by simp)
  have hb2:zG w2 w1.heap.size (.int .i64 5) (.string (B [])) (.int .i64 1) (.slice es 0 ec) 29:=by rw[hw2];exact(zG.zJ rfl).kept ((zD.refl zC _).alloc _)
  obtain⟨X,hX⟩:∃ q,q=w1.heap.size:=⟨_,rfl⟩;have HX:=zF hX;rw[<-hX]at hp2 hb2 hz1;obtain⟨x0,x1,x2,x3⟩:=ht2.cells;obtain⟨y0,y1,y2,y3⟩:=hb2.cells;have z0:=hp2.cell 0;have z1:=hp2.cell 1;have z2:=hp2.cell 2;simp at z0 z1 z2;have hUw2:=hU1.and hU2;have hne:¬w.heap.size=SB:=by omega
  clear hw1 hw2 hX hp1 hp2 hb2 hB hS hB1 hS1 p0 p1 p2 p3 hU1;go_enter Tryz.func181,Tryz.ntmps181
  go_upto_region 2 with fail
  rw[<-HW1.out];go_wp2_with fail
  go_loopw [62] (fun v wr=>(v=.int .i64 0/\wr=w1)\/(v=.int .i64 1/\Sv wr SB la ll lc I M M2 false true false true/\zD (fun b=>b=SB) w wr)) (fun v _=>1 - (intOf v).toNat)
  case atStart=>exact .inl ⟨rfl,rfl⟩
  case round=>
    rcases hrel with⟨rfl,rfl⟩|⟨rfl,hSv,hUr⟩
    ·go_upto_region 16 with fail
     rw[<-HX.out,<-HW2.out];clear t0 t1 t2 t3 l0 l1 l2 q0 q1 q2 q3;go_wp2_with fail
     (with_reducible refine WV.mono ?_);rintro e w3 ⟨rfl,hSv3,hU3⟩;go_wp2_with fail
     go_roundw
     case rel=>exact .inr ⟨by go_num,hSv3,(hUw2.mono (fun _ _ e=>e.elim)).trans hU3 (fun _ _ e=>e)⟩
     case measure=>simp[intOf]
    ·have HS:=zF (And.intro hSv hUr);clear hSv hUr;go_wp2_with fail
     go_end0
     exact⟨rfl,HS.out⟩
end
section
open Go.RowKit Go.LF
theorem zFK(t:Tm)(bb:Bool)(hwf:t.wf=0)(hwt:t.wt<=1000000)(I:Int)(la:Option Addr)(ll lc:Nat)(va:Option Addr)(vc:Nat)(w:World)(cs:List Value)(hV:zH zC w 1 ([0].map (yP.int .i64)) va 0)(h:zK zC w t.zM cs)
    (WK:∀ SB M M2 W,Sv W SB la ll lc I M M2 false false false false->Seen W M [.int .i64 0]->zD zC w W->Calls Tryz.prog 181 #[.pointer (some ⟨SB,0,none⟩),.agg cs.toArray,.agg #[.int .i64 0,.bool false,.bool false]] W fun e W'=>e=.returned (.tuple #[])/\Sv W' SB la ll lc I M M2 false bb false bb/\zD (fun b=>b=SB) W W'):
    Calls Tryz.prog 153 #[.slice la ll lc,.int .i64 I,.slice va 1 vc,.agg cs.toArray] w fun e w'=>∃ SB M M2,e=.returned (.pointer (some ⟨SB,0,none⟩))/\Sv w' SB la ll lc I M M2 false bb false bb/\xF w' M2 []/\zD zC w w':=by
  obtain⟨k,nm,i,ts,a,cap,ht,rfl,_,_⟩:=zU h;generalize ts.length=len at *
  have hmm:=@run_makeMap Tryz.prog;obtain⟨w1,hw1⟩:∃ q,q=(((w.alloc (.cells #[.int .i64 k,.string (B nm),.int .i64 i,.slice a len cap] 29)).alloc (.map #[] 0)).alloc (.map #[] 0)).alloc (.cells #[.slice la ll lc,.int .i64 I,.map (some (w.heap.size+1)),.bool false,.bool false,.bool false,.bool false,.map (some (w.heap.size+1+1))] 165):=⟨_,rfl⟩;have hU1:zD zC w w1:=by rw[hw1];exact((((zD.refl zC w).alloc _).alloc _).alloc _).alloc _
  have ht1:zG w1 w.heap.size (.int .i64 k) (.string (B nm)) (.int .i64 i) (.slice a len cap) 29:=by rw[hw1];exact(((zG.zJ rfl).kept ((zD.refl zC _).alloc _)).kept ((zD.refl zC _).alloc _)).kept ((zD.refl zC _).alloc _)
  have hS1:Seen w1 (w.heap.size+1) []:=by
    rw[hw1];have h0:=Seen.made (w.alloc (.cells #[.int .i64 k,.string (B nm),.int .i64 i,.slice a len cap] 29));rw[World.size_alloc]at h0;exact Seen.kept (Seen.kept h0 (yO ((zD.refl zC _).alloc _)) (by simp)) (yO ((zD.refl zC _).alloc _)) (by simp)
  have hM1:xF w1 (w.heap.size+1+1) []:=by
    rw[hw1];have h0:=xF.made ((w.alloc (.cells #[.int .i64 k,.string (B nm),.int .i64 i,.slice a len cap] 29)).alloc (.map #[] 0));rw[World.size_alloc,World.size_alloc]at h0;exact h0.on ((zD.refl zC _).alloc _) (fun x=>x)
  have hB1:Sv w1 (w.heap.size+1+1+1) la ll lc I (w.heap.size+1) (w.heap.size+1+1) false false false false:=by rw[hw1];exact xB.zJ (by simp)
  have WF:=fun(W:World)(hU:zD zC w1 W)=>zj t hwt W _ ((h.on hU1).on hU)
  rw[hwf]at WF;obtain⟨M,hM⟩:∃ q,q=w.heap.size+1:=⟨_,rfl⟩;obtain⟨M2,hM2⟩:∃ q,q=w.heap.size+1+1:=⟨_,rfl⟩;obtain⟨SB,hSB⟩:∃ q,q=w.heap.size+1+1+1:=⟨_,rfl⟩;rw[<-hSB,<-hM2,<-hM]at hB1;rw[<-hM]at hS1;rw[<-hM2]at hM1;have HW1:=zF hw1;have HMM:=zF (And.intro hM (And.intro hM2 hSB));obtain⟨b,o,rfl,hbl,_,hc⟩:=yJ (hV.on hU1) 0 (by simp);have hc':w1.cell? ⟨b,o,none⟩=some (.int .i64 0):=by simpa using hc
  obtain⟨w2,hup,hS2,g2,hz2⟩:=hS1.store (P:=Tryz.prog) (mt:=162) (kt:=3) (bt:=4) (key:=.int .i64 0) (by kernel_rfl) (by kernel_rfl) (xY []) rfl (by simp);have hU2:=Zz g2;have hU2n:zD zC w w2:=hU1.trans hU2 (fun b hb e=>by omega);have hB2:=hB1.zE hU2 (by omega);have hM2':=hM1.on hU2 (by omega);have ht2:=ht1.zE hU2 (by omega);simp only[List.nil_append]at hS2;have WK2:=fun(W:World)(hU:zD zC w2 W)=>WK SB M M2 W (hB2.kept hU) (Seen.kept hS2 (yO hU) (by simp)) (hU2n.and hU)
  have WF2:=zj t hwt w2 _ (h.on hU2n);rw[hwf]at WF2;have c2:=hB1.cell 2;simp at c2;have HF:=zF (And.intro hU2n (And.intro hM2' (And.intro hM hSB)));have hsz1:=hU1.size;clear hw1 hM hM2 hSB WK WF hV h hS1 hM1 hS2 g2 hc ht;go_enter Tryz.func153,Tryz.ntmps153
  go_upto_region 2 with fail
  rw[<-HW1.out,<-HMM.out.2.2,<-HMM.out.2.1,<-HMM.out.1];clear hmm;go_wp2_with fail
  go_loopw [20] (fun v wr=>(v=.int .i64 0/\wr=w1)\/(v=.int .i64 1/\wr=w2)) (fun v _=>1 - (intOf v).toNat)
  case atStart=>exact .inl ⟨rfl,rfl⟩
  case round=>
    rcases hrel with⟨rfl,rfl⟩|⟨rfl,rfl⟩
    ·go_wp2_with fail
     go_roundw
     case rel=>exact .inr ⟨by go_num,by first |rfl |trivial⟩
     case measure=>simp[intOf]
    ·obtain⟨x0,x1,x2,x3⟩:=ht2.cells;clear c2 hup;go_wp2_with fail
     (with_reducible refine WF2.mono ?_);rintro e w3 ⟨rfl,hU3⟩;have ht3:=ht2.kept hU3;have WK3:=WK2 w3 hU3;clear x0 x1 x2 x3 WF2 WK2;obtain⟨x0,x1,x2,x3⟩:=ht3.cells;go_wp2_with fail
     (with_reducible refine WK3.mono ?_);rintro e w4 ⟨rfl,hSv,hU4⟩;go_wp2_with fail
     go_ret
     exact⟨SB,M,M2,rfl,hSv,(HF.out.2.1.on hU3 (fun x=>x)).on hU4 (by have:=HMM.out;omega),(HF.out.1.and hU3).trans hU4 (fun b hb e=>by have:=HMM.out;omega)⟩
theorem zDz:tS1.wf=0/\tS1.wt<=1000000/\yz.wf=0/\yz.wt<=1000000:=by decide+kernel
theorem zDb(m:Mv)(hv:m.value=[])(la:Option Addr)(lc:Nat)(va:Option Addr)(vc:Nat)(w:World)(cs:List Value)(hL:zH zC w 6 ([m].map Mv.zM) la 0)(hV:zH zC w 1 ([0].map (yP.int .i64)) va 0)(h:zK zC w tS1.zM cs):
    Calls Tryz.prog 98 #[.slice la 1 lc,.int .i64 0,.slice va 1 vc,.agg cs.toArray] w fun e w'=>e=.returned (.int .i64 1)/\zD zC w w':=by
  have hcs:=h;obtain⟨a,cap,rfl,hcap,hE⟩:=zd.1 hcs;obtain⟨w1,hw1⟩:∃ q,q=w.alloc (.cells #[.int .i64 4,.string (B [115]),.int .i64 0,.slice a [tV1].length cap] 29):=⟨_,rfl⟩;have hU1:zD zC w w1:=by rw[hw1];exact(zD.refl zC w).alloc _
  have ht1:zG w1 w.heap.size (.int .i64 4) (.string (B [115])) (.int .i64 0) (.slice a [tV1].length cap) 29:=by rw[hw1];exact zG.zJ rfl
  have DI:=Xt [0] (by simp) w1 va vc (hV.on hU1);rw[show dst [] [0]=true from rfl,show [(0:Int)].length=1 from rfl]at DI;have LK:=fun(W:World)(hU:zD zC w1 W)=>zFK tS1 true zDz.1 zDz.2.1 0 la 1 lc va vc W _ ((hV.on hU1).on hU) ((h.on hU1).on hU) (fun SB M M2 W' hB hS hU'=>zGB SB M M2 la 1 lc 0 W' hB hS _ (((h.on hU1).on hU).on hU'))
  obtain⟨mb,mo,mk,mn,mi,maa,mcap,mva,mvc,rfl,hmb,_,⟨d0,d1,d2,d3,d4,d5⟩,_,_,_⟩:=qK (l:=[m]) (hL.on hU1) 0 (by simp);simp only[List.getElem_cons_zero,hv,List.length_nil,Nat.zero_mul,Nat.add_zero]at d5;have hl1:[tV1].length=1:=rfl;rw[hl1]at ht1 hw1 LK;rw[hl1];have HW1:=zF hw1;clear hw1 h hL hV hE hcs hcap d0 d1 d2 d3 d4;obtain⟨x0,x1,x2,x3⟩:=ht1.cells;go_enter Tryz.func98,Tryz.ntmps98
  go_upto_region 1 with fail
  rw[<-HW1.out];go_wp2_with fail
  (with_reducible refine DI.mono ?_);rintro e w2 ⟨rfl,hU2⟩;have ht2:=ht1.kept hU2;have e5:=hU2.cell d5 (fun x=>x);have LK2:=LK w2 hU2;clear DI LK x0 x1 x2 x3 d5;obtain⟨x0,x1,x2,x3⟩:=ht2.cells;go_wp2_with fail
  (with_reducible refine LK2.mono ?_);rintro e w3 ⟨SB,M,M2,rfl,hSv,hM,hU3⟩;have b3:=hSv.cell 3;have b4:=hSv.cell 4;simp at b3 b4;clear x0 x1 x2 x3 e5 LK2;go_wp2_with fail
  go_ret
  exact⟨rfl,(hU1.and hU2).and hU3⟩
theorem zGM(m:Mv)(hm:Mv.ok m)(la:Option Addr)(lc:Nat)(va:Option Addr)(vc:Nat)(w:World)(cs:List Value)(hL:zH zC w 6 ([m].map Mv.zM) la 0)(hV:zH zC w 1 ([0].map (yP.int .i64)) va 0)(h:zK zC w yz.zM cs):
    Calls Tryz.prog 99 #[.slice la 1 lc,.slice va 1 vc,.agg cs.toArray] w fun e w'=>(∃ oa oc,e=.returned (.tuple #[.slice oa 1 oc,.bool true,.int .i64 0]))/\zD zC w w':=by
  have hcs:=h;obtain⟨a,cap,rfl,hcap,hE⟩:=zd.1 hcs;obtain⟨w1,hw1⟩:∃ q,q=w.alloc (.cells #[.int .i64 4,.string (B [110,97,116]),.int .i64 0,.slice a 0 cap] 29):=⟨_,rfl⟩;have hU1:zD zC w w1:=by rw[hw1];exact(zD.refl zC w).alloc _
  have ht1:zG w1 w.heap.size (.int .i64 4) (.string (B [110,97,116])) (.int .i64 0) (.slice a 0 cap) 29:=by rw[hw1];exact zG.zJ rfl
  have LK:=zFK yz false zDz.2.2.1 zDz.2.2.2 (-1) la 1 lc va vc w1 _ (hV.on hU1) (h.on hU1) (fun SB M M2 W' hB hS hU'=>(zEX SB a cap W').mono fun e W'' h=>⟨h.1,hB.kept h.2,h.2.mono (fun _ _ e=>e.elim)⟩);have DS:=fun(W:World)(hU:zD zC w1 W)=>YF [m] (by simp) (fun x hx=>by rw[List.mem_singleton.1 hx];exact hm) W la lc ((hL.on hU1).on hU)
  have hl1:([]:List Tm).length=0:=rfl;rw[hl1]at LK;have HW1:=zF hw1;clear hw1 h hL hV hE hcs hcap;obtain⟨x0,x1,x2,x3⟩:=ht1.cells;go_enter Tryz.func99,Tryz.ntmps99
  go_upto_region 1 with fail
  rw[<-HW1.out];go_wp2_with fail
  (with_reducible refine LK.mono ?_);rintro e w2 ⟨SB,M,M2,rfl,hSv,hM,hU2⟩;have DS2:=DS w2 hU2;rw[show [m].length=1 from rfl]at DS2;have b7:=hSv.cell 7;simp at b7;clear LK DS x0 x1 x2 x3;go_wp2_with fail
  (with_reducible refine DS2.mono ?_);rintro e w3 ⟨v3,css3,rfl,hD3,hU3⟩;obtain⟨oa,oc,rfl,hoc,-⟩:=hD3.rep (fun _ e=>e);have hM3:=hM.on hU3 (fun x=>x);have hlk:=hM3.none (P:=Tryz.prog) (mt:=163) (kt:=3) (vt:=122) (key:=.int .i64 0) (d:=.int .i64) (z:=.slice none 0 0) (by kernel_rfl) (by kernel_rfl) (by kernel_rfl) (fun x hx=>by cases hx) rfl (fun x hx=>by cases hx) true;have hUf:=(hU1.and hU2).and hU3;have hl1:(List.map Mv.zM [m]).length=1:=rfl;rw[hl1];clear DS2 b7 hD3 hM hM3 hU3 hU2;go_wp2_with fail
  go_loopw [10,31] (fun v10 v wr=>v10=.slice oa 1 oc/\(v=.int .i64 0\/v=.int .i64 1)/\wr=w3) (fun _ v _=>1 - (intOf v).toNat)
  case atStart=>exact⟨rfl,.inl rfl,rfl⟩
  case round=>
    obtain⟨rfl,hv,rfl⟩:=hrel;rcases hv with rfl |rfl
    ·go_wp2_with fail
     go_roundw
     case rel=>exact⟨by first |rfl |trivial,.inr (by go_num),by first |rfl |trivial⟩
     case measure=>simp[intOf]
    ·go_wp2_with fail
     refine bodyPost_ret (v:=.tuple #[.slice oa 1 oc,.bool true,.int .i64 0]) (by simp[results,Tryz.f99,go_sem]) rfl ?_;exact⟨⟨oa,oc,rfl⟩,hUf⟩
end
end Go.Proofs.YthgmimncdjhgnaaGreatDoor
