/- AR SL 19's Tp M6. -/
import Derived.Test.YthgmimncdjhgnaaGreatDoorXFD
import Derived.Test.YthgmimncdjhgnaaGreatDoorXFT
import Derived.Test.YthgmimncdjhgnaaGreatDoorXFU
set_option maxRecDepth 100000
set_option maxHeartbeats 8000000
namespace Go.LF
open Tm Go.Proofs.YthgmimncdjhgnaaGreatDoor
abbrev Kb:Tm:=.mk 4 [110,97,116] 0 []
abbrev dA:Tm:=.mk 4 [118,101,99] 0 [.mk 6 [] 0 []]
abbrev dX:Tm:=.mk 6 [] 0 []
abbrev dB:Tm:=.mk 2 [78] 0 [Kb,.mk 4 [118,101,99] 0 [.mk 5 [] 0 []]]
abbrev dC:Tm:=.mk 3 [78] 0 [.mk 5 [] 0 []]
abbrev dL:List Mv:=[⟨[78],Kb,[]⟩]
theorem PJ:iP dL dA [dX]=0:=by decide+kernel
theorem ahP:kC dL [dA,dX]=[dB,dC]:=by rfl
theorem ahx:(fk dL [dA,dX]).length=1:=by decide+kernel
theorem WV:nV [] dB 1=0:=by decide+kernel
theorem ag5:uM [] dB 1=dA:=by unfold uM;rw[if_pos WV];rfl
theorem ah9:jj [] dB 1=dL:=by unfold jj;rw[if_pos WV];rfl
end Go.LF
namespace Go.Proofs.YthgmimncdjhgnaaGreatDoor
open Go.RowKit Go.LF
theorem ahE:kU [] [78] Kb=dL:=by
  unfold kU;exact if_neg (by show ¬dq 0 [78] Kb≠0;decide+kernel)
theorem afQ:lf dL:=by
  have h1:=jn.nil.new (name:=[78]) (a:=Kb) (by simp) (by decide);rw[ahE]at h1;exact h1.R5
theorem afg:eD dL:=fun m hm=>by
  obtain rfl:=List.mem_singleton.1 hm;exact⟨by rw[Tm.cz];exact⟨by decide,Tm.iO⟩,fun v hv=>by cases hv⟩
theorem ahV:∀ t∈dA :: [dX],t.wt<=1000000/\(t.wf=0->(∀ i∈Tm.ay t,i<((dL.length:Nat):Int))->Kn ((dL.length:Nat):Int) t):=fun t ht=>by
  simp only[List.mem_cons,List.not_mem_nil,or_false]at ht;rcases ht with rfl |rfl
  ·exact⟨by decide+kernel,fun h hm=>vT _ h (by decide+kernel) hm⟩
  exact⟨by decide+kernel,fun h hm=>vT _ h (by decide+kernel) hm⟩
theorem VW:dB.wt<=290000/\dA.size<=1000000/\dA.same dA=true:=by decide+kernel
theorem Wm:lC dL dA [dX]=dB/\jL dL dA [dX]=[dC]/\tH dL dA [dX]=1:=by
  unfold lC jL tH;rw[if_pos PJ,if_pos PJ,if_pos PJ,ahP,ahx];exact⟨rfl,rfl,rfl⟩
theorem Qu(w:World):Calls Tryz.prog 32 #[] w fun e w'=>e=.returned (.bool true)/\af ae w w':=by
  obtain⟨w4,eh⟩:∃ w4,w4=(((w.alloc (.cells #[.int .i64 4,.string (B [110,97,116]),.int .i64 0,.slice none 0 0] 29)).alloc (.cells #[.int .i64 6,.string (B []),.int .i64 0,.slice none 0 0] 29)).alloc (.cells #[.int .i64 4,.string (B [118,101,99]),.int .i64 0,.slice (some ⟨w.heap.size+1,0,none⟩) 1 1] 29)).alloc (.cells #[.string (B [78]),.int .i64 4,.string (B [110,97,116]),.int .i64 0,.slice none 0 0,.slice none 0 0] 96):=⟨_,rfl⟩;have bw:af ae w w4:=by rw[eh];exact((((af.refl ae w).alloc _).alloc _).alloc _).alloc _
  have C7:au w4 (w.heap.size+1) (.int .i64 6) (.string (B [])) (.int .i64 0) (.slice none 0 0) 29:=by rw[eh];exact((au.av (by simp)).kept ((af.refl ae _).alloc _)).kept ((af.refl ae _).alloc _)
  have Vn:au w4 (w.heap.size+1+1) (.int .i64 4) (.string (B [118,101,99])) (.int .i64 0) (.slice (some ⟨w.heap.size+1,0,none⟩) 1 1) 29:=by rw[eh];exact(au.av (by simp)).kept ((af.refl ae _).alloc _)
  have hm4:bC w4 (w.heap.size+1+1+1) (.string (B [78])) (.int .i64 4) (.string (B [110,97,116])) (.int .i64 0) (.slice none 0 0) (.slice none 0 0) 96:=by rw[eh];exact bC.av (by simp)
  have hA4:aw ae w4 dA.az _:=A1 (t:=dX) (bD 6 [] 0) (fun x=>x) C7 4 [118,101,99] 0;have hL4:ai ae w4 6 (dL.map Mv.az) (some ⟨w.heap.size+1+1+1,0,none⟩) 0:=(vZ (O:=ae) (base:=0) (u:=⟨[78],Kb,[]⟩) hm4 (jF.2 ⟨_,none,0,rfl,bD 4 [110,97,116] 0,Nat.le_refl _,by simp only[List.map_nil,ai]⟩)).1;have al5:=(af.refl ae w4).alloc (.cells #[.int .i64 6,.string (B []),.int .i64 0,.slice none 0 0] 29);have C1:=rp dL afQ afg (by decide) dA [dX] (by decide) ahV _ _ 1 _ (some ⟨w4.heap.size,0,none⟩) 1 (hL4.on al5) (hA4.on al5) (wJ (t:=dX) (bD 6 [] 0) (fun x=>x) (au.av rfl));rw[PJ,Wm.1,Wm.2.1,Wm.2.2]at C1;have C2:=fun(W:World)cs h=>E4 [] jn.nil.abS (by decide) dB VW.1 1 (by decide) (by decide) W none 0 cs (by simp only[List.map_nil,ai]) h
  rw[WV,ag5,ah9]at C2;have C3:=fun(W:World)cs ds h1 h2=>nG dA VW.2.1 dA W cs ds h1 h2
  rw[VW.2.2]at C3;simp only[List.length_cons,List.length_nil,Nat.zero_add]at C1 C2;have HW:=ak eh;clear eh hm4 hL4;go_enter Tryz.func32,Tryz.ntmps32;go_upto_region 4 with fail;rw[<-show B []={ data:=#[] }from rfl,<-show B [110,97,116]={ data:=#[110,97,116] }from rfl,<-show B [118,101,99]={ data:=#[118,101,99] }from rfl,<-show B [78]={ data:=#[78] }from rfl,<-HW.out];obtain⟨b0,b1,b2,b3⟩:=Vn.cells;go_wp2_with fail
  (with_reducible refine C1.mono ?_);rintro e w6 ⟨kk,i6,n6,a6,amJ,Yr,Vg,Ww,rfl,_,aeB,aem,bj⟩;have Sb:=aw.weaken (O':=ae) (fun _ _ e=>e.elim) _ _ aeB;have yB:=ai.weaken (O':=ae) (fun _ _ e=>e.elim) _ _ _ _ aem;have T9:=al5.and bj;have Wu:=bw.and T9;have hv6:=Vn.kept T9;have hA6:=hA4.on T9;obtain⟨a7,c7,e7,_,Qd⟩:=bg.1 Sb;simp only[List.cons.injEq,Value.int.injEq,Value.string.injEq,Value.slice.injEq,true_and,and_true]at e7;obtain⟨rfl,hn6,rfl,rfl,rfl,rfl⟩:=e7;obtain⟨eb,eo,k8,n8,x8,s8,c8,he8,_,_,p0,p1,p2,p3,p8⟩:=aY Qd 1 (by simp);obtain⟨a9,c9,e9,_,Gv⟩:=bg.1 p8;simp only[List.cons.injEq,Value.int.injEq,Value.string.injEq,Value.slice.injEq,true_and,and_true]at e9;obtain⟨rfl,hn8,rfl,rfl,-⟩:=e9;obtain⟨fb,fo,Pm,TN,x10,s10,Xa,afp,_,_,q0,q1,q2,q3,sw⟩:=aY Gv 0 (by simp);obtain⟨EN,c11,RX,_,aiJ⟩:=bg.1 sw;simp only[List.cons.injEq,Value.int.injEq,Value.string.injEq,Value.slice.injEq,true_and,and_true]at RX;obtain⟨rfl,-⟩:=RX;obtain⟨gb,go,k12,n12,x12,s12,c12,ahq,_,_,r0,r1,r2,r3,Lz⟩:=aY yB 0 (by simp);obtain⟨a13,c13,e13,_,_⟩:=bg.1 Lz;simp only[List.cons.injEq,Value.int.injEq,Value.string.injEq,Value.slice.injEq,true_and,and_true]at e13;obtain⟨rfl,-⟩:=e13;have u3:w6.cell? ⟨eb,eo+4+3,none⟩=some (.slice s8 1 c8):=p3;have v0:w6.cell? ⟨fb,fo,none⟩=some (.int .i64 5):=by simpa using q0
  have z0:w6.cell? ⟨gb,go,none⟩=some (.int .i64 3):=by simpa using r0
  obtain rfl:=he8;obtain rfl:=afp;obtain rfl:=ahq;clear p0 p1 p2 p3 q0 q1 q2 q3 r0 r1 r2 r3 p8 sw Lz Gv aiJ Qd yB C1 b0 b1 b2 b3 C7 Vn hA4 al5;simp only[List.length_cons,List.length_nil,Nat.zero_add,Nat.reduceAdd];simp only[List.length_cons,List.length_nil,Nat.zero_add,Nat.reduceAdd]at Sb;rw[hn6];rw[hn6]at Sb;obtain⟨w7,rJ⟩:∃ w7,w7=w6.alloc (.cells #[.int .i64 2,.string (B [78]),.int .i64 0,.slice (some ⟨eb,eo,none⟩) 2 Yr] 29):=⟨_,rfl⟩;have al7:af ae w6 w7:=by rw[rJ];exact(af.refl ae w6).alloc _
  have Jz:au w7 w6.heap.size (.int .i64 2) (.string (B [78])) (.int .i64 0) (.slice (some ⟨eb,eo,none⟩) 2 Yr) 29:=by rw[rJ];exact au.av rfl
  have KI:=ak rJ;clear rJ;go_upto_region 5 with fail;rw[<-KI.out];obtain⟨b0,b1,b2,b3⟩:=Jz.cells;go_wp2_with fail
  (with_reducible refine(C2 w7 _ (Sb.on al7)).mono ?_);rintro e w8 ⟨va8,vc8,k9,i9,n9,a9,l9,c9,rfl,_,WZ,p8,cW⟩;have L1:=al7.and cW;simp only[List.length_cons,List.length_nil,Nat.zero_add];obtain⟨hb,ho,cs8,h81,_,_,_,h84,h85⟩:=WZ.get 0 (by simp);obtain⟨Pm,TN,i10,X7,ajd,amD,ami,rfl,_⟩:=gx h85;have y0:w8.cell? ⟨hb,ho,none⟩=some (.string (B [78])):=by simpa using h84 0 _ rfl
  obtain rfl:=h81;have Ul:=Jz.kept cW;clear h84 h85 WZ b0 b1 b2 b3 C2;obtain⟨w9,bf⟩:∃ w9,w9=w8.alloc (.cells #[.int .i64 k9,.string (B n9),.int .i64 i9,.slice a9 l9 c9] 29):=⟨_,rfl⟩;have Hk:af ae w8 w9:=by rw[bf];exact(af.refl ae w8).alloc _
  have Xh:au w9 w8.heap.size (.int .i64 k9) (.string (B n9)) (.int .i64 i9) (.slice a9 l9 c9) 29:=by rw[bf];exact au.av rfl
  have Iu:=L1.and Hk;have C4:=C3 w9 _ _ (p8.on Hk) (hA6.on Iu);have Zx:=ak bf;clear bf C3;have u3':=Iu.cell u3 (fun x=>x);have v0':=Iu.cell v0 (fun x=>x);have z0':=Iu.cell z0 (fun x=>x);have MO:=Hk.cell y0 (fun x=>x);have QD:=Wu.and Iu;obtain⟨b0,b1,b2,b3⟩:=(Ul.kept Hk).cells;obtain⟨d0,d1,d2,d3⟩:=(hv6.kept Iu).cells;obtain⟨f0,f1,f2,f3⟩:=Xh.cells;clear u3 v0 z0 y0;go_upto_region 6 with fail;rw[<-Zx.out];go_upto_region 7 with fail;go_wp2_with fail
  (with_reducible refine C4.mono ?_);rintro e kB ⟨rfl,gZ⟩;go_wp2_with fail;go_ret;exact⟨rfl,QD.and gZ⟩
end Go.Proofs.YthgmimncdjhgnaaGreatDoor
