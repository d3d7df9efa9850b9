/- What layer 19's awake computes. -/
import Derived.Test.YthgmimncdjhgnaaGreatDoorVCG
import Derived.Test.YthgmimncdjhgnaaGreatDoorVFD
import Derived.Test.YthgmimncdjhgnaaGreatDoorVCH
import Derived.Test.YthgmimncdjhgnaaGreatDoorVFC
import Derived.Test.YthgmimncdjhgnaaGreatDoorVFJ
import Derived.Test.YthgmimncdjhgnaaGreatDoorVSE
import Derived.Test.YthgmimncdjhgnaaGreatDoorVFL
import Derived.Test.YthgmimncdjhgnaaGreatDoorVFS
import Derived.Test.YthgmimncdjhgnaaGreatDoorVFT
import Derived.Test.YthgmimncdjhgnaaGreatDoorVFU
import Derived.Deep.RegionHeld3
set_option maxRecDepth 100000
set_option maxHeartbeats 8000000
namespace Go.LF
open Tm Go.Proofs.YthgmimncdjhgnaaGreatDoor
abbrev zG8:Tm:=.mk 4 [110,97,116] 0 []
abbrev dA:Tm:=.mk 4 [118,101,99] 0 [.mk 6 [] 0 []]
abbrev dX:Tm:=.mk 6 [] 0 []
abbrev dB:Tm:=.mk 2 [78] 0 [zG8,.mk 4 [118,101,99] 0 [.mk 5 [] 0 []]]
abbrev dC:Tm:=.mk 3 [78] 0 [.mk 5 [] 0 []]
abbrev dL:List Mv:=[⟨[78],zG8,[]⟩]
theorem zI1:ZC dL dA [dX]=0:=by decide+kernel
theorem zLL:Zz dL [dA,dX]=[dB,dC]:=by rfl
theorem zLZ:(xE dL [dA,dX]).length=1:=by decide+kernel
theorem zJm:XC [] dB 1=0:=by decide+kernel
theorem zLM:zBO [] dB 1=dA:=by unfold zBO;rw[if_pos zJm];rfl
theorem zLW:Ze [] dB 1=dL:=by unfold Ze;rw[if_pos zJm];rfl
end Go.LF
namespace Go.Proofs.YthgmimncdjhgnaaGreatDoor
open Go.RowKit Go.LF
theorem zLJ:YJ [] [78] zG8=dL:=by
  unfold YJ;exact if_neg (by show ¬ya 0 [78] zG8≠0;decide+kernel)
theorem zLS:YK dL:=by
  have h1:=ZZ.nil.new (name:=[78]) (a:=zG8) (by simp) (by decide);rw[zLJ]at h1;exact h1.plz
theorem zLg:y8 dL:=fun m hm=>by
  obtain rfl:=List.mem_singleton.1 hm;exact⟨by rw[Tm.zy];exact⟨by decide,Tm.ZH⟩,fun v hv=>by cases hv⟩
theorem zLQ:∀ t∈dA :: [dX],t.wt<=1000000/\(t.wf=0->(∀ i∈Tm.zM t,i<((dL.length:Nat):Int))->Kn ((dL.length:Nat):Int) t):=fun t ht=>by
  simp only[List.mem_cons,List.not_mem_nil,or_false]at ht;rcases ht with rfl |rfl
  ·exact⟨by decide+kernel,fun h hm=>QD _ h (by decide+kernel) hm⟩
  ·exact⟨by decide+kernel,fun h hm=>QD _ h (by decide+kernel) hm⟩
theorem zKI:dB.wt<=290000/\dA.size<=1000000/\dA.same dA=true:=by decide+kernel
theorem zJ9:ZX dL dA [dX]=dB/\ZB dL dA [dX]=[dC]/\QZ dL dA [dX]=1:=by
  unfold ZX ZB QZ;rw[if_pos zI1,if_pos zI1,if_pos zI1,zLL,zLZ];exact⟨rfl,rfl,rfl⟩
theorem zFs(w:World):Calls Tryz.prog 32 #[] w fun e w'=>e=.returned (.bool true)/\zD zC w w':=by
  obtain⟨w4,hw4⟩:∃ w4,w4=(((w.alloc (.cells #[.int .i64 4,.string (B [110,97,116]),.int .i64 0,.slice none 0 0] 29)).alloc (.cells #[.int .i64 6,.string (B []),.int .i64 0,.slice none 0 0] 29)).alloc (.cells #[.int .i64 4,.string (B [118,101,99]),.int .i64 0,.slice (some ⟨w.heap.size+1,0,none⟩) 1 1] 29)).alloc (.cells #[.string (B [78]),.int .i64 4,.string (B [110,97,116]),.int .i64 0,.slice none 0 0,.slice none 0 0] 96):=⟨_,rfl⟩;have hU4:zD zC w w4:=by rw[hw4];exact((((zD.refl zC w).alloc _).alloc _).alloc _).alloc _
  have hx4:zK w4 (w.heap.size+1) (.int .i64 6) (.string (B [])) (.int .i64 0) (.slice none 0 0) 29:=by rw[hw4];exact((zK.zJ (by simp)).kept ((zD.refl zC _).alloc _)).kept ((zD.refl zC _).alloc _)
  have hv4:zK w4 (w.heap.size+1+1) (.int .i64 4) (.string (B [118,101,99])) (.int .i64 0) (.slice (some ⟨w.heap.size+1,0,none⟩) 1 1) 29:=by rw[hw4];exact(zK.zJ (by simp)).kept ((zD.refl zC _).alloc _)
  have hm4:zh w4 (w.heap.size+1+1+1) (.string (B [78])) (.int .i64 4) (.string (B [110,97,116])) (.int .i64 0) (.slice none 0 0) (.slice none 0 0) 96:=by rw[hw4];exact zh.zJ (by simp)
  have hA4:zL zC w4 dA.zN _:=zGI (t:=dX) (zj 6 [] 0) (fun x=>x) hx4 4 [118,101,99] 0;have hL4:zH zC w4 6 (dL.map Mv.zN) (some ⟨w.heap.size+1+1+1,0,none⟩) 0:=(zBI (O:=zC) (base:=0) (u:=⟨[78],zG8,[]⟩) hm4 (Z8.2 ⟨_,none,0,rfl,zj 4 [110,97,116] 0,Nat.le_refl _,by simp only[List.map_nil,zH]⟩)).1;have al5:=(zD.refl zC w4).alloc (.cells #[.int .i64 6,.string (B []),.int .i64 0,.slice none 0 0] 29);have C1:=Yj dL zLS zLg (by decide) dA [dX] (by decide) zLQ _ _ 1 _ (some ⟨w4.heap.size,0,none⟩) 1 (hL4.on al5) (hA4.on al5) (QM (t:=dX) (zj 6 [] 0) (fun x=>x) (zK.zJ rfl));rw[zI1,zJ9.1,zJ9.2.1,zJ9.2.2]at C1;have C2:=fun(W:World)cs h=>zFX [] ZZ.nil.zKz (by decide) dB zKI.1 1 (by decide) (by decide) W none 0 cs (by simp only[List.map_nil,zH]) h
  rw[zJm,zLM,zLW]at C2;have C3:=fun(W:World)cs ds h1 h2=>XT dA zKI.2.1 dA W cs ds h1 h2
  rw[zKI.2.2]at C3;simp only[List.length_cons,List.length_nil,Nat.zero_add]at C1 C2;have HW:=zG hw4;clear hw4 hm4 hL4;go_enter Tryz.func32,Tryz.ntmps32
  go_upto_region 4 with fail
  rw[<-show B []={ data:=#[] }from rfl,<-show B [110,97,116]={ data:=#[110,97,116] }from rfl,<-show B [118,101,99]={ data:=#[118,101,99] }from rfl,<-show B [78]={ data:=#[78] }from rfl,<-HW.out];obtain⟨b0,b1,b2,b3⟩:=hv4.cells;go_wp2_with fail
  (with_reducible refine C1.mono ?_);rintro e w6 ⟨kk,i6,n6,a6,len6,cap6,va6,vc6,rfl,_,hB6',hM6',hU6⟩;have hB6:=zL.weaken (O':=zC) (fun _ _ e=>e.elim) _ _ hB6';have hM6:=zH.weaken (O':=zC) (fun _ _ e=>e.elim) _ _ _ _ hM6';have hU46:=al5.and hU6;have hU06:=hU4.and hU46;have hv6:=hv4.kept hU46;have hA6:=hA4.on hU46;obtain⟨a7,c7,e7,_,hE7⟩:=zf.1 hB6;simp only[List.cons.injEq,Value.int.injEq,Value.string.injEq,Value.slice.injEq,true_and,and_true]at e7;obtain⟨rfl,hn6,rfl,rfl,rfl,rfl⟩:=e7;obtain⟨eb,eo,k8,n8,x8,s8,c8,he8,_,_,p0,p1,p2,p3,hR8⟩:=zc hE7 1 (by simp);obtain⟨a9,c9,e9,_,hE9⟩:=zf.1 hR8;simp only[List.cons.injEq,Value.int.injEq,Value.string.injEq,Value.slice.injEq,true_and,and_true]at e9;obtain⟨rfl,hn8,rfl,rfl,-⟩:=e9;obtain⟨fb,fo,k10,n10,x10,s10,c10,he10,_,_,q0,q1,q2,q3,hR10⟩:=zc hE9 0 (by simp);obtain⟨a11,c11,e11,_,hE11⟩:=zf.1 hR10;simp only[List.cons.injEq,Value.int.injEq,Value.string.injEq,Value.slice.injEq,true_and,and_true]at e11;obtain⟨rfl,-⟩:=e11;obtain⟨gb,go,k12,n12,x12,s12,c12,he12,_,_,r0,r1,r2,r3,hR12⟩:=zc hM6 0 (by simp);obtain⟨a13,c13,e13,_,_⟩:=zf.1 hR12;simp only[List.cons.injEq,Value.int.injEq,Value.string.injEq,Value.slice.injEq,true_and,and_true]at e13;obtain⟨rfl,-⟩:=e13;have u3:w6.cell? ⟨eb,eo+4+3,none⟩=some (.slice s8 1 c8):=p3;have v0:w6.cell? ⟨fb,fo,none⟩=some (.int .i64 5):=by simpa using q0
  have z0:w6.cell? ⟨gb,go,none⟩=some (.int .i64 3):=by simpa using r0
  obtain rfl:=he8;obtain rfl:=he10;obtain rfl:=he12;clear p0 p1 p2 p3 q0 q1 q2 q3 r0 r1 r2 r3 hR8 hR10 hR12 hE9 hE11 hE7 hM6 C1 b0 b1 b2 b3 hx4 hv4 hA4 al5;simp only[List.length_cons,List.length_nil,Nat.zero_add,Nat.reduceAdd];simp only[List.length_cons,List.length_nil,Nat.zero_add,Nat.reduceAdd]at hB6;rw[hn6];rw[hn6]at hB6;obtain⟨w7,hw7⟩:∃ w7,w7=w6.alloc (.cells #[.int .i64 2,.string (B [78]),.int .i64 0,.slice (some ⟨eb,eo,none⟩) 2 cap6] 29):=⟨_,rfl⟩;have al7:zD zC w6 w7:=by rw[hw7];exact(zD.refl zC w6).alloc _
  have hb7:zK w7 w6.heap.size (.int .i64 2) (.string (B [78])) (.int .i64 0) (.slice (some ⟨eb,eo,none⟩) 2 cap6) 29:=by rw[hw7];exact zK.zJ rfl
  have HW7:=zG hw7;clear hw7;go_upto_region 5 with fail
  rw[<-HW7.out];obtain⟨b0,b1,b2,b3⟩:=hb7.cells;go_wp2_with fail
  (with_reducible refine(C2 w7 _ (hB6.on al7)).mono ?_);rintro e w8 ⟨va8,vc8,k9,i9,n9,a9,l9,c9,rfl,_,hE8,hR8,hU8⟩;have hU68:=al7.and hU8;simp only[List.length_cons,List.length_nil,Nat.zero_add];obtain⟨hb,ho,cs8,h81,_,_,_,h84,h85⟩:=hE8.get 0 (by simp);obtain⟨k10,n10,i10,a10,cap10,va10,vc10,rfl,_⟩:=xh h85;have y0:w8.cell? ⟨hb,ho,none⟩=some (.string (B [78])):=by simpa using h84 0 _ rfl
  obtain rfl:=h81;have hb8:=hb7.kept hU8;clear h84 h85 hE8 b0 b1 b2 b3 C2;obtain⟨w9,hw9⟩:∃ w9,w9=w8.alloc (.cells #[.int .i64 k9,.string (B n9),.int .i64 i9,.slice a9 l9 c9] 29):=⟨_,rfl⟩;have al9:zD zC w8 w9:=by rw[hw9];exact(zD.refl zC w8).alloc _
  have hc9:zK w9 w8.heap.size (.int .i64 k9) (.string (B n9)) (.int .i64 i9) (.slice a9 l9 c9) 29:=by rw[hw9];exact zK.zJ rfl
  have hU69:=hU68.and al9;have C4:=C3 w9 _ _ (hR8.on al9) (hA6.on hU69);have HW9:=zG hw9;clear hw9 C3;have u3':=hU69.cell u3 (fun x=>x);have v0':=hU69.cell v0 (fun x=>x);have z0':=hU69.cell z0 (fun x=>x);have y0':=al9.cell y0 (fun x=>x);have hU09:=hU06.and hU69;obtain⟨b0,b1,b2,b3⟩:=(hb8.kept al9).cells;obtain⟨d0,d1,d2,d3⟩:=(hv6.kept hU69).cells;obtain⟨f0,f1,f2,f3⟩:=hc9.cells;clear u3 v0 z0 y0;go_upto_region 6 with fail
  rw[<-HW9.out];go_upto_region 7 with fail
  go_wp2_with fail
  (with_reducible refine C4.mono ?_);rintro e w10 ⟨rfl,hU10⟩;go_wp2_with fail
  go_ret
  exact⟨rfl,hU09.and hU10⟩
end Go.Proofs.YthgmimncdjhgnaaGreatDoor
