/- awake of layer 14. -/
import Derived.Test.YthgmimncdjhgnaaGreatDoorWFD
import Derived.Test.YthgmimncdjhgnaaGreatDoorWFS
import Derived.Test.YthgmimncdjhgnaaGreatDoorWPB
import Derived.Test.YthgmimncdjhgnaaGreatDoorWPE
set_option maxRecDepth 100000
set_option maxHeartbeats 16000000
namespace Go.Proofs.YthgmimncdjhgnaaGreatDoor
open Go.RowKit Go.LF
theorem zDA{w:World}{ib:Nat}{x y:Int}(h:w.cell? ⟨ib,0,none⟩=some (.int .i64 x))(h':w.cell? ⟨ib,1,none⟩=some (.int .i64 y))(hl:ib<w.heap.size):zH zC w 1 ([x,y].map (yP.int .i64)) (some ⟨ib,0,none⟩) 0:=by
  simp only[List.map_cons,List.map_nil,zH,and_true];refine⟨⟨ib,0,[.int .i64 x],rfl,hl,fun e=>e,rfl,fun m v hv=>?_,by simp[zK]⟩,⟨ib,0,[.int .i64 y],rfl,hl,fun e=>e,rfl,fun m v hv=>?_,by simp[zK]⟩⟩
  ·match m,hv with
   |0,hv=>simp at hv;subst hv;exact h
  ·match m,hv with
   |0,hv=>simp at hv;subst hv;exact h'
theorem zAa{w:World}{g:Nat}{u:Mv}{c0 c1 c2 c3 c4 c5:Value}{T:TypeId}(hB:zf w g c0 c1 c2 c3 c4 c5 T)(hR:zK zC w u.zM [c0,c1,c2,c3,c4,c5]):zH zC w 6 ([u].map Mv.zM) (some ⟨g,0,none⟩) 0:=
  (zF1 (O:=zC) (base:=w.heap.size) hB (zK.weaken (fun b hb e=>by rcases e with e |e;exact e;omega) _ _ hR)).1
abbrev tVr(i:Int):Tm:=.mk 5 [] i []
abbrev tC2:Tm:=.mk 4 [99] 0 [tVr 2]
theorem zIl:pvs [] [tVr 2,tVr 0]=some [2,0]/\pvs [] [tVr 2,tVr 2]=none/\(tVr 2).wt<=100/\(tVr 0).wt<=100/\xz [2,0] tC2=true/\tC2.wt<=1000:=by decide+kernel
theorem zIm:Xi [2,0] tC2=.mk 3 [] 0 [.mk 3 [] 0 [.mk 4 [99] 0 [tVr 1]]]:=by kernel_rfl
theorem zAO(i:Int)(w:World):Calls Tryz.prog 95 #[.int .i64 i] w fun e w'=>e=.returned (.agg #[.int .i64 5,.string (B []),.int .i64 i,.slice none 0 0])/\zD zC w w':=by
  go_enter Tryz.func95,Tryz.ntmps95
  obtain⟨w1,hw1⟩:∃ w1,w1=w.alloc (.cells #[.int .i64 5,.string (B []),.int .i64 i,.slice none 0 0] 29):=⟨_,rfl⟩;have hU1:zD zC w w1:=by rw[hw1];exact(zD.refl zC w).alloc _
  have hb1:zG w1 w.heap.size (.int .i64 5) (.string (B [])) (.int .i64 i) (.slice none 0 0) 29:=by rw[hw1];exact zG.zJ rfl
  have HW1:=zF hw1;clear hw1;go_wp2_with fail
  rw[<-show B []={ data:=#[] }from rfl,<-HW1.out];obtain⟨e0,e1,e2,e3⟩:=hb1.cells;refine bodyPost_ret (v:=.agg #[.int .i64 5,.string (B []),.int .i64 i,.slice none 0 0]) ?_ rfl ⟨rfl,hU1⟩;simp[results,Tryz.f95,go_sem,e0,e1,e2,e3]
theorem zAd(w:World):Calls Tryz.prog 41 #[] w fun e w'=>e=.returned (.bool true)/\zD zC w w':=by
  obtain⟨a1,a2,a3,a4,a5,a6⟩:=zIl;have hFE:∀ args w,Sem.run Tryz.prog (callFunc 95 args) w=.ok (Next.enter 95 args) w:=Tryz.call95;have PV:=fun(W:World)(g:Nat)(hB:W.heap[g]? =some (.cells #[.int .i64 5,.string (B []),.int .i64 2,.slice none 0 0,.int .i64 5,.string (B []),.int .i64 0,.slice none 0 0] 29 (0,0)))=>ZX [tVr 2,tVr 0] (by simp) (fun t ht=>by simp only[List.mem_cons,List.not_mem_nil,or_false]at ht;rcases ht with rfl |rfl<;>omega) (some ⟨g,0,none⟩) 2 W (qD (zV 5 [] 2) (zV 5 [] 0) (fun e=>e) hB)
  have PV2:=fun(W:World)(g:Nat)(hB:W.heap[g]? =some (.cells #[.int .i64 5,.string (B []),.int .i64 2,.slice none 0 0,.int .i64 5,.string (B []),.int .i64 2,.slice none 0 0] 29 (0,0)))=>ZX [tVr 2,tVr 2] (by simp) (fun t ht=>by simp only[List.mem_cons,List.not_mem_nil,or_false]at ht;rcases ht with rfl |rfl<;>omega) (some ⟨g,0,none⟩) 2 W (qD (zV 5 [] 2) (zV 5 [] 2) (fun e=>e) hB)
  rw[a1]at PV;rw[a2]at PV2;simp only[List.length_cons,List.length_nil,Nat.zero_add,Nat.reduceAdd]at PV PV2;have HA:=zF (And.intro a3 (And.intro a4 (And.intro a5 a6)));clear a1 a2 a3 a4 a5 a6;go_enter Tryz.func41,Tryz.ntmps41
  go_upto_region 2 with fail
  go_wp2_with fail
  (with_reducible refine(zAO 2 w).mono ?_);rintro e w1 ⟨rfl,hU1⟩;go_wp2_with fail
  (with_reducible refine(zAO 0 w1).mono ?_);rintro e w2 ⟨rfl,hU2⟩;go_wp2_with fail
  (with_reducible refine(PV _ _ (heap_alloc_new w2 _)).mono ?_);rintro e w3 ⟨va3,vc3,rfl,hV3,hU3⟩;simp only[Option.getD_some,Option.isSome_some,List.length_cons,List.length_nil,Nat.zero_add,Nat.reduceAdd]at hV3 ⊢;have hU03:=(hU1.and hU2).and (((zD.refl zC w2).alloc _).and hU3);obtain⟨vb,vo,rfl,hvbl,_,hvc⟩:=yJ hV3 0 (by simp);simp only[List.getElem_cons_zero,Nat.add_zero]at hvc;clear hU1 hU2 hU3 hV3 PV;go_wp2_with fail
  (with_reducible refine(zAO 2 w3).mono ?_);rintro e w4 ⟨rfl,hU4⟩;go_wp2_with fail
  (with_reducible refine(zAO 2 w4).mono ?_);rintro e w5 ⟨rfl,hU5⟩;go_wp2_with fail
  (with_reducible refine(PV2 _ _ (heap_alloc_new w5 _)).mono ?_);rintro e w6 ⟨va6,vc6,rfl,-,hU6⟩;simp only[Option.getD_none,Option.isSome_none,List.length_nil];have hU36:=(hU4.and hU5).and (((zD.refl zC w5).alloc _).and hU6);have hU06:=hU03.and hU36;have hvc6:=hU36.cell hvc (fun x=>x);clear hU4 hU5 hU6 hU03 hU36 PV2 hvc;obtain⟨w7,hw7⟩:∃ z,z=w6.alloc (.cells #[.int .i64 2,.int .i64 0] 3):=⟨_,rfl⟩;have hU7:zD zC w6 w7:=by rw[hw7];exact(zD.refl zC _).alloc _
  have hi7:zH zC w7 1 ([2,0].map (yP.int .i64)) (some ⟨w6.heap.size,0,none⟩) 0:=by rw[hw7];exact zDA (by simp) (by simp) (by simp)
  have HW7:=zF hw7;clear hw7;go_wp2_with fail
  rw[<-HW7.out]
  (with_reducible refine(zAO 2 w7).mono ?_);rintro e w8 ⟨rfl,hU8⟩;obtain⟨w9,hw9⟩:∃ z,z=w8.alloc (.cells #[.int .i64 5,.string (B []),.int .i64 2,.slice none 0 0] 29):=⟨_,rfl⟩;have hU9:zD zC w8 w9:=by rw[hw9];exact(zD.refl zC _).alloc _
  have hb9:zG w9 w8.heap.size (.int .i64 5) (.string (B [])) (.int .i64 2) (.slice none 0 0) 29:=by rw[hw9];exact zG.zJ rfl
  have IV:=Zh [2,0] (by simp) tC2 (by have:=HA.out.2.2.2;omega) w9 (some ⟨w6.heap.size,0,none⟩) 2 _ (hi7.on (hU8.and hU9)) (Ym (t:=tVr 2) (zV 5 [] 2) (fun e=>e) hb9 4 [99] 0);rw[HA.out.2.2.1,zIm]at IV;simp only[List.length_cons,List.length_nil,Nat.zero_add,Nat.reduceAdd]at IV;have HW9:=zF hw9;have hU79:=hU8.and hU9;clear hw9 hb9 hi7 hU8 hU9;go_wp2_with fail
  rw[<-HW9.out]
  (with_reducible refine IV.mono ?_);rintro e w10 ⟨k10,i10,n10,a10,l10,c10,rfl,hR10,hU10⟩;obtain⟨a10',c10',e10,-,-⟩:=zd.1 hR10;simp only[List.cons.injEq,Value.int.injEq,Value.string.injEq,Value.slice.injEq,true_and,and_true]at e10;obtain⟨rfl,-,-,-⟩:=e10;have hU010:=(hU06.and hU7).and (hU79.and hU10);have hvc10:=(hU7.and (hU79.and hU10)).cell hvc6 (fun x=>x);clear hR10 hU06 hU7 hU79 hU10 hvc6 IV;obtain⟨w14,hw14⟩:∃ z,z=(((w10.alloc (.cells #[.int .i64 3,.string (B n10),.int .i64 i10,.slice a10 l10 c10] 29)).alloc (.cells #[.int .i64 4,.string (B [110,97,116]),.int .i64 0,.slice none 0 0] 29)).alloc (.cells #[.int .i64 4,.string (B [110,97,116]),.int .i64 0,.slice none 0 0,.int .i64 4,.string (B [110,97,116]),.int .i64 0,.slice none 0 0] 29)).alloc (.cells #[.int .i64 2,.string (B []),.int .i64 0,.slice (some ⟨w10.heap.size+1+1,0,none⟩) 2 2] 29):=⟨_,rfl⟩;have hU14:zD zC w10 w14:=by rw[hw14];exact((((zD.refl zC w10).alloc _).alloc _).alloc _).alloc _
  have hX14:zG w14 w10.heap.size (.int .i64 3) (.string (B n10)) (.int .i64 i10) (.slice a10 l10 c10) 29:=by rw[hw14];exact(((zG.zJ rfl).kept ((zD.refl zC _).alloc _)).kept ((zD.refl zC _).alloc _)).kept ((zD.refl zC _).alloc _)
  have hN14:zG w14 (w10.heap.size+1) (.int .i64 4) (.string (B [110,97,116])) (.int .i64 0) (.slice none 0 0) 29:=by rw[hw14];exact((zG.zJ (by simp)).kept ((zD.refl zC _).alloc _)).kept ((zD.refl zC _).alloc _)
  have hF14:zG w14 (w10.heap.size+1+1+1) (.int .i64 2) (.string (B [])) (.int .i64 0) (.slice (some ⟨w10.heap.size+1+1,0,none⟩) 2 2) 29:=by rw[hw14];exact zG.zJ (by simp)
  have hR14:zK zC w14 xX.zM [.int .i64 2,.string (B []),.int .i64 0,.slice (some ⟨w10.heap.size+1+1,0,none⟩) 2 2]:=by
    rw[hw14];have h:=heap_alloc_new ((w10.alloc (.cells #[.int .i64 3,.string (B n10),.int .i64 i10,.slice a10 l10 c10] 29)).alloc (.cells #[.int .i64 4,.string (B [110,97,116]),.int .i64 0,.slice none 0 0] 29)) (.cells #[.int .i64 4,.string (B [110,97,116]),.int .i64 0,.slice none 0 0,.int .i64 4,.string (B [110,97,116]),.int .i64 0,.slice none 0 0] 29);simp only[World.size_alloc]at h;exact(zd.2 ⟨_,2,rfl,Nat.le_refl _,qD (T:=29) (zV 4 [110,97,116] 0) (zV 4 [110,97,116] 0) (fun e=>e) h⟩).on ((zD.refl zC _).alloc _)
  have hv14:=hU14.cell hvc10 (fun x=>x);have HW14:=zF hw14;obtain⟨X,hX⟩:∃ z,z=w10.heap.size:=⟨_,rfl⟩;rw[<-hX]at hX14 hN14 hF14 hR14;have HX:=zF hX;clear hw14 hX hvc10;obtain⟨x0,x1,x2,x3⟩:=hF14.cells;go_upto_region 7 with fail
  rw[<-show B []={ data:=#[] }from rfl,<-show B [110,97,116]={ data:=#[110,97,116] }from rfl,<-HW14.out,<-HX.out];obtain⟨w15,hw15⟩:∃ z,z=w14.alloc (.cells #[.bool false] 4):=⟨_,rfl⟩;have hU15:zD zC w14 w15:=by rw[hw15];exact(zD.refl zC _).alloc _
  have NA:=zBa w15 _ (hR14.on hU15) w14.heap.size (by rw[hw15];simp);have HW15:=zF hw15;clear hw15;go_wp2_with fail
  rw[<-HW15.out]
  (with_reducible refine NA.mono ?_);rintro e w16 ⟨k16,i16,n16,a16,l16,c16,rfl,hR16,hU16⟩;obtain⟨a16',c16',e16,-,-⟩:=zd.1 hR16;simp only[List.cons.injEq,Value.int.injEq,Value.string.injEq,Value.slice.injEq,true_and,and_true]at e16;obtain⟨rfl,hn16,rfl,-,-,-⟩:=e16;rw[hn16];obtain⟨w17,hw17⟩:∃ z,z=w16.alloc (.cells #[.int .i64 4,.string (B [110,97,116]),.int .i64 0,.slice a16 l16 c16] 29):=⟨_,rfl⟩;have hU17:zD zC w14 w17:=by rw[hw17];exact(hU15.and hU16).alloc _
  have hY17:zG w17 w16.heap.size (.int .i64 4) (.string (B [110,97,116])) (.int .i64 0) (.slice a16 l16 c16) 29:=by rw[hw17];exact zG.zJ rfl
  have HW17:=zF hw17;obtain⟨Y,hY⟩:∃ z,z=w16.heap.size:=⟨_,rfl⟩;rw[<-hY]at hY17;have HY:=zF hY;clear hw17 hY hR16 hn16 hU15 hU16 NA x0 x1 x2 x3;obtain⟨x0,x1,x2,x3⟩:=(hF14.kept hU17).cells;go_upto_region 8 with fail
  rw[<-HY.out,<-HW17.out];obtain⟨w18,hw18⟩:∃ z,z=w17.alloc (.cells #[.string (B []),.int .i64 2,.string (B []),.int .i64 0,.slice (some ⟨X+1+1,0,none⟩) 2 2,.slice none 0 0] 96):=⟨_,rfl⟩;have hU18:zD zC w17 w18:=by rw[hw18];exact(zD.refl zC _).alloc _
  have hM18:zf w18 w17.heap.size (.string (B [])) (.int .i64 2) (.string (B [])) (.int .i64 0) (.slice (some ⟨X+1+1,0,none⟩) 2 2) (.slice none 0 0) 96:=by rw[hw18];exact zf.zJ rfl
  have hL18:zH zC w18 6 (dL1.map Mv.zM) (some ⟨w17.heap.size,0,none⟩) 0:=zAa hM18 (XH.2 ⟨[.int .i64 2,.string (B []),.int .i64 0,.slice (some ⟨X+1+1,0,none⟩) 2 2],none,0,rfl,hR14.on (hU17.and hU18),Nat.le_refl _,by simp only[List.map_nil,zH]⟩);obtain⟨w19,hw19⟩:∃ z,z=w18.alloc (.cells #[.bool false] 4):=⟨_,rfl⟩;have hU19:zD zC w18 w19:=by rw[hw19];exact(zD.refl zC _).alloc _
  have hs18:w18.heap.size=w17.heap.size+1:=by rw[hw18];simp
  have DR:=zHh w19 _ 1 (hL18.on hU19) (w17.heap.size+1) (by rw[hw19,<-hs18];simp);clear hs18;have HW19:=zF hw19;have HW18:=zF hw18;clear hw18 hw19;go_wp2_with fail
  rw[<-show B []={ data:=#[] }from rfl,<-HW18.out,<-HW19.out]
  (with_reducible refine DR.mono ?_);rintro e w20 ⟨⟨oa,oc,rfl⟩,hU20⟩;have hU1720:=(hU18.and hU19).and hU20;clear DR hL18 hM18 hU18 hU19 hU20 x0 x1 x2 x3;obtain⟨x0,x1,x2,x3⟩:=(hF14.kept (hU17.and hU1720)).cells;obtain⟨w21,hw21⟩:∃ z,z=w20.alloc (.cells #[.string (B []),.int .i64 2,.string (B []),.int .i64 0,.slice (some ⟨X+1+1,0,none⟩) 2 2,.slice none 0 0] 96):=⟨_,rfl⟩;have hU21:zD zC w20 w21:=by rw[hw21];exact(zD.refl zC _).alloc _
  have hM21:zf w21 w20.heap.size (.string (B [])) (.int .i64 2) (.string (B [])) (.int .i64 0) (.slice (some ⟨X+1+1,0,none⟩) 2 2) (.slice none 0 0) 96:=by rw[hw21];exact zf.zJ rfl
  have hL21:zH zC w21 6 (dL1.map Mv.zM) (some ⟨w20.heap.size,0,none⟩) 0:=zAa hM21 (XH.2 ⟨[.int .i64 2,.string (B []),.int .i64 0,.slice (some ⟨X+1+1,0,none⟩) 2 2],none,0,rfl,hR14.on ((hU17.and hU1720).and hU21),Nat.le_refl _,by simp only[List.map_nil,zH]⟩);have HW21:=zF hw21;obtain⟨S,hS⟩:∃ z,z=w20.heap.size:=⟨_,rfl⟩;rw[<-hS]at hL21;have HS:=zF hS;clear hw21 hS hM21;go_upto_region 10 with fail
  rw[<-show B []={ data:=#[] }from rfl,<-HW21.out,<-HS.out];obtain⟨w22,hw22⟩:∃ z,z=w21.alloc (.cells #[.int .i64 0] 3):=⟨_,rfl⟩;have hU22:zD zC w21 w22:=by rw[hw22];exact(zD.refl zC _).alloc _
  have hi22:zH zC w22 1 ([0].map (yP.int .i64)) (some ⟨w21.heap.size,0,none⟩) 0:=by rw[hw22];exact XQ (by simp) (by simp)
  have HW22:=zF hw22;clear hw22 x0 x1 x2 x3;go_wp2_with fail
  rw[<-HW22.out]
  (with_reducible refine(zAO 1 w22).mono ?_);rintro e w23 ⟨rfl,hU23⟩;obtain⟨w24,hw24⟩:∃ z,z=w23.alloc (.cells #[.int .i64 5,.string (B []),.int .i64 1,.slice none 0 0] 29):=⟨_,rfl⟩;have hU24:zD zC w22 w24:=by rw[hw24];exact hU23.alloc _
  have hb24:zG w24 w23.heap.size (.int .i64 5) (.string (B [])) (.int .i64 1) (.slice none 0 0) 29:=by rw[hw24];exact zG.zJ rfl
  have CL:=zDb ⟨[],xX,[]⟩ rfl (some ⟨S,0,none⟩) 1 (some ⟨w21.heap.size,0,none⟩) 1 w24 _ (hL21.on (hU22.and hU24)) (hi22.on hU24) (Ym (t:=tVr 1) (zV 5 [] 1) (fun e=>e) hb24 4 [115] 0);have HW24:=zF hw24;clear hw24 hb24 hi22 hU23;go_wp2_with fail
  rw[<-HW24.out]
  (with_reducible refine CL.mono ?_);rintro e w25 ⟨rfl,hU25⟩;have hU2125:=(hU22.and hU24).and hU25;have hU1425:=(hU17.and hU1720).and (hU21.and hU2125);obtain⟨x0,x1,x2,x3⟩:=((hN14.kept hU1425).kept ((zD.refl zC w25).alloc (.cells #[.int .i64 0] 3))).cells;obtain⟨w26,hw26⟩:∃ z,z=w25.alloc (.cells #[.int .i64 0] 3):=⟨_,rfl⟩;have hU26:zD zC w25 w26:=by rw[hw26];exact(zD.refl zC _).alloc _
  have hi26:zH zC w26 1 ([0].map (yP.int .i64)) (some ⟨w25.heap.size,0,none⟩) 0:=by rw[hw26];exact XQ (by simp) (by simp)
  have PR:=zGM ⟨[],xX,[]⟩ (zDy.zH1.dup _ (by simp)) (some ⟨S,0,none⟩) 1 (some ⟨w25.heap.size,0,none⟩) 1 w26 _ (hL21.on (hU2125.and hU26)) hi26 (zV 4 [110,97,116] 0);have HW26:=zF hw26;clear hw26 hi26 CL;go_upto_region 11 with fail
  go_wp2_with fail
  rw[<-HW26.out]
  (with_reducible refine PR.mono ?_);rintro e w27 ⟨⟨oa',oc',rfl⟩,hU27⟩;have hU1427:=hU1425.and (hU26.and hU27);have hv27:=hU1427.cell hv14 (fun x=>x);clear x0 x1 x2 x3 PR;obtain⟨x0,x1,x2,x3⟩:=(hX14.kept hU1427).cells;obtain⟨y0,y1,y2,y3⟩:=(hY17.kept (hU1720.and ((hU21.and hU2125).and (hU26.and hU27)))).cells;go_upto_region 12 with fail
  go_wp2_with fail
  go_ret
  exact⟨rfl,(hU010.and hU14).and hU1427⟩
end Go.Proofs.YthgmimncdjhgnaaGreatDoor
