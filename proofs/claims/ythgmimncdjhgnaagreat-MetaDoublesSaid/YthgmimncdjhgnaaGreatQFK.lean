/- What layer 13's awake computes. -/
import Derived.Test.YthgmimncdjhgnaaGreatQFC
import Derived.Test.YthgmimncdjhgnaaGreatQFJ
import Derived.Test.YthgmimncdjhgnaaGreatQSE
set_option maxRecDepth 100000
set_option maxHeartbeats 8000000
namespace Go.LF
open Tm Go.Proofs.YthgmimncdjhgnaaGreat
abbrev xf:Tm:=.mk 4 [110,97,116] 0 []
abbrev nX0:Tm:=.mk 6 [] 0 []
abbrev nX1:Tm:=.mk 6 [] 1 []
abbrev nS:Tm:=.mk 4 [115] 0 [nX0]
abbrev nL1:List Mv:=[⟨[88],xf,[]⟩]
abbrev nL2:List Mv:=[⟨[88],xf,[]⟩,⟨[],xf,[]⟩]
abbrev Yl:List Mv:=[⟨[88],xf,[]⟩,⟨[],xf,[nS]⟩]
theorem zED:yV 0 [88] xf=0/\yV 1 [] xf=0/\yI nS 2=0/\yI nX1 2=0:=by decide+kernel
theorem zBA:Tm.zP nS=[0]/\Tm.zP nX1=[1]/\Tm.zP xf=[]/\Tm.zP nX0=[0]:=by decide+kernel
theorem zDo:zBL [] [88] xf=nL1/\zCZ [] [88] xf=0:=by
  have h:=zED.1;unfold zBL zCZ;exact⟨if_neg (by show ¬yV 0 [88] xf≠0;omega),if_neg (by show ¬yV 0 [88] xf≠0;omega)⟩
theorem zE0:zBL nL1 [] xf=nL2/\zCZ nL1 [] xf=1:=by
  have h:=zED.2.1;unfold zBL zCZ;exact⟨if_neg (by show ¬yV 1 [] xf≠0;omega),if_neg (by show ¬yV 1 [] xf≠0;omega)⟩
theorem zGl:xk nL2:=by
  have h1:=xk.nil.new (name:=[88]) (a:=xf) (by simp) (by decide);rw[zDo.1]at h1;have h2:=h1.new (name:=[]) (a:=xf) (by simp) (by decide);rwa [zE0.1]at h2
theorem zF7(i:Int):zt nL2 i=[]:=by
  unfold zt;split
  ·split
   ·rename_i m hm;have:=List.mem_of_getElem? hm;simp only[List.mem_cons,List.not_mem_nil,or_false]at this;rcases this with rfl |rfl<;>(unfold xV;rw[zBA.2.2.1];rfl)
   ·rfl
  ·rfl
theorem zIC:¬Zx nL2 0 1:=by
  intro h;cases h with
  |step h hj hk=>rw[zF7]at hj;cases hj
theorem zHw:ZH nL2 1 nS=0:=zFU (l:=nL2) (i:=1) (v:=⟨[],xf,[]⟩) (by decide) rfl rfl zED.2.2.1 (fun x hx=>by rw[zBA.1]at hx;obtain rfl:x=0:=(by simpa using hx);exact zIC)
theorem zGZ:Y4 nL2 1 nS=Yl:=by
  unfold Y4;rw[if_neg (by rw[zHw];simp)];rfl
theorem zAb:xk Yl:=by
  have h:=zGl.solve (i:=1) (m:=nS) (by decide);rwa [zGZ]at h
theorem zIG:ZH Yl 0 nX1=51:=by
  unfold ZH;rw[if_neg (by decide),if_neg (by decide),if_neg (by rw[show((Yl.length:Nat):Int)=2 by rfl,zED.2.2.2];simp),if_pos];unfold xz;refine @decide_eq_true _ (_) ?_;rw[zBA.2.1];refine⟨1,by simp,.step (j:=0) (by decide) ?_ (.refl (by decide))⟩;show(0:Int)∈xV ⟨[],xf,[nS]⟩;unfold xV;simp only[List.flatMap_cons,List.flatMap_nil,zBA.1,zBA.2.2.1];simp
theorem zHi:yf Yl nX1=0:=by decide+kernel
theorem zHy:zz Yl nX1=nS:=by unfold zz;rw[if_pos zHi];rfl
theorem zEs:xw Yl [nS]=0/\Zr Yl [nS]=[nS]:=by
  have h:yf Yl nS=0:=by decide+kernel
  have h1:xw Yl [nS]=0:=by rw[xw,if_neg (by omega)];rfl
  refine⟨h1,?_⟩;unfold Zr;rw[if_pos h1];show [zz Yl nS]=_;unfold zz;rw[if_pos h];rfl
theorem zHr:zEF Yl [nS]=⟨[0],0⟩:=by
  have h0:yf Yl (typeOf Yl 0)=0:=by decide+kernel
  have h1:zz Yl (typeOf Yl 0)=xf:=by unfold zz;rw[if_pos h0];rfl
  unfold zEF;rw[zEs.2];show zCx Yl 2 (Tm.zP nS) ⟨[],0⟩=_;rw[zBA.1,zCx,XZ,h0,h1,zBA.2.2.1];rfl
theorem zE6:qU Yl [nS]=0/\Qy Yl [nS]=[0]:=by
  have h:qU Yl [nS]=0:=by unfold qU;rw[if_neg (by rw[zEs.1];simp),zHr]
  exact⟨h,by unfold Qy;rw[if_pos h,zHr]⟩
theorem zHm:(zEe Yl [nS]).length=1/\(zEE Yl [nS]).length=1:=by
  constructor
  ·unfold zEe;rw[zE6.2];rfl
  ·unfold zEE;rw[if_pos zE6.1,zEs.2];rfl
theorem zIA:Z8 Yl=(2,0):=zAb.valid
end Go.LF
namespace Go.Proofs.YthgmimncdjhgnaaGreat
open Go.RowKit Go.LF
theorem zAQ{T:TypeId}{wd base:Nat}{O:Nat->Prop}{W:World}{v:Value}{l:List Mv}{css:List (List Value)}(h:yB T wd O base W v (l.map Mv.zN) css)(hO:∀ b,O b->b<base):∃ a cap,v=.slice a l.length cap/\zH zC W wd (l.map Mv.zN) a 0:=by
  obtain⟨a,cap,hv,_,hE⟩:=h.rep hO;exact⟨a,cap,by rw[hv,List.length_map],zH.weaken (fun _ _ e=>e.elim) _ _ _ _ hE⟩
theorem zAc:xf.wt<=300000/\nS.wt<=300000/\nX1.wt<=300000:=by decide+kernel
theorem zGa(t:Tm)(hs:t.size<=200)(hm:t.wf=0->∀ i∈Tm.zP t,i<((Yl.length:Nat):Int)):t.wf=0->(∀ i∈Tm.zP t,i<((Yl.length:Nat):Int))->Kn ((Yl.length:Nat):Int) t:=fun h _=>zFE t h hs (hm h)
theorem zGE(w:World):Calls Tryz.prog 8 #[] w fun e w'=>e=.returned (.bool true)/\zD zC w w':=by
  obtain⟨w2,hw2⟩:∃ w2,w2=(w.alloc (.cells #[.int .i64 4,.string (B [110,97,116]),.int .i64 0,.slice none 0 0] 25)).alloc (.cells #[.int .i64 6,.string (B []),.int .i64 0,.slice none 0 0] 25):=⟨_,rfl⟩;have hU2:zD zC w w2:=by rw[hw2];exact((zD.refl zC w).alloc _).alloc _
  have hn2:zL w2 w.heap.size (.int .i64 4) (.string (B [110,97,116])) (.int .i64 0) (.slice none 0 0) 25:=by rw[hw2];exact(zL.zI rfl).kept ((zD.refl zC _).alloc _)
  have hx2:zL w2 (w.heap.size+1) (.int .i64 6) (.string (B [])) (.int .i64 0) (.slice none 0 0) 25:=by rw[hw2];exact zL.zI (by simp)
  have C1:=zAj [] xk.nil.zGx [88] (by simp) xf zAc.1 w2 none 0 _ (by simp only[List.map_nil,zH]) (zV 4 [110,97,116] 0);rw[zDo.1,zDo.2,show yV ((([]:List Mv).length:Nat):Int) [88] xf=0 from zED.1]at C1;have C2:=fun(W:World)a c h=>zAj nL1 ((xk.nil.new (name:=[88]) (a:=xf) (by simp) (by decide)).zGx |> fun h=>by rw[zDo.1]at h;exact h) [] (by simp) xf zAc.1 W a c _ h (zV 4 [110,97,116] 0)
  rw[zE0.1,zE0.2,show yV ((nL1.length:Nat):Int) [] xf=0 from zED.2.1]at C2;have C3:=fun(W:World)a c P h1(h2:zL W P (.int .i64 6) (.string (B [])) (.int .i64 0) (.slice none 0 0) 25)=>X6 nL2 zGl.stR 1 nS zAc.2.1 W a c _ h1 (qZ (t:=nX0) (zV 6 [] 0) (fun x=>x) h2 4 [115] 0)
  rw[zGZ,zHw]at C3;have C4:=fun(W:World)a c h1=>X6 Yl zAb.stR 0 nX1 zAc.2.2 W a c _ h1 (zV 6 [] 1)
  rw[zIG]at C4;have C5:=fun(W:World)a c h1=>Zo zC Yl zAb.qR nX1 (by have:=zAc.2.2;omega) (zGa _ (by decide) (fun _ i hi=>by rw[zBA.2.1]at hi;obtain rfl:i=1:=(by simpa using hi);decide)) W (fun _ e=>e.elim) a c _ h1 (zV 6 [] 1)
  rw[zHi,zHy]at C5
  have hts:∀ t∈[nS],t.wt<=1000000/\(t.wf=0->(∀ i∈Tm.zP t,i<((Yl.length:Nat):Int))->Kn ((Yl.length:Nat):Int) t):=fun t ht=>by
    obtain rfl:=List.mem_singleton.1 ht;exact⟨by have:=zAc.2.1;omega,zGa _ (by decide) (fun _ i hi=>by rw[zBA.1]at hi;obtain rfl:i=0:=(by simpa using hi);decide)⟩
  have C6:=fun(W:World)a c ua uc h1 h2=>zAn Yl zAb.plz [nS] hts (by decide) W a c ua uc h1 h2
  rw[zE6.1,zE6.2]at C6;have C7:=fun(W:World)a c ua uc h1 h2=>zEi Yl zAb.plz [nS] hts (by decide) W a c ua uc h1 h2
  rw[zE6.1]at C7;have C8:=fun(W:World)a c h1=>zBs Yl zAb.stR (fun m hm=>by simp only[List.mem_cons,List.not_mem_nil,or_false]at hm;rcases hm with rfl |rfl<;>decide) W a c h1
  rw[zIA]at C8;simp only[List.length_cons,List.length_nil,Nat.zero_add,Nat.reduceAdd]at C1 C2 C3 C4 C5 C6 C7 C8;have HW:=zG hw2;obtain⟨H,hH⟩:∃ H,H=w.heap.size:=⟨_,rfl⟩;rw[<-hH]at hn2 hx2;have HH:=zG hH;clear hw2 hH hts;go_enter Tryz.func8,Tryz.ntmps8
  go_upto_region 3 with fail
  rw[<-show B []={ data:=#[] }from rfl,<-show B [110,97,116]={ data:=#[110,97,116] }from rfl,<-HW.out,<-HH.out];obtain⟨b0,b1,b2,b3⟩:=hn2.cells;go_wp2_with fail
  (with_reducible refine C1.mono ?_);rintro e w3 ⟨v3,css3,rfl,hR3,hU3⟩;obtain⟨a3,c3,rfl,hE3⟩:=zAQ hR3 (fun _ e=>e);simp only[List.length_cons,List.length_nil,Nat.zero_add];have hn3:=hn2.kept hU3;have hx3:=hx2.kept hU3;clear b0 b1 b2 b3 C1 hR3 hn2 hx2;obtain⟨b0,b1,b2,b3⟩:=hn3.cells;go_wp2_with fail
  (with_reducible refine(C2 _ _ _ hE3).mono ?_);rintro e w4 ⟨v4,css4,rfl,hR4,hU4⟩;obtain⟨a4,c4,rfl,hE4⟩:=zAQ hR4 (fun _ e=>e);simp only[List.length_cons,List.length_nil,Nat.zero_add,Nat.reduceAdd];have hx4:=hx3.kept hU4;clear b0 b1 b2 b3 C2 hR4 hn3 hx3 hE3;obtain⟨b0,b1,b2,b3⟩:=hx4.cells;go_wp2_with fail
  rw[<-show B [115]={ data:=#[115] }from rfl];have al4:=(zD.refl zC w4).alloc (.cells #[.int .i64 6,.string (B []),.int .i64 0,.slice none 0 0] 25)
  (with_reducible refine(C3 _ _ _ w4.heap.size (hE4.on al4) (zL.zI rfl)).mono ?_);rintro e w5 ⟨a5,c5,rfl,hc5,hE5,hU5⟩;simp only[List.length_cons,List.length_nil,Nat.zero_add,Nat.reduceAdd];have hU15:=(((hU2.and hU3).and hU4).and al4).and hU5;clear b0 b1 b2 b3 C3 hE4 hx4 al4 hc5 hU2 hU3 hU4 hU5;go_wp2_with fail
  (with_reducible refine(C4 _ _ _ hE5).mono ?_);rintro e w6 ⟨a6,c6,rfl,_,_,hU6⟩;have hE6:=hE5.on hU6;clear C4 hE5;go_wp2_with fail
  (with_reducible refine(C5 _ _ _ hE6).mono ?_);rintro e w7 h7;obtain⟨a7,c7,rfl,hR7,hU7⟩:=zEY h7;have hE7:=hE6.on hU7;obtain⟨w8,hw8⟩:∃ w8,w8=w7.alloc (.cells #[.int .i64 4,.string (B [115]),.int .i64 0,.slice a7 1 c7] 25):=⟨_,rfl⟩;have al8:zD zC w7 w8:=by rw[hw8];exact(zD.refl zC w7).alloc _
  have hb8:zL w8 w7.heap.size (.int .i64 4) (.string (B [115])) (.int .i64 0) (.slice a7 1 c7) 25:=by rw[hw8];exact zL.zI rfl
  have hE8:=hE7.on al8;have hR8:=hR7.on al8;have HW8:=zG hw8;obtain⟨P,hP⟩:∃ P,P=w7.heap.size:=⟨_,rfl⟩;rw[<-hP]at hb8;have HP:=zG hP;have hU18:=((hU15.and hU6).and hU7).and al8;simp only[List.length_cons,List.length_nil,Nat.zero_add];clear C5 hE6 hE7 hR7 h7 hw8 hP al8 hU15 hU6 hU7;go_upto_region 8 with fail
  rw[<-HP.out,<-HW8.out];obtain⟨b0,b1,b2,b3⟩:=hb8.cells;go_wp2_with fail
  have al9:∀ W:World,zD zC W (W.alloc (.cells #[.int .i64 4,.string (B [115]),.int .i64 0,.slice a7 1 c7] 25)):=fun W=>(zD.refl zC W).alloc _
  (with_reducible refine(C6 _ _ _ (some ⟨w8.heap.size,0,none⟩) 1 (hE8.on (al9 w8)) (Xc (t:=nS) (zK.weaken (fun _ _ e=>e.elim) _ _ (hR8.on (al9 w8))) (fun x=>x) (zL.zI rfl))).mono ?_);rintro e w9 ⟨a9,c9,rfl,_,_,hU9⟩;simp only[List.length_cons,List.length_nil,Nat.zero_add];have hU89:=(al9 w8).and hU9;have hb9:=hb8.kept hU89;have hE9:=hE8.on hU89;have hR9:=hR8.on hU89;have hU19:=hU18.and hU89;clear b0 b1 b2 b3 C6 hE8 hR8 hb8 hU9 hU89 hU18;obtain⟨b0,b1,b2,b3⟩:=hb9.cells;go_wp2_with fail
  (with_reducible refine(C7 _ _ _ (some ⟨w9.heap.size,0,none⟩) 1 (hE9.on (al9 w9)) (Xc (t:=nS) (zK.weaken (fun _ _ e=>e.elim) _ _ (hR9.on (al9 w9))) (fun x=>x) (zL.zI rfl))).mono ?_);rintro e w10 ⟨ka,ua,kc,uc,rfl,_,_,_,hU10⟩;rw[zHm.1,zHm.2];have hU910:=(al9 w9).and hU10;have hb10:=hb9.kept hU910;have hE10:=hE9.on hU910;have hU110:=hU19.and hU910;clear b0 b1 b2 b3 C7 hE9 hR9 hb9 hU910 hU10 hU19;go_wp2_with fail
  (with_reducible refine(C8 _ _ _ hE10).mono ?_);rintro e w11 ⟨rfl,hU11⟩;have hb11:=hb10.kept hU11;obtain⟨b0,b1,b2,b3⟩:=hb11.cells;have hU111:=hU110.and hU11;clear C8 hE10 hb10 hU110 hU11;go_wp2_with fail
  go_ret
  exact⟨rfl,hU111⟩
end Go.Proofs.YthgmimncdjhgnaaGreat
