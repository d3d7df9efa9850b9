/- What layer 13's awake computes. -/
import Derived.Test.YthgmimncdjhgnaaGreatDoorKCH
import Derived.Test.YthgmimncdjhgnaaGreatDoorKFC
import Derived.Test.YthgmimncdjhgnaaGreatDoorKFJ
import Derived.Test.YthgmimncdjhgnaaGreatDoorKSE
import Derived.Deep.RegionHeld3
set_option maxRecDepth 100000
set_option maxHeartbeats 8000000
namespace Go.LF
open Tm Go.Proofs.YthgmimncdjhgnaaGreatDoor
abbrev ZO:Tm:=.mk 4 [110,97,116] 0 []
abbrev nX0:Tm:=.mk 6 [] 0 []
abbrev nX1:Tm:=.mk 6 [] 1 []
abbrev nS:Tm:=.mk 4 [115] 0 [nX0]
abbrev nL1:List Mv:=[⟨[88],ZO,[]⟩]
abbrev nL2:List Mv:=[⟨[88],ZO,[]⟩,⟨[],ZO,[]⟩]
abbrev Xo:List Mv:=[⟨[88],ZO,[]⟩,⟨[],ZO,[nS]⟩]
theorem zGK:yM 0 [88] ZO=0/\yM 1 [] ZO=0/\yK nS 2=0/\yK nX1 2=0:=by decide+kernel
theorem zCp:Tm.zJ nS=[0]/\Tm.zJ nX1=[1]/\Tm.zJ ZO=[]/\Tm.zJ nX0=[0]:=by decide+kernel
theorem zFR:XI [] [88] ZO=nL1/\zA5 [] [88] ZO=0:=by
  have h:=zGK.1
  unfold XI zA5
  exact⟨if_neg (by show ¬yM 0 [88] ZO≠0;omega),if_neg (by show ¬yM 0 [88] ZO≠0;omega)⟩
theorem zHp:XI nL1 [] ZO=nL2/\zA5 nL1 [] ZO=1:=by
  have h:=zGK.2.1
  unfold XI zA5
  exact⟨if_neg (by show ¬yM 1 [] ZO≠0;omega),if_neg (by show ¬yM 1 [] ZO≠0;omega)⟩
theorem zJA:ZD nL2:=by
  have h1:=ZD.nil.new (name:=[88]) (a:=ZO) (by simp) (by decide)
  rw[zFR.1]at h1
  have h2:=h1.new (name:=[]) (a:=ZO) (by simp) (by decide)
  rwa [zHp.1]at h2
theorem zIR(i:Int):zf nL2 i=[]:=by
  unfold zf
  split
  ·split
   ·rename_i m hm
    have:=List.mem_of_getElem? hm
    simp only[List.mem_cons,List.not_mem_nil,or_false]at this
    rcases this with rfl |rfl<;>(unfold xP;rw[zCp.2.2.1];rfl)
   ·rfl
  ·rfl
theorem zKy:¬Zc nL2 0 1:=by
  intro h
  cases h with
  |step h hj hk=>rw[zIR]at hj;cases hj
theorem zKZ:xu nL2 1 nS=0:=zHE (l:=nL2) (i:=1) (v:=⟨[],ZO,[]⟩) (by decide) rfl rfl zGK.2.2.1 (fun x hx=>by rw[zCp.1]at hx;obtain rfl:x=0:=(by simpa using hx);exact zKy)
theorem zJJ:ZK nL2 1 nS=Xo:=by
  unfold ZK
  rw[if_neg (by rw[zKZ];simp)]
  rfl
theorem zB8:ZD Xo:=by
  have h:=zJA.solve (i:=1) (m:=nS) (by decide)
  rwa [zJJ]at h
theorem zK4:xu Xo 0 nX1=51:=by
  unfold xu
  rw[if_neg (by decide),if_neg (by decide),if_neg (by rw[show((Xo.length:Nat):Int)=2 by rfl,zGK.2.2.2];simp),if_pos]
  unfold xG
  refine @decide_eq_true _ (_) ?_
  rw[zCp.2.1]
  refine⟨1,by simp,.step (j:=0) (by decide) ?_ (.refl (by decide))⟩
  show(0:Int)∈xP ⟨[],ZO,[nS]⟩
  unfold xP
  simp only[List.flatMap_cons,List.flatMap_nil,zCp.1,zCp.2.2.1]
  simp
theorem zKQ:yc Xo nX1=0:=by decide+kernel
theorem zKN:zj Xo nX1=nS:=by unfold zj;rw[if_pos zKQ];rfl
theorem zHI:xh Xo [nS]=0/\xf Xo [nS]=[nS]:=by
  have h:yc Xo nS=0:=by decide+kernel
  have h1:xh Xo [nS]=0:=by rw[xh,if_neg (by omega)];rfl
  refine⟨h1,?_⟩
  unfold xf
  rw[if_pos h1]
  show [zj Xo nS]=_
  unfold zj
  rw[if_pos h]
  rfl
theorem zKK:zCg Xo [nS]=⟨[0],0⟩:=by
  have h0:yc Xo (typeOf Xo 0)=0:=by decide+kernel
  have h1:zj Xo (typeOf Xo 0)=ZO:=by unfold zj;rw[if_pos h0];rfl
  unfold zCg
  rw[zHI.2]
  show Yr Xo 2 (Tm.zJ nS) ⟨[],0⟩=_
  rw[zCp.1,Yr,XH,h0,h1,zCp.2.2.1]
  rfl
theorem zHX:ZW Xo [nS]=0/\ZB Xo [nS]=[0]:=by
  have h:ZW Xo [nS]=0:=by unfold ZW;rw[if_neg (by rw[zHI.1];simp),zKK]
  exact⟨h,by unfold ZB;rw[if_pos h,zKK]⟩
theorem zKT:(Yx Xo [nS]).length=1/\(ZV Xo [nS]).length=1:=by
  constructor
  ·unfold Yx;rw[zHX.2];rfl
  ·unfold ZV;rw[if_pos zHX.1,zHI.2];rfl
theorem zKt:XA Xo=(2,0):=zB8.valid
end Go.LF
namespace Go.Proofs.YthgmimncdjhgnaaGreatDoor
section
open Go.RowKit Go.LF
theorem Qa{T:TypeId}{wd base:Nat}{O:Nat->Prop}{W:World}{v:Value}{l:List Mv}{css:List (List Value)}(h:yI T wd O base W v (l.map Mv.zN) css)(hO:∀ b,O b->b<base):∃ a cap,v=.slice a l.length cap/\zG zC W wd (l.map Mv.zN) a 0:=by
  obtain⟨a,cap,hv,_,hE⟩:=h.rep hO
  exact⟨a,cap,by rw[hv,List.length_map],zG.weaken (fun _ _ e=>e.elim) _ _ _ _ hE⟩
theorem zBu:ZO.wt<=300000/\nS.wt<=300000/\nX1.wt<=300000:=by decide+kernel
theorem zJE(t:Tm)(hs:t.size<=200)(hm:t.wf=0->∀ i∈Tm.zJ t,i<((Xo.length:Nat):Int)):t.wf=0->(∀ i∈Tm.zJ t,i<((Xo.length:Nat):Int))->Kn ((Xo.length:Nat):Int) t:=fun h _=>zDs t h hs (hm h)
theorem zI3(w:World):Calls Tryz.prog 22 #[] w fun e w'=>e=.returned (.bool true)/\zD zC w w':=by
  obtain⟨w2,hw2⟩:∃ w2,w2=(w.alloc (.cells #[.int .i64 4,.string (B [110,97,116]),.int .i64 0,.slice none 0 0] 29)).alloc (.cells #[.int .i64 6,.string (B []),.int .i64 0,.slice none 0 0] 29):=⟨_,rfl⟩
  have hU2:zD zC w w2:=by rw[hw2];exact((zD.refl zC w).alloc _).alloc _
  have hn2:zK w2 w.heap.size (.int .i64 4) (.string (B [110,97,116])) (.int .i64 0) (.slice none 0 0) 29:=by rw[hw2];exact(zK.zL rfl).kept ((zD.refl zC _).alloc _)
  have hx2:zK w2 (w.heap.size+1) (.int .i64 6) (.string (B [])) (.int .i64 0) (.slice none 0 0) 29:=by rw[hw2];exact zK.zL (by simp)
  have C1:=QY [] ZD.nil.zDz [88] (by simp) ZO zBu.1 w2 none 0 _ (by simp only[List.map_nil,zG]) (ze 4 [110,97,116] 0)
  rw[zFR.1,zFR.2,show yM ((([]:List Mv).length:Nat):Int) [88] ZO=0 from zGK.1]at C1
  have C2:=fun(W:World)a c h=>QY nL1 ((ZD.nil.new (name:=[88]) (a:=ZO) (by simp) (by decide)).zDz |> fun h=>by rw[zFR.1]at h;exact h) [] (by simp) ZO zBu.1 W a c _ h (ze 4 [110,97,116] 0)
  rw[zHp.1,zHp.2,show yM ((nL1.length:Nat):Int) [] ZO=0 from zGK.2.1]at C2
  have C3:=fun(W:World)a c P h1(h2:zK W P (.int .i64 6) (.string (B [])) (.int .i64 0) (.slice none 0 0) 29)=>XL nL2 zJA.stR 1 nS zBu.2.1 W a c _ h1 (zAE (t:=nX0) (ze 6 [] 0) (fun x=>x) h2 4 [115] 0)
  rw[zJJ,zKZ]at C3
  have C4:=fun(W:World)a c h1=>XL Xo zB8.stR 0 nX1 zBu.2.2 W a c _ h1 (ze 6 [] 1)
  rw[zK4]at C4
  have C5:=fun(W:World)a c h1=>Yc zC Xo zB8.qG nX1 (by have:=zBu.2.2;omega) (zJE _ (by decide) (fun _ i hi=>by rw[zCp.2.1]at hi;obtain rfl:i=1:=(by simpa using hi);decide)) W (fun _ e=>e.elim) a c _ h1 (ze 6 [] 1)
  rw[zKQ,zKN]at C5
  have hts:∀ t∈[nS],t.wt<=1000000/\(t.wf=0->(∀ i∈Tm.zJ t,i<((Xo.length:Nat):Int))->Kn ((Xo.length:Nat):Int) t):=fun t ht=>by
    obtain rfl:=List.mem_singleton.1 ht
    exact⟨by have:=zBu.2.1;omega,zJE _ (by decide) (fun _ i hi=>by rw[zCp.1]at hi;obtain rfl:i=0:=(by simpa using hi);decide)⟩
  have C6:=fun(W:World)a c ua uc h1 h2=>qZ Xo zB8.plz [nS] hts (by decide) W a c ua uc h1 h2
  rw[zHX.1,zHX.2]at C6
  have C7:=fun(W:World)a c ua uc h1 h2=>zBo Xo zB8.plz [nS] hts (by decide) W a c ua uc h1 h2
  rw[zHX.1]at C7
  have C8:=fun(W:World)a c h1=>zC8 Xo zB8.stR (fun m hm=>by simp only[List.mem_cons,List.not_mem_nil,or_false]at hm;rcases hm with rfl |rfl<;>decide) W a c h1
  rw[zKt]at C8
  simp only[List.length_cons,List.length_nil,Nat.zero_add,Nat.reduceAdd]at C1 C2 C3 C4 C5 C6 C7 C8
  have HW:=zH hw2
  obtain⟨H,hH⟩:∃ H,H=w.heap.size:=⟨_,rfl⟩
  rw[<-hH]at hn2 hx2
  have HH:=zH hH
  clear hw2 hH hts
  go_enter Tryz.func22,Tryz.ntmps22
  go_upto_region 3 with fail
  rw[<-show B []={ data:=#[] }from rfl,<-show B [110,97,116]={ data:=#[110,97,116] }from rfl,<-HW.out,<-HH.out]
  obtain⟨b0,b1,b2,b3⟩:=hn2.cells
  go_wp2_with fail
  (with_reducible refine C1.mono ?_)
  rintro e w3 ⟨v3,css3,rfl,hR3,hU3⟩
  obtain⟨a3,c3,rfl,hE3⟩:=Qa hR3 (fun _ e=>e)
  simp only[List.length_cons,List.length_nil,Nat.zero_add]
  have hn3:=hn2.kept hU3
  have hx3:=hx2.kept hU3
  clear b0 b1 b2 b3 C1 hR3 hn2 hx2
  obtain⟨b0,b1,b2,b3⟩:=hn3.cells
  go_wp2_with fail
  (with_reducible refine(C2 _ _ _ hE3).mono ?_)
  rintro e w4 ⟨v4,css4,rfl,hR4,hU4⟩
  obtain⟨a4,c4,rfl,hE4⟩:=Qa hR4 (fun _ e=>e)
  simp only[List.length_cons,List.length_nil,Nat.zero_add,Nat.reduceAdd]
  have hx4:=hx3.kept hU4
  clear b0 b1 b2 b3 C2 hR4 hn3 hx3 hE3
  obtain⟨b0,b1,b2,b3⟩:=hx4.cells
  go_wp2_with fail
  rw[<-show B [115]={ data:=#[115] }from rfl]
  have al4:=(zD.refl zC w4).alloc (.cells #[.int .i64 6,.string (B []),.int .i64 0,.slice none 0 0] 29)
  (with_reducible refine(C3 _ _ _ w4.heap.size (hE4.on al4) (zK.zL rfl)).mono ?_)
  rintro e w5 ⟨a5,c5,rfl,hc5,hE5,hU5⟩
  simp only[List.length_cons,List.length_nil,Nat.zero_add,Nat.reduceAdd]
  have hU15:=(((hU2.and hU3).and hU4).and al4).and hU5
  clear b0 b1 b2 b3 C3 hE4 hx4 al4 hc5 hU2 hU3 hU4 hU5
  go_wp2_with fail
  (with_reducible refine(C4 _ _ _ hE5).mono ?_)
  rintro e w6 ⟨a6,c6,rfl,_,_,hU6⟩
  have hE6:=hE5.on hU6
  clear C4 hE5
  go_wp2_with fail
  (with_reducible refine(C5 _ _ _ hE6).mono ?_)
  rintro e w7 h7
  obtain⟨a7,c7,rfl,hR7,hU7⟩:=zF4 h7
  have hE7:=hE6.on hU7
  obtain⟨w8,hw8⟩:∃ w8,w8=w7.alloc (.cells #[.int .i64 4,.string (B [115]),.int .i64 0,.slice a7 1 c7] 29):=⟨_,rfl⟩
  have al8:zD zC w7 w8:=by rw[hw8];exact(zD.refl zC w7).alloc _
  have hb8:zK w8 w7.heap.size (.int .i64 4) (.string (B [115])) (.int .i64 0) (.slice a7 1 c7) 29:=by rw[hw8];exact zK.zL rfl
  have hE8:=hE7.on al8
  have hR8:=hR7.on al8
  have HW8:=zH hw8
  obtain⟨P,hP⟩:∃ P,P=w7.heap.size:=⟨_,rfl⟩
  rw[<-hP]at hb8
  have HP:=zH hP
  have hU18:=((hU15.and hU6).and hU7).and al8
  simp only[List.length_cons,List.length_nil,Nat.zero_add]
  clear C5 hE6 hE7 hR7 h7 hw8 hP al8 hU15 hU6 hU7
  go_upto_region 8 with fail
  rw[<-HP.out,<-HW8.out]
  obtain⟨b0,b1,b2,b3⟩:=hb8.cells
  go_wp2_with fail
  have al9:∀ W:World,zD zC W (W.alloc (.cells #[.int .i64 4,.string (B [115]),.int .i64 0,.slice a7 1 c7] 29)):=fun W=>(zD.refl zC W).alloc _
  (with_reducible refine(C6 _ _ _ (some ⟨w8.heap.size,0,none⟩) 1 (hE8.on (al9 w8)) (zD4 (t:=nS) (zM.weaken (fun _ _ e=>e.elim) _ _ (hR8.on (al9 w8))) (fun x=>x) (zK.zL rfl))).mono ?_)
  rintro e w9 ⟨a9,c9,rfl,_,_,hU9⟩
  simp only[List.length_cons,List.length_nil,Nat.zero_add]
  have hU89:=(al9 w8).and hU9
  have hb9:=hb8.kept hU89
  have hE9:=hE8.on hU89
  have hR9:=hR8.on hU89
  have hU19:=hU18.and hU89
  clear b0 b1 b2 b3 C6 hE8 hR8 hb8 hU9 hU89 hU18
  obtain⟨b0,b1,b2,b3⟩:=hb9.cells
  go_wp2_with fail
  (with_reducible refine(C7 _ _ _ (some ⟨w9.heap.size,0,none⟩) 1 (hE9.on (al9 w9)) (zD4 (t:=nS) (zM.weaken (fun _ _ e=>e.elim) _ _ (hR9.on (al9 w9))) (fun x=>x) (zK.zL rfl))).mono ?_)
  rintro e w10 ⟨ka,ua,kc,uc,rfl,_,_,_,hU10⟩
  rw[zKT.1,zKT.2]
  have hU910:=(al9 w9).and hU10
  have hb10:=hb9.kept hU910
  have hE10:=hE9.on hU910
  have hU110:=hU19.and hU910
  clear b0 b1 b2 b3 C7 hE9 hR9 hb9 hU910 hU10 hU19
  go_wp2_with fail
  (with_reducible refine(C8 _ _ _ hE10).mono ?_)
  rintro e w11 ⟨rfl,hU11⟩
  have hb11:=hb10.kept hU11
  obtain⟨b0,b1,b2,b3⟩:=hb11.cells
  have hU111:=hU110.and hU11
  clear C8 hE10 hb10 hU110 hU11
  go_wp2_with fail
  go_ret
  exact⟨rfl,hU111⟩
end
section
open Go.RowKit Go.LF
theorem zGg(T:Nat)(w:World)(hT:zw w T):
    Calls Tryz.prog 45 #[.pointer (some ⟨T,0,none⟩)] w fun e w'=>(∃ b:Bool,e=.returned (.bool b))/\w'=w.drew:=by
  obtain⟨l,a,cap,i,c0,c1,_,hi,hll,_⟩:=hT
  have d0:w.drew.cell? ⟨T,0,none⟩=some (.slice a l.length cap):=c0
  have d1:w.drew.cell? ⟨T,1,none⟩=some (.int .i64 (i:Int)):=c1
  obtain⟨ll,hl⟩:∃ ll,ll=l.length:=⟨_,rfl⟩
  rw[<-hl]at c0 d0
  go_enter Tryz.func45,Tryz.ntmps45
  go_wp2_with fail
  go_region_held3 (fun w'=>w'.cell? ⟨T,0,none⟩=some (.slice a ll cap)/\w'.cell? ⟨T,1,none⟩=some (.int .i64 (i:Int)))
    (first |(with_reducible assumption)|(exact⟨d0,d1⟩))
    (first |fail)
  all_goals
    go_wp2_with fail
    go_ret
    exact⟨⟨_,rfl⟩,rfl⟩
end
end Go.Proofs.YthgmimncdjhgnaaGreatDoor
