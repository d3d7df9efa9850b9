/- lfchecklaw19.store. -/
import Derived.Test.YthgmimncdjhgnaaGreatDoorVFL
import Derived.Test.YthgmimncdjhgnaaGreatDoorVCH
import Derived.Test.YthgmimncdjhgnaaGreatDoorVCJ
import Derived.Test.YthgmimncdjhgnaaGreatDoorVCM
import Derived.Test.YthgmimncdjhgnaaGreatDoorVFC
import Derived.Test.YthgmimncdjhgnaaGreatDoorVFD
import Derived.Test.YthgmimncdjhgnaaGreatDoorVFE
import Derived.Test.YthgmimncdjhgnaaGreatDoorVFJ
import Derived.Test.YthgmimncdjhgnaaGreatDoorVSE
import Derived.Deep.CutRange
import Derived.Deep.RegionHeld3
set_option maxRecDepth 100000
set_option maxHeartbeats 8000000
namespace Go.LF
open Tm Go.Proofs.YthgmimncdjhgnaaGreatDoor
theorem zCW{t:Tm}(h:∀ b,∀ x∈t.nodes b,x.n.length<=4):yk (fun _ n _ _=>n.length<=4) t:=(Qn (M:=fun _ n _=>n.length<=4) t 0).2 (fun x hx=>h 0 x hx)
theorem y8.new{l:List Mv}(h:y8 l){nm:List UInt8}{a:Tm}(ha:yk (fun _ n _ _=>n.length<=4) a):y8 (YJ l nm a):=by
  unfold YJ;split
  ·exact h
  ·intro m hm;rcases List.mem_append.1 hm with hm |hm
   ·exact h m hm
   ·rw[List.mem_singleton.1 hm];exact⟨ha,fun v hv=>by cases hv⟩
theorem y8.solve{l:List Mv}(h:y8 l){i:Int}{u:Tm}(hu:yk (fun _ n _ _=>n.length<=4) u):y8 (YA l i u):=by
  unfold YA;split
  ·exact h
  ·unfold qO;split
   ·rename_i v hv;have hvm:v∈l:=List.mem_of_getElem? hv;intro m hm;rcases List.mem_or_eq_of_mem_set hm with hm |rfl
    ·exact h m hm
    ·exact⟨(h v hvm).1,fun x hx=>by rw[List.mem_singleton.1 hx];exact hu⟩
   ·exact h
end Go.LF
namespace Go.Proofs.YthgmimncdjhgnaaGreatDoor
open Go.RowKit Go.LF
def zJU(T:Nat)(w:World)(e:Ending)(w':World):Prop:=
  ∃(L:List Mv)(va:Option Addr)(vc:Nat),e=.returned (.slice va L.length vc)/\ZZ L/\y8 L/\L.length<=6/\L.length<=vc/\zH (yU T) w' 6 (L.map Mv.zN) va 0/\yG w' T/\ze T w'/\zD (yU T) w w'
theorem Qx{W:World}{b:Nat}{T':TypeId}(h:W.heap[b]? =some (.cells #[.string (B []),.string (B [88]),.string (B [89])] T' (0,0)))(c:Nat)(hc:(c:Int)<3):
    ∃ nm:List UInt8,nm.length<=4/\W.cell? ⟨b,c,none⟩=some (.string (B nm)):=by
  have hcell:∀ i,W.cell? ⟨b,i,none⟩=(#[.string (B []),.string (B [88]),.string (B [89])]:Array Value)[i]? :=fun i=>by simp[World.cell?,h]
  obtain rfl |rfl |rfl:c=0\/c=1\/c=2:=by omega
  ·exact⟨_,by decide,hcell 0⟩
  ·exact⟨_,by decide,hcell 1⟩
  ·exact⟨_,by decide,hcell 2⟩
theorem zD0(T:Nat)(w:World)(hT:yG w T)(hK:ze T w):
    Calls Tryz.prog 23 #[.pointer (some ⟨T,0,none⟩)] w (zJU T w):=by
  have N0:=ZK 7 (by omega) (by omega) T w hT;go_enter Tryz.func23,Tryz.ntmps23
  go_wp2_with fail
  (with_reducible refine N0.mono ?_);rintro e w1 ⟨⟨n0,hn0,rfl⟩,hT1,hU1⟩;have hK1:=hK.zF hU1;clear N0 hT hK;go_wp2_with fail
  go_loopw [3,4] (fun v3 v4 wr=>∃(n:Nat)(L:List Mv)(va:Option Addr)(vc:Nat),v4=.int .i64 (n:Int)/\v3=.slice va L.length vc/\ZZ L/\y8 L/\L.length+n<=6/\L.length<=vc/\zH (yU T) wr 6 (L.map Mv.zN) va 0/\yG wr T/\ze T wr/\zD (yU T) w wr)
    (fun _ v4 _=>(intOf v4).toNat)
  case atStart=>exact⟨n0,[],none,0,rfl,rfl,ZZ.nil,fun m hm=>(by cases hm),by simp;omega,Nat.le_refl _,by simp only[List.map_nil,zH],hT1,hK1,hU1⟩
  case round=>
    obtain⟨n,L,va,vc,rfl,rfl,hP,hSh,hLn,hLc,hL,hT,hK,hU⟩:=hrel;have hni:(n:Int)<=6:=by omega
    obtain⟨Ll,hLl⟩:∃ k,k=L.length:=⟨_,rfl⟩;have hLlc:Ll<=vc:=by omega
    rw[<-hLl]at hLn;rw[<-hLl];have HLl:=zG hLl;clear hLl hT1 hK1 hU1;by_cases hlt:0<n
    ·have hlt':(0:Int)<(n:Int):=by omega
     have TY:=zEE 2 (by omega) 0 Ll (by omega) (by omega) T wr hT hK;rw[show((2:Nat):Int)=2 from rfl,show((0:Nat):Int)=0 from rfl]at TY;go_upto_region 5 with fail
     go_wp2_with fail
     (with_reducible refine TY.mono ?_);rintro e w8 ⟨k8,i8,n8,a8,l8,q8,t,rfl,hR8,hF8,hT8,hK8,hU8⟩;have hL8:=zH.zF hU8 (fun _ e=>e) _ _ _ _ hL;have hU18:=hU.trans hU8 (fun _ _ e=>e);have htw:t.wt<=35:=by have:=hF8.wt;omega
     have htn:=zCW hF8.nml;have hTl:=hT.lt;clear TY hL hK hU hT hF8;obtain⟨w9,hw9⟩:∃ w9,w9=w8.alloc (.cells #[.int .i64 k8,.string (B n8),.int .i64 i8,.slice a8 l8 q8] 29):=⟨_,rfl⟩;have hU9:zD zC w8 w9:=by rw[hw9];exact(zD.refl zC w8).alloc _
     have hb9:zK w9 w8.heap.size (.int .i64 k8) (.string (B n8)) (.int .i64 i8) (.slice a8 l8 q8) 29:=by rw[hw9];exact zK.zJ rfl
     have hTl8:=hT8.lt;have hR9:zL (yU T) w9 t.zN [.int .i64 k8,.string (B n8),.int .i64 i8,.slice a8 l8 q8]:=(zL.weaken (fun b _ e=>by simp only[yU]at e;omega) _ _ hR8).on hU9;have hL9:=hL8.on hU9;have hT9:=hT8.on hU9;have hK9:=hK8.on hU9;have hU19:=hU18.trans hU9 (fun _ _ e=>e.elim);have HW9:=zG hw9;obtain⟨X,hX⟩:∃ X,X=w8.heap.size:=⟨_,rfl⟩;rw[<-hX]at hb9 hTl8;have HX:=zG hX;clear hw9 hX hR8 hL8 hT8 hK8 hU18 hU8 hU9;go_upto_region 6 with fail
     rw[<-HX.out,<-HW9.out];have hd:zD zC w9 w9.drew:=(zD.refl zC _).drew;have hdd:zD (yU T) w9 w9.drew:=hd.mono (fun _ _ e=>e.elim);have hXT:¬yU T X:=by simp only[yU];omega
     have RN:=fun(W:World)(h:zD (yU T) w9 W)(nm:List UInt8)(hnm:nm.length<=4)=>zEK (yU T) L (by have:=hP.len;omega) nm (by omega) t (by omega) W (fun b e=>by simp only[yU]at e;have h1:=h.size;have h2:=hT9.lt;omega) va vc hLc _ (zH.zF h (fun _ e=>e) _ _ _ _ hL9) (zL.zF h (fun _ e=>e) _ _ hR9)
     have hC:=fun(W:World)(h:zD (yU T) w9 W)=>(hb9.zF h hXT).cells
     obtain⟨O3,hO3⟩:∃ o,o=Obj.cells #[.string (B []),.string (B [88]),.string (B [89])] 9:=⟨_,rfl⟩;have N1:=ZK 3 (by omega) (by omega) T w9.drew (hT9.on hd);have N2:=ZK 3 (by omega) (by omega) T (w9.alloc O3).drew (hT9.on ((zD.refl zC w9).alloc O3).drew);have hda:zD (yU T) w9 (w9.alloc O3).drew:=((zD.refl (yU T) w9).alloc O3).drew;have hs3:(w9.alloc O3).drew.heap[w9.heap.size]? =some (.cells #[.string (B []),.string (B [88]),.string (B [89])] 9 (0,0)):=by rw[hO3];exact heap_alloc_new w9 _
     have hnA:∀(W:World)(c:Nat),(c:Int)<3->∃ nm:List UInt8,nm.length<=4/\(W.alloc O3).cell? ⟨W.heap.size,c,none⟩=some (.string (B nm)):=fun W c hc=>Qx (T':=9) (by rw[hO3];exact heap_alloc_new W _) c hc
     obtain⟨x0,x1,x2,x3⟩:=hC _ hdd;obtain⟨y0,y1,y2,y3⟩:=hC _ hda;rw[hO3]at N2 hda hs3 hnA y0 y1 y2 y3;rw[show B []={ data:=#[] }from rfl,show B [88]={ data:=#[88] }from rfl,show B [89]={ data:=#[89] }from rfl]at N2 hda hs3 hnA y0 y1 y2 y3;have HSn:=zG hnA;clear hO3 O3 hnA;rw[<-HLl.out]at RN;have HRN:=zG RN;clear RN
     go_region_law (first
       |((rw[if_pos (by rfl)]);go_simp;(go_at_call 27);(with_reducible refine N1.mono ?_);rintro e wA ⟨⟨cA,hcA,rfl⟩,hTA,hUA⟩;have hU9A:=hdd.trans hUA (fun _ _ e=>e);obtain⟨nm,hnm,hcell⟩:=HSn.out wA cA hcA;have hUZ:=hU9A.trans ((zD.refl zC wA).alloc (.cells #[.string { data:=#[] },.string { data:=#[88] },.string { data:=#[89] }] 9)) (fun _ _ e=>e.elim);have hTZ:=hTA.on ((zD.refl zC wA).alloc (.cells #[.string { data:=#[] },.string { data:=#[88] },.string { data:=#[89] }] 9));clear x0 x1 x2 x3 y0 y1 y2 y3;obtain⟨x0,x1,x2,x3⟩:=hC _ hU9A;obtain⟨y0,y1,y2,y3⟩:=hC _ hUZ)
       |((rw[if_pos (by rfl)]);go_simp;(go_at_call 27);(with_reducible refine N2.mono ?_);rintro e wA ⟨⟨cA,hcA,rfl⟩,hTZ,hUA⟩;have hUZ:=hda.trans hUA (fun _ _ e=>e);obtain⟨nm,hnm,hcell⟩:=Qx (T':=9) ((hUA.block w9.heap.size (by simp[World.drew]) (by simp only[yU];have:=hT9.lt;omega)).trans hs3) cA hcA;clear x0 x1 x2 x3 y0 y1 y2 y3;obtain⟨x0,x1,x2,x3⟩:=hC _ hUZ)
       |((rw[if_pos (by rfl)]);go_simp;(go_at_call 47);(with_reducible refine(HRN.out _ hUZ nm hnm).mono ?_);rintro e w12 ⟨a12,c12,rfl,hc12,hE12,hU12⟩))
     all_goals
       have hPn:=hP.new (name:=nm) (a:=t) (by have:=HLl.out;omega) (by have:=Tm.zp t;omega);have hSn:=hSh.new (nm:=nm) htn;have hlen2:(YJ L nm t).length<=Ll+1:=by unfold YJ;split;(have:=HLl.out;omega);(rw[List.length_append,List.length_singleton];have:=HLl.out;omega)
       have hTf:=hTZ.on hU12;have hKf:=(hK9.zF hUZ).on hU12;have hUf:=(hU19.trans hUZ (fun _ _ e=>e)).trans hU12 (fun _ _ e=>e.elim);have hLo:=(zH.zF hUZ (fun _ e=>e) _ _ _ _ hL9).on hU12;have HF:=zG (And.intro hTf (And.intro hKf hUf));have HO:=zG (And.intro hP (And.intro hSh (And.intro hLc hLo)));have HNw:=zG (And.intro hPn (And.intro hSn (And.intro hlen2 (And.intro hc12 hE12))));clear hPn hSn hlen2 hTf hKf hUf hLo hc12 hE12 hC hL9 hR9 hT9 hK9 hU19 hdd hda hd HRN N1 N2 HSn hs3 hUA hUZ hTZ hU12 x0 x1 x2 x3 hP hSh hLc htn hb9;generalize zEe L nm t=ni at *
       generalize YJ L nm t=ns at *
       generalize ya (Ll:Int) nm t=ne at *
       by_cases hz:ne=0
       ·have hzb:(ne == 0)=true:=by simpa using hz
        clear hz;go_wp2_with fail
        go_roundw
        case rel=>exact⟨n - 1,ns,a12,c12,by go_num,rfl,HNw.out.1,HNw.out.2.1,by have:=HNw.out.2.2.1;omega,HNw.out.2.2.2.1,HNw.out.2.2.2.2,HF.out.1,HF.out.2.1,HF.out.2.2⟩
        case measure=>simp[intOf];omega
       ·have hzb:(ne == 0)=false:=by simpa using hz
        clear hz;go_wp2_with fail
        go_roundw
        case rel=>exact⟨n - 1,L,va,vc,by go_num,by rw[HLl.out],HO.out.1,HO.out.2.1,by have:=HLl.out;omega,HO.out.2.2.1,HO.out.2.2.2,HF.out.1,HF.out.2.1,HF.out.2.2⟩
        case measure=>simp[intOf];omega
    ·have hge:¬(0:Int)<(n:Int):=by omega
     have N1:=ZK 3 (by omega) (by omega) T wr hT;go_wp2_with fail
     (with_reducible refine N1.mono ?_);rintro e w2 ⟨⟨n2,hn2,rfl⟩,hT2,hU2⟩;have hL2:=zH.zF hU2 (fun _ e=>e) _ _ _ _ hL;have hK2:=hK.zF hU2;have hU02:=hU.trans hU2 (fun _ _ e=>e);clear N1 hL hT hK hU hU2;go_wp2_with fail
     go_loopw [3,9] (fun v3 v9 wz=>∃(k:Nat)(M:List Mv)(ma:Option Addr)(mc:Nat),v9=.int .i64 (k:Int)/\k<=2/\v3=.slice ma M.length mc/\ZZ M/\y8 M/\M.length<=6/\M.length<=mc/\zH (yU T) wz 6 (M.map Mv.zN) ma 0/\yG wz T/\ze T wz/\zD (yU T) w wz)
       (fun _ v9 _=>(intOf v9).toNat)
     case atStart=>exact⟨n2,L,va,vc,rfl,by omega,by rw[HLl.out],hP,hSh,by have:=HLl.out;omega,hLc,hL2,hT2,hK2,hU02⟩
     case round=>
       clear hP hSh hLc hLn hLlc hL2 hT2 hK2 hU02;obtain⟨k,M,ma,mc,rfl,hk2,rfl,hP,hSh,hM6,hMc,hM,hT,hK,hU⟩:=hrel;have hki:(k:Int)<=2:=by omega
       obtain⟨Ml,hMl⟩:∃ k,k=M.length:=⟨_,rfl⟩;have hMl6:Ml<=6:=by omega
       rw[<-hMl];have HMl:=zG hMl;clear hMl;by_cases hgo:0<k/\0<Ml
       ·obtain⟨hk0,hm0⟩:=hgo;have hk0':(0:Int)<(k:Int):=by omega
        have hm0':(0:Int)<(Ml:Int):=by omega
        have NX:=ZK (Ml:Int) (by omega) (by omega) T wr hT;go_upto_region 12 with fail
        go_wp2_with fail
        (with_reducible refine NX.mono ?_);rintro e w4 ⟨⟨c4,hc4,rfl⟩,hT4,hU4⟩;have hM4:=zH.zF hU4 (fun _ e=>e) _ _ _ _ hM;have hK4:=hK.zF hU4;have hU04:=hU.trans hU4 (fun _ _ e=>e);have TY:=qv 2 (by omega) 0 Ml (by omega) (by omega) T w4 hT4 hK4;rw[show((2:Nat):Int)=2 from rfl,show((0:Nat):Int)=0 from rfl]at TY;have hTl4:=hT4.lt;clear NX hM hT hK hU hU4;go_wp2_with fail
        (with_reducible refine TY.mono ?_);rintro e w5 ⟨k5,i5,n5,a5,l5,q5,u,rfl,hR5,hF5,hT5,hK5,hU5⟩;have hM5:=zH.zF hU5 (fun _ e=>e) _ _ _ _ hM4;have hU05:=hU04.trans hU5 (fun _ _ e=>e);have huw:u.wt<=35:=by have:=hF5.wt;omega
        have hun:=zCW hF5.nml;have hsz:=Tm.zp u;have hRu:zL (yU T) w5 u.zN [.int .i64 k5,.string (B n5),.int .i64 i5,.slice a5 l5 q5]:=zL.weaken (fun b _ e=>by simp only[yU]at e;omega) _ _ hR5;have SV:=zBs (yU T) M hP.stR (c4:Int) u (by omega) w5 (fun b e=>by simp only[yU]at e;have:=hT5.lt;omega) ma mc hMc _ hM5 hRu;rw[<-HMl.out]at SV;have hPn:=hP.solve (i:=(c4:Int)) (m:=u) (by omega);have hSn:=hSh.solve (i:=(c4:Int)) (u:=u) hun;have hlen:(YA M (c4:Int) u).length=M.length:=by unfold YA;split;(rfl);exact yw _ _ _
        have HO:=zG (And.intro hP (And.intro hSh (And.intro hM6 (And.intro hMc (And.intro hM5 (And.intro hT5 (And.intro hK5 hU05)))))));have HNw:=zG (And.intro hPn (And.intro hSn (by rw[hlen];exact hM6:(YA M (c4:Int) u).length<=6)));clear TY hP hSh hM4 hM6 hMc hM5 hT5 hK5 hU05 hPn hSn hlen hR5 hRu hF5 hun hsz huw hT4 hK4 hU04 hU5;generalize qL M (c4:Int) u=ne at *
        generalize YA M (c4:Int) u=ns at *
        go_wp2_with fail
        (with_reducible refine SV.mono ?_);rintro e w6 ⟨a6,c6,rfl,hc6,hE6,hU6⟩;have h1:=HO.out.2.2.2.2.1.on hU6;have h2:=HO.out.2.2.2.2.2.1.on hU6;have h3:=HO.out.2.2.2.2.2.2.1.on hU6;have h4:=HO.out.2.2.2.2.2.2.2.trans hU6 (fun _ _ e=>e.elim);have HF:=zG (And.intro h1 (And.intro h2 (And.intro h3 (And.intro h4 (And.intro hc6 hE6)))));clear SV h1 h2 h3 h4 hc6 hE6 hU6;by_cases hz:ne=0
        ·have hzb:(ne == 0)=true:=by simpa using hz
         clear hz;go_wp2_with fail
         go_roundw
         case rel=>exact⟨k - 1,ns,a6,c6,by go_num,by omega,rfl,HNw.out.1,HNw.out.2.1,HNw.out.2.2,HF.out.2.2.2.2.1,HF.out.2.2.2.2.2,HF.out.2.1,HF.out.2.2.1,HF.out.2.2.2.1⟩
         case measure=>simp[intOf];omega
        ·have hzb:(ne == 0)=false:=by simpa using hz
         clear hz;go_wp2_with fail
         go_roundw
         case rel=>exact⟨k - 1,M,ma,mc,by go_num,by omega,by rw[HMl.out],HO.out.1,HO.out.2.1,HO.out.2.2.1,HO.out.2.2.2.1,HF.out.1,HF.out.2.1,HF.out.2.2.1,HF.out.2.2.2.1⟩
         case measure=>simp[intOf];omega
       ·have hz:¬(0:Int)<(k:Int)\/((0:Int)<(k:Int)/\¬(0:Int)<(Ml:Int)):=by omega
        have HO:=zG (And.intro hP (And.intro hSh (And.intro hM6 (And.intro hMc (And.intro hM (And.intro hT (And.intro hK hU)))))));clear hgo hP hSh hM6 hMc hM hT hK hU;rcases hz with hz |⟨hz1,hz2⟩
        all_goals
          go_wp2_with fail
          refine bodyPost_ret (v:=.slice ma Ml mc) (by simp[results,Tryz.f23,go_sem]) rfl ?_;exact⟨M,ma,mc,by rw[HMl.out],HO.out⟩
end Go.Proofs.YthgmimncdjhgnaaGreatDoor
