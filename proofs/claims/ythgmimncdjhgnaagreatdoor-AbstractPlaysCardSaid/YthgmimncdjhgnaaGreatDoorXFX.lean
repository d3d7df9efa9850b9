/- Ri.store. -/
import Derived.Test.YthgmimncdjhgnaaGreatDoorXFL
import Derived.Test.YthgmimncdjhgnaaGreatDoorXDF
import Derived.Test.YthgmimncdjhgnaaGreatDoorXFE
set_option maxRecDepth 100000
set_option maxHeartbeats 8000000
namespace Go.LF
open Tm Go.Proofs.YthgmimncdjhgnaaGreatDoor
theorem y9{t:Tm}(h:∀ b,∀ x∈t.nodes b,x.n.length<=4):fi (fun _ n _ _=>n.length<=4) t:=(oz (M:=fun _ n _=>n.length<=4) t 0).2 (fun x hx=>h 0 x hx)
theorem eD.new{l:List Mv}(h:eD l){nm:List UInt8}{a:Tm}(ha:fi (fun _ n _ _=>n.length<=4) a):eD (kU l nm a):=by
  unfold kU;split
  ·exact h
  intro m hm;rcases List.mem_append.1 hm with hm |hm
  ·exact h m hm
  rw[List.mem_singleton.1 hm];exact⟨ha,fun v hv=>by cases hv⟩
theorem eD.solve{l:List Mv}(h:eD l){i:Int}{u:Tm}(hu:fi (fun _ n _ _=>n.length<=4) u):eD (ku l i u):=by
  unfold ku;split
  ·exact h
  unfold qc;split
  ·rename_i v hv;have Kt:v∈l:=List.mem_of_getElem? hv;intro m hm;rcases List.mem_or_eq_of_mem_set hm with hm |rfl
   ·exact h m hm
   exact⟨(h v Kt).1,fun x hx=>by rw[List.mem_singleton.1 hx];exact hu⟩
  exact h
end Go.LF
namespace Go.Proofs.YthgmimncdjhgnaaGreatDoor
open Go.RowKit Go.LF
def Qz(T:Nat)(w:World)(e:Ending)(w':World):Prop:=
  ∃(L:List Mv)(va:Option Addr)(vc:Nat),e=.returned (.slice va L.length vc)/\jn L/\eD L/\L.length<=6/\L.length<=vc/\ai (cv T) w' 6 (L.map Mv.az) va 0/\bL w' T/\aW T w'/\af (cv T) w w'
theorem s4{W:World}{b:Nat}{T':TypeId}(h:W.heap[b]? =some (.cells #[.string (B []),.string (B [88]),.string (B [89])] T' (0,0)))(c:Nat)(hc:(c:Int)<3):
    ∃ nm:List UInt8,nm.length<=4/\W.cell? ⟨b,c,none⟩=some (.string (B nm)):=by
  have bR:∀ i,W.cell? ⟨b,i,none⟩=(#[.string (B []),.string (B [88]),.string (B [89])]:Array Value)[i]? :=fun i=>by simp[World.cell?,h]
  obtain rfl |rfl |rfl:c=0\/c=1\/c=2:=by omega
  ·exact⟨_,by decide,bR 0⟩
  ·exact⟨_,by decide,bR 1⟩
  exact⟨_,by decide,bR 2⟩
theorem D6(T:Nat)(w:World)(hT:bL w T)(hK:aW T w):
    Calls Tryz.prog 23 #[.pointer (some ⟨T,0,none⟩)] w (Qz T w):=by
  have N0:=gh 7 (by omega) (by omega) T w hT;go_enter Tryz.func23,Tryz.ntmps23;go_wp2_with fail
  (with_reducible refine N0.mono ?_);rintro e w1 ⟨⟨n0,Gp,rfl⟩,ic,aH⟩;have J4:=hK.ag aH;clear N0 hT hK;go_wp2_with fail
  go_loopw [3,4] (fun v3 v4 wr=>∃(n:Nat)(L:List Mv)(va:Option Addr)(vc:Nat),v4=.int .i64 (n:Int)/\v3=.slice va L.length vc/\jn L/\eD L/\L.length+n<=6/\L.length<=vc/\ai (cv T) wr 6 (L.map Mv.az) va 0/\bL wr T/\aW T wr/\af (cv T) w wr)
    (fun _ v4 _=>(intOf v4).toNat)
  case atStart=>exact⟨n0,[],none,0,rfl,rfl,jn.nil,fun m hm=>(by cases hm),by simp;omega,Nat.le_refl _,by simp only[List.map_nil,ai],ic,J4,aH⟩
  obtain⟨n,L,va,vc,rfl,rfl,hP,Dz,hLn,Ce,hL,hT,hK,hU⟩:=hrel;have XE:(n:Int)<=6:=by omega
  obtain⟨Ll,AE⟩:∃ k,k=L.length:=⟨_,rfl⟩;have aiL:Ll<=vc:=by omega
  rw[<-AE]at hLn;rw[<-AE];have Ai:=ak AE;clear AE ic J4 aH;by_cases aB:0<n
  ·have kZ:(0:Int)<(n:Int):=by omega
   have TY:=qy 2 (by omega) 0 Ll (by omega) (by omega) T wr hT hK;rw[show((2:Nat):Int)=2 from rfl,show((0:Nat):Int)=0 from rfl]at TY;go_upto_region 5 with fail;go_wp2_with fail
   (with_reducible refine TY.mono ?_);rintro e w8 ⟨k8,i8,n8,a8,l8,q8,t,rfl,p8,TJ,Je,XK,cW⟩;have Kq:=ai.ag cW (fun _ e=>e) _ _ _ _ hL;have aaP:=hU.trans cW (fun _ _ e=>e);have htw:t.wt<=35:=by have:=TJ.wt;omega
   have htn:=y9 TJ.LX;have lD:=hT.lt;clear TY hL hK hU hT TJ;obtain⟨w9,bf⟩:∃ w9,w9=w8.alloc (.cells #[.int .i64 k8,.string (B n8),.int .i64 i8,.slice a8 l8 q8] 29):=⟨_,rfl⟩;have bU:af ae w8 w9:=by rw[bf];exact(af.refl ae w8).alloc _
   have gK:au w9 w8.heap.size (.int .i64 k8) (.string (B n8)) (.int .i64 i8) (.slice a8 l8 q8) 29:=by rw[bf];exact au.av rfl
   have aif:=Je.lt;have oK:aw (cv T) w9 t.az [.int .i64 k8,.string (B n8),.int .i64 i8,.slice a8 l8 q8]:=(aw.weaken (fun b _ e=>by simp only[cv]at e;omega) _ _ p8).on bU;have P6:=Kq.on bU;have Pt:=Je.on bU;have hK9:=XK.on bU;have acO:=aaP.trans bU (fun _ _ e=>e.elim);have Zx:=ak bf;obtain⟨X,hX⟩:∃ X,X=w8.heap.size:=⟨_,rfl⟩;rw[<-hX]at gK aif;have HX:=ak hX;clear bf hX p8 Kq Je XK aaP cW bU;go_upto_region 6 with fail;rw[<-HX.out,<-Zx.out];have hd:af ae w9 w9.drew:=(af.refl ae _).drew;have qA:af (cv T) w9 w9.drew:=hd.mono (fun _ _ e=>e.elim);have hXT:¬cv T X:=by simp only[cv];omega
   have RN:=fun(W:World)(h:af (cv T) w9 W)(nm:List UInt8)(qG:nm.length<=4)=>Dl (cv T) L (by have:=hP.len;omega) nm (by omega) t (by omega) W (fun b e=>by simp only[cv]at e;have h1:=h.size;have h2:=Pt.lt;omega) va vc Ce _ (ai.ag h (fun _ e=>e) _ _ _ _ P6) (aw.ag h (fun _ e=>e) _ _ oK)
   have hC:=fun(W:World)(h:af (cv T) w9 W)=>(gK.ag h hXT).cells
   obtain⟨O3,Kc⟩:∃ o,o=Obj.cells #[.string (B []),.string (B [88]),.string (B [89])] 9:=⟨_,rfl⟩;have N1:=gh 3 (by omega) (by omega) T w9.drew (Pt.on hd);have N2:=gh 3 (by omega) (by omega) T (w9.alloc O3).drew (Pt.on ((af.refl ae w9).alloc O3).drew);have Qc:af (cv T) w9 (w9.alloc O3).drew:=((af.refl (cv T) w9).alloc O3).drew;have xL:(w9.alloc O3).drew.heap[w9.heap.size]? =some (.cells #[.string (B []),.string (B [88]),.string (B [89])] 9 (0,0)):=by rw[Kc];exact heap_alloc_new w9 _
   have hnA:∀(W:World)(c:Nat),(c:Int)<3->∃ nm:List UInt8,nm.length<=4/\(W.alloc O3).cell? ⟨W.heap.size,c,none⟩=some (.string (B nm)):=fun W c hc=>s4 (T':=9) (by rw[Kc];exact heap_alloc_new W _) c hc
   obtain⟨x0,x1,x2,x3⟩:=hC _ qA;obtain⟨y0,y1,y2,y3⟩:=hC _ Qc;rw[Kc]at N2 Qc xL hnA y0 y1 y2 y3;rw[show B []={ data:=#[] }from rfl,show B [88]={ data:=#[88] }from rfl,show B [89]={ data:=#[89] }from rfl]at N2 Qc xL hnA y0 y1 y2 y3;have HSn:=ak hnA;clear Kc O3 hnA;rw[<-Ai.out]at RN;have HRN:=ak RN;clear RN
   go_region_law (first
     |((rw[if_pos (by rfl)]);go_simp;(go_at_call 27);(with_reducible refine N1.mono ?_);rintro e wA ⟨⟨cA,hcA,rfl⟩,hTA,Bd⟩;have ZB:=qA.trans Bd (fun _ _ e=>e);obtain⟨nm,qG,bR⟩:=HSn.out wA cA hcA;have Sl:=ZB.trans ((af.refl ae wA).alloc (.cells #[.string { data:=#[] },.string { data:=#[88] },.string { data:=#[89] }] 9)) (fun _ _ e=>e.elim);have hTZ:=hTA.on ((af.refl ae wA).alloc (.cells #[.string { data:=#[] },.string { data:=#[88] },.string { data:=#[89] }] 9));clear x0 x1 x2 x3 y0 y1 y2 y3;obtain⟨x0,x1,x2,x3⟩:=hC _ ZB;obtain⟨y0,y1,y2,y3⟩:=hC _ Sl)
     |((rw[if_pos (by rfl)]);go_simp;(go_at_call 27);(with_reducible refine N2.mono ?_);rintro e wA ⟨⟨cA,hcA,rfl⟩,hTZ,Bd⟩;have Sl:=Qc.trans Bd (fun _ _ e=>e);obtain⟨nm,qG,bR⟩:=s4 (T':=9) ((Bd.block w9.heap.size (by simp[World.drew]) (by simp only[cv];have:=Pt.lt;omega)).trans xL) cA hcA;clear x0 x1 x2 x3 y0 y1 y2 y3;obtain⟨x0,x1,x2,x3⟩:=hC _ Sl)
     |((rw[if_pos (by rfl)]);go_simp;(go_at_call 47);(with_reducible refine(HRN.out _ Sl nm qG).mono ?_);rintro e Ff ⟨a12,c12,rfl,ZD,aaM,kh⟩))
   all_goals
     have hPn:=hP.new (name:=nm) (a:=t) (by have:=Ai.out;omega) (by have:=Tm.bB t;omega);have Y5:=Dz.new (nm:=nm) htn;have Si:(kU L nm t).length<=Ll+1:=by unfold kU;split;(have:=Ai.out;omega);(rw[List.length_append,List.length_singleton];have:=Ai.out;omega)
     have hTf:=hTZ.on kh;have Vj:=(hK9.ag Sl).on kh;have Lw:=(acO.trans Sl (fun _ _ e=>e)).trans kh (fun _ _ e=>e.elim);have hLo:=(ai.ag Sl (fun _ e=>e) _ _ _ _ P6).on kh;have HF:=ak (And.intro hTf (And.intro Vj Lw));have HO:=ak (And.intro hP (And.intro Dz (And.intro Ce hLo)));have PA:=ak (And.intro hPn (And.intro Y5 (And.intro Si (And.intro ZD aaM))));clear hPn Y5 Si hTf Vj Lw hLo ZD aaM hC P6 oK Pt hK9 acO qA Qc hd HRN N1 N2 HSn xL Bd Sl hTZ kh x0 x1 x2 x3 hP Dz Ce htn gK;generalize Dk L nm t=ni at *
     generalize kU L nm t=ns at *
     generalize dq (Ll:Int) nm t=ne at *
     by_cases hz:ne=0
     ·have Un:(ne == 0)=true:=by simpa using hz
      clear hz;go_wp2_with fail;go_roundw;case rel=>exact⟨n - 1,ns,a12,c12,by go_num,rfl,PA.out.1,PA.out.2.1,by have:=PA.out.2.2.1;omega,PA.out.2.2.2.1,PA.out.2.2.2.2,HF.out.1,HF.out.2.1,HF.out.2.2⟩
      simp[intOf];omega
     have Un:(ne == 0)=false:=by simpa using hz
     clear hz;go_wp2_with fail;go_roundw;case rel=>exact⟨n - 1,L,va,vc,by go_num,by rw[Ai.out],HO.out.1,HO.out.2.1,by have:=Ai.out;omega,HO.out.2.2.1,HO.out.2.2.2,HF.out.1,HF.out.2.1,HF.out.2.2⟩
     simp[intOf];omega
  have hge:¬(0:Int)<(n:Int):=by omega
  have N1:=gh 3 (by omega) (by omega) T wr hT;go_wp2_with fail
  (with_reducible refine N1.mono ?_);rintro e w2 ⟨⟨n2,ZT,rfl⟩,yZ,aL⟩;have oG:=ai.ag aL (fun _ e=>e) _ _ _ _ hL;have KP:=hK.ag aL;have aaZ:=hU.trans aL (fun _ _ e=>e);clear N1 hL hT hK hU aL;go_wp2_with fail
  go_loopw [3,9] (fun v3 v9 wz=>∃(k:Nat)(M:List Mv)(ma:Option Addr)(mc:Nat),v9=.int .i64 (k:Int)/\k<=2/\v3=.slice ma M.length mc/\jn M/\eD M/\M.length<=6/\M.length<=mc/\ai (cv T) wz 6 (M.map Mv.az) ma 0/\bL wz T/\aW T wz/\af (cv T) w wz)
    (fun _ v9 _=>(intOf v9).toNat)
  case atStart=>exact⟨n2,L,va,vc,rfl,by omega,by rw[Ai.out],hP,Dz,by have:=Ai.out;omega,Ce,oG,yZ,KP,aaZ⟩
  clear hP Dz Ce hLn aiL oG yZ KP aaZ;obtain⟨k,M,ma,mc,rfl,yJ,rfl,hP,Dz,yB,YH,hM,hT,hK,hU⟩:=hrel;have hki:(k:Int)<=2:=by omega
  obtain⟨Ml,RD⟩:∃ k,k=M.length:=⟨_,rfl⟩;have art:Ml<=6:=by omega
  rw[<-RD];have HMl:=ak RD;clear RD;by_cases nL:0<k/\0<Ml
  ·obtain⟨KW,pf⟩:=nL;have amY:(0:Int)<(k:Int):=by omega
   have anh:(0:Int)<(Ml:Int):=by omega
   have NX:=gh (Ml:Int) (by omega) (by omega) T wr hT;go_upto_region 12 with fail;go_wp2_with fail
   (with_reducible refine NX.mono ?_);rintro e w4 ⟨⟨c4,hc4,rfl⟩,Jf,bw⟩;have xK:=ai.ag bw (fun _ e=>e) _ _ _ _ hM;have hK4:=hK.ag bw;have acj:=hU.trans bw (fun _ _ e=>e);have TY:=nR 2 (by omega) 0 Ml (by omega) (by omega) T w4 Jf hK4;rw[show((2:Nat):Int)=2 from rfl,show((0:Nat):Int)=0 from rfl]at TY;have apv:=Jf.lt;clear NX hM hT hK hU bw;go_wp2_with fail
   (with_reducible refine TY.mono ?_);rintro e w5 ⟨k5,i5,n5,a5,l5,q5,u,rfl,gN,ES,qT,uG,ba⟩;have GG:=ai.ag ba (fun _ e=>e) _ _ _ _ xK;have Z9:=acj.trans ba (fun _ _ e=>e);have xV:u.wt<=35:=by have:=ES.wt;omega
   have qx:=y9 ES.LX;have ee:=Tm.bB u;have A8:aw (cv T) w5 u.az [.int .i64 k5,.string (B n5),.int .i64 i5,.slice a5 l5 q5]:=aw.weaken (fun b _ e=>by simp only[cv]at e;omega) _ _ gN;have SV:=yh (cv T) M hP.stR (c4:Int) u (by omega) w5 (fun b e=>by simp only[cv]at e;have:=qT.lt;omega) ma mc YH _ GG A8;rw[<-HMl.out]at SV;have hPn:=hP.solve (i:=(c4:Int)) (m:=u) (by omega);have Y5:=Dz.solve (i:=(c4:Int)) (u:=u) qx;have hlen:(ku M (c4:Int) u).length=M.length:=by unfold ku;split;(rfl);exact eF _ _ _
   have HO:=ak (And.intro hP (And.intro Dz (And.intro yB (And.intro YH (And.intro GG (And.intro qT (And.intro uG Z9)))))));have PA:=ak (And.intro hPn (And.intro Y5 (by rw[hlen];exact yB:(ku M (c4:Int) u).length<=6)));clear TY hP Dz xK yB YH GG qT uG Z9 hPn Y5 hlen gN A8 ES qx ee xV Jf hK4 acj ba;generalize pS M (c4:Int) u=ne at *
   generalize ku M (c4:Int) u=ns at *
   go_wp2_with fail
   (with_reducible refine SV.mono ?_);rintro e w6 ⟨a6,c6,rfl,EV,Kl,bj⟩;have h1:=HO.out.2.2.2.2.1.on bj;have h2:=HO.out.2.2.2.2.2.1.on bj;have h3:=HO.out.2.2.2.2.2.2.1.on bj;have h4:=HO.out.2.2.2.2.2.2.2.trans bj (fun _ _ e=>e.elim);have HF:=ak (And.intro h1 (And.intro h2 (And.intro h3 (And.intro h4 (And.intro EV Kl)))));clear SV h1 h2 h3 h4 EV Kl bj;by_cases hz:ne=0
   ·have Un:(ne == 0)=true:=by simpa using hz
    clear hz;go_wp2_with fail;go_roundw;case rel=>exact⟨k - 1,ns,a6,c6,by go_num,by omega,rfl,PA.out.1,PA.out.2.1,PA.out.2.2,HF.out.2.2.2.2.1,HF.out.2.2.2.2.2,HF.out.2.1,HF.out.2.2.1,HF.out.2.2.2.1⟩
    simp[intOf];omega
   have Un:(ne == 0)=false:=by simpa using hz
   clear hz;go_wp2_with fail;go_roundw;case rel=>exact⟨k - 1,M,ma,mc,by go_num,by omega,by rw[HMl.out],HO.out.1,HO.out.2.1,HO.out.2.2.1,HO.out.2.2.2.1,HF.out.1,HF.out.2.1,HF.out.2.2.1,HF.out.2.2.2.1⟩
   simp[intOf];omega
  have hz:¬(0:Int)<(k:Int)\/((0:Int)<(k:Int)/\¬(0:Int)<(Ml:Int)):=by omega
  have HO:=ak (And.intro hP (And.intro Dz (And.intro yB (And.intro YH (And.intro hM (And.intro hT (And.intro hK hU)))))));clear nL hP Dz yB YH hM hT hK hU;rcases hz with hz |⟨mX,GY⟩
  all_goals
    go_wp2_with fail;refine bodyPost_ret (v:=.slice ma Ml mc) (by simp[results,Tryz.f23,go_sem]) rfl ?_;exact⟨M,ma,mc,by rw[HMl.out],HO.out⟩
end Go.Proofs.YthgmimncdjhgnaaGreatDoor
