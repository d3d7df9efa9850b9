/- AbstractCounts: its walk. -/
import Derived.Test.YthgmimncdjhgnaaGreatDoorVFY
import Derived.Test.YthgmimncdjhgnaaGreatDoorVFX
import Derived.Test.YthgmimncdjhgnaaGreatDoorVAbsC
import Derived.Test.YthgmimncdjhgnaaGreatDoorVAbsK
import Derived.Test.YthgmimncdjhgnaaGreatDoorVFN
import Derived.Test.YthgmimncdjhgnaaGreatDoorVCH
import Derived.Deep.CutRange
set_option maxRecDepth 100000
set_option maxHeartbeats 16000000
namespace Go.Proofs.YthgmimncdjhgnaaGreatDoor
open Go.RowKit Go.LF
abbrev qt(W:World)(P Q nb no mb mo:Nat)(t0 t1 t2 t3 u0 u1 u2 u3 m0 m1 m2 m3 n0 n1 n2 n3:Value)(w':World):Prop:=
  (w'.cell? ⟨P,0,none⟩=some t0/\w'.cell? ⟨P,1,none⟩=some t1/\w'.cell? ⟨P,2,none⟩=some t2/\w'.cell? ⟨P,3,none⟩=some t3)/\
  (w'.cell? ⟨Q,0,none⟩=some u0/\w'.cell? ⟨Q,1,none⟩=some u1/\w'.cell? ⟨Q,2,none⟩=some u2/\w'.cell? ⟨Q,3,none⟩=some u3)/\
  (w'.cell? ⟨nb,no,none⟩=some m0/\w'.cell? ⟨nb,no+1,none⟩=some m1/\w'.cell? ⟨nb,no+2,none⟩=some m2/\w'.cell? ⟨nb,no+3,none⟩=some m3)/\
  (w'.cell? ⟨mb,mo,none⟩=some n0/\w'.cell? ⟨mb,mo+1,none⟩=some n1/\w'.cell? ⟨mb,mo+2,none⟩=some n2/\w'.cell? ⟨mb,mo+3,none⟩=some n3)/\zD zC W w'
theorem zA8{w w':World}{b o:Nat}{c0 c1 c2 c3:Value}(hU:zD zC w w')(h:w.cell? ⟨b,o,none⟩=some c0/\w.cell? ⟨b,o+1,none⟩=some c1/\w.cell? ⟨b,o+2,none⟩=some c2/\w.cell? ⟨b,o+3,none⟩=some c3):
    w'.cell? ⟨b,o,none⟩=some c0/\w'.cell? ⟨b,o+1,none⟩=some c1/\w'.cell? ⟨b,o+2,none⟩=some c2/\w'.cell? ⟨b,o+3,none⟩=some c3:=⟨hU.cell h.1 (fun x=>x),hU.cell h.2.1 (fun x=>x),hU.cell h.2.2.1 (fun x=>x),hU.cell h.2.2.2 (fun x=>x)⟩
theorem qt.on{W w' w1:World}{P Q nb no mb mo:Nat}{t0 t1 t2 t3 u0 u1 u2 u3 m0 m1 m2 m3 n0 n1 n2 n3:Value}(h:qt W P Q nb no mb mo t0 t1 t2 t3 u0 u1 u2 u3 m0 m1 m2 m3 n0 n1 n2 n3 w')(hU:zD zC w' w1):qt W P Q nb no mb mo t0 t1 t2 t3 u0 u1 u2 u3 m0 m1 m2 m3 n0 n1 n2 n3 w1:=
  ⟨XL hU h.1,XL hU h.2.1,zA8 hU h.2.2.1,zA8 hU h.2.2.2.1,h.2.2.2.2.and hU⟩
theorem qt.up{W w':World}{P Q nb no mb mo:Nat}{t0 t1 t2 t3 u0 u1 u2 u3 m0 m1 m2 m3 n0 n1 n2 n3:Value}(h:qt W P Q nb no mb mo t0 t1 t2 t3 u0 u1 u2 u3 m0 m1 m2 m3 n0 n1 n2 n3 w'):zD zC W w':=h.2.2.2.2
abbrev Zk(W:World)(P nb no:Nat)(t0 t1 t2 t3 m0 m1 m2 m3:Value)(w':World):Prop:=
  (w'.cell? ⟨P,0,none⟩=some t0/\w'.cell? ⟨P,1,none⟩=some t1/\w'.cell? ⟨P,2,none⟩=some t2/\w'.cell? ⟨P,3,none⟩=some t3)/\
  (w'.cell? ⟨nb,no,none⟩=some m0/\w'.cell? ⟨nb,no+1,none⟩=some m1/\w'.cell? ⟨nb,no+2,none⟩=some m2/\w'.cell? ⟨nb,no+3,none⟩=some m3)/\zD zC W w'
theorem Zk.on{W w' w1:World}{P nb no:Nat}{t0 t1 t2 t3 m0 m1 m2 m3:Value}(h:Zk W P nb no t0 t1 t2 t3 m0 m1 m2 m3 w')(hU:zD zC w' w1):Zk W P nb no t0 t1 t2 t3 m0 m1 m2 m3 w1:=
  ⟨XL hU h.1,⟨hU.cell h.2.1.1 (fun x=>x),hU.cell h.2.1.2.1 (fun x=>x),hU.cell h.2.1.2.2.1 (fun x=>x),hU.cell h.2.1.2.2.2 (fun x=>x)⟩,h.2.2.and hU⟩
theorem Zk.new{W w':World}{P nb no:Nat}{t0 t1 t2 t3 m0 m1 m2 m3:Value}(h:Zk W P nb no t0 t1 t2 t3 m0 m1 m2 m3 w')(o:Obj):Zk W P nb no t0 t1 t2 t3 m0 m1 m2 m3 (w'.alloc o):=h.on ((zD.refl zC _).alloc o)
theorem Zk.drew{W w':World}{P nb no:Nat}{t0 t1 t2 t3 m0 m1 m2 m3:Value}(h:Zk W P nb no t0 t1 t2 t3 m0 m1 m2 m3 w'):Zk W P nb no t0 t1 t2 t3 m0 m1 m2 m3 w'.drew:=h.on (zD.refl zC _).drew
theorem Zk.up{W w':World}{P nb no:Nat}{t0 t1 t2 t3 m0 m1 m2 m3:Value}(h:Zk W P nb no t0 t1 t2 t3 m0 m1 m2 m3 w'):zD zC W w':=h.2.2
theorem Zk.Zn{W w':World}{P nb no:Nat}{t0 t1 t2 t3 m0 m1 m2 m3:Value}(h:Zk W P nb no t0 t1 t2 t3 m0 m1 m2 m3 w'){r:Nat}(hr:W.heap.size<=r)(h1:P<W.heap.size)(h2:nb<W.heap.size)(d0 d1 d2 d3:Value):
    Zk W P nb no t0 t1 t2 t3 m0 m1 m2 m3 ((((w'.setCell ⟨r,0,none⟩ d0).setCell ⟨r,1,none⟩ d1).setCell ⟨r,2,none⟩ d2).setCell ⟨r,3,none⟩ d3):=by
  have hs:zD (fun b=>b=r) w' ((((w'.setCell ⟨r,0,none⟩ d0).setCell ⟨r,1,none⟩ d1).setCell ⟨r,2,none⟩ d2).setCell ⟨r,3,none⟩ d3):=zD.set (zD.set (zD.set (zD.set (zD.refl _ _) 0 _) 1 _) 2 _) 3 _;have e1:¬P=r:=by omega
  have e2:¬nb=r:=by omega
  obtain⟨⟨a0,a1,a2,a3⟩,⟨b0,b1,b2,b3⟩,u⟩:=h;exact⟨⟨hs.cell a0 e1,hs.cell a1 e1,hs.cell a2 e1,hs.cell a3 e1⟩,⟨hs.cell b0 e2,hs.cell b1 e2,hs.cell b2 e2,hs.cell b3 e2⟩,u.trans hs (fun b hb e=>by omega)⟩
abbrev Qi:Obj:=.cells #[.int .i64 0,.string (B []),.int .i64 0,.slice none 0 0] 29
theorem zIv{Y wa:World}{o:Obj}{p:Prop}(hU:zD zC ((Y.alloc Qi).alloc o).drew wa)(h:zK wa Y.heap.size (.int .i64 0) (.string (B [])) (.int .i64 0) (.slice none 0 0) 29->Y.heap.size<((Y.alloc Qi).alloc o).drew.heap.size->p):p:=
  h ((((zK.zJ rfl:zK (Y.alloc Qi) Y.heap.size _ _ _ _ 29).kept ((zD.refl zC _).alloc _)).kept (zD.refl zC _).drew).kept hU) (by simp only[World.size_alloc,World.size_drew];omega)
theorem zIs{Y wa:World}{o:Obj}{p:Prop}(hU:zD zC ((Y.alloc o).alloc Qi).drew wa)(h:zK wa (Y.heap.size+1) (.int .i64 0) (.string (B [])) (.int .i64 0) (.slice none 0 0) 29->Y.heap.size+1<((Y.alloc o).alloc Qi).drew.heap.size->p):p:=
  h (((zK.zJ (by simp):zK ((Y.alloc o).alloc Qi) (Y.heap.size+1) _ _ _ _ 29).kept (zD.refl zC _).drew).kept hU) (by simp only[World.size_alloc,World.size_drew];omega)
theorem zK.zGB{W:World}{g:Nat}{c0 c1 c2 c3:Value}{T:TypeId}(h:zK W g c0 c1 c2 c3 T):(W.cell? ⟨g,0,none⟩=some c0/\W.cell? ⟨g,1,none⟩=some c1/\W.cell? ⟨g,2,none⟩=some c2/\W.cell? ⟨g,3,none⟩=some c3)/\(W.frozen? ⟨g,0,none⟩=false/\W.frozen? ⟨g,1,none⟩=false/\W.frozen? ⟨g,2,none⟩=false/\W.frozen? ⟨g,3,none⟩=false)/\g<W.heap.size:=⟨h.cells,h.zI,h.lt⟩
theorem X2(l0:List Int)(a0:Option Addr)(len0 cap0:Nat)(hl0:l0.length=len0)(hlen0:len0<=17592186044416)(m0:List Int)(b0:Option Addr)(len1 cap1:Nat)(hl1:m0.length=len1)(hlen1:len1<=17592186044416)(w:World)(hE0:zH zC w 1 (l0.map (xC.int .i64)) a0 0)(hE1:zH zC w 1 (m0.map (xC.int .i64)) b0 0)(hN:Xg w):
    Calls Tryz.prog 6 #[.slice a0 len0 cap0,.slice b0 len1 cap1] w fun e w'=>e=.returned (.bool true)/\zD zC w w':=by
  obtain⟨w1,hw1⟩:∃ w1,w1=w.alloc (.cells #[.slice a0 len0 cap0,.int .i64 0] 45):=⟨_,rfl⟩;have hU1:zD zC w w1:=by rw[hw1];exact(zD.refl zC w).alloc _
  have hT1:yG w1 w.heap.size:=by
    rw[hw1];exact zDX (w:=w) (cap:=cap0) (U:=45) hl0 hlen0 hE0
  have hK1:ze w.heap.size w1:=hN.ok hU1 (by omega);have ST:=zD0 _ w1 hT1 hK1;have HW1:=zG hw1;have hT2:=fun(W:World)(hU:zD zC w W)=>zDX (cap:=cap1) (U:=45) hl1 hlen1 (hE1.on hU)
  have hK2:=fun(W:World)(hU:zD zC w W)=>hN.ok (hU.alloc (.cells #[.slice b0 len1 cap1,.int .i64 0] 45)) hU.size
  clear hw1 hT1 hK1;go_enter Tryz.func6,Tryz.ntmps6
  go_upto_region 1 with fail
  go_wp2_with fail
  rw[<-HW1.out]
  (with_reducible refine ST.mono ?_);rintro e w2 ⟨L,va,vc,rfl,hP,hSh,hL6,hLc,hL,_,_,hU2⟩;have hUw2:zD zC w w2:=hU1.trans hU2 (fun b hb e=>by simp only[yU]at e;omega);have hL2:=zH.weaken (O':=zC) (fun _ _ e=>e.elim) _ _ _ _ hL;obtain⟨w3,hw3⟩:∃ w3,w3=w2.alloc (.cells #[.slice b0 len1 cap1,.int .i64 0] 45):=⟨_,rfl⟩;have hU3:zD zC w2 w3:=by rw[hw3];exact(zD.refl zC w2).alloc _
  have hT3:yG w3 w2.heap.size:=by rw[hw3];exact hT2 w2 hUw2
  have hK3:ze w2.heap.size w3:=by rw[hw3];exact hK2 w2 hUw2
  have hz3:w3.heap.size=w2.heap.size+1:=by rw[hw3];simp
  have HW3:=zG hw3;obtain⟨T,hTT⟩:∃ T,T=w2.heap.size:=⟨_,rfl⟩;rw[<-hTT]at hT3 hK3 hz3;have HT:=zG hTT;have TY:Calls Tryz.prog 26 #[.pointer (some ⟨T,0,none⟩),.int .i64 3,.int .i64 0,.int .i64 (L.length:Int)] w3 (zDN w3.heap.size 3 0 L.length T w3):=zEE 3 (by omega) 0 L.length (by omega) (by omega) T w3 hT3 hK3;have TM:∀ W,yG W T->ze T W->Calls Tryz.prog 28 #[.pointer (some ⟨T,0,none⟩),.int .i64 3,.int .i64 0,.int .i64 (L.length:Int)] W (zAB W.heap.size 3 0 L.length T W):=fun W h1 h2=>qv 3 (by omega) 0 L.length (by omega) (by omega) T W h1 h2
  have hL3:zH (yU T) w3 6 (L.map Mv.zN) va 0:=(zH.weaken (fun b _ e=>.inr (by simp only[yU]at e;omega)) _ _ _ _ (zH.zS _ _ _ _ hL2)).on hU3;have hUw3:=hUw2.and hU3;clear hw3 hTT ST hT2 hK2 hE0 hE1 hl0 hl1 hL hL2 hT3 hK3 hN;go_upto_region 3 with fail
  rw[<-HW3.out,<-HT.out];go_wp2_with fail
  (with_reducible refine TY.mono ?_);rintro e w4 ⟨k4,i4,nm4,a4,zG2,cap4,t,rfl,hR4,hF4,hT4,hK4,hU4⟩;have hz4:=hU4.size;obtain⟨w5,hw5⟩:∃ w5,w5=w4.alloc (.cells #[.int .i64 k4,.string (B nm4),.int .i64 i4,.slice a4 zG2 cap4] 29):=⟨_,rfl⟩;have hU5:zD zC w4 w5:=by rw[hw5];exact(zD.refl zC w4).alloc _
  have ht5:zK w5 w4.heap.size (.int .i64 k4) (.string (B nm4)) (.int .i64 i4) (.slice a4 zG2 cap4) 29:=by rw[hw5];exact zK.zJ rfl
  have hT5:yG w5 T:=hT4.Xz hU5 (fun b e=>by cases e);have hK5:ze T w5:=hK4.Xz hU5 (fun b e=>by cases e);have hR5:zL (yU T) w5 t.zN [.int .i64 k4,.string (B nm4),.int .i64 i4,.slice a4 zG2 cap4]:=(zL.weaken (fun b _ e=>by simp only[yU]at e;omega) _ _ hR4).on hU5;have hL4:=zH.zF hU4 (fun _ e=>e) _ _ _ _ hL3;have hL5:=hL4.on hU5;have TM5:=TM w5 hT5 hK5;have hU35:zD (yU T) w3 w5:=hU4.trans hU5 (fun _ _ e=>e.elim);have HW5:=zG hw5;obtain⟨P,hP5⟩:∃ P,P=w4.heap.size:=⟨_,rfl⟩;rw[<-hP5]at ht5;have HP5:=zG hP5;have hPT:P≠T:=by omega
  clear hw5 hP5 TY TM hR4 hT4 hK4 hL3 hL4 hU4 hT5 hK5 hU5;go_upto_region 4 with fail
  rw[<-HP5.out,<-HW5.out];go_wp2_with fail
  (with_reducible refine TM5.mono ?_);rintro e w6 ⟨k6,i6,nm6,a6,len6,cap6,x,rfl,hR6,hF6,_,_,hU6⟩;have hz6:=hU6.size;obtain⟨w7,hw7⟩:∃ w7,w7=w6.alloc (.cells #[.int .i64 k6,.string (B nm6),.int .i64 i6,.slice a6 len6 cap6] 29):=⟨_,rfl⟩;have hU7:zD zC w6 w7:=by rw[hw7];exact(zD.refl zC w6).alloc _
  have hx7:zK w7 w6.heap.size (.int .i64 k6) (.string (B nm6)) (.int .i64 i6) (.slice a6 len6 cap6) 29:=by rw[hw7];exact zK.zJ rfl
  have hU57:zD (yU T) w5 w7:=hU6.trans hU7 (fun _ _ e=>e.elim);have hRt7:=zL.weaken (O':=zC) (fun _ _ e=>e.elim) _ _ (zL.zF hU57 (fun _ e=>e) _ _ hR5);have hRx7:=(zL.weaken (O':=zC) (fun _ _ e=>e.elim) _ _ hR6).on hU7;have hL7:=zH.weaken (O':=zC) (fun _ _ e=>e.elim) _ _ _ _ (zH.zF hU57 (fun _ e=>e) _ _ _ _ hL5);have ht7:=ht5.zF hU57 (by simp only[yU];omega);have hUw7:zD zC w w7:=(hUw3.trans hU35 (fun b hb e=>by simp only[yU]at e;have:=hUw2.size;have:=HT.out;omega)).trans hU57 (fun b hb e=>by simp only[yU]at e;have:=hUw2.size;have:=HT.out;omega)
  have hts:∀ y∈t :: [x],y.wt<=1000000/\(y.wf=0->(∀ i∈Tm.zM y,i<((L.length:Nat):Int))->Kn ((L.length:Nat):Int) y):=fun y hy=>by
    simp only[List.mem_cons,List.not_mem_nil,or_false]at hy;rcases hy with rfl |rfl
    ·exact⟨by have:=hF4.wt;omega,fun h1 h2=>QD _ h1 (by have:=hF4.size;omega) h2⟩
    ·exact⟨by have:=hF6.wt;omega,fun h1 h2=>QD _ h1 (by have:=hF6.size;omega) h2⟩
  have HTS:=zG hts
  have har:∀ y∈t :: [x],Tm.yk Ar y:=fun y hy=>by
    simp only[List.mem_cons,List.not_mem_nil,or_false]at hy;rcases hy with rfl |rfl
    ·exact Tm.Y8 _ (by have:=hF4.size;omega)
    ·exact Tm.Y8 _ (by have:=hF6.size;omega)
  have HAR:=zG har;clear har;have al8:=(zD.refl zC w7).alloc (.cells #[.int .i64 k6,.string (B nm6),.int .i64 i6,.slice a6 len6 cap6] 29);have AB:=Yj L hP.plz hSh (by omega) t [x] (by simp) hts _ _ vc _ (some ⟨w7.heap.size,0,none⟩) 1 (hL7.on al8) (hRt7.on al8) (QM (t:=x) (hRx7.on al8) (fun x=>x) (zK.zJ rfl));have HW7:=zG hw7;obtain⟨Q,hQ⟩:∃ P,P=w6.heap.size:=⟨_,rfl⟩;rw[<-hQ]at hx7;have HQ:=zG hQ;obtain⟨Ll,hLl⟩:∃ k,k=L.length:=⟨_,rfl⟩;simp only[List.length_cons,List.length_nil,Nat.zero_add]at AB;rw[<-hLl]at AB;rw[<-hLl];have HLl:=zG hLl;clear hw7 hQ hLl TM5 hR6 hU6 hU7 hU57 hR5 hL5 ht5 hU35 hF4 hF6 hts hUw3 hUw2 hU2 hU1;obtain⟨x0,x1,x2,x3⟩:=hx7.cells;obtain⟨t0,t1,t2,t3⟩:=ht7.cells;go_upto_region 5 with fail
  rw[<-HQ.out,<-HW7.out];go_wp2_with fail
  (with_reducible refine AB.mono ?_);rintro e w9 ⟨k9,i9,nm9,a9,len9,cap9,va9,vc9,rfl,hvc9,hB9',hM9',hU9⟩;have hB9:=zL.weaken (O':=zC) (fun _ _ e=>e.elim) _ _ hB9';have hM9:=zH.weaken (O':=zC) (fun _ _ e=>e.elim) _ _ _ _ hM9';have hU79:=al8.and hU9;obtain⟨w10,hw10⟩:∃ w10,w10=w9.alloc (.cells #[.int .i64 k9,.string (B nm9),.int .i64 i9,.slice a9 len9 cap9] 29):=⟨_,rfl⟩;have hU10:zD zC w9 w10:=by rw[hw10];exact(zD.refl zC w9).alloc _
  have hb10:zK w10 w9.heap.size (.int .i64 k9) (.string (B nm9)) (.int .i64 i9) (.slice a9 len9 cap9) 29:=by rw[hw10];exact zK.zJ rfl
  have hU710:=hU79.and hU10;have hRt:=hRt7.on hU710;have hRx:=hRx7.on hU710;have hL10:=hL7.on hU710;have ht10:=ht7.kept hU710;have hx10:=hx7.kept hU710;have hB10:=hB9.on hU10;have hM10:=hM9.on hU10;have hUw10:=hUw7.and hU710;have HW10:=zG hw10;obtain⟨S,hS⟩:∃ P,P=w9.heap.size:=⟨_,rfl⟩;rw[<-hS]at hb10;have HS:=zG hS;clear hw10 hS AB x0 x1 x2 x3 t0 t1 t2 t3 hU9 hU79 hU10 hRt7 hRx7 hL7 ht7 hx7 hB9 hM9 hUw7 hU710 al8;obtain⟨E,hE⟩:∃ E,E=ZC L t [x]:=⟨_,rfl⟩;go_upto_region 6 with fail
  rw[<-HS.out,<-HW10.out,<-hE];by_cases hz:E=0
  case neg=>
    obtain⟨h1,h2,h3⟩:=zF8 (l:=L) (a:=t) (ms:=[x]) (by rw[<-hE];exact hz);have hzb:(E !=0)=true:=by simpa using hz
    have hzb2:(E == 0)=false:=by simpa using hz
    have HE:=zG hE;have hz9:=hz;rw[h2,h3];clear hE hz h1 h2 h3 hM10 hB10;simp only[List.length_nil];go_upto_region 7 with fail
    go_wp2_with fail
    (with_reducible refine(zFs w10).mono ?_);rintro e w11 ⟨rfl,hU11⟩;go_wp2_with fail
    go_ret
    exact⟨rfl,hUw10.and hU11⟩
  subst hz;obtain⟨c1,c2,c3,c4,c5,c6,c7,c8⟩:=zE8 hP.plz hE.symm;obtain⟨w11,hw11⟩:∃ w11,w11=w10.alloc (.cells #[.int .i64 k4,.string (B nm4),.int .i64 i4,.slice a4 zG2 cap4,.int .i64 k6,.string (B nm6),.int .i64 i6,.slice a6 len6 cap6] 29):=⟨_,rfl⟩;have hU11:zD zC w10 w11:=by rw[hw11];exact(zD.refl zC w10).alloc _
  have hP2:zH zC w11 4 ([t,x].map Tm.zN) (some ⟨w10.heap.size,0,none⟩) 0:=zCE (T:=29) (hRt.on hU11) (hRx.on hU11) (fun e=>e) (by rw[hw11];exact heap_alloc_new w10 _);have UN:=zAI L hP.plz [t,x] HTS.out (by simp) w11 va vc _ 2 (hL10.on hU11) hP2;rw[c1,<-HLl.out]at UN;obtain⟨uo,huo⟩:∃ u,u=YD L [t,x]:=⟨_,rfl⟩;rw[<-huo]at UN c2;simp only[List.length_cons,List.length_nil,Nat.zero_add,Nat.reduceAdd]at UN c3;obtain⟨x0,x1,x2,x3⟩:=hx10.cells;obtain⟨t0,t1,t2,t3⟩:=ht10.cells;have HC:=zG (And.intro c4 (And.intro c5 (And.intro c6 (And.intro c7 c8))));have HW11:=zG hw11;have HHE:=zG hE;clear hE c4 c5 c6 c7 c8 hw11;go_upto_region 8 with fail
  rw[c2,c3];go_wp2_with fail
  rw[<-HW11.out]
  (with_reducible refine UN.mono ?_);rintro e w12 ⟨ua,uc,rfl,huc,hU12a,hU12⟩;have hU1012:=hU11.and hU12;have hB12:=hB10.on hU1012;have hM12:=hM10.on hU1012;have hb12:=hb10.kept hU1012;have hUw12:=hUw10.and hU1012;obtain⟨b,hb⟩:∃ b,b=ZX L t [x]:=⟨_,rfl⟩
  have hMl:∃ n,ZB L t [x]=[n]:=by
    have h9:(ZB L t [x]).length=1:=c3;match ZB L t [x],h9 with
    | [n],_=>exact⟨n,rfl⟩
  obtain⟨n,hn⟩:=hMl;rw[<-hb]at hB12;rw[hn]at hM12;obtain⟨d1,d2,d3,d4,d5⟩:=HC.out;rw[hn,<-hb]at d1 d2 d3 d4 d5;obtain⟨gb,go,kn,nn,xn,sn,cn,rfl,hgb12,_,y0,y1,y2,y3,hRn⟩:=zc hM12 0 (by simp);simp only[Nat.zero_mul,Nat.add_zero,List.getElem_cons_zero]at y0 y1 y2 y3 hRn;obtain⟨ul,hul⟩:∃ u,u=uo.length:=⟨_,rfl⟩;rw[<-hul];have hul1:((ul:Int) !=(ul:Int))=false:=by simp
  clear UN hU12a hU11 hU12 hU1012 hP2 hB10 hM10 hx10 ht10 hb10 x0 x1 x2 x3 t0 t1 t2 t3 hRt hRx hL10 hUw10;have W1:=zKf hP.plz hSh (by omega) HHE.out.symm;rw[hn,<-hb]at W1;have HW1:=zG W1;have hdd:=fun y hy=>(d1 y hy).1
  have MB:=fun(W:World)(hW:zD zC w12 W)=>xD b (W1 b (by simp)) W _ (hB12.on hW)
  have MN:=fun(W:World)(hW:zD zC w12 W)=>xD n (W1 n (by simp)) W _ (hRn.on hW)
  rw[(d1 b (by simp)).2.1]at MB;rw[(d1 n (by simp)).2.1]at MN;have HD:=zG (And.intro d1 (And.intro d2 (And.intro d3 (And.intro d4 d5))));clear W1 d1 d2 d3 d4 d5 hdd;go_upto_region 9 with fail
  go_cut [76]from 64 to 76 (fun v76 wx=>v76=.bool false/\w12=wx)
  case first=>
    go_wp2_with fail
    go_meet
    case rel=>exact⟨rfl,rfl⟩
  case rest=>
    obtain⟨rfl,rfl⟩:=hcut;obtain⟨q0,q1,q2,q3⟩:=hb12.cells;have SCb:=fun(W:World)(hW:zD zC w12 W)=>Zp b (HW1.out b (by simp)) W _ (hB12.on hW)
    have SCn:=fun(W:World)(hW:zD zC w12 W)=>Zp n (HW1.out n (by simp)) W _ (hRn.on hW)
    obtain⟨sb,hsb⟩:∃ z,z=(if b.wf == 0 then b.scope else 0):=⟨_,rfl⟩;obtain⟨sc,hsn⟩:∃ z,z=(if n.wf == 0 then n.scope else 0):=⟨_,rfl⟩;rw[<-hsb]at SCb;rw[<-hsn]at SCn;have hsb0:¬0<sb:=by rw[hsb];have:=(HD.out.1 b (by simp)).2.2;split<;>omega
    have hsn0:¬0<sc:=by rw[hsn];have:=(HD.out.1 n (by simp)).2.2;split<;>omega
    clear hsb hsn;go_upto_region 11 with fail
    go_wp2_with fail
    (with_reducible refine(MB w12 (zD.refl _ _)).mono ?_);rintro e w13 ⟨v13,rfl,hI13,hU13⟩;obtain⟨_,_,rfl,-,-⟩:=yF hI13.rep;have z0:=hU13.cell y0 (fun x=>x);have z1:=hU13.cell y1 (fun x=>x);have z2:=hU13.cell y2 (fun x=>x);have z3:=hU13.cell y3 (fun x=>x);go_wp2_with fail
    (with_reducible refine(MN w13 hU13).mono ?_);rintro e w14 ⟨v14,rfl,hI14,hU14⟩;obtain⟨_,_,rfl,-,-⟩:=yF hI14.rep;have hU1214:=hU13.and hU14;have hb14:=hb12.kept hU1214;clear z0 z1 z2 z3 q0 q1 q2 q3 hI13 hI14 hU13 hU14 MB MN;obtain⟨q0,q1,q2,q3⟩:=hb14.cells;go_wp2_with fail
    (with_reducible refine(SCb w14 hU1214).mono ?_);rintro e w15 ⟨rfl,hU15⟩;have hU1215:=hU1214.and hU15;have z0:=hU1215.cell y0 (fun x=>x);have z1:=hU1215.cell y1 (fun x=>x);have z2:=hU1215.cell y2 (fun x=>x);have z3:=hU1215.cell y3 (fun x=>x);clear q0 q1 q2 q3;go_wp2_with fail
    (with_reducible refine(SCn w15 hU1215).mono ?_);rintro e w16 ⟨rfl,hU16⟩;have hU1216:=hU1215.and hU16;clear z0 z1 z2 z3 SCb SCn;go_upto_region 13 with fail
    have hb16:=hb14.kept (hU15.and hU16);have hRb:=hB12.on hU1216;have hRn16:=hRn.on hU1216;have S16:Zk w16 S gb go (.int .i64 k9) (.string (B nm9)) (.int .i64 i9) (.slice a9 len9 cap9) (.int .i64 kn) (.string (B nn)) (.int .i64 xn) (.slice sn n.args.length cn) w16:=⟨hb16.cells,⟨hU1216.cell y0 (fun x=>x),hU1216.cell y1 (fun x=>x),hU1216.cell y2 (fun x=>x),hU1216.cell y3 (fun x=>x)⟩,zD.refl _ _⟩;have hNil:YK []:=ZZ.nil.plz
    have hNK:∀ y∈b :: [n],y.wt<=1000000/\(y.wf=0->(∀ i∈Tm.zM y,i<(([]:List Mv).length:Int))->Kn (([]:List Mv).length:Int) y):=fun y hy=>by
      refine⟨HW1.out y hy,fun h1 h2=>Xt y ((yR y h1).2 h2) ?_⟩;have h3:=zJ7 hP.plz hSh (by omega) HHE.out.symm HAR.out y;rw[hn,<-hb]at h3;exact h3 hy
    have A2:=fun(W:World)(hW:zD zC w16 W)(va:Option Addr)(vc:Nat)h=>Yj [] hNil (fun m h=>by cases h) (by simp) b [n] (by simp) hNK W none 0 _ va vc (by simp only[List.map_nil,zH]) (hRb.on hW) h
    simp only[List.length_cons,List.length_nil,Nat.zero_add]at A2;obtain⟨d1,d2,d3,d4,d5⟩:=HD.out;rw[d2,d3,d4,d5]at A2;have hz16:=hU1216.size;clear d1 d2 d3 d4 d5 hNK hNil y0 y1 y2 y3 hb14 hb12;have A3:=fun(W:World)(g:Nat)(hC:Zk w16 S gb go (.int .i64 k9) (.string (B nm9)) (.int .i64 i9) (.slice a9 len9 cap9) (.int .i64 kn) (.string (B nn)) (.int .i64 xn) (.slice sn n.args.length cn) W)(hg:zK W g (.int .i64 kn) (.string (B nn)) (.int .i64 xn) (.slice sn n.args.length cn) 29)=>A2 W hC.up (some ⟨g,0,none⟩) 1 (QM (t:=n) (hRn16.on hC.up) (fun x=>x) hg)
    have hSl:S<w16.heap.size:=hb16.lt;have hgbl:gb<w16.heap.size:=by omega
    clear hb16
    go_cut [15,16,17,18]from 101 to 112 (fun v15 v16 v17 v18 wc=>∃(R:Nat)(k i:Int)(nm:List UInt8)(a:Option Addr)(len cap:Nat)(va:Option Addr)(vc:Nat),v15=.pointer (some ⟨R,0,none⟩)/\v16=.slice va 1 vc/\v17=.int .i64 0/\v18=.int .i64 0/\
      zK wc R (.int .i64 k) (.string (B nm)) (.int .i64 i) (.slice a len cap) 29/\zL zC wc b.zN [.int .i64 k,.string (B nm),.int .i64 i,.slice a len cap]/\zH zC wc 4 ([n].map Tm.zN) va 0/\zD zC w16 wc)
    case first=>
      go_region_held3 (fun w'=>Zk w16 S gb go (.int .i64 k9) (.string (B nm9)) (.int .i64 i9) (.slice a9 len9 cap9) (.int .i64 kn) (.string (B nn)) (.int .i64 xn) (.slice sn n.args.length cn) w')
        (repeat' (first |(with_reducible assumption)|(with_reducible refine Zk.new ?_ _)|(with_reducible refine Zk.drew ?_)|(with_reducible refine Zk.Zn ?_ (by first |(exact Nat.le_refl _)|(exact Nat.le_succ _)) hSl hgbl _ _ _ _)))
        (first
          |((go_at_call 30);(with_reducible refine(A3 _ _ (by repeat' (first |(with_reducible assumption)|(with_reducible refine Zk.new ?_ _)|(with_reducible refine Zk.drew ?_))) (by first |(exact(zK.zJ rfl).kept (zD.refl zC _).drew)|(exact(zK.zJ (by simp)).kept (zD.refl zC _).drew)|(exact(zK.zJ rfl).kept ((zD.refl zC _).alloc _).drew))).mono ?_);rintro e w17 ⟨k17,i17,nm17,a17,len17,cap17,va17,vc17,rfl,hvc17,hB17,hM17,hU17⟩;have S17:=Zk.on (by repeat' (first |(with_reducible assumption)|(with_reducible refine Zk.new ?_ _)|(with_reducible refine Zk.drew ?_))) hU17;(first |(with_reducible refine zIv hU17 ?_;intro za zl;obtain⟨⟨zc0,zc1,zc2,zc3⟩,⟨zc4,zc5,zc6,zc7⟩,zc8⟩:=za.zGB)|(with_reducible refine zIs hU17 ?_;intro za zl;obtain⟨⟨zc0,zc1,zc2,zc3⟩,⟨zc4,zc5,zc6,zc7⟩,zc8⟩:=za.zGB)|skip)))
      all_goals
        go_wp2_with fail
        go_meet
      all_goals first
        |(have hset:=za.set (d0:=.int .i64 k17) (d1:=.string (B nm17)) (d2:=.int .i64 i17) (d3:=.slice a17 len17 cap17)
          exact⟨_,k17,i17,nm17,a17,len17,cap17,va17,vc17,rfl,rfl,rfl,rfl,hset.1,zL.weaken (fun _ _ e=>e.elim) _ _ (zL.zF hset.2 (fun b e=>by rw[e];exact zl) _ _ hB17),zH.weaken (fun _ _ e=>e.elim) _ _ _ _ (zH.zF hset.2 (fun b e=>by rw[e];exact zl) _ _ _ _ hM17),S17.up.trans hset.2 (fun b hb e=>by omega)⟩)
        |(have hal:=(zD.refl zC w17).alloc (.cells #[.int .i64 k17,.string (B nm17),.int .i64 i17,.slice a17 len17 cap17] 29)
          exact⟨_,k17,i17,nm17,a17,len17,cap17,va17,vc17,rfl,rfl,rfl,rfl,zK.zJ rfl,(zL.weaken (fun _ _ e=>e.elim) _ _ hB17).on hal,(zH.weaken (fun _ _ e=>e.elim) _ _ _ _ hM17).on hal,S17.up.and hal⟩)
    case rest=>
      obtain⟨R,k18,i18,nm18,a18,len18,cap18,va18,vc18,rfl,rfl,rfl,rfl,hR18,hB18,hM18,hU18⟩:=hcut;obtain⟨w18,rfl⟩:∃ q,q=wc:=⟨_,rfl⟩;clear A2 A3;have hU1218:=hU1216.and hU18;obtain⟨ga,gq,ka,na,xa,sa,ca,rfl,-,-,v0,v1,v2,v3,hRa⟩:=zc hM18 0 (by simp);simp only[Nat.zero_mul,Nat.add_zero,List.getElem_cons_zero]at v0 v1 v2 v3 hRa;have hRn18:=hRn16.on hU18;have hRb18:=hRb.on hU18
      have S18:qt w18 R S ga gq gb go (.int .i64 k18) (.string (B nm18)) (.int .i64 i18) (.slice a18 len18 cap18) (.int .i64 k9) (.string (B nm9)) (.int .i64 i9) (.slice a9 len9 cap9) (.int .i64 ka) (.string (B na)) (.int .i64 xa) (.slice sa n.args.length ca) (.int .i64 kn) (.string (B nn)) (.int .i64 xn) (.slice sn n.args.length cn) w18:=
        ⟨hR18.cells,XL hU18 S16.1,⟨v0,v1,v2,v3⟩,zA8 hU18 S16.2.1,zD.refl _ _⟩
      have Sd:=S18.on (zD.refl zC _).drew;have SA:=fun(W:World)(hW:zD zC w18 W)=>XT b (Nat.le_trans (Tm.zp b) (HW1.out b (by simp))) b W _ _ (hB18.on hW) (hRb18.on hW)
      have SB:=fun(W:World)(hW:zD zC w18 W)=>XT n (Nat.le_trans (Tm.zp n) (HW1.out n (by simp))) n W _ _ (hRa.on hW) (hRn18.on hW)
      rw[Tm.zGV]at SA SB;have hUf:=hUw12.and hU1218;clear S18 v0 v1 v2 v3 hM18 hR18 hU1218 HD HC;go_upto_region 14 with fail
      go_region_held3 (fun w'=>qt w18 R S ga gq gb go (.int .i64 k18) (.string (B nm18)) (.int .i64 i18) (.slice a18 len18 cap18) (.int .i64 k9) (.string (B nm9)) (.int .i64 i9) (.slice a9 len9 cap9) (.int .i64 ka) (.string (B na)) (.int .i64 xa) (.slice sa n.args.length ca) (.int .i64 kn) (.string (B nn)) (.int .i64 xn) (.slice sn n.args.length cn) w')
        (first |(with_reducible assumption)|(with_reducible exact Sd)|(with_reducible exact qt.on (by with_reducible assumption) (by with_reducible assumption)))
        (first
          |(go_at_call 14;(first |(with_reducible refine(SA _ (qt.up (by first |(with_reducible assumption)|(with_reducible exact Sd)))).mono ?_);rintro e w19 ⟨rfl,hU19⟩;have S19:=qt.on Sd hU19 |(with_reducible refine(SB _ (qt.up S19)).mono ?_);rintro e w20 ⟨rfl,hU20⟩;have S20:=qt.on S19 hU20))
          |(go_at_call 32;(with_reducible refine(zFs _).mono ?_);rintro e w21 ⟨rfl,hU21⟩;have S21:=qt.on S20 hU21))
      all_goals
        go_wp2_with fail
        go_ret
        exact⟨rfl,hUf.and (qt.up S21)⟩
end Go.Proofs.YthgmimncdjhgnaaGreatDoor
