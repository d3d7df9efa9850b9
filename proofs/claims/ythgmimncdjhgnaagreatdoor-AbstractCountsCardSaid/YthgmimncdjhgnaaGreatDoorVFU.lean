/- abstract.YE, Abstract's closures; a row of terms that is written in place, the first of them outside other blocks too. -/
import Derived.Test.YthgmimncdjhgnaaGreatDoorVEB
import Derived.Test.YthgmimncdjhgnaaGreatDoorVFJ
import Derived.Test.YthgmimncdjhgnaaGreatDoorVFL
import Derived.Test.YthgmimncdjhgnaaGreatDoorVFS
import Derived.Test.YthgmimncdjhgnaaGreatDoorVSC
import Derived.Deep.CutRange
import Derived.Deep.RegionLaw
set_option maxRecDepth 100000
set_option maxHeartbeats 16000000
namespace Go.Proofs.YthgmimncdjhgnaaGreatDoor
open Go.RowKit Go.LF
def X1(O:Nat->Prop)(d:Nat)(W:World)(a:Option Addr)(zs:List Tm):Prop:=
  ∀ i(_:i<zs.length),∃ g cs,a=some ⟨g,0,none⟩/\g<W.heap.size/\(∀ o,W.frozen? ⟨g,o,none⟩=false)/\cs.length=4/\(∀ m u,cs[m]? =some u->W.cell? ⟨g,i * 4+m,none⟩=some u)/\zL (fun b=>b=g\/(i<d/\O b)) W zs[i].zN cs
section
variable {O:Nat->Prop}{d:Nat}{W W':World}{a:Option Addr}{zs:List Tm}
theorem X1.start(h:qV W a zs):X1 O 0 W a zs:=by
  intro i hi;obtain⟨g,cs,h1,h2,h3,h4,h5,h6⟩:=h i hi;exact⟨g,cs,h1,h2,h3,h4,h5,zL.weaken (fun b _ e=>e.elim id (fun e=>absurd e.1 (by omega))) _ _ h6⟩
theorem X1.kept(h:X1 O d W a zs)(hU:zD zC W W'):X1 O d W' a zs:=by
  intro i hi;obtain⟨g,cs,h1,h2,h3,h4,h5,h6⟩:=h i hi;exact⟨g,cs,h1,Nat.lt_of_lt_of_le h2 hU.size,fun o=>by rw[hU.cells.2 g o h2 (fun x=>x)];exact h3 o,h4,fun m u hu=>hU.cell (h5 m u hu) (fun x=>x),h6.on hU⟩
theorem X1.put{g j d':Nat}{u:Tm}{d0 d1 d2 d3:Value}(h:X1 O d W (some ⟨g,0,none⟩) zs)(hj:j<zs.length)(hR:zL (fun b=>b=g\/(j<d'/\O b)) W u.zN [d0,d1,d2,d3])(hd:∀ i,i≠j->i<d'->i<d)
    (hW:W'=(((W.setCell ⟨g,j * 4,none⟩ d0).setCell ⟨g,j * 4+1,none⟩ d1).setCell ⟨g,j * 4+2,none⟩ d2).setCell ⟨g,j * 4+3,none⟩ d3):X1 O d' W' (some ⟨g,0,none⟩) (zs.set j u)/\zD (fun b=>b=g) W W':=by
  obtain⟨g',cs,e,hlt,hf,hcl,hc,_⟩:=h j hj;cases e
  have hcj:∀ m,m<4->∃ u,W.cell? ⟨g,j * 4+m,none⟩=some u:=fun m hm=>⟨_,hc m _ (List.getElem?_eq_getElem (by rw[hcl];exact hm))⟩
  obtain⟨_,u0⟩:=hcj 0 (by omega);obtain⟨_,u1⟩:=hcj 1 (by omega);obtain⟨_,u2⟩:=hcj 2 (by omega);obtain⟨_,u3⟩:=hcj 3 (by omega);obtain⟨⟨v0,v1,v2,v3⟩,hoth,hU⟩:=Zq (d0:=d0) (d1:=d1) (d2:=d2) (d3:=d3) u0 u1 u2 u3 hW;refine⟨fun i hi=>?_,hU⟩;have hi':i<zs.length:=by simpa using hi
  obtain⟨g',cs',e,hlt',hf',hcl',hc',h7⟩:=h i hi';cases e
  have hfr:∀ o,W'.frozen? ⟨g,o,none⟩=false:=fun o=>by rw[hW];simp only[World.frozen?_setCell];exact hf o
  by_cases hij:i=j
  ·subst hij;refine⟨g,[d0,d1,d2,d3],rfl,Nat.lt_of_lt_of_le hlt hU.size,hfr,rfl,fun m x hx=>?_,?_⟩
   ·match m,hx with
    |0,hx=>cases hx;exact v0
    |1,hx=>cases hx;exact v1
    |2,hx=>cases hx;exact v2
    |3,hx=>cases hx;exact v3
   ·simp only[List.getElem_set_self];exact zL.zF hU (fun b e=>.inl e) _ _ hR
  ·refine⟨g,cs',rfl,Nat.lt_of_lt_of_le hlt hU.size,hfr,hcl',fun m x hx=>?_,?_⟩
   ·have hm:m<4:=by rw[<-hcl'];exact(List.getElem?_eq_some_iff.1 hx).1
    rw[hoth _ (by omega) (by omega) (by omega) (by omega)];exact hc' m x hx
   ·rw[List.getElem_set_ne (by omega)];exact zL.zF hU (fun b e=>.inl e) _ _ (zL.weaken (fun b _ e=>e.elim .inl (fun e=>.inr ⟨hd i hij e.1,e.2⟩)) _ _ h7)
theorem X1.open(h:X1 O d W a zs){j:Nat}(hj:j<zs.length):∃ g k n i b c,a=some ⟨g,0,none⟩/\g<W.heap.size/\(∀ o,W.frozen? ⟨g,o,none⟩=false)/\
    (W.cell? ⟨g,j * 4,none⟩=some (.int .i64 k)/\W.cell? ⟨g,j * 4+1,none⟩=some (.string (B n))/\W.cell? ⟨g,j * 4+2,none⟩=some (.int .i64 i)/\W.cell? ⟨g,j * 4+3,none⟩=some (.slice b zs[j].args.length c))/\
    zL (fun b=>b=g\/(j<d/\O b)) W zs[j].zN [.int .i64 k,.string (B n),.int .i64 i,.slice b zs[j].args.length c]:=by
  obtain⟨g,cs,h1,h2,h3,h4,h5,h6⟩:=h j hj;obtain⟨k,n,i,ts,b,c,e,rfl,_,_⟩:=zW h6;have e2:zs[j].args.length=ts.length:=by rw[e];rfl
  rw[e2];exact⟨g,k,n,i,b,c,h1,h2,h3,⟨by simpa using h5 0 _ rfl,h5 1 _ rfl,h5 2 _ rfl,h5 3 _ rfl⟩,h6⟩
theorem X1.rep(h:X1 O d W a zs)(hO:∀ g,0<zs.length->a=some ⟨g,0,none⟩->¬O g)(hd:zs.length<=d):zH O W 4 (zs.map Tm.zN) a 0:=by
  refine zt _ _ _ (fun i hi=>?_);simp only[List.length_map]at hi;obtain⟨g,cs,rfl,hlt,_,hcl,hc,h7⟩:=h i hi;refine⟨g,0,cs,rfl,hlt,hO g (by omega) rfl,hcl,fun m u hu=>?_,?_⟩
  ·rw[show 0+0+i * 4+m=i * 4+m by omega];exact hc m u hu
  ·simp only[List.getElem_map];exact zL.weaken (fun b _ e=>.inr ⟨by omega,e⟩) _ _ h7
end
theorem XP(E:Int)(w:World):Calls Tryz.prog 65 #[.int .i64 E] w fun e w'=>e=.returned (.tuple #[.agg #[.int .i64 0,.string (B []),.int .i64 0,.slice none 0 0],.slice none 0 0,.int .i64 0,.int .i64 E])/\zD zC w w':=by
  obtain⟨w1,hw1⟩:∃ w1,w1=w.alloc (.cells #[.int .i64 0,.string (B []),.int .i64 0,.slice none 0 0] 29):=⟨_,rfl⟩;have hU1:zD zC w w1:=by rw[hw1];exact(zD.refl zC w).alloc _
  have hr1:zK w1 w.heap.size (.int .i64 0) (.string (B [])) (.int .i64 0) (.slice none 0 0) 29:=by rw[hw1];exact zK.zJ rfl
  have HW1:=zG hw1;clear hw1;obtain⟨x0,x1,x2,x3⟩:=hr1.cells;obtain⟨y0,y1,y2,y3⟩:=hr1.zI;have hlt:=hr1.lt;go_enter Tryz.func65,Tryz.ntmps65
  go_upto_region 1 with fail
  rw[<-show B []={ data:=#[] }from rfl,<-HW1.out];go_wp2_with fail
  have hset:=hr1.set (d0:=.int .i64 0) (d1:=.string (B [])) (d2:=.int .i64 0) (d3:=.slice none 0 0);obtain⟨w9,hw9⟩:∃ q,q=(((w1.setCell ⟨w.heap.size,0,none⟩ (.int .i64 0)).setCell ⟨w.heap.size,1,none⟩ (.string (B []))).setCell ⟨w.heap.size,2,none⟩ (.int .i64 0)).setCell ⟨w.heap.size,3,none⟩ (.slice none 0 0):=⟨_,rfl⟩;rw[<-hw9]at hset;rw[<-show B []={ data:=#[] }from rfl,<-hw9];clear hw9;obtain⟨e0,e1,e2,e3⟩:=hset.1.cells;refine bodyPost_ret (v:=.tuple #[.agg #[.int .i64 0,.string (B []),.int .i64 0,.slice none 0 0],.slice none 0 0,.int .i64 0,.int .i64 E]) ?_ rfl ?_
  ·simp[results,Tryz.f65,go_sem,e0,e1,e2,e3]
  ·exact⟨rfl,hU1.trans hset.2 (fun b hb e=>by omega)⟩
theorem zIL(t:Tm)(hs:t.wt<=1000000)(w:World)(cs:List Value)(h:zL zC w t.zN cs):
    Calls Tryz.prog 69 #[.agg cs.toArray] w fun e w'=>e=.returned (.bool (!(t.isObj && t.small)))/\zD zC w w':=by
  obtain⟨k,n,i,ts,a,cap,_,rfl,_,_⟩:=zW h;obtain⟨w1,hw1⟩:∃ w1,w1=w.alloc (.cells #[.int .i64 k,.string (B n),.int .i64 i,.slice a ts.length cap] 29):=⟨_,rfl⟩;have hU1:zD zC w w1:=by rw[hw1];exact(zD.refl zC w).alloc _
  have hB1:zK w1 w.heap.size (.int .i64 k) (.string (B n)) (.int .i64 i) (.slice a ts.length cap) 29:=by rw[hw1];exact zK.zJ rfl
  have C:=QG t hs w1 _ (h.on hU1);have HW:=zG hw1;clear hw1 h;generalize (t.isObj && t.small)=b at *
  obtain⟨x0,x1,x2,x3⟩:=hB1.cells;go_enter Tryz.func69,Tryz.ntmps69
  go_wp2_with fail
  rw[<-HW.out];refine C.mono ?_;rintro e w2 ⟨rfl,hU2⟩;go_wp2_with fail
  go_ret
  exact⟨rfl,hU1.and hU2⟩
def opn(t:Tm):Bool:=decide (0<(if t.wf == 0 then t.scope else 0))
theorem zHt(t:Tm)(hs:t.wt<=1000000)(w:World)(cs:List Value)(h:zL zC w t.zN cs):
    Calls Tryz.prog 71 #[.agg cs.toArray] w fun e w'=>e=.returned (.bool (opn t))/\zD zC w w':=by
  obtain⟨k,n,i,ts,a,cap,_,rfl,_,_⟩:=zW h;obtain⟨w1,hw1⟩:∃ w1,w1=w.alloc (.cells #[.int .i64 k,.string (B n),.int .i64 i,.slice a ts.length cap] 29):=⟨_,rfl⟩;have hU1:zD zC w w1:=by rw[hw1];exact(zD.refl zC w).alloc _
  have hB1:zK w1 w.heap.size (.int .i64 k) (.string (B n)) (.int .i64 i) (.slice a ts.length cap) 29:=by rw[hw1];exact zK.zJ rfl
  have C:=Qv t hs w1 _ (h.on hU1);have HW:=zG hw1;clear hw1 h;unfold opn;generalize (if(t.wf == 0)=true then t.scope else 0)=b at *
  obtain⟨x0,x1,x2,x3⟩:=hB1.cells;go_enter Tryz.func71,Tryz.ntmps71
  go_wp2_with fail
  rw[<-HW.out];refine C.mono ?_;rintro e w2 ⟨rfl,hU2⟩;go_wp2_with fail
  go_ret
  exact⟨rfl,hU1.and hU2⟩
theorem zDe(ts:List Tm)(hl:ts.length<=1000000)(hw:∀ t∈ts,t.wt<=1000000)(w:World)(a:Option Addr)(cap:Nat)(hE:zH zC w 4 (ts.map Tm.zN) a 0):
    Calls Tryz.prog 66 #[.slice a ts.length cap] w fun e w'=>e=.returned (.int .i64 (zo Tm.wf ts))/\zD zC w w':=by
  obtain⟨r,hr⟩:∃ r,r=zo Tm.wf ts:=⟨_,rfl⟩;rw[<-hr];have HR:=zG hr;have HWT:=zG hw;clear hr hw;go_enter Tryz.func66,Tryz.ntmps66
  go_wp2_with fail
  go_loopw [8] (fun v wr=>∃ j:Nat,v=.int .i64 j/\j<=ts.length/\r=zo Tm.wf (ts.drop j)/\zD zC w wr) (fun v _=>ts.length - (intOf v).toNat)
  case atStart=>exact⟨0,rfl,Nat.zero_le _,HR.out,zD.refl _ _⟩
  case round=>
    obtain⟨j,rfl,hj,hv,hU⟩:=hrel;have HV:=zG hv;clear hv;have j0:(0:Int)<=(j:Int):=by omega
    have jb:(j:Int)<=2000000:=by omega
    by_cases hlt:j<ts.length
    ·obtain⟨b,o,k1,n1,x1,s1,c1,rfl,hb,_,p0,p1,p2,p3,hRp⟩:=zc (hE.on hU) j hlt;have j1:(j:Int)<(ts.length:Int):=by omega
     have hal:=(zD.refl zC wr).alloc (.cells #[.int .i64 k1,.string (B n1),.int .i64 x1,.slice s1 ts[j].args.length c1] 29);have key:=yM _ (HWT.out _ (List.getElem_mem hlt)) _ _ (hRp.on hal);have hT:=YH Tm.wf ts j hlt;generalize ts[j].args.length=el at *
     generalize ts[j].wf=fb at *
     have HT:=zG (And.intro hT (And.intro hlt hal));clear hT hlt hRp hal;go_wp2_with fail
     refine key.mono ?_;rintro e w5 ⟨rfl,hU5⟩;have hU6:=(hU.and HT.out.2.2).and hU5;by_cases hfb:fb=0
     ·subst hfb;go_wp2_with fail
      go_roundw
      case rel=>exact⟨j+1,by go_num,Nat.succ_le_of_lt HT.out.2.1,by rw[HV.out,HT.out.1];rfl,hU6⟩
      case measure=>(have:=HT.out.2.1;simp[intOf];omega)
     ·have hfb':(fb !=0)=true:=by simpa using hfb
      go_wp2_with fail
      go_ret
      have hrf:r=fb:=by rw[HV.out,HT.out.1,if_pos hfb]
      exact⟨zb hrf.symm,hU6⟩
    ·have hjn:¬(j:Int)<(ts.length:Int):=by omega
     have hdn:ts.drop j=[]:=List.drop_eq_nil_of_le (by omega);have hr0:r=0:=by rw[HV.out,hdn,zo]
     have HR0:=zG hr0;clear hdn hr0;go_wp2_with fail
     go_ret
     exact⟨zb HR0.out.symm,hU⟩
end Go.Proofs.YthgmimncdjhgnaaGreatDoor
namespace Go.LF
section
open Tm Go.Proofs.YthgmimncdjhgnaaGreatDoor
theorem XB{p q:Tm->Bool}:∀(l:List Tm),(∀ x∈l,p x=q x)->l.any p=l.any q
  | [],_=>rfl
  |x :: xs,h=>by rw[List.any_cons,List.any_cons,h x (by simp),XB xs (fun y hy=>h y (by simp[hy]))]
theorem zCh(K:List Mv)(T:List Tm):(Q9 K T).length=T.length:=by
  cases T with
  |nil=>rfl
  |cons t ts=>rw[Q9];simp
theorem zIV(K:List Mv)(T:List Tm)(i:Nat)(h:i<T.length)(h':i<(Q9 K T).length):(Q9 K T)[i]=Z6 K ((i:Int) == 0) T[i]:=by
  cases T with
  |nil=>simp at h
  |cons t ts=>
   simp only[Q9];cases i with
   |zero=>rfl
   |succ i=>
    simp only[List.getElem_cons_succ,List.getElem_map];congr 1
theorem Qq{l:List Mv}(hP:YK l)(hS:y8 l)(hl:l.length<=10){a:Tm}{ms:List Tm}(h:ZU l (a :: ms)=0)(ht:a.zP=true\/a.zR=true)(ho:∀ m∈ms,m.isObj=true)(hc:∀ t∈a :: ms,t.scope<=0):
    (xQ l (a :: ms)).length=ms.length+1/\(Zz l (a :: ms)).length=ms.length+1/\∀ i(hi:i<(xQ l (a :: ms)).length)(hi':i<(Zz l (a :: ms)).length),(Zz l (a :: ms))[i]=Z6 (xE l (a :: ms)) ((i:Int) == 0) (xQ l (a :: ms))[i]/\(Zz l (a :: ms))[i].wt<=1000000/\(Zz l (a :: ms))[i].wf=(if(Zz l (a :: ms))[i].small=true then 0 else 2):=by
  have hcl:=(YZ hP h).1;have e1:(xQ l (a :: ms)).length=ms.length+1:=by rw[hcl];simp
  have e2:(Zz l (a :: ms)).length=ms.length+1:=by unfold Zz;rw[zCh,e1]
  refine⟨e1,e2,fun i hi hi'=>?_⟩;have e3:(Zz l (a :: ms))[i]=Z6 (xE l (a :: ms)) ((i:Int) == 0) (xQ l (a :: ms))[i]:=zIV _ _ i hi (by unfold Zz at hi';exact hi');have hil:i<(a :: ms).length:=by rw[<-hcl];exact hi
  refine⟨e3,?_,?_⟩
  ·rw[e3];exact zIh hP h hS hl _ hil hi
  ·have hf:=qU hP h ((i:Int) == 0) hil hi (hc _ (List.getElem_mem hil)) (by
     cases i with
     |zero=>rw[if_pos (by rfl)];exact ht
     |succ i=>
      rw[if_neg (by simp;omega)];exact ho _ (by simp))
   rw[<-e3]at hf;refine Z0 ?_;have h3:=hf.2.2;split at h3
   ·rcases h3 with h3 |h3
    ·exact .inr (.inl h3)
    ·exact .inr (.inr h3)
   ·exact .inl h3
theorem zHL{t:Tm}(h:t.wf=0):t.small=true:=by
  have h1:=Z0 (yd h).1;rw[h]at h1;by_cases h2:t.small=true
  ·exact h2
  ·rw[if_neg h2]at h1;exact absurd h1 (by decide)
end
section
open Tm Go.Proofs.YthgmimncdjhgnaaGreatDoor
theorem zF8{l:List Mv}{a:Tm}{ms:List Tm}(h:ZC l a ms≠0):ZX l a ms=zV/\ZB l a ms=[]/\QZ l a ms=0:=by
  unfold ZX ZB QZ;rw[if_neg h,if_neg h,if_neg h];exact⟨rfl,rfl,rfl⟩
theorem zG4{l:List Mv}{a:Tm}{ms:List Tm}{E:Int}(h:zo wf (a :: ms)=E)(hE:E≠0):ZC l a ms=E:=by
  unfold ZC;rw[if_pos (by rw[h];exact hE),h]
theorem zGd{l:List Mv}{a:Tm}{ms:List Tm}(h1:zo wf (a :: ms)=0)(h2:(!(a.zP || a.zR)|| ms.any (fun m=>!m.isObj))=true):ZC l a ms=32:=by
  unfold ZC;rw[if_neg (by simp[h1]),if_pos h2]
theorem zFY{l:List Mv}{a:Tm}{ms:List Tm}(h1:zo wf (a :: ms)=0)(h2:(!(a.zP || a.zR)|| ms.any (fun m=>!m.isObj))=false)(h3:(a :: ms).any (fun t=>decide (0<t.scope))=true):ZC l a ms=3:=by
  unfold ZC;rw[if_neg (by simp[h1]),if_neg (by rw[h2];decide),if_pos h3]
theorem zFj{l:List Mv}{a:Tm}{ms:List Tm}(h1:zo wf (a :: ms)=0)(h2:(!(a.zP || a.zR)|| ms.any (fun m=>!m.isObj))=false)(h3:(a :: ms).any (fun t=>decide (0<t.scope))=false)(h4:ZU l (a :: ms)≠0):ZC l a ms=ZU l (a :: ms):=by
  unfold ZC;rw[if_neg (by simp[h1]),if_neg (by rw[h2];decide),if_neg (by rw[h3];decide),if_pos h4]
theorem zGl{l:List Mv}{a:Tm}{ms:List Tm}(h1:zo wf (a :: ms)=0)(h2:(!(a.zP || a.zR)|| ms.any (fun m=>!m.isObj))=false)(h3:(a :: ms).any (fun t=>decide (0<t.scope))=false)(h4:ZU l (a :: ms)=0)(h5:(xE l (a :: ms)).length<=40):ZC l a ms=if(Zz l (a :: ms)).all small=true then 0 else 2:=by
  unfold ZC;rw[if_neg (by simp[h1]),if_neg (by rw[h2];decide),if_neg (by rw[h3];decide),if_neg (by simp[h4]),if_neg (by omega)]
end
end Go.LF
namespace Go.Proofs.YthgmimncdjhgnaaGreatDoor
open Go.RowKit Go.LF
theorem Xc{O:Nat->Prop}{w:World}{d:xC}{cs:List Value}(h:zL O w d cs):zL zC w d cs:=zL.weaken (fun _ _ e=>e.elim) _ _ h
def YF(E:Int)(b:Tm)(ns:List Tm)(k:Nat)(w:World)(e:Ending)(w':World):Prop:=
  ∃(kk i:Int)(n:List UInt8)(a:Option Addr)(len cap:Nat)(va:Option Addr)(vc:Nat),e=.returned (.tuple #[.agg #[.int .i64 kk,.string (B n),.int .i64 i,.slice a len cap],.slice va ns.length vc,.int .i64 (k:Int),.int .i64 E])/\ns.length<=vc/\
   zL (fun b=>b<w.heap.size) w' b.zN [.int .i64 kk,.string (B n),.int .i64 i,.slice a len cap]/\zH (fun b=>b<w.heap.size) w' 4 (ns.map Tm.zN) va 0/\zD zC w w'
theorem YF.bad{l:List Mv}{a:Tm}{ms:List Tm}{E:Int}{w w':World}(h:ZC l a ms=E)(hE:E≠0)(hU:zD zC w w'):YF (ZC l a ms) (ZX l a ms) (ZB l a ms) (QZ l a ms) w (.returned (.tuple #[.agg #[.int .i64 0,.string (B []),.int .i64 0,.slice none 0 0],.slice none 0 0,.int .i64 0,.int .i64 E])) w':=by
  obtain⟨h1,h2,h3⟩:=zF8 (l:=l) (a:=a) (ms:=ms) (by rw[h];exact hE);rw[h1,h2,h3,h];exact⟨0,0,[],none,0,0,none,0,rfl,Nat.le_refl _,zj 0 [] 0,by simp only[List.map_nil,zH],hU⟩
theorem zD.zHr{ua:Option Addr}{w v W:World}{n z:Nat}(h:zD (fun b=>ua=some ⟨b,0,none⟩/\0<n) v W)(hw:w.heap.size<=z)(hg:∀ g,0<n->ua=some ⟨g,0,none⟩->z<=g)(hU:zD zC w v):zD zC w W:=
  hU.trans h (fun b hb e=>by have:=hg b e.2 e.1;omega)
theorem qx{O:Nat->Prop}{W:World}{wd g o n:Nat}:∀(ds:List xC)(j:Nat),zH O W wd ds (some ⟨g,o,none⟩) (n+j)->zH O W wd ds (some ⟨g,o+n,none⟩) j
  | [],_,_=>by simp only[zH]
  |d :: ds,j,h=>by
   simp only[zH]at h ⊢;obtain⟨⟨b,o',cs,e,h1,h2,h3,h4,h5⟩,h6⟩:=h;cases e
   refine⟨⟨g,o+n,cs,rfl,h1,h2,h3,fun i v hv=>?_,h5⟩,qx ds (j+wd) (by rw[<-Nat.add_assoc];exact h6)⟩;rw[show o+n+j+i=o+(n+j)+i by omega];exact h4 i v hv
theorem Yj(l:List Mv)(hP:YK l)(hS:y8 l)(hl:l.length<=10)(a:Tm)(ms:List Tm)(hms:ms.length<=100)(hts:∀ t∈a :: ms,t.wt<=1000000/\(t.wf=0->(∀ i∈Tm.zM t,i<l.length)->Kn l.length t))(w:World)(la:Option Addr)(lc:Nat)(cs:List Value)(ma:Option Addr)(mc:Nat)
    (hL:zH zC w 6 (l.map Mv.zN) la 0) (h:zL zC w a.zN cs) (hM:zH zC w 4 (ms.map Tm.zN) ma 0):
    Calls Tryz.prog 30 #[.slice la l.length lc,.agg cs.toArray,.slice ma ms.length mc] w (YF (ZC l a ms) (ZX l a ms) (ZB l a ms) (QZ l a ms) w):=by
  obtain⟨k,n,i,ts,aa,cap,htt,rfl,_,_⟩:=zW h;generalize ts.length=len at *
  obtain⟨w1,hw1⟩:∃ w1,w1=(w.alloc (.cells #[.int .i64 k,.string (B n),.int .i64 i,.slice aa len cap] 29)).alloc (.cells #[.int .i64 0,.string (B []),.int .i64 0,.slice none 0 0] 29):=⟨_,rfl⟩;have hU1:zD zC w w1:=by rw[hw1];exact((zD.refl zC w).alloc _).alloc _
  have ht1:zK w1 w.heap.size (.int .i64 k) (.string (B n)) (.int .i64 i) (.slice aa len cap) 29:=by rw[hw1];exact(zK.zJ rfl).kept ((zD.refl zC _).alloc _)
  have hr1:zK w1 (w.heap.size+1) (.int .i64 0) (.string (B [])) (.int .i64 0) (.slice none 0 0) 29:=by rw[hw1];exact zK.zJ (by simp)
  have hR1:=(zL.xY h).on hU1;have hM1:=(zH.zS _ _ _ _ hM).on hU1;have hL1:=(zH.zS _ _ _ _ hL).on hU1;have HW:=zG hw1;obtain⟨H,hH⟩:∃ H,H=w.heap.size:=⟨_,rfl⟩;have HH:=zG hH;rw[<-hH]at ht1 hr1 hR1 hM1 hL1;have FO:=fun(W:World)(a9:Option Addr)(c9:Nat)h9=>zDe (a :: ms) (by simp;omega) (fun u hu=>(hts u hu).1) W a9 c9 h9
  simp only[List.length_cons]at FO;have HTS:=zG hts;obtain⟨ml,hmll⟩:∃ ml,ml=ms.length:=⟨_,rfl⟩;obtain⟨ll,hll⟩:∃ ll,ll=l.length:=⟨_,rfl⟩;rw[<-hmll,<-hll];rw[<-hmll]at hms;have HL:=zG (And.intro hmll hll);have HU:=zG hU1;have hml3:(ml:Int)<=100:=by omega
  have hz1:H+2<=w1.heap.size:=by have:=hr1.lt;omega
  have hrow:=ZV.one (O:=fun b=>b=H\/b=H+1) (zL.weaken (fun b _ e=>.inr (by omega)) _ _ hR1);have hal:zD zC w1 (w1.alloc (.cells #[.int .i64 k,.string (B n),.int .i64 i,.slice aa len cap] 29)):=(zD.refl zC _).alloc _;clear hw1 hH h hM hL hmll hll hU1 htt hts;obtain⟨t0,t1,t2,t3⟩:=ht1.cells;go_enter Tryz.func30,Tryz.ntmps30
  go_upto_region 2 with fail
  rw[<-show B []={ data:=#[] }from rfl,<-HW.out,<-HH.out];go_wp2_with (at_builtin;go_loud (refine xU (by rfl) _ _ (by rfl) (by rfl) hrow ma ml mc ms (by rfl) HL.out.1 (zH.weaken (fun b _ e=>by right;rcases e with e |e;omega;omega) _ _ _ _ (hM1.on hal)) (by simp;have:=HL.out.1;omega) (by have:=hal.size;omega) ?_);intro v3 w3 css3 hS3 hg3 hat3;have hgo:=yI hg3;have hU3:zD zC w1 w3:=(hal.trans hgo (fun b hb e=>by simp[Value.ownBlock]at e;omega));obtain⟨va,vc,hv3,hvc,hF3⟩:=hS3.rep;subst hv3)
  (with_reducible refine(FO _ va vc (Zf hF3)).mono ?_);rintro e w2 ⟨rfl,hU32⟩;have hU2:=hU3.and hU32;have hr2:=hr1.kept hU2;have ht2:=ht1.kept hU2;have hF2:=(Zf hF3).on hU32;clear FO hrow hal hgo hS3 hg3 hat3 hF3 t0 t1 t2 t3;obtain⟨q,hq⟩:∃ z:Int,z=zo Tm.wf (a :: ms):=⟨_,rfl⟩;rw[<-hq];have HQ:=zG hq;clear hq;have hUw2:=HU.out.and hU2;have HUw2:=zG hUw2;clear hUw2;by_cases hq:q=0
  case neg=>
    have hE:=zG4 (l:=l) HQ.out.symm hq;have HE:=zG (And.intro hE hq);have hqb:(q !=0)=true:=by simpa using hq
    clear hE hq;go_wp2_with fail
    (with_reducible refine(XP q _).mono ?_);rintro e wn ⟨rfl,hUn⟩;have hrn:=hr2.kept hUn;obtain⟨r0,r1,r2,r3⟩:=hrn.cells;obtain⟨y0,y1,y2,y3⟩:=hrn.zI;have hltn:=hrn.lt;go_wp2_with fail
    have hset:=hrn.set (d0:=.int .i64 0) (d1:=.string (B [])) (d2:=.int .i64 0) (d3:=.slice none 0 0);obtain⟨w9,hw9⟩:∃ z,z=(((wn.setCell ⟨H+1,0,none⟩ (.int .i64 0)).setCell ⟨H+1,1,none⟩ (.string (B []))).setCell ⟨H+1,2,none⟩ (.int .i64 0)).setCell ⟨H+1,3,none⟩ (.slice none 0 0):=⟨_,rfl⟩;rw[<-hw9]at hset;try rw[<-show B []={ data:=#[] }from rfl]
    rw[<-hw9];clear hw9;obtain⟨e0,e1,e2,e3⟩:=hset.1.cells;refine bodyPost_ret (v:=.tuple #[.agg #[.int .i64 0,.string (B []),.int .i64 0,.slice none 0 0],.slice none 0 0,.int .i64 0,.int .i64 q]) ?_ rfl ?_
    ·simp[results,Tryz.f30,go_sem,e0,e1,e2,e3]
    ·exact YF.bad HE.out.1 HE.out.2 (((HUw2.out).and hUn).trans hset.2 (fun b hb e=>by have:=HH.out;omega))
  subst hq;have hf1:zo Tm.wf (a :: ms)=0:=HQ.out.symm;have hall:∀ t∈a :: ms,t.wf=0/\t.small=true:=fun t ht=>⟨Q4 Tm.wf _ hf1 t ht,zHL (Q4 Tm.wf _ hf1 t ht)⟩
  have hasm:=(hall a (by simp)).2;have IT:=qC a (HTS.out a (by simp)).1 w2 _ (Xc (hR1.on hU2));have hbt:((a.zP && a.small)|| (a.zR && a.small))=(a.zP || a.zR):=by rw[hasm,Bool.and_true,Bool.and_true]
  rw[hbt]at IT;have AN:=fun(W:World)(hW:zD zC w2 W)=>xi (ts:=ms) 69 (fun m=>!(m.isObj && m.small)) (by have:=HL.out.1;omega) (fun x hx W' cs' h'=>zIL x (HTS.out x (by simp[hx])).1 W' cs' h') (fun _ _=>rfl) W ma mc (Zf ((hM1.on hU2).on hW))
  have hbn:ms.any (fun m=>!(m.isObj && m.small))=ms.any (fun m=>!m.isObj):=XB ms (fun x hx=>by rw[(hall x (by simp[hx])).2,Bool.and_true]);have SCn:=fun(W:World)(hW:zD zC w2 W)=>xi (ts:=a :: ms) 71 opn (by have:=HL.out.1;simp;omega) (fun x hx W' cs' h'=>zHt x (HTS.out x hx).1 W' cs' h') (fun _ _=>rfl) W va vc (hF2.on hW)
  have hop:(a :: ms).any opn=(a :: ms).any (fun t=>decide (0<t.scope)):=XB _ (fun x hx=>by unfold opn;rw[(hall x hx).1];rfl);rw[hop]at SCn;rw[hbn,<-HL.out.1]at AN;simp only[List.length_cons]at SCn;obtain⟨bt,hbt'⟩:∃ z,z=(a.zP || a.zR):=⟨_,rfl⟩;obtain⟨bn,hbn'⟩:∃ z,z=ms.any (fun m=>!m.isObj):=⟨_,rfl⟩;obtain⟨bo,hbo'⟩:∃ z,z=(a :: ms).any (fun t=>decide (0<t.scope)):=⟨_,rfl⟩;rw[<-hbt']at IT;rw[<-hbn']at AN;rw[<-hbo']at SCn;have HB:=zG (And.intro hbt' (And.intro hbn' hbo'));have HF1:=zG (And.intro hf1 hall);obtain⟨t0,t1,t2,t3⟩:=ht2.cells;clear hf1 hall hasm hbt hbn hop hbt' hbn' hbo';go_upto_region 6 with fail
  go_cut [41]from 35 to 41 (fun v41 wx=>v41=.bool (!bt || bn)/\zD zC w2 wx)
  case first=>
    clear SCn;cases bt
    ·go_wp2_with fail
     (with_reducible refine IT.mono ?_);rintro e w5 ⟨rfl,hU5⟩;go_wp2_with fail
     go_meet
     case rel=>exact⟨rfl,hU5⟩
    ·go_wp2_with fail
     (with_reducible refine IT.mono ?_);rintro e w5 ⟨rfl,hU5⟩;have AN5:=AN w5 hU5;clear IT AN;go_wp2_with fail
     (with_reducible refine AN5.mono ?_);rintro e w6 ⟨rfl,hU6⟩;cases bn
     all_goals
       go_wp2_with fail
       go_meet
       case rel=>exact⟨rfl,hU5.and hU6⟩
  case rest=>
    obtain⟨rfl,hU3⟩:=hcut;obtain⟨w3,rfl⟩:∃ z,z=wc:=⟨_,rfl⟩;have hr3:=hr2.kept hU3;have SC3:=SCn w3 hU3;clear IT AN SCn t0 t1 t2 t3 ht2 hr2 ht1 hr1;obtain⟨cb,hcb⟩:∃ z,z=(!bt || bn):=⟨_,rfl⟩;rw[<-hcb];have hcb2:(!(a.zP || a.zR)|| ms.any (fun m=>!m.isObj))=cb:=by rw[<-HB.out.1,<-HB.out.2.1,hcb]
    have HCB:=zG hcb2;clear hcb hcb2;cases cb
    case true=>
      have hE:=zGd (l:=l) HF1.out.1 HCB.out;have HE:=zG hE;clear hE;go_wp2_with fail
      (with_reducible refine(XP 32 _).mono ?_);rintro e wn ⟨rfl,hUn⟩;have hrn:=hr3.kept hUn;obtain⟨r0,r1,r2,r3⟩:=hrn.cells;obtain⟨y0,y1,y2,y3⟩:=hrn.zI;have hltn:=hrn.lt;go_wp2_with fail
      have hset:=hrn.set (d0:=.int .i64 0) (d1:=.string (B [])) (d2:=.int .i64 0) (d3:=.slice none 0 0);obtain⟨w9,hw9⟩:∃ z,z=(((wn.setCell ⟨H+1,0,none⟩ (.int .i64 0)).setCell ⟨H+1,1,none⟩ (.string (B []))).setCell ⟨H+1,2,none⟩ (.int .i64 0)).setCell ⟨H+1,3,none⟩ (.slice none 0 0):=⟨_,rfl⟩;rw[<-hw9]at hset;try rw[<-show B []={ data:=#[] }from rfl]
      rw[<-hw9];clear hw9;obtain⟨e0,e1,e2,e3⟩:=hset.1.cells;refine bodyPost_ret (v:=.tuple #[.agg #[.int .i64 0,.string (B []),.int .i64 0,.slice none 0 0],.slice none 0 0,.int .i64 0,.int .i64 32]) ?_ rfl ?_
      ·simp[results,Tryz.f30,go_sem,e0,e1,e2,e3]
      ·exact YF.bad HE.out (by decide) (((HUw2.out.and hU3).and hUn).trans hset.2 (fun b hb e=>by have:=HH.out;omega))
    case false=>
      go_wp2_with fail
      (with_reducible refine SC3.mono ?_);rintro e w4 ⟨rfl,hU4⟩;have hU24:=hU3.and hU4;have hr4:=hr3.kept hU4;clear SC3 hr3;have hbo:(a :: ms).any (fun t=>decide (0<t.scope))=bo:=HB.out.2.2.symm;cases bo
      case true=>
        have hE:=zFY (l:=l) HF1.out.1 HCB.out hbo;have HE:=zG hE;clear hE hbo;go_wp2_with fail
        (with_reducible refine(XP 3 _).mono ?_);rintro e wn ⟨rfl,hUn⟩;have hrn:=hr4.kept hUn;obtain⟨r0,r1,r2,r3⟩:=hrn.cells;obtain⟨y0,y1,y2,y3⟩:=hrn.zI;have hltn:=hrn.lt;go_wp2_with fail
        have hset:=hrn.set (d0:=.int .i64 0) (d1:=.string (B [])) (d2:=.int .i64 0) (d3:=.slice none 0 0);obtain⟨w9,hw9⟩:∃ z,z=(((wn.setCell ⟨H+1,0,none⟩ (.int .i64 0)).setCell ⟨H+1,1,none⟩ (.string (B []))).setCell ⟨H+1,2,none⟩ (.int .i64 0)).setCell ⟨H+1,3,none⟩ (.slice none 0 0):=⟨_,rfl⟩;rw[<-hw9]at hset;try rw[<-show B []={ data:=#[] }from rfl]
        rw[<-hw9];clear hw9;obtain⟨e0,e1,e2,e3⟩:=hset.1.cells;refine bodyPost_ret (v:=.tuple #[.agg #[.int .i64 0,.string (B []),.int .i64 0,.slice none 0 0],.slice none 0 0,.int .i64 0,.int .i64 3]) ?_ rfl ?_
        ·simp[results,Tryz.f30,go_sem,e0,e1,e2,e3]
        ·exact YF.bad HE.out (by decide) (((HUw2.out.and hU24).and hUn).trans hset.2 (fun b hb e=>by have:=HH.out;omega))
      case false=>
        have CN:=zEn l hP (a :: ms) HTS.out (by have:=HL.out.1;simp;omega) w4 la lc va vc (Zf ((hL1.on hU2).on hU24)) (hF2.on hU24);simp only[List.length_cons]at CN;rw[<-HL.out.2]at CN;have HBO:=zG hbo;clear hbo;go_wp2_with fail
        (with_reducible refine CN.mono ?_);rintro e w5 ⟨ka,ua,kc,uc,rfl,⟨hkc,huc⟩,hK5,hZ5,hg5,hU5⟩;have hU25:=hU24.and hU5;have hr5:=hr4.kept hU5;have hz4:H+2<=w4.heap.size:=by have h8:=hU2.size;have h9:=hU24.size;omega
        clear CN hr4;obtain⟨ue,hue⟩:∃ z,z=ZU l (a :: ms):=⟨_,rfl⟩;rw[<-hue];have HUE:=zG hue;clear hue;by_cases hu:ue=0
        case neg=>
          have hE:=zFj (l:=l) HF1.out.1 HCB.out HBO.out (by rw[<-HUE.out];exact hu);rw[<-HUE.out]at hE;have HE:=zG (And.intro hE hu);have hub:(ue !=0)=true:=by simpa using hu
          clear hE hu;generalize (xQ l (a :: ms)).length=cl at *
          generalize (xE l (a :: ms)).length=kl at *
          go_wp2_with fail
          (with_reducible refine(XP ue _).mono ?_);rintro e wn ⟨rfl,hUn⟩;have hrn:=hr5.kept hUn;obtain⟨r0,r1,r2,r3⟩:=hrn.cells;obtain⟨y0,y1,y2,y3⟩:=hrn.zI;have hltn:=hrn.lt;go_wp2_with fail
          have hset:=hrn.set (d0:=.int .i64 0) (d1:=.string (B [])) (d2:=.int .i64 0) (d3:=.slice none 0 0);obtain⟨w9,hw9⟩:∃ z,z=(((wn.setCell ⟨H+1,0,none⟩ (.int .i64 0)).setCell ⟨H+1,1,none⟩ (.string (B []))).setCell ⟨H+1,2,none⟩ (.int .i64 0)).setCell ⟨H+1,3,none⟩ (.slice none 0 0):=⟨_,rfl⟩;rw[<-hw9]at hset;try rw[<-show B []={ data:=#[] }from rfl]
          rw[<-hw9];clear hw9;obtain⟨e0,e1,e2,e3⟩:=hset.1.cells;refine bodyPost_ret (v:=.tuple #[.agg #[.int .i64 0,.string (B []),.int .i64 0,.slice none 0 0],.slice none 0 0,.int .i64 0,.int .i64 ue]) ?_ rfl ?_
          ·simp[results,Tryz.f30,go_sem,e0,e1,e2,e3]
          ·exact YF.bad HE.out.1 HE.out.2 (((HUw2.out.and hU25).and hUn).trans hset.2 (fun b hb e=>by have:=HH.out;omega))
        subst hu;have hun:ZU l (a :: ms)=0:=HUE.out.symm
        have hbt2:a.zP=true\/a.zR=true:=by
          have h9:=HCB.out;rw[Bool.or_eq_false_iff]at h9;have h8:=h9.1;revert h8;cases a.zP<;>cases a.zR<;>simp
        have hob2:∀ x∈ms,x.isObj=true:=by
          have h9:=HCB.out;rw[Bool.or_eq_false_iff,List.any_eq_false]at h9;intro x hx;simpa using h9.2 x hx
        have hsc2:∀ t∈a :: ms,t.scope<=0:=by
          have h9:=HBO.out;rw[List.any_eq_false]at h9;intro x hx;have:=h9 x hx;simp at this;omega
        have hBK:=(QF hP hun).QK;obtain⟨hTl,hSl,hEach⟩:=Qq hP hS hl hun hbt2 hob2 hsc2;have hCan:=(YZ hP hun).2;have hsize:=zGl HF1.out.1 HCB.out HBO.out hun hBK.len;obtain⟨KS,hKS⟩:∃ z,z=xE l (a :: ms):=⟨_,rfl⟩;obtain⟨TS,hTS⟩:∃ z,z=xQ l (a :: ms):=⟨_,rfl⟩;obtain⟨SS,hSS⟩:∃ z,z=Zz l (a :: ms):=⟨_,rfl⟩;rw[<-hKS]at hBK hEach hCan hK5 hkc ⊢;rw[<-hTS]at hTl hEach hCan hK5 hZ5 hg5 huc ⊢;rw[<-hSS]at hSl hEach hsize
        have hCan2:∀ i(hi:i<TS.length),TS[i].wf=0/\TS[i].size<=4096/\Mlt KS.length TS[i]:=fun i hi=>by
          have h9:=hCan i (by simp;omega) hi;exact⟨h9.2.1,(Tm.yd h9.2.1).2.1,h9.2.2.1⟩
        have HK:=zG (And.intro hKS (And.intro hTS (And.intro hSS (And.intro hsize (And.intro hBK (And.intro hEach hCan2))))));obtain⟨kl,hkl⟩:∃ z,z=KS.length:=⟨_,rfl⟩;obtain⟨zl,hzl⟩:∃ z,z=TS.length:=⟨_,rfl⟩;have hkl40:kl<=40:=by rw[hkl];exact hBK.len
        have hzl1:zl=ml+1:=by rw[hzl,hTl,<-HL.out.1]
        rw[<-hkl,<-hzl];have HLn:=zG (And.intro hkl (And.intro hzl (And.intro hzl1 (by rw[hSl,hzl1,<-HL.out.1]:SS.length=zl))));have hY5:X1 (fun b=>b<=H+1) 0 w5 ua (SS.take 0++TS.drop 0):=by rw[List.take_zero,List.drop_zero,List.nil_append];exact X1.start hZ5
        have hkli:(kl:Int)<=40:=by omega
        have hzli:(zl:Int)<=101:=by omega
        clear hun hbt2 hob2 hsc2 hBK hEach hCan hsize hKS hTS hSS hkl hzl hTl hSl hZ5 hCan2 hzl1 hL1 hR1 hM1 hF2;go_wp2_with fail
        go_loopw [84] (fun v84 wr=>∃(i:Nat),v84=.int .i64 (i:Int)/\i<=zl/\(∀ x∈SS.take i,x.small=true)/\X1 (fun b=>b<=H+1) i wr ua (SS.take i++TS.drop i)/\zD (fun b=>ua=some ⟨b,0,none⟩/\0<TS.length) w5 wr)
          (fun v84 _=>zl - (intOf v84).toNat)
        case atStart=>exact⟨0,rfl,Nat.zero_le _,fun x hx=>by simp at hx,hY5,zD.refl _ _⟩
        case round=>
          clear hY5;obtain⟨i,rfl,hi,hsm,hY,hUr⟩:=hrel;have hii:(i:Int)<=101:=by omega
          have hKr:=zH.zF hUr (fun b e=>e) _ _ _ _ hK5;have hrr:=hr5.zF hUr (fun e=>by have h8:=hg5 _ e.2 e.1;have h9:=hr5.lt;omega);by_cases hlt:i<zl
          ·obtain⟨hKS,hTS,hSS,hsize,hBK,hEach,hCan2⟩:=HK.out;obtain⟨hkl,hzl,hzl1,hSl⟩:=HLn.out;have hiT:i<TS.length:=by omega
           have hiS:i<SS.length:=by omega
           have htl:(SS.take i).length=i:=by rw[List.length_take];omega
           have hXl:i<(SS.take i++TS.drop i).length:=by rw[List.length_append,htl,List.length_drop];omega
           have hXi:(SS.take i++TS.drop i)[i]=TS[i]:=by
             rw[List.getElem_append_right (by omega)];simp only[htl,Nat.sub_self,List.getElem_drop];rfl
           have hXs:(SS.take i++TS.drop i).set i SS[i]=SS.take (i+1)++TS.drop (i+1):=by
             rw[List.set_append_right _ _ (by omega),htl,Nat.sub_self,List.drop_eq_getElem_cons hiT,List.set_cons_zero,List.take_succ_eq_append_getElem hiS,List.append_assoc];rfl
           obtain⟨g,k1,n1,i1,b1,c1,rfl,hgl,hgf,⟨p0,p1,p2,p3⟩,hRt⟩:=hY.open hXl;rw[hXi]at p3 hRt;obtain⟨e1,e2,e3⟩:=hEach i hiT hiS;obtain⟨c2,c3,c4⟩:=hCan2 i hiT;have hsz3:=(Tm.QU _ c2).1;obtain⟨pi,hpi⟩:∃ z,z=((i:Int) == 0):=⟨_,rfl⟩;rw[<-hpi]at e1;have hpi':=hpi.symm;obtain⟨U,hUi⟩:∃ z,z=TS[i]:=⟨_,rfl⟩;obtain⟨V,hVi⟩:∃ z,z=SS[i]:=⟨_,rfl⟩;rw[<-hUi]at p3 hRt e1 c2 c3 c4 hsz3;rw[<-hVi]at e1 e2 e3 hXs;have hV:V=wrp pi KS kl (QK kl 0 U):=by rw[e1];unfold Z6;rw[hkl]
           have htk:SS.take (i+1)=SS.take i++[V]:=by rw[List.take_succ_eq_append_getElem hiS,hVi]
           have hall':V.small=false->SS.all Tm.small=false:=fun e=>by rw[List.all_eq_false];exact⟨V,by rw[hVi];exact List.getElem_mem hiS,by rw[e];decide⟩
           have HI:=zG (And.intro hXl (And.intro hXs (And.intro hV (And.intro e2 (And.intro e3 (And.intro htk hall'))))));obtain⟨w6,hw6⟩:∃ z,z=wr.alloc (.cells #[.int .i64 k1,.string (B n1),.int .i64 i1,.slice b1 U.args.length c1] 29):=⟨_,rfl⟩;have hU6:zD zC wr w6:=by rw[hw6];exact(zD.refl zC _).alloc _
           have hb6:zK w6 wr.heap.size (.int .i64 k1) (.string (B n1)) (.int .i64 i1) (.slice b1 U.args.length c1) 29:=by rw[hw6];exact zK.zJ rfl
           have BD:=zEf U kl (by omega) w6 _ (by omega) (fun b x hx e=>by have h9:=(hsz3 b x hx).2.1 (by simp[e]);omega) (Xc (hRt.on hU6));obtain⟨P,hP6⟩:∃ z,z=wr.heap.size:=⟨_,rfl⟩;rw[<-hP6]at hb6;have HP6:=zG hP6;have HW6:=zG hw6;have hlt':(i:Int)<(zl:Int):=by omega
           generalize U.args.length=ul at *
           clear hKS hTS hSS hsize hEach hCan2 hkl hzl hzl1 hSl hiT hiS htl hXl hXi hXs e1 e2 e3 c2 c3 c4 hsz3 hpi hUi hVi hV hw6 hP6 hRt htk hall';go_upto_region 19 with fail
           rw[<-HP6.out,<-HW6.out];obtain⟨x0,x1,x2,x3⟩:=hb6.cells;obtain⟨f0,f1,f2,f3⟩:=hb6.zI;have hPl:=hb6.lt;go_wp2_with fail
           (with_reducible refine BD.mono ?_);rintro e w7 ⟨k7,i7,n7,a7,l7,c7,rfl,hR7,hU7⟩;have hb7:=hb6.kept hU7;have hU67:=hU6.and hU7;clear BD x0 x1 x2 x3 f0 f1 f2 f3;obtain⟨x0,x1,x2,x3⟩:=hb7.cells;obtain⟨f0,f1,f2,f3⟩:=hb7.zI;have hPl7:=hb7.lt;have hset8:=hb7.set (d0:=.int .i64 k7) (d1:=.string (B n7)) (d2:=.int .i64 i7) (d3:=.slice a7 l7 c7);obtain⟨w8,hw8⟩:∃ z,z=(((w7.setCell ⟨P,0,none⟩ (.int .i64 k7)).setCell ⟨P,1,none⟩ (.string (B n7))).setCell ⟨P,2,none⟩ (.int .i64 i7)).setCell ⟨P,3,none⟩ (.slice a7 l7 c7):=⟨_,rfl⟩;rw[<-hw8]at hset8;have hU8:zD zC wr w8:=hU67.trans hset8.2 (fun b hb e=>by have:=HP6.out;omega);have hz8:=hset8.2.size;have hz78:=hU7.size;have hR8:zL (fun b=>b<w6.heap.size) w8 (QK kl 0 U).zN [.int .i64 k7,.string (B n7),.int .i64 i7,.slice a7 l7 c7]:=zL.zF hset8.2 (fun b e=>by omega) _ _ hR7;have hb8:=hset8.1;have HW8:=zG hw8;clear hw8 hset8 hR7 hU7 hU67;go_wp2_with fail
           rw[<-HW8.out];clear x0 x1 x2 x3 f0 f1 f2 f3 hb7 hb6;obtain⟨wq,rfl⟩:∃ z,z=wr:=⟨_,rfl⟩
           go_loopw [18] (fun v18 wz=>∃(j:Nat)(u:Tm)(k6 i6:Int)(n6:List UInt8)(a6:Option Addr)(l6 c6:Nat),v18=.int .i64 ((j:Int) - 1)/\j<=kl/\wrp pi KS j u=V/\zK wz P (.int .i64 k6) (.string (B n6)) (.int .i64 i6) (.slice a6 l6 c6) 29/\zL (fun b=>b<w6.heap.size) wz u.zN [.int .i64 k6,.string (B n6),.int .i64 i6,.slice a6 l6 c6]/\zD (fun b=>b=P) w8 wz)
             (fun v18 _=>(intOf v18+1).toNat)
           case atStart=>exact⟨kl,QK kl 0 U,k7,i7,n7,a7,l7,c7,rfl,Nat.le_refl _,HI.out.2.2.1.symm,hb8,hR8,zD.refl _ _⟩
           case round=>
             clear hb8 hR8;obtain⟨j,u,k6,i6,n6,a6,l6,c6,rfl,hj,hwu,hbz,hRz,hUz⟩:=hrel;obtain⟨wz,rfl⟩:∃ z,z=wr:=⟨_,rfl⟩;have hji:(j:Int)<=40:=by omega
             have hUrz:zD zC wq wz:=hU8.trans hUz (fun b hb e=>by have:=HP6.out;omega);have hHW:=zG hwu;by_cases hj0:0<j
             ·obtain⟨m,rfl⟩:∃ m,j=m+1:=⟨j - 1,by omega⟩;have hkl:=HLn.out.1;have hmk:m<KS.length:=by omega
              have hjv:(((m+1:Nat):Int) - 1)=(m:Int):=by omega
              rw[hjv];obtain⟨kb,ko,mk,mn,mi,maa,mcap,mva,mvc,rfl,hkbl,hkbo,⟨d0,d1,d2,d3,d4,d5⟩,hRm,hmvc,hVm⟩:=YC (hKr.on hUrz) m hmk;have hmv:zL zC wz KS[m].zN [.string (B KS[m].name),.int .i64 mk,.string (B mn),.int .i64 mi,.slice maa KS[m].type.args.length mcap,.slice mva KS[m].value.length mvc]:=Xc (Z8.2 ⟨_,mva,mvc,rfl,hRm,hmvc,hVm⟩);obtain⟨hty1,hty2,hty3,hty4⟩:=HK.out.2.2.2.2.1.Yf m hmk;have htysz:=(XA hty2).1;have hPz:=hbz.lt;have hz6z:w6.heap.size<=wz.heap.size:=by have:=hUz.size;omega
              have hd:zD zC wz wz.drew:=(zD.refl zC _).drew;have PM:=zBp (fun b=>b<w6.heap.size) KS[m] m (by omega) u pi wz.drew (fun b e=>Nat.lt_of_lt_of_le e hz6z) _ _ (hmv.on hd) (by omega) (fun b x hx e=>by have h9:=(Tm.Qn (M:=fun k _ i=>k=6->0<=i/\i<(m:Int)) _ b).1 hty3 x hx e;omega) (hRz.on hd);have hw2:wrp pi KS m (par pi KS[m] m u)=V:=by rw[<-hHW.out,wrp,zAf _ _ hmk]
              generalize par pi KS[m] m u=u2 at *
              generalize KS[m].type.args.length=kal at *
              generalize KS[m].value.length=kvl at *
              generalize KS[m].name=knm at *
              have HW2:=zG hw2;have hmi:(m:Int)<(kl:Int):=by omega
              have hm0:(0:Int)<=(m:Int):=by omega
              obtain⟨x0,x1,x2,x3⟩:=hbz.cells;have hbd:=hbz.kept hd;clear hw2 hty1 hty2 hty3 hty4 hRm hVm hmv hkl hwu;go_upto_region 23 with fail
              go_region_law ((rw[if_pos (by rfl)]);go_simp;(go_at_call 74);(with_reducible refine PM.mono ?_);rintro e w9 ⟨k9,i9,n9,a9,l9,c9,rfl,hR9,hU9⟩;have hb9:=hbd.kept hU9;obtain⟨y0,y1,y2,y3⟩:=hb9.cells;obtain⟨g0,g1,g2,g3⟩:=hb9.zI;have hl9:=hb9.lt)
              all_goals
                have hset:=hb9.set (d0:=.int .i64 k9) (d1:=.string (B n9)) (d2:=.int .i64 i9) (d3:=.slice a9 l9 c9);have hUn:=(hUz.trans (hd.and hU9) (fun _ _ e=>e.elim)).trans hset.2 (fun _ _ e=>e);have hRn:=zL.zF hset.2 (fun b e=>by omega) _ _ hR9;have HN:=zG (And.intro hset.1 (And.intro hRn hUn));clear hset hUn hRn hR9 hU9 PM x0 x1 x2 x3 d0 d1 d2 d3 d4 d5 hRz hbz hUz hbd hd;go_wp2_with fail
                go_roundw
                case rel=>exact⟨m,u2,k9,i9,n9,a9,l9,c9,by go_num,by omega,HW2.out,HN.out.1,HN.out.2.1,HN.out.2.2⟩
                case measure=>simp[intOf]
             ·obtain rfl:j=0:=by omega
              have hu0:u=V:=hwu;subst hu0;have WF:=yM u HI.out.2.2.2.1 wz _ (Xc hRz);rw[HI.out.2.2.2.2.1]at WF;obtain⟨x0,x1,x2,x3⟩:=hbz.cells;have hYz:=hY.kept hUrz;have hrz:=hrr.kept hUrz;have hnn:¬(0:Int)<=((0:Nat):Int) - 1:=by omega
              clear hwu hHW;obtain⟨sm,hsmd⟩:∃ z,z=u.small:=⟨_,rfl⟩;rw[<-hsmd]at WF;have HSM:=zG hsmd;clear hsmd;cases sm
              case false=>
                have hE:ZC l a ms=2:=by rw[HK.out.2.2.2.1,HI.out.2.2.2.2.2.2 HSM.out.symm];rfl
                have HE:=zG hE;clear hE;rw[show(if false=true then(0:Int)else 2)=2 from rfl]at WF;go_wp2_with fail
                (with_reducible refine WF.mono ?_);rintro e w10 ⟨rfl,hU10⟩;have hr10:=hrz.kept hU10;clear WF x0 x1 x2 x3;go_wp2_with fail
                (with_reducible refine(XP 2 _).mono ?_);rintro e wn ⟨rfl,hUn⟩;have hrn:=hr10.kept hUn;obtain⟨r0,r1,r2,r3⟩:=hrn.cells;obtain⟨y0,y1,y2,y3⟩:=hrn.zI;have hltn:=hrn.lt;go_wp2_with fail
                have hset:=hrn.set (d0:=.int .i64 0) (d1:=.string (B [])) (d2:=.int .i64 0) (d3:=.slice none 0 0);obtain⟨w9,hw9⟩:∃ z,z=(((wn.setCell ⟨H+1,0,none⟩ (.int .i64 0)).setCell ⟨H+1,1,none⟩ (.string (B []))).setCell ⟨H+1,2,none⟩ (.int .i64 0)).setCell ⟨H+1,3,none⟩ (.slice none 0 0):=⟨_,rfl⟩;rw[<-hw9]at hset;try rw[<-show B []={ data:=#[] }from rfl]
                rw[<-hw9];clear hw9;obtain⟨e0,e1,e2,e3⟩:=hset.1.cells;refine bodyPost_ret (v:=.tuple #[.agg #[.int .i64 0,.string (B []),.int .i64 0,.slice none 0 0],.slice none 0 0,.int .i64 0,.int .i64 2]) ?_ rfl ?_
                ·simp[results,Tryz.f30,go_sem,e0,e1,e2,e3]
                ·exact YF.bad HE.out (by decide) ((((zD.zHr hUr (by have:=HUw2.out.size;have:=hU24.size;omega) hg5 (HUw2.out.and hU25)).and (hUrz.and hU10)).and hUn).trans hset.2 (fun b hb e=>by have:=HH.out;omega))
              case true=>
                rw[show(if true=true then(0:Int)else 2)=0 from rfl]at WF;go_wp2_with fail
                (with_reducible refine WF.mono ?_);rintro e w10 ⟨rfl,hU10⟩;have hUr10:=hUrz.and hU10;have hY10:=hYz.kept hU10;have hb10:=hbz.kept hU10;have hR10:=hRz.on hU10;have hz6z:w6.heap.size<=wz.heap.size:=by have:=hUz.size;omega
                have hz60:=hU6.size;have hz510:=hU5.size;have hzq:=hUr.size;have hput:=X1.put (W':=(((w10.setCell ⟨g,i * 4,none⟩ (.int .i64 k6)).setCell ⟨g,i * 4+1,none⟩ (.string (B n6))).setCell ⟨g,i * 4+2,none⟩ (.int .i64 i6)).setCell ⟨g,i * 4+3,none⟩ (.slice a6 l6 c6)) (d':=i+1) hY10 HI.out.1 (zL.weaken (fun b _ e=>by rcases e with e |⟨_,e⟩<;>omega) _ _ hR10) (fun x h8 h9=>by omega) rfl;rw[HI.out.2.1]at hput;have q0:=hUr10.cell p0 (fun x=>x);have q1:=hUr10.cell p1 (fun x=>x);have q2:=hUr10.cell p2 (fun x=>x);have q3:=hUr10.cell p3 (fun x=>x);have hgf10:∀ o,w10.frozen? ⟨g,o,none⟩=false:=fun o=>by rw[hUr10.cells.2 g o hgl (fun x=>x)];exact hgf o
                have hgl10:g<w10.heap.size:=Nat.lt_of_lt_of_le hgl hUr10.size
                have hsm2:∀ x∈SS.take (i+1),x.small=true:=fun x hx=>by
                  rw[HI.out.2.2.2.2.2.1]at hx;rcases List.mem_append.1 hx with h9 |h9
                  ·exact hsm x h9
                  ·rw[List.mem_singleton.1 h9];exact HSM.out.symm
                have hUn:=(hUr.trans hUr10 (fun _ _ e=>e.elim)).trans hput.2 (fun b hb e=>⟨by rw[e],by have:=HLn.out.2.1;omega⟩);have HN:=zG (And.intro hput.1 (And.intro hsm2 hUn));obtain⟨y0,y1,y2,y3⟩:=hb10.cells;clear hput hsm2 hUn WF x0 x1 x2 x3 hYz hrz hY10 hY hR10 hRz hbz p0 p1 p2 p3 hgf;go_wp2_with fail
                go_roundw
                case rel=>exact⟨i+1,by go_num,by omega,HN.out.2.1,HN.out.1,HN.out.2.2⟩
                case measure=>simp[intOf];omega
          ·obtain⟨hkl,hzl,hzl1,hSl⟩:=HLn.out;have hiz:i=zl:=by omega
           have hX:SS.take i++TS.drop i=SS:=by rw[List.drop_eq_nil_of_le (by omega),List.append_nil,List.take_of_length_le (by omega)]
           rw[hX]at hY;rw[List.take_of_length_le (by omega)]at hsm;have hE0:ZC l a ms=0:=by rw[HK.out.2.2.2.1,if_pos (List.all_eq_true.2 hsm)]
           have hRE:=hY.rep (fun g h8 h9=>by have:=hg5 g (by omega) h9;omega) (by omega);obtain⟨g,k1,n1,i1,b1,c1,rfl,hgl,hgf,⟨p0,p1,p2,p3⟩,hR0⟩:=hY.open (j:=0) (by omega)
           have hA:ZX l a ms=SS[0]'(by omega):=by
             unfold ZX;rw[if_pos hE0,<-HK.out.2.2.1];match SS,hSl with
             |x :: xs,_=>rfl
             | [],h=>simp at h;omega
           have hM:ZB l a ms=SS.tail:=by unfold ZB;rw[if_pos hE0,<-HK.out.2.2.1]
           have hNn:QZ l a ms=kl:=by unfold QZ;rw[if_pos hE0,<-HK.out.1,hkl]
           have hRT:zH (fun b=>b<=H+1) wr 4 (SS.tail.map Tm.zN) (some ⟨g,0+4,none⟩) 0:=by
             refine qx _ _ ?_;match SS,hSl,hRE with
             |x :: xs,_,h=>
              simp only[List.map_cons,zH]at h;exact h.2
             | [],h,_=>simp at h;omega
           have hTl:SS.tail.length=ml:=by rw[List.length_tail];omega
           have hR0':=zL.weaken (O':=fun b=>b<=H+1) (fun b _ e=>.inr ⟨by omega,e⟩) _ _ hR0;rw[<-hA]at hR0' p3;rw[<-hM]at hRT hTl;have HX:=zG (And.intro hE0 (And.intro hNn (And.intro hR0' (And.intro hRT hTl))));have hjn:¬(i:Int)<(zl:Int):=by omega
           generalize (ZX l a ms).args.length=al at *
           simp only[Nat.zero_mul,Nat.zero_add]at p0 p1 p2 p3;have hd:zD zC wr wr.drew:=(zD.refl zC _).drew;have S0:YS g (.int .i64 k1) (.string (B n1)) (.int .i64 i1) (.slice b1 al c1) wr.drew:=⟨hd.cell p0 (fun x=>x),hd.cell p1 (fun x=>x),hd.cell p2 (fun x=>x),hd.cell p3 (fun x=>x)⟩;have S1:YS g (.int .i64 k1) (.string (B n1)) (.int .i64 i1) (.slice b1 al c1) wr:=⟨p0,p1,p2,p3⟩;have hgH:g≠H+1:=by have:=hg5 g (by omega) rfl;omega
           have hrd:=hrr.kept hd;have hz0:(0:Int)<(zl:Int):=by omega
           have hz1:(1:Int)<=(zl:Int):=by omega
           have huci:(zl:Int)<=(uc:Int):=by omega
           have hzl2:zl=ml+1:=hzl1;have huw:uc=1\/¬uc=1:=Classical.em _;obtain⟨z0,z1,z2,z3⟩:=hrd.cells;obtain⟨g0,g1,g2,g3⟩:=hrd.zI;have hrl:=hrd.lt;obtain⟨zz0,zz1,zz2,zz3⟩:=hrr.cells;obtain⟨gg0,gg1,gg2,gg3⟩:=hrr.zI;have hrl':=hrr.lt;clear hX hsm hE0 hRE hA hM hNn hRT hTl hR0' hR0 hY hkl hzl hSl hzl1;rcases huw with hu1 |hu1
           ·have hzl0:zl=1:=by omega
            subst hu1;have HZL:=zG (And.intro hzl0 hzl2);clear hzl2;subst hzl0;go_upto_region 29 with fail
            go_region_held3 (fun w'=>YS g (.int .i64 k1) (.string (B n1)) (.int .i64 i1) (.slice b1 al c1) w') (first |(with_reducible assumption)|(with_reducible exact S0)|(with_reducible exact YS.zF (YS.set (YS.set (YS.set (YS.set S1 hgH _ _) hgH _ _) hgH _ _) hgH _ _) (zD.refl zC _).drew (fun x=>x))) (fail)
            all_goals
              go_wp2_with fail
              have hset:=hrr.set (d0:=.int .i64 k1) (d1:=.string (B n1)) (d2:=.int .i64 i1) (d3:=.slice b1 al c1);have hdd:zD zC _ _:=(zD.refl zC ((((wr.setCell ⟨H+1,0,none⟩ (.int .i64 k1)).setCell ⟨H+1,1,none⟩ (.string (B n1))).setCell ⟨H+1,2,none⟩ (.int .i64 i1)).setCell ⟨H+1,3,none⟩ (.slice b1 al c1))).drew;obtain⟨w9,hw9⟩:∃ z,z=((((wr.setCell ⟨H+1,0,none⟩ (.int .i64 k1)).setCell ⟨H+1,1,none⟩ (.string (B n1))).setCell ⟨H+1,2,none⟩ (.int .i64 i1)).setCell ⟨H+1,3,none⟩ (.slice b1 al c1)).drew:=⟨_,rfl⟩;have hb9:=hset.1.kept hdd;have hU9:=hset.2.trans hdd (fun _ _ e=>e.elim);rw[<-hw9]at hb9 hU9;rw[<-hw9];clear hw9 hset hdd;obtain⟨e0,e1,e2,e3⟩:=hb9.cells;refine bodyPost_ret (v:=.tuple #[.agg #[.int .i64 k1,.string (B n1),.int .i64 i1,.slice b1 al c1],.slice (some ⟨g,0,none⟩) 0 0,.int .i64 (kl:Int),.int .i64 0]) ?_ rfl ?_
              ·simp[results,Tryz.f30,go_sem,e0,e1,e2,e3]
              ·obtain⟨hE0,hNn,hR0',hRT,hTl⟩:=HX.out;have hML:(ZB l a ms).length=0:=by rw[hTl];have:=HZL.out;omega
               refine⟨k1,i1,n1,b1,al,c1,(some ⟨g,0,none⟩),0,by rw[hE0,hNn,hML],by rw[hML];omega,zL.weaken (fun b _ e=>by have:=HH.out;omega) _ _ (zL.zF hU9 (fun b e=>by omega) _ _ hR0'),by rw[List.eq_nil_of_length_eq_zero hML];simp only[List.map_nil,zH],?_⟩;exact(zD.zHr hUr (by have:=HUw2.out.size;have:=hU24.size;omega) hg5 (HUw2.out.and hU25)).trans hU9 (fun b hb e=>by have:=HH.out;omega)
           ·have HZ2:=zG hzl2;clear hzl2;have hu2:(1:Int)<=(uc:Int):=by omega
            have hu3:(0:Int)<=(zl:Int):=by omega
            have hn0:0<zl:=by omega
            have hn9:¬zl=0:=by omega
            have hn8:(0:Int)<(zl:Int):=by omega
            have hn7:(1:Int)<=(zl:Int):=by omega
            go_upto_region 29 with fail
            go_region_held3 (fun w'=>YS g (.int .i64 k1) (.string (B n1)) (.int .i64 i1) (.slice b1 al c1) w') (first |(with_reducible assumption)|(with_reducible exact S0)|(with_reducible exact YS.zF (YS.set (YS.set (YS.set (YS.set S1 hgH _ _) hgH _ _) hgH _ _) hgH _ _) (zD.refl zC _).drew (fun x=>x))) (fail)
            all_goals
              go_wp2_with fail
              have hset:=hrr.set (d0:=.int .i64 k1) (d1:=.string (B n1)) (d2:=.int .i64 i1) (d3:=.slice b1 al c1);have hdd:zD zC _ _:=(zD.refl zC ((((wr.setCell ⟨H+1,0,none⟩ (.int .i64 k1)).setCell ⟨H+1,1,none⟩ (.string (B n1))).setCell ⟨H+1,2,none⟩ (.int .i64 i1)).setCell ⟨H+1,3,none⟩ (.slice b1 al c1))).drew;obtain⟨w9,hw9⟩:∃ z,z=((((wr.setCell ⟨H+1,0,none⟩ (.int .i64 k1)).setCell ⟨H+1,1,none⟩ (.string (B n1))).setCell ⟨H+1,2,none⟩ (.int .i64 i1)).setCell ⟨H+1,3,none⟩ (.slice b1 al c1)).drew:=⟨_,rfl⟩;have hb9:=hset.1.kept hdd;have hU9:=hset.2.trans hdd (fun _ _ e=>e.elim);rw[<-hw9]at hb9 hU9;rw[<-hw9];clear hw9 hset hdd;obtain⟨e0,e1,e2,e3⟩:=hb9.cells;refine bodyPost_ret (v:=.tuple #[.agg #[.int .i64 k1,.string (B n1),.int .i64 i1,.slice b1 al c1],.slice (some ⟨g,4,none⟩) (zl - 1) (uc - 1),.int .i64 (kl:Int),.int .i64 0]) ?_ rfl ?_
              ·simp[results,Tryz.f30,go_sem,e0,e1,e2,e3]
              ·obtain⟨hE0,hNn,hR0',hRT,hTl⟩:=HX.out;have hML:(ZB l a ms).length=zl - 1:=by rw[hTl];have:=HZ2.out;omega
               refine⟨k1,i1,n1,b1,al,c1,(some ⟨g,4,none⟩),(uc - 1),by rw[hE0,hNn,hML],by rw[hML];omega,zL.weaken (fun b _ e=>by have:=HH.out;omega) _ _ (zL.zF hU9 (fun b e=>by omega) _ _ hR0'),zH.weaken (fun b _ e=>by have:=HH.out;omega) _ _ _ _ (zH.zF hU9 (fun b e=>by omega) _ _ _ _ hRT),?_⟩;exact(zD.zHr hUr (by have:=HUw2.out.size;have:=hU24.size;omega) hg5 (HUw2.out.and hU25)).trans hU9 (fun b hb e=>by have:=HH.out;omega)
end Go.Proofs.YthgmimncdjhgnaaGreatDoor
