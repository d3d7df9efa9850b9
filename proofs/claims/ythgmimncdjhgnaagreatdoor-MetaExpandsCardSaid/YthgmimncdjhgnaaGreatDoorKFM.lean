/- lfcheckref13's expander.expand: the step. -/
import Derived.Test.YthgmimncdjhgnaaGreatDoorKCH
import Derived.Test.YthgmimncdjhgnaaGreatDoorKDC
import Derived.Test.YthgmimncdjhgnaaGreatDoorKEE
import Derived.Test.YthgmimncdjhgnaaGreatDoorKEF
import Derived.Test.YthgmimncdjhgnaaGreatDoorKFA
import Derived.Test.YthgmimncdjhgnaaGreatDoorKFD
import Derived.Test.YthgmimncdjhgnaaGreatDoorKFF
import Derived.Test.YthgmimncdjhgnaaGreatDoorKFG
import Derived.Test.YthgmimncdjhgnaaGreatDoorKSC
import Derived.Test.YthgmimncdjhgnaaGreatDoorKSD
import Derived.BigQuiet
import Derived.Deep.CutRange
import Derived.Deep.RegionHeld3
import Derived.Deep.RegionLaw
set_option maxRecDepth 100000
set_option maxHeartbeats 16000000
namespace Go.Proofs.YthgmimncdjhgnaaGreatDoor
section
open Go.RowKit Go.LF
def RxR(O:Nat->Prop)(xb:Nat)(la:Option Addr)(ll lc:Nat)(r:Tm.xU)(w:World)(e:Ending)(w':World):Prop:=
  ∃(k i:Int)(n:List UInt8)(a:Option Addr)(len cap:Nat),e=.returned (.agg #[.int .i64 k,.string (B n),.int .i64 i,.slice a len cap])/\
   zM O w' r.t.zN [.int .i64 k,.string (B n),.int .i64 i,.slice a len cap]/\y8 w' xb (.slice la ll lc) (.int .i64 (r.w:Int)) (.int .i64 r.e) 83/\zD (fun b=>b=xb) w w'
def zJ8(l:List Mv)(n:Nat)(t:Tm):Prop:=
  ∀(c xb:Nat)(O:Nat->Prop)(w:World)(la:Option Addr)(lc:Nat)(cs:List Value),16385<=n+c->c<=16384->t.wf=0->Kn l.length t->O xb->(∀ b,O b->b<w.heap.size)->
   y8 w xb (.slice la l.length lc) (.int .i64 (c:Int)) (.int .i64 0) 83->zG O w 6 (l.map Mv.zN) la 0->zM O w t.zN cs->
   Calls Tryz.prog 57 #[.pointer (some ⟨xb,0,none⟩),.agg cs.toArray] w (RxR O xb la l.length lc (xe l n t c) w)
theorem QX{O:Nat->Prop}{xb:Nat}{la:Option Addr}{ll lc:Nat}{r:Tm.xU}{w W W':World}{r0:Nat}{k i:Int}{n:List UInt8}{a:Option Addr}{len cap:Nat}(hRt:zM (fun b=>O b\/b=r0) W r.t.zN [.int .i64 k,.string (B n),.int .i64 i,.slice a len cap])
    (hB:y8 W xb (.slice la ll lc) (.int .i64 (r.w:Int)) (.int .i64 r.e) 83) (hU:zD (fun b=>b=xb) w W) (hset:zD (fun b=>b=r0) W W') (h1:w.heap.size<=r0) (h2:xb<w.heap.size):
    RxR O xb la ll lc r w (.returned (.agg #[.int .i64 k,.string (B n),.int .i64 i,.slice a len cap])) W':=
  ⟨k,i,n,a,len,cap,rfl,zM.weaken (fun b _ e=>.inl e) _ _ (zM.zF hset (fun b e=>.inr e) _ _ hRt),hB.zF hset (by omega),hU.trans hset (fun b hb e=>by omega)⟩
theorem y8.Yq{W:World}{g:Nat}{c0 c1 c2:Value}{T:TypeId}(h:y8 W g c0 c1 c2 T)(v:Value):y8 (W.setCell ⟨g,2,none⟩ v) g c0 c1 v T:=by
  obtain⟨hlt,hk⟩:=Array.getElem?_eq_some_iff.1 h
  show(W.heap.modify g _)[g]? =_
  rw[Array.getElem?_eq_getElem (by rw[Array.size_modify];exact hlt),Array.getElem_modify_self,hk]
  rfl
theorem zG1{O:Nat->Prop}{base D:Nat}{w6 w7:World}{v k0 k1' k2:Value}{us:List Tm}{css:List (List Value)}{u:Tm}{k1 i1:Int}{n1:List UInt8}{a1:Option Addr}{len1 cap1 g cap':Nat}
    (hD:yI 29 4 O base w6 v (us.map Tm.zN) css) (hO:∀ b,O b->b<base) (hout:zK w6 D k0 k1' k2 v 29) (hDb:D<base)
    (hR:zM (fun b=>O b\/v.ownBlock=some b) w6 u.zN [.int .i64 k1,.string (B n1),.int .i64 i1,.slice a1 len1 cap1])
    (hown:w7.ownsRow base 29 4 (.slice (some ⟨g,0,none⟩) (us.length+1) cap') (us.length+1) (css.flatten++[.int .i64 k1,.string (B n1),.int .i64 i1,.slice a1 len1 cap1]))
    (hgrow:(w6.alloc (.cells #[.int .i64 k1,.string (B n1),.int .i64 i1,.slice a1 len1 cap1] 29)).grownBy w7 v.ownBlock)
    (hat:v.ownBlock=some g\/g=(w6.alloc (.cells #[.int .i64 k1,.string (B n1),.int .i64 i1,.slice a1 len1 cap1] 29)).heap.size) (hOD:O D) (_hb6:base<=w6.heap.size):
    ∃ css',yI 29 4 O base (w7.setCell ⟨D,3,none⟩ (.slice (some ⟨g,0,none⟩) (us.length+1) cap')) (.slice (some ⟨g,0,none⟩) (us.length+1) cap') ((us++[u]).map Tm.zN) css'/\
      zK (w7.setCell ⟨D,3,none⟩ (.slice (some ⟨g,0,none⟩) (us.length+1) cap')) D k0 k1' k2 (.slice (some ⟨g,0,none⟩) (us.length+1) cap') 29/\
      zD (fun b=>b=D\/base<=b) w6 (w7.setCell ⟨D,3,none⟩ (.slice (some ⟨g,0,none⟩) (us.length+1) cap')):=by
  have hal:zD zC w6 (w6.alloc (.cells #[.int .i64 k1,.string (B n1),.int .i64 i1,.slice a1 len1 cap1] 29)):=(zD.refl zC w6).alloc _
  have hDa:=hD.on hal hO
  have hown':w7.ownsRow base 29 4 (.slice (some ⟨g,0,none⟩) ((us.map Tm.zN).length+1) cap') ((us.map Tm.zN).length+1) (css.flatten++[.int .i64 k1,.string (B n1),.int .i64 i1,.slice a1 len1 cap1]):=by rw[List.length_map];exact hown
  have hn:=hDa.appended (d:=u.zN) rfl (hR.on hal) hown' hgrow hat (Nat.le_refl _)
  rw[List.length_map]at hn
  have hset:zD (fun b=>b=D) w7 (w7.setCell ⟨D,3,none⟩ (.slice (some ⟨g,0,none⟩) (us.length+1) cap')):=zD.set (zD.refl _ _) 3 _
  have hU7:zD (fun b=>base<=b) w6 w7:=(hal.mono (fun _ _ x=>x.elim)).trans (zy hgrow) (fun b hb e=>(hDa.2.2.1.lt b e).1)
  have hout7:=hout.zF hU7 (by omega)
  refine⟨_,by simpa using hn.zF hset (fun b e=>e ▸ hOD) hO,hout7.Yt _,(hU7.mono (fun b _ e=>.inr e)).trans hset (fun b _ e=>.inl e)⟩
theorem Qw.new{xb H mb mo:Nat}{x0 t0 t1 t2 t3 m0 m1 m2 m3 m4 m5:Value}{w:World}(h:Qw xb H mb mo x0 t0 t1 t2 t3 m0 m1 m2 m3 m4 m5 w)(o:Obj):Qw xb H mb mo x0 t0 t1 t2 t3 m0 m1 m2 m3 m4 m5 (w.alloc o):=
  h.zF ((zD.refl zC w).alloc o) (((zD.refl zC w).alloc o).cell h.1 (fun x=>x)) (fun x=>x) (fun x=>x)
theorem Qw.dr{xb H mb mo:Nat}{x0 t0 t1 t2 t3 m0 m1 m2 m3 m4 m5:Value}{w:World}(h:Qw xb H mb mo x0 t0 t1 t2 t3 m0 m1 m2 m3 m4 m5 w):Qw xb H mb mo x0 t0 t1 t2 t3 m0 m1 m2 m3 m4 m5 w.drew:=
  h.zF ((zD.refl zC w).drew) (((zD.refl zC w).drew).cell h.1 (fun x=>x)) (fun x=>x) (fun x=>x)
theorem Qw.zCH{xb H mb mo r:Nat}{x0 t0 t1 t2 t3 m0 m1 m2 m3 m4 m5:Value}{w:World}(h:Qw xb H mb mo x0 t0 t1 t2 t3 m0 m1 m2 m3 m4 m5 w)(h1:¬xb=r)(h2:¬H=r)(h3:¬mb=r)(d0 d1 d2 d3 d4 d5:Value):
    Qw xb H mb mo x0 t0 t1 t2 t3 m0 m1 m2 m3 m4 m5 ((((((w.setCell ⟨r,0,none⟩ d0).setCell ⟨r,1,none⟩ d1).setCell ⟨r,2,none⟩ d2).setCell ⟨r,3,none⟩ d3).setCell ⟨r,4,none⟩ d4).setCell ⟨r,5,none⟩ d5):=by
  have hU:zD (fun b=>b=r) w ((((((w.setCell ⟨r,0,none⟩ d0).setCell ⟨r,1,none⟩ d1).setCell ⟨r,2,none⟩ d2).setCell ⟨r,3,none⟩ d3).setCell ⟨r,4,none⟩ d4).setCell ⟨r,5,none⟩ d5):=zD.set (zD.set (zD.set (zD.set (zD.set (zD.set (zD.refl _ _) 0 _) 1 _) 2 _) 3 _) 4 _) 5 _
  exact h.zF hU (hU.cell h.1 h1) h2 h3
abbrev Ax7(Z vb vo D:Nat)(z1 z2 z3 z4 z5 v0 v1 v2 v3 d3:Value)(w':World):Prop:=
  (w'.cell? ⟨Z,1,none⟩=some z1/\w'.cell? ⟨Z,2,none⟩=some z2/\w'.cell? ⟨Z,3,none⟩=some z3/\w'.cell? ⟨Z,4,none⟩=some z4/\w'.cell? ⟨Z,5,none⟩=some z5)/\(w'.cell? ⟨vb,vo,none⟩=some v0/\w'.cell? ⟨vb,vo+1,none⟩=some v1/\w'.cell? ⟨vb,vo+2,none⟩=some v2/\w'.cell? ⟨vb,vo+3,none⟩=some v3)/\w'.cell? ⟨D,3,none⟩=some d3
theorem Ax7.zF{S:Nat->Prop}{Z vb vo D:Nat}{z1 z2 z3 z4 z5 v0 v1 v2 v3 d3:Value}{w w':World}(h:Ax7 Z vb vo D z1 z2 z3 z4 z5 v0 v1 v2 v3 d3 w)(hU:zD S w w')(h1:¬S Z)(h2:¬S vb)(h3:¬S D):Ax7 Z vb vo D z1 z2 z3 z4 z5 v0 v1 v2 v3 d3 w':=by
  obtain⟨⟨a1,a2,a3,a4,a5⟩,⟨b0,b1,b2,b3⟩,c0⟩:=h
  exact⟨⟨hU.cell a1 h1,hU.cell a2 h1,hU.cell a3 h1,hU.cell a4 h1,hU.cell a5 h1⟩,⟨hU.cell b0 h2,hU.cell b1 h2,hU.cell b2 h2,hU.cell b3 h2⟩,hU.cell c0 h3⟩
theorem Ax7.new{Z vb vo D:Nat}{z1 z2 z3 z4 z5 v0 v1 v2 v3 d3:Value}{w:World}(h:Ax7 Z vb vo D z1 z2 z3 z4 z5 v0 v1 v2 v3 d3 w)(o:Obj):Ax7 Z vb vo D z1 z2 z3 z4 z5 v0 v1 v2 v3 d3 (w.alloc o):=h.zF ((zD.refl zC w).alloc o) (fun x=>x) (fun x=>x) (fun x=>x)
theorem Ax7.Ye{r Z vb vo D:Nat}{z1 z2 z3 z4 z5 v0 v1 v2 v3 d3:Value}{w:World}(h:Ax7 Z vb vo D z1 z2 z3 z4 z5 v0 v1 v2 v3 d3 w)(h1:¬Z=r)(h2:¬vb=r)(h3:¬D=r)(d0 d1 d2 d3':Value):
    Ax7 Z vb vo D z1 z2 z3 z4 z5 v0 v1 v2 v3 d3 ((((w.setCell ⟨r,0,none⟩ d0).setCell ⟨r,1,none⟩ d1).setCell ⟨r,2,none⟩ d2).setCell ⟨r,3,none⟩ d3'):=
  h.zF (zD.set (zD.set (zD.set (zD.set (zD.refl _ _) 0 _) 1 _) 2 _) 3 _) h1 h2 h3
theorem zE6(l:List Mv)(hG:StG l)(n:Nat)(EX:∀ t,zJ8 l n t)(t:Tm):zJ8 l (n+1) t:=by
  induction t using Tm.ind with
  |h k nm i ts ih=>
   intro c xb O w la lc cs hn hc hwf hkn hOx hO hX hL hR
   obtain⟨i0,hi,hi0,hi1,hi2⟩:=info_parts yZ
   obtain⟨ta,tc,rfl,htc,hT⟩:=zk.1 hR
   have hargs:=zFl hwf
   have hknA:=(Tm.yk _ _ _ _).1 hkn
   have hkna:=(Tm.yQ _).1 hknA.2
   have hk6:=hknA.1
   obtain⟨tl,htl⟩:∃ tl,tl=ts.length:=⟨_,rfl⟩
   rw[<-htl]at hk6 htc
   have htl2:tl<=200:=hk6.2
   obtain⟨w3,hw3⟩:∃ w3,w3=((w.alloc (.cells #[.int .i64 k,.string (B nm),.int .i64 i,.slice ta tl tc] 29)).alloc (.cells #[.int .i64 0,.string (B []),.int .i64 0,.slice none 0 0] 29)).alloc (.cells #[.int .i64 k,.string (B nm),.int .i64 i,.slice none 0 0] 29):=⟨_,rfl⟩
   have hU3:zD zC w w3:=by rw[hw3];exact(((zD.refl zC w).alloc _).alloc _).alloc _
   have ht3:zK w3 w.heap.size (.int .i64 k) (.string (B nm)) (.int .i64 i) (.slice ta tl tc) 29:=by rw[hw3];exact((zK.zL rfl).kept ((zD.refl zC _).alloc _)).kept ((zD.refl zC _).alloc _)
   have hr3:zK w3 (w.heap.size+1) (.int .i64 0) (.string (B [])) (.int .i64 0) (.slice none 0 0) 29:=by rw[hw3];exact(zK.zL (by simp)).kept ((zD.refl zC _).alloc _)
   have ho3:zK w3 (w.heap.size+1+1) (.int .i64 k) (.string (B nm)) (.int .i64 i) (.slice none 0 0) 29:=by rw[hw3];exact zK.zL (by simp)
   obtain⟨H,hH⟩:∃ H,H=w.heap.size:=⟨_,rfl⟩
   rw[<-hH]at ht3 hr3 ho3
   have hz3:w3.heap.size=H+3:=by rw[hw3,hH];simp
   have hO':∀ b,O b->b<H:=by rw[hH];exact hO
   have hX3:=hX.kept hU3
   have hL3:=(zG.zQ _ _ _ _ hL).on hU3
   have hT3:=(zG.zQ _ _ _ _ hT).on hU3
   rw[<-hH]at hL3 hT3
   obtain⟨ll,hll⟩:∃ ll,ll=l.length:=⟨_,rfl⟩
   rw[<-hll]at hX3 hk6
   rw[<-hll,<-htl]
   have hll2:(ll:Int)<=40:=by have:=hG.len;omega
   obtain⟨R,hRR⟩:∃ R,R=xe l (n+1) (.mk k nm i ts) c:=⟨_,rfl⟩
   rw[<-hRR]
   rw[xC,Z0]at hRR
   have hexL:∀ t c,Zm (XD l (xe l n)) t c=xe l (n+1) t c:=fun t c=>by rw[xC]
   obtain⟨g,hg⟩:∃ g,g=XD l (xe l n):=⟨_,rfl⟩
   rw[<-hg]at hRR hexL
   have HW:=zH hw3
   have HH:=zH hH
   have HL:=zH (And.intro htl hll)
   have HP:=zH (And.intro hn (And.intro hwf (And.intro hO' hRR)))
   have HGG:=zH hg
   have htl3:(tl:Int)<=200:=by omega
   have HK6:=zH hk6.1
   have hxH:xb<H:=hO' xb hOx
   have hU0:=hU3
   have hOO:∀ b,(O b\/b=H\/b=H+1\/b=H+1+1)->b<H+3:=fun b e=>by rcases e with e |e |e |e;(have:=hO' b e;omega);all_goals omega
   have HOO:=zH hOO
   clear hw3 hH hX hR hL hT hO hwf hkn htl hll hRR hn hknA hk6 hg hO' hOO
   obtain⟨t0,t1,t2,t3⟩:=ht3.cells
   go_enter Tryz.func57,Tryz.ntmps57
   go_upto_region 2 with fail
   rw[<-show B []={ data:=#[] }from rfl,<-HW.out,<-HH.out]
   go_wp2_with fail
   go_loopw [6] (fun v6 wr=>∃(j cj:Nat)(ej:Int)(us:List Tm)(v:Value)(css:List (List Value)),v6=.int .i64 (j:Int)/\j<=tl/\((ej=0/\yx g (ts.take j) c=⟨0,us,cj⟩/\cj<=16384/\c<=cj/\us.length=j)\/(ej≠0/\yx g ts c=⟨ej,[],cj⟩))/\us.length<=200/\
       yI 29 4 (fun b=>O b\/b=H\/b=H+1\/b=H+1+1) (H+3) wr v (us.map Tm.zN) css/\zK wr (H+1+1) (.int .i64 k) (.string (B nm)) (.int .i64 i) v 29/\
       y8 wr xb (.slice la ll lc) (.int .i64 (cj:Int)) (.int .i64 ej) 83/\zD (fun b=>b=xb\/b=H+1+1\/H+3<=b) w3 wr) (fun v6 _=>tl - (intOf v6).toNat)
   case atStart=>exact⟨0,c,0,[],_,[],rfl,Nat.zero_le _,.inl ⟨rfl,by simp[qh],hc,Nat.le_refl _,rfl⟩,by simp,yI.nil _ _ _ _ _,ho3,hX3,zD.refl _ _⟩
   case round=>
     clear hX3 t0 t1 t2 t3
     obtain⟨j,cj,ej,us,v,css,rfl,hj,hcase,hul,hD,ho,hX,hU⟩:=hrel
     have ht':=ht3.zF hU (by omega)
     have hr':=hr3.zF hU (by omega)
     have hjm:(j:Int)<=200:=by omega
     have hzr:=hU.size
     rw[hz3]at hzr
     have HC:=zH hcase
     clear hcase
     obtain⟨x0,x1,x2⟩:=hX.cells
     obtain⟨t0,t1,t2,t3⟩:=ht'.cells
     have hgo:(j<tl/\ej=0)\/¬(j<tl/\ej=0):=Classical.em _
     rcases hgo with⟨hlt,rfl⟩|hstop
     ·have hjl:j<ts.length:=by have:=HL.out.1;omega
      obtain⟨hA,hcj,hccj,huj⟩:yx g (ts.take j) c=⟨0,us,cj⟩/\cj<=16384/\c<=cj/\us.length=j:=by
        rcases HC.out with h |h
        ·exact h.2
        ·exact absurd rfl h.1
      have hstep:=Xs g ts c j hjl (by rw[hA])
      rw[hA,hexL]at hstep
      simp only at hstep
      have htj:=List.getElem_mem hjl
      obtain⟨eb,eo,ek,en,ex,es,ec,rfl,hebl,heO,p0,p1,p2,p3,hRp⟩:=zd (zG.zF hU (fun b e=>by rcases e with e |e |e;(exact .inl (e ▸ hOx));all_goals exact .inr (by omega)) _ _ _ _ hT3) j hjl
      have hvb:=fun b e=>hD.2.2.1.lt b e
      have hd:zD zC wr wr.drew:=(zD.refl zC wr).drew
      have hLr:=zG.zF hU (fun b e=>by rcases e with e |e |e;(exact .inl (e ▸ hOx));all_goals exact .inr (by omega)) _ _ _ _ hL3
      have wk:∀ b,b<wr.heap.size->(O b\/b=H\/b=H+1\/b=H+1+1\/v.ownBlock=some b)->(O b\/H<=b):=fun b _ e=>by rcases e with e |e |e |e |e;(exact .inl e);(exact .inr (by omega));(exact .inr (by omega));(exact .inr (by omega));exact .inr (by have:=(hvb b e).1;omega)
      have IH:=ih ts[j] htj cj xb (fun b=>O b\/b=H\/b=H+1\/b=H+1+1\/v.ownBlock=some b) wr.drew la lc _ (by have:=HP.out.1;omega) hcj (hargs _ htj) (hkna _ htj) (.inl hOx)
        (fun b e=>by have h1:=hd.size;have h2:=HOO.out b;rcases e with e |e |e |e |e;(have:=h2 (.inl e);omega);(have:=h2 (.inr (.inl e));omega);(have:=h2 (.inr (.inr (.inl e)));omega);(have:=h2 (.inr (.inr (.inr e)));omega);(have:=(hvb b e).2;omega))
        (by rw[<-HL.out.2];exact hX.kept hd) ((zG.weaken wk _ _ _ _ hLr).on hd) ((zM.weaken wk _ _ hRp).on hd)
      rw[<-HL.out.2]at IH
      obtain⟨r,hr⟩:∃ r,r=xe l (n+1) ts[j] cj:=⟨_,rfl⟩
      rw[<-hr]at IH hstep
      have hnz:r.e≠0->r.t=Tm.zT:=fun h=>by rw[hr]at h ⊢;exact qk l (n+1) _ _ h
      have hrc:cj<=r.w:=by rw[hr];exact zHQ l (n+1) _ _
      have hrw:r.e=0->r.w<=16384:=fun h=>by rw[hr]at h ⊢;exact zFS l (n+1) _ _ hcj h
      have hnext:(r.e=0/\yx g (ts.take (j+1)) c=⟨0,us++[r.t],r.w⟩/\r.w<=16384/\c<=r.w/\(us++[r.t]).length=j+1)\/(r.e≠0/\yx g ts c=⟨r.e,[],r.w⟩):=by
        by_cases h0:r.e=0
        ·rw[if_pos h0]at hstep
         exact .inl ⟨h0,hstep,hrw h0,by omega,by simp[huj]⟩
        ·rw[if_neg h0]at hstep
         exact .inr ⟨h0,by rw[zDb g ts c (j+1) (by rw[hstep];exact h0),hstep]⟩
      have HN:=zH hnext
      have HLT:=zH hlt
      have hzj:(j:Int)<(tl:Int):=by omega
      have hul6:us.length<=1000000:=by omega
      have HUJ:=zH huj
      generalize ts[j].args.length=el at *
      obtain⟨o0,o1,o2,o3⟩:=ho.cells
      obtain⟨f0,f1,f2,f3⟩:=ho.zI
      have qo:=ho.lt
      have hdl:(us.map Tm.zN).length=us.length:=List.length_map ..
      have hDr:=hD
      clear hA hstep hr hnz hrc hrw hnext htj hj hcj hccj huj hlt hRp ih
      go_wp2_with fail
      go_region_law (first
        |((rw[if_pos (by rfl)]);go_simp;(go_at_call 57);(with_reducible refine IH.mono ?_);rintro e w6 ⟨k1,i1,n1,a1,len1,cap1,rfl,hR6,hX6,hU6⟩;have hUr6:=(hd.mono (S':=fun b=>b=xb) (fun _ _ e=>e.elim)).trans hU6 (fun _ _ e=>e);have ho6:=ho.zF hUr6 (by omega);have hD6:=hD.zF hUr6 (fun b e=>.inl (e ▸ hOx)) HOO.out;have c6:=ho6.cells.2.2.2;have z6:=ho6.frozen 3;have q6:=ho6.lt;have ss6:=hUr6.size;have hDa:=hD6.on ((zD.refl zC w6).alloc (.cells #[.int .i64 k1,.string (B n1),.int .i64 i1,.slice a1 len1 cap1] 29)) HOO.out)
        |(refine step_append_lies _ (by rfl) _ _ 26 (by rfl) (H+3) 29 i0 (.agg #[.int .i64 0,.string (B []),.int .i64 0,.slice none 0 0]) 4 56 (by kernel_rfl) hi hi0 hi1 hi2 rfl (by decide) v us.length css.flatten (by rfl) (by rw[<-hdl];exact hDa.2.2.1) ⟨w6.heap.size,0,none⟩ 1 1 [.int .i64 k1,.string (B n1),.int .i64 i1,.slice a1 len1 cap1] (by rfl) rfl (World.news_of_block (heap_alloc_new w6 _)) (by simp[Value.oneCell']) (by omega) (by simp only[maxLen];omega) (by omega) (by simp;omega) _ rfl ?_;intro gg cap' w7 hown hgrow hat hlt7;have ho7:=(ho6.kept ((zD.refl zC w6).alloc _)).zFG hgrow hDa (by omega);have c7:=ho7.cells.2.2.2;have z7:=ho7.frozen 3;have q7:=ho7.lt))
      all_goals
        obtain⟨css',hD8,ho8,hU8⟩:=zG1 hD6 HOO.out ho6 (by omega) (zM.weaken (fun b _ e=>by rcases e with(e |e |e |e)|e;(exact .inl e);(exact .inr (.inl e));(exact .inr (.inr (.inl e)));(exact .inr (.inr (.inr (.inl e))));exact .inr (.inr (.inr (.inr e)))) _ _ hR6) hown hgrow hat (.inr (.inr (.inr rfl))) (by omega)
        have hX8:=hX6.zF hU8 (by omega)
        have hU38:=(hU.trans hUr6 (fun b hb e=>.inl e)).trans hU8 (fun b hb e=>.inr e)
        have HF:=zH (And.intro hD8 (And.intro ho8 (And.intro hX8 hU38)))
        clear hD8 ho8 hX8 hU38 hU8 hX6 hU6 hD6 hDa hR6
        go_wp2_with fail
        go_roundw
        case rel=>exact⟨j+1,r.w,r.e,us++[r.t],_,css',by go_num,Nat.succ_le_of_lt HLT.out,HN.out,by rw[List.length_append,List.length_singleton];have:=HUJ.out;have:=HLT.out;omega,HF.out.1,HF.out.2.1,HF.out.2.2.1,HF.out.2.2.2⟩
        case measure=>(have:=HLT.out;simp[intOf];omega)
     ·have hUw:zD (fun b=>b=xb) w wr:=(hU0.mono (fun _ _ e=>e.elim)).trans hU (fun b hb e=>by rcases e with e |e |e;(exact e);all_goals(have:=HH.out;omega))
      obtain⟨y0,y1,y2,y3⟩:=hr'.cells
      obtain⟨z0,z1,z2,z3⟩:=hr'.zI
      have qr:=hr'.lt
      by_cases hej:ej=0
      case neg=>
        have hR2:R=⟨ej,Tm.zT,cj⟩:=by
          rcases HC.out with h |h
          ·exact absurd h.1 hej
          ·rw[HP.out.2.2.2,h.2,if_neg hej]
        have HR:=zH hR2
        have hejb:(ej == 0)=false:=by simpa using hej
        have hejn:(ej !=0)=true:=by simpa using hej
        have hset:=hr'.set (d0:=.int .i64 0) (d1:=.string (B [])) (d2:=.int .i64 0) (d3:=.slice none 0 0)
        have HEE:=zH hset
        have hways:(j:Int)<(tl:Int)\/¬(j:Int)<(tl:Int):=Classical.em _
        clear hset hR2 hej hstop ih
        rcases hways with hlt |hlt
        all_goals
          go_wp2_with fail
          obtain⟨hb9,hset⟩:=HEE.out
          obtain⟨e0,e1,e2,e3⟩:=hb9.cells
          refine bodyPost_ret (v:=.agg #[.int .i64 0,.string (B []),.int .i64 0,.slice none 0 0]) ?_ rfl ?_
          ·simp[results,Tryz.f57,go_sem,e0,e1,e2,e3]
          ·exact QX (r0:=H+1) (by rw[HR.out];exact ze 0 [] 0) (by rw[HR.out];exact hX) hUw hset (by have:=HH.out;omega) (by have:=HH.out;omega)
      subst hej
      have hjt:j=tl:=by omega
      obtain⟨hAe,hcj,hccj,huj⟩:yx g ts c=⟨0,us,cj⟩/\cj<=16384/\c<=cj/\us.length=tl:=by
        rcases HC.out with h |h
        ·have h2:=h.2.1
         rw[List.take_of_length_le (by have:=HL.out.1;omega)]at h2
         exact⟨h2,h.2.2.1,h.2.2.2.1,by omega⟩
        ·exact absurd rfl h.1
      obtain⟨a9,cap9,rfl,hcap9,hE9⟩:=hD.rep HOO.out
      simp only[List.length_map]at hcap9
      rw[List.length_map]at ho
      have hnode:zM (fun b=>O b\/b=H\/b=H+1\/b=H+1+1) wr (Tm.mk k nm i us).zN [.int .i64 k,.string (B nm),.int .i64 i,.slice a9 us.length cap9]:=zk.2 ⟨_,_,rfl,hcap9,hE9⟩
      have hgood:=zDf hG (n:=n) (c:=c) (ts:=ts) (by rw[<-HGG.out,hAe])
      rw[<-HGG.out,hAe]at hgood
      simp only at hgood
      have hLr:=zG.zF hU (fun b e=>by rcases e with e |e |e;(exact .inl (e ▸ hOx));all_goals exact .inr (by omega)) _ _ _ _ hL3
      have HU:=zH (And.intro huj (And.intro hAe hgood))
      obtain⟨sb,hsb⟩:∃ sb,sb=(slv l k i).isSome:=⟨_,rfl⟩
      have HSB:=zH hsb
      have hk0:k=6->0<=i:=fun e=>by
        have h:=HP.out.2.1
        rw[e]at h
        exact(Q5 h).2
      have HK0:=zH hk0
      obtain⟨w8,rfl⟩:∃ q,q=wr:=⟨wr,rfl⟩
      have hjn:¬(j:Int)<(tl:Int):=by omega
      clear hsb hk0 hAe hgood hjt hstop hD ih
      go_upto_region 8 with fail
      go_cut [64]from 49 to 64 (fun v64 wx=>v64=.bool (!sb)/\zD zC w8 wx)
      case first=>
        by_cases hk:k=6
        ·have hi0:=HK0.out hk
         have hil:=HK6.out hk
         obtain⟨p,rfl⟩:∃ p:Nat,i=(p:Int):=⟨i.toNat,by omega⟩
         have hpl:p<l.length:=by have:=HL.out.2;omega
         have hpn:p<ll:=by omega
         obtain⟨b2,o2,k2,n2,ix2,aa2,cap2,va2,vc2,rfl,hb2,_,⟨c0,c1,c2,c3,c4,c5⟩,_,_,_⟩:=xY hLr p hpl
         have hsv:sb=!(l[p].value.isEmpty):=by
           rw[HSB.out]
           unfold slv
           rw[if_pos ⟨hk,hi0⟩]
           simp only[Int.toNat_natCast,List.getElem?_eq_getElem hpl]
           cases l[p].value<;>rfl
         obtain⟨vl,hvl⟩:∃ vl,vl=l[p].value.length:=⟨_,rfl⟩
         rw[<-hvl]at c5
         have hsv2:sb=decide (0<vl):=by
           rw[hsv,hvl]
           cases l[p].value<;>simp
         have HS2:=zH hsv2
         generalize l[p].type.args.length=al2 at *
         generalize l[p].name=ln2 at *
         have e5:=c5
         have hvm:vl=0\/0<vl:=by omega
         have hk':(k !=6)=false:=by simpa using hk
         clear hsv hsv2 hvl c0 c1 c2 c3 c4 c5 hk y0 y1 y2 y3 z0 z1 z2 z3
         rcases hvm with rfl |hvm
         ·go_quiet (fail)
          all_goals
            go_wp2_with fail
            go_meet
            case rel=>exact⟨by rw[HS2.out];rfl,x6 _ _⟩
         ·have hvi:((vl:Int) == 0)=false:=by simp;omega
          go_quiet (fail)
          all_goals
            go_wp2_with fail
            go_meet
            case rel=>exact⟨by rw[HS2.out,decide_eq_true hvm];rfl,x6 _ _⟩
        ·have hk':(k !=6)=true:=by simpa using hk
         have HS2:=zH (show sb=false by rw[HSB.out,zFq hk];rfl)
         clear hk
         go_quiet (fail)
         all_goals
           go_wp2_with fail
           go_meet
           case rel=>exact⟨by rw[HS2.out];rfl,x6 _ _⟩
      case rest=>
        obtain⟨rfl,hUc⟩:=hcut
        obtain⟨wd,rfl⟩:∃ wd,wd=wc:=⟨_,rfl⟩
        have htc:=ht'.kept hUc
        have hrc:=hr'.kept hUc
        have hoc:=ho.kept hUc
        have hXc:=hX.kept hUc
        have hnc:=hnode.on hUc
        have hLc:=hLr.on hUc
        have hEc:=hE9.on hUc
        have hUwc:zD (fun b=>b=xb) w wd:=hUw.trans hUc (fun _ _ e=>e.elim)
        have hRR:=HP.out.2.2.2
        rw[HU.out.2.1,if_pos rfl]at hRR
        simp only at hRR
        have hzc:=hUc.size
        obtain⟨ul,hul'⟩:∃ ul,ul=us.length:=⟨_,rfl⟩
        rw[<-hul']at hcap9 hnc hoc
        have HUL:=zH hul'
        clear hUc hnode hLr hE9 ho hX hr' ht' hU hUw x0 x1 x2 t0 t1 t2 t3 y0 y1 y2 y3 z0 z1 z2 z3 qr HK6 hul'
        have hlow:H+1<wd.heap.size:=hrc.lt
        obtain⟨oo0,oo1,oo2,oo3⟩:=hoc.cells
        obtain⟨x0,x1,x2⟩:=hXc.cells
        have fx:=hXc.zI
        have hxl:=hXc.lt
        cases sb
        case false=>
          have hsl:slv l k i=none:=by
            have h:=HSB.out
            cases hh:slv l k i with
            |none=>rfl
            |some m=>rw[hh]at h;cases h
          have hR2:R=Tm.ZU (.mk k nm i us) cj:=by rw[hRR,HGG.out,zAa hsl];rfl
          have hsz:(Tm.mk k nm i us).size<=1000000:=by
            have h1:Tm.zP us<=us.length * 4096:=Qj (fun u hu=>(HU.out.2.2 u hu).1)
            have h2:us.length=tl:=HU.out.1
            rw[h2]at h1
            rw[Tm.zS]
            omega
          have SM:=ZH (Tm.mk k nm i us) hsz wd _ (yV hnc)
          obtain⟨nd,hnd⟩:∃ nd,nd=Tm.mk k nm i us:=⟨_,rfl⟩
          rw[<-hnd]at SM hR2 hnc
          obtain⟨sm,hsm⟩:∃ sm,sm=nd.small:=⟨_,rfl⟩
          rw[<-hsm]at SM
          have HND:=zH (And.intro hR2 hsm)
          clear hRR hsl hR2 hnd hsm hsz
          go_wp2_with fail
          (with_reducible refine SM.mono ?_)
          rintro e w9 ⟨rfl,hU9⟩
          have hr9:=hrc.kept hU9
          have hX9:=hXc.kept hU9
          have hU09:zD (fun b=>b=xb) w w9:=hUwc.trans hU9 (fun _ _ e=>e.elim)
          have hn9:=hnc.on hU9
          clear SM x0 x1 x2 fx hxl oo0 oo1 oo2 oo3
          cases sm
          case false=>
            have hR3:R=⟨2,Tm.zT,cj⟩:=by rw[HND.out.1];unfold Tm.ZU;rw[if_neg (by rw[<-HND.out.2];simp)]
            have HR:=zH hR3
            obtain⟨w10,hw10⟩:∃ w10,w10=w9.setCell ⟨xb,2,none⟩ (.int .i64 2):=⟨_,rfl⟩
            have hX10:y8 w10 xb (.slice la ll lc) (.int .i64 (cj:Int)) (.int .i64 2) 83:=by rw[hw10];exact hX9.Yq _
            have hs10:zD (fun b=>b=xb) w9 w10:=by rw[hw10];exact zD.set (zD.refl _ _) 2 _
            have hr10:=hr9.zF hs10 (by omega)
            have hU10:=hU09.trans hs10 (fun _ _ e=>e)
            obtain⟨x0,x1,x2⟩:=hX9.cells
            have fx:=hX9.zI
            have hxl:=hX9.lt
            obtain⟨y0,y1,y2,y3⟩:=hr10.cells
            obtain⟨z0,z1,z2,z3⟩:=hr10.zI
            have qr:=hr10.lt
            have hset:=hr10.set (d0:=.int .i64 0) (d1:=.string (B [])) (d2:=.int .i64 0) (d3:=.slice none 0 0)
            have HEE:=zH hset
            have HW10:=zH hw10
            clear hset hR3 hw10
            go_upto_region 11 with fail
            rw[<-HW10.out]
            clear x0 x1 x2 fx
            go_wp2_with fail
            obtain⟨hb9,hset⟩:=HEE.out
            obtain⟨e0,e1,e2,e3⟩:=hb9.cells
            refine bodyPost_ret (v:=.agg #[.int .i64 0,.string (B []),.int .i64 0,.slice none 0 0]) ?_ rfl ?_
            ·simp[results,Tryz.f57,go_sem,e0,e1,e2,e3]
            ·exact QX (r0:=H+1) (by rw[HR.out];exact ze 0 [] 0) (by rw[HR.out];exact hX10) hU10 hset (by have:=HH.out;omega) (by have:=HH.out;omega)
          case true=>
            have hR3:R=⟨0,nd,cj⟩:=by rw[HND.out.1];unfold Tm.ZU;rw[if_pos (by rw[<-HND.out.2])]
            have HR:=zH hR3
            obtain⟨o0,o1,o2,o3⟩:=(hoc.kept hU9).cells
            obtain⟨y0,y1,y2,y3⟩:=hr9.cells
            obtain⟨z0,z1,z2,z3⟩:=hr9.zI
            have qr:=hr9.lt
            have hset:=hr9.set (d0:=.int .i64 k) (d1:=.string (B nm)) (d2:=.int .i64 i) (d3:=.slice a9 ul cap9)
            have HEE:=zH hset
            clear hset hR3
            go_wp2_with fail
            obtain⟨hb9,hset⟩:=HEE.out
            obtain⟨e0,e1,e2,e3⟩:=hb9.cells
            refine bodyPost_ret (v:=.agg #[.int .i64 k,.string (B nm),.int .i64 i,.slice a9 ul cap9]) ?_ rfl ?_
            ·simp[results,Tryz.f57,go_sem,e0,e1,e2,e3]
            ·exact QX (r0:=H+1) (by rw[HR.out];exact zM.weaken (fun b _ e=>by rcases e with e |e;(exact .inl e);exact .inr (.inr (.inl e))) _ _ hn9) (by rw[HR.out];exact hX9) hU09 hset (by have:=HH.out;omega) (by have:=HH.out;omega)
        case true=>
          obtain⟨m,hsl⟩:∃ m,slv l k i=some m:=by
            have h:=HSB.out
            cases hh:slv l k i with
            |none=>rw[hh]at h;cases h
            |some m=>exact⟨m,rfl⟩
          obtain⟨hk,hi0',hil,hget,hml,hmv⟩:=YL hsl
          obtain⟨p,rfl⟩:∃ p:Nat,i=(p:Int):=⟨i.toNat,by omega⟩
          have hpl:p<l.length:=by omega
          have hm:m=l[p]:=by
            rw[Int.toNat_natCast,List.getElem?_eq_getElem hpl]at hget
            exact(Option.some.inj hget).symm
          subst hm
          have hR2:R=exR l n l[p] us cj:=by rw[hRR,HGG.out,zAp hsl];rfl
          have hpn:p<ll:=by have:=HL.out.2;omega
          have hobs:=(Q5 (by have h:=HP.out.2.1;rw[hk]at h;exact h)).1
          have HK:=zH hk
          clear hk
          obtain⟨v,hv1⟩:∃ v,l[p].value=[v]:=by
            have h1:=(hG.mv _ hml).one
            match hm':l[p].value,hmv with
            | [v],_=>exact⟨v,rfl⟩
            |a :: b :: r,_=>rw[hm']at h1;simp at h1
          have hvo:=(hG.mv _ hml).val v (by rw[hv1];simp)
          have hkv:=(hG.mv _ hml).kn.2 v (by rw[hv1];simp)
          obtain⟨hty,hts⟩:=(hG.mv _ hml).YQ
          have hwft:=qT hty hts
          have hus:∀ u∈us,u.isObj=true/\u.small=true/\Kn l.length u:=fun u hu=>⟨(HU.out.2.2 u hu).2.1 hobs,(HU.out.2.2 u hu).1,(HU.out.2.2 u hu).2.2 hkna⟩
          have hsw:(Tm.er l[p].type).wt<=1000000:=by
            have h1:=(Tm.zJI l[p].type).1
            have h2:=Tm.xo hwft
            have h3:=(Tm.yr hwft).2.1
            omega
          have ERm:=fun(W:World)h=>zFH l[p].type (by have:=(Tm.yr hwft).2.1;omega) (Tm.yr hwft).1 W h
          have hvw:v.wt<=1000000:=by have:=Tm.YN hvo.1 hvo.2;omega
          have huw:∀ u∈us,u.wt<=1000000:=fun u hu=>by have:=Tm.YN (hus u hu).1 (hus u hu).2.1;omega
          unfold exR at hR2
          rw[show l[p].value.headD Tm.zT=v by rw[hv1];rfl]at hR2
          have hgd:Ys v l[p].type.er us=0->(Z3 v l[p].type.er us).wf=0/\Kn l.length (Z3 v l[p].type.er us):=fun he=>by
            obtain⟨h1,h2⟩:=qR he
            exact⟨Tm.ZT h1 h2,qV zEY zCz hkv ((Tm.yQ us).2 fun u hu=>(hus u hu).2.2)⟩
          have AP:=fun(Q:Nat)(W:World)(hq:∀ b,(O b\/b=H\/b=H+1\/b=Q)->b<W.heap.size)(hc0:List Value)(hs0:List Value)h1 h2 h3=>zCt (fun b=>O b\/b=H\/b=H+1\/b=Q) v (l[p]'hpl).type.er us hvw huw hsw (by have:=HU.out.1;omega) W hq hc0 hs0 a9 cap9 (by rw[<-HUL.out];exact hcap9) h1 h2 h3
          obtain⟨aE,haE⟩:∃ aE,aE=Ys v l[p].type.er us:=⟨_,rfl⟩
          obtain⟨aT,haT⟩:∃ aT,aT=Z3 v l[p].type.er us:=⟨_,rfl⟩
          rw[<-haE,<-haT]at hR2 hgd AP
          rw[<-HUL.out]at AP
          have EXa:=EX aT
          obtain⟨b2,o2,k2,n2,ix2,aa2,cap2,va2,vc2,rfl,hb2,hb2O,⟨c0,c1,c2,c3,c4,c5⟩,hRt2,hvc2,hV2⟩:=xY hLc p hpl
          rw[hv1]at hV2 hvc2 c5
          simp only[List.length_cons,List.length_nil,Nat.zero_add]at hvc2 c5
          generalize l[p].type.er=sm at *
          generalize l[p].type.args.length=al2 at *
          generalize l[p].name=ln2 at *
          have n5:¬b2=xb:=fun e=>hb2O (.inl (e ▸ hOx))
          have hci:(cj:Int)<=16384:=by omega
          have hcj0:(0:Int)<=(cj:Int):=by omega
          have HP2:=zH (And.intro hR2 hgd)
          obtain⟨w13,hw13⟩:∃ w13,w13=wd.setCell ⟨xb,1,none⟩ (.int .i64 ((cj:Int)+1)):=⟨_,rfl⟩
          have hset13:zD (fun b=>b=xb) wd w13:=by rw[hw13];exact zD.set (zD.refl _ _) 1 _
          have hX13:y8 w13 xb (.slice (some ⟨b2,o2,none⟩) ll lc) (.int .i64 ((cj:Int)+1)) (.int .i64 0) 83:=by rw[hw13];exact hXc.YW _
          have ht13:=htc.zF hset13 (by omega)
          have hr13:=hrc.zF hset13 (by omega)
          have ho13:=hoc.zF hset13 (by omega)
          have hU13:zD (fun b=>b=xb) w w13:=hUwc.trans hset13 (fun _ _ e=>e)
          have hsub:∀ b,b=xb->(O b\/H<=b):=fun b e=>.inl (e ▸ hOx)
          have hL13:=zG.zF hset13 hsub _ _ _ _ hLc
          have hRt13:=zM.zF hset13 hsub _ _ hRt2
          have hV13:=zG.zF hset13 hsub _ _ _ _ hV2
          have hE13:=zG.zF hset13 (fun b e=>.inl (e ▸ hOx)) _ _ _ _ hEc
          have hc0:=hset13.cell c0 n5
          have hc1:=hset13.cell c1 n5
          have hc2:=hset13.cell c2 n5
          have hc3:=hset13.cell c3 n5
          have hc4:=hset13.cell c4 n5
          have hc5:=hset13.cell c5 n5
          have HW13:=zH hw13
          have hz13:=hset13.size
          have hD13:H+1+1<w13.heap.size:=ho13.lt
          have hb13:b2<w13.heap.size:=by omega
          clear hRR hsl hget hmv hml hR2 hRt2 hV2 c0 c1 c2 c3 c4 c5 hobs hgd haE haT hv1 hvo hkv hty hts hwft hsw hvw huw hus EX hw13 hXc htc hrc hoc hUwc hLc hEc hnc
          go_upto_region 14 with fail
          rw[<-HW13.out]
          clear x0 x1 x2 fx hxl oo0 oo1 oo2 oo3
          obtain⟨x0,x1,x2⟩:=hX13.cells
          have fx:=hX13.zI
          have hxl:=hX13.lt
          by_cases hbig:16384<cj+1
          ·have hR3:R=⟨2,Tm.zT,cj+1⟩:=by rw[HP2.out.1,if_pos hbig]
           have HR:=zH hR3
           have hbi:(16384:Int)<(cj:Int)+1:=by omega
           obtain⟨w15,hw15⟩:∃ w15,w15=w13.setCell ⟨xb,2,none⟩ (.int .i64 2):=⟨_,rfl⟩
           have hX15:y8 w15 xb (.slice (some ⟨b2,o2,none⟩) ll lc) (.int .i64 ((cj:Int)+1)) (.int .i64 2) 83:=by rw[hw15];exact hX13.Yq _
           have hs15:zD (fun b=>b=xb) w13 w15:=by rw[hw15];exact zD.set (zD.refl _ _) 2 _
           have hr15:=hr13.zF hs15 (by omega)
           have hU15:=hU13.trans hs15 (fun _ _ e=>e)
           obtain⟨y0,y1,y2,y3⟩:=hr15.cells
           obtain⟨z0,z1,z2,z3⟩:=hr15.zI
           have qr:=hr15.lt
           have hset:=hr15.set (d0:=.int .i64 0) (d1:=.string (B [])) (d2:=.int .i64 0) (d3:=.slice none 0 0)
           have HEE:=zH hset
           have HW15:=zH hw15
           clear hset hR3 hw15 hbig
           go_upto_region 16 with fail
           rw[<-HW15.out]
           clear x0 x1 x2 fx
           go_wp2_with fail
           obtain⟨hb9,hset⟩:=HEE.out
           obtain⟨e0,e1,e2,e3⟩:=hb9.cells
           refine bodyPost_ret (v:=.agg #[.int .i64 0,.string (B []),.int .i64 0,.slice none 0 0]) ?_ rfl ?_
           ·simp[results,Tryz.f57,go_sem,e0,e1,e2,e3]
           ·exact QX (r0:=H+1) (by rw[HR.out];exact ze 0 [] 0) (by rw[HR.out];exact hX15) hU15 hset (by have:=HH.out;omega) (by have:=HH.out;omega)
          have HR0:=zH (show R=if aE≠0 then⟨aE,Tm.zT,cj+1⟩else xe l n aT (cj+1) by rw[HP2.out.1,if_neg hbig])
          have hbi:¬(16384:Int)<(cj:Int)+1:=by omega
          have hbg:cj+1<=16384:=by omega
          obtain⟨t0,t1,t2,t3⟩:=ht13.cells
          have S17:Qw xb H b2 (o2+p * 6) (.slice (some ⟨b2,o2,none⟩) ll lc) (.int .i64 k) (.string (B nm)) (.int .i64 (p:Int)) (.slice ta tl tc) (.string (B ln2)) (.int .i64 k2) (.string (B n2)) (.int .i64 ix2) (.slice aa2 al2 cap2) (.slice va2 1 vc2) w13:=⟨x0,⟨t0,t1,t2,t3⟩,hc0,hc1,hc2,hc3,hc4,hc5⟩
          have S17d:=S17.dr
          have S17a:Qw xb H b2 (o2+p * 6) (.slice (some ⟨b2,o2,none⟩) ll lc) (.int .i64 k) (.string (B nm)) (.int .i64 (p:Int)) (.slice ta tl tc) (.string (B ln2)) (.int .i64 k2) (.string (B n2)) (.int .i64 ix2) (.slice aa2 al2 cap2) (.slice va2 1 vc2) (w13.alloc (.cells #[.string (B []),.int .i64 0,.string (B []),.int .i64 0,.slice none 0 0,.slice none 0 0] 96)).drew:=(S17.new _).dr
          have m1:¬xb=w13.heap.size:=by omega
          have m2:¬H=w13.heap.size:=by omega
          have m3:¬b2=w13.heap.size:=by omega
          clear hbig
          go_upto_region 17 with fail
          clear x0 x1 x2 fx t0 t1 t2 t3 hc0 hc1 hc2 hc3 hc4 hc5
          go_cut [7]from 89 to 96 (fun v7 wc=>∃ Z,v7=.pointer (some ⟨Z,0,none⟩)/\w13.heap.size<=Z/\zh wc Z (.string (B ln2)) (.int .i64 k2) (.string (B n2)) (.int .i64 ix2) (.slice aa2 al2 cap2) (.slice va2 1 vc2) 96/\zD zC w13 wc)
          case first=>
            go_region_held3 (fun w'=>Qw xb H b2 (o2+p * 6) (.slice (some ⟨b2,o2,none⟩) ll lc) (.int .i64 k) (.string (B nm)) (.int .i64 (p:Int)) (.slice ta tl tc) (.string (B ln2)) (.int .i64 k2) (.string (B n2)) (.int .i64 ix2) (.slice aa2 al2 cap2) (.slice va2 1 vc2) w')
              (first |(with_reducible assumption)|(with_reducible exact S17a)|(repeat' (first |(with_reducible assumption)|(with_reducible refine Qw.new ?_ _)|(with_reducible refine Qw.dr ?_)|(with_reducible refine Qw.zCH ?_ m1 m2 m3 _ _ _ _ _ _))))
              (fail)
            all_goals
              go_wp2_with fail
              go_meet
            all_goals exact⟨_,rfl,by(try simp only[World.size_alloc]);first |exact Nat.le_refl _ |omega,zh.zL rfl,by first |exact((zD.refl zC _).drew).alloc _ |exact((zD.refl zC _).alloc _).drew |exact(zD.refl zC _).alloc _⟩
          case rest=>
            obtain⟨Z,rfl,hZ,hZ6,hU17⟩:=hcut
            obtain⟨w17,rfl⟩:∃ q,q=wc:=⟨wc,rfl⟩
            have hr17:=hr13.kept hU17
            have ho17:=ho13.kept hU17
            have hX17:=hX13.kept hU17
            have hL17:=hL13.on hU17
            have hRt17:=hRt13.on hU17
            have hV17:=hV13.on hU17
            have hE17:=(zG.zQ _ _ _ _ hE13).on hU17
            have hU017:zD (fun b=>b=xb) w w17:=hU13.trans hU17 (fun _ _ e=>e.elim)
            have hz17:=hU17.size
            have hZl:=hZ6.lt
            clear S17 S17d hX13 hr13 ho13 hL13 hRt13 hV13 hE13 hU13 ht13 hU17
            obtain⟨vb,vo,vk,vn,vi,vs,vz,rfl,hvb,hvbO,g0,g1,g2,g3,hRv⟩:=zd hV17 0 (by simp)
            simp only[Nat.zero_mul,Nat.add_zero,List.getElem_cons_zero]at g0 g1 g2 g3 hRv
            generalize v.args.length=vl at *
            have hd:zD zC w17 w17.drew:=(zD.refl zC w17).drew
            have ha:zD zC w17 (w17.alloc (.cells #[.int .i64 0,.string (B []),.int .i64 0,.slice none 0 0] 29)).drew:=((zD.refl zC _).alloc _).drew
            have wk:∀ Q,(Q=H+1\/w17.heap.size<=Q)->∀ b,b<w17.heap.size->(O b\/b=H\/b=H+1\/b=Q)->(O b\/H<=b):=fun Q hQ b _ e=>by rcases e with e |e |e |e;(exact .inl e);all_goals exact .inr (by omega)
            have wkE:∀ Q,(Q=H+1\/w17.heap.size<=Q)->∀ b,b<w17.heap.size->(O b\/b=H\/b=H+1\/b=Q)->((O b\/b=H\/b=H+1\/b=H+1+1)\/w13.heap.size<=b):=fun Q hQ b _ e=>by rcases e with e |e |e |e;(exact .inl (.inl e));(exact .inl (.inr (.inl e)));(exact .inl (.inr (.inr (.inl e))));(rcases hQ with hQ |hQ;(exact .inl (.inr (.inr (.inl (by omega)))));exact .inr (by omega))
            have APm:=fun(Q:Nat)(hQ:Q=H+1\/w17.heap.size<=Q)(W:World)(hu:zD zC w17 W)(hq:Q<W.heap.size)(f:List UInt8)(sa:Option Addr)(sl sc:Nat)(hS:zM (fun b=>O b\/b=H\/b=H+1\/b=Q) W sm.zN [.string (B f),.slice sa sl sc])=>AP Q W (fun b e=>by have h0:=HP.out.2.2.1 b;have:=hu.size;rcases e with e |e |e |e;(have:=h0 e;omega);all_goals omega)
              [.int .i64 vk,.string (B vn),.int .i64 vi,.slice vs vl vz] [.string (B f),.slice sa sl sc] ((zM.weaken (wk Q hQ) _ _ hRv).on hu) hS ((zG.weaken (wkE Q hQ) _ _ _ _ hE17).on hu)
            have ERd:=ERm w17.drew _ (yV (hRt17.on hd))
            have ERa:=ERm (w17.alloc (.cells #[.int .i64 0,.string (B []),.int .i64 0,.slice none 0 0] 29)).drew _ (yV (hRt17.on ha))
            have Sc:Ax7 Z vb vo (H+1+1) (.int .i64 k2) (.string (B n2)) (.int .i64 ix2) (.slice aa2 al2 cap2) (.slice (some ⟨vb,vo,none⟩) 1 vc2) (.int .i64 vk) (.string (B vn)) (.int .i64 vi) (.slice vs vl vz) (.slice a9 ul cap9) w17:=⟨hZ6.cells.2,⟨g0,g1,g2,g3⟩,ho17.cells.2.2.2⟩
            have Sd:=Sc.zF hd (fun x=>x) (fun x=>x) (fun x=>x)
            have Sa:=Sc.zF ha (fun x=>x) (fun x=>x) (fun x=>x)
            have hzd:=hd.size
            have hza:=ha.size
            have hza2:w17.heap.size<(w17.alloc (.cells #[.int .i64 0,.string (B []),.int .i64 0,.slice none 0 0] 29)).drew.heap.size:=by show w17.heap.size<(World.drew _).heap.size;simp
            clear g0 g1 g2 g3 hV17 hRv hE17 hRt17 ERm AP wk wkE
            go_upto_region 18 with fail
            go_cut [8,9]from 97 to 109 (fun v8 v9 wc=>∃(b:Nat)(k9 i9:Int)(n9:List UInt8)(aa9:Option Addr)(l9 c9:Nat),v8=.pointer (some ⟨b,0,none⟩)/\v9=.int .i64 aE/\w17.heap.size<=b/\zK wc b (.int .i64 k9) (.string (B n9)) (.int .i64 i9) (.slice aa9 l9 c9) 29/\zM (fun x=>O x\/x=H\/x=H+1\/x=b) wc aT.zN [.int .i64 k9,.string (B n9),.int .i64 i9,.slice aa9 l9 c9]/\zD zC w17 wc)
            case first=>
              go_region_held3 (fun w'=>Ax7 Z vb vo (H+1+1) (.int .i64 k2) (.string (B n2)) (.int .i64 ix2) (.slice aa2 al2 cap2) (.slice (some ⟨vb,vo,none⟩) 1 vc2) (.int .i64 vk) (.string (B vn)) (.int .i64 vi) (.slice vs vl vz) (.slice a9 ul cap9) w')
                (first |(with_reducible assumption)|(with_reducible exact Sd)|(with_reducible exact Sa)|(repeat' (first |(with_reducible assumption)|(with_reducible refine Ax7.new ?_ _)|(with_reducible refine Ax7.Ye ?_ (by(try simp only[World.size_alloc]);omega) (by(try simp only[World.size_alloc]);omega) (by(try simp only[World.size_alloc]);omega) _ _ _ _))))
                (first
                  |((go_at_call 126);(with_reducible refine ERd.mono ?_);rintro e wE ⟨f,sa,sl,sc,rfl,hSE,hUE⟩;have SE:=Sd.zF hUE (fun x=>x) (fun x=>x) (fun x=>x);have hU1E:=hd.and hUE;have z1E:=hU1E.size;have zE:=hUE.size;have AP1:=APm (H+1) (.inl rfl) wE hU1E (by omega) f sa sl sc (zM.weaken (fun b hb e=>by have h0:=HP.out.2.2.1 b;rcases e with e |e |e |e;(have:=h0 e;omega);all_goals omega) _ _ hSE);have AP2:=APm wE.heap.size (.inr (by omega)) (wE.alloc (.cells #[.int .i64 0,.string (B []),.int .i64 0,.slice none 0 0] 29)) (hU1E.alloc _) (by simp) f sa sl sc ((zM.weaken (fun b hb e=>by have h0:=HP.out.2.2.1 b;rcases e with e |e |e |e;(have:=h0 e;exact .inl (by omega));(exact .inl (by omega));(exact .inl (by omega));exact .inr (by omega)) _ _ (zM.zQ _ _ hSE)).on ((zD.refl zC wE).alloc _)))
                  |((go_at_call 126);(with_reducible refine ERa.mono ?_);rintro e wE ⟨f,sa,sl,sc,rfl,hSE,hUE⟩;have SE:=Sa.zF hUE (fun x=>x) (fun x=>x) (fun x=>x);have hU1E:=ha.and hUE;have z1E:=hU1E.size;have zE:=hUE.size;have h6E:=(((zK.zL rfl:zK (w17.alloc (.cells #[.int .i64 0,.string (B []),.int .i64 0,.slice none 0 0] 29)) w17.heap.size _ _ _ _ 29).kept (zD.refl zC _).drew).kept hUE);have AP3:=APm w17.heap.size (.inr (by omega)) wE hU1E (by omega) f sa sl sc (zM.weaken (fun b hb e=>by have h0:=HP.out.2.2.1 b;rcases e with e |e |e |e;(have:=h0 e;omega);all_goals omega) _ _ hSE))
                  |((go_at_call 125);(with_reducible refine AP1.mono ?_);rintro e w11 ⟨k11,i11,n11,a11,len11,cap11,rfl,hR11,hU11⟩;have S11:=SE.zF hU11 (fun x=>x) (fun x=>x) (fun x=>x);have hU811:=hU1E.and hU11;have z11:=hU811.size;clear AP1 AP2)
                  |((go_at_call 125);(with_reducible refine AP2.mono ?_);rintro e w11 ⟨k11,i11,n11,a11,len11,cap11,rfl,hR11,hU11⟩;have S11:=(SE.new (.cells #[.int .i64 0,.string (B []),.int .i64 0,.slice none 0 0] 29)).zF hU11 (fun x=>x) (fun x=>x) (fun x=>x);have hU811:=(hU1E.alloc _).and hU11;have z11:=hU811.size;have h6:=((zK.zL rfl:zK (wE.alloc (.cells #[.int .i64 0,.string (B []),.int .i64 0,.slice none 0 0] 29)) wE.heap.size _ _ _ _ 29).kept hU11);obtain⟨c0,c1,c2,c3⟩:=h6.cells;obtain⟨d0,d1,d2,d3⟩:=h6.zI;have h6l:=h6.lt;clear AP1 AP2)
                  |((go_at_call 125);(with_reducible refine AP3.mono ?_);rintro e w11 ⟨k11,i11,n11,a11,len11,cap11,rfl,hR11,hU11⟩;have S11:=SE.zF hU11 (fun x=>x) (fun x=>x) (fun x=>x);have hU811:=hU1E.and hU11;have z11:=hU811.size;have h6:=h6E.kept hU11;obtain⟨c0,c1,c2,c3⟩:=h6.cells;obtain⟨d0,d1,d2,d3⟩:=h6.zI;have h6l:=h6.lt;clear AP3))
              all_goals
                go_wp2_with fail
                go_meet
              all_goals first
                |(have h7:=h6
                  refine⟨_,k11,i11,n11,a11,len11,cap11,rfl,rfl,by omega,h7.set.1,?_,?_⟩
                  ·exact zM.zF h7.set.2 (fun b e=>.inr (.inr (.inr e))) _ _ hR11
                  ·exact hU811.trans h7.set.2 (fun b hb e=>by omega))
                |(refine⟨w11.heap.size,k11,i11,n11,a11,len11,cap11,rfl,rfl,by omega,zK.zL rfl,?_,?_⟩
                  ·exact(zM.weaken (fun b hb e=>by rcases e with e |e |e |e;(exact .inl e);(exact .inr (.inl e));(exact .inr (.inr (.inl e)));omega) _ _ hR11).on ((zD.refl zC _).alloc _)
                  ·exact hU811.alloc _)
            case rest=>
              obtain⟨b,k9,i9,n9,aa9,l9,c9,rfl,rfl,hYb,hB9,hR9,hU79⟩:=hcut
              obtain⟨w9,rfl⟩:∃ q,q=wc:=⟨wc,rfl⟩
              have hr9:=hr17.kept hU79
              have hX9:=hX17.kept hU79
              have hU9:zD (fun b=>b=xb) w w9:=hU017.trans hU79 (fun _ _ e=>e.elim)
              have hL9:=hL17.on hU79
              have hz79:=hU79.size
              clear Sc Sd Sa APm ERd ERa hd ha hr17 hX17 ho17 hZ6 hL17
              obtain⟨x0,x1,x2⟩:=hX9.cells
              have fx:=hX9.zI
              have hxl:=hX9.lt
              by_cases hae:aE=0
              case neg=>
                have hR2:R=⟨aE,Tm.zT,cj+1⟩:=by rw[HR0.out,if_pos hae]
                have HR:=zH hR2
                have hae':(aE !=0)=true:=by simpa using hae
                obtain⟨w15,hw15⟩:∃ w15,w15=w9.setCell ⟨xb,2,none⟩ (.int .i64 aE):=⟨_,rfl⟩
                have hX15:y8 w15 xb (.slice (some ⟨b2,o2,none⟩) ll lc) (.int .i64 ((cj:Int)+1)) (.int .i64 aE) 83:=by rw[hw15];exact hX9.Yq _
                have hs15:zD (fun b=>b=xb) w9 w15:=by rw[hw15];exact zD.set (zD.refl _ _) 2 _
                have hr15:=hr9.zF hs15 (by omega)
                have hU15:=hU9.trans hs15 (fun _ _ e=>e)
                obtain⟨y0,y1,y2,y3⟩:=hr15.cells
                obtain⟨z0,z1,z2,z3⟩:=hr15.zI
                have qr:=hr15.lt
                have hset:=hr15.set (d0:=.int .i64 0) (d1:=.string (B [])) (d2:=.int .i64 0) (d3:=.slice none 0 0)
                have HEE:=zH hset
                have HW15:=zH hw15
                clear hset hR2 hw15 hae
                go_upto_region 21 with fail
                rw[<-HW15.out]
                clear x0 x1 x2 fx
                go_wp2_with fail
                obtain⟨hb9,hset⟩:=HEE.out
                obtain⟨e0,e1,e2,e3⟩:=hb9.cells
                refine bodyPost_ret (v:=.agg #[.int .i64 0,.string (B []),.int .i64 0,.slice none 0 0]) ?_ rfl ?_
                ·simp[results,Tryz.f57,go_sem,e0,e1,e2,e3]
                ·exact QX (r0:=H+1) (by rw[HR.out];exact ze 0 [] 0) (by rw[HR.out];exact hX15) hU15 hset (by have:=HH.out;omega) (by have:=HH.out;omega)
              subst hae
              have hR2:R=xe l n aT (cj+1):=by rw[HR0.out,if_neg (by simp)]
              obtain⟨hwf,hkn⟩:=HP2.out.2 rfl
              have EXc:=EXa (cj+1) xb (fun x=>O x\/x=H+1) w9 (some ⟨b2,o2,none⟩) lc [.int .i64 k9,.string (B n9),.int .i64 i9,.slice aa9 l9 c9] (by have:=HP.out.1;omega) hbg hwf hkn (.inl hOx)
                (fun b e=>by have h0:=HP.out.2.2.1 b;rcases e with e |e;(have:=h0 e;omega);omega) (by rw[<-HL.out.2];exact hX9)
                (zG.weaken (fun b _ e=>by rcases e with e |e;(exact .inl e);exact .inr (by omega)) _ _ _ _ hL9)
                (zM.weaken (fun b _ e=>by rcases e with e |e;(exact .inl e);exact .inr (.inr (.inl e))) _ _ hR9)
              rw[<-HL.out.2,<-hR2]at EXc
              obtain⟨t0,t1,t2,t3⟩:=hB9.cells
              clear hR2 x0 x1 x2 fx hxl
              go_wp2_with fail
              (with_reducible refine EXc.mono ?_)
              rintro e w10 ⟨k10,i10,n10,a10,l10,c10,rfl,hR10,hX10,hU10⟩
              have hr10:=hr9.zF hU10 (by omega)
              obtain⟨y0,y1,y2,y3⟩:=hr10.cells
              obtain⟨z0,z1,z2,z3⟩:=hr10.zI
              have qr:=hr10.lt
              have hset:=hr10.set (d0:=.int .i64 k10) (d1:=.string (B n10)) (d2:=.int .i64 i10) (d3:=.slice a10 l10 c10)
              have HEE:=zH hset
              have HQ:=zH (And.intro hR10 (And.intro hX10 hU10))
              clear hset t0 t1 t2 t3 hR10 hX10 hU10 EXc hr10
              go_wp2_with fail
              obtain⟨hb9,hset⟩:=HEE.out
              obtain⟨e0,e1,e2,e3⟩:=hb9.cells
              refine bodyPost_ret (v:=.agg #[.int .i64 k10,.string (B n10),.int .i64 i10,.slice a10 l10 c10]) ?_ rfl ?_
              ·simp[results,Tryz.f57,go_sem,e0,e1,e2,e3]
              ·exact QX (r0:=H+1) HQ.out.1 HQ.out.2.1 (hU9.trans HQ.out.2.2 (fun _ _ e=>e)) hset (by have:=HH.out;omega) (by have:=HH.out;omega)
end
section
open Go.RowKit Go.LF
theorem zHw(l:List Mv)(hG:StG l)(n:Nat):∀ t,zJ8 l n t:=by
  induction n with
  |zero=>intro t c xb O w la lc cs h1 h2;omega
  |succ n ih=>exact fun t=>zE6 l hG n ih t
abbrev Rx8(Q xb:Nat)(q0 q1 q2 q3 x2:Value)(w':World):Prop:=(w'.cell? ⟨Q,0,none⟩=some q0/\w'.cell? ⟨Q,1,none⟩=some q1/\w'.cell? ⟨Q,2,none⟩=some q2/\w'.cell? ⟨Q,3,none⟩=some q3)/\w'.cell? ⟨xb,2,none⟩=some x2
theorem Rx8.zF{S:Nat->Prop}{Q xb:Nat}{q0 q1 q2 q3 x2:Value}{w w':World}(h:Rx8 Q xb q0 q1 q2 q3 x2 w)(hU:zD S w w')(h1:¬S Q)(h2:¬S xb):Rx8 Q xb q0 q1 q2 q3 x2 w':=by
  obtain⟨⟨a0,a1,a2,a3⟩,a4⟩:=h
  exact⟨⟨hU.cell a0 h1,hU.cell a1 h1,hU.cell a2 h1,hU.cell a3 h1⟩,hU.cell a4 h2⟩
theorem Rx8.Ye{r Q xb:Nat}{q0 q1 q2 q3 x2:Value}{w:World}(h:Rx8 Q xb q0 q1 q2 q3 x2 w)(h1:¬Q=r)(h2:¬xb=r)(d0 d1 d2 d3:Value):Rx8 Q xb q0 q1 q2 q3 x2 ((((w.setCell ⟨r,0,none⟩ d0).setCell ⟨r,1,none⟩ d1).setCell ⟨r,2,none⟩ d2).setCell ⟨r,3,none⟩ d3):=
  h.zF (zD.set (zD.set (zD.set (zD.set (zD.refl _ _) 0 _) 1 _) 2 _) 3 _) h1 h2
theorem Z4(O:Nat->Prop)(l:List Mv)(hG:StG l)(t:Tm)(hwt:t.wt<=1000000)(hkn:t.wf=0->(∀ i∈Tm.zJ t,i<l.length)->Kn l.length t)(w:World)(hO:∀ b,O b->b<w.heap.size)(la:Option Addr)(lc:Nat)(cs:List Value)(hL:zG O w 6 (l.map Mv.zN) la 0)(h:zM O w t.zN cs):
    Calls Tryz.prog 13 #[.slice la l.length lc,.agg cs.toArray] w (Y4 O (yc l t) (zj l t) w):=by
  obtain⟨k,nm,i,ts,aa,cap,ht,rfl,_,_⟩:=zX h
  generalize ts.length=len at *
  obtain⟨w1,hw1⟩:∃ w1,w1=(w.alloc (.cells #[.int .i64 k,.string (B nm),.int .i64 i,.slice aa len cap] 29)).alloc (.cells #[.int .i64 0,.string (B []),.int .i64 0,.slice none 0 0] 29):=⟨_,rfl⟩
  have hU1:zD zC w w1:=by rw[hw1];exact((zD.refl zC w).alloc _).alloc _
  have ha1:zK w1 w.heap.size (.int .i64 k) (.string (B nm)) (.int .i64 i) (.slice aa len cap) 29:=by rw[hw1];exact(zK.zL rfl).kept ((zD.refl zC _).alloc _)
  have hr1:zK w1 (w.heap.size+1) (.int .i64 0) (.string (B [])) (.int .i64 0) (.slice none 0 0) 29:=by rw[hw1];exact zK.zL (by simp)
  have hR1:=(zM.zQ _ _ h).on hU1
  have hL1:=(zG.zQ _ _ _ _ hL).on hU1
  have WF:=ya t hwt w1 _ (zM.weaken (fun _ _ x=>x.elim) _ _ hR1)
  have KN:=fun(W:World)(hu:zD zC w1 W)=>Y8 t l.length hwt W _ (zM.weaken (fun _ _ x=>x.elim) _ _ (hR1.on hu))
  obtain⟨H,hH⟩:∃ H,H=w.heap.size:=⟨_,rfl⟩
  have HH:=zH hH
  rw[<-hH]at ha1 hr1 hR1 hL1
  have hO':∀ b,O b->b<H:=by rw[hH];exact hO
  obtain⟨E,hE⟩:∃ E,E=yc l t:=⟨_,rfl⟩
  obtain⟨X,hX⟩:∃ X,X=zj l t:=⟨_,rfl⟩
  rw[<-hE,<-hX]
  unfold zj at hX
  rw[<-hE]at hX
  unfold yc at hE
  obtain⟨ll,hll⟩:∃ ll,ll=l.length:=⟨_,rfl⟩
  rw[<-hll]at hE KN
  rw[<-hll]
  have HW:=zH hw1
  obtain⟨q,hq⟩:∃ q,q=t.wf:=⟨_,rfl⟩
  rw[<-hq]at WF hE
  obtain⟨ob,hob⟩:∃ ob,ob=(Tm.zJ t).any (fun i=>decide ((ll:Int)<=i)):=⟨_,rfl⟩
  rw[<-hob]at hE KN
  have HP:=zH (And.intro hE (And.intro hX (And.intro hll (And.intro hq hob))))
  have HO:=zH hO'
  have HKN:=zH hkn
  have hz1:=hr1.lt
  clear hw1 hH hL h hO hO' hE hX hll hq hob ht hkn hwt
  obtain⟨t0,t1,t2,t3⟩:=ha1.cells
  go_enter Tryz.func13,Tryz.ntmps13
  go_upto_region 1 with fail
  rw[<-show B []={ data:=#[] }from rfl,<-HW.out,<-HH.out]
  go_wp2_with fail
  (with_reducible refine WF.mono ?_)
  rintro e w2 ⟨rfl,hU2⟩
  have hr2:=hr1.kept hU2
  clear t0 t1 t2 t3 WF
  obtain⟨t0,t1,t2,t3⟩:=(ha1.kept hU2).cells
  have bad:∀(z:Int)(W W':World),z≠0->E=z->zD zC w1 W->zD (fun b=>b=H+1) W W'->Y4 O E X w (.returned (.tuple #[.agg #[.int .i64 0,.string (B []),.int .i64 0,.slice none 0 0],.int .i64 z])) W':=by
    intro z W W' hz hEz hu hset
    refine⟨0,0,[],none,0,0,by rw[hEz],?_,(hU1.and hu).trans hset (fun b hb e=>by have:=HH.out;omega)⟩
    rw[HP.out.2.1,if_neg (by rw[hEz];exact hz)]
    exact ze 0 [] 0
  have HB:=zH bad
  clear bad
  by_cases hq0:q=0
  case neg=>
    have hz:E=q:=by rw[HP.out.1,if_pos hq0]
    have HZ:=zH (And.intro hz hq0)
    have hq':(q !=0)=true:=by simpa using hq0
    obtain⟨y0,y1,y2,y3⟩:=hr2.cells
    obtain⟨z0,z1,z2,z3⟩:=hr2.zI
    have qr:=hr2.lt
    have hset:=hr2.set (d0:=.int .i64 0) (d1:=.string (B [])) (d2:=.int .i64 0) (d3:=.slice none 0 0)
    have HEE:=zH hset
    clear hset hz hq0
    go_wp2_with fail
    obtain⟨hb9,hset⟩:=HEE.out
    obtain⟨e0,e1,e2,e3⟩:=hb9.cells
    refine bodyPost_ret (v:=.tuple #[.agg #[.int .i64 0,.string (B []),.int .i64 0,.slice none 0 0],.int .i64 q]) ?_ rfl ?_
    ·simp[results,Tryz.f13,go_sem,e0,e1,e2,e3]
    ·exact HB.out q w2 _ HZ.out.2 HZ.out.1 hU2 hset
  subst hq0
  have KN2:=KN w2 hU2
  clear KN
  go_wp2_with fail
  (with_reducible refine KN2.mono ?_)
  rintro e w4 ⟨rfl,hU4⟩
  have hU14:=hU2.and hU4
  have hr4:=hr1.kept hU14
  clear t0 t1 t2 t3 KN2 hr2
  obtain⟨t0,t1,t2,t3⟩:=(ha1.kept hU14).cells
  cases ob
  case true=>
    have HZ:=zH (show E=3 by rw[HP.out.1,if_neg (by simp),if_pos rfl])
    obtain⟨y0,y1,y2,y3⟩:=hr4.cells
    obtain⟨z0,z1,z2,z3⟩:=hr4.zI
    have qr:=hr4.lt
    have hset:=hr4.set (d0:=.int .i64 0) (d1:=.string (B [])) (d2:=.int .i64 0) (d3:=.slice none 0 0)
    have HEE:=zH hset
    clear hset
    go_wp2_with fail
    obtain⟨hb9,hset⟩:=HEE.out
    obtain⟨e0,e1,e2,e3⟩:=hb9.cells
    refine bodyPost_ret (v:=.tuple #[.agg #[.int .i64 0,.string (B []),.int .i64 0,.slice none 0 0],.int .i64 3]) ?_ rfl ?_
    ·simp[results,Tryz.f13,go_sem,e0,e1,e2,e3]
    ·exact HB.out 3 w4 _ (by decide) HZ.out hU14 hset
  case false=>
    have hE2:E=(xe l 16385 t 0).e:=by rw[HP.out.1,if_neg (by simp),if_neg (by simp)]
    have hwf:t.wf=0:=HP.out.2.2.2.1.symm
    have hms:∀ i∈Tm.zJ t,i<(l.length:Int):=by
      intro i hi
      have h:=HP.out.2.2.2.2
      by_cases hc:(ll:Int)<=i
      ·have:(Tm.zJ t).any (fun i=>decide ((ll:Int)<=i))=true:=List.any_eq_true.2 ⟨i,hi,decide_eq_true hc⟩
       rw[<-h]at this
       cases this
      ·have:=HP.out.2.2.1;omega
    obtain⟨w5,hw5⟩:∃ w5,w5=w4.alloc (.cells #[.slice la ll lc,.int .i64 0,.int .i64 0] 83):=⟨_,rfl⟩
    have hU5:zD zC w4 w5:=by rw[hw5];exact(zD.refl zC _).alloc _
    have hX5:y8 w5 w4.heap.size (.slice la ll lc) (.int .i64 ((0:Nat):Int)) (.int .i64 0) 83:=by rw[hw5];exact y8.zL rfl
    have hU15:=hU14.and hU5
    have hz14:=hU14.size
    have wk:∀ b,b<w1.heap.size->(O b\/b=H+1\/b=w4.heap.size)->(O b\/H<=b):=fun b _ e=>by rcases e with e |e |e;(exact .inl e);all_goals exact .inr (by omega)
    have EX:=zHw l hG 16385 t 0 w4.heap.size (fun b=>O b\/b=H+1\/b=w4.heap.size) w5 la lc [.int .i64 k,.string (B nm),.int .i64 i,.slice aa len cap] (by omega) (by omega) hwf (HKN.out hwf hms) (.inr (.inr rfl))
      (fun b e=>by have h0:=HO.out b;have h1:=hX5.lt;rcases e with e |e |e;(have:=h0 e;omega);all_goals omega) (by rw[<-HP.out.2.2.1];exact hX5) ((zG.weaken wk _ _ _ _ hL1).on hU15) ((zM.weaken wk _ _ hR1).on hU15)
    rw[<-HP.out.2.2.1]at EX
    obtain⟨R,hR⟩:∃ R,R=xe l 16385 t 0:=⟨_,rfl⟩
    rw[<-hR]at EX hE2
    have hXR:X=if E=0 then R.t else Tm.zT:=by rw[HP.out.2.1,hR]
    have hn0:R.e≠0->R.t=Tm.zT:=fun h=>by rw[hR]at h ⊢;exact qk l _ _ _ h
    have HF:=zH (And.intro hE2 (And.intro hXR hn0))
    obtain⟨Q,hQ⟩:∃ Q,Q=w4.heap.size:=⟨_,rfl⟩
    rw[<-hQ]at EX
    have HQ:=zH hQ
    have HW5:=zH hw5
    have hr5:=hr4.kept hU5
    have hlr:=hr4.lt
    have hQl:Q<w5.heap.size:=by rw[hQ];exact hX5.lt
    obtain⟨t0,t1,t2,t3⟩:=(ha1.kept hU15).cells
    have hQH:H+1<Q:=by omega
    clear hE2 hwf hms hw5 hX5 hR hXR hn0 hQ wk
    go_upto_region 7 with fail
    rw[<-HW5.out,<-HQ.out]
    go_wp2_with fail
    (with_reducible refine EX.mono ?_)
    rintro e w6 ⟨k6,i6,n6,a6,l6,c6,rfl,hR6,hX6,hU6⟩
    have hz6:=hU6.size
    obtain⟨w7,hw7⟩:∃ w7,w7=w6.alloc (.cells #[.int .i64 k6,.string (B n6),.int .i64 i6,.slice a6 l6 c6] 29):=⟨_,rfl⟩
    have hU7:zD zC w6 w7:=by rw[hw7];exact(zD.refl zC _).alloc _
    have hB7:zK w7 w6.heap.size (.int .i64 k6) (.string (B n6)) (.int .i64 i6) (.slice a6 l6 c6) 29:=by rw[hw7];exact zK.zL rfl
    have hr7:=(hr5.zF hU6 (by omega)).kept hU7
    have hX7:=hX6.kept hU7
    have hR7:=hR6.on hU7
    obtain⟨y0,y1,y2,y3⟩:=hr7.cells
    obtain⟨z0,z1,z2,z3⟩:=hr7.zI
    have qr:=hr7.lt
    have hset:=hr7.set (d0:=.int .i64 k6) (d1:=.string (B n6)) (d2:=.int .i64 i6) (d3:=.slice a6 l6 c6)
    have hdr:=hset.1.kept (zD.refl zC _).drew
    have HEE:=zH (And.intro hdr hset.2.drew)
    have HX:=zH (And.intro hR7 (And.intro hX7 (And.intro hU6 hU7)))
    have S7:Rx8 w6.heap.size Q (.int .i64 k6) (.string (B n6)) (.int .i64 i6) (.slice a6 l6 c6) (.int .i64 R.e) w7:=⟨hB7.cells,hX7.cells.2.2⟩
    have S7d:=S7.zF (zD.refl zC w7).drew (fun x=>x) (fun x=>x)
    have n1:¬w6.heap.size=H+1:=by omega
    have n2:¬Q=H+1:=by omega
    have HW7:=zH hw7
    clear hset hdr hR6 hR7 hX6 hX7 hU6 hU7 hB7 hw7 t0 t1 t2 t3 EX hr7 hr5
    go_upto_region 8 with fail
    rw[<-HW7.out]
    go_region_held3 (fun w'=>Rx8 w6.heap.size Q (.int .i64 k6) (.string (B n6)) (.int .i64 i6) (.slice a6 l6 c6) (.int .i64 R.e) w')
      (first |(with_reducible assumption)|(with_reducible exact(Rx8.Ye S7 n1 n2 _ _ _ _).zF (zD.refl zC _).drew (fun x=>x) (fun x=>x))|(with_reducible exact Rx8.Ye S7d n1 n2 _ _ _ _)|(with_reducible exact Rx8.Ye S7 n1 n2 _ _ _ _))
      (fail)
    all_goals
      go_wp2_with fail
      obtain⟨hb9,hset⟩:=HEE.out
      obtain⟨e0,e1,e2,e3⟩:=hb9.cells
      refine bodyPost_ret (v:=.tuple #[.agg #[.int .i64 k6,.string (B n6),.int .i64 i6,.slice a6 l6 c6],.int .i64 R.e]) ?_ rfl ?_
      ·simp[results,Tryz.f13,go_sem,e0,e1,e2,e3]
      ·have hXt:X=R.t:=by
         rw[HF.out.2.1,HF.out.1]
         by_cases h:R.e=0
         ·rw[if_pos h]
         ·rw[if_neg h,HF.out.2.2 h]
       rw[hXt,HF.out.1]
       exact⟨k6,i6,n6,a6,l6,c6,rfl,zM.weaken (fun b _ e=>.inl e) _ _ (zM.zF hset (fun b e=>.inr (.inl e)) _ _ HX.out.1),(((hU1.and hU15).trans HX.out.2.2.1 (fun b hb e=>by have:=HQ.out;have:=HH.out;have:=hU1.size;omega)).and HX.out.2.2.2).trans hset (fun b hb e=>by have:=HH.out;omega)⟩
end
end Go.Proofs.YthgmimncdjhgnaaGreatDoor
