/- meta.reaches. -/
import Derived.Test.YthgmimncdjhgnaaGreatDoorWFA
import Derived.Test.YthgmimncdjhgnaaGreatDoorWFB
import Derived.Test.YthgmimncdjhgnaaGreatDoorWSC
set_option maxRecDepth 100000
set_option maxHeartbeats 8000000
namespace Go.Proofs.YthgmimncdjhgnaaGreatDoor
section
open Go.RowKit Go.LF
structure StR(l:List Mv):Prop where
  ok:zDI l
  val:∀ m∈l,m.value.length<=100
  nx:∀ m∈l,(Zp m).length<=300000
  few:l.length<=250
theorem StR.rng{l:List Mv}(_:StR l):∀ m∈l,∀ x∈Zp m,0<=x/\x<=100000:=by
  intro m _ x hx;have key:∀ t:Tm,x∈Tm.zL t->0<=x/\x<=100000:=fun t h=>by have:=zCL x h;omega
  rcases List.mem_append.1 hx with h |h
  ·exact key _ h
  ·obtain⟨v,_,h⟩:=List.mem_flatMap.1 h;exact key _ h
theorem zBw(l:List Mv)(hl:StR l)(tg:Int)(la:Option Addr)(lc:Nat)(fb sb lb tb vb M:Nat)(n:Nat):∀(ks:List Int)(f:Bool)(i:Int)(W:World),0<=i->i<=100000->xH l ks<=n->(f=true↔tg∈ks)->Qx fb sb lb tb vb M la l.length lc tg ks f W->zH (fun b=>b=fb\/b=M) W 6 (l.map Mv.zM) la 0->
    Calls Tryz.prog 163 #[.int .i64 i,.pointer (some ⟨fb,0,none⟩),.pointer (some ⟨sb,0,none⟩),.pointer (some ⟨lb,0,none⟩),.pointer (some ⟨tb,0,none⟩),.pointer (some ⟨vb,0,none⟩)] W fun e W'=>e=.returned (.tuple #[])/\zFM l tg [i] fb sb lb tb vb M la lc ks f W W':=by
  induction n with
  |zero=>exact fun ks f i W h0 h1 hn hf hW hL=>X1 l hl.ok hl.val hl.rng (fun m hm=>Nat.le_trans (hl.nx m hm) (by decide)) tg la lc fb sb lb tb vb M 0 (fun n' e=>by omega) ks f i W h0 h1 hn hf hW hL
  |succ n ih=>exact fun ks f i W h0 h1 hn hf hW hL=>X1 l hl.ok hl.val hl.rng (fun m hm=>Nat.le_trans (hl.nx m hm) (by decide)) tg la lc fb sb lb tb vb M (n+1) (fun n' e=>by obtain rfl:n=n':=(by omega);exact ih) ks f i W h0 h1 hn hf hW hL
theorem zCW(l:List Mv)(hl:StR l)(is:List Int)(his:∀ x∈is,0<=x/\x<=100000)(hil:is.length<=100000000)(tg:Int)(w:World)(la:Option Addr)(lc:Nat)(ia:Option Addr)(ic:Nat)(hL:zH zC w 6 (l.map Mv.zM) la 0)(hI:zH zC w 1 (is.map (yP.int .i64)) ia 0):
    Calls Tryz.prog 111 #[.slice la l.length lc,.slice ia is.length ic,.int .i64 tg] w fun e w'=>e=.returned (.bool (X4 l is tg))/\zD zC w w':=by
  have hmm:=@run_makeMap Tryz.prog;obtain⟨H,hH⟩:∃ H,H=w.heap.size:=⟨_,rfl⟩;obtain⟨w6,hw6⟩:∃ w6,w6=(((((w.alloc (.cells #[.slice la l.length lc] 23)).alloc (.cells #[.int .i64 tg] 3)).alloc (.map #[] 0)).alloc (.cells #[.map (some (H+1+1))] 162)).alloc (.cells #[.bool false] 4)).alloc (.cells #[zIT (H+1+1+1+1) (H+1+1+1) H (H+1) (H+1+1+1+1+1)] 174):=⟨_,rfl⟩
  have hV6:Qx (H+1+1+1+1) (H+1+1+1) H (H+1) (H+1+1+1+1+1) (H+1+1) la l.length lc tg [] false w6:=by
    have al:∀(W:World)(o:Obj),zD zC W (W.alloc o):=fun W o=>(zD.refl zC W).alloc o
    rw[hw6];refine⟨?_,?_,?_,?_,?_,?_,⟨by omega,by omega,by omega,by omega,by omega⟩,by omega,by omega,by omega,by omega⟩
    ·exact(zt.zJ (by simp[hH])).kept (al _ _)
    ·exact((zt.zJ (by simp[hH])).kept (al _ _)).kept (al _ _)
    ·exact(((((zt.zJ hH.symm).kept (al _ _)).kept (al _ _)).kept (al _ _)).kept (al _ _)).kept (al _ _)
    ·exact((((zt.zJ (by simp[hH])).kept (al _ _)).kept (al _ _)).kept (al _ _)).kept (al _ _)
    ·exact zt.zJ (by simp[hH])
    ·have h:=Seen.made ((w.alloc (.cells #[.slice la l.length lc] 23)).alloc (.cells #[.int .i64 tg] 3));rw[show((w.alloc (.cells #[.slice la l.length lc] 23)).alloc (.cells #[.int .i64 tg] 3)).heap.size=H+1+1 by simp[hH]]at h;exact((h.on (al _ _) (fun x=>x)).on (al _ _) (fun x=>x)).on (al _ _) (fun x=>x)
  have hU6:zD zC w w6:=by rw[hw6];exact((((((zD.refl zC w).alloc _).alloc _).alloc _).alloc _).alloc _).alloc _
  have hL6:zH (fun b=>b=H+1+1+1+1\/b=H+1+1) w6 6 (l.map Mv.zM) la 0:=(zH.weaken (fun b _ e=>.inr (by omega)) _ _ _ _ (zH.zY _ _ _ _ hL)).on hU6;have hI6:zH (fun b=>b=H+1+1+1+1\/b=H+1+1) w6 1 (is.map (yP.int .i64)) ia 0:=(zH.weaken (fun b _ e=>.inr (by omega)) _ _ _ _ (zH.zY _ _ _ _ hI)).on hU6;have HW:=zF hw6;have HH:=zF hH;obtain⟨ll,hll⟩:∃ ll,ll=l.length:=⟨_,rfl⟩;obtain⟨il,hil'⟩:∃ il,il=is.length:=⟨_,rfl⟩;rw[<-hll]at HW;rw[<-hll,<-hil'];rw[<-hil']at hil;have HLL:=zF (And.intro hll hil');have hcall:∀ args w,Sem.run Tryz.prog (callFunc 163 args) w=.ok (Next.enter 163 args) w:=fun _ _=>by simp only[go_sem,Tryz.call163]
  have hH6:H<w6.heap.size:=hV6.st.lt;clear hw6 hH hL hI hll hil';go_enter Tryz.func111,Tryz.ntmps111
  go_upto_region 5 with fail
  rw[<-HH.out,<-HW.out];clear hmm;go_wp2_with fail
  go_loopw [16] (fun v16 wr=>∃(j:Nat)(ks':List Int)(f':Bool),v16=.int .i64 (j:Int)/\j<=il/\Vis l tg (is.take j) [] ks' false f'/\Qx (H+1+1+1+1) (H+1+1+1) H (H+1) (H+1+1+1+1+1) (H+1+1) la l.length lc tg ks' f' wr/\zD (fun b=>b=H+1+1+1+1\/b=H+1+1) w6 wr)
    (fun v16 _=>il - (intOf v16).toNat)
  case atStart=>exact⟨0,[],false,rfl,Nat.zero_le _,Vis.nil (by simp),hV6,zD.refl _ _⟩
  case round=>
    obtain⟨j,ks',f',rfl,hj,hvis,hVr,hUr⟩:=hrel;by_cases hlt:j<il
    ·have hjl:j<is.length:=by have:=HLL.out.2;omega
     obtain⟨b,o,rfl,hb,_,hcj⟩:=yJ (zH.zE hUr (fun b e=>e) _ _ _ _ hI6) j hjl;have htk:is.take (j+1)=is.take j++[is[j]]:=List.take_succ_eq_append_getElem hjl;obtain⟨x0,x1⟩:=his _ (List.getElem_mem hjl);generalize is[j]=x at *
     have IHx:=zBw l hl tg la lc (H+1+1+1+1) (H+1+1+1) H (H+1) (H+1+1+1+1+1) (H+1+1) _ ks' f' x wr x0 x1 (Nat.le_refl _) hvis.found hVr (zH.zE hUr (fun b e=>e) _ _ _ _ hL6);have HT:=zF htk;have HVS:=zF hvis;have k5:=hVr.vis.cell;have hjb:(j:Int)<(il:Int):=by omega
     have hjm:(j:Int)<=100000000:=by omega
     clear htk hjl hVr hvis hV6;go_wp2_with fail
     (with_reducible refine IHx.mono ?_);rintro e w7 ⟨rfl,ks2,f2,hvis2,hV7,hU7⟩;have HV2:=zF hvis2;clear hvis2 k5 hcj;go_wp2_with fail
     go_roundw
     case rel=>exact⟨j+1,ks2,f2,by go_num,by omega,by rw[HT.out];exact HVS.out.trans HV2.out,hV7,hUr.trans hU7 (fun _ _ e=>e)⟩
     case measure=>simp[intOf];omega
    ·have hje:is.take j=is:=List.take_of_length_le (by have:=HLL.out.2;omega);rw[hje]at hvis
     have hfin:f'=X4 l is tg:=by
       unfold X4;classical
       rw[Bool.eq_iff_iff,hvis.zI2,decide_eq_true_eq]
     have HR:=zF (And.intro hfin (hU6.trans hUr (fun b hb e=>by have:=HH.out;omega)));have k1:=hVr.fnd.cell;clear hvis hVr hUr hfin;go_wp2_with fail
     go_ret
     exact⟨congrArg (fun b=>Ending.returned (.bool b)) HR.out.1,HR.out.2⟩
end
section
open Go.RowKit Go.LF
theorem yb.solved{O:Nat->Prop}{base:Nat}{W:World}{g cap:Nat}{l:List Mv}{css:List (List Value)}(h:yb 96 6 O base W (.slice (some ⟨g,0,none⟩) l.length cap) (l.map Mv.zM) css){i:Nat}(hi:i<l.length){m:Tm}{a:Option Addr}{ac:Nat}(ha:1<=ac)
    (hR:zH (fun b=>b=g) W 4 ([m].map Tm.zM) a 0):zH zC (W.setCell ⟨g,i * 6+5,none⟩ (.slice a 1 ac)) 6 ((l.set i ⟨l[i].name,l[i].type,[m]⟩).map Mv.zM) (some ⟨g,0,none⟩) 0:=by
  have ne:∀ x y:Nat,x≠y->(⟨g,x,none⟩:Addr)≠⟨g,y,none⟩:=fun x y h e=>h (by cases e;rfl)
  have other:∀(V:World)(x y:Nat)(v:Value),x≠y->(V.setCell ⟨g,x,none⟩ v).cell? ⟨g,y,none⟩=V.cell? ⟨g,y,none⟩:=fun V x y v h=>World.cell?_setCell_other _ _ _ _ (ne x y h)
  have hset:zD (fun b=>b=g) W (W.setCell ⟨g,i * 6+5,none⟩ (.slice a 1 ac)):=zD.set (zD.refl _ _) _ _;obtain⟨sa,sc,hv,_,hc⟩:=h.cells;have hlen:=h.1;rw[List.length_map]at hlen;refine zp _ _ _ (fun k hk=>?_);have hk':k<l.length:=by simpa using hk
  obtain⟨g',hg1,hown,hb,hlt,_,hg⟩:=hc k (by simpa using hk') (by omega);have hRk:=h.2.2.2 k (by simpa using hk') (by omega);simp only[List.getElem_map]at hRk;simp only[Value.ownBlock,Option.some.injEq]at hown;obtain rfl:=hown;have hRk:zK (fun b=>b=g) W l[k].zM css[k]:=zK.weaken (fun b _ e=>.inr (by simp[Value.ownBlock,e])) _ _ hRk;by_cases e:k=i
  ·subst e;obtain⟨kk,n,ix,aa,ac2,va,vc,hcs,h6,h7,h8⟩:=Zb hRk;rw[hcs]at hg;refine⟨g,0,[.string (B l[k].name),.int .i64 kk,.string (B n),.int .i64 ix,.slice aa l[k].type.args.length ac2,.slice a 1 ac],rfl,Nat.lt_of_lt_of_le hlt hset.size,fun x=>x,rfl,fun m' u hu=>?_,?_⟩
   ·rw[show 0+0+k * 6+m'=k * 6+m' by omega];match m',hu with
    |0,hu=>rw[other _ _ _ _ (by omega)];exact hg 0 u hu
    |1,hu=>rw[other _ _ _ _ (by omega)];exact hg 1 u hu
    |2,hu=>rw[other _ _ _ _ (by omega)];exact hg 2 u hu
    |3,hu=>rw[other _ _ _ _ (by omega)];exact hg 3 u hu
    |4,hu=>rw[other _ _ _ _ (by omega)];exact hg 4 u hu
    |5,hu=>cases hu;exact World.cell?_setCell_same _ _ _ (hg 5 _ rfl)
    |m'+6,hu=>simp at hu
   ·simp only[List.getElem_map,List.getElem_set_self];refine XH.2 ⟨[.int .i64 kk,.string (B n),.int .i64 ix,.slice aa l[k].type.args.length ac2],a,ac,rfl,zK.weaken (fun _ _ x=>x.elim) _ _ (zK.zE hset (fun b e=>e) _ _ h6),by simpa using ha,zH.weaken (fun _ _ x=>x.elim) _ _ _ _ (zH.zE hset (fun b e=>e) _ _ _ _ hR)⟩
  ·refine⟨g,0,css[k],rfl,Nat.lt_of_lt_of_le hlt hset.size,fun x=>x,h.2.1 _ (List.getElem_mem _),fun m' u hu=>?_,?_⟩
   ·rw[show 0+0+k * 6+m'=k * 6+m' by omega,other _ _ _ _ ?_]
    ·exact hg m' u hu
    ·have hl6:=h.2.1 _ (List.getElem_mem (show k<css.length by omega));have:m'<6:=by rw[<-hl6];exact(List.getElem?_eq_some_iff.1 hu).1
     omega
   ·simp only[List.getElem_map,List.getElem_set_ne (Ne.symm e)];exact zK.weaken (fun _ _ x=>x.elim) _ _ (zK.zE hset (fun b e=>e) _ _ hRk)
def zHI(L:List Mv)(e':Int)(w:World)(e:Ending)(w':World):Prop:=
  ∃(a:Option Addr)(cap:Nat),e=.returned (.tuple #[.slice a L.length cap,.int .i64 e'])/\L.length<=cap/\zH zC w' 6 (L.map Mv.zM) a 0/\zD zC w w'
theorem zBZ(l:List Mv)(hl:StR l)(i:Int)(m:Tm)(hmw:m.wt<=300000)(w:World)(la:Option Addr)(lc:Nat)(cs:List Value)(hL:zH zC w 6 (l.map Mv.zM) la 0)(h:zK zC w m.zM cs):
    Calls Tryz.prog 48 #[.slice la l.length lc,.int .i64 i,.agg cs.toArray] w (zHI (qP l i m) (XS l i m) w):=by
  obtain⟨k,nm,ix,ts,aa,cap,ht,rfl,_,_⟩:=zU h;generalize ts.length=len at *
  obtain⟨w1,hw1⟩:∃ w1,w1=w.alloc (.cells #[.int .i64 k,.string (B nm),.int .i64 ix,.slice aa len cap] 29):=⟨_,rfl⟩;have hU1:zD zC w w1:=by rw[hw1];exact(zD.refl zC w).alloc _
  have ha1:zG w1 w.heap.size (.int .i64 k) (.string (B nm)) (.int .i64 ix) (.slice aa len cap) 29:=by rw[hw1];exact zG.zJ rfl
  have hR1:=h.on hU1;have hL1:=hL.on hU1;have has:=Tm.zi m;have DS:=YF l (by have:=hl.ok.len;omega) hl.ok.dup w1 la lc hL1;have VA:=fun(W:World)(hu:zD zC w1 W)=>zBh m l.length (by omega) W _ (hR1.on hu)
  have MT:=fun(W:World)(hu:zD zC w1 W)=>Zt m (by omega) W _ (hR1.on hu)
  have RE:=fun(W:World)(hu:zD zC w1 W)ia ic hI=>zCW l hl (Tm.zL m) (fun x hx=>by have:=zCL x hx;omega) (by have:=y9 m;omega) i W la lc ia ic (hL1.on hu) hI
  have DT:=fun(W:World)(hu:zD zC w1 W)=>ZW m (by omega) W _ (hR1.on hu)
  have HW:=zF hw1;obtain⟨H,hH⟩:∃ H,H=w.heap.size:=⟨_,rfl⟩;have HH:=zF hH;rw[<-hH]at ha1;obtain⟨E,hE⟩:∃ E:Int,E=XS l i m:=⟨_,rfl⟩;obtain⟨L2,hL2⟩:∃ L2,L2=qP l i m:=⟨_,rfl⟩;rw[<-hE,<-hL2];unfold qP at hL2;rw[<-hE]at hL2;unfold XS at hE;obtain⟨vE,hvE⟩:∃ vE,vE=xo m l.length:=⟨_,rfl⟩;rw[<-hvE]at hE VA;obtain⟨rB,hrB⟩:∃ rB,rB=X4 l (Tm.zL m) i:=⟨_,rfl⟩;rw[<-hrB]at hE RE;have hmln:(Tm.zL m).length<=300000:=by have:=y9 m;omega
  obtain⟨ms,hms⟩:∃ ms,ms=Tm.zL m:=⟨_,rfl⟩;rw[<-hms]at MT RE hmln;obtain⟨ll,hll⟩:∃ ll,ll=l.length:=⟨_,rfl⟩;rw[<-hll]at DS VA RE hE;rw[<-hll];have hl2:(ll:Int)<=2048:=by have:=hl.ok.len;omega
  have HL:=zF (And.intro hll (And.intro hL2 hE));clear hw1 hH hE hL2 h ht hL hvE hrB hms hR1 hll;obtain⟨t0,t1,t2,t3⟩:=ha1.cells;go_enter Tryz.func48,Tryz.ntmps48
  go_upto_region 1 with fail
  rw[<-HW.out,<-HH.out];go_wp2_with fail
  (with_reducible refine DS.mono ?_);rintro e w2 ⟨v,css,rfl,hRD,hU2⟩;have ha2:=ha1.kept hU2;have VA2:=VA w2 hU2;clear t0 t1 t2 t3 DS VA;obtain⟨t0,t1,t2,t3⟩:=ha2.cells;have hRD0:yb 96 6 (fun b=>b<w1.heap.size) w1.heap.size w2 v (l.map Mv.zM) css:=hRD;obtain⟨va,vc,rfl,hvc,hEv⟩:=hRD.rep (fun b e=>e);rw[List.length_map]at hvc;rw[List.length_map,<-HL.out.1]at hRD0;rw[List.length_map,<-HL.out.1];have hEv':zH zC w2 6 (l.map Mv.zM) va 0:=zH.weaken (fun _ _ x=>x.elim) _ _ _ _ hEv;have HRD:=zF hRD0;clear hRD hRD0 hEv;by_cases hin:0<=i/\i<(ll:Int)
  case neg=>
    have hE3:E=3:=by rw[HL.out.2.2,if_pos hin]
    have HF:=zF (show L2=l by rw[HL.out.2.1,if_pos (by rw[hE3];decide)]);subst hE3;by_cases h0:i<0
    ·go_wp2_with fail
     refine bodyPost_ret (v:=.tuple #[.slice va ll vc,.int .i64 3]) (by simp[results,Tryz.f48,go_sem]) rfl ⟨va,vc,by rw[HF.out,HL.out.1],by rw[HF.out];exact hvc,by rw[HF.out];exact hEv',hU1.and hU2⟩
    ·have h1:¬i<0:=h0;have h2:(ll:Int)<=i:=by omega
     go_wp2_with fail
     refine bodyPost_ret (v:=.tuple #[.slice va ll vc,.int .i64 3]) (by simp[results,Tryz.f48,go_sem]) rfl ⟨va,vc,by rw[HF.out,HL.out.1],by rw[HF.out];exact hvc,by rw[HF.out];exact hEv',hU1.and hU2⟩
  case pos=>
    obtain⟨i0,i1⟩:=hin;obtain⟨p,rfl⟩:∃ p:Nat,i=(p:Int):=⟨i.toNat,by omega⟩;have hpl:p<l.length:=by have:=HL.out.1;omega
    have hE4:E=if l[p].value≠[]then 53 else if vE≠0 then vE else if rB=true then 51 else 0:=by
      rw[HL.out.2.2,if_neg (by simp only[Classical.not_not];exact⟨i0,i1⟩)];simp only[Int.toNat_natCast,List.getElem?_eq_getElem hpl]
    obtain⟨b,o,k1,n1,i1',a1,cap1,va1,vc1,rfl,hb,_,⟨c0,c1,c2,c3,c4,c5⟩,hRt,hvc1,hV1⟩:=qK (hL1.on hU2) p hpl;obtain⟨vl,hvl⟩:∃ vl,vl=l[p].value.length:=⟨_,rfl⟩;rw[<-hvl]at c5
    have hvv:l[p].value≠[]↔0<vl:=by
      rw[hvl];cases l[p].value<;>simp
    have hp0:(0:Int)<=(p:Int):=by omega
    have hpm:(p:Int)<=2048:=by omega
    generalize l[p].type.args.length=al at *
    clear hRt hV1 hvc1 hvl;have HE4:=zF hE4;clear hE4;by_cases h53:0<vl
    ·have hE5:E=53:=by rw[HE4.out,if_pos (hvv.2 h53)]
     have HF:=zF (show L2=l by rw[HL.out.2.1,if_pos (by rw[hE5];decide)]);subst hE5;have h53':(0:Int)<(vl:Int):=by omega
     clear hvv;go_wp2_with fail
     refine bodyPost_ret (v:=.tuple #[.slice va ll vc,.int .i64 53]) (by simp[results,Tryz.f48,go_sem]) rfl ⟨va,vc,by rw[HF.out,HL.out.1],by rw[HF.out];exact hvc,by rw[HF.out];exact hEv',hU1.and hU2⟩
    ·obtain rfl:vl=0:=by omega
     have hE5:E=if vE≠0 then vE else if rB=true then 51 else 0:=by rw[HE4.out,if_neg (fun e=>by have:=hvv.1 e;omega)]
     have HE5:=zF hE5;clear hE5 HE4 hvv h53;go_wp2_with fail
     (with_reducible refine VA2.mono ?_);rintro e w3 ⟨rfl,hU3⟩;have hU23:=hU2.and hU3;have ha3:=ha1.kept hU23;have hE3:=hEv'.on hU3;have MT3:=MT w3 hU23;clear t0 t1 t2 t3 c0 c1 c2 c3 c4 c5 VA2 MT;obtain⟨t0,t1,t2,t3⟩:=ha3.cells;by_cases hz:vE=0
     case neg=>
       have hE6:E=vE:=by rw[HE5.out,if_pos hz]
       have HF:=zF (show L2=l by rw[HL.out.2.1,if_pos (by rw[hE6];exact hz)]);subst hE6;have hz':(E !=0)=true:=by simpa using hz
       clear hz;go_wp2_with fail
       refine bodyPost_ret (v:=.tuple #[.slice va ll vc,.int .i64 E]) (by simp[results,Tryz.f48,go_sem]) rfl ⟨va,vc,by rw[HF.out,HL.out.1],by rw[HF.out];exact hvc,by rw[HF.out];exact hE3,hU1.and hU23⟩
     subst hz;have hE6:E=if rB=true then 51 else 0:=by rw[HE5.out,if_neg (by simp)]
     have HE6:=zF hE6;clear hE6 HE5;go_wp2_with fail
     (with_reducible refine MT3.mono ?_);rintro e w4 ⟨vm,rfl,hI,hU4⟩;obtain⟨ma,mc,rfl,hmc,hEm⟩:=yK hI.rep;have hU14:=hU23.and hU4;have RE4:=RE w4 hU14 ma mc (zH.weaken (fun _ _ x=>x.elim) _ _ _ _ hEm);have hE4:=hE3.on hU4;clear hI hEm RE MT3 hmc;go_wp2_with fail
     (with_reducible refine RE4.mono ?_);rintro e w5 ⟨rfl,hU5⟩;have hU15:=hU14.and hU5;have ha5:=ha1.kept hU15;have hE5:=hE4.on hU5;have DT5:=DT w5 hU15;clear t0 t1 t2 t3 RE4 DT;cases rB
     case true=>
       have hE7:E=51:=by rw[HE6.out,if_pos rfl]
       have HF:=zF (show L2=l by rw[HL.out.2.1,if_pos (by rw[hE7];decide)]);subst hE7;go_wp2_with fail
       refine bodyPost_ret (v:=.tuple #[.slice va ll vc,.int .i64 51]) (by simp[results,Tryz.f48,go_sem]) rfl ⟨va,vc,by rw[HF.out,HL.out.1],by rw[HF.out];exact hvc,by rw[HF.out];exact hE5,hU1.and hU15⟩
     case false=>
       have hE7:E=0:=by rw[HE6.out,if_neg (by simp)]
       have hL3:L2=l.set p ⟨l[p].name,l[p].type,[m]⟩:=by
         rw[HL.out.2.1,if_neg (by simp[hE7])];unfold zIo;simp only[Int.toNat_natCast,List.getElem?_eq_getElem hpl]
       subst hE7;obtain⟨t0,t1,t2,t3⟩:=ha5.cells;have hcl:p<css.length:=by have:=HRD.out.1;rw[List.length_map]at this;omega
       have hpl2:p<(l.map Mv.zM).length:=by rw[List.length_map];exact hpl
       obtain⟨sa,sc,hv,_,hc⟩:=HRD.out.cells;rw[List.length_map]at hv;simp only[Value.slice.injEq]at hv;obtain⟨g,hg0,hown,hgb,hglt,hgf,hgc⟩:=hc p hpl2 hcl;have hv1:=hv.1;have hv2:=hv.2.2;clear hv;subst hv1 hv2;subst hg0;have hRp:=HRD.out.2.2.2 p hpl2 hcl;simp only[List.getElem_map]at hRp;obtain⟨kk,nn,ii,a9,c9,va9,vc9,hcs,_,_,_⟩:=Zb hRp;have hg5:=hgc 5 (.slice va9 l[p].value.length vc9) (by rw[hcs];rfl);have hU25:=(hU3.and hU4).and hU5;have g5:=hU25.cell hg5 (fun x=>x);have gf:=(hU25.zA2.2 g (p * 6+5) hglt).trans (hgf (p * 6+5));have gl:=Nat.lt_of_lt_of_le hglt hU25.size;have HG:=zF (And.intro hL3 hgb);clear hL3 hcs hgc hg5 hgf hRp hc hown;go_wp2_with fail
       (with_reducible refine DT5.mono ?_);rintro e w6 ⟨k6,i6,n6,a6,l6,c6,rfl,hR6,hU6⟩;have G5:=hU6.cell g5 (fun x=>x);have GF:=(hU6.zA2.2 g (p * 6+5) gl).trans gf;have GL:=Nat.lt_of_lt_of_le gl hU6.size;have hU26:=hU25.and hU6;clear t0 t1 t2 t3 g5 gf gl DT5;go_wp2_with fail
       obtain⟨w7,hw7⟩:∃ w7,w7=w6.alloc (.cells #[.int .i64 k6,.string (B n6),.int .i64 i6,.slice a6 l6 c6] 29):=⟨_,rfl⟩;have hU7:zD zC w6 w7:=by rw[hw7];exact(zD.refl zC _).alloc _
       have hB7:zG w7 w6.heap.size (.int .i64 k6) (.string (B n6)) (.int .i64 i6) (.slice a6 l6 c6) 29:=by rw[hw7];exact zG.zJ rfl
       have hz67:=hU6.size;have hD7:=(HRD.out.on (hU26.and hU7) (fun b e=>e))
       have hrow:zH (fun b=>b=g) w7 4 ([m].map Tm.zM) (some ⟨w6.heap.size,0,none⟩) 0:=by
         refine zp _ _ _ (fun j hj=>?_);obtain rfl:j=0:=by simpa using hj
         obtain⟨x0,x1,x2,x3⟩:=hB7.cells;refine⟨w6.heap.size,0,[.int .i64 k6,.string (B n6),.int .i64 i6,.slice a6 l6 c6],rfl,hB7.lt,by omega,rfl,fun q u hu=>?_,by simpa using(zK.weaken (fun b _ e=>by have:=Nat.lt_of_lt_of_le hglt hU25.size;omega) _ _ hR6).on hU7⟩;match q,hu with
         |0,hu=>cases hu;exact x0
         |1,hu=>cases hu;exact x1
         |2,hu=>cases hu;exact x2
         |3,hu=>cases hu;exact x3
         |q+4,hu=>simp at hu
       rw[HL.out.1]at hD7;have hfin:=hD7.solved hpl (Nat.le_refl 1) hrow;have hUf:zD zC w (w7.setCell ⟨g,p * 6+5,none⟩ (.slice (some ⟨w6.heap.size,0,none⟩) 1 1)):=(hU1.and ((hU2.and hU26).and hU7)).trans (S':=fun b=>b=g) (zD.set (zD.refl _ _) _ _) (fun b hb e=>by have:=HG.out.2;have:=hU1.size;omega);rw[hw7,World.setCell_alloc_past _ _ _ _ GL]at hfin hUf;refine bodyPost_ret (v:=.tuple #[.slice (some ⟨g,0,none⟩) ll vc,.int .i64 0]) (by simp[results,Tryz.f48,go_sem]) rfl ⟨some ⟨g,0,none⟩,vc,(by rw[HG.out.1,List.length_set];exact congrArg (fun z=>Ending.returned (.tuple #[.slice (some ⟨g,0,none⟩) z vc,.int .i64 0])) HL.out.1),by rw[HG.out.1,List.length_set];exact hvc,by rw[HG.out.1];exact hfin,hUf⟩
end
end Go.Proofs.YthgmimncdjhgnaaGreatDoor
namespace Go.LF
open Tm Go.Proofs.YthgmimncdjhgnaaGreatDoor
theorem Xc(t:Tm):(Tm.zL t).length<=t.size:=by
  unfold Tm.zL;split
  ·have:=Xf t [];simp at this;show(Tm.ZB [] t).length<=_;omega
  ·simp
theorem Zx.zH1{l:List Mv}(h:Zx l):zDI l:=by
  refine⟨by have:=h.len;omega,fun m hm=>⟨?_,by have:=(h.val m hm).1;omega,fun v hv=>?_⟩⟩
  ·have:=Tm.qx (h.typ m hm);omega
  ·have:=Tm.qx (h.zHY m hm v hv);omega
theorem Zx.stR{l:List Mv}(h:Zx l):StR l:=by
  refine⟨h.zH1,fun m hm=>by have:=(h.val m hm).1;omega,fun m hm=>?_,by have:=h.len;omega⟩;obtain⟨h1,h2⟩:=h.ar m hm;have h3:=(h.val m hm).1;unfold Zp;rw[List.length_append];have h4:=Xc m.type
  have h5:(m.value.flatMap Tm.zL).length<=200:=by
    match hv:m.value,h3 with
    | [],_=>simp
    | [v],_=>
      have h6:=Xc v;have h7:=h2 v (by rw[hv];simp);simp only[List.flatMap_cons,List.flatMap_nil,List.append_nil];omega
  omega
end Go.LF
