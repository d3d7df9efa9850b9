/- meta.WY closure. -/
import Derived.Test.YthgmimncdjhgnaaGreatDoorXFI
set_option maxRecDepth 100000
set_option maxHeartbeats 8000000
namespace Go.LF
mutual
def bX(f:Int->Int):Tm->Tm
  | .mk k n i ts=>.mk k n (if k=6 then f i else i) (GN f ts)
def GN(f:Int->Int):List Tm->List Tm
  | []=>[]
  |t :: ts=>bX f t :: GN f ts
end
theorem zF(f:Int->Int)(ts:List Tm):GN f ts=ts.map (bX f):=by
  induction ts with
  |nil=>rfl
  |cons t ts ih=>rw[GN,ih];rfl
end Go.LF
namespace Go.Proofs.YthgmimncdjhgnaaGreatDoor
section
open Go.RowKit Go.LF
theorem lA.afI{W:World}{lo hi:Nat}{t:Tm}{cs:List Value}(h:lA W lo hi t cs):cs.length=4:=by cases h;rfl
theorem mV.update{W W':World}{lo g j:Nat}{us:List Tm}{m:Nat->Nat}{css:Nat->List Value}{t':Tm}{qs:List Value}(h:mV W (some ⟨g,0,none⟩) lo us m css)(hj:j<us.length)(hg:g<m 0)(hU:af (fun x=>x=g\/(m j<=x/\x<m (j+1))) W W')
    (mZ:∀ o,(o<j * 4\/j * 4+4<=o)->W'.cell? ⟨g,o,none⟩=W.cell? ⟨g,o,none⟩) (tG:∀ o,W'.frozen? ⟨g,o,none⟩=false) (hn:lA W' (m j) (m (j+1)) t' qs) (hc:∀ x v,qs[x]? =some v->W'.cell? ⟨g,j * 4+x,none⟩=some v):
    mV W' (some ⟨g,0,none⟩) lo (us.set j t') m (fun i=>if i=j then qs else css i):=by
  have hm:∀ j,j<us.length->m j<=m (j+1):=fun j hj=>(h.2 j hj).1
  refine⟨h.1,fun i hi=>?_⟩;have dZ:i<us.length:=by simpa using hi
  obtain⟨h1,h2,g',e,g1,g2,gf,gl,gc⟩:=h.2 i dZ;cases e
  by_cases Bc:i=j
  ·subst Bc;simp only[if_true,List.getElem_set_self];exact⟨h1,hn,g,rfl,g1,g2,tG,hn.afI,hc⟩
  simp only[Bc,if_false];rw[List.getElem_set_ne (by omega)];have k1:=ff hm i (by omega);refine⟨h1,h2.ag hU (fun b b1 b2 e=>?_),g,rfl,g1,g2,tG,gl,fun x v hv=>?_⟩
  ·rcases e with e |⟨e1,e2⟩
   ·omega
   rcases Nat.lt_or_ge i j with aB |hge
   ·have k2:=iq hm (i+1) (j - (i+1)) (by omega);rw[show i+1+(j - (i+1))=j by omega]at k2;omega
   have k2:=iq hm (j+1) (i - (j+1)) (by omega);rw[show j+1+(i - (j+1))=i by omega]at k2;omega
  have hx:x<4:=by rw[<-gl];exact(List.getElem?_eq_some_iff.1 hv).1
  rw[mZ _ (by omega)];exact gc x v hv
abbrev X4(tb wb:Nat):Value:=.func (.func 128) #[] #[.pointer (some ⟨tb,0,none⟩),.pointer (some ⟨wb,0,none⟩)]
structure Zd(rf:Int->Int)(tb wb M:Nat)(fZ:List (Value×Value))(W:World):Prop where
  bx:cq W tb (.map (some M)) 94
  wk:cq W wb (X4 tb wb) 140
  map:fT W M fZ
theorem Zd.ag{rf:Int->Int}{tb wb M:Nat}{fZ:List (Value×Value)}{W W':World}{S:Nat->Prop}(h:Zd rf tb wb M fZ W)(hU:af S W W')(h1:¬S tb)(h2:¬S wb)(h3:¬S M):Zd rf tb wb M fZ W':=⟨h.bx.ag hU h1,h.wk.ag hU h2,h.map.on hU h3⟩
def RnL(rf:Int->Int)(M:Nat)(fZ:List (Value×Value)):Prop:=∀(W:World)(x:Int),fT W M fZ->(Instr.lookup 94 (.map (some M)) (.int .i64 x) false).run Tryz.prog W=.ok (.int .i64 (rf x)) W
def RnC(rf:Int->Int)(t:Tm)(b o lo hi:Nat)(W W':World):Prop:=
  ∃ qs,lA W' lo hi (bX rf t) qs/\(∀ x v,qs[x]? =some v->W'.cell? ⟨b,o+x,none⟩=some v)/\(∀ o',(o'<o\/o+4<=o')->W'.cell? ⟨b,o',none⟩=W.cell? ⟨b,o',none⟩)/\(∀ o',W'.frozen? ⟨b,o',none⟩=W.frozen? ⟨b,o',none⟩)/\af (fun x=>x=b\/(lo<=x/\x<hi)) W W'
theorem M9(rf:Int->Int)(t:Tm):∀(tb wb M:Nat)(fZ:List (Value×Value))(b o lo hi:Nat)(W:World)(cs:List Value),RnL rf M fZ->t.size<=900000->lA W lo hi t cs->(∀ x v,cs[x]? =some v->W.cell? ⟨b,o+x,none⟩=some v)->(∀ o,W.frozen? ⟨b,o,none⟩=false)->¬(lo<=b/\b<hi)->
    Zd rf tb wb M fZ W->(tb≠b/\wb≠b/\M≠b)->(¬(lo<=tb/\tb<hi)/\¬(lo<=wb/\wb<hi)/\¬(lo<=M/\M<hi))->
    Calls Tryz.prog 128 #[.pointer (some ⟨b,o,none⟩),.pointer (some ⟨tb,0,none⟩),.pointer (some ⟨wb,0,none⟩)] W fun e W'=>e=.returned (.tuple #[])/\RnC rf t b o lo hi W W':=by
  induction t using Tm.ind with
  |h k n i ts ih=>
   intro tb wb M fZ b o lo hi W cs JY ee hO hc hf hb hW gJ XE;rw[Tm.aM]at ee;cases hO with
   |node _ _ _ _ a cap m css aX h0 hm hh hcc hs=>
    have W5:mV W a lo ts m css:=⟨h0,fun j hj=>⟨hm j hj,hs j hj,hcc j hj⟩⟩;clear h0 hm hcc hs;have c0:=hc 0 _ rfl;rw[Nat.add_zero]at c0;have c1:=hc 1 _ rfl;have c2:=hc 2 _ rfl;have c3:=hc 3 _ rfl;have Wq:b<W.heap.size:=World.block_lt_of_cell? W _ c0;obtain⟨tl,jh⟩:∃ tl,tl=ts.length:=⟨_,rfl⟩;rw[<-jh]at c3 aX hh;have hlen:=Tm.aA ts;have aaH:(tl:Int)<=900000:=by omega
    have HL:=ak jh;have U3:=ak (And.intro gJ XE);have HB:=ak hb;have VE:=ak (And.intro ih (And.intro ee JY));have rI:=JY W i hW.map;have f0:=hf (o+2);obtain⟨i',dZ⟩:∃ i',i'=(if k=6 then rf i else i):=⟨_,rfl⟩;have HI:=ak dZ;have hWd:=hW.ag (af.refl ae W).drew (fun x=>x) (fun x=>x) (fun x=>x);have ED:=JY W.drew i hWd.map;have x1:=hW.bx.cell;have s9:∀ args w,Sem.run Tryz.prog (callFunc 128 args) w=.ok (Next.enter 128 args) w:=fun _ _=>by simp only[go_sem,Tryz.call128]
    have HF:=ak hf;have HC:=ak hc;clear dZ JY jh ih ee gJ XE hf hc hb;go_enter Tryz.func128,Tryz.ntmps128;go_upto_if 9 with fail
    go_cut []from 5 to 18 (fun wc=>(wc.cell? ⟨b,o,none⟩=some (.int .i64 k)/\wc.cell? ⟨b,o+1,none⟩=some (.string (B n))/\wc.cell? ⟨b,o+2,none⟩=some (.int .i64 i')/\wc.cell? ⟨b,o+3,none⟩=some (.slice a tl cap))/\
      (∀ o',(o'<o\/o+4<=o')->wc.cell? ⟨b,o',none⟩=W.cell? ⟨b,o',none⟩)/\(∀ o',wc.frozen? ⟨b,o',none⟩=W.frozen? ⟨b,o',none⟩)/\af (fun x=>x=b) W wc)
    case first=>
      by_cases hk:k=6
      ·have xO:(k == 6)=true:=by simpa using hk
       have he:i'=rf i:=by rw[HI.out,if_pos hk]
       have HE:=ak he;have ah:af (fun x=>x=b) W (W.setCell ⟨b,o+2,none⟩ (.int .i64 (rf i))):=af.set (af.refl _ _) _ _;have Sd:W.drew.cell? ⟨tb,0,none⟩=some (.map (some M)):=hWd.bx.cell;have Se:(W.setCell ⟨b,o+2,none⟩ (.int .i64 (rf i))).drew.cell? ⟨tb,0,none⟩=some (.map (some M)):=(hW.ag ah.drew U3.out.1.1 U3.out.1.2.1 U3.out.1.2.2).bx.cell;clear hk he;go_wp2_with fail;have jZ:=ak ah;clear ah;go_region_law (first |fail)
       all_goals
         go_wp2_with fail;go_meet
         have hu:=jZ.out;have oth:∀ o',o'≠o+2->(W.setCell ⟨b,o+2,none⟩ (.int .i64 (rf i))).cell? ⟨b,o',none⟩=W.cell? ⟨b,o',none⟩:=fun o' h=>World.cell?_setCell_other _ _ _ _ (fun e=>h (Addr.mk.inj e).2.1.symm)
         refine⟨⟨(oth _ (by omega)).trans c0,(oth _ (by omega)).trans c1,by rw[HE.out];exact World.cell?_setCell_same _ _ _ c2,(oth _ (by omega)).trans c3⟩,fun o' h=>oth _ (by omega),fun o'=>?_,hu.drew⟩;show(W.setCell _ _).frozen? _=_;simp only[World.frozen?_setCell]
      have xO:(k == 6)=false:=by simpa using hk
      have he:i'=i:=by rw[HI.out,if_neg hk]
      have HE:=ak he;clear hk he;go_wp2_with fail;go_meet
      exact⟨⟨c0,c1,by rw[HE.out];exact c2,c3⟩,fun _ _=>rfl,fun _=>rfl,af.refl _ _⟩
    obtain⟨⟨d0,d1,d2,d3⟩,mZ,hfz,aH⟩:=hcut;have hm:∀ j,j<ts.length->m j<=m (j+1):=fun j hj=>(W5.2 j hj).1
    have anP:=W5.1;have pf:=ff hm ts.length (Nat.le_refl _);rw[<-HL.out]at pf;have Rw:=W5.ag aH (fun x x1 x2 e=>HB.out (by rw[<-HL.out]at x2;omega));have sg:=hW.ag aH U3.out.1.1 U3.out.1.2.1 U3.out.1.2.2;have hbc:b<wc.heap.size:=Nat.lt_of_lt_of_le Wq aH.size;have HOT:=ak (And.intro mZ (And.intro hfz aH));have N8:=ak hm;have mR:m ts.length<=hi:=by rw[<-HL.out];exact hh
    clear W5 hW hWd rI ED c0 c1 c2 c3 f0 x1 mZ hfz aH hm;go_wp2_with fail
    go_loopw [24] (fun v24 wr=>∃(j:Nat)(css:Nat->List Value),v24=.int .i64 (j:Int)/\j<=tl/\mV wr a lo ((ts.take j).map (bX rf)++ts.drop j) m css/\af (fun x=>lo<=x/\x<hi) wc wr)
      (fun v24 _=>tl - (intOf v24).toNat)
    case atStart=>exact⟨0,css,rfl,Nat.zero_le _,by simpa using Rw,af.refl _ _⟩
    obtain⟨j,fY,rfl,hj,hO,hU⟩:=hrel;have e0:=hU.cell d0 HB.out;have e1:=hU.cell d1 HB.out;have e2:=hU.cell d2 HB.out;have e3:=hU.cell d3 HB.out;by_cases aB:j<tl
    ·have b7:j<ts.length:=by have:=HL.out;omega
     have cZ:j<((ts.take j).map (bX rf)++ts.drop j).length:=by simp;omega
     obtain⟨KL,hOj,g,rfl,g1,g2,gf,gl,gc⟩:=hO.2 j cZ
     have ky:((ts.take j).map (bX rf)++ts.drop j)[j]=ts[j]:=by
       rw[List.getElem_append_right (by simp;omega)];simp only[List.length_map,List.length_take,List.getElem_drop];congr 1;omega
     have ah:((ts.take j).map (bX rf)++ts.drop j).set j (bX rf ts[j])=(ts.take (j+1)).map (bX rf)++ts.drop (j+1):=by
       rw[List.set_append_right _ _ (by simp;omega),List.drop_eq_getElem_cons b7,List.take_succ_eq_append_getElem b7];simp only[List.length_map,List.length_take,Nat.min_eq_left (Nat.le_of_lt b7),Nat.sub_self,List.set_cons_zero,List.map_append,List.map_cons,List.map_nil,List.append_assoc,List.singleton_append]
     rw[ky]at hOj;have k1:=ff N8.out j (by omega);have k2:=iq N8.out (j+1) (ts.length - (j+1)) (by omega);rw[show j+1+(ts.length - (j+1))=ts.length by omega]at k2;have hd:af ae wr wr.drew:=(af.refl ae wr).drew;obtain⟨n1,n2,n3⟩:=U3.out.2;have EU:=(sg.ag hU n1 n2 n3).ag hd (fun x=>x) (fun x=>x) (fun x=>x);have IH:=VE.out.1 ts[j] (List.getElem_mem b7) tb wb M fZ g (j * 4) (m j) (m (j+1)) wr.drew (fY j) VE.out.2.2 (by have:=Tm.aK (List.getElem_mem b7);have:=VE.out.2.1;omega) (hOj.ag hd (fun _ _ _ x=>x)) (fun x v hv=>hd.cell (gc x v hv) (fun x=>x)) gf (by omega) EU (by omega) (by omega);have Dp:(j:Int)<(tl:Int):=by omega
     have BW:(j:Int)<=900000:=by omega
     have Sd:wr.drew.cell? ⟨wb,0,none⟩=some (X4 tb wb)/\wr.drew.cell? ⟨b,o+3,none⟩=some (.slice (some ⟨g,0,none⟩) tl cap):=⟨EU.wk.cell,hd.cell e3 (fun x=>x)⟩;have hng:b≠g:=fun e=>HB.out (by omega)
     have eJ:=fun(w5:World)(h:RnC rf ts[j] g (j * 4) (m j) (m (j+1)) wr.drew w5)=>show ∃ iY,mV w5 (some ⟨g,0,none⟩) lo ((ts.take (j+1)).map (bX rf)++ts.drop (j+1)) m iY/\af (fun x=>lo<=x/\x<hi) wc w5 from by
       obtain⟨cs5,p1,p2,p3,p4,p5⟩:=h;refine⟨_,by rw[<-ah];exact mV.update (hO.ag hd (fun _ _ _ x=>x)) cZ g2 p5 p3 (fun o'=>by rw[p4];exact gf o') p1 p2,(hU.trans hd (fun _ _ e=>e.elim)).trans p5 (fun x _ e=>by omega)⟩
     have tg:=ak eJ;clear eJ ah ky hOj hO gc gf gl EU cZ e0 e1 e2;go_upto_region 5 with fail
     go_region_held3 (fun w'=>w'.cell? ⟨wb,0,none⟩=some (X4 tb wb)/\w'.cell? ⟨b,o+3,none⟩=some (.slice (some ⟨g,0,none⟩) tl cap))
       (first |(with_reducible assumption)|(with_reducible exact Sd)|(with_reducible exact Sx))
       (first |((with_reducible refine IH.mono ?_);rintro e w5 ⟨rfl,gN⟩;obtain⟨iY,q1,q2⟩:=tg.out w5 gN;have Sx:w5.cell? ⟨wb,0,none⟩=some (X4 tb wb)/\w5.cell? ⟨b,o+3,none⟩=some (.slice (some ⟨g,0,none⟩) tl cap):=⟨(sg.ag q2 n1 n2 n3).wk.cell,q2.cell d3 HB.out⟩))
     all_goals
       have HQ:=ak (And.intro q1 q2);clear q1 q2 gN;go_wp2_with fail;go_roundw;case rel=>exact⟨j+1,iY,by go_num,by omega,HQ.out.1,HQ.out.2⟩
       simp[intOf];omega
    have rG:j=ts.length:=by have:=HL.out;omega
    subst rG;rw[List.take_length,List.drop_length,List.append_nil]at hO;have fE:(ts.map (bX rf)).length=tl:=by rw[List.length_map];exact HL.out.symm
    have lM:=hO.node k n i' (cap:=cap) (hi:=hi) (by rw[fE];exact aX) (by rw[List.length_map];exact mR);rw[fE]at lM;have Eu:bX rf (.mk k n i ts)=.mk k n i' (ts.map (bX rf)):=by rw[bX,zF,<-HI.out]
    rw[<-Eu]at lM;have Kv:∀ o',wr.cell? ⟨b,o',none⟩=wc.cell? ⟨b,o',none⟩:=fun o'=>World.cell?_of_block (hU.block b hbc HB.out)
    have HR:=ak (show RnC rf (.mk k n i ts) b o lo hi W wr from⟨_,lM,fun x v hv=>(by
      match x,hv with
      |0,hv=>cases hv;exact e0
      |1,hv=>cases hv;exact e1
      |2,hv=>cases hv;exact e2
      |3,hv=>cases hv;exact e3),fun o' ho=>(Kv o').trans (HOT.out.1 o' ho),fun o'=>(hU.cells.2 b o' hbc HB.out).trans (HOT.out.2.1 o'),(HOT.out.2.2.mono (fun _ _ e=>.inl e)).trans hU (fun _ _ e=>.inr e)⟩)
    clear lM hO Eu fE;go_wp2_with fail;go_end0
    exact⟨rfl,HR.out⟩
end
section
open Go.RowKit Go.LF
theorem qK(rf:Int->Int)(M:Nat)(fZ:List (Value×Value))(JY:RnL rf M fZ)(t:Tm)(ee:t.size<=900000)(w:World)(cs:List Value)(hM:fT w M fZ)(hR:aw ae w t.az cs):
    Calls Tryz.prog 62 #[.agg cs.toArray,.map (some M)] w (wN (bX rf t) w):=by
  obtain⟨k,n,i,ts,a,cap,ht,rfl,_,_⟩:=aP hR;generalize ts.length=len at *
  obtain⟨w3,cQ⟩:∃ w3,w3=((w.alloc (.cells #[.int .i64 k,.string (B n),.int .i64 i,.slice a len cap] 29)).alloc (.cells #[.map (some M)] 94)).alloc (.cells #[.int .i64 0,.string (B []),.int .i64 0,.slice none 0 0] 29):=⟨_,rfl⟩;have aZ:af ae w w3:=by rw[cQ];exact(((af.refl ae w).alloc _).alloc _).alloc _
  have rH:au w3 w.heap.size (.int .i64 k) (.string (B n)) (.int .i64 i) (.slice a len cap) 29:=by rw[cQ];exact((au.av rfl).kept ((af.refl ae _).alloc _)).kept ((af.refl ae _).alloc _)
  have Rv:cq w3 (w.heap.size+1) (.map (some M)) 94:=by rw[cQ];exact(cq.av (by simp)).kept ((af.refl ae _).alloc _)
  have iL:au w3 (w.heap.size+1+1) (.int .i64 0) (.string (B [])) (.int .i64 0) (.slice none 0 0) 29:=by rw[cQ];exact au.av (by simp)
  have vY:w3.heap.size=w.heap.size+3:=by rw[cQ];simp
  have DU:=AI t ee w3 _ (hR.on aZ);have KC:=hM.on aZ (fun x=>x);have RD:=hM.lt;obtain⟨H,hH⟩:∃ H,H=w.heap.size:=⟨_,rfl⟩;have HH:=ak hH;rw[<-hH]at rH Rv iL vY RD;have HW:=ak cQ;have s9:∀ args w,Sem.run Tryz.prog (callFunc 128 args) w=.ok (Next.enter 128 args) w:=fun _ _=>by simp only[go_sem,Tryz.call128]
  have HK:=ak (And.intro JY ee);clear cQ hH ht hR hM JY ee;obtain⟨t0,t1,t2,t3⟩:=rH.cells;go_enter Tryz.func62,Tryz.ntmps62;go_upto_region 1 with fail;rw[<-show B []={ data:=#[] }from rfl,<-HW.out,<-HH.out];go_wp2_with fail
  (with_reducible refine DU.mono ?_);rintro e w4 ⟨k4,i4,n4,a4,l4,c4,rfl,KU,bw⟩;have Ib:=rH.kept bw;have Bv:=Ib.set (d0:=.int .i64 k4) (d1:=.string (B n4)) (d2:=.int .i64 i4) (d3:=.slice a4 l4 c4);obtain⟨w5,gT⟩:∃ w5,w5=((((w4.setCell ⟨H,0,none⟩ (.int .i64 k4)).setCell ⟨H,1,none⟩ (.string (B n4))).setCell ⟨H,2,none⟩ (.int .i64 i4)).setCell ⟨H,3,none⟩ (.slice a4 l4 c4)):=⟨_,rfl⟩;rw[<-gT]at Bv;have ZS:w5.heap.size=w4.heap.size:=by rw[gT];simp[World.setCell]
  obtain⟨I9,ba⟩:=Bv;have Xt:=(Rv.kept bw).ag ba (by omega);have dR:=(iL.kept bw).ag ba (by omega);have GG:=(KC.on bw (fun x=>x)).on ba (by omega);have LM:=KU.ag ba (fun b b1 _ e=>by omega);obtain⟨w6,iF⟩:∃ w6,w6=w5.alloc (.cells #[X4 (H+1) w5.heap.size] 140):=⟨_,rfl⟩;have bj:af ae w5 w6:=by rw[iF];exact(af.refl ae w5).alloc _
  have xO:cq w6 w5.heap.size (X4 (H+1) w5.heap.size) 140:=by rw[iF];exact cq.av rfl
  obtain⟨Q,hQ⟩:∃ Q,Q=w5.heap.size:=⟨_,rfl⟩;have Pd:=I9.kept bj;have dg:Zd rf (H+1) w5.heap.size M fZ w6:=⟨Xt.kept bj,xO,GG.on bj (fun x=>x)⟩;have anq:=bw.size;have GK:=ak gT;have Ju:=ak iF;have HQ:=ak hQ;rw[<-hQ]at xO dg iF ZS;obtain⟨e0,e1,e2,e3⟩:=Pd.cells;obtain⟨f0,f1,f2,f3⟩:=Pd.aq
  have RN:=M9 rf t (H+1) Q M fZ H 0 w3.heap.size w4.heap.size w6 _ HK.out.1 HK.out.2 (LM.ag bj (fun _ _ _ x=>x))
    (fun x v hv=>by
      rw[Nat.zero_add];match x,hv with
      |0,hv=>cases hv;exact e0
      |1,hv=>cases hv;exact e1
      |2,hv=>cases hv;exact e2
      |3,hv=>cases hv;exact e3) (fun o=>by unfold au at Pd;simp[World.frozen?,Pd]) (by omega) dg (by omega) (by omega)
  have fD:=dR.kept bj;have jC:af ae w w6:=((aZ.and bw).trans ba (fun b hb e=>by have:=HH.out;omega)).and bj;obtain⟨y0,y1,y2,y3⟩:=Ib.cells;obtain⟨z0,z1,z2,z3⟩:=Ib.aq;have q4:=Ib.lt;have c6:=xO.cell;clear ZS gT iF hQ t0 t1 t2 t3 DU rH iL Rv KC KU LM Xt GG dR I9 e0 e1 e2 e3 f0 f1 f2 f3;go_upto_region 2 with fail;rw[<-GK.out];clear y0 y1 y2 y3 z0 z1 z2 z3 q4;go_upto_region 4 with fail;rw[<-Ju.out,<-HQ.out];go_wp2_with fail
  (with_reducible refine RN.mono ?_);rintro e w7 ⟨rfl,cs7,Wz,hc7,_,hf7,cm⟩;obtain⟨k7,n7,i7,ts7,a7,l7,ht7,rfl,_,_⟩:=aP Wz.rep;have e0:=hc7 0 _ rfl;have e1:=hc7 1 _ rfl;have e2:=hc7 2 _ rfl;have e3:=hc7 3 _ rfl;generalize ts7.length=tl7 at *
  rw[Nat.zero_add]at e0 e1 e2 e3;have j4:=fD.ag cm (by omega);obtain⟨y0,y1,y2,y3⟩:=j4.cells;obtain⟨z0,z1,z2,z3⟩:=j4.aq;have q7:=j4.lt;have ah:=j4.set (d0:=.int .i64 k7) (d1:=.string (B n7)) (d2:=.int .i64 i7) (d3:=.slice a7 tl7 l7);have HO7:=ak (And.intro Wz ah);clear Wz ah hc7 hf7 RN ht7 xO c6 dg;go_wp2_with fail;obtain⟨Wz,ah⟩:=HO7.out;obtain⟨p0,p1,p2,p3⟩:=ah.1.cells;refine bodyPost_ret (v:=.agg #[.int .i64 k7,.string (B n7),.int .i64 i7,.slice a7 tl7 l7]) ?_ rfl ?_
  ·simp[results,Tryz.f62,go_sem,p0,p1,p2,p3]
  refine⟨k7,i7,n7,a7,tl7,l7,rfl,?_,(jC.trans cm (fun b hb e=>by have:=HH.out;omega)).trans ah.2 (fun b hb e=>by have:=HH.out;omega)⟩;rw[<-HH.out];have h1:=Wz.rep;exact aw.weaken (fun b _ e=>.inl (by omega)) _ _ (aw.ag ah.2 (fun b e=>.inl (by omega)) _ _ h1)
end
end Go.Proofs.YthgmimncdjhgnaaGreatDoor
namespace Go.LF
section
open Tm Go.Proofs.YthgmimncdjhgnaaGreatDoor
theorem tq{α:Type}(p q r:α->Bool)(h:∀ x,p x=true->q x=true\/r x=true):∀ l:List α,l.countP p<=l.countP q+l.countP r
  | []=>by simp
  |x :: l=>by
   have ih:=tq p q r h l;simp only[List.countP_cons];have hx:=h x;by_cases hp:p x=true
   ·rcases hx hp with hq |hr
    ·simp only[hp,hq,if_true];omega
    simp only[hp,hr,if_true];omega
   simp only[hp];simp only[Bool.false_eq_true,if_false];omega
theorem po(p:Nat):∀ n,(List.range n).countP (fun j=>j == p)<=(if p<n then 1 else 0)
  |0=>by simp
  |n+1=>by
   have ih:=po p n;rw[List.range_succ,List.countP_append,List.countP_singleton];by_cases h1:n=p
   ·subst h1;rw[if_neg (Nat.lt_irrefl _)]at ih;simp only[BEq.rfl,if_true];rw[if_pos (by omega)];omega
   rw[if_neg (by simpa using h1)];by_cases h2:p<n
   ·rw[if_pos h2]at ih;rw[if_pos (by omega)];exact ih
   rw[if_neg h2]at ih;rw[if_neg (by omega)];exact ih
theorem tv(l:List Mv)(x:Int)(xs:List Int):cY l xs<=cY l (x :: xs)+1:=by
  unfold cY;rw[<-List.countP_eq_length_filter,<-List.countP_eq_length_filter]
  have h1:=tq (fun j:Nat=>!(xs.contains (j:Int))) (fun j:Nat=>!((x :: xs).contains (j:Int))) (fun j=>j == x.toNat) (fun j hj=>by
    by_cases h:(j:Int)=x
    ·exact .inr (by simp[<-h])
    refine .inl ?_;simp only[Bool.not_eq_true',List.contains_eq_mem,decide_eq_false_iff_not,List.mem_cons,not_or]at hj ⊢;exact⟨h,hj⟩) (List.range l.length)
  have h2:=po x.toNat l.length;have h3:(if x.toNat<l.length then 1 else 0)<=1:=by split<;>omega
  omega
theorem xD(l:List Mv):∀ o:List Int,l.length<=cY l o+o.length
  | []=>by
    unfold cY;rw[List.filter_eq_self.2 (by simp)];simp
  |x :: xs=>by
   have h1:=xD l xs;have h2:=tv l x xs;simp only[List.length_cons];omega
theorem mf(l:List Mv):∀ o:List Int,cY l o+o.length<=l.length->o.Nodup
  | [],_=>List.nodup_nil
  |x :: xs,h=>by
   have h2:=tv l x xs;simp only[List.length_cons]at h;refine List.nodup_cons.2 ⟨fun hx=>?_,mf l xs (by omega)⟩
   have h3:cY l xs<=cY l (x :: xs):=zk (fun y hy=>by
     rcases List.mem_cons.1 hy with rfl |hy
     ·exact hx
     exact hy)
   have h4:=xD l xs;omega
theorem Cw{l:List Mv}{ks o:List Int}(h1:cY l ks+ks.length<=l.length)(h2:o.length<=ks.length)(h3:∀ x∈ks,x∈o):o.Nodup:=by
  have:=zk (l:=l) h3;exact mf l o (by omega)
end
section
open Tm Go.Proofs.YthgmimncdjhgnaaGreatDoor
def dN(o:List Int)(x:Int):Int:=if x∈o then(o.idxOf x:Int)else 0
def nameOf(l:List Mv)(i:Int):List UInt8:=match l[i.toNat]? with |some m=>m.name |none=>[]
def jE(l:List Mv)(o:List Int)(j:Int):Mv:=⟨nameOf l j,bX (dN o) (bP l (typeOf l j)),[]⟩
def fk(l:List Mv)(ts:List Tm):List Mv:=(lQ l ts).map (jE l (lQ l ts))
def fQ(l:List Mv)(ts:List Tm):List Tm:=if iz l ts=0 then(iy l ts).map (bX (dN (lQ l ts)))else []
theorem sI{l:List Mv}{p:Nat}(h:p<l.length):nameOf l (p:Int)=l[p].name:=by
  unfold nameOf;rw[show((p:Int)).toNat=p by omega,List.getElem?_eq_getElem h]
def r6(o:List Int):List (Value×Value):=o.zipIdx.map (fun x=>(.int .i64 x.1,.int .i64 (x.2:Int)))
theorem Ix(o:List Int)(j:Nat)(h:j<o.length):r6 (o.take (j+1))=r6 (o.take j)++[(.int .i64 o[j],.int .i64 (j:Int))]:=by
  unfold r6;rw[List.take_succ_eq_append_getElem h,List.zipIdx_append,List.map_append];simp[Nat.min_eq_left (Nat.le_of_lt h)]
theorem ri{o:List Int}{x:Value×Value}(h:x∈r6 o):∃(k:Nat)(hk:k<o.length),x=(.int .i64 o[k],.int .i64 (k:Int)):=by
  unfold r6 at h;obtain⟨⟨y,k⟩,hy,rfl⟩:=List.mem_map.1 h;have:=List.mem_zipIdx hy;obtain⟨_,h2,h3⟩:=this;refine⟨k,by simpa using h2,?_⟩;simp only[h3];simp
theorem Rj{o:List Int}{k:Nat}(h:k<o.length):(.int .i64 o[k],.int .i64 (k:Int))∈r6 o:=by
  unfold r6;refine List.mem_map.2 ⟨(o[k],k),?_,rfl⟩;have:=List.mk_mem_zipIdx_iff_getElem? (l:=o) (i:=k) (x:=o[k]);exact this.2 (List.getElem?_eq_getElem h)
end
end Go.LF
namespace Go.Proofs.YthgmimncdjhgnaaGreatDoor
section
open Go.RowKit Go.LF
theorem F3(W:World):(zeroValue 3).run Tryz.prog W=.ok (.int .i64 0) W:=by kernel_rfl
theorem wH(o:List Int):∀ x∈r6 o,MapKept.IsKey (.int .i64) x.1:=fun x hx=>by
  obtain⟨k,_,rfl⟩:=ri hx;rfl
theorem EW(o:List Int)(hn:o.Nodup)(M:Nat):RnL (dN o) M (r6 o):=by
  intro W x hM;unfold dN;by_cases hx:x∈o
  ·rw[if_pos hx];have hk:o.idxOf x<o.length:=List.idxOf_lt_length_iff.2 hx;have ky:o[o.idxOf x]=x:=List.getElem_idxOf hk;refine hM.get (P:=Tryz.prog) (kt:=3) (vt:=3) (key:=.int .i64 x) (by kernel_rfl) (by kernel_rfl) (wH o) rfl (fun v hv=>?_) ⟨_,Rj hk,by rw[ky]⟩ false;obtain⟨k,Cc,e⟩:=ri hv;simp only[Prod.mk.injEq,Value.int.injEq,true_and]at e;rw[e.2,(List.getElem_inj hn).1 (ky.trans e.1)]
  rw[if_neg hx];refine hM.none (P:=Tryz.prog) (kt:=3) (vt:=3) (key:=.int .i64 x) (by kernel_rfl) (by kernel_rfl) (F3 W) (wH o) rfl (fun y hy e=>?_) false;obtain⟨k,Cc,rfl⟩:=ri hy;simp only[Value.int.injEq,true_and]at e;exact hx (e ▸ List.getElem_mem Cc)
def o6(W:World)(a:Option Addr)(zs:List Tm):Prop:=
  ∀ i(_:i<zs.length),∃ g cs,a=some ⟨g,0,none⟩/\g<W.heap.size/\(∀ o,W.frozen? ⟨g,o,none⟩=false)/\cs.length=4/\(∀ m u,cs[m]? =some u->W.cell? ⟨g,i * 4+m,none⟩=some u)/\aw (fun b=>b=g) W zs[i].az cs
section
variable {W W':World}{a:Option Addr}{zs:List Tm}
theorem o6.kept(h:o6 W a zs)(hU:af ae W W'):o6 W' a zs:=by
  intro i hi;obtain⟨g,cs,h1,h2,h3,h4,h5,h6⟩:=h i hi;exact⟨g,cs,h1,Nat.lt_of_lt_of_le h2 hU.size,fun o=>by rw[hU.cells.2 g o h2 (fun x=>x)];exact h3 o,h4,fun m u hu=>hU.cell (h5 m u hu) (fun x=>x),h6.on hU⟩
theorem o6.start{T:TypeId}{O:Nat->Prop}{base n cap:Nat}{css:List (List Value)}(h:cS T 4 O base W (.slice a n cap) (zs.map Tm.az) css):o6 W a zs:=by
  intro i hi;obtain⟨a',c',hv,_,hc⟩:=h.cells;simp only[Value.slice.injEq]at hv;obtain⟨rfl,_,rfl⟩:=hv;have dZ:i<css.length:=by have:=h.1;simp at this;omega
  obtain⟨g,rfl,bq,hb,aB,hf,hg⟩:=hc i (by simpa using hi) dZ;have h6:=h.2.2.2 i (by simpa using hi) dZ;simp only[List.getElem_map]at h6;exact⟨g,css[i],rfl,aB,hf,h.2.1 _ (List.getElem_mem dZ),hg,aw.weaken (fun b _ e=>.inr (by rw[e];exact bq)) _ _ h6⟩
theorem o6.next{g j:Nat}{u:Tm}{d0 d1 d2 d3:Value}(h:o6 W (some ⟨g,0,none⟩) zs)(hj:j<zs.length)(hR:aw (fun b=>b=g) W u.az [d0,d1,d2,d3])
    (hW:W'=(((W.setCell ⟨g,j * 4,none⟩ d0).setCell ⟨g,j * 4+1,none⟩ d1).setCell ⟨g,j * 4+2,none⟩ d2).setCell ⟨g,j * 4+3,none⟩ d3):o6 W' (some ⟨g,0,none⟩) (zs.set j u)/\af (fun b=>b=g) W W':=by
  obtain⟨g',cs,e,aB,hf,nc,hc,_⟩:=h j hj;cases e
  have jG:∀ m,m<4->∃ u,W.cell? ⟨g,j * 4+m,none⟩=some u:=fun m hm=>⟨_,hc m _ (List.getElem?_eq_getElem (by rw[nc];exact hm))⟩
  obtain⟨_,u0⟩:=jG 0 (by omega);obtain⟨_,u1⟩:=jG 1 (by omega);obtain⟨_,u2⟩:=jG 2 (by omega);obtain⟨_,u3⟩:=jG 3 (by omega);obtain⟨⟨v0,v1,v2,v3⟩,mZ,hU⟩:=iv (d0:=d0) (d1:=d1) (d2:=d2) (d3:=d3) u0 u1 u2 u3 hW;refine⟨fun i hi=>?_,hU⟩;have dZ:i<zs.length:=by simpa using hi
  obtain⟨g',qs,e,kZ,hf',qI,AX,h7⟩:=h i dZ;cases e
  have tG:∀ o,W'.frozen? ⟨g,o,none⟩=false:=fun o=>by rw[hW];simp only[World.frozen?_setCell];exact hf o
  by_cases Bc:i=j
  ·subst Bc;refine⟨g,[d0,d1,d2,d3],rfl,Nat.lt_of_lt_of_le aB hU.size,tG,rfl,fun m x hx=>?_,?_⟩
   ·match m,hx with
    |0,hx=>cases hx;exact v0
    |1,hx=>cases hx;exact v1
    |2,hx=>cases hx;exact v2
    |3,hx=>cases hx;exact v3
   simp only[List.getElem_set_self];exact aw.ag hU (fun b e=>e) _ _ hR
  refine⟨g,qs,rfl,Nat.lt_of_lt_of_le aB hU.size,tG,qI,fun m x hx=>?_,?_⟩
  ·have hm:m<4:=by rw[<-qI];exact(List.getElem?_eq_some_iff.1 hx).1
   rw[mZ _ (by omega) (by omega) (by omega) (by omega)];exact AX m x hx
  rw[List.getElem_set_ne (by omega)];exact aw.ag hU (fun b e=>e) _ _ h7
end
end
section
open Go.RowKit Go.LF
theorem oS{t:Tm}(h:t.wf=0):t.size<=4096:=(Tm.dz h).2.1
def mC(E:Int)(ks:List Mv)(us:List Tm)(w:World)(e:Ending)(w':World):Prop:=
  ∃(ka ua:Option Addr)(kc uc:Nat),e=.returned (.tuple #[.slice ka ks.length kc,.slice ua us.length uc,.int .i64 E])/\(ks.length<=kc/\us.length<=uc)/\ai (fun b=>ua=some ⟨b,0,none⟩/\0<us.length) w' 6 (ks.map Mv.az) ka 0/\o6 w' ua us/\(∀ g,0<us.length->ua=some ⟨g,0,none⟩->w.heap.size<=g)/\af ae w w'
theorem mC.bad{E:Int}{ks:List Mv}{us:List Tm}{w w':World}{E':Int}(h1:E'=E)(h2:ks=[])(h3:us=[])(hU:af ae w w'):mC E ks us w (.returned (.tuple #[.slice none 0 0,.slice none 0 0,.int .i64 E'])) w':=by
  subst h1 h2 h3;exact⟨none,none,0,0,rfl,⟨Nat.le_refl _,Nat.le_refl _⟩,bT _ _ _ (fun i hi=>by simp at hi),fun i hi=>by simp at hi,fun g h=>by simp at h,hU⟩
theorem F2(l:List Mv)(hP:lf l)(ts:List Tm)(eB:∀ t∈ts,t.wt<=1000000/\(t.wf=0->(∀ i∈Tm.ay t,i<l.length)->Kn l.length t))(hlen:ts.length<=1000)(w:World)(la:Option Addr)(lc:Nat)(ta:Option Addr)(tc:Nat)(hL:ai ae w 6 (l.map Mv.az) la 0)(hT:ai ae w 4 (ts.map Tm.az) ta 0):
    Calls Tryz.prog 17 #[.slice la l.length lc,.slice ta ts.length tc] w (mC (iz l ts) (fk l ts) (fQ l ts) w):=by
  have FI:=@run_makeMap Tryz.prog;obtain⟨i0,hi,fS,gn,eH⟩:=info_parts qR;have AL:=Cl ae l hP.uX ts eB hlen w (fun _ e=>e.elim) la lc ta tc hL hT;have tK:=@wS l hP ts;have cK:=uJ l ts;have SX:=jS l ts;obtain⟨E,hE⟩:∃ E,E=iz l ts:=⟨_,rfl⟩;obtain⟨KS,ti⟩:∃ K,K=fk l ts:=⟨_,rfl⟩;obtain⟨US,B4⟩:∃ U,U=fQ l ts:=⟨_,rfl⟩;rw[<-hE,<-ti,<-B4];unfold fk at ti;unfold fQ at B4;obtain⟨O,hO⟩:∃ O,O=lQ l ts:=⟨_,rfl⟩;rw[<-hO]at ti B4;rw[<-hE]at B4;unfold lQ at hO;rw[<-hE]at hO;unfold iz at hE;unfold IU at hE hO
  have acF:iU l ts=0->∀ u∈iy l ts,u.wf=0:=fun h u hu=>by
    unfold iy at hu;rw[if_pos h]at hu;obtain⟨t,ht,rfl⟩:=List.mem_map.1 hu;exact(iZ hP (SX h t ht)).1
  generalize iU l ts=A at *
  generalize iy l ts=us at *
  obtain⟨S,hS⟩:∃ S,S=iS l l.length us ⟨[],0⟩:=⟨_,rfl⟩;have OP:=fun(W:World)(h1:af ae w W)ua uc h2=>LO l hP us tK (by omega) W la lc ua uc (hL.on h1) h2
  rw[<-hS]at hE hO OP;have HE:=ak (And.intro hE (And.intro hO (And.intro ti B4)));have Fv:=ak (And.intro cK (And.intro tK acF));obtain⟨ll,du⟩:∃ ll,ll=l.length:=⟨_,rfl⟩;rw[<-du]at AL;rw[<-du];have yC:=ak du;have kA:=ai.aG _ _ _ _ hL;clear hE hO hS ti B4 tK cK du hL hT SX acF;go_enter Tryz.func17,Tryz.ntmps17;go_wp2_with fail
  (with_reducible refine AL.mono ?_);rintro e w2 ⟨ua,uc,rfl,EI,Vd,aL,af3,PH⟩;by_cases hA:A=0
  case neg=>
    have he:(A !=0)=true:=by simpa using hA
    have h1:E=A:=by rw[HE.out.1,if_pos hA]
    have h2:O=[]:=by rw[HE.out.2.1,if_neg (by rw[h1];exact hA)]
    have h3:KS=[]:=by rw[HE.out.2.2.1,h2];rfl
    have h4:US=[]:=by rw[HE.out.2.2.2,if_neg (by rw[h1];exact hA)]
    have HF:=ak (And.intro h1 (And.intro h3 h4));clear h1 h2 h3 h4 hA OP AL;go_wp2_with fail;refine bodyPost_ret (v:=.tuple #[.slice none 0 0,.slice none 0 0,.int .i64 A]) (by simp[results,Tryz.f17,go_sem]) rfl ?_;exact mC.bad HF.out.1.symm HF.out.2.1 HF.out.2.2 aL
  case pos=>
    subst hA;have h1:E=S.e:=by rw[HE.out.1,if_neg (by simp)]
    have BL:=ak h1;have NH:=Fv.out.2.2 rfl;have KR:=ak NH;have OPx:=OP w2 aL ua uc Vd;rw[<-yC.out]at OPx;obtain⟨ul,cZ⟩:∃ ul,ul=us.length:=⟨_,rfl⟩;rw[<-cZ]at OPx;rw[<-cZ];have BO:=ak cZ;have hZ:=o6.start PH
    have hug:∀ g,0<us.length->ua=some ⟨g,0,none⟩->w.heap.size<=g/\g<w2.heap.size:=fun g h e=>by
      obtain⟨a',c',EC,_,hc⟩:=PH.cells;simp only[Value.slice.injEq]at EC;obtain⟨rfl,_,rfl⟩:=EC;obtain⟨g',e',_,g1,g2,_⟩:=hc 0 (by simpa using h) (by have:=PH.1;simp at this;omega);rw[e]at e';cases e'
      exact⟨g1,g2⟩
    have QC:=ak hug;clear hug;clear h1 AL OP cZ PH Vd NH;go_wp2_with fail
    (with_reducible refine OPx.mono ?_);rintro e w3 ⟨tb,eb,lb,vb,ob,M,base,ks,o,fZ,ov,x,rfl,hV,Oz,hs,aZ⟩;obtain⟨oa,oc,rfl,Hu,hOe⟩:=cO hV.row.rep;have hx:x=S.e:=hs.1.symm;have HX:=ak hx;have HS:=ak hs;clear hs hx OPx;by_cases ZG:x=0
    case neg=>
      have he:(x !=0)=true:=by simpa using ZG
      have h1:E=x:=by rw[BL.out,HX.out]
      have h2:O=[]:=by rw[HE.out.2.1,if_neg (by rw[h1];exact ZG)]
      have h3:KS=[]:=by rw[HE.out.2.2.1,h2];rfl
      have h4:US=[]:=by rw[HE.out.2.2.2,if_neg (by rw[h1];exact ZG)]
      have HF:=ak (And.intro h1 (And.intro h3 h4));clear h1 h2 h3 h4 ZG;go_wp2_with fail;refine bodyPost_ret (v:=.tuple #[.slice none 0 0,.slice none 0 0,.int .i64 x]) (by simp[results,Tryz.f17,go_sem]) rfl ?_;exact mC.bad HF.out.1.symm HF.out.2.1 HF.out.2.2 (aL.and aZ)
    case pos=>
      subst ZG;have h1:E=0:=by rw[BL.out,<-HX.out]
      have h2:O=o:=by rw[HE.out.2.1,if_pos h1];exact(HS.out.2 rfl).1
      have Wh:=(HS.out.2 rfl).2;have JV:o.Nodup:=Cw hV.Oy hV.ol (fun y hy=>((Wh y).1 hy).elim id (fun h=>by cases h));have h3:KS=o.map (jE l o):=by rw[HE.out.2.2.1,h2]
      have h4:US=us.map (bX (dN o)):=by rw[HE.out.2.2.2,if_pos h1,h2]
      have Uj:o.length<=40:=by have:=hV.Oy;have:=hV.ol;have:=hP.len;omega
      have lO:∀ y∈o,y∈ks:=fun y hy=>(Wh y).2 (.inl hy)
      obtain⟨tO,B0⟩:∃ n,n=o.length:=⟨_,rfl⟩;rw[<-B0]at Uj Hu;rw[<-B0];have HF:=ak (And.intro h1 (And.intro h3 h4));have ox:=ak (And.intro B0 (And.intro JV lO));have hLK:=EW o JV;have HLK:=ak hLK;have cQ:=aL.and aZ;have Kc:=ai.aG _ _ _ _ hOe;have hZ3:=hZ.kept aZ;have xP:=(ai.aG _ _ _ _ kA).on cQ;have ON:=hV.on ((af.refl ae w3).alloc (.map #[] 0));have xK:=fT.made w3;obtain⟨w4,eh⟩:∃ w4,w4=w3.alloc (.map #[] 0):=⟨_,rfl⟩;rw[<-eh]at ON xK;have bw:af ae w3 w4:=by rw[eh];exact(af.refl ae w3).alloc _
      obtain⟨N,hN⟩:∃ N,N=w3.heap.size:=⟨_,rfl⟩;rw[<-hN]at xK Kc;have HN:=ak hN;have Lk:=ak eh;have KU:=Kc.on bw;have hMm:=hV.map;have Nv:=hV.lk;have uk:=hV.val;have Lo:=hV.Yf;have LG:=hV.isKey;have KY:=hV.Td;have hMN:M<N:=by rw[hN];exact hV.map.lt
      clear h1 h2 h3 h4 B0 JV lO Wh hLK eh hN hV hOe hZ Kc;go_upto_region 8 with fail;rw[<-Lk.out,<-HN.out];clear FI;go_wp2_with fail
      go_loopw [41] (fun v41 wr=>∃(j:Nat),v41=.int .i64 (j:Int)/\j<=tO/\fT wr N (r6 (o.take j))/\af (fun b=>b=N) w4 wr)
        (fun v41 _=>tO - (intOf v41).toNat)
      case atStart=>exact⟨0,rfl,Nat.zero_le _,xK,af.refl _ _⟩
      obtain⟨j,rfl,hj,XW,hU⟩:=hrel;have BW:(j:Int)<=40:=by omega
      by_cases aB:j<tO
      ·have b7:j<o.length:=by have:=ox.out.1;omega
       obtain⟨b,zt,rfl,Wq,_,jG⟩:=eX (ai.ag hU (fun b e=>.inr (Nat.le_of_eq e.symm)) _ _ _ _ KU) j b7;have Dp:(j:Int)<(tO:Int):=by omega
       have jd:=Ix o j b7
       have ql:∀ x∈r6 (o.take j),x.1≠.int .i64 o[j]:=fun x hx e=>by
         obtain⟨k,hk,rfl⟩:=ri hx;simp only[Value.int.injEq,true_and]at e;have yJ:k<j:=by simp at hk;omega
         rw[List.getElem_take]at e;have:=(List.getElem_inj ox.out.2.1).1 e;omega
       obtain⟨w7,Ol,Po,g7,hz7⟩:=XW.put (P:=Tryz.prog) (mt:=94) (kt:=3) (vt:=3) (key:=.int .i64 o[j]) (by kernel_rfl) (by kernel_rfl) (wH _) rfl ql (.int .i64 (j:Int));rw[<-jd]at Po;have cm:=hU.trans (qb g7) (fun _ _ e=>e);have HM7:=ak (And.intro Po cm);generalize o[j]=y at *
       clear Po cm jd ql g7 XW;go_wp2_with fail;go_roundw;case rel=>exact⟨j+1,by go_num,by omega,HM7.out.1,HM7.out.2⟩
       simp[intOf];omega
      have rG:o.take j=o:=List.take_of_length_le (by have:=ox.out.1;omega);rw[rG]at XW;obtain⟨w5,rfl⟩:∃ q,q=wr:=⟨wr,rfl⟩;have LM:=ai.ag hU (fun b e=>.inr (Nat.le_of_eq e.symm)) _ _ _ _ KU;have Lh:af (fun b=>b=N) w3 w5:=(bw.mono (fun _ _ e=>e.elim)).trans hU (fun _ _ e=>e);have rT:af ae w w5:=cQ.trans Lh (fun b hb e=>by have h1:=HN.out;have h2:=cQ.size;omega);have Y1:=ai.aG _ _ _ _ (ai.ag Lh (fun b e=>.inr (by have:=HN.out;have:=cQ.size;omega)) _ _ _ _ xP);have GG:=hMm.on Lh (fun e=>by omega)
      have Q6:∀ x∈fZ,zK l ae w5 x:=fun x hx=>by
        obtain⟨ix,kx,xx,nx,ax,lx,cx,e,h⟩:=uk x hx;exact⟨ix,kx,xx,nx,ax,lx,cx,e,aw.weaken (fun _ _ e=>e.elim) _ _ (aw.ag Lh (fun b e=>.inr (by have:=HN.out;omega)) _ _ (aw.fR h))⟩
      have YP:=hZ3.kept (Lh.mono (S':=ae) (fun b hb e=>by have:=HN.out;omega));have HMj:=ak XW;have HZ5:=ak YP;have HV5:=ak (And.intro Q6 (And.intro Nv (And.intro Lo (And.intro LG KY))));obtain⟨B5,Jr⟩:∃ B5,B5=w5.heap.size:=⟨_,rfl⟩;have YT:=ak Jr;have Zu:=ai.aG _ _ _ _ LM;have Kh:N<B5:=by have h1:=XW.lt;omega
      rw[<-Jr]at Zu Y1;clear hMm uk Nv Lo LG KY Q6 YP hZ3 xP KU xK XW LM ON;go_wp2_with fail
      go_loopw [14,52] (fun E9 v52 wr=>∃(j:Nat)(css:List (List Value)),v52=.int .i64 (j:Int)/\j<=tO/\cS 96 6 (fun b=>b<B5) B5 wr E9 (((o.take j).map (jE l o)).map Mv.az) css/\af ae w5 wr)
        (fun _ v52 _=>tO - (intOf v52).toNat)
      case atStart=>exact⟨0,[],rfl,Nat.zero_le _,cS.nil _ _ _ _ _,af.refl _ _⟩
      obtain⟨j,css,rfl,hj,hD,iB⟩:=hrel;obtain⟨vv,sO⟩:∃ v,v=u14:=⟨_,rfl⟩;rw[<-sO]at hD;rw[<-sO];have HVV:=ak sO;have BW:(j:Int)<=40:=by omega
      have fE:(((o.take j).map (jE l o)).map Mv.az).length=j:=by have:=ox.out.1;simp;omega
      have G5:B5<=wr.heap.size:=by have:=iB.size;have:=YT.out;omega
      clear sO;by_cases aB:j<tO
      ·have b7:j<o.length:=by have:=ox.out.1;omega
       obtain⟨b,zt,rfl,Wq,_,jG⟩:=eX (Zu.on iB) j b7;have Dp:(j:Int)<(tO:Int):=by omega
       have eQ:((o.take (j+1)).map (jE l o)).map Mv.az=((o.take j).map (jE l o)).map Mv.az++[(jE l o o[j]).az]:=by rw[List.take_succ_eq_append_getElem b7,List.map_append,List.map_append];rfl
       have hyk:=ox.out.2.2 _ (List.getElem_mem b7);have EP:=ak eQ;generalize o[j]=y at *
       obtain⟨Q6,Nv,Lo,LG,KY⟩:=HV5.out;obtain⟨y0,y1⟩:=KY y hyk;obtain⟨p,rfl⟩:∃ p:Nat,y=(p:Int):=⟨y.toNat,by omega⟩;have jB:p<l.length:=by omega
       obtain⟨b2,o2,k2,n2,wV,uP,fP,Ca,zw,rfl,VR,tI,⟨d0,_,_,_,_,_⟩,_,_,_⟩:=ja (Y1.on iB) p jB;rw[<-sI jB]at d0;obtain⟨x,hx,JM⟩:=(Nv (p:Int)).1 hyk;obtain⟨ix,kx,xx,nx,ax,lx,cx,Rc,hRx⟩:=Q6 x hx;have YU:ix=(p:Int):=by rw[Rc]at JM;cases JM;rfl
       rw[YU]at hRx Rc;have hd:af ae wr wr.drew:=(af.refl ae wr).drew;have Cr:=iB.and hd
       have ky:=(GG.on Cr (fun x=>x)).get (P:=Tryz.prog) (mt:=87) (kt:=3) (vt:=29) (key:=.int .i64 (p:Int)) (val:=.agg #[.int .i64 kx,.string (B nx),.int .i64 xx,.slice ax lx cx]) (by kernel_rfl) (by kernel_rfl) LG rfl
         (fun v hv=>by have:=Lo _ hv x hx JM.symm;rw[<-this]at Rc;exact(Prod.ext_iff.1 Rc).2) ⟨x,hx,JM⟩ false
       have Rm:(bP l (typeOf l (p:Int))).size<=900000:=by
         by_cases he:ep l (typeOf l (p:Int))=0
         ·have:=(oS (iZ hP he).1);omega
         unfold bP;rw[if_neg he];decide
       have RN:=qK (dN o) N (r6 o) (HLK.out N) _ Rm wr.drew _ (HMj.out.on Cr (fun x=>x)) (hRx.on Cr);have MZ:jE l o (p:Int)=⟨nameOf l (p:Int),bX (dN o) (bP l (typeOf l (p:Int))),[]⟩:=rfl;rw[MZ]at eQ;generalize bX (dN o) (bP l (typeOf l (p:Int)))=X at *
       generalize nameOf l (p:Int)=nm at *
       have afN:=ak eQ;have LH:(p:Int)<((l.length:Nat):Int):=by omega
       have Dw:ll=l.length:=yC.out;rw[<-Dw]at LH;have HO:∀ b,b<B5->b<B5:=fun _ e=>e
       have IM:=hD.on hd HO
       have mk:=fun(w6:World)(bj:af ae wr.drew w6)(k6 i6:Int)(n6:List UInt8)(a6:Option Addr)(l6 c6:Nat)=>show(w6.alloc (.cells #[.string (B nm),.int .i64 k6,.string (B n6),.int .i64 i6,.slice a6 l6 c6,.slice none 0 0] 96)).ownsRow B5 96 6 vv j css.flatten/\B5<=w6.heap.size from by
         have h:=(IM.on (bj.and ((af.refl ae w6).alloc (.cells #[.string (B nm),.int .i64 k6,.string (B n6),.int .i64 i6,.slice a6 l6 c6,.slice none 0 0] 96))) HO).2.2.1;rw[fE]at h;exact⟨h,Nat.le_trans G5 bj.size⟩
       have Kv:¬some b2=vv.ownBlock:=fun e=>tI (.inr (hD.2.2.1.lt b2 e.symm).1)
       have HMK:=ak mk;have Kk:=ak IM;have d0':=hd.cell d0 (fun x=>x);clear mk eQ MZ Rc hx JM hRx YU Rm Lo Nv LG KY Q6 hyk y0 y1 IM hD Dw;go_upto_region 17 with fail
       go_region_held3 (fun w'=>w'.cell? ⟨b2,o2+p * 6,none⟩=some (.string (B nm))) (first |(with_reducible assumption)|(with_reducible exact d0')|(with_reducible exact s6)|(with_reducible exact W6)|(with_reducible exact s7)) (first
         |((go_at_call 62);(with_reducible refine RN.mono ?_);rintro e w6 ⟨k6,i6,n6,a6,l6,c6,rfl,dg,bj⟩;have s6:=bj.cell d0' (fun x=>x);have W6:=((af.refl ae w6).alloc (.cells #[.string (B nm),.int .i64 k6,.string (B n6),.int .i64 i6,.slice a6 l6 c6,.slice none 0 0] 96)).cell s6 (fun x=>x);obtain⟨qH,DN⟩:=HMK.out w6 bj k6 i6 n6 a6 l6 c6)
         |(refine step_append_lies _ (by rfl) _ _ 23 (by rfl) B5 96 i0 (.agg #[.string (B []),.int .i64 0,.string (B []),.int .i64 0,.slice none 0 0,.slice none 0 0]) 6 96 (by kernel_rfl) hi fS gn eH rfl (by decide) vv j css.flatten (by rfl) qH ⟨w6.heap.size,0,none⟩ 1 1 [.string (B nm),.int .i64 k6,.string (B n6),.int .i64 i6,.slice a6 l6 c6,.slice none 0 0] (by rfl) rfl (World.news_of_block (heap_alloc_new w6 _)) (by simp[Value.oneCell']) (by omega) (by simp only[maxLen];omega) (by omega) (by simp;omega) _ rfl ?_;intro g aS w7 bq aN ft xY;have s7:=aN.cell W6 Kv))
       all_goals
         have cK:=(af.refl ae w6).alloc (.cells #[.string (B nm),.int .i64 k6,.string (B n6),.int .i64 i6,.slice a6 l6 c6,.slice none 0 0] 96);have rM:=Kk.out.on (bj.and cK) (fun _ e=>e)
         have A8:aw (fun b=>b<B5\/vv.ownBlock=some b) (w6.alloc (.cells #[.string (B nm),.int .i64 k6,.string (B n6),.int .i64 i6,.slice a6 l6 c6,.slice none 0 0] 96)) (Mv.az ⟨nm,X,[]⟩) [.string (B nm),.int .i64 k6,.string (B n6),.int .i64 i6,.slice a6 l6 c6,.slice none 0 0]:=by
           refine jF.2 ⟨[.int .i64 k6,.string (B n6),.int .i64 i6,.slice a6 l6 c6],none,0,rfl,(aw.weaken (fun b _ e=>?_) _ _ dg).on cK,Nat.le_refl _,by simp only[List.map_nil,ai]⟩;show b<wr.heap.size;rcases e with e |e
           ·omega
           exact(Kk.out.2.2.1.lt b e).2
         have gE:w7.ownsRow B5 96 6 (.slice (some ⟨g,0,none⟩) ((((o.take j).map (jE l o)).map Mv.az).length+1) aS) ((((o.take j).map (jE l o)).map Mv.az).length+1) (css.flatten++[.string (B nm),.int .i64 k6,.string (B n6),.int .i64 i6,.slice a6 l6 c6,.slice none 0 0]):=by rw[fE];exact bq
         have NK:=rM.appended (d:=Mv.az ⟨nm,X,[]⟩) rfl A8 gE aN ft (Nat.le_refl _);rw[fE,<-afN.out]at NK;have cm:af ae w5 w7:=(((iB.and hd).and bj).and cK).trans (ck aN) (fun b hb e=>by have:=(rM.2.2.1.lt b e).1;have:=YT.out;omega);have HR:=ak (And.intro NK cm);clear NK cm gE A8 bq aN ft rM dg bj s6 W6 s7 qH;go_wp2_with fail;go_roundw;case rel=>exact⟨j+1,_,by go_num,by omega,HR.out.1,HR.out.2⟩
         simp[intOf];omega
      have WJ:o.take j=o:=List.take_of_length_le (by have:=ox.out.1;omega);rw[WJ,<-HF.out.2.1]at hD fE;obtain⟨va,vc,hv,fp,TW⟩:=hD.rep (fun _ e=>e);rw[fE]at hv fp;subst hv;obtain⟨w6,rfl⟩:∃ q,q=wr:=⟨wr,rfl⟩;have hZ6:=HZ5.out.kept iB;have yB:=HMj.out.on iB (fun x=>x);have HKF:=ak (And.intro TW (And.intro fp fE));have hnN:∀ g,0<us.length->ua=some ⟨g,0,none⟩->g<N:=fun g h e=>by have h1:=QC.out g h e;have h2:=aZ.size;have h3:=HN.out;omega
      have HNN:=ak hnN;clear TW fp fE hD hnN;go_wp2_with fail
      go_loopw [73] (fun v73 wr=>∃(j:Nat),v73=.int .i64 (j:Int)/\j<=ul/\o6 wr ua ((us.take j).map (bX (dN o))++us.drop j)/\af (fun b=>ua=some ⟨b,0,none⟩/\0<us.length) w6 wr)
        (fun v73 _=>ul - (intOf v73).toNat)
      case atStart=>exact⟨0,rfl,Nat.zero_le _,by simpa using hZ6,af.refl _ _⟩
      obtain⟨i,rfl,Bc,JZ,cm⟩:=hrel;have him:(i:Int)<=1000:=by have:=BO.out;have:=Fv.out.1;omega
      by_cases N4:i<ul
      ·have As:i<us.length:=by have:=BO.out;omega
       have cZ:i<((us.take i).map (bX (dN o))++us.drop i).length:=by simp;omega
       obtain⟨g,cs,rfl,px,sR,Km,iQ,pw⟩:=JZ i cZ
       have ky:((us.take i).map (bX (dN o))++us.drop i)[i]=us[i]:=by
         rw[List.getElem_append_right (by simp;omega)];simp only[List.length_map,List.length_take,List.getElem_drop];congr 1;omega
       have ah:((us.take i).map (bX (dN o))++us.drop i).set i (bX (dN o) us[i])=(us.take (i+1)).map (bX (dN o))++us.drop (i+1):=by
         rw[List.set_append_right _ _ (by simp;omega),List.drop_eq_getElem_cons As,List.take_succ_eq_append_getElem As];simp only[List.length_map,List.length_take,Nat.min_eq_left (Nat.le_of_lt As),Nat.sub_self,List.set_cons_zero,List.map_append,List.map_cons,List.map_nil,List.append_assoc,List.singleton_append]
       rw[ky]at pw;have hgN:=HNN.out g (by omega) rfl;have WN:=oS (KR.out _ (List.getElem_mem As));obtain⟨ek,en,ex,ets,ea,ec,hut,rfl,_,_⟩:=aP pw;generalize ets.length=el at *
       have p0:=iQ 0 _ rfl;rw[Nat.add_zero]at p0;have p1:=iQ 1 _ rfl;have p2:=iQ 2 _ rfl;have p3:=iQ 3 _ rfl;obtain⟨w7,rJ⟩:∃ w7,w7=wr.alloc (.cells #[.int .i64 ek,.string (B en),.int .i64 ex,.slice ea el ec] 29):=⟨_,rfl⟩;have dM:af ae wr w7:=by rw[rJ];exact(af.refl ae wr).alloc _
       have Jz:au w7 wr.heap.size (.int .i64 ek) (.string (B en)) (.int .i64 ex) (.slice ea el ec) 29:=by rw[rJ];exact au.av rfl
       have Po:=(yB.on cm (fun e=>by have h1:=e.1;cases h1;omega)).on dM (fun x=>x);have RN:=qK (dN o) N (r6 o) (HLK.out N) us[i] (by omega) w7 _ Po ((aw.weaken (fun _ _ e=>e.elim) _ _ pw).on dM);have jZ:=ak ah;generalize bX (dN o) us[i]=X at *
       have hib:(i:Int)<(ul:Int):=by omega
       obtain⟨P,KV⟩:∃ P,P=wr.heap.size:=⟨_,rfl⟩;rw[<-KV]at Jz;have Ya:=ak KV;have KI:=ak rJ;clear rJ KV ah ky hut WN pw Po Km;go_upto_region 22 with fail;rw[<-Ya.out,<-KI.out];obtain⟨b0,b1,b2,b3⟩:=Jz.cells;have q0:=dM.cell p0 (fun x=>x);clear p1 p2 p3;go_wp2_with fail
       (with_reducible refine RN.mono ?_);rintro e w8 ⟨k8,i8,n8,a8,l8,c8,rfl,p8,cW⟩;have Bz:=dM.and cW;have hZ8:=JZ.kept Bz;have v0:=Bz.cell p0 (fun x=>x);have v1:=Bz.cell (iQ 1 _ rfl) (fun x=>x);have v2:=Bz.cell (iQ 2 _ rfl) (fun x=>x);have v3:=Bz.cell (iQ 3 _ rfl) (fun x=>x);have f8:=fun o=>(Bz.cells.2 g o px (fun x=>x)).trans (sR o)
       have aeR:g<w8.heap.size:=Nat.lt_of_lt_of_le px Bz.size;have jd:=o6.next (u:=X) (d0:=.int .i64 k8) (d1:=.string (B n8)) (d2:=.int .i64 i8) (d3:=.slice a8 l8 c8) hZ8 cZ (aw.weaken (fun b _ e=>by have:=dM.size;omega) _ _ p8) rfl;rw[jZ.out]at jd;have jz:af (fun b=>(some ⟨g,0,none⟩:Option Addr)=some ⟨b,0,none⟩/\0<us.length) w6 _:=(cm.trans Bz (fun _ _ e=>e.elim)).trans jd.2 (fun b _ e=>⟨by rw[e],by omega⟩);have Lc:=ak (And.intro jd.1 jz);clear jd jz hZ8 JZ p8 cW Bz b0 b1 b2 b3 q0 RN Jz iQ sR p0;go_wp2_with fail;go_roundw;case rel=>exact⟨i+1,by go_num,by omega,Lc.out.1,Lc.out.2⟩
       simp[intOf];omega
      have Zl:i=us.length:=by have:=BO.out;omega
      rw[Zl,List.take_length,List.drop_length,List.append_nil,<-HF.out.2.2]at JZ;have YK:US.length=ul:=by rw[HF.out.2.2,List.length_map];exact BO.out.symm
      have tg:=ak (And.intro JZ YK);clear JZ YK Zl;go_wp2_with fail;refine bodyPost_ret (v:=.tuple #[.slice va j vc,.slice ua ul uc,.int .i64 0]) (by simp[results,Tryz.f17,go_sem]) rfl ?_;obtain⟨TW,fp,fE⟩:=HKF.out;rw[List.length_map]at fE;have WG:US.length=us.length:=by rw[tg.out.2];exact BO.out
      refine⟨va,ua,vc,uc,by rw[fE,tg.out.2,HF.out.1],⟨by rw[fE];exact fp,by rw[tg.out.2];have:=BO.out;omega⟩,?_,tg.out.1,fun g h e=>(QC.out g (by omega) e).1,?_⟩
      ·exact ai.weaken (fun b _ e=>by have h1:=HNN.out b (by have:=e.2;omega) e.1;omega) _ _ _ _ (ai.ag cm (fun b e=>by
         have h1:=HNN.out b e.2 e.1;omega) _ _ _ _ TW)
      exact(rT.and iB).trans cm (fun b hb e=>by have h1:=QC.out b e.2 e.1;omega)
end
end Go.Proofs.YthgmimncdjhgnaaGreatDoor
