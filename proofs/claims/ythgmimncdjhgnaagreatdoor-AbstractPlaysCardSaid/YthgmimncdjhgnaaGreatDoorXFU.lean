/- abstract.kP, U0 aaY; a row of zp wh is written in place, sU first of abu outside other blocks too. -/
import Derived.Test.YthgmimncdjhgnaaGreatDoorXFS
set_option maxRecDepth 100000
set_option maxHeartbeats 16000000
namespace Go.Proofs.YthgmimncdjhgnaaGreatDoor
open Go.RowKit Go.LF
def js(O:Nat->Prop)(d:Nat)(W:World)(a:Option Addr)(zs:List Tm):Prop:=
  ∀ i(_:i<zs.length),∃ g cs,a=some ⟨g,0,none⟩/\g<W.heap.size/\(∀ o,W.frozen? ⟨g,o,none⟩=false)/\cs.length=4/\(∀ m u,cs[m]? =some u->W.cell? ⟨g,i * 4+m,none⟩=some u)/\aw (fun b=>b=g\/(i<d/\O b)) W zs[i].az cs
section
variable {O:Nat->Prop}{d:Nat}{W W':World}{a:Option Addr}{zs:List Tm}
theorem js.start(h:o6 W a zs):js O 0 W a zs:=by
  intro i hi;obtain⟨g,cs,h1,h2,h3,h4,h5,h6⟩:=h i hi;exact⟨g,cs,h1,h2,h3,h4,h5,aw.weaken (fun b _ e=>e.elim id (fun e=>absurd e.1 (by omega))) _ _ h6⟩
theorem js.kept(h:js O d W a zs)(hU:af ae W W'):js O d W' a zs:=by
  intro i hi;obtain⟨g,cs,h1,h2,h3,h4,h5,h6⟩:=h i hi;exact⟨g,cs,h1,Nat.lt_of_lt_of_le h2 hU.size,fun o=>by rw[hU.cells.2 g o h2 (fun x=>x)];exact h3 o,h4,fun m u hu=>hU.cell (h5 m u hu) (fun x=>x),h6.on hU⟩
theorem js.put{g j d':Nat}{u:Tm}{d0 d1 d2 d3:Value}(h:js O d W (some ⟨g,0,none⟩) zs)(hj:j<zs.length)(hR:aw (fun b=>b=g\/(j<d'/\O b)) W u.az [d0,d1,d2,d3])(hd:∀ i,i≠j->i<d'->i<d)
    (hW:W'=(((W.setCell ⟨g,j * 4,none⟩ d0).setCell ⟨g,j * 4+1,none⟩ d1).setCell ⟨g,j * 4+2,none⟩ d2).setCell ⟨g,j * 4+3,none⟩ d3):js O d' W' (some ⟨g,0,none⟩) (zs.set j u)/\af (fun b=>b=g) W W':=by
  obtain⟨g',cs,e,aB,hf,nc,hc,_⟩:=h j hj;cases e
  have jG:∀ m,m<4->∃ u,W.cell? ⟨g,j * 4+m,none⟩=some u:=fun m hm=>⟨_,hc m _ (List.getElem?_eq_getElem (by rw[nc];exact hm))⟩
  obtain⟨_,u0⟩:=jG 0 (by omega);obtain⟨_,u1⟩:=jG 1 (by omega);obtain⟨_,u2⟩:=jG 2 (by omega);obtain⟨_,u3⟩:=jG 3 (by omega);obtain⟨⟨v0,v1,v2,v3⟩,mZ,hU⟩:=iv (d0:=d0) (d1:=d1) (d2:=d2) (d3:=d3) u0 u1 u2 u3 hW;refine⟨fun i hi=>?_,hU⟩;have dZ:i<zs.length:=by simpa using hi
  obtain⟨g',qs,e,kZ,hf',qI,AX,h7⟩:=h i dZ;cases e
  have tG:∀ o,W'.frozen? ⟨g,o,none⟩=false:=fun o=>by rw[hW];simp only[World.frozen?_setCell];exact hf o
  by_cases Bc:i=j
  ·subst Bc;refine⟨g,[d0,d1,d2,d3],rfl,Nat.lt_of_lt_of_le aB hU.size,tG,rfl,fun m x hx=>?_,?_⟩
   ·match m,hx with
    |0,hx=>cases hx;exact v0
    |1,hx=>cases hx;exact v1
    |2,hx=>cases hx;exact v2
    |3,hx=>cases hx;exact v3
   simp only[List.getElem_set_self];exact aw.ag hU (fun b e=>.inl e) _ _ hR
  refine⟨g,qs,rfl,Nat.lt_of_lt_of_le aB hU.size,tG,qI,fun m x hx=>?_,?_⟩
  ·have hm:m<4:=by rw[<-qI];exact(List.getElem?_eq_some_iff.1 hx).1
   rw[mZ _ (by omega) (by omega) (by omega) (by omega)];exact AX m x hx
  rw[List.getElem_set_ne (by omega)];exact aw.ag hU (fun b e=>.inl e) _ _ (aw.weaken (fun b _ e=>e.elim .inl (fun e=>.inr ⟨hd i Bc e.1,e.2⟩)) _ _ h7)
theorem js.open(h:js O d W a zs){j:Nat}(hj:j<zs.length):∃ g k n i b c,a=some ⟨g,0,none⟩/\g<W.heap.size/\(∀ o,W.frozen? ⟨g,o,none⟩=false)/\
    (W.cell? ⟨g,j * 4,none⟩=some (.int .i64 k)/\W.cell? ⟨g,j * 4+1,none⟩=some (.string (B n))/\W.cell? ⟨g,j * 4+2,none⟩=some (.int .i64 i)/\W.cell? ⟨g,j * 4+3,none⟩=some (.slice b zs[j].args.length c))/\
    aw (fun b=>b=g\/(j<d/\O b)) W zs[j].az [.int .i64 k,.string (B n),.int .i64 i,.slice b zs[j].args.length c]:=by
  obtain⟨g,cs,h1,h2,h3,h4,h5,h6⟩:=h j hj;obtain⟨k,n,i,ts,b,c,e,rfl,_,_⟩:=aP h6;have e2:zs[j].args.length=ts.length:=by rw[e];rfl
  rw[e2];exact⟨g,k,n,i,b,c,h1,h2,h3,⟨by simpa using h5 0 _ rfl,h5 1 _ rfl,h5 2 _ rfl,h5 3 _ rfl⟩,h6⟩
theorem js.rep(h:js O d W a zs)(hO:∀ g,0<zs.length->a=some ⟨g,0,none⟩->¬O g)(hd:zs.length<=d):ai O W 4 (zs.map Tm.az) a 0:=by
  refine bT _ _ _ (fun i hi=>?_);simp only[List.length_map]at hi;obtain⟨g,cs,rfl,aB,_,nc,hc,h7⟩:=h i hi;refine⟨g,0,cs,rfl,aB,hO g (by omega) rfl,nc,fun m u hu=>?_,?_⟩
  ·rw[show 0+0+i * 4+m=i * 4+m by omega];exact hc m u hu
  simp only[List.getElem_map];exact aw.weaken (fun b _ e=>.inr ⟨by omega,e⟩) _ _ h7
end
theorem nD(E:Int)(w:World):Calls Tryz.prog 65 #[.int .i64 E] w fun e w'=>e=.returned (.tuple #[.agg #[.int .i64 0,.string (B []),.int .i64 0,.slice none 0 0],.slice none 0 0,.int .i64 0,.int .i64 E])/\af ae w w':=by
  obtain⟨w1,aF⟩:∃ w1,w1=w.alloc (.cells #[.int .i64 0,.string (B []),.int .i64 0,.slice none 0 0] 29):=⟨_,rfl⟩;have aH:af ae w w1:=by rw[aF];exact(af.refl ae w).alloc _
  have dK:au w1 w.heap.size (.int .i64 0) (.string (B [])) (.int .i64 0) (.slice none 0 0) 29:=by rw[aF];exact au.av rfl
  have kE:=ak aF;clear aF;obtain⟨x0,x1,x2,x3⟩:=dK.cells;obtain⟨y0,y1,y2,y3⟩:=dK.aq;have aB:=dK.lt;go_enter Tryz.func65,Tryz.ntmps65;go_upto_region 1 with fail;rw[<-show B []={ data:=#[] }from rfl,<-kE.out];go_wp2_with fail;have ah:=dK.set (d0:=.int .i64 0) (d1:=.string (B [])) (d2:=.int .i64 0) (d3:=.slice none 0 0);obtain⟨w9,bf⟩:∃ q,q=(((w1.setCell ⟨w.heap.size,0,none⟩ (.int .i64 0)).setCell ⟨w.heap.size,1,none⟩ (.string (B []))).setCell ⟨w.heap.size,2,none⟩ (.int .i64 0)).setCell ⟨w.heap.size,3,none⟩ (.slice none 0 0):=⟨_,rfl⟩;rw[<-bf]at ah;rw[<-show B []={ data:=#[] }from rfl,<-bf];clear bf;obtain⟨e0,e1,e2,e3⟩:=ah.1.cells;refine bodyPost_ret (v:=.tuple #[.agg #[.int .i64 0,.string (B []),.int .i64 0,.slice none 0 0],.slice none 0 0,.int .i64 0,.int .i64 E]) ?_ rfl ?_
  ·simp[results,Tryz.f65,go_sem,e0,e1,e2,e3]
  exact⟨rfl,aH.trans ah.2 (fun b hb e=>by omega)⟩
theorem Mm(t:Tm)(hs:t.wt<=1000000)(w:World)(cs:List Value)(h:aw ae w t.az cs):
    Calls Tryz.prog 69 #[.agg cs.toArray] w fun e w'=>e=.returned (.bool (!(t.isObj && t.small)))/\af ae w w':=by
  obtain⟨k,n,i,ts,a,cap,_,rfl,_,_⟩:=aP h;obtain⟨w1,aF⟩:∃ w1,w1=w.alloc (.cells #[.int .i64 k,.string (B n),.int .i64 i,.slice a ts.length cap] 29):=⟨_,rfl⟩;have aH:af ae w w1:=by rw[aF];exact(af.refl ae w).alloc _
  have jA:au w1 w.heap.size (.int .i64 k) (.string (B n)) (.int .i64 i) (.slice a ts.length cap) 29:=by rw[aF];exact au.av rfl
  have C:=qX t hs w1 _ (h.on aH);have HW:=ak aF;clear aF h;generalize (t.isObj && t.small)=b at *
  obtain⟨x0,x1,x2,x3⟩:=jA.cells;go_enter Tryz.func69,Tryz.ntmps69;go_wp2_with fail;rw[<-HW.out];refine C.mono ?_;rintro e w2 ⟨rfl,aL⟩;go_wp2_with fail;go_ret;exact⟨rfl,aH.and aL⟩
def opn(t:Tm):Bool:=decide (0<(if t.wf == 0 then t.scope else 0))
theorem K0(t:Tm)(hs:t.wt<=1000000)(w:World)(cs:List Value)(h:aw ae w t.az cs):
    Calls Tryz.prog 71 #[.agg cs.toArray] w fun e w'=>e=.returned (.bool (opn t))/\af ae w w':=by
  obtain⟨k,n,i,ts,a,cap,_,rfl,_,_⟩:=aP h;obtain⟨w1,aF⟩:∃ w1,w1=w.alloc (.cells #[.int .i64 k,.string (B n),.int .i64 i,.slice a ts.length cap] 29):=⟨_,rfl⟩;have aH:af ae w w1:=by rw[aF];exact(af.refl ae w).alloc _
  have jA:au w1 w.heap.size (.int .i64 k) (.string (B n)) (.int .i64 i) (.slice a ts.length cap) 29:=by rw[aF];exact au.av rfl
  have C:=sG t hs w1 _ (h.on aH);have HW:=ak aF;clear aF h;unfold opn;generalize (if(t.wf == 0)=true then t.scope else 0)=b at *
  obtain⟨x0,x1,x2,x3⟩:=jA.cells;go_enter Tryz.func71,Tryz.ntmps71;go_wp2_with fail;rw[<-HW.out];refine C.mono ?_;rintro e w2 ⟨rfl,aL⟩;go_wp2_with fail;go_ret;exact⟨rfl,aH.and aL⟩
theorem Ch(ts:List Tm)(hl:ts.length<=1000000)(hw:∀ t∈ts,t.wt<=1000000)(w:World)(a:Option Addr)(cap:Nat)(hE:ai ae w 4 (ts.map Tm.az) a 0):
    Calls Tryz.prog 66 #[.slice a ts.length cap] w fun e w'=>e=.returned (.int .i64 (bI Tm.wf ts))/\af ae w w':=by
  obtain⟨r,hr⟩:∃ r,r=bI Tm.wf ts:=⟨_,rfl⟩;rw[<-hr];have HR:=ak hr;have UZ:=ak hw;clear hr hw;go_enter Tryz.func66,Tryz.ntmps66;go_wp2_with fail;go_loopw [8] (fun v wr=>∃ j:Nat,v=.int .i64 j/\j<=ts.length/\r=bI Tm.wf (ts.drop j)/\af ae w wr) (fun v _=>ts.length - (intOf v).toNat)
  case atStart=>exact⟨0,rfl,Nat.zero_le _,HR.out,af.refl _ _⟩
  obtain⟨j,rfl,hj,hv,hU⟩:=hrel;have HV:=ak hv;clear hv;have j0:(0:Int)<=(j:Int):=by omega
  have jb:(j:Int)<=2000000:=by omega
  by_cases aB:j<ts.length
  ·obtain⟨b,o,k1,n1,x1,s1,c1,rfl,hb,_,p0,p1,p2,p3,eY⟩:=aY (hE.on hU) j aB;have j1:(j:Int)<(ts.length:Int):=by omega
   have cK:=(af.refl ae wr).alloc (.cells #[.int .i64 k1,.string (B n1),.int .i64 x1,.slice s1 ts[j].args.length c1] 29);have key:=cG _ (UZ.out _ (List.getElem_mem aB)) _ _ (eY.on cK);have hT:=kO Tm.wf ts j aB;generalize ts[j].args.length=el at *
   generalize ts[j].wf=fb at *
   have HT:=ak (And.intro hT (And.intro aB cK));clear hT aB eY cK;go_wp2_with fail;refine key.mono ?_;rintro e w5 ⟨rfl,ba⟩;have bj:=(hU.and HT.out.2.2).and ba;by_cases DO:fb=0
   ·subst DO;go_wp2_with fail;go_roundw;case rel=>exact⟨j+1,by go_num,Nat.succ_le_of_lt HT.out.2.1,by rw[HV.out,HT.out.1];rfl,bj⟩
    (have:=HT.out.2.1;simp[intOf];omega)
   have UW:(fb !=0)=true:=by simpa using DO
   go_wp2_with fail;go_ret;have GQ:r=fb:=by rw[HV.out,HT.out.1,if_pos DO]
   exact⟨bd GQ.symm,bj⟩
  have sA:¬(j:Int)<(ts.length:Int):=by omega
  have tR:ts.drop j=[]:=List.drop_eq_nil_of_le (by omega);have Th:r=0:=by rw[HV.out,tR,bI]
  have OV:=ak Th;clear tR Th;go_wp2_with fail;go_ret;exact⟨bd OV.out.symm,hU⟩
end Go.Proofs.YthgmimncdjhgnaaGreatDoor
namespace Go.LF
section
open Tm Go.Proofs.YthgmimncdjhgnaaGreatDoor
theorem nw{p q:Tm->Bool}:∀(l:List Tm),(∀ x∈l,p x=q x)->l.any p=l.any q
  | [],_=>rfl
  |x :: xs,h=>by rw[List.any_cons,List.any_cons,h x (by simp),nw xs (fun y hy=>h y (by simp[hy]))]
theorem Af(K:List Mv)(T:List Tm):(vN K T).length=T.length:=by
  cases T with
  |nil=>rfl
  |cons t ts=>rw[vN];simp
theorem NC(K:List Mv)(T:List Tm)(i:Nat)(h:i<T.length)(h':i<(vN K T).length):(vN K T)[i]=m8 K ((i:Int) == 0) T[i]:=by
  cases T with
  |nil=>simp at h
  |cons t ts=>
   simp only[vN];cases i with
   |zero=>rfl
   |succ i=>
    simp only[List.getElem_cons_succ,List.getElem_map];congr 1
theorem oJ{l:List Mv}(hP:lf l)(hS:eD l)(hl:l.length<=10){a:Tm}{ms:List Tm}(h:iz l (a :: ms)=0)(ht:a.aC=true\/a.aI=true)(ho:∀ m∈ms,m.isObj=true)(hc:∀ t∈a :: ms,t.scope<=0):
    (fQ l (a :: ms)).length=ms.length+1/\(kC l (a :: ms)).length=ms.length+1/\∀ i(hi:i<(fQ l (a :: ms)).length)(dZ:i<(kC l (a :: ms)).length),(kC l (a :: ms))[i]=m8 (fk l (a :: ms)) ((i:Int) == 0) (fQ l (a :: ms))[i]/\(kC l (a :: ms))[i].wt<=1000000/\(kC l (a :: ms))[i].wf=(if(kC l (a :: ms))[i].small=true then 0 else 2):=by
  have nc:=(jV hP h).1;have e1:(fQ l (a :: ms)).length=ms.length+1:=by rw[nc];simp
  have e2:(kC l (a :: ms)).length=ms.length+1:=by unfold kC;rw[Af,e1]
  refine⟨e1,e2,fun i hi dZ=>?_⟩;have e3:(kC l (a :: ms))[i]=m8 (fk l (a :: ms)) ((i:Int) == 0) (fQ l (a :: ms))[i]:=NC _ _ i hi (by unfold kC at dZ;exact dZ);have N4:i<(a :: ms).length:=by rw[<-nc];exact hi
  refine⟨e3,?_,?_⟩
  ·rw[e3];exact QM hP h hS hl _ N4 hi
  have hf:=qf hP h ((i:Int) == 0) N4 hi (hc _ (List.getElem_mem N4)) (by
    cases i with
    |zero=>rw[if_pos (by rfl)];exact ht
    |succ i=>
     rw[if_neg (by simp;omega)];exact ho _ (by simp))
  rw[<-e3]at hf;refine nQ ?_;have h3:=hf.2.2;split at h3
  ·rcases h3 with h3 |h3
   ·exact .inr (.inl h3)
   exact .inr (.inr h3)
  exact .inl h3
theorem yO{t:Tm}(h:t.wf=0):t.small=true:=by
  have h1:=nQ (dz h).1;rw[h]at h1;by_cases h2:t.small=true
  ·exact h2
  rw[if_neg h2]at h1;exact absurd h1 (by decide)
end
section
open Tm Go.Proofs.YthgmimncdjhgnaaGreatDoor
theorem Al{l:List Mv}{a:Tm}{ms:List Tm}(h:iP l a ms≠0):lC l a ms=aO/\jL l a ms=[]/\tH l a ms=0:=by
  unfold lC jL tH;rw[if_neg h,if_neg h,if_neg h];exact⟨rfl,rfl,rfl⟩
theorem zv{l:List Mv}{a:Tm}{ms:List Tm}{E:Int}(h:bI wf (a :: ms)=E)(hE:E≠0):iP l a ms=E:=by
  unfold iP;rw[if_pos (by rw[h];exact hE),h]
theorem su{l:List Mv}{a:Tm}{ms:List Tm}(h1:bI wf (a :: ms)=0)(h2:(!(a.aC || a.aI)|| ms.any (fun m=>!m.isObj))=true):iP l a ms=32:=by
  unfold iP;rw[if_neg (by simp[h1]),if_pos h2]
theorem uY{l:List Mv}{a:Tm}{ms:List Tm}(h1:bI wf (a :: ms)=0)(h2:(!(a.aC || a.aI)|| ms.any (fun m=>!m.isObj))=false)(h3:(a :: ms).any (fun t=>decide (0<t.scope))=true):iP l a ms=3:=by
  unfold iP;rw[if_neg (by simp[h1]),if_neg (by rw[h2];decide),if_pos h3]
theorem wv{l:List Mv}{a:Tm}{ms:List Tm}(h1:bI wf (a :: ms)=0)(h2:(!(a.aC || a.aI)|| ms.any (fun m=>!m.isObj))=false)(h3:(a :: ms).any (fun t=>decide (0<t.scope))=false)(h4:iz l (a :: ms)≠0):iP l a ms=iz l (a :: ms):=by
  unfold iP;rw[if_neg (by simp[h1]),if_neg (by rw[h2];decide),if_neg (by rw[h3];decide),if_pos h4]
theorem yD{l:List Mv}{a:Tm}{ms:List Tm}(h1:bI wf (a :: ms)=0)(h2:(!(a.aC || a.aI)|| ms.any (fun m=>!m.isObj))=false)(h3:(a :: ms).any (fun t=>decide (0<t.scope))=false)(h4:iz l (a :: ms)=0)(h5:(fk l (a :: ms)).length<=40):iP l a ms=if(kC l (a :: ms)).all small=true then 0 else 2:=by
  unfold iP;rw[if_neg (by simp[h1]),if_neg (by rw[h2];decide),if_neg (by rw[h3];decide),if_neg (by simp[h4]),if_neg (by omega)]
end
end Go.LF
namespace Go.Proofs.YthgmimncdjhgnaaGreatDoor
open Go.RowKit Go.LF
theorem fg{O:Nat->Prop}{w:World}{d:fB}{cs:List Value}(h:aw O w d cs):aw ae w d cs:=aw.weaken (fun _ _ e=>e.elim) _ _ h
def fq(E:Int)(b:Tm)(ns:List Tm)(k:Nat)(w:World)(e:Ending)(w':World):Prop:=
  ∃(kk i:Int)(n:List UInt8)(a:Option Addr)(len cap:Nat)(va:Option Addr)(vc:Nat),e=.returned (.tuple #[.agg #[.int .i64 kk,.string (B n),.int .i64 i,.slice a len cap],.slice va ns.length vc,.int .i64 (k:Int),.int .i64 E])/\ns.length<=vc/\
   aw (fun b=>b<w.heap.size) w' b.az [.int .i64 kk,.string (B n),.int .i64 i,.slice a len cap]/\ai (fun b=>b<w.heap.size) w' 4 (ns.map Tm.az) va 0/\af ae w w'
theorem fq.bad{l:List Mv}{a:Tm}{ms:List Tm}{E:Int}{w w':World}(h:iP l a ms=E)(hE:E≠0)(hU:af ae w w'):fq (iP l a ms) (lC l a ms) (jL l a ms) (tH l a ms) w (.returned (.tuple #[.agg #[.int .i64 0,.string (B []),.int .i64 0,.slice none 0 0],.slice none 0 0,.int .i64 0,.int .i64 E])) w':=by
  obtain⟨h1,h2,h3⟩:=Al (l:=l) (a:=a) (ms:=ms) (by rw[h];exact hE);rw[h1,h2,h3,h];exact⟨0,0,[],none,0,0,none,0,rfl,Nat.le_refl _,bD 0 [] 0,by simp only[List.map_nil,ai],hU⟩
theorem af.yV{ua:Option Addr}{w v W:World}{n z:Nat}(h:af (fun b=>ua=some ⟨b,0,none⟩/\0<n) v W)(hw:w.heap.size<=z)(hg:∀ g,0<n->ua=some ⟨g,0,none⟩->z<=g)(hU:af ae w v):af ae w W:=
  hU.trans h (fun b hb e=>by have:=hg b e.2 e.1;omega)
theorem lZ{O:Nat->Prop}{W:World}{wd g o n:Nat}:∀(ds:List fB)(j:Nat),ai O W wd ds (some ⟨g,o,none⟩) (n+j)->ai O W wd ds (some ⟨g,o+n,none⟩) j
  | [],_,_=>by simp only[ai]
  |d :: ds,j,h=>by
   simp only[ai]at h ⊢;obtain⟨⟨b,o',cs,e,h1,h2,h3,h4,h5⟩,h6⟩:=h;cases e
   refine⟨⟨g,o+n,cs,rfl,h1,h2,h3,fun i v hv=>?_,h5⟩,lZ ds (j+wd) (by rw[<-Nat.add_assoc];exact h6)⟩;rw[show o+n+j+i=o+(n+j)+i by omega];exact h4 i v hv
theorem rp(l:List Mv)(hP:lf l)(hS:eD l)(hl:l.length<=10)(a:Tm)(ms:List Tm)(jw:ms.length<=100)(eB:∀ t∈a :: ms,t.wt<=1000000/\(t.wf=0->(∀ i∈Tm.ay t,i<l.length)->Kn l.length t))(w:World)(la:Option Addr)(lc:Nat)(cs:List Value)(ma:Option Addr)(mc:Nat)
    (hL:ai ae w 6 (l.map Mv.az) la 0) (h:aw ae w a.az cs) (hM:ai ae w 4 (ms.map Tm.az) ma 0):
    Calls Tryz.prog 30 #[.slice la l.length lc,.agg cs.toArray,.slice ma ms.length mc] w (fq (iP l a ms) (lC l a ms) (jL l a ms) (tH l a ms) w):=by
  obtain⟨k,n,i,ts,aa,cap,htt,rfl,_,_⟩:=aP h;generalize ts.length=len at *
  obtain⟨w1,aF⟩:∃ w1,w1=(w.alloc (.cells #[.int .i64 k,.string (B n),.int .i64 i,.slice aa len cap] 29)).alloc (.cells #[.int .i64 0,.string (B []),.int .i64 0,.slice none 0 0] 29):=⟨_,rfl⟩;have aH:af ae w w1:=by rw[aF];exact((af.refl ae w).alloc _).alloc _
  have mN:au w1 w.heap.size (.int .i64 k) (.string (B n)) (.int .i64 i) (.slice aa len cap) 29:=by rw[aF];exact(au.av rfl).kept ((af.refl ae _).alloc _)
  have dK:au w1 (w.heap.size+1) (.int .i64 0) (.string (B [])) (.int .i64 0) (.slice none 0 0) 29:=by rw[aF];exact au.av (by simp)
  have di:=(aw.fR h).on aH;have Cd:=(ai.aG _ _ _ _ hM).on aH;have kA:=(ai.aG _ _ _ _ hL).on aH;have HW:=ak aF;obtain⟨H,hH⟩:∃ H,H=w.heap.size:=⟨_,rfl⟩;have HH:=ak hH;rw[<-hH]at mN dK di Cd kA;have FO:=fun(W:World)(a9:Option Addr)(c9:Nat)h9=>Ch (a :: ms) (by simp;omega) (fun u hu=>(eB u hu).1) W a9 c9 h9
  simp only[List.length_cons]at FO;have EH:=ak eB;obtain⟨ml,jk⟩:∃ ml,ml=ms.length:=⟨_,rfl⟩;obtain⟨ll,du⟩:∃ ll,ll=l.length:=⟨_,rfl⟩;rw[<-jk,<-du];rw[<-jk]at jw;have HL:=ak (And.intro jk du);have HU:=ak aH;have Vt:(ml:Int)<=100:=by omega
  have mX:H+2<=w1.heap.size:=by have:=dK.lt;omega
  have fl:=gP.one (O:=fun b=>b=H\/b=H+1) (aw.weaken (fun b _ e=>.inr (by omega)) _ _ di);have cK:af ae w1 (w1.alloc (.cells #[.int .i64 k,.string (B n),.int .i64 i,.slice aa len cap] 29)):=(af.refl ae _).alloc _;clear aF hH h hM hL jk du aH htt eB;obtain⟨t0,t1,t2,t3⟩:=mN.cells;go_enter Tryz.func30,Tryz.ntmps30;go_upto_region 2 with fail;rw[<-show B []={ data:=#[] }from rfl,<-HW.out,<-HH.out];go_wp2_with (at_builtin;go_loud (refine eI (by rfl) _ _ (by rfl) (by rfl) fl ma ml mc ms (by rfl) HL.out.1 (ai.weaken (fun b _ e=>by right;rcases e with e |e;omega;omega) _ _ _ _ (Cd.on cK)) (by simp;have:=HL.out.1;omega) (by have:=cK.size;omega) ?_);intro v3 w3 Vm Ii tZ FM;have nL:=ck tZ;have aZ:af ae w1 w3:=(cK.trans nL (fun b hb e=>by simp[Value.ownBlock]at e;omega));obtain⟨va,vc,Ki,fp,BP⟩:=Ii.rep;subst Ki)
  (with_reducible refine(FO _ va vc (gq BP)).mono ?_);rintro e w2 ⟨rfl,E0⟩;have aL:=aZ.and E0;have dO:=dK.kept aL;have iD:=mN.kept aL;have xI:=(gq BP).on E0;clear FO fl cK nL Ii tZ FM BP t0 t1 t2 t3;obtain⟨q,hq⟩:∃ z:Int,z=bI Tm.wf (a :: ms):=⟨_,rfl⟩;rw[<-hq];have HQ:=ak hq;clear hq;have r9:=HU.out.and aL;have kF:=ak r9;clear r9;by_cases hq:q=0
  case neg=>
    have hE:=zv (l:=l) HQ.out.symm hq;have HE:=ak (And.intro hE hq);have hqb:(q !=0)=true:=by simpa using hq
    clear hE hq;go_wp2_with fail
    (with_reducible refine(nD q _).mono ?_);rintro e wn ⟨rfl,jz⟩;have mm:=dO.kept jz;obtain⟨r0,r1,r2,r3⟩:=mm.cells;obtain⟨y0,y1,y2,y3⟩:=mm.aq;have yn:=mm.lt;go_wp2_with fail;have ah:=mm.set (d0:=.int .i64 0) (d1:=.string (B [])) (d2:=.int .i64 0) (d3:=.slice none 0 0);obtain⟨w9,bf⟩:∃ z,z=(((wn.setCell ⟨H+1,0,none⟩ (.int .i64 0)).setCell ⟨H+1,1,none⟩ (.string (B []))).setCell ⟨H+1,2,none⟩ (.int .i64 0)).setCell ⟨H+1,3,none⟩ (.slice none 0 0):=⟨_,rfl⟩;rw[<-bf]at ah;try rw[<-show B []={ data:=#[] }from rfl]
    rw[<-bf];clear bf;obtain⟨e0,e1,e2,e3⟩:=ah.1.cells;refine bodyPost_ret (v:=.tuple #[.agg #[.int .i64 0,.string (B []),.int .i64 0,.slice none 0 0],.slice none 0 0,.int .i64 0,.int .i64 q]) ?_ rfl ?_
    ·simp[results,Tryz.f30,go_sem,e0,e1,e2,e3]
    exact fq.bad HE.out.1 HE.out.2 (((kF.out).and jz).trans ah.2 (fun b hb e=>by have:=HH.out;omega))
  subst hq;have tU:bI Tm.wf (a :: ms)=0:=HQ.out.symm;have fO:∀ t∈a :: ms,t.wf=0/\t.small=true:=fun t ht=>⟨kI Tm.wf _ tU t ht,yO (kI Tm.wf _ tU t ht)⟩
  have KZ:=(fO a (by simp)).2;have IT:=pt a (EH.out a (by simp)).1 w2 _ (fg (di.on aL));have E5:((a.aC && a.small)|| (a.aI && a.small))=(a.aC || a.aI):=by rw[KZ,Bool.and_true,Bool.and_true]
  rw[E5]at IT;have AN:=fun(W:World)(hW:af ae w2 W)=>gv (ts:=ms) 69 (fun m=>!(m.isObj && m.small)) (by have:=HL.out.1;omega) (fun x hx W' qs h'=>Mm x (EH.out x (by simp[hx])).1 W' qs h') (fun _ _=>rfl) W ma mc (gq ((Cd.on aL).on hW))
  have hbn:ms.any (fun m=>!(m.isObj && m.small))=ms.any (fun m=>!m.isObj):=nw ms (fun x hx=>by rw[(fO x (by simp[hx])).2,Bool.and_true]);have Xd:=fun(W:World)(hW:af ae w2 W)=>gv (ts:=a :: ms) 71 opn (by have:=HL.out.1;simp;omega) (fun x hx W' qs h'=>K0 x (EH.out x hx).1 W' qs h') (fun _ _=>rfl) W va vc (xI.on hW)
  have KO:(a :: ms).any opn=(a :: ms).any (fun t=>decide (0<t.scope)):=nw _ (fun x hx=>by unfold opn;rw[(fO x hx).1];rfl);rw[KO]at Xd;rw[hbn,<-HL.out.1]at AN;simp only[List.length_cons]at Xd;obtain⟨bt,TR⟩:∃ z,z=(a.aC || a.aI):=⟨_,rfl⟩;obtain⟨bn,V4⟩:∃ z,z=ms.any (fun m=>!m.isObj):=⟨_,rfl⟩;obtain⟨bo,Ua⟩:∃ z,z=(a :: ms).any (fun t=>decide (0<t.scope)):=⟨_,rfl⟩;rw[<-TR]at IT;rw[<-V4]at AN;rw[<-Ua]at Xd;have HB:=ak (And.intro TR (And.intro V4 Ua));have Ia:=ak (And.intro tU fO);obtain⟨t0,t1,t2,t3⟩:=iD.cells;clear tU fO KZ E5 hbn KO TR V4 Ua;go_upto_region 6 with fail;go_cut [41]from 35 to 41 (fun v41 wx=>v41=.bool (!bt || bn)/\af ae w2 wx)
  case first=>
    clear Xd;cases bt
    ·go_wp2_with fail
     (with_reducible refine IT.mono ?_);rintro e w5 ⟨rfl,ba⟩;go_wp2_with fail;go_meet
     exact⟨rfl,ba⟩
    go_wp2_with fail
    (with_reducible refine IT.mono ?_);rintro e w5 ⟨rfl,ba⟩;have AN5:=AN w5 ba;clear IT AN;go_wp2_with fail
    (with_reducible refine AN5.mono ?_);rintro e w6 ⟨rfl,bj⟩;cases bn
    all_goals
      go_wp2_with fail;go_meet
      exact⟨rfl,ba.and bj⟩
  obtain⟨rfl,aZ⟩:=hcut;obtain⟨w3,rfl⟩:∃ z,z=wc:=⟨_,rfl⟩;have iL:=dO.kept aZ;have Nz:=Xd w3 aZ;clear IT AN Xd t0 t1 t2 t3 iD dO mN dK;obtain⟨cb,xH⟩:∃ z,z=(!bt || bn):=⟨_,rfl⟩;rw[<-xH];have Uu:(!(a.aC || a.aI)|| ms.any (fun m=>!m.isObj))=cb:=by rw[<-HB.out.1,<-HB.out.2.1,xH]
  have Eh:=ak Uu;clear xH Uu;cases cb
  case true=>
    have hE:=su (l:=l) Ia.out.1 Eh.out;have HE:=ak hE;clear hE;go_wp2_with fail
    (with_reducible refine(nD 32 _).mono ?_);rintro e wn ⟨rfl,jz⟩;have mm:=iL.kept jz;obtain⟨r0,r1,r2,r3⟩:=mm.cells;obtain⟨y0,y1,y2,y3⟩:=mm.aq;have yn:=mm.lt;go_wp2_with fail;have ah:=mm.set (d0:=.int .i64 0) (d1:=.string (B [])) (d2:=.int .i64 0) (d3:=.slice none 0 0);obtain⟨w9,bf⟩:∃ z,z=(((wn.setCell ⟨H+1,0,none⟩ (.int .i64 0)).setCell ⟨H+1,1,none⟩ (.string (B []))).setCell ⟨H+1,2,none⟩ (.int .i64 0)).setCell ⟨H+1,3,none⟩ (.slice none 0 0):=⟨_,rfl⟩;rw[<-bf]at ah;try rw[<-show B []={ data:=#[] }from rfl]
    rw[<-bf];clear bf;obtain⟨e0,e1,e2,e3⟩:=ah.1.cells;refine bodyPost_ret (v:=.tuple #[.agg #[.int .i64 0,.string (B []),.int .i64 0,.slice none 0 0],.slice none 0 0,.int .i64 0,.int .i64 32]) ?_ rfl ?_
    ·simp[results,Tryz.f30,go_sem,e0,e1,e2,e3]
    exact fq.bad HE.out (by decide) (((kF.out.and aZ).and jz).trans ah.2 (fun b hb e=>by have:=HH.out;omega))
  case false=>
    go_wp2_with fail
    (with_reducible refine Nz.mono ?_);rintro e w4 ⟨rfl,bw⟩;have lg:=aZ.and bw;have iX:=iL.kept bw;clear Nz iL;have Us:(a :: ms).any (fun t=>decide (0<t.scope))=bo:=HB.out.2.2.symm;cases bo
    case true=>
      have hE:=uY (l:=l) Ia.out.1 Eh.out Us;have HE:=ak hE;clear hE Us;go_wp2_with fail
      (with_reducible refine(nD 3 _).mono ?_);rintro e wn ⟨rfl,jz⟩;have mm:=iX.kept jz;obtain⟨r0,r1,r2,r3⟩:=mm.cells;obtain⟨y0,y1,y2,y3⟩:=mm.aq;have yn:=mm.lt;go_wp2_with fail;have ah:=mm.set (d0:=.int .i64 0) (d1:=.string (B [])) (d2:=.int .i64 0) (d3:=.slice none 0 0);obtain⟨w9,bf⟩:∃ z,z=(((wn.setCell ⟨H+1,0,none⟩ (.int .i64 0)).setCell ⟨H+1,1,none⟩ (.string (B []))).setCell ⟨H+1,2,none⟩ (.int .i64 0)).setCell ⟨H+1,3,none⟩ (.slice none 0 0):=⟨_,rfl⟩;rw[<-bf]at ah;try rw[<-show B []={ data:=#[] }from rfl]
      rw[<-bf];clear bf;obtain⟨e0,e1,e2,e3⟩:=ah.1.cells;refine bodyPost_ret (v:=.tuple #[.agg #[.int .i64 0,.string (B []),.int .i64 0,.slice none 0 0],.slice none 0 0,.int .i64 0,.int .i64 3]) ?_ rfl ?_
      ·simp[results,Tryz.f30,go_sem,e0,e1,e2,e3]
      exact fq.bad HE.out (by decide) (((kF.out.and lg).and jz).trans ah.2 (fun b hb e=>by have:=HH.out;omega))
    case false=>
      have CN:=F2 l hP (a :: ms) EH.out (by have:=HL.out.1;simp;omega) w4 la lc va vc (gq ((kA.on aL).on lg)) (xI.on lg);simp only[List.length_cons]at CN;rw[<-HL.out.2]at CN;have WD:=ak Us;clear Us;go_wp2_with fail
      (with_reducible refine CN.mono ?_);rintro e w5 ⟨ka,ua,kc,uc,rfl,⟨MK,EI⟩,uG,WT,yM,ba⟩;have mW:=lg.and ba;have dR:=iX.kept ba;have DX:H+2<=w4.heap.size:=by have h8:=aL.size;have h9:=lg.size;omega
      clear CN iX;obtain⟨ue,T6⟩:∃ z,z=iz l (a :: ms):=⟨_,rfl⟩;rw[<-T6];have T5:=ak T6;clear T6;by_cases hu:ue=0
      case neg=>
        have hE:=wv (l:=l) Ia.out.1 Eh.out WD.out (by rw[<-T5.out];exact hu);rw[<-T5.out]at hE;have HE:=ak (And.intro hE hu);have hub:(ue !=0)=true:=by simpa using hu
        clear hE hu;generalize (fQ l (a :: ms)).length=cl at *
        generalize (fk l (a :: ms)).length=kl at *
        go_wp2_with fail
        (with_reducible refine(nD ue _).mono ?_);rintro e wn ⟨rfl,jz⟩;have mm:=dR.kept jz;obtain⟨r0,r1,r2,r3⟩:=mm.cells;obtain⟨y0,y1,y2,y3⟩:=mm.aq;have yn:=mm.lt;go_wp2_with fail;have ah:=mm.set (d0:=.int .i64 0) (d1:=.string (B [])) (d2:=.int .i64 0) (d3:=.slice none 0 0);obtain⟨w9,bf⟩:∃ z,z=(((wn.setCell ⟨H+1,0,none⟩ (.int .i64 0)).setCell ⟨H+1,1,none⟩ (.string (B []))).setCell ⟨H+1,2,none⟩ (.int .i64 0)).setCell ⟨H+1,3,none⟩ (.slice none 0 0):=⟨_,rfl⟩;rw[<-bf]at ah;try rw[<-show B []={ data:=#[] }from rfl]
        rw[<-bf];clear bf;obtain⟨e0,e1,e2,e3⟩:=ah.1.cells;refine bodyPost_ret (v:=.tuple #[.agg #[.int .i64 0,.string (B []),.int .i64 0,.slice none 0 0],.slice none 0 0,.int .i64 0,.int .i64 ue]) ?_ rfl ?_
        ·simp[results,Tryz.f30,go_sem,e0,e1,e2,e3]
        exact fq.bad HE.out.1 HE.out.2 (((kF.out.and mW).and jz).trans ah.2 (fun b hb e=>by have:=HH.out;omega))
      subst hu;have qx:iz l (a :: ms)=0:=T5.out.symm
      have Bp:a.aC=true\/a.aI=true:=by
        have h9:=Eh.out;rw[Bool.or_eq_false_iff]at h9;have h8:=h9.1;revert h8;cases a.aC<;>cases a.aI<;>simp
      have zT:∀ x∈ms,x.isObj=true:=by
        have h9:=Eh.out;rw[Bool.or_eq_false_iff,List.any_eq_false]at h9;intro x hx;simpa using h9.2 x hx
      have AS:∀ t∈a :: ms,t.scope<=0:=by
        have h9:=WD.out;rw[List.any_eq_false]at h9;intro x hx;have:=h9 x hx;simp at this;omega
      have J2:=(rl hP qx).sH;obtain⟨lD,Bq,jr⟩:=oJ hP hS hl qx Bp zT AS;have BQ:=(jV hP qx).2;have nr:=yD Ia.out.1 Eh.out WD.out qx J2.len;obtain⟨KS,ti⟩:∃ z,z=fk l (a :: ms):=⟨_,rfl⟩;obtain⟨TS,H8⟩:∃ z,z=fQ l (a :: ms):=⟨_,rfl⟩;obtain⟨SS,K7⟩:∃ z,z=kC l (a :: ms):=⟨_,rfl⟩;rw[<-ti]at J2 jr BQ uG MK ⊢;rw[<-H8]at lD jr BQ uG WT yM EI ⊢;rw[<-K7]at Bq jr nr
      have ng:∀ i(hi:i<TS.length),TS[i].wf=0/\TS[i].size<=4096/\RR KS.length TS[i]:=fun i hi=>by
        have h9:=BQ i (by simp;omega) hi;exact⟨h9.2.1,(Tm.dz h9.2.1).2.1,h9.2.2.1⟩
      have HK:=ak (And.intro ti (And.intro H8 (And.intro K7 (And.intro nr (And.intro J2 (And.intro jr ng))))));obtain⟨kl,r7⟩:∃ z,z=KS.length:=⟨_,rfl⟩;obtain⟨zl,Cx⟩:∃ z,z=TS.length:=⟨_,rfl⟩;have ab7:kl<=40:=by rw[r7];exact J2.len
      have nz:zl=ml+1:=by rw[Cx,lD,<-HL.out.1]
      rw[<-r7,<-Cx];have Iy:=ak (And.intro r7 (And.intro Cx (And.intro nz (by rw[Bq,nz,<-HL.out.1]:SS.length=zl))));have YR:js (fun b=>b<=H+1) 0 w5 ua (SS.take 0++TS.drop 0):=by rw[List.take_zero,List.drop_zero,List.nil_append];exact js.start WT
      have aio:(kl:Int)<=40:=by omega
      have agU:(zl:Int)<=101:=by omega
      clear qx Bp zT AS J2 jr BQ nr ti H8 K7 r7 Cx lD Bq WT ng nz kA di Cd xI;go_wp2_with fail
      go_loopw [84] (fun v84 wr=>∃(i:Nat),v84=.int .i64 (i:Int)/\i<=zl/\(∀ x∈SS.take i,x.small=true)/\js (fun b=>b<=H+1) i wr ua (SS.take i++TS.drop i)/\af (fun b=>ua=some ⟨b,0,none⟩/\0<TS.length) w5 wr)
        (fun v84 _=>zl - (intOf v84).toNat)
      case atStart=>exact⟨0,rfl,Nat.zero_le _,fun x hx=>by simp at hx,YR,af.refl _ _⟩
      clear YR;obtain⟨i,rfl,hi,m7,hY,iB⟩:=hrel;have hii:(i:Int)<=101:=by omega
      have Jb:=ai.ag iB (fun b e=>e) _ _ _ _ uG;have rL:=dR.ag iB (fun e=>by have h8:=yM _ e.2 e.1;have h9:=dR.lt;omega);by_cases aB:i<zl
      ·obtain⟨ti,H8,K7,nr,J2,jr,ng⟩:=HK.out;obtain⟨r7,Cx,nz,Bq⟩:=Iy.out;have Rb:i<TS.length:=by omega
       have LS:i<SS.length:=by omega
       have jh:(SS.take i).length=i:=by rw[List.length_take];omega
       have OT:i<(SS.take i++TS.drop i).length:=by rw[List.length_append,jh,List.length_drop];omega
       have Yt:(SS.take i++TS.drop i)[i]=TS[i]:=by
         rw[List.getElem_append_right (by omega)];simp only[jh,Nat.sub_self,List.getElem_drop];rfl
       have BY:(SS.take i++TS.drop i).set i SS[i]=SS.take (i+1)++TS.drop (i+1):=by
         rw[List.set_append_right _ _ (by omega),jh,Nat.sub_self,List.drop_eq_getElem_cons Rb,List.set_cons_zero,List.take_succ_eq_append_getElem LS,List.append_assoc];rfl
       obtain⟨g,k1,n1,i1,b1,c1,rfl,px,sR,⟨p0,p1,p2,p3⟩,lV⟩:=hY.open OT;rw[Yt]at p3 lV;obtain⟨e1,e2,e3⟩:=jr i Rb LS;obtain⟨c2,c3,c4⟩:=ng i Rb;have FV:=(Tm.pD _ c2).1;obtain⟨pi,Ip⟩:∃ z,z=((i:Int) == 0):=⟨_,rfl⟩;rw[<-Ip]at e1;have ais:=Ip.symm;obtain⟨U,Z4⟩:∃ z,z=TS[i]:=⟨_,rfl⟩;obtain⟨V,Qi⟩:∃ z,z=SS[i]:=⟨_,rfl⟩;rw[<-Z4]at p3 lV e1 c2 c3 c4 FV;rw[<-Qi]at e1 e2 e3 BY;have hV:V=tV pi KS kl (sH kl 0 U):=by rw[e1];unfold m8;rw[r7]
       have eQ:SS.take (i+1)=SS.take i++[V]:=by rw[List.take_succ_eq_append_getElem LS,Qi]
       have Cp:V.small=false->SS.all Tm.small=false:=fun e=>by rw[List.all_eq_false];exact⟨V,by rw[Qi];exact List.getElem_mem LS,by rw[e];decide⟩
       have HI:=ak (And.intro OT (And.intro BY (And.intro hV (And.intro e2 (And.intro e3 (And.intro eQ Cp))))));obtain⟨w6,iF⟩:∃ z,z=wr.alloc (.cells #[.int .i64 k1,.string (B n1),.int .i64 i1,.slice b1 U.args.length c1] 29):=⟨_,rfl⟩;have bj:af ae wr w6:=by rw[iF];exact(af.refl ae _).alloc _
       have zD:au w6 wr.heap.size (.int .i64 k1) (.string (B n1)) (.int .i64 i1) (.slice b1 U.args.length c1) 29:=by rw[iF];exact au.av rfl
       have BD:=Ec U kl (by omega) w6 _ (by omega) (fun b x hx e=>by have h9:=(FV b x hx).2.1 (by simp[e]);omega) (fg (lV.on bj));obtain⟨P,NO⟩:∃ z,z=wr.heap.size:=⟨_,rfl⟩;rw[<-NO]at zD;have HP6:=ak NO;have Ju:=ak iF;have kZ:(i:Int)<(zl:Int):=by omega
       generalize U.args.length=ul at *
       clear ti H8 K7 nr jr ng r7 Cx nz Bq Rb LS jh OT Yt BY e1 e2 e3 c2 c3 c4 FV Ip Z4 Qi hV iF NO lV eQ Cp;go_upto_region 19 with fail;rw[<-HP6.out,<-Ju.out];obtain⟨x0,x1,x2,x3⟩:=zD.cells;obtain⟨f0,f1,f2,f3⟩:=zD.aq;have hPl:=zD.lt;go_wp2_with fail
       (with_reducible refine BD.mono ?_);rintro e w7 ⟨k7,i7,n7,a7,l7,c7,rfl,og,cm⟩;have Jz:=zD.kept cm;have aca:=bj.and cm;clear BD x0 x1 x2 x3 f0 f1 f2 f3;obtain⟨x0,x1,x2,x3⟩:=Jz.cells;obtain⟨f0,f1,f2,f3⟩:=Jz.aq;have apr:=Jz.lt;have zb:=Jz.set (d0:=.int .i64 k7) (d1:=.string (B n7)) (d2:=.int .i64 i7) (d3:=.slice a7 l7 c7);obtain⟨w8,mT⟩:∃ z,z=(((w7.setCell ⟨P,0,none⟩ (.int .i64 k7)).setCell ⟨P,1,none⟩ (.string (B n7))).setCell ⟨P,2,none⟩ (.int .i64 i7)).setCell ⟨P,3,none⟩ (.slice a7 l7 c7):=⟨_,rfl⟩;rw[<-mT]at zb;have cW:af ae wr w8:=aca.trans zb.2 (fun b hb e=>by have:=HP6.out;omega);have hz8:=zb.2.size;have aeK:=cm.size;have p8:aw (fun b=>b<w6.heap.size) w8 (sH kl 0 U).az [.int .i64 k7,.string (B n7),.int .i64 i7,.slice a7 l7 c7]:=aw.ag zb.2 (fun b e=>by omega) _ _ og;have Ul:=zb.1;have Vi:=ak mT;clear mT zb og cm aca;go_wp2_with fail;rw[<-Vi.out];clear x0 x1 x2 x3 f0 f1 f2 f3 Jz zD;obtain⟨wq,rfl⟩:∃ z,z=wr:=⟨_,rfl⟩
       go_loopw [18] (fun Uw wz=>∃(j:Nat)(u:Tm)(k6 i6:Int)(n6:List UInt8)(a6:Option Addr)(l6 c6:Nat),Uw=.int .i64 ((j:Int) - 1)/\j<=kl/\tV pi KS j u=V/\au wz P (.int .i64 k6) (.string (B n6)) (.int .i64 i6) (.slice a6 l6 c6) 29/\aw (fun b=>b<w6.heap.size) wz u.az [.int .i64 k6,.string (B n6),.int .i64 i6,.slice a6 l6 c6]/\af (fun b=>b=P) w8 wz)
         (fun Uw _=>(intOf Uw+1).toNat)
       case atStart=>exact⟨kl,sH kl 0 U,k7,i7,n7,a7,l7,c7,rfl,Nat.le_refl _,HI.out.2.2.1.symm,Ul,p8,af.refl _ _⟩
       clear Ul p8;obtain⟨j,u,k6,i6,n6,a6,l6,c6,rfl,hj,OY,Oz,KB,Mn⟩:=hrel;obtain⟨wz,rfl⟩:∃ z,z=wr:=⟨_,rfl⟩;have hji:(j:Int)<=40:=by omega
       have Oj:af ae wq wz:=cW.trans Mn (fun b hb e=>by have:=HP6.out;omega);have XI:=ak OY;by_cases Fl:0<j
       ·obtain⟨m,rfl⟩:∃ m,j=m+1:=⟨j - 1,by omega⟩;have r7:=Iy.out.1;have zW:m<KS.length:=by omega
        have hjv:(((m+1:Nat):Int) - 1)=(m:Int):=by omega
        rw[hjv];obtain⟨kb,ko,mk,mn,mi,maa,Q8,mva,mvc,rfl,ahd,ag2,⟨d0,d1,d2,d3,d4,d5⟩,tC,PT,hVm⟩:=ja (Jb.on Oj) m zW;have xm:aw ae wz KS[m].az [.string (B KS[m].name),.int .i64 mk,.string (B mn),.int .i64 mi,.slice maa KS[m].type.args.length Q8,.slice mva KS[m].value.length mvc]:=fg (jF.2 ⟨_,mva,mvc,rfl,tC,PT,hVm⟩);obtain⟨QL,I8,ID,Pc⟩:=HK.out.2.2.2.2.1.kQ m zW;have Z3:=(kH I8).1;have KV:=Oz.lt;have ach:w6.heap.size<=wz.heap.size:=by have:=Mn.size;omega
        have hd:af ae wz wz.drew:=(af.refl ae _).drew;have PM:=yf (fun b=>b<w6.heap.size) KS[m] m (by omega) u pi wz.drew (fun b e=>Nat.lt_of_lt_of_le e ach) _ _ (xm.on hd) (by omega) (fun b x hx e=>by have h9:=(Tm.oz (M:=fun k _ i=>k=6->0<=i/\i<(m:Int)) _ b).1 ID x hx e;omega) (KB.on hd);have dY:tV pi KS m (par pi KS[m] m u)=V:=by rw[<-XI.out,tV,rC _ _ zW]
        generalize par pi KS[m] m u=u2 at *
        generalize KS[m].type.args.length=kal at *
        generalize KS[m].value.length=kvl at *
        generalize KS[m].name=OF at *
        have B7:=ak dY;have Dy:(m:Int)<(kl:Int):=by omega
        have pf:(0:Int)<=(m:Int):=by omega
        obtain⟨x0,x1,x2,x3⟩:=Oz.cells;have Ur:=Oz.kept hd;clear dY QL I8 ID Pc tC hVm xm r7 OY;go_upto_region 23 with fail;go_region_law ((rw[if_pos (by rfl)]);go_simp;(go_at_call 74);(with_reducible refine PM.mono ?_);rintro e w9 ⟨k9,i9,n9,a9,l9,c9,rfl,oK,bU⟩;have gK:=Ur.kept bU;obtain⟨y0,y1,y2,y3⟩:=gK.cells;obtain⟨g0,g1,g2,g3⟩:=gK.aq;have hl9:=gK.lt)
        all_goals
          have ah:=gK.set (d0:=.int .i64 k9) (d1:=.string (B n9)) (d2:=.int .i64 i9) (d3:=.slice a9 l9 c9);have jz:=(Mn.trans (hd.and bU) (fun _ _ e=>e.elim)).trans ah.2 (fun _ _ e=>e);have o8:=aw.ag ah.2 (fun b e=>by omega) _ _ oK;have HN:=ak (And.intro ah.1 (And.intro o8 jz));clear ah jz o8 oK bU PM x0 x1 x2 x3 d0 d1 d2 d3 d4 d5 KB Oz Mn Ur hd;go_wp2_with fail;go_roundw;case rel=>exact⟨m,u2,k9,i9,n9,a9,l9,c9,by go_num,by omega,B7.out,HN.out.1,HN.out.2.1,HN.out.2.2⟩
          simp[intOf]
       obtain rfl:j=0:=by omega
       have IQ:u=V:=OY;subst IQ;have WF:=cG u HI.out.2.2.2.1 wz _ (fg KB);rw[HI.out.2.2.2.2.1]at WF;obtain⟨x0,x1,x2,x3⟩:=Oz.cells;have OD:=hY.kept Oj;have Tg:=rL.kept Oj;have zn:¬(0:Int)<=((0:Nat):Int) - 1:=by omega
       clear OY XI;obtain⟨sm,Fq⟩:∃ z,z=u.small:=⟨_,rfl⟩;rw[<-Fq]at WF;have Iv:=ak Fq;clear Fq;cases sm
       case false=>
         have hE:iP l a ms=2:=by rw[HK.out.2.2.2.1,HI.out.2.2.2.2.2.2 Iv.out.symm];rfl
         have HE:=ak hE;clear hE;rw[show(if false=true then(0:Int)else 2)=2 from rfl]at WF;go_wp2_with fail
         (with_reducible refine WF.mono ?_);rintro e kB ⟨rfl,gZ⟩;have lv:=Tg.kept gZ;clear WF x0 x1 x2 x3;go_wp2_with fail
         (with_reducible refine(nD 2 _).mono ?_);rintro e wn ⟨rfl,jz⟩;have mm:=lv.kept jz;obtain⟨r0,r1,r2,r3⟩:=mm.cells;obtain⟨y0,y1,y2,y3⟩:=mm.aq;have yn:=mm.lt;go_wp2_with fail;have ah:=mm.set (d0:=.int .i64 0) (d1:=.string (B [])) (d2:=.int .i64 0) (d3:=.slice none 0 0);obtain⟨w9,bf⟩:∃ z,z=(((wn.setCell ⟨H+1,0,none⟩ (.int .i64 0)).setCell ⟨H+1,1,none⟩ (.string (B []))).setCell ⟨H+1,2,none⟩ (.int .i64 0)).setCell ⟨H+1,3,none⟩ (.slice none 0 0):=⟨_,rfl⟩;rw[<-bf]at ah;try rw[<-show B []={ data:=#[] }from rfl]
         rw[<-bf];clear bf;obtain⟨e0,e1,e2,e3⟩:=ah.1.cells;refine bodyPost_ret (v:=.tuple #[.agg #[.int .i64 0,.string (B []),.int .i64 0,.slice none 0 0],.slice none 0 0,.int .i64 0,.int .i64 2]) ?_ rfl ?_
         ·simp[results,Tryz.f30,go_sem,e0,e1,e2,e3]
         exact fq.bad HE.out (by decide) ((((af.yV iB (by have:=kF.out.size;have:=lg.size;omega) yM (kF.out.and mW)).and (Oj.and gZ)).and jz).trans ah.2 (fun b hb e=>by have:=HH.out;omega))
       case true=>
         rw[show(if true=true then(0:Int)else 2)=0 from rfl]at WF;go_wp2_with fail
         (with_reducible refine WF.mono ?_);rintro e kB ⟨rfl,gZ⟩;have vL:=Oj.and gZ;have aaI:=OD.kept gZ;have ahF:=Oz.kept gZ;have sw:=KB.on gZ;have ach:w6.heap.size<=wz.heap.size:=by have:=Mn.size;omega
         have aq7:=bj.size;have aiV:=ba.size;have hzq:=iB.size;have kX:=js.put (W':=(((kB.setCell ⟨g,i * 4,none⟩ (.int .i64 k6)).setCell ⟨g,i * 4+1,none⟩ (.string (B n6))).setCell ⟨g,i * 4+2,none⟩ (.int .i64 i6)).setCell ⟨g,i * 4+3,none⟩ (.slice a6 l6 c6)) (d':=i+1) aaI HI.out.1 (aw.weaken (fun b _ e=>by rcases e with e |⟨_,e⟩<;>omega) _ _ sw) (fun x h8 h9=>by omega) rfl;rw[HI.out.2.1]at kX;have q0:=vL.cell p0 (fun x=>x);have q1:=vL.cell p1 (fun x=>x);have q2:=vL.cell p2 (fun x=>x);have q3:=vL.cell p3 (fun x=>x);have ajU:∀ o,kB.frozen? ⟨g,o,none⟩=false:=fun o=>by rw[vL.cells.2 g o px (fun x=>x)];exact sR o
         have amg:g<kB.heap.size:=Nat.lt_of_lt_of_le px vL.size
         have NF:∀ x∈SS.take (i+1),x.small=true:=fun x hx=>by
           rw[HI.out.2.2.2.2.2.1]at hx;rcases List.mem_append.1 hx with h9 |h9
           ·exact m7 x h9
           rw[List.mem_singleton.1 h9];exact Iv.out.symm
         have jz:=(iB.trans vL (fun _ _ e=>e.elim)).trans kX.2 (fun b hb e=>⟨by rw[e],by have:=Iy.out.2.1;omega⟩);have HN:=ak (And.intro kX.1 (And.intro NF jz));obtain⟨y0,y1,y2,y3⟩:=ahF.cells;clear kX NF jz WF x0 x1 x2 x3 OD Tg aaI hY sw KB Oz p0 p1 p2 p3 sR;go_wp2_with fail;go_roundw;case rel=>exact⟨i+1,by go_num,by omega,HN.out.2.1,HN.out.1,HN.out.2.2⟩
         simp[intOf];omega
      obtain⟨r7,Cx,nz,Bq⟩:=Iy.out;have hiz:i=zl:=by omega
      have hX:SS.take i++TS.drop i=SS:=by rw[List.drop_eq_nil_of_le (by omega),List.append_nil,List.take_of_length_le (by omega)]
      rw[hX]at hY;rw[List.take_of_length_le (by omega)]at m7;have gL:iP l a ms=0:=by rw[HK.out.2.2.2.1,if_pos (List.all_eq_true.2 m7)]
      have ZX:=hY.rep (fun g h8 h9=>by have:=yM g (by omega) h9;omega) (by omega);obtain⟨g,k1,n1,i1,b1,c1,rfl,px,sR,⟨p0,p1,p2,p3⟩,Vh⟩:=hY.open (j:=0) (by omega)
      have hA:lC l a ms=SS[0]'(by omega):=by
        unfold lC;rw[if_pos gL,<-HK.out.2.2.1];match SS,Bq with
        |x :: xs,_=>rfl
        | [],h=>simp at h;omega
      have hM:jL l a ms=SS.tail:=by unfold jL;rw[if_pos gL,<-HK.out.2.2.1]
      have Jo:tH l a ms=kl:=by unfold tH;rw[if_pos gL,<-HK.out.1,r7]
      have Jl:ai (fun b=>b<=H+1) wr 4 (SS.tail.map Tm.az) (some ⟨g,0+4,none⟩) 0:=by
        refine lZ _ _ ?_;match SS,Bq,ZX with
        |x :: xs,_,h=>
         simp only[List.map_cons,ai]at h;exact h.2
        | [],h,_=>simp at h;omega
      have lD:SS.tail.length=ml:=by rw[List.length_tail];omega
      have qk:=aw.weaken (O':=fun b=>b<=H+1) (fun b _ e=>.inr ⟨by omega,e⟩) _ _ Vh;rw[<-hA]at qk p3;rw[<-hM]at Jl lD;have HX:=ak (And.intro gL (And.intro Jo (And.intro qk (And.intro Jl lD))));have sA:¬(i:Int)<(zl:Int):=by omega
      generalize (lC l a ms).args.length=al at *
      simp only[Nat.zero_mul,Nat.zero_add]at p0 p1 p2 p3;have hd:af ae wr wr.drew:=(af.refl ae _).drew;have S0:gC g (.int .i64 k1) (.string (B n1)) (.int .i64 i1) (.slice b1 al c1) wr.drew:=⟨hd.cell p0 (fun x=>x),hd.cell p1 (fun x=>x),hd.cell p2 (fun x=>x),hd.cell p3 (fun x=>x)⟩;have S1:gC g (.int .i64 k1) (.string (B n1)) (.int .i64 i1) (.slice b1 al c1) wr:=⟨p0,p1,p2,p3⟩;have Dq:g≠H+1:=by have:=yM g (by omega) rfl;omega
      have B9:=rL.kept hd;have UH:(0:Int)<(zl:Int):=by omega
      have mX:(1:Int)<=(zl:Int):=by omega
      have ahM:(zl:Int)<=(uc:Int):=by omega
      have Ak:zl=ml+1:=nz;have xV:uc=1\/¬uc=1:=Classical.em _;obtain⟨z0,z1,z2,z3⟩:=B9.cells;obtain⟨g0,g1,g2,g3⟩:=B9.aq;have WW:=B9.lt;obtain⟨zz0,zz1,zz2,zz3⟩:=rL.cells;obtain⟨gg0,gg1,gg2,gg3⟩:=rL.aq;have ahk:=rL.lt;clear hX m7 gL ZX hA hM Jo Jl lD qk Vh hY r7 Cx Bq nz;rcases xV with Hh |Hh
      ·have Nk:zl=1:=by omega
       subst Hh;have HZL:=ak (And.intro Nk Ak);clear Ak;subst Nk;go_upto_region 29 with fail;go_region_held3 (fun w'=>gC g (.int .i64 k1) (.string (B n1)) (.int .i64 i1) (.slice b1 al c1) w') (first |(with_reducible assumption)|(with_reducible exact S0)|(with_reducible exact gC.ag (gC.set (gC.set (gC.set (gC.set S1 Dq _ _) Dq _ _) Dq _ _) Dq _ _) (af.refl ae _).drew (fun x=>x))) (fail)
       all_goals
         go_wp2_with fail;have ah:=rL.set (d0:=.int .i64 k1) (d1:=.string (B n1)) (d2:=.int .i64 i1) (d3:=.slice b1 al c1);have qA:af ae _ _:=(af.refl ae ((((wr.setCell ⟨H+1,0,none⟩ (.int .i64 k1)).setCell ⟨H+1,1,none⟩ (.string (B n1))).setCell ⟨H+1,2,none⟩ (.int .i64 i1)).setCell ⟨H+1,3,none⟩ (.slice b1 al c1))).drew;obtain⟨w9,bf⟩:∃ z,z=((((wr.setCell ⟨H+1,0,none⟩ (.int .i64 k1)).setCell ⟨H+1,1,none⟩ (.string (B n1))).setCell ⟨H+1,2,none⟩ (.int .i64 i1)).setCell ⟨H+1,3,none⟩ (.slice b1 al c1)).drew:=⟨_,rfl⟩;have gK:=ah.1.kept qA;have bU:=ah.2.trans qA (fun _ _ e=>e.elim);rw[<-bf]at gK bU;rw[<-bf];clear bf ah qA;obtain⟨e0,e1,e2,e3⟩:=gK.cells;refine bodyPost_ret (v:=.tuple #[.agg #[.int .i64 k1,.string (B n1),.int .i64 i1,.slice b1 al c1],.slice (some ⟨g,0,none⟩) 0 0,.int .i64 (kl:Int),.int .i64 0]) ?_ rfl ?_
         ·simp[results,Tryz.f30,go_sem,e0,e1,e2,e3]
         obtain⟨gL,Jo,qk,Jl,lD⟩:=HX.out;have IG:(jL l a ms).length=0:=by rw[lD];have:=HZL.out;omega
         refine⟨k1,i1,n1,b1,al,c1,(some ⟨g,0,none⟩),0,by rw[gL,Jo,IG],by rw[IG];omega,aw.weaken (fun b _ e=>by have:=HH.out;omega) _ _ (aw.ag bU (fun b e=>by omega) _ _ qk),by rw[List.eq_nil_of_length_eq_zero IG];simp only[List.map_nil,ai],?_⟩;exact(af.yV iB (by have:=kF.out.size;have:=lg.size;omega) yM (kF.out.and mW)).trans bU (fun b hb e=>by have:=HH.out;omega)
      have HZ2:=ak Ak;clear Ak;have hu2:(1:Int)<=(uc:Int):=by omega
      have hu3:(0:Int)<=(zl:Int):=by omega
      have Gp:0<zl:=by omega
      have FJ:¬zl=0:=by omega
      have hn8:(0:Int)<(zl:Int):=by omega
      have hn7:(1:Int)<=(zl:Int):=by omega
      go_upto_region 29 with fail;go_region_held3 (fun w'=>gC g (.int .i64 k1) (.string (B n1)) (.int .i64 i1) (.slice b1 al c1) w') (first |(with_reducible assumption)|(with_reducible exact S0)|(with_reducible exact gC.ag (gC.set (gC.set (gC.set (gC.set S1 Dq _ _) Dq _ _) Dq _ _) Dq _ _) (af.refl ae _).drew (fun x=>x))) (fail)
      all_goals
        go_wp2_with fail;have ah:=rL.set (d0:=.int .i64 k1) (d1:=.string (B n1)) (d2:=.int .i64 i1) (d3:=.slice b1 al c1);have qA:af ae _ _:=(af.refl ae ((((wr.setCell ⟨H+1,0,none⟩ (.int .i64 k1)).setCell ⟨H+1,1,none⟩ (.string (B n1))).setCell ⟨H+1,2,none⟩ (.int .i64 i1)).setCell ⟨H+1,3,none⟩ (.slice b1 al c1))).drew;obtain⟨w9,bf⟩:∃ z,z=((((wr.setCell ⟨H+1,0,none⟩ (.int .i64 k1)).setCell ⟨H+1,1,none⟩ (.string (B n1))).setCell ⟨H+1,2,none⟩ (.int .i64 i1)).setCell ⟨H+1,3,none⟩ (.slice b1 al c1)).drew:=⟨_,rfl⟩;have gK:=ah.1.kept qA;have bU:=ah.2.trans qA (fun _ _ e=>e.elim);rw[<-bf]at gK bU;rw[<-bf];clear bf ah qA;obtain⟨e0,e1,e2,e3⟩:=gK.cells;refine bodyPost_ret (v:=.tuple #[.agg #[.int .i64 k1,.string (B n1),.int .i64 i1,.slice b1 al c1],.slice (some ⟨g,4,none⟩) (zl - 1) (uc - 1),.int .i64 (kl:Int),.int .i64 0]) ?_ rfl ?_
        ·simp[results,Tryz.f30,go_sem,e0,e1,e2,e3]
        obtain⟨gL,Jo,qk,Jl,lD⟩:=HX.out;have IG:(jL l a ms).length=zl - 1:=by rw[lD];have:=HZ2.out;omega
        refine⟨k1,i1,n1,b1,al,c1,(some ⟨g,4,none⟩),(uc - 1),by rw[gL,Jo,IG],by rw[IG];omega,aw.weaken (fun b _ e=>by have:=HH.out;omega) _ _ (aw.ag bU (fun b e=>by omega) _ _ qk),ai.weaken (fun b _ e=>by have:=HH.out;omega) _ _ _ _ (ai.ag bU (fun b e=>by omega) _ _ _ _ Jl),?_⟩;exact(af.yV iB (by have:=kF.out.size;have:=lg.size;omega) yM (kF.out.and mW)).trans bU (fun b hb e=>by have:=HH.out;omega)
end Go.Proofs.YthgmimncdjhgnaaGreatDoor
