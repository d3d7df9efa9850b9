/- AR Vf makes, as plain data. No program is in qP here. -/
import Derived.Test.YthgmimncdjhgnaaGreatDoorXFL
set_option maxRecDepth 100000
set_option maxHeartbeats 16000000
namespace Go.LF
open Tm Go.Proofs.YthgmimncdjhgnaaGreatDoor
def pL:Tm->Nat
  |mk k _ _ [_,b]=>if k=2 then pL b+1 else 0
  |mk _ _ _ _=>0
def nh(t:Tm)(j:Nat):Tm:=t.args.getD j aO
def ie(n:List UInt8):List UInt8:=if n=[95]then []else n
def gu(l:List Mv)(a:Tm):Nat->Int×List Mv×Tm
  |0=>(0,l,a)
  |i+1=>
   if(gu l a i).1≠0 then gu l a i
   else if dq (gu l a i).2.1.length (ie (gu l a i).2.2.name) (BZ l.length i 0 (nh (gu l a i).2.2 0))≠0 then
     (dq (gu l a i).2.1.length (ie (gu l a i).2.2.name) (BZ l.length i 0 (nh (gu l a i).2.2 0)),(gu l a i).2.1,(gu l a i).2.2)
   else(0,kU (gu l a i).2.1 (ie (gu l a i).2.2.name) (BZ l.length i 0 (nh (gu l a i).2.2 0)),nh (gu l a i).2.2 1)
theorem rB(l:List Mv)(a:Tm)(i:Nat):gu l a (i+1)=if(gu l a i).1≠0 then gu l a i
    else if dq (gu l a i).2.1.length (ie (gu l a i).2.2.name) (BZ l.length i 0 (nh (gu l a i).2.2 0))≠0 then
      (dq (gu l a i).2.1.length (ie (gu l a i).2.2.name) (BZ l.length i 0 (nh (gu l a i).2.2 0)),(gu l a i).2.1,(gu l a i).2.2)
    else(0,kU (gu l a i).2.1 (ie (gu l a i).2.2.name) (BZ l.length i 0 (nh (gu l a i).2.2 0)),nh (gu l a i).2.2 1):=by rw[gu]
theorem D4(l:List Mv)(a:Tm){i:Nat}(h:(gu l a i).1≠0):∀ k,gu l a (i+k)=gu l a i
  |0=>rfl
  |k+1=>by
   have ih:=D4 l a h k;rw[show i+(k+1)=(i+k)+1 by omega,rB,ih,if_pos h]
def nV(l:List Mv)(a:Tm)(n:Int):Int:=
  if a.wf≠0 then a.wf else if(!(a.aC || a.aI))=true then 32 else if 0<a.scope then 3 else if n<0\/(pL a:Int)<n then 33 else(gu l a n.toNat).1
def jj(l:List Mv)(a:Tm)(n:Int):List Mv:=if nV l a n=0 then(gu l a n.toNat).2.1 else l
def uM(l:List Mv)(a:Tm)(n:Int):Tm:=if nV l a n=0 then BZ l.length n 0 (gu l a n.toNat).2.2 else aO
theorem uN{a:Tm}(h:a.aC=true\/a.aI=true){m:Nat}(hm:m+1<=pL a):∃ nm i d b,a=mk 2 nm i [d,b]/\d.aC=true/\(b.aC=true\/b.aI=true)/\pL a=pL b+1:=by
  cases a with
  |mk k nm i l=>
   match l,hm with
   | [d,b],hm=>
     rw[pL]at hm;by_cases hk:k=2
     ·subst hk;rw[pL,if_pos rfl];rcases h with h |h
      ·rw[aC,isAtom]at h;rw[cI,cI,cI]at h;simp only[Bool.or_eq_true,Bool.and_eq_true,beq_iff_eq,Bool.and_true]at h;rcases h with h |h
       ·exact absurd h.1 (by decide)
       exact⟨nm,i,d,b,rfl,h.2.2.1,.inl h.2.2.2,rfl⟩
      rw[aI]at h;simp only[Bool.and_eq_true]at h;exact⟨nm,i,d,b,rfl,h.2.2.1,.inr h.2.2.2,rfl⟩
     rw[if_neg hk]at hm;omega
   | [],hm=>rw[pL]at hm;(omega);intro a b e;cases e
   | [x],hm=>rw[pL]at hm;(omega);intro a b e;cases e
   |x :: y :: z :: r,hm=>rw[pL]at hm;(omega);intro a b e;cases e
structure RfI(l:List Mv)(a:Tm)(i:Nat):Prop where
  srt:(gu l a i).2.2.aC=true\/(gu l a i).2.2.aI=true
  pis:pL (gu l a i).2.2+i=pL a
  len:(gu l a i).2.1.length=l.length+i
  wt:(gu l a i).2.2.wt<=a.wt/\(gu l a i).2.2.size+i<=a.size/\(gu l a i).2.2.depth<=a.depth
  sco:lt i (gu l a i).2.2
  pre:∃ ms:List Mv,(gu l a i).2.1=l++ms/\∀ m∈ms,m.type.wt<=a.wt/\m.value=[]
theorem Ue{l:List Mv}{a:Tm}(h:a.aC=true\/a.aI=true)(hs:lt 0 a):∀ i,i<=pL a->(gu l a i).1=0->RfI l a i:=by
  intro i;induction i with
  |zero=>intro _ _;exact⟨h,rfl,rfl,⟨Nat.le_refl _,Nat.le_refl _,Nat.le_refl _⟩,hs,[],by rw[gu,List.append_nil],fun m hm=>by cases hm⟩
  |succ i ih=>
   intro hi he;rw[rB]at he;by_cases h1:(gu l a i).1≠0
   ·rw[if_pos h1]at he;exact absurd he h1
   rw[if_neg h1]at he;have I:=ih (by omega) (by omega);by_cases h2:dq (gu l a i).2.1.length (ie (gu l a i).2.2.name) (BZ l.length i 0 (nh (gu l a i).2.2 0))≠0
   ·rw[if_pos h2]at he;exact absurd he h2
   have e:gu l a (i+1)=(0,kU (gu l a i).2.1 (ie (gu l a i).2.2.name) (BZ l.length i 0 (nh (gu l a i).2.2 0)),nh (gu l a i).2.2 1):=by rw[rB,if_neg h1,if_neg h2]
   have IW:kU (gu l a i).2.1 (ie (gu l a i).2.2.name) (BZ l.length i 0 (nh (gu l a i).2.2 0))=(gu l a i).2.1++[⟨ie (gu l a i).2.2.name,BZ l.length i 0 (nh (gu l a i).2.2 0),[]⟩]:=by unfold kU;rw[if_neg h2]
   have hp:=I.pis;obtain⟨nm,ix,d,b,e2,hd,hb,LH⟩:=uN I.srt (m:=0) (by omega);have en0:nh (gu l a i).2.2 0=d:=by rw[e2];rfl
   have en1:nh (gu l a i).2.2 1=b:=by rw[e2];rfl
   obtain⟨w1,w2,w3⟩:=I.wt;have fJ:=I.sco;obtain⟨ms,em,hm⟩:=I.pre;have hl:=I.len;rw[IW]at e;rw[en0,en1]at e;rw[e2]at w1 w2 w3 fJ hp LH;rw[cU,eV,eV,eV]at w1;rw[aM,aD,aD,aD]at w2;rw[cD,aQ,aQ,aQ]at w3;rw[iW,cN,cN]at fJ;have hsd:aD [d,b]=d.size+b.size:=by rw[aD,aD,aD];omega
   refine⟨by rw[e];exact hb,by rw[e];show pL b+(i+1)=pL a;omega,by rw[e];show(_++[_]).length=_;rw[List.length_append,List.length_singleton];omega,by rw[e];exact⟨by show b.wt<=_;omega,by show b.size+(i+1)<=_;have:=size_pos d;omega,by show b.depth<=_;omega⟩,?_,?_⟩
   ·rw[e];show lt ((i+1:Nat):Int) b;have:=fJ.2.2.1;simpa[under]using this
   refine⟨ms++[⟨ie (gu l a i).2.2.name,BZ l.length i 0 d,[]⟩],by rw[e];show(gu l a i).2.1++_=_;rw[em,List.append_assoc],fun m FI=>?_⟩;rcases List.mem_append.1 FI with h |h
   ·exact hm m h
   rw[List.mem_singleton.1 h];refine⟨?_,rfl⟩;show(BZ l.length i 0 d).wt<=a.wt;unfold BZ;rw[Bn];omega
end Go.LF
namespace Go.Proofs.YthgmimncdjhgnaaGreatDoor
section
open Go.RowKit Go.LF
def Pv(w0:World)(F:FuncId)(jJ:List Value)(c:Int->Int->Int->Int×Int)(ok:Int->Int->Prop):Prop:=
  ∀(W:World)(tb:Nat)(k i d:Int)(nm:List UInt8)(v:Value),af ae w0 W->0<=d->d<=1000000->ok k i->w0.heap.size<=tb->au W tb (.int .i64 k) (.string (B nm)) (.int .i64 i) v 29->
   Calls Tryz.prog F (.pointer (some ⟨tb,0,none⟩) :: .int .i64 d :: jJ).toArray W fun e W'=>e=.returned (.tuple #[])/\au W' tb (.int .i64 (c d k i).1) (.string (B nm)) (.int .i64 (c d k i).2) v 29/\af (fun b=>b=tb) W W'
theorem J1(c:Int->Int->Int->Int×Int)(ok:Int->Int->Prop)(w0:World)(BU K:Nat)(F:FuncId)(jJ:List Value)(hF:Pv w0 F jJ c ok)(Xe:∀ args w,Sem.run Tryz.prog (callFunc F args) w=.ok (Next.enter F args) w)(t:Tm):t.size<=100000->(∀ b,∀ x∈t.nodes b,ok x.k x.i)->
    ∀(b:Int)(w:World)(cs:List Value),0<=b->b+t.size<=1000000->aw ae w t.az cs->af ae w0 w->w.cell? ⟨BU,0,none⟩=some (.func (.func F) #[] jJ.toArray)->
    w.cell? ⟨K,0,none⟩=some (.func (.func 175) #[] #[.pointer (some ⟨K,0,none⟩),.pointer (some ⟨BU,0,none⟩)])->
    Calls Tryz.prog 175 #[.agg cs.toArray,.int .i64 b,.pointer (some ⟨K,0,none⟩),.pointer (some ⟨BU,0,none⟩)] w (xe (xQ c b t) (fun x=>x<w.heap.size) w):=by
  induction t using Tm.ind with
  |h k nm i ts ih=>
   intro ee gD b w cs Rz iV hR m9 hT hK;obtain⟨a,cap,rfl,aX,hE⟩:=bg.1 hR;have hlen:=Tm.aA ts;simp only[Tm.aM]at ee iV;have Ay:=gD b;rw[Tm.br]at Ay;have GC:ok k i:=Ay _ (List.mem_cons_self ..)
   have GL:∀ x∈ts,∀ b,∀ y∈x.nodes b,ok y.k y.i:=by
     intro x hx b' y hy;obtain⟨j,hj,rfl⟩:=List.getElem_of_mem hx;exact gD (b' - Tm.under k j) y (Tm.se j hj (by rw[show b' - Tm.under k j+Tm.under k j=b' by omega];exact hy))
   have agA:BU<w.heap.size:=World.block_lt_of_cell? w _ hT;have hKb:K<w.heap.size:=World.block_lt_of_cell? w _ hK;obtain⟨w2,dY⟩:∃ w2,w2=((w.alloc (.cells #[.int .i64 k,.string (B nm),.int .i64 i,.slice a ts.length cap] 29)).alloc (.cells #[.int .i64 0,.string (B []),.int .i64 0,.slice none 0 0] 29)).alloc (.cells #[.int .i64 k,.string (B nm),.int .i64 i,.slice a ts.length cap] 29):=⟨_,rfl⟩;have aL:af ae w w2:=by rw[dY];exact(((af.refl ae w).alloc _).alloc _).alloc _
   have iD:au w2 w.heap.size (.int .i64 k) (.string (B nm)) (.int .i64 i) (.slice a ts.length cap) 29:=by rw[dY];exact((au.av rfl).kept ((af.refl ae _).alloc _)).kept ((af.refl ae _).alloc _)
   have dO:au w2 (w.heap.size+1) (.int .i64 0) (.string (B [])) (.int .i64 0) (.slice none 0 0) 29:=by rw[dY];exact(au.av (by simp)).kept ((af.refl ae _).alloc _)
   have qq:au w2 (w.heap.size+1+1) (.int .i64 k) (.string (B nm)) (.int .i64 i) (.slice a ts.length cap) 29:=by rw[dY];exact au.av (by simp)
   have yZ:=aL.cell hT (fun x=>x);have KP:=aL.cell hK (fun x=>x);obtain⟨t0,t1,t2,t3⟩:=iD.cells;obtain⟨f0,f1,f2,f3⟩:=qq.aq;obtain⟨o0,o1,o2,o3⟩:=qq.cells;have B7:=ak dY;have HW:=ak (And.intro ee iV);have kJ:ai (fun x=>w.heap.size<=x) w2 4 (ts.map Tm.az) a 0:=ai.weaken (fun b _ e=>.inr e) _ _ _ _ ((ai.aG _ _ _ _ hE).on aL);clear dY hR Ay gD;go_enter Tryz.func175,Tryz.ntmps175;go_upto_region 2 with fail;rw[<-B7.out];go_wp2_with fail;have hwz:w.heap.size+1+1<w2.heap.size:=qq.lt;refine(oq ts (fun x=>w.heap.size<=x) w2 a cap (by omega) kJ).mono ?_;rintro e w4 ⟨v,css,rfl,hS,bw⟩;obtain⟨sa,sc,rfl,fJ,_⟩:=hS.cells;have xK:=jf.start (okb:=w.heap.size) (lo:=w.heap.size) hS (fun b e=>.inl (by omega));have Ib:=iD.kept bw;have iX:=dO.kept bw;have ho4:=qq.kept bw;obtain⟨base,dh⟩:∃ base,base=w2.heap.size:=⟨_,rfl⟩;rw[<-dh]at xK hwz;have EE:base<=w4.heap.size:=by rw[dh];exact bw.size
   have MU:af ae w w4:=aL.and bw;clear t0 t1 t2 t3 f0 f1 f2 f3 o0 o1 o2 o3 hS kJ;obtain⟨t0,t1,t2,t3⟩:=Ib.cells;obtain⟨o0,o1,o2,o3⟩:=ho4.cells;obtain⟨f0,f1,f2,f3⟩:=ho4.aq;clear dh bw aL iD dO qq yZ KP;go_wp2_with fail;obtain⟨w5,gT⟩:∃ w5,w5=w4.setCell ⟨w.heap.size+1+1,3,none⟩ (.slice sa ts.length sc):=⟨_,rfl⟩;have fH:af (fun x=>x=w.heap.size+1+1) w4 w5:=by rw[gT];exact af.set (af.refl _ _) 3 _
   have XH:au w5 (w.heap.size+1+1) (.int .i64 k) (.string (B nm)) (.int .i64 i) (.slice sa ts.length sc) 29:=by rw[gT];exact ho4.mH _
   have I9:=Ib.ag fH (by omega);have dR:=iX.ag fH (by omega);have rT:af ae w w5:=MU.trans fH (fun x hx e=>by omega);have yz:=fH.size;have GG:jf w.heap.size w.heap.size base w5 sa [] ts:=xK.ag fH (fun b e=>⟨.inr (by omega),by omega⟩);rw[<-gT];clear gT Ib iX ho4 xK fH MU t0 t1 t2 t3 f0 f1 f2 f3 o0 o1 o2 o3;obtain⟨t0,t1,t2,t3⟩:=I9.cells
   go_loopw [19] (fun Tu wr=>∃(j:Nat)(us:List Tm),Tu=.int .i64 (j:Int)/\j<=ts.length/\us=pO c b k 0 (ts.take j)/\jf w.heap.size w.heap.size base wr sa us ts/\
       au wr (w.heap.size+1+1) (.int .i64 k) (.string (B nm)) (.int .i64 i) (.slice sa ts.length sc) 29/\au wr (w.heap.size+1) (.int .i64 0) (.string (B [])) (.int .i64 0) (.slice none 0 0) 29/\
       au wr w.heap.size (.int .i64 k) (.string (B nm)) (.int .i64 i) (.slice a ts.length cap) 29/\af ae w wr/\base<=wr.heap.size)
     (fun Tu _=>ts.length - (intOf Tu).toNat)
   case atStart=>exact⟨0,[],rfl,Nat.zero_le _,by rw[List.take_zero,eW],GG,XH,dR,I9,rT,by omega⟩
   clear XH dR I9 rT GG t0 t1 t2 t3;obtain⟨j,us,rfl,hj,gd,hM,hB,xG,xq,hU,Ax⟩:=hrel;obtain⟨x0,x1,x2,x3⟩:=hB.cells;obtain⟨t0,t1,t2,t3⟩:=xq.cells;have qB:=hB.lt;have Dp:(j:Int)<=100000:=by omega
   have Fl:(0:Int)<=(j:Int):=by omega
   have hTo:=hU.cell hT (fun x=>x);have Jb:=hU.cell hK (fun x=>x);have Qf:af ae w0 wr:=m9.and hU;have cZ:us.length=j:=by rw[gd,fu,List.length_take];omega
   have HS:=ak (And.intro cZ gd);clear cZ gd;by_cases aB:j<ts.length
   ·obtain⟨g,cs,e,EF,px,sR,Km,iQ,_,_⟩:=hM j aB;subst e;obtain⟨eb,eo,kj,nj,ij,aj,cj,rfl,mz,_,p0,p1,p2,p3,oO⟩:=aY (hE.on hU) j aB;have ET:(j:Int)<(ts.length:Int):=by omega
    have yA:=Tm.aK (List.getElem_mem aB);have qx:=Tm.bZ k j;have IH:=fun w'(h1:aw ae w' (ts[j]'aB).az [.int .i64 kj,.string (B nj),.int .i64 ij,.slice aj (ts[j]'aB).args.length cj])=>ih (ts[j]'aB) (List.getElem_mem aB) (by omega) (GL _ (List.getElem_mem aB)) (b+Tm.under k j) w' _ (by omega) (by omega) h1
    have yN:=ak (show j<ts.length from aB);have ym:w.heap.size+1+1≠g:=by omega
    have yP:K≠g:=by omega
    have tZ:wr.heap.size≠g:=by omega
    obtain⟨us1,QK⟩:∃ q,xQ c (b+Tm.under k j) (ts[j]'aB)=q:=⟨_,rfl⟩;simp only[QK]at IH;have HU1:=ak QK;have jh:=pz c b k ts j aB;rw[QK]at jh;have HTL:=ak jh;clear jh QK;generalize (ts[j]'aB).args.length=Bg at *
    have rest:=jW k j;generalize hu:Tm.under k j=u at *
    obtain⟨wa,mP⟩:∃ wa,wa=wr.alloc (.cells #[.int .i64 kj,.string (B nj),.int .i64 ij,.slice aj Bg cj] 29):=⟨_,rfl⟩;have dM:af ae wr wa.drew:=by rw[mP];exact((af.refl ae wr).alloc _).drew
    have PE:wa.drew.heap.size=wr.heap.size+1:=by rw[mP];simp[World.drew]
    have Zt:gC wr.heap.size (.int .i64 kj) (.string (B nj)) (.int .i64 ij) (.slice aj Bg cj) wa.drew:=by rw[mP];exact gC.ag (au.av (T:=29) rfl).cells (af.refl ae _).drew (fun x=>x)
    have S0:BT (w.heap.size+1+1) K wr.heap.size (some ⟨g,0,none⟩) ts.length sc (.func (.func 175) #[] #[.pointer (some ⟨K,0,none⟩),.pointer (some ⟨BU,0,none⟩)]) (.int .i64 kj) (.string (B nj)) (.int .i64 ij) (.slice aj Bg cj) wa.drew:=⟨dM.cell x3 (fun x=>x),dM.cell Jb (fun x=>x),Zt⟩;have LY:=IH _ (oO.on dM) (Qf.and dM) (dM.cell hTo (fun x=>x)) (dM.cell Jb (fun x=>x));have q0:wa.cell? ⟨w.heap.size,0,none⟩=some (.int .i64 k):=by rw[mP];exact((af.refl ae wr).alloc _).cell t0 (fun x=>x)
    clear t0;have NV:=ak mP;clear mP IH oO Zt hTo qx;rcases rest with⟨k3,rfl⟩|⟨k3,k2,j1,rfl⟩|⟨k3,k2,j1,rfl⟩|⟨k3,k2,rfl⟩
    all_goals
      have HU:=ak hu;clear hu;try simp only[Int.add_zero]at LY
      go_upto_region 6 with fail;rw[<-NV.out];go_wp2_with fail
      go_region_held3 (fun w'=>BT (w.heap.size+1+1) K wr.heap.size (some ⟨g,0,none⟩) ts.length sc (.func (.func 175) #[] #[.pointer (some ⟨K,0,none⟩),.pointer (some ⟨BU,0,none⟩)]) (.int .i64 kj) (.string (B nj)) (.int .i64 ij) (.slice aj Bg cj) w')
        (first |(with_reducible assumption)|(with_reducible exact S0)|(with_reducible exact BT.set (BT.set (BT.set (BT.set S6 ym yP tZ _ _) ym yP tZ _ _) ym yP tZ _ _) ym yP tZ _ _))
        ((go_at_call 175;refine LY.mono ?_;rintro e w6 ⟨k6,i6,n6,a6,l6,c6,rfl,dg,bj⟩;have S6:=S0.ag bj (fun x=>x) (fun x=>x) (fun x=>x);have cL:af ae wr w6:=dM.and bj;obtain⟨g',qs,e6,_,_,f6,n6',g6,_,_⟩:=(hM.kept cL) j aB;obtain rfl:g=g':=(by cases e6;rfl);have DN:=cL.size;obtain⟨v0,Kx⟩:∃ q,w6.cell? ⟨g,j * 4,none⟩=some q:=⟨_,g6 0 _ (List.getElem?_eq_getElem (by rw[n6'];decide))⟩;obtain⟨v1,Hd⟩:∃ q,w6.cell? ⟨g,j * 4+1,none⟩=some q:=⟨_,g6 1 _ (List.getElem?_eq_getElem (by rw[n6'];decide))⟩;obtain⟨v2,RL⟩:∃ q,w6.cell? ⟨g,j * 4+2,none⟩=some q:=⟨_,g6 2 _ (List.getElem?_eq_getElem (by rw[n6'];decide))⟩;obtain⟨v3,Ki⟩:∃ q,w6.cell? ⟨g,j * 4+3,none⟩=some q:=⟨_,g6 3 _ (List.getElem?_eq_getElem (by rw[n6'];decide))⟩;have hg6:g<w6.heap.size:=Nat.lt_of_lt_of_le px cL.size))
    all_goals
      have jd:=jf.next (u:=us1) (d0:=.int .i64 k6) (d1:=.string (B n6)) (d2:=.int .i64 i6) (d3:=.slice a6 l6 c6) (hM.kept cL) (by have:=HS.out.1;have:=yN.out;omega) (by omega) (aw.weaken (fun b _ e=>by omega) _ _ dg) rfl;rw[HS.out.1]at jd;have mq:=(hB.kept cL).ag jd.2 (by omega);have oK:=(xG.kept cL).ag jd.2 (by omega);have Pt:=(xq.kept cL).ag jd.2 (by omega);have bU:=(hU.and cL).trans jd.2 (fun x hx e=>by omega);have hz9:=jd.2.size;have n2:us++[us1]=pO c b k 0 (ts.take (j+1)):=by rw[HTL.out,HS.out.2]
      have HN:=ak n2;clear n2;go_wp2_with fail;go_roundw;case rel=>exact⟨j+1,us++[us1],by go_num,Nat.succ_le_of_lt yN.out,HN.out,jd.1,mq,oK,Pt,bU,by omega⟩
      (have:=yN.out;simp[intOf];omega)
   have b7:j=ts.length:=by omega
   have tB:=hM.rep (by have:=HS.out.1;omega);have sA:¬(j:Int)<(ts.length:Int):=by omega
   have CH:=hF wr (w.heap.size+1+1) k i b nm (.slice sa ts.length sc) Qf Rz (by omega) GC (by have:=m9.size;omega) hB;have WU:us=pO c b k 0 ts:=by rw[HS.out.2,b7,List.take_length]
   have F0:us.length=ts.length:=by rw[WU,fu]
   have KX:=hB.lt;have HJ:=ak (And.intro WU F0);clear hM b7 WU F0 x0 x1 x2 x3 t0 t1 t2 t3 hF hE;go_wp2_with fail
   (with_reducible refine CH.mono ?_);rintro e w7 ⟨rfl,yl,cm⟩;have og:=xG.ag cm (by omega);have Qd:ai (fun x=>x<w.heap.size+1+1) w7 4 (us.map Tm.az) sa 0:=ai.weaken (fun b _ e=>by omega) _ _ _ _ (ai.ag cm (fun b e=>by omega) _ _ _ _ tB);have aha:=hU.trans cm (fun x hx e=>by omega);clear CH tB hB xG xq;obtain⟨k7,Xu⟩:∃ q,q=(c b k i).1:=⟨_,rfl⟩;obtain⟨i7,hi7⟩:∃ q,q=(c b k i).2:=⟨_,rfl⟩;rw[<-Xu,<-hi7]at yl;have HKI:=ak (And.intro Xu hi7);clear Xu hi7 cm;obtain⟨x0,x1,x2,x3⟩:=yl.cells;obtain⟨r0,r1,r2,r3⟩:=og.cells;obtain⟨rf0,Zm,rf2,Y0⟩:=og.aq;have j4:=og.lt;go_wp2_with fail;obtain⟨w9,bf⟩:∃ w9,w9=(((w7.setCell ⟨w.heap.size+1,0,none⟩ (.int .i64 k7)).setCell ⟨w.heap.size+1,1,none⟩ (.string (B nm))).setCell ⟨w.heap.size+1,2,none⟩ (.int .i64 i7)).setCell ⟨w.heap.size+1,3,none⟩ (.slice sa ts.length sc):=⟨_,rfl⟩;have aJ:=og.set (d0:=.int .i64 k7) (d1:=.string (B nm)) (d2:=.int .i64 i7) (d3:=.slice sa ts.length sc);rw[<-bf]at aJ;rw[<-bf];clear bf;obtain⟨e0,e1,e2,e3⟩:=aJ.1.cells;refine bodyPost_ret (v:=.agg #[.int .i64 k7,.string (B nm),.int .i64 i7,.slice sa ts.length sc]) ?_ rfl ?_
   ·simp[results,Tryz.f175,go_sem,e0,e1,e2,e3]
   refine⟨k7,i7,nm,sa,ts.length,sc,rfl,?_,aha.trans aJ.2 (fun x hx e=>by omega)⟩;rw[jv,<-HJ.out.1,<-HKI.out.1,<-HKI.out.2];exact bg.2 ⟨sa,sc,by rw[HJ.out.2],by rw[HJ.out.2];exact fJ,ai.weaken (fun b _ e=>by omega) _ _ _ _ (ai.ag aJ.2 (fun b e=>by omega) _ _ _ _ Qd)⟩
end
section
open Go.RowKit Go.LF
theorem tu(c:Int->Int->Int->Int×Int)(ok:Int->Int->Prop)(F:FuncId)(jJ:List Value)(t:Tm)(w:World)(cs:List Value)(hF:Pv w F jJ c ok)(Xe:∀ args w,Sem.run Tryz.prog (callFunc F args) w=.ok (Next.enter F args) w)(ee:t.size<=100000)
    (gD:∀ b,∀ x∈t.nodes b,ok x.k x.i) (h:aw ae w t.az cs):Calls Tryz.prog 134 #[.agg cs.toArray,.func (.func F) #[] jJ.toArray] w (xe (xQ c 0 t) (fun x=>x<w.heap.size) w):=by
  obtain⟨k,n,i,ts,a,cap,ht,rfl,aX,hE⟩:=aP h;have hW:=fun BU K w' h1 h2 h3 h4=>J1 c ok w BU K F jJ hF Xe t ee gD 0 w' [.int .i64 k,.string (B n),.int .i64 i,.slice a ts.length cap] (by omega) (by omega) h1 h2 h3 h4
  clear hF gD hE aX ht;generalize ts.length=len at *
  obtain⟨w3,cQ⟩:∃ w3,w3=((w.alloc (.cells #[.int .i64 k,.string (B n),.int .i64 i,.slice a len cap] 29)).alloc (.cells #[.func (.func F) #[] jJ.toArray] 148)).alloc (.cells #[.int .i64 0,.string (B []),.int .i64 0,.slice none 0 0] 29):=⟨_,rfl⟩;obtain⟨w5,gT⟩:∃ w5,w5=w3.alloc (.cells #[.func (.func 175) #[] #[.pointer (some ⟨w.heap.size+1+1+1,0,none⟩),.pointer (some ⟨w.heap.size+1,0,none⟩)]] 106):=⟨_,rfl⟩;have vY:w3.heap.size=w.heap.size+1+1+1:=by rw[cQ];simp
  have aZ:af ae w w3:=by rw[cQ];exact(((af.refl ae w).alloc _).alloc _).alloc _
  have ba:af ae w3 w5:=by rw[gT];exact(af.refl ae w3).alloc _
  have jg:=aZ.and ba
  have qT:cq w5 (w.heap.size+1) (.func (.func F) #[] jJ.toArray) 148:=by
    refine cq.kept ?_ ba;rw[cQ];exact(cq.av (by simp)).kept ((af.refl ae _).alloc _)
  have dR:au w5 (w.heap.size+1+1) (.int .i64 0) (.string (B [])) (.int .i64 0) (.slice none 0 0) 29:=by
    refine au.kept ?_ ba;rw[cQ];exact au.av (by simp)
  have I9:au w5 w.heap.size (.int .i64 k) (.string (B n)) (.int .i64 i) (.slice a len cap) 29:=by
    refine au.kept ?_ ba;rw[cQ];exact((au.av rfl).kept ((af.refl ae _).alloc _)).kept ((af.refl ae _).alloc _)
  have uG:cq w5 (w.heap.size+1+1+1) (.func (.func 175) #[] #[.pointer (some ⟨w.heap.size+1+1+1,0,none⟩),.pointer (some ⟨w.heap.size+1,0,none⟩)]) 106:=by rw[gT];exact cq.av vY
  have hWW:=hW (w.heap.size+1) (w.heap.size+1+1+1) w5 (h.on jg) jg qT.cell uG.cell;have hK0:=uG.cell;obtain⟨t0,t1,t2,t3⟩:=I9.cells;rw[cQ]at gT;have GK:=ak gT;clear hW cQ gT aZ ba h uG qT vY w3;go_enter Tryz.func134,Tryz.ntmps134;go_upto_region 3 with fail;rw[<-show B []={ data:=#[] }from rfl,<-GK.out];go_wp2_with fail;refine hWW.mono ?_;rintro e w6 ⟨k6,i6,n6,a6,l6,c6,rfl,dg,bj⟩;have fD:=dR.kept bj;obtain⟨x0,x1,x2,x3⟩:=fD.cells;obtain⟨y0,y1,y2,y3⟩:=fD.aq;have qr:=fD.lt;have jC:af ae w w6:=jg.and bj;have aer:=jg.size;go_wp2_with fail;obtain⟨w9,bf⟩:∃ w9,w9=(((w6.setCell ⟨w.heap.size+1+1,0,none⟩ (.int .i64 k6)).setCell ⟨w.heap.size+1+1,1,none⟩ (.string (B n6))).setCell ⟨w.heap.size+1+1,2,none⟩ (.int .i64 i6)).setCell ⟨w.heap.size+1+1,3,none⟩ (.slice a6 l6 c6):=⟨_,rfl⟩;have ah:=fD.set (d0:=.int .i64 k6) (d1:=.string (B n6)) (d2:=.int .i64 i6) (d3:=.slice a6 l6 c6);rw[<-bf]at ah;rw[<-bf];clear bf;obtain⟨e0,e1,e2,e3⟩:=ah.1.cells;refine bodyPost_ret (v:=.agg #[.int .i64 k6,.string (B n6),.int .i64 i6,.slice a6 l6 c6]) ?_ rfl ?_
  ·simp[results,Tryz.f134,go_sem,e0,e1,e2,e3]
  exact⟨k6,i6,n6,a6,l6,c6,rfl,aw.weaken (fun b _ e=>by have:=jg.size;have:=dR.lt;omega) _ _ (aw.ag ah.2 (fun b e=>by have:=dR.lt;omega) _ _ dg),jC.trans ah.2 (fun x hx e=>by omega)⟩
theorem J3(w0:World)(p:Nat)(hp:p<=1000000)(nb:Nat)(hn:w0.cell? ⟨nb,0,none⟩=some (.int .i64 (p:Int))):Pv w0 135 [.pointer (some ⟨nb,0,none⟩)] (eS (p:Int)) (fun k i=>k=6->0<=i/\i<=1048576):=by
  intro W tb k i d nm v hU KJ te gD rK hB;have hnW:=hU.cell hn (fun x=>x);have Kv:nb<w0.heap.size:=World.block_lt_of_cell? w0 _ hn;have gJ:¬nb=tb:=by omega
  obtain⟨x0,x1,x2,x3⟩:=hB.cells;obtain⟨y0,y1,y2,y3⟩:=hB.aq;have aB:=hB.lt;have hp1:(p:Int)<=1000000:=by omega
  have XF:(0:Int)<=(p:Int):=by omega
  by_cases h6:k=6
  ·have hi:=gD h6;obtain⟨fS,gn⟩:=hi;have hc:eS (p:Int) d k i=(5,d+p - 1 - i):=by unfold eS;rw[if_pos h6]
   rw[hc];have hz:(k == 6)=true:=by simp[h6]
   have HB:=ak hB;clear gD hc h6 hB hn hU;go_enter Tryz.func135,Tryz.ntmps135;go_wp2_with fail;go_region
   all_goals
     go_wp2_with fail;go_end0
     exact⟨rfl,(HB.out.ui _).kG _,(af.set (af.set (af.refl _ W) 0 _) 2 _).drew⟩
  have hc:eS (p:Int) d k i=(k,i):=by unfold eS;rw[if_neg h6]
  rw[hc];have hz:(k == 6)=false:=by simp[h6]
  have HB:=ak hB;clear gD hc h6 hB hn hU;go_enter Tryz.func135,Tryz.ntmps135;go_wp2_with fail;go_end0
  exact⟨rfl,HB.out,af.refl _ _⟩
theorem Ji(w0:World)(f n:Nat)(hf:f<=1000000)(hn:n<=1000000)(fb nb:Nat)(RH:w0.cell? ⟨fb,0,none⟩=some (.int .i64 (f:Int)))(kz:w0.cell? ⟨nb,0,none⟩=some (.int .i64 (n:Int))):
    Pv w0 142 [.pointer (some ⟨fb,0,none⟩),.pointer (some ⟨nb,0,none⟩)] (A7 (f:Int) (n:Int)) (fun k i=>k=5->0<=i/\i<=1048576):=by
  intro W tb k i d nm v hU KJ te gD rK hB;have hnW:=hU.cell kz (fun x=>x);have hfW:=hU.cell RH (fun x=>x);have Kv:nb<w0.heap.size:=World.block_lt_of_cell? w0 _ kz;have DO:fb<w0.heap.size:=World.block_lt_of_cell? w0 _ RH;have gJ:¬nb=tb:=by omega
  have aoY:¬fb=tb:=by omega
  obtain⟨x0,x1,x2,x3⟩:=hB.cells;obtain⟨y0,y1,y2,y3⟩:=hB.aq;have aB:=hB.lt;have EL:(n:Int)<=1000000:=by omega
  have Gp:(0:Int)<=(n:Int):=by omega
  have tU:(f:Int)<=1000000:=by omega
  have hf0:(0:Int)<=(f:Int):=by omega
  have HB:=ak hB;by_cases h5:k=5
  ·obtain⟨fS,gn⟩:=gD h5;have hz:(k == 5)=true:=by simp[h5]
   by_cases OS:d<=i
   ·have hc:A7 (f:Int) (n:Int) d k i=(6,f+n - 1 - (i - d)):=by unfold A7;rw[if_pos ⟨h5,OS⟩]
    rw[hc];clear gD hc h5 hB RH kz hU;go_enter Tryz.func142,Tryz.ntmps142;go_wp2_with fail;go_region
    all_goals
      go_wp2_with fail;go_end0
      exact⟨rfl,(HB.out.ui _).kG _,(af.set (af.set (af.refl _ W) 0 _) 2 _).drew⟩
   have hc:A7 (f:Int) (n:Int) d k i=(k,i):=by unfold A7;rw[if_neg (fun e=>OS e.2)]
   rw[hc];clear gD hc h5 hB RH kz hU;go_enter Tryz.func142,Tryz.ntmps142;go_wp2_with fail;go_end0
   exact⟨rfl,HB.out,af.refl _ _⟩
  have hc:A7 (f:Int) (n:Int) d k i=(k,i):=by unfold A7;rw[if_neg (fun e=>h5 e.1)]
  rw[hc];have hz:(k == 5)=false:=by simp[h5]
  clear gD hc h5 hB RH kz hU;go_enter Tryz.func142,Tryz.ntmps142;go_wp2_with fail;go_end0
  exact⟨rfl,HB.out,af.refl _ _⟩
theorem Ec(t:Tm)(p:Nat)(hp:p<=1000000)(w:World)(cs:List Value)(ee:t.size<=100000)(gD:∀ b,∀ x∈t.nodes b,x.k=6->0<=x.i/\x.i<=1048576)(h:aw ae w t.az cs):
    Calls Tryz.prog 73 #[.agg cs.toArray,.int .i64 (p:Int)] w (xe (sH (p:Int) 0 t) (fun x=>x<w.heap.size) w):=by
  obtain⟨k,n,i,ts,a,cap,ht,rfl,aX,hE⟩:=aP h;clear hE aX ht;generalize ts.length=len at *
  obtain⟨w3,cQ⟩:∃ w3,w3=((w.alloc (.cells #[.int .i64 k,.string (B n),.int .i64 i,.slice a len cap] 29)).alloc (.cells #[.int .i64 (p:Int)] 3)).alloc (.cells #[.int .i64 0,.string (B []),.int .i64 0,.slice none 0 0] 29):=⟨_,rfl⟩;have aZ:af ae w w3:=by rw[cQ];exact(((af.refl ae w).alloc _).alloc _).alloc _
  have hn3:cq w3 (w.heap.size+1) (.int .i64 (p:Int)) 3:=by rw[cQ];exact(cq.av (by simp)).kept ((af.refl ae _).alloc _)
  have iL:au w3 (w.heap.size+1+1) (.int .i64 0) (.string (B [])) (.int .i64 0) (.slice none 0 0) 29:=by rw[cQ];exact au.av (by simp)
  have rH:au w3 w.heap.size (.int .i64 k) (.string (B n)) (.int .i64 i) (.slice a len cap) 29:=by rw[cQ];exact((au.av rfl).kept ((af.refl ae _).alloc _)).kept ((af.refl ae _).alloc _)
  have RP:=tu (eS (p:Int)) _ 135 [.pointer (some ⟨w.heap.size+1,0,none⟩)] t w3 _ (J3 w3 p hp (w.heap.size+1) hn3.cell) (fun _ _=>rfl) ee gD (h.on aZ);obtain⟨t0,t1,t2,t3⟩:=rH.cells;have Nu:=ak cQ;clear cQ gD h hn3;go_enter Tryz.func73,Tryz.ntmps73;go_upto_region 1 with fail;rw[<-show B []={ data:=#[] }from rfl,<-Nu.out];go_wp2_with fail;refine RP.mono ?_;rintro e w6 ⟨k6,i6,n6,a6,l6,c6,rfl,dg,bj⟩;have fD:=iL.kept bj;obtain⟨x0,x1,x2,x3⟩:=fD.cells;obtain⟨y0,y1,y2,y3⟩:=fD.aq;have qr:=fD.lt;have jC:af ae w w6:=aZ.and bj;go_wp2_with fail;obtain⟨w9,bf⟩:∃ w9,w9=(((w6.setCell ⟨w.heap.size+1+1,0,none⟩ (.int .i64 k6)).setCell ⟨w.heap.size+1+1,1,none⟩ (.string (B n6))).setCell ⟨w.heap.size+1+1,2,none⟩ (.int .i64 i6)).setCell ⟨w.heap.size+1+1,3,none⟩ (.slice a6 l6 c6):=⟨_,rfl⟩;have ah:=fD.set (d0:=.int .i64 k6) (d1:=.string (B n6)) (d2:=.int .i64 i6) (d3:=.slice a6 l6 c6);rw[<-bf]at ah;rw[<-bf];clear bf;obtain⟨e0,e1,e2,e3⟩:=ah.1.cells;refine bodyPost_ret (v:=.agg #[.int .i64 k6,.string (B n6),.int .i64 i6,.slice a6 l6 c6]) ?_ rfl ?_
  ·simp[results,Tryz.f73,go_sem,e0,e1,e2,e3]
  exact⟨k6,i6,n6,a6,l6,c6,rfl,aw.weaken (fun b _ e=>by have:=aZ.size;omega) _ _ (aw.ag ah.2 (fun b e=>by have:=iL.lt;omega) _ _ dg),jC.trans ah.2 (fun x hx e=>by omega)⟩
theorem D2(t:Tm)(f p:Nat)(hf:f<=1000000)(hp:p<=1000000)(w:World)(cs:List Value)(ee:t.size<=100000)(gD:∀ b,∀ x∈t.nodes b,x.k=5->0<=x.i/\x.i<=1048576)(h:aw ae w t.az cs):
    Calls Tryz.prog 84 #[.agg cs.toArray,.int .i64 (f:Int),.int .i64 (p:Int)] w (xe (BZ (f:Int) (p:Int) 0 t) (fun x=>x<w.heap.size) w):=by
  obtain⟨k,n,i,ts,a,cap,ht,rfl,aX,hE⟩:=aP h;clear hE aX ht;generalize ts.length=len at *
  obtain⟨w3,cQ⟩:∃ w3,w3=(((w.alloc (.cells #[.int .i64 k,.string (B n),.int .i64 i,.slice a len cap] 29)).alloc (.cells #[.int .i64 (f:Int)] 3)).alloc (.cells #[.int .i64 (p:Int)] 3)).alloc (.cells #[.int .i64 0,.string (B []),.int .i64 0,.slice none 0 0] 29):=⟨_,rfl⟩;have aZ:af ae w w3:=by rw[cQ];exact((((af.refl ae w).alloc _).alloc _).alloc _).alloc _
  have OQ:cq w3 (w.heap.size+1) (.int .i64 (f:Int)) 3:=by rw[cQ];exact((cq.av (by simp)).kept ((af.refl ae _).alloc _)).kept ((af.refl ae _).alloc _)
  have hn3:cq w3 (w.heap.size+1+1) (.int .i64 (p:Int)) 3:=by rw[cQ];exact(cq.av (by simp)).kept ((af.refl ae _).alloc _)
  have iL:au w3 (w.heap.size+1+1+1) (.int .i64 0) (.string (B [])) (.int .i64 0) (.slice none 0 0) 29:=by rw[cQ];exact au.av (by simp)
  have rH:au w3 w.heap.size (.int .i64 k) (.string (B n)) (.int .i64 i) (.slice a len cap) 29:=by rw[cQ];exact(((au.av rfl).kept ((af.refl ae _).alloc _)).kept ((af.refl ae _).alloc _)).kept ((af.refl ae _).alloc _)
  have RP:=tu (A7 (f:Int) (p:Int)) _ 142 [.pointer (some ⟨w.heap.size+1,0,none⟩),.pointer (some ⟨w.heap.size+1+1,0,none⟩)] t w3 _ (Ji w3 f p hf hp (w.heap.size+1) (w.heap.size+1+1) OQ.cell hn3.cell) (fun _ _=>rfl) ee gD (h.on aZ);obtain⟨t0,t1,t2,t3⟩:=rH.cells;have Nu:=ak cQ;clear cQ gD h hn3 OQ;go_enter Tryz.func84,Tryz.ntmps84;go_upto_region 1 with fail;rw[<-show B []={ data:=#[] }from rfl,<-Nu.out];go_wp2_with fail;refine RP.mono ?_;rintro e w6 ⟨k6,i6,n6,a6,l6,c6,rfl,dg,bj⟩;have fD:=iL.kept bj;obtain⟨x0,x1,x2,x3⟩:=fD.cells;obtain⟨y0,y1,y2,y3⟩:=fD.aq;have qr:=fD.lt;have jC:af ae w w6:=aZ.and bj;go_wp2_with fail;obtain⟨w9,bf⟩:∃ w9,w9=(((w6.setCell ⟨w.heap.size+1+1+1,0,none⟩ (.int .i64 k6)).setCell ⟨w.heap.size+1+1+1,1,none⟩ (.string (B n6))).setCell ⟨w.heap.size+1+1+1,2,none⟩ (.int .i64 i6)).setCell ⟨w.heap.size+1+1+1,3,none⟩ (.slice a6 l6 c6):=⟨_,rfl⟩;have ah:=fD.set (d0:=.int .i64 k6) (d1:=.string (B n6)) (d2:=.int .i64 i6) (d3:=.slice a6 l6 c6);rw[<-bf]at ah;rw[<-bf];clear bf;obtain⟨e0,e1,e2,e3⟩:=ah.1.cells;refine bodyPost_ret (v:=.agg #[.int .i64 k6,.string (B n6),.int .i64 i6,.slice a6 l6 c6]) ?_ rfl ?_
  ·simp[results,Tryz.f84,go_sem,e0,e1,e2,e3]
  exact⟨k6,i6,n6,a6,l6,c6,rfl,aw.weaken (fun b _ e=>by have:=aZ.size;omega) _ _ (aw.ag ah.2 (fun b e=>by have:=iL.lt;omega) _ _ dg),jC.trans ah.2 (fun x hx e=>by omega)⟩
end
section
open Go.RowKit Go.LF
abbrev Ez(M P:Nat)(m0 m1 m2 m3 m4 c0 c1 c2 c3:Value)(w':World):Prop:=
  (w'.cell? ⟨M,0,none⟩=some m0/\w'.cell? ⟨M,1,none⟩=some m1/\w'.cell? ⟨M,2,none⟩=some m2/\w'.cell? ⟨M,3,none⟩=some m3/\w'.cell? ⟨M,4,none⟩=some m4)/\gC P c0 c1 c2 c3 w'
theorem Ez.ag{M P:Nat}{m0 m1 m2 m3 m4 c0 c1 c2 c3:Value}{w w':World}{S:Nat->Prop}(h:Ez M P m0 m1 m2 m3 m4 c0 c1 c2 c3 w)(hU:af S w w')(h1:¬S M)(h2:¬S P):Ez M P m0 m1 m2 m3 m4 c0 c1 c2 c3 w':=
  ⟨⟨hU.cell h.1.1 h1,hU.cell h.1.2.1 h1,hU.cell h.1.2.2.1 h1,hU.cell h.1.2.2.2.1 h1,hU.cell h.1.2.2.2.2 h1⟩,h.2.ag hU h2⟩
theorem Ez.new{M P:Nat}{m0 m1 m2 m3 m4 c0 c1 c2 c3:Value}{w:World}(h:Ez M P m0 m1 m2 m3 m4 c0 c1 c2 c3 w)(o:Obj):Ez M P m0 m1 m2 m3 m4 c0 c1 c2 c3 (w.alloc o):=h.ag ((af.refl ae w).alloc o) (fun x=>x) (fun x=>x)
theorem Ez.set{M P g:Nat}{m0 m1 m2 m3 m4 c0 c1 c2 c3:Value}{w:World}(h:Ez M P m0 m1 m2 m3 m4 c0 c1 c2 c3 w)(h1:M≠g)(h2:P≠g)(o:Nat)(v:Value):Ez M P m0 m1 m2 m3 m4 c0 c1 c2 c3 (w.setCell ⟨g,o,none⟩ v):=
  h.ag (af.set (af.refl _ w) o v) h1 h2
theorem yY{O:Nat->Prop}{W:World}{t u:Tm}{c0 c1 c2 c3 d0 d1 d2 d3:Value}{b:Nat}{T:TypeId}(h:aw O W t.az [c0,c1,c2,c3])(h':aw O W u.az [d0,d1,d2,d3])(hb:¬O b)(hB:W.heap[b]? =some (.cells #[c0,c1,c2,c3,d0,d1,d2,d3] T (0,0))):ai O W 4 ([t,u].map Tm.az) (some ⟨b,0,none⟩) 0:=by
  have aB:b<W.heap.size:=(Array.getElem?_eq_some_iff.1 hB).1;have hc:∀ i,W.cell? ⟨b,i,none⟩=(#[c0,c1,c2,c3,d0,d1,d2,d3]:Array Value)[i]? :=fun i=>by simp[World.cell?,hB]
  refine bT _ _ _ (fun i hi=>?_);have:i=0\/i=1:=by simp at hi;omega
  rcases this with rfl |rfl
  ·refine⟨b,0,_,rfl,aB,hb,rfl,fun q v hv=>?_,h⟩;rw[show 0+0+0 * 4+q=q by omega,hc];match q,hv with
   |0,hv=>cases hv;rfl
   |1,hv=>cases hv;rfl
   |2,hv=>cases hv;rfl
   |3,hv=>cases hv;rfl
   |q+4,hv=>simp at hv
  refine⟨b,0,_,rfl,aB,hb,rfl,fun q v hv=>?_,h'⟩;rw[show 0+0+1 * 4+q=q+4 by omega,hc];match q,hv with
  |0,hv=>cases hv;rfl
  |1,hv=>cases hv;rfl
  |2,hv=>cases hv;rfl
  |3,hv=>cases hv;rfl
  |q+4,hv=>simp at hv
theorem yf(O:Nat->Prop)(m:Mv)(j:Nat)(hj:j<=1000000)(t:Tm)(pi:Bool)(w:World)(hO:∀ b,O b->b<w.heap.size)(cs ds:List Value)(hm:aw ae w m.az cs)(ee:m.type.size<=100000)(gD:∀ b,∀ x∈m.type.nodes b,x.k=6->0<=x.i/\x.i<=1048576)(ht:aw O w t.az ds):
    Calls Tryz.prog 74 #[.agg cs.toArray,.int .i64 (j:Int),.agg ds.toArray,.bool pi] w (xe (par pi m j t) O w):=by
  obtain⟨k,n,i,aa,cap,va,vc,rfl,lV,fp,hV⟩:=gx hm;obtain⟨k2,n2,i2,ts,a2,fP,TI,rfl,aal,kJ⟩:=aP ht;clear fp hV kJ aal TI hm;generalize ts.length=l2 at *
  generalize m.value.length=vl at *
  have BD:=fun(W:World)(hU:af ae w W)=>Ec m.type j hj W _ ee gD (lV.on hU)
  clear ee gD;generalize m.type.args.length=l1 at *
  obtain⟨w3,cQ⟩:∃ w3,w3=((w.alloc (.cells #[.string (B m.name),.int .i64 k,.string (B n),.int .i64 i,.slice aa l1 cap,.slice va vl vc] 96)).alloc (.cells #[.int .i64 k2,.string (B n2),.int .i64 i2,.slice a2 l2 fP] 29)).alloc (.cells #[.int .i64 0,.string (B []),.int .i64 0,.slice none 0 0] 29):=⟨_,rfl⟩;have aZ:af ae w w3:=by rw[cQ];exact(((af.refl ae w).alloc _).alloc _).alloc _
  have KC:bC w3 w.heap.size (.string (B m.name)) (.int .i64 k) (.string (B n)) (.int .i64 i) (.slice aa l1 cap) (.slice va vl vc) 96:=by rw[cQ];exact((bC.av rfl).kept ((af.refl ae _).alloc _)).kept ((af.refl ae _).alloc _)
  have rH:au w3 (w.heap.size+1) (.int .i64 k2) (.string (B n2)) (.int .i64 i2) (.slice a2 l2 fP) 29:=by rw[cQ];exact(au.av (by simp)).kept ((af.refl ae _).alloc _)
  have iL:au w3 (w.heap.size+1+1) (.int .i64 0) (.string (B [])) (.int .i64 0) (.slice none 0 0) 29:=by rw[cQ];exact au.av (by simp)
  have Nu:=ak cQ;clear cQ;have vY:=iL.lt;obtain⟨x0,x1,x2,x3,x4,x5⟩:=KC.cells;obtain⟨t0,t1,t2,t3⟩:=rH.cells;obtain⟨r0,r1,r2,r3⟩:=iL.cells;obtain⟨f0,f1,f2,f3⟩:=iL.aq;go_enter Tryz.func74,Tryz.ntmps74;go_upto_region 1 with fail;rw[<-show B []={ data:=#[] }from rfl,<-Nu.out];cases pi
  ·clear BD x1 x2 x3 x4 x5;have ah:=iL.set (d0:=.int .i64 3) (d1:=.string (B m.name)) (d2:=.int .i64 0) (d3:=.slice (some ⟨w3.heap.size,0,none⟩) 1 1);obtain⟨w4,eh⟩:∃ q,q=(((w3.setCell ⟨w.heap.size+1+1,0,none⟩ (.int .i64 3)).setCell ⟨w.heap.size+1+1,1,none⟩ (.string (B m.name))).setCell ⟨w.heap.size+1+1,2,none⟩ (.int .i64 0)).setCell ⟨w.heap.size+1+1,3,none⟩ (.slice (some ⟨w3.heap.size,0,none⟩) 1 1):=⟨_,rfl⟩;have DX:w4.heap.size=w3.heap.size:=by rw[eh];simp
   rw[<-eh]at ah;have Lk:=ak eh;clear eh;go_wp2_with fail;rw[<-Lk.out];have cK:=(af.refl ae w4).alloc (.cells #[.int .i64 k2,.string (B n2),.int .i64 i2,.slice a2 l2 fP] 29);have gM:=ah.1.kept cK;have gK:au (w4.alloc (.cells #[.int .i64 k2,.string (B n2),.int .i64 i2,.slice a2 l2 fP] 29)) w3.heap.size (.int .i64 k2) (.string (B n2)) (.int .i64 i2) (.slice a2 l2 fP) 29:=au.av DX;have bU:=ah.2.trans cK (fun _ _ e=>e.elim);obtain⟨w9,bf⟩:∃ q,q=w4.alloc (.cells #[.int .i64 k2,.string (B n2),.int .i64 i2,.slice a2 l2 fP] 29):=⟨_,rfl⟩;rw[<-bf]at gM gK bU;rw[<-bf];clear bf cK;obtain⟨e0,e1,e2,e3⟩:=gM.cells;refine bodyPost_ret (v:=.agg #[.int .i64 3,.string (B m.name),.int .i64 0,.slice (some ⟨w3.heap.size,0,none⟩) 1 1]) ?_ rfl ?_
   ·simp[results,Tryz.f74,go_sem,e0,e1,e2,e3]
   have XA:=aZ.size;refine⟨3,0,m.name,_,1,1,rfl,?_,aZ.trans bU (fun b hb e=>by omega)⟩;unfold par;rw[if_neg (by decide)];refine bg.2 ⟨_,1,rfl,by simp,wJ (aw.weaken (fun b _ e=>.inl e) _ _ (aw.ag bU (fun b e=>.inr (by omega)) _ _ ((aw.aG _ _ ht).on aZ))) (fun e=>by have:=hO _ e;omega) gK⟩
  have hd:af ae w3 w3.drew:=(af.refl ae w3).drew;have BD3:=BD w3.drew (aZ.and hd);have S0:Ez w.heap.size (w.heap.size+1) (.string (B m.name)) (.int .i64 k) (.string (B n)) (.int .i64 i) (.slice aa l1 cap) (.int .i64 k2) (.string (B n2)) (.int .i64 i2) (.slice a2 l2 fP) w3.drew:=Ez.ag ⟨⟨x0,x1,x2,x3,x4⟩,t0,t1,t2,t3⟩ hd (fun x=>x) (fun x=>x);have ym:w.heap.size≠w.heap.size+1+1:=by omega
  have yP:w.heap.size+1≠w.heap.size+1+1:=by omega
  have Zo:=iL.kept hd;have htO:=(aw.aG _ _ ht).on (aZ.and hd);have XA:=aZ.size;have YF:w3.drew.heap.size=w3.heap.size:=rfl;have HS:=ak (And.intro Zo (And.intro htO (And.intro XA YF)));clear BD Zo htO XA YF hd x0 x1 x2 x3 x4 x5 t0 t1 t2 t3 r0 r1 r2 r3 f0 f1 f2 f3 lV ht KC rH;go_wp2_with fail
  go_region_held3 (fun w'=>Ez w.heap.size (w.heap.size+1) (.string (B m.name)) (.int .i64 k) (.string (B n)) (.int .i64 i) (.slice aa l1 cap) (.int .i64 k2) (.string (B n2)) (.int .i64 i2) (.slice a2 l2 fP) w')
    (first |(with_reducible assumption)|(with_reducible exact S0)|(with_reducible exact S6.new _)|(with_reducible exact(Ez.set (Ez.set (Ez.set (Ez.set S6 ym yP _ _) ym yP _ _) ym yP _ _) ym yP _ _).new _))
    ((go_at_call 73;refine BD3.mono ?_;rintro e w6 ⟨k6,i6,n6,a6,l6,c6,rfl,dg,bj⟩;have S6:=S0.ag bj (fun x=>x) (fun x=>x);have fD:=HS.out.1.kept bj;obtain⟨r0,r1,r2,r3⟩:=fD.cells;obtain⟨f0,f1,f2,f3⟩:=fD.aq;have qr:=fD.lt))
  all_goals
    go_wp2_with fail;have ah:=fD.set (d0:=.int .i64 2) (d1:=.string (B m.name)) (d2:=.int .i64 0) (d3:=.slice (some ⟨w6.heap.size,0,none⟩) 2 2);obtain⟨w4,eh⟩:∃ q,q=(((w6.setCell ⟨w.heap.size+1+1,0,none⟩ (.int .i64 2)).setCell ⟨w.heap.size+1+1,1,none⟩ (.string (B m.name))).setCell ⟨w.heap.size+1+1,2,none⟩ (.int .i64 0)).setCell ⟨w.heap.size+1+1,3,none⟩ (.slice (some ⟨w6.heap.size,0,none⟩) 2 2):=⟨_,rfl⟩;have DX:w4.heap.size=w6.heap.size:=by rw[eh];simp
    rw[<-eh]at ah;rw[<-eh];clear eh;have cK:=(af.refl ae w4).alloc (.cells #[.int .i64 k6,.string (B n6),.int .i64 i6,.slice a6 l6 c6,.int .i64 k2,.string (B n2),.int .i64 i2,.slice a2 l2 fP] 29);have gM:=ah.1.kept cK;have gK:(w4.alloc (.cells #[.int .i64 k6,.string (B n6),.int .i64 i6,.slice a6 l6 c6,.int .i64 k2,.string (B n2),.int .i64 i2,.slice a2 l2 fP] 29)).heap[w6.heap.size]? =some (.cells #[.int .i64 k6,.string (B n6),.int .i64 i6,.slice a6 l6 c6,.int .i64 k2,.string (B n2),.int .i64 i2,.slice a2 l2 fP] 29 (0,0)):=by rw[<-DX];exact heap_alloc_new w4 _
    have bU:=ah.2.trans cK (fun _ _ e=>e.elim);obtain⟨w9,bf⟩:∃ q,q=w4.alloc (.cells #[.int .i64 k6,.string (B n6),.int .i64 i6,.slice a6 l6 c6,.int .i64 k2,.string (B n2),.int .i64 i2,.slice a2 l2 fP] 29):=⟨_,rfl⟩;rw[<-bf]at gM gK bU;rw[<-bf];clear bf cK;obtain⟨e0,e1,e2,e3⟩:=gM.cells;have TO:af ae w w6:=(aZ.and (af.refl ae w3).drew).and bj;have DN:=bj.size;have jI:=HS.out.2.2.1;have Ie:=HS.out.2.2.2;refine bodyPost_ret (v:=.agg #[.int .i64 2,.string (B m.name),.int .i64 0,.slice (some ⟨w6.heap.size,0,none⟩) 2 2]) ?_ rfl ?_
    ·simp[results,Tryz.f74,go_sem,e0,e1,e2,e3]
    refine⟨2,0,m.name,_,2,2,rfl,?_,TO.trans bU (fun b hb e=>by omega)⟩;unfold par;rw[if_pos rfl];refine bg.2 ⟨_,2,rfl,by simp,yY (aw.weaken (fun b _ e=>by have:=hO _ e;omega) _ _ (aw.ag bU (fun b e=>by omega) _ _ dg)) (aw.weaken (fun b _ e=>.inl e) _ _ (aw.ag bU (fun b e=>.inr (by omega)) _ _ (HS.out.2.1.on bj))) (fun e=>by have:=hO _ e;omega) gK⟩
end
end Go.Proofs.YthgmimncdjhgnaaGreatDoor
namespace Go.LF
open Tm Go.Proofs.YthgmimncdjhgnaaGreatDoor
theorem Mz(a:Tm):pL a<=a.size:=by
  induction a using ind with
  |h k nm i l ih=>
   match l,ih with
   | [d,b],ih=>
     have:=ih b (by simp);rw[pL,aM,aD,aD,aD];split<;>omega
   | [],_=>exact Nat.zero_le _
   | [_],_=>exact Nat.zero_le _
   |_ :: _ :: _ :: _,_=>exact Nat.zero_le _
theorem Pj{k i:Int}{nm:List UInt8}{l:List Tm}(h:(mk k nm i l).aC=true\/(mk k nm i l).aI=true)(hk:k=2):1<=pL (mk k nm i l):=by
  subst hk;match l,h with
  | [d,b],_=>rw[pL,if_pos rfl];omega
  | [],h=>simp[aC,isAtom,aI,bound]at h
  | [_],h=>simp[aC,isAtom,aI,bound]at h
  |_ :: _ :: _ :: _,h=>simp[aC,isAtom,aI,bound]at h
end Go.LF
namespace Go.Proofs.YthgmimncdjhgnaaGreatDoor
open Go.RowKit Go.LF
theorem pt(t:Tm)(iH:t.wt<=1000000)(w:World)(cs:List Value)(h:aw ae w t.az cs):
    Calls Tryz.prog 67 #[.agg cs.toArray] w fun e w'=>e=.returned (.bool ((t.aC && t.small)|| (t.aI && t.small)))/\af ae w w':=by
  obtain⟨k,n,i,ts,a,cap,TI,rfl,-,-⟩:=aP h;generalize ts.length=len at *
  obtain⟨w1,aF⟩:∃ w1,w1=w.alloc (.cells #[.int .i64 k,.string (B n),.int .i64 i,.slice a len cap] 29):=⟨_,rfl⟩;have aH:af ae w w1:=by rw[aF];exact(af.refl ae w).alloc _
  have iV:au w1 w.heap.size (.int .i64 k) (.string (B n)) (.int .i64 i) (.slice a len cap) 29:=by rw[aF];exact au.av rfl
  have TY:=pZ t iH w1 _ (h.on aH);have KN:=fun(W:World)(hU:af ae w W)=>wm t iH W _ (h.on hU)
  obtain⟨bt,E5⟩:∃ b,b=(t.aC && t.small):=⟨_,rfl⟩;obtain⟨bk,OM⟩:∃ b,b=(t.aI && t.small):=⟨_,rfl⟩;rw[<-E5]at TY;rw[<-OM]at KN;rw[<-E5,<-OM];have kE:=ak aF;clear E5 OM aF h TI;obtain⟨x0,x1,x2,x3⟩:=iV.cells;go_enter Tryz.func67,Tryz.ntmps67;go_upto_region 1 with fail;rw[<-kE.out];cases bt
  ·go_wp2_with fail
   (with_reducible refine TY.mono ?_);rintro e w2 ⟨rfl,aL⟩;have kh:=aH.and aL;have pB:=iV.kept aL;have KN2:=KN w2 kh;clear TY KN x0 x1 x2 x3;obtain⟨x0,x1,x2,x3⟩:=pB.cells;go_wp2_with fail
   (with_reducible refine KN2.mono ?_);rintro e w3 ⟨rfl,aZ⟩;have kg:=kh.and aZ;cases bk
   all_goals
     go_wp2_with fail;go_ret;exact⟨rfl,kg⟩
  go_wp2_with fail
  (with_reducible refine TY.mono ?_);rintro e w2 ⟨rfl,aL⟩;have kh:=aH.and aL;go_wp2_with fail;go_ret;exact⟨rfl,kh⟩
theorem Pg(a:Tm)(hs:a.aC=true\/a.aI=true)(ee:pL a<=100000)(w:World)(cs:List Value)(h:aw ae w a.az cs):
    Calls Tryz.prog 83 #[.agg cs.toArray] w fun e w'=>e=.returned (.int .i64 (pL a:Int))/\af ae w w':=by
  obtain⟨k,n,i,ts,aa,cap,GD,rfl,-,-⟩:=aP h;obtain⟨len,fE⟩:∃ q,q=ts.length:=⟨_,rfl⟩;have Tq:len=a.args.length:=by rw[GD,fE];rfl
  rw[<-fE]at h;rw[<-fE];have Iy:=ak Tq;clear Tq fE GD;obtain⟨w1,aF⟩:∃ w1,w1=w.alloc (.cells #[.int .i64 k,.string (B n),.int .i64 i,.slice aa len cap] 29):=⟨_,rfl⟩;have aH:af ae w w1:=by rw[aF];exact(af.refl ae w).alloc _
  have iV:au w1 w.heap.size (.int .i64 k) (.string (B n)) (.int .i64 i) (.slice aa len cap) 29:=by rw[aF];exact au.av rfl
  have di:aw (fun y=>y=w.heap.size) w1 a.az [.int .i64 k,.string (B n),.int .i64 i,.slice aa len cap]:=(aw.weaken (fun b _ e=>.inr (by omega)) _ _ (aw.aG _ _ h)).on aH;have kE:=ak aF;obtain⟨X,hX⟩:∃ X,X=w.heap.size:=⟨_,rfl⟩;rw[<-hX]at iV di;have HX:=ak hX;clear aF h hX;go_enter Tryz.func83,Tryz.ntmps83;go_upto_region 1 with fail;rw[<-HX.out,<-kE.out];go_wp2_with fail
  go_loopw [3] (fun v3 wr=>∃(j:Nat)(b:Tm)(k' i':Int)(n':List UInt8)(a':Option Addr)(c':Nat),v3=.int .i64 (j:Int)/\pL b+j=pL a/\(b.aC=true\/b.aI=true)/\au wr X (.int .i64 k') (.string (B n')) (.int .i64 i') (.slice a' b.args.length c') 29/\aw (fun y=>y=X) wr b.az [.int .i64 k',.string (B n'),.int .i64 i',.slice a' b.args.length c']/\af (fun y=>y=X) w1 wr)
    (fun v3 _=>pL a - (intOf v3).toNat)
  case atStart=>exact⟨0,a,k,i,n,aa,cap,rfl,rfl,hs,by rw[<-Iy.out];exact iV,by rw[<-Iy.out];exact di,af.refl _ _⟩
  clear iV di;obtain⟨j,b,k',i',n',a',c',rfl,Xi,NY,hB,hR,hU⟩:=hrel;obtain⟨x0,x1,x2,x3⟩:=hB.cells;obtain⟨f0,f1,f2,f3⟩:=hB.aq;have aB:=hB.lt;have ET:(j:Int)<=100000:=by omega
  have Fl:(0:Int)<=(j:Int):=by omega
  have HW:=ak (And.intro Xi NY);by_cases hp:1<=pL b
  ·obtain⟨nm,ix,d,b2,rfl,hd,pB,LH⟩:=uN NY (m:=0) (by omega);obtain⟨a5,c5,e5,hc5,L9⟩:=bg.1 hR;simp only[List.cons.injEq,Value.int.injEq,Value.string.injEq,Value.slice.injEq,true_and,and_true]at e5;obtain⟨eb,eo,kj,nj,ij,aj,cj,he,mz,heX,p0,p1,p2,p3,oO⟩:=aY L9 1 (by simp);obtain⟨rfl,-,-,rfl,-⟩:=e5;subst he;have apj:¬eb=X:=heX;have ED:(Tm.mk 2 nm ix [d,b2]).args.length=2:=rfl;rw[ED]at x3 hB;simp only[List.getElem_cons_succ,List.getElem_cons_zero]at p3 oO;have HB:=ak hB;have HN:=ak (And.intro LH pB);go_wp2_with fail;have ah:=HB.out.set (d0:=.int .i64 kj) (d1:=.string (B nj)) (d2:=.int .i64 ij) (d3:=.slice aj b2.args.length cj);go_roundw;case rel=>exact⟨j+1,b2,kj,ij,nj,aj,cj,by go_num,by have:=HN.out.1;have:=HW.out.1;omega,HN.out.2,ah.1,aw.ag ah.2 (fun _ e=>e) _ _ oO,hU.trans ah.2 (fun _ _ e=>e)⟩
   (have:=HN.out.1;have:=HW.out.1;simp[intOf];omega)
  obtain⟨k6,n6,i6,us6,a6,c6,rfl,e6,-,-⟩:=aP hR;simp only[List.cons.injEq,Value.int.injEq,true_and]at e6;obtain⟨rfl,-⟩:=e6;have yJ:¬k'=2:=fun e=>hp (Pj NY e)
  have Rr:(k' == 2)=false:=by simpa using yJ
  have hpz:pL a=j:=by omega
  have HP:=ak hpz;have Lw:=aH.trans hU (fun y hy e=>by have:=HX.out;omega);clear hpz yJ Xi NY hp hR hB hU;go_wp2_with fail;go_ret;rw[HP.out];exact⟨rfl,Lw⟩
end Go.Proofs.YthgmimncdjhgnaaGreatDoor
