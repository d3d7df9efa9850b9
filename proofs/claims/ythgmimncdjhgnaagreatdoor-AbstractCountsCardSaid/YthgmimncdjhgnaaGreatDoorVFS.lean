/- What Refill makes, as plain data. No program is in sight here. -/
import Derived.Test.YthgmimncdjhgnaaGreatDoorVCK
import Derived.Test.YthgmimncdjhgnaaGreatDoorVCM
import Derived.Test.YthgmimncdjhgnaaGreatDoorVFA
import Derived.Test.YthgmimncdjhgnaaGreatDoorVFL
set_option maxRecDepth 100000
set_option maxHeartbeats 16000000
namespace Go.LF
open Tm Go.Proofs.YthgmimncdjhgnaaGreatDoor
def qd:Tm->Nat
  |mk k _ _ [_,b]=>if k=2 then qd b+1 else 0
  |mk _ _ _ _=>0
def XM(t:Tm)(j:Nat):Tm:=t.args.getD j zV
def xz(n:List UInt8):List UInt8:=if n=[95]then []else n
def xf(l:List Mv)(a:Tm):Nat->Int×List Mv×Tm
  |0=>(0,l,a)
  |i+1=>
   if(xf l a i).1≠0 then xf l a i
   else if ya (xf l a i).2.1.length (xz (xf l a i).2.2.name) (fil l.length i 0 (XM (xf l a i).2.2 0))≠0 then
     (ya (xf l a i).2.1.length (xz (xf l a i).2.2.name) (fil l.length i 0 (XM (xf l a i).2.2 0)),(xf l a i).2.1,(xf l a i).2.2)
   else(0,YJ (xf l a i).2.1 (xz (xf l a i).2.2.name) (fil l.length i 0 (XM (xf l a i).2.2 0)),XM (xf l a i).2.2 1)
theorem QR(l:List Mv)(a:Tm)(i:Nat):xf l a (i+1)=if(xf l a i).1≠0 then xf l a i
    else if ya (xf l a i).2.1.length (xz (xf l a i).2.2.name) (fil l.length i 0 (XM (xf l a i).2.2 0))≠0 then
      (ya (xf l a i).2.1.length (xz (xf l a i).2.2.name) (fil l.length i 0 (XM (xf l a i).2.2 0)),(xf l a i).2.1,(xf l a i).2.2)
    else(0,YJ (xf l a i).2.1 (xz (xf l a i).2.2.name) (fil l.length i 0 (XM (xf l a i).2.2 0)),XM (xf l a i).2.2 1):=by rw[xf]
theorem zD2(l:List Mv)(a:Tm){i:Nat}(h:(xf l a i).1≠0):∀ k,xf l a (i+k)=xf l a i
  |0=>rfl
  |k+1=>by
   have ih:=zD2 l a h k;rw[show i+(k+1)=(i+k)+1 by omega,QR,ih,if_pos h]
def XC(l:List Mv)(a:Tm)(n:Int):Int:=
  if a.wf≠0 then a.wf else if(!(a.zP || a.zR))=true then 32 else if 0<a.scope then 3 else if n<0\/(qd a:Int)<n then 33 else(xf l a n.toNat).1
def Ze(l:List Mv)(a:Tm)(n:Int):List Mv:=if XC l a n=0 then(xf l a n.toNat).2.1 else l
def zBO(l:List Mv)(a:Tm)(n:Int):Tm:=if XC l a n=0 then fil l.length n 0 (xf l a n.toNat).2.2 else zV
theorem zBl{a:Tm}(h:a.zP=true\/a.zR=true){m:Nat}(hm:m+1<=qd a):∃ nm i d b,a=mk 2 nm i [d,b]/\d.zP=true/\(b.zP=true\/b.zR=true)/\qd a=qd b+1:=by
  cases a with
  |mk k nm i l=>
   match l,hm with
   | [d,b],hm=>
     rw[qd]at hm;by_cases hk:k=2
     ·subst hk;rw[qd,if_pos rfl];rcases h with h |h
      ·rw[zP,isAtom]at h;rw[yJ,yJ,yJ]at h;simp only[Bool.or_eq_true,Bool.and_eq_true,beq_iff_eq,Bool.and_true]at h;rcases h with h |h
       ·exact absurd h.1 (by decide)
       ·exact⟨nm,i,d,b,rfl,h.2.2.1,.inl h.2.2.2,rfl⟩
      ·rw[zR]at h;simp only[Bool.and_eq_true]at h;exact⟨nm,i,d,b,rfl,h.2.2.1,.inr h.2.2.2,rfl⟩
     ·rw[if_neg hk]at hm;omega
   | [],hm=>rw[qd]at hm;(omega);intro a b e;cases e
   | [x],hm=>rw[qd]at hm;(omega);intro a b e;cases e
   |x :: y :: z :: r,hm=>rw[qd]at hm;(omega);intro a b e;cases e
structure RfI(l:List Mv)(a:Tm)(i:Nat):Prop where
  srt:(xf l a i).2.2.zP=true\/(xf l a i).2.2.zR=true
  pis:qd (xf l a i).2.2+i=qd a
  len:(xf l a i).2.1.length=l.length+i
  wt:(xf l a i).2.2.wt<=a.wt/\(xf l a i).2.2.size+i<=a.size/\(xf l a i).2.2.depth<=a.depth
  sco:lt i (xf l a i).2.2
  pre:∃ ms:List Mv,(xf l a i).2.1=l++ms/\∀ m∈ms,m.type.wt<=a.wt/\m.value=[]
theorem zKL{l:List Mv}{a:Tm}(h:a.zP=true\/a.zR=true)(hs:lt 0 a):∀ i,i<=qd a->(xf l a i).1=0->RfI l a i:=by
  intro i;induction i with
  |zero=>intro _ _;exact⟨h,rfl,rfl,⟨Nat.le_refl _,Nat.le_refl _,Nat.le_refl _⟩,hs,[],by rw[xf,List.append_nil],fun m hm=>by cases hm⟩
  |succ i ih=>
   intro hi he;rw[QR]at he;by_cases h1:(xf l a i).1≠0
   ·rw[if_pos h1]at he;exact absurd he h1
   rw[if_neg h1]at he;have I:=ih (by omega) (by omega);by_cases h2:ya (xf l a i).2.1.length (xz (xf l a i).2.2.name) (fil l.length i 0 (XM (xf l a i).2.2 0))≠0
   ·rw[if_pos h2]at he;exact absurd he h2
   have e:xf l a (i+1)=(0,YJ (xf l a i).2.1 (xz (xf l a i).2.2.name) (fil l.length i 0 (XM (xf l a i).2.2 0)),XM (xf l a i).2.2 1):=by rw[QR,if_neg h1,if_neg h2]
   have hns:YJ (xf l a i).2.1 (xz (xf l a i).2.2.name) (fil l.length i 0 (XM (xf l a i).2.2 0))=(xf l a i).2.1++[⟨xz (xf l a i).2.2.name,fil l.length i 0 (XM (xf l a i).2.2 0),[]⟩]:=by unfold YJ;rw[if_neg h2]
   have hp:=I.pis;obtain⟨nm,ix,d,b,e2,hd,hb,hpb⟩:=zBl I.srt (m:=0) (by omega);have en0:XM (xf l a i).2.2 0=d:=by rw[e2];rfl
   have en1:XM (xf l a i).2.2 1=b:=by rw[e2];rfl
   obtain⟨w1,w2,w3⟩:=I.wt;have hsc:=I.sco;obtain⟨ms,em,hm⟩:=I.pre;have hl:=I.len;rw[hns]at e;rw[en0,en1]at e;rw[e2]at w1 w2 w3 hsc hp hpb;rw[yv,ZP,ZP,ZP]at w1;rw[zU,zQ,zQ,zQ]at w2;rw[yO,zX,zX,zX]at w3;rw[ZS,yQ,yQ]at hsc;have hsd:zQ [d,b]=d.size+b.size:=by rw[zQ,zQ,zQ];omega
   refine⟨by rw[e];exact hb,by rw[e];show qd b+(i+1)=qd a;omega,by rw[e];show(_++[_]).length=_;rw[List.length_append,List.length_singleton];omega,by rw[e];exact⟨by show b.wt<=_;omega,by show b.size+(i+1)<=_;have:=size_pos d;omega,by show b.depth<=_;omega⟩,?_,?_⟩
   ·rw[e];show lt ((i+1:Nat):Int) b;have:=hsc.2.2.1;simpa[under]using this
   ·refine⟨ms++[⟨xz (xf l a i).2.2.name,fil l.length i 0 d,[]⟩],by rw[e];show(xf l a i).2.1++_=_;rw[em,List.append_assoc],fun m hmm=>?_⟩;rcases List.mem_append.1 hmm with h |h
    ·exact hm m h
    ·rw[List.mem_singleton.1 h];refine⟨?_,rfl⟩;show(fil l.length i 0 d).wt<=a.wt;unfold fil;rw[zCq];omega
end Go.LF
namespace Go.Proofs.YthgmimncdjhgnaaGreatDoor
section
open Go.RowKit Go.LF
def zIw(w0:World)(F:FuncId)(caps:List Value)(c:Int->Int->Int->Int×Int)(ok:Int->Int->Prop):Prop:=
  ∀(W:World)(tb:Nat)(k i d:Int)(nm:List UInt8)(v:Value),zD zC w0 W->0<=d->d<=1000000->ok k i->w0.heap.size<=tb->zK W tb (.int .i64 k) (.string (B nm)) (.int .i64 i) v 29->
   Calls Tryz.prog F (.pointer (some ⟨tb,0,none⟩) :: .int .i64 d :: caps).toArray W fun e W'=>e=.returned (.tuple #[])/\zK W' tb (.int .i64 (c d k i).1) (.string (B nm)) (.int .i64 (c d k i).2) v 29/\zD (fun b=>b=tb) W W'
theorem zGx(c:Int->Int->Int->Int×Int)(ok:Int->Int->Prop)(w0:World)(tob K:Nat)(F:FuncId)(caps:List Value)(hF:zIw w0 F caps c ok)(hFE:∀ args w,Sem.run Tryz.prog (callFunc F args) w=.ok (Next.enter F args) w)(t:Tm):t.size<=100000->(∀ b,∀ x∈t.nodes b,ok x.k x.i)->
    ∀(b:Int)(w:World)(cs:List Value),0<=b->b+t.size<=1000000->zL zC w t.zN cs->zD zC w0 w->w.cell? ⟨tob,0,none⟩=some (.func (.func F) #[] caps.toArray)->
    w.cell? ⟨K,0,none⟩=some (.func (.func 175) #[] #[.pointer (some ⟨K,0,none⟩),.pointer (some ⟨tob,0,none⟩)])->
    Calls Tryz.prog 175 #[.agg cs.toArray,.int .i64 b,.pointer (some ⟨K,0,none⟩),.pointer (some ⟨tob,0,none⟩)] w (zA6 (chT c b t) (fun x=>x<w.heap.size) w):=by
  induction t using Tm.ind with
  |h k nm i ts ih=>
   intro hsz hok b w cs hb0 hb1 hR hU0 hT hK;obtain⟨a,cap,rfl,hcap,hE⟩:=zf.1 hR;have hlen:=Tm.zO ts;simp only[Tm.zU]at hsz hb1;have hno:=hok b;rw[Tm.zn]at hno;have hok0:ok k i:=hno _ (List.mem_cons_self ..)
   have hoks:∀ x∈ts,∀ b,∀ y∈x.nodes b,ok y.k y.i:=by
     intro x hx b' y hy;obtain⟨j,hj,rfl⟩:=List.getElem_of_mem hx;exact hok (b' - Tm.under k j) y (Tm.zCa j hj (by rw[show b' - Tm.under k j+Tm.under k j=b' by omega];exact hy))
   have htob:tob<w.heap.size:=World.block_lt_of_cell? w _ hT;have hKb:K<w.heap.size:=World.block_lt_of_cell? w _ hK;obtain⟨w2,hw2⟩:∃ w2,w2=((w.alloc (.cells #[.int .i64 k,.string (B nm),.int .i64 i,.slice a ts.length cap] 29)).alloc (.cells #[.int .i64 0,.string (B []),.int .i64 0,.slice none 0 0] 29)).alloc (.cells #[.int .i64 k,.string (B nm),.int .i64 i,.slice a ts.length cap] 29):=⟨_,rfl⟩;have hU2:zD zC w w2:=by rw[hw2];exact(((zD.refl zC w).alloc _).alloc _).alloc _
   have ht2:zK w2 w.heap.size (.int .i64 k) (.string (B nm)) (.int .i64 i) (.slice a ts.length cap) 29:=by rw[hw2];exact((zK.zJ rfl).kept ((zD.refl zC _).alloc _)).kept ((zD.refl zC _).alloc _)
   have hr2:zK w2 (w.heap.size+1) (.int .i64 0) (.string (B [])) (.int .i64 0) (.slice none 0 0) 29:=by rw[hw2];exact(zK.zJ (by simp)).kept ((zD.refl zC _).alloc _)
   have ho2:zK w2 (w.heap.size+1+1) (.int .i64 k) (.string (B nm)) (.int .i64 i) (.slice a ts.length cap) 29:=by rw[hw2];exact zK.zJ (by simp)
   have hT2:=hU2.cell hT (fun x=>x);have hK2:=hU2.cell hK (fun x=>x);obtain⟨t0,t1,t2,t3⟩:=ht2.cells;obtain⟨f0,f1,f2,f3⟩:=ho2.zI;obtain⟨o0,o1,o2,o3⟩:=ho2.cells;have HW2:=zG hw2;have HW:=zG (And.intro hsz hb1);have hE2:zH (fun x=>w.heap.size<=x) w2 4 (ts.map Tm.zN) a 0:=zH.weaken (fun b _ e=>.inr e) _ _ _ _ ((zH.zS _ _ _ _ hE).on hU2);clear hw2 hR hno hok;go_enter Tryz.func175,Tryz.ntmps175
   go_upto_region 2 with fail
   rw[<-HW2.out];go_wp2_with fail
   have hwz:w.heap.size+1+1<w2.heap.size:=ho2.lt;refine(Xp ts (fun x=>w.heap.size<=x) w2 a cap (by omega) hE2).mono ?_;rintro e w4 ⟨v,css,rfl,hS,hU4⟩;obtain⟨sa,sc,rfl,hsc,_⟩:=hS.cells;have hM4:=ZT.start (okb:=w.heap.size) (lo:=w.heap.size) hS (fun b e=>.inl (by omega));have ht4:=ht2.kept hU4;have hr4:=hr2.kept hU4;have ho4:=ho2.kept hU4;obtain⟨base,hbase⟩:∃ base,base=w2.heap.size:=⟨_,rfl⟩;rw[<-hbase]at hM4 hwz;have hb4:base<=w4.heap.size:=by rw[hbase];exact hU4.size
   have hUw4:zD zC w w4:=hU2.and hU4;clear t0 t1 t2 t3 f0 f1 f2 f3 o0 o1 o2 o3 hS hE2;obtain⟨t0,t1,t2,t3⟩:=ht4.cells;obtain⟨o0,o1,o2,o3⟩:=ho4.cells;obtain⟨f0,f1,f2,f3⟩:=ho4.zI;clear hbase hU4 hU2 ht2 hr2 ho2 hT2 hK2;go_wp2_with fail
   obtain⟨w5,hw5⟩:∃ w5,w5=w4.setCell ⟨w.heap.size+1+1,3,none⟩ (.slice sa ts.length sc):=⟨_,rfl⟩;have hset5:zD (fun x=>x=w.heap.size+1+1) w4 w5:=by rw[hw5];exact zD.set (zD.refl _ _) 3 _
   have ho5:zK w5 (w.heap.size+1+1) (.int .i64 k) (.string (B nm)) (.int .i64 i) (.slice sa ts.length sc) 29:=by rw[hw5];exact ho4.Yi _
   have ht5:=ht4.zF hset5 (by omega);have hr5:=hr4.zF hset5 (by omega);have hUw5:zD zC w w5:=hUw4.trans hset5 (fun x hx e=>by omega);have hs5:=hset5.size;have hM5:ZT w.heap.size w.heap.size base w5 sa [] ts:=hM4.zF hset5 (fun b e=>⟨.inr (by omega),by omega⟩);rw[<-hw5];clear hw5 ht4 hr4 ho4 hM4 hset5 hUw4 t0 t1 t2 t3 f0 f1 f2 f3 o0 o1 o2 o3;obtain⟨t0,t1,t2,t3⟩:=ht5.cells
   go_loopw [19] (fun v19 wr=>∃(j:Nat)(us:List Tm),v19=.int .i64 (j:Int)/\j<=ts.length/\us=Ql c b k 0 (ts.take j)/\ZT w.heap.size w.heap.size base wr sa us ts/\
       zK wr (w.heap.size+1+1) (.int .i64 k) (.string (B nm)) (.int .i64 i) (.slice sa ts.length sc) 29/\zK wr (w.heap.size+1) (.int .i64 0) (.string (B [])) (.int .i64 0) (.slice none 0 0) 29/\
       zK wr w.heap.size (.int .i64 k) (.string (B nm)) (.int .i64 i) (.slice a ts.length cap) 29/\zD zC w wr/\base<=wr.heap.size)
     (fun v19 _=>ts.length - (intOf v19).toNat)
   case atStart=>exact⟨0,[],rfl,Nat.zero_le _,by rw[List.take_zero,xF],hM5,ho5,hr5,ht5,hUw5,by omega⟩
   case round=>
     clear ho5 hr5 ht5 hUw5 hM5 t0 t1 t2 t3;obtain⟨j,us,rfl,hj,hus,hM,hB,hRr,hTr,hU,hbr⟩:=hrel;obtain⟨x0,x1,x2,x3⟩:=hB.cells;obtain⟨t0,t1,t2,t3⟩:=hTr.cells;have qB:=hB.lt;have hjb:(j:Int)<=100000:=by omega
     have hj0:(0:Int)<=(j:Int):=by omega
     have hTo:=hU.cell hT (fun x=>x);have hKr:=hU.cell hK (fun x=>x);have hU0r:zD zC w0 wr:=hU0.and hU;have hul:us.length=j:=by rw[hus,xe,List.length_take];omega
     have HS:=zG (And.intro hul hus);clear hul hus;by_cases hlt:j<ts.length
     ·obtain⟨g,cs,e,hgb,hgl,hgf,hgn,hgc,_,_⟩:=hM j hlt;subst e;obtain⟨eb,eo,kj,nj,ij,aj,cj,rfl,hebl,_,p0,p1,p2,p3,hRj⟩:=zc (hE.on hU) j hlt;have hj1:(j:Int)<(ts.length:Int):=by omega
      have hsj:=Tm.zT (List.getElem_mem hlt);have hun:=Tm.yC k j;have IH:=fun w'(h1:zL zC w' (ts[j]'hlt).zN [.int .i64 kj,.string (B nj),.int .i64 ij,.slice aj (ts[j]'hlt).args.length cj])=>ih (ts[j]'hlt) (List.getElem_mem hlt) (by omega) (hoks _ (List.getElem_mem hlt)) (b+Tm.under k j) w' _ (by omega) (by omega) h1
      have HLT:=zG (show j<ts.length from hlt);have hg1:w.heap.size+1+1≠g:=by omega
      have hg2:K≠g:=by omega
      have hg3:wr.heap.size≠g:=by omega
      obtain⟨us1,hus1⟩:∃ q,chT c (b+Tm.under k j) (ts[j]'hlt)=q:=⟨_,rfl⟩;simp only[hus1]at IH;have HU1:=zG hus1;have htl:=zB1 c b k ts j hlt;rw[hus1]at htl;have HTL:=zG htl;clear htl hus1;generalize (ts[j]'hlt).args.length=ljl at *
      have rest:=Z9 k j;generalize hu:Tm.under k j=u at *
      obtain⟨wa,hwa⟩:∃ wa,wa=wr.alloc (.cells #[.int .i64 kj,.string (B nj),.int .i64 ij,.slice aj ljl cj] 29):=⟨_,rfl⟩;have hUa:zD zC wr wa.drew:=by rw[hwa];exact((zD.refl zC wr).alloc _).drew
      have hza:wa.drew.heap.size=wr.heap.size+1:=by rw[hwa];simp[World.drew]
      have hTc:YS wr.heap.size (.int .i64 kj) (.string (B nj)) (.int .i64 ij) (.slice aj ljl cj) wa.drew:=by rw[hwa];exact YS.zF (zK.zJ (T:=29) rfl).cells (zD.refl zC _).drew (fun x=>x)
      have S0:MvS (w.heap.size+1+1) K wr.heap.size (some ⟨g,0,none⟩) ts.length sc (.func (.func 175) #[] #[.pointer (some ⟨K,0,none⟩),.pointer (some ⟨tob,0,none⟩)]) (.int .i64 kj) (.string (B nj)) (.int .i64 ij) (.slice aj ljl cj) wa.drew:=⟨hUa.cell x3 (fun x=>x),hUa.cell hKr (fun x=>x),hTc⟩;have IH2:=IH _ (hRj.on hUa) (hU0r.and hUa) (hUa.cell hTo (fun x=>x)) (hUa.cell hKr (fun x=>x));have q0:wa.cell? ⟨w.heap.size,0,none⟩=some (.int .i64 k):=by rw[hwa];exact((zD.refl zC wr).alloc _).cell t0 (fun x=>x)
      clear t0;have HWA:=zG hwa;clear hwa IH hRj hTc hTo hun;rcases rest with⟨k3,rfl⟩|⟨k3,k2,j1,rfl⟩|⟨k3,k2,j1,rfl⟩|⟨k3,k2,rfl⟩
      all_goals
        have HU:=zG hu;clear hu;try simp only[Int.add_zero]at IH2
        go_upto_region 6 with fail
        rw[<-HWA.out];go_wp2_with fail
        go_region_held3 (fun w'=>MvS (w.heap.size+1+1) K wr.heap.size (some ⟨g,0,none⟩) ts.length sc (.func (.func 175) #[] #[.pointer (some ⟨K,0,none⟩),.pointer (some ⟨tob,0,none⟩)]) (.int .i64 kj) (.string (B nj)) (.int .i64 ij) (.slice aj ljl cj) w')
          (first |(with_reducible assumption)|(with_reducible exact S0)|(with_reducible exact MvS.set (MvS.set (MvS.set (MvS.set S6 hg1 hg2 hg3 _ _) hg1 hg2 hg3 _ _) hg1 hg2 hg3 _ _) hg1 hg2 hg3 _ _))
          ((go_at_call 175;refine IH2.mono ?_;rintro e w6 ⟨k6,i6,n6,a6,l6,c6,rfl,hR6,hU6⟩;have S6:=S0.zF hU6 (fun x=>x) (fun x=>x) (fun x=>x);have hU6':zD zC wr w6:=hUa.and hU6;obtain⟨g',cs',e6,_,_,f6,n6',g6,_,_⟩:=(hM.kept hU6') j hlt;obtain rfl:g=g':=(by cases e6;rfl);have hz6:=hU6'.size;obtain⟨v0,hv0⟩:∃ q,w6.cell? ⟨g,j * 4,none⟩=some q:=⟨_,g6 0 _ (List.getElem?_eq_getElem (by rw[n6'];decide))⟩;obtain⟨v1,hv1⟩:∃ q,w6.cell? ⟨g,j * 4+1,none⟩=some q:=⟨_,g6 1 _ (List.getElem?_eq_getElem (by rw[n6'];decide))⟩;obtain⟨v2,hv2⟩:∃ q,w6.cell? ⟨g,j * 4+2,none⟩=some q:=⟨_,g6 2 _ (List.getElem?_eq_getElem (by rw[n6'];decide))⟩;obtain⟨v3,hv3⟩:∃ q,w6.cell? ⟨g,j * 4+3,none⟩=some q:=⟨_,g6 3 _ (List.getElem?_eq_getElem (by rw[n6'];decide))⟩;have hg6:g<w6.heap.size:=Nat.lt_of_lt_of_le hgl hU6'.size))
      all_goals
        have hnx:=ZT.next (u:=us1) (d0:=.int .i64 k6) (d1:=.string (B n6)) (d2:=.int .i64 i6) (d3:=.slice a6 l6 c6) (hM.kept hU6') (by have:=HS.out.1;have:=HLT.out;omega) (by omega) (zL.weaken (fun b _ e=>by omega) _ _ hR6) rfl;rw[HS.out.1]at hnx;have hB9:=(hB.kept hU6').zF hnx.2 (by omega);have hR9:=(hRr.kept hU6').zF hnx.2 (by omega);have hT9:=(hTr.kept hU6').zF hnx.2 (by omega);have hU9:=(hU.and hU6').trans hnx.2 (fun x hx e=>by omega);have hz9:=hnx.2.size;have n2:us++[us1]=Ql c b k 0 (ts.take (j+1)):=by rw[HTL.out,HS.out.2]
        have HN:=zG n2;clear n2;go_wp2_with fail
        go_roundw
        case rel=>exact⟨j+1,us++[us1],by go_num,Nat.succ_le_of_lt HLT.out,HN.out,hnx.1,hB9,hR9,hT9,hU9,by omega⟩
        case measure=>(have:=HLT.out;simp[intOf];omega)
     ·have hjl:j=ts.length:=by omega
      have hrep:=hM.rep (by have:=HS.out.1;omega);have hjn:¬(j:Int)<(ts.length:Int):=by omega
      have CH:=hF wr (w.heap.size+1+1) k i b nm (.slice sa ts.length sc) hU0r hb0 (by omega) hok0 (by have:=hU0.size;omega) hB;have hus2:us=Ql c b k 0 ts:=by rw[HS.out.2,hjl,List.take_length]
      have hul2:us.length=ts.length:=by rw[hus2,xe]
      have hB0:=hB.lt;have HJ:=zG (And.intro hus2 hul2);clear hM hjl hus2 hul2 x0 x1 x2 x3 t0 t1 t2 t3 hF hE;go_wp2_with fail
      (with_reducible refine CH.mono ?_);rintro e w7 ⟨rfl,hB7,hU7⟩;have hR7:=hRr.zF hU7 (by omega);have hE7:zH (fun x=>x<w.heap.size+1+1) w7 4 (us.map Tm.zN) sa 0:=zH.weaken (fun b _ e=>by omega) _ _ _ _ (zH.zF hU7 (fun b e=>by omega) _ _ _ _ hrep);have hU07:=hU.trans hU7 (fun x hx e=>by omega);clear CH hrep hB hRr hTr;obtain⟨k7,hk7⟩:∃ q,q=(c b k i).1:=⟨_,rfl⟩;obtain⟨i7,hi7⟩:∃ q,q=(c b k i).2:=⟨_,rfl⟩;rw[<-hk7,<-hi7]at hB7;have HKI:=zG (And.intro hk7 hi7);clear hk7 hi7 hU7;obtain⟨x0,x1,x2,x3⟩:=hB7.cells;obtain⟨r0,r1,r2,r3⟩:=hR7.cells;obtain⟨rf0,rf1,rf2,rf3⟩:=hR7.zI;have hr7:=hR7.lt;go_wp2_with fail
      obtain⟨w9,hw9⟩:∃ w9,w9=(((w7.setCell ⟨w.heap.size+1,0,none⟩ (.int .i64 k7)).setCell ⟨w.heap.size+1,1,none⟩ (.string (B nm))).setCell ⟨w.heap.size+1,2,none⟩ (.int .i64 i7)).setCell ⟨w.heap.size+1,3,none⟩ (.slice sa ts.length sc):=⟨_,rfl⟩;have hset9:=hR7.set (d0:=.int .i64 k7) (d1:=.string (B nm)) (d2:=.int .i64 i7) (d3:=.slice sa ts.length sc);rw[<-hw9]at hset9;rw[<-hw9];clear hw9;obtain⟨e0,e1,e2,e3⟩:=hset9.1.cells;refine bodyPost_ret (v:=.agg #[.int .i64 k7,.string (B nm),.int .i64 i7,.slice sa ts.length sc]) ?_ rfl ?_
      ·simp[results,Tryz.f175,go_sem,e0,e1,e2,e3]
      ·refine⟨k7,i7,nm,sa,ts.length,sc,rfl,?_,hU07.trans hset9.2 (fun x hx e=>by omega)⟩;rw[Z3,<-HJ.out.1,<-HKI.out.1,<-HKI.out.2];exact zf.2 ⟨sa,sc,by rw[HJ.out.2],by rw[HJ.out.2];exact hsc,zH.weaken (fun b _ e=>by omega) _ _ _ _ (zH.zF hset9.2 (fun b e=>by omega) _ _ _ _ hE7)⟩
end
section
open Go.RowKit Go.LF
theorem Q8(c:Int->Int->Int->Int×Int)(ok:Int->Int->Prop)(F:FuncId)(caps:List Value)(t:Tm)(w:World)(cs:List Value)(hF:zIw w F caps c ok)(hFE:∀ args w,Sem.run Tryz.prog (callFunc F args) w=.ok (Next.enter F args) w)(hsz:t.size<=100000)
    (hok:∀ b,∀ x∈t.nodes b,ok x.k x.i) (h:zL zC w t.zN cs):Calls Tryz.prog 134 #[.agg cs.toArray,.func (.func F) #[] caps.toArray] w (zA6 (chT c 0 t) (fun x=>x<w.heap.size) w):=by
  obtain⟨k,n,i,ts,a,cap,ht,rfl,hcap,hE⟩:=zW h;have hW:=fun tob K w' h1 h2 h3 h4=>zGx c ok w tob K F caps hF hFE t hsz hok 0 w' [.int .i64 k,.string (B n),.int .i64 i,.slice a ts.length cap] (by omega) (by omega) h1 h2 h3 h4
  clear hF hok hE hcap ht;generalize ts.length=len at *
  obtain⟨w3,hw3⟩:∃ w3,w3=((w.alloc (.cells #[.int .i64 k,.string (B n),.int .i64 i,.slice a len cap] 29)).alloc (.cells #[.func (.func F) #[] caps.toArray] 148)).alloc (.cells #[.int .i64 0,.string (B []),.int .i64 0,.slice none 0 0] 29):=⟨_,rfl⟩;obtain⟨w5,hw5⟩:∃ w5,w5=w3.alloc (.cells #[.func (.func 175) #[] #[.pointer (some ⟨w.heap.size+1+1+1,0,none⟩),.pointer (some ⟨w.heap.size+1,0,none⟩)]] 106):=⟨_,rfl⟩;have hz3:w3.heap.size=w.heap.size+1+1+1:=by rw[hw3];simp
  have hU3:zD zC w w3:=by rw[hw3];exact(((zD.refl zC w).alloc _).alloc _).alloc _
  have hU5:zD zC w3 w5:=by rw[hw5];exact(zD.refl zC w3).alloc _
  have hUw:=hU3.and hU5
  have hT5:zv w5 (w.heap.size+1) (.func (.func F) #[] caps.toArray) 148:=by
    refine zv.kept ?_ hU5;rw[hw3];exact(zv.zJ (by simp)).kept ((zD.refl zC _).alloc _)
  have hr5:zK w5 (w.heap.size+1+1) (.int .i64 0) (.string (B [])) (.int .i64 0) (.slice none 0 0) 29:=by
    refine zK.kept ?_ hU5;rw[hw3];exact zK.zJ (by simp)
  have ht5:zK w5 w.heap.size (.int .i64 k) (.string (B n)) (.int .i64 i) (.slice a len cap) 29:=by
    refine zK.kept ?_ hU5;rw[hw3];exact((zK.zJ rfl).kept ((zD.refl zC _).alloc _)).kept ((zD.refl zC _).alloc _)
  have hK5:zv w5 (w.heap.size+1+1+1) (.func (.func 175) #[] #[.pointer (some ⟨w.heap.size+1+1+1,0,none⟩),.pointer (some ⟨w.heap.size+1,0,none⟩)]) 106:=by rw[hw5];exact zv.zJ hz3
  have hWW:=hW (w.heap.size+1) (w.heap.size+1+1+1) w5 (h.on hUw) hUw hT5.cell hK5.cell;have hK0:=hK5.cell;obtain⟨t0,t1,t2,t3⟩:=ht5.cells;rw[hw3]at hw5;have HW5:=zG hw5;clear hW hw3 hw5 hU3 hU5 h hK5 hT5 hz3 w3;go_enter Tryz.func134,Tryz.ntmps134
  go_upto_region 3 with fail
  rw[<-show B []={ data:=#[] }from rfl,<-HW5.out];go_wp2_with fail
  refine hWW.mono ?_;rintro e w6 ⟨k6,i6,n6,a6,l6,c6,rfl,hR6,hU6⟩;have hr6:=hr5.kept hU6;obtain⟨x0,x1,x2,x3⟩:=hr6.cells;obtain⟨y0,y1,y2,y3⟩:=hr6.zI;have qr:=hr6.lt;have hUw6:zD zC w w6:=hUw.and hU6;have hUwz:=hUw.size;go_wp2_with fail
  obtain⟨w9,hw9⟩:∃ w9,w9=(((w6.setCell ⟨w.heap.size+1+1,0,none⟩ (.int .i64 k6)).setCell ⟨w.heap.size+1+1,1,none⟩ (.string (B n6))).setCell ⟨w.heap.size+1+1,2,none⟩ (.int .i64 i6)).setCell ⟨w.heap.size+1+1,3,none⟩ (.slice a6 l6 c6):=⟨_,rfl⟩;have hset:=hr6.set (d0:=.int .i64 k6) (d1:=.string (B n6)) (d2:=.int .i64 i6) (d3:=.slice a6 l6 c6);rw[<-hw9]at hset;rw[<-hw9];clear hw9;obtain⟨e0,e1,e2,e3⟩:=hset.1.cells;refine bodyPost_ret (v:=.agg #[.int .i64 k6,.string (B n6),.int .i64 i6,.slice a6 l6 c6]) ?_ rfl ?_
  ·simp[results,Tryz.f134,go_sem,e0,e1,e2,e3]
  ·exact⟨k6,i6,n6,a6,l6,c6,rfl,zL.weaken (fun b _ e=>by have:=hUw.size;have:=hr5.lt;omega) _ _ (zL.zF hset.2 (fun b e=>by have:=hr5.lt;omega) _ _ hR6),hUw6.trans hset.2 (fun x hx e=>by omega)⟩
theorem zG0(w0:World)(p:Nat)(hp:p<=1000000)(nb:Nat)(hn:w0.cell? ⟨nb,0,none⟩=some (.int .i64 (p:Int))):zIw w0 135 [.pointer (some ⟨nb,0,none⟩)] (ZF (p:Int)) (fun k i=>k=6->0<=i/\i<=1048576):=by
  intro W tb k i d nm v hU hd0 hd1 hok htb hB;have hnW:=hU.cell hn (fun x=>x);have hnb:nb<w0.heap.size:=World.block_lt_of_cell? w0 _ hn;have hne:¬nb=tb:=by omega
  obtain⟨x0,x1,x2,x3⟩:=hB.cells;obtain⟨y0,y1,y2,y3⟩:=hB.zI;have hlt:=hB.lt;have hp1:(p:Int)<=1000000:=by omega
  have hp0:(0:Int)<=(p:Int):=by omega
  by_cases h6:k=6
  ·have hi:=hok h6;obtain⟨hi0,hi1⟩:=hi;have hc:ZF (p:Int) d k i=(5,d+p - 1 - i):=by unfold ZF;rw[if_pos h6]
   rw[hc];have hz:(k == 6)=true:=by simp[h6]
   have HB:=zG hB;clear hok hc h6 hB hn hU;go_enter Tryz.func135,Tryz.ntmps135
   go_wp2_with fail
   go_region
   all_goals
     go_wp2_with fail
     go_end0
     exact⟨rfl,(HB.out.zB6 _).Yk _,(zD.set (zD.set (zD.refl _ W) 0 _) 2 _).drew⟩
  ·have hc:ZF (p:Int) d k i=(k,i):=by unfold ZF;rw[if_neg h6]
   rw[hc];have hz:(k == 6)=false:=by simp[h6]
   have HB:=zG hB;clear hok hc h6 hB hn hU;go_enter Tryz.func135,Tryz.ntmps135
   go_wp2_with fail
   go_end0
   exact⟨rfl,HB.out,zD.refl _ _⟩
theorem zGc(w0:World)(f n:Nat)(hf:f<=1000000)(hn:n<=1000000)(fb nb:Nat)(hfc:w0.cell? ⟨fb,0,none⟩=some (.int .i64 (f:Int)))(hnc:w0.cell? ⟨nb,0,none⟩=some (.int .i64 (n:Int))):
    zIw w0 142 [.pointer (some ⟨fb,0,none⟩),.pointer (some ⟨nb,0,none⟩)] (zDM (f:Int) (n:Int)) (fun k i=>k=5->0<=i/\i<=1048576):=by
  intro W tb k i d nm v hU hd0 hd1 hok htb hB;have hnW:=hU.cell hnc (fun x=>x);have hfW:=hU.cell hfc (fun x=>x);have hnb:nb<w0.heap.size:=World.block_lt_of_cell? w0 _ hnc;have hfb:fb<w0.heap.size:=World.block_lt_of_cell? w0 _ hfc;have hne:¬nb=tb:=by omega
  have hne2:¬fb=tb:=by omega
  obtain⟨x0,x1,x2,x3⟩:=hB.cells;obtain⟨y0,y1,y2,y3⟩:=hB.zI;have hlt:=hB.lt;have hn1:(n:Int)<=1000000:=by omega
  have hn0:(0:Int)<=(n:Int):=by omega
  have hf1:(f:Int)<=1000000:=by omega
  have hf0:(0:Int)<=(f:Int):=by omega
  have HB:=zG hB;by_cases h5:k=5
  ·obtain⟨hi0,hi1⟩:=hok h5;have hz:(k == 5)=true:=by simp[h5]
   by_cases hdi:d<=i
   ·have hc:zDM (f:Int) (n:Int) d k i=(6,f+n - 1 - (i - d)):=by unfold zDM;rw[if_pos ⟨h5,hdi⟩]
    rw[hc];clear hok hc h5 hB hfc hnc hU;go_enter Tryz.func142,Tryz.ntmps142
    go_wp2_with fail
    go_region
    all_goals
      go_wp2_with fail
      go_end0
      exact⟨rfl,(HB.out.zB6 _).Yk _,(zD.set (zD.set (zD.refl _ W) 0 _) 2 _).drew⟩
   ·have hc:zDM (f:Int) (n:Int) d k i=(k,i):=by unfold zDM;rw[if_neg (fun e=>hdi e.2)]
    rw[hc];clear hok hc h5 hB hfc hnc hU;go_enter Tryz.func142,Tryz.ntmps142
    go_wp2_with fail
    go_end0
    exact⟨rfl,HB.out,zD.refl _ _⟩
  ·have hc:zDM (f:Int) (n:Int) d k i=(k,i):=by unfold zDM;rw[if_neg (fun e=>h5 e.1)]
   rw[hc];have hz:(k == 5)=false:=by simp[h5]
   clear hok hc h5 hB hfc hnc hU;go_enter Tryz.func142,Tryz.ntmps142
   go_wp2_with fail
   go_end0
   exact⟨rfl,HB.out,zD.refl _ _⟩
theorem zEf(t:Tm)(p:Nat)(hp:p<=1000000)(w:World)(cs:List Value)(hsz:t.size<=100000)(hok:∀ b,∀ x∈t.nodes b,x.k=6->0<=x.i/\x.i<=1048576)(h:zL zC w t.zN cs):
    Calls Tryz.prog 73 #[.agg cs.toArray,.int .i64 (p:Int)] w (zA6 (QK (p:Int) 0 t) (fun x=>x<w.heap.size) w):=by
  obtain⟨k,n,i,ts,a,cap,ht,rfl,hcap,hE⟩:=zW h;clear hE hcap ht;generalize ts.length=len at *
  obtain⟨w3,hw3⟩:∃ w3,w3=((w.alloc (.cells #[.int .i64 k,.string (B n),.int .i64 i,.slice a len cap] 29)).alloc (.cells #[.int .i64 (p:Int)] 3)).alloc (.cells #[.int .i64 0,.string (B []),.int .i64 0,.slice none 0 0] 29):=⟨_,rfl⟩;have hU3:zD zC w w3:=by rw[hw3];exact(((zD.refl zC w).alloc _).alloc _).alloc _
  have hn3:zv w3 (w.heap.size+1) (.int .i64 (p:Int)) 3:=by rw[hw3];exact(zv.zJ (by simp)).kept ((zD.refl zC _).alloc _)
  have hr3:zK w3 (w.heap.size+1+1) (.int .i64 0) (.string (B [])) (.int .i64 0) (.slice none 0 0) 29:=by rw[hw3];exact zK.zJ (by simp)
  have ht3:zK w3 w.heap.size (.int .i64 k) (.string (B n)) (.int .i64 i) (.slice a len cap) 29:=by rw[hw3];exact((zK.zJ rfl).kept ((zD.refl zC _).alloc _)).kept ((zD.refl zC _).alloc _)
  have RP:=Q8 (ZF (p:Int)) _ 135 [.pointer (some ⟨w.heap.size+1,0,none⟩)] t w3 _ (zG0 w3 p hp (w.heap.size+1) hn3.cell) (fun _ _=>rfl) hsz hok (h.on hU3);obtain⟨t0,t1,t2,t3⟩:=ht3.cells;have HW3:=zG hw3;clear hw3 hok h hn3;go_enter Tryz.func73,Tryz.ntmps73
  go_upto_region 1 with fail
  rw[<-show B []={ data:=#[] }from rfl,<-HW3.out];go_wp2_with fail
  refine RP.mono ?_;rintro e w6 ⟨k6,i6,n6,a6,l6,c6,rfl,hR6,hU6⟩;have hr6:=hr3.kept hU6;obtain⟨x0,x1,x2,x3⟩:=hr6.cells;obtain⟨y0,y1,y2,y3⟩:=hr6.zI;have qr:=hr6.lt;have hUw6:zD zC w w6:=hU3.and hU6;go_wp2_with fail
  obtain⟨w9,hw9⟩:∃ w9,w9=(((w6.setCell ⟨w.heap.size+1+1,0,none⟩ (.int .i64 k6)).setCell ⟨w.heap.size+1+1,1,none⟩ (.string (B n6))).setCell ⟨w.heap.size+1+1,2,none⟩ (.int .i64 i6)).setCell ⟨w.heap.size+1+1,3,none⟩ (.slice a6 l6 c6):=⟨_,rfl⟩;have hset:=hr6.set (d0:=.int .i64 k6) (d1:=.string (B n6)) (d2:=.int .i64 i6) (d3:=.slice a6 l6 c6);rw[<-hw9]at hset;rw[<-hw9];clear hw9;obtain⟨e0,e1,e2,e3⟩:=hset.1.cells;refine bodyPost_ret (v:=.agg #[.int .i64 k6,.string (B n6),.int .i64 i6,.slice a6 l6 c6]) ?_ rfl ?_
  ·simp[results,Tryz.f73,go_sem,e0,e1,e2,e3]
  ·exact⟨k6,i6,n6,a6,l6,c6,rfl,zL.weaken (fun b _ e=>by have:=hU3.size;omega) _ _ (zL.zF hset.2 (fun b e=>by have:=hr3.lt;omega) _ _ hR6),hUw6.trans hset.2 (fun x hx e=>by omega)⟩
theorem zEH(t:Tm)(f p:Nat)(hf:f<=1000000)(hp:p<=1000000)(w:World)(cs:List Value)(hsz:t.size<=100000)(hok:∀ b,∀ x∈t.nodes b,x.k=5->0<=x.i/\x.i<=1048576)(h:zL zC w t.zN cs):
    Calls Tryz.prog 84 #[.agg cs.toArray,.int .i64 (f:Int),.int .i64 (p:Int)] w (zA6 (fil (f:Int) (p:Int) 0 t) (fun x=>x<w.heap.size) w):=by
  obtain⟨k,n,i,ts,a,cap,ht,rfl,hcap,hE⟩:=zW h;clear hE hcap ht;generalize ts.length=len at *
  obtain⟨w3,hw3⟩:∃ w3,w3=(((w.alloc (.cells #[.int .i64 k,.string (B n),.int .i64 i,.slice a len cap] 29)).alloc (.cells #[.int .i64 (f:Int)] 3)).alloc (.cells #[.int .i64 (p:Int)] 3)).alloc (.cells #[.int .i64 0,.string (B []),.int .i64 0,.slice none 0 0] 29):=⟨_,rfl⟩;have hU3:zD zC w w3:=by rw[hw3];exact((((zD.refl zC w).alloc _).alloc _).alloc _).alloc _
  have hf3:zv w3 (w.heap.size+1) (.int .i64 (f:Int)) 3:=by rw[hw3];exact((zv.zJ (by simp)).kept ((zD.refl zC _).alloc _)).kept ((zD.refl zC _).alloc _)
  have hn3:zv w3 (w.heap.size+1+1) (.int .i64 (p:Int)) 3:=by rw[hw3];exact(zv.zJ (by simp)).kept ((zD.refl zC _).alloc _)
  have hr3:zK w3 (w.heap.size+1+1+1) (.int .i64 0) (.string (B [])) (.int .i64 0) (.slice none 0 0) 29:=by rw[hw3];exact zK.zJ (by simp)
  have ht3:zK w3 w.heap.size (.int .i64 k) (.string (B n)) (.int .i64 i) (.slice a len cap) 29:=by rw[hw3];exact(((zK.zJ rfl).kept ((zD.refl zC _).alloc _)).kept ((zD.refl zC _).alloc _)).kept ((zD.refl zC _).alloc _)
  have RP:=Q8 (zDM (f:Int) (p:Int)) _ 142 [.pointer (some ⟨w.heap.size+1,0,none⟩),.pointer (some ⟨w.heap.size+1+1,0,none⟩)] t w3 _ (zGc w3 f p hf hp (w.heap.size+1) (w.heap.size+1+1) hf3.cell hn3.cell) (fun _ _=>rfl) hsz hok (h.on hU3);obtain⟨t0,t1,t2,t3⟩:=ht3.cells;have HW3:=zG hw3;clear hw3 hok h hn3 hf3;go_enter Tryz.func84,Tryz.ntmps84
  go_upto_region 1 with fail
  rw[<-show B []={ data:=#[] }from rfl,<-HW3.out];go_wp2_with fail
  refine RP.mono ?_;rintro e w6 ⟨k6,i6,n6,a6,l6,c6,rfl,hR6,hU6⟩;have hr6:=hr3.kept hU6;obtain⟨x0,x1,x2,x3⟩:=hr6.cells;obtain⟨y0,y1,y2,y3⟩:=hr6.zI;have qr:=hr6.lt;have hUw6:zD zC w w6:=hU3.and hU6;go_wp2_with fail
  obtain⟨w9,hw9⟩:∃ w9,w9=(((w6.setCell ⟨w.heap.size+1+1+1,0,none⟩ (.int .i64 k6)).setCell ⟨w.heap.size+1+1+1,1,none⟩ (.string (B n6))).setCell ⟨w.heap.size+1+1+1,2,none⟩ (.int .i64 i6)).setCell ⟨w.heap.size+1+1+1,3,none⟩ (.slice a6 l6 c6):=⟨_,rfl⟩;have hset:=hr6.set (d0:=.int .i64 k6) (d1:=.string (B n6)) (d2:=.int .i64 i6) (d3:=.slice a6 l6 c6);rw[<-hw9]at hset;rw[<-hw9];clear hw9;obtain⟨e0,e1,e2,e3⟩:=hset.1.cells;refine bodyPost_ret (v:=.agg #[.int .i64 k6,.string (B n6),.int .i64 i6,.slice a6 l6 c6]) ?_ rfl ?_
  ·simp[results,Tryz.f84,go_sem,e0,e1,e2,e3]
  ·exact⟨k6,i6,n6,a6,l6,c6,rfl,zL.weaken (fun b _ e=>by have:=hU3.size;omega) _ _ (zL.zF hset.2 (fun b e=>by have:=hr3.lt;omega) _ _ hR6),hUw6.trans hset.2 (fun x hx e=>by omega)⟩
end
section
open Go.RowKit Go.LF
abbrev Pr2(M P:Nat)(m0 m1 m2 m3 m4 c0 c1 c2 c3:Value)(w':World):Prop:=
  (w'.cell? ⟨M,0,none⟩=some m0/\w'.cell? ⟨M,1,none⟩=some m1/\w'.cell? ⟨M,2,none⟩=some m2/\w'.cell? ⟨M,3,none⟩=some m3/\w'.cell? ⟨M,4,none⟩=some m4)/\YS P c0 c1 c2 c3 w'
theorem Pr2.zF{M P:Nat}{m0 m1 m2 m3 m4 c0 c1 c2 c3:Value}{w w':World}{S:Nat->Prop}(h:Pr2 M P m0 m1 m2 m3 m4 c0 c1 c2 c3 w)(hU:zD S w w')(h1:¬S M)(h2:¬S P):Pr2 M P m0 m1 m2 m3 m4 c0 c1 c2 c3 w':=
  ⟨⟨hU.cell h.1.1 h1,hU.cell h.1.2.1 h1,hU.cell h.1.2.2.1 h1,hU.cell h.1.2.2.2.1 h1,hU.cell h.1.2.2.2.2 h1⟩,h.2.zF hU h2⟩
theorem Pr2.new{M P:Nat}{m0 m1 m2 m3 m4 c0 c1 c2 c3:Value}{w:World}(h:Pr2 M P m0 m1 m2 m3 m4 c0 c1 c2 c3 w)(o:Obj):Pr2 M P m0 m1 m2 m3 m4 c0 c1 c2 c3 (w.alloc o):=h.zF ((zD.refl zC w).alloc o) (fun x=>x) (fun x=>x)
theorem Pr2.set{M P g:Nat}{m0 m1 m2 m3 m4 c0 c1 c2 c3:Value}{w:World}(h:Pr2 M P m0 m1 m2 m3 m4 c0 c1 c2 c3 w)(h1:M≠g)(h2:P≠g)(o:Nat)(v:Value):Pr2 M P m0 m1 m2 m3 m4 c0 c1 c2 c3 (w.setCell ⟨g,o,none⟩ v):=
  h.zF (zD.set (zD.refl _ w) o v) h1 h2
theorem zCE{O:Nat->Prop}{W:World}{t u:Tm}{c0 c1 c2 c3 d0 d1 d2 d3:Value}{b:Nat}{T:TypeId}(h:zL O W t.zN [c0,c1,c2,c3])(h':zL O W u.zN [d0,d1,d2,d3])(hb:¬O b)(hB:W.heap[b]? =some (.cells #[c0,c1,c2,c3,d0,d1,d2,d3] T (0,0))):zH O W 4 ([t,u].map Tm.zN) (some ⟨b,0,none⟩) 0:=by
  have hlt:b<W.heap.size:=(Array.getElem?_eq_some_iff.1 hB).1;have hc:∀ i,W.cell? ⟨b,i,none⟩=(#[c0,c1,c2,c3,d0,d1,d2,d3]:Array Value)[i]? :=fun i=>by simp[World.cell?,hB]
  refine zt _ _ _ (fun i hi=>?_);have:i=0\/i=1:=by simp at hi;omega
  rcases this with rfl |rfl
  ·refine⟨b,0,_,rfl,hlt,hb,rfl,fun q v hv=>?_,h⟩;rw[show 0+0+0 * 4+q=q by omega,hc];match q,hv with
   |0,hv=>cases hv;rfl
   |1,hv=>cases hv;rfl
   |2,hv=>cases hv;rfl
   |3,hv=>cases hv;rfl
   |q+4,hv=>simp at hv
  ·refine⟨b,0,_,rfl,hlt,hb,rfl,fun q v hv=>?_,h'⟩;rw[show 0+0+1 * 4+q=q+4 by omega,hc];match q,hv with
   |0,hv=>cases hv;rfl
   |1,hv=>cases hv;rfl
   |2,hv=>cases hv;rfl
   |3,hv=>cases hv;rfl
   |q+4,hv=>simp at hv
theorem zBp(O:Nat->Prop)(m:Mv)(j:Nat)(hj:j<=1000000)(t:Tm)(pi:Bool)(w:World)(hO:∀ b,O b->b<w.heap.size)(cs ds:List Value)(hm:zL zC w m.zN cs)(hsz:m.type.size<=100000)(hok:∀ b,∀ x∈m.type.nodes b,x.k=6->0<=x.i/\x.i<=1048576)(ht:zL O w t.zN ds):
    Calls Tryz.prog 74 #[.agg cs.toArray,.int .i64 (j:Int),.agg ds.toArray,.bool pi] w (zA6 (par pi m j t) O w):=by
  obtain⟨k,n,i,aa,cap,va,vc,rfl,hRt,hvc,hV⟩:=xh hm;obtain⟨k2,n2,i2,ts,a2,cap2,hteq,rfl,hcap2,hE2⟩:=zW ht;clear hvc hV hE2 hcap2 hteq hm;generalize ts.length=l2 at *
  generalize m.value.length=vl at *
  have BD:=fun(W:World)(hU:zD zC w W)=>zEf m.type j hj W _ hsz hok (hRt.on hU)
  clear hsz hok;generalize m.type.args.length=l1 at *
  obtain⟨w3,hw3⟩:∃ w3,w3=((w.alloc (.cells #[.string (B m.name),.int .i64 k,.string (B n),.int .i64 i,.slice aa l1 cap,.slice va vl vc] 96)).alloc (.cells #[.int .i64 k2,.string (B n2),.int .i64 i2,.slice a2 l2 cap2] 29)).alloc (.cells #[.int .i64 0,.string (B []),.int .i64 0,.slice none 0 0] 29):=⟨_,rfl⟩;have hU3:zD zC w w3:=by rw[hw3];exact(((zD.refl zC w).alloc _).alloc _).alloc _
  have hM3:zh w3 w.heap.size (.string (B m.name)) (.int .i64 k) (.string (B n)) (.int .i64 i) (.slice aa l1 cap) (.slice va vl vc) 96:=by rw[hw3];exact((zh.zJ rfl).kept ((zD.refl zC _).alloc _)).kept ((zD.refl zC _).alloc _)
  have ht3:zK w3 (w.heap.size+1) (.int .i64 k2) (.string (B n2)) (.int .i64 i2) (.slice a2 l2 cap2) 29:=by rw[hw3];exact(zK.zJ (by simp)).kept ((zD.refl zC _).alloc _)
  have hr3:zK w3 (w.heap.size+1+1) (.int .i64 0) (.string (B [])) (.int .i64 0) (.slice none 0 0) 29:=by rw[hw3];exact zK.zJ (by simp)
  have HW3:=zG hw3;clear hw3;have hz3:=hr3.lt;obtain⟨x0,x1,x2,x3,x4,x5⟩:=hM3.cells;obtain⟨t0,t1,t2,t3⟩:=ht3.cells;obtain⟨r0,r1,r2,r3⟩:=hr3.cells;obtain⟨f0,f1,f2,f3⟩:=hr3.zI;go_enter Tryz.func74,Tryz.ntmps74
  go_upto_region 1 with fail
  rw[<-show B []={ data:=#[] }from rfl,<-HW3.out];cases pi
  ·clear BD x1 x2 x3 x4 x5;have hset:=hr3.set (d0:=.int .i64 3) (d1:=.string (B m.name)) (d2:=.int .i64 0) (d3:=.slice (some ⟨w3.heap.size,0,none⟩) 1 1);obtain⟨w4,hw4⟩:∃ q,q=(((w3.setCell ⟨w.heap.size+1+1,0,none⟩ (.int .i64 3)).setCell ⟨w.heap.size+1+1,1,none⟩ (.string (B m.name))).setCell ⟨w.heap.size+1+1,2,none⟩ (.int .i64 0)).setCell ⟨w.heap.size+1+1,3,none⟩ (.slice (some ⟨w3.heap.size,0,none⟩) 1 1):=⟨_,rfl⟩;have hz4:w4.heap.size=w3.heap.size:=by rw[hw4];simp
   rw[<-hw4]at hset;have HW4:=zG hw4;clear hw4;go_wp2_with fail
   rw[<-HW4.out];have hal:=(zD.refl zC w4).alloc (.cells #[.int .i64 k2,.string (B n2),.int .i64 i2,.slice a2 l2 cap2] 29);have hr9:=hset.1.kept hal;have hb9:zK (w4.alloc (.cells #[.int .i64 k2,.string (B n2),.int .i64 i2,.slice a2 l2 cap2] 29)) w3.heap.size (.int .i64 k2) (.string (B n2)) (.int .i64 i2) (.slice a2 l2 cap2) 29:=zK.zJ hz4;have hU9:=hset.2.trans hal (fun _ _ e=>e.elim);obtain⟨w9,hw9⟩:∃ q,q=w4.alloc (.cells #[.int .i64 k2,.string (B n2),.int .i64 i2,.slice a2 l2 cap2] 29):=⟨_,rfl⟩;rw[<-hw9]at hr9 hb9 hU9;rw[<-hw9];clear hw9 hal;obtain⟨e0,e1,e2,e3⟩:=hr9.cells;refine bodyPost_ret (v:=.agg #[.int .i64 3,.string (B m.name),.int .i64 0,.slice (some ⟨w3.heap.size,0,none⟩) 1 1]) ?_ rfl ?_
   ·simp[results,Tryz.f74,go_sem,e0,e1,e2,e3]
   ·have hzw:=hU3.size;refine⟨3,0,m.name,_,1,1,rfl,?_,hU3.trans hU9 (fun b hb e=>by omega)⟩;unfold par;rw[if_neg (by decide)];refine zf.2 ⟨_,1,rfl,by simp,QM (zL.weaken (fun b _ e=>.inl e) _ _ (zL.zF hU9 (fun b e=>.inr (by omega)) _ _ ((zL.zS _ _ ht).on hU3))) (fun e=>by have:=hO _ e;omega) hb9⟩
  ·have hd:zD zC w3 w3.drew:=(zD.refl zC w3).drew;have BD3:=BD w3.drew (hU3.and hd);have S0:Pr2 w.heap.size (w.heap.size+1) (.string (B m.name)) (.int .i64 k) (.string (B n)) (.int .i64 i) (.slice aa l1 cap) (.int .i64 k2) (.string (B n2)) (.int .i64 i2) (.slice a2 l2 cap2) w3.drew:=Pr2.zF ⟨⟨x0,x1,x2,x3,x4⟩,t0,t1,t2,t3⟩ hd (fun x=>x) (fun x=>x);have hg1:w.heap.size≠w.heap.size+1+1:=by omega
   have hg2:w.heap.size+1≠w.heap.size+1+1:=by omega
   have hr3d:=hr3.kept hd;have htO:=(zL.zS _ _ ht).on (hU3.and hd);have hzw:=hU3.size;have hzd:w3.drew.heap.size=w3.heap.size:=rfl;have HS:=zG (And.intro hr3d (And.intro htO (And.intro hzw hzd)));clear BD hr3d htO hzw hzd hd x0 x1 x2 x3 x4 x5 t0 t1 t2 t3 r0 r1 r2 r3 f0 f1 f2 f3 hRt ht hM3 ht3;go_wp2_with fail
   go_region_held3 (fun w'=>Pr2 w.heap.size (w.heap.size+1) (.string (B m.name)) (.int .i64 k) (.string (B n)) (.int .i64 i) (.slice aa l1 cap) (.int .i64 k2) (.string (B n2)) (.int .i64 i2) (.slice a2 l2 cap2) w')
     (first |(with_reducible assumption)|(with_reducible exact S0)|(with_reducible exact S6.new _)|(with_reducible exact(Pr2.set (Pr2.set (Pr2.set (Pr2.set S6 hg1 hg2 _ _) hg1 hg2 _ _) hg1 hg2 _ _) hg1 hg2 _ _).new _))
     ((go_at_call 73;refine BD3.mono ?_;rintro e w6 ⟨k6,i6,n6,a6,l6,c6,rfl,hR6,hU6⟩;have S6:=S0.zF hU6 (fun x=>x) (fun x=>x);have hr6:=HS.out.1.kept hU6;obtain⟨r0,r1,r2,r3⟩:=hr6.cells;obtain⟨f0,f1,f2,f3⟩:=hr6.zI;have qr:=hr6.lt))
   all_goals
     go_wp2_with fail
     have hset:=hr6.set (d0:=.int .i64 2) (d1:=.string (B m.name)) (d2:=.int .i64 0) (d3:=.slice (some ⟨w6.heap.size,0,none⟩) 2 2);obtain⟨w4,hw4⟩:∃ q,q=(((w6.setCell ⟨w.heap.size+1+1,0,none⟩ (.int .i64 2)).setCell ⟨w.heap.size+1+1,1,none⟩ (.string (B m.name))).setCell ⟨w.heap.size+1+1,2,none⟩ (.int .i64 0)).setCell ⟨w.heap.size+1+1,3,none⟩ (.slice (some ⟨w6.heap.size,0,none⟩) 2 2):=⟨_,rfl⟩;have hz4:w4.heap.size=w6.heap.size:=by rw[hw4];simp
     rw[<-hw4]at hset;rw[<-hw4];clear hw4;have hal:=(zD.refl zC w4).alloc (.cells #[.int .i64 k6,.string (B n6),.int .i64 i6,.slice a6 l6 c6,.int .i64 k2,.string (B n2),.int .i64 i2,.slice a2 l2 cap2] 29);have hr9:=hset.1.kept hal;have hb9:(w4.alloc (.cells #[.int .i64 k6,.string (B n6),.int .i64 i6,.slice a6 l6 c6,.int .i64 k2,.string (B n2),.int .i64 i2,.slice a2 l2 cap2] 29)).heap[w6.heap.size]? =some (.cells #[.int .i64 k6,.string (B n6),.int .i64 i6,.slice a6 l6 c6,.int .i64 k2,.string (B n2),.int .i64 i2,.slice a2 l2 cap2] 29 (0,0)):=by rw[<-hz4];exact heap_alloc_new w4 _
     have hU9:=hset.2.trans hal (fun _ _ e=>e.elim);obtain⟨w9,hw9⟩:∃ q,q=w4.alloc (.cells #[.int .i64 k6,.string (B n6),.int .i64 i6,.slice a6 l6 c6,.int .i64 k2,.string (B n2),.int .i64 i2,.slice a2 l2 cap2] 29):=⟨_,rfl⟩;rw[<-hw9]at hr9 hb9 hU9;rw[<-hw9];clear hw9 hal;obtain⟨e0,e1,e2,e3⟩:=hr9.cells;have hd6:zD zC w w6:=(hU3.and (zD.refl zC w3).drew).and hU6;have hz6:=hU6.size;have hs1:=HS.out.2.2.1;have hs2:=HS.out.2.2.2;refine bodyPost_ret (v:=.agg #[.int .i64 2,.string (B m.name),.int .i64 0,.slice (some ⟨w6.heap.size,0,none⟩) 2 2]) ?_ rfl ?_
     ·simp[results,Tryz.f74,go_sem,e0,e1,e2,e3]
     ·refine⟨2,0,m.name,_,2,2,rfl,?_,hd6.trans hU9 (fun b hb e=>by omega)⟩;unfold par;rw[if_pos rfl];refine zf.2 ⟨_,2,rfl,by simp,zCE (zL.weaken (fun b _ e=>by have:=hO _ e;omega) _ _ (zL.zF hU9 (fun b e=>by omega) _ _ hR6)) (zL.weaken (fun b _ e=>.inl e) _ _ (zL.zF hU9 (fun b e=>.inr (by omega)) _ _ (HS.out.2.1.on hU6))) (fun e=>by have:=hO _ e;omega) hb9⟩
end
end Go.Proofs.YthgmimncdjhgnaaGreatDoor
namespace Go.LF
open Tm Go.Proofs.YthgmimncdjhgnaaGreatDoor
theorem zH4(a:Tm):qd a<=a.size:=by
  induction a using ind with
  |h k nm i l ih=>
   match l,ih with
   | [d,b],ih=>
     have:=ih b (by simp);rw[qd,zU,zQ,zQ,zQ];split<;>omega
   | [],_=>exact Nat.zero_le _
   | [_],_=>exact Nat.zero_le _
   |_ :: _ :: _ :: _,_=>exact Nat.zero_le _
theorem zJM{k i:Int}{nm:List UInt8}{l:List Tm}(h:(mk k nm i l).zP=true\/(mk k nm i l).zR=true)(hk:k=2):1<=qd (mk k nm i l):=by
  subst hk;match l,h with
  | [d,b],_=>rw[qd,if_pos rfl];omega
  | [],h=>simp[zP,isAtom,zR,bound]at h
  | [_],h=>simp[zP,isAtom,zR,bound]at h
  |_ :: _ :: _ :: _,h=>simp[zP,isAtom,zR,bound]at h
end Go.LF
namespace Go.Proofs.YthgmimncdjhgnaaGreatDoor
open Go.RowKit Go.LF
theorem qC(t:Tm)(hwt:t.wt<=1000000)(w:World)(cs:List Value)(h:zL zC w t.zN cs):
    Calls Tryz.prog 67 #[.agg cs.toArray] w fun e w'=>e=.returned (.bool ((t.zP && t.small)|| (t.zR && t.small)))/\zD zC w w':=by
  obtain⟨k,n,i,ts,a,cap,hteq,rfl,-,-⟩:=zW h;generalize ts.length=len at *
  obtain⟨w1,hw1⟩:∃ w1,w1=w.alloc (.cells #[.int .i64 k,.string (B n),.int .i64 i,.slice a len cap] 29):=⟨_,rfl⟩;have hU1:zD zC w w1:=by rw[hw1];exact(zD.refl zC w).alloc _
  have hb1:zK w1 w.heap.size (.int .i64 k) (.string (B n)) (.int .i64 i) (.slice a len cap) 29:=by rw[hw1];exact zK.zJ rfl
  have TY:=qQ t hwt w1 _ (h.on hU1);have KN:=fun(W:World)(hU:zD zC w W)=>zBA t hwt W _ (h.on hU)
  obtain⟨bt,hbt⟩:∃ b,b=(t.zP && t.small):=⟨_,rfl⟩;obtain⟨bk,hbk⟩:∃ b,b=(t.zR && t.small):=⟨_,rfl⟩;rw[<-hbt]at TY;rw[<-hbk]at KN;rw[<-hbt,<-hbk];have HW1:=zG hw1;clear hbt hbk hw1 h hteq;obtain⟨x0,x1,x2,x3⟩:=hb1.cells;go_enter Tryz.func67,Tryz.ntmps67
  go_upto_region 1 with fail
  rw[<-HW1.out];cases bt
  ·go_wp2_with fail
   (with_reducible refine TY.mono ?_);rintro e w2 ⟨rfl,hU2⟩;have hU12:=hU1.and hU2;have hb2:=hb1.kept hU2;have KN2:=KN w2 hU12;clear TY KN x0 x1 x2 x3;obtain⟨x0,x1,x2,x3⟩:=hb2.cells;go_wp2_with fail
   (with_reducible refine KN2.mono ?_);rintro e w3 ⟨rfl,hU3⟩;have hU13:=hU12.and hU3;cases bk
   all_goals
     go_wp2_with fail
     go_ret
     exact⟨rfl,hU13⟩
  ·go_wp2_with fail
   (with_reducible refine TY.mono ?_);rintro e w2 ⟨rfl,hU2⟩;have hU12:=hU1.and hU2;go_wp2_with fail
   go_ret
   exact⟨rfl,hU12⟩
theorem zJJ(a:Tm)(hs:a.zP=true\/a.zR=true)(hsz:qd a<=100000)(w:World)(cs:List Value)(h:zL zC w a.zN cs):
    Calls Tryz.prog 83 #[.agg cs.toArray] w fun e w'=>e=.returned (.int .i64 (qd a:Int))/\zD zC w w':=by
  obtain⟨k,n,i,ts,aa,cap,hae,rfl,-,-⟩:=zW h;obtain⟨len,hln⟩:∃ q,q=ts.length:=⟨_,rfl⟩;have hla:len=a.args.length:=by rw[hae,hln];rfl
  rw[<-hln]at h;rw[<-hln];have HLn:=zG hla;clear hla hln hae;obtain⟨w1,hw1⟩:∃ w1,w1=w.alloc (.cells #[.int .i64 k,.string (B n),.int .i64 i,.slice aa len cap] 29):=⟨_,rfl⟩;have hU1:zD zC w w1:=by rw[hw1];exact(zD.refl zC w).alloc _
  have hb1:zK w1 w.heap.size (.int .i64 k) (.string (B n)) (.int .i64 i) (.slice aa len cap) 29:=by rw[hw1];exact zK.zJ rfl
  have hR1:zL (fun y=>y=w.heap.size) w1 a.zN [.int .i64 k,.string (B n),.int .i64 i,.slice aa len cap]:=(zL.weaken (fun b _ e=>.inr (by omega)) _ _ (zL.zS _ _ h)).on hU1;have HW1:=zG hw1;obtain⟨X,hX⟩:∃ X,X=w.heap.size:=⟨_,rfl⟩;rw[<-hX]at hb1 hR1;have HX:=zG hX;clear hw1 h hX;go_enter Tryz.func83,Tryz.ntmps83
  go_upto_region 1 with fail
  rw[<-HX.out,<-HW1.out];go_wp2_with fail
  go_loopw [3] (fun v3 wr=>∃(j:Nat)(b:Tm)(k' i':Int)(n':List UInt8)(a':Option Addr)(c':Nat),v3=.int .i64 (j:Int)/\qd b+j=qd a/\(b.zP=true\/b.zR=true)/\zK wr X (.int .i64 k') (.string (B n')) (.int .i64 i') (.slice a' b.args.length c') 29/\zL (fun y=>y=X) wr b.zN [.int .i64 k',.string (B n'),.int .i64 i',.slice a' b.args.length c']/\zD (fun y=>y=X) w1 wr)
    (fun v3 _=>qd a - (intOf v3).toNat)
  case atStart=>exact⟨0,a,k,i,n,aa,cap,rfl,rfl,hs,by rw[<-HLn.out];exact hb1,by rw[<-HLn.out];exact hR1,zD.refl _ _⟩
  case round=>
    clear hb1 hR1;obtain⟨j,b,k',i',n',a',c',rfl,hpj,hsb,hB,hR,hU⟩:=hrel;obtain⟨x0,x1,x2,x3⟩:=hB.cells;obtain⟨f0,f1,f2,f3⟩:=hB.zI;have hlt:=hB.lt;have hj1:(j:Int)<=100000:=by omega
    have hj0:(0:Int)<=(j:Int):=by omega
    have HW:=zG (And.intro hpj hsb);by_cases hp:1<=qd b
    ·obtain⟨nm,ix,d,b2,rfl,hd,hb2,hpb⟩:=zBl hsb (m:=0) (by omega);obtain⟨a5,c5,e5,hc5,hE5⟩:=zf.1 hR;simp only[List.cons.injEq,Value.int.injEq,Value.string.injEq,Value.slice.injEq,true_and,and_true]at e5;obtain⟨eb,eo,kj,nj,ij,aj,cj,he,hebl,heX,p0,p1,p2,p3,hRj⟩:=zc hE5 1 (by simp);obtain⟨rfl,-,-,rfl,-⟩:=e5;subst he;have heX':¬eb=X:=heX;have hl2:(Tm.mk 2 nm ix [d,b2]).args.length=2:=rfl;rw[hl2]at x3 hB;simp only[List.getElem_cons_succ,List.getElem_cons_zero]at p3 hRj;have HB:=zG hB;have HN:=zG (And.intro hpb hb2);go_wp2_with fail
     have hset:=HB.out.set (d0:=.int .i64 kj) (d1:=.string (B nj)) (d2:=.int .i64 ij) (d3:=.slice aj b2.args.length cj);go_roundw
     case rel=>exact⟨j+1,b2,kj,ij,nj,aj,cj,by go_num,by have:=HN.out.1;have:=HW.out.1;omega,HN.out.2,hset.1,zL.zF hset.2 (fun _ e=>e) _ _ hRj,hU.trans hset.2 (fun _ _ e=>e)⟩
     case measure=>(have:=HN.out.1;have:=HW.out.1;simp[intOf];omega)
    ·obtain⟨k6,n6,i6,us6,a6,c6,rfl,e6,-,-⟩:=zW hR;simp only[List.cons.injEq,Value.int.injEq,true_and]at e6;obtain⟨rfl,-⟩:=e6;have hk2:¬k'=2:=fun e=>hp (zJM hsb e)
     have hkb:(k' == 2)=false:=by simpa using hk2
     have hpz:qd a=j:=by omega
     have HP:=zG hpz;have hUf:=hU1.trans hU (fun y hy e=>by have:=HX.out;omega);clear hpz hk2 hpj hsb hp hR hB hU;go_wp2_with fail
     go_ret
     rw[HP.out];exact⟨rfl,hUf⟩
end Go.Proofs.YthgmimncdjhgnaaGreatDoor
