/- Ge search for K5 is left abA, as plain data. No program is in qP here. -/
import Derived.Test.YthgmimncdjhgnaaGreatDoorXFG
set_option maxRecDepth 100000
set_option maxHeartbeats 8000000
namespace Go.LF
section
open Tm Go.Proofs.YthgmimncdjhgnaaGreatDoor
def cF(l:List Mv):Nat->List Int->Ord->Ord
  |0=>fun _ s=>s
  |d+1=>o5 l d
theorem ow(l:List Mv)(d:Nat):o5 l d=dk l (cF l d):=by cases d<;>rfl
def xo(l:List Mv)(R:Nat)(ms:List Int):Prop:=∀ x∈ms,0<=x/\x<l.length/\rk l x<R
theorem ji{l:List Mv}(h:lf l){i:Int}{R:Nat}(h0:0<=i)(hi:i<l.length)(he:ep l (typeOf l i)=0)(hr:rk l i<R+1):xo l R (Tm.ay (bP l (typeOf l i))):=by
  intro j hj;have h1:=Mw h.Xp h.uX h.kQ h.JU h0 hi he j hj;have h2:=jt j hj;exact⟨h2.1,h1.1,by omega⟩
theorem ux(l:List Mv){ms:List Int}(h:∀ x∈ms,0<=x/\x<l.length):xo l (l.length+1) ms:=fun x hx=>⟨(h x hx).1,(h x hx).2,by have:=Yp l x;omega⟩
def Hs(s:Ord)(ks o:List Int)(e:Int)(G:List Int):Prop:=s.e=e/\(e=0->s.o=o/\∀ x,x∈ks↔x∈o\/x∈G)
section
variable {l:List Mv}{f:List Int->Ord->Ord}{s:Ord}{ks o ks' o' G:List Int}{e e' E m:Int}
theorem PR(h:Hs s ks o e G)(hm:m∈ks\/e≠0)(hg:m∉G):Hs (dk l f [m] s) ks o e G:=by
  obtain⟨h1,h2⟩:=h;rw[qO];by_cases h0:s.e≠0
  ·rw[if_pos h0];exact⟨h1,h2⟩
  rw[if_neg h0];have he:e=0:=by omega
  have hk:m∈ks:=hm.elim id (fun h=>absurd he h);obtain⟨h3,h4⟩:=h2 he;have ho:m∈o:=((h4 m).1 hk).elim id (fun h=>absurd h hg);rw[if_pos (by rw[h3];simpa using ho)];exact⟨h1,h2⟩
theorem K3(h:Hs s ks o 0 G)(hm:m∉ks):¬s.e≠0/\¬s.o.contains m=true:=by
  obtain⟨h1,h2⟩:=h;obtain⟨h3,h4⟩:=h2 rfl;refine⟨by omega,?_⟩;rw[h3];intro hc;exact hm ((h4 m).2 (.inl (by simpa using hc)))
theorem V3(h:Hs s ks o 0 G)(hm:m∉ks)(hE:ep l (typeOf l m)≠0):Hs (dk l f [m] s) ks' o' (ep l (typeOf l m)) G:=by
  obtain⟨h1,h2⟩:=K3 h hm;rw[qO,if_neg h1,if_neg h2,if_pos hE];exact⟨rfl,fun h=>absurd h hE⟩
theorem abM(h:Hs s ks o 0 G):Hs s (ks++[m]) o 0 (m :: G):=by
  refine⟨h.1,fun h0=>⟨(h.2 h0).1,fun x=>?_⟩⟩;have:=(h.2 h0).2 x;simp only[List.mem_append,List.mem_cons,List.not_mem_nil,or_false,this];constructor
  ·rintro((h |h)|h)
   ·exact .inl h
   ·exact .inr (.inr h)
   exact .inr (.inl h)
  rintro(h |h |h)
  ·exact .inl (.inl h)
  ·exact .inr h
  exact .inl (.inr h)
theorem Ug(h:Hs s ks o 0 G)(hm:m∉ks)(hE:ep l (typeOf l m)=0)(h':Hs (f (Tm.ay (bP l (typeOf l m))) s) ks' o' e' (m :: G)):Hs (dk l f [m] s) ks' (o'++[m]) e' G:=by
  obtain⟨h1,h2⟩:=K3 h hm;rw[qO,if_neg h1,if_neg h2,if_neg (by omega)];obtain⟨h3,h4⟩:=h';by_cases h5:(f (Tm.ay (bP l (typeOf l m))) s).e=0
  ·rw[if_pos h5];have he:e'=0:=by omega
   obtain⟨h6,h7⟩:=h4 he;refine⟨he.symm,fun _=>⟨by rw[h6],fun x=>?_⟩⟩;rw[h7 x];simp only[List.mem_append,List.mem_cons,List.not_mem_nil,or_false];constructor
   ·rintro(h |h |h)
    ·exact .inl (.inl h)
    ·exact .inl (.inr h)
    exact .inr h
   rintro((h |h)|h)
   ·exact .inl h
   ·exact .inr (.inl h)
   exact .inr (.inr h)
  rw[if_neg h5];exact⟨h3,fun h=>absurd (h3.trans h) h5⟩
end
theorem pN{l:List Mv}{ks:List Int}{m:Int}(h:cY l ks+ks.length<=l.length)(h0:0<=m)(hi:m<l.length)(hn:m∉ks):cY l (ks++[m])+(ks++[m]).length<=l.length:=by
  have:=Ir (ks1:=ks++[m]) h0 hi hn (by simp);simp only[List.length_append,List.length_singleton];omega
theorem qj(l:List Mv):cY l []+([]:List Int).length<=l.length:=by
  unfold cY;have:=List.length_filter_le (fun j:Nat=>!(([]:List Int).contains (j:Int))) (List.range l.length);simp only[List.length_range]at this;simpa using this
end
section
open Tm Go.Proofs.YthgmimncdjhgnaaGreatDoor
theorem qz{l:List Mv}(h:lf l){i:Int}(h0:0<=i)(hi:i<l.length)(he:ep l (typeOf l i)=0):(bP l (typeOf l i)).wf=0:=by
  obtain⟨m,hm,_,e⟩:=uT h0 hi;unfold bP;rw[if_pos he];exact Ba l 16385 _ 0 (by rw[e];exact h.kQ m hm) (uB he).2.2
theorem lR{l:List Mv}{p:Nat}(h:p<l.length):typeOf l (p:Int)=l[p].type:=by
  unfold typeOf;rw[show((p:Int)).toNat=p by omega,List.getElem?_eq_getElem h]
end
end Go.LF
namespace Go.Proofs.YthgmimncdjhgnaaGreatDoor
section
open Go.RowKit Go.LF
abbrev opV(tb eb lb vb ob:Nat):Value:=.func (.func 127) #[] #[.pointer (some ⟨tb,0,none⟩),.pointer (some ⟨eb,0,none⟩),.pointer (some ⟨lb,0,none⟩),.pointer (some ⟨vb,0,none⟩),.pointer (some ⟨ob,0,none⟩)]
abbrev AF(eb M ob:Nat)(ov:Value)(b:Nat):Prop:=b=eb\/b=M\/b=ob\/ov.ownBlock=some b
def zK(l:List Mv)(O:Nat->Prop)(W:World)(x:Value×Value):Prop:=∃(i k ix:Int)(n:List UInt8)(a:Option Addr)(len cap:Nat),x=(.int .i64 i,.agg #[.int .i64 k,.string (B n),.int .i64 ix,.slice a len cap])/\aw O W (bP l (typeOf l i)).az [.int .i64 k,.string (B n),.int .i64 ix,.slice a len cap]
structure AO(l:List Mv)(tb eb lb vb ob M base:Nat)(la:Option Addr)(lc:Nat)(ks o:List Int)(fZ:List (Value×Value))(ov:Value)(e:Int)(W:World):Prop where
  kQ:cq W tb (.map (some M)) 87
  err:cq W eb (.int .i64 e) 30
  st:cq W lb (.slice la l.length lc) 23
  Yc:cq W vb (opV tb eb lb vb ob) 93
  ord:cq W ob ov 22
  map:fT W M fZ
  row:dv base W ov o
  keys:fZ.map (fun x=>x.1)=ks.map (Value.int .i64)
  Yf:∀ x∈fZ,∀ y∈fZ,x.1=y.1->x=y
  val:∀ x∈fZ,zK l (AF eb M ob ov) W x
  low:tb<base/\eb<base/\lb<base/\vb<base/\ob<base/\M<base
  apart:(eb≠tb/\eb≠lb/\eb≠vb/\eb≠ob/\eb≠M)/\(ob≠tb/\ob≠lb/\ob≠vb/\ob≠M)/\M≠tb/\M≠lb/\M≠vb
  Oy:cY l ks+ks.length<=l.length
  ol:o.length<=ks.length
  Td:∀ x∈ks,0<=x/\x<(l.length:Int)
section
variable {l:List Mv}{tb eb lb vb ob M base:Nat}{la:Option Addr}{lc:Nat}{ks o:List Int}{fZ:List (Value×Value)}{ov KM:Value}{e:Int}{W W':World}
theorem zK.carry{x:Value×Value}(h:zK l (AF eb M ob ov) W x)(hU:af (AF eb M ob ov) W W')(ho:∀ b,KM.ownBlock=some b->ov.ownBlock=some b\/W.heap.size<=b):zK l (AF eb M ob KM) W' x:=by
  obtain⟨i,k,ix,n,a,len,cap,h1,h2⟩:=h;refine⟨i,k,ix,n,a,len,cap,h1,aw.weaken (fun b _ e=>?_) _ _ (aw.ag hU (fun b e=>.inl e) _ _ (aw.fR h2))⟩;rcases e with e |e |e |e
  ·exact .inl (.inl e)
  ·exact .inl (.inr (.inl e))
  ·exact .inl (.inr (.inr (.inl e)))
  exact(ho b e).elim (fun e=>.inl (.inr (.inr (.inr e)))) .inr
theorem AO.on(h:AO l tb eb lb vb ob M base la lc ks o fZ ov e W)(hU:af ae W W'):AO l tb eb lb vb ob M base la lc ks o fZ ov e W':=
  ⟨h.kQ.kept hU,h.err.kept hU,h.st.kept hU,h.Yc.kept hU,h.ord.kept hU,h.map.on hU (fun x=>x),h.row.on hU,h.keys,h.Yf,fun x hx=>(h.val x hx).carry (hU.mono (fun _ _ e=>e.elim)) (fun _ e=>.inl e),h.low,h.apart,h.Oy,h.ol,h.Td⟩
theorem AO.lk(h:AO l tb eb lb vb ob M base la lc ks o fZ ov e W)(m:Int):(m∈ks↔∃ x∈fZ,x.1=.int .i64 m):=by
  have hk:=h.keys;constructor
  ·intro hm;have:Value.int .i64 m∈fZ.map (fun x=>x.1):=by rw[hk];exact List.mem_map_of_mem hm
   obtain⟨x,hx,e⟩:=List.mem_map.1 this;exact⟨x,hx,e⟩
  rintro⟨x,hx,e⟩;have:Value.int .i64 m∈ks.map (Value.int .i64):=by rw[<-hk,<-e];exact List.mem_map_of_mem (f:=fun x=>x.1) hx
  obtain⟨y,hy,e⟩:=List.mem_map.1 this;cases e
  exact hy
theorem AO.isKey(h:AO l tb eb lb vb ob M base la lc ks o fZ ov e W):∀ x∈fZ,MapKept.IsKey (.int .i64) x.1:=fun x hx=>by
  obtain⟨i,_,_,_,_,_,_,e,_⟩:=h.val x hx;rw[e];rfl
theorem AO.put{m k ix E:Int}{n:List UInt8}{a:Option Addr}{len cap:Nat}{W8:World}(h:AO l tb eb lb vb ob M base la lc ks o fZ ov e W)(h0:0<=m)(hi:m<l.length)(hn:m∉ks)
    (hM:fT W' M (fZ++[(.int .i64 m,.agg #[.int .i64 k,.string (B n),.int .i64 ix,.slice a len cap])])) (hg:W.grownBy W' (some M)) (R0:W8=W'.setCell ⟨eb,0,none⟩ (.int .i64 E))
    (hv:aw (AF eb M ob ov) W (bP l (typeOf l m)).az [.int .i64 k,.string (B n),.int .i64 ix,.slice a len cap]):
    AO l tb eb lb vb ob M base la lc (ks++[m]) o (fZ++[(.int .i64 m,.agg #[.int .i64 k,.string (B n),.int .i64 ix,.slice a len cap])]) ov E W8/\af (AF eb M ob ov) W W8:=by
  have aH:=qb hg;have aL:af (fun b=>b=eb) W' W8:=by rw[R0];exact af.set (af.refl _ _) 0 _
  obtain⟨⟨a1,a2,a3,a4,a5⟩,⟨b1,b2,b3,b4⟩,c1,c2,c3⟩:=h.apart;have hU:af (AF eb M ob ov) W W8:=(aH.mono (fun _ _ e=>.inr (.inl e))).trans aL (fun _ _ e=>.inl e);have kp:∀{c:Value}{T:TypeId}{g:Nat},cq W g c T->g≠M->g≠eb->cq W8 g c T:=fun hb h1 h2=>(hb.ag aH h1).ag aL h2
  have he:=(h.err.ag aH a5).set (.int .i64 E)
  have Tj:dv base W' ov o:=World.ownsRow.kept h.row hg (.inr fun e=>by
    have:=(h.row.lt M e).1;have:=h.low.2.2.2.2.2;omega)
  have fl:dv base W8 ov o:=World.ownsRow.kept (row:=some eb) Tj ⟨aL.os,aL.tape,aL.output,aL.size,fun k hk gJ=>aL.block k hk (fun e=>gJ (by rw[e]))⟩ (.inr fun e=>by
    have:=(Tj.lt eb e).1;have:=h.low.2.1;omega)
  refine⟨⟨kp h.kQ (Ne.symm c1) (Ne.symm a1),by rw[R0];exact he,kp h.st (Ne.symm c2) (Ne.symm a2),kp h.Yc (Ne.symm c3) (Ne.symm a3),kp h.ord b4 (Ne.symm a4),hM.on aL (Ne.symm a5),fl,?_,?_,?_,h.low,h.apart,pN h.Oy h0 hi hn,by have:=h.ol;simp;omega,fun x hx=>(List.mem_append.1 hx).elim (h.Td x) (fun e=>by obtain rfl:x=m:=(by simpa using e);exact⟨h0,hi⟩)⟩,hU⟩
  ·rw[List.map_append,List.map_append,h.keys];rfl
  ·intro x hx y hy e;rcases List.mem_append.1 hx with hx |hx<;>rcases List.mem_append.1 hy with hy |hy
   ·exact h.Yf x hx y hy e
   ·obtain rfl:y=_:=by simpa using hy
    exact absurd ((h.lk m).2 ⟨x,hx,e⟩) hn
   ·obtain rfl:x=_:=by simpa using hx
    exact absurd ((h.lk m).2 ⟨y,hy,e.symm⟩) hn
   obtain rfl:x=_:=by simpa using hx
   obtain rfl:y=_:=by simpa using hy
   rfl
  intro x hx;rcases List.mem_append.1 hx with hx |hx
  ·exact(h.val x hx).carry hU (fun b e=>.inl e)
  obtain rfl:x=_:=by simpa using hx
  exact zK.carry ⟨m,k,ix,n,a,len,cap,rfl,hv⟩ hU (fun b e=>.inl e)
theorem AO.push{m:Int}{g aS:Nat}{w9 kB W8:World}(h:AO l tb eb lb vb ob M base la lc ks o fZ ov e W)(_hb:base<=W.heap.size)(h9:af ae W w9)(bq:dv base kB (.slice (some ⟨g,0,none⟩) (o.length+1) aS) (o++[m]))(hg:w9.grownBy kB ov.ownBlock)
    (ft:ov.ownBlock=some g\/g=w9.heap.size) (B0:o.length+1<=ks.length) (R0:W8=kB.setCell ⟨ob,0,none⟩ (.slice (some ⟨g,0,none⟩) (o.length+1) aS)):
    AO l tb eb lb vb ob M base la lc ks (o++[m]) fZ (.slice (some ⟨g,0,none⟩) (o.length+1) aS) e W8/\af (AF eb M ob ov) W W8/\(∀ b,(Value.slice (some ⟨g,0,none⟩) (o.length+1) aS).ownBlock=some b->ov.ownBlock=some b\/W.heap.size<=b):=by
  have h':=h.on h9;have aH:af (fun b=>ov.ownBlock=some b) w9 kB:=⟨hg.os,hg.tape,hg.output,hg.size,fun k hk hn=>hg.block k hk (fun e=>hn e.symm)⟩;have aL:af (fun b=>b=ob) kB W8:=by rw[R0];exact af.set (af.refl _ _) 0 _
  obtain⟨⟨a1,a2,a3,a4,a5⟩,⟨b1,b2,b3,b4⟩,c1,c2,c3⟩:=h.apart;obtain⟨l1,l2,l3,l4,l5,l6⟩:=h.low
  have ho:∀ b,(Value.slice (some ⟨g,0,none⟩) (o.length+1) aS).ownBlock=some b->ov.ownBlock=some b\/W.heap.size<=b:=fun b e=>by
    simp only[Value.ownBlock,Option.some.injEq]at e;subst e;exact ft.imp id (fun e=>by rw[e];exact h9.size)
  have nb:∀ b,b<base->¬ov.ownBlock=some b:=fun b hb e=>by have:=(h.row.lt b e).1;omega
  have hU:af (AF eb M ob ov) W W8:=((h9.mono (fun _ _ e=>e.elim)).trans aH (fun _ _ e=>.inr (.inr (.inr e)))).trans aL (fun _ _ e=>.inr (.inr (.inl e)));have kp:∀{c:Value}{T:TypeId}{b:Nat},cq w9 b c T->b<base->b≠ob->cq W8 b c T:=fun hb h1 h2=>(hb.ag aH (nb _ h1)).ag aL h2
  have gb:base<=g:=(bq.lt g rfl).1;refine⟨⟨kp h'.kQ l1 (Ne.symm b1),kp h'.err l2 a4,kp h'.st l3 (Ne.symm b2),kp h'.Yc l4 (Ne.symm b3),by rw[R0];exact(h'.ord.ag aH (nb _ l5)).set _,(h'.map.on aH (nb _ l6)).on aL (Ne.symm b4),?_,h.keys,h.Yf,fun x hx=>(h.val x hx).carry hU ho,h.low,h.apart,h.Oy,by simp;omega,h.Td⟩,hU,ho⟩
  exact World.ownsRow.kept (row:=some ob) bq ⟨aL.os,aL.tape,aL.output,aL.size,fun k hk gJ=>aL.block k hk (fun e=>gJ (by rw[e]))⟩ (.inr fun e=>by
    have:g=ob:=by simpa[Value.ownBlock]using e
    omega)
end
end
section
open Go.RowKit Go.LF
def OpC(l:List Mv)(s':Ord)(tb eb lb vb ob M base:Nat)(la:Option Addr)(lc:Nat)(ks o:List Int)(ov:Value)(G:List Int)(W W':World):Prop:=
  ∃(ks' o':List Int)(Tv:List (Value×Value))(KM:Value)(e':Int),AO l tb eb lb vb ob M base la lc ks' o' Tv KM e' W'/\Hs s' ks' o' e' G/\af (AF eb M ob ov) W W'/\
   (∀ b,KM.ownBlock=some b->ov.ownBlock=some b\/W.heap.size<=b)/\o'.length+ks.length<=ks'.length+o.length
def UF(l:List Mv)(f:List Int->Ord->Ord)(R:Nat)(u:Tm):Prop:=
  ∀(tb eb lb vb ob M base:Nat)(la:Option Addr)(lc:Nat)(ks o:List Int)(fZ:List (Value×Value))(ov:Value)(e:Int)(G:List Int)(s:Ord)(W:World)(cs:List Value),u.wt<=1000000->xo l R (Tm.ay u)->(∀ x∈Tm.ay u,∀ g∈G,rk l x<rk l g)->
   AO l tb eb lb vb ob M base la lc ks o fZ ov e W->base<=W.heap.size->Hs s ks o e G->ai (AF eb M ob ov) W 6 (l.map Mv.az) la 0->aw ae W u.az cs->
   Calls Tryz.prog 127 #[.agg cs.toArray,.pointer (some ⟨tb,0,none⟩),.pointer (some ⟨eb,0,none⟩),.pointer (some ⟨lb,0,none⟩),.pointer (some ⟨vb,0,none⟩),.pointer (some ⟨ob,0,none⟩)] W fun x W'=>x=.returned (.tuple #[])/\OpC l (f (Tm.ay u) s) tb eb lb vb ob M base la lc ks o ov G W W'
abbrev O1(tb lb b o:Nat)(x y t0 t1 t2 t3:Value)(w':World):Prop:=
  w'.cell? ⟨tb,0,none⟩=some x/\w'.cell? ⟨lb,0,none⟩=some y/\(w'.cell? ⟨b,o+1,none⟩=some t0/\w'.cell? ⟨b,o+2,none⟩=some t1/\w'.cell? ⟨b,o+3,none⟩=some t2/\w'.cell? ⟨b,o+4,none⟩=some t3)
theorem O1.ag{S:Nat->Prop}{tb lb b o:Nat}{x y t0 t1 t2 t3:Value}{w w':World}(h:O1 tb lb b o x y t0 t1 t2 t3 w)(hU:af S w w')(h1:¬S tb)(h2:¬S lb)(h3:¬S b):O1 tb lb b o x y t0 t1 t2 t3 w':=by
  obtain⟨a0,a1,b0,b1,b2,b3⟩:=h;exact⟨hU.cell a0 h1,hU.cell a1 h2,hU.cell b0 h3,hU.cell b1 h3,hU.cell b2 h3,hU.cell b3 h3⟩
theorem O1.set{eb tb lb b o:Nat}{x y t0 t1 t2 t3 v:Value}{w:World}(h:O1 tb lb b o x y t0 t1 t2 t3 w)(h1:¬tb=eb)(h2:¬lb=eb)(h3:¬b=eb):O1 tb lb b o x y t0 t1 t2 t3 (w.setCell ⟨eb,0,none⟩ v):=h.ag (af.set (af.refl _ _) 0 _) h1 h2 h3
theorem zO(W:World):(zeroValue 29).run Tryz.prog W=.ok (.agg #[.int .i64 0,.string (B []),.int .i64 0,.slice none 0 0]) W:=by kernel_rfl
theorem mE{w w':World}{r:Option Nat}(hg:w.grownBy w' r):af (fun b=>r=some b) w w':=⟨hg.os,hg.tape,hg.output,hg.size,fun k hk hn=>hg.block k hk (fun e=>hn e.symm)⟩
theorem zj{base:Nat}{W:World}{v:Value}{L:List Int}(h:dv base W v L){b:Nat}(hb:b<base):¬v.ownBlock=some b:=fun e=>by have:=(h.lt b e).1;omega
theorem Ha(l:List Mv)(hP:lf l)(f:List Int->Ord->Ord)(R:Nat)(u:Tm)(UE:Tm.ay u≠[]->∀ u,UF l f R u):UF l (dk l f) (R+1) u:=by
  intro tb eb lb vb ob M base la lc ks o fZ ov e G s W cs iH Er hGr hW hb hs hL hR;obtain⟨i0,hi,fS,gn,eH⟩:=info_parts nI;obtain⟨k,nm,i,ts,aa,cap,ht,rfl,_,_⟩:=aP hR;generalize ts.length=len at *
  obtain⟨w1,aF⟩:∃ w1,w1=W.alloc (.cells #[.int .i64 k,.string (B nm),.int .i64 i,.slice aa len cap] 29):=⟨_,rfl⟩;have aH:af ae W w1:=by rw[aF];exact(af.refl ae _).alloc _
  have iV:au w1 W.heap.size (.int .i64 k) (.string (B nm)) (.int .i64 i) (.slice aa len cap) 29:=by rw[aF];exact au.av rfl
  have OJ:=hW.on aH;have MT:=sJ u iH w1 _ (hR.on aH)
  have nc:∀ b,AF eb M ob ov b->b<w1.heap.size:=fun b e=>by
    have h1:=aH.size;obtain⟨l1,l2,l3,l4,l5,l6⟩:=hW.low;rcases e with e |e |e |e
    ·omega
    ·omega
    ·omega
    have:=(hW.row.lt b e).2;omega
  have kA:=hL.on aH;obtain⟨ns,IW⟩:∃ ns,ns=Tm.ay u:=⟨_,rfl⟩;have Le:(Tm.ay u).length<=1000000:=Nat.le_trans (eL u) iH;rw[<-IW]at Er hGr UE MT Le;rw[<-IW];have VE:=ak UE;have HB:=ak (And.intro Er hGr);have HW:=ak aF;have HU:=ak aH;obtain⟨H,hH⟩:∃ H,H=W.heap.size:=⟨_,rfl⟩;rw[<-hH]at iV;have HH:=ak hH;have UQ:=ak hs;have Uk:=hW.low;have hap:=hW.apart;obtain⟨nl,uE⟩:∃ nl,nl=ns.length:=⟨_,rfl⟩;rw[<-uE]at Le;have HN:=ak uE;have s9:∀ args w,Sem.run Tryz.prog (callFunc 127 args) w=.ok (Next.enter 127 args) w:=fun _ _=>by simp only[go_sem,Tryz.call127]
  have hHb:base<=H:=by omega
  clear aF hH UE Er hGr IW hs hR hL hW uE iH;obtain⟨t0,t1,t2,t3⟩:=iV.cells;go_enter Tryz.func127,Tryz.ntmps127;go_upto_region 1 with fail;rw[<-HH.out,<-HW.out];go_wp2_with fail
  (with_reducible refine MT.mono ?_);rintro e2 w2 ⟨v,rfl,hI,aL⟩;obtain⟨va,vc,rfl,fp,LN⟩:=cO hI.rep;rw[<-HN.out]at fp;rw[<-HN.out];have kJ:ai (AF eb M ob ov) w2 1 (ns.map (fB.int .i64)) va 0:=ai.weaken (fun b _ e=>nc b e) _ _ _ _ LN;have H6:=OJ.on aL;have oG:=ai.aG _ _ _ _ (kA.on aL);have GY:H<w2.heap.size:=by have:=iV.lt;have:=aL.size;omega
  clear hI LN MT t0 t1 t2 t3 iV OJ kA;go_wp2_with fail
  go_loopw [14] (fun E9 wr=>∃(j:Nat)(ks' o':List Int)(Tv:List (Value×Value))(KM:Value)(e':Int),E9=.int .i64 (j:Int)/\j<=nl/\AO l tb eb lb vb ob M base la lc ks' o' Tv KM e' wr/\Hs (dk l f (ns.take j) s) ks' o' e' G/\af (AF eb M ob ov) w2 wr/\
      (∀ b,KM.ownBlock=some b->ov.ownBlock=some b\/w2.heap.size<=b)/\o'.length+ks.length<=ks'.length+o.length)
    (fun E9 _=>nl - (intOf E9).toNat)
  case atStart=>exact⟨0,ks,o,fZ,ov,e,rfl,Nat.zero_le _,H6,by rw[List.take_zero];exact UQ.out,af.refl _ _,fun b h=>.inl h,Nat.le_of_eq (Nat.add_comm _ _)⟩
  obtain⟨j,QZ,oj,kvj,EJ,ej,rfl,hj,hV,hs,hU,JG,pw⟩:=hrel;by_cases aB:j<nl
  ·have b7:j<ns.length:=by have:=HN.out;omega
   obtain⟨b,zt,rfl,Wq,_,jG⟩:=eX (ai.ag hU (fun b e=>e) _ _ _ _ kJ) j b7;have eQ:dk l f (ns.take (j+1)) s=dk l f [ns[j]] (dk l f (ns.take j) s):=nE l f ns j b7 s;obtain⟨m0,m1,m2⟩:=HB.out.1 _ (List.getElem_mem b7);have mG:=HB.out.2 _ (List.getElem_mem b7);have gJ:ns≠[]:=fun h=>by rw[h]at b7;simp at b7
   have IH:=VE.out gJ;generalize ns[j]=m at *
   obtain⟨sj,yA⟩:∃ sj,sj=dk l f (ns.take j) s:=⟨_,rfl⟩;rw[<-yA]at hs eQ;have hmG:m∉G:=fun h=>by have:=mG m h;omega
   have Dp:(j:Int)<(nl:Int):=by omega
   have BW:(j:Int)<=1000000:=by omega
   have c1:=hV.kQ.cell;have c2:=hV.err.cell;have q2:=hV.err.lt;have aN:=ak pw;have zc:=ak JG;have EP:=ak eQ;by_cases Lb:m∈QZ\/ej≠0
   ·have eJ:=PR (l:=l) (f:=f) hs Lb hmG;rw[<-eQ]at eJ;have HF:=ak eJ;by_cases hm:m∈QZ
    ·obtain⟨x,hx,JM⟩:=(hV.lk m).1 hm;obtain⟨ix,kx,xx,nx,ax,lx,cx,Rc,_⟩:=hV.val x hx
     have JY:=hV.map.get (P:=Tryz.prog) (mt:=87) (kt:=3) (vt:=29) (key:=.int .i64 m) (val:=.agg #[.int .i64 kx,.string (B nx),.int .i64 xx,.slice ax lx cx]) (by kernel_rfl) (by kernel_rfl) hV.isKey rfl
       (fun v hv=>by have:=hV.Yf _ hv x hx JM.symm;rw[<-this]at Rc;exact(Prod.ext_iff.1 Rc).2) ⟨x,hx,JM⟩ true
     clear Lb hs hx JM Rc eQ pw JG eJ;go_wp2_with fail;go_roundw;case rel=>exact⟨j+1,QZ,oj,kvj,EJ,ej,by go_num,by omega,hV.on ((af.refl ae _).alloc _),HF.out,hU.trans ((af.refl ae _).alloc _) (fun _ _ e=>e.elim),zc.out,aN.out⟩
     simp[intOf];omega
    have he:(ej !=0)=true:=by simpa using(Lb.elim (fun h=>absurd h hm) id)
    have JY:=hV.map.none (P:=Tryz.prog) (mt:=87) (kt:=3) (vt:=29) (key:=.int .i64 m) (by kernel_rfl) (by kernel_rfl) (zO wr) hV.isKey rfl
      (fun x hx e=>hm ((hV.lk m).2 ⟨x,hx,e⟩)) true
    clear Lb hs eQ pw JG eJ hm;go_wp2_with fail;go_roundw;case rel=>exact⟨j+1,QZ,oj,kvj,EJ,ej,by go_num,by omega,hV.on ((af.refl ae _).alloc _),HF.out,hU.trans ((af.refl ae _).alloc _) (fun _ _ e=>e.elim),zc.out,aN.out⟩
    simp[intOf];omega
   have hm:m∉QZ:=fun h=>Lb (.inl h)
   obtain rfl:ej=0:=Classical.byContradiction fun h=>Lb (.inr h)
   clear Lb;obtain⟨p,rfl⟩:∃ p:Nat,m=(p:Int):=⟨m.toNat,by omega⟩;have jB:p<l.length:=by omega
   have SR:ai (AF eb M ob EJ) wr 6 (l.map Mv.az) la 0:=ai.weaken (fun b _ e=>by
     rcases e with e |e |e |e
     ·exact .inl (.inl e)
     ·exact .inl (.inr (.inl e))
     ·exact .inl (.inr (.inr (.inl e)))
     exact(zc.out b e).elim (fun e=>.inl (.inr (.inr (.inr e)))) .inr) _ _ _ _ (ai.ag hU (fun b e=>.inl e) _ _ _ _ oG)
   obtain⟨b2,o2,k2,n2,wV,uP,fP,Ca,zw,rfl,VR,tI,⟨d0,d1,d2,d3,d4,d5⟩,lV,wG,Px⟩:=ja SR p jB;have OH:=lR jB;have lr:=List.getElem_mem jB;have EB:=(hP.kn _ lr).1;have jx:=hP.kQ _ lr;rw[<-OH]at EB jx lV d4;clear Px wG d5 d0
   have JY:=hV.map.none (P:=Tryz.prog) (mt:=87) (kt:=3) (vt:=29) (key:=.int .i64 (p:Int)) (by kernel_rfl) (by kernel_rfl) (zO wr) hV.isKey rfl
     (fun x hx e=>hm ((hV.lk _).2 ⟨x,hx,e⟩)) true
   have Xf:=fun x hx e=>hm ((hV.lk _).2 ⟨x,hx,e⟩)
   obtain⟨w4,eh⟩:∃ w4,w4=wr.alloc (.cells #[.int .i64 0,.string (B []),.int .i64 0,.slice none 0 0] 29):=⟨_,rfl⟩;have bw:af ae wr w4:=by rw[eh];exact(af.refl ae wr).alloc _
   have hd:af ae wr w4.drew:=bw.drew;have ON:=hV.on bw;have yu:=hV.on hd
   have ag9:∀ b,AF eb M ob EJ b->b<wr.heap.size:=fun b e=>by
     have h1:=hU.size;rcases e with e |e |e |e
     ·exact e ▸ hV.err.lt
     ·exact e ▸ hV.map.lt
     ·exact e ▸ hV.ord.lt
     exact(hV.row.lt b e).2
   have EX:=wQ (AF eb M ob EJ) l hP.uX (typeOf l (p:Int)) (by have:=Tm.iM jx;omega) (fun h1 h2=>qQ _ ((cT _ h1).2 h2) EB) w4.drew (fun b e=>Nat.lt_of_lt_of_le (ag9 b e) hd.size) (some ⟨b2,o2,none⟩) lc _ (SR.on hd) (lV.on hd);have ru:=fun he=>ji hP (i:=(p:Int)) (R:=R) m0 m1 he m2
   have hxr:=fun he=>Mw hP.Xp hP.uX hP.kQ hP.JU (i:=(p:Int)) m0 m1 he
   have PZ:=fun he=>qz hP (i:=(p:Int)) m0 m1 he
   obtain⟨E,hE⟩:∃ E,E=ep l (typeOf l (p:Int)):=⟨_,rfl⟩;rw[<-hE]at EX ru hxr PZ;have Va:=fun(h:E≠0)(ks' o':List Int)=>V3 (f:=f) (ks':=ks') (o':=o') hs hm (by rw[<-hE];exact h)
   have b6:=fun(h:E=0)(ks' o':List Int)(e':Int)h'=>Ug (f:=f) (ks':=ks') (o':=o') (e':=e') hs hm (by rw[<-hE];exact h) h'
   rw[<-EP.out,<-hE]at Va;rw[<-EP.out]at b6;obtain⟨X,hX⟩:∃ X,X=bP l (typeOf l (p:Int)):=⟨_,rfl⟩;rw[<-hX]at EX ru hxr PZ b6;have HX:=ak (And.intro hE hX);have HFA:=ak (And.intro Va (And.intro b6 (And.intro ru (And.intro hxr PZ))));have HMG:=ak mG;have abV:=abM (m:=(p:Int)) hs;have HSI:=ak abV;have c3:=ON.kQ.cell;have c5:=ON.st.cell;generalize (typeOf l (p:Int)).args.length=XQ at *
   obtain⟨n4,n4'⟩:¬b2=eb/\¬b2=M:=⟨fun e=>tI (.inl e),fun e=>tI (.inr (.inl e))⟩;obtain⟨⟨a1,a2,a3,a4,a5⟩,⟨z1,z2,z3,z4⟩,y1,y2,y3⟩:=hV.apart;have n1:¬tb=eb:=fun e=>a1 e.symm
   have W7:¬lb=eb:=fun e=>a2 e.symm
   have n1':¬tb=M:=fun e=>y1 e.symm
   have n3':¬lb=M:=fun e=>y2 e.symm
   have S0:O1 tb lb b2 (o2+p * 6) (.map (some M)) (.slice (some ⟨b2,o2,none⟩) l.length lc) (.int .i64 k2) (.string (B n2)) (.int .i64 wV) (.slice uP XQ fP) w4.drew:=⟨yu.kQ.cell,yu.st.cell,hd.cell d1 (fun x=>x),hd.cell d2 (fun x=>x),hd.cell d3 (fun x=>x),hd.cell d4 (fun x=>x)⟩;have Lk:=ak eh;have hpm:(p:Int)<=40:=by have:=hP.len;omega
   have agc:(p:Int)<((l.length:Nat):Int):=by omega
   have DX:wr.heap.size<=w4.heap.size:=bw.size;have Io:=ak hm;clear Va b6 ru hxr PZ hE hX eh hs eQ pw JG mG abV EB jx OH lr lV hm hmG;go_upto_region 5 with fail;rw[<-Lk.out];clear d1 d2 d3 d4 c1 c2 jG;obtain c2:=ON.err.cell;go_upto_region 6 with fail
   go_region_held3 (fun w'=>O1 tb lb b2 (o2+p * 6) (.map (some M)) (.slice (some ⟨b2,o2,none⟩) l.length lc) (.int .i64 k2) (.string (B n2)) (.int .i64 wV) (.slice uP XQ fP) w')
     (first |(with_reducible assumption)|(with_reducible exact S0)|(with_reducible exact O1.set S7 n1 W7 n4))
     (first |((go_at_call 12);(with_reducible refine EX.mono ?_);rintro e w6 ⟨k6,i6,n6,a6,l6,c6,rfl,dg,bj⟩;obtain⟨w7,Ol,Po,g7,hz7⟩:=((yu.map.on bj (fun x=>x)).put (P:=Tryz.prog) (mt:=87) (kt:=3) (vt:=29) (key:=.int .i64 (p:Int)) (by kernel_rfl) (by kernel_rfl) yu.isKey rfl Xf (.agg #[.int .i64 k6,.string (B n6),.int .i64 i6,.slice a6 l6 c6]));have cm:=qb g7;have S6:=S0.ag bj (fun x=>x) (fun x=>x) (fun x=>x);have S7:=S6.ag cm n1' n3' n4';have e7:=(yu.err.kept bj).ag cm a5;have e7c:=e7.cell;have e7f:=e7.frozen;have e7l:=e7.lt))
   all_goals
     obtain⟨w8,mT⟩:∃ w8,w8=w7.setCell ⟨eb,0,none⟩ (.int .i64 E):=⟨_,rfl⟩;have hRX:=dg;rw[HX.out.2]at dg;obtain⟨Rt,L1⟩:=(yu.on bj).put m0 m1 Io.out Po g7 mT dg;have cW:=(hd.and bj).mono (S':=AF eb M ob EJ) (fun _ _ e=>e.elim)|>.trans L1 (fun _ _ e=>e);have ahJ:=aw.weaken (O':=ae) (fun _ _ e=>e.elim) _ _ (aw.ag L1 (fun b e=>e) _ _ hRX);have Kq:=ai.ag cW (fun b e=>e) _ _ _ _ SR;have c8:=Rt.err.cell;have v8:=Rt.Yc.cell;have t8:=Rt.kQ.cell
     have ky:=Rt.map.get (P:=Tryz.prog) (mt:=87) (kt:=3) (vt:=29) (key:=.int .i64 (p:Int)) (val:=.agg #[.int .i64 k6,.string (B n6),.int .i64 i6,.slice a6 l6 c6]) (by kernel_rfl) (by kernel_rfl) Rt.isKey rfl
       (fun v hv=>by have:=Rt.Yf _ hv (.int .i64 (p:Int),.agg #[.int .i64 k6,.string (B n6),.int .i64 i6,.slice a6 l6 c6]) (by simp) rfl;exact(Prod.ext_iff.1 this).2) ⟨_,List.mem_append_right _ (List.mem_singleton.2 rfl),rfl⟩ false
     have Vi:=ak mT;have hz8:=cW.size;have apN:=hU.size;clear mT dg hRX Po g7 cm S6 S7 S0 e7 e7c e7f e7l Ol bj JY Xf c2 c3 c5 L1 EX yu ON;go_upto_region 7 with fail;rw[<-Vi.out];by_cases gL:E=0
     case neg=>
       have he:(E == 0)=false:=by simpa using gL
       have eJ:=HFA.out.1 gL (QZ++[(p:Int)]) oj;have HF:=ak eJ;clear eJ gL ky;go_wp2_with fail;go_roundw
       case rel=>exact⟨j+1,QZ++[(p:Int)],oj,_,EJ,E,by go_num,by omega,Rt,HF.out,hU.trans cW (fun b hb e=>by
         rcases e with e |e |e |e
         ·exact .inl e
         ·exact .inr (.inl e)
         ·exact .inr (.inr (.inl e))
         exact(zc.out b e).elim (fun e=>.inr (.inr (.inr e))) (fun e=>by omega)),zc.out,by have:=aN.out;simp;omega⟩
       simp[intOf];omega
     case pos=>
       subst gL
       have Vx:=IH X tb eb lb vb ob M base (some ⟨b2,o2,none⟩) lc (QZ++[(p:Int)]) oj _ EJ 0 ((p:Int) :: G) sj w8 _ (by have:=Tm.iM (HFA.out.2.2.2.2 rfl);omega) (HFA.out.2.2.1 rfl)
         (fun x hx g hg=>by
           have h1:=(HFA.out.2.2.2.1 rfl x hx).2;rcases List.mem_cons.1 hg with rfl |hg
           ·exact h1
           have:=HMG.out g hg;omega) Rt (by omega) HSI.out Kq ahJ
       have HO9:=ak (HFA.out.2.1 rfl);go_wp2_with fail
       (with_reducible refine Vx.mono ?_);rintro e9 w9 ⟨rfl,ks9,o9,kv9,ov9,x9,NM,BK,bU,ho9,Qo⟩;have eJ:=HO9.out ks9 o9 x9 BK;have HF:=ak eJ;clear Vx ky c8 v8 t8 BK eJ;have c9:=NM.ord.cell;have f9:=NM.ord.frozen;have l9:=NM.ord.lt;have hz9:=bU.size;have cK:=(af.refl ae w9).alloc (.cells #[.int .i64 (p:Int)] 3);have acm:=(NM.on cK).row;have B0:o9.length+1<=ks9.length:=by have h1:=Qo;have h2:=hV.ol;simp at h1;omega
       have Uj:o9.length<=1000:=by have h1:=NM.Oy;have h2:=hP.len;omega
       have Oz:base<=w9.heap.size:=by omega
       obtain⟨n9,FJ⟩:∃ n9,n9=o9.length:=⟨_,rfl⟩;have U2:(w9.alloc (.cells #[.int .i64 (p:Int)] 3)).ownsRow base 3 1 ov9 n9 (o9.map (Value.int .i64)):=by rw[FJ];exact acm
       rw[<-FJ]at Uj;have HN9:=ak FJ;clear FJ;go_upto_region 9 with fail;go_wp2_with (at_builtin;go_loud (refine wpList_append_lies _ (by rfl) _ _ 22 (by rfl) base 3 i0 (.int .i64 0) 1 8 (by kernel_rfl) hi fS gn eH rfl (by decide) ov9 n9 (o9.map (Value.int .i64)) (by rfl) U2 ⟨w9.heap.size,0,none⟩ 1 1 [.int .i64 (p:Int)] (by rfl) rfl (World.news_of_block (heap_alloc_new w9 _)) (by simp[Value.oneCell']) (by omega) (by simp only[maxLen];omega) (by omega) (by simp;omega) _ rfl ?_);intro g aS kB bq pV ft _hg10;have sP:=(NM.on cK).ord.ag (mE pV) (zj (NM.on cK).row NM.low.2.2.2.2.1);have Pm:=sP.cell;have f10:=sP.frozen;have VO:=sP.lt)
       obtain⟨yE,LW⟩:∃ yE,yE=kB.setCell ⟨ob,0,none⟩ (.slice (some ⟨g,0,none⟩) (n9+1) aS):=⟨_,rfl⟩;rw[HN9.out]at LW bq;obtain⟨TV,ir,UR⟩:=NM.push (m:=(p:Int)) Oz cK (by unfold dv;simpa using bq) pV ft B0 LW;rw[<-HN9.out]at LW TV UR;rw[<-LW];have tg:=ak (And.intro TV (And.intro ir UR));clear TV ir UR bq pV ft LW sP Pm f10 VO;go_wp2_with fail;go_roundw
       case rel=>exact⟨j+1,ks9,o9++[(p:Int)],kv9,_,x9,by go_num,by omega,tg.out.1,HF.out,((hU.trans cW (fun b hb e=>by
         rcases e with e |e |e |e
         ·exact .inl e
         ·exact .inr (.inl e)
         ·exact .inr (.inr (.inl e))
         ·exact(zc.out b e).elim (fun e=>.inr (.inr (.inr e))) (fun e=>by omega))).trans bU (fun b hb e=>by
         rcases e with e |e |e |e
         ·exact .inl e
         ·exact .inr (.inl e)
         ·exact .inr (.inr (.inl e))
         ·exact(zc.out b e).elim (fun e=>.inr (.inr (.inr e))) (fun e=>by omega))).trans tg.out.2.1 (fun b hb e=>by
         rcases e with e |e |e |e
         ·exact .inl e
         ·exact .inr (.inl e)
         ·exact .inr (.inr (.inl e))
         ·exact(ho9 b e).elim (fun e=>(zc.out b e).elim (fun e=>.inr (.inr (.inr e))) (fun e=>by omega)) (fun e=>by omega)),
         fun b e=>(tg.out.2.2 b e).elim (fun e=>(ho9 b e).elim (fun e=>zc.out b e) (fun e=>.inr (by omega))) (fun e=>.inr (by omega)),by have h1:=aN.out;have h2:=Qo;simp at h2 ⊢;omega⟩
       simp[intOf];omega
  have rG:ns.take j=ns:=List.take_of_length_le (by have:=HN.out;omega);rw[rG]at hs;have HR:=ak (show OpC l (dk l f ns s) tb eb lb vb ob M base la lc ks o ov G W wr from⟨QZ,oj,kvj,EJ,ej,hV,hs,(((HU.out.and aL).mono (fun _ _ e=>e.elim)).trans hU (fun _ _ e=>e)),fun b h=>(JG b h).imp id (fun h=>by have:=HU.out.size;have:=aL.size;omega),pw⟩);clear hs JG pw;go_wp2_with fail;go_end0
  exact⟨rfl,HR.out⟩
end
end Go.Proofs.YthgmimncdjhgnaaGreatDoor
