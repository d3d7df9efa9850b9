/- The search for what is left unsolved, as plain data. No program is in sight here. -/
import Derived.Test.YthgmimncdjhgnaaGreatDoorWFA
import Derived.Test.YthgmimncdjhgnaaGreatDoorWFB
import Derived.Test.YthgmimncdjhgnaaGreatDoorWFG
import Derived.Deep.CutRange
import Derived.Deep.RegionHeld3
namespace Go.LF
open Tm Go.Proofs.YthgmimncdjhgnaaGreatDoor
theorem zCk{l:List Mv}{ks:List Int}{m:Int}(h:xH l ks+ks.length<=l.length)(h0:0<=m)(hi:m<l.length)(hn:m∉ks):xH l (ks++[m])+(ks++[m]).length<=l.length:=by
  have:=X9 (ks1:=ks++[m]) h0 hi hn (by simp);simp only[List.length_append,List.length_singleton];omega
theorem zCw(l:List Mv):xH l []+([]:List Int).length<=l.length:=by
  unfold xH;have:=List.length_filter_le (fun j:Nat=>!(([]:List Int).contains (j:Int))) (List.range l.length);simp only[List.length_range]at this;simpa using this
end Go.LF
namespace Go.Proofs.YthgmimncdjhgnaaGreatDoor
section
open Go.RowKit Go.LF
abbrev opV(tb eb lb vb ob:Nat):Value:=.func (.func 127) #[] #[.pointer (some ⟨tb,0,none⟩),.pointer (some ⟨eb,0,none⟩),.pointer (some ⟨lb,0,none⟩),.pointer (some ⟨vb,0,none⟩),.pointer (some ⟨ob,0,none⟩)]
abbrev Chg(eb M ob:Nat)(ov:Value)(b:Nat):Prop:=b=eb\/b=M\/b=ob\/ov.ownBlock=some b
def zCK(l:List Mv)(O:Nat->Prop)(W:World)(x:Value×Value):Prop:=∃(i k ix:Int)(n:List UInt8)(a:Option Addr)(len cap:Nat),x=(.int .i64 i,.agg #[.int .i64 k,.string (B n),.int .i64 ix,.slice a len cap])/\zK O W (Q8 l (typeOf l i)).zM [.int .i64 k,.string (B n),.int .i64 ix,.slice a len cap]
structure OpW(l:List Mv)(tb eb lb vb ob M base:Nat)(la:Option Addr)(lc:Nat)(ks o:List Int)(kvs:List (Value×Value))(ov:Value)(e:Int)(W:World):Prop where
  typ:zt W tb (.map (some M)) 87
  err:zt W eb (.int .i64 e) 30
  st:zt W lb (.slice la l.length lc) 23
  vis:zt W vb (opV tb eb lb vb ob) 93
  ord:zt W ob ov 22
  map:xF W M kvs
  row:yx base W ov o
  keys:kvs.map (fun x=>x.1)=ks.map (Value.int .i64)
  uni:∀ x∈kvs,∀ y∈kvs,x.1=y.1->x=y
  val:∀ x∈kvs,zCK l (Chg eb M ob ov) W x
  low:tb<base/\eb<base/\lb<base/\vb<base/\ob<base/\M<base
  apart:(eb≠tb/\eb≠lb/\eb≠vb/\eb≠ob/\eb≠M)/\(ob≠tb/\ob≠lb/\ob≠vb/\ob≠M)/\M≠tb/\M≠lb/\M≠vb
  cnt:xH l ks+ks.length<=l.length
  ol:o.length<=ks.length
  rng:∀ x∈ks,0<=x/\x<(l.length:Int)
section
variable {l:List Mv}{tb eb lb vb ob M base:Nat}{la:Option Addr}{lc:Nat}{ks o:List Int}{kvs:List (Value×Value)}{ov ov':Value}{e:Int}{W W':World}
theorem zCK.carry{x:Value×Value}(h:zCK l (Chg eb M ob ov) W x)(hU:zD (Chg eb M ob ov) W W')(ho:∀ b,ov'.ownBlock=some b->ov.ownBlock=some b\/W.heap.size<=b):zCK l (Chg eb M ob ov') W' x:=by
  obtain⟨i,k,ix,n,a,len,cap,h1,h2⟩:=h;refine⟨i,k,ix,n,a,len,cap,h1,zK.weaken (fun b _ e=>?_) _ _ (zK.zE hU (fun b e=>.inl e) _ _ (zK.xx h2))⟩;rcases e with e |e |e |e
  ·exact .inl (.inl e)
  ·exact .inl (.inr (.inl e))
  ·exact .inl (.inr (.inr (.inl e)))
  ·exact(ho b e).elim (fun e=>.inl (.inr (.inr (.inr e)))) .inr
theorem OpW.on(h:OpW l tb eb lb vb ob M base la lc ks o kvs ov e W)(hU:zD zC W W'):OpW l tb eb lb vb ob M base la lc ks o kvs ov e W':=
  ⟨h.typ.kept hU,h.err.kept hU,h.st.kept hU,h.vis.kept hU,h.ord.kept hU,h.map.on hU (fun x=>x),h.row.on hU,h.keys,h.uni,fun x hx=>(h.val x hx).carry (hU.mono (fun _ _ e=>e.elim)) (fun _ e=>.inl e),h.low,h.apart,h.cnt,h.ol,h.rng⟩
theorem OpW.lk(h:OpW l tb eb lb vb ob M base la lc ks o kvs ov e W)(m:Int):(m∈ks↔∃ x∈kvs,x.1=.int .i64 m):=by
  have hk:=h.keys;constructor
  ·intro hm;have:Value.int .i64 m∈kvs.map (fun x=>x.1):=by rw[hk];exact List.mem_map_of_mem hm
   obtain⟨x,hx,e⟩:=List.mem_map.1 this;exact⟨x,hx,e⟩
  ·rintro⟨x,hx,e⟩;have:Value.int .i64 m∈ks.map (Value.int .i64):=by rw[<-hk,<-e];exact List.mem_map_of_mem (f:=fun x=>x.1) hx
   obtain⟨y,hy,e⟩:=List.mem_map.1 this;cases e
   exact hy
theorem OpW.put{m k ix E:Int}{n:List UInt8}{a:Option Addr}{len cap:Nat}{W8:World}(h:OpW l tb eb lb vb ob M base la lc ks o kvs ov e W)(h0:0<=m)(hi:m<l.length)(hn:m∉ks)
    (hM:xF W' M (kvs++[(.int .i64 m,.agg #[.int .i64 k,.string (B n),.int .i64 ix,.slice a len cap])])) (hg:W.grownBy W' (some M)) (hW8:W8=W'.setCell ⟨eb,0,none⟩ (.int .i64 E))
    (hv:zK (Chg eb M ob ov) W (Q8 l (typeOf l m)).zM [.int .i64 k,.string (B n),.int .i64 ix,.slice a len cap]):
    OpW l tb eb lb vb ob M base la lc (ks++[m]) o (kvs++[(.int .i64 m,.agg #[.int .i64 k,.string (B n),.int .i64 ix,.slice a len cap])]) ov E W8/\zD (Chg eb M ob ov) W W8:=by
  have hU1:=Zz hg;have hU2:zD (fun b=>b=eb) W' W8:=by rw[hW8];exact zD.set (zD.refl _ _) 0 _
  obtain⟨⟨a1,a2,a3,a4,a5⟩,⟨b1,b2,b3,b4⟩,c1,c2,c3⟩:=h.apart;have hU:zD (Chg eb M ob ov) W W8:=(hU1.mono (fun _ _ e=>.inr (.inl e))).trans hU2 (fun _ _ e=>.inl e);have kp:∀{c:Value}{T:TypeId}{g:Nat},zt W g c T->g≠M->g≠eb->zt W8 g c T:=fun hb h1 h2=>(hb.zE hU1 h1).zE hU2 h2
  have he:=(h.err.zE hU1 a5).set (.int .i64 E)
  have hrow1:yx base W' ov o:=World.ownsRow.kept h.row hg (.inr fun e=>by
    have:=(h.row.lt M e).1;have:=h.low.2.2.2.2.2;omega)
  have hrow:yx base W8 ov o:=World.ownsRow.kept (row:=some eb) hrow1 ⟨hU2.os,hU2.tape,hU2.output,hU2.size,fun k hk hne=>hU2.block k hk (fun e=>hne (by rw[e]))⟩ (.inr fun e=>by
    have:=(hrow1.lt eb e).1;have:=h.low.2.1;omega)
  refine⟨⟨kp h.typ (Ne.symm c1) (Ne.symm a1),by rw[hW8];exact he,kp h.st (Ne.symm c2) (Ne.symm a2),kp h.vis (Ne.symm c3) (Ne.symm a3),kp h.ord b4 (Ne.symm a4),hM.on hU2 (Ne.symm a5),hrow,?_,?_,?_,h.low,h.apart,zCk h.cnt h0 hi hn,by have:=h.ol;simp;omega,fun x hx=>(List.mem_append.1 hx).elim (h.rng x) (fun e=>by obtain rfl:x=m:=(by simpa using e);exact⟨h0,hi⟩)⟩,hU⟩
  ·rw[List.map_append,List.map_append,h.keys];rfl
  ·intro x hx y hy e;rcases List.mem_append.1 hx with hx |hx<;>rcases List.mem_append.1 hy with hy |hy
   ·exact h.uni x hx y hy e
   ·obtain rfl:y=_:=by simpa using hy
    exact absurd ((h.lk m).2 ⟨x,hx,e⟩) hn
   ·obtain rfl:x=_:=by simpa using hx
    exact absurd ((h.lk m).2 ⟨y,hy,e.symm⟩) hn
   ·obtain rfl:x=_:=by simpa using hx
    obtain rfl:y=_:=by simpa using hy
    rfl
  ·intro x hx;rcases List.mem_append.1 hx with hx |hx
   ·exact(h.val x hx).carry hU (fun b e=>.inl e)
   ·obtain rfl:x=_:=by simpa using hx
    exact zCK.carry ⟨m,k,ix,n,a,len,cap,rfl,hv⟩ hU (fun b e=>.inl e)
theorem OpW.push{m:Int}{g cap':Nat}{w9 w10 W8:World}(h:OpW l tb eb lb vb ob M base la lc ks o kvs ov e W)(_hb:base<=W.heap.size)(h9:zD zC W w9)(hown:yx base w10 (.slice (some ⟨g,0,none⟩) (o.length+1) cap') (o++[m]))(hg:w9.grownBy w10 ov.ownBlock)
    (hat:ov.ownBlock=some g\/g=w9.heap.size) (hol:o.length+1<=ks.length) (hW8:W8=w10.setCell ⟨ob,0,none⟩ (.slice (some ⟨g,0,none⟩) (o.length+1) cap')):
    OpW l tb eb lb vb ob M base la lc ks (o++[m]) kvs (.slice (some ⟨g,0,none⟩) (o.length+1) cap') e W8/\zD (Chg eb M ob ov) W W8/\(∀ b,(Value.slice (some ⟨g,0,none⟩) (o.length+1) cap').ownBlock=some b->ov.ownBlock=some b\/W.heap.size<=b):=by
  have h':=h.on h9;have hU1:zD (fun b=>ov.ownBlock=some b) w9 w10:=⟨hg.os,hg.tape,hg.output,hg.size,fun k hk hn=>hg.block k hk (fun e=>hn e.symm)⟩;have hU2:zD (fun b=>b=ob) w10 W8:=by rw[hW8];exact zD.set (zD.refl _ _) 0 _
  obtain⟨⟨a1,a2,a3,a4,a5⟩,⟨b1,b2,b3,b4⟩,c1,c2,c3⟩:=h.apart;obtain⟨l1,l2,l3,l4,l5,l6⟩:=h.low
  have ho:∀ b,(Value.slice (some ⟨g,0,none⟩) (o.length+1) cap').ownBlock=some b->ov.ownBlock=some b\/W.heap.size<=b:=fun b e=>by
    simp only[Value.ownBlock,Option.some.injEq]at e;subst e;exact hat.imp id (fun e=>by rw[e];exact h9.size)
  have nb:∀ b,b<base->¬ov.ownBlock=some b:=fun b hb e=>by have:=(h.row.lt b e).1;omega
  have hU:zD (Chg eb M ob ov) W W8:=((h9.mono (fun _ _ e=>e.elim)).trans hU1 (fun _ _ e=>.inr (.inr (.inr e)))).trans hU2 (fun _ _ e=>.inr (.inr (.inl e)));have kp:∀{c:Value}{T:TypeId}{b:Nat},zt w9 b c T->b<base->b≠ob->zt W8 b c T:=fun hb h1 h2=>(hb.zE hU1 (nb _ h1)).zE hU2 h2
  have gb:base<=g:=(hown.lt g rfl).1;refine⟨⟨kp h'.typ l1 (Ne.symm b1),kp h'.err l2 a4,kp h'.st l3 (Ne.symm b2),kp h'.vis l4 (Ne.symm b3),by rw[hW8];exact(h'.ord.zE hU1 (nb _ l5)).set _,(h'.map.on hU1 (nb _ l6)).on hU2 (Ne.symm b4),?_,h.keys,h.uni,fun x hx=>(h.val x hx).carry hU ho,h.low,h.apart,h.cnt,by simp;omega,h.rng⟩,hU,ho⟩
  exact World.ownsRow.kept (row:=some ob) hown ⟨hU2.os,hU2.tape,hU2.output,hU2.size,fun k hk hne=>hU2.block k hk (fun e=>hne (by rw[e]))⟩ (.inr fun e=>by
    have:g=ob:=by simpa[Value.ownBlock]using e
    omega)
end
end
section
open Go.RowKit Go.LF
abbrev Op6(tb lb b o:Nat)(x y t0 t1 t2 t3:Value)(w':World):Prop:=
  w'.cell? ⟨tb,0,none⟩=some x/\w'.cell? ⟨lb,0,none⟩=some y/\(w'.cell? ⟨b,o+1,none⟩=some t0/\w'.cell? ⟨b,o+2,none⟩=some t1/\w'.cell? ⟨b,o+3,none⟩=some t2/\w'.cell? ⟨b,o+4,none⟩=some t3)
theorem Op6.zE{S:Nat->Prop}{tb lb b o:Nat}{x y t0 t1 t2 t3:Value}{w w':World}(h:Op6 tb lb b o x y t0 t1 t2 t3 w)(hU:zD S w w')(h1:¬S tb)(h2:¬S lb)(h3:¬S b):Op6 tb lb b o x y t0 t1 t2 t3 w':=by
  obtain⟨a0,a1,b0,b1,b2,b3⟩:=h;exact⟨hU.cell a0 h1,hU.cell a1 h2,hU.cell b0 h3,hU.cell b1 h3,hU.cell b2 h3,hU.cell b3 h3⟩
theorem Op6.set{eb tb lb b o:Nat}{x y t0 t1 t2 t3 v:Value}{w:World}(h:Op6 tb lb b o x y t0 t1 t2 t3 w)(h1:¬tb=eb)(h2:¬lb=eb)(h3:¬b=eb):Op6 tb lb b o x y t0 t1 t2 t3 (w.setCell ⟨eb,0,none⟩ v):=h.zE (zD.set (zD.refl _ _) 0 _) h1 h2 h3
end
end Go.Proofs.YthgmimncdjhgnaaGreatDoor
