/- Layer 5's made. -/
import Derived.Test.YthgmimncdjhgnaaGreatQCF
import Derived.Test.YthgmimncdjhgnaaGreatQCH
import Derived.Deep.AppendLies
import Derived.Deep.CutRange
import Derived.Deep.RegionLaw
namespace Go.LF.Tm
structure zGk(t:Tm)(deep vars zP:Nat):Prop where
  XD:t.zX=true
  scope:t.scope<=vars
  zP:∀ b,∀ x∈t.nodes b,(x.k == 6)=true->x.i<zP
  depth:t.depth<=deep+1
  size:t.size+1<=2 ^ (deep+1)
  wt:t.wt+5<=5 * 2 ^ (deep+1)
  nml:∀ b,∀ x∈t.nodes b,x.n.length<=4
structure qD(t:Tm)(sz vars zP:Nat):Prop where
  any:t.isObj=true\/t.zX=true\/t.zb=true
  scope:t.scope<=vars
  zP:∀ b,∀ x∈t.nodes b,(x.k == 6)=true->x.i<zP
  depth:t.depth<=20
  size:t.size<=sz
  wt:t.wt<=5 * sz
theorem Fits.any{t:Tm}{d v m:Nat}(h:Fits t d v m)(hd:d<=12):qD t (2 ^ (d+1)+2) v m:=
  ⟨.inl h.obj,h.scope,h.zP,by have:=h.depth;omega,by have:=h.size;omega,by have:=h.wt;omega⟩
theorem zGk.any{t:Tm}{d v m:Nat}(h:zGk t d v m)(hd:d<=12):qD t (2 ^ (d+1)+2) v m:=
  ⟨.inr (.inl h.XD),h.scope,h.zP,by have:=h.depth;omega,by have:=h.size;omega,by have:=h.wt;omega⟩
structure zGh(t:Tm)(n d:Nat):Prop where
  knd:t.zb=true
  scope:t.scope<=0
  zP:∀ b,∀ x∈t.nodes b,(x.k == 6)=false
  depth:t.depth<=d+1+n
  size:t.size<=1+n * 2 ^ (d+1)
  wt:t.wt<=1+n * (5 * 2 ^ (d+1))
theorem zGh.any{t:Tm}{n d v m:Nat}(h:zGh t n d)(hn:n<=2)(hd:d<=12):qD t (2 ^ (d+2)+2) v m:=by
  have h2:2 ^ (d+2)=2 * 2 ^ (d+1):=by rw[Nat.pow_succ];omega
  have h1:=h.size;have h3:=h.wt;have h4:n * 2 ^ (d+1)<=2 * 2 ^ (d+1):=Nat.mul_le_mul_right _ hn;have h5:n * (5 * 2 ^ (d+1))<=2 * (5 * 2 ^ (d+1)):=Nat.mul_le_mul_right _ hn;refine⟨.inr (.inr h.knd),by have:=h.scope;omega,fun b x hx h6=>?_,by have:=h.depth;omega,by omega,by omega⟩;rw[h.zP b x hx]at h6;cases h6
end Go.LF.Tm
namespace Go.Proofs.YthgmimncdjhgnaaGreat
open Go.RowKit Go.LF
abbrev PiS(nb no ncap ab:Nat)(a0 a1 a2 a3:Value)(w':World):Prop:=
  w'.cell? ⟨0,0,none⟩=some (.slice (some ⟨nb,no,none⟩) 6 ncap)/\(∀ j,j<6->w'.cell? ⟨nb,no+j,none⟩=some (.string (B (nameAt j))))/\
  (w'.cell? ⟨ab,0,none⟩=some a0/\w'.cell? ⟨ab,1,none⟩=some a1/\w'.cell? ⟨ab,2,none⟩=some a2/\w'.cell? ⟨ab,3,none⟩=some a3)
theorem PiS.zF{nb no ncap ab:Nat}{a0 a1 a2 a3:Value}{w w':World}{S:Nat->Prop}(h:PiS nb no ncap ab a0 a1 a2 a3 w)(hU:zD S w w')(h0:¬S 0)(hn:¬S nb)(ha:¬S ab):PiS nb no ncap ab a0 a1 a2 a3 w':=
  ⟨hU.cell h.1 h0,fun j hj=>hU.cell (h.2.1 j hj) hn,hU.cell h.2.2.1 ha,hU.cell h.2.2.2.1 ha,hU.cell h.2.2.2.2.1 ha,hU.cell h.2.2.2.2.2 ha⟩
theorem PiS.new{nb no ncap ab:Nat}{a0 a1 a2 a3:Value}{w:World}(h:PiS nb no ncap ab a0 a1 a2 a3 w)(o:Obj):PiS nb no ncap ab a0 a1 a2 a3 (w.alloc o):=
  h.zF ((zD.refl zC w).alloc o) (fun x=>x) (fun x=>x) (fun x=>x)
theorem PiS.set{nb no ncap ab r:Nat}{a0 a1 a2 a3:Value}{w:World}(h:PiS nb no ncap ab a0 a1 a2 a3 w)(h0:0≠r)(hn:nb≠r)(ha:ab≠r)(j:Nat)(v:Value):PiS nb no ncap ab a0 a1 a2 a3 (w.setCell ⟨r,j,none⟩ v):=
  h.zF (zD.set (zD.refl _ w) j v) h0 hn ha
end Go.Proofs.YthgmimncdjhgnaaGreat
namespace Go.Proofs.YthgmimncdjhgnaaGreat
open Go.RowKit Go.LF
theorem X1{O:Nat->Prop}{W:World}:∀(ts:List Tm)(a:Option Addr)(j:Nat),zH O W 4 (ts.map Tm.zN) a j->
    ∃ css:List (List Value),css.length=ts.length/\(∀ cs∈css,cs.length=4)/\(∀ u∈css.flatten,u.oneCell'=true)/\(∀ i u,css.flatten[i]? =some u->∃ b o,a=some ⟨b,o,none⟩/\W.cell? ⟨b,o+j+i,none⟩=some u)/\
      ∀ i(h:i<ts.length)(h':i<css.length),zK O W ts[i].zN css[i]
  | [],_,_,_=>⟨[],rfl,by simp,by simp,by simp,fun i h=>by simp at h⟩
  |t :: ts,a,j,h=>by
   simp only[List.map_cons,zH]at h;obtain⟨⟨b,o,cs,rfl,hb,hO,hl,hc,hr⟩,hrest⟩:=h;obtain⟨css,h1,h2,h3,h4,h5⟩:=X1 ts _ (j+4) hrest;obtain⟨k,n,i,l,a',cap',ht,hcs,_⟩:=zZ hr;refine⟨cs :: css,by simp[h1],?_,?_,?_,?_⟩
   ·intro x hx;rcases List.mem_cons.1 hx with rfl |hx
    ·exact hl
    ·exact h2 x hx
   ·intro u hu;rw[List.flatten_cons,List.mem_append]at hu;rcases hu with hu |hu
    ·rw[hcs]at hu;simp only[List.mem_cons,List.not_mem_nil,or_false]at hu;rcases hu with rfl |rfl |rfl |rfl<;>rfl
    ·exact h3 u hu
   ·intro m u hu;rw[List.flatten_cons]at hu;by_cases hm:m<cs.length
    ·rw[List.getElem?_append_left hm]at hu;exact⟨b,o,rfl,hc m u hu⟩
    ·rw[List.getElem?_append_right (by omega)]at hu;obtain⟨b',o',e,hc'⟩:=h4 _ u hu;cases e
     refine⟨b,o,rfl,?_⟩;rw[show o+j+m=o+(j+4)+(m - cs.length) by omega];exact hc'
   ·intro m hm hm';cases m with
    |zero=>exact hr
    |succ m=>exact h5 m (by simpa using hm) (by simpa using hm')
def xr(O:Nat->Prop)(base:Nat)(W:World)(v:Value)(ts:List Tm)(css:List (List Value)):Prop:=
  css.length=ts.length/\(∀ cs∈css,cs.length=4)/\W.ownsRow base 25 4 v ts.length css.flatten/\∀ i(h:i<ts.length)(h':i<css.length),zK (fun b=>O b\/base<=b) W ts[i].zN css[i]
theorem xr.zF{O:Nat->Prop}{base:Nat}{W W':World}{v:Value}{ts:List Tm}{css:List (List Value)}{S:Nat->Prop}(h:xr O base W v ts css)(hU:zD S W W')(hS:∀ b,S b->base<=b/\v.ownBlock≠some b):xr O base W' v ts css:=by
  obtain⟨h1,h2,h3,h4⟩:=h;refine⟨h1,h2,⟨h3.1,?_⟩,fun i h h'=>zK.zF hU (fun b hb=>.inr (hS b hb).1) _ _ (h4 i h h')⟩;rcases h3.2 with h5 |⟨g,cap,cur,rfl,hb,hg,rest⟩
  ·exact .inl h5
  ·exact .inr ⟨g,cap,cur,rfl,hb,(hU.block g (Array.getElem?_eq_some_iff.1 hg).1 (fun e=>(hS g e).2 rfl)).trans hg,rest⟩
theorem xr.on{O:Nat->Prop}{base:Nat}{W W':World}{v:Value}{ts:List Tm}{css:List (List Value)}(h:xr O base W v ts css)(hU:zD zC W W'):xr O base W' v ts css:=h.zF hU (fun _ x=>x.elim)
theorem xr.cells{O:Nat->Prop}{base:Nat}{W:World}{v:Value}{ts:List Tm}{css:List (List Value)}(h:xr O base W v ts css):∃ a cap,v=.slice a ts.length cap/\ts.length<=cap/\
    ∀ i(hi:i<ts.length)(hi':i<css.length),∃ g,a=some ⟨g,0,none⟩/\v.ownBlock=some g/\base<=g/\g<W.heap.size/\(∀ o,W.frozen? ⟨g,o,none⟩=false)/\∀ m u,css[i][m]? =some u->W.cell? ⟨g,i * 4+m,none⟩=some u:=by
  obtain⟨h1,h2,h3,h4⟩:=h;rcases h3.2 with⟨rfl,h0⟩|⟨g,cap,cur,rfl,hb,hg,hnc,_⟩
  ·exact⟨none,0,by rw[h0],by omega,fun i hi=>by omega⟩
  ·refine⟨_,cap,rfl,hnc,fun i hi hi'=>⟨g,rfl,rfl,hb,(Array.getElem?_eq_some_iff.1 hg).1,fun o=>by simp[World.frozen?,hg],fun m u hu=>?_⟩⟩;have:=h3.cells (g:=g) rfl _ u ((zCD css h2).2 i hi' m u hu);have hadd:(⟨g,0,none⟩:Addr).add (i * 4+m)=⟨g,i * 4+m,none⟩:=by unfold Addr.add;split<;>simp_all
   rwa [hadd]at this
theorem xr.rep{O:Nat->Prop}{base:Nat}{W:World}{v:Value}{ts:List Tm}{css:List (List Value)}(h:xr O base W v ts css):∃ a cap,v=.slice a ts.length cap/\ts.length<=cap/\zH (fun b=>(O b/\b<base)\/(base<=b/\v.ownBlock≠some b)) W 4 (ts.map Tm.zN) a 0:=by
  obtain⟨a,cap,hv,hcap,hc⟩:=h.cells;refine⟨a,cap,hv,hcap,zn _ _ _ (fun i hi=>?_)⟩;simp only[List.length_map]at hi;have hi':i<css.length:=by have:=h.1;omega
  obtain⟨g,rfl,hown,hb,hlt,_,hg⟩:=hc i hi hi';refine⟨g,0,css[i],rfl,hlt,fun x=>x.elim (fun y=>by omega) (fun y=>y.2 hown),h.2.1 _ (List.getElem_mem hi'),fun m u hu=>?_,?_⟩
  ·rw[show 0+0+i * 4+m=i * 4+m by omega];exact hg m u hu
  ·simp only[List.getElem_map];exact zK.weaken (fun _ _ x=>x.elim (fun y=>.inl y.1) (fun y=>.inr y.1)) _ _ (h.2.2.2 i hi hi')
theorem xr.new{O:Nat->Prop}{base len:Nat}{w W w7:World}{ts:List Tm}{css:List (List Value)}{g cap:Nat}(h1:css.length=ts.length)(h2:∀ cs∈css,cs.length=4)(h5:∀ i(h:i<ts.length)(h':i<css.length),zK (fun b=>O b\/base<=b) w ts[i].zN css[i])(hl:len=ts.length)
    (hU:zD zC w W) (hown:w7.ownsRow base 25 4 (.slice (some ⟨g,0,none⟩) (0+len) cap) (0+len) ([]++css.flatten)) (hg:W.grownBy w7 none):xr O base w7 (.slice (some ⟨g,0,none⟩) len cap) ts css:=by
  subst hl;refine⟨h1,h2,by simpa using hown,fun i h h'=>?_⟩;have hU7:zD zC W w7:=⟨hg.os,hg.tape,hg.output,hg.size,fun k hk _=>hg.block k hk (by simp)⟩;exact((h5 i h h').on hU).on hU7
theorem xr.leaf{O:Nat->Prop}{base:Nat}{W w':World}{v:Value}{ts:List Tm}{css:List (List Value)}{k i:Int}{n:List UInt8}{g cap:Nat}(h:xr O base W v ts css)
    (hown:w'.ownsRow base 25 4 (.slice (some ⟨g,0,none⟩) (ts.length+1) cap) (ts.length+1) (css.flatten++[.int .i64 k,.string (B n),.int .i64 i,.slice none 0 0])) (hg:W.grownBy w' v.ownBlock):
    xr O base w' (.slice (some ⟨g,0,none⟩) (ts.length+1) cap) (ts++[.mk k n i []]) (css++[[.int .i64 k,.string (B n),.int .i64 i,.slice none 0 0]]):=by
  obtain⟨h1,h2,h3,h4⟩:=h;have hcel:Z5 (fun b=>O b\/base<=b) W w':=⟨hg.size,fun b o u hb hu=>hg.cell hu (fun e=>hb (.inr (h3.lt b e.symm).1))⟩;refine⟨by simp[h1],?_,by simpa using hown,fun i hi hi'=>?_⟩
  ·intro c hc;rcases List.mem_append.1 hc with hc |hc
   ·exact h2 c hc
   ·obtain rfl:=List.mem_singleton.1 hc;rfl
  ·by_cases hlt:i<ts.length
   ·rw[List.getElem_append_left hlt,List.getElem_append_left (by omega)];exact zK.carry hcel _ _ (h4 i hlt (by omega))
   ·have e1:i=ts.length:=by simp at hi;omega
    subst e1;rw[List.getElem_append_right (Nat.le_refl _),List.getElem_append_right (by omega)];simp only[h1,Nat.sub_self,List.getElem_cons_zero];exact zV _ _ _
theorem QA{W w7:World}(hg:W.grownBy w7 (Value.slice none 0 0).ownBlock):zD zC W w7:=⟨hg.os,hg.tape,hg.output,hg.size,fun k hk _=>hg.block k hk (by simp[Value.ownBlock])⟩
abbrev X2(b:Nat)(c0 c1 c2 c3:Value)(w':World):Prop:=w'.cell? ⟨b,0,none⟩=some c0/\w'.cell? ⟨b,1,none⟩=some c1/\w'.cell? ⟨b,2,none⟩=some c2/\w'.cell? ⟨b,3,none⟩=some c3
theorem X2.zF{b:Nat}{c0 c1 c2 c3:Value}{w w':World}{S:Nat->Prop}(h:X2 b c0 c1 c2 c3 w)(hU:zD S w w')(hS:¬S b):X2 b c0 c1 c2 c3 w':=⟨hU.cell h.1 hS,hU.cell h.2.1 hS,hU.cell h.2.2.1 hS,hU.cell h.2.2.2 hS⟩
theorem X2.new{b:Nat}{c0 c1 c2 c3:Value}{w:World}(h:X2 b c0 c1 c2 c3 w)(o:Obj):X2 b c0 c1 c2 c3 (w.alloc o):=h.zF ((zD.refl zC w).alloc o) (fun x=>x)
theorem X2.set{b r:Nat}{c0 c1 c2 c3:Value}{w:World}(h:X2 b c0 c1 c2 c3 w)(hr:b≠r)(j:Nat)(v:Value):X2 b c0 c1 c2 c3 (w.setCell ⟨r,j,none⟩ v):=h.zF (zD.set (zD.refl _ w) j v) hr
theorem Ze{W:World}{g o:Nat}{c0 c1 c2 c3 d0 d1 d2 d3:Value}(h0:W.cell? ⟨g,o,none⟩=some c0)(h1:W.cell? ⟨g,o+1,none⟩=some c1)(h2:W.cell? ⟨g,o+2,none⟩=some c2)(h3:W.cell? ⟨g,o+3,none⟩=some c3){W':World}
    (hW:W'=(((W.setCell ⟨g,o,none⟩ d0).setCell ⟨g,o+1,none⟩ d1).setCell ⟨g,o+2,none⟩ d2).setCell ⟨g,o+3,none⟩ d3):
    (W'.cell? ⟨g,o,none⟩=some d0/\W'.cell? ⟨g,o+1,none⟩=some d1/\W'.cell? ⟨g,o+2,none⟩=some d2/\W'.cell? ⟨g,o+3,none⟩=some d3)/\
    (∀ x,x≠o->x≠o+1->x≠o+2->x≠o+3->W'.cell? ⟨g,x,none⟩=W.cell? ⟨g,x,none⟩)/\zD (fun b=>b=g) W W':=by
  have ne:∀ x y:Nat,x≠y->(⟨g,x,none⟩:Addr)≠⟨g,y,none⟩:=fun x y h e=>h (by cases e;rfl)
  have other:∀(V:World)(x y:Nat)(v:Value),x≠y->(V.setCell ⟨g,x,none⟩ v).cell? ⟨g,y,none⟩=V.cell? ⟨g,y,none⟩:=fun V x y v h=>World.cell?_setCell_other _ _ _ _ (ne x y h)
  subst hW;refine⟨⟨?_,?_,?_,?_⟩,?_,?_⟩
  ·rw[other _ _ _ _ (by omega),other _ _ _ _ (by omega),other _ _ _ _ (by omega)];exact World.cell?_setCell_same _ _ _ h0
  ·rw[other _ _ _ _ (by omega),other _ _ _ _ (by omega)];exact World.cell?_setCell_same _ _ _ (by rw[other _ _ _ _ (by omega)];exact h1)
  ·rw[other _ _ _ _ (by omega)];exact World.cell?_setCell_same _ _ _ (by rw[other _ _ _ _ (by omega),other _ _ _ _ (by omega)];exact h2)
  ·exact World.cell?_setCell_same _ _ _ (by rw[other _ _ _ _ (by omega),other _ _ _ _ (by omega),other _ _ _ _ (by omega)];exact h3)
  ·intro x h0 h1 h2 h3;rw[other _ _ _ _ (Ne.symm h3),other _ _ _ _ (Ne.symm h2),other _ _ _ _ (Ne.symm h1),other _ _ _ _ (Ne.symm h0)]
  ·exact zD.set (zD.set (zD.set (zD.set (zD.refl _ W) _ _) _ _) _ _) _ _
theorem ye{w w':World}{v:Value}(h:w.grownBy w' v.ownBlock):zD (fun b=>v.ownBlock=some b) w w':=⟨h.os,h.tape,h.output,h.size,fun k hk hn=>h.block k hk (fun e=>hn e.symm)⟩
end Go.Proofs.YthgmimncdjhgnaaGreat
namespace Go.Proofs.YthgmimncdjhgnaaGreat
open Go.RowKit Go.LF
abbrev TvS(W:World)(b:Nat)(k1:Int)(n1:List UInt8)(i1:Int)(a1:Option Addr)(len1 cap1:Nat)(w':World):Prop:=
  (w'.cell? ⟨b,0,none⟩=some (.int .i64 k1)/\w'.cell? ⟨b,1,none⟩=some (.string (B n1))/\w'.cell? ⟨b,2,none⟩=some (.int .i64 i1)/\w'.cell? ⟨b,3,none⟩=some (.slice a1 len1 cap1))/\zD zC W w'
theorem TvS.on{W w' w1:World}{b:Nat}{k1:Int}{n1:List UInt8}{i1:Int}{a1:Option Addr}{len1 cap1:Nat}(h:TvS W b k1 n1 i1 a1 len1 cap1 w')(hU:zD zC w' w1):TvS W b k1 n1 i1 a1 len1 cap1 w1:=⟨zAx hU h.1,h.2.and hU⟩
theorem TvS.up{W w':World}{b:Nat}{k1:Int}{n1:List UInt8}{i1:Int}{a1:Option Addr}{len1 cap1:Nat}(h:TvS W b k1 n1 i1 a1 len1 cap1 w'):zD zC W w':=h.2
end Go.Proofs.YthgmimncdjhgnaaGreat
