/- AR a Ql reaches, found with a list of K5 is still to be done. No program is in qP here. -/
import Derived.Test.YthgmimncdjhgnaaGreatDoorXFD
set_option maxRecDepth 100000
set_option maxHeartbeats 8000000
namespace Go.Proofs.YthgmimncdjhgnaaGreatDoor
section
open Go.RowKit Go.LF
structure Kg(l:List Mv)(i:Int)(td:List Int)(bs:List Bool):Prop where
  len:bs.length=l.length
  sound:∀ k:Nat,bs[k]? =some true->∃ j∈cy l i,lX l j (k:Int)
  todo:∀ k∈td,0<=k/\k<=100000/\(k<l.length->∃ j∈cy l i,lX l j k)
  roots:∀ j∈cy l i,j<l.length->bs[j.toNat]? =some true\/j∈td
  closed:∀ k:Nat,bs[k]? =some true->∀ y∈cy l (k:Int),y<l.length->bs[y.toNat]? =some true\/y∈td
def MX(l:List Mv)(i:Int)(bs:List Bool):Prop:=bs.length=l.length/\∀ k:Nat,bs[k]? =some true↔∃ j∈cy l i,lX l j (k:Int)
section
variable {l:List Mv} (hr:∀ m∈l,∀ x∈ke m,0<=x/\x<=100000){i:Int}{td:List Int}{bs:List Bool}
include hr in
theorem jP{k x:Int}(h:x∈cy l k):0<=x/\x<=100000:=by
  unfold cy at h;split at h
  ·split at h
   ·rename_i m hm;exact hr m (List.mem_of_getElem? hm) x h
   cases h
  cases h
include hr in
theorem Kg.start(n:Nat)(hn:n=l.length):Kg l i (cy l i) (List.replicate n false):=by
  subst hn;refine⟨by simp,fun k h=>?_,fun k hk=>?_,fun j hj _=>.inr hj,fun k h=>?_⟩
  ·rw[List.getElem?_replicate]at h;split at h<;>simp at h
  ·exact⟨(jP hr hk).1,(jP hr hk).2,fun hl=>⟨k,hk,.refl hl⟩⟩
  rw[List.getElem?_replicate]at h;split at h<;>simp at h
theorem Kg.skip{k:Int}(h:Kg l i (td++[k]) bs)(hk:¬k<l.length\/bs[k.toNat]? =some true):Kg l i td bs:=by
  refine⟨h.len,h.sound,fun x hx=>h.todo x (List.mem_append.2 (.inl hx)),fun j hj hl=>?_,fun x hx y hy hl=>?_⟩
  ·rcases h.roots j hj hl with h1 |h1
   ·exact .inl h1
   rcases List.mem_append.1 h1 with h1 |h1
   ·exact .inr h1
   obtain rfl:=List.mem_singleton.1 h1;exact hk.elim (fun e=>absurd hl e) .inl
  rcases h.closed x hx y hy hl with h1 |h1
  ·exact .inl h1
  rcases List.mem_append.1 h1 with h1 |h1
  ·exact .inr h1
  obtain rfl:=List.mem_singleton.1 h1;exact hk.elim (fun e=>absurd hl e) .inl
include hr in
theorem Kg.new{k:Nat}(h:Kg l i (td++[(k:Int)]) bs)(hk:k<l.length):Kg l i (td++cy l (k:Int)) (bs.set k true):=by
  have Rr:k<bs.length:=by rw[h.len];exact hk
  obtain⟨_,_,h0⟩:=h.todo (k:Int) (by simp);obtain⟨j0,Fl,Th⟩:=h0 (by omega)
  have qV:∀ x:Nat,(bs.set k true)[x]? =some true↔bs[x]? =some true\/x=k:=by
    intro x;rw[List.getElem?_set];split
    ·rename_i e;subst e;simp[Rr]
    rename_i e;exact⟨.inl,fun h=>h.elim id (fun h=>absurd h.symm e)⟩
  have move:∀ y:Int,(bs[y.toNat]? =some true\/y∈td++[(k:Int)])->(bs.set k true)[y.toNat]? =some true\/y∈td++cy l (k:Int):=by
    intro y hy;rcases hy with h1 |h1
    ·exact .inl ((qV _).2 (.inl h1))
    rcases List.mem_append.1 h1 with h1 |h1
    ·exact .inr (List.mem_append.2 (.inl h1))
    obtain rfl:=List.mem_singleton.1 h1;exact .inl ((qV _).2 (.inr (by omega)))
  refine⟨by simpa using h.len,fun x hx=>?_,fun x hx=>?_,fun j hj hl=>move j (h.roots j hj hl),fun x hx y hy hl=>?_⟩
  ·rcases(qV x).1 hx with h1 |rfl
   ·exact h.sound x h1
   exact⟨j0,Fl,Th⟩
  ·rcases List.mem_append.1 hx with h1 |h1
   ·exact h.todo x (List.mem_append.2 (.inl h1))
   exact⟨(jP hr h1).1,(jP hr h1).2,fun hl=>⟨j0,Fl,Th.trans (.step (by omega) h1 (.refl hl))⟩⟩
  rcases(qV x).1 hx with h1 |rfl
  ·exact move y (h.closed x h1 y hy hl)
  exact .inr (List.mem_append.2 (.inr hy))
include hr in
theorem Kg.done(h:Kg l i [] bs):MX l i bs:=by
  refine⟨h.len,fun k=>⟨h.sound k,?_⟩⟩;rintro⟨j,hj,hR⟩;have h0:=jP hr hj
  have key:∀ a b,lX l a b->0<=a->bs[a.toNat]? =some true->0<=b/\bs[b.toNat]? =some true:=by
    intro a b hab;induction hab with
    |refl _=>intro h1 h2;exact⟨h1,h2⟩
    | @step a j' k' ha jR Cc ih=>
      intro h1 h2;have:=h.closed a.toNat h2 j' (by rw[show((a.toNat:Nat):Int)=a by omega];exact jR) Cc.lt;exact ih (jP hr jR).1 (this.elim id (fun e=>by cases e))
  have h1:=(h.roots j hj hR.lt).elim id (fun e=>by cases e);have h2:=(key j k hR h0.1 h1).2;simpa using h2
end
def MR(W:World)(q ll:Nat):Nat:=((List.range ll).filter (fun k:Nat=>match W.cell? ⟨q,k,none⟩with |some (.bool b)=>!b |_=>false)).length
theorem Ih{W:World}{q:Nat}{bs:List Bool}(h:∀ k(hk:k<bs.length),W.cell? ⟨q,k,none⟩=some (.bool bs[k])):MR W q bs.length=bs.countP (fun b=>!b):=by
  unfold MR;rw[<-List.countP_eq_length_filter]
  have e:∀(n:Nat),n<=bs.length->(List.range n).countP (fun k:Nat=>match W.cell? ⟨q,k,none⟩with |some (.bool b)=>!b |_=>false)=(bs.take n).countP (fun b=>!b):=by
    intro n;induction n with
    |zero=>intro _;rfl
    |succ n ih=>
     intro hn;rw[List.range_succ,List.countP_append,ih (by omega),List.take_succ_eq_append_getElem (by omega),List.countP_append];congr 1;simp only[List.countP_singleton];rw[h n (by omega)]
  rw[e bs.length (Nat.le_refl _),List.take_length]
theorem countP_set{bs:List Bool}{k:Nat}(hk:k<bs.length)(h:bs[k]=false):(bs.set k true).countP (fun b=>!b)+1=bs.countP (fun b=>!b):=by
  induction bs generalizing k with
  |nil=>simp at hk
  |cons b bs ih=>
   cases k with
   |zero=>simp only[List.getElem_cons_zero]at h;subst h;simp
   |succ k=>
    simp only[List.getElem_cons_succ]at h;have:=ih (by simpa using hk) h;simp only[List.set_cons_succ,List.countP_cons];omega
end
section
open Go.RowKit Go.LF
theorem dv.front{base:Nat}{W:World}{g n cap:Nat}{L:List Int}{x:Int}(h:dv base W (.slice (some ⟨g,0,none⟩) (n+1) cap) (L++[x]))(hn:n=L.length):dv base W (.slice (some ⟨g,0,none⟩) n cap) L:=by
  subst hn;obtain⟨h1,h2⟩:=h;rcases h2 with⟨e,_⟩|⟨g',aS,cur,e1,hb,hg,kz,hm,hs,ht⟩
  ·simp at e
  simp only[Value.slice.injEq,Option.some.injEq,Addr.mk.injEq,and_true]at e1;obtain⟨rfl,_,rfl⟩:=e1;refine⟨by simp,.inr ⟨g,cap,cur,rfl,hb,hg,by simp at kz;omega,hm,hs,?_⟩⟩;have:=congrArg (List.take L.length) ht;rw[List.take_take]at this;simp only[List.length_append,List.length_singleton,Nat.mul_one,List.map_append,List.map_cons,List.map_nil]at this ⊢;rw[Nat.min_eq_left (by omega)]at this;rw[this,List.take_append_of_le_length (by simp),List.take_of_length_le (by simp)]
theorem dv.own{base:Nat}{W:World}{v:Value}{L:List Int}(h:dv base W v L)(hL:0<L.length):∃ g cap,v=.slice (some ⟨g,0,none⟩) L.length cap/\L.length<=cap/\base<=g/\g<W.heap.size/\∀ j(hj:j<L.length),W.cell? ⟨g,j,none⟩=some (.int .i64 L[j]):=by
  obtain⟨a,cap,rfl,hc,hE⟩:=cO h.rep;rcases h.2 with⟨e,h0⟩|⟨g,aS,cur,e1,hb,hg,rest⟩
  ·omega
  simp only[Value.slice.injEq]at e1;obtain⟨rfl,_,rfl⟩:=e1;refine⟨g,cap,rfl,hc,hb,(Array.getElem?_eq_some_iff.1 hg).1,fun j hj=>?_⟩;obtain⟨b,o,e,_,_,h5⟩:=eX hE j hj;cases e
  simpa using h5
theorem dv.ag{S:Nat->Prop}{base:Nat}{W W':World}{v:Value}{L:List Int}(h:dv base W v L)(hU:af S W W')(hS:∀ b,S b->b<base):dv base W' v L:=by
  obtain⟨h1,h2⟩:=h;refine⟨h1,h2.imp id ?_⟩;rintro⟨g,cap,cur,rfl,hb,hg,rest⟩;exact⟨g,cap,cur,rfl,hb,(hU.block g (Array.getElem?_eq_some_iff.1 hg).1 (fun e=>by have:=hS g e;omega)).trans hg,rest⟩
def Dj:Value->Nat
  | .slice _ n _=>n
  |_=>0
theorem dv.Dj{base:Nat}{W:World}{v:Value}{L:List Int}(h:dv base W v L):Go.Proofs.YthgmimncdjhgnaaGreatDoor.Dj v=L.length:=by
  obtain⟨a,c,rfl,_⟩:=cO h.rep;rfl
theorem CD(l:List Mv)(hl:StR l)(i:Nat)(hi:i<l.length)(w:World)(la:Option Addr)(lc:Nat)(hL:ai ae w 6 (l.map Mv.az) la 0):
    Calls Tryz.prog 113 #[.slice la l.length lc,.int .i64 (i:Int)] w fun e w'=>∃ q bs,e=.returned (.slice (some ⟨q,0,none⟩) l.length l.length)/\ew w' q bs/\MX l (i:Int) bs/\af ae w w':=by
  have Dw:=hl.ok.len;have aeq:=hl.few;have Wy:((List.replicate l.length false).map Value.bool).toArray=Array.replicate l.length (Value.bool false):=by simp
  have zW:=rR l.length (by omega) w;rw[Wy]at zW;obtain⟨w1,aF⟩:∃ w1,w1=w.alloc (.cells (Array.replicate l.length (Value.bool false)) 4):=⟨_,rfl⟩;have aH:af ae w w1:=by rw[aF];exact(af.refl ae w).alloc _
  have QU:ew w1 w.heap.size (List.replicate l.length false):=by rw[aF,<-Wy];exact heap_alloc_new w _
  clear Wy;have kA:=hL.on aH;have hLQ:ai (fun b=>b=w.heap.size) w1 6 (l.map Mv.az) la 0:=(ai.weaken (fun b _ e=>.inr (by omega)) _ _ _ _ (ai.aG _ _ _ _ hL)).on aH;have DI:=fun(j:Nat)(hj:j<l.length)(W:World)(cs:List Value)(h:aw ae W l[j].az cs)=>FK l[j] (hl.ok.mv _ (List.getElem_mem hj)).1 (hl.val _ (List.getElem_mem hj)) (hl.ok.mv _ (List.getElem_mem hj)).2.2 W cs h
  obtain⟨b,o,k,n,ix,aa,cap,va,vc,rfl,hb,_,⟨c0,c1,c2,c3,c4,c5⟩,lV,fp,hV⟩:=ja kA i hi;have tB:aw ae w1 l[i].az [.string (B l[i].name),.int .i64 k,.string (B n),.int .i64 ix,.slice aa l[i].type.args.length cap,.slice va l[i].value.length vc]:=jF.2 ⟨_,va,vc,rfl,lV,fp,hV⟩;have DI1:=DI i hi w1 _ tB;have hsi:cy l (i:Int)=ke l[i]:=by unfold cy;rw[if_pos (by omega),List.getElem?_eq_getElem (by simpa using hi)];rfl
  have ahX:=hl.nx _ (List.getElem_mem hi);rw[<-hsi]at DI1 ahX;generalize l[i].type.args.length=al at *
  generalize l[i].value.length=vl at *
  generalize l[i].name=lnm at *
  have kK:=Kg.start hl.Td (i:=(i:Int)) l.length rfl;obtain⟨ll,du⟩:∃ ll,ll=l.length:=⟨_,rfl⟩;rw[<-du]at zW aF QU kK Dw aeq;rw[<-du];have N4:(i:Int)<(ll:Int):=by omega
  have fS:(0:Int)<=(i:Int):=by omega
  have abQ:(ll:Int)<=2048:=by omega
  obtain⟨Q,hQ⟩:∃ Q,Q=w.heap.size:=⟨_,rfl⟩;rw[<-hQ]at QU zW hLQ;have HW:=ak aF;have HL:=ak du;have HQ:=ak hQ;obtain⟨H1,Sj⟩:∃ H1,H1=w1.heap.size:=⟨_,rfl⟩;rw[<-Sj]at DI1;have RW:=ak Sj;have jZ:=ak kK;have hQ1:Q<H1:=by rw[Sj];exact QU.lt
  clear aF du hQ hL lV hV fp tB hsi Sj kK;go_enter Tryz.func113,Tryz.ntmps113;go_upto_region 2 with fail;rw[<-HW.out];clear zW;go_wp2_with fail
  (with_reducible refine DI1.mono ?_);rintro e w2 ⟨v,rfl,hI,aL⟩;have hq2:=QU.kept aL;clear c0 c1 c2 c3 c4 c5 DI1;go_wp2_with fail
  go_loopw [6] (fun v6 wr=>∃(td:List Int)(bs:List Bool),dv H1 wr v6 td/\ew wr Q bs/\Kg l (i:Int) td bs/\td.length+bs.countP (fun b=>!b) * 300000<=300000+ll * 300000/\af (fun b=>b=Q) w1 wr)
    (fun v6 wr=>MR wr Q ll * 600000+Dj v6)
  case atStart=>
    refine⟨cy l (i:Int),List.replicate ll false,hI,hq2,jZ.out,?_,aL.mono (fun _ _ e=>e.elim)⟩;have:=List.countP_le_length (p:=fun b=>!b) (l:=List.replicate ll false);simp only[List.length_replicate]at this;omega
  obtain⟨td,bs,KE,Oq,hR,Ur,iB⟩:=hrel;have Tw:bs.length=ll:=by rw[hR.len,HL.out]
  have pf:MR wr Q ll=bs.countP (fun b=>!b):=by rw[<-Tw];exact Ih (fun k hk=>Oq.cell k hk)
  have Kx:=KE.Dj;have xH:=List.countP_le_length (p:=fun b=>!b) (l:=bs);rcases List.eq_nil_or_concat td with rfl |⟨X0,k,rfl⟩
  ·obtain⟨ta,tc,rfl,_,_⟩:=cO KE.rep;have HF:=ak (And.intro Oq (And.intro (hR.done hl.Td) (aH.trans iB (fun b hb e=>by have:=HQ.out;omega))));clear hR KE Oq iB pf Kx Ur;simp only[List.length_nil];go_wp2_with fail;go_ret;exact⟨Q,bs,rfl,HF.out⟩
  simp only[List.concat_eq_append]at *
  obtain⟨g,fP,rfl,EM,EF,px,iQ⟩:=KE.own (by simp);have hk:=hR.todo k (by simp);have Xx:=iQ X0.length (by simp);simp only[List.getElem_append_right (Nat.le_refl _),Nat.sub_self,List.getElem_cons_zero]at Xx;have tG:=dv.front (n:=X0.length) (by simpa using KE) rfl;simp only[List.length_append,List.length_cons,List.length_nil,Nat.zero_add]at *
  obtain⟨n',Su⟩:∃ n',n'=X0.length:=⟨_,rfl⟩;rw[<-Su]at tG Xx EM Kx Ur;rw[<-Su];have Kv:(n':Int)<=100000000:=by omega
  have Gp:(0:Int)<=(n':Int):=by omega
  obtain⟨k0,k1,k2⟩:=hk;have HN:=ak Su;have HK2:=ak k2;have HR:=ak hR;have HM:=ak (And.intro pf (And.intro Kx Ur));clear KE iQ Su k2 hR pf Kx Ur;by_cases r7:k<(ll:Int)
  ·obtain⟨p,rfl⟩:∃ p:Nat,k=(p:Int):=⟨k.toNat,by omega⟩;have jB:p<bs.length:=by omega
   have pj:=Oq.cell p jB;have Jv:=Oq.frozen p;have hql:=Oq.lt;cases Tb:bs[p]with
   |true=>
    rw[Tb]at pj;have Lb:=ak (HR.out.skip (.inr (by rw[Int.toNat_natCast,List.getElem?_eq_getElem jB,Tb])));have HB:=ak Tb;clear Tb;go_wp2_with fail;go_roundw;case rel=>exact⟨X0,bs,tG,Oq,Lb.out,by have:=HM.out.2.2;have:=HN.out;omega,iB⟩
    simp[Dj]
   |false=>
    rw[Tb]at pj;have XL:p<l.length:=by have:=HR.out.len;omega
    have hnw:=ak (HR.out.new hl.Td XL);have hcp:=countP_set jB Tb;have Uu:=List.countP_le_length (p:=fun b=>!b) (l:=bs);obtain⟨w5,gT⟩:∃ w5,w5=wr.setCell ⟨Q,p,none⟩ (.bool true):=⟨_,rfl⟩;have ah:af (fun b=>b=Q) wr w5:=by rw[gT];exact af.set (af.refl _ _) p _
    have XU:ew w5 Q (bs.set p true):=by rw[gT];exact Oq.set p true
    have ba:=iB.trans ah (fun _ _ e=>e);have aa3:=tG.ag ah (fun b e=>by omega);obtain⟨b2,o2,k2,n2,wV,uP,ahS,Ca,zw,e2,_,_,⟨c0,c1,c2,c3,c4,c5⟩,uR,wG,H6⟩:=ja (ai.ag ba (fun b e=>e) _ _ _ _ hLQ) p XL;simp only[Option.some.injEq,Addr.mk.injEq,and_true]at e2;obtain⟨rfl,rfl⟩:=e2;have DIp:=DI p XL w5 [.string (B l[p].name),.int .i64 k2,.string (B n2),.int .i64 wV,.slice uP l[p].type.args.length ahS,.slice Ca l[p].value.length zw] (jF.2 ⟨_,Ca,zw,rfl,aw.weaken (fun _ _ x=>x.elim) _ _ uR,wG,ai.weaken (fun _ _ x=>x.elim) _ _ _ _ H6⟩);have hsp:cy l (p:Int)=ke l[p]:=by unfold cy;rw[if_pos (by omega),List.getElem?_eq_getElem (by simpa using XL)];rfl
    have Ve:=hl.nx _ (List.getElem_mem XL);rw[<-hsp]at DIp Ve;generalize l[p].type.args.length=Lm at *
    generalize l[p].value.length=vl2 at *
    generalize l[p].name=PO at *
    have HS:=ak (And.intro Tb (And.intro hcp Ve));have Ip:(p:Int)<(ll:Int):=r7;have Xm:(ll:Int)<=2048:=abQ;have hz5:=ba.size;obtain⟨ns,IW⟩:∃ ns,ns=cy l (p:Int):=⟨_,rfl⟩;rw[<-IW]at DIp Ve;have HNS:=ak IW;have GK:=ak gT;have fE:X0.length<=90000000:=by have:=HM.out.2.2;have:=HN.out;omega
    clear Tb hcp ah tG uR wG H6 hsp XL IW gT;go_upto_region 8 with fail;rw[<-GK.out];clear pj Jv Oq hql Xx;go_wp2_with (first |((go_at_call 164);(with_reducible refine DIp.mono ?_);rintro e w6 ⟨vu,rfl,hIu,bj⟩;obtain⟨Vg,Ww,rfl,agn,Tz⟩:=cO hIu.rep;have QV:=aa3.ag bj (fun _ x=>x.elim);have DN:=bj.size)|(at_builtin;go_loud (refine j8 (by rfl) _ _ (by rfl) (by rfl) QV Vg ns.length Ww ns (by rfl) rfl Tz (by omega) (by have:=RW.out;omega) ?_);intro v7 w7 XX OX Lg))
    have cm:af (fun b=>b=Q) w1 w7:=(ba.trans bj (fun _ _ e=>e.elim)).trans (ck OX) (fun b hb e=>by have:=(QV.lt b e).1;have:=RW.out;omega);have hq7:ew w7 Q (bs.set p true):=(XU.kept bj).ag (ck OX) (fun e=>by have:=(QV.lt Q e).1;omega)
    have Z5:MR w7 Q ll=(bs.set p true).countP (fun b=>!b):=by
      have ah4:(bs.set p true).length=ll:=by rw[List.length_set];exact Tw
      rw[<-ah4];exact Ih (fun k hk=>hq7.cell k hk)
    have Ru:=XX.Dj;rw[HNS.out]at XX;have HZ:=ak (And.intro Z5 Ru);clear Z5 Ru c0 c1 c2 c3 c4 c5 DIp QV aa3 XU OX Lg;go_wp2_with fail;go_roundw;case rel=>exact⟨_,_,XX,hq7,hnw.out,by have h1:=HM.out.2.2;have h2:=HN.out;have h3:=HS.out.2.1;have h4:=HS.out.2.2;rw[List.length_append];omega,cm⟩
    have h1:=HM.out.1;have h3:=HZ.out.1;have h4:=HZ.out.2;have h5:=HS.out.2.1;have h6:=HS.out.2.2;have h7:=HN.out;have h8:=congrArg List.length HNS.out;rw[List.length_append]at h4;rw[h1,h3];simp[h4];simp[Dj];omega
  have Lb:=ak (HR.out.skip (.inl (by have:=HL.out;omega)));go_wp2_with fail;go_roundw;case rel=>exact⟨X0,bs,tG,Oq,Lb.out,by have:=HM.out.2.2;have:=HN.out;omega,iB⟩
  simp[Dj]
end
section
open Go.RowKit Go.LF
theorem Mc{l:List Mv}{x i:Int}(hx:x<l.length)(hi:i<l.length):lX l x i↔x=i\/∃ j∈cy l x,lX l j i:=by
  constructor
  ·intro h;cases h with
   |refl _=>exact .inl rfl
   |step _ hj hk=>exact .inr ⟨_,hj,hk⟩
  rintro(rfl |⟨j,hj,h⟩)
  ·exact .refl hx
  exact .step hx hj h
def Sw(l:List Mv)(ms:List Int)(i:Int):Prop:=∀ x∈ms,¬lX l x i
theorem Pa{l:List Mv}{ms:List Int}{i:Int}(h:Sw l ms i):lq l ms i=false:=by
  unfold lq;classical
  exact decide_eq_false (fun⟨x,hx,hr⟩=>h x hx hr)
theorem GP{l:List Mv}{ms:List Int}{i x:Int}(hx:x∈ms)(h:lX l x i):lq l ms i=true:=by
  unfold lq;classical
  exact decide_eq_true ⟨x,hx,h⟩
theorem cS.Pq{O:Nat->Prop}{base:Nat}{W:World}{g cap:Nat}{l:List Mv}{css:List (List Value)}(h:cS 96 6 O base W (.slice (some ⟨g,0,none⟩) l.length cap) (l.map Mv.az) css){i:Nat}(hi:i<l.length){m:Tm}{a:Option Addr}{ac:Nat}(hO:∀ b,O b->b<base)(ha:1<=ac)
    (hR:ai (fun b=>O b\/b=g) W 4 ([m].map Tm.az) a 0):ai O (W.setCell ⟨g,i * 6+5,none⟩ (.slice a 1 ac)) 6 ((l.set i ⟨l[i].name,l[i].type,[m]⟩).map Mv.az) (some ⟨g,0,none⟩) 0:=by
  have ne:∀ x y:Nat,x≠y->(⟨g,x,none⟩:Addr)≠⟨g,y,none⟩:=fun x y h e=>h (by cases e;rfl)
  have other:∀(V:World)(x y:Nat)(v:Value),x≠y->(V.setCell ⟨g,x,none⟩ v).cell? ⟨g,y,none⟩=V.cell? ⟨g,y,none⟩:=fun V x y v h=>World.cell?_setCell_other _ _ _ _ (ne x y h)
  have ah:af (fun b=>b=g) W (W.setCell ⟨g,i * 6+5,none⟩ (.slice a 1 ac)):=af.set (af.refl _ _) _ _;obtain⟨sa,sc,hv,_,hc⟩:=h.cells;have hlen:=h.1;rw[List.length_map]at hlen;refine bT _ _ _ (fun k hk=>?_);have Cc:k<l.length:=by simpa using hk
  obtain⟨g',ym,bq,hb,aB,_,hg⟩:=hc k (by simpa using Cc) (by omega);have hRk:=h.2.2.2 k (by simpa using Cc) (by omega);simp only[List.getElem_map]at hRk;simp only[Value.ownBlock,Option.some.injEq]at bq;obtain rfl:=bq;have hRk:aw (fun b=>O b\/b=g) W l[k].az css[k]:=aw.weaken (fun b _ e=>e.elim .inl (fun e=>.inr (by simp[Value.ownBlock,e]))) _ _ hRk;have Qq:¬O g:=fun e=>by have:=hO g e;omega
  by_cases e:k=i
  ·subst e;obtain⟨kk,n,ix,aa,ac2,va,vc,pj,h6,h7,h8⟩:=gx hRk;rw[pj]at hg;refine⟨g,0,[.string (B l[k].name),.int .i64 kk,.string (B n),.int .i64 ix,.slice aa l[k].type.args.length ac2,.slice a 1 ac],rfl,Nat.lt_of_lt_of_le aB ah.size,Qq,rfl,fun m' u hu=>?_,?_⟩
   ·rw[show 0+0+k * 6+m'=k * 6+m' by omega];match m',hu with
    |0,hu=>rw[other _ _ _ _ (by omega)];exact hg 0 u hu
    |1,hu=>rw[other _ _ _ _ (by omega)];exact hg 1 u hu
    |2,hu=>rw[other _ _ _ _ (by omega)];exact hg 2 u hu
    |3,hu=>rw[other _ _ _ _ (by omega)];exact hg 3 u hu
    |4,hu=>rw[other _ _ _ _ (by omega)];exact hg 4 u hu
    |5,hu=>cases hu;exact World.cell?_setCell_same _ _ _ (hg 5 _ rfl)
    |m'+6,hu=>simp at hu
   simp only[List.getElem_map,List.getElem_set_self];refine jF.2 ⟨[.int .i64 kk,.string (B n),.int .i64 ix,.slice aa l[k].type.args.length ac2],a,ac,rfl,aw.weaken (fun _ _ x=>.inl x) _ _ (aw.ag ah (fun b e=>.inr e) _ _ h6),by simpa using ha,ai.weaken (fun _ _ x=>.inl x) _ _ _ _ (ai.ag ah (fun b e=>.inr e) _ _ _ _ hR)⟩
  refine⟨g,0,css[k],rfl,Nat.lt_of_lt_of_le aB ah.size,Qq,h.2.1 _ (List.getElem_mem _),fun m' u hu=>?_,?_⟩
  ·rw[show 0+0+k * 6+m'=k * 6+m' by omega,other _ _ _ _ ?_]
   ·exact hg m' u hu
   have QW:=h.2.1 _ (List.getElem_mem (show k<css.length by omega));have:m'<6:=by rw[<-QW];exact(List.getElem?_eq_some_iff.1 hu).1
   omega
  simp only[List.getElem_map,List.getElem_set_ne (Ne.symm e)];exact aw.weaken (fun _ _ x=>.inl x) _ _ (aw.ag ah (fun b e=>.inr e) _ _ hRk)
theorem kq.ZR{O:Nat->Prop}{base:Nat}{W:World}{v:Value}{ms:List Mv}{css:List (List Value)}(h:kq O base W v ms css):cS 96 6 O base W v (ms.map Mv.az) css:=by
  obtain⟨h1,h2,h3,h4⟩:=h;refine⟨by simp[h1],h2,by simpa using h3,fun i hi dZ=>?_⟩;simp only[List.getElem_map];exact aw.weaken (fun b _ e=>e.elim .inl (fun e=>.inr (h3.lt b e).1)) _ _ (h4 i (by simpa using hi) dZ)
def GX(O:Nat->Prop)(L:List Mv)(e':Int)(w:World)(e:Ending)(w':World):Prop:=
  ∃(a:Option Addr)(cap:Nat),e=.returned (.tuple #[.slice a L.length cap,.int .i64 e'])/\L.length<=cap/\ai O w' 6 (L.map Mv.az) a 0/\af ae w w'
theorem yh(O:Nat->Prop)(l:List Mv)(hl:StR l)(i:Int)(m:Tm)(Pe:m.wt<=300000)(w:World)(hO:∀ b,O b->b<w.heap.size)(la:Option Addr)(lc:Nat)(Rd:l.length<=lc)(cs:List Value)(hL:ai O w 6 (l.map Mv.az) la 0)(h:aw O w m.az cs):
    Calls Tryz.prog 49 #[.slice la l.length lc,.int .i64 i,.agg cs.toArray] w (GX O (ku l i m) (pS l i m) w):=by
  obtain⟨k,nm,ix,ts,aa,cap,ht,rfl,_,_⟩:=aP h;generalize ts.length=len at *
  obtain⟨w1,aF⟩:∃ w1,w1=w.alloc (.cells #[.int .i64 k,.string (B nm),.int .i64 ix,.slice aa len cap] 29):=⟨_,rfl⟩;have aH:af ae w w1:=by rw[aF];exact(af.refl ae w).alloc _
  have gy:au w1 w.heap.size (.int .i64 k) (.string (B nm)) (.int .i64 ix) (.slice aa len cap) 29:=by rw[aF];exact au.av rfl
  have Ku:=h.on aH;have di:=aw.weaken (O':=ae) (fun _ _ x=>x.elim) _ _ Ku;have kA:=hL.on aH;have aaJ:=ai.weaken (O':=ae) (fun _ _ x=>x.elim) _ _ _ _ kA;have VA:=fun(W:World)(hu:af ae w1 W)=>vp m l.length (by omega) W _ (di.on hu)
  have MT:=fun(W:World)(hu:af ae w1 W)=>iE m (by omega) W _ (di.on hu)
  have RE:=fun(W:World)(hu:af ae w1 W)(x:Nat)(hx:x<l.length)=>CD l hl x hx W la lc (aaJ.on hu)
  have HW:=ak aF;obtain⟨H,hH⟩:∃ H,H=w.heap.size:=⟨_,rfl⟩;have HH:=ak hH;rw[<-hH]at gy;obtain⟨E,hE⟩:∃ E:Int,E=pS l i m:=⟨_,rfl⟩;obtain⟨L2,oG⟩:∃ L2,L2=ku l i m:=⟨_,rfl⟩;rw[<-hE,<-oG];unfold ku at oG;rw[<-hE]at oG;unfold pS at hE;have hvz:ik m l.length=0->∀ x∈Tm.ay m,0<=x/\x<(l.length:Int):=fun hz x hx=>⟨(jt x hx).1,(gw hz).2.2.2.2 x hx⟩
  obtain⟨vE,Yl⟩:∃ vE,vE=ik m l.length:=⟨_,rfl⟩;rw[<-Yl]at hE VA hvz;have YL:(Tm.ay m).length<=300000:=by have:=eL m;omega
  obtain⟨ms,jw⟩:∃ ms,ms=Tm.ay m:=⟨_,rfl⟩;rw[<-jw]at MT YL hE hvz;obtain⟨ll,du⟩:∃ ll,ll=l.length:=⟨_,rfl⟩;rw[<-du]at VA hE RE Rd;rw[<-du];have ED:(ll:Int)<=2048:=by have:=hl.ok.len;omega
  have Zw:vE=0->∀ x∈ms,0<=x/\x<(ll:Int):=by rw[du];exact hvz
  have HL:=ak (And.intro du (And.intro oG (And.intro hE Zw)))
  have stay:∀(z:Int)(W:World),z≠0->E=z->af ae w1 W->GX O L2 E w (.returned (.tuple #[.slice la ll lc,.int .i64 z])) W:=by
    intro z W hz GZ hu;have e:L2=l:=by rw[oG,if_pos (by rw[GZ];exact hz)]
    exact⟨la,lc,by rw[e,GZ,du],by rw[e,<-du];exact Rd,by rw[e];exact kA.on hu,aH.and hu⟩
  have HS:=ak stay;clear aaJ aF hH hE oG h ht hL Yl jw di du hvz Zw stay;obtain⟨t0,t1,t2,t3⟩:=gy.cells;go_enter Tryz.func49,Tryz.ntmps49;go_upto_region 1 with fail;rw[<-HW.out,<-HH.out];by_cases qM:0<=i/\i<(ll:Int)
  case neg=>
    have Hr:E=3:=by rw[HL.out.2.2.1,if_pos qM]
    have HF:=ak (HS.out 3 w1 (by decide) Hr (af.refl _ _));clear Hr;by_cases h0:i<0
    ·go_wp2_with fail;refine bodyPost_ret (v:=.tuple #[.slice la ll lc,.int .i64 3]) (by simp[results,Tryz.f49,go_sem]) rfl HF.out
    have h2:(ll:Int)<=i:=by omega
    go_wp2_with fail;refine bodyPost_ret (v:=.tuple #[.slice la ll lc,.int .i64 3]) (by simp[results,Tryz.f49,go_sem]) rfl HF.out
  case pos=>
    obtain⟨i0,i1⟩:=qM;obtain⟨p,rfl⟩:∃ p:Nat,i=(p:Int):=⟨i.toNat,by omega⟩;have jB:p<l.length:=by have:=HL.out.1;omega
    have Rh:p<ll:=by omega
    have hE4:E=if l[p].value≠[]then 53 else if vE≠0 then vE else if lq l ms (p:Int)=true then 51 else 0:=by
      rw[HL.out.2.2.1,if_neg (by simp only[Classical.not_not];exact⟨i0,i1⟩)];simp only[Int.toNat_natCast,List.getElem?_eq_getElem jB]
    obtain⟨b,o,k1,n1,i1',a1,bG,va1,vc1,rfl,hb,_,⟨c0,c1,c2,c3,c4,c5⟩,lV,afw,OJ⟩:=ja kA p jB;obtain⟨vl,xN⟩:∃ vl,vl=l[p].value.length:=⟨_,rfl⟩;rw[<-xN]at c5
    have sO:l[p].value≠[]↔0<vl:=by
      rw[xN];cases l[p].value<;>simp
    have XF:(0:Int)<=(p:Int):=by omega
    have hpm:(p:Int)<=2048:=by omega
    generalize l[p].type.args.length=al at *
    clear lV OJ afw xN;have VL:=ak hE4;clear hE4;by_cases h53:0<vl
    ·have L9:E=53:=by rw[VL.out,if_pos (sO.2 h53)]
     have HF:=ak (HS.out 53 w1 (by decide) L9 (af.refl _ _));have an6:(0:Int)<(vl:Int):=by omega
     clear sO L9;go_wp2_with fail;refine bodyPost_ret (v:=.tuple #[.slice (some ⟨b,o,none⟩) ll lc,.int .i64 53]) (by simp[results,Tryz.f49,go_sem]) rfl HF.out
    obtain rfl:vl=0:=by omega
    have L9:E=if vE≠0 then vE else if lq l ms (p:Int)=true then 51 else 0:=by rw[VL.out,if_neg (fun e=>by have:=sO.1 e;omega)]
    have Wl:=ak L9;have VA1:=VA w1 (af.refl _ _);clear L9 VL sO h53 VA;go_wp2_with fail
    (with_reducible refine VA1.mono ?_);rintro e w3 ⟨rfl,aZ⟩;have KF:=gy.kept aZ;have MT3:=MT w3 aZ;clear t0 t1 t2 t3 c0 c1 c2 c3 c4 c5 VA1 MT;obtain⟨t0,t1,t2,t3⟩:=KF.cells;by_cases hz:vE=0
    case neg=>
      have Kl:E=vE:=by rw[Wl.out,if_pos hz]
      have HF:=ak (HS.out vE w3 hz Kl aZ);have hz':(vE !=0)=true:=by simpa using hz
      clear hz Kl;go_wp2_with fail;refine bodyPost_ret (v:=.tuple #[.slice (some ⟨b,o,none⟩) ll lc,.int .i64 vE]) (by simp[results,Tryz.f49,go_sem]) rfl HF.out
    subst hz;have HE6:=ak (show E=if lq l ms (p:Int)=true then 51 else 0 by rw[Wl.out,if_neg (by simp)]);have HMS:=ak (HL.out.2.2.2 rfl);clear Wl;go_wp2_with fail
    (with_reducible refine MT3.mono ?_);rintro e w4 ⟨vm,rfl,hI,bw⟩;obtain⟨ma,mc,rfl,hmc,hEm⟩:=cO hI.rep;have gY:=aZ.and bw;obtain⟨ml,mR⟩:∃ ml,ml=ms.length:=⟨_,rfl⟩;rw[<-mR]at YL;rw[<-mR];have Ry:=ak mR;clear hI MT3 hmc t0 t1 t2 t3 mR KF;go_wp2_with fail;go_loopw [10] (fun v10 wr=>∃ j:Nat,v10=.int .i64 (j:Int)/\j<=ml/\Sw l (ms.take j) (p:Int)/\af ae w4 wr) (fun v10 _=>ml - (intOf v10).toNat)
    case atStart=>exact⟨0,rfl,Nat.zero_le _,fun x hx=>by simp at hx,af.refl _ _⟩
    obtain⟨j,rfl,hj,hNo,iB⟩:=hrel;have HNo:=ak hNo;clear hNo;have BW:(j:Int)<=300000:=by omega
    by_cases aB:j<ml
    ·have b7:j<ms.length:=by have:=Ry.out;omega
     obtain⟨b3,o3,rfl,Kd,_,yT⟩:=eX (hEm.on iB) j b7;obtain⟨x0,x1⟩:=HMS.out _ (List.getElem_mem b7);have lr:=List.getElem_mem b7;have eQ:ms.take (j+1)=ms.take j++[ms[j]]:=List.take_succ_eq_append_getElem b7;generalize ms[j]=x at *
     obtain⟨y,rfl⟩:∃ y:Nat,x=(y:Int):=⟨x.toNat,by omega⟩;have hyl:y<l.length:=by have:=HL.out.1;omega
     have REy:=RE wr (gY.and iB) y (by omega);have GQ:=Mc (l:=l) (x:=(y:Int)) (i:=(p:Int)) (by omega) (by omega);have HT:=ak (And.intro eQ (And.intro lr GQ));have Dp:(j:Int)<(ml:Int):=by omega
     clear eQ lr GQ b7;by_cases hyp:(y:Int)=(p:Int)
     ·have hz:E=51:=by rw[HE6.out,if_pos (GP HT.out.2.1 (HT.out.2.2.2 (.inl hyp)))]
      have HF:=ak (HS.out 51 wr (by decide) hz (gY.and iB));have afJ:((y:Int) == (p:Int))=true:=by simpa using hyp
      clear hz hyp;go_wp2_with fail;refine bodyPost_ret (v:=.tuple #[.slice (some ⟨b,o,none⟩) ll lc,.int .i64 51]) (by simp[results,Tryz.f49,go_sem]) rfl HF.out
     have afJ:((y:Int) == (p:Int))=false:=by simpa using hyp
     have HYP:=ak hyp;clear hyp;go_wp2_with (first |((go_at_call 113);(with_reducible refine REy.mono ?_);rintro e w5 ⟨q,bs,rfl,XU,hRL,ba⟩;have LH:p<bs.length:=(by have:=hRL.1;omega);have hqc:=XU.cell p LH;have HRL:=ak hRL;have rh:bs[p]? =some bs[p]:=List.getElem?_eq_getElem LH;have En:=ak rh;clear hRL rh;generalize bs[p]=bp at *;cases bp))
     ·go_roundw
      case rel=>
        refine⟨j+1,by go_num,by omega,?_,iB.and ba⟩;rw[HT.out.1];intro z hz hr;rcases List.mem_append.1 hz with hz |hz
        ·exact HNo.out z hz hr
        obtain rfl:=List.mem_singleton.1 hz;rcases HT.out.2.2.1 hr with h1 |h1
        ·exact HYP.out h1
        have:=(HRL.out.2 p).2 h1;rw[En.out]at this;cases this
      simp[intOf];omega
     have hr:lX l (y:Int) (p:Int):=HT.out.2.2.2 (.inr ((HRL.out.2 p).1 En.out));have hz:E=51:=by rw[HE6.out,if_pos (GP HT.out.2.1 hr)]
     refine bodyPost_ret (v:=.tuple #[.slice (some ⟨b,o,none⟩) ll lc,.int .i64 51]) (by simp[results,Tryz.f49,go_sem]) rfl (HS.out 51 _ (by decide) hz ((gY.and iB).and ba))
    have sA:¬(j:Int)<(ml:Int):=by omega
    have rG:ms.take j=ms:=List.take_of_length_le (by have:=Ry.out;omega);have JT:=HNo.out;rw[rG]at JT;have hz:E=0:=by rw[HE6.out,if_neg (by rw[Pa JT];simp)]
    have xP:L2=l.set p ⟨l[p].name,l[p].type,[m]⟩:=by
      rw[HL.out.2.1,if_neg (by simp[hz])];unfold qc;simp only[Int.toNat_natCast,List.getElem?_eq_getElem jB]
    have HF:=ak (And.intro hz xP);have Jk:=gY.and iB;have EB:=gy.kept Jk;obtain⟨t0,t1,t2,t3⟩:=EB.cells;have Tw:=ai.aG _ _ _ _ (kA.on Jk);have kM:=aw.aG _ _ (Ku.on Jk);clear rG JT hz xP HNo HE6;go_wp2_with (at_builtin;go_loud (refine qv (by rfl) _ _ (by rfl) (by rfl) (kq.nil O wr.heap.size _) (some ⟨b,o,none⟩) ll lc l (by rfl) HL.out.1 (vI Tw) (by have:=hl.ok.len;simp;omega) (Nat.le_refl _) ?_);intro v7 w7 WR Eg OX Lg;have cm:af ae wr w7:=(ck OX).mono (fun _ _ e=>by simp[Value.ownBlock]at e);clear t0 t1 t2 t3;obtain⟨t0,t1,t2,t3⟩:=(EB.kept cm).cells)
    simp only[List.nil_append]at Eg;have Oa:=Eg.ZR;have nc:p<WR.length:=by rw[Eg.1];exact jB
    have agd:p<(l.map Mv.az).length:=by rw[List.length_map];exact jB
    obtain⟨sa,sc,hv,fJ,hc⟩:=Oa.cells;obtain⟨g,hg0,bq,EF,Rf,sR,iQ⟩:=hc p agd nc;have eY:=Eg.2.2.2 p jB nc;obtain⟨kk,nn,ii,a9,c9,Xk,XM,pj,_,_,_⟩:=gx eY;have g5:=iQ 5 (.slice Xk l[p].value.length XM) (by rw[pj];rfl);have gf:=sR (p * 6+5);rw[List.length_map,<-HL.out.1]at hv fJ;subst hg0 hv;have Jz:=cm.size;have hrm:=kM.on cm;have HD:=ak (And.intro Oa (And.intro fJ (And.intro EF cm)));clear pj iQ sR eY hc bq Eg Oa OX Lg fJ cm
    have hia:∀ W,(Instr.indexAt 23 (.slice (some ⟨g,0,none⟩) ll sc) (.int .i64 (p:Int))).run Tryz.prog W=.ok (.pointer (some ⟨g,p * 6,none⟩)) W:=by
      intro W;rw[run_indexAt_slice (h:=by kernel_rfl),if_pos ⟨i0,i1⟩];have hs:(sizeOf (Tryz.prog.elem 23)).run Tryz.prog W=.ok 6 W:=by kernel_rfl
      have gF:(⟨g,0,none⟩:Addr).add (p * 6)=⟨g,p * 6,none⟩:=by unfold Addr.add;split<;>simp_all
      rw[hs];simp only[Result.andThen,Int.toNat_natCast,gF]
    go_wp2_with fail;rw[hia];go_simp
    go_wp2_with fail;obtain⟨w8,mT⟩:∃ w8,w8=w7.alloc (.cells #[.int .i64 k,.string (B nm),.int .i64 ix,.slice aa len cap] 29):=⟨_,rfl⟩;have cW:af ae w7 w8:=by rw[mT];exact(af.refl ae _).alloc _
    have OO:au w8 w7.heap.size (.int .i64 k) (.string (B nm)) (.int .i64 ix) (.slice aa len cap) 29:=by rw[mT];exact au.av rfl
    have O9:cS 96 6 O wr.heap.size w8 (.slice (some ⟨g,0,none⟩) ll sc) (l.map Mv.az) WR:=by
      obtain⟨z1,z2,z3,z4⟩:=HD.out.1;refine⟨z1,z2,⟨z3.1,?_⟩,fun i h h'=>(z4 i h h').on cW⟩;rcases z3.2 with h5 |⟨g',aS,cur,e,WI,hg',rest⟩
      ·exact .inl h5
      exact .inr ⟨g',aS,cur,e,WI,(cW.block g' (Array.getElem?_eq_some_iff.1 hg').1 (fun x=>x)).trans hg',rest⟩
    have hOr:∀ b,O b->b<wr.heap.size:=fun b e=>Nat.lt_of_lt_of_le (hO b e) (Nat.le_trans aH.size Jk.size)
    have fl:ai (fun b=>O b\/b=g) w8 4 ([m].map Tm.az) (some ⟨w7.heap.size,0,none⟩) 0:=by
      refine bT _ _ _ (fun j hj=>?_);obtain rfl:j=0:=by simpa using hj
      obtain⟨x0,x1,x2,x3⟩:=OO.cells;refine⟨w7.heap.size,0,[.int .i64 k,.string (B nm),.int .i64 ix,.slice aa len cap],rfl,OO.lt,fun e=>by(rcases e with e |e;(have:=hOr _ e;omega);omega),rfl,fun q u hu=>?_,by simpa using(aw.weaken (fun b _ e=>e.elim .inl (fun e=>.inr (by have:=HD.out.2.2.1;omega))) _ _ hrm).on cW⟩;match q,hu with
      |0,hu=>cases hu;exact x0
      |1,hu=>cases hu;exact x1
      |2,hu=>cases hu;exact x2
      |3,hu=>cases hu;exact x3
      |q+4,hu=>simp at hu
    rw[HL.out.1]at O9;have eJ:=O9.Pq jB hOr (Nat.le_refl 1) fl;have Lw:af ae w (w8.setCell ⟨g,p * 6+5,none⟩ (.slice (some ⟨w7.heap.size,0,none⟩) 1 1)):=(aH.and (Jk.and (HD.out.2.2.2.and cW))).trans (S':=fun b=>b=g) (af.set (af.refl _ _) _ _) (fun b hb e=>by have:=HD.out.2.2.1;have:=Jk.size;have:=aH.size;omega);rw[mT,World.setCell_alloc_past _ _ _ _ Rf]at eJ Lw;refine bodyPost_ret (v:=.tuple #[.slice (some ⟨g,0,none⟩) ll sc,.int .i64 0]) (by simp[results,Tryz.f49,go_sem]) rfl ⟨some ⟨g,0,none⟩,sc,by rw[HF.out.1,HF.out.2,List.length_set,HL.out.1],by rw[HF.out.2,List.length_set,<-HL.out.1];exact HD.out.2.1,by rw[HF.out.2];exact eJ,Lw⟩
end
end Go.Proofs.YthgmimncdjhgnaaGreatDoor
