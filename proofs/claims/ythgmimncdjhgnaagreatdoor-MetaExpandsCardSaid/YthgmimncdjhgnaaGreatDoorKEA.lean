/- Hereditary substitution as plain data. -/
import Derived.Test.YthgmimncdjhgnaaGreatDoorKCA
import Derived.Test.YthgmimncdjhgnaaGreatDoorKCF
import Derived.Test.YthgmimncdjhgnaaGreatDoorKCH
import Derived.Test.YthgmimncdjhgnaaGreatDoorKCK
import Derived.Test.YthgmimncdjhgnaaGreatDoorKCM
import Derived.WalkLawsBesides
set_option maxRecDepth 100000
set_option maxHeartbeats 4000000
namespace Go.LF.Tm
section
abbrev zT:Tm:=.mk 0 [] 0 []
structure xU where
  e:Int
  t:Tm
  w:Nat
def ZU(t:Tm)(w:Nat):xU:=if t.small=true then⟨0,t,w⟩else⟨2,zT,w⟩
structure zKc where
  e:Int
  ts:List Tm
  w:Nat
def yy(f:Int->Tm->Nat->xU)(d k:Int)(j:Nat):List Tm->Nat->zKc
  | [],w=>⟨0,[],w⟩
  |t :: ts,w=>
   if(f (d+under k j) t w).e=0 then
     (if(yy f d k (j+1) ts (f (d+under k j) t w).w).e=0 then⟨0,(f (d+under k j) t w).t :: (yy f d k (j+1) ts (f (d+under k j) t w).w).ts,(yy f d k (j+1) ts (f (d+under k j) t w).w).w⟩
       else⟨(yy f d k (j+1) ts (f (d+under k j) t w).w).e,[],(yy f d k (j+1) ts (f (d+under k j) t w).w).w⟩)
   else⟨(f (d+under k j) t w).e,[],(f (d+under k j) t w).w⟩
def Z8(f:Tm->Sm->Tm->Nat->xU):Tm->List Sm->List Tm->Nat->xU
  |m,_,[],w=>if m.kind=3 then⟨6,zT,w⟩else ZU m w
  |_,[],_ :: _,w=>⟨6,zT,w⟩
  |m,s :: ss,u :: us,w=>
   if m.kind=3 then(if(f u s (m.args.headD zT) w).e=0 then Z8 f (f u s (m.args.headD zT) w).t ss us (f u s (m.args.headD zT) w).w else f u s (m.args.headD zT) w)
   else⟨6,zT,w⟩
def ap(f:Tm->Sm->Tm->Nat->xU)(m:Tm)(ss:List Sm)(us:List Tm)(w:Nat):xU:=if us.length=ss.length then Z8 f m ss us w else⟨6,zT,w⟩
def sbN(f:Tm->Sm->Tm->Nat->xU)(ms:List Tm)(ss:List Sm)(d k:Int)(nm:List UInt8)(i:Int)(us:List Tm)(w:Nat):xU:=
  if k=5/\d<=i then
    if i - d<ms.length then
      (if 1048576<xK ((ms.getD (i - d).toNat zT).mv (ZY d 0) 0)then⟨5,zT,w⟩
        else ap f ((ms.getD (i - d).toNat zT).mv (ZY d 0) 0) (ss.getD (i - d).toNat (.mk [] [])).args us w)
    else ZU (mk k nm (i - ms.length) us) w
  else ZU (mk k nm i us) w
def sb:Nat->List Tm->List Sm->Int->Tm->Nat->xU
  |0,_,_,_,_,w=>⟨2,zT,w+1⟩
  |n+1,ms,ss,d,t,w=>
   if 262144<w+1 then⟨2,zT,w+1⟩else
   if(yy (fun d' t' w'=>sb n ms ss d' t' w') d t.kind 0 t.args (w+1)).e=0 then
     sbN (fun u s b w'=>sb n [u] [s] 0 b w') ms ss d t.kind t.name t.index (yy (fun d' t' w'=>sb n ms ss d' t' w') d t.kind 0 t.args (w+1)).ts (yy (fun d' t' w'=>sb n ms ss d' t' w') d t.kind 0 t.args (w+1)).w
   else⟨(yy (fun d' t' w'=>sb n ms ss d' t' w') d t.kind 0 t.args (w+1)).e,zT,(yy (fun d' t' w'=>sb n ms ss d' t' w') d t.kind 0 t.args (w+1)).w⟩
theorem zI6(f:Int->Tm->Nat->xU)(d k:Int)(l:List Tm):∀(j w:Nat),(yy f d k j l w).e≠0->(yy f d k j l w).ts=[]:=by
  cases l with
  |nil=>intro j w h;exact absurd rfl h
  |cons t ts=>
   intro j w h
   rw[yy]at h ⊢
   split
   ·split
    ·rename_i h1 h2
     rw[if_pos h1,if_pos h2]at h
     exact absurd rfl h
    ·rfl
   ·rfl
theorem zAU(f:Int->Tm->Nat->xU)(d k:Int)(l m:List Tm):∀(j w:Nat),yy f d k j (l++m) w=
    if(yy f d k j l w).e=0 then
      (if(yy f d k (j+l.length) m (yy f d k j l w).w).e=0 then⟨0,(yy f d k j l w).ts++(yy f d k (j+l.length) m (yy f d k j l w).w).ts,(yy f d k (j+l.length) m (yy f d k j l w).w).w⟩
        else⟨(yy f d k (j+l.length) m (yy f d k j l w).w).e,[],(yy f d k (j+l.length) m (yy f d k j l w).w).w⟩)
    else yy f d k j l w:=by
  induction l with
  |nil=>
   intro j w
   show yy f d k j m w=if(0:Int)=0 then(if(yy f d k (j+0) m w).e=0 then⟨0,[]++(yy f d k (j+0) m w).ts,(yy f d k (j+0) m w).w⟩else⟨(yy f d k (j+0) m w).e,[],(yy f d k (j+0) m w).w⟩)else⟨0,[],w⟩
   have he:=zI6 f d k m j w
   rw[if_pos rfl,Nat.add_zero]
   generalize yy f d k j m w=r at *
   obtain⟨re,rt,rw'⟩:=r
   by_cases h:re=0
   ·subst h;rfl
   ·have:=he h
    simp only at this
    subst this
    rw[if_neg h]
  |cons t ts ih=>
   intro j w
   rw[List.cons_append,yy,yy,ih,List.length_cons,show j+(ts.length+1)=j+1+ts.length by omega]
   generalize f (d+under k j) t w=r
   by_cases h1:r.e=0
   ·rw[if_pos h1,if_pos h1]
    by_cases h2:(yy f d k (j+1) ts r.w).e=0
    ·rw[if_pos h2,if_pos h2,if_pos rfl]
     by_cases h3:(yy f d k (j+1+ts.length) m (yy f d k (j+1) ts r.w).w).e=0
     ·rw[if_pos h3,if_pos h3,if_pos rfl];rfl
     ·rw[if_neg h3,if_neg h3,if_neg h3]
    ·rw[if_neg h2,if_neg h2,if_neg h2]
   ·rw[if_neg h1,if_neg h1,if_neg h1]
theorem Z6(f:Int->Tm->Nat->xU)(d k:Int)(l:List Tm)(w j:Nat)(h:j<l.length)(h0:(yy f d k 0 (l.take j) w).e=0):yy f d k 0 (l.take (j+1)) w=
    if(f (d+under k j) l[j] (yy f d k 0 (l.take j) w).w).e=0 then⟨0,(yy f d k 0 (l.take j) w).ts++[(f (d+under k j) l[j] (yy f d k 0 (l.take j) w).w).t],(f (d+under k j) l[j] (yy f d k 0 (l.take j) w).w).w⟩
    else⟨(f (d+under k j) l[j] (yy f d k 0 (l.take j) w).w).e,[],(f (d+under k j) l[j] (yy f d k 0 (l.take j) w).w).w⟩:=by
  rw[List.take_succ_eq_append_getElem h,zAU,if_pos h0,List.length_take,Nat.min_eq_left (Nat.le_of_lt h),Nat.zero_add,yy,yy]
  split<;>simp_all
theorem zAs(f:Int->Tm->Nat->xU)(d k:Int)(l:List Tm)(w j:Nat)(h0:(yy f d k 0 (l.take j) w).e≠0):yy f d k 0 l w=yy f d k 0 (l.take j) w:=by
  conv=>lhs;rw[<-List.take_append_drop j l]
  rw[zAU,if_neg h0]
theorem Ya(f:Int->Tm->Nat->xU)(d k:Int)(l:List Tm):∀(j w:Nat),(yy f d k j l w).e=0->(yy f d k j l w).ts.length=l.length:=by
  induction l with
  |nil=>intro j w _;rfl
  |cons t ts ih=>
   intro j w h
   rw[yy]at h ⊢
   split at h
   ·rename_i h1
    rw[if_pos h1]
    split at h
    ·rename_i h2
     rw[if_pos h2]
     simp[ih _ _ h2]
    ·rename_i h2;exact absurd h h2
   ·rename_i h1;exact absurd h h1
theorem zBI(f:Int->Tm->Nat->xU)(hf:∀ d t w,w<=(f d t w).w)(d k:Int)(l:List Tm):∀(j w:Nat),w<=(yy f d k j l w).w:=by
  induction l with
  |nil=>intro j w;exact Nat.le_refl _
  |cons t ts ih=>
   intro j w
   have h1:=hf (d+under k j) t w
   have h2:=ih (j+1) (f (d+under k j) t w).w
   rw[yy]
   split
   ·split<;>exact Nat.le_trans h1 h2
   ·exact h1
theorem Xv(t:Tm)(w:Nat):(ZU t w).w=w:=by unfold ZU;split<;>rfl
theorem zJv(f:Tm->Sm->Tm->Nat->xU)(hf:∀ u s b w,w<=(f u s b w).w)(us:List Tm):∀(m:Tm)(ss:List Sm)(w:Nat),w<=(Z8 f m ss us w).w:=by
  induction us with
  |nil=>intro m ss w;unfold Z8;split<;>simp[Xv]
  |cons u us ih=>
   intro m ss w
   cases ss with
   |nil=>unfold Z8;exact Nat.le_refl _
   |cons s ss=>
    rw[Z8]
    have h1:=hf u s (m.args.headD zT) w
    split
    ·split
     ·exact Nat.le_trans h1 (ih _ _ _)
     ·exact h1
    ·exact Nat.le_refl _
theorem zJp(f:Tm->Sm->Tm->Nat->xU)(hf:∀ u s b w,w<=(f u s b w).w)(ms:List Tm)(ss:List Sm)(d k:Int)(nm:List UInt8)(i:Int)(us:List Tm)(w:Nat):w<=(sbN f ms ss d k nm i us w).w:=by
  unfold sbN
  split
  ·split
   ·split
    ·exact Nat.le_refl _
    ·unfold ap;split
     ·exact zJv f hf _ _ _ _
     ·exact Nat.le_refl _
   ·rw[Xv];exact Nat.le_refl _
  ·rw[Xv];exact Nat.le_refl _
theorem zB4(n:Nat):∀ ms ss d t w,w<(sb n ms ss d t w).w:=by
  induction n with
  |zero=>intro ms ss d t w;exact Nat.lt_succ_self _
  |succ n ih=>
   intro ms ss d t w
   have h1:=zBI (fun d' t' w'=>sb n ms ss d' t' w') (fun d t w=>Nat.le_of_lt (ih _ _ _ _ _)) d t.kind t.args 0 (w+1)
   rw[sb]
   split
   ·exact Nat.lt_succ_self _
   ·split
    ·exact Nat.lt_of_lt_of_le (Nat.lt_of_succ_le h1) (zJp _ (fun u s b w=>Nat.le_of_lt (ih _ _ _ _ _)) _ _ _ _ _ _ _ _)
    ·exact Nat.lt_of_succ_le h1
def Good(r:xU):Prop:=(r.e=0/\r.t.isObj=true/\r.t.small=true)\/(r.e≠0/\r.t=zT)
theorem zBN(t:Tm)(w:Nat)(h:t.isObj=true):Good (ZU t w):=by
  unfold ZU
  split
  ·rename_i h1;exact .inl ⟨rfl,h,h1⟩
  ·exact .inr ⟨by simp,rfl⟩
theorem Xj{m:Tm}(h:m.isObj=true)(hk:m.kind=3):(m.args.headD zT).isObj=true/\m.args=[m.args.headD zT]:=by
  cases m with
  |mk k n i l=>
   obtain⟨h1,h2⟩:=YI h
   obtain⟨u,rfl⟩:=List.length_eq_one_iff.1 (h2 hk)
   exact⟨h1 u (by simp),rfl⟩
theorem zBQ{m:Tm}(h:m.isObj=true)(hk:m.kind=3)(hs:m.small=true):(m.args.headD zT).depth<=128:=by
  have h1:=(Xj h hk).2
  cases m with
  |mk k n i l=>
   simp only[ZR]at h1 ⊢
   unfold small at hs
   rw[h1]at hs
   simp only[yY,zV,Bool.and_eq_true,decide_eq_true_eq]at hs
   omega
theorem zHt(f:Tm->Sm->Tm->Nat->xU)(hf:∀ u s b w,u.isObj=true->u.small=true->b.isObj=true->b.depth<=128->Good (f u s b w))(us:List Tm):∀(m:Tm)(ss:List Sm)(w:Nat),
    (∀ u∈us,u.isObj=true/\u.small=true)->m.isObj=true->m.small=true->Good (Z8 f m ss us w):=by
  induction us with
  |nil=>
   intro m ss w _ hm _
   unfold Z8
   split
   ·exact .inr ⟨by simp,rfl⟩
   ·exact zBN _ _ hm
  |cons u us ih=>
   intro m ss w hu hm hs
   cases ss with
   |nil=>unfold Z8;exact .inr ⟨by simp,rfl⟩
   |cons s ss=>
    rw[Z8]
    split
    ·rename_i hk
     have hg:=hf u s (m.args.headD zT) w (hu u (by simp)).1 (hu u (by simp)).2 (Xj hm hk).1 (zBQ hm hk hs)
     split
     ·rename_i he
      rcases hg with⟨_,g1,g2⟩|⟨g1,_⟩
      ·exact ih _ _ _ (fun u h=>hu u (by simp[h])) g1 g2
      ·exact absurd he g1
     ·exact hg
    ·exact .inr ⟨by simp,rfl⟩
theorem zCS(f:Tm->Sm->Tm->Nat->xU)(hf:∀ u s b w,u.isObj=true->u.small=true->b.isObj=true->b.depth<=128->Good (f u s b w))(us:List Tm)(m:Tm)(ss:List Sm)(w:Nat)
    (hu:∀ u∈us,u.isObj=true/\u.small=true) (hm:m.isObj=true) (hs:m.small=true):Good (ap f m ss us w):=by
  unfold ap
  split
  ·exact zHt f hf us m ss w hu hm hs
  ·exact .inr ⟨by simp,rfl⟩
theorem ZT{t:Tm}(h:t.isObj=true)(hs:t.small=true):t.wf=0:=by unfold wf;rw[h,hs];rfl
theorem zEM{m:Tm}(h:m.isObj=true)(hs:m.small=true)(d:Int)(h0:0<=d)(h1:d<=1048576)(hg:¬1048576<xK (mv (ZY d 0) 0 m)):(mv (ZY d 0) 0 m).isObj=true:=by
  obtain⟨e1,e2⟩:=QF m (ZT h hs) d 0 h0 h1 (by omega) (by omega)
  rw[e1]
  exact zET _ _ h 0 (by omega) (e2.1 (by omega))
theorem zBD(f:To)(d:Int)(m:Tm):(mv f d m).small=m.small:=by unfold small;rw[Q9,zBA]
theorem zG7(f:Tm->Sm->Tm->Nat->xU)(hf:∀ u s b w,u.isObj=true->u.small=true->b.isObj=true->b.depth<=128->Good (f u s b w))(ms:List Tm)(ss:List Sm)(d k:Int)(nm:List UInt8)(i:Int)(l us:List Tm)(w:Nat)
    (hms:∀ u∈ms,u.isObj=true/\u.small=true) (h0:0<=d) (h1:d<=1048576) (ho:(mk k nm i l).isObj=true) (hl:us.length=l.length) (hu:∀ u∈us,u.isObj=true/\u.small=true):Good (sbN f ms ss d k nm i us w):=by
  have hal:zY us=true:=by rw[yE,List.all_eq_true];exact fun u h=>(hu u h).1
  have hnode:∀ i',(k=5->0<=i'/\i'<=1048576)->(k≠5->i'=i)->(mk k nm i' us).isObj=true:=by
    intro i' h5 hn
    rw[isObj]at ho ⊢
    by_cases k3:k=3
    ·rw[if_pos k3]at ho ⊢
     rw[hn (by omega)]
     simp only[bound,Bool.and_eq_true,beq_iff_eq]at ho ⊢
     exact⟨⟨⟨ho.1.1.1,by rw[hl];exact ho.1.1.2⟩,ho.1.2⟩,hal⟩
    rw[if_neg k3]at ho ⊢
    by_cases k4:k=4
    ·rw[if_pos k4]at ho ⊢
     rw[hn (by omega)]
     simp only[Bool.and_eq_true]at ho ⊢
     exact⟨ho.1,hal⟩
    rw[if_neg k4]at ho ⊢
    by_cases k5:k=5
    ·rw[if_pos k5]at ho ⊢
     have:=h5 k5
     simp only[Bool.and_eq_true,decide_eq_true_eq]at ho ⊢
     exact⟨⟨⟨ho.1.1.1,this.1⟩,this.2⟩,hal⟩
    rw[if_neg k5]at ho ⊢
    by_cases k6:k=6
    ·rw[if_pos k6]at ho ⊢
     rw[hn k5]
     simp only[Bool.and_eq_true]at ho ⊢
     exact⟨ho.1,hal⟩
    ·rw[if_neg k6]at ho
     cases ho
  have hidx:k=5->0<=i/\i<=1048576:=by
    intro k5
    subst k5
    rw[isObj]at ho
    simp at ho
    omega
  unfold sbN
  split
  ·rename_i hk
   split
   ·rename_i hlt
    split
    ·exact .inr ⟨by simp,rfl⟩
    ·rename_i hg
     have hmem:ms.getD (i - d).toNat zT∈ms:=by
       have hlt':(i - d).toNat<ms.length:=by omega
       rw[List.getD,List.getElem?_eq_getElem hlt']
       exact List.getElem_mem _
     exact zCS f hf us _ _ _ hu (zEM (hms _ hmem).1 (hms _ hmem).2 d h0 h1 hg) (by rw[zBD];exact(hms _ hmem).2)
   ·have:=hidx hk.1
    exact zBN _ _ (hnode _ (fun _=>by omega) (fun h=>absurd hk.1 h))
  ·exact zBN _ _ (hnode _ hidx (fun _=>rfl))
theorem zA7(f:Int->Tm->Nat->xU)(d k:Int)(h0:0<=d)(D:Int)(l:List Tm)(hf:∀ d' t w,0<=d'->d'<=D+1->t∈l->Good (f d' t w))(hd:d<=D):∀(j w:Nat),∀ u∈(yy f d k j l w).ts,u.isObj=true/\u.small=true:=by
  induction l with
  |nil=>intro j w u hu;simp[yy]at hu
  |cons t ts ih=>
   intro j w u hu
   have hud:under k j=0\/under k j=1:=by unfold under;split<;>simp
   have hg:=hf (d+under k j) t w (by omega) (by omega) (by simp)
   rw[yy]at hu
   split at hu
   ·rename_i h1
    split at hu
    ·rcases List.mem_cons.1 hu with rfl |hu
     ·rcases hg with⟨_,h2⟩|⟨h2,_⟩
      ·exact h2
      ·exact absurd h1 h2
     ·exact ih (fun d' t w a b c=>hf d' t w a b (by simp[c])) _ _ u hu
    ·simp at hu
   ·simp at hu
theorem Xd(n:Nat):∀ ms ss d t w,(∀ u∈ms,u.isObj=true/\u.small=true)->0<=d->d+(t.depth:Int)<=1048576->t.isObj=true->Good (sb n ms ss d t w):=by
  induction n with
  |zero=>intro ms ss d t w _ _ _ _;exact .inr ⟨by rw[sb];simp,rfl⟩
  |succ n ih=>
   intro ms ss d t w hms h0 h1 ho
   rw[sb]
   split
   ·exact .inr ⟨by simp,rfl⟩
   ·split
    ·rename_i hA
     cases t with
     |mk k nm i l=>
      simp only[zAC,zCE,zA2,ZR,yY]at *
      obtain⟨g1,g2⟩:=YI ho
      refine zG7 _ ?_ ms ss d k nm i l _ _ hms h0 (by omega) ho (Ya _ _ _ _ _ _ hA) ?_
      ·intro u s b w hu hu' hb hd
       exact ih [u] [s] 0 b w (fun x hx=>by obtain rfl:x=u:=by simpa using hx
                                            exact⟨hu,hu'⟩) (by omega) (by omega) hb
      ·refine zA7 _ d k h0 d l (fun d' t w a b c=>?_) (Int.le_refl _) 0 (w+1)
       have:=yA c
       exact ih ms ss d' t w hms a (by omega) (g1 t c)
    ·rename_i hA
     exact .inr ⟨hA,rfl⟩
end
section
mutual
def vok:Tm->Prop
  |mk k _ _ l=>(k=5->zY l=true)/\zGC l
def zGC:List Tm->Prop
  | []=>True
  |t :: ts=>vok t/\zGC ts
end
theorem zCT(k n i l):vok (mk k n i l)↔(k=5->zY l=true)/\zGC l:=by rw[vok]
theorem zDo(l:List Tm):zGC l↔∀ t∈l,vok t:=by
  induction l with
  |nil=>simp[zGC]
  |cons t ts ih=>simp[zGC,ih]
theorem YT{l:List Tm}(h:zY l=true):∀ t∈l,t.isObj=true:=by rw[yE,List.all_eq_true]at h;exact h
theorem zFT{k i:Int}{n:List UInt8}{l:List Tm}(h:(mk k n i l).isObj=true):zY l=true:=by
  rw[isObj]at h
  split at h<;>(try split at h)<;>(try split at h)<;>(try split at h)<;>simp_all
theorem zIQ(t:Tm):t.isObj=true->t.vok:=by
  induction t using ind with
  |h k n i l ih=>
   intro h
   have hA:=zFT h
   exact(zCT _ _ _ _).2 ⟨fun _=>hA,(zDo l).2 fun t ht=>ih t ht (YT hA t ht)⟩
theorem zJ2(c:Nat)(l:List Tm)(h:∀ t∈l,t.wt<=c * t.size):xJ l<=c * zP l:=by
  induction l with
  |nil=>simp[xJ]
  |cons t ts ih=>
   have h1:=h t (by simp)
   have h2:=ih (fun u hu=>h u (by simp[hu]))
   simp only[xJ,zP,Nat.mul_add]
   omega
theorem zJS(t:Tm):t.isObj=true->t.wt<=65 * t.size:=by
  induction t using ind with
  |h k n i l ih=>
   intro h
   have hA:=YT (zFT h)
   have hl:=zJ2 65 l (fun t ht=>ih t ht (hA t ht))
   have hn:n.length<=64:=by
     rw[isObj]at h
     have hb:bound n i l 1=true->n.length<=64:=by
       intro hb
       simp[bound]at hb
       rcases hb.2 with h |h
       ·rcases h with h |h<;>simp[h]
       ·exact qH n h
     split at h
     ·simp at h;exact hb h.1
     ·split at h
      ·simp at h;exact qH n h.1.1
      ·split at h
       ·simp at h;simp[h.1.1.1]
       ·split at h
        ·simp at h;simp[h.1.1.1]
        ·cases h
   simp only[yi,zS,Nat.mul_add]
   omega
theorem YN{t:Tm}(h:t.isObj=true)(hs:t.small=true):t.wt<=300000:=by
  have h1:=zJS t h
  unfold small at hs
  simp at hs
  omega
theorem Xa(t:Tm)(w:Nat)(h:(ZU t w).e=0):(ZU t w).t.small=true:=by
  unfold ZU at h ⊢
  split
  ·rename_i hs;exact hs
  ·rename_i hs;rw[if_neg hs]at h;simp at h
theorem QG(f:Tm->Sm->Tm->Nat->xU)(us:List Tm):∀(m:Tm)(ss:List Sm)(w:Nat),(Z8 f m ss us w).e=0->(Z8 f m ss us w).t.small=true:=by
  induction us with
  |nil=>
   intro m ss w h
   unfold Z8 at h ⊢
   split
   ·rename_i hk;rw[if_pos hk]at h;simp at h
   ·rename_i hk;rw[if_neg hk]at h;exact Xa _ _ h
  |cons u us ih=>
   intro m ss w h
   cases ss with
   |nil=>unfold Z8 at h;simp at h
   |cons s ss=>
    rw[Z8]at h ⊢
    split
    ·rename_i hk
     rw[if_pos hk]at h
     split
     ·rename_i he
      rw[if_pos he]at h
      exact ih _ _ _ h
     ·rename_i he
      rw[if_neg he]at h
      exact absurd h he
    ·rename_i hk;rw[if_neg hk]at h;simp at h
theorem zGX(f:Tm->Sm->Tm->Nat->xU)(ms:List Tm)(ss:List Sm)(d k:Int)(nm:List UInt8)(i:Int)(us:List Tm)(w:Nat)(h:(sbN f ms ss d k nm i us w).e=0):(sbN f ms ss d k nm i us w).t.small=true:=by
  revert h
  unfold sbN
  split
  ·split
   ·split
    ·intro h;simp at h
    ·unfold ap
     split
     ·exact QG _ _ _ _ _
     ·intro h;simp at h
   ·exact Xa _ _
  ·exact Xa _ _
theorem zC4(n:Nat)(ms:List Tm)(ss:List Sm)(d:Int)(t:Tm)(w:Nat)(h:(sb n ms ss d t w).e=0):(sb n ms ss d t w).t.small=true:=by
  cases n with
  |zero=>rw[sb]at h;simp at h
  |succ n=>
   rw[sb]at h ⊢
   split
   ·rename_i h1;rw[if_pos h1]at h;simp at h
   ·rename_i h1
    rw[if_neg h1]at h
    split
    ·rename_i h2
     rw[if_pos h2]at h
     exact zGX _ _ _ _ _ _ _ _ _ h
    ·rename_i h2
     rw[if_neg h2]at h
     exact absurd h h2
theorem zB9(f:Int->Tm->Nat->xU)(hf:∀ d t w,(f d t w).e=0->(f d t w).t.small=true)(d k:Int)(l:List Tm):∀(j w:Nat),∀ u∈(yy f d k j l w).ts,u.small=true:=by
  induction l with
  |nil=>intro j w u hu;simp[yy]at hu
  |cons t ts ih=>
   intro j w u hu
   rw[yy]at hu
   split at hu
   ·rename_i h1
    split at hu
    ·rcases List.mem_cons.1 hu with rfl |hu
     ·exact hf _ _ _ h1
     ·exact ih _ _ u hu
    ·simp at hu
   ·simp at hu
theorem Y5(c:Nat)(l:List Tm)(h:∀ t∈l,t.size<=c):zP l<=c * l.length:=by
  induction l with
  |nil=>simp[zP]
  |cons t ts ih=>
   have h1:=h t (by simp)
   have h2:=ih (fun u hu=>h u (by simp[hu]))
   simp only[zP,List.length_cons,Nat.mul_add,Nat.mul_one]
   omega
theorem xF{t:Tm}(h:t.small=true):t.size<=4096:=by
  unfold small at h
  simp at h
  omega
end
end Go.LF.Tm
namespace Go.Proofs.YthgmimncdjhgnaaGreatDoor
section
open Go.RowKit Go.LF
theorem zDl(wd:Nat):∀(css:List (List Value)),(∀ cs∈css,cs.length=wd)->css.flatten.length=css.length * wd/\∀ i(h:i<css.length)m v,css[i][m]? =some v->css.flatten[i * wd+m]? =some v
  | [],_=>⟨by simp,fun i h=>by simp at h⟩
  |c :: css,hl=>by
   obtain⟨h1,h2⟩:=zDl wd css (fun cs hc=>hl cs (by simp[hc]))
   have hc:=hl c (by simp)
   refine⟨by simp[h1,hc,Nat.add_mul];omega,fun i h m v hv=>?_⟩
   cases i with
   |zero=>
    simp only[List.getElem_cons_zero]at hv
    have hm:m<c.length:=(List.getElem?_eq_some_iff.1 hv).1
    simp only[List.flatten_cons,Nat.zero_mul,Nat.zero_add]
    rw[List.getElem?_append_left hm]
    exact hv
   |succ i=>
    simp only[List.getElem_cons_succ]at hv
    simp only[List.flatten_cons]
    have e:(i+1) * wd=i * wd+wd:=by rw[Nat.add_mul,Nat.one_mul]
    rw[List.getElem?_append_right (by rw[hc,e];omega),hc,e,show i * wd+wd+m - wd=i * wd+m by omega]
    exact h2 i (by simpa using h) m v hv
def yI(T:TypeId)(wd:Nat)(O:Nat->Prop)(base:Nat)(W:World)(v:Value)(ds:List yz)(css:List (List Value)):Prop:=
  css.length=ds.length/\(∀ cs∈css,cs.length=wd)/\W.ownsRow base T wd v ds.length css.flatten/\
    ∀ i(h:i<ds.length)(h':i<css.length),zM (fun b=>O b\/v.ownBlock=some b) W ds[i] css[i]
section
variable {T:TypeId}{wd:Nat}{O:Nat->Prop}{base:Nat}{W W':World}{v:Value}{ds:List yz}{css:List (List Value)}
theorem yI.nil(T:TypeId)(wd:Nat)(O:Nat->Prop)(base:Nat)(W:World):yI T wd O base W (.slice none 0 0) [] []:=⟨rfl,by simp,World.ownsRow_nil _ _ _ _,fun i h=>by simp at h⟩
theorem yI.zF{S:Nat->Prop}(h:yI T wd O base W v ds css)(hU:zD S W W')(hS:∀ b,S b->O b)(hO:∀ b,O b->b<base):yI T wd O base W' v ds css:=by
  obtain⟨h1,h2,h3,h4⟩:=h
  refine⟨h1,h2,⟨h3.1,?_⟩,fun i h h'=>zM.zF hU (fun b hb=>.inl (hS b hb)) _ _ (h4 i h h')⟩
  rcases h3.2 with h5 |⟨g,cap,cur,rfl,hb,hg,rest⟩
  ·exact .inl h5
  ·exact .inr ⟨g,cap,cur,rfl,hb,(hU.block g (Array.getElem?_eq_some_iff.1 hg).1 (fun e=>by have:=hO g (hS g e);omega)).trans hg,rest⟩
theorem yI.on(h:yI T wd O base W v ds css)(hU:zD zC W W')(hO:∀ b,O b->b<base):yI T wd O base W' v ds css:=h.zF hU (fun _ x=>x.elim) hO
theorem yI.cells(h:yI T wd O base W v ds css):∃ a cap,v=.slice a ds.length cap/\ds.length<=cap/\
    ∀ i(hi:i<ds.length)(hi':i<css.length),∃ g,a=some ⟨g,0,none⟩/\v.ownBlock=some g/\base<=g/\g<W.heap.size/\(∀ o,W.frozen? ⟨g,o,none⟩=false)/\∀ m u,css[i][m]? =some u->W.cell? ⟨g,i * wd+m,none⟩=some u:=by
  obtain⟨h1,h2,h3,h4⟩:=h
  rcases h3.2 with⟨rfl,h0⟩|⟨g,cap,cur,rfl,hb,hg,hnc,_⟩
  ·exact⟨none,0,by rw[h0],by omega,fun i hi=>by omega⟩
  ·refine⟨_,cap,rfl,hnc,fun i hi hi'=>⟨g,rfl,rfl,hb,(Array.getElem?_eq_some_iff.1 hg).1,fun o=>by simp[World.frozen?,hg],fun m u hu=>?_⟩⟩
   have:=h3.cells (g:=g) rfl _ u ((zDl wd css h2).2 i hi' m u hu)
   have hadd:(⟨g,0,none⟩:Addr).add (i * wd+m)=⟨g,i * wd+m,none⟩:=by unfold Addr.add;split<;>simp_all
   rwa [hadd]at this
theorem yI.rep(h:yI T wd O base W v ds css)(hO:∀ b,O b->b<base):∃ a cap,v=.slice a ds.length cap/\ds.length<=cap/\zG O W wd ds a 0:=by
  obtain⟨a,cap,hv,hcap,hc⟩:=h.cells
  refine⟨a,cap,hv,hcap,zn _ _ _ (fun i hi=>?_)⟩
  have hi':i<css.length:=by have:=h.1;omega
  obtain⟨g,rfl,hown,hb,hlt,_,hg⟩:=hc i hi hi'
  refine⟨g,0,css[i],rfl,hlt,fun e=>by have:=hO g e;omega,h.2.1 _ (List.getElem_mem hi'),fun m u hu=>?_,zM.weaken (fun b _ e=>.inl e) _ _ (h.2.2.2 i hi hi')⟩
  rw[show 0+0+i * wd+m=i * wd+m by omega]
  exact hg m u hu
theorem yI.appended{d:yz}{cs:List Value}{g cap H:Nat}(h:yI T wd O base W v ds css)(hcs:cs.length=wd)
    (hr:zM (fun b=>O b\/v.ownBlock=some b) W d cs) (hown:W'.ownsRow base T wd (.slice (some ⟨g,0,none⟩) (ds.length+1) cap) (ds.length+1) (css.flatten++cs)) (hg:W.grownBy W' v.ownBlock)
    (hat:v.ownBlock=some g\/g=H) (hH:W.heap.size<=H):yI T wd O base W' (.slice (some ⟨g,0,none⟩) (ds.length+1) cap) (ds++[d]) (css++[cs]):=by
  obtain⟨h1,h2,h3,h4⟩:=h
  have hcel:Y0 (fun b=>(O b\/v.ownBlock=some b)\/W.heap.size<=b) W W':=by
    refine⟨hg.size,fun b o u hb hu=>hg.cell hu (fun e=>hb (.inl (.inr ?_)))⟩
    exact e.symm
  have key:∀(d:yz)(cs:List Value),zM (fun b=>O b\/v.ownBlock=some b) W d cs->zM (fun b=>O b\/(Value.slice (some ⟨g,0,none⟩) (ds.length+1) cap).ownBlock=some b) W' d cs:=by
    intro d cs h
    refine zM.weaken (fun b _ e=>?_) _ _ (zM.carry hcel _ _ (zM.xZ h))
    rcases e with e |e
    ·exact .inl (.inl e)
    ·simp only[Value.ownBlock,Option.some.injEq]at e
     subst e
     rcases hat with hat |rfl
     ·exact .inl (.inr hat)
     ·exact .inr hH
  refine⟨by simp[h1],?_,by simpa using hown,fun i hi hi'=>?_⟩
  ·intro c hc
   rcases List.mem_append.1 hc with hc |hc
   ·exact h2 c hc
   ·obtain rfl:c=cs:=by simpa using hc
    exact hcs
  ·by_cases hlt:i<ds.length
   ·have hlt':i<css.length:=by omega
    rw[List.getElem_append_left hlt,List.getElem_append_left hlt']
    exact key _ _ (h4 i hlt hlt')
   ·have e1:i=ds.length:=by simp at hi;omega
    subst e1
    rw[List.getElem_append_right (Nat.le_refl _),List.getElem_append_right (by omega)]
    simp only[h1,Nat.sub_self,List.getElem_cons_zero]
    exact key _ _ hr
theorem zK.zFG{g:Nat}{c0 c1 c2 c3:Value}{T':TypeId}(h:zK W g c0 c1 c2 c3 T')(hg:W.grownBy W' v.ownBlock)(ht:yI T wd O base W v ds css)(hb:g<base):zK W' g c0 c1 c2 c3 T':=
  (hg.block g h.lt (fun e=>by have:=(ht.2.2.1.lt g e.symm).1;omega)).trans h
theorem yI.upto(h:yI T wd O base W v ds css)(hg:W.grownBy W' v.ownBlock):zD (fun k=>base<=k) W W':=zD.ofRow (yH.grown h.2.2.1 hg)
end
end
section
open Go.RowKit Go.LF
def zh(W:World)(g:Nat)(c0 c1 c2 c3 c4 c5:Value)(T:TypeId):Prop:=W.heap[g]? =some (.cells #[c0,c1,c2,c3,c4,c5] T (0,0))
section
variable {W W':World}{g b:Nat}{c0 c1 c2 c3 c4 c5:Value}{T:TypeId}{S:Nat->Prop}
theorem zh.zL(hb:W.heap.size=b):zh (W.alloc (.cells #[c0,c1,c2,c3,c4,c5] T)) b c0 c1 c2 c3 c4 c5 T:=by subst hb;exact heap_alloc_new W _
theorem zh.lt(h:zh W g c0 c1 c2 c3 c4 c5 T):g<W.heap.size:=(Array.getElem?_eq_some_iff.1 h).1
theorem zh.cells(h:zh W g c0 c1 c2 c3 c4 c5 T):W.cell? ⟨g,0,none⟩=some c0/\W.cell? ⟨g,1,none⟩=some c1/\W.cell? ⟨g,2,none⟩=some c2/\W.cell? ⟨g,3,none⟩=some c3/\W.cell? ⟨g,4,none⟩=some c4/\W.cell? ⟨g,5,none⟩=some c5:=by unfold zh at h;refine⟨?_,?_,?_,?_,?_,?_⟩<;>simp[World.cell?,h]
theorem zh.zI(h:zh W g c0 c1 c2 c3 c4 c5 T):W.frozen? ⟨g,0,none⟩=false/\W.frozen? ⟨g,1,none⟩=false/\W.frozen? ⟨g,2,none⟩=false/\W.frozen? ⟨g,3,none⟩=false/\W.frozen? ⟨g,4,none⟩=false/\W.frozen? ⟨g,5,none⟩=false:=by unfold zh at h;refine⟨?_,?_,?_,?_,?_,?_⟩<;>simp[World.frozen?,h]
theorem zh.zF(h:zh W g c0 c1 c2 c3 c4 c5 T)(hU:zD S W W')(hS:¬S g):zh W' g c0 c1 c2 c3 c4 c5 T:=(hU.block g h.lt hS).trans h
theorem zh.kept(h:zh W g c0 c1 c2 c3 c4 c5 T)(hU:zD zC W W'):zh W' g c0 c1 c2 c3 c4 c5 T:=h.zF hU (fun x=>x)
theorem zh.zDN(h:zh W g c0 c1 c2 c3 c4 c5 T)(v:Value):zh (W.setCell ⟨g,0,none⟩ v) g v c1 c2 c3 c4 c5 T:=by
  obtain⟨hlt,hk⟩:=Array.getElem?_eq_some_iff.1 h
  show(W.heap.modify g _)[g]? =_
  rw[Array.getElem?_eq_getElem (by rw[Array.size_modify];exact hlt),Array.getElem_modify_self,hk]
  rfl
theorem zh.YW(h:zh W g c0 c1 c2 c3 c4 c5 T)(v:Value):zh (W.setCell ⟨g,1,none⟩ v) g c0 v c2 c3 c4 c5 T:=by
  obtain⟨hlt,hk⟩:=Array.getElem?_eq_some_iff.1 h
  show(W.heap.modify g _)[g]? =_
  rw[Array.getElem?_eq_getElem (by rw[Array.size_modify];exact hlt),Array.getElem_modify_self,hk]
  rfl
theorem zh.Yq(h:zh W g c0 c1 c2 c3 c4 c5 T)(v:Value):zh (W.setCell ⟨g,2,none⟩ v) g c0 c1 v c3 c4 c5 T:=by
  obtain⟨hlt,hk⟩:=Array.getElem?_eq_some_iff.1 h
  show(W.heap.modify g _)[g]? =_
  rw[Array.getElem?_eq_getElem (by rw[Array.size_modify];exact hlt),Array.getElem_modify_self,hk]
  rfl
theorem zh.Yt(h:zh W g c0 c1 c2 c3 c4 c5 T)(v:Value):zh (W.setCell ⟨g,3,none⟩ v) g c0 c1 c2 v c4 c5 T:=by
  obtain⟨hlt,hk⟩:=Array.getElem?_eq_some_iff.1 h
  show(W.heap.modify g _)[g]? =_
  rw[Array.getElem?_eq_getElem (by rw[Array.size_modify];exact hlt),Array.getElem_modify_self,hk]
  rfl
theorem zh.Ye(h:zh W g c0 c1 c2 c3 c4 c5 T)(v:Value):zh (W.setCell ⟨g,4,none⟩ v) g c0 c1 c2 c3 v c5 T:=by
  obtain⟨hlt,hk⟩:=Array.getElem?_eq_some_iff.1 h
  show(W.heap.modify g _)[g]? =_
  rw[Array.getElem?_eq_getElem (by rw[Array.size_modify];exact hlt),Array.getElem_modify_self,hk]
  rfl
theorem zh.zIr(h:zh W g c0 c1 c2 c3 c4 c5 T)(v:Value):zh (W.setCell ⟨g,5,none⟩ v) g c0 c1 c2 c3 c4 v T:=by
  obtain⟨hlt,hk⟩:=Array.getElem?_eq_some_iff.1 h
  show(W.heap.modify g _)[g]? =_
  rw[Array.getElem?_eq_getElem (by rw[Array.size_modify];exact hlt),Array.getElem_modify_self,hk]
  rfl
theorem zh.set{d0 d1 d2 d3 d4 d5:Value}(h:zh W g c0 c1 c2 c3 c4 c5 T):zh ((((((W.setCell ⟨g,0,none⟩ d0).setCell ⟨g,1,none⟩ d1).setCell ⟨g,2,none⟩ d2).setCell ⟨g,3,none⟩ d3).setCell ⟨g,4,none⟩ d4).setCell ⟨g,5,none⟩ d5) g d0 d1 d2 d3 d4 d5 T/\zD (fun x=>x=g) W ((((((W.setCell ⟨g,0,none⟩ d0).setCell ⟨g,1,none⟩ d1).setCell ⟨g,2,none⟩ d2).setCell ⟨g,3,none⟩ d3).setCell ⟨g,4,none⟩ d4).setCell ⟨g,5,none⟩ d5):=
  ⟨((((((h.zDN _).YW _).Yq _).Yt _).Ye _).zIr _),zD.set (zD.set (zD.set (zD.set (zD.set (zD.set (zD.refl _ W) 0 _) 1 _) 2 _) 3 _) 4 _) 5 _⟩
theorem zh.zFG{T':TypeId}{wd:Nat}{O:Nat->Prop}{base:Nat}{v:Value}{ds:List yz}{css:List (List Value)}(h:zh W g c0 c1 c2 c3 c4 c5 T)(hg:W.grownBy W' v.ownBlock)(ht:yI T' wd O base W v ds css)(hb:g<base):zh W' g c0 c1 c2 c3 c4 c5 T:=
  (hg.block g h.lt (fun e=>by have:=(ht.2.2.1.lt g e.symm).1;omega)).trans h
end
def ZI(t:Tm):yz:=.st [t.zN,.int .i64 t.size,.int .i64 t.depth]
theorem zAN{O:Nat->Prop}{W:World}{t:Tm}{c0 c1 c2 c3 c4 c5:Value}:zM O W (ZI t) [c0,c1,c2,c3,c4,c5]↔zM O W t.zN [c0,c1,c2,c3]/\c4=.int .i64 t.size/\c5=.int .i64 t.depth:=by
  constructor
  ·intro h
   simp only[ZI,zM,xS]at h
   obtain⟨x,y,e1,h1,z,u,e2,h2,v,q,e3,h3,h4⟩:=h
   obtain⟨k,n,i,ts,a,cap,_,hx,_⟩:=zX h1
   subst hx h2 h3 h4
   subst e2 e3
   simp at e1
   obtain⟨r0,r1,r2,r3,r4,r5⟩:=e1
   subst r0 r1 r2 r3 r4 r5
   exact⟨h1,rfl,rfl⟩
  ·rintro⟨h,rfl,rfl⟩
   simp only[ZI,zM,xS]
   exact⟨_,[.int .i64 t.size,.int .i64 t.depth],rfl,h,[_],[_],rfl,rfl,[_],[],rfl,rfl,rfl⟩
theorem zF3{O:Nat->Prop}{W:World}{t:Tm}{cs:List Value}(h:zM O W (ZI t) cs):∃ k n i a cap,cs=[.int .i64 k,.string (B n),.int .i64 i,.slice a t.args.length cap,.int .i64 t.size,.int .i64 t.depth]/\zM O W t.zN [.int .i64 k,.string (B n),.int .i64 i,.slice a t.args.length cap]:=by
  have h':=h
  simp only[ZI,zM,xS]at h'
  obtain⟨x,y,e1,h1,z,u,e2,h2,v,q,e3,h3,h4⟩:=h'
  obtain⟨k,n,i,ts,a,cap,ht,hx,_⟩:=zX h1
  subst hx h2 h3 h4
  subst e2 e3
  have hl:t.args.length=ts.length:=by rw[ht];rfl
  rw[hl]
  exact⟨k,n,i,a,cap,by rw[e1];rfl,h1⟩
theorem zA1{O:Nat->Prop}{w:World}{us:List Tm}{a:Option Addr}(h:zG O w 6 (us.map ZI) a 0)(j:Nat)(hj:j<us.length):
    ∃ b o k n i s c,a=some ⟨b,o,none⟩/\b<w.heap.size/\¬O b/\w.cell? ⟨b,o+j * 6,none⟩=some (.int .i64 k)/\w.cell? ⟨b,o+j * 6+1,none⟩=some (.string (B n))/\w.cell? ⟨b,o+j * 6+2,none⟩=some (.int .i64 i)/\
      w.cell? ⟨b,o+j * 6+3,none⟩=some (.slice s us[j].args.length c)/\w.cell? ⟨b,o+j * 6+4,none⟩=some (.int .i64 us[j].size)/\w.cell? ⟨b,o+j * 6+5,none⟩=some (.int .i64 us[j].depth)/\zM O w us[j].zN [.int .i64 k,.string (B n),.int .i64 i,.slice s us[j].args.length c]:=by
  obtain⟨b,o,cs,h1,hb,h2,h3,h4,h5⟩:=h.get j (by simpa using hj)
  rw[List.getElem_map]at h5
  obtain⟨k,n,i,s,c,rfl,hr⟩:=zF3 h5
  refine⟨b,o,k,n,i,s,c,h1,hb,h2,?_,?_,?_,?_,?_,?_,hr⟩
  ·have:=h4 0 _ rfl;simpa using this
  ·have:=h4 1 _ rfl;simpa using this
  ·have:=h4 2 _ rfl;simpa using this
  ·have:=h4 3 _ rfl;simpa using this
  ·have:=h4 4 _ rfl;simpa using this
  ·have:=h4 5 _ rfl;simpa using this
def Yp(e:Int):Ending:=.panicked [{ v:=.iface 30 (.int .i64 e),recovered:=false }]
def OfR(O:Nat->Prop)(r:Tm.xU)(e:Ending)(w':World):Prop:=
  (r.e=0/\∃ k n i a len cap,e=.returned (.agg #[.int .i64 k,.string (B n),.int .i64 i,.slice a len cap,.int .i64 r.t.size,.int .i64 r.t.depth])/\zM O w' r.t.zN [.int .i64 k,.string (B n),.int .i64 i,.slice a len cap])\/(r.e≠0/\e=Yp r.e)
theorem Qn(k i sz dp:Int)(n:List UInt8)(a:Option Addr)(len cap:Nat)(w:World):
    Calls Tryz.prog 221 #[.agg #[.int .i64 k,.string (B n),.int .i64 i,.slice a len cap,.int .i64 sz,.int .i64 dp]] w fun e w'=>
      e=(if 4096<sz\/128<dp then Yp 2 else .returned (.agg #[.int .i64 k,.string (B n),.int .i64 i,.slice a len cap,.int .i64 sz,.int .i64 dp]))/\zD zC w w':=by
  have hU:∀ o o':Obj,zD zC w ((w.alloc o).alloc o'):=fun o o'=>((zD.refl zC w).alloc o).alloc o'
  by_cases h1:4096<sz
  ·rw[if_pos (.inl h1)]
   go_enter Tryz.func221,Tryz.ntmps221
   go_wp2_with fail
   exact⟨rfl,rfl,hU _ _⟩
  ·by_cases h2:128<dp
   ·rw[if_pos (.inr h2)]
    go_enter Tryz.func221,Tryz.ntmps221
    go_wp2_with fail
    exact⟨rfl,rfl,hU _ _⟩
   ·have h3:¬(4096<sz\/128<dp):=fun h=>h.elim h1 h2
    rw[if_neg h3]
    obtain⟨w1,hw1⟩:∃ w1,w1=(w.alloc (.cells #[.int .i64 k,.string (B n),.int .i64 i,.slice a len cap,.int .i64 sz,.int .i64 dp] 200)).alloc (.cells #[.int .i64 0,.string (B []),.int .i64 0,.slice none 0 0,.int .i64 0,.int .i64 0] 200):=⟨_,rfl⟩
    have hU1:zD zC w w1:=by rw[hw1];exact hU _ _
    have hb1:zh w1 w.heap.size (.int .i64 k) (.string (B n)) (.int .i64 i) (.slice a len cap) (.int .i64 sz) (.int .i64 dp) 200:=by rw[hw1];exact(zh.zL rfl).kept ((zD.refl zC _).alloc _)
    have hr1:zh w1 (w.heap.size+1) (.int .i64 0) (.string (B [])) (.int .i64 0) (.slice none 0 0) (.int .i64 0) (.int .i64 0) 200:=by rw[hw1];exact zh.zL (by simp)
    have HW:=zH hw1
    clear hw1 h3
    obtain⟨x0,x1,x2,x3,x4,x5⟩:=hb1.cells
    obtain⟨y0,y1,y2,y3,y4,y5⟩:=hr1.cells
    obtain⟨z0,z1,z2,z3,z4,z5⟩:=hr1.zI
    have hset:=hr1.set (d0:=.int .i64 k) (d1:=.string (B n)) (d2:=.int .i64 i) (d3:=.slice a len cap) (d4:=.int .i64 sz) (d5:=.int .i64 dp)
    obtain⟨e0,e1,e2,e3,e4,e5⟩:=hset.1.cells
    have HE:=zH (And.intro e0 (And.intro e1 (And.intro e2 (And.intro e3 (And.intro e4 (And.intro e5 hset.2))))))
    have hlt:=hr1.lt
    clear e0 e1 e2 e3 e4 e5 hset
    go_enter Tryz.func221,Tryz.ntmps221
    go_upto_region 1 with fail
    rw[<-show B []={ data:=#[] }from rfl,<-HW.out]
    go_wp2_with fail
    obtain⟨e0,e1,e2,e3,e4,e5,hset⟩:=HE.out
    refine bodyPost_ret (v:=.agg #[.int .i64 k,.string (B n),.int .i64 i,.slice a len cap,.int .i64 sz,.int .i64 dp]) ?_ rfl ?_
    ·simp[results,Tryz.f221,go_sem,e0,e1,e2,e3,e4,e5]
    ·exact⟨rfl,hU1.trans hset (fun b hb e=>by omega)⟩
end
end Go.Proofs.YthgmimncdjhgnaaGreatDoor
