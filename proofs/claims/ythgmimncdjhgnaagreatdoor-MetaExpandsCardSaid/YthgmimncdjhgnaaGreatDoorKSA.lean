/- The reference's Machine.Applied, out of its step. -/
import Derived.Test.YthgmimncdjhgnaaGreatDoorKEG
import Derived.Test.YthgmimncdjhgnaaGreatDoorKEH
import Derived.Deep.CutBlock
import Derived.Deep.CutRange
import Derived.Deep.RegionHeld3
set_option maxRecDepth 100000
set_option maxHeartbeats 16000000
namespace Go.Proofs.YthgmimncdjhgnaaGreatDoor
open Go.RowKit Go.LF
def zFb(n:Nat):Prop:=
  ∀(ms:List Tm)(ss:List Sm)(d:Int)(t:Tm)(w0 x:Nat)(O:Nat->Prop)(w:World)(ma:Option Addr)(mc:Nat)(sa:Option Addr)(sc:Nat)(cs:List Value),
   262145<=n+w0->w0<=262144->ms.length=ss.length->ms.length<=10000->(∀ u∈ms,u.isObj=true/\u.small=true)->(∀ s∈ss,s.size<=4096)->0<=d->d+(t.depth:Int)<=1048576->t.In->
   O x->(∀ b,O b->b<w.heap.size)->zm w x (.int .i64 (w0:Int)) (.int .i64 0) 181->zG O w 4 (ms.map Tm.zN) ma 0->zG O w 2 (ss.map Sm.zN) sa 0->zM O w t.zN cs->
   Calls Tryz.prog 203 #[.pointer (some ⟨x,0,none⟩),.agg cs.toArray,.slice ma ms.length mc,.slice sa ss.length sc,.int .i64 d] w fun e w'=>
     zIg O x (Tm.sb n ms ss d t w0) e w'/\zD (fun b=>b=x) w w'
def lenOf:Value->Nat
  | .slice _ l _=>l
  |_=>0
theorem zDi{O:Nat->Prop}{W:World}{wd:Nat}{d:yz}{ds:List yz}{b o:Nat}(h:zG O W wd (d :: ds) (some ⟨b,o,none⟩) 0):zG O W wd ds (some ⟨b,o+wd,none⟩) 0:=by
  refine zn _ _ _ (fun i hi=>?_)
  obtain⟨b',o',cs,e,hb,hO,hl,hc,hr⟩:=h.get (i+1) (by simpa using hi)
  simp only[Option.some.injEq,Addr.mk.injEq,and_true]at e
  obtain⟨rfl,rfl⟩:=e
  refine⟨b,o+wd,cs,rfl,hb,hO,hl,fun m v hv=>?_,by simpa using hr⟩
  have:=hc m v hv
  rw[<-this]
  congr 2
  rw[Nat.succ_mul]
  omega
theorem zEE{O:Nat->Prop}{W:World}{wd:Nat}{d:yz}{ds:List yz}{a:Option Addr}(h:zG O W wd (d :: ds) a 0):zG O W wd [d] a 0:=by
  refine zn _ _ _ (fun i hi=>?_)
  obtain rfl:i=0:=by simpa using hi
  obtain⟨b,o,cs,e,hb,hO,hl,hc,hr⟩:=h.get 0 (by simp)
  exact⟨b,o,cs,e,hb,hO,hl,hc,by simpa using hr⟩
theorem qz{O:Nat->Prop}{W:World}{wd:Nat}{ds:List yz}{a:Option Addr}(h:ds=[]):zG O W wd ds a 0:=by
  subst h
  exact zn _ _ _ (fun i hi=>by simp at hi)
theorem XS{m n:Nat}(a:Option Addr)(c:Nat)(h:m=n):Value.slice a n c=Value.slice a m c:=by rw[h]
def zB3(ul sl:Nat)(k:Int):Bool:=((ul:Int) !=(sl:Int))|| ((ul:Int) == 0 && k == 3)|| (decide ((0:Int)<(ul:Int)) && k !=3)
theorem zKA{ul sl:Nat}{k:Int}(h:zB3 ul sl k=true):(((ul:Int) !=(sl:Int))=true)\/
    (((ul:Int) !=(sl:Int))=false/\((ul:Int) == 0)=true/\k=3)\/(((ul:Int) !=(sl:Int))=false/\((ul:Int) == 0)=false/\(0:Int)<(ul:Int)/\(k == 3)=false/\(k !=3)=true):=by
  unfold zB3 at h
  cases h1:((ul:Int) !=(sl:Int))with
  |true=>exact .inl rfl
  |false=>
   right
   by_cases h2:ul=0
   ·left
    subst h2
    rw[h1]at h
    exact⟨rfl,rfl,by simpa using h⟩
   ·right
    have e2:((ul:Int) == 0)=false:=by simp[h2]
    have e3:(0:Int)<(ul:Int):=by omega
    simp[h1,h2]at h
    exact⟨rfl,e2,e3,by simp[h.2],by simp[h.2]⟩
theorem zIJ{ul sl:Nat}{k:Int}(h:¬zB3 ul sl k=true):ul=sl/\((ul=0/\¬k=3)\/(0<ul/\k=3)):=by
  unfold zB3 at h
  simp at h
  by_cases h2:ul=0
  ·subst h2
   exact⟨by omega,.inl ⟨rfl,h.1.2 rfl⟩⟩
  ·exact⟨by omega,.inr ⟨by omega,h.2 (by omega)⟩⟩
theorem Y7(n:Nat)(IH:zFb n)(m:Tm)(ss:List Sm)(us:List Tm)(f:List UInt8)(w0 x:Nat)(O:Nat->Prop)(w:World)(k i:Int)(nm:List UInt8)(a:Option Addr)(len cap:Nat)(sa:Option Addr)(sc:Nat)(ua:Option Addr)(uc:Nat)
    (hn:262145<=n+w0) (hw0:w0<=262144) (hm:m.isObj=true) (hms:m.small=true) (hul:us.length<=10000) (hsl:ss.length<=10000) (huc:us.length<=uc) (hsc:ss.length<=sc) (hus:∀ u∈us,u.isObj=true/\u.small=true) (hss:∀ s∈ss,s.size<=4096)
    (hx:O x) (hO:∀ b,O b->b<w.heap.size) (hX:zm w x (.int .i64 (w0:Int)) (.int .i64 0) 181) (hR:zM O w m.zN [.int .i64 k,.string (B nm),.int .i64 i,.slice a len cap]) (hS:zG O w 2 (ss.map Sm.zN) sa 0) (hE:zG O w 4 (us.map Tm.zN) ua 0):
    Calls Tryz.prog 172 #[.pointer (some ⟨x,0,none⟩),.agg #[.int .i64 k,.string (B nm),.int .i64 i,.slice a len cap],.agg #[.string (B f),.slice sa ss.length sc],.slice ua us.length uc] w fun e w'=>
      zIg O x (Tm.ap (Tm.Xb n) m ss us w0) e w'/\zD (fun b=>b=x) w w':=by
  obtain⟨w1,hw1⟩:∃ w1,w1=((w.alloc (.cells #[.int .i64 k,.string (B nm),.int .i64 i,.slice a len cap] 29)).alloc (.cells #[.string (B f),.slice sa ss.length sc] 115)).alloc (.cells #[.int .i64 0,.string (B []),.int .i64 0,.slice none 0 0] 29):=⟨_,rfl⟩
  have hU1:zD zC w w1:=by rw[hw1];exact(((zD.refl zC w).alloc _).alloc _).alloc _
  have hm1:zK w1 w.heap.size (.int .i64 k) (.string (B nm)) (.int .i64 i) (.slice a len cap) 29:=by rw[hw1];exact((zK.zL rfl).kept ((zD.refl zC _).alloc _)).kept ((zD.refl zC _).alloc _)
  have hs1:zm w1 (w.heap.size+1) (.string (B f)) (.slice sa ss.length sc) 115:=by rw[hw1];exact(zm.zL (by simp)).kept ((zD.refl zC _).alloc _)
  have hr1:zK w1 (w.heap.size+1+1) (.int .i64 0) (.string (B [])) (.int .i64 0) (.slice none 0 0) 29:=by rw[hw1];exact zK.zL (by simp)
  have hU0:=hU1
  have hX1:=hX.kept hU1
  have hR1:=(zM.xZ hR).on hU1
  have hS1:=(zG.zQ _ _ _ _ hS).on hU1
  have hE1:=(zG.zQ _ _ _ _ hE).on hU1
  have HW:=zH hw1
  obtain⟨H,hH⟩:∃ H,H=w.heap.size:=⟨_,rfl⟩
  have HH:=zH hH
  rw[<-hH]at hm1 hs1 hr1 hR1 hS1 hE1
  have hO':∀ b,O b->b<H:=by rw[hH];exact hO
  have hxH:x<H:=hO' x hx
  have HO:Hid (∀ b,(O b\/b=H\/b=H+1\/b=H+1+1)->b<H+3):=zH (fun b h=>by rcases h with h |h |h |h;(have:=hO' b h;omega);all_goals omega)
  have hz1:H+3<=w1.heap.size:=by have:=hr1.lt;omega
  obtain⟨R,hRR⟩:∃ R,R=Tm.ap (Tm.Xb n) m ss us w0:=⟨_,rfl⟩
  rw[<-hRR]
  have hR2:zM (fun b=>O b\/b=H\/b=H+1\/b=H+1+1) w1 m.zN [.int .i64 k,.string (B nm),.int .i64 i,.slice a len cap]:=zM.weaken (fun b _ e=>e.elim .inl (fun e=>.inr (by omega))) _ _ hR1
  have hE2:zG (fun b=>O b\/b=H\/b=H+1\/b=H+1+1) w1 4 (us.map Tm.zN) ua 0:=zG.weaken (fun b _ e=>e.elim .inl (fun e=>.inr (by omega))) _ _ _ _ hE1
  have hS2:zG (fun b=>O b\/b=H\/b=H+1\/b=H+1+1) w1 2 (ss.map Sm.zN) sa 0:=zG.weaken (fun b _ e=>e.elim .inl (fun e=>.inr (by omega))) _ _ _ _ hS1
  have HI:=zH (And.intro (And.intro huc (And.intro hul (And.intro hsc hsl))) (And.intro hRR (And.intro (And.intro hm (And.intro hms (And.intro hw0 hn))) (And.intro hus hss))))
  clear hw1 hR hS hE hH hO hO' hn hus hss hU1 hX hul hsl huc hsc hRR hR1 hE1 hS1 hm hms hw0
  go_enter Tryz.func172,Tryz.ntmps172
  go_wp2_with fail
  rw[<-show B []={ data:=#[] }from rfl,<-HW.out,<-HH.out]
  go_loopw [3] (fun v3 wr=>∃(us':List Tm)(ss':List Sm)(m':Tm)(er:Int)(wj:Nat)(k' i':Int)(n':List UInt8)(a':Option Addr)(len' cap':Nat)(ua':Option Addr)(uc':Nat)(sa':Option Addr)(sc':Nat),v3=.slice ua' us'.length uc'/\(us'.length<=uc'/\us'.length<=10000/\ss'.length<=sc'/\ss'.length<=10000)/\
      (R=(if er=0 then Tm.ap (Tm.Xb n) m' ss' us' wj else⟨er,Tm.zT,wj⟩))/\(er=0->m'.isObj=true/\m'.small=true/\wj<=262144/\262145<=n+wj)/\((∀ u∈us',u.isObj=true/\u.small=true)/\(∀ s∈ss',s.size<=4096))/\
      zm wr x (.int .i64 (wj:Int)) (.int .i64 er) 181/\zK wr H (.int .i64 k') (.string (B n')) (.int .i64 i') (.slice a' len' cap') 29/\zm wr (H+1) (.string (B f)) (.slice sa' ss'.length sc') 115/\
      (zM (fun b=>O b\/b=H\/b=H+1\/b=H+1+1) wr m'.zN [.int .i64 k',.string (B n'),.int .i64 i',.slice a' len' cap']/\zG (fun b=>O b\/b=H\/b=H+1\/b=H+1+1) wr 4 (us'.map Tm.zN) ua' 0/\zG (fun b=>O b\/b=H\/b=H+1\/b=H+1+1) wr 2 (ss'.map Sm.zN) sa' 0)/\zD (fun b=>b=x\/b=H\/b=H+1) w1 wr)
    (fun v3 _=>lenOf v3)
  case atStart=>exact⟨us,ss,m,0,w0,k,i,nm,a,len,cap,ua,uc,sa,sc,rfl,HI.out.1,by rw[if_pos rfl];exact HI.out.2.1,fun _=>HI.out.2.2.1,HI.out.2.2.2,hX1,hm1,hs1,⟨hR2,hE2,hS2⟩,zD.refl _ _⟩
  case round=>
    clear hX1 hm1 hs1 hR2 hE2 hS2 HI
    obtain⟨us',ss',m',er,wj,k',i',n',a',len',cap',ua',uc',sa',sc',rfl,⟨hl1,hl2,hl3,hl4⟩,hRj,hgood,hall,hX,hm1,hs1,⟨hRm,hEu,hEs⟩,hU⟩:=hrel
    have hr9:=hr1.zF hU (by rintro(e |e |e)<;>omega)
    obtain⟨x0,x1⟩:=hX.cells
    obtain⟨y0,y1⟩:=hX.zI
    obtain⟨m0,m1,m2,m3⟩:=hm1.cells
    obtain⟨s0,s1⟩:=hs1.cells
    obtain⟨z0,z1,z2,z3⟩:=hr9.cells
    obtain⟨g0,g1,g2,g3⟩:=hr9.zI
    have hlr:=hr9.lt
    have hUw:=(hU0.mono (fun _ _ x=>x.elim)).trans hU (S:=fun b=>b=x) (fun b hb e=>e.elim (fun e=>e) (fun e=>by have:=HH.out;omega))
    by_cases her:er=0
    case neg=>
      have hRn:R=⟨er,Tm.zT,wj⟩:=by rw[hRj,if_neg her]
      have HRn:=zH hRn
      have her':(er == 0)=false:=by simpa using her
      have hset:=hr9.set (d0:=.int .i64 0) (d1:=.string (B [])) (d2:=.int .i64 0) (d3:=.slice none 0 0)
      obtain⟨e0,e1,e2,e3⟩:=hset.1.cells
      have HEE:=zH (And.intro e0 (And.intro e1 (And.intro e2 (And.intro e3 hset.2))))
      clear e0 e1 e2 e3 hset hRn hRj hgood hall her hl1 hl2 hl3 hl4
      go_wp2_with fail
      obtain⟨e0,e1,e2,e3,hset⟩:=HEE.out
      refine bodyPost_ret (v:=.agg #[.int .i64 0,.string (B []),.int .i64 0,.slice none 0 0]) ?_ rfl ?_
      ·simp[results,Tryz.f172,go_sem,e0,e1,e2,e3]
      ·rw[HRn.out]
       exact⟨⟨⟨0,[],0,none,0,0,rfl,ze 0 [] 0⟩,hX.zF hset (by omega)⟩,hUw.trans hset (fun b hb e=>by have:=HH.out;omega)⟩
    subst her
    rw[if_pos rfl]at hRj
    obtain⟨ho,hsm,hwj,hnj⟩:=hgood rfl
    have HV:=zH (And.intro hRj (And.intro (And.intro ho (And.intro hsm (And.intro hwj hnj))) hall))
    obtain⟨ls,rfl,hlsl,hlc,hEl⟩:=QW hRm
    obtain⟨ul,hull⟩:∃ ul,ul=us'.length:=⟨_,rfl⟩
    obtain⟨sl,hsll⟩:∃ sl,sl=ss'.length:=⟨_,rfl⟩
    rw[<-hull]at hl1 hl2
    rw[<-hsll]at hl3 hl4 hs1 s1
    rw[<-hull]
    have HL:=zH (And.intro hull (And.intro hsll hlsl))
    have hl5:(ul:Int)<=10000:=by omega
    have hl6:(sl:Int)<=10000:=by omega
    clear hRj hgood ho hsm hnj hall hull hsll hlsl hlc
    by_cases hbad:zB3 ul sl k'=true
    case pos=>
      have hRn:R=⟨6,Tm.zT,wj⟩:=by
        have h1:=hbad
        rw[HV.out.1]
        unfold Tm.ap
        rw[<-HL.out.1,<-HL.out.2.1]
        split
        ·rename_i he
         unfold zB3 at h1
         cases us' with
         |nil=>
          have h0:ul=0:=HL.out.1
          subst h0
          simp at h1
          rw[Tm.Q6]
          rcases h1 with h1 |h1
          ·omega
          ·rw[if_pos (by simpa using h1)]
         |cons u us2=>
          cases ss' with
          |nil=>have:=HL.out.1;have:=HL.out.2.1;simp at *;omega
          |cons s ss2=>
           rw[Tm.qx,if_neg]
           intro hk
           have hk':k'=3:=by simpa using hk
           have:=HL.out.1
           simp[hk']at h1
           simp at this
           omega
        ·rfl
      have HRn:=zH hRn
      have hs6:=hX.YW (.int .i64 6)
      have hU6:zD (fun b=>b=x) wr (wr.setCell ⟨x,1,none⟩ (.int .i64 6)):=zD.set (zD.refl _ _) 1 _
      have hr6:=hr9.zF hU6 (by omega)
      have hset:=hr6.set (d0:=.int .i64 0) (d1:=.string (B [])) (d2:=.int .i64 0) (d3:=.slice none 0 0)
      obtain⟨e0,e1,e2,e3⟩:=hset.1.cells
      have HEE:=zH (And.intro e0 (And.intro e1 (And.intro e2 (And.intro e3 (And.intro hset.2 (And.intro hs6 hU6))))))
      have hne:¬x=H+1+1:=by omega
      have hw:=zKA hbad
      clear e0 e1 e2 e3 hset hRn hs6 hU6 hr6 hbad
      have hxb:¬x=H:=by omega
      rcases hw with a1 |⟨a1,a2,rfl⟩|⟨a1,a2,a3,a4,a5⟩
      all_goals
        go_wp2_with fail
        obtain⟨e0,e1,e2,e3,hset,hs6,hU6⟩:=HEE.out
        refine bodyPost_ret (v:=.agg #[.int .i64 0,.string (B []),.int .i64 0,.slice none 0 0]) ?_ rfl ?_
        ·simp[results,Tryz.f172,go_sem,e0,e1,e2,e3]
        ·rw[HRn.out]
         exact⟨⟨⟨0,[],0,none,0,0,rfl,ze 0 [] 0⟩,hs6.zF hset hne⟩,(hUw.trans hU6 (fun _ _ e=>e)).trans hset (fun b hb e=>by have:=HH.out;omega)⟩
    obtain⟨hq,hways⟩:=zIJ hbad
    subst hq
    have a1:((ul:Int) !=(ul:Int))=false:=by simp
    clear hbad
    rcases hways with⟨hu0,hk3⟩|⟨hu0,hk3⟩
    ·subst hu0
     have hun:us'=[]:=List.length_eq_zero_iff.1 HL.out.1.symm
     have hsn:ss'=[]:=List.length_eq_zero_iff.1 HL.out.2.1.symm
     have hRn:R=⟨0,.mk k' n' i' ls,wj⟩:=by rw[HV.out.1,hun,hsn];unfold Tm.ap;rw[if_pos (show([]:List Tm).length=([]:List Sm).length from rfl),Tm.Q6,if_neg (by simpa using hk3),Tm.Xh HV.out.2.1.2.1]
     have CH:=Zr (.mk k' n' i' ls) (by have:=Tm.xF HV.out.2.1.2.1;omega) x wj (fun b=>O b\/b=H\/b=H+1\/b=H+1+1) wr (.inl hx) (fun b e=>by have:=HO.out b e;have:=hU.size;omega) k' i' n' a' len' cap' hX hRm
     rw[Tm.Xh HV.out.2.1.2.1]at CH
     have HRn:=zH hRn
     have a2:(((0:Nat):Int) == 0)=true:=rfl
     have a3:(k' == 3)=false:=by simpa using hk3
     clear hRn hun hsn hk3
     go_wp2_with fail
     (with_reducible refine CH.mono ?_)
     rintro e w5 ⟨⟨⟨k5,n5,i5,a5,len5,cap5,rfl,hR5⟩,hX5⟩,hU5⟩
     have hr5:=hr9.zF hU5 (by omega)
     have hset:=hr5.set (d0:=.int .i64 k5) (d1:=.string (B n5)) (d2:=.int .i64 i5) (d3:=.slice a5 len5 cap5)
     clear z0 z1 z2 z3 g0 g1 g2 g3
     obtain⟨z0,z1,z2,z3⟩:=hr5.cells
     obtain⟨g0,g1,g2,g3⟩:=hr5.zI
     obtain⟨e0,e1,e2,e3⟩:=hset.1.cells
     have HEE:=zH (And.intro e0 (And.intro e1 (And.intro e2 (And.intro e3 hset.2))))
     have hne:¬x=H+1+1:=by omega
     clear e0 e1 e2 e3 hset
     go_wp2_with fail
     obtain⟨e0,e1,e2,e3,hset⟩:=HEE.out
     refine bodyPost_ret (v:=.agg #[.int .i64 k5,.string (B n5),.int .i64 i5,.slice a5 len5 cap5]) ?_ rfl ?_
     ·simp[results,Tryz.f172,go_sem,e0,e1,e2,e3]
     ·rw[HRn.out]
      exact⟨⟨⟨k5,n5,i5,a5,len5,cap5,rfl,zM.weaken (fun b _ e=>.inl e) _ _ (zM.zF hset (fun b e=>.inr (.inr (.inr e))) _ _ hR5)⟩,hX5.zF hset hne⟩,(hUw.trans hU5 (fun _ _ e=>e)).trans hset (fun b hb e=>by have:=HH.out;omega)⟩
    ·subst hk3
     obtain⟨u0,us2,rfl⟩:∃ u us2,us'=u :: us2:=by
       cases us' with
       |nil=>have:=HL.out.1;simp at this;omega
       |cons u us2=>exact⟨u,us2,rfl⟩
     obtain⟨y0',ss2,rfl⟩:∃ u us2,ss'=u :: us2:=by
       cases ss' with
       |nil=>have:=HL.out.2.1;simp at this;omega
       |cons u us2=>exact⟨u,us2,rfl⟩
     obtain⟨b0,rfl⟩:∃ b0,ls=[b0]:=⟨_,(Tm.Xj HV.out.2.1.1 rfl).2⟩
     obtain rfl:len'=1:=HL.out.2.2
     obtain⟨ab,ao,bk,bn,bi,bs,bc,rfl,habl,habO,c0,c1,c2,c3,hRb⟩:=zd hEl 0 (by simp)
     simp only[Nat.zero_mul,Nat.add_zero,List.getElem_cons_zero]at c0 c1 c2 c3 hRb
     have hinb:=(Tm.In.of HV.out.2.1.1 HV.out.2.1.2.1).arg 0 (by simp)
     simp only[List.getElem_cons_zero]at hinb
     obtain⟨ub,uo,rfl,hub⟩:∃ b o,ua'=some ⟨b,o,none⟩/\b<wr.heap.size:=by
       obtain⟨b,o,_,e,hb,_⟩:=hEu.get 0 (by simp)
       exact⟨b,o,e,hb⟩
     obtain⟨sb',so,rfl,hsb⟩:∃ b o,sa'=some ⟨b,o,none⟩/\b<wr.heap.size:=by
       obtain⟨b,o,_,e,hb,_⟩:=hEs.get 0 (by simp)
       exact⟨b,o,e,hb⟩
     have hEu1:=zEE hEu
     have hEs1:=zEE hEs
     have hEu2:=zDi hEu
     have hEs2:=zDi hEs
     have HUS:=HV.out.2.2.1 u0 (by simp)
     have HSS:=HV.out.2.2.2 y0' (by simp)
     obtain⟨rs,hrs⟩:∃ rs,rs=Tm.sb n [u0] [y0'] 0 b0 wj:=⟨_,rfl⟩
     have hgood:=Tm.Xd n [u0] [y0'] 0 b0 wj (by simpa using HUS) (by omega) (by have:=hinb.1.depth;omega) (Tm.Xj HV.out.2.1.1 rfl).1
     have hwork:=Tm.zAB n [u0] [y0'] 0 b0 wj hwj
     have hltw:=Tm.zB4 n [u0] [y0'] 0 b0 wj
     have hnone:=Tm.zCk n [u0] [y0'] 0 b0 wj
     have hstep:R=(if rs.e=0 then Tm.ap (Tm.Xb n) rs.t ss2 us2 rs.w else⟨rs.e,Tm.zT,rs.w⟩):=by
       have hll:us2.length=ss2.length:=by have:=HL.out.1;have:=HL.out.2.1;simp at *;omega
       rw[HV.out.1]
       unfold Tm.ap
       rw[if_pos (by simp[hll]),if_pos hll,Tm.qx,if_pos (show(Tm.mk 3 n' i' [b0]).kind=3 from rfl)]
       show(if(Tm.sb n [u0] [y0'] 0 b0 wj).e=0 then _ else Tm.sb n [u0] [y0'] 0 b0 wj)=_
       rw[hrs]
       split
       ·rfl
       ·rename_i he
        have:=hnone he
        rcases hh:Tm.sb n [u0] [y0'] 0 b0 wj with⟨e1,e2,e3⟩
        rw[hh]at this
        simp only at this
        rw[this]
     have IHc:=IH [u0] [y0'] 0 b0 wj x (fun b=>O b\/b=H\/b=H+1\/b=H+1+1) wr.drew (some ⟨ub,uo,none⟩) uc' (some ⟨sb',so,none⟩) sc' _ HV.out.2.1.2.2.2 hwj rfl (by simp) (by simpa using HUS) (by simpa using HSS) (by omega) (by have:=hinb.1.depth;omega) hinb.1 (.inl hx)
       (fun b e=>by have:=HO.out b e;have:=hU.size;have:wr.drew.heap.size=wr.heap.size:=rfl;omega) (hX.kept (zD.refl zC _).drew) (hEu1.on (zD.refl zC _).drew) (hEs1.on (zD.refl zC _).drew) (hRb.on (zD.refl zC _).drew)
     rw[<-hrs]at hgood hwork hltw IHc
     simp only[List.length_cons,List.length_nil,Nat.zero_add]at IHc
     have HST:=zH (And.intro hstep (And.intro hgood (And.intro hwork hltw)))
     have HL2:Hid (ul=us2.length+1/\ul=ss2.length+1):=zH ⟨by have:=HL.out.1;simpa using this,by have:=HL.out.2.1;simpa using this⟩
     have hd:zD zC wr wr.drew:=(zD.refl zC _).drew
     have hm4:=hm1.kept hd
     have hs4:=hs1.kept hd
     have hq4:=hs4.lt
     have huc1:(1:Int)<=(uc':Int):=by omega
     have hsc1:(1:Int)<=(sc':Int):=by omega
     have hu1:(0:Int)<(ul:Int):=by omega
     have a2:((ul:Int) == 0)=false:=by simp;omega
     have hxb:¬H=x:=by omega
     have hxb1:¬H+1=x:=by omega
     clear hstep hgood hwork hltw hnone hrs HUS HSS hEu1 hEs1 hRb hEl hinb
     go_upto_region 9 with fail
     go_cut []from 48 to 58 (fun wc=>∃(k5:Int)(n5:List UInt8)(i5:Int)(a5:Option Addr)(len5 cap5:Nat),zm wc x (.int .i64 (rs.w:Int)) (.int .i64 rs.e) 181/\zK wc H (.int .i64 k5) (.string (B n5)) (.int .i64 i5) (.slice a5 len5 cap5) 29/\zm wc (H+1) (.string (B f)) (.slice (some ⟨sb',so,none⟩) ul sc') 115/\
       (zM (fun b=>O b\/b=H\/b=H+1\/b=H+1+1) wc rs.t.zN [.int .i64 k5,.string (B n5),.int .i64 i5,.slice a5 len5 cap5]/\zG (fun b=>O b\/b=H\/b=H+1\/b=H+1+1) wc 4 (us2.map Tm.zN) (some ⟨ub,uo+4,none⟩) 0/\zG (fun b=>O b\/b=H\/b=H+1\/b=H+1+1) wc 2 (ss2.map Sm.zN) (some ⟨sb',so+2,none⟩) 0)/\zD (fun b=>b=x\/b=H\/b=H+1) w1 wc)
     case first=>
       go_region_law (first
         |((rw[if_pos (by rfl)]);go_simp;(go_at_call 203);refine IHc.mono ?_;rintro e w5 ⟨⟨⟨k5,n5,i5,a5,len5,cap5,rfl,hR5⟩,hX5⟩,hU5⟩;have hm5:=hm4.zF hU5 hxb;have c5:=hm5.cells;have z5:=hm5.zI;obtain⟨c50,c51,c52,c53⟩:=c5;obtain⟨z50,z51,z52,z53⟩:=z5)
         |fail)
       all_goals
         have hset:=hm5.set (d0:=.int .i64 k5) (d1:=.string (B n5)) (d2:=.int .i64 i5) (d3:=.slice a5 len5 cap5)
         have hs5:=(hs4.zF hU5 hxb1).zF hset.2 (by omega)
         have hX6:=hX5.zF hset.2 (by omega)
         have hU6:=((hU.trans hd (fun _ _ e=>e.elim)).trans hU5 (fun _ _ e=>.inl e)).trans hset.2 (fun _ _ e=>.inr (.inl e))
         have hR6:=zM.zF hset.2 (fun b e=>.inr (.inl e)) _ _ hR5
         have hEu6:=zG.zF hset.2 (fun b e=>.inr (.inl e)) _ _ _ _ (zG.zF hU5 (fun b e=>.inl (by rw[e];exact hx)) _ _ _ _ (hEu2.on hd))
         have hEs6:=zG.zF hset.2 (fun b e=>.inr (.inl e)) _ _ _ _ (zG.zF hU5 (fun b e=>.inl (by rw[e];exact hx)) _ _ _ _ (hEs2.on hd))
         have hm6:=hset.1
         clear hset
         go_wp2_with fail
         go_meet
       all_goals exact⟨k5,n5,i5,a5,len5,cap5,hX6,hm6,hs5,⟨hR6,hEu6,hEs6⟩,hU6⟩
     case rest=>
       obtain⟨k5,n5,i5,a5,len5,cap5,hX6,hm6,hs5,⟨hR6,hEu6,hEs6⟩,hU6⟩:=hcut
       obtain⟨w6,rfl⟩:∃ q,q=wc:=⟨wc,rfl⟩
       clear s0 s1
       obtain⟨s0,s1⟩:=hs5.cells
       obtain⟨t0,t1⟩:=hs5.zI
       have hsz6:=hs5.lt
       have hul1:(1:Int)<=(ul:Int):=by omega
       have e1:us2.length=ul - 1:=by have:=HL2.out.1;omega
       have e2:ss2.length=ul - 1:=by have:=HL2.out.2;omega
       have hRg:R=(if rs.e=0 then Tm.ap (Tm.Xb n) rs.t ss2 us2 rs.w else⟨rs.e,Tm.zT,rs.w⟩):=HST.out.1
       have hg6:rs.e=0->rs.t.isObj=true/\rs.t.small=true/\rs.w<=262144/\262145<=n+rs.w:=fun he=>⟨(HST.out.2.1.elim (fun h=>h.2.1) (fun h=>absurd he h.1)),(HST.out.2.1.elim (fun h=>h.2.2) (fun h=>absurd he h.1)),HST.out.2.2.1 he,by have:=HST.out.2.2.2;have:=HV.out.2.1.2.2.2;omega⟩
       have hal6:(∀ u∈us2,u.isObj=true/\u.small=true)/\(∀ s∈ss2,s.size<=4096):=⟨fun u hu=>HV.out.2.2.1 u (by simp[hu]),fun s hs=>HV.out.2.2.2 s (by simp[hs])⟩
       have HN:=zH (And.intro (And.intro e1 e2) (And.intro hRg (And.intro hg6 hal6)))
       clear hRg hg6 hal6 m0 m1 m2 m3 x0 x1 e1 e2
       go_upto_region 10 with fail
       by_cases hu9:uc'=1
       all_goals by_cases hs9:sc'=1
       all_goals go_region_law (fail)
       all_goals
         go_wp2_with fail
         go_roundw
         case measure=>simp[lenOf];omega
         case rel=>
           have e1:=HN.out.1.1
           have e2:=HN.out.1.2
           first
             |(have hset2:=hs5.set (d0:=.string (B f)) (d1:=.slice (some ⟨sb',so+2,none⟩) (ul - 1) (sc' - 1));have hU9:=hset2.2.drew;have hB9:=hset2.1.kept (zD.refl zC _).drew;exact⟨us2,ss2,rs.t,rs.e,rs.w,k5,i5,n5,a5,len5,cap5,some ⟨ub,uo+4,none⟩,uc' - 1,some ⟨sb',so+2,none⟩,sc' - 1,XS _ _ e1,by omega,HN.out.2.1,HN.out.2.2.1,HN.out.2.2.2,hX6.zF hU9 (by omega),hm6.zF hU9 (by omega),by rw[e2];exact hB9,⟨zM.zF hU9 (fun b e=>.inr (.inr (.inl e))) _ _ hR6,zG.zF hU9 (fun b e=>.inr (.inr (.inl e))) _ _ _ _ hEu6,zG.zF hU9 (fun b e=>.inr (.inr (.inl e))) _ _ _ _ hEs6⟩,hU6.trans hU9 (fun b _ e=>.inr (.inr e))⟩)
             |(have hset2:=hs5.set (d0:=.string (B f)) (d1:=.slice (some ⟨sb',so,none⟩) (ul - 1) (0));have hU9:=hset2.2.drew;have hB9:=hset2.1.kept (zD.refl zC _).drew;exact⟨us2,ss2,rs.t,rs.e,rs.w,k5,i5,n5,a5,len5,cap5,some ⟨ub,uo+4,none⟩,uc' - 1,some ⟨sb',so,none⟩,0,XS _ _ e1,by omega,HN.out.2.1,HN.out.2.2.1,HN.out.2.2.2,hX6.zF hU9 (by omega),hm6.zF hU9 (by omega),by rw[e2];exact hB9,⟨zM.zF hU9 (fun b e=>.inr (.inr (.inl e))) _ _ hR6,zG.zF hU9 (fun b e=>.inr (.inr (.inl e))) _ _ _ _ hEu6,qz (by have:ss2=[]:=List.length_eq_zero_iff.1 (by omega);simp[this])⟩,hU6.trans hU9 (fun b _ e=>.inr (.inr e))⟩)
             |(have hset2:=hs5.set (d0:=.string (B f)) (d1:=.slice (some ⟨sb',so+2,none⟩) (ul - 1) (sc' - 1));have hU9:=hset2.2.drew;have hB9:=hset2.1.kept (zD.refl zC _).drew;exact⟨us2,ss2,rs.t,rs.e,rs.w,k5,i5,n5,a5,len5,cap5,some ⟨ub,uo,none⟩,0,some ⟨sb',so+2,none⟩,sc' - 1,XS _ _ e1,by omega,HN.out.2.1,HN.out.2.2.1,HN.out.2.2.2,hX6.zF hU9 (by omega),hm6.zF hU9 (by omega),by rw[e2];exact hB9,⟨zM.zF hU9 (fun b e=>.inr (.inr (.inl e))) _ _ hR6,qz (by have:us2=[]:=List.length_eq_zero_iff.1 (by omega);simp[this]),zG.zF hU9 (fun b e=>.inr (.inr (.inl e))) _ _ _ _ hEs6⟩,hU6.trans hU9 (fun b _ e=>.inr (.inr e))⟩)
             |(have hset2:=hs5.set (d0:=.string (B f)) (d1:=.slice (some ⟨sb',so,none⟩) (ul - 1) (0));have hU9:=hset2.2.drew;have hB9:=hset2.1.kept (zD.refl zC _).drew;exact⟨us2,ss2,rs.t,rs.e,rs.w,k5,i5,n5,a5,len5,cap5,some ⟨ub,uo,none⟩,0,some ⟨sb',so,none⟩,0,XS _ _ e1,by omega,HN.out.2.1,HN.out.2.2.1,HN.out.2.2.2,hX6.zF hU9 (by omega),hm6.zF hU9 (by omega),by rw[e2];exact hB9,⟨zM.zF hU9 (fun b e=>.inr (.inr (.inl e))) _ _ hR6,qz (by have:us2=[]:=List.length_eq_zero_iff.1 (by omega);simp[this]),qz (by have:ss2=[]:=List.length_eq_zero_iff.1 (by omega);simp[this])⟩,hU6.trans hU9 (fun b _ e=>.inr (.inr e))⟩)
end Go.Proofs.YthgmimncdjhgnaaGreatDoor
