/- Layer 5's made. -/
import Derived.Test.YthgmimncdjhgnaaGreatDoorVCF
import Derived.Test.YthgmimncdjhgnaaGreatDoorVCH
import Derived.Test.YthgmimncdjhgnaaGreatDoorVCI
import Derived.Deep.AppendLies
import Derived.Deep.CutRange
import Derived.Deep.RegionLaw
set_option maxRecDepth 100000
set_option maxHeartbeats 16000000
namespace Go.Proofs.YthgmimncdjhgnaaGreatDoor
open Go.RowKit Go.LF
theorem zDX{w:World}{a:Option Addr}{len cap:Nat}{l:List Int}{U:TypeId}(hl:l.length=len)(hlen:len<=17592186044416)(hE:zH zC w 1 (l.map (xC.int .i64)) a 0):
    yG (w.alloc (.cells #[.slice a len cap,.int .i64 0] U)) w.heap.size:=by
  subst hl;refine⟨l,a,cap,0,?_,?_,?_,Nat.zero_le _,by omega,?_⟩
  ·rw[World.cell?_alloc_new];rfl
  ·rw[World.cell?_alloc_new];rfl
  ·simp
  ·have hf:zH (fun b=>w.heap.size<=b) w 1 (l.map (xC.int .i64)) a 0:=zH.weaken (fun _ _ h=>.inr h) _ _ _ _ (zH.zS 1 _ _ _ hE);exact hf.on ((zD.refl zC w).alloc _)
end Go.Proofs.YthgmimncdjhgnaaGreatDoor
namespace Go.LF.Tm
structure X6(t:Tm)(deep vars zM:Nat):Prop where
  Yf:t.zP=true
  scope:t.scope<=vars
  zM:∀ b,∀ x∈t.nodes b,(x.k == 6)=true->x.i<zM
  depth:t.depth<=deep+1
  size:t.size+1<=2 ^ (deep+1)
  wt:t.wt+5<=5 * 2 ^ (deep+1)
  nml:∀ b,∀ x∈t.nodes b,x.n.length<=4
theorem zBM{nm:List UInt8}{ts:List Tm}{d v m:Nat}(h:Fits (mk 4 nm 0 ts) d v m):X6 (mk 4 nm 0 ts) d v m:=by
  have ho:=h.obj;refine⟨?_,h.scope,h.zM,h.depth,h.size,h.wt,h.nml⟩;rw[isObj]at ho;simp at ho;rw[zP,isAtom];simp[ho]
theorem zHs{a b:Tm}{d v m:Nat}(ha:X6 a d v m)(hb:X6 b d (v+1) m)(nm:List UInt8)(hn:(nm == []|| nm == [95]|| isName nm)=true)(hl:nm.length<=4):X6 (mk 2 nm 0 [a,b]) (d+1) v m:=by
  have h2:2 ^ (d+1+1)=2 * 2 ^ (d+1):=by rw[Nat.pow_succ];omega
  have hp:1<=2 ^ (d+1):=Nat.one_le_two_pow;refine⟨?_,?_,?_,?_,?_,?_,?_⟩
  ·rw[zP];simp[bound,yJ,ha.Yf,hb.Yf];right;simpa[or_assoc]using hn
  ·have:=ha.scope;have:=hb.scope;rw[Tm.scope,scopes,scopes,scopes];simp[under];omega
  ·intro b' x hx h6;rw[zn]at hx;rcases List.mem_cons.1 hx with rfl |hx
   ·simp at h6
   ·simp only[zd,List.append_nil,List.mem_append]at hx;rcases hx with hx |hx
    ·exact ha.zM _ x hx h6
    ·exact hb.zM _ x hx h6
  ·have:=ha.depth;have:=hb.depth;simp[zX];omega
  ·have:=ha.size;have:=hb.size;simp[zQ];omega
  ·have:=ha.wt;have:=hb.wt;simp[ZP];omega
  ·intro b' x hx;rw[zn]at hx;rcases List.mem_cons.1 hx with rfl |hx
   ·exact hl
   ·simp only[zd,List.append_nil,List.mem_append]at hx;rcases hx with hx |hx
    ·exact ha.nml _ x hx
    ·exact hb.nml _ x hx
structure Q6(t:Tm)(sz vars zM:Nat):Prop where
  any:t.isObj=true\/t.zP=true\/t.zR=true
  scope:t.scope<=vars
  zM:∀ b,∀ x∈t.nodes b,(x.k == 6)=true->x.i<zM
  depth:t.depth<=20
  size:t.size<=sz
  wt:t.wt<=5 * sz
theorem Fits.any{t:Tm}{d v m:Nat}(h:Fits t d v m)(hd:d<=12):Q6 t (2 ^ (d+1)+2) v m:=
  ⟨.inl h.obj,h.scope,h.zM,by have:=h.depth;omega,by have:=h.size;omega,by have:=h.wt;omega⟩
theorem X6.any{t:Tm}{d v m:Nat}(h:X6 t d v m)(hd:d<=12):Q6 t (2 ^ (d+1)+2) v m:=
  ⟨.inr (.inl h.Yf),h.scope,h.zM,by have:=h.depth;omega,by have:=h.size;omega,by have:=h.wt;omega⟩
structure zJb(t:Tm)(n d:Nat):Prop where
  knd:t.zR=true
  scope:t.scope<=0
  zM:∀ b,∀ x∈t.nodes b,(x.k == 6)=false
  depth:t.depth<=d+1+n
  size:t.size<=1+n * 2 ^ (d+1)
  wt:t.wt<=1+n * (5 * 2 ^ (d+1))
theorem zJb.any{t:Tm}{n d v m:Nat}(h:zJb t n d)(hn:n<=2)(hd:d<=12):Q6 t (2 ^ (d+2)+2) v m:=by
  have h2:2 ^ (d+2)=2 * 2 ^ (d+1):=by rw[Nat.pow_succ];omega
  have h1:=h.size;have h3:=h.wt;have h4:n * 2 ^ (d+1)<=2 * 2 ^ (d+1):=Nat.mul_le_mul_right _ hn;have h5:n * (5 * 2 ^ (d+1))<=2 * (5 * 2 ^ (d+1)):=Nat.mul_le_mul_right _ hn;refine⟨.inr (.inr h.knd),by have:=h.scope;omega,fun b x hx h6=>?_,by have:=h.depth;omega,by omega,by omega⟩;rw[h.zM b x hx]at h6;cases h6
end Go.LF.Tm
namespace Go.Proofs.YthgmimncdjhgnaaGreatDoor
open Go.RowKit Go.LF
def zDN(base:Nat)(deep vars zM:Nat)(T:Nat)(w:World)(e:Ending)(w':World):Prop:=
  ∃(k i:Int)(n:List UInt8)(a:Option Addr)(len cap:Nat)(t:Tm),e=.returned (.agg #[.int .i64 k,.string (B n),.int .i64 i,.slice a len cap])/\
   zL (fun b=>b<base) w' t.zN [.int .i64 k,.string (B n),.int .i64 i,.slice a len cap]/\Tm.X6 t deep vars zM/\yG w' T/\ze T w'/\zD (yU T) w w'
theorem zCK{W w9:World}{w:World}{T deep vars zM base len:Nat}{kf ix:Int}{nm:List UInt8}{a:Option Addr}{cap:Nat}{ts:List Tm}{U:TypeId}{x0 x1 x2 x3:Value}{hb:Nat}(hw:w.heap.size=hb)(hlen:len=ts.length)(hcap:len<=cap)(hE:zH (fun b=>b<base) W 4 (ts.map Tm.zN) a 0)(hbase:w.heap.size<base)
    (h9:zK w9 hb x0 x1 x2 x3 U/\zD (fun b=>b=hb) W w9) (hfit:Tm.X6 (.mk kf nm ix ts) deep vars zM) (hT:yG W T) (hN:ze T W) (hU:zD (yU T) w W) (hTl:T<w.heap.size):
    zDN w.heap.size deep vars zM T w (.returned (.agg #[.int .i64 kf,.string (B nm),.int .i64 ix,.slice a len cap])) w9:=by
  subst hw;refine⟨kf,ix,nm,a,len,cap,.mk kf nm ix ts,rfl,?_,hfit,hT.Xz h9.2 (fun b e=>by omega),hN.Xz h9.2 (fun b e=>by omega),hU.trans h9.2 (fun b hb e=>by omega)⟩;exact zf.2 ⟨a,cap,by rw[hlen],by omega,zH.weaken (fun b _ e=>by omega) _ _ _ _ (zH.zF h9.2 (fun b e=>by omega) _ _ _ _ hE)⟩
theorem Qz{W:World}{b:Nat}{T':TypeId}{fr:Nat×Nat}(h:W.heap[b]? =some (.cells #[.string (B [110,97,116]),.string (B [118,101,99]),.string (B [116,109])] T' fr))(c:Nat)(hc:(c:Int)<3):
    ∃ nm,W.cell? ⟨b,c,none⟩=some (.string (B nm))/\isName nm=true/\nm.length<=4:=by
  have hcell:∀ i,W.cell? ⟨b,i,none⟩=(#[.string (B [110,97,116]),.string (B [118,101,99]),.string (B [116,109])]:Array Value)[i]? :=fun i=>by simp[World.cell?,h]
  match c,hc with
  |0,_=>exact⟨[110,97,116],hcell 0,by decide,by decide⟩
  |1,_=>exact⟨[118,101,99],hcell 1,by decide,by decide⟩
  |2,_=>exact⟨[116,109],hcell 2,by decide,by decide⟩
  |n+3,h=>omega
abbrev PiS(nb no ncap ab:Nat)(a0 a1 a2 a3:Value)(w':World):Prop:=
  w'.cell? ⟨0,0,none⟩=some (.slice (some ⟨nb,no,none⟩) 6 ncap)/\(∀ j,j<6->w'.cell? ⟨nb,no+j,none⟩=some (.string (B (nameAt j))))/\
  (w'.cell? ⟨ab,0,none⟩=some a0/\w'.cell? ⟨ab,1,none⟩=some a1/\w'.cell? ⟨ab,2,none⟩=some a2/\w'.cell? ⟨ab,3,none⟩=some a3)
theorem PiS.zF{nb no ncap ab:Nat}{a0 a1 a2 a3:Value}{w w':World}{S:Nat->Prop}(h:PiS nb no ncap ab a0 a1 a2 a3 w)(hU:zD S w w')(h0:¬S 0)(hn:¬S nb)(ha:¬S ab):PiS nb no ncap ab a0 a1 a2 a3 w':=
  ⟨hU.cell h.1 h0,fun j hj=>hU.cell (h.2.1 j hj) hn,hU.cell h.2.2.1 ha,hU.cell h.2.2.2.1 ha,hU.cell h.2.2.2.2.1 ha,hU.cell h.2.2.2.2.2 ha⟩
theorem PiS.new{nb no ncap ab:Nat}{a0 a1 a2 a3:Value}{w:World}(h:PiS nb no ncap ab a0 a1 a2 a3 w)(o:Obj):PiS nb no ncap ab a0 a1 a2 a3 (w.alloc o):=
  h.zF ((zD.refl zC w).alloc o) (fun x=>x) (fun x=>x) (fun x=>x)
theorem PiS.set{nb no ncap ab r:Nat}{a0 a1 a2 a3:Value}{w:World}(h:PiS nb no ncap ab a0 a1 a2 a3 w)(h0:0≠r)(hn:nb≠r)(ha:ab≠r)(j:Nat)(v:Value):PiS nb no ncap ab a0 a1 a2 a3 (w.setCell ⟨r,j,none⟩ v):=
  h.zF (zD.set (zD.refl _ w) j v) h0 hn ha
theorem zI3{O:Nat->Prop}{W:World}{t u:Tm}{c0 c1 c2 c3 d0 d1 d2 d3:Value}{b:Nat}{T:TypeId}(h:zL O W t.zN [c0,c1,c2,c3])(h':zL O W u.zN [d0,d1,d2,d3])(hb:¬O b)(hB:W.heap[b]? =some (.cells #[c0,c1,c2,c3,d0,d1,d2,d3] T (0,0))):
    zH O W 4 ([t,u].map Tm.zN) (some ⟨b,0,none⟩) 0:=by
  have hlt:=(Array.getElem?_eq_some_iff.1 hB).1;have hcell:∀ i,W.cell? ⟨b,i,none⟩=(#[c0,c1,c2,c3,d0,d1,d2,d3]:Array Value)[i]? :=fun i=>by simp[World.cell?,hB]
  refine zt _ _ _ (fun i hi=>?_);match i,hi with
  |0,_=>
   refine⟨b,0,_,rfl,hlt,hb,rfl,fun m v hv=>?_,h⟩;rw[hcell];match m,hv with
   |0,hv=>cases hv;rfl
   |1,hv=>cases hv;rfl
   |2,hv=>cases hv;rfl
   |3,hv=>cases hv;rfl
  |1,_=>
   refine⟨b,0,_,rfl,hlt,hb,rfl,fun m v hv=>?_,h'⟩;rw[hcell];match m,hv with
   |0,hv=>cases hv;rfl
   |1,hv=>cases hv;rfl
   |2,hv=>cases hv;rfl
   |3,hv=>cases hv;rfl
theorem zEE(deep:Nat):deep<=12->∀(vars zM:Nat),vars+deep<=1000->zM<=1000->∀(T:Nat)(w:World),yG w T->ze T w->
    Calls Tryz.prog 26 #[.pointer (some ⟨T,0,none⟩),.int .i64 deep,.int .i64 vars,.int .i64 zM] w (zDN w.heap.size deep vars zM T w):=by
  induction deep with
  |zero=>
   intro hd vars zM hv hm T w hT hN;have hres:zK (w.alloc (.cells #[.int .i64 0,.string (B []),.int .i64 0,.slice none 0 0] 29)) w.heap.size (.int .i64 0) (.string (B [])) (.int .i64 0) (.slice none 0 0) 29:=zK.zJ rfl;have hTq:=hT.on ((zD.refl zC w).alloc (.cells #[.int .i64 0,.string (B []),.int .i64 0,.slice none 0 0] 29));have hNq:=hN.on ((zD.refl zC w).alloc (.cells #[.int .i64 0,.string (B []),.int .i64 0,.slice none 0 0] 29));have hUq:=(zD.refl (yU T) w).alloc (.cells #[.int .i64 0,.string (B []),.int .i64 0,.slice none 0 0] 29);obtain⟨D,hD⟩:∃ D:Int,D=((0:Nat):Int):=⟨_,rfl⟩;rw[<-hD];obtain⟨V,hV⟩:∃ V:Int,V=(vars:Int):=⟨_,rfl⟩;obtain⟨M,hM⟩:∃ M:Int,M=(zM:Int):=⟨_,rfl⟩;rw[<-hV,<-hM];have D0:¬0<D:=by omega
   have D1:0<=D:=by omega
   have HD:=zG hD;have HV:=zG hV;have HM:=zG hM;clear hD hV hM;go_enter Tryz.func26,Tryz.ntmps26
   go_wp2_with fail
   have NX:=fun(n:Int)h0 h1 w hT=>ZK n h0 h1 T w hT
   have hTl:=hT.lt;have hresne:w.heap.size≠T:=by omega
   clear hT hN;obtain⟨wq,hwq⟩:∃ wq,wq=w.alloc (.cells #[.int .i64 0,.string (B []),.int .i64 0,.slice none 0 0] 29):=⟨_,rfl⟩;have HQS:=zG (show wq.heap.size=w.heap.size+1 by rw[hwq];simp);rw[<-hwq]at hres hTq hNq hUq;rw[<-hwq];clear hwq
   have HI:∀(x:Int)(W:World),x=D - 1->0<D->yG W T->ze T W->Calls Tryz.prog 28 #[.pointer (some ⟨T,0,none⟩),.int .i64 x,.int .i64 V,.int .i64 M] W (zAB W.heap.size (0 - 1) vars zM T W):=by
     intro x W hx h0 h2 h3;have:=HD.out;rw[hx,HV.out,HM.out,show D - 1=((0 - 1:Nat):Int) by omega];exact qv (0 - 1) (by omega) vars zM (by omega) hm T W h2 h3
   have HDw:=zG (show 0<D->IntKind.i64.wrap (D - 1)=D - 1 by intro _;exact Go.IntWalk.i64_in _ (by omega));have hTql:=hTq.lt;refine(NX _ (by omega) (by omega) _ (hTq.on ((zD.refl zC wq).alloc _))).mono ?_;rintro e w3 ⟨⟨c2,hc2,rfl⟩,hT3,hU3⟩
   have hk3:w3.heap[wq.heap.size]? =some (.cells #[.string (B [110,97,116]),.string (B [118,101,99]),.string (B [116,109])] 9 (0,0)):=by
     rw[hU3.block _ (by simp) (fun e=>by simp only[yU]at e;omega)];exact heap_alloc_new wq _
   obtain⟨nm,hnm,hnn,hnl⟩:=Qz hk3 c2 hc2;rw[HQS.out]at hnm;have d0:(0:Int)<=(c2:Int):=by omega
   have hU3':zD (yU T) wq w3:=((zD.refl (yU T) wq).alloc _).trans hU3 (fun _ _ x=>x);have hres3:=hres.zF hU3' hresne;have hN3:=hNq.zF hU3';have hw3:=hUq.trans hU3' (fun _ _ x=>x);have q3:w.heap.size<w3.heap.size:=hres3.lt;clear hU3 hU3' hk3 hTq hNq hres hUq;go_wp2_with fail
   obtain⟨w4,hw4⟩:∃ w4,w4=w3.alloc (.cells #[.int .i64 4,.string (B nm),.int .i64 0,.slice none 0 0] 29):=⟨_,rfl⟩;have hU4:zD zC w3 w4:=by rw[hw4];exact(zD.refl zC w3).alloc _
   have hout:zK w4 w3.heap.size (.int .i64 4) (.string (B nm)) (.int .i64 0) (.slice none 0 0) 29:=by rw[hw4];exact zK.zJ rfl
   rw[<-hw4];clear hw4;have hoT:w3.heap.size≠T:=by have:=hT3.lt;omega
   have hT3l:=hT3.lt;refine(NX _ (by omega) (by omega) _ (hT3.on hU4)).mono ?_;rintro e w5 ⟨⟨nn,hnn2,rfl⟩,hT5,hU5⟩;have hN5:=(hN3.on hU4).zF hU5;have hres5:=(hres3.kept hU4).zF hU5 hresne;have hout5:=hout.zF hU5 hoT;have hw5:=(hw3.trans hU4 (fun _ _ x=>x.elim)).trans hU5 (fun _ _ x=>x);have q5:w3.heap.size<w5.heap.size:=hout5.lt;clear hU5 hU4 hout hres3 hN3 hT3 hw3 hnm;go_wp2_with fail
   obtain⟨i0,hi,hi0,hi1,hi2⟩:=info_parts xB
   go_loopw [11] (fun v11 wr=>∃(m:Nat)(v:Value)(ts:List Tm)(css:List (List Value)),v11=.int .i64 m/\m+ts.length<=2/\(ts.length=0\/0<D)/\xO w5.heap.size wr v ts css/\(∀ t∈ts,Tm.Fits t (0 - 1) vars zM)/\
       zK wr w3.heap.size (.int .i64 4) (.string (B nm)) (.int .i64 0) v 29/\zK wr w.heap.size (.int .i64 0) (.string (B [])) (.int .i64 0) (.slice none 0 0) 29/\yG wr T/\ze T wr/\zD (yU T) w wr/\w5.heap.size<=wr.heap.size)
     (fun v11 _=>(intOf v11).toNat)
   case atStart=>exact⟨nn,_,[],[],rfl,by simp;omega,.inl rfl,xO.nil _ _,by simp,hout5,hres5,hT5,hN5,hw5,Nat.le_refl _⟩
   case round=>
     obtain⟨m,v,ts,css,rfl,hmt,htD,hts,hfs,hout,hres,hTr,hNr,hwr,hbr⟩:=hrel;obtain⟨b0,b1,b2,b3⟩:=hout.cells;obtain⟨f0,f1,f2,f3⟩:=hout.zI;have hTrl:=hTr.lt;by_cases hm0:0<m/\0<D
     ·obtain⟨hm0,hD0⟩:=hm0;have hm1:(0:Int)<(m:Int):=by omega
      have hDw:=HDw.out hD0;go_wp2_with fail
      go_region_law (first
        |((rw[if_pos (by rfl)]);go_simp;(go_at_call 28);refine(HI _ _ rfl hD0 (hTr.on (zD.refl zC wr).drew) (hNr.on (zD.refl zC wr).drew)).mono ?_;rintro e w6 ⟨k1,i1,n1,a1,len1,cap1,t,rfl,hR6,hF6,hT6,hN6,hU6⟩;have hU6':zD (yU T) wr w6:=zD.trans ((zD.refl (yU T) wr).drew) hU6 (fun _ _ x=>x);have hout6:=hout.zF hU6' hoT;have q6:=hout6.lt;have c6:=hout6.cells.2.2.2;have z6:=hout6.frozen 3;have hs6:=hU6'.size;have hts6:=hts.zF hU6' (fun b e=>(by simp only[yU]at e;omega)))
        |(refine step_append_lies _ (by rfl) _ _ 26 (by rfl) w5.heap.size 29 i0 (.agg #[.int .i64 0,.string (B []),.int .i64 0,.slice none 0 0]) 4 56 (by kernel_rfl) hi hi0 hi1 hi2 rfl (by decide) v ts.length css.flatten (by rfl) ((hts6.on ((zD.refl zC w6).alloc _)).2.2.1) ⟨w6.heap.size,0,none⟩ 1 1 [.int .i64 k1,.string (B n1),.int .i64 i1,.slice a1 len1 cap1] (by rfl) rfl (World.news_of_block (heap_alloc_new w6 _)) (by simp[Value.oneCell']) (by omega) (by simp only[maxLen];omega) (by omega) (by simp;omega) _ rfl ?_;intro g cap' w7 hown hgrow hat hlt;have hout7:=(hout6.kept ((zD.refl zC w6).alloc _)).row hgrow (hts6.on ((zD.refl zC w6).alloc _)) (by omega);have c7:=hout7.cells.2.2.2;have z7:=hout7.frozen 3))
      all_goals
        have hts6':=hts6.on ((zD.refl zC w6).alloc (.cells #[.int .i64 k1,.string (B n1),.int .i64 i1,.slice a1 len1 cap1] 29))
        have hR6':zL (fun b=>b<w5.heap.size\/v.ownBlock=some b) (w6.alloc (.cells #[.int .i64 k1,.string (B n1),.int .i64 i1,.slice a1 len1 cap1] 29)) t.zN [.int .i64 k1,.string (B n1),.int .i64 i1,.slice a1 len1 cap1]:=by
          refine(zL.weaken (fun b _ e=>?_) _ _ hR6).new _;rcases e with e |e
          ·exact Nat.lt_of_lt_of_le e hbr
          ·exact(hts.2.2.1.lt b e).2
        have hT7:=hts6'.appended rfl hR6' hown hgrow hat (Nat.le_refl _);have hset7:zD (fun b=>b=w3.heap.size) w7 (w7.setCell ⟨w3.heap.size,3,none⟩ (.slice (some ⟨g,0,none⟩) (ts.length+1) cap')):=zD.set (zD.refl _ _) 3 _;have hrow7:=zD.ofRow (yH.grown hts6'.2.2.1 hgrow);have hal6:zD zC w6 (w6.alloc (.cells #[.int .i64 k1,.string (B n1),.int .i64 i1,.slice a1 len1 cap1] 29)):=(zD.refl zC w6).alloc _;have hT7':=((hT6.on hal6).Xz hrow7 (fun b e=>by omega)).Xz hset7 (fun b e=>by omega);have hN7':=((hN6.on hal6).Xz hrow7 (fun b e=>by omega)).Xz hset7 (fun b e=>by omega);have hres7:zK (w7.setCell ⟨w3.heap.size,3,none⟩ (.slice (some ⟨g,0,none⟩) (ts.length+1) cap')) w.heap.size _ _ _ _ _:=(((hres.zF hU6' hresne).kept hal6).zF hrow7 (by omega)).zF hset7 (by omega);have hw7U:zD (yU T) w (w7.setCell ⟨w3.heap.size,3,none⟩ (.slice (some ⟨g,0,none⟩) (ts.length+1) cap')):=((((hwr.trans hU6' (fun _ _ x=>x)).trans hal6 (fun _ _ x=>x.elim)).trans hrow7 (fun b hb e=>by omega))).trans hset7 (fun b hb e=>by omega);have hsz7:w5.heap.size<=(w7.setCell ⟨w3.heap.size,3,none⟩ (.slice (some ⟨g,0,none⟩) (ts.length+1) cap')).heap.size:=by have:=hset7.size;have:=hrow7.size;have:=hal6.size;omega
        have hfs7:∀ t'∈ts++[t],Tm.Fits t' (0 - 1) vars zM:=by
          intro t' ht';rcases List.mem_append.1 ht' with h |h
          ·exact hfs t' h
          ·obtain rfl:t'=t:=by simpa using h
           exact hF6
        have hT7s:=hT7.zF hset7 (fun b e=>by omega);go_wp2_with fail
        go_roundw
        case rel=>exact⟨m - 1,_,ts++[t],_,int_eq (by omega),by simp;omega,.inr hD0,hT7s,hfs7,hout7.Yi _,hres7,hT7',hN7',hw7U,hsz7⟩
        case measure=>simp[intOf];omega
     ·obtain⟨r0,r1,r2,r3⟩:=hres.cells;obtain⟨rf0,rf1,rf2,rf3⟩:=hres.zI;have qr:=hres.lt;obtain⟨a,cap,rfl,hcap,hE⟩:=hts.rep
      have hfit':Tm.X6 (.mk 4 nm 0 ts) 0 vars zM:=by
        refine Tm.zBM ?_;rcases htD with h |h
        ·obtain rfl:ts=[]:=List.eq_nil_of_length_eq_zero h;exact(Tm.YV (.inl rfl) (fun _=>⟨hnn,rfl⟩) (fun e=>by omega) (fun e=>by omega) (by omega) (by omega) hnl).mono (Nat.zero_le _)
        ·have hdd:0=(0 - 1)+1:=by have:=HD.out;omega
         rw[hdd];exact Tm.Zs (.inl rfl) (by omega) hfs (fun _=>⟨hnn,rfl⟩) (fun e=>by omega) (fun e=>by omega) (by omega) (by omega) hnl
      obtain⟨len,hlen⟩:∃ len,len=ts.length:=⟨_,rfl⟩;rw[<-hlen]at hout hcap b3;have HL:=zG hlen;clear hlen hfs hts htD;by_cases hm1:(0:Int)<(m:Int)
      case' pos=>
        have hD1:¬0<D:=fun h=>hm0 ⟨by omega,h⟩
        (try exact absurd D0 hD1)
      all_goals
        clear hm0;go_wp2_with fail
        obtain⟨w9,hw9⟩:∃ w9,w9=(((wr.setCell ⟨w.heap.size,0,none⟩ (.int .i64 4)).setCell ⟨w.heap.size,1,none⟩ (.string (B nm))).setCell ⟨w.heap.size,2,none⟩ (.int .i64 0)).setCell ⟨w.heap.size,3,none⟩ (.slice a len cap):=⟨_,rfl⟩;have hset9:=hres.set (d0:=.int .i64 4) (d1:=.string (B nm)) (d2:=.int .i64 0) (d3:=.slice a len cap);rw[<-hw9]at hset9;rw[<-hw9];clear hw9;obtain⟨e0,e1,e2,e3⟩:=hset9.1.cells;refine bodyPost_ret (v:=.agg #[.int .i64 4,.string (B nm),.int .i64 0,.slice a len cap]) ?_ rfl ?_
        ·simp[results,Tryz.f26,go_sem,e0,e1,e2,e3]
        ·exact zCK rfl HL.out hcap hE (by omega) hset9 hfit' hTr hNr hwr hTl
  |succ d ih=>
   intro hd vars zM hv hm T w hT hN;obtain⟨D,hD⟩:∃ D:Int,D=((d+1:Nat):Int):=⟨_,rfl⟩;obtain⟨V,hV⟩:∃ V:Int,V=(vars:Int):=⟨_,rfl⟩;obtain⟨M,hM⟩:∃ M:Int,M=(zM:Int):=⟨_,rfl⟩;rw[<-hD,<-hV,<-hM];have NX:=fun(n:Int)h0 h1 w hT=>ZK n h0 h1 T w hT
   have D0:0<D:=by omega
   have D1:D<=13:=by omega
   have V0:0<=V:=by omega
   have V1:V<=1000:=by omega
   have M0:0<=M:=by omega
   have M1:M<=1000:=by omega
   have HD:=zG hD;have HV:=zG hV;have HM:=zG hM;clear hD hV hM;have hTl:=hT.lt;go_enter Tryz.func26,Tryz.ntmps26
   go_wp2_with fail
   refine(NX _ (by omega) (by omega) _ (hT.on ((zD.refl zC w).alloc _))).mono ?_;rintro e w1 ⟨⟨c,hc,rfl⟩,hT1,hU1⟩;have hw1:zD (yU T) w w1:=(((zD.refl (yU T) w).alloc _)).trans hU1 (fun _ _ x=>x)
   have hres:zK w1 w.heap.size (.int .i64 0) (.string (B [])) (.int .i64 0) (.slice none 0 0) 29:=by
     unfold zK;rw[hU1.block _ (by simp) (fun e=>by simp only[yU]at e;omega)];exact heap_alloc_new w _
   have hNl:ze T w1:=hN.zF hw1;have hresne:w.heap.size≠T:=by omega
   clear hN hU1 hT;obtain rfl |rfl:c=0\/c=1:=by omega
   ·obtain⟨nb,no,ncap,hnc6,hT0,hTnb,hnc,hncs⟩:=hNl.open
    have IH:∀(x y:Int)(vr:Nat)(W:World),x=d->y=vr->vr+d<=1000->yG W T->ze T W->Calls Tryz.prog 26 #[.pointer (some ⟨T,0,none⟩),.int .i64 x,.int .i64 y,.int .i64 M] W (zDN W.heap.size d vr zM T W):=by
      intro x y vr W hx hy h1 h2 h3;rw[hx,hy,HM.out];exact ih (by omega) vr zM h1 hm T W h2 h3
    have hDd:D - 1=(d:Int):=by have:=HD.out;omega
    have hVv:V+1=((vars+1:Nat):Int):=by have:=HV.out;omega
    have HDd:=zG hDd;have HVv:=zG hVv;clear hDd hVv;go_wp2_with fail
    refine(IH _ _ vars _ HDd.out HV.out (by omega) hT1 hNl).mono ?_;rintro e w2 ⟨ka,ia,na,aa,la,ca,ta,rfl,hRa,hFa,hT2,hN2,hU2⟩;have hres2:=hres.zF hU2 hresne;have q1:w.heap.size<w1.heap.size:=hres.lt;have q2:w.heap.size<w2.heap.size:=hres2.lt;go_wp2_with fail
    obtain⟨w3,hw3⟩:∃ w3,w3=w2.alloc (.cells #[.int .i64 ka,.string (B na),.int .i64 ia,.slice aa la ca] 29):=⟨_,rfl⟩;have hU3:zD zC w2 w3:=by rw[hw3];exact(zD.refl zC w2).alloc _
    have hav:zK w3 w2.heap.size (.int .i64 ka) (.string (B na)) (.int .i64 ia) (.slice aa la ca) 29:=by rw[hw3];exact zK.zJ rfl
    rw[<-hw3];clear hw3;have hn2:Zt nb no w2:=hncs.zF hU2 hTnb;have hg2:=hU2.cell hnc (fun e=>by simp only[yU]at e;omega)
    have P3:PiS nb no ncap w2.heap.size (.int .i64 ka) (.string (B na)) (.int .i64 ia) (.slice aa la ca) w3.drew:=
      PiS.zF (S:=zC) ⟨hU3.cell hg2 (fun x=>x),fun j hj=>hU3.cell (hn2 j hj) (fun x=>x),hav.cells⟩ (zD.refl zC w3).drew (fun x=>x) (fun x=>x) (fun x=>x)
    have hres3:=hres2.kept hU3;obtain⟨r0,r1,r2,r3⟩:=hres3.cells;obtain⟨f0,f1,f2,f3⟩:=hres3.zI;have hT3:=hT2.on hU3;have hN3:=hN2.on hU3;have hT2l:=hT2.lt;have hnbl:nb<w1.heap.size:=World.block_lt_of_cell? _ _ (hncs 0 (by decide));have e0:0≠w.heap.size:=by omega
    have en:nb≠w.heap.size:=by omega
    have ea:w2.heap.size≠w.heap.size:=by omega
    have eT:¬yU T 0:=fun e=>hT0 e.symm
    have eTn:¬yU T nb:=fun e=>by simp only[yU]at e;omega
    have eTa:¬yU T w2.heap.size:=fun e=>by simp only[yU]at e;omega
    have hD1w:IntKind.i64.wrap (D - 1)=D - 1:=Go.IntWalk.i64_in _ (by omega);have hV1w:IntKind.i64.wrap (V+1)=V+1:=Go.IntWalk.i64_in _ (by omega);have hRa2:=hRa;clear hnc hncs hn2 hg2 hT1 hNl hres hres2 hav hT2 hN2
    go_region_held3 (fun w'=>PiS nb no ncap w2.heap.size (.int .i64 ka) (.string (B na)) (.int .i64 ia) (.slice aa la ca) w')
      (first |(with_reducible assumption)|(with_reducible exact P3)|(with_reducible exact PiS.new P5 _)|(with_reducible exact PiS.new (PiS.set (PiS.set (PiS.set (PiS.set P5 e0 en ea 0 _) e0 en ea 1 _) e0 en ea 2 _) e0 en ea 3 _) _)|(with_reducible exact PiS.set (PiS.set (PiS.set (PiS.set (PiS.new P5 _) e0 en ea 0 _) e0 en ea 1 _) e0 en ea 2 _) e0 en ea 3 _))
      (first
        |((go_at_call 27);refine(NX _ (by omega) (by omega) _ (hT3.on (zD.refl zC w3).drew)).mono ?_;rintro e w4 ⟨⟨c2,hc2,rfl⟩,hT4,hU4⟩;
           have hU4':zD (yU T) w3 w4:=zD.trans ((zD.refl (yU T) w3).drew) hU4 (fun _ _ x=>x);have hc2n:c2<6:=(by omega);have hc20:(0:Int)<=(c2:Int):=(by omega);have P4:=P3.zF hU4 eT eTn eTa;have hN4:=hN3.zF hU4';have hres4:=hres3.zF hU4' hresne)
        |((go_at_call 26);refine(IH _ _ (vars+1) _ HDd.out HVv.out (by omega) hT4 hN4).mono ?_;rintro e w5 ⟨kb,ib,nb2,ab,lb,cb,tb,rfl,hRb,hFb,hT5,hN5,hU5⟩;have P5:=P4.zF hU5 eT eTn eTa;have hres5:=hres4.zF hU5 hresne;have x5:=hres5.cells;have y5:=hres5.zI;have q5:=hres5.lt))
    go_wp2_with fail
    obtain⟨w6,hw6⟩:∃ w6,w6=((((w5.setCell ⟨w.heap.size,0,none⟩ (.int .i64 2)).setCell ⟨w.heap.size,1,none⟩ (.string (B (nameAt c2)))).setCell ⟨w.heap.size,2,none⟩ (.int .i64 0)).setCell ⟨w.heap.size,3,none⟩ (.slice (some ⟨w5.heap.size,0,none⟩) 2 2)).alloc
        (.cells #[.int .i64 ka,.string (B na),.int .i64 ia,.slice aa la ca,.int .i64 kb,.string (B nb2),.int .i64 ib,.slice ab lb cb] 29):=⟨_,rfl⟩
    have hset:=hres5.set (d0:=.int .i64 2) (d1:=.string (B (nameAt c2))) (d2:=.int .i64 0) (d3:=.slice (some ⟨w5.heap.size,0,none⟩) 2 2);have hU6:zD (fun x=>x=w.heap.size) w5 w6:=by rw[hw6];exact hset.2.alloc _
    have hres6:zK w6 w.heap.size (.int .i64 2) (.string (B (nameAt c2))) (.int .i64 0) (.slice (some ⟨w5.heap.size,0,none⟩) 2 2) 29:=by rw[hw6];exact hset.1.kept ((zD.refl zC _).alloc _)
    have hnew:w6.heap[w5.heap.size]? =some (.cells #[.int .i64 ka,.string (B na),.int .i64 ia,.slice aa la ca,.int .i64 kb,.string (B nb2),.int .i64 ib,.slice ab lb cb] 29 (0,0)):=by
      rw[hw6]
      have:=heap_alloc_new ((((w5.setCell ⟨w.heap.size,0,none⟩ (.int .i64 2)).setCell ⟨w.heap.size,1,none⟩ (.string (B (nameAt c2)))).setCell ⟨w.heap.size,2,none⟩ (.int .i64 0)).setCell ⟨w.heap.size,3,none⟩ (.slice (some ⟨w5.heap.size,0,none⟩) 2 2))
        (.cells #[.int .i64 ka,.string (B na),.int .i64 ia,.slice aa la ca,.int .i64 kb,.string (B nb2),.int .i64 ib,.slice ab lb cb] 29)
      simpa using this
    rw[<-hw6];clear hw6 hset;obtain⟨z0,z1,z2,z3⟩:=hres6.cells;have hw2U:=hw1.trans hU2 (fun _ _ x=>x);have hw5U:=((hw2U.trans hU3 (fun _ _ x=>x.elim)).trans hU4' (fun _ _ x=>x)).trans hU5 (fun _ _ x=>x)
    have hRa6:zL (fun b=>b<w.heap.size+1) w6 ta.zN [.int .i64 ka,.string (B na),.int .i64 ia,.slice aa la ca]:=by
      refine zL.weaken (fun b _ e=>?_) _ _ (zL.zF hU6 (fun b e=>by omega) _ _ (zL.zF hU5 (fun b e=>by simp only[yU]at e;omega) _ _ (zL.zF hU4' (fun b e=>by simp only[yU]at e;omega) _ _ (hRa2.on hU3))));omega
    have q4:=hres4.lt;have hs45:=hU5.size;have hs34:=hU4'.size;have hs23:=hU3.size
    have hRb6:zL (fun b=>b<w.heap.size+1) w6 tb.zN [.int .i64 kb,.string (B nb2),.int .i64 ib,.slice ab lb cb]:=by
      refine zL.weaken (fun b _ e=>?_) _ _ (zL.zF hU6 (fun b e=>by omega) _ _ hRb);omega
    refine bodyPost_ret (v:=.agg #[.int .i64 2,.string (B (nameAt c2)),.int .i64 0,.slice (some ⟨w5.heap.size,0,none⟩) 2 2]) ?_ rfl ?_
    ·simp[results,Tryz.f26,go_sem,z0,z1,z2,z3]
    ·refine⟨2,0,nameAt c2,_,2,2,.mk 2 (nameAt c2) 0 [ta,tb],rfl,?_,Tm.zHs hFa hFb _ (Xo c2).1 (Xo c2).2,hT5.Xz hU6 (fun b e=>by omega),hN5.Xz hU6 (fun b e=>by omega),hw5U.trans hU6 (fun b hb e=>by omega)⟩;exact zf.2 ⟨_,2,rfl,Nat.le_refl _,zH.weaken (fun b _ e=>by omega) _ _ _ _ (zI3 hRa6 hRb6 (by omega) hnew)⟩
   ·obtain⟨wq,hwq⟩:∃ wq,wq=w1:=⟨_,rfl⟩;rw[<-hwq]at hres hT1 hNl hw1;have hTq:=hT1;have hNq:=hNl;have hUq:=hw1;subst hwq;clear hT1 hNl hw1;go_wp2_with fail
    have HI:∀(x:Int)(W:World),x=D - 1->0<D->yG W T->ze T W->Calls Tryz.prog 28 #[.pointer (some ⟨T,0,none⟩),.int .i64 x,.int .i64 V,.int .i64 M] W (zAB W.heap.size ((d+1) - 1) vars zM T W):=by
      intro x W hx h0 h2 h3;have:=HD.out;rw[hx,HV.out,HM.out,show D - 1=(((d+1) - 1:Nat):Int) by omega];exact qv ((d+1) - 1) (by omega) vars zM (by omega) hm T W h2 h3
    have HDw:=zG (show 0<D->IntKind.i64.wrap (D - 1)=D - 1 by intro _;exact Go.IntWalk.i64_in _ (by omega));have hTql:=hTq.lt;refine(NX _ (by omega) (by omega) _ (hTq.on ((zD.refl zC wq).alloc _))).mono ?_;rintro e w3 ⟨⟨c2,hc2,rfl⟩,hT3,hU3⟩
    have hk3:w3.heap[wq.heap.size]? =some (.cells #[.string (B [110,97,116]),.string (B [118,101,99]),.string (B [116,109])] 9 (0,0)):=by
      rw[hU3.block _ (by simp) (fun e=>by simp only[yU]at e;omega)];exact heap_alloc_new wq _
    obtain⟨nm,hnm,hnn,hnl⟩:=Qz hk3 c2 hc2;have d0:(0:Int)<=(c2:Int):=by omega
    have hU3':zD (yU T) wq w3:=((zD.refl (yU T) wq).alloc _).trans hU3 (fun _ _ x=>x);have hres3:=hres.zF hU3' hresne;have hN3:=hNq.zF hU3';have hw3:=hUq.trans hU3' (fun _ _ x=>x);have q3:w.heap.size<w3.heap.size:=hres3.lt;clear hU3 hU3' hk3 hTq hNq hres hUq;go_wp2_with fail
    obtain⟨w4,hw4⟩:∃ w4,w4=w3.alloc (.cells #[.int .i64 4,.string (B nm),.int .i64 0,.slice none 0 0] 29):=⟨_,rfl⟩;have hU4:zD zC w3 w4:=by rw[hw4];exact(zD.refl zC w3).alloc _
    have hout:zK w4 w3.heap.size (.int .i64 4) (.string (B nm)) (.int .i64 0) (.slice none 0 0) 29:=by rw[hw4];exact zK.zJ rfl
    rw[<-hw4];clear hw4;have hoT:w3.heap.size≠T:=by have:=hT3.lt;omega
    have hT3l:=hT3.lt;refine(NX _ (by omega) (by omega) _ (hT3.on hU4)).mono ?_;rintro e w5 ⟨⟨nn,hnn2,rfl⟩,hT5,hU5⟩;have hN5:=(hN3.on hU4).zF hU5;have hres5:=(hres3.kept hU4).zF hU5 hresne;have hout5:=hout.zF hU5 hoT;have hw5:=(hw3.trans hU4 (fun _ _ x=>x.elim)).trans hU5 (fun _ _ x=>x);have q5:w3.heap.size<w5.heap.size:=hout5.lt;clear hU5 hU4 hout hres3 hN3 hT3 hw3 hnm;go_wp2_with fail
    obtain⟨i0,hi,hi0,hi1,hi2⟩:=info_parts xB
    go_loopw [11] (fun v11 wr=>∃(m:Nat)(v:Value)(ts:List Tm)(css:List (List Value)),v11=.int .i64 m/\m+ts.length<=2/\(ts.length=0\/0<D)/\xO w5.heap.size wr v ts css/\(∀ t∈ts,Tm.Fits t ((d+1) - 1) vars zM)/\
        zK wr w3.heap.size (.int .i64 4) (.string (B nm)) (.int .i64 0) v 29/\zK wr w.heap.size (.int .i64 0) (.string (B [])) (.int .i64 0) (.slice none 0 0) 29/\yG wr T/\ze T wr/\zD (yU T) w wr/\w5.heap.size<=wr.heap.size)
      (fun v11 _=>(intOf v11).toNat)
    case atStart=>exact⟨nn,_,[],[],rfl,by simp;omega,.inl rfl,xO.nil _ _,by simp,hout5,hres5,hT5,hN5,hw5,Nat.le_refl _⟩
    case round=>
      obtain⟨m,v,ts,css,rfl,hmt,htD,hts,hfs,hout,hres,hTr,hNr,hwr,hbr⟩:=hrel;obtain⟨b0,b1,b2,b3⟩:=hout.cells;obtain⟨f0,f1,f2,f3⟩:=hout.zI;have hTrl:=hTr.lt;by_cases hm0:0<m/\0<D
      ·obtain⟨hm0,hD0⟩:=hm0;have hm1:(0:Int)<(m:Int):=by omega
       have hDw:=HDw.out hD0;go_wp2_with fail
       go_region_law (first
         |((rw[if_pos (by rfl)]);go_simp;(go_at_call 28);refine(HI _ _ rfl hD0 (hTr.on (zD.refl zC wr).drew) (hNr.on (zD.refl zC wr).drew)).mono ?_;rintro e w6 ⟨k1,i1,n1,a1,len1,cap1,t,rfl,hR6,hF6,hT6,hN6,hU6⟩;have hU6':zD (yU T) wr w6:=zD.trans ((zD.refl (yU T) wr).drew) hU6 (fun _ _ x=>x);have hout6:=hout.zF hU6' hoT;have q6:=hout6.lt;have c6:=hout6.cells.2.2.2;have z6:=hout6.frozen 3;have hs6:=hU6'.size;have hts6:=hts.zF hU6' (fun b e=>(by simp only[yU]at e;omega)))
         |(refine step_append_lies _ (by rfl) _ _ 26 (by rfl) w5.heap.size 29 i0 (.agg #[.int .i64 0,.string (B []),.int .i64 0,.slice none 0 0]) 4 56 (by kernel_rfl) hi hi0 hi1 hi2 rfl (by decide) v ts.length css.flatten (by rfl) ((hts6.on ((zD.refl zC w6).alloc _)).2.2.1) ⟨w6.heap.size,0,none⟩ 1 1 [.int .i64 k1,.string (B n1),.int .i64 i1,.slice a1 len1 cap1] (by rfl) rfl (World.news_of_block (heap_alloc_new w6 _)) (by simp[Value.oneCell']) (by omega) (by simp only[maxLen];omega) (by omega) (by simp;omega) _ rfl ?_;intro g cap' w7 hown hgrow hat hlt;have hout7:=(hout6.kept ((zD.refl zC w6).alloc _)).row hgrow (hts6.on ((zD.refl zC w6).alloc _)) (by omega);have c7:=hout7.cells.2.2.2;have z7:=hout7.frozen 3))
       all_goals
         have hts6':=hts6.on ((zD.refl zC w6).alloc (.cells #[.int .i64 k1,.string (B n1),.int .i64 i1,.slice a1 len1 cap1] 29))
         have hR6':zL (fun b=>b<w5.heap.size\/v.ownBlock=some b) (w6.alloc (.cells #[.int .i64 k1,.string (B n1),.int .i64 i1,.slice a1 len1 cap1] 29)) t.zN [.int .i64 k1,.string (B n1),.int .i64 i1,.slice a1 len1 cap1]:=by
           refine(zL.weaken (fun b _ e=>?_) _ _ hR6).new _;rcases e with e |e
           ·exact Nat.lt_of_lt_of_le e hbr
           ·exact(hts.2.2.1.lt b e).2
         have hT7:=hts6'.appended rfl hR6' hown hgrow hat (Nat.le_refl _);have hset7:zD (fun b=>b=w3.heap.size) w7 (w7.setCell ⟨w3.heap.size,3,none⟩ (.slice (some ⟨g,0,none⟩) (ts.length+1) cap')):=zD.set (zD.refl _ _) 3 _;have hrow7:=zD.ofRow (yH.grown hts6'.2.2.1 hgrow);have hal6:zD zC w6 (w6.alloc (.cells #[.int .i64 k1,.string (B n1),.int .i64 i1,.slice a1 len1 cap1] 29)):=(zD.refl zC w6).alloc _;have hT7':=((hT6.on hal6).Xz hrow7 (fun b e=>by omega)).Xz hset7 (fun b e=>by omega);have hN7':=((hN6.on hal6).Xz hrow7 (fun b e=>by omega)).Xz hset7 (fun b e=>by omega);have hres7:zK (w7.setCell ⟨w3.heap.size,3,none⟩ (.slice (some ⟨g,0,none⟩) (ts.length+1) cap')) w.heap.size _ _ _ _ _:=(((hres.zF hU6' hresne).kept hal6).zF hrow7 (by omega)).zF hset7 (by omega);have hw7U:zD (yU T) w (w7.setCell ⟨w3.heap.size,3,none⟩ (.slice (some ⟨g,0,none⟩) (ts.length+1) cap')):=((((hwr.trans hU6' (fun _ _ x=>x)).trans hal6 (fun _ _ x=>x.elim)).trans hrow7 (fun b hb e=>by omega))).trans hset7 (fun b hb e=>by omega);have hsz7:w5.heap.size<=(w7.setCell ⟨w3.heap.size,3,none⟩ (.slice (some ⟨g,0,none⟩) (ts.length+1) cap')).heap.size:=by have:=hset7.size;have:=hrow7.size;have:=hal6.size;omega
         have hfs7:∀ t'∈ts++[t],Tm.Fits t' ((d+1) - 1) vars zM:=by
           intro t' ht';rcases List.mem_append.1 ht' with h |h
           ·exact hfs t' h
           ·obtain rfl:t'=t:=by simpa using h
            exact hF6
         have hT7s:=hT7.zF hset7 (fun b e=>by omega);go_wp2_with fail
         go_roundw
         case rel=>exact⟨m - 1,_,ts++[t],_,int_eq (by omega),by simp;omega,.inr hD0,hT7s,hfs7,hout7.Yi _,hres7,hT7',hN7',hw7U,hsz7⟩
         case measure=>simp[intOf];omega
      ·obtain⟨r0,r1,r2,r3⟩:=hres.cells;obtain⟨rf0,rf1,rf2,rf3⟩:=hres.zI;have qr:=hres.lt;obtain⟨a,cap,rfl,hcap,hE⟩:=hts.rep
       have hfit':Tm.X6 (.mk 4 nm 0 ts) (d+1) vars zM:=by
         refine Tm.zBM ?_;rcases htD with h |h
         ·obtain rfl:ts=[]:=List.eq_nil_of_length_eq_zero h;exact(Tm.YV (.inl rfl) (fun _=>⟨hnn,rfl⟩) (fun e=>by omega) (fun e=>by omega) (by omega) (by omega) hnl).mono (Nat.zero_le _)
         ·have hdd:(d+1)=((d+1) - 1)+1:=by have:=HD.out;omega
          rw[hdd];exact Tm.Zs (.inl rfl) (by omega) hfs (fun _=>⟨hnn,rfl⟩) (fun e=>by omega) (fun e=>by omega) (by omega) (by omega) hnl
       obtain⟨len,hlen⟩:∃ len,len=ts.length:=⟨_,rfl⟩;rw[<-hlen]at hout hcap b3;have HL:=zG hlen;clear hlen hfs hts htD;by_cases hm1:(0:Int)<(m:Int)
       case' pos=>
         have hD1:¬0<D:=fun h=>hm0 ⟨by omega,h⟩
         (try exact absurd D0 hD1)
       all_goals
         clear hm0;go_wp2_with fail
         obtain⟨w9,hw9⟩:∃ w9,w9=(((wr.setCell ⟨w.heap.size,0,none⟩ (.int .i64 4)).setCell ⟨w.heap.size,1,none⟩ (.string (B nm))).setCell ⟨w.heap.size,2,none⟩ (.int .i64 0)).setCell ⟨w.heap.size,3,none⟩ (.slice a len cap):=⟨_,rfl⟩;have hset9:=hres.set (d0:=.int .i64 4) (d1:=.string (B nm)) (d2:=.int .i64 0) (d3:=.slice a len cap);rw[<-hw9]at hset9;rw[<-hw9];clear hw9;obtain⟨e0,e1,e2,e3⟩:=hset9.1.cells;refine bodyPost_ret (v:=.agg #[.int .i64 4,.string (B nm),.int .i64 0,.slice a len cap]) ?_ rfl ?_
         ·simp[results,Tryz.f26,go_sem,e0,e1,e2,e3]
         ·exact zCK rfl HL.out hcap hE (by omega) hset9 hfit' hTr hNr hwr hTl
end Go.Proofs.YthgmimncdjhgnaaGreatDoor
namespace Go.Proofs.YthgmimncdjhgnaaGreatDoor
open Go.RowKit Go.LF
theorem Qj{O:Nat->Prop}{W:World}:∀(ts:List Tm)(a:Option Addr)(j:Nat),zH O W 4 (ts.map Tm.zN) a j->
    ∃ css:List (List Value),css.length=ts.length/\(∀ cs∈css,cs.length=4)/\(∀ u∈css.flatten,u.oneCell'=true)/\(∀ i u,css.flatten[i]? =some u->∃ b o,a=some ⟨b,o,none⟩/\W.cell? ⟨b,o+j+i,none⟩=some u)/\
      ∀ i(h:i<ts.length)(h':i<css.length),zL O W ts[i].zN css[i]
  | [],_,_,_=>⟨[],rfl,by simp,by simp,by simp,fun i h=>by simp at h⟩
  |t :: ts,a,j,h=>by
   simp only[List.map_cons,zH]at h;obtain⟨⟨b,o,cs,rfl,hb,hO,hl,hc,hr⟩,hrest⟩:=h;obtain⟨css,h1,h2,h3,h4,h5⟩:=Qj ts _ (j+4) hrest;obtain⟨k,n,i,l,a',cap',ht,hcs,_⟩:=zW hr;refine⟨cs :: css,by simp[h1],?_,?_,?_,?_⟩
   ·intro x hx;rcases List.mem_cons.1 hx with rfl |hx
    ·exact hl
    ·exact h2 x hx
   ·intro u hu;rw[List.flatten_cons,List.mem_append]at hu;rcases hu with hu |hu
    ·rw[hcs]at hu;simp only[List.mem_cons,List.not_mem_nil,or_false]at hu;rcases hu with rfl |rfl |rfl |rfl<;>rfl
    ·exact h3 u hu
   ·intro m u hu;rw[List.flatten_cons]at hu;by_cases hm:m<cs.length
    ·rw[List.getElem?_append_left hm]at hu;exact⟨b,o,rfl,hc m u hu⟩
    ·rw[List.getElem?_append_right (by omega)]at hu;obtain⟨b',o',e,hc'⟩:=h4 _ u hu;cases e
     refine⟨b,o,rfl,?_⟩;rw[show o+j+m=o+(j+4)+(m - cs.length) by omega];exact hc'
   ·intro m hm hm';cases m with
    |zero=>exact hr
    |succ m=>exact h5 m (by simpa using hm) (by simpa using hm')
def ZV(O:Nat->Prop)(base:Nat)(W:World)(v:Value)(ts:List Tm)(css:List (List Value)):Prop:=
  css.length=ts.length/\(∀ cs∈css,cs.length=4)/\W.ownsRow base 29 4 v ts.length css.flatten/\∀ i(h:i<ts.length)(h':i<css.length),zL (fun b=>O b\/base<=b) W ts[i].zN css[i]
theorem ZV.zF{O:Nat->Prop}{base:Nat}{W W':World}{v:Value}{ts:List Tm}{css:List (List Value)}{S:Nat->Prop}(h:ZV O base W v ts css)(hU:zD S W W')(hS:∀ b,S b->base<=b/\v.ownBlock≠some b):ZV O base W' v ts css:=by
  obtain⟨h1,h2,h3,h4⟩:=h;refine⟨h1,h2,⟨h3.1,?_⟩,fun i h h'=>zL.zF hU (fun b hb=>.inr (hS b hb).1) _ _ (h4 i h h')⟩;rcases h3.2 with h5 |⟨g,cap,cur,rfl,hb,hg,rest⟩
  ·exact .inl h5
  ·exact .inr ⟨g,cap,cur,rfl,hb,(hU.block g (Array.getElem?_eq_some_iff.1 hg).1 (fun e=>(hS g e).2 rfl)).trans hg,rest⟩
theorem ZV.on{O:Nat->Prop}{base:Nat}{W W':World}{v:Value}{ts:List Tm}{css:List (List Value)}(h:ZV O base W v ts css)(hU:zD zC W W'):ZV O base W' v ts css:=h.zF hU (fun _ x=>x.elim)
theorem ZV.cells{O:Nat->Prop}{base:Nat}{W:World}{v:Value}{ts:List Tm}{css:List (List Value)}(h:ZV O base W v ts css):∃ a cap,v=.slice a ts.length cap/\ts.length<=cap/\
    ∀ i(hi:i<ts.length)(hi':i<css.length),∃ g,a=some ⟨g,0,none⟩/\v.ownBlock=some g/\base<=g/\g<W.heap.size/\(∀ o,W.frozen? ⟨g,o,none⟩=false)/\∀ m u,css[i][m]? =some u->W.cell? ⟨g,i * 4+m,none⟩=some u:=by
  obtain⟨h1,h2,h3,h4⟩:=h;rcases h3.2 with⟨rfl,h0⟩|⟨g,cap,cur,rfl,hb,hg,hnc,_⟩
  ·exact⟨none,0,by rw[h0],by omega,fun i hi=>by omega⟩
  ·refine⟨_,cap,rfl,hnc,fun i hi hi'=>⟨g,rfl,rfl,hb,(Array.getElem?_eq_some_iff.1 hg).1,fun o=>by simp[World.frozen?,hg],fun m u hu=>?_⟩⟩;have:=h3.cells (g:=g) rfl _ u ((zDk css h2).2 i hi' m u hu);have hadd:(⟨g,0,none⟩:Addr).add (i * 4+m)=⟨g,i * 4+m,none⟩:=by unfold Addr.add;split<;>simp_all
   rwa [hadd]at this
theorem ZV.rep{O:Nat->Prop}{base:Nat}{W:World}{v:Value}{ts:List Tm}{css:List (List Value)}(h:ZV O base W v ts css):∃ a cap,v=.slice a ts.length cap/\ts.length<=cap/\zH (fun b=>(O b/\b<base)\/(base<=b/\v.ownBlock≠some b)) W 4 (ts.map Tm.zN) a 0:=by
  obtain⟨a,cap,hv,hcap,hc⟩:=h.cells;refine⟨a,cap,hv,hcap,zt _ _ _ (fun i hi=>?_)⟩;simp only[List.length_map]at hi;have hi':i<css.length:=by have:=h.1;omega
  obtain⟨g,rfl,hown,hb,hlt,_,hg⟩:=hc i hi hi';refine⟨g,0,css[i],rfl,hlt,fun x=>x.elim (fun y=>by omega) (fun y=>y.2 hown),h.2.1 _ (List.getElem_mem hi'),fun m u hu=>?_,?_⟩
  ·rw[show 0+0+i * 4+m=i * 4+m by omega];exact hg m u hu
  ·simp only[List.getElem_map];exact zL.weaken (fun _ _ x=>x.elim (fun y=>.inl y.1) (fun y=>.inr y.1)) _ _ (h.2.2.2 i hi hi')
theorem ZV.new{O:Nat->Prop}{base len:Nat}{w W w7:World}{ts:List Tm}{css:List (List Value)}{g cap:Nat}(h1:css.length=ts.length)(h2:∀ cs∈css,cs.length=4)(h5:∀ i(h:i<ts.length)(h':i<css.length),zL (fun b=>O b\/base<=b) w ts[i].zN css[i])(hl:len=ts.length)
    (hU:zD zC w W) (hown:w7.ownsRow base 29 4 (.slice (some ⟨g,0,none⟩) (0+len) cap) (0+len) ([]++css.flatten)) (hg:W.grownBy w7 none):ZV O base w7 (.slice (some ⟨g,0,none⟩) len cap) ts css:=by
  subst hl;refine⟨h1,h2,by simpa using hown,fun i h h'=>?_⟩;have hU7:zD zC W w7:=⟨hg.os,hg.tape,hg.output,hg.size,fun k hk _=>hg.block k hk (by simp)⟩;exact((h5 i h h').on hU).on hU7
theorem ZV.leaf{O:Nat->Prop}{base:Nat}{W w':World}{v:Value}{ts:List Tm}{css:List (List Value)}{k i:Int}{n:List UInt8}{g cap:Nat}(h:ZV O base W v ts css)
    (hown:w'.ownsRow base 29 4 (.slice (some ⟨g,0,none⟩) (ts.length+1) cap) (ts.length+1) (css.flatten++[.int .i64 k,.string (B n),.int .i64 i,.slice none 0 0])) (hg:W.grownBy w' v.ownBlock):
    ZV O base w' (.slice (some ⟨g,0,none⟩) (ts.length+1) cap) (ts++[.mk k n i []]) (css++[[.int .i64 k,.string (B n),.int .i64 i,.slice none 0 0]]):=by
  obtain⟨h1,h2,h3,h4⟩:=h;have hcel:Y0 (fun b=>O b\/base<=b) W w':=⟨hg.size,fun b o u hb hu=>hg.cell hu (fun e=>hb (.inr (h3.lt b e.symm).1))⟩;refine⟨by simp[h1],?_,by simpa using hown,fun i hi hi'=>?_⟩
  ·intro c hc;rcases List.mem_append.1 hc with hc |hc
   ·exact h2 c hc
   ·obtain rfl:=List.mem_singleton.1 hc;rfl
  ·by_cases hlt:i<ts.length
   ·rw[List.getElem_append_left hlt,List.getElem_append_left (by omega)];exact zL.carry hcel _ _ (h4 i hlt (by omega))
   ·have e1:i=ts.length:=by simp at hi;omega
    subst e1;rw[List.getElem_append_right (Nat.le_refl _),List.getElem_append_right (by omega)];simp only[h1,Nat.sub_self,List.getElem_cons_zero];exact zj _ _ _
theorem zBg{W w7:World}(hg:W.grownBy w7 (Value.slice none 0 0).ownBlock):zD zC W w7:=⟨hg.os,hg.tape,hg.output,hg.size,fun k hk _=>hg.block k hk (by simp[Value.ownBlock])⟩
abbrev YS(b:Nat)(c0 c1 c2 c3:Value)(w':World):Prop:=w'.cell? ⟨b,0,none⟩=some c0/\w'.cell? ⟨b,1,none⟩=some c1/\w'.cell? ⟨b,2,none⟩=some c2/\w'.cell? ⟨b,3,none⟩=some c3
theorem YS.zF{b:Nat}{c0 c1 c2 c3:Value}{w w':World}{S:Nat->Prop}(h:YS b c0 c1 c2 c3 w)(hU:zD S w w')(hS:¬S b):YS b c0 c1 c2 c3 w':=⟨hU.cell h.1 hS,hU.cell h.2.1 hS,hU.cell h.2.2.1 hS,hU.cell h.2.2.2 hS⟩
theorem YS.new{b:Nat}{c0 c1 c2 c3:Value}{w:World}(h:YS b c0 c1 c2 c3 w)(o:Obj):YS b c0 c1 c2 c3 (w.alloc o):=h.zF ((zD.refl zC w).alloc o) (fun x=>x)
theorem YS.set{b r:Nat}{c0 c1 c2 c3:Value}{w:World}(h:YS b c0 c1 c2 c3 w)(hr:b≠r)(j:Nat)(v:Value):YS b c0 c1 c2 c3 (w.setCell ⟨r,j,none⟩ v):=h.zF (zD.set (zD.refl _ w) j v) hr
theorem Zq{W:World}{g o:Nat}{c0 c1 c2 c3 d0 d1 d2 d3:Value}(h0:W.cell? ⟨g,o,none⟩=some c0)(h1:W.cell? ⟨g,o+1,none⟩=some c1)(h2:W.cell? ⟨g,o+2,none⟩=some c2)(h3:W.cell? ⟨g,o+3,none⟩=some c3){W':World}
    (hW:W'=(((W.setCell ⟨g,o,none⟩ d0).setCell ⟨g,o+1,none⟩ d1).setCell ⟨g,o+2,none⟩ d2).setCell ⟨g,o+3,none⟩ d3):
    (W'.cell? ⟨g,o,none⟩=some d0/\W'.cell? ⟨g,o+1,none⟩=some d1/\W'.cell? ⟨g,o+2,none⟩=some d2/\W'.cell? ⟨g,o+3,none⟩=some d3)/\
    (∀ x,x≠o->x≠o+1->x≠o+2->x≠o+3->W'.cell? ⟨g,x,none⟩=W.cell? ⟨g,x,none⟩)/\zD (fun b=>b=g) W W':=by
  have ne:∀ x y:Nat,x≠y->(⟨g,x,none⟩:Addr)≠⟨g,y,none⟩:=fun x y h e=>h (by cases e;rfl)
  have other:∀(V:World)(x y:Nat)(v:Value),x≠y->(V.setCell ⟨g,x,none⟩ v).cell? ⟨g,y,none⟩=V.cell? ⟨g,y,none⟩:=fun V x y v h=>World.cell?_setCell_other _ _ _ _ (ne x y h)
  subst hW;refine⟨⟨?_,?_,?_,?_⟩,?_,?_⟩
  ·rw[other _ _ _ _ (by omega),other _ _ _ _ (by omega),other _ _ _ _ (by omega)];exact World.cell?_setCell_same _ _ _ h0
  ·rw[other _ _ _ _ (by omega),other _ _ _ _ (by omega)];exact World.cell?_setCell_same _ _ _ (by rw[other _ _ _ _ (by omega)];exact h1)
  ·rw[other _ _ _ _ (by omega)];exact World.cell?_setCell_same _ _ _ (by rw[other _ _ _ _ (by omega),other _ _ _ _ (by omega)];exact h2)
  ·exact World.cell?_setCell_same _ _ _ (by rw[other _ _ _ _ (by omega),other _ _ _ _ (by omega),other _ _ _ _ (by omega)];exact h3)
  ·intro x h0 h1 h2 h3;rw[other _ _ _ _ (Ne.symm h3),other _ _ _ _ (Ne.symm h2),other _ _ _ _ (Ne.symm h1),other _ _ _ _ (Ne.symm h0)]
  ·exact zD.set (zD.set (zD.set (zD.set (zD.refl _ W) _ _) _ _) _ _) _ _
theorem yI{w w':World}{v:Value}(h:w.grownBy w' v.ownBlock):zD (fun b=>v.ownBlock=some b) w w':=⟨h.os,h.tape,h.output,h.size,fun k hk hn=>h.block k hk (fun e=>hn e.symm)⟩
end Go.Proofs.YthgmimncdjhgnaaGreatDoor
namespace Go.Proofs.YthgmimncdjhgnaaGreatDoor
open Go.RowKit Go.LF
abbrev TvS(W:World)(b:Nat)(k1:Int)(n1:List UInt8)(i1:Int)(a1:Option Addr)(len1 cap1:Nat)(w':World):Prop:=
  (w'.cell? ⟨b,0,none⟩=some (.int .i64 k1)/\w'.cell? ⟨b,1,none⟩=some (.string (B n1))/\w'.cell? ⟨b,2,none⟩=some (.int .i64 i1)/\w'.cell? ⟨b,3,none⟩=some (.slice a1 len1 cap1))/\zD zC W w'
theorem TvS.on{W w' w1:World}{b:Nat}{k1:Int}{n1:List UInt8}{i1:Int}{a1:Option Addr}{len1 cap1:Nat}(h:TvS W b k1 n1 i1 a1 len1 cap1 w')(hU:zD zC w' w1):TvS W b k1 n1 i1 a1 len1 cap1 w1:=⟨XL hU h.1,h.2.and hU⟩
theorem TvS.up{W w':World}{b:Nat}{k1:Int}{n1:List UInt8}{i1:Int}{a1:Option Addr}{len1 cap1:Nat}(h:TvS W b k1 n1 i1 a1 len1 cap1 w'):zD zC W w':=h.2
end Go.Proofs.YthgmimncdjhgnaaGreatDoor
