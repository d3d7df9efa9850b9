/- akO 5's made. -/
import Derived.Test.YthgmimncdjhgnaaGreatDoorXCI
import Derived.Deep.CutRange
set_option maxRecDepth 100000
set_option maxHeartbeats 16000000
namespace Go.Proofs.YthgmimncdjhgnaaGreatDoor
open Go.RowKit Go.LF
theorem Di{w:World}{a:Option Addr}{len cap:Nat}{l:List Int}{U:TypeId}(hl:l.length=len)(hlen:len<=17592186044416)(hE:ai ae w 1 (l.map (fB.int .i64)) a 0):
    bL (w.alloc (.cells #[.slice a len cap,.int .i64 0] U)) w.heap.size:=by
  subst hl;refine⟨l,a,cap,0,?_,?_,?_,Nat.zero_le _,by omega,?_⟩
  ·rw[World.cell?_alloc_new];rfl
  ·rw[World.cell?_alloc_new];rfl
  ·simp
  have hf:ai (fun b=>w.heap.size<=b) w 1 (l.map (fB.int .i64)) a 0:=ai.weaken (fun _ _ h=>.inr h) _ _ _ _ (ai.aG 1 _ _ _ hE);exact hf.on ((af.refl ae w).alloc _)
end Go.Proofs.YthgmimncdjhgnaaGreatDoor
namespace Go.LF.Tm
structure nJ(t:Tm)(deep vars ay:Nat):Prop where
  kQ:t.aC=true
  scope:t.scope<=vars
  ay:∀ b,∀ x∈t.nodes b,(x.k == 6)=true->x.i<ay
  depth:t.depth<=deep+1
  size:t.size+1<=2 ^ (deep+1)
  wt:t.wt+5<=5 * 2 ^ (deep+1)
  LX:∀ b,∀ x∈t.nodes b,x.n.length<=4
theorem xu{nm:List UInt8}{ts:List Tm}{d v m:Nat}(h:Fits (mk 4 nm 0 ts) d v m):nJ (mk 4 nm 0 ts) d v m:=by
  have ho:=h.obj;refine⟨?_,h.scope,h.ay,h.depth,h.size,h.wt,h.LX⟩;rw[isObj]at ho;simp at ho;rw[aC,isAtom];simp[ho]
theorem Ma{a b:Tm}{d v m:Nat}(ha:nJ a d v m)(hb:nJ b d (v+1) m)(nm:List UInt8)(hn:(nm == []|| nm == [95]|| isName nm)=true)(hl:nm.length<=4):nJ (mk 2 nm 0 [a,b]) (d+1) v m:=by
  have h2:2 ^ (d+1+1)=2 * 2 ^ (d+1):=by rw[Nat.pow_succ];omega
  have hp:1<=2 ^ (d+1):=Nat.one_le_two_pow;refine⟨?_,?_,?_,?_,?_,?_,?_⟩
  ·rw[aC];simp[bound,cI,ha.kQ,hb.kQ];right;simpa[or_assoc]using hn
  ·have:=ha.scope;have:=hb.scope;rw[Tm.scope,scopes,scopes,scopes];simp[under];omega
  ·intro b' x hx h6;rw[br]at hx;rcases List.mem_cons.1 hx with rfl |hx
   ·simp at h6
   simp only[bh,List.append_nil,List.mem_append]at hx;rcases hx with hx |hx
   ·exact ha.ay _ x hx h6
   exact hb.ay _ x hx h6
  ·have:=ha.depth;have:=hb.depth;simp[aQ];omega
  ·have:=ha.size;have:=hb.size;simp[aD];omega
  ·have:=ha.wt;have:=hb.wt;simp[eV];omega
  intro b' x hx;rw[br]at hx;rcases List.mem_cons.1 hx with rfl |hx
  ·exact hl
  simp only[bh,List.append_nil,List.mem_append]at hx;rcases hx with hx |hx
  ·exact ha.LX _ x hx
  exact hb.LX _ x hx
structure pg(t:Tm)(sz vars ay:Nat):Prop where
  any:t.isObj=true\/t.aC=true\/t.aI=true
  scope:t.scope<=vars
  ay:∀ b,∀ x∈t.nodes b,(x.k == 6)=true->x.i<ay
  depth:t.depth<=20
  size:t.size<=sz
  wt:t.wt<=5 * sz
theorem Fits.any{t:Tm}{d v m:Nat}(h:Fits t d v m)(hd:d<=12):pg t (2 ^ (d+1)+2) v m:=
  ⟨.inl h.obj,h.scope,h.ay,by have:=h.depth;omega,by have:=h.size;omega,by have:=h.wt;omega⟩
theorem nJ.any{t:Tm}{d v m:Nat}(h:nJ t d v m)(hd:d<=12):pg t (2 ^ (d+1)+2) v m:=
  ⟨.inr (.inl h.kQ),h.scope,h.ay,by have:=h.depth;omega,by have:=h.size;omega,by have:=h.wt;omega⟩
structure zC(t:Tm)(n d:Nat):Prop where
  knd:t.aI=true
  scope:t.scope<=0
  ay:∀ b,∀ x∈t.nodes b,(x.k == 6)=false
  depth:t.depth<=d+1+n
  size:t.size<=1+n * 2 ^ (d+1)
  wt:t.wt<=1+n * (5 * 2 ^ (d+1))
theorem F8(d:Nat):zC (mk 1 [] 0 []) 0 d:=by
  refine⟨by decide,by decide,?_,by simp[aQ],by simp[aD],by simp[eV]⟩;intro b x hx;rw[br]at hx;simp[bh]at hx;subst hx;rfl
theorem MQ{a k:Tm}{n d:Nat}(ha:nJ a d 0 0)(hk:zC k n d):zC (mk 2 [] 0 [a,k]) (n+1) d:=by
  have hp:1<=2 ^ (d+1):=Nat.one_le_two_pow;refine⟨?_,?_,?_,?_,?_,?_⟩
  ·rw[aI];simp[bound,ha.kQ,hk.knd]
  ·have:=ha.scope;have:=hk.scope;rw[Tm.scope,scopes,scopes,scopes];simp[under];omega
  ·intro b x hx;rw[br]at hx;rcases List.mem_cons.1 hx with rfl |hx
   ·rfl
   simp only[bh,List.append_nil,List.mem_append]at hx;rcases hx with hx |hx
   ·cases h6:(x.k == 6)with
    |false=>rfl
    |true=>
     have h1:=ha.ay _ x hx h6;have h2:=((xw a ha.kQ _ x hx).2.1 h6).1;omega
   exact hk.ay _ x hx
  ·have:=ha.depth;have:=hk.depth;simp[aQ];omega
  ·have:=ha.size;have:=hk.size;simp[aD,Nat.add_mul];omega
  have:=ha.wt;have:=hk.wt;simp[eV,Nat.add_mul];omega
theorem zC.any{t:Tm}{n d v m:Nat}(h:zC t n d)(hn:n<=2)(hd:d<=12):pg t (2 ^ (d+2)+2) v m:=by
  have h2:2 ^ (d+2)=2 * 2 ^ (d+1):=by rw[Nat.pow_succ];omega
  have h1:=h.size;have h3:=h.wt;have h4:n * 2 ^ (d+1)<=2 * 2 ^ (d+1):=Nat.mul_le_mul_right _ hn;have h5:n * (5 * 2 ^ (d+1))<=2 * (5 * 2 ^ (d+1)):=Nat.mul_le_mul_right _ hn;refine⟨.inr (.inr h.knd),by have:=h.scope;omega,fun b x hx h6=>?_,by have:=h.depth;omega,by omega,by omega⟩;rw[h.ay b x hx]at h6;cases h6
end Go.LF.Tm
namespace Go.Proofs.YthgmimncdjhgnaaGreatDoor
open Go.RowKit Go.LF
def xA(base:Nat)(deep vars ay:Nat)(T:Nat)(w:World)(e:Ending)(w':World):Prop:=
  ∃(k i:Int)(n:List UInt8)(a:Option Addr)(len cap:Nat)(t:Tm),e=.returned (.agg #[.int .i64 k,.string (B n),.int .i64 i,.slice a len cap])/\
   aw (fun b=>b<base) w' t.az [.int .i64 k,.string (B n),.int .i64 i,.slice a len cap]/\Tm.nJ t deep vars ay/\bL w' T/\aW T w'/\af (cv T) w w'
theorem zx{W w9:World}{w:World}{T deep vars ay base len:Nat}{kf ix:Int}{nm:List UInt8}{a:Option Addr}{cap:Nat}{ts:List Tm}{U:TypeId}{x0 x1 x2 x3:Value}{hb:Nat}(hw:w.heap.size=hb)(hlen:len=ts.length)(aX:len<=cap)(hE:ai (fun b=>b<base) W 4 (ts.map Tm.az) a 0)(dh:w.heap.size<base)
    (h9:au w9 hb x0 x1 x2 x3 U/\af (fun b=>b=hb) W w9) (sD:Tm.nJ (.mk kf nm ix ts) deep vars ay) (hT:bL W T) (hN:aW T W) (hU:af (cv T) w W) (lD:T<w.heap.size):
    xA w.heap.size deep vars ay T w (.returned (.agg #[.int .i64 kf,.string (B nm),.int .i64 ix,.slice a len cap])) w9:=by
  subst hw;refine⟨kf,ix,nm,a,len,cap,.mk kf nm ix ts,rfl,?_,sD,hT.kW h9.2 (fun b e=>by omega),hN.kW h9.2 (fun b e=>by omega),hU.trans h9.2 (fun b hb e=>by omega)⟩;exact bg.2 ⟨a,cap,by rw[hlen],by omega,ai.weaken (fun b _ e=>by omega) _ _ _ _ (ai.ag h9.2 (fun b e=>by omega) _ _ _ _ hE)⟩
theorem sW{W:World}{b:Nat}{T':TypeId}{fr:Nat×Nat}(h:W.heap[b]? =some (.cells #[.string (B [110,97,116]),.string (B [118,101,99]),.string (B [116,109])] T' fr))(c:Nat)(hc:(c:Int)<3):
    ∃ nm,W.cell? ⟨b,c,none⟩=some (.string (B nm))/\isName nm=true/\nm.length<=4:=by
  have bR:∀ i,W.cell? ⟨b,i,none⟩=(#[.string (B [110,97,116]),.string (B [118,101,99]),.string (B [116,109])]:Array Value)[i]? :=fun i=>by simp[World.cell?,h]
  match c,hc with
  |0,_=>exact⟨[110,97,116],bR 0,by decide,by decide⟩
  |1,_=>exact⟨[118,101,99],bR 1,by decide,by decide⟩
  |2,_=>exact⟨[116,109],bR 2,by decide,by decide⟩
  |n+3,h=>omega
abbrev uQ(nb no lh ab:Nat)(a0 a1 a2 a3:Value)(w':World):Prop:=
  w'.cell? ⟨0,0,none⟩=some (.slice (some ⟨nb,no,none⟩) 6 lh)/\(∀ j,j<6->w'.cell? ⟨nb,no+j,none⟩=some (.string (B (nameAt j))))/\
  (w'.cell? ⟨ab,0,none⟩=some a0/\w'.cell? ⟨ab,1,none⟩=some a1/\w'.cell? ⟨ab,2,none⟩=some a2/\w'.cell? ⟨ab,3,none⟩=some a3)
theorem uQ.ag{nb no lh ab:Nat}{a0 a1 a2 a3:Value}{w w':World}{S:Nat->Prop}(h:uQ nb no lh ab a0 a1 a2 a3 w)(hU:af S w w')(h0:¬S 0)(hn:¬S nb)(ha:¬S ab):uQ nb no lh ab a0 a1 a2 a3 w':=
  ⟨hU.cell h.1 h0,fun j hj=>hU.cell (h.2.1 j hj) hn,hU.cell h.2.2.1 ha,hU.cell h.2.2.2.1 ha,hU.cell h.2.2.2.2.1 ha,hU.cell h.2.2.2.2.2 ha⟩
theorem uQ.new{nb no lh ab:Nat}{a0 a1 a2 a3:Value}{w:World}(h:uQ nb no lh ab a0 a1 a2 a3 w)(o:Obj):uQ nb no lh ab a0 a1 a2 a3 (w.alloc o):=
  h.ag ((af.refl ae w).alloc o) (fun x=>x) (fun x=>x) (fun x=>x)
theorem uQ.set{nb no lh ab r:Nat}{a0 a1 a2 a3:Value}{w:World}(h:uQ nb no lh ab a0 a1 a2 a3 w)(h0:0≠r)(hn:nb≠r)(ha:ab≠r)(j:Nat)(v:Value):uQ nb no lh ab a0 a1 a2 a3 (w.setCell ⟨r,j,none⟩ v):=
  h.ag (af.set (af.refl _ w) j v) h0 hn ha
theorem G7{O:Nat->Prop}{W:World}{t u:Tm}{c0 c1 c2 c3 d0 d1 d2 d3:Value}{b:Nat}{T:TypeId}(h:aw O W t.az [c0,c1,c2,c3])(h':aw O W u.az [d0,d1,d2,d3])(hb:¬O b)(hB:W.heap[b]? =some (.cells #[c0,c1,c2,c3,d0,d1,d2,d3] T (0,0))):
    ai O W 4 ([t,u].map Tm.az) (some ⟨b,0,none⟩) 0:=by
  have aB:=(Array.getElem?_eq_some_iff.1 hB).1;have bR:∀ i,W.cell? ⟨b,i,none⟩=(#[c0,c1,c2,c3,d0,d1,d2,d3]:Array Value)[i]? :=fun i=>by simp[World.cell?,hB]
  refine bT _ _ _ (fun i hi=>?_);match i,hi with
  |0,_=>
   refine⟨b,0,_,rfl,aB,hb,rfl,fun m v hv=>?_,h⟩;rw[bR];match m,hv with
   |0,hv=>cases hv;rfl
   |1,hv=>cases hv;rfl
   |2,hv=>cases hv;rfl
   |3,hv=>cases hv;rfl
  |1,_=>
   refine⟨b,0,_,rfl,aB,hb,rfl,fun m v hv=>?_,h'⟩;rw[bR];match m,hv with
   |0,hv=>cases hv;rfl
   |1,hv=>cases hv;rfl
   |2,hv=>cases hv;rfl
   |3,hv=>cases hv;rfl
theorem qy(deep:Nat):deep<=12->∀(vars ay:Nat),vars+deep<=1000->ay<=1000->∀(T:Nat)(w:World),bL w T->aW T w->
    Calls Tryz.prog 26 #[.pointer (some ⟨T,0,none⟩),.int .i64 deep,.int .i64 vars,.int .i64 ay] w (xA w.heap.size deep vars ay T w):=by
  induction deep with
  |zero=>
   intro hd vars ay hv hm T w hT hN;have cP:au (w.alloc (.cells #[.int .i64 0,.string (B []),.int .i64 0,.slice none 0 0] 29)) w.heap.size (.int .i64 0) (.string (B [])) (.int .i64 0) (.slice none 0 0) 29:=au.av rfl;have Sg:=hT.on ((af.refl ae w).alloc (.cells #[.int .i64 0,.string (B []),.int .i64 0,.slice none 0 0] 29));have Xv:=hN.on ((af.refl ae w).alloc (.cells #[.int .i64 0,.string (B []),.int .i64 0,.slice none 0 0] 29));have Xn:=(af.refl (cv T) w).alloc (.cells #[.int .i64 0,.string (B []),.int .i64 0,.slice none 0 0] 29);obtain⟨D,hD⟩:∃ D:Int,D=((0:Nat):Int):=⟨_,rfl⟩;rw[<-hD];obtain⟨V,hV⟩:∃ V:Int,V=(vars:Int):=⟨_,rfl⟩;obtain⟨M,hM⟩:∃ M:Int,M=(ay:Int):=⟨_,rfl⟩;rw[<-hV,<-hM];have D0:¬0<D:=by omega
   have D1:0<=D:=by omega
   have HD:=ak hD;have HV:=ak hV;have HM:=ak hM;clear hD hV hM;go_enter Tryz.func26,Tryz.ntmps26;go_wp2_with fail;have NX:=fun(n:Int)h0 h1 w hT=>gh n h0 h1 T w hT
   have lD:=hT.lt;have dD:w.heap.size≠T:=by omega
   clear hT hN;obtain⟨wq,WC⟩:∃ wq,wq=w.alloc (.cells #[.int .i64 0,.string (B []),.int .i64 0,.slice none 0 0] 29):=⟨_,rfl⟩;have HQS:=ak (show wq.heap.size=w.heap.size+1 by rw[WC];simp);rw[<-WC]at cP Sg Xv Xn;rw[<-WC];clear WC
   have HI:∀(x:Int)(W:World),x=D - 1->0<D->bL W T->aW T W->Calls Tryz.prog 28 #[.pointer (some ⟨T,0,none⟩),.int .i64 x,.int .i64 V,.int .i64 M] W (sT W.heap.size (0 - 1) vars ay T W):=by
     intro x W hx h0 h2 h3;have:=HD.out;rw[hx,HV.out,HM.out,show D - 1=((0 - 1:Nat):Int) by omega];exact nR (0 - 1) (by omega) vars ay (by omega) hm T W h2 h3
   have ZU:=ak (show 0<D->IntKind.i64.wrap (D - 1)=D - 1 by intro _;exact Go.IntWalk.i64_in _ (by omega));have ahB:=Sg.lt;refine(NX _ (by omega) (by omega) _ (Sg.on ((af.refl ae wq).alloc _))).mono ?_;rintro e w3 ⟨⟨c2,ju,rfl⟩,lU,aZ⟩
   have mU:w3.heap[wq.heap.size]? =some (.cells #[.string (B [110,97,116]),.string (B [118,101,99]),.string (B [116,109])] 9 (0,0)):=by
     rw[aZ.block _ (by simp) (fun e=>by simp only[cv]at e;omega)];exact heap_alloc_new wq _
   obtain⟨nm,qG,zn,uE⟩:=sW mU c2 ju;rw[HQS.out]at qG;have d0:(0:Int)<=(c2:Int):=by omega
   have nA:af (cv T) wq w3:=((af.refl (cv T) wq).alloc _).trans aZ (fun _ _ x=>x);have eR:=cP.ag nA dD;have KD:=Xv.ag nA;have cQ:=Xn.trans nA (fun _ _ x=>x);have q3:w.heap.size<w3.heap.size:=eR.lt;clear aZ nA mU Sg Xv cP Xn;go_wp2_with fail;obtain⟨w4,eh⟩:∃ w4,w4=w3.alloc (.cells #[.int .i64 4,.string (B nm),.int .i64 0,.slice none 0 0] 29):=⟨_,rfl⟩;have bw:af ae w3 w4:=by rw[eh];exact(af.refl ae w3).alloc _
   have b6:au w4 w3.heap.size (.int .i64 4) (.string (B nm)) (.int .i64 0) (.slice none 0 0) 29:=by rw[eh];exact au.av rfl
   rw[<-eh];clear eh;have Bb:w3.heap.size≠T:=by have:=lU.lt;omega
   have agz:=lU.lt;refine(NX _ (by omega) (by omega) _ (lU.on bw)).mono ?_;rintro e w5 ⟨⟨nn,Uq,rfl⟩,qT,ba⟩;have Kh:=(KD.on bw).ag ba;have km:=(eR.kept bw).ag ba dD;have fK:=b6.ag ba Bb;have gT:=(cQ.trans bw (fun _ _ x=>x.elim)).trans ba (fun _ _ x=>x);have q5:w3.heap.size<w5.heap.size:=fK.lt;clear ba bw b6 eR KD lU cQ qG;go_wp2_with fail;obtain⟨i0,hi,fS,gn,eH⟩:=info_parts de
   go_loopw [11] (fun v11 wr=>∃(m:Nat)(v:Value)(ts:List Tm)(css:List (List Value)),v11=.int .i64 m/\m+ts.length<=2/\(ts.length=0\/0<D)/\dG w5.heap.size wr v ts css/\(∀ t∈ts,Tm.Fits t (0 - 1) vars ay)/\
       au wr w3.heap.size (.int .i64 4) (.string (B nm)) (.int .i64 0) v 29/\au wr w.heap.size (.int .i64 0) (.string (B [])) (.int .i64 0) (.slice none 0 0) 29/\bL wr T/\aW T wr/\af (cv T) w wr/\w5.heap.size<=wr.heap.size)
     (fun v11 _=>(intOf v11).toNat)
   case atStart=>exact⟨nn,_,[],[],rfl,by simp;omega,.inl rfl,dG.nil _ _,by simp,fK,km,qT,Kh,gT,Nat.le_refl _⟩
   obtain⟨m,v,ts,css,rfl,Tt,htD,eB,Jv,b6,cP,xq,Mu,Mk,Ax⟩:=hrel;obtain⟨b0,b1,b2,b3⟩:=b6.cells;obtain⟨f0,f1,f2,f3⟩:=b6.aq;have ahl:=xq.lt;by_cases pf:0<m/\0<D
   ·obtain⟨pf,GV⟩:=pf;have qp:(0:Int)<(m:Int):=by omega
    have hDw:=ZU.out GV;go_wp2_with fail
    go_region_law (first
      |((rw[if_pos (by rfl)]);go_simp;(go_at_call 28);refine(HI _ _ rfl GV (xq.on (af.refl ae wr).drew) (Mu.on (af.refl ae wr).drew)).mono ?_;rintro e w6 ⟨k1,i1,n1,a1,bH,bG,t,rfl,dg,wo,zg,Rk,bj⟩;have cL:af (cv T) wr w6:=af.trans ((af.refl (cv T) wr).drew) bj (fun _ _ x=>x);have dc:=b6.ag cL Bb;have q6:=dc.lt;have c6:=dc.cells.2.2.2;have z6:=dc.frozen 3;have sf:=cL.size;have iT:=eB.ag cL (fun b e=>(by simp only[cv]at e;omega)))
      |(refine step_append_lies _ (by rfl) _ _ 26 (by rfl) w5.heap.size 29 i0 (.agg #[.int .i64 0,.string (B []),.int .i64 0,.slice none 0 0]) 4 56 (by kernel_rfl) hi fS gn eH rfl (by decide) v ts.length css.flatten (by rfl) ((iT.on ((af.refl ae w6).alloc _)).2.2.1) ⟨w6.heap.size,0,none⟩ 1 1 [.int .i64 k1,.string (B n1),.int .i64 i1,.slice a1 bH bG] (by rfl) rfl (World.news_of_block (heap_alloc_new w6 _)) (by simp[Value.oneCell']) (by omega) (by simp only[maxLen];omega) (by omega) (by simp;omega) _ rfl ?_;intro g aS w7 bq aN ft aB;have fe:=(dc.kept ((af.refl ae w6).alloc _)).row aN (iT.on ((af.refl ae w6).alloc _)) (by omega);have c7:=fe.cells.2.2.2;have z7:=fe.frozen 3))
    all_goals
      have jH:=iT.on ((af.refl ae w6).alloc (.cells #[.int .i64 k1,.string (B n1),.int .i64 i1,.slice a1 bH bG] 29))
      have tF:aw (fun b=>b<w5.heap.size\/v.ownBlock=some b) (w6.alloc (.cells #[.int .i64 k1,.string (B n1),.int .i64 i1,.slice a1 bH bG] 29)) t.az [.int .i64 k1,.string (B n1),.int .i64 i1,.slice a1 bH bG]:=by
        refine(aw.weaken (fun b _ e=>?_) _ _ dg).new _;rcases e with e |e
        ·exact Nat.lt_of_lt_of_le e Ax
        exact(eB.2.2.1.lt b e).2
      have lL:=jH.appended rfl tF bq aN ft (Nat.le_refl _);have dn:af (fun b=>b=w3.heap.size) w7 (w7.setCell ⟨w3.heap.size,3,none⟩ (.slice (some ⟨g,0,none⟩) (ts.length+1) aS)):=af.set (af.refl _ _) 3 _;have eK:=af.ofRow (cB.grown jH.2.2.1 aN);have fj:af ae w6 (w6.alloc (.cells #[.int .i64 k1,.string (B n1),.int .i64 i1,.slice a1 bH bG] 29)):=(af.refl ae w6).alloc _;have K1:=((zg.on fj).kW eK (fun b e=>by omega)).kW dn (fun b e=>by omega);have My:=((Rk.on fj).kW eK (fun b e=>by omega)).kW dn (fun b e=>by omega);have Dt:au (w7.setCell ⟨w3.heap.size,3,none⟩ (.slice (some ⟨g,0,none⟩) (ts.length+1) aS)) w.heap.size _ _ _ _ _:=(((cP.ag cL dD).kept fj).ag eK (by omega)).ag dn (by omega);have L5:af (cv T) w (w7.setCell ⟨w3.heap.size,3,none⟩ (.slice (some ⟨g,0,none⟩) (ts.length+1) aS)):=((((Mk.trans cL (fun _ _ x=>x)).trans fj (fun _ _ x=>x.elim)).trans eK (fun b hb e=>by omega))).trans dn (fun b hb e=>by omega);have Mt:w5.heap.size<=(w7.setCell ⟨w3.heap.size,3,none⟩ (.slice (some ⟨g,0,none⟩) (ts.length+1) aS)).heap.size:=by have:=dn.size;have:=eK.size;have:=fj.size;omega
      have Lv:∀ t'∈ts++[t],Tm.Fits t' (0 - 1) vars ay:=by
        intro t' EG;rcases List.mem_append.1 EG with h |h
        ·exact Jv t' h
        obtain rfl:t'=t:=by simpa using h
        exact wo
      have MD:=lL.ag dn (fun b e=>by omega);go_wp2_with fail;go_roundw;case rel=>exact⟨m - 1,_,ts++[t],_,int_eq (by omega),by simp;omega,.inr GV,MD,Lv,fe.mH _,Dt,K1,My,L5,Mt⟩
      simp[intOf];omega
   obtain⟨r0,r1,r2,r3⟩:=cP.cells;obtain⟨rf0,Zm,rf2,Y0⟩:=cP.aq;have qr:=cP.lt;obtain⟨a,cap,rfl,aX,hE⟩:=eB.rep
   have DC:Tm.nJ (.mk 4 nm 0 ts) 0 vars ay:=by
     refine Tm.xu ?_;rcases htD with h |h
     ·obtain rfl:ts=[]:=List.eq_nil_of_length_eq_zero h;exact(Tm.lH (.inl rfl) (fun _=>⟨zn,rfl⟩) (fun e=>by omega) (fun e=>by omega) (by omega) (by omega) uE).mono (Nat.zero_le _)
     have qA:0=(0 - 1)+1:=by have:=HD.out;omega
     rw[qA];exact Tm.jQ (.inl rfl) (by omega) Jv (fun _=>⟨zn,rfl⟩) (fun e=>by omega) (fun e=>by omega) (by omega) (by omega) uE
   obtain⟨len,hlen⟩:∃ len,len=ts.length:=⟨_,rfl⟩;rw[<-hlen]at b6 aX b3;have HL:=ak hlen;clear hlen Jv eB htD;by_cases qp:(0:Int)<(m:Int)
   case' pos=>
     have hD1:¬0<D:=fun h=>pf ⟨by omega,h⟩
     (try exact absurd D0 hD1)
   all_goals
     clear pf;go_wp2_with fail;obtain⟨w9,bf⟩:∃ w9,w9=(((wr.setCell ⟨w.heap.size,0,none⟩ (.int .i64 4)).setCell ⟨w.heap.size,1,none⟩ (.string (B nm))).setCell ⟨w.heap.size,2,none⟩ (.int .i64 0)).setCell ⟨w.heap.size,3,none⟩ (.slice a len cap):=⟨_,rfl⟩;have aJ:=cP.set (d0:=.int .i64 4) (d1:=.string (B nm)) (d2:=.int .i64 0) (d3:=.slice a len cap);rw[<-bf]at aJ;rw[<-bf];clear bf;obtain⟨e0,e1,e2,e3⟩:=aJ.1.cells;refine bodyPost_ret (v:=.agg #[.int .i64 4,.string (B nm),.int .i64 0,.slice a len cap]) ?_ rfl ?_
     ·simp[results,Tryz.f26,go_sem,e0,e1,e2,e3]
     exact zx rfl HL.out aX hE (by omega) aJ DC xq Mu Mk lD
  |succ d ih=>
   intro hd vars ay hv hm T w hT hN;obtain⟨D,hD⟩:∃ D:Int,D=((d+1:Nat):Int):=⟨_,rfl⟩;obtain⟨V,hV⟩:∃ V:Int,V=(vars:Int):=⟨_,rfl⟩;obtain⟨M,hM⟩:∃ M:Int,M=(ay:Int):=⟨_,rfl⟩;rw[<-hD,<-hV,<-hM];have NX:=fun(n:Int)h0 h1 w hT=>gh n h0 h1 T w hT
   have D0:0<D:=by omega
   have D1:D<=13:=by omega
   have V0:0<=V:=by omega
   have V1:V<=1000:=by omega
   have M0:0<=M:=by omega
   have M1:M<=1000:=by omega
   have HD:=ak hD;have HV:=ak hV;have HM:=ak hM;clear hD hV hM;have lD:=hT.lt;go_enter Tryz.func26,Tryz.ntmps26;go_wp2_with fail;refine(NX _ (by omega) (by omega) _ (hT.on ((af.refl ae w).alloc _))).mono ?_;rintro e w1 ⟨⟨c,hc,rfl⟩,ic,aH⟩;have aF:af (cv T) w w1:=(((af.refl (cv T) w).alloc _)).trans aH (fun _ _ x=>x)
   have cP:au w1 w.heap.size (.int .i64 0) (.string (B [])) (.int .i64 0) (.slice none 0 0) 29:=by
     unfold au;rw[aH.block _ (by simp) (fun e=>by simp only[cv]at e;omega)];exact heap_alloc_new w _
   have yb:aW T w1:=hN.ag aF;have dD:w.heap.size≠T:=by omega
   clear hN aH hT;obtain rfl |rfl:c=0\/c=1:=by omega
   ·obtain⟨nb,no,lh,ag8,SY,QJ,kz,FZ⟩:=yb.open
    have IH:∀(x y:Int)(vr:Nat)(W:World),x=d->y=vr->vr+d<=1000->bL W T->aW T W->Calls Tryz.prog 26 #[.pointer (some ⟨T,0,none⟩),.int .i64 x,.int .i64 y,.int .i64 M] W (xA W.heap.size d vr ay T W):=by
      intro x y vr W hx hy h1 h2 h3;rw[hx,hy,HM.out];exact ih (by omega) vr ay h1 hm T W h2 h3
    have IM:D - 1=(d:Int):=by have:=HD.out;omega
    have Px:V+1=((vars+1:Nat):Int):=by have:=HV.out;omega
    have Kk:=ak IM;have HVv:=ak Px;clear IM Px;go_wp2_with fail;refine(IH _ _ vars _ Kk.out HV.out (by omega) ic yb).mono ?_;rintro e w2 ⟨ka,ia,na,aa,la,ca,ta,rfl,Ku,hFa,yZ,JT,aL⟩;have kL:=cP.ag aL dD;have q1:w.heap.size<w1.heap.size:=cP.lt;have q2:w.heap.size<w2.heap.size:=kL.lt;go_wp2_with fail;obtain⟨w3,cQ⟩:∃ w3,w3=w2.alloc (.cells #[.int .i64 ka,.string (B na),.int .i64 ia,.slice aa la ca] 29):=⟨_,rfl⟩;have aZ:af ae w2 w3:=by rw[cQ];exact(af.refl ae w2).alloc _
    have hav:au w3 w2.heap.size (.int .i64 ka) (.string (B na)) (.int .i64 ia) (.slice aa la ca) 29:=by rw[cQ];exact au.av rfl
    rw[<-cQ];clear cQ;have ZT:jO nb no w2:=FZ.ag aL QJ;have yP:=aL.cell kz (fun e=>by simp only[cv]at e;omega)
    have P3:uQ nb no lh w2.heap.size (.int .i64 ka) (.string (B na)) (.int .i64 ia) (.slice aa la ca) w3.drew:=
      uQ.ag (S:=ae) ⟨aZ.cell yP (fun x=>x),fun j hj=>aZ.cell (ZT j hj) (fun x=>x),hav.cells⟩ (af.refl ae w3).drew (fun x=>x) (fun x=>x) (fun x=>x)
    have eR:=kL.kept aZ;obtain⟨r0,r1,r2,r3⟩:=eR.cells;obtain⟨f0,f1,f2,f3⟩:=eR.aq;have lU:=yZ.on aZ;have KD:=JT.on aZ;have amE:=yZ.lt;have afe:nb<w1.heap.size:=World.block_lt_of_cell? _ _ (FZ 0 (by decide));have e0:0≠w.heap.size:=by omega
    have en:nb≠w.heap.size:=by omega
    have ea:w2.heap.size≠w.heap.size:=by omega
    have eT:¬cv T 0:=fun e=>SY e.symm
    have eTn:¬cv T nb:=fun e=>by simp only[cv]at e;omega
    have eTa:¬cv T w2.heap.size:=fun e=>by simp only[cv]at e;omega
    have apn:IntKind.i64.wrap (D - 1)=D - 1:=Go.IntWalk.i64_in _ (by omega);have aps:IntKind.i64.wrap (V+1)=V+1:=Go.IntWalk.i64_in _ (by omega);have afz:=Ku;clear kz FZ ZT yP ic yb cP kL hav yZ JT
    go_region_held3 (fun w'=>uQ nb no lh w2.heap.size (.int .i64 ka) (.string (B na)) (.int .i64 ia) (.slice aa la ca) w')
      (first |(with_reducible assumption)|(with_reducible exact P3)|(with_reducible exact uQ.new P5 _)|(with_reducible exact uQ.new (uQ.set (uQ.set (uQ.set (uQ.set P5 e0 en ea 0 _) e0 en ea 1 _) e0 en ea 2 _) e0 en ea 3 _) _)|(with_reducible exact uQ.set (uQ.set (uQ.set (uQ.set (uQ.new P5 _) e0 en ea 0 _) e0 en ea 1 _) e0 en ea 2 _) e0 en ea 3 _))
      (first
        |((go_at_call 27);refine(NX _ (by omega) (by omega) _ (lU.on (af.refl ae w3).drew)).mono ?_;rintro e w4 ⟨⟨c2,ju,rfl⟩,Jf,bw⟩;
           have Mi:af (cv T) w3 w4:=af.trans ((af.refl (cv T) w3).drew) bw (fun _ _ x=>x);have aft:c2<6:=(by omega);have apO:(0:Int)<=(c2:Int):=(by omega);have P4:=P3.ag bw eT eTn eTa;have hN4:=KD.ag Mi;have CE:=eR.ag Mi dD)
        |((go_at_call 26);refine(IH _ _ (vars+1) _ Kk.out HVv.out (by omega) Jf hN4).mono ?_;rintro e w5 ⟨kb,ib,nb2,ab,lb,cb,tb,rfl,uw,hFb,qT,Kh,ba⟩;have P5:=P4.ag ba eT eTn eTa;have km:=CE.ag ba dD;have x5:=km.cells;have y5:=km.aq;have q5:=km.lt))
    go_wp2_with fail
    obtain⟨w6,iF⟩:∃ w6,w6=((((w5.setCell ⟨w.heap.size,0,none⟩ (.int .i64 2)).setCell ⟨w.heap.size,1,none⟩ (.string (B (nameAt c2)))).setCell ⟨w.heap.size,2,none⟩ (.int .i64 0)).setCell ⟨w.heap.size,3,none⟩ (.slice (some ⟨w5.heap.size,0,none⟩) 2 2)).alloc
        (.cells #[.int .i64 ka,.string (B na),.int .i64 ia,.slice aa la ca,.int .i64 kb,.string (B nb2),.int .i64 ib,.slice ab lb cb] 29):=⟨_,rfl⟩
    have ah:=km.set (d0:=.int .i64 2) (d1:=.string (B (nameAt c2))) (d2:=.int .i64 0) (d3:=.slice (some ⟨w5.heap.size,0,none⟩) 2 2);have bj:af (fun x=>x=w.heap.size) w5 w6:=by rw[iF];exact ah.2.alloc _
    have Dx:au w6 w.heap.size (.int .i64 2) (.string (B (nameAt c2))) (.int .i64 0) (.slice (some ⟨w5.heap.size,0,none⟩) 2 2) 29:=by rw[iF];exact ah.1.kept ((af.refl ae _).alloc _)
    have ql:w6.heap[w5.heap.size]? =some (.cells #[.int .i64 ka,.string (B na),.int .i64 ia,.slice aa la ca,.int .i64 kb,.string (B nb2),.int .i64 ib,.slice ab lb cb] 29 (0,0)):=by
      rw[iF]
      have:=heap_alloc_new ((((w5.setCell ⟨w.heap.size,0,none⟩ (.int .i64 2)).setCell ⟨w.heap.size,1,none⟩ (.string (B (nameAt c2)))).setCell ⟨w.heap.size,2,none⟩ (.int .i64 0)).setCell ⟨w.heap.size,3,none⟩ (.slice (some ⟨w5.heap.size,0,none⟩) 2 2))
        (.cells #[.int .i64 ka,.string (B na),.int .i64 ia,.slice aa la ca,.int .i64 kb,.string (B nb2),.int .i64 ib,.slice ab lb cb] 29)
      simpa using this
    rw[<-iF];clear iF ah;obtain⟨z0,z1,z2,z3⟩:=Dx.cells;have agC:=aF.trans aL (fun _ _ x=>x);have Wt:=((agC.trans aZ (fun _ _ x=>x.elim)).trans Mi (fun _ _ x=>x)).trans ba (fun _ _ x=>x)
    have Ws:aw (fun b=>b<w.heap.size+1) w6 ta.az [.int .i64 ka,.string (B na),.int .i64 ia,.slice aa la ca]:=by
      refine aw.weaken (fun b _ e=>?_) _ _ (aw.ag bj (fun b e=>by omega) _ _ (aw.ag ba (fun b e=>by simp only[cv]at e;omega) _ _ (aw.ag Mi (fun b e=>by simp only[cv]at e;omega) _ _ (afz.on aZ))));omega
    have q4:=CE.lt;have aqT:=ba.size;have aqv:=Mi.size;have aqM:=aZ.size
    have aih:aw (fun b=>b<w.heap.size+1) w6 tb.az [.int .i64 kb,.string (B nb2),.int .i64 ib,.slice ab lb cb]:=by
      refine aw.weaken (fun b _ e=>?_) _ _ (aw.ag bj (fun b e=>by omega) _ _ uw);omega
    refine bodyPost_ret (v:=.agg #[.int .i64 2,.string (B (nameAt c2)),.int .i64 0,.slice (some ⟨w5.heap.size,0,none⟩) 2 2]) ?_ rfl ?_
    ·simp[results,Tryz.f26,go_sem,z0,z1,z2,z3]
    refine⟨2,0,nameAt c2,_,2,2,.mk 2 (nameAt c2) 0 [ta,tb],rfl,?_,Tm.Ma hFa hFb _ (oP c2).1 (oP c2).2,qT.kW bj (fun b e=>by omega),Kh.kW bj (fun b e=>by omega),Wt.trans bj (fun b hb e=>by omega)⟩;exact bg.2 ⟨_,2,rfl,Nat.le_refl _,ai.weaken (fun b _ e=>by omega) _ _ _ _ (G7 Ws aih (by omega) ql)⟩
   obtain⟨wq,WC⟩:∃ wq,wq=w1:=⟨_,rfl⟩;rw[<-WC]at cP ic yb aF;have Sg:=ic;have Xv:=yb;have Xn:=aF;subst WC;clear ic yb aF;go_wp2_with fail
   have HI:∀(x:Int)(W:World),x=D - 1->0<D->bL W T->aW T W->Calls Tryz.prog 28 #[.pointer (some ⟨T,0,none⟩),.int .i64 x,.int .i64 V,.int .i64 M] W (sT W.heap.size ((d+1) - 1) vars ay T W):=by
     intro x W hx h0 h2 h3;have:=HD.out;rw[hx,HV.out,HM.out,show D - 1=(((d+1) - 1:Nat):Int) by omega];exact nR ((d+1) - 1) (by omega) vars ay (by omega) hm T W h2 h3
   have ZU:=ak (show 0<D->IntKind.i64.wrap (D - 1)=D - 1 by intro _;exact Go.IntWalk.i64_in _ (by omega));have ahB:=Sg.lt;refine(NX _ (by omega) (by omega) _ (Sg.on ((af.refl ae wq).alloc _))).mono ?_;rintro e w3 ⟨⟨c2,ju,rfl⟩,lU,aZ⟩
   have mU:w3.heap[wq.heap.size]? =some (.cells #[.string (B [110,97,116]),.string (B [118,101,99]),.string (B [116,109])] 9 (0,0)):=by
     rw[aZ.block _ (by simp) (fun e=>by simp only[cv]at e;omega)];exact heap_alloc_new wq _
   obtain⟨nm,qG,zn,uE⟩:=sW mU c2 ju;have d0:(0:Int)<=(c2:Int):=by omega
   have nA:af (cv T) wq w3:=((af.refl (cv T) wq).alloc _).trans aZ (fun _ _ x=>x);have eR:=cP.ag nA dD;have KD:=Xv.ag nA;have cQ:=Xn.trans nA (fun _ _ x=>x);have q3:w.heap.size<w3.heap.size:=eR.lt;clear aZ nA mU Sg Xv cP Xn;go_wp2_with fail;obtain⟨w4,eh⟩:∃ w4,w4=w3.alloc (.cells #[.int .i64 4,.string (B nm),.int .i64 0,.slice none 0 0] 29):=⟨_,rfl⟩;have bw:af ae w3 w4:=by rw[eh];exact(af.refl ae w3).alloc _
   have b6:au w4 w3.heap.size (.int .i64 4) (.string (B nm)) (.int .i64 0) (.slice none 0 0) 29:=by rw[eh];exact au.av rfl
   rw[<-eh];clear eh;have Bb:w3.heap.size≠T:=by have:=lU.lt;omega
   have agz:=lU.lt;refine(NX _ (by omega) (by omega) _ (lU.on bw)).mono ?_;rintro e w5 ⟨⟨nn,Uq,rfl⟩,qT,ba⟩;have Kh:=(KD.on bw).ag ba;have km:=(eR.kept bw).ag ba dD;have fK:=b6.ag ba Bb;have gT:=(cQ.trans bw (fun _ _ x=>x.elim)).trans ba (fun _ _ x=>x);have q5:w3.heap.size<w5.heap.size:=fK.lt;clear ba bw b6 eR KD lU cQ qG;go_wp2_with fail;obtain⟨i0,hi,fS,gn,eH⟩:=info_parts de
   go_loopw [11] (fun v11 wr=>∃(m:Nat)(v:Value)(ts:List Tm)(css:List (List Value)),v11=.int .i64 m/\m+ts.length<=2/\(ts.length=0\/0<D)/\dG w5.heap.size wr v ts css/\(∀ t∈ts,Tm.Fits t ((d+1) - 1) vars ay)/\
       au wr w3.heap.size (.int .i64 4) (.string (B nm)) (.int .i64 0) v 29/\au wr w.heap.size (.int .i64 0) (.string (B [])) (.int .i64 0) (.slice none 0 0) 29/\bL wr T/\aW T wr/\af (cv T) w wr/\w5.heap.size<=wr.heap.size)
     (fun v11 _=>(intOf v11).toNat)
   case atStart=>exact⟨nn,_,[],[],rfl,by simp;omega,.inl rfl,dG.nil _ _,by simp,fK,km,qT,Kh,gT,Nat.le_refl _⟩
   obtain⟨m,v,ts,css,rfl,Tt,htD,eB,Jv,b6,cP,xq,Mu,Mk,Ax⟩:=hrel;obtain⟨b0,b1,b2,b3⟩:=b6.cells;obtain⟨f0,f1,f2,f3⟩:=b6.aq;have ahl:=xq.lt;by_cases pf:0<m/\0<D
   ·obtain⟨pf,GV⟩:=pf;have qp:(0:Int)<(m:Int):=by omega
    have hDw:=ZU.out GV;go_wp2_with fail
    go_region_law (first
      |((rw[if_pos (by rfl)]);go_simp;(go_at_call 28);refine(HI _ _ rfl GV (xq.on (af.refl ae wr).drew) (Mu.on (af.refl ae wr).drew)).mono ?_;rintro e w6 ⟨k1,i1,n1,a1,bH,bG,t,rfl,dg,wo,zg,Rk,bj⟩;have cL:af (cv T) wr w6:=af.trans ((af.refl (cv T) wr).drew) bj (fun _ _ x=>x);have dc:=b6.ag cL Bb;have q6:=dc.lt;have c6:=dc.cells.2.2.2;have z6:=dc.frozen 3;have sf:=cL.size;have iT:=eB.ag cL (fun b e=>(by simp only[cv]at e;omega)))
      |(refine step_append_lies _ (by rfl) _ _ 26 (by rfl) w5.heap.size 29 i0 (.agg #[.int .i64 0,.string (B []),.int .i64 0,.slice none 0 0]) 4 56 (by kernel_rfl) hi fS gn eH rfl (by decide) v ts.length css.flatten (by rfl) ((iT.on ((af.refl ae w6).alloc _)).2.2.1) ⟨w6.heap.size,0,none⟩ 1 1 [.int .i64 k1,.string (B n1),.int .i64 i1,.slice a1 bH bG] (by rfl) rfl (World.news_of_block (heap_alloc_new w6 _)) (by simp[Value.oneCell']) (by omega) (by simp only[maxLen];omega) (by omega) (by simp;omega) _ rfl ?_;intro g aS w7 bq aN ft aB;have fe:=(dc.kept ((af.refl ae w6).alloc _)).row aN (iT.on ((af.refl ae w6).alloc _)) (by omega);have c7:=fe.cells.2.2.2;have z7:=fe.frozen 3))
    all_goals
      have jH:=iT.on ((af.refl ae w6).alloc (.cells #[.int .i64 k1,.string (B n1),.int .i64 i1,.slice a1 bH bG] 29))
      have tF:aw (fun b=>b<w5.heap.size\/v.ownBlock=some b) (w6.alloc (.cells #[.int .i64 k1,.string (B n1),.int .i64 i1,.slice a1 bH bG] 29)) t.az [.int .i64 k1,.string (B n1),.int .i64 i1,.slice a1 bH bG]:=by
        refine(aw.weaken (fun b _ e=>?_) _ _ dg).new _;rcases e with e |e
        ·exact Nat.lt_of_lt_of_le e Ax
        exact(eB.2.2.1.lt b e).2
      have lL:=jH.appended rfl tF bq aN ft (Nat.le_refl _);have dn:af (fun b=>b=w3.heap.size) w7 (w7.setCell ⟨w3.heap.size,3,none⟩ (.slice (some ⟨g,0,none⟩) (ts.length+1) aS)):=af.set (af.refl _ _) 3 _;have eK:=af.ofRow (cB.grown jH.2.2.1 aN);have fj:af ae w6 (w6.alloc (.cells #[.int .i64 k1,.string (B n1),.int .i64 i1,.slice a1 bH bG] 29)):=(af.refl ae w6).alloc _;have K1:=((zg.on fj).kW eK (fun b e=>by omega)).kW dn (fun b e=>by omega);have My:=((Rk.on fj).kW eK (fun b e=>by omega)).kW dn (fun b e=>by omega);have Dt:au (w7.setCell ⟨w3.heap.size,3,none⟩ (.slice (some ⟨g,0,none⟩) (ts.length+1) aS)) w.heap.size _ _ _ _ _:=(((cP.ag cL dD).kept fj).ag eK (by omega)).ag dn (by omega);have L5:af (cv T) w (w7.setCell ⟨w3.heap.size,3,none⟩ (.slice (some ⟨g,0,none⟩) (ts.length+1) aS)):=((((Mk.trans cL (fun _ _ x=>x)).trans fj (fun _ _ x=>x.elim)).trans eK (fun b hb e=>by omega))).trans dn (fun b hb e=>by omega);have Mt:w5.heap.size<=(w7.setCell ⟨w3.heap.size,3,none⟩ (.slice (some ⟨g,0,none⟩) (ts.length+1) aS)).heap.size:=by have:=dn.size;have:=eK.size;have:=fj.size;omega
      have Lv:∀ t'∈ts++[t],Tm.Fits t' ((d+1) - 1) vars ay:=by
        intro t' EG;rcases List.mem_append.1 EG with h |h
        ·exact Jv t' h
        obtain rfl:t'=t:=by simpa using h
        exact wo
      have MD:=lL.ag dn (fun b e=>by omega);go_wp2_with fail;go_roundw;case rel=>exact⟨m - 1,_,ts++[t],_,int_eq (by omega),by simp;omega,.inr GV,MD,Lv,fe.mH _,Dt,K1,My,L5,Mt⟩
      simp[intOf];omega
   obtain⟨r0,r1,r2,r3⟩:=cP.cells;obtain⟨rf0,Zm,rf2,Y0⟩:=cP.aq;have qr:=cP.lt;obtain⟨a,cap,rfl,aX,hE⟩:=eB.rep
   have DC:Tm.nJ (.mk 4 nm 0 ts) (d+1) vars ay:=by
     refine Tm.xu ?_;rcases htD with h |h
     ·obtain rfl:ts=[]:=List.eq_nil_of_length_eq_zero h;exact(Tm.lH (.inl rfl) (fun _=>⟨zn,rfl⟩) (fun e=>by omega) (fun e=>by omega) (by omega) (by omega) uE).mono (Nat.zero_le _)
     have qA:(d+1)=((d+1) - 1)+1:=by have:=HD.out;omega
     rw[qA];exact Tm.jQ (.inl rfl) (by omega) Jv (fun _=>⟨zn,rfl⟩) (fun e=>by omega) (fun e=>by omega) (by omega) (by omega) uE
   obtain⟨len,hlen⟩:∃ len,len=ts.length:=⟨_,rfl⟩;rw[<-hlen]at b6 aX b3;have HL:=ak hlen;clear hlen Jv eB htD;by_cases qp:(0:Int)<(m:Int)
   case' pos=>
     have hD1:¬0<D:=fun h=>pf ⟨by omega,h⟩
     (try exact absurd D0 hD1)
   all_goals
     clear pf;go_wp2_with fail;obtain⟨w9,bf⟩:∃ w9,w9=(((wr.setCell ⟨w.heap.size,0,none⟩ (.int .i64 4)).setCell ⟨w.heap.size,1,none⟩ (.string (B nm))).setCell ⟨w.heap.size,2,none⟩ (.int .i64 0)).setCell ⟨w.heap.size,3,none⟩ (.slice a len cap):=⟨_,rfl⟩;have aJ:=cP.set (d0:=.int .i64 4) (d1:=.string (B nm)) (d2:=.int .i64 0) (d3:=.slice a len cap);rw[<-bf]at aJ;rw[<-bf];clear bf;obtain⟨e0,e1,e2,e3⟩:=aJ.1.cells;refine bodyPost_ret (v:=.agg #[.int .i64 4,.string (B nm),.int .i64 0,.slice a len cap]) ?_ rfl ?_
     ·simp[results,Tryz.f26,go_sem,e0,e1,e2,e3]
     exact zx rfl HL.out aX hE (by omega) aJ DC xq Mu Mk lD
end Go.Proofs.YthgmimncdjhgnaaGreatDoor
namespace Go.Proofs.YthgmimncdjhgnaaGreatDoor
open Go.RowKit Go.LF
def Ao(base:Nat)(sz vars ay:Nat)(T:Nat)(w:World)(e:Ending)(w':World):Prop:=
  ∃(k i:Int)(n:List UInt8)(a:Option Addr)(len cap:Nat)(t:Tm),e=.returned (.agg #[.int .i64 k,.string (B n),.int .i64 i,.slice a len cap])/\
   aw (fun b=>b<base) w' t.az [.int .i64 k,.string (B n),.int .i64 i,.slice a len cap]/\Tm.pg t sz vars ay/\bL w' T/\aW T w'/\af (cv T) w w'
theorem sM{W w9 w:World}{T sz vars ay base len cap:Nat}{k i:Int}{n:List UInt8}{a:Option Addr}{t:Tm}{U:TypeId}{x0 x1 x2 x3:Value}{hb:Nat}(hw:w.heap.size=hb)(hR:aw (fun b=>b<base) W t.az [.int .i64 k,.string (B n),.int .i64 i,.slice a len cap])(dh:w.heap.size<base)
    (h9:au w9 hb x0 x1 x2 x3 U/\af (fun b=>b=hb) W w9) (sD:Tm.pg t sz vars ay) (hT:bL W T) (hN:aW T W) (hU:af (cv T) w W) (lD:T<w.heap.size):
    Ao w.heap.size sz vars ay T w (.returned (.agg #[.int .i64 k,.string (B n),.int .i64 i,.slice a len cap])) w9:=by
  subst hw;exact⟨k,i,n,a,len,cap,t,rfl,aw.weaken (fun b _ e=>by omega) _ _ (aw.ag h9.2 (fun b e=>by omega) _ _ hR),sD,hT.kW h9.2 (fun b e=>by omega),hN.kW h9.2 (fun b e=>by omega),hU.trans h9.2 (fun b hb e=>by omega)⟩
theorem DK(d:Nat)(hd:d+1<=12)(vars ay:Nat)(hv:vars+(d+1)<=1000)(hm:ay<=1000)(T:Nat)(w:World)(hT:bL w T)(hN:aW T w):
    Calls Tryz.prog 24 #[.pointer (some ⟨T,0,none⟩),.int .i64 ((d+1:Nat):Int),.int .i64 vars,.int .i64 ay] w (Ao w.heap.size (2 ^ (d+2)+2) vars ay T w):=by
  have NX:=fun(n:Int)h0 h1 w hT=>gh n h0 h1 T w hT
  have TY:=fun W h1 h2=>qy (d+1) hd vars ay hv hm T W h1 h2
  have TM:=fun W h1 h2=>nR (d+1) hd vars ay hv hm T W h1 h2
  have TZ:∀(x:Int)(W:World),x=((d+1:Nat):Int) - 1->bL W T->aW T W->Calls Tryz.prog 26 #[.pointer (some ⟨T,0,none⟩),.int .i64 x,.int .i64 0,.int .i64 0] W (xA W.heap.size d 0 0 T W):=by
    intro x W hx h1 h2;rw[hx,show((d+1:Nat):Int) - 1=(d:Int) by omega];exact qy d (by omega) 0 0 (by omega) (by omega) T W h1 h2
  obtain⟨D,hD⟩:∃ D:Int,D=((d+1:Nat):Int):=⟨_,rfl⟩;obtain⟨V,hV⟩:∃ V:Int,V=(vars:Int):=⟨_,rfl⟩;obtain⟨M,hM⟩:∃ M:Int,M=(ay:Int):=⟨_,rfl⟩;rw[<-hD,<-hV,<-hM]at TY TM;rw[<-hD]at TZ;rw[<-hD,<-hV,<-hM];have D0:0<D:=by omega
  have D1:D<=13:=by omega
  clear hD hV hM;have lD:=hT.lt;have dD:w.heap.size≠T:=by omega
  have hDw:IntKind.i64.wrap (D - 1)=D - 1:=Go.IntWalk.i64_in _ (by omega);have ZU:=ak hDw;clear hDw;go_enter Tryz.func24,Tryz.ntmps24;go_wp2_with fail;refine(NX _ (by omega) (by omega) _ (hT.on ((af.refl ae w).alloc _))).mono ?_;rintro e w1 ⟨⟨c,hc,rfl⟩,ic,aH⟩;have aF:af (cv T) w w1:=(((af.refl (cv T) w).alloc _)).trans aH (fun _ _ x=>x)
  have cP:au w1 w.heap.size (.int .i64 0) (.string (B [])) (.int .i64 0) (.slice none 0 0) 29:=by
    unfold au;rw[aH.block _ (by simp) (fun e=>by simp only[cv]at e;omega)];exact heap_alloc_new w _
  have yb:aW T w1:=hN.ag aF;have q1:w.heap.size<w1.heap.size:=cP.lt;clear hN aH hT;obtain rfl |rfl |ju:c=0\/c=1\/(c=2\/c=3):=by omega
  ·go_wp2_with fail;refine(TY _ ic yb).mono ?_;rintro e w2 ⟨k1,i1,n1,a1,bH,bG,t,rfl,hR,hF,yZ,JT,aL⟩;have kL:=cP.ag aL dD;obtain⟨r0,r1,r2,r3⟩:=kL.cells;obtain⟨f0,f1,f2,f3⟩:=kL.aq;go_wp2_with fail;obtain⟨w9,bf⟩:∃ w9,w9=(((w2.setCell ⟨w.heap.size,0,none⟩ (.int .i64 k1)).setCell ⟨w.heap.size,1,none⟩ (.string (B n1))).setCell ⟨w.heap.size,2,none⟩ (.int .i64 i1)).setCell ⟨w.heap.size,3,none⟩ (.slice a1 bH bG):=⟨_,rfl⟩;have aJ:=kL.set (d0:=.int .i64 k1) (d1:=.string (B n1)) (d2:=.int .i64 i1) (d3:=.slice a1 bH bG);rw[<-bf]at aJ;rw[<-bf];clear bf;obtain⟨e0,e1,e2,e3⟩:=aJ.1.cells;refine bodyPost_ret (v:=.agg #[.int .i64 k1,.string (B n1),.int .i64 i1,.slice a1 bH bG]) ?_ rfl ?_
   ·simp[results,Tryz.f24,go_sem,e0,e1,e2,e3]
   exact sM rfl hR q1 aJ (hF.any (by omega)) yZ JT (aF.trans aL (fun _ _ x=>x)) lD
  ·go_wp2_with fail;obtain⟨w2,dY⟩:∃ w2,w2=w1.alloc (.cells #[.int .i64 1,.string (B []),.int .i64 0,.slice none 0 0] 29):=⟨_,rfl⟩;have aL:af ae w1 w2:=by rw[dY];exact(af.refl ae w1).alloc _
   have b6:au w2 w1.heap.size (.int .i64 1) (.string (B [])) (.int .i64 0) (.slice none 0 0) 29:=by rw[dY];exact au.av rfl
   rw[<-show B []={ data:=#[] }from rfl,<-dY];clear dY;have Bb:w1.heap.size≠T:=by omega
   refine(NX _ (by omega) (by omega) _ (ic.on aL)).mono ?_;rintro e w3 ⟨⟨nn,zn,rfl⟩,lU,aZ⟩;have KD:=(yb.on aL).ag aZ;have eR:=(cP.kept aL).ag aZ dD;have et:=b6.ag aZ Bb;have cQ:=(aF.trans aL (fun _ _ x=>x.elim)).trans aZ (fun _ _ x=>x);clear ic yb cP aF aL aZ b6;go_wp2_with fail
   go_loopw [10] (fun v10 wr=>∃(m nk:Nat)(t:Tm)(k i:Int)(n:List UInt8)(a:Option Addr)(len cap:Nat),v10=.int .i64 m/\m+nk<=2/\Tm.zC t nk d/\aw (fun b=>b<w1.heap.size+1) wr t.az [.int .i64 k,.string (B n),.int .i64 i,.slice a len cap]/\
       au wr w1.heap.size (.int .i64 k) (.string (B n)) (.int .i64 i) (.slice a len cap) 29/\au wr w.heap.size (.int .i64 0) (.string (B [])) (.int .i64 0) (.slice none 0 0) 29/\bL wr T/\aW T wr/\af (cv T) w wr)
     (fun v10 _=>(intOf v10).toNat)
   case atStart=>exact⟨nn,0,_,_,_,_,_,_,_,rfl,by omega,Tm.F8 d,bD 1 [] 0,et,eR,lU,KD,cQ⟩
   obtain⟨m,nk,t,k1,i1,n1,a1,bH,bG,rfl,zW,hF,hR,b6,cP,xq,Mu,Mk⟩:=hrel;obtain⟨b0,b1,b2,b3⟩:=b6.cells;obtain⟨f0,f1,f2,f3⟩:=b6.aq;have qo:=b6.lt;by_cases pf:0<m
   ·have qp:(0:Int)<(m:Int):=by omega
    go_wp2_with fail;go_region_law ((rw[if_pos (by rfl)]);go_simp;(go_at_call 26);refine(TZ _ _ ZU.out (xq.on (af.refl ae wr).drew) (Mu.on (af.refl ae wr).drew)).mono ?_;rintro e w5 ⟨ka,ia,na,aa,la,ca,ta,rfl,Ku,hFa,qT,Kh,ba⟩;have pb:af (cv T) wr w5:=af.trans ((af.refl (cv T) wr).drew) ba (fun _ _ x=>x);have fK:=b6.ag pb Bb;have x5:=fK.cells;have y5:=fK.aq;have q5:=fK.lt)
    all_goals
      obtain⟨w6,iF⟩:∃ w6,w6=((((w5.setCell ⟨w1.heap.size,0,none⟩ (.int .i64 2)).setCell ⟨w1.heap.size,1,none⟩ (.string (B []))).setCell ⟨w1.heap.size,2,none⟩ (.int .i64 0)).setCell ⟨w1.heap.size,3,none⟩ (.slice (some ⟨w5.heap.size,0,none⟩) 2 2)).alloc
          (.cells #[.int .i64 ka,.string (B na),.int .i64 ia,.slice aa la ca,.int .i64 k1,.string (B n1),.int .i64 i1,.slice a1 bH bG] 29):=⟨_,rfl⟩
      have ah:=fK.set (d0:=.int .i64 2) (d1:=.string (B [])) (d2:=.int .i64 0) (d3:=.slice (some ⟨w5.heap.size,0,none⟩) 2 2);have bj:af (fun x=>x=w1.heap.size) w5 w6:=by rw[iF];exact ah.2.alloc _
      have dc:au w6 w1.heap.size (.int .i64 2) (.string (B [])) (.int .i64 0) (.slice (some ⟨w5.heap.size,0,none⟩) 2 2) 29:=by rw[iF];exact ah.1.kept ((af.refl ae _).alloc _)
      have ql:w6.heap[w5.heap.size]? =some (.cells #[.int .i64 ka,.string (B na),.int .i64 ia,.slice aa la ca,.int .i64 k1,.string (B n1),.int .i64 i1,.slice a1 bH bG] 29 (0,0)):=by
        rw[iF]
        have:=heap_alloc_new ((((w5.setCell ⟨w1.heap.size,0,none⟩ (.int .i64 2)).setCell ⟨w1.heap.size,1,none⟩ (.string (B []))).setCell ⟨w1.heap.size,2,none⟩ (.int .i64 0)).setCell ⟨w1.heap.size,3,none⟩ (.slice (some ⟨w5.heap.size,0,none⟩) 2 2))
          (.cells #[.int .i64 ka,.string (B na),.int .i64 ia,.slice aa la ca,.int .i64 k1,.string (B n1),.int .i64 i1,.slice a1 bH bG] 29)
        simpa using this
      rw[<-iF];clear iF ah;have Dx:=(cP.ag pb dD).ag bj (by omega);have Ws:aw (fun b=>b<w1.heap.size+1) w6 ta.az [.int .i64 ka,.string (B na),.int .i64 ia,.slice aa la ca]:=aw.ag bj (fun b e=>by omega) _ _ (aw.weaken (fun b _ e=>by show b<wr.drew.heap.size;have:wr.drew.heap.size=wr.heap.size:=rfl;omega) _ _ Ku);have afE:aw (fun b=>b<w1.heap.size+1) w6 t.az [.int .i64 k1,.string (B n1),.int .i64 i1,.slice a1 bH bG]:=aw.ag bj (fun b e=>by omega) _ _ (aw.ag pb (fun b e=>by simp only[cv]at e;omega) _ _ hR);have dg:aw (fun b=>b<w1.heap.size+1) w6 (Tm.mk 2 [] 0 [ta,t]).az [.int .i64 2,.string (B []),.int .i64 0,.slice (some ⟨w5.heap.size,0,none⟩) 2 2]:=bg.2 ⟨_,2,rfl,Nat.le_refl _,G7 Ws afE (by omega) ql⟩;have zg:=qT.kW bj (fun b e=>by omega);have Rk:=Kh.kW bj (fun b e=>by omega);have T8:=(Mk.trans pb (fun _ _ x=>x)).trans bj (fun b hb e=>by omega);go_wp2_with fail;go_roundw;case rel=>exact⟨m - 1,nk+1,_,_,_,_,_,_,_,int_eq (by omega),by omega,Tm.MQ hFa hF,dg,dc,Dx,zg,Rk,T8⟩
      simp[intOf];omega
   obtain rfl:m=0:=by omega
   obtain⟨r0,r1,r2,r3⟩:=cP.cells;obtain⟨rf0,Zm,rf2,Y0⟩:=cP.aq;have qr:=cP.lt;go_wp2_with fail;obtain⟨w9,bf⟩:∃ w9,w9=(((wr.setCell ⟨w.heap.size,0,none⟩ (.int .i64 k1)).setCell ⟨w.heap.size,1,none⟩ (.string (B n1))).setCell ⟨w.heap.size,2,none⟩ (.int .i64 i1)).setCell ⟨w.heap.size,3,none⟩ (.slice a1 bH bG):=⟨_,rfl⟩;have aJ:=cP.set (d0:=.int .i64 k1) (d1:=.string (B n1)) (d2:=.int .i64 i1) (d3:=.slice a1 bH bG);rw[<-bf]at aJ;rw[<-bf];clear bf;obtain⟨e0,e1,e2,e3⟩:=aJ.1.cells;refine bodyPost_ret (v:=.agg #[.int .i64 k1,.string (B n1),.int .i64 i1,.slice a1 bH bG]) ?_ rfl ?_
   ·simp[results,Tryz.f24,go_sem,e0,e1,e2,e3]
   exact sM rfl hR (by omega) aJ (hF.any (by omega) (by omega)) xq Mu Mk lD
  have h0:((c:Int) == 0)=false:=by rcases ju with rfl |rfl<;>decide
  have h1:((c:Int) == 1)=false:=by rcases ju with rfl |rfl<;>decide
  go_wp2_with fail;refine(TM _ ic yb).mono ?_;rintro e w2 ⟨k1,i1,n1,a1,bH,bG,t,rfl,hR,hF,yZ,JT,aL⟩;have kL:=cP.ag aL dD;obtain⟨r0,r1,r2,r3⟩:=kL.cells;obtain⟨f0,f1,f2,f3⟩:=kL.aq;go_wp2_with fail;obtain⟨w9,bf⟩:∃ w9,w9=(((w2.setCell ⟨w.heap.size,0,none⟩ (.int .i64 k1)).setCell ⟨w.heap.size,1,none⟩ (.string (B n1))).setCell ⟨w.heap.size,2,none⟩ (.int .i64 i1)).setCell ⟨w.heap.size,3,none⟩ (.slice a1 bH bG):=⟨_,rfl⟩;have aJ:=kL.set (d0:=.int .i64 k1) (d1:=.string (B n1)) (d2:=.int .i64 i1) (d3:=.slice a1 bH bG);rw[<-bf]at aJ;rw[<-bf];clear bf;obtain⟨e0,e1,e2,e3⟩:=aJ.1.cells;refine bodyPost_ret (v:=.agg #[.int .i64 k1,.string (B n1),.int .i64 i1,.slice a1 bH bG]) ?_ rfl ?_
  ·simp[results,Tryz.f24,go_sem,e0,e1,e2,e3]
  exact sM rfl hR q1 aJ (hF.any (by omega)) yZ JT (aF.trans aL (fun _ _ x=>x)) lD
end Go.Proofs.YthgmimncdjhgnaaGreatDoor
namespace Go.Proofs.YthgmimncdjhgnaaGreatDoor
open Go.RowKit Go.LF
theorem oB{O:Nat->Prop}{W:World}:∀(ts:List Tm)(a:Option Addr)(j:Nat),ai O W 4 (ts.map Tm.az) a j->
    ∃ css:List (List Value),css.length=ts.length/\(∀ cs∈css,cs.length=4)/\(∀ u∈css.flatten,u.oneCell'=true)/\(∀ i u,css.flatten[i]? =some u->∃ b o,a=some ⟨b,o,none⟩/\W.cell? ⟨b,o+j+i,none⟩=some u)/\
      ∀ i(h:i<ts.length)(h':i<css.length),aw O W ts[i].az css[i]
  | [],_,_,_=>⟨[],rfl,by simp,by simp,by simp,fun i h=>by simp at h⟩
  |t :: ts,a,j,h=>by
   simp only[List.map_cons,ai]at h;obtain⟨⟨b,o,cs,rfl,hb,hO,hl,hc,hr⟩,DA⟩:=h;obtain⟨css,h1,h2,h3,h4,h5⟩:=oB ts _ (j+4) DA;obtain⟨k,n,i,l,a',aS,ht,pj,_⟩:=aP hr;refine⟨cs :: css,by simp[h1],?_,?_,?_,?_⟩
   ·intro x hx;rcases List.mem_cons.1 hx with rfl |hx
    ·exact hl
    exact h2 x hx
   ·intro u hu;rw[List.flatten_cons,List.mem_append]at hu;rcases hu with hu |hu
    ·rw[pj]at hu;simp only[List.mem_cons,List.not_mem_nil,or_false]at hu;rcases hu with rfl |rfl |rfl |rfl<;>rfl
    exact h3 u hu
   ·intro m u hu;rw[List.flatten_cons]at hu;by_cases hm:m<cs.length
    ·rw[List.getElem?_append_left hm]at hu;exact⟨b,o,rfl,hc m u hu⟩
    rw[List.getElem?_append_right (by omega)]at hu;obtain⟨b',o',e,AX⟩:=h4 _ u hu;cases e
    refine⟨b,o,rfl,?_⟩;rw[show o+j+m=o+(j+4)+(m - cs.length) by omega];exact AX
   intro m hm Io;cases m with
   |zero=>exact hr
   |succ m=>exact h5 m (by simpa using hm) (by simpa using Io)
def gP(O:Nat->Prop)(base:Nat)(W:World)(v:Value)(ts:List Tm)(css:List (List Value)):Prop:=
  css.length=ts.length/\(∀ cs∈css,cs.length=4)/\W.ownsRow base 29 4 v ts.length css.flatten/\∀ i(h:i<ts.length)(h':i<css.length),aw (fun b=>O b\/base<=b) W ts[i].az css[i]
theorem gP.ag{O:Nat->Prop}{base:Nat}{W W':World}{v:Value}{ts:List Tm}{css:List (List Value)}{S:Nat->Prop}(h:gP O base W v ts css)(hU:af S W W')(hS:∀ b,S b->base<=b/\v.ownBlock≠some b):gP O base W' v ts css:=by
  obtain⟨h1,h2,h3,h4⟩:=h;refine⟨h1,h2,⟨h3.1,?_⟩,fun i h h'=>aw.ag hU (fun b hb=>.inr (hS b hb).1) _ _ (h4 i h h')⟩;rcases h3.2 with h5 |⟨g,cap,cur,rfl,hb,hg,rest⟩
  ·exact .inl h5
  exact .inr ⟨g,cap,cur,rfl,hb,(hU.block g (Array.getElem?_eq_some_iff.1 hg).1 (fun e=>(hS g e).2 rfl)).trans hg,rest⟩
theorem gP.on{O:Nat->Prop}{base:Nat}{W W':World}{v:Value}{ts:List Tm}{css:List (List Value)}(h:gP O base W v ts css)(hU:af ae W W'):gP O base W' v ts css:=h.ag hU (fun _ x=>x.elim)
theorem gP.cells{O:Nat->Prop}{base:Nat}{W:World}{v:Value}{ts:List Tm}{css:List (List Value)}(h:gP O base W v ts css):∃ a cap,v=.slice a ts.length cap/\ts.length<=cap/\
    ∀ i(hi:i<ts.length)(dZ:i<css.length),∃ g,a=some ⟨g,0,none⟩/\v.ownBlock=some g/\base<=g/\g<W.heap.size/\(∀ o,W.frozen? ⟨g,o,none⟩=false)/\∀ m u,css[i][m]? =some u->W.cell? ⟨g,i * 4+m,none⟩=some u:=by
  obtain⟨h1,h2,h3,h4⟩:=h;rcases h3.2 with⟨rfl,h0⟩|⟨g,cap,cur,rfl,hb,hg,kz,_⟩
  ·exact⟨none,0,by rw[h0],by omega,fun i hi=>by omega⟩
  refine⟨_,cap,rfl,kz,fun i hi dZ=>⟨g,rfl,rfl,hb,(Array.getElem?_eq_some_iff.1 hg).1,fun o=>by simp[World.frozen?,hg],fun m u hu=>?_⟩⟩;have:=h3.cells (g:=g) rfl _ u ((zN css h2).2 i dZ m u hu);have gF:(⟨g,0,none⟩:Addr).add (i * 4+m)=⟨g,i * 4+m,none⟩:=by unfold Addr.add;split<;>simp_all
  rwa [gF]at this
theorem gP.rep{O:Nat->Prop}{base:Nat}{W:World}{v:Value}{ts:List Tm}{css:List (List Value)}(h:gP O base W v ts css):∃ a cap,v=.slice a ts.length cap/\ts.length<=cap/\ai (fun b=>(O b/\b<base)\/(base<=b/\v.ownBlock≠some b)) W 4 (ts.map Tm.az) a 0:=by
  obtain⟨a,cap,hv,aX,hc⟩:=h.cells;refine⟨a,cap,hv,aX,bT _ _ _ (fun i hi=>?_)⟩;simp only[List.length_map]at hi;have dZ:i<css.length:=by have:=h.1;omega
  obtain⟨g,rfl,bq,hb,aB,_,hg⟩:=hc i hi dZ;refine⟨g,0,css[i],rfl,aB,fun x=>x.elim (fun y=>by omega) (fun y=>y.2 bq),h.2.1 _ (List.getElem_mem dZ),fun m u hu=>?_,?_⟩
  ·rw[show 0+0+i * 4+m=i * 4+m by omega];exact hg m u hu
  simp only[List.getElem_map];exact aw.weaken (fun _ _ x=>x.elim (fun y=>.inl y.1) (fun y=>.inr y.1)) _ _ (h.2.2.2 i hi dZ)
theorem gP.new{O:Nat->Prop}{base len:Nat}{w W w7:World}{ts:List Tm}{css:List (List Value)}{g cap:Nat}(h1:css.length=ts.length)(h2:∀ cs∈css,cs.length=4)(h5:∀ i(h:i<ts.length)(h':i<css.length),aw (fun b=>O b\/base<=b) w ts[i].az css[i])(hl:len=ts.length)
    (hU:af ae w W) (bq:w7.ownsRow base 29 4 (.slice (some ⟨g,0,none⟩) (0+len) cap) (0+len) ([]++css.flatten)) (hg:W.grownBy w7 none):gP O base w7 (.slice (some ⟨g,0,none⟩) len cap) ts css:=by
  subst hl;refine⟨h1,h2,by simpa using bq,fun i h h'=>?_⟩;have cm:af ae W w7:=⟨hg.os,hg.tape,hg.output,hg.size,fun k hk _=>hg.block k hk (by simp)⟩;exact((h5 i h h').on hU).on cm
theorem gP.leaf{O:Nat->Prop}{base:Nat}{W w':World}{v:Value}{ts:List Tm}{css:List (List Value)}{k i:Int}{n:List UInt8}{g cap:Nat}(h:gP O base W v ts css)
    (bq:w'.ownsRow base 29 4 (.slice (some ⟨g,0,none⟩) (ts.length+1) cap) (ts.length+1) (css.flatten++[.int .i64 k,.string (B n),.int .i64 i,.slice none 0 0])) (hg:W.grownBy w' v.ownBlock):
    gP O base w' (.slice (some ⟨g,0,none⟩) (ts.length+1) cap) (ts++[.mk k n i []]) (css++[[.int .i64 k,.string (B n),.int .i64 i,.slice none 0 0]]):=by
  obtain⟨h1,h2,h3,h4⟩:=h;have pa:nO (fun b=>O b\/base<=b) W w':=⟨hg.size,fun b o u hb hu=>hg.cell hu (fun e=>hb (.inr (h3.lt b e.symm).1))⟩;refine⟨by simp[h1],?_,by simpa using bq,fun i hi dZ=>?_⟩
  ·intro c hc;rcases List.mem_append.1 hc with hc |hc
   ·exact h2 c hc
   obtain rfl:=List.mem_singleton.1 hc;rfl
  by_cases aB:i<ts.length
  ·rw[List.getElem_append_left aB,List.getElem_append_left (by omega)];exact aw.carry pa _ _ (h4 i aB (by omega))
  have e1:i=ts.length:=by simp at hi;omega
  subst e1;rw[List.getElem_append_right (Nat.le_refl _),List.getElem_append_right (by omega)];simp only[h1,Nat.sub_self,List.getElem_cons_zero];exact bD _ _ _
theorem JL{O:Nat->Prop}{W:World}{ts:List Tm}{a:Option Addr}(n:Nat)(h:ai O W 4 (ts.map Tm.az) a 0):ai O W 4 ((ts.take n).map Tm.az) a 0:=by
  refine bT _ _ _ (fun i hi=>?_);have gn:i<(ts.map Tm.az).length:=by simp at hi ⊢;omega
  obtain⟨b,o,cs,e1,e2,e3,e4,e5,e6⟩:=h.get i gn;exact⟨b,o,cs,e1,e2,e3,e4,e5,by simpa using e6⟩
def Lu(O:Nat->Prop)(wt:Nat)(w:World)(e:Ending)(w':World):Prop:=
  ∃(k i:Int)(n:List UInt8)(a:Option Addr)(len cap:Nat)(t:Tm),e=.returned (.agg #[.int .i64 k,.string (B n),.int .i64 i,.slice a len cap])/\
   aw (fun b=>O b/\b<w.heap.size) w' t.az [.int .i64 k,.string (B n),.int .i64 i,.slice a len cap]/\t.wt<=wt+10/\af ae w w'
theorem fL{O:Nat->Prop}{w W w9:World}{hb len cap wt:Nat}{k i:Int}{n:List UInt8}{a:Option Addr}{ts:List Tm}{x0 x1 x2 x3:Value}{U:TypeId}(hlen:len=ts.length)(aX:len<=cap)(hE:ai (fun b=>(O b/\b<w.heap.size)\/b=hb) W 4 (ts.map Tm.az) a 0)
    (h9:au w9 hb x0 x1 x2 x3 U/\af (fun b=>b=hb) W w9) (hw:w.heap.size<=hb) (hU:af ae w W) (iH:(Tm.mk k n i ts).wt<=wt+10):
    Lu O wt w (.returned (.agg #[.int .i64 k,.string (B n),.int .i64 i,.slice a len cap])) w9:=by
  subst hlen;exact⟨k,i,n,a,_,cap,.mk k n i ts,rfl,bg.2 ⟨a,cap,rfl,aX,ai.weaken (fun _ _ x=>.inl x) _ _ _ _ (ai.ag h9.2 (fun _ e=>.inr e) _ _ _ _ hE)⟩,iH,hU.trans h9.2 (fun b hb e=>by omega)⟩
theorem MC{W w7:World}{b:Nat}{c0 c1 c2 c3:Value}{T:TypeId}(hg:W.grownBy w7 (Value.slice none 0 0).ownBlock)(h:au W b c0 c1 c2 c3 T):au w7 b c0 c1 c2 c3 T:=(hg.block b h.lt (by simp[Value.ownBlock])).trans h
theorem jX{W w7:World}(hg:W.grownBy w7 (Value.slice none 0 0).ownBlock):af ae W w7:=⟨hg.os,hg.tape,hg.output,hg.size,fun k hk _=>hg.block k hk (by simp[Value.ownBlock])⟩
abbrev gC(b:Nat)(c0 c1 c2 c3:Value)(w':World):Prop:=w'.cell? ⟨b,0,none⟩=some c0/\w'.cell? ⟨b,1,none⟩=some c1/\w'.cell? ⟨b,2,none⟩=some c2/\w'.cell? ⟨b,3,none⟩=some c3
theorem gC.ag{b:Nat}{c0 c1 c2 c3:Value}{w w':World}{S:Nat->Prop}(h:gC b c0 c1 c2 c3 w)(hU:af S w w')(hS:¬S b):gC b c0 c1 c2 c3 w':=⟨hU.cell h.1 hS,hU.cell h.2.1 hS,hU.cell h.2.2.1 hS,hU.cell h.2.2.2 hS⟩
theorem gC.new{b:Nat}{c0 c1 c2 c3:Value}{w:World}(h:gC b c0 c1 c2 c3 w)(o:Obj):gC b c0 c1 c2 c3 (w.alloc o):=h.ag ((af.refl ae w).alloc o) (fun x=>x)
theorem gC.set{b r:Nat}{c0 c1 c2 c3:Value}{w:World}(h:gC b c0 c1 c2 c3 w)(hr:b≠r)(j:Nat)(v:Value):gC b c0 c1 c2 c3 (w.setCell ⟨r,j,none⟩ v):=h.ag (af.set (af.refl _ w) j v) hr
theorem GU:∀(ts:List Tm)(j:Nat)(h:j<ts.length)(t:Tm),t.wt<=ts[j].wt+10->Tm.eV (ts.set j t)<=Tm.eV ts+10
  | [],j,h,_,_=>by simp at h
  |u :: us,0,h,t,ht=>by simp only[List.getElem_cons_zero]at ht;simp only[List.set_cons_zero,Tm.eV];omega
  |u :: us,j+1,h,t,ht=>by
   have:=GU us j (by simpa using h) t (by simpa using ht);simp only[List.set_cons_succ,Tm.eV];omega
theorem CJ:∀(ts:List Tm)(n:Nat),Tm.eV (ts.take n)<=Tm.eV ts
  | [],n=>by simp
  |_ :: _,0=>by simp[Tm.eV]
  |u :: us,n+1=>by have:=CJ us n;simp only[List.take_succ_cons,Tm.eV];omega
theorem iv{W:World}{g o:Nat}{c0 c1 c2 c3 d0 d1 d2 d3:Value}(h0:W.cell? ⟨g,o,none⟩=some c0)(h1:W.cell? ⟨g,o+1,none⟩=some c1)(h2:W.cell? ⟨g,o+2,none⟩=some c2)(h3:W.cell? ⟨g,o+3,none⟩=some c3){W':World}
    (hW:W'=(((W.setCell ⟨g,o,none⟩ d0).setCell ⟨g,o+1,none⟩ d1).setCell ⟨g,o+2,none⟩ d2).setCell ⟨g,o+3,none⟩ d3):
    (W'.cell? ⟨g,o,none⟩=some d0/\W'.cell? ⟨g,o+1,none⟩=some d1/\W'.cell? ⟨g,o+2,none⟩=some d2/\W'.cell? ⟨g,o+3,none⟩=some d3)/\
    (∀ x,x≠o->x≠o+1->x≠o+2->x≠o+3->W'.cell? ⟨g,x,none⟩=W.cell? ⟨g,x,none⟩)/\af (fun b=>b=g) W W':=by
  have ne:∀ x y:Nat,x≠y->(⟨g,x,none⟩:Addr)≠⟨g,y,none⟩:=fun x y h e=>h (by cases e;rfl)
  have other:∀(V:World)(x y:Nat)(v:Value),x≠y->(V.setCell ⟨g,x,none⟩ v).cell? ⟨g,y,none⟩=V.cell? ⟨g,y,none⟩:=fun V x y v h=>World.cell?_setCell_other _ _ _ _ (ne x y h)
  subst hW;refine⟨⟨?_,?_,?_,?_⟩,?_,?_⟩
  ·rw[other _ _ _ _ (by omega),other _ _ _ _ (by omega),other _ _ _ _ (by omega)];exact World.cell?_setCell_same _ _ _ h0
  ·rw[other _ _ _ _ (by omega),other _ _ _ _ (by omega)];exact World.cell?_setCell_same _ _ _ (by rw[other _ _ _ _ (by omega)];exact h1)
  ·rw[other _ _ _ _ (by omega)];exact World.cell?_setCell_same _ _ _ (by rw[other _ _ _ _ (by omega),other _ _ _ _ (by omega)];exact h2)
  ·exact World.cell?_setCell_same _ _ _ (by rw[other _ _ _ _ (by omega),other _ _ _ _ (by omega),other _ _ _ _ (by omega)];exact h3)
  ·intro x h0 h1 h2 h3;rw[other _ _ _ _ (Ne.symm h3),other _ _ _ _ (Ne.symm h2),other _ _ _ _ (Ne.symm h1),other _ _ _ _ (Ne.symm h0)]
  exact af.set (af.set (af.set (af.set (af.refl _ W) _ _) _ _) _ _) _ _
theorem QA{Oe Of:Nat->Prop}{W W':World}{g j:Nat}{ts:List Tm}{css:List (List Value)}{t5:Tm}{d0 d1 d2 d3:Value}(hl:css.length=ts.length)(hj:j<ts.length)(aB:g<W.heap.size)
    (h:∀ i(hi:i<ts.length)(dZ:i<css.length),(∀ m u,css[i][m]? =some u->W.cell? ⟨g,i * 4+m,none⟩=some u)/\css[i].length=4/\aw Oe W ts[i].az css[i])
    (gN:aw Oe W t5.az [d0,d1,d2,d3]) (hOg:Oe g) (hf:∀ b,b<W'.heap.size->Of b->Oe b) (hfg:¬Of g)
    (hW:W'=(((W.setCell ⟨g,j * 4,none⟩ d0).setCell ⟨g,j * 4+1,none⟩ d1).setCell ⟨g,j * 4+2,none⟩ d2).setCell ⟨g,j * 4+3,none⟩ d3):ai Of W' 4 ((ts.set j t5).map Tm.az) (some ⟨g,0,none⟩) 0/\af (fun b=>b=g) W W':=by
  have hj4:=h j hj (by omega);have jG:∀ m,m<4->∃ u,W.cell? ⟨g,j * 4+m,none⟩=some u:=fun m hm=>⟨_,hj4.1 m _ (List.getElem?_eq_getElem (by rw[hj4.2.1];exact hm))⟩
  obtain⟨_,u0⟩:=jG 0 (by omega);obtain⟨_,u1⟩:=jG 1 (by omega);obtain⟨_,u2⟩:=jG 2 (by omega);obtain⟨_,u3⟩:=jG 3 (by omega);obtain⟨⟨v0,v1,v2,v3⟩,mZ,hU⟩:=iv (d0:=d0) (d1:=d1) (d2:=d2) (d3:=d3) u0 u1 u2 u3 hW;refine⟨bT _ _ _ (fun i hi=>?_),hU⟩;simp only[List.length_map,List.length_set]at hi;have Yk:g<W'.heap.size:=Nat.lt_of_lt_of_le aB hU.size;by_cases Bc:i=j
  ·subst Bc;refine⟨g,0,[d0,d1,d2,d3],rfl,Yk,hfg,rfl,fun m u hu=>?_,?_⟩
   ·rw[show 0+0+i * 4+m=i * 4+m by omega];match m,hu with
    |0,hu=>cases hu;exact v0
    |1,hu=>cases hu;exact v1
    |2,hu=>cases hu;exact v2
    |3,hu=>cases hu;exact v3
   simp only[List.getElem_map,List.getElem_set_self];exact aw.weaken hf _ _ (aw.ag hU (fun b e=>by rw[e];exact hOg) _ _ gN)
  have eH:=h i hi (by omega);refine⟨g,0,css[i]'(by omega),rfl,Yk,hfg,eH.2.1,fun m u hu=>?_,?_⟩
  ·rw[show 0+0+i * 4+m=i * 4+m by omega];have hm:m<4:=by rw[<-eH.2.1];exact(List.getElem?_eq_some_iff.1 hu).1
   rw[mZ _ (by omega) (by omega) (by omega) (by omega)];exact eH.1 m u hu
  simp only[List.getElem_map,List.getElem_set_ne (Ne.symm Bc)];exact aw.weaken hf _ _ (aw.ag hU (fun b e=>by rw[e];exact hOg) _ _ eH.2.2)
theorem ck{w w':World}{v:Value}(h:w.grownBy w' v.ownBlock):af (fun b=>v.ownBlock=some b) w w':=⟨h.os,h.tape,h.output,h.size,fun k hk hn=>h.block k hk (fun e=>hn e.symm)⟩
theorem Vc{W:World}{b:Nat}{T':TypeId}{fr:Nat×Nat}(h:W.heap[b]? =some (.cells #[.int .i64 (-1),.int .i64 1,.int .i64 1048576,.int .i64 1048577,.int .i64 2048,.int .i64 0] T' fr))(c:Nat)(hc:(c:Int)<6):
    ∃ i:Int,W.cell? ⟨b,c,none⟩=some (.int .i64 i):=by
  have bR:∀ i,W.cell? ⟨b,i,none⟩=(#[.int .i64 (-1),.int .i64 1,.int .i64 1048576,.int .i64 1048577,.int .i64 2048,.int .i64 0]:Array Value)[i]? :=fun i=>by simp[World.cell?,h]
  match c,hc with
  |0,_=>exact⟨_,bR 0⟩
  |1,_=>exact⟨_,bR 1⟩
  |2,_=>exact⟨_,bR 2⟩
  |3,_=>exact⟨_,bR 3⟩
  |4,_=>exact⟨_,bR 4⟩
  |5,_=>exact⟨_,bR 5⟩
  |n+6,h=>omega
theorem D5{W:World}{b:Nat}{T':TypeId}{fr:Nat×Nat}(h:W.heap[b]? =some (.cells #[.string (B []),.string (B [95]),.string (B [122]),.string (B [116,121,112,101]),.string (B [64,99]),.string (B [97,32,98]),.string (B [45,62])] T' fr))(c:Nat)(hc:(c:Int)<7):
    ∃ nm:List UInt8,W.cell? ⟨b,c,none⟩=some (.string (B nm))/\nm.length<=6:=by
  have bR:∀ i,W.cell? ⟨b,i,none⟩=(#[.string (B []),.string (B [95]),.string (B [122]),.string (B [116,121,112,101]),.string (B [64,99]),.string (B [97,32,98]),.string (B [45,62])]:Array Value)[i]? :=fun i=>by simp[World.cell?,h]
  match c,hc with
  |0,_=>exact⟨_,bR 0,by decide⟩
  |1,_=>exact⟨_,bR 1,by decide⟩
  |2,_=>exact⟨_,bR 2,by decide⟩
  |3,_=>exact⟨_,bR 3,by decide⟩
  |4,_=>exact⟨_,bR 4,by decide⟩
  |5,_=>exact⟨_,bR 5,by decide⟩
  |6,_=>exact⟨_,bR 6,by decide⟩
  |n+7,h=>omega
theorem Ef{W:World}{b:Nat}{T':TypeId}{fr:Nat×Nat}(h:W.heap[b]? =some (.cells #[.string (B [122]),.string (B [110,97,116]),.string (B [110,111,98,111,100,121])] T' fr))(c:Nat)(hc:(c:Int)<3):
    ∃ nm:List UInt8,W.cell? ⟨b,c,none⟩=some (.string (B nm))/\nm.length<=6:=by
  have bR:∀ i,W.cell? ⟨b,i,none⟩=(#[.string (B [122]),.string (B [110,97,116]),.string (B [110,111,98,111,100,121])]:Array Value)[i]? :=fun i=>by simp[World.cell?,h]
  match c,hc with
  |0,_=>exact⟨_,bR 0,by decide⟩
  |1,_=>exact⟨_,bR 1,by decide⟩
  |2,_=>exact⟨_,bR 2,by decide⟩
  |n+3,h=>omega
end Go.Proofs.YthgmimncdjhgnaaGreatDoor
namespace Go.Proofs.YthgmimncdjhgnaaGreatDoor
open Go.RowKit Go.LF
theorem JP(t:Tm):t.wt<=900000->∀(O:Nat->Prop)(n eP:Int)(w:World)(cs:List Value),aw O w t.az cs->
    Calls Tryz.prog 29 #[.agg cs.toArray,.int .i64 n,.int .i64 eP] w (Lu O t.wt w):=by
  induction t using Tm.ind with
  |h k nm i ts ih=>
   intro iH O n eP w cs h;obtain⟨a,cap,rfl,aX,hE⟩:=bg.1 h;have hlen:=Tm.aA ts;have CG:=Tm.eC ts;have aba:=iH;simp only[Tm.cU]at iH;obtain⟨i0,hi,fS,gn,eH⟩:=info_parts de;have HW:=ak iH;obtain⟨css,r1,r2,r3,r4,r5⟩:=oB ts a 0 (ai.aG 4 _ _ _ hE);have HC:=fun(x n:Int)h0 h1 w=>Hz x n h0 h1 w
   obtain⟨len,Ds⟩:∃ len,len=ts.length:=⟨_,rfl⟩;rw[<-Ds]at aX hlen;have QW:len<=900000:=by omega
   have iw:=(zN css r2).1;rw[r1,<-Ds]at iw;have HF:=ak iw;clear iH CG hE h hlen iw;rw[<-Ds];have HL:=ak Ds;have HR:=ak (And.intro r1 (And.intro r2 r5));clear Ds r1 r2 r5;obtain⟨w2,dY⟩:∃ w2,w2=(w.alloc (.cells #[.int .i64 k,.string (B nm),.int .i64 i,.slice a len cap] 29)).alloc (.cells #[.int .i64 0,.string (B []),.int .i64 0,.slice none 0 0] 29):=⟨_,rfl⟩;have aL:af ae w w2:=by rw[dY];exact((af.refl ae w).alloc _).alloc _
   have iD:au w2 w.heap.size (.int .i64 k) (.string (B nm)) (.int .i64 i) (.slice a len cap) 29:=by rw[dY];exact(au.av rfl).kept ((af.refl ae _).alloc _)
   have dO:au w2 (w.heap.size+1) (.int .i64 0) (.string (B [])) (.int .i64 0) (.slice none 0 0) 29:=by rw[dY];exact au.av (by simp)
   have GY:w.heap.size+1<w2.heap.size:=dO.lt;have mX:w.heap.size<w2.heap.size:=by omega
   have B7:=ak dY;clear dY;obtain⟨t0,t1,t2,t3⟩:=iD.cells
   have HN:∀(W:World)(b o:Nat),a=some ⟨b,o,none⟩->af ae w W->∀ j u,css.flatten[j]? =some u->W.cell? ((⟨b,o,none⟩:Addr).add j)=some u:=by
     intro W b o ha hU j u hu;obtain⟨b',o',e,hc⟩:=r4 j u hu;rw[ha]at e;cases e
     have gF:(⟨b,o,none⟩:Addr).add j=⟨b,o+j,none⟩:=by unfold Addr.add;split<;>simp_all
     rw[gF];exact hU.cell (by simpa using hc) (fun x=>x)
   have hA:0<len->∃ b o,a=some ⟨b,o,none⟩:=by
     intro h0;have h1:=HF.out;obtain⟨u,hu⟩:∃ u,css.flatten[0]? =some u:=⟨_,List.getElem?_eq_getElem (by omega)⟩;obtain⟨b,o,e,_⟩:=r4 0 u hu;exact⟨b,o,e⟩
   clear r4;go_enter Tryz.func29,Tryz.ntmps29;go_wp2_with fail;rw[<-B7.out];go_cut [7]from 9 (fun v7 wc=>∃(ob:Nat)(v:Value),v7=.pointer (some ⟨ob,0,none⟩)/\au wc ob (.int .i64 k) (.string (B nm)) (.int .i64 i) v 29/\gP O w.heap.size wc v ts css/\af ae w2 wc/\w2.heap.size<=ob/\(∀ g,v.ownBlock=some g->w2.heap.size<=g/\g≠ob))
   case first=>
     rcases Nat.eq_zero_or_pos len with h0 |h0
     ·obtain rfl:len=0:=h0;rcases a with _ |a0
      all_goals
        go_region
      all_goals
        go_wp2_with fail;go_meet
      all_goals
        refine⟨w2.heap.size,.slice none 0 0,rfl,au.av rfl,?_,((af.refl ae w2).alloc _).drew,Nat.le_refl _,fun g e=>by simp[Value.ownBlock]at e⟩;have h1:=HR.out;have h0:=HL.out;exact⟨h1.1,h1.2.1,by rw[<-h0,List.eq_nil_of_length_eq_zero (HF.out)];exact World.ownsRow_nil _ _ _ _,fun i hi=>by omega⟩
     obtain⟨b,o,rfl⟩:=hA h0;clear hA;have T2d:gC w.heap.size (.int .i64 k) (.string (B nm)) (.int .i64 i) (.slice (some ⟨b,o,none⟩) len cap) w2.drew:=gC.ag (S:=ae) ⟨t0,t1,t2,t3⟩ (af.refl ae w2).drew (fun x=>x);have T2a:gC w.heap.size (.int .i64 k) (.string (B nm)) (.int .i64 i) (.slice (some ⟨b,o,none⟩) len cap) (w2.alloc (.cells #[.int .i64 0,.string (B []),.int .i64 0,.slice none 0 0] 29)).drew:=gC.ag (S:=ae) (gC.new ⟨t0,t1,t2,t3⟩ _) (af.refl ae _).drew (fun x=>x);have gJ:w.heap.size≠w2.heap.size:=by omega
     go_region_held3 (fun w'=>gC w.heap.size (.int .i64 k) (.string (B nm)) (.int .i64 i) (.slice (some ⟨b,o,none⟩) len cap) w')
       (first |(with_reducible assumption)|(with_reducible exact T2d)|(with_reducible exact T2a)|(with_reducible exact gC.new T7 _)|(with_reducible exact gC.set (gC.set (gC.set (gC.set T7 gJ 0 _) gJ 1 _) gJ 2 _) gJ 3 _))
       ((refine step_append_lies _ (by rfl) _ _ 26 (by rfl) w.heap.size 29 i0 (.agg #[.int .i64 0,.string (B []),.int .i64 0,.slice none 0 0]) 4 56 (by kernel_rfl) hi fS gn eH rfl (by decide) (.slice none 0 0) 0 [] (by rfl) (World.ownsRow_nil _ _ _ _) ⟨b,o,none⟩ len cap css.flatten (by rfl) HF.out (HN _ b o rfl (by first |exact aL.drew |exact(aL.alloc _).drew)) r3 h0 (by simp only[maxLen];omega) (by omega) (by simp;omega) _ rfl ?_;intro g aS w7 bq aN ft aB;(first |(have z7:=MC aN (show au (w2.alloc (.cells #[.int .i64 0,.string (B []),.int .i64 0,.slice none 0 0] 29)).drew w2.heap.size _ _ _ _ _ from au.av rfl);obtain⟨z0,z1,z2,z3⟩:=z7.cells;obtain⟨y0,y1,y2,y3⟩:=z7.aq)|skip);have T7:gC w.heap.size (.int .i64 k) (.string (B nm)) (.int .i64 i) (.slice (some ⟨b,o,none⟩) len cap) w7:=gC.ag (S:=ae) (by first |exact T2d |exact T2a) (jX aN) (fun x=>x)))
     all_goals
       go_wp2_with fail;go_meet
     all_goals
       have XG:af ae w2 w7:=(by first |exact((af.refl ae w2).drew).and (jX aN)|exact(((af.refl ae w2).alloc _).drew).and (jX aN));have Eg:gP O w.heap.size w7 (.slice (some ⟨g,0,none⟩) len aS) ts css:=(by first |exact gP.new HR.out.1 HR.out.2.1 HR.out.2.2 HL.out aL.drew bq aN |exact gP.new HR.out.1 HR.out.2.1 HR.out.2.2 HL.out (aL.alloc _).drew bq aN)
       have hgg:w2.heap.size<=g:=by
         rcases ft with h |h
         ·simp[Value.ownBlock]at h
         rw[h];first |exact Nat.le_refl _ |(show w2.heap.size<=(w2.alloc _).heap.size;simp)
       first
         |(have ah:=z7.set (d0:=.int .i64 k) (d1:=.string (B nm)) (d2:=.int .i64 i) (d3:=.slice (some ⟨g,0,none⟩) len aS)
           have nL:g≠w2.heap.size:=(by
             rcases ft with h |h
             ·simp[Value.ownBlock]at h
             rw[h];show(w2.alloc _).heap.size≠w2.heap.size;simp)
           exact⟨w2.heap.size,_,rfl,ah.1,Eg.ag ah.2 (fun b e=>⟨by omega,fun e2=>by simp only[Value.ownBlock,Option.some.injEq]at e2;omega⟩),XG.trans ah.2 (fun i hi e=>by omega),Nat.le_refl _,fun g' e=>by simp only[Value.ownBlock,Option.some.injEq]at e;omega⟩)
         |exact⟨w7.heap.size,_,rfl,au.av rfl,Eg.on ((af.refl ae w7).alloc _),XG.alloc _,XG.size,fun g' e=>by simp only[Value.ownBlock,Option.some.injEq]at e;omega⟩
   obtain⟨ob,v,rfl,hB,hS,hU,sP,bq⟩:=hcut;obtain⟨wb,vD⟩:∃ wb,wb=wc:=⟨_,rfl⟩;have hr:=dO.kept hU;have jg:=aL.and hU;obtain⟨sa,sc,rfl,fJ,hE⟩:=hS.rep;rw[<-HL.out]at hB bq fJ;have anB:=hB.lt;have WW:=hr.lt;have gJ:w.heap.size+1≠ob:=by omega
   obtain⟨x0,x1,x2,x3⟩:=hB.cells;obtain⟨y0,y1,y2,y3⟩:=hB.aq;obtain⟨p0,p1,p2,p3⟩:=hr.cells;obtain⟨q0,q1,q2,q3⟩:=hr.aq;have A0:w.heap.size+1≠ob:=by omega
   have Au:ai (fun b=>(O b/\b<w.heap.size)\/b=w.heap.size+1\/b=ob) wc 4 (ts.map Tm.az) sa 0:=by
     refine ai.weaken (fun b _ e=>?_) _ _ _ _ hE;rcases e with e |e |e
     ·exact .inl e
     ·exact .inr ⟨by omega,fun e2=>by have:=(bq b (by rw[HL.out];exact e2)).1;omega⟩
     exact .inr ⟨by omega,fun e2=>(bq b (by rw[HL.out];exact e2)).2 e⟩
   have aco:wc.ownsRow w.heap.size 29 4 (.slice sa len sc) len css.flatten:=by
     have:=hS.2.2.1;rw[<-HL.out]at this;exact this
   have ahp:=ak aco;have Yi:=ak hS;have HWt:=ak aba;clear t0 t1 t2 t3 hA HN r3 hU dO iD aL vD hE aco hS aba;have aep:(¬(0:Int)<(len:Int))\/(0:Int)<(len:Int):=by omega
   rcases aep with OI |OI
   case' inr=>
     go_wp2_with fail;refine(HC _ 3 (by omega) (by omega) _).mono ?_;rintro e wd ⟨⟨c1,s5,rfl⟩,rfl⟩;have ZV:(0:Int)<(c1:Int)\/(c1=0):=by omega
     rcases ZV with tw |rfl
   case' isTrue.inl=>
     go_wp2_with fail;refine(HC _ (len:Int) (by omega) (by omega) _).mono ?_;rintro e wd ⟨⟨j,hj,rfl⟩,rfl⟩;have b7:j<ts.length:=by rw[<-HL.out];omega
     obtain⟨RY,FR,EC,_,fl⟩:=Yi.out.cells;have nc:=Yi.out.1;simp only[Value.slice.injEq]at EC;obtain⟨rfl,_,rfl⟩:=EC;obtain⟨g,rfl,R8,EF,Rf,sR,iQ⟩:=fl j b7 (by omega);have oO:=Yi.out.2.2.2 j b7 (by omega);obtain⟨kj,nj,ij,lj,aj,cj,Cb,aaQ,_,_⟩:=aP oO;rw[aaQ]at iQ oO;have g0:=iQ 0 _ rfl;rw[Nat.add_zero]at g0;have g1:=iQ 1 _ rfl;have g2:=iQ 2 _ rfl;have g3:=iQ 3 _ rfl;have nL:=bq g rfl;have IH:=fun n eP w'(hh:aw (fun b=>O b\/w.heap.size<=b) w' (ts[j]'b7).az [.int .i64 kj,.string (B nj),.int .i64 ij,.slice aj lj.length cj])=>ih (ts[j]'b7) (List.getElem_mem b7) (by have:=Tm.fM (List.getElem_mem b7);have:=HW.out;omega) (fun b=>O b\/w.heap.size<=b) n eP w' [.int .i64 kj,.string (B nj),.int .i64 ij,.slice aj lj.length cj] hh
     have Fl:(0:Int)<=(j:Int):=by omega
     have hjL:(j:Int)<(len:Int):=hj;have HJ:=ak (And.intro fl (And.intro nc (And.intro Cb R8)));clear fl nc Cb iQ R8 aaQ;generalize lj.length=Bg at *
     go_wp2_with fail;go_region_law ((rw[if_pos (by rfl)]);go_simp;(go_at_call 29);refine(IH _ _ _ (oO.on (af.refl ae wc).drew)).mono ?_;rintro e w5 ⟨k5,i5,n5,a5,l5,c5,t5,rfl,gN,gT,ba⟩;have pb:af ae wc w5:=((af.refl ae wc).drew).and ba;have Jr:=hB.kept pb;have dR:=hr.kept pb;obtain⟨z0,z1,z2,z3⟩:=Jr.cells;have v0:=pb.cell g0 (fun x=>x);have v1:=pb.cell g1 (fun x=>x);have v2:=pb.cell g2 (fun x=>x);have v3:=pb.cell g3 (fun x=>x);have f5:=fun o=>(pb.LR.2 g o Rf).trans (sR o);obtain⟨m0,m1,m2,m3⟩:=dR.cells;obtain⟨b0,b1,b2,b3⟩:=dR.aq;have yz:=pb.size)
     all_goals
       go_wp2_with fail;have Y8:g<w5.heap.size:=by omega
       obtain⟨Kl,bj⟩:=QA (Oe:=fun b=>(O b\/w.heap.size<=b)/\b<wc.drew.heap.size) (Of:=fun b=>(O b/\b<w.heap.size)\/b=w.heap.size+1) (W:=w5) (W':=((((w5.setCell ⟨g,j * 4,none⟩ (.int .i64 k5)).setCell ⟨g,j * 4+1,none⟩ (.string (B n5))).setCell ⟨g,j * 4+2,none⟩ (.int .i64 i5)).setCell ⟨g,j * 4+3,none⟩ (.slice a5 l5 c5))) (css:=css) (t5:=t5) HJ.out.2.1 b7 Y8
         (fun x hx Ox=>by
           obtain⟨g',eg,aof,_,_,_,AX⟩:=HJ.out.1 x hx Ox;obtain rfl:g=g':=by cases eg;rfl
           exact⟨fun m u hu=>pb.cell (AX m u hu) (fun z=>z),Yi.out.2.1 _ (List.getElem_mem Ox),aw.weaken (fun b _ e=>e.1) _ _ ((Yi.out.2.2.2 x hx Ox).on pb)⟩)
         gN ⟨.inr (by omega),Rf⟩ (fun b _ e=>by
           have hwc:wc.drew.heap.size=wc.heap.size:=rfl;rcases e with e |e
           ·exact⟨.inl e.1,by omega⟩
           exact⟨.inr (by omega),by omega⟩) (fun e=>by omega) rfl
       obtain⟨w9,bf⟩:∃ w9,w9=((((((((w5.setCell ⟨g,j * 4,none⟩ (.int .i64 k5)).setCell ⟨g,j * 4+1,none⟩ (.string (B n5))).setCell ⟨g,j * 4+2,none⟩ (.int .i64 i5)).setCell ⟨g,j * 4+3,none⟩ (.slice a5 l5 c5)).setCell ⟨w.heap.size+1,0,none⟩ (.int .i64 k)).setCell ⟨w.heap.size+1,1,none⟩ (.string (B nm))).setCell ⟨w.heap.size+1,2,none⟩ (.int .i64 i)).setCell ⟨w.heap.size+1,3,none⟩ (.slice (some ⟨g,0,none⟩) len sc)):=⟨_,rfl⟩;have Be:au ((((w5.setCell ⟨g,j * 4,none⟩ (.int .i64 k5)).setCell ⟨g,j * 4+1,none⟩ (.string (B n5))).setCell ⟨g,j * 4+2,none⟩ (.int .i64 i5)).setCell ⟨g,j * 4+3,none⟩ (.slice a5 l5 c5)) (w.heap.size+1) (.int .i64 0) (.string (B [])) (.int .i64 0) (.slice none 0 0) 29:=dR.ag bj (by omega);have ah:=Be.set (d0:=.int .i64 k) (d1:=.string (B nm)) (d2:=.int .i64 i) (d3:=.slice (some ⟨g,0,none⟩) len sc);have aJ:=ah;rw[<-bf]at aJ;rw[<-bf];clear bf ah;obtain⟨e0,e1,e2,e3⟩:=aJ.1.cells;refine bodyPost_ret (v:=.agg #[.int .i64 k,.string (B nm),.int .i64 i,.slice (some ⟨g,0,none⟩) len sc]) ?_ rfl ?_
       ·simp[results,Tryz.f29,go_sem,e0,e1,e2,e3]
       exact fL (ts:=ts.set j t5) (by simp[<-HL.out]) fJ (Kl) aJ (by omega) ((jg.and pb).trans bj (fun i hi e=>by omega)) (by have:=GU ts j b7 t5 gT;simp only[Tm.cU];omega)
   all_goals
     go_wp2_with fail;refine(HC _ 9 (by omega) (by omega) _).mono ?_;rintro e wd ⟨⟨c,hc,rfl⟩,rfl⟩;obtain rfl |rfl |rfl |rfl |rfl |rfl |rfl |rfl |rfl:c=0\/c=1\/c=2\/c=3\/c=4\/c=5\/c=6\/c=7\/c=8:=by omega
     ·go_wp2_with fail;refine(HC _ 8 (by omega) (by omega) _).mono ?_;rintro e wd ⟨⟨c2,ju,rfl⟩,rfl⟩;have c20:(0:Int)<=(c2:Int):=by omega
      go_wp2_with fail;obtain⟨wb,vD⟩:∃ wb,wb=wc:=⟨_,rfl⟩;have Bi:=hB;have kM:=hr;have PN:=Au;have zu:=jg;rw[<-vD]at Bi kM PN zu;subst vD;obtain⟨w9,bf⟩:∃ w9,w9=((((wb.setCell ⟨ob,0,none⟩ (.int .i64 c2)).setCell ⟨w.heap.size+1,0,none⟩ (.int .i64 c2)).setCell ⟨w.heap.size+1,1,none⟩ (.string (B nm))).setCell ⟨w.heap.size+1,2,none⟩ (.int .i64 i)).setCell ⟨w.heap.size+1,3,none⟩ (.slice sa len sc):=⟨_,rfl⟩;have Be:au (wb.setCell ⟨ob,0,none⟩ (.int .i64 c2)) (w.heap.size+1) (.int .i64 0) (.string (B [])) (.int .i64 0) (.slice none 0 0) 29:=kM.other A0 _;have aJ:=Be.set (d0:=.int .i64 c2) (d1:=.string (B nm)) (d2:=.int .i64 i) (d3:=.slice sa len sc);rw[<-bf]at aJ;rw[<-bf];clear bf;obtain⟨e0,e1,e2,e3⟩:=aJ.1.cells;refine bodyPost_ret (v:=.agg #[.int .i64 c2,.string (B nm),.int .i64 i,.slice sa len sc]) ?_ rfl ?_
      ·simp[results,Tryz.f29,go_sem,e0,e1,e2,e3]
      exact fL (ts:=ts) HL.out fJ (ai.weaken (fun b _ x=>x.elim .inl (fun y=>.inr (.inl y))) _ _ _ _ (ai.ag (af.set (af.refl _ wb) 0 _) (fun b e=>.inr (.inr e)) _ _ _ _ PN)) aJ (by omega) (zu.trans (af.set (af.refl _ wb) 0 _) (fun i hi e=>by omega)) (by simp only[Tm.cU];omega)
     ·go_wp2_with fail;refine(HC _ 6 (by omega) (by omega) _).mono ?_;rintro e wd ⟨⟨c2,ju,rfl⟩,rfl⟩;have c20:(0:Int)<=(c2:Int):=by omega
      clear x0 x1 x2 x3 y0 y1 y2 y3 p0 p1 p2 p3 q0 q1 q2 q3;obtain⟨wb,vD⟩:∃ wb,wb=wc.alloc (Obj.cells #[.int .i64 (-1),.int .i64 1,.int .i64 1048576,.int .i64 1048577,.int .i64 2048,.int .i64 0] 3):=⟨_,rfl⟩;have dM:af ae wc wb:=by rw[vD];exact(af.refl ae wc).alloc _
      have Bi:=hB.kept dM;have kM:=hr.kept dM;have PN:=Au.on dM;have zu:=jg.and dM;obtain⟨x0,x1,x2,x3⟩:=Bi.cells;obtain⟨y0,y1,y2,y3⟩:=Bi.aq;obtain⟨p0,p1,p2,p3⟩:=kM.cells;obtain⟨q0,q1,q2,q3⟩:=kM.aq;have abd:=Bi.lt;obtain⟨ix,YU⟩:∃ ix:Int,wb.cell? ⟨wc.heap.size,c2,none⟩=some (.int .i64 ix):=by rw[vD];exact Vc (heap_alloc_new wc _) c2 ju
      rw[<-vD];clear vD;go_wp2_with fail;obtain⟨w9,bf⟩:∃ w9,w9=((((wb.setCell ⟨ob,2,none⟩ (.int .i64 ix)).setCell ⟨w.heap.size+1,0,none⟩ (.int .i64 k)).setCell ⟨w.heap.size+1,1,none⟩ (.string (B nm))).setCell ⟨w.heap.size+1,2,none⟩ (.int .i64 ix)).setCell ⟨w.heap.size+1,3,none⟩ (.slice sa len sc):=⟨_,rfl⟩;have Be:au (wb.setCell ⟨ob,2,none⟩ (.int .i64 ix)) (w.heap.size+1) (.int .i64 0) (.string (B [])) (.int .i64 0) (.slice none 0 0) 29:=kM.other A0 _;have aJ:=Be.set (d0:=.int .i64 k) (d1:=.string (B nm)) (d2:=.int .i64 ix) (d3:=.slice sa len sc);rw[<-bf]at aJ;rw[<-bf];clear bf;obtain⟨e0,e1,e2,e3⟩:=aJ.1.cells;refine bodyPost_ret (v:=.agg #[.int .i64 k,.string (B nm),.int .i64 ix,.slice sa len sc]) ?_ rfl ?_
      ·simp[results,Tryz.f29,go_sem,e0,e1,e2,e3]
      exact fL (ts:=ts) HL.out fJ (ai.weaken (fun b _ x=>x.elim .inl (fun y=>.inr (.inl y))) _ _ _ _ (ai.ag (af.set (af.refl _ wb) 2 _) (fun b e=>.inr (.inr e)) _ _ _ _ PN)) aJ (by omega) (zu.trans (af.set (af.refl _ wb) 2 _) (fun i hi e=>by omega)) (by simp only[Tm.cU];omega)
     ·go_wp2_with fail;refine(HC _ 7 (by omega) (by omega) _).mono ?_;rintro e wd ⟨⟨c2,ju,rfl⟩,rfl⟩;have c20:(0:Int)<=(c2:Int):=by omega
      clear x0 x1 x2 x3 y0 y1 y2 y3 p0 p1 p2 p3 q0 q1 q2 q3;obtain⟨wb,vD⟩:∃ wb,wb=wc.alloc (Obj.cells #[.string (B []),.string (B [95]),.string (B [122]),.string (B [116,121,112,101]),.string (B [64,99]),.string (B [97,32,98]),.string (B [45,62])] 9):=⟨_,rfl⟩;have dM:af ae wc wb:=by rw[vD];exact(af.refl ae wc).alloc _
      have Bi:=hB.kept dM;have kM:=hr.kept dM;have PN:=Au.on dM;have zu:=jg.and dM;obtain⟨x0,x1,x2,x3⟩:=Bi.cells;obtain⟨y0,y1,y2,y3⟩:=Bi.aq;obtain⟨p0,p1,p2,p3⟩:=kM.cells;obtain⟨q0,q1,q2,q3⟩:=kM.aq;have abd:=Bi.lt;obtain⟨BS,YU,uE⟩:∃ BS:List UInt8,wb.cell? ⟨wc.heap.size,c2,none⟩=some (.string (B BS))/\BS.length<=6:=by rw[vD];exact D5 (heap_alloc_new wc _) c2 ju
      rw[<-vD];clear vD;go_wp2_with fail;obtain⟨w9,bf⟩:∃ w9,w9=((((wb.setCell ⟨ob,1,none⟩ (.string (B BS))).setCell ⟨w.heap.size+1,0,none⟩ (.int .i64 k)).setCell ⟨w.heap.size+1,1,none⟩ (.string (B BS))).setCell ⟨w.heap.size+1,2,none⟩ (.int .i64 i)).setCell ⟨w.heap.size+1,3,none⟩ (.slice sa len sc):=⟨_,rfl⟩;have Be:au (wb.setCell ⟨ob,1,none⟩ (.string (B BS))) (w.heap.size+1) (.int .i64 0) (.string (B [])) (.int .i64 0) (.slice none 0 0) 29:=kM.other A0 _;have aJ:=Be.set (d0:=.int .i64 k) (d1:=.string (B BS)) (d2:=.int .i64 i) (d3:=.slice sa len sc);rw[<-bf]at aJ;rw[<-bf];clear bf;obtain⟨e0,e1,e2,e3⟩:=aJ.1.cells;refine bodyPost_ret (v:=.agg #[.int .i64 k,.string (B BS),.int .i64 i,.slice sa len sc]) ?_ rfl ?_
      ·simp[results,Tryz.f29,go_sem,e0,e1,e2,e3]
      exact fL (ts:=ts) HL.out fJ (ai.weaken (fun b _ x=>x.elim .inl (fun y=>.inr (.inl y))) _ _ _ _ (ai.ag (af.set (af.refl _ wb) 1 _) (fun b e=>.inr (.inr e)) _ _ _ _ PN)) aJ (by omega) (zu.trans (af.set (af.refl _ wb) 1 _) (fun i hi e=>by omega)) (by simp only[Tm.cU];omega)
     ·have cK:=(af.refl ae wc).alloc (.cells #[.int .i64 4,.string (B [122]),.int .i64 0,.slice none 0 0] 29);have abv:=World.ownsRow.alloc ahp.out (.cells #[.int .i64 4,.string (B [122]),.int .i64 0,.slice none 0 0] 29);have hBa:=hB.kept cK;have hra:=hr.kept cK;have anL:=jg.size;go_wp2_with (at_builtin;refine wpList_append_lies _ (by rfl) _ _ 26 (by rfl) w.heap.size 29 i0 (.agg #[.int .i64 0,.string (B []),.int .i64 0,.slice none 0 0]) 4 56 (by kernel_rfl) hi fS gn eH rfl (by omega) (.slice sa len sc) len css.flatten (by rfl) abv ⟨wc.heap.size,0,none⟩ 1 1 [.int .i64 4,.string (B [122]),.int .i64 0,.slice none 0 0] (by rfl) rfl (World.news_of_block (heap_alloc_new wc _)) (by simp[Value.oneCell']) (by omega) (by simp only[maxLen];omega) (by omega) (by simp;omega) (wc.heap.size+1) (by simp) ?_;intro g aS w7 DH aN ft xY;have yl:au w7 ob (.int .i64 k) (.string (B nm)) (.int .i64 i) (.slice sa len sc) 29:=(aN.block ob hBa.lt (fun e=>(bq ob e.symm).2 rfl)).trans hBa;have j4:au w7 (w.heap.size+1) (.int .i64 0) (.string (B [])) (.int .i64 0) (.slice none 0 0) 29:=(aN.block _ hra.lt (fun e=>by have:=(bq _ e.symm).1;omega)).trans hra;obtain⟨c70,c71,c72,c73⟩:=yl.cells;obtain⟨d70,d71,d72,d73⟩:=yl.aq;obtain⟨e70,e71,e72,e73⟩:=j4.cells;obtain⟨f70,f71,f72,f73⟩:=j4.aq)
      have Eg:=(Yi.out.on cK).leaf (k:=4) (i:=0) (n:=[122]) (g:=g) (cap:=aS) (by rw[<-HL.out];exact DH) (by rw[<-HL.out];exact aN);obtain⟨a8,c8,hv8,aaW,WZ⟩:=Eg.rep;simp only[Value.slice.injEq]at hv8;obtain⟨rfl,_,rfl⟩:=hv8
      have nL:w2.heap.size<=g/\g≠ob:=by
        rcases ft with h |h
        ·exact bq g h
        rw[h];omega
      have Qd:ai (fun b=>(O b/\b<w.heap.size)\/b=w.heap.size+1\/b=ob) w7 4 ((ts++[Tm.mk 4 [122] 0 []]).map Tm.az) (some ⟨g,0,none⟩) 0:=by
        refine ai.weaken (fun b _ e=>?_) _ _ _ _ WZ;rcases e with e |e |e
        ·exact .inl e
        ·exact .inr ⟨by omega,fun e2=>by simp only[Value.ownBlock,Option.some.injEq]at e2;omega⟩
        exact .inr ⟨by omega,fun e2=>by simp only[Value.ownBlock,Option.some.injEq]at e2;omega⟩
      have cm:af ae w w7:=(jg.and cK).trans (ck aN) (fun i hi e=>by have:=(bq i e).1;omega);have anl:Tm.eV (ts++[Tm.mk 4 [122] 0 []])=Tm.eV ts+2:=by rw[Tm.uI];simp[Tm.eV]
      obtain⟨w9,bf⟩:∃ w9,w9=((((w7.setCell ⟨ob,3,none⟩ (.slice (some ⟨g,0,none⟩) (len+1) aS)).setCell ⟨w.heap.size+1,0,none⟩ (.int .i64 k)).setCell ⟨w.heap.size+1,1,none⟩ (.string (B nm))).setCell ⟨w.heap.size+1,2,none⟩ (.int .i64 i)).setCell ⟨w.heap.size+1,3,none⟩ (.slice (some ⟨g,0,none⟩) (len+1) aS):=⟨_,rfl⟩;have Be:au (w7.setCell ⟨ob,3,none⟩ (.slice (some ⟨g,0,none⟩) (len+1) aS)) (w.heap.size+1) (.int .i64 0) (.string (B [])) (.int .i64 0) (.slice none 0 0) 29:=j4.other A0 _;have aJ:=Be.set (d0:=.int .i64 k) (d1:=.string (B nm)) (d2:=.int .i64 i) (d3:=.slice (some ⟨g,0,none⟩) (len+1) aS);rw[<-bf]at aJ;rw[<-bf];clear bf;obtain⟨e0,e1,e2,e3⟩:=aJ.1.cells;refine bodyPost_ret (v:=.agg #[.int .i64 k,.string (B nm),.int .i64 i,.slice (some ⟨g,0,none⟩) (len+1) aS]) ?_ rfl ?_
      ·simp[results,Tryz.f29,go_sem,e0,e1,e2,e3]
      exact fL (ts:=ts++[Tm.mk 4 [122] 0 []]) (by simp[<-HL.out]) (by rw[HL.out];simpa using aaW) (ai.weaken (fun b _ x=>x.elim .inl (fun y=>.inr (.inl y))) _ _ _ _ (ai.ag (af.set (af.refl _ w7) 3 _) (fun b e=>.inr (.inr e)) _ _ _ _ Qd)) aJ (by omega) (cm.trans (af.set (af.refl _ w7) 3 _) (fun i hi e=>by omega)) (by simp only[Tm.cU];omega)
     ·by_cases h4:0<len
      ·first
         |(exfalso;omega)
         |(have ap9:(0:Int)<=(len:Int) - 1:=by omega
           have ao1:(len:Int) - 1<=(sc:Int):=by omega
           go_wp2_with fail;obtain⟨w9,bf⟩:∃ w9,w9=(((((wc.setCell ⟨ob,3,none⟩ (.slice sa (len - 1) sc)).setCell ⟨w.heap.size+1,0,none⟩ (.int .i64 k)).setCell ⟨w.heap.size+1,1,none⟩ (.string (B nm))).setCell ⟨w.heap.size+1,2,none⟩ (.int .i64 i)).setCell ⟨w.heap.size+1,3,none⟩ (.slice sa (len - 1) sc)):=⟨_,rfl⟩;have Be:au (wc.setCell ⟨ob,3,none⟩ (.slice sa (len - 1) sc)) (w.heap.size+1) (.int .i64 0) (.string (B [])) (.int .i64 0) (.slice none 0 0) 29:=hr.other A0 _;have ah:=Be.set (d0:=.int .i64 k) (d1:=.string (B nm)) (d2:=.int .i64 i) (d3:=.slice sa (len - 1) sc);have aJ:=ah;rw[<-bf]at aJ;rw[<-bf];clear bf ah;obtain⟨e0,e1,e2,e3⟩:=aJ.1.cells;refine bodyPost_ret (v:=.agg #[.int .i64 k,.string (B nm),.int .i64 i,.slice sa (len - 1) sc]) ?_ rfl ?_
           ·simp[results,Tryz.f29,go_sem,e0,e1,e2,e3]
           exact fL (ts:=ts.take (len - 1)) (by simp[<-HL.out]) (by omega) (ai.weaken (fun b _ x=>x.elim .inl (fun y=>.inr (.inl y))) _ _ _ _ (ai.ag (af.set (af.refl _ wc) 3 _) (fun b e=>.inr (.inr e)) _ _ _ _ (JL (len - 1) Au))) aJ (by omega) (jg.trans (af.set (af.refl _ wc) 3 _) (fun i hi e=>by omega)) (by have:=CJ ts (len - 1);simp only[Tm.cU];omega))
      first
        |(exfalso;omega)
        |(go_wp2_with fail
          obtain⟨w9,bf⟩:∃ w9,w9=((((wc.setCell ⟨w.heap.size+1,0,none⟩ (.int .i64 k)).setCell ⟨w.heap.size+1,1,none⟩ (.string (B nm))).setCell ⟨w.heap.size+1,2,none⟩ (.int .i64 i)).setCell ⟨w.heap.size+1,3,none⟩ (.slice sa len sc)):=⟨_,rfl⟩;have Be:au wc (w.heap.size+1) (.int .i64 0) (.string (B [])) (.int .i64 0) (.slice none 0 0) 29:=hr;have ah:=Be.set (d0:=.int .i64 k) (d1:=.string (B nm)) (d2:=.int .i64 i) (d3:=.slice sa len sc);have aJ:=ah;rw[<-bf]at aJ;rw[<-bf];clear bf ah;obtain⟨e0,e1,e2,e3⟩:=aJ.1.cells;refine bodyPost_ret (v:=.agg #[.int .i64 k,.string (B nm),.int .i64 i,.slice sa len sc]) ?_ rfl ?_
          ·simp[results,Tryz.f29,go_sem,e0,e1,e2,e3]
          exact fL (ts:=ts) HL.out fJ (ai.weaken (fun b _ x=>x.elim .inl (fun y=>.inr (.inl y))) _ _ _ _ Au) aJ (by omega) (jg) (by simp only[Tm.cU];omega))
     ·go_wp2_with fail;have Vh:aw (fun b=>(O b/\b<w.heap.size)\/b=w.heap.size+1\/b=ob) wc (Tm.mk k nm i ts).az [.int .i64 k,.string (B nm),.int .i64 i,.slice sa len sc]:=bg.2 ⟨sa,sc,by rw[<-HL.out],by rw[<-HL.out];exact fJ,Au⟩;obtain⟨w9,bf⟩:∃ w9,w9=((((((((wc.setCell ⟨ob,0,none⟩ (.int .i64 3)).setCell ⟨ob,1,none⟩ (.string (B []))).setCell ⟨ob,2,none⟩ (.int .i64 0)).setCell ⟨ob,3,none⟩ (.slice (some ⟨wc.heap.size,0,none⟩) 1 1)).setCell ⟨w.heap.size+1,0,none⟩ (.int .i64 3)).setCell ⟨w.heap.size+1,1,none⟩ (.string (B []))).setCell ⟨w.heap.size+1,2,none⟩ (.int .i64 0)).setCell ⟨w.heap.size+1,3,none⟩ (.slice (some ⟨wc.heap.size,0,none⟩) 1 1)).alloc (.cells #[.int .i64 k,.string (B nm),.int .i64 i,.slice sa len sc] 29):=⟨_,rfl⟩;have s1:=hB.set (d0:=.int .i64 3) (d1:=.string (B [])) (d2:=.int .i64 0) (d3:=.slice (some ⟨wc.heap.size,0,none⟩) 1 1);have s2:=(hr.ag s1.2 A0).set (d0:=.int .i64 3) (d1:=.string (B [])) (d2:=.int .i64 0) (d3:=.slice (some ⟨wc.heap.size,0,none⟩) 1 1);have bU:af ae w w9:=by rw[bf];exact((jg.trans s1.2 (fun i hi e=>by omega)).trans s2.2 (fun i hi e=>by omega)).alloc _
      have gM:au w9 (w.heap.size+1) (.int .i64 3) (.string (B [])) (.int .i64 0) (.slice (some ⟨wc.heap.size,0,none⟩) 1 1) 29:=by rw[bf];exact s2.1.kept ((af.refl ae _).alloc _)
      have oK:aw (fun b=>(O b/\b<w.heap.size)\/b=w.heap.size+1\/b=ob) w9 (Tm.mk k nm i ts).az [.int .i64 k,.string (B nm),.int .i64 i,.slice sa len sc]:=by rw[bf];exact(aw.ag s2.2 (fun b e=>.inr (.inl e)) _ _ (aw.ag s1.2 (fun b e=>.inr (.inr e)) _ _ Vh)).on ((af.refl ae _).alloc _)
      have FJ:au w9 wc.heap.size (.int .i64 k) (.string (B nm)) (.int .i64 i) (.slice sa len sc) 29:=by rw[bf];exact au.av (by simp)
      rw[<-bf];clear bf;obtain⟨e0,e1,e2,e3⟩:=gM.cells;have hwl:=jg.size;refine bodyPost_ret (v:=.agg #[.int .i64 3,.string (B []),.int .i64 0,.slice (some ⟨wc.heap.size,0,none⟩) 1 1]) ?_ rfl ?_
      ·simp[results,Tryz.f29,go_sem,e0,e1,e2,e3]
      exact⟨3,0,[],_,1,1,.mk 3 [] 0 [.mk k nm i ts],rfl,A1 (aw.weaken (fun b _ x=>.inl x) _ _ oK) (fun x=>by omega) FJ 3 [] 0,by simp[Tm.eV]<;>omega,bU⟩
     ·go_wp2_with fail;obtain⟨wb,vD⟩:∃ wb,wb=wc:=⟨_,rfl⟩;have Bi:=hB;have kM:=hr;have PN:=Au;have zu:=jg;rw[<-vD]at Bi kM PN zu;subst vD;have sb:=Bi.set (d0:=.int .i64 1) (d1:=.string (B [])) (d2:=.int .i64 0) (d3:=.slice none 0 0);obtain⟨w9,bf⟩:∃ w9,w9=(((((((wb.setCell ⟨ob,0,none⟩ (.int .i64 1)).setCell ⟨ob,1,none⟩ (.string (B []))).setCell ⟨ob,2,none⟩ (.int .i64 0)).setCell ⟨ob,3,none⟩ (.slice none 0 0)).setCell ⟨w.heap.size+1,0,none⟩ (.int .i64 1)).setCell ⟨w.heap.size+1,1,none⟩ (.string (B []))).setCell ⟨w.heap.size+1,2,none⟩ (.int .i64 0)).setCell ⟨w.heap.size+1,3,none⟩ (.slice none 0 0):=⟨_,rfl⟩;have Be:au ((((wb.setCell ⟨ob,0,none⟩ (.int .i64 1)).setCell ⟨ob,1,none⟩ (.string (B []))).setCell ⟨ob,2,none⟩ (.int .i64 0)).setCell ⟨ob,3,none⟩ (.slice none 0 0)) (w.heap.size+1) (.int .i64 0) (.string (B [])) (.int .i64 0) (.slice none 0 0) 29:=(kM.ag sb.2 A0);have aJ:=Be.set (d0:=.int .i64 1) (d1:=.string (B [])) (d2:=.int .i64 0) (d3:=.slice none 0 0);rw[<-bf]at aJ;rw[<-bf];clear bf;obtain⟨e0,e1,e2,e3⟩:=aJ.1.cells;refine bodyPost_ret (v:=.agg #[.int .i64 1,.string (B []),.int .i64 0,.slice none 0 0]) ?_ rfl ?_
      ·simp[results,Tryz.f29,go_sem,e0,e1,e2,e3]
      exact fL (ts:=[]) rfl (Nat.le_refl _) (by simp only[List.map_nil,ai]) aJ (by omega) (zu.trans sb.2 (fun i hi e=>by omega)) (by simp[Tm.eV]<;>omega)
     ·go_wp2_with fail;go_region_law ((rw[if_pos (by rfl)]);go_simp;(go_at_call 25);refine(HC _ 3 (by omega) (by omega) _).mono ?_;rintro e wd ⟨⟨c2,ju,rfl⟩,rfl⟩)
      all_goals
        go_wp2_with fail;obtain⟨w9,bf⟩:∃ w9,w9=(((((wc.setCell ⟨ob,2,none⟩ (.int .i64 (wrap64 (i+(1+(c2:Int)))))).setCell ⟨w.heap.size+1,0,none⟩ (.int .i64 k)).setCell ⟨w.heap.size+1,1,none⟩ (.string (B nm))).setCell ⟨w.heap.size+1,2,none⟩ (.int .i64 (wrap64 (i+(1+(c2:Int)))))).setCell ⟨w.heap.size+1,3,none⟩ (.slice sa len sc)).drew:=⟨_,rfl⟩;have Be:au (wc.setCell ⟨ob,2,none⟩ (.int .i64 (wrap64 (i+(1+(c2:Int)))))) (w.heap.size+1) (.int .i64 0) (.string (B [])) (.int .i64 0) (.slice none 0 0) 29:=hr.other A0 _;have ah:=Be.set (d0:=.int .i64 k) (d1:=.string (B nm)) (d2:=.int .i64 (wrap64 (i+(1+(c2:Int))))) (d3:=.slice sa len sc);have aJ:au (((((wc.setCell ⟨ob,2,none⟩ (.int .i64 (wrap64 (i+(1+(c2:Int)))))).setCell ⟨w.heap.size+1,0,none⟩ (.int .i64 k)).setCell ⟨w.heap.size+1,1,none⟩ (.string (B nm))).setCell ⟨w.heap.size+1,2,none⟩ (.int .i64 (wrap64 (i+(1+(c2:Int)))))).setCell ⟨w.heap.size+1,3,none⟩ (.slice sa len sc)).drew (w.heap.size+1) (.int .i64 k) (.string (B nm)) (.int .i64 (wrap64 (i+(1+(c2:Int))))) (.slice sa len sc) 29/\af (fun x=>x=w.heap.size+1) (wc.setCell ⟨ob,2,none⟩ (.int .i64 (wrap64 (i+(1+(c2:Int)))))) (((((wc.setCell ⟨ob,2,none⟩ (.int .i64 (wrap64 (i+(1+(c2:Int)))))).setCell ⟨w.heap.size+1,0,none⟩ (.int .i64 k)).setCell ⟨w.heap.size+1,1,none⟩ (.string (B nm))).setCell ⟨w.heap.size+1,2,none⟩ (.int .i64 (wrap64 (i+(1+(c2:Int)))))).setCell ⟨w.heap.size+1,3,none⟩ (.slice sa len sc)).drew:=⟨ah.1,ah.2.drew⟩;rw[<-bf]at aJ;rw[<-bf];clear bf ah;obtain⟨e0,e1,e2,e3⟩:=aJ.1.cells;refine bodyPost_ret (v:=.agg #[.int .i64 k,.string (B nm),.int .i64 (wrap64 (i+(1+(c2:Int)))),.slice sa len sc]) ?_ rfl ?_
        ·simp[results,Tryz.f29,go_sem,e0,e1,e2,e3]
        exact fL (ts:=ts) HL.out fJ (ai.weaken (fun b _ x=>x.elim .inl (fun y=>.inr (.inl y))) _ _ _ _ (ai.ag (af.set (af.refl _ wc) 2 _) (fun b e=>.inr (.inr e)) _ _ _ _ Au)) aJ (by omega) (jg.trans (af.set (af.refl _ wc) 2 _) (fun i hi e=>by omega)) (by simp only[Tm.cU];omega)
     go_wp2_with fail;refine(HC _ 3 (by omega) (by omega) _).mono ?_;rintro e wd ⟨⟨c2,ju,rfl⟩,rfl⟩;have c20:(0:Int)<=(c2:Int):=by omega
     clear x0 x1 x2 x3 y0 y1 y2 y3 p0 p1 p2 p3 q0 q1 q2 q3;obtain⟨wb,vD⟩:∃ wb,wb=wc.alloc (Obj.cells #[.string (B [122]),.string (B [110,97,116]),.string (B [110,111,98,111,100,121])] 9):=⟨_,rfl⟩;have dM:af ae wc wb:=by rw[vD];exact(af.refl ae wc).alloc _
     have Bi:=hB.kept dM;have kM:=hr.kept dM;have PN:=Au.on dM;have zu:=jg.and dM;obtain⟨x0,x1,x2,x3⟩:=Bi.cells;obtain⟨y0,y1,y2,y3⟩:=Bi.aq;obtain⟨p0,p1,p2,p3⟩:=kM.cells;obtain⟨q0,q1,q2,q3⟩:=kM.aq;have abd:=Bi.lt;obtain⟨BS,YU,uE⟩:∃ BS:List UInt8,wb.cell? ⟨wc.heap.size,c2,none⟩=some (.string (B BS))/\BS.length<=6:=by rw[vD];exact Ef (heap_alloc_new wc _) c2 ju
     rw[<-vD];clear vD;go_wp2_with fail;have sb:=Bi.set (d0:=.int .i64 4) (d1:=.string (B BS)) (d2:=.int .i64 0) (d3:=.slice none 0 0);obtain⟨w9,bf⟩:∃ w9,w9=(((((((wb.setCell ⟨ob,0,none⟩ (.int .i64 4)).setCell ⟨ob,1,none⟩ (.string (B BS))).setCell ⟨ob,2,none⟩ (.int .i64 0)).setCell ⟨ob,3,none⟩ (.slice none 0 0)).setCell ⟨w.heap.size+1,0,none⟩ (.int .i64 4)).setCell ⟨w.heap.size+1,1,none⟩ (.string (B BS))).setCell ⟨w.heap.size+1,2,none⟩ (.int .i64 0)).setCell ⟨w.heap.size+1,3,none⟩ (.slice none 0 0):=⟨_,rfl⟩;have Be:au ((((wb.setCell ⟨ob,0,none⟩ (.int .i64 4)).setCell ⟨ob,1,none⟩ (.string (B BS))).setCell ⟨ob,2,none⟩ (.int .i64 0)).setCell ⟨ob,3,none⟩ (.slice none 0 0)) (w.heap.size+1) (.int .i64 0) (.string (B [])) (.int .i64 0) (.slice none 0 0) 29:=(kM.ag sb.2 A0);have aJ:=Be.set (d0:=.int .i64 4) (d1:=.string (B BS)) (d2:=.int .i64 0) (d3:=.slice none 0 0);rw[<-bf]at aJ;rw[<-bf];clear bf;obtain⟨e0,e1,e2,e3⟩:=aJ.1.cells;refine bodyPost_ret (v:=.agg #[.int .i64 4,.string (B BS),.int .i64 0,.slice none 0 0]) ?_ rfl ?_
     ·simp[results,Tryz.f29,go_sem,e0,e1,e2,e3]
     exact fL (ts:=[]) rfl (Nat.le_refl _) (by simp only[List.map_nil,ai]) aJ (by omega) (zu.trans sb.2 (fun i hi e=>by omega)) (by simp[Tm.eV]<;>omega)
end Go.Proofs.YthgmimncdjhgnaaGreatDoor
