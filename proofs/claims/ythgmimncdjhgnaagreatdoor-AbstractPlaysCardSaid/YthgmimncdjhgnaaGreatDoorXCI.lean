/- Ge objects wh a law makes. -/
import Derived.Test.YthgmimncdjhgnaaGreatDoorXCH
set_option maxRecDepth 100000
set_option maxHeartbeats 8000000
namespace Go.Proofs.YthgmimncdjhgnaaGreatDoor
open Go.RowKit Go.LF
theorem nR(deep:Nat):deep<=12->∀(vars ay:Nat),vars+deep<=1000->ay<=1000->∀(T:Nat)(w:World),bL w T->aW T w->
    Calls Tryz.prog 28 #[.pointer (some ⟨T,0,none⟩),.int .i64 deep,.int .i64 vars,.int .i64 ay] w (sT w.heap.size deep vars ay T w):=by
  induction deep with
  |zero=>intro _ vars ay hv hm T w hT hN;exact Nr vars ay (by omega) hm T w hT hN
  |succ d ih=>
   intro hd vars ay hv hm T w hT hN;obtain⟨D,hD⟩:∃ D:Int,D=((d+1:Nat):Int):=⟨_,rfl⟩;obtain⟨V,hV⟩:∃ V:Int,V=(vars:Int):=⟨_,rfl⟩;obtain⟨M,hM⟩:∃ M:Int,M=(ay:Int):=⟨_,rfl⟩;rw[<-hD,<-hV,<-hM];have NX:=fun(n:Int)h0 h1 w hT=>gh n h0 h1 T w hT
   have D0:0<D:=by omega
   have D1:D<=13:=by omega
   have V0:0<=V:=by omega
   have V1:V<=1000:=by omega
   have M0:0<=M:=by omega
   have M1:M<=1000:=by omega
   have HD:=ak hD;have HV:=ak hV;have HM:=ak hM;clear hD hV hM;have lD:=hT.lt;go_enter Tryz.func28,Tryz.ntmps28;go_wp2_with fail;refine(NX _ (by omega) (by omega) _ ((hT.on ((af.refl ae w).alloc _)).on ((af.refl ae _).alloc _))).mono ?_;rintro e w1 ⟨⟨c,hc,rfl⟩,ic,aH⟩
   have KW:w1.heap[w.heap.size+1]? =some (.cells #[.int .i64 3,.int .i64 4,.int .i64 4,.int .i64 5,.int .i64 6] 3 (0,0)):=by
     rw[aH.block _ (by simp) (fun e=>by simp only[cv]at e;omega)];have:=heap_alloc_new (w.alloc (.cells #[.int .i64 0,.string (B []),.int .i64 0,.slice none 0 0] 29)) (.cells #[.int .i64 3,.int .i64 4,.int .i64 4,.int .i64 5,.int .i64 6] 3);rw[World.size_alloc]at this;exact this
   obtain⟨kk,MK,Nv⟩:=DW KW c hc;have aF:af (cv T) w w1:=(((af.refl (cv T) w).alloc _).alloc _).trans aH (fun _ _ x=>x);have c0:(0:Int)<=(c:Int):=by omega
   have c5:(c:Int)<5:=hc;clear KW hT
   have cP:au w1 w.heap.size (.int .i64 0) (.string (B [])) (.int .i64 0) (.slice none 0 0) 29:=by
     unfold au;rw[aH.block _ (by simp;omega) (fun e=>by simp only[cv]at e;omega)];exact(nW _ _ _ (by simp)).trans (heap_alloc_new w _)
   clear aH;have yb:aW T w1:=hN.ag aF;clear hN;have dD:w.heap.size≠T:=by omega
   have cV:kk=3\/kk=4\/(kk=5/\V=0)\/(kk=6/\M=0)\/(kk=5/\(V == 0)=false/\0<V)\/(kk=6/\(M == 0)=false/\0<M):=by
     rcases Nv with rfl |rfl |rfl |rfl
     ·exact .inl rfl
     ·exact .inr (.inl rfl)
     ·by_cases h:V=0
      ·exact .inr (.inr (.inl ⟨rfl,h⟩))
      exact .inr (.inr (.inr (.inr (.inl ⟨rfl,by simpa using h,by omega⟩))))
     by_cases h:M=0
     ·exact .inr (.inr (.inr (.inl ⟨rfl,h⟩)))
     exact .inr (.inr (.inr (.inr (.inr ⟨rfl,by simpa using h,by omega⟩))))
   clear Nv;rcases cV with rfl |rfl |⟨rfl,rfl⟩|⟨rfl,rfl⟩|⟨rfl,XF,hp⟩|⟨rfl,XF,hp⟩
   case inl=>
     obtain⟨nb,no,lh,ag8,SY,QJ,kz,FZ⟩:=yb.open;go_wp2_with fail;obtain⟨w2,dY⟩:∃ w2,w2=w1.alloc (.cells #[.int .i64 3,.string (B []),.int .i64 0,.slice none 0 0] 29):=⟨_,rfl⟩;have aL:af ae w1 w2:=by rw[dY];exact(af.refl ae w1).alloc _
     have b6:au w2 w1.heap.size (.int .i64 3) (.string (B [])) (.int .i64 0) (.slice none 0 0) 29:=by rw[dY];exact au.new _ _ _ _ _ _
     have kL:=cP.kept aL;have yZ:=ic.on aL;have JT:=yb.on aL;have UP:=aL.cell kz (fun x=>x);have Uy:jO nb no w2:=FZ.ag (aL.mono (fun _ _ x=>x.elim)) QJ;have Bb:w1.heap.size≠T:=by have:=ic.lt;omega
     have ee:w.heap.size<w1.heap.size:=cP.lt;have afe:nb<w1.heap.size:=World.block_lt_of_cell? _ _ (FZ 0 (by decide));have aiE:(⟨w1.heap.size,1,none⟩:Addr)≠⟨0,0,none⟩:=by intro e;have:w1.heap.size=0:=congrArg Addr.block e;omega
     have ail:∀ j,(⟨w1.heap.size,1,none⟩:Addr)≠⟨nb,no+j,none⟩:=by intro j e;have:w1.heap.size=nb:=congrArg Addr.block e;omega
     rw[<-show B []={ data:=#[] }from rfl,<-dY];clear dY ic yb kz cP FZ;have Tn:=b6.cells;have hof:=b6.aq;have abH:∀ j,j<6->w2.drew.cell? ⟨nb,no+j,none⟩=some (.string (B (nameAt j))):=Uy;have abZ:w2.drew.cell? ⟨0,0,none⟩=some (.slice (some ⟨nb,no,none⟩) 6 lh):=UP;have ah3:w2.drew.cell? ⟨w1.heap.size,1,none⟩=some (.string (B [])):=Tn.2.1;have aim:w2.drew.frozen? ⟨w1.heap.size,1,none⟩=false:=hof.2.1
     go_region_held3 (fun w'=>w'.cell? ⟨0,0,none⟩=some (.slice (some ⟨nb,no,none⟩) 6 lh)/\(∀ j,j<6->w'.cell? ⟨nb,no+j,none⟩=some (.string (B (nameAt j)))))
       (first |(exact⟨by assumption,by assumption⟩)|(exact⟨(World.cell?_setCell_other _ _ _ _ aiE).trans acK,fun j hj=>(World.cell?_setCell_other _ _ _ _ (ail j)).trans (aaF j hj)⟩))
       ((go_at_call 27;refine(NX _ (by omega) (by omega) _ (yZ.on (af.refl ae w2).drew)).mono ?_;rintro e w3 ⟨⟨c2,ju,rfl⟩,lU,aZ⟩;
         have nA:af (cv T) w2 w3:=af.trans ((af.refl (cv T) w2).drew) aZ (fun _ _ x=>x);
         have aft:c2<6:=(by omega);have aaF:∀ j,j<6->w3.cell? ⟨nb,no+j,none⟩=some (.string (B (nameAt j))):=Uy.ag nA QJ;have acK:=nA.cell UP (fun e=>SY e.symm);have et:=b6.ag nA Bb;have Hn:=et.cells.2.1;have OQ:=et.frozen 1))
     obtain⟨w4,eh⟩:∃ w4,w4=w3.setCell ⟨w1.heap.size,1,none⟩ (.string (B (nameAt c2))):=⟨_,rfl⟩;have cQ:af (cv T) w w3:=(aF.trans aL (fun _ _ x=>x.elim)).trans nA (fun _ _ x=>x);have KD:=JT.ag nA;have ah:af (fun b=>b=w1.heap.size) w3 w4:=by rw[eh];exact af.setCell (S:=fun b=>b=w1.heap.size) (p:=⟨w1.heap.size,1,none⟩) (af.refl _ w3) (fun _=>rfl) _
     have afL:T<w1.heap.size:=by omega
     have Jf:=lU.kW ah (fun b e=>by omega);have hN4:=KD.kW ah (fun b e=>by omega);have RS:au w4 w1.heap.size (.int .i64 3) (.string (B (nameAt c2))) (.int .i64 0) (.slice none 0 0) 29:=by rw[eh];exact et.mu _
     have CE:au w4 w.heap.size _ _ _ _ _:=(kL.ag nA dD).ag ah (by omega);have abj:af (cv T) w w4:=cQ.trans (ah.mono (S':=fun b=>b=w1.heap.size) (fun _ _ x=>x)) (fun b hb e=>by omega)
     have IH:∀(x y:Int)(vr:Nat)(W:World),x=d->y=vr->vr+d<=1000->bL W T->aW T W->Calls Tryz.prog 28 #[.pointer (some ⟨T,0,none⟩),.int .i64 x,.int .i64 y,.int .i64 M] W (sT W.heap.size d vr ay T W):=by
       intro x y vr W hx hy h1 h2 h3;rw[hx,hy,HM.out];exact ih (by omega) vr ay h1 hm T W h2 h3
     have IM:D - 1=(d:Int):=by have:=HD.out;omega
     have Px:V+1=((vars+1:Nat):Int):=by have:=HV.out;omega
     have Kk:=ak IM;have HVv:=ak Px;clear IM Px;rw[<-eh];clear eh b6 et kL yZ JT UP Uy abH abZ Tn hof ah3 aim aaF acK Hn OQ ah cQ KD lU aZ nA aL MK;go_wp2_with fail;refine(IH _ _ (vars+1) _ Kk.out HVv.out (by omega) Jf hN4).mono ?_;rintro e w5 ⟨k1,i1,n1,a1,bH,bG,t,rfl,gN,ES,qT,Kh,ba⟩;have fK:=RS.ag ba Bb;have km:=CE.ag ba dD;have XH:=fK.cells;have aiP:=fK.aq;have dR:=km.cells;have ahm:=km.aq;have q1:w1.heap.size<w5.heap.size:=fK.lt;have q2:w.heap.size<w5.heap.size:=km.lt;obtain⟨b0,b1,b2,b3⟩:=XH;obtain⟨d0,d1,d2,d3⟩:=dR;obtain⟨f0,f1,f2,f3⟩:=aiP;obtain⟨g0,g1,g2,g3⟩:=ahm;go_wp2_with fail
     obtain⟨w6,iF⟩:∃ w6,w6=(((((w5.setCell ⟨w1.heap.size,3,none⟩ (.slice (some ⟨w5.heap.size,0,none⟩) 1 1)).setCell ⟨w.heap.size,0,none⟩ (.int .i64 3)).setCell ⟨w.heap.size,1,none⟩ (.string (B (nameAt c2)))).setCell ⟨w.heap.size,2,none⟩ (.int .i64 0)).setCell
         ⟨w.heap.size,3,none⟩ (.slice (some ⟨w5.heap.size,0,none⟩) 1 1)).alloc (.cells #[.int .i64 k1,.string (B n1),.int .i64 i1,.slice a1 bH bG] 29):=⟨_,rfl⟩
     have Dx:au w6 w.heap.size (.int .i64 3) (.string (B (nameAt c2))) (.int .i64 0) (.slice (some ⟨w5.heap.size,0,none⟩) 1 1) 29:=by
       rw[iF];exact(((((km.other (by omega) _).ui _).mu _).kG _).mH _).kept ((af.refl ae _).alloc _)
     have ql:au w6 w5.heap.size (.int .i64 k1) (.string (B n1)) (.int .i64 i1) (.slice a1 bH bG) 29:=by
       rw[iF]
       have:=au.new (((((w5.setCell ⟨w1.heap.size,3,none⟩ (.slice (some ⟨w5.heap.size,0,none⟩) 1 1)).setCell ⟨w.heap.size,0,none⟩ (.int .i64 3)).setCell ⟨w.heap.size,1,none⟩ (.string (B (nameAt c2)))).setCell ⟨w.heap.size,2,none⟩ (.int .i64 0)).setCell
         ⟨w.heap.size,3,none⟩ (.slice (some ⟨w5.heap.size,0,none⟩) 1 1)) (.int .i64 k1) (.string (B n1)) (.int .i64 i1) (.slice a1 bH bG) 29
       simpa using this
     have bj:af (fun b=>b=w1.heap.size\/b=w.heap.size) w5 w6:=by
       rw[iF];refine af.alloc ?_ _;refine af.setCell ?_ (fun _=>.inr rfl) _;refine af.setCell ?_ (fun _=>.inr rfl) _;refine af.setCell ?_ (fun _=>.inr rfl) _;refine af.setCell ?_ (fun _=>.inr rfl) _;exact af.setCell (af.refl _ _) (fun _=>.inl rfl) _
     rw[<-iF];clear iF;have zg:=qT.kW bj (fun b e=>by omega);have Rk:=Kh.kW bj (fun b e=>by omega);have T8:af (cv T) w w6:=(abj.trans ba (fun _ _ x=>x)).trans bj (fun b hb e=>by omega);have hwl:w.heap.size<=w4.heap.size:=abj.size;have dg:aw (fun b=>b<w4.heap.size) w6 t.az [.int .i64 k1,.string (B n1),.int .i64 i1,.slice a1 bH bG]:=aw.ag bj (fun b e=>by have:=RS.lt;have:=CE.lt;rcases e with rfl |rfl<;>assumption) _ _ gN;obtain⟨e0,e1,e2,e3⟩:=Dx.cells;obtain⟨n0,m1,m2,m3⟩:=ql.cells;refine bodyPost_ret (v:=.agg #[.int .i64 3,.string (B (nameAt c2)),.int .i64 0,.slice (some ⟨w5.heap.size,0,none⟩) 1 1]) ?_ rfl ?_
     ·simp[results,Tryz.f28,go_sem,e0,e1,e2,e3]
     refine⟨3,0,nameAt c2,some ⟨w5.heap.size,0,none⟩,1,1,.mk 3 (nameAt c2) 0 [t],rfl,bg.2 ⟨_,1,rfl,Nat.le_refl _,?_⟩,Tm.Oi ES _ (oP c2).1 (oP c2).2,zg,Rk,T8⟩;refine bT _ _ _ (fun i hi=>?_);obtain rfl:i=0:=by simpa using hi
     refine⟨w5.heap.size,0,_,rfl,ql.lt,by omega,?_,?_,aw.weaken (fun b _ e=>by omega) _ _ dg⟩
     ·rfl
     intro m v hv;match m,hv with
     |0,hv=>cases hv;exact n0
     |1,hv=>cases hv;exact m1
     |2,hv=>cases hv;exact m2
     |3,hv=>cases hv;exact m3
   case' inr.inl |inr.inr.inl |inr.inr.inr.inl=>
     go_wp2_with fail;refine(NX _ (by omega) (by omega) _ ((ic.on ((af.refl ae w1).alloc _)).on ((af.refl ae _).alloc _))).mono ?_;rintro e w3 ⟨⟨c2,ju,rfl⟩,lU,aZ⟩
     have mU:w3.heap[w1.heap.size+1]? =some (.cells #[.string (B [122]),.string (B [115]),.string (B [99]),.string (B [97,112,112])] 9 (0,0)):=by
       rw[aZ.block _ (by simp) (fun e=>by simp only[cv]at e;have:=ic.lt;omega)];have:=heap_alloc_new (w1.alloc (.cells #[.int .i64 4,.string (B []),.int .i64 0,.slice none 0 0] 29)) (.cells #[.string (B [122]),.string (B [115]),.string (B [99]),.string (B [97,112,112])] 9);rw[World.size_alloc]at this;exact this
     obtain⟨nm,qG,zn,uE⟩:=ph mU c2 ju;have d0:(0:Int)<=(c2:Int):=by omega
     have Bb:w1.heap.size≠T:=by have:=ic.lt;omega
     have et:au w3 w1.heap.size (.int .i64 4) (.string (B [])) (.int .i64 0) (.slice none 0 0) 29:=by
       unfold au;rw[aZ.block _ (by simp;omega) (fun e=>by simp only[cv]at e;omega)];exact(nW _ _ _ (by simp)).trans (heap_alloc_new w1 _)
     have j6:af (cv T) w1 w3:=(((af.refl (cv T) w1).alloc _).alloc _).trans aZ (fun _ _ x=>x);clear aZ mU;have Hn:=et.cells.2.1;have OQ:=et.frozen 1;have q1:w.heap.size<w1.heap.size:=cP.lt;go_wp2_with fail;obtain⟨wp,xJ⟩:∃ wp,wp=w3.setCell ⟨w1.heap.size,1,none⟩ (.string (B nm)):=⟨_,rfl⟩;have ah:af (fun b=>b=w1.heap.size) w3 wp:=by rw[xJ];exact af.setCell (S:=fun b=>b=w1.heap.size) (p:=⟨w1.heap.size,1,none⟩) (af.refl _ w3) (fun _=>rfl) _
     have eJ:∃ kf nm ix,au wp w1.heap.size (.int .i64 kf) (.string (B nm)) (.int .i64 ix) (.slice none 0 0) 29/\(∀ ts:List Tm,ts.length<=2->(∀ t∈ts,Tm.Fits t d vars ay)->Tm.Fits (.mk kf nm ix ts) (d+1) vars ay):=
       ⟨4,nm,0,by rw[xJ];exact et.mu _,fun ts h1 h2=>Tm.jQ (.inl rfl) h1 h2 (fun _=>⟨zn,rfl⟩) (fun e=>by omega) (fun e=>by omega) (by omega) (by omega) uE⟩
     clear et Hn OQ qG zn uE
   case' inr.inr.inr.inr.inl=>
     go_wp2_with fail;refine(NX _ (by omega) (by omega) _ (ic.on ((af.refl ae w1).alloc _))).mono ?_;rintro e w3 ⟨⟨c2,ju,rfl⟩,lU,aZ⟩;have Bb:w1.heap.size≠T:=by have:=ic.lt;omega
     have et:au w3 w1.heap.size (.int .i64 5) (.string (B [])) (.int .i64 0) (.slice none 0 0) 29:=by
       unfold au;rw[aZ.block _ (by simp) (fun e=>by simp only[cv]at e;omega)];exact heap_alloc_new w1 _
     have j6:af (cv T) w1 w3:=((af.refl (cv T) w1).alloc _).trans aZ (fun _ _ x=>x);clear aZ;have Hn:=et.cells.2.2.1;have OQ:=et.frozen 2;have q1:w.heap.size<w1.heap.size:=cP.lt;go_wp2_with fail;obtain⟨wp,xJ⟩:∃ wp,wp=w3.setCell ⟨w1.heap.size,2,none⟩ (.int .i64 c2):=⟨_,rfl⟩;have ah:af (fun b=>b=w1.heap.size) w3 wp:=by rw[xJ];exact af.setCell (S:=fun b=>b=w1.heap.size) (p:=⟨w1.heap.size,2,none⟩) (af.refl _ w3) (fun _=>rfl) _
     have eJ:∃ kf nm ix,au wp w1.heap.size (.int .i64 kf) (.string (B nm)) (.int .i64 ix) (.slice none 0 0) 29/\(∀ ts:List Tm,ts.length<=2->(∀ t∈ts,Tm.Fits t d vars ay)->Tm.Fits (.mk kf nm ix ts) (d+1) vars ay):=
       ⟨5,[],c2,by rw[xJ];exact et.kG _,fun ts h1 h2=>Tm.jQ (.inr (.inl rfl)) h1 h2 (fun e=>by omega) (fun _=>⟨rfl,by omega,by have:=HV.out;omega⟩) (fun e=>by omega) (by omega) (by omega) (by simp)⟩
     clear et Hn OQ
   case' inr.inr.inr.inr.inr=>
     go_wp2_with fail;refine(NX _ (by omega) (by omega) _ (ic.on ((af.refl ae w1).alloc _))).mono ?_;rintro e w3 ⟨⟨c2,ju,rfl⟩,lU,aZ⟩;have Bb:w1.heap.size≠T:=by have:=ic.lt;omega
     have et:au w3 w1.heap.size (.int .i64 6) (.string (B [])) (.int .i64 0) (.slice none 0 0) 29:=by
       unfold au;rw[aZ.block _ (by simp) (fun e=>by simp only[cv]at e;omega)];exact heap_alloc_new w1 _
     have j6:af (cv T) w1 w3:=((af.refl (cv T) w1).alloc _).trans aZ (fun _ _ x=>x);clear aZ;have Hn:=et.cells.2.2.1;have OQ:=et.frozen 2;have q1:w.heap.size<w1.heap.size:=cP.lt;go_wp2_with fail;obtain⟨wp,xJ⟩:∃ wp,wp=w3.setCell ⟨w1.heap.size,2,none⟩ (.int .i64 c2):=⟨_,rfl⟩;have ah:af (fun b=>b=w1.heap.size) w3 wp:=by rw[xJ];exact af.setCell (S:=fun b=>b=w1.heap.size) (p:=⟨w1.heap.size,2,none⟩) (af.refl _ w3) (fun _=>rfl) _
     have eJ:∃ kf nm ix,au wp w1.heap.size (.int .i64 kf) (.string (B nm)) (.int .i64 ix) (.slice none 0 0) 29/\(∀ ts:List Tm,ts.length<=2->(∀ t∈ts,Tm.Fits t d vars ay)->Tm.Fits (.mk kf nm ix ts) (d+1) vars ay):=
       ⟨6,[],c2,by rw[xJ];exact et.kG _,fun ts h1 h2=>Tm.jQ (.inr (.inr rfl)) h1 h2 (fun e=>by omega) (fun e=>by omega) (fun _=>⟨rfl,by omega,by have:=HM.out;omega⟩) (by omega) (by omega) (by simp)⟩
     clear et Hn OQ
   all_goals
     obtain⟨kf,nm,ix,RC,sD⟩:=eJ;have afL:T<w1.heap.size:=by omega
     have RM:=lU.kW ah (fun b e=>by omega);have Ta:aW T wp:=(yb.ag j6).kW ah (fun b e=>by omega);have tf:au wp w.heap.size _ _ _ _ _:=(cP.ag j6 dD).ag ah (by omega);have DR:af (cv T) w wp:=(aF.trans j6 (fun _ _ x=>x)).trans ah (fun b hb e=>by omega);rw[<-xJ];clear xJ ah j6 lU yb ic MK;refine(NX _ (by omega) (by omega) _ RM).mono ?_;rintro e w5 ⟨⟨nn,zn,rfl⟩,qT,ba⟩;have Kh:=Ta.ag ba;have km:=tf.ag ba dD;have fK:=RC.ag ba Bb;have Wt:af (cv T) w w5:=DR.trans ba (fun _ _ x=>x);have q5:w1.heap.size<w5.heap.size:=fK.lt;clear ba RM Ta tf RC DR;go_wp2_with fail
     have IH:∀(x:Int)(W:World),x=d->bL W T->aW T W->Calls Tryz.prog 28 #[.pointer (some ⟨T,0,none⟩),.int .i64 x,.int .i64 vars,.int .i64 ay] W (sT W.heap.size d vars ay T W):=by
       intro x W hx h2 h3;rw[hx];exact ih (by omega) vars ay (by omega) hm T W h2 h3
     rw[<-HV.out,<-HM.out]at IH;have Kk:=ak (show IntKind.i64.wrap (D - 1)=(d:Int) by have:=HD.out;rw[Go.IntWalk.i64_left,Go.IntWalk.wrap64_in _ (by omega)];omega);obtain⟨i0,hi,fS,gn,eH⟩:=info_parts de;have Uq:nn<=2:=by omega
     go_loopw [12] (fun v12 wr=>∃(m:Nat)(v:Value)(ts:List Tm)(css:List (List Value)),v12=.int .i64 m/\m+ts.length<=2/\dG w5.heap.size wr v ts css/\(∀ t∈ts,Tm.Fits t d vars ay)/\
         au wr w1.heap.size (.int .i64 kf) (.string (B nm)) (.int .i64 ix) v 29/\au wr w.heap.size (.int .i64 0) (.string (B [])) (.int .i64 0) (.slice none 0 0) 29/\bL wr T/\aW T wr/\af (cv T) w wr/\w5.heap.size<=wr.heap.size)
       (fun v12 _=>(intOf v12).toNat)
     case atStart=>exact⟨nn,_,[],[],rfl,by simpa using Uq,dG.nil _ _,by simp,fK,km,qT,Kh,Wt,Nat.le_refl _⟩
     obtain⟨m,v,ts,css,rfl,Tt,eB,Jv,b6,cP,xq,Mu,Mk,Ax⟩:=hrel;obtain⟨b0,b1,b2,b3⟩:=b6.cells;obtain⟨f0,f1,f2,f3⟩:=b6.aq;by_cases pf:0<m
     ·have qp:(0:Int)<(m:Int):=by omega
      go_wp2_with fail
      go_region_law (first
        |((rw[if_pos (by rfl)]);go_simp;(go_at_call 28);refine(IH _ _ Kk.out (xq.on (af.refl ae wr).drew) (Mu.on (af.refl ae wr).drew)).mono ?_;rintro e w6 ⟨k1,i1,n1,a1,bH,bG,t,rfl,dg,wo,zg,Rk,bj⟩;have cL:af (cv T) wr w6:=af.trans ((af.refl (cv T) wr).drew) bj (fun _ _ x=>x);have dc:=b6.ag cL Bb;have q6:=dc.lt;have c6:=dc.cells.2.2.2;have z6:=dc.frozen 3;have sf:=cL.size;have iT:=eB.ag cL (fun b e=>(by simp only[cv]at e;omega)))
        |(refine step_append_lies _ (by rfl) _ _ 26 (by rfl) w5.heap.size 29 i0 (.agg #[.int .i64 0,.string (B []),.int .i64 0,.slice none 0 0]) 4 56 (by kernel_rfl) hi fS gn eH rfl (by decide) v ts.length css.flatten (by rfl) ((iT.on ((af.refl ae w6).alloc _)).2.2.1) ⟨w6.heap.size,0,none⟩ 1 1 [.int .i64 k1,.string (B n1),.int .i64 i1,.slice a1 bH bG] (by rfl) rfl (World.news_of_block (heap_alloc_new w6 _)) (by simp[Value.oneCell']) (by omega) (by simp only[maxLen];omega) (by omega) (by simp;omega) _ rfl ?_;intro g aS w7 bq aN ft aB;have fe:=(dc.kept ((af.refl ae w6).alloc _)).row aN (iT.on ((af.refl ae w6).alloc _)) (by omega);have c7:=fe.cells.2.2.2;have z7:=fe.frozen 3))
      all_goals
        have jH:=iT.on ((af.refl ae w6).alloc (.cells #[.int .i64 k1,.string (B n1),.int .i64 i1,.slice a1 bH bG] 29))
        have tF:aw (fun b=>b<w5.heap.size\/v.ownBlock=some b) (w6.alloc (.cells #[.int .i64 k1,.string (B n1),.int .i64 i1,.slice a1 bH bG] 29)) t.az [.int .i64 k1,.string (B n1),.int .i64 i1,.slice a1 bH bG]:=by
          refine(aw.weaken (fun b _ e=>?_) _ _ dg).new _;rcases e with e |e
          ·exact Nat.lt_of_lt_of_le e Ax
          exact(eB.2.2.1.lt b e).2
        have lL:=jH.appended rfl tF bq aN ft (Nat.le_refl _);have dn:af (fun b=>b=w1.heap.size) w7 (w7.setCell ⟨w1.heap.size,3,none⟩ (.slice (some ⟨g,0,none⟩) (ts.length+1) aS)):=af.set (af.refl _ _) 3 _;have eK:=af.ofRow (cB.grown jH.2.2.1 aN);have fj:af ae w6 (w6.alloc (.cells #[.int .i64 k1,.string (B n1),.int .i64 i1,.slice a1 bH bG] 29)):=(af.refl ae w6).alloc _;have K1:=((zg.on fj).kW eK (fun b e=>by omega)).kW dn (fun b e=>by omega);have My:=((Rk.on fj).kW eK (fun b e=>by omega)).kW dn (fun b e=>by omega);have Dt:au (w7.setCell ⟨w1.heap.size,3,none⟩ (.slice (some ⟨g,0,none⟩) (ts.length+1) aS)) w.heap.size _ _ _ _ _:=(((cP.ag cL dD).kept fj).ag eK (by omega)).ag dn (by omega);have L5:af (cv T) w (w7.setCell ⟨w1.heap.size,3,none⟩ (.slice (some ⟨g,0,none⟩) (ts.length+1) aS)):=((((Mk.trans cL (fun _ _ x=>x)).trans fj (fun _ _ x=>x.elim)).trans eK (fun b hb e=>by omega))).trans dn (fun b hb e=>by omega);have Mt:w5.heap.size<=(w7.setCell ⟨w1.heap.size,3,none⟩ (.slice (some ⟨g,0,none⟩) (ts.length+1) aS)).heap.size:=by have:=dn.size;have:=eK.size;have:=fj.size;omega
        have Lv:∀ t'∈ts++[t],Tm.Fits t' d vars ay:=by
          intro t' EG;rcases List.mem_append.1 EG with h |h
          ·exact Jv t' h
          obtain rfl:t'=t:=by simpa using h
          exact wo
        have MD:=lL.ag dn (fun b e=>by omega);go_wp2_with fail;go_roundw;case rel=>exact⟨m - 1,_,ts++[t],_,int_eq (by omega),by simp;omega,MD,Lv,fe.mH _,Dt,K1,My,L5,Mt⟩
        simp[intOf];omega
     obtain rfl:m=0:=by omega
     obtain⟨r0,r1,r2,r3⟩:=cP.cells;obtain⟨rf0,Zm,rf2,Y0⟩:=cP.aq;have qr:=cP.lt;obtain⟨a,cap,rfl,aX,hE⟩:=eB.rep;have DC:=sD ts (by omega) Jv;obtain⟨len,hlen⟩:∃ len,len=ts.length:=⟨_,rfl⟩;rw[<-hlen]at b6 aX b3;have HL:=ak hlen;clear hlen Jv eB;go_wp2_with fail;obtain⟨w9,bf⟩:∃ w9,w9=(((wr.setCell ⟨w.heap.size,0,none⟩ (.int .i64 kf)).setCell ⟨w.heap.size,1,none⟩ (.string (B nm))).setCell ⟨w.heap.size,2,none⟩ (.int .i64 ix)).setCell ⟨w.heap.size,3,none⟩ (.slice a len cap):=⟨_,rfl⟩;have aJ:=cP.set (d0:=.int .i64 kf) (d1:=.string (B nm)) (d2:=.int .i64 ix) (d3:=.slice a len cap);rw[<-bf]at aJ;rw[<-bf];clear bf;obtain⟨e0,e1,e2,e3⟩:=aJ.1.cells;refine bodyPost_ret (v:=.agg #[.int .i64 kf,.string (B nm),.int .i64 ix,.slice a len cap]) ?_ rfl ?_
     ·simp[results,Tryz.f28,go_sem,e0,e1,e2,e3]
     exact rr rfl HL.out aX hE (by omega) aJ DC xq Mu Mk lD
end Go.Proofs.YthgmimncdjhgnaaGreatDoor
