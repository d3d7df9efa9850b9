/- Of which variable a term is the eta-long form: simple.Variable and the reference's. -/
import Derived.Test.YthgmimncdjhgnaaGreatDoorWCA
import Derived.Test.YthgmimncdjhgnaaGreatDoorWCC
import Derived.Test.YthgmimncdjhgnaaGreatDoorWCF
import Derived.Test.YthgmimncdjhgnaaGreatDoorWCH
set_option maxRecDepth 100000
set_option maxHeartbeats 8000000
namespace Go.Proofs.YthgmimncdjhgnaaGreatDoor
open Go.RowKit Go.LF
def zBT(r:Option Int):Value:=.tuple #[.int .i64 (r.getD 0),.bool r.isSome]
theorem Yu:zBT none=.tuple #[.int .i64 0,.bool false]:=rfl
theorem Yp(v:Int):zBT (some v)=.tuple #[.int .i64 v,.bool true]:=rfl
theorem Qd{O:Nat->Prop}{w:World}{t:Tm}{k x:Int}{n:List UInt8}{s:Option Addr}{l c:Nat}(h:zK O w t.zM [.int .i64 k,.string (B n),.int .i64 x,.slice s l c]):
    ∃ ts,t=.mk k n x ts/\l=ts.length/\l<=c/\zH O w 4 (ts.map Tm.zM) s 0:=by
  obtain⟨k',n',i',ts,a',cap',rfl,e,hcap,hE⟩:=zU h;simp only[List.cons.injEq,Value.int.injEq,Value.string.injEq,Value.slice.injEq,and_true,true_and]at e;obtain⟨rfl,e2,rfl,rfl,rfl,rfl⟩:=e;obtain rfl:n=n':=by have:=congrArg (fun b=>b.data.toList) e2;simpa using this
  exact⟨ts,rfl,rfl,hcap,hE⟩
theorem zGI(N:Nat):N<=100000->∀(t:Tm),t.size<=N->(t.kind=3\/t.kind=5->t.isObj=true)->∀(w:World)(cs:List Value),zK zC w t.zM cs->
    Calls Tryz.prog 146 #[.agg cs.toArray] w fun e w'=>e=.returned (zBT (t.vr 0))/\zD zC w w':=by
  induction N with
  |zero=>intro _ t h;have:=t.size_pos;omega
  |succ N ih=>
   intro hN t hsz hlam w cs h;obtain⟨k0,n0,i0,ts0,a0,cap0,ht,rfl,hcap0,_⟩:=zU h;obtain⟨r,hr⟩:∃ r,r=t.vr 0:=⟨_,rfl⟩;rw[<-hr];obtain⟨w1,hw1⟩:∃ w1,w1=w.alloc (.cells #[.int .i64 k0,.string (B n0),.int .i64 i0,.slice a0 ts0.length cap0] 29):=⟨_,rfl⟩;have hU1:zD zC w w1:=by rw[hw1];exact(zD.refl zC w).alloc _
   have hB1:zG w1 w.heap.size (.int .i64 k0) (.string (B n0)) (.int .i64 i0) (.slice a0 ts0.length cap0) 29:=by rw[hw1];exact zG.zJ rfl
   have hR1:zK (fun b=>b=w.heap.size) w1 t.zM [.int .i64 k0,.string (B n0),.int .i64 i0,.slice a0 ts0.length cap0]:=(zK.weaken (fun b _ e=>.inr (by omega)) _ _ (zK.zY _ _ h)).on hU1;have HW1:=zF hw1;have HR:=zF hr;have HT:=zF ht;have HL:=zF (And.intro hsz hlam);obtain⟨H,hH⟩:∃ H,H=w.heap.size:=⟨_,rfl⟩;have HH:=zF hH;rw[<-hH]at hB1 hR1;clear hw1 hr ht hH hcap0 h hsz hlam;go_enter Tryz.func146,Tryz.ntmps146
   go_wp2_with fail
   rw[<-HW1.out,<-HH.out]
   go_loopw [4] (fun v4 wr=>∃(j:Nat)(k i:Int)(n:List UInt8)(a:Option Addr)(ts:List Tm)(cap:Nat),v4=.int .i64 j/\(Tm.mk k n i ts).size+j<=N+1/\(k=3\/k=5->(Tm.mk k n i ts).isObj=true)/\r=(Tm.mk k n i ts).vr j/\
       zK (fun b=>b=H) wr (Tm.mk k n i ts).zM [.int .i64 k,.string (B n),.int .i64 i,.slice a ts.length cap]/\zG wr H (.int .i64 k) (.string (B n)) (.int .i64 i) (.slice a ts.length cap) 29/\zD zC w wr)
     (fun v4 _=>N+2 - (intOf v4).toNat)
   case atStart=>
     obtain⟨h1,h2⟩:=HL.out;have h3:=HR.out;rw[HT.out]at h1 h2 h3 hR1;exact⟨0,_,_,_,_,_,_,rfl,h1,h2,by simpa using h3,hR1,hB1,hU1⟩
   case round=>
     clear hR1 hB1 hU1;obtain⟨j,k,i,nm,a,ts,cap,rfl,hj,hl,hr,hR,hB,hU⟩:=hrel;obtain⟨b0,b1,b2,b3⟩:=hB.cells;obtain⟨f0,f1,f2,f3⟩:=hB.zI;have hq:=hB.lt;obtain⟨_,_,e0,hcap,hE⟩:=zd.1 hR;simp only[List.cons.injEq,Value.slice.injEq,and_true,true_and]at e0;obtain⟨rfl,rfl⟩:=e0;have hsz:=hj;rw[Tm.zS]at hsz;have hlen:=Tm.zN ts;have hj0:(0:Int)<=(j:Int):=by omega
     have hj1:(j:Int)<=200000:=by omega
     have HR2:=zF (And.intro hj (And.intro hl hr));clear hj hl hr hR;by_cases hk:k=3
     ·have hk3:(k == 3)=true:=by simpa using hk
      have hone:ts.length=1:=(Tm.ym (HR2.out.2.1 (.inl hk))).2 hk;obtain⟨u,rfl⟩:=List.length_eq_one_iff.1 hone;obtain⟨gb,go',k1,n1,x1,s1,c1,rfl,hgl,hgO,g0,g1,g2,g3,hR1⟩:=zk hE 0 (by simp);simp only[List.getElem_cons_zero]at g3 hR1;obtain⟨us,rfl,hul,hc1,hE1⟩:=Qd hR1;simp only[Tm.yt,Nat.zero_mul,Nat.add_zero]at g0 g1 g2 g3 hR1;have hs1:Tm.zO [Tm.mk k1 n1 x1 us]=(Tm.mk k1 n1 x1 us).size:=by simp[Tm.zO]
      have HS:=zF hs1;have HK:=zF hk;clear hk hs1 hone hE hul hE1;go_wp2_with fail
      have hset:=hB.set (d0:=.int .i64 k1) (d1:=.string (B n1)) (d2:=.int .i64 x1) (d3:=.slice s1 us.length c1);have hR2:=zK.zE hset.2 (fun b e=>e) _ _ hR1;go_roundw
      case rel=>
        obtain⟨h1,h2,h3⟩:=HR2.out;rw[Tm.zS,HS.out]at h1;refine⟨j+1,k1,x1,n1,s1,us,c1,by go_num,by omega,fun _=>(Tm.ym (h2 (.inl HK.out))).1 _ (by simp),?_,hR2,hset.1,hU.trans hset.2 (fun x hx e=>by have:=HH.out;omega)⟩;rw[h3,Tm.zDc,if_pos hk3,Tm.vr0];rfl
      case measure=>(simp[intOf];have:=HR2.out.1;simp at this;omega)
     ·have hk3:(k == 3)=false:=by simpa using hk
      have hr:r=if k == 5 && (decide ((j:Int)<=i) && ((ts.length:Int) == (j:Int) && Tm.vrs ((j:Int) - 1) ts))then some (i - j)else none:=by
        rw[HR2.out.2.2,Tm.zDc,hk3];rfl
      have HR3:=zF hr
      have hways:((k !=5)=true/\r=none)\/((k !=5)=false/\i<(j:Int)/\r=none)\/((k !=5)=false/\(j:Int)<=i/\((ts.length:Int) !=(j:Int))=true/\r=none)\/
          ((k !=5)=false/\(j:Int)<=i/\((ts.length:Int) !=(j:Int))=false/\ts.length=j/\r=if Tm.vrs ((j:Int) - 1) ts then some (i - j)else none):=by
        by_cases h5:k=5
        ·by_cases hi:(j:Int)<=i
         ·by_cases hl:ts.length=j
          ·exact .inr (.inr (.inr ⟨by simp[h5],hi,by simp[hl],hl,by rw[hr];simp[h5,hi,hl]⟩))
          ·exact .inr (.inr (.inl ⟨by simp[h5],hi,by simp;omega,by rw[hr,if_neg];simp;omega⟩))
         ·exact .inr (.inl ⟨by simp[h5],by omega,by rw[hr,if_neg];simp;omega⟩)
        ·exact .inl ⟨by simp[h5],by rw[hr,if_neg];simp[h5]⟩
      clear hk hr;rcases hways with⟨h5,hn⟩|⟨h5,hi,hn⟩|⟨h5,hi,hl,hn⟩|⟨h5,hi,hl,hlj,hn⟩
      ·have HN:=zF hn;clear hn;go_wp2_with fail
       go_ret2
       exact⟨by rw[HN.out];rfl,hU⟩
      ·have HN:=zF hn;clear hn;go_wp2_with fail
       go_ret2
       exact⟨by rw[HN.out];rfl,hU⟩
      ·have HN:=zF hn;clear hn;go_wp2_with fail
       go_ret2
       exact⟨by rw[HN.out];rfl,hU⟩
      ·have HN:=zF hn;have HJ:=zF hlj
       have hi1:i<=1048576:=by
         have hk5:k=5:=by simpa using h5
         have:=HR2.out.2.1 (.inr hk5);rw[Tm.isObj,if_neg (by omega),if_neg (by omega),if_pos hk5]at this;simp at this;omega
       have hobj:∀ x∈ts,x.isObj=true:=(Tm.ym (HR2.out.2.1 (.inr (by simpa using h5)))).1;have HO:=zF hobj;clear hn hlj hobj;obtain⟨wq,rfl⟩:∃ wq,wq=wr:=⟨wr,rfl⟩;have hUq:zD zC w wq:=hU;go_wp2_with fail
       go_loopw [37] (fun v wr=>∃ m:Nat,v=.int .i64 m/\m<=ts.length/\Tm.vrs ((j:Int) - 1) ts=Tm.vrs ((j:Int) - 1 - m) (ts.drop m)/\zD zC wq wr) (fun v _=>ts.length - (intOf v).toNat)
       case atStart=>exact⟨0,rfl,Nat.zero_le _,by simp,zD.refl _ _⟩
       case round=>
         obtain⟨m,rfl,hm,hv,hUr⟩:=hrel;have HV:=zF hv;clear hv b0 b1 b2 b3 f0 f1 f2 f3 hq;have hBr:=hB.kept hUr;obtain⟨b0,b1,b2,b3⟩:=hBr.cells;have hq:=hBr.lt;have hm0:(0:Int)<=(m:Int):=by omega
         have hm1:(m:Int)<=200000:=by omega
         by_cases hlt:m<ts.length
         ·obtain⟨gb,go',k1,n1,x1,s1,c1,rfl,hgl,hgO,g0,g1,g2,g3,hR1⟩:=zk (hE.on hUr) m hlt;have hlt':(m:Int)<(ts.length:Int):=by omega
          have hltj:(m:Int)<(j:Int):=by have:=HJ.out;omega
          have hs1:=Tm.zR (List.getElem_mem hlt);have IH:=fun w' h=>ih (by omega) (ts[m]'hlt) (by omega) (fun _=>HO.out _ (List.getElem_mem hlt)) w' _ (zK.weaken (O':=zC) (fun _ _ x=>x.elim) _ _ (hR1.on h))
          have hvd:=Tm.zCO ((j:Int) - 1) ts m hlt;generalize ts[m].args.length=al at *
          obtain⟨rv,hrv⟩:∃ rv,rv=(ts[m]'hlt).vr 0:=⟨_,rfl⟩;rw[<-hrv]at IH hvd;have HVD:=zF (And.intro hvd (And.intro hlt HV.out));clear hvd hrv hR1 hs1 hlt;go_wp2_with fail
          first
            |refine(IH _ ((zD.refl zC wr).alloc _)).mono ?_
            |refine(IH _ (zD.refl zC wr)).mono ?_
          rintro e w5 ⟨rfl,hU5⟩
          have hU5':zD zC wq w5:=by
            first
              |exact hUr.and (zD.yv hU5)
              |exact hUr.and hU5
          have hB5:=hB.kept hU5';obtain⟨x0,x1,x2,x3⟩:=hB5.cells;have hq5:=hB5.lt;rcases rv with _ |v
          ·rw[Yu];go_wp2_with fail
           go_ret2
           refine⟨?_,hU.and hU5'⟩;obtain⟨h1,h2,h3⟩:=HVD.out;rw[HN.out,h3,h1];rfl
          ·rw[Yp];by_cases hve:v=(j:Int) - 1 - m
           ·have hv1:(v !=(j:Int) - 1 - (m:Int))=false:=by simp[hve]
            have HVE:=zF hve;clear hve;go_wp2_with fail
            go_roundw
            case rel=>
              obtain⟨h1,h2,h3⟩:=HVD.out;refine⟨m+1,by go_num,by omega,?_,hU5'⟩;rw[h3,h1,HVE.out];simp
            case measure=>(have:=HVD.out.2.1;simp[intOf];omega)
           ·have hv1:(v !=(j:Int) - 1 - (m:Int))=true:=by simpa using hve
            have HVE:=zF hve;clear hve;go_wp2_with fail
            go_ret2
            refine⟨?_,hU.and hU5'⟩;obtain⟨h1,h2,h3⟩:=HVD.out;have h4:(some v == some ((j:Int) - 1 - (m:Int)))=false:=by simpa using HVE.out
            rw[HN.out,h3,h1,h4];rfl
         ·have hjn:¬(m:Int)<(ts.length:Int):=by omega
          have hjn2:¬(m:Int)<(j:Int):=by have:=HJ.out;omega
          have hd:ts.drop m=[]:=List.drop_eq_nil_of_le (by omega);have HD:=zF hd;clear hd;go_wp2_with fail
          go_ret2
          refine⟨?_,hU.and hUr⟩;rw[HN.out,HV.out,HD.out,Tm.vrs,if_pos rfl];rfl
theorem zCc(N:Nat):N<=100000->∀(t:Tm),t.size<=N->(t.kind=3\/t.kind=5->t.isObj=true)->∀(w:World)(cs:List Value),zK zC w t.zM cs->
    Calls Tryz.prog 148 #[.agg cs.toArray] w fun e w'=>e=.returned (zBT (t.vr 0))/\zD zC w w':=by
  induction N with
  |zero=>intro _ t h;have:=t.size_pos;omega
  |succ N ih=>
   intro hN t hsz hlam w cs h;obtain⟨k0,n0,i0,ts0,a0,cap0,ht,rfl,hcap0,_⟩:=zU h;obtain⟨r,hr⟩:∃ r,r=t.vr 0:=⟨_,rfl⟩;rw[<-hr];obtain⟨w1,hw1⟩:∃ w1,w1=w.alloc (.cells #[.int .i64 k0,.string (B n0),.int .i64 i0,.slice a0 ts0.length cap0] 29):=⟨_,rfl⟩;have hU1:zD zC w w1:=by rw[hw1];exact(zD.refl zC w).alloc _
   have hB1:zG w1 w.heap.size (.int .i64 k0) (.string (B n0)) (.int .i64 i0) (.slice a0 ts0.length cap0) 29:=by rw[hw1];exact zG.zJ rfl
   have hR1:zK (fun b=>b=w.heap.size) w1 t.zM [.int .i64 k0,.string (B n0),.int .i64 i0,.slice a0 ts0.length cap0]:=(zK.weaken (fun b _ e=>.inr (by omega)) _ _ (zK.zY _ _ h)).on hU1;have HW1:=zF hw1;have HR:=zF hr;have HT:=zF ht;have HL:=zF (And.intro hsz hlam);obtain⟨H,hH⟩:∃ H,H=w.heap.size:=⟨_,rfl⟩;have HH:=zF hH;rw[<-hH]at hB1 hR1;clear hw1 hr ht hH hcap0 h hsz hlam;go_enter Tryz.func148,Tryz.ntmps148
   go_wp2_with fail
   rw[<-HW1.out,<-HH.out]
   go_loopw [4] (fun v4 wr=>∃(j:Nat)(k i:Int)(n:List UInt8)(a:Option Addr)(ts:List Tm)(cap:Nat),v4=.int .i64 j/\(Tm.mk k n i ts).size+j<=N+1/\(k=3\/k=5->(Tm.mk k n i ts).isObj=true)/\r=(Tm.mk k n i ts).vr j/\
       zK (fun b=>b=H) wr (Tm.mk k n i ts).zM [.int .i64 k,.string (B n),.int .i64 i,.slice a ts.length cap]/\zG wr H (.int .i64 k) (.string (B n)) (.int .i64 i) (.slice a ts.length cap) 29/\zD zC w wr)
     (fun v4 _=>N+2 - (intOf v4).toNat)
   case atStart=>
     obtain⟨h1,h2⟩:=HL.out;have h3:=HR.out;rw[HT.out]at h1 h2 h3 hR1;exact⟨0,_,_,_,_,_,_,rfl,h1,h2,by simpa using h3,hR1,hB1,hU1⟩
   case round=>
     clear hR1 hB1 hU1;obtain⟨j,k,i,nm,a,ts,cap,rfl,hj,hl,hr,hR,hB,hU⟩:=hrel;obtain⟨b0,b1,b2,b3⟩:=hB.cells;obtain⟨f0,f1,f2,f3⟩:=hB.zI;have hq:=hB.lt;obtain⟨_,_,e0,hcap,hE⟩:=zd.1 hR;simp only[List.cons.injEq,Value.slice.injEq,and_true,true_and]at e0;obtain⟨rfl,rfl⟩:=e0;have hsz:=hj;rw[Tm.zS]at hsz;have hlen:=Tm.zN ts;have hj0:(0:Int)<=(j:Int):=by omega
     have hj1:(j:Int)<=200000:=by omega
     have HR2:=zF (And.intro hj (And.intro hl hr));clear hj hl hr hR;by_cases hk:k=3
     ·have hk3:(k == 3)=true:=by simpa using hk
      have hone:ts.length=1:=(Tm.ym (HR2.out.2.1 (.inl hk))).2 hk;obtain⟨u,rfl⟩:=List.length_eq_one_iff.1 hone;obtain⟨gb,go',k1,n1,x1,s1,c1,rfl,hgl,hgO,g0,g1,g2,g3,hR1⟩:=zk hE 0 (by simp);simp only[List.getElem_cons_zero]at g3 hR1;obtain⟨us,rfl,hul,hc1,hE1⟩:=Qd hR1;simp only[Tm.yt,Nat.zero_mul,Nat.add_zero]at g0 g1 g2 g3 hR1;have hs1:Tm.zO [Tm.mk k1 n1 x1 us]=(Tm.mk k1 n1 x1 us).size:=by simp[Tm.zO]
      have HS:=zF hs1;have HK:=zF hk;clear hk hs1 hone hE hul hE1;go_wp2_with fail
      have hset:=hB.set (d0:=.int .i64 k1) (d1:=.string (B n1)) (d2:=.int .i64 x1) (d3:=.slice s1 us.length c1);have hR2:=zK.zE hset.2 (fun b e=>e) _ _ hR1;go_roundw
      case rel=>
        obtain⟨h1,h2,h3⟩:=HR2.out;rw[Tm.zS,HS.out]at h1;refine⟨j+1,k1,x1,n1,s1,us,c1,by go_num,by omega,fun _=>(Tm.ym (h2 (.inl HK.out))).1 _ (by simp),?_,hR2,hset.1,hU.trans hset.2 (fun x hx e=>by have:=HH.out;omega)⟩;rw[h3,Tm.zDc,if_pos hk3,Tm.vr0];rfl
      case measure=>(simp[intOf];have:=HR2.out.1;simp at this;omega)
     ·have hk3:(k == 3)=false:=by simpa using hk
      have hr:r=if k == 5 && (decide ((j:Int)<=i) && ((ts.length:Int) == (j:Int) && Tm.vrs ((j:Int) - 1) ts))then some (i - j)else none:=by
        rw[HR2.out.2.2,Tm.zDc,hk3];rfl
      have HR3:=zF hr
      have hways:((k !=5)=true/\r=none)\/((k !=5)=false/\i<(j:Int)/\r=none)\/((k !=5)=false/\(j:Int)<=i/\((ts.length:Int) !=(j:Int))=true/\r=none)\/
          ((k !=5)=false/\(j:Int)<=i/\((ts.length:Int) !=(j:Int))=false/\ts.length=j/\r=if Tm.vrs ((j:Int) - 1) ts then some (i - j)else none):=by
        by_cases h5:k=5
        ·by_cases hi:(j:Int)<=i
         ·by_cases hl:ts.length=j
          ·exact .inr (.inr (.inr ⟨by simp[h5],hi,by simp[hl],hl,by rw[hr];simp[h5,hi,hl]⟩))
          ·exact .inr (.inr (.inl ⟨by simp[h5],hi,by simp;omega,by rw[hr,if_neg];simp;omega⟩))
         ·exact .inr (.inl ⟨by simp[h5],by omega,by rw[hr,if_neg];simp;omega⟩)
        ·exact .inl ⟨by simp[h5],by rw[hr,if_neg];simp[h5]⟩
      clear hk hr;rcases hways with⟨h5,hn⟩|⟨h5,hi,hn⟩|⟨h5,hi,hl,hn⟩|⟨h5,hi,hl,hlj,hn⟩
      ·have HN:=zF hn;clear hn;go_wp2_with fail
       go_ret2
       exact⟨by rw[HN.out];rfl,hU⟩
      ·have HN:=zF hn;clear hn;go_wp2_with fail
       go_ret2
       exact⟨by rw[HN.out];rfl,hU⟩
      ·have HN:=zF hn;clear hn;go_wp2_with fail
       go_ret2
       exact⟨by rw[HN.out];rfl,hU⟩
      ·have HN:=zF hn;have HJ:=zF hlj
       have hi1:i<=1048576:=by
         have hk5:k=5:=by simpa using h5
         have:=HR2.out.2.1 (.inr hk5);rw[Tm.isObj,if_neg (by omega),if_neg (by omega),if_pos hk5]at this;simp at this;omega
       have hobj:∀ x∈ts,x.isObj=true:=(Tm.ym (HR2.out.2.1 (.inr (by simpa using h5)))).1;have HO:=zF hobj;clear hn hlj hobj;obtain⟨wq,rfl⟩:∃ wq,wq=wr:=⟨wr,rfl⟩;have hUq:zD zC w wq:=hU;go_wp2_with fail
       go_loopw [5] (fun v wr=>∃ m:Nat,v=.int .i64 m/\m<=ts.length/\Tm.vrs ((j:Int) - 1) ts=Tm.vrs ((j:Int) - 1 - m) (ts.drop m)/\zD zC wq wr) (fun v _=>ts.length - (intOf v).toNat)
       case atStart=>exact⟨0,rfl,Nat.zero_le _,by simp,zD.refl _ _⟩
       case round=>
         obtain⟨m,rfl,hm,hv,hUr⟩:=hrel;have HV:=zF hv;clear hv b0 b1 b2 b3 f0 f1 f2 f3 hq;have hBr:=hB.kept hUr;obtain⟨b0,b1,b2,b3⟩:=hBr.cells;have hq:=hBr.lt;have hm0:(0:Int)<=(m:Int):=by omega
         have hm1:(m:Int)<=200000:=by omega
         by_cases hlt:m<ts.length
         ·obtain⟨gb,go',k1,n1,x1,s1,c1,rfl,hgl,hgO,g0,g1,g2,g3,hR1⟩:=zk (hE.on hUr) m hlt;have hlt':(m:Int)<(ts.length:Int):=by omega
          have hltj:(m:Int)<(j:Int):=by have:=HJ.out;omega
          have hs1:=Tm.zR (List.getElem_mem hlt);have IH:=fun w' h=>ih (by omega) (ts[m]'hlt) (by omega) (fun _=>HO.out _ (List.getElem_mem hlt)) w' _ (zK.weaken (O':=zC) (fun _ _ x=>x.elim) _ _ (hR1.on h))
          have hvd:=Tm.zCO ((j:Int) - 1) ts m hlt;generalize ts[m].args.length=al at *
          obtain⟨rv,hrv⟩:∃ rv,rv=(ts[m]'hlt).vr 0:=⟨_,rfl⟩;rw[<-hrv]at IH hvd;have HVD:=zF (And.intro hvd (And.intro hlt HV.out));clear hvd hrv hR1 hs1 hlt;go_wp2_with fail
          first
            |refine(IH _ ((zD.refl zC wr).alloc _)).mono ?_
            |refine(IH _ (zD.refl zC wr)).mono ?_
          rintro e w5 ⟨rfl,hU5⟩
          have hU5':zD zC wq w5:=by
            first
              |exact hUr.and (zD.yv hU5)
              |exact hUr.and hU5
          have hB5:=hB.kept hU5';obtain⟨x0,x1,x2,x3⟩:=hB5.cells;have hq5:=hB5.lt;rcases rv with _ |v
          ·rw[Yu];go_wp2_with fail
           go_ret2
           refine⟨?_,hU.and hU5'⟩;obtain⟨h1,h2,h3⟩:=HVD.out;rw[HN.out,h3,h1];rfl
          ·rw[Yp];by_cases hve:v=(j:Int) - 1 - m
           ·have hv1:(v !=(j:Int) - 1 - (m:Int))=false:=by simp[hve]
            have HVE:=zF hve;clear hve;go_wp2_with fail
            go_roundw
            case rel=>
              obtain⟨h1,h2,h3⟩:=HVD.out;refine⟨m+1,by go_num,by omega,?_,hU5'⟩;rw[h3,h1,HVE.out];simp
            case measure=>(have:=HVD.out.2.1;simp[intOf];omega)
           ·have hv1:(v !=(j:Int) - 1 - (m:Int))=true:=by simpa using hve
            have HVE:=zF hve;clear hve;go_wp2_with fail
            go_ret2
            refine⟨?_,hU.and hU5'⟩;obtain⟨h1,h2,h3⟩:=HVD.out;have h4:(some v == some ((j:Int) - 1 - (m:Int)))=false:=by simpa using HVE.out
            rw[HN.out,h3,h1,h4];rfl
         ·have hjn:¬(m:Int)<(ts.length:Int):=by omega
          have hjn2:¬(m:Int)<(j:Int):=by have:=HJ.out;omega
          have hd:ts.drop m=[]:=List.drop_eq_nil_of_le (by omega);have HD:=zF hd;clear hd;go_wp2_with fail
          go_ret2
          refine⟨?_,hU.and hUr⟩;rw[HN.out,HV.out,HD.out,Tm.vrs,if_pos rfl];rfl
theorem zA3(t:Tm)(hs:t.wt<=100000)(w:World)(cs:List Value)(h:zK zC w t.zM cs):
    Calls Tryz.prog 91 #[.agg cs.toArray] w fun e w'=>e=.returned (zBT t.vrw)/\zD zC w w':=by
  have HWF:=fun w' h=>zj t (by omega) w' cs h
  have HV:=fun(hw:t.wf=0)w' h=>zGI 100000 (Nat.le_refl _) t (by have:=Tm.zi t;omega) (Tm.zFP hw) w' cs h
  obtain⟨k,n,i,ts,a,cap,ht,rfl,hcap,hE⟩:=zU h;obtain⟨r,hr⟩:∃ r,r=t.vrw:=⟨_,rfl⟩;obtain⟨f,hf⟩:∃ f,f=t.wf:=⟨_,rfl⟩;have hr2:r=if t.wf == 0 then t.vr 0 else none:=hr
  rw[<-hr];rw[<-hf]at HWF HV hr2;obtain⟨v,hv⟩:∃ v,v=t.vr 0:=⟨_,rfl⟩;rw[<-hv]at HV hr2;have HR:=zF hr2;clear hr hf hv hr2 hcap hE ht;generalize ts.length=len at *
  have hBn:∀ w1,zD zC (w.alloc (.cells #[.int .i64 k,.string (B n),.int .i64 i,.slice a len cap] 29)) w1->w1.cell? ⟨w.heap.size,0,none⟩=some (.int .i64 k)/\w1.cell? ⟨w.heap.size,1,none⟩=some (.string (B n))/\w1.cell? ⟨w.heap.size,2,none⟩=some (.int .i64 i)/\w1.cell? ⟨w.heap.size,3,none⟩=some (.slice a len cap):=fun w1 hU=>zy hU
  by_cases hf0:f=0
  ·have hf1:(f !=0)=false:=by simp[hf0]
   have HVV:=zF (HV hf0);have hrv:r=v:=by rw[HR.out];simp[hf0]
   have HRV:=zF hrv;clear hrv HV hf0;go_enter Tryz.func91,Tryz.ntmps91
   go_wp2_with fail
   refine(HWF _ (h.new _)).mono ?_;rintro e w1 ⟨rfl,hU⟩;obtain⟨b0,b1,b2,b3⟩:=hBn w1 hU;go_wp2_with fail
   refine(HVV.out _ (h.on hU.yv)).mono ?_;rintro e w2 ⟨rfl,hU2⟩;unfold zBT;go_wp2_with fail
   go_ret2
   exact⟨by rw[HRV.out];rfl,hU.yv.and hU2⟩
  ·have hf1:(f !=0)=true:=by simpa using hf0
   have hrv:r=none:=by rw[HR.out,if_neg (by simpa using hf0)]
   have HRV:=zF hrv;clear hrv HV hf0;go_enter Tryz.func91,Tryz.ntmps91
   go_wp2_with fail
   refine(HWF _ (h.new _)).mono ?_;rintro e w1 ⟨rfl,hU⟩;obtain⟨b0,b1,b2,b3⟩:=hBn w1 hU;go_wp2_with fail
   go_ret2
   exact⟨by rw[HRV.out];rfl,hU.yv⟩
theorem qg(t:Tm)(hs:t.wt<=100000)(w:World)(cs:List Value)(h:zK zC w t.zM cs):
    Calls Tryz.prog 93 #[.agg cs.toArray] w fun e w'=>e=.returned (zBT t.vrw)/\zD zC w w':=by
  have HWF:=fun w' h=>xi t (by omega) w' cs h
  have HV:=fun(hw:t.wf=0)w' h=>zCc 100000 (Nat.le_refl _) t (by have:=Tm.zi t;omega) (Tm.zFP hw) w' cs h
  obtain⟨k,n,i,ts,a,cap,ht,rfl,hcap,hE⟩:=zU h;obtain⟨r,hr⟩:∃ r,r=t.vrw:=⟨_,rfl⟩;obtain⟨f,hf⟩:∃ f,f=t.wf:=⟨_,rfl⟩;have hr2:r=if t.wf == 0 then t.vr 0 else none:=hr
  rw[<-hr];rw[<-hf]at HWF HV hr2;obtain⟨v,hv⟩:∃ v,v=t.vr 0:=⟨_,rfl⟩;rw[<-hv]at HV hr2;have HR:=zF hr2;clear hr hf hv hr2 hcap hE ht;generalize ts.length=len at *
  have hBn:∀ w1,zD zC (w.alloc (.cells #[.int .i64 k,.string (B n),.int .i64 i,.slice a len cap] 29)) w1->w1.cell? ⟨w.heap.size,0,none⟩=some (.int .i64 k)/\w1.cell? ⟨w.heap.size,1,none⟩=some (.string (B n))/\w1.cell? ⟨w.heap.size,2,none⟩=some (.int .i64 i)/\w1.cell? ⟨w.heap.size,3,none⟩=some (.slice a len cap):=fun w1 hU=>zy hU
  by_cases hf0:f=0
  ·have hf1:(f !=0)=false:=by simp[hf0]
   have HVV:=zF (HV hf0);have hrv:r=v:=by rw[HR.out];simp[hf0]
   have HRV:=zF hrv;clear hrv HV hf0;go_enter Tryz.func93,Tryz.ntmps93
   go_wp2_with fail
   refine(HWF _ (h.new _)).mono ?_;rintro e w1 ⟨rfl,hU⟩;obtain⟨b0,b1,b2,b3⟩:=hBn w1 hU;go_wp2_with fail
   refine(HVV.out _ (h.on hU.yv)).mono ?_;rintro e w2 ⟨rfl,hU2⟩;unfold zBT;go_wp2_with fail
   go_ret2
   exact⟨by rw[HRV.out];rfl,hU.yv.and hU2⟩
  ·have hf1:(f !=0)=true:=by simpa using hf0
   have hrv:r=none:=by rw[HR.out,if_neg (by simpa using hf0)]
   have HRV:=zF hrv;clear hrv HV hf0;go_enter Tryz.func93,Tryz.ntmps93
   go_wp2_with fail
   refine(HWF _ (h.new _)).mono ?_;rintro e w1 ⟨rfl,hU⟩;obtain⟨b0,b1,b2,b3⟩:=hBn w1 hU;go_wp2_with fail
   go_ret2
   exact⟨by rw[HRV.out];rfl,hU.yv⟩
end Go.Proofs.YthgmimncdjhgnaaGreatDoor
