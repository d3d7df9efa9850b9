/- aoa two zp are sU same: sU cX function. -/
import Derived.Test.YthgmimncdjhgnaaGreatDoorXCF
set_option maxRecDepth 100000
set_option maxHeartbeats 4000000
namespace Go.Proofs.YthgmimncdjhgnaaGreatDoor
open Go.RowKit Go.LF
theorem nG(t:Tm):t.size<=1000000->∀(u:Tm)(w:World)(cs ds:List Value),aw ae w t.az cs->aw ae w u.az ds->
    Calls Tryz.prog 14 #[.agg cs.toArray,.agg ds.toArray] w fun e w'=>e=.returned (.bool (t.same u))/\af ae w w':=by
  induction t using Tm.ind with
  |h k n i ts ih=>
   intro hs u w cs ds h h';obtain⟨a,cap,rfl,aX,hE⟩:=bg.1 h;obtain⟨k',n',i',us,a',aS,rfl,rfl,ab0,Au⟩:=aP h';simp only[Tm.aM]at hs;have hlen:ts.length<=1000000:=by have:=Tm.aA ts;omega
   have H:UX 14 ts:=fun x hx y w cs ds h h'=>ih x hx (by have:=Tm.aK hx;omega) y w cs ds h h'
   clear ih h h';have hr:=Tm.Hb k n i ts k' n' i' us;generalize (Tm.mk k n i ts).same (Tm.mk k' n' i' us)=r at *
   have HR:=ak hr;clear hr;have hsh:=Tm.p7 ts us;by_cases hc:(k == k' && (i == i' && ((n == n' || (k == 2 || k == 3)) && ts.length == us.length)))=true
   case neg=>
     have hr:r=false:=by
       rw[HR.out];by_cases hl:ts.length=us.length
       ·rw[Bool.eq_false_iff];intro h;apply hc;simp only[Bool.and_eq_true]at h ⊢;exact⟨h.1,h.2.1,h.2.2.1,by simpa using hl⟩
       rw[hsh hl];simp
     subst hr;have HC:=ak hc;clear hc HR hsh H;go_enter Tryz.func14,Tryz.ntmps14;go_wp2_with fail;all_goals try (go_ret;exact⟨rfl,((af.refl _ _).alloc _).alloc _⟩)
     all_goals(exfalso;apply HC.out;simp_all<;>omega)
   simp only[Bool.and_eq_true,beq_iff_eq,Bool.or_eq_true]at hc;obtain⟨rfl,rfl,Xf,hl⟩:=hc;have hr:r=Tm.fF ts us:=by rw[HR.out];rcases Xf with h |h |h<;>simp[h]
   subst hr;clear HR hsh;have rI:((ts.length:Int) == us.length)=true:=by simp;omega
   have ED:((ts.length:Int) !=us.length)=false:=by simp;omega
   have HL:=ak hl;have cZ:us.length<=1000000:=by omega
   clear hl ab0;generalize rL:Tm.fF ts us=r at *
   have HR:=ak rL;clear rL;have key:(∃ x:Bool,(k == 2)=x/\(k !=2)=!x)/\(∃ x:Bool,(k == 3)=x/\(k !=3)=!x)/\(∃ x:Bool,(n == n')=x):=⟨⟨_,rfl,rfl⟩,⟨_,rfl,rfl⟩,⟨_,rfl⟩⟩;obtain⟨⟨x2,hx2,hy2⟩,⟨x3,hx3,hy3⟩,⟨xn,hxn⟩⟩:=key
   have Rl:xn=true\/x2=true\/x3=true:=by
     rcases Xf with h |h |h
     ·left;rw[<-hxn];simp[h]
     ·right;left;rw[<-hx2];simp[h]
     right;right;rw[<-hx3];simp[h]
   clear Xf
   have nbs:∀ wr,af ae ((w.alloc (.cells #[.int .i64 k,.string (B n),.int .i64 i,.slice a ts.length cap] 29)).alloc (.cells #[.int .i64 k,.string (B n'),.int .i64 i,.slice a' us.length aS] 29)) wr->
       wr.cell? ⟨w.heap.size,3,none⟩=some (.slice a ts.length cap)/\wr.cell? ⟨w.heap.size+1,3,none⟩=some (.slice a' us.length aS):=fun wr hU=>
     ⟨(b8 hU.kR).2.2.2,by have:=(b8 hU).2.2.2;rwa [World.size_alloc]at this⟩
   have NB:=ak nbs;clear nbs;cases x2<;>cases x3<;>cases xn
   case false.false.false=>simp at Rl
   all_goals
     clear Rl;simp only[Bool.not_true,Bool.not_false]at hy2 hy3;go_enter Tryz.func14,Tryz.ntmps14;go_wp2_with fail
     go_loopw [5] (fun v wr=>∃ j:Nat,j<=ts.length/\v=.int .i64 j/\Tm.fF (ts.take j) (us.take j)=true/\af ae ((w.alloc (.cells #[.int .i64 k,.string (B n),.int .i64 i,.slice a ts.length cap] 29)).alloc (.cells #[.int .i64 k,.string (B n'),.int .i64 i,.slice a' us.length aS] 29)) wr)
       (fun v _=>ts.length - (intOf v).toNat)
     case atStart=>exact⟨0,Nat.zero_le _,rfl,rfl,af.refl _ _⟩
     obtain⟨j,hj,rfl,hA,hU⟩:=hrel;obtain⟨z0,z1⟩:=NB.out wr hU;have hw:af ae w wr:=hU.kR.kR;have HA:=ak hA;clear hA;by_cases aB:j<ts.length
     ·have C0:j<us.length:=by have:=HL.out;omega
      obtain⟨b,o,k1,n1,x1,s1,c1,rfl,hb,_,p0,p1,p2,p3,eY⟩:=aY (hE.on hw) j aB;obtain⟨b',o',k2,n2,i2,s2,c2,rfl,WI,_,q0,q1,q2,q3,fG⟩:=aY (Au.on hw) j C0;have hT:=Tm.Fi ts us j aB C0;rw[HA.out]at hT;have hM:ts[j].same us[j]=false->Tm.fF ts us=false:=fun h=>Tm.Dg ts us j HL.out aB h
      have H1:=H _ (List.getElem_mem aB) us[j];have HT:=ak hT;have HM:=ak hM;clear hT hM;have j0:(0:Int)<=(j:Int):=by omega
      have j1:(j:Int)<(ts.length:Int):=by omega
      have j2:(j:Int)<(us.length:Int):=by omega
      generalize ts[j].same us[j]=bo at *
      have hd:af ae wr wr.drew:=(af.refl ae wr).drew;have H2:=H1 _ _ _ (eY.on hd) (fG.on hd);clear H1;go_wp2_with fail
      go_region_held3 (fun w'=>w'.cell? ⟨w.heap.size,3,none⟩=some (.slice (some ⟨b,o,none⟩) ts.length cap)/\w'.cell? ⟨w.heap.size+1,3,none⟩=some (.slice (some ⟨b',o',none⟩) us.length aS)/\
          w'.cell? ⟨b,o+j * 4,none⟩=some (.int .i64 k1)/\w'.cell? ⟨b,o+j * 4+1,none⟩=some (.string (B n1))/\w'.cell? ⟨b,o+j * 4+2,none⟩=some (.int .i64 x1)/\w'.cell? ⟨b,o+j * 4+3,none⟩=some (.slice s1 ts[j].args.length c1)/\
          w'.cell? ⟨b',o'+j * 4,none⟩=some (.int .i64 k2)/\w'.cell? ⟨b',o'+j * 4+1,none⟩=some (.string (B n2))/\w'.cell? ⟨b',o'+j * 4+2,none⟩=some (.int .i64 i2)/\w'.cell? ⟨b',o'+j * 4+3,none⟩=some (.slice s2 us[j].args.length c2))
        (first |go_keep |(exact⟨aH.cell z0 (fun x=>x),aH.cell z1 (fun x=>x),aH.cell p0 (fun x=>x),aH.cell p1 (fun x=>x),aH.cell p2 (fun x=>x),aH.cell p3 (fun x=>x),aH.cell q0 (fun x=>x),aH.cell q1 (fun x=>x),aH.cell q2 (fun x=>x),aH.cell q3 (fun x=>x)⟩))
        ((go_at_call 14;refine H2.mono ?_;rintro e w1 ⟨rfl,aH⟩))
      have aF:af ae wr _:=hd.and aH;cases bo
      all_goals go_wp2
      ·go_ret;exact⟨aR (by rw[<-HR.out,HM.out (by trivial)]),hw.and aF⟩
      go_roundw
      case rel=>
        have fin:∃ j1:Nat,j1<=ts.length/\Value.int .i64 ((j:Int)+1)=.int .i64 j1/\Tm.fF (ts.take j1) (us.take j1)=true/\af ae _ w1:=
          ⟨j+1,by omega,by go_num,by rw[HT.out];rfl,hU.and aF⟩
        first |exact fin |((repeat apply Exists.intro);exact⟨fin,rfl⟩)
      simp[intOf];omega
     have jR:ts.take j=ts:=List.take_of_length_le (by omega);have hj2:us.take j=us:=List.take_of_length_le (by have:=HL.out;omega);have mx:=HA.out;rw[jR,hj2]at mx;have HO:=ak mx;clear HA mx jR hj2;go_wp2
     go_ret;exact⟨aR (by rw[<-HR.out,HO.out]),hw⟩
end Go.Proofs.YthgmimncdjhgnaaGreatDoor
