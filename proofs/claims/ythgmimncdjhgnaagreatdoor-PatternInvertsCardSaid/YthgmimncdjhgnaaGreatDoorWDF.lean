/- A number that is cut: which one. -/
import Derived.Test.YthgmimncdjhgnaaGreatDoorWCH
set_option maxRecDepth 100000
set_option maxHeartbeats 1000000
namespace Go.Proofs.YthgmimncdjhgnaaGreatDoor
section
open Go.RowKit Go.LF
def Qh(x n:Int):Int:=(IntKind.u64.wrap x).tmod n
theorem zDv(x n:Int)(h0:0<n):0<=Qh x n/\Qh x n<n:=by
  have hx:0<=IntKind.u64.wrap x:=Qr x;unfold Qh;rw[Int.tmod_eq_emod_of_nonneg hx];exact⟨Int.emod_nonneg _ (by omega),Int.emod_lt_of_pos _ h0⟩
theorem qz(x n:Int)(h0:0<n)(h1:n<=1000000)(w:World):
    Calls Tryz.prog 25 #[.int .i64 x,.int .i64 n] w fun e w'=>e=.returned (.int .i64 (Qh x n))/\w=w':=by
  go_enter Tryz.func25,Tryz.ntmps25
  go_wp2_with fail
  go_ret
  have hb:=zDv x n h0;unfold Qh at hb;refine⟨zh ?_,rfl⟩;unfold Qh;rw[Go.IntWalk.wrap64_in _ (by omega)]
end
section
open Go.ChangeShapes Go.WideShapes Go.ChangeAt Go.RowKit Go.LF
theorem XC:∀(l:List Value),(∀ i,i<l.length->∃ a:Int,l[i]? =some (.int .i64 a))->∃ xs:List Int,l=xs.map (Value.int .i64)
  | [],_=>⟨[],rfl⟩
  |v :: l,h=>by
   obtain⟨a,ha⟩:=h 0 (by simp);obtain⟨xs,hx⟩:=XC l (fun i hi=>by simpa using h (i+1) (by simp;omega));simp at ha;exact⟨a :: xs,by simp[ha,hx]⟩
theorem zDi{H:Type}{enc:TypeId×Value->H}{W:World}{v:Value}{d:DataW H}{p:List MemPlace}{k:TypeId}{n b0:Nat}(hu:Tryz.prog.underlying k=some (.array n 3))(hk:Tryz.prog.cellsOf k=n)
    (hval:Value.okWide Tryz.prog W .any b0 k v) (hd:DataW.Trod enc Tryz.prog W 0 (fun _=>true) true k v d p):∃ xs:List Int,xs.length=n/\v=.agg (xs.map (Value.int .i64)).toArray:=by
  simp only[Value.okWide,hu]at hval;obtain⟨cs,rfl,_,_⟩:=hval;obtain⟨fuel,hf⟩:=hd;obtain⟨ys,m,_,_,hc,hy,hz⟩:=DataW.trod_array hu hf;simp only[zAX,Nat.mul_one]at hz;have hcl:(Value.agg cs).cells.toList=cs.toList:=by simp[Value.cells]
  have key:∀ i,i<n->∃ a:Int,cs.toList[i]? =some (.int .i64 a):=by
    intro i hi;have h1:=hz i hi;rw[List.getElem?_eq_getElem (show i<ys.length by omega)]at h1;obtain⟨a,ea,_,_⟩:=DataW.trod_int Tryz.underlying3 h1;rw[hcl]at ea;have h0:((cs.toList.drop i).take 1)[0]? =some (.int .i64 a):=by rw[ea];rfl
    rw[List.getElem?_take_of_lt (by omega),List.getElem?_drop,Nat.add_zero]at h0;exact⟨a,h0⟩
  have hn:cs.toList.length=n:=by rw[<-hcl,hc,hk]
  obtain⟨xs,hx⟩:=XC cs.toList (fun i hi=>key i (by omega));refine⟨xs,?_,?_⟩
  ·rw[<-hn,hx];simp
  ·rw[<-hx]
end
end Go.Proofs.YthgmimncdjhgnaaGreatDoor
