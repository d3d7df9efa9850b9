/- A number wh is cut: Yn one. -/
import Derived.Test.YthgmimncdjhgnaaGreatDoorXCH
set_option maxRecDepth 100000
set_option maxHeartbeats 1000000
namespace Go.Proofs.YthgmimncdjhgnaaGreatDoor
section
open Go.RowKit Go.LF
def tA(x n:Int):Int:=(IntKind.u64.wrap x).tmod n
theorem AA(x n:Int)(h0:0<n):0<=tA x n/\tA x n<n:=by
  have hx:0<=IntKind.u64.wrap x:=wu x;unfold tA;rw[Int.tmod_eq_emod_of_nonneg hx];exact⟨Int.emod_nonneg _ (by omega),Int.emod_lt_of_pos _ h0⟩
theorem uD(x n:Int)(h0:0<n)(h1:n<=1000000)(w:World):
    Calls Tryz.prog 25 #[.int .i64 x,.int .i64 n] w fun e w'=>e=.returned (.int .i64 (tA x n))/\w=w':=by
  go_enter Tryz.func25,Tryz.ntmps25;go_wp2_with fail;go_ret;have hb:=AA x n h0;unfold tA at hb;refine⟨bd ?_,rfl⟩;unfold tA;rw[Go.IntWalk.wrap64_in _ (by omega)]
end
section
open Go.ChangeShapes Go.WideShapes Go.ChangeAt Go.RowKit Go.LF
theorem pq:∀(l:List Value),(∀ i,i<l.length->∃ a:Int,l[i]? =some (.int .i64 a))->∃ xs:List Int,l=xs.map (Value.int .i64)
  | [],_=>⟨[],rfl⟩
  |v :: l,h=>by
   obtain⟨a,ha⟩:=h 0 (by simp);obtain⟨xs,hx⟩:=pq l (fun i hi=>by simpa using h (i+1) (by simp;omega));simp at ha;exact⟨a :: xs,by simp[ha,hx]⟩
theorem QI{H:Type}{enc:TypeId×Value->H}{W:World}{v:Value}{d:DataW H}{p:List MemPlace}{k:TypeId}{n b0:Nat}(hu:Tryz.prog.underlying k=some (.array n 3))(hk:Tryz.prog.cellsOf k=n)
    (uk:Value.okWide Tryz.prog W .any b0 k v) (hd:DataW.Trod enc Tryz.prog W 0 (fun _=>true) true k v d p):∃ xs:List Int,xs.length=n/\v=.agg (xs.map (Value.int .i64)).toArray:=by
  simp only[Value.okWide,hu]at uk;obtain⟨cs,rfl,_,_⟩:=uk;obtain⟨fuel,hf⟩:=hd;obtain⟨ys,m,_,_,hc,hy,hz⟩:=DataW.trod_array hu hf;simp only[yG,Nat.mul_one]at hz;have nc:(Value.agg cs).cells.toList=cs.toList:=by simp[Value.cells]
  have key:∀ i,i<n->∃ a:Int,cs.toList[i]? =some (.int .i64 a):=by
    intro i hi;have h1:=hz i hi;rw[List.getElem?_eq_getElem (show i<ys.length by omega)]at h1;obtain⟨a,ea,_,_⟩:=DataW.trod_int Tryz.underlying3 h1;rw[nc]at ea;have h0:((cs.toList.drop i).take 1)[0]? =some (.int .i64 a):=by rw[ea];rfl
    rw[List.getElem?_take_of_lt (by omega),List.getElem?_drop,Nat.add_zero]at h0;exact⟨a,h0⟩
  have hn:cs.toList.length=n:=by rw[<-nc,hc,hk]
  obtain⟨xs,hx⟩:=pq cs.toList (fun i hi=>key i (by omega));refine⟨xs,?_,?_⟩
  ·rw[<-hn,hx];simp
  rw[<-hx]
end
end Go.Proofs.YthgmimncdjhgnaaGreatDoor
set_option maxRecDepth 100000
namespace Go.Proofs.YthgmimncdjhgnaaGreatDoor
open Go.ChangeShapes Go.WideShapes Go.ChangeAt Go.RowKit Go.LF
theorem Ly{H:Type}{enc:TypeId×Value->H}{W:World}{v:Value}{d:DataW H}{p:List MemPlace}{b0:Nat}(uk:Value.okWide Tryz.prog W .any b0 42 v)(hd:DataW.Trod enc Tryz.prog W 0 (fun _=>true) true 42 v d p):
    ∃ x0 x1 x2:Int,v=.agg #[.int .i64 x0,.int .i64 x1,.int .i64 x2]:=by
  obtain⟨xs,h1,h2⟩:=QI (n:=3) Tryz.underlying42 (by kernel_rfl) uk hd;match xs,h1 with
  | [x0,x1,x2],_=>exact⟨x0,x1,x2,h2⟩
end Go.Proofs.YthgmimncdjhgnaaGreatDoor
