/- A tape that a law makes. -/
import Derived.Test.YtdcbgkmhlpkjiaaDoorTape
namespace Go.Proofs.YtdcbgkmhlpkjiaaDoor
open Go.RowKit Go.LF

/-- A tape that a law makes. -/
theorem tape_new {w : World} {a : Option Addr} {len cap : Nat} {l : List Int} {U : TypeId} (hl : l.length = len) (hlen : len ≤ 17592186044416) (hE : RepE none' w 1 (l.map (Dat.int .i64)) a 0) :
    TapeOk (w.alloc (.cells #[.slice a len cap, .int .i64 0] U)) w.heap.size := by
  subst hl
  refine ⟨l, a, cap, 0, ?_, ?_, ?_, Nat.zero_le _, by omega, ?_⟩
  · rw [World.cell?_alloc_new]; rfl
  · rw [World.cell?_alloc_new]; rfl
  · simp
  · have hf : RepE (fun b => w.heap.size ≤ b) w 1 (l.map (Dat.int .i64)) a 0 := RepE.weaken (fun _ _ h => .inr h) _ _ _ _ (RepE.fresh' 1 _ _ _ hE)
    exact hf.on ((Upto.refl none' w).alloc _)
end Go.Proofs.YtdcbgkmhlpkjiaaDoor
