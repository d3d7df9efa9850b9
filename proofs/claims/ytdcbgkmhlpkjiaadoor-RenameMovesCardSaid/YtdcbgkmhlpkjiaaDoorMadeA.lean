/- The objects that a law makes: words. -/
import Derived.Test.YtdcbgkmhlpkjiaaDoorRowsT
import Derived.Test.YtdcbgkmhlpkjiaaDoorFits
import Derived.Test.YtdcbgkmhlpkjiaaDoorRelay
import Derived.Deep.RegionHeld3
import Derived.Deep.RegionLaw
namespace Go.Proofs.YtdcbgkmhlpkjiaaDoor
open Go.RowKit Go.LF

/-- What a call that makes an object hands back: all of it in new blocks. -/
def Makes (base : Nat) (deep vars metas : Nat) (T : Nat) (w : World) (e : Ending) (w' : World) : Prop :=
  ∃ (k i : Int) (n : List UInt8) (a : Option Addr) (len cap : Nat) (t : Tm), e = .returned (.agg #[.int .i64 k, .string (B n), .int .i64 i, .slice a len cap]) ∧
    Rep (fun b => b < base) w' t.dat [.int .i64 k, .string (B n), .int .i64 i, .slice a len cap] ∧ Tm.Fits t deep vars metas ∧ TapeOk w' T ∧ NamesOk T w' ∧ Upto (isT T) w w'


/-- The kinds of objects, from which one is chosen. -/
theorem kinds_at {W : World} {b : Nat} {T' : TypeId} {fr : Nat × Nat} (h : W.heap[b]? = some (.cells #[.int .i64 3, .int .i64 4, .int .i64 4, .int .i64 5, .int .i64 6] T' fr)) (c : Nat) (hc : (c : Int) < 5) :
    ∃ k : Int, W.cell? ⟨b, c, none⟩ = some (.int .i64 k) ∧ (k = 3 ∨ k = 4 ∨ k = 5 ∨ k = 6) := by
  have hcell : ∀ i, W.cell? ⟨b, i, none⟩ = (#[.int .i64 3, .int .i64 4, .int .i64 4, .int .i64 5, .int .i64 6] : Array Value)[i]? := fun i => by simp [World.cell?, h]
  match c, hc with
  | 0, _ => exact ⟨3, hcell 0, .inl rfl⟩
  | 1, _ => exact ⟨4, hcell 1, .inr (.inl rfl)⟩
  | 2, _ => exact ⟨4, hcell 2, .inr (.inl rfl)⟩
  | 3, _ => exact ⟨5, hcell 3, .inr (.inr (.inl rfl))⟩
  | 4, _ => exact ⟨6, hcell 4, .inr (.inr (.inr rfl))⟩
  | n + 5, h => omega

/-- The names of constants, from which one is chosen. -/
theorem constNames_at {W : World} {b : Nat} {T' : TypeId} {fr : Nat × Nat} (h : W.heap[b]? = some (.cells #[.string (B [122]), .string (B [115]), .string (B [99]), .string (B [97, 112, 112])] T' fr)) (c : Nat) (hc : (c : Int) < 4) :
    ∃ nm, W.cell? ⟨b, c, none⟩ = some (.string (B nm)) ∧ isName nm = true ∧ nm.length ≤ 4 := by
  have hcell : ∀ i, W.cell? ⟨b, i, none⟩ = (#[.string (B [122]), .string (B [115]), .string (B [99]), .string (B [97, 112, 112])] : Array Value)[i]? := fun i => by simp [World.cell?, h]
  match c, hc with
  | 0, _ => exact ⟨[122], hcell 0, by decide, by decide⟩
  | 1, _ => exact ⟨[115], hcell 1, by decide, by decide⟩
  | 2, _ => exact ⟨[99], hcell 2, by decide, by decide⟩
  | 3, _ => exact ⟨[97, 112, 112], hcell 3, by decide, by decide⟩
  | n + 4, h => omega

/-- The end of a call that makes an object: out is stored into the result. -/
theorem made_fin {W w9 : World} {w : World} {T deep vars metas base len : Nat} {kf ix : Int} {nm : List UInt8} {a : Option Addr} {cap : Nat} {ts : List Tm} {U : TypeId} {x0 x1 x2 x3 : Value} {hb : Nat} (hw : w.heap.size = hb) (hlen : len = ts.length) (hcap : len ≤ cap) (hE : RepE (fun b => b < base) W 4 (ts.map Tm.dat) a 0) (hbase : w.heap.size < base)
    (h9 : Box4 w9 hb x0 x1 x2 x3 U ∧ Upto (fun b => b = hb) W w9) (hfit : Tm.Fits (.mk kf nm ix ts) deep vars metas) (hT : TapeOk W T) (hN : NamesOk T W) (hU : Upto (isT T) w W) (hTl : T < w.heap.size) :
    Makes w.heap.size deep vars metas T w (.returned (.agg #[.int .i64 kf, .string (B nm), .int .i64 ix, .slice a len cap])) w9 := by
  subst hw
  refine ⟨kf, ix, nm, a, len, cap, .mk kf nm ix ts, rfl, ?_, hfit, hT.far h9.2 (fun b e => by omega), hN.far h9.2 (fun b e => by omega), hU.trans h9.2 (fun b hb e => by omega)⟩
  exact rep_tm.2 ⟨a, cap, by rw [hlen], by omega, RepE.weaken (fun b _ e => by omega) _ _ _ _ (RepE.keep h9.2 (fun b e => by omega) _ _ _ _ hE)⟩
end Go.Proofs.YtdcbgkmhlpkjiaaDoor
