/- The numbers that a law's terms are made of. -/
import Derived.Test.YtdcbgkmhlpkjiaaDoorLawLists
import Derived.Test.YtdcbgkmhlpkjiaaDoorCut
namespace Go.Proofs.YtdcbgkmhlpkjiaaDoor
open Go.RowKit Go.LF

/-- A tape at block T. -/
def TapeOk (W : World) (T : Nat) : Prop := ∃ (l : List Int) (a : Option Addr) (cap i : Nat), W.cell? ⟨T, 0, none⟩ = some (.slice a l.length cap) ∧ W.cell? ⟨T, 1, none⟩ = some (.int .i64 i) ∧ W.frozen? ⟨T, 1, none⟩ = false ∧
  i ≤ l.length ∧ l.length ≤ 4611686018427387904 ∧ RepE (fun b => T ≤ b) W 1 (l.map (Dat.int .i64)) a 0
abbrev isT (T : Nat) : Nat → Prop := fun b => b = T
theorem TapeOk.on {W W' : World} {T : Nat} (h : TapeOk W T) (hU : Upto none' W W') : TapeOk W' T := by
  obtain ⟨l, a, cap, i, h1, h2, h3, h4, h5, h6⟩ := h
  refine ⟨l, a, cap, i, hU.cell h1 (fun x => x), hU.cell h2 (fun x => x), ?_, h4, h5, h6.on hU⟩
  rw [hU.cells0.2 _ _ (World.block_lt_of_cell? W _ h2)]
  exact h3
/-- What lies behind the tape's block may change. -/
theorem TapeOk.far {W W' : World} {T : Nat} {S : Nat → Prop} (h : TapeOk W T) (hU : Upto S W W') (hS : ∀ b, S b → T < b) : TapeOk W' T := by
  obtain ⟨l, a, cap, i, h1, h2, h3, h4, h5, h6⟩ := h
  have hn : ¬ S T := fun e => by have := hS T e; omega
  refine ⟨l, a, cap, i, hU.cell h1 hn, hU.cell h2 hn, ?_, h4, h5, RepE.keep hU (fun b e => Nat.le_of_lt (hS b e)) _ _ _ _ h6⟩
  rw [World.frozen?_of_block (hU.block T (World.block_lt_of_cell? W _ h2) hn)]
  exact h3
theorem TapeOk.lt {W : World} {T : Nat} (h : TapeOk W T) : T < W.heap.size := by
  obtain ⟨l, a, cap, i, h1, _⟩ := h
  exact World.block_lt_of_cell? W _ h1

set_option maxRecDepth 100000 in
set_option maxHeartbeats 4000000 in
theorem next_any (n : Int) (h0 : 0 < n) (h1 : n ≤ 1000000) (T : Nat) (w : World) (hT : TapeOk w T) :
    Calls Tryd.prog 90 #[.pointer (some ⟨T, 0, none⟩), .int .i64 n] w fun e w' => (∃ c : Nat, (c : Int) < n ∧ e = .returned (.int .i64 c)) ∧ TapeOk w' T ∧ Upto (isT T) w w' := by
  obtain ⟨l, a, cap, i, c0, c1, f1, hi, hll, hE⟩ := hT
  by_cases hlt : i < l.length
  · obtain ⟨b, o, rfl, hb, hbT, hc⟩ := int_cell hE i hlt
    have HC := fun x w => cut_any x n h0 h1 w
    have j0 : (0 : Int) ≤ (i : Int) := by omega
    have j1 : (i : Int) < (l.length : Int) := by omega
    have j2 : IntKind.i64.wrap ((i : Int) + 1 - 1) = (i : Int) := by rw [Go.IntWalk.i64_left, Go.IntWalk.wrap64_in _ (by omega)]; omega
    have j3 : IntKind.i64.wrap (i : Int) = (i : Int) := by rw [Go.IntWalk.i64_left, Go.IntWalk.wrap64_in _ (by omega)]
    generalize l[i] = x at *
    go_enter Tryd.func90, Tryd.ntmps90
    go_wp2_with fail
    go_region
    go_wp2_with fail
    obtain ⟨W, hW⟩ : ∃ W, W = (w.setCell ⟨T, 1, none⟩ (.int .i64 ((i : Int) + 1))).drew := ⟨_, rfl⟩
    have d0 : W.cell? ⟨T, 0, none⟩ = some (.slice (some ⟨b, o, none⟩) l.length cap) := by rw [hW]; exact (World.cell?_setCell_other _ _ _ _ (by simp)).trans c0
    have d1 : W.cell? ⟨T, 1, none⟩ = some (.int .i64 ((i : Int) + 1)) := by rw [hW]; exact World.cell?_setCell_same _ _ _ c1
    have d2 : W.cell? ⟨b, o + i, none⟩ = some (.int .i64 x) := by rw [hW]; exact (World.cell?_setCell_other _ _ _ _ (by intro e; have e2 : T = b := congrArg Addr.block e; exact hbT (Nat.le_of_eq e2))).trans hc
    have dU : Upto (isT T) w W := by rw [hW]; exact ((Upto.refl (isT T) w).setCell (fun _ => rfl) _).drew
    have df : W.frozen? ⟨T, 1, none⟩ = false := by rw [hW]; exact (World.frozen?_setCell _ _ _ _).trans f1
    have hE' : RepE (fun b => T ≤ b) W 1 (l.map (Dat.int .i64)) (some ⟨b, o, none⟩) 0 := RepE.keep dU (fun _ h => Nat.le_of_eq h.symm) _ _ _ _ hE
    rw [← hW]
    clear hW c0 c1 f1 hc hE
    go_region_held3 (fun w' => w'.cell? ⟨T, 0, none⟩ = some (.slice (some ⟨b, o, none⟩) l.length cap) ∧ w'.cell? ⟨T, 1, none⟩ = some (.int .i64 ((i : Int) + 1)) ∧ w'.cell? ⟨b, o + i, none⟩ = some (.int .i64 x))
      (first | go_keep | (exact ⟨d0, d1, d2⟩))
      ((go_at_call 18; refine (HC _ _).mono ?_; rintro e w1 ⟨⟨c, hcn, rfl⟩, rfl⟩))
    go_wp2
    go_ret
    exact ⟨⟨c, hcn, rfl⟩, ⟨l, _, cap, i + 1, d0, d1, df, by omega, hll, RepE.keep ((Upto.refl (isT T) W).drew) (fun _ h => Nat.le_of_eq h.symm) _ _ _ _ hE'⟩, dU.drew⟩
  · have hil : (i : Int) = l.length := by omega
    go_enter Tryd.func90, Tryd.ntmps90
    go_wp2_with fail
    go_region
    go_wp2
    go_ret
    exact ⟨⟨0, by omega, rfl⟩, ⟨l, a, cap, i, c0, c1, f1, hi, hll, RepE.keep ((Upto.refl (isT T) w).drew) (fun _ h => Nat.le_of_eq h.symm) _ _ _ _ hE⟩, (Upto.refl _ _).drew⟩
end Go.Proofs.YtdcbgkmhlpkjiaaDoor
