/- The reference's simple types: form, Size, depth, WellFormed, longSize. -/
import Derived.Test.YtdomloghcpfdjaaGreatDoorRCA
import Derived.Test.YtdomloghcpfdjaaGreatDoorRCF
import Derived.Test.YtdomloghcpfdjaaGreatDoorRCK
import Derived.Deep.RegionHeld3
import Derived.Laws.OwnMore
import Derived.Maps.AppendAt
namespace Go.Proofs.YtdomloghcpfdjaaGreatDoor
open Go.RowKit Go.LF
end Go.Proofs.YtdomloghcpfdjaaGreatDoor
namespace Go.Proofs.YtdomloghcpfdjaaGreatDoor
open Go.RowKit Go.LF
end Go.Proofs.YtdomloghcpfdjaaGreatDoor
namespace Go.Proofs.YtdomloghcpfdjaaGreatDoor
open Go.RowKit Go.LF
theorem run_append_tms {w : World} {O : Nat → Prop} {base : Nat} {v : Value} {ts : List Tm} {css : List (List Value)} (hS : RowS O base w v ts css) (A : Option Addr) (m c : Nat) (us : List Tm) (hm : m = us.length)
    (hE : RepE (fun b => O b ∨ base ≤ b) w 4 (us.map Tm.dat) A 0) (hl : ts.length + us.length ≤ 900000) (hbase : base ≤ w.heap.size) (ty : TypeId) :
    ∃ v' w' css', (Builtin.append_ #[27, 27] ty #[v, .slice A m c]).run Tryz.prog w = .ok v' w' ∧ RowS O base w' v' (ts ++ us) css' ∧ w.grownBy w' v.ownBlock ∧ (v'.ownBlock = v.ownBlock ∨ v'.ownBlock = some w.heap.size) := by
  obtain ⟨i0, hi, hi0, hi1, hi2⟩ := info_parts info_term
  obtain ⟨css2, r1, r2, r3, r4, r5⟩ := row_cells us A 0 hE
  have hflat := (flat4 css2 r2).1
  rw [r1, ← hm] at hflat
  have fin : ∀ (v' : Value) (w' : World), w'.ownsRow base 29 4 v' (ts.length + m) (css.flatten ++ css2.flatten) → w.grownBy w' v.ownBlock → RowS O base w' v' (ts ++ us) (css ++ css2) := by
    intro v' w' hown hg
    obtain ⟨h1, h2, h3, h4⟩ := hS
    have hcel : Cel (fun b => O b ∨ base ≤ b) w w' := ⟨hg.size, fun b o u hb hu => hg.cell hu (fun e => hb (.inr (h3.lt b e.symm).1))⟩
    refine ⟨by simp [h1, r1], ?_, by simpa [hm] using hown, fun i hi hi' => ?_⟩
    · intro x hx
      rcases List.mem_append.1 hx with hx | hx
      · exact h2 x hx
      · exact r2 x hx
    · by_cases hlt : i < ts.length
      · rw [List.getElem_append_left hlt, List.getElem_append_left (by omega)]
        exact Rep.carry hcel _ _ (h4 i hlt (by omega))
      · have hi2 : i - ts.length < us.length := by simp at hi; omega
        rw [List.getElem_append_right (by omega), List.getElem_append_right (by omega)]
        simp only [h1]
        exact Rep.carry hcel _ _ (r5 _ hi2 (by omega))
  rcases A with _ | ad
  · obtain rfl := repE_none hE
    have hm0 : m = 0 := by simpa using hm
    subst hm0
    obtain rfl : css2 = [] := by simpa using r1
    refine ⟨v, w, css, ?_, by simpa using hS, World.grownBy.refl w _, .inl rfl⟩
    have hu : Tryz.prog.underlying 27 = some (.slice 29) := by kernel_rfl
    rcases hS.2.2.1.2 with ⟨rfl, _⟩ | ⟨g, cap, cur, rfl, _, _, hnc, _⟩
    · simp [Builtin.append_, run_underlying hu, sizeOf, typeInfo, hi, Builtin.lenOf, Builtin.firstCells]
    · simp [Builtin.append_, run_underlying hu, sizeOf, typeInfo, hi, Builtin.lenOf, Builtin.firstCells, hnc, storeCells]
  · have hcells : ∀ j u, css2.flatten[j]? = some u → w.cell? (ad.add j) = some u := by
      intro j u hu
      obtain ⟨b', o', e, hc⟩ := r4 j u hu
      cases e
      have hadd : (⟨b', o', none⟩ : Addr).add j = ⟨b', o' + j, none⟩ := by unfold Addr.add; split <;> simp_all
      rw [hadd]
      simpa using hc
    obtain ⟨v', w', hrun, h2, h3, _, h5⟩ := run_append_own_at (P := Tryz.prog) w base 27 ty 29 i0 (.agg #[.int .i64 0, .string (B []), .int .i64 0, .slice none 0 0]) 4 56 (by kernel_rfl) hi hi0 hi1 hi2 rfl (by decide) v ts.length css.flatten hS.2.2.1 ad m c css2.flatten hflat hcells r3 (by simp only [maxLen]; omega) (by omega) hbase
    exact ⟨v', w', _, hrun, fin v' w' h2 h3, h3, h5⟩
end Go.Proofs.YtdomloghcpfdjaaGreatDoor
