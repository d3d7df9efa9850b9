/- Boxes. -/
import Derived.Test.YtdcbgkmhlpkjiaaDoorGen
namespace Go.LF
/-- The four cells of a box, later. -/
theorem box_on {W w' : World} {b : Nat} {c0 c1 c2 c3 : Value} (hU : Upto none' W w')
    (h : W.cell? ⟨b, 0, none⟩ = some c0 ∧ W.cell? ⟨b, 1, none⟩ = some c1 ∧ W.cell? ⟨b, 2, none⟩ = some c2 ∧ W.cell? ⟨b, 3, none⟩ = some c3) :
    w'.cell? ⟨b, 0, none⟩ = some c0 ∧ w'.cell? ⟨b, 1, none⟩ = some c1 ∧ w'.cell? ⟨b, 2, none⟩ = some c2 ∧ w'.cell? ⟨b, 3, none⟩ = some c3 :=
  ⟨hU.cell h.1 (fun x => x), hU.cell h.2.1 (fun x => x), hU.cell h.2.2.1 (fun x => x), hU.cell h.2.2.2 (fun x => x)⟩
theorem box_new {w w1 : World} {c0 c1 c2 c3 : Value} {T : TypeId} (hU : Upto none' (w.alloc (.cells #[c0, c1, c2, c3] T)) w1) :
    w1.cell? ⟨w.heap.size, 0, none⟩ = some c0 ∧ w1.cell? ⟨w.heap.size, 1, none⟩ = some c1 ∧ w1.cell? ⟨w.heap.size, 2, none⟩ = some c2 ∧ w1.cell? ⟨w.heap.size, 3, none⟩ = some c3 :=
  (hU.cel (O := none') (fun _ x => x)).box4 (fun x => x)
theorem Upto.and {a b c : World} (h : Upto none' a b) (k : Upto none' b c) : Upto none' a c := h.trans k (fun _ _ x => x)

/-- The argument of a contract, opened. -/
theorem tm_open {O : Nat → Prop} {w : World} {t : Tm} {cs : List Value} (h : Rep O w t.dat cs) :
    ∃ k n i ts a cap, t = .mk k n i ts ∧ cs = [.int .i64 k, .string (B n), .int .i64 i, .slice a ts.length cap] ∧ ts.length ≤ cap ∧ RepE O w 4 (ts.map Tm.dat) a 0 := by
  cases t with
  | mk k n i ts =>
    obtain ⟨a, cap, h1, h2, h3⟩ := rep_tm.1 h
    exact ⟨k, n, i, ts, a, cap, rfl, h1, h2, h3⟩

theorem under_ways (k : Int) (j : Nat) : ((k == 3) = true ∧ Tm.under k j = 1) ∨ ((k == 3) = false ∧ (k == 2) = true ∧ ((j : Int) == 1) = true ∧ Tm.under k j = 1) ∨
    ((k == 3) = false ∧ (k == 2) = true ∧ ((j : Int) == 1) = false ∧ Tm.under k j = 0) ∨ ((k == 3) = false ∧ (k == 2) = false ∧ Tm.under k j = 0) := by
  unfold Tm.under
  by_cases h3 : k = 3
  · left; simp [h3]
  by_cases h2 : k = 2
  · by_cases h1 : j = 1
    · right; left; simp [h2, h1]
    · right; right; left; simp [h2, h1]; omega
  · right; right; right; simp [h3, h2]

theorem Upto.behind' {w w' : World} {o : Obj} (h : Upto none' (w.alloc o) w') : Upto none' w w' := ((Upto.refl none' w).alloc o).and h
end Go.LF
