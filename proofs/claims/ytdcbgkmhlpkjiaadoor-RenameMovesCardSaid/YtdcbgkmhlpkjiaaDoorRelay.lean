/- A variable that holds a term gets a new node around it. -/
import Derived.Test.YtdcbgkmhlpkjiaaDoorAwakeP
namespace Go.Proofs.YtdcbgkmhlpkjiaaDoor
open Go.RowKit Go.LF
theorem Box4.at_new {w : World} {c0 c1 c2 c3 : Value} {T : TypeId} {b : Nat} (hb : w.heap.size = b) : Box4 (w.alloc (.cells #[c0, c1, c2, c3] T)) b c0 c1 c2 c3 T := by subst hb; exact Box4.new _ _ _ _ _ _
theorem Upto.set {a w : World} {b : Nat} (h : Upto (fun x => x = b) a w) (o : Nat) (v : Value) : Upto (fun x => x = b) a (w.setCell ⟨b, o, none⟩ v) := Upto.setCell (S := fun x => x = b) (p := ⟨b, o, none⟩) h (fun _ => rfl) v
/-- A row that lies behind what was there was appended to. -/
theorem Upto.row {S : Nat → Prop} {a b c : World} {U : TypeId} {base : Nat} (h : Upto S a b) (k : RowUp U base b c) (hb : a.heap.size ≤ base) : Upto S a c :=
  ⟨k.os.trans h.os, k.tape.trans h.tape, k.output.trans h.output, Nat.le_trans h.size k.size, fun i hi hn => (k.block i (Nat.lt_of_lt_of_le hi h.size) (fun e => by omega)).trans (h.block i hi hn)⟩
theorem Upto.ofRow {U : TypeId} {base : Nat} {a b : World} (h : RowUp U base a b) : Upto (fun k => base ≤ k) a b := ⟨h.os, h.tape, h.output, h.size, fun k hk hn => h.block k hk (fun e => absurd e hn)⟩
/-- All four cells of a box are stored. -/
theorem Box4.set {W : World} {b : Nat} {c0 c1 c2 c3 d0 d1 d2 d3 : Value} {T : TypeId} (h : Box4 W b c0 c1 c2 c3 T) :
    Box4 ((((W.setCell ⟨b, 0, none⟩ d0).setCell ⟨b, 1, none⟩ d1).setCell ⟨b, 2, none⟩ d2).setCell ⟨b, 3, none⟩ d3) b d0 d1 d2 d3 T ∧
      Upto (fun x => x = b) W ((((W.setCell ⟨b, 0, none⟩ d0).setCell ⟨b, 1, none⟩ d1).setCell ⟨b, 2, none⟩ d2).setCell ⟨b, 3, none⟩ d3) := by
  refine ⟨(((h.set0 _).set1 _).set2 _).set3 _, ?_⟩
  exact Upto.set (Upto.set (Upto.set (Upto.set (Upto.refl _ W) 0 _) 1 _) 2 _) 3 _
theorem relay {W : World} {b : Nat} {t : Tm} {t0 t1 t2 t3 : Value} {T : TypeId} (hB : Box4 W b t0 t1 t2 t3 T) (hR : Rep (fun x => x = b) W t.dat [t0, t1, t2, t3]) (k : Int) (n : List UInt8) (i : Int) {W' : World}
    (hW : W' = ((((W.setCell ⟨b, 0, none⟩ (.int .i64 k)).setCell ⟨b, 1, none⟩ (.string (B n))).setCell ⟨b, 2, none⟩ (.int .i64 i)).setCell ⟨b, 3, none⟩ (.slice (some ⟨W.heap.size, 0, none⟩) 1 1)).alloc (.cells #[t0, t1, t2, t3] T)) :
    Box4 W' b (.int .i64 k) (.string (B n)) (.int .i64 i) (.slice (some ⟨W.heap.size, 0, none⟩) 1 1) T ∧ Rep (fun x => x = b) W' (Tm.mk k n i [t]).dat [.int .i64 k, .string (B n), .int .i64 i, .slice (some ⟨W.heap.size, 0, none⟩) 1 1] ∧ Upto (fun x => x = b) W W' := by
  subst hW
  have hs := hB.set (d0 := .int .i64 k) (d1 := .string (B n)) (d2 := .int .i64 i) (d3 := .slice (some ⟨W.heap.size, 0, none⟩) 1 1)
  have hU := hs.2.alloc (.cells #[t0, t1, t2, t3] T)
  have hlt := hB.lt
  exact ⟨hs.1.kept ((Upto.refl none' _).alloc _), rep_one (Rep.keep hU (fun _ e => e) _ _ hR) (by omega) (Box4.at_new (by simp)) k n i, hU⟩
theorem info_term : (Tryd.prog.info? 25).map (fun i => (i.zero, i.size, i.bytes)) = some (some (.agg #[.int .i64 0, .string (B []), .int .i64 0, .slice none 0 0]), 4, 56) := by kernel_rfl
end Go.Proofs.YtdcbgkmhlpkjiaaDoor
