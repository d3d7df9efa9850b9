/- SubstSpines: its walk. -/
import Derived.Test.YtdomloghcpfdjaaGreatDoorSubAwake
import Derived.Test.YtdomloghcpfdjaaGreatDoorSubMade
import Derived.Test.YtdomloghcpfdjaaGreatDoorSubApl
import Derived.Test.YtdomloghcpfdjaaGreatDoorSubRq
import Derived.Test.YtdomloghcpfdjaaGreatDoorSubIns
import Derived.Test.YtdomloghcpfdjaaGreatDoorSubRi
import Derived.Test.YtdomloghcpfdjaaGreatDoorSubMtP
import Derived.Test.YtdomloghcpfdjaaGreatDoorSubRes
import Derived.Test.YtdomloghcpfdjaaGreatDoorSubRrs
import Derived.Test.YtdomloghcpfdjaaGreatDoorSubApE
import Derived.Test.YtdomloghcpfdjaaGreatDoorArrArg4
import Derived.Test.YtdomloghcpfdjaaGreatDoorCL
import Derived.Test.YtdomloghcpfdjaaGreatDoorCG
import Derived.Deep.CutRange
import Derived.Deep.RegionHeld3
namespace Go.Proofs.YtdomloghcpfdjaaGreatDoor
open Go.RowKit Go.LF
/-- What the first drawn region reads. -/
abbrev Sp1 (W : World) (T H : Nat) (n0 n1 : Value) (w' : World) : Prop :=
  w'.cell? ⟨H, 0, none⟩ = some n0 ∧ w'.cell? ⟨H, 1, none⟩ = some n1 ∧ TapeOk w' T ∧ NamesOk T w' ∧ H < W.heap.size ∧ T < W.heap.size ∧ H ≠ T ∧ Upto (isT T) W w'
section
variable {W w' w1 : World} {T H : Nat} {n0 n1 : Value}
theorem Sp1.up (h : Sp1 W T H n0 n1 w') : Upto (isT T) W w' := h.2.2.2.2.2.2.2
theorem Sp1.on (h : Sp1 W T H n0 n1 w') (hU : Upto none' w' w1) : Sp1 W T H n0 n1 w1 :=
  ⟨hU.cell h.1 (fun x => x), hU.cell h.2.1 (fun x => x), h.2.2.1.on hU, h.2.2.2.1.on hU, h.2.2.2.2.1, h.2.2.2.2.2.1, h.2.2.2.2.2.2.1, h.up.trans hU (fun _ _ x => x.elim)⟩
theorem Sp1.new (h : Sp1 W T H n0 n1 w') (o : Obj) : Sp1 W T H n0 n1 (w'.alloc o) := h.on ((Upto.refl none' _).alloc o)
theorem Sp1.drew (h : Sp1 W T H n0 n1 w') : Sp1 W T H n0 n1 w'.drew := h.on (Upto.refl none' _).drew
theorem Sp1.ge (h : Sp1 W T H n0 n1 w') : W.heap.size ≤ w'.heap.size := h.up.size
theorem Sp1.set4 (h : Sp1 W T H n0 n1 w') {r : Nat} (hr : W.heap.size ≤ r) (d0 d1 d2 d3 : Value) : Sp1 W T H n0 n1 ((((w'.setCell ⟨r, 0, none⟩ d0).setCell ⟨r, 1, none⟩ d1).setCell ⟨r, 2, none⟩ d2).setCell ⟨r, 3, none⟩ d3) := by
  obtain ⟨h1, h2, h3, h4, h5, h6, h7, h8⟩ := h
  have hs : Upto (fun b => b = r) w' ((((w'.setCell ⟨r, 0, none⟩ d0).setCell ⟨r, 1, none⟩ d1).setCell ⟨r, 2, none⟩ d2).setCell ⟨r, 3, none⟩ d3) := Upto.set (Upto.set (Upto.set (Upto.set (Upto.refl _ _) 0 _) 1 _) 2 _) 3 _
  have e : ¬ H = r := by omega
  exact ⟨hs.cell h1 e, hs.cell h2 e, h3.far hs (fun b e => by omega), h4.far hs (fun b e => by omega), h5, h6, h7, h8.trans hs (fun b hb e => by omega)⟩
theorem Sp1.call (h : Sp1 W T H n0 n1 w') (n : Int) {Q : Ending → World → Prop} (k : ∀ e w1, Made8 w'.heap.size T w' e w1 → TapeOk w' T → (Sp1 W T H n0 n1 w1) → Q e w1) : Calls Tryz.prog 16 #[.pointer (some ⟨T, 0, none⟩), .int .i64 n] w' Q := by
  refine (made08_any T n w' h.2.2.1 h.2.2.2.1).mono fun e w1 hm => k e w1 hm h.2.2.1 ?_
  obtain ⟨k9, i9, nm9, a9, l9, c9, t9, -, -, -, hT, hN, hU⟩ := hm
  exact ⟨hU.cell h.1 h.2.2.2.2.2.2.1, hU.cell h.2.1 h.2.2.2.2.2.2.1, hT, hN, h.2.2.2.2.1, h.2.2.2.2.2.1, h.2.2.2.2.2.2.1, h.up.trans hU (fun _ _ e => e)⟩
end
theorem tape_ne {W : World} {T b : Nat} {x : Int} {c1 c2 c3 : Value} {U : TypeId} (h : Box4 W b (.int .i64 x) c1 c2 c3 U) (hT : TapeOk W T) : b ≠ T := by
  obtain ⟨l, a, cap, i, h1, -⟩ := hT
  rintro rfl
  rw [h.cells.1] at h1
  simp at h1
abbrev zero4 : Obj := .cells #[.int .i64 0, .string (B []), .int .i64 0, .slice none 0 0] 29
theorem Box4.facts {W : World} {g : Nat} {c0 c1 c2 c3 : Value} {T : TypeId} (h : Box4 W g c0 c1 c2 c3 T) : (W.cell? ⟨g, 0, none⟩ = some c0 ∧ W.cell? ⟨g, 1, none⟩ = some c1 ∧ W.cell? ⟨g, 2, none⟩ = some c2 ∧ W.cell? ⟨g, 3, none⟩ = some c3) ∧ (W.frozen? ⟨g, 0, none⟩ = false ∧ W.frozen? ⟨g, 1, none⟩ = false ∧ W.frozen? ⟨g, 2, none⟩ = false ∧ W.frozen? ⟨g, 3, none⟩ = false) ∧ g < W.heap.size := ⟨h.cells, h.frozens, h.lt⟩
theorem newT1_elim {Y wa : World} {T : Nat} {p : Prop} (hU : Upto (isT T) (Y.alloc zero4) wa) (hT : TapeOk (Y.alloc zero4) T) (h : Box4 wa Y.heap.size (.int .i64 0) (.string (B [])) (.int .i64 0) (.slice none 0 0) 29 → p) : p :=
  h ((Box4.at_new rfl).keep hU (tape_ne (Box4.at_new rfl) hT))
theorem newT1_elimd {Y wa : World} {T : Nat} {p : Prop} (hU : Upto (isT T) (Y.alloc zero4).drew wa) (hT : TapeOk (Y.alloc zero4).drew T) (h : Box4 wa Y.heap.size (.int .i64 0) (.string (B [])) (.int .i64 0) (.slice none 0 0) 29 → p) : p :=
  h (((Box4.at_new rfl : Box4 (Y.alloc zero4) Y.heap.size _ _ _ _ 29).kept (Upto.refl none' _).drew).keep hU (tape_ne ((Box4.at_new rfl : Box4 (Y.alloc zero4) Y.heap.size _ _ _ _ 29).kept (Upto.refl none' _).drew) hT))
theorem newT2_elim {Y wa : World} {T : Nat} {p : Prop} (hU : Upto (isT T) ((Y.alloc zero4).alloc zero4) wa) (hT : TapeOk ((Y.alloc zero4).alloc zero4) T)
    (h : Box4 wa Y.heap.size (.int .i64 0) (.string (B [])) (.int .i64 0) (.slice none 0 0) 29 → Box4 wa (Y.heap.size + 1) (.int .i64 0) (.string (B [])) (.int .i64 0) (.slice none 0 0) 29 → p) : p := by
  have h1 : Box4 ((Y.alloc zero4).alloc zero4) Y.heap.size (.int .i64 0) (.string (B [])) (.int .i64 0) (.slice none 0 0) 29 := (Box4.at_new rfl).kept ((Upto.refl none' _).alloc _)
  have h2 : Box4 ((Y.alloc zero4).alloc zero4) (Y.heap.size + 1) (.int .i64 0) (.string (B [])) (.int .i64 0) (.slice none 0 0) 29 := Box4.at_new (by simp)
  exact h (h1.keep hU (tape_ne h1 hT)) (h2.keep hU (tape_ne h2 hT))
theorem newT2_elimd {Y wa : World} {T : Nat} {p : Prop} (hU : Upto (isT T) ((Y.alloc zero4).alloc zero4).drew wa) (hT : TapeOk ((Y.alloc zero4).alloc zero4).drew T)
    (h : Box4 wa Y.heap.size (.int .i64 0) (.string (B [])) (.int .i64 0) (.slice none 0 0) 29 → Box4 wa (Y.heap.size + 1) (.int .i64 0) (.string (B [])) (.int .i64 0) (.slice none 0 0) 29 → p) : p := by
  have h1 : Box4 ((Y.alloc zero4).alloc zero4).drew Y.heap.size (.int .i64 0) (.string (B [])) (.int .i64 0) (.slice none 0 0) 29 := ((Box4.at_new rfl : Box4 (Y.alloc zero4) Y.heap.size _ _ _ _ 29).kept ((Upto.refl none' _).alloc _)).kept (Upto.refl none' _).drew
  have h2 : Box4 ((Y.alloc zero4).alloc zero4).drew (Y.heap.size + 1) (.int .i64 0) (.string (B [])) (.int .i64 0) (.slice none 0 0) 29 := (Box4.at_new (by simp) : Box4 ((Y.alloc zero4).alloc zero4) (Y.heap.size + 1) _ _ _ _ 29).kept (Upto.refl none' _).drew
  exact h (h1.keep hU (tape_ne h1 hT)) (h2.keep hU (tape_ne h2 hT))
theorem kept4_elim {W W' : World} {g T : Nat} {x : Int} {c1 c2 c3 : Value} {U : TypeId} {p : Prop} (h : Box4 W g (.int .i64 x) c1 c2 c3 U) (hT : TapeOk W T) (hU : Upto (isT T) W W') (k : Box4 W' g (.int .i64 x) c1 c2 c3 U → p) : p := k (h.keep hU (tape_ne h hT))
/-- Behind the first region: the two variables are filled. -/
structure Two4 (wb W : World) (S R : Nat) (f0 f1 f2 f3 g0 g1 g2 g3 : Value) : Prop where
  left : Box4 W S f0 f1 f2 f3 29
  right : Box4 W R g0 g1 g2 g3 29
  up : Upto (fun b => b = S ∨ b = R) wb W
section
variable {wb : World} {S R : Nat} {f0 f1 f2 f3 g0 g1 g2 g3 z0 z1 z2 z3 y0 y1 y2 y3 : Value}
theorem two4_a : Two4 wb ((wb.alloc (.cells #[f0, f1, f2, f3] 29)).alloc (.cells #[g0, g1, g2, g3] 29)) wb.heap.size (wb.heap.size + 1) f0 f1 f2 f3 g0 g1 g2 g3 :=
  ⟨(Box4.at_new rfl).kept ((Upto.refl none' _).alloc _), Box4.at_new (by simp), ((Upto.refl _ wb).alloc _).alloc _⟩
theorem two4_b : Two4 wb ((wb.alloc (.cells #[g0, g1, g2, g3] 29)).alloc (.cells #[f0, f1, f2, f3] 29)) (wb.heap.size + 1) wb.heap.size f0 f1 f2 f3 g0 g1 g2 g3 :=
  ⟨Box4.at_new (by simp), (Box4.at_new rfl).kept ((Upto.refl none' _).alloc _), ((Upto.refl _ wb).alloc _).alloc _⟩
theorem two4_c (hS : Box4 wb S z0 z1 z2 z3 29) : Two4 wb (((((wb.setCell ⟨S, 0, none⟩ f0).setCell ⟨S, 1, none⟩ f1).setCell ⟨S, 2, none⟩ f2).setCell ⟨S, 3, none⟩ f3).alloc (.cells #[g0, g1, g2, g3] 29)) S wb.heap.size f0 f1 f2 f3 g0 g1 g2 g3 :=
  ⟨(Box4.set hS).1.kept ((Upto.refl none' _).alloc _), Box4.at_new (by simp), ((Box4.set hS).2.mono (fun _ _ e => .inl e)).alloc _⟩
theorem two4_d (hR : Box4 wb R z0 z1 z2 z3 29) : Two4 wb (((((wb.setCell ⟨R, 0, none⟩ g0).setCell ⟨R, 1, none⟩ g1).setCell ⟨R, 2, none⟩ g2).setCell ⟨R, 3, none⟩ g3).alloc (.cells #[f0, f1, f2, f3] 29)) wb.heap.size R f0 f1 f2 f3 g0 g1 g2 g3 :=
  ⟨Box4.at_new (by simp), (Box4.set hR).1.kept ((Upto.refl none' _).alloc _), ((Box4.set hR).2.mono (fun _ _ e => .inr e)).alloc _⟩
theorem two4_e (hS : Box4 wb S z0 z1 z2 z3 29) (hR : Box4 wb R y0 y1 y2 y3 29) (hne : S ≠ R) : Two4 wb ((((((((wb.setCell ⟨S, 0, none⟩ f0).setCell ⟨S, 1, none⟩ f1).setCell ⟨S, 2, none⟩ f2).setCell ⟨S, 3, none⟩ f3).setCell ⟨R, 0, none⟩ g0).setCell ⟨R, 1, none⟩ g1).setCell ⟨R, 2, none⟩ g2).setCell ⟨R, 3, none⟩ g3) S R f0 f1 f2 f3 g0 g1 g2 g3 := by
  have a := hS.set (d0 := f0) (d1 := f1) (d2 := f2) (d3 := f3)
  have b := (hR.keep a.2 (fun e => hne e.symm)).set (d0 := g0) (d1 := g1) (d2 := g2) (d3 := g3)
  exact ⟨a.1.keep b.2 hne, b.1, (a.2.mono (fun _ _ e => .inl e)).trans b.2 (fun _ _ e => .inr e)⟩
/-- What is behind the first region. -/
def Sp2 (w1 : World) (T : Nat) (S R : Nat) (m a : Tm) (f0 f1 f2 f3 g0 g1 g2 g3 : Value) (W : World) : Prop :=
  Box4 W S f0 f1 f2 f3 29 ∧ Box4 W R g0 g1 g2 g3 29 ∧ Rep (isT T) W m.dat [f0, f1, f2, f3] ∧ Rep (isT T) W a.dat [g0, g1, g2, g3] ∧ m.wt ≤ 10000 ∧ a.wt ≤ 10000 ∧ TapeOk W T ∧ NamesOk T W ∧ Upto (isT T) w1 W
theorem sp_close {w1 wa W : World} {Xa Xb T H : Nat} {n0 n1 : Value} {m a : Tm} (hT : Two4 wb W S R f0 f1 f2 f3 g0 g1 g2 g3) (hRm : Rep (fun b => b < Xa) wa m.dat [f0, f1, f2, f3]) (hRa : Rep (fun b => b < Xb) wb a.dat [g0, g1, g2, g3]) (Ub : Upto (isT T) wa wb)
    (ta : T < Xa) (tb : T < Xb) (c1 : S < Xa ∨ wa.heap.size ≤ S) (c2 : R < Xa ∨ wa.heap.size ≤ R) (d1 : S < Xb ∨ wb.heap.size ≤ S) (d2 : R < Xb ∨ wb.heap.size ≤ R) (hm : m.wt ≤ 10000) (ha : a.wt ≤ 10000) (hS : Sp1 w1 T H n0 n1 W) : Sp2 w1 T S R m a f0 f1 f2 f3 g0 g1 g2 g3 W := by
  refine ⟨hT.left, hT.right, ?_, ?_, hm, ha, hS.2.2.1, hS.2.2.2.1, hS.up⟩
  · refine Rep.weaken (fun b _ e => .inl (by simp only [isT] at e; omega)) _ _ (Rep.keep hT.up (fun b e => by rcases e with rfl | rfl; exact c1; exact c2) _ _ (Rep.keep Ub (fun b e => .inl (by simp only [isT] at e; omega)) _ _ (Rep.freshO hRm)))
  · refine Rep.weaken (fun b _ e => .inl (by simp only [isT] at e; omega)) _ _ (Rep.keep hT.up (fun b e => by rcases e with rfl | rfl; exact d1; exact d2) _ _ (Rep.freshO hRa))
end
set_option maxRecDepth 100000 in
set_option maxHeartbeats 16000000 in
theorem substSpines_walk (l0 : List Int) (a0 : Option Addr) (len0 cap0 : Nat) (hl0 : l0.length = len0) (hlen0 : len0 ≤ 17592186044416) (n0 n1 n2 n3 : Int) (w : World) (hE0 : RepE none' w 1 (l0.map (Dat.int .i64)) a0 0) (hN : NamesRead w) :
    Calls Tryz.prog 3 #[.slice a0 len0 cap0, .agg #[.int .i64 n0, .int .i64 n1, .int .i64 n2, .int .i64 n3]] w fun e w' => e = .returned (.bool true) ∧ Upto none' w w' := by
  obtain ⟨i0, hi, hi0, hi1, hi2⟩ := info_parts info_term
  obtain ⟨w1, hw1⟩ : ∃ w1, w1 = (w.alloc (.cells #[.int .i64 n0, .int .i64 n1, .int .i64 n2, .int .i64 n3] 23)).alloc (.cells #[.slice a0 len0 cap0, .int .i64 0] 26) := ⟨_, rfl⟩
  have hUn : Upto none' w (w.alloc (.cells #[.int .i64 n0, .int .i64 n1, .int .i64 n2, .int .i64 n3] 23)) := (Upto.refl none' w).alloc _
  have hU1 : Upto none' w w1 := by rw [hw1]; exact hUn.alloc _
  have hN1 : Box4 w1 w.heap.size (.int .i64 n0) (.int .i64 n1) (.int .i64 n2) (.int .i64 n3) 23 := by rw [hw1]; exact (Box4.at_new rfl).kept ((Upto.refl none' _).alloc _)
  have hT1 : TapeOk w1 (w.heap.size + 1) := by
    rw [hw1]
    have := tape_new (w := w.alloc (.cells #[.int .i64 n0, .int .i64 n1, .int .i64 n2, .int .i64 n3] 23)) (cap := cap0) (U := 26) hl0 hlen0 (hE0.on hUn)
    rw [World.size_alloc] at this
    exact this
  have hK1 : NamesOk (w.heap.size + 1) w1 := hN.ok hU1 (Nat.le_succ _)
  have HW1 := hid hw1
  obtain ⟨H, hH⟩ : ∃ H, H = w.heap.size := ⟨_, rfl⟩
  have HH := hid hH
  rw [← hH] at hN1 hT1 hK1
  have SM : ∀ W, TapeOk W (H + 1) → Calls Tryz.prog 17 #[.pointer (some ⟨H + 1, 0, none⟩), .int .i64 2] W (MakesS W.heap.size 2 (H + 1) W) := fun W h => simple_any 2 (by omega) _ W h
  have K2 := fun W => cut_val n2 4 (by omega) (by omega) W
  have hb2 := cutV_bd n2 4 (by omega)
  generalize cutV n2 4 = c2 at *
  obtain ⟨cn, hcn⟩ : ∃ cn : Nat, c2 = (cn : Int) := ⟨c2.toNat, by omega⟩
  subst hcn
  have hcn4 : cn < 4 := by omega
  have hz1 : w1.heap.size = H + 2 := by rw [hw1, hH]; simp
  have S1 : Sp1 w1 (H + 1) H (.int .i64 n0) (.int .i64 n1) w1 := ⟨hN1.cells.1, hN1.cells.2.1, hT1, hK1, by omega, by omega, by omega, Upto.refl _ _⟩
  have HZ1 := hid hz1
  clear hw1 hH hE0 hl0 hlen0 hN hUn hz1 hT1 hK1 hb2
  go_enter Tryz.func3, Tryz.ntmps3
  go_upto_region 2 with fail
  rw [← HW1.out, ← HH.out]
  go_cut [6, 7] from 26 to 33 (fun v6 v7 wc => ∃ (S R : Nat) (kf xf : Int) (nf : List UInt8) (af : Option Addr) (lf cf : Nat) (kg xg : Int) (ng : List UInt8) (ag : Option Addr) (lg cg : Nat) (m a : Tm), v6 = .pointer (some ⟨S, 0, none⟩) ∧ v7 = .pointer (some ⟨R, 0, none⟩) ∧
    Sp2 w1 (H + 1) S R m a (.int .i64 kf) (.string (B nf)) (.int .i64 xf) (.slice af lf cf) (.int .i64 kg) (.string (B ng)) (.int .i64 xg) (.slice ag lg cg) wc)
  case first =>
    have Sd := S1.drew
    go_region_held3 (fun w' => Sp1 w1 (H + 1) H (.int .i64 n0) (.int .i64 n1) w')
      (first | (with_reducible assumption) | (with_reducible exact Sd) | (repeat' (first | (with_reducible assumption) | (with_reducible exact Sd) | (with_reducible refine Sp1.new ?_ _) | (with_reducible refine Sp1.drew ?_) | (with_reducible refine Sp1.set4 ?_ (by first | (with_reducible exact Sp1.ge S1) | (with_reducible exact Sp1.ge Sd) | (with_reducible exact Sp1.ge (by with_reducible assumption)) | (with_reducible exact Nat.le_succ_of_le (Sp1.ge S1)) | (with_reducible exact Nat.le_succ_of_le (Sp1.ge Sd)) | (with_reducible exact Nat.le_succ_of_le (Sp1.ge (by with_reducible assumption)))) _ _ _ _))))
      (first
        | ((go_at_call 16); (with_reducible refine Sp1.call (n := n0) (by first | (with_reducible assumption) | (with_reducible exact Sd) | (repeat' (first | (with_reducible assumption) | (with_reducible refine Sp1.new ?_ _) | (with_reducible refine Sp1.drew ?_)))) ?_); rintro e wa ⟨kf, xf, nf, af, lf, cf, m, rfl, hRm, hmw, hTa, hNa, hUa⟩ hTa0 Sa; have hta := hTa0.lt; (first | (with_reducible refine newT2_elimd hUa hTa0 ?_; intro za1 za2; obtain ⟨⟨zc0, zc1, zc2, zc3⟩, ⟨zc4, zc5, zc6, zc7⟩, zc8⟩ := za1.facts; obtain ⟨⟨zd0, zd1, zd2, zd3⟩, ⟨zd4, zd5, zd6, zd7⟩, zd8⟩ := za2.facts) | (with_reducible refine newT1_elimd hUa hTa0 ?_; intro za1; obtain ⟨⟨zc0, zc1, zc2, zc3⟩, ⟨zc4, zc5, zc6, zc7⟩, zc8⟩ := za1.facts) | (with_reducible refine newT1_elim hUa hTa0 ?_; intro za1; obtain ⟨⟨zc0, zc1, zc2, zc3⟩, ⟨zc4, zc5, zc6, zc7⟩, zc8⟩ := za1.facts) | skip))
        | ((go_at_call 16); (with_reducible refine Sp1.call (n := n1) (by first | (with_reducible assumption) | (with_reducible exact Sd) | (repeat' (first | (with_reducible assumption) | (with_reducible refine Sp1.new ?_ _) | (with_reducible refine Sp1.drew ?_)))) ?_); rintro e wb ⟨kg, xg, ng, ag, lg, cg, a, rfl, hRa, haw, hTb, hNb, hUb⟩ hTb0 Sb; have htb := hTb0.lt; have Ub : Upto (isT (H + 1)) wa wb := (by first | (with_reducible exact hUb) | (with_reducible exact ((Upto.refl (isT (H + 1)) _).alloc _).trans hUb (fun _ _ e => e)) | (with_reducible exact (((Upto.refl (isT (H + 1)) _).alloc _).alloc _).trans hUb (fun _ _ e => e))); (first | (with_reducible refine newT2_elim hUb hTb0 ?_; intro zb1 zb2; obtain ⟨⟨ze0, ze1, ze2, ze3⟩, ⟨ze4, ze5, ze6, ze7⟩, ze8⟩ := zb1.facts; obtain ⟨⟨zf0, zf1, zf2, zf3⟩, ⟨zf4, zf5, zf6, zf7⟩, zf8⟩ := zb2.facts) | (with_reducible refine newT1_elim hUb hTb0 ?_; intro zb1; obtain ⟨⟨ze0, ze1, ze2, ze3⟩, ⟨ze4, ze5, ze6, ze7⟩, ze8⟩ := zb1.facts) | skip); (try (with_reducible refine kept4_elim za1 hTa Ub ?_; intro zg1; obtain ⟨⟨zg2, zg3, zg4, zg5⟩, ⟨zg6, zg7, zg8, zg9⟩, zgl⟩ := zg1.facts)); (try (with_reducible refine kept4_elim za2 hTa Ub ?_; intro zh1; obtain ⟨⟨zh2, zh3, zh4, zh5⟩, ⟨zh6, zh7, zh8, zh9⟩, zhl⟩ := zh1.facts))))
    all_goals
      go_wp2_with fail
      go_meet
    all_goals
      have zq := Ub.size
      refine ⟨_, _, kf, xf, nf, af, lf, cf, kg, xg, ng, ag, lg, cg, m, a, rfl, rfl, sp_close (H := H) (n0 := .int .i64 n0) (n1 := .int .i64 n1) (wb := wb) (wa := wa) ?_ hRm hRa Ub hta htb ?_ ?_ ?_ ?_ hmw haw ?_⟩
    all_goals first
      | (with_reducible exact two4_a)
      | (with_reducible exact two4_b)
      | (with_reducible exact two4_c (by with_reducible assumption))
      | (with_reducible exact two4_d (by with_reducible assumption))
      | (with_reducible refine two4_e (by with_reducible assumption) (by with_reducible assumption) (by omega))
      | (with_reducible assumption)
      | (simp only [World.size_alloc, World.size_drew]; omega)
      | omega
  case rest =>
    obtain ⟨P, Q, k2, i2, nm2, a2, len2, cap2, k3, i3, nm3, a3, len3, cap3, m, a, rfl, rfl, hS2⟩ := hcut
    obtain ⟨hm2, ha2, hRm2, hRa2, hmw, haw, hT2, hK2, hU2⟩ := hS2
    obtain ⟨w2, rfl⟩ : ∃ q, q = wc := ⟨wc, rfl⟩
    have hN2 := hN1.keep hU2 (by simp only [isT]; omega)
    have hU2' : Upto none' w w2 := hU1.trans hU2 (fun b hb e => by simp only [isT] at e; have := HH.out; omega)
    have hTl := hT2.lt
    have hne1 := tape_ne hm2 hT2
    have hne2 := tape_ne ha2 hT2
    clear S1 hN1 hU1 hU2
    go_wp2_with fail
    (with_reducible refine (SM _ hT2).mono ?_)
    rintro e w4 ⟨f4, sa4, sl4, sc4, s, rfl, hR4, hF4, hT4, hU4⟩
    have hsw := hF4.wt
    obtain ⟨w5, hw5⟩ : ∃ w5, w5 = w4.alloc (.cells #[.string (B f4), .slice sa4 sl4 sc4] 33) := ⟨_, rfl⟩
    have hUa : Upto none' w4 w5 := by rw [hw5]; exact (Upto.refl none' w4).alloc _
    have hs5 : Box2 w5 w4.heap.size (.string (B f4)) (.slice sa4 sl4 sc4) 33 := by rw [hw5]; exact Box2.at_new rfl
    have hS5 : Rep (isT (H + 1)) w5 s.dat [.string (B f4), .slice sa4 sl4 sc4] := (Rep.weaken (fun b _ e => by simp only [isT] at e; omega) _ _ hR4).on hUa
    have hN5 := (hN2.keep hU4 (by simp only [isT]; omega)).kept hUa
    have hm5 := (hm2.keep hU4 hne1).kept hUa
    have ha5 := (ha2.keep hU4 hne2).kept hUa
    have hRm5 := (Rep.keep hU4 (fun _ e => e) _ _ hRm2).on hUa
    have hRa5 := (Rep.keep hU4 (fun _ e => e) _ _ hRa2).on hUa
    have hT5 := hT4.on hUa
    have hK5 := (hK2.keep hU4).on hUa
    have hU5 : Upto none' w w5 := (hU2'.trans hU4 (fun b hb e => by simp only [isT] at e; have := HH.out; omega)).and hUa
    obtain ⟨S, hS⟩ : ∃ S, S = w4.heap.size := ⟨_, rfl⟩
    rw [← hS] at hs5
    have hSz := hU4.size
    have hST : S ≠ H + 1 := by omega
    have HS := hid hS
    have HW5 := hid hw5
    clear hw5 hS hUa hR4 hU4 hT4 hN2 hm2 ha2 hRm2 hRa2 hT2 hK2 hU2' hSz SM
    go_wp2_with fail
    rw [← HW5.out, ← HS.out]
    obtain ⟨B0, hB0⟩ : ∃ B0, B0 = w5.heap.size := ⟨_, rfl⟩
    have hTB : H + 1 < B0 := by rw [hB0]; exact hT5.lt
    have HB := hid hB0
    clear hB0
    go_loopw [9, 10] (fun v9 v10 wr => ∃ (j : Nat) (us : List Tm) (css : List (List Value)), v10 = .int .i64 (j : Int) ∧ j ≤ cn ∧ us.length = j ∧ (∀ u ∈ us, u.wt ≤ 10000) ∧ Terms B0 wr v9 us css ∧ TapeOk wr (H + 1) ∧ NamesOk (H + 1) wr ∧ Upto (isT (H + 1)) w5 wr)
      (fun _ v10 _ => cn - (intOf v10).toNat)
    case atStart => exact ⟨0, [], [], rfl, Nat.zero_le _, rfl, by simp, Terms.nil _ _, hT5, hK5, Upto.refl _ _⟩
    case round =>
      clear hT5 hK5
      obtain ⟨j, us, css, rfl, hj, hul, huw, hTs, hTr, hKr, hU⟩ := hrel
      have hNr := hN5.keep hU (by simp only [isT]; omega)
      obtain ⟨q0, q1, q2, q3⟩ := hNr.cells
      have hzr : B0 ≤ wr.heap.size := by rw [HB.out]; exact hU.size
      have u2 : (j : Int) ≤ 4 := by omega
      have u3 : (0 : Int) ≤ (j : Int) := by omega
      obtain ⟨v, hv⟩ : ∃ v, v = u9 := ⟨_, rfl⟩
      rw [← hv] at hTs
      rw [← hv]
      have HV := hid hv
      have HM := hid (And.intro hul huw)
      clear hv huw
      by_cases hlt : j < cn
      · have u4 : (j : Int) < (cn : Int) := by omega
        have MDr := fun n => made08_any (H + 1) n wr hTr hKr
        clear hul
        go_wp2_with (first | ((go_at_call 18); (with_reducible refine (K2 _).mono ?_); rintro e w7 ⟨rfl, rfl⟩))
        (with_reducible refine (MDr _).mono ?_)
        rintro e w6 ⟨k6, i6, n6, a6, len6, cap6, u, rfl, hR6, huw6, hT6, hK6, hU6⟩
        have hTs6 := hTs.keep hU6 (fun b e => by simp only [isT] at e; omega)
        have hal6 := (Upto.refl none' w6).alloc (.cells #[.int .i64 k6, .string (B n6), .int .i64 i6, .slice a6 len6 cap6] 29)
        have hTb := hTs6.on hal6
        have own6 := hTb.2.2.1
        rw [HM.out.1] at own6
        have z6 := hU6.size
        have HU6 := hid huw6
        clear huw6
        go_wp2_with (at_builtin; go_loud (refine wpList_append_lies _ (by rfl) _ _ 27 (by rfl) B0 29 i0 (.agg #[.int .i64 0, .string (B []), .int .i64 0, .slice none 0 0]) 4 56 (by kernel_rfl) hi hi0 hi1 hi2 rfl (by decide) v j css.flatten (by rfl) own6 ⟨w6.heap.size, 0, none⟩ 1 1 [.int .i64 k6, .string (B n6), .int .i64 i6, .slice a6 len6 cap6] (by rfl) rfl (World.news_of_block (heap_alloc_new w6 _)) (by simp [Value.oneCell']) (by omega) (by simp only [maxLen]; omega) (by omega) (by simp; omega) _ rfl ?_); intro g cap' w8 hown hgrow hat _hg8)
        have hRu : Rep (fun b => b < B0 ∨ v.ownBlock = some b) (w6.alloc (.cells #[.int .i64 k6, .string (B n6), .int .i64 i6, .slice a6 len6 cap6] 29)) u.dat [.int .i64 k6, .string (B n6), .int .i64 i6, .slice a6 len6 cap6] := by
          refine (Rep.weaken (fun b _ e => ?_) _ _ hR6).on hal6
          rcases e with e | e
          · omega
          · have := (hTs.2.2.1.lt b e).2; omega
        have hown8 : w8.ownsRow B0 29 4 (.slice (some ⟨g, 0, none⟩) (us.length + 1) cap') (us.length + 1) (css.flatten ++ [.int .i64 k6, .string (B n6), .int .i64 i6, .slice a6 len6 cap6]) := by rw [HM.out.1]; exact hown
        have hTs8 := hTb.appended rfl hRu hown8 hgrow hat (Nat.le_refl _)
        rw [HM.out.1] at hTs8
        have hrow := Upto.ofRow (RowUp.grown hTb.2.2.1 hgrow)
        have hT8 := (hT6.on hal6).far hrow (fun b e => by omega)
        have hK8 := (hK6.on hal6).far hrow (fun b e => by omega)
        have hU8 : Upto (isT (H + 1)) w5 w8 := ((hU.trans hU6 (fun _ _ e => e)).trans hal6 (fun _ _ e => e.elim)).trans hrow (fun b hb e => by have := HB.out; omega)
        clear hRu hown8 hrow hown hgrow hat hTb own6 hT6 hK6 hU6 hTs6 hal6 hR6 hTr hKr hTs q0 q1 q2 q3
        go_wp2_with fail
        go_roundw
        case rel =>
          refine ⟨j + 1, us ++ [u], _, by go_num, by omega, by rw [List.length_append, HM.out.1]; rfl, fun x hx => ?_, hTs8, hT8, hK8, hU8⟩
          rcases List.mem_append.1 hx with hx | hx
          · exact HM.out.2 x hx
          · rw [List.mem_singleton.1 hx]; exact HU6.out
        case measure => simp [intOf]; omega
      · have hjc : ¬ (j : Int) < (cn : Int) := by omega
        clear hul
        go_upto_region 9 with (first | ((go_at_call 18); (with_reducible refine (K2 _).mono ?_); rintro e w7 ⟨rfl, rfl⟩))
        have hul := HM.out.1
        obtain ⟨ua, uc, rfl, huc, hEu⟩ := hTs.rep
        have hm := hm5.keep hU hne1
        have ha := ha5.keep hU hne2
        have hs := hs5.keep hU (by simp only [isT]; exact hST)
        have hRm := rep_pre (Rep.keep hU (fun _ e => e) _ _ hRm5)
        have hRa := rep_pre (Rep.keep hU (fun _ e => e) _ _ hRa5)
        have hRs := rep_pre (Rep.keep hU (fun _ e => e) _ _ hS5)
        have hRu : RepE none' wr 4 (us.map Tm.dat) ua 0 := RepE.weaken (fun _ _ x => x.elim) _ _ _ _ hEu
        have hUw : Upto none' w wr := hU5.trans hU (fun b hb e => by simp only [isT] at e; have := HH.out; omega)
        have huw := HM.out.2
        have hul10 : us.length ≤ 10 := by omega
        have hms := Tm.size_le_wt m
        have has := Tm.size_le_wt a
        have F1 := fun (W : World) (hu : Upto none' wr W) => applyF_any none' m s us (by omega) (fun u h => by have := huw u h; omega) (by omega) (by omega) W (fun _ x => x.elim) _ _ ua uc (hRm.on hu) (hRs.on hu) (hRu.on hu)
        have F2 := fun (W : World) (hu : Upto none' wr W) => refApply_any none' m s us (by omega) (fun u h => by have := huw u h; omega) (by omega) (by omega) W (fun _ x => x.elim) _ _ ua uc huc (hRm.on hu) (hRs.on hu) (hRu.on hu)
        have F3 := fun (W : World) (hu : Upto none' wr W) => instantiate_any none' a m (by omega) (by omega) W (fun _ x => x.elim) _ _ (hRa.on hu) (hRm.on hu)
        have F4 := fun (W : World) (hu : Upto none' wr W) => refInstantiate_any none' a m (by omega) (by omega) W (fun _ x => x.elim) _ _ (hRa.on hu) (hRm.on hu)
        have F5 := fun (W : World) (hu : Upto none' wr W) => result_any a us (by omega) (fun u h => by have := huw u h; omega) (by omega) W _ ua uc (hRa.on hu) (hRu.on hu)
        have F6 := fun (W : World) (hu : Upto none' wr W) => refResult_any a us (by omega) (fun u h => by have := huw u h; omega) (by omega) W _ ua uc (hRa.on hu) (hRu.on hu)
        have z1 := appT_le8 m s us
        have z3 := instT_le8 a m
        have z5 := resultT_le a us (by omega)
        obtain ⟨ul, hul'⟩ : ∃ ul, ul = us.length := ⟨_, rfl⟩
        rw [← hul'] at F1 F2 F5 F6
        rw [← hul']
        have HUL := hid (And.intro hul' hul)
        clear hul' hul huc hEu
        generalize appE m s us = E1 at *
        generalize appT m s us = X1 at *
        generalize instE a m = E3 at *
        generalize instT a m = X3 at *
        generalize resultE a us = E5 at *
        generalize resultT a us = X5 at *
        have SA1 := fun (W : World) cs ds h h' => refSame_any X1 (by omega) X1 W cs ds h h'
        have SA3 := fun (W : World) cs ds h h' => refSame_any X3 (by omega) X3 W cs ds h h'
        have SA5 := fun (W : World) cs ds h h' => refSame_any X5 (by omega) X5 W cs ds h h'
        rw [Tm.same_refl] at SA1 SA3 SA5
        obtain ⟨v0, rfl⟩ : ∃ q, q = wr := ⟨wr, rfl⟩
        have hV0 := Upto.refl none' v0
        clear hRm hRa hRs hRu z1 z3 z5 hms has hTs hTr hKr hU hm5 ha5 hs5 hRm5 hRa5 hS5 hNr q0 q1 q2 q3 hN5 hU5
        obtain ⟨m0, m1, m2, m3⟩ := (hm.kept hV0).cells
        obtain ⟨s0, s1⟩ := (hs.kept hV0).cells
        go_wp2_with fail
        (with_reducible refine (F1 v0 hV0).mono ?_)
        rintro e d1 ⟨kk1, ii1, nn1, aa1, ll1, cc1, rfl, hR1, hD1⟩
        obtain ⟨v1, hv1⟩ : ∃ q, q = d1.alloc (.cells #[.int .i64 kk1, .string (B nn1), .int .i64 ii1, .slice aa1 ll1 cc1] 29) := ⟨_, rfl⟩
        have hUa : Upto none' d1 v1 := by rw [hv1]; exact (Upto.refl none' _).alloc _
        have hb1 : Box4 v1 d1.heap.size (.int .i64 kk1) (.string (B nn1)) (.int .i64 ii1) (.slice aa1 ll1 cc1) 29 := by rw [hv1]; exact Box4.at_new rfl
        obtain ⟨A1, hA1⟩ : ∃ q, q = d1.heap.size := ⟨_, rfl⟩
        rw [← hA1] at hb1
        have hX1 := hR1.on hUa
        have hst := hD1.and hUa
        have hV1 := hV0.and hst
        have HV1 := hid hv1
        have HA1 := hid hA1
        clear hv1 hA1 hUa hR1 hD1 hst hV0 F1 m0 m1 m2 m3 s0 s1
        go_upto_region 10 with fail
        rw [← HV1.out, ← HA1.out]
        obtain ⟨m0, m1, m2, m3⟩ := (hm.kept hV1).cells
        obtain ⟨s0, s1⟩ := (hs.kept hV1).cells
        go_wp2_with fail
        (with_reducible refine (F2 v1 hV1).mono ?_)
        rintro e d2 ⟨kk2, ii2, nn2, aa2, ll2, cc2, rfl, hR2, hD2⟩
        obtain ⟨v2, hv2⟩ : ∃ q, q = d2.alloc (.cells #[.int .i64 kk2, .string (B nn2), .int .i64 ii2, .slice aa2 ll2 cc2] 29) := ⟨_, rfl⟩
        have hUa : Upto none' d2 v2 := by rw [hv2]; exact (Upto.refl none' _).alloc _
        have hb2 : Box4 v2 d2.heap.size (.int .i64 kk2) (.string (B nn2)) (.int .i64 ii2) (.slice aa2 ll2 cc2) 29 := by rw [hv2]; exact Box4.at_new rfl
        obtain ⟨A2, hA2⟩ : ∃ q, q = d2.heap.size := ⟨_, rfl⟩
        rw [← hA2] at hb2
        have hX2 := hR2.on hUa
        have hst := hD2.and hUa
        have hV2 := hV1.and hst
        have hb1 := hb1.kept hst
        have hX1 := hX1.on hst
        have HV2 := hid hv2
        have HA2 := hid hA2
        clear hv2 hA2 hUa hR2 hD2 hst hV1 F2 m0 m1 m2 m3 s0 s1
        go_upto_region 11 with fail
        rw [← HV2.out, ← HA2.out]
        obtain ⟨m0, m1, m2, m3⟩ := (hm.kept hV2).cells
        obtain ⟨a0, a1, a2, a3⟩ := (ha.kept hV2).cells
        go_wp2_with fail
        (with_reducible refine (F3 v2 hV2).mono ?_)
        rintro e d3 ⟨kk3, ii3, nn3, aa3, ll3, cc3, rfl, hR3, hD3⟩
        obtain ⟨v3, hv3⟩ : ∃ q, q = d3.alloc (.cells #[.int .i64 kk3, .string (B nn3), .int .i64 ii3, .slice aa3 ll3 cc3] 29) := ⟨_, rfl⟩
        have hUa : Upto none' d3 v3 := by rw [hv3]; exact (Upto.refl none' _).alloc _
        have hb3 : Box4 v3 d3.heap.size (.int .i64 kk3) (.string (B nn3)) (.int .i64 ii3) (.slice aa3 ll3 cc3) 29 := by rw [hv3]; exact Box4.at_new rfl
        obtain ⟨A3, hA3⟩ : ∃ q, q = d3.heap.size := ⟨_, rfl⟩
        rw [← hA3] at hb3
        have hX3 := hR3.on hUa
        have hst := hD3.and hUa
        have hV3 := hV2.and hst
        have hb1 := hb1.kept hst
        have hX1 := hX1.on hst
        have hb2 := hb2.kept hst
        have hX2 := hX2.on hst
        have HV3 := hid hv3
        have HA3 := hid hA3
        clear hv3 hA3 hUa hR3 hD3 hst hV2 F3 a0 a1 a2 a3 m0 m1 m2 m3
        go_upto_region 12 with fail
        rw [← HV3.out, ← HA3.out]
        obtain ⟨m0, m1, m2, m3⟩ := (hm.kept hV3).cells
        obtain ⟨a0, a1, a2, a3⟩ := (ha.kept hV3).cells
        go_wp2_with fail
        (with_reducible refine (F4 v3 hV3).mono ?_)
        rintro e d4 ⟨kk4, ii4, nn4, aa4, ll4, cc4, rfl, hR4, hD4⟩
        obtain ⟨v4, hv4⟩ : ∃ q, q = d4.alloc (.cells #[.int .i64 kk4, .string (B nn4), .int .i64 ii4, .slice aa4 ll4 cc4] 29) := ⟨_, rfl⟩
        have hUa : Upto none' d4 v4 := by rw [hv4]; exact (Upto.refl none' _).alloc _
        have hb4 : Box4 v4 d4.heap.size (.int .i64 kk4) (.string (B nn4)) (.int .i64 ii4) (.slice aa4 ll4 cc4) 29 := by rw [hv4]; exact Box4.at_new rfl
        obtain ⟨A4, hA4⟩ : ∃ q, q = d4.heap.size := ⟨_, rfl⟩
        rw [← hA4] at hb4
        have hX4 := hR4.on hUa
        have hst := hD4.and hUa
        have hV4 := hV3.and hst
        have hb1 := hb1.kept hst
        have hX1 := hX1.on hst
        have hb2 := hb2.kept hst
        have hX2 := hX2.on hst
        have hb3 := hb3.kept hst
        have hX3 := hX3.on hst
        have HV4 := hid hv4
        have HA4 := hid hA4
        clear hv4 hA4 hUa hR4 hD4 hst hV3 F4 a0 a1 a2 a3 m0 m1 m2 m3
        go_upto_region 13 with fail
        rw [← HV4.out, ← HA4.out]
        obtain ⟨a0, a1, a2, a3⟩ := (ha.kept hV4).cells
        go_wp2_with fail
        (with_reducible refine (F5 v4 hV4).mono ?_)
        rintro e d5 ⟨kk5, ii5, nn5, aa5, ll5, cc5, rfl, hR5, hD5⟩
        obtain ⟨v5, hv5⟩ : ∃ q, q = d5.alloc (.cells #[.int .i64 kk5, .string (B nn5), .int .i64 ii5, .slice aa5 ll5 cc5] 29) := ⟨_, rfl⟩
        have hUa : Upto none' d5 v5 := by rw [hv5]; exact (Upto.refl none' _).alloc _
        have hb5 : Box4 v5 d5.heap.size (.int .i64 kk5) (.string (B nn5)) (.int .i64 ii5) (.slice aa5 ll5 cc5) 29 := by rw [hv5]; exact Box4.at_new rfl
        obtain ⟨A5, hA5⟩ : ∃ q, q = d5.heap.size := ⟨_, rfl⟩
        rw [← hA5] at hb5
        have hX5 := hR5.on hUa
        have hst := hD5.and hUa
        have hV5 := hV4.and hst
        have hb1 := hb1.kept hst
        have hX1 := hX1.on hst
        have hb2 := hb2.kept hst
        have hX2 := hX2.on hst
        have hb3 := hb3.kept hst
        have hX3 := hX3.on hst
        have hb4 := hb4.kept hst
        have hX4 := hX4.on hst
        have HV5 := hid hv5
        have HA5 := hid hA5
        clear hv5 hA5 hUa hR5 hD5 hst hV4 F5 a0 a1 a2 a3
        go_upto_region 14 with fail
        rw [← HV5.out, ← HA5.out]
        obtain ⟨a0, a1, a2, a3⟩ := (ha.kept hV5).cells
        go_wp2_with fail
        (with_reducible refine (F6 v5 hV5).mono ?_)
        rintro e d6 ⟨kk6, ii6, nn6, aa6, ll6, cc6, rfl, hR6, hD6⟩
        obtain ⟨v6, hv6⟩ : ∃ q, q = d6.alloc (.cells #[.int .i64 kk6, .string (B nn6), .int .i64 ii6, .slice aa6 ll6 cc6] 29) := ⟨_, rfl⟩
        have hUa : Upto none' d6 v6 := by rw [hv6]; exact (Upto.refl none' _).alloc _
        have hb6 : Box4 v6 d6.heap.size (.int .i64 kk6) (.string (B nn6)) (.int .i64 ii6) (.slice aa6 ll6 cc6) 29 := by rw [hv6]; exact Box4.at_new rfl
        obtain ⟨A6, hA6⟩ : ∃ q, q = d6.heap.size := ⟨_, rfl⟩
        rw [← hA6] at hb6
        have hX6 := hR6.on hUa
        have hst := hD6.and hUa
        have hV6 := hV5.and hst
        have hb1 := hb1.kept hst
        have hX1 := hX1.on hst
        have hb2 := hb2.kept hst
        have hX2 := hX2.on hst
        have hb3 := hb3.kept hst
        have hX3 := hX3.on hst
        have hb4 := hb4.kept hst
        have hX4 := hX4.on hst
        have hb5 := hb5.kept hst
        have hX5 := hX5.on hst
        have HV6 := hid hv6
        have HA6 := hid hA6
        clear hv6 hA6 hUa hR6 hD6 hst hV5 F6 a0 a1 a2 a3
        go_upto_region 15 with fail
        rw [← HV6.out, ← HA6.out]
        obtain ⟨p0, p1, p2, p3⟩ := hb1.cells
        obtain ⟨q0, q1, q2, q3⟩ := hb2.cells
        have S12 := SA1 v6 _ _ hX1 hX2
        have AW := fun W => awake08 W
        go_wp2_with (first | ((go_at_call 25); (with_reducible refine S12.mono ?_); rintro e x1 ⟨rfl, hx1⟩; have hy1 := hx1; clear p0 p1 p2 p3 q0 q1 q2 q3; obtain ⟨p0, p1, p2, p3⟩ := (hb3.kept hy1).cells; obtain ⟨q0, q1, q2, q3⟩ := (hb4.kept hy1).cells; have S34 := SA3 x1 _ _ (hX3.on hy1) (hX4.on hy1)) | ((go_at_call 25); (with_reducible refine S34.mono ?_); rintro e x2 ⟨rfl, hx2⟩; have hy2 := hy1.and hx2; clear p0 p1 p2 p3 q0 q1 q2 q3; obtain ⟨p0, p1, p2, p3⟩ := (hb5.kept hy2).cells; obtain ⟨q0, q1, q2, q3⟩ := (hb6.kept hy2).cells; have S56 := SA5 x2 _ _ (hX5.on hy2) (hX6.on hy2)) | ((go_at_call 25); (with_reducible refine S56.mono ?_); rintro e x3 ⟨rfl, hx3⟩) | ((go_at_call 26); (with_reducible refine (AW _).mono ?_); rintro e x4 ⟨rfl, hx4⟩))
        go_ret
        exact ⟨rfl, (((hUw.and hV6).and hy2).and hx3).and hx4⟩
end Go.Proofs.YtdomloghcpfdjaaGreatDoor
