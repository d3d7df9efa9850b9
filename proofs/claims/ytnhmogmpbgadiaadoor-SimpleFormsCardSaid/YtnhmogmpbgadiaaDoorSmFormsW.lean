/- SimpleForms: its walk. -/
import Derived.Test.YtnhmogmpbgadiaaDoorDF
import Derived.Test.YtnhmogmpbgadiaaDoorDG
import Derived.Test.YtnhmogmpbgadiaaDoorRefEraseF
import Derived.Test.YtnhmogmpbgadiaaDoorDB
import Derived.Test.YtnhmogmpbgadiaaDoorDA
import Derived.Test.YtnhmogmpbgadiaaDoorCH
import Derived.Deep.CutRange
import Derived.Deep.RegionHeld3
namespace Go.Proofs.YtnhmogmpbgadiaaDoor
open Go.RowKit Go.LF
/-- What the first drawn region reads. -/
abbrev Fm1 (W : World) (H : Nat) (n0 n1 k0 k1 : Value) (w' : World) : Prop :=
  w'.cell? ⟨H, 0, none⟩ = some n0 ∧ w'.cell? ⟨H, 1, none⟩ = some n1 ∧ w'.cell? ⟨H + 1, 0, none⟩ = some k0 ∧ w'.cell? ⟨H + 1, 1, none⟩ = some k1 ∧ H + 1 < W.heap.size ∧ Upto none' W w'
section
variable {W w' w1 : World} {H : Nat} {n0 n1 k0 k1 : Value}
theorem Fm1.up (h : Fm1 W H n0 n1 k0 k1 w') : Upto none' W w' := h.2.2.2.2.2
theorem Fm1.on (h : Fm1 W H n0 n1 k0 k1 w') (hU : Upto none' w' w1) : Fm1 W H n0 n1 k0 k1 w1 :=
  ⟨hU.cell h.1 (fun x => x), hU.cell h.2.1 (fun x => x), hU.cell h.2.2.1 (fun x => x), hU.cell h.2.2.2.1 (fun x => x), h.2.2.2.2.1, h.up.and hU⟩
theorem Fm1.new (h : Fm1 W H n0 n1 k0 k1 w') (o : Obj) : Fm1 W H n0 n1 k0 k1 (w'.alloc o) := h.on ((Upto.refl none' _).alloc o)
theorem Fm1.drew (h : Fm1 W H n0 n1 k0 k1 w') : Fm1 W H n0 n1 k0 k1 w'.drew := h.on (Upto.refl none' _).drew
theorem Fm1.ge (h : Fm1 W H n0 n1 k0 k1 w') : W.heap.size ≤ w'.heap.size := h.up.size
theorem Fm1.set2 (h : Fm1 W H n0 n1 k0 k1 w') {r : Nat} (hr : W.heap.size ≤ r) (u v : Value) : Fm1 W H n0 n1 k0 k1 ((w'.setCell ⟨r, 0, none⟩ u).setCell ⟨r, 1, none⟩ v) := by
  have hlt := h.2.2.2.2.1
  have hs : Upto (fun b => b = r) w' ((w'.setCell ⟨r, 0, none⟩ u).setCell ⟨r, 1, none⟩ v) := Upto.set (Upto.set (Upto.refl _ _) 0 u) 1 v
  have n1 : ¬ H = r := by omega
  have n2 : ¬ H + 1 = r := by omega
  exact ⟨hs.cell h.1 n1, hs.cell h.2.1 n1, hs.cell h.2.2.1 n2, hs.cell h.2.2.2.1 n2, hlt, h.up.trans hs (fun b hb e => by omega)⟩
end
/-- Two new variables of a simple type, filled. -/
theorem two_boxes {W : World} {S R : Nat} {d0 d1 e0 e1 : Value} {T : TypeId} (hS : Box2 W S d0 d1 T) (hR : Box2 W R e0 e1 T) (hne : S ≠ R) (v0 v1 u0 u1 : Value) :
    Box2 ((((W.setCell ⟨S, 0, none⟩ v0).setCell ⟨S, 1, none⟩ v1).setCell ⟨R, 0, none⟩ u0).setCell ⟨R, 1, none⟩ u1) S v0 v1 T ∧
    Box2 ((((W.setCell ⟨S, 0, none⟩ v0).setCell ⟨S, 1, none⟩ v1).setCell ⟨R, 0, none⟩ u0).setCell ⟨R, 1, none⟩ u1) R u0 u1 T ∧
    Upto (fun b => b = S ∨ b = R) W ((((W.setCell ⟨S, 0, none⟩ v0).setCell ⟨S, 1, none⟩ v1).setCell ⟨R, 0, none⟩ u0).setCell ⟨R, 1, none⟩ u1) := by
  have a := hS.set (d0 := v0) (d1 := v1)
  have b := (hR.keep a.2 (fun e => hne e.symm)).set (d0 := u0) (d1 := u1)
  exact ⟨a.1.keep b.2 hne, b.1, (a.2.mono (fun _ _ e => .inl e)).trans b.2 (fun _ _ e => .inr e)⟩
/-- A new variable of a simple type, behind a call. -/
theorem newB1 {Y wa : World} (hU : Upto none' (Y.alloc (.cells #[.string (B []), .slice none 0 0] 43)) wa) : Box2 wa Y.heap.size (.string (B [])) (.slice none 0 0) 43 := (Box2.at_new rfl).kept hU
theorem newB2 {Y wa : World} (hU : Upto none' ((Y.alloc (.cells #[.string (B []), .slice none 0 0] 43)).alloc (.cells #[.string (B []), .slice none 0 0] 43)) wa) :
    Box2 wa Y.heap.size (.string (B [])) (.slice none 0 0) 43 ∧ Box2 wa (Y.heap.size + 1) (.string (B [])) (.slice none 0 0) 43 := ⟨((Box2.at_new rfl).kept ((Upto.refl none' _).alloc _)).kept hU, (Box2.at_new (by simp)).kept hU⟩
theorem Box2.facts {W : World} {g : Nat} {c0 c1 : Value} {T : TypeId} (h : Box2 W g c0 c1 T) : W.cell? ⟨g, 0, none⟩ = some c0 ∧ W.cell? ⟨g, 1, none⟩ = some c1 ∧ W.frozen? ⟨g, 0, none⟩ = false ∧ W.frozen? ⟨g, 1, none⟩ = false ∧ g < W.heap.size := ⟨h.cells.1, h.cells.2, h.frozens.1, h.frozens.2, h.lt⟩
theorem newB1_elim {Y wa : World} {p : Prop} (hU : Upto none' (Y.alloc (.cells #[.string (B []), .slice none 0 0] 43)) wa) (h : Box2 wa Y.heap.size (.string (B [])) (.slice none 0 0) 43 → p) : p := h (newB1 hU)
theorem newB2_elim {Y wa : World} {p : Prop} (hU : Upto none' ((Y.alloc (.cells #[.string (B []), .slice none 0 0] 43)).alloc (.cells #[.string (B []), .slice none 0 0] 43)) wa)
    (h : Box2 wa Y.heap.size (.string (B [])) (.slice none 0 0) 43 → Box2 wa (Y.heap.size + 1) (.string (B [])) (.slice none 0 0) 43 → p) : p := h (newB2 hU).1 (newB2 hU).2
theorem newB1_elimd {Y wa : World} {p : Prop} (hU : Upto none' (Y.alloc (.cells #[.string (B []), .slice none 0 0] 43)).drew wa) (h : Box2 wa Y.heap.size (.string (B [])) (.slice none 0 0) 43 → p) : p := newB1_elim ((Upto.refl none' _).drew.and hU) h
theorem newB2_elimd {Y wa : World} {p : Prop} (hU : Upto none' ((Y.alloc (.cells #[.string (B []), .slice none 0 0] 43)).alloc (.cells #[.string (B []), .slice none 0 0] 43)).drew wa)
    (h : Box2 wa Y.heap.size (.string (B [])) (.slice none 0 0) 43 → Box2 wa (Y.heap.size + 1) (.string (B [])) (.slice none 0 0) 43 → p) : p := newB2_elim ((Upto.refl none' _).drew.and hU) h
theorem kept_elim {W W' : World} {g : Nat} {c0 c1 : Value} {T : TypeId} {p : Prop} (h : Box2 W g c0 c1 T) (hU : Upto none' W W') (k : Box2 W' g c0 c1 T → p) : p := k (h.kept hU)
theorem Box2.setOther {W : World} {g r : Nat} {c0 c1 u v : Value} {T : TypeId} (h : Box2 W g c0 c1 T) (hne : g ≠ r) : Box2 ((W.setCell ⟨r, 0, none⟩ u).setCell ⟨r, 1, none⟩ v) g c0 c1 T := h.keep (Upto.set (Upto.set (Upto.refl (fun b => b = r) _) 0 u) 1 v) hne
/-- Behind the first region: the two variables are filled. -/
structure Two (wb W : World) (S R : Nat) (f0 f1 g0 g1 : Value) : Prop where
  left : Box2 W S f0 f1 43
  right : Box2 W R g0 g1 43
  up : Upto (fun b => b = S ∨ b = R) wb W
section
variable {wb : World} {S R : Nat} {f0 f1 g0 g1 z0 z1 : Value}
theorem two_a : Two wb ((wb.alloc (.cells #[f0, f1] 43)).alloc (.cells #[g0, g1] 43)) wb.heap.size (wb.heap.size + 1) f0 f1 g0 g1 :=
  ⟨(Box2.at_new rfl).kept ((Upto.refl none' _).alloc _), Box2.at_new (by simp), ((Upto.refl _ wb).alloc _).alloc _⟩
theorem two_b : Two wb ((wb.alloc (.cells #[g0, g1] 43)).alloc (.cells #[f0, f1] 43)) (wb.heap.size + 1) wb.heap.size f0 f1 g0 g1 :=
  ⟨Box2.at_new (by simp), (Box2.at_new rfl).kept ((Upto.refl none' _).alloc _), ((Upto.refl _ wb).alloc _).alloc _⟩
theorem two_c (hS : Box2 wb S z0 z1 43) : Two wb (((wb.setCell ⟨S, 0, none⟩ f0).setCell ⟨S, 1, none⟩ f1).alloc (.cells #[g0, g1] 43)) S wb.heap.size f0 f1 g0 g1 :=
  ⟨(Box2.set hS).1.kept ((Upto.refl none' _).alloc _), Box2.at_new (by simp), ((Box2.set hS).2.mono (fun _ _ e => .inl e)).alloc _⟩
theorem two_d (hR : Box2 wb R z0 z1 43) : Two wb (((wb.setCell ⟨R, 0, none⟩ g0).setCell ⟨R, 1, none⟩ g1).alloc (.cells #[f0, f1] 43)) wb.heap.size R f0 f1 g0 g1 :=
  ⟨Box2.at_new (by simp), (Box2.set hR).1.kept ((Upto.refl none' _).alloc _), ((Box2.set hR).2.mono (fun _ _ e => .inr e)).alloc _⟩
theorem two_e {y0 y1 : Value} (hS : Box2 wb S z0 z1 43) (hR : Box2 wb R y0 y1 43) (hne : S ≠ R) : Two wb ((((wb.setCell ⟨S, 0, none⟩ f0).setCell ⟨S, 1, none⟩ f1).setCell ⟨R, 0, none⟩ g0).setCell ⟨R, 1, none⟩ g1) S R f0 f1 g0 g1 :=
  ⟨(two_boxes hS hR hne _ _ _ _).1, (two_boxes hS hR hne _ _ _ _).2.1, (two_boxes hS hR hne _ _ _ _).2.2⟩
theorem fm_close {w1 wa W : World} {Xa Xb : Nat} {f g : List UInt8} {sa ra : Option Addr} {sl sc rl rc : Nat} {s r : Sm} (hT : Two wb W S R (.string (B f)) (.slice sa sl sc) (.string (B g)) (.slice ra rl rc)) (hRs : Rep (fun b => b < Xa) wa s.dat [.string (B f), .slice sa sl sc])
    (hRr : Rep (fun b => b < Xb) wb r.dat [.string (B g), .slice ra rl rc]) (Ub : Upto none' wa wb) (c1 : S < Xa ∨ wa.heap.size ≤ S) (c2 : R < Xa ∨ wa.heap.size ≤ R) (d1 : S < Xb ∨ wb.heap.size ≤ S) (d2 : R < Xb ∨ wb.heap.size ≤ R)
    (h1 : s.size ≤ 15) (h2 : s.wt ≤ 100) (h3 : r.size ≤ 15) (h4 : r.wt ≤ 100) (hU : Upto none' w1 W) :
    Box2 W S (.string (B f)) (.slice sa sl sc) 43 ∧ Box2 W R (.string (B g)) (.slice ra rl rc) 43 ∧
    Rep none' W s.dat [.string (B f), .slice sa sl sc] ∧ Rep none' W r.dat [.string (B g), .slice ra rl rc] ∧ s.size ≤ 15 ∧ s.wt ≤ 100 ∧ r.size ≤ 15 ∧ r.wt ≤ 100 ∧ Upto none' w1 W :=
  ⟨hT.left, hT.right, rep_pre (Rep.keep hT.up (fun b e => by rcases e with rfl | rfl; exact c1; exact c2) _ _ ((Rep.freshO hRs).on Ub)), rep_pre (Rep.keep hT.up (fun b e => by rcases e with rfl | rfl; exact d1; exact d2) _ _ (Rep.freshO hRr)), h1, h2, h3, h4, hU⟩
end
/-- What the last regions read. -/
abbrev Fm7 (W : World) (S R P A B' : Nat) (s0 s1 r0 r1 t0 t1 t2 t3 a0 a1 b0 b1 : Value) (w' : World) : Prop :=
  (w'.cell? ⟨S, 0, none⟩ = some s0 ∧ w'.cell? ⟨S, 1, none⟩ = some s1) ∧ (w'.cell? ⟨R, 0, none⟩ = some r0 ∧ w'.cell? ⟨R, 1, none⟩ = some r1) ∧
  (w'.cell? ⟨P, 0, none⟩ = some t0 ∧ w'.cell? ⟨P, 1, none⟩ = some t1 ∧ w'.cell? ⟨P, 2, none⟩ = some t2 ∧ w'.cell? ⟨P, 3, none⟩ = some t3) ∧
  (w'.cell? ⟨A, 0, none⟩ = some a0 ∧ w'.cell? ⟨A, 1, none⟩ = some a1) ∧ (w'.cell? ⟨B', 0, none⟩ = some b0 ∧ w'.cell? ⟨B', 1, none⟩ = some b1) ∧ Upto none' W w'
theorem two_on {W W' : World} {b : Nat} {c0 c1 : Value} (hU : Upto none' W W') (h : W.cell? ⟨b, 0, none⟩ = some c0 ∧ W.cell? ⟨b, 1, none⟩ = some c1) : W'.cell? ⟨b, 0, none⟩ = some c0 ∧ W'.cell? ⟨b, 1, none⟩ = some c1 := ⟨hU.cell h.1 (fun x => x), hU.cell h.2 (fun x => x)⟩
section
variable {W w' w1 : World} {S R P A B' : Nat} {s0 s1 r0 r1 t0 t1 t2 t3 a0 a1 b0 b1 : Value}
theorem Fm7.up (h : Fm7 W S R P A B' s0 s1 r0 r1 t0 t1 t2 t3 a0 a1 b0 b1 w') : Upto none' W w' := h.2.2.2.2.2
theorem Fm7.on (h : Fm7 W S R P A B' s0 s1 r0 r1 t0 t1 t2 t3 a0 a1 b0 b1 w') (hU : Upto none' w' w1) : Fm7 W S R P A B' s0 s1 r0 r1 t0 t1 t2 t3 a0 a1 b0 b1 w1 :=
  ⟨two_on hU h.1, two_on hU h.2.1, box_on hU h.2.2.1, two_on hU h.2.2.2.1, two_on hU h.2.2.2.2.1, h.up.and hU⟩
end
theorem Tm.erV_size (u : Tm) : u.erV.size ≤ u.size + 1 := by
  unfold Tm.erV
  split
  · have := (Tm.er_size u).1; omega
  · simp [Sm.sizes]
set_option maxRecDepth 100000 in
set_option maxHeartbeats 16000000 in
theorem simpleForms_walk (l0 : List Int) (a0 : Option Addr) (len0 cap0 : Nat) (hl0 : l0.length = len0) (hlen0 : len0 ≤ 17592186044416) (l1 : List Int) (a1 : Option Addr) (len1 cap1 : Nat) (hl1 : l1.length = len1) (hlen1 : len1 ≤ 17592186044416) (n0 n1 k0 k1 : Int) (w : World)
    (hE0 : RepE none' w 1 (l0.map (Dat.int .i64)) a0 0) (hE1 : RepE none' w 1 (l1.map (Dat.int .i64)) a1 0) (hN : NamesRead w) :
    Calls Tryd.prog 7 #[.slice a0 len0 cap0, .slice a1 len1 cap1, .agg #[.int .i64 n0, .int .i64 n1], .agg #[.int .i64 k0, .int .i64 k1]] w fun e w' => e = .returned (.bool true) ∧ Upto none' w w' := by
  obtain ⟨w1, hw1⟩ : ∃ w1, w1 = (w.alloc (.cells #[.int .i64 n0, .int .i64 n1] 40)).alloc (.cells #[.int .i64 k0, .int .i64 k1] 40) := ⟨_, rfl⟩
  have hU1 : Upto none' w w1 := by rw [hw1]; exact ((Upto.refl none' w).alloc _).alloc _
  have hN1 : Box2 w1 w.heap.size (.int .i64 n0) (.int .i64 n1) 40 := by rw [hw1]; exact (Box2.at_new rfl).kept ((Upto.refl none' _).alloc _)
  have hK1 : Box2 w1 (w.heap.size + 1) (.int .i64 k0) (.int .i64 k1) 40 := by rw [hw1]; exact Box2.at_new (by simp)
  have SA := fun (W : World) (hU : Upto none' w1 W) => spoilt_any l0 a0 len0 cap0 hl0 hlen0 n0 n1 W (hE0.on (hU1.and hU))
  have SB := fun (W : World) (hU : Upto none' w1 W) => spoilt_any l1 a1 len1 cap1 hl1 hlen1 k0 k1 W (hE1.on (hU1.and hU))
  have hT2 := fun (W : World) (hU : Upto none' w W) => tape_new (cap := cap1) (U := 25) hl1 hlen1 (hE1.on hU)
  have hK2 := fun (W : World) (hU : Upto none' w W) => hN.ok (hU.alloc (.cells #[.slice a1 len1 cap1, .int .i64 0] 25)) hU.size
  have HW1 := hid hw1
  obtain ⟨H, hH⟩ : ∃ H, H = w.heap.size := ⟨_, rfl⟩
  have HH := hid hH
  rw [← hH] at hN1 hK1
  have TA : ∀ T W, TapeOk W T → NamesOk T W → Calls Tryd.prog 25 #[.pointer (some ⟨T, 0, none⟩), .int .i64 4, .int .i64 3, .int .i64 1] W (MakesA W.heap.size (2 ^ 5 + 2) 3 1 T W) := fun T W h h' => anyTerm_any 3 (by omega) 3 1 (by omega) (by omega) T W h h'
  clear hw1 hH hE0 hE1 hl0 hlen0 hl1 hlen1 hN
  have S1 : Fm1 w1 H (.int .i64 n0) (.int .i64 n1) (.int .i64 k0) (.int .i64 k1) w1 := ⟨hN1.cells.1, hN1.cells.2, hK1.cells.1, hK1.cells.2, hK1.lt, Upto.refl _ _⟩
  go_enter Tryd.func7, Tryd.ntmps7
  go_upto_region 1 with fail
  rw [← HW1.out, ← HH.out]
  go_cut [9, 10] from 17 to 22 (fun v9 v10 wc => ∃ (S R : Nat) (f g : List UInt8) (sa ra : Option Addr) (sl sc rl rc : Nat) (s r : Sm), v9 = .pointer (some ⟨S, 0, none⟩) ∧ v10 = .pointer (some ⟨R, 0, none⟩) ∧
    Box2 wc S (.string (B f)) (.slice sa sl sc) 43 ∧ Box2 wc R (.string (B g)) (.slice ra rl rc) 43 ∧
    Rep none' wc s.dat [.string (B f), .slice sa sl sc] ∧ Rep none' wc r.dat [.string (B g), .slice ra rl rc] ∧ s.size ≤ 15 ∧ s.wt ≤ 100 ∧ r.size ≤ 15 ∧ r.wt ≤ 100 ∧ Upto none' w1 wc)
  case first =>
    have Sd := S1.on (Upto.refl none' w1).drew
    go_region_held3 (fun w' => Fm1 w1 H (.int .i64 n0) (.int .i64 n1) (.int .i64 k0) (.int .i64 k1) w')
      (first | (with_reducible assumption) | (with_reducible exact Sd) | (repeat' (first | (with_reducible assumption) | (with_reducible exact Sd) | (with_reducible refine Fm1.new ?_ _) | (with_reducible refine Fm1.drew ?_) | (with_reducible refine Fm1.set2 ?_ (by first | (with_reducible exact Fm1.ge S1) | (with_reducible exact Fm1.ge Sd) | (with_reducible exact Fm1.ge (by with_reducible assumption)) | (with_reducible exact Nat.le_succ_of_le (Fm1.ge S1)) | (with_reducible exact Nat.le_succ_of_le (Fm1.ge Sd)) | (with_reducible exact Nat.le_succ_of_le (Fm1.ge (by with_reducible assumption)))) _ _))))
      (first
        | ((go_at_call 24); (with_reducible refine (SA _ (Fm1.up (by with_reducible assumption))).mono ?_); rintro e wa ⟨f, sa, sl, sc, s, rfl, hRs, hsz, hswt, hUa⟩; have Sa := Fm1.on (by first | (with_reducible assumption) | (with_reducible exact Sd) | (repeat' (first | (with_reducible assumption) | (with_reducible refine Fm1.new ?_ _) | (with_reducible refine Fm1.drew ?_)))) hUa; (first | (with_reducible refine newB2_elimd hUa ?_; intro za1 za2; obtain ⟨zc0, zc1, zc2, zc3, zc4⟩ := za1.facts; obtain ⟨zd0, zd1, zd2, zd3, zd4⟩ := za2.facts) | (with_reducible refine newB1_elimd hUa ?_; intro za1; obtain ⟨zc0, zc1, zc2, zc3, zc4⟩ := za1.facts) | (with_reducible refine newB1_elim hUa ?_; intro za1; obtain ⟨zc0, zc1, zc2, zc3, zc4⟩ := za1.facts) | skip))
        | ((go_at_call 24); (with_reducible refine (SB _ (Fm1.up (by with_reducible assumption))).mono ?_); rintro e wb ⟨g, ra, rl, rc, r, rfl, hRr, hrsz, hrwt, hUb⟩; have Sb := Fm1.on (by first | (with_reducible assumption) | (with_reducible exact Sd) | (repeat' (first | (with_reducible assumption) | (with_reducible refine Fm1.new ?_ _) | (with_reducible refine Fm1.drew ?_)))) hUb; have Ub : Upto none' wa wb := (by first | (with_reducible exact hUb) | (with_reducible exact hUb.behind') | (with_reducible exact hUb.behind'.behind')); (first | (with_reducible refine newB2_elim hUb ?_; intro zb1 zb2; obtain ⟨ze0, ze1, ze2, ze3, ze4⟩ := zb1.facts; obtain ⟨zf0, zf1, zf2, zf3, zf4⟩ := zb2.facts) | (with_reducible refine newB1_elim hUb ?_; intro zb1; obtain ⟨ze0, ze1, ze2, ze3, ze4⟩ := zb1.facts) | skip); (try (with_reducible refine kept_elim za1 Ub ?_; intro zg1; obtain ⟨zg2, zg3, zg4, zg5, zg6⟩ := zg1.facts)); (try (with_reducible refine kept_elim za2 Ub ?_; intro zh1; obtain ⟨zh2, zh3, zh4, zh5, zh6⟩ := zh1.facts))))
    all_goals
      go_wp2_with fail
      go_meet
    all_goals
      have zq := Ub.size
      refine ⟨_, _, f, g, sa, ra, sl, sc, rl, rc, s, r, rfl, rfl, fm_close (wb := wb) (wa := wa) ?_ hRs hRr Ub ?_ ?_ ?_ ?_ hsz hswt hrsz hrwt ?_⟩
    all_goals first
      | (with_reducible exact two_a)
      | (with_reducible exact two_b)
      | (with_reducible exact two_c (by with_reducible assumption))
      | (with_reducible exact two_d (by with_reducible assumption))
      | (with_reducible refine two_e (by with_reducible assumption) (by with_reducible assumption) (by omega))
      | (with_reducible exact Fm1.up (by with_reducible assumption))
      | (simp only [World.size_alloc, World.size_drew]; omega)
      | omega
  case rest =>
    obtain ⟨S, R, f, g, sa, ra, sl, sc, rl, rc, s, r, rfl, rfl, hs2, hr2, hRs2, hRr2, hsz, hswt, hrsz, hrwt, hU2⟩ := hcut
    obtain ⟨w2, rfl⟩ : ∃ q, q = wc := ⟨wc, rfl⟩
    have hUw2 := hU1.and hU2
    have hK2b := hK1.kept hU2
    clear S1 SA SB hN1 hK1 hU1 hU2
    go_upto_region 2 with fail
    go_wp2_with fail
    (with_reducible refine (TA _ _ (hT2 w2 hUw2) (hK2 w2 hUw2)).mono ?_)
    rintro e w4 ⟨k4, i4, nm4, a4, len4, cap4, t, rfl, hR4, hF4, _, _, hU4⟩
    have hU4' : Upto none' w2 w4 := ((Upto.refl none' w2).alloc _).trans hU4 (fun b hb e => by simp only [isT] at e; omega)
    have hwt : t.wt ≤ 200 := by have := hF4.wt; omega
    have hs4 := hs2.kept hU4'
    have hr4 := hr2.kept hU4'
    have hK4 := hK2b.kept hU4'
    have hUw4 := hUw2.and hU4'
    obtain ⟨w5, hw5⟩ : ∃ w5, w5 = w4.alloc (.cells #[.int .i64 k4, .string (B nm4), .int .i64 i4, .slice a4 len4 cap4] 29) := ⟨_, rfl⟩
    have hUa : Upto none' w4 w5 := by rw [hw5]; exact (Upto.refl none' w4).alloc _
    have ht5 : Box4 w5 w4.heap.size (.int .i64 k4) (.string (B nm4)) (.int .i64 i4) (.slice a4 len4 cap4) 29 := by rw [hw5]; exact Box4.at_new rfl
    have hR5 : Rep (fun b => b = w4.heap.size) w5 t.dat [.int .i64 k4, .string (B nm4), .int .i64 i4, .slice a4 len4 cap4] := (Rep.weaken (fun b _ e => .inr (Nat.le_of_eq e.symm)) _ _ (Rep.fresh' _ _ hR4)).on hUa
    have hRs5 : Rep (fun b => b = w4.heap.size) w5 s.dat [.string (B f), .slice sa sl sc] := (Rep.weaken (fun b _ e => .inr (Nat.le_of_eq e.symm)) _ _ (Rep.fresh' _ _ (hRs2.on hU4'))).on hUa
    have hRr5 : Rep (fun b => b = w4.heap.size) w5 r.dat [.string (B g), .slice ra rl rc] := (Rep.weaken (fun b _ e => .inr (Nat.le_of_eq e.symm)) _ _ (Rep.fresh' _ _ (hRr2.on hU4'))).on hUa
    have hs5 := hs4.kept hUa
    have hr5 := hr4.kept hUa
    have hK5 := hK4.kept hUa
    have hUw5 := hUw4.and hUa
    have hSP : S < w4.heap.size := hs4.lt
    have hRP : R < w4.heap.size := hr4.lt
    have hHP : w.heap.size ≤ w4.heap.size := hUw4.size
    obtain ⟨P, hP⟩ : ∃ P, P = w4.heap.size := ⟨_, rfl⟩
    rw [← hP] at ht5 hR5 hRs5 hRr5 hSP hRP hHP
    have HP := hid hP
    have HW5 := hid hw5
    clear hw5 hP hUa hR4 hU4 hU4' hF4 hUw4 hs4 hr4 hK4 hs2 hr2 hRs2 hRr2 hUw2 hK2b hT2 hK2 TA
    go_upto_region 3 with fail
    rw [← HP.out, ← HW5.out]
    have hb0 := cutV_bd k0 5 (by omega)
    have K0 := fun W => cut_val k0 5 (by omega) (by omega) W
    generalize cutV k0 5 = c0 at *
    obtain ⟨q0, q1⟩ := hK5.cells
    go_cut [30] from 27 to 30 (fun v30 wx => v30 = .bool (c0 == 1) ∧ w5 = wx)
    case first =>
      go_wp2_with (first | ((go_at_call 26); (with_reducible refine (K0 _).mono ?_); rintro e w7 ⟨rfl, rfl⟩))
      go_meet
      case rel => exact ⟨rfl, rfl⟩
    case rest =>
      obtain ⟨rfl, rfl⟩ := hcut
      generalize (c0 == 1) = c at *
      go_upto_if 30 with fail
      go_cut [] from 31 to 37 (fun wc => ∃ (k i : Int) (nm : List UInt8) (a : Option Addr) (len cap : Nat) (t : Tm), Box4 wc P (.int .i64 k) (.string (B nm)) (.int .i64 i) (.slice a len cap) 29 ∧ Rep none' wc t.dat [.int .i64 k, .string (B nm), .int .i64 i, .slice a len cap] ∧ t.wt ≤ 1000 ∧
        Box2 wc S (.string (B f)) (.slice sa sl sc) 43 ∧ Rep none' wc s.dat [.string (B f), .slice sa sl sc] ∧ Box2 wc R (.string (B g)) (.slice ra rl rc) 43 ∧ Rep none' wc r.dat [.string (B g), .slice ra rl rc] ∧ Upto none' w wc)
      case first =>
        cases c
        · go_wp2_with fail
          go_meet
          case rel => exact ⟨_, _, _, _, _, _, t, ht5, rep_pre hR5, by omega, hs5, rep_pre hRs5, hr5, rep_pre hRr5, hUw5⟩
        · obtain ⟨x0, x1, x2, x3⟩ := ht5.cells
          have SP := fun y z => spoil_any t (by omega) (fun b => b = P) y z w5 _ hR5
          go_wp2_with (first | ((go_at_call 27); (with_reducible refine (SP _ _).mono ?_); rintro e w8 ⟨k8, i8, n8, a8, len8, cap8, t8, rfl, hR8, hwt8, hU8⟩; have ht8 := ht5.kept hU8; have hlt8 := ht5.lt; obtain ⟨y4, y5, y6, y7⟩ := ht8.cells; obtain ⟨y0, y1, y2, y3⟩ := ht8.frozens))
          go_meet
          case rel =>
            have hset := ht8.set (d0 := .int .i64 k8) (d1 := .string (B n8)) (d2 := .int .i64 i8) (d3 := .slice a8 len8 cap8)
            exact ⟨_, _, _, _, _, _, t8, hset.1, rep_pre (Rep.keep hset.2 (fun b e => ⟨e, by omega⟩) _ _ hR8), by omega, (hs5.kept hU8).keep hset.2 (by omega), rep_pre (Rep.keep hset.2 (fun b e => e) _ _ (hRs5.on hU8)), (hr5.kept hU8).keep hset.2 (by omega), rep_pre (Rep.keep hset.2 (fun b e => e) _ _ (hRr5.on hU8)), (hUw5.and hU8).trans hset.2 (fun b hb e => by omega)⟩
      case rest =>
        obtain ⟨k6, i6, nm6, a6, len6, cap6, u, hB6, hR6, hwu, hs6, hRs6, hr6, hRr6, hU6⟩ := hcut
        obtain ⟨w6, rfl⟩ : ∃ q, q = wc := ⟨wc, rfl⟩
        have huz := Tm.size_le_wt u
        have E1 := fun W cs h => eraseF_any u (by omega) W cs h
        have E2 := fun W cs h => refEraseF_any u (by omega) W cs h
        have hez := Tm.erV_size u
        obtain ⟨X, hX⟩ : ∃ X, X = u.erV := ⟨_, rfl⟩
        rw [← hX] at E1 E2 hez
        obtain ⟨ee, hee⟩ : ∃ ee, ee = u.erE := ⟨_, rfl⟩
        rw [← hee] at E1 E2
        have E3 := fun W cs ds h h' => refSmSame_any X (by omega) X W cs ds h h'
        rw [Sm.same_refl] at E3
        clear ht5 hR5 hRs5 hs5 hr5 hRr5 hK5 q0 q1 hUw5 K0 hb0 hX hee
        obtain ⟨x0, x1, x2, x3⟩ := hB6.cells
        go_wp2_with fail
        refine (E1 _ _ hR6).mono ?_
        rintro e w7 ⟨f7, a7, len7, cap7, rfl, hR7, hU7⟩
        obtain ⟨w8, hw8⟩ : ∃ w8, w8 = w7.alloc (.cells #[.string (B f7), .slice a7 len7 cap7] 43) := ⟨_, rfl⟩
        have hUa : Upto none' w7 w8 := by rw [hw8]; exact (Upto.refl none' w7).alloc _
        have ha8 : Box2 w8 w7.heap.size (.string (B f7)) (.slice a7 len7 cap7) 43 := by rw [hw8]; exact Box2.at_new rfl
        have hRa8 := rep_pre (hR7.on hUa)
        have hU68 := hU7.and hUa
        have hB8 := hB6.kept hU68
        have hR8 := hR6.on hU68
        have hs8 := hs6.kept hU68
        have hRs8 := hRs6.on hU68
        have hr8 := hr6.kept hU68
        have hRr8 := hRr6.on hU68
        have hU8 := hU6.and hU68
        obtain ⟨Q, hQ⟩ : ∃ Q, Q = w7.heap.size := ⟨_, rfl⟩
        rw [← hQ] at ha8
        have HQ := hid hQ
        have HW8 := hid hw8
        clear hw8 hQ hUa hR7 hU7 hU68 hB6 hR6 hs6 hRs6 hr6 hRr6 hU6 x0 x1 x2 x3
        go_upto_region 6 with fail
        rw [← HQ.out, ← HW8.out]
        obtain ⟨x0, x1, x2, x3⟩ := hB8.cells
        go_wp2_with fail
        refine (E2 _ _ hR8).mono ?_
        rintro e w9 ⟨f9, a9, len9, cap9, rfl, hR9, hU9⟩
        obtain ⟨w10, hw10⟩ : ∃ w10, w10 = w9.alloc (.cells #[.string (B f9), .slice a9 len9 cap9] 43) := ⟨_, rfl⟩
        have hUa : Upto none' w9 w10 := by rw [hw10]; exact (Upto.refl none' w9).alloc _
        have hb10 : Box2 w10 w9.heap.size (.string (B f9)) (.slice a9 len9 cap9) 43 := by rw [hw10]; exact Box2.at_new rfl
        have hRb10 := rep_pre (hR9.on hUa)
        have hU810 := hU9.and hUa
        have ha10 := ha8.kept hU810
        have hRa10 := hRa8.on hU810
        have hB10 := hB8.kept hU810
        have hR10 := hR8.on hU810
        have hs10 := hs8.kept hU810
        have hRs10 := hRs8.on hU810
        have hr10 := hr8.kept hU810
        have hRr10 := hRr8.on hU810
        have hU10 := hU8.and hU810
        obtain ⟨Q2, hQ2⟩ : ∃ Q2, Q2 = w9.heap.size := ⟨_, rfl⟩
        rw [← hQ2] at hb10
        have HQ2 := hid hQ2
        have HW10 := hid hw10
        clear hw10 hQ2 hUa hR9 hU9 hU810 hB8 hR8 hs8 hRs8 hr8 hRr8 hU8 x0 x1 x2 x3 ha8 hRa8 E1 E2
        go_upto_region 7 with fail
        rw [← HQ2.out, ← HW10.out]
        obtain ⟨wf, hwf⟩ : ∃ x : Int, s.wf = x := ⟨_, rfl⟩
        have C1 := fun W cs h => smWf_any s (by omega) W cs h
        have C2 := fun W cs h => refSmWf_any s (by omega) W cs h
        rw [hwf] at C1 C2
        obtain ⟨sz, hsz'⟩ : ∃ x : Int, (s.size : Int) = x := ⟨_, rfl⟩
        have C3 := fun W cs h => smSize_any s (by omega) W cs h
        have C4 := fun W cs h => refSmSize_any s (by omega) W cs h
        rw [hsz'] at C3 C4
        obtain ⟨ov, hov⟩ : ∃ x : Int, (s.orderV : Int) = x := ⟨_, rfl⟩
        have C5 := fun W cs h => smOrder_any s (by omega) W cs h
        have C6 := fun W cs h => refSmOrder_any s (by omega) W cs h
        rw [hov] at C5 C6
        obtain ⟨bs, hbs⟩ : ∃ x : Bool, s.same r = x := ⟨_, rfl⟩
        have C7 := fun W cs ds h h' => smSame_any s (by omega) r W cs ds h h'
        have C8 := fun W cs ds h h' => refSmSame_any s (by omega) r W cs ds h h'
        rw [hbs] at C7 C8
        have C9 := fun W cs ds h h' => smSame_any s (by omega) s W cs ds h h'
        rw [Sm.same_refl] at C9
        obtain ⟨bf, hbf⟩ : ∃ x : Bool, u.fitsV s.args.length = x := ⟨_, rfl⟩
        have C11 := fun W cs ds h h' => fits_any u (by omega) s (by omega) W cs ds h h'
        have C12 := fun W cs ds h h' => refFits_any u (by omega) s (by omega) W cs ds h h'
        rw [hbf] at C11 C12
        have S10 : Fm7 w10 S R P Q Q2 _ _ _ _ _ _ _ _ _ _ _ _ w10 := ⟨hs10.cells, hr10.cells, hB10.cells, ha10.cells, hb10.cells, Upto.refl _ _⟩
        have Sd := S10.on (Upto.refl none' w10).drew
        clear S10 hwf hsz' hov hbs hbf hs10 hr10 hB10 ha10 hb10 hsz hswt hrsz hrwt hwu huz hez
        go_region_held3 (fun w' => Fm7 w10 S R P Q Q2 (.string (B f)) (.slice sa sl sc) (.string (B g)) (.slice ra rl rc) (.int .i64 k6) (.string (B nm6)) (.int .i64 i6) (.slice a6 len6 cap6) (.string (B f7)) (.slice a7 len7 cap7) (.string (B f9)) (.slice a9 len9 cap9) w') (first | assumption | exact Sd | exact Fm7.on (by assumption) (by assumption) | exact Fm7.on (by assumption) (Upto.refl none' _).drew | go_keep)
          (first
            | (go_at_call 30; refine (C1 _ _ (hRs10.on (Fm7.up (by assumption)))).mono ?_; rintro e w11 ⟨rfl, hU11⟩)
            | (go_at_call 31; refine (C2 _ _ (hRs10.on (Fm7.up (by assumption)))).mono ?_; rintro e w11 ⟨rfl, hU11⟩)
            | (go_at_call 32; refine (C3 _ _ (hRs10.on (Fm7.up (by assumption)))).mono ?_; rintro e w11 ⟨rfl, hU11⟩)
            | (go_at_call 33; refine (C4 _ _ (hRs10.on (Fm7.up (by assumption)))).mono ?_; rintro e w11 ⟨rfl, hU11⟩)
            | (go_at_call 34; refine (C5 _ _ (hRs10.on (Fm7.up (by assumption)))).mono ?_; rintro e w11 ⟨rfl, hU11⟩)
            | (go_at_call 35; refine (C6 _ _ (hRs10.on (Fm7.up (by assumption)))).mono ?_; rintro e w11 ⟨rfl, hU11⟩))
        go_wp2_with fail
        go_region_held3 (fun w' => Fm7 w10 S R P Q Q2 (.string (B f)) (.slice sa sl sc) (.string (B g)) (.slice ra rl rc) (.int .i64 k6) (.string (B nm6)) (.int .i64 i6) (.slice a6 len6 cap6) (.string (B f7)) (.slice a7 len7 cap7) (.string (B f9)) (.slice a9 len9 cap9) w') (first | assumption | exact Fm7.on (by assumption) (by assumption) | exact Fm7.on (by assumption) (Upto.refl none' _).drew | go_keep)
          (first
            | (go_at_call 36; (first | (with_reducible refine (C7 _ _ _ (hRs10.on (Fm7.up (by assumption))) (hRr10.on (Fm7.up (by assumption)))).mono ?_) | (with_reducible refine (C9 _ _ _ (hRs10.on (Fm7.up (by assumption))) (hRs10.on (Fm7.up (by assumption)))).mono ?_)); rintro e w12 ⟨rfl, hU12⟩)
            | (go_at_call 37; (with_reducible refine (C8 _ _ _ (hRs10.on (Fm7.up (by assumption))) (hRr10.on (Fm7.up (by assumption)))).mono ?_); rintro e w12 ⟨rfl, hU12⟩))
        go_wp2_with fail
        go_region_held3 (fun w' => Fm7 w10 S R P Q Q2 (.string (B f)) (.slice sa sl sc) (.string (B g)) (.slice ra rl rc) (.int .i64 k6) (.string (B nm6)) (.int .i64 i6) (.slice a6 len6 cap6) (.string (B f7)) (.slice a7 len7 cap7) (.string (B f9)) (.slice a9 len9 cap9) w') (first | assumption | exact Fm7.on (by assumption) (by assumption) | exact Fm7.on (by assumption) (Upto.refl none' _).drew | go_keep)
          (first
            | (go_at_call 37; (with_reducible refine (E3 _ _ _ (hRa10.on (Fm7.up (by assumption))) (hRb10.on (Fm7.up (by assumption)))).mono ?_); rintro e w13 ⟨rfl, hU13⟩)
            | (go_at_call 38; (with_reducible refine (C11 _ _ _ (hR10.on (Fm7.up (by assumption))) (hRs10.on (Fm7.up (by assumption)))).mono ?_); rintro e w13 ⟨rfl, hU13⟩)
            | (go_at_call 39; (with_reducible refine (C12 _ _ _ (hR10.on (Fm7.up (by assumption))) (hRs10.on (Fm7.up (by assumption)))).mono ?_); rintro e w13 ⟨rfl, hU13⟩)
            | (go_at_call 40; refine (awake07 _).mono ?_; rintro e w14 ⟨rfl, hU14⟩))
        go_wp2_with fail
        go_ret
        exact ⟨rfl, hU10.and (Fm7.up (by assumption))⟩
end Go.Proofs.YtnhmogmpbgadiaaDoor
