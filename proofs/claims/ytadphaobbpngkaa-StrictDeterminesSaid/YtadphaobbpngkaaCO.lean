/- strict.visit's closures. -/
import Derived.Test.YtadphaobbpngkaaCA
import Derived.Test.YtadphaobbpngkaaCF
import Derived.Test.YtadphaobbpngkaaCN
import Derived.Deep.CutRange
import Derived.Deep.RegionHeld3
import Derived.Deep.RegionLaw
import Derived.Defers
namespace Go.Proofs.Ytadphaobbpngkaa
open Go.RowKit Go.LF
/-- What a call of note does, in each world that goes on from w0 but for the block q, whose object tells what has come so far. -/
def NoteSays (w0 : World) (q n : Nat) (F : FuncId) (caps : List Value) (St : List Ev → Obj) : Prop :=
  ∀ (e : Ev) (done : List Ev) (W : World), 0 ≤ e.i → e.i < n → W.heap[q]? = some (St done) → Upto (fun x => x = q) w0 W →
    Calls Try.prog F (.int .i64 e.i :: .bool e.ins :: .bool e.pat :: caps).toArray W fun r W' => r = .returned (.tuple #[]) ∧ W'.heap[q]? = some (St (done ++ [e])) ∧ Upto (fun x => x = q) W W'
/-- The variables that the closures share. -/
structure Env (ks : List Int) (F : FuncId) (caps : List Value) (Bn SB Sv Wv Yv : Nat) (ka : Option Addr) (kc : Nat) (d : Int) (W : World) : Prop where
  sb : Box2 W SB (.slice ka ks.length kc) (.int .i64 d) 87
  sv : W.cell? ⟨Sv, 0, none⟩ = some (.pointer (some ⟨SB, 0, none⟩))
  wv : W.cell? ⟨Wv, 0, none⟩ = some (.func (.func 59) #[] #[.pointer (some ⟨Wv, 0, none⟩), .pointer (some ⟨Yv, 0, none⟩), .pointer (some ⟨Sv, 0, none⟩), .pointer (some ⟨Bn, 0, none⟩)])
  yv : W.cell? ⟨Yv, 0, none⟩ = some (.func (.func 57) #[] #[.pointer (some ⟨Sv, 0, none⟩), .pointer (some ⟨Wv, 0, none⟩)])
  bn : W.cell? ⟨Bn, 0, none⟩ = some (.func (.func F) #[] caps.toArray)
section
variable {ks : List Int} {F : FuncId} {caps : List Value} {Bn SB Sv Wv Yv : Nat} {ka : Option Addr} {kc : Nat} {d : Int} {W W' : World} {S : Nat → Prop}
theorem Env.keep (h : Env ks F caps Bn SB Sv Wv Yv ka kc d W) (hU : Upto S W W') (h0 : ¬ S SB) (h1 : ¬ S Sv) (h2 : ¬ S Wv) (h3 : ¬ S Yv) (h4 : ¬ S Bn) : Env ks F caps Bn SB Sv Wv Yv ka kc d W' :=
  ⟨h.sb.keep hU h0, hU.cell h.sv h1, hU.cell h.wv h2, hU.cell h.yv h3, hU.cell h.bn h4⟩
theorem Env.kept (h : Env ks F caps Bn SB Sv Wv Yv ka kc d W) (hU : Upto none' W W') : Env ks F caps Bn SB Sv Wv Yv ka kc d W' := h.keep hU (fun x => x) (fun x => x) (fun x => x) (fun x => x) (fun x => x)
end
/-- The blocks lie apart. -/
structure Apart (q Bn SB Sv Wv Yv : Nat) (w0 : World) : Prop where
  q : q < w0.heap.size
  bn : w0.heap.size ≤ Bn ∧ Bn ≠ SB
  sb : w0.heap.size ≤ SB
  sv : w0.heap.size ≤ Sv ∧ Sv ≠ SB
  wv : w0.heap.size ≤ Wv ∧ Wv ≠ SB
  yv : w0.heap.size ≤ Yv ∧ Yv ≠ SB
/-- What a call of a closure of visit leaves. -/
def Visited (q _SB : Nat) (St : List Ev → Obj) (done : List Ev) (w : World) (r : Ending) (w' : World) : Prop :=
  r = .returned (.tuple #[]) ∧ w'.heap[q]? = some (St done) ∧ Upto (fun x => x = q) w w'
theorem back_any (Sv SB : Nat) (d : Int) (hd0 : 0 ≤ d) (hd1 : d ≤ 1000000) (u : FrameMode) (w : World) (hs : w.cell? ⟨Sv, 0, none⟩ = some (.pointer (some ⟨SB, 0, none⟩))) (hc : w.cell? ⟨SB, 1, none⟩ = some (.int .i64 (d + 1))) (hz : w.frozen? ⟨SB, 1, none⟩ = false) :
    CallsD Try.prog 58 #[.pointer (some ⟨Sv, 0, none⟩)] u w fun e u' w' => u' = u ∧ (e = .returned (.tuple #[]) ∧ w' = w.setCell ⟨SB, 1, none⟩ (.int .i64 d)) := by
  have h1 : IntKind.i64.wrap (d + 1 - 1) = d := by rw [Go.IntWalk.i64_in _ (by omega)]; omega
  have h2 : d + 1 - 1 = d := by omega
  go_enter_d Try.func58, Try.ntmps58
  go_wp2
  go_end0
  exact ⟨rfl, rfl⟩
theorem upto_back {w w4 : World} {q SB : Nat} {c0 c1 : Value} {T : TypeId} (h : Upto (fun x => x = q ∨ x = SB) w w4) (h0 : Box2 w SB c0 c1 T) (h4 : Box2 w4 SB c0 c1 T) : Upto (fun x => x = q) w w4 := by
  refine ⟨h.os, h.tape, h.output, h.size, fun k hk hn => ?_⟩
  by_cases e : k = SB
  · subst e; exact (show w4.heap[k]? = _ from h4).trans (show w.heap[k]? = _ from h0).symm
  · exact h.block k hk (fun x => x.elim hn e)
set_option maxRecDepth 100000 in
set_option maxHeartbeats 4000000 in
theorem within_any {ks : List Int} {F : FuncId} {caps : List Value} {q Bn SB Sv Wv Yv : Nat} {ka : Option Addr} {kc : Nat} {w0 : World} (hA : Apart q Bn SB Sv Wv Yv w0) {St : List Ev → Obj} (t : Tm) (cs : List Value) (ins : Bool) (done done' : List Ev) (w : World) (d : Int) (hd0 : 0 ≤ d) (hd1 : d ≤ 500000)
    (hE : Env ks F caps Bn SB Sv Wv Yv ka kc d w) (hq : w.heap[q]? = some (St done)) (hR : Rep (fun x => x = q ∨ x = SB) w t.dat cs)
    (H : ∀ W, Env ks F caps Bn SB Sv Wv Yv ka kc (d + 1) W → W.heap[q]? = some (St done) → Upto (fun x => x = q ∨ x = SB) w W →
      Calls Try.prog 59 #[.agg cs.toArray, .bool ins, .pointer (some ⟨Wv, 0, none⟩), .pointer (some ⟨Yv, 0, none⟩), .pointer (some ⟨Sv, 0, none⟩), .pointer (some ⟨Bn, 0, none⟩)] W (Visited q SB St done' W)) :
    Calls Try.prog 57 #[.agg cs.toArray, .bool ins, .pointer (some ⟨Sv, 0, none⟩), .pointer (some ⟨Wv, 0, none⟩)] w (Visited q SB St done' w) := by
  obtain ⟨k, n, i, ts, a, cap, ht, rfl, hcap, _⟩ := tm_open hR
  generalize ts.length = len at *
  have hmf : ∀ (fn : Fn) (first cap : Array Value) (w : World), (Instr.makeFunc fn first cap).run Try.prog w = .ok (.func fn first cap) w := fun _ _ _ _ => rfl
  have hwr : IntKind.i64.wrap (d + 1) = d + 1 := Go.IntWalk.i64_in _ (by omega)
  have hqlt : q < w.heap.size := (Array.getElem?_eq_some_iff.1 hq).1
  have hSlt := hE.sb.lt
  have hqS : ¬ q = SB := by have := hA.q; have := hA.sb; omega
  have hEa := hE.kept ((Upto.refl none' w).alloc (.cells #[.int .i64 k, .string (B n), .int .i64 i, .slice a len cap] 32))
  have c0 := hEa.sv
  have c1 := hEa.sb.cells
  have f1 := hEa.sb.frozens
  have hset : Upto (fun x => x = SB) w (w.setCell ⟨SB, 1, none⟩ (.int .i64 (d + 1))) := Upto.set (Upto.refl _ w) 1 _
  have hE1 : Env ks F caps Bn SB Sv Wv Yv ka kc (d + 1) (w.setCell ⟨SB, 1, none⟩ (.int .i64 (d + 1))) :=
    ⟨hE.sb.set1 _, hset.cell hE.sv hA.sv.2, hset.cell hE.wv hA.wv.2, hset.cell hE.yv hA.yv.2, hset.cell hE.bn hA.bn.2⟩
  have hq1 := (hset.block q hqlt hqS).trans hq
  have hz1 : (w.setCell ⟨SB, 1, none⟩ (.int .i64 (d + 1))).heap.size = w.heap.size := by simp
  obtain ⟨w2, hw2⟩ : ∃ w2, w2 = (w.setCell ⟨SB, 1, none⟩ (.int .i64 (d + 1))).alloc (.cells #[.int .i64 k, .string (B n), .int .i64 i, .slice a len cap] 32) := ⟨_, rfl⟩
  have hU2 : Upto none' (w.setCell ⟨SB, 1, none⟩ (.int .i64 (d + 1))) w2 := by rw [hw2]; exact (Upto.refl none' _).alloc _
  have hE2 := hE1.kept hU2
  have hq2 := (hU2.block q (by omega) (fun x => x)).trans hq1
  have hUw2 : Upto (fun x => x = q ∨ x = SB) w w2 := (hset.mono (fun _ _ e => .inr e)).trans hU2 (fun _ _ x => x.elim)
  have e1 := hE2.wv
  have HC := H _ hE2 hq2 hUw2
  have HW := hid hw2
  rw [hw2] at e1
  clear H hw2 hset hq2 hE1 hq1 hR hz1 hU2 hEa
  go_enter_defers Try.func57, Try.ntmps57
  go_wp2_with fail
  rw [← HW.out]
  refine HC.mono ?_
  rintro e w3 ⟨rfl, hq3, hU3⟩
  have hE3 := hE2.keep hU3 (fun e => hqS e.symm) (by have := hA.sv; have := hA.q; omega) (by have := hA.wv; have := hA.q; omega) (by have := hA.yv; have := hA.q; omega) (by have := hA.bn; have := hA.q; omega)
  go_wp2_with fail
  refine leaves_cons (f := 58) (args := #[.pointer (some ⟨Sv, 0, none⟩)]) (by simp) (by simp [go_sem]) ?_
  refine (back_any Sv SB d hd0 (by omega) .returning w3 hE3.sv hE3.sb.cells.2 hE3.sb.frozens.2).mono ?_
  rintro e u' w4 ⟨rfl, rfl, rfl⟩
  have hset4 : Upto (fun x => x = SB) w3 (w3.setCell ⟨SB, 1, none⟩ (.int .i64 d)) := Upto.set (Upto.refl _ w3) 1 _
  have hq4 := (hset4.block q (Array.getElem?_eq_some_iff.1 hq3).1 hqS).trans hq3
  have hU4 : Upto (fun x => x = q ∨ x = SB) w (w3.setCell ⟨SB, 1, none⟩ (.int .i64 d)) := (hUw2.trans hU3 (fun _ _ e => .inl e)).trans hset4 (fun _ _ e => .inr e)
  refine ⟨_, results_none rfl _ _ _, rfl, hq4, upto_back hU4 hE.sb (hE3.sb.set1 _)⟩
end Go.Proofs.Ytadphaobbpngkaa
namespace Go.Proofs.Ytadphaobbpngkaa
open Go.RowKit Go.LF
theorem kd_flx {ks : List Int} {d i : Int} : (kd ks d i == 1) = flx ks d 5 i := by
  unfold kd flx
  by_cases h : i < d
  · rw [if_pos h]
    have : ¬ d ≤ i := by omega
    simp [this]
  · rw [if_neg h]
    have : d ≤ i := by omega
    simp [this]
theorem evs_pi (ks : List Int) (d : Int) (ins : Bool) (n : List UInt8) (i : Int) (x y : Tm) : Tm.evs ks d ins (.mk 2 n i [x, y]) = x.evs ks d ins ++ y.evs ks (d + 1) ins := by
  rw [Tm.evs_mk]
  simp [Tm.evsA, flx, Tm.under]
theorem evs_lam (ks : List Int) (d : Int) (ins : Bool) (n : List UInt8) (i : Int) (x : Tm) : Tm.evs ks d ins (.mk 3 n i [x]) = x.evs ks (d + 1) ins := by
  rw [Tm.evs_mk]
  simp [Tm.evsA, flx, Tm.under]
/-- What is asked of a world in which the walk is called. -/
structure Asked (ks : List Int) (F : FuncId) (caps : List Value) (q Bn SB Sv Wv Yv : Nat) (ka : Option Addr) (kc : Nat) (w0 : World) (d : Int) (o : Obj) (W : World) : Prop where
  env : Env ks F caps Bn SB Sv Wv Yv ka kc d W
  obj : W.heap[q]? = some o
  kin : RepE (fun x => x = q ∨ x = SB) W 1 (ks.map (Dat.int .i64)) ka 0
  far : Upto (fun x => x = q) w0 W
section
variable {ks : List Int} {F : FuncId} {caps : List Value} {q Bn SB Sv Wv Yv : Nat} {ka : Option Addr} {kc : Nat} {w0 : World} {d : Int} {o o' : Obj} {W W' : World}
theorem Apart.ne (h : Apart q Bn SB Sv Wv Yv w0) : ¬ SB = q ∧ ¬ Sv = q ∧ ¬ Wv = q ∧ ¬ Yv = q ∧ ¬ Bn = q := by
  have := h.q; have := h.bn; have := h.sb; have := h.sv; have := h.wv; have := h.yv; omega
theorem Asked.on (h : Asked ks F caps q Bn SB Sv Wv Yv ka kc w0 d o W) (hU : Upto none' W W') : Asked ks F caps q Bn SB Sv Wv Yv ka kc w0 d o W' :=
  ⟨h.env.kept hU, (hU.block q (Array.getElem?_eq_some_iff.1 h.obj).1 (fun x => x)).trans h.obj, h.kin.on hU, h.far.trans hU (fun _ _ x => x.elim)⟩
theorem Asked.next (h : Asked ks F caps q Bn SB Sv Wv Yv ka kc w0 d o W) (hA : Apart q Bn SB Sv Wv Yv w0) (hU : Upto (fun x => x = q) W W') (ho : W'.heap[q]? = some o') : Asked ks F caps q Bn SB Sv Wv Yv ka kc w0 d o' W' :=
  ⟨h.env.keep hU hA.ne.1 hA.ne.2.1 hA.ne.2.2.1 hA.ne.2.2.2.1 hA.ne.2.2.2.2, ho, RepE.keep hU (fun _ e => .inl e) _ _ _ _ h.kin, h.far.trans hU (fun _ _ x => x)⟩
theorem Asked.deeper (h : Asked ks F caps q Bn SB Sv Wv Yv ka kc w0 d o W) (hA : Apart q Bn SB Sv Wv Yv w0) {d' : Int} (hE : Env ks F caps Bn SB Sv Wv Yv ka kc d' W') (hU : Upto (fun x => x = q ∨ x = SB) W W') (ho : W'.heap[q]? = some o') : Asked ks F caps q Bn SB Sv Wv Yv ka kc w0 d' o' W' := by
  refine ⟨hE, ho, RepE.keep hU (fun _ e => e) _ _ _ _ h.kin, ⟨hU.os.trans h.far.os, hU.tape.trans h.far.tape, hU.output.trans h.far.output, Nat.le_trans h.far.size hU.size, fun k hk hn => ?_⟩⟩
  exact (hU.block k (Nat.lt_of_lt_of_le hk h.far.size) (fun e => e.elim hn (fun e => by have := hA.sb; omega))).trans (h.far.block k hk hn)
end
set_option maxRecDepth 100000 in
set_option maxHeartbeats 8000000 in
/-- A Pi. -/
theorem walkPi_any {ks : List Int} {F : FuncId} {caps : List Value} {q Bn SB Sv Wv Yv : Nat} {ka : Option Addr} {kc : Nat} {w0 : World} (hA : Apart q Bn SB Sv Wv Yv w0) {St : List Ev → Obj} (n : List UInt8) (i : Int) (x y : Tm) (a : Option Addr) (cap : Nat) (d : Int) (_hd0 : 0 ≤ d) (_hd1 : d ≤ 400000) (ins : Bool)
    (IH1 : ∀ (done : List Ev) (W : World) (cs : List Value), Asked ks F caps q Bn SB Sv Wv Yv ka kc w0 d (St done) W → Rep (fun x => x = q ∨ x = SB) W x.dat cs →
      Calls Try.prog 59 #[.agg cs.toArray, .bool ins, .pointer (some ⟨Wv, 0, none⟩), .pointer (some ⟨Yv, 0, none⟩), .pointer (some ⟨Sv, 0, none⟩), .pointer (some ⟨Bn, 0, none⟩)] W (Visited q SB St (done ++ x.evs ks d ins) W))
    (IH2 : ∀ (done : List Ev) (W : World) (cs : List Value), Asked ks F caps q Bn SB Sv Wv Yv ka kc w0 d (St done) W → Rep (fun x => x = q ∨ x = SB) W y.dat cs →
      Calls Try.prog 57 #[.agg cs.toArray, .bool ins, .pointer (some ⟨Sv, 0, none⟩), .pointer (some ⟨Wv, 0, none⟩)] W (Visited q SB St (done ++ y.evs ks (d + 1) ins) W))
    (done : List Ev) (w : World) (hS : Asked ks F caps q Bn SB Sv Wv Yv ka kc w0 d (St done) w) (hE : RepE (fun x => x = q ∨ x = SB) w 4 ([x, y].map Tm.dat) a 0) :
    Calls Try.prog 59 #[.agg #[.int .i64 2, .string (B n), .int .i64 i, .slice a 2 cap], .bool ins, .pointer (some ⟨Wv, 0, none⟩), .pointer (some ⟨Yv, 0, none⟩), .pointer (some ⟨Sv, 0, none⟩), .pointer (some ⟨Bn, 0, none⟩)] w
      (Visited q SB St (done ++ (Tm.mk 2 n i [x, y]).evs ks d ins) w) := by
  rw [evs_pi, ← List.append_assoc]
  obtain ⟨w1, hw1⟩ : ∃ w1, w1 = w.alloc (.cells #[.int .i64 2, .string (B n), .int .i64 i, .slice a 2 cap] 32) := ⟨_, rfl⟩
  have hU1 : Upto none' w w1 := by rw [hw1]; exact (Upto.refl none' w).alloc _
  have hB1 : Box4 w1 w.heap.size (.int .i64 2) (.string (B n)) (.int .i64 i) (.slice a 2 cap) 32 := by rw [hw1]; exact Box4.at_new rfl
  have hS1 := hS.on hU1
  have hE1 := hE.on hU1
  obtain ⟨gb, go', k1, n1, x1, s1, c1, rfl, hgl, hgO, g0, g1, g2, g3, hR1⟩ := @arg_tm _ _ [x, y] _ hE1 0 (by simp)
  obtain ⟨_, _, k2, n2, x2, s2, c2, e, _, _, p0, p1, p2, p3, hR2⟩ := @arg_tm _ _ [x, y] _ hE1 1 (by simp)
  cases e
  simp only [List.getElem_cons_zero, List.getElem_cons_succ, Nat.zero_mul, Nat.one_mul, Nat.add_zero] at g0 g1 g2 g3 hR1 p0 p1 p2 p3 hR2
  generalize x.args.length = xl at *
  generalize y.args.length = yl at *
  obtain ⟨b0, b1, b2, b3⟩ := hB1.cells
  have hHq : ¬ w.heap.size = q := by have := (Array.getElem?_eq_some_iff.1 hS.obj).1; omega
  have hgq : ¬ gb = q := fun e => hgO (.inl e)
  have e0 := hS1.env.wv
  have HW := hid hw1
  have hd : Upto none' w1 w1.drew := (Upto.refl none' w1).drew
  obtain ⟨n0, n1', n2', n3', n4'⟩ := hA.ne
  clear hw1 hS hE hE1
  obtain ⟨H, hH⟩ : ∃ H, H = w.heap.size := ⟨_, rfl⟩
  rw [← hH] at hB1 b0 b1 b2 b3 hHq
  have HH := hid hH
  clear hH
  go_enter Try.func59, Try.ntmps59
  go_wp2_with fail
  rw [← HW.out, ← HH.out]
  go_region_held3 (fun w' => w'.cell? ⟨Wv, 0, none⟩ = some (.func (.func 59) #[] #[.pointer (some ⟨Wv, 0, none⟩), .pointer (some ⟨Yv, 0, none⟩), .pointer (some ⟨Sv, 0, none⟩), .pointer (some ⟨Bn, 0, none⟩)]) ∧ w'.cell? ⟨H, 3, none⟩ = some (.slice (some ⟨gb, go', none⟩) 2 cap) ∧
      w'.cell? ⟨gb, go', none⟩ = some (.int .i64 k1) ∧ w'.cell? ⟨gb, go' + 1, none⟩ = some (.string (B n1)) ∧ w'.cell? ⟨gb, go' + 2, none⟩ = some (.int .i64 x1) ∧ w'.cell? ⟨gb, go' + 3, none⟩ = some (.slice s1 xl c1))
    (first | go_keep | (exact ⟨hU5.cell e0 n2', hU5.cell b3 hHq, hU5.cell g0 hgq, hU5.cell g1 hgq, hU5.cell g2 hgq, hU5.cell g3 hgq⟩))
    ((go_at_call 59; refine (IH1 done _ _ (hS1.on hd) (hR1.on hd)).mono ?_; rintro e w5 ⟨rfl, hq5, hU5'⟩; have hU5 : Upto (fun x => x = q) w1 w5 := upto_then hd hU5'))
  have hS5 := hS1.next hA hU5 hq5
  have hB5 := hB1.keep hU5 hHq
  have hR5 := Rep.keep hU5 (fun _ e => .inl e) _ _ hR2
  clear b0 b1 b2 b3 e0 g0 g1 g2 g3 hU5'
  obtain ⟨b0, b1, b2, b3⟩ := hB5.cells
  have e0 := hS5.env.yv
  have y0 := hU5.cell p0 hgq
  have y1 := hU5.cell p1 hgq
  have y2 := hU5.cell p2 hgq
  have y3 := hU5.cell p3 hgq
  have hd5 : Upto none' w5 w5.drew := (Upto.refl none' w5).drew
  go_wp2_with fail
  go_region_held3 (fun w' => w'.cell? ⟨Yv, 0, none⟩ = some (.func (.func 57) #[] #[.pointer (some ⟨Sv, 0, none⟩), .pointer (some ⟨Wv, 0, none⟩)]) ∧ w'.cell? ⟨H, 3, none⟩ = some (.slice (some ⟨gb, go', none⟩) 2 cap) ∧
      w'.cell? ⟨gb, go' + 4, none⟩ = some (.int .i64 k2) ∧ w'.cell? ⟨gb, go' + 4 + 1, none⟩ = some (.string (B n2)) ∧ w'.cell? ⟨gb, go' + 4 + 2, none⟩ = some (.int .i64 x2) ∧ w'.cell? ⟨gb, go' + 4 + 3, none⟩ = some (.slice s2 yl c2))
    (first | go_keep | (exact ⟨hU6.cell e0 n3', hU6.cell b3 hHq, hU6.cell y0 hgq, hU6.cell y1 hgq, hU6.cell y2 hgq, hU6.cell y3 hgq⟩))
    ((go_at_call 57; refine (IH2 _ _ _ (hS5.on hd5) (hR5.on hd5)).mono ?_; rintro e w6 ⟨rfl, hq6, hU6'⟩; have hU6 : Upto (fun x => x = q) w5 w6 := upto_then hd5 hU6'))
  go_wp2_with fail
  refine bodyPost_ret (results_none rfl _ _ _) rfl ?_
  exact ⟨rfl, hq6, upto_then hU1 (hU5.trans hU6 (fun _ _ x => x))⟩
set_option maxRecDepth 100000 in
set_option maxHeartbeats 8000000 in
/-- A Lam. -/
theorem walkLam_any {ks : List Int} {F : FuncId} {caps : List Value} {q Bn SB Sv Wv Yv : Nat} {ka : Option Addr} {kc : Nat} {w0 : World} (hA : Apart q Bn SB Sv Wv Yv w0) {St : List Ev → Obj} (n : List UInt8) (i : Int) (x : Tm) (a : Option Addr) (cap : Nat) (d : Int) (_hd0 : 0 ≤ d) (_hd1 : d ≤ 400000) (ins : Bool)
    (IH2 : ∀ (done : List Ev) (W : World) (cs : List Value), Asked ks F caps q Bn SB Sv Wv Yv ka kc w0 d (St done) W → Rep (fun x => x = q ∨ x = SB) W x.dat cs →
      Calls Try.prog 57 #[.agg cs.toArray, .bool ins, .pointer (some ⟨Sv, 0, none⟩), .pointer (some ⟨Wv, 0, none⟩)] W (Visited q SB St (done ++ x.evs ks (d + 1) ins) W))
    (done : List Ev) (w : World) (hS : Asked ks F caps q Bn SB Sv Wv Yv ka kc w0 d (St done) w) (hE : RepE (fun x => x = q ∨ x = SB) w 4 ([x].map Tm.dat) a 0) :
    Calls Try.prog 59 #[.agg #[.int .i64 3, .string (B n), .int .i64 i, .slice a 1 cap], .bool ins, .pointer (some ⟨Wv, 0, none⟩), .pointer (some ⟨Yv, 0, none⟩), .pointer (some ⟨Sv, 0, none⟩), .pointer (some ⟨Bn, 0, none⟩)] w
      (Visited q SB St (done ++ (Tm.mk 3 n i [x]).evs ks d ins) w) := by
  rw [evs_lam]
  obtain ⟨w1, hw1⟩ : ∃ w1, w1 = w.alloc (.cells #[.int .i64 3, .string (B n), .int .i64 i, .slice a 1 cap] 32) := ⟨_, rfl⟩
  have hU1 : Upto none' w w1 := by rw [hw1]; exact (Upto.refl none' w).alloc _
  have hB1 : Box4 w1 w.heap.size (.int .i64 3) (.string (B n)) (.int .i64 i) (.slice a 1 cap) 32 := by rw [hw1]; exact Box4.at_new rfl
  have hS1 := hS.on hU1
  have hE1 := hE.on hU1
  obtain ⟨gb, go', k1, n1, x1, s1, c1, rfl, hgl, hgO, g0, g1, g2, g3, hR1⟩ := @arg_tm _ _ [x] _ hE1 0 (by simp)
  simp only [List.getElem_cons_zero, Nat.zero_mul, Nat.add_zero] at g0 g1 g2 g3 hR1
  generalize x.args.length = xl at *
  obtain ⟨b0, b1, b2, b3⟩ := hB1.cells
  have hHq : ¬ w.heap.size = q := by have := (Array.getElem?_eq_some_iff.1 hS.obj).1; omega
  have hgq : ¬ gb = q := fun e => hgO (.inl e)
  have e0 := hS1.env.yv
  have HW := hid hw1
  have hd : Upto none' w1 w1.drew := (Upto.refl none' w1).drew
  obtain ⟨n0, n1', n2', n3', n4'⟩ := hA.ne
  clear hw1 hS hE hE1
  obtain ⟨H, hH⟩ : ∃ H, H = w.heap.size := ⟨_, rfl⟩
  rw [← hH] at hB1 b0 b1 b2 b3 hHq
  have HH := hid hH
  clear hH
  go_enter Try.func59, Try.ntmps59
  go_wp2_with fail
  rw [← HW.out, ← HH.out]
  go_region_held3 (fun w' => w'.cell? ⟨Yv, 0, none⟩ = some (.func (.func 57) #[] #[.pointer (some ⟨Sv, 0, none⟩), .pointer (some ⟨Wv, 0, none⟩)]) ∧ w'.cell? ⟨H, 3, none⟩ = some (.slice (some ⟨gb, go', none⟩) 1 cap) ∧
      w'.cell? ⟨gb, go', none⟩ = some (.int .i64 k1) ∧ w'.cell? ⟨gb, go' + 1, none⟩ = some (.string (B n1)) ∧ w'.cell? ⟨gb, go' + 2, none⟩ = some (.int .i64 x1) ∧ w'.cell? ⟨gb, go' + 3, none⟩ = some (.slice s1 xl c1))
    (first | go_keep | (exact ⟨hU5.cell e0 n3', hU5.cell b3 hHq, hU5.cell g0 hgq, hU5.cell g1 hgq, hU5.cell g2 hgq, hU5.cell g3 hgq⟩))
    ((go_at_call 57; refine (IH2 done _ _ (hS1.on hd) (hR1.on hd)).mono ?_; rintro e w5 ⟨rfl, hq5, hU5'⟩; have hU5 : Upto (fun x => x = q) w1 w5 := upto_then hd hU5'))
  go_wp2_with fail
  refine bodyPost_ret (results_none rfl _ _ _) rfl ?_
  exact ⟨rfl, hq5, upto_then hU1 hU5⟩
set_option maxRecDepth 100000 in
set_option maxHeartbeats 16000000 in
/-- Any other node. -/
theorem walkNode_any {ks : List Int} (hk : ks.length ≤ 1000000) {F : FuncId} {caps : List Value} {q Bn SB Sv Wv Yv : Nat} {ka : Option Addr} {kc : Nat} {w0 : World} (hA : Apart q Bn SB Sv Wv Yv w0) {St : List Ev → Obj} (hN : NoteSays w0 q ks.length F caps St)
    (hFE : ∀ args w, Sem.run Try.prog (callFunc F args) w = .ok (Next.enter F args) w) (k : Int) (h2 : (k == 2) = false) (h3 : (k == 3) = false) (n : List UInt8) (i : Int) (ts : List Tm) (hi : k = 5 → (∀ t ∈ ts, t.isObj = true) ∧ 0 ≤ i ∧ i ≤ 1048576) (hwt : Tm.wts ts ≤ 100000) (a : Option Addr) (cap : Nat) (d : Int) (hd0 : 0 ≤ d) (hd1 : d ≤ 400000) (ins : Bool)
    (IH : ∀ (j : Nat) (h : j < ts.length) (ins' : Bool) (done : List Ev) (W : World) (cs : List Value), Asked ks F caps q Bn SB Sv Wv Yv ka kc w0 d (St done) W → Rep (fun x => x = q ∨ x = SB) W ts[j].dat cs →
      Calls Try.prog 59 #[.agg cs.toArray, .bool ins', .pointer (some ⟨Wv, 0, none⟩), .pointer (some ⟨Yv, 0, none⟩), .pointer (some ⟨Sv, 0, none⟩), .pointer (some ⟨Bn, 0, none⟩)] W (Visited q SB St (done ++ ts[j].evs ks d ins') W))
    (done : List Ev) (w : World) (hS : Asked ks F caps q Bn SB Sv Wv Yv ka kc w0 d (St done) w) (hE : RepE (fun x => x = q ∨ x = SB) w 4 (ts.map Tm.dat) a 0) :
    Calls Try.prog 59 #[.agg #[.int .i64 k, .string (B n), .int .i64 i, .slice a ts.length cap], .bool ins, .pointer (some ⟨Wv, 0, none⟩), .pointer (some ⟨Yv, 0, none⟩), .pointer (some ⟨Sv, 0, none⟩), .pointer (some ⟨Bn, 0, none⟩)] w
      (Visited q SB St (done ++ (Tm.mk k n i ts).evs ks d ins) w) := by
  have hlen : ts.length ≤ 100000 := by have := Tm.length_le_sizes ts; have := Tm.sizes_le_wts ts; omega
  obtain ⟨R, hR⟩ : ∃ R, R = done ++ (Tm.mk k n i ts).evs ks d ins := ⟨_, rfl⟩
  rw [← hR]
  rw [Tm.evs_mk] at hR
  obtain ⟨w1, hw1⟩ : ∃ w1, w1 = w.alloc (.cells #[.int .i64 k, .string (B n), .int .i64 i, .slice a ts.length cap] 32) := ⟨_, rfl⟩
  have hU1 : Upto none' w w1 := by rw [hw1]; exact (Upto.refl none' w).alloc _
  have hB1 : Box4 w1 w.heap.size (.int .i64 k) (.string (B n)) (.int .i64 i) (.slice a ts.length cap) 32 := by rw [hw1]; exact Box4.at_new rfl
  have hS1 := hS.on hU1
  have hE1 := hE.on hU1
  obtain ⟨b0, b1, b2, b3⟩ := hB1.cells
  have hHq : ¬ w.heap.size = q := by have := (Array.getElem?_eq_some_iff.1 hS.obj).1; omega
  have e0 := hS1.env.sv
  have e1 := hS1.env.sb.cells
  have e0w := e0
  rw [hw1] at e0w
  have HW := hid hw1
  obtain ⟨n0, n1', n2', n3', n4'⟩ := hA.ne
  obtain ⟨H, hH⟩ : ∃ H, H = w.heap.size := ⟨_, rfl⟩
  rw [← hH] at hB1 b0 b1 b2 b3 hHq
  have HH := hid hH
  have hund : ∀ j, Tm.under k j = 0 := fun j => by
    unfold Tm.under
    rw [if_neg]
    simp at h2 h3
    omega
  have HUN := hid hund
  obtain ⟨fb, hfb⟩ : ∃ fb, fb = flx ks d k i := ⟨_, rfl⟩
  rw [← hfb] at hR
  have HR := hid hR
  clear hR hund hH hw1 hS hE
  have hways : ((k == 5) = false ∧ fb = false) ∨ (k = 5 ∧ fb = flx ks d 5 i) := by
    by_cases h5 : k = 5
    · exact .inr ⟨h5, by rw [hfb, h5]⟩
    · exact .inl ⟨by simpa using h5, by rw [hfb]; simp [flx, h5]⟩
  clear hfb
  rcases hways with ⟨h5, rfl⟩ | ⟨rfl, hfb⟩
  case' inl =>
    go_enter Try.func59, Try.ntmps59
    go_wp2_with fail
    rw [← HW.out, ← HH.out]
    obtain ⟨w3, hw3⟩ : ∃ w3, w3 = w1 := ⟨_, rfl⟩
    have hq3 : w3.heap[q]? = some (St (done ++ [])) := by rw [hw3, List.append_nil]; exact hS1.obj
    have hU3 : Upto (fun x => x = q) w1 w3 := by rw [hw3]; exact Upto.refl _ _
    have HR2 := hid (show R = (done ++ []) ++ Tm.evsA ks d k 0 ins ts by rw [HR.out]; simp)
    generalize done ++ [] = done1 at *
    rw [← hw3]
    clear hw3 b0 b1 b2 b3 e0 e1
  case' inr =>
    obtain ⟨ho, hi0, hi1⟩ := hi rfl
    clear hi
    have HK := kind_any' ks hk d i hd0 (by omega) hi0 (by omega) SB ka kc w1 e1.1 e1.2 hS1.kin
    have hkd : (kd ks d i == 1) = fb := by rw [kd_flx, hfb]
    have hfx := hfb
    generalize kd ks d i = x at *
    have HFX := hid hfx
    clear hfb hfx
    cases fb
    case' false =>
      go_enter Try.func59, Try.ntmps59
      go_wp2_with fail
      rw [← HW.out, ← HH.out]
      go_wp2_with fail
      refine HK.mono ?_
      rintro e w1' ⟨rfl, rfl⟩
      go_wp2_with fail
      obtain ⟨w3, hw3⟩ : ∃ w3, w3 = w1 := ⟨_, rfl⟩
      have hq3 : w3.heap[q]? = some (St (done ++ [])) := by rw [hw3, List.append_nil]; exact hS1.obj
      have hU3 : Upto (fun x => x = q) w1 w3 := by rw [hw3]; exact Upto.refl _ _
      have HR2 := hid (show R = (done ++ []) ++ Tm.evsA ks d 5 0 ins ts by rw [HR.out]; simp)
      generalize done ++ [] = done1 at *
      rw [← hw3]
      clear hw3 b0 b1 b2 b3 e0 e1
    case' true =>
      have hev := HFX.out
      have hev2 : d ≤ i ∧ i - d < ks.length := by
        have h := hev.symm
        simp only [flx, Bool.and_eq_true, beq_iff_eq, decide_eq_true_eq] at h
        refine ⟨h.2.1, ?_⟩
        by_cases hlt : i - d < ks.length
        · exact hlt
        · have := kof_far (ks := ks) (i := i - d) (.inr (by omega)); omega
      have hwi : IntKind.i64.wrap (i - d) = i - d := Go.IntWalk.i64_in _ (by omega)
      have HP := fun w' (hU : Upto none' w1 w') => pattern_any ks hk d hd0 (by omega) SB ka kc ts hwt ho a cap w' (hU.cell e1.1 (fun x => x)) (hU.cell e1.2 (fun x => x)) (hS1.kin.on hU) (RepE.weaken (fun _ _ x => x.elim) _ _ _ _ (hE1.on hU))
      obtain ⟨pb, hpb⟩ : ∃ pb, pb = spn ks d [] ts := ⟨_, rfl⟩
      rw [← hpb] at HP
      have HNO := fun w' (hU : Upto none' w1 w') => hN ⟨i - d, ins, pb⟩ done w' (by simp only; omega) (by simp only; omega) ((hS1.on hU).obj) ((hS1.on hU).far)
      have HPB := hid hpb
      have hd : Upto none' w1 w1.drew := (Upto.refl none' w1).drew
      have ebn := hS1.env.bn
      clear hpb hev hev2
      go_enter Try.func59, Try.ntmps59
      go_wp2_with fail
      rw [← HW.out, ← HH.out]
      go_wp2_with fail
      refine HK.mono ?_
      rintro e w1' ⟨rfl, rfl⟩
      go_wp2_with fail
      go_region_held3 (fun w' => w'.cell? ⟨Bn, 0, none⟩ = some (.func (.func F) #[] caps.toArray) ∧ w'.cell? ⟨H, 2, none⟩ = some (.int .i64 i) ∧ w'.cell? ⟨Sv, 0, none⟩ = some (.pointer (some ⟨SB, 0, none⟩)) ∧ w'.cell? ⟨SB, 1, none⟩ = some (.int .i64 d) ∧ w'.cell? ⟨H, 3, none⟩ = some (.slice a ts.length cap))
        (first | go_keep | (exact ⟨hU6.cell ebn n4', hU6.cell b2 hHq, hU6.cell e0 n1', hU6.cell e1.2 n0, hU6.cell b3 hHq⟩) | (exact ⟨hU5.cell ebn (fun x => x), hU5.cell b2 (fun x => x), hU5.cell e0 (fun x => x), hU5.cell e1.2 (fun x => x), hU5.cell b3 (fun x => x)⟩))
        (first
          | ((go_at_call 61); refine (HP _ hd).mono ?_; rintro e w5 ⟨rfl, hU5'⟩; have hU5 : Upto none' w1 w5 := hd.and hU5'; have HNN := HNO w5 hU5)
          | (refine HNN.mono ?_; rintro e w6 ⟨rfl, hq6, hU6'⟩; have hU6 : Upto (fun x => x = q) w1 w6 := upto_then hU5 hU6'))
      go_wp2_with fail
      obtain ⟨w3, rfl⟩ : ∃ w3, w3 = w6 := ⟨w6, rfl⟩
      have hq3 := hq6
      have hU3 := hU6
      have HR2 := hid (show R = (done ++ [⟨i - d, ins, pb⟩]) ++ Tm.evsA ks d 5 0 true ts by rw [HR.out, HPB.out]; simp)
      generalize done ++ [⟨i - d, ins, pb⟩] = done1 at *
      have hRe : ∃ ins', ins' = true := ⟨_, rfl⟩
      clear HNO HNN HP hU5 hU5' hU6 hU6' hq6 hd ebn hwi b0 b1 b2 b3 e0 e1
  case inl =>
    have hUw3 := upto_then hU1 hU3
    have hS3 := hS1.next hA hU3 hq3
    have hE3 : RepE (fun x => x = q ∨ x = SB) w3 4 (ts.map Tm.dat) a 0 := RepE.keep hU3 (fun _ e => .inl e) _ _ _ _ hE1
    have hB3 := hB1.keep hU3 hHq
    obtain ⟨b0, b1, b2, b3⟩ := hB3.cells
    clear hS1 hE1 hB1 hU3 hq3
    go_wp2_with fail
    clear b0 b1 b2 b3
    go_loopw [61] (fun v wr => ∃ j : Nat, v = .int .i64 j ∧ j ≤ ts.length ∧ wr.heap[q]? = some (St (done1 ++ Tm.evsA ks d k 0 ins (ts.take j))) ∧ Upto (fun x => x = q) w3 wr) (fun v _ => ts.length - (intOf v).toNat)
    case atStart => exact ⟨0, rfl, Nat.zero_le _, by simpa [Tm.evsA] using hS3.obj, Upto.refl _ _⟩
    case round =>
      obtain ⟨j, rfl, hj, hqr, hU⟩ := hrel
      have hSr := hS3.next hA hU hqr
      have HSR := hid hSr
      clear hqr
      have j0 : (0 : Int) ≤ (j : Int) := by omega
      have jb : (j : Int) ≤ 200000 := by omega
      by_cases hlt : j < ts.length
      · obtain ⟨gb, go', k1, n1, x1, s1, c1, rfl, hgl, hgO, g0, g1, g2, g3, hRp⟩ := arg_tm (RepE.keep hU (fun _ e => .inl e) _ _ _ _ hE3) j hlt
        have j1 : (j : Int) < (ts.length : Int) := by omega
        have hT := Tm.evsA_take_succ ks d k ins ts j hlt
        rw [HUN.out, Int.add_zero] at hT
        have IHj := fun W hU' => IH j hlt ins _ W _ (HSR.out.on hU') (hRp.on hU')
        have e9 := (hSr.on ((Upto.refl none' wr).alloc (.cells #[.int .i64 k1, .string (B n1), .int .i64 x1, .slice s1 ts[j].args.length c1] 32))).env.wv
        have HT := hid (And.intro hT hlt)
        clear hT hRp hSr
        generalize ts[j].args.length = el at *
        generalize (ts[j]'hlt).evs ks d ins = ej at *
        clear hlt
        go_wp2_with fail
        refine (IHj _ ((Upto.refl none' wr).alloc _)).mono ?_
        rintro e w5 ⟨rfl, hq5, hU5⟩
        have hU5' : Upto (fun x => x = q) wr w5 := upto_then ((Upto.refl none' wr).alloc _) hU5
        go_wp2_with fail
        go_roundw
        case rel => exact ⟨j + 1, by go_num, Nat.succ_le_of_lt HT.out.2, by rw [HT.out.1, ← List.append_assoc]; exact hq5, hU.trans hU5' (fun _ _ x => x)⟩
        case measure => (have := HT.out.2; simp [intOf]; omega)
      · have hjn : ¬ (j : Int) < (ts.length : Int) := by omega
        have hdn : ts.take j = ts := List.take_of_length_le (by omega)
        have HD := hid hdn
        clear hdn
        go_wp2_with fail
        go_end0
        exact ⟨rfl, by rw [HR2.out, ← HD.out]; exact HSR.out.obj, hUw3.trans hU (fun _ _ x => x)⟩
  case inr.false =>
    have hUw3 := upto_then hU1 hU3
    have hS3 := hS1.next hA hU3 hq3
    have hE3 : RepE (fun x => x = q ∨ x = SB) w3 4 (ts.map Tm.dat) a 0 := RepE.keep hU3 (fun _ e => .inl e) _ _ _ _ hE1
    have hB3 := hB1.keep hU3 hHq
    obtain ⟨b0, b1, b2, b3⟩ := hB3.cells
    clear hS1 hE1 hB1 hU3 hq3
    go_wp2_with fail
    clear b0 b1 b2 b3
    go_loopw [61] (fun v wr => ∃ j : Nat, v = .int .i64 j ∧ j ≤ ts.length ∧ wr.heap[q]? = some (St (done1 ++ Tm.evsA ks d 5 0 ins (ts.take j))) ∧ Upto (fun x => x = q) w3 wr) (fun v _ => ts.length - (intOf v).toNat)
    case atStart => exact ⟨0, rfl, Nat.zero_le _, by simpa [Tm.evsA] using hS3.obj, Upto.refl _ _⟩
    case round =>
      obtain ⟨j, rfl, hj, hqr, hU⟩ := hrel
      have hSr := hS3.next hA hU hqr
      have HSR := hid hSr
      clear hqr
      have j0 : (0 : Int) ≤ (j : Int) := by omega
      have jb : (j : Int) ≤ 200000 := by omega
      by_cases hlt : j < ts.length
      · obtain ⟨gb, go', k1, n1, x1, s1, c1, rfl, hgl, hgO, g0, g1, g2, g3, hRp⟩ := arg_tm (RepE.keep hU (fun _ e => .inl e) _ _ _ _ hE3) j hlt
        have j1 : (j : Int) < (ts.length : Int) := by omega
        have hT := Tm.evsA_take_succ ks d 5 ins ts j hlt
        rw [HUN.out, Int.add_zero] at hT
        have IHj := fun W hU' => IH j hlt ins _ W _ (HSR.out.on hU') (hRp.on hU')
        have e9 := (hSr.on ((Upto.refl none' wr).alloc (.cells #[.int .i64 k1, .string (B n1), .int .i64 x1, .slice s1 ts[j].args.length c1] 32))).env.wv
        have HT := hid (And.intro hT hlt)
        clear hT hRp hSr
        generalize ts[j].args.length = el at *
        generalize (ts[j]'hlt).evs ks d ins = ej at *
        clear hlt
        go_wp2_with fail
        refine (IHj _ ((Upto.refl none' wr).alloc _)).mono ?_
        rintro e w5 ⟨rfl, hq5, hU5⟩
        have hU5' : Upto (fun x => x = q) wr w5 := upto_then ((Upto.refl none' wr).alloc _) hU5
        go_wp2_with fail
        go_roundw
        case rel => exact ⟨j + 1, by go_num, Nat.succ_le_of_lt HT.out.2, by rw [HT.out.1, ← List.append_assoc]; exact hq5, hU.trans hU5' (fun _ _ x => x)⟩
        case measure => (have := HT.out.2; simp [intOf]; omega)
      · have hjn : ¬ (j : Int) < (ts.length : Int) := by omega
        have hdn : ts.take j = ts := List.take_of_length_le (by omega)
        have HD := hid hdn
        clear hdn
        go_wp2_with fail
        go_end0
        exact ⟨rfl, by rw [HR2.out, ← HD.out]; exact HSR.out.obj, hUw3.trans hU (fun _ _ x => x)⟩
  case inr.true =>
    have hUw3 := upto_then hU1 hU3
    have hS3 := hS1.next hA hU3 hq3
    have hE3 : RepE (fun x => x = q ∨ x = SB) w3 4 (ts.map Tm.dat) a 0 := RepE.keep hU3 (fun _ e => .inl e) _ _ _ _ hE1
    have hB3 := hB1.keep hU3 hHq
    obtain ⟨b0, b1, b2, b3⟩ := hB3.cells
    clear hS1 hE1 hB1 hU3 hq3
    go_wp2_with fail
    clear b0 b1 b2 b3
    go_loopw [61] (fun v wr => ∃ j : Nat, v = .int .i64 j ∧ j ≤ ts.length ∧ wr.heap[q]? = some (St (done1 ++ Tm.evsA ks d 5 0 true (ts.take j))) ∧ Upto (fun x => x = q) w3 wr) (fun v _ => ts.length - (intOf v).toNat)
    case atStart => exact ⟨0, rfl, Nat.zero_le _, by simpa [Tm.evsA] using hS3.obj, Upto.refl _ _⟩
    case round =>
      obtain ⟨j, rfl, hj, hqr, hU⟩ := hrel
      have hSr := hS3.next hA hU hqr
      have HSR := hid hSr
      clear hqr
      have j0 : (0 : Int) ≤ (j : Int) := by omega
      have jb : (j : Int) ≤ 200000 := by omega
      by_cases hlt : j < ts.length
      · obtain ⟨gb, go', k1, n1, x1, s1, c1, rfl, hgl, hgO, g0, g1, g2, g3, hRp⟩ := arg_tm (RepE.keep hU (fun _ e => .inl e) _ _ _ _ hE3) j hlt
        have j1 : (j : Int) < (ts.length : Int) := by omega
        have hT := Tm.evsA_take_succ ks d 5 true ts j hlt
        rw [HUN.out, Int.add_zero] at hT
        have IHj := fun W hU' => IH j hlt true _ W _ (HSR.out.on hU') (hRp.on hU')
        have e9 := (hSr.on ((Upto.refl none' wr).alloc (.cells #[.int .i64 k1, .string (B n1), .int .i64 x1, .slice s1 ts[j].args.length c1] 32))).env.wv
        have HT := hid (And.intro hT hlt)
        clear hT hRp hSr
        generalize ts[j].args.length = el at *
        generalize (ts[j]'hlt).evs ks d true = ej at *
        clear hlt
        go_wp2_with fail
        refine (IHj _ ((Upto.refl none' wr).alloc _)).mono ?_
        rintro e w5 ⟨rfl, hq5, hU5⟩
        have hU5' : Upto (fun x => x = q) wr w5 := upto_then ((Upto.refl none' wr).alloc _) hU5
        go_wp2_with fail
        go_roundw
        case rel => exact ⟨j + 1, by go_num, Nat.succ_le_of_lt HT.out.2, by rw [HT.out.1, ← List.append_assoc]; exact hq5, hU.trans hU5' (fun _ _ x => x)⟩
        case measure => (have := HT.out.2; simp [intOf]; omega)
      · have hjn : ¬ (j : Int) < (ts.length : Int) := by omega
        have hdn : ts.take j = ts := List.take_of_length_le (by omega)
        have HD := hid hdn
        clear hdn
        go_wp2_with fail
        go_end0
        exact ⟨rfl, by rw [HR2.out, ← HD.out]; exact HSR.out.obj, hUw3.trans hU (fun _ _ x => x)⟩
/-- The walk over a term. -/
theorem walk22_any {ks : List Int} (hk : ks.length ≤ 1000000) {F : FuncId} {caps : List Value} {q Bn SB Sv Wv Yv : Nat} {ka : Option Addr} {kc : Nat} {w0 : World} (hA : Apart q Bn SB Sv Wv Yv w0) {St : List Ev → Obj} (hN : NoteSays w0 q ks.length F caps St)
    (hFE : ∀ args w, Sem.run Try.prog (callFunc F args) w = .ok (Next.enter F args) w) (t : Tm) : t.wt ≤ 100000 → t.Any3 → ∀ (d : Int) (ins : Bool) (done : List Ev) (w : World) (cs : List Value), 0 ≤ d → d + t.size ≤ 400000 →
    Asked ks F caps q Bn SB Sv Wv Yv ka kc w0 d (St done) w → Rep (fun x => x = q ∨ x = SB) w t.dat cs →
    Calls Try.prog 59 #[.agg cs.toArray, .bool ins, .pointer (some ⟨Wv, 0, none⟩), .pointer (some ⟨Yv, 0, none⟩), .pointer (some ⟨Sv, 0, none⟩), .pointer (some ⟨Bn, 0, none⟩)] w (Visited q SB St (done ++ t.evs ks d ins) w) := by
  induction t using Tm.ind with
  | h k n i ts ih =>
    intro hwt hany d ins done w cs hd0 hd1 hS hR
    obtain ⟨a, cap, rfl, hcap, hE⟩ := rep_tm.1 hR
    obtain ⟨ha1, ha2, ha3, ha4⟩ := Tm.any3_args hany
    simp only [Tm.wt_mk] at hwt
    simp only [Tm.size_mk] at hd1
    have key : ∀ (x : Tm), x ∈ ts → ∀ (d' : Int) (ins : Bool) (done : List Ev) (W : World) (cs : List Value), 0 ≤ d' → d' ≤ d + 1 → Asked ks F caps q Bn SB Sv Wv Yv ka kc w0 d' (St done) W → Rep (fun x => x = q ∨ x = SB) W x.dat cs →
        Calls Try.prog 59 #[.agg cs.toArray, .bool ins, .pointer (some ⟨Wv, 0, none⟩), .pointer (some ⟨Yv, 0, none⟩), .pointer (some ⟨Sv, 0, none⟩), .pointer (some ⟨Bn, 0, none⟩)] W (Visited q SB St (done ++ x.evs ks d' ins) W) := by
      intro x hx d' ins done W cs h0 h1 hS hR
      have h3 := Tm.wt_le_wts hx
      have h4 := Tm.size_le_sizes hx
      exact ih x hx (by omega) (ha1 x hx) d' ins done W cs h0 (by omega) hS hR
    have hwi : ∀ (x : Tm), x ∈ ts → ∀ (done : List Ev) (W : World) (cs : List Value), Asked ks F caps q Bn SB Sv Wv Yv ka kc w0 d (St done) W → Rep (fun x => x = q ∨ x = SB) W x.dat cs →
        Calls Try.prog 57 #[.agg cs.toArray, .bool ins, .pointer (some ⟨Sv, 0, none⟩), .pointer (some ⟨Wv, 0, none⟩)] W (Visited q SB St (done ++ x.evs ks (d + 1) ins) W) := by
      intro x hx done W cs hS hR
      exact within_any hA x cs ins done _ W d hd0 (by omega) hS.env hS.obj hR (fun W' hE' hq' hU' => key x hx (d + 1) ins done W' cs (by omega) (Int.le_refl _) (hS.deeper hA hE' hU' hq') (Rep.keep hU' (fun _ e => e) _ _ hR))
    by_cases h2 : k = 2
    · subst h2
      have hl := ha4 rfl
      match ts, hl with
      | [x, y], _ => exact walkPi_any hA n i x y a cap d hd0 (by omega) ins (fun done W cs => key x (by simp) d ins done W cs hd0 (by omega)) (hwi y (by simp)) done w hS hE
    · by_cases h3 : k = 3
      · subst h3
        have hl := ha3 rfl
        match ts, hl with
        | [x], _ => exact walkLam_any hA n i x a cap d hd0 (by omega) ins (hwi x (by simp)) done w hS hE
      · exact walkNode_any hk hA hN hFE k (by simpa using h2) (by simpa using h3) n i ts ha2 (by omega) a cap d hd0 (by omega) ins
          (fun j h ins' done W cs => key _ (List.getElem_mem h) d ins' done W cs hd0 (by omega)) done w hS hE
end Go.Proofs.Ytadphaobbpngkaa
namespace Go.Proofs.Ytadphaobbpngkaa
open Go.RowKit Go.LF
theorem six_new (w : World) (o1 o2 o3 o4 o5 o6 : Obj) : Upto none' w ((((((w.alloc o1).alloc o2).alloc o3).alloc o4).alloc o5).alloc o6) ∧
    ((((((w.alloc o1).alloc o2).alloc o3).alloc o4).alloc o5).alloc o6).heap[w.heap.size + 1]? = some o2 ∧ ((((((w.alloc o1).alloc o2).alloc o3).alloc o4).alloc o5).alloc o6).heap[w.heap.size + 1 + 1]? = some o3 ∧
    ((((((w.alloc o1).alloc o2).alloc o3).alloc o4).alloc o5).alloc o6).heap[w.heap.size + 1 + 1 + 1]? = some o4 ∧ ((((((w.alloc o1).alloc o2).alloc o3).alloc o4).alloc o5).alloc o6).heap[w.heap.size + 1 + 1 + 1 + 1]? = some o5 ∧
    ((((((w.alloc o1).alloc o2).alloc o3).alloc o4).alloc o5).alloc o6).heap[w.heap.size + 1 + 1 + 1 + 1 + 1]? = some o6 := by
  have h : ∀ (W : World) (o : Obj) (b : Nat), W.heap.size = b → (W.alloc o).heap[b]? = some o := fun W o b e => by subst e; exact heap_alloc_new W o
  refine ⟨((((((Upto.refl none' w).alloc _).alloc _).alloc _).alloc _).alloc _).alloc _, ?_, ?_, ?_, ?_, ?_⟩
  · rw [heap_old _ _ _ (by simp <;> omega), heap_old _ _ _ (by simp <;> omega), heap_old _ _ _ (by simp <;> omega), heap_old _ _ _ (by simp)]; exact h _ _ _ (by simp)
  · rw [heap_old _ _ _ (by simp <;> omega), heap_old _ _ _ (by simp <;> omega), heap_old _ _ _ (by simp)]; exact h _ _ _ (by simp)
  · rw [heap_old _ _ _ (by simp <;> omega), heap_old _ _ _ (by simp)]; exact h _ _ _ (by simp)
  · rw [heap_old _ _ _ (by simp)]; exact h _ _ _ (by simp)
  · exact h _ _ _ (by simp)
theorem cell_of_block {W : World} {g : Nat} {c : Value} {T : TypeId} (h : W.heap[g]? = some (.cells #[c] T)) : W.cell? ⟨g, 0, none⟩ = some c := by simp [World.cell?, h]
set_option maxRecDepth 100000 in
set_option maxHeartbeats 8000000 in
theorem visit_any (ks : List Int) (hk : ks.length ≤ 1000000) (F : FuncId) (caps : List Value) (q : Nat) (ka : Option Addr) (kc : Nat) (w : World) (St : List Ev → Obj) (hN : NoteSays w q ks.length F caps St)
    (hFE : ∀ args w, Sem.run Try.prog (callFunc F args) w = .ok (Next.enter F args) w) (t : Tm) (hwt : t.wt ≤ 100000) (hany : t.Any3) (cs : List Value) (hq : w.heap[q]? = some (St [])) (hR : Rep (fun x => x = q) w t.dat cs) (hK : RepE (fun x => x = q) w 1 (ks.map (Dat.int .i64)) ka 0) :
    Calls Try.prog 28 #[.agg cs.toArray, .slice ka ks.length kc, .func (.func F) #[] caps.toArray] w fun r w' => r = .returned (.tuple #[]) ∧ w'.heap[q]? = some (St (t.evs ks 0 false)) ∧ Upto (fun x => x = q) w w' := by
  have hsz := Tm.size_le_wt t
  have hqlt : q < w.heap.size := (Array.getElem?_eq_some_iff.1 hq).1
  have hA : Apart q (w.heap.size + 1) (w.heap.size + 1 + 1) (w.heap.size + 1 + 1 + 1) (w.heap.size + 1 + 1 + 1 + 1) (w.heap.size + 1 + 1 + 1 + 1 + 1) w := ⟨hqlt, by omega, by omega, by omega, by omega, by omega⟩
  have HWK := fun W cs hS hR => walk22_any (ka := ka) (kc := kc) hk hA hN hFE t hwt hany 0 false [] W cs (Int.le_refl _) (by omega) hS hR
  obtain ⟨k, n, i, ts, a, cap, ht, rfl, hcap, _⟩ := tm_open hR
  generalize ts.length = len at *
  have hmf : ∀ (fn : Fn) (first cap : Array Value) (w : World), (Instr.makeFunc fn first cap).run Try.prog w = .ok (.func fn first cap) w := fun _ _ _ _ => rfl
  clear hN hcap ht
  go_enter Try.func28, Try.ntmps28
  go_wp2_with fail
  obtain ⟨W, hW⟩ : ∃ W, W = ((((((w.alloc (.cells #[.int .i64 k, .string (B n), .int .i64 i, .slice a len cap] 32)).alloc (.cells #[.func (.func F) #[] caps.toArray] 61)).alloc (.cells #[.slice ka ks.length kc, .int .i64 0] 87)).alloc
    (.cells #[.pointer (some ⟨w.heap.size + 1 + 1, 0, none⟩)] 85)).alloc (.cells #[.func (.func 59) #[] #[.pointer (some ⟨w.heap.size + 1 + 1 + 1 + 1, 0, none⟩), .pointer (some ⟨w.heap.size + 1 + 1 + 1 + 1 + 1, 0, none⟩), .pointer (some ⟨w.heap.size + 1 + 1 + 1, 0, none⟩), .pointer (some ⟨w.heap.size + 1, 0, none⟩)]] 88)).alloc
    (.cells #[.func (.func 57) #[] #[.pointer (some ⟨w.heap.size + 1 + 1 + 1, 0, none⟩), .pointer (some ⟨w.heap.size + 1 + 1 + 1 + 1, 0, none⟩)]] 88)) := ⟨_, rfl⟩
  have h6 := six_new w (.cells #[.int .i64 k, .string (B n), .int .i64 i, .slice a len cap] 32) (.cells #[.func (.func F) #[] caps.toArray] 61) (.cells #[.slice ka ks.length kc, .int .i64 0] 87)
    (.cells #[.pointer (some ⟨w.heap.size + 1 + 1, 0, none⟩)] 85) (.cells #[.func (.func 59) #[] #[.pointer (some ⟨w.heap.size + 1 + 1 + 1 + 1, 0, none⟩), .pointer (some ⟨w.heap.size + 1 + 1 + 1 + 1 + 1, 0, none⟩), .pointer (some ⟨w.heap.size + 1 + 1 + 1, 0, none⟩), .pointer (some ⟨w.heap.size + 1, 0, none⟩)]] 88)
    (.cells #[.func (.func 57) #[] #[.pointer (some ⟨w.heap.size + 1 + 1 + 1, 0, none⟩), .pointer (some ⟨w.heap.size + 1 + 1 + 1 + 1, 0, none⟩)]] 88)
  rw [← hW] at h6 ⊢
  clear hW
  obtain ⟨hU, g1, g2, g3, g4, g5⟩ := h6
  have hE : Env ks F caps (w.heap.size + 1) (w.heap.size + 1 + 1) (w.heap.size + 1 + 1 + 1) (w.heap.size + 1 + 1 + 1 + 1) (w.heap.size + 1 + 1 + 1 + 1 + 1) ka kc 0 W := ⟨g2, cell_of_block g3, cell_of_block g4, cell_of_block g5, cell_of_block g1⟩
  have hS : Asked ks F caps q (w.heap.size + 1) (w.heap.size + 1 + 1) (w.heap.size + 1 + 1 + 1) (w.heap.size + 1 + 1 + 1 + 1) (w.heap.size + 1 + 1 + 1 + 1 + 1) ka kc w 0 (St []) W :=
    ⟨hE, (hU.block q hqlt (fun x => x)).trans hq, (RepE.weaken (fun b _ e => e.elim .inl (fun e => .inr (by omega))) _ _ _ _ (RepE.fresh' _ _ _ _ hK)).on hU, hU.mono (fun _ _ x => x.elim)⟩
  refine (HWK W _ hS ((Rep.weaken (fun b _ e => e.elim .inl (fun e => .inr (by omega))) _ _ (Rep.fresh' _ _ hR)).on hU)).mono ?_
  rintro e w2 ⟨rfl, hq2, hU2⟩
  go_wp2_with fail
  go_end0
  exact ⟨rfl, hq2, upto_then hU hU2⟩
end Go.Proofs.Ytadphaobbpngkaa
