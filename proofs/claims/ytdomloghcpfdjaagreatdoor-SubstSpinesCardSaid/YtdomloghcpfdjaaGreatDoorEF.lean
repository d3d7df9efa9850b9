/- subst's measure; run and its deferred closure. -/
import Derived.Test.YtdomloghcpfdjaaGreatDoorCB
import Derived.Test.YtdomloghcpfdjaaGreatDoorCJ
import Derived.Test.YtdomloghcpfdjaaGreatDoorCK
import Derived.Test.YtdomloghcpfdjaaGreatDoorEA
import Derived.Test.YtdomloghcpfdjaaGreatDoorED
import Derived.Test.YtdomloghcpfdjaaGreatDoorEE
import Derived.Deep.RegionHeld3
import Derived.Deep.RegionLaw
import Derived.Recover
namespace Go.Proofs.YtdomloghcpfdjaaGreatDoor
open Go.RowKit Go.LF
theorem TcS.set6 {b r : Nat} {a0 a1 a2 a3 : Value} {w : World} (h : TcS b a0 a1 a2 a3 w) (hne : b ≠ r) (d0 d1 d2 d3 d4 d5 : Value) :
    TcS b a0 a1 a2 a3 ((((((w.setCell ⟨r, 0, none⟩ d0).setCell ⟨r, 1, none⟩ d1).setCell ⟨r, 2, none⟩ d2).setCell ⟨r, 3, none⟩ d3).setCell ⟨r, 4, none⟩ d4).setCell ⟨r, 5, none⟩ d5) :=
  TcS.set (TcS.set (TcS.set (TcS.set (TcS.set (TcS.set h hne 0 _) hne 1 _) hne 2 _) hne 3 _) hne 4 _) hne 5 _
set_option maxRecDepth 100000 in
set_option maxHeartbeats 4000000 in
theorem measure_any (t : Tm) (hs : t.size ≤ 1000000) (O : Nat → Prop) (w : World) (hO : ∀ b, O b → b < w.heap.size) (k i : Int) (n : List UInt8) (a : Option Addr) (len cap : Nat) (h : Rep O w t.dat [.int .i64 k, .string (B n), .int .i64 i, .slice a len cap]) :
    Calls Tryz.prog 69 #[.agg #[.int .i64 k, .string (B n), .int .i64 i, .slice a len cap]] w fun e w' =>
      e = .returned (.agg #[.int .i64 k, .string (B n), .int .i64 i, .slice a len cap, .int .i64 t.size, .int .i64 t.depth]) ∧ Rep O w' t.dat [.int .i64 k, .string (B n), .int .i64 i, .slice a len cap] ∧ Upto none' w w' := by
  obtain ⟨w1, hw1⟩ : ∃ w1, w1 = (w.alloc (.cells #[.int .i64 k, .string (B n), .int .i64 i, .slice a len cap] 29)).alloc (.cells #[.int .i64 0, .string (B []), .int .i64 0, .slice none 0 0, .int .i64 0, .int .i64 0] 92) := ⟨_, rfl⟩
  have hU1 : Upto none' w w1 := by rw [hw1]; exact ((Upto.refl none' w).alloc _).alloc _
  have hb1 : Box4 w1 w.heap.size (.int .i64 k) (.string (B n)) (.int .i64 i) (.slice a len cap) 29 := by rw [hw1]; exact (Box4.at_new rfl).kept ((Upto.refl none' _).alloc _)
  have hr1 : Box6 w1 (w.heap.size + 1) (.int .i64 0) (.string (B [])) (.int .i64 0) (.slice none 0 0) (.int .i64 0) (.int .i64 0) 92 := by rw [hw1]; exact Box6.at_new (by simp)
  have hR1 := (Rep.freshO h).on hU1
  have C1 := fun (W : World) (hc : Rep none' W t.dat [.int .i64 k, .string (B n), .int .i64 i, .slice a len cap]) => size_any t hs W _ hc
  have C2 := fun (W : World) (hc : Rep none' W t.dat [.int .i64 k, .string (B n), .int .i64 i, .slice a len cap]) => depth_any t hs W _ hc
  have HW := hid hw1
  obtain ⟨H, hH⟩ : ∃ H, H = w.heap.size := ⟨_, rfl⟩
  have HH := hid hH
  rw [← hH] at hb1 hr1 hR1
  have HO := hid hO
  clear hw1 hH h hO hs
  generalize hz : t.size = ez at *
  generalize hd : t.depth = ed at *
  clear hz hd
  have S1 : TcS H (.int .i64 k) (.string (B n)) (.int .i64 i) (.slice a len cap) w1 := hb1.cells
  have hd : Upto none' w1 w1.drew := (Upto.refl none' w1).drew
  have Sd := S1.keep hd (fun x => x)
  have hne : H ≠ H + 1 := by omega
  have hrd := hr1.kept hd
  go_enter Tryz.func69, Tryz.ntmps69
  go_upto_region 1 with fail
  rw [← show B [] = { data := #[] } from rfl, ← HW.out, ← HH.out]
  go_region_held3 (fun w' => TcS H (.int .i64 k) (.string (B n)) (.int .i64 i) (.slice a len cap) w')
    (first | (with_reducible assumption) | (with_reducible exact Sd) | (with_reducible exact TcS.set6 S4 hne _ _ _ _ _ _))
    (first
      | ((go_at_call 150); (with_reducible refine (C1 _ (rep_pre (hR1.on hd))).mono ?_); rintro e w3 ⟨rfl, hU3⟩; have S3 := Sd.keep hU3 (fun x => x); have hr3 := hrd.kept hU3)
      | ((go_at_call 151); (with_reducible refine (C2 _ (rep_pre ((hR1.on hd).on hU3))).mono ?_); rintro e w4 ⟨rfl, hU4⟩; have S4 := S3.keep hU4 (fun x => x); have hr4 := hr3.kept hU4; have c8 := hr4.cells; have z8 := hr4.frozens; obtain ⟨c80, c81, c82, c83, c84, c85⟩ := c8; obtain ⟨z80, z81, z82, z83, z84, z85⟩ := z8))
  all_goals
    have hset := hr4.set (d0 := .int .i64 k) (d1 := .string (B n)) (d2 := .int .i64 i) (d3 := .slice a len cap) (d4 := .int .i64 ez) (d5 := .int .i64 ed)
    obtain ⟨e0, e1, e2, e3, e4, e5⟩ := hset.1.cells
    have HEE := hid (And.intro e0 (And.intro e1 (And.intro e2 (And.intro e3 (And.intro e4 (And.intro e5 hset.2))))))
    clear e0 e1 e2 e3 e4 e5 hset
    go_wp2_with fail
    obtain ⟨e0, e1, e2, e3, e4, e5, hset⟩ := HEE.out
    refine bodyPost_ret (v := .agg #[.int .i64 k, .string (B n), .int .i64 i, .slice a len cap, .int .i64 ez, .int .i64 ed]) ?_ rfl ?_
    · simp [results, Tryz.f69, go_sem, e0, e1, e2, e3, e4, e5]
    · exact ⟨rfl, Rep.weaken (fun b _ e => .inl e) _ _ (Rep.keep hset (fun b e => .inr (by omega)) _ _ (((hR1.on hd).on hU3).on hU4)), (((hU1.and hd).and hU3).and hU4).trans hset (fun b hb e => by have := HH.out; omega)⟩
/-- A box with one cell, of an error. -/
abbrev EBox (W : World) (b : Nat) (e : Int) : Prop := W.heap[b]? = some (.cells #[.int .i64 e] 36 (0, 0))
theorem ebox_cell {W : World} {b : Nat} {e : Int} (h : EBox W b e) : W.cell? ⟨b, 0, none⟩ = some (.int .i64 e) ∧ W.frozen? ⟨b, 0, none⟩ = false ∧ b < W.heap.size := ⟨by simp [World.cell?, h], by simp [World.frozen?, h], (Array.getElem?_eq_some_iff.1 h).1⟩
theorem ebox_keep {W W' : World} {b : Nat} {e : Int} {S : Nat → Prop} (h : EBox W b e) (hU : Upto S W W') (hS : ¬ S b) : EBox W' b e := (hU.block b (ebox_cell h).2.2 hS).trans h
theorem ebox_set {W : World} {b : Nat} {e : Int} (h : EBox W b e) (e' : Int) : EBox (W.setCell ⟨b, 0, none⟩ (.int .i64 e')) b e' := by
  obtain ⟨hlt, hk⟩ := Array.getElem?_eq_some_iff.1 h
  show (W.heap.modify b _)[b]? = _
  rw [Array.getElem?_eq_getElem (by rw [Array.size_modify]; exact hlt), Array.getElem_modify_self, hk]
  rfl
set_option maxRecDepth 100000 in
set_option maxHeartbeats 4000000 in
theorem catch_idle (p q : Nat) (w : World) :
    CallsD Tryz.prog 149 #[.pointer (some ⟨p, 0, none⟩), .pointer (some ⟨q, 0, none⟩)] .returning w fun e u' w' => e = .returned (.tuple #[]) ∧ u' = .returning ∧ w' = w := by
  refine callsD_of_wpS Tryz.func149 rfl fun c₀ cs hu => ?_
  apply wpS_seq
  apply wpS_region
  simp [wpOpsS, go_sem, recoverD, hu, Tryz.ntmps149, Exit.thenS]
  rw [show (Array.replicate 11 undef) = #[undef, undef, undef, undef, undef, undef, undef, undef, undef, undef, undef] from rfl]
  simp only [List.setIfInBounds_toArray, List.set_cons_succ, List.set_cons_zero, List.append_toArray, List.cons_append, List.nil_append]
  refine wpS_of_wp ?_
  go_wp2_with fail
  cases c₀
  simp_all [bodyPostS, results, Tryz.results149]
theorem errno_assert (ev : Int) (xt : TypeId) (w : World) : Sem.run Tryz.prog (Instr.typeAssert (.iface 36 (.int .i64 ev)) xt 36 true) w = .ok (.tuple #[.int .i64 ev, .bool true]) w := by
  have hu : Tryz.prog.underlying 36 = Tryz.prog.underlying 3 := by kernel_rfl
  have h3 := Tryz.underlying3
  rw [h3] at hu
  unfold Instr.typeAssert
  simp [run_underlying hu]
set_option maxRecDepth 100000 in
set_option maxHeartbeats 4000000 in
theorem catch_panicking (p q : Nat) (hpq : p ≠ q) (x y z : Int) (xn : List UInt8) (xa : Option Addr) (xl xc : Nat) (ev : Int) (older : List PanicEntry) (w : World) (hp : Box4 w p (.int .i64 x) (.string (B xn)) (.int .i64 y) (.slice xa xl xc) 29) (hq : EBox w q z) :
    CallsD Tryz.prog 149 #[.pointer (some ⟨p, 0, none⟩), .pointer (some ⟨q, 0, none⟩)] (.panicking ({ v := .iface 36 (.int .i64 ev), recovered := false } :: older)) w fun e u' w' =>
      e = .returned (.tuple #[]) ∧ u' = .panicking ({ v := .iface 36 (.int .i64 ev), recovered := true } :: older) ∧
        w' = ((((w.setCell ⟨p, 0, none⟩ (.int .i64 0)).setCell ⟨p, 1, none⟩ (.string (B []))).setCell ⟨p, 2, none⟩ (.int .i64 0)).setCell ⟨p, 3, none⟩ (.slice none 0 0)).setCell ⟨q, 0, none⟩ (.int .i64 ev) := by
  obtain ⟨c0, c1, c2, c3⟩ := hp.cells
  obtain ⟨f0, f1, f2, f3⟩ := hp.frozens
  obtain ⟨d0, d1, _⟩ := ebox_cell hq
  have hne : q ≠ p := fun e => hpq e.symm
  have hta := errno_assert ev
  refine callsD_of_wpS Tryz.func149 rfl fun c₀ cs hu => ?_
  apply wpS_seq
  apply wpS_region
  simp [wpOpsS, go_sem, recoverD, hu, Tryz.ntmps149, Exit.thenS]
  rw [show (Array.replicate 11 undef) = #[undef, undef, undef, undef, undef, undef, undef, undef, undef, undef, undef] from rfl]
  simp only [List.setIfInBounds_toArray, List.set_cons_succ, List.set_cons_zero, List.append_toArray, List.cons_append, List.nil_append]
  refine wpS_of_wp ?_
  go_wp2_with fail
  refine ⟨rfl, _, rfl, .tuple #[], ?_, rfl, rfl, rfl⟩
  simp [results, Tryz.results149]
theorem field_made (k i s d : Int) (n : List UInt8) (a : Option Addr) (len cap : Nat) (w : World) : Sem.run Tryz.prog (Instr.field 92 (.agg #[.int .i64 k, .string (B n), .int .i64 i, .slice a len cap, .int .i64 s, .int .i64 d]) 0) w = .ok (.agg #[.int .i64 k, .string (B n), .int .i64 i, .slice a len cap]) w := by
  kernel_rfl
set_option maxRecDepth 100000 in
set_option maxHeartbeats 8000000 in
theorem subRun_any (F : FuncId) (caps : List Value) (r : Tm.Res) (hrt : r.e ≠ 0 → r.t = Tm.none0) (O : Nat → Prop) (w : World)
    (hFE : ∀ args w, Sem.run Tryz.prog (callFunc F args) w = .ok (Next.enter F args) w)
    (hF : ∀ (W : World) (wk : Nat), Upto none' w W → wk = w.heap.size + 1 + 1 → W.heap.size = w.heap.size + 3 → Work wk 0 W → Calls Tryz.prog F (.pointer (some ⟨wk, 0, none⟩) :: caps).toArray W fun e W' => OfR (fun b => O b ∨ (w.heap.size ≤ b ∧ b < w.heap.size + 3)) r e W' ∧ Upto (fun b => b = wk) W W') :
    Calls Tryz.prog 67 #[.func (.func F) #[] caps.toArray] w fun e w' => ∃ (k i : Int) (n : List UInt8) (a : Option Addr) (len cap : Nat), e = .returned (.tuple #[.agg #[.int .i64 k, .string (B n), .int .i64 i, .slice a len cap], .int .i64 r.e]) ∧
      Rep O w' r.t.dat [.int .i64 k, .string (B n), .int .i64 i, .slice a len cap] ∧ Upto none' w w' := by
  have hmf : ∀ (fn : Fn) (first cap : Array Value) (w : World), (Instr.makeFunc fn first cap).run Tryz.prog w = .ok (.func fn first cap) w := fun _ _ _ _ => rfl
  obtain ⟨w1, hw1⟩ : ∃ w1, w1 = ((w.alloc (.cells #[.int .i64 0, .string (B []), .int .i64 0, .slice none 0 0] 29)).alloc (.cells #[.int .i64 0] 36)).alloc (.cells #[.int .i64 0] 3) := ⟨_, rfl⟩
  have hU1 : Upto none' w w1 := by rw [hw1]; exact (((Upto.refl none' w).alloc _).alloc _).alloc _
  have ht1 : Box4 w1 w.heap.size (.int .i64 0) (.string (B [])) (.int .i64 0) (.slice none 0 0) 29 := by rw [hw1]; exact ((Box4.at_new rfl).kept ((Upto.refl none' _).alloc _)).kept ((Upto.refl none' _).alloc _)
  have he1 : EBox w1 (w.heap.size + 1) 0 := by
    rw [hw1]
    have h := heap_alloc_new (w.alloc (.cells #[.int .i64 0, .string (B []), .int .i64 0, .slice none 0 0] 29)) (.cells #[.int .i64 0] 36)
    rw [World.size_alloc] at h
    exact ebox_keep h ((Upto.refl none' _).alloc _) (fun x => x)
  have hk1 : Work (w.heap.size + 1 + 1) 0 w1 := by
    rw [hw1]
    have h := heap_alloc_new ((w.alloc (.cells #[.int .i64 0, .string (B []), .int .i64 0, .slice none 0 0] 29)).alloc (.cells #[.int .i64 0] 36)) (.cells #[.int .i64 0] 3)
    rw [World.size_alloc, World.size_alloc] at h
    exact h
  have hz1 : w1.heap.size = w.heap.size + 3 := by rw [hw1]; simp
  have CF := hF w1 _ hU1 rfl hz1 hk1
  have HW := hid hw1
  obtain ⟨H, hH⟩ : ∃ H, H = w.heap.size := ⟨_, rfl⟩
  have HH := hid hH
  rw [← hH] at ht1 he1 hk1 CF
  clear hw1 hH hF hz1
  go_enter_defers Tryz.func67, Tryz.ntmps67
  go_wp2_with fail
  rw [← show B [] = { data := #[] } from rfl, ← HW.out, ← HH.out]
  by_cases he : r.e = 0
  · have HE := hid he
    clear he
    (with_reducible refine CF.mono ?_)
    rintro e w2 ⟨hOf, hU2⟩
    obtain ⟨k, n, i, a, len, cap, rfl, hR2⟩ := hOf.ok HE.out
    have ht2 := ht1.keep hU2 (by omega)
    have he2 := ebox_keep he1 hU2 (by omega)
    obtain ⟨c0, c1, c2, c3⟩ := ht2.cells
    obtain ⟨f0, f1, f2, f3⟩ := ht2.frozens
    obtain ⟨d0, d1, d2⟩ := ebox_cell he2
    have hsett := ht2.set (d0 := .int .i64 k) (d1 := .string (B n)) (d2 := .int .i64 i) (d3 := .slice a len cap)
    have hn : H ≠ H + 1 := by omega
    have HS := hid hsett
    have hfm := field_made k i r.t.size r.t.depth n a len cap
    clear hsett
    go_wp2_with fail
    obtain ⟨g1, g2⟩ := HS.out
    have g3 : Upto (fun b => b = H + 1) ((((w2.setCell ⟨H, 0, none⟩ (.int .i64 k)).setCell ⟨H, 1, none⟩ (.string (B n))).setCell ⟨H, 2, none⟩ (.int .i64 i)).setCell ⟨H, 3, none⟩ (.slice a len cap)) (((((w2.setCell ⟨H, 0, none⟩ (.int .i64 k)).setCell ⟨H, 1, none⟩ (.string (B n))).setCell ⟨H, 2, none⟩ (.int .i64 i)).setCell ⟨H, 3, none⟩ (.slice a len cap)).setCell ⟨H + 1, 0, none⟩ (.int .i64 0)) := Upto.set (Upto.refl _ _) 0 _
    have g4 := (g1.keep g3 hn).cells
    have g5 := (ebox_cell (ebox_set (ebox_keep he2 g2 hn.symm) 0)).1
    have gR := Rep.weaken (fun b _ e => .inl e) _ _ (Rep.keep g3 (fun b e => .inr (by omega : H ≤ b ∧ b < H + 3)) _ _ (Rep.keep g2 (fun b e => .inr (by omega : H ≤ b ∧ b < H + 3)) _ _ hR2))
    have gU : Upto none' w (((((w2.setCell ⟨H, 0, none⟩ (.int .i64 k)).setCell ⟨H, 1, none⟩ (.string (B n))).setCell ⟨H, 2, none⟩ (.int .i64 i)).setCell ⟨H, 3, none⟩ (.slice a len cap)).setCell ⟨H + 1, 0, none⟩ (.int .i64 0)) := ((hU1.trans hU2 (fun b hb e => by have := HH.out; omega)).trans g2 (fun b hb e => by have := HH.out; omega)).trans g3 (fun b hb e => by have := HH.out; omega)
    obtain ⟨g40, g41, g42, g43⟩ := g4
    refine leaves_cons (f := 149) (args := #[.pointer (some ⟨H, 0, none⟩), .pointer (some ⟨H + 1, 0, none⟩)]) (by simp) (by simp [go_sem]) ?_
    refine (catch_idle H (H + 1) _).mono ?_
    rintro e u' w4 ⟨rfl, rfl, rfl⟩
    refine ⟨.tuple #[.agg #[.int .i64 k, .string (B n), .int .i64 i, .slice a len cap], .int .i64 0], ?_, k, i, n, a, len, cap, by rw [HE.out], gR, gU⟩
    simp [results, Tryz.f67, go_sem, g40, g41, g42, g43, g5]
  · have HE := hid he
    clear he
    (with_reducible refine CF.mono ?_)
    rintro e w2 ⟨hOf, hU2⟩
    obtain rfl := hOf.bad HE.out
    unfold perr
    go_wp2_with fail
    have hn : H ≠ H + 1 := by omega
    have ht2 := ht1.keep hU2 (by omega)
    have he2 := ebox_keep he1 hU2 (by omega)
    obtain ⟨g1, g2⟩ := ht2.set (d0 := .int .i64 0) (d1 := .string (B [])) (d2 := .int .i64 0) (d3 := .slice none 0 0)
    have g3 : Upto (fun b => b = H + 1) ((((w2.setCell ⟨H, 0, none⟩ (.int .i64 0)).setCell ⟨H, 1, none⟩ (.string (B []))).setCell ⟨H, 2, none⟩ (.int .i64 0)).setCell ⟨H, 3, none⟩ (.slice none 0 0)) (((((w2.setCell ⟨H, 0, none⟩ (.int .i64 0)).setCell ⟨H, 1, none⟩ (.string (B []))).setCell ⟨H, 2, none⟩ (.int .i64 0)).setCell ⟨H, 3, none⟩ (.slice none 0 0)).setCell ⟨H + 1, 0, none⟩ (.int .i64 r.e)) := Upto.set (Upto.refl _ _) 0 _
    have g4 := (g1.keep g3 hn).cells
    have g5 := (ebox_cell (ebox_set (ebox_keep he2 g2 hn.symm) r.e)).1
    have gU : Upto none' w (((((w2.setCell ⟨H, 0, none⟩ (.int .i64 0)).setCell ⟨H, 1, none⟩ (.string (B []))).setCell ⟨H, 2, none⟩ (.int .i64 0)).setCell ⟨H, 3, none⟩ (.slice none 0 0)).setCell ⟨H + 1, 0, none⟩ (.int .i64 r.e)) := ((hU1.trans hU2 (fun b hb e => by have := HH.out; omega)).trans g2 (fun b hb e => by have := HH.out; omega)).trans g3 (fun b hb e => by have := HH.out; omega)
    obtain ⟨g40, g41, g42, g43⟩ := g4
    refine leaves_cons (f := 149) (args := #[.pointer (some ⟨H, 0, none⟩), .pointer (some ⟨H + 1, 0, none⟩)]) (by simp) (by simp [go_sem]) ?_
    refine (catch_panicking H (H + 1) hn 0 0 0 [] none 0 0 r.e [] w2 ht2 he2).mono ?_
    rintro e u' w4 ⟨rfl, rfl, rfl⟩
    refine ⟨.tuple #[.agg #[.int .i64 0, .string (B []), .int .i64 0, .slice none 0 0], .int .i64 r.e], ?_, 0, 0, [], none, 0, 0, rfl, ?_, gU⟩
    · simp [results, Tryz.f67, go_sem, g40, g41, g42, g43, g5]
    · rw [hrt HE.out]
      exact rep_leaf 0 [] 0
end Go.Proofs.YtdomloghcpfdjaaGreatDoor
namespace Go.Proofs.YtdomloghcpfdjaaGreatDoor
open Go.RowKit Go.LF
theorem Box3.set1 {W : World} {g : Nat} {c0 c1 c2 : Value} {T : TypeId} (h : Box3 W g c0 c1 c2 T) (v : Value) : Box3 (W.setCell ⟨g, 1, none⟩ v) g c0 v c2 T := by
  obtain ⟨hlt, hk⟩ := Array.getElem?_eq_some_iff.1 h
  show (W.heap.modify g _)[g]? = _
  rw [Array.getElem?_eq_getElem (by rw [Array.size_modify]; exact hlt), Array.getElem_modify_self, hk]
  rfl
theorem Box3.frozens {W : World} {g : Nat} {c0 c1 c2 : Value} {T : TypeId} (h : Box3 W g c0 c1 c2 T) (o : Nat) : W.frozen? ⟨g, o, none⟩ = false := by unfold Box3 at h; simp [World.frozen?, h]
theorem Box3.rowD {W W' : World} {g : Nat} {c0 c1 c2 : Value} {T T' : TypeId} {wd : Nat} {O : Nat → Prop} {base : Nat} {v : Value} {ds : List Dat} {css : List (List Value)} (h : Box3 W g c0 c1 c2 T) (hg : W.grownBy W' v.ownBlock) (ht : RowD T' wd O base W v ds css) (hb : g < base) : Box3 W' g c0 c1 c2 T :=
  (hg.block g h.lt (fun e => by have := (ht.2.2.1.lt g e.symm).1; omega)).trans h
set_option maxRecDepth 100000 in
set_option maxHeartbeats 16000000 in
theorem many1_any (ms : List Tm) (ss : List Sm) (t : Tm) (wk bs bm bt : Nat) (O : Nat → Prop) (w : World) (k i : Int) (nm : List UInt8) (ta : Option Addr) (tl tc : Nat) (ma : Option Addr) (mc : Nat) (sa : Option Addr) (sc : Nat)
    (hml : ms.length = ss.length) (hml2 : ms.length ≤ 10000) (hms : ∀ u ∈ ms, u.isObj = true ∧ u.small = true) (hss : ∀ s ∈ ss, s.size ≤ 4096) (hin : t.In) (hOk : O wk) (hO : ∀ b, O b → b < w.heap.size) (hW : Work wk 0 w)
    (hbt : Box4 w bt (.int .i64 k) (.string (B nm)) (.int .i64 i) (.slice ta tl tc) 29) (hbm : Box1 w bm (.slice ma ms.length mc) 27) (hbs : Box1 w bs (.slice sa ss.length sc) 31)
    (hR : Rep O w t.dat [.int .i64 k, .string (B nm), .int .i64 i, .slice ta tl tc]) (hM : RepE O w 4 (ms.map Tm.dat) ma 0) (hS : RepE O w 2 (ss.map Sm.dat) sa 0) :
    Calls Tryz.prog 212 #[.pointer (some ⟨wk, 0, none⟩), .pointer (some ⟨bs, 0, none⟩), .pointer (some ⟨bm, 0, none⟩), .pointer (some ⟨bt, 0, none⟩)] w fun e w' =>
      OfR O (Tm.sb 262145 ms ss 0 t 0) e w' ∧ Upto (fun b => b = wk) w w' := by
  obtain ⟨i0, hi, hi0, hi1, hi2⟩ := info_parts info_made
  obtain ⟨w1, hw1⟩ : ∃ w1, w1 = (w.alloc (.cells #[.int .i64 0, .string (B []), .int .i64 0, .slice none 0 0, .int .i64 0, .int .i64 0] 92)).alloc (.cells #[.pointer (some ⟨wk, 0, none⟩), .slice none 0 0, .slice sa ss.length sc] 160) := ⟨_, rfl⟩
  have hU1 : Upto none' w w1 := by rw [hw1]; exact ((Upto.refl none' w).alloc _).alloc _
  have hr1 : Box6 w1 w.heap.size (.int .i64 0) (.string (B [])) (.int .i64 0) (.slice none 0 0) (.int .i64 0) (.int .i64 0) 92 := by rw [hw1]; exact (Box6.at_new rfl).kept ((Upto.refl none' _).alloc _)
  have hb1 : Box3 w1 (w.heap.size + 1) (.pointer (some ⟨wk, 0, none⟩)) (.slice none 0 0) (.slice sa ss.length sc) 160 := by rw [hw1]; exact Box3.at_new (by simp)
  have hz1 : w1.heap.size = w.heap.size + 2 := by rw [hw1]; simp
  have hW1 := hW.kept hU1
  have hbt1 := hbt.kept hU1
  have hbm1 := hbm.kept hU1
  have hR1 := (Rep.freshO hR).on hU1
  have hM1 := (RepE.fresh' _ _ _ _ hM).on hU1
  have hS1 := (RepE.fresh' _ _ _ _ hS).on hU1
  have hcs := hbs.cell
  have hls := hbs.lt
  have hls0 := hbs.lt
  have hlt' := hbt.lt
  have hlm := hbm.lt
  have HW := hid hw1
  obtain ⟨H, hH⟩ : ∃ H, H = w.heap.size := ⟨_, rfl⟩
  have HH := hid hH
  rw [← hH] at hr1 hb1 hz1 hR1 hM1 hS1 hlt' hlm hls
  have hO' : ∀ b, O b → b < H := by rw [hH]; exact hO
  have hkH : wk < H := hO' wk hOk
  have HO : Hid (∀ b, (O b ∨ b = H ∨ b = H + 1) → b < H + 2) := hid (fun b h => by rcases h with h | h | h; (have := hO' b h; omega); all_goals omega)
  obtain ⟨ml, hmll⟩ : ∃ ml, ml = ms.length := ⟨_, rfl⟩
  obtain ⟨sl, hsll⟩ : ∃ sl, sl = ss.length := ⟨_, rfl⟩
  rw [← hmll] at hbm1 hml2 hml
  rw [← hsll] at hb1 hcs HW
  have HL := hid (And.intro hmll (And.intro hsll hml))
  have HP := hid (And.intro hms (And.intro hss hin))
  have HU0 := hid (And.intro hU1 hO')
  have HR := hid (And.intro hR1 (And.intro hM1 hS1))
  have hml3 : (ml : Int) ≤ 10000 := by omega
  clear hw1 hH hmll hsll hml hms hss hin hU1 hR hM hS hW hbt hbm hbs hO hR1 hM1 hS1
  obtain ⟨r, hrr⟩ : ∃ r, r = Tm.sb 262145 ms ss 0 t 0 := ⟨_, rfl⟩
  rw [← hrr]
  have HRR := hid hrr
  clear hrr
  go_enter Tryz.func212, Tryz.ntmps212
  go_upto_region 2 with fail
  rw [← show B [] = { data := #[] } from rfl, ← HW.out, ← HH.out]
  have hcm := hbm1.cell
  clear hcs hls0
  go_wp2_with fail
  go_loopw [14] (fun v14 wr => ∃ (j : Nat) (v : Value) (css : List (List Value)), v14 = .int .i64 (j : Int) ∧ j ≤ ml ∧ RowD 92 6 (fun b => O b ∨ b = H ∨ b = H + 1) (H + 2) wr v ((ms.take j).map mdat) css ∧
      Box3 wr (H + 1) (.pointer (some ⟨wk, 0, none⟩)) v (.slice sa sl sc) 160 ∧ Upto (fun b => b = H + 1) w1 wr)
    (fun v14 _ => ml - (intOf v14).toNat)
  case atStart => exact ⟨0, _, [], rfl, Nat.zero_le _, RowD.nil _ _ _ _ _, hb1, Upto.refl _ _⟩
  case round =>
    clear hb1 hcm
    obtain ⟨j, v, css, rfl, hj, hD, hB, hU⟩ := hrel
    obtain ⟨b0, b1, b2⟩ := hB.cells
    have f1 := hB.frozens 1
    have q := hB.lt
    have hzU := hU.size
    have u2 : (j : Int) ≤ 10000 := by omega
    have u3 : (0 : Int) ≤ (j : Int) := by omega
    by_cases hlt : j < ml
    · have hjm : j < ms.length := by rw [← HL.out.1]; exact hlt
      have u4 : (j : Int) < (ml : Int) := by omega
      obtain ⟨eb, eo, ek, en, ei, es, ec, rfl, hebl, hebO, p0, p1, p2, p3, hRp⟩ := arg_tm (RepE.keep hU (fun b e => .inr (by omega)) _ _ _ _ HR.out.2.1) j hjm
      have hmsm := (HP.out.1 _ (List.getElem_mem hjm)).2
      have hsz := Tm.small_size hmsm
      have hln : ((ms.take j).map mdat).length = j := by rw [List.length_map, List.length_take]; omega
      have htk : (ms.take (j + 1)).map mdat = (ms.take j).map mdat ++ [mdat ms[j]] := by rw [List.take_succ_eq_append_getElem hjm, List.map_append]; rfl
      have ME := fun (W : World) (hu : Upto none' wr W) => measure_any ms[j] (by omega) (fun b => (O b ∨ b = H ∨ b = H + 1) ∨ v.ownBlock = some b) W (fun b e => by have z1 := hu.size; rcases e with e | e; (have := HO.out b e; omega); (have := (hD.2.2.1.lt b e).2; omega)) ek ei en es ms[j].args.length ec
        ((Rep.weaken (fun b _ e => e.elim (fun e => e.elim .inl (fun e => .inr (by omega))) (fun e => .inr (by have := (hD.2.2.1.lt b e).1; omega))) _ _ hRp).on hu)
      have HTK := hid (And.intro hln htk)
      generalize ms[j].args.length = el at *
      clear hln htk hRp hmsm hsz
      go_upto_region 5 with fail
      obtain ⟨w4, hw4⟩ : ∃ w4, w4 = wr.alloc (.cells #[.int .i64 ek, .string (B en), .int .i64 ei, .slice es el ec] 29) := ⟨_, rfl⟩
      have hU4 : Upto none' wr w4 := by rw [hw4]; exact (Upto.refl none' _).alloc _
      have hx4 : Box4 w4 wr.heap.size (.int .i64 ek) (.string (B en)) (.int .i64 ei) (.slice es el ec) 29 := by rw [hw4]; exact Box4.at_new rfl
      have hB4 := hB.kept hU4
      have hD4 := hD.on hU4 HO.out
      obtain ⟨X, hX⟩ : ∃ X, X = wr.heap.size := ⟨_, rfl⟩
      rw [← hw4, ← hX]
      rw [← hX] at hx4
      have MEd := ME w4.drew (hU4.and (Upto.refl none' _).drew)
      have hz4 : H + 2 ≤ w4.heap.size := by have := hU4.size; omega
      have HXX := hid hX
      have hq4 := hB4.lt
      clear hw4 p0 p1 p2 p3 b0 b1 b2 f1 ME hX
      obtain ⟨b0, b1, b2⟩ := hB4.cells
      obtain ⟨x0, x1, x2, x3⟩ := hx4.cells
      have f1 := hB4.frozens 1
      have hd4 : Upto none' w4 w4.drew := (Upto.refl none' _).drew
      generalize hez : ms[j].size = ez at *
      generalize hed : ms[j].depth = ed at *
      have HZ := hid (And.intro hez hed)
      clear hez hed
      go_region_law (first
        | ((rw [if_pos (by rfl)]); go_simp; (go_at_call 69); refine MEd.mono ?_; rintro e w6 ⟨rfl, hR6, hU6⟩; have hU46 := hd4.and hU6; have hB6 := hB4.kept hU46; have hD6 := hD4.on hU46 HO.out; have c6 := hB6.cells.2.1; have f6 := hB6.frozens 1; have q6 := hB6.lt; have z6 := hU46.size; have hal6 := (Upto.refl none' w6).alloc (.cells #[.int .i64 ek, .string (B en), .int .i64 ei, .slice es el ec, .int .i64 ez, .int .i64 ed] 92); have hDb := hD6.on hal6 HO.out; have own6 := hDb.2.2.1; rw [HTK.out.1] at own6; have hBb := hB6.kept hal6)
        | (refine step_append_lies _ (by rfl) _ _ 93 (by rfl) (H + 2) 92 i0 (.agg #[.int .i64 0, .string (B []), .int .i64 0, .slice none 0 0, .int .i64 0, .int .i64 0]) 6 72 (by kernel_rfl) hi hi0 hi1 hi2 rfl (by decide) v j css.flatten (by rfl) own6 ⟨w6.heap.size, 0, none⟩ 1 1 [.int .i64 ek, .string (B en), .int .i64 ei, .slice es el ec, .int .i64 ez, .int .i64 ed] (by rfl) rfl (World.news_of_block (heap_alloc_new w6 _)) (by simp [Value.oneCell']) (by omega) (by simp only [maxLen]; omega) (by omega) (by simp; omega) _ rfl ?_; intro g cap' w7 hown hgrow hat _hg7; have hB7 := hBb.rowD hgrow hDb (by omega); have c7 := hB7.cells.2.1; have y7 := hB7.frozens 1))
      all_goals
        have hRu : Rep (fun b => (O b ∨ b = H ∨ b = H + 1) ∨ v.ownBlock = some b) (w6.alloc (.cells #[.int .i64 ek, .string (B en), .int .i64 ei, .slice es el ec, .int .i64 ez, .int .i64 ed] 92)) (mdat ms[j]) [.int .i64 ek, .string (B en), .int .i64 ei, .slice es el ec, .int .i64 ez, .int .i64 ed] := by
          rw [← HZ.out.1, ← HZ.out.2]
          exact rep_mdat.2 ⟨hR6.on ((Upto.refl none' w6).alloc _), rfl, rfl⟩
        have hown8 : w7.ownsRow (H + 2) 92 6 (.slice (some ⟨g, 0, none⟩) (((ms.take j).map mdat).length + 1) cap') (((ms.take j).map mdat).length + 1) (css.flatten ++ [.int .i64 ek, .string (B en), .int .i64 ei, .slice es el ec, .int .i64 ez, .int .i64 ed]) := by rw [HTK.out.1]; exact hown
        have hT7 := hDb.appended (d := mdat ms[j]) rfl hRu hown8 hgrow hat (Nat.le_refl _)
        rw [HTK.out.1, ← HTK.out.2] at hT7
        have hrow := hDb.upto hgrow
        have hset7 : Upto (fun b => b = H + 1) w7 (w7.setCell ⟨H + 1, 1, none⟩ (.slice (some ⟨g, 0, none⟩) (j + 1) cap')) := Upto.set (Upto.refl _ _) 1 _
        have hT8 := hT7.keep hset7 (fun b e => .inr (.inr e)) HO.out
        have hB8 := hB7.set1 (.slice (some ⟨g, 0, none⟩) (j + 1) cap')
        have hU8 := ((((hU.trans hU4 (fun _ _ e => e.elim)).trans hU46 (fun _ _ e => e.elim)).trans hal6 (fun _ _ e => e.elim)).trans hrow (fun b hb e => by omega)).trans hset7 (fun _ _ e => e)
        have HN := hid (And.intro hT8 (And.intro hB8 hU8))
        clear hRu hown8 hT7 hrow hset7 hT8 hB8 hU8
        go_wp2_with fail
        go_roundw
        case rel => exact ⟨j + 1, _, _, by go_num, by omega, HN.out.1, HN.out.2.1, HN.out.2.2⟩
        case measure => simp [intOf]; omega
    · have hjl : j = ml := by omega
      subst hjl
      have htk : ms.take j = ms := List.take_of_length_le (by rw [← HL.out.1]; exact Nat.le_refl _)
      rw [htk] at hD
      obtain ⟨va, vc, rfl, hvc, hF⟩ := hD.rep HO.out
      rw [List.length_map, ← HL.out.1] at hB b1 hvc
      have hbt2 := hbt1.keep hU (by omega)
      have hr2 := hr1.keep hU (by omega)
      have hW2 := hW1.keep hU (by omega)
      have hUw : Upto none' w wr := HU0.out.1.trans hU (fun b hb e => by have := HH.out; omega)
      have OA := of_any 262145 ms ss 0 t 0 wk (fun b => O b ∨ b = H ∨ b = H + 1) wr va vc sa sc [.int .i64 k, .string (B nm), .int .i64 i, .slice ta tl tc] (by omega) (by omega) (HL.out.1.symm.trans HL.out.2.2) (by rw [← HL.out.1]; exact hml2) HP.out.1 HP.out.2.1 (by omega) (by have := HP.out.2.2.depth; omega) HP.out.2.2 (.inl hOk)
        (fun b e => by have := HO.out b e; omega) hW2 hF (RepE.weaken (fun b _ e => e.elim .inl (fun e => .inr (by omega))) _ _ _ _ (RepE.keep hU (fun b e => .inr (by omega)) _ _ _ _ HR.out.2.2)) (Rep.weaken (fun b _ e => e.elim .inl (fun e => .inr (by omega))) _ _ (Rep.keep hU (fun b e => .inr (by omega)) _ _ HR.out.1))
      rw [← HL.out.1, ← HL.out.2.1, ← HRR.out] at OA
      obtain ⟨t0, t1, t2, t3⟩ := hbt2.cells
      have hrl := hr2.lt
      have hHw : w.heap.size ≤ H := by rw [← HH.out]; exact Nat.le_refl _
      have hkw : wk < w.heap.size := by rw [← HH.out]; exact hkH
      clear hD hF
      by_cases he : r.e = 0
      · have HE := hid he
        clear he
        go_wp2_with fail
        (with_reducible refine OA.mono ?_)
        rintro e w5 ⟨hOf, hW5, hU5⟩
        obtain ⟨k5, n5, i5, a5, len5, cap5, rfl, hR5⟩ := hOf.ok HE.out
        have hr5 := hr2.keep hU5 (by omega)
        obtain ⟨y0, y1, y2, y3, y4, y5⟩ := hr5.cells
        obtain ⟨z0, z1, z2, z3, z4, z5⟩ := hr5.frozens
        have hset := hr5.set (d0 := .int .i64 k5) (d1 := .string (B n5)) (d2 := .int .i64 i5) (d3 := .slice a5 len5 cap5) (d4 := .int .i64 r.t.size) (d5 := .int .i64 r.t.depth)
        obtain ⟨e0, e1, e2, e3, e4, e5⟩ := hset.1.cells
        have HEE := hid (And.intro e0 (And.intro e1 (And.intro e2 (And.intro e3 (And.intro e4 (And.intro e5 hset.2))))))
        clear e0 e1 e2 e3 e4 e5 hset
        go_wp2_with fail
        obtain ⟨e0, e1, e2, e3, e4, e5, hset⟩ := HEE.out
        refine bodyPost_ret (v := .agg #[.int .i64 k5, .string (B n5), .int .i64 i5, .slice a5 len5 cap5, .int .i64 r.t.size, .int .i64 r.t.depth]) ?_ rfl ?_
        · simp [results, Tryz.f212, go_sem, e0, e1, e2, e3, e4, e5]
        · have hfin := of_fin (O := O) (w := w) (r0 := H) rfl HE.out (Rep.weaken (fun b _ e => e.elim .inl (fun e => .inr (.inl e))) _ _ hR5) hW5 ((hUw.mono (fun _ _ x => x.elim)).trans hU5 (fun _ _ e => e)) hset hHw hkw
          exact ⟨hfin.1, hfin.2.2⟩
      · have HE := hid he
        clear he
        go_wp2_with fail
        (with_reducible refine OA.mono ?_)
        rintro e w5 ⟨hOf, hW5, hU5⟩
        obtain rfl := hOf.bad HE.out
        unfold perr
        go_wp2_with fail
        exact ⟨rfl, .inr ⟨HE.out, rfl⟩, (hUw.mono (fun _ _ x => x.elim)).trans hU5 (fun _ _ e => e)⟩
end Go.Proofs.YtdomloghcpfdjaaGreatDoor
