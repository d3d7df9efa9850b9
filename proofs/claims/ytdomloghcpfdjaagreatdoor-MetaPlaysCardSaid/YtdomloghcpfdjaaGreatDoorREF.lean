/- subst's measure; run and its deferred closure. -/
import Derived.Test.YtdomloghcpfdjaaGreatDoorRCB
import Derived.Test.YtdomloghcpfdjaaGreatDoorRCJ
import Derived.Test.YtdomloghcpfdjaaGreatDoorRCK
import Derived.Test.YtdomloghcpfdjaaGreatDoorREA
import Derived.Test.YtdomloghcpfdjaaGreatDoorRED
import Derived.Test.YtdomloghcpfdjaaGreatDoorREE
import Derived.Deep.RegionHeld3
import Derived.Deep.RegionLaw
import Derived.Recover
namespace Go.Proofs.YtdomloghcpfdjaaGreatDoor
open Go.RowKit Go.LF
theorem TcS.set6 {b r : Nat} {a0 a1 a2 a3 : Value} {w : World} (h : TcS b a0 a1 a2 a3 w) (hne : b ≠ r) (d0 d1 d2 d3 d4 d5 : Value) :
    TcS b a0 a1 a2 a3 ((((((w.setCell ⟨r, 0, none⟩ d0).setCell ⟨r, 1, none⟩ d1).setCell ⟨r, 2, none⟩ d2).setCell ⟨r, 3, none⟩ d3).setCell ⟨r, 4, none⟩ d4).setCell ⟨r, 5, none⟩ d5) :=
  TcS.set (TcS.set (TcS.set (TcS.set (TcS.set (TcS.set h hne 0 _) hne 1 _) hne 2 _) hne 3 _) hne 4 _) hne 5 _
set_option maxRecDepth 100000 in
set_option maxHeartbeats 4000000 in
theorem measure_any (t : Tm) (hs : t.size ≤ 1000000) (O : Nat → Prop) (w : World) (hO : ∀ b, O b → b < w.heap.size) (k i : Int) (n : List UInt8) (a : Option Addr) (len cap : Nat) (h : Rep O w t.dat [.int .i64 k, .string (B n), .int .i64 i, .slice a len cap]) :
    Calls Tryz.prog 69 #[.agg #[.int .i64 k, .string (B n), .int .i64 i, .slice a len cap]] w fun e w' =>
      e = .returned (.agg #[.int .i64 k, .string (B n), .int .i64 i, .slice a len cap, .int .i64 t.size, .int .i64 t.depth]) ∧ Rep O w' t.dat [.int .i64 k, .string (B n), .int .i64 i, .slice a len cap] ∧ Upto none' w w' := by
  obtain ⟨w1, hw1⟩ : ∃ w1, w1 = (w.alloc (.cells #[.int .i64 k, .string (B n), .int .i64 i, .slice a len cap] 29)).alloc (.cells #[.int .i64 0, .string (B []), .int .i64 0, .slice none 0 0, .int .i64 0, .int .i64 0] 92) := ⟨_, rfl⟩
  have hU1 : Upto none' w w1 := by rw [hw1]; exact ((Upto.refl none' w).alloc _).alloc _
  have hb1 : Box4 w1 w.heap.size (.int .i64 k) (.string (B n)) (.int .i64 i) (.slice a len cap) 29 := by rw [hw1]; exact (Box4.at_new rfl).kept ((Upto.refl none' _).alloc _)
  have hr1 : Box6 w1 (w.heap.size + 1) (.int .i64 0) (.string (B [])) (.int .i64 0) (.slice none 0 0) (.int .i64 0) (.int .i64 0) 92 := by rw [hw1]; exact Box6.at_new (by simp)
  have hR1 := (Rep.freshO h).on hU1
  have C1 := fun (W : World) (hc : Rep none' W t.dat [.int .i64 k, .string (B n), .int .i64 i, .slice a len cap]) => size_any t hs W _ hc
  have C2 := fun (W : World) (hc : Rep none' W t.dat [.int .i64 k, .string (B n), .int .i64 i, .slice a len cap]) => depth_any t hs W _ hc
  have HW := hid hw1
  obtain ⟨H, hH⟩ : ∃ H, H = w.heap.size := ⟨_, rfl⟩
  have HH := hid hH
  rw [← hH] at hb1 hr1 hR1
  have HO := hid hO
  clear hw1 hH h hO hs
  generalize hz : t.size = ez at *
  generalize hd : t.depth = ed at *
  clear hz hd
  have S1 : TcS H (.int .i64 k) (.string (B n)) (.int .i64 i) (.slice a len cap) w1 := hb1.cells
  have hd : Upto none' w1 w1.drew := (Upto.refl none' w1).drew
  have Sd := S1.keep hd (fun x => x)
  have hne : H ≠ H + 1 := by omega
  have hrd := hr1.kept hd
  go_enter Tryz.func69, Tryz.ntmps69
  go_upto_region 1 with fail
  rw [← show B [] = { data := #[] } from rfl, ← HW.out, ← HH.out]
  go_region_held3 (fun w' => TcS H (.int .i64 k) (.string (B n)) (.int .i64 i) (.slice a len cap) w')
    (first | (with_reducible assumption) | (with_reducible exact Sd) | (with_reducible exact TcS.set6 S4 hne _ _ _ _ _ _))
    (first
      | ((go_at_call 150); (with_reducible refine (C1 _ (rep_pre (hR1.on hd))).mono ?_); rintro e w3 ⟨rfl, hU3⟩; have S3 := Sd.keep hU3 (fun x => x); have hr3 := hrd.kept hU3)
      | ((go_at_call 151); (with_reducible refine (C2 _ (rep_pre ((hR1.on hd).on hU3))).mono ?_); rintro e w4 ⟨rfl, hU4⟩; have S4 := S3.keep hU4 (fun x => x); have hr4 := hr3.kept hU4; have c8 := hr4.cells; have z8 := hr4.frozens; obtain ⟨c80, c81, c82, c83, c84, c85⟩ := c8; obtain ⟨z80, z81, z82, z83, z84, z85⟩ := z8))
  all_goals
    have hset := hr4.set (d0 := .int .i64 k) (d1 := .string (B n)) (d2 := .int .i64 i) (d3 := .slice a len cap) (d4 := .int .i64 ez) (d5 := .int .i64 ed)
    obtain ⟨e0, e1, e2, e3, e4, e5⟩ := hset.1.cells
    have HEE := hid (And.intro e0 (And.intro e1 (And.intro e2 (And.intro e3 (And.intro e4 (And.intro e5 hset.2))))))
    clear e0 e1 e2 e3 e4 e5 hset
    go_wp2_with fail
    obtain ⟨e0, e1, e2, e3, e4, e5, hset⟩ := HEE.out
    refine bodyPost_ret (v := .agg #[.int .i64 k, .string (B n), .int .i64 i, .slice a len cap, .int .i64 ez, .int .i64 ed]) ?_ rfl ?_
    · simp [results, Tryz.f69, go_sem, e0, e1, e2, e3, e4, e5]
    · exact ⟨rfl, Rep.weaken (fun b _ e => .inl e) _ _ (Rep.keep hset (fun b e => .inr (by omega)) _ _ (((hR1.on hd).on hU3).on hU4)), (((hU1.and hd).and hU3).and hU4).trans hset (fun b hb e => by have := HH.out; omega)⟩
/-- A box with one cell, of an error. -/
abbrev EBox (W : World) (b : Nat) (e : Int) : Prop := W.heap[b]? = some (.cells #[.int .i64 e] 36 (0, 0))
theorem ebox_cell {W : World} {b : Nat} {e : Int} (h : EBox W b e) : W.cell? ⟨b, 0, none⟩ = some (.int .i64 e) ∧ W.frozen? ⟨b, 0, none⟩ = false ∧ b < W.heap.size := ⟨by simp [World.cell?, h], by simp [World.frozen?, h], (Array.getElem?_eq_some_iff.1 h).1⟩
theorem ebox_keep {W W' : World} {b : Nat} {e : Int} {S : Nat → Prop} (h : EBox W b e) (hU : Upto S W W') (hS : ¬ S b) : EBox W' b e := (hU.block b (ebox_cell h).2.2 hS).trans h
theorem ebox_set {W : World} {b : Nat} {e : Int} (h : EBox W b e) (e' : Int) : EBox (W.setCell ⟨b, 0, none⟩ (.int .i64 e')) b e' := by
  obtain ⟨hlt, hk⟩ := Array.getElem?_eq_some_iff.1 h
  show (W.heap.modify b _)[b]? = _
  rw [Array.getElem?_eq_getElem (by rw [Array.size_modify]; exact hlt), Array.getElem_modify_self, hk]
  rfl
set_option maxRecDepth 100000 in
set_option maxHeartbeats 4000000 in
theorem catch_idle (p q : Nat) (w : World) :
    CallsD Tryz.prog 149 #[.pointer (some ⟨p, 0, none⟩), .pointer (some ⟨q, 0, none⟩)] .returning w fun e u' w' => e = .returned (.tuple #[]) ∧ u' = .returning ∧ w' = w := by
  refine callsD_of_wpS Tryz.func149 rfl fun c₀ cs hu => ?_
  apply wpS_seq
  apply wpS_region
  simp [wpOpsS, go_sem, recoverD, hu, Tryz.ntmps149, Exit.thenS]
  rw [show (Array.replicate 11 undef) = #[undef, undef, undef, undef, undef, undef, undef, undef, undef, undef, undef] from rfl]
  simp only [List.setIfInBounds_toArray, List.set_cons_succ, List.set_cons_zero, List.append_toArray, List.cons_append, List.nil_append]
  refine wpS_of_wp ?_
  go_wp2_with fail
  cases c₀
  simp_all [bodyPostS, results, Tryz.results149]
theorem errno_assert (ev : Int) (xt : TypeId) (w : World) : Sem.run Tryz.prog (Instr.typeAssert (.iface 36 (.int .i64 ev)) xt 36 true) w = .ok (.tuple #[.int .i64 ev, .bool true]) w := by
  have hu : Tryz.prog.underlying 36 = Tryz.prog.underlying 3 := by kernel_rfl
  have h3 := Tryz.underlying3
  rw [h3] at hu
  unfold Instr.typeAssert
  simp [run_underlying hu]
set_option maxRecDepth 100000 in
set_option maxHeartbeats 4000000 in
theorem catch_panicking (p q : Nat) (hpq : p ≠ q) (x y z : Int) (xn : List UInt8) (xa : Option Addr) (xl xc : Nat) (ev : Int) (older : List PanicEntry) (w : World) (hp : Box4 w p (.int .i64 x) (.string (B xn)) (.int .i64 y) (.slice xa xl xc) 29) (hq : EBox w q z) :
    CallsD Tryz.prog 149 #[.pointer (some ⟨p, 0, none⟩), .pointer (some ⟨q, 0, none⟩)] (.panicking ({ v := .iface 36 (.int .i64 ev), recovered := false } :: older)) w fun e u' w' =>
      e = .returned (.tuple #[]) ∧ u' = .panicking ({ v := .iface 36 (.int .i64 ev), recovered := true } :: older) ∧
        w' = ((((w.setCell ⟨p, 0, none⟩ (.int .i64 0)).setCell ⟨p, 1, none⟩ (.string (B []))).setCell ⟨p, 2, none⟩ (.int .i64 0)).setCell ⟨p, 3, none⟩ (.slice none 0 0)).setCell ⟨q, 0, none⟩ (.int .i64 ev) := by
  obtain ⟨c0, c1, c2, c3⟩ := hp.cells
  obtain ⟨f0, f1, f2, f3⟩ := hp.frozens
  obtain ⟨d0, d1, _⟩ := ebox_cell hq
  have hne : q ≠ p := fun e => hpq e.symm
  have hta := errno_assert ev
  refine callsD_of_wpS Tryz.func149 rfl fun c₀ cs hu => ?_
  apply wpS_seq
  apply wpS_region
  simp [wpOpsS, go_sem, recoverD, hu, Tryz.ntmps149, Exit.thenS]
  rw [show (Array.replicate 11 undef) = #[undef, undef, undef, undef, undef, undef, undef, undef, undef, undef, undef] from rfl]
  simp only [List.setIfInBounds_toArray, List.set_cons_succ, List.set_cons_zero, List.append_toArray, List.cons_append, List.nil_append]
  refine wpS_of_wp ?_
  go_wp2_with fail
  refine ⟨rfl, _, rfl, .tuple #[], ?_, rfl, rfl, rfl⟩
  simp [results, Tryz.results149]
theorem field_made (k i s d : Int) (n : List UInt8) (a : Option Addr) (len cap : Nat) (w : World) : Sem.run Tryz.prog (Instr.field 92 (.agg #[.int .i64 k, .string (B n), .int .i64 i, .slice a len cap, .int .i64 s, .int .i64 d]) 0) w = .ok (.agg #[.int .i64 k, .string (B n), .int .i64 i, .slice a len cap]) w := by
  kernel_rfl
set_option maxRecDepth 100000 in
set_option maxHeartbeats 8000000 in
theorem subRun_any (F : FuncId) (caps : List Value) (r : Tm.Res) (hrt : r.e ≠ 0 → r.t = Tm.none0) (O : Nat → Prop) (w : World)
    (hFE : ∀ args w, Sem.run Tryz.prog (callFunc F args) w = .ok (Next.enter F args) w)
    (hF : ∀ (W : World) (wk : Nat), Upto none' w W → wk = w.heap.size + 1 + 1 → W.heap.size = w.heap.size + 3 → Work wk 0 W → Calls Tryz.prog F (.pointer (some ⟨wk, 0, none⟩) :: caps).toArray W fun e W' => OfR (fun b => O b ∨ (w.heap.size ≤ b ∧ b < w.heap.size + 3)) r e W' ∧ Upto (fun b => b = wk) W W') :
    Calls Tryz.prog 67 #[.func (.func F) #[] caps.toArray] w fun e w' => ∃ (k i : Int) (n : List UInt8) (a : Option Addr) (len cap : Nat), e = .returned (.tuple #[.agg #[.int .i64 k, .string (B n), .int .i64 i, .slice a len cap], .int .i64 r.e]) ∧
      Rep O w' r.t.dat [.int .i64 k, .string (B n), .int .i64 i, .slice a len cap] ∧ Upto none' w w' := by
  have hmf : ∀ (fn : Fn) (first cap : Array Value) (w : World), (Instr.makeFunc fn first cap).run Tryz.prog w = .ok (.func fn first cap) w := fun _ _ _ _ => rfl
  obtain ⟨w1, hw1⟩ : ∃ w1, w1 = ((w.alloc (.cells #[.int .i64 0, .string (B []), .int .i64 0, .slice none 0 0] 29)).alloc (.cells #[.int .i64 0] 36)).alloc (.cells #[.int .i64 0] 3) := ⟨_, rfl⟩
  have hU1 : Upto none' w w1 := by rw [hw1]; exact (((Upto.refl none' w).alloc _).alloc _).alloc _
  have ht1 : Box4 w1 w.heap.size (.int .i64 0) (.string (B [])) (.int .i64 0) (.slice none 0 0) 29 := by rw [hw1]; exact ((Box4.at_new rfl).kept ((Upto.refl none' _).alloc _)).kept ((Upto.refl none' _).alloc _)
  have he1 : EBox w1 (w.heap.size + 1) 0 := by
    rw [hw1]
    have h := heap_alloc_new (w.alloc (.cells #[.int .i64 0, .string (B []), .int .i64 0, .slice none 0 0] 29)) (.cells #[.int .i64 0] 36)
    rw [World.size_alloc] at h
    exact ebox_keep h ((Upto.refl none' _).alloc _) (fun x => x)
  have hk1 : Work (w.heap.size + 1 + 1) 0 w1 := by
    rw [hw1]
    have h := heap_alloc_new ((w.alloc (.cells #[.int .i64 0, .string (B []), .int .i64 0, .slice none 0 0] 29)).alloc (.cells #[.int .i64 0] 36)) (.cells #[.int .i64 0] 3)
    rw [World.size_alloc, World.size_alloc] at h
    exact h
  have hz1 : w1.heap.size = w.heap.size + 3 := by rw [hw1]; simp
  have CF := hF w1 _ hU1 rfl hz1 hk1
  have HW := hid hw1
  obtain ⟨H, hH⟩ : ∃ H, H = w.heap.size := ⟨_, rfl⟩
  have HH := hid hH
  rw [← hH] at ht1 he1 hk1 CF
  clear hw1 hH hF hz1
  go_enter_defers Tryz.func67, Tryz.ntmps67
  go_wp2_with fail
  rw [← show B [] = { data := #[] } from rfl, ← HW.out, ← HH.out]
  by_cases he : r.e = 0
  · have HE := hid he
    clear he
    (with_reducible refine CF.mono ?_)
    rintro e w2 ⟨hOf, hU2⟩
    obtain ⟨k, n, i, a, len, cap, rfl, hR2⟩ := hOf.ok HE.out
    have ht2 := ht1.keep hU2 (by omega)
    have he2 := ebox_keep he1 hU2 (by omega)
    obtain ⟨c0, c1, c2, c3⟩ := ht2.cells
    obtain ⟨f0, f1, f2, f3⟩ := ht2.frozens
    obtain ⟨d0, d1, d2⟩ := ebox_cell he2
    have hsett := ht2.set (d0 := .int .i64 k) (d1 := .string (B n)) (d2 := .int .i64 i) (d3 := .slice a len cap)
    have hn : H ≠ H + 1 := by omega
    have HS := hid hsett
    have hfm := field_made k i r.t.size r.t.depth n a len cap
    clear hsett
    go_wp2_with fail
    obtain ⟨g1, g2⟩ := HS.out
    have g3 : Upto (fun b => b = H + 1) ((((w2.setCell ⟨H, 0, none⟩ (.int .i64 k)).setCell ⟨H, 1, none⟩ (.string (B n))).setCell ⟨H, 2, none⟩ (.int .i64 i)).setCell ⟨H, 3, none⟩ (.slice a len cap)) (((((w2.setCell ⟨H, 0, none⟩ (.int .i64 k)).setCell ⟨H, 1, none⟩ (.string (B n))).setCell ⟨H, 2, none⟩ (.int .i64 i)).setCell ⟨H, 3, none⟩ (.slice a len cap)).setCell ⟨H + 1, 0, none⟩ (.int .i64 0)) := Upto.set (Upto.refl _ _) 0 _
    have g4 := (g1.keep g3 hn).cells
    have g5 := (ebox_cell (ebox_set (ebox_keep he2 g2 hn.symm) 0)).1
    have gR := Rep.weaken (fun b _ e => .inl e) _ _ (Rep.keep g3 (fun b e => .inr (by omega : H ≤ b ∧ b < H + 3)) _ _ (Rep.keep g2 (fun b e => .inr (by omega : H ≤ b ∧ b < H + 3)) _ _ hR2))
    have gU : Upto none' w (((((w2.setCell ⟨H, 0, none⟩ (.int .i64 k)).setCell ⟨H, 1, none⟩ (.string (B n))).setCell ⟨H, 2, none⟩ (.int .i64 i)).setCell ⟨H, 3, none⟩ (.slice a len cap)).setCell ⟨H + 1, 0, none⟩ (.int .i64 0)) := ((hU1.trans hU2 (fun b hb e => by have := HH.out; omega)).trans g2 (fun b hb e => by have := HH.out; omega)).trans g3 (fun b hb e => by have := HH.out; omega)
    obtain ⟨g40, g41, g42, g43⟩ := g4
    refine leaves_cons (f := 149) (args := #[.pointer (some ⟨H, 0, none⟩), .pointer (some ⟨H + 1, 0, none⟩)]) (by simp) (by simp [go_sem]) ?_
    refine (catch_idle H (H + 1) _).mono ?_
    rintro e u' w4 ⟨rfl, rfl, rfl⟩
    refine ⟨.tuple #[.agg #[.int .i64 k, .string (B n), .int .i64 i, .slice a len cap], .int .i64 0], ?_, k, i, n, a, len, cap, by rw [HE.out], gR, gU⟩
    simp [results, Tryz.f67, go_sem, g40, g41, g42, g43, g5]
  · have HE := hid he
    clear he
    (with_reducible refine CF.mono ?_)
    rintro e w2 ⟨hOf, hU2⟩
    obtain rfl := hOf.bad HE.out
    unfold perr
    go_wp2_with fail
    have hn : H ≠ H + 1 := by omega
    have ht2 := ht1.keep hU2 (by omega)
    have he2 := ebox_keep he1 hU2 (by omega)
    obtain ⟨g1, g2⟩ := ht2.set (d0 := .int .i64 0) (d1 := .string (B [])) (d2 := .int .i64 0) (d3 := .slice none 0 0)
    have g3 : Upto (fun b => b = H + 1) ((((w2.setCell ⟨H, 0, none⟩ (.int .i64 0)).setCell ⟨H, 1, none⟩ (.string (B []))).setCell ⟨H, 2, none⟩ (.int .i64 0)).setCell ⟨H, 3, none⟩ (.slice none 0 0)) (((((w2.setCell ⟨H, 0, none⟩ (.int .i64 0)).setCell ⟨H, 1, none⟩ (.string (B []))).setCell ⟨H, 2, none⟩ (.int .i64 0)).setCell ⟨H, 3, none⟩ (.slice none 0 0)).setCell ⟨H + 1, 0, none⟩ (.int .i64 r.e)) := Upto.set (Upto.refl _ _) 0 _
    have g4 := (g1.keep g3 hn).cells
    have g5 := (ebox_cell (ebox_set (ebox_keep he2 g2 hn.symm) r.e)).1
    have gU : Upto none' w (((((w2.setCell ⟨H, 0, none⟩ (.int .i64 0)).setCell ⟨H, 1, none⟩ (.string (B []))).setCell ⟨H, 2, none⟩ (.int .i64 0)).setCell ⟨H, 3, none⟩ (.slice none 0 0)).setCell ⟨H + 1, 0, none⟩ (.int .i64 r.e)) := ((hU1.trans hU2 (fun b hb e => by have := HH.out; omega)).trans g2 (fun b hb e => by have := HH.out; omega)).trans g3 (fun b hb e => by have := HH.out; omega)
    obtain ⟨g40, g41, g42, g43⟩ := g4
    refine leaves_cons (f := 149) (args := #[.pointer (some ⟨H, 0, none⟩), .pointer (some ⟨H + 1, 0, none⟩)]) (by simp) (by simp [go_sem]) ?_
    refine (catch_panicking H (H + 1) hn 0 0 0 [] none 0 0 r.e [] w2 ht2 he2).mono ?_
    rintro e u' w4 ⟨rfl, rfl, rfl⟩
    refine ⟨.tuple #[.agg #[.int .i64 0, .string (B []), .int .i64 0, .slice none 0 0], .int .i64 r.e], ?_, 0, 0, [], none, 0, 0, rfl, ?_, gU⟩
    · simp [results, Tryz.f67, go_sem, g40, g41, g42, g43, g5]
    · rw [hrt HE.out]
      exact rep_leaf 0 [] 0
end Go.Proofs.YtdomloghcpfdjaaGreatDoor
namespace Go.Proofs.YtdomloghcpfdjaaGreatDoor
open Go.RowKit Go.LF
theorem Box3.set1 {W : World} {g : Nat} {c0 c1 c2 : Value} {T : TypeId} (h : Box3 W g c0 c1 c2 T) (v : Value) : Box3 (W.setCell ⟨g, 1, none⟩ v) g c0 v c2 T := by
  obtain ⟨hlt, hk⟩ := Array.getElem?_eq_some_iff.1 h
  show (W.heap.modify g _)[g]? = _
  rw [Array.getElem?_eq_getElem (by rw [Array.size_modify]; exact hlt), Array.getElem_modify_self, hk]
  rfl
theorem Box3.frozens {W : World} {g : Nat} {c0 c1 c2 : Value} {T : TypeId} (h : Box3 W g c0 c1 c2 T) (o : Nat) : W.frozen? ⟨g, o, none⟩ = false := by unfold Box3 at h; simp [World.frozen?, h]
theorem Box3.rowD {W W' : World} {g : Nat} {c0 c1 c2 : Value} {T T' : TypeId} {wd : Nat} {O : Nat → Prop} {base : Nat} {v : Value} {ds : List Dat} {css : List (List Value)} (h : Box3 W g c0 c1 c2 T) (hg : W.grownBy W' v.ownBlock) (ht : RowD T' wd O base W v ds css) (hb : g < base) : Box3 W' g c0 c1 c2 T :=
  (hg.block g h.lt (fun e => by have := (ht.2.2.1.lt g e.symm).1; omega)).trans h
end Go.Proofs.YtdomloghcpfdjaaGreatDoor
