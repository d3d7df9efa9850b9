/- The erasure of a type or a kind: the program's function. -/
import Derived.Test.YtdomloghcpfdjaaGreatDoorRCA
import Derived.Test.YtdomloghcpfdjaaGreatDoorRCF
import Derived.Test.YtdomloghcpfdjaaGreatDoorRCJ
import Derived.Test.YtdomloghcpfdjaaGreatDoorRCN
import Derived.Deep.RegionLaw
namespace Go.LF.Tm
mutual
/-- The erasure. -/
def er : Tm → Sm
  | mk k n _ l => if k == 2 then erA l else if k == 1 then .mk [116, 121, 112, 101] [] else .mk n []
def erA : List Tm → Sm
  | a :: b :: _ => .mk (er b).fam (er a :: (er b).args)
  | _ => .mk [] []
end
theorem er_mk (k n i l) : er (mk k n i l) = if k == 2 then erA l else if k == 1 then .mk [116, 121, 112, 101] [] else .mk n [] := by rw [er]
theorem erA_two (a b : Tm) : erA [a, b] = .mk (er b).fam (er a :: (er b).args) := by rw [erA]
end Go.LF.Tm
namespace Go.Proofs.YtdomloghcpfdjaaGreatDoor
open Go.RowKit Go.LF
/-- What a call that erases hands back: all of it in new blocks. -/
def MakesE (s : Sm) (w : World) (e : Ending) (w' : World) : Prop :=
  ∃ (f : List UInt8) (a : Option Addr) (len cap : Nat), e = .returned (.agg #[.string (B f), .slice a len cap]) ∧ Rep (fun b => b < w.heap.size) w' s.dat [.string (B f), .slice a len cap] ∧ Upto none' w w'
/-- How long the row of a simple type's arguments is, in its box. -/
def rowLen (W : World) (g : Nat) : Nat := match W.cell? ⟨g, 1, none⟩ with | some (.slice _ l _) => l | _ => 0
set_option maxRecDepth 100000 in
set_option maxHeartbeats 16000000 in
theorem erase_step (N : Nat) (hN : N ≤ 100000) (ih : ∀ (t : Tm), t.size < N → t.Any3 → ∀ (w : World) (cs : List Value), Rep none' w t.dat cs → Calls Tryz.prog 160 #[.agg cs.toArray] w (MakesE t.er w))
    (t : Tm) (hsz : t.size ≤ N) (hany : t.Any3) (w : World) (cs : List Value) (h : Rep none' w t.dat cs) : Calls Tryz.prog 160 #[.agg cs.toArray] w (MakesE t.er w) := by
  obtain ⟨k0, n0, i0, ts0, a0, cap0, ht, rfl, hcap0, _⟩ := tm_open h
  obtain ⟨r, hr⟩ : ∃ r, r = t.er := ⟨_, rfl⟩
  rw [← hr]
  obtain ⟨w1, hw1⟩ : ∃ w1, w1 = ((w.alloc (.cells #[.int .i64 k0, .string (B n0), .int .i64 i0, .slice a0 ts0.length cap0] 29)).alloc (.cells #[.string (B []), .slice none 0 0] 33)).alloc (.cells #[.string (B []), .slice none 0 0] 33) := ⟨_, rfl⟩
  have hU1 : Upto none' w w1 := by rw [hw1]; exact (((Upto.refl none' w).alloc _).alloc _).alloc _
  have hB1 : Box4 w1 w.heap.size (.int .i64 k0) (.string (B n0)) (.int .i64 i0) (.slice a0 ts0.length cap0) 29 := by rw [hw1]; exact ((Box4.at_new rfl).kept ((Upto.refl none' _).alloc _)).kept ((Upto.refl none' _).alloc _)
  have hS1 : Box2 w1 (w.heap.size + 1) (.string (B [])) (.slice none 0 0) 33 := by rw [hw1]; exact (Box2.at_new (by simp)).kept ((Upto.refl none' _).alloc _)
  have hO1 : Box2 w1 (w.heap.size + 1 + 1) (.string (B [])) (.slice none 0 0) 33 := by rw [hw1]; exact Box2.at_new (by simp)
  have hz1 : w1.heap.size = w.heap.size + 3 := by rw [hw1]; simp
  have hR1 : Rep (fun b => w.heap.size ≤ b) w1 t.dat [.int .i64 k0, .string (B n0), .int .i64 i0, .slice a0 ts0.length cap0] := (Rep.fresh h).on hU1
  have HW1 := hid hw1
  obtain ⟨H, hH⟩ : ∃ H, H = w.heap.size := ⟨_, rfl⟩
  have HH := hid hH
  rw [← hH] at hB1 hR1 hS1 hO1 hz1
  obtain ⟨i0', hi, hi0, hi1, hi2⟩ := info_parts info_simple
  have HR := hid hr
  have HT := hid (And.intro ht (And.intro hsz hany))
  clear hw1 hH hcap0 h hr ht hsz hany
  go_enter Tryz.func160, Tryz.ntmps160
  go_wp2_with fail
  rw [← show B [] = { data := #[] } from rfl, ← HW1.out, ← HH.out]
  go_loopw [] (fun wr => ∃ (k i : Int) (n : List UInt8) (a : Option Addr) (ts : List Tm) (cap : Nat) (v : Value) (ss : List Sm) (css : List (List Value)), (Tm.mk k n i ts).Any3 ∧ (Tm.mk k n i ts).size + ss.length ≤ N ∧ r = .mk (Tm.mk k n i ts).er.fam (ss ++ (Tm.mk k n i ts).er.args) ∧
      Rep (fun b => H ≤ b) wr (Tm.mk k n i ts).dat [.int .i64 k, .string (B n), .int .i64 i, .slice a ts.length cap] ∧ Box4 wr H (.int .i64 k) (.string (B n)) (.int .i64 i) (.slice a ts.length cap) 29 ∧
      Sims (H + 3) wr v ss css ∧ Box2 wr (H + 1 + 1) (.string (B [])) v 33 ∧ Box2 wr (H + 1) (.string (B [])) (.slice none 0 0) 33 ∧ H + 3 ≤ wr.heap.size ∧ Upto none' w wr)
    (fun wr => N - rowLen wr (H + 1 + 1))
  case atStart =>
    obtain ⟨h1, h2, h3⟩ := HT.out
    have h4 := HR.out
    rw [h1] at h2 h3 h4 hR1
    exact ⟨_, _, _, _, _, _, _, [], [], h3, by simpa using h2, by rw [h4]; cases (Tm.mk k0 n0 i0 ts0).er; rfl, hR1, hB1, Sims.nil _ _, hO1, hS1, by omega, hU1⟩
  case round =>
    clear hR1 hB1 hS1 hO1 hU1 hz1
    obtain ⟨k, i, nm, a, ts, cap, v, ss, css, hany, hsz, hr, hR, hB, hts, hout, hres, hbr, hU⟩ := hrel
    obtain ⟨b0, b1, b2, b3⟩ := hB.cells
    obtain ⟨f0, f1, f2, f3⟩ := hB.frozens
    obtain ⟨o0, o1⟩ := hout.cells
    obtain ⟨z0, z1⟩ := hout.frozens
    obtain ⟨_, _, e0, hcap, hE⟩ := rep_tm.1 hR
    simp only [List.cons.injEq, Value.slice.injEq, and_true, true_and] at e0
    obtain ⟨rfl, rfl⟩ := e0
    have hrl : rowLen wr (H + 1 + 1) = ss.length := by obtain ⟨va, vcap, hv, _⟩ := hts.rep; simp only [rowLen, o1, hv]
    have HRL := hid hrl
    clear hrl
    have hal := Tm.any3_args hany
    have HQ := hid (And.intro hany (And.intro hsz hr))
    have hssN : ss.length ≤ 100000 := by have := Tm.size_pos (Tm.mk k nm i ts); omega
    by_cases hk : k = 2
    · have hk2 : (k == 2) = true := by simp [hk]
      have hlen := hal.2.2.2 hk
      obtain ⟨x, y, rfl⟩ : ∃ x y, ts = [x, y] := by
        match ts, hlen with
        | [x, y], _ => exact ⟨x, y, rfl⟩
      obtain ⟨gb, go', k1, n1, x1, s1, c1, rfl, hgl, hgO, g0, g1, g2, g3, hR1⟩ := arg_tm hE 0 (by simp)
      obtain ⟨gb', go2, k2, n2, x2, s2, c2, ega, hgl2, hgO2, p0, p1, p2, p3, hR2⟩ := arg_tm hE 1 (by simp)
      simp only [Option.some.injEq, Addr.mk.injEq, and_true] at ega
      obtain ⟨rfl, rfl⟩ := ega
      simp only [List.getElem_cons_zero, List.getElem_cons_succ, Nat.zero_mul, Nat.one_mul, Nat.add_zero] at g0 g1 g2 g3 hR1 p0 p1 p2 p3 hR2
      obtain ⟨us, rfl, hul, hc1, hE1⟩ := tm_tie hR1
      obtain ⟨us2, rfl, hul2, hc2, hE2⟩ := tm_tie hR2
      simp only [Tm.args_mk] at g3 p3 hR1 hR2
      have IH := fun W (hW : Upto none' wr W) => ih (.mk k1 n1 x1 us) (by have := HQ.out.2.1; simp [Tm.sizes] at this; simp; omega) (hal.1 _ (by simp)) W _ (Rep.weaken (fun _ _ x => x.elim) _ _ (hR1.on hW))
      have HK := hid hk
      have HY := hid (hal.1 _ (List.mem_cons_of_mem _ (List.mem_cons_self ..)))
      clear hk hal hE hE1 hE2 hany hsz hr hR hul hul2 ih hlen hR1
      simp only [List.length_cons, List.length_nil, Nat.zero_add, Nat.reduceAdd] at b3 hB
      go_wp2_with fail
      go_region_law (first
        | ((rw [if_pos (by rfl)]); go_simp; (go_at_call 160); refine (IH _ (Upto.refl none' wr).drew).mono ?_; rintro e w6 ⟨f1', a1, len1, cap1, rfl, hR6, hU6⟩; have hU6' : Upto none' wr w6 := (Upto.refl none' wr).drew.and hU6; have hout6 := hout.kept hU6'; have q6 := hout6.lt; have c6 := hout6.cells.2; have y6 := hout6.frozens.2; have hs6 := hU6'.size; have hts6 := hts.on hU6')
        | (refine step_append_lies _ (by rfl) _ _ 31 (by rfl) (H + 3) 33 i0' (.agg #[.string (B []), .slice none 0 0]) 2 40 (by kernel_rfl) hi hi0 hi1 hi2 rfl (by decide) v ss.length css.flatten (by rfl) ((hts6.on ((Upto.refl none' w6).alloc _)).2.2.1) ⟨w6.heap.size, 0, none⟩ 1 1 [.string (B f1'), .slice a1 len1 cap1] (by rfl) rfl (World.news_of_block (heap_alloc_new w6 _)) (by simp [Value.oneCell']) (by omega) (by simp only [maxLen]; omega) (by omega) (by simp; omega) _ rfl ?_; intro g cap' w7 hown hgrow hat hlt; have hout7 := (hout6.kept ((Upto.refl none' w6).alloc _)).row hgrow (hts6.on ((Upto.refl none' w6).alloc _)) (by omega); have c7 := hout7.cells.2; have y7 := hout7.frozens.2))
      all_goals
        have hal6 : Upto none' w6 (w6.alloc (.cells #[.string (B f1'), .slice a1 len1 cap1] 33)) := (Upto.refl none' w6).alloc _
        have hts6' := hts6.on hal6
        have hR6' : Rep (fun b => b < H + 3 ∨ v.ownBlock = some b) (w6.alloc (.cells #[.string (B f1'), .slice a1 len1 cap1] 33)) (Tm.mk k1 n1 x1 us).er.dat [.string (B f1'), .slice a1 len1 cap1] := by
          refine (Rep.weaken (fun b _ e => ?_) _ _ hR6).new _
          rcases e with e | e
          · exact Nat.lt_of_lt_of_le e hbr
          · exact (hts.2.2.1.lt b e).2
        have hT7 := hts6'.appended rfl hR6' hown hgrow hat (Nat.le_refl _)
        have hset7 : Upto (fun b => b = H + 1 + 1) w7 (w7.setCell ⟨H + 1 + 1, 1, none⟩ (.slice (some ⟨g, 0, none⟩) (ss.length + 1) cap')) := Upto.set (Upto.refl _ _) 1 _
        have hrow7 := Upto.ofRow (RowUp.grown hts6'.2.2.1 hgrow)
        have hU8 : Upto (fun b => H + 1 + 1 ≤ b) wr (w7.setCell ⟨H + 1 + 1, 1, none⟩ (.slice (some ⟨g, 0, none⟩) (ss.length + 1) cap')) :=
          (((hU6'.and hal6).mono (fun _ _ x => x.elim)).trans (hrow7.mono (fun b _ e => by omega)) (fun _ _ x => x)).trans (hset7.mono (fun b _ e => by omega)) (fun _ _ x => x)
        have hw8 : Upto none' w (w7.setCell ⟨H + 1 + 1, 1, none⟩ (.slice (some ⟨g, 0, none⟩) (ss.length + 1) cap')) := hU.trans hU8 (fun b hb e => by have := HH.out; omega)
        have hT8 := hT7.keep hset7 (fun b e => by omega)
        have hout8 := hout7.set1 (.slice (some ⟨g, 0, none⟩) (ss.length + 1) cap')
        have hz8 : H + 3 ≤ (w7.setCell ⟨H + 1 + 1, 1, none⟩ (.slice (some ⟨g, 0, none⟩) (ss.length + 1) cap')).heap.size := by have := hU8.size; omega
        generalize w7.setCell ⟨H + 1 + 1, 1, none⟩ (.slice (some ⟨g, 0, none⟩) (ss.length + 1) cap') = w8 at *
        have hB8 := hB.keep hU8 (by omega)
        have hres8 := hres.keep hU8 (by omega)
        have r0 := hU8.cell p0 (fun e : H + 1 + 1 ≤ gb => hgO (by omega))
        have r1 := hU8.cell p1 (fun e : H + 1 + 1 ≤ gb => hgO (by omega))
        have r2 := hU8.cell p2 (fun e : H + 1 + 1 ≤ gb => hgO (by omega))
        have r3 := hU8.cell p3 (fun e : H + 1 + 1 ≤ gb => hgO (by omega))
        have hR8 := Rep.keep hU8 (fun b e => by omega) _ _ hR2
        clear b0 b1 b2 b3 f0 f1 f2 f3 o0 o1 z0 z1 p0 p1 p2 p3 g0 g1 g2 g3 hR2 hR6 hR6' hU6 hU6' hout hout6 hout7 c6 c7 y6 y7 hts hts6 hts6' hT7 hset7 hrow7 hU8 hal6 hB hres hU hown hgrow IH
        obtain ⟨b0, b1, b2, b3⟩ := hB8.cells
        obtain ⟨f0, f1, f2, f3⟩ := hB8.frozens
        go_wp2_with fail
        have hset9 := hB8.set (d0 := .int .i64 k2) (d1 := .string (B n2)) (d2 := .int .i64 x2) (d3 := .slice s2 us2.length c2)
        have hR9 := Rep.keep hset9.2 (fun b e => by omega) _ _ hR8
        go_roundw
        case rel =>
          obtain ⟨q1, q2, q3⟩ := HQ.out
          refine ⟨k2, x2, n2, s2, us2, c2, _, ss ++ [(Tm.mk k1 n1 x1 us).er], _, HY.out, by simp [Tm.sizes] at q2 ⊢; omega, ?_, hR9, hset9.1, by simpa using hT8.keep hset9.2 (fun b e => by omega), hout8.keep hset9.2 (by omega), hres8.keep hset9.2 (by omega), by have := hset9.2.size; omega, hw8.trans hset9.2 (fun b hb e => by have := HH.out; omega)⟩
          rw [q3, Tm.er_mk, if_pos hk2, Tm.erA_two]
          simp
        case measure =>
          have e1 : rowLen wr (H + 1 + 1) = ss.length := HRL.out
          have hc9 := (hout8.keep hset9.2 (by omega)).cells.2
          have := HQ.out.2.1
          simp only [rowLen, hc9]
          simp only [rowLen] at e1
          simp [Tm.sizes] at this
          omega
    · have hk2 : (k == 2) = false := by simp [hk]
      obtain ⟨va, vcap, rfl, hvc, hvE⟩ := hts.rep
      obtain ⟨q0, q1⟩ := hres.cells
      obtain ⟨y0, y1⟩ := hres.frozens
      obtain ⟨len, hlen⟩ : ∃ len, len = ss.length := ⟨_, rfl⟩
      rw [← hlen] at hout hvc o1
      have HL := hid hlen
      obtain ⟨fm, hfm⟩ : ∃ fm : List UInt8, fm = if k = 1 then [116, 121, 112, 101] else nm := ⟨_, rfl⟩
      have hrr : r = .mk fm ss := by
        rw [HQ.out.2.2, Tm.er_mk, if_neg (by simp [hk2]), hfm]
        by_cases h1 : k = 1
        · rw [if_pos (by simp [h1]), if_pos h1]; simp
        · rw [if_neg (by simp [h1]), if_neg h1]; simp
      have fin : ∀ W9, Upto (fun b => b = H + 1 ∨ b = H + 1 + 1) wr W9 → MakesE r w (.returned (.agg #[.string (B fm), .slice va len vcap])) W9 := by
        intro W9 hU9
        rw [hrr]
        refine ⟨fm, va, len, vcap, rfl, rep_sm.2 ⟨va, vcap, by rw [HL.out], by have := HL.out; omega, ?_⟩, hU.trans hU9 (fun b hb e => by have := HH.out; omega)⟩
        exact RepE.weaken (fun b _ e => by have := HH.out; omega) _ _ _ _ (RepE.keep hU9 (fun b e => by omega) _ _ _ _ hvE)
      have HF := hid fin
      clear fin hrr hvE hlen hts hal hE hR hany hsz hr hk ih
      by_cases h1 : k = 1
      · have hk1 : (k == 1) = true := by simp [h1]
        have hf1 : fm = [116, 121, 112, 101] := by rw [hfm, if_pos h1]
        clear hfm h1
        have HF1 := hid hf1
        clear hf1
        have hU8 : Upto (fun b => b = H + 1 + 1) wr ((wr.setCell ⟨H + 1 + 1, 0, none⟩ (.string (B nm))).setCell ⟨H + 1 + 1, 0, none⟩ (.string (B [116, 121, 112, 101]))) := Upto.set (Upto.set (Upto.refl _ _) 0 _) 0 _
        have hset9 := (hres.keep hU8 (by omega)).set (d0 := .string (B [116, 121, 112, 101])) (d1 := .slice va len vcap)
        obtain ⟨e0, e1⟩ := hset9.1.cells
        have hUu := (hU8.mono (S' := fun b => b = H + 1 ∨ b = H + 1 + 1) (fun b _ e => .inr e)).trans (hset9.2.mono (S' := fun b => b = H + 1 ∨ b = H + 1 + 1) (fun b _ e => .inl e)) (fun _ _ x => x)
        have HE := hid (And.intro e0 (And.intro e1 hUu))
        clear e0 e1 hUu hset9 hU8
        go_wp2_with fail
        obtain ⟨e0, e1, hUu⟩ := HE.out
        refine bodyPost_ret (v := .agg #[.string (B [116, 121, 112, 101]), .slice va len vcap]) ?_ rfl ?_
        · simp [results, Tryz.f160, go_sem, e0, e1]
        · have := HF.out _ hUu
          rwa [HF1.out] at this
      · have hk1 : (k == 1) = false := by simp [h1]
        obtain rfl : fm = nm := by rw [hfm, if_neg h1]
        clear hfm h1
        have hU8 : Upto (fun b => b = H + 1 + 1) wr (wr.setCell ⟨H + 1 + 1, 0, none⟩ (.string (B fm))) := Upto.set (Upto.refl _ _) 0 _
        have hset9 := (hres.keep hU8 (by omega)).set (d0 := .string (B fm)) (d1 := .slice va len vcap)
        obtain ⟨e0, e1⟩ := hset9.1.cells
        have hUu := (hU8.mono (S' := fun b => b = H + 1 ∨ b = H + 1 + 1) (fun b _ e => .inr e)).trans (hset9.2.mono (S' := fun b => b = H + 1 ∨ b = H + 1 + 1) (fun b _ e => .inl e)) (fun _ _ x => x)
        have HE := hid (And.intro e0 (And.intro e1 hUu))
        clear e0 e1 hUu hset9 hU8
        go_wp2_with fail
        obtain ⟨e0, e1, hUu⟩ := HE.out
        refine bodyPost_ret (v := .agg #[.string (B fm), .slice va len vcap]) ?_ rfl ?_
        · simp [results, Tryz.f160, go_sem, e0, e1]
        · exact HF.out _ hUu
theorem erase_any (t : Tm) (hs : t.size ≤ 100000) (hany : t.Any3) (w : World) (cs : List Value) (h : Rep none' w t.dat cs) : Calls Tryz.prog 160 #[.agg cs.toArray] w (MakesE t.er w) := by
  have key : ∀ N, N ≤ 100000 → ∀ (t : Tm), t.size ≤ N → t.Any3 → ∀ (w : World) (cs : List Value), Rep none' w t.dat cs → Calls Tryz.prog 160 #[.agg cs.toArray] w (MakesE t.er w) := by
    intro N
    induction N with
    | zero => intro _ t h; have := t.size_pos; omega
    | succ N ih => intro hN t ht ha w cs hR; exact erase_step (N + 1) hN (fun t' h' => ih (by omega) t' (by omega)) t ht ha w cs hR
  exact key t.size hs t (Nat.le_refl _) hany w cs h
end Go.Proofs.YtdomloghcpfdjaaGreatDoor
namespace Go.LF.Tm
/-- What Erase hands back. -/
def erE (t : Tm) : Int := if t.wf ≠ 0 then t.wf else if t.isTyp || t.isKnd then 0 else 32
def erV (t : Tm) : Sm := if erE t = 0 then er t else .mk [] []
theorem wf_small {t : Tm} (h : t.wf = 0) : t.small = true := by
  unfold wf at h
  split at h
  · cases h
  · split at h
    · cases h
    · rename_i h2; simpa using h2
end Go.LF.Tm
namespace Go.Proofs.YtdomloghcpfdjaaGreatDoor
open Go.RowKit Go.LF
/-- A call hands back this simple type and this value. -/
def GivesS (s : Sm) (r : Value) (w : World) (e : Ending) (w' : World) : Prop :=
  ∃ (f : List UInt8) (a : Option Addr) (len cap : Nat), e = .returned (.tuple #[.agg #[.string (B f), .slice a len cap], r]) ∧ Rep (fun x => x < w.heap.size) w' s.dat [.string (B f), .slice a len cap] ∧ Upto none' w w'
set_option maxRecDepth 100000 in
set_option maxHeartbeats 8000000 in
theorem eraseF_any (t : Tm) (hs : t.wt ≤ 1000000) (w : World) (cs : List Value) (h : Rep none' w t.dat cs) :
    Calls Tryz.prog 76 #[.agg cs.toArray] w (GivesS t.erV (.int .i64 t.erE) w) := by
  have H1 := fun W hc => wellFormed_any t (by omega) W cs hc
  have H2 := fun W hc => isType_any t (by omega) W cs hc
  have H3 := fun W hc => isKind_any t (by omega) W cs hc
  have H4 := fun (e : t.wf = 0) W hc => erase_any t (by have := (Tm.wf_any3 e).2.1; omega) (Tm.wf_any3 e).1 W cs hc
  have hsm : t.wf = 0 → t.small = true := Tm.wf_small
  obtain ⟨k, n, i, ts, a, cap, ht, rfl, hcap, _⟩ := tm_open h
  obtain ⟨E, hE⟩ : ∃ E, E = t.erE := ⟨_, rfl⟩
  obtain ⟨X, hX⟩ : ∃ X, X = t.erV := ⟨_, rfl⟩
  rw [← hE, ← hX]
  unfold Tm.erV at hX
  rw [← hE] at hX
  unfold Tm.erE at hE
  generalize t.wf = wf at *
  generalize t.small = sm at *
  generalize t.isTyp = ty at *
  generalize t.isKnd = kd at *
  generalize t.er = r at *
  have HX := hid (And.intro hE hX)
  clear hE hX ht hcap
  obtain ⟨w1, hw1⟩ : ∃ w1, w1 = (w.alloc (.cells #[.int .i64 k, .string (B n), .int .i64 i, .slice a ts.length cap] 29)).alloc (.cells #[.string (B []), .slice none 0 0] 33) := ⟨_, rfl⟩
  have hU1 : Upto none' w w1 := by rw [hw1]; exact ((Upto.refl none' w).alloc _).alloc _
  have hb1 : Box4 w1 w.heap.size (.int .i64 k) (.string (B n)) (.int .i64 i) (.slice a ts.length cap) 29 := by rw [hw1]; exact (Box4.at_new rfl).kept ((Upto.refl none' _).alloc _)
  have hr1 : Box2 w1 (w.heap.size + 1) (.string (B [])) (.slice none 0 0) 33 := by rw [hw1]; exact Box2.at_new (by simp)
  have HW := hid hw1
  clear hw1
  generalize ts.length = tl at *
  have RN : ∀ W9 (e : Value), Upto none' w W9 → GivesS (.mk [] []) e w (.returned (.tuple #[.agg #[.string (B []), .slice none 0 0], e])) W9 := fun W9 e hU => ⟨[], none, 0, 0, rfl, rep_sm.2 ⟨none, 0, rfl, Nat.le_refl _, by simp only [List.map_nil, RepE]⟩, hU⟩
  by_cases hwf : wf = 0
  case neg =>
    have hwf' : (wf != 0) = true := by simpa using hwf
    have hE0 : E = wf := by rw [HX.out.1, if_pos hwf]
    have hX0 : X = .mk [] [] := by rw [HX.out.2, if_neg (by rw [hE0]; exact hwf)]
    have H0 := hid (And.intro hE0 hX0)
    clear hE0 hX0 hwf
    go_enter Tryz.func76, Tryz.ntmps76
    go_wp2_with fail
    rw [← show B [] = { data := #[] } from rfl, ← HW.out]
    refine (H1 w1 (h.on hU1)).mono ?_
    rintro e w2 ⟨rfl, hU2⟩
    have hr2 := hr1.kept hU2
    have hw2 := hU1.and hU2
    obtain ⟨x0, x1⟩ := hr2.cells
    obtain ⟨y0, y1⟩ := hr2.frozens
    have hrz := hr2.lt
    have hset := hr2.set (d0 := .string (B [])) (d1 := .slice none 0 0)
    obtain ⟨e0, e1⟩ := hset.1.cells
    have HE := hid (And.intro e0 (And.intro e1 hset.2))
    clear e0 e1 hset
    go_wp2_with fail
    obtain ⟨e0, e1, hset⟩ := HE.out
    refine bodyPost_ret (v := .tuple #[.agg #[.string (B []), .slice none 0 0], .int .i64 wf]) ?_ rfl ?_
    · simp [results, Tryz.f76, go_sem, e0, e1]
    · rw [H0.out.1, H0.out.2]; exact RN _ _ (hw2.trans hset (fun b hb e => by omega))
  subst hwf
  obtain rfl := hsm rfl
  simp only [Bool.and_true] at H2 H3
  by_cases htk : (ty || kd) = true
  case neg =>
    obtain ⟨rfl, rfl⟩ : ty = false ∧ kd = false := by cases ty <;> cases kd <;> simp_all
    have hE0 : E = 32 := by rw [HX.out.1]; rfl
    have hX0 : X = .mk [] [] := by rw [HX.out.2, if_neg (by rw [hE0]; omega)]
    have H0 := hid (And.intro hE0 hX0)
    clear hE0 hX0 htk
    go_enter Tryz.func76, Tryz.ntmps76
    go_wp2_with fail
    rw [← show B [] = { data := #[] } from rfl, ← HW.out]
    refine (H1 w1 (h.on hU1)).mono ?_
    rintro e w2 ⟨rfl, hU2⟩
    have hb2 := hb1.kept hU2
    have b2 := hb2.cells
    go_wp2_with fail
    refine (H2 w2 (h.on (hU1.and hU2))).mono ?_
    rintro e w3 ⟨rfl, hU3⟩
    have hb3 := hb2.kept hU3
    have b3 := hb3.cells
    go_wp2_with fail
    refine (H3 w3 (h.on ((hU1.and hU2).and hU3))).mono ?_
    rintro e w4 ⟨rfl, hU4⟩
    have hr4 := ((hr1.kept hU2).kept hU3).kept hU4
    have hw4 := ((hU1.and hU2).and hU3).and hU4
    obtain ⟨x0, x1⟩ := hr4.cells
    obtain ⟨y0, y1⟩ := hr4.frozens
    have hrz := hr4.lt
    have hset := hr4.set (d0 := .string (B [])) (d1 := .slice none 0 0)
    obtain ⟨e0, e1⟩ := hset.1.cells
    have HE := hid (And.intro e0 (And.intro e1 hset.2))
    clear e0 e1 hset
    go_wp2_with fail
    obtain ⟨e0, e1, hset⟩ := HE.out
    refine bodyPost_ret (v := .tuple #[.agg #[.string (B []), .slice none 0 0], .int .i64 32]) ?_ rfl ?_
    · simp [results, Tryz.f76, go_sem, e0, e1]
    · rw [H0.out.1, H0.out.2]; exact RN _ _ (hw4.trans hset (fun b hb e => by omega))
  have hE0 : E = 0 := by rw [HX.out.1]; cases ty <;> cases kd <;> simp_all
  have hX0 : X = r := by rw [HX.out.2, if_pos hE0]
  subst hE0 hX0
  clear HX RN
  cases ty
  · obtain rfl : kd = true := by simpa using htk
    go_enter Tryz.func76, Tryz.ntmps76
    go_wp2_with fail
    rw [← show B [] = { data := #[] } from rfl, ← HW.out]
    refine (H1 w1 (h.on hU1)).mono ?_
    rintro e w2 ⟨rfl, hU2⟩
    have hb2 := hb1.kept hU2
    have b2 := hb2.cells
    go_wp2_with fail
    refine (H2 w2 (h.on (hU1.and hU2))).mono ?_
    rintro e w3 ⟨rfl, hU3⟩
    have hb3 := hb2.kept hU3
    have b3 := hb3.cells
    go_wp2_with fail
    refine (H3 w3 (h.on ((hU1.and hU2).and hU3))).mono ?_
    rintro e w4 ⟨rfl, hU4⟩
    have hb4 := hb3.kept hU4
    have b4 := hb4.cells
    have hw4 := ((hU1.and hU2).and hU3).and hU4
    have hr4 := ((hr1.kept hU2).kept hU3).kept hU4
    go_wp2_with fail
    refine (H4 trivial _ (h.on hw4)).mono ?_
    rintro e w5 ⟨f5, a5, len5, cap5, rfl, hR5, hU5⟩
    have hr5 := hr4.kept hU5
    have hw5 := hw4.and hU5
    have hz4 := hr4.lt
    obtain ⟨x0, x1⟩ := hr5.cells
    obtain ⟨y0, y1⟩ := hr5.frozens
    have hrz := hr5.lt
    have hset := hr5.set (d0 := .string (B f5)) (d1 := .slice a5 len5 cap5)
    obtain ⟨e0, e1⟩ := hset.1.cells
    have HE := hid (And.intro e0 (And.intro e1 hset.2))
    clear e0 e1 hset
    go_wp2_with fail
    obtain ⟨e0, e1, hset⟩ := HE.out
    refine bodyPost_ret (v := .tuple #[.agg #[.string (B f5), .slice a5 len5 cap5], .int .i64 0]) ?_ rfl ?_
    · simp [results, Tryz.f76, go_sem, e0, e1]
    · exact ⟨f5, a5, len5, cap5, rfl, Rep.weaken (fun b _ e => by omega) _ _ (Rep.keep hset (fun b e => by omega) _ _ hR5), hw5.trans hset (fun b hb e => by omega)⟩
  ·
    go_enter Tryz.func76, Tryz.ntmps76
    go_wp2_with fail
    rw [← show B [] = { data := #[] } from rfl, ← HW.out]
    refine (H1 w1 (h.on hU1)).mono ?_
    rintro e w2 ⟨rfl, hU2⟩
    have hb2 := hb1.kept hU2
    have b2 := hb2.cells
    go_wp2_with fail
    refine (H2 w2 (h.on (hU1.and hU2))).mono ?_
    rintro e w3 ⟨rfl, hU3⟩
    have hb3 := hb2.kept hU3
    have b3 := hb3.cells
    go_wp2_with fail
    have hw4 := (hU1.and hU2).and hU3
    have hr4 := (hr1.kept hU2).kept hU3
    refine (H4 trivial _ (h.on hw4)).mono ?_
    rintro e w5 ⟨f5, a5, len5, cap5, rfl, hR5, hU5⟩
    have hr5 := hr4.kept hU5
    have hw5 := hw4.and hU5
    have hz4 := hr4.lt
    obtain ⟨x0, x1⟩ := hr5.cells
    obtain ⟨y0, y1⟩ := hr5.frozens
    have hrz := hr5.lt
    have hset := hr5.set (d0 := .string (B f5)) (d1 := .slice a5 len5 cap5)
    obtain ⟨e0, e1⟩ := hset.1.cells
    have HE := hid (And.intro e0 (And.intro e1 hset.2))
    clear e0 e1 hset
    go_wp2_with fail
    obtain ⟨e0, e1, hset⟩ := HE.out
    refine bodyPost_ret (v := .tuple #[.agg #[.string (B f5), .slice a5 len5 cap5], .int .i64 0]) ?_ rfl ?_
    · simp [results, Tryz.f76, go_sem, e0, e1]
    · exact ⟨f5, a5, len5, cap5, rfl, Rep.weaken (fun b _ e => by omega) _ _ (Rep.keep hset (fun b e => by omega) _ _ hR5), hw5.trans hset (fun b hb e => by omega)⟩
end Go.Proofs.YtdomloghcpfdjaaGreatDoor
namespace Go.Proofs.YtdomloghcpfdjaaGreatDoor
open Go.RowKit Go.LF
/-- What the drawn region reads: the box of the tail's erasure, the term's arguments, the first one of them. -/
abbrev ErS (sb H gb go : Nat) (f : List UInt8) (sv b3 : Value) (k1 : Int) (n1 : List UInt8) (x1 : Int) (v1 : Value) (w' : World) : Prop :=
  w'.cell? ⟨sb, 0, none⟩ = some (.string (B f)) ∧ w'.cell? ⟨sb, 1, none⟩ = some sv ∧ w'.cell? ⟨H, 3, none⟩ = some b3 ∧
  w'.cell? ⟨gb, go, none⟩ = some (.int .i64 k1) ∧ w'.cell? ⟨gb, go + 1, none⟩ = some (.string (B n1)) ∧ w'.cell? ⟨gb, go + 2, none⟩ = some (.int .i64 x1) ∧ w'.cell? ⟨gb, go + 3, none⟩ = some v1
theorem ErS.keep {sb H gb go : Nat} {f : List UInt8} {sv b3 : Value} {k1 : Int} {n1 : List UInt8} {x1 : Int} {v1 : Value} {w w' : World} {S : Nat → Prop} (h : ErS sb H gb go f sv b3 k1 n1 x1 v1 w) (hU : Upto S w w') (h1 : ¬ S sb) (h2 : ¬ S H) (h3 : ¬ S gb) : ErS sb H gb go f sv b3 k1 n1 x1 v1 w' :=
  ⟨hU.cell h.1 h1, hU.cell h.2.1 h1, hU.cell h.2.2.1 h2, hU.cell h.2.2.2.1 h3, hU.cell h.2.2.2.2.1 h3, hU.cell h.2.2.2.2.2.1 h3, hU.cell h.2.2.2.2.2.2 h3⟩
theorem ErS.on {sb H gb go : Nat} {f : List UInt8} {sv b3 : Value} {k1 : Int} {n1 : List UInt8} {x1 : Int} {v1 : Value} {w w' : World} (h : ErS sb H gb go f sv b3 k1 n1 x1 v1 w) (hU : Upto none' w w') : ErS sb H gb go f sv b3 k1 n1 x1 v1 w' := h.keep hU (fun x => x) (fun x => x) (fun x => x)
end Go.Proofs.YtdomloghcpfdjaaGreatDoor
