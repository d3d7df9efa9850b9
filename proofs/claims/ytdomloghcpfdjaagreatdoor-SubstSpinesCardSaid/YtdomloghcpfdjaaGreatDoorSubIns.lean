/- Instantiate, as plain data, and the program's. -/
import Derived.Test.YtdomloghcpfdjaaGreatDoorSubRm
import Derived.Test.YtdomloghcpfdjaaGreatDoorDC
namespace Go.LF
namespace Tm
theorem er_wt (t : Tm) : (er t).wt ≤ t.wt + 4 * t.size ∧ (er t).fam.length + Sm.wts (er t).args + 1 ≤ t.wt + 4 * t.size := by
  induction t using ind with
  | h k n i l ih =>
    rw [er_mk]
    split
    · match l, ih with
      | [], _ => rw [erA] <;> simp [Sm.wts] <;> try omega
      | [a], _ => rw [erA] <;> simp [Sm.wts] <;> try omega
      | a :: b :: rest, ih =>
        have h1 := (ih a (by simp)).1
        have h2 := (ih b (by simp)).2
        rw [erA]
        simp only [Sm.wt_mk, Sm.args_mk, Sm.fam_mk, Sm.wts, wt_mk, wts, size_mk, sizes]
        omega
    · split <;> simp [Sm.wts] <;> omega
theorem wf_pi {n : List UInt8} {i : Int} {l : List Tm} (h : (mk 2 n i l).wf = 0) : ∃ a b, l = [a, b] ∧ a.wf = 0 ∧ a.isTyp = true := by
  have hs := wf_small h
  have hl : ∃ a b, l = [a, b] ∧ a.isTyp = true := by
    rcases (wf_any3 h).1 with h1 | h1 | h1
    · rw [isObj] at h1; simp at h1
    · rw [isTyp, isAtom] at h1
      simp [bound] at h1
      obtain ⟨⟨⟨_, hl⟩, _⟩, h3⟩ := h1
      obtain ⟨a, b, rfl⟩ : ∃ a b, l = [a, b] := by
        match l, hl with
        | [a, b], _ => exact ⟨a, b, rfl⟩
      simp [allTyp] at h3
      exact ⟨a, b, rfl, h3.1⟩
    · unfold isKnd at h1
      split at h1
      · rename_i a b e
        cases e
        simp at h1
        exact ⟨a, b, rfl, h1.2.1⟩
      · rename_i e
        injection e with e1
        subst e1
        simp at h1
  obtain ⟨a, b, rfl, ha⟩ := hl
  refine ⟨a, b, rfl, ?_, ha⟩
  have hsa : a.small = true := by
    unfold small at hs ⊢
    simp only [size_mk, depth_mk, sizes, depths, Bool.and_eq_true, decide_eq_true_eq] at hs ⊢
    omega
  unfold wf
  rw [ha, hsa]
  simp
end Tm
/-- What Instantiate hands back. -/
def instE (pi m : Tm) : Int :=
  if firstE Tm.wf [pi, m] ≠ 0 then firstE Tm.wf [pi, m] else if pi.kind ≠ 2 then 33 else if ¬ (m.isObj && m.small) = true then 32 else manyE (pi.args.getD 1 Tm.none0) [m] [(pi.args.getD 0 Tm.none0).er]
def instT (pi m : Tm) : Tm := if instE pi m = 0 then manyT (pi.args.getD 1 Tm.none0) [m] [(pi.args.getD 0 Tm.none0).er] else Tm.none0
theorem manyT_none {t : Tm} {ms : List Tm} {ss : List Sm} (h : ¬ manyE t ms ss = 0) : manyT t ms ss = Tm.none0 := by unfold manyT; rw [if_neg h]
end Go.LF
namespace Go.Proofs.YtdomloghcpfdjaaGreatDoor
open Go.RowKit Go.LF
/-- What the last region of Instantiate reads. -/
abbrev In8 (H ab ao bb bo : Nat) (p3 m0 m1 m2 m3 a0 a1 a2 a3 b0 b1 b2 b3 : Value) (w' : World) : Prop :=
  w'.cell? ⟨H, 3, none⟩ = some p3 ∧ (w'.cell? ⟨H + 1, 0, none⟩ = some m0 ∧ w'.cell? ⟨H + 1, 1, none⟩ = some m1 ∧ w'.cell? ⟨H + 1, 2, none⟩ = some m2 ∧ w'.cell? ⟨H + 1, 3, none⟩ = some m3) ∧
  (w'.cell? ⟨ab, ao, none⟩ = some a0 ∧ w'.cell? ⟨ab, ao + 1, none⟩ = some a1 ∧ w'.cell? ⟨ab, ao + 2, none⟩ = some a2 ∧ w'.cell? ⟨ab, ao + 3, none⟩ = some a3) ∧
  (w'.cell? ⟨bb, bo, none⟩ = some b0 ∧ w'.cell? ⟨bb, bo + 1, none⟩ = some b1 ∧ w'.cell? ⟨bb, bo + 2, none⟩ = some b2 ∧ w'.cell? ⟨bb, bo + 3, none⟩ = some b3)
theorem In8.keep {H ab ao bb bo : Nat} {p3 m0 m1 m2 m3 a0 a1 a2 a3 b0 b1 b2 b3 : Value} {w w' : World} {S : Nat → Prop} (h : In8 H ab ao bb bo p3 m0 m1 m2 m3 a0 a1 a2 a3 b0 b1 b2 b3 w) (hU : Upto S w w') (h1 : ¬ S H) (h2 : ¬ S (H + 1)) (h3 : ¬ S ab) (h4 : ¬ S bb) :
    In8 H ab ao bb bo p3 m0 m1 m2 m3 a0 a1 a2 a3 b0 b1 b2 b3 w' :=
  ⟨hU.cell h.1 h1, ⟨hU.cell h.2.1.1 h2, hU.cell h.2.1.2.1 h2, hU.cell h.2.1.2.2.1 h2, hU.cell h.2.1.2.2.2 h2⟩, ⟨hU.cell h.2.2.1.1 h3, hU.cell h.2.2.1.2.1 h3, hU.cell h.2.2.1.2.2.1 h3, hU.cell h.2.2.1.2.2.2 h3⟩, ⟨hU.cell h.2.2.2.1 h4, hU.cell h.2.2.2.2.1 h4, hU.cell h.2.2.2.2.2.1 h4, hU.cell h.2.2.2.2.2.2 h4⟩⟩
theorem In8.set4 {H ab ao bb bo r : Nat} {p3 m0 m1 m2 m3 a0 a1 a2 a3 b0 b1 b2 b3 : Value} {w : World} (h : In8 H ab ao bb bo p3 m0 m1 m2 m3 a0 a1 a2 a3 b0 b1 b2 b3 w) (h1 : ¬ H = r) (h2 : ¬ H + 1 = r) (h3 : ¬ ab = r) (h4 : ¬ bb = r) (d0 d1 d2 d3 : Value) :
    In8 H ab ao bb bo p3 m0 m1 m2 m3 a0 a1 a2 a3 b0 b1 b2 b3 ((((w.setCell ⟨r, 0, none⟩ d0).setCell ⟨r, 1, none⟩ d1).setCell ⟨r, 2, none⟩ d2).setCell ⟨r, 3, none⟩ d3) :=
  h.keep (S := fun b => b = r) (Upto.set (Upto.set (Upto.set (Upto.set (Upto.refl _ _) 0 _) 1 _) 2 _) 3 _) h1 h2 h3 h4
/-- What the last region of the program's Instantiate reads. -/
abbrev Inq (H bb bo Y : Nat) (p3 m0 m1 m2 m3 b0 b1 b2 b3 y0 y1 : Value) (w' : World) : Prop :=
  w'.cell? ⟨H, 3, none⟩ = some p3 ∧ (w'.cell? ⟨H + 1, 0, none⟩ = some m0 ∧ w'.cell? ⟨H + 1, 1, none⟩ = some m1 ∧ w'.cell? ⟨H + 1, 2, none⟩ = some m2 ∧ w'.cell? ⟨H + 1, 3, none⟩ = some m3) ∧
  (w'.cell? ⟨bb, bo, none⟩ = some b0 ∧ w'.cell? ⟨bb, bo + 1, none⟩ = some b1 ∧ w'.cell? ⟨bb, bo + 2, none⟩ = some b2 ∧ w'.cell? ⟨bb, bo + 3, none⟩ = some b3) ∧ (w'.cell? ⟨Y, 0, none⟩ = some y0 ∧ w'.cell? ⟨Y, 1, none⟩ = some y1)
theorem Inq.keep {H bb bo Y : Nat} {p3 m0 m1 m2 m3 b0 b1 b2 b3 y0 y1 : Value} {w w' : World} {S : Nat → Prop} (h : Inq H bb bo Y p3 m0 m1 m2 m3 b0 b1 b2 b3 y0 y1 w) (hU : Upto S w w') (h1 : ¬ S H) (h2 : ¬ S (H + 1)) (h3 : ¬ S bb) (h4 : ¬ S Y) :
    Inq H bb bo Y p3 m0 m1 m2 m3 b0 b1 b2 b3 y0 y1 w' :=
  ⟨hU.cell h.1 h1, ⟨hU.cell h.2.1.1 h2, hU.cell h.2.1.2.1 h2, hU.cell h.2.1.2.2.1 h2, hU.cell h.2.1.2.2.2 h2⟩, ⟨hU.cell h.2.2.1.1 h3, hU.cell h.2.2.1.2.1 h3, hU.cell h.2.2.1.2.2.1 h3, hU.cell h.2.2.1.2.2.2 h3⟩, ⟨hU.cell h.2.2.2.1 h4, hU.cell h.2.2.2.2 h4⟩⟩
theorem Inq.set4 {H bb bo Y r : Nat} {p3 m0 m1 m2 m3 b0 b1 b2 b3 y0 y1 : Value} {w : World} (h : Inq H bb bo Y p3 m0 m1 m2 m3 b0 b1 b2 b3 y0 y1 w) (h1 : ¬ H = r) (h2 : ¬ H + 1 = r) (h3 : ¬ bb = r) (h4 : ¬ Y = r) (d0 d1 d2 d3 : Value) :
    Inq H bb bo Y p3 m0 m1 m2 m3 b0 b1 b2 b3 y0 y1 ((((w.setCell ⟨r, 0, none⟩ d0).setCell ⟨r, 1, none⟩ d1).setCell ⟨r, 2, none⟩ d2).setCell ⟨r, 3, none⟩ d3) :=
  h.keep (S := fun b => b = r) (Upto.set (Upto.set (Upto.set (Upto.set (Upto.refl _ _) 0 _) 1 _) 2 _) 3 _) h1 h2 h3 h4
set_option maxRecDepth 100000 in
set_option maxHeartbeats 16000000 in
theorem instantiate_any (O : Nat → Prop) (pi m : Tm) (hpw : pi.wt ≤ 300000) (hmw : m.wt ≤ 300000) (w : World) (hO : ∀ b, O b → b < w.heap.size) (cs ds : List Value) (hR : Rep O w pi.dat cs) (hM : Rep O w m.dat ds) :
    Calls Tryz.prog 21 #[.agg cs.toArray, .agg ds.toArray] w (GivesE O (instE pi m) (instT pi m) w) := by
  obtain ⟨k, n, i, ts, a, cap, htt, rfl, hcap, hEa⟩ := tm_open hR
  obtain ⟨k2, n2, i2, ts2, am, cap2, htt2, rfl, _, _⟩ := tm_open hM
  generalize ts2.length = len2 at *
  obtain ⟨len, hlen⟩ : ∃ len, len = ts.length := ⟨_, rfl⟩
  rw [← hlen]
  rw [← hlen] at hR
  obtain ⟨w1, hw1⟩ : ∃ w1, w1 = ((w.alloc (.cells #[.int .i64 k, .string (B n), .int .i64 i, .slice a len cap] 29)).alloc (.cells #[.int .i64 k2, .string (B n2), .int .i64 i2, .slice am len2 cap2] 29)).alloc (.cells #[.int .i64 0, .string (B []), .int .i64 0, .slice none 0 0] 29) := ⟨_, rfl⟩
  have hU1 : Upto none' w w1 := by rw [hw1]; exact (((Upto.refl none' w).alloc _).alloc _).alloc _
  have hp1 : Box4 w1 w.heap.size (.int .i64 k) (.string (B n)) (.int .i64 i) (.slice a len cap) 29 := by rw [hw1]; exact ((Box4.at_new rfl).kept ((Upto.refl none' _).alloc _)).kept ((Upto.refl none' _).alloc _)
  have hm1 : Box4 w1 (w.heap.size + 1) (.int .i64 k2) (.string (B n2)) (.int .i64 i2) (.slice am len2 cap2) 29 := by rw [hw1]; exact (Box4.at_new (by simp)).kept ((Upto.refl none' _).alloc _)
  have hr1 : Box4 w1 (w.heap.size + 1 + 1) (.int .i64 0) (.string (B [])) (.int .i64 0) (.slice none 0 0) 29 := by rw [hw1]; exact Box4.at_new (by simp)
  have hz1 : w1.heap.size = w.heap.size + 3 := by rw [hw1]; simp
  have hR1 := (Rep.freshO hR).on hU1
  have hM1 := (Rep.freshO hM).on hU1
  have hEA := (RepE.fresh' _ _ _ _ hEa).on hU1
  obtain ⟨w2, hw2⟩ : ∃ w2, w2 = w1.alloc (.cells #[.int .i64 k, .string (B n), .int .i64 i, .slice a len cap, .int .i64 k2, .string (B n2), .int .i64 i2, .slice am len2 cap2] 29) := ⟨_, rfl⟩
  have hU2 : Upto none' w1 w2 := by rw [hw2]; exact (Upto.refl none' _).alloc _
  have hrow : RepE none' w2 4 ([pi, m].map Tm.dat) (some ⟨w1.heap.size, 0, none⟩) 0 := rep_two (rep_pre (hR1.on hU2)) (rep_pre (hM1.on hU2)) (fun x => x) (by rw [hw2]; exact heap_alloc_new w1 _)
  have FO := subForms_any [pi, m] [] (by simp) (by simp; omega) (by simp) (by simp) w2 _ 2 none 0 hrow (by simp only [List.map_nil, RepE])
  simp only [List.length_cons, List.length_nil, Nat.zero_add, Nat.reduceAdd] at FO
  have hfe : (if firstE Tm.wf [pi, m] ≠ 0 then firstE Tm.wf [pi, m] else firstE Sm.wf []) = firstE Tm.wf [pi, m] := by
    by_cases h : firstE Tm.wf [pi, m] = 0
    · rw [if_neg (by simp [h]), h]; rfl
    · rw [if_pos h]
  rw [hfe] at FO
  have NO := fun (W : World) (hu : Upto none' w1 W) => notObject_any m (by omega) W _ (rep_pre (hM1.on hu))
  have HW := hid hw1
  have HW2 := hid hw2
  have HU := hid (And.intro hU1 hO)
  obtain ⟨H, hH⟩ : ∃ H, H = w.heap.size := ⟨_, rfl⟩
  have HH := hid hH
  rw [← hH] at hp1 hm1 hr1 hR1 hM1 hEA hz1
  obtain ⟨E, hE⟩ : ∃ E, E = instE pi m := ⟨_, rfl⟩
  obtain ⟨X, hX⟩ : ∃ X, X = instT pi m := ⟨_, rfl⟩
  rw [← hE, ← hX]
  unfold instT at hX
  rw [← hE] at hX
  unfold instE at hE
  have HEX := hid (And.intro hE hX)
  obtain ⟨q, hq⟩ : ∃ q, q = firstE Tm.wf [pi, m] := ⟨_, rfl⟩
  rw [← hq] at FO
  have HQ := hid hq
  have HT := hid (And.intro htt (And.intro hlen (And.intro hpw hmw)))
  clear hw1 hw2 hH hR hM hU1 hrow hO hE hX hq hEa hlen htt htt2 hz1 hfe
  obtain ⟨p0, p1, p2, p3⟩ := hp1.cells
  obtain ⟨m0, m1, m2, m3⟩ := hm1.cells
  have hlr1 := hr1.lt
  go_enter Tryz.func21, Tryz.ntmps21
  go_upto_region 1 with fail
  rw [← show B [] = { data := #[] } from rfl, ← HW.out, ← HH.out]
  go_wp2_with fail
  rw [← HW2.out]
  (with_reducible refine FO.mono ?_)
  rintro e w3 ⟨rfl, hU3⟩
  have hU4 := hU2.and hU3
  have hp3 := hp1.kept hU4
  have hm3 := hm1.kept hU4
  have hr3 := hr1.kept hU4
  clear p0 p1 p2 p3 m0 m1 m2 m3 FO hp1 hm1 hr1
  by_cases hq : q = 0
  case neg =>
    have hE0 : E = q := by rw [HEX.out.1, ← HQ.out, if_pos hq]
    have H0 := hid (And.intro hE0 (show X = Tm.none0 by rw [HEX.out.2, hE0, if_neg hq]))
    have hq' : (q != 0) = true := by simpa using hq
    clear hE0 hq
    have hset := hr3.set (d0 := .int .i64 0) (d1 := .string (B [])) (d2 := .int .i64 0) (d3 := .slice none 0 0)
    obtain ⟨y0, y1, y2, y3⟩ := hr3.cells
    obtain ⟨z0, z1, z2, z3⟩ := hr3.frozens
    obtain ⟨e0, e1, e2, e3⟩ := hset.1.cells
    have HEE := hid (And.intro e0 (And.intro e1 (And.intro e2 (And.intro e3 hset.2))))
    have hlr := hr3.lt
    clear e0 e1 e2 e3 hset
    go_wp2_with fail
    obtain ⟨e0, e1, e2, e3, hset⟩ := HEE.out
    refine bodyPost_ret (v := .tuple #[.agg #[.int .i64 0, .string (B []), .int .i64 0, .slice none 0 0], .int .i64 q]) ?_ rfl ?_
    · simp [results, Tryz.f21, go_sem, e0, e1, e2, e3]
    · exact ⟨0, 0, [], none, 0, 0, by rw [H0.out.1], by rw [H0.out.2]; exact rep_leaf 0 [] 0, (HU.out.1.and hU4).trans hset (fun b hb e => by have := HH.out; omega)⟩
  subst hq
  have hwf := firstE_zero Tm.wf [pi, m] HQ.out.symm pi (by simp)
  have hE1 : E = if k ≠ 2 then 33 else if ¬ (m.isObj && m.small) = true then 32 else manyE (ts.getD 1 Tm.none0) [m] [(ts.getD 0 Tm.none0).er] := by
    have h := HEX.out.1
    rw [← HQ.out, if_neg (by simp), HT.out.1] at h
    exact h
  rw [HT.out.1] at hwf
  clear HQ
  obtain ⟨p0, p1, p2, p3⟩ := hp3.cells
  by_cases hk : k = 2
  case neg =>
    rw [if_pos hk] at hE1
    have H0 := hid (And.intro hE1 (show X = Tm.none0 by rw [HEX.out.2, hE1]; rfl))
    have hk' : (k != 2) = true := by simpa using hk
    clear hE1 hk hwf
    have hset := hr3.set (d0 := .int .i64 0) (d1 := .string (B [])) (d2 := .int .i64 0) (d3 := .slice none 0 0)
    obtain ⟨y0, y1, y2, y3⟩ := hr3.cells
    obtain ⟨z0, z1, z2, z3⟩ := hr3.frozens
    obtain ⟨e0, e1, e2, e3⟩ := hset.1.cells
    have HEE := hid (And.intro e0 (And.intro e1 (And.intro e2 (And.intro e3 hset.2))))
    have hlr := hr3.lt
    clear e0 e1 e2 e3 hset
    go_wp2_with fail
    obtain ⟨e0, e1, e2, e3, hset⟩ := HEE.out
    refine bodyPost_ret (v := .tuple #[.agg #[.int .i64 0, .string (B []), .int .i64 0, .slice none 0 0], .int .i64 33]) ?_ rfl ?_
    · simp [results, Tryz.f21, go_sem, e0, e1, e2, e3]
    · exact ⟨0, 0, [], none, 0, 0, by rw [H0.out.1], by rw [H0.out.2]; exact rep_leaf 0 [] 0, (HU.out.1.and hU4).trans hset (fun b hb e => by have := HH.out; omega)⟩
  subst hk
  rw [if_neg (by simp)] at hE1
  obtain ⟨ta, tb, rfl, hwfa, htya⟩ := Tm.wf_pi hwf
  simp only [List.getD_cons_zero, List.getD_cons_succ] at hE1
  obtain rfl : len = 2 := HT.out.2.1
  have NO3 := NO w3 hU4
  obtain ⟨ob, hob⟩ : ∃ ob, ob = (m.isObj && m.small) := ⟨_, rfl⟩
  rw [← hob] at NO3 hE1
  have HOB := hid hob
  obtain ⟨m0, m1, m2, m3⟩ := hm3.cells
  clear hob NO hwf
  cases ob
  case false =>
    rw [if_pos (by simp)] at hE1
    have H0 := hid (And.intro hE1 (show X = Tm.none0 by rw [HEX.out.2, hE1]; rfl))
    clear hE1
    go_wp2_with fail
    (with_reducible refine NO3.mono ?_)
    rintro e w5 ⟨rfl, hU5⟩
    have hr5 := hr3.kept hU5
    clear hr3 p0 p1 p2 p3 m0 m1 m2 m3
    have hset := hr5.set (d0 := .int .i64 0) (d1 := .string (B [])) (d2 := .int .i64 0) (d3 := .slice none 0 0)
    obtain ⟨y0, y1, y2, y3⟩ := hr5.cells
    obtain ⟨z0, z1, z2, z3⟩ := hr5.frozens
    obtain ⟨e0, e1, e2, e3⟩ := hset.1.cells
    have HEE := hid (And.intro e0 (And.intro e1 (And.intro e2 (And.intro e3 hset.2))))
    have hlr := hr5.lt
    clear e0 e1 e2 e3 hset
    go_wp2_with fail
    obtain ⟨e0, e1, e2, e3, hset⟩ := HEE.out
    refine bodyPost_ret (v := .tuple #[.agg #[.int .i64 0, .string (B []), .int .i64 0, .slice none 0 0], .int .i64 32]) ?_ rfl ?_
    · simp [results, Tryz.f21, go_sem, e0, e1, e2, e3]
    · exact ⟨0, 0, [], none, 0, 0, by rw [H0.out.1], by rw [H0.out.2]; exact rep_leaf 0 [] 0, (HU.out.1.and (hU4.and hU5)).trans hset (fun b hb e => by have := HH.out; omega)⟩
  rw [if_neg (by simp)] at hE1
  have hX1 : X = manyT tb [m] [ta.er] := by
    rw [HEX.out.2, HT.out.1]
    simp only [Tm.args_mk, List.getD_cons_zero, List.getD_cons_succ]
    by_cases h : E = 0
    · rw [if_pos h]
    · rw [if_neg h, manyT_none (by rw [← hE1]; exact h)]
  obtain ⟨ab, ao, ak, an, ai, as', ac, rfl, habl, habO, a0, a1, a2, a3, hRa⟩ := arg_tm (hEA.on hU4) 0 (by simp)
  obtain ⟨bb, bo, bk, bn, bi, bs, bc, e9, hbbl, hbbO, b0, b1, b2, b3, hRb⟩ := arg_tm (hEA.on hU4) 1 (by simp)
  obtain ⟨rfl, rfl⟩ : ab = bb ∧ ao = bo := by simp only [Option.some.injEq, Addr.mk.injEq, and_true] at e9; exact ⟨e9.1, e9.2⟩
  simp only [Nat.zero_mul, Nat.add_zero, Nat.one_mul, List.getElem_cons_zero, List.getElem_cons_succ] at a0 a1 a2 a3 b0 b1 b2 b3 hRa hRb
  have hwtp := HT.out.2.2.1
  rw [HT.out.1] at hwtp
  simp only [Tm.wt_mk, Tm.wts] at hwtp
  have hwta : ta.wt ≤ 300000 := by omega
  have hwtb : tb.wt ≤ 300000 := by omega
  have hers := (Tm.er_wt ta).1
  have hsw : ta.er.wt ≤ 1000000 := by have := (Tm.wf_any3 hwfa).2.1; omega
  have hmw2 : m.wt ≤ 1000000 := by have := HT.out.2.2.2; omega
  have HE := hid (And.intro hE1 hX1)
  have hHab : ab < H := by have := fun h => habO (.inr h); omega
  clear hE1 hX1 hwtp hers
  have here : ta.erE = 0 := by unfold Tm.erE; rw [if_neg (by rw [hwfa]; simp), htya]; simp
  have ER := fun (W : World) h => eraseF_any ta (by omega) W [.int .i64 ak, .string (B an), .int .i64 ai, .slice as' ta.args.length ac] h
  rw [show ta.erV = ta.er by unfold Tm.erV; rw [if_pos here], here] at ER
  generalize ta.args.length = al at *
  generalize tb.args.length = bl at *
  generalize ta.er = s at *
  clear here
  go_wp2_with fail
  (with_reducible refine NO3.mono ?_)
  rintro e w5 ⟨rfl, hU5⟩
  have hU6 := hU4.and hU5
  have hp5 := hp3.kept hU5
  have hm5 := hm3.kept hU5
  have hr5 := hr3.kept hU5
  have A0 := hU5.cell a0 (fun x => x)
  have A1 := hU5.cell a1 (fun x => x)
  have A2 := hU5.cell a2 (fun x => x)
  have A3 := hU5.cell a3 (fun x => x)
  have hRa5 := hRa.on hU5
  have hRb5 := hRb.on hU5
  have hb5 := And.intro (hU5.cell b0 (fun x => x)) (And.intro (hU5.cell b1 (fun x => x)) (And.intro (hU5.cell b2 (fun x => x)) (hU5.cell b3 (fun x => x))))
  clear p0 p1 p2 p3 m0 m1 m2 m3 a0 a1 a2 a3 b0 b1 b2 b3 hp3 hm3 hr3 hRa hRb NO3
  obtain ⟨p0, p1, p2, p3⟩ := hp5.cells
  go_wp2_with fail
  (with_reducible refine (ER _ (rep_pre hRa5)).mono ?_)
  rintro e w6 ⟨f, sa, sl, sc, rfl, hS6, hU7⟩
  have hz6 := hU7.size
  obtain ⟨w7, hw7⟩ : ∃ w7, w7 = w6.alloc (.cells #[.string (B f), .slice sa sl sc] 33) := ⟨_, rfl⟩
  have hUa : Upto none' w6 w7 := by rw [hw7]; exact (Upto.refl none' _).alloc _
  have hy7 : Box2 w7 w6.heap.size (.string (B f)) (.slice sa sl sc) 33 := by rw [hw7]; exact Box2.at_new rfl
  obtain ⟨Y, hY⟩ : ∃ Y, Y = w6.heap.size := ⟨_, rfl⟩
  rw [← hY] at hy7 hz6
  have HW7 := hid hw7
  have HY := hid hY
  have hUb := hU7.and hUa
  have hU8 := hU6.and hUb
  have hp7 := hp5.kept hUb
  have hm7 := hm5.kept hUb
  have hr7 := hr5.kept hUb
  have hlr5 := hr5.lt
  have hb7 := And.intro (hUb.cell hb5.1 (fun x => x)) (And.intro (hUb.cell hb5.2.1 (fun x => x)) (And.intro (hUb.cell hb5.2.2.1 (fun x => x)) (hUb.cell hb5.2.2.2 (fun x => x))))
  have hS7 : Rep (fun b => O b ∨ b = H + 1 + 1) w7 s.dat [.string (B f), .slice sa sl sc] := (Rep.weaken (fun b _ e => by have h0 := HU.out.2 b; have := HH.out; rcases e with e | e; (have := h0 e; omega); omega) _ _ hS6).on hUa
  clear hw7 hY p0 p1 p2 p3 hp5 hm5 hr5 A0 A1 A2 A3 hb5 hS6 ER hRa5
  have wk : ∀ b, b < w7.heap.size → (O b ∨ b = H + 1 + 1) → (O b ∨ H ≤ b) := fun b _ e => e.elim .inl (fun e => .inr (by omega))
  have SU := fun (W : World) (hu : Upto none' w7 W) => subst_any (fun b => O b ∨ b = H + 1 + 1) tb m s (by omega) hmw2 hsw W (fun b e => by have := hu.size; have := hr7.lt; have h0 := HU.out.2 b; have := HH.out; rcases e with e | e; (have := h0 e; omega); omega) _ _ _ ((Rep.weaken wk _ _ (hRb5.on hUb)).on hu) ((Rep.weaken wk _ _ (hM1.on hU8)).on hu) (hS7.on hu)
  obtain ⟨p0, p1, p2, p3⟩ := hp7.cells
  have S7 : Inq H ab (ao + 4) Y (.slice (some ⟨ab, ao, none⟩) 2 cap) (.int .i64 k2) (.string (B n2)) (.int .i64 i2) (.slice am len2 cap2) (.int .i64 bk) (.string (B bn)) (.int .i64 bi) (.slice bs bl bc) (.string (B f)) (.slice sa sl sc) w7 := ⟨p3, hm7.cells, hb7, hy7.cells⟩
  go_upto_region 9 with fail
  rw [← HW7.out, ← HY.out]
  go_upto_region 11 with fail
  have hd7 : Upto none' w7 w7.drew := (Upto.refl none' _).drew
  have Sd := S7.keep hd7 (fun x => x) (fun x => x) (fun x => x) (fun x => x)
  have SUd := SU _ hd7
  have hrd := hr7.kept hd7
  have n1 : ¬ H = H + 1 + 1 := by omega
  have n2' : ¬ H + 1 = H + 1 + 1 := by omega
  have n3 : ¬ ab = H + 1 + 1 := by omega
  have n4 : ¬ Y = H + 1 + 1 := by have := hz6; omega
  clear S7 SU p0 p1 p2 p3 hp7 hm7 hb7 hy7
  go_region_held3 (fun w' => Inq H ab (ao + 4) Y (.slice (some ⟨ab, ao, none⟩) 2 cap) (.int .i64 k2) (.string (B n2)) (.int .i64 i2) (.slice am len2 cap2) (.int .i64 bk) (.string (B bn)) (.int .i64 bi) (.slice bs bl bc) (.string (B f)) (.slice sa sl sc) w')
    (first | (with_reducible assumption) | (with_reducible exact Sd) | (with_reducible exact Inq.set4 S8 n1 n2' n3 n4 _ _ _ _))
    (first
      | ((go_at_call 77); (with_reducible refine SUd.mono ?_); rintro e w8 ⟨k9, i9, n9, a9, len9, cap9, rfl, hR8, hU9⟩; have S8 := Sd.keep hU9 (fun x => x) (fun x => x) (fun x => x) (fun x => x); have hr8 := hrd.kept hU9; have z8 := hr8.frozens; obtain ⟨z80, z81, z82, z83⟩ := z8; have c8 := hr8.cells; obtain ⟨c80, c81, c82, c83⟩ := c8))
  all_goals
    have hset := hr8.set (d0 := .int .i64 k9) (d1 := .string (B n9)) (d2 := .int .i64 i9) (d3 := .slice a9 len9 cap9)
    obtain ⟨e0, e1, e2, e3⟩ := hset.1.cells
    have HEE := hid (And.intro e0 (And.intro e1 (And.intro e2 (And.intro e3 hset.2))))
    clear e0 e1 e2 e3 hset
    go_wp2_with fail
    obtain ⟨e0, e1, e2, e3, hset⟩ := HEE.out
    refine bodyPost_ret (v := .tuple #[.agg #[.int .i64 k9, .string (B n9), .int .i64 i9, .slice a9 len9 cap9], .int .i64 (manyE tb [m] [s])]) ?_ rfl ?_
    · simp [results, Tryz.f21, go_sem, e0, e1, e2, e3]
    · exact ⟨k9, i9, n9, a9, len9, cap9, by rw [HE.out.1], by rw [HE.out.2]; exact Rep.weaken (fun b _ e => .inl e) _ _ (Rep.keep hset (fun b e => .inr e) _ _ hR8), ((HU.out.1.and hU8).and (hd7.and hU9)).trans hset (fun b hb e => by have := HH.out; omega)⟩
end Go.Proofs.YtdomloghcpfdjaaGreatDoor
