/- When two terms are the same: the reference's function. -/
import Derived.Test.YtdomloghcpfdjaaGreatDoorRCF
namespace Go.Proofs.YtdomloghcpfdjaaGreatDoor
open Go.RowKit Go.LF
set_option maxRecDepth 100000 in
set_option maxHeartbeats 4000000 in
theorem refSame_any (t : Tm) : t.size ≤ 1000000 → ∀ (u : Tm) (w : World) (cs ds : List Value), Rep none' w t.dat cs → Rep none' w u.dat ds →
    Calls Tryz.prog 25 #[.agg cs.toArray, .agg ds.toArray] w fun e w' => e = .returned (.bool (t.same u)) ∧ Upto none' w w' := by
  induction t using Tm.ind with
  | h k n i ts ih =>
    intro hs u w cs ds h h'
    obtain ⟨a, cap, rfl, hcap, hE⟩ := rep_tm.1 h
    obtain ⟨k', n', i', us, a', cap', rfl, rfl, hcap', hE'⟩ := tm_open h'
    simp only [Tm.size_mk] at hs
    have hlen : ts.length ≤ 1000000 := by have := Tm.length_le_sizes ts; omega
    have H : SameAt 25 ts := fun x hx y w cs ds h h' => ih x hx (by have := Tm.size_le_sizes hx; omega) y w cs ds h h'
    clear ih h h'
    have hr := Tm.same_mk k n i ts k' n' i' us
    generalize (Tm.mk k n i ts).same (Tm.mk k' n' i' us) = r at *
    have HR := hid hr
    clear hr
    have hsh := Tm.sames_of_length_ne ts us
    by_cases hc : (k == k' && (i == i' && ((n == n' || (k == 2 || k == 3)) && ts.length == us.length))) = true
    case neg =>
      have hr : r = false := by
        rw [HR.out]
        by_cases hl : ts.length = us.length
        · rw [Bool.eq_false_iff]
          intro h
          apply hc
          simp only [Bool.and_eq_true] at h ⊢
          exact ⟨h.1, h.2.1, h.2.2.1, by simpa using hl⟩
        · rw [hsh hl]; simp
      subst hr
      have HC := hid hc
      clear hc HR hsh H
      go_enter Tryz.func25, Tryz.ntmps25
      go_wp2_with fail
      all_goals try (go_ret; exact ⟨rfl, ((Upto.refl _ _).alloc _).alloc _⟩)
      all_goals (exfalso; apply HC.out; simp_all <;> omega)
    simp only [Bool.and_eq_true, beq_iff_eq, Bool.or_eq_true] at hc
    obtain ⟨rfl, rfl, hnk, hl⟩ := hc
    have hr : r = Tm.sames ts us := by rw [HR.out]; rcases hnk with h | h | h <;> simp [h]
    subst hr
    clear HR hsh
    have hl1 : ((ts.length : Int) == us.length) = true := by simp; omega
    have hl2 : ((ts.length : Int) != us.length) = false := by simp; omega
    have HL := hid hl
    have hul : us.length ≤ 1000000 := by omega
    clear hl hcap'
    generalize hrr : Tm.sames ts us = r at *
    have HR := hid hrr
    clear hrr
    have key : (∃ x : Bool, (k == 2) = x ∧ (k != 2) = !x) ∧ (∃ x : Bool, (k == 3) = x ∧ (k != 3) = !x) ∧ (∃ x : Bool, (n == n') = x) := ⟨⟨_, rfl, rfl⟩, ⟨_, rfl, rfl⟩, ⟨_, rfl⟩⟩
    obtain ⟨⟨x2, hx2, hy2⟩, ⟨x3, hx3, hy3⟩, ⟨xn, hxn⟩⟩ := key
    have hor : xn = true ∨ x2 = true ∨ x3 = true := by
      rcases hnk with h | h | h
      · left; rw [← hxn]; simp [h]
      · right; left; rw [← hx2]; simp [h]
      · right; right; rw [← hx3]; simp [h]
    clear hnk
    have nbs : ∀ wr, Upto none' ((w.alloc (.cells #[.int .i64 k, .string (B n), .int .i64 i, .slice a ts.length cap] 29)).alloc (.cells #[.int .i64 k, .string (B n'), .int .i64 i, .slice a' us.length cap'] 29)) wr →
        wr.cell? ⟨w.heap.size, 3, none⟩ = some (.slice a ts.length cap) ∧ wr.cell? ⟨w.heap.size + 1, 3, none⟩ = some (.slice a' us.length cap') := fun wr hU =>
      ⟨(box_new hU.behind').2.2.2, by have := (box_new hU).2.2.2; rwa [World.size_alloc] at this⟩
    have NB := hid nbs
    clear nbs
    cases x2 <;> cases x3 <;> cases xn
    case false.false.false => simp at hor
    all_goals
      clear hor
      simp only [Bool.not_true, Bool.not_false] at hy2 hy3
      go_enter Tryz.func25, Tryz.ntmps25
      go_wp2_with fail
      go_loopw [5] (fun v wr => ∃ j : Nat, j ≤ ts.length ∧ v = .int .i64 j ∧ Tm.sames (ts.take j) (us.take j) = true ∧ Upto none' ((w.alloc (.cells #[.int .i64 k, .string (B n), .int .i64 i, .slice a ts.length cap] 29)).alloc (.cells #[.int .i64 k, .string (B n'), .int .i64 i, .slice a' us.length cap'] 29)) wr)
        (fun v _ => ts.length - (intOf v).toNat)
      case atStart => exact ⟨0, Nat.zero_le _, rfl, rfl, Upto.refl _ _⟩
      case round =>
        obtain ⟨j, hj, rfl, hA, hU⟩ := hrel
        obtain ⟨z0, z1⟩ := NB.out wr hU
        have hw : Upto none' w wr := hU.behind'.behind'
        have HA := hid hA
        clear hA
        by_cases hlt : j < ts.length
        · have hlt2 : j < us.length := by have := HL.out; omega
          obtain ⟨b, o, k1, n1, x1, s1, c1, rfl, hb, _, p0, p1, p2, p3, hRp⟩ := arg_tm (hE.on hw) j hlt
          obtain ⟨b', o', k2, n2, i2, s2, c2, rfl, hb', _, q0, q1, q2, q3, hR2⟩ := arg_tm (hE'.on hw) j hlt2
          have hT := Tm.sames_take ts us j hlt hlt2
          rw [HA.out] at hT
          have hM : ts[j].same us[j] = false → Tm.sames ts us = false := fun h => Tm.sames_false ts us j HL.out hlt h
          have H1 := H _ (List.getElem_mem hlt) us[j]
          have HT := hid hT
          have HM := hid hM
          clear hT hM
          have j0 : (0 : Int) ≤ (j : Int) := by omega
          have j1 : (j : Int) < (ts.length : Int) := by omega
          have j2 : (j : Int) < (us.length : Int) := by omega
          generalize ts[j].same us[j] = bo at *
          have hd : Upto none' wr wr.drew := (Upto.refl none' wr).drew
          have H2 := H1 _ _ _ (hRp.on hd) (hR2.on hd)
          clear H1
          go_wp2_with fail
          go_region_held3 (fun w' => w'.cell? ⟨w.heap.size, 3, none⟩ = some (.slice (some ⟨b, o, none⟩) ts.length cap) ∧ w'.cell? ⟨w.heap.size + 1, 3, none⟩ = some (.slice (some ⟨b', o', none⟩) us.length cap') ∧
              w'.cell? ⟨b, o + j * 4, none⟩ = some (.int .i64 k1) ∧ w'.cell? ⟨b, o + j * 4 + 1, none⟩ = some (.string (B n1)) ∧ w'.cell? ⟨b, o + j * 4 + 2, none⟩ = some (.int .i64 x1) ∧ w'.cell? ⟨b, o + j * 4 + 3, none⟩ = some (.slice s1 ts[j].args.length c1) ∧
              w'.cell? ⟨b', o' + j * 4, none⟩ = some (.int .i64 k2) ∧ w'.cell? ⟨b', o' + j * 4 + 1, none⟩ = some (.string (B n2)) ∧ w'.cell? ⟨b', o' + j * 4 + 2, none⟩ = some (.int .i64 i2) ∧ w'.cell? ⟨b', o' + j * 4 + 3, none⟩ = some (.slice s2 us[j].args.length c2))
            (first | go_keep | (exact ⟨hU1.cell z0 (fun x => x), hU1.cell z1 (fun x => x), hU1.cell p0 (fun x => x), hU1.cell p1 (fun x => x), hU1.cell p2 (fun x => x), hU1.cell p3 (fun x => x), hU1.cell q0 (fun x => x), hU1.cell q1 (fun x => x), hU1.cell q2 (fun x => x), hU1.cell q3 (fun x => x)⟩))
            ((go_at_call 25; refine H2.mono ?_; rintro e w1 ⟨rfl, hU1⟩))
          have hw1 : Upto none' wr _ := hd.and hU1
          cases bo
          all_goals go_wp2
          · go_ret
            exact ⟨ret_bool (by rw [← HR.out, HM.out (by trivial)]), hw.and hw1⟩
          · go_roundw
            case rel =>
              have fin : ∃ j1 : Nat, j1 ≤ ts.length ∧ Value.int .i64 ((j : Int) + 1) = .int .i64 j1 ∧ Tm.sames (ts.take j1) (us.take j1) = true ∧ Upto none' _ w1 :=
                ⟨j + 1, by omega, by go_num, by rw [HT.out]; rfl, hU.and hw1⟩
              first | exact fin | ((repeat apply Exists.intro); exact ⟨fin, rfl⟩)
            case measure => simp [intOf]; omega
        · have hj' : ts.take j = ts := List.take_of_length_le (by omega)
          have hj2 : us.take j = us := List.take_of_length_le (by have := HL.out; omega)
          have HA' := HA.out
          rw [hj', hj2] at HA'
          have HO := hid HA'
          clear HA HA' hj' hj2
          go_wp2
          go_ret
          exact ⟨ret_bool (by rw [← HR.out, HO.out]), hw⟩
end Go.Proofs.YtdomloghcpfdjaaGreatDoor
