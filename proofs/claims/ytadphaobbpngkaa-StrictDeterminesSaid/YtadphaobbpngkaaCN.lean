/- Of which variable a term is the eta-long form: simple.Variable and the reference's. -/
import Derived.Test.YtadphaobbpngkaaCA
import Derived.Test.YtadphaobbpngkaaCC
import Derived.Test.YtadphaobbpngkaaCF
import Derived.Test.YtadphaobbpngkaaCH
import Derived.Carry
import Derived.Laws.MakeOwn
namespace Go.Proofs.Ytadphaobbpngkaa
open Go.RowKit Go.LF
/-- A number, or none. -/
def optV (r : Option Int) : Value := .tuple #[.int .i64 (r.getD 0), .bool r.isSome]
theorem optV_none : optV none = .tuple #[.int .i64 0, .bool false] := rfl
theorem optV_some (v : Int) : optV (some v) = .tuple #[.int .i64 v, .bool true] := rfl
/-- Four cells that read as a term: the term's own. -/
theorem tm_tie {O : Nat → Prop} {w : World} {t : Tm} {k x : Int} {n : List UInt8} {s : Option Addr} {l c : Nat} (h : Rep O w t.dat [.int .i64 k, .string (B n), .int .i64 x, .slice s l c]) :
    ∃ ts, t = .mk k n x ts ∧ l = ts.length ∧ l ≤ c ∧ RepE O w 4 (ts.map Tm.dat) s 0 := by
  obtain ⟨k', n', i', ts, a', cap', rfl, e, hcap, hE⟩ := tm_open h
  simp only [List.cons.injEq, Value.int.injEq, Value.string.injEq, Value.slice.injEq, and_true, true_and] at e
  obtain ⟨rfl, e2, rfl, rfl, rfl, rfl⟩ := e
  obtain rfl : n = n' := by have := congrArg (fun b => b.data.toList) e2; simpa using this
  exact ⟨ts, rfl, rfl, hcap, hE⟩
set_option maxRecDepth 100000 in
set_option maxHeartbeats 8000000 in
theorem var_any (N : Nat) : N ≤ 100000 → ∀ (t : Tm), t.size ≤ N → (t.kind = 3 ∨ t.kind = 5 → t.isObj = true) → ∀ (w : World) (cs : List Value), Rep none' w t.dat cs →
    Calls Try.prog 101 #[.agg cs.toArray] w fun e w' => e = .returned (optV (t.vr 0)) ∧ Upto none' w w' := by
  induction N with
  | zero => intro _ t h; have := t.size_pos; omega
  | succ N ih =>
    intro hN t hsz hlam w cs h
    obtain ⟨k0, n0, i0, ts0, a0, cap0, ht, rfl, hcap0, _⟩ := tm_open h
    obtain ⟨r, hr⟩ : ∃ r, r = t.vr 0 := ⟨_, rfl⟩
    rw [← hr]
    obtain ⟨w1, hw1⟩ : ∃ w1, w1 = w.alloc (.cells #[.int .i64 k0, .string (B n0), .int .i64 i0, .slice a0 ts0.length cap0] 32) := ⟨_, rfl⟩
    have hU1 : Upto none' w w1 := by rw [hw1]; exact (Upto.refl none' w).alloc _
    have hB1 : Box4 w1 w.heap.size (.int .i64 k0) (.string (B n0)) (.int .i64 i0) (.slice a0 ts0.length cap0) 32 := by rw [hw1]; exact Box4.at_new rfl
    have hR1 : Rep (fun b => b = w.heap.size) w1 t.dat [.int .i64 k0, .string (B n0), .int .i64 i0, .slice a0 ts0.length cap0] := (Rep.weaken (fun b _ e => .inr (by omega)) _ _ (Rep.fresh' _ _ h)).on hU1
    have HW1 := hid hw1
    have HR := hid hr
    have HT := hid ht
    have HL := hid (And.intro hsz hlam)
    obtain ⟨H, hH⟩ : ∃ H, H = w.heap.size := ⟨_, rfl⟩
    have HH := hid hH
    rw [← hH] at hB1 hR1
    clear hw1 hr ht hH hcap0 h hsz hlam
    go_enter Try.func101, Try.ntmps101
    go_wp2_with fail
    rw [← HW1.out, ← HH.out]
    go_loopw [4] (fun v4 wr => ∃ (j : Nat) (k i : Int) (n : List UInt8) (a : Option Addr) (ts : List Tm) (cap : Nat), v4 = .int .i64 j ∧ (Tm.mk k n i ts).size + j ≤ N + 1 ∧ (k = 3 ∨ k = 5 → (Tm.mk k n i ts).isObj = true) ∧ r = (Tm.mk k n i ts).vr j ∧
        Rep (fun b => b = H) wr (Tm.mk k n i ts).dat [.int .i64 k, .string (B n), .int .i64 i, .slice a ts.length cap] ∧ Box4 wr H (.int .i64 k) (.string (B n)) (.int .i64 i) (.slice a ts.length cap) 32 ∧ Upto none' w wr)
      (fun v4 _ => N + 2 - (intOf v4).toNat)
    case atStart =>
      obtain ⟨h1, h2⟩ := HL.out
      have h3 := HR.out
      rw [HT.out] at h1 h2 h3 hR1
      exact ⟨0, _, _, _, _, _, _, rfl, h1, h2, by simpa using h3, hR1, hB1, hU1⟩
    case round =>
      clear hR1 hB1 hU1
      obtain ⟨j, k, i, nm, a, ts, cap, rfl, hj, hl, hr, hR, hB, hU⟩ := hrel
      obtain ⟨b0, b1, b2, b3⟩ := hB.cells
      obtain ⟨f0, f1, f2, f3⟩ := hB.frozens
      have hq := hB.lt
      obtain ⟨_, _, e0, hcap, hE⟩ := rep_tm.1 hR
      simp only [List.cons.injEq, Value.slice.injEq, and_true, true_and] at e0
      obtain ⟨rfl, rfl⟩ := e0
      have hsz := hj
      rw [Tm.size_mk] at hsz
      have hlen := Tm.length_le_sizes ts
      have hj0 : (0 : Int) ≤ (j : Int) := by omega
      have hj1 : (j : Int) ≤ 200000 := by omega
      have HR2 := hid (And.intro hj (And.intro hl hr))
      clear hj hl hr hR
      by_cases hk : k = 3
      · have hk3 : (k == 3) = true := by simpa using hk
        have hone : ts.length = 1 := (Tm.obj_args (HR2.out.2.1 (.inl hk))).2 hk
        obtain ⟨u, rfl⟩ := List.length_eq_one_iff.1 hone
        obtain ⟨gb, go', k1, n1, x1, s1, c1, rfl, hgl, hgO, g0, g1, g2, g3, hR1⟩ := arg_tm hE 0 (by simp)
        simp only [List.getElem_cons_zero] at g3 hR1
        obtain ⟨us, rfl, hul, hc1, hE1⟩ := tm_tie hR1
        simp only [Tm.args_mk, Nat.zero_mul, Nat.add_zero] at g0 g1 g2 g3 hR1
        have hs1 : Tm.sizes [Tm.mk k1 n1 x1 us] = (Tm.mk k1 n1 x1 us).size := by simp [Tm.sizes]
        have HS := hid hs1
        have HK := hid hk
        clear hk hs1 hone hE hul hE1
        go_wp2_with fail
        have hset := hB.set (d0 := .int .i64 k1) (d1 := .string (B n1)) (d2 := .int .i64 x1) (d3 := .slice s1 us.length c1)
        have hR2 := Rep.keep hset.2 (fun b e => e) _ _ hR1
        go_roundw
        case rel =>
          obtain ⟨h1, h2, h3⟩ := HR2.out
          rw [Tm.size_mk, HS.out] at h1
          refine ⟨j + 1, k1, x1, n1, s1, us, c1, by go_num, by omega, fun _ => (Tm.obj_args (h2 (.inl HK.out))).1 _ (by simp), ?_, hR2, hset.1, hU.trans hset.2 (fun x hx e => by have := HH.out; omega)⟩
          rw [h3, Tm.vr_mk, if_pos hk3, Tm.vr0]
          rfl
        case measure => (simp [intOf]; have := HR2.out.1; simp at this; omega)
      · have hk3 : (k == 3) = false := by simpa using hk
        have hr : r = if k == 5 && (decide ((j : Int) ≤ i) && ((ts.length : Int) == (j : Int) && Tm.vrs ((j : Int) - 1) ts)) then some (i - j) else none := by
          rw [HR2.out.2.2, Tm.vr_mk, hk3]; rfl
        have HR3 := hid hr
        have hways : ((k != 5) = true ∧ r = none) ∨ ((k != 5) = false ∧ i < (j : Int) ∧ r = none) ∨ ((k != 5) = false ∧ (j : Int) ≤ i ∧ ((ts.length : Int) != (j : Int)) = true ∧ r = none) ∨
            ((k != 5) = false ∧ (j : Int) ≤ i ∧ ((ts.length : Int) != (j : Int)) = false ∧ ts.length = j ∧ r = if Tm.vrs ((j : Int) - 1) ts then some (i - j) else none) := by
          by_cases h5 : k = 5
          · by_cases hi : (j : Int) ≤ i
            · by_cases hl : ts.length = j
              · exact .inr (.inr (.inr ⟨by simp [h5], hi, by simp [hl], hl, by rw [hr]; simp [h5, hi, hl]⟩))
              · exact .inr (.inr (.inl ⟨by simp [h5], hi, by simp; omega, by rw [hr, if_neg]; simp; omega⟩))
            · exact .inr (.inl ⟨by simp [h5], by omega, by rw [hr, if_neg]; simp; omega⟩)
          · exact .inl ⟨by simp [h5], by rw [hr, if_neg]; simp [h5]⟩
        clear hk hr
        rcases hways with ⟨h5, hn⟩ | ⟨h5, hi, hn⟩ | ⟨h5, hi, hl, hn⟩ | ⟨h5, hi, hl, hlj, hn⟩
        · have HN := hid hn
          clear hn
          go_wp2_with fail
          go_ret2
          exact ⟨by rw [HN.out]; rfl, hU⟩
        · have HN := hid hn
          clear hn
          go_wp2_with fail
          go_ret2
          exact ⟨by rw [HN.out]; rfl, hU⟩
        · have HN := hid hn
          clear hn
          go_wp2_with fail
          go_ret2
          exact ⟨by rw [HN.out]; rfl, hU⟩
        · have HN := hid hn
          have HJ := hid hlj
          have hi1 : i ≤ 1048576 := by
            have hk5 : k = 5 := by simpa using h5
            have := HR2.out.2.1 (.inr hk5)
            rw [Tm.isObj, if_neg (by omega), if_neg (by omega), if_pos hk5] at this
            simp at this
            omega
          have hobj : ∀ x ∈ ts, x.isObj = true := (Tm.obj_args (HR2.out.2.1 (.inr (by simpa using h5)))).1
          have HO := hid hobj
          clear hn hlj hobj
          obtain ⟨wq, rfl⟩ : ∃ wq, wq = wr := ⟨wr, rfl⟩
          have hUq : Upto none' w wq := hU
          go_wp2_with fail
          go_loopw [37] (fun v wr => ∃ m : Nat, v = .int .i64 m ∧ m ≤ ts.length ∧ Tm.vrs ((j : Int) - 1) ts = Tm.vrs ((j : Int) - 1 - m) (ts.drop m) ∧ Upto none' wq wr) (fun v _ => ts.length - (intOf v).toNat)
          case atStart => exact ⟨0, rfl, Nat.zero_le _, by simp, Upto.refl _ _⟩
          case round =>
            obtain ⟨m, rfl, hm, hv, hUr⟩ := hrel
            have HV := hid hv
            clear hv b0 b1 b2 b3 f0 f1 f2 f3 hq
            have hBr := hB.kept hUr
            obtain ⟨b0, b1, b2, b3⟩ := hBr.cells
            have hq := hBr.lt
            have hm0 : (0 : Int) ≤ (m : Int) := by omega
            have hm1 : (m : Int) ≤ 200000 := by omega
            by_cases hlt : m < ts.length
            · obtain ⟨gb, go', k1, n1, x1, s1, c1, rfl, hgl, hgO, g0, g1, g2, g3, hR1⟩ := arg_tm (hE.on hUr) m hlt
              have hlt' : (m : Int) < (ts.length : Int) := by omega
              have hltj : (m : Int) < (j : Int) := by have := HJ.out; omega
              have hs1 := Tm.size_le_sizes (List.getElem_mem hlt)
              have IH := fun w' h => ih (by omega) (ts[m]'hlt) (by omega) (fun _ => HO.out _ (List.getElem_mem hlt)) w' _ (Rep.weaken (O' := none') (fun _ _ x => x.elim) _ _ (hR1.on h))
              have hvd := Tm.vrs_drop ((j : Int) - 1) ts m hlt
              generalize ts[m].args.length = al at *
              obtain ⟨rv, hrv⟩ : ∃ rv, rv = (ts[m]'hlt).vr 0 := ⟨_, rfl⟩
              rw [← hrv] at IH hvd
              have HVD := hid (And.intro hvd (And.intro hlt HV.out))
              clear hvd hrv hR1 hs1 hlt
              go_wp2_with fail
              first
                | refine (IH _ ((Upto.refl none' wr).alloc _)).mono ?_
                | refine (IH _ (Upto.refl none' wr)).mono ?_
              rintro e w5 ⟨rfl, hU5⟩
              have hU5' : Upto none' wq w5 := by
                first
                  | exact hUr.and (Upto.behind' hU5)
                  | exact hUr.and hU5
              have hB5 := hB.kept hU5'
              obtain ⟨x0, x1, x2, x3⟩ := hB5.cells
              have hq5 := hB5.lt
              rcases rv with _ | v
              · rw [optV_none]
                go_wp2_with fail
                go_ret2
                refine ⟨?_, hU.and hU5'⟩
                obtain ⟨h1, h2, h3⟩ := HVD.out
                rw [HN.out, h3, h1]
                rfl
              · rw [optV_some]
                by_cases hve : v = (j : Int) - 1 - m
                · have hv1 : (v != (j : Int) - 1 - (m : Int)) = false := by simp [hve]
                  have HVE := hid hve
                  clear hve
                  go_wp2_with fail
                  go_roundw
                  case rel =>
                    obtain ⟨h1, h2, h3⟩ := HVD.out
                    refine ⟨m + 1, by go_num, by omega, ?_, hU5'⟩
                    rw [h3, h1, HVE.out]
                    simp
                  case measure => (have := HVD.out.2.1; simp [intOf]; omega)
                · have hv1 : (v != (j : Int) - 1 - (m : Int)) = true := by simpa using hve
                  have HVE := hid hve
                  clear hve
                  go_wp2_with fail
                  go_ret2
                  refine ⟨?_, hU.and hU5'⟩
                  obtain ⟨h1, h2, h3⟩ := HVD.out
                  have h4 : (some v == some ((j : Int) - 1 - (m : Int))) = false := by simpa using HVE.out
                  rw [HN.out, h3, h1, h4]
                  rfl
            · have hjn : ¬ (m : Int) < (ts.length : Int) := by omega
              have hjn2 : ¬ (m : Int) < (j : Int) := by have := HJ.out; omega
              have hd : ts.drop m = [] := List.drop_eq_nil_of_le (by omega)
              have HD := hid hd
              clear hd
              go_wp2_with fail
              go_ret2
              refine ⟨?_, hU.and hUr⟩
              rw [HN.out, HV.out, HD.out, Tm.vrs, if_pos rfl]
              rfl
set_option maxHeartbeats 2000000 in
theorem variable_any (t : Tm) (hs : t.wt ≤ 100000) (w : World) (cs : List Value) (h : Rep none' w t.dat cs) :
    Calls Try.prog 84 #[.agg cs.toArray] w fun e w' => e = .returned (optV t.vrw) ∧ Upto none' w w' := by
  have HWF := fun w' h => wellFormed_any t (by omega) w' cs h
  have HV := fun (hw : t.wf = 0) w' h => var_any 100000 (Nat.le_refl _) t (by have := Tm.size_le_wt t; omega) (Tm.wf_lam hw) w' cs h
  obtain ⟨k, n, i, ts, a, cap, ht, rfl, hcap, hE⟩ := tm_open h
  obtain ⟨r, hr⟩ : ∃ r, r = t.vrw := ⟨_, rfl⟩
  obtain ⟨f, hf⟩ : ∃ f, f = t.wf := ⟨_, rfl⟩
  have hr2 : r = if t.wf == 0 then t.vr 0 else none := hr
  rw [← hr]
  rw [← hf] at HWF HV hr2
  obtain ⟨v, hv⟩ : ∃ v, v = t.vr 0 := ⟨_, rfl⟩
  rw [← hv] at HV hr2
  have HR := hid hr2
  clear hr hf hv hr2 hcap hE ht
  generalize ts.length = len at *
  have hBn : ∀ w1, Upto none' (w.alloc (.cells #[.int .i64 k, .string (B n), .int .i64 i, .slice a len cap] 32)) w1 → w1.cell? ⟨w.heap.size, 0, none⟩ = some (.int .i64 k) ∧ w1.cell? ⟨w.heap.size, 1, none⟩ = some (.string (B n)) ∧ w1.cell? ⟨w.heap.size, 2, none⟩ = some (.int .i64 i) ∧ w1.cell? ⟨w.heap.size, 3, none⟩ = some (.slice a len cap) := fun w1 hU => box_new hU
  by_cases hf0 : f = 0
  · have hf1 : (f != 0) = false := by simp [hf0]
    have HVV := hid (HV hf0)
    have hrv : r = v := by rw [HR.out]; simp [hf0]
    have HRV := hid hrv
    clear hrv HV hf0
    go_enter Try.func84, Try.ntmps84
    go_wp2_with fail
    refine (HWF _ (h.new _)).mono ?_
    rintro e w1 ⟨rfl, hU⟩
    obtain ⟨b0, b1, b2, b3⟩ := hBn w1 hU
    go_wp2_with fail
    refine (HVV.out _ (h.on hU.behind')).mono ?_
    rintro e w2 ⟨rfl, hU2⟩
    unfold optV
    go_wp2_with fail
    go_ret2
    exact ⟨by rw [HRV.out]; rfl, hU.behind'.and hU2⟩
  · have hf1 : (f != 0) = true := by simpa using hf0
    have hrv : r = none := by rw [HR.out, if_neg (by simpa using hf0)]
    have HRV := hid hrv
    clear hrv HV hf0
    go_enter Try.func84, Try.ntmps84
    go_wp2_with fail
    refine (HWF _ (h.new _)).mono ?_
    rintro e w1 ⟨rfl, hU⟩
    obtain ⟨b0, b1, b2, b3⟩ := hBn w1 hU
    go_wp2_with fail
    go_ret2
    exact ⟨by rw [HRV.out]; rfl, hU.behind'⟩
end Go.Proofs.Ytadphaobbpngkaa
namespace Go.Proofs.Ytadphaobbpngkaa
open Go.RowKit Go.LF
theorem kof_at {ks : List Int} {i : Int} {m : Nat} (hm : i = m) (h : m < ks.length) : kof ks i = if ks[m] == 1 || ks[m] == 2 then ks[m] else 0 := by
  subst hm
  have h0 : decide ((0 : Int) ≤ (m : Int)) = true := by simp
  have h1 : decide ((m : Int) < (ks.length : Int)) = true := by simp; omega
  unfold kof
  rw [h0, h1]
  simp [List.getD, h]
theorem kof_far {ks : List Int} {i : Int} (h : i < 0 ∨ (ks.length : Int) ≤ i) : kof ks i = 0 := by
  unfold kof
  rw [if_neg]
  simp
  intro h1 h2
  omega
theorem kof_range (ks : List Int) (i : Int) : 0 ≤ kof ks i ∧ kof ks i ≤ 2 := by
  unfold kof
  split
  · rename_i h
    simp only [Bool.and_eq_true, Bool.or_eq_true, beq_iff_eq, decide_eq_true_eq] at h
    rcases h.2.2 with e | e <;> rw [e] <;> omega
  · omega
set_option maxRecDepth 100000 in
set_option maxHeartbeats 4000000 in
theorem kind_any' (ks : List Int) (_hk : ks.length ≤ 1000000) (d i : Int) (hd0 : 0 ≤ d) (hd1 : d ≤ 10000000) (hi0 : 0 ≤ i) (hi1 : i ≤ 10000000) (SB : Nat) (a : Option Addr) (cap : Nat) {O : Nat → Prop} (w : World)
    (h0 : w.cell? ⟨SB, 0, none⟩ = some (.slice a ks.length cap)) (h1 : w.cell? ⟨SB, 1, none⟩ = some (.int .i64 d)) (hE : RepE O w 1 (ks.map (Dat.int .i64)) a 0) :
    Calls Try.prog 60 #[.pointer (some ⟨SB, 0, none⟩), .int .i64 i] w fun e w' => e = .returned (.int .i64 (kd ks d i)) ∧ w = w' := by
  obtain ⟨r, hr⟩ : ∃ r, r = kd ks d i := ⟨_, rfl⟩
  rw [← hr]
  by_cases hlt : i < d
  · have HR := hid (hr.trans (if_pos hlt))
    clear hr
    go_enter Try.func60, Try.ntmps60
    go_wp2_with fail
    go_ret
    exact ⟨ret_int HR.out.symm, rfl⟩
  · rw [kd, if_neg hlt] at hr
    obtain ⟨m, hm⟩ : ∃ m : Nat, i - d = (m : Int) := ⟨(i - d).toNat, by omega⟩
    have hw : IntKind.i64.wrap (i - d) = (m : Int) := by rw [Go.IntWalk.i64_in _ (by omega)]; exact hm
    have hm0 : (0 : Int) ≤ (m : Int) := by omega
    have hm1 : (m : Int) ≤ 10000000 := by omega
    by_cases hl : m < ks.length
    · obtain ⟨b, o, rfl, hb, _, hc⟩ := int_cell hE m hl
      rw [kof_at hm hl] at hr
      have hl1 : (m : Int) < (ks.length : Int) := by omega
      generalize ks[m] = x at *
      by_cases x1 : x = 1
      · subst x1
        have HR := hid hr
        clear hr
        go_enter Try.func60, Try.ntmps60
        go_wp2_with fail
        go_ret
        exact ⟨ret_int HR.out.symm, rfl⟩
      · by_cases x2 : x = 2
        · subst x2
          have HR := hid hr
          clear hr
          go_enter Try.func60, Try.ntmps60
          go_wp2_with fail
          go_ret
          exact ⟨ret_int HR.out.symm, rfl⟩
        · have y1 : (x == 1) = false := by simpa using x1
          have y2 : (x == 2) = false := by simpa using x2
          rw [y1, y2] at hr
          have HR := hid hr
          clear hr x1 x2
          go_enter Try.func60, Try.ntmps60
          go_wp2_with fail
          go_ret
          exact ⟨ret_int HR.out.symm, rfl⟩
    · rw [kof_far (.inr (by omega))] at hr
      have hl1 : ¬ (m : Int) < (ks.length : Int) := by omega
      have HR := hid hr
      clear hr
      go_enter Try.func60, Try.ntmps60
      go_wp2_with fail
      go_ret
      exact ⟨ret_int HR.out.symm, rfl⟩
end Go.Proofs.Ytadphaobbpngkaa
namespace Go.Proofs.Ytadphaobbpngkaa
open Go.RowKit Go.LF
/-- What is left of a spine behind an argument. -/
def spnO (ks : List Int) (d : Int) (seen : List Int) (rest : List Tm) : Option Int → Bool
  | none => false
  | some v => !seen.contains v && (kd ks d v == 2 && spn ks d (seen ++ [v]) rest)
theorem spn_drop (ks : List Int) (d : Int) (seen : List Int) (l : List Tm) (j : Nat) (h : j < l.length) (r : Option Int) (hr : l[j].vrw = r) : spn ks d seen (l.drop j) = spnO ks d seen (l.drop (j + 1)) r := by
  subst hr
  rw [List.drop_eq_getElem_cons h, spn]
  cases l[j].vrw <;> rfl
theorem kd_range (ks : List Int) (d i : Int) : 0 ≤ kd ks d i ∧ kd ks d i ≤ 2 := by
  unfold kd
  split
  · omega
  · exact kof_range _ _
theorem upto_map {w w' : World} {m : Nat} (hg : w.grownBy w' (some m)) : Upto (fun k => k = m) w w' := ⟨hg.os, hg.tape, hg.output, hg.size, fun k hk hn => hg.block k hk (fun e => hn (Option.some.inj e))⟩
set_option maxRecDepth 100000 in
set_option maxHeartbeats 8000000 in
theorem pattern_any (ks : List Int) (hk : ks.length ≤ 1000000) (d : Int) (hd0 : 0 ≤ d) (hd1 : d ≤ 1000000) (SB : Nat) (ka : Option Addr) (kc : Nat) (ts : List Tm) (hwt : Tm.wts ts ≤ 100000) (hobj : ∀ t ∈ ts, t.isObj = true) (ta : Option Addr) (tc : Nat) {O : Nat → Prop} (w : World)
    (h0 : w.cell? ⟨SB, 0, none⟩ = some (.slice ka ks.length kc)) (h1 : w.cell? ⟨SB, 1, none⟩ = some (.int .i64 d)) (hK : RepE O w 1 (ks.map (Dat.int .i64)) ka 0) (hA : RepE none' w 4 (ts.map Tm.dat) ta 0) :
    Calls Try.prog 61 #[.pointer (some ⟨SB, 0, none⟩), .slice ta ts.length tc] w fun e w' => e = .returned (.bool (spn ks d [] ts)) ∧ Upto none' w w' := by
  obtain ⟨r, hr⟩ : ∃ r, r = spn ks d [] ts := ⟨_, rfl⟩
  rw [← hr]
  have HR := hid hr
  have hmm := @run_makeMap Try.prog
  have hlen : ts.length ≤ 100000 := by have := Tm.length_le_sizes ts; have := Tm.sizes_le_wts ts; omega
  obtain ⟨w1, hw1⟩ : ∃ w1, w1 = w.alloc (.map #[] 0) := ⟨_, rfl⟩
  obtain ⟨M, hM⟩ : ∃ M, M = w.heap.size := ⟨_, rfl⟩
  have hS1 : Seen w1 M [] := by rw [hw1, hM]; exact Seen.made w
  have hU1 : Upto none' w w1 := by rw [hw1]; exact (Upto.refl none' w).alloc _
  have HW1 := hid hw1
  have HM := hid hM
  clear hr hw1 hM
  go_enter Try.func61, Try.ntmps61
  go_wp2_with fail
  rw [← HW1.out, ← HM.out]
  clear hmm
  go_loopw [13] (fun v wr => ∃ (m : Nat) (seen : List Int), v = .int .i64 m ∧ m ≤ ts.length ∧ r = spn ks d seen (ts.drop m) ∧ Seen wr M (seen.map (Value.int .i64)) ∧ Upto none' w wr) (fun v _ => ts.length - (intOf v).toNat)
  case atStart => exact ⟨0, [], rfl, Nat.zero_le _, HR.out, hS1, hU1⟩
  case round =>
    clear hS1 hU1
    obtain ⟨m, seen, rfl, hm, hv, hS, hU⟩ := hrel
    have HV := hid hv
    clear hv
    have hm0 : (0 : Int) ≤ (m : Int) := by omega
    have hm1 : (m : Int) ≤ 200000 := by omega
    by_cases hlt : m < ts.length
    · obtain ⟨gb, go', k1, n1, x1, s1, c1, rfl, hgl, hgO, g0, g1, g2, g3, hR1⟩ := arg_tm (hA.on hU) m hlt
      have hlt' : (m : Int) < (ts.length : Int) := by omega
      have hw1 := Tm.wt_le_wts (List.getElem_mem hlt)
      have HVA := fun w' (h : Upto none' wr w') => variable_any (ts[m]'hlt) (by omega) w' _ (hR1.on h)
      have hdr := fun rv hrv => spn_drop ks d seen ts m hlt rv hrv
      have hv0 : ∀ v, (ts[m]'hlt).vrw = some v → 0 ≤ v ∧ v ≤ 1048576 := fun v hv => ⟨Tm.vr_nonneg _ _ _ (Tm.vrw_obj hv).2, Tm.vr_le _ _ _ (by omega) (hobj _ (List.getElem_mem hlt)) (Tm.vrw_obj hv).2⟩
      generalize ts[m].args.length = al at *
      obtain ⟨rv, hrv⟩ : ∃ rv, rv = (ts[m]'hlt).vrw := ⟨_, rfl⟩
      rw [← hrv] at HVA
      replace hdr := hdr rv hrv.symm
      rw [← hrv] at hv0
      have HD := hid (And.intro hdr hlt)
      clear hdr hrv hw1 hlt hR1
      go_wp2_with fail
      refine (HVA _ ((Upto.refl none' wr).alloc _)).mono ?_
      rintro e w5 ⟨rfl, hU5⟩
      have hU5' : Upto none' wr w5 := hU5.behind'
      have hS5 := hS.kept (upto_grown hU5') (by simp)
      have hUw5 := hU.and hU5'
      have c0 := hUw5.cell h0 (fun x => x)
      have c1 := hUw5.cell h1 (fun x => x)
      have hK5 := hK.on hUw5
      rcases rv with _ | v
      · rw [optV_none]
        go_wp2_with fail
        go_ret
        exact ⟨ret_bool (by rw [HV.out, HD.out.1]; rfl), hUw5⟩
      · rw [optV_some]
        obtain ⟨hv1, hv2⟩ := hv0 v rfl
        clear hv0
        have hd := HD.out.1
        rw [spnO] at hd
        by_cases hc : seen.contains v = true
        · have hlk := hS5.lookup (P := Try.prog) (mt := 102) (kt := 3) (bt := 4) (key := .int .i64 v) (by kernel_rfl) (by kernel_rfl) (zero_bool w5) (int_key _) rfl true (by simp at hc; simp [hc])
          rw [hc] at hd
          have HDD := hid hd
          clear hd hc
          go_wp2_with fail
          go_ret
          exact ⟨ret_bool (by rw [HV.out, HDD.out]; rfl), hUw5⟩
        · have hc' : seen.contains v = false := by simpa using hc
          have hlk := hS5.lookup (P := Try.prog) (mt := 102) (kt := 3) (bt := 4) (key := .int .i64 v) (by kernel_rfl) (by kernel_rfl) (zero_bool w5) (int_key _) rfl false (by simp at hc; simp [hc])
          obtain ⟨W3, hup, hS3, g3, hz3⟩ := hS5.store (P := Try.prog) (mt := 102) (kt := 3) (bt := 4) (key := .int .i64 v) (by kernel_rfl) (by kernel_rfl) (int_key _) rfl (by simp at hc; simp [hc])
          have HKD := kind_any' ks hk d v hd0 (by omega) hv1 (by omega) SB ka kc w5 c0 c1 hK5
          obtain ⟨x, hx⟩ : ∃ x, x = kd ks d v := ⟨_, rfl⟩
          rw [← hx] at HKD hd
          rw [hc'] at hd
          have HDD := hid hd
          have HS3 := hid (And.intro hS3 g3)
          clear hd hc hc' hx hS3 g3
          by_cases h2 : x = 2
          · have hx2 : (x != 2) = false := by simp [h2]
            have HX := hid h2
            clear h2
            go_wp2_with fail
            refine HKD.mono ?_
            rintro e w6 ⟨rfl, rfl⟩
            go_wp2_with fail
            go_roundw
            case rel =>
              have h3 := HDD.out
              rw [HX.out] at h3
              refine ⟨m + 1, seen ++ [v], by go_num, Nat.succ_le_of_lt HD.out.2, by rw [HV.out, h3]; simp, by simpa using HS3.out.1, hUw5.trans (upto_map HS3.out.2) (fun b hb e => by have := HM.out; omega)⟩
            case measure => (have := HD.out.2; simp [intOf]; omega)
          · have hx2 : (x != 2) = true := by simpa using h2
            have HX := hid h2
            clear h2
            go_wp2_with fail
            refine HKD.mono ?_
            rintro e w6 ⟨rfl, rfl⟩
            go_wp2_with fail
            go_ret
            refine ⟨ret_bool ?_, hUw5⟩
            have h3 : (x == 2) = false := by simpa using HX.out
            rw [HV.out, HDD.out, h3]
            simp
    · have hjn : ¬ (m : Int) < (ts.length : Int) := by omega
      have hd : ts.drop m = [] := List.drop_eq_nil_of_le (by omega)
      have HD := hid hd
      clear hd
      go_wp2_with fail
      go_ret
      exact ⟨ret_bool (by rw [HV.out, HD.out, spn]), hU⟩
end Go.Proofs.Ytadphaobbpngkaa
namespace Go.Proofs.Ytadphaobbpngkaa
open Go.RowKit Go.LF
theorem upto_then {S : Nat → Prop} {a b c : World} (h : Upto none' a b) (k : Upto S b c) : Upto S a c := (h.mono (fun _ _ x => x.elim)).trans k (fun _ _ x => x)
/-- The block q is a row of truth values. -/
def BoolRow (W : World) (q : Nat) (l : List Bool) : Prop := W.heap[q]? = some (.cells (l.map Value.bool).toArray 4 (0, 0))
section
variable {W W' : World} {q : Nat} {l : List Bool} {S : Nat → Prop}
theorem BoolRow.lt (h : BoolRow W q l) : q < W.heap.size := (Array.getElem?_eq_some_iff.1 h).1
theorem BoolRow.cell (h : BoolRow W q l) (i : Nat) (hi : i < l.length) : W.cell? ⟨q, i, none⟩ = some (.bool l[i]) := by
  unfold BoolRow at h
  simp [World.cell?, h, hi]
theorem BoolRow.frozen (h : BoolRow W q l) (i : Nat) : W.frozen? ⟨q, i, none⟩ = false := by
  unfold BoolRow at h
  simp [World.frozen?, h]
theorem BoolRow.keep (h : BoolRow W q l) (hU : Upto S W W') (hS : ¬ S q) : BoolRow W' q l := (hU.block q h.lt hS).trans h
theorem BoolRow.kept (h : BoolRow W q l) (hU : Upto none' W W') : BoolRow W' q l := h.keep hU (fun x => x)
theorem BoolRow.set (h : BoolRow W q l) (i : Nat) (b : Bool) : BoolRow (W.setCell ⟨q, i, none⟩ (.bool b)) q (l.set i b) := by
  obtain ⟨hlt, hk⟩ := Array.getElem?_eq_some_iff.1 h
  show (W.heap.modify q _)[q]? = _
  rw [Array.getElem?_eq_getElem (by rw [Array.size_modify]; exact hlt), Array.getElem_modify_self, hk]
  simp [List.map_set]
theorem BoolRow.rep {O : Nat → Prop} (h : BoolRow W q l) (hO : ¬ O q) : RepE O W 1 (l.map Dat.bool) (some ⟨q, 0, none⟩) 0 :=
  repE_row (D := Dat.bool) (V := Value.bool) (fun x => by simp [Rep]) l _ 0 (fun i hi => ⟨q, rfl, h.lt, hO, by simpa using h.cell i hi⟩)
end
theorem bool_cell {O : Nat → Prop} {W : World} {l : List Bool} {a : Option Addr} (h : RepE O W 1 (l.map Dat.bool) a 0) (i : Nat) (hi : i < l.length) :
    ∃ b o, a = some ⟨b, o, none⟩ ∧ b < W.heap.size ∧ ¬ O b ∧ W.cell? ⟨b, o + i, none⟩ = some (.bool l[i]) := by
  obtain ⟨b, o, cs, h1, h2, h3, h4, h5, h6⟩ := h.get i (by simpa using hi)
  simp only [List.getElem_map, Rep] at h6
  subst h6
  exact ⟨b, o, h1, h2, h3, by simpa using h5 0 _ rfl⟩
theorem info_bool : (Try.prog.info? 4).map (fun i => (i.zero, i.size, i.bytes)) = some (some (.bool false), 1, 1) := by kernel_rfl
theorem run_make_bools (n : Nat) (hn : n ≤ 1048576) (w : World) :
    (Instr.makeSlice 38 (.int .i64 n) (.int .i64 n)).run Try.prog w = .ok (.slice (some ⟨w.heap.size, 0, none⟩) n n) (w.alloc (.cells ((List.replicate n false).map Value.bool).toArray 4)) := by
  obtain ⟨i0, hi, hi0, hi1, hi2⟩ := info_parts info_bool
  have h := run_make (P := Try.prog) w 38 4 i0 _ (by kernel_rfl) hi hi0 .i64 .i64 n n (by omega) (by omega) (by rw [hi2]; omega) (by omega)
  rw [Int.toNat_natCast, hi1, Nat.mul_one] at h
  have e : madeCells (Value.bool false).cells n = ((List.replicate n false).map Value.bool).toArray := by
    apply Array.ext
    · simp [madeCells]
    · intro i h1 h2
      have e : i % 1 = 0 := Nat.mod_one i
      simp [madeCells, Value.cells, e]
  rw [← e]
  exact h
end Go.Proofs.Ytadphaobbpngkaa
