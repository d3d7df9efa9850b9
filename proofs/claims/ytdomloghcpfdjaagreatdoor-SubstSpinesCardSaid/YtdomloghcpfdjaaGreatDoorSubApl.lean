/- subst.Apply. -/
import Derived.Test.YtdomloghcpfdjaaGreatDoorSubApp
namespace Go.LF
theorem firstE_one {α : Type} (f : α → Int) (x : α) : firstE f [x] = f x := by
  unfold firstE
  by_cases h : f x = 0
  · rw [if_neg (by simp [h])]; unfold firstE; exact h.symm
  · rw [if_pos h]
end Go.LF
namespace Go.Proofs.YtdomloghcpfdjaaGreatDoor
open Go.RowKit Go.LF
set_option maxRecDepth 100000 in
set_option maxHeartbeats 16000000 in
theorem applyF_any (O : Nat → Prop) (m : Tm) (s : Sm) (us : List Tm) (hmw : m.wt ≤ 1000000) (huw : ∀ u ∈ us, u.wt ≤ 1000000) (hsw : s.wt ≤ 1000000) (hul : us.length ≤ 10000) (w : World) (hO : ∀ b, O b → b < w.heap.size) (cs es : List Value) (ua : Option Addr) (uc : Nat)
    (hR : Rep O w m.dat cs) (hS : Rep O w s.dat es) (hE : RepE O w 4 (us.map Tm.dat) ua 0) :
    Calls Tryz.prog 19 #[.agg cs.toArray, .agg es.toArray, .slice ua us.length uc] w (GivesE O (appE m s us) (appT m s us) w) := by
  obtain ⟨k, n, i, ts, a, cap, htt, rfl, _, _⟩ := tm_open hR
  generalize ts.length = len at *
  obtain ⟨f, ss, rfl⟩ : ∃ f ss, s = .mk f ss := by cases s with | mk f l => exact ⟨f, l, rfl⟩
  obtain ⟨sa, sc, rfl, hsc, hES⟩ := rep_sm.1 hS
  obtain ⟨w1, hw1⟩ : ∃ w1, w1 = (((w.alloc (.cells #[.int .i64 k, .string (B n), .int .i64 i, .slice a len cap] 29)).alloc (.cells #[.string (B f), .slice sa ss.length sc] 33)).alloc (.cells #[.slice ua us.length uc] 27)).alloc (.cells #[.int .i64 0, .string (B []), .int .i64 0, .slice none 0 0] 29) := ⟨_, rfl⟩
  have hU1 : Upto none' w w1 := by rw [hw1]; exact ((((Upto.refl none' w).alloc _).alloc _).alloc _).alloc _
  have ht1 : Box4 w1 w.heap.size (.int .i64 k) (.string (B n)) (.int .i64 i) (.slice a len cap) 29 := by rw [hw1]; exact (((Box4.at_new rfl).kept ((Upto.refl none' _).alloc _)).kept ((Upto.refl none' _).alloc _)).kept ((Upto.refl none' _).alloc _)
  have hs1 : Box2 w1 (w.heap.size + 1) (.string (B f)) (.slice sa ss.length sc) 33 := by rw [hw1]; exact ((Box2.at_new (by simp)).kept ((Upto.refl none' _).alloc _)).kept ((Upto.refl none' _).alloc _)
  have hu1 : Box1 w1 (w.heap.size + 1 + 1) (.slice ua us.length uc) 27 := by rw [hw1]; exact (Box1.at_new (by simp)).kept ((Upto.refl none' _).alloc _)
  have hr1 : Box4 w1 (w.heap.size + 1 + 1 + 1) (.int .i64 0) (.string (B [])) (.int .i64 0) (.slice none 0 0) 29 := by rw [hw1]; exact Box4.at_new (by simp)
  have hR1 := (Rep.freshO hR).on hU1
  have hS1 := (Rep.freshO hS).on hU1
  have hE1 := (RepE.fresh' _ _ _ _ hE).on hU1
  have hT1 := (RepE.fresh' _ _ _ _ hES).on hU1
  have HW := hid hw1
  obtain ⟨H, hH⟩ : ∃ H, H = w.heap.size := ⟨_, rfl⟩
  have HH := hid hH
  rw [← hH] at ht1 hs1 hu1 hr1 hR1 hS1 hE1 hT1
  have hO2 : ∀ b, O b → b < H := by rw [hH]; exact hO
  have HO := hid hO2
  obtain ⟨E, hEE⟩ : ∃ E, E = appE m (.mk f ss) us := ⟨_, rfl⟩
  obtain ⟨X, hXX⟩ : ∃ X, X = appT m (.mk f ss) us := ⟨_, rfl⟩
  rw [← hEE, ← hXX]
  unfold appT at hXX
  rw [← hEE] at hXX
  unfold appE at hEE
  have HEX := hid (And.intro hEE hXX)
  have FO := fun (W : World) (a9 : Option Addr) (c9 : Nat) (b9 : Option Addr) h9 h8 => subForms_any (m :: us) [.mk f ss] (by simp; omega) (fun u hu => (List.mem_cons.1 hu).elim (fun h => h ▸ hmw) (huw u)) (by simp) (by simpa using hsw) W a9 c9 b9 1 h9 h8
  rw [firstE_one] at FO
  have CO := fun (W : World) (a9 : Option Addr) (c9 : Nat) h9 => containsFunc_any (ts := m :: us) 66 (fun u => !(u.isObj && u.small)) (by simp; omega) (fun x hx W cs h => notObject_any x ((List.mem_cons.1 hx).elim (fun h => h ▸ hmw) (huw x)) W cs h) (Tryz.call66) W a9 c9 h9
  obtain ⟨ul, hull⟩ : ∃ ul, ul = us.length := ⟨_, rfl⟩
  obtain ⟨sl, hsll⟩ : ∃ sl, sl = ss.length := ⟨_, rfl⟩
  rw [← hull, ← hsll]
  rw [← hull] at hul hu1 HW
  rw [← hsll] at hs1 HW hsc
  have HL := hid (And.intro hull (And.intro hsll hsc))
  have HU := hid hU1
  have hul3 : (ul : Int) ≤ 10000 := by omega
  have hz1 : H + 4 ≤ w1.heap.size := by have := hr1.lt; omega
  have HP := hid (And.intro hmw (And.intro huw hsw))
  have hrow := RowS.one (O := fun b => O b ∨ b = H ∨ b = H + 1 ∨ b = H + 1 + 1 ∨ b = H + 1 + 1 + 1) (Rep.weaken (fun b _ e => by rcases e with e | e; (exact .inl e); (right; omega)) _ _ hR1)
  have hal : Upto none' w1 (w1.alloc (.cells #[.int .i64 k, .string (B n), .int .i64 i, .slice a len cap] 29)) := (Upto.refl none' _).alloc _
  clear hw1 hH hR hS hE hES hEE hXX hull hsll hU1 hO hO2 hmw huw hsw hsc
  obtain ⟨t0, t1, t2, t3⟩ := ht1.cells
  obtain ⟨s0, s1⟩ := hs1.cells
  have u0 := hu1.cell
  have hlt1 := ht1.lt
  have hls1 := hs1.lt
  have hlu1 := hu1.lt
  go_enter Tryz.func19, Tryz.ntmps19
  go_upto_region 1 with fail
  rw [← show B [] = { data := #[] } from rfl, ← HW.out, ← HH.out]
  go_wp2_with (at_builtin; go_loud (refine wpList_append_tms (by rfl) _ _ (by rfl) (by rfl) hrow ua ul uc us (by rfl) HL.out.1 (RepE.weaken (fun b _ e => by rcases e with (e | e) | e; (exact .inl e); all_goals (right; omega)) _ _ _ _ (hE1.on hal)) (by simp; have := HL.out.1; omega) (by have := hal.size; omega) ?_); intro v3 w3 css3 hS3 hg3 hat3; have hgo := grown_own hg3; have hU3 : Upto none' w1 w3 := (hal.trans hgo (fun b hb e => by simp [Value.ownBlock] at e; omega)); obtain ⟨va, vc, hv3, hvc, hF3⟩ := hS3.rep; subst hv3; have hs3 := hs1.kept hU3; have hs3c := hs3.cells; obtain ⟨s30, s31⟩ := hs3c; have hs3l := hs3.lt)
  obtain ⟨w4, hw4⟩ : ∃ w4, w4 = w3.alloc (.cells #[.string (B f), .slice sa sl sc] 33) := ⟨_, rfl⟩
  have hUa : Upto none' w3 w4 := by rw [hw4]; exact (Upto.refl none' _).alloc _
  have hE4 : RepE none' w4 2 ([Sm.mk f ss].map Sm.dat) (some ⟨w3.heap.size, 0, none⟩) 0 := by
    refine repE_oneS (rep_pre ((hS1.on hU3).on hUa)) (fun x => x) (T := 33) ?_
    rw [hw4, HL.out.2.1]; exact Box2.at_new rfl
  rw [← hw4]
  have hF4 := hF3.on hUa
  have F4 := FO w4 va vc _ (rep_pre' hF4) hE4
  simp only [List.length_cons, List.length_nil, Nat.zero_add] at F4
  have hU4 := hU3.and hUa
  clear hw4 FO hrow hal hgo hS3 hg3 hat3 hF3 t0 t1 t2 t3 s0 s1 s30 s31 u0
  (with_reducible refine F4.mono ?_)
  rintro e w5 ⟨rfl, hU5⟩
  have hU6 := hU4.and hU5
  have ht6 := ht1.kept hU6
  have hs6 := hs1.kept hU6
  have hu6 := hu1.kept hU6
  have hr6 := hr1.kept hU6
  have hF6 := hF4.on hU5
  obtain ⟨q, hq⟩ : ∃ q : Int, q = if firstE Tm.wf (m :: us) ≠ 0 then firstE Tm.wf (m :: us) else Sm.wf (.mk f ss) := ⟨_, rfl⟩
  rw [← hq]
  have HQ := hid hq
  clear hq F4
  by_cases hq : q = 0
  case neg =>
    have hE0 : E = q := by
      have h1 := HEX.out.1
      have h2 := HQ.out
      by_cases hf : firstE Tm.wf (m :: us) = 0
      · rw [if_neg (by simp [hf])] at h1 h2
        rw [h1, ← h2, if_pos hq]
      · rw [if_pos hf] at h1 h2
        rw [h1, h2]
    have H0 := hid (And.intro hE0 (show X = Tm.none0 by rw [HEX.out.2, hE0, if_neg hq]))
    have hq' : (q != 0) = true := by simpa using hq
    clear hE0 hq
    have hset := hr6.set (d0 := .int .i64 0) (d1 := .string (B [])) (d2 := .int .i64 0) (d3 := .slice none 0 0)
    obtain ⟨y0, y1, y2, y3⟩ := hr6.cells
    obtain ⟨z0, z1, z2, z3⟩ := hr6.frozens
    obtain ⟨e0, e1, e2, e3⟩ := hset.1.cells
    have HEE := hid (And.intro e0 (And.intro e1 (And.intro e2 (And.intro e3 hset.2))))
    have hlr := hr6.lt
    clear e0 e1 e2 e3 hset
    go_wp2_with fail
    obtain ⟨e0, e1, e2, e3, hset⟩ := HEE.out
    refine bodyPost_ret (v := .tuple #[.agg #[.int .i64 0, .string (B []), .int .i64 0, .slice none 0 0], .int .i64 q]) ?_ rfl ?_
    · simp [results, Tryz.f19, go_sem, e0, e1, e2, e3]
    · exact ⟨0, 0, [], none, 0, 0, by rw [H0.out.1], by rw [H0.out.2]; exact rep_leaf 0 [] 0, (HU.out.and hU6).trans hset (fun b hb e => by have := HH.out; omega)⟩
  subst hq
  have hf1 : firstE Tm.wf (m :: us) = 0 := by
    have h2 := HQ.out
    by_cases hf : firstE Tm.wf (m :: us) = 0
    · exact hf
    · rw [if_pos hf] at h2; exact absurd h2.symm hf
  have hf2 : Sm.wf (.mk f ss) = 0 := by
    have h2 := HQ.out
    rw [if_neg (by simp [hf1])] at h2
    exact h2.symm
  have hE1 := HEX.out.1
  rw [if_neg (by simp [hf1]), if_neg (by simp [hf2])] at hE1
  have C6 := CO w5 va vc (rep_pre' hF6)
  obtain ⟨an, han⟩ : ∃ an, an = (m :: us).any (fun u => !(u.isObj && u.small)) := ⟨_, rfl⟩
  rw [← han] at C6 hE1
  have HAN := hid (And.intro han (And.intro hf1 hf2))
  have hll : (m :: us).length = us.length + 1 := rfl
  rw [hll] at C6
  clear han CO HQ hf1 hf2 hll
  cases an
  case true =>
    rw [if_pos rfl] at hE1
    have H0 := hid (And.intro hE1 (show X = Tm.none0 by rw [HEX.out.2, hE1]; rfl))
    clear hE1
    go_wp2_with fail
    refine C6.mono ?_
    rintro e w7 ⟨rfl, hU7⟩
    have hr7 := hr6.kept hU7
    clear hr6
    have hset := hr7.set (d0 := .int .i64 0) (d1 := .string (B [])) (d2 := .int .i64 0) (d3 := .slice none 0 0)
    obtain ⟨y0, y1, y2, y3⟩ := hr7.cells
    obtain ⟨z0, z1, z2, z3⟩ := hr7.frozens
    obtain ⟨e0, e1, e2, e3⟩ := hset.1.cells
    have HEE := hid (And.intro e0 (And.intro e1 (And.intro e2 (And.intro e3 hset.2))))
    have hlr := hr7.lt
    clear e0 e1 e2 e3 hset
    go_wp2_with fail
    obtain ⟨e0, e1, e2, e3, hset⟩ := HEE.out
    refine bodyPost_ret (v := .tuple #[.agg #[.int .i64 0, .string (B []), .int .i64 0, .slice none 0 0], .int .i64 32]) ?_ rfl ?_
    · simp [results, Tryz.f19, go_sem, e0, e1, e2, e3]
    · exact ⟨0, 0, [], none, 0, 0, by rw [H0.out.1], by rw [H0.out.2]; exact rep_leaf 0 [] 0, (HU.out.and (hU6.and hU7)).trans hset (fun b hb e => by have := HH.out; omega)⟩
  rw [if_neg (by simp)] at hE1
  have hobj : ∀ u ∈ m :: us, u.isObj = true ∧ u.small = true := by
    intro u hu
    have h1 := HAN.out.1.symm
    rw [List.any_eq_false] at h1
    simpa using h1 u hu
  have hsz : (Sm.mk f ss).size ≤ 4096 := by
    have h1 := HAN.out.2.2
    unfold Sm.wf at h1
    split at h1
    · cases h1
    · split at h1
      · cases h1
      · rename_i h2; simp at h2; simp only [Sm.size_mk]; omega
  have hX1 : X = if E = 0 then (Tm.ap (Tm.sb1 262145) m ss us 0).t else Tm.none0 := HEX.out.2
  have hE2 : E = (Tm.ap (Tm.sb1 262145) m ss us 0).e := hE1
  have hrt : (Tm.ap (Tm.sb1 262145) m ss us 0).e ≠ 0 → (Tm.ap (Tm.sb1 262145) m ss us 0).t = Tm.none0 := by
    intro h
    unfold Tm.ap at h ⊢
    split
    · rename_i hl; rw [if_pos hl] at h; exact Tm.apF_none _ (fun u s b w h => Tm.sb_none _ _ _ _ _ _ h) _ _ _ _ h
    · rfl
  have hsl : ss.length ≤ 10000 := by have := Sm.length_le_sizes ss; simp only [Sm.size_mk] at hsz; omega
  have MA := fun (W : World) (wk : Nat) (Q : Nat → Prop) => apply1_any m us f ss wk (H + 1 + 1) H (H + 1) Q W k i n a len cap ua uc sa sc (by rw [← HL.out.1]; exact hul) hsl (by rw [← HL.out.2.1]; exact HL.out.2.2) (fun u hu => hobj u (by simp [hu])) (fun s hs => by have := Sm.size_le_sizes hs; simp only [Sm.size_mk] at hsz; omega) (hobj m (by simp)).1 (hobj m (by simp)).2
  rw [← HL.out.1, ← HL.out.2.1] at MA
  have RU := fun (W : World) => subRun_any 68 [.pointer (some ⟨H + 1 + 1, 0, none⟩), .pointer (some ⟨H, 0, none⟩), .pointer (some ⟨H + 1, 0, none⟩)] _ hrt (fun b => O b ∨ b = H + 1 + 1 + 1) W (Tryz.call68)
  have HX1 := hid (And.intro hE2 (And.intro hX1 hrt))
  have hmf : ∀ (fn : Fn) (first cap : Array Value) (w : World), (Instr.makeFunc fn first cap).run Tryz.prog w = .ok (.func fn first cap) w := fun _ _ _ _ => rfl
  generalize Tm.ap (Tm.sb1 262145) m ss us 0 = r at *
  clear hobj hsz hrt hE1 hE2 hX1 hsl
  go_wp2_with fail
  refine C6.mono ?_
  rintro e w7 ⟨rfl, hU7⟩
  have hU8 := hU6.and hU7
  have ht8 := ht6.kept hU7
  have hs8 := hs6.kept hU7
  have hu8 := hu6.kept hU7
  have hr8 := hr6.kept hU7
  have hzz := hU8.size
  have R3 := RU w7 (fun W wk hu hwk hsz hW => by
    have wkO : ∀ b, b < W.heap.size → ((O b ∨ b = H + 1 + 1 + 1) ∨ (w7.heap.size ≤ b ∧ b < w7.heap.size + 3)) → (O b ∨ H ≤ b) := fun b _ e => by rcases e with (e | e) | e; exact .inl e; all_goals (right; omega)
    have h := MA W wk (fun b => (O b ∨ b = H + 1 + 1 + 1) ∨ (w7.heap.size ≤ b ∧ b < w7.heap.size + 3)) (.inr (by omega)) (fun b e => by rcases e with (e | e) | e; (have := HO.out b e; omega); all_goals omega) hW (hu8.kept hu) (ht8.kept hu) (hs8.kept hu) (by omega)
      (Rep.weaken wkO _ _ ((hR1.on hU8).on hu)) (RepE.weaken wkO _ _ _ _ ((hE1.on hU8).on hu)) (RepE.weaken wkO _ _ _ _ ((hT1.on hU8).on hu))
    exact h)
  clear MA RU
  go_wp2_with fail
  (with_reducible refine R3.mono ?_)
  rintro e w9 ⟨k9, i9, n9, a9, len9, cap9, rfl, hR9, hU9⟩
  have hr9 := hr8.kept hU9
  clear hr8 hr6
  have hset := hr9.set (d0 := .int .i64 k9) (d1 := .string (B n9)) (d2 := .int .i64 i9) (d3 := .slice a9 len9 cap9)
  obtain ⟨y0, y1, y2, y3⟩ := hr9.cells
  obtain ⟨z0, z1, z2, z3⟩ := hr9.frozens
  obtain ⟨e0, e1, e2, e3⟩ := hset.1.cells
  have HEE := hid (And.intro e0 (And.intro e1 (And.intro e2 (And.intro e3 hset.2))))
  have hlr := hr9.lt
  clear e0 e1 e2 e3 hset
  go_wp2_with fail
  obtain ⟨e0, e1, e2, e3, hset⟩ := HEE.out
  refine bodyPost_ret (v := .tuple #[.agg #[.int .i64 k9, .string (B n9), .int .i64 i9, .slice a9 len9 cap9], .int .i64 r.e]) ?_ rfl ?_
  · simp [results, Tryz.f19, go_sem, e0, e1, e2, e3]
  · refine ⟨k9, i9, n9, a9, len9, cap9, by rw [HX1.out.1], ?_, ((HU.out.and hU8).and hU9).trans hset (fun b hb e => by have := HH.out; omega)⟩
    have hXr : X = r.t := by
      by_cases h0 : r.e = 0
      · rw [HX1.out.2.1, if_pos (by rw [HX1.out.1]; exact h0)]
      · rw [HX1.out.2.1, if_neg (by rw [HX1.out.1]; exact h0), HX1.out.2.2 h0]
    rw [hXr]
    exact Rep.weaken (fun b _ e => .inl e) _ _ (Rep.keep hset (fun b e => .inr e) _ _ hR9)
end Go.Proofs.YtdomloghcpfdjaaGreatDoor
