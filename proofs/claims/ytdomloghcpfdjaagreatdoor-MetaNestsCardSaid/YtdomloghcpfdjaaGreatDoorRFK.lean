/- What layer 13's awake computes. -/
import Derived.Test.YtdomloghcpfdjaaGreatDoorRCH
import Derived.Test.YtdomloghcpfdjaaGreatDoorRFC
import Derived.Test.YtdomloghcpfdjaaGreatDoorRFJ
import Derived.Test.YtdomloghcpfdjaaGreatDoorRSE
import Derived.Deep.RegionHeld3
namespace Go.LF
open Tm Go.Proofs.YtdomloghcpfdjaaGreatDoor
abbrev nNat : Tm := .mk 4 [110, 97, 116] 0 []
abbrev nX0 : Tm := .mk 6 [] 0 []
abbrev nX1 : Tm := .mk 6 [] 1 []
abbrev nS : Tm := .mk 4 [115] 0 [nX0]
abbrev nL1 : List Mv := [⟨[88], nNat, []⟩]
abbrev nL2 : List Mv := [⟨[88], nNat, []⟩, ⟨[], nNat, []⟩]
abbrev nL3 : List Mv := [⟨[88], nNat, []⟩, ⟨[], nNat, [nS]⟩]
theorem n13a : checkE 0 [88] nNat = 0 ∧ checkE 1 [] nNat = 0 ∧ valueE nS 2 = 0 ∧ valueE nX1 2 = 0 := by decide +kernel
theorem n13m : Tm.metas nS = [0] ∧ Tm.metas nX1 = [1] ∧ Tm.metas nNat = [] ∧ Tm.metas nX0 = [0] := by decide +kernel
theorem n13s1 : newS [] [88] nNat = nL1 ∧ newI [] [88] nNat = 0 := by
  have h := n13a.1
  unfold newS newI
  exact ⟨if_neg (by show ¬ checkE 0 [88] nNat ≠ 0; omega), if_neg (by show ¬ checkE 0 [88] nNat ≠ 0; omega)⟩
theorem n13s2 : newS nL1 [] nNat = nL2 ∧ newI nL1 [] nNat = 1 := by
  have h := n13a.2.1
  unfold newS newI
  exact ⟨if_neg (by show ¬ checkE 1 [] nNat ≠ 0; omega), if_neg (by show ¬ checkE 1 [] nNat ≠ 0; omega)⟩
theorem n13p2 : Play nL2 := by
  have h1 := Play.nil.new (name := [88]) (a := nNat) (by simp) (by decide)
  rw [n13s1.1] at h1
  have h2 := h1.new (name := []) (a := nNat) (by simp) (by decide)
  rwa [n13s2.1] at h2
theorem n13succ (i : Int) : succV nL2 i = [] := by
  unfold succV
  split
  · split
    · rename_i m hm
      have := List.mem_of_getElem? hm
      simp only [List.mem_cons, List.not_mem_nil, or_false] at this
      rcases this with rfl | rfl <;> (unfold nextV; rw [n13m.2.2.1]; rfl)
    · rfl
  · rfl
theorem n13r : ¬ Rch nL2 0 1 := by
  intro h
  cases h with
  | step h hj hk => rw [n13succ] at hj; cases hj
theorem n13e : solveE nL2 1 nS = 0 := solve_of (l := nL2) (i := 1) (v := ⟨[], nNat, []⟩) (by decide) rfl rfl n13a.2.2.1 (fun x hx => by rw [n13m.1] at hx; obtain rfl : x = 0 := (by simpa using hx); exact n13r)
theorem n13s3 : solveS nL2 1 nS = nL3 := by
  unfold solveS
  rw [if_neg (by rw [n13e]; simp)]
  rfl
theorem n13p3 : Play nL3 := by
  have h := n13p2.solve (i := 1) (m := nS) (by decide)
  rwa [n13s3] at h
theorem n13f : solveE nL3 0 nX1 = 51 := by
  unfold solveE
  rw [if_neg (by decide), if_neg (by decide), if_neg (by rw [show ((nL3.length : Nat) : Int) = 2 by rfl, n13a.2.2.2]; simp), if_pos]
  unfold reachB
  refine @decide_eq_true _ (_) ?_
  rw [n13m.2.1]
  refine ⟨1, by simp, .step (j := 0) (by decide) ?_ (.refl (by decide))⟩
  show (0 : Int) ∈ nextV ⟨[], nNat, [nS]⟩
  unfold nextV
  simp only [List.flatMap_cons, List.flatMap_nil, n13m.1, n13m.2.2.1]
  simp
theorem n13x : expE nL3 nX1 = 0 := by decide +kernel
theorem n13x2 : expT nL3 nX1 = nS := by unfold expT; rw [if_pos n13x]; rfl
theorem n13us : allE nL3 [nS] = 0 ∧ allR nL3 [nS] = [nS] := by
  have h : expE nL3 nS = 0 := by decide +kernel
  have h1 : allE nL3 [nS] = 0 := by rw [allE, if_neg (by omega)]; rfl
  refine ⟨h1, ?_⟩
  unfold allR
  rw [if_pos h1]
  show [expT nL3 nS] = _
  unfold expT
  rw [if_pos h]
  rfl
theorem n13o : unsS nL3 [nS] = ⟨[0], 0⟩ := by
  have h0 : expE nL3 (typeOf nL3 0) = 0 := by decide +kernel
  have h1 : expT nL3 (typeOf nL3 0) = nNat := by unfold expT; rw [if_pos h0]; rfl
  unfold unsS
  rw [n13us.2]
  show colF nL3 2 (Tm.metas nS) ⟨[], 0⟩ = _
  rw [n13m.1, colF, colS_one, h0, h1, n13m.2.2.1]
  rfl
theorem n13u : unsE nL3 [nS] = 0 ∧ unsO nL3 [nS] = [0] := by
  have h : unsE nL3 [nS] = 0 := by unfold unsE; rw [if_neg (by rw [n13us.1]; simp), n13o]
  exact ⟨h, by unfold unsO; rw [if_pos h, n13o]⟩
theorem n13c : (canK nL3 [nS]).length = 1 ∧ (canT nL3 [nS]).length = 1 := by
  constructor
  · unfold canK; rw [n13u.2]; rfl
  · unfold canT; rw [if_pos n13u.1, n13us.2]; rfl
theorem n13v : validR nL3 = (2, 0) := n13p3.valid
end Go.LF
namespace Go.Proofs.YtdomloghcpfdjaaGreatDoor
open Go.RowKit Go.LF
theorem rep_row13 {T : TypeId} {wd base : Nat} {O : Nat → Prop} {W : World} {v : Value} {l : List Mv} {css : List (List Value)} (h : RowD T wd O base W v (l.map Mv.dat) css) (hO : ∀ b, O b → b < base) : ∃ a cap, v = .slice a l.length cap ∧ RepE none' W wd (l.map Mv.dat) a 0 := by
  obtain ⟨a, cap, hv, _, hE⟩ := h.rep hO
  exact ⟨a, cap, by rw [hv, List.length_map], RepE.weaken (fun _ _ e => e.elim) _ _ _ _ hE⟩
theorem n13wt : nNat.wt ≤ 300000 ∧ nS.wt ≤ 300000 ∧ nX1.wt ≤ 300000 := by decide +kernel
theorem n13kn (t : Tm) (hs : t.size ≤ 200) (hm : t.wf = 0 → ∀ i ∈ Tm.metas t, i < ((nL3.length : Nat) : Int)) : t.wf = 0 → (∀ i ∈ Tm.metas t, i < ((nL3.length : Nat) : Int)) → Kn ((nL3.length : Nat) : Int) t := fun h _ => kn_metas t h hs (hm h)
set_option maxRecDepth 100000 in
set_option maxHeartbeats 8000000 in
theorem awake13 (w : World) : Calls Tryz.prog 29 #[] w fun e w' => e = .returned (.bool true) ∧ Upto none' w w' := by
  obtain ⟨w2, hw2⟩ : ∃ w2, w2 = (w.alloc (.cells #[.int .i64 4, .string (B [110, 97, 116]), .int .i64 0, .slice none 0 0] 29)).alloc (.cells #[.int .i64 6, .string (B []), .int .i64 0, .slice none 0 0] 29) := ⟨_, rfl⟩
  have hU2 : Upto none' w w2 := by rw [hw2]; exact ((Upto.refl none' w).alloc _).alloc _
  have hn2 : Box4 w2 w.heap.size (.int .i64 4) (.string (B [110, 97, 116])) (.int .i64 0) (.slice none 0 0) 29 := by rw [hw2]; exact (Box4.at_new rfl).kept ((Upto.refl none' _).alloc _)
  have hx2 : Box4 w2 (w.heap.size + 1) (.int .i64 6) (.string (B [])) (.int .i64 0) (.slice none 0 0) 29 := by rw [hw2]; exact Box4.at_new (by simp)
  have C1 := new13_any [] Play.nil.stOk [88] (by simp) nNat n13wt.1 w2 none 0 _ (by simp only [List.map_nil, RepE]) (rep_leaf 4 [110, 97, 116] 0)
  rw [n13s1.1, n13s1.2, show checkE ((([] : List Mv).length : Nat) : Int) [88] nNat = 0 from n13a.1] at C1
  have C2 := fun (W : World) a c h => new13_any nL1 ((Play.nil.new (name := [88]) (a := nNat) (by simp) (by decide)).stOk |> fun h => by rw [n13s1.1] at h; exact h) [] (by simp) nNat n13wt.1 W a c _ h (rep_leaf 4 [110, 97, 116] 0)
  rw [n13s2.1, n13s2.2, show checkE ((nL1.length : Nat) : Int) [] nNat = 0 from n13a.2.1] at C2
  have C3 := fun (W : World) a c P h1 (h2 : Box4 W P (.int .i64 6) (.string (B [])) (.int .i64 0) (.slice none 0 0) 29) => solve13_any nL2 n13p2.stR 1 nS n13wt.2.1 W a c _ h1 (rep_one (t := nX0) (rep_leaf 6 [] 0) (fun x => x) h2 4 [115] 0)
  rw [n13s3, n13e] at C3
  have C4 := fun (W : World) a c h1 => solve13_any nL3 n13p3.stR 0 nX1 n13wt.2.2 W a c _ h1 (rep_leaf 6 [] 1)
  rw [n13f] at C4
  have C5 := fun (W : World) a c h1 => expand_any none' nL3 n13p3.good nX1 (by have := n13wt.2.2; omega) (n13kn _ (by decide) (fun _ i hi => by rw [n13m.2.1] at hi; obtain rfl : i = 1 := (by simpa using hi); decide)) W (fun _ e => e.elim) a c _ h1 (rep_leaf 6 [] 1)
  rw [n13x, n13x2] at C5
  have hts : ∀ t ∈ [nS], t.wt ≤ 1000000 ∧ (t.wf = 0 → (∀ i ∈ Tm.metas t, i < ((nL3.length : Nat) : Int)) → Kn ((nL3.length : Nat) : Int) t) := fun t ht => by
    obtain rfl := List.mem_singleton.1 ht
    exact ⟨by have := n13wt.2.1; omega, n13kn _ (by decide) (fun _ i hi => by rw [n13m.1] at hi; obtain rfl : i = 0 := (by simpa using hi); decide)⟩
  have C6 := fun (W : World) a c ua uc h1 h2 => unsolved_any nL3 n13p3.plz [nS] hts (by decide) W a c ua uc h1 h2
  rw [n13u.1, n13u.2] at C6
  have C7 := fun (W : World) a c ua uc h1 h2 => canon_any nL3 n13p3.plz [nS] hts (by decide) W a c ua uc h1 h2
  rw [n13u.1] at C7
  have C8 := fun (W : World) a c h1 => valid13_any nL3 n13p3.stR (fun m hm => by simp only [List.mem_cons, List.not_mem_nil, or_false] at hm; rcases hm with rfl | rfl <;> decide) W a c h1
  rw [n13v] at C8
  simp only [List.length_cons, List.length_nil, Nat.zero_add, Nat.reduceAdd] at C1 C2 C3 C4 C5 C6 C7 C8
  have HW := hid hw2
  obtain ⟨H, hH⟩ : ∃ H, H = w.heap.size := ⟨_, rfl⟩
  rw [← hH] at hn2 hx2
  have HH := hid hH
  clear hw2 hH hts
  go_enter Tryz.func29, Tryz.ntmps29
  go_upto_region 3 with fail
  rw [← show B [] = { data := #[] } from rfl, ← show B [110, 97, 116] = { data := #[110, 97, 116] } from rfl, ← HW.out, ← HH.out]
  obtain ⟨b0, b1, b2, b3⟩ := hn2.cells
  go_wp2_with fail
  (with_reducible refine C1.mono ?_)
  rintro e w3 ⟨v3, css3, rfl, hR3, hU3⟩
  obtain ⟨a3, c3, rfl, hE3⟩ := rep_row13 hR3 (fun _ e => e)
  simp only [List.length_cons, List.length_nil, Nat.zero_add]
  have hn3 := hn2.kept hU3
  have hx3 := hx2.kept hU3
  clear b0 b1 b2 b3 C1 hR3 hn2 hx2
  obtain ⟨b0, b1, b2, b3⟩ := hn3.cells
  go_wp2_with fail
  (with_reducible refine (C2 _ _ _ hE3).mono ?_)
  rintro e w4 ⟨v4, css4, rfl, hR4, hU4⟩
  obtain ⟨a4, c4, rfl, hE4⟩ := rep_row13 hR4 (fun _ e => e)
  simp only [List.length_cons, List.length_nil, Nat.zero_add, Nat.reduceAdd]
  have hx4 := hx3.kept hU4
  clear b0 b1 b2 b3 C2 hR4 hn3 hx3 hE3
  obtain ⟨b0, b1, b2, b3⟩ := hx4.cells
  go_wp2_with fail
  rw [← show B [115] = { data := #[115] } from rfl]
  have al4 := (Upto.refl none' w4).alloc (.cells #[.int .i64 6, .string (B []), .int .i64 0, .slice none 0 0] 29)
  (with_reducible refine (C3 _ _ _ w4.heap.size (hE4.on al4) (Box4.at_new rfl)).mono ?_)
  rintro e w5 ⟨a5, c5, rfl, hc5, hE5, hU5⟩
  simp only [List.length_cons, List.length_nil, Nat.zero_add, Nat.reduceAdd]
  have hU15 := (((hU2.and hU3).and hU4).and al4).and hU5
  clear b0 b1 b2 b3 C3 hE4 hx4 al4 hc5 hU2 hU3 hU4 hU5
  go_wp2_with fail
  (with_reducible refine (C4 _ _ _ hE5).mono ?_)
  rintro e w6 ⟨a6, c6, rfl, _, _, hU6⟩
  have hE6 := hE5.on hU6
  clear C4 hE5
  go_wp2_with fail
  (with_reducible refine (C5 _ _ _ hE6).mono ?_)
  rintro e w7 h7
  obtain ⟨a7, c7, rfl, hR7, hU7⟩ := givesE_mk h7
  have hE7 := hE6.on hU7
  obtain ⟨w8, hw8⟩ : ∃ w8, w8 = w7.alloc (.cells #[.int .i64 4, .string (B [115]), .int .i64 0, .slice a7 1 c7] 29) := ⟨_, rfl⟩
  have al8 : Upto none' w7 w8 := by rw [hw8]; exact (Upto.refl none' w7).alloc _
  have hb8 : Box4 w8 w7.heap.size (.int .i64 4) (.string (B [115])) (.int .i64 0) (.slice a7 1 c7) 29 := by rw [hw8]; exact Box4.at_new rfl
  have hE8 := hE7.on al8
  have hR8 := hR7.on al8
  have HW8 := hid hw8
  obtain ⟨P, hP⟩ : ∃ P, P = w7.heap.size := ⟨_, rfl⟩
  rw [← hP] at hb8
  have HP := hid hP
  have hU18 := ((hU15.and hU6).and hU7).and al8
  simp only [List.length_cons, List.length_nil, Nat.zero_add]
  clear C5 hE6 hE7 hR7 h7 hw8 hP al8 hU15 hU6 hU7
  go_upto_region 8 with fail
  rw [← HP.out, ← HW8.out]
  obtain ⟨b0, b1, b2, b3⟩ := hb8.cells
  go_wp2_with fail
  have al9 : ∀ W : World, Upto none' W (W.alloc (.cells #[.int .i64 4, .string (B [115]), .int .i64 0, .slice a7 1 c7] 29)) := fun W => (Upto.refl none' W).alloc _
  (with_reducible refine (C6 _ _ _ (some ⟨w8.heap.size, 0, none⟩) 1 (hE8.on (al9 w8)) (repE_one (t := nS) (Rep.weaken (fun _ _ e => e.elim) _ _ (hR8.on (al9 w8))) (fun x => x) (Box4.at_new rfl))).mono ?_)
  rintro e w9 ⟨a9, c9, rfl, _, _, hU9⟩
  simp only [List.length_cons, List.length_nil, Nat.zero_add]
  have hU89 := (al9 w8).and hU9
  have hb9 := hb8.kept hU89
  have hE9 := hE8.on hU89
  have hR9 := hR8.on hU89
  have hU19 := hU18.and hU89
  clear b0 b1 b2 b3 C6 hE8 hR8 hb8 hU9 hU89 hU18
  obtain ⟨b0, b1, b2, b3⟩ := hb9.cells
  go_wp2_with fail
  (with_reducible refine (C7 _ _ _ (some ⟨w9.heap.size, 0, none⟩) 1 (hE9.on (al9 w9)) (repE_one (t := nS) (Rep.weaken (fun _ _ e => e.elim) _ _ (hR9.on (al9 w9))) (fun x => x) (Box4.at_new rfl))).mono ?_)
  rintro e w10 ⟨ka, ua, kc, uc, rfl, _, _, _, hU10⟩
  rw [n13c.1, n13c.2]
  have hU910 := (al9 w9).and hU10
  have hb10 := hb9.kept hU910
  have hE10 := hE9.on hU910
  have hU110 := hU19.and hU910
  clear b0 b1 b2 b3 C7 hE9 hR9 hb9 hU910 hU10 hU19
  go_wp2_with fail
  (with_reducible refine (C8 _ _ _ hE10).mono ?_)
  rintro e w11 ⟨rfl, hU11⟩
  have hb11 := hb10.kept hU11
  obtain ⟨b0, b1, b2, b3⟩ := hb11.cells
  have hU111 := hU110.and hU11
  clear C8 hE10 hb10 hU110 hU11
  go_wp2_with fail
  go_ret
  exact ⟨rfl, hU111⟩
end Go.Proofs.YtdomloghcpfdjaaGreatDoor
namespace Go.Proofs.YtdomloghcpfdjaaGreatDoor
open Go.RowKit Go.LF
set_option maxRecDepth 100000 in
set_option maxHeartbeats 2000000 in
theorem end13_any (T : Nat) (w : World) (hT : TapeOk w T) :
    Calls Tryz.prog 86 #[.pointer (some ⟨T, 0, none⟩)] w fun e w' => (∃ b : Bool, e = .returned (.bool b)) ∧ w' = w.drew := by
  obtain ⟨l, a, cap, i, c0, c1, _, hi, hll, _⟩ := hT
  have d0 : w.drew.cell? ⟨T, 0, none⟩ = some (.slice a l.length cap) := c0
  have d1 : w.drew.cell? ⟨T, 1, none⟩ = some (.int .i64 (i : Int)) := c1
  obtain ⟨ll, hl⟩ : ∃ ll, ll = l.length := ⟨_, rfl⟩
  rw [← hl] at c0 d0
  go_enter Tryz.func86, Tryz.ntmps86
  go_wp2_with fail
  go_region_held3 (fun w' => w'.cell? ⟨T, 0, none⟩ = some (.slice a ll cap) ∧ w'.cell? ⟨T, 1, none⟩ = some (.int .i64 (i : Int)))
    (first | (with_reducible assumption) | (exact ⟨d0, d1⟩))
    (first | fail)
  all_goals
    go_wp2_with fail
    go_ret
    exact ⟨⟨_, rfl⟩, rfl⟩
end Go.Proofs.YtdomloghcpfdjaaGreatDoor
