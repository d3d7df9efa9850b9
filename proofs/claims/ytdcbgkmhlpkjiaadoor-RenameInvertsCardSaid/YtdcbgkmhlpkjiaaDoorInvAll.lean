/- For every input RenameInverts returns true, and each argument reads afterwards as it read before; the package's names of binders are as its own text lays them (the card ties that). No other conditions. -/
import Derived.Test.YtdcbgkmhlpkjiaaDoorRen06A
import Derived.Test.YtdcbgkmhlpkjiaaDoorMade05All
import Derived.Test.YtdcbgkmhlpkjiaaDoorRefSame
import Derived.Test.YtdcbgkmhlpkjiaaDoorArgs
import Derived.Test.YtdcbgkmhlpkjiaaDoorCards
import Derived.Test.YtdcbgkmhlpkjiaaDoorTie
import Derived.Deep.RegionHeld3
import Derived.Deep.CutRange
/- RenameBack, RenameInverts, RenameComposes, as plain data. -/
namespace Go.LF.Tm

theorem mvok_of (f : To) (t : Tm) (h : ∀ x ∈ nodes 0 t, x.k = 5 → x.b ≤ x.i → (f (x.i - x.b)).2 = true ∧ 0 ≤ (f (x.i - x.b)).1 ∧ (f (x.i - x.b)).1 ≤ 1048576 - x.b) : mvok f 0 t = true := by
  rw [mvok_nodes, List.all_eq_true]
  intro x hx
  unfold oki
  by_cases hk : x.k = 5 ∧ x.b ≤ x.i
  · obtain ⟨h1, h2, h3⟩ := h x hx hk.1 hk.2
    simp [h1, h2, h3]
  · have : (x.k == 5 && decide (x.b ≤ x.i)) = false := by rw [Bool.eq_false_iff]; intro e; exact hk (by simpa using e)
    rw [this]; rfl
theorem mvok_mv_of (f g : To) (t : Tm) (h : ∀ x ∈ nodes 0 t, x.k = 5 → x.b ≤ x.i → 0 ≤ (f (x.i - x.b)).1 ∧ (g (f (x.i - x.b)).1).2 = true ∧ 0 ≤ (g (f (x.i - x.b)).1).1 ∧ (g (f (x.i - x.b)).1).1 ≤ 1048576 - x.b) : mvok g 0 (mv f 0 t) = true := by
  refine mvok_of g _ ?_
  rw [nodes_mv]
  intro y hy
  obtain ⟨x, hx, rfl⟩ := List.mem_map.1 hy
  simp only
  intro h5 hbi
  unfold mvi at hbi ⊢
  by_cases hk : x.k = 5 ∧ x.b ≤ x.i
  · rw [if_pos hk]
    obtain ⟨h1, h2, h3, h4⟩ := h x hx hk.1 hk.2
    rw [show (f (x.i - x.b)).1 + x.b - x.b = (f (x.i - x.b)).1 by omega]
    exact ⟨h2, h3, h4⟩
  · rw [if_neg hk] at hbi
    exact absurd ⟨h5, hbi⟩ hk
theorem mvi_eq {f g : To} {x : Nd0} (h : x.k = 5 → x.b ≤ x.i → (f (x.i - x.b)).1 = (g (x.i - x.b)).1) : mvi f x.b x.k x.i = mvi g x.b x.k x.i := by
  unfold mvi
  by_cases hk : x.k = 5 ∧ x.b ≤ x.i
  · rw [if_pos hk, if_pos hk, h hk.1 hk.2]
  · rw [if_neg hk, if_neg hk]
/-- The free variables of a term that a law makes, and the binders around its nodes. -/
theorem FitsA.free {t : Tm} {sz v m : Nat} (h : FitsA t sz v m) (hs : sz ≤ 4096) : ∀ x ∈ nodes 0 t, x.k = 5 → x.b ≤ x.i → 0 ≤ x.i - x.b ∧ x.i - x.b < v ∧ 0 ≤ x.b ∧ x.b ≤ 4096 := by
  intro x hx hk hb
  have h1 := free_lt t x hx hk
  have h2 := nodes_b t 0 x hx
  have := h.scope
  have := h.size
  omega
theorem shiftF_small {a c v : Int} (ha : 0 ≤ a) (ha2 : a ≤ 1048576) (hv : 0 ≤ v) (hv2 : v ≤ 1048576) : shiftF a c v = (if v < c then v else v + a, true) := by
  unfold shiftF
  by_cases h : v < c
  · rw [if_pos h, if_pos h]
  · rw [if_neg h, if_neg h, decide_eq_true ha2]
    congr 1
    unfold Go.RowKit.wrap64
    omega

theorem back {t : Tm} {sz m : Nat} (h : FitsA t sz 5 m) (hs : sz ≤ 4096) (a b c : Nat) (ha : a ≤ 8) (hb : b ≤ 8) (hc : c ≤ 6) :
    ∃ x y : Tm, t.shiftE a c = 0 ∧ t.shiftT a c = x ∧ x.lowerB c a = true ∧ x.lowerT c a = t ∧ x.shiftE b c = 0 ∧ x.shiftT b c = y ∧ t.shiftE ((a + b : Nat) : Int) c = 0 ∧ t.shiftT ((a + b : Nat) : Int) c = y ∧ x.wt = t.wt ∧ y.wt = t.wt := by
  have hf := h.free hs
  have hw := h.wf hs
  have sh : ∀ (t : Tm) (d : Nat), t.wf = 0 → mvok (shiftF d c) 0 t = true → t.shiftE d c = 0 ∧ t.shiftT d c = mv (shiftF d c) 0 t := by
    intro t d hw hm
    have e : t.shiftE d c = 0 := by unfold shiftE; rw [hw, if_neg (by omega), if_neg (by omega), hm]; rfl
    exact ⟨e, by unfold shiftT; rw [e, if_pos rfl]⟩
  have ok1 : ∀ d : Nat, d ≤ 100 → mvok (shiftF d c) 0 t = true := by
    intro d hd
    refine mvok_of _ _ (fun x hx hk hb => ?_)
    have := hf x hx hk hb
    rw [shiftF_small (by omega) (by omega) (by omega) (by omega)]
    refine ⟨rfl, ?_⟩
    simp only
    split <;> omega
  have wx : (mv (shiftF a c) 0 t).wf = 0 := wf_mv _ _ hw (ok1 a (by omega))
  have ok2 : mvok (shiftF b c) 0 (mv (shiftF a c) 0 t) = true := by
    refine mvok_mv_of _ _ _ (fun x hx hk hb => ?_)
    have := hf x hx hk hb
    rw [shiftF_small (a := a) (by omega) (by omega) (by omega) (by omega)]
    simp only
    by_cases hv : x.i - x.b < (c : Int)
    · rw [if_pos hv, shiftF_small (by omega) (by omega) (by omega) (by omega), if_pos hv]
      refine ⟨by omega, rfl, ?_, ?_⟩ <;> simp only <;> omega
    · rw [if_neg hv, shiftF_small (by omega) (by omega) (by omega) (by omega), if_neg (by omega)]
      refine ⟨by omega, rfl, ?_, ?_⟩ <;> simp only <;> omega
  have nn : ∀ x ∈ nodes 0 t, x.k = 5 → x.b ≤ x.i → 0 ≤ (shiftF a c (x.i - x.b)).1 := by
    intro x hx hk hb
    have := hf x hx hk hb
    rw [shiftF_small (by omega) (by omega) (by omega) (by omega)]
    simp only
    split <;> omega
  have ok3 : mvok (lowerF c a) 0 (mv (shiftF a c) 0 t) = true := by
    refine mvok_mv_of _ _ _ (fun x hx hk hb => ?_)
    have := hf x hx hk hb
    rw [shiftF_small (a := a) (by omega) (by omega) (by omega) (by omega)]
    simp only
    unfold lowerF
    by_cases hv : x.i - x.b < (c : Int)
    · rw [if_pos hv, if_pos hv]
      refine ⟨by omega, rfl, ?_, ?_⟩ <;> simp only <;> omega
    · rw [if_neg hv, if_neg (by omega)]
      refine ⟨by omega, by simp only [decide_eq_true_eq]; omega, ?_, ?_⟩ <;> simp only <;> omega
  obtain ⟨e1, e2⟩ := sh t a hw (ok1 a (by omega))
  obtain ⟨e3, e4⟩ := sh _ b wx ok2
  obtain ⟨e5, e6⟩ := sh t (a + b) hw (ok1 (a + b) (by omega))
  have hlB : (mv (shiftF a c) 0 t).lowerB c a = true := by unfold lowerB; rw [ok3, wx, decide_eq_true (by omega), decide_eq_true (by omega)]; rfl
  refine ⟨_, _, e1, e2, hlB, ?_, e3, e4, e5, ?_, wt_mv _ _ _, by rw [wt_mv, wt_mv]⟩
  · unfold lowerT
    rw [hlB, if_pos rfl, mv_mv _ _ _ _ nn]
    refine mv_id _ _ _ (fun x hx => ?_)
    refine (mvi_eq (g := fun i => (i, true)) (fun hk hb => ?_)).trans (mvi_id _ _ _)
    have := hf x hx hk hb
    rw [shiftF_small (by omega) (by omega) (by omega) (by omega)]
    simp only
    unfold lowerF
    by_cases hv : x.i - x.b < (c : Int)
    · rw [if_pos hv, if_pos hv]
    · rw [if_neg hv, if_neg (by omega)]; simp only; omega
  · rw [e6, mv_mv _ _ _ _ nn]
    refine mv_congr _ _ _ _ (fun x hx => mvi_eq (fun hk hb => ?_))
    have := hf x hx hk hb
    rw [shiftF_small (by omega) (by omega) (by omega) (by omega), shiftF_small (a := a) (by omega) (by omega) (by omega) (by omega)]
    simp only
    by_cases hv : x.i - x.b < (c : Int)
    · rw [if_pos hv, if_pos hv, shiftF_small (by omega) (by omega) (by omega) (by omega), if_pos hv]
    · rw [if_neg hv, if_neg hv, shiftF_small (by omega) (by omega) (by omega) (by omega), if_neg (by omega)]; simp only; omega
end Go.LF.Tm

/- RenameInverts, as plain data. -/
namespace Go.LF

theorem getD_set_self {l : List Int} {i : Nat} {x : Int} (h : i < l.length) : (l.set i x).getD i 0 = x := by simp [List.getD, h]
theorem getD_set_ne {l : List Int} {i j : Nat} {x : Int} (h : i ≠ j) : (l.set i x).getD j 0 = l.getD j 0 := by simp [List.getD, List.getElem?_set_ne h]
theorem invTo_perm {l : List Int} (n : Nat) (hr : ∀ i, i < l.length → 0 ≤ l.getD i 0 ∧ l.getD i 0 < n) (hd : ∀ i j, i < j → j < l.length → l.getD i 0 ≠ l.getD j 0) : ∀ j, j ≤ l.length →
    ∃ out, invTo n l j = some out ∧ out.length = n ∧ (∀ i, i < j → out.getD (l.getD i 0).toNat 0 = i) ∧ ∀ y : Nat, y < n → (∀ i, i < j → l.getD i 0 ≠ y) → out.getD y 0 = -1
  | 0, _ => ⟨_, rfl, by simp, fun i h => by omega, fun y hy _ => by simp [List.getD, hy]⟩
  | j + 1, hj => by
    obtain ⟨out, h1, h2, h3, h4⟩ := invTo_perm n hr hd j (by omega)
    have hx := hr j (by omega)
    have hx1 := h4 (l.getD j 0).toNat (by omega) (fun i hi e => hd i j hi (by omega) (by omega))
    refine ⟨out.set (l.getD j 0).toNat j, ?_, by simpa using h2, fun i hi => ?_, fun y hy hne => ?_⟩
    · rw [invTo, h1]
      show invStep n out j (l.getD j 0) = _
      unfold invStep
      rw [if_neg (by omega), if_neg (by rw [hx1]; omega)]
    · by_cases e : i = j
      · subst e
        exact getD_set_self (by omega)
      · have hi' := hr i (by omega)
        have := hd i j (by omega) (by omega)
        rw [getD_set_ne (by omega)]
        exact h3 i (by omega)
    · have := hne j (by omega)
      rw [getD_set_ne (by omega)]
      exact h4 y hy (fun i hi => hne i (by omega))
namespace Tm
theorem renF_at {l : List Int} {v : Int} (h0 : 0 ≤ v) (h1 : v < l.length) : renF l v = (l.getD v.toNat 0, true) := by
  unfold renF
  rw [List.getElem?_eq_getElem (by omega)]
  simp [List.getD, show v.toNat < l.length by omega]
theorem ren_ok {t : Tm} {l : List Int} (hw : t.wf = 0) (h : mvok (renF l) 0 t = true) : t.renB l = true ∧ t.renT l = mv (renF l) 0 t := by
  have e : t.renB l = true := by unfold renB; rw [hw, h]; rfl
  exact ⟨e, by unfold renT; rw [e, if_pos rfl]⟩
theorem inverts {t : Tm} {sz m : Nat} (h : FitsA t sz 5 m) (hs : sz ≤ 4096) (tv : List Int) (hp : tv.Perm [0, 1, 2, 3, 4, 5, 6]) :
    ∃ (x : Tm) (u : List Int), t.renB (tv.take 5) = true ∧ t.renT (tv.take 5) = x ∧ inv (tv.take 5) 7 = some u ∧ u.length = 7 ∧ x.renB u = true ∧ x.renT u = t ∧ x.wt = t.wt := by
  have hf := h.free hs
  have hw := h.wf hs
  have hlen : tv.length = 7 := hp.length_eq
  have hall : ∀ x ∈ tv, 0 ≤ x ∧ x < 7 := fun x hx => by
    have := hp.mem_iff.1 hx
    simp at this
    omega
  have hnd : tv.Nodup := hp.nodup_iff.2 (by decide)
  have hl5 : (tv.take 5).length = 5 := by simp [hlen]
  have hget : ∀ i, i < 5 → (tv.take 5).getD i 0 = tv.getD i 0 := fun i hi => by simp [List.getD, hi]
  have hmem : ∀ i, i < 5 → 0 ≤ tv.getD i 0 ∧ tv.getD i 0 < 7 := fun i hi => by
    have hi7 : i < tv.length := by omega
    have : tv.getD i 0 = tv[i] := by simp [List.getD, hi7]
    rw [this]
    exact hall _ (List.getElem_mem hi7)
  have hr : ∀ i, i < (tv.take 5).length → 0 ≤ (tv.take 5).getD i 0 ∧ (tv.take 5).getD i 0 < (7 : Nat) := fun i hi => by
    rw [hl5] at hi; rw [hget i hi]; have := hmem i hi; omega
  have hdd : ∀ i j, i < j → j < (tv.take 5).length → (tv.take 5).getD i 0 ≠ (tv.take 5).getD j 0 := fun i j hij hj => by
    rw [hl5] at hj
    rw [hget i (by omega), hget j hj]
    intro e
    have hi7 : i < tv.length := by omega
    have hj7 : j < tv.length := by omega
    have e' : tv[i] = tv[j] := by simpa [List.getD, hi7, hj7] using e
    have := (List.getElem_inj hnd).1 e'
    omega
  obtain ⟨u, u1, u2, u3, _⟩ := invTo_perm 7 hr hdd (tv.take 5).length (Nat.le_refl _)
  rw [hl5] at u1 u3
  have hu : inv (tv.take 5) 7 = some u := by
    unfold inv
    rw [if_neg (by omega), hl5]
    exact u1
  have ok1 : mvok (renF (tv.take 5)) 0 t = true := by
    refine mvok_of _ _ (fun x hx hk hb => ?_)
    have := hf x hx hk hb
    rw [renF_at (by omega) (by rw [hl5]; omega), hget _ (by omega)]
    have := hmem (x.i - x.b).toNat (by omega)
    refine ⟨rfl, ?_⟩
    simp only
    omega
  obtain ⟨e1, e2⟩ := ren_ok hw ok1
  have wx := wf_mv _ _ hw ok1
  have nn : ∀ x ∈ nodes 0 t, x.k = 5 → x.b ≤ x.i → 0 ≤ (renF (tv.take 5) (x.i - x.b)).1 := by
    intro x hx hk hb
    have := hf x hx hk hb
    rw [renF_at (by omega) (by rw [hl5]; omega), hget _ (by omega)]
    exact (hmem (x.i - x.b).toNat (by omega)).1
  have un : ∀ v : Int, 0 ≤ v → v < 5 → renF u (renF (tv.take 5) v).1 = (v, true) := by
    intro v h0 h1
    have h2 := hmem v.toNat (by omega)
    rw [renF_at h0 (by rw [hl5]; omega), hget _ (by omega)]
    simp only
    rw [renF_at h2.1 (by rw [u2]; omega)]
    have h3 := u3 v.toNat (by omega)
    rw [hget _ (by omega)] at h3
    rw [h3]
    congr 1
    omega
  have ok2 : mvok (renF u) 0 (mv (renF (tv.take 5)) 0 t) = true := by
    refine mvok_mv_of _ _ _ (fun x hx hk hb => ?_)
    have := hf x hx hk hb
    refine ⟨nn x hx hk hb, ?_⟩
    rw [un _ (by omega) (by omega)]
    refine ⟨rfl, ?_, ?_⟩ <;> simp only <;> omega
  obtain ⟨e3, e4⟩ := ren_ok wx ok2
  refine ⟨_, u, e1, e2, hu, u2, e3, ?_, wt_mv _ _ _⟩
  rw [e4, mv_mv _ _ _ _ nn]
  refine mv_id _ _ _ (fun x hx => (mvi_eq (g := fun i => (i, true)) (fun hk hb => ?_)).trans (mvi_id _ _ _))
  have := hf x hx hk hb
  simp only
  rw [un _ (by omega) (by omega)]
end Tm
/-- Two numbers of a row change places. -/
theorem swap_perm {l : List Int} (i k : Nat) (hi : i < l.length) (hk : k < l.length) : ((l.set i (l.getD k 0)).set k (l.getD i 0)).Perm l := by
  have e1 : l.getD k 0 = l[k] := by simp [List.getD, hk]
  have e2 : l.getD i 0 = l[i] := by simp [List.getD, hi]
  rw [e1, e2]
  exact List.set_set_perm hi hk
end Go.LF

/- RenameInverts: its walk. -/
namespace Go.Proofs.YtdcbgkmhlpkjiaaDoor
open Go.RowKit Go.LF

theorem NumB.rep_take {W : World} {g : Nat} {l : List Int} (h : NumB W g l) {O : Nat → Prop} (hO : ¬ O g) (n : Nat) (hn : n ≤ l.length) : RepE O W 1 ((l.take n).map (Dat.int .i64)) (some ⟨g, 0, none⟩) 0 :=
  repE_row (V := Value.int .i64) (fun x => by simp [Rep]) (l.take n) _ 0 (fun i hi => ⟨g, rfl, h.lt, hO, by
    have hi2 : i < l.length := by simp at hi; omega
    rw [Nat.zero_add, h.cell i hi2]; simp [List.getD, hi2]⟩)
theorem NumB.of {W : World} {g : Nat} {l : List Int} (h : W.heap[g]? = some (.cells (l.map (Value.int .i64)).toArray 3 (0, 0))) : NumB W g l := h

set_option maxRecDepth 100000 in
set_option maxHeartbeats 16000000 in
theorem renInv_walk (l : List Int) (a : Option Addr) (len cap : Nat) (hl : l.length = len) (hlen : len ≤ 17592186044416) (l' : List Int) (a' : Option Addr) (len' cap' : Nat) (hl' : l'.length = len') (hlen' : len' ≤ 17592186044416) (w : World)
    (hE : RepE none' w 1 (l.map (Dat.int .i64)) a 0) (hE' : RepE none' w 1 (l'.map (Dat.int .i64)) a' 0) (hN : NamesRead w) :
    Calls Tryd.prog 15 #[.slice a len cap, .slice a' len' cap'] w fun e w' => e = .returned (.bool true) ∧ Upto none' w w' := by
  have hT := tape_new (w := w) (cap := cap) (U := 46) hl hlen hE
  have hN1 : NamesOk w.heap.size (w.alloc (.cells #[.slice a len cap, .int .i64 0] 46)) := hN.ok ((Upto.refl none' w).alloc _) (Nat.le_refl _)
  have HA := anyTerm_any 3 (by omega) 5 2 (by omega) (by omega) w.heap.size _ hT hN1
  have HC := fun (x n : Int) h0 h1 w => cut_any x n h0 h1 w
  subst hl'
  clear hT hN1 hE hN hl hlen
  go_enter Tryd.func15, Tryd.ntmps15
  go_wp2_with fail
  refine HA.mono ?_
  rintro e w1 ⟨k1, i1, n1, a1, len1, cap1, t, rfl, hR, hF, _, _, hU⟩
  have hU1 : Upto none' w w1 := ((Upto.refl none' w).alloc _).trans hU (fun b hb e => by simp only [isT] at e; omega)
  have hR1 := rep_pre hR
  clear HA hU hR
  obtain ⟨w2, hw2⟩ : ∃ w2, w2 = (w1.alloc (.cells #[.int .i64 k1, .string (B n1), .int .i64 i1, .slice a1 len1 cap1] 25)).alloc (.cells #[.int .i64 0, .int .i64 1, .int .i64 2, .int .i64 3, .int .i64 4, .int .i64 5, .int .i64 6] 3) := ⟨_, rfl⟩
  have hU2 : Upto none' w1 w2 := by rw [hw2]; exact ((Upto.refl none' w1).alloc _).alloc _
  have hA2 : Box4 w2 w1.heap.size (.int .i64 k1) (.string (B n1)) (.int .i64 i1) (.slice a1 len1 cap1) 25 := by rw [hw2]; exact (Box4.at_new rfl).kept ((Upto.refl none' _).alloc _)
  have hM2 : NumB w2 (w1.heap.size + 1) [0, 1, 2, 3, 4, 5, 6] := by
    have := heap_alloc_new (w1.alloc (.cells #[.int .i64 k1, .string (B n1), .int .i64 i1, .slice a1 len1 cap1] 25)) (.cells #[.int .i64 0, .int .i64 1, .int .i64 2, .int .i64 3, .int .i64 4, .int .i64 5, .int .i64 6] 3)
    rw [← hw2] at this
    exact NumB.of (by simpa using this)
  have hR2 : Rep (fun x => x = w1.heap.size + 1) w2 t.dat [.int .i64 k1, .string (B n1), .int .i64 i1, .slice a1 len1 cap1] := (Rep.weaken (fun b _ e => .inr (by omega)) _ _ (Rep.fresh' _ _ hR1)).on hU2
  have hUw2 := hU1.and hU2
  have hs1 := hU1.size
  have HW2 := hid hw2
  clear hw2 hR1 hU1 hU2
  obtain ⟨g, hg⟩ : ∃ g, g = w1.heap.size + 1 := ⟨_, rfl⟩
  obtain ⟨A, hA⟩ : ∃ A, A = w1.heap.size := ⟨_, rfl⟩
  rw [← hg] at hM2 hR2
  rw [← hA] at hA2
  have hAg : A ≠ g := by omega
  have hwg : w.heap.size ≤ g := by omega
  have HG := hid (And.intro hg hA)
  clear hg hA hs1
  go_wp2_with fail
  rw [← HW2.out, ← HG.out.1, ← HG.out.2]
  go_loopw [7] (fun v7 wr => ∃ (j : Nat) (tv : List Int), v7 = .int .i64 j ∧ j ≤ 7 ∧ tv.Perm [0, 1, 2, 3, 4, 5, 6] ∧ NumB wr g tv ∧ Box4 wr A (.int .i64 k1) (.string (B n1)) (.int .i64 i1) (.slice a1 len1 cap1) 25 ∧
      Rep (fun x => x = g) wr t.dat [.int .i64 k1, .string (B n1), .int .i64 i1, .slice a1 len1 cap1] ∧ Upto none' w wr) (fun v7 _ => 7 - (intOf v7).toNat)
  case atStart => exact ⟨0, _, rfl, by omega, List.Perm.refl _, hM2, hA2, hR2, hUw2⟩
  case round =>
    clear hM2 hA2 hR2 hUw2
    obtain ⟨j, tv, rfl, hj, hp, hM, hA, hR, hU⟩ := hrel
    have htl : tv.length = 7 := hp.length_eq
    have hj0 : (0 : Int) ≤ (j : Int) := by omega
    have HP := hid (And.intro hp htl)
    clear hp htl
    have hgl := hM.lt
    by_cases hj7 : j < 7
    · have hj1 : (j : Int) < 7 := by omega
      have cj := hM.cell j (by rw [HP.out.2]; omega)
      have fj := hM.frozen j
      obtain ⟨xj, hxj⟩ : ∃ xj, xj = tv.getD j 0 := ⟨_, rfl⟩
      rw [← hxj] at cj
      have HX := hid hxj
      clear hxj
      have hways : ¬ j < l'.length ∨ j < l'.length := by omega
      rcases hways with hm | hm
      case' inl =>
        have hm1 : ¬ (j : Int) < (l'.length : Int) := by omega
        go_wp2_with fail
        go_region
      case' inr =>
        have hm1 : (j : Int) < (l'.length : Int) := by omega
        obtain ⟨mb, mo, rfl, _, _, mc⟩ := int_cell (hE'.on hU) j hm
        generalize l'[j] = mx at *
        go_wp2_with fail
        refine (HC _ (7 - (j : Int)) (by omega) (by omega) _).mono ?_
        rintro e wd ⟨⟨c, hc, rfl⟩, rfl⟩
        have hc0 : (0 : Int) ≤ (c : Int) := by omega
        have hck : (j : Int) + (c : Int) < 7 := by omega
        rcases Nat.eq_zero_or_pos c with rfl | hcp
      case' inl =>
        go_wp2_with fail
        go_region
      case' inr =>
        have ck := hM.cell (j + c) (by rw [HP.out.2]; omega)
        have fk := hM.frozen (j + c)
        obtain ⟨xk, hxk⟩ : ∃ xk, xk = tv.getD (j + c) 0 := ⟨_, rfl⟩
        rw [← hxk] at ck
        have HXK := hid hxk
        clear hxk
        have hne : j ≠ j + c := by omega
        go_wp2_with fail
        go_region
      all_goals first
        | (have hM' : NumB _ g _ := ((hM.set j (by rw [HP.out.2]; omega) xk).set (j + c) (by simp [HP.out.2]; omega) xj).keep (Upto.refl none' _).drew (fun x => x)
           have hp' := (swap_perm (l := tv) j (j + c) (by rw [HP.out.2]; omega) (by rw [HP.out.2]; omega)).trans HP.out.1
           rw [← HX.out, ← HXK.out] at hp'
           have hUs := ((Upto.set (Upto.refl (fun x => x = g) wr) j (.int .i64 xk)).trans (Upto.set (Upto.refl _ _) (j + c) (.int .i64 xj)) (fun _ _ e => e)).drew
           have hA' := hA.keep hUs hAg
           have hR' := Rep.keep hUs (fun b e => e) _ _ hR
           have hU' := hU.trans hUs (fun b hb e => by omega)
           have HK := hid hp'
           clear hp'
           go_wp2_with fail
           go_roundw
           case rel => exact ⟨j + 1, _, by go_num, hj7, HK.out, hM', hA', hR', hU'⟩
           case measure => (simp [intOf]; omega))
        | (have hM' : NumB _ g _ := ((hM.set j (by rw [HP.out.2]; omega) xj).set j (by simp [HP.out.2]; omega) xj).keep (Upto.refl none' _).drew (fun x => x)
           have hp' := (swap_perm (l := tv) j j (by rw [HP.out.2]; omega) (by rw [HP.out.2]; omega)).trans HP.out.1
           rw [← HX.out] at hp'
           have hUs := ((Upto.set (Upto.refl (fun x => x = g) wr) j (.int .i64 xj)).trans (Upto.set (Upto.refl _ _) j (.int .i64 xj)) (fun _ _ e => e)).drew
           have hA' := hA.keep hUs hAg
           have hR' := Rep.keep hUs (fun b e => e) _ _ hR
           have hU' := hU.trans hUs (fun b hb e => by omega)
           have HK := hid hp'
           clear hp'
           go_wp2_with fail
           go_roundw
           case rel => exact ⟨j + 1, _, by go_num, hj7, HK.out, hM', hA', hR', hU'⟩
           case measure => (simp [intOf]; omega))
    · have hj1 : ¬ (j : Int) < 7 := by omega
      obtain ⟨x, u, e1, e2, e3, hul, e5, e6, hwx⟩ := Tm.inverts hF (by omega) tv HP.out.1
      have hwt : t.wt ≤ 1000 := by have := hF.wt; omega
      have hst : t.size ≤ 1000000 := by have := Tm.size_le_wt t; omega
      have hl5 : (tv.take 5).length = 5 := by simp [HP.out.2]
      have S1 := fun w' cs h h' => ren_any t (by omega) (tv.take 5) (some ⟨g, 0, none⟩) 7 (by omega) w' cs h h'
      have S2 := fun w' h' => invert_any (tv.take 5) (some ⟨g, 0, none⟩) 7 (by omega) 7 w' h'
      have S3 := fun a c w' cs h h' => ren_any x (by omega) u a c (by omega) w' cs h h'
      have Q1 := fun w' cs ds h h' => refSame_any t hst t w' cs ds h h'
      rw [e1, e2, hl5] at S1
      rw [e3, hl5] at S2
      rw [e5, e6, hul] at S3
      rw [Tm.same_refl] at Q1
      have hE5 := hM.rep_take (O := none') (fun x => x) 5 (by rw [HP.out.2]; omega)
      have HUL := hid hul
      obtain ⟨x0, x1, x2, x3⟩ := hA.cells
      have qA := hA.lt
      clear e1 e2 e3 hul e5 e6 hwx hF hwt hst hl5 HC hE'
      have T0 : TcS A (.int .i64 k1) (.string (B n1)) (.int .i64 i1) (.slice a1 len1 cap1) wr := ⟨x0, x1, x2, x3⟩
      have S0d := TcS.keep (S := none') T0 (Upto.refl none' wr).drew (fun x => x)
      have S0a := TcS.keep (S := none') (TcS.new T0 (.cells #[.int .i64 0, .string (B []), .int .i64 0, .slice none 0 0] 25)) (Upto.refl none' _).drew (fun x => x)
      have hne : A ≠ wr.heap.size := by omega
      clear T0
      go_upto_region 10 with fail
      go_cut [9, 10] from 56 to 62 (fun v9 v10 wc => ∃ (ob : Nat) (kx ix : Int) (nx : List UInt8) (ax : Option Addr) (lx cx : Nat), v9 = .pointer (some ⟨ob, 0, none⟩) ∧ v10 = .bool true ∧ Box4 wc ob (.int .i64 kx) (.string (B nx)) (.int .i64 ix) (.slice ax lx cx) 25 ∧
        Rep none' wc x.dat [.int .i64 kx, .string (B nx), .int .i64 ix, .slice ax lx cx] ∧ Upto none' wr wc)
      case first =>
        go_region_held3 (fun w' => TcS A (.int .i64 k1) (.string (B n1)) (.int .i64 i1) (.slice a1 len1 cap1) w')
          (first | (with_reducible assumption) | (with_reducible exact S0d) | (with_reducible exact S0a) | (with_reducible exact TcS.new S6 _) | (with_reducible exact TcS.set (TcS.set (TcS.set (TcS.set S6 hne 0 _) hne 1 _) hne 2 _) hne 3 _))
          ((go_at_call 68; refine (S1 _ _ ((rep_pre hR).on (by first | exact (Upto.refl none' wr).drew | exact ((Upto.refl none' wr).alloc _).drew)) (RepE.on hE5 (by first | exact (Upto.refl none' wr).drew | exact ((Upto.refl none' wr).alloc _).drew))).mono ?_; rintro e w6 ⟨k6, i6, n6, a6, l6, c6, rfl, hR6, hU6⟩; (first | (have z6 := (show Box4 (wr.alloc (.cells #[.int .i64 0, .string (B []), .int .i64 0, .slice none 0 0] 25)).drew wr.heap.size _ _ _ _ _ from Box4.at_new rfl).kept hU6; obtain ⟨z0, z1, z2, z3⟩ := z6.cells; obtain ⟨y0, y1, y2, y3⟩ := z6.frozens; have z9 := z6.lt) | skip); have S6 : TcS A (.int .i64 k1) (.string (B n1)) (.int .i64 i1) (.slice a1 len1 cap1) w6 := TcS.keep (S := none') (by first | exact S0d | exact S0a) hU6 (fun x => x)))
        all_goals
          go_wp2_with fail
          go_meet
        all_goals first
          | (have hset := z6.set (d0 := .int .i64 k6) (d1 := .string (B n6)) (d2 := .int .i64 i6) (d3 := .slice a6 l6 c6)
             exact ⟨wr.heap.size, k6, i6, n6, a6, l6, c6, rfl, rfl, hset.1, rep_pre (Rep.keep hset.2 (fun b e => by rw [e]; show _ < (wr.alloc _).heap.size; simp) _ _ hR6), ((((Upto.refl none' wr).alloc _).drew).and hU6).trans hset.2 (fun i hi e => by omega)⟩)
          | exact ⟨w6.heap.size, k6, i6, n6, a6, l6, c6, rfl, rfl, Box4.at_new rfl, rep_pre (hR6.new _), (((Upto.refl none' wr).drew).and hU6).alloc _⟩
      case rest =>
        obtain ⟨ob, kx, ix, nx, ax, lx, cx, rfl, rfl, hX, hRx, hUc⟩ := hcut
        have hA1 := hA.kept hUc
        have hM1 := hM.keep hUc (fun x => x)
        have hR1 := (rep_pre hR).on hUc
        have hUw1 := hU.and hUc
        have hE51 := hM1.rep_take (O := none') (fun x => x) 5 (by rw [HP.out.2]; omega)
        clear hA hM hR hU hUc hE5 S0d S0a x0 x1 x2 x3 S1
        go_wp2_with fail
        refine (S2 _ hE51).mono ?_
        rintro e w7 ⟨ua, ulen, ucap, rfl, hul2, huE, hU7⟩
        obtain rfl : ulen = 7 := by rw [← hul2]; exact HUL.out
        replace huE : RepE none' w7 1 (u.map (Dat.int .i64)) ua 0 := RepE.weaken (fun _ _ x => x.elim) _ _ _ _ huE
        have hX7 := hX.kept hU7
        have hA7 := hA1.kept hU7
        have hRx7 := hRx.on hU7
        have hR7 := hR1.on hU7
        have hUw7 := hUw1.and hU7
        obtain ⟨x0, x1, x2, x3⟩ := hX7.cells
        have q7 := hX7.lt
        clear hul2 hX hA1 hM1 hR1 hRx hUw1 hE51 hU7 S2
        go_wp2_with fail
        refine (S3 ua ucap _ _ hRx7 huE).mono ?_
        rintro e w8 ⟨k8, i8, n8, a8, len8, cap8, rfl, hR8, hU8⟩
        have hA8 := hA7.kept hU8
        have hRn := rep_pre hR8
        obtain ⟨w9, hw9⟩ : ∃ w9, w9 = w8.alloc (.cells #[.int .i64 k8, .string (B n8), .int .i64 i8, .slice a8 len8 cap8] 25) := ⟨_, rfl⟩
        have hU9 : Upto none' w8 w9 := by rw [hw9]; exact (Upto.refl none' w8).alloc _
        have hR9 := hRn.on hU9
        have hRt9 := (hR7.on hU8).on hU9
        have hUw9 := (hUw7.and hU8).and hU9
        have HW9 := hid hw9
        clear x0 x1 x2 x3 hw9
        obtain ⟨x0, x1, x2, x3⟩ := hA8.cells
        have q8 := hA8.lt
        clear hX7 hA7 hRx7 hR7 hUw7 hR8 hU8 hRn hU9 S3 huE
        go_wp2_with fail
        rw [← HW9.out]
        refine (Q1 _ _ _ hR9 hRt9).mono ?_
        rintro e w11 ⟨rfl, hU11⟩
        go_wp2_with fail
        refine (awake06 _).mono ?_
        rintro e w13 ⟨rfl, hU13⟩
        go_wp2
        go_ret
        exact ⟨rfl, (hUw9.and hU11).and hU13⟩
end Go.Proofs.YtdcbgkmhlpkjiaaDoor

namespace Go.Proofs.YtdcbgkmhlpkjiaaDoor
open Go.ChangeShapes Go.WideShapes Go.ChangeAt Go.RowKit Go.LF

set_option maxRecDepth 100000 in
theorem renameInverts_lifted (os : Os) (started : os.Started) (H : Type) (enc : TypeId × Value → H) :
    ReturnsInHanded {} Tryd.checked os 15 .any (fun w args => (Rows.renameInvertsSpec.pre enc Tryd.prog Tryd.f15 [] false w args ∧ laidMetH Tryd.prog [("lfcheck/lfcheckmade.names", Rows.laid_lfcheck_lfcheckmade_names)] w) ∧ sizedMet enc Tryd.prog Tryd.f15 (OpenSpec.ofChange Rows.renameInvertsSpec) false w args)
      (Rows.renameInvertsSpec.post enc Tryd.prog Tryd.f15 false true false false) := by
  refine returnsInHanded_of_change_and (C := Tryd.checked) (X := fun w _ => laidMetH Tryd.prog [("lfcheck/lfcheckmade.names", Rows.laid_lfcheck_lfcheckmade_names)] w) (fun _ _ _ hh h => h.of_heap hh) own started (by kernel_rfl) Tryd.func15
    (ChangeSpec.witness_shaped (enc := enc) (C := Tryd.checked) (os := os) (X := fun w _ => laidMetH Tryd.prog [("lfcheck/lfcheckmade.names", Rows.laid_lfcheck_lfcheckmade_names)] w) false (World.doorLaid Tryd.prog 400 os) #[.slice none 0 0, .slice none 0 0] 8 rfl (World.shaped_of_RefB (by kernel_rfl) (by kernel_rfl)) (by kernel_rfl) (by kernel_rfl) (by kernel_rfl) (door_met os _)) ?_
  intro W base args ds gs before hval0 hW _ hsz0 hL _
  have hsz : (DataW.weightsEach Tryd.prog (Tryd.f15.params.toList ++ Rows.renameInvertsSpec.plain.varTypes Tryd.prog) (ds ++ gs)).all (· ≤ reachBytes) = true := hsz0
  clear hsz0
  have hval : ∀ (j : Nat) t v, Tryd.f15.params[j]? = some t → args[j]? = some v → Value.okWide Tryd.prog W .any base t v := hval0
  have hW' := hW
  obtain ⟨p, q, hA0, hV, rfl, hfz, hnd⟩ := hW
  have hA : DataW.TrodAll enc Tryd.prog W 0 (fun _ => true) true Tryd.f15.params.toList args.toList ds p := hA0
  rw [Tryd.params15] at hA hval hsz
  obtain ⟨v0, vs0, d0, ds0, p0, q0, hargs, rfl, rfl, h0, r0⟩ := trodAll_cons hA
  obtain ⟨v1, vs1, d1, ds1, p1, q1, rfl, rfl, rfl, h1, r1⟩ := trodAll_cons r0
  obtain ⟨rfl, rfl, rfl⟩ := trodAll_nil r1
  obtain rfl : args = #[v0, v1] := Array.ext' hargs
  obtain ⟨rfl, rfl⟩ := trodVars_none hV
  clear hA0 hval0
  simp only [List.append_nil] at hW'
  have hlt : ∀ x, x ∈ p0 ∨ x ∈ p1 → x.block < W.heap.size := fun x hx => hW'.lt x (by simpa [List.mem_append, or_assoc] using hx)
  have hNR := names_of_laid hL
  have h0k := h0
  obtain ⟨a0, len0, cap0, rfl⟩ := okWide_slice Tryd.underlying22 (hval 0 22 v0 rfl rfl)
  obtain ⟨l0, hl0, _, hlen0, hE0⟩ := ints_arg h0 hsz (j := 0) rfl rfl
  have h1k := h1
  obtain ⟨a1, len1, cap1, rfl⟩ := okWide_slice Tryd.underlying22 (hval 1 22 v1 rfl rfl)
  obtain ⟨l1, hl1, _, hlen1, hE1⟩ := ints_arg h1 hsz (j := 1) rfl rfl
  refine (renInv_walk l0 a0 len0 cap0 hl0 hlen0 l1 a1 len1 cap1 hl1 hlen1 W hE0 hE1 hNR).mono fun e W' ⟨he, hU⟩ => ?_
  subst he
  have hb := Upto.toBelow hU
  exact ⟨_, rfl, _, _, _, [], _, [], hW', (trodAll_cons_mk (shut_bool Tryd.underlying4 _) trodAll_mk0), (trodAll_cons_mk (Below.trod laidOut (by kernel_rfl) (of_decide_eq_true (by kernel_rfl)) h0k hb (fun x hx => hlt x (by simp [hx]))) (trodAll_cons_mk (Below.trod laidOut (by kernel_rfl) (of_decide_eq_true (by kernel_rfl)) h1k hb (fun x hx => hlt x (by simp [hx]))) trodAll_mk0)), rfl, hb.frame _, fun h => by cases h⟩

theorem renameInverts_holds : Rows.RenameInvertsSaid :=
  OpenClaim.holds_of_wide 15 Tryd.f15 rfl rfl rfl rfl rfl rfl rfl ⟨rfl, rfl, rfl, rfl, rfl⟩ rfl rfl rfl rfl rfl (by kernel_rfl) Tryd.func15 (by kernel_rfl)
    (of_decide_eq_true (by kernel_rfl)) (by unfold Func.isWrapper; first | (rw [if_pos (by decide +kernel)]; kernel_rfl) | (rw [if_neg (by decide +kernel)]; exact ⟨rfl, rfl⟩))
    (fun os started H enc _ => renameInverts_lifted os started H enc)

theorem renameInverts_card_holds : Rows.RenameInvertsCardSaid :=
  Claim7.holds_tied_plain_at .later [] [.data] true Rows.renameInvertsCard.stood.harness false
    renameInverts_holds (fun _ h => by cases h) (by kernel_rfl) (fun _ h => by cases h) renameInverts_row_tie rfl ⟨rfl, rfl⟩ (by kernel_rfl) rfl
    (fun f fn hf hfn => by
      obtain rfl : f = 15 := Option.some.inj ((show Tryd.prog.funcNamed Rows.renameInvertsRow.func = some 15 by kernel_rfl).symm.trans hf) |>.symm
      obtain rfl : fn = Tryd.f15 := (Option.some.inj (Tryd.func15.symm.trans hfn)).symm
      exact ⟨by kernel_rfl, fun j t ht => by
        rw [Tryd.params15] at ht
        have hm : t ∈ [22, 22] := by simpa using Array.mem_of_getElem? ht
        have hall : ([22, 22].all fun u => !Tryd.prog.wantsStandIn u) = true := by kernel_rfl
        exact (show Tryd.prog.wantsStandIn t = false by simpa using List.all_eq_true.1 hall t hm)⟩)
    (by kernel_rfl)
end Go.Proofs.YtdcbgkmhlpkjiaaDoor
