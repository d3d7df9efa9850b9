/- For every input RenameComposes returns true, and each argument reads afterwards as it read before; the package's names of binders are as its own text lays them (the card ties that). No other conditions. -/
import Derived.Test.YtdcbgkmhlpkjiaaDoorArgs
import Derived.Test.YtdcbgkmhlpkjiaaDoorRen06A
import Derived.Test.YtdcbgkmhlpkjiaaDoorMade05All
import Derived.Test.YtdcbgkmhlpkjiaaDoorRefSame
import Derived.Test.YtdcbgkmhlpkjiaaDoorCards
import Derived.Test.YtdcbgkmhlpkjiaaDoorTie
import Derived.Deep.AppendLies
/- Arguments that are arrays of numbers. -/
namespace Go.Proofs.YtdcbgkmhlpkjiaaDoor
open Go.ChangeShapes Go.WideShapes Go.ChangeAt Go.RowKit Go.LF

theorem ints_of_cells : ∀ (l : List Value), (∀ i, i < l.length → ∃ a : Int, l[i]? = some (.int .i64 a)) → ∃ xs : List Int, l = xs.map (Value.int .i64)
  | [], _ => ⟨[], rfl⟩
  | v :: l, h => by
    obtain ⟨a, ha⟩ := h 0 (by simp)
    obtain ⟨xs, hx⟩ := ints_of_cells l (fun i hi => by simpa using h (i + 1) (by simp; omega))
    simp at ha
    exact ⟨a :: xs, by simp [ha, hx]⟩
set_option maxRecDepth 100000 in
theorem arr_arg {H : Type} {enc : TypeId × Value → H} {W : World} {v : Value} {d : DataW H} {p : List MemPlace} {k : TypeId} {n b0 : Nat} (hu : Tryd.prog.underlying k = some (.array n 3)) (hk : Tryd.prog.cellsOf k = n)
    (hval : Value.okWide Tryd.prog W .any b0 k v) (hd : DataW.Trod enc Tryd.prog W 0 (fun _ => true) true k v d p) : ∃ xs : List Int, xs.length = n ∧ v = .agg (xs.map (Value.int .i64)).toArray := by
  simp only [Value.okWide, hu] at hval
  obtain ⟨cs, rfl, _, _⟩ := hval
  obtain ⟨fuel, hf⟩ := hd
  obtain ⟨ys, m, _, _, hc, hy, hz⟩ := DataW.trod_array hu hf
  simp only [cells_int, Nat.mul_one] at hz
  have hcl : (Value.agg cs).cells.toList = cs.toList := by simp [Value.cells]
  have key : ∀ i, i < n → ∃ a : Int, cs.toList[i]? = some (.int .i64 a) := by
    intro i hi
    have h1 := hz i hi
    rw [List.getElem?_eq_getElem (show i < ys.length by omega)] at h1
    obtain ⟨a, ea, _, _⟩ := DataW.trod_int Tryd.underlying3 h1
    rw [hcl] at ea
    have h0 : ((cs.toList.drop i).take 1)[0]? = some (.int .i64 a) := by rw [ea]; rfl
    rw [List.getElem?_take_of_lt (by omega), List.getElem?_drop, Nat.add_zero] at h0
    exact ⟨a, h0⟩
  have hn : cs.toList.length = n := by rw [← hcl, hc, hk]
  obtain ⟨xs, hx⟩ := ints_of_cells cs.toList (fun i hi => key i (by omega))
  refine ⟨xs, ?_, ?_⟩
  · rw [← hn, hx]; simp
  · rw [← hx]
set_option maxRecDepth 100000 in
theorem arr2_arg {H : Type} {enc : TypeId × Value → H} {W : World} {v : Value} {d : DataW H} {p : List MemPlace} {b0 : Nat} (hval : Value.okWide Tryd.prog W .any b0 58 v) (hd : DataW.Trod enc Tryd.prog W 0 (fun _ => true) true 58 v d p) :
    ∃ x0 x1 : Int, v = .agg #[.int .i64 x0, .int .i64 x1] := by
  obtain ⟨xs, h1, h2⟩ := arr_arg (n := 2) Tryd.underlying58 (by kernel_rfl) hval hd
  match xs, h1 with
  | [x0, x1], _ => exact ⟨x0, x1, h2⟩
set_option maxRecDepth 100000 in
theorem arr5_arg {H : Type} {enc : TypeId × Value → H} {W : World} {v : Value} {d : DataW H} {p : List MemPlace} {b0 : Nat} (hval : Value.okWide Tryd.prog W .any b0 72 v) (hd : DataW.Trod enc Tryd.prog W 0 (fun _ => true) true 72 v d p) :
    ∃ x0 x1 x2 x3 x4 : Int, v = .agg #[.int .i64 x0, .int .i64 x1, .int .i64 x2, .int .i64 x3, .int .i64 x4] := by
  obtain ⟨xs, h1, h2⟩ := arr_arg (n := 5) Tryd.underlying72 (by kernel_rfl) hval hd
  match xs, h1 with
  | [x0, x1, x2, x3, x4], _ => exact ⟨x0, x1, x2, x3, x4, h2⟩
end Go.Proofs.YtdcbgkmhlpkjiaaDoor

/- RenameBack, RenameInverts, RenameComposes, as plain data. -/
namespace Go.LF.Tm

theorem mvok_of (f : To) (t : Tm) (h : ∀ x ∈ nodes 0 t, x.k = 5 → x.b ≤ x.i → (f (x.i - x.b)).2 = true ∧ 0 ≤ (f (x.i - x.b)).1 ∧ (f (x.i - x.b)).1 ≤ 1048576 - x.b) : mvok f 0 t = true := by
  rw [mvok_nodes, List.all_eq_true]
  intro x hx
  unfold oki
  by_cases hk : x.k = 5 ∧ x.b ≤ x.i
  · obtain ⟨h1, h2, h3⟩ := h x hx hk.1 hk.2
    simp [h1, h2, h3]
  · have : (x.k == 5 && decide (x.b ≤ x.i)) = false := by rw [Bool.eq_false_iff]; intro e; exact hk (by simpa using e)
    rw [this]; rfl
theorem mvok_mv_of (f g : To) (t : Tm) (h : ∀ x ∈ nodes 0 t, x.k = 5 → x.b ≤ x.i → 0 ≤ (f (x.i - x.b)).1 ∧ (g (f (x.i - x.b)).1).2 = true ∧ 0 ≤ (g (f (x.i - x.b)).1).1 ∧ (g (f (x.i - x.b)).1).1 ≤ 1048576 - x.b) : mvok g 0 (mv f 0 t) = true := by
  refine mvok_of g _ ?_
  rw [nodes_mv]
  intro y hy
  obtain ⟨x, hx, rfl⟩ := List.mem_map.1 hy
  simp only
  intro h5 hbi
  unfold mvi at hbi ⊢
  by_cases hk : x.k = 5 ∧ x.b ≤ x.i
  · rw [if_pos hk]
    obtain ⟨h1, h2, h3, h4⟩ := h x hx hk.1 hk.2
    rw [show (f (x.i - x.b)).1 + x.b - x.b = (f (x.i - x.b)).1 by omega]
    exact ⟨h2, h3, h4⟩
  · rw [if_neg hk] at hbi
    exact absurd ⟨h5, hbi⟩ hk
theorem mvi_eq {f g : To} {x : Nd0} (h : x.k = 5 → x.b ≤ x.i → (f (x.i - x.b)).1 = (g (x.i - x.b)).1) : mvi f x.b x.k x.i = mvi g x.b x.k x.i := by
  unfold mvi
  by_cases hk : x.k = 5 ∧ x.b ≤ x.i
  · rw [if_pos hk, if_pos hk, h hk.1 hk.2]
  · rw [if_neg hk, if_neg hk]
/-- The free variables of a term that a law makes, and the binders around its nodes. -/
theorem FitsA.free {t : Tm} {sz v m : Nat} (h : FitsA t sz v m) (hs : sz ≤ 4096) : ∀ x ∈ nodes 0 t, x.k = 5 → x.b ≤ x.i → 0 ≤ x.i - x.b ∧ x.i - x.b < v ∧ 0 ≤ x.b ∧ x.b ≤ 4096 := by
  intro x hx hk hb
  have h1 := free_lt t x hx hk
  have h2 := nodes_b t 0 x hx
  have := h.scope
  have := h.size
  omega
theorem shiftF_small {a c v : Int} (ha : 0 ≤ a) (ha2 : a ≤ 1048576) (hv : 0 ≤ v) (hv2 : v ≤ 1048576) : shiftF a c v = (if v < c then v else v + a, true) := by
  unfold shiftF
  by_cases h : v < c
  · rw [if_pos h, if_pos h]
  · rw [if_neg h, if_neg h, decide_eq_true ha2]
    congr 1
    unfold Go.RowKit.wrap64
    omega

theorem back {t : Tm} {sz m : Nat} (h : FitsA t sz 5 m) (hs : sz ≤ 4096) (a b c : Nat) (ha : a ≤ 8) (hb : b ≤ 8) (hc : c ≤ 6) :
    ∃ x y : Tm, t.shiftE a c = 0 ∧ t.shiftT a c = x ∧ x.lowerB c a = true ∧ x.lowerT c a = t ∧ x.shiftE b c = 0 ∧ x.shiftT b c = y ∧ t.shiftE ((a + b : Nat) : Int) c = 0 ∧ t.shiftT ((a + b : Nat) : Int) c = y ∧ x.wt = t.wt ∧ y.wt = t.wt := by
  have hf := h.free hs
  have hw := h.wf hs
  have sh : ∀ (t : Tm) (d : Nat), t.wf = 0 → mvok (shiftF d c) 0 t = true → t.shiftE d c = 0 ∧ t.shiftT d c = mv (shiftF d c) 0 t := by
    intro t d hw hm
    have e : t.shiftE d c = 0 := by unfold shiftE; rw [hw, if_neg (by omega), if_neg (by omega), hm]; rfl
    exact ⟨e, by unfold shiftT; rw [e, if_pos rfl]⟩
  have ok1 : ∀ d : Nat, d ≤ 100 → mvok (shiftF d c) 0 t = true := by
    intro d hd
    refine mvok_of _ _ (fun x hx hk hb => ?_)
    have := hf x hx hk hb
    rw [shiftF_small (by omega) (by omega) (by omega) (by omega)]
    refine ⟨rfl, ?_⟩
    simp only
    split <;> omega
  have wx : (mv (shiftF a c) 0 t).wf = 0 := wf_mv _ _ hw (ok1 a (by omega))
  have ok2 : mvok (shiftF b c) 0 (mv (shiftF a c) 0 t) = true := by
    refine mvok_mv_of _ _ _ (fun x hx hk hb => ?_)
    have := hf x hx hk hb
    rw [shiftF_small (a := a) (by omega) (by omega) (by omega) (by omega)]
    simp only
    by_cases hv : x.i - x.b < (c : Int)
    · rw [if_pos hv, shiftF_small (by omega) (by omega) (by omega) (by omega), if_pos hv]
      refine ⟨by omega, rfl, ?_, ?_⟩ <;> simp only <;> omega
    · rw [if_neg hv, shiftF_small (by omega) (by omega) (by omega) (by omega), if_neg (by omega)]
      refine ⟨by omega, rfl, ?_, ?_⟩ <;> simp only <;> omega
  have nn : ∀ x ∈ nodes 0 t, x.k = 5 → x.b ≤ x.i → 0 ≤ (shiftF a c (x.i - x.b)).1 := by
    intro x hx hk hb
    have := hf x hx hk hb
    rw [shiftF_small (by omega) (by omega) (by omega) (by omega)]
    simp only
    split <;> omega
  have ok3 : mvok (lowerF c a) 0 (mv (shiftF a c) 0 t) = true := by
    refine mvok_mv_of _ _ _ (fun x hx hk hb => ?_)
    have := hf x hx hk hb
    rw [shiftF_small (a := a) (by omega) (by omega) (by omega) (by omega)]
    simp only
    unfold lowerF
    by_cases hv : x.i - x.b < (c : Int)
    · rw [if_pos hv, if_pos hv]
      refine ⟨by omega, rfl, ?_, ?_⟩ <;> simp only <;> omega
    · rw [if_neg hv, if_neg (by omega)]
      refine ⟨by omega, by simp only [decide_eq_true_eq]; omega, ?_, ?_⟩ <;> simp only <;> omega
  obtain ⟨e1, e2⟩ := sh t a hw (ok1 a (by omega))
  obtain ⟨e3, e4⟩ := sh _ b wx ok2
  obtain ⟨e5, e6⟩ := sh t (a + b) hw (ok1 (a + b) (by omega))
  have hlB : (mv (shiftF a c) 0 t).lowerB c a = true := by unfold lowerB; rw [ok3, wx, decide_eq_true (by omega), decide_eq_true (by omega)]; rfl
  refine ⟨_, _, e1, e2, hlB, ?_, e3, e4, e5, ?_, wt_mv _ _ _, by rw [wt_mv, wt_mv]⟩
  · unfold lowerT
    rw [hlB, if_pos rfl, mv_mv _ _ _ _ nn]
    refine mv_id _ _ _ (fun x hx => ?_)
    refine (mvi_eq (g := fun i => (i, true)) (fun hk hb => ?_)).trans (mvi_id _ _ _)
    have := hf x hx hk hb
    rw [shiftF_small (by omega) (by omega) (by omega) (by omega)]
    simp only
    unfold lowerF
    by_cases hv : x.i - x.b < (c : Int)
    · rw [if_pos hv, if_pos hv]
    · rw [if_neg hv, if_neg (by omega)]; simp only; omega
  · rw [e6, mv_mv _ _ _ _ nn]
    refine mv_congr _ _ _ _ (fun x hx => mvi_eq (fun hk hb => ?_))
    have := hf x hx hk hb
    rw [shiftF_small (by omega) (by omega) (by omega) (by omega), shiftF_small (a := a) (by omega) (by omega) (by omega) (by omega)]
    simp only
    by_cases hv : x.i - x.b < (c : Int)
    · rw [if_pos hv, if_pos hv, shiftF_small (by omega) (by omega) (by omega) (by omega), if_pos hv]
    · rw [if_neg hv, if_neg hv, shiftF_small (by omega) (by omega) (by omega) (by omega), if_neg (by omega)]; simp only; omega
end Go.LF.Tm

/- RenameInverts, as plain data. -/
namespace Go.LF

theorem getD_set_self {l : List Int} {i : Nat} {x : Int} (h : i < l.length) : (l.set i x).getD i 0 = x := by simp [List.getD, h]
theorem getD_set_ne {l : List Int} {i j : Nat} {x : Int} (h : i ≠ j) : (l.set i x).getD j 0 = l.getD j 0 := by simp [List.getD, List.getElem?_set_ne h]
theorem invTo_perm {l : List Int} (n : Nat) (hr : ∀ i, i < l.length → 0 ≤ l.getD i 0 ∧ l.getD i 0 < n) (hd : ∀ i j, i < j → j < l.length → l.getD i 0 ≠ l.getD j 0) : ∀ j, j ≤ l.length →
    ∃ out, invTo n l j = some out ∧ out.length = n ∧ (∀ i, i < j → out.getD (l.getD i 0).toNat 0 = i) ∧ ∀ y : Nat, y < n → (∀ i, i < j → l.getD i 0 ≠ y) → out.getD y 0 = -1
  | 0, _ => ⟨_, rfl, by simp, fun i h => by omega, fun y hy _ => by simp [List.getD, hy]⟩
  | j + 1, hj => by
    obtain ⟨out, h1, h2, h3, h4⟩ := invTo_perm n hr hd j (by omega)
    have hx := hr j (by omega)
    have hx1 := h4 (l.getD j 0).toNat (by omega) (fun i hi e => hd i j hi (by omega) (by omega))
    refine ⟨out.set (l.getD j 0).toNat j, ?_, by simpa using h2, fun i hi => ?_, fun y hy hne => ?_⟩
    · rw [invTo, h1]
      show invStep n out j (l.getD j 0) = _
      unfold invStep
      rw [if_neg (by omega), if_neg (by rw [hx1]; omega)]
    · by_cases e : i = j
      · subst e
        exact getD_set_self (by omega)
      · have hi' := hr i (by omega)
        have := hd i j (by omega) (by omega)
        rw [getD_set_ne (by omega)]
        exact h3 i (by omega)
    · have := hne j (by omega)
      rw [getD_set_ne (by omega)]
      exact h4 y hy (fun i hi => hne i (by omega))
namespace Tm
theorem renF_at {l : List Int} {v : Int} (h0 : 0 ≤ v) (h1 : v < l.length) : renF l v = (l.getD v.toNat 0, true) := by
  unfold renF
  rw [List.getElem?_eq_getElem (by omega)]
  simp [List.getD, show v.toNat < l.length by omega]
theorem ren_ok {t : Tm} {l : List Int} (hw : t.wf = 0) (h : mvok (renF l) 0 t = true) : t.renB l = true ∧ t.renT l = mv (renF l) 0 t := by
  have e : t.renB l = true := by unfold renB; rw [hw, h]; rfl
  exact ⟨e, by unfold renT; rw [e, if_pos rfl]⟩
theorem inverts {t : Tm} {sz m : Nat} (h : FitsA t sz 5 m) (hs : sz ≤ 4096) (tv : List Int) (hp : tv.Perm [0, 1, 2, 3, 4, 5, 6]) :
    ∃ (x : Tm) (u : List Int), t.renB (tv.take 5) = true ∧ t.renT (tv.take 5) = x ∧ inv (tv.take 5) 7 = some u ∧ u.length = 7 ∧ x.renB u = true ∧ x.renT u = t ∧ x.wt = t.wt := by
  have hf := h.free hs
  have hw := h.wf hs
  have hlen : tv.length = 7 := hp.length_eq
  have hall : ∀ x ∈ tv, 0 ≤ x ∧ x < 7 := fun x hx => by
    have := hp.mem_iff.1 hx
    simp at this
    omega
  have hnd : tv.Nodup := hp.nodup_iff.2 (by decide)
  have hl5 : (tv.take 5).length = 5 := by simp [hlen]
  have hget : ∀ i, i < 5 → (tv.take 5).getD i 0 = tv.getD i 0 := fun i hi => by simp [List.getD, hi]
  have hmem : ∀ i, i < 5 → 0 ≤ tv.getD i 0 ∧ tv.getD i 0 < 7 := fun i hi => by
    have hi7 : i < tv.length := by omega
    have : tv.getD i 0 = tv[i] := by simp [List.getD, hi7]
    rw [this]
    exact hall _ (List.getElem_mem hi7)
  have hr : ∀ i, i < (tv.take 5).length → 0 ≤ (tv.take 5).getD i 0 ∧ (tv.take 5).getD i 0 < (7 : Nat) := fun i hi => by
    rw [hl5] at hi; rw [hget i hi]; have := hmem i hi; omega
  have hdd : ∀ i j, i < j → j < (tv.take 5).length → (tv.take 5).getD i 0 ≠ (tv.take 5).getD j 0 := fun i j hij hj => by
    rw [hl5] at hj
    rw [hget i (by omega), hget j hj]
    intro e
    have hi7 : i < tv.length := by omega
    have hj7 : j < tv.length := by omega
    have e' : tv[i] = tv[j] := by simpa [List.getD, hi7, hj7] using e
    have := (List.getElem_inj hnd).1 e'
    omega
  obtain ⟨u, u1, u2, u3, _⟩ := invTo_perm 7 hr hdd (tv.take 5).length (Nat.le_refl _)
  rw [hl5] at u1 u3
  have hu : inv (tv.take 5) 7 = some u := by
    unfold inv
    rw [if_neg (by omega), hl5]
    exact u1
  have ok1 : mvok (renF (tv.take 5)) 0 t = true := by
    refine mvok_of _ _ (fun x hx hk hb => ?_)
    have := hf x hx hk hb
    rw [renF_at (by omega) (by rw [hl5]; omega), hget _ (by omega)]
    have := hmem (x.i - x.b).toNat (by omega)
    refine ⟨rfl, ?_⟩
    simp only
    omega
  obtain ⟨e1, e2⟩ := ren_ok hw ok1
  have wx := wf_mv _ _ hw ok1
  have nn : ∀ x ∈ nodes 0 t, x.k = 5 → x.b ≤ x.i → 0 ≤ (renF (tv.take 5) (x.i - x.b)).1 := by
    intro x hx hk hb
    have := hf x hx hk hb
    rw [renF_at (by omega) (by rw [hl5]; omega), hget _ (by omega)]
    exact (hmem (x.i - x.b).toNat (by omega)).1
  have un : ∀ v : Int, 0 ≤ v → v < 5 → renF u (renF (tv.take 5) v).1 = (v, true) := by
    intro v h0 h1
    have h2 := hmem v.toNat (by omega)
    rw [renF_at h0 (by rw [hl5]; omega), hget _ (by omega)]
    simp only
    rw [renF_at h2.1 (by rw [u2]; omega)]
    have h3 := u3 v.toNat (by omega)
    rw [hget _ (by omega)] at h3
    rw [h3]
    congr 1
    omega
  have ok2 : mvok (renF u) 0 (mv (renF (tv.take 5)) 0 t) = true := by
    refine mvok_mv_of _ _ _ (fun x hx hk hb => ?_)
    have := hf x hx hk hb
    refine ⟨nn x hx hk hb, ?_⟩
    rw [un _ (by omega) (by omega)]
    refine ⟨rfl, ?_, ?_⟩ <;> simp only <;> omega
  obtain ⟨e3, e4⟩ := ren_ok wx ok2
  refine ⟨_, u, e1, e2, hu, u2, e3, ?_, wt_mv _ _ _⟩
  rw [e4, mv_mv _ _ _ _ nn]
  refine mv_id _ _ _ (fun x hx => (mvi_eq (g := fun i => (i, true)) (fun hk hb => ?_)).trans (mvi_id _ _ _))
  have := hf x hx hk hb
  simp only
  rw [un _ (by omega) (by omega)]
end Tm
/-- Two numbers of a row change places. -/
theorem swap_perm {l : List Int} (i k : Nat) (hi : i < l.length) (hk : k < l.length) : ((l.set i (l.getD k 0)).set k (l.getD i 0)).Perm l := by
  have e1 : l.getD k 0 = l[k] := by simp [List.getD, hk]
  have e2 : l.getD i 0 = l[i] := by simp [List.getD, hi]
  rw [e1, e2]
  exact List.set_set_perm hi hk
end Go.LF

/- RenameComposes, as plain data. -/
namespace Go.LF.Tm
theorem composes {t : Tm} {sz m : Nat} (h : FitsA t sz 5 m) (hs : sz ≤ 4096) (a b c : List Int) (la : a.length = 5) (lb : b.length = 5) (lc : c.length = 5) (ha : ∀ i, i < 5 → 0 ≤ a.getD i 0 ∧ a.getD i 0 < 5) (hb : ∀ i, i < 5 → 0 ≤ b.getD i 0 ∧ b.getD i 0 < 9)
    (hc : ∀ i, i < 5 → c.getD i 0 = b.getD (a.getD i 0).toNat 0) :
    ∃ x y : Tm, t.renB a = true ∧ t.renT a = x ∧ x.renB b = true ∧ x.renT b = y ∧ t.renB c = true ∧ t.renT c = y ∧ x.wt = t.wt ∧ y.wt = t.wt := by
  have hf := h.free hs
  have hw := h.wf hs
  have ra : ∀ v : Int, 0 ≤ v → v < 5 → renF a v = (a.getD v.toNat 0, true) := fun v h0 h1 => renF_at h0 (by omega)
  have rb : ∀ v : Int, 0 ≤ v → v < 5 → renF b v = (b.getD v.toNat 0, true) := fun v h0 h1 => renF_at h0 (by omega)
  have rc : ∀ v : Int, 0 ≤ v → v < 5 → renF c v = (c.getD v.toNat 0, true) := fun v h0 h1 => renF_at h0 (by omega)
  have ok1 : mvok (renF a) 0 t = true := by
    refine mvok_of _ _ (fun x hx hk hb => ?_)
    have := hf x hx hk hb
    have := ha (x.i - x.b).toNat (by omega)
    rw [ra _ (by omega) (by omega)]
    refine ⟨rfl, ?_⟩
    simp only
    omega
  have ok3 : mvok (renF c) 0 t = true := by
    refine mvok_of _ _ (fun x hx hk hb' => ?_)
    have := hf x hx hk hb'
    have h1 := ha (x.i - x.b).toNat (by omega)
    have h2 := hb (a.getD (x.i - x.b).toNat 0).toNat (by omega)
    rw [rc _ (by omega) (by omega), hc _ (by omega)]
    refine ⟨rfl, ?_⟩
    simp only
    omega
  have nn : ∀ x ∈ nodes 0 t, x.k = 5 → x.b ≤ x.i → 0 ≤ (renF a (x.i - x.b)).1 := by
    intro x hx hk hb'
    have := hf x hx hk hb'
    rw [ra _ (by omega) (by omega)]
    exact (ha _ (by omega)).1
  have wx := wf_mv _ _ hw ok1
  have ok2 : mvok (renF b) 0 (mv (renF a) 0 t) = true := by
    refine mvok_mv_of _ _ _ (fun x hx hk hb' => ?_)
    have := hf x hx hk hb'
    have h1 := ha (x.i - x.b).toNat (by omega)
    have h2 := hb (a.getD (x.i - x.b).toNat 0).toNat (by omega)
    refine ⟨nn x hx hk hb', ?_⟩
    rw [ra _ (by omega) (by omega)]
    simp only
    rw [rb _ (by omega) (by omega)]
    refine ⟨rfl, ?_⟩
    simp only
    omega
  obtain ⟨e1, e2⟩ := ren_ok hw ok1
  obtain ⟨e3, e4⟩ := ren_ok wx ok2
  obtain ⟨e5, e6⟩ := ren_ok hw ok3
  refine ⟨_, _, e1, e2, e3, e4, e5, ?_, wt_mv _ _ _, by rw [wt_mv, wt_mv]⟩
  rw [e6, mv_mv _ _ _ _ nn]
  refine mv_congr _ _ _ _ (fun x hx => mvi_eq (fun hk hb' => ?_))
  have := hf x hx hk hb'
  have h1 := ha (x.i - x.b).toNat (by omega)
  rw [ra _ (by omega) (by omega), rc _ (by omega) (by omega)]
  simp only
  rw [rb _ (by omega) (by omega), hc _ (by omega)]
end Go.LF.Tm

/- RenameComposes: its walk. -/
namespace Go.Proofs.YtdcbgkmhlpkjiaaDoor
open Go.RowKit Go.LF

/-- An array of numbers. -/
def ArrB (W : World) (g : Nat) (l : List Int) (T : TypeId) : Prop := W.heap[g]? = some (.cells (l.map (Value.int .i64)).toArray T (0, 0))
section
variable {W W' : World} {g : Nat} {l : List Int} {T : TypeId} {S : Nat → Prop}
theorem ArrB.lt (h : ArrB W g l T) : g < W.heap.size := (Array.getElem?_eq_some_iff.1 h).1
theorem ArrB.cell (h : ArrB W g l T) (i : Nat) (hi : i < l.length) : W.cell? ⟨g, i, none⟩ = some (.int .i64 (l.getD i 0)) := by
  unfold ArrB at h
  simp [World.cell?, h, List.getD, hi]
theorem ArrB.keep (h : ArrB W g l T) (hU : Upto S W W') (hS : ¬ S g) : ArrB W' g l T := (hU.block g h.lt hS).trans h
end
theorem Ints.other {base : Nat} {W w7 : World} {va vb : Value} {lb : List Int} (h : Ints base W vb lb) (hg : W.grownBy w7 va.ownBlock) (hd : ∀ g, va.ownBlock = some g → vb.ownBlock ≠ some g) : Ints base w7 vb lb := by
  unfold Ints at h ⊢
  refine ⟨h.1, ?_⟩
  rcases h.2 with h5 | ⟨g, cap, cur, rfl, hb, hgb, rest⟩
  · exact .inl h5
  · exact .inr ⟨g, cap, cur, rfl, hb, (hg.block g (Array.getElem?_eq_some_iff.1 hgb).1 (fun e => hd g e.symm rfl)).trans hgb, rest⟩
theorem Ints.on6 {base : Nat} {W W' : World} {v : Value} {l : List Int} (h : Ints base W v l) (hU : Upto none' W W') : Ints base W' v l := by
  unfold Ints at h ⊢
  refine ⟨h.1, ?_⟩
  rcases h.2 with h5 | ⟨g, cap, cur, rfl, hb, hgb, rest⟩
  · exact .inl h5
  · exact .inr ⟨g, cap, cur, rfl, hb, (hU.block g (Array.getElem?_eq_some_iff.1 hgb).1 (fun x => x)).trans hgb, rest⟩
theorem Ints.slice {base : Nat} {W : World} {v : Value} {l : List Int} (h : Ints base W v l) : ∃ a cap, v = .slice a l.length cap ∧ l.length ≤ cap ∧ RepE (fun b => b < base) W 1 (l.map (Dat.int .i64)) a 0 := ints_open h.rep

theorem Ints.rep2 {base : Nat} {W : World} {a : Option Addr} {len cap : Nat} {l : List Int} (h : Ints base W (.slice a len cap) l) : RepE (fun b => b < base) W 1 (l.map (Dat.int .i64)) a 0 := by
  obtain ⟨a', c', e, _, h2⟩ := h.slice
  cases e
  exact h2

set_option maxRecDepth 100000 in
set_option maxHeartbeats 16000000 in
theorem renComp_walk (l : List Int) (a : Option Addr) (len cap : Nat) (hl : l.length = len) (hlen : len ≤ 17592186044416) (m0 m1 m2 m3 m4 : Int) (n0 n1 n2 n3 n4 : Int) (w : World)
    (hE : RepE none' w 1 (l.map (Dat.int .i64)) a 0) (hN : NamesRead w) :
    Calls Tryd.prog 16 #[.slice a len cap, .agg #[.int .i64 m0, .int .i64 m1, .int .i64 m2, .int .i64 m3, .int .i64 m4], .agg #[.int .i64 n0, .int .i64 n1, .int .i64 n2, .int .i64 n3, .int .i64 n4]] w fun e w' => e = .returned (.bool true) ∧ Upto none' w w' := by
  obtain ⟨i0, hi, hi0, hi1, hi2⟩ := info_parts info_int
  obtain ⟨w0, hw0⟩ : ∃ w0, w0 = (w.alloc (.cells #[.int .i64 m0, .int .i64 m1, .int .i64 m2, .int .i64 m3, .int .i64 m4] 72)).alloc (.cells #[.int .i64 n0, .int .i64 n1, .int .i64 n2, .int .i64 n3, .int .i64 n4] 72) := ⟨_, rfl⟩
  have hU0 : Upto none' w w0 := by rw [hw0]; exact ((Upto.refl none' w).alloc _).alloc _
  have hz0 : w0.heap.size = w.heap.size + 1 + 1 := by rw [hw0]; simp
  have hm0 : ArrB w0 w.heap.size [m0, m1, m2, m3, m4] 72 := by
    have h1 : ArrB (w.alloc (.cells #[.int .i64 m0, .int .i64 m1, .int .i64 m2, .int .i64 m3, .int .i64 m4] 72)) w.heap.size [m0, m1, m2, m3, m4] 72 := heap_alloc_new w _
    rw [hw0]; exact h1.keep ((Upto.refl none' _).alloc _) (fun x => x)
  have hn0 : ArrB w0 (w.heap.size + 1) [n0, n1, n2, n3, n4] 72 := by
    have h1 := heap_alloc_new (w.alloc (.cells #[.int .i64 m0, .int .i64 m1, .int .i64 m2, .int .i64 m3, .int .i64 m4] 72)) (.cells #[.int .i64 n0, .int .i64 n1, .int .i64 n2, .int .i64 n3, .int .i64 n4] 72)
    rw [← hw0] at h1
    unfold ArrB
    simpa using h1
  have hT := tape_new (w := w0) (cap := cap) (U := 46) hl hlen (hE.on hU0)
  have hN1 : NamesOk w0.heap.size (w0.alloc (.cells #[.slice a len cap, .int .i64 0] 46)) := hN.ok (hU0.alloc _) hU0.size
  rw [hz0] at hT hN1
  have HA := anyTerm_any 3 (by omega) 5 2 (by omega) (by omega) (w.heap.size + 1 + 1) _ hT hN1
  have HC := fun (x n : Int) h0 h1 w => cut_any x n h0 h1 w
  obtain ⟨lm, hlm⟩ : ∃ lm, lm = [m0, m1, m2, m3, m4] := ⟨_, rfl⟩
  obtain ⟨ln, hln⟩ : ∃ ln, ln = [n0, n1, n2, n3, n4] := ⟨_, rfl⟩
  have hlm5 : lm.length = 5 := by rw [hlm]; rfl
  have hln5 : ln.length = 5 := by rw [hln]; rfl
  rw [← hlm] at hm0
  rw [← hln] at hn0
  have HW0 := hid hw0
  have HLM := hid (And.intro hlm5 hln5)
  clear hT hN1 hE hN hl hlen hlm hln hw0 hlm5 hln5
  go_enter Tryd.func16, Tryd.ntmps16
  go_wp2_with fail
  rw [← HW0.out]
  refine HA.mono ?_
  rintro e w1 ⟨k1, i1, n1', a1, len1, cap1, t, rfl, hR, hF, _, _, hU⟩
  have hU01 : Upto none' w0 w1 := ((Upto.refl none' w0).alloc _).trans hU (fun b hb e => by simp only [isT] at e; omega)
  have hU1 := hU0.and hU01
  have hm1' := hm0.keep hU01 (fun x => x)
  have hn1' := hn0.keep hU01 (fun x => x)
  have hR1 := rep_pre hR
  clear HA hU hR hm0 hn0 hU0 hU01 hz0
  obtain ⟨w2, hw2⟩ : ∃ w2, w2 = w1.alloc (.cells #[.int .i64 k1, .string (B n1'), .int .i64 i1, .slice a1 len1 cap1] 25) := ⟨_, rfl⟩
  have hU2 : Upto none' w1 w2 := by rw [hw2]; exact (Upto.refl none' w1).alloc _
  have hA2 : Box4 w2 w1.heap.size (.int .i64 k1) (.string (B n1')) (.int .i64 i1) (.slice a1 len1 cap1) 25 := by rw [hw2]; exact Box4.at_new rfl
  have hR2 := hR1.on hU2
  have hUw2 := hU1.and hU2
  have hm2 := hm1'.keep hU2 (fun x => x)
  have hn2 := hn1'.keep hU2 (fun x => x)
  have HW2 := hid hw2
  obtain ⟨base, hbase⟩ : ∃ base, base = w2.heap.size := ⟨_, rfl⟩
  have hAb : w1.heap.size < base := by rw [hbase]; exact hA2.lt
  have hmb : w.heap.size < base ∧ w.heap.size + 1 < base := by rw [hbase]; exact ⟨hm2.lt, hn2.lt⟩
  have hR2' : Rep (fun b => base ≤ b) w2 t.dat [.int .i64 k1, .string (B n1'), .int .i64 i1, .slice a1 len1 cap1] := by rw [hbase]; exact Rep.fresh hR2
  have hb2 : base ≤ w2.heap.size := by omega
  clear hw2 hR1 hU1 hU2 hm1' hn1' hR2 hbase
  obtain ⟨A, hA⟩ : ∃ A, A = w1.heap.size := ⟨_, rfl⟩
  rw [← hA] at hA2 hAb
  have HAA := hid hA
  clear hA
  go_wp2_with fail
  rw [← HW2.out, ← HAA.out]
  go_loopw [8, 9, 11] (fun v8 v9 v11 wr => ∃ (j : Nat) (la lb : List Int), v11 = .int .i64 j ∧ j ≤ 5 ∧ la.length = j ∧ lb.length = j ∧ (∀ x ∈ la, 0 ≤ x ∧ x < 5) ∧ (∀ x ∈ lb, 0 ≤ x ∧ x < 9) ∧ Ints base wr v8 la ∧ Ints base wr v9 lb ∧
      (∀ g, v8.ownBlock = some g → v9.ownBlock ≠ some g) ∧ ArrB wr w.heap.size lm 72 ∧ ArrB wr (w.heap.size + 1) ln 72 ∧ Box4 wr A (.int .i64 k1) (.string (B n1')) (.int .i64 i1) (.slice a1 len1 cap1) 25 ∧
      Rep (fun b => base ≤ b) wr t.dat [.int .i64 k1, .string (B n1'), .int .i64 i1, .slice a1 len1 cap1] ∧ Upto none' w wr ∧ base ≤ wr.heap.size) (fun _ _ v11 _ => 5 - (intOf v11).toNat)
  case atStart => exact ⟨0, [], [], rfl, by omega, rfl, rfl, by simp, by simp, World.ownsRow_nil _ _ _ _, World.ownsRow_nil _ _ _ _, fun g e => by simp [Value.ownBlock] at e, hm2, hn2, hA2, hR2', hUw2, hb2⟩
  case round =>
    clear hm2 hn2 hA2 hR2' hUw2 hb2
    obtain ⟨j, la, lb, rfl, hj, hla, hlb, hra, hrb, hIa, hIb, hdis, hm, hn, hA, hR, hU, hbr⟩ := hrel
    obtain ⟨aa, ca, rfl, hca, _⟩ := hIa.slice
    obtain ⟨ab, cb, rfl, hcb, _⟩ := hIb.slice
    rw [hla] at hdis hca
    rw [hlb] at hdis hcb
    have hIa' : wr.ownsRow base 3 1 (.slice aa j ca) j (la.map (Value.int .i64)) := by have := hIa; unfold Ints at this; rwa [hla] at this
    have hIb' : wr.ownsRow base 3 1 (.slice ab j cb) j (lb.map (Value.int .i64)) := by have := hIb; unfold Ints at this; rwa [hlb] at this
    rw [hla] at hIa ⊢
    rw [hlb] at hIb ⊢
    have HL := hid (And.intro hla (And.intro hlb (And.intro hra hrb)))
    have hj0 : (0 : Int) ≤ (j : Int) := by omega
    clear hla hlb hra hrb
    by_cases hj5 : j < 5
    · have hj1 : (j : Int) < 5 := by omega
      have cm := hm.cell j (by rw [HLM.out.1]; omega)
      have cn := hn.cell j (by rw [HLM.out.2]; omega)
      have qm := hm.lt
      have qn := hn.lt
      generalize lm.getD j 0 = xm at *
      generalize ln.getD j 0 = xn at *
      go_wp2_with fail
      refine (HC _ 5 (by omega) (by omega) _).mono ?_
      rintro e wd ⟨⟨c, hc, rfl⟩, rfl⟩
      have hal1 : Upto none' wr (wr.alloc (.cells #[.int .i64 (c : Int)] 3)) := (Upto.refl none' wr).alloc _
      have hIa1 := hIa.on6 hal1
      go_wp2_with (at_builtin; refine wpList_append_lies _ (by rfl) _ _ 22 (by rfl) base 3 i0 (.int .i64 0) 1 8 (by kernel_rfl) hi hi0 hi1 hi2 rfl (by decide) (.slice aa j ca) j (la.map (Value.int .i64)) (by rfl) (by have := hIa1; unfold Ints at this; rwa [HL.out.1] at this) ⟨wr.heap.size, 0, none⟩ 1 1 [.int .i64 (c : Int)] (by rfl) rfl (World.news_of_block (heap_alloc_new wr _)) (by simp [Value.oneCell']) (by omega) (by simp only [maxLen]; omega) (by omega) (by simp; omega) (wr.heap.size + 1) (by simp) ?_; intro g cap' w7 hown hgrow hat hlt7; have hr7 := (hal1.mono (fun _ _ e => e.elim)).trans (Upto.ofRow (RowUp.grown hIa1 hgrow)) (fun _ _ x => x); have c7 := hr7.cell cn (by simp only; omega); have q7 := hr7.size)
      have hvb : ∀ x, (Value.slice ab j cb).ownBlock = some x → x ≠ g := by
        intro x hx e
        subst e
        rcases hat with h | h
        · exact hdis x h hx
        · have := (hIb'.lt x hx).2; omega
      have hIb7 : Ints base w7 (.slice ab j cb) lb := (hIb.on6 hal1).other hgrow hdis
      have hIa7 : Ints base w7 (.slice (some ⟨g, 0, none⟩) (j + 1) cap') (la ++ [(c : Int)]) := by
        unfold Ints
        rw [List.length_append, HL.out.1, List.map_append]
        exact hown
      have hal2 : ∀ d : Int, Upto none' w7 (w7.alloc (.cells #[.int .i64 d] 3)) := fun d => (Upto.refl none' w7).alloc _
      go_wp2_with fail
      refine (HC _ 9 (by omega) (by omega) _).mono ?_
      rintro e wd ⟨⟨c2, hc2, rfl⟩, rfl⟩
      have hIb8 := hIb7.on6 (hal2 (c2 : Int))
      go_wp2_with (at_builtin; refine wpList_append_lies _ (by rfl) _ _ 22 (by rfl) base 3 i0 (.int .i64 0) 1 8 (by kernel_rfl) hi hi0 hi1 hi2 rfl (by decide) (.slice ab j cb) j (lb.map (Value.int .i64)) (by rfl) (by have := hIb8; unfold Ints at this; rwa [HL.out.2.1] at this) ⟨w7.heap.size, 0, none⟩ 1 1 [.int .i64 (c2 : Int)] (by rfl) rfl (World.news_of_block (heap_alloc_new w7 _)) (by simp [Value.oneCell']) (by omega) (by simp only [maxLen]; omega) (by omega) (by simp; omega) (w7.heap.size + 1) (by simp) ?_; intro g2 cap2 w9 hown2 hgrow2 hat2 hlt9)
      have hr9 := ((hal2 (c2 : Int)).mono (fun _ _ e => e.elim)).trans (Upto.ofRow (RowUp.grown hIb8 hgrow2)) (fun _ _ x => x)
      have hrr := hr7.trans hr9 (fun _ _ x => x)
      have hIa9 := (hIa7.on6 (hal2 (c2 : Int))).other hgrow2 (fun x hx => fun e => hvb x hx (by simp only [Value.ownBlock, Option.some.injEq] at e; exact e.symm))
      have hIb9 : Ints base w9 (.slice (some ⟨g2, 0, none⟩) (j + 1) cap2) (lb ++ [(c2 : Int)]) := by
        unfold Ints
        rw [List.length_append, HL.out.2.1, List.map_append]
        exact hown2
      have hdis9 : ∀ x, (Value.slice (some ⟨g, 0, none⟩) (j + 1) cap').ownBlock = some x → (Value.slice (some ⟨g2, 0, none⟩) (j + 1) cap2).ownBlock ≠ some x := by
        intro x hx e
        simp only [Value.ownBlock, Option.some.injEq] at hx e
        subst hx
        rcases hat2 with h | h
        · exact hvb g2 h e
        · omega
      have hm9 := hm.keep hrr (by omega)
      have hn9 := hn.keep hrr (by omega)
      have hA9 := hA.keep hrr (by omega)
      have hR9 := Rep.keep hrr (fun b e => e) _ _ hR
      have hU9 := hU.trans hrr (fun b hb e => by omega)
      have hs9 := hrr.size
      have k1' : (la ++ [(c : Int)]).length = j + 1 := by simp [HL.out.1]
      have k2' : (lb ++ [(c2 : Int)]).length = j + 1 := by simp [HL.out.2.1]
      have k3' : ∀ x ∈ la ++ [(c : Int)], 0 ≤ x ∧ x < 5 := fun x hx => by
        rcases List.mem_append.1 hx with hx | hx
        · exact HL.out.2.2.1 x hx
        · have := List.mem_singleton.1 hx; omega
      have k4' : ∀ x ∈ lb ++ [(c2 : Int)], 0 ≤ x ∧ x < 9 := fun x hx => by
        rcases List.mem_append.1 hx with hx | hx
        · exact HL.out.2.2.2 x hx
        · have := List.mem_singleton.1 hx; omega
      have HK := hid (And.intro k1' (And.intro k2' (And.intro k3' k4')))
      have HI9 := hid (And.intro hIa9 (And.intro hIb9 hdis9))
      clear k1' k2' k3' k4' hIa hIb hIa' hIb' hIa7 hIb7 hIb8 hIa1 hown hown2 hgrow hgrow2 hdis hvb hIa9 hIb9 hdis9 hal1 hal2
      go_wp2_with fail
      go_roundw
      case rel => exact ⟨j + 1, _, _, by go_num, hj5, HK.out.1, HK.out.2.1, HK.out.2.2.1, HK.out.2.2.2, HI9.out.1, HI9.out.2.1, HI9.out.2.2, hm9, hn9, hA9, hR9, hU9, by omega⟩
      case measure => (simp [intOf]; omega)
    · have hj1 : ¬ (j : Int) < 5 := by omega
      obtain rfl : j = 5 := by omega
      obtain ⟨wq, rfl⟩ : ∃ wq, wq = wr := ⟨wr, rfl⟩
      have hEa : RepE none' wq 1 (la.map (Dat.int .i64)) aa 0 := RepE.weaken (fun _ _ x => x.elim) _ _ _ _ hIa.rep2
      have hEb : RepE none' wq 1 (lb.map (Dat.int .i64)) ab 0 := RepE.weaken (fun _ _ x => x.elim) _ _ _ _ hIb.rep2
      clear hIa hIb hIa' hIb' hdis hm hn
      go_wp2_with fail
      go_loopw [10, 12] (fun v10 v12 wr => ∃ (j : Nat) (lc : List Int), v12 = .int .i64 j ∧ j ≤ 5 ∧ lc.length = j ∧ (∀ i, i < j → lc.getD i 0 = lb.getD (la.getD i 0).toNat 0) ∧ Ints wq.heap.size wr v10 lc ∧ Upto none' wq wr) (fun _ v12 _ => 5 - (intOf v12).toNat)
      case atStart => exact ⟨0, [], rfl, by omega, rfl, fun i h => by omega, World.ownsRow_nil _ _ _ _, Upto.refl _ _⟩
      case round =>
        obtain ⟨j, lc, rfl, hj, hlc, hgc, hIc, hUs⟩ := hrel
        obtain ⟨ac, cc, rfl, hcc, _⟩ := hIc.slice
        rw [hlc] at hcc hIc ⊢
        have HLC := hid (And.intro hlc hgc)
        clear hlc hgc
        have hj0 : (0 : Int) ≤ (j : Int) := by omega
        have hEa2 := hEa.on hUs
        have hEb2 := hEb.on hUs
        have hss := hUs.size
        by_cases hj5 : j < 5
        · have hj1 : (j : Int) < 5 := by omega
          obtain ⟨ba, oa, rfl, _, _, cA⟩ := int_cell hEa2 j (by rw [HL.out.1]; exact hj5)
          have hxr := HL.out.2.2.1 (la[j]'(by rw [HL.out.1]; exact hj5)) (List.getElem_mem _)
          have hxg : la.getD j 0 = la[j]'(by rw [HL.out.1]; exact hj5) := by simp [List.getD, show j < la.length by rw [HL.out.1]; exact hj5]
          obtain ⟨y, hy⟩ : ∃ y : Nat, la[j]'(by rw [HL.out.1]; exact hj5) = (y : Int) := ⟨(la[j]'(by rw [HL.out.1]; exact hj5)).toNat, by omega⟩
          rw [hy] at cA hxr hxg
          have hy5 : y < 5 := by omega
          have hy0 : (0 : Int) ≤ (y : Int) := by omega
          obtain ⟨bb, ob, rfl, _, _, cB⟩ := int_cell hEb2 y (by rw [HL.out.2.1]; exact hy5)
          have hzg : lb.getD y 0 = lb[y]'(by rw [HL.out.2.1]; exact hy5) := by simp [List.getD, show y < lb.length by rw [HL.out.2.1]; exact hy5]
          obtain ⟨z, hz⟩ : ∃ z, z = lb[y]'(by rw [HL.out.2.1]; exact hy5) := ⟨_, rfl⟩
          rw [← hz] at cB hzg
          have HXY := hid (And.intro hxg hzg)
          have hal : Upto none' wr (wr.alloc (.cells #[.int .i64 z] 3)) := (Upto.refl none' wr).alloc _
          have hIc1 := hIc.on6 hal
          clear hxg hzg hy hz
          go_wp2_with (at_builtin; refine wpList_append_lies _ (by rfl) _ _ 22 (by rfl) wq.heap.size 3 i0 (.int .i64 0) 1 8 (by kernel_rfl) hi hi0 hi1 hi2 rfl (by decide) (.slice ac j cc) j (lc.map (Value.int .i64)) (by rfl) (by have := hIc1; unfold Ints at this; rwa [HLC.out.1] at this) ⟨wr.heap.size, 0, none⟩ 1 1 [.int .i64 z] (by rfl) rfl (World.news_of_block (heap_alloc_new wr _)) (by simp [Value.oneCell']) (by omega) (by simp only [maxLen]; omega) (by omega) (by simp; omega) (wr.heap.size + 1) (by simp) ?_; intro g cap' w7 hown hgrow hat hlt7)
          have hU7 : Upto none' wq w7 := ((RowUp.refl 3 wq.heap.size wq).on (hUs.and hal)).trans (RowUp.grown hIc1 hgrow) |>.upto (Nat.le_refl _)
          have hIc7 : Ints wq.heap.size w7 (.slice (some ⟨g, 0, none⟩) (j + 1) cap') (lc ++ [z]) := by
            unfold Ints
            rw [List.length_append, HLC.out.1, List.map_append]
            exact hown
          have k1' : (lc ++ [z]).length = j + 1 := by simp [HLC.out.1]
          have k2' : ∀ i, i < j + 1 → (lc ++ [z]).getD i 0 = lb.getD (la.getD i 0).toNat 0 := by
            intro i hi
            by_cases e : i = j
            · subst e
              rw [HXY.out.1, Int.toNat_natCast, HXY.out.2, ← HLC.out.1]
              simp [List.getD]
            · have := HLC.out.2 i (by omega)
              rw [← this]
              simp [List.getD, List.getElem?_append_left (show i < lc.length by rw [HLC.out.1]; omega)]
          have HK := hid (And.intro k1' k2')
          have HI7 := hid hIc7
          clear k1' k2' hIc7 hIc hIc1 hown hgrow hal
          go_wp2_with fail
          go_roundw
          case rel => exact ⟨j + 1, _, by go_num, hj5, HK.out.1, HK.out.2, HI7.out, hU7⟩
          case measure => (simp [intOf]; omega)
        · have hj1 : ¬ (j : Int) < 5 := by omega
          obtain rfl : j = 5 := by omega
          have hEc2 : RepE none' wr 1 (lc.map (Dat.int .i64)) ac 0 := RepE.weaken (fun _ _ x => x.elim) _ _ _ _ hIc.rep2
          have hla5 := HL.out.1
          have hlb5 := HL.out.2.1
          have hra5 : ∀ i, i < 5 → 0 ≤ la.getD i 0 ∧ la.getD i 0 < 5 := fun i hi => by
            have h1 : i < la.length := by omega
            have h2 := HL.out.2.2.1 la[i] (List.getElem_mem h1)
            simpa [List.getD, h1] using h2
          have hrb5 : ∀ i, i < 5 → 0 ≤ lb.getD i 0 ∧ lb.getD i 0 < 9 := fun i hi => by
            have h1 : i < lb.length := by omega
            have h2 := HL.out.2.2.2 lb[i] (List.getElem_mem h1)
            simpa [List.getD, h1] using h2
          obtain ⟨x, y, e1, e2, e3, e4, e5, e6, hwx, hwy⟩ := Tm.composes hF (by omega) la lb lc hla5 hlb5 HLC.out.1 hra5 hrb5 HLC.out.2
          have hwt : t.wt ≤ 1000 := by have := hF.wt; omega
          have hsy : y.size ≤ 1000000 := by have := Tm.size_le_wt y; omega
          have S1 := fun c w' cs h h' => ren_any t (by omega) la aa c (by omega) w' cs h h'
          have S2 := fun c w' cs h h' => ren_any x (by omega) lb ab c (by omega) w' cs h h'
          have S3 := fun c w' cs h h' => ren_any t (by omega) lc ac c (by have := HLC.out.1; omega) w' cs h h'
          have Q2 := fun w' cs ds h h' => refSame_any y hsy y w' cs ds h h'
          rw [e1, e2, hla5] at S1
          rw [e3, e4, hlb5] at S2
          rw [e5, e6, HLC.out.1] at S3
          rw [Tm.same_refl] at Q2
          have hA2 := hA.kept hUs
          have hR2 := (rep_pre hR).on hUs
          have hUw2 := hU.and hUs
          clear e1 e2 e3 e4 e5 e6 hwx hwy hF hwt hsy HC hla5 hlb5 hra5 hrb5 hA hR hU hUs hIc hEa hEb
          obtain ⟨x0, x1, x2, x3⟩ := hA2.cells
          have q2 := hA2.lt
          go_wp2_with fail
          refine (S1 _ _ _ hR2 hEa2).mono ?_
          rintro e w3 ⟨k3, i3, n3, a3, len3, cap3, rfl, hR3, hU3⟩
          clear S1 x0 x1 x2 x3
          have hRn := rep_pre hR3
          have hBA3 := hA2.kept hU3
          obtain ⟨w4, hw4⟩ : ∃ w4, w4 = w3.alloc (.cells #[.int .i64 k3, .string (B n3), .int .i64 i3, .slice a3 len3 cap3] 25) := ⟨_, rfl⟩
          have hU4 : Upto none' w3 w4 := by rw [hw4]; exact (Upto.refl none' w3).alloc _
          have hBB4 : Box4 w4 w3.heap.size (.int .i64 k3) (.string (B n3)) (.int .i64 i3) (.slice a3 len3 cap3) 25 := by rw [hw4]; exact Box4.at_new rfl
          have hBA4 := hBA3.kept hU4
          have hRA4 := (hR2.on hU3).on hU4
          have hRB4 := hRn.on hU4
          have hEb2_4 := RepE.on (RepE.on hEb2 hU3) hU4
          have hEc2_4 := RepE.on (RepE.on hEc2 hU3) hU4
          have hUw4 := (hUw2.and hU3).and hU4
          have HW4 := hid hw4
          obtain ⟨x0, x1, x2, x3⟩ := hBB4.cells
          clear hw4 hRn hR3 hU3 hU4 hUw2 hA2 hBA3 hR2
          go_wp2_with fail
          rw [← HW4.out]
          refine (S2 _ _ _ hRB4 hEb2_4).mono ?_
          rintro e w5 ⟨k5, i5, n5, a5, len5, cap5, rfl, hR5, hU5⟩
          clear S2 x0 x1 x2 x3
          have hRn := rep_pre hR5
          have hBA5 := hBA4.kept hU5
          have hBB5 := hBB4.kept hU5
          obtain ⟨w6, hw6⟩ : ∃ w6, w6 = w5.alloc (.cells #[.int .i64 k5, .string (B n5), .int .i64 i5, .slice a5 len5 cap5] 25) := ⟨_, rfl⟩
          have hU6 : Upto none' w5 w6 := by rw [hw6]; exact (Upto.refl none' w5).alloc _
          have hBC6 : Box4 w6 w5.heap.size (.int .i64 k5) (.string (B n5)) (.int .i64 i5) (.slice a5 len5 cap5) 25 := by rw [hw6]; exact Box4.at_new rfl
          have hBA6 := hBA5.kept hU6
          have hBB6 := hBB5.kept hU6
          have hRA6 := (hRA4.on hU5).on hU6
          have hRB6 := (hRB4.on hU5).on hU6
          have hRC6 := hRn.on hU6
          have hEc2_6 := RepE.on (RepE.on hEc2_4 hU5) hU6
          have hUw6 := (hUw4.and hU5).and hU6
          have HW6 := hid hw6
          obtain ⟨x0, x1, x2, x3⟩ := hBA5.cells
          have q5 := hBA5.lt
          clear hw6 hRn hR5 hU5 hU6 hUw4 hBA4 hBA5 hBB4 hBB5 hRA4 hRB4
          go_wp2_with fail
          rw [← HW6.out]
          refine (S3 _ _ _ hRA6 hEc2_6).mono ?_
          rintro e w7 ⟨k7, i7, n7, a7, len7, cap7, rfl, hR7, hU7⟩
          clear S3 x0 x1 x2 x3
          have hRn := rep_pre hR7
          have hBA7 := hBA6.kept hU7
          have hBB7 := hBB6.kept hU7
          have hBC7 := hBC6.kept hU7
          obtain ⟨w8, hw8⟩ : ∃ w8, w8 = w7.alloc (.cells #[.int .i64 k7, .string (B n7), .int .i64 i7, .slice a7 len7 cap7] 25) := ⟨_, rfl⟩
          have hU8 : Upto none' w7 w8 := by rw [hw8]; exact (Upto.refl none' w7).alloc _
          have hBD8 : Box4 w8 w7.heap.size (.int .i64 k7) (.string (B n7)) (.int .i64 i7) (.slice a7 len7 cap7) 25 := by rw [hw8]; exact Box4.at_new rfl
          have hBA8 := hBA7.kept hU8
          have hBB8 := hBB7.kept hU8
          have hBC8 := hBC7.kept hU8
          have hRA8 := (hRA6.on hU7).on hU8
          have hRB8 := (hRB6.on hU7).on hU8
          have hRC8 := (hRC6.on hU7).on hU8
          have hRD8 := hRn.on hU8
          have hUw8 := (hUw6.and hU7).and hU8
          have HW8 := hid hw8
          obtain ⟨x0, x1, x2, x3⟩ := hBC7.cells
          have q7 := hBC7.lt
          clear hw8 hRn hR7 hU7 hU8 hUw6 hBA6 hBA7 hBB6 hBB7 hBC6 hBC7 hRA6 hRB6 hRC6
          go_wp2_with fail
          rw [← HW8.out]
          refine (Q2 _ _ _ hRC8 hRD8).mono ?_
          rintro e w12 ⟨rfl, hU12⟩
          go_wp2_with fail
          refine (awake06 _).mono ?_
          rintro e w13 ⟨rfl, hU13⟩
          go_wp2
          go_ret
          exact ⟨rfl, (hUw8.and hU12).and hU13⟩
end Go.Proofs.YtdcbgkmhlpkjiaaDoor

namespace Go.Proofs.YtdcbgkmhlpkjiaaDoor
open Go.ChangeShapes Go.WideShapes Go.ChangeAt Go.RowKit Go.LF

set_option maxRecDepth 100000 in
theorem renameComposes_lifted (os : Os) (started : os.Started) (H : Type) (enc : TypeId × Value → H) :
    ReturnsInHanded {} Tryd.checked os 16 .any (fun w args => (Rows.renameComposesSpec.pre enc Tryd.prog Tryd.f16 [] false w args ∧ laidMetH Tryd.prog [("lfcheck/lfcheckmade.names", Rows.laid_lfcheck_lfcheckmade_names)] w) ∧ sizedMet enc Tryd.prog Tryd.f16 (OpenSpec.ofChange Rows.renameComposesSpec) false w args)
      (Rows.renameComposesSpec.post enc Tryd.prog Tryd.f16 false true false false) := by
  refine returnsInHanded_of_change_and (C := Tryd.checked) (X := fun w _ => laidMetH Tryd.prog [("lfcheck/lfcheckmade.names", Rows.laid_lfcheck_lfcheckmade_names)] w) (fun _ _ _ hh h => h.of_heap hh) own started (by kernel_rfl) Tryd.func16
    (ChangeSpec.witness_shaped (enc := enc) (C := Tryd.checked) (os := os) (X := fun w _ => laidMetH Tryd.prog [("lfcheck/lfcheckmade.names", Rows.laid_lfcheck_lfcheckmade_names)] w) false (World.doorLaid Tryd.prog 400 os) #[.slice none 0 0, .agg #[.int .i64 0, .int .i64 0, .int .i64 0, .int .i64 0, .int .i64 0], .agg #[.int .i64 0, .int .i64 0, .int .i64 0, .int .i64 0, .int .i64 0]] 8 rfl (World.shaped_of_RefB (by kernel_rfl) (by kernel_rfl)) (by kernel_rfl) (by kernel_rfl) (by kernel_rfl) (door_met os _)) ?_
  intro W base args ds gs before hval0 hW _ hsz0 hL _
  have hsz : (DataW.weightsEach Tryd.prog (Tryd.f16.params.toList ++ Rows.renameComposesSpec.plain.varTypes Tryd.prog) (ds ++ gs)).all (· ≤ reachBytes) = true := hsz0
  clear hsz0
  have hval : ∀ (j : Nat) t v, Tryd.f16.params[j]? = some t → args[j]? = some v → Value.okWide Tryd.prog W .any base t v := hval0
  have hW' := hW
  obtain ⟨p, q, hA0, hV, rfl, hfz, hnd⟩ := hW
  have hA : DataW.TrodAll enc Tryd.prog W 0 (fun _ => true) true Tryd.f16.params.toList args.toList ds p := hA0
  rw [Tryd.params16] at hA hval hsz
  obtain ⟨v0, vs0, d0, ds0, p0, q0, hargs, rfl, rfl, h0, r0⟩ := trodAll_cons hA
  obtain ⟨v1, vs1, d1, ds1, p1, q1, rfl, rfl, rfl, h1, r1⟩ := trodAll_cons r0
  obtain ⟨v2, vs2, d2, ds2, p2, q2, rfl, rfl, rfl, h2, r2⟩ := trodAll_cons r1
  obtain ⟨rfl, rfl, rfl⟩ := trodAll_nil r2
  obtain rfl : args = #[v0, v1, v2] := Array.ext' hargs
  obtain ⟨rfl, rfl⟩ := trodVars_none hV
  clear hA0 hval0
  simp only [List.append_nil] at hW'
  have hlt : ∀ x, x ∈ p0 ∨ x ∈ p1 ∨ x ∈ p2 → x.block < W.heap.size := fun x hx => hW'.lt x (by simpa [List.mem_append, or_assoc] using hx)
  have hNR := names_of_laid hL
  have h0k := h0
  obtain ⟨a0, len0, cap0, rfl⟩ := okWide_slice Tryd.underlying22 (hval 0 22 v0 rfl rfl)
  obtain ⟨l0, hl0, _, hlen0, hE0⟩ := ints_arg h0 hsz (j := 0) rfl rfl
  have h1k := h1
  obtain ⟨x1_0, x1_1, x1_2, x1_3, x1_4, rfl⟩ := arr5_arg (hval 1 72 v1 rfl rfl) h1
  have h2k := h2
  obtain ⟨x2_0, x2_1, x2_2, x2_3, x2_4, rfl⟩ := arr5_arg (hval 2 72 v2 rfl rfl) h2
  refine (renComp_walk l0 a0 len0 cap0 hl0 hlen0 x1_0 x1_1 x1_2 x1_3 x1_4 x2_0 x2_1 x2_2 x2_3 x2_4 W hE0 hNR).mono fun e W' ⟨he, hU⟩ => ?_
  subst he
  have hb := Upto.toBelow hU
  exact ⟨_, rfl, _, _, _, [], _, [], hW', (trodAll_cons_mk (shut_bool Tryd.underlying4 _) trodAll_mk0), (trodAll_cons_mk (Below.trod laidOut (by kernel_rfl) (of_decide_eq_true (by kernel_rfl)) h0k hb (fun x hx => hlt x (by simp [hx]))) (trodAll_cons_mk (Below.trod laidOut (by kernel_rfl) (of_decide_eq_true (by kernel_rfl)) h1k hb (fun x hx => hlt x (by simp [hx]))) (trodAll_cons_mk (Below.trod laidOut (by kernel_rfl) (of_decide_eq_true (by kernel_rfl)) h2k hb (fun x hx => hlt x (by simp [hx]))) trodAll_mk0))), rfl, hb.frame _, fun h => by cases h⟩

theorem renameComposes_holds : Rows.RenameComposesSaid :=
  OpenClaim.holds_of_wide 16 Tryd.f16 rfl rfl rfl rfl rfl rfl rfl ⟨rfl, rfl, rfl, rfl, rfl⟩ rfl rfl rfl rfl rfl (by kernel_rfl) Tryd.func16 (by kernel_rfl)
    (of_decide_eq_true (by kernel_rfl)) (by unfold Func.isWrapper; first | (rw [if_pos (by decide +kernel)]; kernel_rfl) | (rw [if_neg (by decide +kernel)]; exact ⟨rfl, rfl⟩))
    (fun os started H enc _ => renameComposes_lifted os started H enc)

theorem renameComposes_card_holds : Rows.RenameComposesCardSaid :=
  Claim7.holds_tied_plain_at .later [] [.data] true Rows.renameComposesCard.stood.harness false
    renameComposes_holds (fun _ h => by cases h) (by kernel_rfl) (fun _ h => by cases h) renameComposes_row_tie rfl ⟨rfl, rfl⟩ (by kernel_rfl) rfl
    (fun f fn hf hfn => by
      obtain rfl : f = 16 := Option.some.inj ((show Tryd.prog.funcNamed Rows.renameComposesRow.func = some 16 by kernel_rfl).symm.trans hf) |>.symm
      obtain rfl : fn = Tryd.f16 := (Option.some.inj (Tryd.func16.symm.trans hfn)).symm
      exact ⟨by kernel_rfl, fun j t ht => by
        rw [Tryd.params16] at ht
        have hm : t ∈ [22, 72, 72] := by simpa using Array.mem_of_getElem? ht
        have hall : ([22, 72, 72].all fun u => !Tryd.prog.wantsStandIn u) = true := by kernel_rfl
        exact (show Tryd.prog.wantsStandIn t = false by simpa using List.all_eq_true.1 hall t hm)⟩)
    (by kernel_rfl)
end Go.Proofs.YtdcbgkmhlpkjiaaDoor
