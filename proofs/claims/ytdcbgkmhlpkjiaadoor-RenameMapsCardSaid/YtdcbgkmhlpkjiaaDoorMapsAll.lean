/- For every input RenameMaps returns true, and each argument reads afterwards as it read before; the package's names of binders are as its own text lays them (the card ties that). No other conditions. -/
import Derived.Test.YtdcbgkmhlpkjiaaDoorArgs
import Derived.Test.YtdcbgkmhlpkjiaaDoorRen06A
import Derived.Test.YtdcbgkmhlpkjiaaDoorRefA
import Derived.Test.YtdcbgkmhlpkjiaaDoorRefWf
import Derived.Test.YtdcbgkmhlpkjiaaDoorMade05All
import Derived.Test.YtdcbgkmhlpkjiaaDoorRefSame
import Derived.Test.YtdcbgkmhlpkjiaaDoorCards
import Derived.Test.YtdcbgkmhlpkjiaaDoorTie
import Derived.Deep.RegionHeld3
import Derived.Deep.CutRange
import Derived.Deep.AppendLies
/- Arguments that are arrays of numbers. -/
namespace Go.Proofs.YtdcbgkmhlpkjiaaDoor
open Go.ChangeShapes Go.WideShapes Go.ChangeAt Go.RowKit Go.LF

theorem ints_of_cells : ∀ (l : List Value), (∀ i, i < l.length → ∃ a : Int, l[i]? = some (.int .i64 a)) → ∃ xs : List Int, l = xs.map (Value.int .i64)
  | [], _ => ⟨[], rfl⟩
  | v :: l, h => by
    obtain ⟨a, ha⟩ := h 0 (by simp)
    obtain ⟨xs, hx⟩ := ints_of_cells l (fun i hi => by simpa using h (i + 1) (by simp; omega))
    simp at ha
    exact ⟨a :: xs, by simp [ha, hx]⟩
set_option maxRecDepth 100000 in
theorem arr_arg {H : Type} {enc : TypeId × Value → H} {W : World} {v : Value} {d : DataW H} {p : List MemPlace} {k : TypeId} {n b0 : Nat} (hu : Tryd.prog.underlying k = some (.array n 3)) (hk : Tryd.prog.cellsOf k = n)
    (hval : Value.okWide Tryd.prog W .any b0 k v) (hd : DataW.Trod enc Tryd.prog W 0 (fun _ => true) true k v d p) : ∃ xs : List Int, xs.length = n ∧ v = .agg (xs.map (Value.int .i64)).toArray := by
  simp only [Value.okWide, hu] at hval
  obtain ⟨cs, rfl, _, _⟩ := hval
  obtain ⟨fuel, hf⟩ := hd
  obtain ⟨ys, m, _, _, hc, hy, hz⟩ := DataW.trod_array hu hf
  simp only [cells_int, Nat.mul_one] at hz
  have hcl : (Value.agg cs).cells.toList = cs.toList := by simp [Value.cells]
  have key : ∀ i, i < n → ∃ a : Int, cs.toList[i]? = some (.int .i64 a) := by
    intro i hi
    have h1 := hz i hi
    rw [List.getElem?_eq_getElem (show i < ys.length by omega)] at h1
    obtain ⟨a, ea, _, _⟩ := DataW.trod_int Tryd.underlying3 h1
    rw [hcl] at ea
    have h0 : ((cs.toList.drop i).take 1)[0]? = some (.int .i64 a) := by rw [ea]; rfl
    rw [List.getElem?_take_of_lt (by omega), List.getElem?_drop, Nat.add_zero] at h0
    exact ⟨a, h0⟩
  have hn : cs.toList.length = n := by rw [← hcl, hc, hk]
  obtain ⟨xs, hx⟩ := ints_of_cells cs.toList (fun i hi => key i (by omega))
  refine ⟨xs, ?_, ?_⟩
  · rw [← hn, hx]; simp
  · rw [← hx]
set_option maxRecDepth 100000 in
theorem arr2_arg {H : Type} {enc : TypeId × Value → H} {W : World} {v : Value} {d : DataW H} {p : List MemPlace} {b0 : Nat} (hval : Value.okWide Tryd.prog W .any b0 58 v) (hd : DataW.Trod enc Tryd.prog W 0 (fun _ => true) true 58 v d p) :
    ∃ x0 x1 : Int, v = .agg #[.int .i64 x0, .int .i64 x1] := by
  obtain ⟨xs, h1, h2⟩ := arr_arg (n := 2) Tryd.underlying58 (by kernel_rfl) hval hd
  match xs, h1 with
  | [x0, x1], _ => exact ⟨x0, x1, h2⟩
set_option maxRecDepth 100000 in
theorem arr5_arg {H : Type} {enc : TypeId × Value → H} {W : World} {v : Value} {d : DataW H} {p : List MemPlace} {b0 : Nat} (hval : Value.okWide Tryd.prog W .any b0 72 v) (hd : DataW.Trod enc Tryd.prog W 0 (fun _ => true) true 72 v d p) :
    ∃ x0 x1 x2 x3 x4 : Int, v = .agg #[.int .i64 x0, .int .i64 x1, .int .i64 x2, .int .i64 x3, .int .i64 x4] := by
  obtain ⟨xs, h1, h2⟩ := arr_arg (n := 5) Tryd.underlying72 (by kernel_rfl) hval hd
  match xs, h1 with
  | [x0, x1, x2, x3, x4], _ => exact ⟨x0, x1, x2, x3, x4, h2⟩
end Go.Proofs.YtdcbgkmhlpkjiaaDoor

/- RenameBack, RenameInverts, RenameComposes, as plain data. -/
namespace Go.LF.Tm

theorem mvok_of (f : To) (t : Tm) (h : ∀ x ∈ nodes 0 t, x.k = 5 → x.b ≤ x.i → (f (x.i - x.b)).2 = true ∧ 0 ≤ (f (x.i - x.b)).1 ∧ (f (x.i - x.b)).1 ≤ 1048576 - x.b) : mvok f 0 t = true := by
  rw [mvok_nodes, List.all_eq_true]
  intro x hx
  unfold oki
  by_cases hk : x.k = 5 ∧ x.b ≤ x.i
  · obtain ⟨h1, h2, h3⟩ := h x hx hk.1 hk.2
    simp [h1, h2, h3]
  · have : (x.k == 5 && decide (x.b ≤ x.i)) = false := by rw [Bool.eq_false_iff]; intro e; exact hk (by simpa using e)
    rw [this]; rfl
theorem mvok_mv_of (f g : To) (t : Tm) (h : ∀ x ∈ nodes 0 t, x.k = 5 → x.b ≤ x.i → 0 ≤ (f (x.i - x.b)).1 ∧ (g (f (x.i - x.b)).1).2 = true ∧ 0 ≤ (g (f (x.i - x.b)).1).1 ∧ (g (f (x.i - x.b)).1).1 ≤ 1048576 - x.b) : mvok g 0 (mv f 0 t) = true := by
  refine mvok_of g _ ?_
  rw [nodes_mv]
  intro y hy
  obtain ⟨x, hx, rfl⟩ := List.mem_map.1 hy
  simp only
  intro h5 hbi
  unfold mvi at hbi ⊢
  by_cases hk : x.k = 5 ∧ x.b ≤ x.i
  · rw [if_pos hk]
    obtain ⟨h1, h2, h3, h4⟩ := h x hx hk.1 hk.2
    rw [show (f (x.i - x.b)).1 + x.b - x.b = (f (x.i - x.b)).1 by omega]
    exact ⟨h2, h3, h4⟩
  · rw [if_neg hk] at hbi
    exact absurd ⟨h5, hbi⟩ hk
theorem mvi_eq {f g : To} {x : Nd0} (h : x.k = 5 → x.b ≤ x.i → (f (x.i - x.b)).1 = (g (x.i - x.b)).1) : mvi f x.b x.k x.i = mvi g x.b x.k x.i := by
  unfold mvi
  by_cases hk : x.k = 5 ∧ x.b ≤ x.i
  · rw [if_pos hk, if_pos hk, h hk.1 hk.2]
  · rw [if_neg hk, if_neg hk]
/-- The free variables of a term that a law makes, and the binders around its nodes. -/
theorem FitsA.free {t : Tm} {sz v m : Nat} (h : FitsA t sz v m) (hs : sz ≤ 4096) : ∀ x ∈ nodes 0 t, x.k = 5 → x.b ≤ x.i → 0 ≤ x.i - x.b ∧ x.i - x.b < v ∧ 0 ≤ x.b ∧ x.b ≤ 4096 := by
  intro x hx hk hb
  have h1 := free_lt t x hx hk
  have h2 := nodes_b t 0 x hx
  have := h.scope
  have := h.size
  omega
theorem shiftF_small {a c v : Int} (ha : 0 ≤ a) (ha2 : a ≤ 1048576) (hv : 0 ≤ v) (hv2 : v ≤ 1048576) : shiftF a c v = (if v < c then v else v + a, true) := by
  unfold shiftF
  by_cases h : v < c
  · rw [if_pos h, if_pos h]
  · rw [if_neg h, if_neg h, decide_eq_true ha2]
    congr 1
    unfold Go.RowKit.wrap64
    omega

theorem back {t : Tm} {sz m : Nat} (h : FitsA t sz 5 m) (hs : sz ≤ 4096) (a b c : Nat) (ha : a ≤ 8) (hb : b ≤ 8) (hc : c ≤ 6) :
    ∃ x y : Tm, t.shiftE a c = 0 ∧ t.shiftT a c = x ∧ x.lowerB c a = true ∧ x.lowerT c a = t ∧ x.shiftE b c = 0 ∧ x.shiftT b c = y ∧ t.shiftE ((a + b : Nat) : Int) c = 0 ∧ t.shiftT ((a + b : Nat) : Int) c = y ∧ x.wt = t.wt ∧ y.wt = t.wt := by
  have hf := h.free hs
  have hw := h.wf hs
  have sh : ∀ (t : Tm) (d : Nat), t.wf = 0 → mvok (shiftF d c) 0 t = true → t.shiftE d c = 0 ∧ t.shiftT d c = mv (shiftF d c) 0 t := by
    intro t d hw hm
    have e : t.shiftE d c = 0 := by unfold shiftE; rw [hw, if_neg (by omega), if_neg (by omega), hm]; rfl
    exact ⟨e, by unfold shiftT; rw [e, if_pos rfl]⟩
  have ok1 : ∀ d : Nat, d ≤ 100 → mvok (shiftF d c) 0 t = true := by
    intro d hd
    refine mvok_of _ _ (fun x hx hk hb => ?_)
    have := hf x hx hk hb
    rw [shiftF_small (by omega) (by omega) (by omega) (by omega)]
    refine ⟨rfl, ?_⟩
    simp only
    split <;> omega
  have wx : (mv (shiftF a c) 0 t).wf = 0 := wf_mv _ _ hw (ok1 a (by omega))
  have ok2 : mvok (shiftF b c) 0 (mv (shiftF a c) 0 t) = true := by
    refine mvok_mv_of _ _ _ (fun x hx hk hb => ?_)
    have := hf x hx hk hb
    rw [shiftF_small (a := a) (by omega) (by omega) (by omega) (by omega)]
    simp only
    by_cases hv : x.i - x.b < (c : Int)
    · rw [if_pos hv, shiftF_small (by omega) (by omega) (by omega) (by omega), if_pos hv]
      refine ⟨by omega, rfl, ?_, ?_⟩ <;> simp only <;> omega
    · rw [if_neg hv, shiftF_small (by omega) (by omega) (by omega) (by omega), if_neg (by omega)]
      refine ⟨by omega, rfl, ?_, ?_⟩ <;> simp only <;> omega
  have nn : ∀ x ∈ nodes 0 t, x.k = 5 → x.b ≤ x.i → 0 ≤ (shiftF a c (x.i - x.b)).1 := by
    intro x hx hk hb
    have := hf x hx hk hb
    rw [shiftF_small (by omega) (by omega) (by omega) (by omega)]
    simp only
    split <;> omega
  have ok3 : mvok (lowerF c a) 0 (mv (shiftF a c) 0 t) = true := by
    refine mvok_mv_of _ _ _ (fun x hx hk hb => ?_)
    have := hf x hx hk hb
    rw [shiftF_small (a := a) (by omega) (by omega) (by omega) (by omega)]
    simp only
    unfold lowerF
    by_cases hv : x.i - x.b < (c : Int)
    · rw [if_pos hv, if_pos hv]
      refine ⟨by omega, rfl, ?_, ?_⟩ <;> simp only <;> omega
    · rw [if_neg hv, if_neg (by omega)]
      refine ⟨by omega, by simp only [decide_eq_true_eq]; omega, ?_, ?_⟩ <;> simp only <;> omega
  obtain ⟨e1, e2⟩ := sh t a hw (ok1 a (by omega))
  obtain ⟨e3, e4⟩ := sh _ b wx ok2
  obtain ⟨e5, e6⟩ := sh t (a + b) hw (ok1 (a + b) (by omega))
  have hlB : (mv (shiftF a c) 0 t).lowerB c a = true := by unfold lowerB; rw [ok3, wx, decide_eq_true (by omega), decide_eq_true (by omega)]; rfl
  refine ⟨_, _, e1, e2, hlB, ?_, e3, e4, e5, ?_, wt_mv _ _ _, by rw [wt_mv, wt_mv]⟩
  · unfold lowerT
    rw [hlB, if_pos rfl, mv_mv _ _ _ _ nn]
    refine mv_id _ _ _ (fun x hx => ?_)
    refine (mvi_eq (g := fun i => (i, true)) (fun hk hb => ?_)).trans (mvi_id _ _ _)
    have := hf x hx hk hb
    rw [shiftF_small (by omega) (by omega) (by omega) (by omega)]
    simp only
    unfold lowerF
    by_cases hv : x.i - x.b < (c : Int)
    · rw [if_pos hv, if_pos hv]
    · rw [if_neg hv, if_neg (by omega)]; simp only; omega
  · rw [e6, mv_mv _ _ _ _ nn]
    refine mv_congr _ _ _ _ (fun x hx => mvi_eq (fun hk hb => ?_))
    have := hf x hx hk hb
    rw [shiftF_small (by omega) (by omega) (by omega) (by omega), shiftF_small (a := a) (by omega) (by omega) (by omega) (by omega)]
    simp only
    by_cases hv : x.i - x.b < (c : Int)
    · rw [if_pos hv, if_pos hv, shiftF_small (by omega) (by omega) (by omega) (by omega), if_pos hv]
    · rw [if_neg hv, if_neg hv, shiftF_small (by omega) (by omega) (by omega) (by omega), if_neg (by omega)]; simp only; omega
end Go.LF.Tm

/- The reference's rename. -/
namespace Go.Proofs.YtdcbgkmhlpkjiaaDoor
open Go.RowKit Go.LF

/-- A renamed term; no term where there is none. -/
def _root_.Go.LF.Tm.mvz (f : Tm.To) (b : Int) (t : Tm) : Tm := if t.mvok f b then t.mv f b else .mk 0 [] 0 []
theorem _root_.Go.LF.Tm.mvz_no {f : Tm.To} {b : Int} {t : Tm} (h : t.mvok f b = false) : t.mvz f b = .mk 0 [] 0 [] := by unfold Tm.mvz; rw [h]; rfl
theorem _root_.Go.LF.Tm.mvz_yes {f : Tm.To} {b : Int} {t : Tm} (h : t.mvok f b = true) : t.mvz f b = t.mv f b := by unfold Tm.mvz; rw [h]; rfl
/-- What a round of the reference's functions needs of a world: the variable t, and an argument of it. -/
abbrev RfS (tb eb eo : Nat) (c0 c1 c2 c3 d0 d1 d2 d3 : Value) (w' : World) : Prop :=
  TcS tb c0 c1 c2 c3 w' ∧ w'.cell? ⟨eb, eo, none⟩ = some d0 ∧ w'.cell? ⟨eb, eo + 1, none⟩ = some d1 ∧ w'.cell? ⟨eb, eo + 2, none⟩ = some d2 ∧ w'.cell? ⟨eb, eo + 3, none⟩ = some d3
theorem RfS.keep {tb eb eo : Nat} {c0 c1 c2 c3 d0 d1 d2 d3 : Value} {w w' : World} {S : Nat → Prop} (h : RfS tb eb eo c0 c1 c2 c3 d0 d1 d2 d3 w) (hU : Upto S w w') (h1 : ¬ S tb) (h2 : ¬ S eb) : RfS tb eb eo c0 c1 c2 c3 d0 d1 d2 d3 w' :=
  ⟨h.1.keep hU h1, hU.cell h.2.1 h2, hU.cell h.2.2.1 h2, hU.cell h.2.2.2.1 h2, hU.cell h.2.2.2.2 h2⟩
theorem RfS.on {tb eb eo : Nat} {c0 c1 c2 c3 d0 d1 d2 d3 : Value} {w w' : World} (h : RfS tb eb eo c0 c1 c2 c3 d0 d1 d2 d3 w) (hU : Upto none' w w') : RfS tb eb eo c0 c1 c2 c3 d0 d1 d2 d3 w' := h.keep hU (fun x => x) (fun x => x)
theorem RfS.new {tb eb eo : Nat} {c0 c1 c2 c3 d0 d1 d2 d3 : Value} {w : World} (h : RfS tb eb eo c0 c1 c2 c3 d0 d1 d2 d3 w) (o : Obj) : RfS tb eb eo c0 c1 c2 c3 d0 d1 d2 d3 (w.alloc o) := h.on ((Upto.refl none' w).alloc o)
theorem RfS.set {tb eb eo r : Nat} {c0 c1 c2 c3 d0 d1 d2 d3 : Value} {w : World} (h : RfS tb eb eo c0 c1 c2 c3 d0 d1 d2 d3 w) (h1 : tb ≠ r) (h2 : eb ≠ r) (o : Nat) (v : Value) : RfS tb eb eo c0 c1 c2 c3 d0 d1 d2 d3 (w.setCell ⟨r, o, none⟩ v) := h.keep (Upto.set (Upto.refl _ w) o v) h1 h2

set_option maxRecDepth 100000 in
set_option maxHeartbeats 16000000 in
theorem refRen_any (l : List Int) (la : Option Addr) (lc : Nat) (hl : l.length ≤ 1000000) (t : Tm) : t.size ≤ 100000 → (∀ b, ∀ x ∈ t.nodes b, x.ok) → ∀ (b : Int) (w : World) (cs : List Value), 0 ≤ b → b + t.size ≤ 1000000 → Rep none' w t.dat cs → RepE none' w 1 (l.map (Dat.int .i64)) la 0 →
    Calls Tryd.prog 107 #[.agg cs.toArray, .slice la l.length lc, .int .i64 b] w (Gives (t.mvz (Tm.renF l) b) (.bool (t.mvok (Tm.renF l) b)) w) := by
  induction t using Tm.ind with
  | h k nm i ts ih =>
    intro hsz hok b w cs h0 h1 hR hE2
    obtain ⟨a, cap, rfl, hcap, hE⟩ := rep_tm.1 hR
    have hlen := Tm.length_le_sizes ts
    simp only [Tm.size_mk] at hsz h1
    have hoks := Tm.args_ok hok
    have hno := hok b
    rw [Tm.nodes_mk] at hno
    have hi5 : k = 5 → 0 ≤ i ∧ i ≤ 1048576 := fun e => (hno _ (List.mem_cons_self ..)).1 (by simp [e])
    obtain ⟨i0, hi, hi0, hi1, hi2⟩ := info_parts info_term
    obtain ⟨w2, hw2⟩ : ∃ w2, w2 = ((w.alloc (.cells #[.int .i64 k, .string (B nm), .int .i64 i, .slice a ts.length cap] 25)).alloc (.cells #[.int .i64 0, .string (B []), .int .i64 0, .slice none 0 0] 25)).alloc (.cells #[.int .i64 k, .string (B nm), .int .i64 i, .slice none 0 0] 25) := ⟨_, rfl⟩
    have hU2 : Upto none' w w2 := by rw [hw2]; exact (((Upto.refl none' w).alloc _).alloc _).alloc _
    have ht2 : Box4 w2 w.heap.size (.int .i64 k) (.string (B nm)) (.int .i64 i) (.slice a ts.length cap) 25 := by rw [hw2]; exact ((Box4.at_new rfl).kept ((Upto.refl none' _).alloc _)).kept ((Upto.refl none' _).alloc _)
    have hr2 : Box4 w2 (w.heap.size + 1) (.int .i64 0) (.string (B [])) (.int .i64 0) (.slice none 0 0) 25 := by rw [hw2]; exact (Box4.at_new (by simp)).kept ((Upto.refl none' _).alloc _)
    have ho2 : Box4 w2 (w.heap.size + 1 + 1) (.int .i64 k) (.string (B nm)) (.int .i64 i) (.slice none 0 0) 25 := by rw [hw2]; exact Box4.at_new (by simp)
    obtain ⟨t0, t1, t2, t3⟩ := ht2.cells
    obtain ⟨o0, o1, o2, o3⟩ := ho2.cells
    obtain ⟨f0, f1, f2, f3⟩ := ho2.frozens
    obtain ⟨s0, s1, s2, s3⟩ := hr2.cells
    obtain ⟨g0, g1, g2, g3⟩ := hr2.frozens
    have hz2 := ho2.lt
    have HW2 := hid hw2
    have HW := hid (And.intro hsz h1)
    obtain ⟨cv, hcv⟩ : ∃ c, c = (k == 5 && decide (b ≤ i)) := ⟨_, rfl⟩
    have hways : ((k == 5) = true ∧ b ≤ i) ∨ ((k == 5) = true ∧ ¬ b ≤ i) ∨ (k == 5) = false := by
      by_cases h : k = 5
      · by_cases h' : b ≤ i
        · exact .inl ⟨by simp [h], h'⟩
        · exact .inr (.inl ⟨by simp [h], h'⟩)
      · exact .inr (.inr (by simp [h]))
    have HC := hid hcv
    have HY := hid hways
    have HI5 := hid hi5
    clear hw2 hR hno hok hcv hways hi5
    go_enter Tryd.func107, Tryd.ntmps107
    go_upto_region 2 with fail
    rw [← HW2.out]
    go_cut [28] from 13 to 28 (fun vc wx => vc = .bool cv ∧ w2 = wx)
    case first =>
      rcases HY.out with ⟨h5, hbi⟩ | ⟨h5, hbi⟩ | h5
      case' inl => have hi6 := HI5.out (by simpa using h5)
      case' inr.inl => have hi6 := HI5.out (by simpa using h5)
      all_goals
        try simp only [Int.not_le] at hbi
        go_wp2_with fail
        go_meet
        case rel => exact ⟨by rw [HC.out]; simp [h5] <;> omega, rfl⟩
    case rest =>
      obtain ⟨rfl, rfl⟩ := hcut
      go_upto_if 28 with fail
      go_cut [] from 13 to 60 (fun wc => Tm.oki (Tm.renF l) b k i = true ∧ Box4 wc w.heap.size (.int .i64 k) (.string (B nm)) (.int .i64 i) (.slice a ts.length cap) 25 ∧ Box4 wc (w.heap.size + 1) (.int .i64 0) (.string (B [])) (.int .i64 0) (.slice none 0 0) 25 ∧
        Box4 wc (w.heap.size + 1 + 1) (.int .i64 k) (.string (B nm)) (.int .i64 (Tm.mvi (Tm.renF l) b k i)) (.slice none 0 0) 25 ∧ Upto none' w wc)
      case first =>
        cases cv
        · go_wp2_with fail
          go_meet
          case rel =>
            have hc := HC.out
            have e : Tm.mvi (Tm.renF l) b k i = i ∧ Tm.oki (Tm.renF l) b k i = true := by
              unfold Tm.mvi Tm.oki
              by_cases hk : k = 5 ∧ b ≤ i
              · exact absurd hc (by simp [hk.1, hk.2])
              · have e2 : (k == 5 && decide (b ≤ i)) = false := hc.symm
                rw [if_neg hk, e2]
                exact ⟨rfl, rfl⟩
            exact ⟨e.2, ht2, hr2, by rw [e.1]; exact ho2, hU2⟩
        · have hki : k = 5 ∧ b ≤ i := by have := HC.out; simpa using this.symm
          obtain ⟨hk5, hbi⟩ := hki
          have hi6 := HI5.out hk5
          clear HI5
          obtain ⟨v, hv⟩ : ∃ v : Nat, i = b + v := ⟨(i - b).toNat, by omega⟩
          have hiv : i - b = (v : Int) := by omega
          have hv0 : (0 : Int) ≤ (v : Int) := by omega
          have hv1 : (v : Int) ≤ 1048576 := by omega
          have hmk : ∀ o, Tm.oki (Tm.renF l) b k i = o → (o = false → Tm.mvok (Tm.renF l) b (.mk k nm i ts) = false) := by
            intro o ho e
            rw [Tm.mvok_mk, ho, e, Bool.false_and]
          by_cases hvl : v < l.length
          · obtain ⟨lb, lo, rfl, _, _, hcl⟩ := int_cell (hE2.on hU2) v hvl
            have hrf : Tm.renF l (i - b) = (l[v], true) := by rw [hiv]; unfold Tm.renF; rw [Int.toNat_natCast, List.getElem?_eq_getElem hvl]
            have hokv : Tm.oki (Tm.renF l) b k i = (decide (0 ≤ l[v]) && decide (l[v] ≤ 1048576 - b)) := by unfold Tm.oki; rw [hrf, hk5]; simp [hbi]
            have hmiv : Tm.mvi (Tm.renF l) b k i = l[v] + b := by unfold Tm.mvi; rw [if_pos ⟨hk5, hbi⟩, hrf]
            have hvl2 : (v : Int) < (l.length : Int) := by omega
            have hn : l[v] < 0 ∨ (0 ≤ l[v] ∧ 1048576 - b < l[v]) ∨ (0 ≤ l[v] ∧ l[v] ≤ 1048576 - b) := by omega
            generalize l[v] = x at *
            have HHV := hid (And.intro hokv (And.intro hmiv hmk))
            have HIV := hid hiv
            clear hokv hmiv hrf hmk hv hk5
            rcases hn with hn | ⟨hn, hn2⟩ | ⟨hn, hn2⟩
            · have HMB := hid (HHV.out.2.2 _ HHV.out.1 (by simp; omega))
              go_wp2_with fail
              obtain ⟨w8, hw8⟩ : ∃ w8, w8 = (((w2.setCell ⟨w.heap.size + 1, 0, none⟩ (.int .i64 0)).setCell ⟨w.heap.size + 1, 1, none⟩ (.string (B []))).setCell ⟨w.heap.size + 1, 2, none⟩ (.int .i64 0)).setCell ⟨w.heap.size + 1, 3, none⟩ (.slice none 0 0) := ⟨_, rfl⟩
              obtain ⟨hG, hB9⟩ := gives_set (r := .bool false) hr2 (by omega) hU2 (rep_leaf (k := 0) (n := []) (i := 0)) hw8
              try rw [← show B [] = { data := #[] } from rfl]
              rw [← hw8]
              clear hw8
              obtain ⟨e0, e1, e2, e3⟩ := hB9.cells
              refine bodyPost_ret (v := .tuple #[.agg #[.int .i64 0, .string (B []), .int .i64 0, .slice none 0 0], .bool false]) ?_ rfl ?_
              · simp [results, Tryd.f107, go_sem, e0, e1, e2, e3]
              · rw [Tm.mvz_no HMB.out, HMB.out]; exact hG
            · have HMB := hid (HHV.out.2.2 _ HHV.out.1 (by simp; omega))
              go_wp2_with fail
              obtain ⟨w8, hw8⟩ : ∃ w8, w8 = (((w2.setCell ⟨w.heap.size + 1, 0, none⟩ (.int .i64 0)).setCell ⟨w.heap.size + 1, 1, none⟩ (.string (B []))).setCell ⟨w.heap.size + 1, 2, none⟩ (.int .i64 0)).setCell ⟨w.heap.size + 1, 3, none⟩ (.slice none 0 0) := ⟨_, rfl⟩
              obtain ⟨hG, hB9⟩ := gives_set (r := .bool false) hr2 (by omega) hU2 (rep_leaf (k := 0) (n := []) (i := 0)) hw8
              try rw [← show B [] = { data := #[] } from rfl]
              rw [← hw8]
              clear hw8
              obtain ⟨e0, e1, e2, e3⟩ := hB9.cells
              refine bodyPost_ret (v := .tuple #[.agg #[.int .i64 0, .string (B []), .int .i64 0, .slice none 0 0], .bool false]) ?_ rfl ?_
              · simp [results, Tryd.f107, go_sem, e0, e1, e2, e3]
              · rw [Tm.mvz_no HMB.out, HMB.out]; exact hG
            · go_wp2_with fail
              go_meet
              case rel => exact ⟨by rw [HHV.out.1]; simp; omega, ht2.other (by omega) _, hr2.other (by omega) _, by rw [HHV.out.2.1]; exact ho2.set2 _, hU2.trans (Upto.set (Upto.refl _ _) 2 _) (fun x hx e => by omega)⟩
          · have hrf : Tm.renF l (i - b) = (0, false) := by rw [hiv]; unfold Tm.renF; rw [Int.toNat_natCast, List.getElem?_eq_none (by omega)]
            have hokv : Tm.oki (Tm.renF l) b k i = false := by unfold Tm.oki; rw [hrf, hk5]; simp [hbi]
            have hvl2 : ¬ (v : Int) < (l.length : Int) := by omega
            have HMB := hid (hmk _ hokv rfl)
            have HIV := hid hiv
            clear hmk hokv hrf hv hk5
            go_wp2_with fail
            obtain ⟨w8, hw8⟩ : ∃ w8, w8 = (((w2.setCell ⟨w.heap.size + 1, 0, none⟩ (.int .i64 0)).setCell ⟨w.heap.size + 1, 1, none⟩ (.string (B []))).setCell ⟨w.heap.size + 1, 2, none⟩ (.int .i64 0)).setCell ⟨w.heap.size + 1, 3, none⟩ (.slice none 0 0) := ⟨_, rfl⟩
            obtain ⟨hG, hB9⟩ := gives_set (r := .bool false) hr2 (by omega) hU2 (rep_leaf (k := 0) (n := []) (i := 0)) hw8
            try rw [← show B [] = { data := #[] } from rfl]
            rw [← hw8]
            clear hw8
            obtain ⟨e0, e1, e2, e3⟩ := hB9.cells
            refine bodyPost_ret (v := .tuple #[.agg #[.int .i64 0, .string (B []), .int .i64 0, .slice none 0 0], .bool false]) ?_ rfl ?_
            · simp [results, Tryd.f107, go_sem, e0, e1, e2, e3]
            · rw [Tm.mvz_no HMB.out, HMB.out]; exact hG

      case rest =>
        obtain ⟨hoki, htp, hrp, hop, hUp⟩ := hcut
        clear t0 t1 t2 t3 o0 o1 o2 o3 f0 f1 f2 f3 s0 s1 s2 s3 g0 g1 g2 g3 ht2 hr2 ho2 hU2
        obtain ⟨mi, hmi⟩ : ∃ mi, mi = Tm.mvi (Tm.renF l) b k i := ⟨_, rfl⟩
        rw [← hmi] at hop
        have HMI := hid (And.intro hmi hoki)
        have hbase : w.heap.size + 1 + 1 < wc.heap.size := hop.lt
        obtain ⟨wp, rfl⟩ : ∃ wp, wp = wc := ⟨_, rfl⟩
        clear hmi hoki
        go_wp2_with fail
        go_loopw [10] (fun vj wr => ∃ (j : Nat) (v : Value) (css : List (List Value)), vj = .int .i64 j ∧ j ≤ ts.length ∧ Tm.mvokA (Tm.renF l) b k 0 (ts.take j) = true ∧ Terms wp.heap.size wr v (Tm.mvA (Tm.renF l) b k 0 (ts.take j)) css ∧
            Box4 wr (w.heap.size + 1 + 1) (.int .i64 k) (.string (B nm)) (.int .i64 mi) v 25 ∧ Box4 wr w.heap.size (.int .i64 k) (.string (B nm)) (.int .i64 i) (.slice a ts.length cap) 25 ∧
            Box4 wr (w.heap.size + 1) (.int .i64 0) (.string (B [])) (.int .i64 0) (.slice none 0 0) 25 ∧ Upto none' w wr ∧ wp.heap.size ≤ wr.heap.size)
          (fun vj _ => ts.length - (intOf vj).toNat)
        case atStart => exact ⟨0, _, [], rfl, Nat.zero_le _, by simp [Tm.mvokA], by simp only [List.take_zero, Tm.mvA]; exact Terms.nil _ _, hop, htp, hrp, hUp, Nat.le_refl _⟩
        case round =>
          clear hop htp hrp hUp
          obtain ⟨j, v, css, rfl, hj, hok, hts, hout, htb, hrb, hU, hbr⟩ := hrel
          have HOK := hid hok
          clear hok
          obtain ⟨t0, t1, t2, t3⟩ := htb.cells
          have qo := hout.lt
          have hj0 : (0 : Int) ≤ (j : Int) := by omega
          have hjb : (j : Int) ≤ 100000 := by omega
          by_cases hlt : j < ts.length
          · obtain ⟨eb, eo, ek, en, ex, es, ec, rfl, hebl, _, p0, p1, p2, p3, hRp⟩ := arg_tm (hE.on hU) j hlt
            have hsz1 := Tm.size_le_sizes (List.getElem_mem hlt)
            obtain ⟨hu0, hu1⟩ := Tm.under_le k j
            have hj1 : (j : Int) < (ts.length : Int) := by omega
            have hd : Upto none' wr wr.drew := (Upto.refl none' wr).drew
            have ha : Upto none' wr (wr.alloc (.cells #[.int .i64 0, .string (B []), .int .i64 0, .slice none 0 0] 25)).drew := ((Upto.refl none' wr).alloc _).drew
            have H2 := fun w' => under_any k j j rfl nm i (.slice (some ⟨eb, eo, none⟩) ts.length cap) w'
            have IH := fun (z : Int) w' (hz : z = b + Tm.under k j) (hV : Upto none' wr w') => ih (ts[j]'hlt) (List.getElem_mem hlt) (by omega) (hoks _ (List.getElem_mem hlt)) z w' _ (by omega) (by omega) (hRp.on hV) (hE2.on (hU.and hV))
            obtain ⟨us, hus⟩ : ∃ us, us = Tm.mvA (Tm.renF l) b k 0 (ts.take j) := ⟨_, rfl⟩
            obtain ⟨okj, hokj⟩ : ∃ o, o = (ts[j]'hlt).mvok (Tm.renF l) (b + Tm.under k j) := ⟨_, rfl⟩
            obtain ⟨u, hu⟩ : ∃ u, u = (ts[j]'hlt).mvz (Tm.renF l) (b + Tm.under k j) := ⟨_, rfl⟩
            have hul : us.length = j := by rw [hus, Tm.mvA_length, List.length_take]; omega
            have hsucc : okj = true → us ++ [u] = Tm.mvA (Tm.renF l) b k 0 (ts.take (j + 1)) ∧ Tm.mvokA (Tm.renF l) b k 0 (ts.take (j + 1)) = true := by
              intro e
              have hu2 : u = (ts[j]'hlt).mv (Tm.renF l) (b + Tm.under k j) := by rw [hu]; unfold Tm.mvz; rw [← hokj, e]; rfl
              rw [Tm.mvA_take_succ _ _ _ _ _ hlt, Tm.mvokA_take_succ _ _ _ _ _ hlt, ← hus, hu2, HOK.out, ← hokj, e]
              exact ⟨rfl, rfl⟩
            have hbad : okj = false → Tm.mvok (Tm.renF l) b (.mk k nm i ts) = false := by
              intro e
              rw [Tm.mvok_mk]
              have h1 := Tm.mvokA_take_succ (Tm.renF l) b k ts j hlt
              rw [← hokj, e, Bool.and_false] at h1
              have h2 := Tm.mvokA_append (Tm.renF l) b k (ts.take (j + 1)) (ts.drop (j + 1)) 0
              rw [List.take_append_drop, h1, Bool.false_and] at h2
              rw [h2, Bool.and_false]
            rw [← hus] at hts
            have IH' : ∀ (z : Int) w', z = b + Tm.under k j → Upto none' wr w' → Calls Tryd.prog 107 #[.agg #[.int .i64 ek, .string (B en), .int .i64 ex, .slice es (ts[j]'hlt).args.length ec], .slice la l.length lc, .int .i64 z] w' (Gives u (.bool okj) w') := by
              intro z w' hz hV
              have h := IH z w' hz hV
              rw [hz, ← hokj, ← hu] at h
              rw [hz]
              exact h
            have HS := hid (And.intro hul (And.intro hsucc hbad))
            have hul6 : us.length ≤ 1000000 := by omega
            have HLT := hid (show j < ts.length from hlt)
            have hzw : IntKind.i64.wrap (b + Tm.under k j) = b + Tm.under k j := Go.IntWalk.i64_in _ (by omega)
            clear hul hsucc hus hu ih IH hbad hokj
            generalize Tm.under k j = ud at *
            generalize (ts[j]'hlt).args.length = el at *
            have S0 : RfS w.heap.size eb (eo + j * 4) (.int .i64 k) (.string (B nm)) (.int .i64 i) (.slice (some ⟨eb, eo, none⟩) ts.length cap) (.int .i64 ek) (.string (B en)) (.int .i64 ex) (.slice es el ec) wr := ⟨⟨t0, t1, t2, t3⟩, p0, p1, p2, p3⟩
            have Sd := S0.on hd
            have Sa := S0.on ha
            have hnb : w.heap.size ≠ wr.heap.size := by omega
            have hne : eb ≠ wr.heap.size := by omega
            go_upto_region 10 with fail
            go_cut [11, 12] from 68 to 82 (fun vx vk wx => ∃ (ob : Nat) (k1 i1 : Int) (n1 : List UInt8) (a1 : Option Addr) (len1 cap1 : Nat), vx = .pointer (some ⟨ob, 0, none⟩) ∧ vk = .bool okj ∧ Box4 wx ob (.int .i64 k1) (.string (B n1)) (.int .i64 i1) (.slice a1 len1 cap1) 25 ∧
              Rep (fun x => x < wr.heap.size) wx u.dat [.int .i64 k1, .string (B n1), .int .i64 i1, .slice a1 len1 cap1] ∧ Upto none' wr wx)
            case first =>
              go_region_held3 (fun w' => RfS w.heap.size eb (eo + j * 4) (.int .i64 k) (.string (B nm)) (.int .i64 i) (.slice (some ⟨eb, eo, none⟩) ts.length cap) (.int .i64 ek) (.string (B en)) (.int .i64 ex) (.slice es el ec) w')
                (first | (with_reducible assumption) | (with_reducible exact Sd) | (with_reducible exact Sa) | (with_reducible exact RfS.new S6 _) | (with_reducible exact RfS.new S5 _) | (with_reducible exact RfS.set (RfS.set (RfS.set (RfS.set S6 hnb hne 0 _) hnb hne 1 _) hnb hne 2 _) hnb hne 3 _) | (with_reducible exact RfS.set (RfS.set (RfS.set (RfS.set S6 hn5 he5 0 _) hn5 he5 1 _) hn5 he5 2 _) hn5 he5 3 _))
                (first
                  | ((go_at_call 116); refine (H2 _).mono ?_; rintro e w5 ⟨rfl, hU5⟩; have U5 : Upto none' wr w5 := (by first | exact hd.and hU5 | exact ha.and hU5); have S5 := S0.on U5; have hn5 : w.heap.size ≠ w5.heap.size := (by have := U5.size; omega); have he5 : eb ≠ w5.heap.size := (by have := U5.size; omega); (first | (have z5 := (show Box4 (wr.alloc (.cells #[.int .i64 0, .string (B []), .int .i64 0, .slice none 0 0] 25)).drew wr.heap.size _ _ _ _ _ from Box4.at_new rfl).kept hU5) | skip))
                  | ((go_at_call 107); (first | (refine (IH' _ _ (by first | rfl | omega) U5).mono ?_) | (refine (IH' _ _ (by first | rfl | omega) (U5.alloc _)).mono ?_)); rintro e w6 ⟨k1, i1, n1, a1, len1, cap1, rfl, hR6, hU6⟩; have U6 : Upto none' wr w6 := (by first | exact U5.and hU6 | exact (U5.alloc _).and hU6); have S6 := S0.on U6; (first | (have z6 := z5.kept hU6; obtain ⟨z60, z61, z62, z63⟩ := z6.cells; obtain ⟨y60, y61, y62, y63⟩ := z6.frozens; have z69 := z6.lt) | (have z6 := (show Box4 (w5.alloc (.cells #[.int .i64 0, .string (B []), .int .i64 0, .slice none 0 0] 25)) w5.heap.size _ _ _ _ _ from Box4.at_new rfl).kept hU6; obtain ⟨z60, z61, z62, z63⟩ := z6.cells; obtain ⟨y60, y61, y62, y63⟩ := z6.frozens; have z69 := z6.lt) | skip)))
              all_goals
                go_wp2_with fail
                go_meet
              all_goals have hss5 := U5.size
              all_goals first
                | exact ⟨w6.heap.size, k1, i1, n1, a1, len1, cap1, rfl, rfl, Box4.at_new rfl, (Rep.weaken (fun b _ e => by (try simp only [World.size_alloc]); omega) _ _ hR6).new _, U6.alloc _⟩
                | (have hset := z6.set (d0 := .int .i64 k1) (d1 := .string (B n1)) (d2 := .int .i64 i1) (d3 := .slice a1 len1 cap1)
                   exact ⟨_, k1, i1, n1, a1, len1, cap1, rfl, rfl, hset.1, Rep.weaken (fun b _ e => by (try simp only [World.size_alloc]); omega) _ _ (Rep.keep hset.2 (fun b e => by (try simp only [World.size_alloc]); first | omega | (have := z5.lt; omega)) _ _ hR6), U6.trans hset.2 (fun i hi e => by omega)⟩)
            case rest =>
              obtain ⟨ob, k1, i1, n1, a1, len1, cap1, rfl, rfl, hX, hRx, hUx⟩ := hcut
              have houx := hout.kept hUx
              have htbx := htb.kept hUx
              have hrbx := hrb.kept hUx
              have htsx := hts.on hUx
              have hUwx := hU.and hUx
              have hsx := hUx.size
              have hxl := hX.lt
              have hvl : ∀ b, v.ownBlock = some b → b < wr.heap.size := fun b e => (hts.2.2.1.lt b e).2
              clear S0 Sd Sa IH' H2 p0 p1 p2 p3 t0 t1 t2 t3 hRp hout htb hrb hts hU hUx
              obtain ⟨x0, x1, x2, x3⟩ := hX.cells
              obtain ⟨b0, b1, b2, b3⟩ := houx.cells
              obtain ⟨y0, y1, y2, y3⟩ := houx.frozens
              obtain ⟨s0, s1, s2, s3⟩ := hrbx.cells
              obtain ⟨g0, g1, g2, g3⟩ := hrbx.frozens
              have qox := houx.lt
              cases okj
              · have hbad := HS.out.2.2 rfl
                have HMB := hid hbad
                clear hbad
                go_wp2_with fail
                obtain ⟨w8, hw8⟩ : ∃ w8, w8 = (((wc.setCell ⟨w.heap.size + 1, 0, none⟩ (.int .i64 0)).setCell ⟨w.heap.size + 1, 1, none⟩ (.string (B []))).setCell ⟨w.heap.size + 1, 2, none⟩ (.int .i64 0)).setCell ⟨w.heap.size + 1, 3, none⟩ (.slice none 0 0) := ⟨_, rfl⟩
                obtain ⟨hG, hB9⟩ := gives_set (r := .bool false) hrbx (by omega) hUwx (rep_leaf (k := 0) (n := []) (i := 0)) hw8
                try rw [← show B [] = { data := #[] } from rfl]
                rw [← hw8]
                clear hw8
                obtain ⟨e0, e1, e2, e3⟩ := hB9.cells
                refine bodyPost_ret (v := .tuple #[.agg #[.int .i64 0, .string (B []), .int .i64 0, .slice none 0 0], .bool false]) ?_ rfl ?_
                · simp [results, Tryd.f107, go_sem, e0, e1, e2, e3]
                · rw [Tm.mvz_no HMB.out, HMB.out]; exact hG

              · go_wp2_with (at_builtin; refine wpList_append_lies _ (by rfl) _ _ 23 (by rfl) wp.heap.size 25 i0 (.agg #[.int .i64 0, .string (B []), .int .i64 0, .slice none 0 0]) 4 56 (by kernel_rfl) hi hi0 hi1 hi2 rfl (by decide) v us.length css.flatten (by rfl) ((htsx.on ((Upto.refl none' wc).alloc _)).2.2.1) ⟨wc.heap.size, 0, none⟩ 1 1 [.int .i64 k1, .string (B n1), .int .i64 i1, .slice a1 len1 cap1] (by rfl) rfl (World.news_of_block (heap_alloc_new wc _)) (by simp [Value.oneCell']) (by omega) (by simp only [maxLen]; omega) (by omega) (by simp; omega) _ rfl ?_; intro g cap' w7 hown hgrow hat hlt7; have hou7 := (houx.kept ((Upto.refl none' wc).alloc _)).row hgrow (htsx.on ((Upto.refl none' wc).alloc _)) (by omega); have c7 := hou7.cells.2.2.2; have z7 := hou7.frozen 3; have q7 := hou7.lt)
                have hal : Upto none' wc (wc.alloc (.cells #[.int .i64 k1, .string (B n1), .int .i64 i1, .slice a1 len1 cap1] 25)) := (Upto.refl none' wc).alloc _
                have hts6' := htsx.on hal
                have hRx' : Rep (fun b => b < wp.heap.size ∨ v.ownBlock = some b) (wc.alloc (.cells #[.int .i64 k1, .string (B n1), .int .i64 i1, .slice a1 len1 cap1] 25)) u.dat [.int .i64 k1, .string (B n1), .int .i64 i1, .slice a1 len1 cap1] := by
                  refine (Rep.weaken (fun b _ e => ?_) _ _ hRx).new _
                  rcases e with e | e
                  · omega
                  · exact hvl b e
                have hT7 := hts6'.appended rfl hRx' hown hgrow hat (Nat.le_refl _)
                have hset7 : Upto (fun b => b = w.heap.size + 1 + 1) w7 (w7.setCell ⟨w.heap.size + 1 + 1, 3, none⟩ (.slice (some ⟨g, 0, none⟩) (us.length + 1) cap')) := Upto.set (Upto.refl _ _) 3 _
                have hrow7 := Upto.ofRow (RowUp.grown hts6'.2.2.1 hgrow)
                have htb7 := ((htbx.kept hal).keep hrow7 (by omega)).keep hset7 (by omega)
                have hrb7 := ((hrbx.kept hal).keep hrow7 (by omega)).keep hset7 (by omega)
                have hU7 : Upto none' w (w7.setCell ⟨w.heap.size + 1 + 1, 3, none⟩ (.slice (some ⟨g, 0, none⟩) (us.length + 1) cap')) := ((hUwx.and hal).trans hrow7 (fun b hb e => by omega)).trans hset7 (fun b hb e => by omega)
                have hsz7 : wp.heap.size ≤ (w7.setCell ⟨w.heap.size + 1 + 1, 3, none⟩ (.slice (some ⟨g, 0, none⟩) (us.length + 1) cap')).heap.size := by have := hset7.size; have := hrow7.size; have := hal.size; omega
                have hT7s := hT7.keep hset7 (fun b e => by omega)
                rw [(HS.out.2.1 rfl).1] at hT7s
                refine ⟨⟨j + 1, _, _, by go_num, Nat.succ_le_of_lt HLT.out, (HS.out.2.1 rfl).2, hT7s, hou7.set3 _, htb7, hrb7, hU7, hsz7⟩, ?_⟩
                have := HLT.out
                simp [intOf]; omega
          · obtain ⟨us, hus⟩ : ∃ us, us = Tm.mvA (Tm.renF l) b k 0 (ts.take j) := ⟨_, rfl⟩
            rw [← hus] at hts
            obtain ⟨s0, s1, s2, s3⟩ := hrb.cells
            obtain ⟨g0, g1, g2, g3⟩ := hrb.frozens
            have qr := hrb.lt
            have hjl : j = ts.length := by omega
            have hjn : ¬ (j : Int) < (ts.length : Int) := by omega
            obtain ⟨a9, cap9, rfl, hcap9, hE9⟩ := hts.rep
            obtain ⟨len, hlen9⟩ : ∃ len, len = us.length := ⟨_, rfl⟩
            rw [← hlen9] at hout hcap9
            obtain ⟨b0, b1, b2, b3⟩ := hout.cells
            have hfin : Tm.mvok (Tm.renF l) b (.mk k nm i ts) = true ∧ Tm.mv (Tm.renF l) b (.mk k nm i ts) = .mk k nm mi us := by
              have h1 := HOK.out
              rw [List.take_of_length_le (by omega)] at h1 hus
              rw [Tm.mvok_mk, Tm.mv_mk, HMI.out.2, h1, ← HMI.out.1, ← hus]
              exact ⟨rfl, rfl⟩
            have HL := hid hlen9
            have HJ := hid (And.intro hjl hus)
            have HFI := hid hfin
            have hRr : Rep (fun x => x ≤ w.heap.size + 1) wr (Tm.mk k nm mi us).dat [.int .i64 k, .string (B nm), .int .i64 mi, .slice a9 len cap9] := rep_tm.2 ⟨a9, cap9, by rw [HL.out], by rw [← HL.out]; exact hcap9, RepE.weaken (fun b _ e => by omega) _ _ _ _ hE9⟩
            clear hlen9 hjl hts hus hfin
            go_wp2_with fail
            obtain ⟨w8, hw8⟩ : ∃ w8, w8 = (((wr.setCell ⟨w.heap.size + 1, 0, none⟩ (.int .i64 k)).setCell ⟨w.heap.size + 1, 1, none⟩ (.string (B nm))).setCell ⟨w.heap.size + 1, 2, none⟩ (.int .i64 mi)).setCell ⟨w.heap.size + 1, 3, none⟩ (.slice a9 len cap9) := ⟨_, rfl⟩
            obtain ⟨hG, hB9⟩ := gives_set (r := .bool true) hrb (by omega) hU hRr hw8
            try rw [← show B [] = { data := #[] } from rfl]
            rw [← hw8]
            clear hw8
            obtain ⟨e0, e1, e2, e3⟩ := hB9.cells
            refine bodyPost_ret (v := .tuple #[.agg #[.int .i64 k, .string (B nm), .int .i64 mi, .slice a9 len cap9], .bool true]) ?_ rfl ?_
            · simp [results, Tryd.f107, go_sem, e0, e1, e2, e3]
            · rw [Tm.mvz_yes HFI.out.1, HFI.out.1, HFI.out.2]; exact hG
end Go.Proofs.YtdcbgkmhlpkjiaaDoor

/- The reference's Invert; targets. -/
namespace Go.Proofs.YtdcbgkmhlpkjiaaDoor
open Go.RowKit Go.LF

/-- A row of which the first numbers are -1. -/
def numRow (m n : Nat) : List Int := List.replicate m (-1) ++ List.replicate (n - m) 0
theorem numRow_length {m n : Nat} (h : m ≤ n) : (numRow m n).length = n := by simp [numRow]; omega
theorem numRow_set {m n : Nat} (h : m < n) : (numRow m n).set m (-1) = numRow (m + 1) n := by
  unfold numRow
  rw [List.set_append_right _ _ (by simp), List.length_replicate, Nat.sub_self, show n - m = (n - (m + 1)) + 1 by omega, List.replicate_succ, List.set_cons_zero, List.replicate_succ']
  simp

set_option maxRecDepth 100000 in
set_option maxHeartbeats 4000000 in
theorem refInvert_any (l : List Int) (la : Option Addr) (lc : Nat) (hl : l.length ≤ 1000000) (n : Int) (w : World) (hE : RepE none' w 1 (l.map (Dat.int .i64)) la 0) :
    Calls Tryd.prog 71 #[.slice la l.length lc, .int .i64 n] w (GivesL (inv l n) w) := by
  have hways : n < 0 ∨ (0 ≤ n ∧ 1048576 < n) ∨ (0 ≤ n ∧ n ≤ 1048576) := by omega
  rcases hways with h1 | ⟨h1, h2⟩ | ⟨h1, h2⟩
  case' inl => have hi : inv l n = none := if_pos (.inl h1)
  case' inr.inl => have hi : inv l n = none := if_pos (.inr h2)
  case' inr.inr =>
    obtain ⟨m, rfl⟩ : ∃ m : Nat, n = m := ⟨n.toNat, by omega⟩
    have hi : inv l m = invTo m l l.length := by unfold inv; rw [if_neg (by omega)]; simp
    have HI := hid hi
    clear hi
    have HK := run_make_ints m (by omega) w
    obtain ⟨wa, hwa⟩ : ∃ wa, wa = w.alloc (.cells (repRow 0 m).toArray 3) := ⟨_, rfl⟩
    have hUa : Upto none' w wa := by rw [hwa]; exact (Upto.refl none' w).alloc _
    have hNa : NumB wa w.heap.size (numRow 0 m) := by
      unfold NumB; rw [hwa, heap_alloc_new]; simp [repRow, numRow]
    rw [← hwa] at HK
    obtain ⟨g, hgg⟩ : ∃ g, g = w.heap.size := ⟨_, rfl⟩
    rw [← hgg] at HK hNa
    have hwg : w.heap.size ≤ g := by omega
    have HGG := hid hgg
    clear hwa hgg
    go_enter Tryd.func71, Tryd.ntmps71
    go_wp2_with fail
    clear HK
    go_loopw [7] (fun v7 wr => ∃ i : Nat, v7 = .int .i64 i ∧ i ≤ m ∧ NumB wr g (numRow i m) ∧ Upto none' w wr) (fun v7 _ => m - (intOf v7).toNat)
    case atStart => exact ⟨0, rfl, Nat.zero_le _, hNa, hUa⟩
    case round =>
      clear hNa hUa
      obtain ⟨i, rfl, him, hN, hUi⟩ := hrel
      have hi0 : (0 : Int) ≤ (i : Int) := by omega
      by_cases hlt : i < m
      · have hi1 : (i : Int) < (m : Int) := by omega
        have hc := hN.cell i (by rw [numRow_length him]; exact hlt)
        have hf := hN.frozen i
        have hgl := hN.lt
        have hN' := hN.set i (by rw [numRow_length him]; exact hlt) (-1)
        rw [numRow_set hlt] at hN'
        generalize (numRow i m).getD i 0 = z at *
        go_wp2_with fail
        refine ⟨⟨i + 1, by simp, hlt, hN', hUi.trans (Upto.set (Upto.refl _ _) i _) (fun b hb e => by omega)⟩, ?_⟩
        simp [intOf]; omega
      · have hi1 : ¬ (i : Int) < (m : Int) := by omega
        obtain rfl : i = m := by omega
        have hNr : NumB wr g (List.replicate i (-1)) := by have := hN; unfold numRow at this; simpa using this
        obtain ⟨wq, rfl⟩ : ∃ wq, wq = wr := ⟨wr, rfl⟩
        clear hN hi1 hlt
        go_wp2_with fail
        go_loopw [8] (fun v8 wr => ∃ (j : Nat) (out : List Int), v8 = .int .i64 j ∧ j ≤ l.length ∧ invTo i l j = some out ∧ NumB wr g out ∧ Upto none' w wr) (fun v8 _ => l.length - (intOf v8).toNat)
        case atStart => exact ⟨0, _, rfl, Nat.zero_le _, rfl, hNr, hUi⟩
        case round =>
          clear hNr hUi
          obtain ⟨j, out, rfl, hj, ho, hN, hUr⟩ := hrel
          have hol := invTo_length ho
          have HO := hid ho
          have HL := hid hol
          clear ho hol
          have hj0 : (0 : Int) ≤ (j : Int) := by omega
          by_cases hlt : j < l.length
          · obtain ⟨lb, lo, rfl, _, _, hc⟩ := int_cell (hE.on hUr) j hlt
            have hj1 : (j : Int) < (l.length : Int) := by omega
            have hst : invTo i l (j + 1) = invStep i out j l[j] := by rw [invTo, HO.out]; simp [List.getD, hlt]
            have HST := hid hst
            have HLT := hid (show j < l.length from hlt)
            clear hst
            generalize l[j] = x at *
            have hx : x < 0 ∨ (0 ≤ x ∧ (i : Int) ≤ x) ∨ (0 ≤ x ∧ x < (i : Int)) := by omega
            rcases hx with hx | ⟨hx, hx2⟩ | ⟨hx, hx2⟩
            case' inr.inr =>
              obtain ⟨y, rfl⟩ : ∃ y : Nat, x = y := ⟨x.toNat, by omega⟩
              have hyl : y < out.length := by rw [HL.out]; omega
              have hcy := hN.cell y hyl
              have hfy := hN.frozen y
              have hgl := hN.lt
              obtain ⟨z, hz⟩ : ∃ z, z = out.getD y 0 := ⟨_, rfl⟩
              rw [← hz] at hcy
              have HZ := hid hz
              clear hz
              have hz2 : 0 ≤ z ∨ z < 0 := by omega
              rcases hz2 with hz2 | hz2
            all_goals
              go_wp2_with fail
            all_goals first
              | (have hno : inv l i = none := by
                   have h1 : invTo i l (j + 1) = none := by
                     rw [HST.out]; unfold invStep
                     first
                       | (rw [if_neg (by omega), if_pos (.inl (by omega))])
                       | (rw [if_neg (by omega), if_pos (.inr (by rw [Int.toNat_natCast, ← HZ.out]; exact hz2))])
                   have h2 := invTo_none h1 (l.length - (j + 1))
                   rw [show j + 1 + (l.length - (j + 1)) = l.length by have := HLT.out; omega] at h2
                   rw [HI.out, h2]
                 rw [hno]
                 clear hno
                 go_ret2
                 exact ⟨none, 0, 0, rfl, rfl, by simp only [Option.getD, List.map_nil, RepE], hUr⟩)
              | (refine ⟨⟨j + 1, out, by simp, Nat.succ_le_of_lt HLT.out, by rw [HST.out]; exact if_pos hx, hN, hUr⟩, ?_⟩
                 have := HLT.out
                 simp [intOf]; omega)
              | (have hns : invTo i l (j + 1) = some (out.set y j) := by
                   rw [HST.out]; unfold invStep
                   rw [if_neg (by omega), if_neg (fun e => by rw [Int.toNat_natCast, ← HZ.out] at e; omega), Int.toNat_natCast]
                 refine ⟨⟨j + 1, out.set y j, by simp, Nat.succ_le_of_lt HLT.out, hns, hN.set y hyl j, hUr.trans (Upto.set (Upto.refl _ _) y _) (fun b hb e => by omega)⟩, ?_⟩
                 have := HLT.out
                 simp [intOf]; omega)
          · have hj1 : ¬ (j : Int) < (l.length : Int) := by omega
            have hjl : j = l.length := by omega
            have hso : inv l i = some out := by rw [HI.out, ← hjl, HO.out]
            have HSO := hid hso
            clear hso hjl
            go_wp2_with fail
            go_ret2
            rw [HSO.out]
            exact ⟨some ⟨g, 0, none⟩, i, i, rfl, HL.out, hN.rep (by omega), hUr⟩
  all_goals
    rw [hi]
    clear hi
    go_enter Tryd.func71, Tryd.ntmps71
    go_wp2_with fail
    go_ret2
    exact ⟨none, 0, 0, rfl, rfl, by simp only [Option.getD, List.map_nil, RepE], Upto.refl _ _⟩
end Go.Proofs.YtdcbgkmhlpkjiaaDoor

/- targets; the reference's Rename; layer 6's made. -/
namespace Go.Proofs.YtdcbgkmhlpkjiaaDoor
open Go.RowKit Go.LF

theorem Ints.on7 {base : Nat} {W W' : World} {v : Value} {l : List Int} (h : Ints base W v l) (hU : Upto none' W W') : Ints base W' v l := by
  unfold Ints at h ⊢
  refine ⟨h.1, ?_⟩
  rcases h.2 with h5 | ⟨g, cap, cur, rfl, hb, hgb, rest⟩
  · exact .inl h5
  · exact .inr ⟨g, cap, cur, rfl, hb, (hU.block g (Array.getElem?_eq_some_iff.1 hgb).1 (fun x => x)).trans hgb, rest⟩
/-- Some numbers, few of them, in new blocks. -/
def Drawn (w : World) (e : Ending) (w' : World) : Prop :=
  ∃ (a : Option Addr) (cap : Nat) (l : List Int), e = .returned (.slice a l.length cap) ∧ l.length ≤ 8 ∧ RepE (fun b => b < w.heap.size) w' 1 (l.map (Dat.int .i64)) a 0 ∧ Upto none' w w'
theorem tens_at {W : World} {b : Nat} {T' : TypeId} {fr : Nat × Nat} (h : W.heap[b]? = some (.cells #[.int .i64 0, .int .i64 1, .int .i64 2, .int .i64 3, .int .i64 4, .int .i64 7, .int .i64 (-1), .int .i64 1048576, .int .i64 1048575, .int .i64 4611686018427387904] T' fr)) (c : Nat) (hc : (c : Int) < 10) :
    ∃ i : Int, W.cell? ⟨b, c, none⟩ = some (.int .i64 i) := by
  have hcell : ∀ i, W.cell? ⟨b, i, none⟩ = (#[.int .i64 0, .int .i64 1, .int .i64 2, .int .i64 3, .int .i64 4, .int .i64 7, .int .i64 (-1), .int .i64 1048576, .int .i64 1048575, .int .i64 4611686018427387904] : Array Value)[i]? := fun i => by simp [World.cell?, h]
  match c, hc with
  | 0, _ => exact ⟨_, hcell 0⟩
  | 1, _ => exact ⟨_, hcell 1⟩
  | 2, _ => exact ⟨_, hcell 2⟩
  | 3, _ => exact ⟨_, hcell 3⟩
  | 4, _ => exact ⟨_, hcell 4⟩
  | 5, _ => exact ⟨_, hcell 5⟩
  | 6, _ => exact ⟨_, hcell 6⟩
  | 7, _ => exact ⟨_, hcell 7⟩
  | 8, _ => exact ⟨_, hcell 8⟩
  | 9, _ => exact ⟨_, hcell 9⟩
  | n + 10, h => omega

set_option maxRecDepth 100000 in
set_option maxHeartbeats 4000000 in
theorem targets_any (l : List Int) (a : Option Addr) (len cap : Nat) (hl : l.length = len) (hlen : len ≤ 17592186044416) (w : World) (hE : RepE none' w 1 (l.map (Dat.int .i64)) a 0) :
    Calls Tryd.prog 67 #[.slice a len cap] w (Drawn w) := by
  obtain ⟨i0, hi, hi0, hi1, hi2⟩ := info_parts info_int
  have HC := fun (x n : Int) h0 h1 w => cut_any x n h0 h1 w
  subst hl
  go_enter Tryd.func67, Tryd.ntmps67
  go_wp2_with fail
  go_loopw [3, 4] (fun v3 v4 wr => ∃ (j : Nat) (tl : List Int), v4 = .int .i64 j ∧ j ≤ 8 ∧ tl.length = j ∧ Ints w.heap.size wr v3 tl ∧ Upto none' w wr) (fun _ v4 _ => 9 - (intOf v4).toNat)
  case atStart => exact ⟨0, [], rfl, by omega, rfl, World.ownsRow_nil _ _ _ _, Upto.refl _ _⟩
  case round =>
    obtain ⟨j, tl, rfl, hj, htl, hI, hU⟩ := hrel
    obtain ⟨at', ct, hv, hct, hEt⟩ := ints_open hI.rep
    subst hv
    rw [htl] at hct hI ⊢
    have HTL := hid htl
    have hj0 : (0 : Int) ≤ (j : Int) := by omega
    have hss := hU.size
    clear htl
    by_cases hc : j < l.length ∧ j < 8
    · obtain ⟨hc1, hc2⟩ := hc
      obtain ⟨lb, lo, rfl, _, _, cl⟩ := int_cell (hE.on hU) j hc1
      have hj1 : (j : Int) < (l.length : Int) := by omega
      have hj2 : (j : Int) < 8 := by omega
      generalize l[j] = x at *
      obtain ⟨wa, hwa⟩ : ∃ wa, wa = wr.alloc (.cells #[.int .i64 0, .int .i64 1, .int .i64 2, .int .i64 3, .int .i64 4, .int .i64 7, .int .i64 (-1), .int .i64 1048576, .int .i64 1048575, .int .i64 4611686018427387904] 3) := ⟨_, rfl⟩
      have hUa : Upto none' wr wa := by rw [hwa]; exact (Upto.refl none' wr).alloc _
      have hga := heap_alloc_new wr (.cells #[.int .i64 0, .int .i64 1, .int .i64 2, .int .i64 3, .int .i64 4, .int .i64 7, .int .i64 (-1), .int .i64 1048576, .int .i64 1048575, .int .i64 4611686018427387904] 3)
      rw [← hwa] at hga
      have hgl : wr.heap.size < wa.heap.size := by rw [hwa]; simp
      have HWA := hid hwa
      have HGA := hid hga
      clear hwa hga
      go_wp2_with fail
      rw [← HWA.out]
      refine (HC _ 10 (by omega) (by omega) _).mono ?_
      rintro e wd ⟨⟨c, hcc, rfl⟩, rfl⟩
      obtain ⟨z, hz⟩ := tens_at HGA.out c hcc
      have hc0 : (0 : Int) ≤ (c : Int) := by omega
      have hIa := hI.on7 hUa
      have hal : Upto none' wa (wa.alloc (.cells #[.int .i64 z] 3)) := (Upto.refl none' wa).alloc _
      have hIb := hIa.on7 hal
      go_wp2_with (at_builtin; refine wpList_append_lies _ (by rfl) _ _ 22 (by rfl) w.heap.size 3 i0 (.int .i64 0) 1 8 (by kernel_rfl) hi hi0 hi1 hi2 rfl (by decide) (.slice at' j ct) j (tl.map (Value.int .i64)) (by rfl) (by have := hIb; unfold Ints at this; rwa [HTL.out] at this) ⟨wa.heap.size, 0, none⟩ 1 1 [.int .i64 z] (by rfl) rfl (World.news_of_block (heap_alloc_new wa _)) (by simp [Value.oneCell']) (by omega) (by simp only [maxLen]; omega) (by omega) (by simp; omega) (wa.heap.size + 1) (by simp) ?_; intro g cap' w7 hown hgrow hat hlt7)
      have hU7 : Upto none' w w7 := ((RowUp.refl 3 w.heap.size w).on ((hU.and hUa).and hal)).trans (RowUp.grown hIb hgrow) |>.upto (Nat.le_refl _)
      have hI7 : Ints w.heap.size w7 (.slice (some ⟨g, 0, none⟩) (j + 1) cap') (tl ++ [z]) := by
        unfold Ints
        rw [List.length_append, HTL.out, List.map_append]
        exact hown
      have k1' : (tl ++ [z]).length = j + 1 := by simp [HTL.out]
      have HK := hid (And.intro k1' hI7)
      clear k1' hI7 hown hgrow hI hIa hIb
      go_wp2_with fail
      refine ⟨⟨j + 1, _, by go_num, by omega, HK.out.1, HK.out.2, hU7⟩, ?_⟩
      simp [intOf]; omega
    · have hcc : ¬ (j : Int) < (l.length : Int) ∨ ((j : Int) < (l.length : Int) ∧ ¬ (j : Int) < 8) := by omega
      have hE9 : RepE (fun b => b < w.heap.size) wr 1 (tl.map (Dat.int .i64)) at' 0 := hEt
      have HT := hid (And.intro HTL.out hE9)
      clear hc hI hEt hE9
      rcases hcc with h1 | ⟨h1, h2⟩
      all_goals
        go_wp2_with fail
        go_ret
        exact ⟨at', ct, tl, by rw [HT.out.1]; rfl, by rw [HT.out.1]; omega, HT.out.2, hU⟩

set_option maxRecDepth 100000 in
set_option maxHeartbeats 4000000 in
theorem made06_any (l : List Int) (a : Option Addr) (len cap : Nat) (hl : l.length = len) (hlen : len ≤ 17592186044416) (n0 n1 : Int) (w : World) (hE : RepE none' w 1 (l.map (Dat.int .i64)) a 0) (hN : NamesRead w) :
    Calls Tryd.prog 60 #[.slice a len cap, .agg #[.int .i64 n0, .int .i64 n1]] w (Spoilt w) := by
  obtain ⟨w0, hw0⟩ : ∃ w0, w0 = (w.alloc (.cells #[.int .i64 n0, .int .i64 n1] 58)).alloc (.cells #[.int .i64 0, .string (B []), .int .i64 0, .slice none 0 0] 25) := ⟨_, rfl⟩
  have hU0 : Upto none' w w0 := by rw [hw0]; exact ((Upto.refl none' w).alloc _).alloc _
  have hz0 : w0.heap.size = w.heap.size + 1 + 1 := by rw [hw0]; simp
  have hn0 : w0.cell? ⟨w.heap.size, 0, none⟩ = some (.int .i64 n0) ∧ w0.cell? ⟨w.heap.size, 1, none⟩ = some (.int .i64 n1) := by
    rw [hw0]
    refine ⟨((Upto.refl none' _).alloc _).cell ?_ (fun x => x), ((Upto.refl none' _).alloc _).cell ?_ (fun x => x)⟩ <;> (rw [World.cell?_alloc_new]; rfl)
  have hr0 : Box4 w0 (w.heap.size + 1) (.int .i64 0) (.string (B [])) (.int .i64 0) (.slice none 0 0) 25 := by rw [hw0]; exact Box4.at_new (by simp)
  have hT := tape_new (w := w0) (cap := cap) (U := 46) hl hlen (hE.on hU0)
  have hN1 : NamesOk w0.heap.size (w0.alloc (.cells #[.slice a len cap, .int .i64 0] 46)) := hN.ok (hU0.alloc _) hU0.size
  rw [hz0] at hT hN1
  have HA := anyTerm_any 3 (by omega) 5 2 (by omega) (by omega) (w.heap.size + 1 + 1) _ hT hN1
  have HC := fun (x n : Int) h0 h1 w => cut_any x n h0 h1 w
  have HW0 := hid hw0
  clear hT hN1 hE hN hl hlen hw0 hz0
  go_enter Tryd.func60, Tryd.ntmps60
  go_wp2_with fail
  rw [← show B [] = { data := #[] } from rfl, ← HW0.out]
  refine HA.mono ?_
  rintro e w1 ⟨k1, i1, n1', a1, len1, cap1, t, rfl, hR, hF, _, _, hU⟩
  have hU01 : Upto none' w0 w1 := ((Upto.refl none' w0).alloc _).trans hU (fun b hb e => by have := hr0.lt; have : w0.heap.size = w.heap.size + 1 + 1 := (by rw [HW0.out]; simp); simp only [isT] at e; omega)
  have hU1 := hU0.and hU01
  have hr1 := hr0.kept hU01
  have hn1 := And.intro (hU01.cell hn0.1 (fun x => x)) (hU01.cell hn0.2 (fun x => x))
  have hwt := hF.wt
  have hR1 : Rep (fun b => b = w.heap.size + 1) w1 t.dat [.int .i64 k1, .string (B n1'), .int .i64 i1, .slice a1 len1 cap1] := Rep.weaken (fun b _ e => by have : w0.heap.size = w.heap.size + 1 + 1 := (by rw [HW0.out]; simp); simp only [World.size_alloc]; omega) _ _ hR
  clear HA hU hR hF hr0 hn0 hU0 hU01
  obtain ⟨w2, hw2⟩ : ∃ w2, w2 = w1.alloc (.cells #[.int .i64 k1, .string (B n1'), .int .i64 i1, .slice a1 len1 cap1] 25) := ⟨_, rfl⟩
  have hU2 : Upto none' w1 w2 := by rw [hw2]; exact (Upto.refl none' w1).alloc _
  have hB2 : Box4 w2 w1.heap.size (.int .i64 k1) (.string (B n1')) (.int .i64 i1) (.slice a1 len1 cap1) 25 := by rw [hw2]; exact Box4.at_new rfl
  have hr2 := hr1.kept hU2
  have hn2 := And.intro (hU2.cell hn1.1 (fun x => x)) (hU2.cell hn1.2 (fun x => x))
  have hR2 : Rep (fun b => b = w.heap.size + 1 ∨ b = w1.heap.size) w2 t.dat [.int .i64 k1, .string (B n1'), .int .i64 i1, .slice a1 len1 cap1] := Rep.weaken (fun b _ e => e.elim .inl (fun e => .inr (Nat.le_of_eq e.symm))) _ _ ((Rep.fresh' _ _ hR1).on hU2)
  have hUw2 := hU1.and hU2
  have HW2 := hid hw2
  have hrl := hr1.lt
  obtain ⟨m0, m1⟩ := hn1
  have qm : w.heap.size < w1.heap.size := by omega
  clear hw2 hR1 hU1 hU2 hr1
  go_wp2_with fail
  rw [← HW2.out]
  refine (HC _ 4 (by omega) (by omega) _).mono ?_
  rintro e wd ⟨⟨c, hc, rfl⟩, rfl⟩
  have hc0 : (0 : Int) ≤ (c : Int) := by omega
  obtain ⟨x0, x1, x2, x3⟩ := hB2.cells
  obtain ⟨y0, y1, y2, y3⟩ := hB2.frozens
  obtain ⟨p0, p1, p2, p3⟩ := hr2.cells
  obtain ⟨q0, q1, q2, q3⟩ := hr2.frozens
  obtain ⟨u0, u1⟩ := hn2
  have hbl := hB2.lt
  have hne : w.heap.size + 1 ≠ w1.heap.size := by omega
  clear m0 m1
  have hways : (c = 0) ∨ ((c : Int) == 0) = false := by
    rcases Nat.eq_zero_or_pos c with h | h
    · exact .inl h
    · right; simp; omega
  rcases hways with rfl | hcz
  · go_wp2_with fail
    refine (spoil_any t (by omega) (fun b => b = w.heap.size + 1 ∨ b = w1.heap.size) _ _ _ _ hR2).mono ?_
    rintro e w5 ⟨k5, i5, n5, a5, l5, c5, t5, rfl, hR5, hw5, hU5⟩
    have hB5 := hB2.kept hU5
    have hr5 := hr2.kept hU5
    clear x0 x1 x2 x3 y0 y1 y2 y3 p0 p1 p2 p3 q0 q1 q2 q3 u0 u1
    obtain ⟨x0, x1, x2, x3⟩ := hB5.cells
    obtain ⟨y0, y1, y2, y3⟩ := hB5.frozens
    obtain ⟨p0, p1, p2, p3⟩ := hr5.cells
    obtain ⟨q0, q1, q2, q3⟩ := hr5.frozens
    have hbl5 := hB5.lt
    have hrl5 := hr5.lt
    go_wp2_with fail
    have s1 := hB5.set (d0 := .int .i64 k5) (d1 := .string (B n5)) (d2 := .int .i64 i5) (d3 := .slice a5 l5 c5)
    have s2 := (hr5.keep s1.2 (by omega)).set (d0 := .int .i64 k5) (d1 := .string (B n5)) (d2 := .int .i64 i5) (d3 := .slice a5 l5 c5)
    obtain ⟨w9, hw9⟩ : ∃ w9, w9 = ((((((((w5.setCell ⟨w1.heap.size, 0, none⟩ (.int .i64 k5)).setCell ⟨w1.heap.size, 1, none⟩ (.string (B n5))).setCell ⟨w1.heap.size, 2, none⟩ (.int .i64 i5)).setCell ⟨w1.heap.size, 3, none⟩ (.slice a5 l5 c5)).setCell ⟨w.heap.size + 1, 0, none⟩ (.int .i64 k5)).setCell ⟨w.heap.size + 1, 1, none⟩ (.string (B n5))).setCell ⟨w.heap.size + 1, 2, none⟩ (.int .i64 i5)).setCell ⟨w.heap.size + 1, 3, none⟩ (.slice a5 l5 c5)) := ⟨_, rfl⟩
    have hU9 : Upto none' w w9 := by rw [hw9]; exact ((hUw2.and hU5).trans s1.2 (fun i hi e => by omega)).trans s2.2 (fun i hi e => by omega)
    have hR9 : Rep none' w9 t5.dat [.int .i64 k5, .string (B n5), .int .i64 i5, .slice a5 l5 c5] := by
      rw [hw9]
      exact rep_pre (Rep.keep s2.2 (fun b e => ⟨.inl e, by omega⟩) _ _ (Rep.keep s1.2 (fun b e => ⟨.inr e, by omega⟩) _ _ hR5))
    have hB9 : Box4 w9 (w.heap.size + 1) (.int .i64 k5) (.string (B n5)) (.int .i64 i5) (.slice a5 l5 c5) 25 := by rw [hw9]; exact s2.1
    rw [← hw9]
    clear hw9
    obtain ⟨e0, e1, e2, e3⟩ := hB9.cells
    refine bodyPost_ret (v := .agg #[.int .i64 k5, .string (B n5), .int .i64 i5, .slice a5 l5 c5]) ?_ rfl ?_
    · simp [results, Tryd.f60, go_sem, e0, e1, e2, e3]
    · exact ⟨k5, i5, n5, a5, l5, c5, t5, rfl, hR9, by omega, hU9⟩
  · go_wp2_with fail
    have s2 := hr2.set (d0 := .int .i64 k1) (d1 := .string (B n1')) (d2 := .int .i64 i1) (d3 := .slice a1 len1 cap1)
    obtain ⟨w9, hw9⟩ : ∃ w9, w9 = ((((w2.setCell ⟨w.heap.size + 1, 0, none⟩ (.int .i64 k1)).setCell ⟨w.heap.size + 1, 1, none⟩ (.string (B n1'))).setCell ⟨w.heap.size + 1, 2, none⟩ (.int .i64 i1)).setCell ⟨w.heap.size + 1, 3, none⟩ (.slice a1 len1 cap1)) := ⟨_, rfl⟩
    rw [← hw9] at s2
    have hU9 : Upto none' w w9 := hUw2.trans s2.2 (fun i hi e => by omega)
    have hR9 := rep_pre (Rep.keep s2.2 (fun b e => .inl e) _ _ hR2)
    rw [← hw9]
    clear hw9
    obtain ⟨e0, e1, e2, e3⟩ := s2.1.cells
    refine bodyPost_ret (v := .agg #[.int .i64 k1, .string (B n1'), .int .i64 i1, .slice a1 len1 cap1]) ?_ rfl ?_
    · simp [results, Tryd.f60, go_sem, e0, e1, e2, e3]
    · exact ⟨k1, i1, n1', a1, len1, cap1, t, rfl, hR9, by omega, hU9⟩

set_option maxRecDepth 100000 in
set_option maxHeartbeats 4000000 in
theorem refRename_any (t : Tm) (hs : t.wt ≤ 1000000) (l : List Int) (la : Option Addr) (lc : Nat) (hl : l.length ≤ 1000000) (w : World) (cs : List Value) (h : Rep none' w t.dat cs) (hE0 : RepE none' w 1 (l.map (Dat.int .i64)) la 0) :
    Calls Tryd.prog 69 #[.agg cs.toArray, .slice la l.length lc] w (Gives (t.renT l) (.bool (t.renB l)) w) := by
  have hwf := Tm.wf_ok t
  obtain ⟨k, n, i, ts, a, cap, ht, rfl, hcap, hE⟩ := tm_open h
  obtain ⟨w4, hw4⟩ : ∃ w4, w4 = (w.alloc (.cells #[.int .i64 k, .string (B n), .int .i64 i, .slice a ts.length cap] 25)).alloc (.cells #[.int .i64 0, .string (B []), .int .i64 0, .slice none 0 0] 25) := ⟨_, rfl⟩
  have hU4 : Upto none' w w4 := by rw [hw4]; exact ((Upto.refl none' w).alloc _).alloc _
  have ht4 : Box4 w4 w.heap.size (.int .i64 k) (.string (B n)) (.int .i64 i) (.slice a ts.length cap) 25 := by rw [hw4]; exact (Box4.at_new rfl).kept ((Upto.refl none' _).alloc _)
  have hr4 : Box4 w4 (w.heap.size + 1) (.int .i64 0) (.string (B [])) (.int .i64 0) (.slice none 0 0) 25 := by rw [hw4]; exact Box4.at_new (by simp)
  have h4 := h.on hU4
  have hE4 := hE0.on hU4
  have HW4 := hid hw4
  have HT := hid ht
  obtain ⟨x0, x1, x2, x3⟩ := ht4.cells
  clear hw4 ht hE h hE0
  have HWF := refWellFormed_any t hs w4 _ h4
  have hB : t.renB l = (t.wf == 0 && Tm.mvok (Tm.renF l) 0 t) := rfl
  have hT : t.renT l = if t.renB l then Tm.mv (Tm.renF l) 0 t else .mk 0 [] 0 [] := rfl
  have HB := hid (And.intro hB hT)
  clear hB hT
  go_enter Tryd.func69, Tryd.ntmps69
  go_wp2_with fail
  rw [← show B [] = { data := #[] } from rfl, ← HW4.out]
  refine HWF.mono ?_
  rintro e w5 ⟨rfl, hU5⟩
  have ht5 := ht4.kept hU5
  have hr5 := hr4.kept hU5
  have h5 := h4.on hU5
  have hE5 := hE4.on hU5
  have hUw5 := hU4.and hU5
  clear x0 x1 x2 x3 ht4 hr4 h4 hE4 hU4 hU5 HWF
  obtain ⟨x0, x1, x2, x3⟩ := ht5.cells
  obtain ⟨y0, y1, y2, y3⟩ := hr5.cells
  obtain ⟨z0, z1, z2, z3⟩ := hr5.frozens
  have q0 := hr5.lt
  obtain ⟨wf, hwf0⟩ : ∃ wf, wf = t.wf := ⟨_, rfl⟩
  rw [← hwf0] at hwf HB ⊢
  clear hwf0
  by_cases h0 : wf = 0
  case neg =>
    have hE : t.renB l = false := by rw [HB.out.1]; simp [h0]
    have hT : t.renT l = .mk 0 [] 0 [] := by rw [HB.out.2, hE]; rfl
    have HEE := hid (And.intro hE hT)
    have hwn : (wf != 0) = true := by simp [h0]
    clear hE hT hwf h0
    go_wp2_with fail
    obtain ⟨w8, hw8⟩ : ∃ w8, w8 = (((w5.setCell ⟨w.heap.size + 1, 0, none⟩ (.int .i64 0)).setCell ⟨w.heap.size + 1, 1, none⟩ (.string (B []))).setCell ⟨w.heap.size + 1, 2, none⟩ (.int .i64 0)).setCell ⟨w.heap.size + 1, 3, none⟩ (.slice none 0 0) := ⟨_, rfl⟩
    obtain ⟨hG, hB9⟩ := gives_set (r := .bool false) hr5 (by omega) hUw5 (rep_leaf (k := 0) (n := []) (i := 0)) hw8
    try rw [← show B [] = { data := #[] } from rfl]
    rw [← hw8]
    clear hw8
    obtain ⟨e0, e1, e2, e3⟩ := hB9.cells
    refine bodyPost_ret (v := .tuple #[.agg #[.int .i64 0, .string (B []), .int .i64 0, .slice none 0 0], .bool false]) ?_ rfl ?_
    · simp [results, Tryd.f69, go_sem, e0, e1, e2, e3]
    · rw [HEE.out.1, HEE.out.2]; exact hG
  case pos =>
    subst h0
    obtain ⟨hok, hsz, _⟩ := hwf rfl
    have HM2 := refRen_any l la lc hl t (by omega) hok 0 w5 [.int .i64 k, .string (B n), .int .i64 i, .slice a ts.length cap] (by omega) (by omega) h5 hE5
    clear hwf hok hsz hE5
    go_wp2_with fail
    refine HM2.mono ?_
    rintro e w6 ⟨k6, i6, n6, a6, l6, c6, rfl, hR6, hU6⟩
    have hr6 := hr5.kept hU6
    have hUw6 := hUw5.and hU6
    have hR7 := Rep.weaken (O' := fun x => x ≤ w.heap.size + 1) (fun b _ e => by omega) _ _ hR6
    clear y0 y1 y2 y3 z0 z1 z2 z3 HM2
    obtain ⟨y0, y1, y2, y3⟩ := hr6.cells
    obtain ⟨z0, z1, z2, z3⟩ := hr6.frozens
    have q6 := hr6.lt
    have hE : t.renB l = t.mvok (Tm.renF l) 0 := by rw [HB.out.1]; simp
    have hT : t.renT l = t.mvz (Tm.renF l) 0 := by rw [HB.out.2, hE]; rfl
    have HEE := hid (And.intro hE hT)
    clear hE hT
    generalize t.mvok (Tm.renF l) 0 = ok at *
    generalize t.mvz (Tm.renF l) 0 = u at *
    go_wp2_with fail
    obtain ⟨w8, hw8⟩ : ∃ w8, w8 = (((w6.setCell ⟨w.heap.size + 1, 0, none⟩ (.int .i64 k6)).setCell ⟨w.heap.size + 1, 1, none⟩ (.string (B n6))).setCell ⟨w.heap.size + 1, 2, none⟩ (.int .i64 i6)).setCell ⟨w.heap.size + 1, 3, none⟩ (.slice a6 l6 c6) := ⟨_, rfl⟩
    obtain ⟨hG, hB9⟩ := gives_set (r := .bool ok) hr6 (by omega) hUw6 hR7 hw8
    try rw [← show B [] = { data := #[] } from rfl]
    rw [← hw8]
    clear hw8
    obtain ⟨e0, e1, e2, e3⟩ := hB9.cells
    refine bodyPost_ret (v := .tuple #[.agg #[.int .i64 k6, .string (B n6), .int .i64 i6, .slice a6 l6 c6], .bool ok]) ?_ rfl ?_
    · simp [results, Tryd.f69, go_sem, e0, e1, e2, e3]
    · rw [HEE.out.1, HEE.out.2]; exact hG
end Go.Proofs.YtdcbgkmhlpkjiaaDoor

/- RenameMaps: its walk. -/
namespace Go.LF
theorem inv_length (l : List Int) (n : Int) : ((inv l n).getD []).length ≤ 1048576 := by
  unfold inv
  split
  · simp
  · rename_i h
    cases hq : invTo n.toNat l l.length with
    | none => simp
    | some out => have := invTo_length hq; simp only [Option.getD]; omega
theorem Tm.renT_size (t : Tm) (l : List Int) : (t.renT l).size ≤ t.size := by
  unfold Tm.renT
  split
  · rw [Tm.size_mv]; exact Nat.le_refl _
  · have := t.size_pos; simp [Tm.zero, Tm.sizes]; omega
end Go.LF
namespace Go.Proofs.YtdcbgkmhlpkjiaaDoor
open Go.RowKit Go.LF

theorem sevens_at {W : World} {b : Nat} {T' : TypeId} {fr : Nat × Nat} (h : W.heap[b]? = some (.cells #[.int .i64 0, .int .i64 1, .int .i64 3, .int .i64 5, .int .i64 8, .int .i64 (-1), .int .i64 1048577] T' fr)) (c : Nat) (hc : (c : Int) < 7) :
    ∃ i : Int, W.cell? ⟨b, c, none⟩ = some (.int .i64 i) := by
  have hcell : ∀ i, W.cell? ⟨b, i, none⟩ = (#[.int .i64 0, .int .i64 1, .int .i64 3, .int .i64 5, .int .i64 8, .int .i64 (-1), .int .i64 1048577] : Array Value)[i]? := fun i => by simp [World.cell?, h]
  match c, hc with
  | 0, _ => exact ⟨_, hcell 0⟩
  | 1, _ => exact ⟨_, hcell 1⟩
  | 2, _ => exact ⟨_, hcell 2⟩
  | 3, _ => exact ⟨_, hcell 3⟩
  | 4, _ => exact ⟨_, hcell 4⟩
  | 5, _ => exact ⟨_, hcell 5⟩
  | 6, _ => exact ⟨_, hcell 6⟩
  | n + 7, h => omega

set_option maxRecDepth 100000 in
set_option maxHeartbeats 8000000 in
theorem renMaps_walk (l : List Int) (a : Option Addr) (len cap : Nat) (hl : l.length = len) (hlen : len ≤ 17592186044416) (n0 n1 : Int) (l' : List Int) (a' : Option Addr) (len' cap' : Nat) (hl' : l'.length = len') (hlen' : len' ≤ 17592186044416) (sz : Int) (w : World)
    (hE : RepE none' w 1 (l.map (Dat.int .i64)) a 0) (hE' : RepE none' w 1 (l'.map (Dat.int .i64)) a' 0) (hN : NamesRead w) :
    Calls Tryd.prog 13 #[.slice a len cap, .agg #[.int .i64 n0, .int .i64 n1], .slice a' len' cap', .int .i64 sz] w fun e w' => e = .returned (.bool true) ∧ Upto none' w w' := by
  obtain ⟨w0, hw0⟩ : ∃ w0, w0 = w.alloc (.cells #[.int .i64 n0, .int .i64 n1] 58) := ⟨_, rfl⟩
  have hU0 : Upto none' w w0 := by rw [hw0]; exact (Upto.refl none' w).alloc _
  have hN0 : NamesRead w0 := by
    obtain ⟨v, h1, h2⟩ := hN
    exact ⟨v, hU0.cell h1 (fun x => x), h2.on hU0⟩
  have HM := made06_any l a len cap hl hlen n0 n1 w0 (hE.on hU0) hN0
  have HT := fun w' h => targets_any l' a' len' cap' hl' hlen' w' h
  have HC := fun (x n : Int) h0 h1 w => cut_any x n h0 h1 w
  have HW0 := hid hw0
  clear hE hN hN0 hl hlen hl' hlen' hw0
  go_enter Tryd.func13, Tryd.ntmps13
  go_wp2_with fail
  rw [← HW0.out]
  refine HM.mono ?_
  rintro e w1 ⟨k1, i1, n1', a1, len1, cap1, t, rfl, hR, hwt, hU⟩
  have hU1 := hU0.and hU
  clear HM hU hU0
  go_wp2_with fail
  refine (HT _ (hE'.on hU1)).mono ?_
  rintro e w2 ⟨ta, tcap, tl, rfl, htl8, hEt, hU⟩
  have hEt2 : RepE none' w2 1 (tl.map (Dat.int .i64)) ta 0 := RepE.weaken (fun _ _ x => x.elim) _ _ _ _ hEt
  have hR2 := hR.on hU
  have hU2 := hU1.and hU
  obtain ⟨w3, hw3⟩ : ∃ w3, w3 = w2.alloc (.cells #[.int .i64 k1, .string (B n1'), .int .i64 i1, .slice a1 len1 cap1] 25) := ⟨_, rfl⟩
  have hUa : Upto none' w2 w3 := by rw [hw3]; exact (Upto.refl none' w2).alloc _
  have hA3 : Box4 w3 w2.heap.size (.int .i64 k1) (.string (B n1')) (.int .i64 i1) (.slice a1 len1 cap1) 25 := by rw [hw3]; exact Box4.at_new rfl
  have hR3 := hR2.on hUa
  have hEt3 := hEt2.on hUa
  have hU3 := hU2.and hUa
  have HW3 := hid hw3
  have S1 := fun w' cs h h' => ren_any t (by omega) tl ta tcap (by omega) w' cs h h'
  have S2 := fun w' cs h h' => refRename_any t (by omega) tl ta tcap (by omega) w' cs h h'
  have S3 := fun z w' h' => invert_any tl ta tcap (by omega) z w' h'
  have S4 := fun z w' h' => refInvert_any tl ta tcap (by omega) z w' h'
  have hxs : (t.renT tl).size ≤ 1000000 := by have := t.renT_size tl; have := Tm.size_le_wt t; omega
  have Q1 := fun w' cs ds h h' => refSame_any (t.renT tl) hxs (t.renT tl) w' cs ds h h'
  rw [Tm.same_refl] at Q1
  generalize t.renT tl = x at *
  generalize t.renB tl = okx at *
  clear hxs hR2 hEt2 hEt hU hUa hU1 hU2 hR hE' HT hw3
  obtain ⟨x0, x1, x2, x3⟩ := hA3.cells
  go_wp2_with fail
  rw [← HW3.out]
  refine (S1 _ _ hR3 hEt3).mono ?_
  rintro e w4 ⟨k4, i4, n4, a4, len4, cap4, rfl, hR4, hU4⟩
  have hA4 := hA3.kept hU4
  have hRx4 := rep_pre hR4
  obtain ⟨w5, hw5⟩ : ∃ w5, w5 = w4.alloc (.cells #[.int .i64 k4, .string (B n4), .int .i64 i4, .slice a4 len4 cap4] 25) := ⟨_, rfl⟩
  have hUa : Upto none' w4 w5 := by rw [hw5]; exact (Upto.refl none' w4).alloc _
  have hB5 : Box4 w5 w4.heap.size (.int .i64 k4) (.string (B n4)) (.int .i64 i4) (.slice a4 len4 cap4) 25 := by rw [hw5]; exact Box4.at_new rfl
  have hRx5 := hRx4.on hUa
  have hR5 := (hR3.on hU4).on hUa
  have hEt5 := (hEt3.on hU4).on hUa
  have hU5 := (hU3.and hU4).and hUa
  have HW5 := hid hw5
  clear x0 x1 x2 x3 hw5
  obtain ⟨x0, x1, x2, x3⟩ := hA4.cells
  have q4 := hA4.lt
  clear hA3 hR3 hEt3 hU3 hU4 hUa hR4 hRx4 hA4 S1
  go_wp2_with fail
  rw [← HW5.out]
  refine (S2 _ _ hR5 hEt5).mono ?_
  rintro e w6 ⟨k6, i6, n6, a6, len6, cap6, rfl, hR6, hU6⟩
  have hB6 := hB5.kept hU6
  have hRy6 := rep_pre hR6
  obtain ⟨w7, hw7⟩ : ∃ w7, w7 = (w6.alloc (.cells #[.int .i64 k6, .string (B n6), .int .i64 i6, .slice a6 len6 cap6] 25)).alloc (.cells #[.int .i64 0, .int .i64 1, .int .i64 3, .int .i64 5, .int .i64 8, .int .i64 (-1), .int .i64 1048577] 3) := ⟨_, rfl⟩
  have hUa : Upto none' w6 w7 := by rw [hw7]; exact ((Upto.refl none' w6).alloc _).alloc _
  have hC7 : Box4 w7 w6.heap.size (.int .i64 k6) (.string (B n6)) (.int .i64 i6) (.slice a6 len6 cap6) 25 := by rw [hw7]; exact (Box4.at_new rfl).kept ((Upto.refl none' _).alloc _)
  have hs7 : w7.heap[w6.heap.size + 1]? = some (.cells #[.int .i64 0, .int .i64 1, .int .i64 3, .int .i64 5, .int .i64 8, .int .i64 (-1), .int .i64 1048577] 3 (0, 0)) := by
    have h1 := heap_alloc_new (w6.alloc (.cells #[.int .i64 k6, .string (B n6), .int .i64 i6, .slice a6 len6 cap6] 25)) (.cells #[.int .i64 0, .int .i64 1, .int .i64 3, .int .i64 5, .int .i64 8, .int .i64 (-1), .int .i64 1048577] 3)
    rw [← hw7] at h1
    simpa using h1
  have hB7 := hB6.kept hUa
  have hRx7 := (hRx5.on hU6).on hUa
  have hRy7 := hRy6.on hUa
  have hEt7 := (hEt5.on hU6).on hUa
  have hU7 := (hU5.and hU6).and hUa
  have HS7 := hid hs7
  have HW7 := hid hw7
  have q7 : w6.heap.size + 1 < w7.heap.size := (Array.getElem?_eq_some_iff.1 hs7).1
  clear x0 x1 x2 x3 hw7 hR5 hEt5 hU5 hU6 hUa hR6 hRy6 hRx5 hB5 hB6 S2 q4 hs7
  go_wp2_with fail
  rw [← HW7.out]
  refine (HC _ 7 (by omega) (by omega) _).mono ?_
  rintro e wd ⟨⟨c, hc, rfl⟩, rfl⟩
  obtain ⟨z, hz⟩ := sevens_at HS7.out c hc
  have hc0 : (0 : Int) ≤ (c : Int) := by omega
  have S3z := S3 z
  have S4z := S4 z
  have hil := inv_length tl z
  generalize inv tl z = iv at *
  clear S3 S4
  go_wp2_with fail
  refine (S3z _ hEt7).mono ?_
  rintro e w8 ⟨ua, ulen, ucap, rfl, hul, hEu, hU8⟩
  have hEt8 := hEt7.on hU8
  have hz8 := hU8.cell hz (fun x => x)
  go_wp2_with fail
  refine (S4z _ hEt8).mono ?_
  rintro e w9 ⟨va, vlen, vcap, rfl, hvl, hEv, hU9⟩
  obtain ⟨b, hb⟩ : ∃ b, b = iv.isSome := ⟨_, rfl⟩
  rw [← hb]
  have hEu9 : RepE none' w9 1 ((iv.getD []).map (Dat.int .i64)) ua 0 := (RepE.weaken (O' := none') (fun _ _ x => x.elim) _ _ _ _ hEu).on hU9
  have hEv9 : RepE none' w9 1 ((iv.getD []).map (Dat.int .i64)) va 0 := RepE.weaken (O' := none') (fun _ _ x => x.elim) _ _ _ _ hEv
  have hB9 := (hB7.kept hU8).kept hU9
  have hC9 := (hC7.kept hU8).kept hU9
  have hRx9 := (hRx7.on hU8).on hU9
  have hRy9 := (hRy7.on hU8).on hU9
  have hUw9 := (hU7.and hU8).and hU9
  generalize iv.getD [] = il at *
  subst hul
  obtain rfl : vlen = il.length := hvl.symm
  clear hvl hEu hEv hU8 hU9 hB7 hC7 hRx7 hRy7 hU7 hEt7 hEt8 S3z S4z hb hz hz8 HC
  have hbb : (b != b) = false := by simp
  have hll : ((il.length : Int) != (il.length : Int)) = false := by simp
  go_wp2_with fail
  go_loopw [20] (fun v20 wr => ∃ j : Nat, v20 = .int .i64 j ∧ j ≤ il.length ∧ Upto none' w9 wr) (fun v20 _ => il.length - (intOf v20).toNat)
  case atStart => exact ⟨0, rfl, Nat.zero_le _, Upto.refl _ _⟩
  case round =>
    obtain ⟨j, rfl, hj, hUj⟩ := hrel
    have hj0 : (0 : Int) ≤ (j : Int) := by omega
    by_cases hlt : j < il.length
    · have hj1 : (j : Int) < (il.length : Int) := by omega
      obtain ⟨ub, uo, rfl, _, _, cu⟩ := int_cell (hEu9.on hUj) j hlt
      obtain ⟨vb, vo, rfl, _, _, cv⟩ := int_cell (hEv9.on hUj) j hlt
      generalize il[j] = x5 at *
      have hxx : (x5 != x5) = false := by simp
      go_wp2_with fail
      go_region
      all_goals
        go_wp2_with fail
        refine ⟨⟨j + 1, by go_num, hlt, hUj.drew⟩, ?_⟩
        simp [intOf]; omega
    · have hj1 : ¬ (j : Int) < (il.length : Int) := by omega
      have hBj := hB9.kept hUj
      have hCj := hC9.kept hUj
      have hoo : (okx == okx) = true := by simp
      obtain ⟨x0, x1, x2, x3⟩ := hBj.cells
      obtain ⟨y0, y1, y2, y3⟩ := hCj.cells
      go_wp2_with fail
      refine (Q1 _ _ _ (hRx9.on hUj) (hRy9.on hUj)).mono ?_
      rintro e w11 ⟨rfl, hU11⟩
      go_wp2_with fail
      refine (awake06 _).mono ?_
      rintro e w13 ⟨rfl, hU13⟩
      go_wp2
      go_ret
      exact ⟨rfl, ((hUw9.and hUj).and hU11).and hU13⟩
end Go.Proofs.YtdcbgkmhlpkjiaaDoor

namespace Go.Proofs.YtdcbgkmhlpkjiaaDoor
open Go.ChangeShapes Go.WideShapes Go.ChangeAt Go.RowKit Go.LF

set_option maxRecDepth 100000 in
theorem renameMaps_lifted (os : Os) (started : os.Started) (H : Type) (enc : TypeId × Value → H) :
    ReturnsInHanded {} Tryd.checked os 13 .any (fun w args => (Rows.renameMapsSpec.pre enc Tryd.prog Tryd.f13 [] false w args ∧ laidMetH Tryd.prog [("lfcheck/lfcheckmade.names", Rows.laid_lfcheck_lfcheckmade_names)] w) ∧ sizedMet enc Tryd.prog Tryd.f13 (OpenSpec.ofChange Rows.renameMapsSpec) false w args)
      (Rows.renameMapsSpec.post enc Tryd.prog Tryd.f13 false true false false) := by
  refine returnsInHanded_of_change_and (C := Tryd.checked) (X := fun w _ => laidMetH Tryd.prog [("lfcheck/lfcheckmade.names", Rows.laid_lfcheck_lfcheckmade_names)] w) (fun _ _ _ hh h => h.of_heap hh) own started (by kernel_rfl) Tryd.func13
    (ChangeSpec.witness_shaped (enc := enc) (C := Tryd.checked) (os := os) (X := fun w _ => laidMetH Tryd.prog [("lfcheck/lfcheckmade.names", Rows.laid_lfcheck_lfcheckmade_names)] w) false (World.doorLaid Tryd.prog 400 os) #[.slice none 0 0, .agg #[.int .i64 0, .int .i64 0], .slice none 0 0, .int .i64 0] 8 rfl (World.shaped_of_RefB (by kernel_rfl) (by kernel_rfl)) (by kernel_rfl) (by kernel_rfl) (by kernel_rfl) (door_met os _)) ?_
  intro W base args ds gs before hval0 hW _ hsz0 hL _
  have hsz : (DataW.weightsEach Tryd.prog (Tryd.f13.params.toList ++ Rows.renameMapsSpec.plain.varTypes Tryd.prog) (ds ++ gs)).all (· ≤ reachBytes) = true := hsz0
  clear hsz0
  have hval : ∀ (j : Nat) t v, Tryd.f13.params[j]? = some t → args[j]? = some v → Value.okWide Tryd.prog W .any base t v := hval0
  have hW' := hW
  obtain ⟨p, q, hA0, hV, rfl, hfz, hnd⟩ := hW
  have hA : DataW.TrodAll enc Tryd.prog W 0 (fun _ => true) true Tryd.f13.params.toList args.toList ds p := hA0
  rw [Tryd.params13] at hA hval hsz
  obtain ⟨v0, vs0, d0, ds0, p0, q0, hargs, rfl, rfl, h0, r0⟩ := trodAll_cons hA
  obtain ⟨v1, vs1, d1, ds1, p1, q1, rfl, rfl, rfl, h1, r1⟩ := trodAll_cons r0
  obtain ⟨v2, vs2, d2, ds2, p2, q2, rfl, rfl, rfl, h2, r2⟩ := trodAll_cons r1
  obtain ⟨v3, vs3, d3, ds3, p3, q3, rfl, rfl, rfl, h3, r3⟩ := trodAll_cons r2
  obtain ⟨rfl, rfl, rfl⟩ := trodAll_nil r3
  obtain rfl : args = #[v0, v1, v2, v3] := Array.ext' hargs
  obtain ⟨rfl, rfl⟩ := trodVars_none hV
  clear hA0 hval0
  simp only [List.append_nil] at hW'
  have hlt : ∀ x, x ∈ p0 ∨ x ∈ p1 ∨ x ∈ p2 ∨ x ∈ p3 → x.block < W.heap.size := fun x hx => hW'.lt x (by simpa [List.mem_append, or_assoc] using hx)
  have hNR := names_of_laid hL
  have h0k := h0
  obtain ⟨a0, len0, cap0, rfl⟩ := okWide_slice Tryd.underlying22 (hval 0 22 v0 rfl rfl)
  obtain ⟨l0, hl0, _, hlen0, hE0⟩ := ints_arg h0 hsz (j := 0) rfl rfl
  have h1k := h1
  obtain ⟨x1_0, x1_1, rfl⟩ := arr2_arg (hval 1 58 v1 rfl rfl) h1
  have h2k := h2
  obtain ⟨a2, len2, cap2, rfl⟩ := okWide_slice Tryd.underlying22 (hval 2 22 v2 rfl rfl)
  obtain ⟨l2, hl2, _, hlen2, hE2⟩ := ints_arg h2 hsz (j := 2) rfl rfl
  obtain ⟨n3, rfl, rfl, rfl, wf3⟩ := open_int Tryd.underlying3 (hval 3 3 v3 rfl rfl) h3
  refine (renMaps_walk l0 a0 len0 cap0 hl0 hlen0 x1_0 x1_1 l2 a2 len2 cap2 hl2 hlen2 n3 W hE0 hE2 hNR).mono fun e W' ⟨he, hU⟩ => ?_
  subst he
  have hb := Upto.toBelow hU
  exact ⟨_, rfl, _, _, _, [], _, [], hW', (trodAll_cons_mk (shut_bool Tryd.underlying4 _) trodAll_mk0), (trodAll_cons_mk (Below.trod laidOut (by kernel_rfl) (of_decide_eq_true (by kernel_rfl)) h0k hb (fun x hx => hlt x (by simp [hx]))) (trodAll_cons_mk (Below.trod laidOut (by kernel_rfl) (of_decide_eq_true (by kernel_rfl)) h1k hb (fun x hx => hlt x (by simp [hx]))) (trodAll_cons_mk (Below.trod laidOut (by kernel_rfl) (of_decide_eq_true (by kernel_rfl)) h2k hb (fun x hx => hlt x (by simp [hx]))) (trodAll_cons_mk (shut_int Tryd.underlying3 wf3) trodAll_mk0)))), rfl, hb.frame _, fun h => by cases h⟩

theorem renameMaps_holds : Rows.RenameMapsSaid :=
  OpenClaim.holds_of_wide 13 Tryd.f13 rfl rfl rfl rfl rfl rfl rfl ⟨rfl, rfl, rfl, rfl, rfl⟩ rfl rfl rfl rfl rfl (by kernel_rfl) Tryd.func13 (by kernel_rfl)
    (of_decide_eq_true (by kernel_rfl)) (by unfold Func.isWrapper; first | (rw [if_pos (by decide +kernel)]; kernel_rfl) | (rw [if_neg (by decide +kernel)]; exact ⟨rfl, rfl⟩))
    (fun os started H enc _ => renameMaps_lifted os started H enc)

theorem renameMaps_card_holds : Rows.RenameMapsCardSaid :=
  Claim7.holds_tied_plain_at .later [] [.data] true Rows.renameMapsCard.stood.harness false
    renameMaps_holds (fun _ h => by cases h) (by kernel_rfl) (fun _ h => by cases h) renameMaps_row_tie rfl ⟨rfl, rfl⟩ (by kernel_rfl) rfl
    (fun f fn hf hfn => by
      obtain rfl : f = 13 := Option.some.inj ((show Tryd.prog.funcNamed Rows.renameMapsRow.func = some 13 by kernel_rfl).symm.trans hf) |>.symm
      obtain rfl : fn = Tryd.f13 := (Option.some.inj (Tryd.func13.symm.trans hfn)).symm
      exact ⟨by kernel_rfl, fun j t ht => by
        rw [Tryd.params13] at ht
        have hm : t ∈ [22, 58, 22, 3] := by simpa using Array.mem_of_getElem? ht
        have hall : ([22, 58, 22, 3].all fun u => !Tryd.prog.wantsStandIn u) = true := by kernel_rfl
        exact (show Tryd.prog.wantsStandIn t = false by simpa using List.all_eq_true.1 hall t hm)⟩)
    (by kernel_rfl)
end Go.Proofs.YtdcbgkmhlpkjiaaDoor
