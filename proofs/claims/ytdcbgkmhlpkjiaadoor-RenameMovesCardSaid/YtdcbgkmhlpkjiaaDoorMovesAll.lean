/- For every input RenameMoves returns true, and each argument reads afterwards as it read before; the package's names of binders are as its own text lays them (the card ties that). No other conditions. -/
import Derived.Test.YtdcbgkmhlpkjiaaDoorArgs
import Derived.Test.YtdcbgkmhlpkjiaaDoorRen06A
import Derived.Test.YtdcbgkmhlpkjiaaDoorRefA
import Derived.Test.YtdcbgkmhlpkjiaaDoorRefWf
import Derived.Test.YtdcbgkmhlpkjiaaDoorRefBinds
import Derived.Test.YtdcbgkmhlpkjiaaDoorMade05All
import Derived.Test.YtdcbgkmhlpkjiaaDoorRefSame
import Derived.Test.YtdcbgkmhlpkjiaaDoorCards
import Derived.Test.YtdcbgkmhlpkjiaaDoorTie
import Derived.Deep.RegionLaw
import Derived.Deep.CutRange
import Derived.Deep.RegionHeld3
import Derived.Deep.AppendLies
/- Arguments that are arrays of numbers. -/
namespace Go.Proofs.YtdcbgkmhlpkjiaaDoor
open Go.ChangeShapes Go.WideShapes Go.ChangeAt Go.RowKit Go.LF

theorem ints_of_cells : ∀ (l : List Value), (∀ i, i < l.length → ∃ a : Int, l[i]? = some (.int .i64 a)) → ∃ xs : List Int, l = xs.map (Value.int .i64)
  | [], _ => ⟨[], rfl⟩
  | v :: l, h => by
    obtain ⟨a, ha⟩ := h 0 (by simp)
    obtain ⟨xs, hx⟩ := ints_of_cells l (fun i hi => by simpa using h (i + 1) (by simp; omega))
    simp at ha
    exact ⟨a :: xs, by simp [ha, hx]⟩
set_option maxRecDepth 100000 in
theorem arr_arg {H : Type} {enc : TypeId × Value → H} {W : World} {v : Value} {d : DataW H} {p : List MemPlace} {k : TypeId} {n b0 : Nat} (hu : Tryd.prog.underlying k = some (.array n 3)) (hk : Tryd.prog.cellsOf k = n)
    (hval : Value.okWide Tryd.prog W .any b0 k v) (hd : DataW.Trod enc Tryd.prog W 0 (fun _ => true) true k v d p) : ∃ xs : List Int, xs.length = n ∧ v = .agg (xs.map (Value.int .i64)).toArray := by
  simp only [Value.okWide, hu] at hval
  obtain ⟨cs, rfl, _, _⟩ := hval
  obtain ⟨fuel, hf⟩ := hd
  obtain ⟨ys, m, _, _, hc, hy, hz⟩ := DataW.trod_array hu hf
  simp only [cells_int, Nat.mul_one] at hz
  have hcl : (Value.agg cs).cells.toList = cs.toList := by simp [Value.cells]
  have key : ∀ i, i < n → ∃ a : Int, cs.toList[i]? = some (.int .i64 a) := by
    intro i hi
    have h1 := hz i hi
    rw [List.getElem?_eq_getElem (show i < ys.length by omega)] at h1
    obtain ⟨a, ea, _, _⟩ := DataW.trod_int Tryd.underlying3 h1
    rw [hcl] at ea
    have h0 : ((cs.toList.drop i).take 1)[0]? = some (.int .i64 a) := by rw [ea]; rfl
    rw [List.getElem?_take_of_lt (by omega), List.getElem?_drop, Nat.add_zero] at h0
    exact ⟨a, h0⟩
  have hn : cs.toList.length = n := by rw [← hcl, hc, hk]
  obtain ⟨xs, hx⟩ := ints_of_cells cs.toList (fun i hi => key i (by omega))
  refine ⟨xs, ?_, ?_⟩
  · rw [← hn, hx]; simp
  · rw [← hx]
set_option maxRecDepth 100000 in
theorem arr2_arg {H : Type} {enc : TypeId × Value → H} {W : World} {v : Value} {d : DataW H} {p : List MemPlace} {b0 : Nat} (hval : Value.okWide Tryd.prog W .any b0 58 v) (hd : DataW.Trod enc Tryd.prog W 0 (fun _ => true) true 58 v d p) :
    ∃ x0 x1 : Int, v = .agg #[.int .i64 x0, .int .i64 x1] := by
  obtain ⟨xs, h1, h2⟩ := arr_arg (n := 2) Tryd.underlying58 (by kernel_rfl) hval hd
  match xs, h1 with
  | [x0, x1], _ => exact ⟨x0, x1, h2⟩
set_option maxRecDepth 100000 in
theorem arr5_arg {H : Type} {enc : TypeId × Value → H} {W : World} {v : Value} {d : DataW H} {p : List MemPlace} {b0 : Nat} (hval : Value.okWide Tryd.prog W .any b0 72 v) (hd : DataW.Trod enc Tryd.prog W 0 (fun _ => true) true 72 v d p) :
    ∃ x0 x1 x2 x3 x4 : Int, v = .agg #[.int .i64 x0, .int .i64 x1, .int .i64 x2, .int .i64 x3, .int .i64 x4] := by
  obtain ⟨xs, h1, h2⟩ := arr_arg (n := 5) Tryd.underlying72 (by kernel_rfl) hval hd
  match xs, h1 with
  | [x0, x1, x2, x3, x4], _ => exact ⟨x0, x1, x2, x3, x4, h2⟩
end Go.Proofs.YtdcbgkmhlpkjiaaDoor

/- RenameBack, RenameInverts, RenameComposes, as plain data. -/
namespace Go.LF.Tm

theorem mvok_of (f : To) (t : Tm) (h : ∀ x ∈ nodes 0 t, x.k = 5 → x.b ≤ x.i → (f (x.i - x.b)).2 = true ∧ 0 ≤ (f (x.i - x.b)).1 ∧ (f (x.i - x.b)).1 ≤ 1048576 - x.b) : mvok f 0 t = true := by
  rw [mvok_nodes, List.all_eq_true]
  intro x hx
  unfold oki
  by_cases hk : x.k = 5 ∧ x.b ≤ x.i
  · obtain ⟨h1, h2, h3⟩ := h x hx hk.1 hk.2
    simp [h1, h2, h3]
  · have : (x.k == 5 && decide (x.b ≤ x.i)) = false := by rw [Bool.eq_false_iff]; intro e; exact hk (by simpa using e)
    rw [this]; rfl
theorem mvok_mv_of (f g : To) (t : Tm) (h : ∀ x ∈ nodes 0 t, x.k = 5 → x.b ≤ x.i → 0 ≤ (f (x.i - x.b)).1 ∧ (g (f (x.i - x.b)).1).2 = true ∧ 0 ≤ (g (f (x.i - x.b)).1).1 ∧ (g (f (x.i - x.b)).1).1 ≤ 1048576 - x.b) : mvok g 0 (mv f 0 t) = true := by
  refine mvok_of g _ ?_
  rw [nodes_mv]
  intro y hy
  obtain ⟨x, hx, rfl⟩ := List.mem_map.1 hy
  simp only
  intro h5 hbi
  unfold mvi at hbi ⊢
  by_cases hk : x.k = 5 ∧ x.b ≤ x.i
  · rw [if_pos hk]
    obtain ⟨h1, h2, h3, h4⟩ := h x hx hk.1 hk.2
    rw [show (f (x.i - x.b)).1 + x.b - x.b = (f (x.i - x.b)).1 by omega]
    exact ⟨h2, h3, h4⟩
  · rw [if_neg hk] at hbi
    exact absurd ⟨h5, hbi⟩ hk
theorem mvi_eq {f g : To} {x : Nd0} (h : x.k = 5 → x.b ≤ x.i → (f (x.i - x.b)).1 = (g (x.i - x.b)).1) : mvi f x.b x.k x.i = mvi g x.b x.k x.i := by
  unfold mvi
  by_cases hk : x.k = 5 ∧ x.b ≤ x.i
  · rw [if_pos hk, if_pos hk, h hk.1 hk.2]
  · rw [if_neg hk, if_neg hk]
/-- The free variables of a term that a law makes, and the binders around its nodes. -/
theorem FitsA.free {t : Tm} {sz v m : Nat} (h : FitsA t sz v m) (hs : sz ≤ 4096) : ∀ x ∈ nodes 0 t, x.k = 5 → x.b ≤ x.i → 0 ≤ x.i - x.b ∧ x.i - x.b < v ∧ 0 ≤ x.b ∧ x.b ≤ 4096 := by
  intro x hx hk hb
  have h1 := free_lt t x hx hk
  have h2 := nodes_b t 0 x hx
  have := h.scope
  have := h.size
  omega
theorem shiftF_small {a c v : Int} (ha : 0 ≤ a) (ha2 : a ≤ 1048576) (hv : 0 ≤ v) (hv2 : v ≤ 1048576) : shiftF a c v = (if v < c then v else v + a, true) := by
  unfold shiftF
  by_cases h : v < c
  · rw [if_pos h, if_pos h]
  · rw [if_neg h, if_neg h, decide_eq_true ha2]
    congr 1
    unfold Go.RowKit.wrap64
    omega

theorem back {t : Tm} {sz m : Nat} (h : FitsA t sz 5 m) (hs : sz ≤ 4096) (a b c : Nat) (ha : a ≤ 8) (hb : b ≤ 8) (hc : c ≤ 6) :
    ∃ x y : Tm, t.shiftE a c = 0 ∧ t.shiftT a c = x ∧ x.lowerB c a = true ∧ x.lowerT c a = t ∧ x.shiftE b c = 0 ∧ x.shiftT b c = y ∧ t.shiftE ((a + b : Nat) : Int) c = 0 ∧ t.shiftT ((a + b : Nat) : Int) c = y ∧ x.wt = t.wt ∧ y.wt = t.wt := by
  have hf := h.free hs
  have hw := h.wf hs
  have sh : ∀ (t : Tm) (d : Nat), t.wf = 0 → mvok (shiftF d c) 0 t = true → t.shiftE d c = 0 ∧ t.shiftT d c = mv (shiftF d c) 0 t := by
    intro t d hw hm
    have e : t.shiftE d c = 0 := by unfold shiftE; rw [hw, if_neg (by omega), if_neg (by omega), hm]; rfl
    exact ⟨e, by unfold shiftT; rw [e, if_pos rfl]⟩
  have ok1 : ∀ d : Nat, d ≤ 100 → mvok (shiftF d c) 0 t = true := by
    intro d hd
    refine mvok_of _ _ (fun x hx hk hb => ?_)
    have := hf x hx hk hb
    rw [shiftF_small (by omega) (by omega) (by omega) (by omega)]
    refine ⟨rfl, ?_⟩
    simp only
    split <;> omega
  have wx : (mv (shiftF a c) 0 t).wf = 0 := wf_mv _ _ hw (ok1 a (by omega))
  have ok2 : mvok (shiftF b c) 0 (mv (shiftF a c) 0 t) = true := by
    refine mvok_mv_of _ _ _ (fun x hx hk hb => ?_)
    have := hf x hx hk hb
    rw [shiftF_small (a := a) (by omega) (by omega) (by omega) (by omega)]
    simp only
    by_cases hv : x.i - x.b < (c : Int)
    · rw [if_pos hv, shiftF_small (by omega) (by omega) (by omega) (by omega), if_pos hv]
      refine ⟨by omega, rfl, ?_, ?_⟩ <;> simp only <;> omega
    · rw [if_neg hv, shiftF_small (by omega) (by omega) (by omega) (by omega), if_neg (by omega)]
      refine ⟨by omega, rfl, ?_, ?_⟩ <;> simp only <;> omega
  have nn : ∀ x ∈ nodes 0 t, x.k = 5 → x.b ≤ x.i → 0 ≤ (shiftF a c (x.i - x.b)).1 := by
    intro x hx hk hb
    have := hf x hx hk hb
    rw [shiftF_small (by omega) (by omega) (by omega) (by omega)]
    simp only
    split <;> omega
  have ok3 : mvok (lowerF c a) 0 (mv (shiftF a c) 0 t) = true := by
    refine mvok_mv_of _ _ _ (fun x hx hk hb => ?_)
    have := hf x hx hk hb
    rw [shiftF_small (a := a) (by omega) (by omega) (by omega) (by omega)]
    simp only
    unfold lowerF
    by_cases hv : x.i - x.b < (c : Int)
    · rw [if_pos hv, if_pos hv]
      refine ⟨by omega, rfl, ?_, ?_⟩ <;> simp only <;> omega
    · rw [if_neg hv, if_neg (by omega)]
      refine ⟨by omega, by simp only [decide_eq_true_eq]; omega, ?_, ?_⟩ <;> simp only <;> omega
  obtain ⟨e1, e2⟩ := sh t a hw (ok1 a (by omega))
  obtain ⟨e3, e4⟩ := sh _ b wx ok2
  obtain ⟨e5, e6⟩ := sh t (a + b) hw (ok1 (a + b) (by omega))
  have hlB : (mv (shiftF a c) 0 t).lowerB c a = true := by unfold lowerB; rw [ok3, wx, decide_eq_true (by omega), decide_eq_true (by omega)]; rfl
  refine ⟨_, _, e1, e2, hlB, ?_, e3, e4, e5, ?_, wt_mv _ _ _, by rw [wt_mv, wt_mv]⟩
  · unfold lowerT
    rw [hlB, if_pos rfl, mv_mv _ _ _ _ nn]
    refine mv_id _ _ _ (fun x hx => ?_)
    refine (mvi_eq (g := fun i => (i, true)) (fun hk hb => ?_)).trans (mvi_id _ _ _)
    have := hf x hx hk hb
    rw [shiftF_small (by omega) (by omega) (by omega) (by omega)]
    simp only
    unfold lowerF
    by_cases hv : x.i - x.b < (c : Int)
    · rw [if_pos hv, if_pos hv]
    · rw [if_neg hv, if_neg (by omega)]; simp only; omega
  · rw [e6, mv_mv _ _ _ _ nn]
    refine mv_congr _ _ _ _ (fun x hx => mvi_eq (fun hk hb => ?_))
    have := hf x hx hk hb
    rw [shiftF_small (by omega) (by omega) (by omega) (by omega), shiftF_small (a := a) (by omega) (by omega) (by omega) (by omega)]
    simp only
    by_cases hv : x.i - x.b < (c : Int)
    · rw [if_pos hv, if_pos hv, shiftF_small (by omega) (by omega) (by omega) (by omega), if_pos hv]
    · rw [if_neg hv, if_neg hv, shiftF_small (by omega) (by omega) (by omega) (by omega), if_neg (by omega)]; simp only; omega
end Go.LF.Tm

/- The reference's Move. -/
namespace Go.LF.Tm
/-- What the reference's Move does to a number. -/
def shF (by' from' : Int) : To := fun v => (if v < from' then v else v + by', true)
end Go.LF.Tm
namespace Go.Proofs.YtdcbgkmhlpkjiaaDoor
open Go.RowKit Go.LF

/-- A call hands back this term, in new blocks. -/
def NewTm (u : Tm) (w : World) (e : Ending) (w' : World) : Prop :=
  ∃ (k i : Int) (n : List UInt8) (a : Option Addr) (len cap : Nat), e = .returned (.agg #[.int .i64 k, .string (B n), .int .i64 i, .slice a len cap]) ∧
    Rep (fun x => x < w.heap.size) w' u.dat [.int .i64 k, .string (B n), .int .i64 i, .slice a len cap] ∧ Upto none' w w'

/-- The end of a round: one term more. -/
theorem move_end {base H : Nat} {w wr w5 w6 w7 : World} {v r0 r1 r2 r3 t0 t1 t2 t3 : Value} {us : List Tm} {css : List (List Value)} {u : Tm} {k mi k1 i1 : Int} {nm n1 : List UInt8} {a1 : Option Addr} {len1 cap1 g cap' : Nat}
    (hts : Terms base wr v us css) (hout : Box4 wr (H + 1 + 1) (.int .i64 k) (.string (B nm)) (.int .i64 mi) v 25) (htb : Box4 wr H t0 t1 t2 t3 25) (hrb : Box4 wr (H + 1) r0 r1 r2 r3 25) (hU : Upto none' w wr) (hw : w.heap.size = H) (hbase : H + 1 + 1 < base) (hbr : base ≤ wr.heap.size)
    (hU6' : Upto none' wr w6) (h5 : wr.heap.size ≤ w5.heap.size) (hR6 : Rep (fun x => x < w5.heap.size) w6 u.dat [.int .i64 k1, .string (B n1), .int .i64 i1, .slice a1 len1 cap1])
    (hown : w7.ownsRow base 25 4 (.slice (some ⟨g, 0, none⟩) (us.length + 1) cap') (us.length + 1) (css.flatten ++ [.int .i64 k1, .string (B n1), .int .i64 i1, .slice a1 len1 cap1])) (hgrow : (w6.alloc (.cells #[.int .i64 k1, .string (B n1), .int .i64 i1, .slice a1 len1 cap1] 25)).grownBy w7 v.ownBlock)
    (hat : v.ownBlock = some g ∨ g = (w6.alloc (.cells #[.int .i64 k1, .string (B n1), .int .i64 i1, .slice a1 len1 cap1] 25)).heap.size) :
    ∃ (v' : Value) (css' : List (List Value)), Terms base (w7.setCell ⟨H + 1 + 1, 3, none⟩ (.slice (some ⟨g, 0, none⟩) (us.length + 1) cap')) v' (us ++ [u]) css' ∧
      Box4 (w7.setCell ⟨H + 1 + 1, 3, none⟩ (.slice (some ⟨g, 0, none⟩) (us.length + 1) cap')) (H + 1 + 1) (.int .i64 k) (.string (B nm)) (.int .i64 mi) v' 25 ∧
      Box4 (w7.setCell ⟨H + 1 + 1, 3, none⟩ (.slice (some ⟨g, 0, none⟩) (us.length + 1) cap')) H t0 t1 t2 t3 25 ∧ Box4 (w7.setCell ⟨H + 1 + 1, 3, none⟩ (.slice (some ⟨g, 0, none⟩) (us.length + 1) cap')) (H + 1) r0 r1 r2 r3 25 ∧
      Upto none' w (w7.setCell ⟨H + 1 + 1, 3, none⟩ (.slice (some ⟨g, 0, none⟩) (us.length + 1) cap')) ∧ base ≤ (w7.setCell ⟨H + 1 + 1, 3, none⟩ (.slice (some ⟨g, 0, none⟩) (us.length + 1) cap')).heap.size := by
  have hal : Upto none' w6 (w6.alloc (.cells #[.int .i64 k1, .string (B n1), .int .i64 i1, .slice a1 len1 cap1] 25)) := (Upto.refl none' w6).alloc _
  have hup := hU6'.and hal
  have hts6' := hts.on hup
  have hou7 := (hout.kept hup).row hgrow hts6' (by omega)
  have hR6' : Rep (fun b => b < base ∨ v.ownBlock = some b) (w6.alloc (.cells #[.int .i64 k1, .string (B n1), .int .i64 i1, .slice a1 len1 cap1] 25)) u.dat [.int .i64 k1, .string (B n1), .int .i64 i1, .slice a1 len1 cap1] := by
    refine (Rep.weaken (fun b _ e => ?_) _ _ hR6).new _
    rcases e with e | e
    · omega
    · have := (hts.2.2.1.lt b e).2; omega
  have hT7 := hts6'.appended rfl hR6' hown hgrow hat (Nat.le_refl _)
  have hset7 : Upto (fun b => b = H + 1 + 1) w7 (w7.setCell ⟨H + 1 + 1, 3, none⟩ (.slice (some ⟨g, 0, none⟩) (us.length + 1) cap')) := Upto.set (Upto.refl _ _) 3 _
  have hrow7 := Upto.ofRow (RowUp.grown hts6'.2.2.1 hgrow)
  have htb7 := ((htb.kept hup).keep hrow7 (by omega)).keep hset7 (by omega)
  have hrb7 := ((hrb.kept hup).keep hrow7 (by omega)).keep hset7 (by omega)
  have hU7 := ((hU.and hup).trans hrow7 (fun b hb e => by omega)).trans hset7 (fun b hb e => by omega)
  have hs1 := hset7.size
  have hs2 := hrow7.size
  have hs3 := hup.size
  exact ⟨_, _, hT7.keep hset7 (fun b e => by omega), hou7.set3 _, htb7, hrb7, hU7, by omega⟩

set_option maxRecDepth 100000 in
set_option maxHeartbeats 16000000 in
theorem refMove_any (by' from' : Int) (hb0 : 0 ≤ by') (hb1 : by' ≤ 1048576) (hf0 : 0 ≤ from') (hf1 : from' ≤ 1048576) (t : Tm) : t.size ≤ 100000 → (∀ b, ∀ x ∈ t.nodes b, x.ok) → ∀ (b F : Int) (w : World) (cs : List Value), 0 ≤ b → b + t.size ≤ 1000000 → F = from' + b →
    Rep none' w t.dat cs → Calls Tryd.prog 102 #[.agg cs.toArray, .int .i64 by', .int .i64 F] w (NewTm (t.mv (Tm.shF by' from') b) w) := by
  induction t using Tm.ind with
  | h k nm i ts ih =>
    intro hsz hok b F w cs h0 h1 hFF hR
    obtain ⟨a, cap, rfl, hcap, hE⟩ := rep_tm.1 hR
    have hlen := Tm.length_le_sizes ts
    simp only [Tm.size_mk] at hsz h1
    have hoks := Tm.args_ok hok
    have hno := hok b
    rw [Tm.nodes_mk] at hno
    have hi5 : k = 5 → 0 ≤ i ∧ i ≤ 1048576 := fun e => (hno _ (List.mem_cons_self ..)).1 (by simp [e])
    obtain ⟨i0, hi, hi0, hi1, hi2⟩ := info_parts info_term
    obtain ⟨w2, hw2⟩ : ∃ w2, w2 = ((w.alloc (.cells #[.int .i64 k, .string (B nm), .int .i64 i, .slice a ts.length cap] 25)).alloc (.cells #[.int .i64 0, .string (B []), .int .i64 0, .slice none 0 0] 25)).alloc (.cells #[.int .i64 k, .string (B nm), .int .i64 i, .slice none 0 0] 25) := ⟨_, rfl⟩
    have hU2 : Upto none' w w2 := by rw [hw2]; exact (((Upto.refl none' w).alloc _).alloc _).alloc _
    have ht2 : Box4 w2 w.heap.size (.int .i64 k) (.string (B nm)) (.int .i64 i) (.slice a ts.length cap) 25 := by rw [hw2]; exact ((Box4.at_new rfl).kept ((Upto.refl none' _).alloc _)).kept ((Upto.refl none' _).alloc _)
    have hr2 : Box4 w2 (w.heap.size + 1) (.int .i64 0) (.string (B [])) (.int .i64 0) (.slice none 0 0) 25 := by rw [hw2]; exact (Box4.at_new (by simp)).kept ((Upto.refl none' _).alloc _)
    have ho2 : Box4 w2 (w.heap.size + 1 + 1) (.int .i64 k) (.string (B nm)) (.int .i64 i) (.slice none 0 0) 25 := by rw [hw2]; exact Box4.at_new (by simp)
    obtain ⟨t0, t1, t2, t3⟩ := ht2.cells
    obtain ⟨o0, o1, o2, o3⟩ := ho2.cells
    obtain ⟨f0, f1, f2, f3⟩ := ho2.frozens
    have hz2 := ho2.lt
    have HW2 := hid hw2
    have HW := hid (And.intro hsz h1)
    obtain ⟨c24, hc24⟩ : ∃ c, c = (k == 5 && decide (F ≤ i)) := ⟨_, rfl⟩
    have hways : ((k == 5) = true ∧ F ≤ i) ∨ ((k == 5) = true ∧ i < F) ∨ (k == 5) = false := by
      by_cases h : k = 5
      · by_cases h' : F ≤ i
        · exact .inl ⟨by simp [h], h'⟩
        · exact .inr (.inl ⟨by simp [h], by omega⟩)
      · exact .inr (.inr (by simp [h]))
    have HC := hid hc24
    have HY := hid hways
    have hF0 : 0 ≤ F := by omega
    have hF1 : F ≤ 3000000 := by omega
    have HFF := hid hFF
    clear hw2 hR hno hok hc24 hways hFF
    go_enter Tryd.func102, Tryd.ntmps102
    go_upto_region 2 with fail
    rw [← HW2.out]
    go_cut [24] from 9 to 24 (fun v24 wx => v24 = .bool c24 ∧ w2 = wx)
    case first =>
      rcases HY.out with ⟨h5, hbi⟩ | ⟨h5, hbi⟩ | h5
      all_goals
        go_wp2_with fail
        go_meet
        case rel => exact ⟨by rw [HC.out]; simp [h5] <;> omega, rfl⟩
    case rest =>
      obtain ⟨rfl, rfl⟩ := hcut
      go_upto_if 24 with fail
      go_cut [] from 9 to 29 (fun wc => Box4 wc w.heap.size (.int .i64 k) (.string (B nm)) (.int .i64 i) (.slice a ts.length cap) 25 ∧ Box4 wc (w.heap.size + 1) (.int .i64 0) (.string (B [])) (.int .i64 0) (.slice none 0 0) 25 ∧
        Box4 wc (w.heap.size + 1 + 1) (.int .i64 k) (.string (B nm)) (.int .i64 (Tm.mvi (Tm.shF by' from') b k i)) (.slice none 0 0) 25 ∧ Upto none' w wc)
      case first =>
        cases c24
        · go_wp2_with fail
          go_meet
          case rel =>
            have hc := HC.out
            have e : Tm.mvi (Tm.shF by' from') b k i = i := by
              unfold Tm.mvi
              by_cases hk : k = 5 ∧ b ≤ i
              · rw [if_pos hk]
                have hn : ¬ F ≤ i := fun e => by simp [hk.1, e] at hc
                unfold Tm.shF
                have := HFF.out
                simp only
                rw [if_pos (by omega)]
                omega
              · rw [if_neg hk]
            exact ⟨ht2, hr2, by rw [e]; exact ho2, hU2⟩
        · have hki : k = 5 ∧ F ≤ i := by have := HC.out; simpa using this.symm
          obtain ⟨hk5, hbi⟩ := hki
          have hi6 := hi5 hk5
          have e : Tm.mvi (Tm.shF by' from') b k i = i + by' := by
            have := HFF.out
            unfold Tm.mvi
            rw [if_pos ⟨hk5, by omega⟩]
            unfold Tm.shF
            simp only
            rw [if_neg (by omega)]
            omega
          have HEe := hid e
          clear e hi5 hk5
          go_wp2_with fail
          go_meet
          case rel => exact ⟨ht2.other (by omega) _, hr2.other (by omega) _, by rw [HEe.out]; exact ho2.set2 _, hU2.trans (Upto.set (Upto.refl _ _) 2 _) (fun x hx e => by omega)⟩
      case rest =>
        obtain ⟨htp, hrp, hop, hUp⟩ := hcut
        clear t0 t1 t2 t3 o0 o1 o2 o3 f0 f1 f2 f3 ht2 hr2 ho2 hU2 hi5
        obtain ⟨mi, hmi⟩ : ∃ mi, mi = Tm.mvi (Tm.shF by' from') b k i := ⟨_, rfl⟩
        rw [← hmi] at hop
        have HMI := hid hmi
        have hbase : w.heap.size + 1 + 1 < wc.heap.size := hop.lt
        obtain ⟨wp, rfl⟩ : ∃ wp, wp = wc := ⟨_, rfl⟩
        clear hmi
        go_wp2_with fail
        go_loopw [8] (fun v8 wr => ∃ (j : Nat) (v : Value) (css : List (List Value)), v8 = .int .i64 j ∧ j ≤ ts.length ∧ Terms wp.heap.size wr v (Tm.mvA (Tm.shF by' from') b k 0 (ts.take j)) css ∧
            Box4 wr (w.heap.size + 1 + 1) (.int .i64 k) (.string (B nm)) (.int .i64 mi) v 25 ∧ Box4 wr w.heap.size (.int .i64 k) (.string (B nm)) (.int .i64 i) (.slice a ts.length cap) 25 ∧
            Box4 wr (w.heap.size + 1) (.int .i64 0) (.string (B [])) (.int .i64 0) (.slice none 0 0) 25 ∧ Upto none' w wr ∧ wp.heap.size ≤ wr.heap.size)
          (fun v8 _ => ts.length - (intOf v8).toNat)
        case atStart => exact ⟨0, _, [], rfl, Nat.zero_le _, by simp only [List.take_zero, Tm.mvA]; exact Terms.nil _ _, hop, htp, hrp, hUp, Nat.le_refl _⟩
        case round =>
          obtain ⟨j, v, css, rfl, hj, hts, hout, htb, hrb, hU, hbr⟩ := hrel
          obtain ⟨b0, b1, b2, b3⟩ := hout.cells
          obtain ⟨f0, f1, f2, f3⟩ := hout.frozens
          obtain ⟨t0, t1, t2, t3⟩ := htb.cells
          have qo := hout.lt
          have hj0 : (0 : Int) ≤ (j : Int) := by omega
          have hjb : (j : Int) ≤ 100000 := by omega
          by_cases hlt : j < ts.length
          · obtain ⟨eb, eo, ek, en, ex, es, ec, rfl, hebl, _, p0, p1, p2, p3, hRp⟩ := arg_tm (hE.on hU) j hlt
            have hsz1 := Tm.size_le_sizes (List.getElem_mem hlt)
            obtain ⟨hu0, hu1⟩ := Tm.under_le k j
            have hj1 : (j : Int) < (ts.length : Int) := by omega
            have hd : Upto none' wr wr.drew := (Upto.refl none' wr).drew
            have H2 := fun w' (hU : Upto none' wr w') => (under_any k j j rfl nm i (.slice (some ⟨eb, eo, none⟩) ts.length cap) w').mono fun _ _ ⟨he, hV⟩ => (⟨he, hU.and hV⟩ : _ ∧ Upto none' wr _)
            have IH := fun (z : Int) w' (hz : z = F + Tm.under k j) (hU : Upto none' wr w') => ih (ts[j]'hlt) (List.getElem_mem hlt) (by omega) (hoks _ (List.getElem_mem hlt)) (b + Tm.under k j) z w' _ (by omega) (by omega) (by have := HFF.out; omega) (hRp.on hU)
            obtain ⟨us, hus⟩ : ∃ us, us = Tm.mvA (Tm.shF by' from') b k 0 (ts.take j) := ⟨_, rfl⟩
            obtain ⟨u, hu⟩ : ∃ u, u = (ts[j]'hlt).mv (Tm.shF by' from') (b + Tm.under k j) := ⟨_, rfl⟩
            have hul : us.length = j := by rw [hus, Tm.mvA_length, List.length_take]; omega
            have hsucc : us ++ [u] = Tm.mvA (Tm.shF by' from') b k 0 (ts.take (j + 1)) := by rw [Tm.mvA_take_succ _ _ _ _ _ hlt, ← hus, ← hu]
            rw [← hus] at hts
            rw [← hu] at IH
            have HS := hid (And.intro hul hsucc)
            have hul6 : us.length ≤ 1000000 := by omega
            have HLT := hid (show j < ts.length from hlt)
            have hzw : IntKind.i64.wrap (F + Tm.under k j) = F + Tm.under k j := Go.IntWalk.i64_in _ (by omega)
            clear hul hsucc hus hu ih
            generalize Tm.under k j = ud at *
            generalize (ts[j]'hlt).args.length = el at *
            go_wp2_with fail
            go_region_law (first
              | ((rw [if_pos (by rfl)]); go_simp; (go_at_call 116); refine (H2 _ hd).mono ?_; rintro e w5 ⟨rfl, hU5⟩; have hout5 := hout.kept hU5; have htb5 := htb.kept hU5; have q5 := hout5.lt; have c5 := hout5.cells.2.2.2; have z5 := hout5.frozen 3; have y5 := htb5.cells.2.2.2; have ss5 := hU5.size; have p05 := hU5.cell p0 (fun x => x); have p15 := hU5.cell p1 (fun x => x); have p25 := hU5.cell p2 (fun x => x); have p35 := hU5.cell p3 (fun x => x))
              | ((rw [if_pos (by rfl)]); go_simp; (go_at_call 102); refine (IH _ _ (by first | rfl | omega) hU5).mono ?_; rintro e w6 ⟨k1, i1, n1, a1, len1, cap1, rfl, hR6, hU6⟩; have hU6' : Upto none' wr w6 := hU5.and hU6; have hout6 := hout.kept hU6'; have htb6 := htb.kept hU6'; have q6 := hout6.lt; have c6 := hout6.cells.2.2.2; have z6 := hout6.frozen 3; have y6 := htb6.cells.2.2.2; have ss6 := hU6'.size; have hts6 := hts.on hU6')
              | (refine step_append_lies _ (by rfl) _ _ 23 (by rfl) wp.heap.size 25 i0 (.agg #[.int .i64 0, .string (B []), .int .i64 0, .slice none 0 0]) 4 56 (by kernel_rfl) hi hi0 hi1 hi2 rfl (by decide) v us.length css.flatten (by rfl) ((hts6.on ((Upto.refl none' w6).alloc _)).2.2.1) ⟨w6.heap.size, 0, none⟩ 1 1 [.int .i64 k1, .string (B n1), .int .i64 i1, .slice a1 len1 cap1] (by rfl) rfl (World.news_of_block (heap_alloc_new w6 _)) (by simp [Value.oneCell']) (by omega) (by simp only [maxLen]; omega) (by omega) (by simp; omega) _ rfl ?_; intro g cap' w7 hown hgrow hat hlt7; have hout7 := (hout6.kept ((Upto.refl none' w6).alloc _)).row hgrow (hts6.on ((Upto.refl none' w6).alloc _)) (by omega); have c7 := hout7.cells.2.2.2; have z7 := hout7.frozen 3))
            all_goals
              obtain ⟨v', css', hT7, hou8, htb8, hrb8, hU8, hsz8⟩ := move_end hts hout htb hrb hU rfl hbase hbr hU6' ss5 hR6 hown hgrow hat
              rw [HS.out.2] at hT7
              have HT7 := hid hT7
              clear hT7
              go_wp2_with fail
              go_roundw
              case rel => exact ⟨j + 1, _, _, by go_num, Nat.succ_le_of_lt HLT.out, HT7.out, hou8, htb8, hrb8, hU8, hsz8⟩
              case measure => (have := HLT.out; simp [intOf]; omega)
          · obtain ⟨us, hus⟩ : ∃ us, us = Tm.mvA (Tm.shF by' from') b k 0 (ts.take j) := ⟨_, rfl⟩
            rw [← hus] at hts
            obtain ⟨s0, s1, s2, s3⟩ := hrb.cells
            obtain ⟨g0, g1, g2, g3⟩ := hrb.frozens
            have qr := hrb.lt
            have hjl : j = ts.length := by omega
            have hjn : ¬ (j : Int) < (ts.length : Int) := by omega
            obtain ⟨a9, cap9, rfl, hcap9, hE9⟩ := hts.rep
            obtain ⟨len, hlen9⟩ : ∃ len, len = us.length := ⟨_, rfl⟩
            rw [← hlen9] at hout hcap9 b3
            have hfin : Tm.mv (Tm.shF by' from') b (.mk k nm i ts) = .mk k nm mi us := by
              rw [List.take_of_length_le (by omega)] at hus
              rw [Tm.mv_mk, ← HMI.out, ← hus]
            have HL := hid hlen9
            have HFI := hid hfin
            have hRr : Rep (fun x => x ≤ w.heap.size + 1) wr (Tm.mk k nm mi us).dat [.int .i64 k, .string (B nm), .int .i64 mi, .slice a9 len cap9] := rep_tm.2 ⟨a9, cap9, by rw [HL.out], by rw [← HL.out]; exact hcap9, RepE.weaken (fun b _ e => by omega) _ _ _ _ hE9⟩
            clear hlen9 hjl hts hus hfin
            go_wp2_with fail
            obtain ⟨w9, hw9⟩ : ∃ w9, w9 = (((wr.setCell ⟨w.heap.size + 1, 0, none⟩ (.int .i64 k)).setCell ⟨w.heap.size + 1, 1, none⟩ (.string (B nm))).setCell ⟨w.heap.size + 1, 2, none⟩ (.int .i64 mi)).setCell ⟨w.heap.size + 1, 3, none⟩ (.slice a9 len cap9) := ⟨_, rfl⟩
            have hset9 := hrb.set (d0 := .int .i64 k) (d1 := .string (B nm)) (d2 := .int .i64 mi) (d3 := .slice a9 len cap9)
            rw [← hw9] at hset9
            rw [← hw9]
            clear hw9
            obtain ⟨e0, e1, e2, e3⟩ := hset9.1.cells
            refine bodyPost_ret (v := .agg #[.int .i64 k, .string (B nm), .int .i64 mi, .slice a9 len cap9]) ?_ rfl ?_
            · simp [results, Tryd.f102, go_sem, e0, e1, e2, e3]
            · rw [HFI.out]
              exact ⟨k, mi, nm, a9, len, cap9, rfl, Rep.weaken (fun b _ e => by omega) _ _ (Rep.keep hset9.2 (fun b e => by omega) _ _ hRr), hU.trans hset9.2 (fun x hx e => by omega)⟩
end Go.Proofs.YtdcbgkmhlpkjiaaDoor

/- The reference's lower. -/
namespace Go.Proofs.YtdcbgkmhlpkjiaaDoor
open Go.RowKit Go.LF

/-- A renamed term; no term where there is none. -/
def _root_.Go.LF.Tm.mvz (f : Tm.To) (b : Int) (t : Tm) : Tm := if t.mvok f b then t.mv f b else .mk 0 [] 0 []
theorem _root_.Go.LF.Tm.mvz_no {f : Tm.To} {b : Int} {t : Tm} (h : t.mvok f b = false) : t.mvz f b = .mk 0 [] 0 [] := by unfold Tm.mvz; rw [h]; rfl
theorem _root_.Go.LF.Tm.mvz_yes {f : Tm.To} {b : Int} {t : Tm} (h : t.mvok f b = true) : t.mvz f b = t.mv f b := by unfold Tm.mvz; rw [h]; rfl
/-- What a round of the reference's functions needs of a world: the variable t, and an argument of it. -/
abbrev RfS (tb eb eo : Nat) (c0 c1 c2 c3 d0 d1 d2 d3 : Value) (w' : World) : Prop :=
  TcS tb c0 c1 c2 c3 w' ∧ w'.cell? ⟨eb, eo, none⟩ = some d0 ∧ w'.cell? ⟨eb, eo + 1, none⟩ = some d1 ∧ w'.cell? ⟨eb, eo + 2, none⟩ = some d2 ∧ w'.cell? ⟨eb, eo + 3, none⟩ = some d3
theorem RfS.keep {tb eb eo : Nat} {c0 c1 c2 c3 d0 d1 d2 d3 : Value} {w w' : World} {S : Nat → Prop} (h : RfS tb eb eo c0 c1 c2 c3 d0 d1 d2 d3 w) (hU : Upto S w w') (h1 : ¬ S tb) (h2 : ¬ S eb) : RfS tb eb eo c0 c1 c2 c3 d0 d1 d2 d3 w' :=
  ⟨h.1.keep hU h1, hU.cell h.2.1 h2, hU.cell h.2.2.1 h2, hU.cell h.2.2.2.1 h2, hU.cell h.2.2.2.2 h2⟩
theorem RfS.on {tb eb eo : Nat} {c0 c1 c2 c3 d0 d1 d2 d3 : Value} {w w' : World} (h : RfS tb eb eo c0 c1 c2 c3 d0 d1 d2 d3 w) (hU : Upto none' w w') : RfS tb eb eo c0 c1 c2 c3 d0 d1 d2 d3 w' := h.keep hU (fun x => x) (fun x => x)
theorem RfS.new {tb eb eo : Nat} {c0 c1 c2 c3 d0 d1 d2 d3 : Value} {w : World} (h : RfS tb eb eo c0 c1 c2 c3 d0 d1 d2 d3 w) (o : Obj) : RfS tb eb eo c0 c1 c2 c3 d0 d1 d2 d3 (w.alloc o) := h.on ((Upto.refl none' w).alloc o)
theorem RfS.set {tb eb eo r : Nat} {c0 c1 c2 c3 d0 d1 d2 d3 : Value} {w : World} (h : RfS tb eb eo c0 c1 c2 c3 d0 d1 d2 d3 w) (h1 : tb ≠ r) (h2 : eb ≠ r) (o : Nat) (v : Value) : RfS tb eb eo c0 c1 c2 c3 d0 d1 d2 d3 (w.setCell ⟨r, o, none⟩ v) := h.keep (Upto.set (Upto.refl _ w) o v) h1 h2

set_option maxRecDepth 100000 in
set_option maxHeartbeats 16000000 in
theorem refLow_any (from' n' : Int) (hf0 : 0 ≤ from') (hf1 : from' ≤ 9223372036854775807) (hn0 : 0 ≤ n') (hn1 : n' ≤ 9223372036854775807) (t : Tm) : t.size ≤ 100000 → (∀ b, ∀ x ∈ t.nodes b, x.ok) → ∀ (b : Int) (w : World) (cs : List Value), 0 ≤ b → b + t.size ≤ 1000000 → Rep none' w t.dat cs →
    Calls Tryd.prog 105 #[.agg cs.toArray, .int .i64 from', .int .i64 b, .int .i64 n'] w (Gives (t.mvz (Tm.lowerF from' n') b) (.bool (t.mvok (Tm.lowerF from' n') b)) w) := by
  induction t using Tm.ind with
  | h k nm i ts ih =>
    intro hsz hok b w cs h0 h1 hR
    obtain ⟨a, cap, rfl, hcap, hE⟩ := rep_tm.1 hR
    have hlen := Tm.length_le_sizes ts
    simp only [Tm.size_mk] at hsz h1
    have hoks := Tm.args_ok hok
    have hno := hok b
    rw [Tm.nodes_mk] at hno
    have hi5 : k = 5 → 0 ≤ i ∧ i ≤ 1048576 := fun e => (hno _ (List.mem_cons_self ..)).1 (by simp [e])
    obtain ⟨i0, hi, hi0, hi1, hi2⟩ := info_parts info_term
    obtain ⟨w2, hw2⟩ : ∃ w2, w2 = ((w.alloc (.cells #[.int .i64 k, .string (B nm), .int .i64 i, .slice a ts.length cap] 25)).alloc (.cells #[.int .i64 0, .string (B []), .int .i64 0, .slice none 0 0] 25)).alloc (.cells #[.int .i64 k, .string (B nm), .int .i64 i, .slice none 0 0] 25) := ⟨_, rfl⟩
    have hU2 : Upto none' w w2 := by rw [hw2]; exact (((Upto.refl none' w).alloc _).alloc _).alloc _
    have ht2 : Box4 w2 w.heap.size (.int .i64 k) (.string (B nm)) (.int .i64 i) (.slice a ts.length cap) 25 := by rw [hw2]; exact ((Box4.at_new rfl).kept ((Upto.refl none' _).alloc _)).kept ((Upto.refl none' _).alloc _)
    have hr2 : Box4 w2 (w.heap.size + 1) (.int .i64 0) (.string (B [])) (.int .i64 0) (.slice none 0 0) 25 := by rw [hw2]; exact (Box4.at_new (by simp)).kept ((Upto.refl none' _).alloc _)
    have ho2 : Box4 w2 (w.heap.size + 1 + 1) (.int .i64 k) (.string (B nm)) (.int .i64 i) (.slice none 0 0) 25 := by rw [hw2]; exact Box4.at_new (by simp)
    obtain ⟨t0, t1, t2, t3⟩ := ht2.cells
    obtain ⟨o0, o1, o2, o3⟩ := ho2.cells
    obtain ⟨f0, f1, f2, f3⟩ := ho2.frozens
    obtain ⟨s0, s1, s2, s3⟩ := hr2.cells
    obtain ⟨g0, g1, g2, g3⟩ := hr2.frozens
    have hz2 := ho2.lt
    have HW2 := hid hw2
    have HW := hid (And.intro hsz h1)
    obtain ⟨cv, hcv⟩ : ∃ c, c = (k == 5 && decide (from' ≤ i - b)) := ⟨_, rfl⟩
    have hways : ((k == 5) = true ∧ from' ≤ i - b) ∨ ((k == 5) = true ∧ ¬ from' ≤ i - b) ∨ (k == 5) = false := by
      by_cases h : k = 5
      · by_cases h' : from' ≤ i - b
        · exact .inl ⟨by simp [h], h'⟩
        · exact .inr (.inl ⟨by simp [h], h'⟩)
      · exact .inr (.inr (by simp [h]))
    have HC := hid hcv
    have HY := hid hways
    have HI5 := hid hi5
    clear hw2 hR hno hok hcv hways hi5
    go_enter Tryd.func105, Tryd.ntmps105
    go_upto_region 2 with fail
    rw [← HW2.out]
    go_cut [31] from 14 to 31 (fun vc wx => vc = .bool cv ∧ w2 = wx)
    case first =>
      rcases HY.out with ⟨h5, hbi⟩ | ⟨h5, hbi⟩ | h5
      case' inl => have hi6 := HI5.out (by simpa using h5)
      case' inr.inl => have hi6 := HI5.out (by simpa using h5)
      all_goals
        try simp only [Int.not_le] at hbi
        go_wp2_with fail
        go_meet
        case rel => exact ⟨by rw [HC.out]; simp [h5] <;> omega, rfl⟩
    case rest =>
      obtain ⟨rfl, rfl⟩ := hcut
      go_upto_if 31 with fail
      go_cut [] from 14 to 45 (fun wc => Tm.oki (Tm.lowerF from' n') b k i = true ∧ Box4 wc w.heap.size (.int .i64 k) (.string (B nm)) (.int .i64 i) (.slice a ts.length cap) 25 ∧ Box4 wc (w.heap.size + 1) (.int .i64 0) (.string (B [])) (.int .i64 0) (.slice none 0 0) 25 ∧
        Box4 wc (w.heap.size + 1 + 1) (.int .i64 k) (.string (B nm)) (.int .i64 (Tm.mvi (Tm.lowerF from' n') b k i)) (.slice none 0 0) 25 ∧ Upto none' w wc)
      case first =>
        cases cv
        · go_wp2_with fail
          go_meet
          case rel =>
            have hc := HC.out
            have e : Tm.mvi (Tm.lowerF from' n') b k i = i ∧ Tm.oki (Tm.lowerF from' n') b k i = true := by
              by_cases hk : k = 5 ∧ b ≤ i
              · have h6 := HI5.out hk.1
                have hn : ¬ from' ≤ i - b := fun e => by simp [hk.1, e] at hc
                have hrf : Tm.lowerF from' n' (i - b) = (i - b, true) := by unfold Tm.lowerF; rw [if_pos (by omega)]
                unfold Tm.mvi Tm.oki
                rw [if_pos hk, hrf]
                simp only
                refine ⟨by omega, ?_⟩
                simp
                omega
              · have e2 : (k == 5 && decide (b ≤ i)) = false := by rw [Bool.eq_false_iff]; intro e; exact hk (by simpa using e)
                unfold Tm.mvi Tm.oki
                rw [if_neg hk, e2]
                exact ⟨rfl, rfl⟩
            exact ⟨e.2, ht2, hr2, by rw [e.1]; exact ho2, hU2⟩
        · have hki : k = 5 ∧ from' ≤ i - b := by have := HC.out; simpa using this.symm
          obtain ⟨hk5, hbi⟩ := hki
          have hi6 := HI5.out hk5
          clear HI5
          have hbi2 : b ≤ i := by omega
          have hrf : Tm.lowerF from' n' (i - b) = (i - b - n', decide (n' ≤ i - b - from')) := by unfold Tm.lowerF; rw [if_neg (by omega)]
          have hokv : Tm.oki (Tm.lowerF from' n') b k i = (decide (n' ≤ i - b - from') && (decide (0 ≤ i - b - n') && decide (i - b - n' ≤ 1048576 - b))) := by unfold Tm.oki; rw [hrf, hk5]; simp [hbi2]
          have hmiv : Tm.mvi (Tm.lowerF from' n') b k i = i - n' := by unfold Tm.mvi; rw [if_pos ⟨hk5, hbi2⟩, hrf]; simp only; omega
          have hmk : ∀ o, Tm.oki (Tm.lowerF from' n') b k i = o → (o = false → Tm.mvok (Tm.lowerF from' n') b (.mk k nm i ts) = false) := by
            intro o ho e
            rw [Tm.mvok_mk, ho, e, Bool.false_and]
          have HHV := hid (And.intro hokv (And.intro hmiv hmk))
          clear hokv hmiv hrf hmk hk5
          have hn : i - b - from' < n' ∨ ¬ i - b - from' < n' := by omega
          rcases hn with hn | hn
          · have HMB := hid (HHV.out.2.2 _ HHV.out.1 (by simp; omega))
            go_wp2_with fail
            obtain ⟨w8, hw8⟩ : ∃ w8, w8 = (((w2.setCell ⟨w.heap.size + 1, 0, none⟩ (.int .i64 0)).setCell ⟨w.heap.size + 1, 1, none⟩ (.string (B []))).setCell ⟨w.heap.size + 1, 2, none⟩ (.int .i64 0)).setCell ⟨w.heap.size + 1, 3, none⟩ (.slice none 0 0) := ⟨_, rfl⟩
            obtain ⟨hG, hB9⟩ := gives_set (r := .bool false) hr2 (by omega) hU2 (rep_leaf (k := 0) (n := []) (i := 0)) hw8
            try rw [← show B [] = { data := #[] } from rfl]
            rw [← hw8]
            clear hw8
            obtain ⟨e0, e1, e2, e3⟩ := hB9.cells
            refine bodyPost_ret (v := .tuple #[.agg #[.int .i64 0, .string (B []), .int .i64 0, .slice none 0 0], .bool false]) ?_ rfl ?_
            · simp [results, Tryd.f105, go_sem, e0, e1, e2, e3]
            · rw [Tm.mvz_no HMB.out, HMB.out]; exact hG
          · go_wp2_with fail
            go_meet
            case rel => exact ⟨by rw [HHV.out.1]; simp; omega, ht2.other (by omega) _, hr2.other (by omega) _, by rw [HHV.out.2.1]; exact ho2.set2 _, hU2.trans (Upto.set (Upto.refl _ _) 2 _) (fun x hx e => by omega)⟩

      case rest =>
        obtain ⟨hoki, htp, hrp, hop, hUp⟩ := hcut
        clear t0 t1 t2 t3 o0 o1 o2 o3 f0 f1 f2 f3 s0 s1 s2 s3 g0 g1 g2 g3 ht2 hr2 ho2 hU2
        obtain ⟨mi, hmi⟩ : ∃ mi, mi = Tm.mvi (Tm.lowerF from' n') b k i := ⟨_, rfl⟩
        rw [← hmi] at hop
        have HMI := hid (And.intro hmi hoki)
        have hbase : w.heap.size + 1 + 1 < wc.heap.size := hop.lt
        obtain ⟨wp, rfl⟩ : ∃ wp, wp = wc := ⟨_, rfl⟩
        clear hmi hoki
        go_wp2_with fail
        go_loopw [11] (fun vj wr => ∃ (j : Nat) (v : Value) (css : List (List Value)), vj = .int .i64 j ∧ j ≤ ts.length ∧ Tm.mvokA (Tm.lowerF from' n') b k 0 (ts.take j) = true ∧ Terms wp.heap.size wr v (Tm.mvA (Tm.lowerF from' n') b k 0 (ts.take j)) css ∧
            Box4 wr (w.heap.size + 1 + 1) (.int .i64 k) (.string (B nm)) (.int .i64 mi) v 25 ∧ Box4 wr w.heap.size (.int .i64 k) (.string (B nm)) (.int .i64 i) (.slice a ts.length cap) 25 ∧
            Box4 wr (w.heap.size + 1) (.int .i64 0) (.string (B [])) (.int .i64 0) (.slice none 0 0) 25 ∧ Upto none' w wr ∧ wp.heap.size ≤ wr.heap.size)
          (fun vj _ => ts.length - (intOf vj).toNat)
        case atStart => exact ⟨0, _, [], rfl, Nat.zero_le _, by simp [Tm.mvokA], by simp only [List.take_zero, Tm.mvA]; exact Terms.nil _ _, hop, htp, hrp, hUp, Nat.le_refl _⟩
        case round =>
          clear hop htp hrp hUp
          obtain ⟨j, v, css, rfl, hj, hok, hts, hout, htb, hrb, hU, hbr⟩ := hrel
          have HOK := hid hok
          clear hok
          obtain ⟨t0, t1, t2, t3⟩ := htb.cells
          have qo := hout.lt
          have hj0 : (0 : Int) ≤ (j : Int) := by omega
          have hjb : (j : Int) ≤ 100000 := by omega
          by_cases hlt : j < ts.length
          · obtain ⟨eb, eo, ek, en, ex, es, ec, rfl, hebl, _, p0, p1, p2, p3, hRp⟩ := arg_tm (hE.on hU) j hlt
            have hsz1 := Tm.size_le_sizes (List.getElem_mem hlt)
            obtain ⟨hu0, hu1⟩ := Tm.under_le k j
            have hj1 : (j : Int) < (ts.length : Int) := by omega
            have hd : Upto none' wr wr.drew := (Upto.refl none' wr).drew
            have ha : Upto none' wr (wr.alloc (.cells #[.int .i64 0, .string (B []), .int .i64 0, .slice none 0 0] 25)).drew := ((Upto.refl none' wr).alloc _).drew
            have H2 := fun w' => under_any k j j rfl nm i (.slice (some ⟨eb, eo, none⟩) ts.length cap) w'
            have IH := fun (z : Int) w' (hz : z = b + Tm.under k j) (hV : Upto none' wr w') => ih (ts[j]'hlt) (List.getElem_mem hlt) (by omega) (hoks _ (List.getElem_mem hlt)) z w' _ (by omega) (by omega) (hRp.on hV)
            obtain ⟨us, hus⟩ : ∃ us, us = Tm.mvA (Tm.lowerF from' n') b k 0 (ts.take j) := ⟨_, rfl⟩
            obtain ⟨okj, hokj⟩ : ∃ o, o = (ts[j]'hlt).mvok (Tm.lowerF from' n') (b + Tm.under k j) := ⟨_, rfl⟩
            obtain ⟨u, hu⟩ : ∃ u, u = (ts[j]'hlt).mvz (Tm.lowerF from' n') (b + Tm.under k j) := ⟨_, rfl⟩
            have hul : us.length = j := by rw [hus, Tm.mvA_length, List.length_take]; omega
            have hsucc : okj = true → us ++ [u] = Tm.mvA (Tm.lowerF from' n') b k 0 (ts.take (j + 1)) ∧ Tm.mvokA (Tm.lowerF from' n') b k 0 (ts.take (j + 1)) = true := by
              intro e
              have hu2 : u = (ts[j]'hlt).mv (Tm.lowerF from' n') (b + Tm.under k j) := by rw [hu]; unfold Tm.mvz; rw [← hokj, e]; rfl
              rw [Tm.mvA_take_succ _ _ _ _ _ hlt, Tm.mvokA_take_succ _ _ _ _ _ hlt, ← hus, hu2, HOK.out, ← hokj, e]
              exact ⟨rfl, rfl⟩
            have hbad : okj = false → Tm.mvok (Tm.lowerF from' n') b (.mk k nm i ts) = false := by
              intro e
              rw [Tm.mvok_mk]
              have h1 := Tm.mvokA_take_succ (Tm.lowerF from' n') b k ts j hlt
              rw [← hokj, e, Bool.and_false] at h1
              have h2 := Tm.mvokA_append (Tm.lowerF from' n') b k (ts.take (j + 1)) (ts.drop (j + 1)) 0
              rw [List.take_append_drop, h1, Bool.false_and] at h2
              rw [h2, Bool.and_false]
            rw [← hus] at hts
            have IH' : ∀ (z : Int) w', z = b + Tm.under k j → Upto none' wr w' → Calls Tryd.prog 105 #[.agg #[.int .i64 ek, .string (B en), .int .i64 ex, .slice es (ts[j]'hlt).args.length ec], .int .i64 from', .int .i64 z, .int .i64 n'] w' (Gives u (.bool okj) w') := by
              intro z w' hz hV
              have h := IH z w' hz hV
              rw [hz, ← hokj, ← hu] at h
              rw [hz]
              exact h
            have HS := hid (And.intro hul (And.intro hsucc hbad))
            have hul6 : us.length ≤ 1000000 := by omega
            have HLT := hid (show j < ts.length from hlt)
            have hzw : IntKind.i64.wrap (b + Tm.under k j) = b + Tm.under k j := Go.IntWalk.i64_in _ (by omega)
            clear hul hsucc hus hu ih IH hbad hokj
            generalize Tm.under k j = ud at *
            generalize (ts[j]'hlt).args.length = el at *
            have S0 : RfS w.heap.size eb (eo + j * 4) (.int .i64 k) (.string (B nm)) (.int .i64 i) (.slice (some ⟨eb, eo, none⟩) ts.length cap) (.int .i64 ek) (.string (B en)) (.int .i64 ex) (.slice es el ec) wr := ⟨⟨t0, t1, t2, t3⟩, p0, p1, p2, p3⟩
            have Sd := S0.on hd
            have Sa := S0.on ha
            have hnb : w.heap.size ≠ wr.heap.size := by omega
            have hne : eb ≠ wr.heap.size := by omega
            go_upto_region 9 with fail
            go_cut [12, 13] from 53 to 68 (fun vx vk wx => ∃ (ob : Nat) (k1 i1 : Int) (n1 : List UInt8) (a1 : Option Addr) (len1 cap1 : Nat), vx = .pointer (some ⟨ob, 0, none⟩) ∧ vk = .bool okj ∧ Box4 wx ob (.int .i64 k1) (.string (B n1)) (.int .i64 i1) (.slice a1 len1 cap1) 25 ∧
              Rep (fun x => x < wr.heap.size) wx u.dat [.int .i64 k1, .string (B n1), .int .i64 i1, .slice a1 len1 cap1] ∧ Upto none' wr wx)
            case first =>
              go_region_held3 (fun w' => RfS w.heap.size eb (eo + j * 4) (.int .i64 k) (.string (B nm)) (.int .i64 i) (.slice (some ⟨eb, eo, none⟩) ts.length cap) (.int .i64 ek) (.string (B en)) (.int .i64 ex) (.slice es el ec) w')
                (first | (with_reducible assumption) | (with_reducible exact Sd) | (with_reducible exact Sa) | (with_reducible exact RfS.new S6 _) | (with_reducible exact RfS.new S5 _) | (with_reducible exact RfS.set (RfS.set (RfS.set (RfS.set S6 hnb hne 0 _) hnb hne 1 _) hnb hne 2 _) hnb hne 3 _) | (with_reducible exact RfS.set (RfS.set (RfS.set (RfS.set S6 hn5 he5 0 _) hn5 he5 1 _) hn5 he5 2 _) hn5 he5 3 _))
                (first
                  | ((go_at_call 116); refine (H2 _).mono ?_; rintro e w5 ⟨rfl, hU5⟩; have U5 : Upto none' wr w5 := (by first | exact hd.and hU5 | exact ha.and hU5); have S5 := S0.on U5; have hn5 : w.heap.size ≠ w5.heap.size := (by have := U5.size; omega); have he5 : eb ≠ w5.heap.size := (by have := U5.size; omega); (first | (have z5 := (show Box4 (wr.alloc (.cells #[.int .i64 0, .string (B []), .int .i64 0, .slice none 0 0] 25)).drew wr.heap.size _ _ _ _ _ from Box4.at_new rfl).kept hU5) | skip))
                  | ((go_at_call 105); (first | (refine (IH' _ _ (by first | rfl | omega) U5).mono ?_) | (refine (IH' _ _ (by first | rfl | omega) (U5.alloc _)).mono ?_)); rintro e w6 ⟨k1, i1, n1, a1, len1, cap1, rfl, hR6, hU6⟩; have U6 : Upto none' wr w6 := (by first | exact U5.and hU6 | exact (U5.alloc _).and hU6); have S6 := S0.on U6; (first | (have z6 := z5.kept hU6; obtain ⟨z60, z61, z62, z63⟩ := z6.cells; obtain ⟨y60, y61, y62, y63⟩ := z6.frozens; have z69 := z6.lt) | (have z6 := (show Box4 (w5.alloc (.cells #[.int .i64 0, .string (B []), .int .i64 0, .slice none 0 0] 25)) w5.heap.size _ _ _ _ _ from Box4.at_new rfl).kept hU6; obtain ⟨z60, z61, z62, z63⟩ := z6.cells; obtain ⟨y60, y61, y62, y63⟩ := z6.frozens; have z69 := z6.lt) | skip)))
              all_goals
                go_wp2_with fail
                go_meet
              all_goals have hss5 := U5.size
              all_goals first
                | (have hset := z6.set (d0 := .int .i64 k1) (d1 := .string (B n1)) (d2 := .int .i64 i1) (d3 := .slice a1 len1 cap1)
                   exact ⟨_, k1, i1, n1, a1, len1, cap1, rfl, rfl, hset.1, Rep.weaken (fun b _ e => by (try simp only [World.size_alloc]); omega) _ _ (Rep.keep hset.2 (fun b e => by (try simp only [World.size_alloc]); first | omega | (have := z5.lt; omega)) _ _ hR6), U6.trans hset.2 (fun i hi e => by omega)⟩)
                | exact ⟨w6.heap.size, k1, i1, n1, a1, len1, cap1, rfl, rfl, Box4.at_new rfl, (Rep.weaken (fun b _ e => by (try simp only [World.size_alloc]); omega) _ _ hR6).new _, U6.alloc _⟩
            case rest =>
              obtain ⟨ob, k1, i1, n1, a1, len1, cap1, rfl, rfl, hX, hRx, hUx⟩ := hcut
              have houx := hout.kept hUx
              have htbx := htb.kept hUx
              have hrbx := hrb.kept hUx
              have htsx := hts.on hUx
              have hUwx := hU.and hUx
              have hsx := hUx.size
              have hxl := hX.lt
              have hvl : ∀ b, v.ownBlock = some b → b < wr.heap.size := fun b e => (hts.2.2.1.lt b e).2
              clear S0 Sd Sa IH' H2 p0 p1 p2 p3 t0 t1 t2 t3 hRp hout htb hrb hts hU hUx
              obtain ⟨x0, x1, x2, x3⟩ := hX.cells
              obtain ⟨b0, b1, b2, b3⟩ := houx.cells
              obtain ⟨y0, y1, y2, y3⟩ := houx.frozens
              obtain ⟨s0, s1, s2, s3⟩ := hrbx.cells
              obtain ⟨g0, g1, g2, g3⟩ := hrbx.frozens
              have qox := houx.lt
              cases okj
              · have hbad := HS.out.2.2 rfl
                have HMB := hid hbad
                clear hbad
                go_wp2_with fail
                obtain ⟨w8, hw8⟩ : ∃ w8, w8 = (((wc.setCell ⟨w.heap.size + 1, 0, none⟩ (.int .i64 0)).setCell ⟨w.heap.size + 1, 1, none⟩ (.string (B []))).setCell ⟨w.heap.size + 1, 2, none⟩ (.int .i64 0)).setCell ⟨w.heap.size + 1, 3, none⟩ (.slice none 0 0) := ⟨_, rfl⟩
                obtain ⟨hG, hB9⟩ := gives_set (r := .bool false) hrbx (by omega) hUwx (rep_leaf (k := 0) (n := []) (i := 0)) hw8
                try rw [← show B [] = { data := #[] } from rfl]
                rw [← hw8]
                clear hw8
                obtain ⟨e0, e1, e2, e3⟩ := hB9.cells
                refine bodyPost_ret (v := .tuple #[.agg #[.int .i64 0, .string (B []), .int .i64 0, .slice none 0 0], .bool false]) ?_ rfl ?_
                · simp [results, Tryd.f105, go_sem, e0, e1, e2, e3]
                · rw [Tm.mvz_no HMB.out, HMB.out]; exact hG

              · go_wp2_with (at_builtin; refine wpList_append_lies _ (by rfl) _ _ 23 (by rfl) wp.heap.size 25 i0 (.agg #[.int .i64 0, .string (B []), .int .i64 0, .slice none 0 0]) 4 56 (by kernel_rfl) hi hi0 hi1 hi2 rfl (by decide) v us.length css.flatten (by rfl) ((htsx.on ((Upto.refl none' wc).alloc _)).2.2.1) ⟨wc.heap.size, 0, none⟩ 1 1 [.int .i64 k1, .string (B n1), .int .i64 i1, .slice a1 len1 cap1] (by rfl) rfl (World.news_of_block (heap_alloc_new wc _)) (by simp [Value.oneCell']) (by omega) (by simp only [maxLen]; omega) (by omega) (by simp; omega) _ rfl ?_; intro g cap' w7 hown hgrow hat hlt7; have hou7 := (houx.kept ((Upto.refl none' wc).alloc _)).row hgrow (htsx.on ((Upto.refl none' wc).alloc _)) (by omega); have c7 := hou7.cells.2.2.2; have z7 := hou7.frozen 3; have q7 := hou7.lt)
                have hal : Upto none' wc (wc.alloc (.cells #[.int .i64 k1, .string (B n1), .int .i64 i1, .slice a1 len1 cap1] 25)) := (Upto.refl none' wc).alloc _
                have hts6' := htsx.on hal
                have hRx' : Rep (fun b => b < wp.heap.size ∨ v.ownBlock = some b) (wc.alloc (.cells #[.int .i64 k1, .string (B n1), .int .i64 i1, .slice a1 len1 cap1] 25)) u.dat [.int .i64 k1, .string (B n1), .int .i64 i1, .slice a1 len1 cap1] := by
                  refine (Rep.weaken (fun b _ e => ?_) _ _ hRx).new _
                  rcases e with e | e
                  · omega
                  · exact hvl b e
                have hT7 := hts6'.appended rfl hRx' hown hgrow hat (Nat.le_refl _)
                have hset7 : Upto (fun b => b = w.heap.size + 1 + 1) w7 (w7.setCell ⟨w.heap.size + 1 + 1, 3, none⟩ (.slice (some ⟨g, 0, none⟩) (us.length + 1) cap')) := Upto.set (Upto.refl _ _) 3 _
                have hrow7 := Upto.ofRow (RowUp.grown hts6'.2.2.1 hgrow)
                have htb7 := ((htbx.kept hal).keep hrow7 (by omega)).keep hset7 (by omega)
                have hrb7 := ((hrbx.kept hal).keep hrow7 (by omega)).keep hset7 (by omega)
                have hU7 : Upto none' w (w7.setCell ⟨w.heap.size + 1 + 1, 3, none⟩ (.slice (some ⟨g, 0, none⟩) (us.length + 1) cap')) := ((hUwx.and hal).trans hrow7 (fun b hb e => by omega)).trans hset7 (fun b hb e => by omega)
                have hsz7 : wp.heap.size ≤ (w7.setCell ⟨w.heap.size + 1 + 1, 3, none⟩ (.slice (some ⟨g, 0, none⟩) (us.length + 1) cap')).heap.size := by have := hset7.size; have := hrow7.size; have := hal.size; omega
                have hT7s := hT7.keep hset7 (fun b e => by omega)
                rw [(HS.out.2.1 rfl).1] at hT7s
                refine ⟨⟨j + 1, _, _, by go_num, Nat.succ_le_of_lt HLT.out, (HS.out.2.1 rfl).2, hT7s, hou7.set3 _, htb7, hrb7, hU7, hsz7⟩, ?_⟩
                have := HLT.out
                simp [intOf]; omega
          · obtain ⟨us, hus⟩ : ∃ us, us = Tm.mvA (Tm.lowerF from' n') b k 0 (ts.take j) := ⟨_, rfl⟩
            rw [← hus] at hts
            obtain ⟨s0, s1, s2, s3⟩ := hrb.cells
            obtain ⟨g0, g1, g2, g3⟩ := hrb.frozens
            have qr := hrb.lt
            have hjl : j = ts.length := by omega
            have hjn : ¬ (j : Int) < (ts.length : Int) := by omega
            obtain ⟨a9, cap9, rfl, hcap9, hE9⟩ := hts.rep
            obtain ⟨len, hlen9⟩ : ∃ len, len = us.length := ⟨_, rfl⟩
            rw [← hlen9] at hout hcap9
            obtain ⟨b0, b1, b2, b3⟩ := hout.cells
            have hfin : Tm.mvok (Tm.lowerF from' n') b (.mk k nm i ts) = true ∧ Tm.mv (Tm.lowerF from' n') b (.mk k nm i ts) = .mk k nm mi us := by
              have h1 := HOK.out
              rw [List.take_of_length_le (by omega)] at h1 hus
              rw [Tm.mvok_mk, Tm.mv_mk, HMI.out.2, h1, ← HMI.out.1, ← hus]
              exact ⟨rfl, rfl⟩
            have HL := hid hlen9
            have HJ := hid (And.intro hjl hus)
            have HFI := hid hfin
            have hRr : Rep (fun x => x ≤ w.heap.size + 1) wr (Tm.mk k nm mi us).dat [.int .i64 k, .string (B nm), .int .i64 mi, .slice a9 len cap9] := rep_tm.2 ⟨a9, cap9, by rw [HL.out], by rw [← HL.out]; exact hcap9, RepE.weaken (fun b _ e => by omega) _ _ _ _ hE9⟩
            clear hlen9 hjl hts hus hfin
            go_wp2_with fail
            obtain ⟨w8, hw8⟩ : ∃ w8, w8 = (((wr.setCell ⟨w.heap.size + 1, 0, none⟩ (.int .i64 k)).setCell ⟨w.heap.size + 1, 1, none⟩ (.string (B nm))).setCell ⟨w.heap.size + 1, 2, none⟩ (.int .i64 mi)).setCell ⟨w.heap.size + 1, 3, none⟩ (.slice a9 len cap9) := ⟨_, rfl⟩
            obtain ⟨hG, hB9⟩ := gives_set (r := .bool true) hrb (by omega) hU hRr hw8
            try rw [← show B [] = { data := #[] } from rfl]
            rw [← hw8]
            clear hw8
            obtain ⟨e0, e1, e2, e3⟩ := hB9.cells
            refine bodyPost_ret (v := .tuple #[.agg #[.int .i64 k, .string (B nm), .int .i64 mi, .slice a9 len cap9], .bool true]) ?_ rfl ?_
            · simp [results, Tryd.f105, go_sem, e0, e1, e2, e3]
            · rw [Tm.mvz_yes HFI.out.1, HFI.out.1, HFI.out.2]; exact hG
end Go.Proofs.YtdcbgkmhlpkjiaaDoor

/- The reference's Shift, as plain data. -/
namespace Go.LF.Tm
mutual
/-- The greatest index of a variable, or -1. -/
def great : Tm → Int
  | mk k _ i l => greats (if k == 5 then i else -1) l
def greats (acc : Int) : List Tm → Int
  | [] => acc
  | t :: ts => greats (max acc (great t)) ts
end
theorem greats_take_succ (l : List Tm) (acc : Int) (j : Nat) (h : j < l.length) : greats acc (l.take (j + 1)) = max (greats acc (l.take j)) (great l[j]) := by
  induction l generalizing acc j with
  | nil => simp at h
  | cons t ts ih =>
    cases j with
    | zero => simp [greats]
    | succ j => simpa [greats] using ih (max acc (great t)) j (by simpa using h)
theorem great_le (t : Tm) (m : Int) (hm : -1 ≤ m) : ∀ b, (great t ≤ m ↔ ∀ x ∈ nodes b t, x.k = 5 → x.i ≤ m) := by
  induction t using ind with
  | h k n i l ih =>
    intro b
    have key : ∀ (l' : List Tm), (∀ t ∈ l', ∀ b, (great t ≤ m ↔ ∀ x ∈ nodes b t, x.k = 5 → x.i ≤ m)) → ∀ j acc, (greats acc l' ≤ m ↔ acc ≤ m ∧ ∀ x ∈ nodesA b k j l', x.k = 5 → x.i ≤ m) := by
      intro l'
      induction l' with
      | nil => intro _ j acc; simp [greats, nodesA]
      | cons t ts ih2 =>
        intro h j acc
        rw [greats, ih2 (fun t ht => h t (by simp [ht])) (j + 1)]
        have h1 := h t (by simp) (b + under k j)
        simp only [nodesA, List.mem_append]
        constructor
        · rintro ⟨h2, h3⟩
          refine ⟨by omega, fun x hx => ?_⟩
          rcases hx with hx | hx
          · exact h1.1 (by omega) x hx
          · exact h3 x hx
        · rintro ⟨h2, h3⟩
          have := h1.2 (fun x hx => h3 x (.inl hx))
          exact ⟨by omega, fun x hx => h3 x (.inr hx)⟩
    rw [great, key l ih 0, nodes_mk]
    constructor
    · rintro ⟨h1, h2⟩ x hx hk
      rcases List.mem_cons.1 hx with rfl | hx
      · simp only at hk; subst hk; simpa using h1
      · exact h2 x hx hk
    · intro h
      refine ⟨?_, fun x hx => h x (by simp [hx])⟩
      by_cases hk : (k == 5) = true
      · rw [if_pos hk]; exact h ⟨b, k, n, i⟩ (by simp) (by simpa using hk)
      · rw [if_neg hk]; omega
theorem great_ge (t : Tm) (h : ∀ b, ∀ x ∈ nodes b t, x.k = 5 → 0 ≤ x.i) : -1 ≤ great t := by
  cases t with
  | mk k n i l =>
    rw [great]
    have key : ∀ (l' : List Tm) (acc : Int), -1 ≤ acc → -1 ≤ greats acc l' := by
      intro l'
      induction l' with
      | nil => intro acc ha; simpa [greats] using ha
      | cons t ts ih => intro acc ha; rw [greats]; exact ih _ (by omega)
    refine key l _ ?_
    by_cases hk : (k == 5) = true
    · rw [if_pos hk]; have := h 0 ⟨0, k, n, i⟩ (by rw [nodes_mk]; simp) (by simpa using hk); simp only at this; omega
    · rw [if_neg hk]; omega
theorem shF_zero (t : Tm) : mv (shF 0 0) 0 t = t := mv_id _ _ _ (fun x _ => (mvi_eq (g := fun i => (i, true)) (fun _ _ => by unfold shF; simp only; split <;> omega)).trans (mvi_id _ _ _))
theorem shift_ref (t : Tm) (hw : t.wf = 0) (by' from' : Int) (h0 : 0 ≤ by') (h1 : by' ≤ 1048576) (_h2 : 0 ≤ from') (_h3 : from' ≤ 1048576) :
    mv (shF by' from') 0 t = mv (shiftF by' from') 0 t ∧ (great (mv (shF by' from') 0 t) ≤ 1048576 ↔ mvok (shiftF by' from') 0 t = true) := by
  have hok := (wf_ok t hw).1 0
  have hsz := (wf_ok t hw).2.1
  have hn : ∀ x ∈ nodes 0 t, x.k = 5 → 0 ≤ x.i ∧ x.i ≤ 1048576 ∧ 0 ≤ x.b := fun x hx hk => by
    have := (hok x hx).1 (by simp [hk])
    have := nodes_b t 0 x hx
    omega
  have e1 : mv (shF by' from') 0 t = mv (shiftF by' from') 0 t := mv_congr _ _ _ _ (fun x hx => mvi_eq (fun hk hb => by
    have := hn x hx hk
    rw [shiftF_small h0 h1 (by omega) (by omega)]
    rfl))
  refine ⟨e1, ?_⟩
  rw [great_le _ _ (by omega) 0, nodes_mv, mvok_nodes, List.all_eq_true]
  constructor
  · intro h x hx
    unfold oki
    by_cases hk : x.k = 5 ∧ x.b ≤ x.i
    · have h4 := hn x hx hk.1
      have h5 := h _ (List.mem_map.2 ⟨x, hx, rfl⟩) hk.1
      simp only [mvi] at h5
      rw [if_pos hk] at h5
      rw [shiftF_small h0 h1 (by omega) (by omega)]
      unfold shF at h5
      simp only at h5
      simp only [hk.1, Bool.or_eq_true, Bool.and_eq_true, decide_eq_true_eq, Bool.true_and]
      right
      split at h5 <;> rename_i hlt
      · rw [if_pos hlt]; omega
      · rw [if_neg hlt]; omega
    · have : (x.k == 5 && decide (x.b ≤ x.i)) = false := by rw [Bool.eq_false_iff]; intro e; exact hk (by simpa using e)
      rw [this]; rfl
  · intro h y hy hk5
    obtain ⟨x, hx, rfl⟩ := List.mem_map.1 hy
    simp only at hk5 ⊢
    have h4 := hn x hx hk5
    unfold mvi
    by_cases hb : x.b ≤ x.i
    · rw [if_pos ⟨hk5, hb⟩]
      have h5 := h x hx
      unfold oki at h5
      rw [shiftF_small h0 h1 (by omega) (by omega)] at h5
      simp only [hk5, hb] at h5
      simp at h5
      unfold shF
      simp only
      split <;> rename_i hlt
      · omega
      · rw [if_neg hlt] at h5; omega
    · rw [if_neg (fun e => hb e.2)]; omega
theorem foldl_scope_le : ∀ (l : List Nd0) (a m : Int), a ≤ m → (∀ x ∈ l, x.k = 5 → x.i - x.b + 1 ≤ m) → l.foldl scopeStep a ≤ m
  | [], a, m, ha, _ => ha
  | y :: l, a, m, ha, h => by
    rw [List.foldl_cons]
    refine foldl_scope_le l _ m ?_ (fun x hx => h x (by simp [hx]))
    unfold scopeStep
    split
    · rename_i hk; have := h y (by simp) (by simpa using hk); omega
    · exact ha
theorem shift_big (t : Tm) (hw : t.wf = 0) (by' from' : Int) (_h0 : 0 ≤ by') (h2 : 0 ≤ from') (hbig : 1048576 < by' ∨ 1048576 < from') :
    mvok (shiftF by' from') 0 t = (decide (1048576 < from') || decide (t.scope ≤ from')) ∧ (mvok (shiftF by' from') 0 t = true → mv (shiftF by' from') 0 t = t) := by
  have hok := (wf_ok t hw).1 0
  have hn : ∀ x ∈ nodes 0 t, x.k = 5 → 0 ≤ x.i ∧ x.i ≤ 1048576 ∧ 0 ≤ x.b := fun x hx hk => by
    have := (hok x hx).1 (by simp [hk])
    have := nodes_b t 0 x hx
    omega
  have low : (∀ x ∈ nodes 0 t, x.k = 5 → x.b ≤ x.i → x.i - x.b < from') → mvok (shiftF by' from') 0 t = true ∧ mv (shiftF by' from') 0 t = t := by
    intro hl
    refine ⟨mvok_of _ _ (fun x hx hk hb => ?_), mv_id _ _ _ (fun x hx => (mvi_eq (g := fun i => (i, true)) (fun hk hb => ?_)).trans (mvi_id _ _ _))⟩
    · have h1 := hl x hx hk hb
      have := hn x hx hk
      unfold shiftF
      rw [if_pos h1]
      refine ⟨rfl, ?_⟩
      simp only
      omega
    · have h1 := hl x hx hk hb
      unfold shiftF
      rw [if_pos h1]
  by_cases hf : 1048576 < from'
  · have h1 := low (fun x hx hk hb => by have := hn x hx hk; omega)
    exact ⟨by rw [h1.1]; simp [hf], fun _ => h1.2⟩
  · by_cases hs : t.scope ≤ from'
    · have h1 := low (fun x hx hk hb => by have := free_lt t x hx hk; omega)
      exact ⟨by rw [h1.1]; simp [hs], fun _ => h1.2⟩
    · have hno : mvok (shiftF by' from') 0 t = false := by
        rw [Bool.eq_false_iff]
        intro e
        apply hs
        have e2 := e
        rw [mvok_nodes, List.all_eq_true] at e2
        have h3 : (nodes 0 t).foldl scopeStep 0 ≤ from' := foldl_scope_le _ _ _ h2 (fun x hx hk => by
          by_cases hb : x.b ≤ x.i
          · have h4 := e2 x hx
            unfold oki at h4
            by_cases hv : x.i - x.b < from'
            · omega
            · unfold shiftF at h4
              rw [if_neg hv] at h4
              simp [hk, hb] at h4
              omega
          · have := hn x hx hk; omega)
        rw [scope_fold t 0 0 (by omega) (by omega)] at h3
        omega
      exact ⟨by rw [hno]; simp [hf, hs], fun e => by rw [hno] at e; cases e⟩
end Go.LF.Tm

/- The reference's Greatest, Shift and Lower. -/
namespace Go.Proofs.YtdcbgkmhlpkjiaaDoor
open Go.RowKit Go.LF

set_option maxRecDepth 100000 in
set_option maxHeartbeats 4000000 in
theorem refGreatest_any (t : Tm) : t.size ≤ 1000000 → ∀ (w : World) (cs : List Value), Rep none' w t.dat cs → Calls Tryd.prog 103 #[.agg cs.toArray] w fun e w' => e = .returned (.int .i64 t.great) ∧ Upto none' w w' := by
  induction t using Tm.ind with
  | h k nm i ts ih =>
    intro hsz w cs h
    obtain ⟨a, cap, rfl, hcap, hE⟩ := rep_tm.1 h
    have hlen := Tm.length_le_sizes ts
    simp only [Tm.size_mk] at hsz
    obtain ⟨c, hc⟩ : ∃ c : Int, c = if (k == 5) = true then i else -1 := ⟨_, rfl⟩
    have hg : (Tm.mk k nm i ts).great = Tm.greats c ts := by rw [Tm.great, hc]
    have HG := hid hg
    have hways : ((k == 5) = true ∧ c = i) ∨ ((k == 5) = false ∧ c = -1) := by
      cases hk : (k == 5)
      · exact .inr ⟨rfl, by rw [hc, hk]; rfl⟩
      · exact .inl ⟨rfl, by rw [hc, hk]; rfl⟩
    clear hg hc h
    rcases hways with ⟨hk, rfl⟩ | ⟨hk, rfl⟩
    · go_enter Tryd.func103, Tryd.ntmps103
      go_wp2_with fail
      go_loopw [3, 4] (fun v3 v4 wr => ∃ (j : Nat), v4 = .int .i64 j ∧ j ≤ ts.length ∧ v3 = .int .i64 (Tm.greats c (ts.take j)) ∧ Upto none' (w.alloc (.cells #[.int .i64 k, .string (B nm), .int .i64 c, .slice a ts.length cap] 25)) wr) (fun _ v4 _ => ts.length - (intOf v4).toNat)
      case atStart => exact ⟨0, rfl, Nat.zero_le _, by simp [Tm.greats], Upto.refl _ _⟩
      case round =>
        obtain ⟨j, rfl, hj, rfl, hU⟩ := hrel
        have hw : Upto none' w wr := hU.behind
        obtain ⟨b0, b1, b2, b3⟩ := box_new hU
        have hj0 : (0 : Int) ≤ (j : Int) := by omega
        have hjb : (j : Int) ≤ 1000000 := by omega
        by_cases hlt : j < ts.length
        · obtain ⟨b, o, k1, n1, x1, s1, cp, rfl, hb, _, p0, p1, p2, p3, hRp⟩ := arg_tm (hE.on hw) j hlt
          have hT := Tm.greats_take_succ ts c j hlt
          have hs4 := Tm.size_le_sizes (List.getElem_mem hlt)
          have IH := ih _ (List.getElem_mem hlt) (by omega) wr _ hRp
          have hj1 : (j : Int) < (ts.length : Int) := by omega
          have HT := hid hT
          clear hT ih
          generalize (ts[j]'hlt).great = gj at *
          generalize (ts[j]'hlt).args.length = el at *
          generalize hA : Tm.greats c (ts.take j) = A at *
          have HAA := hid hA
          clear hA
          go_wp2_with fail
          refine IH.mono ?_
          rintro e w1 ⟨rfl, hU1⟩
          go_wp2_with fail
          refine ⟨⟨j + 1, by go_num, hlt, by rw [HT.out]; first | rfl | (congr 1; omega), hU.and hU1⟩, ?_⟩
          simp [intOf]; omega
        · have hj1 : ¬ (j : Int) < (ts.length : Int) := by omega
          have hfin : (Tm.mk k nm c ts).great = Tm.greats c (ts.take j) := by rw [HG.out, List.take_of_length_le (by omega)]
          have HF := hid hfin
          clear hfin
          go_wp2_with fail
          go_ret
          exact ⟨ret_int HF.out.symm, hw⟩
    · go_enter Tryd.func103, Tryd.ntmps103
      go_wp2_with fail
      go_loopw [3, 4] (fun v3 v4 wr => ∃ (j : Nat), v4 = .int .i64 j ∧ j ≤ ts.length ∧ v3 = .int .i64 (Tm.greats (-1) (ts.take j)) ∧ Upto none' (w.alloc (.cells #[.int .i64 k, .string (B nm), .int .i64 i, .slice a ts.length cap] 25)) wr) (fun _ v4 _ => ts.length - (intOf v4).toNat)
      case atStart => exact ⟨0, rfl, Nat.zero_le _, by simp [Tm.greats], Upto.refl _ _⟩
      case round =>
        obtain ⟨j, rfl, hj, rfl, hU⟩ := hrel
        have hw : Upto none' w wr := hU.behind
        obtain ⟨b0, b1, b2, b3⟩ := box_new hU
        have hj0 : (0 : Int) ≤ (j : Int) := by omega
        have hjb : (j : Int) ≤ 1000000 := by omega
        by_cases hlt : j < ts.length
        · obtain ⟨b, o, k1, n1, x1, s1, cp, rfl, hb, _, p0, p1, p2, p3, hRp⟩ := arg_tm (hE.on hw) j hlt
          have hT := Tm.greats_take_succ ts (-1) j hlt
          have hs4 := Tm.size_le_sizes (List.getElem_mem hlt)
          have IH := ih _ (List.getElem_mem hlt) (by omega) wr _ hRp
          have hj1 : (j : Int) < (ts.length : Int) := by omega
          have HT := hid hT
          clear hT ih
          generalize (ts[j]'hlt).great = gj at *
          generalize (ts[j]'hlt).args.length = el at *
          generalize hA : Tm.greats (-1) (ts.take j) = A at *
          have HAA := hid hA
          clear hA
          go_wp2_with fail
          refine IH.mono ?_
          rintro e w1 ⟨rfl, hU1⟩
          go_wp2_with fail
          refine ⟨⟨j + 1, by go_num, hlt, by rw [HT.out]; first | rfl | (congr 1; omega), hU.and hU1⟩, ?_⟩
          simp [intOf]; omega
        · have hj1 : ¬ (j : Int) < (ts.length : Int) := by omega
          have hfin : (Tm.mk k nm i ts).great = Tm.greats (-1) (ts.take j) := by rw [HG.out, List.take_of_length_le (by omega)]
          have HF := hid hfin
          clear hfin
          go_wp2_with fail
          go_ret
          exact ⟨ret_int HF.out.symm, hw⟩

set_option maxRecDepth 100000 in
set_option maxHeartbeats 4000000 in
theorem refShift_any (t : Tm) (hs : t.wt ≤ 1000000) (by' from' : Int) (w : World) (cs : List Value) (h : Rep none' w t.dat cs) :
    Calls Tryd.prog 63 #[.agg cs.toArray, .int .i64 by', .int .i64 from'] w (Gives (t.shiftT by' from') (.int .i64 (t.shiftE by' from')) w) := by
  have hwf := Tm.wf_ok t
  obtain ⟨k, n, i, ts, a, cap, ht, rfl, hcap, hE⟩ := tm_open h
  obtain ⟨w4, hw4⟩ : ∃ w4, w4 = (w.alloc (.cells #[.int .i64 k, .string (B n), .int .i64 i, .slice a ts.length cap] 25)).alloc (.cells #[.int .i64 0, .string (B []), .int .i64 0, .slice none 0 0] 25) := ⟨_, rfl⟩
  have hU4 : Upto none' w w4 := by rw [hw4]; exact ((Upto.refl none' w).alloc _).alloc _
  have ht4 : Box4 w4 w.heap.size (.int .i64 k) (.string (B n)) (.int .i64 i) (.slice a ts.length cap) 25 := by rw [hw4]; exact (Box4.at_new rfl).kept ((Upto.refl none' _).alloc _)
  have hr4 : Box4 w4 (w.heap.size + 1) (.int .i64 0) (.string (B [])) (.int .i64 0) (.slice none 0 0) 25 := by rw [hw4]; exact Box4.at_new (by simp)
  have h4 := h.on hU4
  have HW4 := hid hw4
  have HT := hid ht
  obtain ⟨x0, x1, x2, x3⟩ := ht4.cells
  clear hw4 ht hE h
  have HWF := refWellFormed_any t hs w4 _ h4
  go_enter Tryd.func63, Tryd.ntmps63
  go_wp2_with fail
  rw [← show B [] = { data := #[] } from rfl, ← HW4.out]
  refine HWF.mono ?_
  rintro e w5 ⟨rfl, hU5⟩
  have ht5 := ht4.kept hU5
  have hr5 := hr4.kept hU5
  have h5 := h4.on hU5
  have hUw5 := hU4.and hU5
  clear x0 x1 x2 x3 ht4 hr4 h4 hU4 hU5 HWF
  obtain ⟨x0, x1, x2, x3⟩ := ht5.cells
  obtain ⟨y0, y1, y2, y3⟩ := hr5.cells
  obtain ⟨z0, z1, z2, z3⟩ := hr5.frozens
  have q0 := hr5.lt
  obtain ⟨wf, hwf0⟩ : ∃ wf, wf = t.wf := ⟨_, rfl⟩
  rw [← hwf0] at hwf ⊢
  have HWW := hid hwf0
  clear hwf0
  by_cases h0 : wf = 0
  case neg =>
    have hE : t.shiftE by' from' = wf := by unfold Tm.shiftE; rw [← HWW.out, if_pos h0]
    have hT : t.shiftT by' from' = .mk 0 [] 0 [] := by unfold Tm.shiftT; rw [hE, if_neg h0]; rfl
    have HEE := hid (And.intro hE hT)
    have hwn : (wf != 0) = true := by simp [h0]
    clear hE hT hwf h0
    go_wp2_with fail
    obtain ⟨w8, hw8⟩ : ∃ w8, w8 = (((w5.setCell ⟨w.heap.size + 1, 0, none⟩ (.int .i64 0)).setCell ⟨w.heap.size + 1, 1, none⟩ (.string (B []))).setCell ⟨w.heap.size + 1, 2, none⟩ (.int .i64 0)).setCell ⟨w.heap.size + 1, 3, none⟩ (.slice none 0 0) := ⟨_, rfl⟩
    obtain ⟨hG, hB9⟩ := gives_set (r := .int .i64 wf) hr5 (by omega) hUw5 (rep_leaf (k := 0) (n := []) (i := 0)) hw8
    try rw [← show B [] = { data := #[] } from rfl]
    rw [← hw8]
    clear hw8
    obtain ⟨e0, e1, e2, e3⟩ := hB9.cells
    refine bodyPost_ret (v := .tuple #[.agg #[.int .i64 0, .string (B []), .int .i64 0, .slice none 0 0], .int .i64 wf]) ?_ rfl ?_
    · simp [results, Tryd.f63, go_sem, e0, e1, e2, e3]
    · rw [HEE.out.1, HEE.out.2]; exact hG
  case pos =>
    subst h0
    obtain ⟨hok, hsz, _⟩ := hwf rfl
    have hSE : t.shiftE by' from' = if by' < 0 ∨ from' < 0 then 5 else if Tm.mvok (Tm.shiftF by' from') 0 t then 0 else 5 := by unfold Tm.shiftE; rw [← HWW.out, if_neg (by omega)]
    have HSE := hid hSE
    clear hSE hwf
    have hways : by' < 0 ∨ (0 ≤ by' ∧ from' < 0) ∨ (0 ≤ by' ∧ 0 ≤ from') := by omega
    rcases hways with g1 | ⟨g1, g2⟩ | ⟨g1, g2⟩
    · have hE : t.shiftE by' from' = 5 := by rw [HSE.out, if_pos (.inl g1)]
      have hT : t.shiftT by' from' = .mk 0 [] 0 [] := by unfold Tm.shiftT; rw [hE]; rfl
      have HEE := hid (And.intro hE hT)
      clear hE hT
      go_wp2_with fail
      obtain ⟨w8, hw8⟩ : ∃ w8, w8 = (((w5.setCell ⟨w.heap.size + 1, 0, none⟩ (.int .i64 0)).setCell ⟨w.heap.size + 1, 1, none⟩ (.string (B []))).setCell ⟨w.heap.size + 1, 2, none⟩ (.int .i64 0)).setCell ⟨w.heap.size + 1, 3, none⟩ (.slice none 0 0) := ⟨_, rfl⟩
      obtain ⟨hG, hB9⟩ := gives_set (r := .int .i64 5) hr5 (by omega) hUw5 (rep_leaf (k := 0) (n := []) (i := 0)) hw8
      try rw [← show B [] = { data := #[] } from rfl]
      rw [← hw8]
      clear hw8
      obtain ⟨e0, e1, e2, e3⟩ := hB9.cells
      refine bodyPost_ret (v := .tuple #[.agg #[.int .i64 0, .string (B []), .int .i64 0, .slice none 0 0], .int .i64 5]) ?_ rfl ?_
      · simp [results, Tryd.f63, go_sem, e0, e1, e2, e3]
      · rw [HEE.out.1, HEE.out.2]; exact hG
    · have hE : t.shiftE by' from' = 5 := by rw [HSE.out, if_pos (.inr g2)]
      have hT : t.shiftT by' from' = .mk 0 [] 0 [] := by unfold Tm.shiftT; rw [hE]; rfl
      have HEE := hid (And.intro hE hT)
      clear hE hT
      go_wp2_with fail
      obtain ⟨w8, hw8⟩ : ∃ w8, w8 = (((w5.setCell ⟨w.heap.size + 1, 0, none⟩ (.int .i64 0)).setCell ⟨w.heap.size + 1, 1, none⟩ (.string (B []))).setCell ⟨w.heap.size + 1, 2, none⟩ (.int .i64 0)).setCell ⟨w.heap.size + 1, 3, none⟩ (.slice none 0 0) := ⟨_, rfl⟩
      obtain ⟨hG, hB9⟩ := gives_set (r := .int .i64 5) hr5 (by omega) hUw5 (rep_leaf (k := 0) (n := []) (i := 0)) hw8
      try rw [← show B [] = { data := #[] } from rfl]
      rw [← hw8]
      clear hw8
      obtain ⟨e0, e1, e2, e3⟩ := hB9.cells
      refine bodyPost_ret (v := .tuple #[.agg #[.int .i64 0, .string (B []), .int .i64 0, .slice none 0 0], .int .i64 5]) ?_ rfl ?_
      · simp [results, Tryd.f63, go_sem, e0, e1, e2, e3]
      · rw [HEE.out.1, HEE.out.2]; exact hG
    · have hE : t.shiftE by' from' = if Tm.mvok (Tm.shiftF by' from') 0 t then 0 else 5 := by rw [HSE.out, if_neg (by omega)]
      have HE := hid hE
      clear hE
      by_cases hbig : 1048576 < by' ∨ 1048576 < from'
      · obtain ⟨e1, e2⟩ := Tm.shift_big t HWW.out.symm by' from' g1 g2 hbig
        have M0 := refMove_any 0 0 (by omega) (by omega) (by omega) (by omega) t (by omega) hok 0 0
        rw [Tm.shF_zero] at M0
        have SC := refScope_any t hs
        rw [← HWW.out] at SC
        simp only [beq_self_eq_true, if_true] at SC
        have HB := hid (And.intro e1 e2)
        clear e1 e2
        by_cases hf : 1048576 < from'
        · have hE : t.shiftE by' from' = 0 := by rw [HE.out, HB.out.1, decide_eq_true hf]; rfl
          have hT : t.shiftT by' from' = t := by unfold Tm.shiftT; rw [hE, if_pos rfl]; exact HB.out.2 (by rw [HB.out.1, decide_eq_true hf]; rfl)
          have HEE := hid (And.intro hE hT)
          clear hE hT
          rcases (show 1048576 < by' ∨ by' ≤ 1048576 by omega) with hby | hby
          all_goals
            go_wp2_with fail
            refine (M0 _ _ (by omega) (by omega) (by omega) h5).mono ?_
            rintro e w6 ⟨k6, i6, n6, a6, l6, c6, rfl, hR6, hU6⟩
            have hr6 := hr5.kept hU6
            have hUw6 := hUw5.and hU6
            have hR7 := Rep.weaken (O' := fun x => x ≤ w.heap.size + 1) (fun b _ e => by omega) _ _ hR6
            clear y0 y1 y2 y3 z0 z1 z2 z3 M0 SC
            obtain ⟨y0, y1, y2, y3⟩ := hr6.cells
            obtain ⟨z0, z1, z2, z3⟩ := hr6.frozens
            have q6 := hr6.lt
            go_wp2_with fail
            obtain ⟨w8, hw8⟩ : ∃ w8, w8 = (((w6.setCell ⟨w.heap.size + 1, 0, none⟩ (.int .i64 k6)).setCell ⟨w.heap.size + 1, 1, none⟩ (.string (B n6))).setCell ⟨w.heap.size + 1, 2, none⟩ (.int .i64 i6)).setCell ⟨w.heap.size + 1, 3, none⟩ (.slice a6 l6 c6) := ⟨_, rfl⟩
            obtain ⟨hG, hB9⟩ := gives_set (r := .int .i64 0) hr6 (by omega) hUw6 hR7 hw8
            try rw [← show B [] = { data := #[] } from rfl]
            rw [← hw8]
            clear hw8
            obtain ⟨e0, e1, e2, e3⟩ := hB9.cells
            refine bodyPost_ret (v := .tuple #[.agg #[.int .i64 k6, .string (B n6), .int .i64 i6, .slice a6 l6 c6], .int .i64 0]) ?_ rfl ?_
            · simp [results, Tryd.f63, go_sem, e0, e1, e2, e3]
            · rw [HEE.out.1, HEE.out.2]; exact hG
        · have hby : 1048576 < by' := by omega
          go_wp2_with fail
          refine (SC _ _ h5).mono ?_
          rintro e w6 ⟨rfl, hU6⟩
          have ht6 := ht5.kept hU6
          have hr6 := hr5.kept hU6
          have h6 := h5.on hU6
          have hUw6 := hUw5.and hU6
          clear x0 x1 x2 x3 y0 y1 y2 y3 z0 z1 z2 z3 SC ht5 hr5 h5 hUw5 hU6
          obtain ⟨x0, x1, x2, x3⟩ := ht6.cells
          obtain ⟨y0, y1, y2, y3⟩ := hr6.cells
          obtain ⟨z0, z1, z2, z3⟩ := hr6.frozens
          have q6 := hr6.lt
          by_cases hsc : t.scope ≤ from'
          · have hE : t.shiftE by' from' = 0 := by rw [HE.out, HB.out.1, decide_eq_true hsc, Bool.or_true]; rfl
            have hT : t.shiftT by' from' = t := by unfold Tm.shiftT; rw [hE, if_pos rfl]; exact HB.out.2 (by rw [HB.out.1, decide_eq_true hsc, Bool.or_true])
            have HEE := hid (And.intro hE hT)
            clear hE hT
            generalize t.scope = sc at *
            go_wp2_with fail
            refine (M0 _ _ (by omega) (by omega) (by omega) h6).mono ?_
            rintro e w7 ⟨k6, i6, n6, a6, l6, c6, rfl, hR6, hU7⟩
            have hr7 := hr6.kept hU7
            have hUw7 := hUw6.and hU7
            have hR7 := Rep.weaken (O' := fun x => x ≤ w.heap.size + 1) (fun b _ e => by omega) _ _ hR6
            clear y0 y1 y2 y3 z0 z1 z2 z3 M0
            obtain ⟨y0, y1, y2, y3⟩ := hr7.cells
            obtain ⟨z0, z1, z2, z3⟩ := hr7.frozens
            have q7 := hr7.lt
            go_wp2_with fail
            obtain ⟨w8, hw8⟩ : ∃ w8, w8 = (((w7.setCell ⟨w.heap.size + 1, 0, none⟩ (.int .i64 k6)).setCell ⟨w.heap.size + 1, 1, none⟩ (.string (B n6))).setCell ⟨w.heap.size + 1, 2, none⟩ (.int .i64 i6)).setCell ⟨w.heap.size + 1, 3, none⟩ (.slice a6 l6 c6) := ⟨_, rfl⟩
            obtain ⟨hG, hB9⟩ := gives_set (r := .int .i64 0) hr7 (by omega) hUw7 hR7 hw8
            try rw [← show B [] = { data := #[] } from rfl]
            rw [← hw8]
            clear hw8
            obtain ⟨e0, e1, e2, e3⟩ := hB9.cells
            refine bodyPost_ret (v := .tuple #[.agg #[.int .i64 k6, .string (B n6), .int .i64 i6, .slice a6 l6 c6], .int .i64 0]) ?_ rfl ?_
            · simp [results, Tryd.f63, go_sem, e0, e1, e2, e3]
            · rw [HEE.out.1, HEE.out.2]; exact hG
          · have hE : t.shiftE by' from' = 5 := by rw [HE.out, HB.out.1, decide_eq_false (p := t.scope ≤ from') (by omega), decide_eq_false (p := 1048576 < from') (by omega)]; rfl
            have hT : t.shiftT by' from' = .mk 0 [] 0 [] := by unfold Tm.shiftT; rw [hE]; rfl
            have HEE := hid (And.intro hE hT)
            clear hE hT
            generalize t.scope = sc at *
            go_wp2_with fail
            obtain ⟨w8, hw8⟩ : ∃ w8, w8 = (((w6.setCell ⟨w.heap.size + 1, 0, none⟩ (.int .i64 0)).setCell ⟨w.heap.size + 1, 1, none⟩ (.string (B []))).setCell ⟨w.heap.size + 1, 2, none⟩ (.int .i64 0)).setCell ⟨w.heap.size + 1, 3, none⟩ (.slice none 0 0) := ⟨_, rfl⟩
            obtain ⟨hG, hB9⟩ := gives_set (r := .int .i64 5) hr6 (by omega) hUw6 (rep_leaf (k := 0) (n := []) (i := 0)) hw8
            try rw [← show B [] = { data := #[] } from rfl]
            rw [← hw8]
            clear hw8
            obtain ⟨e0, e1, e2, e3⟩ := hB9.cells
            refine bodyPost_ret (v := .tuple #[.agg #[.int .i64 0, .string (B []), .int .i64 0, .slice none 0 0], .int .i64 5]) ?_ rfl ?_
            · simp [results, Tryd.f63, go_sem, e0, e1, e2, e3]
            · rw [HEE.out.1, HEE.out.2]; exact hG
      · have hb1 : by' ≤ 1048576 := by omega
        have hf1 : from' ≤ 1048576 := by omega
        obtain ⟨e1, e2⟩ := Tm.shift_ref t HWW.out.symm by' from' g1 hb1 g2 hf1
        have M1 := refMove_any by' from' g1 hb1 g2 hf1 t (by omega) hok 0 from'
        have hus : (t.mv (Tm.shF by' from') 0).size ≤ 1000000 := by rw [Tm.size_mv]; omega
        have G1 := refGreatest_any (t.mv (Tm.shF by' from') 0) hus
        obtain ⟨gr, hgr⟩ : ∃ gr, gr = (t.mv (Tm.shF by' from') 0).great := ⟨_, rfl⟩
        obtain ⟨u, hu⟩ : ∃ u, u = t.mv (Tm.shF by' from') 0 := ⟨_, rfl⟩
        rw [← hgr] at e2 G1
        rw [← hu] at e1 M1 G1
        have HB := hid (And.intro e1 e2)
        clear e1 e2 hus hu hgr hbig
        go_wp2_with fail
        refine (M1 _ _ (by omega) (by omega) (by omega) h5).mono ?_
        rintro e w6 ⟨k6, i6, n6, a6, l6, c6, rfl, hR6, hU6⟩
        have hr6 := hr5.kept hU6
        have hUw6 := hUw5.and hU6
        obtain ⟨w7, hw7⟩ : ∃ w7, w7 = w6.alloc (.cells #[.int .i64 k6, .string (B n6), .int .i64 i6, .slice a6 l6 c6] 25) := ⟨_, rfl⟩
        have hUa : Upto none' w6 w7 := by rw [hw7]; exact (Upto.refl none' w6).alloc _
        have hX7 : Box4 w7 w6.heap.size (.int .i64 k6) (.string (B n6)) (.int .i64 i6) (.slice a6 l6 c6) 25 := by rw [hw7]; exact Box4.at_new rfl
        have hr7 := hr6.kept hUa
        have hR7 := (Rep.weaken (O' := fun x => x ≤ w.heap.size + 1) (fun b _ e => by omega) _ _ hR6).on hUa
        have hUw7 := hUw6.and hUa
        have HW7 := hid hw7
        clear hw7 x0 x1 x2 x3 y0 y1 y2 y3 z0 z1 z2 z3 M1 hr6 hUw6 hUa hR6 hU6 hr5 hUw5 ht5 h5
        go_wp2_with fail
        rw [← HW7.out]
        refine (G1 _ _ (rep_pre hR7)).mono ?_
        rintro e w8' ⟨rfl, hU8⟩
        have hX8 := hX7.kept hU8
        have hr8 := hr7.kept hU8
        have hR8 := hR7.on hU8
        have hUw8 := hUw7.and hU8
        obtain ⟨x0, x1, x2, x3⟩ := hX8.cells
        obtain ⟨y0, y1, y2, y3⟩ := hr8.cells
        obtain ⟨z0, z1, z2, z3⟩ := hr8.frozens
        have q8 := hr8.lt
        have qx := hX8.lt
        clear hX7 hr7 hR7 hUw7 hU8 G1
        by_cases hgm : gr ≤ 1048576
        · have hE : t.shiftE by' from' = 0 := by rw [HE.out, HB.out.2.1 hgm]; rfl
          have hT : t.shiftT by' from' = u := by unfold Tm.shiftT; rw [hE, if_pos rfl, HB.out.1]
          have HEE := hid (And.intro hE hT)
          clear hE hT
          go_wp2_with fail
          obtain ⟨w8, hw8⟩ : ∃ w8, w8 = (((w8'.setCell ⟨w.heap.size + 1, 0, none⟩ (.int .i64 k6)).setCell ⟨w.heap.size + 1, 1, none⟩ (.string (B n6))).setCell ⟨w.heap.size + 1, 2, none⟩ (.int .i64 i6)).setCell ⟨w.heap.size + 1, 3, none⟩ (.slice a6 l6 c6) := ⟨_, rfl⟩
          obtain ⟨hG, hB9⟩ := gives_set (r := .int .i64 0) hr8 (by omega) hUw8 hR8 hw8
          try rw [← show B [] = { data := #[] } from rfl]
          rw [← hw8]
          clear hw8
          obtain ⟨e0, e1, e2, e3⟩ := hB9.cells
          refine bodyPost_ret (v := .tuple #[.agg #[.int .i64 k6, .string (B n6), .int .i64 i6, .slice a6 l6 c6], .int .i64 0]) ?_ rfl ?_
          · simp [results, Tryd.f63, go_sem, e0, e1, e2, e3]
          · rw [HEE.out.1, HEE.out.2]; exact hG
        · have hE : t.shiftE by' from' = 5 := by
            have hno : Tm.mvok (Tm.shiftF by' from') 0 t = false := by rw [Bool.eq_false_iff]; exact fun e => hgm (HB.out.2.2 e)
            rw [HE.out, hno]; rfl
          have hT : t.shiftT by' from' = .mk 0 [] 0 [] := by unfold Tm.shiftT; rw [hE]; rfl
          have HEE := hid (And.intro hE hT)
          clear hE hT
          go_wp2_with fail
          obtain ⟨w8, hw8⟩ : ∃ w8, w8 = (((w8'.setCell ⟨w.heap.size + 1, 0, none⟩ (.int .i64 0)).setCell ⟨w.heap.size + 1, 1, none⟩ (.string (B []))).setCell ⟨w.heap.size + 1, 2, none⟩ (.int .i64 0)).setCell ⟨w.heap.size + 1, 3, none⟩ (.slice none 0 0) := ⟨_, rfl⟩
          obtain ⟨hG, hB9⟩ := gives_set (r := .int .i64 5) hr8 (by omega) hUw8 (rep_leaf (k := 0) (n := []) (i := 0)) hw8
          try rw [← show B [] = { data := #[] } from rfl]
          rw [← hw8]
          clear hw8
          obtain ⟨e0, e1, e2, e3⟩ := hB9.cells
          refine bodyPost_ret (v := .tuple #[.agg #[.int .i64 0, .string (B []), .int .i64 0, .slice none 0 0], .int .i64 5]) ?_ rfl ?_
          · simp [results, Tryd.f63, go_sem, e0, e1, e2, e3]
          · rw [HEE.out.1, HEE.out.2]; exact hG
end Go.Proofs.YtdcbgkmhlpkjiaaDoor

/- Layer 6's made. -/
namespace Go.Proofs.YtdcbgkmhlpkjiaaDoor
open Go.RowKit Go.LF

set_option maxRecDepth 100000 in
set_option maxHeartbeats 4000000 in
theorem made06_any (l : List Int) (a : Option Addr) (len cap : Nat) (hl : l.length = len) (hlen : len ≤ 17592186044416) (n0 n1 : Int) (w : World) (hE : RepE none' w 1 (l.map (Dat.int .i64)) a 0) (hN : NamesRead w) :
    Calls Tryd.prog 60 #[.slice a len cap, .agg #[.int .i64 n0, .int .i64 n1]] w (Spoilt w) := by
  obtain ⟨w0, hw0⟩ : ∃ w0, w0 = (w.alloc (.cells #[.int .i64 n0, .int .i64 n1] 58)).alloc (.cells #[.int .i64 0, .string (B []), .int .i64 0, .slice none 0 0] 25) := ⟨_, rfl⟩
  have hU0 : Upto none' w w0 := by rw [hw0]; exact ((Upto.refl none' w).alloc _).alloc _
  have hz0 : w0.heap.size = w.heap.size + 1 + 1 := by rw [hw0]; simp
  have hn0 : w0.cell? ⟨w.heap.size, 0, none⟩ = some (.int .i64 n0) ∧ w0.cell? ⟨w.heap.size, 1, none⟩ = some (.int .i64 n1) := by
    rw [hw0]
    refine ⟨((Upto.refl none' _).alloc _).cell ?_ (fun x => x), ((Upto.refl none' _).alloc _).cell ?_ (fun x => x)⟩ <;> (rw [World.cell?_alloc_new]; rfl)
  have hr0 : Box4 w0 (w.heap.size + 1) (.int .i64 0) (.string (B [])) (.int .i64 0) (.slice none 0 0) 25 := by rw [hw0]; exact Box4.at_new (by simp)
  have hT := tape_new (w := w0) (cap := cap) (U := 46) hl hlen (hE.on hU0)
  have hN1 : NamesOk w0.heap.size (w0.alloc (.cells #[.slice a len cap, .int .i64 0] 46)) := hN.ok (hU0.alloc _) hU0.size
  rw [hz0] at hT hN1
  have HA := anyTerm_any 3 (by omega) 5 2 (by omega) (by omega) (w.heap.size + 1 + 1) _ hT hN1
  have HC := fun (x n : Int) h0 h1 w => cut_any x n h0 h1 w
  have HW0 := hid hw0
  clear hT hN1 hE hN hl hlen hw0 hz0
  go_enter Tryd.func60, Tryd.ntmps60
  go_wp2_with fail
  rw [← show B [] = { data := #[] } from rfl, ← HW0.out]
  refine HA.mono ?_
  rintro e w1 ⟨k1, i1, n1', a1, len1, cap1, t, rfl, hR, hF, _, _, hU⟩
  have hU01 : Upto none' w0 w1 := ((Upto.refl none' w0).alloc _).trans hU (fun b hb e => by have := hr0.lt; have : w0.heap.size = w.heap.size + 1 + 1 := (by rw [HW0.out]; simp); simp only [isT] at e; omega)
  have hU1 := hU0.and hU01
  have hr1 := hr0.kept hU01
  have hn1 := And.intro (hU01.cell hn0.1 (fun x => x)) (hU01.cell hn0.2 (fun x => x))
  have hwt := hF.wt
  have hR1 : Rep (fun b => b = w.heap.size + 1) w1 t.dat [.int .i64 k1, .string (B n1'), .int .i64 i1, .slice a1 len1 cap1] := Rep.weaken (fun b _ e => by have : w0.heap.size = w.heap.size + 1 + 1 := (by rw [HW0.out]; simp); simp only [World.size_alloc]; omega) _ _ hR
  clear HA hU hR hF hr0 hn0 hU0 hU01
  obtain ⟨w2, hw2⟩ : ∃ w2, w2 = w1.alloc (.cells #[.int .i64 k1, .string (B n1'), .int .i64 i1, .slice a1 len1 cap1] 25) := ⟨_, rfl⟩
  have hU2 : Upto none' w1 w2 := by rw [hw2]; exact (Upto.refl none' w1).alloc _
  have hB2 : Box4 w2 w1.heap.size (.int .i64 k1) (.string (B n1')) (.int .i64 i1) (.slice a1 len1 cap1) 25 := by rw [hw2]; exact Box4.at_new rfl
  have hr2 := hr1.kept hU2
  have hn2 := And.intro (hU2.cell hn1.1 (fun x => x)) (hU2.cell hn1.2 (fun x => x))
  have hR2 : Rep (fun b => b = w.heap.size + 1 ∨ b = w1.heap.size) w2 t.dat [.int .i64 k1, .string (B n1'), .int .i64 i1, .slice a1 len1 cap1] := Rep.weaken (fun b _ e => e.elim .inl (fun e => .inr (Nat.le_of_eq e.symm))) _ _ ((Rep.fresh' _ _ hR1).on hU2)
  have hUw2 := hU1.and hU2
  have HW2 := hid hw2
  have hrl := hr1.lt
  obtain ⟨m0, m1⟩ := hn1
  have qm : w.heap.size < w1.heap.size := by omega
  clear hw2 hR1 hU1 hU2 hr1
  go_wp2_with fail
  rw [← HW2.out]
  refine (HC _ 4 (by omega) (by omega) _).mono ?_
  rintro e wd ⟨⟨c, hc, rfl⟩, rfl⟩
  have hc0 : (0 : Int) ≤ (c : Int) := by omega
  obtain ⟨x0, x1, x2, x3⟩ := hB2.cells
  obtain ⟨y0, y1, y2, y3⟩ := hB2.frozens
  obtain ⟨p0, p1, p2, p3⟩ := hr2.cells
  obtain ⟨q0, q1, q2, q3⟩ := hr2.frozens
  obtain ⟨u0, u1⟩ := hn2
  have hbl := hB2.lt
  have hne : w.heap.size + 1 ≠ w1.heap.size := by omega
  clear m0 m1
  have hways : (c = 0) ∨ ((c : Int) == 0) = false := by
    rcases Nat.eq_zero_or_pos c with h | h
    · exact .inl h
    · right; simp; omega
  rcases hways with rfl | hcz
  · go_wp2_with fail
    refine (spoil_any t (by omega) (fun b => b = w.heap.size + 1 ∨ b = w1.heap.size) _ _ _ _ hR2).mono ?_
    rintro e w5 ⟨k5, i5, n5, a5, l5, c5, t5, rfl, hR5, hw5, hU5⟩
    have hB5 := hB2.kept hU5
    have hr5 := hr2.kept hU5
    clear x0 x1 x2 x3 y0 y1 y2 y3 p0 p1 p2 p3 q0 q1 q2 q3 u0 u1
    obtain ⟨x0, x1, x2, x3⟩ := hB5.cells
    obtain ⟨y0, y1, y2, y3⟩ := hB5.frozens
    obtain ⟨p0, p1, p2, p3⟩ := hr5.cells
    obtain ⟨q0, q1, q2, q3⟩ := hr5.frozens
    have hbl5 := hB5.lt
    have hrl5 := hr5.lt
    go_wp2_with fail
    have s1 := hB5.set (d0 := .int .i64 k5) (d1 := .string (B n5)) (d2 := .int .i64 i5) (d3 := .slice a5 l5 c5)
    have s2 := (hr5.keep s1.2 (by omega)).set (d0 := .int .i64 k5) (d1 := .string (B n5)) (d2 := .int .i64 i5) (d3 := .slice a5 l5 c5)
    obtain ⟨w9, hw9⟩ : ∃ w9, w9 = ((((((((w5.setCell ⟨w1.heap.size, 0, none⟩ (.int .i64 k5)).setCell ⟨w1.heap.size, 1, none⟩ (.string (B n5))).setCell ⟨w1.heap.size, 2, none⟩ (.int .i64 i5)).setCell ⟨w1.heap.size, 3, none⟩ (.slice a5 l5 c5)).setCell ⟨w.heap.size + 1, 0, none⟩ (.int .i64 k5)).setCell ⟨w.heap.size + 1, 1, none⟩ (.string (B n5))).setCell ⟨w.heap.size + 1, 2, none⟩ (.int .i64 i5)).setCell ⟨w.heap.size + 1, 3, none⟩ (.slice a5 l5 c5)) := ⟨_, rfl⟩
    have hU9 : Upto none' w w9 := by rw [hw9]; exact ((hUw2.and hU5).trans s1.2 (fun i hi e => by omega)).trans s2.2 (fun i hi e => by omega)
    have hR9 : Rep none' w9 t5.dat [.int .i64 k5, .string (B n5), .int .i64 i5, .slice a5 l5 c5] := by
      rw [hw9]
      exact rep_pre (Rep.keep s2.2 (fun b e => ⟨.inl e, by omega⟩) _ _ (Rep.keep s1.2 (fun b e => ⟨.inr e, by omega⟩) _ _ hR5))
    have hB9 : Box4 w9 (w.heap.size + 1) (.int .i64 k5) (.string (B n5)) (.int .i64 i5) (.slice a5 l5 c5) 25 := by rw [hw9]; exact s2.1
    rw [← hw9]
    clear hw9
    obtain ⟨e0, e1, e2, e3⟩ := hB9.cells
    refine bodyPost_ret (v := .agg #[.int .i64 k5, .string (B n5), .int .i64 i5, .slice a5 l5 c5]) ?_ rfl ?_
    · simp [results, Tryd.f60, go_sem, e0, e1, e2, e3]
    · exact ⟨k5, i5, n5, a5, l5, c5, t5, rfl, hR9, by omega, hU9⟩
  · go_wp2_with fail
    have s2 := hr2.set (d0 := .int .i64 k1) (d1 := .string (B n1')) (d2 := .int .i64 i1) (d3 := .slice a1 len1 cap1)
    obtain ⟨w9, hw9⟩ : ∃ w9, w9 = ((((w2.setCell ⟨w.heap.size + 1, 0, none⟩ (.int .i64 k1)).setCell ⟨w.heap.size + 1, 1, none⟩ (.string (B n1'))).setCell ⟨w.heap.size + 1, 2, none⟩ (.int .i64 i1)).setCell ⟨w.heap.size + 1, 3, none⟩ (.slice a1 len1 cap1)) := ⟨_, rfl⟩
    rw [← hw9] at s2
    have hU9 : Upto none' w w9 := hUw2.trans s2.2 (fun i hi e => by omega)
    have hR9 := rep_pre (Rep.keep s2.2 (fun b e => .inl e) _ _ hR2)
    rw [← hw9]
    clear hw9
    obtain ⟨e0, e1, e2, e3⟩ := s2.1.cells
    refine bodyPost_ret (v := .agg #[.int .i64 k1, .string (B n1'), .int .i64 i1, .slice a1 len1 cap1]) ?_ rfl ?_
    · simp [results, Tryd.f60, go_sem, e0, e1, e2, e3]
    · exact ⟨k1, i1, n1', a1, len1, cap1, t, rfl, hR9, by omega, hU9⟩
end Go.Proofs.YtdcbgkmhlpkjiaaDoor

/- RenameMoves: its walk. -/
namespace Go.LF
/-- A number that is cut. -/
def cutF (x n : Int) : Nat := ((Go.IntKind.u64.wrap x) % n).toNat
def tenL : List Int := [0, 1, 2, 3, 5, -1, 1048576, 1048577, 4611686018427387904, -9223372036854775808]
def numF (x : Int) : Int := tenL.getD (cutF x 10) 0
theorem cutF_lt (x n : Int) (h0 : 0 < n) : (cutF x n : Int) < n := by
  unfold cutF
  have h3 := Int.emod_nonneg (Go.IntKind.u64.wrap x) (show n ≠ 0 by omega)
  have h4 := Int.emod_lt_of_pos (Go.IntKind.u64.wrap x) h0
  omega
theorem numF_le (x : Int) : numF x ≤ 9223372036854775807 := by
  unfold numF
  have h := cutF_lt x 10 (by omega)
  generalize cutF x 10 = c at *
  match c, h with
  | 0, _ => decide
  | 1, _ => decide
  | 2, _ => decide
  | 3, _ => decide
  | 4, _ => decide
  | 5, _ => decide
  | 6, _ => decide
  | 7, _ => decide
  | 8, _ => decide
  | 9, _ => decide
  | n + 10, h => omega
theorem Tm.shiftT_size (t : Tm) (b f : Int) : (t.shiftT b f).size ≤ t.size := by
  unfold Tm.shiftT
  split
  · rw [Tm.size_mv]; exact Nat.le_refl _
  · have := t.size_pos; simp [Tm.zero, Tm.sizes]; omega
theorem Tm.lowerT_size (t : Tm) (b f : Int) : (t.lowerT b f).size ≤ t.size := by
  unfold Tm.lowerT
  split
  · rw [Tm.size_mv]; exact Nat.le_refl _
  · have := t.size_pos; simp [Tm.zero, Tm.sizes]; omega
end Go.LF
namespace Go.Proofs.YtdcbgkmhlpkjiaaDoor
open Go.RowKit Go.LF

set_option maxHeartbeats 1000000 in
theorem cut_is (x n : Int) (h0 : 0 < n) (h1 : n ≤ 1000000) (w : World) :
    Calls Tryd.prog 18 #[.int .i64 x, .int .i64 n] w fun e w' => e = .returned (.int .i64 (cutF x n)) ∧ w = w' := by
  go_enter Tryd.func18, Tryd.ntmps18
  go_wp2_with fail
  go_ret
  have hx : 0 ≤ IntKind.u64.wrap x := u64_nonneg x
  have h2 : (IntKind.u64.wrap x).tmod n = (IntKind.u64.wrap x) % n := Int.tmod_eq_emod_of_nonneg hx
  have h3 := Int.emod_nonneg (IntKind.u64.wrap x) (show n ≠ 0 by omega)
  have h4 := Int.emod_lt_of_pos (IntKind.u64.wrap x) h0
  refine ⟨ret_int ?_, rfl⟩
  unfold cutF
  rw [h2, Go.IntWalk.wrap64_in _ (by omega)]
  omega
set_option maxRecDepth 100000 in
set_option maxHeartbeats 1000000 in
theorem number_any (x : Int) (w : World) : Calls Tryd.prog 62 #[.int .i64 x] w fun e w' => e = .returned (.int .i64 (numF x)) ∧ Upto none' w w' := by
  obtain ⟨wa, hwa⟩ : ∃ wa, wa = w.alloc (.cells #[.int .i64 0, .int .i64 1, .int .i64 2, .int .i64 3, .int .i64 5, .int .i64 (-1), .int .i64 1048576, .int .i64 1048577, .int .i64 4611686018427387904, .int .i64 (-9223372036854775808)] 3) := ⟨_, rfl⟩
  have hU : Upto none' w wa := by rw [hwa]; exact (Upto.refl none' w).alloc _
  have hN : NumB wa w.heap.size tenL := by rw [hwa]; exact heap_alloc_new w _
  have hlt := cutF_lt x 10 (by omega)
  have hc := hN.cell (cutF x 10) (by simp [tenL]; omega)
  have hq := hN.lt
  have HC := cut_is x 10 (by omega) (by omega) wa
  have hnf : numF x = tenL.getD (cutF x 10) 0 := rfl
  rw [← hnf] at hc
  have HWA := hid hwa
  have h0 : (0 : Int) ≤ (cutF x 10 : Int) := by omega
  clear hwa hN hnf
  generalize cutF x 10 = c at *
  generalize numF x = z at *
  go_enter Tryd.func62, Tryd.ntmps62
  go_wp2_with fail
  rw [← HWA.out]
  refine HC.mono ?_
  rintro e wd ⟨rfl, rfl⟩
  go_wp2_with fail
  go_ret
  exact ⟨rfl, hU⟩

set_option maxRecDepth 100000 in
set_option maxHeartbeats 4000000 in
theorem refLower_any (t : Tm) (hs : t.wt ≤ 1000000) (from' n' : Int) (hf1 : from' ≤ 9223372036854775807) (hn1 : n' ≤ 9223372036854775807) (w : World) (cs : List Value) (h : Rep none' w t.dat cs) :
    Calls Tryd.prog 65 #[.agg cs.toArray, .int .i64 from', .int .i64 n'] w (Gives (t.lowerT from' n') (.bool (t.lowerB from' n')) w) := by
  have hwf := Tm.wf_ok t
  obtain ⟨k, n, i, ts, a, cap, ht, rfl, hcap, hE⟩ := tm_open h
  obtain ⟨w4, hw4⟩ : ∃ w4, w4 = (w.alloc (.cells #[.int .i64 k, .string (B n), .int .i64 i, .slice a ts.length cap] 25)).alloc (.cells #[.int .i64 0, .string (B []), .int .i64 0, .slice none 0 0] 25) := ⟨_, rfl⟩
  have hU4 : Upto none' w w4 := by rw [hw4]; exact ((Upto.refl none' w).alloc _).alloc _
  have ht4 : Box4 w4 w.heap.size (.int .i64 k) (.string (B n)) (.int .i64 i) (.slice a ts.length cap) 25 := by rw [hw4]; exact (Box4.at_new rfl).kept ((Upto.refl none' _).alloc _)
  have hr4 : Box4 w4 (w.heap.size + 1) (.int .i64 0) (.string (B [])) (.int .i64 0) (.slice none 0 0) 25 := by rw [hw4]; exact Box4.at_new (by simp)
  have h4 := h.on hU4
  have HW4 := hid hw4
  have HT := hid ht
  obtain ⟨x0, x1, x2, x3⟩ := ht4.cells
  obtain ⟨y0, y1, y2, y3⟩ := hr4.cells
  obtain ⟨z0, z1, z2, z3⟩ := hr4.frozens
  have q0 := hr4.lt
  clear hw4 ht hE h
  have HWF := refWellFormed_any t hs w4 _ h4
  have hways : from' < 0 ∨ (0 ≤ from' ∧ n' < 0) ∨ (0 ≤ from' ∧ 0 ≤ n') := by omega
  have hB : t.lowerB from' n' = (decide (0 ≤ from') && (decide (0 ≤ n') && (t.wf == 0 && Tm.mvok (Tm.lowerF from' n') 0 t))) := rfl
  have hT : t.lowerT from' n' = if t.lowerB from' n' then Tm.mv (Tm.lowerF from' n') 0 t else .mk 0 [] 0 [] := rfl
  have HB := hid (And.intro hB hT)
  clear hB hT
  rcases hways with g1 | ⟨g1, g2⟩ | ⟨g1, g2⟩
  case' inl => have hE : t.lowerB from' n' = false := by rw [HB.out.1, decide_eq_false (by omega)]; rfl
  case' inr.inl => have hE : t.lowerB from' n' = false := by rw [HB.out.1, decide_eq_false (p := 0 ≤ n') (by omega)]; simp
  case' inr.inr =>
    have hE : t.lowerB from' n' = (t.wf == 0 && Tm.mvok (Tm.lowerF from' n') 0 t) := by rw [HB.out.1, decide_eq_true g1, decide_eq_true g2]; simp
    have HE := hid hE
    clear hE
    go_enter Tryd.func65, Tryd.ntmps65
    go_wp2_with fail
    rw [← show B [] = { data := #[] } from rfl, ← HW4.out]
    refine HWF.mono ?_
    rintro e w5 ⟨rfl, hU5⟩
    have ht5 := ht4.kept hU5
    have hr5 := hr4.kept hU5
    have h5 := h4.on hU5
    have hUw5 := hU4.and hU5
    clear x0 x1 x2 x3 y0 y1 y2 y3 z0 z1 z2 z3 ht4 hr4 h4 hU4 hU5 q0 HWF
    obtain ⟨x0, x1, x2, x3⟩ := ht5.cells
    obtain ⟨y0, y1, y2, y3⟩ := hr5.cells
    obtain ⟨z0, z1, z2, z3⟩ := hr5.frozens
    have q0 := hr5.lt
    obtain ⟨wf, hwf0⟩ : ∃ wf, wf = t.wf := ⟨_, rfl⟩
    rw [← hwf0] at hwf HE ⊢
    clear hwf0
    by_cases h0 : wf = 0
  all_goals first
    | (have hT : t.lowerT from' n' = .mk 0 [] 0 [] := by rw [HB.out.2, hE]; rfl
       have HEE := hid (And.intro hE hT)
       clear hE hT HWF
       go_enter Tryd.func65, Tryd.ntmps65
       go_wp2_with fail
       rw [← show B [] = { data := #[] } from rfl, ← HW4.out]
       refine bodyPost_ret (v := .tuple #[.agg #[.int .i64 0, .string (B []), .int .i64 0, .slice none 0 0], .bool false]) ?_ rfl ?_
       · simp [results, Tryd.f65, go_sem, y0, y1, y2, y3]
       · rw [HEE.out.1, HEE.out.2]; exact ⟨0, 0, [], none, 0, 0, rfl, rep_leaf _ _ _, hU4⟩)
    | skip
  case neg =>
    have hE : t.lowerB from' n' = false := by rw [HE.out]; simp [h0]
    have hT : t.lowerT from' n' = .mk 0 [] 0 [] := by rw [HB.out.2, hE]; rfl
    have HEE := hid (And.intro hE hT)
    have hwn : (wf != 0) = true := by simp [h0]
    clear hE hT hwf h0
    go_wp2_with fail
    obtain ⟨w8, hw8⟩ : ∃ w8, w8 = (((w5.setCell ⟨w.heap.size + 1, 0, none⟩ (.int .i64 0)).setCell ⟨w.heap.size + 1, 1, none⟩ (.string (B []))).setCell ⟨w.heap.size + 1, 2, none⟩ (.int .i64 0)).setCell ⟨w.heap.size + 1, 3, none⟩ (.slice none 0 0) := ⟨_, rfl⟩
    obtain ⟨hG, hB9⟩ := gives_set (r := .bool false) hr5 (by omega) hUw5 (rep_leaf (k := 0) (n := []) (i := 0)) hw8
    try rw [← show B [] = { data := #[] } from rfl]
    rw [← hw8]
    clear hw8
    obtain ⟨e0, e1, e2, e3⟩ := hB9.cells
    refine bodyPost_ret (v := .tuple #[.agg #[.int .i64 0, .string (B []), .int .i64 0, .slice none 0 0], .bool false]) ?_ rfl ?_
    · simp [results, Tryd.f65, go_sem, e0, e1, e2, e3]
    · rw [HEE.out.1, HEE.out.2]; exact hG
  case pos =>
    subst h0
    obtain ⟨hok, hsz, _⟩ := hwf rfl
    have HM2 := refLow_any from' n' g1 hf1 g2 hn1 t (by omega) hok 0 w5 [.int .i64 k, .string (B n), .int .i64 i, .slice a ts.length cap] (by omega) (by omega) h5
    clear hwf hok hsz
    go_wp2_with fail
    refine HM2.mono ?_
    rintro e w6 ⟨k6, i6, n6, a6, l6, c6, rfl, hR6, hU6⟩
    have hr6 := hr5.kept hU6
    have hUw6 := hUw5.and hU6
    have hR7 := Rep.weaken (O' := fun x => x ≤ w.heap.size + 1) (fun b _ e => by omega) _ _ hR6
    clear y0 y1 y2 y3 z0 z1 z2 z3 HM2
    obtain ⟨y0, y1, y2, y3⟩ := hr6.cells
    obtain ⟨z0, z1, z2, z3⟩ := hr6.frozens
    have q6 := hr6.lt
    have hE : t.lowerB from' n' = t.mvok (Tm.lowerF from' n') 0 := by rw [HE.out]; simp
    have hT : t.lowerT from' n' = t.mvz (Tm.lowerF from' n') 0 := by rw [HB.out.2, hE]; rfl
    have HEE := hid (And.intro hE hT)
    clear hE hT
    generalize t.mvok (Tm.lowerF from' n') 0 = ok at *
    generalize t.mvz (Tm.lowerF from' n') 0 = u at *
    go_wp2_with fail
    obtain ⟨w8, hw8⟩ : ∃ w8, w8 = (((w6.setCell ⟨w.heap.size + 1, 0, none⟩ (.int .i64 k6)).setCell ⟨w.heap.size + 1, 1, none⟩ (.string (B n6))).setCell ⟨w.heap.size + 1, 2, none⟩ (.int .i64 i6)).setCell ⟨w.heap.size + 1, 3, none⟩ (.slice a6 l6 c6) := ⟨_, rfl⟩
    obtain ⟨hG, hB9⟩ := gives_set (r := .bool ok) hr6 (by omega) hUw6 hR7 hw8
    try rw [← show B [] = { data := #[] } from rfl]
    rw [← hw8]
    clear hw8
    obtain ⟨e0, e1, e2, e3⟩ := hB9.cells
    refine bodyPost_ret (v := .tuple #[.agg #[.int .i64 k6, .string (B n6), .int .i64 i6, .slice a6 l6 c6], .bool ok]) ?_ rfl ?_
    · simp [results, Tryd.f65, go_sem, e0, e1, e2, e3]
    · rw [HEE.out.1, HEE.out.2]; exact hG

theorem TvS.setN {W w' : World} {b r : Nat} {k1 : Int} {n1 : List UInt8} {i1 : Int} {a1 : Option Addr} {len1 cap1 : Nat} (h : TvS W b k1 n1 i1 a1 len1 cap1 w') (hr : W.heap.size ≤ r) (hb : b ≠ r) (o : Nat) (v : Value) : TvS W b k1 n1 i1 a1 len1 cap1 (w'.setCell ⟨r, o, none⟩ v) := by
  have hU := Upto.set (Upto.refl (fun x => x = r) w') o v
  exact ⟨⟨hU.cell h.1.1 hb, hU.cell h.1.2.1 hb, hU.cell h.1.2.2.1 hb, hU.cell h.1.2.2.2 hb⟩, h.2.trans hU (fun i hi e => by omega)⟩
end Go.Proofs.YtdcbgkmhlpkjiaaDoor

/- RenameMoves: its walk. -/
namespace Go.Proofs.YtdcbgkmhlpkjiaaDoor
open Go.RowKit Go.LF

set_option maxRecDepth 100000 in
set_option maxHeartbeats 16000000 in
theorem renMoves_walk (l : List Int) (a : Option Addr) (len cap : Nat) (hl : l.length = len) (hlen : len ≤ 17592186044416) (n0 n1 : Int) (by' fr : Int) (w : World)
    (hE : RepE none' w 1 (l.map (Dat.int .i64)) a 0) (hN : NamesRead w) :
    Calls Tryd.prog 12 #[.slice a len cap, .agg #[.int .i64 n0, .int .i64 n1], .int .i64 by', .int .i64 fr] w fun e w' => e = .returned (.bool true) ∧ Upto none' w w' := by
  obtain ⟨w0, hw0⟩ : ∃ w0, w0 = w.alloc (.cells #[.int .i64 n0, .int .i64 n1] 58) := ⟨_, rfl⟩
  have hU0 : Upto none' w w0 := by rw [hw0]; exact (Upto.refl none' w).alloc _
  have hN0 : NamesRead w0 := by
    obtain ⟨v, h1, h2⟩ := hN
    exact ⟨v, hU0.cell h1 (fun x => x), h2.on hU0⟩
  have HM := made06_any l a len cap hl hlen n0 n1 w0 (hE.on hU0) hN0
  have HW0 := hid hw0
  clear hE hN hN0 hl hlen hw0
  go_enter Tryd.func12, Tryd.ntmps12
  go_wp2_with fail
  rw [← HW0.out]
  refine HM.mono ?_
  rintro e w1 ⟨k1, i1, n1', a1, len1, cap1, t, rfl, hR, hwt, hU⟩
  have hU1 := hU0.and hU
  clear HM hU hU0
  obtain ⟨w3, hw3⟩ : ∃ w3, w3 = w1.alloc (.cells #[.int .i64 k1, .string (B n1'), .int .i64 i1, .slice a1 len1 cap1] 25) := ⟨_, rfl⟩
  have hUa : Upto none' w1 w3 := by rw [hw3]; exact (Upto.refl none' w1).alloc _
  have hA : Box4 w3 w1.heap.size (.int .i64 k1) (.string (B n1')) (.int .i64 i1) (.slice a1 len1 cap1) 25 := by rw [hw3]; exact Box4.at_new rfl
  have hR3 := hR.on hUa
  have hU3 := hU1.and hUa
  have HW3 := hid hw3
  have S1 := fun w' cs h => shift_any t (by omega) (numF by') (numF fr) w' cs h
  have S2 := fun w' cs h => refShift_any t (by omega) (numF by') (numF fr) w' cs h
  have S3 := fun w' cs h => lower_any t (by omega) (numF fr) (numF by') (numF_le by') w' cs h
  have S4 := fun w' cs h => refLower_any t (by omega) (numF fr) (numF by') (numF_le fr) (numF_le by') w' cs h
  have hxs : (t.shiftT (numF by') (numF fr)).size ≤ 1000000 := by have := t.shiftT_size (numF by') (numF fr); have := Tm.size_le_wt t; omega
  have hys : (t.lowerT (numF fr) (numF by')).size ≤ 1000000 := by have := t.lowerT_size (numF fr) (numF by'); have := Tm.size_le_wt t; omega
  have Q1 := fun w' cs ds h h' => refSame_any (t.shiftT (numF by') (numF fr)) hxs (t.shiftT (numF by') (numF fr)) w' cs ds h h'
  have Q2 := fun w' cs ds h h' => refSame_any (t.lowerT (numF fr) (numF by')) hys (t.lowerT (numF fr) (numF by')) w' cs ds h h'
  rw [Tm.same_refl] at Q1 Q2
  generalize t.shiftT (numF by') (numF fr) = xs at *
  generalize t.lowerT (numF fr) (numF by') = xl at *
  generalize t.shiftE (numF by') (numF fr) = ee at *
  generalize t.lowerB (numF fr) (numF by') = bb at *
  obtain ⟨A, hAA⟩ : ∃ A, A = w1.heap.size := ⟨_, rfl⟩
  rw [← hAA] at hA
  have HAA := hid hAA
  clear hxs hys hR hUa hU1 hw3 hAA hwt
  go_upto_region 2 with fail
  rw [← HW3.out, ← HAA.out]
  have Sd : TvS w3 A k1 n1' i1 a1 len1 cap1 w3.drew := TvS.on ⟨hA.cells, Upto.refl _ _⟩ (Upto.refl none' w3).drew
  have Sa : TvS w3 A k1 n1' i1 a1 len1 cap1 (w3.alloc (.cells #[.int .i64 0, .string (B []), .int .i64 0, .slice none 0 0] 25)).drew := TvS.on ⟨hA.cells, Upto.refl _ _⟩ ((Upto.refl none' w3).alloc _).drew
  have hAl := hA.lt
  have zn := fun (V : World) => (Box4.at_new rfl : Box4 (V.alloc (.cells #[.int .i64 0, .string (B []), .int .i64 0, .slice none 0 0] 25)) V.heap.size (.int .i64 0) (.string (B [])) (.int .i64 0) (.slice none 0 0) 25)
  have za := (zn w3).kept (Upto.refl none' _).drew
  go_cut [10, 11] from 21 to 29 (fun va vb wx => ∃ (ob : Nat) (kx ix : Int) (nx : List UInt8) (ax : Option Addr) (lx cx : Nat), va = .pointer (some ⟨ob, 0, none⟩) ∧ vb = .int .i64 ee ∧ Box4 wx ob (.int .i64 kx) (.string (B nx)) (.int .i64 ix) (.slice ax lx cx) 25 ∧
    Rep none' wx xs.dat [.int .i64 kx, .string (B nx), .int .i64 ix, .slice ax lx cx] ∧ Upto none' w3 wx)
  case first =>
    go_region_held3 (fun w' => TvS w3 A k1 n1' i1 a1 len1 cap1 w')
      (first | (with_reducible assumption) | (with_reducible exact Sd) | (with_reducible exact Sa) | (with_reducible exact TvS.on S8 ((Upto.refl none' w8).alloc _)) | (with_reducible exact TvS.on S7 ((Upto.refl none' w7).alloc _)) | (with_reducible exact TvS.on S6 ((Upto.refl none' w6).alloc _)) | (with_reducible exact TvS.setN (TvS.setN (TvS.setN (TvS.setN S8 hr8 hb8 0 _) hr8 hb8 1 _) hr8 hb8 2 _) hr8 hb8 3 _))
      (first
        | ((go_at_call 62); (with_reducible refine (number_any by' _).mono ?_); rintro e w6 ⟨rfl, hU6⟩; have S6 : TvS w3 A k1 n1' i1 a1 len1 cap1 w6 := (by first | with_reducible exact TvS.on Sd hU6 | with_reducible exact TvS.on Sa hU6); have ss6 := S6.up.size; (first | (have z6 := (by with_reducible exact Box4.kept za hU6); have z69 := z6.lt) | skip))
        | ((go_at_call 62); (with_reducible refine (number_any fr _).mono ?_); rintro e w7 ⟨rfl, hU7⟩; have S7 : TvS w3 A k1 n1' i1 a1 len1 cap1 w7 := (by first | with_reducible exact TvS.on S6 hU7 | with_reducible exact TvS.on (TvS.on S6 ((Upto.refl none' w6).alloc _)) hU7); have ss7 := S7.up.size; (first | (have z7 := (by with_reducible exact Box4.kept z6 hU7); have z79 := z7.lt) | (have z7 := (by with_reducible exact Box4.kept (zn w6) hU7); have z79 := z7.lt) | skip))
        | ((go_at_call 61); (first | (with_reducible refine (S1 _ _ (hR3.on S7.up)).mono ?_) | (with_reducible refine (S1 _ _ (hR3.on (S7.up.alloc _))).mono ?_)); rintro e w8 ⟨k8, i8, n8, a8, len8, cap8, rfl, hR8, hU8⟩; have S8 : TvS w3 A k1 n1' i1 a1 len1 cap1 w8 := (by first | with_reducible exact TvS.on S7 hU8 | with_reducible exact TvS.on (TvS.on S7 ((Upto.refl none' w7).alloc _)) hU8); have ss8 := S8.up.size; (first | (have z8 := (by with_reducible exact Box4.kept z7 hU8); have z89 := z8.lt; obtain ⟨z80, z81, z82, z83⟩ := z8.cells; obtain ⟨y80, y81, y82, y83⟩ := z8.frozens) | (have z8 := (by with_reducible exact Box4.kept (zn w7) hU8); have z89 := z8.lt; obtain ⟨z80, z81, z82, z83⟩ := z8.cells; obtain ⟨y80, y81, y82, y83⟩ := z8.frozens) | skip); (first | (have hr8 : w3.heap.size ≤ w3.heap.size := Nat.le_refl _; have _hz := z80; have hb8 : A ≠ w3.heap.size := (by omega); have hck : w8.cell? ⟨w3.heap.size, 0, none⟩ = some (.int .i64 0) := (by with_reducible exact z80)) | (have hr8 : w3.heap.size ≤ w6.heap.size := ss6; have hb8 : A ≠ w6.heap.size := (by omega); have hck : w8.cell? ⟨w6.heap.size, 0, none⟩ = some (.int .i64 0) := (by with_reducible exact z80)) | (have hr8 : w3.heap.size ≤ w7.heap.size := ss7; have hb8 : A ≠ w7.heap.size := (by omega); have hck : w8.cell? ⟨w7.heap.size, 0, none⟩ = some (.int .i64 0) := (by with_reducible exact z80)) | skip)))
    all_goals
      go_wp2_with fail
      go_meet
    all_goals first
      | (have hset := z8.set (d0 := .int .i64 k8) (d1 := .string (B n8)) (d2 := .int .i64 i8) (d3 := .slice a8 len8 cap8)
         exact ⟨_, k8, i8, n8, a8, len8, cap8, rfl, rfl, hset.1, rep_pre (Rep.keep hset.2 (fun b e => by (try simp only [World.size_alloc]); omega) _ _ hR8), S8.up.trans hset.2 (fun i hi e => by omega)⟩)
      | exact ⟨w8.heap.size, k8, i8, n8, a8, len8, cap8, rfl, rfl, Box4.at_new rfl, (rep_pre hR8).new _, S8.up.alloc _⟩
  case rest =>
    obtain ⟨ob4, k4x, i4x, n4x, a4x, l4x, c4x, rfl, rfl, hX4, hRx4, hUc⟩ := hcut
    obtain ⟨w4, rfl⟩ : ∃ q, q = wc := ⟨wc, rfl⟩
    have hA' := hA.kept hUc
    clear hA
    have hA := hA'
    clear hA'
    have hR4 := hR3.on hUc
    have hUn4 := hU3.and hUc
    clear hR3 hU3 hUc Sd Sa S1
    go_upto_region 3 with fail
    have Sd : TvS w4 A k1 n1' i1 a1 len1 cap1 w4.drew := TvS.on ⟨hA.cells, Upto.refl _ _⟩ (Upto.refl none' w4).drew
    have Sa : TvS w4 A k1 n1' i1 a1 len1 cap1 (w4.alloc (.cells #[.int .i64 0, .string (B []), .int .i64 0, .slice none 0 0] 25)).drew := TvS.on ⟨hA.cells, Upto.refl _ _⟩ ((Upto.refl none' w4).alloc _).drew
    have hAl := hA.lt
    have zn := fun (V : World) => (Box4.at_new rfl : Box4 (V.alloc (.cells #[.int .i64 0, .string (B []), .int .i64 0, .slice none 0 0] 25)) V.heap.size (.int .i64 0) (.string (B [])) (.int .i64 0) (.slice none 0 0) 25)
    have za := (zn w4).kept (Upto.refl none' _).drew
    go_cut [12, 13] from 30 to 38 (fun va vb wx => ∃ (ob : Nat) (kx ix : Int) (nx : List UInt8) (ax : Option Addr) (lx cx : Nat), va = .pointer (some ⟨ob, 0, none⟩) ∧ vb = .int .i64 ee ∧ Box4 wx ob (.int .i64 kx) (.string (B nx)) (.int .i64 ix) (.slice ax lx cx) 25 ∧
      Rep none' wx xs.dat [.int .i64 kx, .string (B nx), .int .i64 ix, .slice ax lx cx] ∧ Upto none' w4 wx)
    case first =>
      go_region_held3 (fun w' => TvS w4 A k1 n1' i1 a1 len1 cap1 w')
        (first | (with_reducible assumption) | (with_reducible exact Sd) | (with_reducible exact Sa) | (with_reducible exact TvS.on S8 ((Upto.refl none' w8).alloc _)) | (with_reducible exact TvS.on S7 ((Upto.refl none' w7).alloc _)) | (with_reducible exact TvS.on S6 ((Upto.refl none' w6).alloc _)) | (with_reducible exact TvS.setN (TvS.setN (TvS.setN (TvS.setN S8 hr8 hb8 0 _) hr8 hb8 1 _) hr8 hb8 2 _) hr8 hb8 3 _))
        (first
          | ((go_at_call 62); (with_reducible refine (number_any by' _).mono ?_); rintro e w6 ⟨rfl, hU6⟩; have S6 : TvS w4 A k1 n1' i1 a1 len1 cap1 w6 := (by first | with_reducible exact TvS.on Sd hU6 | with_reducible exact TvS.on Sa hU6); have ss6 := S6.up.size; (first | (have z6 := (by with_reducible exact Box4.kept za hU6); have z69 := z6.lt) | skip))
          | ((go_at_call 62); (with_reducible refine (number_any fr _).mono ?_); rintro e w7 ⟨rfl, hU7⟩; have S7 : TvS w4 A k1 n1' i1 a1 len1 cap1 w7 := (by first | with_reducible exact TvS.on S6 hU7 | with_reducible exact TvS.on (TvS.on S6 ((Upto.refl none' w6).alloc _)) hU7); have ss7 := S7.up.size; (first | (have z7 := (by with_reducible exact Box4.kept z6 hU7); have z79 := z7.lt) | (have z7 := (by with_reducible exact Box4.kept (zn w6) hU7); have z79 := z7.lt) | skip))
          | ((go_at_call 63); (first | (with_reducible refine (S2 _ _ (hR4.on S7.up)).mono ?_) | (with_reducible refine (S2 _ _ (hR4.on (S7.up.alloc _))).mono ?_)); rintro e w8 ⟨k8, i8, n8, a8, len8, cap8, rfl, hR8, hU8⟩; have S8 : TvS w4 A k1 n1' i1 a1 len1 cap1 w8 := (by first | with_reducible exact TvS.on S7 hU8 | with_reducible exact TvS.on (TvS.on S7 ((Upto.refl none' w7).alloc _)) hU8); have ss8 := S8.up.size; (first | (have z8 := (by with_reducible exact Box4.kept z7 hU8); have z89 := z8.lt; obtain ⟨z80, z81, z82, z83⟩ := z8.cells; obtain ⟨y80, y81, y82, y83⟩ := z8.frozens) | (have z8 := (by with_reducible exact Box4.kept (zn w7) hU8); have z89 := z8.lt; obtain ⟨z80, z81, z82, z83⟩ := z8.cells; obtain ⟨y80, y81, y82, y83⟩ := z8.frozens) | skip); (first | (have hr8 : w4.heap.size ≤ w4.heap.size := Nat.le_refl _; have _hz := z80; have hb8 : A ≠ w4.heap.size := (by omega); have hck : w8.cell? ⟨w4.heap.size, 0, none⟩ = some (.int .i64 0) := (by with_reducible exact z80)) | (have hr8 : w4.heap.size ≤ w6.heap.size := ss6; have hb8 : A ≠ w6.heap.size := (by omega); have hck : w8.cell? ⟨w6.heap.size, 0, none⟩ = some (.int .i64 0) := (by with_reducible exact z80)) | (have hr8 : w4.heap.size ≤ w7.heap.size := ss7; have hb8 : A ≠ w7.heap.size := (by omega); have hck : w8.cell? ⟨w7.heap.size, 0, none⟩ = some (.int .i64 0) := (by with_reducible exact z80)) | skip)))
      all_goals
        go_wp2_with fail
        go_meet
      all_goals first
        | (have hset := z8.set (d0 := .int .i64 k8) (d1 := .string (B n8)) (d2 := .int .i64 i8) (d3 := .slice a8 len8 cap8)
           exact ⟨_, k8, i8, n8, a8, len8, cap8, rfl, rfl, hset.1, rep_pre (Rep.keep hset.2 (fun b e => by (try simp only [World.size_alloc]); omega) _ _ hR8), S8.up.trans hset.2 (fun i hi e => by omega)⟩)
        | exact ⟨w8.heap.size, k8, i8, n8, a8, len8, cap8, rfl, rfl, Box4.at_new rfl, (rep_pre hR8).new _, S8.up.alloc _⟩
    case rest =>
      obtain ⟨ob5, k5x, i5x, n5x, a5x, l5x, c5x, rfl, rfl, hX5, hRx5, hUc⟩ := hcut
      obtain ⟨w5, rfl⟩ : ∃ q, q = wc := ⟨wc, rfl⟩
      have hA' := hA.kept hUc
      clear hA
      have hA := hA'
      clear hA'
      have hR5 := hR4.on hUc
      have hUn5 := hUn4.and hUc
      have hX4_5 := hX4.kept hUc
      have hRx4_5 := hRx4.on hUc
      clear hR4 hUn4 hUc Sd Sa S2 hX4 hRx4
      go_upto_region 4 with fail
      have Sd : TvS w5 A k1 n1' i1 a1 len1 cap1 w5.drew := TvS.on ⟨hA.cells, Upto.refl _ _⟩ (Upto.refl none' w5).drew
      have Sa : TvS w5 A k1 n1' i1 a1 len1 cap1 (w5.alloc (.cells #[.int .i64 0, .string (B []), .int .i64 0, .slice none 0 0] 25)).drew := TvS.on ⟨hA.cells, Upto.refl _ _⟩ ((Upto.refl none' w5).alloc _).drew
      have hAl := hA.lt
      have zn := fun (V : World) => (Box4.at_new rfl : Box4 (V.alloc (.cells #[.int .i64 0, .string (B []), .int .i64 0, .slice none 0 0] 25)) V.heap.size (.int .i64 0) (.string (B [])) (.int .i64 0) (.slice none 0 0) 25)
      have za := (zn w5).kept (Upto.refl none' _).drew
      go_cut [14, 15] from 39 to 47 (fun va vb wx => ∃ (ob : Nat) (kx ix : Int) (nx : List UInt8) (ax : Option Addr) (lx cx : Nat), va = .pointer (some ⟨ob, 0, none⟩) ∧ vb = .bool bb ∧ Box4 wx ob (.int .i64 kx) (.string (B nx)) (.int .i64 ix) (.slice ax lx cx) 25 ∧
        Rep none' wx xl.dat [.int .i64 kx, .string (B nx), .int .i64 ix, .slice ax lx cx] ∧ Upto none' w5 wx)
      case first =>
        go_region_held3 (fun w' => TvS w5 A k1 n1' i1 a1 len1 cap1 w')
          (first | (with_reducible assumption) | (with_reducible exact Sd) | (with_reducible exact Sa) | (with_reducible exact TvS.on S8 ((Upto.refl none' w8).alloc _)) | (with_reducible exact TvS.on S7 ((Upto.refl none' w7).alloc _)) | (with_reducible exact TvS.on S6 ((Upto.refl none' w6).alloc _)) | (with_reducible exact TvS.setN (TvS.setN (TvS.setN (TvS.setN S8 hr8 hb8 0 _) hr8 hb8 1 _) hr8 hb8 2 _) hr8 hb8 3 _))
          (first
            | ((go_at_call 62); (with_reducible refine (number_any fr _).mono ?_); rintro e w6 ⟨rfl, hU6⟩; have S6 : TvS w5 A k1 n1' i1 a1 len1 cap1 w6 := (by first | with_reducible exact TvS.on Sd hU6 | with_reducible exact TvS.on Sa hU6); have ss6 := S6.up.size; (first | (have z6 := (by with_reducible exact Box4.kept za hU6); have z69 := z6.lt) | skip))
            | ((go_at_call 62); (with_reducible refine (number_any by' _).mono ?_); rintro e w7 ⟨rfl, hU7⟩; have S7 : TvS w5 A k1 n1' i1 a1 len1 cap1 w7 := (by first | with_reducible exact TvS.on S6 hU7 | with_reducible exact TvS.on (TvS.on S6 ((Upto.refl none' w6).alloc _)) hU7); have ss7 := S7.up.size; (first | (have z7 := (by with_reducible exact Box4.kept z6 hU7); have z79 := z7.lt) | (have z7 := (by with_reducible exact Box4.kept (zn w6) hU7); have z79 := z7.lt) | skip))
            | ((go_at_call 64); (first | (with_reducible refine (S3 _ _ (hR5.on S7.up)).mono ?_) | (with_reducible refine (S3 _ _ (hR5.on (S7.up.alloc _))).mono ?_)); rintro e w8 ⟨k8, i8, n8, a8, len8, cap8, rfl, hR8, hU8⟩; have S8 : TvS w5 A k1 n1' i1 a1 len1 cap1 w8 := (by first | with_reducible exact TvS.on S7 hU8 | with_reducible exact TvS.on (TvS.on S7 ((Upto.refl none' w7).alloc _)) hU8); have ss8 := S8.up.size; (first | (have z8 := (by with_reducible exact Box4.kept z7 hU8); have z89 := z8.lt; obtain ⟨z80, z81, z82, z83⟩ := z8.cells; obtain ⟨y80, y81, y82, y83⟩ := z8.frozens) | (have z8 := (by with_reducible exact Box4.kept (zn w7) hU8); have z89 := z8.lt; obtain ⟨z80, z81, z82, z83⟩ := z8.cells; obtain ⟨y80, y81, y82, y83⟩ := z8.frozens) | skip); (first | (have hr8 : w5.heap.size ≤ w5.heap.size := Nat.le_refl _; have _hz := z80; have hb8 : A ≠ w5.heap.size := (by omega); have hck : w8.cell? ⟨w5.heap.size, 0, none⟩ = some (.int .i64 0) := (by with_reducible exact z80)) | (have hr8 : w5.heap.size ≤ w6.heap.size := ss6; have hb8 : A ≠ w6.heap.size := (by omega); have hck : w8.cell? ⟨w6.heap.size, 0, none⟩ = some (.int .i64 0) := (by with_reducible exact z80)) | (have hr8 : w5.heap.size ≤ w7.heap.size := ss7; have hb8 : A ≠ w7.heap.size := (by omega); have hck : w8.cell? ⟨w7.heap.size, 0, none⟩ = some (.int .i64 0) := (by with_reducible exact z80)) | skip)))
        all_goals
          go_wp2_with fail
          go_meet
        all_goals first
          | (have hset := z8.set (d0 := .int .i64 k8) (d1 := .string (B n8)) (d2 := .int .i64 i8) (d3 := .slice a8 len8 cap8)
             exact ⟨_, k8, i8, n8, a8, len8, cap8, rfl, rfl, hset.1, rep_pre (Rep.keep hset.2 (fun b e => by (try simp only [World.size_alloc]); omega) _ _ hR8), S8.up.trans hset.2 (fun i hi e => by omega)⟩)
          | exact ⟨w8.heap.size, k8, i8, n8, a8, len8, cap8, rfl, rfl, Box4.at_new rfl, (rep_pre hR8).new _, S8.up.alloc _⟩
      case rest =>
        obtain ⟨ob6, k6x, i6x, n6x, a6x, l6x, c6x, rfl, rfl, hX6, hRx6, hUc⟩ := hcut
        obtain ⟨w6', rfl⟩ : ∃ q, q = wc := ⟨wc, rfl⟩
        have hA' := hA.kept hUc
        clear hA
        have hA := hA'
        clear hA'
        have hR6' := hR5.on hUc
        have hUn6 := hUn5.and hUc
        have hX4_6 := hX4_5.kept hUc
        have hRx4_6 := hRx4_5.on hUc
        have hX5_6 := hX5.kept hUc
        have hRx5_6 := hRx5.on hUc
        clear hR5 hUn5 hUc Sd Sa S3 hX4_5 hRx4_5 hX5 hRx5
        go_upto_region 5 with fail
        have Sd : TvS w6' A k1 n1' i1 a1 len1 cap1 w6'.drew := TvS.on ⟨hA.cells, Upto.refl _ _⟩ (Upto.refl none' w6').drew
        have Sa : TvS w6' A k1 n1' i1 a1 len1 cap1 (w6'.alloc (.cells #[.int .i64 0, .string (B []), .int .i64 0, .slice none 0 0] 25)).drew := TvS.on ⟨hA.cells, Upto.refl _ _⟩ ((Upto.refl none' w6').alloc _).drew
        have hAl := hA.lt
        have zn := fun (V : World) => (Box4.at_new rfl : Box4 (V.alloc (.cells #[.int .i64 0, .string (B []), .int .i64 0, .slice none 0 0] 25)) V.heap.size (.int .i64 0) (.string (B [])) (.int .i64 0) (.slice none 0 0) 25)
        have za := (zn w6').kept (Upto.refl none' _).drew
        go_cut [16, 17] from 48 to 56 (fun va vb wx => ∃ (ob : Nat) (kx ix : Int) (nx : List UInt8) (ax : Option Addr) (lx cx : Nat), va = .pointer (some ⟨ob, 0, none⟩) ∧ vb = .bool bb ∧ Box4 wx ob (.int .i64 kx) (.string (B nx)) (.int .i64 ix) (.slice ax lx cx) 25 ∧
          Rep none' wx xl.dat [.int .i64 kx, .string (B nx), .int .i64 ix, .slice ax lx cx] ∧ Upto none' w6' wx)
        case first =>
          go_region_held3 (fun w' => TvS w6' A k1 n1' i1 a1 len1 cap1 w')
            (first | (with_reducible assumption) | (with_reducible exact Sd) | (with_reducible exact Sa) | (with_reducible exact TvS.on S8 ((Upto.refl none' w8).alloc _)) | (with_reducible exact TvS.on S7 ((Upto.refl none' w7).alloc _)) | (with_reducible exact TvS.on S6 ((Upto.refl none' w6).alloc _)) | (with_reducible exact TvS.setN (TvS.setN (TvS.setN (TvS.setN S8 hr8 hb8 0 _) hr8 hb8 1 _) hr8 hb8 2 _) hr8 hb8 3 _))
            (first
              | ((go_at_call 62); (with_reducible refine (number_any fr _).mono ?_); rintro e w6 ⟨rfl, hU6⟩; have S6 : TvS w6' A k1 n1' i1 a1 len1 cap1 w6 := (by first | with_reducible exact TvS.on Sd hU6 | with_reducible exact TvS.on Sa hU6); have ss6 := S6.up.size; (first | (have z6 := (by with_reducible exact Box4.kept za hU6); have z69 := z6.lt) | skip))
              | ((go_at_call 62); (with_reducible refine (number_any by' _).mono ?_); rintro e w7 ⟨rfl, hU7⟩; have S7 : TvS w6' A k1 n1' i1 a1 len1 cap1 w7 := (by first | with_reducible exact TvS.on S6 hU7 | with_reducible exact TvS.on (TvS.on S6 ((Upto.refl none' w6).alloc _)) hU7); have ss7 := S7.up.size; (first | (have z7 := (by with_reducible exact Box4.kept z6 hU7); have z79 := z7.lt) | (have z7 := (by with_reducible exact Box4.kept (zn w6) hU7); have z79 := z7.lt) | skip))
              | ((go_at_call 65); (first | (with_reducible refine (S4 _ _ (hR6'.on S7.up)).mono ?_) | (with_reducible refine (S4 _ _ (hR6'.on (S7.up.alloc _))).mono ?_)); rintro e w8 ⟨k8, i8, n8, a8, len8, cap8, rfl, hR8, hU8⟩; have S8 : TvS w6' A k1 n1' i1 a1 len1 cap1 w8 := (by first | with_reducible exact TvS.on S7 hU8 | with_reducible exact TvS.on (TvS.on S7 ((Upto.refl none' w7).alloc _)) hU8); have ss8 := S8.up.size; (first | (have z8 := (by with_reducible exact Box4.kept z7 hU8); have z89 := z8.lt; obtain ⟨z80, z81, z82, z83⟩ := z8.cells; obtain ⟨y80, y81, y82, y83⟩ := z8.frozens) | (have z8 := (by with_reducible exact Box4.kept (zn w7) hU8); have z89 := z8.lt; obtain ⟨z80, z81, z82, z83⟩ := z8.cells; obtain ⟨y80, y81, y82, y83⟩ := z8.frozens) | skip); (first | (have hr8 : w6'.heap.size ≤ w6'.heap.size := Nat.le_refl _; have _hz := z80; have hb8 : A ≠ w6'.heap.size := (by omega); have hck : w8.cell? ⟨w6'.heap.size, 0, none⟩ = some (.int .i64 0) := (by with_reducible exact z80)) | (have hr8 : w6'.heap.size ≤ w6.heap.size := ss6; have hb8 : A ≠ w6.heap.size := (by omega); have hck : w8.cell? ⟨w6.heap.size, 0, none⟩ = some (.int .i64 0) := (by with_reducible exact z80)) | (have hr8 : w6'.heap.size ≤ w7.heap.size := ss7; have hb8 : A ≠ w7.heap.size := (by omega); have hck : w8.cell? ⟨w7.heap.size, 0, none⟩ = some (.int .i64 0) := (by with_reducible exact z80)) | skip)))
          all_goals
            go_wp2_with fail
            go_meet
          all_goals first
            | (have hset := z8.set (d0 := .int .i64 k8) (d1 := .string (B n8)) (d2 := .int .i64 i8) (d3 := .slice a8 len8 cap8)
               exact ⟨_, k8, i8, n8, a8, len8, cap8, rfl, rfl, hset.1, rep_pre (Rep.keep hset.2 (fun b e => by (try simp only [World.size_alloc]); omega) _ _ hR8), S8.up.trans hset.2 (fun i hi e => by omega)⟩)
            | exact ⟨w8.heap.size, k8, i8, n8, a8, len8, cap8, rfl, rfl, Box4.at_new rfl, (rep_pre hR8).new _, S8.up.alloc _⟩
        case rest =>
          obtain ⟨ob7, k7x, i7x, n7x, a7x, l7x, c7x, rfl, rfl, hX7, hRx7, hUc⟩ := hcut
          obtain ⟨w7', rfl⟩ : ∃ q, q = wc := ⟨wc, rfl⟩
          have hA' := hA.kept hUc
          clear hA
          have hA := hA'
          clear hA'
          have hR7' := hR6'.on hUc
          have hUn7 := hUn6.and hUc
          have hX4_7 := hX4_6.kept hUc
          have hRx4_7 := hRx4_6.on hUc
          have hX5_7 := hX5_6.kept hUc
          have hRx5_7 := hRx5_6.on hUc
          have hX6_7 := hX6.kept hUc
          have hRx6_7 := hRx6.on hUc
          clear hR6' hUn6 hUc Sd Sa S4 hX4_6 hRx4_6 hX5_6 hRx5_6 hX6 hRx6
          have hee : (ee == ee) = true := by simp
          have hbb : (bb == bb) = true := by simp
          obtain ⟨x0, x1, x2, x3⟩ := hX4_7.cells
          obtain ⟨y0, y1, y2, y3⟩ := hX5_7.cells
          go_wp2_with fail
          refine (Q1 _ _ _ hRx4_7 hRx5_7).mono ?_
          rintro e w11 ⟨rfl, hU11⟩
          have hX6_8 := hX6_7.kept hU11
          have hX7_8 := hX7.kept hU11
          have hRx6_8 := hRx6_7.on hU11
          have hRx7_8 := hRx7.on hU11
          clear x0 x1 x2 x3 y0 y1 y2 y3
          obtain ⟨x0, x1, x2, x3⟩ := hX6_8.cells
          obtain ⟨y0, y1, y2, y3⟩ := hX7_8.cells
          go_wp2_with fail
          refine (Q2 _ _ _ hRx6_8 hRx7_8).mono ?_
          rintro e w12 ⟨rfl, hU12⟩
          go_wp2_with fail
          refine (awake06 _).mono ?_
          rintro e w13 ⟨rfl, hU13⟩
          go_wp2
          go_ret
          exact ⟨rfl, ((hUn7.and hU11).and hU12).and hU13⟩
end Go.Proofs.YtdcbgkmhlpkjiaaDoor

namespace Go.Proofs.YtdcbgkmhlpkjiaaDoor
open Go.ChangeShapes Go.WideShapes Go.ChangeAt Go.RowKit Go.LF

set_option maxRecDepth 100000 in
theorem renameMoves_lifted (os : Os) (started : os.Started) (H : Type) (enc : TypeId × Value → H) :
    ReturnsInHanded {} Tryd.checked os 12 .any (fun w args => (Rows.renameMovesSpec.pre enc Tryd.prog Tryd.f12 [] false w args ∧ laidMetH Tryd.prog [("lfcheck/lfcheckmade.names", Rows.laid_lfcheck_lfcheckmade_names)] w) ∧ sizedMet enc Tryd.prog Tryd.f12 (OpenSpec.ofChange Rows.renameMovesSpec) false w args)
      (Rows.renameMovesSpec.post enc Tryd.prog Tryd.f12 false true false false) := by
  refine returnsInHanded_of_change_and (C := Tryd.checked) (X := fun w _ => laidMetH Tryd.prog [("lfcheck/lfcheckmade.names", Rows.laid_lfcheck_lfcheckmade_names)] w) (fun _ _ _ hh h => h.of_heap hh) own started (by kernel_rfl) Tryd.func12
    (ChangeSpec.witness_shaped (enc := enc) (C := Tryd.checked) (os := os) (X := fun w _ => laidMetH Tryd.prog [("lfcheck/lfcheckmade.names", Rows.laid_lfcheck_lfcheckmade_names)] w) false (World.doorLaid Tryd.prog 400 os) #[.slice none 0 0, .agg #[.int .i64 0, .int .i64 0], .int .i64 0, .int .i64 0] 8 rfl (World.shaped_of_RefB (by kernel_rfl) (by kernel_rfl)) (by kernel_rfl) (by kernel_rfl) (by kernel_rfl) (door_met os _)) ?_
  intro W base args ds gs before hval0 hW _ hsz0 hL _
  have hsz : (DataW.weightsEach Tryd.prog (Tryd.f12.params.toList ++ Rows.renameMovesSpec.plain.varTypes Tryd.prog) (ds ++ gs)).all (· ≤ reachBytes) = true := hsz0
  clear hsz0
  have hval : ∀ (j : Nat) t v, Tryd.f12.params[j]? = some t → args[j]? = some v → Value.okWide Tryd.prog W .any base t v := hval0
  have hW' := hW
  obtain ⟨p, q, hA0, hV, rfl, hfz, hnd⟩ := hW
  have hA : DataW.TrodAll enc Tryd.prog W 0 (fun _ => true) true Tryd.f12.params.toList args.toList ds p := hA0
  rw [Tryd.params12] at hA hval hsz
  obtain ⟨v0, vs0, d0, ds0, p0, q0, hargs, rfl, rfl, h0, r0⟩ := trodAll_cons hA
  obtain ⟨v1, vs1, d1, ds1, p1, q1, rfl, rfl, rfl, h1, r1⟩ := trodAll_cons r0
  obtain ⟨v2, vs2, d2, ds2, p2, q2, rfl, rfl, rfl, h2, r2⟩ := trodAll_cons r1
  obtain ⟨v3, vs3, d3, ds3, p3, q3, rfl, rfl, rfl, h3, r3⟩ := trodAll_cons r2
  obtain ⟨rfl, rfl, rfl⟩ := trodAll_nil r3
  obtain rfl : args = #[v0, v1, v2, v3] := Array.ext' hargs
  obtain ⟨rfl, rfl⟩ := trodVars_none hV
  clear hA0 hval0
  simp only [List.append_nil] at hW'
  have hlt : ∀ x, x ∈ p0 ∨ x ∈ p1 ∨ x ∈ p2 ∨ x ∈ p3 → x.block < W.heap.size := fun x hx => hW'.lt x (by simpa [List.mem_append, or_assoc] using hx)
  have hNR := names_of_laid hL
  have h0k := h0
  obtain ⟨a0, len0, cap0, rfl⟩ := okWide_slice Tryd.underlying22 (hval 0 22 v0 rfl rfl)
  obtain ⟨l0, hl0, _, hlen0, hE0⟩ := ints_arg h0 hsz (j := 0) rfl rfl
  have h1k := h1
  obtain ⟨x1_0, x1_1, rfl⟩ := arr2_arg (hval 1 58 v1 rfl rfl) h1
  obtain ⟨n2, rfl, rfl, rfl, wf2⟩ := open_int Tryd.underlying3 (hval 2 3 v2 rfl rfl) h2
  obtain ⟨n3, rfl, rfl, rfl, wf3⟩ := open_int Tryd.underlying3 (hval 3 3 v3 rfl rfl) h3
  refine (renMoves_walk l0 a0 len0 cap0 hl0 hlen0 x1_0 x1_1 n2 n3 W hE0 hNR).mono fun e W' ⟨he, hU⟩ => ?_
  subst he
  have hb := Upto.toBelow hU
  exact ⟨_, rfl, _, _, _, [], _, [], hW', (trodAll_cons_mk (shut_bool Tryd.underlying4 _) trodAll_mk0), (trodAll_cons_mk (Below.trod laidOut (by kernel_rfl) (of_decide_eq_true (by kernel_rfl)) h0k hb (fun x hx => hlt x (by simp [hx]))) (trodAll_cons_mk (Below.trod laidOut (by kernel_rfl) (of_decide_eq_true (by kernel_rfl)) h1k hb (fun x hx => hlt x (by simp [hx]))) (trodAll_cons_mk (shut_int Tryd.underlying3 wf2) (trodAll_cons_mk (shut_int Tryd.underlying3 wf3) trodAll_mk0)))), rfl, hb.frame _, fun h => by cases h⟩

theorem renameMoves_holds : Rows.RenameMovesSaid :=
  OpenClaim.holds_of_wide 12 Tryd.f12 rfl rfl rfl rfl rfl rfl rfl ⟨rfl, rfl, rfl, rfl, rfl⟩ rfl rfl rfl rfl rfl (by kernel_rfl) Tryd.func12 (by kernel_rfl)
    (of_decide_eq_true (by kernel_rfl)) (by unfold Func.isWrapper; first | (rw [if_pos (by decide +kernel)]; kernel_rfl) | (rw [if_neg (by decide +kernel)]; exact ⟨rfl, rfl⟩))
    (fun os started H enc _ => renameMoves_lifted os started H enc)

theorem renameMoves_card_holds : Rows.RenameMovesCardSaid :=
  Claim7.holds_tied_plain_at .later [] [.data] true Rows.renameMovesCard.stood.harness false
    renameMoves_holds (fun _ h => by cases h) (by kernel_rfl) (fun _ h => by cases h) renameMoves_row_tie rfl ⟨rfl, rfl⟩ (by kernel_rfl) rfl
    (fun f fn hf hfn => by
      obtain rfl : f = 12 := Option.some.inj ((show Tryd.prog.funcNamed Rows.renameMovesRow.func = some 12 by kernel_rfl).symm.trans hf) |>.symm
      obtain rfl : fn = Tryd.f12 := (Option.some.inj (Tryd.func12.symm.trans hfn)).symm
      exact ⟨by kernel_rfl, fun j t ht => by
        rw [Tryd.params12] at ht
        have hm : t ∈ [22, 58, 3, 3] := by simpa using Array.mem_of_getElem? ht
        have hall : ([22, 58, 3, 3].all fun u => !Tryd.prog.wantsStandIn u) = true := by kernel_rfl
        exact (show Tryd.prog.wantsStandIn t = false by simpa using List.all_eq_true.1 hall t hm)⟩)
    (by kernel_rfl)
end Go.Proofs.YtdcbgkmhlpkjiaaDoor
