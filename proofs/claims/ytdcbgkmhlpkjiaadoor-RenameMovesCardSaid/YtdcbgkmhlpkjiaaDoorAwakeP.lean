/- The terms that layer 5's awake asks about, as plain data. -/
import Derived.Test.YtdcbgkmhlpkjiaaDoorTermMetas
import Derived.Test.YtdcbgkmhlpkjiaaDoorSame
import Derived.Test.YtdcbgkmhlpkjiaaDoorTermsR
import Derived.Test.YtdcbgkmhlpkjiaaDoorTermA
namespace Go.Proofs.YtdcbgkmhlpkjiaaDoor
open Go.RowKit Go.LF

abbrev tV : Tm := .mk 5 [] 2 []
abbrev tL : Tm := .mk 3 [120] 0 [tV]
abbrev tM : Tm := .mk 3 [] 0 [tV]
abbrev tSort : Tm := .mk 1 [] 0 []
abbrev tNone : Tm := .mk 0 [] 0 []
abbrev tMeta : Tm := .mk 6 [] 3 []
abbrev tC : Tm := .mk 4 [99] 0 []
theorem rep_leaf {O : Nat → Prop} {W : World} (k : Int) (n : List UInt8) (i : Int) : Rep O W (Tm.mk k n i []).dat [.int .i64 k, .string (B n), .int .i64 i, .slice none 0 0] :=
  rep_tm.2 ⟨none, 0, rfl, Nat.le_refl _, by simp only [List.map_nil, RepE]⟩
/-- A node with one argument, in a block of its own. -/
theorem rep_one {O : Nat → Prop} {W : World} {t : Tm} {c0 c1 c2 c3 : Value} {b : Nat} {T : TypeId} (h : Rep O W t.dat [c0, c1, c2, c3]) (hb : ¬ O b) (hB : Box4 W b c0 c1 c2 c3 T) (k : Int) (n : List UInt8) (i : Int) :
    Rep O W (Tm.mk k n i [t]).dat [.int .i64 k, .string (B n), .int .i64 i, .slice (some ⟨b, 0, none⟩) 1 1] := by
  obtain ⟨n0, m1, m2, m3⟩ := hB.cells
  refine rep_tm.2 ⟨_, 1, rfl, Nat.le_refl _, ?_⟩
  refine repE_of _ _ _ (fun i hi => ?_)
  obtain rfl : i = 0 := by simpa using hi
  refine ⟨b, 0, _, rfl, hB.lt, hb, rfl, fun m v hv => ?_, h⟩
  match m, hv with
  | 0, hv => cases hv; exact n0
  | 1, hv => cases hv; exact m1
  | 2, hv => cases hv; exact m2
  | 3, hv => cases hv; exact m3

section
variable {w : World} {c0 c1 c2 c3 d0 d1 d2 d3 : Value}
theorem same_at (t u : Tm) (b : Bool) (hs : t.size ≤ 1000000) (hb : t.same u = b) (h : Rep none' w t.dat [c0, c1, c2, c3]) (h' : Rep none' w u.dat [d0, d1, d2, d3]) :
    Calls Tryd.prog 43 #[.agg #[c0, c1, c2, c3], .agg #[d0, d1, d2, d3]] w fun e w' => e = .returned (.bool b) ∧ Upto none' w w' := by
  subst hb; exact same_any t hs u w _ _ h h'
theorem scope_at (t : Tm) (n : Int) (hs : t.wt ≤ 1000000) (hb : (if t.wf == 0 then t.scope else 0) = n) (h : Rep none' w t.dat [c0, c1, c2, c3]) :
    Calls Tryd.prog 31 #[.agg #[c0, c1, c2, c3]] w fun e w' => e = .returned (.int .i64 n) ∧ Upto none' w w' := by
  subst hb; exact scope_any t hs w _ h
theorem occurs_at (t : Tm) (v : Int) (b : Bool) (hs : t.wt ≤ 1000000) (hb : (t.wf == 0 && (decide (0 ≤ v) && t.occ v)) = b) (h : Rep none' w t.dat [c0, c1, c2, c3]) :
    Calls Tryd.prog 33 #[.agg #[c0, c1, c2, c3], .int .i64 v] w fun e w' => e = .returned (.bool b) ∧ Upto none' w w' := by
  subst hb; exact occurs_any t hs v w _ h
theorem size_at (t : Tm) (n : Int) (hs : t.size ≤ 1000000) (hb : (t.size : Int) = n) (h : Rep none' w t.dat [c0, c1, c2, c3]) :
    Calls Tryd.prog 27 #[.agg #[c0, c1, c2, c3]] w fun e w' => e = .returned (.int .i64 n) ∧ Upto none' w w' := by
  subst hb; exact size_any t hs w _ h
theorem depth_at (t : Tm) (n : Int) (hs : t.size ≤ 1000000) (hb : (t.depth : Int) = n) (h : Rep none' w t.dat [c0, c1, c2, c3]) :
    Calls Tryd.prog 29 #[.agg #[c0, c1, c2, c3]] w fun e w' => e = .returned (.int .i64 n) ∧ Upto none' w w' := by
  subst hb; exact depth_any t hs w _ h
theorem isObject_at (t : Tm) (b : Bool) (hs : t.wt ≤ 1000000) (hb : (t.isObj && t.small) = b) (h : Rep none' w t.dat [c0, c1, c2, c3]) :
    Calls Tryd.prog 25 #[.agg #[c0, c1, c2, c3]] w fun e w' => e = .returned (.bool b) ∧ Upto none' w w' := by
  subst hb; exact isObject_any t hs w _ h
theorem isType_at (t : Tm) (b : Bool) (hs : t.wt ≤ 1000000) (hb : (t.isTyp && t.small) = b) (h : Rep none' w t.dat [c0, c1, c2, c3]) :
    Calls Tryd.prog 23 #[.agg #[c0, c1, c2, c3]] w fun e w' => e = .returned (.bool b) ∧ Upto none' w w' := by
  subst hb; exact isType_any t hs w _ h
theorem isKind_at (t : Tm) (b : Bool) (hs : t.wt ≤ 1000000) (hb : (t.isKnd && t.small) = b) (h : Rep none' w t.dat [c0, c1, c2, c3]) :
    Calls Tryd.prog 21 #[.agg #[c0, c1, c2, c3]] w fun e w' => e = .returned (.bool b) ∧ Upto none' w w' := by
  subst hb; exact isKind_any t hs w _ h
theorem wellFormed_at (t : Tm) (n : Int) (hs : t.wt ≤ 1000000) (hb : t.wf = n) (h : Rep none' w t.dat [c0, c1, c2, c3]) :
    Calls Tryd.prog 19 #[.agg #[c0, c1, c2, c3]] w fun e w' => e = .returned (.int .i64 n) ∧ Upto none' w w' := by
  subst hb; exact wellFormed_any t hs w _ h
theorem metas_is (t : Tm) (n : Nat) (hs : t.wt ≤ 1000000) (hb : (Tm.metas t).length = n) (h : Rep none' w t.dat [c0, c1, c2, c3]) :
    Calls Tryd.prog 36 #[.agg #[c0, c1, c2, c3]] w fun e w' => (∃ a cap, e = .returned (.slice a n cap)) ∧ Upto none' w w' :=
  (metas_any t hs w _ h).mono fun e w' ⟨v, he, hI, hU⟩ => by
    obtain ⟨a, cap, rfl, _⟩ := ints_open hI.rep
    exact ⟨⟨a, cap, by rw [he, hb]⟩, hU⟩
theorem consts_is (t : Tm) (n : Nat) (hs : t.wt ≤ 1000000) (hb : (Tm.consts t).length = n) (h : Rep none' w t.dat [c0, c1, c2, c3]) :
    Calls Tryd.prog 39 #[.agg #[c0, c1, c2, c3]] w fun e w' => (∃ a cap, e = .returned (.slice a n cap)) ∧ Upto none' w w' :=
  (consts_any t hs w _ h).mono fun e w' ⟨v, he, hI, hU⟩ => by
    obtain ⟨a, cap, rfl, _⟩ := strs_open hI.rep
    exact ⟨⟨a, cap, by rw [he, hb]⟩, hU⟩
end

theorem aw1 : tL.same tM = true := by decide
theorem aw2 : tL.same tV = false := by decide
theorem aw3 : (if tL.wf == 0 then tL.scope else 0) = 2 := by decide
theorem aw4 : (tL.wf == 0 && (decide ((0 : Int) ≤ 1) && tL.occ 1)) = true := by decide
theorem aw5 : (tL.wf == 0 && (decide ((0 : Int) ≤ 0) && tL.occ 0)) = false := by decide
theorem aw6 : (tL.size : Int) = 2 := by decide
theorem aw7 : (tL.depth : Int) = 2 := by decide
theorem aw8 : (tL.isObj && tL.small) = true := by decide
theorem aw9 : (tL.isTyp && tL.small) = false := by decide
theorem aw10 : (tSort.isKnd && tSort.small) = true := by decide
theorem aw11 : tNone.wf = 1 := by decide
theorem aw12 : (Tm.metas tMeta).length = 1 := by decide
theorem aw13 : (Tm.consts tC).length = 1 := by decide
theorem aws1 : tL.size ≤ 1000000 := by decide
theorem aws2 : tL.wt ≤ 1000000 := by decide
end Go.Proofs.YtdcbgkmhlpkjiaaDoor
