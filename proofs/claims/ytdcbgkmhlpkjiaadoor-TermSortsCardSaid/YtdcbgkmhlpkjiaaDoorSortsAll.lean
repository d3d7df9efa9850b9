/- For every input TermSorts returns true, and each argument reads afterwards as it read before; the package's names of binders are as its own text lays them (the card ties that). No other conditions. -/
import Derived.Test.YtdcbgkmhlpkjiaaDoorBindsP
import Derived.Test.YtdcbgkmhlpkjiaaDoorRefMetas
import Derived.Test.YtdcbgkmhlpkjiaaDoorFacts
import Derived.Test.YtdcbgkmhlpkjiaaDoorMade05All
import Derived.Test.YtdcbgkmhlpkjiaaDoorAwake05
import Derived.Test.YtdcbgkmhlpkjiaaDoorArgs
import Derived.Test.YtdcbgkmhlpkjiaaDoorCards
import Derived.Test.YtdcbgkmhlpkjiaaDoorTie
import Derived.Deep.RegionHeld3
/- TermMetas, as plain data. -/
namespace Go.Proofs.YtdcbgkmhlpkjiaaDoor
open Go.RowKit Go.LF

/-- One number more, unless it is there. -/
def addOne (a : List Int) (n : Int) : List Int := if a.contains n then a else a ++ [n]
def metaIx (x : Tm.Nd0) : Option Int := if x.k == 6 then some x.i else none
theorem addOne_len (a : List Int) (n : Int) : (addOne a n).length ≤ a.length + 1 := by unfold addOne; split <;> simp
theorem addOnes_len (m : List Int) : ∀ a : List Int, (m.foldl addOne a).length ≤ a.length + m.length := by
  induction m with
  | nil => intro a; simp
  | cons x m ih => intro a; have := ih (addOne a x); have := addOne_len a x; simp only [List.foldl_cons, List.length_cons]; omega
theorem addMetas_ones (t : Tm) (acc : List Int) : Tm.addMetas acc t = ((t.nodes 0).filterMap metaIx).foldl addOne acc := by
  rw [← Tm.metas_fold t 0 acc]
  generalize t.nodes 0 = xs
  induction xs generalizing acc with
  | nil => rfl
  | cons x xs ih =>
    rw [List.foldl_cons, ih]
    unfold Tm.metaStep
    cases h : (x.k == 6)
    · simp [metaIx, h]
    · simp only [List.filterMap_cons, metaIx, h, if_true, List.foldl_cons, Bool.true_and, addOne]
      cases acc.contains x.i <;> simp
theorem addOne_mem (a : List Int) (n m : Int) (h : n ∈ a) : n ∈ addOne a m := by unfold addOne; split <;> simp [h]
theorem addOnes_mem (m : List Int) : ∀ (a : List Int) (n : Int), n ∈ a → n ∈ m.foldl addOne a := by
  induction m with
  | nil => intro a n h; simpa using h
  | cons x m ih => intro a n h; exact ih _ _ (addOne_mem a n x h)
theorem addOnes_mem' (m : List Int) : ∀ (a : List Int) (n : Int), n ∈ m → n ∈ m.foldl addOne a := by
  induction m with
  | nil => intro a n h; cases h
  | cons x m ih =>
    intro a n h
    rcases List.mem_cons.1 h with rfl | h
    · refine addOnes_mem m _ _ ?_
      unfold addOne; split
      · rename_i h; simpa using h
      · simp
    · exact ih _ _ h
theorem addOne_of_mem (a : List Int) (n : Int) (h : n ∈ a) : addOne a n = a := by unfold addOne; rw [if_pos (by simpa using h)]
theorem addOnes_twice (m : List Int) : ∀ (a b : List Int), (m.foldl addOne b).foldl addOne a = m.foldl addOne (b.foldl addOne a) := by
  induction m with
  | nil => intro a b; rfl
  | cons x m ih =>
    intro a b
    rw [List.foldl_cons, ih, List.foldl_cons]
    congr 1
    by_cases h : x ∈ b
    · rw [addOne_of_mem b x h, addOne_of_mem _ x (addOnes_mem' b a x h)]
    · rw [addOne, if_neg (by simpa using h), List.foldl_append]; rfl
theorem addMetas_again (t : Tm) (acc : List Int) : Tm.addMetas acc t = (Tm.addMetas [] t).foldl addOne acc := by
  rw [addMetas_ones, addMetas_ones, addOnes_twice]; rfl
/-- An argument of an object. -/
theorem obj_arg {k i : Int} {n : List UInt8} {l : List Tm} (h : (Tm.mk k n i l).isObj = true) : ∀ t ∈ l, t.isObj = true := by
  rw [Tm.isObj] at h
  have hall : Tm.allObj l = true := by
    split at h
    · simp at h; exact h.2
    split at h
    · simp at h; exact h.2
    split at h
    · simp at h; exact h.2
    split at h
    · simp at h; exact h.2
    · cases h
  rw [Tm.allObj_iff, List.all_eq_true] at hall
  exact hall
theorem arg_metas {k i : Int} {n : List UInt8} {l : List Tm} {d v m : Nat} (h : Tm.Fits (.mk k n i l) d v m) (hd : d ≤ 10) (t : Tm) (ht : t ∈ l) : Tm.metas t = Tm.addMetas [] t ∧ t.wt ≤ 1000000 ∧ t.size ≤ 5000 := by
  have h0 := obj_arg h.obj t ht
  have h1 := h.size
  have h2 := h.depth
  have h3 := h.wt
  have h4 := Tm.pow_mono (show d + 1 ≤ 11 by omega)
  have h5 : (2 : Nat) ^ 11 = 2048 := rfl
  have h6 := Tm.size_le_sizes ht
  have h7 := Tm.depth_le_depths ht
  have h8 := Tm.wt_le_wts ht
  simp only [Tm.size_mk, Tm.depth_mk, Tm.wt_mk] at h1 h2 h3
  have hw : t.wf = 0 := by
    unfold Tm.wf Tm.small
    rw [h0]
    have e1 : t.size ≤ 4096 := by omega
    have e2 : t.depth ≤ 128 := by omega
    simp [e1, e2]
  refine ⟨?_, by omega, by omega⟩
  unfold Tm.metas
  rw [hw]
  rfl
end Go.Proofs.YtdcbgkmhlpkjiaaDoor

/- TermSorts, as plain data. -/
namespace Go.Proofs.YtdcbgkmhlpkjiaaDoor
open Go.LF

theorem knd_not_typ (t : Tm) : t.isKnd = true → t.isTyp = false := by
  induction t using Tm.ind with
  | h k n i ts ih =>
    intro h
    by_cases h2 : (k == 2) = true
    · have hk : k = 2 := by simpa using h2
      subst hk
      match ts, ih, h with
      | [], _, h => simp [Tm.isKnd] at h
      | [x], _, h => simp [Tm.isKnd] at h
      | [x, y], ih, h =>
        rw [Tm.isKnd] at h
        simp at h
        have := ih y (by simp) h.2.2
        rw [isTyp_eq]
        simp [Tm.isAtom, Tm.allTyp, this]
      | x :: y :: z :: r, _, h => simp [Tm.isKnd] at h
    · have h2' : (k == 2) = false := by simpa using h2
      by_cases h4 : (k == 4) = true
      · have hk : k = 4 := by simpa using h4
        subst hk
        rw [isKnd_none _ _ _ _ rfl rfl] at h
        cases h
      · exact isTyp_not _ _ _ _ (by simpa using h4) (by rw [h2']; rfl)
theorem small_arg {k i : Int} {n : List UInt8} {l : List Tm} (h : (Tm.mk k n i l).small = true) : ∀ t ∈ l, t.small = true := by
  intro t ht
  have h6 := Tm.size_le_sizes ht
  have h7 := Tm.depth_le_depths ht
  unfold Tm.small at h ⊢
  simp only [Tm.size_mk, Tm.depth_mk, Bool.and_eq_true, decide_eq_true_eq] at h ⊢
  omega

/-- The sorts of a term: none; a kind; a Pi; a Lam; an atom. -/
theorem sorts_cases (t : Tm) :
    ((t.wf == 0) = false ∧ (t.isKnd && t.small) = false ∧ (t.isTyp && t.small) = false ∧ (t.isObj && t.small) = false) ∨
    (t.kind = 1 ∧ t.args = [] ∧ t.wf = 0 ∧ (t.isKnd && t.small) = true ∧ (t.isTyp && t.small) = false ∧ (t.isObj && t.small) = false) ∨
    (∃ n i x y, t = .mk 2 n i [x, y] ∧ t.wf = 0 ∧ (t.isObj && t.small) = false ∧ (x.isTyp && x.small) = true ∧
      (((t.isKnd && t.small) = true ∧ (t.isTyp && t.small) = false ∧ (y.isKnd && y.small) = true ∧ (y.isTyp && y.small) = false) ∨ ((t.isKnd && t.small) = false ∧ (t.isTyp && t.small) = true ∧ (y.isKnd && y.small) = false ∧ (y.isTyp && y.small) = true))) ∨
    (∃ n i x, t = .mk 3 n i [x] ∧ t.wf = 0 ∧ (t.isKnd && t.small) = false ∧ (t.isTyp && t.small) = false ∧ (t.isObj && t.small) = true ∧ (x.isObj && x.small) = true) ∨
    ((t.kind == 2) = false ∧ (t.kind == 3) = false ∧ t.wf = 0 ∧ (t.isKnd && t.small) = false ∧ (t.isObj && t.small) = true ∧ (((t.kind == 4) = true ∧ (t.isTyp && t.small) = true) ∨ ((t.kind == 4) = false ∧ (t.isTyp && t.small) = false)) ∧ ∀ x ∈ t.args, (x.isObj && x.small) = true) := by
  cases hs : t.small with
  | false =>
    left
    refine ⟨?_, by simp, by simp, by simp⟩
    unfold Tm.wf
    rw [hs]
    split
    · rfl
    · rfl
  | true =>
    have hsa : ∀ x ∈ t.args, x.small = true := by cases t with | mk k n i l => exact small_arg hs
    simp only [Bool.and_true]
    have hwf : t.isObj = true ∨ t.isTyp = true ∨ t.isKnd = true → t.wf = 0 := by
      intro h
      unfold Tm.wf
      rw [hs]
      rcases h with h | h | h <;> rw [h] <;> simp
    have hnw : t.isObj = false → t.isTyp = false → t.isKnd = false → (t.wf == 0) = false := by
      intro h1 h2 h3
      unfold Tm.wf
      rw [h1, h2, h3]
      rfl
    cases hk : t.isKnd with
    | true =>
      have hnt := knd_not_typ t hk
      have hno : t.isObj = false := by
        cases t with
        | mk k n i l =>
          by_cases h1 : k = 1
          · subst h1; exact isObj_no _ _ _ _ rfl rfl rfl rfl
          · by_cases h2 : k = 2
            · subst h2; exact isObj_no _ _ _ _ rfl rfl rfl rfl
            · rw [isKnd_none _ _ _ _ (by simpa using h1) (by simpa using h2)] at hk
              cases hk
      right
      cases t with
      | mk k n i l =>
        by_cases h1 : k = 1
        · subst h1
          left
          refine ⟨rfl, ?_, hwf (.inr (.inr hk)), rfl, hnt, hno⟩
          rw [isKnd_1 _ _ _ _ rfl] at hk
          simp at hk
          exact hk.2.2
        · right; left
          have h2 : k = 2 := by
            apply Decidable.byContradiction
            intro h2
            rw [isKnd_none _ _ _ _ (by simpa using h1) (by simpa using h2)] at hk
            cases hk
          subst h2
          match l, hk, hnt, hno, hwf, hsa with
          | [], hk, _, _, _, _ => simp [Tm.isKnd] at hk
          | [x], hk, _, _, _, _ => simp [Tm.isKnd] at hk
          | [x, y], hk, hnt, hno, hwf, hsa =>
            have hw := hwf (.inr (.inr hk))
            rw [Tm.isKnd] at hk
            simp at hk
            refine ⟨n, i, x, y, rfl, hw, hno, ?_, .inl ⟨rfl, hnt, ?_, ?_⟩⟩
            · rw [hk.2.1, hsa x (by simp)]; rfl
            · rw [hk.2.2, hsa y (by simp)]; rfl
            · rw [knd_not_typ y hk.2.2]; rfl
          | x :: y :: z :: r, hk, _, _, _, _ => simp [Tm.isKnd] at hk
    | false =>
      cases ht : t.isTyp with
      | false =>
        cases ho : t.isObj with
        | false => exact .inl ⟨hnw ho ht hk, rfl, rfl, rfl⟩
        | true =>
          right; right; right
          have hw := hwf (.inl ho)
          cases t with
          | mk k n i l =>
            have hall := obj_arg ho
            by_cases h3 : k = 3
            · subst h3
              left
              rw [isObj_3 _ _ _ _ rfl] at ho
              simp [Tm.bound] at ho
              match l, ho, hall, hsa, hw with
              | [x], _, hall, hsa, hw => exact ⟨n, i, x, rfl, hw, rfl, rfl, rfl, by rw [hall x (by simp), hsa x (by simp)]; rfl⟩
              | [], ho, _, _, _ => simp at ho
              | x :: y :: r, ho, _, _, _ => simp at ho
            · right
              have h2 : k ≠ 2 := by
                rintro rfl
                rw [isObj_no _ _ _ _ rfl rfl rfl rfl] at ho
                cases ho
              have h4 : k ≠ 4 := by
                rintro rfl
                rw [isObj_4 _ _ _ _ rfl] at ho
                rw [isTyp_eq, ho] at ht
                simp at ht
              exact ⟨by simpa using h2, by simpa using h3, hw, rfl, rfl, .inr ⟨by simpa using h4, rfl⟩, fun x hx => by rw [hall x hx, hsa x hx]; rfl⟩
      | true =>
        right; right
        have hw := hwf (.inr (.inl ht))
        cases t with
        | mk k n i l =>
          by_cases h2 : k = 2
          · subst h2
            left
            have hno : (Tm.mk 2 n i l).isObj = false := isObj_no _ _ _ _ rfl rfl rfl rfl
            rw [isTyp_eq] at ht
            simp [Tm.isAtom, Tm.bound] at ht
            match l, ht, hno, hsa, hw, hk with
            | [x, y], ht, hno, hsa, hw, hk =>
              simp [Tm.allTyp] at ht
              have hyk : y.isKnd = false := by
                cases h : y.isKnd with
                | false => rfl
                | true => rw [knd_not_typ y h] at ht; simp at ht
              exact ⟨n, i, x, y, rfl, hw, hno, by rw [ht.2.1, hsa x (by simp)]; rfl, .inr ⟨rfl, rfl, by rw [hyk]; rfl, by rw [ht.2.2, hsa y (by simp)]; rfl⟩⟩
            | [], ht, _, _, _, _ => simp at ht
            | [x], ht, _, _, _, _ => simp at ht
            | x :: y :: z :: r, ht, _, _, _, _ => simp at ht
          · right; right
            have h4 : k = 4 := by
              apply Decidable.byContradiction
              intro h4
              rw [isTyp_not _ _ _ _ (by simpa using h4) (by rw [show (k == 2) = false by simpa using h2]; rfl)] at ht
              cases ht
            subst h4
            have ho : (Tm.mk 4 n i l).isObj = true := by
              rw [isObj_4 _ _ _ _ rfl]
              rw [isTyp_eq] at ht
              simpa using ht
            exact ⟨rfl, rfl, hw, rfl, ho, .inl ⟨rfl, rfl⟩, fun x hx => by rw [obj_arg ho x hx, hsa x hx]; rfl⟩
end Go.Proofs.YtdcbgkmhlpkjiaaDoor

/- TermSorts: its walk. -/
namespace Go.Proofs.YtdcbgkmhlpkjiaaDoor
open Go.RowKit Go.LF

set_option maxRecDepth 100000 in
set_option maxHeartbeats 16000000 in
theorem sorts_walk (l : List Int) (a : Option Addr) (len cap : Nat) (hl : l.length = len) (hlen : len ≤ 17592186044416) (l' : List Int) (a' : Option Addr) (len' cap' : Nat) (hl' : l'.length = len') (hlen' : len' ≤ 17592186044416) (w : World)
    (hE : RepE none' w 1 (l.map (Dat.int .i64)) a 0) (hE' : RepE none' w 1 (l'.map (Dat.int .i64)) a' 0) (hN : NamesRead w) :
    Calls Tryd.prog 6 #[.slice a len cap, .slice a' len' cap'] w fun e w' => e = .returned (.bool true) ∧ Upto none' w w' := by
  have HM := made05_any l a len cap hl hlen l' a' len' cap' hl' hlen' w hE hE' hN
  clear hE hE' hN hl hlen hl' hlen'
  go_enter Tryd.func6, Tryd.ntmps6
  go_wp2_with fail
  refine HM.mono ?_
  rintro e w1 ⟨k1, i1, n1, a1, len1, cap1, t, rfl, hR, hwt, hU⟩
  clear HM
  obtain ⟨kt, nt, it, ts, at', capt, rfl, hcs, hcapt, hEt⟩ := tm_open hR
  simp only [List.cons.injEq, Value.int.injEq, Value.string.injEq, Value.slice.injEq, and_true, true_and] at hcs
  obtain ⟨rfl, hBn, rfl, rfl, rfl, rfl⟩ := hcs
  have hn1 : n1 = nt := by
    have := congrArg (fun b : ByteArray => b.data.toList) hBn
    simpa using this
  subst hn1
  clear hBn
  go_wp2_with fail
  obtain ⟨w2, hw2⟩ : ∃ w2, w2 = w1.alloc (.cells #[.int .i64 k1, .string (B n1), .int .i64 i1, .slice a1 ts.length cap1] 25) := ⟨_, rfl⟩
  have S2 : TvS w2 w1.heap.size k1 n1 i1 a1 ts.length cap1 w2 := ⟨by rw [hw2]; exact (Box4.at_new (T := 25) rfl).cells, Upto.refl _ _⟩
  have hU2 : Upto none' w1 w2 := by rw [hw2]; exact (Upto.refl none' w1).alloc _
  have hRt := hR.on hU2
  have hEt2 := hEt.on hU2
  have hw := hU.and hU2
  rw [← hw2]
  clear hw2 hR hU hU2 hEt
  have hwt1 : (Tm.mk k1 n1 i1 ts).wt ≤ 1000000 := by omega
  have hwa : ∀ x ∈ ts, x.wt ≤ 1000000 := fun x hx => by have := Tm.wt_le_wts hx; simp at hwt1; omega
  have hlts : ts.length ≤ 1000000 := by have := Tm.length_le_sizes ts; have := Tm.sizes_le_wts ts; simp at hwt1; omega
  have S2d := S2.on (Upto.refl none' w2).drew
  clear S2
  have HC := sorts_cases (.mk k1 n1 i1 ts)
  simp only [Tm.kind_mk, Tm.args_mk] at HC
  rcases HC with ⟨hwf, hk, ht, ho⟩ | ⟨rfl, rfl, hwf, hk, ht, ho⟩ | ⟨n, i, x, y, he, hwf, ho, hx, ⟨hk, ht, hy1, hy2⟩ | ⟨hk, ht, hy1, hy2⟩⟩ | ⟨n, i, x, he, hwf, hk, ht, ho, hx⟩ | ⟨h2, h3, hwf, hk, ho, ⟨h4, ht⟩ | ⟨h4, ht⟩, hall⟩
  · obtain ⟨wf, hwf2⟩ : ∃ wf, (Tm.mk k1 n1 i1 ts).wf = wf := ⟨_, rfl⟩
    rw [hwf2] at hwf
    have CK := fun w' (h : Rep none' w' (Tm.mk k1 n1 i1 ts).dat [.int .i64 k1, .string (B n1), .int .i64 i1, .slice a1 ts.length cap1]) => isKind_at (w := w') _ false hwt1 hk h
    have CT := fun w' (h : Rep none' w' (Tm.mk k1 n1 i1 ts).dat [.int .i64 k1, .string (B n1), .int .i64 i1, .slice a1 ts.length cap1]) => isType_at (w := w') _ false hwt1 ht h
    have CO := fun w' (h : Rep none' w' (Tm.mk k1 n1 i1 ts).dat [.int .i64 k1, .string (B n1), .int .i64 i1, .slice a1 ts.length cap1]) => isObject_at (w := w') _ false hwt1 ho h
    have CW := fun w' (h : Rep none' w' (Tm.mk k1 n1 i1 ts).dat [.int .i64 k1, .string (B n1), .int .i64 i1, .slice a1 ts.length cap1]) => wellFormed_at (w := w') _ wf hwt1 hwf2 h
    clear hk ht ho hwt hwt1 hwf2
    go_region_held3 (fun w' => TvS w2 w1.heap.size k1 n1 i1 a1 ts.length cap1 w') (first | assumption | exact S2d | exact TvS.on (by assumption) (by assumption) | go_keep)
      (first
        | (go_at_call 21; refine (CK _ (hRt.on (TvS.up (by assumption)))).mono ?_; rintro e w3 ⟨rfl, hU3⟩)
        | (go_at_call 23; refine (CT _ (hRt.on (TvS.up (by assumption)))).mono ?_; rintro e w4 ⟨rfl, hU4⟩)
        | (go_at_call 25; refine (CO _ (hRt.on (TvS.up (by assumption)))).mono ?_; rintro e w5 ⟨rfl, hU5⟩))
    have S5 : TvS w2 w1.heap.size k1 n1 i1 a1 ts.length cap1 w5 := by assumption
    obtain ⟨⟨x0, x1, x2, x3⟩, hU5'⟩ := S5
    go_wp2_with fail
    refine (CW _ (hRt.on hU5')).mono ?_
    rintro e w6 ⟨rfl, hU6⟩
    have S6 := TvS.on (show TvS w2 w1.heap.size k1 n1 i1 a1 ts.length cap1 w5 from ⟨⟨x0, x1, x2, x3⟩, hU5'⟩) hU6
    have hU6' := S6.up
    have S6' := hid S6
    obtain ⟨⟨y0, y1, y2, y3⟩, _⟩ := S6
    clear x0 x1 x2 x3
    go_wp2_with fail
    refine (awake05 _).mono ?_
    rintro e wz ⟨rfl, hUz⟩
    go_wp2
    go_ret
    exact ⟨rfl, (hw.and hU6').and hUz⟩
  · simp only [List.length_nil] at hRt S2d ⊢
    have CK := fun w' (h : Rep none' w' (Tm.mk 1 n1 i1 []).dat [.int .i64 1, .string (B n1), .int .i64 i1, .slice a1 (0 : Nat) cap1]) => isKind_at (w := w') _ true hwt1 hk h
    have CT := fun w' (h : Rep none' w' (Tm.mk 1 n1 i1 []).dat [.int .i64 1, .string (B n1), .int .i64 i1, .slice a1 (0 : Nat) cap1]) => isType_at (w := w') _ false hwt1 ht h
    have CO := fun w' (h : Rep none' w' (Tm.mk 1 n1 i1 []).dat [.int .i64 1, .string (B n1), .int .i64 i1, .slice a1 (0 : Nat) cap1]) => isObject_at (w := w') _ false hwt1 ho h
    have CW := fun w' (h : Rep none' w' (Tm.mk 1 n1 i1 []).dat [.int .i64 1, .string (B n1), .int .i64 i1, .slice a1 (0 : Nat) cap1]) => wellFormed_at (w := w') _ 0 hwt1 hwf h
    clear hk ht ho hwt hwt1
    go_region_held3 (fun w' => TvS w2 w1.heap.size 1 n1 i1 a1 (0 : Nat) cap1 w') (first | assumption | exact S2d | exact TvS.on (by assumption) (by assumption) | go_keep)
      (first
        | (go_at_call 21; refine (CK _ (hRt.on (TvS.up (by assumption)))).mono ?_; rintro e w3 ⟨rfl, hU3⟩)
        | (go_at_call 23; refine (CT _ (hRt.on (TvS.up (by assumption)))).mono ?_; rintro e w4 ⟨rfl, hU4⟩)
        | (go_at_call 25; refine (CO _ (hRt.on (TvS.up (by assumption)))).mono ?_; rintro e w5 ⟨rfl, hU5⟩))
    have S5 : TvS w2 w1.heap.size 1 n1 i1 a1 (0 : Nat) cap1 w5 := by assumption
    obtain ⟨⟨x0, x1, x2, x3⟩, hU5'⟩ := S5
    go_wp2_with fail
    refine (CW _ (hRt.on hU5')).mono ?_
    rintro e w6 ⟨rfl, hU6⟩
    have S6 := TvS.on (show TvS w2 w1.heap.size 1 n1 i1 a1 (0 : Nat) cap1 w5 from ⟨⟨x0, x1, x2, x3⟩, hU5'⟩) hU6
    have hU6' := S6.up
    have S6' := hid S6
    obtain ⟨⟨y0, y1, y2, y3⟩, _⟩ := S6
    clear x0 x1 x2 x3
    go_wp2_with fail
    go_loopw [9] (fun v9 wr => v9 = .int .i64 0 ∧ w6 = wr) (fun _ _ => 0)
    case atStart => exact ⟨rfl, rfl⟩
    case round =>
      obtain ⟨rfl, rfl⟩ := hrel
      go_wp2_with fail
      refine (awake05 _).mono ?_
      rintro e wz ⟨rfl, hUz⟩
      go_wp2
      go_ret
      exact ⟨rfl, (hw.and hU6').and hUz⟩
  · simp only [Tm.mk.injEq] at he
    obtain ⟨rfl, rfl, rfl, rfl⟩ := he
    simp only [List.length_cons, List.length_nil] at hRt S2d hEt2 ⊢
    have CK := fun w' (h : Rep none' w' (Tm.mk 2 n1 i1 [x, y]).dat [.int .i64 2, .string (B n1), .int .i64 i1, .slice a1 (0 + 1 + 1 : Nat) cap1]) => isKind_at (w := w') _ true hwt1 hk h
    have CT := fun w' (h : Rep none' w' (Tm.mk 2 n1 i1 [x, y]).dat [.int .i64 2, .string (B n1), .int .i64 i1, .slice a1 (0 + 1 + 1 : Nat) cap1]) => isType_at (w := w') _ false hwt1 ht h
    have CO := fun w' (h : Rep none' w' (Tm.mk 2 n1 i1 [x, y]).dat [.int .i64 2, .string (B n1), .int .i64 i1, .slice a1 (0 + 1 + 1 : Nat) cap1]) => isObject_at (w := w') _ false hwt1 ho h
    have CW := fun w' (h : Rep none' w' (Tm.mk 2 n1 i1 [x, y]).dat [.int .i64 2, .string (B n1), .int .i64 i1, .slice a1 (0 + 1 + 1 : Nat) cap1]) => wellFormed_at (w := w') _ 0 hwt1 hwf h
    clear hk ht ho hwt hwt1
    go_region_held3 (fun w' => TvS w2 w1.heap.size 2 n1 i1 a1 (0 + 1 + 1 : Nat) cap1 w') (first | assumption | exact S2d | exact TvS.on (by assumption) (by assumption) | go_keep)
      (first
        | (go_at_call 21; refine (CK _ (hRt.on (TvS.up (by assumption)))).mono ?_; rintro e w3 ⟨rfl, hU3⟩)
        | (go_at_call 23; refine (CT _ (hRt.on (TvS.up (by assumption)))).mono ?_; rintro e w4 ⟨rfl, hU4⟩)
        | (go_at_call 25; refine (CO _ (hRt.on (TvS.up (by assumption)))).mono ?_; rintro e w5 ⟨rfl, hU5⟩))
    have S5 : TvS w2 w1.heap.size 2 n1 i1 a1 (0 + 1 + 1 : Nat) cap1 w5 := by assumption
    obtain ⟨⟨x0, x1, x2, x3⟩, hU5'⟩ := S5
    go_wp2_with fail
    refine (CW _ (hRt.on hU5')).mono ?_
    rintro e w6 ⟨rfl, hU6⟩
    have S6 := TvS.on (show TvS w2 w1.heap.size 2 n1 i1 a1 (0 + 1 + 1 : Nat) cap1 w5 from ⟨⟨x0, x1, x2, x3⟩, hU5'⟩) hU6
    have hU6' := S6.up
    have S6' := hid S6
    obtain ⟨⟨y0, y1, y2, y3⟩, _⟩ := S6
    clear x0 x1 x2 x3
    obtain ⟨b, o, kx, nx, ix, sx, cx, ha1, _, _, p0, p1, p2, p3, hRx⟩ := arg_tm (hEt2.on hU6') 0 (by simp)
    obtain ⟨b', o', ky, ny, iy, sy, cy, ha2, _, _, r0, r1, r2, r3, hRy⟩ := arg_tm (hEt2.on hU6') 1 (by simp)
    subst ha1
    cases ha2
    simp only [List.getElem_cons_zero, Nat.zero_mul, Nat.add_zero] at p0 p1 p2 p3 hRx
    simp only [List.getElem_cons_succ, List.getElem_cons_zero, Nat.one_mul] at r0 r1 r2 r3 hRy
    generalize x.args.length = lx at *
    generalize y.args.length = ly at *
    have CX := fun w' (h : Rep none' w' x.dat [.int .i64 kx, .string (B nx), .int .i64 ix, .slice sx lx cx]) => isType_at (w := w') x true (hwa x (by simp)) hx h
    have CY1 := fun w' (h : Rep none' w' y.dat [.int .i64 ky, .string (B ny), .int .i64 iy, .slice sy ly cy]) => isKind_at (w := w') y true (hwa y (by simp)) hy1 h
    have CY2 := fun w' (h : Rep none' w' y.dat [.int .i64 ky, .string (B ny), .int .i64 iy, .slice sy ly cy]) => isType_at (w := w') y false (hwa y (by simp)) hy2 h
    clear hx hy1 hy2
    have r1' : w6.cell? ⟨b, o + 5, none⟩ = some (.string (B ny)) := r1
    have r2' : w6.cell? ⟨b, o + 6, none⟩ = some (.int .i64 iy) := r2
    have r3' : w6.cell? ⟨b, o + 7, none⟩ = some (.slice sy ly cy) := r3
    go_wp2_with fail
    refine (CX _ hRx).mono ?_
    rintro e w7 ⟨rfl, hU7⟩
    obtain ⟨z0, z1, z2, z3⟩ := box_on hU7 ⟨y0, y1, y2, y3⟩
    have s0 := hU7.cell r0 (fun x => x)
    have s1 := hU7.cell r1 (fun x => x)
    have s2 := hU7.cell r2 (fun x => x)
    have s3 := hU7.cell r3 (fun x => x)
    have s1' := hU7.cell r1' (fun x => x)
    have s2' := hU7.cell r2' (fun x => x)
    have s3' := hU7.cell r3' (fun x => x)
    go_wp2_with fail
    refine (CY1 _ (hRy.on hU7)).mono ?_
    rintro e w8 ⟨rfl, hU8⟩
    obtain ⟨v0, v1, v2, v3⟩ := box_on hU8 ⟨z0, z1, z2, z3⟩
    have t0 := hU8.cell s0 (fun x => x)
    have t1 := hU8.cell s1 (fun x => x)
    have t2 := hU8.cell s2 (fun x => x)
    have t3 := hU8.cell s3 (fun x => x)
    have t1' := hU8.cell s1' (fun x => x)
    have t2' := hU8.cell s2' (fun x => x)
    have t3' := hU8.cell s3' (fun x => x)
    go_wp2_with fail
    refine (CY2 _ ((hRy.on hU7).on hU8)).mono ?_
    rintro e w9 ⟨rfl, hU9⟩
    go_wp2_with fail
    refine (awake05 _).mono ?_
    rintro e wz ⟨rfl, hUz⟩
    go_wp2
    go_ret
    exact ⟨rfl, ((((hw.and hU6').and hU7).and hU8).and hU9).and hUz⟩
  · simp only [Tm.mk.injEq] at he
    obtain ⟨rfl, rfl, rfl, rfl⟩ := he
    simp only [List.length_cons, List.length_nil] at hRt S2d hEt2 ⊢
    have CK := fun w' (h : Rep none' w' (Tm.mk 2 n1 i1 [x, y]).dat [.int .i64 2, .string (B n1), .int .i64 i1, .slice a1 (0 + 1 + 1 : Nat) cap1]) => isKind_at (w := w') _ false hwt1 hk h
    have CT := fun w' (h : Rep none' w' (Tm.mk 2 n1 i1 [x, y]).dat [.int .i64 2, .string (B n1), .int .i64 i1, .slice a1 (0 + 1 + 1 : Nat) cap1]) => isType_at (w := w') _ true hwt1 ht h
    have CO := fun w' (h : Rep none' w' (Tm.mk 2 n1 i1 [x, y]).dat [.int .i64 2, .string (B n1), .int .i64 i1, .slice a1 (0 + 1 + 1 : Nat) cap1]) => isObject_at (w := w') _ false hwt1 ho h
    have CW := fun w' (h : Rep none' w' (Tm.mk 2 n1 i1 [x, y]).dat [.int .i64 2, .string (B n1), .int .i64 i1, .slice a1 (0 + 1 + 1 : Nat) cap1]) => wellFormed_at (w := w') _ 0 hwt1 hwf h
    clear hk ht ho hwt hwt1
    go_region_held3 (fun w' => TvS w2 w1.heap.size 2 n1 i1 a1 (0 + 1 + 1 : Nat) cap1 w') (first | assumption | exact S2d | exact TvS.on (by assumption) (by assumption) | go_keep)
      (first
        | (go_at_call 21; refine (CK _ (hRt.on (TvS.up (by assumption)))).mono ?_; rintro e w3 ⟨rfl, hU3⟩)
        | (go_at_call 23; refine (CT _ (hRt.on (TvS.up (by assumption)))).mono ?_; rintro e w4 ⟨rfl, hU4⟩)
        | (go_at_call 25; refine (CO _ (hRt.on (TvS.up (by assumption)))).mono ?_; rintro e w5 ⟨rfl, hU5⟩))
    have S5 : TvS w2 w1.heap.size 2 n1 i1 a1 (0 + 1 + 1 : Nat) cap1 w5 := by assumption
    obtain ⟨⟨x0, x1, x2, x3⟩, hU5'⟩ := S5
    go_wp2_with fail
    refine (CW _ (hRt.on hU5')).mono ?_
    rintro e w6 ⟨rfl, hU6⟩
    have S6 := TvS.on (show TvS w2 w1.heap.size 2 n1 i1 a1 (0 + 1 + 1 : Nat) cap1 w5 from ⟨⟨x0, x1, x2, x3⟩, hU5'⟩) hU6
    have hU6' := S6.up
    have S6' := hid S6
    obtain ⟨⟨y0, y1, y2, y3⟩, _⟩ := S6
    clear x0 x1 x2 x3
    obtain ⟨b, o, kx, nx, ix, sx, cx, ha1, _, _, p0, p1, p2, p3, hRx⟩ := arg_tm (hEt2.on hU6') 0 (by simp)
    obtain ⟨b', o', ky, ny, iy, sy, cy, ha2, _, _, r0, r1, r2, r3, hRy⟩ := arg_tm (hEt2.on hU6') 1 (by simp)
    subst ha1
    cases ha2
    simp only [List.getElem_cons_zero, Nat.zero_mul, Nat.add_zero] at p0 p1 p2 p3 hRx
    simp only [List.getElem_cons_succ, List.getElem_cons_zero, Nat.one_mul] at r0 r1 r2 r3 hRy
    generalize x.args.length = lx at *
    generalize y.args.length = ly at *
    have CX := fun w' (h : Rep none' w' x.dat [.int .i64 kx, .string (B nx), .int .i64 ix, .slice sx lx cx]) => isType_at (w := w') x true (hwa x (by simp)) hx h
    have CY1 := fun w' (h : Rep none' w' y.dat [.int .i64 ky, .string (B ny), .int .i64 iy, .slice sy ly cy]) => isKind_at (w := w') y false (hwa y (by simp)) hy1 h
    have CY2 := fun w' (h : Rep none' w' y.dat [.int .i64 ky, .string (B ny), .int .i64 iy, .slice sy ly cy]) => isType_at (w := w') y true (hwa y (by simp)) hy2 h
    clear hx hy1 hy2
    have r1' : w6.cell? ⟨b, o + 5, none⟩ = some (.string (B ny)) := r1
    have r2' : w6.cell? ⟨b, o + 6, none⟩ = some (.int .i64 iy) := r2
    have r3' : w6.cell? ⟨b, o + 7, none⟩ = some (.slice sy ly cy) := r3
    go_wp2_with fail
    refine (CX _ hRx).mono ?_
    rintro e w7 ⟨rfl, hU7⟩
    obtain ⟨z0, z1, z2, z3⟩ := box_on hU7 ⟨y0, y1, y2, y3⟩
    have s0 := hU7.cell r0 (fun x => x)
    have s1 := hU7.cell r1 (fun x => x)
    have s2 := hU7.cell r2 (fun x => x)
    have s3 := hU7.cell r3 (fun x => x)
    have s1' := hU7.cell r1' (fun x => x)
    have s2' := hU7.cell r2' (fun x => x)
    have s3' := hU7.cell r3' (fun x => x)
    go_wp2_with fail
    refine (CY1 _ (hRy.on hU7)).mono ?_
    rintro e w8 ⟨rfl, hU8⟩
    obtain ⟨v0, v1, v2, v3⟩ := box_on hU8 ⟨z0, z1, z2, z3⟩
    have t0 := hU8.cell s0 (fun x => x)
    have t1 := hU8.cell s1 (fun x => x)
    have t2 := hU8.cell s2 (fun x => x)
    have t3 := hU8.cell s3 (fun x => x)
    have t1' := hU8.cell s1' (fun x => x)
    have t2' := hU8.cell s2' (fun x => x)
    have t3' := hU8.cell s3' (fun x => x)
    go_wp2_with fail
    refine (CY2 _ ((hRy.on hU7).on hU8)).mono ?_
    rintro e w9 ⟨rfl, hU9⟩
    go_wp2_with fail
    refine (awake05 _).mono ?_
    rintro e wz ⟨rfl, hUz⟩
    go_wp2
    go_ret
    exact ⟨rfl, ((((hw.and hU6').and hU7).and hU8).and hU9).and hUz⟩
  · simp only [Tm.mk.injEq] at he
    obtain ⟨rfl, rfl, rfl, rfl⟩ := he
    simp only [List.length_cons, List.length_nil] at hRt S2d hEt2 ⊢
    have CK := fun w' (h : Rep none' w' (Tm.mk 3 n1 i1 [x]).dat [.int .i64 3, .string (B n1), .int .i64 i1, .slice a1 (0 + 1 : Nat) cap1]) => isKind_at (w := w') _ false hwt1 hk h
    have CT := fun w' (h : Rep none' w' (Tm.mk 3 n1 i1 [x]).dat [.int .i64 3, .string (B n1), .int .i64 i1, .slice a1 (0 + 1 : Nat) cap1]) => isType_at (w := w') _ false hwt1 ht h
    have CO := fun w' (h : Rep none' w' (Tm.mk 3 n1 i1 [x]).dat [.int .i64 3, .string (B n1), .int .i64 i1, .slice a1 (0 + 1 : Nat) cap1]) => isObject_at (w := w') _ true hwt1 ho h
    have CW := fun w' (h : Rep none' w' (Tm.mk 3 n1 i1 [x]).dat [.int .i64 3, .string (B n1), .int .i64 i1, .slice a1 (0 + 1 : Nat) cap1]) => wellFormed_at (w := w') _ 0 hwt1 hwf h
    clear hk ht ho hwt hwt1
    go_region_held3 (fun w' => TvS w2 w1.heap.size 3 n1 i1 a1 (0 + 1 : Nat) cap1 w') (first | assumption | exact S2d | exact TvS.on (by assumption) (by assumption) | go_keep)
      (first
        | (go_at_call 21; refine (CK _ (hRt.on (TvS.up (by assumption)))).mono ?_; rintro e w3 ⟨rfl, hU3⟩)
        | (go_at_call 23; refine (CT _ (hRt.on (TvS.up (by assumption)))).mono ?_; rintro e w4 ⟨rfl, hU4⟩)
        | (go_at_call 25; refine (CO _ (hRt.on (TvS.up (by assumption)))).mono ?_; rintro e w5 ⟨rfl, hU5⟩))
    have S5 : TvS w2 w1.heap.size 3 n1 i1 a1 (0 + 1 : Nat) cap1 w5 := by assumption
    obtain ⟨⟨x0, x1, x2, x3⟩, hU5'⟩ := S5
    go_wp2_with fail
    refine (CW _ (hRt.on hU5')).mono ?_
    rintro e w6 ⟨rfl, hU6⟩
    have S6 := TvS.on (show TvS w2 w1.heap.size 3 n1 i1 a1 (0 + 1 : Nat) cap1 w5 from ⟨⟨x0, x1, x2, x3⟩, hU5'⟩) hU6
    have hU6' := S6.up
    have S6' := hid S6
    obtain ⟨⟨y0, y1, y2, y3⟩, _⟩ := S6
    clear x0 x1 x2 x3
    obtain ⟨b, o, kx, nx, ix, sx, cx, ha1, _, _, p0, p1, p2, p3, hRx⟩ := arg_tm (hEt2.on hU6') 0 (by simp)
    subst ha1
    simp only [List.getElem_cons_zero, Nat.zero_mul, Nat.add_zero] at p0 p1 p2 p3 hRx
    generalize x.args.length = lx at *
    have CX := fun w' (h : Rep none' w' x.dat [.int .i64 kx, .string (B nx), .int .i64 ix, .slice sx lx cx]) => isObject_at (w := w') x true (hwa x (by simp)) hx h
    clear hx
    go_wp2_with fail
    refine (CX _ hRx).mono ?_
    rintro e w7 ⟨rfl, hU7⟩
    go_wp2_with fail
    refine (awake05 _).mono ?_
    rintro e wz ⟨rfl, hUz⟩
    go_wp2
    go_ret
    exact ⟨rfl, ((hw.and hU6').and hU7).and hUz⟩
  · have h4n : (k1 != 4) = false := by simpa [bne] using h4
    have CK := fun w' (h : Rep none' w' (Tm.mk k1 n1 i1 ts).dat [.int .i64 k1, .string (B n1), .int .i64 i1, .slice a1 ts.length cap1]) => isKind_at (w := w') _ false hwt1 hk h
    have CT := fun w' (h : Rep none' w' (Tm.mk k1 n1 i1 ts).dat [.int .i64 k1, .string (B n1), .int .i64 i1, .slice a1 ts.length cap1]) => isType_at (w := w') _ true hwt1 ht h
    have CO := fun w' (h : Rep none' w' (Tm.mk k1 n1 i1 ts).dat [.int .i64 k1, .string (B n1), .int .i64 i1, .slice a1 ts.length cap1]) => isObject_at (w := w') _ true hwt1 ho h
    have CW := fun w' (h : Rep none' w' (Tm.mk k1 n1 i1 ts).dat [.int .i64 k1, .string (B n1), .int .i64 i1, .slice a1 ts.length cap1]) => wellFormed_at (w := w') _ 0 hwt1 hwf h
    clear hk ht ho hwt hwt1
    go_region_held3 (fun w' => TvS w2 w1.heap.size k1 n1 i1 a1 ts.length cap1 w') (first | assumption | exact S2d | exact TvS.on (by assumption) (by assumption) | go_keep)
      (first
        | (go_at_call 21; refine (CK _ (hRt.on (TvS.up (by assumption)))).mono ?_; rintro e w3 ⟨rfl, hU3⟩)
        | (go_at_call 23; refine (CT _ (hRt.on (TvS.up (by assumption)))).mono ?_; rintro e w4 ⟨rfl, hU4⟩)
        | (go_at_call 25; refine (CO _ (hRt.on (TvS.up (by assumption)))).mono ?_; rintro e w5 ⟨rfl, hU5⟩))
    have S5 : TvS w2 w1.heap.size k1 n1 i1 a1 ts.length cap1 w5 := by assumption
    obtain ⟨⟨x0, x1, x2, x3⟩, hU5'⟩ := S5
    go_wp2_with fail
    refine (CW _ (hRt.on hU5')).mono ?_
    rintro e w6 ⟨rfl, hU6⟩
    have S6 := TvS.on (show TvS w2 w1.heap.size k1 n1 i1 a1 ts.length cap1 w5 from ⟨⟨x0, x1, x2, x3⟩, hU5'⟩) hU6
    have hU6' := S6.up
    have S6' := hid S6
    obtain ⟨⟨y0, y1, y2, y3⟩, _⟩ := S6
    clear x0 x1 x2 x3
    go_wp2_with fail
    go_loopw [9] (fun v9 wr => ∃ j : Nat, j ≤ ts.length ∧ v9 = .int .i64 j ∧ TvS w2 w1.heap.size k1 n1 i1 a1 ts.length cap1 wr) (fun v9 _ => ts.length - (intOf v9).toNat)
    case atStart => exact ⟨0, Nat.zero_le _, rfl, S6'.out⟩
    case round =>
      obtain ⟨j, hj, rfl, S⟩ := hrel
      have hUr := S.up
      have S' := hid S
      obtain ⟨⟨z0, z1, z2, z3⟩, _⟩ := S
      clear y0 y1 y2 y3
      by_cases hlt : j < ts.length
      · obtain ⟨b, o, kx, nx, ix, sx, cx, rfl, _, _, p0, p1, p2, p3, hRx⟩ := arg_tm (hEt2.on hUr) j hlt
        have CX := isObject_at (w := wr) ts[j] true (hwa _ (List.getElem_mem hlt)) (hall _ (List.getElem_mem hlt)) hRx
        have HX := hid CX
        have hj0 : (0 : Int) ≤ (j : Int) := by omega
        have hj1 : (j : Int) < (ts.length : Int) := by omega
        clear CX
        generalize ts[j].args.length = lx at *
        go_wp2_with fail
        refine HX.out.mono ?_
        rintro e w7 ⟨rfl, hU7⟩
        have S7 := TvS.on S'.out hU7
        go_wp2_with fail
        go_roundw
        case rel => exact ⟨j + 1, by omega, by go_num, S7⟩
        case measure => simp [intOf]; omega
      · have hjl : j = ts.length := by omega
        have HJ := hid hjl
        clear hjl
        go_wp2_with fail
        refine (awake05 _).mono ?_
        rintro e wz ⟨rfl, hUz⟩
        go_wp2
        go_ret
        exact ⟨rfl, (hw.and hUr).and hUz⟩
  · have CK := fun w' (h : Rep none' w' (Tm.mk k1 n1 i1 ts).dat [.int .i64 k1, .string (B n1), .int .i64 i1, .slice a1 ts.length cap1]) => isKind_at (w := w') _ false hwt1 hk h
    have CT := fun w' (h : Rep none' w' (Tm.mk k1 n1 i1 ts).dat [.int .i64 k1, .string (B n1), .int .i64 i1, .slice a1 ts.length cap1]) => isType_at (w := w') _ false hwt1 ht h
    have CO := fun w' (h : Rep none' w' (Tm.mk k1 n1 i1 ts).dat [.int .i64 k1, .string (B n1), .int .i64 i1, .slice a1 ts.length cap1]) => isObject_at (w := w') _ true hwt1 ho h
    have CW := fun w' (h : Rep none' w' (Tm.mk k1 n1 i1 ts).dat [.int .i64 k1, .string (B n1), .int .i64 i1, .slice a1 ts.length cap1]) => wellFormed_at (w := w') _ 0 hwt1 hwf h
    clear hk ht ho hwt hwt1
    go_region_held3 (fun w' => TvS w2 w1.heap.size k1 n1 i1 a1 ts.length cap1 w') (first | assumption | exact S2d | exact TvS.on (by assumption) (by assumption) | go_keep)
      (first
        | (go_at_call 21; refine (CK _ (hRt.on (TvS.up (by assumption)))).mono ?_; rintro e w3 ⟨rfl, hU3⟩)
        | (go_at_call 23; refine (CT _ (hRt.on (TvS.up (by assumption)))).mono ?_; rintro e w4 ⟨rfl, hU4⟩)
        | (go_at_call 25; refine (CO _ (hRt.on (TvS.up (by assumption)))).mono ?_; rintro e w5 ⟨rfl, hU5⟩))
    have S5 : TvS w2 w1.heap.size k1 n1 i1 a1 ts.length cap1 w5 := by assumption
    obtain ⟨⟨x0, x1, x2, x3⟩, hU5'⟩ := S5
    go_wp2_with fail
    refine (CW _ (hRt.on hU5')).mono ?_
    rintro e w6 ⟨rfl, hU6⟩
    have S6 := TvS.on (show TvS w2 w1.heap.size k1 n1 i1 a1 ts.length cap1 w5 from ⟨⟨x0, x1, x2, x3⟩, hU5'⟩) hU6
    have hU6' := S6.up
    have S6' := hid S6
    obtain ⟨⟨y0, y1, y2, y3⟩, _⟩ := S6
    clear x0 x1 x2 x3
    go_wp2_with fail
    go_loopw [9] (fun v9 wr => ∃ j : Nat, j ≤ ts.length ∧ v9 = .int .i64 j ∧ TvS w2 w1.heap.size k1 n1 i1 a1 ts.length cap1 wr) (fun v9 _ => ts.length - (intOf v9).toNat)
    case atStart => exact ⟨0, Nat.zero_le _, rfl, S6'.out⟩
    case round =>
      obtain ⟨j, hj, rfl, S⟩ := hrel
      have hUr := S.up
      have S' := hid S
      obtain ⟨⟨z0, z1, z2, z3⟩, _⟩ := S
      clear y0 y1 y2 y3
      by_cases hlt : j < ts.length
      · obtain ⟨b, o, kx, nx, ix, sx, cx, rfl, _, _, p0, p1, p2, p3, hRx⟩ := arg_tm (hEt2.on hUr) j hlt
        have CX := isObject_at (w := wr) ts[j] true (hwa _ (List.getElem_mem hlt)) (hall _ (List.getElem_mem hlt)) hRx
        have HX := hid CX
        have hj0 : (0 : Int) ≤ (j : Int) := by omega
        have hj1 : (j : Int) < (ts.length : Int) := by omega
        clear CX
        generalize ts[j].args.length = lx at *
        go_wp2_with fail
        refine HX.out.mono ?_
        rintro e w7 ⟨rfl, hU7⟩
        have S7 := TvS.on S'.out hU7
        go_wp2_with fail
        go_roundw
        case rel => exact ⟨j + 1, by omega, by go_num, S7⟩
        case measure => simp [intOf]; omega
      · have hjl : j = ts.length := by omega
        have HJ := hid hjl
        clear hjl
        go_wp2_with fail
        refine (awake05 _).mono ?_
        rintro e wz ⟨rfl, hUz⟩
        go_wp2
        go_ret
        exact ⟨rfl, (hw.and hUr).and hUz⟩
end Go.Proofs.YtdcbgkmhlpkjiaaDoor

namespace Go.Proofs.YtdcbgkmhlpkjiaaDoor
open Go.ChangeShapes Go.WideShapes Go.ChangeAt Go.RowKit Go.LF

set_option maxRecDepth 100000 in
theorem termSorts_lifted (os : Os) (started : os.Started) (H : Type) (enc : TypeId × Value → H) :
    ReturnsInHanded {} Tryd.checked os 6 .any (fun w args => (Rows.termSortsSpec.pre enc Tryd.prog Tryd.f6 [] false w args ∧ laidMetH Tryd.prog [("lfcheck/lfcheckmade.names", Rows.laid_lfcheck_lfcheckmade_names)] w) ∧ sizedMet enc Tryd.prog Tryd.f6 (OpenSpec.ofChange Rows.termSortsSpec) false w args)
      (Rows.termSortsSpec.post enc Tryd.prog Tryd.f6 false true false false) := by
  refine returnsInHanded_of_change_and (C := Tryd.checked) (X := fun w _ => laidMetH Tryd.prog [("lfcheck/lfcheckmade.names", Rows.laid_lfcheck_lfcheckmade_names)] w) (fun _ _ _ hh h => h.of_heap hh) own started (by kernel_rfl) Tryd.func6
    (ChangeSpec.witness_shaped (enc := enc) (C := Tryd.checked) (os := os) (X := fun w _ => laidMetH Tryd.prog [("lfcheck/lfcheckmade.names", Rows.laid_lfcheck_lfcheckmade_names)] w) false (World.doorLaid Tryd.prog 400 os) #[.slice none 0 0, .slice none 0 0] 8 rfl (World.shaped_of_RefB (by kernel_rfl) (by kernel_rfl)) (by kernel_rfl) (by kernel_rfl) (by kernel_rfl) (door_met os _)) ?_
  intro W base args ds gs before hval0 hW _ hsz0 hL _
  have hsz : (DataW.weightsEach Tryd.prog (Tryd.f6.params.toList ++ Rows.termSortsSpec.plain.varTypes Tryd.prog) (ds ++ gs)).all (· ≤ reachBytes) = true := hsz0
  clear hsz0
  have hval : ∀ (j : Nat) t v, Tryd.f6.params[j]? = some t → args[j]? = some v → Value.okWide Tryd.prog W .any base t v := hval0
  have hW' := hW
  obtain ⟨p, q, hA0, hV, rfl, hfz, hnd⟩ := hW
  have hA : DataW.TrodAll enc Tryd.prog W 0 (fun _ => true) true Tryd.f6.params.toList args.toList ds p := hA0
  rw [Tryd.params6] at hA hval hsz
  obtain ⟨v0, vs0, d0, ds0, p0, q0, hargs, rfl, rfl, h0, r0⟩ := trodAll_cons hA
  obtain ⟨v1, vs1, d1, ds1, p1, q1, rfl, rfl, rfl, h1, r1⟩ := trodAll_cons r0
  obtain ⟨rfl, rfl, rfl⟩ := trodAll_nil r1
  obtain rfl : args = #[v0, v1] := Array.ext' hargs
  obtain ⟨rfl, rfl⟩ := trodVars_none hV
  clear hA0 hval0
  simp only [List.append_nil] at hW'
  have hlt : ∀ x, x ∈ p0 ∨ x ∈ p1 → x.block < W.heap.size := fun x hx => hW'.lt x (by simpa [List.mem_append, or_assoc] using hx)
  have hNR := names_of_laid hL
  have h0k := h0
  obtain ⟨a0, len0, cap0, rfl⟩ := okWide_slice Tryd.underlying22 (hval 0 22 v0 rfl rfl)
  obtain ⟨l0, hl0, _, hlen0, hE0⟩ := ints_arg h0 hsz (j := 0) rfl rfl
  have h1k := h1
  obtain ⟨a1, len1, cap1, rfl⟩ := okWide_slice Tryd.underlying22 (hval 1 22 v1 rfl rfl)
  obtain ⟨l1, hl1, _, hlen1, hE1⟩ := ints_arg h1 hsz (j := 1) rfl rfl
  refine (sorts_walk l0 a0 len0 cap0 hl0 hlen0 l1 a1 len1 cap1 hl1 hlen1 W hE0 hE1 hNR).mono fun e W' ⟨he, hU⟩ => ?_
  subst he
  have hb := Upto.toBelow hU
  exact ⟨_, rfl, _, _, _, [], _, [], hW', (trodAll_cons_mk (shut_bool Tryd.underlying4 _) trodAll_mk0), (trodAll_cons_mk (Below.trod laidOut (by kernel_rfl) (of_decide_eq_true (by kernel_rfl)) h0k hb (fun x hx => hlt x (by simp [hx]))) (trodAll_cons_mk (Below.trod laidOut (by kernel_rfl) (of_decide_eq_true (by kernel_rfl)) h1k hb (fun x hx => hlt x (by simp [hx]))) trodAll_mk0)), rfl, hb.frame _, fun h => by cases h⟩

theorem termSorts_holds : Rows.TermSortsSaid :=
  OpenClaim.holds_of_wide 6 Tryd.f6 rfl rfl rfl rfl rfl rfl rfl ⟨rfl, rfl, rfl, rfl, rfl⟩ rfl rfl rfl rfl rfl (by kernel_rfl) Tryd.func6 (by kernel_rfl)
    (of_decide_eq_true (by kernel_rfl)) (by unfold Func.isWrapper; first | (rw [if_pos (by decide +kernel)]; kernel_rfl) | (rw [if_neg (by decide +kernel)]; exact ⟨rfl, rfl⟩))
    (fun os started H enc _ => termSorts_lifted os started H enc)

theorem termSorts_card_holds : Rows.TermSortsCardSaid :=
  Claim7.holds_tied_plain_at .later [] [.data] true Rows.termSortsCard.stood.harness false
    termSorts_holds (fun _ h => by cases h) (by kernel_rfl) (fun _ h => by cases h) termSorts_row_tie rfl ⟨rfl, rfl⟩ (by kernel_rfl) rfl
    (fun f fn hf hfn => by
      obtain rfl : f = 6 := Option.some.inj ((show Tryd.prog.funcNamed Rows.termSortsRow.func = some 6 by kernel_rfl).symm.trans hf) |>.symm
      obtain rfl : fn = Tryd.f6 := (Option.some.inj (Tryd.func6.symm.trans hfn)).symm
      exact ⟨by kernel_rfl, fun j t ht => by
        rw [Tryd.params6] at ht
        have hm : t ∈ [22, 22] := by simpa using Array.mem_of_getElem? ht
        have hall : ([22, 22].all fun u => !Tryd.prog.wantsStandIn u) = true := by kernel_rfl
        exact (show Tryd.prog.wantsStandIn t = false by simpa using List.all_eq_true.1 hall t hm)⟩)
    (by kernel_rfl)
end Go.Proofs.YtdcbgkmhlpkjiaaDoor
