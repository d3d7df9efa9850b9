/- The program's Eta is the reference's: plain data. -/
import Derived.Test.YtnhmogmpbgadiaaCA
import Derived.Test.YtnhmogmpbgadiaaCM
import Derived.Test.YtnhmogmpbgadiaaDB
namespace Go.LF.Tm
theorem greats_le (l : List Tm) (m : Int) : ∀ acc, greats acc l ≤ m ↔ acc ≤ m ∧ ∀ t ∈ l, great t ≤ m := by
  induction l with
  | nil => intro acc; simp [greats]
  | cons t ts ih =>
    intro acc
    rw [greats, ih]
    simp only [List.mem_cons, forall_eq_or_imp]
    constructor
    · rintro ⟨h1, h2⟩; exact ⟨by omega, by omega, h2⟩
    · rintro ⟨h1, h2, h3⟩; exact ⟨by omega, h3⟩
theorem great_mk_le (k n i l) (m : Int) : great (mk k n i l) ≤ m ↔ (if k == 5 then i else -1) ≤ m ∧ ∀ t ∈ l, great t ≤ m := by rw [great, greats_le]
theorem great_lamN (n : Nat) (t : Tm) (m : Int) (hm : -1 ≤ m) : great (lamN n t) ≤ m ↔ great t ≤ m := by
  induction n generalizing t with
  | zero => rfl
  | succ n ih => rw [lamN, ih, great_mk_le]; simp; omega
theorem great_more (h : Tm) (ts : List Tm) (m : Int) : great (more h ts) ≤ m ↔ great h ≤ m ∧ ∀ t ∈ ts, great t ≤ m := by
  cases h with
  | mk k n i l =>
    show great (mk k n i (l ++ ts)) ≤ m ↔ _
    rw [great_mk_le, great_mk_le]
    simp only [List.mem_append]
    constructor
    · rintro ⟨h1, h2⟩; exact ⟨⟨h1, fun t ht => h2 t (.inl ht)⟩, fun t ht => h2 t (.inr ht)⟩
    · rintro ⟨⟨h1, h2⟩, h3⟩; exact ⟨h1, fun t ht => ht.elim (h2 t) (h3 t)⟩
theorem great_xp (s : Sm) : s.size ≤ 200000 → ∀ h : Tm, great (xp h s) ≤ 1048576 ↔ great h ≤ 1048576 := by
  induction s using Sm.ind with
  | h f l ih =>
    intro hs h
    rw [Sm.size_mk] at hs
    have hl := Sm.length_le_sizes l
    have key : ∀ (l' : List Sm), (∀ s ∈ l', s.size ≤ 200000 → ∀ h : Tm, great (xp h s) ≤ 1048576 ↔ great h ≤ 1048576) → Sm.sizes l' ≤ 200000 → ∀ m : Int, m ≤ 200000 → ∀ t ∈ xpA m l', great t ≤ 1048576 := by
      intro l'
      induction l' with
      | nil => intro _ _ m _ t ht; simp [xpA] at ht
      | cons a as' ih2 =>
        intro h hs m hm t ht
        rw [Sm.sizes] at hs
        have hlt : (a.args.length : Int) ≤ 200000 := by
          cases a with
          | mk f' l'' => have := Sm.length_le_sizes l''; rw [Sm.size_mk] at hs; simp only [Sm.args_mk]; omega
        rw [xpA] at ht
        rcases List.mem_cons.1 ht with rfl | ht
        · rw [h a (by simp) (by omega), great_mk_le]
          simp
          omega
        · exact ih2 (fun s hs => h s (by simp [hs])) (by omega) (m - 1) (by omega) t ht
    rw [xp_mk, great_lamN _ _ _ (by omega), great_more]
    exact ⟨fun h => h.1, fun h => ⟨h, key l ih (by omega) _ (by omega)⟩⟩
/-- The depth of an eta-long form hangs on that of its head. -/
theorem depth_more (h h' : Tm) (ts : List Tm) (hd : h.depth = h'.depth) : (more h ts).depth = (more h' ts).depth := by
  cases h; cases h'
  simp only [depth_mk] at hd
  simp only [more, depth_mk, depths_append, args_mk]
  omega
theorem depth_xp (s : Sm) (h h' : Tm) (hd : h.depth = h'.depth) : (xp h s).depth = (xp h' s).depth := by
  cases s with
  | mk f l => rw [xp_mk, xp_mk, depth_lamN, depth_lamN, depth_more _ _ _ hd]
/-- The program's error. -/
def etaPE (h : Tm) (s : Sm) : Int :=
  if h.wf ≠ 0 then h.wf else if s.wf ≠ 0 then s.wf else if (h.kind != 4 && (h.kind != 5 && h.kind != 6)) = true then 32
  else if (xp h s).small = false then 2 else shiftE h s.args.length 0
theorem sm_wf_size {s : Sm} (e : s.wf = 0) : s.size ≤ 4096 := by
  unfold Sm.wf at e
  split at e
  · cases e
  · split at e
    · cases e
    · rename_i h1 h2; simp at h2; omega
theorem eta_prog (h : Tm) (s : Sm) : etaPE h s = etaE h s ∧ (etaE h s = 0 → shiftE h s.args.length 0 = 0 ∧ xp (shiftT h s.args.length 0) s = etaX h s) := by
  unfold etaPE etaE
  by_cases h1 : h.wf = 0
  case neg => rw [if_pos h1, if_pos h1]; exact ⟨rfl, fun e => absurd e h1⟩
  have n1 : ¬ h.wf ≠ 0 := fun e => e h1
  rw [if_neg n1, if_neg n1]
  by_cases h2 : s.wf = 0
  case neg => rw [if_pos h2, if_pos h2]; exact ⟨rfl, fun e => absurd e h2⟩
  have n2 : ¬ s.wf ≠ 0 := fun e => e h2
  rw [if_neg n2, if_neg n2]
  split
  · exact ⟨rfl, fun e => by cases e⟩
  have hs := sm_wf_size h2
  have hl : s.args.length ≤ 4096 := by
    cases s with
    | mk f l => rw [Sm.size_mk] at hs; have := Sm.length_le_sizes l; simp only [Sm.args_mk]; omega
  obtain ⟨e1, e2⟩ := shift_ref h h1 s.args.length 0 (by omega) (by omega) (by omega) (by omega)
  have hsz : (etaX h s).size = (xp h s).size := by
    have a := size_xp s h
    have b := size_xp s (h.mv (shF s.args.length 0) 0)
    rw [size_mv] at b
    unfold etaX
    omega
  have hdp : (etaX h s).depth = (xp h s).depth := depth_xp s _ _ (depth_mv _ _ _)
  have hsm : (etaX h s).small = (xp h s).small := by unfold small; rw [hsz, hdp]
  have hlz := Sm.lsz_bounds s
  have hxz := size_xp s h
  have hsp := Sm.size_pos s
  have hhp := size_pos h
  have hg : great (etaX h s) ≤ 1048576 ↔ mvok (shiftF s.args.length 0) 0 h = true := by
    unfold etaX
    rw [great_xp s (by omega), e2]
  have hse : shiftE h s.args.length 0 = if mvok (shiftF s.args.length 0) 0 h then 0 else 5 := by
    unfold shiftE
    rw [if_neg n1, if_neg (show ¬ ((s.args.length : Int) < 0 ∨ (0 : Int) < 0) by omega)]
  have hst : shiftE h s.args.length 0 = 0 → xp (shiftT h s.args.length 0) s = etaX h s := by
    intro e
    unfold shiftT etaX
    rw [if_pos e, e1]
  by_cases hb : 4096 < (h.size : Int) - 1 + s.lsz
  · rw [if_pos hb]
    have : (xp h s).small = false := by
      unfold small
      rw [decide_eq_false (by omega), Bool.false_and]
    rw [if_pos this]
    exact ⟨rfl, fun e => by cases e⟩
  rw [if_neg hb, hsm]
  split
  · exact ⟨rfl, fun e => by cases e⟩
  · rw [hse]
    by_cases hm : mvok (shiftF s.args.length 0) 0 h = true
    · rw [if_pos hm, if_neg (by have := hg.2 hm; omega)]
      exact ⟨rfl, fun _ => ⟨rfl, hst (by rw [hse, if_pos hm])⟩⟩
    · rw [if_neg hm, if_pos (by have : ¬ great (etaX h s) ≤ 1048576 := fun e => hm (hg.1 e); omega)]
      exact ⟨rfl, fun e => by cases e⟩
theorem shiftT_size' (t : Tm) (b f : Int) : (t.shiftT b f).size ≤ t.size := by
  unfold shiftT
  split
  · rw [size_mv]; exact Nat.le_refl _
  · have := t.size_pos; simp [zero, sizes]; omega
end Go.LF.Tm
namespace Go.LF.Tm
theorem vr_lamN (m : Nat) (t : Tm) : ∀ n : Int, vr n (lamN m t) = vr (n + m) t := by
  induction m with
  | zero => intro n; simp [lamN]
  | succ m ih =>
    intro n
    rw [lamN_succ, vr_mk, if_pos (by decide), vr0, ih]
    congr 1
    omega
theorem vrs_xpA (l : List Sm) : (∀ s ∈ l, ∀ x : Int, 0 ≤ x → vr 0 (xp (mk 5 [] (x + s.args.length) []) s) = some x) → ∀ e : Int, (l.length : Int) ≤ e + 1 → vrs e (xpA e l) = true := by
  induction l with
  | nil => intro _ e _; simp [xpA, vrs]
  | cons a l ih =>
    intro h e he
    rw [List.length_cons] at he
    rw [xpA, vrs, h a (by simp) e (by omega), ih (fun s hs => h s (by simp [hs])) (e - 1) (by omega)]
    simp
theorem more_var (i : Int) (ts : List Tm) : more (mk 5 [] i []) ts = mk 5 [] i ts := rfl
theorem vr_xp (s : Sm) : ∀ x : Int, 0 ≤ x → vr 0 (xp (mk 5 [] (x + s.args.length) []) s) = some x := by
  induction s using Sm.ind with
  | h f l ih =>
    intro x hx
    rw [xp_mk, vr_lamN, more_var, vr_mk, if_neg (by decide), xpA_length, Int.zero_add, vrs_xpA l ih _ (by omega)]
    have e1 : ((Sm.mk f l).args.length : Int) = l.length := rfl
    have e2 : decide ((l.length : Int) ≤ x + (Sm.mk f l).args.length) = true := by rw [e1]; exact decide_eq_true (by omega)
    rw [e2, if_pos (by simp), e1]
    congr 1
    omega
theorem mv_lamN (f : To) (m : Nat) (t : Tm) : ∀ b : Int, mv f b (lamN m t) = lamN m (mv f (b + m) t) := by
  induction m with
  | zero => intro b; simp [lamN]
  | succ m ih =>
    intro b
    rw [lamN_succ, lamN_succ, mv_mk, mvi_other _ _ _ _ (by decide), mvA, mvA, ih]
    congr 4
    simp [under]
    omega
theorem mvA_xpA (n : Int) (l : List Sm) : (∀ s ∈ l, ∀ b x : Int, 0 ≤ x → x < b → mv (shF n 0) b (xp (mk 5 [] (x + s.args.length) []) s) = xp (mk 5 [] (x + s.args.length) []) s) →
    ∀ (b e : Int) (j : Nat), (l.length : Int) ≤ e + 1 → e < b → mvA (shF n 0) b 5 j (xpA e l) = xpA e l := by
  induction l with
  | nil => intro _ b e j _ _; simp [xpA, mvA]
  | cons a l ih =>
    intro h b e j he hb
    rw [List.length_cons] at he
    have hu : b + under 5 j = b := by simp [under]
    rw [xpA, mvA, hu, h a (by simp) b e (by omega) hb, ih (fun s hs => h s (by simp [hs])) b (e - 1) (j + 1) (by omega) (by omega)]
theorem mv_xp (n : Int) (s : Sm) : ∀ b x : Int, 0 ≤ b → 0 ≤ x → mv (shF n 0) b (xp (mk 5 [] (x + s.args.length) []) s) = xp (mk 5 [] ((if x < b then x else x + n) + s.args.length) []) s := by
  induction s using Sm.ind with
  | h f l ih =>
    intro b x hb hx
    have key : ∀ s ∈ l, ∀ b x : Int, 0 ≤ x → x < b → mv (shF n 0) b (xp (mk 5 [] (x + s.args.length) []) s) = xp (mk 5 [] (x + s.args.length) []) s := by
      intro s hs b x hx hb
      rw [ih s hs b x (by omega) hx, if_pos hb]
    rw [xp_mk, xp_mk, mv_lamN, more_var, more_var, mv_mk, mvA_xpA n l key _ _ _ (by omega) (by omega)]
    congr 2
    simp only [Sm.args_mk]
    unfold mvi shF
    by_cases h : x < b
    · rw [if_neg (by omega), if_pos h]
    · rw [if_pos (by omega), if_neg h, if_neg (by omega)]
      show x + l.length - (b + l.length) + n + (b + l.length) = _
      omega
theorem lamC_lamN (m : Nat) (t : Tm) : lamC (lamN m t) = lamC t + m := by
  induction m with
  | zero => rfl
  | succ m ih => rw [lamN_succ, lamC_mk, if_pos (by decide), lamC0_one, ih]; rfl
theorem lamC_xp (x : Int) (s : Sm) : lamC (xp (mk 5 [] x []) s) = s.args.length := by
  cases s with
  | mk f l => rw [xp_mk, lamC_lamN, more_var, lamC_mk, if_neg (by decide)]; simp
/-- The eta-long form of a variable at a simple type of some size. -/
theorem eta_mid (v : Int) (h0 : 0 ≤ v) (h1 : v ≤ 1000) (s : Sm) (hw : s.wf = 0) (hz : s.size ≤ 60) :
    etaE (mk 5 [] v []) s = 0 ∧ etaT (mk 5 [] v []) s = xp (mk 5 [] (v + s.args.length) []) s ∧ (etaT (mk 5 [] v []) s).isObj = true ∧ (etaT (mk 5 [] v []) s).size ≤ 119 ∧ (etaT (mk 5 [] v []) s).wt ≤ 200 ∧ (etaT (mk 5 [] v []) s).wf = 0 := by
  have hal : s.args.length ≤ 60 := by cases s with | mk f l => rw [Sm.size_mk] at hz; have := Sm.length_le_sizes l; simp only [Sm.args_mk]; omega
  have hx : etaX (mk 5 [] v []) s = xp (mk 5 [] (v + s.args.length) []) s := by rw [etaX, mv_var _ _ h0]
  have hxo : (etaX (mk 5 [] v []) s).isObj = true := by
    rw [hx]
    refine obj_xp s _ ?_ (by simp) (by omega)
    rw [isObj]
    simp [allObj]
    omega
  have hxs : (etaX (mk 5 [] v []) s).size ≤ 119 := by have := size_xp s (mk 5 [] (v + s.args.length) []); rw [hx]; simp [sizes] at this; omega
  have hxw : (etaX (mk 5 [] v []) s).wt ≤ 200 := by have := wt_xp s (mk 5 [] (v + s.args.length) []); rw [hx]; simp [wts] at this; omega
  have e4 : (etaX (mk 5 [] v []) s).small = true := by unfold small; have := depth_le_size (etaX (mk 5 [] v []) s); simp; omega
  have hE : etaE (mk 5 [] v []) s = 0 := by
    have e1 : (mk 5 [] v []).wf = 0 := by
      have ho : (mk 5 [] v []).isObj = true := by rw [isObj]; simp [allObj]; omega
      unfold wf small
      rw [ho]
      simp [sizes, depths]
    have e3 := (Sm.lsz_bounds s).1
    have e5 : (etaX (mk 5 [] v []) s).great ≤ 1048576 := by
      rw [great_le _ _ (by omega) 0]
      intro x hx hk
      exact ((obj_ok _ hxo 0 x hx).1 (by simp [hk])).2
    unfold etaE
    rw [if_neg (by simp [e1]), if_neg (by simp [hw]), if_neg (by simp), if_neg (by simp [sizes]; omega), if_neg (by simp [e4]), if_neg (by omega)]
  have hT : etaT (mk 5 [] v []) s = etaX (mk 5 [] v []) s := by rw [etaT, if_pos hE]
  refine ⟨hE, by rw [hT, hx], by rw [hT]; exact hxo, by rw [hT]; exact hxs, by rw [hT]; exact hxw, ?_⟩
  rw [hT]
  unfold wf
  rw [hxo, e4]
  rfl
/-- SimpleVariables. -/
theorem simple_variables (s : Sm) (hw : s.wf = 0) (hz : s.size ≤ 60) (v n : Int) (h0 : 0 ≤ v) (h1 : v ≤ 50) (h2 : 0 ≤ n) (h3 : n ≤ 50) :
    (etaT (mk 5 [] v []) s).vrw = some v ∧ (etaT (mk 5 [] v []) s).fitsV s.args.length = true ∧ mv (shF n 0) 0 (etaT (mk 5 [] v []) s) = etaT (mk 5 [] (v + n) []) s := by
  obtain ⟨a1, a2, a3, a4, a5, a6⟩ := eta_mid v h0 (by omega) s hw hz
  obtain ⟨b1, b2, b3, b4, b5, b6⟩ := eta_mid (v + n) (by omega) (by omega) s hw hz
  refine ⟨?_, ?_, ?_⟩
  · unfold vrw
    rw [a6, a2]
    exact vr_xp s v h0
  · unfold fitsV
    have hd := depth_le_size (etaT (mk 5 [] v []) s)
    have hsm : (etaT (mk 5 [] v []) s).small = true := by unfold small; simp; omega
    rw [a3, hsm, a2, lamC_xp]
    simp
  · rw [a2, b2, mv_xp n s 0 v (by omega) h0, if_neg (by omega)]
/-- A chain of simple types. -/
def chainS : Nat → Sm
  | 0 => .mk [110, 97, 116] []
  | k + 1 => .mk [110, 97, 116] [chainS k]
theorem chainS_facts (k : Nat) : (chainS k).size = k + 1 ∧ (chainS k).depth = k + 1 ∧ (chainS k).form = true ∧ (chainS k).wt = 4 * k + 4 := by
  induction k with
  | zero => decide
  | succ k ih =>
    obtain ⟨h1, h2, h3, h4⟩ := ih
    have hf : Sm.famOk [110, 97, 116] = true := by decide
    rw [chainS]
    refine ⟨?_, ?_, ?_, ?_⟩
    · simp [Sm.sizes, h1]
    · simp [Sm.depths, h2]
    · rw [Sm.form_mk, Sm.forms, Sm.forms, h3, hf]; rfl
    · simp [Sm.wts, h4]; omega
theorem chainS_wf (n : Nat) (h : n ≤ 3) : (chainS (126 + n)).wf = if 1 < n then 2 else 0 := by
  obtain ⟨h1, h2, h3, _⟩ := chainS_facts (126 + n)
  unfold Sm.wf
  rw [h1, h2, h3]
  have : n = 0 ∨ n = 1 ∨ n = 2 ∨ n = 3 := by omega
  rcases this with rfl | rfl | rfl | rfl <;> rfl
def wideS (n : Nat) : Sm := .mk [110, 97, 116] (List.replicate n (.mk [110, 97, 116] []))
theorem wideS_facts (n : Nat) : (wideS n).size = n + 1 ∧ (wideS n).depth ≤ 2 ∧ (wideS n).form = true ∧ (wideS n).wt = 4 * n + 4 ∧ (wideS n).args.length = n := by
  have hf : Sm.famOk [110, 97, 116] = true := by decide
  have key : ∀ n, Sm.sizes (List.replicate n (.mk [110, 97, 116] [])) = n ∧ Sm.depths (List.replicate n (.mk [110, 97, 116] [])) ≤ 1 ∧ Sm.forms (List.replicate n (.mk [110, 97, 116] [])) = true ∧ Sm.wts (List.replicate n (.mk [110, 97, 116] [])) = 4 * n := by
    intro n
    induction n with
    | zero => simp [Sm.sizes, Sm.depths, Sm.forms, Sm.wts]
    | succ n ih =>
      obtain ⟨h1, h2, h3, h4⟩ := ih
      rw [List.replicate_succ]
      simp only [Sm.sizes, Sm.depths, Sm.forms, Sm.wts, Sm.form_mk, Sm.size_mk, Sm.depth_mk, Sm.wt_mk, h1, h3, h4, hf, List.length_cons, List.length_nil]
      exact ⟨by omega, by omega, rfl, by omega⟩
  obtain ⟨h1, h2, h3, h4⟩ := key n
  unfold wideS
  refine ⟨by simp [h1], by simp; omega, by rw [Sm.form_mk, hf, h3]; rfl, by simp [h4]; omega, by simp⟩
theorem wideS_wf (n : Nat) (hn : n ≤ 4000) : (wideS n).wf = 0 := by
  obtain ⟨h1, h2, h3, _⟩ := wideS_facts n
  unfold Sm.wf
  rw [h1, h3]
  have e1 : ¬ 4096 < n + 1 := by omega
  have e2 : ¬ 128 < (wideS n).depth := by omega
  simp [e1, e2]
def wideT (n : Nat) : Tm := .mk 4 [99] 0 (List.replicate n (.mk 4 [122] 0 []))
theorem wideT_facts (n : Nat) : (wideT n).size = n + 1 ∧ (wideT n).depth ≤ 2 ∧ (wideT n).isObj = true ∧ (wideT n).wt = 2 * n + 2 ∧ (wideT n).args.length = n ∧ ∀ f, mvok f 0 (wideT n) = true := by
  have key : ∀ n, sizes (List.replicate n (.mk 4 [122] 0 [])) = n ∧ depths (List.replicate n (.mk 4 [122] 0 [])) ≤ 1 ∧ allObj (List.replicate n (.mk 4 [122] 0 [])) = true ∧ wts (List.replicate n (.mk 4 [122] 0 [])) = 2 * n ∧ ∀ f b j, mvokA f b 4 j (List.replicate n (.mk 4 [122] 0 [])) = true := by
    intro n
    have ho : (mk 4 [122] 0 []).isObj = true := by decide
    induction n with
    | zero => simp [sizes, depths, allObj, wts, mvokA]
    | succ n ih =>
      obtain ⟨h1, h2, h3, h4, h5⟩ := ih
      rw [List.replicate_succ]
      simp only [sizes, depths, allObj, wts, size_mk, depth_mk, wt_mk, h1, h3, h4, ho, List.length_cons, List.length_nil]
      refine ⟨by omega, by omega, rfl, by omega, fun f b j => ?_⟩
      rw [mvokA, h5, mvok_mk, mvokA]
      simp [oki]
  obtain ⟨h1, h2, h3, h4, h5⟩ := key n
  unfold wideT
  refine ⟨by simp [h1], by simp; omega, ?_, by simp [h4]; omega, by simp, fun f => ?_⟩
  · rw [isObj]
    have : isName [99] = true := by decide
    simp [this, h3]
  · rw [mvok_mk, h5]
    simp [oki]
/-- SimpleLimits. -/
theorem wide_eta (n : Nat) (h : n ≤ 3) : etaE (wideT (3854 + n)) (wideS 120) = if 1 < n then 2 else 0 := by
  obtain ⟨t1, t2, t3, t4, t5, t6⟩ := wideT_facts (3854 + n)
  obtain ⟨s1, s2, s3, s4, s5⟩ := wideS_facts 120
  have hsm : (wideT (3854 + n)).small = true := by unfold small; simp; omega
  have hw : (wideT (3854 + n)).wf = 0 := by unfold wf; rw [t3, hsm]; rfl
  have hsz := size_xp (wideS 120) (wideT (3854 + n))
  have hdp : (xp (wideT (3854 + n)) (wideS 120)).depth ≤ 123 := by
    have hd : ∀ h : Tm, h.depth ≤ 2 → ∀ ts : List Tm, depths ts ≤ 2 → (more h ts).depth ≤ 3 := by
      intro h hh ts ht
      cases h with
      | mk k nm i l => simp only [more, depth_mk, depths_append, args_mk, kind_mk] at *; omega
    have hA : ∀ k (m : Int), depths (xpA m (List.replicate k (.mk [110, 97, 116] []))) ≤ 2 := by
      intro k
      induction k with
      | zero => intro m; simp [xpA, depths]
      | succ k ih =>
        intro m
        rw [List.replicate_succ, xpA, depths, xp_mk]
        have := ih (m - 1)
        simp only [List.length_nil, lamN, more_var, xpA, depth_mk, depths]
        omega
    unfold wideS
    rw [xp_mk, depth_lamN, List.length_replicate]
    have := hd (wideT (3854 + n)) t2 _ (hA 120 (((List.replicate 120 (Sm.mk [110, 97, 116] [])).length : Int) - 1))
    rw [List.length_replicate] at this
    omega
  rw [← (eta_prog _ _).1]
  unfold etaPE
  rw [if_neg (by simp [hw]), if_neg (by simp [wideS_wf]), if_neg (by unfold wideT; simp)]
  have hse : shiftE (wideT (3854 + n)) (wideS 120).args.length 0 = 0 := by
    unfold shiftE
    rw [if_neg (by simp [hw]), if_neg (by omega), if_pos (t6 _)]
  rw [hse]
  by_cases hn : 1 < n
  · rw [if_pos hn, if_pos]
    unfold small
    rw [decide_eq_false (by omega), Bool.false_and]
  · rw [if_neg hn, if_neg]
    unfold small
    rw [decide_eq_true (by omega), decide_eq_true (by omega)]
    simp
end Go.LF.Tm
