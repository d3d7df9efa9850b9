/- Two substitutions for the flexible variables that lead to the same term agree where a variable occurs strictly. No program is in sight here. -/
import Derived.Test.YtadphaobbpngkaaED
import Derived.Test.YtadphaobbpngkaaShpP
import Derived.Test.YtadphaobbpngkaaCA
namespace Go.LF.Tm
mutual
/-- First-order terms: constants with arguments, and variables without. -/
def fo (P : Int → Prop) : Tm → Prop
  | mk k n i l => (k = 5 ∧ n = [] ∧ P i ∧ l = []) ∨ (k = 4 ∧ foA P l)
def foA (P : Int → Prop) : List Tm → Prop
  | [] => True
  | t :: ts => fo P t ∧ foA P ts
end
theorem fo_mk (P k n i l) : fo P (mk k n i l) ↔ (k = 5 ∧ n = [] ∧ P i ∧ l = []) ∨ (k = 4 ∧ foA P l) := by rw [fo]
theorem foA_iff (P) (l : List Tm) : foA P l ↔ ∀ t ∈ l, fo P t := by
  induction l with
  | nil => simp [foA]
  | cons t ts ih => simp [foA, ih]
mutual
/-- Other terms for the variables of a first-order term. -/
def fs (f : Int → Tm) : Tm → Tm
  | mk k n i l => if k = 5 then f i else mk k n i (fsA f l)
def fsA (f : Int → Tm) : List Tm → List Tm
  | [] => []
  | t :: ts => fs f t :: fsA f ts
end
theorem fs_mk (f k n i l) : fs f (mk k n i l) = if k = 5 then f i else mk k n i (fsA f l) := by rw [fs]
theorem fsA_eq (f : Int → Tm) (l : List Tm) : fsA f l = l.map (fs f) := by
  induction l with
  | nil => rw [fsA]; rfl
  | cons t ts ih => rw [fsA, ih]; rfl
theorem fs_congr {P : Int → Prop} {f g : Int → Tm} (h : ∀ i, P i → f i = g i) (t : Tm) : fo P t → fs f t = fs g t := by
  induction t using ind with
  | h k n i l ih =>
    intro ht
    rw [fo_mk] at ht
    rcases ht with ⟨rfl, rfl, hi, rfl⟩ | ⟨rfl, hl⟩
    · rw [fs_mk, fs_mk, if_pos rfl, if_pos rfl, h i hi]
    · rw [fs_mk, fs_mk, if_neg (by omega), if_neg (by omega), fsA_eq, fsA_eq]
      congr 1
      exact List.map_congr_left (fun t ht => ih t ht ((foA_iff P l).1 hl t ht))
theorem fs_fs (f g : Int → Tm) (t : Tm) : fs f (fs g t) = fs (fun i => fs f (g i)) t := by
  induction t using ind with
  | h k n i l ih =>
    rw [fs_mk, fs_mk]
    by_cases hk : k = 5
    · rw [if_pos hk, if_pos hk]
    · rw [if_neg hk, if_neg hk, fs_mk, if_neg hk, fsA_eq, fsA_eq, fsA_eq, List.map_map]
      congr 1
      exact List.map_congr_left (fun t ht => ih t ht)
theorem fs_id {P : Int → Prop} (t : Tm) : fo P t → fs (fun i => mk 5 [] i []) t = t := by
  induction t using ind with
  | h k n i l ih =>
    intro ht
    rw [fo_mk] at ht
    rcases ht with ⟨rfl, rfl, hi, rfl⟩ | ⟨rfl, hl⟩
    · rw [fs_mk, if_pos rfl]
    · rw [fs_mk, if_neg (by omega), fsA_eq]
      congr 1
      conv => rhs; rw [← List.map_id l]
      exact List.map_congr_left (fun t ht => ih t ht ((foA_iff P l).1 hl t ht))
theorem fo_fs {P Q : Int → Prop} {f : Int → Tm} (h : ∀ i, P i → fo Q (f i)) (t : Tm) : fo P t → fo Q (fs f t) := by
  induction t using ind with
  | h k n i l ih =>
    intro ht
    rw [fo_mk] at ht
    rcases ht with ⟨rfl, rfl, hi, rfl⟩ | ⟨rfl, hl⟩
    · rw [fs_mk, if_pos rfl]; exact h i hi
    · rw [fs_mk, if_neg (by omega), fo_mk, fsA_eq]
      refine .inr ⟨rfl, (foA_iff Q _).2 fun t ht => ?_⟩
      obtain ⟨u, hu, rfl⟩ := List.mem_map.1 ht
      exact ih u hu ((foA_iff P l).1 hl u hu)
theorem fo_mono {P Q : Int → Prop} (h : ∀ i, P i → Q i) (t : Tm) (ht : fo P t) : fo Q t := by
  rw [← fs_id t ht]
  exact fo_fs (fun i hi => (fo_mk _ _ _ _ _).2 (.inl ⟨rfl, rfl, h i hi, rfl⟩)) t ht
/-- Moving a first-order term. -/
theorem mv_fs (by' : Int) (t : Tm) : ∀ b : Int, fo (fun i => 0 ≤ i) t → mv (shF by' 0) b t = fs (fun i => mk 5 [] (if b ≤ i then i + by' else i) []) t := by
  induction t using ind with
  | h k n i l ih =>
    intro b ht
    rw [fo_mk] at ht
    rcases ht with ⟨rfl, rfl, hi, rfl⟩ | ⟨rfl, hl⟩
    · rw [mv_mk, fs_mk, if_pos rfl, mvA]
      congr 1
      unfold mvi shF
      by_cases hb : b ≤ i
      · rw [if_pos ⟨rfl, hb⟩, if_pos hb]; simp only; rw [if_neg (by omega)]; omega
      · rw [if_neg (fun h => hb h.2), if_neg hb]
    · rw [mv_mk, fs_mk, if_neg (by omega), fsA_eq]
      have e : mvi (shF by' 0) b 4 i = i := by unfold mvi; rw [if_neg (by omega)]
      rw [e]
      congr 1
      have key : ∀ (l' : List Tm), (∀ t ∈ l', t ∈ l) → ∀ j, mvA (shF by' 0) b 4 j l' = l'.map (fs (fun i => mk 5 [] (if b ≤ i then i + by' else i) [])) := by
        intro l'
        induction l' with
        | nil => intro _ j; rw [mvA]; rfl
        | cons t ts ih2 =>
          intro hm j
          rw [mvA, ih2 (fun t ht => hm t (by simp [ht])), under_const, Int.add_zero, ih t (hm t (by simp)) b ((foA_iff _ l).1 hl t (hm t (by simp)))]
          rfl
      exact key l (fun _ h => h) 0
theorem mv_lamNs (by' : Int) (m : Nat) (t : Tm) : ∀ b : Int, mv (shF by' 0) b (lamN m t) = lamN m (mv (shF by' 0) (b + m) t) := by
  induction m with
  | zero => intro b; simp [lamN]
  | succ m ih =>
    intro b
    have e : mvi (shF by' 0) b 3 0 = 0 := by unfold mvi; rw [if_neg (by omega)]
    rw [lamN_succ, lamN_succ, mv_mk, mvA, mvA, under_lam, ih, e, show b + 1 + (m : Int) = b + ((m + 1 : Nat) : Int) by omega]
theorem mv_closed {a : Nat} {v : Tm} (hv : fo (fun i => 0 ≤ i ∧ i < a) v) (by' b : Int) (hb : 0 ≤ b) : mv (shF by' 0) b (lamN a v) = lamN a v := by
  rw [mv_lamNs, mv_fs by' v _ (fo_mono (fun i h => h.1) v hv)]
  congr 1
  rw [fs_congr (g := fun i => mk 5 [] i []) (fun i h => by rw [if_neg (by omega)]) v hv, fs_id v hv]
theorem chk_t {t : Tm} {w : Nat} (h : (chk t w).e = 0) : (chk t w).t = t := by
  unfold chk at h ⊢
  split
  · rfl
  · rename_i h1; rw [if_neg h1] at h; simp at h
theorem sbA_map (f : Int → Tm → Nat → Res) (d k u : Int) (hu : ∀ j, under k j = u) (g : Tm → Tm) (l : List Tm) (hf : ∀ t ∈ l, ∀ w, (f (d + u) t w).e = 0 → (f (d + u) t w).t = g t) : ∀ (j w : Nat), (sbA f d k j l w).e = 0 → (sbA f d k j l w).ts = l.map g := by
  induction l with
  | nil => intro j w _; rw [sbA]; rfl
  | cons t ts ih =>
    intro j w h
    rw [sbA, hu] at h ⊢
    by_cases he : (f (d + u) t w).e = 0
    · rw [if_pos he] at h ⊢
      by_cases he2 : (sbA f d k (j + 1) ts (f (d + u) t w).w).e = 0
      · rw [if_pos he2] at h ⊢
        simp only [List.map_cons]
        rw [hf t (by simp) w he, ih (fun t ht => hf t (by simp [ht])) _ _ he2]
      · rw [if_neg he2] at h
        exact absurd h he2
    · rw [if_neg he] at h
      exact absurd h he
/-- What becomes of a variable. -/
def sbv (ms : List Tm) (d i : Int) : Tm := if d ≤ i then (if i - d < ms.length then mv (shF d 0) 0 (ms.getD (i - d).toNat none0) else mk 5 [] (i - ms.length) []) else mk 5 [] i []
/-- A step that went well, taken apart. -/
theorem sb_parts {n : Nat} {ms : List Tm} {ss : List Sm} {d : Int} {k i : Int} {nm : List UInt8} {l : List Tm} {w : Nat} (h : (sb n ms ss d (mk k nm i l) w).e = 0) :
    ∃ n', n = n' + 1 ∧ (sbA (fun d' t' w' => sb n' ms ss d' t' w') d k 0 l (w + 1)).e = 0 ∧
      sb n ms ss d (mk k nm i l) w = sbN (fun u s b w' => sb n' [u] [s] 0 b w') ms ss d k nm i (sbA (fun d' t' w' => sb n' ms ss d' t' w') d k 0 l (w + 1)).ts (sbA (fun d' t' w' => sb n' ms ss d' t' w') d k 0 l (w + 1)).w := by
  cases n with
  | zero => rw [sb] at h; simp at h
  | succ n =>
    rw [sb_nd] at h ⊢
    by_cases hb : 262144 < w + 1
    · rw [if_pos hb] at h; simp at h
    rw [if_neg hb] at h ⊢
    by_cases he : (sbA (fun d' t' w' => sb n ms ss d' t' w') d k 0 l (w + 1)).e = 0
    · exact ⟨n, rfl, he, by rw [if_pos he]⟩
    · rw [if_neg he] at h; exact absurd h he
theorem sb_fo {P : Int → Prop} (n : Nat) : ∀ (ms : List Tm) (ss : List Sm) (d : Int) (t : Tm) (w : Nat), fo P t → (sb n ms ss d t w).e = 0 → (sb n ms ss d t w).t = fs (sbv ms d) t := by
  induction n with
  | zero => intro ms ss d t w _ h; rw [sb] at h; simp at h
  | succ n ih =>
    intro ms ss d t w ht h
    cases t with
    | mk k nm i l =>
      obtain ⟨n', e, hA, hS⟩ := sb_parts h
      cases e
      rw [hS] at h ⊢
      rw [fo_mk] at ht
      rcases ht with ⟨rfl, rfl, _, rfl⟩ | ⟨rfl, hl⟩
      · rw [sbA] at h ⊢
        simp only at h ⊢
        rw [fs_mk, if_pos rfl]
        unfold sbN at h ⊢
        unfold sbv
        by_cases hd : d ≤ i
        · rw [if_pos ⟨rfl, hd⟩] at h ⊢
          rw [if_pos hd]
          by_cases hm : i - d < ms.length
          · rw [if_pos hm] at h ⊢
            rw [if_pos hm]
            split at h
            · simp at h
            · rename_i hg
              rw [if_neg hg]
              unfold ap at h ⊢
              split at h
              · rename_i hl0
                rw [if_pos hl0]
                rw [apF_nil] at h ⊢
                split at h
                · simp at h
                · rename_i hk
                  rw [if_neg hk]
                  exact chk_t h
              · simp at h
          · rw [if_neg hm] at h ⊢
            rw [if_neg hm]
            exact chk_t h
        · rw [if_neg (fun x => hd x.2)] at h ⊢
          rw [if_neg hd]
          exact chk_t h
      · rw [sbN_off _ _ _ _ _ _ _ _ _ (by omega)] at h ⊢
        rw [chk_t h, fs_mk, if_neg (by omega), fsA_eq]
        congr 1
        exact sbA_map _ d 4 0 under_const _ l (fun t ht w he => by
          rw [Int.add_zero] at he ⊢
          exact ih ms ss d t w ((foA_iff P l).1 hl t ht) he) 0 (w + 1) hA
theorem sbA_one (f : Int → Tm → Nat → Res) (d k : Int) (j : Nat) (t : Tm) (w : Nat) : (sbA f d k j [t] w).e = (f (d + under k j) t w).e ∧ ((f (d + under k j) t w).e = 0 → (sbA f d k j [t] w).ts = [(f (d + under k j) t w).t]) := by
  rw [sbA, sbA]
  by_cases he : (f (d + under k j) t w).e = 0
  · rw [if_pos he, if_pos rfl]
    exact ⟨he.symm, fun _ => rfl⟩
  · rw [if_neg he]
    exact ⟨rfl, fun h => absurd h he⟩
/-- Through a Lam. -/
theorem sb_lam {n : Nat} {ms : List Tm} {ss : List Sm} {d i : Int} {nm : List UInt8} {t : Tm} {w : Nat} (h : (sb n ms ss d (mk 3 nm i [t]) w).e = 0) :
    ∃ n', n = n' + 1 ∧ (sb n' ms ss (d + 1) t (w + 1)).e = 0 ∧ (sb n ms ss d (mk 3 nm i [t]) w).t = mk 3 nm i [(sb n' ms ss (d + 1) t (w + 1)).t] := by
  obtain ⟨n', e, hA, hS⟩ := sb_parts h
  have h1 := sbA_one (fun d' t' w' => sb n' ms ss d' t' w') d 3 0 t (w + 1)
  rw [under_lam] at h1
  have he : (sb n' ms ss (d + 1) t (w + 1)).e = 0 := h1.1.symm.trans hA
  refine ⟨n', e, he, ?_⟩
  rw [hS, sbN_off _ _ _ _ _ _ _ _ _ (by omega)] at h ⊢
  rw [chk_t h, h1.2 he]
theorem sb_lamN {P : Int → Prop} (ms : List Tm) (ss : List Sm) (v : Tm) (hv : fo P v) (p : Nat) : ∀ (n : Nat) (d : Int) (w : Nat), (sb n ms ss d (lamN p v) w).e = 0 → (sb n ms ss d (lamN p v) w).t = lamN p (fs (sbv ms (d + p)) v) := by
  induction p with
  | zero =>
    intro n d w h
    rw [show lamN 0 v = v from rfl] at h ⊢
    rw [sb_fo n ms ss d v w hv h]
    simp [lamN]
  | succ p ih =>
    intro n d w h
    rw [lamN_succ] at h ⊢
    obtain ⟨n', rfl, h1, h2⟩ := sb_lam h
    rw [h2, ih n' (d + 1) (w + 1) h1, lamN_succ, show d + 1 + (p : Int) = d + ((p + 1 : Nat) : Int) by omega]
/-- Arguments for the variables of as many Lams. -/
def inst (us : List Tm) (i : Int) : Tm := if i < us.length then us.getD (us.length - 1 - i.toNat) none0 else mk 5 [] (i - us.length) []
theorem inst_step (u : Tm) (us : List Tm) (hu : fo (fun i => 0 ≤ i) u) (i : Int) (hi : 0 ≤ i) : fs (inst us) (sbv [u] (0 + us.length) i) = inst (u :: us) i := by
  unfold sbv
  simp only [Int.zero_add, List.length_cons, List.length_nil]
  by_cases h1 : (us.length : Int) ≤ i
  · rw [if_pos h1]
    by_cases h2 : i - (us.length : Int) < ((0 + 1 : Nat) : Int)
    · rw [if_pos h2]
      have hi' : i = us.length := by omega
      subst hi'
      simp only [Int.sub_self, Int.toNat_zero, List.getD_cons_zero]
      rw [mv_fs _ u 0 hu, fs_fs]
      have e1 : inst (u :: us) (us.length : Int) = u := by
        unfold inst
        rw [if_pos (by simp; omega)]
        simp
      rw [e1, fs_congr (g := fun i => mk 5 [] i []) (fun i hi => ?_) u hu, fs_id u hu]
      rw [if_pos hi, fs_mk, if_pos rfl]
      unfold inst
      rw [if_neg (by omega)]
      congr 1
      omega
    · rw [if_neg h2, fs_mk, if_pos rfl]
      unfold inst
      rw [if_neg (by omega), if_neg (by simp only [List.length_cons]; omega)]
      congr 1
      simp only [List.length_cons]
      omega
  · rw [if_neg h1, fs_mk, if_pos rfl]
    unfold inst
    rw [if_pos (by omega), if_pos (by simp only [List.length_cons]; omega)]
    have e : (u :: us).length - 1 - i.toNat = (us.length - 1 - i.toNat) + 1 := by simp only [List.length_cons]; omega
    rw [e, List.getD_cons_succ]
theorem fo_sbv (u : Tm) (p : Nat) (hu : fo (fun i => 0 ≤ i) u) (i : Int) (hi : 0 ≤ i) : fo (fun i => 0 ≤ i) (sbv [u] (0 + p) i) := by
  have hv : ∀ j : Int, 0 ≤ j → fo (fun i => 0 ≤ i) (mk 5 [] j []) := fun j hj => (fo_mk _ _ _ _ _).2 (.inl ⟨rfl, rfl, hj, rfl⟩)
  unfold sbv
  split
  · split
    · rename_i h1 h2
      simp only [List.length_cons, List.length_nil] at h2
      have : (i - (0 + (p : Int))).toNat = 0 := by omega
      rw [this, List.getD_cons_zero, mv_fs _ u 0 hu]
      exact fo_fs (fun j hj => hv _ (by split <;> omega)) u hu
    · rename_i h1 h2
      simp only [List.length_cons, List.length_nil] at h2 ⊢
      exact hv _ (by omega)
  · exact hv i hi
theorem apF_lam (f : Tm → Sm → Tm → Nat → Res) (nm : List UInt8) (i : Int) (b : Tm) (s : Sm) (ss : List Sm) (u : Tm) (us : List Tm) (w : Nat) : apF f (mk 3 nm i [b]) (s :: ss) (u :: us) w = if (f u s b w).e = 0 then apF f (f u s b w).t ss us (f u s b w).w else f u s b w := by
  rw [apF_cons, if_pos (by rfl)]; rfl
/-- Lams around a first-order term, applied to as many first-order terms. -/
theorem apF_lamN (n : Nat) (us : List Tm) : ∀ (ss : List Sm) (v : Tm) (w : Nat), fo (fun i => 0 ≤ i) v → (∀ u ∈ us, fo (fun i => 0 ≤ i) u) → (apF (sb1 n) (lamN us.length v) ss us w).e = 0 → (apF (sb1 n) (lamN us.length v) ss us w).t = fs (inst us) v := by
  induction us with
  | nil =>
    intro ss v w hv _ h
    rw [apF_nil] at h ⊢
    rw [show lamN ([] : List Tm).length v = v from rfl] at h ⊢
    split at h
    · simp at h
    · rename_i hk
      rw [if_neg hk, chk_t h, fs_congr (g := fun i => mk 5 [] i []) (fun i hi => ?_) v hv, fs_id v hv]
      unfold inst
      rw [if_neg (by simp; omega)]
      simp
  | cons u us ih =>
    intro ss v w hv hu h
    cases ss with
    | nil => unfold apF at h; simp at h
    | cons s ss =>
      rw [List.length_cons, lamN_succ, apF_lam] at h ⊢
      by_cases he : (sb1 n u s (lamN us.length v) w).e = 0
      · rw [if_pos he] at h ⊢
        have e1 := sb_lamN [u] [s] v hv us.length n 0 w he
        have e2 : (sb1 n u s (lamN us.length v) w).t = lamN us.length (fs (sbv [u] (0 + us.length)) v) := e1
        rw [e2] at h ⊢
        have hu0 := hu u (by simp)
        rw [ih ss _ _ (fo_fs (fun i hi => fo_sbv u us.length hu0 i hi) v hv) (fun x hx => hu x (by simp [hx])) h, fs_fs]
        exact fs_congr (fun i hi => inst_step u us hu0 i hi) v hv
      · rw [if_neg he] at h; exact absurd h he
mutual
/-- A term over two local variables and the flexible ones behind them, each with as many arguments as ar says. -/
def bd (ar : List Nat) : Tm → Prop
  | mk k n i l => (k = 5 ∧ n = [] ∧ 0 ≤ i ∧ i < 2 ∧ l = []) ∨ (k = 4 ∧ bdA ar l) ∨ (k = 5 ∧ n = [] ∧ 2 ≤ i ∧ ar[(i - 2).toNat]? = some l.length ∧ bdA ar l)
def bdA (ar : List Nat) : List Tm → Prop
  | [] => True
  | t :: ts => bd ar t ∧ bdA ar ts
end
theorem bd_mk (ar k n i l) : bd ar (mk k n i l) ↔ (k = 5 ∧ n = [] ∧ 0 ≤ i ∧ i < 2 ∧ l = []) ∨ (k = 4 ∧ bdA ar l) ∨ (k = 5 ∧ n = [] ∧ 2 ≤ i ∧ ar[(i - 2).toNat]? = some l.length ∧ bdA ar l) := by rw [bd]
theorem bdA_iff (ar) (l : List Tm) : bdA ar l ↔ ∀ t ∈ l, bd ar t := by
  induction l with
  | nil => simp [bdA]
  | cons t ts ih => simp [bdA, ih]
mutual
/-- The values vs for the flexible variables. -/
def ev (vs : List Tm) : Tm → Tm
  | mk k n i l => if k = 5 then (if i < 2 then mk k n i l else fs (inst (evA vs l)) (vs.getD (i - 2).toNat none0)) else mk k n i (evA vs l)
def evA (vs : List Tm) : List Tm → List Tm
  | [] => []
  | t :: ts => ev vs t :: evA vs ts
end
theorem ev_mk (vs k n i l) : ev vs (mk k n i l) = if k = 5 then (if i < 2 then mk k n i l else fs (inst (evA vs l)) (vs.getD (i - 2).toNat none0)) else mk k n i (evA vs l) := by rw [ev]
theorem evA_eq (vs) (l : List Tm) : evA vs l = l.map (ev vs) := by
  induction l with
  | nil => rw [evA]; rfl
  | cons t ts ih => rw [evA, ih]; rfl
/-- The values: each with as many Lams as ar says, around a first-order term over their variables. -/
def Vals (ar : List Nat) (vs : List Tm) : Prop := ∀ (j a : Nat), ar[j]? = some a → fo (fun i => 0 ≤ i ∧ i < a) (vs.getD j none0)
theorem fo_inst {us : List Tm} {a : Nat} {v : Tm} (hv : fo (fun i => 0 ≤ i ∧ i < a) v) (ha : us.length = a) (hu : ∀ u ∈ us, fo (fun i => 0 ≤ i) u) : fo (fun i => 0 ≤ i) (fs (inst us) v) := by
  refine fo_fs (fun i hi => ?_) v hv
  unfold inst
  rw [if_pos (by omega)]
  apply hu
  rw [List.getD_eq_getElem?_getD, List.getElem?_eq_getElem (by omega), Option.getD_some]
  exact List.getElem_mem _
theorem fo_ev {ar : List Nat} {vs : List Tm} (hV : Vals ar vs) (t : Tm) : bd ar t → fo (fun i => 0 ≤ i) (ev vs t) := by
  induction t using ind with
  | h k n i l ih =>
    intro ht
    rw [bd_mk] at ht
    rw [ev_mk]
    rcases ht with ⟨rfl, rfl, h0, h2, rfl⟩ | ⟨rfl, hl⟩ | ⟨rfl, rfl, h2, har, hl⟩
    · rw [if_pos rfl, if_pos h2]
      exact (fo_mk _ _ _ _ _).2 (.inl ⟨rfl, rfl, h0, rfl⟩)
    · rw [if_neg (by omega), fo_mk, evA_eq]
      refine .inr ⟨rfl, (foA_iff _ _).2 fun t ht => ?_⟩
      obtain ⟨u, hu, rfl⟩ := List.mem_map.1 ht
      exact ih u hu ((bdA_iff ar l).1 hl u hu)
    · rw [if_pos rfl, if_neg (by omega), evA_eq]
      refine fo_inst (hV _ _ har) (by simp) (fun t ht => ?_)
      obtain ⟨u, hu, rfl⟩ := List.mem_map.1 ht
      exact ih u hu ((bdA_iff ar l).1 hl u hu)
theorem sb_bd {ar : List Nat} {vs ms : List Tm} {ss : List Sm} (hV : Vals ar vs) (hM : ∀ (j a : Nat), ar[j]? = some a → ms[j]? = some (lamN a (vs.getD j none0))) (n : Nat) : ∀ (t : Tm) (w : Nat), bd ar t → (sb n ms ss 2 t w).e = 0 → (sb n ms ss 2 t w).t = ev vs t := by
  induction n with
  | zero => intro t w _ h; rw [sb] at h; simp at h
  | succ n ih =>
    intro t w ht h
    cases t with
    | mk k nm i l =>
      obtain ⟨n', e, hA, hS⟩ := sb_parts h
      cases e
      rw [hS] at h ⊢
      rw [bd_mk] at ht
      have hmap : ∀ k, (∀ j, under k j = 0) → bdA ar l → (sbA (fun d' t' w' => sb n ms ss d' t' w') 2 k 0 l (w + 1)).e = 0 → (sbA (fun d' t' w' => sb n ms ss d' t' w') 2 k 0 l (w + 1)).ts = evA vs l := by
        intro k hk hl hA
        rw [evA_eq]
        exact sbA_map _ 2 k 0 hk _ l (fun t ht w he => by
          rw [Int.add_zero] at he ⊢
          exact ih t w ((bdA_iff ar l).1 hl t ht) he) 0 (w + 1) hA
      rw [ev_mk]
      rcases ht with ⟨rfl, rfl, h0, h2, rfl⟩ | ⟨rfl, hl⟩ | ⟨rfl, rfl, h2, har, hl⟩
      · rw [sbA] at h ⊢
        unfold sbN at h ⊢
        rw [if_neg (fun x => by omega)] at h ⊢
        rw [if_pos rfl, if_pos h2]
        exact chk_t h
      · rw [hmap 4 under_const hl hA] at h ⊢
        rw [sbN_off _ _ _ _ _ _ _ _ _ (by omega)] at h ⊢
        rw [if_neg (by omega)]
        exact chk_t h
      · rw [hmap 5 under_var hl hA] at h ⊢
        generalize (sbA (fun d' t' w' => sb n ms ss d' t' w') 2 5 0 l (w + 1)).w = wj at *
        rw [if_pos rfl, if_neg (by omega)]
        have hm := hM _ _ har
        obtain ⟨hj, hmj⟩ := List.getElem?_eq_some_iff.1 hm
        unfold sbN at h ⊢
        rw [if_pos ⟨rfl, h2⟩, if_pos (by omega)] at h ⊢
        split at h
        · simp at h
        · rename_i hg
          rw [if_neg hg]
          simp only [List.getD_eq_getElem?_getD, hm, Option.getD_some] at h ⊢
          have hv := hV _ _ har
          rw [List.getD_eq_getElem?_getD] at hv
          rw [mv_closed hv 2 0 (by omega)] at h ⊢
          have hle : l.length = (evA vs l).length := by rw [evA_eq]; simp
          unfold ap at h ⊢
          split at h
          · rename_i hl2
            rw [if_pos hl2]
            rw [hle] at h ⊢
            exact apF_lamN n (evA vs l) _ _ wj (fo_mono (fun i h => h.1) _ hv) (fun u hu => by
              rw [evA_eq] at hu
              obtain ⟨t, ht, rfl⟩ := List.mem_map.1 hu
              exact fo_ev hV t ((bdA_iff ar l).1 hl t ht)) h
          · simp at h
/-- First-order terms that are the same are equal. -/
theorem fo_same {P Q : Int → Prop} (a : Tm) : ∀ b, fo P a → fo Q b → same a b = true → a = b := by
  induction a using ind with
  | h k n i l ih =>
    intro b ha hb h
    cases b with
    | mk k' n' i' l' =>
      rw [fo_mk] at ha hb
      rw [same] at h
      simp only [Bool.and_eq_true, beq_iff_eq, Bool.or_eq_true] at h
      obtain ⟨rfl, rfl, hn, hl⟩ := h
      have key : ∀ (l m : List Tm), (∀ a ∈ l, ∀ b, fo P a → fo Q b → same a b = true → a = b) → foA P l → foA Q m → sames l m = true → l = m := by
        intro l
        induction l with
        | nil => intro m _ _ _ h; cases m with
          | nil => rfl
          | cons b m => simp [sames] at h
        | cons a l ih2 =>
          intro m hi ha hm h
          cases m with
          | nil => simp [sames] at h
          | cons b m =>
            simp only [sames, Bool.and_eq_true] at h
            simp only [foA] at ha hm
            rw [hi a (by simp) b ha.1 hm.1 h.1, ih2 m (fun a h => hi a (by simp [h])) ha.2 hm.2 h.2]
      rcases ha with ⟨rfl, rfl, _, rfl⟩ | ⟨rfl, hla⟩
      · rcases hb with ⟨_, rfl, _, rfl⟩ | ⟨hk, _⟩
        · rfl
        · simp at hk
      · rcases hb with ⟨hk, _⟩ | ⟨_, hlb⟩
        · simp at hk
        · rw [key l l' ih hla hlb hl]
          rcases hn with hn | hn
          · rw [hn]
          · simp at hn
theorem nodup_inj {l : List Int} (h : l.Nodup) (i j : Nat) (hi : i < l.length) (hj : j < l.length) (e : l[i] = l[j]) : i = j := by
  have hp := List.pairwise_iff_getElem.1 h
  rcases Nat.lt_trichotomy i j with h1 | h1 | h1
  · exact absurd e (hp i j hi hj h1)
  · exact h1
  · exact absurd e.symm (hp j i hj hi h1)
theorem vars_get (as' : List Int) (j : Nat) (hj : j < as'.length) : (as'.map fun a => mk 5 [] a []).getD j none0 = mk 5 [] as'[j] [] := by
  rw [List.getD_eq_getElem?_getD, List.getElem?_map, List.getElem?_eq_getElem hj]; rfl
/-- Different variables for the variables: what becomes of a first-order term tells it. -/
theorem inst_inj (as' : List Int) (hn : as'.Nodup) (v : Tm) : ∀ v', fo (fun i => 0 ≤ i ∧ i < as'.length) v → fo (fun i => 0 ≤ i ∧ i < as'.length) v' → fs (inst (as'.map fun a => mk 5 [] a [])) v = fs (inst (as'.map fun a => mk 5 [] a [])) v' → v = v' := by
  have hi : ∀ i : Int, 0 ≤ i → i < as'.length → ∃ h : as'.length - 1 - i.toNat < as'.length, inst (as'.map fun a => mk 5 [] a []) i = mk 5 [] as'[as'.length - 1 - i.toNat] [] := by
    intro i h0 h1
    refine ⟨by omega, ?_⟩
    unfold inst
    rw [List.length_map, if_pos h1, vars_get _ _ (by omega)]
  induction v using ind with
  | h k n i l ih =>
    intro v' hv hv' h
    cases v' with
    | mk k' n' i' l' =>
      rw [fo_mk] at hv hv'
      rw [fs_mk, fs_mk] at h
      rcases hv with ⟨rfl, rfl, ⟨h0, h1⟩, rfl⟩ | ⟨rfl, hl⟩
      · rw [if_pos rfl] at h
        obtain ⟨q, e⟩ := hi i h0 h1
        rw [e] at h
        rcases hv' with ⟨rfl, rfl, ⟨h0', h1'⟩, rfl⟩ | ⟨rfl, hl'⟩
        · rw [if_pos rfl] at h
          obtain ⟨q', e'⟩ := hi i' h0' h1'
          rw [e'] at h
          have e3 : as'[as'.length - 1 - i.toNat] = as'[as'.length - 1 - i'.toNat] := by injection h
          have e4 := nodup_inj hn _ _ _ _ e3
          have : i = i' := by omega
          rw [this]
        · rw [if_neg (by omega)] at h
          injection h with h1
          omega
      · rw [if_neg (by omega)] at h
        rcases hv' with ⟨rfl, rfl, ⟨h0', h1'⟩, rfl⟩ | ⟨rfl, hl'⟩
        · rw [if_pos rfl] at h
          obtain ⟨q', e'⟩ := hi i' h0' h1'
          rw [e'] at h
          injection h with h1
          omega
        · rw [if_neg (by omega), fsA_eq, fsA_eq] at h
          injection h with _ e1 e2 e3
          subst e1; subst e2
          congr 1
          have key : ∀ (l m : List Tm), (∀ a ∈ l, ∀ b, fo (fun i => 0 ≤ i ∧ i < as'.length) a → fo (fun i => 0 ≤ i ∧ i < as'.length) b → fs (inst (as'.map fun a => mk 5 [] a [])) a = fs (inst (as'.map fun a => mk 5 [] a [])) b → a = b) →
              foA (fun i => 0 ≤ i ∧ i < as'.length) l → foA (fun i => 0 ≤ i ∧ i < as'.length) m → l.map (fs (inst (as'.map fun a => mk 5 [] a []))) = m.map (fs (inst (as'.map fun a => mk 5 [] a []))) → l = m := by
            intro l
            induction l with
            | nil => intro m _ _ _ h; cases m with
              | nil => rfl
              | cons b m => simp at h
            | cons a l ih2 =>
              intro m hi ha hm h
              cases m with
              | nil => simp at h
              | cons b m =>
                simp only [List.map_cons, List.cons.injEq] at h
                simp only [foA] at ha hm
                rw [hi a (by simp) b ha.1 hm.1 h.1, ih2 m (fun a h => hi a (by simp [h])) ha.2 hm.2 h.2]
          exact key l l' ih hl hl' e3
theorem kof_ones (c : Nat) (i : Int) : kof (List.replicate c 1) i = if 0 ≤ i ∧ i < c then 1 else 0 := by
  unfold kof
  by_cases h : 0 ≤ i ∧ i < c
  · have e : (List.replicate c (1 : Int)).getD i.toNat 0 = 1 := by
      rw [List.getD_eq_getElem?_getD, List.getElem?_replicate, if_pos (by omega)]; rfl
    rw [if_pos h, e, if_pos (by simp; omega)]
  · rw [if_neg h, if_neg]
    simp only [List.length_replicate, Bool.and_eq_true, decide_eq_true_eq]
    intro h2
    exact h ⟨h2.1, h2.2.1⟩
/-- Different local variables. -/
theorem spn_vars {ar : List Nat} (c : Nat) (l : List Tm) : ∀ (seen : List Int), bdA ar l → spn (List.replicate c 1) 2 seen l = true → ∃ as' : List Int, l = as'.map (fun a => mk 5 [] a []) ∧ (∀ a ∈ as', 0 ≤ a ∧ a < 2 ∧ a ∉ seen) ∧ as'.Nodup := by
  induction l with
  | nil => intro seen _ _; exact ⟨[], rfl, by simp, List.nodup_nil⟩
  | cons t ts ih =>
    intro seen hb h
    simp only [bdA] at hb
    rw [spn] at h
    cases hv : t.vrw with
    | none => rw [hv] at h; simp at h
    | some v =>
      rw [hv] at h
      simp only [Bool.and_eq_true, Bool.not_eq_true', beq_iff_eq] at h
      obtain ⟨h1, h2, h3⟩ := h
      obtain ⟨as', e, h4, h5⟩ := ih _ hb.2 h3
      have hv2 : v < 2 := by
        unfold kd at h2
        split at h2
        · assumption
        · rw [kof_ones] at h2; split at h2 <;> omega
      have ht : t = mk 5 [] v [] ∧ 0 ≤ v := by
        cases t with
        | mk k n i l =>
          have hb1 := hb.1
          rw [bd_mk] at hb1
          unfold vrw at hv
          split at hv
          · rw [vr_mk] at hv
            rcases hb1 with ⟨rfl, rfl, g0, g2, rfl⟩ | ⟨rfl, _⟩ | ⟨rfl, rfl, g2, _, _⟩
            · rw [if_neg (by decide)] at hv
              split at hv
              · injection hv with hv
                exact ⟨by rw [← hv]; congr 1; omega, by omega⟩
              · cases hv
            · simp at hv
            · rw [if_neg (by decide)] at hv
              split at hv
              · injection hv with hv
                omega
              · cases hv
          · cases hv
      refine ⟨v :: as', by rw [e, ht.1]; rfl, ?_, ?_⟩
      · intro a ha
        rcases List.mem_cons.1 ha with rfl | ha
        · exact ⟨ht.2, hv2, by simpa using h1⟩
        · have := h4 a ha
          exact ⟨this.1, this.2.1, fun x => this.2.2 (by simp [x])⟩
      · refine List.nodup_cons.2 ⟨fun x => ?_, h5⟩
        exact (h4 v x).2.2 (by simp)
/-- What occurs strictly is the same on both sides. -/
theorem det {ar : List Nat} {vs vs' : List Tm} (hV : Vals ar vs) (hV' : Vals ar vs') (t : Tm) : bd ar t → ev vs t = ev vs' t → ∀ i ∈ mrk (List.replicate ar.length 1) true 2 t, vs.getD i.toNat none0 = vs'.getD i.toNat none0 := by
  induction t using ind with
  | h k n i l ih =>
    intro ht he x hx
    rw [bd_mk] at ht
    rw [ev_mk, ev_mk] at he
    rw [mrk_mk] at hx
    rcases ht with ⟨rfl, rfl, h0, h2, rfl⟩ | ⟨rfl, hl⟩ | ⟨rfl, rfl, h2, har, hl⟩
    · have hf : flx (List.replicate ar.length 1) 2 5 i = false := by
        unfold flx
        rw [decide_eq_false (by omega)]; rfl
      rw [hf] at hx
      simp [mrkA] at hx
    · have hf : flx (List.replicate ar.length 1) 2 4 i = false := rfl
      rw [hf] at hx
      simp only [Bool.false_and, Bool.false_eq_true, if_false, List.nil_append] at hx
      rw [if_neg (by omega), if_neg (by omega), evA_eq, evA_eq] at he
      injection he with _ _ _ he
      have key : ∀ (l' : List Tm), (∀ t ∈ l', t ∈ l) → l'.map (ev vs) = l'.map (ev vs') → ∀ j, x ∈ mrkA (List.replicate ar.length 1) true 2 4 j l' → vs.getD x.toNat none0 = vs'.getD x.toNat none0 := by
        intro l'
        induction l' with
        | nil => intro _ _ j hx; simp [mrkA] at hx
        | cons t ts ih2 =>
          intro hm he j hx
          simp only [List.map_cons, List.cons.injEq] at he
          rw [mrkA, List.mem_append, under_const, Int.add_zero] at hx
          rcases hx with hx | hx
          · exact ih t (hm t (by simp)) ((bdA_iff ar l).1 hl t (hm t (by simp))) he.1 x hx
          · exact ih2 (fun t ht => hm t (by simp [ht])) he.2 (j + 1) hx
      exact key l (fun _ h => h) he 0 hx
    · obtain ⟨hlt, _⟩ := List.getElem?_eq_some_iff.1 har
      have hf : flx (List.replicate ar.length 1) 2 5 i = true := by
        unfold flx
        rw [kof_ones, if_pos (by omega), decide_eq_true h2]; rfl
      rw [hf] at hx
      simp only [Bool.not_true, Bool.false_or, Bool.true_and, Bool.and_true, if_true, List.append_nil] at hx
      split at hx
      · rename_i hs
        obtain rfl : x = i - 2 := by simpa using hx
        obtain ⟨as', e, ha, hnd⟩ := spn_vars ar.length l [] hl hs
        have hev : ∀ vs, evA vs l = l := by
          intro vs
          rw [evA_eq, e, List.map_map]
          apply List.map_congr_left
          intro a ha'
          show ev vs (mk 5 [] a []) = _
          rw [ev_mk, if_pos rfl, if_pos (ha a ha').2.1]
        rw [if_pos rfl, if_pos rfl, if_neg (by omega), if_neg (by omega), hev, hev, e] at he
        have hv := hV _ _ har
        have hv' := hV' _ _ har
        have hll : l.length = as'.length := by rw [e]; simp
        rw [hll] at hv hv'
        exact inst_inj as' hnd _ _ hv hv' he
      · simp at hx
/-- The statement: x is Lam (Lam body). -/
theorem determines {ar : List Nat} {vs vs' ms ms' : List Tm} {ss : List Sm} (hV : Vals ar vs) (hV' : Vals ar vs') (hM : ∀ (j a : Nat), ar[j]? = some a → ms[j]? = some (lamN a (vs.getD j none0))) (hM' : ∀ (j a : Nat), ar[j]? = some a → ms'[j]? = some (lamN a (vs'.getD j none0)))
    (n n' w w' : Nat) (body : Tm) (hb : bd ar body) (h : (sb n ms ss 0 (mk 3 [] 0 [mk 3 [] 0 [body]]) w).e = 0) (h' : (sb n' ms' ss 0 (mk 3 [] 0 [mk 3 [] 0 [body]]) w').e = 0)
    (hs : same (sb n ms ss 0 (mk 3 [] 0 [mk 3 [] 0 [body]]) w).t (sb n' ms' ss 0 (mk 3 [] 0 [mk 3 [] 0 [body]]) w').t = true) (j : Nat) (hj : j < ar.length) (hf : (strictV (mk 3 [] 0 [mk 3 [] 0 [body]]) (List.replicate ar.length 1)).getD j false = true) :
    ms[j]? = ms'[j]? := by
  have hmem : (j : Int) ∈ mrk (List.replicate ar.length 1) true 2 body := by
    unfold strictV at hf
    split at hf
    · rw [marks_get _ _ _ (fun i hi => by
          obtain ⟨e, he, rfl⟩ := List.mem_map.1 hi
          exact (evs_lt _ _ _ _ e (List.mem_filter.1 he).1).1) (by simpa using hj), replicate_getD, Bool.false_or] at hf
      have hc := List.contains_iff_mem.1 hf
      rw [← mrk_strict] at hc
      rw [mrk_mk] at hc
      have hnf : ∀ (d i : Int), flx (List.replicate ar.length 1) d 3 i = false := fun d i => rfl
      have hnf2 : ∀ (d i : Int), mrkA (List.replicate ar.length 1) true d 3 0 [mk 3 [] 0 [body]] = mrk (List.replicate ar.length 1) true (d + 1) (mk 3 [] 0 [body]) := fun d i => by rw [mrkA, mrkA, List.append_nil, under_lam]
      simp only [hnf, Bool.false_and, Bool.false_eq_true, if_false, List.nil_append] at hc
      rw [mrkA, mrkA, List.append_nil, mrk_mk, hnf, under_lam] at hc
      simp only [Bool.false_and, Bool.false_eq_true, if_false, List.nil_append] at hc
      rw [mrkA, mrkA, List.append_nil, under_lam] at hc
      exact hc
    · rw [marks_get _ _ _ (by simp) (by simpa using hj), replicate_getD] at hf
      simp at hf
  obtain ⟨n1, rfl, h1, e1⟩ := sb_lam h
  obtain ⟨n2, rfl, h2, e2⟩ := sb_lam h1
  obtain ⟨n3, rfl, h3, e3⟩ := sb_lam h'
  obtain ⟨n4, rfl, h4, e4⟩ := sb_lam h3
  rw [e1, e2, e3, e4] at hs
  have g1 := sb_bd hV hM n2 body _ hb h2
  have g2 := sb_bd hV' hM' n4 body _ hb h4
  rw [show (0 : Int) + 1 + 1 = 2 from rfl] at hs
  rw [g1, g2] at hs
  simp only [same, sames, Bool.and_eq_true, Bool.and_true] at hs
  have hev := fo_same _ _ (fo_ev hV body hb) (fo_ev hV' body hb) hs.2.2.2.2.2.2
  have := det hV hV' body hb hev _ hmem
  simp only [Int.toNat_natCast] at this
  obtain ⟨a, ha⟩ : ∃ a, ar[j]? = some a := ⟨_, List.getElem?_eq_getElem hj⟩
  rw [hM j a ha, hM' j a ha, this]
end Go.LF.Tm
