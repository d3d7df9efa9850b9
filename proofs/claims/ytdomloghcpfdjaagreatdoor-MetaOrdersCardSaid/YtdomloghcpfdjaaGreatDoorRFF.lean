/- A row of terms that a call makes and fills. -/
import Derived.Test.YtdomloghcpfdjaaGreatDoorRCB
import Derived.Test.YtdomloghcpfdjaaGreatDoorRFA
import Derived.Test.YtdomloghcpfdjaaGreatDoorRFB
import Derived.Test.YtdomloghcpfdjaaGreatDoorRSC
import Derived.BigQuiet
import Derived.Deep.CutRange
import Derived.Deep.RegionHeld3
import Derived.Laws.MakeOwn
namespace Go.Proofs.YtdomloghcpfdjaaGreatDoor
open Go.RowKit Go.LF
/-- The block g is a row of n terms of which the first have been stored: what these hold lies outside O and in other blocks. -/
structure RowF (O : Nat → Prop) (n : Nat) (W : World) (g : Nat) (us : List Tm) : Prop where
  len : us.length ≤ n
  lt : g < W.heap.size
  fr : ∀ o, W.frozen? ⟨g, o, none⟩ = false
  cell : ∀ o, o < n * 4 → ∃ u, W.cell? ⟨g, o, none⟩ = some u
  rep : ∀ i (h : i < us.length), ∃ cs, cs.length = 4 ∧ (∀ m u, cs[m]? = some u → W.cell? ⟨g, i * 4 + m, none⟩ = some u) ∧ Rep (fun b => O b ∨ b = g) W us[i].dat cs
section
variable {O S : Nat → Prop} {n : Nat} {W W' : World} {g : Nat} {us : List Tm}
theorem RowF.keep (h : RowF O n W g us) (hU : Upto S W W') (hS : ∀ b, S b → O b) (hg : ¬ S g) : RowF O n W' g us := by
  refine ⟨h.len, Nat.lt_of_lt_of_le h.lt hU.size, fun o => ?_, fun o ho => ?_, fun i hi => ?_⟩
  · rw [hU.cells.2 g o h.lt hg]; exact h.fr o
  · obtain ⟨u, hu⟩ := h.cell o ho
    exact ⟨u, hU.cell hu hg⟩
  · obtain ⟨cs, h1, h2, h3⟩ := h.rep i hi
    exact ⟨cs, h1, fun m u hu => hU.cell (h2 m u hu) hg, Rep.keep hU (fun b e => .inl (hS b e)) _ _ h3⟩
theorem RowF.on (h : RowF O n W g us) (hU : Upto none' W W') : RowF O n W' g us := h.keep hU (fun _ x => x.elim) (fun x => x)
theorem RowF.made {T : TypeId} {c : Array Value} (n : Nat) (hg : W.heap.size = g) : RowF O n (W.alloc (.cells (madeCells c (n * 4)) T)) g [] := by
  have hb : (W.alloc (.cells (madeCells c (n * 4)) T)).heap[g]? = some (.cells (madeCells c (n * 4)) T (0, 0)) := by rw [← hg]; exact heap_alloc_new W _
  have hlt : g < (W.alloc (.cells (madeCells c (n * 4)) T)).heap.size := by simp [hg]
  have hs : (madeCells c (n * 4)).size = n * 4 := by simp [madeCells]
  generalize madeCells c (n * 4) = cs at *
  generalize W.alloc (.cells cs T) = V at *
  refine ⟨Nat.zero_le _, hlt, fun o => by simp only [World.frozen?, hb]; simp, fun o ho => ?_, fun i h => by simp at h⟩
  exact ⟨cs[o]'(by omega), by simp only [World.cell?, hb]; exact Array.getElem?_eq_getElem (show o < cs.size by omega)⟩
/-- The next term is stored. -/
theorem RowF.next {u : Tm} {d0 d1 d2 d3 : Value} (h : RowF O n W g us) (hj : us.length < n) (hR : Rep (fun b => O b ∨ b = g) W u.dat [d0, d1, d2, d3])
    (hW : W' = (((W.setCell ⟨g, us.length * 4, none⟩ d0).setCell ⟨g, us.length * 4 + 1, none⟩ d1).setCell ⟨g, us.length * 4 + 2, none⟩ d2).setCell ⟨g, us.length * 4 + 3, none⟩ d3) :
    RowF O n W' g (us ++ [u]) ∧ Upto (fun b => b = g) W W' := by
  obtain ⟨_, u0⟩ := h.cell (us.length * 4) (by omega)
  obtain ⟨_, u1⟩ := h.cell (us.length * 4 + 1) (by omega)
  obtain ⟨_, u2⟩ := h.cell (us.length * 4 + 2) (by omega)
  obtain ⟨_, u3⟩ := h.cell (us.length * 4 + 3) (by omega)
  obtain ⟨⟨a0, a1, a2, a3⟩, ao, aU⟩ := set_cells u0 u1 u2 u3 hW
  refine ⟨⟨by simp; omega, Nat.lt_of_lt_of_le h.lt aU.size, fun o => ?_, fun o ho => ?_, fun i hi => ?_⟩, aU⟩
  · subst hW
    simp only [World.frozen?_setCell]
    exact h.fr o
  · by_cases e0 : o = us.length * 4
    · exact ⟨_, by rw [e0]; exact a0⟩
    by_cases e1 : o = us.length * 4 + 1
    · exact ⟨_, by rw [e1]; exact a1⟩
    by_cases e2 : o = us.length * 4 + 2
    · exact ⟨_, by rw [e2]; exact a2⟩
    by_cases e3 : o = us.length * 4 + 3
    · exact ⟨_, by rw [e3]; exact a3⟩
    obtain ⟨u, hu⟩ := h.cell o ho
    exact ⟨u, (ao o e0 e1 e2 e3).trans hu⟩
  · by_cases hlt : i < us.length
    · obtain ⟨cs, h1, h2, h3⟩ := h.rep i hlt
      refine ⟨cs, h1, fun m v hv => ?_, ?_⟩
      · have hm : m < 4 := by rw [← h1]; exact (List.getElem?_eq_some_iff.1 hv).1
        rw [ao _ (by omega) (by omega) (by omega) (by omega)]
        exact h2 m v hv
      · rw [List.getElem_append_left hlt]
        exact Rep.keep aU (fun b e => .inr e) _ _ h3
    · obtain rfl : i = us.length := by simp at hi; omega
      refine ⟨[d0, d1, d2, d3], rfl, fun m v hv => ?_, ?_⟩
      · match m, hv with
        | 0, hv => cases hv; exact a0
        | 1, hv => cases hv; exact a1
        | 2, hv => cases hv; exact a2
        | 3, hv => cases hv; exact a3
        | m + 4, hv => simp at hv
      · simp only [List.getElem_append_right (Nat.le_refl _), Nat.sub_self, List.getElem_cons_zero]
        exact Rep.keep aU (fun b e => .inr e) _ _ hR
theorem RowF.row (h : RowF O n W g us) (_hl : us.length = n) (hg : ¬ O g) : RepE O W 4 (us.map Tm.dat) (some ⟨g, 0, none⟩) 0 := by
  refine repE_of _ _ _ (fun i hi => ?_)
  obtain ⟨cs, h1, h2, h3⟩ := h.rep i (by simpa using hi)
  refine ⟨g, 0, cs, rfl, h.lt, hg, h1, fun m u hu => ?_, ?_⟩
  · rw [show 0 + 0 + i * 4 + m = i * 4 + m by omega]
    exact h2 m u hu
  · simp only [List.getElem_map]
    exact Rep.weaken (fun b _ e => .inl e) _ _ h3
end
theorem info_tm13 : (Tryz.prog.info? 29).map (fun i => (i.zero, i.size, i.bytes)) = some (some (.agg #[.int .i64 0, .string (B []), .int .i64 0, .slice none 0 0]), 4, 56) := by kernel_rfl
theorem run_make_terms (n : Nat) (hn : n ≤ 1048576) (w : World) :
    (Instr.makeSlice 27 (.int .i64 n) (.int .i64 n)).run Tryz.prog w = .ok (.slice (some ⟨w.heap.size, 0, none⟩) n n) (w.alloc (.cells (madeCells #[.int .i64 0, .string (B []), .int .i64 0, .slice none 0 0] (n * 4)) 29)) := by
  obtain ⟨i0, hi, hi0, hi1, hi2⟩ := info_parts info_tm13
  have h := run_make (P := Tryz.prog) w 27 29 i0 _ (by kernel_rfl) hi hi0 .i64 .i64 n n (by omega) (by omega) (by rw [hi2]; omega) (by omega)
  rw [Int.toNat_natCast, hi1] at h
  exact h
end Go.Proofs.YtdomloghcpfdjaaGreatDoor
namespace Go.Proofs.YtdomloghcpfdjaaGreatDoor
open Go.RowKit Go.LF
/-- What an expansion hands back, and its counter. -/
def ExR (O : Nat → Prop) (xb : Nat) (la : Option Addr) (ll lc : Nat) (r : Tm.Res) (w : World) (e : Ending) (w' : World) : Prop :=
  ∃ (k i : Int) (n : List UInt8) (a : Option Addr) (len cap : Nat), e = .returned (.tuple #[.agg #[.int .i64 k, .string (B n), .int .i64 i, .slice a len cap], .int .i64 r.e]) ∧
    Rep O w' r.t.dat [.int .i64 k, .string (B n), .int .i64 i, .slice a len cap] ∧ Box2 w' xb (.slice la ll lc) (.int .i64 (r.w : Int)) 121 ∧ Upto (fun b => b = xb) w w'
/-- The contract of an expansion with so much fuel, at one term. -/
def ExOn (l : List Mv) (n : Nat) (t : Tm) : Prop :=
  ∀ (c xb : Nat) (O : Nat → Prop) (w : World) (la : Option Addr) (lc : Nat) (cs : List Value), 16385 ≤ n + c → c ≤ 16384 → t.wf = 0 → Kn l.length t → O xb → (∀ b, O b → b < w.heap.size) →
    Box2 w xb (.slice la l.length lc) (.int .i64 (c : Int)) 121 → RepE O w 6 (l.map Mv.dat) la 0 → Rep O w t.dat cs →
    Calls Tryz.prog 100 #[.pointer (some ⟨xb, 0, none⟩), .agg cs.toArray] w (ExR O xb la l.length lc (exF l n t c) w)
def RpAt (l : List Mv) (n : Nat) : Prop :=
  ∀ (m : Mv) (us : List Tm) (c xb : Nat) (O : Nat → Prop) (w : World) (la : Option Addr) (lc : Nat) (cs : List Value) (ua : Option Addr) (uc : Nat), 16385 ≤ n + 1 + c → c ≤ 16384 → m ∈ l → m.value ≠ [] → us.length ≤ 200 → us.length ≤ uc → (∀ u ∈ us, u.isObj = true ∧ u.small = true ∧ Kn l.length u) → O xb → (∀ b, O b → b < w.heap.size) →
    Box2 w xb (.slice la l.length lc) (.int .i64 (c : Int)) 121 → RepE O w 6 (l.map Mv.dat) la 0 → Rep O w m.dat cs → RepE O w 4 (us.map Tm.dat) ua 0 →
    Calls Tryz.prog 176 #[.pointer (some ⟨xb, 0, none⟩), .agg cs.toArray, .slice ua us.length uc] w (ExR O xb la l.length lc (exR l n m us c) w)
theorem wf_args {k i : Int} {n : List UInt8} {l : List Tm} (h : (Tm.mk k n i l).wf = 0) : ∀ t ∈ l, t.wf = 0 := by
  obtain ⟨h1, h2, h3⟩ := Tm.wf_any3 h
  intro t ht
  have hs : t.small = true := by
    refine arg_small (k := k) (n := n) (i := i) ?_ t ht
    unfold Tm.small
    rw [Bool.and_eq_true, decide_eq_true_eq, decide_eq_true_eq]
    exact ⟨h2, by omega⟩
  have key : t.isObj = true ∨ t.isTyp = true ∨ t.isKnd = true := by
    rcases h1 with h1 | h1 | h1
    · exact .inl ((Tm.obj_args h1).1 t ht)
    · rw [Tm.isTyp, Tm.isAtom] at h1
      simp only [Bool.or_eq_true, Bool.and_eq_true] at h1
      rcases h1 with h1 | h1
      · have := h1.2.2
        rw [Tm.allObj_iff, List.all_eq_true] at this
        exact .inl (this t ht)
      · have := h1.2.2
        rw [Tm.allTyp_iff, List.all_eq_true] at this
        exact .inr (.inl (this t ht))
    · unfold Tm.isKnd at h1
      split at h1
      · rename_i heq
        cases heq
        simp only [Bool.and_eq_true] at h1
        rcases List.mem_cons.1 ht with rfl | ht
        · exact .inr (.inl h1.2.2.1)
        · obtain rfl := List.mem_singleton.1 ht
          exact .inr (.inr h1.2.2.2)
      · rename_i heq
        cases heq
        simp only [Bool.and_eq_true, List.isEmpty_iff] at h1
        rw [h1.2.2.2] at ht
        cases ht
  unfold Tm.wf
  rw [hs]
  rcases key with h | h | h
  · rw [h]; rfl
  · rw [h]; simp
  · rw [h]; simp
theorem pw_mem {α β : Type} {P : α → β → Prop} {l : List α} {m : List β} (h : Pw P l m) : ∀ u ∈ m, ∃ t ∈ l, P t u := by
  induction h with
  | nil => intro u hu; cases hu
  | cons h1 _ ih =>
    intro u hu
    rcases List.mem_cons.1 hu with rfl | hu
    · exact ⟨_, by simp, h1⟩
    · obtain ⟨t, ht, hp⟩ := ih u hu
      exact ⟨t, by simp [ht], hp⟩
theorem exL_good {l : List Mv} (hG : StG l) {n c : Nat} {ts : List Tm} (h : (exL (exG l (exF l n)) ts c).e = 0) : ∀ u ∈ (exL (exG l (exF l n)) ts c).ts, u.small = true ∧ ((∀ t ∈ ts, t.isObj = true) → u.isObj = true) ∧ ((∀ t ∈ ts, Kn l.length t) → Kn l.length u) := by
  have hP := exL_ind (exG l (exF l n)) (fun t u => u.small = true ∧ (t.isObj = true → u.isObj = true) ∧ (Kn l.length t → Kn l.length u)) ts (fun t _ c he => by
    rw [← exF_succ] at he ⊢
    exact ⟨exF_small l (n + 1) t c he, (exF_kp l (n + 1) t c he).1, fun hk => exF_nal kn_var kn_none l (fun m hm v hv => (hG.mv m hm).kn.2 v hv) (n + 1) t c hk⟩) c h
  intro u hu
  obtain ⟨t, ht, h1, h2, h3⟩ := pw_mem hP u hu
  exact ⟨h1, fun ho => h2 (ho t ht), fun hk => h3 (hk t ht)⟩
theorem small_typ_wf {t : Tm} (h : t.isTyp = true) (hs : t.small = true) : t.wf = 0 := by unfold Tm.wf; rw [h, hs]; simp
theorem sizes_small {us : List Tm} (h : ∀ u ∈ us, u.small = true) : Tm.sizes us ≤ us.length * 4096 := by
  induction us with
  | nil => simp [Tm.sizes]
  | cons u us ih =>
    have h1 := h u (by simp)
    have h2 := ih (fun v hv => h v (by simp [hv]))
    unfold Tm.small at h1
    rw [Bool.and_eq_true, decide_eq_true_eq] at h1
    simp only [Tm.sizes, List.length_cons, Nat.add_mul, Nat.one_mul]
    omega
theorem obj_six {i : Int} {n : List UInt8} {ts : List Tm} (h : (Tm.mk 6 n i ts).wf = 0) : (∀ t ∈ ts, t.isObj = true) ∧ 0 ≤ i := by
  rcases (Tm.wf_any3 h).1 with h1 | h1 | h1
  · refine ⟨(Tm.obj_args h1).1, ?_⟩
    rw [Tm.isObj] at h1
    simp at h1
    omega
  · rw [Tm.isTyp, Tm.isAtom] at h1; simp at h1
  · unfold Tm.isKnd at h1
    split at h1
    · rename_i heq; cases heq; simp at h1
    · rename_i heq; cases heq; simp at h1
/-- What the regions of a step read. -/
abbrev Et8 (xb H mb mo : Nat) (x0 x1 t0 t1 t2 t3 m0 m1 m2 m3 m4 m5 : Value) (w' : World) : Prop :=
  (w'.cell? ⟨xb, 0, none⟩ = some x0 ∧ w'.cell? ⟨xb, 1, none⟩ = some x1) ∧ (w'.cell? ⟨H, 0, none⟩ = some t0 ∧ w'.cell? ⟨H, 1, none⟩ = some t1 ∧ w'.cell? ⟨H, 2, none⟩ = some t2 ∧ w'.cell? ⟨H, 3, none⟩ = some t3) ∧
  (w'.cell? ⟨mb, mo, none⟩ = some m0 ∧ w'.cell? ⟨mb, mo + 1, none⟩ = some m1 ∧ w'.cell? ⟨mb, mo + 2, none⟩ = some m2 ∧ w'.cell? ⟨mb, mo + 3, none⟩ = some m3 ∧ w'.cell? ⟨mb, mo + 4, none⟩ = some m4 ∧ w'.cell? ⟨mb, mo + 5, none⟩ = some m5)
theorem Et8.set4 {xb H mb mo r : Nat} {x0 x1 t0 t1 t2 t3 m0 m1 m2 m3 m4 m5 : Value} {w : World} (h : Et8 xb H mb mo x0 x1 t0 t1 t2 t3 m0 m1 m2 m3 m4 m5 w) (h1 : ¬ xb = r) (h2 : ¬ H = r) (h3 : ¬ mb = r) (d0 d1 d2 d3 : Value) :
    Et8 xb H mb mo x0 x1 t0 t1 t2 t3 m0 m1 m2 m3 m4 m5 ((((w.setCell ⟨r, 0, none⟩ d0).setCell ⟨r, 1, none⟩ d1).setCell ⟨r, 2, none⟩ d2).setCell ⟨r, 3, none⟩ d3) := by
  have hU : Upto (fun b => b = r) w ((((w.setCell ⟨r, 0, none⟩ d0).setCell ⟨r, 1, none⟩ d1).setCell ⟨r, 2, none⟩ d2).setCell ⟨r, 3, none⟩ d3) := Upto.set (Upto.set (Upto.set (Upto.set (Upto.refl _ _) 0 _) 1 _) 2 _) 3 _
  obtain ⟨⟨a0, a1⟩, ⟨b0, b1, b2, b3⟩, c0, c1, c2, c3, c4, c5⟩ := h
  exact ⟨⟨hU.cell a0 h1, hU.cell a1 h1⟩, ⟨hU.cell b0 h2, hU.cell b1 h2, hU.cell b2 h2, hU.cell b3 h2⟩, hU.cell c0 h3, hU.cell c1 h3, hU.cell c2 h3, hU.cell c3 h3, hU.cell c4 h3, hU.cell c5 h3⟩
/-- .. what a region with a call reads. -/
abbrev Et7 (xb H mb mo : Nat) (x0 t0 t1 t2 t3 m0 m1 m2 m3 m4 m5 : Value) (w' : World) : Prop :=
  w'.cell? ⟨xb, 0, none⟩ = some x0 ∧ (w'.cell? ⟨H, 0, none⟩ = some t0 ∧ w'.cell? ⟨H, 1, none⟩ = some t1 ∧ w'.cell? ⟨H, 2, none⟩ = some t2 ∧ w'.cell? ⟨H, 3, none⟩ = some t3) ∧
  (w'.cell? ⟨mb, mo, none⟩ = some m0 ∧ w'.cell? ⟨mb, mo + 1, none⟩ = some m1 ∧ w'.cell? ⟨mb, mo + 2, none⟩ = some m2 ∧ w'.cell? ⟨mb, mo + 3, none⟩ = some m3 ∧ w'.cell? ⟨mb, mo + 4, none⟩ = some m4 ∧ w'.cell? ⟨mb, mo + 5, none⟩ = some m5)
theorem Et7.keep {S : Nat → Prop} {xb H mb mo : Nat} {x0 t0 t1 t2 t3 m0 m1 m2 m3 m4 m5 y0 : Value} {w w' : World} (h : Et7 xb H mb mo x0 t0 t1 t2 t3 m0 m1 m2 m3 m4 m5 w) (hU : Upto S w w') (h1 : w'.cell? ⟨xb, 0, none⟩ = some y0) (h2 : ¬ S H) (h3 : ¬ S mb) : Et7 xb H mb mo y0 t0 t1 t2 t3 m0 m1 m2 m3 m4 m5 w' := by
  obtain ⟨a0, ⟨b0, b1, b2, b3⟩, c0, c1, c2, c3, c4, c5⟩ := h
  exact ⟨h1, ⟨hU.cell b0 h2, hU.cell b1 h2, hU.cell b2 h2, hU.cell b3 h2⟩, hU.cell c0 h3, hU.cell c1 h3, hU.cell c2 h3, hU.cell c3 h3, hU.cell c4 h3, hU.cell c5 h3⟩
theorem Et7.set4 {xb H mb mo r : Nat} {x0 t0 t1 t2 t3 m0 m1 m2 m3 m4 m5 : Value} {w : World} (h : Et7 xb H mb mo x0 t0 t1 t2 t3 m0 m1 m2 m3 m4 m5 w) (h1 : ¬ xb = r) (h2 : ¬ H = r) (h3 : ¬ mb = r) (d0 d1 d2 d3 : Value) :
    Et7 xb H mb mo x0 t0 t1 t2 t3 m0 m1 m2 m3 m4 m5 ((((w.setCell ⟨r, 0, none⟩ d0).setCell ⟨r, 1, none⟩ d1).setCell ⟨r, 2, none⟩ d2).setCell ⟨r, 3, none⟩ d3) := by
  have hU : Upto (fun b => b = r) w ((((w.setCell ⟨r, 0, none⟩ d0).setCell ⟨r, 1, none⟩ d1).setCell ⟨r, 2, none⟩ d2).setCell ⟨r, 3, none⟩ d3) := Upto.set (Upto.set (Upto.set (Upto.set (Upto.refl _ _) 0 _) 1 _) 2 _) 3 _
  exact h.keep hU (hU.cell h.1 h1) h2 h3
/-- The end of an expansion: the result stands in its box. -/
theorem ex_fin {O : Nat → Prop} {xb : Nat} {la : Option Addr} {ll lc : Nat} {r : Tm.Res} {w W W' : World} {r0 : Nat} {E k i : Int} {n : List UInt8} {a : Option Addr} {len cap : Nat} (hE : E = r.e) (hRt : Rep (fun b => O b ∨ b = r0) W r.t.dat [.int .i64 k, .string (B n), .int .i64 i, .slice a len cap])
    (hB : Box2 W xb (.slice la ll lc) (.int .i64 (r.w : Int)) 121) (hU : Upto (fun b => b = xb) w W) (hset : Upto (fun b => b = r0) W W') (h1 : w.heap.size ≤ r0) (h2 : xb < w.heap.size) :
    ExR O xb la ll lc r w (.returned (.tuple #[.agg #[.int .i64 k, .string (B n), .int .i64 i, .slice a len cap], .int .i64 E])) W' := by
  subst hE
  exact ⟨k, i, n, a, len, cap, rfl, Rep.weaken (fun b _ e => .inl e) _ _ (Rep.keep hset (fun b e => .inr e) _ _ hRt), hB.keep hset (by omega), hU.trans hset (fun b hb e => by omega)⟩
end Go.Proofs.YtdomloghcpfdjaaGreatDoor
namespace Go.Proofs.YtdomloghcpfdjaaGreatDoor
open Go.RowKit Go.LF
theorem upto_drewN (w : World) (n : Nat) : Upto none' w (w.drewN n) := ⟨rfl, rfl, rfl, Nat.le_refl _, fun _ _ _ => rfl⟩
set_option maxRecDepth 100000 in
set_option maxHeartbeats 16000000 in
theorem exTerm_step (l : List Mv) (hG : StG l) (n : Nat) (RP : RpAt l n) (t : Tm) : ExOn l (n + 1) t := by
  induction t using Tm.ind with
  | h k nm i ts ih =>
    intro c xb O w la lc cs hn hc hwf hkn hOx hO hX hL hR
    obtain ⟨ta, tc, rfl, htc, hT⟩ := rep_tm.1 hR
    have hsm := Tm.wf_any3 hwf
    have hargs := wf_args hwf
    have hknA := (Tm.nal_mk _ _ _ _).1 hkn
    have hkna := (Tm.nalA_iff _).1 hknA.2
    have hk6 := hknA.1
    have hmk := run_make_terms ts.length (by have := hk6.2; omega)
    obtain ⟨tl, htl⟩ : ∃ tl, tl = ts.length := ⟨_, rfl⟩
    rw [← htl] at hmk hk6 htc
    have htl2 : tl ≤ 200 := hk6.2
    obtain ⟨w3, hw3⟩ : ∃ w3, w3 = ((w.alloc (.cells #[.int .i64 k, .string (B nm), .int .i64 i, .slice ta tl tc] 29)).alloc (.cells #[.int .i64 0, .string (B []), .int .i64 0, .slice none 0 0] 29)).alloc (.cells (madeCells #[.int .i64 0, .string (B []), .int .i64 0, .slice none 0 0] (tl * 4)) 29) := ⟨_, rfl⟩
    have hU3 : Upto none' w w3 := by rw [hw3]; exact (((Upto.refl none' w).alloc _).alloc _).alloc _
    have ht3 : Box4 w3 w.heap.size (.int .i64 k) (.string (B nm)) (.int .i64 i) (.slice ta tl tc) 29 := by rw [hw3]; exact ((Box4.at_new rfl).kept ((Upto.refl none' _).alloc _)).kept ((Upto.refl none' _).alloc _)
    have hr3 : Box4 w3 (w.heap.size + 1) (.int .i64 0) (.string (B [])) (.int .i64 0) (.slice none 0 0) 29 := by rw [hw3]; exact (Box4.at_new (by simp)).kept ((Upto.refl none' _).alloc _)
    obtain ⟨H, hH⟩ : ∃ H, H = w.heap.size := ⟨_, rfl⟩
    rw [← hH] at ht3 hr3
    have hO' : ∀ b, O b → b < H := by rw [hH]; exact hO
    have hF3 : RowF (fun b => O b ∨ b = H ∨ b = H + 1) tl w3 (H + 1 + 1) [] := by rw [hw3]; exact RowF.made tl (by simp [hH])
    have hX3 := hX.kept hU3
    have hL3 := (RepE.fresh' _ _ _ _ hL).on hU3
    have hT3 := (RepE.fresh' _ _ _ _ hT).on hU3
    rw [← hH] at hL3 hT3
    obtain ⟨ll, hll⟩ : ∃ ll, ll = l.length := ⟨_, rfl⟩
    rw [← hll] at hX3 hk6
    rw [← hll, ← htl]
    have hll2 : (ll : Int) ≤ 40 := by have := hG.len; omega
    obtain ⟨R, hRR⟩ : ∃ R, R = exF l (n + 1) (.mk k nm i ts) c := ⟨_, rfl⟩
    rw [← hRR]
    rw [exF_succ, exT_mk] at hRR
    have hexL : ∀ t c, exT (exG l (exF l n)) t c = exF l (n + 1) t c := fun t c => by rw [exF_succ]
    obtain ⟨g, hg⟩ : ∃ g, g = exG l (exF l n) := ⟨_, rfl⟩
    rw [← hg] at hRR hexL
    have HW := hid hw3
    have HH := hid hH
    have HL := hid (And.intro htl hll)
    have HP := hid (And.intro hn (And.intro hwf (And.intro hO' hRR)))
    have HGG := hid hg
    have htl3 : (tl : Int) ≤ 200 := by omega
    have hk6' := hk6.1
    have HK6 := hid hk6'
    have hxH : xb < H := hO' xb hOx
    have hU0 := hU3
    have hz3 : H + 3 ≤ w3.heap.size := by have := hF3.lt; omega
    clear hw3 hH hX hR hL hT hO hwf hkn htl hll hRR hn hknA hk6 hk6' hsm hg hO'
    obtain ⟨t0, t1, t2, t3⟩ := ht3.cells
    go_enter Tryz.func100, Tryz.ntmps100
    go_upto_region 2 with fail
    rw [← show B [] = { data := #[] } from rfl, ← HW.out, ← HH.out]
    clear hmk
    go_wp2_with fail
    go_loopw [17] (fun v17 wr => ∃ (j cj : Nat) (us : List Tm), v17 = .int .i64 (j : Int) ∧ j ≤ tl ∧ (exL g (ts.take j) c = ⟨0, us, cj⟩ ∧ cj ≤ 16384 ∧ c ≤ cj ∧ us.length = j) ∧ RowF (fun b => O b ∨ b = H ∨ b = H + 1) tl wr (H + 1 + 1) us ∧
        Box2 wr xb (.slice la ll lc) (.int .i64 (cj : Int)) 121 ∧ Upto (fun b => b = xb ∨ b = H + 1 + 1) w3 wr) (fun v17 _ => tl - (intOf v17).toNat)
    case atStart => exact ⟨0, c, [], rfl, Nat.zero_le _, ⟨by simp [exL_nil], hc, Nat.le_refl _, rfl⟩, hF3, hX3, Upto.refl _ _⟩
    case round =>
      clear hF3 hX3 t0 t1 t2 t3
      obtain ⟨j, cj, us, rfl, hj, ⟨hA, hcj, hccj, hul⟩, hF, hX, hU⟩ := hrel
      have ht' := ht3.keep hU (by omega)
      have hr' := hr3.keep hU (by omega)
      have hjm : (j : Int) ≤ 200 := by omega
      have HA := hid (And.intro hA (And.intro hcj (And.intro hccj hul)))
      clear hA hcj hccj hul
      by_cases hlt : j < tl
      · have hjl : j < ts.length := by have := HL.out.1; omega
        obtain ⟨eb, eo, ek, en, ex, es, ec, rfl, hebl, heO, p0, p1, p2, p3, hRp⟩ := arg_tm (RepE.keep (S := fun b => b = xb ∨ b = H + 1 + 1) hU (fun b e => e.elim (fun e => .inl (e ▸ hOx)) (fun e => .inr (by omega))) _ _ _ _ hT3) j hjl
        have IH0 := ih ts[j] (List.getElem_mem hjl)
        have hstep := exL_take_succ g ts c j hjl (by rw [HA.out.1])
        rw [HA.out.1, hexL] at hstep
        simp only at hstep
        have htj := List.getElem_mem hjl
        have hwj := hargs _ htj
        have hkj := hkna _ htj
        obtain ⟨wa, hwa⟩ : ∃ wa, wa = wr.alloc (.cells #[.int .i64 ek, .string (B en), .int .i64 ex, .slice es ts[j].args.length ec] 29) := ⟨_, rfl⟩
        have hUa : Upto none' wr wa := by rw [hwa]; exact (Upto.refl none' wr).alloc _
        have hB : Box4 wa wr.heap.size (.int .i64 ek) (.string (B en)) (.int .i64 ex) (.slice es ts[j].args.length ec) 29 := by rw [hwa]; exact Box4.at_new rfl
        have IH := IH0 cj xb (fun b => O b ∨ b = H ∨ b = H + 1 ∨ b = H + 1 + 1) wa la lc _ (by have := HP.out.1; have := HA.out.2.2.1; omega) HA.out.2.1 hwj hkj (.inl hOx)
          (fun b e => by have := hU.size; have := hUa.size; have h0 := HP.out.2.2.1 b; rcases e with e | e | e | e; (have := h0 e; omega); all_goals omega)
          (by rw [← HL.out.2]; exact hX.kept hUa)
          (RepE.weaken (fun b _ e => by rcases e with e | e | e | e; (exact .inl e); all_goals exact .inr (by omega)) _ _ _ _ (RepE.on (RepE.keep (S := fun b => b = xb ∨ b = H + 1 + 1) hU (fun b e => e.elim (fun e => .inl (e ▸ hOx)) (fun e => .inr (by omega))) _ _ _ _ hL3) hUa))
          (Rep.weaken (fun b _ e => by rcases e with e | e | e | e; (exact .inl e); all_goals exact .inr (by omega)) _ _ (hRp.on hUa))
        rw [← HL.out.2] at IH
        obtain ⟨r, hr⟩ : ∃ r, r = exF l (n + 1) ts[j] cj := ⟨_, rfl⟩
        rw [← hr] at IH hstep
        have HST := hid hstep
        have HRE := hid (And.intro hr (show r.e ≠ 0 → r.t = Tm.none0 from fun h => by rw [hr] at h ⊢; exact exF_none l (n + 1) _ _ h))
        generalize ts[j].args.length = el at *
        obtain ⟨Q, hQ⟩ : ∃ Q, Q = wr.heap.size := ⟨_, rfl⟩
        rw [← hQ] at hB
        have HQ := hid hQ
        have HWA := hid hwa
        have hjb : (j : Int) < (tl : Int) := by omega
        have hsz := hU.size
        obtain ⟨b0, b1, b2, b3⟩ := hB.cells
        clear hstep hr hwj hkj htj hwa hQ hRp IH0
        go_upto_region 6 with fail
        rw [← HWA.out, ← HQ.out]
        clear p0 p1 p2 p3
        go_wp2_with fail
        (with_reducible refine IH.mono ?_)
        rintro e w6 ⟨k6, i6, n6, a6, l6, c6, rfl, hR6, hX6, hU6⟩
        have hUr6 : Upto (fun b => b = xb) wr w6 := (hUa.mono (fun _ _ e => e.elim)).trans hU6 (fun _ _ e => e)
        have hF6 := hF.keep hUr6 (fun b e => .inl (e ▸ hOx)) (by omega)
        have hjn4 : j * 4 + 3 < tl * 4 := by omega
        obtain ⟨_, g0⟩ := hF6.cell (j * 4) (by omega)
        obtain ⟨_, g1⟩ := hF6.cell (j * 4 + 1) (by omega)
        obtain ⟨_, g2⟩ := hF6.cell (j * 4 + 2) (by omega)
        obtain ⟨_, g3⟩ := hF6.cell (j * 4 + 3) (by omega)
        have f6 := hF6.fr
        have hgl6 := hF6.lt
        have hnx := hF6.next (u := r.t) (d0 := .int .i64 k6) (d1 := .string (B n6)) (d2 := .int .i64 i6) (d3 := .slice a6 l6 c6) (by rw [HA.out.2.2.2]; exact hlt) (Rep.weaken (fun b _ e => by rcases e with e | e; (rcases e with e | e | e; (exact .inl e); (exact .inr (.inl e)); exact .inr (.inr (.inl e))); exact .inr (.inr (.inr e))) _ _ hR6) rfl
        rw [HA.out.2.2.2] at hnx
        obtain ⟨w7, hw7⟩ : ∃ w7, w7 = (((w6.setCell ⟨H + 1 + 1, j * 4, none⟩ (.int .i64 k6)).setCell ⟨H + 1 + 1, j * 4 + 1, none⟩ (.string (B n6))).setCell ⟨H + 1 + 1, j * 4 + 2, none⟩ (.int .i64 i6)).setCell ⟨H + 1 + 1, j * 4 + 3, none⟩ (.slice a6 l6 c6) := ⟨_, rfl⟩
        rw [← hw7] at hnx
        have HW7 := hid hw7
        have hU7 := (hU.trans hUr6 (fun b hb e => .inl e)).trans hnx.2 (fun b hb e => .inr e)
        have hX7 := hX6.keep hnx.2 (by omega)
        have HNX := hid (And.intro hnx.1 (And.intro hU7 hX7))
        have hr7 := hr3.keep hU7 (by omega)
        clear hnx hF6 hF hw7 hX6 hUr6 hR6 hB b0 b1 b2 b3 IH hU7 hX7
        by_cases hre : r.e = 0
        · have hz := hid hre
          rw [hre]
          have HE := hid (show exL g (ts.take (j + 1)) c = ⟨0, (exL g (ts.take j) c).ts ++ [r.t], r.w⟩ by rw [HST.out, if_pos hre, HA.out.1])
          have hrw : r.w ≤ 16384 := by
            have h2 := exF_cap l (n + 1) ts[j] cj HA.out.2.1
            rw [← HRE.out.1] at h2
            exact h2 hre
          have hrc : c ≤ r.w := by
            have h1 := HA.out.2.2.1
            have h2 := exF_le l (n + 1) ts[j] cj
            rw [← HRE.out.1] at h2
            omega
          clear hre HRE HST
          go_wp2_with fail
          rw [← HW7.out]
          go_roundw
          case rel => exact ⟨j + 1, r.w, us ++ [r.t], by go_num, by omega, ⟨by rw [HE.out, HA.out.1], hrw, hrc, by simp [HA.out.2.2.2]⟩, HNX.out.1, HNX.out.2.2, HNX.out.2.1⟩
          case measure => simp [intOf]; omega
        · have HR := hid (show R = ⟨r.e, Tm.none0, r.w⟩ by
            have h1 : (exL g (ts.take (j + 1)) c) = ⟨r.e, [], r.w⟩ := by rw [HST.out, if_neg hre]
            have h2 := exL_stop g ts c (j + 1) (by rw [h1]; exact hre)
            rw [HP.out.2.2.2, h2, h1, if_neg hre])
          have hre' : (r.e != 0) = true := by simpa using hre
          have HRR := hid hre
          clear hre HST HRE
          obtain ⟨re, hre⟩ : ∃ re, re = r.e := ⟨_, rfl⟩
          rw [← hre] at hre'
          rw [← hre]
          have HREE := hid hre
          clear hre
          obtain ⟨y0, y1, y2, y3⟩ := hr7.cells
          obtain ⟨z0, z1, z2, z3⟩ := hr7.frozens
          have qr := hr7.lt
          have hset := hr7.set (d0 := .int .i64 0) (d1 := .string (B [])) (d2 := .int .i64 0) (d3 := .slice none 0 0)
          obtain ⟨e0, e1, e2, e3⟩ := hset.1.cells
          have HEE := hid (And.intro e0 (And.intro e1 (And.intro e2 (And.intro e3 hset.2))))
          clear e0 e1 e2 e3 hset
          go_upto_region 7 with fail
          rw [← HW7.out]
          clear g0 g1 g2 g3
          go_wp2_with fail
          obtain ⟨e0, e1, e2, e3, hset⟩ := HEE.out
          refine bodyPost_ret (v := .tuple #[.agg #[.int .i64 0, .string (B []), .int .i64 0, .slice none 0 0], .int .i64 re]) ?_ rfl ?_
          · simp [results, Tryz.f100, go_sem, e0, e1, e2, e3]
          · exact ex_fin (r0 := H + 1) (by rw [HR.out, HREE.out]) (by rw [HR.out]; exact rep_leaf 0 [] 0) (by rw [HR.out]; exact HNX.out.2.2) ((hU0.mono (fun _ _ e => e.elim)).trans HNX.out.2.1 (fun b hb e => e.elim id (fun e => by have := HH.out; omega))) hset (by have := HH.out; omega) (by have := HH.out; omega)
      · have hjn : ¬ (j : Int) < (tl : Int) := by omega
        have hje : ts.take j = ts := List.take_of_length_le (by have := HL.out.1; omega)
        have hul : us.length = tl := by have := HA.out.2.2.2; omega
        have hAe : exL g ts c = ⟨0, us, cj⟩ := by have := HA.out.1; rw [hje] at this; exact this
        obtain ⟨x0, x1, x2, x3⟩ := ht'.cells
        obtain ⟨f0, f1, f2, f3⟩ := ht'.frozens
        have htlt := ht'.lt
        obtain ⟨w8, hw8⟩ : ∃ w8, w8 = wr.setCell ⟨H, 3, none⟩ (.slice (some ⟨H + 1 + 1, 0, none⟩) tl tl) := ⟨_, rfl⟩
        have hs8 : Upto (fun b => b = H) wr w8 := by rw [hw8]; exact Upto.set (Upto.refl _ _) 3 _
        have ht8 : Box4 w8 H (.int .i64 k) (.string (B nm)) (.int .i64 i) (.slice (some ⟨H + 1 + 1, 0, none⟩) tl tl) 29 := by rw [hw8]; exact ht'.set3 _
        have hr8 := hr'.keep hs8 (by omega)
        have hX8 := hX.keep hs8 (by omega)
        have hF8 := hF.keep hs8 (fun b e => .inr (.inl e)) (by omega)
        have hrow8 := hF8.row hul (fun e => by rcases e with e | e | e; (have := HP.out.2.2.1 _ e; omega); all_goals omega)
        have hU8 : Upto (fun b => b = xb ∨ H ≤ b) w3 w8 := (hU.mono (fun b hb e => e.elim .inl (fun e => .inr (by omega)))).trans hs8 (fun b hb e => .inr (by omega))
        have hL8 := RepE.keep hU8 (fun b e => e.elim (fun e => .inl (e ▸ hOx)) .inr) _ _ _ _ hL3
        have hnode : Rep (fun b => O b ∨ b = H ∨ b = H + 1) w8 (Tm.mk k nm i us).dat [.int .i64 k, .string (B nm), .int .i64 i, .slice (some ⟨H + 1 + 1, 0, none⟩) tl tl] := rep_tm.2 ⟨_, _, by rw [hul], by rw [hul]; exact Nat.le_refl _, hrow8⟩
        have HW8 := hid hw8
        have hcl : c ≤ cj := HA.out.2.2.1
        have hgood := exL_good hG (n := n) (c := c) (ts := ts) (by rw [← HGG.out, hAe])
        rw [← HGG.out, hAe] at hgood
        have HU := hid (And.intro hul (And.intro hAe hgood))
        clear hw8 hje hAe hgood hF hX hr' hul
        go_upto_region 11 with fail
        rw [← HW8.out]
        clear x0 x1 x2 x3 f0 f1 f2 f3
        obtain ⟨sb, hsb⟩ : ∃ sb, sb = (slv l k i).isSome := ⟨_, rfl⟩
        have HSB := hid hsb
        have hd8 : Upto none' w8 w8.drew := (Upto.refl none' _).drew
        have hk0 : k = 6 → 0 ≤ i := fun e => by
          have h := HP.out.2.1
          rw [e] at h
          exact (obj_six h).2
        have HK0 := hid hk0
        clear hsb hk0
        go_cut [63] from 38 to 63 (fun v63 wx => v63 = .bool sb ∧ Upto none' w8 wx)
        case first =>
          by_cases hk : k = 6
          · have hi0 := HK0.out hk
            have hil := HK6.out hk
            obtain ⟨p, rfl⟩ : ∃ p : Nat, i = (p : Int) := ⟨i.toNat, by omega⟩
            have hpl : p < l.length := by have := HL.out.2; omega
            have hpn : p < ll := by omega
            obtain ⟨b2, o2, k2, n2, ix2, aa2, cap2, va2, vc2, rfl, hb2, _, ⟨c0, c1, c2, c3, c4, c5⟩, _, _, _⟩ := arg_mv hL8 p hpl
            have hsv : sb = !(l[p].value.isEmpty) := by
              rw [HSB.out]
              unfold slv
              rw [if_pos ⟨hk, hi0⟩]
              simp only [Int.toNat_natCast, List.getElem?_eq_getElem hpl]
              cases l[p].value <;> rfl
            obtain ⟨vl, hvl⟩ : ∃ vl, vl = l[p].value.length := ⟨_, rfl⟩
            rw [← hvl] at c5
            have hsv2 : sb = decide (0 < vl) := by
              rw [hsv, hvl]
              cases l[p].value <;> simp
            have HS2 := hid hsv2
            generalize l[p].type.args.length = al2 at *
            generalize l[p].name = ln2 at *
            obtain ⟨q0, q1⟩ := hX8.cells
            obtain ⟨t0, t1, t2, t3⟩ := ht8.cells
            have e5 := c5
            have hvm : vl = 0 ∨ 0 < vl := by omega
            have hk' : (k == 6) = true := by simpa using hk
            clear hsv hsv2 hvl c0 c1 c2 c3 c4 c5 hk
            rcases hvm with rfl | hvm
            · go_quiet (fail)
              all_goals
                go_wp2_with fail
                go_meet
                case rel => exact ⟨by rw [HS2.out]; rfl, upto_drewN _ _⟩
            · have hvi : (0 : Int) < (vl : Int) := by omega
              go_quiet (fail)
              all_goals
                go_wp2_with fail
                go_meet
                case rel => exact ⟨by rw [HS2.out, decide_eq_true hvm], upto_drewN _ _⟩
          · have hk' : (k == 6) = false := by simpa using hk
            have HS2 := hid (show sb = false by rw [HSB.out, slv_off hk]; rfl)
            obtain ⟨t0, t1, t2, t3⟩ := ht8.cells
            clear hk
            go_quiet (fail)
            all_goals
              go_wp2_with fail
              go_meet
              case rel => exact ⟨by rw [HS2.out], upto_drewN _ _⟩
        case rest =>
          obtain ⟨rfl, hUc⟩ := hcut
          have htc := ht8.kept hUc
          have hrc := hr8.kept hUc
          have hXc := hX8.kept hUc
          have hnc := hnode.on hUc
          have hLc := hL8.on hUc
          have hrowc := hrow8.on hUc
          have hU3c : Upto (fun b => b = xb ∨ H ≤ b) w3 wc := hU8.trans hUc (fun _ _ e => e.elim)
          have hUwc : Upto (fun b => b = xb) w wc := (hU0.mono (fun _ _ e => e.elim)).trans hU3c (fun b hb e => e.elim id (fun e => by have := HH.out; omega))
          obtain ⟨wd, rfl⟩ : ∃ wd, wd = wc := ⟨_, rfl⟩
          have hRR := HP.out.2.2.2
          rw [HU.out.2.1, if_pos rfl] at hRR
          simp only at hRR
          have hlow : H + 1 < wd.heap.size := by have := hrc.lt; omega
          clear ht8 hr8 hX8 hnode hL8 hrow8 hU8 hUc HK6 hd8
          cases sb
          case false =>
            have hsl : slv l k i = none := by
              have h := HSB.out
              cases hh : slv l k i with
              | none => rfl
              | some m => rw [hh] at h; cases h
            have hR2 : R = Tm.chk (.mk k nm i us) cj := by rw [hRR, HGG.out, exG_none hsl]; rfl
            have hsz : (Tm.mk k nm i us).size ≤ 1000000 := by
              have h1 : Tm.sizes us ≤ us.length * 4096 := sizes_small (fun u hu => (HU.out.2.2 u hu).1)
              have h2 : us.length = tl := HU.out.1
              rw [h2] at h1
              rw [Tm.size_mk]
              omega
            have SZ := size_any (Tm.mk k nm i us) hsz wd _ (rep_pre hnc)
            have DP := fun (W : World) (hu : Upto none' wd W) => depth_any (Tm.mk k nm i us) hsz W _ (rep_pre (hnc.on hu))
            obtain ⟨nd, hnd⟩ : ∃ nd, nd = Tm.mk k nm i us := ⟨_, rfl⟩
            rw [← hnd] at SZ DP hR2 hnc hsz
            have hsmall : nd.small = (decide (nd.size ≤ 4096) && decide (nd.depth ≤ 128)) := rfl
            obtain ⟨s1, hs1⟩ : ∃ s1, s1 = nd.size := ⟨_, rfl⟩
            obtain ⟨d1, hd1⟩ : ∃ d1, d1 = nd.depth := ⟨_, rfl⟩
            rw [← hs1] at SZ hsz hsmall
            rw [← hd1] at DP hsmall
            have HND := hid (And.intro hR2 hsmall)
            obtain ⟨t0, t1, t2, t3⟩ := htc.cells
            clear hRR hsl hR2 hnd hs1 hd1 hsmall
            have bad : ∀ (W : World), Upto none' wd W → nd.small = false → ∀ W', Upto (fun b => b = H + 1) W W' → ExR O xb la ll lc R w (.returned (.tuple #[.agg #[.int .i64 0, .string (B []), .int .i64 0, .slice none 0 0], .int .i64 2])) W' := by
              intro W hu hb W' hset
              have e : R = ⟨2, Tm.none0, cj⟩ := by rw [HND.out.1]; unfold Tm.chk; rw [if_neg (by rw [hb]; simp)]
              exact ex_fin (r0 := H + 1) (by rw [e]) (by rw [e]; exact rep_leaf 0 [] 0) (by rw [e]; exact hXc.kept hu) (hUwc.trans hu (fun _ _ e => e.elim)) hset (by have := HH.out; omega) (by have := HH.out; omega)
            have HBD := hid bad
            clear bad
            by_cases hbig : (4096 : Int) < (s1 : Int)
            · have hb : nd.small = false := by rw [HND.out.2, decide_eq_false (by omega)]; rfl
              have HB := hid hb
              clear hb
              go_wp2_with (first | ((go_at_call 150); (with_reducible refine SZ.mono ?_); rintro e w9 ⟨rfl, hU9⟩; obtain ⟨y0, y1, y2, y3⟩ := (hrc.kept hU9).cells; obtain ⟨z0, z1, z2, z3⟩ := (hrc.kept hU9).frozens; have qr := (hrc.kept hU9).lt; have hset := (hrc.kept hU9).set (d0 := .int .i64 0) (d1 := .string (B [])) (d2 := .int .i64 0) (d3 := .slice none 0 0); have HEE := hid hset; clear hset))
              obtain ⟨hb9, hset⟩ := HEE.out
              obtain ⟨e0, e1, e2, e3⟩ := hb9.cells
              refine bodyPost_ret (v := .tuple #[.agg #[.int .i64 0, .string (B []), .int .i64 0, .slice none 0 0], .int .i64 2]) ?_ rfl ?_
              · simp [results, Tryz.f100, go_sem, e0, e1, e2, e3]
              · exact HBD.out w9 hU9 HB.out _ hset
            · by_cases hdeep : (128 : Int) < (d1 : Int)
              · have hb : nd.small = false := by rw [HND.out.2, decide_eq_false (show ¬ d1 ≤ 128 by omega)]; simp
                have HB := hid hb
                clear hb
                go_wp2_with (first | ((go_at_call 150); (with_reducible refine SZ.mono ?_); rintro e w9 ⟨rfl, hU9⟩; have DP9 := DP w9 hU9; clear t0 t1 t2 t3; obtain ⟨t0, t1, t2, t3⟩ := (htc.kept hU9).cells) | ((go_at_call 151); (with_reducible refine DP9.mono ?_); rintro e w10 ⟨rfl, hU10⟩; have hU910 := hU9.and hU10; obtain ⟨y0, y1, y2, y3⟩ := (hrc.kept hU910).cells; obtain ⟨z0, z1, z2, z3⟩ := (hrc.kept hU910).frozens; have qr := (hrc.kept hU910).lt; have hset := (hrc.kept hU910).set (d0 := .int .i64 0) (d1 := .string (B [])) (d2 := .int .i64 0) (d3 := .slice none 0 0); have HEE := hid hset; clear hset))
                obtain ⟨hb9, hset⟩ := HEE.out
                obtain ⟨e0, e1, e2, e3⟩ := hb9.cells
                refine bodyPost_ret (v := .tuple #[.agg #[.int .i64 0, .string (B []), .int .i64 0, .slice none 0 0], .int .i64 2]) ?_ rfl ?_
                · simp [results, Tryz.f100, go_sem, e0, e1, e2, e3]
                · exact HBD.out w10 hU910 HB.out _ hset
              · have hb : R = ⟨0, nd, cj⟩ := by rw [HND.out.1]; unfold Tm.chk; rw [if_pos (by rw [HND.out.2, decide_eq_true (show s1 ≤ 4096 by omega), decide_eq_true (show d1 ≤ 128 by omega)]; rfl)]
                have HB := hid hb
                clear hb
                go_wp2_with (first | ((go_at_call 150); (with_reducible refine SZ.mono ?_); rintro e w9 ⟨rfl, hU9⟩; have DP9 := DP w9 hU9; clear t0 t1 t2 t3; obtain ⟨t0, t1, t2, t3⟩ := (htc.kept hU9).cells) | ((go_at_call 151); (with_reducible refine DP9.mono ?_); rintro e w10 ⟨rfl, hU10⟩; have hU910 := hU9.and hU10; clear t0 t1 t2 t3; obtain ⟨t0, t1, t2, t3⟩ := (htc.kept hU910).cells; obtain ⟨y0, y1, y2, y3⟩ := (hrc.kept hU910).cells; obtain ⟨z0, z1, z2, z3⟩ := (hrc.kept hU910).frozens; have qr := (hrc.kept hU910).lt; have hset := (hrc.kept hU910).set (d0 := .int .i64 k) (d1 := .string (B nm)) (d2 := .int .i64 i) (d3 := .slice (some ⟨H + 1 + 1, 0, none⟩) tl tl); have HEE := hid hset; clear hset))
                obtain ⟨hb9, hset⟩ := HEE.out
                obtain ⟨e0, e1, e2, e3⟩ := hb9.cells
                refine bodyPost_ret (v := .tuple #[.agg #[.int .i64 k, .string (B nm), .int .i64 i, .slice (some ⟨H + 1 + 1, 0, none⟩) tl tl], .int .i64 0]) ?_ rfl ?_
                · simp [results, Tryz.f100, go_sem, e0, e1, e2, e3]
                · exact ex_fin (r0 := H + 1) (by rw [HB.out]) (by rw [HB.out]; exact Rep.weaken (fun b _ e => by rcases e with e | e; (exact .inl e); exact .inr (.inr e)) _ _ (hnc.on hU910)) (by rw [HB.out]; exact hXc.kept hU910) (hUwc.trans hU910 (fun _ _ e => e.elim)) hset (by have := HH.out; omega) (by have := HH.out; omega)
          case true =>
            obtain ⟨m, hsl⟩ : ∃ m, slv l k i = some m := by
              have h := HSB.out
              cases hh : slv l k i with
              | none => rw [hh] at h; cases h
              | some m => exact ⟨m, rfl⟩
            obtain ⟨hk, hi0, hil, hget, hml, hmv⟩ := slv_some hsl
            obtain ⟨p, rfl⟩ : ∃ p : Nat, i = (p : Int) := ⟨i.toNat, by omega⟩
            have hpl : p < l.length := by omega
            have hm : m = l[p] := by
              rw [Int.toNat_natCast, List.getElem?_eq_getElem hpl] at hget
              exact (Option.some.inj hget).symm
            subst hm
            have hR2 : R = exR l n l[p] us cj := by rw [hRR, HGG.out, exG_some hsl]; rfl
            have hpn : p < ll := by have := HL.out.2; omega
            obtain ⟨b2, o2, k2, n2, ix2, aa2, cap2, va2, vc2, rfl, hb2, hb2O, ⟨c0, c1, c2, c3, c4, c5⟩, hRt2, hvc2, hV2⟩ := arg_mv hLc p hpl
            have hd : Upto none' wd wd.drew := (Upto.refl none' _).drew
            have hobs := (obj_six (by have h := HP.out.2.1; rw [hk] at h; exact h)).1
            have wk : ∀ b, b < wd.heap.size → (O b ∨ b = H ∨ b = H + 1) → (O b ∨ H ≤ b) := fun b _ e => by rcases e with e | e | e; (exact .inl e); all_goals exact .inr (by omega)
            have hm6 : Rep (fun b => O b ∨ b = H ∨ b = H + 1) wd.drew l[p].dat [.string (B l[p].name), .int .i64 k2, .string (B n2), .int .i64 ix2, .slice aa2 l[p].type.args.length cap2, .slice va2 l[p].value.length vc2] := rep_mv.2 ⟨[.int .i64 k2, .string (B n2), .int .i64 ix2, .slice aa2 l[p].type.args.length cap2], va2, vc2, rfl, (Rep.weaken wk _ _ hRt2).on hd, hvc2, (RepE.weaken wk _ _ _ _ hV2).on hd⟩
            have RPc := RP l[p] us cj xb (fun b => O b ∨ b = H ∨ b = H + 1) wd.drew (some ⟨b2, o2, none⟩) lc [.string (B l[p].name), .int .i64 k2, .string (B n2), .int .i64 ix2, .slice aa2 l[p].type.args.length cap2, .slice va2 l[p].value.length vc2] (some ⟨H + 1 + 1, 0, none⟩) tl
              (by have := HP.out.1; have := HA.out.2.2.1; omega) HA.out.2.1 hml hmv (by have := HU.out.1; omega) (by have := HU.out.1; omega)
              (fun u hu => ⟨(HU.out.2.2 u hu).2.1 hobs, (HU.out.2.2 u hu).1, (HU.out.2.2 u hu).2.2 hkna⟩) (.inl hOx) (fun b e => by have h0 := HP.out.2.2.1 b; have := hd.size; rcases e with e | e | e; (have := h0 e; omega); all_goals omega)
              (by rw [← HL.out.2]; exact hXc.kept hd) ((RepE.weaken wk _ _ _ _ hLc).on hd) hm6 (hrowc.on hd)
            rw [← HL.out.2, HU.out.1, ← hR2] at RPc
            have S0 : Et7 xb H b2 (o2 + p * 6) _ _ _ _ _ _ _ _ _ _ _ wd.drew := ⟨(hXc.kept hd).cells.1, (htc.kept hd).cells, hd.cell c0 (fun x => x), hd.cell c1 (fun x => x), hd.cell c2 (fun x => x), hd.cell c3 (fun x => x), hd.cell c4 (fun x => x), hd.cell c5 (fun x => x)⟩
            generalize l[p].type.args.length = al2 at *
            generalize l[p].value.length = vl2 at *
            generalize l[p].name = ln2 at *
            have n1 : ¬ xb = H + 1 := by omega
            have n2' : ¬ H = H + 1 := by omega
            have n4 : ¬ H = xb := by omega
            have n5 : ¬ b2 = xb := fun e => hb2O (.inl (e ▸ hOx))
            have n3 : ¬ b2 = H + 1 := fun e => hb2O (.inr (by omega))
            clear hRR hsl hget hmv hml hR2 hRt2 hV2 c0 c1 c2 c3 c4 c5 hobs hm6
            go_upto_region 12 with fail
            go_region_held3 (fun w' => Et7 xb H b2 (o2 + p * 6) (.slice (some ⟨b2, o2, none⟩) ll lc) (.int .i64 k) (.string (B nm)) (.int .i64 (p : Int)) (.slice (some ⟨H + 1 + 1, 0, none⟩) tl tl) (.string (B ln2)) (.int .i64 k2) (.string (B n2)) (.int .i64 ix2) (.slice aa2 al2 cap2) (.slice va2 vl2 vc2) w')
              (first | (with_reducible assumption) | (with_reducible exact S0) | (with_reducible exact Et7.set4 S9 n1 n2' n3 _ _ _ _))
              (first | ((go_at_call 176); (with_reducible refine RPc.mono ?_); rintro e w9 ⟨k9, i9, n9, a9, l9, c9, rfl, hR9, hX9, hU9⟩; have hr9 := (hrc.kept hd).keep hU9 (by omega); obtain ⟨y0, y1, y2, y3⟩ := hr9.cells; obtain ⟨z0, z1, z2, z3⟩ := hr9.frozens; have qr := hr9.lt; have S9 := Et7.keep S0 hU9 hX9.cells.1 n4 n5))
            all_goals
              have hset := hr9.set (d0 := .int .i64 k9) (d1 := .string (B n9)) (d2 := .int .i64 i9) (d3 := .slice a9 l9 c9)
              have HEE := hid hset
              have HRX := hid (And.intro hR9 (And.intro hX9 hU9))
              clear hset hR9 hX9 hU9 hr9
              go_wp2_with fail
              obtain ⟨hb9, hset⟩ := HEE.out
              obtain ⟨e0, e1, e2, e3⟩ := hb9.cells
              refine bodyPost_ret (v := .tuple #[.agg #[.int .i64 k9, .string (B n9), .int .i64 i9, .slice a9 l9 c9], .int .i64 R.e]) ?_ rfl ?_
              · simp [results, Tryz.f100, go_sem, e0, e1, e2, e3]
              · exact ex_fin (r0 := H + 1) rfl (Rep.weaken (fun b _ e => by rcases e with e | e; (exact .inl e); exact .inr (.inr e)) _ _ HRX.out.1) HRX.out.2.1 ((hUwc.trans hd (fun _ _ e => e.elim)).trans HRX.out.2.2 (fun _ _ e => e)) hset (by have := HH.out; omega) (by have := HH.out; omega)
end Go.Proofs.YtdomloghcpfdjaaGreatDoor
