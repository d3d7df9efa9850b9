/- meta.open. -/
import Derived.Test.YtdomloghcpfdjaaGreatDoorRCK
import Derived.Test.YtdomloghcpfdjaaGreatDoorRFA
import Derived.Test.YtdomloghcpfdjaaGreatDoorRFH
namespace Go.Proofs.YtdomloghcpfdjaaGreatDoor
open Go.RowKit Go.LF
theorem op_all (l : List Mv) (hP : Plz l) : ∀ R, ∀ u, OpOn l (cF l R) R u
  | 0, u => by
    intro tb eb lb vb ob M base la lc ks o kvs ov e G s W cs h1 h2 h3 h4 h5 h6 h7 h8
    have hm : Tm.metas u = [] := by
      cases hu : Tm.metas u with
      | nil => rfl
      | cons x xs => have := (h2 x (by rw [hu]; simp)).2.2; omega
    have := op_step l hP (fun _ s => s) 0 u (fun h => absurd hm h) tb eb lb vb ob M base la lc ks o kvs ov e G s W cs h1 (fun x hx => by rw [hm] at hx; cases hx) h3 h4 h5 h6 h7 h8
    rw [hm] at this ⊢
    exact this
  | R + 1, u => by
    have := op_step l hP (cF l R) R u (fun _ => op_all l hP R)
    rw [← colF_cF] at this
    exact this
theorem _root_.Go.LF.colL_snoc (l : List Mv) (d : Nat) (ts : List Tm) (t : Tm) : ∀ s, colL l d (ts ++ [t]) s = colF l d (Tm.metas t) (colL l d ts s) := by
  induction ts with
  | nil => intro s; rfl
  | cons x xs ih => intro s; exact ih _
theorem set_same13 {W : World} {g : Nat} {v : Value} {T : TypeId} (h : Box1 W g v T) : W.setCell ⟨g, 0, none⟩ v = W := by
  have h1 := h.set v
  have hh : (W.setCell ⟨g, 0, none⟩ v).heap = W.heap := by
    refine Array.ext_getElem? (fun i => ?_)
    by_cases hi : i = g
    · subst hi; exact h1.trans h.symm
    · exact RowKit.Below.heap_setCell _ _ _ _ hi
  have : W.setCell ⟨g, 0, none⟩ v = { W with heap := (W.setCell ⟨g, 0, none⟩ v).heap } := rfl
  rw [this, hh]
set_option maxRecDepth 100000 in
set_option maxHeartbeats 8000000 in
theorem open_any (l : List Mv) (hP : Plz l) (us : List Tm) (hus : ∀ u ∈ us, u.wt ≤ 1000000 ∧ ∀ i ∈ Tm.metas u, i < l.length) (hlen : us.length ≤ 1000) (w : World) (la : Option Addr) (lc : Nat) (ta : Option Addr) (tc : Nat) (hL : RepE none' w 6 (l.map Mv.dat) la 0) (hT : RepE none' w 4 (us.map Tm.dat) ta 0) :
    Calls Tryz.prog 104 #[.slice la l.length lc, .slice ta us.length tc] w fun x w' => ∃ (tb eb lb vb ob M base : Nat) (ks o : List Int) (kvs : List (Value × Value)) (ov : Value) (e : Int), x = .returned (.tuple #[ov, .map (some M), .int .i64 e]) ∧ OpW l tb eb lb vb ob M base la lc ks o kvs ov e w' ∧ w.heap.size ≤ base ∧ Hs (colL l l.length us ⟨[], 0⟩) ks o e [] ∧ Upto none' w w' := by
  have hmm := @run_makeMap Tryz.prog
  obtain ⟨H, hH⟩ : ∃ H, H = w.heap.size := ⟨_, rfl⟩
  obtain ⟨w6, hw6⟩ : ∃ w6, w6 = (((((w.alloc (.cells #[.slice la l.length lc] 44)).alloc (.cells #[.slice none 0 0] 22)).alloc (.cells #[.map (some (H + 1 + 1 + 1 + 1))] 130)).alloc (.cells #[.int .i64 0] 36)).alloc (.map #[] 0)).alloc (.cells #[opV (H + 1 + 1) (H + 1 + 1 + 1) H (H + 1 + 1 + 1 + 1 + 1) (H + 1)] 136) := ⟨_, rfl⟩
  have hU6 : Upto none' w w6 := by rw [hw6]; exact ((((((Upto.refl none' w).alloc _).alloc _).alloc _).alloc _).alloc _).alloc _
  have hz6 : w6.heap.size = H + 1 + 1 + 1 + 1 + 1 + 1 := by rw [hw6, hH]; simp
  have hV6 : OpW l (H + 1 + 1) (H + 1 + 1 + 1) H (H + 1 + 1 + 1 + 1 + 1) (H + 1) (H + 1 + 1 + 1 + 1) (H + 1 + 1 + 1 + 1 + 1 + 1) la lc [] [] [] (.slice none 0 0) 0 w6 := by
    have al : ∀ (W : World) (o : Obj), Upto none' W (W.alloc o) := fun W o => (Upto.refl none' W).alloc o
    rw [hw6]
    refine ⟨?_, ?_, ?_, ?_, ?_, ?_, World.ownsRow_nil _ _ _ _, rfl, fun x h => (by cases h), fun x h => (by cases h), ⟨by omega, by omega, by omega, by omega, by omega, by omega⟩, ⟨⟨by omega, by omega, by omega, by omega, by omega⟩, ⟨by omega, by omega, by omega, by omega⟩, by omega, by omega, by omega⟩, unseen_nil l, Nat.le_refl _, fun x h => (by cases h)⟩
    · exact (((Box1.at_new (by simp [hH])).kept (al _ _)).kept (al _ _)).kept (al _ _)
    · exact ((Box1.at_new (by simp [hH])).kept (al _ _)).kept (al _ _)
    · exact (((((Box1.at_new hH.symm).kept (al _ _)).kept (al _ _)).kept (al _ _)).kept (al _ _)).kept (al _ _)
    · exact Box1.at_new (by simp [hH])
    · exact ((((Box1.at_new (by simp [hH])).kept (al _ _)).kept (al _ _)).kept (al _ _)).kept (al _ _)
    · have h := MapIs.made ((((w.alloc (.cells #[.slice la l.length lc] 44)).alloc (.cells #[.slice none 0 0] 22)).alloc (.cells #[.map (some (H + 1 + 1 + 1 + 1))] 130)).alloc (.cells #[.int .i64 0] 36))
      rw [show ((((w.alloc (.cells #[.slice la l.length lc] 44)).alloc (.cells #[.slice none 0 0] 22)).alloc (.cells #[.map (some (H + 1 + 1 + 1 + 1))] 130)).alloc (.cells #[.int .i64 0] 36)).heap.size = H + 1 + 1 + 1 + 1 by simp [hH]] at h
      exact h.on (al _ _) (fun x => x)
  have hs6 : Hs ⟨[], 0⟩ [] [] 0 [] := ⟨rfl, fun _ => ⟨rfl, fun x => by simp⟩⟩
  have cg : ∀ v : Value, (∀ b, v.ownBlock = some b → H ≤ b) → ∀ b, Chg (H + 1 + 1 + 1) (H + 1 + 1 + 1 + 1) (H + 1) v b → H ≤ b := fun v hv b e => by
    rcases e with e | e | e | e
    · omega
    · omega
    · omega
    · exact hv b e
  have hL6 := (RepE.fresh' _ _ _ _ hL).on hU6
  have hT6 := (RepE.fresh' _ _ _ _ hT).on hU6
  rw [← hH] at hL6 hT6
  have HW := hid hw6
  have HH := hid hH
  have HU6 := hid hU6
  obtain ⟨tl, htl⟩ : ∃ tl, tl = us.length := ⟨_, rfl⟩
  rw [← htl] at hlen
  rw [← htl]
  have HTL := hid htl
  have HUS := hid hus
  have hcall : ∀ args w, Sem.run Tryz.prog (callFunc 177 args) w = .ok (Next.enter 177 args) w := fun _ _ => by simp only [go_sem, Tryz.call177]
  have HS6 := hid hs6
  have HCG := hid cg
  clear hw6 hH hL hT hus htl hs6 cg hU6
  go_enter Tryz.func104, Tryz.ntmps104
  go_upto_region 4 with fail
  rw [← HH.out, ← HW.out]
  clear hmm
  go_wp2_with fail
  go_loopw [14] (fun v14 wr => ∃ (j : Nat) (ks o : List Int) (kvs : List (Value × Value)) (ov : Value) (e : Int), v14 = .int .i64 (j : Int) ∧ j ≤ tl ∧ OpW l (H + 1 + 1) (H + 1 + 1 + 1) H (H + 1 + 1 + 1 + 1 + 1) (H + 1) (H + 1 + 1 + 1 + 1) (H + 1 + 1 + 1 + 1 + 1 + 1) la lc ks o kvs ov e wr ∧ Hs (colL l l.length (us.take j) ⟨[], 0⟩) ks o e [] ∧ Upto (fun b => H ≤ b) w6 wr)
    (fun v14 _ => tl - (intOf v14).toNat)
  case atStart => exact ⟨0, [], [], [], _, 0, rfl, Nat.zero_le _, hV6, HS6.out, Upto.refl _ _⟩
  case round =>
    obtain ⟨j, ks, o, kvs, ov, e, rfl, hj, hV, hs, hU⟩ := hrel
    have hzr := hU.size
    have hjm : (j : Int) ≤ 1000 := by omega
    have c7 := hV.vis.cell
    by_cases hlt : j < tl
    · have hjl : j < us.length := by have := HTL.out; omega
      obtain ⟨eb, eo, ek, en, ex, es, ec, rfl, hebl, _, p0, p1, p2, p3, hRp⟩ := arg_tm (RepE.keep hU (fun b e => .inr e) _ _ _ _ hT6) j hjl
      have hj1 : (j : Int) < (tl : Int) := by omega
      obtain ⟨u1, u2⟩ := HUS.out _ (List.getElem_mem hjl)
      have htk : colL l l.length (us.take (j + 1)) ⟨[], 0⟩ = cF l (l.length + 1) (Tm.metas us[j]) (colL l l.length (us.take j) ⟨[], 0⟩) := by
        rw [List.take_succ_eq_append_getElem hjl, colL_snoc]
        rfl
      obtain ⟨w4, hw4⟩ : ∃ w4, w4 = wr.alloc (.cells #[.int .i64 ek, .string (B en), .int .i64 ex, .slice es (us[j]'hjl).args.length ec] 29) := ⟨_, rfl⟩
      have hU4 : Upto none' wr w4 := by rw [hw4]; exact (Upto.refl none' wr).alloc _
      have hb4 : Box4 w4 wr.heap.size (.int .i64 ek) (.string (B en)) (.int .i64 ex) (.slice es (us[j]'hjl).args.length ec) 29 := by rw [hw4]; exact Box4.at_new rfl
      have hV4 := hV.on hU4
      have hov : ∀ b, ov.ownBlock = some b → H ≤ b := fun b e => by have := (hV.row.lt b e).1; omega
      have IH := op_all l hP (l.length + 1) (us[j]'hjl) _ _ _ _ _ _ _ la lc ks o kvs ov e [] _ w4 _ u1 (bel_top l (fun x hx => ⟨(metas_ge x hx).1, u2 x hx⟩)) (fun x _ g hg => by cases hg) hV4 (by have := hU4.size; omega) hs
        ((RepE.weaken (fun b _ e => .inr (HCG.out _ hov b e)) _ _ _ _ (RepE.keep hU (fun b e => .inr e) _ _ _ _ hL6)).on hU4) ((Rep.weaken (fun _ _ e => e.elim) _ _ hRp).on hU4)
      rw [← htk] at IH
      generalize (us[j]'hjl).args.length = el at *
      have HW4 := hid hw4
      obtain ⟨P, hPz⟩ : ∃ P, P = wr.heap.size := ⟨_, rfl⟩
      rw [← hPz] at hb4
      have HPz := hid hPz
      have HOV := hid hov
      clear hw4 hRp hebl hPz htk hs hov u2
      go_upto_region 7 with fail
      rw [← HPz.out, ← HW4.out]
      clear p0 p1 p2 p3 c7
      obtain ⟨p0, p1, p2, p3⟩ := hb4.cells
      have c7 := hV4.vis.cell
      go_wp2_with fail
      (with_reducible refine IH.mono ?_)
      rintro e9 w9 ⟨rfl, ks9, o9, kv9, ov9, x9, hV9, hs9, hU9, ho9, hg9⟩
      have HS9 := hid hs9
      clear hs9 IH p0 p1 p2 p3 c7
      go_wp2_with fail
      go_roundw
      case rel => exact ⟨j + 1, ks9, o9, kv9, ov9, x9, by go_num, by omega, hV9, HS9.out, (hU.trans hU4 (fun _ _ e => e.elim)).trans hU9 (fun b _ e => HCG.out _ HOV.out b e)⟩
      case measure => simp [intOf]; omega
    · have hje : us.take j = us := List.take_of_length_le (by have := HTL.out; omega)
      rw [hje] at hs
      have HS := hid hs
      have k1 := hV.ord.cell
      have k2 := hV.typ.cell
      have k3 := hV.err.cell
      have f1 := hV.ord.frozen
      have f2 := hV.typ.frozen
      have f3 := hV.err.frozen
      have l1 := hV.ord.lt
      have l2 := hV.typ.lt
      have l3 := hV.err.lt
      obtain ⟨oa, oc, rfl, _, _⟩ := ints_open hV.row.rep
      generalize o.length = olen at *
      have hVd := hV.on (Upto.refl none' wr).drew
      have e1 := set_same13 hV.ord
      have e2 := set_same13 hV.typ
      have e3 := set_same13 hV.err
      have HE := hid (And.intro e1 (And.intro e2 e3))
      have Sd : wr.drew.cell? ⟨H + 1, 0, none⟩ = some (.slice oa olen oc) ∧ wr.drew.cell? ⟨H + 1 + 1, 0, none⟩ = some (.map (some (H + 1 + 1 + 1 + 1))) ∧ wr.drew.cell? ⟨H + 1 + 1 + 1, 0, none⟩ = some (.int .i64 e) := ⟨hVd.ord.cell, hVd.typ.cell, hVd.err.cell⟩
      have g1 := hVd.ord.frozen
      have g2 := hVd.typ.frozen
      have g3 := hVd.err.frozen
      have q1 := hVd.ord.lt
      have q2 := hVd.typ.lt
      have q3 := hVd.err.lt
      have k1' := hVd.ord.cell
      have k2' := hVd.typ.cell
      have k3' := hVd.err.cell
      clear e1 e2 e3
      clear hs c7
      go_wp2_with fail
      go_region_held3 (fun w' => w'.cell? ⟨H + 1, 0, none⟩ = some (.slice oa olen oc) ∧ w'.cell? ⟨H + 1 + 1, 0, none⟩ = some (.map (some (H + 1 + 1 + 1 + 1))) ∧ w'.cell? ⟨H + 1 + 1 + 1, 0, none⟩ = some (.int .i64 e))
        (first | (with_reducible assumption) | (with_reducible exact Sd) | ((try simp only [HE.out.1, HE.out.2.1, HE.out.2.2]); with_reducible exact Sd))
        (first | fail)
      all_goals
        go_wp2_with fail
        simp only [HE.out.1, HE.out.2.1, HE.out.2.2]
        refine bodyPost_ret (v := .tuple #[.slice oa olen oc, .map (some (H + 1 + 1 + 1 + 1)), .int .i64 e]) ?_ rfl ?_
        · simp [results, Tryz.f104, go_sem, k1', k2', k3']
        · exact ⟨_, _, _, _, _, _, _, ks, o, kvs, _, e, rfl, hVd, by have := HH.out; omega, HS.out, ((HU6.out.mono (fun _ _ e => e.elim)).trans hU (fun b hb e => by have := HH.out; omega)).drew⟩
end Go.Proofs.YtdomloghcpfdjaaGreatDoor
namespace Go.LF
open Tm Go.Proofs.YtdomloghcpfdjaaGreatDoor
/-- The unsolved metavariables of the expansions of terms, or an error. -/
def unsS (l : List Mv) (ts : List Tm) : Ord := colL l l.length (allR l ts) ⟨[], 0⟩
def unsE (l : List Mv) (ts : List Tm) : Int := if allE l ts ≠ 0 then allE l ts else (unsS l ts).e
def unsO (l : List Mv) (ts : List Tm) : List Int := if unsE l ts = 0 then (unsS l ts).o else []
theorem allE_each (l : List Mv) : ∀ (ts : List Tm), allE l ts = 0 → ∀ t ∈ ts, expE l t = 0
  | t :: ts, h, u, hu => by
    rw [allE] at h
    by_cases h0 : expE l t ≠ 0
    · rw [if_pos h0] at h; exact absurd h h0
    · rw [if_neg h0] at h
      rcases List.mem_cons.1 hu with rfl | hu
      · omega
      · exact allE_each l ts h u hu
theorem expT_parts {l : List Mv} (hP : Plz l) {t : Tm} (h : expE l t = 0) : (expT l t).wf = 0 ∧ (expT l t).wt ≤ 1000000 ∧ ∀ i ∈ Tm.metas (expT l t), i < l.length := by
  obtain ⟨h1, h2, h3⟩ := expE_wf h
  have hw : (expT l t).wf = 0 := by unfold expT; rw [if_pos h]; exact exF_wf l 16385 t 0 h1 h3
  refine ⟨hw, by have := Tm.wf_wt65 hw; omega, ?_⟩
  unfold expT
  rw [if_pos h]
  exact exp_rch l 16385 t (fun i => i < l.length) (fun i _ j hj => succ_lt hP.good i j hj) h2 h1 hP.vals 0 h3
theorem allR_parts {l : List Mv} (hP : Plz l) {ts : List Tm} : ∀ u ∈ allR l ts, u.wt ≤ 1000000 ∧ ∀ i ∈ Tm.metas u, i < l.length := by
  intro u hu
  unfold allR at hu
  by_cases h : allE l ts = 0
  · rw [if_pos h] at hu
    obtain ⟨t, ht, rfl⟩ := List.mem_map.1 hu
    exact (expT_parts hP (allE_each l ts h t ht)).2
  · rw [if_neg h] at hu; cases hu
theorem allR_len (l : List Mv) (ts : List Tm) : (allR l ts).length ≤ ts.length := by unfold allR; split <;> simp
end Go.LF
namespace Go.Proofs.YtdomloghcpfdjaaGreatDoor
open Go.RowKit Go.LF
/-- Numbers and an error are handed back. -/
def GivesI (E : Int) (is : List Int) (w : World) (e : Ending) (w' : World) : Prop :=
  ∃ (a : Option Addr) (cap : Nat), e = .returned (.tuple #[.slice a is.length cap, .int .i64 E]) ∧ is.length ≤ cap ∧ RepE none' w' 1 (is.map (Dat.int .i64)) a 0 ∧ Upto none' w w'
set_option maxRecDepth 100000 in
set_option maxHeartbeats 8000000 in
theorem unsolved_any (l : List Mv) (hP : Plz l) (ts : List Tm) (hts : ∀ t ∈ ts, t.wt ≤ 1000000 ∧ (t.wf = 0 → (∀ i ∈ Tm.metas t, i < l.length) → Kn l.length t)) (hlen : ts.length ≤ 1000) (w : World) (la : Option Addr) (lc : Nat) (ta : Option Addr) (tc : Nat) (hL : RepE none' w 6 (l.map Mv.dat) la 0) (hT : RepE none' w 4 (ts.map Tm.dat) ta 0) :
    Calls Tryz.prog 38 #[.slice la l.length lc, .slice ta ts.length tc] w (GivesI (unsE l ts) (unsO l ts) w) := by
  have AL := metaAll_any none' l hP.good ts hts hlen w (fun _ e => e.elim) la lc ta tc hL hT
  have hpar := @allR_parts l hP ts
  have hal := allR_len l ts
  obtain ⟨E, hE⟩ : ∃ E, E = unsE l ts := ⟨_, rfl⟩
  obtain ⟨O, hO⟩ : ∃ O, O = unsO l ts := ⟨_, rfl⟩
  rw [← hE, ← hO]
  unfold unsO at hO
  rw [← hE] at hO
  unfold unsE at hE
  unfold unsS at hE hO
  generalize allE l ts = A at *
  generalize allR l ts = us at *
  obtain ⟨S, hS⟩ : ∃ S, S = colL l l.length us ⟨[], 0⟩ := ⟨_, rfl⟩
  have OP := fun (W : World) (h1 : Upto none' w W) ua uc h2 => open_any l hP us hpar (by omega) W la lc ua uc (hL.on h1) h2
  rw [← hS] at hE hO OP
  have HE := hid (And.intro hE hO)
  have HUL := hid (And.intro hal hpar)
  obtain ⟨ll, hll⟩ : ∃ ll, ll = l.length := ⟨_, rfl⟩
  rw [← hll] at AL
  rw [← hll]
  have HLL := hid hll
  clear hE hO hS hpar hal hll hL hT
  go_enter Tryz.func38, Tryz.ntmps38
  go_wp2_with fail
  (with_reducible refine AL.mono ?_)
  rintro e w2 ⟨ua, uc, rfl, huc, hUe, hU2, _⟩
  by_cases hA : A = 0
  case neg =>
    have he : (A != 0) = true := by simpa using hA
    have h1 : E = A := by rw [HE.out.1, if_pos hA]
    have h2 : O = [] := by rw [HE.out.2, if_neg (by rw [h1]; exact hA)]
    have HF := hid (And.intro h1 h2)
    clear h1 h2 hA OP AL
    go_wp2_with fail
    refine bodyPost_ret (v := .tuple #[.slice none 0 0, .int .i64 A]) (by simp [results, Tryz.f38, go_sem]) rfl ?_
    exact ⟨none, 0, by rw [HF.out.1, HF.out.2]; rfl, by rw [HF.out.2]; exact Nat.le_refl _, by rw [HF.out.2]; exact repE_of _ _ _ (fun i hi => by simp at hi), hU2⟩
  case pos =>
    subst hA
    have h1 : E = S.e := by rw [HE.out.1, if_neg (by simp)]
    have HE1 := hid h1
    have OPx := OP w2 hU2 ua uc hUe
    rw [← HLL.out] at OPx
    obtain ⟨ul, hul⟩ : ∃ ul, ul = us.length := ⟨_, rfl⟩
    rw [← hul] at OPx
    rw [← hul]
    clear h1 AL OP hul
    go_wp2_with fail
    (with_reducible refine OPx.mono ?_)
    rintro e w3 ⟨tb, eb, lb, vb, ob, M, base, ks, o, kvs, ov, x, rfl, hV, hbz, hs, hU3⟩
    obtain ⟨oa, oc, rfl, hoc, hOe⟩ := ints_open hV.row.rep
    have hx : x = S.e := hs.1.symm
    have HX := hid hx
    have HS := hid hs
    have HV := hid (And.intro hV (And.intro hoc hOe))
    clear hs hx OPx hV hoc hOe
    by_cases hx0 : x = 0
    case neg =>
      have he : (x != 0) = true := by simpa using hx0
      have h1 : E = x := by rw [HE1.out, HX.out]
      have h2 : O = [] := by rw [HE.out.2, if_neg (by rw [h1]; exact hx0)]
      have HF := hid (And.intro h1 h2)
      clear h1 h2 hx0
      go_wp2_with fail
      refine bodyPost_ret (v := .tuple #[.slice none 0 0, .int .i64 x]) (by simp [results, Tryz.f38, go_sem]) rfl ?_
      exact ⟨none, 0, by rw [HF.out.1, HF.out.2]; rfl, by rw [HF.out.2]; exact Nat.le_refl _, by rw [HF.out.2]; exact repE_of _ _ _ (fun i hi => by simp at hi), hU2.and hU3⟩
    case pos =>
      subst hx0
      have h1 : E = 0 := by rw [HE1.out, ← HX.out]
      have h2 : O = o := by rw [HE.out.2, if_pos h1]; exact (HS.out.2 rfl).1
      have HF := hid (And.intro h1 h2)
      clear h1 h2
      generalize hol : o.length = olen at *
      have HOL := hid hol
      clear hol
      go_wp2_with fail
      refine bodyPost_ret (v := .tuple #[.slice oa olen oc, .int .i64 0]) (by simp [results, Tryz.f38, go_sem]) rfl ?_
      exact ⟨oa, oc, by rw [HF.out.1, HF.out.2, HOL.out], by rw [HF.out.2]; rw [HOL.out]; exact HV.out.2.1, by rw [HF.out.2]; exact RepE.weaken (fun _ _ e => e.elim) _ _ _ _ HV.out.2.2, hU2.and hU3⟩
end Go.Proofs.YtdomloghcpfdjaaGreatDoor
namespace Go.Proofs.YtdomloghcpfdjaaGreatDoor
open Go.RowKit Go.LF
/-- What stands behind these cells of a term lies in blocks from lo on, below hi; no two parts share a block. -/
inductive OwnT (W : World) : Nat → Nat → Tm → List Value → Prop
  | node {lo hi : Nat} (k : Int) (n : List UInt8) (i : Int) (ts : List Tm) (a : Option Addr) (cap : Nat) (m : Nat → Nat) (css : Nat → List Value) (hcap : ts.length ≤ cap) (h0 : lo ≤ m 0) (hm : ∀ j, j < ts.length → m j ≤ m (j + 1)) (hh : m ts.length ≤ hi)
      (hc : ∀ j, j < ts.length → ∃ g, a = some ⟨g, 0, none⟩ ∧ lo ≤ g ∧ g < m 0 ∧ (∀ o, W.frozen? ⟨g, o, none⟩ = false) ∧ (css j).length = 4 ∧ ∀ x v, (css j)[x]? = some v → W.cell? ⟨g, j * 4 + x, none⟩ = some v)
      (hs : ∀ j (h : j < ts.length), OwnT W (m j) (m (j + 1)) ts[j] (css j)) : OwnT W lo hi (.mk k n i ts) [.int .i64 k, .string (B n), .int .i64 i, .slice a ts.length cap]
theorem mono_le13 {m : Nat → Nat} {n : Nat} (hm : ∀ j, j < n → m j ≤ m (j + 1)) : ∀ j, j ≤ n → m 0 ≤ m j
  | 0, _ => Nat.le_refl _
  | j + 1, h => Nat.le_trans (mono_le13 hm j (by omega)) (hm j (by omega))
theorem mono_le13' {m : Nat → Nat} {n : Nat} (hm : ∀ j, j < n → m j ≤ m (j + 1)) (j : Nat) : ∀ d, j + d ≤ n → m j ≤ m (j + d)
  | 0, _ => Nat.le_refl _
  | d + 1, h => Nat.le_trans (mono_le13' hm j d (by omega)) (hm (j + d) (by omega))
theorem OwnT.keep {S : Nat → Prop} {W W' : World} {lo hi : Nat} {t : Tm} {cs : List Value} (h : OwnT W lo hi t cs) (hU : Upto S W W') : (∀ b, lo ≤ b → b < hi → ¬ S b) → OwnT W' lo hi t cs := by
  induction h with
  | node k n i ts a cap m css hcap h0 hm hh hc hs ih =>
    rename_i lo hi
    intro hS
    have h1 := mono_le13 hm ts.length (Nat.le_refl _)
    refine .node k n i ts a cap m css hcap h0 hm hh (fun j hj => ?_) (fun j hj => ih j hj (fun b hb1 hb2 => hS b ?_ ?_))
    · obtain ⟨g, e, g1, g2, gf, gl, gc⟩ := hc j hj
      have hgS : ¬ S g := hS g g1 (by omega)
      have hlt : g < W.heap.size := by
        have := gc 0 _ (List.getElem?_eq_getElem (by omega : 0 < (css j).length))
        exact World.block_lt_of_cell? W _ this
      exact ⟨g, e, g1, g2, fun o => by rw [hU.cells.2 g o hlt hgS]; exact gf o, gl, fun x v hv => hU.cell (gc x v hv) hgS⟩
    · have := mono_le13 hm j (by omega); omega
    · have := mono_le13' hm (j + 1) (ts.length - (j + 1)) (by omega)
      rw [show j + 1 + (ts.length - (j + 1)) = ts.length by omega] at this
      omega
theorem OwnT.widen {W : World} {lo hi lo' hi' : Nat} {t : Tm} {cs : List Value} (h : OwnT W lo hi t cs) (h1 : lo' ≤ lo) (h2 : hi ≤ hi') : OwnT W lo' hi' t cs := by
  cases h with
  | node k n i ts a cap m css hcap h0 hm hh hc hs =>
    exact .node k n i ts a cap m css hcap (by omega) hm (by omega) (fun j hj => by
      obtain ⟨g, e, g1, g2, gf, gl, gc⟩ := hc j hj
      exact ⟨g, e, by omega, g2, gf, gl, gc⟩) hs
theorem OwnT.rep {W : World} {lo hi : Nat} {t : Tm} {cs : List Value} (h : OwnT W lo hi t cs) : Rep (fun b => b < lo ∨ hi ≤ b) W t.dat cs := by
  induction h with
  | node k n i ts a cap m css hcap h0 hm hh hc hs ih =>
    rename_i lo hi
    have h1 := mono_le13 hm ts.length (Nat.le_refl _)
    refine rep_tm.2 ⟨a, cap, rfl, hcap, repE_of _ _ _ (fun j hj => ?_)⟩
    simp only [List.length_map] at hj
    obtain ⟨g, e, g1, g2, gf, gl, gc⟩ := hc j hj
    have hlt : g < W.heap.size := by
      have := gc 0 _ (List.getElem?_eq_getElem (by omega : 0 < (css j).length))
      exact World.block_lt_of_cell? W _ this
    refine ⟨g, 0, css j, e, hlt, by omega, gl, fun x v hv => ?_, ?_⟩
    · rw [show 0 + 0 + j * 4 + x = j * 4 + x by omega]
      exact gc x v hv
    · simp only [List.getElem_map]
      refine Rep.weaken (fun b _ e => ?_) _ _ (ih j hj)
      have h2 := mono_le13 hm j (by omega)
      have h3 := mono_le13' hm (j + 1) (ts.length - (j + 1)) (by omega)
      rw [show j + 1 + (ts.length - (j + 1)) = ts.length by omega] at h3
      omega
/-- The first terms of a row that lie so. -/
def OwnR (W : World) (a : Option Addr) (lo : Nat) (us : List Tm) (m : Nat → Nat) (css : Nat → List Value) : Prop :=
  lo ≤ m 0 ∧ ∀ j (h : j < us.length), m j ≤ m (j + 1) ∧ OwnT W (m j) (m (j + 1)) us[j] (css j) ∧ ∃ g, a = some ⟨g, 0, none⟩ ∧ lo ≤ g ∧ g < m 0 ∧ (∀ o, W.frozen? ⟨g, o, none⟩ = false) ∧ (css j).length = 4 ∧ ∀ x v, (css j)[x]? = some v → W.cell? ⟨g, j * 4 + x, none⟩ = some v
section
variable {W W' : World} {a : Option Addr} {lo hi : Nat} {us : List Tm} {m : Nat → Nat} {css : Nat → List Value}
theorem OwnR.node (h : OwnR W a lo us m css) (k : Int) (n : List UInt8) (i : Int) {cap : Nat} (hcap : us.length ≤ cap) (hh : m us.length ≤ hi) : OwnT W lo hi (.mk k n i us) [.int .i64 k, .string (B n), .int .i64 i, .slice a us.length cap] :=
  .node k n i us a cap m css hcap h.1 (fun j hj => (h.2 j hj).1) hh (fun j hj => (h.2 j hj).2.2) (fun j hj => (h.2 j hj).2.1)
theorem OwnR.keep {S : Nat → Prop} (h : OwnR W a lo us m css) (hU : Upto S W W') (hS : ∀ b, lo ≤ b → b < m us.length → ¬ S b) : OwnR W' a lo us m css := by
  have hm : ∀ j, j < us.length → m j ≤ m (j + 1) := fun j hj => (h.2 j hj).1
  refine ⟨h.1, fun j hj => ?_⟩
  obtain ⟨h1, h2, g, e, g1, g2, gf, gl, gc⟩ := h.2 j hj
  have k1 := mono_le13 hm j (by omega)
  have k2 := mono_le13' hm (j + 1) (us.length - (j + 1)) (by omega)
  rw [show j + 1 + (us.length - (j + 1)) = us.length by omega] at k2
  have h0 := h.1
  have hgS : ¬ S g := hS g g1 (by omega)
  have hlt : g < W.heap.size := World.block_lt_of_cell? W _ (gc 0 _ (List.getElem?_eq_getElem (by omega : 0 < (css j).length)))
  exact ⟨h1, h2.keep hU (fun b b1 b2 => hS b (by omega) (by omega)), g, e, g1, g2, fun o => by rw [hU.cells.2 g o hlt hgS]; exact gf o, gl, fun x v hv => hU.cell (gc x v hv) hgS⟩
/-- A term more. -/
theorem OwnR.next {g q0 q1 : Nat} {u : Tm} {d0 d1 d2 d3 : Value} (h : OwnR W (some ⟨g, 0, none⟩) lo us m css) (hg : lo ≤ g ∧ g < m 0) (_hlt : g < W.heap.size) (hfr : ∀ o, W.frozen? ⟨g, o, none⟩ = false) (hcell : ∀ x, x < 4 → ∃ u, W.cell? ⟨g, us.length * 4 + x, none⟩ = some u) (hq : m us.length ≤ q0) (hq1 : q0 ≤ q1)
    (hu : OwnT W q0 q1 u [d0, d1, d2, d3]) (hW : W' = (((W.setCell ⟨g, us.length * 4, none⟩ d0).setCell ⟨g, us.length * 4 + 1, none⟩ d1).setCell ⟨g, us.length * 4 + 2, none⟩ d2).setCell ⟨g, us.length * 4 + 3, none⟩ d3) :
    ∃ m' css', OwnR W' (some ⟨g, 0, none⟩) lo (us ++ [u]) m' css' ∧ m' 0 = m 0 ∧ m' (us.length + 1) = q1 := by
  obtain ⟨_, u0⟩ := hcell 0 (by omega)
  obtain ⟨_, u1⟩ := hcell 1 (by omega)
  obtain ⟨_, u2⟩ := hcell 2 (by omega)
  obtain ⟨_, u3⟩ := hcell 3 (by omega)
  obtain ⟨⟨v0, v1, v2, v3⟩, hoth, hU⟩ := set_cells (d0 := d0) (d1 := d1) (d2 := d2) (d3 := d3) u0 u1 u2 u3 hW
  have hm : ∀ j, j < us.length → m j ≤ m (j + 1) := fun j hj => (h.2 j hj).1
  have k0 := mono_le13 hm us.length (Nat.le_refl _)
  have hfr' : ∀ o, W'.frozen? ⟨g, o, none⟩ = false := fun o => by rw [hW]; simp only [World.frozen?_setCell]; exact hfr o
  refine ⟨fun j => if j ≤ us.length then m j else q1, fun j => if j < us.length then css j else [d0, d1, d2, d3], ⟨by simpa using h.1, fun j hj => ?_⟩, if_pos (Nat.zero_le _), if_neg (by omega)⟩
  by_cases hj1 : j < us.length
  · obtain ⟨h1, h2, g', e, g1, g2, gf, gl, gc⟩ := h.2 j hj1
    cases e
    have k1 := mono_le13 hm j (by omega)
    simp only [show j ≤ us.length by omega, show j + 1 ≤ us.length by omega, if_true, hj1, Nat.zero_le]
    refine ⟨h1, ?_, g, rfl, g1, g2, hfr', gl, fun x v hv => ?_⟩
    · rw [List.getElem_append_left hj1]
      exact h2.keep hU (fun b b1 b2 e => by omega)
    · have hx : x < 4 := by rw [← gl]; exact (List.getElem?_eq_some_iff.1 hv).1
      rw [hoth _ (by omega) (by omega) (by omega) (by omega)]
      exact gc x v hv
  · obtain rfl : j = us.length := by simp at hj; omega
    simp only [Nat.le_refl, if_true, show ¬ us.length + 1 ≤ us.length by omega, if_false, Nat.lt_irrefl, Nat.zero_le]
    refine ⟨by omega, ?_, g, rfl, hg.1, hg.2, hfr', rfl, fun x v hv => ?_⟩
    · simp only [List.getElem_append_right (Nat.le_refl _), Nat.sub_self, List.getElem_cons_zero]
      exact (hu.keep hU (fun b b1 b2 e => by omega)).widen hq (Nat.le_refl _)
    · match x, hv with
      | 0, hv => cases hv; exact v0
      | 1, hv => cases hv; exact v1
      | 2, hv => cases hv; exact v2
      | 3, hv => cases hv; exact v3
end
end Go.Proofs.YtdomloghcpfdjaaGreatDoor
namespace Go.Proofs.YtdomloghcpfdjaaGreatDoor
open Go.RowKit Go.LF
/-- A call hands back this term, its parts in new blocks, apart from each other. -/
def NewO (u : Tm) (w : World) (e : Ending) (w' : World) : Prop :=
  ∃ (k i : Int) (n : List UInt8) (a : Option Addr) (len cap : Nat), e = .returned (.agg #[.int .i64 k, .string (B n), .int .i64 i, .slice a len cap]) ∧ OwnT w' w.heap.size w'.heap.size u [.int .i64 k, .string (B n), .int .i64 i, .slice a len cap] ∧ Upto none' w w'
def NewOs (ts : List Tm) (w : World) (e : Ending) (w' : World) : Prop :=
  ∃ (a : Option Addr) (cap : Nat), e = .returned (.slice a ts.length cap) ∧ ts.length ≤ cap ∧ (∃ m css, OwnR w' a w.heap.size ts m css ∧ m ts.length ≤ w'.heap.size) ∧ Upto none' w w'
set_option maxRecDepth 100000 in
set_option maxHeartbeats 4000000 in
theorem dupEachO_step (ts : List Tm) (hl : ts.length ≤ 900000) (ih : ∀ t ∈ ts, ∀ (w : World) (cs : List Value), Rep none' w t.dat cs → Calls Tryz.prog 111 #[.agg cs.toArray] w (NewO t w))
    (w : World) (a : Option Addr) (cap : Nat) (hE : RepE none' w 4 (ts.map Tm.dat) a 0) :
    Calls Tryz.prog 224 #[.slice a ts.length cap, .func (.func 111) #[] #[]] w (NewOs ts w) := by
  obtain ⟨H, hH⟩ : ∃ H, H = w.heap.size := ⟨_, rfl⟩
  have CL := clone_any ts (fun x => H ≤ x) w a cap hl (RepE.weaken (fun b _ e => .inr (by omega)) _ _ _ _ (RepE.fresh' _ _ _ _ hE))
  obtain ⟨ul, hul⟩ : ∃ ul, ul = ts.length := ⟨_, rfl⟩
  rw [← hul] at CL
  rw [← hul]
  have HL := hid hul
  have HH := hid hH
  have hl3 : (ul : Int) ≤ 900000 := by omega
  clear hul hE
  go_enter Tryz.func224, Tryz.ntmps224
  go_wp2_with fail
  (with_reducible refine CL.mono ?_)
  rintro e w4 ⟨v, css, rfl, hS, hU4⟩
  obtain ⟨sa, sc, rfl, hsc, _⟩ := hS.cells
  rw [← hH] at hS
  have hM4 := RowM.start (okb := H) (lo := H) hS (fun b e => .inl (by omega))
  rw [← HL.out] at hsc
  rw [← HL.out]
  have hz4 := hU4.size
  rw [← hH] at hz4
  have hsa : ∀ g, 0 < ts.length → sa = some ⟨g, 0, none⟩ → H ≤ g ∧ g < w4.heap.size := fun g h e => by
    obtain ⟨g', cs', e', g1, g2, _⟩ := hM4 0 h
    rw [e] at e'
    cases e'
    exact ⟨g1, g2⟩
  obtain ⟨Z, hZ⟩ : ∃ Z, Z = w4.heap.size := ⟨_, rfl⟩
  rw [← hZ] at hsa
  have HZ := hid (And.intro hZ hsa)
  have hzH : H ≤ Z := by omega
  clear hS CL hH hZ hsa
  go_wp2_with fail
  go_loopw [12] (fun v12 wr => ∃ (j : Nat), v12 = .int .i64 (j : Int) ∧ j ≤ ul ∧ RowM H H H wr sa (ts.take j) ts ∧ Upto none' w wr ∧ ∃ m css, OwnR wr sa H (ts.take j) m css ∧ m 0 = Z ∧ m j ≤ wr.heap.size)
    (fun v12 _ => ul - (intOf v12).toNat)
  case atStart => exact ⟨0, rfl, Nat.zero_le _, hM4, hU4, fun _ => Z, fun _ => [], ⟨hzH, fun j h => by simp at h⟩, rfl, Nat.le_of_eq HZ.out.1⟩
  case round =>
    obtain ⟨j, rfl, hj, hM, hU, m, css, hO, hm0, hmj⟩ := hrel
    have u1 : (j : Int) ≤ 900000 := by omega
    by_cases hlt : (j : Int) < (ul : Int)
    · have hjl : j < ts.length := by have := HL.out; omega
      have htk : (ts.take j).length = j := by rw [List.length_take]; omega
      obtain ⟨g, cs, rfl, hgb, hgl, hgf, hgn, hgc, _, hgr⟩ := hM j hjl
      have hgZ := HZ.out.2 g (by omega) rfl
      have hRj := hgr hjl (by omega)
      have htk1 : ts.take (j + 1) = ts.take j ++ [ts[j]] := List.take_succ_eq_append_getElem hjl
      have IH0 := ih ts[j] (List.getElem_mem hjl)
      generalize ts[j] = tj at *
      obtain ⟨kj, nj, ij, lj, aj, cj, htj, rfl, _, _⟩ := tm_open hRj
      have g0 := hgc 0 _ rfl
      rw [Nat.add_zero] at g0
      have g1 := hgc 1 _ rfl
      have g2 := hgc 2 _ rfl
      have g3 := hgc 3 _ rfl
      generalize lj.length = ljl at *
      obtain ⟨wa, hwa⟩ : ∃ wa, wa = wr.alloc (.cells #[.int .i64 kj, .string (B nj), .int .i64 ij, .slice aj ljl cj] 29) := ⟨_, rfl⟩
      have hUa : Upto none' wr wa := by rw [hwa]; exact (Upto.refl none' wr).alloc _
      have hB : Box4 wa wr.heap.size (.int .i64 kj) (.string (B nj)) (.int .i64 ij) (.slice aj ljl cj) 29 := by rw [hwa]; exact Box4.at_new rfl
      have IH := IH0 wa _ ((rep_pre hRj).on hUa)
      obtain ⟨Q, hQ⟩ : ∃ Q, Q = wr.heap.size := ⟨_, rfl⟩
      rw [← hQ] at hB
      have HWA := hid hwa
      have HQ := hid hQ
      have HJ := hid (And.intro htk (And.intro hjl htk1))
      have hza := hUa.size
      clear hwa hQ hRj hgr hgc htj hgn htk htk1 IH0 hjl
      go_upto_region 5 with fail
      rw [← HWA.out, ← HQ.out]
      obtain ⟨b0, b1, b2, b3⟩ := hB.cells
      go_wp2_with fail
      (with_reducible refine IH.mono ?_)
      rintro e w6 ⟨k6, i6, n6, a6, l6, c6, rfl, hO6, hU6⟩
      have hR6 := hO6.rep
      have hU16 := hUa.and hU6
      have v0 := hU16.cell g0 (fun x => x)
      have v1 := hU16.cell g1 (fun x => x)
      have v2 := hU16.cell g2 (fun x => x)
      have v3 := hU16.cell g3 (fun x => x)
      have f6 := fun o => (hU16.cells.2 g o hgl (fun x => x)).trans (hgf o)
      have hM6 := hM.kept hU16
      have hnx := RowM.next (u := tj) (d0 := .int .i64 k6) (d1 := .string (B n6)) (d2 := .int .i64 i6) (d3 := .slice a6 l6 c6) hM6 (by rw [HJ.out.1]; exact HJ.out.2.1) (Nat.le_refl _) (Rep.weaken (fun b _ e => by omega) _ _ hR6) rfl
      have hO6' := hO.keep hU16 (fun _ _ _ x => x)
      have hz16 := hU16.size
      have hno := OwnR.next (d0 := .int .i64 k6) (d1 := .string (B n6)) (d2 := .int .i64 i6) (d3 := .slice a6 l6 c6) hO6' (by rw [hm0]; exact hgZ) (Nat.lt_of_lt_of_le hgl hU16.size) f6
        (fun x hx => by
          rw [HJ.out.1]
          match x, hx with
          | 0, _ => exact ⟨_, v0⟩
          | 1, _ => exact ⟨_, v1⟩
          | 2, _ => exact ⟨_, v2⟩
          | 3, _ => exact ⟨_, v3⟩) (by rw [HJ.out.1]; omega) hU6.size hO6 rfl
      rw [HJ.out.1, ← HJ.out.2.2] at hnx hno
      have HNO := hid hno
      have hU9 : Upto none' w _ := (hU.and hU16).trans hnx.2 (fun x hx e => by have := HH.out; omega)
      have hgl6 : g < w6.heap.size := Nat.lt_of_lt_of_le hgl hU16.size
      clear hM6 hM hR6 hU6 hU16 hno hO6 hO6' hO g0 g1 g2 g3 b0 b1 b2 b3 IH hB hUa
      go_wp2_with fail
      go_roundw
      case rel =>
        obtain ⟨m', css', h1, h2, h3⟩ := HNO.out
        exact ⟨j + 1, by go_num, by omega, hnx.1, hU9, m', css', h1, by rw [h2, hm0], by rw [h3]; exact hnx.2.size⟩
      case measure => simp [intOf]; omega
    · have hje : j = ts.length := by have := HL.out; omega
      rw [hje, List.take_length] at hO
      rw [hje] at hmj
      have HJ := hid (And.intro hO hmj)
      clear hje hM hO hmj
      go_wp2_with fail
      go_ret
      exact ⟨sa, sc, by rw [HL.out]; rfl, by rw [← HL.out]; exact hsc, ⟨m, css, by rw [← HH.out]; exact HJ.out.1, HJ.out.2⟩, hU⟩
set_option maxRecDepth 100000 in
set_option maxHeartbeats 4000000 in
theorem dupTermsO_step (ts : List Tm) (hl : ts.length ≤ 900000) (ih : ∀ t ∈ ts, ∀ (w : World) (cs : List Value), Rep none' w t.dat cs → Calls Tryz.prog 111 #[.agg cs.toArray] w (NewO t w))
    (w : World) (a : Option Addr) (cap : Nat) (hE : RepE none' w 4 (ts.map Tm.dat) a 0) : Calls Tryz.prog 181 #[.slice a ts.length cap] w (NewOs ts w) := by
  have EA := dupEachO_step ts hl ih w a cap hE
  obtain ⟨ul, hul⟩ : ∃ ul, ul = ts.length := ⟨_, rfl⟩
  rw [← hul] at EA
  rw [← hul]
  have HL := hid hul
  clear hul
  go_enter Tryz.func181, Tryz.ntmps181
  go_wp2_with fail
  (with_reducible refine EA.mono ?_)
  rintro e w4 ⟨sa, sc, rfl, hsc, hR, hU4⟩
  go_wp2_with fail
  go_ret
  exact ⟨sa, sc, rfl, hsc, hR, hU4⟩
set_option maxRecDepth 100000 in
set_option maxHeartbeats 4000000 in
theorem dupTermO_any (t : Tm) : t.size ≤ 900000 → ∀ (w : World) (cs : List Value), Rep none' w t.dat cs → Calls Tryz.prog 111 #[.agg cs.toArray] w (NewO t w) := by
  induction t using Tm.ind with
  | h k n i ts ih =>
    intro hs w cs hR
    obtain ⟨a, cap, rfl, hcap, hE⟩ := rep_tm.1 hR
    have hlen := Tm.length_le_sizes ts
    rw [Tm.size_mk] at hs
    obtain ⟨w1, hw1⟩ : ∃ w1, w1 = (w.alloc (.cells #[.int .i64 k, .string (B n), .int .i64 i, .slice a ts.length cap] 29)).alloc (.cells #[.int .i64 0, .string (B []), .int .i64 0, .slice none 0 0] 29) := ⟨_, rfl⟩
    have hU1 : Upto none' w w1 := by rw [hw1]; exact ((Upto.refl none' w).alloc _).alloc _
    have ha1 : Box4 w1 w.heap.size (.int .i64 k) (.string (B n)) (.int .i64 i) (.slice a ts.length cap) 29 := by rw [hw1]; exact (Box4.at_new rfl).kept ((Upto.refl none' _).alloc _)
    have hr1 : Box4 w1 (w.heap.size + 1) (.int .i64 0) (.string (B [])) (.int .i64 0) (.slice none 0 0) 29 := by rw [hw1]; exact Box4.at_new (by simp)
    have TS := dupTermsO_step ts (by omega) (fun t ht => ih t ht (by have := Tm.size_le_sizes ht; omega)) w1 a cap (hE.on hU1)
    obtain ⟨ul, hul⟩ : ∃ ul, ul = ts.length := ⟨_, rfl⟩
    rw [← hul] at TS ha1 hw1
    rw [← hul]
    have HW := hid hw1
    obtain ⟨H, hH⟩ : ∃ H, H = w.heap.size := ⟨_, rfl⟩
    have HH := hid hH
    rw [← hH] at ha1 hr1
    have HL := hid hul
    have hz1 := hr1.lt
    clear hw1 hH hul hR hE hcap ih hs hlen
    obtain ⟨t0, t1, t2, t3⟩ := ha1.cells
    go_enter Tryz.func111, Tryz.ntmps111
    go_upto_region 1 with fail
    rw [← show B [] = { data := #[] } from rfl, ← HW.out, ← HH.out]
    go_wp2_with fail
    (with_reducible refine TS.mono ?_)
    rintro e w4 ⟨sa, sc, rfl, hsc, ⟨m, css, hOR, hmn⟩, hU4⟩
    rw [← HL.out] at hsc
    rw [← HL.out]
    have ha4 := ha1.kept hU4
    have hr4 := hr1.kept hU4
    obtain ⟨w5, hw5⟩ : ∃ w5, w5 = w4.setCell ⟨H, 3, none⟩ (.slice sa ul sc) := ⟨_, rfl⟩
    have hset5 : Upto (fun x => x = H) w4 w5 := by rw [hw5]; exact Upto.set (Upto.refl _ _) 3 _
    have ha5 : Box4 w5 H (.int .i64 k) (.string (B n)) (.int .i64 i) (.slice sa ul sc) 29 := by rw [hw5]; exact ha4.set3 _
    have hr5 := hr4.keep hset5 (by omega)
    have hset := hr5.set (d0 := .int .i64 k) (d1 := .string (B n)) (d2 := .int .i64 i) (d3 := .slice sa ul sc)
    obtain ⟨x0, x1, x2, x3⟩ := ha4.cells
    obtain ⟨y0, y1, y2, y3⟩ := ha4.frozens
    have hla := ha4.lt
    have hR5 : OwnT ((((w5.setCell ⟨H + 1, 0, none⟩ (.int .i64 k)).setCell ⟨H + 1, 1, none⟩ (.string (B n))).setCell ⟨H + 1, 2, none⟩ (.int .i64 i)).setCell ⟨H + 1, 3, none⟩ (.slice sa ul sc)) H ((((w5.setCell ⟨H + 1, 0, none⟩ (.int .i64 k)).setCell ⟨H + 1, 1, none⟩ (.string (B n))).setCell ⟨H + 1, 2, none⟩ (.int .i64 i)).setCell ⟨H + 1, 3, none⟩ (.slice sa ul sc)).heap.size (Tm.mk k n i ts) [.int .i64 k, .string (B n), .int .i64 i, .slice sa ul sc] := by
      have h1 := (hOR.keep hset5 (fun b b1 _ e => by omega)).keep hset.2 (fun b b1 _ e => by omega)
      have h2 := (h1.node k n i (cap := sc) (by rw [← HL.out]; exact hsc) (Nat.le_trans hmn (Nat.le_trans hset5.size hset.2.size))).widen (lo' := H) (by omega) (Nat.le_refl _)
      rw [← HL.out] at h2
      exact h2
    have HW5 := hid hw5
    have HR5 := hid (And.intro hR5 hset.2)
    obtain ⟨e0, e1, e2, e3⟩ := hset.1.cells
    have HE := hid (And.intro e0 (And.intro e1 (And.intro e2 e3)))
    clear hw5 e0 e1 e2 e3 hset hR5 hOR hmn t0 t1 t2 t3
    go_upto_region 2 with fail
    rw [← HW5.out]
    obtain ⟨p0, p1, p2, p3⟩ := ha5.cells
    obtain ⟨r0, r1, r2, r3⟩ := hr5.cells
    obtain ⟨f0, f1, f2, f3⟩ := hr5.frozens
    have hlr := hr5.lt
    go_wp2_with fail
    obtain ⟨e0, e1, e2, e3⟩ := HE.out
    refine bodyPost_ret (v := .agg #[.int .i64 k, .string (B n), .int .i64 i, .slice sa ul sc]) ?_ rfl ?_
    · simp [results, Tryz.f111, go_sem, e0, e1, e2, e3]
    · exact ⟨k, i, n, sa, ul, sc, rfl, by rw [← HH.out]; exact HR5.out.1, ((hU1.and hU4).trans hset5 (fun b hb e => by have := HH.out; omega)).trans HR5.out.2 (fun b hb e => by have := HH.out; omega)⟩
end Go.Proofs.YtdomloghcpfdjaaGreatDoor
