/- The reference's Occur, Strict, Patterns and Known. -/
import Derived.Test.YtadphaobbpngkaaCA
import Derived.Test.YtadphaobbpngkaaCH
import Derived.Test.YtadphaobbpngkaaCK
import Derived.Test.YtadphaobbpngkaaCN
import Derived.Test.YtadphaobbpngkaaCO
import Derived.Deep.RegionHeld3
namespace Go.Proofs.Ytadphaobbpngkaa
open Go.RowKit Go.LF
/-- A call hands back a row of truth values, in a new block. -/
def Bools (l : List Bool) (w : World) (e : Ending) (w' : World) : Prop :=
  ∃ q, e = .returned (.slice (some ⟨q, 0, none⟩) l.length l.length) ∧ BoolRow w' q l ∧ w.heap.size ≤ q ∧ Upto none' w w'
theorem upto_new {w a b : World} {q : Nat} (h : Upto none' w a) (k : Upto (fun x => x = q) a b) (hq : w.heap.size ≤ q) : Upto none' w b := h.trans k (fun x hx e => by omega)
/-- All that is marked is known. -/
def allK (known : List Bool) (j : Nat) : List Bool → Bool
  | [] => true
  | b :: bs => !(b && !kn known (j : Int)) && allK known (j + 1) bs
theorem allK_drop (known : List Bool) (l : List Bool) (j : Nat) (h : j < l.length) : allK known j (l.drop j) = (!(l[j] && !kn known (j : Int)) && allK known (j + 1) (l.drop (j + 1))) := by
  rw [List.drop_eq_getElem_cons h, allK]
theorem allK_iff (known : List Bool) (l : List Bool) : ∀ j, allK known j l = true ↔ ∀ i, i < l.length → l.getD i false = true → kn known ((j + i : Nat) : Int) = true := by
  induction l with
  | nil => intro j; simp [allK]
  | cons b bs ih =>
    intro j
    rw [allK, Bool.and_eq_true, ih (j + 1)]
    constructor
    · rintro ⟨h1, h2⟩ i hi hb
      cases i with
      | zero => simp at hb; subst hb; simpa using h1
      | succ i => have := h2 i (by simpa using hi) (by simpa using hb); rw [show j + (i + 1) = j + 1 + i by omega]; exact this
    · intro h
      refine ⟨?_, fun i hi hb => ?_⟩
      · have := h 0 (by simp)
        cases b <;> simp_all
      · have := h (i + 1) (by simpa using hi) (by simpa using hb)
        rw [show j + 1 + i = j + (i + 1) by omega]; exact this
theorem allK_known (t : Tm) (hw : t.wf = 0) (ks : List Int) (known : List Bool) : allK known 0 (occurV t ks) = knownV t ks known := by
  rw [Bool.eq_iff_iff, allK_iff]
  unfold knownV
  rw [hw]
  simp only [beq_self_eq_true, Bool.true_and, List.all_eq_true, Nat.zero_add]
  constructor
  · intro h e he
    obtain ⟨h1, h2⟩ := Tm.evs_lt t ks 0 false e he
    have := h e.i.toNat (by rw [occurV_length]; omega) (by
      rw [occurV_get _ _ _ (by omega), hw]
      simp only [beq_self_eq_true, Bool.true_and, List.contains_iff_mem, List.mem_map]
      exact ⟨e, he, by omega⟩)
    rwa [show ((e.i.toNat : Nat) : Int) = e.i by omega] at this
  · intro h i hi hb
    rw [occurV_get _ _ _ (by rw [occurV_length] at hi; exact hi), hw] at hb
    simp only [beq_self_eq_true, Bool.true_and, List.contains_iff_mem, List.mem_map] at hb
    obtain ⟨e, he, h2⟩ := hb
    rw [← h2]
    exact h e he
theorem kn_at (known : List Bool) (j : Nat) (h : j < known.length) : kn known (j : Int) = known[j] := by
  unfold kn
  have : decide ((j : Int) < (known.length : Int)) = true := by simp; omega
  rw [this]
  simp [List.getD, h]
theorem kn_far (known : List Bool) (j : Nat) (h : known.length ≤ j) : kn known (j : Int) = false := by
  unfold kn
  have : decide ((j : Int) < (known.length : Int)) = false := by simp; omega
  rw [this]; rfl
end Go.Proofs.Ytadphaobbpngkaa
namespace Go.Proofs.Ytadphaobbpngkaa
open Go.RowKit Go.LF
theorem fold_length {f : List Bool → Ev → List Bool} (hf : ∀ l e, (f l e).length = l.length) (es : List Ev) : ∀ l, (es.foldl f l).length = l.length := by
  induction es with
  | nil => intro l; rfl
  | cons e es ih => intro l; rw [List.foldl_cons, ih, hf]
theorem noteO_length (l : List Bool) (e : Ev) : (noteO l e).length = l.length := by simp [noteO]
theorem noteS_length (l : List Bool) (e : Ev) : (noteS l e).length = l.length := by simp [noteS]
set_option maxRecDepth 100000 in
set_option maxHeartbeats 4000000 in
theorem occurNote_any (w0 : World) (q n Lb : Nat) (hl : w0.cell? ⟨Lb, 0, none⟩ = some (.slice (some ⟨q, 0, none⟩) n n)) (hLq : ¬ Lb = q) (_hn : n ≤ 1000000) :
    NoteSays w0 q n 62 [.pointer (some ⟨Lb, 0, none⟩)] (fun es => .cells ((es.foldl noteO (List.replicate n false)).map Value.bool).toArray 4) := by
  intro e done W hi0 hi1 hq hU
  have hB : BoolRow W q (done.foldl noteO (List.replicate n false)) := hq
  have hlen : (done.foldl noteO (List.replicate n false)).length = n := by rw [fold_length noteO_length]; simp
  simp only [List.foldl_append, List.foldl_cons, List.foldl_nil]
  generalize done.foldl noteO (List.replicate n false) = l at *
  have h1 := hU.cell hl hLq
  obtain ⟨i, ins, pat⟩ := e
  simp only at hi0 hi1
  obtain ⟨m, rfl⟩ : ∃ m : Nat, i = (m : Int) := ⟨i.toNat, by omega⟩
  have hml : m < l.length := by omega
  have hc := hB.cell m hml
  have hz := hB.frozen m
  have hset := hB.set m true
  have HL := hid hlen
  clear hlen hq hl
  go_enter Try.func62, Try.ntmps62
  go_wp2_with fail
  go_end0
  exact ⟨rfl, by rw [show noteO l ⟨(m : Int), ins, pat⟩ = l.set m true by simp [noteO]]; exact hset, Upto.set (Upto.refl _ _) m _⟩
set_option maxRecDepth 100000 in
set_option maxHeartbeats 4000000 in
theorem strictNote_any (w0 : World) (q n Lb : Nat) (hl : w0.cell? ⟨Lb, 0, none⟩ = some (.slice (some ⟨q, 0, none⟩) n n)) (hLq : ¬ Lb = q) (_hn : n ≤ 1000000) :
    NoteSays w0 q n 29 [.pointer (some ⟨Lb, 0, none⟩)] (fun es => .cells ((es.foldl noteS (List.replicate n false)).map Value.bool).toArray 4) := by
  intro e done W hi0 hi1 hq hU
  have hB : BoolRow W q (done.foldl noteS (List.replicate n false)) := hq
  have hlen : (done.foldl noteS (List.replicate n false)).length = n := by rw [fold_length noteS_length]; simp
  simp only [List.foldl_append, List.foldl_cons, List.foldl_nil]
  generalize done.foldl noteS (List.replicate n false) = l at *
  have h1 := hU.cell hl hLq
  obtain ⟨i, ins, pat⟩ := e
  simp only at hi0 hi1
  obtain ⟨m, rfl⟩ : ∃ m : Nat, i = (m : Int) := ⟨i.toNat, by omega⟩
  have hc := hB.cell m (by omega)
  have hz := hB.frozen m
  have hset := fun b => hB.set m b
  have hml : m < l.length := by omega
  have hg : l.getD m false = l[m] := by simp [List.getD, hml]
  have hns : noteS l ⟨(m : Int), ins, pat⟩ = l.set m (l[m] || (!ins && pat)) := by unfold noteS; simp only [Int.toNat_natCast]; rw [hg]
  rw [hns]
  generalize l[m] = lm at *
  have HL := hid hlen
  have HS := hid (And.intro hset hml)
  clear hlen hq hl hg hns hset hml hB
  cases lm <;> cases ins <;> cases pat
  all_goals
    go_enter Try.func29, Try.ntmps29
    go_wp2_with fail
    go_region
    go_wp2_with fail
    go_end0
    exact ⟨rfl, HS.out.1 _, (Upto.set (Upto.refl _ _) m _).drew⟩
set_option maxRecDepth 100000 in
set_option maxHeartbeats 4000000 in
theorem patternsNote_any (w0 : World) (q n : Nat) :
    NoteSays w0 q n 63 [.pointer (some ⟨q, 0, none⟩)] (fun es => .cells #[.bool (es.all (·.pat))] 4) := by
  intro e done W hi0 hi1 hq hU
  have hB : Box1 W q (.bool (done.all (·.pat))) 4 := hq
  simp only [List.all_append, List.all_cons, List.all_nil, Bool.and_true]
  generalize done.all (·.pat) = o at *
  obtain ⟨i, ins, pat⟩ := e
  have h1 := hB.cell
  have hz := hB.frozen
  have hset := fun b => hB.set (.bool b)
  clear hq hB
  cases o <;> cases pat
  all_goals
    go_enter Try.func63, Try.ntmps63
    go_wp2_with fail
    go_end0
    exact ⟨rfl, hset _, Upto.set (Upto.refl _ _) 0 _⟩
set_option maxRecDepth 100000 in
set_option maxHeartbeats 4000000 in
theorem knownNote_any (w0 : World) (q n Kb : Nat) (known : List Bool) (na : Option Addr) (nc : Nat) (_hnl : known.length ≤ 281474976710656) (_hn : n ≤ 1000000) (hl : w0.cell? ⟨Kb, 0, none⟩ = some (.slice na known.length nc)) (hKq : ¬ Kb = q) (hN : RepE (fun x => x = q) w0 1 (known.map Dat.bool) na 0) :
    NoteSays w0 q n 64 [.pointer (some ⟨q, 0, none⟩), .pointer (some ⟨Kb, 0, none⟩)] (fun es => .cells #[.bool (es.all fun e => kn known e.i)] 4) := by
  intro e done W hi0 hi1 hq hU
  have hB : Box1 W q (.bool (done.all fun e => kn known e.i)) 4 := hq
  simp only [List.all_append, List.all_cons, List.all_nil, Bool.and_true]
  generalize (done.all fun e => kn known e.i) = o at *
  obtain ⟨i, ins, pat⟩ := e
  simp only at hi0 hi1 ⊢
  obtain ⟨m, rfl⟩ : ∃ m : Nat, i = (m : Int) := ⟨i.toNat, by omega⟩
  have h1 := hB.cell
  have hz := hB.frozen
  have hset := fun b => hB.set (.bool b)
  have h2 := hU.cell hl hKq
  have hN2 := RepE.keep hU (fun _ e => e) _ _ _ _ hN
  clear hq hB
  cases o
  · go_enter Try.func64, Try.ntmps64
    go_wp2_with fail
    go_end0
    exact ⟨rfl, hset _, Upto.set (Upto.refl _ _) 0 _⟩
  · by_cases hm : m < known.length
    · obtain ⟨nb, no, rfl, _, _, hnc⟩ := bool_cell hN2 m hm
      have jn : (m : Int) < (known.length : Int) := by omega
      have jn0 : (0 : Int) ≤ (m : Int) := by omega
      rw [kn_at known m hm]
      generalize known[m] = nm at *
      go_enter Try.func64, Try.ntmps64
      go_wp2_with fail
      go_end0
      exact ⟨rfl, hset _, Upto.set (Upto.refl _ _) 0 _⟩
    · have jn : ¬ (m : Int) < (known.length : Int) := by omega
      rw [kn_far known m (by omega)]
      go_enter Try.func64, Try.ntmps64
      go_wp2_with fail
      go_end0
      exact ⟨rfl, hset _, Upto.set (Upto.refl _ _) 0 _⟩
set_option maxRecDepth 100000 in
set_option maxHeartbeats 4000000 in
theorem occur_any (t : Tm) (hwt : t.wt ≤ 100000) (ks : List Int) (hk : ks.length ≤ 1000000) (ka : Option Addr) (kc : Nat) (w : World) (cs : List Value) (hK : RepE none' w 1 (ks.map (Dat.int .i64)) ka 0) (h : Rep none' w t.dat cs) :
    Calls Try.prog 30 #[.agg cs.toArray, .slice ka ks.length kc] w (Bools (occurV t ks) w) := by
  have HWF := fun w' h => wellFormed_any t (by omega) w' cs h
  have HVI := fun (hw : t.wf = 0) q Lb W hL hLq => visit_any ks hk 62 [.pointer (some ⟨Lb, 0, none⟩)] q ka kc W _ (occurNote_any W q ks.length Lb hL hLq hk) (fun args w => by simp only [go_sem, Try.call62]) t hwt (Tm.wf_any3 hw).1 cs
  obtain ⟨r, hr⟩ : ∃ r, r = occurV t ks := ⟨_, rfl⟩
  have hrl : r.length = ks.length := by rw [hr, occurV_length]
  have hr2 : r = if t.wf == 0 then (t.evs ks 0 false).foldl noteO (List.replicate ks.length false) else List.replicate ks.length false := by
    rw [hr, occurV]
    cases t.wf == 0
    · simp [marks]
    · simp [noteO_fold]
  rw [← hr]
  have HMK := run_make_bools ks.length (by omega)
  have hmf : ∀ (fn : Fn) (first cap : Array Value) (w : World), (Instr.makeFunc fn first cap).run Try.prog w = .ok (.func fn first cap) w := fun _ _ _ _ => rfl
  obtain ⟨k, n, i, ts, a, cap, ht, rfl, hcap, hE⟩ := tm_open h
  obtain ⟨f, hf⟩ : ∃ f, f = t.wf := ⟨_, rfl⟩
  rw [← hf] at HWF HVI hr2
  generalize (t.evs ks 0 false) = evl at *
  have HR := hid (And.intro hr2 hrl)
  clear hr hf hr2 hrl ht hcap hE
  generalize ts.length = len at *
  obtain ⟨w1, hw1⟩ : ∃ w1, w1 = w.alloc (.cells #[.int .i64 k, .string (B n), .int .i64 i, .slice a len cap] 32) := ⟨_, rfl⟩
  have hU1 : Upto none' w w1 := by rw [hw1]; exact (Upto.refl none' w).alloc _
  have hB1 : Box4 w1 w.heap.size (.int .i64 k) (.string (B n)) (.int .i64 i) (.slice a len cap) 32 := by rw [hw1]; exact Box4.at_new rfl
  have hz1 : w1.heap.size = w.heap.size + 1 := by rw [hw1]; simp
  obtain ⟨w2, hw2⟩ : ∃ w2, w2 = w1.alloc (.cells ((List.replicate ks.length false).map Value.bool).toArray 4) := ⟨_, rfl⟩
  have hM1 := HMK w1
  rw [← hw2] at hM1
  have hU2 : Upto none' w1 w2 := by rw [hw2]; exact (Upto.refl none' w1).alloc _
  have hL2 : BoolRow w2 w1.heap.size (List.replicate ks.length false) := by rw [hw2]; exact heap_alloc_new w1 _
  have hz2 : w2.heap.size = w1.heap.size + 1 := by rw [hw2]; simp
  obtain ⟨q, hq⟩ : ∃ q, q = w1.heap.size := ⟨_, rfl⟩
  rw [← hq] at hL2 hM1 hz2
  obtain ⟨w3, hw3⟩ : ∃ w3, w3 = w2.alloc (.cells #[.slice (some ⟨q, 0, none⟩) ks.length ks.length] 38) := ⟨_, rfl⟩
  have hU3 : Upto none' w2 w3 := by rw [hw3]; exact (Upto.refl none' w2).alloc _
  have hV3 : Box1 w3 (q + 1) (.slice (some ⟨q, 0, none⟩) ks.length ks.length) 38 := by rw [hw3]; exact Box1.at_new hz2
  have hL3 := hL2.kept hU3
  have hB3 := (hB1.kept hU2).kept hU3
  have bb := hB3.cells
  rw [hw3] at bb
  obtain ⟨b0, b1, b2, b3⟩ := bb
  have hUw3 := (hU1.and hU2).and hU3
  have HW := hid (And.intro hq hz1)
  have HW3 := hid hw3
  rw [hw1] at hM1
  clear hw1 hw2 hU1 hB1 hq HMK hU2 hU3 hL2 hw3 hz1
  by_cases hf0 : f = 0
  · have hf1 : (f == 0) = true := by simp [hf0]
    have HVI2 := hid (HVI hf0 q (q + 1))
    have HF := hid hf0
    clear HVI hf0
    go_enter Try.func30, Try.ntmps30
    go_wp2_with fail
    try simp only [hz2]
    rw [← HW3.out]
    refine (HWF w3 (h.on hUw3)).mono ?_
    rintro e w4 ⟨rfl, hU4⟩
    have hB4 := hB3.kept hU4
    have hV4 := hV3.kept hU4
    have hv4 := hV4.cell
    clear b0 b1 b2 b3
    obtain ⟨b0, b1, b2, b3⟩ := hB4.cells
    have hUw4 := hUw3.and hU4
    have hqw : w.heap.size ≤ q := by have := HW.out; omega
    have hK4 : RepE (fun x => x = q) w4 1 (ks.map (Dat.int .i64)) ka 0 := (RepE.weaken (fun b _ e => .inr (by omega)) _ _ _ _ (RepE.fresh' _ _ _ _ hK)).on hUw4
    have hR4 : Rep (fun x => x = q) w4 t.dat [.int .i64 k, .string (B n), .int .i64 i, .slice a len cap] := (Rep.weaken (fun b _ e => .inr (by omega)) _ _ (Rep.fresh' _ _ h)).on hUw4
    go_wp2_with fail
    refine (HVI2.out w4 hV4.cell (by omega) (hL3.kept hU4) hR4 hK4).mono ?_
    rintro e w5 ⟨rfl, hL5, hU5⟩
    have hv5 := (hV4.keep hU5 (by omega)).cell
    go_wp2_with fail
    go_ret
    obtain ⟨h1, h2⟩ := HR.out
    exact ⟨q, by rw [h2]; rfl, by rw [h1, hf1, if_pos rfl]; exact hL5, hqw, upto_new hUw4 hU5 hqw⟩
  · have hf1 : (f == 0) = false := by simpa using hf0
    clear HVI hf0
    go_enter Try.func30, Try.ntmps30
    go_wp2_with fail
    try simp only [hz2]
    rw [← HW3.out]
    refine (HWF w3 (h.on hUw3)).mono ?_
    rintro e w4 ⟨rfl, hU4⟩
    have hv4 := (hV3.kept hU4).cell
    go_wp2_with fail
    go_ret
    obtain ⟨h1, h2⟩ := HR.out
    exact ⟨q, by rw [h2]; rfl, by rw [h1, hf1, if_neg (by simp)]; exact hL3.kept hU4, by have := HW.out; omega, hUw3.and hU4⟩
set_option maxRecDepth 100000 in
set_option maxHeartbeats 4000000 in
theorem strict_any (t : Tm) (hwt : t.wt ≤ 100000) (ks : List Int) (hk : ks.length ≤ 1000000) (ka : Option Addr) (kc : Nat) (w : World) (cs : List Value) (hK : RepE none' w 1 (ks.map (Dat.int .i64)) ka 0) (h : Rep none' w t.dat cs) :
    Calls Try.prog 10 #[.agg cs.toArray, .slice ka ks.length kc] w (Bools (strictV t ks) w) := by
  have HWF := fun w' h => wellFormed_any t (by omega) w' cs h
  have HVI := fun (hw : t.wf = 0) q Lb W hL hLq => visit_any ks hk 29 [.pointer (some ⟨Lb, 0, none⟩)] q ka kc W _ (strictNote_any W q ks.length Lb hL hLq hk) (fun args w => by simp only [go_sem, Try.call29]) t hwt (Tm.wf_any3 hw).1 cs
  obtain ⟨r, hr⟩ : ∃ r, r = strictV t ks := ⟨_, rfl⟩
  have hrl : r.length = ks.length := by rw [hr, strictV_length]
  have hr2 : r = if t.wf == 0 then (t.evs ks 0 false).foldl noteS (List.replicate ks.length false) else List.replicate ks.length false := by
    rw [hr, strictV]
    cases t.wf == 0
    · simp [marks]
    · simp [noteS_fold]
  rw [← hr]
  have HMK := run_make_bools ks.length (by omega)
  have hmf : ∀ (fn : Fn) (first cap : Array Value) (w : World), (Instr.makeFunc fn first cap).run Try.prog w = .ok (.func fn first cap) w := fun _ _ _ _ => rfl
  obtain ⟨k, n, i, ts, a, cap, ht, rfl, hcap, hE⟩ := tm_open h
  obtain ⟨f, hf⟩ : ∃ f, f = t.wf := ⟨_, rfl⟩
  rw [← hf] at HWF HVI hr2
  generalize (t.evs ks 0 false) = evl at *
  have HR := hid (And.intro hr2 hrl)
  clear hr hf hr2 hrl ht hcap hE
  generalize ts.length = len at *
  obtain ⟨w1, hw1⟩ : ∃ w1, w1 = w.alloc (.cells #[.int .i64 k, .string (B n), .int .i64 i, .slice a len cap] 32) := ⟨_, rfl⟩
  have hU1 : Upto none' w w1 := by rw [hw1]; exact (Upto.refl none' w).alloc _
  have hB1 : Box4 w1 w.heap.size (.int .i64 k) (.string (B n)) (.int .i64 i) (.slice a len cap) 32 := by rw [hw1]; exact Box4.at_new rfl
  have hz1 : w1.heap.size = w.heap.size + 1 := by rw [hw1]; simp
  obtain ⟨w2, hw2⟩ : ∃ w2, w2 = w1.alloc (.cells ((List.replicate ks.length false).map Value.bool).toArray 4) := ⟨_, rfl⟩
  have hM1 := HMK w1
  rw [← hw2] at hM1
  have hU2 : Upto none' w1 w2 := by rw [hw2]; exact (Upto.refl none' w1).alloc _
  have hL2 : BoolRow w2 w1.heap.size (List.replicate ks.length false) := by rw [hw2]; exact heap_alloc_new w1 _
  have hz2 : w2.heap.size = w1.heap.size + 1 := by rw [hw2]; simp
  obtain ⟨q, hq⟩ : ∃ q, q = w1.heap.size := ⟨_, rfl⟩
  rw [← hq] at hL2 hM1 hz2
  obtain ⟨w3, hw3⟩ : ∃ w3, w3 = w2.alloc (.cells #[.slice (some ⟨q, 0, none⟩) ks.length ks.length] 38) := ⟨_, rfl⟩
  have hU3 : Upto none' w2 w3 := by rw [hw3]; exact (Upto.refl none' w2).alloc _
  have hV3 : Box1 w3 (q + 1) (.slice (some ⟨q, 0, none⟩) ks.length ks.length) 38 := by rw [hw3]; exact Box1.at_new hz2
  have hL3 := hL2.kept hU3
  have hB3 := (hB1.kept hU2).kept hU3
  have bb := hB3.cells
  rw [hw3] at bb
  obtain ⟨b0, b1, b2, b3⟩ := bb
  have hUw3 := (hU1.and hU2).and hU3
  have HW := hid (And.intro hq hz1)
  have HW3 := hid hw3
  rw [hw1] at hM1
  clear hw1 hw2 hU1 hB1 hq HMK hU2 hU3 hL2 hw3 hz1
  by_cases hf0 : f = 0
  · have hf1 : (f == 0) = true := by simp [hf0]
    have HVI2 := hid (HVI hf0 q (q + 1))
    have HF := hid hf0
    clear HVI hf0
    go_enter Try.func10, Try.ntmps10
    go_wp2_with fail
    try simp only [hz2]
    rw [← HW3.out]
    refine (HWF w3 (h.on hUw3)).mono ?_
    rintro e w4 ⟨rfl, hU4⟩
    have hB4 := hB3.kept hU4
    have hV4 := hV3.kept hU4
    have hv4 := hV4.cell
    clear b0 b1 b2 b3
    obtain ⟨b0, b1, b2, b3⟩ := hB4.cells
    have hUw4 := hUw3.and hU4
    have hqw : w.heap.size ≤ q := by have := HW.out; omega
    have hK4 : RepE (fun x => x = q) w4 1 (ks.map (Dat.int .i64)) ka 0 := (RepE.weaken (fun b _ e => .inr (by omega)) _ _ _ _ (RepE.fresh' _ _ _ _ hK)).on hUw4
    have hR4 : Rep (fun x => x = q) w4 t.dat [.int .i64 k, .string (B n), .int .i64 i, .slice a len cap] := (Rep.weaken (fun b _ e => .inr (by omega)) _ _ (Rep.fresh' _ _ h)).on hUw4
    go_wp2_with fail
    refine (HVI2.out w4 hV4.cell (by omega) (hL3.kept hU4) hR4 hK4).mono ?_
    rintro e w5 ⟨rfl, hL5, hU5⟩
    have hv5 := (hV4.keep hU5 (by omega)).cell
    go_wp2_with fail
    go_ret
    obtain ⟨h1, h2⟩ := HR.out
    exact ⟨q, by rw [h2]; rfl, by rw [h1, hf1, if_pos rfl]; exact hL5, hqw, upto_new hUw4 hU5 hqw⟩
  · have hf1 : (f == 0) = false := by simpa using hf0
    clear HVI hf0
    go_enter Try.func10, Try.ntmps10
    go_wp2_with fail
    try simp only [hz2]
    rw [← HW3.out]
    refine (HWF w3 (h.on hUw3)).mono ?_
    rintro e w4 ⟨rfl, hU4⟩
    have hv4 := (hV3.kept hU4).cell
    go_wp2_with fail
    go_ret
    obtain ⟨h1, h2⟩ := HR.out
    exact ⟨q, by rw [h2]; rfl, by rw [h1, hf1, if_neg (by simp)]; exact hL3.kept hU4, by have := HW.out; omega, hUw3.and hU4⟩
set_option maxRecDepth 100000 in
set_option maxHeartbeats 4000000 in
theorem patterns_any (t : Tm) (hwt : t.wt ≤ 100000) (ks : List Int) (hk : ks.length ≤ 1000000) (ka : Option Addr) (kc : Nat) (w : World) (cs : List Value) (hK : RepE none' w 1 (ks.map (Dat.int .i64)) ka 0) (h : Rep none' w t.dat cs) :
    Calls Try.prog 31 #[.agg cs.toArray, .slice ka ks.length kc] w fun e w' => e = .returned (.bool (patternsV t ks)) ∧ Upto none' w w' := by
  have HWF := fun w' h => wellFormed_any t (by omega) w' cs h
  have HVI := fun (hw : t.wf = 0) q  W  => visit_any ks hk 63 [.pointer (some ⟨q, 0, none⟩)] q ka kc W _ (patternsNote_any W q ks.length) (fun args w => by simp only [go_sem, Try.call63]) t hwt (Tm.wf_any3 hw).1 cs
  obtain ⟨r, hr⟩ : ∃ r, r = patternsV t ks := ⟨_, rfl⟩
  have hr2 : r = (t.wf == 0 && (t.evs ks 0 false).all (·.pat)) := hr
  rw [← hr]
  have hmf : ∀ (fn : Fn) (first cap : Array Value) (w : World), (Instr.makeFunc fn first cap).run Try.prog w = .ok (.func fn first cap) w := fun _ _ _ _ => rfl
  obtain ⟨k, n, i, ts, a, cap, ht, rfl, hcap, hE⟩ := tm_open h
  obtain ⟨f, hf⟩ : ∃ f, f = t.wf := ⟨_, rfl⟩
  rw [← hf] at HWF HVI hr2
  generalize (t.evs ks 0 false) = evl at *
  have HR := hid hr2
  clear hr hf hr2 ht hcap hE
  generalize ts.length = len at *
  obtain ⟨w1, hw1⟩ : ∃ w1, w1 = w.alloc (.cells #[.int .i64 k, .string (B n), .int .i64 i, .slice a len cap] 32) := ⟨_, rfl⟩
  have hU1 : Upto none' w w1 := by rw [hw1]; exact (Upto.refl none' w).alloc _
  have hB1 : Box4 w1 w.heap.size (.int .i64 k) (.string (B n)) (.int .i64 i) (.slice a len cap) 32 := by rw [hw1]; exact Box4.at_new rfl
  have HW1 := hid hw1
  have hw1z : w.heap.size < w1.heap.size := hB1.lt
  clear hw1
  by_cases hf0 : f = 0
  · have hf1 : (f == 0) = true := by simp [hf0]
    have HVI2 := hid (HVI hf0)
    clear HVI hf0
    go_enter Try.func31, Try.ntmps31
    go_wp2_with fail
    rw [← HW1.out]
    refine (HWF w1 (h.on hU1)).mono ?_
    rintro e w2 ⟨rfl, hU2⟩
    have hB2 := hB1.kept hU2
    have hUw2 := hU1.and hU2
    obtain ⟨b0, b1, b2, b3⟩ := hB2.cells
    obtain ⟨w3, hw3⟩ : ∃ w3, w3 = w2.alloc (.cells #[.bool true] 4) := ⟨_, rfl⟩
    have hU3 : Upto none' w2 w3 := by rw [hw3]; exact (Upto.refl none' w2).alloc _
    obtain ⟨q, hq⟩ : ∃ q, q = w2.heap.size := ⟨_, rfl⟩
    have hO3 : Box1 w3 q (.bool true) 4 := by rw [hw3]; exact Box1.at_new hq.symm
    have hqw : w.heap.size ≤ q := by have := hUw2.size; omega
    have hqt : w1.heap.size ≤ q := by have := hU2.size; omega
    have hB3 := hB2.kept hU3
    have hUw3 := hUw2.and hU3
    have hK3 : RepE (fun x => x = q) w3 1 (ks.map (Dat.int .i64)) ka 0 := (RepE.weaken (fun b _ e => .inr (by omega)) _ _ _ _ (RepE.fresh' _ _ _ _ hK)).on hUw3
    have hR3 : Rep (fun x => x = q) w3 t.dat [.int .i64 k, .string (B n), .int .i64 i, .slice a len cap] := (Rep.weaken (fun b _ e => .inr (by omega)) _ _ (Rep.fresh' _ _ h)).on hUw3
    have HVV := HVI2.out q  w3  hO3 hR3 hK3
    have bb := hB3.cells
    rw [hw3] at bb
    clear b0 b1 b2 b3
    obtain ⟨b0, b1, b2, b3⟩ := bb
    have HW3 := hid hw3
    have HQ := hid hq
    clear hw3 hq
    go_wp2_with fail
    rw [← HW3.out, ← HQ.out]
    refine HVV.mono ?_
    rintro e w4 ⟨rfl, hO4, hU4⟩
    have hv4 : w4.cell? ⟨q, 0, none⟩ = some (.bool (evl.all (·.pat))) := Box1.cell hO4
    go_wp2_with fail
    go_ret
    exact ⟨ret_bool (by rw [HR.out, hf1]; rfl), upto_new hUw3 hU4 hqw⟩
  · have hf1 : (f == 0) = false := by simpa using hf0
    clear HVI hf0
    go_enter Try.func31, Try.ntmps31
    go_wp2_with fail
    rw [← HW1.out]
    refine (HWF w1 (h.on hU1)).mono ?_
    rintro e w2 ⟨rfl, hU2⟩
    go_wp2_with fail
    go_ret
    exact ⟨ret_bool (by rw [HR.out, hf1]; rfl), (hU1.and hU2).alloc _⟩
set_option maxRecDepth 100000 in
set_option maxHeartbeats 4000000 in
theorem known_any (t : Tm) (hwt : t.wt ≤ 100000) (ks : List Int) (hk : ks.length ≤ 1000000) (ka : Option Addr) (kc : Nat) (known : List Bool) (na : Option Addr) (nc : Nat) (hnl : known.length ≤ 281474976710656) (w : World) (cs : List Value) (hK : RepE none' w 1 (ks.map (Dat.int .i64)) ka 0) (hN : RepE none' w 1 (known.map Dat.bool) na 0) (h : Rep none' w t.dat cs) :
    Calls Try.prog 32 #[.agg cs.toArray, .slice ka ks.length kc, .slice na known.length nc] w fun e w' => e = .returned (.bool (knownV t ks known)) ∧ Upto none' w w' := by
  have HWF := fun w' h => wellFormed_any t (by omega) w' cs h
  have HVI := fun (hw : t.wf = 0) q Kb W hl hKq hN' => visit_any ks hk 64 [.pointer (some ⟨q, 0, none⟩), .pointer (some ⟨Kb, 0, none⟩)] q ka kc W _ (knownNote_any W q ks.length Kb known na nc hnl hk hl hKq hN') (fun args w => by simp only [go_sem, Try.call64]) t hwt (Tm.wf_any3 hw).1 cs
  obtain ⟨r, hr⟩ : ∃ r, r = knownV t ks known := ⟨_, rfl⟩
  have hr2 : r = (t.wf == 0 && (t.evs ks 0 false).all (fun e => kn known e.i)) := hr
  rw [← hr]
  have hmf : ∀ (fn : Fn) (first cap : Array Value) (w : World), (Instr.makeFunc fn first cap).run Try.prog w = .ok (.func fn first cap) w := fun _ _ _ _ => rfl
  obtain ⟨k, n, i, ts, a, cap, ht, rfl, hcap, hE⟩ := tm_open h
  obtain ⟨f, hf⟩ : ∃ f, f = t.wf := ⟨_, rfl⟩
  rw [← hf] at HWF HVI hr2
  generalize (t.evs ks 0 false) = evl at *
  have HR := hid hr2
  clear hr hf hr2 ht hcap hE
  generalize ts.length = len at *
  obtain ⟨w1, hw1⟩ : ∃ w1, w1 = (w.alloc (.cells #[.int .i64 k, .string (B n), .int .i64 i, .slice a len cap] 32)).alloc (.cells #[.slice na known.length nc] 38) := ⟨_, rfl⟩
  have hU1 : Upto none' w w1 := by rw [hw1]; exact ((Upto.refl none' w).alloc _).alloc _
  have hB1 : Box4 w1 w.heap.size (.int .i64 k) (.string (B n)) (.int .i64 i) (.slice a len cap) 32 := by rw [hw1]; exact (Box4.at_new rfl).kept ((Upto.refl none' _).alloc _)
  have hKb : Box1 w1 (w.heap.size + 1) (.slice na known.length nc) 38 := by rw [hw1]; exact Box1.at_new (by simp)
  have HW1 := hid hw1
  have hw1z : w.heap.size < w1.heap.size := hB1.lt
  clear hw1
  by_cases hf0 : f = 0
  · have hf1 : (f == 0) = true := by simp [hf0]
    have HVI2 := hid (HVI hf0)
    clear HVI hf0
    go_enter Try.func32, Try.ntmps32
    go_wp2_with fail
    rw [← HW1.out]
    refine (HWF w1 (h.on hU1)).mono ?_
    rintro e w2 ⟨rfl, hU2⟩
    have hB2 := hB1.kept hU2
    have hUw2 := hU1.and hU2
    obtain ⟨b0, b1, b2, b3⟩ := hB2.cells
    obtain ⟨w3, hw3⟩ : ∃ w3, w3 = w2.alloc (.cells #[.bool true] 4) := ⟨_, rfl⟩
    have hU3 : Upto none' w2 w3 := by rw [hw3]; exact (Upto.refl none' w2).alloc _
    obtain ⟨q, hq⟩ : ∃ q, q = w2.heap.size := ⟨_, rfl⟩
    have hO3 : Box1 w3 q (.bool true) 4 := by rw [hw3]; exact Box1.at_new hq.symm
    have hqw : w.heap.size ≤ q := by have := hUw2.size; omega
    have hqt : w1.heap.size ≤ q := by have := hU2.size; omega
    have hB3 := hB2.kept hU3
    have hUw3 := hUw2.and hU3
    have hK3 : RepE (fun x => x = q) w3 1 (ks.map (Dat.int .i64)) ka 0 := (RepE.weaken (fun b _ e => .inr (by omega)) _ _ _ _ (RepE.fresh' _ _ _ _ hK)).on hUw3
    have hR3 : Rep (fun x => x = q) w3 t.dat [.int .i64 k, .string (B n), .int .i64 i, .slice a len cap] := (Rep.weaken (fun b _ e => .inr (by omega)) _ _ (Rep.fresh' _ _ h)).on hUw3
    have HVV := HVI2.out q (w.heap.size + 1) w3 ((hKb.kept hU2).kept hU3).cell (by have := hKb.lt; omega) ((RepE.weaken (fun b _ e => .inr (by omega)) _ _ _ _ (RepE.fresh' _ _ _ _ hN)).on hUw3) hO3 hR3 hK3
    have bb := hB3.cells
    rw [hw3] at bb
    clear b0 b1 b2 b3
    obtain ⟨b0, b1, b2, b3⟩ := bb
    have HW3 := hid hw3
    have HQ := hid hq
    clear hw3 hq
    go_wp2_with fail
    rw [← HW3.out, ← HQ.out]
    refine HVV.mono ?_
    rintro e w4 ⟨rfl, hO4, hU4⟩
    have hv4 : w4.cell? ⟨q, 0, none⟩ = some (.bool (evl.all (fun e => kn known e.i))) := Box1.cell hO4
    go_wp2_with fail
    go_ret
    exact ⟨ret_bool (by rw [HR.out, hf1]; rfl), upto_new hUw3 hU4 hqw⟩
  · have hf1 : (f == 0) = false := by simpa using hf0
    clear HVI hf0
    go_enter Try.func32, Try.ntmps32
    go_wp2_with fail
    rw [← HW1.out]
    refine (HWF w1 (h.on hU1)).mono ?_
    rintro e w2 ⟨rfl, hU2⟩
    go_wp2_with fail
    go_ret
    exact ⟨ret_bool (by rw [HR.out, hf1]; rfl), (hU1.and hU2).alloc _⟩
end Go.Proofs.Ytadphaobbpngkaa
