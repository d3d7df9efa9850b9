/- A map that a call keeps: what it holds, key by key. -/
import Derived.Test.YtdomloghcpfdjaaGreatDoorRCA
import Derived.Test.YtdomloghcpfdjaaGreatDoorRCC
import Derived.Test.YtdomloghcpfdjaaGreatDoorRCF
import Derived.Test.YtdomloghcpfdjaaGreatDoorRCH
import Derived.Test.YtdomloghcpfdjaaGreatDoorRCK
import Derived.Test.YtdomloghcpfdjaaGreatDoorRCL
import Derived.Test.YtdomloghcpfdjaaGreatDoorREA
import Derived.Deep.CutRange
import Derived.Deep.RegionLaw
namespace Go.LF
open Go.RowKit Go.MapKept
theorem upto_map13 {w w' : World} {m : Nat} (hg : w.grownBy w' (some m)) : Upto (fun k => k = m) w w' := ⟨hg.os, hg.tape, hg.output, hg.size, fun k hk hn => hg.block k hk (fun e => hn (Option.some.inj e))⟩
/-- The map at block m has just these entries, in this order. -/
def MapIs (W : World) (m : Nat) (kvs : List (Value × Value)) : Prop := ∃ es clock, W.heap[m]? = some (.map es clock) ∧ es.toList.map (fun e => (e.key, e.val)) = kvs
variable {P : Program} {W : World} {mt kt vt : TypeId} {d : TypeDesc} {m : Nat} {kvs : List (Value × Value)} {key val z : Value}
theorem MapIs.lt (h : MapIs W m kvs) : m < W.heap.size := by
  obtain ⟨es, clock, h1, _⟩ := h
  exact (Array.getElem?_eq_some_iff.1 h1).1
theorem MapIs.made (W : World) : MapIs (W.alloc (.map #[] 0)) W.heap.size [] := ⟨#[], 0, heap_alloc_new W _, rfl⟩
theorem MapIs.on {W' : World} {S : Nat → Prop} (h : MapIs W m kvs) (hU : Upto S W W') (hS : ¬ S m) : MapIs W' m kvs := by
  obtain ⟨es, clock, h1, h2⟩ := h
  exact ⟨es, clock, (hU.block m (Array.getElem?_eq_some_iff.1 h1).1 hS).trans h1, h2⟩
theorem MapIs.find (hS : MapIs W m kvs) (hks : ∀ x ∈ kvs, IsKey d x.1) (hkey : IsKey d key) :
    ∃ es clock, W.heap[m]? = some (.map es clock) ∧ es.toList.map (fun e => (e.key, e.val)) = kvs ∧
      ((Instr.findNow d key es.toList 0 = some none ∧ ∀ x ∈ kvs, x.1 ≠ key) ∨ ∃ j v, Instr.findNow d key es.toList 0 = some (some (j, v)) ∧ kvs[j]? = some (key, v)) := by
  obtain ⟨es, clock, h1, h2⟩ := hS
  have hes : ∀ x ∈ es.toList, IsKey d x.key := fun x hx => hks (x.key, x.val) (by rw [← h2]; exact List.mem_map.2 ⟨x, hx, rfl⟩)
  refine ⟨es, clock, h1, h2, ?_⟩
  rcases findNow_spec hkey es.toList 0 hes with ⟨f1, f2⟩ | ⟨j, e, f1, f2, f3⟩
  · refine .inl ⟨f1, fun x hx => ?_⟩
    rw [← h2] at hx
    obtain ⟨y, hy, rfl⟩ := List.mem_map.1 hx
    exact f2 y hy
  · refine .inr ⟨j, e.val, by simpa using f1, ?_⟩
    rw [← h2, List.getElem?_map, f2, ← f3]
    rfl
/-- A key that is there. -/
theorem MapIs.get (hm : P.underlying mt = some (.map kt vt)) (hk : P.underlying kt = some d) (hS : MapIs W m kvs) (hks : ∀ x ∈ kvs, IsKey d x.1) (hkey : IsKey d key)
    (hv : ∀ v, (key, v) ∈ kvs → v = val) (hin : ∃ x ∈ kvs, x.1 = key) (c : Bool) : (Instr.lookup mt (.map (some m)) key c).run P W = .ok (if c then .tuple #[val, .bool true] else val) W := by
  obtain ⟨es, clock, h1, h2, ⟨f1, f2⟩ | ⟨j, v, f1, f2⟩⟩ := hS.find hks hkey
  · obtain ⟨x, hx, hxk⟩ := hin
    exact absurd hxk (f2 x hx)
  · have := hv v (List.mem_of_getElem? f2)
    subst this
    simp [Instr.lookup, run_underlying hm, MapKept.run_getObj_map h1, run_checkKey hk hkey, run_findKey hk f1, Result.andThen]
/-- A key that is not there. -/
theorem MapIs.none (hm : P.underlying mt = some (.map kt vt)) (hk : P.underlying kt = some d) (hz : (zeroValue vt).run P W = .ok z W) (hS : MapIs W m kvs) (hks : ∀ x ∈ kvs, IsKey d x.1) (hkey : IsKey d key)
    (hn : ∀ x ∈ kvs, x.1 ≠ key) (c : Bool) : (Instr.lookup mt (.map (some m)) key c).run P W = .ok (if c then .tuple #[z, .bool false] else z) W := by
  obtain ⟨es, clock, h1, h2, ⟨f1, f2⟩ | ⟨j, v, f1, f2⟩⟩ := hS.find hks hkey
  · simp [Instr.lookup, run_underlying hm, MapKept.run_getObj_map h1, run_checkKey hk hkey, run_findKey hk f1, hz, Result.andThen]
  · exact absurd rfl (hn _ (List.mem_of_getElem? f2))
/-- A new key is stored. -/
theorem MapIs.put (hm : P.underlying mt = some (.map kt vt)) (hk : P.underlying kt = some d) (hS : MapIs W m kvs) (hks : ∀ x ∈ kvs, IsKey d x.1) (hkey : IsKey d key) (hn : ∀ x ∈ kvs, x.1 ≠ key) (val : Value) :
    ∃ W', (Instr.mapUpdate mt (.map (some m)) key val).run P W = .ok () W' ∧ MapIs W' m (kvs ++ [(key, val)]) ∧ W.grownBy W' (some m) ∧ W.heap.size ≤ W'.heap.size := by
  obtain ⟨es, clock, h1, h2, ⟨f1, f2⟩ | ⟨j, v, f1, f2⟩⟩ := hS.find hks hkey
  · refine ⟨{ W with heap := W.heap.setIfInBounds m (.map (es.push { key, val, born := clock }) (clock + 1)) }, ?_, ⟨_, _, (heap_set h1).1, ?_⟩, ⟨rfl, rfl, rfl, by simp, fun k _ hne => ?_⟩, by simp⟩
    · simp [Instr.mapUpdate, run_underlying hm, MapKept.run_getObj_map h1, run_checkKey hk hkey, run_findKey hk f1, run_setObj_map _ h1, Result.andThen]
    · simp [h2]
    · exact (heap_set h1).2 k (fun e => hne (by rw [e]))
  · exact absurd rfl (hn _ (List.mem_of_getElem? f2))
end Go.LF
namespace Go.LF
/-- A metavariable. -/
structure Mv where
  name : List UInt8
  type : Tm
  value : List Tm
namespace Mv
def dat (m : Mv) : Dat := .st [.str (B m.name), m.type.dat, .seq 4 (m.value.map Tm.dat)]
end Mv
theorem rep_mv {O : Nat → Prop} {W : World} {m : Mv} {cs : List Value} :
    Rep O W m.dat cs ↔ ∃ ct va vc, cs = [.string (B m.name)] ++ ct ++ [.slice va m.value.length vc] ∧ Rep O W m.type.dat ct ∧ m.value.length ≤ vc ∧ RepE O W 4 (m.value.map Tm.dat) va 0 := by
  simp only [Mv.dat, Rep, RepF]
  constructor
  · rintro ⟨c1, c2, rfl, rfl, c3, c4, rfl, h3, c5, c6, rfl, ⟨a, cap, rfl, h6, h7⟩, rfl⟩
    exact ⟨c3, a, cap, by simp, h3, by simpa using h6, h7⟩
  · rintro ⟨ct, va, vc, rfl, h1, h2, h3⟩
    exact ⟨[.string (B m.name)], ct ++ [.slice va m.value.length vc], by simp, rfl, ct, [.slice va m.value.length vc], rfl, h1, [.slice va m.value.length vc], [], by simp, ⟨va, vc, by simp, by simpa using h2, h3⟩, rfl⟩
/-- Six cells. -/
theorem mv_open {O : Nat → Prop} {W : World} {m : Mv} {cs : List Value} (h : Rep O W m.dat cs) :
    ∃ k n i a cap va vc, cs = [.string (B m.name), .int .i64 k, .string (B n), .int .i64 i, .slice a m.type.args.length cap, .slice va m.value.length vc] ∧ Rep O W m.type.dat [.int .i64 k, .string (B n), .int .i64 i, .slice a m.type.args.length cap] ∧ m.value.length ≤ vc ∧ RepE O W 4 (m.value.map Tm.dat) va 0 := by
  obtain ⟨ct, va, vc, rfl, h1, h2, h3⟩ := rep_mv.1 h
  obtain ⟨k, n, i, ts, a, cap, ht, rfl, _, _⟩ := tm_open h1
  refine ⟨k, n, i, a, cap, va, vc, ?_, ?_, h2, h3⟩
  · rw [ht]; simp
  · rw [ht] at h1 ⊢; exact h1
end Go.LF
namespace Go.Proofs.YtdomloghcpfdjaaGreatDoor
open Go.RowKit Go.LF
/-- The metavariables of a type and of a value. -/
def nextV (m : Mv) : List Int := Tm.metas m.type ++ m.value.flatMap Tm.metas
/-- .. of the metavariable i of a store. -/
def succV (l : List Mv) (i : Int) : List Int := if 0 ≤ i then (match l[i.toNat]? with | some m => nextV m | none => []) else []
inductive Rch (l : List Mv) : Int → Int → Prop
  | refl {i : Int} (h : i < l.length) : Rch l i i
  | step {i j k : Int} (h : i < l.length) (hj : j ∈ succV l i) (hk : Rch l j k) : Rch l i k
theorem Rch.lt {l : List Mv} {i k : Int} (h : Rch l i k) : i < l.length := by cases h <;> assumption
theorem Rch.lt' {l : List Mv} {i k : Int} (h : Rch l i k) : k < l.length := by
  induction h with
  | refl h => exact h
  | step _ _ _ ih => exact ih
theorem Rch.trans {l : List Mv} {i j k : Int} (h : Rch l i j) (h' : Rch l j k) : Rch l i k := by
  induction h with
  | refl _ => exact h'
  | step h hj _ ih => exact .step h hj (ih h')
/-- A set that holds with each metavariable what it mentions. -/
theorem Rch.closed {l : List Mv} {S : Int → Prop} (hS : ∀ x, S x → ∀ y ∈ succV l x, y < l.length → S y) {i k : Int} (h : Rch l i k) (hi : S i) : S k := by
  induction h with
  | refl _ => exact hi
  | step _ hj hk ih => exact ih (hS _ hi _ hj hk.lt)
/-- What a walk through the store does: from the set ks (found: whether `tg` is in it) tg ks'. -/
structure Vis (l : List Mv) (tg : Int) (fs : List Int) (ks ks' : List Int) (f f' : Bool) : Prop where
  sub : ∀ x ∈ ks, x ∈ ks'
  from_ : ∀ x ∈ ks', x ∈ ks ∨ ∃ i ∈ fs, Rch l i x
  found : f' = true ↔ tg ∈ ks'
  all : f' = false → ∀ i ∈ fs, i < l.length → i ∈ ks'
  closed : f' = false → ∀ x ∈ ks', x ∉ ks → ∀ y ∈ succV l x, y < l.length → y ∈ ks'
theorem Vis.nil {l : List Mv} {tg : Int} {ks : List Int} {f : Bool} (hf : f = true ↔ tg ∈ ks) : Vis l tg [] ks ks f f :=
  ⟨fun _ h => h, fun _ h => .inl h, hf, (fun _ i hi => by cases hi), fun _ x h h' => absurd h h'⟩
theorem Vis.trans {l : List Mv} {tg : Int} {fs gs ks ks' ks2 : List Int} {f f' f2 : Bool} (h : Vis l tg fs ks ks' f f') (h' : Vis l tg gs ks' ks2 f' f2) : Vis l tg (fs ++ gs) ks ks2 f f2 := by
  have hff : f2 = false → f' = false := by
    intro e
    cases hf : f' with
    | false => rfl
    | true => exact absurd (h'.found.2 (h'.sub _ (h.found.1 hf))) (by rw [e]; decide)
  refine ⟨fun x hx => h'.sub x (h.sub x hx), fun x hx => ?_, h'.found, fun e i hi hl => ?_, fun e x hx hn y hy hl => ?_⟩
  · rcases h'.from_ x hx with h1 | ⟨i, hi, hr⟩
    · rcases h.from_ x h1 with h1 | ⟨i, hi, hr⟩
      · exact .inl h1
      · exact .inr ⟨i, by simp [hi], hr⟩
    · exact .inr ⟨i, by simp [hi], hr⟩
  · rcases List.mem_append.1 hi with hi | hi
    · exact h'.sub _ (h.all (hff e) i hi hl)
    · exact h'.all e i hi hl
  · by_cases hk : x ∈ ks'
    · exact h'.sub _ (h.closed (hff e) x hk hn y hy hl)
    · exact h'.closed e x hx hk y hy hl
/-- One metavariable that has been seen, or is not in the store, or nothing is looked for any more. -/
theorem Vis.skip {l : List Mv} {tg i : Int} {ks : List Int} {f : Bool} (hf : f = true ↔ tg ∈ ks) (h : f = true ∨ i ∈ ks ∨ ¬ i < l.length) : Vis l tg [i] ks ks f f :=
  ⟨fun _ h => h, fun _ h => .inl h, hf, (fun e j hj hl => by
    obtain rfl : j = i := by simpa using hj
    rcases h with h | h | h
    · rw [e] at h; cases h
    · exact h
    · exact absurd hl h), fun _ x h h' => absurd h h'⟩
/-- One metavariable that is new: it, and then what it mentions. -/
theorem Vis.new {l : List Mv} {tg i : Int} {ks ks1 ks' : List Int} {f f1 f' : Bool} (hi : i < l.length) (hk : ∀ x, x ∈ ks1 ↔ x ∈ ks ∨ x = i) (h : Vis l tg (succV l i) ks1 ks' f1 f') : Vis l tg [i] ks ks' f f' := by
  refine ⟨fun x hx => h.sub x ((hk x).2 (.inl hx)), fun x hx => ?_, h.found, fun _ j hj _ => ?_, fun e x hx hn y hy hl => ?_⟩
  · rcases h.from_ x hx with h1 | ⟨j, hj, hr⟩
    · rcases (hk x).1 h1 with h1 | rfl
      · exact .inl h1
      · exact .inr ⟨x, by simp, .refl hi⟩
    · exact .inr ⟨i, by simp, .step hi hj hr⟩
  · obtain rfl : j = i := by simpa using hj
    exact h.sub _ ((hk j).2 (.inr rfl))
  · by_cases hxi : x = i
    · subst hxi
      exact h.all e y hy hl
    · exact h.closed e x hx (fun e2 => ((hk x).1 e2).elim hn hxi) y hy hl
/-- What the whole walk says. -/
theorem Vis.says {l : List Mv} {tg : Int} {fs ks' : List Int} {f' : Bool} (h : Vis l tg fs [] ks' false f') : f' = true ↔ ∃ i ∈ fs, Rch l i tg := by
  constructor
  · intro e
    rcases h.from_ tg (h.found.1 e) with h1 | h1
    · cases h1
    · exact h1
  · rintro ⟨i, hi, hr⟩
    cases hf : f' with
    | true => rfl
    | false =>
      have := hr.closed (S := fun x => x ∈ ks') (fun x hx y hy hl => h.closed hf x hx (by simp) y hy hl) (h.all hf i hi hr.lt)
      rw [h.found.2 this] at hf
      cases hf
/-- How many metavariables have not been seen. -/
def unseen (l : List Mv) (ks : List Int) : Nat := ((List.range l.length).filter (fun j : Nat => !(ks.contains (j : Int)))).length
theorem unseen_le {l : List Mv} {ks ks' : List Int} (h : ∀ x ∈ ks, x ∈ ks') : unseen l ks' ≤ unseen l ks := by
  unfold unseen
  rw [← List.countP_eq_length_filter, ← List.countP_eq_length_filter]
  refine List.countP_mono_left (fun j _ hj => ?_)
  simp only [Bool.not_eq_true', List.contains_eq_mem, decide_eq_false_iff_not] at hj ⊢
  exact fun h1 => hj (h _ h1)
theorem unseen_lt {l : List Mv} {ks ks1 : List Int} {i : Int} (h0 : 0 ≤ i) (hi : i < l.length) (hn : i ∉ ks) (hk : ∀ x, x ∈ ks1 ↔ x ∈ ks ∨ x = i) : unseen l ks1 < unseen l ks := by
  unfold unseen
  have e : (List.range l.length).filter (fun j : Nat => !(ks1.contains (j : Int))) = ((List.range l.length).filter (fun j : Nat => !(ks.contains (j : Int)))).filter (fun j : Nat => decide ((j : Int) ≠ i)) := by
    rw [List.filter_filter]
    refine List.filter_congr (fun j _ => ?_)
    rw [Bool.eq_iff_iff]
    simp only [Bool.not_eq_true', List.contains_eq_mem, decide_eq_false_iff_not, Bool.and_eq_true, decide_eq_true_eq, hk]
    constructor
    · intro h; exact ⟨fun e => h (.inr e), fun e => h (.inl e)⟩
    · rintro ⟨h1, h2⟩ (h | h)
      · exact h2 h
      · exact h1 h
  rw [e, List.length_filter_lt_length_iff_exists]
  refine ⟨i.toNat, ?_, ?_⟩
  · rw [List.mem_filter]
    refine ⟨List.mem_range.2 (by omega), ?_⟩
    simp only [Bool.not_eq_true', List.contains_eq_mem, decide_eq_false_iff_not]
    rwa [show ((i.toNat : Nat) : Int) = i by omega]
  · simp; omega
end Go.Proofs.YtdomloghcpfdjaaGreatDoor
namespace Go.Proofs.YtdomloghcpfdjaaGreatDoor
open Go.RowKit Go.LF
/-- A call hands back these terms, all of them in new blocks. -/
def NewTs (ts : List Tm) (w : World) (e : Ending) (w' : World) : Prop :=
  ∃ (a : Option Addr) (cap : Nat), e = .returned (.slice a ts.length cap) ∧ ts.length ≤ cap ∧ RepE (fun b => b < w.heap.size) w' 4 (ts.map Tm.dat) a 0 ∧ Upto none' w w'
set_option maxRecDepth 100000 in
set_option maxHeartbeats 4000000 in
theorem dupEach_step (ts : List Tm) (hl : ts.length ≤ 900000) (ih : ∀ t ∈ ts, ∀ (w : World) (cs : List Value), Rep none' w t.dat cs → Calls Tryz.prog 111 #[.agg cs.toArray] w (NewTm t w))
    (w : World) (a : Option Addr) (cap : Nat) (hE : RepE none' w 4 (ts.map Tm.dat) a 0) :
    Calls Tryz.prog 224 #[.slice a ts.length cap, .func (.func 111) #[] #[]] w (NewTs ts w) := by
  obtain ⟨H, hH⟩ : ∃ H, H = w.heap.size := ⟨_, rfl⟩
  have CL := clone_any ts (fun x => H ≤ x) w a cap hl (RepE.weaken (fun b _ e => .inr (by omega)) _ _ _ _ (RepE.fresh' _ _ _ _ hE))
  obtain ⟨ul, hul⟩ : ∃ ul, ul = ts.length := ⟨_, rfl⟩
  rw [← hul] at CL
  rw [← hul]
  have HL := hid hul
  have HH := hid hH
  have hl3 : (ul : Int) ≤ 900000 := by omega
  clear hul hE
  go_enter Tryz.func224, Tryz.ntmps224
  go_wp2_with fail
  (with_reducible refine CL.mono ?_)
  rintro e w4 ⟨v, css, rfl, hS, hU4⟩
  obtain ⟨sa, sc, rfl, hsc, _⟩ := hS.cells
  rw [← hH] at hS
  have hM4 := RowM.start (okb := H) (lo := H) hS (fun b e => .inl (by omega))
  rw [← HL.out] at hsc
  rw [← HL.out]
  have hz4 := hU4.size
  rw [← hH] at hz4
  clear hS CL hH
  go_wp2_with fail
  go_loopw [12] (fun v12 wr => ∃ (j : Nat), v12 = .int .i64 (j : Int) ∧ j ≤ ul ∧ RowM H H H wr sa (ts.take j) ts ∧ Upto none' w wr)
    (fun v12 _ => ul - (intOf v12).toNat)
  case atStart => exact ⟨0, rfl, Nat.zero_le _, hM4, hU4⟩
  case round =>
    obtain ⟨j, rfl, hj, hM, hU⟩ := hrel
    have u1 : (j : Int) ≤ 900000 := by omega
    by_cases hlt : (j : Int) < (ul : Int)
    · have hjl : j < ts.length := by have := HL.out; omega
      have htk : (ts.take j).length = j := by rw [List.length_take]; omega
      obtain ⟨g, cs, rfl, hgb, hgl, hgf, hgn, hgc, _, hgr⟩ := hM j hjl
      have hRj := hgr hjl (by omega)
      have htk1 : ts.take (j + 1) = ts.take j ++ [ts[j]] := List.take_succ_eq_append_getElem hjl
      have IH0 := ih ts[j] (List.getElem_mem hjl)
      generalize ts[j] = tj at *
      obtain ⟨kj, nj, ij, lj, aj, cj, htj, rfl, _, _⟩ := tm_open hRj
      have g0 := hgc 0 _ rfl
      rw [Nat.add_zero] at g0
      have g1 := hgc 1 _ rfl
      have g2 := hgc 2 _ rfl
      have g3 := hgc 3 _ rfl
      generalize lj.length = ljl at *
      obtain ⟨wa, hwa⟩ : ∃ wa, wa = wr.alloc (.cells #[.int .i64 kj, .string (B nj), .int .i64 ij, .slice aj ljl cj] 29) := ⟨_, rfl⟩
      have hUa : Upto none' wr wa := by rw [hwa]; exact (Upto.refl none' wr).alloc _
      have hB : Box4 wa wr.heap.size (.int .i64 kj) (.string (B nj)) (.int .i64 ij) (.slice aj ljl cj) 29 := by rw [hwa]; exact Box4.at_new rfl
      have IH := IH0 wa _ ((rep_pre hRj).on hUa)
      obtain ⟨Q, hQ⟩ : ∃ Q, Q = wr.heap.size := ⟨_, rfl⟩
      rw [← hQ] at hB
      have HWA := hid hwa
      have HQ := hid hQ
      have HJ := hid (And.intro htk (And.intro hjl htk1))
      have hza := hUa.size
      clear hwa hQ hRj hgr hgc htj hgn htk htk1 IH0 hjl
      go_upto_region 5 with fail
      rw [← HWA.out, ← HQ.out]
      obtain ⟨b0, b1, b2, b3⟩ := hB.cells
      go_wp2_with fail
      (with_reducible refine IH.mono ?_)
      rintro e w6 ⟨k6, i6, n6, a6, l6, c6, rfl, hR6, hU6⟩
      have hU16 := hUa.and hU6
      have v0 := hU16.cell g0 (fun x => x)
      have v1 := hU16.cell g1 (fun x => x)
      have v2 := hU16.cell g2 (fun x => x)
      have v3 := hU16.cell g3 (fun x => x)
      have f6 := fun o => (hU16.cells.2 g o hgl (fun x => x)).trans (hgf o)
      have hM6 := hM.kept hU16
      have hnx := RowM.next (u := tj) (d0 := .int .i64 k6) (d1 := .string (B n6)) (d2 := .int .i64 i6) (d3 := .slice a6 l6 c6) hM6 (by rw [HJ.out.1]; exact HJ.out.2.1) (Nat.le_refl _) (Rep.weaken (fun b _ e => by omega) _ _ hR6) rfl
      rw [HJ.out.1, ← HJ.out.2.2] at hnx
      have hU9 : Upto none' w _ := (hU.and hU16).trans hnx.2 (fun x hx e => by have := HH.out; omega)
      have hgl6 : g < w6.heap.size := Nat.lt_of_lt_of_le hgl hU16.size
      clear hM6 hM hR6 hU6 hU16 g0 g1 g2 g3 b0 b1 b2 b3 IH hB hUa
      go_wp2_with fail
      go_roundw
      case rel => exact ⟨j + 1, by go_num, by omega, hnx.1, hU9⟩
      case measure => simp [intOf]; omega
    · have hje : j = ts.length := by have := HL.out; omega
      have hrep := hM.rep (by rw [hje, List.take_length])
      rw [hje, List.take_length] at hrep
      have HJ := hid hje
      clear hje hM
      go_wp2_with fail
      go_ret
      exact ⟨sa, sc, by rw [HL.out]; rfl, by rw [← HL.out]; exact hsc, by rw [← HH.out]; exact hrep, hU⟩
set_option maxRecDepth 100000 in
set_option maxHeartbeats 4000000 in
theorem dupTerms_step (ts : List Tm) (hl : ts.length ≤ 900000) (ih : ∀ t ∈ ts, ∀ (w : World) (cs : List Value), Rep none' w t.dat cs → Calls Tryz.prog 111 #[.agg cs.toArray] w (NewTm t w))
    (w : World) (a : Option Addr) (cap : Nat) (hE : RepE none' w 4 (ts.map Tm.dat) a 0) : Calls Tryz.prog 181 #[.slice a ts.length cap] w (NewTs ts w) := by
  have EA := dupEach_step ts hl ih w a cap hE
  obtain ⟨ul, hul⟩ : ∃ ul, ul = ts.length := ⟨_, rfl⟩
  rw [← hul] at EA
  rw [← hul]
  have HL := hid hul
  clear hul
  go_enter Tryz.func181, Tryz.ntmps181
  go_wp2_with fail
  (with_reducible refine EA.mono ?_)
  rintro e w4 ⟨sa, sc, rfl, hsc, hR, hU4⟩
  go_wp2_with fail
  go_ret
  exact ⟨sa, sc, rfl, hsc, hR, hU4⟩
set_option maxRecDepth 100000 in
set_option maxHeartbeats 4000000 in
theorem dupTerm_any (t : Tm) : t.size ≤ 900000 → ∀ (w : World) (cs : List Value), Rep none' w t.dat cs → Calls Tryz.prog 111 #[.agg cs.toArray] w (NewTm t w) := by
  induction t using Tm.ind with
  | h k n i ts ih =>
    intro hs w cs hR
    obtain ⟨a, cap, rfl, hcap, hE⟩ := rep_tm.1 hR
    have hlen := Tm.length_le_sizes ts
    rw [Tm.size_mk] at hs
    obtain ⟨w1, hw1⟩ : ∃ w1, w1 = (w.alloc (.cells #[.int .i64 k, .string (B n), .int .i64 i, .slice a ts.length cap] 29)).alloc (.cells #[.int .i64 0, .string (B []), .int .i64 0, .slice none 0 0] 29) := ⟨_, rfl⟩
    have hU1 : Upto none' w w1 := by rw [hw1]; exact ((Upto.refl none' w).alloc _).alloc _
    have ha1 : Box4 w1 w.heap.size (.int .i64 k) (.string (B n)) (.int .i64 i) (.slice a ts.length cap) 29 := by rw [hw1]; exact (Box4.at_new rfl).kept ((Upto.refl none' _).alloc _)
    have hr1 : Box4 w1 (w.heap.size + 1) (.int .i64 0) (.string (B [])) (.int .i64 0) (.slice none 0 0) 29 := by rw [hw1]; exact Box4.at_new (by simp)
    have TS := dupTerms_step ts (by omega) (fun t ht => ih t ht (by have := Tm.size_le_sizes ht; omega)) w1 a cap (hE.on hU1)
    obtain ⟨ul, hul⟩ : ∃ ul, ul = ts.length := ⟨_, rfl⟩
    rw [← hul] at TS ha1 hw1
    rw [← hul]
    have HW := hid hw1
    obtain ⟨H, hH⟩ : ∃ H, H = w.heap.size := ⟨_, rfl⟩
    have HH := hid hH
    rw [← hH] at ha1 hr1
    have HL := hid hul
    have hz1 := hr1.lt
    clear hw1 hH hul hR hE hcap ih hs hlen
    obtain ⟨t0, t1, t2, t3⟩ := ha1.cells
    go_enter Tryz.func111, Tryz.ntmps111
    go_upto_region 1 with fail
    rw [← show B [] = { data := #[] } from rfl, ← HW.out, ← HH.out]
    go_wp2_with fail
    (with_reducible refine TS.mono ?_)
    rintro e w4 ⟨sa, sc, rfl, hsc, hR4, hU4⟩
    rw [← HL.out] at hsc
    rw [← HL.out]
    have ha4 := ha1.kept hU4
    have hr4 := hr1.kept hU4
    obtain ⟨w5, hw5⟩ : ∃ w5, w5 = w4.setCell ⟨H, 3, none⟩ (.slice sa ul sc) := ⟨_, rfl⟩
    have hset5 : Upto (fun x => x = H) w4 w5 := by rw [hw5]; exact Upto.set (Upto.refl _ _) 3 _
    have ha5 : Box4 w5 H (.int .i64 k) (.string (B n)) (.int .i64 i) (.slice sa ul sc) 29 := by rw [hw5]; exact ha4.set3 _
    have hr5 := hr4.keep hset5 (by omega)
    have hset := hr5.set (d0 := .int .i64 k) (d1 := .string (B n)) (d2 := .int .i64 i) (d3 := .slice sa ul sc)
    obtain ⟨x0, x1, x2, x3⟩ := ha4.cells
    obtain ⟨y0, y1, y2, y3⟩ := ha4.frozens
    have hla := ha4.lt
    have hR5 : Rep (fun b => b < H) ((((w5.setCell ⟨H + 1, 0, none⟩ (.int .i64 k)).setCell ⟨H + 1, 1, none⟩ (.string (B n))).setCell ⟨H + 1, 2, none⟩ (.int .i64 i)).setCell ⟨H + 1, 3, none⟩ (.slice sa ul sc)) (Tm.mk k n i ts).dat [.int .i64 k, .string (B n), .int .i64 i, .slice sa ul sc] := by
      refine rep_tm.2 ⟨sa, sc, by rw [HL.out], by rw [← HL.out]; exact hsc, ?_⟩
      refine RepE.weaken (fun b _ e => ?_) _ _ _ _ (RepE.keep (O := fun b => b < w1.heap.size) hset.2 (fun b e => by omega) _ _ _ _ (RepE.keep hset5 (fun b e => by omega) _ _ _ _ hR4))
      omega
    have HW5 := hid hw5
    have HR5 := hid (And.intro hR5 hset.2)
    obtain ⟨e0, e1, e2, e3⟩ := hset.1.cells
    have HE := hid (And.intro e0 (And.intro e1 (And.intro e2 e3)))
    clear hw5 e0 e1 e2 e3 hset hR5 hR4 t0 t1 t2 t3
    go_upto_region 2 with fail
    rw [← HW5.out]
    obtain ⟨p0, p1, p2, p3⟩ := ha5.cells
    obtain ⟨r0, r1, r2, r3⟩ := hr5.cells
    obtain ⟨f0, f1, f2, f3⟩ := hr5.frozens
    have hlr := hr5.lt
    go_wp2_with fail
    obtain ⟨e0, e1, e2, e3⟩ := HE.out
    refine bodyPost_ret (v := .agg #[.int .i64 k, .string (B n), .int .i64 i, .slice sa ul sc]) ?_ rfl ?_
    · simp [results, Tryz.f111, go_sem, e0, e1, e2, e3]
    · exact ⟨k, i, n, sa, ul, sc, rfl, by rw [← HH.out]; exact HR5.out.1, ((hU1.and hU4).trans hset5 (fun b hb e => by have := HH.out; omega)).trans HR5.out.2 (fun b hb e => by have := HH.out; omega)⟩
theorem dupTerms_any (ts : List Tm) (hl : ts.length ≤ 900000) (hs : ∀ t ∈ ts, t.size ≤ 900000) (w : World) (a : Option Addr) (cap : Nat) (hE : RepE none' w 4 (ts.map Tm.dat) a 0) : Calls Tryz.prog 181 #[.slice a ts.length cap] w (NewTs ts w) :=
  dupTerms_step ts hl (fun t ht => dupTerm_any t (hs t ht)) w a cap hE
end Go.Proofs.YtdomloghcpfdjaaGreatDoor
namespace Go.Proofs.YtdomloghcpfdjaaGreatDoor
open Go.RowKit Go.LF
theorem info_mv : (Tryz.prog.info? 53).map (fun i => (i.zero, i.size, i.bytes)) = some (some (.agg #[.string (B []), .int .i64 0, .string (B []), .int .i64 0, .slice none 0 0, .slice none 0 0]), 6, 96) := by kernel_rfl
theorem row_cellsM {O : Nat → Prop} {W : World} : ∀ (ts : List Mv) (a : Option Addr) (j : Nat), RepE O W 6 (ts.map Mv.dat) a j →
    ∃ css : List (List Value), css.length = ts.length ∧ (∀ cs ∈ css, cs.length = 6) ∧ (∀ u ∈ css.flatten, u.oneCell' = true) ∧ (∀ i u, css.flatten[i]? = some u → ∃ b o, a = some ⟨b, o, none⟩ ∧ W.cell? ⟨b, o + j + i, none⟩ = some u) ∧
      ∀ i (h : i < ts.length) (h' : i < css.length), Rep O W ts[i].dat css[i]
  | [], _, _, _ => ⟨[], rfl, by simp, by simp, by simp, fun i h => by simp at h⟩
  | t :: ts, a, j, h => by
    simp only [List.map_cons, RepE] at h
    obtain ⟨⟨b, o, cs, rfl, hb, hO, hl, hc, hr⟩, hrest⟩ := h
    obtain ⟨css, h1, h2, h3, h4, h5⟩ := row_cellsM ts _ (j + 6) hrest
    obtain ⟨k, n, i, a', cap', va, vc, hcs, _⟩ := mv_open hr
    refine ⟨cs :: css, by simp [h1], ?_, ?_, ?_, ?_⟩
    · intro x hx
      rcases List.mem_cons.1 hx with rfl | hx
      · exact hl
      · exact h2 x hx
    · intro u hu
      rw [List.flatten_cons, List.mem_append] at hu
      rcases hu with hu | hu
      · rw [hcs] at hu
        simp only [List.mem_cons, List.not_mem_nil, or_false] at hu
        rcases hu with rfl | rfl | rfl | rfl | rfl | rfl <;> rfl
      · exact h3 u hu
    · intro m u hu
      rw [List.flatten_cons] at hu
      by_cases hm : m < cs.length
      · rw [List.getElem?_append_left hm] at hu
        exact ⟨b, o, rfl, hc m u hu⟩
      · rw [List.getElem?_append_right (by omega)] at hu
        obtain ⟨b', o', e, hc'⟩ := h4 _ u hu
        cases e
        refine ⟨b, o, rfl, ?_⟩
        rw [show o + j + m = o + (j + 6) + (m - cs.length) by omega]
        exact hc'
    · intro m hm hm'
      cases m with
      | zero => exact hr
      | succ m => exact h5 m (by simpa using hm) (by simpa using hm')
theorem repE_noneM {O : Nat → Prop} {W : World} {ts : List Mv} (h : RepE O W 6 (ts.map Mv.dat) none 0) : ts = [] := by
  cases ts with
  | nil => rfl
  | cons t ts => simp only [List.map_cons, RepE] at h; obtain ⟨⟨_, _, _, e, _⟩, _⟩ := h; cases e
/-- What slices.Clone hands back: a row of its own, with the same metavariables. -/
def ClonedM (H : Nat) (ts : List Mv) (w : World) (e : Ending) (w' : World) : Prop := ∃ v css, e = .returned v ∧ RowD 53 6 (fun b => H ≤ b) w.heap.size w' v (ts.map Mv.dat) css ∧ Upto none' w w'
set_option maxRecDepth 100000 in
set_option maxHeartbeats 4000000 in
theorem cloneM_any (ts : List Mv) (w : World) (H : Nat) (hH : H = w.heap.size) (a : Option Addr) (cap : Nat) (hl : ts.length ≤ 900000) (hE : RepE none' w 6 (ts.map Mv.dat) a 0) :
    Calls Tryz.prog 223 #[.slice a ts.length cap] w (ClonedM H ts w) := by
  obtain ⟨i0, hi, hi0, hi1, hi2⟩ := info_parts info_mv
  rcases a with _ | ad
  · obtain rfl := repE_noneM hE
    clear hE
    have he : ∀ w : World, (binOp .eql 44 (.slice none 0 cap) (.slice none 0 0)).run Tryz.prog w = .ok (.bool true) w := fun _ => rfl
    go_enter Tryz.func223, Tryz.ntmps223
    go_wp2_with fail
    go_ret
    exact ⟨_, [], rfl, RowD.nil _ _ _ _ _, Upto.refl _ _⟩
  · rcases Nat.eq_zero_or_pos ts.length with h0 | h0
    · obtain rfl : ts = [] := List.eq_nil_of_length_eq_zero h0
      clear hE h0
      simp only [List.length_nil]
      have he : ∀ w : World, (binOp .eql 44 (.slice (some ad) 0 cap) (.slice none 0 0)).run Tryz.prog w = .ok (.bool false) w := fun _ => rfl
      go_enter Tryz.func223, Tryz.ntmps223
      go_wp2_with fail
      go_ret
      exact ⟨_, [], rfl, ⟨rfl, by simp, World.ownsRow_made w #[] 0 (Nat.le_refl _) (by decide) (by simp), fun i h => by simp at h⟩, (Upto.refl none' w).alloc _⟩
    · obtain ⟨css, r1, r2, r3, r4, r5⟩ := row_cellsM ts _ 0 (RepE.fresh' 6 _ _ _ hE)
      have hflat := (flatW 6 css r2).1
      rw [r1] at hflat
      obtain ⟨ub, uo, he⟩ : ∃ ub uo, ad = ⟨ub, uo, none⟩ := by
        obtain ⟨u, hu⟩ : ∃ u, css.flatten[0]? = some u := ⟨_, List.getElem?_eq_getElem (by omega)⟩
        obtain ⟨b, o, e, _⟩ := r4 0 u hu
        cases e
        exact ⟨b, o, rfl⟩
      subst he
      have HN : ∀ j u, css.flatten[j]? = some u → (w.alloc (.cells #[] 53)).cell? ((⟨ub, uo, none⟩ : Addr).add j) = some u := by
        intro j u hu
        obtain ⟨b', o', e, hc⟩ := r4 j u hu
        cases e
        have hadd : (⟨ub, uo, none⟩ : Addr).add j = ⟨ub, uo + j, none⟩ := by unfold Addr.add; split <;> simp_all
        rw [hadd]
        exact ((Upto.refl none' w).alloc _).cell (by simpa using hc) (fun x => x)
      have HL := hid (And.intro r1 (And.intro r2 r5))
      obtain ⟨len, hlen⟩ : ∃ len, len = ts.length := ⟨_, rfl⟩
      rw [← hlen] at hl h0 hflat ⊢
      have HE := hid (And.intro hlen hH)
      clear hE r1 r2 r4 r5 hlen hH
      have he : ∀ w : World, (binOp .eql 44 (.slice (some ⟨ub, uo, none⟩) len cap) (.slice none 0 0)).run Tryz.prog w = .ok (.bool false) w := fun _ => rfl
      go_enter Tryz.func223, Tryz.ntmps223
      go_wp2_with (at_builtin; refine wpList_append_lies _ (by rfl) _ _ 44 (by rfl) w.heap.size 53 i0 (.agg #[.string (B []), .int .i64 0, .string (B []), .int .i64 0, .slice none 0 0, .slice none 0 0]) 6 96 (by kernel_rfl) hi hi0 hi1 hi2 rfl (by decide) (.slice (some ⟨w.heap.size, 0, none⟩) 0 0) 0 [] (by rfl) (World.ownsRow_made w #[] 0 (Nat.le_refl _) (by decide) (by simp)) ⟨ub, uo, none⟩ len cap css.flatten (by rfl) hflat HN r3 h0 (by simp only [maxLen]; omega) (by omega) (by simp) _ rfl ?_; intro g cap' w7 hown hgrow hat hlt)
      go_ret
      have hU7 : Upto none' w w7 := ((Upto.refl none' w).alloc (.cells #[] 53)).trans (grown_own hgrow) (fun i hi e => by simp only [Value.ownBlock, Option.some.injEq] at e; omega)
      have hge : w.heap.size ≤ g := by
        rcases hat with hat | hat
        · simp only [Value.ownBlock, Option.some.injEq] at hat; omega
        · rw [hat]; simp
      refine ⟨.slice (some ⟨g, 0, none⟩) len cap', css, rfl, ⟨by rw [HL.out.1, List.length_map], HL.out.2.1, ?_, fun i hi hi' => ?_⟩, hU7⟩
      · rw [List.length_map, ← HE.out.1]
        simpa using hown
      · simp only [List.getElem_map]
        refine Rep.weaken (fun b _ e => ?_) _ _ ((HL.out.2.2 i (by simpa using hi) hi').on hU7)
        rcases e with e | e
        · exact .inr (by have := HE.out.2; omega)
        · simp only [Value.ownBlock, Option.some.injEq] at e
          exact .inr (by omega)
end Go.Proofs.YtdomloghcpfdjaaGreatDoor
namespace Go.Proofs.YtdomloghcpfdjaaGreatDoor
open Go.RowKit Go.LF
theorem set_cells6 {W : World} {g o : Nat} {c0 c1 c2 c3 c4 c5 d0 d1 d2 d3 d4 d5 : Value} (h0 : W.cell? ⟨g, o, none⟩ = some c0) (h1 : W.cell? ⟨g, o + 1, none⟩ = some c1) (h2 : W.cell? ⟨g, o + 2, none⟩ = some c2) (h3 : W.cell? ⟨g, o + 3, none⟩ = some c3) (h4 : W.cell? ⟨g, o + 4, none⟩ = some c4) (h5 : W.cell? ⟨g, o + 5, none⟩ = some c5) {W' : World}
    (hW : W' = (((((W.setCell ⟨g, o, none⟩ d0).setCell ⟨g, o + 1, none⟩ d1).setCell ⟨g, o + 2, none⟩ d2).setCell ⟨g, o + 3, none⟩ d3).setCell ⟨g, o + 4, none⟩ d4).setCell ⟨g, o + 5, none⟩ d5) :
    (W'.cell? ⟨g, o, none⟩ = some d0 ∧ W'.cell? ⟨g, o + 1, none⟩ = some d1 ∧ W'.cell? ⟨g, o + 2, none⟩ = some d2 ∧ W'.cell? ⟨g, o + 3, none⟩ = some d3 ∧ W'.cell? ⟨g, o + 4, none⟩ = some d4 ∧ W'.cell? ⟨g, o + 5, none⟩ = some d5) ∧
    (∀ x, x ≠ o → x ≠ o + 1 → x ≠ o + 2 → x ≠ o + 3 → x ≠ o + 4 → x ≠ o + 5 → W'.cell? ⟨g, x, none⟩ = W.cell? ⟨g, x, none⟩) ∧ Upto (fun b => b = g) W W' := by
  have ne : ∀ x y : Nat, x ≠ y → (⟨g, x, none⟩ : Addr) ≠ ⟨g, y, none⟩ := fun x y h e => h (by cases e; rfl)
  have other : ∀ (V : World) (x y : Nat) (v : Value), x ≠ y → (V.setCell ⟨g, x, none⟩ v).cell? ⟨g, y, none⟩ = V.cell? ⟨g, y, none⟩ := fun V x y v h => World.cell?_setCell_other _ _ _ _ (ne x y h)
  obtain ⟨⟨a0, a1, a2, a3⟩, ao, aU⟩ := set_cells (d0 := d0) (d1 := d1) (d2 := d2) (d3 := d3) h0 h1 h2 h3 rfl
  have b4 := (ao (o + 4) (by omega) (by omega) (by omega) (by omega)).trans h4
  have b5 := (ao (o + 5) (by omega) (by omega) (by omega) (by omega)).trans h5
  subst hW
  refine ⟨⟨?_, ?_, ?_, ?_, ?_, ?_⟩, fun x x0 x1 x2 x3 x4 x5 => ?_, Upto.set (Upto.set aU _ _) _ _⟩
  · rw [other _ _ _ _ (by omega), other _ _ _ _ (by omega)]; exact a0
  · rw [other _ _ _ _ (by omega), other _ _ _ _ (by omega)]; exact a1
  · rw [other _ _ _ _ (by omega), other _ _ _ _ (by omega)]; exact a2
  · rw [other _ _ _ _ (by omega), other _ _ _ _ (by omega)]; exact a3
  · rw [other _ _ _ _ (by omega)]; exact World.cell?_setCell_same _ _ _ b4
  · exact World.cell?_setCell_same _ _ _ (by rw [other _ _ _ _ (by omega)]; exact b5)
  · rw [other _ _ _ _ (Ne.symm x5), other _ _ _ _ (Ne.symm x4)]; exact ao x x0 x1 x2 x3
/-- A row of metavariables of which the first have been replaced: these lie in new blocks. -/
def RowV (lo base : Nat) (W : World) (a : Option Addr) (us ts : List Mv) : Prop :=
  ∀ i, i < ts.length → ∃ g cs, a = some ⟨g, 0, none⟩ ∧ base ≤ g ∧ g < W.heap.size ∧ (∀ o, W.frozen? ⟨g, o, none⟩ = false) ∧ cs.length = 6 ∧ (∀ m u, cs[m]? = some u → W.cell? ⟨g, i * 6 + m, none⟩ = some u) ∧
    (∀ (h : i < us.length), Rep (fun b => b < base ∨ b = g) W us[i].dat cs) ∧ (∀ (h : i < ts.length), us.length ≤ i → Rep (fun b => lo ≤ b) W ts[i].dat cs)
section
variable {lo base : Nat} {W W' : World} {a : Option Addr} {us ts : List Mv}
theorem RowV.start {sc : Nat} {css : List (List Value)} {sa : Option Addr} (h : RowD 53 6 (fun b => lo ≤ b) base W (.slice sa ts.length sc) (ts.map Mv.dat) css) : RowV lo base W sa [] ts := by
  intro i hi
  obtain ⟨sa', sc', hv, _, hc⟩ := h.cells
  simp only [Value.slice.injEq] at hv
  obtain ⟨rfl, _, rfl⟩ := hv
  have hi' : i < css.length := by have := h.1; rw [List.length_map] at this; omega
  obtain ⟨g, rfl, _, hb, hlt, hf, hg⟩ := hc i (by simpa using hi) hi'
  refine ⟨g, css[i], rfl, hb, hlt, hf, h.2.1 _ (List.getElem_mem hi'), hg, (fun h => by simp at h), fun h' _ => ?_⟩
  have := h.2.2.2 i (by simpa using hi) hi'
  simp only [List.getElem_map] at this
  exact Rep.weaken (fun b _ e => .inl e) _ _ this
theorem RowV.keep {S : Nat → Prop} (h : RowV lo base W a us ts) (hU : Upto S W W') (hS : ∀ b, S b → lo ≤ b ∧ b < base) : RowV lo base W' a us ts := by
  intro i hi
  obtain ⟨g, cs, h1, h2, h3, h4, h5, h6, h7, h8⟩ := h i hi
  have hg : ¬ S g := fun e => by have := (hS g e).2; omega
  refine ⟨g, cs, h1, h2, Nat.lt_of_lt_of_le h3 hU.size, fun o => ?_, h5, fun m u hu => hU.cell (h6 m u hu) hg, fun h => ?_, fun h hi' => ?_⟩
  · rw [hU.cells.2 g o h3 hg]; exact h4 o
  · exact Rep.keep hU (fun b e => .inl (hS b e).2) _ _ (h7 h)
  · exact Rep.keep hU (fun b e => (hS b e).1) _ _ (h8 h hi')
theorem RowV.kept (h : RowV lo base W a us ts) (hU : Upto none' W W') : RowV lo base W' a us ts := h.keep hU (fun _ x => x.elim)
/-- The next one is replaced. -/
theorem RowV.next {g : Nat} {u : Mv} {d0 d1 d2 d3 d4 d5 : Value} (h : RowV lo base W (some ⟨g, 0, none⟩) us ts) (hj : us.length < ts.length) (hob : lo ≤ base) (hR : Rep (fun b => b < base ∨ b = g) W u.dat [d0, d1, d2, d3, d4, d5])
    (hW : W' = (((((W.setCell ⟨g, us.length * 6, none⟩ d0).setCell ⟨g, us.length * 6 + 1, none⟩ d1).setCell ⟨g, us.length * 6 + 2, none⟩ d2).setCell ⟨g, us.length * 6 + 3, none⟩ d3).setCell ⟨g, us.length * 6 + 4, none⟩ d4).setCell ⟨g, us.length * 6 + 5, none⟩ d5) :
    RowV lo base W' (some ⟨g, 0, none⟩) (us ++ [u]) ts ∧ Upto (fun b => b = g) W W' := by
  obtain ⟨g', cs, e, hb, hlt, hf, hcl, hc, _, _⟩ := h us.length hj
  cases e
  have hcj : ∀ m, m < 6 → ∃ u, W.cell? ⟨g, us.length * 6 + m, none⟩ = some u := fun m hm => ⟨_, hc m _ (List.getElem?_eq_getElem (by rw [hcl]; exact hm))⟩
  obtain ⟨_, u0⟩ := hcj 0 (by omega)
  obtain ⟨_, u1⟩ := hcj 1 (by omega)
  obtain ⟨_, u2⟩ := hcj 2 (by omega)
  obtain ⟨_, u3⟩ := hcj 3 (by omega)
  obtain ⟨_, u4⟩ := hcj 4 (by omega)
  obtain ⟨_, u5⟩ := hcj 5 (by omega)
  obtain ⟨⟨v0, v1, v2, v3, v4, v5⟩, hoth, hU⟩ := set_cells6 (d0 := d0) (d1 := d1) (d2 := d2) (d3 := d3) (d4 := d4) (d5 := d5) u0 u1 u2 u3 u4 u5 hW
  refine ⟨fun i hi => ?_, hU⟩
  obtain ⟨g', cs', e, hb', hlt', hf', hcl', hc', h7, h8⟩ := h i hi
  cases e
  have hfr : ∀ o, W'.frozen? ⟨g, o, none⟩ = false := fun o => by rw [hW]; simp only [World.frozen?_setCell]; exact hf o
  by_cases hij : i = us.length
  · subst hij
    refine ⟨g, [d0, d1, d2, d3, d4, d5], rfl, hb, Nat.lt_of_lt_of_le hlt hU.size, hfr, rfl, fun m x hx => ?_, fun h' => ?_, fun _ h' => ?_⟩
    · match m, hx with
      | 0, hx => cases hx; exact v0
      | 1, hx => cases hx; exact v1
      | 2, hx => cases hx; exact v2
      | 3, hx => cases hx; exact v3
      | 4, hx => cases hx; exact v4
      | 5, hx => cases hx; exact v5
    · simp only [List.getElem_concat_length]
      exact Rep.keep hU (fun b e => .inr e) _ _ hR
    · (simp at h'; omega)
  · refine ⟨g, cs', rfl, hb, Nat.lt_of_lt_of_le hlt hU.size, hfr, hcl', fun m x hx => ?_, fun h' => ?_, fun h' h'' => ?_⟩
    · have hm : m < 6 := by rw [← hcl']; exact (List.getElem?_eq_some_iff.1 hx).1
      rw [hoth _ (by omega) (by omega) (by omega) (by omega) (by omega) (by omega)]
      exact hc' m x hx
    · have hlt2 : i < us.length := by simp at h'; omega
      rw [List.getElem_append_left hlt2]
      exact Rep.keep hU (fun b e => .inr e) _ _ (h7 hlt2)
    · simp at h''
      exact Rep.keep hU (fun b e => (by omega)) _ _ (h8 h' (by omega))
/-- The whole row has been replaced. -/
theorem RowV.rep (h : RowV lo base W a us ts) (hl : us.length = ts.length) : RepE (fun b => b < base) W 6 (us.map Mv.dat) a 0 := by
  refine repE_of _ _ _ (fun i hi => ?_)
  simp only [List.length_map] at hi
  obtain ⟨g, cs, rfl, hb, hlt, _, hcl, hc, h7, _⟩ := h i (by omega)
  refine ⟨g, 0, cs, rfl, hlt, by omega, hcl, fun m u hu => ?_, ?_⟩
  · rw [show 0 + 0 + i * 6 + m = i * 6 + m by omega]
    exact hc m u hu
  · simp only [List.getElem_map]
    exact Rep.weaken (fun b _ e => .inl e) _ _ (h7 hi)
end
/-- A cell of a row of one's own is set. -/
theorem own_set {w : World} {base : Nat} {e : TypeId} {size g n cap j : Nat} {xs : List Value} {u : Value} (h : w.ownsRow base e size (.slice (some ⟨g, 0, none⟩) n cap) n xs) : (w.setCell ⟨g, j, none⟩ u).ownsRow base e size (.slice (some ⟨g, 0, none⟩) n cap) n (xs.set j u) := by
  obtain ⟨hl, h⟩ := h
  rcases h with ⟨e0, _⟩ | ⟨g', cap', cur, e1, hb, hg, hn, hm, hs, ht⟩
  · simp at e0
  · cases e1
    obtain ⟨hlt, hk⟩ := Array.getElem?_eq_some_iff.1 hg
    refine ⟨by simpa using hl, .inr ⟨g, cap, cur.setIfInBounds j u, rfl, hb, ?_, hn, hm, by simpa using hs, ?_⟩⟩
    · show (w.heap.modify g _)[g]? = _
      rw [Array.getElem?_eq_getElem (by rw [Array.size_modify]; exact hlt), Array.getElem_modify_self, hk]
      rfl
    · rw [Array.toList_setIfInBounds, List.take_set, ht]
/-- A list in pieces of six. -/
def six : Nat → List Value → List (List Value)
  | 0, _ => []
  | n + 1, l => l.take 6 :: six n (l.drop 6)
theorem six_length (n : Nat) : ∀ l, (six n l).length = n := by
  induction n with
  | zero => intro l; rfl
  | succ n ih => intro l; simp [six, ih]
theorem six_flatten (n : Nat) : ∀ l, l.length = n * 6 → (six n l).flatten = l ∧ ∀ cs ∈ six n l, cs.length = 6 := by
  induction n with
  | zero => intro l h; simp only [six, List.flatten_nil]; exact ⟨(List.eq_nil_of_length_eq_zero (by omega)).symm, by simp⟩
  | succ n ih =>
    intro l h
    obtain ⟨h1, h2⟩ := ih (l.drop 6) (by rw [List.length_drop]; omega)
    rw [six, List.flatten_cons, h1, List.take_append_drop]
    refine ⟨rfl, fun cs hc => ?_⟩
    rcases List.mem_cons.1 hc with rfl | hc
    · rw [List.length_take]; omega
    · exact h2 cs hc
theorem six_get (n : Nat) : ∀ l (i : Nat) (h : i < (six n l).length), (six n l)[i] = (l.drop (i * 6)).take 6 := by
  induction n with
  | zero => intro l i h; simp [six] at h
  | succ n ih =>
    intro l i h
    cases i with
    | zero => simp [six]
    | succ i =>
      simp only [six, List.getElem_cons_succ]
      rw [ih (l.drop 6) i (by simpa [six] using h), List.drop_drop]
      congr 2
      omega
/-- A row of one's own that has been replaced whole. -/
theorem RowV.row {lo base : Nat} {W : World} {sa : Option Addr} {us ts : List Mv} {sc : Nat} {flat : List Value} (h : RowV lo base W sa us ts) (hl : us.length = ts.length) (ho : W.ownsRow base 53 6 (.slice sa ts.length sc) ts.length flat) :
    RowD 53 6 (fun b => b < base) base W (.slice sa ts.length sc) (us.map Mv.dat) (six ts.length flat) := by
  obtain ⟨s1, s2⟩ := six_flatten ts.length flat ho.1
  refine ⟨by rw [six_length, List.length_map, hl], s2, by rw [List.length_map, hl, s1]; exact ho, fun i hi hi' => ?_⟩
  rw [List.length_map] at hi
  obtain ⟨g, cs, rfl, hb, hlt, _, hcl, hc, h7, _⟩ := h i (by omega)
  simp only [List.getElem_map]
  have hcs : (six ts.length flat)[i] = cs := by
    rw [six_get]
    have hfl := ho.1
    apply List.ext_getElem?
    intro m
    by_cases hm : m < 6
    · rw [List.getElem?_take_of_lt hm, List.getElem?_drop]
      obtain ⟨u, hu⟩ : ∃ u, cs[m]? = some u := ⟨_, List.getElem?_eq_getElem (by omega)⟩
      obtain ⟨x, hx⟩ : ∃ x, flat[i * 6 + m]? = some x := ⟨_, List.getElem?_eq_getElem (by omega)⟩
      have h1 := ho.cells (g := g) rfl _ x hx
      have hadd : (⟨g, 0, none⟩ : Addr).add (i * 6 + m) = ⟨g, i * 6 + m, none⟩ := by unfold Addr.add; split <;> simp_all
      rw [hadd, hc m u hu] at h1
      rw [hx, hu, Option.some.inj h1]
    · rw [List.getElem?_eq_none (by rw [List.length_take]; omega), List.getElem?_eq_none (by omega)]
  rw [hcs]
  exact Rep.weaken (fun b _ e => e.elim .inl (fun e => .inr (by simpa [Value.ownBlock] using e.symm))) _ _ (h7 (by omega))
/-- A call hands back this metavariable, in new blocks. -/
def NewMv (m : Mv) (w : World) (e : Ending) (w' : World) : Prop :=
  ∃ (k i : Int) (n : List UInt8) (a : Option Addr) (len cap : Nat) (va : Option Addr) (vl vc : Nat), e = .returned (.agg #[.string (B m.name), .int .i64 k, .string (B n), .int .i64 i, .slice a len cap, .slice va vl vc]) ∧
    Rep (fun b => b < w.heap.size) w' m.dat [.string (B m.name), .int .i64 k, .string (B n), .int .i64 i, .slice a len cap, .slice va vl vc] ∧ Upto none' w w'
/-- .. these metavariables, as a row of its own. -/
def NewMs (ts : List Mv) (w : World) (e : Ending) (w' : World) : Prop :=
  ∃ v css, e = .returned v ∧ RowD 53 6 (fun b => b < w.heap.size) w.heap.size w' v (ts.map Mv.dat) css ∧ Upto none' w w'
/-- What is copied is not too large. -/
def Mv.ok (m : Mv) : Prop := m.type.size ≤ 900000 ∧ m.value.length ≤ 900000 ∧ ∀ v ∈ m.value, v.size ≤ 900000
set_option maxRecDepth 100000 in
set_option maxHeartbeats 4000000 in
theorem dupStore1_any (m : Mv) (hm : Mv.ok m) (w : World) (cs : List Value) (h : Rep none' w m.dat cs) : Calls Tryz.prog 180 #[.agg cs.toArray] w (NewMv m w) := by
  obtain ⟨k, n, i, a, cap, va, vc, rfl, hR, hvc, hV⟩ := mv_open h
  obtain ⟨name, ty, vl⟩ := m
  simp only at hR hvc hV hm ⊢
  obtain ⟨hm1, hm2, hm3⟩ := hm
  simp only at hm1 hm2 hm3
  obtain ⟨w1, hw1⟩ : ∃ w1, w1 = (w.alloc (.cells #[.string (B name), .int .i64 k, .string (B n), .int .i64 i, .slice a ty.args.length cap, .slice va vl.length vc] 53)).alloc (.cells #[.string (B []), .int .i64 0, .string (B []), .int .i64 0, .slice none 0 0, .slice none 0 0] 53) := ⟨_, rfl⟩
  have hU1 : Upto none' w w1 := by rw [hw1]; exact ((Upto.refl none' w).alloc _).alloc _
  have ha1 : Box6 w1 w.heap.size (.string (B name)) (.int .i64 k) (.string (B n)) (.int .i64 i) (.slice a ty.args.length cap) (.slice va vl.length vc) 53 := by rw [hw1]; exact (Box6.at_new rfl).kept ((Upto.refl none' _).alloc _)
  have hr1 : Box6 w1 (w.heap.size + 1) (.string (B [])) (.int .i64 0) (.string (B [])) (.int .i64 0) (.slice none 0 0) (.slice none 0 0) 53 := by rw [hw1]; exact Box6.at_new (by simp)
  have hd : Upto none' w1 w1.drew := (Upto.refl none' w1).drew
  have T1 := dupTerm_any ty hm1 w1.drew _ (hR.on (hU1.and hd))
  have TS := fun (W : World) (hu : Upto none' w1 W) => dupTerms_any vl hm2 hm3 W va vc (hV.on (hU1.and hu))
  obtain ⟨H, hH⟩ : ∃ H, H = w.heap.size := ⟨_, rfl⟩
  have HH := hid hH
  have HW := hid hw1
  rw [← hH] at ha1 hr1
  have hz1 := hr1.lt
  have hne : H ≠ H + 1 := by omega
  generalize ty.args.length = al at *
  generalize hvl : vl.length = ll at *
  have HVL := hid hvl
  clear hw1 hH hR hvc hV hm1 hm2 hm3 h hvl
  obtain ⟨t0, t1, t2, t3, t4, t5⟩ := ha1.cells
  obtain ⟨f0, f1, f2, f3, f4, f5⟩ := ha1.frozens
  have hla := ha1.lt
  go_enter Tryz.func180, Tryz.ntmps180
  go_upto_region 1 with fail
  rw [← show B [] = { data := #[] } from rfl, ← HW.out, ← HH.out]
  go_region_law (first
    | ((rw [if_pos (by rfl)]); go_simp; (go_at_call 111); (with_reducible refine T1.mono ?_); rintro e w4 ⟨k4, i4, n4, a4, l4, c4, rfl, hR4, hU4⟩; have hU14 := hd.and hU4; have ha4 := ha1.kept hU14; obtain ⟨x0, x1, x2, x3, x4, x5⟩ := ha4.cells; obtain ⟨y0, y1, y2, y3, y4, y5⟩ := ha4.frozens; have hl4 := ha4.lt; have TS4 := TS w4 hU14)
    | ((rw [if_pos (by rfl)]); go_simp; (go_at_call 181); (with_reducible refine TS4.mono ?_); rintro e w5 ⟨sa, sc, rfl, hsc, hR5, hU5⟩; have hU15 := hU14.and hU5; have ha5 := ha1.kept hU15; obtain ⟨p0, p1, p2, p3, p4, p5⟩ := ha5.cells; obtain ⟨q0, q1, q2, q3, q4, q5⟩ := ha5.frozens; have hl5 := ha5.lt))
  all_goals
    obtain ⟨w9, hw9⟩ : ∃ w9, w9 = ((((w5.setCell ⟨H, 1, none⟩ (.int .i64 k4)).setCell ⟨H, 2, none⟩ (.string (B n4))).setCell ⟨H, 3, none⟩ (.int .i64 i4)).setCell ⟨H, 4, none⟩ (.slice a4 l4 c4)).setCell ⟨H, 5, none⟩ (.slice sa vl.length sc) := ⟨_, rfl⟩
    have hset : Upto (fun x => x = H) w5 w9 := by rw [hw9]; exact Upto.set (Upto.set (Upto.set (Upto.set (Upto.set (Upto.refl _ _) 1 _) 2 _) 3 _) 4 _) 5 _
    have ha9 : Box6 w9 H (.string (B name)) (.int .i64 k4) (.string (B n4)) (.int .i64 i4) (.slice a4 l4 c4) (.slice sa vl.length sc) 53 := by rw [hw9]; exact ((((ha5.set1 _).set2 _).set3 _).set4 _).set5 _
    have hr9 := (hr1.kept hU15).keep hset (fun e => hne e.symm)
    rw [← hw9]
    have hset9 := hr9.set (d0 := .string (B name)) (d1 := .int .i64 k4) (d2 := .string (B n4)) (d3 := .int .i64 i4) (d4 := .slice a4 l4 c4) (d5 := .slice sa vl.length sc)
    have hRr : Rep (fun b => b < H) ((((((w9.setCell ⟨H + 1, 0, none⟩ (.string (B name))).setCell ⟨H + 1, 1, none⟩ (.int .i64 k4)).setCell ⟨H + 1, 2, none⟩ (.string (B n4))).setCell ⟨H + 1, 3, none⟩ (.int .i64 i4)).setCell ⟨H + 1, 4, none⟩ (.slice a4 l4 c4)).setCell ⟨H + 1, 5, none⟩ (.slice sa vl.length sc)) (Mv.dat ⟨name, ty, vl⟩) [.string (B name), .int .i64 k4, .string (B n4), .int .i64 i4, .slice a4 l4 c4, .slice sa vl.length sc] := by
      refine rep_mv.2 ⟨[.int .i64 k4, .string (B n4), .int .i64 i4, .slice a4 l4 c4], sa, sc, rfl, ?_, hsc, ?_⟩
      · exact Rep.weaken (fun b _ e => by show b < (World.drew _).heap.size; simp; omega) _ _ (Rep.keep hset9.2 (fun b e => by show b < (World.drew _).heap.size; simp; omega) _ _ (Rep.keep hset (fun b e => by show b < (World.drew _).heap.size; simp; omega) _ _ (hR4.on hU5)))
      · exact RepE.weaken (fun b _ e => by have := hU14.size; omega) _ _ _ _ (RepE.keep hset9.2 (fun b e => by have := hU14.size; omega) _ _ _ _ (RepE.keep hset (fun b e => by have := hU14.size; omega) _ _ _ _ hR5))
    have hU9 := ((hU1.and hU15).trans hset (fun b hb e => by have := HH.out; omega)).trans hset9.2 (fun b hb e => by have := HH.out; omega)
    have HF := hid (And.intro hRr hU9)
    obtain ⟨e0, e1, e2, e3, e4, e5⟩ := hset9.1.cells
    have HE := hid (And.intro e0 (And.intro e1 (And.intro e2 (And.intro e3 (And.intro e4 e5)))))
    clear hw9 hRr hU9 e0 e1 e2 e3 e4 e5 hset9 hset hR4 hR5 x0 x1 x2 x3 x4 x5 p0 p1 p2 p3 p4 p5 q0 q1 q2 q3 q4 q5 y0 y1 y2 y3 y4 y5 t0 t1 t2 t3 t4 t5 f0 f1 f2 f3 f4 f5
    obtain ⟨t0, t1, t2, t3, t4, t5⟩ := ha9.cells
    obtain ⟨r0, r1, r2, r3, r4, r5⟩ := hr9.cells
    obtain ⟨f0, f1, f2, f3, f4, f5⟩ := hr9.frozens
    have hl9 := hr9.lt
    go_wp2_with fail
    obtain ⟨e0, e1, e2, e3, e4, e5⟩ := HE.out
    refine bodyPost_ret (v := .agg #[.string (B name), .int .i64 k4, .string (B n4), .int .i64 i4, .slice a4 l4 c4, .slice sa vl.length sc]) ?_ rfl ?_
    · simp [results, Tryz.f180, go_sem, e0, e1, e2, e3, e4, e5]
    · exact ⟨k4, i4, n4, a4, l4, c4, sa, _, sc, rfl, by rw [← HH.out]; exact HF.out.1, HF.out.2⟩
set_option maxRecDepth 100000 in
set_option maxHeartbeats 4000000 in
theorem dupEachM_any (ts : List Mv) (hl : ts.length ≤ 900000) (hok : ∀ m ∈ ts, Mv.ok m) (w : World) (a : Option Addr) (cap : Nat) (hE : RepE none' w 6 (ts.map Mv.dat) a 0) :
    Calls Tryz.prog 179 #[.slice a ts.length cap, .func (.func 180) #[] #[]] w (NewMs ts w) := by
  obtain ⟨H, hH⟩ : ∃ H, H = w.heap.size := ⟨_, rfl⟩
  have CL := cloneM_any ts w H hH a cap hl hE
  obtain ⟨ul, hul⟩ : ∃ ul, ul = ts.length := ⟨_, rfl⟩
  rw [← hul] at CL
  rw [← hul]
  have HL := hid hul
  have HH := hid hH
  have hl3 : (ul : Int) ≤ 900000 := by omega
  clear hul hE
  go_enter Tryz.func179, Tryz.ntmps179
  go_wp2_with fail
  (with_reducible refine CL.mono ?_)
  rintro e w4 ⟨v, css, rfl, hS, hU4⟩
  obtain ⟨sa, sc, rfl, hsc, _⟩ := hS.cells
  rw [← hH] at hS
  rw [List.length_map] at hS hsc
  have hM4 := RowV.start (lo := H) hS
  have hO4 := hS.2.2.1
  rw [List.length_map, ← HL.out] at hO4
  rw [List.length_map, ← HL.out]
  rw [← HL.out] at hsc
  have hz4 := hU4.size
  rw [← hH] at hz4
  clear hS CL hH
  go_wp2_with fail
  go_loopw [12] (fun v12 wr => ∃ (j : Nat), v12 = .int .i64 (j : Int) ∧ j ≤ ul ∧ RowV H H wr sa (ts.take j) ts ∧ (∃ flat, wr.ownsRow H 53 6 (.slice sa ul sc) ul flat) ∧ Upto none' w wr)
    (fun v12 _ => ul - (intOf v12).toNat)
  case atStart => exact ⟨0, rfl, Nat.zero_le _, hM4, ⟨_, hO4⟩, hU4⟩
  case round =>
    obtain ⟨j, rfl, hj, hM, ⟨flat, hOw⟩, hU⟩ := hrel
    have u1 : (j : Int) ≤ 900000 := by omega
    by_cases hlt : (j : Int) < (ul : Int)
    · have hjl : j < ts.length := by have := HL.out; omega
      have htk : (ts.take j).length = j := by rw [List.length_take]; omega
      obtain ⟨g, cs, rfl, hgb, hgl, hgf, hgn, hgc, _, hgr⟩ := hM j hjl
      have hRj := hgr hjl (by omega)
      have htk1 : ts.take (j + 1) = ts.take j ++ [ts[j]] := List.take_succ_eq_append_getElem hjl
      have IH0 := dupStore1_any ts[j] (hok _ (List.getElem_mem hjl))
      generalize ts[j] = tj at *
      obtain ⟨kj, nj, ij, aj, cj, vaj, vcj, rfl, _, _, _⟩ := mv_open hRj
      have g0 := hgc 0 _ rfl
      rw [Nat.add_zero] at g0
      have g1 := hgc 1 _ rfl
      have g2 := hgc 2 _ rfl
      have g3 := hgc 3 _ rfl
      have g4 := hgc 4 _ rfl
      have g5 := hgc 5 _ rfl
      generalize tj.type.args.length = ljl at *
      generalize tj.value.length = vjl at *
      generalize hnm : tj.name = nm at *
      obtain ⟨wa, hwa⟩ : ∃ wa, wa = wr.alloc (.cells #[.string (B nm), .int .i64 kj, .string (B nj), .int .i64 ij, .slice aj ljl cj, .slice vaj vjl vcj] 53) := ⟨_, rfl⟩
      have hUa : Upto none' wr wa := by rw [hwa]; exact (Upto.refl none' wr).alloc _
      have hB : Box6 wa wr.heap.size (.string (B nm)) (.int .i64 kj) (.string (B nj)) (.int .i64 ij) (.slice aj ljl cj) (.slice vaj vjl vcj) 53 := by rw [hwa]; exact Box6.at_new rfl
      have IH := IH0 wa _ ((rep_pre hRj).on hUa)
      obtain ⟨Q, hQ⟩ : ∃ Q, Q = wr.heap.size := ⟨_, rfl⟩
      rw [← hQ] at hB
      have HWA := hid hwa
      have HQ := hid hQ
      have HNM := hid hnm
      have HJ := hid (And.intro htk (And.intro hjl htk1))
      have hza := hUa.size
      clear hwa hQ hRj hgr hgc hgn htk htk1 IH0 hjl hnm
      go_upto_region 5 with fail
      rw [← HWA.out, ← HQ.out]
      obtain ⟨b0, b1, b2, b3, b4, b5⟩ := hB.cells
      go_wp2_with fail
      (with_reducible refine IH.mono ?_)
      rintro e w6 ⟨k6, i6, n6, a6, l6, c6, va6, vl6, vc6, rfl, hR6, hU6⟩
      rw [HNM.out] at hR6
      rw [HNM.out]
      have hU16 := hUa.and hU6
      have v0 := hU16.cell g0 (fun x => x)
      have v1 := hU16.cell g1 (fun x => x)
      have v2 := hU16.cell g2 (fun x => x)
      have v3 := hU16.cell g3 (fun x => x)
      have v4 := hU16.cell g4 (fun x => x)
      have v5 := hU16.cell g5 (fun x => x)
      have f6 := fun o => (hU16.cells.2 g o hgl (fun x => x)).trans (hgf o)
      have hM6 := hM.kept hU16
      have hnx := RowV.next (u := tj) (d0 := .string (B nm)) (d1 := .int .i64 k6) (d2 := .string (B n6)) (d3 := .int .i64 i6) (d4 := .slice a6 l6 c6) (d5 := .slice va6 vl6 vc6) hM6 (by rw [HJ.out.1]; exact HJ.out.2.1) (Nat.le_refl _) (Rep.weaken (fun b _ e => by omega) _ _ hR6) rfl
      rw [HJ.out.1, ← HJ.out.2.2] at hnx
      have hOw6 := hOw.kept (row := none) ⟨hU16.os, hU16.tape, hU16.output, hU16.size, fun k hk _ => hU16.block k hk (fun x => x)⟩ (.inr (by simp [Value.ownBlock]))
      have hOw9 := own_set (j := j * 6 + 5) (u := .slice va6 vl6 vc6) (own_set (j := j * 6 + 4) (u := .slice a6 l6 c6) (own_set (j := j * 6 + 3) (u := .int .i64 i6) (own_set (j := j * 6 + 2) (u := .string (B n6)) (own_set (j := j * 6 + 1) (u := .int .i64 k6) (own_set (j := j * 6) (u := .string (B nm)) hOw6)))))
      have hU9 : Upto none' w _ := (hU.and hU16).trans hnx.2 (fun x hx e => by have := HH.out; omega)
      have hgl6 : g < w6.heap.size := Nat.lt_of_lt_of_le hgl hU16.size
      clear hM6 hM hR6 hU6 hU16 g0 g1 g2 g3 g4 g5 b0 b1 b2 b3 b4 b5 IH hB hUa
      go_wp2_with fail
      go_roundw
      case rel => exact ⟨j + 1, by go_num, by omega, hnx.1, ⟨_, hOw9⟩, hU9⟩
      case measure => simp [intOf]; omega
    · have hje : j = ts.length := by have := HL.out; omega
      rw [hje, List.take_length] at hM
      rw [HL.out] at hOw
      have hrep := hM.row rfl hOw
      have HJ := hid hje
      clear hje hM
      go_wp2_with fail
      go_ret
      exact ⟨.slice sa ts.length sc, _, by rw [← HL.out]; rfl, by rw [← HH.out]; exact hrep, hU⟩
set_option maxRecDepth 100000 in
set_option maxHeartbeats 4000000 in
theorem dupStore_any (ts : List Mv) (hl : ts.length ≤ 900000) (hok : ∀ m ∈ ts, Mv.ok m) (w : World) (a : Option Addr) (cap : Nat) (hE : RepE none' w 6 (ts.map Mv.dat) a 0) :
    Calls Tryz.prog 110 #[.slice a ts.length cap] w (NewMs ts w) := by
  have EA := dupEachM_any ts hl hok w a cap hE
  obtain ⟨ul, hul⟩ : ∃ ul, ul = ts.length := ⟨_, rfl⟩
  rw [← hul] at EA
  rw [← hul]
  have HL := hid hul
  clear hul
  go_enter Tryz.func110, Tryz.ntmps110
  go_wp2_with fail
  (with_reducible refine EA.mono ?_)
  rintro e w4 ⟨v, css, rfl, hR, hU4⟩
  go_wp2_with fail
  go_ret
  exact ⟨v, css, rfl, hR, hU4⟩
end Go.Proofs.YtdomloghcpfdjaaGreatDoor
namespace Go.LF
/-- A value is refused in a store of n metavariables. -/
def outV (t : Tm) (n : Int) : Bool := decide (0 < (if t.wf == 0 then t.scope else 0)) || (Go.Proofs.YtdomloghcpfdjaaGreatDoor.Tm.metas t).any (fun i => decide (n ≤ i))
def checkE (n : Int) (name : List UInt8) (a : Tm) : Int :=
  if name ≠ [] ∧ isName name = false then 1 else if a.wf ≠ 0 then a.wf else if (a.isTyp && a.small) = false then 32 else if outV a n = true then 3 else if 2048 ≤ n then 7 else 0
def valueE (m : Tm) (n : Int) : Int := if m.wf ≠ 0 then m.wf else if (m.isObj && m.small) = false then 32 else if outV m n = true then 3 else 0
end Go.LF
namespace Go.Proofs.YtdomloghcpfdjaaGreatDoor
open Go.RowKit Go.LF
set_option maxHeartbeats 1000000 in
theorem indexInt_any {ks : List Int} (g : FuncId) (c : Value) (p : Int → Bool) (hlen : ks.length ≤ 1000000) (w : World)
    (H : ∀ x ∈ ks, ∀ (W : World), Upto none' w W → Calls Tryz.prog g #[.int .i64 x, c] W fun e w' => e = .returned (.bool (p x)) ∧ Upto none' W w')
    (hg : ∀ args w, (callFunc g args).run Tryz.prog w = .ok (.enter g args) w)
    (a : Option Addr) (cap : Nat) (hE : RepE none' w 1 (ks.map (Dat.int .i64)) a 0) :
    Calls Tryz.prog 173 #[.slice a ks.length cap, .func (.func g) #[] #[c]] w fun e w' =>
      Found (ks.any p) e ∧ Upto none' w w' := by
  go_enter Tryz.func173, Tryz.ntmps173
  go_wp2_with fail
  go_loopw [8] (fun v wr => ∃ j : Nat, j ≤ ks.length ∧ v = .int .i64 j ∧ (ks.take j).any p = false ∧ Upto none' w wr)
    (fun v _ => ks.length - (intOf v).toNat)
  case atStart => exact ⟨0, Nat.zero_le _, rfl, rfl, Upto.refl _ _⟩
  case round =>
    obtain ⟨j, hj, rfl, hA, hU⟩ := hrel
    have HA := hid hA
    clear hA
    by_cases hlt : j < ks.length
    · obtain ⟨b, o, rfl, hb, _, hc⟩ := int_cell (hE.on hU) j hlt
      have H1 := H _ (List.getElem_mem hlt) wr hU
      have hT : (ks.take (j + 1)).any p = ((ks.take j).any p || p ks[j]) := by
        rw [List.take_succ_eq_append_getElem hlt]; simp only [List.any_append, List.any_cons, List.any_nil, Bool.or_false]
      have hM : p ks[j] = true → ks.any p = true := fun h => List.any_eq_true.2 ⟨_, List.getElem_mem hlt, h⟩
      rw [HA.out] at hT
      have HT := hid hT
      have HM := hid hM
      clear hT hM
      generalize p ks[j] = q at *
      generalize ks[j] = x at *
      cases q
      all_goals
        go_wp2_with fail
        refine H1.mono ?_
        rintro e w1 ⟨rfl, hU1⟩
        go_wp2
      · go_roundw
        case rel => exact ⟨j + 1, by omega, by go_num, by rw [HT.out]; rfl, hU.trans hU1 (fun _ _ x => x)⟩
        case measure => simp [intOf]; omega
      · go_ret
        exact ⟨⟨j, rfl, by rw [HM.out (by trivial)]; simp⟩, hU.trans hU1 (fun _ _ x => x)⟩
    · have hj' : ks.take j = ks := List.take_of_length_le (by omega)
      have HA' := HA.out
      rw [hj'] at HA'
      clear HA hj'
      have HA := hid HA'
      clear HA'
      go_wp2
      go_ret
      exact ⟨⟨-1, rfl, by rw [HA.out]; rfl⟩, hU⟩
set_option maxHeartbeats 1000000 in
theorem containsInt_any {ks : List Int} (g : FuncId) (c : Value) (p : Int → Bool) (hlen : ks.length ≤ 1000000) (w : World)
    (H : ∀ x ∈ ks, ∀ (W : World), Upto none' w W → Calls Tryz.prog g #[.int .i64 x, c] W fun e w' => e = .returned (.bool (p x)) ∧ Upto none' W w')
    (hg : ∀ args w, (callFunc g args).run Tryz.prog w = .ok (.enter g args) w)
    (a : Option Addr) (cap : Nat) (hE : RepE none' w 1 (ks.map (Dat.int .i64)) a 0) :
    Calls Tryz.prog 97 #[.slice a ks.length cap, .func (.func g) #[] #[c]] w fun e w' =>
      e = .returned (.bool (ks.any p)) ∧ Upto none' w w' := by
  have H1 := indexInt_any g c p hlen w H hg a cap hE
  clear H
  go_enter Tryz.func97, Tryz.ntmps97
  go_wp2_with fail
  refine H1.mono ?_
  rintro e w1 ⟨⟨m, rfl, hm⟩, hU⟩
  have HM := hid hm
  clear hm H1
  go_wp2
  go_ret
  exact ⟨ret_bool HM.out, hU⟩
set_option maxHeartbeats 1000000 in
theorem outside1_any (b : Nat) (n x : Int) (w : World) (hb : w.cell? ⟨b, 0, none⟩ = some (.int .i64 n)) :
    Calls Tryz.prog 221 #[.int .i64 x, .pointer (some ⟨b, 0, none⟩)] w fun e w' => e = .returned (.bool (decide (n ≤ x))) ∧ Upto none' w w' := by
  go_enter Tryz.func221, Tryz.ntmps221
  go_wp2_with fail
  go_ret
  exact ⟨rfl, Upto.refl _ _⟩
theorem metas_len13 (t : Tm) : (Tm.metas t).length ≤ t.wt := by
  unfold Tm.metas
  have := Tm.size_le_wt t
  split
  · have := addMetas_len t []; simp at this; show (Tm.addMetas [] t).length ≤ _; omega
  · simp
set_option maxRecDepth 100000 in
set_option maxHeartbeats 4000000 in
theorem outside_any (t : Tm) (n : Int) (hwt : t.wt ≤ 1000000) (w : World) (cs : List Value) (h : Rep none' w t.dat cs) :
    Calls Tryz.prog 169 #[.agg cs.toArray, .int .i64 n] w fun e w' => e = .returned (.bool (outV t n)) ∧ Upto none' w w' := by
  obtain ⟨k, nm, i, ts, a, cap, ht, rfl, _, _⟩ := tm_open h
  generalize ts.length = len at *
  obtain ⟨w1, hw1⟩ : ∃ w1, w1 = (w.alloc (.cells #[.int .i64 k, .string (B nm), .int .i64 i, .slice a len cap] 29)).alloc (.cells #[.int .i64 n] 3) := ⟨_, rfl⟩
  have hU1 : Upto none' w w1 := by rw [hw1]; exact ((Upto.refl none' w).alloc _).alloc _
  have ha1 : Box4 w1 w.heap.size (.int .i64 k) (.string (B nm)) (.int .i64 i) (.slice a len cap) 29 := by rw [hw1]; exact (Box4.at_new rfl).kept ((Upto.refl none' _).alloc _)
  have hn1 : w1.cell? ⟨w.heap.size + 1, 0, none⟩ = some (.int .i64 n) := by
    rw [hw1]
    have := (cell_new1 (w.alloc (.cells #[.int .i64 k, .string (B nm), .int .i64 i, .slice a len cap] 29)) (.int .i64 n) 3).1
    rw [World.size_alloc] at this
    exact this
  have hR1 := h.on hU1
  have SC := scope_any t hwt w1 _ hR1
  have HW := hid hw1
  obtain ⟨H, hH⟩ : ∃ H, H = w.heap.size := ⟨_, rfl⟩
  have HH := hid hH
  rw [← hH] at ha1 hn1
  have hms := Nat.le_trans (metas_len13 t) hwt
  obtain ⟨sc, hsc⟩ : ∃ sc : Int, sc = (if t.wf == 0 then t.scope else 0) := ⟨_, rfl⟩
  obtain ⟨r, hr⟩ : ∃ r, r = outV t n := ⟨_, rfl⟩
  rw [← hr]
  unfold outV at hr
  rw [← hsc] at hr SC
  have HR := hid hr
  clear hw1 hH hr hsc h ht
  obtain ⟨t0, t1, t2, t3⟩ := ha1.cells
  go_enter Tryz.func169, Tryz.ntmps169
  go_upto_region 1 with fail
  rw [← HW.out, ← HH.out]
  by_cases hs : 0 < sc
  · go_wp2_with (first | ((go_at_call 120); (with_reducible refine SC.mono ?_); rintro e w2 ⟨rfl, hU2⟩))
    go_ret
    exact ⟨by rw [HR.out, decide_eq_true hs]; rfl, hU1.and hU2⟩
  · go_wp2_with (first | ((go_at_call 120); (with_reducible refine SC.mono ?_); rintro e w2 ⟨rfl, hU2⟩; clear t0 t1 t2 t3; obtain ⟨t0, t1, t2, t3⟩ := (ha1.kept hU2).cells; have MT := metas_any t hwt w2 _ (hR1.on hU2)) | ((go_at_call 98); (with_reducible refine MT.mono ?_); rintro e w3 ⟨v, rfl, hI, hU3⟩; obtain ⟨va, vc, rfl, hvc, hEv⟩ := ints_open hI.rep; have hU13 := hU2.and hU3; have CI := containsInt_any 221 (.pointer (some ⟨H + 1, 0, none⟩)) (fun i => decide (n ≤ i)) hms w3 (fun x _ W hu => outside1_any (H + 1) n x W ((hU13.and hu).cell hn1 (fun x => x))) (Tryz.call221) va vc (RepE.weaken (fun _ _ x => x.elim) _ _ _ _ hEv)) | ((go_at_call 97); (with_reducible refine CI.mono ?_); rintro e w4 ⟨rfl, hU4⟩))
    go_ret
    exact ⟨by rw [HR.out, decide_eq_false (by omega)]; rfl, (hU1.and hU13).and hU4⟩
set_option maxRecDepth 100000 in
set_option maxHeartbeats 4000000 in
theorem check13_any (n : Int) (name : List UInt8) (a : Tm) (hn : name.length ≤ 1000000) (hwt : a.wt ≤ 1000000) (w : World) (cs : List Value) (h : Rep none' w a.dat cs) :
    Calls Tryz.prog 90 #[.int .i64 n, .string (B name), .agg cs.toArray] w fun e w' => e = .returned (.int .i64 (checkE n name a)) ∧ Upto none' w w' := by
  obtain ⟨k, nm, i, ts, aa, cap, ht, rfl, _, _⟩ := tm_open h
  generalize ts.length = len at *
  obtain ⟨w1, hw1⟩ : ∃ w1, w1 = w.alloc (.cells #[.int .i64 k, .string (B nm), .int .i64 i, .slice aa len cap] 29) := ⟨_, rfl⟩
  have hU1 : Upto none' w w1 := by rw [hw1]; exact (Upto.refl none' w).alloc _
  have ha1 : Box4 w1 w.heap.size (.int .i64 k) (.string (B nm)) (.int .i64 i) (.slice aa len cap) 29 := by rw [hw1]; exact Box4.at_new rfl
  have hR1 := h.on hU1
  have IN := isName_any name w1 hn
  have WF := wellFormed_any a hwt w1 _ hR1
  have IT := fun (W : World) (hu : Upto none' w1 W) => isType_any a hwt W _ (hR1.on hu)
  have OU := fun (W : World) (hu : Upto none' w1 W) => outside_any a n hwt W _ (hR1.on hu)
  have HW := hid hw1
  obtain ⟨H, hH⟩ : ∃ H, H = w.heap.size := ⟨_, rfl⟩
  have HH := hid hH
  rw [← hH] at ha1
  obtain ⟨r, hr⟩ : ∃ r, r = checkE n name a := ⟨_, rfl⟩
  rw [← hr]
  unfold checkE at hr
  have HR := hid hr
  generalize a.wf = q at *
  generalize (a.isTyp && a.small) = ty at *
  generalize outV a n = ou at *
  generalize isName name = nb at *
  clear hw1 hH hr h ht
  obtain ⟨bad, hbad⟩ : ∃ bad, bad = (!(name == []) && !nb) := ⟨_, rfl⟩
  have hrb : r = if bad = true then 1 else if q ≠ 0 then q else if ty = false then 32 else if ou = true then 3 else if 2048 ≤ n then 7 else 0 := by
    rw [HR.out, hbad]
    congr 1
    cases nb <;> simp
  have HRB := hid hrb
  have HBAD := hid hbad
  clear hrb hbad HR
  obtain ⟨t0, t1, t2, t3⟩ := ha1.cells
  go_enter Tryz.func90, Tryz.ntmps90
  go_upto_region 1 with fail
  rw [← HW.out, ← HH.out]
  go_cut [14] from 8 to 14 (fun v14 wx => v14 = .bool bad ∧ w1 = wx)
  case first =>
    cases name with
    | nil =>
      go_wp2_with fail
      go_meet
      case rel => exact ⟨by rw [HBAD.out]; rfl, rfl⟩
    | cons c cs =>
      go_wp2_with (first | ((go_at_call 168); (with_reducible refine IN.mono ?_); rintro e w2 ⟨rfl, rfl⟩))
      go_meet
      case rel => exact ⟨by rw [HBAD.out]; cases nb <;> rfl, rfl⟩
  case rest =>
    obtain ⟨rfl, rfl⟩ := hcut
    cases bad
    case true =>
      go_wp2_with fail
      go_ret
      exact ⟨by rw [HRB.out]; rfl, hU1⟩
    case false =>
      go_upto_region 3 with fail
      go_wp2_with fail
      (with_reducible refine WF.mono ?_)
      rintro e w2 ⟨rfl, hU2⟩
      by_cases hq : q = 0
      · subst hq
        clear t0 t1 t2 t3
        obtain ⟨t0, t1, t2, t3⟩ := (ha1.kept hU2).cells
        have IT2 := IT w2 hU2
        cases ty
        case false =>
          go_wp2_with (first | ((go_at_call 81); (with_reducible refine IT2.mono ?_); rintro e w3 ⟨rfl, hU3⟩))
          go_ret
          exact ⟨by rw [HRB.out]; rfl, (hU1.and hU2).and hU3⟩
        case true =>
          cases ou
          case true =>
            go_wp2_with (first | ((go_at_call 81); (with_reducible refine IT2.mono ?_); rintro e w3 ⟨rfl, hU3⟩; have hU23 := hU2.and hU3; clear t0 t1 t2 t3; obtain ⟨t0, t1, t2, t3⟩ := (ha1.kept hU23).cells; have OU3 := OU w3 hU23) | ((go_at_call 169); (with_reducible refine OU3.mono ?_); rintro e w4 ⟨rfl, hU4⟩))
            go_ret
            exact ⟨by rw [HRB.out]; rfl, (hU1.and hU23).and hU4⟩
          case false =>
            by_cases hn2 : 2048 ≤ n
            all_goals
              have HN2 := hid hn2
              go_wp2_with (first | ((go_at_call 81); (with_reducible refine IT2.mono ?_); rintro e w3 ⟨rfl, hU3⟩; have hU23 := hU2.and hU3; clear t0 t1 t2 t3; obtain ⟨t0, t1, t2, t3⟩ := (ha1.kept hU23).cells; have OU3 := OU w3 hU23) | ((go_at_call 169); (with_reducible refine OU3.mono ?_); rintro e w4 ⟨rfl, hU4⟩))
              go_ret
            · have e : r = 7 := by rw [HRB.out]; simp [HN2.out]
              exact ⟨by rw [e]; rfl, (hU1.and hU23).and hU4⟩
            · have e : r = 0 := by rw [HRB.out]; simp [HN2.out]
              exact ⟨by rw [e]; rfl, (hU1.and hU23).and hU4⟩
      · have hq' : (q != 0) = true := by simpa using hq
        have HQ := hid hq
        clear hq
        go_wp2_with fail
        go_ret
        exact ⟨by rw [HRB.out, if_neg (by simp), if_pos HQ.out]; rfl, hU1.and hU2⟩
set_option maxRecDepth 100000 in
set_option maxHeartbeats 4000000 in
theorem value13_any (m : Tm) (n : Int) (hwt : m.wt ≤ 1000000) (w : World) (cs : List Value) (h : Rep none' w m.dat cs) :
    Calls Tryz.prog 91 #[.agg cs.toArray, .int .i64 n] w fun e w' => e = .returned (.int .i64 (valueE m n)) ∧ Upto none' w w' := by
  obtain ⟨k, nm, i, ts, aa, cap, ht, rfl, _, _⟩ := tm_open h
  generalize ts.length = len at *
  obtain ⟨w1, hw1⟩ : ∃ w1, w1 = w.alloc (.cells #[.int .i64 k, .string (B nm), .int .i64 i, .slice aa len cap] 29) := ⟨_, rfl⟩
  have hU1 : Upto none' w w1 := by rw [hw1]; exact (Upto.refl none' w).alloc _
  have ha1 : Box4 w1 w.heap.size (.int .i64 k) (.string (B nm)) (.int .i64 i) (.slice aa len cap) 29 := by rw [hw1]; exact Box4.at_new rfl
  have hR1 := h.on hU1
  have WF := wellFormed_any m hwt w1 _ hR1
  have IT := fun (W : World) (hu : Upto none' w1 W) => isObject_any m hwt W _ (hR1.on hu)
  have OU := fun (W : World) (hu : Upto none' w1 W) => outside_any m n hwt W _ (hR1.on hu)
  have HW := hid hw1
  obtain ⟨H, hH⟩ : ∃ H, H = w.heap.size := ⟨_, rfl⟩
  have HH := hid hH
  rw [← hH] at ha1
  obtain ⟨r, hr⟩ : ∃ r, r = valueE m n := ⟨_, rfl⟩
  rw [← hr]
  unfold valueE at hr
  generalize m.wf = q at *
  generalize (m.isObj && m.small) = ty at *
  generalize outV m n = ou at *
  have HRB := hid hr
  clear hw1 hH hr h ht
  obtain ⟨t0, t1, t2, t3⟩ := ha1.cells
  go_enter Tryz.func91, Tryz.ntmps91
  go_upto_region 1 with fail
  rw [← HW.out, ← HH.out]
  go_wp2_with fail
  (with_reducible refine WF.mono ?_)
  rintro e w2 ⟨rfl, hU2⟩
  by_cases hq : q = 0
  · subst hq
    clear t0 t1 t2 t3
    obtain ⟨t0, t1, t2, t3⟩ := (ha1.kept hU2).cells
    have IT2 := IT w2 hU2
    cases ty
    case false =>
      go_wp2_with (first | ((go_at_call 118); (with_reducible refine IT2.mono ?_); rintro e w3 ⟨rfl, hU3⟩))
      go_ret
      exact ⟨by rw [HRB.out]; rfl, (hU1.and hU2).and hU3⟩
    case true =>
      cases ou
      all_goals
        go_wp2_with (first | ((go_at_call 118); (with_reducible refine IT2.mono ?_); rintro e w3 ⟨rfl, hU3⟩; have hU23 := hU2.and hU3; clear t0 t1 t2 t3; obtain ⟨t0, t1, t2, t3⟩ := (ha1.kept hU23).cells; have OU3 := OU w3 hU23) | ((go_at_call 169); (with_reducible refine OU3.mono ?_); rintro e w4 ⟨rfl, hU4⟩))
        go_ret
        exact ⟨by rw [HRB.out]; rfl, (hU1.and hU23).and hU4⟩
  · have hq' : (q != 0) = true := by simpa using hq
    have HQ := hid hq
    clear hq
    go_wp2_with fail
    go_ret
    exact ⟨by rw [HRB.out, if_pos HQ.out]; rfl, hU1.and hU2⟩
end Go.Proofs.YtdomloghcpfdjaaGreatDoor
namespace Go.LF
/-- A metavariable more. -/
def newS (l : List Mv) (name : List UInt8) (a : Tm) : List Mv := if checkE l.length name a ≠ 0 then l else l ++ [⟨name, a, []⟩]
def newI (l : List Mv) (name : List UInt8) (a : Tm) : Int := if checkE l.length name a ≠ 0 then 0 else l.length
end Go.LF
namespace Go.Proofs.YtdomloghcpfdjaaGreatDoor
open Go.RowKit Go.LF
/-- A store that is not too large. -/
structure StOk (l : List Mv) : Prop where
  len : l.length ≤ 2048
  mv : ∀ m ∈ l, m.type.wt ≤ 300000 ∧ m.value.length ≤ 1000 ∧ ∀ v ∈ m.value, v.wt ≤ 300000
theorem StOk.dup {l : List Mv} (h : StOk l) : ∀ m ∈ l, Mv.ok m := fun m hm => by
  obtain ⟨h1, h2, h3⟩ := h.mv m hm
  refine ⟨by have := Tm.size_le_wt m.type; omega, by omega, fun v hv => by have := h3 v hv; have := Tm.size_le_wt v; omega⟩
/-- A store, a number and an error. -/
def GivesN (L : List Mv) (i e' : Int) (w : World) (e : Ending) (w' : World) : Prop :=
  ∃ v css, e = .returned (.tuple #[v, .int .i64 i, .int .i64 e']) ∧ RowD 53 6 (fun b => b < w.heap.size) w.heap.size w' v (L.map Mv.dat) css ∧ Upto none' w w'
theorem RowD.lower {T : TypeId} {wd base base' : Nat} {W : World} {v : Value} {ds : List Dat} {css : List (List Value)} (h : RowD T wd (fun b => b < base) base W v ds css) (hb : base' ≤ base) : RowD T wd (fun b => b < base') base' W v ds css := by
  refine ⟨h.1, h.2.1, ⟨h.2.2.1.1, ?_⟩, fun i h1 h2 => Rep.weaken (fun b _ e => e.elim (fun e => .inl (by omega)) .inr) _ _ (h.2.2.2 i h1 h2)⟩
  rcases h.2.2.1.2 with h5 | ⟨g, cap, cur, hv, hg, rest⟩
  · exact .inl h5
  · exact .inr ⟨g, cap, cur, hv, by omega, rest⟩
set_option maxRecDepth 100000 in
set_option maxHeartbeats 4000000 in
theorem new13_any (l : List Mv) (hl : StOk l) (name : List UInt8) (hn : name.length ≤ 1000000) (a : Tm) (haw : a.wt ≤ 300000) (w : World) (la : Option Addr) (lc : Nat) (cs : List Value) (hL : RepE none' w 6 (l.map Mv.dat) la 0) (h : Rep none' w a.dat cs) :
    Calls Tryz.prog 87 #[.slice la l.length lc, .string (B name), .agg cs.toArray] w (GivesN (newS l name a) (newI l name a) (checkE l.length name a) w) := by
  obtain ⟨i0, hi, hi0, hi1, hi2⟩ := info_parts info_mv
  obtain ⟨k, nm, i, ts, aa, cap, ht, rfl, _, _⟩ := tm_open h
  generalize ts.length = len at *
  obtain ⟨w1, hw1⟩ : ∃ w1, w1 = w.alloc (.cells #[.int .i64 k, .string (B nm), .int .i64 i, .slice aa len cap] 29) := ⟨_, rfl⟩
  have hU1 : Upto none' w w1 := by rw [hw1]; exact (Upto.refl none' w).alloc _
  have ha1 : Box4 w1 w.heap.size (.int .i64 k) (.string (B nm)) (.int .i64 i) (.slice aa len cap) 29 := by rw [hw1]; exact Box4.at_new rfl
  have hR1 := h.on hU1
  have has := Tm.size_le_wt a
  have DS := dupStore_any l (by have := hl.len; omega) hl.dup w1 la lc (hL.on hU1)
  have CK := fun (W : World) (hu : Upto none' w1 W) => check13_any l.length name a hn (by omega) W _ (hR1.on hu)
  have DT := fun (W : World) (hu : Upto none' w1 W) => dupTerm_any a (by omega) W _ (hR1.on hu)
  have HW := hid hw1
  obtain ⟨H, hH⟩ : ∃ H, H = w.heap.size := ⟨_, rfl⟩
  have HH := hid hH
  rw [← hH] at ha1
  obtain ⟨ll, hll⟩ : ∃ ll, ll = l.length := ⟨_, rfl⟩
  have hl2 : (ll : Int) ≤ 2048 := by have := hl.len; omega
  obtain ⟨E, hE⟩ : ∃ E : Int, E = checkE l.length name a := ⟨_, rfl⟩
  obtain ⟨L2, hL2⟩ : ∃ L2, L2 = newS l name a := ⟨_, rfl⟩
  obtain ⟨I2, hI2⟩ : ∃ I2, I2 = newI l name a := ⟨_, rfl⟩
  rw [← hE, ← hL2, ← hI2]
  unfold newS at hL2
  unfold newI at hI2
  rw [← hE] at CK hL2 hI2
  rw [← hll] at CK hI2 DS
  rw [← hll]
  have HL := hid (And.intro hll (And.intro hL2 hI2))
  have hz1 := ha1.lt
  clear hw1 hH hE hL2 hI2 hll h ht hL hR1
  obtain ⟨t0, t1, t2, t3⟩ := ha1.cells
  go_enter Tryz.func87, Tryz.ntmps87
  go_upto_region 1 with fail
  rw [← HW.out, ← HH.out]
  go_wp2_with fail
  (with_reducible refine DS.mono ?_)
  rintro e w2 ⟨v, css, rfl, hRD, hU2⟩
  have CK2 := CK w2 hU2
  have ha2 := ha1.kept hU2
  clear t0 t1 t2 t3 DS CK
  obtain ⟨t0, t1, t2, t3⟩ := ha2.cells
  go_wp2_with fail
  (with_reducible refine CK2.mono ?_)
  rintro e w3 ⟨rfl, hU3⟩
  have hU23 := hU2.and hU3
  have ha3 := ha1.kept hU23
  have hRD3 := hRD.on hU3 (fun b e => e)
  clear t0 t1 t2 t3 ha2 CK2
  by_cases hz : E = 0
  · subst hz
    have DT3 := DT w3 hU23
    obtain ⟨t0, t1, t2, t3⟩ := ha3.cells
    go_wp2_with fail
    (with_reducible refine DT3.mono ?_)
    rintro e w4 ⟨k4, i4, n4, a4, l4, c4, rfl, hR4, hU4⟩
    have hRD4 := hRD3.on hU4 (fun b e => e)
    have hal := (Upto.refl none' w4).alloc (.cells #[.string (B name), .int .i64 k4, .string (B n4), .int .i64 i4, .slice a4 l4 c4, .slice none 0 0] 53)
    have hRDa := hRD4.on hal (fun b e => e)
    have own := hRDa.2.2.1
    rw [List.length_map, ← HL.out.1] at own
    have hz4 : w1.heap.size ≤ w4.heap.size := Nat.le_trans hU23.size hU4.size
    go_wp2_with (at_builtin; go_loud (refine wpList_append_lies _ (by rfl) _ _ 44 (by rfl) w1.heap.size 53 i0 (.agg #[.string (B []), .int .i64 0, .string (B []), .int .i64 0, .slice none 0 0, .slice none 0 0]) 6 96 (by kernel_rfl) hi hi0 hi1 hi2 rfl (by decide) v ll css.flatten (by rfl) own ⟨w4.heap.size, 0, none⟩ 1 1 [.string (B name), .int .i64 k4, .string (B n4), .int .i64 i4, .slice a4 l4 c4, .slice none 0 0] (by rfl) rfl (World.news_of_block (heap_alloc_new w4 _)) (by simp [Value.oneCell']) (by omega) (by simp only [maxLen]; omega) (by omega) (by simp; omega) _ rfl ?_); intro g cap' w5 hown hgrow hat _hg5)
    have hRu : Rep (fun b => b < w1.heap.size ∨ v.ownBlock = some b) (w4.alloc (.cells #[.string (B name), .int .i64 k4, .string (B n4), .int .i64 i4, .slice a4 l4 c4, .slice none 0 0] 53)) (Mv.dat ⟨name, a, []⟩) [.string (B name), .int .i64 k4, .string (B n4), .int .i64 i4, .slice a4 l4 c4, .slice none 0 0] := by
      refine rep_mv.2 ⟨[.int .i64 k4, .string (B n4), .int .i64 i4, .slice a4 l4 c4], none, 0, rfl, (Rep.weaken (fun b _ e => ?_) _ _ hR4).on hal, Nat.le_refl _, by simp only [List.map_nil, RepE]⟩
      rcases e with e | e
      · have := hU23.size; omega
      · have := (hRD3.2.2.1.lt b e).2; omega
    have hown8 : w5.ownsRow w1.heap.size 53 6 (.slice (some ⟨g, 0, none⟩) ((l.map Mv.dat).length + 1) cap') ((l.map Mv.dat).length + 1) (css.flatten ++ [.string (B name), .int .i64 k4, .string (B n4), .int .i64 i4, .slice a4 l4 c4, .slice none 0 0]) := by rw [List.length_map, ← HL.out.1]; exact hown
    have hRw := hRDa.appended (d := Mv.dat ⟨name, a, []⟩) rfl hRu hown8 hgrow hat (Nat.le_refl _)
    rw [List.length_map, ← HL.out.1, show l.map Mv.dat ++ [Mv.dat ⟨name, a, []⟩] = (l ++ [(⟨name, a, []⟩ : Mv)]).map Mv.dat by simp] at hRw
    have hU5 : Upto none' w1 w5 := ((hU23.and hU4).and hal).trans (grown_own hgrow) (fun b hb e => by have := (hRDa.2.2.1.lt b e).1; omega)
    have HR := hid (And.intro hRw hU5)
    clear hRw hU5 hown8 hRu hown hgrow hat own hRDa hRD4 hRD3 hRD
    go_wp2_with fail
    refine bodyPost_ret (v := .tuple #[.slice (some ⟨g, 0, none⟩) (ll + 1) cap', .int .i64 (ll : Int), .int .i64 0]) ?_ rfl ?_
    · simp [results, Tryz.f87, go_sem]
    · refine ⟨_, css ++ [[.string (B name), .int .i64 k4, .string (B n4), .int .i64 i4, .slice a4 l4 c4, .slice none 0 0]], by rw [HL.out.2.2, if_neg (by simp)], ?_, hU1.and HR.out.2⟩
      rw [HL.out.2.1, if_neg (by simp)]
      exact HR.out.1.lower (by have := HH.out; omega)
  · have hz' : (E != 0) = true := by simpa using hz
    have HZ := hid hz
    clear hz
    go_wp2_with fail
    refine bodyPost_ret (v := .tuple #[v, .int .i64 0, .int .i64 E]) ?_ rfl ?_
    · simp [results, Tryz.f87, go_sem]
    · refine ⟨v, css, by rw [HL.out.2.2, if_pos HZ.out], ?_, hU1.and hU23⟩
      rw [HL.out.2.1, if_pos HZ.out]
      exact hRD3.lower (by have := HH.out; omega)
end Go.Proofs.YtdomloghcpfdjaaGreatDoor
namespace Go.Proofs.YtdomloghcpfdjaaGreatDoor
open Go.RowKit Go.LF
theorem repE_none1 {O : Nat → Prop} {W : World} {ts : List Int} (h : RepE O W 1 (ts.map (Dat.int .i64)) none 0) : ts = [] := by
  cases ts with
  | nil => rfl
  | cons t ts => simp only [List.map_cons, RepE] at h; obtain ⟨⟨_, _, _, e, _⟩, _⟩ := h; cases e
theorem run_append_ints {w : World} {O : Nat → Prop} {base : Nat} {v : Value} {L : List Int} (hS : Ints base w v L) (A : Option Addr) (m c : Nat) (us : List Int) (hm : m = us.length)
    (hE : RepE O w 1 (us.map (Dat.int .i64)) A 0) (hl : L.length + us.length ≤ 100000000) (hbase : base ≤ w.heap.size) (ty : TypeId) :
    ∃ v' w', (Builtin.append_ #[22, 22] ty #[v, .slice A m c]).run Tryz.prog w = .ok v' w' ∧ Ints base w' v' (L ++ us) ∧ w.grownBy w' v.ownBlock ∧ (v'.ownBlock = v.ownBlock ∨ v'.ownBlock = some w.heap.size) := by
  obtain ⟨i0, hi, hi0, hi1, hi2⟩ := info_parts info_int
  rcases A with _ | ad
  · obtain rfl := repE_none1 hE
    have hm0 : m = 0 := by simpa using hm
    subst hm0
    refine ⟨v, w, ?_, by simpa using hS, World.grownBy.refl w _, .inl rfl⟩
    have hu : Tryz.prog.underlying 22 = some (.slice 3) := by kernel_rfl
    rcases hS.2 with ⟨rfl, _⟩ | ⟨g, cap, cur, rfl, _, _, hnc, _⟩
    · simp [Builtin.append_, run_underlying hu, sizeOf, typeInfo, hi, Builtin.lenOf, Builtin.firstCells]
    · simp [Builtin.append_, run_underlying hu, sizeOf, typeInfo, hi, Builtin.lenOf, Builtin.firstCells, hnc, storeCells]
  · have hcells : ∀ j u, (us.map (Value.int .i64))[j]? = some u → w.cell? (ad.add j) = some u := by
      intro j u hu
      rw [List.getElem?_map] at hu
      obtain ⟨x, hx, rfl⟩ := Option.map_eq_some_iff.1 hu
      obtain ⟨hj, rfl⟩ := List.getElem?_eq_some_iff.1 hx
      obtain ⟨b', o', e, _, _, hc⟩ := int_cell hE j hj
      cases e
      have hadd : (⟨b', o', none⟩ : Addr).add j = ⟨b', o' + j, none⟩ := by unfold Addr.add; split <;> simp_all
      rw [hadd]
      exact hc
    obtain ⟨v', w', hrun, h2, h3, _, h5⟩ := run_append_own_at (P := Tryz.prog) w base 22 ty 3 i0 (.int .i64 0) 1 8 (by kernel_rfl) hi hi0 hi1 hi2 rfl (by decide) v L.length (L.map (Value.int .i64)) hS ad m c (us.map (Value.int .i64)) (by simp [hm]) hcells (by simp [Value.oneCell']) (by simp only [maxLen]; omega) (by omega) hbase
    exact ⟨v', w', hrun, by unfold Ints; simpa [hm] using h2, h3, h5⟩
theorem wpList_append_ints {w : World} {ops : Array Oper} {rest : List Oper} {o : Oper} {a : Act} {Q : Exit → Act → World → Prop} (hgd : o.guard = none) (s x : Operand)
    (ho : o.op = .call { callee := .builtin .append, args := #[s, x], argTypes := #[22, 22] }) {O : Nat → Prop} {base : Nat} {v : Value} {L : List Int} (hs : a.eval s = v) (hS : Ints base w v L)
    (A : Option Addr) (m c : Nat) (us : List Int) (hx : a.eval x = .slice A m c) (hm : m = us.length) (hE : RepE O w 1 (us.map (Dat.int .i64)) A 0) (hl : L.length + us.length ≤ 100000000) (hbase : base ≤ w.heap.size)
    (h : ∀ v' w', Ints base w' v' (L ++ us) → w.grownBy w' v.ownBlock → (v'.ownBlock = v.ownBlock ∨ v'.ownBlock = some w.heap.size) → wpList Tryz.prog ops Q rest (a.put o.dst v') w') : wpList Tryz.prog ops Q (o :: rest) a w := by
  refine wpList_plain hgd fun _ hK => ?_
  obtain ⟨v', w', hrun, h1, h2, h3⟩ := run_append_ints hS A m c us hm hE hl hbase o.type
  unfold Oper.wp execOp
  simp only [ho, resolve, invoke, builtin, Sem.run_bind, Sem.run_pure, Result.andThen_ok, List.map_toArray, List.map_cons, List.map_nil, hs, hx, hrun]
  exact hK _ _ (h v' w' h1 h2 h3)
/-- A metavariable of a row, in memory. -/
theorem arg_mv {O : Nat → Prop} {W : World} {l : List Mv} {a : Option Addr} (h : RepE O W 6 (l.map Mv.dat) a 0) (j : Nat) (hj : j < l.length) :
    ∃ b o k n i aa cap va vc, a = some ⟨b, o, none⟩ ∧ b < W.heap.size ∧ ¬ O b ∧ (W.cell? ⟨b, o + j * 6, none⟩ = some (.string (B l[j].name)) ∧ W.cell? ⟨b, o + j * 6 + 1, none⟩ = some (.int .i64 k) ∧ W.cell? ⟨b, o + j * 6 + 2, none⟩ = some (.string (B n)) ∧
      W.cell? ⟨b, o + j * 6 + 3, none⟩ = some (.int .i64 i) ∧ W.cell? ⟨b, o + j * 6 + 4, none⟩ = some (.slice aa l[j].type.args.length cap) ∧ W.cell? ⟨b, o + j * 6 + 5, none⟩ = some (.slice va l[j].value.length vc)) ∧
      Rep O W l[j].type.dat [.int .i64 k, .string (B n), .int .i64 i, .slice aa l[j].type.args.length cap] ∧ l[j].value.length ≤ vc ∧ RepE O W 4 (l[j].value.map Tm.dat) va 0 := by
  obtain ⟨b, o, cs, h1, hb, h2, h3, h4, h5⟩ := h.get j (by simpa using hj)
  simp only [List.getElem_map] at h5
  obtain ⟨k, n, i, aa, cap, va, vc, rfl, h6, h7, h8⟩ := mv_open h5
  refine ⟨b, o, k, n, i, aa, cap, va, vc, h1, hb, h2, ⟨?_, ?_, ?_, ?_, ?_, ?_⟩, h6, h7, h8⟩
  · simpa using h4 0 _ rfl
  · simpa using h4 1 _ rfl
  · simpa using h4 2 _ rfl
  · simpa using h4 3 _ rfl
  · simpa using h4 4 _ rfl
  · simpa using h4 5 _ rfl
theorem flat_take {l : List Tm} (j : Nat) (h : j < l.length) : (l.take (j + 1)).flatMap Tm.metas = (l.take j).flatMap Tm.metas ++ Tm.metas l[j] := by
  rw [List.take_succ_eq_append_getElem h, List.flatMap_append, List.flatMap_cons, List.flatMap_nil, List.append_nil]
theorem flat_len {l : List Tm} (h : ∀ v ∈ l, v.wt ≤ 300000) : (l.flatMap Tm.metas).length ≤ l.length * 300000 := by
  induction l with
  | nil => simp
  | cons t ts ih =>
    have h1 := metas_len13 t
    have h2 := h t (by simp)
    have h3 := ih (fun v hv => h v (by simp [hv]))
    simp only [List.flatMap_cons, List.length_append, List.length_cons, Nat.add_mul, Nat.one_mul]
    omega
theorem Ints.on {base : Nat} {W W' : World} {v : Value} {L : List Int} (h : Ints base W v L) (hU : Upto none' W W') : Ints base W' v L :=
  World.ownsRow.kept (row := none) h ⟨hU.os, hU.tape, hU.output, hU.size, fun k hk _ => hU.block k hk (fun x => x)⟩ (by cases v.ownBlock <;> simp)
set_option maxRecDepth 100000 in
set_option maxHeartbeats 4000000 in
theorem next13_any (l : List Mv) (hl : StOk l) (j : Nat) (hj : j < l.length) (w : World) (la : Option Addr) (lc : Nat) (hL : RepE none' w 6 (l.map Mv.dat) la 0) (hv20 : l[j].value.length ≤ 100) :
    Calls Tryz.prog 93 #[.slice la l.length lc, .int .i64 (j : Int)] w fun e w' => ∃ v, e = .returned v ∧ Ints w.heap.size w' v (nextV l[j]) ∧ Upto none' w w' := by
  obtain ⟨m, hm⟩ : ∃ m, m = l[j] := ⟨_, rfl⟩
  rw [← hm] at hv20 ⊢
  obtain ⟨h1, h2, h3⟩ := hl.mv _ (List.getElem_mem hj)
  rw [← hm] at h1 h2 h3
  obtain ⟨b, o, k, n, i, aa, cap, va, vc, rfl, hb, _, ⟨c0, c1, c2, c3, c4, c5⟩, hR, hvc, hV⟩ := arg_mv hL j hj
  rw [← hm] at c0 c4 c5 hR hvc hV
  have MT := metas_any m.type (by omega) w _ hR
  obtain ⟨ll, hll⟩ : ∃ ll, ll = l.length := ⟨_, rfl⟩
  have hjl : (j : Int) < (ll : Int) := by omega
  rw [← hll]
  have hll2 : (ll : Int) ≤ 2048 := by have := hl.len; omega
  have hj0 : (0 : Int) ≤ (j : Int) := by omega
  have hml := metas_len13 m.type
  obtain ⟨vl, hvl⟩ : ∃ vl, vl = m.value.length := ⟨_, rfl⟩
  rw [← hvl] at c5
  have HM := hid hvl
  generalize m.type.args.length = al at *
  clear hm hll hR hL hl hj hvl
  obtain ⟨H, hH⟩ : ∃ H, H = w.heap.size := ⟨_, rfl⟩
  have HH := hid hH
  rw [← hH]
  rw [← hH] at MT
  have hvl100 : vl ≤ 100 := by have := HM.out; omega
  clear hH
  go_enter Tryz.func93, Tryz.ntmps93
  go_wp2_with fail
  (with_reducible refine MT.mono ?_)
  rintro e w2 ⟨v, rfl, hI, hU2⟩
  have d5 := hU2.cell c5 (fun x => x)
  clear c0 c1 c2 c3 c4 c5 MT
  go_wp2_with fail
  go_loopw [5, 20] (fun v5 v20 wr => ∃ p : Nat, v20 = .int .i64 (p : Int) ∧ p ≤ vl ∧ Ints H wr v5 (Tm.metas m.type ++ (m.value.take p).flatMap Tm.metas) ∧ Upto none' w wr)
    (fun _ v20 _ => vl - (intOf v20).toNat)
  case atStart => exact ⟨0, rfl, Nat.zero_le _, by simpa using hI, hU2⟩
  case round =>
    obtain ⟨p, rfl, hp, hIr, hUr⟩ := hrel
    obtain ⟨vo, hvo⟩ : ∃ v, v = u5 := ⟨_, rfl⟩
    rw [← hvo] at hIr
    rw [← hvo]
    have HVO := hid hvo
    clear hvo
    have u1 : (p : Int) ≤ 100 := by omega
    by_cases hlt : (p : Int) < (vl : Int)
    · have hpl : p < m.value.length := by have := HM.out; omega
      obtain ⟨b1, p1, k1, n1, i1, s1, z1, rfl, hb1, _, y0, y1, y2, y3, hR1⟩ := arg_tm (hV.on hUr) p hpl
      have htk := flat_take p hpl
      have huw := h3 _ (List.getElem_mem hpl)
      have hfl := flat_len (l := m.value.take p) (fun v hv => h3 v (List.mem_of_mem_take hv))
      rw [List.length_take, Nat.min_eq_left (Nat.le_of_lt hpl)] at hfl
      generalize m.value[p] = u at *
      generalize u.args.length = ul at *
      have hul := metas_len13 u
      obtain ⟨wa, hwa⟩ : ∃ wa, wa = wr.alloc (.cells #[.int .i64 k1, .string (B n1), .int .i64 i1, .slice s1 ul z1] 29) := ⟨_, rfl⟩
      have hUa : Upto none' wr wa := by rw [hwa]; exact (Upto.refl none' wr).alloc _
      have hB : Box4 wa wr.heap.size (.int .i64 k1) (.string (B n1)) (.int .i64 i1) (.slice s1 ul z1) 29 := by rw [hwa]; exact Box4.at_new rfl
      have MTu := metas_any u (by omega) wa _ (hR1.on hUa)
      obtain ⟨Q, hQ⟩ : ∃ Q, Q = wr.heap.size := ⟨_, rfl⟩
      rw [← hQ] at hB
      have HWA := hid hwa
      have HQ := hid hQ
      have HT := hid htk
      have hp100 : p ≤ 100 := by omega
      have hH9 : H ≤ wa.heap.size := by have := hUr.size; have := hUa.size; have := HH.out; omega
      clear hwa hQ hR1 htk
      go_upto_region 5 with fail
      rw [← HWA.out, ← HQ.out]
      obtain ⟨b0, bb1, b2, b3⟩ := hB.cells
      go_wp2_with (first | ((go_at_call 98); (with_reducible refine MTu.mono ?_); rintro e w6 ⟨vu, rfl, hIu, hU6⟩; obtain ⟨va6, vc6, rfl, hvc6, hEu⟩ := ints_open hIu.rep; have hIo := (hIr.on hUa).on hU6; have hz6 := hU6.size) | (at_builtin; go_loud (refine wpList_append_ints (by rfl) _ _ (by rfl) (by rfl) hIo va6 (Tm.metas u).length vc6 (Tm.metas u) (by rfl) rfl hEu (by rw [List.length_append]; omega) (by omega) ?_); intro v7 w7 hI7 hg7 hat7))
      have hU7 : Upto none' w w7 := (((hUr.and hUa).and hU6)).trans (grown_own hg7) (fun b hb e => by have := (hIo.lt b e).1; have := HH.out; omega)
      rw [List.append_assoc, ← HT.out] at hI7
      go_wp2_with fail
      go_roundw
      case rel => exact ⟨p + 1, by go_num, by omega, hI7, hU7⟩
      case measure => simp [intOf]; omega
    · have hpe : p = m.value.length := by have := HM.out; omega
      rw [hpe, List.take_length] at hIr
      have HI := hid hIr
      clear hIr hpe
      go_wp2_with fail
      go_ret
      exact ⟨_, rfl, HI.out, hUr⟩
end Go.Proofs.YtdomloghcpfdjaaGreatDoor
namespace Go.Proofs.YtdomloghcpfdjaaGreatDoor
open Go.RowKit Go.LF
/-- The closure that walks. -/
abbrev visV (fb sb lb tb vb : Nat) : Value := .func (.func 170) #[] #[.pointer (some ⟨fb, 0, none⟩), .pointer (some ⟨sb, 0, none⟩), .pointer (some ⟨lb, 0, none⟩), .pointer (some ⟨tb, 0, none⟩), .pointer (some ⟨vb, 0, none⟩)]
/-- The boxes that it shares. -/
structure VisW (fb sb lb tb vb M : Nat) (la : Option Addr) (ll lc : Nat) (tg : Int) (ks : List Int) (f : Bool) (W : World) : Prop where
  fnd : Box1 W fb (.bool f) 4
  sn : Box1 W sb (.map (some M)) 170
  st : Box1 W lb (.slice la ll lc) 44
  goal : Box1 W tb (.int .i64 tg) 3
  vis : Box1 W vb (visV fb sb lb tb vb) 171
  seen : Seen W M (ks.map (Value.int .i64))
  apart : (fb ≠ sb ∧ fb ≠ lb ∧ fb ≠ tb ∧ fb ≠ vb ∧ fb ≠ M) ∧ M ≠ sb ∧ M ≠ lb ∧ M ≠ tb ∧ M ≠ vb
theorem _root_.Go.LF.Seen.lt {W : World} {m : Nat} {ks : List Value} (h : Seen W m ks) : m < W.heap.size := by
  obtain ⟨es, clock, h1, _⟩ := h
  exact (Array.getElem?_eq_some_iff.1 h1).1
theorem _root_.Go.LF.Seen.on {W W' : World} {m : Nat} {ks : List Value} {S : Nat → Prop} (h : Seen W m ks) (hU : Upto S W W') (hS : ¬ S m) : Seen W' m ks := by
  obtain ⟨es, clock, h1, h2, h3⟩ := h
  exact ⟨es, clock, (hU.block m (Array.getElem?_eq_some_iff.1 h1).1 hS).trans h1, h2, h3⟩
theorem VisW.on {fb sb lb tb vb M : Nat} {la : Option Addr} {ll lc : Nat} {tg : Int} {ks : List Int} {f : Bool} {W W' : World} (h : VisW fb sb lb tb vb M la ll lc tg ks f W) (hU : Upto none' W W') : VisW fb sb lb tb vb M la ll lc tg ks f W' :=
  ⟨h.fnd.kept hU, h.sn.kept hU, h.st.kept hU, h.goal.kept hU, h.vis.kept hU, h.seen.on hU (fun x => x), h.apart⟩
/-- What a call of it does. -/
def VisC (l : List Mv) (tg : Int) (is : List Int) (fb sb lb tb vb M : Nat) (la : Option Addr) (lc : Nat) (ks : List Int) (f : Bool) (W W' : World) : Prop :=
  ∃ ks' f', Vis l tg is ks ks' f f' ∧ VisW fb sb lb tb vb M la l.length lc tg ks' f' W' ∧ Upto (fun b => b = fb ∨ b = M) W W'
set_option maxRecDepth 100000 in
set_option maxHeartbeats 8000000 in
theorem visit13_step (l : List Mv) (hl : StOk l) (hv : ∀ m ∈ l, m.value.length ≤ 100) (hp : ∀ m ∈ l, ∀ x ∈ nextV m, 0 ≤ x ∧ x ≤ 100000) (hnx : ∀ m ∈ l, (nextV m).length ≤ 100000000) (tg : Int) (la : Option Addr) (lc : Nat) (fb sb lb tb vb M : Nat) (n : Nat)
    (ih : ∀ n', n = n' + 1 → ∀ (ks : List Int) (f : Bool) (i : Int) (W : World), 0 ≤ i → i ≤ 100000 → unseen l ks ≤ n' → (f = true ↔ tg ∈ ks) → VisW fb sb lb tb vb M la l.length lc tg ks f W → RepE (fun b => b = fb ∨ b = M) W 6 (l.map Mv.dat) la 0 →
      Calls Tryz.prog 170 #[.int .i64 i, .pointer (some ⟨fb, 0, none⟩), .pointer (some ⟨sb, 0, none⟩), .pointer (some ⟨lb, 0, none⟩), .pointer (some ⟨tb, 0, none⟩), .pointer (some ⟨vb, 0, none⟩)] W fun e W' => e = .returned (.tuple #[]) ∧ VisC l tg [i] fb sb lb tb vb M la lc ks f W W')
    (ks : List Int) (f : Bool) (i : Int) (W : World) (h0 : 0 ≤ i) (h1 : i ≤ 100000) (hn : unseen l ks ≤ n) (hf : f = true ↔ tg ∈ ks) (hW : VisW fb sb lb tb vb M la l.length lc tg ks f W) (hL : RepE (fun b => b = fb ∨ b = M) W 6 (l.map Mv.dat) la 0) :
    Calls Tryz.prog 170 #[.int .i64 i, .pointer (some ⟨fb, 0, none⟩), .pointer (some ⟨sb, 0, none⟩), .pointer (some ⟨lb, 0, none⟩), .pointer (some ⟨tb, 0, none⟩), .pointer (some ⟨vb, 0, none⟩)] W fun e W' => e = .returned (.tuple #[]) ∧ VisC l tg [i] fb sb lb tb vb M la lc ks f W W' := by
  have c1 := hW.fnd.cell
  have c2 := hW.sn.cell
  have c3 := hW.st.cell
  have c4 := hW.goal.cell
  have c5 := hW.vis.cell
  have z1 := hW.fnd.frozen
  have q1 := hW.fnd.lt
  obtain ⟨ll, hll⟩ : ∃ ll, ll = l.length := ⟨_, rfl⟩
  rw [← hll] at c3
  have hl2 : (ll : Int) ≤ 2048 := by have := hl.len; omega
  have HLL := hid hll
  clear hll
  have stay : f = true ∨ i ∈ ks ∨ ¬ i < l.length → VisC l tg [i] fb sb lb tb vb M la lc ks f W W := fun h => ⟨ks, f, Vis.skip hf h, hW, Upto.refl _ _⟩
  cases f
  case true =>
    have HS := hid (stay (.inl rfl))
    clear stay ih hf
    go_enter Tryz.func170, Tryz.ntmps170
    go_wp2_with fail
    refine bodyPost_ret (results_none rfl _ _ _) rfl ?_
    exact ⟨rfl, HS.out⟩
  case false =>
    by_cases hc : i ∈ ks
    · have HS := hid (stay (.inr (.inl hc)))
      have hlk := hW.seen.lookup (P := Tryz.prog) (mt := 170) (kt := 3) (bt := 4) (key := .int .i64 i) (by kernel_rfl) (by kernel_rfl) (zero_bool W) (int_key _) rfl true (by simp [hc])
      clear stay ih hf
      go_enter Tryz.func170, Tryz.ntmps170
      go_wp2_with fail
      refine bodyPost_ret (results_none rfl _ _ _) rfl ?_
      exact ⟨rfl, HS.out⟩
    · have hlk := hW.seen.lookup (P := Tryz.prog) (mt := 170) (kt := 3) (bt := 4) (key := .int .i64 i) (by kernel_rfl) (by kernel_rfl) (zero_bool W) (int_key _) rfl false (by simp [hc])
      by_cases hi : i < (ll : Int)
      · obtain ⟨W3, hup, hS3, g3, hz3⟩ := hW.seen.store (P := Tryz.prog) (mt := 170) (kt := 3) (bt := 4) (key := .int .i64 i) (by kernel_rfl) (by kernel_rfl) (int_key _) rfl (by simp [hc])
        obtain ⟨p, rfl⟩ : ∃ p : Nat, i = (p : Int) := ⟨i.toNat, by omega⟩
        have hpl : p < l.length := by have := HLL.out; omega
        obtain ⟨n', rfl⟩ : ∃ n', n = n' + 1 := by
          have := unseen_lt (ks1 := ks ++ [(p : Int)]) h0 (show (p : Int) < l.length by omega) hc (by simp)
          exact ⟨n - 1, by omega⟩
        have hun : unseen l (ks ++ [(p : Int)]) ≤ n' := by
          have := unseen_lt (ks1 := ks ++ [(p : Int)]) h0 (show (p : Int) < l.length by omega) hc (by simp)
          omega
        have IH := ih n' rfl
        have hU3 := upto_map13 g3
        obtain ⟨⟨ne1, ne2, ne3, ne4, ne5⟩, m1, m2, m3, m4⟩ := hW.apart
        obtain ⟨q, hq⟩ : ∃ q : Bool, q = ((p : Int) == tg) := ⟨_, rfl⟩
        obtain ⟨W4, hW4⟩ : ∃ W4, W4 = W3.setCell ⟨fb, 0, none⟩ (.bool q) := ⟨_, rfl⟩
        have hset : Upto (fun x => x = fb) W3 W4 := by rw [hW4]; exact Upto.set (Upto.refl _ _) 0 _
        have hf3 := hW.fnd.keep hU3 ne5
        have hV4 : VisW fb sb lb tb vb M la l.length lc tg (ks ++ [(p : Int)]) q W4 := by
          refine ⟨by rw [hW4]; exact hf3.set _, (hW.sn.keep hU3 (fun e => m1 e.symm)).keep hset (fun e => ne1 e.symm), (hW.st.keep hU3 (fun e => m2 e.symm)).keep hset (fun e => ne2 e.symm), (hW.goal.keep hU3 (fun e => m3 e.symm)).keep hset (fun e => ne3 e.symm), (hW.vis.keep hU3 (fun e => m4 e.symm)).keep hset (fun e => ne4 e.symm), ?_, hW.apart⟩
          have h5 := hS3.on hset (fun e => ne5 e.symm)
          simpa using h5
        have hU04 : Upto (fun b => b = fb ∨ b = M) W W4 := (hU3.mono (fun _ _ e => .inr e)).trans hset (fun _ _ e => .inl e)
        have hL4 := RepE.keep hU04 (fun b e => e) _ _ _ _ hL
        have NX := next13_any l hl p hpl W4 la lc (RepE.weaken (fun _ _ x => x.elim) _ _ _ _ hL4) (hv _ (List.getElem_mem hpl))
        have hnr := hp _ (List.getElem_mem hpl)
        have hsu : succV l (p : Int) = nextV l[p] := by
          unfold succV
          rw [if_pos (by omega), List.getElem?_eq_getElem (by simpa using hpl)]
          rfl
        obtain ⟨ns, hns⟩ : ∃ ns, ns = nextV l[p] := ⟨_, rfl⟩
        rw [← hns] at NX hnr hsu
        rw [← HLL.out] at NX
        have hnl : ns.length ≤ 100000000 := by rw [hns]; exact hnx _ (List.getElem_mem hpl)
        have k3 := hV4.st.cell
        rw [← HLL.out] at k3
        have k5 := hV4.vis.cell
        have HQ := hid hq
        have HSU := hid hsu
        have HW4 := hid hW4
        have hfq : q = true ↔ tg ∈ ks ++ [(p : Int)] := by
          rw [hq]
          simp only [beq_iff_eq, List.mem_append, List.mem_singleton]
          have hnt : ¬ tg ∈ ks := fun h => by have := hf.2 h; cases this
          constructor
          · intro e; exact .inr e.symm
          · rintro (e | e)
            · exact absurd e hnt
            · exact e.symm
        have HF := hid hfq
        have HC := hid hc
        have c1' := c1
        have hz4 : W.heap.size ≤ W4.heap.size := hU04.size
        have hfM : fb < W.heap.size ∧ M < W.heap.size := ⟨q1, hW.seen.lt⟩
        have f3 := hf3.cell
        have f3z := hf3.frozen
        have f3l := hf3.lt
        have c2' := (hW.sn.keep hU3 (fun e => m1 e.symm)).cell
        have c4' := (hW.goal.keep hU3 (fun e => m3 e.symm)).cell
        have hcall : ∀ args w, Sem.run Tryz.prog (callFunc 170 args) w = .ok (Next.enter 170 args) w := fun _ _ => by simp only [go_sem, Tryz.call170]
        have hqe : ((p : Int) == tg) = q := hq.symm
        clear hW4 hq hsu hns hfq hc ih stay hL hn hf hpl hW hS3 g3 hU3 hset hf3 hz3
        go_enter Tryz.func170, Tryz.ntmps170
        go_upto_region 3 with fail
        rw [← HW4.out]
        clear c1 c2 c3 c4 c5 z1 q1 f3 f3z f3l c1' c2' c4' hlk hup
        go_wp2_with fail
        (with_reducible refine NX.mono ?_)
        rintro e w5 ⟨v, rfl, hI, hU5⟩
        obtain ⟨va, vc, rfl, hvc, hEv⟩ := ints_open hI.rep
        have hE5 : RepE (fun b => b = fb ∨ b = M) w5 1 (ns.map (Dat.int .i64)) va 0 := RepE.weaken (fun b _ e => by omega) _ _ _ _ hEv
        have hV5 := hV4.on hU5
        have hL5 := hL4.on hU5
        obtain ⟨nl, hnl'⟩ : ∃ nl, nl = ns.length := ⟨_, rfl⟩
        rw [← hnl'] at hvc hnl
        rw [← hnl']
        have HNL := hid hnl'
        have hU45 := hU04.trans hU5 (fun _ _ e => e.elim)
        clear hI hEv hnl' k3 k5 NX hV4 hL4
        go_wp2_with fail
        go_loopw [33] (fun v33 wr => ∃ (j : Nat) (ks' : List Int) (f' : Bool), v33 = .int .i64 (j : Int) ∧ j ≤ nl ∧ Vis l tg (ns.take j) (ks ++ [(p : Int)]) ks' q f' ∧ VisW fb sb lb tb vb M la l.length lc tg ks' f' wr ∧ Upto (fun b => b = fb ∨ b = M) w5 wr)
          (fun v33 _ => nl - (intOf v33).toNat)
        case atStart => exact ⟨0, _, q, rfl, Nat.zero_le _, Vis.nil HF.out, hV5, Upto.refl _ _⟩
        case round =>
          obtain ⟨j, ks', f', rfl, hj, hvis, hVr, hUr⟩ := hrel
          have hVF := hid hvis.found
          have hsub := hvis.sub
          have HVS := hid hvis
          clear hvis
          by_cases hlt : j < nl
          · have hjl : j < ns.length := by have := HNL.out; omega
            obtain ⟨b, o, rfl, hb, _, hcj⟩ := int_cell (RepE.keep hUr (fun b e => e) _ _ _ _ hE5) j hjl
            have htk : ns.take (j + 1) = ns.take j ++ [ns[j]] := List.take_succ_eq_append_getElem hjl
            obtain ⟨x0, x1⟩ := hnr _ (List.getElem_mem hjl)
            generalize ns[j] = x at *
            have IHx := IH ks' f' x wr x0 x1 (by have := unseen_le (l := l) hsub; omega) hVF.out hVr (RepE.keep hUr (fun b e => e) _ _ _ _ hL5)
            have HT := hid htk
            have k5 := hVr.vis.cell
            have hjb : (j : Int) < (nl : Int) := by omega
            have hjm : (j : Int) ≤ 100000000 := by omega
            clear htk hjl hVr hsub
            go_wp2_with fail
            (with_reducible refine IHx.mono ?_)
            rintro e w6 ⟨rfl, ks2, f2, hvis2, hV6, hU6⟩
            have HV2 := hid hvis2
            clear hvis2 k5 hcj
            go_wp2_with fail
            go_roundw
            case rel => exact ⟨j + 1, ks2, f2, by go_num, by omega, by rw [HT.out]; exact HVS.out.trans HV2.out, hV6, hUr.trans hU6 (fun _ _ e => e)⟩
            case measure => simp [intOf]; omega
          · have hje : ns.take j = ns := List.take_of_length_le (by have := HNL.out; omega)
            have hvs := HVS.out
            rw [hje, ← HSU.out] at hvs
            have HR := hid (show VisC l tg [(p : Int)] fb sb lb tb vb M la lc ks false W wr from ⟨ks', f', Vis.new (by have := HLL.out; omega) (by simp) hvs, hVr, (hU45.trans hUr (fun _ _ e => e))⟩)
            clear hvs hVr hUr hsub
            go_wp2_with fail
            go_end0
            exact ⟨rfl, HR.out⟩
      · have HS := hid (stay (.inr (.inr (by have := HLL.out; omega))))
        clear stay ih hf
        go_enter Tryz.func170, Tryz.ntmps170
        go_wp2_with fail
        refine bodyPost_ret (results_none rfl _ _ _) rfl ?_
        exact ⟨rfl, HS.out⟩
end Go.Proofs.YtdomloghcpfdjaaGreatDoor
