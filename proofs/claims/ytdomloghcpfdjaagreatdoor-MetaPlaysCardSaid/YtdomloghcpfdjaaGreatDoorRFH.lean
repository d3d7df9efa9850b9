/- The search for what is left unsolved, as plain data. No program is in sight here. -/
import Derived.Test.YtdomloghcpfdjaaGreatDoorRFA
import Derived.Test.YtdomloghcpfdjaaGreatDoorRFB
import Derived.Test.YtdomloghcpfdjaaGreatDoorRFG
import Derived.Deep.CutRange
import Derived.Deep.RegionHeld3
namespace Go.LF
open Tm Go.Proofs.YtdomloghcpfdjaaGreatDoor
def cF (l : List Mv) : Nat → List Int → Ord → Ord
  | 0 => fun _ s => s
  | d + 1 => colF l d
theorem colF_cF (l : List Mv) (d : Nat) : colF l d = colS l (cF l d) := by cases d <;> rfl
/-- Metavariables of a store, below a rank. -/
def Bel (l : List Mv) (R : Nat) (ms : List Int) : Prop := ∀ x ∈ ms, 0 ≤ x ∧ x < l.length ∧ rk l x < R
theorem bel_exp {l : List Mv} (h : Plz l) {i : Int} {R : Nat} (h0 : 0 ≤ i) (hi : i < l.length) (he : expE l (typeOf l i) = 0) (hr : rk l i < R + 1) : Bel l R (Tm.metas (expT l (typeOf l i))) := by
  intro j hj
  have h1 := exp_rk h.acy h.good h.typ h.vals h0 hi he j hj
  have h2 := metas_ge j hj
  exact ⟨h2.1, h1.1, by omega⟩
theorem bel_top (l : List Mv) {ms : List Int} (h : ∀ x ∈ ms, 0 ≤ x ∧ x < l.length) : Bel l (l.length + 1) ms := fun x hx => ⟨(h x hx).1, (h x hx).2, by have := rk_le l x; omega⟩
/-- The state: keys, order, error; G are the keys under way. -/
def Hs (s : Ord) (ks o : List Int) (e : Int) (G : List Int) : Prop := s.e = e ∧ (e = 0 → s.o = o ∧ ∀ x, x ∈ ks ↔ x ∈ o ∨ x ∈ G)
section
variable {l : List Mv} {f : List Int → Ord → Ord} {s : Ord} {ks o ks' o' G : List Int} {e e' E m : Int}
theorem hs_skip (h : Hs s ks o e G) (hm : m ∈ ks ∨ e ≠ 0) (hg : m ∉ G) : Hs (colS l f [m] s) ks o e G := by
  obtain ⟨h1, h2⟩ := h
  rw [colS_one]
  by_cases h0 : s.e ≠ 0
  · rw [if_pos h0]; exact ⟨h1, h2⟩
  · rw [if_neg h0]
    have he : e = 0 := by omega
    have hk : m ∈ ks := hm.elim id (fun h => absurd he h)
    obtain ⟨h3, h4⟩ := h2 he
    have ho : m ∈ o := ((h4 m).1 hk).elim id (fun h => absurd h hg)
    rw [if_pos (by rw [h3]; simpa using ho)]
    exact ⟨h1, h2⟩
theorem hs_not (h : Hs s ks o 0 G) (hm : m ∉ ks) : ¬ s.e ≠ 0 ∧ ¬ s.o.contains m = true := by
  obtain ⟨h1, h2⟩ := h
  obtain ⟨h3, h4⟩ := h2 rfl
  refine ⟨by omega, ?_⟩
  rw [h3]
  intro hc
  exact hm ((h4 m).2 (.inl (by simpa using hc)))
theorem hs_err (h : Hs s ks o 0 G) (hm : m ∉ ks) (hE : expE l (typeOf l m) ≠ 0) : Hs (colS l f [m] s) ks' o' (expE l (typeOf l m)) G := by
  obtain ⟨h1, h2⟩ := hs_not h hm
  rw [colS_one, if_neg h1, if_neg h2, if_pos hE]
  exact ⟨rfl, fun h => absurd h hE⟩
theorem hs_in (h : Hs s ks o 0 G) : Hs s (ks ++ [m]) o 0 (m :: G) := by
  refine ⟨h.1, fun h0 => ⟨(h.2 h0).1, fun x => ?_⟩⟩
  have := (h.2 h0).2 x
  simp only [List.mem_append, List.mem_cons, List.not_mem_nil, or_false, this]
  constructor
  · rintro ((h | h) | h)
    · exact .inl h
    · exact .inr (.inr h)
    · exact .inr (.inl h)
  · rintro (h | h | h)
    · exact .inl (.inl h)
    · exact .inr h
    · exact .inl (.inr h)
theorem hs_out (h : Hs s ks o 0 G) (hm : m ∉ ks) (hE : expE l (typeOf l m) = 0) (h' : Hs (f (Tm.metas (expT l (typeOf l m))) s) ks' o' e' (m :: G)) : Hs (colS l f [m] s) ks' (o' ++ [m]) e' G := by
  obtain ⟨h1, h2⟩ := hs_not h hm
  rw [colS_one, if_neg h1, if_neg h2, if_neg (by omega)]
  obtain ⟨h3, h4⟩ := h'
  by_cases h5 : (f (Tm.metas (expT l (typeOf l m))) s).e = 0
  · rw [if_pos h5]
    have he : e' = 0 := by omega
    obtain ⟨h6, h7⟩ := h4 he
    refine ⟨he.symm, fun _ => ⟨by rw [h6], fun x => ?_⟩⟩
    rw [h7 x]
    simp only [List.mem_append, List.mem_cons, List.not_mem_nil, or_false]
    constructor
    · rintro (h | h | h)
      · exact .inl (.inl h)
      · exact .inl (.inr h)
      · exact .inr h
    · rintro ((h | h) | h)
      · exact .inl h
      · exact .inr (.inl h)
      · exact .inr (.inr h)
  · rw [if_neg h5]
    exact ⟨h3, fun h => absurd (h3.trans h) h5⟩
end
theorem unseen_cnt {l : List Mv} {ks : List Int} {m : Int} (h : unseen l ks + ks.length ≤ l.length) (h0 : 0 ≤ m) (hi : m < l.length) (hn : m ∉ ks) : unseen l (ks ++ [m]) + (ks ++ [m]).length ≤ l.length := by
  have := unseen_lt (ks1 := ks ++ [m]) h0 hi hn (by simp)
  simp only [List.length_append, List.length_singleton]
  omega
theorem unseen_nil (l : List Mv) : unseen l [] + ([] : List Int).length ≤ l.length := by
  unfold unseen
  have := List.length_filter_le (fun j : Nat => !(([] : List Int).contains (j : Int))) (List.range l.length)
  simp only [List.length_range] at this
  simpa using this
end Go.LF
namespace Go.LF
open Tm Go.Proofs.YtdomloghcpfdjaaGreatDoor
theorem expT_wf {l : List Mv} (h : Plz l) {i : Int} (h0 : 0 ≤ i) (hi : i < l.length) (he : expE l (typeOf l i) = 0) : (expT l (typeOf l i)).wf = 0 := by
  obtain ⟨m, hm, _, e⟩ := typeOf_mem h0 hi
  unfold expT
  rw [if_pos he]
  exact exF_wf l 16385 _ 0 (by rw [e]; exact h.typ m hm) (expE_wf he).2.2
theorem typeOf_at {l : List Mv} {p : Nat} (h : p < l.length) : typeOf l (p : Int) = l[p].type := by
  unfold typeOf
  rw [show ((p : Int)).toNat = p by omega, List.getElem?_eq_getElem h]
end Go.LF
namespace Go.Proofs.YtdomloghcpfdjaaGreatDoor
open Go.RowKit Go.LF
/-- The closure. -/
abbrev opV (tb eb lb vb ob : Nat) : Value := .func (.func 177) #[] #[.pointer (some ⟨tb, 0, none⟩), .pointer (some ⟨eb, 0, none⟩), .pointer (some ⟨lb, 0, none⟩), .pointer (some ⟨vb, 0, none⟩), .pointer (some ⟨ob, 0, none⟩)]
/-- What it changes. -/
abbrev Chg (eb M ob : Nat) (ov : Value) (b : Nat) : Prop := b = eb ∨ b = M ∨ b = ob ∨ ov.ownBlock = some b
/-- One of the expanded types in the map. -/
def OpVal (l : List Mv) (O : Nat → Prop) (W : World) (x : Value × Value) : Prop := ∃ (i k ix : Int) (n : List UInt8) (a : Option Addr) (len cap : Nat), x = (.int .i64 i, .agg #[.int .i64 k, .string (B n), .int .i64 ix, .slice a len cap]) ∧ Rep O W (expT l (typeOf l i)).dat [.int .i64 k, .string (B n), .int .i64 ix, .slice a len cap]
structure OpW (l : List Mv) (tb eb lb vb ob M base : Nat) (la : Option Addr) (lc : Nat) (ks o : List Int) (kvs : List (Value × Value)) (ov : Value) (e : Int) (W : World) : Prop where
  typ : Box1 W tb (.map (some M)) 130
  err : Box1 W eb (.int .i64 e) 36
  st : Box1 W lb (.slice la l.length lc) 44
  vis : Box1 W vb (opV tb eb lb vb ob) 136
  ord : Box1 W ob ov 22
  map : MapIs W M kvs
  row : Ints base W ov o
  keys : kvs.map (fun x => x.1) = ks.map (Value.int .i64)
  uni : ∀ x ∈ kvs, ∀ y ∈ kvs, x.1 = y.1 → x = y
  val : ∀ x ∈ kvs, OpVal l (Chg eb M ob ov) W x
  low : tb < base ∧ eb < base ∧ lb < base ∧ vb < base ∧ ob < base ∧ M < base
  apart : (eb ≠ tb ∧ eb ≠ lb ∧ eb ≠ vb ∧ eb ≠ ob ∧ eb ≠ M) ∧ (ob ≠ tb ∧ ob ≠ lb ∧ ob ≠ vb ∧ ob ≠ M) ∧ M ≠ tb ∧ M ≠ lb ∧ M ≠ vb
  cnt : unseen l ks + ks.length ≤ l.length
  ol : o.length ≤ ks.length
  rng : ∀ x ∈ ks, 0 ≤ x ∧ x < (l.length : Int)
section
variable {l : List Mv} {tb eb lb vb ob M base : Nat} {la : Option Addr} {lc : Nat} {ks o : List Int} {kvs : List (Value × Value)} {ov ov' : Value} {e : Int} {W W' : World}
theorem OpVal.carry {x : Value × Value} (h : OpVal l (Chg eb M ob ov) W x) (hU : Upto (Chg eb M ob ov) W W') (ho : ∀ b, ov'.ownBlock = some b → ov.ownBlock = some b ∨ W.heap.size ≤ b) : OpVal l (Chg eb M ob ov') W' x := by
  obtain ⟨i, k, ix, n, a, len, cap, h1, h2⟩ := h
  refine ⟨i, k, ix, n, a, len, cap, h1, Rep.weaken (fun b _ e => ?_) _ _ (Rep.keep hU (fun b e => .inl e) _ _ (Rep.freshO h2))⟩
  rcases e with e | e | e | e
  · exact .inl (.inl e)
  · exact .inl (.inr (.inl e))
  · exact .inl (.inr (.inr (.inl e)))
  · exact (ho b e).elim (fun e => .inl (.inr (.inr (.inr e)))) .inr
theorem OpW.on (h : OpW l tb eb lb vb ob M base la lc ks o kvs ov e W) (hU : Upto none' W W') : OpW l tb eb lb vb ob M base la lc ks o kvs ov e W' :=
  ⟨h.typ.kept hU, h.err.kept hU, h.st.kept hU, h.vis.kept hU, h.ord.kept hU, h.map.on hU (fun x => x), h.row.on hU, h.keys, h.uni, fun x hx => (h.val x hx).carry (hU.mono (fun _ _ e => e.elim)) (fun _ e => .inl e), h.low, h.apart, h.cnt, h.ol, h.rng⟩
theorem OpW.lk (h : OpW l tb eb lb vb ob M base la lc ks o kvs ov e W) (m : Int) : (m ∈ ks ↔ ∃ x ∈ kvs, x.1 = .int .i64 m) := by
  have hk := h.keys
  constructor
  · intro hm
    have : Value.int .i64 m ∈ kvs.map (fun x => x.1) := by rw [hk]; exact List.mem_map_of_mem hm
    obtain ⟨x, hx, e⟩ := List.mem_map.1 this
    exact ⟨x, hx, e⟩
  · rintro ⟨x, hx, e⟩
    have : Value.int .i64 m ∈ ks.map (Value.int .i64) := by rw [← hk, ← e]; exact List.mem_map_of_mem (f := fun x => x.1) hx
    obtain ⟨y, hy, e⟩ := List.mem_map.1 this
    cases e
    exact hy
theorem OpW.isKey (h : OpW l tb eb lb vb ob M base la lc ks o kvs ov e W) : ∀ x ∈ kvs, MapKept.IsKey (.int .i64) x.1 := fun x hx => by
  obtain ⟨i, _, _, _, _, _, _, e, _⟩ := h.val x hx
  rw [e]
  rfl
/-- A key more, and an error. -/
theorem OpW.put {m k ix E : Int} {n : List UInt8} {a : Option Addr} {len cap : Nat} {W8 : World} (h : OpW l tb eb lb vb ob M base la lc ks o kvs ov e W) (h0 : 0 ≤ m) (hi : m < l.length) (hn : m ∉ ks)
    (hM : MapIs W' M (kvs ++ [(.int .i64 m, .agg #[.int .i64 k, .string (B n), .int .i64 ix, .slice a len cap])])) (hg : W.grownBy W' (some M)) (hW8 : W8 = W'.setCell ⟨eb, 0, none⟩ (.int .i64 E))
    (hv : Rep (Chg eb M ob ov) W (expT l (typeOf l m)).dat [.int .i64 k, .string (B n), .int .i64 ix, .slice a len cap]) :
    OpW l tb eb lb vb ob M base la lc (ks ++ [m]) o (kvs ++ [(.int .i64 m, .agg #[.int .i64 k, .string (B n), .int .i64 ix, .slice a len cap])]) ov E W8 ∧ Upto (Chg eb M ob ov) W W8 := by
  have hU1 := upto_map13 hg
  have hU2 : Upto (fun b => b = eb) W' W8 := by rw [hW8]; exact Upto.set (Upto.refl _ _) 0 _
  obtain ⟨⟨a1, a2, a3, a4, a5⟩, ⟨b1, b2, b3, b4⟩, c1, c2, c3⟩ := h.apart
  have hU : Upto (Chg eb M ob ov) W W8 := (hU1.mono (fun _ _ e => .inr (.inl e))).trans hU2 (fun _ _ e => .inl e)
  have kp : ∀ {c : Value} {T : TypeId} {g : Nat}, Box1 W g c T → g ≠ M → g ≠ eb → Box1 W8 g c T := fun hb h1 h2 => (hb.keep hU1 h1).keep hU2 h2
  have he := (h.err.keep hU1 a5).set (.int .i64 E)
  have hrow1 : Ints base W' ov o := World.ownsRow.kept h.row hg (.inr fun e => by
    have := (h.row.lt M e).1
    have := h.low.2.2.2.2.2
    omega)
  have hrow : Ints base W8 ov o := World.ownsRow.kept (row := some eb) hrow1 ⟨hU2.os, hU2.tape, hU2.output, hU2.size, fun k hk hne => hU2.block k hk (fun e => hne (by rw [e]))⟩ (.inr fun e => by
    have := (hrow1.lt eb e).1
    have := h.low.2.1
    omega)
  refine ⟨⟨kp h.typ (Ne.symm c1) (Ne.symm a1), by rw [hW8]; exact he, kp h.st (Ne.symm c2) (Ne.symm a2), kp h.vis (Ne.symm c3) (Ne.symm a3), kp h.ord b4 (Ne.symm a4), hM.on hU2 (Ne.symm a5), hrow, ?_, ?_, ?_, h.low, h.apart, unseen_cnt h.cnt h0 hi hn, by have := h.ol; simp; omega, fun x hx => (List.mem_append.1 hx).elim (h.rng x) (fun e => by obtain rfl : x = m := (by simpa using e); exact ⟨h0, hi⟩)⟩, hU⟩
  · rw [List.map_append, List.map_append, h.keys]; rfl
  · intro x hx y hy e
    rcases List.mem_append.1 hx with hx | hx <;> rcases List.mem_append.1 hy with hy | hy
    · exact h.uni x hx y hy e
    · obtain rfl : y = _ := by simpa using hy
      exact absurd ((h.lk m).2 ⟨x, hx, e⟩) hn
    · obtain rfl : x = _ := by simpa using hx
      exact absurd ((h.lk m).2 ⟨y, hy, e.symm⟩) hn
    · obtain rfl : x = _ := by simpa using hx
      obtain rfl : y = _ := by simpa using hy
      rfl
  · intro x hx
    rcases List.mem_append.1 hx with hx | hx
    · exact (h.val x hx).carry hU (fun b e => .inl e)
    · obtain rfl : x = _ := by simpa using hx
      exact OpVal.carry ⟨m, k, ix, n, a, len, cap, rfl, hv⟩ hU (fun b e => .inl e)
/-- A number more in the order. -/
theorem OpW.push {m : Int} {g cap' : Nat} {w9 w10 W8 : World} (h : OpW l tb eb lb vb ob M base la lc ks o kvs ov e W) (_hb : base ≤ W.heap.size) (h9 : Upto none' W w9) (hown : Ints base w10 (.slice (some ⟨g, 0, none⟩) (o.length + 1) cap') (o ++ [m])) (hg : w9.grownBy w10 ov.ownBlock)
    (hat : ov.ownBlock = some g ∨ g = w9.heap.size) (hol : o.length + 1 ≤ ks.length) (hW8 : W8 = w10.setCell ⟨ob, 0, none⟩ (.slice (some ⟨g, 0, none⟩) (o.length + 1) cap')) :
    OpW l tb eb lb vb ob M base la lc ks (o ++ [m]) kvs (.slice (some ⟨g, 0, none⟩) (o.length + 1) cap') e W8 ∧ Upto (Chg eb M ob ov) W W8 ∧ (∀ b, (Value.slice (some ⟨g, 0, none⟩) (o.length + 1) cap').ownBlock = some b → ov.ownBlock = some b ∨ W.heap.size ≤ b) := by
  have h' := h.on h9
  have hU1 : Upto (fun b => ov.ownBlock = some b) w9 w10 := ⟨hg.os, hg.tape, hg.output, hg.size, fun k hk hn => hg.block k hk (fun e => hn e.symm)⟩
  have hU2 : Upto (fun b => b = ob) w10 W8 := by rw [hW8]; exact Upto.set (Upto.refl _ _) 0 _
  obtain ⟨⟨a1, a2, a3, a4, a5⟩, ⟨b1, b2, b3, b4⟩, c1, c2, c3⟩ := h.apart
  obtain ⟨l1, l2, l3, l4, l5, l6⟩ := h.low
  have ho : ∀ b, (Value.slice (some ⟨g, 0, none⟩) (o.length + 1) cap').ownBlock = some b → ov.ownBlock = some b ∨ W.heap.size ≤ b := fun b e => by
    simp only [Value.ownBlock, Option.some.injEq] at e
    subst e
    exact hat.imp id (fun e => by rw [e]; exact h9.size)
  have nb : ∀ b, b < base → ¬ ov.ownBlock = some b := fun b hb e => by have := (h.row.lt b e).1; omega
  have hU : Upto (Chg eb M ob ov) W W8 := ((h9.mono (fun _ _ e => e.elim)).trans hU1 (fun _ _ e => .inr (.inr (.inr e)))).trans hU2 (fun _ _ e => .inr (.inr (.inl e)))
  have kp : ∀ {c : Value} {T : TypeId} {b : Nat}, Box1 w9 b c T → b < base → b ≠ ob → Box1 W8 b c T := fun hb h1 h2 => (hb.keep hU1 (nb _ h1)).keep hU2 h2
  have gb : base ≤ g := (hown.lt g rfl).1
  refine ⟨⟨kp h'.typ l1 (Ne.symm b1), kp h'.err l2 a4, kp h'.st l3 (Ne.symm b2), kp h'.vis l4 (Ne.symm b3), by rw [hW8]; exact (h'.ord.keep hU1 (nb _ l5)).set _, (h'.map.on hU1 (nb _ l6)).on hU2 (Ne.symm b4), ?_, h.keys, h.uni, fun x hx => (h.val x hx).carry hU ho, h.low, h.apart, h.cnt, by simp; omega, h.rng⟩, hU, ho⟩
  exact World.ownsRow.kept (row := some ob) hown ⟨hU2.os, hU2.tape, hU2.output, hU2.size, fun k hk hne => hU2.block k hk (fun e => hne (by rw [e]))⟩ (.inr fun e => by
    have : g = ob := by simpa [Value.ownBlock] using e
    omega)
end
end Go.Proofs.YtdomloghcpfdjaaGreatDoor
namespace Go.Proofs.YtdomloghcpfdjaaGreatDoor
open Go.RowKit Go.LF
/-- What a call of the closure leaves. -/
def OpC (l : List Mv) (s' : Ord) (tb eb lb vb ob M base : Nat) (la : Option Addr) (lc : Nat) (ks o : List Int) (ov : Value) (G : List Int) (W W' : World) : Prop :=
  ∃ (ks' o' : List Int) (kvs' : List (Value × Value)) (ov' : Value) (e' : Int), OpW l tb eb lb vb ob M base la lc ks' o' kvs' ov' e' W' ∧ Hs s' ks' o' e' G ∧ Upto (Chg eb M ob ov) W W' ∧
    (∀ b, ov'.ownBlock = some b → ov.ownBlock = some b ∨ W.heap.size ≤ b) ∧ o'.length + ks.length ≤ ks'.length + o.length
def OpOn (l : List Mv) (f : List Int → Ord → Ord) (R : Nat) (u : Tm) : Prop :=
  ∀ (tb eb lb vb ob M base : Nat) (la : Option Addr) (lc : Nat) (ks o : List Int) (kvs : List (Value × Value)) (ov : Value) (e : Int) (G : List Int) (s : Ord) (W : World) (cs : List Value), u.wt ≤ 1000000 → Bel l R (Tm.metas u) → (∀ x ∈ Tm.metas u, ∀ g ∈ G, rk l x < rk l g) →
    OpW l tb eb lb vb ob M base la lc ks o kvs ov e W → base ≤ W.heap.size → Hs s ks o e G → RepE (Chg eb M ob ov) W 6 (l.map Mv.dat) la 0 → Rep none' W u.dat cs →
    Calls Tryz.prog 177 #[.agg cs.toArray, .pointer (some ⟨tb, 0, none⟩), .pointer (some ⟨eb, 0, none⟩), .pointer (some ⟨lb, 0, none⟩), .pointer (some ⟨vb, 0, none⟩), .pointer (some ⟨ob, 0, none⟩)] W fun x W' => x = .returned (.tuple #[]) ∧ OpC l (f (Tm.metas u) s) tb eb lb vb ob M base la lc ks o ov G W W'
/-- What the region with Expand reads. -/
abbrev Op6 (tb lb b o : Nat) (x y t0 t1 t2 t3 : Value) (w' : World) : Prop :=
  w'.cell? ⟨tb, 0, none⟩ = some x ∧ w'.cell? ⟨lb, 0, none⟩ = some y ∧ (w'.cell? ⟨b, o + 1, none⟩ = some t0 ∧ w'.cell? ⟨b, o + 2, none⟩ = some t1 ∧ w'.cell? ⟨b, o + 3, none⟩ = some t2 ∧ w'.cell? ⟨b, o + 4, none⟩ = some t3)
theorem Op6.keep {S : Nat → Prop} {tb lb b o : Nat} {x y t0 t1 t2 t3 : Value} {w w' : World} (h : Op6 tb lb b o x y t0 t1 t2 t3 w) (hU : Upto S w w') (h1 : ¬ S tb) (h2 : ¬ S lb) (h3 : ¬ S b) : Op6 tb lb b o x y t0 t1 t2 t3 w' := by
  obtain ⟨a0, a1, b0, b1, b2, b3⟩ := h
  exact ⟨hU.cell a0 h1, hU.cell a1 h2, hU.cell b0 h3, hU.cell b1 h3, hU.cell b2 h3, hU.cell b3 h3⟩
theorem Op6.set {eb tb lb b o : Nat} {x y t0 t1 t2 t3 v : Value} {w : World} (h : Op6 tb lb b o x y t0 t1 t2 t3 w) (h1 : ¬ tb = eb) (h2 : ¬ lb = eb) (h3 : ¬ b = eb) : Op6 tb lb b o x y t0 t1 t2 t3 (w.setCell ⟨eb, 0, none⟩ v) := h.keep (Upto.set (Upto.refl _ _) 0 _) h1 h2 h3
theorem zero_term (W : World) : (zeroValue 29).run Tryz.prog W = .ok (.agg #[.int .i64 0, .string (B []), .int .i64 0, .slice none 0 0]) W := by kernel_rfl
theorem upto_own13 {w w' : World} {r : Option Nat} (hg : w.grownBy w' r) : Upto (fun b => r = some b) w w' := ⟨hg.os, hg.tape, hg.output, hg.size, fun k hk hn => hg.block k hk (fun e => hn e.symm)⟩
theorem own_off13 {base : Nat} {W : World} {v : Value} {L : List Int} (h : Ints base W v L) {b : Nat} (hb : b < base) : ¬ v.ownBlock = some b := fun e => by have := (h.lt b e).1; omega
set_option maxRecDepth 100000 in
set_option maxHeartbeats 8000000 in
theorem op_step (l : List Mv) (hP : Plz l) (f : List Int → Ord → Ord) (R : Nat) (u : Tm) (hih : Tm.metas u ≠ [] → ∀ u, OpOn l f R u) : OpOn l (colS l f) (R + 1) u := by
  intro tb eb lb vb ob M base la lc ks o kvs ov e G s W cs hwt hbel hGr hW hb hs hL hR
  obtain ⟨i0, hi, hi0, hi1, hi2⟩ := info_parts info_int
  obtain ⟨k, nm, i, ts, aa, cap, ht, rfl, _, _⟩ := tm_open hR
  generalize ts.length = len at *
  obtain ⟨w1, hw1⟩ : ∃ w1, w1 = W.alloc (.cells #[.int .i64 k, .string (B nm), .int .i64 i, .slice aa len cap] 29) := ⟨_, rfl⟩
  have hU1 : Upto none' W w1 := by rw [hw1]; exact (Upto.refl none' _).alloc _
  have hb1 : Box4 w1 W.heap.size (.int .i64 k) (.string (B nm)) (.int .i64 i) (.slice aa len cap) 29 := by rw [hw1]; exact Box4.at_new rfl
  have hV1 := hW.on hU1
  have MT := metas_any u hwt w1 _ (hR.on hU1)
  have hcl : ∀ b, Chg eb M ob ov b → b < w1.heap.size := fun b e => by
    have h1 := hU1.size
    obtain ⟨l1, l2, l3, l4, l5, l6⟩ := hW.low
    rcases e with e | e | e | e
    · omega
    · omega
    · omega
    · have := (hW.row.lt b e).2; omega
  have hL1 := hL.on hU1
  obtain ⟨ns, hns⟩ : ∃ ns, ns = Tm.metas u := ⟨_, rfl⟩
  have hnl2 : (Tm.metas u).length ≤ 1000000 := Nat.le_trans (metas_len13 u) hwt
  rw [← hns] at hbel hGr hih MT hnl2
  rw [← hns]
  have HIH := hid hih
  have HB := hid (And.intro hbel hGr)
  have HW := hid hw1
  have HU := hid hU1
  obtain ⟨H, hH⟩ : ∃ H, H = W.heap.size := ⟨_, rfl⟩
  rw [← hH] at hb1
  have HH := hid hH
  have HSS := hid hs
  have hlow := hW.low
  have hap := hW.apart
  obtain ⟨nl, hnl⟩ : ∃ nl, nl = ns.length := ⟨_, rfl⟩
  rw [← hnl] at hnl2
  have HN := hid hnl
  have hcall : ∀ args w, Sem.run Tryz.prog (callFunc 177 args) w = .ok (Next.enter 177 args) w := fun _ _ => by simp only [go_sem, Tryz.call177]
  have hHb : base ≤ H := by omega
  clear hw1 hH hih hbel hGr hns hs hR hL hW hnl hwt
  obtain ⟨t0, t1, t2, t3⟩ := hb1.cells
  go_enter Tryz.func177, Tryz.ntmps177
  go_upto_region 1 with fail
  rw [← HH.out, ← HW.out]
  go_wp2_with fail
  (with_reducible refine MT.mono ?_)
  rintro e2 w2 ⟨v, rfl, hI, hU2⟩
  obtain ⟨va, vc, rfl, hvc, hEv⟩ := ints_open hI.rep
  rw [← HN.out] at hvc
  rw [← HN.out]
  have hE2 : RepE (Chg eb M ob ov) w2 1 (ns.map (Dat.int .i64)) va 0 := RepE.weaken (fun b _ e => hcl b e) _ _ _ _ hEv
  have hV2 := hV1.on hU2
  have hL2 := RepE.fresh' _ _ _ _ (hL1.on hU2)
  have hz2 : H < w2.heap.size := by have := hb1.lt; have := hU2.size; omega
  clear hI hEv MT t0 t1 t2 t3 hb1 hV1 hL1
  go_wp2_with fail
  go_loopw [14] (fun v14 wr => ∃ (j : Nat) (ks' o' : List Int) (kvs' : List (Value × Value)) (ov' : Value) (e' : Int), v14 = .int .i64 (j : Int) ∧ j ≤ nl ∧ OpW l tb eb lb vb ob M base la lc ks' o' kvs' ov' e' wr ∧ Hs (colS l f (ns.take j) s) ks' o' e' G ∧ Upto (Chg eb M ob ov) w2 wr ∧
      (∀ b, ov'.ownBlock = some b → ov.ownBlock = some b ∨ w2.heap.size ≤ b) ∧ o'.length + ks.length ≤ ks'.length + o.length)
    (fun v14 _ => nl - (intOf v14).toNat)
  case atStart => exact ⟨0, ks, o, kvs, ov, e, rfl, Nat.zero_le _, hV2, by rw [List.take_zero]; exact HSS.out, Upto.refl _ _, fun b h => .inl h, Nat.le_of_eq (Nat.add_comm _ _)⟩
  case round =>
    obtain ⟨j, ksj, oj, kvj, ovj, ej, rfl, hj, hV, hs, hU, hov, hgr⟩ := hrel
    by_cases hlt : j < nl
    · have hjl : j < ns.length := by have := HN.out; omega
      obtain ⟨b, ofs, rfl, hbl, _, hcj⟩ := int_cell (RepE.keep hU (fun b e => e) _ _ _ _ hE2) j hjl
      have htk : colS l f (ns.take (j + 1)) s = colS l f [ns[j]] (colS l f (ns.take j) s) := colS_take_succ l f ns j hjl s
      obtain ⟨m0, m1, m2⟩ := HB.out.1 _ (List.getElem_mem hjl)
      have mG := HB.out.2 _ (List.getElem_mem hjl)
      have hne : ns ≠ [] := fun h => by rw [h] at hjl; simp at hjl
      have IH := HIH.out hne
      generalize ns[j] = m at *
      obtain ⟨sj, hsj⟩ : ∃ sj, sj = colS l f (ns.take j) s := ⟨_, rfl⟩
      rw [← hsj] at hs htk
      have hmG : m ∉ G := fun h => by have := mG m h; omega
      have hjb : (j : Int) < (nl : Int) := by omega
      have hjm : (j : Int) ≤ 1000000 := by omega
      have c1 := hV.typ.cell
      have c2 := hV.err.cell
      have q2 := hV.err.lt
      have hgrow := hid hgr
      have HOV := hid hov
      have HTK := hid htk
      by_cases hsk : m ∈ ksj ∨ ej ≠ 0
      · have hfin := hs_skip (l := l) (f := f) hs hsk hmG
        rw [← htk] at hfin
        have HF := hid hfin
        by_cases hm : m ∈ ksj
        · obtain ⟨x, hx, hxk⟩ := (hV.lk m).1 hm
          obtain ⟨ix, kx, xx, nx, ax, lx, cx, hxe, _⟩ := hV.val x hx
          have hlk := hV.map.get (P := Tryz.prog) (mt := 130) (kt := 3) (vt := 29) (key := .int .i64 m) (val := .agg #[.int .i64 kx, .string (B nx), .int .i64 xx, .slice ax lx cx]) (by kernel_rfl) (by kernel_rfl) hV.isKey rfl
            (fun v hv => by have := hV.uni _ hv x hx hxk.symm; rw [← this] at hxe; exact (Prod.ext_iff.1 hxe).2) ⟨x, hx, hxk⟩ true
          clear hsk hs hx hxk hxe htk hgr hov hfin
          go_wp2_with fail
          go_roundw
          case rel => exact ⟨j + 1, ksj, oj, kvj, ovj, ej, by go_num, by omega, hV.on ((Upto.refl none' _).alloc _), HF.out, hU.trans ((Upto.refl none' _).alloc _) (fun _ _ e => e.elim), HOV.out, hgrow.out⟩
          case measure => simp [intOf]; omega
        · have he : (ej != 0) = true := by simpa using (hsk.elim (fun h => absurd h hm) id)
          have hlk := hV.map.none (P := Tryz.prog) (mt := 130) (kt := 3) (vt := 29) (key := .int .i64 m) (by kernel_rfl) (by kernel_rfl) (zero_term wr) hV.isKey rfl
            (fun x hx e => hm ((hV.lk m).2 ⟨x, hx, e⟩)) true
          clear hsk hs htk hgr hov hfin hm
          go_wp2_with fail
          go_roundw
          case rel => exact ⟨j + 1, ksj, oj, kvj, ovj, ej, by go_num, by omega, hV.on ((Upto.refl none' _).alloc _), HF.out, hU.trans ((Upto.refl none' _).alloc _) (fun _ _ e => e.elim), HOV.out, hgrow.out⟩
          case measure => simp [intOf]; omega
      · have hm : m ∉ ksj := fun h => hsk (.inl h)
        obtain rfl : ej = 0 := Classical.byContradiction fun h => hsk (.inr h)
        clear hsk
        obtain ⟨p, rfl⟩ : ∃ p : Nat, m = (p : Int) := ⟨m.toNat, by omega⟩
        have hpl : p < l.length := by omega
        have hLw : RepE (Chg eb M ob ovj) wr 6 (l.map Mv.dat) la 0 := RepE.weaken (fun b _ e => by
          rcases e with e | e | e | e
          · exact .inl (.inl e)
          · exact .inl (.inr (.inl e))
          · exact .inl (.inr (.inr (.inl e)))
          · exact (HOV.out b e).elim (fun e => .inl (.inr (.inr (.inr e)))) .inr) _ _ _ _ (RepE.keep hU (fun b e => .inl e) _ _ _ _ hL2)
        obtain ⟨b2, o2, k2, n2, ix2, aa2, cap2, va2, vc2, rfl, hb2l, hb2O, ⟨d0, d1, d2, d3, d4, d5⟩, hRt, hvc2, hVv⟩ := arg_mv hLw p hpl
        have hto := typeOf_at hpl
        have hmem := List.getElem_mem hpl
        have har := (hP.kn _ hmem).1
        have hwft := hP.typ _ hmem
        rw [← hto] at har hwft hRt d4
        clear hVv hvc2 d5 d0
        have hlk := hV.map.none (P := Tryz.prog) (mt := 130) (kt := 3) (vt := 29) (key := .int .i64 (p : Int)) (by kernel_rfl) (by kernel_rfl) (zero_term wr) hV.isKey rfl
          (fun x hx e => hm ((hV.lk _).2 ⟨x, hx, e⟩)) true
        have hnk := fun x hx e => hm ((hV.lk _).2 ⟨x, hx, e⟩)
        obtain ⟨w4, hw4⟩ : ∃ w4, w4 = wr.alloc (.cells #[.int .i64 0, .string (B []), .int .i64 0, .slice none 0 0] 29) := ⟨_, rfl⟩
        have hU4 : Upto none' wr w4 := by rw [hw4]; exact (Upto.refl none' wr).alloc _
        have hd : Upto none' wr w4.drew := hU4.drew
        have hV4 := hV.on hU4
        have hVd := hV.on hd
        have hcl2 : ∀ b, Chg eb M ob ovj b → b < wr.heap.size := fun b e => by
          have h1 := hU.size
          rcases e with e | e | e | e
          · exact e ▸ hV.err.lt
          · exact e ▸ hV.map.lt
          · exact e ▸ hV.ord.lt
          · exact (hV.row.lt b e).2
        have EX := expand_any (Chg eb M ob ovj) l hP.good (typeOf l (p : Int)) (by have := Tm.wf_wt65 hwft; omega) (fun h1 h2 => nal_and _ ((nal_metas _ h1).2 h2) har) w4.drew (fun b e => Nat.lt_of_lt_of_le (hcl2 b e) hd.size) (some ⟨b2, o2, none⟩) lc _ (hLw.on hd) (hRt.on hd)
        have hbel2 := fun he => bel_exp hP (i := (p : Int)) (R := R) m0 m1 he m2
        have hxr := fun he => exp_rk hP.acy hP.good hP.typ hP.vals (i := (p : Int)) m0 m1 he
        have hxw := fun he => expT_wf hP (i := (p : Int)) m0 m1 he
        obtain ⟨E, hE⟩ : ∃ E, E = expE l (typeOf l (p : Int)) := ⟨_, rfl⟩
        rw [← hE] at EX hbel2 hxr hxw
        have herr := fun (h : E ≠ 0) (ks' o' : List Int) => hs_err (f := f) (ks' := ks') (o' := o') hs hm (by rw [← hE]; exact h)
        have hout := fun (h : E = 0) (ks' o' : List Int) (e' : Int) h' => hs_out (f := f) (ks' := ks') (o' := o') (e' := e') hs hm (by rw [← hE]; exact h) h'
        rw [← HTK.out, ← hE] at herr
        rw [← HTK.out] at hout
        obtain ⟨X, hX⟩ : ∃ X, X = expT l (typeOf l (p : Int)) := ⟨_, rfl⟩
        rw [← hX] at EX hbel2 hxr hxw hout
        have HX := hid (And.intro hE hX)
        have HFA := hid (And.intro herr (And.intro hout (And.intro hbel2 (And.intro hxr hxw))))
        have HMG := hid mG
        have hsin := hs_in (m := (p : Int)) hs
        have HSI := hid hsin
        have c3 := hV4.typ.cell
        have c5 := hV4.st.cell
        generalize (typeOf l (p : Int)).args.length = tal at *
        obtain ⟨n4, n4'⟩ : ¬ b2 = eb ∧ ¬ b2 = M := ⟨fun e => hb2O (.inl e), fun e => hb2O (.inr (.inl e))⟩
        obtain ⟨⟨a1, a2, a3, a4, a5⟩, ⟨z1, z2, z3, z4⟩, y1, y2, y3⟩ := hV.apart
        have n1 : ¬ tb = eb := fun e => a1 e.symm
        have n2' : ¬ lb = eb := fun e => a2 e.symm
        have n1' : ¬ tb = M := fun e => y1 e.symm
        have n3' : ¬ lb = M := fun e => y2 e.symm
        have S0 : Op6 tb lb b2 (o2 + p * 6) (.map (some M)) (.slice (some ⟨b2, o2, none⟩) l.length lc) (.int .i64 k2) (.string (B n2)) (.int .i64 ix2) (.slice aa2 tal cap2) w4.drew := ⟨hVd.typ.cell, hVd.st.cell, hd.cell d1 (fun x => x), hd.cell d2 (fun x => x), hd.cell d3 (fun x => x), hd.cell d4 (fun x => x)⟩
        have HW4 := hid hw4
        have hpm : (p : Int) ≤ 40 := by have := hP.len; omega
        have hpl' : (p : Int) < ((l.length : Nat) : Int) := by omega
        have hz4 : wr.heap.size ≤ w4.heap.size := hU4.size
        have hm' := hid hm
        clear herr hout hbel2 hxr hxw hE hX hw4 hs htk hgr hov mG hsin har hwft hto hmem hRt hm hmG
        go_upto_region 5 with fail
        rw [← HW4.out]
        clear d1 d2 d3 d4 c1 c2 hcj
        obtain c2 := hV4.err.cell
        go_upto_region 6 with fail
        go_region_held3 (fun w' => Op6 tb lb b2 (o2 + p * 6) (.map (some M)) (.slice (some ⟨b2, o2, none⟩) l.length lc) (.int .i64 k2) (.string (B n2)) (.int .i64 ix2) (.slice aa2 tal cap2) w')
          (first | (with_reducible assumption) | (with_reducible exact S0) | (with_reducible exact Op6.set S7 n1 n2' n4))
          (first | ((go_at_call 36); (with_reducible refine EX.mono ?_); rintro e w6 ⟨k6, i6, n6, a6, l6, c6, rfl, hR6, hU6⟩; obtain ⟨w7, hup, hM7, g7, hz7⟩ := ((hVd.map.on hU6 (fun x => x)).put (P := Tryz.prog) (mt := 130) (kt := 3) (vt := 29) (key := .int .i64 (p : Int)) (by kernel_rfl) (by kernel_rfl) hVd.isKey rfl hnk (.agg #[.int .i64 k6, .string (B n6), .int .i64 i6, .slice a6 l6 c6])); have hU7 := upto_map13 g7; have S6 := S0.keep hU6 (fun x => x) (fun x => x) (fun x => x); have S7 := S6.keep hU7 n1' n3' n4'; have e7 := (hVd.err.kept hU6).keep hU7 a5; have e7c := e7.cell; have e7f := e7.frozen; have e7l := e7.lt))
        all_goals
          obtain ⟨w8, hw8⟩ : ∃ w8, w8 = w7.setCell ⟨eb, 0, none⟩ (.int .i64 E) := ⟨_, rfl⟩
          have hRX := hR6
          rw [HX.out.2] at hR6
          obtain ⟨hV8, hU68⟩ := (hVd.on hU6).put m0 m1 hm'.out hM7 g7 hw8 hR6
          have hU8 := (hd.and hU6).mono (S' := Chg eb M ob ovj) (fun _ _ e => e.elim) |>.trans hU68 (fun _ _ e => e)
          have hRX8 := Rep.weaken (O' := none') (fun _ _ e => e.elim) _ _ (Rep.keep hU68 (fun b e => e) _ _ hRX)
          have hL8 := RepE.keep hU8 (fun b e => e) _ _ _ _ hLw
          have c8 := hV8.err.cell
          have v8 := hV8.vis.cell
          have t8 := hV8.typ.cell
          have hget := hV8.map.get (P := Tryz.prog) (mt := 130) (kt := 3) (vt := 29) (key := .int .i64 (p : Int)) (val := .agg #[.int .i64 k6, .string (B n6), .int .i64 i6, .slice a6 l6 c6]) (by kernel_rfl) (by kernel_rfl) hV8.isKey rfl
            (fun v hv => by have := hV8.uni _ hv (.int .i64 (p : Int), .agg #[.int .i64 k6, .string (B n6), .int .i64 i6, .slice a6 l6 c6]) (by simp) rfl; exact (Prod.ext_iff.1 this).2) ⟨_, List.mem_append_right _ (List.mem_singleton.2 rfl), rfl⟩ false
          have HW8 := hid hw8
          have hz8 := hU8.size
          have hz2r := hU.size
          clear hw8 hR6 hRX hM7 g7 hU7 S6 S7 S0 e7 e7c e7f e7l hup hU6 hlk hnk c2 c3 c5 hU68 EX hVd hV4
          go_upto_region 7 with fail
          rw [← HW8.out]
          by_cases hE0 : E = 0
          case neg =>
            have he : (E == 0) = false := by simpa using hE0
            have hfin := HFA.out.1 hE0 (ksj ++ [(p : Int)]) oj
            have HF := hid hfin
            clear hfin hE0 hget
            go_wp2_with fail
            go_roundw
            case rel => exact ⟨j + 1, ksj ++ [(p : Int)], oj, _, ovj, E, by go_num, by omega, hV8, HF.out, hU.trans hU8 (fun b hb e => by
              rcases e with e | e | e | e
              · exact .inl e
              · exact .inr (.inl e)
              · exact .inr (.inr (.inl e))
              · exact (HOV.out b e).elim (fun e => .inr (.inr (.inr e))) (fun e => by omega)), HOV.out, by have := hgrow.out; simp; omega⟩
            case measure => simp [intOf]; omega
          case pos =>
            subst hE0
            have IHx := IH X tb eb lb vb ob M base (some ⟨b2, o2, none⟩) lc (ksj ++ [(p : Int)]) oj _ ovj 0 ((p : Int) :: G) sj w8 _ (by have := Tm.wf_wt65 (HFA.out.2.2.2.2 rfl); omega) (HFA.out.2.2.1 rfl)
              (fun x hx g hg => by
                have h1 := (HFA.out.2.2.2.1 rfl x hx).2
                rcases List.mem_cons.1 hg with rfl | hg
                · exact h1
                · have := HMG.out g hg; omega) hV8 (by omega) HSI.out hL8 hRX8
            have HO9 := hid (HFA.out.2.1 rfl)
            go_wp2_with fail
            (with_reducible refine IHx.mono ?_)
            rintro e9 w9 ⟨rfl, ks9, o9, kv9, ov9, x9, hV9, hs9, hU9, ho9, hg9⟩
            have hfin := HO9.out ks9 o9 x9 hs9
            have HF := hid hfin
            clear IHx hget c8 v8 t8 hs9 hfin
            have c9 := hV9.ord.cell
            have f9 := hV9.ord.frozen
            have l9 := hV9.ord.lt
            have hz9 := hU9.size
            have hal := (Upto.refl none' w9).alloc (.cells #[.int .i64 (p : Int)] 3)
            have hrow9 := (hV9.on hal).row
            have hol : o9.length + 1 ≤ ks9.length := by have h1 := hg9; have h2 := hV.ol; simp at h1; omega
            have hol2 : o9.length ≤ 1000 := by have h1 := hV9.cnt; have h2 := hP.len; omega
            have hbz : base ≤ w9.heap.size := by omega
            obtain ⟨n9, hn9⟩ : ∃ n9, n9 = o9.length := ⟨_, rfl⟩
            have hrow9' : (w9.alloc (.cells #[.int .i64 (p : Int)] 3)).ownsRow base 3 1 ov9 n9 (o9.map (Value.int .i64)) := by rw [hn9]; exact hrow9
            rw [← hn9] at hol2
            have HN9 := hid hn9
            clear hn9
            go_upto_region 9 with fail
            go_wp2_with (at_builtin; go_loud (refine wpList_append_lies _ (by rfl) _ _ 22 (by rfl) base 3 i0 (.int .i64 0) 1 8 (by kernel_rfl) hi hi0 hi1 hi2 rfl (by decide) ov9 n9 (o9.map (Value.int .i64)) (by rfl) hrow9' ⟨w9.heap.size, 0, none⟩ 1 1 [.int .i64 (p : Int)] (by rfl) rfl (World.news_of_block (heap_alloc_new w9 _)) (by simp [Value.oneCell']) (by omega) (by simp only [maxLen]; omega) (by omega) (by simp; omega) _ rfl ?_); intro g cap' w10 hown hgrow9 hat _hg10; have hob := (hV9.on hal).ord.keep (upto_own13 hgrow9) (own_off13 (hV9.on hal).row hV9.low.2.2.2.2.1); have k10 := hob.cell; have f10 := hob.frozen; have l10 := hob.lt)
            obtain ⟨w11, hw11⟩ : ∃ w11, w11 = w10.setCell ⟨ob, 0, none⟩ (.slice (some ⟨g, 0, none⟩) (n9 + 1) cap') := ⟨_, rfl⟩
            rw [HN9.out] at hw11 hown
            obtain ⟨hV11, hU11, ho11⟩ := hV9.push (m := (p : Int)) hbz hal (by unfold Ints; simpa using hown) hgrow9 hat hol hw11
            rw [← HN9.out] at hw11 hV11 ho11
            rw [← hw11]
            have HFI := hid (And.intro hV11 (And.intro hU11 ho11))
            clear hV11 hU11 ho11 hown hgrow9 hat hw11 hob k10 f10 l10
            go_wp2_with fail
            go_roundw
            case rel => exact ⟨j + 1, ks9, o9 ++ [(p : Int)], kv9, _, x9, by go_num, by omega, HFI.out.1, HF.out, ((hU.trans hU8 (fun b hb e => by
              rcases e with e | e | e | e
              · exact .inl e
              · exact .inr (.inl e)
              · exact .inr (.inr (.inl e))
              · exact (HOV.out b e).elim (fun e => .inr (.inr (.inr e))) (fun e => by omega))).trans hU9 (fun b hb e => by
              rcases e with e | e | e | e
              · exact .inl e
              · exact .inr (.inl e)
              · exact .inr (.inr (.inl e))
              · exact (HOV.out b e).elim (fun e => .inr (.inr (.inr e))) (fun e => by omega))).trans HFI.out.2.1 (fun b hb e => by
              rcases e with e | e | e | e
              · exact .inl e
              · exact .inr (.inl e)
              · exact .inr (.inr (.inl e))
              · exact (ho9 b e).elim (fun e => (HOV.out b e).elim (fun e => .inr (.inr (.inr e))) (fun e => by omega)) (fun e => by omega)),
              fun b e => (HFI.out.2.2 b e).elim (fun e => (ho9 b e).elim (fun e => HOV.out b e) (fun e => .inr (by omega))) (fun e => .inr (by omega)), by have h1 := hgrow.out; have h2 := hg9; simp at h2 ⊢; omega⟩
            case measure => simp [intOf]; omega
    · have hje : ns.take j = ns := List.take_of_length_le (by have := HN.out; omega)
      rw [hje] at hs
      have HR := hid (show OpC l (colS l f ns s) tb eb lb vb ob M base la lc ks o ov G W wr from ⟨ksj, oj, kvj, ovj, ej, hV, hs, (((HU.out.and hU2).mono (fun _ _ e => e.elim)).trans hU (fun _ _ e => e)), fun b h => (hov b h).imp id (fun h => by have := HU.out.size; have := hU2.size; omega), hgr⟩)
      clear hs hov hgr
      go_wp2_with fail
      go_end0
      exact ⟨rfl, HR.out⟩
end Go.Proofs.YtdomloghcpfdjaaGreatDoor
