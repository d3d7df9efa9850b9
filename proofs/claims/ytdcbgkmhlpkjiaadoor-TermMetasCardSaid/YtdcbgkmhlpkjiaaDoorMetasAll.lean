/- For every input TermMetas returns true, and each argument reads afterwards as it read before; the package's names of binders are as its own text lays them (the card ties that). No other conditions. -/
import Derived.Test.YtdcbgkmhlpkjiaaDoorBindsP
import Derived.Test.YtdcbgkmhlpkjiaaDoorRefMetas
import Derived.Test.YtdcbgkmhlpkjiaaDoorArgs
import Derived.Test.YtdcbgkmhlpkjiaaDoorRelay
import Derived.Test.YtdcbgkmhlpkjiaaDoorMadeTerm
import Derived.Test.YtdcbgkmhlpkjiaaDoorAwake05
import Derived.Test.YtdcbgkmhlpkjiaaDoorTapeNew
import Derived.Test.YtdcbgkmhlpkjiaaDoorCards
import Derived.Test.YtdcbgkmhlpkjiaaDoorTie
import Derived.Deep.AppendLies
import Derived.Deep.RegionHeld3
/- TermMetas, as plain data. -/
namespace Go.Proofs.YtdcbgkmhlpkjiaaDoor
open Go.RowKit Go.LF

/-- One number more, unless it is there. -/
def addOne (a : List Int) (n : Int) : List Int := if a.contains n then a else a ++ [n]
def metaIx (x : Tm.Nd0) : Option Int := if x.k == 6 then some x.i else none
theorem addOne_len (a : List Int) (n : Int) : (addOne a n).length ≤ a.length + 1 := by unfold addOne; split <;> simp
theorem addOnes_len (m : List Int) : ∀ a : List Int, (m.foldl addOne a).length ≤ a.length + m.length := by
  induction m with
  | nil => intro a; simp
  | cons x m ih => intro a; have := ih (addOne a x); have := addOne_len a x; simp only [List.foldl_cons, List.length_cons]; omega
theorem addMetas_ones (t : Tm) (acc : List Int) : Tm.addMetas acc t = ((t.nodes 0).filterMap metaIx).foldl addOne acc := by
  rw [← Tm.metas_fold t 0 acc]
  generalize t.nodes 0 = xs
  induction xs generalizing acc with
  | nil => rfl
  | cons x xs ih =>
    rw [List.foldl_cons, ih]
    unfold Tm.metaStep
    cases h : (x.k == 6)
    · simp [metaIx, h]
    · simp only [List.filterMap_cons, metaIx, h, if_true, List.foldl_cons, Bool.true_and, addOne]
      cases acc.contains x.i <;> simp
theorem addOne_mem (a : List Int) (n m : Int) (h : n ∈ a) : n ∈ addOne a m := by unfold addOne; split <;> simp [h]
theorem addOnes_mem (m : List Int) : ∀ (a : List Int) (n : Int), n ∈ a → n ∈ m.foldl addOne a := by
  induction m with
  | nil => intro a n h; simpa using h
  | cons x m ih => intro a n h; exact ih _ _ (addOne_mem a n x h)
theorem addOnes_mem' (m : List Int) : ∀ (a : List Int) (n : Int), n ∈ m → n ∈ m.foldl addOne a := by
  induction m with
  | nil => intro a n h; cases h
  | cons x m ih =>
    intro a n h
    rcases List.mem_cons.1 h with rfl | h
    · refine addOnes_mem m _ _ ?_
      unfold addOne; split
      · rename_i h; simpa using h
      · simp
    · exact ih _ _ h
theorem addOne_of_mem (a : List Int) (n : Int) (h : n ∈ a) : addOne a n = a := by unfold addOne; rw [if_pos (by simpa using h)]
theorem addOnes_twice (m : List Int) : ∀ (a b : List Int), (m.foldl addOne b).foldl addOne a = m.foldl addOne (b.foldl addOne a) := by
  induction m with
  | nil => intro a b; rfl
  | cons x m ih =>
    intro a b
    rw [List.foldl_cons, ih, List.foldl_cons]
    congr 1
    by_cases h : x ∈ b
    · rw [addOne_of_mem b x h, addOne_of_mem _ x (addOnes_mem' b a x h)]
    · rw [addOne, if_neg (by simpa using h), List.foldl_append]; rfl
theorem addMetas_again (t : Tm) (acc : List Int) : Tm.addMetas acc t = (Tm.addMetas [] t).foldl addOne acc := by
  rw [addMetas_ones, addMetas_ones, addOnes_twice]; rfl
/-- An argument of an object. -/
theorem obj_arg {k i : Int} {n : List UInt8} {l : List Tm} (h : (Tm.mk k n i l).isObj = true) : ∀ t ∈ l, t.isObj = true := by
  rw [Tm.isObj] at h
  have hall : Tm.allObj l = true := by
    split at h
    · simp at h; exact h.2
    split at h
    · simp at h; exact h.2
    split at h
    · simp at h; exact h.2
    split at h
    · simp at h; exact h.2
    · cases h
  rw [Tm.allObj_iff, List.all_eq_true] at hall
  exact hall
theorem arg_metas {k i : Int} {n : List UInt8} {l : List Tm} {d v m : Nat} (h : Tm.Fits (.mk k n i l) d v m) (hd : d ≤ 10) (t : Tm) (ht : t ∈ l) : Tm.metas t = Tm.addMetas [] t ∧ t.wt ≤ 1000000 ∧ t.size ≤ 5000 := by
  have h0 := obj_arg h.obj t ht
  have h1 := h.size
  have h2 := h.depth
  have h3 := h.wt
  have h4 := Tm.pow_mono (show d + 1 ≤ 11 by omega)
  have h5 : (2 : Nat) ^ 11 = 2048 := rfl
  have h6 := Tm.size_le_sizes ht
  have h7 := Tm.depth_le_depths ht
  have h8 := Tm.wt_le_wts ht
  simp only [Tm.size_mk, Tm.depth_mk, Tm.wt_mk] at h1 h2 h3
  have hw : t.wf = 0 := by
    unfold Tm.wf Tm.small
    rw [h0]
    have e1 : t.size ≤ 4096 := by omega
    have e2 : t.depth ≤ 128 := by omega
    simp [e1, e2]
  refine ⟨?_, by omega, by omega⟩
  unfold Tm.metas
  rw [hw]
  rfl
end Go.Proofs.YtdcbgkmhlpkjiaaDoor

/- TermMetas: the closure that adds a number. -/
namespace Go.Proofs.YtdcbgkmhlpkjiaaDoor
open Go.RowKit Go.LF

/-- A variable of one cell. -/
def Box1 (W : World) (g : Nat) (v : Value) (T : TypeId) : Prop := W.heap[g]? = some (.cells #[v] T (0, 0))
theorem Box1.cell {W : World} {g : Nat} {v : Value} {T : TypeId} (h : Box1 W g v T) : W.cell? ⟨g, 0, none⟩ = some v ∧ W.frozen? ⟨g, 0, none⟩ = false := by
  unfold Box1 at h
  constructor <;> simp [World.cell?, World.frozen?, h]
theorem Box1.keep {W W' : World} {S : Nat → Prop} {g : Nat} {v : Value} {T : TypeId} (h : Box1 W g v T) (hU : Upto S W W') (hS : ¬ S g) : Box1 W' g v T := (hU.block g (Array.getElem?_eq_some_iff.1 h).1 hS).trans h
theorem Box1.set {W : World} {g : Nat} {v : Value} {T : TypeId} (h : Box1 W g v T) (u : Value) : Box1 (W.setCell ⟨g, 0, none⟩ u) g u T := by
  obtain ⟨hlt, hk⟩ := Array.getElem?_eq_some_iff.1 h
  show (W.heap.modify g _)[g]? = _
  rw [Array.getElem?_eq_getElem (by rw [Array.size_modify]; exact hlt), Array.getElem_modify_self, hk]
  rfl
theorem Box1.lt {W : World} {g : Nat} {v : Value} {T : TypeId} (h : Box1 W g v T) : g < W.heap.size := (Array.getElem?_eq_some_iff.1 h).1
theorem Box1.at_new {w : World} {c : Value} {T : TypeId} {b : Nat} (hb : w.heap.size = b) : Box1 (w.alloc (.cells #[c] T)) b c T := by subst hb; exact heap_alloc_new w _

/-- What a call of the closure leaves. -/
def Wants (base bw : Nat) (w : World) (v : Value) (acc : List Int) (w' : World) : Prop :=
  ∃ v', Ints base w' v' acc ∧ Box1 w' bw v' 22 ∧ Upto (fun b => b = bw ∨ v.ownBlock = some b) w w' ∧ (v'.ownBlock = v.ownBlock ∨ ∃ g, v'.ownBlock = some g ∧ w.heap.size ≤ g)

theorem upto_grownBy {w w' : World} {v : Value} (h : w.grownBy w' v.ownBlock) : Upto (fun b => v.ownBlock = some b) w w' :=
  ⟨h.os, h.tape, h.output, h.size, fun k hk hn => h.block k hk (fun e => hn e.symm)⟩

set_option maxRecDepth 100000 in
set_option maxHeartbeats 4000000 in
theorem add_any (acc : List Int) (hl : acc.length ≤ 1000000) (n : Int) (base bw : Nat) (w : World) (v : Value) (hb : base ≤ w.heap.size) (hI : Ints base w v acc) (hB : Box1 w bw v 22) (hbw : bw < base) :
    Calls Tryd.prog 46 #[.int .i64 n, .pointer (some ⟨bw, 0, none⟩)] w fun e w' => e = .returned (.tuple #[]) ∧ Wants base bw w v (addOne acc n) w' := by
  obtain ⟨a, cap, hv, hcap, hE⟩ := ints_open hI.rep
  obtain ⟨c0, cf⟩ := hB.cell
  obtain ⟨i0, hi, hi0, hi1, hi2⟩ := info_parts info_int
  have hq := hB.lt
  obtain ⟨r, hr⟩ : ∃ r, r = addOne acc n := ⟨_, rfl⟩
  rw [← hr]
  have HR := hid hr
  clear hr
  have HV := hid hv
  rw [hv] at c0
  clear hv
  obtain ⟨len, hlen⟩ : ∃ len, len = acc.length := ⟨_, rfl⟩
  rw [← hlen] at c0 hl hcap
  have HL := hid hlen
  clear hlen
  go_enter Tryd.func46, Tryd.ntmps46
  go_wp2_with fail
  go_loopw [3] (fun v3 wr => ∃ j : Nat, j ≤ len ∧ v3 = .int .i64 j ∧ (acc.take j).contains n = false ∧ w = wr) (fun v3 _ => len - (intOf v3).toNat)
  case atStart => exact ⟨0, Nat.zero_le _, rfl, rfl, rfl⟩
  case round =>
    obtain ⟨j, hj, rfl, hA, rfl⟩ := hrel
    have HA := hid hA
    clear hA
    by_cases hlt : j < len
    · have hlt' : j < acc.length := by rw [← HL.out]; exact hlt
      obtain ⟨b, o, rfl, hb', _, hc⟩ := int_cell hE j hlt'
      have hT := contains_take acc n j hlt'
      have hM := contains_at acc n j hlt'
      rw [HA.out, Bool.false_or] at hT
      have HT := hid hT
      have HM := hid hM
      clear hT hM
      generalize acc[j] = x at *
      by_cases hx : (x == n) = true
      · have hx' := hid hx
        go_wp2_with fail
        refine bodyPost_ret (v := .tuple #[]) (by simp [results, Tryd.f46, go_sem]) rfl ⟨rfl, v, ?_, hB, Upto.refl _ _, .inl rfl⟩
        rw [HR.out, addOne, if_pos (HM.out hx'.out)]
        exact hI
      · have hx' := hid hx
        replace hx : (x == n) = false := by simpa using hx
        go_wp2_with fail
        go_roundw
        case rel =>
          have fin : ∃ j1 : Nat, j1 ≤ len ∧ Value.int .i64 ((j : Int) + 1) = .int .i64 j1 ∧ (acc.take j1).contains n = false ∧ True :=
            ⟨j + 1, by omega, by go_num, by rw [HT.out]; simpa using hx'.out, trivial⟩
          first | exact fin | ((repeat apply Exists.intro); exact ⟨fin, rfl⟩)
        case measure => simp [intOf]; omega
    · have hj' : acc.take j = acc := List.take_of_length_le (by rw [← HL.out]; omega)
      have HA' := HA.out
      rw [hj'] at HA'
      have HO := hid HA'
      clear HA HA' hj'
      have hIw : w.ownsRow base 3 1 (.slice a len cap) len (acc.map (Value.int .i64)) := by
        have := hI
        unfold Ints at this
        rw [HV.out, ← HL.out] at this
        exact this
      have hIa := World.ownsRow.alloc hIw (.cells #[.int .i64 n] 3)
      have hBa := hB.keep ((Upto.refl none' w).alloc (.cells #[.int .i64 n] 3)) (fun x => x)
      go_wp2_with (at_builtin; refine wpList_append_lies _ (by rfl) _ _ 22 (by rfl) base 3 i0 (.int .i64 0) 1 8 (by kernel_rfl) hi hi0 hi1 hi2 rfl (by decide) (.slice a len cap) len (acc.map (Value.int .i64)) (by rfl) hIa ⟨w.heap.size, 0, none⟩ 1 1 [.int .i64 n] (by rfl) rfl (World.news_of_block (heap_alloc_new w _)) (by simp [Value.oneCell']) (by omega) (by simp only [maxLen]; omega) (by omega) (by simp; omega) (w.heap.size + 1) (by simp) ?_; intro g cap' w7 hown hgrow hat hlt7; have hB7 := hBa.keep (upto_grownBy hgrow) (fun e => by have := (hIa.lt bw e).1; omega); have c7 := hB7.cell.1; have z7 := hB7.cell.2)
      go_end0
      refine ⟨rfl, .slice (some ⟨g, 0, none⟩) (len + 1) cap', ?_, hB7.set _, ?_, ?_⟩
      · have hset : Upto (fun b => b = bw) w7 (w7.setCell ⟨bw, 0, none⟩ (.slice (some ⟨g, 0, none⟩) (len + 1) cap')) := Upto.set (Upto.refl _ _) 0 _
        have hrr : r = acc ++ [n] := by rw [HR.out, addOne, if_neg (by rw [HO.out]; decide)]
        rw [hrr]
        unfold Ints
        rcases hown.2 with h5 | ⟨g', cap2, cur, hg1, hb2, hg2, rest⟩
        · simp at h5
        · have hs : (w7.setCell ⟨bw, 0, none⟩ (.slice (some ⟨g, 0, none⟩) (len + 1) cap')).heap[g']? = some (.cells cur 3 (0, 0)) := (hset.block g' (Array.getElem?_eq_some_iff.1 hg2).1 (fun e => by omega)).trans hg2
          refine ⟨?_, .inr ⟨g', cap2, cur, ?_, hb2, hs, ?_⟩⟩
          · simp
          · simpa [HL.out] using hg1
          · simpa [HL.out] using rest
      · have h1 := ((Upto.refl (fun b => b = bw ∨ v.ownBlock = some b) w).alloc (.cells #[.int .i64 n] 3)).trans (upto_grownBy hgrow) (fun i _ e => .inr (by rw [HV.out, ← HL.out]; exact e))
        exact Upto.setCell (S := fun b => b = bw ∨ v.ownBlock = some b) (p := ⟨bw, 0, none⟩) h1 (fun _ => .inl rfl) _
      · rw [HV.out, ← HL.out]
        rcases hat with h | rfl
        · exact .inl h.symm
        · exact .inr ⟨_, rfl, by show w.heap.size ≤ w.heap.size + 1; omega⟩
end Go.Proofs.YtdcbgkmhlpkjiaaDoor

/- TermMetas: its walk. -/
namespace Go.Proofs.YtdcbgkmhlpkjiaaDoor
open Go.RowKit Go.LF

theorem Ints.on {base : Nat} {W W' : World} {v : Value} {l : List Int} (h : Ints base W v l) (hU : Upto none' W W') : Ints base W' v l := by
  refine ⟨h.1, ?_⟩
  rcases h.2 with h5 | ⟨g, cap, cur, h1, hb, hg, rest⟩
  · exact .inl h5
  · exact .inr ⟨g, cap, cur, h1, hb, (hU.block g (Array.getElem?_eq_some_iff.1 hg).1 (fun x => x)).trans hg, rest⟩

/-- What the last region needs of a world: the variables t and want. -/
abbrev MtS (W : World) (bt bw : Nat) (c0 c1 c2 c3 v : Value) (w' : World) : Prop :=
  (w'.cell? ⟨bt, 0, none⟩ = some c0 ∧ w'.cell? ⟨bt, 1, none⟩ = some c1 ∧ w'.cell? ⟨bt, 2, none⟩ = some c2 ∧ w'.cell? ⟨bt, 3, none⟩ = some c3) ∧ w'.cell? ⟨bw, 0, none⟩ = some v ∧ Upto none' W w'
theorem MtS.on {W w' w1 : World} {bt bw : Nat} {c0 c1 c2 c3 v : Value} (h : MtS W bt bw c0 c1 c2 c3 v w') (hU : Upto none' w' w1) : MtS W bt bw c0 c1 c2 c3 v w1 := ⟨box_on hU h.1, hU.cell h.2.1 (fun x => x), h.2.2.and hU⟩
theorem MtS.up {W w' : World} {bt bw : Nat} {c0 c1 c2 c3 v : Value} (h : MtS W bt bw c0 c1 c2 c3 v w') : Upto none' W w' := h.2.2

/-- The numbers that are wanted, when the first j arguments have been looked at. -/
def wantAt (acc0 : List Int) (ts : List Tm) (j : Nat) : List Int := Tm.addMetasL acc0 (ts.take j)
theorem wantAt_succ (acc0 : List Int) (ts : List Tm) (j : Nat) (h : j < ts.length) (hm : Tm.metas ts[j] = Tm.addMetas [] ts[j]) : wantAt acc0 ts (j + 1) = (Tm.metas ts[j]).foldl addOne (wantAt acc0 ts j) := by
  unfold wantAt
  rw [addMetasL_take_succ ts acc0 j h, addMetas_again, hm]

set_option maxRecDepth 100000 in
set_option maxHeartbeats 8000000 in
theorem metas_walk (l : List Int) (a : Option Addr) (len cap : Nat) (hl : l.length = len) (hlen : len ≤ 17592186044416) (w : World) (hE : RepE none' w 1 (l.map (Dat.int .i64)) a 0) (hN : NamesRead w) :
    Calls Tryd.prog 7 #[.slice a len cap] w fun e w' => e = .returned (.bool true) ∧ Upto none' w w' := by
  have hT := tape_new (cap := cap) (U := 46) hl hlen hE
  have hN1 : NamesOk w.heap.size (w.alloc (.cells #[.slice a len cap, .int .i64 0] 46)) := hN.ok ((Upto.refl none' w).alloc _) (Nat.le_refl _)
  have HT : ∀ (W : World), TapeOk W w.heap.size → NamesOk w.heap.size W → Calls Tryd.prog 45 #[.pointer (some ⟨w.heap.size, 0, none⟩), .int .i64 4, .int .i64 2, .int .i64 5] W (Makes W.heap.size 4 2 5 w.heap.size W) :=
    fun W h1 h2 => term_any 4 (by omega) 2 5 (by omega) (by omega) w.heap.size W h1 h2
  have hU1 : Upto none' w (w.alloc (.cells #[.slice a len cap, .int .i64 0] 46)) := (Upto.refl none' w).alloc _
  clear hE hN hl hlen
  go_enter Tryd.func7, Tryd.ntmps7
  go_wp2_with fail
  refine (HT _ hT hN1).mono ?_
  rintro e w1 ⟨k1, i1, n1, a1, len1, cap1, t, rfl, hR, hF, _, _, hU⟩
  have hw1 : Upto none' w w1 := hU1.trans hU (fun b hb e => by simp only [isT] at e; omega)
  have hs1 : w.heap.size < w1.heap.size := by have := hU.size; simp at this; omega
  clear hT hN1 hU1 HT hU
  replace hR : Rep none' w1 t.dat [.int .i64 k1, .string (B n1), .int .i64 i1, .slice a1 len1 cap1] := Rep.weaken (fun _ _ x => x.elim) _ _ hR
  obtain ⟨kt, nt, it, ts, at', capt, rfl, hcs, hcapt, hEt⟩ := tm_open hR
  simp only [List.cons.injEq, Value.int.injEq, Value.string.injEq, Value.slice.injEq, and_true, true_and] at hcs
  obtain ⟨rfl, hBn, rfl, rfl, rfl, rfl⟩ := hcs
  have hn1 : n1 = nt := by
    have := congrArg (fun b : ByteArray => b.data.toList) hBn
    simpa using this
  subst hn1
  clear hBn
  have hA := arg_metas hF (by omega)
  have hsz := hF.size
  have hmt : Tm.metas (.mk k1 n1 i1 ts) = wantAt (if k1 == 6 then [i1] else []) ts ts.length := by
    unfold Tm.metas wantAt
    rw [hF.wf0 (by omega), List.take_length]
    show Tm.addMetas [] _ = _
    rw [Tm.addMetas]
    simp
  have hsm := hF.small (by omega)
  have hlt : ts.length ≤ 32 := by have := Tm.length_le_sizes ts; simp at hsz; omega
  have hml : (Tm.metas (.mk k1 n1 i1 ts)).length ≤ 10000000 := by
    unfold Tm.metas
    have := addMetas_len (.mk k1 n1 i1 ts) []
    split
    · simp only [List.length_nil] at this; show (Tm.addMetas [] _).length ≤ _; omega
    · simp
  obtain ⟨acc0, hacc⟩ : ∃ acc0, acc0 = (if k1 == 6 then [i1] else []) := ⟨_, rfl⟩
  rw [← hacc] at hmt
  have hac1 : acc0.length ≤ 1 := by rw [hacc]; split <;> simp
  have CM := fun w' (h : Rep none' w' (Tm.mk k1 n1 i1 ts).dat [.int .i64 k1, .string (B n1), .int .i64 i1, .slice a1 ts.length cap1]) => metas_any (.mk k1 n1 i1 ts) hsm.1 w' _ h
  have hRf := Rep.fresh hR
  obtain ⟨w2, hw2⟩ : ∃ w2, w2 = (w1.alloc (.cells #[.int .i64 k1, .string (B n1), .int .i64 i1, .slice a1 ts.length cap1] 25)).alloc (.cells #[.slice none 0 0] 22) := ⟨_, rfl⟩
  have hU2 : Upto none' w1 w2 := by rw [hw2]; exact ((Upto.refl none' w1).alloc _).alloc _
  have hBt2 : Box4 w2 w1.heap.size (.int .i64 k1) (.string (B n1)) (.int .i64 i1) (.slice a1 ts.length cap1) 25 := by rw [hw2]; exact (Box4.at_new rfl).kept ((Upto.refl none' _).alloc _)
  have hB2 : Box1 w2 (w1.heap.size + 1) (.slice none 0 0) 22 := by rw [hw2]; exact Box1.at_new (by simp)
  have hz2 : w2.heap.size = w1.heap.size + 1 + 1 := by rw [hw2]; simp
  have HZ2 := hid hz2
  have hw2' := hw1.and hU2
  have hR2 : Rep (fun b => w1.heap.size ≤ b) w2 (Tm.mk k1 n1 i1 ts).dat [.int .i64 k1, .string (B n1), .int .i64 i1, .slice a1 ts.length cap1] := hRf.on hU2
  have HW2 := hid hw2
  have HA := hid hA
  have HMT := hid hmt
  have HML := hid hml
  have hltz : w1.heap.size + 1 < w2.heap.size := by omega
  clear hz2 hw2 hA hmt hml hsm hRf hR hEt hU2 hw1
  by_cases h6 : (k1 == 6) = true
  case' pos =>
    rw [h6] at hacc
    have HAC := hid hacc
    clear hacc
    go_wp2_with fail
    rw [← HW2.out]
    refine (add_any [] (by simp) i1 w2.heap.size (w1.heap.size + 1) w2 (.slice none 0 0) (Nat.le_refl _) (World.ownsRow_nil _ _ _ _) hB2 hltz).mono ?_
    rintro e w3 ⟨rfl, v3, hI3, hB3, hU3, _⟩
    replace hU3 : Upto (fun b => b = w1.heap.size + 1) w2 w3 := hU3.mono (fun i hi e => e.elim (fun x => x) (fun x => by simp [Value.ownBlock] at x))
    have hacc3 : addOne [] i1 = acc0 := by rw [HAC.out]; rfl
    rw [hacc3] at hI3
    have hBt3 := hBt2.keep hU3 (by omega)
    clear hacc3
    go_wp2_with fail
  case' neg =>
    replace h6 : (k1 == 6) = false := by simpa using h6
    rw [h6] at hacc
    have HAC := hid hacc
    clear hacc
    go_wp2_with fail
    rw [← HW2.out]
    obtain ⟨w3, hw3⟩ : ∃ w3, w3 = w2 := ⟨_, rfl⟩
    have hU3 : Upto (fun b => b = w1.heap.size + 1) w2 w3 := by rw [hw3]; exact Upto.refl _ _
    have hB3 : Box1 w3 (w1.heap.size + 1) (.slice none 0 0) 22 := by rw [hw3]; exact hB2
    have hI3 : Ints w2.heap.size w3 (.slice none 0 0) acc0 := by rw [HAC.out]; exact World.ownsRow_nil _ _ _ _
    have hBt3 : Box4 w3 w1.heap.size (.int .i64 k1) (.string (B n1)) (.int .i64 i1) (.slice a1 ts.length cap1) 25 := by rw [hw3]; exact hBt2
    rw [← hw3]
    clear hw3
  all_goals
    clear hB2 hBt2
    go_loopw [6] (fun v6 wr => ∃ (j : Nat) (v : Value), v6 = .int .i64 j ∧ j ≤ ts.length ∧ Ints w2.heap.size wr v (wantAt acc0 ts j) ∧ Box1 wr (w1.heap.size + 1) v 22 ∧ Box4 wr w1.heap.size (.int .i64 k1) (.string (B n1)) (.int .i64 i1) (.slice a1 ts.length cap1) 25 ∧ Upto (fun b => b = w1.heap.size + 1) w2 wr)
      (fun v6 _ => ts.length - (intOf v6).toNat)
    case atStart => exact ⟨0, _, rfl, Nat.zero_le _, hI3, hB3, hBt3, hU3⟩
    case round =>
      obtain ⟨j, v, rfl, hj, hI, hB, hBt, hU⟩ := hrel
      obtain ⟨b0, b1, b2, b3⟩ := hBt.cells
      obtain ⟨_, capE, hcE, _, hE⟩ := rep_tm.1 (Rep.keep hU (fun b e => by omega) _ _ hR2)
      simp only [List.cons.injEq, Value.slice.injEq, and_true, true_and] at hcE
      obtain ⟨rfl, rfl⟩ := hcE
      by_cases hjt : j < ts.length
      · obtain ⟨eb, eo, ek, en, ex, es, ec, rfl, hb, _, p0, p1, p2, p3, hRp⟩ := arg_tm hE j hjt
        have hAj := HA.out _ (List.getElem_mem hjt)
        have hsucc := wantAt_succ acc0 ts j hjt hAj.1
        have hwl : (wantAt acc0 ts j).length ≤ 10000 := by
          have h1 := addMetasL_len (ts.take j) acc0
          have h2 := Tm.sizes_take_le ts j
          unfold wantAt
          simp at hsz
          omega
        have hMl : (Tm.metas ts[j]).length ≤ 10000 := by
          rw [hAj.1]
          have := addMetas_len ts[j] []
          simp only [List.length_nil] at this
          omega
        have CT := metas_any ts[j] hAj.2.1
        generalize wantAt acc0 ts j = accj at *
        have HS := hid hsucc
        clear hsucc hAj
        have hj0 : (0 : Int) ≤ (j : Int) := by omega
        have hj1 : (j : Int) < (ts.length : Int) := by omega
        go_wp2_with fail
        refine (CT _ _ (Rep.weaken (fun _ _ x => x.elim) _ _ hRp)).mono ?_
        rintro e w5 ⟨ms, rfl, hIm, hU5⟩
        generalize Tm.metas ts[j] = M at *
        obtain ⟨ma, mc, rfl, hmc, hmE⟩ := ints_open hIm.rep
        have hI5 := hI.on hU5
        have hB5 := hB.keep hU5 (fun x => x)
        have hBt5 := hBt.kept hU5
        have hU5' := hU.trans hU5 (fun _ _ x => x.elim)
        have hMr : Rep (fun b => b = w1.heap.size + 1 ∨ v.ownBlock = some b) w5 (intsD M) [.slice ma M.length mc] := by
          refine Rep.weaken (fun b _ e => ?_) _ _ hIm.rep
          rcases e with rfl | e
          · exact hB.lt
          · exact (hI.lt b e).2
        have hltr : w2.heap.size ≤ w5.heap.size := hU5'.size
        clear hIm hmE b0 b1 b2 b3 p0 p1 p2 p3
        go_wp2_with fail
        go_loopw [8] (fun v8 wr2 => ∃ (k : Nat) (v' : Value), v8 = .int .i64 k ∧ k ≤ M.length ∧ Ints w2.heap.size wr2 v' ((M.take k).foldl addOne accj) ∧ Box1 wr2 (w1.heap.size + 1) v' 22 ∧ Rep (fun b => b = w1.heap.size + 1 ∨ v'.ownBlock = some b) wr2 (intsD M) [.slice ma M.length mc] ∧ Upto (fun b => b = w1.heap.size + 1) w2 wr2 ∧
            Box4 wr2 w1.heap.size (.int .i64 k1) (.string (B n1)) (.int .i64 i1) (.slice (some ⟨eb, eo, none⟩) ts.length cap1) 25)
          (fun v8 _ => M.length - (intOf v8).toNat)
        case atStart => exact ⟨0, _, rfl, Nat.zero_le _, hI5, hB5, hMr, hU5', hBt5⟩
        case round =>
          obtain ⟨k, v', rfl, hk, hI6, hB6, hMr6, hU6, hBt6⟩ := hrel
          obtain ⟨am, cm, hcm, _, hmE6⟩ := ints_open hMr6
          simp only [Value.slice.injEq, true_and] at hcm
          obtain ⟨rfl, rfl⟩ := hcm
          have hlen6 : ((M.take k).foldl addOne accj).length ≤ 20000 := by
            have h1 := addOnes_len (M.take k) accj
            have h2 := List.length_take_le k M
            omega
          have hb6 := hU6.size
          by_cases hkt : k < M.length
          · obtain ⟨mb, mo, rfl, _, _, hmc⟩ := int_cell hmE6 k hkt
            have hfold : (M.take (k + 1)).foldl addOne accj = addOne ((M.take k).foldl addOne accj) M[k] := by
              rw [List.take_succ_eq_append_getElem hkt, List.foldl_append]; rfl
            have HF := hid hfold
            clear hfold
            generalize (M.take k).foldl addOne accj = acck at *
            generalize M[k] = mk at *
            have hk0 : (0 : Int) ≤ (k : Int) := by omega
            have hk1 : (k : Int) < (M.length : Int) := by omega
            go_wp2_with fail
            refine (add_any acck (by omega) mk w2.heap.size (w1.heap.size + 1) _ v' hb6 hI6 hB6 hltz).mono ?_
            rintro e w7 ⟨rfl, v7, hI7, hB7, hU7, hv7⟩
            have hown6 : ∀ b, v'.ownBlock = some b → w2.heap.size ≤ b := fun b e => (hI6.lt b e).1
            have hMr7 : Rep (fun b => b = w1.heap.size + 1 ∨ v7.ownBlock = some b) w7 (intsD M) [.slice (some ⟨mb, mo, none⟩) M.length mc] := by
              refine Rep.weaken (fun b _ e => ?_) _ _ (Rep.keep hU7 (fun b e => .inl e) _ _ (Rep.freshO hMr6))
              rcases e with e | e
              · exact .inl (.inl e)
              · rcases hv7 with h | ⟨g, h, hg⟩
                · rw [h] at e; exact .inl (.inr e)
                · rw [h] at e
                  cases e
                  exact .inr hg
            have hU7' : Upto (fun b => b = w1.heap.size + 1) w2 w7 := hU6.trans hU7 (fun b hb e => by
              rcases e with e | e
              · exact e
              · have := hown6 b e; omega)
            have hBt7 := hBt6.keep hU7 (fun e => by
              rcases e with e | e
              · omega
              · have := hown6 _ e; omega)
            go_wp2_with fail
            go_roundw
            case rel => exact ⟨k + 1, v7, by go_num, by omega, by rw [HF.out]; exact hI7, hB7, hMr7, hU7', hBt7⟩
            case measure => simp [intOf]; omega
          · have hk' : M.take k = M := List.take_of_length_le (by omega)
            rw [hk'] at hI6
            have hkl : k = M.length := by omega
            have HK := hid hkl
            clear hkl hk'
            rw [← HS.out] at hI6
            go_wp2_with fail
            go_roundw
            case rel => exact ⟨j + 1, v', by go_num, by omega, hI6, hB6, hBt6, hU6⟩
            case measure => simp [intOf]; omega
      · have hj' : j = ts.length := by omega
        rw [hj', ← HMT.out] at hI
        have HJ := hid hj'
        clear hj'
        have hwr : Upto none' w wr := hw2'.trans hU (fun i hi e => by omega)
        obtain ⟨va, vc, rfl, _, _⟩ := ints_open hI.rep
        have hml := HML.out
        have hRw : Rep none' wr (Tm.mk k1 n1 i1 ts).dat [.int .i64 k1, .string (B n1), .int .i64 i1, .slice a1 ts.length cap1] := Rep.weaken (fun _ _ x => x.elim) _ _ (Rep.keep hU (fun b e => by omega) _ _ hR2)
        generalize Tm.metas (.mk k1 n1 i1 ts) = ml at *
        have HSN := hid hml
        clear hml
        have S0 : MtS wr w1.heap.size (w1.heap.size + 1) (.int .i64 k1) (.string (B n1)) (.int .i64 i1) (.slice a1 ts.length cap1) (.slice va ml.length vc) wr := ⟨hBt.cells, hB.cell.1, Upto.refl _ _⟩
        have S0d := S0.on (Upto.refl none' wr).drew
        clear b0 b1 b2 b3
        generalize ts.length = tl at *
        go_wp2_with fail
        go_region_held3 (fun w' => MtS wr w1.heap.size (w1.heap.size + 1) (.int .i64 k1) (.string (B n1)) (.int .i64 i1) (.slice a1 tl cap1) (.slice va ml.length vc) w') (first | assumption | exact S0d | exact MtS.on (by assumption) (by assumption) | go_keep)
          (first
            | (go_at_call 36; refine (CM _ (hRw.on (MtS.up (by assumption)))).mono ?_; rintro e w4 ⟨v4, rfl, hI4, hU4⟩; obtain ⟨va4, vc4, rfl, _, _⟩ := ints_open hI4.rep)
            | (go_at_call 35; refine (sameNumbers_any ml ml HSN.out HSN.out _ _ _ hI4.rep (hI.on (MtS.up (by assumption))).rep).mono ?_; rintro e w5 ⟨rfl, hU5⟩)
            | (go_at_call 41; refine (awake05 _).mono ?_; rintro e w6 ⟨rfl, hU6⟩))
        go_wp2_with fail
        go_ret
        exact ⟨rfl, hwr.and (MtS.up (by assumption))⟩
end Go.Proofs.YtdcbgkmhlpkjiaaDoor

namespace Go.Proofs.YtdcbgkmhlpkjiaaDoor
open Go.ChangeShapes Go.WideShapes Go.ChangeAt Go.RowKit Go.LF

set_option maxRecDepth 100000 in
theorem termMetas_lifted (os : Os) (started : os.Started) (H : Type) (enc : TypeId × Value → H) :
    ReturnsInHanded {} Tryd.checked os 7 .any (fun w args => (Rows.termMetasSpec.pre enc Tryd.prog Tryd.f7 [] false w args ∧ laidMetH Tryd.prog [("lfcheck/lfcheckmade.names", Rows.laid_lfcheck_lfcheckmade_names)] w) ∧ sizedMet enc Tryd.prog Tryd.f7 (OpenSpec.ofChange Rows.termMetasSpec) false w args)
      (Rows.termMetasSpec.post enc Tryd.prog Tryd.f7 false true false false) := by
  refine returnsInHanded_of_change_and (C := Tryd.checked) (X := fun w _ => laidMetH Tryd.prog [("lfcheck/lfcheckmade.names", Rows.laid_lfcheck_lfcheckmade_names)] w) (fun _ _ _ hh h => h.of_heap hh) own started (by kernel_rfl) Tryd.func7
    (ChangeSpec.witness_shaped (enc := enc) (C := Tryd.checked) (os := os) (X := fun w _ => laidMetH Tryd.prog [("lfcheck/lfcheckmade.names", Rows.laid_lfcheck_lfcheckmade_names)] w) false (World.doorLaid Tryd.prog 400 os) #[.slice none 0 0] 8 rfl (World.shaped_of_RefB (by kernel_rfl) (by kernel_rfl)) (by kernel_rfl) (by kernel_rfl) (by kernel_rfl) (door_met os _)) ?_
  intro W base args ds gs before hval0 hW _ hsz0 hL _
  have hsz : (DataW.weightsEach Tryd.prog (Tryd.f7.params.toList ++ Rows.termMetasSpec.plain.varTypes Tryd.prog) (ds ++ gs)).all (· ≤ reachBytes) = true := hsz0
  clear hsz0
  have hval : ∀ (j : Nat) t v, Tryd.f7.params[j]? = some t → args[j]? = some v → Value.okWide Tryd.prog W .any base t v := hval0
  have hW' := hW
  obtain ⟨p, q, hA0, hV, rfl, hfz, hnd⟩ := hW
  have hA : DataW.TrodAll enc Tryd.prog W 0 (fun _ => true) true Tryd.f7.params.toList args.toList ds p := hA0
  rw [Tryd.params7] at hA hval hsz
  obtain ⟨v0, vs0, d0, ds0, p0, q0, hargs, rfl, rfl, h0, r0⟩ := trodAll_cons hA
  obtain ⟨rfl, rfl, rfl⟩ := trodAll_nil r0
  obtain rfl : args = #[v0] := Array.ext' hargs
  obtain ⟨rfl, rfl⟩ := trodVars_none hV
  clear hA0 hval0
  simp only [List.append_nil] at hW'
  have hlt : ∀ x, x ∈ p0 → x.block < W.heap.size := fun x hx => hW'.lt x (by simpa [List.mem_append, or_assoc] using hx)
  have hNR := names_of_laid hL
  have h0k := h0
  obtain ⟨a0, len0, cap0, rfl⟩ := okWide_slice Tryd.underlying22 (hval 0 22 v0 rfl rfl)
  obtain ⟨l0, hl0, _, hlen0, hE0⟩ := ints_arg h0 hsz (j := 0) rfl rfl
  refine (metas_walk l0 a0 len0 cap0 hl0 hlen0 W hE0 hNR).mono fun e W' ⟨he, hU⟩ => ?_
  subst he
  have hb := Upto.toBelow hU
  exact ⟨_, rfl, _, _, _, [], _, [], hW', (trodAll_cons_mk (shut_bool Tryd.underlying4 _) trodAll_mk0), (trodAll_cons_mk (Below.trod laidOut (by kernel_rfl) (of_decide_eq_true (by kernel_rfl)) h0k hb (fun x hx => hlt x (by simp [hx]))) trodAll_mk0), rfl, hb.frame _, fun h => by cases h⟩

theorem termMetas_holds : Rows.TermMetasSaid :=
  OpenClaim.holds_of_wide 7 Tryd.f7 rfl rfl rfl rfl rfl rfl rfl ⟨rfl, rfl, rfl, rfl, rfl⟩ rfl rfl rfl rfl rfl (by kernel_rfl) Tryd.func7 (by kernel_rfl)
    (of_decide_eq_true (by kernel_rfl)) (by unfold Func.isWrapper; first | (rw [if_pos (by decide +kernel)]; kernel_rfl) | (rw [if_neg (by decide +kernel)]; exact ⟨rfl, rfl⟩))
    (fun os started H enc _ => termMetas_lifted os started H enc)

theorem termMetas_card_holds : Rows.TermMetasCardSaid :=
  Claim7.holds_tied_plain_at .later [] [.data] true Rows.termMetasCard.stood.harness false
    termMetas_holds (fun _ h => by cases h) (by kernel_rfl) (fun _ h => by cases h) termMetas_row_tie rfl ⟨rfl, rfl⟩ (by kernel_rfl) rfl
    (fun f fn hf hfn => by
      obtain rfl : f = 7 := Option.some.inj ((show Tryd.prog.funcNamed Rows.termMetasRow.func = some 7 by kernel_rfl).symm.trans hf) |>.symm
      obtain rfl : fn = Tryd.f7 := (Option.some.inj (Tryd.func7.symm.trans hfn)).symm
      exact ⟨by kernel_rfl, fun j t ht => by
        rw [Tryd.params7] at ht
        have hm : t ∈ [22] := by simpa using Array.mem_of_getElem? ht
        have hall : ([22].all fun u => !Tryd.prog.wantsStandIn u) = true := by kernel_rfl
        exact (show Tryd.prog.wantsStandIn t = false by simpa using List.all_eq_true.1 hall t hm)⟩)
    (by kernel_rfl)
end Go.Proofs.YtdcbgkmhlpkjiaaDoor
