/- What a metavariable reaches, found with a list of what is still to be done. No program is in sight here. -/
import Derived.Test.YtdomloghcpfdjaaGreatDoorRFA
import Derived.Test.YtdomloghcpfdjaaGreatDoorRFD
import Derived.Deep.CutRange
namespace Go.Proofs.YtdomloghcpfdjaaGreatDoor
open Go.RowKit Go.LF
/-- The state of the search: what is seen, what is still to be done. -/
structure Rin (l : List Mv) (i : Int) (td : List Int) (bs : List Bool) : Prop where
  len : bs.length = l.length
  sound : ∀ k : Nat, bs[k]? = some true → ∃ j ∈ succV l i, Rch l j (k : Int)
  todo : ∀ k ∈ td, 0 ≤ k ∧ k ≤ 100000 ∧ (k < l.length → ∃ j ∈ succV l i, Rch l j k)
  roots : ∀ j ∈ succV l i, j < l.length → bs[j.toNat]? = some true ∨ j ∈ td
  closed : ∀ k : Nat, bs[k]? = some true → ∀ y ∈ succV l (k : Int), y < l.length → bs[y.toNat]? = some true ∨ y ∈ td
/-- What is reached. -/
def ReachL (l : List Mv) (i : Int) (bs : List Bool) : Prop := bs.length = l.length ∧ ∀ k : Nat, bs[k]? = some true ↔ ∃ j ∈ succV l i, Rch l j (k : Int)
section
variable {l : List Mv} (hr : ∀ m ∈ l, ∀ x ∈ nextV m, 0 ≤ x ∧ x ≤ 100000) {i : Int} {td : List Int} {bs : List Bool}
include hr in
theorem succV_rng {k x : Int} (h : x ∈ succV l k) : 0 ≤ x ∧ x ≤ 100000 := by
  unfold succV at h
  split at h
  · split at h
    · rename_i m hm
      exact hr m (List.mem_of_getElem? hm) x h
    · cases h
  · cases h
include hr in
theorem Rin.start (n : Nat) (hn : n = l.length) : Rin l i (succV l i) (List.replicate n false) := by
  subst hn
  refine ⟨by simp, fun k h => ?_, fun k hk => ?_, fun j hj _ => .inr hj, fun k h => ?_⟩
  · rw [List.getElem?_replicate] at h; split at h <;> simp at h
  · exact ⟨(succV_rng hr hk).1, (succV_rng hr hk).2, fun hl => ⟨k, hk, .refl hl⟩⟩
  · rw [List.getElem?_replicate] at h; split at h <;> simp at h
theorem Rin.skip {k : Int} (h : Rin l i (td ++ [k]) bs) (hk : ¬ k < l.length ∨ bs[k.toNat]? = some true) : Rin l i td bs := by
  refine ⟨h.len, h.sound, fun x hx => h.todo x (List.mem_append.2 (.inl hx)), fun j hj hl => ?_, fun x hx y hy hl => ?_⟩
  · rcases h.roots j hj hl with h1 | h1
    · exact .inl h1
    · rcases List.mem_append.1 h1 with h1 | h1
      · exact .inr h1
      · obtain rfl := List.mem_singleton.1 h1
        exact hk.elim (fun e => absurd hl e) .inl
  · rcases h.closed x hx y hy hl with h1 | h1
    · exact .inl h1
    · rcases List.mem_append.1 h1 with h1 | h1
      · exact .inr h1
      · obtain rfl := List.mem_singleton.1 h1
        exact hk.elim (fun e => absurd hl e) .inl
include hr in
theorem Rin.new {k : Nat} (h : Rin l i (td ++ [(k : Int)]) bs) (hk : k < l.length) : Rin l i (td ++ succV l (k : Int)) (bs.set k true) := by
  have hkb : k < bs.length := by rw [h.len]; exact hk
  obtain ⟨_, _, h0⟩ := h.todo (k : Int) (by simp)
  obtain ⟨j0, hj0, hr0⟩ := h0 (by omega)
  have set_true : ∀ x : Nat, (bs.set k true)[x]? = some true ↔ bs[x]? = some true ∨ x = k := by
    intro x
    rw [List.getElem?_set]
    split
    · rename_i e; subst e; simp [hkb]
    · rename_i e
      exact ⟨.inl, fun h => h.elim id (fun h => absurd h.symm e)⟩
  have move : ∀ y : Int, (bs[y.toNat]? = some true ∨ y ∈ td ++ [(k : Int)]) → (bs.set k true)[y.toNat]? = some true ∨ y ∈ td ++ succV l (k : Int) := by
    intro y hy
    rcases hy with h1 | h1
    · exact .inl ((set_true _).2 (.inl h1))
    · rcases List.mem_append.1 h1 with h1 | h1
      · exact .inr (List.mem_append.2 (.inl h1))
      · obtain rfl := List.mem_singleton.1 h1
        exact .inl ((set_true _).2 (.inr (by omega)))
  refine ⟨by simpa using h.len, fun x hx => ?_, fun x hx => ?_, fun j hj hl => move j (h.roots j hj hl), fun x hx y hy hl => ?_⟩
  · rcases (set_true x).1 hx with h1 | rfl
    · exact h.sound x h1
    · exact ⟨j0, hj0, hr0⟩
  · rcases List.mem_append.1 hx with h1 | h1
    · exact h.todo x (List.mem_append.2 (.inl h1))
    · exact ⟨(succV_rng hr h1).1, (succV_rng hr h1).2, fun hl => ⟨j0, hj0, hr0.trans (.step (by omega) h1 (.refl hl))⟩⟩
  · rcases (set_true x).1 hx with h1 | rfl
    · exact move y (h.closed x h1 y hy hl)
    · exact .inr (List.mem_append.2 (.inr hy))
include hr in
theorem Rin.done (h : Rin l i [] bs) : ReachL l i bs := by
  refine ⟨h.len, fun k => ⟨h.sound k, ?_⟩⟩
  rintro ⟨j, hj, hR⟩
  have h0 := succV_rng hr hj
  have key : ∀ a b, Rch l a b → 0 ≤ a → bs[a.toNat]? = some true → 0 ≤ b ∧ bs[b.toNat]? = some true := by
    intro a b hab
    induction hab with
    | refl _ => intro h1 h2; exact ⟨h1, h2⟩
    | @step a j' k' ha hj' hk' ih =>
      intro h1 h2
      have := h.closed a.toNat h2 j' (by rw [show ((a.toNat : Nat) : Int) = a by omega]; exact hj') hk'.lt
      exact ih (succV_rng hr hj').1 (this.elim id (fun e => by cases e))
  have h1 := (h.roots j hj hR.lt).elim id (fun e => by cases e)
  have h2 := (key j k hR h0.1 h1).2
  simpa using h2
end
/-- How many are not seen. -/
def cntF (W : World) (q ll : Nat) : Nat := ((List.range ll).filter (fun k : Nat => match W.cell? ⟨q, k, none⟩ with | some (.bool b) => !b | _ => false)).length
theorem cntF_eq {W : World} {q : Nat} {bs : List Bool} (h : ∀ k (hk : k < bs.length), W.cell? ⟨q, k, none⟩ = some (.bool bs[k])) : cntF W q bs.length = bs.countP (fun b => !b) := by
  unfold cntF
  rw [← List.countP_eq_length_filter]
  have e : ∀ (n : Nat), n ≤ bs.length → (List.range n).countP (fun k : Nat => match W.cell? ⟨q, k, none⟩ with | some (.bool b) => !b | _ => false) = (bs.take n).countP (fun b => !b) := by
    intro n
    induction n with
    | zero => intro _; rfl
    | succ n ih =>
      intro hn
      rw [List.range_succ, List.countP_append, ih (by omega), List.take_succ_eq_append_getElem (by omega), List.countP_append]
      congr 1
      simp only [List.countP_singleton]
      rw [h n (by omega)]
  rw [e bs.length (Nat.le_refl _), List.take_length]
theorem countP_set {bs : List Bool} {k : Nat} (hk : k < bs.length) (h : bs[k] = false) : (bs.set k true).countP (fun b => !b) + 1 = bs.countP (fun b => !b) := by
  induction bs generalizing k with
  | nil => simp at hk
  | cons b bs ih =>
    cases k with
    | zero => simp only [List.getElem_cons_zero] at h; subst h; simp
    | succ k =>
      simp only [List.getElem_cons_succ] at h
      have := ih (by simpa using hk) h
      simp only [List.set_cons_succ, List.countP_cons]
      omega
end Go.Proofs.YtdomloghcpfdjaaGreatDoor
namespace Go.Proofs.YtdomloghcpfdjaaGreatDoor
open Go.RowKit Go.LF
/-- The last number of a row of one's own is left out. -/
theorem Ints.front {base : Nat} {W : World} {g n cap : Nat} {L : List Int} {x : Int} (h : Ints base W (.slice (some ⟨g, 0, none⟩) (n + 1) cap) (L ++ [x])) (hn : n = L.length) : Ints base W (.slice (some ⟨g, 0, none⟩) n cap) L := by
  subst hn
  obtain ⟨h1, h2⟩ := h
  rcases h2 with ⟨e, _⟩ | ⟨g', cap', cur, e1, hb, hg, hnc, hm, hs, ht⟩
  · simp at e
  · simp only [Value.slice.injEq, Option.some.injEq, Addr.mk.injEq, and_true] at e1
    obtain ⟨rfl, _, rfl⟩ := e1
    refine ⟨by simp, .inr ⟨g, cap, cur, rfl, hb, hg, by simp at hnc; omega, hm, hs, ?_⟩⟩
    have := congrArg (List.take L.length) ht
    rw [List.take_take] at this
    simp only [List.length_append, List.length_singleton, Nat.mul_one, List.map_append, List.map_cons, List.map_nil] at this ⊢
    rw [Nat.min_eq_left (by omega)] at this
    rw [this, List.take_append_of_le_length (by simp), List.take_of_length_le (by simp)]
theorem Ints.own {base : Nat} {W : World} {v : Value} {L : List Int} (h : Ints base W v L) (hL : 0 < L.length) : ∃ g cap, v = .slice (some ⟨g, 0, none⟩) L.length cap ∧ L.length ≤ cap ∧ base ≤ g ∧ g < W.heap.size ∧ ∀ j (hj : j < L.length), W.cell? ⟨g, j, none⟩ = some (.int .i64 L[j]) := by
  obtain ⟨a, cap, rfl, hc, hE⟩ := ints_open h.rep
  rcases h.2 with ⟨e, h0⟩ | ⟨g, cap', cur, e1, hb, hg, rest⟩
  · omega
  · simp only [Value.slice.injEq] at e1
    obtain ⟨rfl, _, rfl⟩ := e1
    refine ⟨g, cap, rfl, hc, hb, (Array.getElem?_eq_some_iff.1 hg).1, fun j hj => ?_⟩
    obtain ⟨b, o, e, _, _, h5⟩ := int_cell hE j hj
    cases e
    simpa using h5
theorem Ints.keep {S : Nat → Prop} {base : Nat} {W W' : World} {v : Value} {L : List Int} (h : Ints base W v L) (hU : Upto S W W') (hS : ∀ b, S b → b < base) : Ints base W' v L := by
  obtain ⟨h1, h2⟩ := h
  refine ⟨h1, h2.imp id ?_⟩
  rintro ⟨g, cap, cur, rfl, hb, hg, rest⟩
  exact ⟨g, cap, cur, rfl, hb, (hU.block g (Array.getElem?_eq_some_iff.1 hg).1 (fun e => by have := hS g e; omega)).trans hg, rest⟩
/-- How long a slice is. -/
def lenV : Value → Nat
  | .slice _ n _ => n
  | _ => 0
theorem Ints.lenV {base : Nat} {W : World} {v : Value} {L : List Int} (h : Ints base W v L) : Go.Proofs.YtdomloghcpfdjaaGreatDoor.lenV v = L.length := by
  obtain ⟨a, c, rfl, _⟩ := ints_open h.rep
  rfl
set_option maxRecDepth 100000 in
set_option maxHeartbeats 8000000 in
theorem reached_any (l : List Mv) (hl : StR l) (i : Nat) (hi : i < l.length) (w : World) (la : Option Addr) (lc : Nat) (hL : RepE none' w 6 (l.map Mv.dat) la 0) :
    Calls Tryz.prog 95 #[.slice la l.length lc, .int .i64 (i : Int)] w fun e w' => ∃ q bs, e = .returned (.slice (some ⟨q, 0, none⟩) l.length l.length) ∧ BoolRw w' q bs ∧ ReachL l (i : Int) bs ∧ Upto none' w w' := by
  have hll2 := hl.ok.len
  have harr : ((List.replicate l.length false).map Value.bool).toArray = Array.replicate l.length (Value.bool false) := by simp
  have hmk := run_make_bools13 l.length (by omega) w
  rw [harr] at hmk
  obtain ⟨w1, hw1⟩ : ∃ w1, w1 = w.alloc (.cells (Array.replicate l.length (Value.bool false)) 4) := ⟨_, rfl⟩
  have hU1 : Upto none' w w1 := by rw [hw1]; exact (Upto.refl none' w).alloc _
  have hq1 : BoolRw w1 w.heap.size (List.replicate l.length false) := by rw [hw1, ← harr]; exact heap_alloc_new w _
  clear harr
  have hL1 := hL.on hU1
  have hLQ : RepE (fun b => b = w.heap.size) w1 6 (l.map Mv.dat) la 0 := (RepE.weaken (fun b _ e => .inr (by omega)) _ _ _ _ (RepE.fresh' _ _ _ _ hL)).on hU1
  have DI := fun (j : Nat) (hj : j < l.length) (W : World) (cs : List Value) (h : Rep none' W l[j].dat cs) => direct_any l[j] (hl.ok.mv _ (List.getElem_mem hj)).1 (hl.val _ (List.getElem_mem hj)) (hl.ok.mv _ (List.getElem_mem hj)).2.2 W cs h
  obtain ⟨b, o, k, n, ix, aa, cap, va, vc, rfl, hb, _, ⟨c0, c1, c2, c3, c4, c5⟩, hRt, hvc, hV⟩ := arg_mv hL1 i hi
  have hrep : Rep none' w1 l[i].dat [.string (B l[i].name), .int .i64 k, .string (B n), .int .i64 ix, .slice aa l[i].type.args.length cap, .slice va l[i].value.length vc] := rep_mv.2 ⟨_, va, vc, rfl, hRt, hvc, hV⟩
  have DI1 := DI i hi w1 _ hrep
  have hsi : succV l (i : Int) = nextV l[i] := by unfold succV; rw [if_pos (by omega), List.getElem?_eq_getElem (by simpa using hi)]; rfl
  have hnx0 := hl.nx _ (List.getElem_mem hi)
  rw [← hsi] at DI1 hnx0
  generalize l[i].type.args.length = al at *
  generalize l[i].value.length = vl at *
  generalize l[i].name = lnm at *
  have hst := Rin.start hl.rng (i := (i : Int)) l.length rfl
  obtain ⟨ll, hll⟩ : ∃ ll, ll = l.length := ⟨_, rfl⟩
  rw [← hll] at hmk hw1 hq1 hst hll2
  rw [← hll]
  have hil : (i : Int) < (ll : Int) := by omega
  have hi0 : (0 : Int) ≤ (i : Int) := by omega
  have hll3 : (ll : Int) ≤ 2048 := by omega
  obtain ⟨Q, hQ⟩ : ∃ Q, Q = w.heap.size := ⟨_, rfl⟩
  rw [← hQ] at hq1 hmk hLQ
  have HW := hid hw1
  have HL := hid hll
  have HQ := hid hQ
  obtain ⟨H1, hH1⟩ : ∃ H1, H1 = w1.heap.size := ⟨_, rfl⟩
  rw [← hH1] at DI1
  have HH1 := hid hH1
  have HST := hid hst
  have hQ1 : Q < H1 := by rw [hH1]; exact hq1.lt
  clear hw1 hll hQ hL hRt hV hvc hrep hsi hH1 hst
  go_enter Tryz.func95, Tryz.ntmps95
  go_upto_region 2 with fail
  rw [← HW.out]
  clear hmk
  go_wp2_with fail
  (with_reducible refine DI1.mono ?_)
  rintro e w2 ⟨v, rfl, hI, hU2⟩
  have hq2 := hq1.kept hU2
  clear c0 c1 c2 c3 c4 c5 DI1
  go_wp2_with fail
  go_loopw [6] (fun v6 wr => ∃ (td : List Int) (bs : List Bool), Ints H1 wr v6 td ∧ BoolRw wr Q bs ∧ Rin l (i : Int) td bs ∧ td.length + bs.countP (fun b => !b) * 10000 ≤ 10000 + ll * 10000 ∧ Upto (fun b => b = Q) w1 wr)
    (fun v6 wr => cntF wr Q ll * 20000 + lenV v6)
  case atStart =>
    refine ⟨succV l (i : Int), List.replicate ll false, hI, hq2, HST.out, ?_, hU2.mono (fun _ _ e => e.elim)⟩
    have := List.countP_le_length (p := fun b => !b) (l := List.replicate ll false)
    simp only [List.length_replicate] at this
    omega
  case round =>
    obtain ⟨td, bs, hIr, hqr, hR, hbd, hUr⟩ := hrel
    have hlb : bs.length = ll := by rw [hR.len, HL.out]
    have hm0 : cntF wr Q ll = bs.countP (fun b => !b) := by rw [← hlb]; exact cntF_eq (fun k hk => hqr.cell k hk)
    have hv0 := hIr.lenV
    have hcb := List.countP_le_length (p := fun b => !b) (l := bs)
    rcases List.eq_nil_or_concat td with rfl | ⟨td', k, rfl⟩
    · obtain ⟨ta, tc, rfl, _, _⟩ := ints_open hIr.rep
      have HF := hid (And.intro hqr (And.intro (hR.done hl.rng) (hU1.trans hUr (fun b hb e => by have := HQ.out; omega))))
      clear hR hIr hqr hUr hm0 hv0 hbd
      simp only [List.length_nil]
      go_wp2_with fail
      go_ret
      exact ⟨Q, bs, rfl, HF.out⟩
    · simp only [List.concat_eq_append] at *
      obtain ⟨g, cap2, rfl, htc, hgb, hgl, hgc⟩ := hIr.own (by simp)
      have hk := hR.todo k (by simp)
      have hck := hgc td'.length (by simp)
      simp only [List.getElem_append_right (Nat.le_refl _), Nat.sub_self, List.getElem_cons_zero] at hck
      have hfr := Ints.front (n := td'.length) (by simpa using hIr) rfl
      simp only [List.length_append, List.length_cons, List.length_nil, Nat.zero_add] at *
      obtain ⟨n', hn'⟩ : ∃ n', n' = td'.length := ⟨_, rfl⟩
      rw [← hn'] at hfr hck htc hv0 hbd
      rw [← hn']
      have hnb : (n' : Int) ≤ 100000000 := by omega
      have hn0 : (0 : Int) ≤ (n' : Int) := by omega
      obtain ⟨k0, k1, k2⟩ := hk
      have HN := hid hn'
      have HK2 := hid k2
      have HR := hid hR
      have HM := hid (And.intro hm0 (And.intro hv0 hbd))
      clear hIr hgc hn' k2 hR hm0 hv0 hbd
      by_cases hkl : k < (ll : Int)
      · obtain ⟨p, rfl⟩ : ∃ p : Nat, k = (p : Int) := ⟨k.toNat, by omega⟩
        have hpl : p < bs.length := by omega
        have hcs := hqr.cell p hpl
        have hfs := hqr.frozen p
        have hql := hqr.lt
        cases hbp : bs[p] with
        | true =>
          rw [hbp] at hcs
          have hsk := hid (HR.out.skip (.inr (by rw [Int.toNat_natCast, List.getElem?_eq_getElem hpl, hbp])))
          have HB := hid hbp
          clear hbp
          go_wp2_with fail
          go_roundw
          case rel => exact ⟨td', bs, hfr, hqr, hsk.out, by have := HM.out.2.2; have := HN.out; omega, hUr⟩
          case measure => simp [lenV]
        | false =>
          rw [hbp] at hcs
          have hps : p < l.length := by have := HR.out.len; omega
          have hnw := hid (HR.out.new hl.rng hps)
          have hcp := countP_set hpl hbp
          have hcb2 := List.countP_le_length (p := fun b => !b) (l := bs)
          obtain ⟨w5, hw5⟩ : ∃ w5, w5 = wr.setCell ⟨Q, p, none⟩ (.bool true) := ⟨_, rfl⟩
          have hset : Upto (fun b => b = Q) wr w5 := by rw [hw5]; exact Upto.set (Upto.refl _ _) p _
          have hq5 : BoolRw w5 Q (bs.set p true) := by rw [hw5]; exact hqr.set p true
          have hU5 := hUr.trans hset (fun _ _ e => e)
          have hfr5 := hfr.keep hset (fun b e => by omega)
          obtain ⟨b2, o2, k2, n2, ix2, aa2, cap3, va2, vc2, e2, _, _, ⟨c0, c1, c2, c3, c4, c5⟩, hRt2, hvc2, hV2⟩ := arg_mv (RepE.keep hU5 (fun b e => e) _ _ _ _ hLQ) p hps
          simp only [Option.some.injEq, Addr.mk.injEq, and_true] at e2
          obtain ⟨rfl, rfl⟩ := e2
          have DIp := DI p hps w5 [.string (B l[p].name), .int .i64 k2, .string (B n2), .int .i64 ix2, .slice aa2 l[p].type.args.length cap3, .slice va2 l[p].value.length vc2] (rep_mv.2 ⟨_, va2, vc2, rfl, Rep.weaken (fun _ _ x => x.elim) _ _ hRt2, hvc2, RepE.weaken (fun _ _ x => x.elim) _ _ _ _ hV2⟩)
          have hsp : succV l (p : Int) = nextV l[p] := by unfold succV; rw [if_pos (by omega), List.getElem?_eq_getElem (by simpa using hps)]; rfl
          have hnxp := hl.nx _ (List.getElem_mem hps)
          rw [← hsp] at DIp hnxp
          generalize l[p].type.args.length = al2 at *
          generalize l[p].value.length = vl2 at *
          generalize l[p].name = ln2 at *
          have HS := hid (And.intro hbp (And.intro hcp hnxp))
          have hpi : (p : Int) < (ll : Int) := hkl
          have hl5 : (ll : Int) ≤ 2048 := hll3
          have hz5 := hU5.size
          obtain ⟨ns, hns⟩ : ∃ ns, ns = succV l (p : Int) := ⟨_, rfl⟩
          rw [← hns] at DIp hnxp
          have HNS := hid hns
          have HW5 := hid hw5
          have hln : td'.length ≤ 90000000 := by have := HM.out.2.2; have := HN.out; omega
          clear hbp hcp hset hfr hRt2 hvc2 hV2 hsp hps hns hw5
          go_upto_region 8 with fail
          rw [← HW5.out]
          clear hcs hfs hqr hql hck
          go_wp2_with (first | ((go_at_call 171); (with_reducible refine DIp.mono ?_); rintro e w6 ⟨vu, rfl, hIu, hU6⟩; obtain ⟨va6, vc6, rfl, hvc6, hEu⟩ := ints_open hIu.rep; have hfr6 := hfr5.keep hU6 (fun _ x => x.elim); have hz6 := hU6.size) | (at_builtin; go_loud (refine wpList_append_ints (by rfl) _ _ (by rfl) (by rfl) hfr6 va6 ns.length vc6 ns (by rfl) rfl hEu (by omega) (by have := HH1.out; omega) ?_); intro v7 w7 hI7 hg7 hat7))
          have hU7 : Upto (fun b => b = Q) w1 w7 := (hU5.trans hU6 (fun _ _ e => e.elim)).trans (grown_own hg7) (fun b hb e => by have := (hfr6.lt b e).1; have := HH1.out; omega)
          have hq7 : BoolRw w7 Q (bs.set p true) := (hq5.kept hU6).keep (grown_own hg7) (fun e => by have := (hfr6.lt Q e).1; omega)
          have hm7 : cntF w7 Q ll = (bs.set p true).countP (fun b => !b) := by
            have hlb2 : (bs.set p true).length = ll := by rw [List.length_set]; exact hlb
            rw [← hlb2]; exact cntF_eq (fun k hk => hq7.cell k hk)
          have hv7 := hI7.lenV
          rw [HNS.out] at hI7
          have HZ := hid (And.intro hm7 hv7)
          clear hm7 hv7 c0 c1 c2 c3 c4 c5 DIp hfr6 hfr5 hq5 hg7 hat7
          go_wp2_with fail
          go_roundw
          case rel => exact ⟨_, _, hI7, hq7, hnw.out, by have h1 := HM.out.2.2; have h2 := HN.out; have h3 := HS.out.2.1; have h4 := HS.out.2.2; rw [List.length_append]; omega, hU7⟩
          case measure =>
            have h1 := HM.out.1
            have h3 := HZ.out.1
            have h4 := HZ.out.2
            have h5 := HS.out.2.1
            have h6 := HS.out.2.2
            have h7 := HN.out
            have h8 := congrArg List.length HNS.out
            rw [List.length_append] at h4
            rw [h1, h3]
            simp [h4]
            simp [lenV]
            omega
      · have hsk := hid (HR.out.skip (.inl (by have := HL.out; omega)))
        go_wp2_with fail
        go_roundw
        case rel => exact ⟨td', bs, hfr, hqr, hsk.out, by have := HM.out.2.2; have := HN.out; omega, hUr⟩
        case measure => simp [lenV]
end Go.Proofs.YtdomloghcpfdjaaGreatDoor
namespace Go.Proofs.YtdomloghcpfdjaaGreatDoor
open Go.RowKit Go.LF
theorem rch_from {l : List Mv} {x i : Int} (hx : x < l.length) (hi : i < l.length) : Rch l x i ↔ x = i ∨ ∃ j ∈ succV l x, Rch l j i := by
  constructor
  · intro h
    cases h with
    | refl _ => exact .inl rfl
    | step _ hj hk => exact .inr ⟨_, hj, hk⟩
  · rintro (rfl | ⟨j, hj, h⟩)
    · exact .refl hx
    · exact .step hx hj h
/-- None of the first ones reaches. -/
def NoneR (l : List Mv) (ms : List Int) (i : Int) : Prop := ∀ x ∈ ms, ¬ Rch l x i
theorem noneR_B {l : List Mv} {ms : List Int} {i : Int} (h : NoneR l ms i) : reachB l ms i = false := by
  unfold reachB
  classical
  exact decide_eq_false (fun ⟨x, hx, hr⟩ => h x hx hr)
theorem someR_B {l : List Mv} {ms : List Int} {i x : Int} (hx : x ∈ ms) (h : Rch l x i) : reachB l ms i = true := by
  unfold reachB
  classical
  exact decide_eq_true ⟨x, hx, h⟩
/-- A metavariable of a row of one's own gets a value; all of it apart from some blocks. -/
theorem RowD.solvedO {O : Nat → Prop} {base : Nat} {W : World} {g cap : Nat} {l : List Mv} {css : List (List Value)} (h : RowD 53 6 O base W (.slice (some ⟨g, 0, none⟩) l.length cap) (l.map Mv.dat) css) {i : Nat} (hi : i < l.length) {m : Tm} {a : Option Addr} {ac : Nat} (hO : ∀ b, O b → b < base) (ha : 1 ≤ ac)
    (hR : RepE (fun b => O b ∨ b = g) W 4 ([m].map Tm.dat) a 0) : RepE O (W.setCell ⟨g, i * 6 + 5, none⟩ (.slice a 1 ac)) 6 ((l.set i ⟨l[i].name, l[i].type, [m]⟩).map Mv.dat) (some ⟨g, 0, none⟩) 0 := by
  have ne : ∀ x y : Nat, x ≠ y → (⟨g, x, none⟩ : Addr) ≠ ⟨g, y, none⟩ := fun x y h e => h (by cases e; rfl)
  have other : ∀ (V : World) (x y : Nat) (v : Value), x ≠ y → (V.setCell ⟨g, x, none⟩ v).cell? ⟨g, y, none⟩ = V.cell? ⟨g, y, none⟩ := fun V x y v h => World.cell?_setCell_other _ _ _ _ (ne x y h)
  have hset : Upto (fun b => b = g) W (W.setCell ⟨g, i * 6 + 5, none⟩ (.slice a 1 ac)) := Upto.set (Upto.refl _ _) _ _
  obtain ⟨sa, sc, hv, _, hc⟩ := h.cells
  have hlen := h.1
  rw [List.length_map] at hlen
  refine repE_of _ _ _ (fun k hk => ?_)
  have hk' : k < l.length := by simpa using hk
  obtain ⟨g', hg1, hown, hb, hlt, _, hg⟩ := hc k (by simpa using hk') (by omega)
  have hRk := h.2.2.2 k (by simpa using hk') (by omega)
  simp only [List.getElem_map] at hRk
  simp only [Value.ownBlock, Option.some.injEq] at hown
  obtain rfl := hown
  have hRk : Rep (fun b => O b ∨ b = g) W l[k].dat css[k] := Rep.weaken (fun b _ e => e.elim .inl (fun e => .inr (by simp [Value.ownBlock, e]))) _ _ hRk
  have hgO : ¬ O g := fun e => by have := hO g e; omega
  by_cases e : k = i
  · subst e
    obtain ⟨kk, n, ix, aa, ac2, va, vc, hcs, h6, h7, h8⟩ := mv_open hRk
    rw [hcs] at hg
    refine ⟨g, 0, [.string (B l[k].name), .int .i64 kk, .string (B n), .int .i64 ix, .slice aa l[k].type.args.length ac2, .slice a 1 ac], rfl, Nat.lt_of_lt_of_le hlt hset.size, hgO, rfl, fun m' u hu => ?_, ?_⟩
    · rw [show 0 + 0 + k * 6 + m' = k * 6 + m' by omega]
      match m', hu with
      | 0, hu => rw [other _ _ _ _ (by omega)]; exact hg 0 u hu
      | 1, hu => rw [other _ _ _ _ (by omega)]; exact hg 1 u hu
      | 2, hu => rw [other _ _ _ _ (by omega)]; exact hg 2 u hu
      | 3, hu => rw [other _ _ _ _ (by omega)]; exact hg 3 u hu
      | 4, hu => rw [other _ _ _ _ (by omega)]; exact hg 4 u hu
      | 5, hu => cases hu; exact World.cell?_setCell_same _ _ _ (hg 5 _ rfl)
      | m' + 6, hu => simp at hu
    · simp only [List.getElem_map, List.getElem_set_self]
      refine rep_mv.2 ⟨[.int .i64 kk, .string (B n), .int .i64 ix, .slice aa l[k].type.args.length ac2], a, ac, rfl, Rep.weaken (fun _ _ x => .inl x) _ _ (Rep.keep hset (fun b e => .inr e) _ _ h6), by simpa using ha, RepE.weaken (fun _ _ x => .inl x) _ _ _ _ (RepE.keep hset (fun b e => .inr e) _ _ _ _ hR)⟩
  · refine ⟨g, 0, css[k], rfl, Nat.lt_of_lt_of_le hlt hset.size, hgO, h.2.1 _ (List.getElem_mem _), fun m' u hu => ?_, ?_⟩
    · rw [show 0 + 0 + k * 6 + m' = k * 6 + m' by omega, other _ _ _ _ ?_]
      · exact hg m' u hu
      · have hl6 := h.2.1 _ (List.getElem_mem (show k < css.length by omega))
        have : m' < 6 := by rw [← hl6]; exact (List.getElem?_eq_some_iff.1 hu).1
        omega
    · simp only [List.getElem_map, List.getElem_set_ne (Ne.symm e)]
      exact Rep.weaken (fun _ _ x => .inl x) _ _ (Rep.keep hset (fun b e => .inr e) _ _ hRk)
theorem RowW.rowDO {O : Nat → Prop} {base : Nat} {W : World} {v : Value} {ms : List Mv} {css : List (List Value)} (h : RowW O base W v ms css) : RowD 53 6 O base W v (ms.map Mv.dat) css := by
  obtain ⟨h1, h2, h3, h4⟩ := h
  refine ⟨by simp [h1], h2, by simpa using h3, fun i hi hi' => ?_⟩
  simp only [List.getElem_map]
  exact Rep.weaken (fun b _ e => e.elim .inl (fun e => .inr (h3.lt b e).1)) _ _ (h4 i (by simpa using hi) hi')
/-- As GivesV, apart from some blocks. -/
def GivesVO (O : Nat → Prop) (L : List Mv) (e' : Int) (w : World) (e : Ending) (w' : World) : Prop :=
  ∃ (a : Option Addr) (cap : Nat), e = .returned (.tuple #[.slice a L.length cap, .int .i64 e']) ∧ L.length ≤ cap ∧ RepE O w' 6 (L.map Mv.dat) a 0 ∧ Upto none' w w'
set_option maxRecDepth 100000 in
set_option maxHeartbeats 8000000 in
theorem refSolveO_any (O : Nat → Prop) (l : List Mv) (hl : StR l) (i : Int) (m : Tm) (hmw : m.wt ≤ 300000) (w : World) (hO : ∀ b, O b → b < w.heap.size) (la : Option Addr) (lc : Nat) (hlc : l.length ≤ lc) (cs : List Value) (hL : RepE O w 6 (l.map Mv.dat) la 0) (h : Rep O w m.dat cs) :
    Calls Tryz.prog 89 #[.slice la l.length lc, .int .i64 i, .agg cs.toArray] w (GivesVO O (solveS l i m) (solveE l i m) w) := by
  obtain ⟨k, nm, ix, ts, aa, cap, ht, rfl, _, _⟩ := tm_open h
  generalize ts.length = len at *
  obtain ⟨w1, hw1⟩ : ∃ w1, w1 = w.alloc (.cells #[.int .i64 k, .string (B nm), .int .i64 ix, .slice aa len cap] 29) := ⟨_, rfl⟩
  have hU1 : Upto none' w w1 := by rw [hw1]; exact (Upto.refl none' w).alloc _
  have ha1 : Box4 w1 w.heap.size (.int .i64 k) (.string (B nm)) (.int .i64 ix) (.slice aa len cap) 29 := by rw [hw1]; exact Box4.at_new rfl
  have hRa := h.on hU1
  have hR1 := Rep.weaken (O' := none') (fun _ _ x => x.elim) _ _ hRa
  have hL1 := hL.on hU1
  have hL1n := RepE.weaken (O' := none') (fun _ _ x => x.elim) _ _ _ _ hL1
  have VA := fun (W : World) (hu : Upto none' w1 W) => refValue13_any m l.length (by omega) W _ (hR1.on hu)
  have MT := fun (W : World) (hu : Upto none' w1 W) => refMetas_any m (by omega) W _ (hR1.on hu)
  have RE := fun (W : World) (hu : Upto none' w1 W) (x : Nat) (hx : x < l.length) => reached_any l hl x hx W la lc (hL1n.on hu)
  have HW := hid hw1
  obtain ⟨H, hH⟩ : ∃ H, H = w.heap.size := ⟨_, rfl⟩
  have HH := hid hH
  rw [← hH] at ha1
  obtain ⟨E, hE⟩ : ∃ E : Int, E = solveE l i m := ⟨_, rfl⟩
  obtain ⟨L2, hL2⟩ : ∃ L2, L2 = solveS l i m := ⟨_, rfl⟩
  rw [← hE, ← hL2]
  unfold solveS at hL2
  rw [← hE] at hL2
  unfold solveE at hE
  have hvz : valueE m l.length = 0 → ∀ x ∈ Tm.metas m, 0 ≤ x ∧ x < (l.length : Int) := fun hz x hx => ⟨(metas_ge x hx).1, (valueE_parts hz).2.2.2.2 x hx⟩
  obtain ⟨vE, hvE⟩ : ∃ vE, vE = valueE m l.length := ⟨_, rfl⟩
  rw [← hvE] at hE VA hvz
  have hmln : (Tm.metas m).length ≤ 300000 := by have := metas_len13 m; omega
  obtain ⟨ms, hms⟩ : ∃ ms, ms = Tm.metas m := ⟨_, rfl⟩
  rw [← hms] at MT hmln hE hvz
  obtain ⟨ll, hll⟩ : ∃ ll, ll = l.length := ⟨_, rfl⟩
  rw [← hll] at VA hE RE hlc
  rw [← hll]
  have hl2 : (ll : Int) ≤ 2048 := by have := hl.ok.len; omega
  have hvz2 : vE = 0 → ∀ x ∈ ms, 0 ≤ x ∧ x < (ll : Int) := by rw [hll]; exact hvz
  have HL := hid (And.intro hll (And.intro hL2 (And.intro hE hvz2)))
  have stay : ∀ (z : Int) (W : World), z ≠ 0 → E = z → Upto none' w1 W → GivesVO O L2 E w (.returned (.tuple #[.slice la ll lc, .int .i64 z])) W := by
    intro z W hz hEz hu
    have e : L2 = l := by rw [hL2, if_pos (by rw [hEz]; exact hz)]
    exact ⟨la, lc, by rw [e, hEz, hll], by rw [e, ← hll]; exact hlc, by rw [e]; exact hL1.on hu, hU1.and hu⟩
  have HS := hid stay
  clear hL1n hw1 hH hE hL2 h ht hL hvE hms hR1 hll hvz hvz2 stay
  obtain ⟨t0, t1, t2, t3⟩ := ha1.cells
  go_enter Tryz.func89, Tryz.ntmps89
  go_upto_region 1 with fail
  rw [← HW.out, ← HH.out]
  by_cases hin : 0 ≤ i ∧ i < (ll : Int)
  case neg =>
    have hE3 : E = 3 := by rw [HL.out.2.2.1, if_pos hin]
    have HF := hid (HS.out 3 w1 (by decide) hE3 (Upto.refl _ _))
    clear hE3
    by_cases h0 : i < 0
    · go_wp2_with fail
      refine bodyPost_ret (v := .tuple #[.slice la ll lc, .int .i64 3]) (by simp [results, Tryz.f89, go_sem]) rfl HF.out
    · have h2 : (ll : Int) ≤ i := by omega
      go_wp2_with fail
      refine bodyPost_ret (v := .tuple #[.slice la ll lc, .int .i64 3]) (by simp [results, Tryz.f89, go_sem]) rfl HF.out
  case pos =>
    obtain ⟨i0, i1⟩ := hin
    obtain ⟨p, rfl⟩ : ∃ p : Nat, i = (p : Int) := ⟨i.toNat, by omega⟩
    have hpl : p < l.length := by have := HL.out.1; omega
    have hpn : p < ll := by omega
    have hE4 : E = if l[p].value ≠ [] then 53 else if vE ≠ 0 then vE else if reachB l ms (p : Int) = true then 51 else 0 := by
      rw [HL.out.2.2.1, if_neg (by simp only [Classical.not_not]; exact ⟨i0, i1⟩)]
      simp only [Int.toNat_natCast, List.getElem?_eq_getElem hpl]
    obtain ⟨b, o, k1, n1, i1', a1, cap1, va1, vc1, rfl, hb, _, ⟨c0, c1, c2, c3, c4, c5⟩, hRt, hvc1, hV1⟩ := arg_mv hL1 p hpl
    obtain ⟨vl, hvl⟩ : ∃ vl, vl = l[p].value.length := ⟨_, rfl⟩
    rw [← hvl] at c5
    have hvv : l[p].value ≠ [] ↔ 0 < vl := by
      rw [hvl]; cases l[p].value <;> simp
    have hp0 : (0 : Int) ≤ (p : Int) := by omega
    have hpm : (p : Int) ≤ 2048 := by omega
    generalize l[p].type.args.length = al at *
    clear hRt hV1 hvc1 hvl
    have HE4 := hid hE4
    clear hE4
    by_cases h53 : 0 < vl
    · have hE5 : E = 53 := by rw [HE4.out, if_pos (hvv.2 h53)]
      have HF := hid (HS.out 53 w1 (by decide) hE5 (Upto.refl _ _))
      have h53' : (0 : Int) < (vl : Int) := by omega
      clear hvv hE5
      go_wp2_with fail
      refine bodyPost_ret (v := .tuple #[.slice (some ⟨b, o, none⟩) ll lc, .int .i64 53]) (by simp [results, Tryz.f89, go_sem]) rfl HF.out
    · obtain rfl : vl = 0 := by omega
      have hE5 : E = if vE ≠ 0 then vE else if reachB l ms (p : Int) = true then 51 else 0 := by rw [HE4.out, if_neg (fun e => by have := hvv.1 e; omega)]
      have HE5 := hid hE5
      have VA1 := VA w1 (Upto.refl _ _)
      clear hE5 HE4 hvv h53 VA
      go_wp2_with fail
      (with_reducible refine VA1.mono ?_)
      rintro e w3 ⟨rfl, hU3⟩
      have ha3 := ha1.kept hU3
      have MT3 := MT w3 hU3
      clear t0 t1 t2 t3 c0 c1 c2 c3 c4 c5 VA1 MT
      obtain ⟨t0, t1, t2, t3⟩ := ha3.cells
      by_cases hz : vE = 0
      case neg =>
        have hE6 : E = vE := by rw [HE5.out, if_pos hz]
        have HF := hid (HS.out vE w3 hz hE6 hU3)
        have hz' : (vE != 0) = true := by simpa using hz
        clear hz hE6
        go_wp2_with fail
        refine bodyPost_ret (v := .tuple #[.slice (some ⟨b, o, none⟩) ll lc, .int .i64 vE]) (by simp [results, Tryz.f89, go_sem]) rfl HF.out
      subst hz
      have HE6 := hid (show E = if reachB l ms (p : Int) = true then 51 else 0 by rw [HE5.out, if_neg (by simp)])
      have HMS := hid (HL.out.2.2.2 rfl)
      clear HE5
      go_wp2_with fail
      (with_reducible refine MT3.mono ?_)
      rintro e w4 ⟨vm, rfl, hI, hU4⟩
      obtain ⟨ma, mc, rfl, hmc, hEm⟩ := ints_open hI.rep
      have hU14 := hU3.and hU4
      obtain ⟨ml, hml⟩ : ∃ ml, ml = ms.length := ⟨_, rfl⟩
      rw [← hml] at hmln
      rw [← hml]
      have HML := hid hml
      clear hI MT3 hmc t0 t1 t2 t3 hml ha3
      go_wp2_with fail
      go_loopw [10] (fun v10 wr => ∃ j : Nat, v10 = .int .i64 (j : Int) ∧ j ≤ ml ∧ NoneR l (ms.take j) (p : Int) ∧ Upto none' w4 wr) (fun v10 _ => ml - (intOf v10).toNat)
      case atStart => exact ⟨0, rfl, Nat.zero_le _, fun x hx => by simp at hx, Upto.refl _ _⟩
      case round =>
        obtain ⟨j, rfl, hj, hNo, hUr⟩ := hrel
        have HNo := hid hNo
        clear hNo
        have hjm : (j : Int) ≤ 300000 := by omega
        by_cases hlt : j < ml
        · have hjl : j < ms.length := by have := HML.out; omega
          obtain ⟨b3, o3, rfl, hb3, _, hc3⟩ := int_cell (hEm.on hUr) j hjl
          obtain ⟨x0, x1⟩ := HMS.out _ (List.getElem_mem hjl)
          have hmem := List.getElem_mem hjl
          have htk : ms.take (j + 1) = ms.take j ++ [ms[j]] := List.take_succ_eq_append_getElem hjl
          generalize ms[j] = x at *
          obtain ⟨y, rfl⟩ : ∃ y : Nat, x = (y : Int) := ⟨x.toNat, by omega⟩
          have hyl : y < l.length := by have := HL.out.1; omega
          have REy := RE wr (hU14.and hUr) y (by omega)
          have hrf := rch_from (l := l) (x := (y : Int)) (i := (p : Int)) (by omega) (by omega)
          have HT := hid (And.intro htk (And.intro hmem hrf))
          have hjb : (j : Int) < (ml : Int) := by omega
          clear htk hmem hrf hjl
          by_cases hyp : (y : Int) = (p : Int)
          · have hz : E = 51 := by rw [HE6.out, if_pos (someR_B HT.out.2.1 (HT.out.2.2.2 (.inl hyp)))]
            have HF := hid (HS.out 51 wr (by decide) hz (hU14.and hUr))
            have hyp' : ((y : Int) == (p : Int)) = true := by simpa using hyp
            clear hz hyp
            go_wp2_with fail
            refine bodyPost_ret (v := .tuple #[.slice (some ⟨b, o, none⟩) ll lc, .int .i64 51]) (by simp [results, Tryz.f89, go_sem]) rfl HF.out
          · have hyp' : ((y : Int) == (p : Int)) = false := by simpa using hyp
            have HYP := hid hyp
            clear hyp
            go_wp2_with (first | ((go_at_call 95); (with_reducible refine REy.mono ?_); rintro e w5 ⟨q, bs, rfl, hq5, hRL, hU5⟩; have hpb : p < bs.length := (by have := hRL.1; omega); have hqc := hq5.cell p hpb; have HRL := hid hRL; have hbb : bs[p]? = some bs[p] := List.getElem?_eq_getElem hpb; have HBB := hid hbb; clear hRL hbb; generalize bs[p] = bp at *; cases bp))
            · go_roundw
              case rel =>
                refine ⟨j + 1, by go_num, by omega, ?_, hUr.and hU5⟩
                rw [HT.out.1]
                intro z hz hr
                rcases List.mem_append.1 hz with hz | hz
                · exact HNo.out z hz hr
                · obtain rfl := List.mem_singleton.1 hz
                  rcases HT.out.2.2.1 hr with h1 | h1
                  · exact HYP.out h1
                  · have := (HRL.out.2 p).2 h1
                    rw [HBB.out] at this
                    cases this
              case measure => simp [intOf]; omega
            · have hr : Rch l (y : Int) (p : Int) := HT.out.2.2.2 (.inr ((HRL.out.2 p).1 HBB.out))
              have hz : E = 51 := by rw [HE6.out, if_pos (someR_B HT.out.2.1 hr)]
              refine bodyPost_ret (v := .tuple #[.slice (some ⟨b, o, none⟩) ll lc, .int .i64 51]) (by simp [results, Tryz.f89, go_sem]) rfl (HS.out 51 _ (by decide) hz ((hU14.and hUr).and hU5))
        · have hjn : ¬ (j : Int) < (ml : Int) := by omega
          have hje : ms.take j = ms := List.take_of_length_le (by have := HML.out; omega)
          have hN2 := HNo.out
          rw [hje] at hN2
          have hz : E = 0 := by rw [HE6.out, if_neg (by rw [noneR_B hN2]; simp)]
          have hL3 : L2 = l.set p ⟨l[p].name, l[p].type, [m]⟩ := by
            rw [HL.out.2.1, if_neg (by simp [hz])]
            unfold setV
            simp only [Int.toNat_natCast, List.getElem?_eq_getElem hpl]
          have HF := hid (And.intro hz hL3)
          have hU1r := hU14.and hUr
          have har := ha1.kept hU1r
          obtain ⟨t0, t1, t2, t3⟩ := har.cells
          have hlb := RepE.fresh' _ _ _ _ (hL1.on hU1r)
          have hrb := Rep.fresh' _ _ (hRa.on hU1r)
          clear hje hN2 hz hL3 HNo HE6
          go_wp2_with (at_builtin; go_loud (refine wpList_append_mvs (by rfl) _ _ (by rfl) (by rfl) (RowW.nil O wr.heap.size _) (some ⟨b, o, none⟩) ll lc l (by rfl) HL.out.1 (rep_olds hlb) (by have := hl.ok.len; simp; omega) (Nat.le_refl _) ?_); intro v7 w7 css7 hS7 hg7 hat7; have hU7 : Upto none' wr w7 := (grown_own hg7).mono (fun _ _ e => by simp [Value.ownBlock] at e); clear t0 t1 t2 t3; obtain ⟨t0, t1, t2, t3⟩ := (har.kept hU7).cells)
          simp only [List.nil_append] at hS7
          have hD7 := hS7.rowDO
          have hcl : p < css7.length := by rw [hS7.1]; exact hpl
          have hpl2 : p < (l.map Mv.dat).length := by rw [List.length_map]; exact hpl
          obtain ⟨sa, sc, hv, hsc, hc⟩ := hD7.cells
          obtain ⟨g, hg0, hown, hgb, hglt, hgf, hgc⟩ := hc p hpl2 hcl
          have hRp := hS7.2.2.2 p hpl hcl
          obtain ⟨kk, nn, ii, a9, c9, va9, vc9, hcs, _, _, _⟩ := mv_open hRp
          have g5 := hgc 5 (.slice va9 l[p].value.length vc9) (by rw [hcs]; rfl)
          have gf := hgf (p * 6 + 5)
          rw [List.length_map, ← HL.out.1] at hv hsc
          subst hg0 hv
          have hb7 := hU7.size
          have hrm := hrb.on hU7
          have HD := hid (And.intro hD7 (And.intro hsc (And.intro hgb hU7)))
          clear hcs hgc hgf hRp hc hown hS7 hD7 hg7 hat7 hsc hU7
          have hia : ∀ W, (Instr.indexAt 44 (.slice (some ⟨g, 0, none⟩) ll sc) (.int .i64 (p : Int))).run Tryz.prog W = .ok (.pointer (some ⟨g, p * 6, none⟩)) W := by
            intro W
            rw [run_indexAt_slice (h := by kernel_rfl), if_pos ⟨i0, i1⟩]
            have hs : (sizeOf (Tryz.prog.elem 44)).run Tryz.prog W = .ok 6 W := by kernel_rfl
            have hadd : (⟨g, 0, none⟩ : Addr).add (p * 6) = ⟨g, p * 6, none⟩ := by unfold Addr.add; split <;> simp_all
            rw [hs]
            simp only [Result.andThen, Int.toNat_natCast, hadd]
          go_wp2_with fail
          rw [hia]
          go_simp
          go_wp2_with fail
          obtain ⟨w8, hw8⟩ : ∃ w8, w8 = w7.alloc (.cells #[.int .i64 k, .string (B nm), .int .i64 ix, .slice aa len cap] 29) := ⟨_, rfl⟩
          have hU8 : Upto none' w7 w8 := by rw [hw8]; exact (Upto.refl none' _).alloc _
          have hB8 : Box4 w8 w7.heap.size (.int .i64 k) (.string (B nm)) (.int .i64 ix) (.slice aa len cap) 29 := by rw [hw8]; exact Box4.at_new rfl
          have hD8 : RowD 53 6 O wr.heap.size w8 (.slice (some ⟨g, 0, none⟩) ll sc) (l.map Mv.dat) css7 := by
            obtain ⟨z1, z2, z3, z4⟩ := HD.out.1
            refine ⟨z1, z2, ⟨z3.1, ?_⟩, fun i h h' => (z4 i h h').on hU8⟩
            rcases z3.2 with h5 | ⟨g', cap', cur, e, hb', hg', rest⟩
            · exact .inl h5
            · exact .inr ⟨g', cap', cur, e, hb', (hU8.block g' (Array.getElem?_eq_some_iff.1 hg').1 (fun x => x)).trans hg', rest⟩
          have hOr : ∀ b, O b → b < wr.heap.size := fun b e => Nat.lt_of_lt_of_le (hO b e) (Nat.le_trans hU1.size hU1r.size)
          have hrow : RepE (fun b => O b ∨ b = g) w8 4 ([m].map Tm.dat) (some ⟨w7.heap.size, 0, none⟩) 0 := by
            refine repE_of _ _ _ (fun j hj => ?_)
            obtain rfl : j = 0 := by simpa using hj
            obtain ⟨x0, x1, x2, x3⟩ := hB8.cells
            refine ⟨w7.heap.size, 0, [.int .i64 k, .string (B nm), .int .i64 ix, .slice aa len cap], rfl, hB8.lt, fun e => by (rcases e with e | e; (have := hOr _ e; omega); omega), rfl, fun q u hu => ?_, by simpa using (Rep.weaken (fun b _ e => e.elim .inl (fun e => .inr (by have := HD.out.2.2.1; omega))) _ _ hrm).on hU8⟩
            match q, hu with
            | 0, hu => cases hu; exact x0
            | 1, hu => cases hu; exact x1
            | 2, hu => cases hu; exact x2
            | 3, hu => cases hu; exact x3
            | q + 4, hu => simp at hu
          rw [HL.out.1] at hD8
          have hfin := hD8.solvedO hpl hOr (Nat.le_refl 1) hrow
          have hUf : Upto none' w (w8.setCell ⟨g, p * 6 + 5, none⟩ (.slice (some ⟨w7.heap.size, 0, none⟩) 1 1)) := (hU1.and (hU1r.and (HD.out.2.2.2.and hU8))).trans (S' := fun b => b = g) (Upto.set (Upto.refl _ _) _ _) (fun b hb e => by have := HD.out.2.2.1; have := hU1r.size; have := hU1.size; omega)
          rw [hw8, World.setCell_alloc_past _ _ _ _ hglt] at hfin hUf
          refine bodyPost_ret (v := .tuple #[.slice (some ⟨g, 0, none⟩) ll sc, .int .i64 0]) (by simp [results, Tryz.f89, go_sem]) rfl ⟨some ⟨g, 0, none⟩, sc, by rw [HF.out.1, HF.out.2, List.length_set, HL.out.1], by rw [HF.out.2, List.length_set, ← HL.out.1]; exact HD.out.2.1, by rw [HF.out.2]; exact hfin, hUf⟩
end Go.Proofs.YtdomloghcpfdjaaGreatDoor
