/- StrictDetermines: its walk. -/
import Derived.Test.YtadphaobbpngkaaDetA
import Derived.Test.YtadphaobbpngkaaDetVs
import Derived.Test.YtadphaobbpngkaaRowD2
import Derived.Test.YtadphaobbpngkaaSubMtP
import Derived.Test.YtadphaobbpngkaaSubRm
import Derived.Test.YtadphaobbpngkaaAwake22B
import Derived.Test.YtadphaobbpngkaaCP
import Derived.Test.YtadphaobbpngkaaCG
import Derived.Deep.CutRange
import Derived.Deep.RegionHeld3
namespace Go.Proofs.Ytadphaobbpngkaa
open Go.RowKit Go.LF
section
variable {T T2 : TypeId} {wd wd2 : Nat} {O : Nat → Prop} {base : Nat} {W W' : World} {v v2 : Value} {ds ds2 : List Dat} {css css2 : List (List Value)}
theorem Two.past {S : Nat → Prop} (h : Two T wd T2 wd2 base W v ds css v2 ds2 css2) (hU : Upto S W W') (hS : ∀ b, S b → b < base ∨ W.heap.size ≤ b) : Two T wd T2 wd2 base W' v ds css v2 ds2 css2 := by
  refine ⟨?_, ?_, h.apart⟩
  · refine ((h.one.fresh).keepO hU (fun b e => (hS b e).elim (fun e => .inl (.inl e)) .inr) (fun b e s => ?_)).weaken (fun b _ e => .inl e)
    have := h.one.2.2.1.lt b e
    have := hS b s
    omega
  · refine ((h.two.fresh).keepO hU (fun b e => (hS b e).elim (fun e => .inl (.inl e)) .inr) (fun b e s => ?_)).weaken (fun b _ e => .inl e)
    have := h.two.2.2.1.lt b e
    have := hS b s
    omega
end
/-- So many simple types without arguments. -/
abbrev atoms (p : Nat) : List Sm := List.replicate p (.mk [105] [])
theorem atoms_wt (p : Nat) : Sm.wts (atoms p) = p * 2 := by
  induction p with
  | zero => rfl
  | succ p ih => rw [atoms, List.replicate_succ]; simp only [Sm.wts, Sm.wt_mk, List.length_cons, List.length_nil]; rw [show Sm.wts (List.replicate p (.mk [105] [])) = p * 2 from ih]; omega
theorem rep_atom {O : Nat → Prop} (W : World) : Rep O W (Sm.mk [105] []).dat [.string (B [105]), .slice none 0 0] := rep_sm.2 ⟨none, 0, rfl, Nat.le_refl _, by simp only [List.map_nil, RepE]⟩
theorem manyE_sb {t : Tm} {ms : List Tm} {ss : List Sm} (h : manyE t ms ss = 0) : (Tm.sb 262145 ms ss 0 t 0).e = 0 ∧ manyT t ms ss = (Tm.sb 262145 ms ss 0 t 0).t := by
  have h0 := h
  unfold manyE at h
  split at h
  · omega
  split at h
  · omega
  split at h
  · omega
  split at h
  · omega
  exact ⟨h, by unfold manyT; rw [if_pos h0]⟩
theorem VlS.vals {ar : List Nat} {vs ms : List Tm} (h : VlS ar vs ms) (hl : ms.length = ar.length) : Tm.Vals ar vs ∧ ∀ (j a : Nat), ar[j]? = some a → ms[j]? = some (Tm.lamN a (vs.getD j Tm.none0)) := by
  have key : ∀ (j a : Nat), ar[j]? = some a → Tm.fo (fun i => 0 ≤ i ∧ i < a) (vs.getD j Tm.none0) ∧ ms[j]? = some (Tm.lamN a (vs.getD j Tm.none0)) := by
    intro j a ha
    obtain ⟨h1, h2⟩ := List.getElem?_eq_some_iff.1 ha
    have h3 : j < ms.length := by omega
    have h4 : j < vs.length := by have := h.1; omega
    have h5 := h.2 j h3 h4 h1
    rw [h2] at h5
    have e : vs.getD j Tm.none0 = vs[j] := by rw [List.getD, List.getElem?_eq_getElem h4]; rfl
    rw [e, List.getElem?_eq_getElem h3, h5.1]
    exact ⟨h5.2.1, rfl⟩
  exact ⟨fun j a ha => (key j a ha).1, fun j a ha => (key j a ha).2⟩
/-- The body below two Lams. -/
abbrev lam2 (b : Tm) : Tm := .mk 3 [] 0 [.mk 3 [] 0 [b]]
theorem det_final {ar : List Nat} {vs1 ms1 vs2 ms2 : List Tm} {ss : List Sm} {body : Tm} (h1 : VlS ar vs1 ms1) (l1 : ms1.length = ar.length) (h2 : VlS ar vs2 ms2) (l2 : ms2.length = ar.length) (hb : Tm.bd ar body)
    (e1 : manyE (lam2 body) ms1 ss = 0) (e2 : manyE (lam2 body) ms2 ss = 0) (hs : (manyT (lam2 body) ms1 ss).same (manyT (lam2 body) ms2 ss) = true) (j : Nat) (hj : j < ar.length) (hf : (strictV (lam2 body) (List.replicate ar.length 1)).getD j false = true) : ms1[j]? = ms2[j]? := by
  obtain ⟨g1, t1⟩ := manyE_sb e1
  obtain ⟨g2, t2⟩ := manyE_sb e2
  rw [t1, t2] at hs
  exact Tm.determines (VlS.vals h1 l1).1 (VlS.vals h2 l2).1 (VlS.vals h1 l1).2 (VlS.vals h2 l2).2 262145 262145 0 0 body hb g1 g2 hs j hj hf
/-- What the last loop reads. -/
abbrev Dt9 (b1 p1 b2 p2 q i : Nat) (c0 c1 c2 c3 d0 d1 d2 d3 f : Value) (w' : World) : Prop :=
  (w'.cell? ⟨b1, p1, none⟩ = some c0 ∧ w'.cell? ⟨b1, p1 + 1, none⟩ = some c1 ∧ w'.cell? ⟨b1, p1 + 2, none⟩ = some c2 ∧ w'.cell? ⟨b1, p1 + 3, none⟩ = some c3) ∧
  (w'.cell? ⟨b2, p2, none⟩ = some d0 ∧ w'.cell? ⟨b2, p2 + 1, none⟩ = some d1 ∧ w'.cell? ⟨b2, p2 + 2, none⟩ = some d2 ∧ w'.cell? ⟨b2, p2 + 3, none⟩ = some d3) ∧ w'.cell? ⟨q, i, none⟩ = some f
theorem Dt9.on {b1 p1 b2 p2 q i : Nat} {c0 c1 c2 c3 d0 d1 d2 d3 f : Value} {w w' : World} (h : Dt9 b1 p1 b2 p2 q i c0 c1 c2 c3 d0 d1 d2 d3 f w) (hU : Upto none' w w') : Dt9 b1 p1 b2 p2 q i c0 c1 c2 c3 d0 d1 d2 d3 f w' :=
  ⟨⟨hU.cell h.1.1 (fun x => x), hU.cell h.1.2.1 (fun x => x), hU.cell h.1.2.2.1 (fun x => x), hU.cell h.1.2.2.2 (fun x => x)⟩, ⟨hU.cell h.2.1.1 (fun x => x), hU.cell h.2.1.2.1 (fun x => x), hU.cell h.2.1.2.2.1 (fun x => x), hU.cell h.2.1.2.2.2 (fun x => x)⟩, hU.cell h.2.2 (fun x => x)⟩
theorem VlS.wt {ar : List Nat} {vs ms : List Tm} (h : VlS ar vs ms) (hl : ms.length = ar.length) (ha : ∀ a ∈ ar, a ≤ 2) : ∀ m ∈ ms, m.wt ≤ 20 := by
  intro m hm
  obtain ⟨j, hj, rfl⟩ := List.getElem_of_mem hm
  have h1 := h.2 j hj (by have := h.1; omega) (by omega)
  rw [h1.1, lamN_wt9]
  have h2 := h1.2.2
  have h3 := ha ar[j] (List.getElem_mem _)
  simp [vb] at h2
  omega
set_option maxRecDepth 100000 in
set_option maxHeartbeats 16000000 in
theorem strictDetermines_walk (l0 : List Int) (a0 : Option Addr) (len0 cap0 : Nat) (hl0 : l0.length = len0) (hlen0 : len0 ≤ 17592186044416) (l1 : List Int) (a1 : Option Addr) (len1 cap1 : Nat) (hl1 : l1.length = len1) (hlen1 : len1 ≤ 17592186044416) (l2 : List Int) (a2 : Option Addr) (len2 cap2 : Nat) (hl2 : l2.length = len2) (hlen2 : len2 ≤ 17592186044416) (w : World)
    (hE0 : RepE none' w 1 (l0.map (Dat.int .i64)) a0 0) (hE1 : RepE none' w 1 (l1.map (Dat.int .i64)) a1 0) (hE2 : RepE none' w 1 (l2.map (Dat.int .i64)) a2 0) :
    Calls Try.prog 3 #[.slice a0 len0 cap0, .slice a1 len1 cap1, .slice a2 len2 cap2] w fun e w' => e = .returned (.bool true) ∧ Upto none' w w' := by
  have hT := tape_new (cap := cap0) (U := 25) hl0 hlen0 hE0
  obtain ⟨T, hTT⟩ : ∃ T, T = w.heap.size := ⟨_, rfl⟩
  rw [← hTT] at hT
  have NX := fun (n : Int) h0 h1 w hT => next_any n h0 h1 T w hT
  have HTT := hid hTT
  have HIN := hid (And.intro hl1 (And.intro hlen1 (And.intro hE1 (And.intro hl2 (And.intro hlen2 hE2)))))
  clear hTT hE0 hl0 hlen0 hl1 hlen1 hE1 hl2 hlen2 hE2
  obtain ⟨i0, hi, hi0, hi1, hi2⟩ := info_parts info_int
  obtain ⟨i1, gi, gi0, gi1, gi2⟩ := info_parts info_simple
  go_enter Try.func3, Try.ntmps3
  go_wp2_with fail
  rw [← HTT.out]
  refine (NX _ (by omega) (by omega) _ hT).mono ?_
  rintro e w2 ⟨⟨c0, hc0, rfl⟩, hT2, hU2⟩
  have hU2' : Upto none' w w2 := ((Upto.refl none' w).alloc _).trans hU2 (fun b hb e => by simp only [isT] at e; have := HTT.out; omega)
  obtain ⟨cnt, hcnt⟩ : ∃ cnt : Nat, (1 : Int) + (c0 : Int) = (cnt : Int) := ⟨1 + c0, by omega⟩
  have hcnt1 : 1 ≤ cnt := by omega
  have hcnt3 : cnt ≤ 3 := by omega
  have hTl2 := hT2.lt
  obtain ⟨B0, hB0⟩ : ∃ B0, B0 = w2.heap.size := ⟨_, rfl⟩
  rw [← hB0] at hTl2
  have HB := hid hB0
  have HU2 := hid hU2'
  clear hT hU2 hB0
  go_wp2_with fail
  go_loopw [9, 10, 11] (fun v9 v10 v11 wr => ∃ (j : Nat) (ss : List Sm) (css css2 : List (List Value)), v11 = .int .i64 (j : Int) ∧ j ≤ cnt ∧ ss.length = j ∧ (∀ s ∈ ss, s.args.length ≤ 2 ∧ s.wt ≤ 20) ∧
      Two 3 1 29 2 B0 wr v9 ((List.replicate j (1 : Int)).map (Dat.int .i64)) css v10 (ss.map Sm.dat) css2 ∧ TapeOk wr T ∧ Upto (isT T) w2 wr)
    (fun _ _ v11 _ => cnt - (intOf v11).toNat)
  case atStart => exact ⟨0, [], [], [], rfl, Nat.zero_le _, rfl, by simp, Two.nil _ _ _ _ _ _, hT2, Upto.refl _ _⟩
  case round =>
    obtain ⟨wo, rfl⟩ : ∃ x, x = wr := ⟨wr, rfl⟩
    obtain ⟨j, ss, css, css2, rfl, hj, hsl, hsw, hTw, hTr, hU⟩ := hrel
    obtain ⟨vk, hvk⟩ : ∃ v, v = u9 := ⟨_, rfl⟩
    obtain ⟨vs, hvs⟩ : ∃ v, v = u10 := ⟨_, rfl⟩
    rw [← hvk, ← hvs] at hTw
    rw [← hvk, ← hvs]
    have HV := hid (And.intro hvk hvs)
    have HS := hid (And.intro hsl hsw)
    have hzr : B0 ≤ wo.heap.size := by rw [HB.out]; exact hU.size
    clear hvk hvs hsl hsw hT2 hU2'
    have u1 : (j : Int) ≤ 3 := by omega
    by_cases hlt : (j : Int) < (cnt : Int)
    · have hal3 := (Upto.refl none' wo).alloc (.cells #[.int .i64 1] 3)
      have hTa := hTw.on hal3
      have own3 := hTa.one.2.2.1
      rw [List.length_map, List.length_replicate] at own3
      go_wp2_with (at_builtin; go_loud (refine wpList_append_lies _ (by rfl) _ _ 22 (by rfl) B0 3 i0 (.int .i64 0) 1 8 (by kernel_rfl) hi hi0 hi1 hi2 rfl (by decide) vk j css.flatten (by rfl) own3 ⟨wo.heap.size, 0, none⟩ 1 1 [.int .i64 1] (by rfl) rfl (World.news_of_block (heap_alloc_new wo _)) (by simp [Value.oneCell']) (by omega) (by simp only [maxLen]; omega) (by omega) (by simp; omega) _ rfl ?_); intro g cap' w4 hown hgrow hat _hg4)
      have hown8 : w4.ownsRow B0 3 1 (.slice (some ⟨g, 0, none⟩) (((List.replicate j (1 : Int)).map (Dat.int .i64)).length + 1) cap') (((List.replicate j (1 : Int)).map (Dat.int .i64)).length + 1) (css.flatten ++ [.int .i64 1]) := by rw [List.length_map, List.length_replicate]; exact hown
      have hTw4 := hTa.appended (d := .int .i64 1) (cs := [.int .i64 1]) rfl (by simp only [Rep]) hown8 hgrow hat (Nat.le_refl _)
      rw [List.length_map, List.length_replicate, show (List.replicate j (1 : Int)).map (Dat.int .i64) ++ [Dat.int .i64 1] = (List.replicate (j + 1) (1 : Int)).map (Dat.int .i64) by rw [List.replicate_succ']; simp] at hTw4
      have hrow := hTa.upto hgrow
      have hT4 := (hTr.on hal3).far hrow (fun b e => by omega)
      have hU4 : Upto (isT T) w2 w4 := (hU.trans hal3 (fun _ _ e => e.elim)).trans hrow (fun b hb e => by have := HB.out; omega)
      have hz4 : B0 ≤ w4.heap.size := by rw [HB.out]; exact hU4.size
      clear hown8 hrow hown hgrow hat hTa own3 hal3 hTr hTw hU
      obtain ⟨w5, hw5⟩ : ∃ w5, w5 = w4.alloc (.cells #[.string (B [105]), .slice none 0 0] 29) := ⟨_, rfl⟩
      have hUal : Upto none' w4 w5 := by rw [hw5]; exact (Upto.refl none' w4).alloc _
      obtain ⟨Sb, hSb⟩ : ∃ Sb, Sb = w4.heap.size := ⟨_, rfl⟩
      have hx5 : Box2 w5 Sb (.string (B [105])) (.slice none 0 0) 29 := by rw [hw5]; exact Box2.at_new hSb.symm
      have hT5 := hT4.on hUal
      rw [← hSb] at hz4
      have HSb := hid hSb
      have HW5 := hid hw5
      have hz5 := hx5.lt
      have hST : Sb ≠ T := by omega
      clear hT4 hSb hw5
      go_wp2_with fail
      rw [← show B [105] = { data := #[105] } from rfl, ← HSb.out, ← HW5.out]
      refine (NX _ (by omega) (by omega) _ hT5).mono ?_
      rintro e w6 ⟨⟨c, hc, rfl⟩, hT6, hU6⟩
      have hx6 := hx5.keep hU6 hST
      have hc2 : c ≤ 2 := by omega
      have hz6 := hx6.lt
      have hU46 : Upto (fun b => isT T b ∨ b = Sb) w4 w6 := (hUal.mono (fun _ _ x => x.elim)).trans hU6 (fun _ _ e => .inl e)
      clear hx5 hT5 hU6 hUal
      go_wp2_with fail
      obtain ⟨B2, hB2⟩ : ∃ B2, B2 = w6.heap.size := ⟨_, rfl⟩
      rw [← hB2] at hz6
      have HB2 := hid hB2
      go_loopw [13] (fun v13 wi => ∃ (m p : Nat) (v : Value) (cssa : List (List Value)), v13 = .int .i64 (m : Int) ∧ m + p = c ∧ Box2 wi Sb (.string (B [105])) v 29 ∧ RowD 29 2 (fun b => b < B2) B2 wi v ((atoms p).map Sm.dat) cssa ∧ TapeOk wi T ∧ Upto (fun b => isT T b ∨ b = Sb) w4 wi ∧ B2 ≤ wi.heap.size)
        (fun v13 _ => (intOf v13).toNat)
      case atStart => exact ⟨c, 0, _, [], rfl, rfl, hx6, RowD.nil _ _ _ _ _, hT6, hU46, Nat.le_of_eq hB2⟩
      case round =>
        obtain ⟨wi, rfl⟩ : ∃ x, x = wr := ⟨wr, rfl⟩
        clear hx6 hT6 hU46 hB2
        obtain ⟨m, p, v, cssa, rfl, hmp, hxi, hRD, hTi, hUi, hbi⟩ := hrel
        obtain ⟨x0, x1⟩ := hxi.cells
        obtain ⟨f0, f1⟩ := hxi.frozens
        have hzi := hxi.lt
        have hp2 : p ≤ 2 := by omega
        by_cases hm0 : 0 < m
        · have hm1 : (0 : Int) < (m : Int) := by omega
          have hali := (Upto.refl none' wi).alloc (.cells #[.string (B [105]), .slice none 0 0] 29)
          have hRa := hRD.on hali (fun _ x => x)
          have owni := hRa.2.2.1
          rw [List.length_map, List.length_replicate] at owni
          have hxa := hxi.kept hali
          go_wp2_with (at_builtin; go_loud (refine wpList_append_lies _ (by rfl) _ _ 27 (by rfl) B2 29 i1 (.agg #[.string (B []), .slice none 0 0]) 2 40 (by kernel_rfl) gi gi0 gi1 gi2 rfl (by decide) v p cssa.flatten (by rfl) owni ⟨wi.heap.size, 0, none⟩ 1 1 [.string (B [105]), .slice none 0 0] (by rfl) rfl (World.news_of_block (heap_alloc_new wi _)) (by simp [Value.oneCell']) (by omega) (by simp only [maxLen]; omega) (by omega) (by simp; omega) _ rfl ?_); intro g2 cap2' w7 hown hgrow hat _hg7; have hx7 := hxa.rowD hgrow hRa (by omega); have c7 := hx7.cells.2; have z7 := hx7.frozens.2)
          have hown8 : w7.ownsRow B2 29 2 (.slice (some ⟨g2, 0, none⟩) (((atoms p).map Sm.dat).length + 1) cap2') (((atoms p).map Sm.dat).length + 1) (cssa.flatten ++ [.string (B [105]), .slice none 0 0]) := by rw [List.length_map, List.length_replicate]; exact hown
          have hRw := hRa.appended (d := (Sm.mk [105] []).dat) (cs := [.string (B [105]), .slice none 0 0]) rfl (rep_atom _) hown8 hgrow hat (Nat.le_refl _)
          rw [List.length_map, List.length_replicate, show (atoms p).map Sm.dat ++ [(Sm.mk [105] []).dat] = (atoms (p + 1)).map Sm.dat by rw [atoms, atoms, List.replicate_succ']; simp] at hRw
          have hrow := hRa.upto hgrow
          have hset : Upto (fun b => b = Sb) w7 (w7.setCell ⟨Sb, 1, none⟩ (.slice (some ⟨g2, 0, none⟩) (p + 1) cap2')) := Upto.set (Upto.refl _ _) 1 _
          have hT8 := ((hTi.on hali).far hrow (fun b e => by have := HB2.out; omega)).far hset (fun b e => by omega)
          have hU8 : Upto (fun b => isT T b ∨ b = Sb) w4 (w7.setCell ⟨Sb, 1, none⟩ (.slice (some ⟨g2, 0, none⟩) (p + 1) cap2')) := ((hUi.trans hali (fun _ _ e => e.elim)).trans hrow (fun b hb e => by have := HSb.out; omega)).trans hset (fun _ _ e => .inr e)
          have hR8 := hRw.keepO hset (fun b e => by omega) (fun b e s => by have := (hRw.2.2.1.lt b e).1; omega)
          go_wp2_with fail
          go_roundw
          case rel => exact ⟨m - 1, p + 1, _, _, int_eq (by omega), by omega, hx7.set1 _, hR8, hT8, hU8, by have := hset.size; have := hrow.size; have := hali.size; omega⟩
          case measure => simp [intOf]; omega
        · obtain rfl : m = 0 := by omega
          obtain ⟨va, vc, hv', hvc, hFa⟩ := hRD.rep (fun b e => e)
          rw [List.length_map, List.length_replicate] at hv' hvc
          subst hv'
          have hTwi := hTw4.past hUi (fun b e => by simp only [isT] at e; have := HSb.out; omega)
          have hali := (Upto.refl none' wi).alloc (.cells #[.string (B [105]), .slice va p vc] 29)
          have hTb := hTwi.on hali
          have own6 := hTb.two.2.2.1
          rw [List.length_map, HS.out.1] at own6
          have hB2z : Sb < B2 := hz6
          have hRu : Rep (fun b => (b < B0 ∨ (Value.slice (some ⟨g, 0, none⟩) (j + 1) cap').ownBlock = some b) ∨ vs.ownBlock = some b) (wi.alloc (.cells #[.string (B [105]), .slice va p vc] 29)) (Sm.mk [105] (atoms p)).dat [.string (B [105]), .slice va p vc] := by
            refine rep_sm.2 ⟨va, vc, by rw [List.length_replicate], by rw [List.length_replicate]; exact hvc, RepE.on (RepE.weaken (fun b _ e => ?_) _ _ _ _ hFa) hali⟩
            rcases e with (e | e) | e
            · omega
            · have := (hTw4.one.2.2.1.lt b e).2; have := HSb.out; omega
            · have := (hTw4.two.2.2.1.lt b e).2; have := HSb.out; omega
          have hTi' := hTi.on hali
          have hUi' : Upto (isT T) w2 (wi.alloc (.cells #[.string (B [105]), .slice va p vc] 29)) := (hU4.trans hUi (fun b hb e => e.elim (fun e => e) (fun e => by have := HB.out; omega))).trans hali (fun _ _ e => e.elim)
          have HP := hid hp2
          clear hRD hFa hTwi hmp hTi hUi hvc f0 f1
          go_wp2_with (at_builtin; go_loud (refine wpList_append_lies _ (by rfl) _ _ 27 (by rfl) B0 29 i1 (.agg #[.string (B []), .slice none 0 0]) 2 40 (by kernel_rfl) gi gi0 gi1 gi2 rfl (by decide) vs j css2.flatten (by rfl) own6 ⟨wi.heap.size, 0, none⟩ 1 1 [.string (B [105]), .slice va p vc] (by rfl) rfl (World.news_of_block (heap_alloc_new wi _)) (by simp [Value.oneCell']) (by omega) (by simp only [maxLen]; omega) (by omega) (by simp; omega) _ rfl ?_); intro g2 cap2' w8 hown hgrow hat _hg7)
          have hown8 : w8.ownsRow B0 29 2 (.slice (some ⟨g2, 0, none⟩) ((ss.map Sm.dat).length + 1) cap2') ((ss.map Sm.dat).length + 1) (css2.flatten ++ [.string (B [105]), .slice va p vc]) := by rw [List.length_map, HS.out.1]; exact hown
          have hTw8 := (hTb.swap.appended (d := (Sm.mk [105] (atoms p)).dat) rfl hRu hown8 hgrow hat (Nat.le_refl _)).swap
          rw [List.length_map, HS.out.1, show ss.map Sm.dat ++ [(Sm.mk [105] (atoms p)).dat] = (ss ++ [Sm.mk [105] (atoms p)]).map Sm.dat by simp] at hTw8
          have hrow := hTb.swap.upto hgrow
          have hT8 := hTi'.far hrow (fun b e => by omega)
          have hU8 : Upto (isT T) w2 w8 := hUi'.trans hrow (fun b hb e => by have := HB.out; omega)
          have HN := hid (And.intro hTw8 (And.intro hT8 hU8))
          clear hTw8 hT8 hU8 hRu hown8 hrow hown hgrow hat hTb own6 hTi' hUi' hTw4 hU4
          go_wp2_with fail
          go_roundw
          case rel =>
            refine ⟨j + 1, ss ++ [Sm.mk [105] (atoms p)], _, _, by go_num, by omega, ?_, ?_, HN.out.1, HN.out.2.1, HN.out.2.2⟩
            · rw [List.length_append, HS.out.1]; rfl
            · intro x hx
              rcases List.mem_append.1 hx with hx | hx
              · exact HS.out.2 x hx
              · rw [List.mem_singleton.1 hx]
                have := atoms_wt p
                have := HP.out
                refine ⟨by simp only [Sm.args_mk, List.length_replicate]; omega, by rw [Sm.wt_mk]; simp only [List.length_cons, List.length_nil]; omega⟩
          case measure => simp [intOf]; omega
    · have hje : j = cnt := by omega
      subst hje
      obtain ⟨ka, kc, hvk', hkc, hFk⟩ := (hTw.one.weaken (O' := fun b => b < B0) (fun k _ e => .inl e)).rep (fun b e => e)
      obtain ⟨sa, sc, hvs', hsc, hFs⟩ := (hTw.two.weaken (O' := fun b => b < B0) (fun k _ e => .inl e)).rep (fun b e => e)
      rw [List.length_map, List.length_replicate] at hvk' hkc
      rw [List.length_map, HS.out.1] at hvs' hsc
      subst hvk' hvs'
      have hUw : Upto none' w wo := HU2.out.trans hU (fun b hb e => by simp only [isT] at e; have := HTT.out; omega)
      have hlr := List.length_replicate (n := j) (a := (1 : Int))
      obtain ⟨ar, har⟩ : ∃ ar, ar = ss.map (·.args.length) := ⟨_, rfl⟩
      have hal : ar.length = j := by rw [har, List.length_map]; exact HS.out.1
      have ha2 : ∀ a ∈ ar, a ≤ 2 := by
        intro a ha
        rw [har] at ha
        obtain ⟨s, hs, rfl⟩ := List.mem_map.1 ha
        exact (HS.out.2 s hs).1
      have h3s : ss.length ≤ 3 := by rw [HS.out.1]; exact hcnt3
      have h1s : 1 ≤ ss.length := by rw [HS.out.1]; exact hcnt1
      have APP : ∀ W, TapeOk W T → RepE (isT T) W 2 (ss.map Sm.dat) sa 0 → Calls Try.prog 7 #[.pointer (some ⟨T, 0, none⟩), .int .i64 3, .slice sa j sc, .int .i64 2] W (MakesV (Bd ar 3) W.heap.size T W) := by
        intro W h1 h2
        have := applied_any ss h1s h3s (fun s hs => (HS.out.2 s hs).1) sa sc T 3 (by omega) W h1 h2
        rw [HS.out.1, ← har] at this
        exact this
      have VAL : ∀ T' W, TapeOk W T' → RepE (isT T') W 2 (ss.map Sm.dat) sa 0 → Calls Try.prog 8 #[.pointer (some ⟨T', 0, none⟩), .slice sa j sc] W (MakesVs W.heap.size ar T' W) := by
        intro T' W h1 h2
        have := values_any ss h3s (fun s hs => (HS.out.2 s hs).1) sa sc T' W h1 h2
        rw [HS.out.1, ← har] at this
        exact this
      have hEs : RepE (isT T) wo 2 (ss.map Sm.dat) sa 0 := RepE.weaken (fun b _ e => by simp only [isT] at e; omega) _ _ _ _ hFs
      have HH := hid (And.intro hal ha2)
      clear har hal ha2 hTw hlr
      go_wp2_with fail
      (with_reducible refine (APP _ hTr hEs).mono ?_)
      rintro e w3 ⟨k3, i3, n3, a3, l3, c3, body, rfl, hR3, hBd, hT3, hU3⟩
      have hEs3 : RepE none' w3 2 (ss.map Sm.dat) sa 0 := RepE.weaken (fun _ _ x => x.elim) _ _ _ _ (RepE.keep hU3 (fun _ e => e) _ _ _ _ hEs)
      have hEk3 : RepE none' w3 1 ((List.replicate j (1 : Int)).map (Dat.int .i64)) ka 0 := RepE.weaken (fun _ _ x => x.elim) _ _ _ _ (RepE.keep (O := isT T) hU3 (fun _ e => e) _ _ _ _ (RepE.weaken (fun b _ e => by simp only [isT] at e; omega) _ _ _ _ hFk))
      have hUw3 : Upto none' w w3 := hUw.trans hU3 (fun b hb e => by simp only [isT] at e; have := HTT.out; omega)
      have hR3' : Rep none' w3 body.dat [.int .i64 k3, .string (B n3), .int .i64 i3, .slice a3 l3 c3] := rep_pre hR3
      clear APP hTr hT3 hU3 hR3 hEs hFs hFk hUw hU NX
      obtain ⟨w4, hw4⟩ : ∃ w4, w4 = (((w3.alloc (.cells #[.int .i64 k3, .string (B n3), .int .i64 i3, .slice a3 l3 c3] 32)).alloc (.cells #[.int .i64 k3, .string (B n3), .int .i64 i3, .slice a3 l3 c3] 32)).alloc (.cells #[.int .i64 3, .string (B []), .int .i64 0, .slice (some ⟨w3.heap.size + 1, 0, none⟩) 1 1] 32)).alloc (.cells #[.int .i64 3, .string (B []), .int .i64 0, .slice (some ⟨w3.heap.size + 1 + 1, 0, none⟩) 1 1] 32) := ⟨_, rfl⟩
      have a1' : ∀ (W : World) (o : Obj), Upto none' W (W.alloc o) := fun W o => (Upto.refl none' W).alloc o
      have hU34 : Upto none' w3 w4 := by rw [hw4]; exact ((((Upto.refl none' w3).alloc _).alloc _).alloc _).alloc _
      have hx4 : Box4 w4 (w3.heap.size + 1 + 1 + 1) (.int .i64 3) (.string (B [])) (.int .i64 0) (.slice (some ⟨w3.heap.size + 1 + 1, 0, none⟩) 1 1) 32 := by rw [hw4]; exact Box4.at_new (by simp)
      have hX4 : Rep none' w4 (lam2 body).dat [.int .i64 3, .string (B []), .int .i64 0, .slice (some ⟨w3.heap.size + 1 + 1, 0, none⟩) 1 1] := by
        refine rep_one (b := w3.heap.size + 1 + 1) (T := 32) (rep_one (b := w3.heap.size + 1) (T := 32) (hR3'.on hU34) (fun x => x) ?_ 3 [] 0) (fun x => x) ?_ 3 [] 0
        · rw [hw4]; exact ((Box4.at_new (by simp)).kept (a1' _ _)).kept (a1' _ _)
        · rw [hw4]; exact (Box4.at_new (by simp)).kept (a1' _ _)
      obtain ⟨X, hX⟩ : ∃ X, X = w3.heap.size := ⟨_, rfl⟩
      rw [← hX] at hx4 hX4
      have HX := hid hX
      have HW4 := hid hw4
      have hEs4 := hEs3.on hU34
      have hEk4 := hEk3.on hU34
      have hUw4 := hUw3.and hU34
      clear hw4 hX hEs3 hEk3 hUw3 hR3' hU34
      go_upto_region 17 with fail
      rw [← show B [] = { data := #[] } from rfl, ← HW4.out, ← HX.out]
      obtain ⟨w5, hw5⟩ : ∃ w5, w5 = w4.alloc (.cells #[.slice a1 len1 cap1, .int .i64 0] 25) := ⟨_, rfl⟩
      have hU45 : Upto none' w4 w5 := by rw [hw5]; exact (Upto.refl none' w4).alloc _
      have hT5 : TapeOk w5 w4.heap.size := by rw [hw5]; exact tape_new HIN.out.1 HIN.out.2.1 (HIN.out.2.2.1.on hUw4)
      obtain ⟨T1, hT1⟩ : ∃ T1, T1 = w4.heap.size := ⟨_, rfl⟩
      rw [← hT1] at hT5
      have V1 := VAL T1 w5 hT5 (RepE.weaken (fun b _ e => .inr (by simp only [isT] at e; omega)) _ _ _ _ ((RepE.fresh' _ _ _ _ hEs4).on hU45))
      have HT1 := hid hT1
      have HW5 := hid hw5
      clear hw5 hT1 hT5
      go_wp2_with fail
      rw [← HW5.out, ← HT1.out]
      (with_reducible refine V1.mono ?_)
      rintro e w6 ⟨o1, oc1, vs1, ms1, rfl, hl1, hc1, hEm1, hVS1, hU56⟩
      have HL1 := hid hl1
      clear hl1
      have hU46 : Upto none' w4 w6 := hU45.trans hU56 (fun b hb e => by simp only [isT] at e; have := HT1.out; omega)
      have hEs6 := hEs4.on hU46
      have hUw6 := hUw4.and hU46
      obtain ⟨w7, hw7⟩ : ∃ w7, w7 = w6.alloc (.cells #[.slice a2 len2 cap2, .int .i64 0] 25) := ⟨_, rfl⟩
      have hU67 : Upto none' w6 w7 := by rw [hw7]; exact (Upto.refl none' w6).alloc _
      have hT7 : TapeOk w7 w6.heap.size := by rw [hw7]; exact tape_new HIN.out.2.2.2.1 HIN.out.2.2.2.2.1 (HIN.out.2.2.2.2.2.on hUw6)
      obtain ⟨T2, hT2⟩ : ∃ T2, T2 = w6.heap.size := ⟨_, rfl⟩
      rw [← hT2] at hT7
      have V2 := VAL T2 w7 hT7 (RepE.weaken (fun b _ e => .inr (by simp only [isT] at e; omega)) _ _ _ _ ((RepE.fresh' _ _ _ _ hEs6).on hU67))
      have HT2 := hid hT2
      have HW7 := hid hw7
      clear hw7 hT2 hT7 V1 hU56 hU45 VAL
      go_wp2_with fail
      rw [← HW7.out, ← HT2.out]
      (with_reducible refine V2.mono ?_)
      rintro e w8 ⟨o2, oc2, vs2, ms2, rfl, hl2, hc2, hEm2, hVS2, hU78⟩
      have hU68 : Upto none' w6 w8 := hU67.trans hU78 (fun b hb e => by simp only [isT] at e; have := HT2.out; omega)
      have hU48 := hU46.and hU68
      have hEs8 := hEs6.on hU68
      have hEk8 := hEk4.on hU48
      have hx8 := hx4.kept hU48
      have hX8 := hX4.on hU48
      have hUw8 := hUw6.and hU68
      have hM1 : RepE none' w8 4 (ms1.map Tm.dat) o1 0 := (RepE.weaken (fun _ _ x => x.elim) _ _ _ _ hEm1).on hU68
      have hM2 : RepE none' w8 4 (ms2.map Tm.dat) o2 0 := RepE.weaken (fun _ _ x => x.elim) _ _ _ _ hEm2
      have hbw : (lam2 body).wt ≤ 30 := by have := hBd.2; simp [ab] at this; simp [Tm.wts]; omega
      have hl1 := HL1.out
      have hm1w := VlS.wt hVS1 hl1 HH.out.2
      have hm2w := VlS.wt hVS2 hl2 HH.out.2
      have hm1l : ms1.length = j := hl1.trans HH.out.1
      have hm2l : ms2.length = j := hl2.trans HH.out.1
      have RM1 := fun (W : World) (hu : Upto none' w8 W) => refMany_any none' (lam2 body) ms1 ss (by omega) (fun u h => by have := hm1w u h; omega) (fun x h => by have := (HS.out.2 x h).2; omega) (by omega) (by omega) W (fun _ x => x.elim) _ o1 oc1 sa sc (hX8.on hu) (hM1.on hu) (hEs8.on hu)
      have RM2 := fun (W : World) (hu : Upto none' w8 W) => refMany_any none' (lam2 body) ms2 ss (by omega) (fun u h => by have := hm2w u h; omega) (fun x h => by have := (HS.out.2 x h).2; omega) (by omega) (by omega) W (fun _ x => x.elim) _ o2 oc2 sa sc (hX8.on hu) (hM2.on hu) (hEs8.on hu)
      have ST := fun (W : World) (hu : Upto none' w8 W) => strict_any (lam2 body) (by omega) (List.replicate j (1 : Int)) (by rw [List.length_replicate]; omega) ka kc W _ (hEk8.on hu) (hX8.on hu)
      have hLl : (strictV (lam2 body) (List.replicate j (1 : Int))).length = j := by rw [strictV_length, List.length_replicate]
      have hdet : ∀ i, i < j → manyE (lam2 body) ms1 ss = 0 → manyE (lam2 body) ms2 ss = 0 → (manyT (lam2 body) ms1 ss).same (manyT (lam2 body) ms2 ss) = true → (strictV (lam2 body) (List.replicate j (1 : Int))).getD i false = true → ms1[i]? = ms2[i]? := by
        intro i hi e1 e2 hs hf
        rw [← HH.out.1] at hi hf
        exact det_final hVS1 hl1 hVS2 hl2 hBd.1 e1 e2 hs i hi hf
      have hX1 := manyT_le (lam2 body) ms1 ss
      have hX2 := manyT_le (lam2 body) ms2 ss
      rw [HS.out.1] at RM1 RM2
      rw [List.length_replicate] at ST
      generalize manyE (lam2 body) ms1 ss = E1 at *
      generalize manyE (lam2 body) ms2 ss = E2 at *
      generalize manyT (lam2 body) ms1 ss = X1 at *
      generalize manyT (lam2 body) ms2 ss = X2 at *
      generalize strictV (lam2 body) (List.replicate j (1 : Int)) = L at *
      have SA := fun (W : World) cs ds h h' => refSame_any X1 (by omega) X2 W cs ds h h'
      have HDET := hid hdet
      have HML := hid (And.intro hm1l hm2l)
      have hLj : ((L.length : Int) != (j : Int)) = false := by simp; omega
      have HLL := hid hLl
      clear hdet hX1 hX2 hl1 hl2 hc1 hc2 hVS1 hVS2 hEm1 hEm2 hEs4 hEk4 hEs6 hx4 hX4 hUw4 hUw6 hU46 hU67 hU78 hU68 hU48 V2 hEs8 hEk8 hBd hm1l hm2l hLl hX8
      obtain ⟨x0, x1, x2, x3⟩ := hx8.cells
      go_wp2_with fail
      (with_reducible refine (RM1 w8 (Upto.refl _ _)).mono ?_)
      rintro e w9 ⟨k9, i9, n9, a9, l9, c9, rfl, hR9, hU9⟩
      obtain ⟨w10, hw10⟩ : ∃ w10, w10 = w9.alloc (.cells #[.int .i64 k9, .string (B n9), .int .i64 i9, .slice a9 l9 c9] 32) := ⟨_, rfl⟩
      have hUa : Upto none' w9 w10 := by rw [hw10]; exact (Upto.refl none' _).alloc _
      have hp10 : Box4 w10 w9.heap.size (.int .i64 k9) (.string (B n9)) (.int .i64 i9) (.slice a9 l9 c9) 32 := by rw [hw10]; exact Box4.at_new rfl
      have hU10 := hU9.and hUa
      have hx10 := hx8.kept hU10
      have hP10 := hR9.on hUa
      obtain ⟨A1, hA1⟩ : ∃ A1, A1 = w9.heap.size := ⟨_, rfl⟩
      rw [← hA1] at hp10
      have HA1 := hid hA1
      have HW10 := hid hw10
      clear hw10 hA1 hUa hR9 hU9 RM1 x0 x1 x2 x3 hx8
      go_upto_region 19 with fail
      rw [← HW10.out, ← HA1.out]
      obtain ⟨x0, x1, x2, x3⟩ := hx10.cells
      go_wp2_with fail
      (with_reducible refine (RM2 w10 hU10).mono ?_)
      rintro e w11 ⟨k11, i11, n11, a11, l11, c11, rfl, hR11, hU11⟩
      obtain ⟨w12, hw12⟩ : ∃ w12, w12 = w11.alloc (.cells #[.int .i64 k11, .string (B n11), .int .i64 i11, .slice a11 l11 c11] 32) := ⟨_, rfl⟩
      have hUa : Upto none' w11 w12 := by rw [hw12]; exact (Upto.refl none' _).alloc _
      have hq12 : Box4 w12 w11.heap.size (.int .i64 k11) (.string (B n11)) (.int .i64 i11) (.slice a11 l11 c11) 32 := by rw [hw12]; exact Box4.at_new rfl
      have hU1012 := hU11.and hUa
      have hU12 := hU10.and hU1012
      have hx12 := hx10.kept hU1012
      have hp12 := hp10.kept hU1012
      have hP12 := hP10.on hU1012
      have hQ12 := hR11.on hUa
      obtain ⟨A2, hA2⟩ : ∃ A2, A2 = w11.heap.size := ⟨_, rfl⟩
      rw [← hA2] at hq12
      have HA2 := hid hA2
      have HW12 := hid hw12
      clear hw12 hA2 hUa hR11 hU11 RM2 x0 x1 x2 x3 hx10 hp10 hP10 hU10 hU1012
      go_upto_region 20 with fail
      rw [← HW12.out, ← HA2.out]
      obtain ⟨x0, x1, x2, x3⟩ := hx12.cells
      go_wp2_with fail
      (with_reducible refine (ST w12 hU12).mono ?_)
      rintro e w13 ⟨q, rfl, hL13, hq13, hU13⟩
      have hp13 := hp12.kept hU13
      have hq13' := hq12.kept hU13
      have hP13 := hP12.on hU13
      have hQ13 := hQ12.on hU13
      have hU813 := hU12.and hU13
      have hM13 := hM1.on hU813
      have hN13 := hM2.on hU813
      have hUw13 := hUw8.and hU813
      clear ST x0 x1 x2 x3 hx12 hp12 hP12 hU12 hU13 hU813 hM1 hM2 hUw8 hq12 hQ12
      have SA13 := SA w13 _ _ hP13 hQ13
      clear SA
      obtain ⟨x0, x1, x2, x3⟩ := hp13.cells
      obtain ⟨y0, y1, y2, y3⟩ := hq13'.cells
      go_upto_region 23 with fail
      go_cut [105] from 94 to 105 (fun v105 wx => ∃ b : Bool, v105 = .bool b ∧ (b = false → E1 = 0 ∧ E2 = 0 ∧ X1.same X2 = true) ∧ Upto none' w13 wx)
      case first =>
        by_cases h1 : E1 = 0
        · by_cases h2 : E2 = 0
          · subst h1 h2
            go_wp2_with (first | ((go_at_call 11); (with_reducible refine SA13.mono ?_); rintro e w14 ⟨rfl, hU14⟩))
            go_meet
            case rel => exact ⟨_, rfl, (fun h => ⟨trivial, trivial, by simpa using h⟩), hU14⟩
          · have g2 : (E2 != 0) = true := by simpa using h2
            subst h1
            clear h2
            go_wp2_with fail
            go_meet
            case rel => exact ⟨true, rfl, (fun h => by cases h), Upto.refl _ _⟩
        · have g1 : (E1 != 0) = true := by simpa using h1
          clear h1
          go_wp2_with fail
          go_meet
          case rel => exact ⟨true, rfl, (fun h => by cases h), Upto.refl _ _⟩
      case rest =>
        obtain ⟨b, rfl, hb, hU14⟩ := hcut
        obtain ⟨w14, rfl⟩ : ∃ q, q = wc := ⟨wc, rfl⟩
        have hUw14 := hUw13.and hU14
        cases b
        case true =>
          go_wp2_with fail
          refine (awake22 _).mono ?_
          rintro e w15 ⟨rfl, hU15⟩
          go_wp2_with fail
          go_ret
          exact ⟨rfl, hUw14.and hU15⟩
        case false =>
          have hb := hb rfl
          have hL14 := hL13.kept hU14
          have hM14 := hM13.on hU14
          have hN14 := hN13.on hU14
          have HB := hid hb
          clear hb hL13 hM13 hN13 SA13 x0 x1 x2 x3 y0 y1 y2 y3 hp13 hq13' hP13 hQ13 hUw13 hU14
          go_wp2_with fail
          go_loopw [23] (fun v23 wr => ∃ i : Nat, i ≤ j ∧ v23 = .int .i64 (i : Int) ∧ Upto none' w14 wr) (fun v23 _ => j - (intOf v23).toNat)
          case atStart => exact ⟨0, Nat.zero_le _, rfl, Upto.refl _ _⟩
          case round =>
            obtain ⟨i, hi', rfl, hUr⟩ := hrel
            by_cases hlt : (i : Int) < (j : Int)
            · have hij : i < j := by omega
              have h1 : i < ms1.length := by rw [HML.out.1]; exact hij
              have h2 : i < ms2.length := by rw [HML.out.2]; exact hij
              have h3 : i < L.length := by rw [HLL.out]; exact hij
              have c1 := (hL14.kept hUr).cell i h3
              have j0 : (0 : Int) ≤ (i : Int) := by omega
              have j1 : (i : Int) < (L.length : Int) := by omega
              have j2 : (i : Int) < (ms1.length : Int) := by omega
              have j3 : (i : Int) < (ms2.length : Int) := by omega
              have j6 : (i : Int) ≤ 3 := by omega
              have hD := HDET.out i hij HB.out.1 HB.out.2.1 HB.out.2.2
              rw [show L.getD i false = L[i] by simp [List.getD, h3]] at hD
              have HIJ := hid hij
              clear hij
              generalize L[i] = x at *
              have fin : ∀ W, Upto none' wr W → ∃ i1 : Nat, i1 ≤ j ∧ Value.int .i64 ((i : Int) + 1) = .int .i64 i1 ∧ Upto none' w14 W := fun W h => ⟨i + 1, by have := HIJ.out; omega, by go_num, hUr.and h⟩
              have HF := hid fin
              clear fin
              cases x
              case false =>
                clear hD
                go_wp2_with fail
                go_region
                go_wp2
                go_roundw
                case rel => exact HF.out _ (Upto.refl none' wr).drew
                case measure => (have := HIJ.out; simp [intOf]; omega)
              case true =>
                have he : ms1[i] = ms2[i] := by
                  have := hD rfl
                  rw [List.getElem?_eq_getElem h1, List.getElem?_eq_getElem h2] at this
                  exact Option.some.inj this
                obtain ⟨b1, p1, k1, n1, i1', s1', z1, rfl, hb1, _, y0, y1, y2, y3, hR1⟩ := arg_tm (hM14.on hUr) i h1
                obtain ⟨b2, p2, k2, n2, i2', s2', z2, rfl, hb2, _, z0', z1', z2', z3', hR2⟩ := arg_tm (hN14.on hUr) i h2
                rw [← he] at hR2 z3'
                have hsz : ms1[i].size ≤ 1000000 := by
                  have := hm1w _ (List.getElem_mem h1)
                  have := Tm.size_le_wt ms1[i]
                  omega
                generalize ms1[i] = u at *
                have hd : Upto none' wr wr.drew := (Upto.refl none' wr).drew
                have SU := refSame_any u hsz u wr.drew _ _ (hR1.on hd) (hR2.on hd)
                rw [Tm.same_refl] at SU
                have S9 : Dt9 b1 (p1 + i * 4) b2 (p2 + i * 4) q i (.int .i64 k1) (.string (B n1)) (.int .i64 i1') (.slice s1' u.args.length z1) (.int .i64 k2) (.string (B n2)) (.int .i64 i2') (.slice s2' u.args.length z2) (.bool true) wr := ⟨⟨y0, y1, y2, y3⟩, ⟨z0', z1', z2', z3'⟩, c1⟩
                generalize u.args.length = ul at *
                have Sd := S9.on hd
                clear hD he hR1 hR2 S9
                go_wp2_with fail
                go_region_held3 (fun w' => Dt9 b1 (p1 + i * 4) b2 (p2 + i * 4) q i (.int .i64 k1) (.string (B n1)) (.int .i64 i1') (.slice s1' ul z1) (.int .i64 k2) (.string (B n2)) (.int .i64 i2') (.slice s2' ul z2) (.bool true) w')
                  (first | (with_reducible assumption) | (with_reducible exact Sd))
                  (first
                    | ((go_at_call 11); (with_reducible refine SU.mono ?_); rintro e w15 ⟨rfl, hU15⟩; have S15 := Sd.on hU15))
                go_wp2
                go_roundw
                case rel => exact HF.out _ (hd.and hU15)
                case measure => (have := HIJ.out; simp [intOf]; omega)
            · go_wp2_with fail
              refine (awake22 _).mono ?_
              rintro e w15 ⟨rfl, hU15⟩
              go_wp2_with fail
              go_ret
              exact ⟨rfl, (hUw14.and hUr).and hU15⟩
end Go.Proofs.Ytadphaobbpngkaa
