/- meta.renumber's closure. -/
import Derived.Test.YtdomloghcpfdjaaGreatDoorRFA
import Derived.Test.YtdomloghcpfdjaaGreatDoorRFH
import Derived.Test.YtdomloghcpfdjaaGreatDoorRFI
import Derived.Deep.CutRange
import Derived.Deep.RegionHeld3
import Derived.Deep.RegionLaw
namespace Go.LF
mutual
/-- Other numbers for the metavariables. -/
def renT (f : Int → Int) : Tm → Tm
  | .mk k n i ts => .mk k n (if k = 6 then f i else i) (renTs f ts)
def renTs (f : Int → Int) : List Tm → List Tm
  | [] => []
  | t :: ts => renT f t :: renTs f ts
end
theorem renTs_map (f : Int → Int) (ts : List Tm) : renTs f ts = ts.map (renT f) := by
  induction ts with
  | nil => rfl
  | cons t ts ih => rw [renTs, ih]; rfl
end Go.LF
namespace Go.Proofs.YtdomloghcpfdjaaGreatDoor
open Go.RowKit Go.LF
theorem OwnT.len4 {W : World} {lo hi : Nat} {t : Tm} {cs : List Value} (h : OwnT W lo hi t cs) : cs.length = 4 := by cases h; rfl
/-- One of the terms is another now. -/
theorem OwnR.update {W W' : World} {lo g j : Nat} {us : List Tm} {m : Nat → Nat} {css : Nat → List Value} {t' : Tm} {cs' : List Value} (h : OwnR W (some ⟨g, 0, none⟩) lo us m css) (hj : j < us.length) (hg : g < m 0) (hU : Upto (fun x => x = g ∨ (m j ≤ x ∧ x < m (j + 1))) W W')
    (hoth : ∀ o, (o < j * 4 ∨ j * 4 + 4 ≤ o) → W'.cell? ⟨g, o, none⟩ = W.cell? ⟨g, o, none⟩) (hfr : ∀ o, W'.frozen? ⟨g, o, none⟩ = false) (hn : OwnT W' (m j) (m (j + 1)) t' cs') (hc : ∀ x v, cs'[x]? = some v → W'.cell? ⟨g, j * 4 + x, none⟩ = some v) :
    OwnR W' (some ⟨g, 0, none⟩) lo (us.set j t') m (fun i => if i = j then cs' else css i) := by
  have hm : ∀ j, j < us.length → m j ≤ m (j + 1) := fun j hj => (h.2 j hj).1
  refine ⟨h.1, fun i hi => ?_⟩
  have hi' : i < us.length := by simpa using hi
  obtain ⟨h1, h2, g', e, g1, g2, gf, gl, gc⟩ := h.2 i hi'
  cases e
  by_cases hij : i = j
  · subst hij
    simp only [if_true, List.getElem_set_self]
    exact ⟨h1, hn, g, rfl, g1, g2, hfr, hn.len4, hc⟩
  · simp only [hij, if_false]
    rw [List.getElem_set_ne (by omega)]
    have k1 := mono_le13 hm i (by omega)
    refine ⟨h1, h2.keep hU (fun b b1 b2 e => ?_), g, rfl, g1, g2, hfr, gl, fun x v hv => ?_⟩
    · rcases e with e | ⟨e1, e2⟩
      · omega
      · rcases Nat.lt_or_ge i j with hlt | hge
        · have k2 := mono_le13' hm (i + 1) (j - (i + 1)) (by omega)
          rw [show i + 1 + (j - (i + 1)) = j by omega] at k2
          omega
        · have k2 := mono_le13' hm (j + 1) (i - (j + 1)) (by omega)
          rw [show j + 1 + (i - (j + 1)) = i by omega] at k2
          omega
    · have hx : x < 4 := by rw [← gl]; exact (List.getElem?_eq_some_iff.1 hv).1
      rw [hoth _ (by omega)]
      exact gc x v hv
/-- The closure. -/
abbrev rnV (tb wb : Nat) : Value := .func (.func 178) #[] #[.pointer (some ⟨tb, 0, none⟩), .pointer (some ⟨wb, 0, none⟩)]
/-- The boxes that it reads; what it finds in the map. -/
structure RnW (rf : Int → Int) (tb wb M : Nat) (kvs : List (Value × Value)) (W : World) : Prop where
  bx : Box1 W tb (.map (some M)) 137
  wk : Box1 W wb (rnV tb wb) 176
  map : MapIs W M kvs
theorem RnW.keep {rf : Int → Int} {tb wb M : Nat} {kvs : List (Value × Value)} {W W' : World} {S : Nat → Prop} (h : RnW rf tb wb M kvs W) (hU : Upto S W W') (h1 : ¬ S tb) (h2 : ¬ S wb) (h3 : ¬ S M) : RnW rf tb wb M kvs W' := ⟨h.bx.keep hU h1, h.wk.keep hU h2, h.map.on hU h3⟩
/-- What the map says. -/
def RnL (rf : Int → Int) (M : Nat) (kvs : List (Value × Value)) : Prop := ∀ (W : World) (x : Int), MapIs W M kvs → (Instr.lookup 137 (.map (some M)) (.int .i64 x) false).run Tryz.prog W = .ok (.int .i64 (rf x)) W
def RnC (rf : Int → Int) (t : Tm) (b o lo hi : Nat) (W W' : World) : Prop :=
  ∃ cs', OwnT W' lo hi (renT rf t) cs' ∧ (∀ x v, cs'[x]? = some v → W'.cell? ⟨b, o + x, none⟩ = some v) ∧ (∀ o', (o' < o ∨ o + 4 ≤ o') → W'.cell? ⟨b, o', none⟩ = W.cell? ⟨b, o', none⟩) ∧ (∀ o', W'.frozen? ⟨b, o', none⟩ = W.frozen? ⟨b, o', none⟩) ∧ Upto (fun x => x = b ∨ (lo ≤ x ∧ x < hi)) W W'
set_option maxRecDepth 100000 in
set_option maxHeartbeats 8000000 in
theorem ren1_any (rf : Int → Int) (t : Tm) : ∀ (tb wb M : Nat) (kvs : List (Value × Value)) (b o lo hi : Nat) (W : World) (cs : List Value), RnL rf M kvs → t.size ≤ 900000 → OwnT W lo hi t cs → (∀ x v, cs[x]? = some v → W.cell? ⟨b, o + x, none⟩ = some v) → (∀ o, W.frozen? ⟨b, o, none⟩ = false) → ¬ (lo ≤ b ∧ b < hi) →
    RnW rf tb wb M kvs W → (tb ≠ b ∧ wb ≠ b ∧ M ≠ b) → (¬ (lo ≤ tb ∧ tb < hi) ∧ ¬ (lo ≤ wb ∧ wb < hi) ∧ ¬ (lo ≤ M ∧ M < hi)) →
    Calls Tryz.prog 178 #[.pointer (some ⟨b, o, none⟩), .pointer (some ⟨tb, 0, none⟩), .pointer (some ⟨wb, 0, none⟩)] W fun e W' => e = .returned (.tuple #[]) ∧ RnC rf t b o lo hi W W' := by
  induction t using Tm.ind with
  | h k n i ts ih =>
    intro tb wb M kvs b o lo hi W cs hlk hsz hO hc hf hb hW hne hni
    rw [Tm.size_mk] at hsz
    cases hO with
    | node _ _ _ _ a cap m css hcap h0 hm hh hcc hs =>
      have hOR : OwnR W a lo ts m css := ⟨h0, fun j hj => ⟨hm j hj, hs j hj, hcc j hj⟩⟩
      clear h0 hm hcc hs
      have c0 := hc 0 _ rfl
      rw [Nat.add_zero] at c0
      have c1 := hc 1 _ rfl
      have c2 := hc 2 _ rfl
      have c3 := hc 3 _ rfl
      have hbl : b < W.heap.size := World.block_lt_of_cell? W _ c0
      obtain ⟨tl, htl⟩ : ∃ tl, tl = ts.length := ⟨_, rfl⟩
      rw [← htl] at c3 hcap hh
      have hlen := Tm.length_le_sizes ts
      have htl2 : (tl : Int) ≤ 900000 := by omega
      have HL := hid htl
      have HNE := hid (And.intro hne hni)
      have HB := hid hb
      have HIH := hid (And.intro ih (And.intro hsz hlk))
      have hl1 := hlk W i hW.map
      have f0 := hf (o + 2)
      obtain ⟨i', hi'⟩ : ∃ i', i' = (if k = 6 then rf i else i) := ⟨_, rfl⟩
      have HI := hid hi'
      have hWd := hW.keep (Upto.refl none' W).drew (fun x => x) (fun x => x) (fun x => x)
      have hl2 := hlk W.drew i hWd.map
      have x1 := hW.bx.cell
      have hcall : ∀ args w, Sem.run Tryz.prog (callFunc 178 args) w = .ok (Next.enter 178 args) w := fun _ _ => by simp only [go_sem, Tryz.call178]
      have HF := hid hf
      have HC := hid hc
      clear hi' hlk htl ih hsz hne hni hf hc hb
      go_enter Tryz.func178, Tryz.ntmps178
      go_upto_if 9 with fail
      go_cut [] from 5 to 18 (fun wc => (wc.cell? ⟨b, o, none⟩ = some (.int .i64 k) ∧ wc.cell? ⟨b, o + 1, none⟩ = some (.string (B n)) ∧ wc.cell? ⟨b, o + 2, none⟩ = some (.int .i64 i') ∧ wc.cell? ⟨b, o + 3, none⟩ = some (.slice a tl cap)) ∧
        (∀ o', (o' < o ∨ o + 4 ≤ o') → wc.cell? ⟨b, o', none⟩ = W.cell? ⟨b, o', none⟩) ∧ (∀ o', wc.frozen? ⟨b, o', none⟩ = W.frozen? ⟨b, o', none⟩) ∧ Upto (fun x => x = b) W wc)
      case first =>
        by_cases hk : k = 6
        · have hk6 : (k == 6) = true := by simpa using hk
          have he : i' = rf i := by rw [HI.out, if_pos hk]
          have HE := hid he
          have hset : Upto (fun x => x = b) W (W.setCell ⟨b, o + 2, none⟩ (.int .i64 (rf i))) := Upto.set (Upto.refl _ _) _ _
          have Sd : W.drew.cell? ⟨tb, 0, none⟩ = some (.map (some M)) := hWd.bx.cell
          have Se : (W.setCell ⟨b, o + 2, none⟩ (.int .i64 (rf i))).drew.cell? ⟨tb, 0, none⟩ = some (.map (some M)) := (hW.keep hset.drew HNE.out.1.1 HNE.out.1.2.1 HNE.out.1.2.2).bx.cell
          clear hk he
          go_wp2_with fail
          have HST := hid hset
          clear hset
          go_region_law (first | fail)
          all_goals
            go_wp2_with fail
            go_meet
            case rel =>
              have hu := HST.out
              have oth : ∀ o', o' ≠ o + 2 → (W.setCell ⟨b, o + 2, none⟩ (.int .i64 (rf i))).cell? ⟨b, o', none⟩ = W.cell? ⟨b, o', none⟩ := fun o' h => World.cell?_setCell_other _ _ _ _ (fun e => h (Addr.mk.inj e).2.1.symm)
              refine ⟨⟨(oth _ (by omega)).trans c0, (oth _ (by omega)).trans c1, by rw [HE.out]; exact World.cell?_setCell_same _ _ _ c2, (oth _ (by omega)).trans c3⟩, fun o' h => oth _ (by omega), fun o' => ?_, hu.drew⟩
              show (W.setCell _ _).frozen? _ = _
              simp only [World.frozen?_setCell]
        · have hk6 : (k == 6) = false := by simpa using hk
          have he : i' = i := by rw [HI.out, if_neg hk]
          have HE := hid he
          clear hk he
          go_wp2_with fail
          go_meet
          case rel => exact ⟨⟨c0, c1, by rw [HE.out]; exact c2, c3⟩, fun _ _ => rfl, fun _ => rfl, Upto.refl _ _⟩
      case rest =>
        obtain ⟨⟨d0, d1, d2, d3⟩, hoth, hfz, hU1⟩ := hcut
        have hm : ∀ j, j < ts.length → m j ≤ m (j + 1) := fun j hj => (hOR.2 j hj).1
        have hmlo := hOR.1
        have hm0 := mono_le13 hm ts.length (Nat.le_refl _)
        rw [← HL.out] at hm0
        have hO1 := hOR.keep hU1 (fun x x1 x2 e => HB.out (by rw [← HL.out] at x2; omega))
        have hW1 := hW.keep hU1 HNE.out.1.1 HNE.out.1.2.1 HNE.out.1.2.2
        have hbc : b < wc.heap.size := Nat.lt_of_lt_of_le hbl hU1.size
        have HOT := hid (And.intro hoth (And.intro hfz hU1))
        have HMM := hid hm
        have hml : m ts.length ≤ hi := by rw [← HL.out]; exact hh
        clear hOR hW hWd hl1 hl2 c0 c1 c2 c3 f0 x1 hoth hfz hU1 hm
        go_wp2_with fail
        go_loopw [24] (fun v24 wr => ∃ (j : Nat) (css : Nat → List Value), v24 = .int .i64 (j : Int) ∧ j ≤ tl ∧ OwnR wr a lo ((ts.take j).map (renT rf) ++ ts.drop j) m css ∧ Upto (fun x => lo ≤ x ∧ x < hi) wc wr)
          (fun v24 _ => tl - (intOf v24).toNat)
        case atStart => exact ⟨0, css, rfl, Nat.zero_le _, by simpa using hO1, Upto.refl _ _⟩
        case round =>
          obtain ⟨j, css', rfl, hj, hO, hU⟩ := hrel
          have e0 := hU.cell d0 HB.out
          have e1 := hU.cell d1 HB.out
          have e2 := hU.cell d2 HB.out
          have e3 := hU.cell d3 HB.out
          by_cases hlt : j < tl
          · have hjl : j < ts.length := by have := HL.out; omega
            have hul : j < ((ts.take j).map (renT rf) ++ ts.drop j).length := by simp; omega
            obtain ⟨hmj, hOj, g, rfl, g1, g2, gf, gl, gc⟩ := hO.2 j hul
            have hget : ((ts.take j).map (renT rf) ++ ts.drop j)[j] = ts[j] := by
              rw [List.getElem_append_right (by simp; omega)]
              simp only [List.length_map, List.length_take, List.getElem_drop]
              congr 1
              omega
            have hset : ((ts.take j).map (renT rf) ++ ts.drop j).set j (renT rf ts[j]) = (ts.take (j + 1)).map (renT rf) ++ ts.drop (j + 1) := by
              rw [List.set_append_right _ _ (by simp; omega), List.drop_eq_getElem_cons hjl, List.take_succ_eq_append_getElem hjl]
              simp only [List.length_map, List.length_take, Nat.min_eq_left (Nat.le_of_lt hjl), Nat.sub_self, List.set_cons_zero, List.map_append, List.map_cons, List.map_nil, List.append_assoc, List.singleton_append]
            rw [hget] at hOj
            have k1 := mono_le13 HMM.out j (by omega)
            have k2 := mono_le13' HMM.out (j + 1) (ts.length - (j + 1)) (by omega)
            rw [show j + 1 + (ts.length - (j + 1)) = ts.length by omega] at k2
            have hd : Upto none' wr wr.drew := (Upto.refl none' wr).drew
            obtain ⟨n1, n2, n3⟩ := HNE.out.2
            have hWr := (hW1.keep hU n1 n2 n3).keep hd (fun x => x) (fun x => x) (fun x => x)
            have IH := HIH.out.1 ts[j] (List.getElem_mem hjl) tb wb M kvs g (j * 4) (m j) (m (j + 1)) wr.drew (css' j) HIH.out.2.2 (by have := Tm.size_le_sizes (List.getElem_mem hjl); have := HIH.out.2.1; omega) (hOj.keep hd (fun _ _ _ x => x)) (fun x v hv => hd.cell (gc x v hv) (fun x => x)) gf (by omega) hWr (by omega) (by omega)
            have hjb : (j : Int) < (tl : Int) := by omega
            have hjm : (j : Int) ≤ 900000 := by omega
            have Sd : wr.drew.cell? ⟨wb, 0, none⟩ = some (rnV tb wb) ∧ wr.drew.cell? ⟨b, o + 3, none⟩ = some (.slice (some ⟨g, 0, none⟩) tl cap) := ⟨hWr.wk.cell, hd.cell e3 (fun x => x)⟩
            have hng : b ≠ g := fun e => HB.out (by omega)
            have hfin := fun (w5 : World) (h : RnC rf ts[j] g (j * 4) (m j) (m (j + 1)) wr.drew w5) => show ∃ css2, OwnR w5 (some ⟨g, 0, none⟩) lo ((ts.take (j + 1)).map (renT rf) ++ ts.drop (j + 1)) m css2 ∧ Upto (fun x => lo ≤ x ∧ x < hi) wc w5 from by
              obtain ⟨cs5, p1, p2, p3, p4, p5⟩ := h
              refine ⟨_, by rw [← hset]; exact OwnR.update (hO.keep hd (fun _ _ _ x => x)) hul g2 p5 p3 (fun o' => by rw [p4]; exact gf o') p1 p2, (hU.trans hd (fun _ _ e => e.elim)).trans p5 (fun x _ e => by omega)⟩
            have HFI := hid hfin
            clear hfin hset hget hOj hO gc gf gl hWr hul e0 e1 e2
            go_upto_region 5 with fail
            go_region_held3 (fun w' => w'.cell? ⟨wb, 0, none⟩ = some (rnV tb wb) ∧ w'.cell? ⟨b, o + 3, none⟩ = some (.slice (some ⟨g, 0, none⟩) tl cap))
              (first | (with_reducible assumption) | (with_reducible exact Sd) | (with_reducible exact Sx))
              (first | ((with_reducible refine IH.mono ?_); rintro e w5 ⟨rfl, hR5⟩; obtain ⟨css2, q1, q2⟩ := HFI.out w5 hR5; have Sx : w5.cell? ⟨wb, 0, none⟩ = some (rnV tb wb) ∧ w5.cell? ⟨b, o + 3, none⟩ = some (.slice (some ⟨g, 0, none⟩) tl cap) := ⟨(hW1.keep q2 n1 n2 n3).wk.cell, q2.cell d3 HB.out⟩))
            all_goals
              have HQ := hid (And.intro q1 q2)
              clear q1 q2 hR5
              go_wp2_with fail
              go_roundw
              case rel => exact ⟨j + 1, css2, by go_num, by omega, HQ.out.1, HQ.out.2⟩
              case measure => simp [intOf]; omega
          · have hje : j = ts.length := by have := HL.out; omega
            subst hje
            rw [List.take_length, List.drop_length, List.append_nil] at hO
            have hln : (ts.map (renT rf)).length = tl := by rw [List.length_map]; exact HL.out.symm
            have hnode := hO.node k n i' (cap := cap) (hi := hi) (by rw [hln]; exact hcap) (by rw [List.length_map]; exact hml)
            rw [hln] at hnode
            have hren : renT rf (.mk k n i ts) = .mk k n i' (ts.map (renT rf)) := by rw [renT, renTs_map, ← HI.out]
            rw [← hren] at hnode
            have hnb : ∀ o', wr.cell? ⟨b, o', none⟩ = wc.cell? ⟨b, o', none⟩ := fun o' => World.cell?_of_block (hU.block b hbc HB.out)
            have HR := hid (show RnC rf (.mk k n i ts) b o lo hi W wr from ⟨_, hnode, fun x v hv => (by
              match x, hv with
              | 0, hv => cases hv; exact e0
              | 1, hv => cases hv; exact e1
              | 2, hv => cases hv; exact e2
              | 3, hv => cases hv; exact e3), fun o' ho => (hnb o').trans (HOT.out.1 o' ho), fun o' => (hU.cells.2 b o' hbc HB.out).trans (HOT.out.2.1 o'), (HOT.out.2.2.mono (fun _ _ e => .inl e)).trans hU (fun _ _ e => .inr e)⟩)
            clear hnode hO hren hln
            go_wp2_with fail
            go_end0
            exact ⟨rfl, HR.out⟩
end Go.Proofs.YtdomloghcpfdjaaGreatDoor
namespace Go.Proofs.YtdomloghcpfdjaaGreatDoor
open Go.RowKit Go.LF
set_option maxRecDepth 100000 in
set_option maxHeartbeats 8000000 in
theorem renumber_any (rf : Int → Int) (M : Nat) (kvs : List (Value × Value)) (hlk : RnL rf M kvs) (t : Tm) (hsz : t.size ≤ 900000) (w : World) (cs : List Value) (hM : MapIs w M kvs) (hR : Rep none' w t.dat cs) :
    Calls Tryz.prog 107 #[.agg cs.toArray, .map (some M)] w (NewTm (renT rf t) w) := by
  obtain ⟨k, n, i, ts, a, cap, ht, rfl, _, _⟩ := tm_open hR
  generalize ts.length = len at *
  obtain ⟨w3, hw3⟩ : ∃ w3, w3 = ((w.alloc (.cells #[.int .i64 k, .string (B n), .int .i64 i, .slice a len cap] 29)).alloc (.cells #[.map (some M)] 137)).alloc (.cells #[.int .i64 0, .string (B []), .int .i64 0, .slice none 0 0] 29) := ⟨_, rfl⟩
  have hU3 : Upto none' w w3 := by rw [hw3]; exact (((Upto.refl none' w).alloc _).alloc _).alloc _
  have ht3 : Box4 w3 w.heap.size (.int .i64 k) (.string (B n)) (.int .i64 i) (.slice a len cap) 29 := by rw [hw3]; exact ((Box4.at_new rfl).kept ((Upto.refl none' _).alloc _)).kept ((Upto.refl none' _).alloc _)
  have hm3 : Box1 w3 (w.heap.size + 1) (.map (some M)) 137 := by rw [hw3]; exact (Box1.at_new (by simp)).kept ((Upto.refl none' _).alloc _)
  have hr3 : Box4 w3 (w.heap.size + 1 + 1) (.int .i64 0) (.string (B [])) (.int .i64 0) (.slice none 0 0) 29 := by rw [hw3]; exact Box4.at_new (by simp)
  have hz3 : w3.heap.size = w.heap.size + 3 := by rw [hw3]; simp
  have DU := dupTermO_any t hsz w3 _ (hR.on hU3)
  have hM3 := hM.on hU3 (fun x => x)
  have hMl := hM.lt
  obtain ⟨H, hH⟩ : ∃ H, H = w.heap.size := ⟨_, rfl⟩
  have HH := hid hH
  rw [← hH] at ht3 hm3 hr3 hz3 hMl
  have HW := hid hw3
  have hcall : ∀ args w, Sem.run Tryz.prog (callFunc 178 args) w = .ok (Next.enter 178 args) w := fun _ _ => by simp only [go_sem, Tryz.call178]
  have HK := hid (And.intro hlk hsz)
  clear hw3 hH ht hR hM hlk hsz
  obtain ⟨t0, t1, t2, t3⟩ := ht3.cells
  go_enter Tryz.func107, Tryz.ntmps107
  go_upto_region 1 with fail
  rw [← show B [] = { data := #[] } from rfl, ← HW.out, ← HH.out]
  go_wp2_with fail
  (with_reducible refine DU.mono ?_)
  rintro e w4 ⟨k4, i4, n4, a4, l4, c4, rfl, hO4, hU4⟩
  have ht4 := ht3.kept hU4
  have hs4 := ht4.set (d0 := .int .i64 k4) (d1 := .string (B n4)) (d2 := .int .i64 i4) (d3 := .slice a4 l4 c4)
  obtain ⟨w5, hw5⟩ : ∃ w5, w5 = ((((w4.setCell ⟨H, 0, none⟩ (.int .i64 k4)).setCell ⟨H, 1, none⟩ (.string (B n4))).setCell ⟨H, 2, none⟩ (.int .i64 i4)).setCell ⟨H, 3, none⟩ (.slice a4 l4 c4)) := ⟨_, rfl⟩
  rw [← hw5] at hs4
  have hz45 : w5.heap.size = w4.heap.size := by rw [hw5]; simp [World.setCell]
  obtain ⟨ht5, hU5⟩ := hs4
  have hm5 := (hm3.kept hU4).keep hU5 (by omega)
  have hr5 := (hr3.kept hU4).keep hU5 (by omega)
  have hM5 := (hM3.on hU4 (fun x => x)).on hU5 (by omega)
  have hO5 := hO4.keep hU5 (fun b b1 _ e => by omega)
  obtain ⟨w6, hw6⟩ : ∃ w6, w6 = w5.alloc (.cells #[rnV (H + 1) w5.heap.size] 176) := ⟨_, rfl⟩
  have hU6 : Upto none' w5 w6 := by rw [hw6]; exact (Upto.refl none' w5).alloc _
  have hk6 : Box1 w6 w5.heap.size (rnV (H + 1) w5.heap.size) 176 := by rw [hw6]; exact Box1.at_new rfl
  obtain ⟨Q, hQ⟩ : ∃ Q, Q = w5.heap.size := ⟨_, rfl⟩
  have ht6 := ht5.kept hU6
  have hR6 : RnW rf (H + 1) w5.heap.size M kvs w6 := ⟨hm5.kept hU6, hk6, hM5.on hU6 (fun x => x)⟩
  have hz34 := hU4.size
  have HW5 := hid hw5
  have HW6 := hid hw6
  have HQ := hid hQ
  rw [← hQ] at hk6 hR6 hw6 hz45
  obtain ⟨e0, e1, e2, e3⟩ := ht6.cells
  obtain ⟨f0, f1, f2, f3⟩ := ht6.frozens
  have RN := ren1_any rf t (H + 1) Q M kvs H 0 w3.heap.size w4.heap.size w6 _ HK.out.1 HK.out.2 (hO5.keep hU6 (fun _ _ _ x => x))
    (fun x v hv => by
      rw [Nat.zero_add]
      match x, hv with
      | 0, hv => cases hv; exact e0
      | 1, hv => cases hv; exact e1
      | 2, hv => cases hv; exact e2
      | 3, hv => cases hv; exact e3) (fun o => by unfold Box4 at ht6; simp [World.frozen?, ht6]) (by omega) hR6 (by omega) (by omega)
  have hr6 := hr5.kept hU6
  have hUw6 : Upto none' w w6 := ((hU3.and hU4).trans hU5 (fun b hb e => by have := HH.out; omega)).and hU6
  obtain ⟨y0, y1, y2, y3⟩ := ht4.cells
  obtain ⟨z0, z1, z2, z3⟩ := ht4.frozens
  have q4 := ht4.lt
  have c6 := hk6.cell
  clear hz45 hw5 hw6 hQ t0 t1 t2 t3 DU ht3 hr3 hm3 hM3 hO4 hO5 hm5 hM5 hr5 ht5 e0 e1 e2 e3 f0 f1 f2 f3
  go_upto_region 2 with fail
  rw [← HW5.out]
  clear y0 y1 y2 y3 z0 z1 z2 z3 q4
  go_upto_region 4 with fail
  rw [← HW6.out, ← HQ.out]
  go_wp2_with fail
  (with_reducible refine RN.mono ?_)
  rintro e w7 ⟨rfl, cs7, hO7, hc7, _, hf7, hU7⟩
  obtain ⟨k7, n7, i7, ts7, a7, l7, ht7, rfl, _, _⟩ := tm_open hO7.rep
  have e0 := hc7 0 _ rfl
  have e1 := hc7 1 _ rfl
  have e2 := hc7 2 _ rfl
  have e3 := hc7 3 _ rfl
  generalize ts7.length = tl7 at *
  rw [Nat.zero_add] at e0 e1 e2 e3
  have hr7 := hr6.keep hU7 (by omega)
  obtain ⟨y0, y1, y2, y3⟩ := hr7.cells
  obtain ⟨z0, z1, z2, z3⟩ := hr7.frozens
  have q7 := hr7.lt
  have hset := hr7.set (d0 := .int .i64 k7) (d1 := .string (B n7)) (d2 := .int .i64 i7) (d3 := .slice a7 tl7 l7)
  have HO7 := hid (And.intro hO7 hset)
  clear hO7 hset hc7 hf7 RN ht7 hk6 c6 hR6
  go_wp2_with fail
  obtain ⟨hO7, hset⟩ := HO7.out
  obtain ⟨p0, p1, p2, p3⟩ := hset.1.cells
  refine bodyPost_ret (v := .agg #[.int .i64 k7, .string (B n7), .int .i64 i7, .slice a7 tl7 l7]) ?_ rfl ?_
  · simp [results, Tryz.f107, go_sem, p0, p1, p2, p3]
  · refine ⟨k7, i7, n7, a7, tl7, l7, rfl, ?_, (hUw6.trans hU7 (fun b hb e => by have := HH.out; omega)).trans hset.2 (fun b hb e => by have := HH.out; omega)⟩
    rw [← HH.out]
    have h1 := hO7.rep
    exact Rep.weaken (fun b _ e => .inl (by omega)) _ _ (Rep.keep hset.2 (fun b e => .inl (by omega)) _ _ h1)
end Go.Proofs.YtdomloghcpfdjaaGreatDoor
namespace Go.LF
open Tm Go.Proofs.YtdomloghcpfdjaaGreatDoor
theorem countP_or13 {α : Type} (p q r : α → Bool) (h : ∀ x, p x = true → q x = true ∨ r x = true) : ∀ l : List α, l.countP p ≤ l.countP q + l.countP r
  | [] => by simp
  | x :: l => by
    have ih := countP_or13 p q r h l
    simp only [List.countP_cons]
    have hx := h x
    by_cases hp : p x = true
    · rcases hx hp with hq | hr
      · simp only [hp, hq, if_true]; omega
      · simp only [hp, hr, if_true]; omega
    · simp only [hp]; simp only [Bool.false_eq_true, if_false]; omega
theorem count_range13 (p : Nat) : ∀ n, (List.range n).countP (fun j => j == p) ≤ (if p < n then 1 else 0)
  | 0 => by simp
  | n + 1 => by
    have ih := count_range13 p n
    rw [List.range_succ, List.countP_append, List.countP_singleton]
    by_cases h1 : n = p
    · subst h1
      rw [if_neg (Nat.lt_irrefl _)] at ih
      simp only [BEq.rfl, if_true]
      rw [if_pos (by omega)]
      omega
    · rw [if_neg (by simpa using h1)]
      by_cases h2 : p < n
      · rw [if_pos h2] at ih; rw [if_pos (by omega)]; exact ih
      · rw [if_neg h2] at ih; rw [if_neg (by omega)]; exact ih
theorem unseen_cons (l : List Mv) (x : Int) (xs : List Int) : unseen l xs ≤ unseen l (x :: xs) + 1 := by
  unfold unseen
  rw [← List.countP_eq_length_filter, ← List.countP_eq_length_filter]
  have h1 := countP_or13 (fun j : Nat => !(xs.contains (j : Int))) (fun j : Nat => !((x :: xs).contains (j : Int))) (fun j => j == x.toNat) (fun j hj => by
    by_cases h : (j : Int) = x
    · exact .inr (by simp [← h])
    · refine .inl ?_
      simp only [Bool.not_eq_true', List.contains_eq_mem, decide_eq_false_iff_not, List.mem_cons, not_or] at hj ⊢
      exact ⟨h, hj⟩) (List.range l.length)
  have h2 := count_range13 x.toNat l.length
  have h3 : (if x.toNat < l.length then 1 else 0) ≤ 1 := by split <;> omega
  omega
theorem unseen_len (l : List Mv) : ∀ o : List Int, l.length ≤ unseen l o + o.length
  | [] => by
    unfold unseen
    rw [List.filter_eq_self.2 (by simp)]
    simp
  | x :: xs => by
    have h1 := unseen_len l xs
    have h2 := unseen_cons l x xs
    simp only [List.length_cons]
    omega
theorem unseen_nodup (l : List Mv) : ∀ o : List Int, unseen l o + o.length ≤ l.length → o.Nodup
  | [], _ => List.nodup_nil
  | x :: xs, h => by
    have h2 := unseen_cons l x xs
    simp only [List.length_cons] at h
    refine List.nodup_cons.2 ⟨fun hx => ?_, unseen_nodup l xs (by omega)⟩
    have h3 : unseen l xs ≤ unseen l (x :: xs) := unseen_le (fun y hy => by
      rcases List.mem_cons.1 hy with rfl | hy
      · exact hx
      · exact hy)
    have h4 := unseen_len l xs
    omega
/-- The order has no repetitions. -/
theorem order_nodup {l : List Mv} {ks o : List Int} (h1 : unseen l ks + ks.length ≤ l.length) (h2 : o.length ≤ ks.length) (h3 : ∀ x ∈ ks, x ∈ o) : o.Nodup := by
  have := unseen_le (l := l) h3
  exact unseen_nodup l o (by omega)
end Go.LF
namespace Go.LF
open Tm Go.Proofs.YtdomloghcpfdjaaGreatDoor
def ixIn (o : List Int) (x : Int) : Int := if x ∈ o then (o.idxOf x : Int) else 0
def nameOf (l : List Mv) (i : Int) : List UInt8 := match l[i.toNat]? with | some m => m.name | none => []
def canM (l : List Mv) (o : List Int) (j : Int) : Mv := ⟨nameOf l j, renT (ixIn o) (expT l (typeOf l j)), []⟩
def canK (l : List Mv) (ts : List Tm) : List Mv := (unsO l ts).map (canM l (unsO l ts))
def canT (l : List Mv) (ts : List Tm) : List Tm := if unsE l ts = 0 then (allR l ts).map (renT (ixIn (unsO l ts))) else []
theorem nameOf_at {l : List Mv} {p : Nat} (h : p < l.length) : nameOf l (p : Int) = l[p].name := by
  unfold nameOf
  rw [show ((p : Int)).toNat = p by omega, List.getElem?_eq_getElem h]
/-- The map of Canon: each number with its place. -/
def toKv (o : List Int) : List (Value × Value) := o.zipIdx.map (fun x => (.int .i64 x.1, .int .i64 (x.2 : Int)))
theorem toKv_next (o : List Int) (j : Nat) (h : j < o.length) : toKv (o.take (j + 1)) = toKv (o.take j) ++ [(.int .i64 o[j], .int .i64 (j : Int))] := by
  unfold toKv
  rw [List.take_succ_eq_append_getElem h, List.zipIdx_append, List.map_append]
  simp [Nat.min_eq_left (Nat.le_of_lt h)]
theorem toKv_mem {o : List Int} {x : Value × Value} (h : x ∈ toKv o) : ∃ (k : Nat) (hk : k < o.length), x = (.int .i64 o[k], .int .i64 (k : Int)) := by
  unfold toKv at h
  obtain ⟨⟨y, k⟩, hy, rfl⟩ := List.mem_map.1 h
  have := List.mem_zipIdx hy
  obtain ⟨_, h2, h3⟩ := this
  refine ⟨k, by simpa using h2, ?_⟩
  simp only [h3]
  simp
theorem toKv_of {o : List Int} {k : Nat} (h : k < o.length) : (.int .i64 o[k], .int .i64 (k : Int)) ∈ toKv o := by
  unfold toKv
  refine List.mem_map.2 ⟨(o[k], k), ?_, rfl⟩
  have := List.mk_mem_zipIdx_iff_getElem? (l := o) (i := k) (x := o[k])
  exact this.2 (List.getElem?_eq_getElem h)
end Go.LF
namespace Go.Proofs.YtdomloghcpfdjaaGreatDoor
open Go.RowKit Go.LF
theorem zero_int13 (W : World) : (zeroValue 3).run Tryz.prog W = .ok (.int .i64 0) W := by kernel_rfl
theorem toKv_key (o : List Int) : ∀ x ∈ toKv o, MapKept.IsKey (.int .i64) x.1 := fun x hx => by
  obtain ⟨k, _, rfl⟩ := toKv_mem hx
  rfl
theorem canon_look (o : List Int) (hn : o.Nodup) (M : Nat) : RnL (ixIn o) M (toKv o) := by
  intro W x hM
  unfold ixIn
  by_cases hx : x ∈ o
  · rw [if_pos hx]
    have hk : o.idxOf x < o.length := List.idxOf_lt_length_iff.2 hx
    have hget : o[o.idxOf x] = x := List.getElem_idxOf hk
    refine hM.get (P := Tryz.prog) (kt := 3) (vt := 3) (key := .int .i64 x) (by kernel_rfl) (by kernel_rfl) (toKv_key o) rfl (fun v hv => ?_) ⟨_, toKv_of hk, by rw [hget]⟩ false
    obtain ⟨k, hk', e⟩ := toKv_mem hv
    simp only [Prod.mk.injEq, Value.int.injEq, true_and] at e
    rw [e.2, (List.getElem_inj hn).1 (hget.trans e.1)]
  · rw [if_neg hx]
    refine hM.none (P := Tryz.prog) (kt := 3) (vt := 3) (key := .int .i64 x) (by kernel_rfl) (by kernel_rfl) (zero_int13 W) (toKv_key o) rfl (fun y hy e => ?_) false
    obtain ⟨k, hk', rfl⟩ := toKv_mem hy
    simp only [Value.int.injEq, true_and] at e
    exact hx (e ▸ List.getElem_mem hk')
/-- A row of terms that is written in place. -/
def RowZ (W : World) (a : Option Addr) (zs : List Tm) : Prop :=
  ∀ i (_ : i < zs.length), ∃ g cs, a = some ⟨g, 0, none⟩ ∧ g < W.heap.size ∧ (∀ o, W.frozen? ⟨g, o, none⟩ = false) ∧ cs.length = 4 ∧ (∀ m u, cs[m]? = some u → W.cell? ⟨g, i * 4 + m, none⟩ = some u) ∧ Rep (fun b => b = g) W zs[i].dat cs
section
variable {W W' : World} {a : Option Addr} {zs : List Tm}
theorem RowZ.kept (h : RowZ W a zs) (hU : Upto none' W W') : RowZ W' a zs := by
  intro i hi
  obtain ⟨g, cs, h1, h2, h3, h4, h5, h6⟩ := h i hi
  exact ⟨g, cs, h1, Nat.lt_of_lt_of_le h2 hU.size, fun o => by rw [hU.cells.2 g o h2 (fun x => x)]; exact h3 o, h4, fun m u hu => hU.cell (h5 m u hu) (fun x => x), h6.on hU⟩
theorem RowZ.start {T : TypeId} {O : Nat → Prop} {base n cap : Nat} {css : List (List Value)} (h : RowD T 4 O base W (.slice a n cap) (zs.map Tm.dat) css) : RowZ W a zs := by
  intro i hi
  obtain ⟨a', c', hv, _, hc⟩ := h.cells
  simp only [Value.slice.injEq] at hv
  obtain ⟨rfl, _, rfl⟩ := hv
  have hi' : i < css.length := by have := h.1; simp at this; omega
  obtain ⟨g, rfl, hown, hb, hlt, hf, hg⟩ := hc i (by simpa using hi) hi'
  have h6 := h.2.2.2 i (by simpa using hi) hi'
  simp only [List.getElem_map] at h6
  exact ⟨g, css[i], rfl, hlt, hf, h.2.1 _ (List.getElem_mem hi'), hg, Rep.weaken (fun b _ e => .inr (by rw [e]; exact hown)) _ _ h6⟩
theorem RowZ.next {g j : Nat} {u : Tm} {d0 d1 d2 d3 : Value} (h : RowZ W (some ⟨g, 0, none⟩) zs) (hj : j < zs.length) (hR : Rep (fun b => b = g) W u.dat [d0, d1, d2, d3])
    (hW : W' = (((W.setCell ⟨g, j * 4, none⟩ d0).setCell ⟨g, j * 4 + 1, none⟩ d1).setCell ⟨g, j * 4 + 2, none⟩ d2).setCell ⟨g, j * 4 + 3, none⟩ d3) : RowZ W' (some ⟨g, 0, none⟩) (zs.set j u) ∧ Upto (fun b => b = g) W W' := by
  obtain ⟨g', cs, e, hlt, hf, hcl, hc, _⟩ := h j hj
  cases e
  have hcj : ∀ m, m < 4 → ∃ u, W.cell? ⟨g, j * 4 + m, none⟩ = some u := fun m hm => ⟨_, hc m _ (List.getElem?_eq_getElem (by rw [hcl]; exact hm))⟩
  obtain ⟨_, u0⟩ := hcj 0 (by omega)
  obtain ⟨_, u1⟩ := hcj 1 (by omega)
  obtain ⟨_, u2⟩ := hcj 2 (by omega)
  obtain ⟨_, u3⟩ := hcj 3 (by omega)
  obtain ⟨⟨v0, v1, v2, v3⟩, hoth, hU⟩ := set_cells (d0 := d0) (d1 := d1) (d2 := d2) (d3 := d3) u0 u1 u2 u3 hW
  refine ⟨fun i hi => ?_, hU⟩
  have hi' : i < zs.length := by simpa using hi
  obtain ⟨g', cs', e, hlt', hf', hcl', hc', h7⟩ := h i hi'
  cases e
  have hfr : ∀ o, W'.frozen? ⟨g, o, none⟩ = false := fun o => by rw [hW]; simp only [World.frozen?_setCell]; exact hf o
  by_cases hij : i = j
  · subst hij
    refine ⟨g, [d0, d1, d2, d3], rfl, Nat.lt_of_lt_of_le hlt hU.size, hfr, rfl, fun m x hx => ?_, ?_⟩
    · match m, hx with
      | 0, hx => cases hx; exact v0
      | 1, hx => cases hx; exact v1
      | 2, hx => cases hx; exact v2
      | 3, hx => cases hx; exact v3
    · simp only [List.getElem_set_self]
      exact Rep.keep hU (fun b e => e) _ _ hR
  · refine ⟨g, cs', rfl, Nat.lt_of_lt_of_le hlt hU.size, hfr, hcl', fun m x hx => ?_, ?_⟩
    · have hm : m < 4 := by rw [← hcl']; exact (List.getElem?_eq_some_iff.1 hx).1
      rw [hoth _ (by omega) (by omega) (by omega) (by omega)]
      exact hc' m x hx
    · rw [List.getElem_set_ne (by omega)]
      exact Rep.keep hU (fun b e => e) _ _ h7
theorem RowZ.rep (h : RowZ W a zs) : RepE none' W 4 (zs.map Tm.dat) a 0 := by
  refine repE_of _ _ _ (fun i hi => ?_)
  simp only [List.length_map] at hi
  obtain ⟨g, cs, rfl, hlt, _, hcl, hc, h7⟩ := h i hi
  refine ⟨g, 0, cs, rfl, hlt, fun x => x, hcl, fun m u hu => ?_, ?_⟩
  · rw [show 0 + 0 + i * 4 + m = i * 4 + m by omega]
    exact hc m u hu
  · simp only [List.getElem_map]
    exact Rep.weaken (fun _ _ e => e.elim) _ _ h7
end
end Go.Proofs.YtdomloghcpfdjaaGreatDoor
namespace Go.Proofs.YtdomloghcpfdjaaGreatDoor
open Go.RowKit Go.LF
theorem AnyP_size {t : Tm} (h : t.wf = 0) : t.size ≤ 4096 := (Tm.wf_any3 h).2.1
/-- A store, terms and an error are handed back. -/
def GivesC (E : Int) (ks : List Mv) (us : List Tm) (w : World) (e : Ending) (w' : World) : Prop :=
  ∃ (ka ua : Option Addr) (kc uc : Nat), e = .returned (.tuple #[.slice ka ks.length kc, .slice ua us.length uc, .int .i64 E]) ∧ (ks.length ≤ kc ∧ us.length ≤ uc) ∧ RepE none' w' 6 (ks.map Mv.dat) ka 0 ∧ RepE none' w' 4 (us.map Tm.dat) ua 0 ∧ Upto none' w w'
theorem GivesC.bad {E : Int} {ks : List Mv} {us : List Tm} {w w' : World} {E' : Int} (h1 : E' = E) (h2 : ks = []) (h3 : us = []) (hU : Upto none' w w') : GivesC E ks us w (.returned (.tuple #[.slice none 0 0, .slice none 0 0, .int .i64 E'])) w' := by
  subst h1 h2 h3
  exact ⟨none, none, 0, 0, rfl, ⟨Nat.le_refl _, Nat.le_refl _⟩, repE_of _ _ _ (fun i hi => by simp at hi), repE_of _ _ _ (fun i hi => by simp at hi), hU⟩
set_option maxRecDepth 100000 in
set_option maxHeartbeats 8000000 in
theorem canon_any (l : List Mv) (hP : Plz l) (ts : List Tm) (hts : ∀ t ∈ ts, t.wt ≤ 1000000 ∧ (t.wf = 0 → (∀ i ∈ Tm.metas t, i < l.length) → Kn l.length t)) (hlen : ts.length ≤ 1000) (w : World) (la : Option Addr) (lc : Nat) (ta : Option Addr) (tc : Nat) (hL : RepE none' w 6 (l.map Mv.dat) la 0) (hT : RepE none' w 4 (ts.map Tm.dat) ta 0) :
    Calls Tryz.prog 40 #[.slice la l.length lc, .slice ta ts.length tc] w (GivesC (unsE l ts) (canK l ts) (canT l ts) w) := by
  have hmm := @run_makeMap Tryz.prog
  obtain ⟨i0, hi, hi0, hi1, hi2⟩ := info_parts info_mv
  have AL := metaAll_any none' l hP.good ts hts hlen w (fun _ e => e.elim) la lc ta tc hL hT
  have hpar := @allR_parts l hP ts
  have hal := allR_len l ts
  have heach := allE_each l ts
  obtain ⟨E, hE⟩ : ∃ E, E = unsE l ts := ⟨_, rfl⟩
  obtain ⟨KS, hKS⟩ : ∃ K, K = canK l ts := ⟨_, rfl⟩
  obtain ⟨US, hUS⟩ : ∃ U, U = canT l ts := ⟨_, rfl⟩
  rw [← hE, ← hKS, ← hUS]
  unfold canK at hKS
  unfold canT at hUS
  obtain ⟨O, hO⟩ : ∃ O, O = unsO l ts := ⟨_, rfl⟩
  rw [← hO] at hKS hUS
  rw [← hE] at hUS
  unfold unsO at hO
  rw [← hE] at hO
  unfold unsE at hE
  unfold unsS at hE hO
  have hAus : allE l ts = 0 → ∀ u ∈ allR l ts, u.wf = 0 := fun h u hu => by
    unfold allR at hu
    rw [if_pos h] at hu
    obtain ⟨t, ht, rfl⟩ := List.mem_map.1 hu
    exact (expT_parts hP (heach h t ht)).1
  generalize allE l ts = A at *
  generalize allR l ts = us at *
  obtain ⟨S, hS⟩ : ∃ S, S = colL l l.length us ⟨[], 0⟩ := ⟨_, rfl⟩
  have OP := fun (W : World) (h1 : Upto none' w W) ua uc h2 => open_any l hP us hpar (by omega) W la lc ua uc (hL.on h1) h2
  rw [← hS] at hE hO OP
  have HE := hid (And.intro hE (And.intro hO (And.intro hKS hUS)))
  have HUL := hid (And.intro hal (And.intro hpar hAus))
  obtain ⟨ll, hll⟩ : ∃ ll, ll = l.length := ⟨_, rfl⟩
  rw [← hll] at AL
  rw [← hll]
  have HLL := hid hll
  have hL1 := RepE.fresh' _ _ _ _ hL
  clear hE hO hS hKS hUS hpar hal hll hL hT heach hAus
  go_enter Tryz.func40, Tryz.ntmps40
  go_wp2_with fail
  (with_reducible refine AL.mono ?_)
  rintro e w2 ⟨ua, uc, rfl, huc, hUe, hU2, ucss, hUD⟩
  by_cases hA : A = 0
  case neg =>
    have he : (A != 0) = true := by simpa using hA
    have h1 : E = A := by rw [HE.out.1, if_pos hA]
    have h2 : O = [] := by rw [HE.out.2.1, if_neg (by rw [h1]; exact hA)]
    have h3 : KS = [] := by rw [HE.out.2.2.1, h2]; rfl
    have h4 : US = [] := by rw [HE.out.2.2.2, if_neg (by rw [h1]; exact hA)]
    have HF := hid (And.intro h1 (And.intro h3 h4))
    clear h1 h2 h3 h4 hA OP AL
    go_wp2_with fail
    refine bodyPost_ret (v := .tuple #[.slice none 0 0, .slice none 0 0, .int .i64 A]) (by simp [results, Tryz.f40, go_sem]) rfl ?_
    exact GivesC.bad HF.out.1.symm HF.out.2.1 HF.out.2.2 hU2
  case pos =>
    subst hA
    have h1 : E = S.e := by rw [HE.out.1, if_neg (by simp)]
    have HE1 := hid h1
    have hwfu := HUL.out.2.2 rfl
    have HWF := hid hwfu
    have OPx := OP w2 hU2 ua uc hUe
    rw [← HLL.out] at OPx
    obtain ⟨ul, hul⟩ : ∃ ul, ul = us.length := ⟨_, rfl⟩
    rw [← hul] at OPx
    rw [← hul]
    have HUS := hid hul
    have hZ := RowZ.start hUD
    have hug : ∀ g, 0 < us.length → ua = some ⟨g, 0, none⟩ → w.heap.size ≤ g ∧ g < w2.heap.size := fun g h e => by
      obtain ⟨a', c', hv', _, hc⟩ := hUD.cells
      simp only [Value.slice.injEq] at hv'
      obtain ⟨rfl, _, rfl⟩ := hv'
      obtain ⟨g', e', _, g1, g2, _⟩ := hc 0 (by simpa using h) (by have := hUD.1; simp at this; omega)
      rw [e] at e'
      cases e'
      exact ⟨g1, g2⟩
    have HUG := hid hug
    clear hug
    clear h1 AL OP hul hUD hUe hwfu
    go_wp2_with fail
    (with_reducible refine OPx.mono ?_)
    rintro e w3 ⟨tb, eb, lb, vb, ob, M, base, ks, o, kvs, ov, x, rfl, hV, hbz, hs, hU3⟩
    obtain ⟨oa, oc, rfl, hoc, hOe⟩ := ints_open hV.row.rep
    have hx : x = S.e := hs.1.symm
    have HX := hid hx
    have HS := hid hs
    clear hs hx OPx
    by_cases hx0 : x = 0
    case neg =>
      have he : (x != 0) = true := by simpa using hx0
      have h1 : E = x := by rw [HE1.out, HX.out]
      have h2 : O = [] := by rw [HE.out.2.1, if_neg (by rw [h1]; exact hx0)]
      have h3 : KS = [] := by rw [HE.out.2.2.1, h2]; rfl
      have h4 : US = [] := by rw [HE.out.2.2.2, if_neg (by rw [h1]; exact hx0)]
      have HF := hid (And.intro h1 (And.intro h3 h4))
      clear h1 h2 h3 h4 hx0
      go_wp2_with fail
      refine bodyPost_ret (v := .tuple #[.slice none 0 0, .slice none 0 0, .int .i64 x]) (by simp [results, Tryz.f40, go_sem]) rfl ?_
      exact GivesC.bad HF.out.1.symm HF.out.2.1 HF.out.2.2 (hU2.and hU3)
    case pos =>
      subst hx0
      have h1 : E = 0 := by rw [HE1.out, ← HX.out]
      have h2 : O = o := by rw [HE.out.2.1, if_pos h1]; exact (HS.out.2 rfl).1
      have hiff := (HS.out.2 rfl).2
      have hnd : o.Nodup := order_nodup hV.cnt hV.ol (fun y hy => ((hiff y).1 hy).elim id (fun h => by cases h))
      have h3 : KS = o.map (canM l o) := by rw [HE.out.2.2.1, h2]
      have h4 : US = us.map (renT (ixIn o)) := by rw [HE.out.2.2.2, if_pos h1, h2]
      have hol2 : o.length ≤ 40 := by have := hV.cnt; have := hV.ol; have := hP.len; omega
      have hkey : ∀ y ∈ o, y ∈ ks := fun y hy => (hiff y).2 (.inl hy)
      obtain ⟨olen, hol⟩ : ∃ n, n = o.length := ⟨_, rfl⟩
      rw [← hol] at hol2 hoc
      rw [← hol]
      have HF := hid (And.intro h1 (And.intro h3 h4))
      have HOL := hid (And.intro hol (And.intro hnd hkey))
      have hLK := canon_look o hnd
      have HLK := hid hLK
      have hw3 := hU2.and hU3
      have hO3 := RepE.fresh' _ _ _ _ hOe
      have hZ3 := hZ.kept hU3
      have hL3 := (RepE.fresh' _ _ _ _ hL1).on hw3
      have hV4 := hV.on ((Upto.refl none' w3).alloc (.map #[] 0))
      have hM4 := MapIs.made w3
      obtain ⟨w4, hw4⟩ : ∃ w4, w4 = w3.alloc (.map #[] 0) := ⟨_, rfl⟩
      rw [← hw4] at hV4 hM4
      have hU4 : Upto none' w3 w4 := by rw [hw4]; exact (Upto.refl none' w3).alloc _
      obtain ⟨N, hN⟩ : ∃ N, N = w3.heap.size := ⟨_, rfl⟩
      rw [← hN] at hM4 hO3
      have HN := hid hN
      have HW4 := hid hw4
      have hO4 := hO3.on hU4
      have hMm := hV.map
      have hkk := hV.lk
      have hval := hV.val
      have huni := hV.uni
      have hisk := hV.isKey
      have hrng := hV.rng
      have hMN : M < N := by rw [hN]; exact hV.map.lt
      clear h1 h2 h3 h4 hol hnd hkey hiff hLK hw4 hN hV hOe hZ hO3
      go_upto_region 8 with fail
      rw [← HW4.out, ← HN.out]
      clear hmm
      go_wp2_with fail
      go_loopw [41] (fun v41 wr => ∃ (j : Nat), v41 = .int .i64 (j : Int) ∧ j ≤ olen ∧ MapIs wr N (toKv (o.take j)) ∧ Upto (fun b => b = N) w4 wr)
        (fun v41 _ => olen - (intOf v41).toNat)
      case atStart => exact ⟨0, rfl, Nat.zero_le _, hM4, Upto.refl _ _⟩
      case round =>
        obtain ⟨j, rfl, hj, hMj, hU⟩ := hrel
        have hjm : (j : Int) ≤ 40 := by omega
        by_cases hlt : j < olen
        · have hjl : j < o.length := by have := HOL.out.1; omega
          obtain ⟨b, ofs, rfl, hbl, _, hcj⟩ := int_cell (RepE.keep hU (fun b e => .inr (Nat.le_of_eq e.symm)) _ _ _ _ hO4) j hjl
          have hjb : (j : Int) < (olen : Int) := by omega
          have hnx := toKv_next o j hjl
          have hnew : ∀ x ∈ toKv (o.take j), x.1 ≠ .int .i64 o[j] := fun x hx e => by
            obtain ⟨k, hk, rfl⟩ := toKv_mem hx
            simp only [Value.int.injEq, true_and] at e
            have hk2 : k < j := by simp at hk; omega
            rw [List.getElem_take] at e
            have := (List.getElem_inj HOL.out.2.1).1 e
            omega
          obtain ⟨w7, hup, hM7, g7, hz7⟩ := hMj.put (P := Tryz.prog) (mt := 137) (kt := 3) (vt := 3) (key := .int .i64 o[j]) (by kernel_rfl) (by kernel_rfl) (toKv_key _) rfl hnew (.int .i64 (j : Int))
          rw [← hnx] at hM7
          have hU7 := hU.trans (upto_map13 g7) (fun _ _ e => e)
          have HM7 := hid (And.intro hM7 hU7)
          generalize o[j] = y at *
          clear hM7 hU7 hnx hnew g7 hMj
          go_wp2_with fail
          go_roundw
          case rel => exact ⟨j + 1, by go_num, by omega, HM7.out.1, HM7.out.2⟩
          case measure => simp [intOf]; omega
        · have hje : o.take j = o := List.take_of_length_le (by have := HOL.out.1; omega)
          rw [hje] at hMj
          obtain ⟨w5, rfl⟩ : ∃ q, q = wr := ⟨wr, rfl⟩
          have hO5 := RepE.keep hU (fun b e => .inr (Nat.le_of_eq e.symm)) _ _ _ _ hO4
          have hU35 : Upto (fun b => b = N) w3 w5 := (hU4.mono (fun _ _ e => e.elim)).trans hU (fun _ _ e => e)
          have hUw5 : Upto none' w w5 := hw3.trans hU35 (fun b hb e => by have h1 := HN.out; have h2 := hw3.size; omega)
          have hL5 := RepE.fresh' _ _ _ _ (RepE.keep hU35 (fun b e => .inr (by have := HN.out; have := hw3.size; omega)) _ _ _ _ hL3)
          have hM5 := hMm.on hU35 (fun e => by omega)
          have hv5 : ∀ x ∈ kvs, OpVal l none' w5 x := fun x hx => by
            obtain ⟨ix, kx, xx, nx, ax, lx, cx, e, h⟩ := hval x hx
            exact ⟨ix, kx, xx, nx, ax, lx, cx, e, Rep.weaken (fun _ _ e => e.elim) _ _ (Rep.keep hU35 (fun b e => .inr (by have := HN.out; omega)) _ _ (Rep.freshO h))⟩
          have hzr5 := hZ3.kept (hU35.mono (S' := none') (fun b hb e => by have := HN.out; omega))
          have HMj := hid hMj
          have HZ5 := hid hzr5
          have HV5 := hid (And.intro hv5 (And.intro hkk (And.intro huni (And.intro hisk hrng))))
          obtain ⟨B5, hB5⟩ : ∃ B5, B5 = w5.heap.size := ⟨_, rfl⟩
          have HB5 := hid hB5
          have hO5' := RepE.fresh' _ _ _ _ hO5
          have hN5 : N < B5 := by have h1 := hMj.lt; omega
          rw [← hB5] at hO5' hL5
          clear hMm hval hkk huni hisk hrng hv5 hzr5 hZ3 hL3 hO4 hM4 hMj hO5 hV4
          go_wp2_with fail
          go_loopw [14, 52] (fun v14 v52 wr => ∃ (j : Nat) (css : List (List Value)), v52 = .int .i64 (j : Int) ∧ j ≤ olen ∧ RowD 53 6 (fun b => b < B5) B5 wr v14 (((o.take j).map (canM l o)).map Mv.dat) css ∧ Upto none' w5 wr)
            (fun _ v52 _ => olen - (intOf v52).toNat)
          case atStart => exact ⟨0, [], rfl, Nat.zero_le _, RowD.nil _ _ _ _ _, Upto.refl _ _⟩
          case round =>
            obtain ⟨j, css, rfl, hj, hD, hUr⟩ := hrel
            obtain ⟨vv, hvv⟩ : ∃ v, v = u14 := ⟨_, rfl⟩
            rw [← hvv] at hD
            rw [← hvv]
            have HVV := hid hvv
            have hjm : (j : Int) ≤ 40 := by omega
            have hln : (((o.take j).map (canM l o)).map Mv.dat).length = j := by have := HOL.out.1; simp; omega
            have hzr : B5 ≤ wr.heap.size := by have := hUr.size; have := HB5.out; omega
            clear hvv
            by_cases hlt : j < olen
            · have hjl : j < o.length := by have := HOL.out.1; omega
              obtain ⟨b, ofs, rfl, hbl, _, hcj⟩ := int_cell (hO5'.on hUr) j hjl
              have hjb : (j : Int) < (olen : Int) := by omega
              have htk : ((o.take (j + 1)).map (canM l o)).map Mv.dat = ((o.take j).map (canM l o)).map Mv.dat ++ [(canM l o o[j]).dat] := by rw [List.take_succ_eq_append_getElem hjl, List.map_append, List.map_append]; rfl
              have hyk := HOL.out.2.2 _ (List.getElem_mem hjl)
              have HTK := hid htk
              generalize o[j] = y at *
              obtain ⟨hv5, hkk, huni, hisk, hrng⟩ := HV5.out
              obtain ⟨y0, y1⟩ := hrng y hyk
              obtain ⟨p, rfl⟩ : ∃ p : Nat, y = (p : Int) := ⟨y.toNat, by omega⟩
              have hpl : p < l.length := by omega
              obtain ⟨b2, o2, k2, n2, ix2, aa2, cap2, va2, vc2, rfl, hb2l, hb2O, ⟨d0, _, _, _, _, _⟩, _, _, _⟩ := arg_mv (hL5.on hUr) p hpl
              rw [← nameOf_at hpl] at d0
              obtain ⟨x, hx, hxk⟩ := (hkk (p : Int)).1 hyk
              obtain ⟨ix, kx, xx, nx, ax, lx, cx, hxe, hRx⟩ := hv5 x hx
              have hix : ix = (p : Int) := by rw [hxe] at hxk; cases hxk; rfl
              rw [hix] at hRx hxe
              have hd : Upto none' wr wr.drew := (Upto.refl none' wr).drew
              have hUrd := hUr.and hd
              have hget := (hM5.on hUrd (fun x => x)).get (P := Tryz.prog) (mt := 130) (kt := 3) (vt := 29) (key := .int .i64 (p : Int)) (val := .agg #[.int .i64 kx, .string (B nx), .int .i64 xx, .slice ax lx cx]) (by kernel_rfl) (by kernel_rfl) hisk rfl
                (fun v hv => by have := huni _ hv x hx hxk.symm; rw [← this] at hxe; exact (Prod.ext_iff.1 hxe).2) ⟨x, hx, hxk⟩ false
              have hszx : (expT l (typeOf l (p : Int))).size ≤ 900000 := by
                by_cases he : expE l (typeOf l (p : Int)) = 0
                · have := (AnyP_size (expT_parts hP he).1); omega
                · unfold expT; rw [if_neg he]; decide
              have RN := renumber_any (ixIn o) N (toKv o) (HLK.out N) _ hszx wr.drew _ (HMj.out.on hUrd (fun x => x)) (hRx.on hUrd)
              have hcan : canM l o (p : Int) = ⟨nameOf l (p : Int), renT (ixIn o) (expT l (typeOf l (p : Int))), []⟩ := rfl
              rw [hcan] at htk
              generalize renT (ixIn o) (expT l (typeOf l (p : Int))) = X at *
              generalize nameOf l (p : Int) = nm at *
              have HTK2 := hid htk
              have hpb : (p : Int) < ((l.length : Nat) : Int) := by omega
              have hll2 : ll = l.length := HLL.out
              rw [← hll2] at hpb
              have HO : ∀ b, b < B5 → b < B5 := fun _ e => e
              have hDd := hD.on hd HO
              have mk := fun (w6 : World) (hU6 : Upto none' wr.drew w6) (k6 i6 : Int) (n6 : List UInt8) (a6 : Option Addr) (l6 c6 : Nat) => show (w6.alloc (.cells #[.string (B nm), .int .i64 k6, .string (B n6), .int .i64 i6, .slice a6 l6 c6, .slice none 0 0] 53)).ownsRow B5 53 6 vv j css.flatten ∧ B5 ≤ w6.heap.size from by
                have h := (hDd.on (hU6.and ((Upto.refl none' w6).alloc (.cells #[.string (B nm), .int .i64 k6, .string (B n6), .int .i64 i6, .slice a6 l6 c6, .slice none 0 0] 53))) HO).2.2.1
                rw [hln] at h
                exact ⟨h, Nat.le_trans hzr hU6.size⟩
              have hnb : ¬ some b2 = vv.ownBlock := fun e => hb2O (.inr (hD.2.2.1.lt b2 e.symm).1)
              have HMK := hid mk
              have HDd := hid hDd
              have d0' := hd.cell d0 (fun x => x)
              clear mk htk hcan hxe hx hxk hRx hix hszx huni hkk hisk hrng hv5 hyk y0 y1 hDd hD hll2
              go_upto_region 17 with fail
              go_region_held3 (fun w' => w'.cell? ⟨b2, o2 + p * 6, none⟩ = some (.string (B nm))) (first | (with_reducible assumption) | (with_reducible exact d0') | (with_reducible exact s6) | (with_reducible exact s6a) | (with_reducible exact s7)) (first
                | ((go_at_call 107); (with_reducible refine RN.mono ?_); rintro e w6 ⟨k6, i6, n6, a6, l6, c6, rfl, hR6, hU6⟩; have s6 := hU6.cell d0' (fun x => x); have s6a := ((Upto.refl none' w6).alloc (.cells #[.string (B nm), .int .i64 k6, .string (B n6), .int .i64 i6, .slice a6 l6 c6, .slice none 0 0] 53)).cell s6 (fun x => x); obtain ⟨own6, hz6⟩ := HMK.out w6 hU6 k6 i6 n6 a6 l6 c6)
                | (refine step_append_lies _ (by rfl) _ _ 44 (by rfl) B5 53 i0 (.agg #[.string (B []), .int .i64 0, .string (B []), .int .i64 0, .slice none 0 0, .slice none 0 0]) 6 96 (by kernel_rfl) hi hi0 hi1 hi2 rfl (by decide) vv j css.flatten (by rfl) own6 ⟨w6.heap.size, 0, none⟩ 1 1 [.string (B nm), .int .i64 k6, .string (B n6), .int .i64 i6, .slice a6 l6 c6, .slice none 0 0] (by rfl) rfl (World.news_of_block (heap_alloc_new w6 _)) (by simp [Value.oneCell']) (by omega) (by simp only [maxLen]; omega) (by omega) (by simp; omega) _ rfl ?_; intro g cap' w7 hown hgrow hat hlt7; have s7 := hgrow.cell s6a hnb))
              all_goals
                have hal := (Upto.refl none' w6).alloc (.cells #[.string (B nm), .int .i64 k6, .string (B n6), .int .i64 i6, .slice a6 l6 c6, .slice none 0 0] 53)
                have hDa := HDd.out.on (hU6.and hal) (fun _ e => e)
                have hRu : Rep (fun b => b < B5 ∨ vv.ownBlock = some b) (w6.alloc (.cells #[.string (B nm), .int .i64 k6, .string (B n6), .int .i64 i6, .slice a6 l6 c6, .slice none 0 0] 53)) (Mv.dat ⟨nm, X, []⟩) [.string (B nm), .int .i64 k6, .string (B n6), .int .i64 i6, .slice a6 l6 c6, .slice none 0 0] := by
                  refine rep_mv.2 ⟨[.int .i64 k6, .string (B n6), .int .i64 i6, .slice a6 l6 c6], none, 0, rfl, (Rep.weaken (fun b _ e => ?_) _ _ hR6).on hal, Nat.le_refl _, by simp only [List.map_nil, RepE]⟩
                  show b < wr.heap.size
                  rcases e with e | e
                  · omega
                  · exact (HDd.out.2.2.1.lt b e).2
                have hown8 : w7.ownsRow B5 53 6 (.slice (some ⟨g, 0, none⟩) ((((o.take j).map (canM l o)).map Mv.dat).length + 1) cap') ((((o.take j).map (canM l o)).map Mv.dat).length + 1) (css.flatten ++ [.string (B nm), .int .i64 k6, .string (B n6), .int .i64 i6, .slice a6 l6 c6, .slice none 0 0]) := by rw [hln]; exact hown
                have hRw := hDa.appended (d := Mv.dat ⟨nm, X, []⟩) rfl hRu hown8 hgrow hat (Nat.le_refl _)
                rw [hln, ← HTK2.out] at hRw
                have hU7 : Upto none' w5 w7 := (((hUr.and hd).and hU6).and hal).trans (grown_own hgrow) (fun b hb e => by have := (hDa.2.2.1.lt b e).1; have := HB5.out; omega)
                have HR := hid (And.intro hRw hU7)
                clear hRw hU7 hown8 hRu hown hgrow hat hDa hR6 hU6 s6 s6a s7 own6
                go_wp2_with fail
                go_roundw
                case rel => exact ⟨j + 1, _, by go_num, by omega, HR.out.1, HR.out.2⟩
                case measure => simp [intOf]; omega
            · have hje2 : o.take j = o := List.take_of_length_le (by have := HOL.out.1; omega)
              rw [hje2, ← HF.out.2.1] at hD hln
              obtain ⟨va, vc, hv, hvc, hKF⟩ := hD.rep (fun _ e => e)
              rw [hln] at hv hvc
              subst hv
              obtain ⟨w6, rfl⟩ : ∃ q, q = wr := ⟨wr, rfl⟩
              have hZ6 := HZ5.out.kept hUr
              have hM6 := HMj.out.on hUr (fun x => x)
              have HKF := hid (And.intro hKF (And.intro hvc hln))
              have hnN : ∀ g, 0 < us.length → ua = some ⟨g, 0, none⟩ → g < N := fun g h e => by have h1 := HUG.out g h e; have h2 := hU3.size; have h3 := HN.out; omega
              have HNN := hid hnN
              clear hKF hvc hln hD hnN
              go_wp2_with fail
              go_loopw [73] (fun v73 wr => ∃ (j : Nat), v73 = .int .i64 (j : Int) ∧ j ≤ ul ∧ RowZ wr ua ((us.take j).map (renT (ixIn o)) ++ us.drop j) ∧ Upto (fun b => ua = some ⟨b, 0, none⟩ ∧ 0 < us.length) w6 wr)
                (fun v73 _ => ul - (intOf v73).toNat)
              case atStart => exact ⟨0, rfl, Nat.zero_le _, by simpa using hZ6, Upto.refl _ _⟩
              case round =>
                obtain ⟨i, rfl, hij, hZr, hU7⟩ := hrel
                have him : (i : Int) ≤ 1000 := by have := HUS.out; have := HUL.out.1; omega
                by_cases hil : i < ul
                · have hil2 : i < us.length := by have := HUS.out; omega
                  have hul : i < ((us.take i).map (renT (ixIn o)) ++ us.drop i).length := by simp; omega
                  obtain ⟨g, cs, rfl, hgl, hgf, hgn, hgc, hgr⟩ := hZr i hul
                  have hget : ((us.take i).map (renT (ixIn o)) ++ us.drop i)[i] = us[i] := by
                    rw [List.getElem_append_right (by simp; omega)]
                    simp only [List.length_map, List.length_take, List.getElem_drop]
                    congr 1
                    omega
                  have hset : ((us.take i).map (renT (ixIn o)) ++ us.drop i).set i (renT (ixIn o) us[i]) = (us.take (i + 1)).map (renT (ixIn o)) ++ us.drop (i + 1) := by
                    rw [List.set_append_right _ _ (by simp; omega), List.drop_eq_getElem_cons hil2, List.take_succ_eq_append_getElem hil2]
                    simp only [List.length_map, List.length_take, Nat.min_eq_left (Nat.le_of_lt hil2), Nat.sub_self, List.set_cons_zero, List.map_append, List.map_cons, List.map_nil, List.append_assoc, List.singleton_append]
                  rw [hget] at hgr
                  have hgN := HNN.out g (by omega) rfl
                  have husz := AnyP_size (HWF.out _ (List.getElem_mem hil2))
                  obtain ⟨ek, en, ex, ets, ea, ec, hut, rfl, _, _⟩ := tm_open hgr
                  generalize ets.length = el at *
                  have p0 := hgc 0 _ rfl
                  rw [Nat.add_zero] at p0
                  have p1 := hgc 1 _ rfl
                  have p2 := hgc 2 _ rfl
                  have p3 := hgc 3 _ rfl
                  obtain ⟨w7, hw7⟩ : ∃ w7, w7 = wr.alloc (.cells #[.int .i64 ek, .string (B en), .int .i64 ex, .slice ea el ec] 29) := ⟨_, rfl⟩
                  have hUa : Upto none' wr w7 := by rw [hw7]; exact (Upto.refl none' wr).alloc _
                  have hb7 : Box4 w7 wr.heap.size (.int .i64 ek) (.string (B en)) (.int .i64 ex) (.slice ea el ec) 29 := by rw [hw7]; exact Box4.at_new rfl
                  have hM7 := (hM6.on hU7 (fun e => by have h1 := e.1; cases h1; omega)).on hUa (fun x => x)
                  have RN := renumber_any (ixIn o) N (toKv o) (HLK.out N) us[i] (by omega) w7 _ hM7 ((Rep.weaken (fun _ _ e => e.elim) _ _ hgr).on hUa)
                  have HST := hid hset
                  generalize renT (ixIn o) us[i] = X at *
                  have hib : (i : Int) < (ul : Int) := by omega
                  obtain ⟨P, hPz⟩ : ∃ P, P = wr.heap.size := ⟨_, rfl⟩
                  rw [← hPz] at hb7
                  have HPz := hid hPz
                  have HW7 := hid hw7
                  clear hw7 hPz hset hget hut husz hgr hM7 hgn
                  go_upto_region 22 with fail
                  rw [← HPz.out, ← HW7.out]
                  obtain ⟨b0, b1, b2, b3⟩ := hb7.cells
                  have q0 := hUa.cell p0 (fun x => x)
                  clear p1 p2 p3
                  go_wp2_with fail
                  (with_reducible refine RN.mono ?_)
                  rintro e w8 ⟨k8, i8, n8, a8, l8, c8, rfl, hR8, hU8⟩
                  have hU78 := hUa.and hU8
                  have hZ8 := hZr.kept hU78
                  have v0 := hU78.cell p0 (fun x => x)
                  have v1 := hU78.cell (hgc 1 _ rfl) (fun x => x)
                  have v2 := hU78.cell (hgc 2 _ rfl) (fun x => x)
                  have v3 := hU78.cell (hgc 3 _ rfl) (fun x => x)
                  have f8 := fun o => (hU78.cells.2 g o hgl (fun x => x)).trans (hgf o)
                  have hgl8 : g < w8.heap.size := Nat.lt_of_lt_of_le hgl hU78.size
                  have hnx := RowZ.next (u := X) (d0 := .int .i64 k8) (d1 := .string (B n8)) (d2 := .int .i64 i8) (d3 := .slice a8 l8 c8) hZ8 hul (Rep.weaken (fun b _ e => by have := hUa.size; omega) _ _ hR8) rfl
                  rw [HST.out] at hnx
                  have hUn : Upto (fun b => (some ⟨g, 0, none⟩ : Option Addr) = some ⟨b, 0, none⟩ ∧ 0 < us.length) w6 _ := (hU7.trans hU78 (fun _ _ e => e.elim)).trans hnx.2 (fun b _ e => ⟨by rw [e], by omega⟩)
                  have HNX := hid (And.intro hnx.1 hUn)
                  clear hnx hUn hZ8 hZr hR8 hU8 hU78 b0 b1 b2 b3 q0 RN hb7 hgc hgf p0
                  go_wp2_with fail
                  go_roundw
                  case rel => exact ⟨i + 1, by go_num, by omega, HNX.out.1, HNX.out.2⟩
                  case measure => simp [intOf]; omega
                · have hie : i = us.length := by have := HUS.out; omega
                  rw [hie, List.take_length, List.drop_length, List.append_nil, ← HF.out.2.2] at hZr
                  have hUl : US.length = ul := by rw [HF.out.2.2, List.length_map]; exact HUS.out.symm
                  have HFI := hid (And.intro hZr hUl)
                  clear hZr hUl hie
                  go_wp2_with fail
                  refine bodyPost_ret (v := .tuple #[.slice va j vc, .slice ua ul uc, .int .i64 0]) (by simp [results, Tryz.f40, go_sem]) rfl ?_
                  obtain ⟨hKF, hvc, hln⟩ := HKF.out
                  rw [List.length_map] at hln
                  refine ⟨va, ua, vc, uc, by rw [hln, HFI.out.2, HF.out.1], ⟨by rw [hln]; exact hvc, by rw [HFI.out.2]; have := HUS.out; omega⟩, ?_, HFI.out.1.rep, ?_⟩
                  · exact RepE.weaken (fun _ _ e => e.elim) _ _ _ _ (RepE.keep hU7 (fun b e => by
                      have h1 := HNN.out b e.2 e.1
                      omega) _ _ _ _ hKF)
                  · exact (hUw5.and hUr).trans hU7 (fun b hb e => by have h1 := HUG.out b e.2 e.1; omega)
end Go.Proofs.YtdomloghcpfdjaaGreatDoor
