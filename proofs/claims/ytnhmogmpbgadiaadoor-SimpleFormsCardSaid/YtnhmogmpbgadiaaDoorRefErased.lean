/- The erasure of a type or a kind: the reference's function. -/
import Derived.Test.YtnhmogmpbgadiaaDoorDC
import Derived.Test.YtnhmogmpbgadiaaDoorSmRows2
namespace Go.Proofs.YtnhmogmpbgadiaaDoor
open Go.RowKit Go.LF
/-- What the drawn region reads: the box of the tail's erasure, the term's arguments, the first one of them. -/
abbrev ErS (sb H gb go : Nat) (f : List UInt8) (sv b3 : Value) (k1 : Int) (n1 : List UInt8) (x1 : Int) (v1 : Value) (w' : World) : Prop :=
  w'.cell? ⟨sb, 0, none⟩ = some (.string (B f)) ∧ w'.cell? ⟨sb, 1, none⟩ = some sv ∧ w'.cell? ⟨H, 3, none⟩ = some b3 ∧
  w'.cell? ⟨gb, go, none⟩ = some (.int .i64 k1) ∧ w'.cell? ⟨gb, go + 1, none⟩ = some (.string (B n1)) ∧ w'.cell? ⟨gb, go + 2, none⟩ = some (.int .i64 x1) ∧ w'.cell? ⟨gb, go + 3, none⟩ = some v1
theorem ErS.keep {sb H gb go : Nat} {f : List UInt8} {sv b3 : Value} {k1 : Int} {n1 : List UInt8} {x1 : Int} {v1 : Value} {w w' : World} {S : Nat → Prop} (h : ErS sb H gb go f sv b3 k1 n1 x1 v1 w) (hU : Upto S w w') (h1 : ¬ S sb) (h2 : ¬ S H) (h3 : ¬ S gb) : ErS sb H gb go f sv b3 k1 n1 x1 v1 w' :=
  ⟨hU.cell h.1 h1, hU.cell h.2.1 h1, hU.cell h.2.2.1 h2, hU.cell h.2.2.2.1 h3, hU.cell h.2.2.2.2.1 h3, hU.cell h.2.2.2.2.2.1 h3, hU.cell h.2.2.2.2.2.2 h3⟩
theorem ErS.on {sb H gb go : Nat} {f : List UInt8} {sv b3 : Value} {k1 : Int} {n1 : List UInt8} {x1 : Int} {v1 : Value} {w w' : World} (h : ErS sb H gb go f sv b3 k1 n1 x1 v1 w) (hU : Upto none' w w') : ErS sb H gb go f sv b3 k1 n1 x1 v1 w' := h.keep hU (fun x => x) (fun x => x) (fun x => x)
theorem ErS.setR {sb H gb go : Nat} {f : List UInt8} {sv b3 : Value} {k1 : Int} {n1 : List UInt8} {x1 : Int} {v1 : Value} {w : World} {r : Nat} (h : ErS sb H gb go f sv b3 k1 n1 x1 v1 w) (h1 : sb ≠ r) (h2 : H ≠ r) (h3 : gb ≠ r) (o : Nat) (v : Value) : ErS sb H gb go f sv b3 k1 n1 x1 v1 (w.setCell ⟨r, o, none⟩ v) :=
  h.keep (Upto.set (Upto.refl _ _) o v) h1 h2 h3
set_option maxRecDepth 100000 in
set_option maxHeartbeats 16000000 in
theorem erased_any (t : Tm) : t.size ≤ 100000 → t.Any3 → ∀ (w : World) (cs : List Value), Rep none' w t.dat cs → Calls Tryd.prog 69 #[.agg cs.toArray] w (MakesE t.er w) := by
  induction t using Tm.ind with
  | h k nm i ts ih =>
    intro hsz hany w cs h
    obtain ⟨a, cap, rfl, hcap, hE⟩ := rep_tm.1 h
    obtain ⟨w1, hw1⟩ : ∃ w1, w1 = (w.alloc (.cells #[.int .i64 k, .string (B nm), .int .i64 i, .slice a ts.length cap] 29)).alloc (.cells #[.string (B []), .slice none 0 0] 43) := ⟨_, rfl⟩
    have hU1 : Upto none' w w1 := by rw [hw1]; exact ((Upto.refl none' w).alloc _).alloc _
    have hB1 : Box4 w1 w.heap.size (.int .i64 k) (.string (B nm)) (.int .i64 i) (.slice a ts.length cap) 29 := by rw [hw1]; exact (Box4.at_new rfl).kept ((Upto.refl none' _).alloc _)
    have hS1 : Box2 w1 (w.heap.size + 1) (.string (B [])) (.slice none 0 0) 43 := by rw [hw1]; exact Box2.at_new (by simp)
    have hE1 := hE.on hU1
    have HW1 := hid hw1
    obtain ⟨H, hH⟩ : ∃ H, H = w.heap.size := ⟨_, rfl⟩
    have HH := hid hH
    rw [← hH] at hB1 hS1
    have hal := Tm.any3_args hany
    have HC := hid hcap
    -- a leaf is handed back
    have leaf : ∀ (W : World) (f : List UInt8), Upto none' w W → Box2 W (H + 1) (.string (B [])) (.slice none 0 0) 43 → MakesE (.mk f []) w (.returned (.agg #[.string (B f), .slice none 0 0])) ((W.setCell ⟨H + 1, 0, none⟩ (.string (B f))).setCell ⟨H + 1, 1, none⟩ (.slice none 0 0)) := by
      intro W f hU hb
      exact ⟨f, none, 0, 0, rfl, rep_sm.2 ⟨none, 0, rfl, Nat.le_refl _, by simp only [List.map_nil, RepE]⟩, hU.trans (hb.set (d0 := .string (B f)) (d1 := .slice none 0 0)).2 (fun b hb e => by have := HH.out; omega)⟩
    have HLF := hid leaf
    clear hw1 hH h leaf hcap
    obtain ⟨b0, b1, b2, b3⟩ := hB1.cells
    obtain ⟨z0, z1⟩ := hS1.frozens
    obtain ⟨y0, y1⟩ := hS1.cells
    by_cases hk2 : k = 2
    case neg =>
      by_cases hk1 : k = 1
      · subst hk1
        have her : (Tm.mk 1 nm i ts).er = .mk [116, 121, 112, 101] [] := by rw [Tm.er_mk]; simp
        rw [her]
        have hset := hS1.set (d0 := .string (B [116, 121, 112, 101])) (d1 := .slice none 0 0)
        obtain ⟨e0, e1⟩ := hset.1.cells
        have HE := hid (And.intro e0 e1)
        clear e0 e1 hset her
        go_enter Tryd.func69, Tryd.ntmps69
        go_upto_region 1 with fail
        rw [← show B [] = { data := #[] } from rfl, ← HW1.out, ← HH.out]
        go_wp2_with fail
        obtain ⟨e0, e1⟩ := HE.out
        refine bodyPost_ret (v := .agg #[.string (B [116, 121, 112, 101]), .slice none 0 0]) ?_ rfl ?_
        · simp [results, Tryd.f69, go_sem, e0, e1]
        · exact HLF.out w1 _ hU1 hS1
      · have her : (Tm.mk k nm i ts).er = .mk nm [] := by rw [Tm.er_mk]; simp [hk1, hk2]
        have t1 : (k == 1) = false := by simpa using hk1
        have t2 : (k == 2) = false := by simpa using hk2
        rw [her]
        have hset := hS1.set (d0 := .string (B nm)) (d1 := .slice none 0 0)
        obtain ⟨e0, e1⟩ := hset.1.cells
        have HE := hid (And.intro e0 e1)
        clear e0 e1 hset her hk1 hk2
        go_enter Tryd.func69, Tryd.ntmps69
        go_upto_region 1 with fail
        rw [← show B [] = { data := #[] } from rfl, ← HW1.out, ← HH.out]
        go_wp2_with fail
        obtain ⟨e0, e1⟩ := HE.out
        refine bodyPost_ret (v := .agg #[.string (B nm), .slice none 0 0]) ?_ rfl ?_
        · simp [results, Tryd.f69, go_sem, e0, e1]
        · exact HLF.out w1 _ hU1 hS1
    subst hk2
    obtain ⟨x, y, rfl⟩ : ∃ x y, ts = [x, y] := by
      match ts, hal.2.2.2 rfl with
      | [x, y], _ => exact ⟨x, y, rfl⟩
    have her : (Tm.mk 2 nm i [x, y]).er = .mk y.er.fam (x.er :: y.er.args) := by rw [Tm.er_mk, if_pos (by decide), Tm.erA_two]
    rw [her]
    obtain ⟨gb, go', k1, n1, x1, s1, c1, rfl, hgl, hgO, g0, g1, g2, g3, hR1⟩ := arg_tm hE1 0 (by simp)
    have hgb : gb < H := by
      obtain ⟨b', o', _, _, _, _, _, e, hb', _⟩ := arg_tm hE 0 (by simp)
      cases e
      rw [HH.out]; exact hb'
    obtain ⟨gb', go2, k2, n2, x2, s2, c2, ega, hgl2, hgO2, p0, p1, p2, p3, hR2⟩ := arg_tm hE1 1 (by simp)
    simp only [Option.some.injEq, Addr.mk.injEq, and_true] at ega
    obtain ⟨rfl, rfl⟩ := ega
    simp only [List.getElem_cons_zero, List.getElem_cons_succ, Nat.zero_mul, Nat.one_mul, Nat.add_zero] at g0 g1 g2 g3 hR1 p0 p1 p2 p3 hR2
    obtain ⟨us, rfl, hul, hc1, hE1'⟩ := tm_tie hR1
    obtain ⟨us2, rfl, hul2, hc2, hE2'⟩ := tm_tie hR2
    simp only [Tm.args_mk] at g3 p3 hR1 hR2
    simp only [Tm.size_mk, Tm.sizes] at hsz
    have IH1 := fun W (hW : Upto none' w1 W) => ih (.mk k1 n1 x1 us) (by simp) (by simp; omega) (hal.1 _ (by simp)) W _ (hR1.on hW)
    have IH2 := fun W (hW : Upto none' w1 W) => ih (.mk k2 n2 x2 us2) (by simp) (by simp; omega) (hal.1 _ (by simp)) W _ (hR2.on hW)
    have hz1 : (Tm.mk k1 n1 x1 us).er.size ≤ 100000 := by have := (Tm.er_size (.mk k1 n1 x1 us)).1; simp at this; omega
    have hz2 : (Tm.mk k2 n2 x2 us2).er.args.length ≤ 100000 := by have := (Tm.er_size (.mk k2 n2 x2 us2)).2; have h2 := Sm.length_le_sizes (Tm.mk k2 n2 x2 us2).er.args; simp at this; omega
    generalize (Tm.mk k1 n1 x1 us).er = e1 at *
    generalize (Tm.mk k2 n2 x2 us2).er = e2 at *
    have HGX := hid (And.intro hgl hz2)
    clear hE hal ih hany hE1 hE1' hE2' hR1 hR2 her hgO hgO2 hgl2 hul hul2 hc1 hc2 hsz hz1 hz2
    simp only [List.length_cons, List.length_nil, Nat.zero_add, Nat.reduceAdd] at b3 hB1
    go_enter Tryd.func69, Tryd.ntmps69
    go_upto_region 1 with fail
    rw [← show B [] = { data := #[] } from rfl]
    simp only [List.length_cons, List.length_nil, Nat.zero_add, Nat.reduceAdd] at HW1
    rw [← HW1.out, ← HH.out]
    have q1 := hgl
    go_wp2_with fail
    refine (IH2 w1 (Upto.refl none' w1)).mono ?_
    rintro e w2 ⟨f2, sa, sl, sc, rfl, hR2, hU2⟩
    obtain ⟨w3, hw3⟩ : ∃ w3, w3 = w2.alloc (.cells #[.string (B f2), .slice sa sl sc] 43) := ⟨_, rfl⟩
    have hUa : Upto none' w2 w3 := by rw [hw3]; exact (Upto.refl none' w2).alloc _
    have hU13 := hU2.and hUa
    have hs3 : Box2 w3 w2.heap.size (.string (B f2)) (.slice sa sl sc) 43 := by rw [hw3]; exact Box2.at_new rfl
    have hR3 := hR2.on hUa
    obtain ⟨f2', ss, sa', sc', he2, ecs, hsc, hE3⟩ := sm_open hR3
    simp only [List.cons.injEq, Value.string.injEq, Value.slice.injEq, and_true] at ecs
    obtain ⟨ef, rfl, rfl, rfl⟩ := ecs
    obtain rfl : f2 = f2' := by have := congrArg (fun b : ByteArray => b.data.toList) ef; simpa using this
    have HE2 := hid he2
    have hssl : ss.length ≤ 100000 := by have := HGX.out.2; rw [he2] at this; simpa using this
    obtain ⟨SB, hSB⟩ : ∃ SB, SB = w2.heap.size := ⟨_, rfl⟩
    rw [← hSB] at hs3
    have hSBz : w1.heap.size ≤ SB := by rw [hSB]; exact hU2.size
    have HSB := hid hSB
    have HW3 := hid hw3
    have hres3 := hS1.kept hU13
    have S3 : ErS SB H gb go' f2 (.slice sa ss.length sc) (.slice (some ⟨gb, go', none⟩) 2 cap) k1 n1 x1 (.slice s1 us.length c1) w3 := ⟨hs3.cells.1, hs3.cells.2, (hB1.kept hU13).cells.2.2.2, hU13.cell g0 (fun x => x), hU13.cell g1 (fun x => x), hU13.cell g2 (fun x => x), hU13.cell g3 (fun x => x)⟩
    have hU3 := hU1.and hU13
    have HS := hid hs3
    clear hw3 hSB hUa hR2 hU2 he2 ef hR3 b0 b1 b2 b3 z0 z1 y0 y1 g0 g1 g2 g3 p0 p1 p2 p3 hB1 hs3 IH2
    go_upto_region 6 with fail
    rw [← HSB.out, ← HW3.out]
    have hd : Upto none' w3 w3.drew := (Upto.refl none' w3).drew
    have Sd := S3.on hd
    have hzd : w3.heap.size ≤ w3.drew.heap.size := hd.size
    have hSBl := HS.out.lt
    have hS1lt := hS1.lt
    have hHW : H + 1 < w1.heap.size := by omega
    have hE3' := RepE.fresh' _ _ _ _ hE3
    have n1' : SB ≠ H + 1 := by have := hres3.lt; have := hS1lt; omega
    have n2' : H ≠ H + 1 := by omega
    have n3' : gb ≠ H + 1 := by omega
    go_region_held3 (fun w' => ErS SB H gb go' f2 (.slice sa ss.length sc) (.slice (some ⟨gb, go', none⟩) 2 cap) k1 n1 x1 (.slice s1 us.length c1) w')
      (first | (with_reducible assumption) | (with_reducible exact Sd) | (with_reducible exact ErS.setR (ErS.setR S8 n1' n2' n3' 0 _) n1' n2' n3' 1 _))
      (first
        | ((refine step_append_sms (by rfl) _ _ (by rfl) (by rfl) hrow6 sa ss.length sc ss (by rfl) rfl hE6 (by simp; omega) (by rw [World.size_alloc]; omega) ?_; intro v8 w8 css8 hS8 hg8 hat8; have hgo := grown_own hg8; have S8 := S6a.keep hgo (by simp [Value.ownBlock]; omega) (by simp [Value.ownBlock]; omega) (by simp [Value.ownBlock]; omega); have hr8 := (hr6.kept hal6).keep hgo (by simp [Value.ownBlock]; omega); obtain ⟨r0, r1⟩ := hr8.cells; obtain ⟨r2, r3⟩ := hr8.frozens; obtain ⟨fa, fc, e8, hfc, hF⟩ := hS8.rep; subst e8; have HG8 := hid (And.intro hg8 hat8); clear hg8 hat8))
        | ((go_at_call 69); (with_reducible refine (IH1 _ (hU13.and hd)).mono ?_); rintro e w6 ⟨f1', a1, len1, cap1, rfl, hR6, hU6⟩; have S6 := Sd.on hU6; have hal6 := (Upto.refl none' w6).alloc (.cells #[.string (B f1'), .slice a1 len1 cap1] 43); have S6a := S6.on hal6; have hz6 : w3.heap.size ≤ w6.heap.size := (Nat.le_trans hzd hU6.size); have hrow6 := RowS2.one (O := fun b => b ≤ H + 1) (Rep.weaken (fun b _ e => (by omega)) _ _ hR6); have hE6 : RepE (fun b => b ≤ H + 1 ∨ w6.heap.size ≤ b) (w6.alloc (.cells #[.string (B f1'), .slice a1 len1 cap1] 43)) 2 (ss.map Sm.dat) sa 0 := (RepE.weaken (fun b _ e => (by omega)) _ _ _ _ (((hE3'.on hd).on hU6).on hal6)); have hr6 := (hres3.kept hd).kept hU6; have hr6l := hr6.lt))
    all_goals
      have hset := hr8.set (d0 := .string (B f2)) (d1 := .slice fa ([e1] ++ ss).length fc)
      obtain ⟨e00, e11⟩ := hset.1.cells
      have HE := hid (And.intro e00 (And.intro e11 hset.2))
      clear e00 e11 hset
      go_wp2_with fail
      obtain ⟨e00, e11, hset⟩ := HE.out
      have hl1 : ([e1] ++ ss).length = ss.length + 1 := by simp
      rw [hl1] at e00 e11 hset hfc
      have hF9 := RepE.keep hset (fun b e => .inl ⟨by show b ≤ H + 1; omega, by omega⟩) _ _ _ _ hF
      have hF0 : RepE (fun b => b < w.heap.size) _ 2 ((e1 :: ss).map Sm.dat) fa 0 := RepE.weaken (fun b _ e => (by have := HH.out; left; exact ⟨by omega, by omega⟩)) _ _ _ _ hF9
      refine bodyPost_ret (v := .agg #[.string (B f2), .slice fa (ss.length + 1) fc]) ?_ rfl ?_
      · simp [results, Tryd.f69, go_sem, e00, e11]
      · rw [HE2.out]
        refine ⟨f2, fa, ss.length + 1, fc, rfl, rep_sm.2 ⟨fa, fc, rfl, hfc, hF0⟩, ?_⟩
        exact (((hU3.and (hd.and hU6)).and hal6).trans (grown_own HG8.out.1) (fun b hb e => by simp [Value.ownBlock] at e; have := HH.out; omega)).trans hset (fun b hb e => by have := HH.out; omega)
end Go.Proofs.YtnhmogmpbgadiaaDoor
