/- SubstShaped: the contract of `shaped`. -/
import Derived.Test.YtadphaobbpngkaaShpdP
import Derived.Test.YtadphaobbpngkaaCF
import Derived.Test.YtadphaobbpngkaaCH
import Derived.Test.YtadphaobbpngkaaCL
import Derived.Deep.RegionHeld3
import Derived.Deep.RegionLaw
import Derived.Deep.CutRange
import Derived.Deep.CutBlock
namespace Go.Proofs.Ytadphaobbpngkaa
open Go.RowKit Go.LF
/-- A call hands back a made object: all of it in new blocks. -/
def ShdC (base n : Nat) (Γ aa : List Sm) (H : Nat) (w : World) (e : Ending) (w' : World) : Prop :=
  ∃ (k i : Int) (nm : List UInt8) (a : Option Addr) (len cap : Nat) (t : Tm), e = .returned (.agg #[.int .i64 k, .string (B nm), .int .i64 i, .slice a len cap]) ∧ Rep (fun b => b < base) w' t.dat [.int .i64 k, .string (B nm), .int .i64 i, .slice a len cap] ∧ Tm.Shd n Γ aa t ∧ TapeOk w' H ∧ Upto (isT H) w w'
/-- The simple types that are met: not wide. -/
def Nar (s : Sm) : Prop := s.size ≤ 15
theorem Nar.len {s : Sm} (h : Nar s) : s.args.length ≤ 14 := by
  cases s with
  | mk f l =>
    have h1 : (Sm.mk f l).size ≤ 15 := h
    rw [Sm.size_mk] at h1
    have : l.length ≤ Sm.sizes l := by
      clear h h1
      induction l with
      | nil => simp
      | cons t l ih => simp only [Sm.sizes, List.length_cons]; cases t with | mk g k => rw [Sm.size_mk]; omega
    show l.length ≤ 14
    omega
theorem Nar.arg {s : Sm} (h : Nar s) : ∀ t ∈ s.args, Nar t := by
  cases s with
  | mk f l =>
    have h1 : (Sm.mk f l).size ≤ 15 := h
    rw [Sm.size_mk] at h1
    intro t ht
    have : t.size ≤ Sm.sizes l := by
      have ht' : t ∈ l := ht
      clear h h1 ht
      induction l with
      | nil => simp at ht'
      | cons u l ih =>
        simp only [Sm.sizes]
        rcases List.mem_cons.1 ht' with rfl | h
        · omega
        · have := ih h; omega
    show t.size ≤ 15
    omega
theorem sm_row {O : Nat → Prop} {W : World} {s : Sm} {f : List UInt8} {a : Option Addr} {n c : Nat} (h : Rep O W s.dat [.string (B f), .slice a n c]) : RepE O W 2 (s.args.map Sm.dat) a 0 := by
  obtain ⟨f', l, a', cap, rfl, e, hc, hE⟩ := sm_open h
  simp only [List.cons.injEq, Value.slice.injEq] at e
  rw [e.2.1.1]
  exact hE
/-- The arguments of a variable, so far. -/
def ShA (n : Nat) (C l : List Sm) (D : Sm) (us : List Tm) : Prop := ∀ i (_ : i < us.length) (_ : i < D.args.length), ∃ m, n = m + 1 ∧ Tm.Shd m (C ++ l).reverse D.args[i].args us[i]
theorem ShA.add {n m : Nat} {C l : List Sm} {D : Sm} {us : List Tm} {t : Tm} (h : ShA n C l D us) (hn : n = m + 1) (hl : us.length < D.args.length) (ht : Tm.Shd m (C ++ l).reverse D.args[us.length].args t) : ShA n C l D (us ++ [t]) := by
  intro i h1 h2
  by_cases hi : i < us.length
  · rw [List.getElem_append_left hi]
    exact h i hi h2
  · obtain rfl : i = us.length := by simp at h1; omega
    rw [List.getElem_append_right (Nat.le_refl _)]
    simp only [Nat.sub_self, List.getElem_cons_zero]
    exact ⟨m, hn, ht⟩
/-- The variable with all of its arguments. -/
theorem ShA.all {n : Nat} {C l : List Sm} {D : Sm} {us : List Tm} {c ix : Nat} (h : ShA n C l D us) (hc : c < (C ++ l).length) (hix : ix = (C ++ l).length - 1 - c) (hi : ix < (C ++ l).length) (hD : D = (C ++ l)[ix]) (hl : us.length = D.args.length) (hl14 : us.length ≤ 14) (ha : l.length ≤ 14) :
    Tm.Shd n C.reverse l (Tm.lams l.length (.mk 5 [] c us)) := by
  subst hix
  subst hD
  by_cases h0 : us.length = 0
  · obtain rfl := List.eq_nil_of_length_eq_zero h0
    exact Tm.shd_var0 n C l c hc ha (List.eq_nil_of_length_eq_zero (by rw [← hl]; rfl))
  · obtain ⟨m, rfl, -⟩ := h 0 (by omega) (by omega)
    refine Tm.shd_var m C l c hc us ha hl hl14 (fun j h1 h2 => ?_) (fun t ht => ?_)
    · obtain ⟨m', e, h3⟩ := h j h1 h2
      obtain rfl : m' = m := by omega
      exact h3.shp
    · obtain ⟨j, h1, rfl⟩ := List.getElem_of_mem ht
      obtain ⟨m', e, h3⟩ := h j h1 (by omega)
      obtain rfl : m' = m := by omega
      exact h3.wt
/-- As relay, where more is left alone. -/
theorem relayG {O : Nat → Prop} {W : World} {b : Nat} {t : Tm} {t0 t1 t2 t3 : Value} {T : TypeId} (hB : Box4 W b t0 t1 t2 t3 T) (hOb : O b) (hO : ∀ x, O x → x < W.heap.size) (hR : Rep O W t.dat [t0, t1, t2, t3]) (k : Int) (n : List UInt8) (i : Int) {W' : World}
    (hW : W' = ((((W.setCell ⟨b, 0, none⟩ (.int .i64 k)).setCell ⟨b, 1, none⟩ (.string (B n))).setCell ⟨b, 2, none⟩ (.int .i64 i)).setCell ⟨b, 3, none⟩ (.slice (some ⟨W.heap.size, 0, none⟩) 1 1)).alloc (.cells #[t0, t1, t2, t3] T)) :
    Box4 W' b (.int .i64 k) (.string (B n)) (.int .i64 i) (.slice (some ⟨W.heap.size, 0, none⟩) 1 1) T ∧ Rep O W' (Tm.mk k n i [t]).dat [.int .i64 k, .string (B n), .int .i64 i, .slice (some ⟨W.heap.size, 0, none⟩) 1 1] ∧ Upto (fun x => x = b) W W' := by
  subst hW
  have hs := hB.set (d0 := .int .i64 k) (d1 := .string (B n)) (d2 := .int .i64 i) (d3 := .slice (some ⟨W.heap.size, 0, none⟩) 1 1)
  have hU := hs.2.alloc (.cells #[t0, t1, t2, t3] T)
  exact ⟨hs.1.kept ((Upto.refl none' _).alloc _), rep_one (Rep.keep hU (fun _ e => by rw [e]; exact hOb) _ _ hR) (fun h => Nat.lt_irrefl _ (hO _ h)) (Box4.at_new (by simp)) k n i, hU⟩
set_option maxRecDepth 100000 in
set_option maxHeartbeats 16000000 in
theorem shaped_step (n : Nat) (C : List Sm) (s : Sm) (hC : C.length + 14 * n ≤ 200) (hCn : ∀ x ∈ C, Nar x) (hs : Nar s) (deep : Int) (hdn : deep ≤ n) (hdl : -100 ≤ deep) (hd1 : n ≤ 20) (H : Nat)
    (ih : ∀ m, n = m + 1 → ∀ (C' : List Sm) (s' : Sm) (deep' : Int) (w : World) (cs : List Value) (ca : Option Addr) (cc : Nat), C'.length + 14 * m ≤ 200 → (∀ x ∈ C', Nar x) → Nar s' → deep' ≤ m → -100 ≤ deep' → TapeOk w H → Rep (isT H) w s'.dat cs → RepE (isT H) w 2 (C'.map Sm.dat) ca 0 →
      Calls Try.prog 14 #[.pointer (some ⟨H, 0, none⟩), .agg cs.toArray, .slice ca C'.length cc, .int .i64 deep'] w (ShdC w.heap.size m C'.reverse s'.args H w))
    (w : World) (cs : List Value) (ca : Option Addr) (cc : Nat) (hT : TapeOk w H) (hS : Rep (isT H) w s.dat cs) (hE : RepE (isT H) w 2 (C.map Sm.dat) ca 0) :
    Calls Try.prog 14 #[.pointer (some ⟨H, 0, none⟩), .agg cs.toArray, .slice ca C.length cc, .int .i64 deep] w (ShdC w.heap.size n C.reverse s.args H w) := by
  obtain ⟨f, l, a, cap, rfl, rfl, hcap, hA⟩ := sm_open hS
  have NX := fun (n : Int) h0 h1 w hT => next_any n h0 h1 H w hT
  have hTl := hT.lt
  obtain ⟨w1, hw1⟩ : ∃ w1, w1 = (w.alloc (.cells #[.string (B f), .slice a l.length cap] 29)).alloc (.cells #[.int .i64 0, .string (B []), .int .i64 0, .slice none 0 0] 32) := ⟨_, rfl⟩
  have hU1 : Upto none' w w1 := by rw [hw1]; exact ((Upto.refl none' w).alloc _).alloc _
  have hB1 : Box2 w1 w.heap.size (.string (B f)) (.slice a l.length cap) 29 := by rw [hw1]; exact (Box2.at_new rfl).kept ((Upto.refl none' _).alloc _)
  have hr1 : Box4 w1 (w.heap.size + 1) (.int .i64 0) (.string (B [])) (.int .i64 0) (.slice none 0 0) 32 := by rw [hw1]; exact Box4.at_new (by simp)
  have HW := hid hw1
  clear hw1
  have hA1 : RepE (fun b => isT H b ∨ w.heap.size ≤ b) w1 2 (l.map Sm.dat) a 0 := (RepE.fresh' _ _ _ _ hA).on hU1
  have hE1 : RepE (fun b => isT H b ∨ w.heap.size ≤ b) w1 2 (C.map Sm.dat) ca 0 := (RepE.fresh' _ _ _ _ hE).on hU1
  have hS1 : RowS2 (isT H) w.heap.size w1 (.slice none 0 0) [] [] := ⟨rfl, by simp, World.ownsRow_nil _ _ _ _, fun i h => by simp at h⟩
  have hz1 : w.heap.size + 2 ≤ w1.heap.size := by have := hr1.lt; omega
  have hlw := hs.len
  have hll : l.length ≤ 14 := hlw
  obtain ⟨ll, hll'⟩ : ∃ x, x = l.length := ⟨_, rfl⟩
  obtain ⟨cl, hcl'⟩ : ∃ x, x = C.length := ⟨_, rfl⟩
  have hl6 : cl + ll ≤ 900000 := by omega
  have HWL : Hid (C.length + l.length ≤ 900000) := hid (by omega)
  rw [← hll'] at hB1
  rw [← hll', ← hcl']
  have HL := hid (And.intro hll' hcl')
  clear hlw
  rw [← HL.out.1] at HW
  clear hll' hcl'
  obtain ⟨b0, b1⟩ := hB1.cells
  have S1d : w1.drew.cell? ⟨w.heap.size, 1, none⟩ = some (.slice a ll cap) := (Upto.refl none' w1).drew.cell b1 (fun x => x)
  have hd : Upto none' w1 w1.drew := (Upto.refl none' w1).drew
  obtain ⟨cl2, hcl2⟩ : ∃ x, x = ([] ++ C ++ l).length := ⟨_, rfl⟩
  have HCL := hid hcl2
  have HC2 : Hid (cl2 = C.length + l.length) := hid (by rw [hcl2]; simp)
  have hcl3 : cl2 ≤ 214 := by have := HC2.out; omega
  clear hcl2
  go_enter Try.func14, Try.ntmps14
  go_upto_region 1 with fail
  rw [← show B [] = { data := #[] } from rfl]
  rw [← HW.out]
  go_region_held3 (fun w' => w'.cell? ⟨w.heap.size, 1, none⟩ = some (.slice a ll cap))
    (first | (with_reducible assumption) | (with_reducible exact S1d))
    (first
      | ((refine step_append_sms (by rfl) _ _ (by rfl) (by rfl) hS2 a ll cap l (by rfl) HL.out.1 (hA1.on hU2) (by simpa using HWL.out) (by have := hU2.size; omega) ?_; intro v3 w3 css3 hS3 hg3 hat3; have hU3 := grown_own hg3; have hne2 : ∀ x, x < w1.heap.size → ¬ v2.ownBlock = some x := (fun x hx e => (own_apart hat2 x hx e)); have S3 := hU3.cell S2 (hne2 w.heap.size (by omega)); obtain ⟨fa, fc, e3, hfc, hF⟩ := hS3.rep; rw [← HCL.out] at e3 hfc; subst e3; have HN := hid (And.intro hat2 (And.intro hat3 hne2)); clear hat2 hat3 hne2; have HG := hid (And.intro hg2 hg3); clear hg2 hg3))
      | ((refine step_append_sms (by rfl) _ _ (by rfl) (by rfl) (hS1.on hd) ca cl cc C (by rfl) HL.out.2 (hE1.on hd) (by simp; have := HWL.out; omega) (by have := hd.size; omega) ?_; intro v2 w2 css2 hS2 hg2 hat2; have hU2 : Upto none' w1 w2 := hd.and (grown_upto hg2); have S2 := (grown_upto hg2).cell S1d (fun x => x))))
  have hF3 : RepE (isT H) w3 2 ((C ++ l).map Sm.dat) fa 0 := by
    have hF' := hF
    simp only [List.nil_append] at hF'
    exact RepE.weaken (fun b _ e => Or.inl ⟨e, by simp only [isT] at e; omega⟩) _ _ _ _ hF'
  have hU13 : Upto none' w1 w3 := hU2.trans hU3 (fun x hx e => (HN.out.2.2 x (by omega) e).elim)
  go_upto_region 3 with fail
  obtain ⟨w4, hw4⟩ : ∃ w4, w4 = w3.alloc (.cells #[.int .i64 4, .string (B [99]), .int .i64 0, .slice none 0 0] 32) := ⟨_, rfl⟩
  have hU34 : Upto none' w3 w4 := by rw [hw4]; exact (Upto.refl none' _).alloc _
  have ho4 : Box4 w4 w3.heap.size (.int .i64 4) (.string (B [99])) (.int .i64 0) (.slice none 0 0) 32 := by rw [hw4]; exact Box4.at_new rfl
  have hUw4 := (hU1.and hU13).and hU34
  have hB4 := hB1.kept (hU13.and hU34)
  have hr4 := hr1.kept (hU13.and hU34)
  have hF4 : RepE (fun b => isT H b ∨ w3.heap.size ≤ b) w4 2 ((C ++ l).map Sm.dat) fa 0 := (RepE.fresh' _ _ _ _ hF3).on hU34
  have hT4 := hT.on hUw4
  have hz4 : w.heap.size + 2 ≤ w3.heap.size := by have := hU13.size; omega
  obtain ⟨P, hP⟩ : ∃ P, P = w3.heap.size := ⟨_, rfl⟩
  rw [← hP] at ho4 hz4 hF4
  have HP := hid hP
  have HW4 := hid hw4
  clear hw4 hP hU34 hU13 hF3 hF hS3 hU2 hU3 S2 S3 S1d hd b0 b1 hS1 hE1 hA1 hU1 hB1 hr1 hz1 hT hS2
  rw [← show B [99] = { data := #[99] } from rfl, ← HW4.out, ← HP.out]
  go_cut [28] from 21 to 28 (fun v28 wx => ∃ b : Bool, v28 = .bool b ∧ (b = true → 0 < cl2) ∧ TapeOk wx H ∧ Upto (isT H) w4 wx)
  case first =>
    have hc : ¬ (0 : Int) < (cl2 : Int) ∨ 0 < (cl2 : Int) := by omega
    rcases hc with hc | hc
    · go_wp2_with fail
      go_meet
      case rel => exact ⟨false, rfl, (fun e => by cases e), hT4, Upto.refl _ _⟩
    · go_wp2_with fail
      refine (NX _ (by omega) (by omega) _ hT4).mono ?_
      rintro e wx ⟨⟨c, hc4, rfl⟩, hTx, hUx⟩
      go_wp2_with fail
      go_meet
      case rel => exact ⟨_, rfl, (fun _ => by omega), hTx, hUx⟩
  case rest =>
    obtain ⟨b, rfl, hb, hT5, hU5⟩ := hcut
    obtain ⟨w5, rfl⟩ : ∃ x, x = wc := ⟨wc, rfl⟩
    go_upto_if 28 with fail
    go_cut [] from 29 to 78 (fun wc => ∃ (t0 t1 t2 t3 : Value) (t : Tm), Box4 wc P t0 t1 t2 t3 32 ∧ Rep (fun x => x = P ∨ x < w.heap.size + 2) wc t.dat [t0, t1, t2, t3] ∧ Tm.Shd n C.reverse l (Tm.lams l.length t) ∧ TapeOk wc H ∧ Upto (fun x => isT H x ∨ x = P) w5 wc)
    case first =>
      have hF5 := RepE.keep hU5 (fun _ e => .inl e) _ _ _ _ hF4
      have ho5 := ho4.keep hU5 (by simp only [isT]; omega)
      have hPT : P ≠ H := by omega
      cases b
      case false =>
        go_wp2_with fail
        go_meet
        case rel => exact ⟨_, _, _, _, .mk 4 [99] 0 [], ho5, rep_leaf 4 [99] 0, Tm.shd_const n _ l hll, hT5, Upto.refl _ _⟩
      case true =>
        have hcl := hb rfl
        clear hb
        have hN1 : 0 < (cl2 : Int) := by omega
        go_wp2_with fail
        refine (NX _ (by omega) (by omega) _ hT5).mono ?_
        rintro e w6 ⟨⟨c, hc, rfl⟩, hT6, hU6⟩
        have hF6 := RepE.keep hU6 (fun _ e => .inl e) _ _ _ _ hF5
        have ho6 := ho5.keep hU6 hPT
        have hcN : c < cl2 := by omega
        obtain ⟨ix, hix⟩ : ∃ ix : Nat, (cl2 : Int) - 1 - (c : Int) = (ix : Int) := ⟨cl2 - 1 - c, by omega⟩
        have hixN : ix < (C ++ l).length := by have := HC2.out; simp; omega
        obtain ⟨sb, so, sn, st, stc, e7, hsbl, hsbO, s0, s1, hRs⟩ := arg_sm hF6 ix hixN
        subst e7
        obtain ⟨D, hD⟩ : ∃ D, D = (C ++ l)[ix] := ⟨_, rfl⟩
        rw [← hD] at s1 hRs
        have hDn : Nar D := by
          have hm : D ∈ C ++ l := by rw [hD]; exact List.getElem_mem _
          rcases List.mem_append.1 hm with h | h
          · exact hCn _ h
          · exact hs.arg _ h
        have hDl := hDn.len
        obtain ⟨dl, hdl'⟩ : ∃ x, x = D.args.length := ⟨_, rfl⟩
        rw [← hdl'] at s1 hRs hDl
        have HDL := hid hdl'
        have HDD := hid hD
        have HIX := hid hix
        have hz6 := hU6.size
        clear hdl' hD
        go_upto_region 5 with fail
        go_cut [47] from 33 to 47 (fun v47 wx => ∃ bb : Bool, v47 = .bool bb ∧ (bb = true → 0 < deep ∨ dl = 0) ∧ w6 = wx)
        case first =>
          by_cases hd0 : 0 < deep
          · go_wp2_with fail
            go_meet
            case rel => exact ⟨true, rfl, (fun _ => .inl hd0), rfl⟩
          · go_wp2_with fail
            go_meet
            case rel => exact ⟨_, rfl, (fun e => .inr (by simpa using e)), rfl⟩
        case rest =>
          obtain ⟨bb, rfl, hbb, rfl⟩ := hcut
          cases bb
          case false =>
            go_wp2_with fail
            go_meet
            case rel => exact ⟨_, _, _, _, .mk 4 [99] 0 [], ho6, rep_leaf 4 [99] 0, Tm.shd_const n _ l hll, hT6, hU6.mono (fun _ _ e => .inl e)⟩
          case true =>
            have hx := hbb rfl
            clear hbb
            have hsbP : sb < P ∧ sb ≠ H := by
              simp only [isT] at hsbO
              omega
            have hED := sm_row hRs
            have hU6' : Upto (fun x => isT H x ∨ x = P) w5 w6 := hU6.mono (fun _ _ e => .inl e)
            have hd20 : deep ≤ 20 := by omega
            have HDW := hid (show IntKind.i64.wrap (deep - 1) = deep - 1 from Go.IntWalk.i64_in _ (by omega))
            obtain ⟨x0, x1, x2, x3⟩ := ho6.cells
            obtain ⟨z0, z1, z2, z3⟩ := ho6.frozens
            have q6 := ho6.lt
            obtain ⟨w7, hw7⟩ : ∃ w7, w7 = ((((w6.setCell ⟨P, 0, none⟩ (.int .i64 5)).setCell ⟨P, 1, none⟩ (.string (B []))).setCell ⟨P, 2, none⟩ (.int .i64 c)).setCell ⟨P, 3, none⟩ (.slice none 0 0)) := ⟨_, rfl⟩
            have hset := ho6.set (d0 := .int .i64 5) (d1 := .string (B [])) (d2 := .int .i64 c) (d3 := .slice none 0 0)
            rw [← hw7] at hset
            have hT7 := hT6.far hset.2 (fun b e => by omega)
            have hU67 : Upto (fun x => isT H x ∨ x = P) w6 w7 := hset.2.mono (fun _ _ e => .inr e)
            have HW7 := hid hw7
            have hz7 := hset.1.lt
            clear hw7
            go_wp2_with fail
            rw [← show B [] = { data := #[] } from rfl, ← HW7.out]
            obtain ⟨base, hbase⟩ : ∃ base, base = w7.heap.size := ⟨_, rfl⟩
            rw [← hbase] at hz7
            have HBS := hid hbase
            go_loopw [13] (fun v13 wr => ∃ (j : Nat) (v : Value) (us : List Tm) (css : List (List Value)), v13 = .int .i64 (j : Int) ∧ j ≤ dl ∧ us.length = j ∧ Terms base wr v us css ∧ ShA n C l D us ∧
                Box4 wr P (.int .i64 5) (.string (B [])) (.int .i64 (c : Int)) v 32 ∧ TapeOk wr H ∧ Upto (fun x => isT H x ∨ x = P) w6 wr ∧ base ≤ wr.heap.size)
              (fun v13 _ => dl - (intOf v13).toNat)
            case atStart => exact ⟨0, _, [], [], rfl, Nat.zero_le _, rfl, Terms.nil _ _, fun i h => by simp at h, hset.1, hT7, hU67, Nat.le_of_eq hbase⟩
            case round =>
              clear hset hT7 hU67 hbase x0 x1 x2 x3 z0 z1 z2 z3
              obtain ⟨j, v, us, css, rfl, hj, hul, hts, hSA, hout, hTr, hUr, hbr⟩ := hrel
              have u1 : (j : Int) ≤ 14 := by omega
              obtain ⟨b0, b1, b2, b3⟩ := hout.cells
              obtain ⟨f0, f1, f2, f3⟩ := hout.frozens
              by_cases hlt : (j : Int) < (dl : Int)
              · have hjD : j < D.args.length := by have := HDL.out; omega
                obtain ⟨m, hm⟩ : ∃ m, n = m + 1 := ⟨n - 1, by omega⟩
                have hEr := RepE.keep hUr (fun b e => e.imp (fun e => e) (fun e => Nat.le_of_eq e.symm)) _ _ _ _ hED
                have hFr := RepE.keep hUr (fun b e => e.imp (fun e => e) (fun e => Nat.le_of_eq e.symm)) _ _ _ _ hF6
                obtain ⟨eb, eo, en, es, ec, e9, hebl, hebO, y0, y1, hRe⟩ := arg_sm hEr j hjD
                subst e9
                have hd0 : 0 < deep := by omega
                obtain ⟨Dj, hDj⟩ : ∃ Dj, Dj = D.args[j] := ⟨_, rfl⟩
                rw [← hDj] at y1 hRe
                obtain ⟨el, hel⟩ : ∃ el, el = Dj.args.length := ⟨_, rfl⟩
                rw [← hel] at y1 hRe
                have hDjn : Nar Dj := by rw [hDj]; exact hDn.arg _ (List.getElem_mem hjD)
                have IHc : ∀ (x : Int) (W : World), x = deep - 1 → TapeOk W H → Upto none' wr W → Calls Try.prog 14 #[.pointer (some ⟨H, 0, none⟩), .agg #[.string (B en), .slice es el ec], .slice (some ⟨sb, so, none⟩) cl2 fc, .int .i64 x] W (ShdC W.heap.size m (C ++ l).reverse Dj.args H W) := by
                  intro x W hx h1 h2
                  have := ih m hm (C ++ l) Dj x W [.string (B en), .slice es el ec] (some ⟨sb, so, none⟩) fc (by rw [List.length_append]; omega) (fun x hx => (List.mem_append.1 hx).elim (hCn x) (hs.arg x)) hDjn (by omega) (by omega) h1
                    (Rep.weaken (fun b _ e => .inl e) _ _ (hRe.on h2)) (RepE.weaken (fun b _ e => .inl e) _ _ _ _ (hFr.on h2))
                  rwa [show (C ++ l).length = cl2 by rw [HC2.out]; simp] at this
                have HM := hid (And.intro hm hul)
                have HSA := hid hSA
                have HJD := hid (And.intro hDj hjD)
                have hus : us.length ≤ 14 := by omega
                have hd : Upto none' wr wr.drew := (Upto.refl none' wr).drew
                have hTd := hTr.on hd
                obtain ⟨i0, hi, hi0, hi1, hi2⟩ := info_parts info_term
                clear hm hul hSA hel hRe hEr hFr ih NX hDj
                go_wp2_with fail
                go_region_law (first
                  | ((rw [if_pos (by rfl)]); go_simp; (go_at_call 14); refine (IHc _ _ HDW.out hTd hd).mono ?_; rintro e w8 ⟨k1, i1, n1, a1, len1, cap1, t, rfl, hR8, hF8, hT8, hU8⟩; have hU8' : Upto (isT H) wr w8 := Upto.trans ((Upto.refl (isT H) wr).drew) hU8 (fun _ _ x => x); have hout8 := hout.keep hU8' hPT; have q8 := hout8.lt; have c8 := hout8.cells.2.2.2; have z8 := hout8.frozen 3; have hs8 := hU8'.size; have hts8 := hts.keep hU8' (fun b e => (by simp only [isT] at e; omega)))
                  | (refine step_append_lies _ (by rfl) _ _ 30 (by rfl) base 32 i0 (.agg #[.int .i64 0, .string (B []), .int .i64 0, .slice none 0 0]) 4 56 (by kernel_rfl) hi hi0 hi1 hi2 rfl (by decide) v us.length css.flatten (by rfl) ((hts8.on ((Upto.refl none' w8).alloc _)).2.2.1) ⟨w8.heap.size, 0, none⟩ 1 1 [.int .i64 k1, .string (B n1), .int .i64 i1, .slice a1 len1 cap1] (by rfl) rfl (World.news_of_block (heap_alloc_new w8 _)) (by simp [Value.oneCell']) (by omega) (by simp only [maxLen]; omega) (by omega) (by simp; omega) _ rfl ?_; intro g cap' w9 hown hgrow hat hlt9; have hout9 := (hout8.kept ((Upto.refl none' w8).alloc _)).row hgrow (hts8.on ((Upto.refl none' w8).alloc _)) (by omega); have c9 := hout9.cells.2.2.2; have z9 := hout9.frozen 3))
                all_goals
                  have hal8 : Upto none' w8 (w8.alloc (.cells #[.int .i64 k1, .string (B n1), .int .i64 i1, .slice a1 len1 cap1] 32)) := (Upto.refl none' w8).alloc _
                  have hts8' := hts8.on hal8
                  have hR8' : Rep (fun b => b < base ∨ v.ownBlock = some b) (w8.alloc (.cells #[.int .i64 k1, .string (B n1), .int .i64 i1, .slice a1 len1 cap1] 32)) t.dat [.int .i64 k1, .string (B n1), .int .i64 i1, .slice a1 len1 cap1] := by
                    refine (Rep.weaken (fun b _ e => ?_) _ _ hR8).new _
                    rcases e with e | e
                    · exact Nat.lt_of_lt_of_le e hbr
                    · exact (hts.2.2.1.lt b e).2
                  have hT9 := hts8'.appended rfl hR8' hown hgrow hat (Nat.le_refl _)
                  have hset9 : Upto (fun b => b = P) w9 (w9.setCell ⟨P, 3, none⟩ (.slice (some ⟨g, 0, none⟩) (us.length + 1) cap')) := Upto.set (Upto.refl _ _) 3 _
                  have hrow9 := Upto.ofRow (RowUp.grown hts8'.2.2.1 hgrow)
                  have hT9' := ((hT8.on hal8).far hrow9 (fun b e => by omega)).far hset9 (fun b e => by omega)
                  have hw6z : w6.heap.size ≤ base := by have := HBS.out; have := hUr.size; rw [HBS.out, HW7.out]; simp
                  have hw9U : Upto (fun x => isT H x ∨ x = P) w6 (w9.setCell ⟨P, 3, none⟩ (.slice (some ⟨g, 0, none⟩) (us.length + 1) cap')) := ((((hUr.trans hU8' (fun _ _ x => .inl x)).trans hal8 (fun _ _ x => x.elim)).trans hrow9 (fun b hb e => by omega))).trans hset9 (fun b hb e => .inr e)
                  have hsz9 : base ≤ (w9.setCell ⟨P, 3, none⟩ (.slice (some ⟨g, 0, none⟩) (us.length + 1) cap')).heap.size := by have := hset9.size; have := hrow9.size; have := hal8.size; omega
                  have hT9s := hT9.keep hset9 (fun b e => by omega)
                  go_wp2_with fail
                  go_roundw
                  case rel => exact ⟨j + 1, _, us ++ [t], _, by go_num, by omega, by rw [List.length_append, HM.out.2]; rfl, hT9s, HSA.out.add HM.out.1 (by rw [HM.out.2]; exact HJD.out.2) (by have e := HM.out.2; subst e; rw [← HJD.out.1]; exact hF8), hout9.set3 _, hT9', hw9U, hsz9⟩
                  case measure => simp [intOf]; omega
              · have hja : j = dl := by omega
                obtain ⟨a9, cap9, rfl, hcap9, hE9⟩ := hts.rep
                have hRf : Rep (fun x => x = P ∨ x < w.heap.size + 2) wr (Tm.mk 5 [] c us).dat [.int .i64 5, .string (B []), .int .i64 c, .slice a9 us.length cap9] := rep_tm.2 ⟨a9, cap9, rfl, hcap9, RepE.weaken (fun b _ e => by omega) _ _ _ _ hE9⟩
                have hfin : Tm.Shd n C.reverse l (Tm.lams l.length (.mk 5 [] c us)) := hSA.all (by have := HC2.out; rw [List.length_append]; omega) (by have := HC2.out; have := HIX.out; rw [List.length_append]; omega) hixN HDD.out (by have := HDL.out; omega) (by omega) hll
                have HF := hid (And.intro hRf (And.intro hfin hja))
                clear hRf hfin hja hE9 hts hSA hcap9
                go_wp2_with fail
                go_meet
                case rel => exact ⟨_, _, _, _, _, hout, HF.out.1, HF.out.2.1, hTr, hU6'.trans hUr (fun _ _ e => e)⟩
    case rest =>
      obtain ⟨t0, t1, t2, t3, t, hB5, hR5, hS5, hT6, hU6⟩ := hcut
      have hB6 := (hB4.keep hU5 (by simp only [isT]; omega)).keep hU6 (by simp only [isT]; omega)
      have hr6 := (hr4.keep hU5 (by simp only [isT]; omega)).keep hU6 (by simp only [isT]; omega)
      have hUw6 : Upto (isT H) w wc := (((Upto.refl (isT H) w).trans hUw4 (fun _ _ e => e.elim)).trans hU5 (fun _ _ e => e)).trans hU6 (fun x hx e => e.elim (fun e => e) (fun e => by omega))
      go_wp2_with fail
      have hzw := hU6.size
      go_loopw [14] (fun v14 wr => ∃ (j : Nat) (t0 t1 t2 t3 : Value), v14 = .int .i64 (j : Int) ∧ j ≤ ll ∧ Box4 wr P t0 t1 t2 t3 32 ∧ Rep (fun x => x = P ∨ x < w.heap.size + 2) wr (Tm.lams j t).dat [t0, t1, t2, t3] ∧ Upto (fun x => x = P) wc wr)
        (fun v14 _ => 200 - (intOf v14).toNat)
      case atStart => exact ⟨0, _, _, _, _, rfl, by omega, hB5, hR5, Upto.refl _ _⟩
      case round =>
        obtain ⟨j, s0, s1, s2, s3, rfl, hj, hBj, hRj, hUj⟩ := hrel
        have hBs := hB6.keep hUj (by omega)
        obtain ⟨x0, x1, x2, x3⟩ := hBj.cells
        obtain ⟨f0, f1, f2, f3⟩ := hBj.frozens
        obtain ⟨b0, b1⟩ := hBs.cells
        have q := hBj.lt
        have qb := hBs.lt
        have u1 : (j : Int) ≤ 1000 := by have := HL.out.1; omega
        by_cases hlt : (j : Int) < (ll : Int)
        · go_wp2_with fail
          obtain ⟨wn, hwn⟩ : ∃ wn, wn = ((((wr.setCell ⟨P, 0, none⟩ (.int .i64 3)).setCell ⟨P, 1, none⟩ (.string (B []))).setCell ⟨P, 2, none⟩ (.int .i64 0)).setCell ⟨P, 3, none⟩ (.slice (some ⟨wr.heap.size, 0, none⟩) 1 1)).alloc (.cells #[s0, s1, s2, s3] 32) := ⟨_, rfl⟩
          obtain ⟨hB', hR', hU'⟩ := relayG hBj (.inl rfl) (fun x e => by rcases e with e | e <;> omega) hRj 3 [] 0 hwn
          rw [← hwn]
          clear hwn
          go_roundw
          case rel => exact ⟨j + 1, _, _, _, _, by go_num, by omega, hB', hR', hUj.trans hU' (fun _ _ e => e)⟩
          case measure => have := HL.out.1; simp [intOf]; omega
        · have hj' : j = ll := by omega
          have hrs := hr6.keep hUj (by omega)
          obtain ⟨r0, r1, r2, r3⟩ := hrs.cells
          obtain ⟨rf0, rf1, rf2, rf3⟩ := hrs.frozens
          have qr := hrs.lt
          obtain ⟨k9, n9, i9, us9, a9, c9, -, e9, -, -⟩ := tm_open hRj
          obtain ⟨rfl, rfl, rfl, rfl⟩ : s0 = .int .i64 k9 ∧ s1 = .string (B n9) ∧ s2 = .int .i64 i9 ∧ s3 = .slice a9 us9.length c9 := by simpa using e9
          generalize us9.length = l9 at *
          have hset9 := hrs.set (d0 := .int .i64 k9) (d1 := .string (B n9)) (d2 := .int .i64 i9) (d3 := .slice a9 l9 c9)
          obtain ⟨e0, e1, e2, e3⟩ := hset9.1.cells
          have HE := hid (And.intro e0 (And.intro e1 (And.intro e2 (And.intro e3 hset9.2))))
          have HJ := hid hj'
          have HRJ := hid (And.intro hRj (And.intro hS5 hUw6))
          clear e0 e1 e2 e3 hset9 hj' e9 hRj hS5 hUw6
          go_wp2_with fail
          obtain ⟨e0, e1, e2, e3, hset9⟩ := HE.out
          refine bodyPost_ret (v := .agg #[.int .i64 k9, .string (B n9), .int .i64 i9, .slice a9 l9 c9]) ?_ rfl ?_
          · simp [results, Try.f14, go_sem, e0, e1, e2, e3]
          · refine ⟨k9, i9, n9, a9, l9, c9, Tm.lams j t, rfl, Rep.weaken (fun b _ e => .inr (by omega)) _ _ (Rep.keep hset9 (fun b e => .inr (by omega)) _ _ HRJ.out.1), by rw [HJ.out, HL.out.1]; exact HRJ.out.2.1, (hT6.far hUj (fun b e => by omega)).far hset9 (fun b e => by omega), (HRJ.out.2.2.trans hUj (fun b hb e => by omega)).trans hset9 (fun b hb e => by omega)⟩
theorem shaped_any (n : Nat) : n ≤ 20 → ∀ (C : List Sm) (s : Sm) (deep : Int) (H : Nat) (w : World) (cs : List Value) (ca : Option Addr) (cc : Nat), C.length + 14 * n ≤ 200 → (∀ x ∈ C, Nar x) → Nar s → deep ≤ n → -100 ≤ deep → TapeOk w H → Rep (isT H) w s.dat cs → RepE (isT H) w 2 (C.map Sm.dat) ca 0 →
    Calls Try.prog 14 #[.pointer (some ⟨H, 0, none⟩), .agg cs.toArray, .slice ca C.length cc, .int .i64 deep] w (ShdC w.heap.size n C.reverse s.args H w) := by
  induction n with
  | zero => intro h C s deep H w cs ca cc hC hCn hs hdn hdl hT hS hE; exact shaped_step 0 C s hC hCn hs deep hdn hdl h H (fun m e => absurd e (by omega)) w cs ca cc hT hS hE
  | succ n ih =>
    intro h C s deep H w cs ca cc hC hCn hs hdn hdl hT hS hE
    exact shaped_step (n + 1) C s hC hCn hs deep hdn hdl h H (fun m e C' s' deep' w cs ca cc h1 h2 h3 h4 h5 h6 h7 h8 => by
      obtain rfl : m = n := by omega
      exact ih (by omega) C' s' deep' H w cs ca cc h1 h2 h3 h4 h5 h6 h7 h8) w cs ca cc hT hS hE
end Go.Proofs.Ytadphaobbpngkaa
