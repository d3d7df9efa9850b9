/- The reference's Many and Subst; the program's Subst. -/
import Derived.Test.YtdomloghcpfdjaaGreatDoorSubRs
import Derived.Test.YtdomloghcpfdjaaGreatDoorEG
namespace Go.Proofs.YtdomloghcpfdjaaGreatDoor
open Go.RowKit Go.LF
/-- A call hands back a term and an error. -/
def GivesE (O : Nat → Prop) (E : Int) (X : Tm) (w : World) (e : Ending) (w' : World) : Prop :=
  ∃ (k i : Int) (n : List UInt8) (a : Option Addr) (len cap : Nat), e = .returned (.tuple #[.agg #[.int .i64 k, .string (B n), .int .i64 i, .slice a len cap], .int .i64 E]) ∧ Rep O w' X.dat [.int .i64 k, .string (B n), .int .i64 i, .slice a len cap] ∧ Upto none' w w'
theorem GivesE.plain {O : Nat → Prop} {E : Int} {X : Tm} {w w' : World} {e : Ending} (h : GivesE O E X w e w') : GivesE none' E X w e w' := by
  obtain ⟨k, i, n, a, len, cap, rfl, hR, hU⟩ := h
  exact ⟨k, i, n, a, len, cap, rfl, rep_pre hR, hU⟩
/-- One simple type in a block, as a row. -/
theorem repE_oneS {O : Nat → Prop} {W : World} {s : Sm} {c0 c1 : Value} {b : Nat} {T : TypeId} (h : Rep O W s.dat [c0, c1]) (hb : ¬ O b) (hB : Box2 W b c0 c1 T) : RepE O W 2 ([s].map Sm.dat) (some ⟨b, 0, none⟩) 0 := by
  refine repE_of _ _ _ (fun i hi => ?_)
  obtain rfl : i = 0 := by simpa using hi
  refine ⟨b, 0, _, rfl, hB.lt, hb, rfl, fun m v hv => ?_, h⟩
  match m, hv with
  | 0, hv => cases hv; exact hB.cells.1
  | 1, hv => cases hv; exact hB.cells.2
  | m + 2, hv => simp at hv
theorem wpList_append_tms {w : World} {ops : Array Oper} {rest : List Oper} {o : Oper} {a : Act} {Q : Exit → Act → World → Prop} (hgd : o.guard = none) (s x : Operand)
    (ho : o.op = .call { callee := .builtin .append, args := #[s, x], argTypes := #[27, 27] }) {O : Nat → Prop} {base : Nat} {v : Value} {ts : List Tm} {css : List (List Value)} (hs : a.eval s = v) (hS : RowS O base w v ts css)
    (A : Option Addr) (m c : Nat) (us : List Tm) (hx : a.eval x = .slice A m c) (hm : m = us.length) (hE : RepE (fun b => O b ∨ base ≤ b) w 4 (us.map Tm.dat) A 0) (hl : ts.length + us.length ≤ 900000) (hbase : base ≤ w.heap.size)
    (h : ∀ v' w' css', RowS O base w' v' (ts ++ us) css' → w.grownBy w' v.ownBlock → (v'.ownBlock = v.ownBlock ∨ v'.ownBlock = some w.heap.size) → wpList Tryz.prog ops Q rest (a.put o.dst v') w') : wpList Tryz.prog ops Q (o :: rest) a w := by
  refine wpList_plain hgd fun _ hK => ?_
  obtain ⟨v', w', css', hrun, h1, h2, h3⟩ := run_append_tms hS A m c us hm hE hl hbase o.type
  unfold Oper.wp execOp
  simp only [ho, resolve, invoke, builtin, Sem.run_bind, Sem.run_pure, Result.andThen_ok, List.map_toArray, List.map_cons, List.map_nil, hs, hx, hrun]
  exact hK _ _ (h v' w' css' h1 h2 h3)
/-- What the last region of Many reads. -/
abbrev Mr8 (Y x : Nat) (y0 y1 y2 y3 x1 : Value) (w' : World) : Prop :=
  (w'.cell? ⟨Y, 0, none⟩ = some y0 ∧ w'.cell? ⟨Y, 1, none⟩ = some y1 ∧ w'.cell? ⟨Y, 2, none⟩ = some y2 ∧ w'.cell? ⟨Y, 3, none⟩ = some y3) ∧ w'.cell? ⟨x, 1, none⟩ = some x1
theorem Mr8.keep {Y x : Nat} {y0 y1 y2 y3 x1 : Value} {w w' : World} {S : Nat → Prop} (h : Mr8 Y x y0 y1 y2 y3 x1 w) (hU : Upto S w w') (h1 : ¬ S Y) (h2 : ¬ S x) : Mr8 Y x y0 y1 y2 y3 x1 w' :=
  ⟨⟨hU.cell h.1.1 h1, hU.cell h.1.2.1 h1, hU.cell h.1.2.2.1 h1, hU.cell h.1.2.2.2 h1⟩, hU.cell h.2 h2⟩
theorem Mr8.set4 {Y x r : Nat} {y0 y1 y2 y3 x1 : Value} {w : World} (h : Mr8 Y x y0 y1 y2 y3 x1 w) (h1 : ¬ Y = r) (h2 : ¬ x = r) (d0 d1 d2 d3 : Value) :
    Mr8 Y x y0 y1 y2 y3 x1 ((((w.setCell ⟨r, 0, none⟩ d0).setCell ⟨r, 1, none⟩ d1).setCell ⟨r, 2, none⟩ d2).setCell ⟨r, 3, none⟩ d3) :=
  h.keep (S := fun b => b = r) (Upto.set (Upto.set (Upto.set (Upto.set (Upto.refl _ _) 0 _) 1 _) 2 _) 3 _) h1 h2
set_option maxRecDepth 100000 in
set_option maxHeartbeats 16000000 in
theorem refMany_any (O : Nat → Prop) (t : Tm) (ms : List Tm) (ss : List Sm) (hwt : t.wt ≤ 1000000) (hmw : ∀ u ∈ ms, u.wt ≤ 1000000) (hsw : ∀ s ∈ ss, s.wt ≤ 1000000) (hml : ms.length ≤ 10000) (hsl : ss.length ≤ 10000) (w : World) (hO : ∀ b, O b → b < w.heap.size) (cs : List Value) (ma : Option Addr) (mc : Nat) (sa : Option Addr) (sc : Nat)
    (hR : Rep O w t.dat cs) (hM : RepE O w 4 (ms.map Tm.dat) ma 0) (hS : RepE O w 2 (ss.map Sm.dat) sa 0) :
    Calls Tryz.prog 162 #[.agg cs.toArray, .slice ma ms.length mc, .slice sa ss.length sc] w (GivesE O (manyE t ms ss) (manyT t ms ss) w) := by
  obtain ⟨k, n, i, ts, a, cap, htt, rfl, _, _⟩ := tm_open hR
  generalize ts.length = len at *
  obtain ⟨w1, hw1⟩ : ∃ w1, w1 = (w.alloc (.cells #[.int .i64 k, .string (B n), .int .i64 i, .slice a len cap] 29)).alloc (.cells #[.int .i64 0, .string (B []), .int .i64 0, .slice none 0 0] 29) := ⟨_, rfl⟩
  have hU1 : Upto none' w w1 := by rw [hw1]; exact ((Upto.refl none' w).alloc _).alloc _
  have ht1 : Box4 w1 w.heap.size (.int .i64 k) (.string (B n)) (.int .i64 i) (.slice a len cap) 29 := by rw [hw1]; exact (Box4.at_new rfl).kept ((Upto.refl none' _).alloc _)
  have hr1 : Box4 w1 (w.heap.size + 1) (.int .i64 0) (.string (B [])) (.int .i64 0) (.slice none 0 0) 29 := by rw [hw1]; exact Box4.at_new (by simp)
  have hR1 := (Rep.freshO hR).on hU1
  have hM1 := (RepE.fresh' _ _ _ _ hM).on hU1
  have hS1 := (RepE.fresh' _ _ _ _ hS).on hU1
  have HW := hid hw1
  obtain ⟨H, hH⟩ : ∃ H, H = w.heap.size := ⟨_, rfl⟩
  have HH := hid hH
  rw [← hH] at ht1 hr1 hR1 hM1 hS1
  have hO2 : ∀ b, O b → b < H := by rw [hH]; exact hO
  have HO := hid hO2
  obtain ⟨E, hE⟩ : ∃ E, E = manyE t ms ss := ⟨_, rfl⟩
  obtain ⟨X, hX⟩ : ∃ X, X = manyT t ms ss := ⟨_, rfl⟩
  rw [← hE, ← hX]
  unfold manyT at hX
  rw [← hE] at hX
  unfold manyE at hE
  have HEX := hid (And.intro hE hX)
  have FO := fun (W : World) (a9 : Option Addr) (c9 : Nat) h9 => formed_any (t :: ms) (by simp; omega) (fun u hu => (List.mem_cons.1 hu).elim (fun h => h ▸ hwt) (hmw u)) W a9 c9 h9
  have SI := fun (W : World) h9 => simples_any ss (by omega) hsw W sa sc h9
  have OB := fun (W : World) h9 => objects_any ms (by omega) hmw W ma mc h9
  obtain ⟨ml, hmll⟩ : ∃ ml, ml = ms.length := ⟨_, rfl⟩
  obtain ⟨sl, hsll⟩ : ∃ sl, sl = ss.length := ⟨_, rfl⟩
  rw [← hmll, ← hsll]
  rw [← hmll] at hml OB
  rw [← hsll] at hsl SI
  have HL := hid (And.intro hmll hsll)
  have HU := hid hU1
  have hml3 : (ml : Int) ≤ 10000 := by omega
  have hsl3 : (sl : Int) ≤ 10000 := by omega
  have hz1 : H + 2 ≤ w1.heap.size := by have := hr1.lt; omega
  have hrow := RowS.one (O := fun b => b = H ∨ b = H + 1) (Rep.weaken (fun b _ e => .inr (by omega)) _ _ hR1)
  have hal : Upto none' w1 (w1.alloc (.cells #[.int .i64 k, .string (B n), .int .i64 i, .slice a len cap] 29)) := (Upto.refl none' _).alloc _
  clear hw1 hH hR hM hS hE hX hmll hsll hU1 hO hO2
  obtain ⟨t0, t1, t2, t3⟩ := ht1.cells
  go_enter Tryz.func162, Tryz.ntmps162
  go_upto_region 1 with fail
  rw [← show B [] = { data := #[] } from rfl, ← HW.out, ← HH.out]
  go_wp2_with (at_builtin; go_loud (refine wpList_append_tms (by rfl) _ _ (by rfl) (by rfl) hrow ma ml mc ms (by rfl) HL.out.1 (RepE.weaken (fun b _ e => by right; rcases e with e | e; omega; omega) _ _ _ _ (hM1.on hal)) (by simp; have := HL.out.1; omega) (by have := hal.size; omega) ?_); intro v3 w3 css3 hS3 hg3 hat3; have hgo := grown_own hg3; have hU3 : Upto none' w1 w3 := (hal.trans hgo (fun b hb e => by simp [Value.ownBlock] at e; omega)); obtain ⟨va, vc, hv3, hvc, hF3⟩ := hS3.rep; subst hv3)
  refine (FO _ va vc (rep_pre' hF3)).mono ?_
  rintro e w2 ⟨rfl, hU32⟩
  have hU2 := hU3.and hU32
  have hr2 := hr1.kept hU2
  have ht2 := ht1.kept hU2
  clear FO hrow hal hgo hS3 hg3 hat3 hF3 t0 t1 t2 t3
  have hlr := hr2.lt
  obtain ⟨q, hq⟩ : ∃ q : Int, q = firstE Tm.wf (t :: ms) := ⟨_, rfl⟩
  rw [← hq]
  have HQ := hid hq
  clear hq
  by_cases hq : q = 0
  case neg =>
    have hE0 : E = q := by rw [HEX.out.1, ← HQ.out, if_pos hq]
    have hX0 : X = Tm.none0 := by rw [HEX.out.2, hE0, if_neg hq]
    have H0 := hid (And.intro hE0 hX0)
    have hq' : (q != 0) = true := by simpa using hq
    clear hE0 hX0 hq hlr
    have hset := hr2.set (d0 := .int .i64 0) (d1 := .string (B [])) (d2 := .int .i64 0) (d3 := .slice none 0 0)
    obtain ⟨y0, y1, y2, y3⟩ := hr2.cells
    obtain ⟨z0, z1, z2, z3⟩ := hr2.frozens
    obtain ⟨e0, e1, e2, e3⟩ := hset.1.cells
    have HEE := hid (And.intro e0 (And.intro e1 (And.intro e2 (And.intro e3 hset.2))))
    have hlr := hr2.lt
    clear e0 e1 e2 e3 hset
    go_wp2_with fail
    obtain ⟨e0, e1, e2, e3, hset⟩ := HEE.out
    refine bodyPost_ret (v := .tuple #[.agg #[.int .i64 0, .string (B []), .int .i64 0, .slice none 0 0], .int .i64 q]) ?_ rfl ?_
    · simp [results, Tryz.f162, go_sem, e0, e1, e2, e3]
    · exact ⟨0, 0, [], none, 0, 0, by rw [H0.out.1], by rw [H0.out.2]; exact rep_leaf 0 [] 0, (HU.out.and hU2).trans hset (fun b hb e => by have := HH.out; omega)⟩
  subst hq
  have hE1 := HEX.out.1
  rw [← HQ.out, if_neg (by simp)] at hE1
  have hf1 : firstE Tm.wf (t :: ms) = 0 := HQ.out.symm
  clear HQ hlr
  have SI2 := SI w2 (rep_pre' (hS1.on hU2))
  obtain ⟨q, hq⟩ : ∃ q : Int, q = firstE Sm.wf ss := ⟨_, rfl⟩
  rw [← hq] at SI2 hE1
  have HQ := hid hq
  have HF := hid hf1
  have HE1 := hid hE1
  clear hq SI hf1 hE1
  go_wp2_with fail
  refine SI2.mono ?_
  rintro e w3 ⟨rfl, hU3⟩
  have hU4 := hU2.and hU3
  have hr3 := hr2.kept hU3
  have ht3 := ht2.kept hU3
  have hE1 := HE1.out
  clear hr2 ht2 HE1
  by_cases hq : q = 0
  case neg =>
    rw [if_pos hq] at hE1
    have H0 := hid (And.intro hE1 (show X = Tm.none0 by rw [HEX.out.2, hE1, if_neg hq]))
    have hq' : (q != 0) = true := by simpa using hq
    clear hE1 hq
    have hset := hr3.set (d0 := .int .i64 0) (d1 := .string (B [])) (d2 := .int .i64 0) (d3 := .slice none 0 0)
    obtain ⟨y0, y1, y2, y3⟩ := hr3.cells
    obtain ⟨z0, z1, z2, z3⟩ := hr3.frozens
    obtain ⟨e0, e1, e2, e3⟩ := hset.1.cells
    have HEE := hid (And.intro e0 (And.intro e1 (And.intro e2 (And.intro e3 hset.2))))
    have hlr := hr3.lt
    clear e0 e1 e2 e3 hset
    go_wp2_with fail
    obtain ⟨e0, e1, e2, e3, hset⟩ := HEE.out
    refine bodyPost_ret (v := .tuple #[.agg #[.int .i64 0, .string (B []), .int .i64 0, .slice none 0 0], .int .i64 q]) ?_ rfl ?_
    · simp [results, Tryz.f162, go_sem, e0, e1, e2, e3]
    · exact ⟨0, 0, [], none, 0, 0, by rw [H0.out.1], by rw [H0.out.2]; exact rep_leaf 0 [] 0, (HU.out.and hU4).trans hset (fun b hb e => by have := HH.out; omega)⟩
  subst hq
  rw [if_neg (by simp), ← HL.out.1, ← HL.out.2] at hE1
  by_cases hls : ml = sl
  case neg =>
    rw [if_pos hls] at hE1
    have H0 := hid (And.intro hE1 (show X = Tm.none0 by rw [HEX.out.2, hE1]; rfl))
    have hne : ((ml : Int) != (sl : Int)) = true := by simp; omega
    clear hE1 hls
    have hset := hr3.set (d0 := .int .i64 0) (d1 := .string (B [])) (d2 := .int .i64 0) (d3 := .slice none 0 0)
    obtain ⟨y0, y1, y2, y3⟩ := hr3.cells
    obtain ⟨z0, z1, z2, z3⟩ := hr3.frozens
    obtain ⟨e0, e1, e2, e3⟩ := hset.1.cells
    have HEE := hid (And.intro e0 (And.intro e1 (And.intro e2 (And.intro e3 hset.2))))
    have hlr := hr3.lt
    clear e0 e1 e2 e3 hset
    go_wp2_with fail
    obtain ⟨e0, e1, e2, e3, hset⟩ := HEE.out
    refine bodyPost_ret (v := .tuple #[.agg #[.int .i64 0, .string (B []), .int .i64 0, .slice none 0 0], .int .i64 33]) ?_ rfl ?_
    · simp [results, Tryz.f162, go_sem, e0, e1, e2, e3]
    · exact ⟨0, 0, [], none, 0, 0, by rw [H0.out.1], by rw [H0.out.2]; exact rep_leaf 0 [] 0, (HU.out.and hU4).trans hset (fun b hb e => by have := HH.out; omega)⟩
  subst hls
  rw [if_neg (by simp)] at hE1
  have hnf : ((ml : Int) != (ml : Int)) = false := by simp
  have OB2 := OB w3 (rep_pre' (hM1.on hU4))
  obtain ⟨an, han⟩ : ∃ an, an = ms.any (fun u => !(u.isObj && u.small)) := ⟨_, rfl⟩
  rw [← han] at OB2 hE1
  have HAN := hid han
  clear han OB
  cases an
  case true =>
    rw [if_pos rfl] at hE1 OB2
    have H0 := hid (And.intro hE1 (show X = Tm.none0 by rw [HEX.out.2, hE1]; rfl))
    clear hE1
    go_wp2_with fail
    refine OB2.mono ?_
    rintro e w5 ⟨rfl, hU5⟩
    have hr5 := hr3.kept hU5
    clear hr3
    have hset := hr5.set (d0 := .int .i64 0) (d1 := .string (B [])) (d2 := .int .i64 0) (d3 := .slice none 0 0)
    obtain ⟨y0, y1, y2, y3⟩ := hr5.cells
    obtain ⟨z0, z1, z2, z3⟩ := hr5.frozens
    obtain ⟨e0, e1, e2, e3⟩ := hset.1.cells
    have HEE := hid (And.intro e0 (And.intro e1 (And.intro e2 (And.intro e3 hset.2))))
    have hlr := hr5.lt
    clear e0 e1 e2 e3 hset
    go_wp2_with fail
    obtain ⟨e0, e1, e2, e3, hset⟩ := HEE.out
    refine bodyPost_ret (v := .tuple #[.agg #[.int .i64 0, .string (B []), .int .i64 0, .slice none 0 0], .int .i64 32]) ?_ rfl ?_
    · simp [results, Tryz.f162, go_sem, e0, e1, e2, e3]
    · exact ⟨0, 0, [], none, 0, 0, by rw [H0.out.1], by rw [H0.out.2]; exact rep_leaf 0 [] 0, (HU.out.and (hU4.and hU5)).trans hset (fun b hb e => by have := HH.out; omega)⟩
  rw [if_neg (by simp)] at hE1 OB2
  have hobj : ∀ u ∈ ms, u.isObj = true ∧ u.small = true := by
    intro u hu
    have h1 := HAN.out.symm
    rw [List.any_eq_false] at h1
    simpa using h1 u hu
  have hssz : ∀ s ∈ ss, s.size ≤ 4096 := by
    intro s hs
    have h1 := firstE_zero Sm.wf ss HQ.out.symm s hs
    unfold Sm.wf at h1
    split at h1
    · cases h1
    · split at h1
      · cases h1
      · rename_i h2; simp at h2; omega
  have hwf0 := firstE_zero Tm.wf (t :: ms) HF.out t (by simp)
  have hIn : t.In := ⟨(Tm.wf_ok t hwf0).2.1, (Tm.wf_ok t hwf0).2.2, (Tm.wf_ok t hwf0).1, Tm.wf_vok t hwf0⟩
  have hX1 := HEX.out.2
  rw [hE1] at hX1
  have SB := fun (W : World) (x : Nat) (hu : Upto none' w1 W) (hx : w1.heap.size ≤ x) (hB : Box2 W x (.int .i64 0) (.int .i64 0) 103) =>
    refSub_any 262145 ms ss 0 t 0 x (fun b => O b ∨ b = H ∨ b = H + 1 ∨ b = x) W ma mc sa sc _ (by omega) (by omega) (HL.out.1.symm.trans HL.out.2) (by rw [← HL.out.1]; exact hml) hobj hssz (by omega) (by have := hIn.depth; omega) hIn (.inr (.inr (.inr rfl)))
      (fun b e => by have h1 := hB.lt; have h2 := hu.size; rcases e with e | e | e | e; (have := HO.out b e; omega); all_goals omega) hB (RepE.weaken (fun b hb e => by have := hu.size; rcases e with e | e; (exact .inl (.inl e)); omega) _ _ _ _ ((RepE.fresh' _ _ _ _ hM1).on hu)) (RepE.weaken (fun b hb e => by have := hu.size; rcases e with e | e; (exact .inl (.inl e)); omega) _ _ _ _ ((RepE.fresh' _ _ _ _ hS1).on hu)) (Rep.weaken (fun b hb e => by have := hu.size; rcases e with e | e; (exact .inl (.inl e)); omega) _ _ ((Rep.fresh' _ _ hR1).on hu))
  rw [← HL.out.1, ← HL.out.2] at SB
  have hrt := Tm.sb_none 262145 ms ss 0 t 0
  have HX1 := hid (And.intro hE1 (And.intro hX1 hrt))
  generalize Tm.sb 262145 ms ss 0 t 0 = r at *
  clear hobj hssz hwf0 hIn hrt hE1 hX1
  go_wp2_with fail
  refine OB2.mono ?_
  rintro e w5 ⟨rfl, hU5⟩
  have hU6 := hU4.and hU5
  have hr5 := hr3.kept hU5
  have ht5 := ht3.kept hU5
  clear hr3 ht3
  obtain ⟨w6, hw6⟩ : ∃ w6, w6 = w5.alloc (.cells #[.int .i64 0, .int .i64 0] 103) := ⟨_, rfl⟩
  have hUa : Upto none' w5 w6 := by rw [hw6]; exact (Upto.refl none' _).alloc _
  have hx6 : Box2 w6 w5.heap.size (.int .i64 0) (.int .i64 0) 103 := by rw [hw6]; exact Box2.at_new rfl
  have hz5 := hU6.size
  obtain ⟨x, hx⟩ : ∃ x, x = w5.heap.size := ⟨_, rfl⟩
  rw [← hx] at hx6 hz5
  have HX6 := hid hx
  have HW6 := hid hw6
  have hr6 := hr5.kept hUa
  have ht6 := ht5.kept hUa
  have hU7 := hU6.and hUa
  clear hw6 hx hr5 ht5
  have SB6 := SB w6 x hU7 hz5 hx6
  clear SB
  obtain ⟨t0, t1, t2, t3⟩ := ht6.cells
  go_upto_region 13 with fail
  rw [← HW6.out, ← HX6.out]
  go_wp2_with fail
  (with_reducible refine SB6.mono ?_)
  rintro e w7 ⟨⟨⟨k9, n9, i9, a9, len9, cap9, rfl, hR7⟩, hX7⟩, hU8⟩
  have hr7 := hr6.keep hU8 (by omega)
  have hR8 : Rep (fun b => O b ∨ b = H + 1) w7 r.t.dat [.int .i64 k9, .string (B n9), .int .i64 i9, .slice a9 len9 cap9] := Rep.weaken (fun b _ e => e.elim .inl (fun e => .inr (.inr (.inl e)))) _ _ hR7
  have hUx : Upto none' w w7 := (HU.out.and hU7).trans hU8 (fun b hb e => by have := HH.out; omega)
  obtain ⟨w8, hw8⟩ : ∃ w8, w8 = w7.alloc (.cells #[.int .i64 k9, .string (B n9), .int .i64 i9, .slice a9 len9 cap9] 29) := ⟨_, rfl⟩
  have hUb : Upto none' w7 w8 := by rw [hw8]; exact (Upto.refl none' _).alloc _
  have hy8 : Box4 w8 w7.heap.size (.int .i64 k9) (.string (B n9)) (.int .i64 i9) (.slice a9 len9 cap9) 29 := by rw [hw8]; exact Box4.at_new rfl
  obtain ⟨Y, hY⟩ : ∃ Y, Y = w7.heap.size := ⟨_, rfl⟩
  rw [← hY] at hy8
  have HY := hid hY
  have HW8 := hid hw8
  have hr8 := hr7.kept hUb
  have hX8 := hX7.kept hUb
  have hR9 := hR8.on hUb
  have hUy := hUx.and hUb
  have hlY : H + 1 < Y := by have := hr7.lt; omega
  clear hw8 hY hr7 hX7 hR7 hR8 hUx t0 t1 t2 t3
  go_upto_region 14 with fail
  rw [← HW8.out, ← HY.out]
  obtain ⟨t0, t1, t2, t3⟩ := hy8.cells
  obtain ⟨x0, x1⟩ := hX8.cells
  obtain ⟨y0, y1, y2, y3⟩ := hr8.cells
  obtain ⟨z0, z1, z2, z3⟩ := hr8.frozens
  have hlr := hr8.lt
  have hd8 : Upto none' w8 w8.drew := (Upto.refl none' _).drew
  have S8 : Mr8 Y x (.int .i64 k9) (.string (B n9)) (.int .i64 i9) (.slice a9 len9 cap9) (.int .i64 r.e) w8 := ⟨hy8.cells, x1⟩
  have Sd := S8.keep hd8 (fun x => x) (fun x => x)
  have hrd := hr8.kept hd8
  have nY : ¬ Y = H + 1 := by omega
  have nx : ¬ x = H + 1 := by have := hlr; omega
  have hset := hr8.set (d0 := .int .i64 k9) (d1 := .string (B n9)) (d2 := .int .i64 i9) (d3 := .slice a9 len9 cap9)
  obtain ⟨e0, e1, e2, e3⟩ := (hset.1.kept (Upto.refl none' _).drew).cells
  have HEE := hid (And.intro e0 (And.intro e1 (And.intro e2 (And.intro e3 hset.2.drew))))
  have hs8 : Upto none' w8 w8 := Upto.refl _ _
  obtain ⟨z0, z1, z2, z3⟩ := hrd.frozens
  clear e0 e1 e2 e3 hset
  go_region_held3 (fun w' => Mr8 Y x (.int .i64 k9) (.string (B n9)) (.int .i64 i9) (.slice a9 len9 cap9) (.int .i64 r.e) w')
    (first | (with_reducible assumption) | (with_reducible exact Sd) | (with_reducible exact Mr8.keep (Mr8.set4 S8 nY nx _ _ _ _) (Upto.refl none' _).drew (fun x => x) (fun x => x)))
    (first | fail)
  all_goals
    go_wp2_with fail
    obtain ⟨e0, e1, e2, e3, hset⟩ := HEE.out
    refine bodyPost_ret (v := .tuple #[.agg #[.int .i64 k9, .string (B n9), .int .i64 i9, .slice a9 len9 cap9], .int .i64 r.e]) ?_ rfl ?_
    · simp [results, Tryz.f162, go_sem, e0, e1, e2, e3]
    · refine ⟨k9, i9, n9, a9, len9, cap9, by rw [HX1.out.1], ?_, hUy.trans hset (fun b hb e => by have := HH.out; omega)⟩
      have hXr : X = r.t := by
        by_cases h0 : r.e = 0
        · rw [HX1.out.2.1, if_pos h0]
        · rw [HX1.out.2.1, if_neg h0, HX1.out.2.2 h0]
      rw [hXr]
      exact Rep.weaken (fun b _ e => .inl e) _ _ (Rep.keep hset (fun b e => .inr e) _ _ hR9)
set_option maxRecDepth 100000 in
set_option maxHeartbeats 16000000 in
theorem refSubst_any (O : Nat → Prop) (t m : Tm) (s : Sm) (hwt : t.wt ≤ 1000000) (hmw : m.wt ≤ 1000000) (hsw : s.wt ≤ 1000000) (w : World) (hO : ∀ b, O b → b < w.heap.size) (cs ds es : List Value) (hR : Rep O w t.dat cs) (hM : Rep O w m.dat ds) (hS : Rep O w s.dat es) :
    Calls Tryz.prog 79 #[.agg cs.toArray, .agg ds.toArray, .agg es.toArray] w (GivesE O (manyE t [m] [s]) (manyT t [m] [s]) w) := by
  obtain ⟨k, n, i, ts, a, cap, htt, rfl, _, _⟩ := tm_open hR
  obtain ⟨k2, n2, i2, ts2, a2, cap2, htt2, rfl, _, _⟩ := tm_open hM
  obtain ⟨f, sl, sa, sc, rfl⟩ : ∃ f sl sa sc, es = [.string (B f), .slice sa sl sc] := by
    cases s with
    | mk f l =>
      obtain ⟨sa, sc, rfl, _, _⟩ := rep_sm.1 hS
      exact ⟨f, l.length, sa, sc, rfl⟩
  generalize ts.length = len at *
  generalize ts2.length = len2 at *
  obtain ⟨w1, hw1⟩ : ∃ w1, w1 = (((w.alloc (.cells #[.int .i64 k, .string (B n), .int .i64 i, .slice a len cap] 29)).alloc (.cells #[.int .i64 k2, .string (B n2), .int .i64 i2, .slice a2 len2 cap2] 29)).alloc (.cells #[.string (B f), .slice sa sl sc] 33)).alloc (.cells #[.int .i64 0, .string (B []), .int .i64 0, .slice none 0 0] 29) := ⟨_, rfl⟩
  obtain ⟨w2, hw2⟩ : ∃ w2, w2 = (w1.alloc (.cells #[.int .i64 k2, .string (B n2), .int .i64 i2, .slice a2 len2 cap2] 29)).alloc (.cells #[.string (B f), .slice sa sl sc] 33) := ⟨_, rfl⟩
  have hU1 : Upto none' w w1 := by rw [hw1]; exact ((((Upto.refl none' w).alloc _).alloc _).alloc _).alloc _
  have hU2 : Upto none' w1 w2 := by rw [hw2]; exact ((Upto.refl none' _).alloc _).alloc _
  have ht1 : Box4 w1 w.heap.size (.int .i64 k) (.string (B n)) (.int .i64 i) (.slice a len cap) 29 := by rw [hw1]; exact (((Box4.at_new rfl).kept ((Upto.refl none' _).alloc _)).kept ((Upto.refl none' _).alloc _)).kept ((Upto.refl none' _).alloc _)
  have hm1 : Box4 w1 (w.heap.size + 1) (.int .i64 k2) (.string (B n2)) (.int .i64 i2) (.slice a2 len2 cap2) 29 := by rw [hw1]; exact ((Box4.at_new (by simp)).kept ((Upto.refl none' _).alloc _)).kept ((Upto.refl none' _).alloc _)
  have hs1 : Box2 w1 (w.heap.size + 1 + 1) (.string (B f)) (.slice sa sl sc) 33 := by rw [hw1]; exact (Box2.at_new (by simp)).kept ((Upto.refl none' _).alloc _)
  have hr1 : Box4 w1 (w.heap.size + 1 + 1 + 1) (.int .i64 0) (.string (B [])) (.int .i64 0) (.slice none 0 0) 29 := by rw [hw1]; exact Box4.at_new (by simp)
  have hz1 : w1.heap.size = w.heap.size + 4 := by rw [hw1]; simp
  have hz2 : w2.heap.size = w.heap.size + 6 := by rw [hw2]; simp [hz1]
  have wk : ∀ b, b < w2.heap.size → (O b ∨ b = w.heap.size + 1 + 1 + 1) → (O b ∨ w.heap.size ≤ b) := fun b _ e => e.elim .inl (fun e => .inr (by omega))
  have hM2 : RepE (fun b => O b ∨ b = w.heap.size + 1 + 1 + 1) w2 4 ([m].map Tm.dat) (some ⟨w1.heap.size, 0, none⟩) 0 := by
    refine repE_one (Rep.weaken wk _ _ ((Rep.freshO hM).on (hU1.and hU2))) (fun e => e.elim (fun e => by have := hO _ e; omega) (by omega)) (T := 29) ?_
    rw [hw2]; exact (Box4.at_new rfl).kept ((Upto.refl none' _).alloc _)
  have hS2 : RepE (fun b => O b ∨ b = w.heap.size + 1 + 1 + 1) w2 2 ([s].map Sm.dat) (some ⟨w1.heap.size + 1, 0, none⟩) 0 := by
    refine repE_oneS (Rep.weaken wk _ _ ((Rep.freshO hS).on (hU1.and hU2))) (fun e => e.elim (fun e => by have := hO _ e; omega) (by omega)) (T := 33) ?_
    rw [hw2]; exact Box2.at_new (by simp)
  have C := refMany_any (fun b => O b ∨ b = w.heap.size + 1 + 1 + 1) t [m] [s] hwt (by simpa using hmw) (by simpa using hsw) (by simp) (by simp) w2 (fun b e => e.elim (fun e => by have := hO _ e; omega) (by omega)) _ _ 1 _ 1 (Rep.weaken wk _ _ ((Rep.freshO hR).on (hU1.and hU2))) hM2 hS2
  simp only [List.length_cons, List.length_nil, Nat.zero_add] at C
  have HW := hid hw1
  have HW2 := hid hw2
  have HU := hid (And.intro hU1 hU2)
  obtain ⟨H, hH⟩ : ∃ H, H = w.heap.size := ⟨_, rfl⟩
  have HH := hid hH
  rw [← hH] at ht1 hm1 hs1 hr1
  generalize manyE t [m] [s] = E at *
  generalize manyT t [m] [s] = X at *
  have hr2 := hr1.kept hU2
  rw [← hH] at C
  clear hw1 hw2 hH hR hM hS hU1 hM2 hS2 wk hz1 hz2 hO
  obtain ⟨t0, t1, t2, t3⟩ := ht1.cells
  obtain ⟨m0, m1, m2, m3⟩ := hm1.cells
  obtain ⟨s0, s1⟩ := hs1.cells
  have hls := hs1.lt
  have hlm := hm1.lt
  go_enter Tryz.func79, Tryz.ntmps79
  go_upto_region 1 with fail
  rw [← show B [] = { data := #[] } from rfl, ← HW.out, ← HH.out]
  go_wp2_with fail
  rw [← HW2.out]
  (with_reducible refine C.mono ?_)
  rintro e w3 ⟨k9, i9, n9, a9, len9, cap9, rfl, hR3, hU3⟩
  have hr3 := hr2.kept hU3
  clear hr1 hr2 t0 t1 t2 t3 m0 m1 m2 m3 s0 s1 C
  have hset := hr3.set (d0 := .int .i64 k9) (d1 := .string (B n9)) (d2 := .int .i64 i9) (d3 := .slice a9 len9 cap9)
  obtain ⟨y0, y1, y2, y3⟩ := hr3.cells
  obtain ⟨z0, z1, z2, z3⟩ := hr3.frozens
  obtain ⟨e0, e1, e2, e3⟩ := hset.1.cells
  have HEE := hid (And.intro e0 (And.intro e1 (And.intro e2 (And.intro e3 hset.2))))
  have hlr := hr3.lt
  clear e0 e1 e2 e3 hset
  go_wp2_with fail
  obtain ⟨e0, e1, e2, e3, hset⟩ := HEE.out
  refine bodyPost_ret (v := .tuple #[.agg #[.int .i64 k9, .string (B n9), .int .i64 i9, .slice a9 len9 cap9], .int .i64 E]) ?_ rfl ?_
  · simp [results, Tryz.f79, go_sem, e0, e1, e2, e3]
  · exact ⟨k9, i9, n9, a9, len9, cap9, rfl, Rep.weaken (fun b _ e => .inl e) _ _ (Rep.keep hset (fun b e => .inr e) _ _ hR3), (HU.out.1.and (HU.out.2.and hU3)).trans hset (fun b hb e => by have := HH.out; omega)⟩
set_option maxRecDepth 100000 in
set_option maxHeartbeats 16000000 in
theorem subst_any (O : Nat → Prop) (t m : Tm) (s : Sm) (hwt : t.wt ≤ 1000000) (hmw : m.wt ≤ 1000000) (hsw : s.wt ≤ 1000000) (w : World) (hO : ∀ b, O b → b < w.heap.size) (cs ds es : List Value) (hR : Rep O w t.dat cs) (hM : Rep O w m.dat ds) (hS : Rep O w s.dat es) :
    Calls Tryz.prog 77 #[.agg cs.toArray, .agg ds.toArray, .agg es.toArray] w (GivesE O (manyE t [m] [s]) (manyT t [m] [s]) w) := by
  obtain ⟨k, n, i, ts, a, cap, htt, rfl, _, _⟩ := tm_open hR
  obtain ⟨k2, n2, i2, ts2, a2, cap2, htt2, rfl, _, _⟩ := tm_open hM
  obtain ⟨f, sl, sa, sc, rfl⟩ : ∃ f sl sa sc, es = [.string (B f), .slice sa sl sc] := by
    cases s with
    | mk f l =>
      obtain ⟨sa, sc, rfl, _, _⟩ := rep_sm.1 hS
      exact ⟨f, l.length, sa, sc, rfl⟩
  generalize ts.length = len at *
  generalize ts2.length = len2 at *
  obtain ⟨w1, hw1⟩ : ∃ w1, w1 = (((w.alloc (.cells #[.int .i64 k, .string (B n), .int .i64 i, .slice a len cap] 29)).alloc (.cells #[.int .i64 k2, .string (B n2), .int .i64 i2, .slice a2 len2 cap2] 29)).alloc (.cells #[.string (B f), .slice sa sl sc] 33)).alloc (.cells #[.int .i64 0, .string (B []), .int .i64 0, .slice none 0 0] 29) := ⟨_, rfl⟩
  obtain ⟨w2, hw2⟩ : ∃ w2, w2 = (w1.alloc (.cells #[.int .i64 k2, .string (B n2), .int .i64 i2, .slice a2 len2 cap2] 29)).alloc (.cells #[.string (B f), .slice sa sl sc] 33) := ⟨_, rfl⟩
  have hU1 : Upto none' w w1 := by rw [hw1]; exact ((((Upto.refl none' w).alloc _).alloc _).alloc _).alloc _
  have hU2 : Upto none' w1 w2 := by rw [hw2]; exact ((Upto.refl none' _).alloc _).alloc _
  have ht1 : Box4 w1 w.heap.size (.int .i64 k) (.string (B n)) (.int .i64 i) (.slice a len cap) 29 := by rw [hw1]; exact (((Box4.at_new rfl).kept ((Upto.refl none' _).alloc _)).kept ((Upto.refl none' _).alloc _)).kept ((Upto.refl none' _).alloc _)
  have hm1 : Box4 w1 (w.heap.size + 1) (.int .i64 k2) (.string (B n2)) (.int .i64 i2) (.slice a2 len2 cap2) 29 := by rw [hw1]; exact ((Box4.at_new (by simp)).kept ((Upto.refl none' _).alloc _)).kept ((Upto.refl none' _).alloc _)
  have hs1 : Box2 w1 (w.heap.size + 1 + 1) (.string (B f)) (.slice sa sl sc) 33 := by rw [hw1]; exact (Box2.at_new (by simp)).kept ((Upto.refl none' _).alloc _)
  have hr1 : Box4 w1 (w.heap.size + 1 + 1 + 1) (.int .i64 0) (.string (B [])) (.int .i64 0) (.slice none 0 0) 29 := by rw [hw1]; exact Box4.at_new (by simp)
  have hz1 : w1.heap.size = w.heap.size + 4 := by rw [hw1]; simp
  have hz2 : w2.heap.size = w.heap.size + 6 := by rw [hw2]; simp [hz1]
  have wk : ∀ b, b < w2.heap.size → (O b ∨ b = w.heap.size + 1 + 1 + 1) → (O b ∨ w.heap.size ≤ b) := fun b _ e => e.elim .inl (fun e => .inr (by omega))
  have hM2 : RepE (fun b => O b ∨ b = w.heap.size + 1 + 1 + 1) w2 4 ([m].map Tm.dat) (some ⟨w1.heap.size, 0, none⟩) 0 := by
    refine repE_one (Rep.weaken wk _ _ ((Rep.freshO hM).on (hU1.and hU2))) (fun e => e.elim (fun e => by have := hO _ e; omega) (by omega)) (T := 29) ?_
    rw [hw2]; exact (Box4.at_new rfl).kept ((Upto.refl none' _).alloc _)
  have hS2 : RepE (fun b => O b ∨ b = w.heap.size + 1 + 1 + 1) w2 2 ([s].map Sm.dat) (some ⟨w1.heap.size + 1, 0, none⟩) 0 := by
    refine repE_oneS (Rep.weaken wk _ _ ((Rep.freshO hS).on (hU1.and hU2))) (fun e => e.elim (fun e => by have := hO _ e; omega) (by omega)) (T := 33) ?_
    rw [hw2]; exact Box2.at_new (by simp)
  have C := many_any (fun b => O b ∨ b = w.heap.size + 1 + 1 + 1) t [m] [s] hwt (by simpa using hmw) (by simpa using hsw) (by simp) (by simp) w2 (fun b e => e.elim (fun e => by have := hO _ e; omega) (by omega)) _ _ 1 _ 1 (Rep.weaken wk _ _ ((Rep.freshO hR).on (hU1.and hU2))) hM2 hS2
  simp only [List.length_cons, List.length_nil, Nat.zero_add] at C
  have HW := hid hw1
  have HW2 := hid hw2
  have HU := hid (And.intro hU1 hU2)
  obtain ⟨H, hH⟩ : ∃ H, H = w.heap.size := ⟨_, rfl⟩
  have HH := hid hH
  rw [← hH] at ht1 hm1 hs1 hr1
  generalize manyE t [m] [s] = E at *
  generalize manyT t [m] [s] = X at *
  have hr2 := hr1.kept hU2
  rw [← hH] at C
  clear hw1 hw2 hH hR hM hS hU1 hM2 hS2 wk hz1 hz2 hO
  obtain ⟨t0, t1, t2, t3⟩ := ht1.cells
  obtain ⟨m0, m1, m2, m3⟩ := hm1.cells
  obtain ⟨s0, s1⟩ := hs1.cells
  have hls := hs1.lt
  have hlm := hm1.lt
  go_enter Tryz.func77, Tryz.ntmps77
  go_upto_region 1 with fail
  rw [← show B [] = { data := #[] } from rfl, ← HW.out, ← HH.out]
  go_wp2_with fail
  rw [← HW2.out]
  (with_reducible refine C.mono ?_)
  rintro e w3 ⟨k9, i9, n9, a9, len9, cap9, rfl, hR3, hU3⟩
  have hr3 := hr2.kept hU3
  clear hr1 hr2 t0 t1 t2 t3 m0 m1 m2 m3 s0 s1 C
  have hset := hr3.set (d0 := .int .i64 k9) (d1 := .string (B n9)) (d2 := .int .i64 i9) (d3 := .slice a9 len9 cap9)
  obtain ⟨y0, y1, y2, y3⟩ := hr3.cells
  obtain ⟨z0, z1, z2, z3⟩ := hr3.frozens
  obtain ⟨e0, e1, e2, e3⟩ := hset.1.cells
  have HEE := hid (And.intro e0 (And.intro e1 (And.intro e2 (And.intro e3 hset.2))))
  have hlr := hr3.lt
  clear e0 e1 e2 e3 hset
  go_wp2_with fail
  obtain ⟨e0, e1, e2, e3, hset⟩ := HEE.out
  refine bodyPost_ret (v := .tuple #[.agg #[.int .i64 k9, .string (B n9), .int .i64 i9, .slice a9 len9 cap9], .int .i64 E]) ?_ rfl ?_
  · simp [results, Tryz.f77, go_sem, e0, e1, e2, e3]
  · exact ⟨k9, i9, n9, a9, len9, cap9, rfl, Rep.weaken (fun b _ e => .inl e) _ _ (Rep.keep hset (fun b e => .inr e) _ _ hR3), (HU.out.1.and (HU.out.2.and hU3)).trans hset (fun b hb e => by have := HH.out; omega)⟩
end Go.Proofs.YtdomloghcpfdjaaGreatDoor
