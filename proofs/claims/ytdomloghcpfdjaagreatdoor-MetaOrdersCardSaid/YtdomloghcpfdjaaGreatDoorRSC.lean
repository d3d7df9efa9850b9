/- The reference's Many and Subst; the program's Subst. -/
import Derived.Test.YtdomloghcpfdjaaGreatDoorRDC
import Derived.Test.YtdomloghcpfdjaaGreatDoorREA
import Derived.Test.YtdomloghcpfdjaaGreatDoorREG
import Derived.Test.YtdomloghcpfdjaaGreatDoorRSB
import Derived.Deep.RegionHeld2
namespace Go.Proofs.YtdomloghcpfdjaaGreatDoor
open Go.RowKit Go.LF
/-- A call hands back a term and an error. -/
def GivesE (O : Nat → Prop) (E : Int) (X : Tm) (w : World) (e : Ending) (w' : World) : Prop :=
  ∃ (k i : Int) (n : List UInt8) (a : Option Addr) (len cap : Nat), e = .returned (.tuple #[.agg #[.int .i64 k, .string (B n), .int .i64 i, .slice a len cap], .int .i64 E]) ∧ Rep O w' X.dat [.int .i64 k, .string (B n), .int .i64 i, .slice a len cap] ∧ Upto none' w w'
theorem GivesE.plain {O : Nat → Prop} {E : Int} {X : Tm} {w w' : World} {e : Ending} (h : GivesE O E X w e w') : GivesE none' E X w e w' := by
  obtain ⟨k, i, n, a, len, cap, rfl, hR, hU⟩ := h
  exact ⟨k, i, n, a, len, cap, rfl, rep_pre hR, hU⟩
/-- One simple type in a block, as a row. -/
theorem repE_oneS {O : Nat → Prop} {W : World} {s : Sm} {c0 c1 : Value} {b : Nat} {T : TypeId} (h : Rep O W s.dat [c0, c1]) (hb : ¬ O b) (hB : Box2 W b c0 c1 T) : RepE O W 2 ([s].map Sm.dat) (some ⟨b, 0, none⟩) 0 := by
  refine repE_of _ _ _ (fun i hi => ?_)
  obtain rfl : i = 0 := by simpa using hi
  refine ⟨b, 0, _, rfl, hB.lt, hb, rfl, fun m v hv => ?_, h⟩
  match m, hv with
  | 0, hv => cases hv; exact hB.cells.1
  | 1, hv => cases hv; exact hB.cells.2
  | m + 2, hv => simp at hv
theorem wpList_append_tms {w : World} {ops : Array Oper} {rest : List Oper} {o : Oper} {a : Act} {Q : Exit → Act → World → Prop} (hgd : o.guard = none) (s x : Operand)
    (ho : o.op = .call { callee := .builtin .append, args := #[s, x], argTypes := #[27, 27] }) {O : Nat → Prop} {base : Nat} {v : Value} {ts : List Tm} {css : List (List Value)} (hs : a.eval s = v) (hS : RowS O base w v ts css)
    (A : Option Addr) (m c : Nat) (us : List Tm) (hx : a.eval x = .slice A m c) (hm : m = us.length) (hE : RepE (fun b => O b ∨ base ≤ b) w 4 (us.map Tm.dat) A 0) (hl : ts.length + us.length ≤ 900000) (hbase : base ≤ w.heap.size)
    (h : ∀ v' w' css', RowS O base w' v' (ts ++ us) css' → w.grownBy w' v.ownBlock → (v'.ownBlock = v.ownBlock ∨ v'.ownBlock = some w.heap.size) → wpList Tryz.prog ops Q rest (a.put o.dst v') w') : wpList Tryz.prog ops Q (o :: rest) a w := by
  refine wpList_plain hgd fun _ hK => ?_
  obtain ⟨v', w', css', hrun, h1, h2, h3⟩ := run_append_tms hS A m c us hm hE hl hbase o.type
  unfold Oper.wp execOp
  simp only [ho, resolve, invoke, builtin, Sem.run_bind, Sem.run_pure, Result.andThen_ok, List.map_toArray, List.map_cons, List.map_nil, hs, hx, hrun]
  exact hK _ _ (h v' w' css' h1 h2 h3)
/-- What the last region of Many reads. -/
abbrev Mr8 (Y x : Nat) (y0 y1 y2 y3 x1 : Value) (w' : World) : Prop :=
  (w'.cell? ⟨Y, 0, none⟩ = some y0 ∧ w'.cell? ⟨Y, 1, none⟩ = some y1 ∧ w'.cell? ⟨Y, 2, none⟩ = some y2 ∧ w'.cell? ⟨Y, 3, none⟩ = some y3) ∧ w'.cell? ⟨x, 1, none⟩ = some x1
theorem Mr8.keep {Y x : Nat} {y0 y1 y2 y3 x1 : Value} {w w' : World} {S : Nat → Prop} (h : Mr8 Y x y0 y1 y2 y3 x1 w) (hU : Upto S w w') (h1 : ¬ S Y) (h2 : ¬ S x) : Mr8 Y x y0 y1 y2 y3 x1 w' :=
  ⟨⟨hU.cell h.1.1 h1, hU.cell h.1.2.1 h1, hU.cell h.1.2.2.1 h1, hU.cell h.1.2.2.2 h1⟩, hU.cell h.2 h2⟩
theorem Mr8.set4 {Y x r : Nat} {y0 y1 y2 y3 x1 : Value} {w : World} (h : Mr8 Y x y0 y1 y2 y3 x1 w) (h1 : ¬ Y = r) (h2 : ¬ x = r) (d0 d1 d2 d3 : Value) :
    Mr8 Y x y0 y1 y2 y3 x1 ((((w.setCell ⟨r, 0, none⟩ d0).setCell ⟨r, 1, none⟩ d1).setCell ⟨r, 2, none⟩ d2).setCell ⟨r, 3, none⟩ d3) :=
  h.keep (S := fun b => b = r) (Upto.set (Upto.set (Upto.set (Upto.set (Upto.refl _ _) 0 _) 1 _) 2 _) 3 _) h1 h2
end Go.Proofs.YtdomloghcpfdjaaGreatDoor
namespace Go.LF
open Tm in
/-- What Apply hands back. -/
def appE (m : Tm) (s : Sm) (us : List Tm) : Int :=
  if firstE Tm.wf (m :: us) ≠ 0 then firstE Tm.wf (m :: us) else if Sm.wf s ≠ 0 then Sm.wf s else
    if (m :: us).any (fun u => !(u.isObj && u.small)) = true then 32 else (Tm.ap (Tm.sb1 262145) m s.args us 0).e
def appT (m : Tm) (s : Sm) (us : List Tm) : Tm := if appE m s us = 0 then (Tm.ap (Tm.sb1 262145) m s.args us 0).t else Tm.none0
namespace Tm
/-- An object moved by nothing. -/
theorem shift_zero (t : Tm) (h : t.isObj = true) (hs : t.small = true) : t.shiftE 0 0 = 0 ∧ t.shiftT 0 0 = t := by
  have hwf := small_wf h hs
  have hm : mv (shF 0 0) 0 t = t := by
    rw [mv_congr (shF 0 0) (fun i => (i, true)) t 0 (fun x _ => by unfold mvi shF; split <;> simp), mv_same]
  have hg : great (mv (shF 0 0) 0 t) ≤ 1048576 := by
    rw [hm]
    exact (great_le t 1048576 (by omega) 0).2 (fun x hx h5 => ((obj_ok t h 0 x hx).1 (by simp [h5])).2)
  obtain ⟨e1, e2⟩ := shift_ref t hwf 0 0 (by omega) (by omega) (by omega) (by omega)
  have he : t.shiftE 0 0 = 0 := by
    unfold shiftE
    rw [if_neg (by rw [hwf]; simp), if_neg (by omega), if_pos (e2.1 hg)]
  refine ⟨he, ?_⟩
  unfold shiftT
  rw [he, if_pos rfl, ← e1, hm]
end Tm
end Go.LF
namespace Go.Proofs.YtdomloghcpfdjaaGreatDoor
open Go.RowKit Go.LF
/-- What the drawn region of Apply's closure reads. -/
abbrev Aq8 (bm bs : Nat) (m0 m1 m2 m3 s0 s1 : Value) (w' : World) : Prop :=
  (w'.cell? ⟨bm, 0, none⟩ = some m0 ∧ w'.cell? ⟨bm, 1, none⟩ = some m1 ∧ w'.cell? ⟨bm, 2, none⟩ = some m2 ∧ w'.cell? ⟨bm, 3, none⟩ = some m3) ∧ (w'.cell? ⟨bs, 0, none⟩ = some s0 ∧ w'.cell? ⟨bs, 1, none⟩ = some s1)
theorem Aq8.keep {bm bs : Nat} {m0 m1 m2 m3 s0 s1 : Value} {w w' : World} {S : Nat → Prop} (h : Aq8 bm bs m0 m1 m2 m3 s0 s1 w) (hU : Upto S w w') (h1 : ¬ S bm) (h2 : ¬ S bs) : Aq8 bm bs m0 m1 m2 m3 s0 s1 w' :=
  ⟨⟨hU.cell h.1.1 h1, hU.cell h.1.2.1 h1, hU.cell h.1.2.2.1 h1, hU.cell h.1.2.2.2 h1⟩, hU.cell h.2.1 h2, hU.cell h.2.2 h2⟩
theorem Aq8.new {bm bs : Nat} {m0 m1 m2 m3 s0 s1 : Value} {w : World} (h : Aq8 bm bs m0 m1 m2 m3 s0 s1 w) (o : Obj) : Aq8 bm bs m0 m1 m2 m3 s0 s1 (w.alloc o) := h.keep ((Upto.refl none' w).alloc o) (fun x => x) (fun x => x)
theorem Aq8.drew {bm bs : Nat} {m0 m1 m2 m3 s0 s1 : Value} {w : World} (h : Aq8 bm bs m0 m1 m2 m3 s0 s1 w) : Aq8 bm bs m0 m1 m2 m3 s0 s1 w.drew := h.keep (Upto.refl none' w).drew (fun x => x) (fun x => x)
theorem Aq8.set6 {bm bs r : Nat} {m0 m1 m2 m3 s0 s1 : Value} {w : World} (h : Aq8 bm bs m0 m1 m2 m3 s0 s1 w) (h1 : ¬ bm = r) (h2 : ¬ bs = r) (d0 d1 d2 d3 d4 d5 : Value) :
    Aq8 bm bs m0 m1 m2 m3 s0 s1 ((((((w.setCell ⟨r, 0, none⟩ d0).setCell ⟨r, 1, none⟩ d1).setCell ⟨r, 2, none⟩ d2).setCell ⟨r, 3, none⟩ d3).setCell ⟨r, 4, none⟩ d4).setCell ⟨r, 5, none⟩ d5) :=
  h.keep (S := fun b => b = r) (Upto.set (Upto.set (Upto.set (Upto.set (Upto.set (Upto.set (Upto.refl _ _) 0 _) 1 _) 2 _) 3 _) 4 _) 5 _) h1 h2
/-- The variable out of Apply's closure. -/
def AqR (O : Nat → Prop) (H wk : Nat) (r : Tm.Res) (w : World) (v : Value) (wc : World) : Prop :=
  ∃ (X : Nat) (k9 i9 : Int) (n9 : List UInt8) (a9 : Option Addr) (len9 cap9 : Nat), v = .pointer (some ⟨X, 0, none⟩) ∧ H < X ∧ Box6 wc X (.int .i64 k9) (.string (B n9)) (.int .i64 i9) (.slice a9 len9 cap9) (.int .i64 r.t.size) (.int .i64 r.t.depth) 92 ∧
    Rep (fun b => O b ∨ b = H ∨ b = X) wc r.t.dat [.int .i64 k9, .string (B n9), .int .i64 i9, .slice a9 len9 cap9] ∧ Upto (fun b => b = wk) w wc
theorem aq_fin {O : Nat → Prop} {H wk X : Nat} {r : Tm.Res} {w W : World} {z0 z1 z2 z3 z4 z5 : Value} {k i : Int} {n : List UInt8} {a : Option Addr} {len cap : Nat} (h6 : Box6 W X z0 z1 z2 z3 z4 z5 92)
    (hR : Rep (fun b => O b ∨ b = H ∨ b = X) W r.t.dat [.int .i64 k, .string (B n), .int .i64 i, .slice a len cap]) (hX : H < X) (hU : Upto (fun b => b = wk) w W) (hw : w.heap.size ≤ X) :
    AqR O H wk r w (.pointer (some ⟨X, 0, none⟩)) ((((((W.setCell ⟨X, 0, none⟩ (.int .i64 k)).setCell ⟨X, 1, none⟩ (.string (B n))).setCell ⟨X, 2, none⟩ (.int .i64 i)).setCell ⟨X, 3, none⟩ (.slice a len cap)).setCell ⟨X, 4, none⟩ (.int .i64 r.t.size)).setCell ⟨X, 5, none⟩ (.int .i64 r.t.depth)) :=
  ⟨X, k, i, n, a, len, cap, rfl, hX, h6.set.1, Rep.keep h6.set.2 (fun b e => .inr (.inr e)) _ _ hR, hU.trans h6.set.2 (fun b hb e => by omega)⟩
set_option maxRecDepth 100000 in
set_option maxHeartbeats 16000000 in
theorem apply1_any (m : Tm) (us : List Tm) (f : List UInt8) (ss : List Sm) (wk bu bm bs : Nat) (O : Nat → Prop) (w : World) (k i : Int) (nm : List UInt8) (a : Option Addr) (len cap : Nat) (ua : Option Addr) (uc : Nat) (sa : Option Addr) (sc : Nat)
    (hul : us.length ≤ 10000) (hsl : ss.length ≤ 10000) (hsc : ss.length ≤ sc) (hus : ∀ u ∈ us, u.isObj = true ∧ u.small = true) (hss : ∀ s ∈ ss, s.size ≤ 4096) (hm : m.isObj = true) (hms : m.small = true) (hOk : O wk) (hO : ∀ b, O b → b < w.heap.size) (hW : Work wk 0 w)
    (hbu : Box1 w bu (.slice ua us.length uc) 27) (hbm : Box4 w bm (.int .i64 k) (.string (B nm)) (.int .i64 i) (.slice a len cap) 29) (hbs : Box2 w bs (.string (B f)) (.slice sa ss.length sc) 33) (hkm : wk ≠ bm ∧ wk ≠ bs)
    (hR : Rep O w m.dat [.int .i64 k, .string (B nm), .int .i64 i, .slice a len cap]) (hE : RepE O w 4 (us.map Tm.dat) ua 0) (hS : RepE O w 2 (ss.map Sm.dat) sa 0) :
    Calls Tryz.prog 68 #[.pointer (some ⟨wk, 0, none⟩), .pointer (some ⟨bu, 0, none⟩), .pointer (some ⟨bm, 0, none⟩), .pointer (some ⟨bs, 0, none⟩)] w fun e w' =>
      OfR O (Tm.ap (Tm.sb1 262145) m ss us 0) e w' ∧ Upto (fun b => b = wk) w w' := by
  obtain ⟨i0, hi, hi0, hi1, hi2⟩ := info_parts info_made
  obtain ⟨w1, hw1⟩ : ∃ w1, w1 = w.alloc (.cells #[.int .i64 0, .string (B []), .int .i64 0, .slice none 0 0, .int .i64 0, .int .i64 0] 92) := ⟨_, rfl⟩
  have hU1 : Upto none' w w1 := by rw [hw1]; exact (Upto.refl none' w).alloc _
  have hr1 : Box6 w1 w.heap.size (.int .i64 0) (.string (B [])) (.int .i64 0) (.slice none 0 0) (.int .i64 0) (.int .i64 0) 92 := by rw [hw1]; exact Box6.at_new rfl
  have hz1 : w1.heap.size = w.heap.size + 1 := by rw [hw1]; simp
  have hW1 := hW.kept hU1
  have hbu1 := hbu.kept hU1
  have hbm1 := hbm.kept hU1
  have hbs1 := hbs.kept hU1
  have hR1 := (Rep.freshO hR).on hU1
  have hE1 := (RepE.fresh' _ _ _ _ hE).on hU1
  have hS1 := (RepE.fresh' _ _ _ _ hS).on hU1
  have hlu := hbu.lt
  have hlm := hbm.lt
  have hls := hbs.lt
  have HW := hid hw1
  obtain ⟨H, hH⟩ : ∃ H, H = w.heap.size := ⟨_, rfl⟩
  have HH := hid hH
  rw [← hH] at hr1 hz1 hR1 hE1 hS1 hlu hlm hls
  have hO' : ∀ b, O b → b < H := by rw [hH]; exact hO
  have hkH : wk < H := hO' wk hOk
  have HO : Hid (∀ b, (O b ∨ b = H) → b < H + 1) := hid (fun b h => by rcases h with h | h; (have := hO' b h; omega); omega)
  obtain ⟨ul, hull⟩ : ∃ ul, ul = us.length := ⟨_, rfl⟩
  obtain ⟨sl, hsll⟩ : ∃ sl, sl = ss.length := ⟨_, rfl⟩
  rw [← hull] at hbu1
  rw [← hsll] at hbs1
  have HL := hid (And.intro hull hsll)
  have hul3 : (ul : Int) ≤ 10000 := by omega
  have HP := hid (And.intro hus (And.intro hss (And.intro hm (And.intro hms (And.intro hsl hsc)))))
  have HU0 := hid (And.intro hU1 hO')
  have HR := hid (And.intro hR1 (And.intro hE1 hS1))
  have hul4 : ul ≤ 10000 := by omega
  clear hw1 hH hull hsll hul hus hss hm hms hsl hsc hU1 hR hE hS hW hbu hbm hbs hO hR1 hE1 hS1
  obtain ⟨r, hrr⟩ : ∃ r, r = Tm.ap (Tm.sb1 262145) m ss us 0 := ⟨_, rfl⟩
  rw [← hrr]
  have HRR := hid hrr
  clear hrr
  go_enter Tryz.func68, Tryz.ntmps68
  go_upto_region 2 with fail
  rw [← show B [] = { data := #[] } from rfl, ← HW.out, ← HH.out]
  have hcu := hbu1.cell
  go_wp2_with fail
  go_loopw [6, 12] (fun v6 v12 wr => ∃ (j : Nat) (css : List (List Value)), v12 = .int .i64 (j : Int) ∧ j ≤ ul ∧ RowD 92 6 (fun b => O b ∨ b = H) (H + 1) wr v6 ((us.take j).map mdat) css ∧ Upto none' w1 wr)
    (fun _ v12 _ => ul - (intOf v12).toNat)
  case atStart => exact ⟨0, [], rfl, Nat.zero_le _, RowD.nil _ _ _ _ _, Upto.refl _ _⟩
  case round =>
    clear hcu
    obtain ⟨j, css, rfl, hj, hD, hU⟩ := hrel
    have hzU := hU.size
    have u2 : (j : Int) ≤ 10000 := by omega
    have u3 : (0 : Int) ≤ (j : Int) := by omega
    by_cases hlt : j < ul
    · have hjm : j < us.length := by rw [← HL.out.1]; exact hlt
      have u4 : (j : Int) < (ul : Int) := by omega
      obtain ⟨eb, eo, ek, en, ei, es, ec, rfl, hebl, hebO, p0, p1, p2, p3, hRp⟩ := arg_tm (RepE.keep (O := fun b => O b ∨ H ≤ b) hU (fun b e => e.elim) _ _ _ _ HR.out.2.1) j hjm
      have hmsm := (HP.out.1 _ (List.getElem_mem hjm)).2
      have hsz := Tm.small_size hmsm
      have hln : ((us.take j).map mdat).length = j := by rw [List.length_map, List.length_take]; omega
      have htk : (us.take (j + 1)).map mdat = (us.take j).map mdat ++ [mdat us[j]] := by rw [List.take_succ_eq_append_getElem hjm, List.map_append]; rfl
      have ME := fun (W : World) (hu : Upto none' wr W) => measure_any us[j] (by omega) (fun b => (O b ∨ b = H) ∨ u6.ownBlock = some b) W (fun b e => by have z1 := hu.size; rcases e with e | e; (have := HO.out b e; omega); (have := (hD.2.2.1.lt b e).2; omega)) ek ei en es us[j].args.length ec
        ((Rep.weaken (fun b _ e => e.elim (fun e => e.elim .inl (fun e => .inr (by omega))) (fun e => .inr (by have := (hD.2.2.1.lt b e).1; omega))) _ _ hRp).on hu)
      have HTK := hid (And.intro hln htk)
      generalize us[j].args.length = el at *
      clear hln htk hRp hmsm hsz
      go_upto_region 5 with fail
      obtain ⟨w4, hw4⟩ : ∃ w4, w4 = wr.alloc (.cells #[.int .i64 ek, .string (B en), .int .i64 ei, .slice es el ec] 29) := ⟨_, rfl⟩
      have hU4 : Upto none' wr w4 := by rw [hw4]; exact (Upto.refl none' _).alloc _
      have hx4 : Box4 w4 wr.heap.size (.int .i64 ek) (.string (B en)) (.int .i64 ei) (.slice es el ec) 29 := by rw [hw4]; exact Box4.at_new rfl
      have hD4 := hD.on hU4 HO.out
      obtain ⟨X, hX⟩ : ∃ X, X = wr.heap.size := ⟨_, rfl⟩
      rw [← hw4, ← hX]
      rw [← hX] at hx4
      have ME4 := ME w4 hU4
      have hz4 : H + 1 ≤ w4.heap.size := by have := hU4.size; omega
      have HXX := hid hX
      clear hw4 p0 p1 p2 p3 ME hX
      obtain ⟨x0, x1, x2, x3⟩ := hx4.cells
      generalize hez : us[j].size = ez at *
      generalize hed : us[j].depth = ed at *
      have HZ := hid (And.intro hez hed)
      clear hez hed
      go_wp2_with (first | ((go_at_call 69); (with_reducible refine ME4.mono ?_); rintro e w6 ⟨rfl, hR6, hU6⟩; have hD6 := hD4.on hU6 HO.out; have z6 := hU6.size; have hal6 := (Upto.refl none' w6).alloc (.cells #[.int .i64 ek, .string (B en), .int .i64 ei, .slice es el ec, .int .i64 ez, .int .i64 ed] 92); have hDb := hD6.on hal6 HO.out; have own6 := hDb.2.2.1; rw [HTK.out.1] at own6) | (at_builtin; go_loud (refine wpList_append_lies _ (by rfl) _ _ 93 (by rfl) (H + 1) 92 i0 (.agg #[.int .i64 0, .string (B []), .int .i64 0, .slice none 0 0, .int .i64 0, .int .i64 0]) 6 72 (by kernel_rfl) hi hi0 hi1 hi2 rfl (by decide) u6 j css.flatten (by rfl) own6 ⟨w6.heap.size, 0, none⟩ 1 1 [.int .i64 ek, .string (B en), .int .i64 ei, .slice es el ec, .int .i64 ez, .int .i64 ed] (by rfl) rfl (World.news_of_block (heap_alloc_new w6 _)) (by simp [Value.oneCell']) (by omega) (by simp only [maxLen]; omega) (by omega) (by simp; omega) _ rfl ?_); intro g cap' w7 hown hgrow hat _hg7))
      have hRu : Rep (fun b => (O b ∨ b = H) ∨ u6.ownBlock = some b) (w6.alloc (.cells #[.int .i64 ek, .string (B en), .int .i64 ei, .slice es el ec, .int .i64 ez, .int .i64 ed] 92)) (mdat us[j]) [.int .i64 ek, .string (B en), .int .i64 ei, .slice es el ec, .int .i64 ez, .int .i64 ed] := by
        rw [← HZ.out.1, ← HZ.out.2]
        exact rep_mdat.2 ⟨hR6.on ((Upto.refl none' w6).alloc _), rfl, rfl⟩
      have hown8 : w7.ownsRow (H + 1) 92 6 (.slice (some ⟨g, 0, none⟩) (((us.take j).map mdat).length + 1) cap') (((us.take j).map mdat).length + 1) (css.flatten ++ [.int .i64 ek, .string (B en), .int .i64 ei, .slice es el ec, .int .i64 ez, .int .i64 ed]) := by rw [HTK.out.1]; exact hown
      have hT7 := hDb.appended (d := mdat us[j]) rfl hRu hown8 hgrow hat (Nat.le_refl _)
      rw [HTK.out.1, ← HTK.out.2] at hT7
      have hrow := hDb.upto hgrow
      have hU8 := (((hU.and hU4).and hU6).and hal6).trans hrow (fun b hb e => by omega)
      have HN := hid (And.intro hT7 hU8)
      clear hRu hown8 hT7 hrow hU8
      go_wp2_with fail
      try go_roundw
      all_goals first
        | exact ⟨⟨j + 1, _, by go_num, by omega, HN.out.1, HN.out.2⟩, by simp [intOf]; omega⟩
        | exact ⟨j + 1, _, by go_num, by omega, HN.out.1, HN.out.2⟩
        | (simp [intOf]; omega)
    · have hjl : j = ul := by omega
      subst hjl
      have htk : us.take j = us := List.take_of_length_le (by rw [← HL.out.1]; exact Nat.le_refl _)
      rw [htk] at hD
      obtain ⟨va, vc, rfl, hvc, hF⟩ := hD.rep HO.out
      rw [List.length_map, ← HL.out.1] at hvc
      rw [List.length_map, ← HL.out.1]
      have hbm2 := hbm1.kept hU
      have hbs2 := hbs1.kept hU
      have hr2 := hr1.kept hU
      have hW2 := hW1.kept hU
      have hUw : Upto none' w wr := HU0.out.1.and hU
      have hR2 : Rep (fun b => O b ∨ b = H) wr m.dat [.int .i64 k, .string (B nm), .int .i64 i, .slice a len cap] := Rep.weaken (fun b _ e => e.elim .inl (fun e => .inr (by omega))) _ _ (HR.out.1.on hU)
      have hS2 : RepE (fun b => O b ∨ b = H) wr 2 (ss.map Sm.dat) sa 0 := RepE.weaken (fun b _ e => e.elim .inl (fun e => .inr (by omega))) _ _ _ _ (HR.out.2.2.on hU)
      have ME := fun (W : World) (hu : Upto none' wr W) => measure_any m (by have := Tm.small_size HP.out.2.2.2.1; omega) (fun b => O b ∨ b = H) W (fun b e => by have := HO.out b e; have := hu.size; omega) k i nm a len cap (hR2.on hu)
      have AP := fun (W : World) (hu : Upto none' wr W) =>
        apply_any 262145 (of_any 262145) m ss us f 0 wk (fun b => O b ∨ b = H ∨ (wr.heap.size ≤ b ∧ b < W.heap.size)) W k i nm a len cap sa sc va vc (by omega) (by omega) HP.out.2.2.1 HP.out.2.2.2.1 (by rw [← HL.out.1]; exact hul4) HP.out.2.2.2.2.1 HP.out.2.2.2.2.2 HP.out.1 HP.out.2.1 (.inl hOk)
          (fun b e => by have h2 := hu.size; rcases e with e | e | e; (have := HO.out b (.inl e); omega); (have := HO.out b (.inr e); omega); exact e.2) (hW2.kept hu) (Rep.weaken (fun b _ e => e.elim (fun e => .inl (.inl e)) (fun e => e.elim (fun e => .inl (.inr e)) (fun e => .inr e.1))) _ _ ((Rep.freshO hR2).on hu))
          (RepE.weaken (fun b _ e => e.elim (fun e => .inl (.inl e)) (fun e => e.elim (fun e => .inl (.inr e)) (fun e => .inr e.1))) _ _ _ _ ((RepE.fresh' _ _ _ _ hS2).on hu)) (RepE.weaken (fun b _ e => e.elim (fun e => .inl (.inl e)) (fun e => e.elim (fun e => .inl (.inr e)) (fun e => .inr e.1))) _ _ _ _ ((RepE.fresh' _ _ _ _ hF).on hu))
      rw [← HRR.out, ← HL.out.1, ← HL.out.2] at AP
      have hg := Tm.ap_good (Tm.sb1 262145) (fun u s b w hu hu' hb hd => Tm.sb_good 262145 [u] [s] 0 b w (by simpa using ⟨hu, hu'⟩) (by omega) (by omega) hb) us m ss 0 HP.out.1 HP.out.2.2.1 HP.out.2.2.2.1
      rw [← HRR.out] at hg
      have hrl := hr2.lt
      have hHw : w.heap.size ≤ H := by rw [← HH.out]; exact Nat.le_refl _
      have hkw : wk < w.heap.size := by rw [← HH.out]; exact hkH
      have hzr := hU.size
      have HG := hid hg
      clear hD hF hR2 hS2 hg hW2
      generalize m.size = msz at *
      generalize m.depth = mdp at *
      have S2 : Aq8 bm bs (.int .i64 k) (.string (B nm)) (.int .i64 i) (.slice a len cap) (.string (B f)) (.slice sa sl sc) wr := ⟨hbm2.cells, hbs2.cells⟩
      have hz0 : bm < wr.heap.size := by omega
      have hz1' : bs < wr.heap.size := by omega
      have hz2 : H < wr.heap.size := by omega
      have nk1 : ¬ bm = wk := fun e => hkm.1 e.symm
      have nk2 : ¬ bs = wk := fun e => hkm.2 e.symm
      have hUw2 := hUw.mono (fun _ _ x => x.elim) (S' := fun b => b = wk)
      clear hbu1 hbm1 hbs1 hr1 hW1 hbm2 hbs2 htk
      go_upto_region 7 with fail
      by_cases he : r.e = 0
      · have HE := hid he
        clear he
        have hd : Upto none' wr wr.drew := (Upto.refl none' _).drew
        have ha : Upto none' wr (wr.alloc (.cells #[.int .i64 0, .string (B []), .int .i64 0, .slice none 0 0, .int .i64 0, .int .i64 0] 92)).drew := ((Upto.refl none' _).alloc _).drew
        have MEd := ME _ hd
        have MEa := ME _ ha
        have Sd := S2.drew
        have Sa := (S2.new (.cells #[.int .i64 0, .string (B []), .int .i64 0, .slice none 0 0, .int .i64 0, .int .i64 0] 92)).drew
        clear ME
        go_cut [9] from 22 to 27 (fun v9 wc => AqR O H wk r wr v9 wc)
        case first =>
          go_region_held3 (fun w' => Aq8 bm bs (.int .i64 k) (.string (B nm)) (.int .i64 i) (.slice a len cap) (.string (B f)) (.slice sa sl sc) w')
            (first | (with_reducible assumption) | (repeat' (first | (with_reducible assumption) | (with_reducible exact S2) | (with_reducible refine Aq8.drew ?_) | (with_reducible refine Aq8.new ?_ _) | (with_reducible refine Aq8.set6 ?_ (by (try simp only [World.size_alloc]); omega) (by (try simp only [World.size_alloc]); omega) _ _ _ _ _ _))))
            (first
              | ((go_at_call 69); (with_reducible refine MEd.mono ?_); rintro e wA ⟨rfl, hRA, hUA⟩; have SA := Sd.keep hUA (fun x => x) (fun x => x); have hwA : Upto none' wr wA := hd.and hUA; have zA := hwA.size)
              | ((go_at_call 69); (with_reducible refine MEa.mono ?_); rintro e wA ⟨rfl, hRA, hUA⟩; have SA := Sa.keep hUA (fun x => x) (fun x => x); have hwA : Upto none' wr wA := ha.and hUA; have zA := hwA.size; have h6a := (((Box6.at_new rfl : Box6 (wr.alloc (.cells #[.int .i64 0, .string (B []), .int .i64 0, .slice none 0 0, .int .i64 0, .int .i64 0] 92)) wr.heap.size _ _ _ _ _ _ 92).kept (Upto.refl none' _).drew).kept hUA); have h6al := h6a.lt)
              | ((go_at_call 70); (with_reducible refine (AP _ (hwA.alloc (.cells #[.int .i64 0, .string (B []), .int .i64 0, .slice none 0 0, .int .i64 0, .int .i64 0] 92))).mono ?_); rintro e wB ⟨hOf, hWB, hUB⟩; obtain ⟨k9, n9, i9, a9, len9, cap9, rfl, hRB⟩ := hOf.ok HE.out; have SB := (SA.new (.cells #[.int .i64 0, .string (B []), .int .i64 0, .slice none 0 0, .int .i64 0, .int .i64 0] 92)).keep hUB nk1 nk2; have zB := hUB.size; have hwB := (hwA.alloc (.cells #[.int .i64 0, .string (B []), .int .i64 0, .slice none 0 0, .int .i64 0, .int .i64 0] 92)); have h6 := ((Box6.at_new rfl : Box6 (wA.alloc (.cells #[.int .i64 0, .string (B []), .int .i64 0, .slice none 0 0, .int .i64 0, .int .i64 0] 92)) wA.heap.size _ _ _ _ _ _ 92).keep hUB (by omega)); obtain ⟨c0, c1, c2, c3, c4, c5⟩ := h6.cells; obtain ⟨d0, d1, d2, d3, d4, d5⟩ := h6.frozens; have h6l := h6.lt)
              | ((go_at_call 70); have h6c := h6a; (with_reducible refine (AP _ hwA).mono ?_); rintro e wB ⟨hOf, hWB, hUB⟩; obtain ⟨k9, n9, i9, a9, len9, cap9, rfl, hRB⟩ := hOf.ok HE.out; have SB := SA.keep hUB nk1 nk2; have zB := hUB.size; have hwB := hwA; have h6 := h6a.keep hUB (by omega); obtain ⟨c0, c1, c2, c3, c4, c5⟩ := h6.cells; obtain ⟨d0, d1, d2, d3, d4, d5⟩ := h6.frozens; have h6l := h6.lt)
              | ((go_at_call 70); (with_reducible refine (AP _ hwA).mono ?_); rintro e wB ⟨hOf, hWB, hUB⟩; obtain ⟨k9, n9, i9, a9, len9, cap9, rfl, hRB⟩ := hOf.ok HE.out; have SB := SA.keep hUB nk1 nk2; have zB := hUB.size; have hwB := hwA))
          all_goals
            go_wp2_with fail
            go_meet
          all_goals
            have hUx : Upto (fun b => b = wk) wr wB := (hwB.mono (fun _ _ x => x.elim)).trans hUB (fun _ _ e => e)
          all_goals first
            | (have h7 := h6; with_reducible refine aq_fin h7 ?_ ?_ hUx ?_; · exact (Rep.weaken (fun b _ e => by rcases e with e | e | e; (exact .inl e); (exact .inr (.inl e)); (right; right; subst e; simp only [World.size_alloc]; omega)) _ _ hRB)
               · omega
               · omega)
            | (have h7 := h6; with_reducible refine aq_fin h7 ?_ ?_ hUx ?_; · exact (Rep.weaken (fun b _ e => by rcases e with e | e | e; (exact .inl e); (exact .inr (.inl e)); (right; right; subst e; omega)) _ _ hRB)
               · omega
               · omega)
            | (refine ⟨wB.heap.size, k9, i9, n9, a9, len9, cap9, rfl, ?_, ?_, ?_, ?_⟩
               · omega
               · exact Box6.at_new rfl
               · exact Rep.weaken (fun b _ e => by rcases e with e | e | e; (exact .inl (.inl e)); (exact .inl (.inr (.inl e))); (right; omega)) _ _ ((Rep.freshO hRB).on ((Upto.refl none' wB).alloc _))
               · exact hUx.alloc _)
        case rest =>
          obtain ⟨X, k9, i9, n9, a9, len9, cap9, rfl, hXH, h6, hR9, hU9⟩ := hcut
          obtain ⟨w9, rfl⟩ : ∃ q, q = wc := ⟨wc, rfl⟩
          have hgd := HG.out.elim (fun h => h) (fun h => absurd HE.out h.1)
          obtain ⟨sz1, sz2⟩ := Tm.shift_zero r.t hgd.2.1 hgd.2.2
          have SH := shift_any r.t (by have := Tm.small_wt hgd.2.1 hgd.2.2; omega) 0 0 w9 _ (rep_pre hR9)
          rw [sz1, sz2] at SH
          obtain ⟨c0, c1, c2, c3, c4, c5⟩ := h6.cells
          go_wp2_with fail
          (with_reducible refine SH.mono ?_)
          rintro e w10 ⟨k5, i5, n5, a5, len5, cap5, rfl, hR10, hU10⟩
          have h7 := h6.kept hU10
          have hr10 := (hr2.keep hU9 (by omega)).kept hU10
          have hU11 : Upto (fun b => b = wk) w w10 := ((hUw.mono (fun _ _ x => x.elim)).trans hU9 (fun _ _ e => e)).trans hU10 (fun _ _ e => e.elim)
          have hR11 : Rep (fun b => O b ∨ b = H ∨ b = X) w10 r.t.dat [.int .i64 k5, .string (B n5), .int .i64 i5, .slice a5 len5 cap5] := Rep.weaken (fun b _ e => by have h1 := h6.lt; have h2 := hU9.size; rcases e with e | e | e; (have := HO.out b (.inl e); omega); all_goals omega) _ _ hR10
          have h8 := (((h7.set0 (.int .i64 k5)).set1 (.string (B n5))).set2 (.int .i64 i5)).set3 (.slice a5 len5 cap5)
          have hUs : Upto (fun b => b = X) w10 ((((w10.setCell ⟨X, 0, none⟩ (.int .i64 k5)).setCell ⟨X, 1, none⟩ (.string (B n5))).setCell ⟨X, 2, none⟩ (.int .i64 i5)).setCell ⟨X, 3, none⟩ (.slice a5 len5 cap5)) := Upto.set (Upto.set (Upto.set (Upto.set (Upto.refl _ _) 0 _) 1 _) 2 _) 3 _
          have hr12 := hr10.keep hUs (by omega)
          have hR12 := Rep.keep hUs (fun b e => .inr (.inr e)) _ _ hR11
          have hU12 : Upto (fun b => b = wk) w _ := hU11.trans hUs (fun b hb e => by have := HH.out; omega)
          obtain ⟨c0, c1, c2, c3, c4, c5⟩ := h7.cells
          obtain ⟨d0, d1, d2, d3, d4, d5⟩ := h7.frozens
          have h7l := h7.lt
          obtain ⟨w12, hw12⟩ : ∃ w12, w12 = ((((w10.setCell ⟨X, 0, none⟩ (.int .i64 k5)).setCell ⟨X, 1, none⟩ (.string (B n5))).setCell ⟨X, 2, none⟩ (.int .i64 i5)).setCell ⟨X, 3, none⟩ (.slice a5 len5 cap5)) := ⟨_, rfl⟩
          rw [← hw12] at h8 hr12 hR12 hU12
          have HW12 := hid hw12
          clear hw12 hUs
          go_upto_region 9 with fail
          rw [← HW12.out]
          clear c0 c1 c2 c3 c4 c5 d0 d1 d2 d3 d4 d5
          obtain ⟨c0, c1, c2, c3, c4, c5⟩ := h8.cells
          obtain ⟨y0, y1, y2, y3, y4, y5⟩ := hr12.cells
          obtain ⟨z0, z1, z2, z3, z4, z5⟩ := hr12.frozens
          have hrl := hr12.lt
          have hset := hr12.set (d0 := .int .i64 k5) (d1 := .string (B n5)) (d2 := .int .i64 i5) (d3 := .slice a5 len5 cap5) (d4 := .int .i64 r.t.size) (d5 := .int .i64 r.t.depth)
          obtain ⟨e0, e1, e2, e3, e4, e5⟩ := hset.1.cells
          have HEE := hid (And.intro e0 (And.intro e1 (And.intro e2 (And.intro e3 (And.intro e4 (And.intro e5 hset.2))))))
          clear e0 e1 e2 e3 e4 e5 hset
          go_wp2_with fail
          obtain ⟨e0, e1, e2, e3, e4, e5, hset⟩ := HEE.out
          refine bodyPost_ret (v := .agg #[.int .i64 k5, .string (B n5), .int .i64 i5, .slice a5 len5 cap5, .int .i64 r.t.size, .int .i64 r.t.depth]) ?_ rfl ?_
          · simp [results, Tryz.f68, go_sem, e0, e1, e2, e3, e4, e5]
          · exact ⟨.inl ⟨HE.out, k5, n5, i5, a5, len5, cap5, rfl, Rep.weaken (fun b _ e => .inl e) _ _ (Rep.keep hset (fun b e => .inr (.inl e)) _ _ hR12)⟩, hU12.trans hset (fun b hb e => by have := HH.out; omega)⟩
      · have HE := hid he
        clear he
        have hd : Upto none' wr wr.drew := (Upto.refl none' _).drew
        have ha : Upto none' wr (wr.alloc (.cells #[.int .i64 0, .string (B []), .int .i64 0, .slice none 0 0, .int .i64 0, .int .i64 0] 92)).drew := ((Upto.refl none' _).alloc _).drew
        have MEd := ME _ hd
        have MEa := ME _ ha
        have Sd := S2.drew
        have Sa := (S2.new (.cells #[.int .i64 0, .string (B []), .int .i64 0, .slice none 0 0, .int .i64 0, .int .i64 0] 92)).drew
        clear ME
        go_region_held2 (fun w' => Aq8 bm bs (.int .i64 k) (.string (B nm)) (.int .i64 i) (.slice a len cap) (.string (B f)) (.slice sa sl sc) w')
          (first | (with_reducible assumption) | (repeat' (first | (with_reducible assumption) | (with_reducible exact S2) | (with_reducible refine Aq8.drew ?_) | (with_reducible refine Aq8.new ?_ _) | (with_reducible refine Aq8.set6 ?_ (by (try simp only [World.size_alloc]); omega) (by (try simp only [World.size_alloc]); omega) _ _ _ _ _ _))))
          (first
            | ((go_at_call 69); (with_reducible refine MEd.mono ?_); rintro e wA ⟨rfl, hRA, hUA⟩; have SA := Sd.keep hUA (fun x => x) (fun x => x); have hwA : Upto none' wr wA := hd.and hUA; have zA := hwA.size)
            | ((go_at_call 69); (with_reducible refine MEa.mono ?_); rintro e wA ⟨rfl, hRA, hUA⟩; have SA := Sa.keep hUA (fun x => x) (fun x => x); have hwA : Upto none' wr wA := ha.and hUA; have zA := hwA.size; have h6a := (((Box6.at_new rfl : Box6 (wr.alloc (.cells #[.int .i64 0, .string (B []), .int .i64 0, .slice none 0 0, .int .i64 0, .int .i64 0] 92)) wr.heap.size _ _ _ _ _ _ 92).kept (Upto.refl none' _).drew).kept hUA))
            | ((go_at_call 70); (with_reducible refine (AP _ (hwA.alloc (.cells #[.int .i64 0, .string (B []), .int .i64 0, .slice none 0 0, .int .i64 0, .int .i64 0] 92))).mono ?_); rintro e wB ⟨hOf, hWB, hUB⟩; have hbad := hOf.bad HE.out; have hwB := hwA.alloc (.cells #[.int .i64 0, .string (B []), .int .i64 0, .slice none 0 0, .int .i64 0, .int .i64 0] 92); rcases e with v | ch | _; rotate_left; (obtain rfl := Ending.panicked.inj hbad; dsimp only; exact ⟨rfl, .inr ⟨HE.out, rfl⟩, ((hUw.mono (fun _ _ x => x.elim)).trans hwB (fun _ _ e => e.elim)).trans hUB (fun _ _ e => e)⟩); (exact absurd hbad (by simp [perr])); (have hf : Hid False := hid (by simp [perr] at hbad)); (obtain ⟨v0, v1, v2, v3, v4, v5, rfl⟩ := aggM v hf.out); clear hbad; dsimp only; have SB := (SA.new (.cells #[.int .i64 0, .string (B []), .int .i64 0, .slice none 0 0, .int .i64 0, .int .i64 0] 92)).keep hUB nk1 nk2; have h6 := ((Box6.at_new rfl : Box6 (wA.alloc (.cells #[.int .i64 0, .string (B []), .int .i64 0, .slice none 0 0, .int .i64 0, .int .i64 0] 92)) wA.heap.size _ _ _ _ _ _ 92).keep hUB (by omega)); obtain ⟨c0, c1, c2, c3, c4, c5⟩ := h6.cells; obtain ⟨d0, d1, d2, d3, d4, d5⟩ := h6.frozens; have h6l := h6.lt; have zB := hUB.size)
            | ((go_at_call 70); have h6c := h6a; (with_reducible refine (AP _ hwA).mono ?_); rintro e wB ⟨hOf, hWB, hUB⟩; have hbad := hOf.bad HE.out; rcases e with v | ch | _; rotate_left; (obtain rfl := Ending.panicked.inj hbad; dsimp only; exact ⟨rfl, .inr ⟨HE.out, rfl⟩, ((hUw.mono (fun _ _ x => x.elim)).trans hwA (fun _ _ e => e.elim)).trans hUB (fun _ _ e => e)⟩); (exact absurd hbad (by simp [perr])); (have hf : Hid False := hid (by simp [perr] at hbad)); (obtain ⟨v0, v1, v2, v3, v4, v5, rfl⟩ := aggM v hf.out); clear hbad; dsimp only; have SB := SA.keep hUB nk1 nk2; have h6 := h6c.keep hUB (by omega); obtain ⟨c0, c1, c2, c3, c4, c5⟩ := h6.cells; obtain ⟨d0, d1, d2, d3, d4, d5⟩ := h6.frozens; have h6l := h6.lt; have zB := hUB.size)
            | ((go_at_call 70); (with_reducible refine (AP _ hwA).mono ?_); rintro e wB ⟨hOf, hWB, hUB⟩; have hbad := hOf.bad HE.out; rcases e with v | ch | _; rotate_left; (obtain rfl := Ending.panicked.inj hbad; dsimp only; exact ⟨rfl, .inr ⟨HE.out, rfl⟩, ((hUw.mono (fun _ _ x => x.elim)).trans hwA (fun _ _ e => e.elim)).trans hUB (fun _ _ e => e)⟩); (exact absurd hbad (by simp [perr])); (have hf : Hid False := hid (by simp [perr] at hbad)); (obtain ⟨v0, v1, v2, v3, v4, v5, rfl⟩ := aggM v hf.out); clear hbad; dsimp only; have SB := SA.keep hUB nk1 nk2; have zB := hUB.size))
        all_goals exact hf.out.elim
end Go.Proofs.YtdomloghcpfdjaaGreatDoor
namespace Go.LF
theorem firstE_one {α : Type} (f : α → Int) (x : α) : firstE f [x] = f x := by
  unfold firstE
  by_cases h : f x = 0
  · rw [if_neg (by simp [h])]; unfold firstE; exact h.symm
  · rw [if_pos h]
end Go.LF
namespace Go.Proofs.YtdomloghcpfdjaaGreatDoor
open Go.RowKit Go.LF
set_option maxRecDepth 100000 in
set_option maxHeartbeats 16000000 in
theorem applyF_any (O : Nat → Prop) (m : Tm) (s : Sm) (us : List Tm) (hmw : m.wt ≤ 1000000) (huw : ∀ u ∈ us, u.wt ≤ 1000000) (hsw : s.wt ≤ 1000000) (hul : us.length ≤ 10000) (w : World) (hO : ∀ b, O b → b < w.heap.size) (cs es : List Value) (ua : Option Addr) (uc : Nat)
    (hR : Rep O w m.dat cs) (hS : Rep O w s.dat es) (hE : RepE O w 4 (us.map Tm.dat) ua 0) :
    Calls Tryz.prog 19 #[.agg cs.toArray, .agg es.toArray, .slice ua us.length uc] w (GivesE O (appE m s us) (appT m s us) w) := by
  obtain ⟨k, n, i, ts, a, cap, htt, rfl, _, _⟩ := tm_open hR
  generalize ts.length = len at *
  obtain ⟨f, ss, rfl⟩ : ∃ f ss, s = .mk f ss := by cases s with | mk f l => exact ⟨f, l, rfl⟩
  obtain ⟨sa, sc, rfl, hsc, hES⟩ := rep_sm.1 hS
  obtain ⟨w1, hw1⟩ : ∃ w1, w1 = (((w.alloc (.cells #[.int .i64 k, .string (B n), .int .i64 i, .slice a len cap] 29)).alloc (.cells #[.string (B f), .slice sa ss.length sc] 33)).alloc (.cells #[.slice ua us.length uc] 27)).alloc (.cells #[.int .i64 0, .string (B []), .int .i64 0, .slice none 0 0] 29) := ⟨_, rfl⟩
  have hU1 : Upto none' w w1 := by rw [hw1]; exact ((((Upto.refl none' w).alloc _).alloc _).alloc _).alloc _
  have ht1 : Box4 w1 w.heap.size (.int .i64 k) (.string (B n)) (.int .i64 i) (.slice a len cap) 29 := by rw [hw1]; exact (((Box4.at_new rfl).kept ((Upto.refl none' _).alloc _)).kept ((Upto.refl none' _).alloc _)).kept ((Upto.refl none' _).alloc _)
  have hs1 : Box2 w1 (w.heap.size + 1) (.string (B f)) (.slice sa ss.length sc) 33 := by rw [hw1]; exact ((Box2.at_new (by simp)).kept ((Upto.refl none' _).alloc _)).kept ((Upto.refl none' _).alloc _)
  have hu1 : Box1 w1 (w.heap.size + 1 + 1) (.slice ua us.length uc) 27 := by rw [hw1]; exact (Box1.at_new (by simp)).kept ((Upto.refl none' _).alloc _)
  have hr1 : Box4 w1 (w.heap.size + 1 + 1 + 1) (.int .i64 0) (.string (B [])) (.int .i64 0) (.slice none 0 0) 29 := by rw [hw1]; exact Box4.at_new (by simp)
  have hR1 := (Rep.freshO hR).on hU1
  have hS1 := (Rep.freshO hS).on hU1
  have hE1 := (RepE.fresh' _ _ _ _ hE).on hU1
  have hT1 := (RepE.fresh' _ _ _ _ hES).on hU1
  have HW := hid hw1
  obtain ⟨H, hH⟩ : ∃ H, H = w.heap.size := ⟨_, rfl⟩
  have HH := hid hH
  rw [← hH] at ht1 hs1 hu1 hr1 hR1 hS1 hE1 hT1
  have hO2 : ∀ b, O b → b < H := by rw [hH]; exact hO
  have HO := hid hO2
  obtain ⟨E, hEE⟩ : ∃ E, E = appE m (.mk f ss) us := ⟨_, rfl⟩
  obtain ⟨X, hXX⟩ : ∃ X, X = appT m (.mk f ss) us := ⟨_, rfl⟩
  rw [← hEE, ← hXX]
  unfold appT at hXX
  rw [← hEE] at hXX
  unfold appE at hEE
  have HEX := hid (And.intro hEE hXX)
  have FO := fun (W : World) (a9 : Option Addr) (c9 : Nat) (b9 : Option Addr) h9 h8 => subForms_any (m :: us) [.mk f ss] (by simp; omega) (fun u hu => (List.mem_cons.1 hu).elim (fun h => h ▸ hmw) (huw u)) (by simp) (by simpa using hsw) W a9 c9 b9 1 h9 h8
  rw [firstE_one] at FO
  have CO := fun (W : World) (a9 : Option Addr) (c9 : Nat) h9 => containsFunc_any (ts := m :: us) 66 (fun u => !(u.isObj && u.small)) (by simp; omega) (fun x hx W cs h => notObject_any x ((List.mem_cons.1 hx).elim (fun h => h ▸ hmw) (huw x)) W cs h) (Tryz.call66) W a9 c9 h9
  obtain ⟨ul, hull⟩ : ∃ ul, ul = us.length := ⟨_, rfl⟩
  obtain ⟨sl, hsll⟩ : ∃ sl, sl = ss.length := ⟨_, rfl⟩
  rw [← hull, ← hsll]
  rw [← hull] at hul hu1 HW
  rw [← hsll] at hs1 HW hsc
  have HL := hid (And.intro hull (And.intro hsll hsc))
  have HU := hid hU1
  have hul3 : (ul : Int) ≤ 10000 := by omega
  have hz1 : H + 4 ≤ w1.heap.size := by have := hr1.lt; omega
  have HP := hid (And.intro hmw (And.intro huw hsw))
  have hrow := RowS.one (O := fun b => O b ∨ b = H ∨ b = H + 1 ∨ b = H + 1 + 1 ∨ b = H + 1 + 1 + 1) (Rep.weaken (fun b _ e => by rcases e with e | e; (exact .inl e); (right; omega)) _ _ hR1)
  have hal : Upto none' w1 (w1.alloc (.cells #[.int .i64 k, .string (B n), .int .i64 i, .slice a len cap] 29)) := (Upto.refl none' _).alloc _
  clear hw1 hH hR hS hE hES hEE hXX hull hsll hU1 hO hO2 hmw huw hsw hsc
  obtain ⟨t0, t1, t2, t3⟩ := ht1.cells
  obtain ⟨s0, s1⟩ := hs1.cells
  have u0 := hu1.cell
  have hlt1 := ht1.lt
  have hls1 := hs1.lt
  have hlu1 := hu1.lt
  go_enter Tryz.func19, Tryz.ntmps19
  go_upto_region 1 with fail
  rw [← show B [] = { data := #[] } from rfl, ← HW.out, ← HH.out]
  go_wp2_with (at_builtin; go_loud (refine wpList_append_tms (by rfl) _ _ (by rfl) (by rfl) hrow ua ul uc us (by rfl) HL.out.1 (RepE.weaken (fun b _ e => by rcases e with (e | e) | e; (exact .inl e); all_goals (right; omega)) _ _ _ _ (hE1.on hal)) (by simp; have := HL.out.1; omega) (by have := hal.size; omega) ?_); intro v3 w3 css3 hS3 hg3 hat3; have hgo := grown_own hg3; have hU3 : Upto none' w1 w3 := (hal.trans hgo (fun b hb e => by simp [Value.ownBlock] at e; omega)); obtain ⟨va, vc, hv3, hvc, hF3⟩ := hS3.rep; subst hv3; have hs3 := hs1.kept hU3; have hs3c := hs3.cells; obtain ⟨s30, s31⟩ := hs3c; have hs3l := hs3.lt)
  obtain ⟨w4, hw4⟩ : ∃ w4, w4 = w3.alloc (.cells #[.string (B f), .slice sa sl sc] 33) := ⟨_, rfl⟩
  have hUa : Upto none' w3 w4 := by rw [hw4]; exact (Upto.refl none' _).alloc _
  have hE4 : RepE none' w4 2 ([Sm.mk f ss].map Sm.dat) (some ⟨w3.heap.size, 0, none⟩) 0 := by
    refine repE_oneS (rep_pre ((hS1.on hU3).on hUa)) (fun x => x) (T := 33) ?_
    rw [hw4, HL.out.2.1]; exact Box2.at_new rfl
  rw [← hw4]
  have hF4 := hF3.on hUa
  have F4 := FO w4 va vc _ (rep_pre' hF4) hE4
  simp only [List.length_cons, List.length_nil, Nat.zero_add] at F4
  have hU4 := hU3.and hUa
  clear hw4 FO hrow hal hgo hS3 hg3 hat3 hF3 t0 t1 t2 t3 s0 s1 s30 s31 u0
  (with_reducible refine F4.mono ?_)
  rintro e w5 ⟨rfl, hU5⟩
  have hU6 := hU4.and hU5
  have ht6 := ht1.kept hU6
  have hs6 := hs1.kept hU6
  have hu6 := hu1.kept hU6
  have hr6 := hr1.kept hU6
  have hF6 := hF4.on hU5
  obtain ⟨q, hq⟩ : ∃ q : Int, q = if firstE Tm.wf (m :: us) ≠ 0 then firstE Tm.wf (m :: us) else Sm.wf (.mk f ss) := ⟨_, rfl⟩
  rw [← hq]
  have HQ := hid hq
  clear hq F4
  by_cases hq : q = 0
  case neg =>
    have hE0 : E = q := by
      have h1 := HEX.out.1
      have h2 := HQ.out
      by_cases hf : firstE Tm.wf (m :: us) = 0
      · rw [if_neg (by simp [hf])] at h1 h2
        rw [h1, ← h2, if_pos hq]
      · rw [if_pos hf] at h1 h2
        rw [h1, h2]
    have H0 := hid (And.intro hE0 (show X = Tm.none0 by rw [HEX.out.2, hE0, if_neg hq]))
    have hq' : (q != 0) = true := by simpa using hq
    clear hE0 hq
    have hset := hr6.set (d0 := .int .i64 0) (d1 := .string (B [])) (d2 := .int .i64 0) (d3 := .slice none 0 0)
    obtain ⟨y0, y1, y2, y3⟩ := hr6.cells
    obtain ⟨z0, z1, z2, z3⟩ := hr6.frozens
    obtain ⟨e0, e1, e2, e3⟩ := hset.1.cells
    have HEE := hid (And.intro e0 (And.intro e1 (And.intro e2 (And.intro e3 hset.2))))
    have hlr := hr6.lt
    clear e0 e1 e2 e3 hset
    go_wp2_with fail
    obtain ⟨e0, e1, e2, e3, hset⟩ := HEE.out
    refine bodyPost_ret (v := .tuple #[.agg #[.int .i64 0, .string (B []), .int .i64 0, .slice none 0 0], .int .i64 q]) ?_ rfl ?_
    · simp [results, Tryz.f19, go_sem, e0, e1, e2, e3]
    · exact ⟨0, 0, [], none, 0, 0, by rw [H0.out.1], by rw [H0.out.2]; exact rep_leaf 0 [] 0, (HU.out.and hU6).trans hset (fun b hb e => by have := HH.out; omega)⟩
  subst hq
  have hf1 : firstE Tm.wf (m :: us) = 0 := by
    have h2 := HQ.out
    by_cases hf : firstE Tm.wf (m :: us) = 0
    · exact hf
    · rw [if_pos hf] at h2; exact absurd h2.symm hf
  have hf2 : Sm.wf (.mk f ss) = 0 := by
    have h2 := HQ.out
    rw [if_neg (by simp [hf1])] at h2
    exact h2.symm
  have hE1 := HEX.out.1
  rw [if_neg (by simp [hf1]), if_neg (by simp [hf2])] at hE1
  have C6 := CO w5 va vc (rep_pre' hF6)
  obtain ⟨an, han⟩ : ∃ an, an = (m :: us).any (fun u => !(u.isObj && u.small)) := ⟨_, rfl⟩
  rw [← han] at C6 hE1
  have HAN := hid (And.intro han (And.intro hf1 hf2))
  have hll : (m :: us).length = us.length + 1 := rfl
  rw [hll] at C6
  clear han CO HQ hf1 hf2 hll
  cases an
  case true =>
    rw [if_pos rfl] at hE1
    have H0 := hid (And.intro hE1 (show X = Tm.none0 by rw [HEX.out.2, hE1]; rfl))
    clear hE1
    go_wp2_with fail
    refine C6.mono ?_
    rintro e w7 ⟨rfl, hU7⟩
    have hr7 := hr6.kept hU7
    clear hr6
    have hset := hr7.set (d0 := .int .i64 0) (d1 := .string (B [])) (d2 := .int .i64 0) (d3 := .slice none 0 0)
    obtain ⟨y0, y1, y2, y3⟩ := hr7.cells
    obtain ⟨z0, z1, z2, z3⟩ := hr7.frozens
    obtain ⟨e0, e1, e2, e3⟩ := hset.1.cells
    have HEE := hid (And.intro e0 (And.intro e1 (And.intro e2 (And.intro e3 hset.2))))
    have hlr := hr7.lt
    clear e0 e1 e2 e3 hset
    go_wp2_with fail
    obtain ⟨e0, e1, e2, e3, hset⟩ := HEE.out
    refine bodyPost_ret (v := .tuple #[.agg #[.int .i64 0, .string (B []), .int .i64 0, .slice none 0 0], .int .i64 32]) ?_ rfl ?_
    · simp [results, Tryz.f19, go_sem, e0, e1, e2, e3]
    · exact ⟨0, 0, [], none, 0, 0, by rw [H0.out.1], by rw [H0.out.2]; exact rep_leaf 0 [] 0, (HU.out.and (hU6.and hU7)).trans hset (fun b hb e => by have := HH.out; omega)⟩
  rw [if_neg (by simp)] at hE1
  have hobj : ∀ u ∈ m :: us, u.isObj = true ∧ u.small = true := by
    intro u hu
    have h1 := HAN.out.1.symm
    rw [List.any_eq_false] at h1
    simpa using h1 u hu
  have hsz : (Sm.mk f ss).size ≤ 4096 := by
    have h1 := HAN.out.2.2
    unfold Sm.wf at h1
    split at h1
    · cases h1
    · split at h1
      · cases h1
      · rename_i h2; simp at h2; simp only [Sm.size_mk]; omega
  have hX1 : X = if E = 0 then (Tm.ap (Tm.sb1 262145) m ss us 0).t else Tm.none0 := HEX.out.2
  have hE2 : E = (Tm.ap (Tm.sb1 262145) m ss us 0).e := hE1
  have hrt : (Tm.ap (Tm.sb1 262145) m ss us 0).e ≠ 0 → (Tm.ap (Tm.sb1 262145) m ss us 0).t = Tm.none0 := by
    intro h
    unfold Tm.ap at h ⊢
    split
    · rename_i hl; rw [if_pos hl] at h; exact Tm.apF_none _ (fun u s b w h => Tm.sb_none _ _ _ _ _ _ h) _ _ _ _ h
    · rfl
  have hsl : ss.length ≤ 10000 := by have := Sm.length_le_sizes ss; simp only [Sm.size_mk] at hsz; omega
  have MA := fun (W : World) (wk : Nat) (Q : Nat → Prop) => apply1_any m us f ss wk (H + 1 + 1) H (H + 1) Q W k i n a len cap ua uc sa sc (by rw [← HL.out.1]; exact hul) hsl (by rw [← HL.out.2.1]; exact HL.out.2.2) (fun u hu => hobj u (by simp [hu])) (fun s hs => by have := Sm.size_le_sizes hs; simp only [Sm.size_mk] at hsz; omega) (hobj m (by simp)).1 (hobj m (by simp)).2
  rw [← HL.out.1, ← HL.out.2.1] at MA
  have RU := fun (W : World) => subRun_any 68 [.pointer (some ⟨H + 1 + 1, 0, none⟩), .pointer (some ⟨H, 0, none⟩), .pointer (some ⟨H + 1, 0, none⟩)] _ hrt (fun b => O b ∨ b = H + 1 + 1 + 1) W (Tryz.call68)
  have HX1 := hid (And.intro hE2 (And.intro hX1 hrt))
  have hmf : ∀ (fn : Fn) (first cap : Array Value) (w : World), (Instr.makeFunc fn first cap).run Tryz.prog w = .ok (.func fn first cap) w := fun _ _ _ _ => rfl
  generalize Tm.ap (Tm.sb1 262145) m ss us 0 = r at *
  clear hobj hsz hrt hE1 hE2 hX1 hsl
  go_wp2_with fail
  refine C6.mono ?_
  rintro e w7 ⟨rfl, hU7⟩
  have hU8 := hU6.and hU7
  have ht8 := ht6.kept hU7
  have hs8 := hs6.kept hU7
  have hu8 := hu6.kept hU7
  have hr8 := hr6.kept hU7
  have hzz := hU8.size
  have R3 := RU w7 (fun W wk hu hwk hsz hW => by
    have wkO : ∀ b, b < W.heap.size → ((O b ∨ b = H + 1 + 1 + 1) ∨ (w7.heap.size ≤ b ∧ b < w7.heap.size + 3)) → (O b ∨ H ≤ b) := fun b _ e => by rcases e with (e | e) | e; exact .inl e; all_goals (right; omega)
    have h := MA W wk (fun b => (O b ∨ b = H + 1 + 1 + 1) ∨ (w7.heap.size ≤ b ∧ b < w7.heap.size + 3)) (.inr (by omega)) (fun b e => by rcases e with (e | e) | e; (have := HO.out b e; omega); all_goals omega) hW (hu8.kept hu) (ht8.kept hu) (hs8.kept hu) (by omega)
      (Rep.weaken wkO _ _ ((hR1.on hU8).on hu)) (RepE.weaken wkO _ _ _ _ ((hE1.on hU8).on hu)) (RepE.weaken wkO _ _ _ _ ((hT1.on hU8).on hu))
    exact h)
  clear MA RU
  go_wp2_with fail
  (with_reducible refine R3.mono ?_)
  rintro e w9 ⟨k9, i9, n9, a9, len9, cap9, rfl, hR9, hU9⟩
  have hr9 := hr8.kept hU9
  clear hr8 hr6
  have hset := hr9.set (d0 := .int .i64 k9) (d1 := .string (B n9)) (d2 := .int .i64 i9) (d3 := .slice a9 len9 cap9)
  obtain ⟨y0, y1, y2, y3⟩ := hr9.cells
  obtain ⟨z0, z1, z2, z3⟩ := hr9.frozens
  obtain ⟨e0, e1, e2, e3⟩ := hset.1.cells
  have HEE := hid (And.intro e0 (And.intro e1 (And.intro e2 (And.intro e3 hset.2))))
  have hlr := hr9.lt
  clear e0 e1 e2 e3 hset
  go_wp2_with fail
  obtain ⟨e0, e1, e2, e3, hset⟩ := HEE.out
  refine bodyPost_ret (v := .tuple #[.agg #[.int .i64 k9, .string (B n9), .int .i64 i9, .slice a9 len9 cap9], .int .i64 r.e]) ?_ rfl ?_
  · simp [results, Tryz.f19, go_sem, e0, e1, e2, e3]
  · refine ⟨k9, i9, n9, a9, len9, cap9, by rw [HX1.out.1], ?_, ((HU.out.and hU8).and hU9).trans hset (fun b hb e => by have := HH.out; omega)⟩
    have hXr : X = r.t := by
      by_cases h0 : r.e = 0
      · rw [HX1.out.2.1, if_pos (by rw [HX1.out.1]; exact h0)]
      · rw [HX1.out.2.1, if_neg (by rw [HX1.out.1]; exact h0), HX1.out.2.2 h0]
    rw [hXr]
    exact Rep.weaken (fun b _ e => .inl e) _ _ (Rep.keep hset (fun b e => .inr e) _ _ hR9)
end Go.Proofs.YtdomloghcpfdjaaGreatDoor
namespace Go.LF
namespace Tm
theorem er_wt (t : Tm) : (er t).wt ≤ t.wt + 4 * t.size ∧ (er t).fam.length + Sm.wts (er t).args + 1 ≤ t.wt + 4 * t.size := by
  induction t using ind with
  | h k n i l ih =>
    rw [er_mk]
    split
    · match l, ih with
      | [], _ => rw [erA] <;> simp [Sm.wts] <;> try omega
      | [a], _ => rw [erA] <;> simp [Sm.wts] <;> try omega
      | a :: b :: rest, ih =>
        have h1 := (ih a (by simp)).1
        have h2 := (ih b (by simp)).2
        rw [erA]
        simp only [Sm.wt_mk, Sm.args_mk, Sm.fam_mk, Sm.wts, wt_mk, wts, size_mk, sizes]
        omega
    · split <;> simp [Sm.wts] <;> omega
end Tm
end Go.LF
namespace Go.Proofs.YtdomloghcpfdjaaGreatDoor
open Go.RowKit Go.LF
/-- What the last region of Instantiate reads. -/
abbrev In8 (H ab ao bb bo : Nat) (p3 m0 m1 m2 m3 a0 a1 a2 a3 b0 b1 b2 b3 : Value) (w' : World) : Prop :=
  w'.cell? ⟨H, 3, none⟩ = some p3 ∧ (w'.cell? ⟨H + 1, 0, none⟩ = some m0 ∧ w'.cell? ⟨H + 1, 1, none⟩ = some m1 ∧ w'.cell? ⟨H + 1, 2, none⟩ = some m2 ∧ w'.cell? ⟨H + 1, 3, none⟩ = some m3) ∧
  (w'.cell? ⟨ab, ao, none⟩ = some a0 ∧ w'.cell? ⟨ab, ao + 1, none⟩ = some a1 ∧ w'.cell? ⟨ab, ao + 2, none⟩ = some a2 ∧ w'.cell? ⟨ab, ao + 3, none⟩ = some a3) ∧
  (w'.cell? ⟨bb, bo, none⟩ = some b0 ∧ w'.cell? ⟨bb, bo + 1, none⟩ = some b1 ∧ w'.cell? ⟨bb, bo + 2, none⟩ = some b2 ∧ w'.cell? ⟨bb, bo + 3, none⟩ = some b3)
theorem In8.keep {H ab ao bb bo : Nat} {p3 m0 m1 m2 m3 a0 a1 a2 a3 b0 b1 b2 b3 : Value} {w w' : World} {S : Nat → Prop} (h : In8 H ab ao bb bo p3 m0 m1 m2 m3 a0 a1 a2 a3 b0 b1 b2 b3 w) (hU : Upto S w w') (h1 : ¬ S H) (h2 : ¬ S (H + 1)) (h3 : ¬ S ab) (h4 : ¬ S bb) :
    In8 H ab ao bb bo p3 m0 m1 m2 m3 a0 a1 a2 a3 b0 b1 b2 b3 w' :=
  ⟨hU.cell h.1 h1, ⟨hU.cell h.2.1.1 h2, hU.cell h.2.1.2.1 h2, hU.cell h.2.1.2.2.1 h2, hU.cell h.2.1.2.2.2 h2⟩, ⟨hU.cell h.2.2.1.1 h3, hU.cell h.2.2.1.2.1 h3, hU.cell h.2.2.1.2.2.1 h3, hU.cell h.2.2.1.2.2.2 h3⟩, ⟨hU.cell h.2.2.2.1 h4, hU.cell h.2.2.2.2.1 h4, hU.cell h.2.2.2.2.2.1 h4, hU.cell h.2.2.2.2.2.2 h4⟩⟩
theorem In8.set4 {H ab ao bb bo r : Nat} {p3 m0 m1 m2 m3 a0 a1 a2 a3 b0 b1 b2 b3 : Value} {w : World} (h : In8 H ab ao bb bo p3 m0 m1 m2 m3 a0 a1 a2 a3 b0 b1 b2 b3 w) (h1 : ¬ H = r) (h2 : ¬ H + 1 = r) (h3 : ¬ ab = r) (h4 : ¬ bb = r) (d0 d1 d2 d3 : Value) :
    In8 H ab ao bb bo p3 m0 m1 m2 m3 a0 a1 a2 a3 b0 b1 b2 b3 ((((w.setCell ⟨r, 0, none⟩ d0).setCell ⟨r, 1, none⟩ d1).setCell ⟨r, 2, none⟩ d2).setCell ⟨r, 3, none⟩ d3) :=
  h.keep (S := fun b => b = r) (Upto.set (Upto.set (Upto.set (Upto.set (Upto.refl _ _) 0 _) 1 _) 2 _) 3 _) h1 h2 h3 h4
/-- What the last region of the program's Instantiate reads. -/
abbrev Inq (H bb bo Y : Nat) (p3 m0 m1 m2 m3 b0 b1 b2 b3 y0 y1 : Value) (w' : World) : Prop :=
  w'.cell? ⟨H, 3, none⟩ = some p3 ∧ (w'.cell? ⟨H + 1, 0, none⟩ = some m0 ∧ w'.cell? ⟨H + 1, 1, none⟩ = some m1 ∧ w'.cell? ⟨H + 1, 2, none⟩ = some m2 ∧ w'.cell? ⟨H + 1, 3, none⟩ = some m3) ∧
  (w'.cell? ⟨bb, bo, none⟩ = some b0 ∧ w'.cell? ⟨bb, bo + 1, none⟩ = some b1 ∧ w'.cell? ⟨bb, bo + 2, none⟩ = some b2 ∧ w'.cell? ⟨bb, bo + 3, none⟩ = some b3) ∧ (w'.cell? ⟨Y, 0, none⟩ = some y0 ∧ w'.cell? ⟨Y, 1, none⟩ = some y1)
theorem Inq.keep {H bb bo Y : Nat} {p3 m0 m1 m2 m3 b0 b1 b2 b3 y0 y1 : Value} {w w' : World} {S : Nat → Prop} (h : Inq H bb bo Y p3 m0 m1 m2 m3 b0 b1 b2 b3 y0 y1 w) (hU : Upto S w w') (h1 : ¬ S H) (h2 : ¬ S (H + 1)) (h3 : ¬ S bb) (h4 : ¬ S Y) :
    Inq H bb bo Y p3 m0 m1 m2 m3 b0 b1 b2 b3 y0 y1 w' :=
  ⟨hU.cell h.1 h1, ⟨hU.cell h.2.1.1 h2, hU.cell h.2.1.2.1 h2, hU.cell h.2.1.2.2.1 h2, hU.cell h.2.1.2.2.2 h2⟩, ⟨hU.cell h.2.2.1.1 h3, hU.cell h.2.2.1.2.1 h3, hU.cell h.2.2.1.2.2.1 h3, hU.cell h.2.2.1.2.2.2 h3⟩, ⟨hU.cell h.2.2.2.1 h4, hU.cell h.2.2.2.2 h4⟩⟩
theorem Inq.set4 {H bb bo Y r : Nat} {p3 m0 m1 m2 m3 b0 b1 b2 b3 y0 y1 : Value} {w : World} (h : Inq H bb bo Y p3 m0 m1 m2 m3 b0 b1 b2 b3 y0 y1 w) (h1 : ¬ H = r) (h2 : ¬ H + 1 = r) (h3 : ¬ bb = r) (h4 : ¬ Y = r) (d0 d1 d2 d3 : Value) :
    Inq H bb bo Y p3 m0 m1 m2 m3 b0 b1 b2 b3 y0 y1 ((((w.setCell ⟨r, 0, none⟩ d0).setCell ⟨r, 1, none⟩ d1).setCell ⟨r, 2, none⟩ d2).setCell ⟨r, 3, none⟩ d3) :=
  h.keep (S := fun b => b = r) (Upto.set (Upto.set (Upto.set (Upto.set (Upto.refl _ _) 0 _) 1 _) 2 _) 3 _) h1 h2 h3 h4
end Go.Proofs.YtdomloghcpfdjaaGreatDoor
namespace Go.LF.Tm
theorem isName_le64 {n : List UInt8} (h : isName n = true) : n.length ≤ 64 := by
  unfold isName at h
  simp only [Bool.and_eq_true, decide_eq_true_eq] at h
  exact h.1.1.1.2
theorem bound_le64 {n : List UInt8} {i : Int} {l : List Tm} {k : Nat} (h : bound n i l k = true) : n.length ≤ 64 := by
  unfold bound at h
  simp only [Bool.and_eq_true, Bool.or_eq_true, beq_iff_eq] at h
  rcases h.2 with (h | h) | h
  · rw [h]; simp
  · rw [h]; simp
  · exact isName_le64 h
theorem wts_le65 {l : List Tm} (h : ∀ t ∈ l, t.wt ≤ 65 * t.size) : wts l ≤ 65 * sizes l := by
  induction l with
  | nil => simp [wts]
  | cons t ts ih =>
    have h1 := h t (by simp)
    have h2 := ih (fun a ha => h a (by simp [ha]))
    simp only [wts, sizes]; omega
theorem obj_wt65 (t : Tm) : t.isObj = true → t.wt ≤ 65 * t.size := by
  induction t using ind with
  | h k n i l ih =>
    intro h
    obtain ⟨h1, _⟩ := obj_args h
    have h2 := wts_le65 (fun u hu => ih u hu (h1 u hu))
    have hn : n.length ≤ 64 := by
      rw [isObj] at h
      split at h
      · simp only [Bool.and_eq_true] at h
        exact bound_le64 h.1
      · split at h
        · simp only [Bool.and_eq_true] at h
          exact isName_le64 h.1.1
        · split at h
          · simp only [Bool.and_eq_true, beq_iff_eq] at h
            rw [h.1.1.1]; simp
          · split at h
            · simp only [Bool.and_eq_true, beq_iff_eq] at h
              rw [h.1.1.1]; simp
            · cases h
    rw [wt_mk, size_mk]
    omega
theorem typ_wt65 (t : Tm) : t.isTyp = true → t.wt ≤ 65 * t.size := by
  induction t using ind with
  | h k n i l ih =>
    intro h
    rw [isTyp, isAtom] at h
    simp only [Bool.or_eq_true, Bool.and_eq_true, beq_iff_eq] at h
    rw [wt_mk, size_mk]
    rcases h with h | h
    · have h3 := h.2.2
      rw [allObj_iff, List.all_eq_true] at h3
      have h2 := wts_le65 (fun u hu => obj_wt65 u (h3 u hu))
      have := isName_le64 h.2.1.1
      omega
    · have h3 := h.2.2
      rw [allTyp_iff, List.all_eq_true] at h3
      have h2 := wts_le65 (fun u hu => ih u hu (h3 u hu))
      have := bound_le64 h.2.1
      omega
theorem knd_wt65 (t : Tm) : t.isKnd = true → t.wt ≤ 65 * t.size := by
  induction t using ind with
  | h k n i l ih =>
    intro h
    unfold isKnd at h
    split at h
    · rename_i a b e
      cases e
      simp only [Bool.and_eq_true, beq_iff_eq] at h
      have h1 := typ_wt65 _ h.2.2.1
      have h2 := ih b (by simp) h.2.2.2
      have := bound_le64 h.2.1
      simp only [wt_mk, size_mk, wts, sizes]
      omega
    · rename_i e
      cases e
      simp only [Bool.and_eq_true, beq_iff_eq, List.isEmpty_iff] at h
      rw [h.2.1, h.2.2.2]
      simp [wts, sizes]
/-- A well-formed term is not heavy. -/
theorem wf_wt65 {t : Tm} (h : t.wf = 0) : t.wt ≤ 266240 := by
  have hs := (wf_any3 h).2.1
  have : t.wt ≤ 65 * t.size := by
    rcases (wf_any3 h).1 with h1 | h1 | h1
    · exact obj_wt65 t h1
    · exact typ_wt65 t h1
    · exact knd_wt65 t h1
  omega
end Go.LF.Tm
