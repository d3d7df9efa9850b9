/- For every input TermForms returns true, and each argument reads afterwards as it read before; the package's names of binders are as its own text lays them (the card ties that). No other conditions. -/
import Derived.Test.YtdcbgkmhlpkjiaaDoorMade05All
import Derived.Test.YtdcbgkmhlpkjiaaDoorAwake05
import Derived.Test.YtdcbgkmhlpkjiaaDoorRefConsts
import Derived.Test.YtdcbgkmhlpkjiaaDoorLawLists
import Derived.Test.YtdcbgkmhlpkjiaaDoorArgs
import Derived.Test.YtdcbgkmhlpkjiaaDoorCards
import Derived.Test.YtdcbgkmhlpkjiaaDoorTie
import Derived.Deep.RegionHeld3
/- TermForms: its walk. -/
namespace Go.Proofs.YtdcbgkmhlpkjiaaDoor
open Go.RowKit Go.LF

theorem metas_len (t : Tm) : (Tm.metas t).length ≤ t.wt := by
  unfold Tm.metas
  have := Tm.size_le_wt t
  split
  · have := addMetas_len t []; simp at this; show (Tm.addMetas [] t).length ≤ _; omega
  · simp
theorem consts_len (t : Tm) : (Tm.consts t).length ≤ t.wt := by
  unfold Tm.consts
  have := Tm.size_le_wt t
  split
  · have := addConsts_len t []; simp at this; show (Tm.addConsts [] t).length ≤ _; omega
  · simp

set_option maxRecDepth 100000 in
set_option maxHeartbeats 16000000 in
theorem forms_walk (l : List Int) (a : Option Addr) (len cap : Nat) (hl : l.length = len) (hlen : len ≤ 17592186044416) (l' : List Int) (a' : Option Addr) (len' cap' : Nat) (hl' : l'.length = len') (hlen' : len' ≤ 17592186044416) (n : Int) (w : World)
    (hE : RepE none' w 1 (l.map (Dat.int .i64)) a 0) (hE' : RepE none' w 1 (l'.map (Dat.int .i64)) a' 0) (hN : NamesRead w) :
    Calls Tryd.prog 3 #[.slice a len cap, .slice a' len' cap', .int .i64 n] w fun e w' => e = .returned (.bool true) ∧ Upto none' w w' := by
  have HM := made05_any l a len cap hl hlen l' a' len' cap' hl' hlen' w hE hE' hN
  clear hE hE' hN hl hlen hl' hlen'
  go_enter Tryd.func3, Tryd.ntmps3
  go_wp2_with fail
  refine HM.mono ?_
  rintro e w1 ⟨k1, i1, n1, a1, len1, cap1, t, rfl, hR, hwt, hU⟩
  clear HM
  go_wp2_with fail
  refine (cut_any n 6 (by omega) (by omega) _).mono ?_
  rintro e w2 ⟨⟨c, hc, rfl⟩, rfl⟩
  have c0 : (0 : Int) ≤ c := by omega
  have c6 : (c : Int) < 6 := hc
  go_wp2_with fail
  obtain ⟨w2, hw2⟩ : ∃ w2, w2 = w1.alloc (.cells #[.int .i64 k1, .string (B n1), .int .i64 i1, .slice a1 len1 cap1] 25) := ⟨_, rfl⟩
  have S2 : TvS w2 w1.heap.size k1 n1 i1 a1 len1 cap1 w2 := ⟨by rw [hw2]; exact (Box4.at_new (T := 25) rfl).cells, Upto.refl _ _⟩
  have hU2 : Upto none' w1 w2 := by rw [hw2]; exact (Upto.refl none' w1).alloc _
  have hRt := hR.on hU2
  have hw := hU.and hU2
  rw [← hw2]
  clear hw2 hR hU hU2
  have hsz0 : t.size ≤ 1000000 := by have := Tm.size_le_wt t; omega
  have hwt1 : t.wt ≤ 1000000 := by omega
  obtain ⟨wf, hwf⟩ : ∃ x : Int, t.wf = x := ⟨_, rfl⟩
  have C1 := fun w' (h : Rep none' w' t.dat [.int .i64 k1, .string (B n1), .int .i64 i1, .slice a1 len1 cap1]) => wellFormed_at (w := w') t wf hwt1 hwf h
  have C2 := fun w' (h : Rep none' w' t.dat [.int .i64 k1, .string (B n1), .int .i64 i1, .slice a1 len1 cap1]) => refWellFormed_any t hwt1 w' _ h
  simp only [hwf] at C2
  obtain ⟨bk, hbk⟩ : ∃ x : Bool, (t.isKnd && t.small) = x := ⟨_, rfl⟩
  have C3 := fun w' (h : Rep none' w' t.dat [.int .i64 k1, .string (B n1), .int .i64 i1, .slice a1 len1 cap1]) => isKind_at (w := w') t bk hwt1 hbk h
  have C4 := fun w' (h : Rep none' w' t.dat [.int .i64 k1, .string (B n1), .int .i64 i1, .slice a1 len1 cap1]) => refIsKind_any t hwt1 w' _ h
  simp only [hbk] at C4
  obtain ⟨bt, hbt⟩ : ∃ x : Bool, (t.isTyp && t.small) = x := ⟨_, rfl⟩
  have C5 := fun w' (h : Rep none' w' t.dat [.int .i64 k1, .string (B n1), .int .i64 i1, .slice a1 len1 cap1]) => isType_at (w := w') t bt hwt1 hbt h
  have C6 := fun w' (h : Rep none' w' t.dat [.int .i64 k1, .string (B n1), .int .i64 i1, .slice a1 len1 cap1]) => refIsType_any t hwt1 w' _ h
  simp only [hbt] at C6
  obtain ⟨bo, hbo⟩ : ∃ x : Bool, (t.isObj && t.small) = x := ⟨_, rfl⟩
  have C7 := fun w' (h : Rep none' w' t.dat [.int .i64 k1, .string (B n1), .int .i64 i1, .slice a1 len1 cap1]) => isObject_at (w := w') t bo hwt1 hbo h
  have C8 := fun w' (h : Rep none' w' t.dat [.int .i64 k1, .string (B n1), .int .i64 i1, .slice a1 len1 cap1]) => refIsObject_any t hwt1 w' _ h
  simp only [hbo] at C8
  obtain ⟨sz, hsz⟩ : ∃ x : Int, (t.size : Int) = x := ⟨_, rfl⟩
  have C9 := fun w' (h : Rep none' w' t.dat [.int .i64 k1, .string (B n1), .int .i64 i1, .slice a1 len1 cap1]) => size_at (w := w') t sz hsz0 hsz h
  have C10 := fun w' (h : Rep none' w' t.dat [.int .i64 k1, .string (B n1), .int .i64 i1, .slice a1 len1 cap1]) => refSize_any t hsz0 w' _ h
  simp only [hsz] at C10
  obtain ⟨dp, hdp⟩ : ∃ x : Int, (t.depth : Int) = x := ⟨_, rfl⟩
  have C11 := fun w' (h : Rep none' w' t.dat [.int .i64 k1, .string (B n1), .int .i64 i1, .slice a1 len1 cap1]) => depth_at (w := w') t dp hsz0 hdp h
  have C12 := fun w' (h : Rep none' w' t.dat [.int .i64 k1, .string (B n1), .int .i64 i1, .slice a1 len1 cap1]) => refDepth_any t hsz0 w' _ h
  simp only [hdp] at C12
  obtain ⟨sc, hsc⟩ : ∃ x : Int, (if t.wf == 0 then t.scope else 0) = x := ⟨_, rfl⟩
  have C13 := fun w' (h : Rep none' w' t.dat [.int .i64 k1, .string (B n1), .int .i64 i1, .slice a1 len1 cap1]) => scope_at (w := w') t sc hwt1 hsc h
  have C14 := fun w' (h : Rep none' w' t.dat [.int .i64 k1, .string (B n1), .int .i64 i1, .slice a1 len1 cap1]) => refScope_any t hwt1 w' _ h
  simp only [hsc] at C14
  obtain ⟨oc, hoc⟩ : ∃ x : Bool, (t.wf == 0 && (decide (0 ≤ (c : Int) - 1) && t.occ ((c : Int) - 1))) = x := ⟨_, rfl⟩
  have C15 := fun w' (h : Rep none' w' t.dat [.int .i64 k1, .string (B n1), .int .i64 i1, .slice a1 len1 cap1]) => occurs_at (w := w') t ((c : Int) - 1) oc hwt1 hoc h
  have C16 := fun w' (h : Rep none' w' t.dat [.int .i64 k1, .string (B n1), .int .i64 i1, .slice a1 len1 cap1]) => refOccurs_any t hwt1 ((c : Int) - 1) (by omega) w' _ h
  simp only [hoc] at C16
  have C17 := fun w' (h : Rep none' w' t.dat [.int .i64 k1, .string (B n1), .int .i64 i1, .slice a1 len1 cap1]) => metas_any t hwt1 w' _ h
  have C18 := fun w' (h : Rep none' w' t.dat [.int .i64 k1, .string (B n1), .int .i64 i1, .slice a1 len1 cap1]) => refMetas_any t hwt1 w' _ h
  have C19 := fun w' (h : Rep none' w' t.dat [.int .i64 k1, .string (B n1), .int .i64 i1, .slice a1 len1 cap1]) => consts_any t hwt1 w' _ h
  have C20 := fun w' (h : Rep none' w' t.dat [.int .i64 k1, .string (B n1), .int .i64 i1, .slice a1 len1 cap1]) => refConsts_any t hwt1 w' _ h
  have hml : (Tm.metas t).length ≤ 10000000 := by have := metas_len t; omega
  have hcl : (Tm.consts t).length ≤ 10000000 := by have := consts_len t; omega
  generalize Tm.metas t = ml at *
  generalize Tm.consts t = cl at *
  clear hwf hbk hbt hbo hsz hdp hsc hoc hsz0 hwt hwt1
  have S2d := S2.on (Upto.refl none' w2).drew
  clear S2
  go_region_held3 (fun w' => TvS w2 w1.heap.size k1 n1 i1 a1 len1 cap1 w') (first | assumption | exact S2d | exact TvS.on (by assumption) (by assumption) | go_keep)
    (first
      | (go_at_call 19; refine (C1 _ (hRt.on (TvS.up (by assumption)))).mono ?_; rintro e w3 ⟨rfl, hU3⟩)
      | (go_at_call 20; refine (C2 _ (hRt.on (TvS.up (by assumption)))).mono ?_; rintro e w3 ⟨rfl, hU3⟩)
      | (go_at_call 21; refine (C3 _ (hRt.on (TvS.up (by assumption)))).mono ?_; rintro e w3 ⟨rfl, hU3⟩)
      | (go_at_call 22; refine (C4 _ (hRt.on (TvS.up (by assumption)))).mono ?_; rintro e w3 ⟨rfl, hU3⟩)
      | (go_at_call 23; refine (C5 _ (hRt.on (TvS.up (by assumption)))).mono ?_; rintro e w3 ⟨rfl, hU3⟩)
      | (go_at_call 24; refine (C6 _ (hRt.on (TvS.up (by assumption)))).mono ?_; rintro e w3 ⟨rfl, hU3⟩)
      | (go_at_call 25; refine (C7 _ (hRt.on (TvS.up (by assumption)))).mono ?_; rintro e w3 ⟨rfl, hU3⟩)
      | (go_at_call 26; refine (C8 _ (hRt.on (TvS.up (by assumption)))).mono ?_; rintro e w3 ⟨rfl, hU3⟩))
  go_wp2_with fail
  go_region_held3 (fun w' => TvS w2 w1.heap.size k1 n1 i1 a1 len1 cap1 w') (first | assumption | exact TvS.on (by assumption) (by assumption) | exact TvS.on (by assumption) (Upto.refl none' _).drew | go_keep)
    (first
      | (go_at_call 27; refine (C9 _ (hRt.on (TvS.up (by assumption)))).mono ?_; rintro e w3 ⟨rfl, hU3⟩)
      | (go_at_call 28; refine (C10 _ (hRt.on (TvS.up (by assumption)))).mono ?_; rintro e w3 ⟨rfl, hU3⟩)
      | (go_at_call 29; refine (C11 _ (hRt.on (TvS.up (by assumption)))).mono ?_; rintro e w3 ⟨rfl, hU3⟩)
      | (go_at_call 30; refine (C12 _ (hRt.on (TvS.up (by assumption)))).mono ?_; rintro e w3 ⟨rfl, hU3⟩)
      | (go_at_call 31; refine (C13 _ (hRt.on (TvS.up (by assumption)))).mono ?_; rintro e w3 ⟨rfl, hU3⟩)
      | (go_at_call 32; refine (C14 _ (hRt.on (TvS.up (by assumption)))).mono ?_; rintro e w3 ⟨rfl, hU3⟩)
      | (go_at_call 33; refine (C15 _ (hRt.on (TvS.up (by assumption)))).mono ?_; rintro e w3 ⟨rfl, hU3⟩)
      | (go_at_call 34; refine (C16 _ (hRt.on (TvS.up (by assumption)))).mono ?_; rintro e w3 ⟨rfl, hU3⟩))
  go_wp2_with fail
  go_region_held3 (fun w' => TvS w2 w1.heap.size k1 n1 i1 a1 len1 cap1 w') (first | assumption | exact TvS.on (by assumption) (by assumption) | exact TvS.on (by assumption) (Upto.refl none' _).drew | go_keep)
    (first
      | (go_at_call 36; refine (C17 _ (hRt.on (TvS.up (by assumption)))).mono ?_; rintro e w4 ⟨v4, rfl, hI4, hU4⟩; obtain ⟨va4, vc4, rfl, _, _⟩ := ints_open hI4.rep)
      | (go_at_call 37; refine (C18 _ (hRt.on (TvS.up (by assumption)))).mono ?_; rintro e w5 ⟨v5, rfl, hI5, hU5⟩; obtain ⟨va5, vc5, rfl, _, _⟩ := ints_open hI5.rep)
      | (go_at_call 35; refine (sameNumbers_any ml ml hml hml _ _ _ (Rep.on hI4.rep hU5) hI5.rep).mono ?_; rintro e w6 ⟨rfl, hU6⟩)
      | (go_at_call 39; refine (C19 _ (hRt.on (TvS.up (by assumption)))).mono ?_; rintro e w7 ⟨v7, rfl, hI7, hU7⟩; obtain ⟨va7, vc7, rfl, _, _⟩ := strs_open hI7.rep)
      | (go_at_call 40; refine (C20 _ (hRt.on (TvS.up (by assumption)))).mono ?_; rintro e w8 ⟨v8, rfl, hI8, hU8⟩; obtain ⟨va8, vc8, rfl, _, _⟩ := strs_open hI8.rep)
      | (go_at_call 38; refine (sameNames_any cl cl hcl hcl _ _ _ (Rep.on hI7.rep hU8) hI8.rep).mono ?_; rintro e w9 ⟨rfl, hU9⟩)
      | (go_at_call 41; refine (awake05 _).mono ?_; rintro e w10 ⟨rfl, hU10⟩))
  go_wp2_with fail
  go_ret
  exact ⟨rfl, hw.and (TvS.up (by assumption))⟩
end Go.Proofs.YtdcbgkmhlpkjiaaDoor

namespace Go.Proofs.YtdcbgkmhlpkjiaaDoor
open Go.ChangeShapes Go.WideShapes Go.ChangeAt Go.RowKit Go.LF

set_option maxRecDepth 100000 in
theorem termForms_lifted (os : Os) (started : os.Started) (H : Type) (enc : TypeId × Value → H) :
    ReturnsInHanded {} Tryd.checked os 3 .any (fun w args => (Rows.termFormsSpec.pre enc Tryd.prog Tryd.f3 [] false w args ∧ laidMetH Tryd.prog [("lfcheck/lfcheckmade.names", Rows.laid_lfcheck_lfcheckmade_names)] w) ∧ sizedMet enc Tryd.prog Tryd.f3 (OpenSpec.ofChange Rows.termFormsSpec) false w args)
      (Rows.termFormsSpec.post enc Tryd.prog Tryd.f3 false true false false) := by
  refine returnsInHanded_of_change_and (C := Tryd.checked) (X := fun w _ => laidMetH Tryd.prog [("lfcheck/lfcheckmade.names", Rows.laid_lfcheck_lfcheckmade_names)] w) (fun _ _ _ hh h => h.of_heap hh) own started (by kernel_rfl) Tryd.func3
    (ChangeSpec.witness_shaped (enc := enc) (C := Tryd.checked) (os := os) (X := fun w _ => laidMetH Tryd.prog [("lfcheck/lfcheckmade.names", Rows.laid_lfcheck_lfcheckmade_names)] w) false (World.doorLaid Tryd.prog 400 os) #[.slice none 0 0, .slice none 0 0, .int .i64 0] 8 rfl (World.shaped_of_RefB (by kernel_rfl) (by kernel_rfl)) (by kernel_rfl) (by kernel_rfl) (by kernel_rfl) (door_met os _)) ?_
  intro W base args ds gs before hval0 hW _ hsz0 hL _
  have hsz : (DataW.weightsEach Tryd.prog (Tryd.f3.params.toList ++ Rows.termFormsSpec.plain.varTypes Tryd.prog) (ds ++ gs)).all (· ≤ reachBytes) = true := hsz0
  clear hsz0
  have hval : ∀ (j : Nat) t v, Tryd.f3.params[j]? = some t → args[j]? = some v → Value.okWide Tryd.prog W .any base t v := hval0
  have hW' := hW
  obtain ⟨p, q, hA0, hV, rfl, hfz, hnd⟩ := hW
  have hA : DataW.TrodAll enc Tryd.prog W 0 (fun _ => true) true Tryd.f3.params.toList args.toList ds p := hA0
  rw [Tryd.params3] at hA hval hsz
  obtain ⟨v0, vs0, d0, ds0, p0, q0, hargs, rfl, rfl, h0, r0⟩ := trodAll_cons hA
  obtain ⟨v1, vs1, d1, ds1, p1, q1, rfl, rfl, rfl, h1, r1⟩ := trodAll_cons r0
  obtain ⟨v2, vs2, d2, ds2, p2, q2, rfl, rfl, rfl, h2, r2⟩ := trodAll_cons r1
  obtain ⟨rfl, rfl, rfl⟩ := trodAll_nil r2
  obtain rfl : args = #[v0, v1, v2] := Array.ext' hargs
  obtain ⟨rfl, rfl⟩ := trodVars_none hV
  clear hA0 hval0
  simp only [List.append_nil] at hW'
  have hlt : ∀ x, x ∈ p0 ∨ x ∈ p1 ∨ x ∈ p2 → x.block < W.heap.size := fun x hx => hW'.lt x (by simpa [List.mem_append, or_assoc] using hx)
  have hNR := names_of_laid hL
  have h0k := h0
  obtain ⟨a0, len0, cap0, rfl⟩ := okWide_slice Tryd.underlying22 (hval 0 22 v0 rfl rfl)
  obtain ⟨l0, hl0, _, hlen0, hE0⟩ := ints_arg h0 hsz (j := 0) rfl rfl
  have h1k := h1
  obtain ⟨a1, len1, cap1, rfl⟩ := okWide_slice Tryd.underlying22 (hval 1 22 v1 rfl rfl)
  obtain ⟨l1, hl1, _, hlen1, hE1⟩ := ints_arg h1 hsz (j := 1) rfl rfl
  obtain ⟨n2, rfl, rfl, rfl, wf2⟩ := open_int Tryd.underlying3 (hval 2 3 v2 rfl rfl) h2
  refine (forms_walk l0 a0 len0 cap0 hl0 hlen0 l1 a1 len1 cap1 hl1 hlen1 n2 W hE0 hE1 hNR).mono fun e W' ⟨he, hU⟩ => ?_
  subst he
  have hb := Upto.toBelow hU
  exact ⟨_, rfl, _, _, _, [], _, [], hW', (trodAll_cons_mk (shut_bool Tryd.underlying4 _) trodAll_mk0), (trodAll_cons_mk (Below.trod laidOut (by kernel_rfl) (of_decide_eq_true (by kernel_rfl)) h0k hb (fun x hx => hlt x (by simp [hx]))) (trodAll_cons_mk (Below.trod laidOut (by kernel_rfl) (of_decide_eq_true (by kernel_rfl)) h1k hb (fun x hx => hlt x (by simp [hx]))) (trodAll_cons_mk (shut_int Tryd.underlying3 wf2) trodAll_mk0))), rfl, hb.frame _, fun h => by cases h⟩

theorem termForms_holds : Rows.TermFormsSaid :=
  OpenClaim.holds_of_wide 3 Tryd.f3 rfl rfl rfl rfl rfl rfl rfl ⟨rfl, rfl, rfl, rfl, rfl⟩ rfl rfl rfl rfl rfl (by kernel_rfl) Tryd.func3 (by kernel_rfl)
    (of_decide_eq_true (by kernel_rfl)) (by unfold Func.isWrapper; first | (rw [if_pos (by decide +kernel)]; kernel_rfl) | (rw [if_neg (by decide +kernel)]; exact ⟨rfl, rfl⟩))
    (fun os started H enc _ => termForms_lifted os started H enc)

theorem termForms_card_holds : Rows.TermFormsCardSaid :=
  Claim7.holds_tied_plain_at .later [] [.data] true Rows.termFormsCard.stood.harness false
    termForms_holds (fun _ h => by cases h) (by kernel_rfl) (fun _ h => by cases h) termForms_row_tie rfl ⟨rfl, rfl⟩ (by kernel_rfl) rfl
    (fun f fn hf hfn => by
      obtain rfl : f = 3 := Option.some.inj ((show Tryd.prog.funcNamed Rows.termFormsRow.func = some 3 by kernel_rfl).symm.trans hf) |>.symm
      obtain rfl : fn = Tryd.f3 := (Option.some.inj (Tryd.func3.symm.trans hfn)).symm
      exact ⟨by kernel_rfl, fun j t ht => by
        rw [Tryd.params3] at ht
        have hm : t ∈ [22, 22, 3] := by simpa using Array.mem_of_getElem? ht
        have hall : ([22, 22, 3].all fun u => !Tryd.prog.wantsStandIn u) = true := by kernel_rfl
        exact (show Tryd.prog.wantsStandIn t = false by simpa using List.all_eq_true.1 hall t hm)⟩)
    (by kernel_rfl)
end Go.Proofs.YtdcbgkmhlpkjiaaDoor
