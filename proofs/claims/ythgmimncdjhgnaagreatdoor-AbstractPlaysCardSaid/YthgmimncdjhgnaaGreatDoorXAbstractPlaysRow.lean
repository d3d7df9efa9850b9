/- For every input yi returns true, and each argument reads Wd as it read before; sU X6 names of binders are as its own text aqu abu (sU ap2 ank wh). No other TK. -/
import Derived.Test.YthgmimncdjhgnaaGreatDoorXAbPlaysW
import Derived.Test.YthgmimncdjhgnaaGreatDoorCards
import Derived.Test.YthgmimncdjhgnaaGreatDoorTie
namespace Go.Proofs.YthgmimncdjhgnaaGreatDoor
open Go.ChangeShapes Go.WideShapes Go.ChangeAt Go.RowKit Go.LF
set_option maxRecDepth 100000 in
theorem nf (os : Os) (started : os.Started) (H : Type) (enc : TypeId × Value → H) :
    ReturnsInHanded {} Tryz.checked os 4 .any (fun w args => (Rows.abstractPlaysSpec.pre enc Tryz.prog Tryz.f4 [] false w args ∧ laidMetH Tryz.prog [("lfcheck/lfcheckmade.names", Rows.laid_lfcheck_lfcheckmade_names)] w) ∧ sizedMet enc Tryz.prog Tryz.f4 (OpenSpec.ofChange Rows.abstractPlaysSpec) false w args)
      (Rows.abstractPlaysSpec.post enc Tryz.prog Tryz.f4 false true false false) := by
  refine returnsInHanded_of_change_and (C := Tryz.checked) (X := fun w _ => laidMetH Tryz.prog [("lfcheck/lfcheckmade.names", Rows.laid_lfcheck_lfcheckmade_names)] w) (fun _ _ _ hh h => h.of_heap hh) own started (by kernel_rfl) Tryz.func4
    (ChangeSpec.witness_shaped (enc := enc) (C := Tryz.checked) (os := os) (X := fun w _ => laidMetH Tryz.prog [("lfcheck/lfcheckmade.names", Rows.laid_lfcheck_lfcheckmade_names)] w) false (World.doorLaid Tryz.prog 400 os) #[.slice none 0 0, .slice none 0 0, .agg #[.int .i64 0, .int .i64 0, .int .i64 0]] 8 rfl (World.shaped_of_RefB (by kernel_rfl) (by kernel_rfl)) (by kernel_rfl) (by kernel_rfl) (by kernel_rfl) (Nb os _)) ?_
  intro W base args ds gs before SO hW _ Up hL _
  have ee : (DataW.weightsEach Tryz.prog (Tryz.f4.params.toList ++ Rows.abstractPlaysSpec.plain.varTypes Tryz.prog) (ds ++ gs)).all (· ≤ reachBytes) = true := Up
  clear Up
  have uk : ∀ (j : Nat) t v, Tryz.f4.params[j]? = some t → args[j]? = some v → Value.okWide Tryz.prog W .any base t v := SO
  have Yh := hW
  obtain ⟨p, q, ZO, hV, rfl, hfz, JV⟩ := hW
  have hA : DataW.TrodAll enc Tryz.prog W 0 (fun _ => true) true Tryz.f4.params.toList args.toList ds p := ZO
  rw [Tryz.params4] at hA uk ee
  obtain ⟨v0, vs0, d0, ds0, p0, q0, De, rfl, rfl, h0, r0⟩ := trodAll_cons hA
  obtain ⟨v1, vs1, d1, ds1, p1, q1, rfl, rfl, rfl, h1, r1⟩ := trodAll_cons r0
  obtain ⟨v2, vs2, d2, ds2, p2, q2, rfl, rfl, rfl, h2, r2⟩ := trodAll_cons r1
  obtain ⟨rfl, rfl, rfl⟩ := trodAll_nil r2
  obtain rfl : args = #[v0, v1, v2] := Array.ext' De
  obtain ⟨rfl, rfl⟩ := trodVars_none hV
  clear ZO SO
  simp only [List.append_nil] at Yh
  have aB : ∀ x, x ∈ p0 ∨ x ∈ p1 ∨ x ∈ p2 → x.block < W.heap.size := fun x hx => Yh.lt x (by simpa [List.mem_append, or_assoc] using hx)
  have hNR := yo hL
  have h0k := h0
  obtain ⟨a0, FH, xU, rfl⟩ := okWide_slice Tryz.underlying22 (uk 0 22 v0 rfl rfl)
  obtain ⟨l0, OI, _, LV, gL⟩ := Ct h0 ee (j := 0) rfl rfl
  have h1k := h1
  obtain ⟨a1, bH, bG, rfl⟩ := okWide_slice Tryz.underlying22 (uk 1 22 v1 rfl rfl)
  obtain ⟨l1, rI, _, L6, fU⟩ := Ct h1 ee (j := 1) rfl rfl
  have h2k := h2
  obtain ⟨aiq, afo, afF, rfl⟩ := Ly (uk 2 42 v2 rfl rfl) h2
  refine (pI l0 a0 FH xU OI LV l1 a1 bH bG rI L6 aiq afo afF W gL fU hNR).mono fun e W' ⟨he, hU⟩ => ?_
  subst he
  have hb := af.toBelow hU
  exact ⟨_, rfl, _, _, _, [], _, [], Yh, (trodAll_cons_mk (shut_bool Tryz.underlying4 _) trodAll_mk0), (trodAll_cons_mk (Below.trod laidOut (by kernel_rfl) (of_decide_eq_true (by kernel_rfl)) h0k hb (fun x hx => aB x (by simp [hx]))) (trodAll_cons_mk (Below.trod laidOut (by kernel_rfl) (of_decide_eq_true (by kernel_rfl)) h1k hb (fun x hx => aB x (by simp [hx]))) (trodAll_cons_mk (Below.trod laidOut (by kernel_rfl) (of_decide_eq_true (by kernel_rfl)) h2k hb (fun x hx => aB x (by simp [hx]))) trodAll_mk0))), rfl, hb.frame _, fun h => by cases h⟩
theorem pd : Rows.AbstractPlaysSaid :=
  OpenClaim.holds_of_wide 4 Tryz.f4 rfl rfl rfl rfl rfl rfl rfl ⟨rfl, rfl, rfl, rfl, rfl⟩ rfl rfl rfl rfl rfl (by kernel_rfl) Tryz.func4 (by kernel_rfl)
    (of_decide_eq_true (by kernel_rfl)) (by unfold Func.isWrapper; first | (rw [if_pos (by decide +kernel)]; kernel_rfl) | (rw [if_neg (by decide +kernel)]; exact ⟨rfl, rfl⟩))
    (fun os started H enc _ => nf os started H enc)
theorem abstractPlays_card_holds : Rows.AbstractPlaysCardSaid :=
  Claim7.holds_tied_plain_at .later [] [.data] true Rows.abstractPlaysCard.stood.harness Rows.abstractPlaysCard.stood.looks
    pd (fun _ h => by cases h) (by kernel_rfl) (fun _ h => by cases h) abstractPlays_row_tie rfl ⟨rfl, rfl⟩ (by kernel_rfl) rfl
    (fun f fn hf hfn => by
      obtain rfl : f = 4 := Option.some.inj ((show Tryz.prog.funcNamed Rows.abstractPlaysRow.func = some 4 by kernel_rfl).symm.trans hf) |>.symm
      obtain rfl : fn = Tryz.f4 := (Option.some.inj (Tryz.func4.symm.trans hfn)).symm
      exact ⟨by kernel_rfl, fun j t ht => by
        rw [Tryz.params4] at ht
        have hm : t ∈ [22, 22, 42] := by simpa using Array.mem_of_getElem? ht
        have fO : ([22, 22, 42].all fun u => !Tryz.prog.wantsStandIn u) = true := by kernel_rfl
        exact (show Tryz.prog.wantsStandIn t = false by simpa using List.all_eq_true.1 fO t hm)⟩)
    (by kernel_rfl)
end Go.Proofs.YthgmimncdjhgnaaGreatDoor
