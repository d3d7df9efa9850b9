/- For every input MetaOrders returns true, and each argument reads afterwards as it read before; the package's names of binders are as its own text lays them (the card ties that). No other conditions. -/
import Derived.Test.YtdomloghcpfdjaaGreatDoorRMtOrdersW
import Derived.Test.YtdomloghcpfdjaaGreatDoorRCH
import Derived.Test.YtdomloghcpfdjaaGreatDoorCards
import Derived.Test.YtdomloghcpfdjaaGreatDoorTie
namespace Go.Proofs.YtdomloghcpfdjaaGreatDoor
open Go.ChangeShapes Go.WideShapes Go.ChangeAt Go.RowKit Go.LF
set_option maxRecDepth 100000 in
theorem metaOrders_lifted (os : Os) (started : os.Started) (H : Type) (enc : TypeId × Value → H) :
    ReturnsInHanded {} Tryz.checked os 8 .any (fun w args => (Rows.metaOrdersSpec.pre enc Tryz.prog Tryz.f8 [] false w args ∧ laidMetH Tryz.prog [("lfcheck/lfcheckmade.names", Rows.laid_lfcheck_lfcheckmade_names)] w) ∧ sizedMet enc Tryz.prog Tryz.f8 (OpenSpec.ofChange Rows.metaOrdersSpec) false w args)
      (Rows.metaOrdersSpec.post enc Tryz.prog Tryz.f8 false true false false) := by
  refine returnsInHanded_of_change_and (C := Tryz.checked) (X := fun w _ => laidMetH Tryz.prog [("lfcheck/lfcheckmade.names", Rows.laid_lfcheck_lfcheckmade_names)] w) (fun _ _ _ hh h => h.of_heap hh) own started (by kernel_rfl) Tryz.func8
    (ChangeSpec.witness_shaped (enc := enc) (C := Tryz.checked) (os := os) (X := fun w _ => laidMetH Tryz.prog [("lfcheck/lfcheckmade.names", Rows.laid_lfcheck_lfcheckmade_names)] w) false (World.doorLaid Tryz.prog 400 os) #[.slice none 0 0, .slice none 0 0] 8 rfl (World.shaped_of_RefB (by kernel_rfl) (by kernel_rfl)) (by kernel_rfl) (by kernel_rfl) (by kernel_rfl) (door_met os _)) ?_
  intro W base args ds gs before hval0 hW _ hsz0 hL _
  have hsz : (DataW.weightsEach Tryz.prog (Tryz.f8.params.toList ++ Rows.metaOrdersSpec.plain.varTypes Tryz.prog) (ds ++ gs)).all (· ≤ reachBytes) = true := hsz0
  clear hsz0
  have hval : ∀ (j : Nat) t v, Tryz.f8.params[j]? = some t → args[j]? = some v → Value.okWide Tryz.prog W .any base t v := hval0
  have hW' := hW
  obtain ⟨p, q, hA0, hV, rfl, hfz, hnd⟩ := hW
  have hA : DataW.TrodAll enc Tryz.prog W 0 (fun _ => true) true Tryz.f8.params.toList args.toList ds p := hA0
  rw [Tryz.params8] at hA hval hsz
  obtain ⟨v0, vs0, d0, ds0, p0, q0, hargs, rfl, rfl, h0, r0⟩ := trodAll_cons hA
  obtain ⟨v1, vs1, d1, ds1, p1, q1, rfl, rfl, rfl, h1, r1⟩ := trodAll_cons r0
  obtain ⟨rfl, rfl, rfl⟩ := trodAll_nil r1
  obtain rfl : args = #[v0, v1] := Array.ext' hargs
  obtain ⟨rfl, rfl⟩ := trodVars_none hV
  clear hA0 hval0
  simp only [List.append_nil] at hW'
  have hlt : ∀ x, x ∈ p0 ∨ x ∈ p1 → x.block < W.heap.size := fun x hx => hW'.lt x (by simpa [List.mem_append, or_assoc] using hx)
  have hNR := names_of_laid hL
  have h0k := h0
  obtain ⟨a0, len0, cap0, rfl⟩ := okWide_slice Tryz.underlying22 (hval 0 22 v0 rfl rfl)
  obtain ⟨l0, hl0, _, hlen0, hE0⟩ := ints_arg h0 hsz (j := 0) rfl rfl
  have h1k := h1
  obtain ⟨a1, len1, cap1, rfl⟩ := okWide_slice Tryz.underlying22 (hval 1 22 v1 rfl rfl)
  obtain ⟨l1, hl1, _, hlen1, hE1⟩ := ints_arg h1 hsz (j := 1) rfl rfl
  refine (metaOrders_walk l0 a0 len0 cap0 hl0 hlen0 l1 a1 len1 cap1 hl1 hlen1 W hE0 hE1 hNR).mono fun e W' ⟨he, hU⟩ => ?_
  subst he
  have hb := Upto.toBelow hU
  exact ⟨_, rfl, _, _, _, [], _, [], hW', (trodAll_cons_mk (shut_bool Tryz.underlying4 _) trodAll_mk0), (trodAll_cons_mk (Below.trod laidOut (by kernel_rfl) (of_decide_eq_true (by kernel_rfl)) h0k hb (fun x hx => hlt x (by simp [hx]))) (trodAll_cons_mk (Below.trod laidOut (by kernel_rfl) (of_decide_eq_true (by kernel_rfl)) h1k hb (fun x hx => hlt x (by simp [hx]))) trodAll_mk0)), rfl, hb.frame _, fun h => by cases h⟩
theorem metaOrders_holds : Rows.MetaOrdersSaid :=
  OpenClaim.holds_of_wide 8 Tryz.f8 rfl rfl rfl rfl rfl rfl rfl ⟨rfl, rfl, rfl, rfl, rfl⟩ rfl rfl rfl rfl rfl (by kernel_rfl) Tryz.func8 (by kernel_rfl)
    (of_decide_eq_true (by kernel_rfl)) (by unfold Func.isWrapper; first | (rw [if_pos (by decide +kernel)]; kernel_rfl) | (rw [if_neg (by decide +kernel)]; exact ⟨rfl, rfl⟩))
    (fun os started H enc _ => metaOrders_lifted os started H enc)
theorem metaOrders_card_holds : Rows.MetaOrdersCardSaid :=
  Claim7.holds_tied_plain_at .later [] [.data] true Rows.metaOrdersCard.stood.harness Rows.metaOrdersCard.stood.looks
    metaOrders_holds (fun _ h => by cases h) (by kernel_rfl) (fun _ h => by cases h) metaOrders_row_tie rfl ⟨rfl, rfl⟩ (by kernel_rfl) rfl
    (fun f fn hf hfn => by
      obtain rfl : f = 8 := Option.some.inj ((show Tryz.prog.funcNamed Rows.metaOrdersRow.func = some 8 by kernel_rfl).symm.trans hf) |>.symm
      obtain rfl : fn = Tryz.f8 := (Option.some.inj (Tryz.func8.symm.trans hfn)).symm
      exact ⟨by kernel_rfl, fun j t ht => by
        rw [Tryz.params8] at ht
        have hm : t ∈ [22, 22] := by simpa using Array.mem_of_getElem? ht
        have hall : ([22, 22].all fun u => !Tryz.prog.wantsStandIn u) = true := by kernel_rfl
        exact (show Tryz.prog.wantsStandIn t = false by simpa using List.all_eq_true.1 hall t hm)⟩)
    (by kernel_rfl)
end Go.Proofs.YtdomloghcpfdjaaGreatDoor
