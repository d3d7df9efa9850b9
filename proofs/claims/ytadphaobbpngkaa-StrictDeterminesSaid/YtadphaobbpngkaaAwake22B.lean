/- Layer 22's awake: it answers true. -/
import Derived.Test.YtadphaobbpngkaaCP
import Derived.Test.YtadphaobbpngkaaCN
import Derived.Deep.RegionHeld3
namespace Go.Proofs.Ytadphaobbpngkaa
open Go.RowKit Go.LF
abbrev tX : Tm := .mk 5 [] 1 [.mk 5 [] 0 []]
theorem ax1 : strictV tX [2, 1] = [false, true] := by decide
theorem ax2 : strictV tX [0, 1] = [false, false] := by decide
theorem ax3 : occurV tX [2, 1] = [false, true] := by decide
theorem ax4 : patternsV tX [2, 1] = true := by decide
theorem ax5 : patternsV tX [0, 1] = false := by decide
theorem ax6 : knownV tX [2, 1] [false, true] = true := by decide
theorem ax7 : knownV tX [2, 1] [] = false := by decide
theorem axw : tX.wt ≤ 100000 := by decide
theorem two_ints {O : Nat → Prop} {W : World} {b : Nat} {T : TypeId} {x y : Int} (hO : ¬ O b) (h : W.heap[b]? = some (.cells #[.int .i64 x, .int .i64 y] T)) : RepE O W 1 (([x, y] : List Int).map (Dat.int .i64)) (some ⟨b, 0, none⟩) 0 := by
  have hlt := (Array.getElem?_eq_some_iff.1 h).1
  refine repE_row (D := Dat.int .i64) (V := Value.int .i64) (fun x => by simp [Rep]) [x, y] _ 0 (fun i hi => ⟨b, rfl, hlt, hO, ?_⟩)
  have hi' : i = 0 ∨ i = 1 := by simp at hi; omega
  rcases hi' with rfl | rfl <;> simp [World.cell?, h]
theorem two_bools {O : Nat → Prop} {W : World} {b : Nat} {T : TypeId} {x y : Bool} (hO : ¬ O b) (h : W.heap[b]? = some (.cells #[.bool x, .bool y] T)) : RepE O W 1 (([x, y] : List Bool).map Dat.bool) (some ⟨b, 0, none⟩) 0 := by
  have hlt := (Array.getElem?_eq_some_iff.1 h).1
  refine repE_row (D := Dat.bool) (V := Value.bool) (fun x => by simp [Rep]) [x, y] _ 0 (fun i hi => ⟨b, rfl, hlt, hO, ?_⟩)
  have hi' : i = 0 ∨ i = 1 := by simp at hi; omega
  rcases hi' with rfl | rfl <;> simp [World.cell?, h]
/-- What awake needs of a world. -/
structure AwX (b : Nat) (W w' : World) : Prop where
  box : Box4 w' (b + 1) (.int .i64 5) (.string (B [])) (.int .i64 1) (.slice (some ⟨b, 0, none⟩) 1 1) 32
  rep : Rep none' w' tX.dat [.int .i64 5, .string (B []), .int .i64 1, .slice (some ⟨b, 0, none⟩) 1 1]
  kin : RepE none' w' 1 (([2, 1] : List Int).map (Dat.int .i64)) (some ⟨b + 1 + 1, 0, none⟩) 0
  up : Upto none' W w'
theorem AwX.on {b : Nat} {W w' w1 : World} (h : AwX b W w') (hU : Upto none' w' w1) : AwX b W w1 := ⟨h.box.kept hU, h.rep.on hU, h.kin.on hU, h.up.and hU⟩
theorem awx_lay (w w3 : World) (h : w3 = (((w.alloc (.cells #[.int .i64 5, .string (B []), .int .i64 0, .slice none 0 0] 32)).alloc (.cells #[.int .i64 5, .string (B []), .int .i64 1, .slice (some ⟨w.heap.size, 0, none⟩) 1 1] 32)).alloc (.cells #[.int .i64 2, .int .i64 1] 3))) : AwX w.heap.size w w3 := by
  subst h
  refine ⟨(Box4.at_new (by simp)).kept ((Upto.refl none' _).alloc _), ?_, two_ints (T := 3) (fun x => x) ?_, (((Upto.refl none' w).alloc _).alloc _).alloc _⟩
  · exact rep_one (t := .mk 5 [] 0 []) (T := 32) (rep_leaf 5 [] 0) (fun x => x) (((Box4.at_new rfl).kept ((Upto.refl none' _).alloc _)).kept ((Upto.refl none' _).alloc _)) 5 [] 1
  · have := heap_alloc_new ((w.alloc (.cells #[.int .i64 5, .string (B []), .int .i64 0, .slice none 0 0] 32)).alloc (.cells #[.int .i64 5, .string (B []), .int .i64 1, .slice (some ⟨w.heap.size, 0, none⟩) 1 1] 32)) (.cells #[.int .i64 2, .int .i64 1] 3)
    simpa using this
set_option maxRecDepth 100000 in
set_option maxHeartbeats 8000000 in
theorem awake22 (w : World) : Calls Try.prog 12 #[] w fun e w' => e = .returned (.bool true) ∧ Upto none' w w' := by
  obtain ⟨w3, hw3⟩ : ∃ w3, w3 = (((w.alloc (.cells #[.int .i64 5, .string (B []), .int .i64 0, .slice none 0 0] 32)).alloc (.cells #[.int .i64 5, .string (B []), .int .i64 1, .slice (some ⟨w.heap.size, 0, none⟩) 1 1] 32)).alloc (.cells #[.int .i64 2, .int .i64 1] 3)) := ⟨_, rfl⟩
  have A3 := awx_lay w w3 hw3
  have HW := hid hw3
  clear hw3
  obtain ⟨X, hX⟩ : ∃ X, X = w.heap.size := ⟨_, rfl⟩
  rw [← hX] at A3
  have HX := hid hX
  clear hX
  have C := fun (W : World) (h : AwX X w W) => (strict_any tX axw [2, 1] (by simp) (some ⟨X + 1 + 1, 0, none⟩) 2 W _ h.kin h.rep)
  rw [ax1] at C
  have C2 := fun (W : World) (K : Nat) (h : AwX X w W) (hk : W.heap[K]? = some (.cells #[.int .i64 0, .int .i64 1] 3)) => (strict_any tX axw [0, 1] (by simp) (some ⟨K, 0, none⟩) 2 W _ (two_ints (fun x => x) hk) h.rep)
  rw [ax2] at C2
  have C3 := fun (W : World) (h : AwX X w W) => (occur_any tX axw [2, 1] (by simp) (some ⟨X + 1 + 1, 0, none⟩) 2 W _ h.kin h.rep)
  rw [ax3] at C3
  have C4 := fun (W : World) (h : AwX X w W) => (patterns_any tX axw [2, 1] (by simp) (some ⟨X + 1 + 1, 0, none⟩) 2 W _ h.kin h.rep)
  rw [ax4] at C4
  have C5 := fun (W : World) (K : Nat) (h : AwX X w W) (hk : W.heap[K]? = some (.cells #[.int .i64 0, .int .i64 1] 3)) => (patterns_any tX axw [0, 1] (by simp) (some ⟨K, 0, none⟩) 2 W _ (two_ints (fun x => x) hk) h.rep)
  rw [ax5] at C5
  have C6 := fun (W : World) (K : Nat) (h : AwX X w W) (hk : W.heap[K]? = some (.cells #[.bool false, .bool true] 4)) => (known_any tX axw [2, 1] (by simp) (some ⟨X + 1 + 1, 0, none⟩) 2 [false, true] (some ⟨K, 0, none⟩) 2 (by simp) W _ h.kin (two_bools (fun x => x) hk) h.rep)
  rw [ax6] at C6
  have C7 := fun (W : World) (h : AwX X w W) => (known_any tX axw [2, 1] (by simp) (some ⟨X + 1 + 1, 0, none⟩) 2 [] none 0 (by simp) W _ h.kin (by simp only [List.map_nil, RepE]) h.rep)
  rw [ax7] at C7
  simp only [List.length_cons, List.length_nil, Nat.zero_add, Nat.reduceAdd] at C C2 C3 C4 C5 C6 C7
  go_enter Try.func12, Try.ntmps12
  go_upto_region 3 with fail
  rw [← show B [] = { data := #[] } from rfl, ← HW.out, ← HX.out]
  have hd : Upto none' w3 w3.drew := (Upto.refl none' w3).drew
  have hda : Upto none' w3 ((w3.alloc (.cells #[.int .i64 0, .int .i64 1] 3)).drew) := ((Upto.refl none' w3).alloc _).drew
  have Sd : TcS (X + 1) (.int .i64 5) (.string (B [])) (.int .i64 1) (.slice (some ⟨X, 0, none⟩) 1 1) w3.drew := (A3.on hd).box.cells
  have Sa : TcS (X + 1) (.int .i64 5) (.string (B [])) (.int .i64 1) (.slice (some ⟨X, 0, none⟩) 1 1) ((w3.alloc (.cells #[.int .i64 0, .int .i64 1] 3)).drew) := (A3.on hda).box.cells
  have hka : ((w3.alloc (.cells #[.int .i64 0, .int .i64 1] 3)).drew).heap[w3.heap.size]? = some (.cells #[.int .i64 0, .int .i64 1] 3) := heap_alloc_new w3 _
  go_cut [3, 4] from 10 to 15 (fun v3 v4 wc => ∃ qa qb, v3 = .slice (some ⟨qa, 0, none⟩) 2 2 ∧ v4 = .slice (some ⟨qb, 0, none⟩) 2 2 ∧ BoolRow wc qa [false, true] ∧ BoolRow wc qb [false, false] ∧ AwX X w wc)
  case first =>
    go_region_held3 (fun w' => TcS (X + 1) (.int .i64 5) (.string (B [])) (.int .i64 1) (.slice (some ⟨X, 0, none⟩) 1 1) w')
      (first | (with_reducible assumption) | (with_reducible exact Sd) | (with_reducible exact Sa) | (with_reducible exact S6) | (with_reducible exact S5a) | (with_reducible exact S5))
      (first
        | ((go_at_call 10); (with_reducible refine (C2 _ w5.heap.size A5a hka5).mono ?_); rintro e w6 ⟨qb, rfl, hLb, hqb, hU6⟩; have A6 := A5a.on hU6; have S6 : TcS (X + 1) (.int .i64 5) (.string (B [])) (.int .i64 1) (.slice (some ⟨X, 0, none⟩) 1 1) w6 := A6.box.cells; have hLa6 := (hLa.kept hal5).kept hU6)
        | ((go_at_call 10); (with_reducible refine (C2 _ w3.heap.size A5 hka5').mono ?_); rintro e w6 ⟨qb, rfl, hLb, hqb, hU6⟩; have A6 := A5.on hU6; have S6 : TcS (X + 1) (.int .i64 5) (.string (B [])) (.int .i64 1) (.slice (some ⟨X, 0, none⟩) 1 1) w6 := A6.box.cells; have hLa6 := hLa.kept hU6)
        | ((go_at_call 10); (with_reducible refine (C _ (A3.on hd)).mono ?_); rintro e w5 ⟨qa, rfl, hLa, hqa, hU5⟩; have A5 := (A3.on hd).on hU5; have S5 : TcS (X + 1) (.int .i64 5) (.string (B [])) (.int .i64 1) (.slice (some ⟨X, 0, none⟩) 1 1) w5 := A5.box.cells; have hal5 : Upto none' w5 (w5.alloc (.cells #[.int .i64 0, .int .i64 1] 3)) := (Upto.refl none' w5).alloc _; have A5a := A5.on hal5; have S5a : TcS (X + 1) (.int .i64 5) (.string (B [])) (.int .i64 1) (.slice (some ⟨X, 0, none⟩) 1 1) (w5.alloc (.cells #[.int .i64 0, .int .i64 1] 3)) := A5a.box.cells; have hka5 := heap_alloc_new w5 (.cells #[.int .i64 0, .int .i64 1] 3))
        | ((go_at_call 10); (with_reducible refine (C _ (A3.on hda)).mono ?_); rintro e w5 ⟨qa, rfl, hLa, hqa, hU5⟩; have A5 := (A3.on hda).on hU5; have S5 : TcS (X + 1) (.int .i64 5) (.string (B [])) (.int .i64 1) (.slice (some ⟨X, 0, none⟩) 1 1) w5 := A5.box.cells; have hka5' := (hU5.block _ (Array.getElem?_eq_some_iff.1 hka).1 (fun x => x)).trans hka))
    all_goals
      go_wp2_with fail
      go_meet
      case rel => exact ⟨qa, qb, rfl, rfl, hLa6, hLb, A6⟩
  case rest =>
    obtain ⟨qa, qb, rfl, rfl, hLa, hLb, A4⟩ := hcut
    obtain ⟨w4, rfl⟩ : ∃ w4, w4 = wc := ⟨_, rfl⟩
    clear Sd Sa hka hd hda A3
    obtain ⟨b0, b1, b2, b3⟩ := A4.box.cells
    go_wp2_with fail
    refine (C3 _ A4).mono ?_
    rintro e w5 ⟨qc, rfl, hLc, hqc, hU5⟩
    have A5 := A4.on hU5
    have hLa5 := hLa.kept hU5
    have hLb5 := hLb.kept hU5
    clear hLa hLb A4 b0 b1 b2 b3
    obtain ⟨b0, b1, b2, b3⟩ := A5.box.cells
    have a0 := hLa5.cell 0 (by simp)
    have a1 := hLa5.cell 1 (by simp)
    have e1 := hLb5.cell 1 (by simp)
    have c1 := hLc.cell 1 (by simp)
    simp only [List.getElem_cons_zero, List.getElem_cons_succ] at a0 a1 e1 c1
    go_wp2_with fail
    refine (C4 _ A5).mono ?_
    rintro e w6 ⟨rfl, hU6⟩
    have A6 := A5.on hU6
    clear b0 b1 b2 b3
    have hal6 : Upto none' w6 (w6.alloc (.cells #[.int .i64 0, .int .i64 1] 3)) := (Upto.refl none' w6).alloc _
    have A6a := A6.on hal6
    have hk6 := heap_alloc_new w6 (.cells #[.int .i64 0, .int .i64 1] 3)
    obtain ⟨b0, b1, b2, b3⟩ := A6.box.cells
    go_wp2_with fail
    refine (C5 _ w6.heap.size A6a hk6).mono ?_
    rintro e w7 ⟨rfl, hU7⟩
    have A7 := A6a.on hU7
    clear b0 b1 b2 b3
    have hal7 : Upto none' w7 (w7.alloc (.cells #[.bool false, .bool true] 4)) := (Upto.refl none' w7).alloc _
    have A7a := A7.on hal7
    have hk7 := heap_alloc_new w7 (.cells #[.bool false, .bool true] 4)
    obtain ⟨b0, b1, b2, b3⟩ := A7.box.cells
    go_wp2_with fail
    refine (C6 _ w7.heap.size A7a hk7).mono ?_
    rintro e w8 ⟨rfl, hU8⟩
    have A8 := A7a.on hU8
    clear b0 b1 b2 b3
    obtain ⟨b0, b1, b2, b3⟩ := A8.box.cells
    go_wp2_with fail
    refine (C7 _ A8).mono ?_
    rintro e w9 ⟨rfl, hU9⟩
    go_wp2_with fail
    go_ret
    exact ⟨rfl, (A8.on hU9).up⟩
end Go.Proofs.Ytadphaobbpngkaa
