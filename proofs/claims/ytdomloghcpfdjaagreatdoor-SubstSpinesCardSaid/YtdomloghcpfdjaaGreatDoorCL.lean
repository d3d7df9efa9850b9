/- The reference's simple types: form, Size, depth, WellFormed, longSize. -/
import Derived.Test.YtdomloghcpfdjaaGreatDoorCA
import Derived.Test.YtdomloghcpfdjaaGreatDoorCF
import Derived.Test.YtdomloghcpfdjaaGreatDoorCJ
import Derived.Test.YtdomloghcpfdjaaGreatDoorCK
import Derived.Deep.RegionHeld3
import Derived.Deep.RegionLaw
import Derived.Laws.OwnMore
import Derived.Maps.AppendAt
namespace Go.Proofs.YtdomloghcpfdjaaGreatDoor
open Go.RowKit Go.LF
set_option maxRecDepth 100000 in
set_option maxHeartbeats 4000000 in
theorem refForm_any (t : Sm) : t.wt ≤ 1000000 → ∀ (w : World) (cs : List Value), Rep none' w t.dat cs →
    Calls Tryz.prog 155 #[.agg cs.toArray] w fun e w' => e = .returned (.bool t.form) ∧ Upto none' w w' := by
  induction t using Sm.ind with
  | h f ts ih =>
    intro hs w cs h
    obtain ⟨a, cap, rfl, hcap, hE⟩ := rep_sm.1 h
    have hlen := Sm.length_le_sizes ts
    have hsw := Sm.sizes_le_wts ts
    simp only [Sm.wt_mk] at hs
    obtain ⟨r, hr⟩ : ∃ r, r = (Sm.mk f ts).form := ⟨_, rfl⟩
    rw [← hr]
    rw [Sm.form_mk] at hr
    have HN := fun w => refIsName_any f w (by omega)
    have hfo : Sm.famOk f = (f == [116, 121, 112, 101] || isName f) := rfl
    obtain ⟨nb, hnb⟩ : ∃ nb, nb = isName f := ⟨_, rfl⟩
    rw [← hnb] at HN hfo
    obtain ⟨tb, htb⟩ : ∃ tb, tb = (f == [116, 121, 112, 101]) := ⟨_, rfl⟩
    rw [← htb] at hfo
    have HR := hid (And.intro hr hfo)
    have HS := hid hs
    have HTB := hid htb
    clear hr hfo htb hnb hs h
    obtain ⟨w1, hw1⟩ : ∃ w1, w1 = w.alloc (.cells #[.string (B f), .slice a ts.length cap] 33) := ⟨_, rfl⟩
    have hU1 : Upto none' w w1 := by rw [hw1]; exact (Upto.refl none' w).alloc _
    have hB1 : Box2 w1 w.heap.size (.string (B f)) (.slice a ts.length cap) 33 := by rw [hw1]; exact Box2.at_new rfl
    have HW1 := hid hw1
    clear hw1
    obtain ⟨b0, b1⟩ := hB1.cells
    have hlen6 : ts.length ≤ 1000000 := by have := HS.out; omega
    have hways : (tb = false ∧ nb = false) ∨ ((tb = true ∨ tb = false ∧ nb = true) ∧ Sm.famOk f = true) := by
      cases tb <;> cases nb <;> simp_all [HR.out.2]
    rcases hways with ⟨rfl, rfl⟩ | ⟨hways, hfo⟩
    · have hnf : (!f == [116, 121, 112, 101]) = true := by rw [← HTB.out]; rfl
      go_enter Tryz.func155, Tryz.ntmps155
      go_wp2_with fail
      rw [← HW1.out]
      refine (HN w1).mono ?_
      rintro e w2 ⟨rfl, rfl⟩
      go_wp2_with fail
      go_ret
      exact ⟨ret_bool (by rw [HR.out.1, HR.out.2]; rfl), hU1⟩
    have HR2 := hid (show r = Sm.forms ts by rw [HR.out.1, hfo]; rfl)
    clear HR hfo
    rcases hways with rfl | ⟨rfl, rfl⟩
    case' inl =>
      obtain rfl : f = [116, 121, 112, 101] := by simpa using HTB.out.symm
      go_enter Tryz.func155, Tryz.ntmps155
      go_wp2_with fail
      rw [← HW1.out]
    case' inr =>
      have hnf : (!f == [116, 121, 112, 101]) = true := by rw [← HTB.out]; rfl
      go_enter Tryz.func155, Tryz.ntmps155
      go_wp2_with fail
      rw [← HW1.out]
      refine (HN w1).mono ?_
      rintro e w2 ⟨rfl, rfl⟩
      go_wp2_with fail
    all_goals
      clear HN
      go_loopw [3] (fun v wr => ∃ j : Nat, v = .int .i64 j ∧ j ≤ ts.length ∧ r = Sm.forms (ts.drop j) ∧ Upto none' w1 wr) (fun v _ => ts.length - (intOf v).toNat)
      case atStart => exact ⟨0, rfl, Nat.zero_le _, HR2.out, Upto.refl _ _⟩
      case round =>
        obtain ⟨j, rfl, hj, hv, hU⟩ := hrel
        have HV := hid hv
        clear hv b0 b1
        have hw := hU1.and hU
        have hBr := hB1.kept hU
        obtain ⟨b0, b1⟩ := hBr.cells
        have j0 : (0 : Int) ≤ (j : Int) := by omega
        have jb : (j : Int) ≤ 2000000 := by omega
        by_cases hlt : j < ts.length
        · obtain ⟨b, o, n1, s1, cp, rfl, hb, _, p0, p1, hRp⟩ := arg_sm (hE.on hw) j hlt
          have j1 : (j : Int) < (ts.length : Int) := by omega
          have hs4 := Sm.wt_le_wts (List.getElem_mem hlt)
          have key := ih _ (List.getElem_mem hlt) (by have := HS.out; omega) wr _ hRp
          have hT := Sm.forms_drop ts j hlt
          generalize ts[j].args.length = el at *
          generalize ts[j].form = fb at *
          have HT := hid (And.intro hT hlt)
          clear hT hlt hs4 hRp
          go_wp2_with fail
          refine key.mono ?_
          rintro e w5 ⟨rfl, hU5⟩
          cases fb
          · go_wp2_with fail
            go_ret
            exact ⟨ret_bool (by rw [HV.out, HT.out.1]; rfl), hw.and hU5⟩
          · go_wp2_with fail
            go_roundw
            case rel => exact ⟨j + 1, by go_num, Nat.succ_le_of_lt HT.out.2, by rw [HV.out, HT.out.1]; rfl, hU.and hU5⟩
            case measure => (have := HT.out.2; simp [intOf]; omega)
        · have hjn : ¬ (j : Int) < (ts.length : Int) := by omega
          have hdn : ts.drop j = [] := List.drop_eq_nil_of_le (by omega)
          have HD := hid hdn
          clear hdn
          go_wp2_with fail
          go_ret
          exact ⟨ret_bool (by rw [HV.out, HD.out, Sm.forms]), hw⟩
set_option maxRecDepth 100000 in
set_option maxHeartbeats 4000000 in
theorem refSmSize_any (t : Sm) : t.size ≤ 1000000 → ∀ (w : World) (cs : List Value), Rep none' w t.dat cs →
    Calls Tryz.prog 156 #[.agg cs.toArray] w fun e w' => e = .returned (.int .i64 t.size) ∧ Upto none' w w' := by
  induction t using Sm.ind with
  | h f ts ih =>
    intro hs w cs h
    obtain ⟨a, cap, rfl, hcap, hE⟩ := rep_sm.1 h
    have hlen := Sm.length_le_sizes ts
    have hds := Sm.depths_le_sizes ts
    simp only [Sm.size_mk] at hs
    obtain ⟨w1, hw1⟩ : ∃ w1, w1 = w.alloc (.cells #[.string (B f), .slice a ts.length cap] 33) := ⟨_, rfl⟩
    have hU1 : Upto none' w w1 := by rw [hw1]; exact (Upto.refl none' w).alloc _
    have hB1 : Box2 w1 w.heap.size (.string (B f)) (.slice a ts.length cap) 33 := by rw [hw1]; exact Box2.at_new rfl
    have HW1 := hid hw1
    clear hw1 h
    obtain ⟨b0, b1⟩ := hB1.cells
    skip
    go_enter Tryz.func156, Tryz.ntmps156
    go_wp2_with fail
    rw [← HW1.out]
    go_loopw [3, 4] (fun v3 v wr => ∃ j : Nat, v = .int .i64 j ∧ j ≤ ts.length ∧ v3 = .int .i64 (1 + Sm.sizes (ts.take j)) ∧ Upto none' w1 wr) (fun _ v _ => ts.length - (intOf v).toNat)
    case atStart => exact ⟨0, rfl, Nat.zero_le _, rfl, Upto.refl _ _⟩
    case round =>
      obtain ⟨j, rfl, hj, rfl, hU⟩ := hrel
      clear b0 b1
      have hw := hU1.and hU
      have hBr := hB1.kept hU
      obtain ⟨b0, b1⟩ := hBr.cells
      have j0 : (0 : Int) ≤ (j : Int) := by omega
      have jb : (j : Int) ≤ 2000000 := by omega
      have hdj := Sm.sizes_take_le ts j
      have hdj2 := Sm.depths_take_le ts j
      skip
      by_cases hlt : j < ts.length
      · obtain ⟨b, o, n1, s1, cp, rfl, hb, _, p0, p1, hRp⟩ := arg_sm (hE.on hw) j hlt
        have j1 : (j : Int) < (ts.length : Int) := by omega
        have hs4 := Sm.size_le_sizes (List.getElem_mem hlt)
        have hs5 := Sm.depth_le_size ts[j]
        have key := ih _ (List.getElem_mem hlt) (by omega) wr _ hRp
        have hsum : Sm.sizes (ts.take j) + ts[j].size ≤ Sm.sizes ts := by rw [← Sm.sizes_take_succ ts j hlt]; exact Sm.sizes_take_le ts (j + 1)
        generalize ts[j].args.length = el at *
        go_wp2_with fail
        refine key.mono ?_
        rintro e w5 ⟨rfl, hU5⟩
        go_wp2_with fail
        go_roundw
        case rel =>
          refine ⟨j + 1, by go_num, by omega, int_eq ?_, hU.and hU5⟩
          rw [Sm.sizes_take_succ ts j hlt]
          omega
        case measure => (simp [intOf]; omega)
      · have hjn : ¬ (j : Int) < (ts.length : Int) := by omega
        have hdn : ts.take j = ts := List.take_of_length_le (by omega)
        rw [hdn] at hdj hdj2 ⊢
        go_wp2_with fail
        go_ret
        exact ⟨ret_int (by first | omega | (rw [Sm.size_mk]; omega)), hw⟩
set_option maxRecDepth 100000 in
set_option maxHeartbeats 4000000 in
theorem refSmDepth_any (t : Sm) : t.size ≤ 1000000 → ∀ (w : World) (cs : List Value), Rep none' w t.dat cs →
    Calls Tryz.prog 157 #[.agg cs.toArray] w fun e w' => e = .returned (.int .i64 t.depth) ∧ Upto none' w w' := by
  induction t using Sm.ind with
  | h f ts ih =>
    intro hs w cs h
    obtain ⟨a, cap, rfl, hcap, hE⟩ := rep_sm.1 h
    have hlen := Sm.length_le_sizes ts
    have hds := Sm.depths_le_sizes ts
    simp only [Sm.size_mk] at hs
    obtain ⟨w1, hw1⟩ : ∃ w1, w1 = w.alloc (.cells #[.string (B f), .slice a ts.length cap] 33) := ⟨_, rfl⟩
    have hU1 : Upto none' w w1 := by rw [hw1]; exact (Upto.refl none' w).alloc _
    have hB1 : Box2 w1 w.heap.size (.string (B f)) (.slice a ts.length cap) 33 := by rw [hw1]; exact Box2.at_new rfl
    have HW1 := hid hw1
    clear hw1 h
    obtain ⟨b0, b1⟩ := hB1.cells
    skip
    go_enter Tryz.func157, Tryz.ntmps157
    go_wp2_with fail
    rw [← HW1.out]
    go_loopw [3, 4] (fun v3 v wr => ∃ j : Nat, v = .int .i64 j ∧ j ≤ ts.length ∧ v3 = .int .i64 (Sm.depths (ts.take j)) ∧ Upto none' w1 wr) (fun _ v _ => ts.length - (intOf v).toNat)
    case atStart => exact ⟨0, rfl, Nat.zero_le _, rfl, Upto.refl _ _⟩
    case round =>
      obtain ⟨j, rfl, hj, rfl, hU⟩ := hrel
      clear b0 b1
      have hw := hU1.and hU
      have hBr := hB1.kept hU
      obtain ⟨b0, b1⟩ := hBr.cells
      have j0 : (0 : Int) ≤ (j : Int) := by omega
      have jb : (j : Int) ≤ 2000000 := by omega
      have hdj := Sm.sizes_take_le ts j
      have hdj2 := Sm.depths_take_le ts j
      have hdz := Sm.depths_le_sizes (ts.take j)
      by_cases hlt : j < ts.length
      · obtain ⟨b, o, n1, s1, cp, rfl, hb, _, p0, p1, hRp⟩ := arg_sm (hE.on hw) j hlt
        have j1 : (j : Int) < (ts.length : Int) := by omega
        have hs4 := Sm.size_le_sizes (List.getElem_mem hlt)
        have hs5 := Sm.depth_le_size ts[j]
        have key := ih _ (List.getElem_mem hlt) (by omega) wr _ hRp
        have hsum : Sm.sizes (ts.take j) + ts[j].size ≤ Sm.sizes ts := by rw [← Sm.sizes_take_succ ts j hlt]; exact Sm.sizes_take_le ts (j + 1)
        generalize ts[j].args.length = el at *
        go_wp2_with fail
        refine key.mono ?_
        rintro e w5 ⟨rfl, hU5⟩
        go_wp2_with fail
        go_roundw
        case rel =>
          refine ⟨j + 1, by go_num, by omega, int_eq ?_, hU.and hU5⟩
          rw [Sm.depths_take_succ ts j hlt]
          omega
        case measure => (simp [intOf]; omega)
      · have hjn : ¬ (j : Int) < (ts.length : Int) := by omega
        have hdn : ts.take j = ts := List.take_of_length_le (by omega)
        rw [hdn] at hdj hdj2 ⊢
        go_wp2_with fail
        go_ret
        exact ⟨ret_int (by first | omega | (rw [Sm.depth_mk]; omega)), hw⟩
end Go.Proofs.YtdomloghcpfdjaaGreatDoor
namespace Go.Proofs.YtdomloghcpfdjaaGreatDoor
open Go.RowKit Go.LF
set_option maxRecDepth 100000 in
set_option maxHeartbeats 4000000 in
theorem refSmWf_any (t : Sm) (hs : t.wt ≤ 1000000) (w : World) (cs : List Value) (h : Rep none' w t.dat cs) :
    Calls Tryz.prog 73 #[.agg cs.toArray] w fun e w' => e = .returned (.int .i64 t.wf) ∧ Upto none' w w' := by
  have hsz := Sm.size_le_wt t
  have hdz := Sm.depth_le_size t
  have HF := fun w' h => refForm_any t hs w' cs h
  have HZ := fun w' h => refSmSize_any t (by omega) w' cs h
  have HD := fun w' h => refSmDepth_any t (by omega) w' cs h
  obtain ⟨f, ts, a, cap, ht, rfl, hcap, hE⟩ := sm_open h
  obtain ⟨r, hr⟩ : ∃ r, r = t.wf := ⟨_, rfl⟩
  rw [← hr]
  unfold Sm.wf at hr
  generalize t.form = fb at *
  generalize t.size = sz at *
  generalize t.depth = dp at *
  have HR := hid hr
  clear hr ht hE
  generalize ts.length = len at *
  obtain ⟨w1, hw1⟩ : ∃ w1, w1 = w.alloc (.cells #[.string (B f), .slice a len cap] 33) := ⟨_, rfl⟩
  have hU1 : Upto none' w w1 := by rw [hw1]; exact (Upto.refl none' w).alloc _
  have hB1 : Box2 w1 w.heap.size (.string (B f)) (.slice a len cap) 33 := by rw [hw1]; exact Box2.at_new rfl
  have HW1 := hid hw1
  clear hw1
  cases fb
  · go_enter Tryz.func73, Tryz.ntmps73
    go_wp2_with fail
    rw [← HW1.out]
    refine (HF w1 (h.on hU1)).mono ?_
    rintro e w2 ⟨rfl, hU2⟩
    go_wp2_with fail
    go_ret
    exact ⟨ret_int (by rw [HR.out]; rfl), hU1.and hU2⟩
  · by_cases h1 : 4096 < sz
    · have h1' : (4096 : Int) < (sz : Int) := by omega
      go_enter Tryz.func73, Tryz.ntmps73
      go_wp2_with fail
      rw [← HW1.out]
      refine (HF w1 (h.on hU1)).mono ?_
      rintro e w2 ⟨rfl, hU2⟩
      have hB2 := hB1.kept hU2
      obtain ⟨b0, b1⟩ := hB2.cells
      go_wp2_with fail
      refine (HZ w2 (h.on (hU1.and hU2))).mono ?_
      rintro e w3 ⟨rfl, hU3⟩
      go_wp2_with fail
      go_ret
      exact ⟨ret_int (by rw [HR.out]; simp [h1]), (hU1.and hU2).and hU3⟩
    · have h1' : ¬ (4096 : Int) < (sz : Int) := by omega
      by_cases h2 : 128 < dp
      · have h2' : (128 : Int) < (dp : Int) := by omega
        go_enter Tryz.func73, Tryz.ntmps73
        go_wp2_with fail
        rw [← HW1.out]
        refine (HF w1 (h.on hU1)).mono ?_
        rintro e w2 ⟨rfl, hU2⟩
        have hB2 := hB1.kept hU2
        obtain ⟨b0, b1⟩ := hB2.cells
        go_wp2_with fail
        refine (HZ w2 (h.on (hU1.and hU2))).mono ?_
        rintro e w3 ⟨rfl, hU3⟩
        have hB3 := hB2.kept hU3
        clear b0 b1
        obtain ⟨b0, b1⟩ := hB3.cells
        go_wp2_with fail
        refine (HD w3 (h.on ((hU1.and hU2).and hU3))).mono ?_
        rintro e w4 ⟨rfl, hU4⟩
        go_wp2_with fail
        go_ret
        exact ⟨ret_int (by rw [HR.out]; simp [h2]), ((hU1.and hU2).and hU3).and hU4⟩
      · have h2' : ¬ (128 : Int) < (dp : Int) := by omega
        go_enter Tryz.func73, Tryz.ntmps73
        go_wp2_with fail
        rw [← HW1.out]
        refine (HF w1 (h.on hU1)).mono ?_
        rintro e w2 ⟨rfl, hU2⟩
        have hB2 := hB1.kept hU2
        obtain ⟨b0, b1⟩ := hB2.cells
        go_wp2_with fail
        refine (HZ w2 (h.on (hU1.and hU2))).mono ?_
        rintro e w3 ⟨rfl, hU3⟩
        have hB3 := hB2.kept hU3
        clear b0 b1
        obtain ⟨b0, b1⟩ := hB3.cells
        go_wp2_with fail
        refine (HD w3 (h.on ((hU1.and hU2).and hU3))).mono ?_
        rintro e w4 ⟨rfl, hU4⟩
        go_wp2_with fail
        go_ret
        exact ⟨ret_int (by rw [HR.out]; simp [h1, h2]), ((hU1.and hU2).and hU3).and hU4⟩
theorem lszA_ge (l : List Sm) : ∀ n, n ≤ Sm.lszA n l := by
  induction l with
  | nil => intro n; simp [Sm.lszA]
  | cons t ts ih =>
    intro n
    rw [Sm.lszA]
    split
    · have := ih (n + t.lsz); omega
    · omega
end Go.Proofs.YtdomloghcpfdjaaGreatDoor
namespace Go.Proofs.YtdomloghcpfdjaaGreatDoor
open Go.RowKit Go.LF
/-- What a call that makes a simple type hands back: all of it in new blocks. -/
def MakesS (base deep : Nat) (T : Nat) (w : World) (e : Ending) (w' : World) : Prop :=
  ∃ (f : List UInt8) (a : Option Addr) (len cap : Nat) (s : Sm), e = .returned (.agg #[.string (B f), .slice a len cap]) ∧ Rep (fun b => b < base) w' s.dat [.string (B f), .slice a len cap] ∧ s.FitsS deep ∧ TapeOk w' T ∧ Upto (isT T) w w'
/-- .. and its row is one of its own. -/
def MakesOwn (base deep : Nat) (T : Nat) (w : World) (e : Ending) (w' : World) : Prop :=
  ∃ (f : List UInt8) (a : Option Addr) (cap : Nat) (ts : List Sm) (css : List (List Value)) (B' : Nat), e = .returned (.agg #[.string (B f), .slice a ts.length cap]) ∧ base ≤ B' ∧ ts.length ≤ cap ∧ Sims B' w' (.slice a ts.length cap) ts css ∧ (Sm.mk f ts).FitsS deep ∧ TapeOk w' T ∧ Upto (isT T) w w'
theorem MakesOwn.s {base deep T : Nat} {w w' : World} {e : Ending} (h : MakesOwn base deep T w e w') : MakesS base deep T w e w' := by
  obtain ⟨f, a, cap, ts, css, B', rfl, hb, hcap, hS, hF, hT, hU⟩ := h
  obtain ⟨a', cap', e, hc, hE⟩ := hS.rep
  cases e
  exact ⟨f, a, _, cap, .mk f ts, rfl, rep_sm.2 ⟨a, cap, rfl, hcap, RepE.weaken (fun b _ e => by omega) _ _ _ _ hE⟩, hF, hT, hU⟩
theorem fams_at {W : World} {b : Nat} {T' : TypeId} {fr : Nat × Nat} (h : W.heap[b]? = some (.cells #[.string (B [110, 97, 116]), .string (B [116, 109]), .string (B [116, 121, 112, 101])] T' fr)) (c : Nat) (hc : (c : Int) < 3) :
    ∃ f : List UInt8, W.cell? ⟨b, c, none⟩ = some (.string (B f)) ∧ Sm.famOk f = true ∧ f.length ≤ 4 := by
  have hcell : ∀ i, W.cell? ⟨b, i, none⟩ = (#[.string (B [110, 97, 116]), .string (B [116, 109]), .string (B [116, 121, 112, 101])] : Array Value)[i]? := fun i => by simp [World.cell?, h]
  have hk : c = 0 ∨ c = 1 ∨ c = 2 := by omega
  rcases hk with rfl | rfl | rfl
  · exact ⟨_, (hcell 0), by decide, by decide⟩
  · exact ⟨_, (hcell 1), by decide, by decide⟩
  · exact ⟨_, (hcell 2), by decide, by decide⟩
set_option maxRecDepth 100000 in
set_option maxHeartbeats 16000000 in
theorem simple_step (d : Nat) (hd : d ≤ 10) (T : Nat) (ih : ∀ d', d = d' + 1 → ∀ (w : World), TapeOk w T → Calls Tryz.prog 17 #[.pointer (some ⟨T, 0, none⟩), .int .i64 d'] w (MakesS w.heap.size d' T w))
    (w : World) (hT : TapeOk w T) : Calls Tryz.prog 17 #[.pointer (some ⟨T, 0, none⟩), .int .i64 d] w (MakesOwn w.heap.size d T w) := by
  have NX := fun (n : Int) h0 h1 w hT => next_any n h0 h1 T w hT
  obtain ⟨D, hD⟩ : ∃ D : Int, D = (d : Int) := ⟨_, rfl⟩
  rw [← hD]
  have D0 : 0 ≤ D := by omega
  have D1 : D ≤ 13 := by omega
  have HD := hid hD
  clear hD
  have hTl := hT.lt
  obtain ⟨i0, hi, hi0, hi1, hi2⟩ := info_parts info_simple
  go_enter Tryz.func17, Tryz.ntmps17
  go_wp2_with fail
  refine (NX _ (by omega) (by omega) _ ((hT.on ((Upto.refl none' w).alloc _)).on ((Upto.refl none' _).alloc _))).mono ?_
  rintro e w1 ⟨⟨c, hc, rfl⟩, hT1, hU1⟩
  have hk0 : w1.heap[w.heap.size + 1]? = some (.cells #[.string (B [110, 97, 116]), .string (B [116, 109]), .string (B [116, 121, 112, 101])] 9 (0, 0)) := by
    rw [hU1.block _ (by simp) (fun e => by simp only [isT] at e; omega)]
    have := heap_alloc_new (w.alloc (.cells #[.string (B []), .slice none 0 0] 33)) (.cells #[.string (B [110, 97, 116]), .string (B [116, 109]), .string (B [116, 121, 112, 101])] 9)
    rw [World.size_alloc] at this
    exact this
  obtain ⟨f, hfc, hff, hfl⟩ := fams_at hk0 c hc
  have hw1 : Upto (isT T) w w1 := (((Upto.refl (isT T) w).alloc _).alloc _).trans hU1 (fun _ _ x => x)
  have c0 : (0 : Int) ≤ (c : Int) := by omega
  have c3 : (c : Int) < 3 := hc
  have hres : Box2 w1 w.heap.size (.string (B [])) (.slice none 0 0) 33 := by
    unfold Box2
    rw [hU1.block _ (by simp; omega) (fun e => by simp only [isT] at e; omega)]
    exact (heap_old _ _ _ (by simp)).trans (heap_alloc_new w _)
  clear hU1 hk0 hT
  have hresne : w.heap.size ≠ T := by omega
  go_wp2_with fail
  refine (NX _ (by omega) (by omega) _ (hT1.on ((Upto.refl none' w1).alloc _))).mono ?_
  rintro e w3 ⟨⟨nn, hnn, rfl⟩, hT3, hU3⟩
  have hoT : w1.heap.size ≠ T := by have := hT1.lt; omega
  have hout3 : Box2 w3 w1.heap.size (.string (B f)) (.slice none 0 0) 33 := by
    unfold Box2
    rw [hU3.block _ (by simp) (fun e => by simp only [isT] at e; omega)]
    exact heap_alloc_new w1 _
  have hw13 : Upto (isT T) w1 w3 := ((Upto.refl (isT T) w1).alloc _).trans hU3 (fun _ _ x => x)
  have q1 : w.heap.size < w1.heap.size := hres.lt
  have hres3 := hres.keep hw13 hresne
  have hw3U := hw1.trans hw13 (fun _ _ x => x)
  have q3 := hout3.lt
  have HFF := hid (And.intro hff hfl)
  have HFC := hid hfc
  clear hU3 hw13 hT1 hres hw1 hff hfl hfc
  have hnn2 : nn ≤ 2 := by omega
  go_wp2_with fail
  go_loopw [6] (fun v6 wr => ∃ (m : Nat) (v : Value) (ts : List Sm) (css : List (List Value)), v6 = .int .i64 m ∧ m + ts.length ≤ 2 ∧ Sims w3.heap.size wr v ts css ∧ (∀ t ∈ ts, ∃ d', d = d' + 1 ∧ Sm.FitsS t d') ∧
      Box2 wr w1.heap.size (.string (B f)) v 33 ∧ Box2 wr w.heap.size (.string (B [])) (.slice none 0 0) 33 ∧ TapeOk wr T ∧ Upto (isT T) w wr ∧ w3.heap.size ≤ wr.heap.size)
    (fun v6 _ => (intOf v6).toNat)
  case atStart => exact ⟨nn, _, [], [], rfl, by simpa using hnn2, Sims.nil _ _, by simp, hout3, hres3, hT3, hw3U, Nat.le_refl _⟩
  case round =>
    clear hout3 hres3 hT3 hw3U
    obtain ⟨m, v, ts, css, rfl, hmt, hts, hfs, hout, hres, hTr, hwr, hbr⟩ := hrel
    have hT1l : T < w1.heap.size := by omega
    obtain ⟨b0, b1⟩ := hout.cells
    obtain ⟨f0, f1⟩ := hout.frozens
    have hways : (0 < m ∧ 0 < D) ∨ (0 < m ∧ ¬ 0 < D) ∨ m = 0 := by omega
    rcases hways with ⟨hm0, hD0⟩ | hex
    · have hm1 : (0 : Int) < (m : Int) := by omega
      obtain ⟨d', hd'⟩ : ∃ d', d = d' + 1 := ⟨d - 1, by have := HD.out; omega⟩
      have HDd := hid (show IntKind.i64.wrap (D - 1) = (d' : Int) by have := HD.out; rw [Go.IntWalk.i64_in _ (by omega)]; omega)
      have IH : ∀ (x : Int) (W : World), x = d' → TapeOk W T → Calls Tryz.prog 17 #[.pointer (some ⟨T, 0, none⟩), .int .i64 x] W (MakesS W.heap.size d' T W) := by
        intro x W hx h2
        rw [hx]
        exact ih d' hd' W h2
      have HD' := hid hd'
      clear hd' ih
      go_wp2_with fail
      go_region_law (first
        | ((rw [if_pos (by rfl)]); go_simp; (go_at_call 17); refine (IH _ _ HDd.out (hTr.on (Upto.refl none' wr).drew)).mono ?_; rintro e w6 ⟨f1', a1, len1, cap1, t, rfl, hR6, hF6, hT6, hU6⟩; have hU6' : Upto (isT T) wr w6 := Upto.trans ((Upto.refl (isT T) wr).drew) hU6 (fun _ _ x => x); have hout6 := hout.keep hU6' hoT; have q6 := hout6.lt; have c6 := hout6.cells.2; have z6 := hout6.frozens.2; have hs6 := hU6'.size; have hts6 := hts.keep hU6' (fun b e => (by simp only [isT] at e; omega)))
        | (refine step_append_lies _ (by rfl) _ _ 31 (by rfl) w3.heap.size 33 i0 (.agg #[.string (B []), .slice none 0 0]) 2 40 (by kernel_rfl) hi hi0 hi1 hi2 rfl (by decide) v ts.length css.flatten (by rfl) ((hts6.on ((Upto.refl none' w6).alloc _)).2.2.1) ⟨w6.heap.size, 0, none⟩ 1 1 [.string (B f1'), .slice a1 len1 cap1] (by rfl) rfl (World.news_of_block (heap_alloc_new w6 _)) (by simp [Value.oneCell']) (by omega) (by simp only [maxLen]; omega) (by omega) (by simp; omega) _ rfl ?_; intro g cap' w7 hown hgrow hat hlt; have hout7 := (hout6.kept ((Upto.refl none' w6).alloc _)).row hgrow (hts6.on ((Upto.refl none' w6).alloc _)) (by omega); have c7 := hout7.cells.2; have z7 := hout7.frozens.2))
      all_goals
        have hts6' := hts6.on ((Upto.refl none' w6).alloc (.cells #[.string (B f1'), .slice a1 len1 cap1] 33))
        have hR6' : Rep (fun b => b < w3.heap.size ∨ v.ownBlock = some b) (w6.alloc (.cells #[.string (B f1'), .slice a1 len1 cap1] 33)) t.dat [.string (B f1'), .slice a1 len1 cap1] := by
          refine (Rep.weaken (fun b _ e => ?_) _ _ hR6).new _
          rcases e with e | e
          · exact Nat.lt_of_lt_of_le e hbr
          · exact (hts.2.2.1.lt b e).2
        have hT7 := hts6'.appended rfl hR6' hown hgrow hat (Nat.le_refl _)
        have hset7 : Upto (fun b => b = w1.heap.size) w7 (w7.setCell ⟨w1.heap.size, 1, none⟩ (.slice (some ⟨g, 0, none⟩) (ts.length + 1) cap')) := Upto.set (Upto.refl _ _) 1 _
        have hrow7 := Upto.ofRow (RowUp.grown hts6'.2.2.1 hgrow)
        have hal6 : Upto none' w6 (w6.alloc (.cells #[.string (B f1'), .slice a1 len1 cap1] 33)) := (Upto.refl none' w6).alloc _
        have hT7' := ((hT6.on hal6).far hrow7 (fun b e => by omega)).far hset7 (fun b e => by omega)
        have hres7 : Box2 (w7.setCell ⟨w1.heap.size, 1, none⟩ (.slice (some ⟨g, 0, none⟩) (ts.length + 1) cap')) w.heap.size _ _ _ := (((hres.keep hU6' hresne).kept hal6).keep hrow7 (by omega)).keep hset7 (by omega)
        have hw7U : Upto (isT T) w (w7.setCell ⟨w1.heap.size, 1, none⟩ (.slice (some ⟨g, 0, none⟩) (ts.length + 1) cap')) := ((((hwr.trans hU6' (fun _ _ x => x)).trans hal6 (fun _ _ x => x.elim)).trans hrow7 (fun b hb e => by omega))).trans hset7 (fun b hb e => by omega)
        have hsz7 : w3.heap.size ≤ (w7.setCell ⟨w1.heap.size, 1, none⟩ (.slice (some ⟨g, 0, none⟩) (ts.length + 1) cap')).heap.size := by have := hset7.size; have := hrow7.size; have := hal6.size; omega
        have hfs7 : ∀ t' ∈ ts ++ [t], ∃ d', d = d' + 1 ∧ Sm.FitsS t' d' := by
          intro t' ht'
          rcases List.mem_append.1 ht' with h | h
          · exact hfs t' h
          · obtain rfl : t' = t := by simpa using h
            exact ⟨d', HD'.out, hF6⟩
        have hT7s := hT7.keep hset7 (fun b e => by omega)
        go_wp2_with fail
        go_roundw
        case rel => exact ⟨m - 1, _, ts ++ [t], _, int_eq (by omega), by simp; omega, hT7s, hfs7, hout7.set1 _, hres7, hT7', hw7U, hsz7⟩
        case measure => simp [intOf]; omega
    · obtain ⟨r0, r1⟩ := hres.cells
      obtain ⟨rf0, rf1⟩ := hres.frozens
      have qr := hres.lt
      obtain ⟨a, cap, rfl, hcap, hE⟩ := hts.rep
      have hfit' : Sm.FitsS (.mk f ts) d := by
        rcases Nat.eq_zero_or_pos ts.length with h0 | h0
        · obtain rfl := List.eq_nil_of_length_eq_zero h0
          exact (Sm.fits_s0 HFF.out.1 HFF.out.2).mono (by omega)
        · obtain ⟨d', hd', _⟩ := hfs ts[0] (List.getElem_mem h0)
          subst hd'
          refine Sm.fits_s HFF.out.1 HFF.out.2 (by omega) (fun t ht => ?_)
          obtain ⟨d2, h2, h3⟩ := hfs t ht
          obtain rfl : d2 = d' := by omega
          exact h3
      obtain ⟨len, hlen⟩ : ∃ len, len = ts.length := ⟨_, rfl⟩
      rw [← hlen] at hout hcap b1
      have HL := hid hlen
      have hset9 := hres.set (d0 := .string (B f)) (d1 := .slice a len cap)
      obtain ⟨e0, e1⟩ := hset9.1.cells
      have HE := hid (And.intro e0 e1)
      have hts9 := hts.keep hset9.2 (fun b e => by omega)
      rw [← hlen] at hts9
      clear hlen hfs hts e0 e1 hE
      have fin : MakesOwn w.heap.size d T w (.returned (.agg #[.string (B f), .slice a len cap])) ((wr.setCell ⟨w.heap.size, 0, none⟩ (.string (B f))).setCell ⟨w.heap.size, 1, none⟩ (.slice a len cap)) := by
        refine ⟨f, a, cap, ts, css, w3.heap.size, by rw [HL.out], by omega, by have := HL.out; omega, by rw [← HL.out]; exact hts9, hfit', hTr.far hset9.2 (fun b e => by omega), hwr.trans hset9.2 (fun b hb e => by omega)⟩
      have HFIN := hid fin
      clear fin
      rcases hex with ⟨hm0, hDn⟩ | rfl
      · have hm1 : (0 : Int) < (m : Int) := by omega
        go_wp2_with fail
        obtain ⟨e0, e1⟩ := HE.out
        refine bodyPost_ret (v := .agg #[.string (B f), .slice a len cap]) ?_ rfl ?_
        · simp [results, Tryz.f17, go_sem, e0, e1]
        · exact HFIN.out
      · go_wp2_with fail
        obtain ⟨e0, e1⟩ := HE.out
        refine bodyPost_ret (v := .agg #[.string (B f), .slice a len cap]) ?_ rfl ?_
        · simp [results, Tryz.f17, go_sem, e0, e1]
        · exact HFIN.out
theorem simple_any (deep : Nat) : deep ≤ 10 → ∀ (T : Nat) (w : World), TapeOk w T → Calls Tryz.prog 17 #[.pointer (some ⟨T, 0, none⟩), .int .i64 deep] w (MakesS w.heap.size deep T w) := by
  induction deep with
  | zero => intro h T w hT; exact (simple_step 0 h T (fun d' e => absurd e (by omega)) w hT).mono fun _ _ h => h.s
  | succ d ih => intro h T w hT; exact (simple_step (d + 1) h T (fun d' e w hT => by obtain rfl : d' = d := (by omega); exact ih (by omega) T w hT) w hT).mono fun _ _ h => h.s
theorem simpleO_any (deep : Nat) (h : deep ≤ 10) (T : Nat) (w : World) (hT : TapeOk w T) : Calls Tryz.prog 17 #[.pointer (some ⟨T, 0, none⟩), .int .i64 deep] w (MakesOwn w.heap.size deep T w) := by
  cases deep with
  | zero => exact simple_step 0 h T (fun d' e => absurd e (by omega)) w hT
  | succ d => exact simple_step (d + 1) h T (fun d' e w hT => by obtain rfl : d' = d := (by omega); exact simple_any d' (by omega) T w hT) w hT
end Go.Proofs.YtdomloghcpfdjaaGreatDoor
namespace Go.Proofs.YtdomloghcpfdjaaGreatDoor
open Go.RowKit Go.LF
theorem run_append_tms {w : World} {O : Nat → Prop} {base : Nat} {v : Value} {ts : List Tm} {css : List (List Value)} (hS : RowS O base w v ts css) (A : Option Addr) (m c : Nat) (us : List Tm) (hm : m = us.length)
    (hE : RepE (fun b => O b ∨ base ≤ b) w 4 (us.map Tm.dat) A 0) (hl : ts.length + us.length ≤ 900000) (hbase : base ≤ w.heap.size) (ty : TypeId) :
    ∃ v' w' css', (Builtin.append_ #[27, 27] ty #[v, .slice A m c]).run Tryz.prog w = .ok v' w' ∧ RowS O base w' v' (ts ++ us) css' ∧ w.grownBy w' v.ownBlock ∧ (v'.ownBlock = v.ownBlock ∨ v'.ownBlock = some w.heap.size) := by
  obtain ⟨i0, hi, hi0, hi1, hi2⟩ := info_parts info_term
  obtain ⟨css2, r1, r2, r3, r4, r5⟩ := row_cells us A 0 hE
  have hflat := (flat4 css2 r2).1
  rw [r1, ← hm] at hflat
  have fin : ∀ (v' : Value) (w' : World), w'.ownsRow base 29 4 v' (ts.length + m) (css.flatten ++ css2.flatten) → w.grownBy w' v.ownBlock → RowS O base w' v' (ts ++ us) (css ++ css2) := by
    intro v' w' hown hg
    obtain ⟨h1, h2, h3, h4⟩ := hS
    have hcel : Cel (fun b => O b ∨ base ≤ b) w w' := ⟨hg.size, fun b o u hb hu => hg.cell hu (fun e => hb (.inr (h3.lt b e.symm).1))⟩
    refine ⟨by simp [h1, r1], ?_, by simpa [hm] using hown, fun i hi hi' => ?_⟩
    · intro x hx
      rcases List.mem_append.1 hx with hx | hx
      · exact h2 x hx
      · exact r2 x hx
    · by_cases hlt : i < ts.length
      · rw [List.getElem_append_left hlt, List.getElem_append_left (by omega)]
        exact Rep.carry hcel _ _ (h4 i hlt (by omega))
      · have hi2 : i - ts.length < us.length := by simp at hi; omega
        rw [List.getElem_append_right (by omega), List.getElem_append_right (by omega)]
        simp only [h1]
        exact Rep.carry hcel _ _ (r5 _ hi2 (by omega))
  rcases A with _ | ad
  · obtain rfl := repE_none hE
    have hm0 : m = 0 := by simpa using hm
    subst hm0
    obtain rfl : css2 = [] := by simpa using r1
    refine ⟨v, w, css, ?_, by simpa using hS, World.grownBy.refl w _, .inl rfl⟩
    have hu : Tryz.prog.underlying 27 = some (.slice 29) := by kernel_rfl
    rcases hS.2.2.1.2 with ⟨rfl, _⟩ | ⟨g, cap, cur, rfl, _, _, hnc, _⟩
    · simp [Builtin.append_, run_underlying hu, sizeOf, typeInfo, hi, Builtin.lenOf, Builtin.firstCells]
    · simp [Builtin.append_, run_underlying hu, sizeOf, typeInfo, hi, Builtin.lenOf, Builtin.firstCells, hnc, storeCells]
  · have hcells : ∀ j u, css2.flatten[j]? = some u → w.cell? (ad.add j) = some u := by
      intro j u hu
      obtain ⟨b', o', e, hc⟩ := r4 j u hu
      cases e
      have hadd : (⟨b', o', none⟩ : Addr).add j = ⟨b', o' + j, none⟩ := by unfold Addr.add; split <;> simp_all
      rw [hadd]
      simpa using hc
    obtain ⟨v', w', hrun, h2, h3, _, h5⟩ := run_append_own_at (P := Tryz.prog) w base 27 ty 29 i0 (.agg #[.int .i64 0, .string (B []), .int .i64 0, .slice none 0 0]) 4 56 (by kernel_rfl) hi hi0 hi1 hi2 rfl (by decide) v ts.length css.flatten hS.2.2.1 ad m c css2.flatten hflat hcells r3 (by simp only [maxLen]; omega) (by omega) hbase
    exact ⟨v', w', _, hrun, fin v' w' h2 h3, h3, h5⟩
/-- The law at a step of a region that draws its order. -/
theorem step_append_tms {w : World} {ops : Array Oper} {o : Oper} {a : Act} {K : Act → World → Prop} {Q : Exit → Act → World → Prop} {E : Prop} (hgd : o.guard = none) (s x : Operand)
    (ho : o.op = .call { callee := .builtin .append, args := #[s, x], argTypes := #[27, 27] }) {O : Nat → Prop} {base : Nat} {v : Value} {ts : List Tm} {css : List (List Value)} (hs : a.eval s = v) (hS : RowS O base w v ts css)
    (A : Option Addr) (m c : Nat) (us : List Tm) (hx : a.eval x = .slice A m c) (hm : m = us.length) (hE : RepE (fun b => O b ∨ base ≤ b) w 4 (us.map Tm.dat) A 0) (hl : ts.length + us.length ≤ 900000) (hbase : base ≤ w.heap.size)
    (h : ∀ v' w' css', RowS O base w' v' (ts ++ us) css' → w.grownBy w' v.ownBlock → (v'.ownBlock = v.ownBlock ∨ v'.ownBlock = some w.heap.size) → K (a.put o.dst v') w') :
    if Region.wanted o (yielded ops a.tmps) = true then Oper.wp Tryz.prog o a w K Q else E := by
  have hw : Region.wanted o (yielded ops a.tmps) = true := by simp [Region.wanted, hgd]
  rw [if_pos hw]
  obtain ⟨v', w', css', hrun, h1, h2, h3⟩ := run_append_tms hS A m c us hm hE hl hbase o.type
  unfold Oper.wp execOp
  simp only [ho, resolve, invoke, builtin, Sem.run_bind, Sem.run_pure, Result.andThen_ok, List.map_toArray, List.map_cons, List.map_nil, hs, hx, hrun]
  exact h v' w' css' h1 h2 h3
theorem own_apart {v2 : Value} {w1 : World} (h : v2.ownBlock = (Value.slice none 0 0).ownBlock ∨ v2.ownBlock = some w1.drew.heap.size) (x : Nat) (hx : x < w1.heap.size) : ¬ v2.ownBlock = some x := by
  intro e
  rcases h with e2 | e2
  · rw [e2] at e; simp [Value.ownBlock] at e
  · rw [e2] at e
    have : w1.heap.size = x := Option.some.inj e
    omega
/-- A call hands back this term; no cell of a block of O is looked at. -/
def WithTm (u : Tm) (O : Nat → Prop) (w : World) (e : Ending) (w' : World) : Prop :=
  ∃ (k i : Int) (n : List UInt8) (a : Option Addr) (len cap : Nat), e = .returned (.agg #[.int .i64 k, .string (B n), .int .i64 i, .slice a len cap]) ∧ Rep O w' u.dat [.int .i64 k, .string (B n), .int .i64 i, .slice a len cap] ∧ Upto none' w w'
set_option maxRecDepth 100000 in
set_option maxHeartbeats 8000000 in
theorem with_any (h : Tm) (us : List Tm) (hl : h.args.length + us.length ≤ 900000) (O : Nat → Prop) (w : World) (hO : ∀ b, O b → b < w.heap.size) (cs : List Value) (hR : Rep O w h.dat cs) (ua : Option Addr) (uc : Nat) (hE : RepE O w 4 (us.map Tm.dat) ua 0) :
    Calls Tryz.prog 189 #[.agg cs.toArray, .slice ua us.length uc] w (WithTm (h.more us) O w) := by
  obtain ⟨k, n, i, ts, a, cap, rfl, rfl, hcap, hT⟩ := tm_open hR
  simp only [Tm.args_mk] at hl
  have hmore : (Tm.mk k n i ts).more us = .mk k n i (ts ++ us) := rfl
  rw [hmore]
  clear hmore
  obtain ⟨w1, hw1⟩ : ∃ w1, w1 = (w.alloc (.cells #[.int .i64 k, .string (B n), .int .i64 i, .slice a ts.length cap] 29)).alloc (.cells #[.int .i64 0, .string (B []), .int .i64 0, .slice none 0 0] 29) := ⟨_, rfl⟩
  have hU1 : Upto none' w w1 := by rw [hw1]; exact ((Upto.refl none' w).alloc _).alloc _
  have hB1 : Box4 w1 w.heap.size (.int .i64 k) (.string (B n)) (.int .i64 i) (.slice a ts.length cap) 29 := by rw [hw1]; exact (Box4.at_new rfl).kept ((Upto.refl none' _).alloc _)
  have hr1 : Box4 w1 (w.heap.size + 1) (.int .i64 0) (.string (B [])) (.int .i64 0) (.slice none 0 0) 29 := by rw [hw1]; exact Box4.at_new (by simp)
  have hT1 : RepE (fun b => O b ∨ w.heap.size ≤ b) w1 4 (ts.map Tm.dat) a 0 := (RepE.fresh' _ _ _ _ hT).on hU1
  have hE1 : RepE (fun b => O b ∨ w.heap.size ≤ b) w1 4 (us.map Tm.dat) ua 0 := (RepE.fresh' _ _ _ _ hE).on hU1
  have hS1 : RowS O w.heap.size w1 (.slice none 0 0) [] [] := ⟨rfl, by simp, World.ownsRow_nil _ _ _ _, fun i h => by simp at h⟩
  have hz1 : w.heap.size + 2 ≤ w1.heap.size := by have := hr1.lt; omega
  obtain ⟨len, hlen⟩ : ∃ len, len = ts.length := ⟨_, rfl⟩
  obtain ⟨ul, hul⟩ : ∃ ul, ul = us.length := ⟨_, rfl⟩
  have hl6 : len + ul ≤ 900000 := by omega
  rw [← hlen] at hB1
  rw [← hlen, ← hul]
  have HL := hid (And.intro hlen hul)
  have HW := hid hw1
  have HWL := hid hl
  clear hw1 hR hT hE hcap hl
  obtain ⟨b0, b1, b2, b3⟩ := hB1.cells
  have S1d : TcS w.heap.size (.int .i64 k) (.string (B n)) (.int .i64 i) (.slice a len cap) w1.drew := TcS.keep (S := none') ⟨b0, b1, b2, b3⟩ (Upto.refl none' w1).drew (fun x => x)
  have hd : Upto none' w1 w1.drew := (Upto.refl none' w1).drew
  rw [HL.out.1] at hlen
  clear hlen hul
  rw [← HL.out.1] at HW
  have hneb : w.heap.size ≠ w.heap.size + 1 := by omega
  go_enter Tryz.func189, Tryz.ntmps189
  go_wp2_with fail
  rw [← show B [] = { data := #[] } from rfl, ← HW.out]
  go_region_held3 (fun w' => TcS w.heap.size (.int .i64 k) (.string (B n)) (.int .i64 i) (.slice a len cap) w')
    (first | (with_reducible assumption) | (with_reducible exact S1d) | (with_reducible exact TcS.set (TcS.set (TcS.set (TcS.set S3 hneb 0 _) hneb 1 _) hneb 2 _) hneb 3 _))
    (first
      | ((refine step_append_tms (by rfl) _ _ (by rfl) (by rfl) hS2 ua ul uc us (by rfl) HL.out.2 (hE1.on hU2) (by simpa using HWL.out) (by have := hU2.size; omega) ?_; intro v3 w3 css3 hS3 hg3 hat3; have hU3 := grown_own hg3; have hne2 : ∀ x, x < w1.heap.size → ¬ v2.ownBlock = some x := (fun x hx e => (own_apart hat2 x hx e)); have S3 := S2.keep hU3 (hne2 _ (by omega)); have hr3 := (hr1.kept hU2).keep hU3 (hne2 _ (by omega)); obtain ⟨x0, x1, x2, x3⟩ := hr3.cells; obtain ⟨y0, y1, y2, y3⟩ := hr3.frozens; obtain ⟨fa, fc, e3, hfc, hF⟩ := hS3.rep; subst e3; have HN := hid (And.intro hat2 (And.intro hat3 hne2)); clear hat2 hat3 hne2; have HG := hid (And.intro hg2 hg3); clear hg2 hg3))
      | ((refine step_append_tms (by rfl) _ _ (by rfl) (by rfl) (hS1.on hd) a len cap ts (by rfl) HL.out.1 (hT1.on hd) (by simp; have := HWL.out; omega) (by have := hd.size; omega) ?_; intro v2 w2 css2 hS2 hg2 hat2; have hU2 : Upto none' w1 w2 := hd.and (grown_upto hg2); have S2 := S1d.keep (grown_upto hg2) (fun x => x))))
  all_goals
    have hset := hr3.set (d0 := .int .i64 k) (d1 := .string (B n)) (d2 := .int .i64 i) (d3 := .slice fa ([] ++ ts ++ us).length fc)
    obtain ⟨r0, r1, r2, r3⟩ := hset.1.cells
    simp only [List.nil_append, List.length_append] at r0 r1 r2 r3 hset
    go_wp2_with fail
    refine bodyPost_ret (v := .agg #[.int .i64 k, .string (B n), .int .i64 i, .slice fa (ts.length + us.length) fc]) ?_ rfl ?_
    · simp [results, Tryz.f189, go_sem, r0, r1, r2, r3]
    · have hne2 := HN.out.2.2
      have hz := hU2.size
      have hown : ¬ (Value.slice fa ([] ++ ts ++ us).length fc).ownBlock = some (w.heap.size + 1) := by
        intro e
        rcases HN.out.2.1 with e2 | e2
        · exact hne2 _ (by omega) (e2.symm.trans e)
        · have := Option.some.inj (e2.symm.trans e); omega
      refine ⟨k, i, n, fa, _, fc, rfl, rep_tm.2 ⟨fa, fc, by rw [List.length_append], by simpa using hfc, ?_⟩, ((hU1.and hU2).trans hU3 (fun x hx e => (hne2 x (by omega) e).elim)).trans hset.2 (fun x hx e => by omega)⟩
      have hF2 : RepE (fun b => O b ∨ b = w.heap.size + 1) w3 4 (([] ++ ts ++ us).map Tm.dat) fa 0 := RepE.weaken (fun b _ e => e.elim (fun e => .inl ⟨e, hO b e⟩) (fun e => .inr ⟨by omega, fun e2 => hown (by rw [e2, e])⟩)) _ _ _ _ hF
      have hF3 := RepE.keep hset.2 (fun b e => .inr e) _ _ _ _ hF2
      simp only [List.nil_append] at hF3
      exact RepE.weaken (fun b _ e => .inl e) _ _ _ _ hF3
end Go.Proofs.YtdomloghcpfdjaaGreatDoor
