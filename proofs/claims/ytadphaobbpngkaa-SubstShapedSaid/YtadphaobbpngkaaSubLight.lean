/- lfcheckmade.Light: some truth value. -/
import Derived.Test.YtadphaobbpngkaaCD
namespace Go.Proofs.Ytadphaobbpngkaa
open Go.RowKit Go.LF
/-- Some truth value. -/
def SomeB (e : Ending) : Prop := ∃ b : Bool, e = .returned (.bool b)
set_option maxRecDepth 100000 in
set_option maxHeartbeats 4000000 in
theorem light_any (most : Int) (ts : List Tm) (hs : ∀ t ∈ ts, t.size ≤ 1000000) (hl : ts.length ≤ 1000) (a : Option Addr) (cap : Nat) (w : World) (hE : RepE none' w 4 (ts.map Tm.dat) a 0) :
    Calls Try.prog 15 #[.int .i64 most, .slice a ts.length cap] w fun e w' => SomeB e ∧ Upto none' w w' := by
  obtain ⟨len, hlen⟩ : ∃ len, len = ts.length := ⟨_, rfl⟩
  rw [← hlen]
  have HL := hid hlen
  have hl' : len ≤ 1000 := by omega
  clear hlen
  go_enter Try.func15, Try.ntmps15
  go_wp2_with fail
  go_loopw [5, 6] (fun v5 v6 wr => ∃ (n j : Nat), v5 = .int .i64 (n : Int) ∧ v6 = .int .i64 (j : Int) ∧ j ≤ len ∧ n ≤ j * 1000000 ∧ Upto none' w wr)
    (fun _ v6 _ => len - (intOf v6).toNat)
  case atStart => exact ⟨0, 0, rfl, rfl, Nat.zero_le _, Nat.zero_le _, Upto.refl _ _⟩
  case round =>
    obtain ⟨n, j, rfl, rfl, hj, hn, hU⟩ := hrel
    have u1 : (j : Int) ≤ 1000 := by omega
    have u2 : (n : Int) ≤ 1000000000 := by omega
    by_cases hlt : (j : Int) < (len : Int)
    · have hjl : j < ts.length := by have := HL.out; omega
      obtain ⟨b, o, k, nm, i, as', c, rfl, hbl, _, c0, c1, c2, c3, hR⟩ := arg_tm (hE.on hU) j hjl
      have hsz := hs _ (List.getElem_mem hjl)
      have SD := refDepth_any ts[j] hsz wr _ hR
      have SZ := fun (W : World) (hu : Upto none' wr W) => refSize_any ts[j] hsz W _ (hR.on hu)
      generalize ts[j].args.length = al at *
      generalize ts[j].depth = dp at *
      generalize ts[j].size = sz at *
      clear hR
      go_wp2_with fail
      (with_reducible refine SD.mono ?_)
      rintro e w4 ⟨rfl, hU4⟩
      have d0 := hU4.cell c0 (fun x => x)
      have d1 := hU4.cell c1 (fun x => x)
      have d2 := hU4.cell c2 (fun x => x)
      have d3 := hU4.cell c3 (fun x => x)
      clear c0 c1 c2 c3 SD
      by_cases hd : (40 : Int) < (dp : Int)
      · go_wp2_with fail
        go_ret
        exact ⟨⟨_, rfl⟩, hU.and hU4⟩
      · go_wp2_with fail
        (with_reducible refine (SZ _ hU4).mono ?_)
        rintro e w5 ⟨rfl, hU5⟩
        have u3 : (sz : Int) ≤ 1000000 := by omega
        clear d0 d1 d2 d3 SZ
        go_wp2_with fail
        go_roundw
        case rel => exact ⟨n + sz, j + 1, by go_num, by go_num, by omega, by omega, (hU.and hU4).and hU5⟩
        case measure => simp [intOf]; omega
    · go_wp2_with fail
      go_ret
      exact ⟨⟨_, rfl⟩, hU⟩
end Go.Proofs.Ytadphaobbpngkaa
