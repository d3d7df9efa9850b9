/- MetaPlays: its walk. -/
import Derived.Test.YtdomloghcpfdjaaGreatDoorRFC
import Derived.Test.YtdomloghcpfdjaaGreatDoorRFP
namespace Go.LF
open Tm Go.Proofs.YtdomloghcpfdjaaGreatDoor
theorem Plz.names {l : List Mv} (h : Plz l) : ∀ m ∈ l, m.name.length ≤ 1000000 := by
  intro m hm
  obtain ⟨i, hi, rfl⟩ := List.getElem_of_mem hm
  rcases (checkE_parts (h.ok i hi)).1 with h | h
  · rw [h]; simp
  · unfold isName at h
    simp at h
    omega
end Go.LF
namespace Go.Proofs.YtdomloghcpfdjaaGreatDoor
open Go.RowKit Go.LF
set_option maxRecDepth 100000 in
set_option maxHeartbeats 8000000 in
theorem metaPlays_walk (l0 : List Int) (a0 : Option Addr) (len0 cap0 : Nat) (hl0 : l0.length = len0) (hlen0 : len0 ≤ 17592186044416) (w : World) (hE0 : RepE none' w 1 (l0.map (Dat.int .i64)) a0 0) (hN : NamesRead w) :
    Calls Tryz.prog 4 #[.slice a0 len0 cap0] w fun e w' => e = .returned (.bool true) ∧ Upto none' w w' := by
  have PL := play_any l0 a0 len0 cap0 hl0 hlen0 w hE0 hN
  clear hE0 hN hl0
  go_enter Tryz.func4, Tryz.ntmps4
  go_wp2_with fail
  (with_reducible refine PL.mono ?_)
  rintro e w1 ⟨L, va, vc, rfl, hP, hlc, hL, hU1⟩
  have VA := valid13_any L hP.stR hP.plz.names w1 va vc hL
  rw [hP.valid] at VA
  simp only at VA
  generalize L.length = Ll at *
  clear PL hL hP hlc
  go_wp2_with fail
  (with_reducible refine VA.mono ?_)
  rintro e w2 ⟨rfl, hU2⟩
  have hU12 := hU1.and hU2
  clear VA
  go_wp2_with fail
  (with_reducible refine (awake13 w2).mono ?_)
  rintro e w3 ⟨rfl, hU3⟩
  have hU13 := hU12.and hU3
  go_wp2_with fail
  go_ret
  exact ⟨rfl, hU13⟩
end Go.Proofs.YtdomloghcpfdjaaGreatDoor
