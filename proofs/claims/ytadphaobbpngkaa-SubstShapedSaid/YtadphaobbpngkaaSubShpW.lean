/- SubstShaped: its walk. -/
import Derived.Test.YtadphaobbpngkaaSubAwake
import Derived.Test.YtadphaobbpngkaaSubApl
import Derived.Test.YtadphaobbpngkaaSubRq
import Derived.Test.YtadphaobbpngkaaSubShpP
import Derived.Test.YtadphaobbpngkaaSubShd
import Derived.Test.YtadphaobbpngkaaSubLight
import Derived.Test.YtadphaobbpngkaaCL
import Derived.Test.YtadphaobbpngkaaCG
import Derived.Deep.CutRange
import Derived.Deep.RegionHeld3
import Derived.Deep.RegionLaw
namespace Go.Proofs.Ytadphaobbpngkaa
open Go.RowKit Go.LF
/-- Two simple types in a block, as a row. -/
theorem repE_twoS {O : Nat → Prop} {W : World} {s u : Sm} {c0 c1 d0 d1 : Value} {b : Nat} {T : TypeId} (h : Rep O W s.dat [c0, c1]) (h' : Rep O W u.dat [d0, d1]) (hb : ¬ O b) (hB : W.heap[b]? = some (.cells #[c0, c1, d0, d1] T (0, 0))) :
    RepE O W 2 ([s, u].map Sm.dat) (some ⟨b, 0, none⟩) 0 := by
  have hlt := (Array.getElem?_eq_some_iff.1 hB).1
  have hcell : ∀ i, W.cell? ⟨b, i, none⟩ = (#[c0, c1, d0, d1] : Array Value)[i]? := fun i => by simp [World.cell?, hB]
  refine repE_of _ _ _ (fun i hi => ?_)
  match i, hi with
  | 0, _ =>
    refine ⟨b, 0, _, rfl, hlt, hb, rfl, fun m v hv => ?_, h⟩
    rw [hcell]
    match m, hv with
    | 0, hv => cases hv; rfl
    | 1, hv => cases hv; rfl
    | m + 2, hv => simp at hv
  | 1, _ =>
    refine ⟨b, 0, _, rfl, hlt, hb, rfl, fun m v hv => ?_, h'⟩
    rw [hcell]
    match m, hv with
    | 0, hv => cases hv; rfl
    | 1, hv => cases hv; rfl
    | m + 2, hv => simp at hv
theorem repE_first {O : Nat → Prop} {W : World} {s u : Sm} {a : Option Addr} (h : RepE O W 2 ([s, u].map Sm.dat) a 0) : RepE O W 2 ([s].map Sm.dat) a 0 := by
  simp only [List.map_cons, List.map_nil, RepE] at h ⊢
  exact ⟨h.1, trivial⟩
/-- Two cells of a block. -/
abbrev Cl2 (S : Nat) (v0 v1 : Value) (W : World) : Prop := W.cell? ⟨S, 0, none⟩ = some v0 ∧ W.cell? ⟨S, 1, none⟩ = some v1
theorem Cl2.keep {S : Nat} {v0 v1 : Value} {W W' : World} {O : Nat → Prop} (h : Cl2 S v0 v1 W) (hU : Upto O W W') (hS : ¬ O S) : Cl2 S v0 v1 W' := ⟨hU.cell h.1 hS, hU.cell h.2 hS⟩
theorem Cl2.new {S : Nat} {v0 v1 : Value} {W : World} (h : Cl2 S v0 v1 W) (o : Obj) : Cl2 S v0 v1 (W.alloc o) := h.keep ((Upto.refl none' W).alloc o) (fun x => x)
theorem Cl2.set4 {S r : Nat} {v0 v1 : Value} {W : World} (h : Cl2 S v0 v1 W) (hr : ¬ S = r) (d0 d1 d2 d3 : Value) : Cl2 S v0 v1 ((((W.setCell ⟨r, 0, none⟩ d0).setCell ⟨r, 1, none⟩ d1).setCell ⟨r, 2, none⟩ d2).setCell ⟨r, 3, none⟩ d3) :=
  h.keep (O := fun b => b = r) (Upto.set (Upto.set (Upto.set (Upto.set (Upto.refl _ _) 0 _) 1 _) 2 _) 3 _) hr
theorem sm_len {O : Nat → Prop} {W : World} {s : Sm} {f : List UInt8} {a : Option Addr} {n c : Nat} (h : Rep O W s.dat [.string (B f), .slice a n c]) : n = s.args.length := by
  obtain ⟨f', l, a', cap, rfl, e, hc, hE⟩ := sm_open h
  simp only [List.cons.injEq, Value.slice.injEq] at e
  exact e.2.1.2.1
/-- The arguments of the object, so far. -/
def ShB (Γ : List Sm) (s : Sm) (us : List Tm) : Prop := ∀ i (_ : i < us.length) (_ : i < s.args.length), Tm.Shd 2 Γ s.args[i].args us[i]
theorem ShB.add {Γ : List Sm} {s : Sm} {us : List Tm} {t : Tm} (h : ShB Γ s us) (hl : us.length < s.args.length) (ht : Tm.Shd 2 Γ s.args[us.length].args t) : ShB Γ s (us ++ [t]) := by
  intro i h1 h2
  by_cases hi : i < us.length
  · rw [List.getElem_append_left hi]
    exact h i hi h2
  · obtain rfl : i = us.length := by simp at h1; omega
    rw [List.getElem_append_right (Nat.le_refl _)]
    simp only [Nat.sub_self, List.getElem_cons_zero]
    exact ht
theorem ShB.all {Γ : List Sm} {s : Sm} {us : List Tm} (h : ShB Γ s us) (hl : us.length = s.args.length) : Tm.shpA Γ s.args us ∧ ∀ u ∈ us, u.wt ≤ 59100 := by
  refine ⟨Tm.shpA_of hl (fun j h1 h2 => (h j h1 h2).shp), fun u hu => ?_⟩
  obtain ⟨j, h1, rfl⟩ := List.getElem_of_mem hu
  have := (h j h1 (by omega)).up.wt
  rw [Tm.bdS_3] at this
  exact this
theorem nar_of {s : Sm} {d : Nat} (h : s.FitsS d) (hd : d ≤ 3) : Nar s := by
  have := h.size
  have := Nat.pow_le_pow_right (show 0 < 2 by omega) (show d + 1 ≤ 4 by omega)
  show s.size ≤ 15
  omega
set_option maxRecDepth 100000 in
set_option maxHeartbeats 16000000 in
theorem substShaped_walk (l0 : List Int) (a0 : Option Addr) (len0 cap0 : Nat) (hl0 : l0.length = len0) (hlen0 : len0 ≤ 17592186044416) (w : World) (hE0 : RepE none' w 1 (l0.map (Dat.int .i64)) a0 0) :
    Calls Try.prog 4 #[.slice a0 len0 cap0] w fun e w' => e = .returned (.bool true) ∧ Upto none' w w' := by
  have hT := tape_new (cap := cap0) (U := 25) hl0 hlen0 hE0
  obtain ⟨T, hTT⟩ : ∃ T, T = w.heap.size := ⟨_, rfl⟩
  rw [← hTT] at hT
  have SM3 : ∀ W, TapeOk W T → Calls Try.prog 13 #[.pointer (some ⟨T, 0, none⟩), .int .i64 3] W (MakesS W.heap.size 3 T W) := fun W h => simple_any 3 (by omega) T W h
  have SM1 : ∀ W, TapeOk W T → Calls Try.prog 13 #[.pointer (some ⟨T, 0, none⟩), .int .i64 1] W (MakesS W.heap.size 1 T W) := fun W h => simple_any 1 (by omega) T W h
  have SM2 : ∀ W, TapeOk W T → Calls Try.prog 13 #[.pointer (some ⟨T, 0, none⟩), .int .i64 2] W (MakesS W.heap.size 2 T W) := fun W h => simple_any 2 (by omega) T W h
  have HTT := hid hTT
  clear hTT hE0 hl0 hlen0
  go_enter Try.func4, Try.ntmps4
  go_wp2_with fail
  rw [← HTT.out]
  refine (SM3 _ hT).mono ?_
  rintro e w2 ⟨f, sa, sl, sc, s, rfl, hS, hFS, hT2, hU2⟩
  have hU2' : Upto none' w w2 := ((Upto.refl none' w).alloc _).trans hU2 (fun b hb e => by simp only [isT] at e; have := HTT.out; omega)
  have hT2l := hT2.lt
  have hsz2 : T < w2.heap.size := hT2l
  obtain ⟨w3, hw3⟩ : ∃ w3, w3 = w2.alloc (.cells #[.string (B f), .slice sa sl sc] 29) := ⟨_, rfl⟩
  have hUa : Upto none' w2 w3 := by rw [hw3]; exact (Upto.refl none' w2).alloc _
  have hs3 : Box2 w3 w2.heap.size (.string (B f)) (.slice sa sl sc) 29 := by rw [hw3]; exact Box2.at_new rfl
  have hR3 : Rep (isT T) w3 s.dat [.string (B f), .slice sa sl sc] := (Rep.weaken (fun b _ e => by simp only [isT] at e; have := HTT.out; simp; omega) _ _ hS).on hUa
  have hT3 := hT2.on hUa
  have hU3 := hU2'.and hUa
  obtain ⟨S, hSS⟩ : ∃ S, S = w2.heap.size := ⟨_, rfl⟩
  rw [← hSS] at hs3
  have hTS : T < S := by omega
  have HS := hid hSS
  have HW3 := hid hw3
  clear hw3 hSS hUa hS hU2 hU2' hT hT2 SM3 hT2l hsz2
  go_upto_region 3 with fail
  rw [← HS.out, ← HW3.out]
  obtain ⟨s0, s1⟩ := hs3.cells
  have hd : Upto none' w3 w3.drew := (Upto.refl none' w3).drew
  have hTd := hT3.on hd
  have Sd : Cl2 S (.string (B f)) (.slice sa sl sc) w3.drew := ⟨hd.cell s0 (fun x => x), hd.cell s1 (fun x => x)⟩
  go_region_held3 (fun w' => Cl2 S (.string (B f)) (.slice sa sl sc) w')
    (first | (with_reducible assumption) | (with_reducible exact Sd) | (with_reducible refine Cl2.new ?_ _; with_reducible assumption))
    (first
      | ((go_at_call 13); (with_reducible refine (SM1 _ hTd).mono ?_); rintro e w4 ⟨f4, sa4, sl4, sc4, s4, rfl, hS4, hF4, hT4, hU4⟩; have S4 := Sd.keep hU4 (by simp only [isT]; omega)))
  have hU34 : Upto (isT T) w3 w4 := ((Upto.refl (isT T) w3).drew).trans hU4 (fun _ _ e => e)
  have hz34 := hU34.size
  have hz3 := hs3.lt
  obtain ⟨w5, hw5⟩ : ∃ w5, w5 = w4.alloc (.cells #[.string (B f4), .slice sa4 sl4 sc4, .string (B f), .slice sa sl sc] 29) := ⟨_, rfl⟩
  have hUb : Upto none' w4 w5 := by rw [hw5]; exact (Upto.refl none' w4).alloc _
  obtain ⟨K, hK⟩ : ∃ K, K = w4.heap.size := ⟨_, rfl⟩
  have hk5 : w5.heap[K]? = some (.cells #[.string (B f4), .slice sa4 sl4 sc4, .string (B f), .slice sa sl sc] 29 (0, 0)) := by rw [hw5, hK]; exact heap_alloc_new w4 _
  have hs5 := (hs3.keep hU34 (by simp only [isT]; omega)).kept hUb
  have hR5 : Rep (isT T) w5 s.dat [.string (B f), .slice sa sl sc] := (Rep.keep hU34 (fun _ e => e) _ _ hR3).on hUb
  have hS5 : Rep (isT T) w5 s4.dat [.string (B f4), .slice sa4 sl4 sc4] := (Rep.weaken (fun b _ e => by simp only [isT] at e; have h : T < w3.heap.size := (by omega); rw [e]; exact h) _ _ hS4).on hUb
  have hC5 : RepE (isT T) w5 2 ([s4, s].map Sm.dat) (some ⟨K, 0, none⟩) 0 := repE_twoS hS5 hR5 (by simp only [isT]; omega) hk5
  have hT5 := hT4.on hUb
  have hUw5 : Upto none' w w5 := (hU3.trans hU34 (fun b hb e => by simp only [isT] at e; have := HTT.out; omega)).and hUb
  have hSK : S < K := by omega
  have HK := hid hK
  have HW5 := hid hw5
  have N4 := nar_of hF4 (by omega)
  have NS := nar_of hFS (by omega)
  have hFs := hFS.wt
  clear hw5 hK hk5 hUb hU34 hS5 hS4 hU4 hT4 S4 Sd hTd hd s0 s1 hs3 hR3 hT3 hU3 hz34 hz3 SM1
  go_upto_region 4 with fail
  rw [← HW5.out, ← HK.out]
  go_wp2_with fail
  (with_reducible refine (SM2 _ hT5).mono ?_)
  rintro e w6 ⟨f6, sa6, sl6, sc6, s6, rfl, hS6, hF6, hT6, hU6⟩
  have hC6 := RepE.keep hU6 (fun _ e => e) _ _ _ _ hC5
  have hT5l := hT5.lt
  have hS6' : Rep (isT T) w6 s6.dat [.string (B f6), .slice sa6 sl6 sc6] := Rep.weaken (fun b _ e => by simp only [isT] at e; omega) _ _ hS6
  have N6 := nar_of hF6 (by omega)
  have SH : Calls Try.prog 14 #[.pointer (some ⟨T, 0, none⟩), .agg #[.string (B f6), .slice sa6 sl6 sc6], .slice (some ⟨K, 0, none⟩) 2 2, .int .i64 3] w6 (ShdC w6.heap.size 3 [s, s4] s6.args T w6) :=
    shaped_any 3 (by omega) [s4, s] s6 3 T w6 [.string (B f6), .slice sa6 sl6 sc6] (some ⟨K, 0, none⟩) 2 (by simp) (fun x hx => by rcases List.mem_cons.1 hx with rfl | hx; exact N4; obtain rfl : x = s := (by simpa using hx); exact NS) N6 (by omega) (by omega) hT6 hS6' hC6
  go_wp2_with fail
  (with_reducible refine SH.mono ?_)
  rintro e w7 ⟨k7, i7, n7, a7, l7, c7, t, rfl, hR7, hD7, hT7, hU7⟩
  have hU57 := hU6.trans hU7 (fun _ _ e => e)
  have hz67 := hU6.size
  obtain ⟨w8, hw8⟩ : ∃ w8, w8 = w7.alloc (.cells #[.int .i64 k7, .string (B n7), .int .i64 i7, .slice a7 l7 c7] 32) := ⟨_, rfl⟩
  have hUb : Upto none' w7 w8 := by rw [hw8]; exact (Upto.refl none' w7).alloc _
  obtain ⟨P, hP⟩ : ∃ P, P = w7.heap.size := ⟨_, rfl⟩
  have ht8 : Box4 w8 P (.int .i64 k7) (.string (B n7)) (.int .i64 i7) (.slice a7 l7 c7) 32 := by rw [hw8]; exact Box4.at_new hP.symm
  have hR8 : Rep (isT T) w8 t.dat [.int .i64 k7, .string (B n7), .int .i64 i7, .slice a7 l7 c7] := (Rep.weaken (fun b _ e => by simp only [isT] at e; omega) _ _ hR7).on hUb
  have hs8 := (hs5.keep hU57 (by simp only [isT]; omega)).kept hUb
  have hS8 := (Rep.keep hU57 (fun _ e => e) _ _ hR5).on hUb
  have hC8 := repE_first ((RepE.keep hU57 (fun _ e => e) _ _ _ _ hC5).on hUb)
  have hT8 := hT7.on hUb
  have hUw8 : Upto none' w w8 := (hUw5.trans hU57 (fun b hb e => by simp only [isT] at e; have := HTT.out; omega)).and hUb
  have hz8 := hs8.lt
  have hPz := ht8.lt
  have hSP : S < P := by have := hU57.size; have := hs5.lt; omega
  have HP := hid hP
  have HW8 := hid hw8
  have HD7 := hid hD7
  clear hw8 hP hUb hU57 hR7 hT7 hU7 hU6 hT6 hS6 hS6' hC6 hC5 hT5 hs5 hR5 hUw5 SH SM2 hz67 hT5l hD7 N6
  go_upto_region 5 with fail
  rw [← HW8.out, ← HP.out]
  have SHm : ∀ (W : World), Upto none' w8 W → TapeOk W T → Calls Try.prog 14 #[.pointer (some ⟨T, 0, none⟩), .agg #[.string (B f), .slice sa sl sc], .slice (some ⟨K, 0, none⟩) 1 2, .int .i64 3] W (ShdC W.heap.size 3 [s4] s.args T W) := fun W hu hTW =>
    shaped_any 3 (by omega) [s4] s 3 T W [.string (B f), .slice sa sl sc] (some ⟨K, 0, none⟩) 2 (by simp) (fun x hx => by obtain rfl : x = s4 := (by simpa using hx); exact N4) NS (by omega) (by omega) hTW (hS8.on hu) (hC8.on hu)
  have hd : Upto none' w8 w8.drew := (Upto.refl none' w8).drew
  have ha : Upto none' w8 (w8.alloc (.cells #[.int .i64 0, .string (B []), .int .i64 0, .slice none 0 0] 32)).drew := ((Upto.refl none' _).alloc _).drew
  have Sc : Cl2 S (.string (B f)) (.slice sa sl sc) w8 := hs8.cells
  have Sd := Sc.keep hd (fun x => x)
  have Sa := Sc.keep ha (fun x => x)
  have SHd := SHm _ hd (hT8.on hd)
  have SHa := SHm _ ha (hT8.on ha)
  go_cut [7] from 32 to 36 (fun v7 wc => ∃ (b : Nat) (k i : Int) (n : List UInt8) (a : Option Addr) (len cap : Nat) (m : Tm), v7 = .pointer (some ⟨b, 0, none⟩) ∧ P < b ∧ Box4 wc b (.int .i64 k) (.string (B n)) (.int .i64 i) (.slice a len cap) 32 ∧ Rep (isT T) wc m.dat [.int .i64 k, .string (B n), .int .i64 i, .slice a len cap] ∧ Tm.Shd 3 [s4] s.args m ∧ TapeOk wc T ∧ Upto (isT T) w8 wc)
  case first =>
    go_region_held3 (fun w' => Cl2 S (.string (B f)) (.slice sa sl sc) w')
      (first | (with_reducible assumption) | (with_reducible exact Sd) | (with_reducible exact Sa) | (repeat' (first | (with_reducible assumption) | (with_reducible refine Cl2.new ?_ _) | (with_reducible refine Cl2.set4 ?_ (by (try simp only [World.size_alloc]); omega) _ _ _ _))))
      (first
        | ((go_at_call 14); (with_reducible refine SHd.mono ?_); rintro e w11 ⟨k11, i11, n11, a11, len11, cap11, m, rfl, hR11, hD11, hT11, hU11⟩; have S11 := Sd.keep hU11 (by simp only [isT]; omega); have hU811 := ((Upto.refl (isT T) w8).drew).trans hU11 (fun _ _ e => e); have z11 := hU811.size)
        | ((go_at_call 14); (with_reducible refine SHa.mono ?_); rintro e w11 ⟨k11, i11, n11, a11, len11, cap11, m, rfl, hR11, hD11, hT11, hU11⟩; have S11 := Sa.keep hU11 (by simp only [isT]; omega); have hU811 := (ha.mono (fun _ _ x => x.elim)).trans hU11 (fun _ _ e => e); have z11 := hU811.size; have h6 := (((Box4.at_new rfl : Box4 (w8.alloc (.cells #[.int .i64 0, .string (B []), .int .i64 0, .slice none 0 0] 32)) w8.heap.size _ _ _ _ 32).kept (Upto.refl none' _).drew).keep hU11 (by simp only [isT]; omega)); obtain ⟨c0, c1, c2, c3⟩ := h6.cells; obtain ⟨d0, d1, d2, d3⟩ := h6.frozens; have h6l := h6.lt))
    all_goals
      go_wp2_with fail
      go_meet
    all_goals first
      | (have h7 := h6
         refine ⟨w8.heap.size, k11, i11, n11, a11, len11, cap11, m, rfl, hPz, h7.set.1, ?_, hD11, ?_, ?_⟩
         · exact Rep.weaken (fun b _ e => by simp only [isT] at e; rw [e]; show T < (World.drew _).heap.size; simp; omega) _ _ (Rep.keep h7.set.2 (fun b e => by show b < (World.drew _).heap.size; simp; omega) _ _ hR11)
         · exact hT11.far h7.set.2 (fun b e => by omega)
         · exact hU811.trans h7.set.2 (fun b hb e => by omega))
      | (refine ⟨w11.heap.size, k11, i11, n11, a11, len11, cap11, m, rfl, by omega, Box4.at_new rfl, ?_, hD11, ?_, ?_⟩
         · exact (Rep.weaken (fun b _ e => by simp only [isT] at e; rw [e]; show T < w8.heap.size; omega) _ _ hR11).on ((Upto.refl none' _).alloc _)
         · exact hT11.on ((Upto.refl none' _).alloc _)
         · exact hU811.alloc _)
  case rest =>
    obtain ⟨b, k9, i9, n9, a9, l9, c9, m, rfl, hPb, hm9, hM9, hD9, hT9, hU9⟩ := hcut
    obtain ⟨w9, rfl⟩ : ∃ q, q = wc := ⟨wc, rfl⟩
    have ht9 := ht8.keep hU9 (by simp only [isT]; omega)
    have hs9 := hs8.keep hU9 (by simp only [isT]; omega)
    have hRt9 := Rep.keep hU9 (fun _ e => e) _ _ hR8
    have hS9 := Rep.keep hU9 (fun _ e => e) _ _ hS8
    have hC9 := RepE.keep hU9 (fun _ e => e) _ _ _ _ hC8
    have hUw9 : Upto none' w w9 := hUw8.trans hU9 (fun b hb e => by simp only [isT] at e; have := HTT.out; omega)
    have htw : t.wt ≤ 59100 := by have := HD7.out.wt; rw [Tm.bdS_3] at this; exact this
    have hmw : m.wt ≤ 59100 := by have := hD9.wt; rw [Tm.bdS_3] at this; exact this
    have hts := Tm.size_le_wt t
    have hms := Tm.size_le_wt m
    have HM := hid (And.intro HD7.out.shp hD9.shp)
    clear ht8 hs8 hR8 hS8 hC8 hUw8 hU9 hD9 HD7 SHm hd ha Sc Sd Sa SHd SHa hT8 hz8 hPz
    obtain ⟨w10, hw10⟩ : ∃ w10, w10 = w9.alloc (.cells #[.int .i64 k7, .string (B n7), .int .i64 i7, .slice a7 l7 c7, .int .i64 k9, .string (B n9), .int .i64 i9, .slice a9 l9 c9] 32) := ⟨_, rfl⟩
    have hUa : Upto none' w9 w10 := by rw [hw10]; exact (Upto.refl none' w9).alloc _
    have hrow : RepE none' w10 4 ([t, m].map Tm.dat) (some ⟨w9.heap.size, 0, none⟩) 0 := rep_two ((rep_pre hRt9).on hUa) ((rep_pre hM9).on hUa) (fun x => x) (by rw [hw10]; exact heap_alloc_new w9 _)
    have LT : Calls Try.prog 15 #[.int .i64 400, .slice (some ⟨w9.heap.size, 0, none⟩) 2 2] w10 fun e w' => SomeB e ∧ Upto none' w10 w' := light_any 400 [t, m] (fun x hx => by rcases List.mem_cons.1 hx with rfl | hx; omega; obtain rfl : x = m := (by simpa using hx); omega) (by simp) _ 2 w10 hrow
    have HW10 := hid hw10
    clear hw10 hrow hts hms
    obtain ⟨x0, x1, x2, x3⟩ := ht9.cells
    obtain ⟨m0, m1, m2, m3⟩ := hm9.cells
    go_wp2_with fail
    rw [← HW10.out]
    (with_reducible refine LT.mono ?_)
    rintro e w11 ⟨hb, hU11⟩
    obtain ⟨bl, rfl⟩ := hb
    have hU911 := hUa.and hU11
    cases bl
    case false =>
      go_wp2_with fail
      refine (awake08 _).mono ?_
      rintro e w12 ⟨rfl, hU12⟩
      go_wp2_with fail
      go_ret
      exact ⟨rfl, (hUw9.and hU911).and hU12⟩
    case true =>
      have ht := ht9.kept hU911
      have hm := hm9.kept hU911
      have hs := hs9.kept hU911
      have hRt := hRt9.on hU911
      have hRm := hM9.on hU911
      have hRs := hS9.on hU911
      have hC := hC9.on hU911
      have hT11 := hT9.on hU911
      have hUw := hUw9.and hU911
      clear ht9 hm9 hs9 hRt9 hM9 hS9 hC9 hT9 hUw9 hU911 hUa hU11 LT x0 x1 x2 x3 m0 m1 m2 m3
      have hT11l := hT11.lt
      have hX := manyT_le t [m] [s]
      have SP := fun (W : World) (hu : Upto none' w11 W) => subst_any (isT T) t m s (by omega) (by omega) (by omega) W (fun b e => by simp only [isT] at e; rw [e]; exact Nat.lt_of_lt_of_le hT11l hu.size) _ _ _ (hRt.on hu) (hRm.on hu) (hRs.on hu)
      have SR := fun (W : World) (hu : Upto none' w11 W) => refSubst_any (isT T) t m s (by omega) (by omega) (by omega) W (fun b e => by simp only [isT] at e; rw [e]; exact Nat.lt_of_lt_of_le hT11l hu.size) _ _ _ (hRt.on hu) (hRm.on hu) (hRs.on hu)
      have hE6 := manyE_ne6 HM.out.1 HM.out.2
      obtain ⟨E, hE⟩ : ∃ E, E = manyE t [m] [s] := ⟨_, rfl⟩
      obtain ⟨X, hXe⟩ : ∃ X, X = manyT t [m] [s] := ⟨_, rfl⟩
      rw [← hXe] at hX SP SR
      rw [← hE] at hE6 SP SR
      have SA := fun (W : World) cs ds h h' => refSame_any X (by omega) X W cs ds h h'
      rw [Tm.same_refl] at SA
      have HE6 := hid hE6
      clear hE hXe hE6
      obtain ⟨x0, x1, x2, x3⟩ := ht.cells
      obtain ⟨m0, m1, m2, m3⟩ := hm.cells
      obtain ⟨s0, s1⟩ := hs.cells
      go_wp2_with fail
      (with_reducible refine (SP w11 (Upto.refl _ _)).mono ?_)
      rintro e w12 ⟨k12, i12, n12, a12, len12, cap12, rfl, hR12, hU12⟩
      obtain ⟨w13, hw13⟩ : ∃ w13, w13 = w12.alloc (.cells #[.int .i64 k12, .string (B n12), .int .i64 i12, .slice a12 len12 cap12] 32) := ⟨_, rfl⟩
      have hUa : Upto none' w12 w13 := by rw [hw13]; exact (Upto.refl none' _).alloc _
      have hx13 : Box4 w13 w12.heap.size (.int .i64 k12) (.string (B n12)) (.int .i64 i12) (.slice a12 len12 cap12) 32 := by rw [hw13]; exact Box4.at_new rfl
      have hU13 := hU12.and hUa
      have ht13 := ht.kept hU13
      have hm13 := hm.kept hU13
      have hs13 := hs.kept hU13
      have hX13 := hR12.on hUa
      obtain ⟨Y, hY⟩ : ∃ Y, Y = w12.heap.size := ⟨_, rfl⟩
      rw [← hY] at hx13
      have hTY : T < Y := by rw [hY]; exact Nat.lt_of_lt_of_le hT11l hU12.size
      have HY := hid hY
      have HW13 := hid hw13
      clear hw13 hY hUa hR12 hU12 SP x0 x1 x2 x3 m0 m1 m2 m3 s0 s1 ht hm hs
      go_upto_region 9 with fail
      rw [← HW13.out, ← HY.out]
      obtain ⟨x0, x1, x2, x3⟩ := ht13.cells
      obtain ⟨m0, m1, m2, m3⟩ := hm13.cells
      obtain ⟨s0, s1⟩ := hs13.cells
      go_wp2_with fail
      (with_reducible refine (SR w13 hU13).mono ?_)
      rintro e w14 ⟨k14, i14, n14, a14, len14, cap14, rfl, hR14, hU14⟩
      obtain ⟨w15, hw15⟩ : ∃ w15, w15 = w14.alloc (.cells #[.int .i64 k14, .string (B n14), .int .i64 i14, .slice a14 len14 cap14] 32) := ⟨_, rfl⟩
      have hUa : Upto none' w14 w15 := by rw [hw15]; exact (Upto.refl none' _).alloc _
      have hy15 : Box4 w15 w14.heap.size (.int .i64 k14) (.string (B n14)) (.int .i64 i14) (.slice a14 len14 cap14) 32 := by rw [hw15]; exact Box4.at_new rfl
      have hU1315 := hU14.and hUa
      have hU15 := hU13.and hU1315
      have hx15 := hx13.kept hU1315
      have hm15 := hm13.kept hU1315
      have hs15 := hs13.kept hU1315
      have hX15 := hX13.on hU1315
      have hY15 := hR14.on hUa
      obtain ⟨Z, hZ⟩ : ∃ Z, Z = w14.heap.size := ⟨_, rfl⟩
      rw [← hZ] at hy15
      have hTZ : T < Z := by rw [hZ]; exact Nat.lt_of_lt_of_le hT11l (Nat.le_trans hU13.size hU14.size)
      have HZ := hid hZ
      have HW15 := hid hw15
      clear hw15 hZ hUa hR14 hU14 SR x0 x1 x2 x3 m0 m1 m2 m3 s0 s1 ht13 hm13 hs13 hx13
      have hRm15 := hRm.on hU15
      have hRs15 := hRs.on hU15
      have hC15 := hC.on hU15
      have hT15 := hT11.on hU15
      have hUw15 := hUw.and hU15
      have hSr := sm_row hRs15
      have hsn := NS.len
      have HSL := hid (sm_len hRs15)
      have hsl14 : sl ≤ 14 := by have := HSL.out; omega
      have hz15 := hT15.lt
      clear hX13 hRt hRm hRs hC hT11 hUw hU13 hU1315 hU15 hT11l
      go_upto_region 10 with fail
      rw [← HW15.out, ← HZ.out]
      go_wp2_with fail
      obtain ⟨base, hbase⟩ : ∃ base, base = w15.heap.size := ⟨_, rfl⟩
      have hbz : base = w15.heap.size := hbase
      have hyb := hy15.lt
      have hxb := hx15.lt
      have hmb := hm15.lt
      have hsb := hs15.lt
      rw [← hbase] at hz15 hyb hxb hmb hsb
      have HBS := hid hbase
      clear hbase hbz
      go_loopw [12, 13] (fun v12 v13 wr => ∃ (j : Nat) (us : List Tm) (css : List (List Value)), v13 = .int .i64 (j : Int) ∧ j ≤ sl ∧ us.length = j ∧ Terms base wr v12 us css ∧ ShB [s4] s us ∧ TapeOk wr T ∧ Upto (isT T) w15 wr ∧ base ≤ wr.heap.size)
        (fun _ v13 _ => sl - (intOf v13).toNat)
      case atStart => exact ⟨0, [], [], rfl, Nat.zero_le _, rfl, Terms.nil _ _, fun i h => by simp at h, hT15, Upto.refl _ _, Nat.le_of_eq HBS.out⟩
      case round =>
        clear hT15
        obtain ⟨j, us, css, rfl, hj, hul, htu, hSB, hTr, hUr, hbr⟩ := hrel
        obtain ⟨v, hv⟩ : ∃ v, v = u12 := ⟨_, rfl⟩
        rw [← hv] at htu
        rw [← hv]
        have HV := hid hv
        clear hv
        have u1 : (j : Int) ≤ 14 := by omega
        have hsr := hs15.keep hUr (by simp only [isT]; omega)
        obtain ⟨s0, s1⟩ := hsr.cells
        by_cases hlt : (j : Int) < (sl : Int)
        · have hjD : j < s.args.length := by have := HSL.out; omega
          obtain ⟨eb, eo, en, es, ec, e9, hebl, hebO, y0, y1, hRe⟩ := arg_sm (RepE.keep hUr (fun _ e => e) _ _ _ _ hSr) j hjD
          subst e9
          obtain ⟨Dj, hDj⟩ : ∃ Dj, Dj = s.args[j] := ⟨_, rfl⟩
          rw [← hDj] at y1 hRe
          obtain ⟨el, hel⟩ : ∃ el, el = Dj.args.length := ⟨_, rfl⟩
          rw [← hel] at y1 hRe
          have hDjn : Nar Dj := by rw [hDj]; exact NS.arg _ (List.getElem_mem hjD)
          have hCr := RepE.keep hUr (fun _ e => e) _ _ _ _ hC15
          have hd : Upto none' wr wr.drew := (Upto.refl none' wr).drew
          have IHc : Calls Try.prog 14 #[.pointer (some ⟨T, 0, none⟩), .agg #[.string (B en), .slice es el ec], .slice (some ⟨K, 0, none⟩) 1 2, .int .i64 2] wr.drew (ShdC wr.drew.heap.size 2 [s4] Dj.args T wr.drew) :=
            shaped_any 2 (by omega) [s4] Dj 2 T wr.drew [.string (B en), .slice es el ec] (some ⟨K, 0, none⟩) 2 (by simp) (fun x hx => by obtain rfl : x = s4 := (by simpa using hx); exact N4) hDjn (by omega) (by omega) (hTr.on hd) (hRe.on hd) (hCr.on hd)
          have HM := hid hul
          have HSB := hid hSB
          have HJD := hid (And.intro hDj hjD)
          have hus : us.length ≤ 14 := by omega
          obtain ⟨i0, hi, hi0, hi1, hi2⟩ := info_parts info_term
          clear hul hSB hel hRe hCr hDj
          go_wp2_with fail
          go_region_law (first
            | ((rw [if_pos (by rfl)]); go_simp; (go_at_call 14); refine IHc.mono ?_; rintro e w8 ⟨k1, i1, n1, a1, len1, cap1, u, rfl, hR8, hF8, hT8, hU8⟩; have hU8' : Upto (isT T) wr w8 := Upto.trans ((Upto.refl (isT T) wr).drew) hU8 (fun _ _ x => x); have hs8 := hU8'.size; have hts8 := htu.keep hU8' (fun b e => (by simp only [isT] at e; omega)))
            | (refine step_append_lies _ (by rfl) _ _ 30 (by rfl) base 32 i0 (.agg #[.int .i64 0, .string (B []), .int .i64 0, .slice none 0 0]) 4 56 (by kernel_rfl) hi hi0 hi1 hi2 rfl (by decide) v us.length css.flatten (by rfl) ((hts8.on ((Upto.refl none' w8).alloc _)).2.2.1) ⟨w8.heap.size, 0, none⟩ 1 1 [.int .i64 k1, .string (B n1), .int .i64 i1, .slice a1 len1 cap1] (by rfl) rfl (World.news_of_block (heap_alloc_new w8 _)) (by simp [Value.oneCell']) (by omega) (by simp only [maxLen]; omega) (by omega) (by simp; omega) _ rfl ?_; intro g cap' w9' hown hgrow hat hlt9))
          all_goals
            have hal8 : Upto none' w8 (w8.alloc (.cells #[.int .i64 k1, .string (B n1), .int .i64 i1, .slice a1 len1 cap1] 32)) := (Upto.refl none' w8).alloc _
            have hts8' := hts8.on hal8
            have hR8' : Rep (fun b => b < base ∨ v.ownBlock = some b) (w8.alloc (.cells #[.int .i64 k1, .string (B n1), .int .i64 i1, .slice a1 len1 cap1] 32)) u.dat [.int .i64 k1, .string (B n1), .int .i64 i1, .slice a1 len1 cap1] := by
              refine (Rep.weaken (fun b _ e => ?_) _ _ hR8).new _
              rcases e with e | e
              · exact Nat.lt_of_lt_of_le e hbr
              · exact (htu.2.2.1.lt b e).2
            have hT9' := hts8'.appended rfl hR8' hown hgrow hat (Nat.le_refl _)
            have hrow9 := Upto.ofRow (RowUp.grown hts8'.2.2.1 hgrow)
            have hT9 := (hT8.on hal8).far hrow9 (fun b e => by omega)
            have hw9U : Upto (isT T) w15 w9' := ((hUr.trans hU8' (fun _ _ x => x)).trans hal8 (fun _ _ x => x.elim)).trans hrow9 (fun b hb e => by have := HBS.out; omega)
            have hsz9 : base ≤ w9'.heap.size := by have := hrow9.size; have := hal8.size; omega
            go_wp2_with fail
            go_roundw
            case rel => exact ⟨j + 1, us ++ [u], _, by go_num, by omega, by rw [List.length_append, HM.out]; rfl, hT9', HSB.out.add (by rw [HM.out]; exact HJD.out.2) (by have e := HM.out; subst e; rw [← HJD.out.1]; exact hF8), hT9, hw9U, hsz9⟩
            case measure => simp [intOf]; omega
        · have hjs : j = sl := by omega
          obtain ⟨ua, uc, rfl, huc, hEu⟩ := htu.rep
          have hall := hSB.all (by rw [hul, hjs]; exact HSL.out)
          have hus : us.length ≤ 14 := by omega
          have hxr := hx15.keep hUr (by simp only [isT]; omega)
          have hyr := hy15.keep hUr (by simp only [isT]; omega)
          have hmr := hm15.keep hUr (by simp only [isT]; omega)
          have hXr : Rep none' wr X.dat [.int .i64 k12, .string (B n12), .int .i64 i12, .slice a12 len12 cap12] := rep_pre (Rep.keep hUr (fun _ e => e) _ _ hX15)
          have hYr : Rep none' wr X.dat [.int .i64 k14, .string (B n14), .int .i64 i14, .slice a14 len14 cap14] := rep_pre (Rep.keep hUr (fun _ e => e) _ _ hY15)
          have hRm : Rep none' wr m.dat [.int .i64 k9, .string (B n9), .int .i64 i9, .slice a9 l9 c9] := rep_pre (Rep.keep hUr (fun _ e => e) _ _ hRm15)
          have hRs : Rep none' wr s.dat [.string (B f), .slice sa sl sc] := rep_pre (Rep.keep hUr (fun _ e => e) _ _ hRs15)
          have hEu' : RepE none' wr 4 (us.map Tm.dat) ua 0 := RepE.weaken (fun _ _ x => x.elim) _ _ _ _ hEu
          have hUw : Upto none' w wr := hUw15.trans hUr (fun b hb e => by simp only [isT] at e; have := HTT.out; omega)
          have AP := fun (W : World) (hu : Upto none' wr W) => applyF_any none' m s us (by omega) (fun u h => by have := hall.2 u h; omega) (by omega) (by omega) W (fun _ x => x.elim) _ _ ua uc (hRm.on hu) (hRs.on hu) (hEu'.on hu)
          have AR := fun (W : World) (hu : Upto none' wr W) => refApply_any none' m s us (by omega) (fun u h => by have := hall.2 u h; omega) (by omega) (by omega) W (fun _ x => x.elim) _ _ ua uc huc (hRm.on hu) (hRs.on hu) (hEu'.on hu)
          have hA6 := appE_ne6 HM.out.2 hall.1
          have hXA := appT_le m s us
          obtain ⟨F, hF⟩ : ∃ F, F = appE m s us := ⟨_, rfl⟩
          obtain ⟨V, hV⟩ : ∃ V, V = appT m s us := ⟨_, rfl⟩
          rw [← hV] at hXA AP AR
          rw [← hF] at hA6 AP AR
          have SV := fun (W : World) cs ds h h' => refSame_any V (by omega) V W cs ds h h'
          rw [Tm.same_refl] at SV
          have g6 : (E != 6) = true := by have := HE6.out; simpa using this
          have f6' : (F != 6) = true := by simpa using hA6
          obtain ⟨ul, hul'⟩ : ∃ ul, ul = us.length := ⟨_, rfl⟩
          rw [← hul'] at AP AR
          rw [← hul']
          have HUL := hid (And.intro hul' hjs)
          clear hall hEu hEu' hX15 hY15 hRm15 hRs15 hx15 hy15 hm15 hs15 hA6 hXA hF hV hul' hul hjs hRm hTr hSB htu hUr hUw15 hSr hC15
          obtain ⟨m0, m1, m2, m3⟩ := hmr.cells
          go_wp2_with fail
          (with_reducible refine (AP wr (Upto.refl _ _)).mono ?_)
          rintro e w16 ⟨k16, i16, n16, a16, len16, cap16, rfl, hR16, hU16⟩
          obtain ⟨w17, hw17⟩ : ∃ w17, w17 = w16.alloc (.cells #[.int .i64 k16, .string (B n16), .int .i64 i16, .slice a16 len16 cap16] 32) := ⟨_, rfl⟩
          have hUa : Upto none' w16 w17 := by rw [hw17]; exact (Upto.refl none' _).alloc _
          have hp17 : Box4 w17 w16.heap.size (.int .i64 k16) (.string (B n16)) (.int .i64 i16) (.slice a16 len16 cap16) 32 := by rw [hw17]; exact Box4.at_new rfl
          have hU17 := hU16.and hUa
          have hm17 := hmr.kept hU17
          have hs17 := hsr.kept hU17
          have hP17 := hR16.on hUa
          obtain ⟨A1, hA1⟩ : ∃ A1, A1 = w16.heap.size := ⟨_, rfl⟩
          rw [← hA1] at hp17
          have HA1 := hid hA1
          have HW17 := hid hw17
          clear hw17 hA1 hUa hR16 hU16 AP m0 m1 m2 m3 s0 s1 hmr hsr
          go_upto_region 16 with fail
          rw [← HW17.out, ← HA1.out]
          obtain ⟨m0, m1, m2, m3⟩ := hm17.cells
          obtain ⟨s0, s1⟩ := hs17.cells
          go_wp2_with fail
          (with_reducible refine (AR w17 hU17).mono ?_)
          rintro e w18 ⟨k18, i18, n18, a18, len18, cap18, rfl, hR18, hU18⟩
          obtain ⟨w19, hw19⟩ : ∃ w19, w19 = w18.alloc (.cells #[.int .i64 k18, .string (B n18), .int .i64 i18, .slice a18 len18 cap18] 32) := ⟨_, rfl⟩
          have hUa : Upto none' w18 w19 := by rw [hw19]; exact (Upto.refl none' _).alloc _
          have hq19 : Box4 w19 w18.heap.size (.int .i64 k18) (.string (B n18)) (.int .i64 i18) (.slice a18 len18 cap18) 32 := by rw [hw19]; exact Box4.at_new rfl
          have hU1719 := hU18.and hUa
          have hU19 := hU17.and hU1719
          have hp19 := hp17.kept hU1719
          have hP19 := hP17.on hU1719
          have hQ19 := hR18.on hUa
          have hx19 := hxr.kept hU19
          have hy19 := hyr.kept hU19
          have hX19 := hXr.on hU19
          have hY19 := hYr.on hU19
          have hUw19 := hUw.and hU19
          obtain ⟨A2, hA2⟩ : ∃ A2, A2 = w18.heap.size := ⟨_, rfl⟩
          rw [← hA2] at hq19
          have HA2 := hid hA2
          have HW19 := hid hw19
          clear hw19 hA2 hUa hR18 hU18 AR m0 m1 m2 m3 s0 s1 hm17 hs17 hp17 hP17 hxr hyr hXr hYr hU17 hU1719 hU19 hUw
          go_upto_region 17 with fail
          rw [← HW19.out, ← HA2.out]
          obtain ⟨x0, x1, x2, x3⟩ := hx19.cells
          obtain ⟨y0, y1, y2, y3⟩ := hy19.cells
          have SA1 := SA w19 _ _ hX19 hY19
          have SV2 := fun (W : World) (hu : Upto none' w19 W) => SV W _ _ (hP19.on hu) (hQ19.on hu)
          have AW := fun W => awake08 W
          clear SA SV
          go_wp2_with (first | ((go_at_call 11); (with_reducible refine SA1.mono ?_); rintro e w20 ⟨rfl, hU20⟩; clear SA1 x0 x1 x2 x3 y0 y1 y2 y3; obtain ⟨x0, x1, x2, x3⟩ := (hp19.kept hU20).cells; obtain ⟨y0, y1, y2, y3⟩ := (hq19.kept hU20).cells; have SV3 := SV2 _ hU20) | ((go_at_call 11); (with_reducible refine SV3.mono ?_); rintro e w21 ⟨rfl, hU21⟩) | ((go_at_call 16); (with_reducible refine (AW _).mono ?_); rintro e w22 ⟨rfl, hU22⟩))
          go_ret
          exact ⟨rfl, ((hUw19.and hU20).and hU21).and hU22⟩
end Go.Proofs.Ytadphaobbpngkaa
