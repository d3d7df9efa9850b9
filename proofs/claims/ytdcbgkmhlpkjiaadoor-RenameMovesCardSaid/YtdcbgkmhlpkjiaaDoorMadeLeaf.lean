/- The objects without arguments that a law makes. -/
import Derived.Test.YtdcbgkmhlpkjiaaDoorMadeA
namespace Go.Proofs.YtdcbgkmhlpkjiaaDoor
open Go.RowKit Go.LF

set_option maxRecDepth 100000 in
set_option maxHeartbeats 8000000 in
theorem leaf_any (vars metas : Nat) (hv : vars ≤ 1000) (hm : metas ≤ 1000) (T : Nat) (w : World) (hT : TapeOk w T) (hN : NamesOk T w) :
    Calls Tryd.prog 45 #[.pointer (some ⟨T, 0, none⟩), .int .i64 ((0 : Nat) : Int), .int .i64 vars, .int .i64 metas] w (Makes w.heap.size 0 vars metas T w) := by
  
  obtain ⟨D, hD⟩ : ∃ D : Int, D = ((0 : Nat) : Int) := ⟨_, rfl⟩
  obtain ⟨V, hV⟩ : ∃ V : Int, V = (vars : Int) := ⟨_, rfl⟩
  obtain ⟨M, hM⟩ : ∃ M : Int, M = (metas : Int) := ⟨_, rfl⟩
  rw [← hD, ← hV, ← hM]
  have NX := fun (n : Int) h0 h1 w hT => next_any n h0 h1 T w hT
  have D0 : ¬ 0 < D := by omega
  have D1 : D ≤ 0 := by omega
  have V0 : 0 ≤ V := by omega
  have V1 : V ≤ 1000 := by omega
  have M0 : 0 ≤ M := by omega
  have M1 : M ≤ 1000 := by omega
  have HD := hid hD
  have HV := hid hV
  have HM := hid hM
  clear hD hV hM
  have hTl := hT.lt
  go_enter Tryd.func45, Tryd.ntmps45
  go_wp2_with fail
  refine (NX _ (by omega) (by omega) _ ((hT.on ((Upto.refl none' w).alloc _)).on ((Upto.refl none' _).alloc _))).mono ?_
  rintro e w1 ⟨⟨c, hc, rfl⟩, hT1, hU1⟩
  have hk0 : w1.heap[w.heap.size + 1]? = some (.cells #[.int .i64 3, .int .i64 4, .int .i64 4, .int .i64 5, .int .i64 6] 3 (0, 0)) := by
    rw [hU1.block _ (by simp) (fun e => by simp only [isT] at e; omega)]
    have := heap_alloc_new (w.alloc (.cells #[.int .i64 0, .string (B []), .int .i64 0, .slice none 0 0] 25)) (.cells #[.int .i64 3, .int .i64 4, .int .i64 4, .int .i64 5, .int .i64 6] 3)
    rw [World.size_alloc] at this
    exact this
  obtain ⟨kk, hkc, hkk⟩ := kinds_at hk0 c hc
  have hw1 : Upto (isT T) w w1 := (((Upto.refl (isT T) w).alloc _).alloc _).trans hU1 (fun _ _ x => x)
  have c0 : (0 : Int) ≤ (c : Int) := by omega
  have c5 : (c : Int) < 5 := hc
  clear hk0 hT
  have hres : Box4 w1 w.heap.size (.int .i64 0) (.string (B [])) (.int .i64 0) (.slice none 0 0) 25 := by
    unfold Box4
    rw [hU1.block _ (by simp; omega) (fun e => by simp only [isT] at e; omega)]
    exact (heap_alloc_old _ _ _ (by simp)).trans (heap_alloc_new w _)
  clear hU1
  have hNl : NamesOk T w1 := hN.keep hw1
  clear hN
  have hresne : w.heap.size ≠ T := by omega
  have hways : kk = 3 ∨ kk = 4 ∨ (kk = 5 ∧ V = 0) ∨ (kk = 6 ∧ M = 0) ∨ (kk = 5 ∧ (V == 0) = false ∧ 0 < V) ∨ (kk = 6 ∧ (M == 0) = false ∧ 0 < M) := by
    rcases hkk with rfl | rfl | rfl | rfl
    · exact .inl rfl
    · exact .inr (.inl rfl)
    · by_cases h : V = 0
      · exact .inr (.inr (.inl ⟨rfl, h⟩))
      · exact .inr (.inr (.inr (.inr (.inl ⟨rfl, by simpa using h, by omega⟩))))
    · by_cases h : M = 0
      · exact .inr (.inr (.inr (.inl ⟨rfl, h⟩)))
      · exact .inr (.inr (.inr (.inr (.inr ⟨rfl, by simpa using h, by omega⟩))))
  clear hkk
  rcases hways with rfl | rfl | ⟨rfl, rfl⟩ | ⟨rfl, rfl⟩ | ⟨rfl, hp0, hp⟩ | ⟨rfl, hp0, hp⟩
  case inl | inr.inl | inr.inr.inl | inr.inr.inr.inl =>
    go_wp2_with fail
    refine (NX _ (by omega) (by omega) _ ((hT1.on ((Upto.refl none' w1).alloc _)).on ((Upto.refl none' _).alloc _))).mono ?_
    rintro e w3 ⟨⟨c2, hc2, rfl⟩, hT3, hU3⟩
    have hk3 : w3.heap[w1.heap.size + 1]? = some (.cells #[.string (B [122]), .string (B [115]), .string (B [99]), .string (B [97, 112, 112])] 9 (0, 0)) := by
      rw [hU3.block _ (by simp) (fun e => by simp only [isT] at e; have := hT1.lt; omega)]
      have := heap_alloc_new (w1.alloc (.cells #[.int .i64 4, .string (B []), .int .i64 0, .slice none 0 0] 25)) (.cells #[.string (B [122]), .string (B [115]), .string (B [99]), .string (B [97, 112, 112])] 9)
      rw [World.size_alloc] at this
      exact this
    obtain ⟨nm, hnm, hnn, hnl⟩ := constNames_at hk3 c2 hc2
    have d0 : (0 : Int) ≤ (c2 : Int) := by omega
    have hoT : w1.heap.size ≠ T := by have := hT1.lt; omega
    have hout3 : Box4 w3 w1.heap.size (.int .i64 4) (.string (B [])) (.int .i64 0) (.slice none 0 0) 25 := by
      unfold Box4
      rw [hU3.block _ (by simp; omega) (fun e => by simp only [isT] at e; omega)]
      exact (heap_alloc_old _ _ _ (by simp)).trans (heap_alloc_new w1 _)
    have hw13 : Upto (isT T) w1 w3 := (((Upto.refl (isT T) w1).alloc _).alloc _).trans hU3 (fun _ _ x => x)
    clear hU3 hk3
    obtain ⟨y0, y1, y2, y3⟩ := hout3.cells
    obtain ⟨g0, g1, g2, g3⟩ := hout3.frozens
    have q1 : w.heap.size < w1.heap.size := hres.lt
    have hres3 := hres.keep hw13 hresne
    obtain ⟨z0, z1, z2, z3⟩ := hres3.cells
    obtain ⟨e0, e1, e2, e3⟩ := hres3.frozens
    go_wp2_with fail
    obtain ⟨wp, hwp⟩ : ∃ wp, wp = w3.setCell ⟨w1.heap.size, 1, none⟩ (.string (B nm)) := ⟨_, rfl⟩
    have hset : Upto (fun b => b = w1.heap.size) w3 wp := by rw [hwp]; exact Upto.set (Upto.refl _ _) 1 _
    have hoT1 : T < w1.heap.size := by omega
    have hresp := hres3.keep hset (by omega)
    have hset9 := hresp.set (d0 := .int .i64 4) (d1 := .string (B nm)) (d2 := .int .i64 0) (d3 := .slice none 0 0)
    have hTp := hT3.far hset (fun b e => by omega)
    have hNp : NamesOk T wp := (hNl.keep hw13).far hset (fun b e => by omega)
    have hwpU : Upto (isT T) w wp := (hw1.trans hw13 (fun _ _ x => x)).trans hset (fun b hb e => by omega)
    rw [← hwp]
    have hfit : Tm.Fits (.mk 4 nm 0 []) 0 vars metas := Tm.fits_leaf (.inl rfl) (fun _ => ⟨hnn, rfl⟩) (fun e => by omega) (fun e => by omega) (by omega) (by omega) hnl
    obtain ⟨w9, hw9⟩ : ∃ w9, w9 = (((wp.setCell ⟨w.heap.size, 0, none⟩ (.int .i64 4)).setCell ⟨w.heap.size, 1, none⟩ (.string (B nm))).setCell ⟨w.heap.size, 2, none⟩ (.int .i64 0)).setCell ⟨w.heap.size, 3, none⟩ (.slice none 0 0) := ⟨_, rfl⟩
    rw [← hw9] at hset9
    rw [← hw9]
    clear hw9 hwp y0 y1 y2 y3 z0 z1 z2 z3
    obtain ⟨x0, x1, x2, x3⟩ := hset9.1.cells
    refine bodyPost_ret (v := .agg #[.int .i64 4, .string (B nm), .int .i64 0, .slice none 0 0]) ?_ rfl ?_
    · simp [results, Tryd.f45, go_sem, x0, x1, x2, x3]
    · exact made_fin (base := w.heap.size + 1) (ts := []) rfl rfl (Nat.le_refl _) (by simp only [List.map_nil, RepE]) (by omega) hset9 hfit hTp hNp hwpU hTl
  case inr.inr.inr.inr.inl =>
    go_wp2_with fail
    refine (NX _ (by omega) (by omega) _ (hT1.on ((Upto.refl none' w1).alloc _))).mono ?_
    rintro e w3 ⟨⟨c2, hc2, rfl⟩, hT3, hU3⟩
    have hoT : w1.heap.size ≠ T := by have := hT1.lt; omega
    have hout3 : Box4 w3 w1.heap.size (.int .i64 5) (.string (B [])) (.int .i64 0) (.slice none 0 0) 25 := by
      unfold Box4
      rw [hU3.block _ (by simp) (fun e => by simp only [isT] at e; omega)]
      exact heap_alloc_new w1 _
    have hw13 : Upto (isT T) w1 w3 := ((Upto.refl (isT T) w1).alloc _).trans hU3 (fun _ _ x => x)
    clear hU3
    obtain ⟨y0, y1, y2, y3⟩ := hout3.cells
    obtain ⟨g0, g1, g2, g3⟩ := hout3.frozens
    have q1 : w.heap.size < w1.heap.size := hres.lt
    have hres3 := hres.keep hw13 hresne
    obtain ⟨z0, z1, z2, z3⟩ := hres3.cells
    obtain ⟨e0, e1, e2, e3⟩ := hres3.frozens
    go_wp2_with fail
    obtain ⟨wp, hwp⟩ : ∃ wp, wp = w3.setCell ⟨w1.heap.size, 2, none⟩ (.int .i64 c2) := ⟨_, rfl⟩
    have hset : Upto (fun b => b = w1.heap.size) w3 wp := by rw [hwp]; exact Upto.set (Upto.refl _ _) 2 _
    have hoT1 : T < w1.heap.size := by omega
    have hresp := hres3.keep hset (by omega)
    have hset9 := hresp.set (d0 := .int .i64 5) (d1 := .string (B [])) (d2 := .int .i64 c2) (d3 := .slice none 0 0)
    have hTp := hT3.far hset (fun b e => by omega)
    have hNp : NamesOk T wp := (hNl.keep hw13).far hset (fun b e => by omega)
    have hwpU : Upto (isT T) w wp := (hw1.trans hw13 (fun _ _ x => x)).trans hset (fun b hb e => by omega)
    rw [← hwp]
    have hfit : Tm.Fits (.mk 5 [] c2 []) 0 vars metas := Tm.fits_leaf (.inr (.inl rfl)) (fun e => by omega) (fun _ => ⟨rfl, by omega, by have := HV.out; omega⟩) (fun e => by omega) (by omega) (by omega) (by simp)
    obtain ⟨w9, hw9⟩ : ∃ w9, w9 = (((wp.setCell ⟨w.heap.size, 0, none⟩ (.int .i64 5)).setCell ⟨w.heap.size, 1, none⟩ (.string (B []))).setCell ⟨w.heap.size, 2, none⟩ (.int .i64 c2)).setCell ⟨w.heap.size, 3, none⟩ (.slice none 0 0) := ⟨_, rfl⟩
    rw [← hw9] at hset9
    rw [← hw9]
    clear hw9 hwp y0 y1 y2 y3 z0 z1 z2 z3
    obtain ⟨x0, x1, x2, x3⟩ := hset9.1.cells
    refine bodyPost_ret (v := .agg #[.int .i64 5, .string (B []), .int .i64 c2, .slice none 0 0]) ?_ rfl ?_
    · simp [results, Tryd.f45, go_sem, x0, x1, x2, x3]
    · exact made_fin (base := w.heap.size + 1) (ts := []) rfl rfl (Nat.le_refl _) (by simp only [List.map_nil, RepE]) (by omega) hset9 hfit hTp hNp hwpU hTl
  case inr.inr.inr.inr.inr =>
    go_wp2_with fail
    refine (NX _ (by omega) (by omega) _ (hT1.on ((Upto.refl none' w1).alloc _))).mono ?_
    rintro e w3 ⟨⟨c2, hc2, rfl⟩, hT3, hU3⟩
    have hoT : w1.heap.size ≠ T := by have := hT1.lt; omega
    have hout3 : Box4 w3 w1.heap.size (.int .i64 6) (.string (B [])) (.int .i64 0) (.slice none 0 0) 25 := by
      unfold Box4
      rw [hU3.block _ (by simp) (fun e => by simp only [isT] at e; omega)]
      exact heap_alloc_new w1 _
    have hw13 : Upto (isT T) w1 w3 := ((Upto.refl (isT T) w1).alloc _).trans hU3 (fun _ _ x => x)
    clear hU3
    obtain ⟨y0, y1, y2, y3⟩ := hout3.cells
    obtain ⟨g0, g1, g2, g3⟩ := hout3.frozens
    have q1 : w.heap.size < w1.heap.size := hres.lt
    have hres3 := hres.keep hw13 hresne
    obtain ⟨z0, z1, z2, z3⟩ := hres3.cells
    obtain ⟨e0, e1, e2, e3⟩ := hres3.frozens
    go_wp2_with fail
    obtain ⟨wp, hwp⟩ : ∃ wp, wp = w3.setCell ⟨w1.heap.size, 2, none⟩ (.int .i64 c2) := ⟨_, rfl⟩
    have hset : Upto (fun b => b = w1.heap.size) w3 wp := by rw [hwp]; exact Upto.set (Upto.refl _ _) 2 _
    have hoT1 : T < w1.heap.size := by omega
    have hresp := hres3.keep hset (by omega)
    have hset9 := hresp.set (d0 := .int .i64 6) (d1 := .string (B [])) (d2 := .int .i64 c2) (d3 := .slice none 0 0)
    have hTp := hT3.far hset (fun b e => by omega)
    have hNp : NamesOk T wp := (hNl.keep hw13).far hset (fun b e => by omega)
    have hwpU : Upto (isT T) w wp := (hw1.trans hw13 (fun _ _ x => x)).trans hset (fun b hb e => by omega)
    rw [← hwp]
    have hfit : Tm.Fits (.mk 6 [] c2 []) 0 vars metas := Tm.fits_leaf (.inr (.inr rfl)) (fun e => by omega) (fun e => by omega) (fun _ => ⟨rfl, by omega, by have := HM.out; omega⟩) (by omega) (by omega) (by simp)
    obtain ⟨w9, hw9⟩ : ∃ w9, w9 = (((wp.setCell ⟨w.heap.size, 0, none⟩ (.int .i64 6)).setCell ⟨w.heap.size, 1, none⟩ (.string (B []))).setCell ⟨w.heap.size, 2, none⟩ (.int .i64 c2)).setCell ⟨w.heap.size, 3, none⟩ (.slice none 0 0) := ⟨_, rfl⟩
    rw [← hw9] at hset9
    rw [← hw9]
    clear hw9 hwp y0 y1 y2 y3 z0 z1 z2 z3
    obtain ⟨x0, x1, x2, x3⟩ := hset9.1.cells
    refine bodyPost_ret (v := .agg #[.int .i64 6, .string (B []), .int .i64 c2, .slice none 0 0]) ?_ rfl ?_
    · simp [results, Tryd.f45, go_sem, x0, x1, x2, x3]
    · exact made_fin (base := w.heap.size + 1) (ts := []) rfl rfl (Nat.le_refl _) (by simp only [List.map_nil, RepE]) (by omega) hset9 hfit hTp hNp hwpU hTl
end Go.Proofs.YtdcbgkmhlpkjiaaDoor
