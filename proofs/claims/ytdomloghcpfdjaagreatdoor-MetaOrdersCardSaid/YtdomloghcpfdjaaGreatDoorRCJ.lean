/- Layer 5's made. -/
import Derived.Test.YtdomloghcpfdjaaGreatDoorRCF
import Derived.Test.YtdomloghcpfdjaaGreatDoorRCH
import Derived.Test.YtdomloghcpfdjaaGreatDoorRCI
import Derived.Deep.AppendLies
import Derived.Deep.CutRange
import Derived.Deep.RegionLaw
/- A tape that a law makes. -/
namespace Go.Proofs.YtdomloghcpfdjaaGreatDoor
open Go.RowKit Go.LF
/-- A tape that a law makes. -/
theorem tape_new {w : World} {a : Option Addr} {len cap : Nat} {l : List Int} {U : TypeId} (hl : l.length = len) (hlen : len ≤ 17592186044416) (hE : RepE none' w 1 (l.map (Dat.int .i64)) a 0) :
    TapeOk (w.alloc (.cells #[.slice a len cap, .int .i64 0] U)) w.heap.size := by
  subst hl
  refine ⟨l, a, cap, 0, ?_, ?_, ?_, Nat.zero_le _, by omega, ?_⟩
  · rw [World.cell?_alloc_new]; rfl
  · rw [World.cell?_alloc_new]; rfl
  · simp
  · have hf : RepE (fun b => w.heap.size ≤ b) w 1 (l.map (Dat.int .i64)) a 0 := RepE.weaken (fun _ _ h => .inr h) _ _ _ _ (RepE.fresh' 1 _ _ _ hE)
    exact hf.on ((Upto.refl none' w).alloc _)
end Go.Proofs.YtdomloghcpfdjaaGreatDoor
/- What the types and kinds are that a law makes. -/
namespace Go.LF.Tm
/-- A type that a law makes. -/
structure FitsT (t : Tm) (deep vars metas : Nat) : Prop where
  typ : t.isTyp = true
  scope : t.scope ≤ vars
  metas : ∀ b, ∀ x ∈ t.nodes b, (x.k == 6) = true → x.i < metas
  depth : t.depth ≤ deep + 1
  size : t.size + 1 ≤ 2 ^ (deep + 1)
  wt : t.wt + 5 ≤ 5 * 2 ^ (deep + 1)
  nml : ∀ b, ∀ x ∈ t.nodes b, x.n.length ≤ 4
theorem fitsT_atom {nm : List UInt8} {ts : List Tm} {d v m : Nat} (h : Fits (mk 4 nm 0 ts) d v m) : FitsT (mk 4 nm 0 ts) d v m := by
  have ho := h.obj
  refine ⟨?_, h.scope, h.metas, h.depth, h.size, h.wt, h.nml⟩
  rw [isObj] at ho
  simp at ho
  rw [isTyp, isAtom]
  simp [ho]
theorem fitsT_pi {a b : Tm} {d v m : Nat} (ha : FitsT a d v m) (hb : FitsT b d (v + 1) m) (nm : List UInt8) (hn : (nm == [] || nm == [95] || isName nm) = true) (hl : nm.length ≤ 4) : FitsT (mk 2 nm 0 [a, b]) (d + 1) v m := by
  have h2 : 2 ^ (d + 1 + 1) = 2 * 2 ^ (d + 1) := by rw [Nat.pow_succ]; omega
  have hp : 1 ≤ 2 ^ (d + 1) := Nat.one_le_two_pow
  refine ⟨?_, ?_, ?_, ?_, ?_, ?_, ?_⟩
  · rw [isTyp]
    simp [bound, allTyp, ha.typ, hb.typ]
    right
    simpa [or_assoc] using hn
  · have := ha.scope
    have := hb.scope
    rw [Tm.scope, scopes, scopes, scopes]
    simp [under]
    omega
  · intro b' x hx h6
    rw [nodes_mk] at hx
    rcases List.mem_cons.1 hx with rfl | hx
    · simp at h6
    · simp only [nodesA, List.append_nil, List.mem_append] at hx
      rcases hx with hx | hx
      · exact ha.metas _ x hx h6
      · exact hb.metas _ x hx h6
  · have := ha.depth; have := hb.depth; simp [depths]; omega
  · have := ha.size; have := hb.size; simp [sizes]; omega
  · have := ha.wt; have := hb.wt; simp [wts]; omega
  · intro b' x hx
    rw [nodes_mk] at hx
    rcases List.mem_cons.1 hx with rfl | hx
    · exact hl
    · simp only [nodesA, List.append_nil, List.mem_append] at hx
      rcases hx with hx | hx
      · exact ha.nml _ x hx
      · exact hb.nml _ x hx
/-- A kind, a type or an object that a law makes. -/
structure FitsA (t : Tm) (sz vars metas : Nat) : Prop where
  any : t.isObj = true ∨ t.isTyp = true ∨ t.isKnd = true
  scope : t.scope ≤ vars
  metas : ∀ b, ∀ x ∈ t.nodes b, (x.k == 6) = true → x.i < metas
  depth : t.depth ≤ 20
  size : t.size ≤ sz
  wt : t.wt ≤ 5 * sz
theorem Fits.any {t : Tm} {d v m : Nat} (h : Fits t d v m) (hd : d ≤ 12) : FitsA t (2 ^ (d + 1) + 2) v m :=
  ⟨.inl h.obj, h.scope, h.metas, by have := h.depth; omega, by have := h.size; omega, by have := h.wt; omega⟩
theorem FitsT.any {t : Tm} {d v m : Nat} (h : FitsT t d v m) (hd : d ≤ 12) : FitsA t (2 ^ (d + 1) + 2) v m :=
  ⟨.inr (.inl h.typ), h.scope, h.metas, by have := h.depth; omega, by have := h.size; omega, by have := h.wt; omega⟩
/-- A kind that a law makes: so many Pis. -/
structure FitsK (t : Tm) (n d : Nat) : Prop where
  knd : t.isKnd = true
  scope : t.scope ≤ 0
  metas : ∀ b, ∀ x ∈ t.nodes b, (x.k == 6) = false
  depth : t.depth ≤ d + 1 + n
  size : t.size ≤ 1 + n * 2 ^ (d + 1)
  wt : t.wt ≤ 1 + n * (5 * 2 ^ (d + 1))
theorem FitsK.any {t : Tm} {n d v m : Nat} (h : FitsK t n d) (hn : n ≤ 2) (hd : d ≤ 12) : FitsA t (2 ^ (d + 2) + 2) v m := by
  have h2 : 2 ^ (d + 2) = 2 * 2 ^ (d + 1) := by rw [Nat.pow_succ]; omega
  have h1 := h.size
  have h3 := h.wt
  have h4 : n * 2 ^ (d + 1) ≤ 2 * 2 ^ (d + 1) := Nat.mul_le_mul_right _ hn
  have h5 : n * (5 * 2 ^ (d + 1)) ≤ 2 * (5 * 2 ^ (d + 1)) := Nat.mul_le_mul_right _ hn
  refine ⟨.inr (.inr h.knd), by have := h.scope; omega, fun b x hx h6 => ?_, by have := h.depth; omega, by omega, by omega⟩
  rw [h.metas b x hx] at h6
  cases h6
end Go.LF.Tm
/- The types that a law makes. -/
namespace Go.Proofs.YtdomloghcpfdjaaGreatDoor
open Go.RowKit Go.LF
/-- What a call that makes a type hands back: all of it in new blocks. -/
def MakesT (base : Nat) (deep vars metas : Nat) (T : Nat) (w : World) (e : Ending) (w' : World) : Prop :=
  ∃ (k i : Int) (n : List UInt8) (a : Option Addr) (len cap : Nat) (t : Tm), e = .returned (.agg #[.int .i64 k, .string (B n), .int .i64 i, .slice a len cap]) ∧
    Rep (fun b => b < base) w' t.dat [.int .i64 k, .string (B n), .int .i64 i, .slice a len cap] ∧ Tm.FitsT t deep vars metas ∧ TapeOk w' T ∧ NamesOk T w' ∧ Upto (isT T) w w'
theorem madeT_fin {W w9 : World} {w : World} {T deep vars metas base len : Nat} {kf ix : Int} {nm : List UInt8} {a : Option Addr} {cap : Nat} {ts : List Tm} {U : TypeId} {x0 x1 x2 x3 : Value} {hb : Nat} (hw : w.heap.size = hb) (hlen : len = ts.length) (hcap : len ≤ cap) (hE : RepE (fun b => b < base) W 4 (ts.map Tm.dat) a 0) (hbase : w.heap.size < base)
    (h9 : Box4 w9 hb x0 x1 x2 x3 U ∧ Upto (fun b => b = hb) W w9) (hfit : Tm.FitsT (.mk kf nm ix ts) deep vars metas) (hT : TapeOk W T) (hN : NamesOk T W) (hU : Upto (isT T) w W) (hTl : T < w.heap.size) :
    MakesT w.heap.size deep vars metas T w (.returned (.agg #[.int .i64 kf, .string (B nm), .int .i64 ix, .slice a len cap])) w9 := by
  subst hw
  refine ⟨kf, ix, nm, a, len, cap, .mk kf nm ix ts, rfl, ?_, hfit, hT.far h9.2 (fun b e => by omega), hN.far h9.2 (fun b e => by omega), hU.trans h9.2 (fun b hb e => by omega)⟩
  exact rep_tm.2 ⟨a, cap, by rw [hlen], by omega, RepE.weaken (fun b _ e => by omega) _ _ _ _ (RepE.keep h9.2 (fun b e => by omega) _ _ _ _ hE)⟩
/-- The names of families, from which one is chosen. -/
theorem famNames_at {W : World} {b : Nat} {T' : TypeId} {fr : Nat × Nat} (h : W.heap[b]? = some (.cells #[.string (B [110, 97, 116]), .string (B [118, 101, 99]), .string (B [116, 109])] T' fr)) (c : Nat) (hc : (c : Int) < 3) :
    ∃ nm, W.cell? ⟨b, c, none⟩ = some (.string (B nm)) ∧ isName nm = true ∧ nm.length ≤ 4 := by
  have hcell : ∀ i, W.cell? ⟨b, i, none⟩ = (#[.string (B [110, 97, 116]), .string (B [118, 101, 99]), .string (B [116, 109])] : Array Value)[i]? := fun i => by simp [World.cell?, h]
  match c, hc with
  | 0, _ => exact ⟨[110, 97, 116], hcell 0, by decide, by decide⟩
  | 1, _ => exact ⟨[118, 101, 99], hcell 1, by decide, by decide⟩
  | 2, _ => exact ⟨[116, 109], hcell 2, by decide, by decide⟩
  | n + 3, h => omega
/-- What the drawn region of a Pi needs of a world. -/
abbrev PiS (nb no ncap ab : Nat) (a0 a1 a2 a3 : Value) (w' : World) : Prop :=
  w'.cell? ⟨0, 0, none⟩ = some (.slice (some ⟨nb, no, none⟩) 6 ncap) ∧ (∀ j, j < 6 → w'.cell? ⟨nb, no + j, none⟩ = some (.string (B (nameAt j)))) ∧
  (w'.cell? ⟨ab, 0, none⟩ = some a0 ∧ w'.cell? ⟨ab, 1, none⟩ = some a1 ∧ w'.cell? ⟨ab, 2, none⟩ = some a2 ∧ w'.cell? ⟨ab, 3, none⟩ = some a3)
theorem PiS.keep {nb no ncap ab : Nat} {a0 a1 a2 a3 : Value} {w w' : World} {S : Nat → Prop} (h : PiS nb no ncap ab a0 a1 a2 a3 w) (hU : Upto S w w') (h0 : ¬ S 0) (hn : ¬ S nb) (ha : ¬ S ab) : PiS nb no ncap ab a0 a1 a2 a3 w' :=
  ⟨hU.cell h.1 h0, fun j hj => hU.cell (h.2.1 j hj) hn, hU.cell h.2.2.1 ha, hU.cell h.2.2.2.1 ha, hU.cell h.2.2.2.2.1 ha, hU.cell h.2.2.2.2.2 ha⟩
theorem PiS.new {nb no ncap ab : Nat} {a0 a1 a2 a3 : Value} {w : World} (h : PiS nb no ncap ab a0 a1 a2 a3 w) (o : Obj) : PiS nb no ncap ab a0 a1 a2 a3 (w.alloc o) :=
  h.keep ((Upto.refl none' w).alloc o) (fun x => x) (fun x => x) (fun x => x)
theorem PiS.set {nb no ncap ab r : Nat} {a0 a1 a2 a3 : Value} {w : World} (h : PiS nb no ncap ab a0 a1 a2 a3 w) (h0 : 0 ≠ r) (hn : nb ≠ r) (ha : ab ≠ r) (j : Nat) (v : Value) : PiS nb no ncap ab a0 a1 a2 a3 (w.setCell ⟨r, j, none⟩ v) :=
  h.keep (Upto.set (Upto.refl _ w) j v) h0 hn ha
/-- A node with two arguments, in a block of its own. -/
theorem rep_two {O : Nat → Prop} {W : World} {t u : Tm} {c0 c1 c2 c3 d0 d1 d2 d3 : Value} {b : Nat} {T : TypeId} (h : Rep O W t.dat [c0, c1, c2, c3]) (h' : Rep O W u.dat [d0, d1, d2, d3]) (hb : ¬ O b) (hB : W.heap[b]? = some (.cells #[c0, c1, c2, c3, d0, d1, d2, d3] T (0, 0))) :
    RepE O W 4 ([t, u].map Tm.dat) (some ⟨b, 0, none⟩) 0 := by
  have hlt := (Array.getElem?_eq_some_iff.1 hB).1
  have hcell : ∀ i, W.cell? ⟨b, i, none⟩ = (#[c0, c1, c2, c3, d0, d1, d2, d3] : Array Value)[i]? := fun i => by simp [World.cell?, hB]
  refine repE_of _ _ _ (fun i hi => ?_)
  match i, hi with
  | 0, _ =>
    refine ⟨b, 0, _, rfl, hlt, hb, rfl, fun m v hv => ?_, h⟩
    rw [hcell]
    match m, hv with
    | 0, hv => cases hv; rfl
    | 1, hv => cases hv; rfl
    | 2, hv => cases hv; rfl
    | 3, hv => cases hv; rfl
  | 1, _ =>
    refine ⟨b, 0, _, rfl, hlt, hb, rfl, fun m v hv => ?_, h'⟩
    rw [hcell]
    match m, hv with
    | 0, hv => cases hv; rfl
    | 1, hv => cases hv; rfl
    | 2, hv => cases hv; rfl
    | 3, hv => cases hv; rfl
set_option maxRecDepth 100000 in
set_option maxHeartbeats 16000000 in
theorem type_any (deep : Nat) : deep ≤ 12 → ∀ (vars metas : Nat), vars + deep ≤ 1000 → metas ≤ 1000 → ∀ (T : Nat) (w : World), TapeOk w T → NamesOk T w →
    Calls Tryz.prog 32 #[.pointer (some ⟨T, 0, none⟩), .int .i64 deep, .int .i64 vars, .int .i64 metas] w (MakesT w.heap.size deep vars metas T w) := by
  induction deep with
  | zero =>
    intro hd vars metas hv hm T w hT hN
    have hres : Box4 (w.alloc (.cells #[.int .i64 0, .string (B []), .int .i64 0, .slice none 0 0] 29)) w.heap.size (.int .i64 0) (.string (B [])) (.int .i64 0) (.slice none 0 0) 29 := Box4.at_new rfl
    have hTq := hT.on ((Upto.refl none' w).alloc (.cells #[.int .i64 0, .string (B []), .int .i64 0, .slice none 0 0] 29))
    have hNq := hN.on ((Upto.refl none' w).alloc (.cells #[.int .i64 0, .string (B []), .int .i64 0, .slice none 0 0] 29))
    have hUq := (Upto.refl (isT T) w).alloc (.cells #[.int .i64 0, .string (B []), .int .i64 0, .slice none 0 0] 29)
    obtain ⟨D, hD⟩ : ∃ D : Int, D = ((0 : Nat) : Int) := ⟨_, rfl⟩
    rw [← hD]
    obtain ⟨V, hV⟩ : ∃ V : Int, V = (vars : Int) := ⟨_, rfl⟩
    obtain ⟨M, hM⟩ : ∃ M : Int, M = (metas : Int) := ⟨_, rfl⟩
    rw [← hV, ← hM]
    have D0 : ¬ 0 < D := by omega
    have D1 : 0 ≤ D := by omega
    have HD := hid hD
    have HV := hid hV
    have HM := hid hM
    clear hD hV hM
    go_enter Tryz.func32, Tryz.ntmps32
    go_wp2_with fail
    have NX := fun (n : Int) h0 h1 w hT => next_any n h0 h1 T w hT
    have hTl := hT.lt
    have hresne : w.heap.size ≠ T := by omega
    clear hT hN
    obtain ⟨wq, hwq⟩ : ∃ wq, wq = w.alloc (.cells #[.int .i64 0, .string (B []), .int .i64 0, .slice none 0 0] 29) := ⟨_, rfl⟩
    have HQS := hid (show wq.heap.size = w.heap.size + 1 by rw [hwq]; simp)
    rw [← hwq] at hres hTq hNq hUq
    rw [← hwq]
    clear hwq
    have HI : ∀ (x : Int) (W : World), x = D - 1 → 0 < D → TapeOk W T → NamesOk T W → Calls Tryz.prog 31 #[.pointer (some ⟨T, 0, none⟩), .int .i64 x, .int .i64 V, .int .i64 M] W (Makes W.heap.size (0 - 1) vars metas T W) := by
      intro x W hx h0 h2 h3
      have := HD.out
      rw [hx, HV.out, HM.out, show D - 1 = ((0 - 1 : Nat) : Int) by omega]
      exact term_any (0 - 1) (by omega) vars metas (by omega) hm T W h2 h3
    have HDw := hid (show 0 < D → IntKind.i64.wrap (D - 1) = D - 1 by intro _; exact Go.IntWalk.i64_in _ (by omega))
    have hTql := hTq.lt
    refine (NX _ (by omega) (by omega) _ (hTq.on ((Upto.refl none' wq).alloc _))).mono ?_
    rintro e w3 ⟨⟨c2, hc2, rfl⟩, hT3, hU3⟩
    have hk3 : w3.heap[wq.heap.size]? = some (.cells #[.string (B [110, 97, 116]), .string (B [118, 101, 99]), .string (B [116, 109])] 9 (0, 0)) := by
      rw [hU3.block _ (by simp) (fun e => by simp only [isT] at e; omega)]
      exact heap_alloc_new wq _
    obtain ⟨nm, hnm, hnn, hnl⟩ := famNames_at hk3 c2 hc2
    rw [HQS.out] at hnm
    have d0 : (0 : Int) ≤ (c2 : Int) := by omega
    have hU3' : Upto (isT T) wq w3 := ((Upto.refl (isT T) wq).alloc _).trans hU3 (fun _ _ x => x)
    have hres3 := hres.keep hU3' hresne
    have hN3 := hNq.keep hU3'
    have hw3 := hUq.trans hU3' (fun _ _ x => x)
    have q3 : w.heap.size < w3.heap.size := hres3.lt
    clear hU3 hU3' hk3 hTq hNq hres hUq
    go_wp2_with fail
    obtain ⟨w4, hw4⟩ : ∃ w4, w4 = w3.alloc (.cells #[.int .i64 4, .string (B nm), .int .i64 0, .slice none 0 0] 29) := ⟨_, rfl⟩
    have hU4 : Upto none' w3 w4 := by rw [hw4]; exact (Upto.refl none' w3).alloc _
    have hout : Box4 w4 w3.heap.size (.int .i64 4) (.string (B nm)) (.int .i64 0) (.slice none 0 0) 29 := by rw [hw4]; exact Box4.at_new rfl
    rw [← hw4]
    clear hw4
    have hoT : w3.heap.size ≠ T := by have := hT3.lt; omega
    have hT3l := hT3.lt
    refine (NX _ (by omega) (by omega) _ (hT3.on hU4)).mono ?_
    rintro e w5 ⟨⟨nn, hnn2, rfl⟩, hT5, hU5⟩
    have hN5 := (hN3.on hU4).keep hU5
    have hres5 := (hres3.kept hU4).keep hU5 hresne
    have hout5 := hout.keep hU5 hoT
    have hw5 := (hw3.trans hU4 (fun _ _ x => x.elim)).trans hU5 (fun _ _ x => x)
    have q5 : w3.heap.size < w5.heap.size := hout5.lt
    clear hU5 hU4 hout hres3 hN3 hT3 hw3 hnm
    go_wp2_with fail
    obtain ⟨i0, hi, hi0, hi1, hi2⟩ := info_parts info_term
    go_loopw [11] (fun v11 wr => ∃ (m : Nat) (v : Value) (ts : List Tm) (css : List (List Value)), v11 = .int .i64 m ∧ m + ts.length ≤ 2 ∧ (ts.length = 0 ∨ 0 < D) ∧ Terms w5.heap.size wr v ts css ∧ (∀ t ∈ ts, Tm.Fits t (0 - 1) vars metas) ∧
        Box4 wr w3.heap.size (.int .i64 4) (.string (B nm)) (.int .i64 0) v 29 ∧ Box4 wr w.heap.size (.int .i64 0) (.string (B [])) (.int .i64 0) (.slice none 0 0) 29 ∧ TapeOk wr T ∧ NamesOk T wr ∧ Upto (isT T) w wr ∧ w5.heap.size ≤ wr.heap.size)
      (fun v11 _ => (intOf v11).toNat)
    case atStart => exact ⟨nn, _, [], [], rfl, by simp; omega, .inl rfl, Terms.nil _ _, by simp, hout5, hres5, hT5, hN5, hw5, Nat.le_refl _⟩
    case round =>
      obtain ⟨m, v, ts, css, rfl, hmt, htD, hts, hfs, hout, hres, hTr, hNr, hwr, hbr⟩ := hrel
      obtain ⟨b0, b1, b2, b3⟩ := hout.cells
      obtain ⟨f0, f1, f2, f3⟩ := hout.frozens
      have hTrl := hTr.lt
      by_cases hm0 : 0 < m ∧ 0 < D
      · obtain ⟨hm0, hD0⟩ := hm0
        have hm1 : (0 : Int) < (m : Int) := by omega
        have hDw := HDw.out hD0
        go_wp2_with fail
        go_region_law (first
          | ((rw [if_pos (by rfl)]); go_simp; (go_at_call 31); refine (HI _ _ rfl hD0 (hTr.on (Upto.refl none' wr).drew) (hNr.on (Upto.refl none' wr).drew)).mono ?_; rintro e w6 ⟨k1, i1, n1, a1, len1, cap1, t, rfl, hR6, hF6, hT6, hN6, hU6⟩; have hU6' : Upto (isT T) wr w6 := Upto.trans ((Upto.refl (isT T) wr).drew) hU6 (fun _ _ x => x); have hout6 := hout.keep hU6' hoT; have q6 := hout6.lt; have c6 := hout6.cells.2.2.2; have z6 := hout6.frozen 3; have hs6 := hU6'.size; have hts6 := hts.keep hU6' (fun b e => (by simp only [isT] at e; omega)))
          | (refine step_append_lies _ (by rfl) _ _ 27 (by rfl) w5.heap.size 29 i0 (.agg #[.int .i64 0, .string (B []), .int .i64 0, .slice none 0 0]) 4 56 (by kernel_rfl) hi hi0 hi1 hi2 rfl (by decide) v ts.length css.flatten (by rfl) ((hts6.on ((Upto.refl none' w6).alloc _)).2.2.1) ⟨w6.heap.size, 0, none⟩ 1 1 [.int .i64 k1, .string (B n1), .int .i64 i1, .slice a1 len1 cap1] (by rfl) rfl (World.news_of_block (heap_alloc_new w6 _)) (by simp [Value.oneCell']) (by omega) (by simp only [maxLen]; omega) (by omega) (by simp; omega) _ rfl ?_; intro g cap' w7 hown hgrow hat hlt; have hout7 := (hout6.kept ((Upto.refl none' w6).alloc _)).row hgrow (hts6.on ((Upto.refl none' w6).alloc _)) (by omega); have c7 := hout7.cells.2.2.2; have z7 := hout7.frozen 3))
        all_goals
          have hts6' := hts6.on ((Upto.refl none' w6).alloc (.cells #[.int .i64 k1, .string (B n1), .int .i64 i1, .slice a1 len1 cap1] 29))
          have hR6' : Rep (fun b => b < w5.heap.size ∨ v.ownBlock = some b) (w6.alloc (.cells #[.int .i64 k1, .string (B n1), .int .i64 i1, .slice a1 len1 cap1] 29)) t.dat [.int .i64 k1, .string (B n1), .int .i64 i1, .slice a1 len1 cap1] := by
            refine (Rep.weaken (fun b _ e => ?_) _ _ hR6).new _
            rcases e with e | e
            · exact Nat.lt_of_lt_of_le e hbr
            · exact (hts.2.2.1.lt b e).2
          have hT7 := hts6'.appended rfl hR6' hown hgrow hat (Nat.le_refl _)
          have hset7 : Upto (fun b => b = w3.heap.size) w7 (w7.setCell ⟨w3.heap.size, 3, none⟩ (.slice (some ⟨g, 0, none⟩) (ts.length + 1) cap')) := Upto.set (Upto.refl _ _) 3 _
          have hrow7 := Upto.ofRow (RowUp.grown hts6'.2.2.1 hgrow)
          have hal6 : Upto none' w6 (w6.alloc (.cells #[.int .i64 k1, .string (B n1), .int .i64 i1, .slice a1 len1 cap1] 29)) := (Upto.refl none' w6).alloc _
          have hT7' := ((hT6.on hal6).far hrow7 (fun b e => by omega)).far hset7 (fun b e => by omega)
          have hN7' := ((hN6.on hal6).far hrow7 (fun b e => by omega)).far hset7 (fun b e => by omega)
          have hres7 : Box4 (w7.setCell ⟨w3.heap.size, 3, none⟩ (.slice (some ⟨g, 0, none⟩) (ts.length + 1) cap')) w.heap.size _ _ _ _ _ := (((hres.keep hU6' hresne).kept hal6).keep hrow7 (by omega)).keep hset7 (by omega)
          have hw7U : Upto (isT T) w (w7.setCell ⟨w3.heap.size, 3, none⟩ (.slice (some ⟨g, 0, none⟩) (ts.length + 1) cap')) := ((((hwr.trans hU6' (fun _ _ x => x)).trans hal6 (fun _ _ x => x.elim)).trans hrow7 (fun b hb e => by omega))).trans hset7 (fun b hb e => by omega)
          have hsz7 : w5.heap.size ≤ (w7.setCell ⟨w3.heap.size, 3, none⟩ (.slice (some ⟨g, 0, none⟩) (ts.length + 1) cap')).heap.size := by have := hset7.size; have := hrow7.size; have := hal6.size; omega
          have hfs7 : ∀ t' ∈ ts ++ [t], Tm.Fits t' (0 - 1) vars metas := by
            intro t' ht'
            rcases List.mem_append.1 ht' with h | h
            · exact hfs t' h
            · obtain rfl : t' = t := by simpa using h
              exact hF6
          have hT7s := hT7.keep hset7 (fun b e => by omega)
          go_wp2_with fail
          go_roundw
          case rel => exact ⟨m - 1, _, ts ++ [t], _, int_eq (by omega), by simp; omega, .inr hD0, hT7s, hfs7, hout7.set3 _, hres7, hT7', hN7', hw7U, hsz7⟩
          case measure => simp [intOf]; omega
      · obtain ⟨r0, r1, r2, r3⟩ := hres.cells
        obtain ⟨rf0, rf1, rf2, rf3⟩ := hres.frozens
        have qr := hres.lt
        obtain ⟨a, cap, rfl, hcap, hE⟩ := hts.rep
        have hfit' : Tm.FitsT (.mk 4 nm 0 ts) 0 vars metas := by
          refine Tm.fitsT_atom ?_
          rcases htD with h | h
          · obtain rfl : ts = [] := List.eq_nil_of_length_eq_zero h
            exact (Tm.fits_leaf (.inl rfl) (fun _ => ⟨hnn, rfl⟩) (fun e => by omega) (fun e => by omega) (by omega) (by omega) hnl).mono (Nat.zero_le _)
          · have hdd : 0 = (0 - 1) + 1 := by have := HD.out; omega
            rw [hdd]
            exact Tm.fits_node (.inl rfl) (by omega) hfs (fun _ => ⟨hnn, rfl⟩) (fun e => by omega) (fun e => by omega) (by omega) (by omega) hnl
        obtain ⟨len, hlen⟩ : ∃ len, len = ts.length := ⟨_, rfl⟩
        rw [← hlen] at hout hcap b3
        have HL := hid hlen
        clear hlen hfs hts htD
        by_cases hm1 : (0 : Int) < (m : Int)
        case' pos =>
          have hD1 : ¬ 0 < D := fun h => hm0 ⟨by omega, h⟩
          (try exact absurd D0 hD1)
        all_goals
          clear hm0
          go_wp2_with fail
          obtain ⟨w9, hw9⟩ : ∃ w9, w9 = (((wr.setCell ⟨w.heap.size, 0, none⟩ (.int .i64 4)).setCell ⟨w.heap.size, 1, none⟩ (.string (B nm))).setCell ⟨w.heap.size, 2, none⟩ (.int .i64 0)).setCell ⟨w.heap.size, 3, none⟩ (.slice a len cap) := ⟨_, rfl⟩
          have hset9 := hres.set (d0 := .int .i64 4) (d1 := .string (B nm)) (d2 := .int .i64 0) (d3 := .slice a len cap)
          rw [← hw9] at hset9
          rw [← hw9]
          clear hw9
          obtain ⟨e0, e1, e2, e3⟩ := hset9.1.cells
          refine bodyPost_ret (v := .agg #[.int .i64 4, .string (B nm), .int .i64 0, .slice a len cap]) ?_ rfl ?_
          · simp [results, Tryz.f32, go_sem, e0, e1, e2, e3]
          · exact madeT_fin rfl HL.out hcap hE (by omega) hset9 hfit' hTr hNr hwr hTl
  | succ d ih =>
    intro hd vars metas hv hm T w hT hN
    obtain ⟨D, hD⟩ : ∃ D : Int, D = ((d + 1 : Nat) : Int) := ⟨_, rfl⟩
    obtain ⟨V, hV⟩ : ∃ V : Int, V = (vars : Int) := ⟨_, rfl⟩
    obtain ⟨M, hM⟩ : ∃ M : Int, M = (metas : Int) := ⟨_, rfl⟩
    rw [← hD, ← hV, ← hM]
    have NX := fun (n : Int) h0 h1 w hT => next_any n h0 h1 T w hT
    have D0 : 0 < D := by omega
    have D1 : D ≤ 13 := by omega
    have V0 : 0 ≤ V := by omega
    have V1 : V ≤ 1000 := by omega
    have M0 : 0 ≤ M := by omega
    have M1 : M ≤ 1000 := by omega
    have HD := hid hD
    have HV := hid hV
    have HM := hid hM
    clear hD hV hM
    have hTl := hT.lt
    go_enter Tryz.func32, Tryz.ntmps32
    go_wp2_with fail
    refine (NX _ (by omega) (by omega) _ (hT.on ((Upto.refl none' w).alloc _))).mono ?_
    rintro e w1 ⟨⟨c, hc, rfl⟩, hT1, hU1⟩
    have hw1 : Upto (isT T) w w1 := (((Upto.refl (isT T) w).alloc _)).trans hU1 (fun _ _ x => x)
    have hres : Box4 w1 w.heap.size (.int .i64 0) (.string (B [])) (.int .i64 0) (.slice none 0 0) 29 := by
      unfold Box4
      rw [hU1.block _ (by simp) (fun e => by simp only [isT] at e; omega)]
      exact heap_alloc_new w _
    have hNl : NamesOk T w1 := hN.keep hw1
    have hresne : w.heap.size ≠ T := by omega
    clear hN hU1 hT
    obtain rfl | rfl : c = 0 ∨ c = 1 := by omega
    · obtain ⟨nb, no, ncap, hnc6, hT0, hTnb, hnc, hncs⟩ := hNl.open
      have IH : ∀ (x y : Int) (vr : Nat) (W : World), x = d → y = vr → vr + d ≤ 1000 → TapeOk W T → NamesOk T W → Calls Tryz.prog 32 #[.pointer (some ⟨T, 0, none⟩), .int .i64 x, .int .i64 y, .int .i64 M] W (MakesT W.heap.size d vr metas T W) := by
        intro x y vr W hx hy h1 h2 h3
        rw [hx, hy, HM.out]
        exact ih (by omega) vr metas h1 hm T W h2 h3
      have hDd : D - 1 = (d : Int) := by have := HD.out; omega
      have hVv : V + 1 = ((vars + 1 : Nat) : Int) := by have := HV.out; omega
      have HDd := hid hDd
      have HVv := hid hVv
      clear hDd hVv
      go_wp2_with fail
      refine (IH _ _ vars _ HDd.out HV.out (by omega) hT1 hNl).mono ?_
      rintro e w2 ⟨ka, ia, na, aa, la, ca, ta, rfl, hRa, hFa, hT2, hN2, hU2⟩
      have hres2 := hres.keep hU2 hresne
      have q1 : w.heap.size < w1.heap.size := hres.lt
      have q2 : w.heap.size < w2.heap.size := hres2.lt
      go_wp2_with fail
      obtain ⟨w3, hw3⟩ : ∃ w3, w3 = w2.alloc (.cells #[.int .i64 ka, .string (B na), .int .i64 ia, .slice aa la ca] 29) := ⟨_, rfl⟩
      have hU3 : Upto none' w2 w3 := by rw [hw3]; exact (Upto.refl none' w2).alloc _
      have hav : Box4 w3 w2.heap.size (.int .i64 ka) (.string (B na)) (.int .i64 ia) (.slice aa la ca) 29 := by rw [hw3]; exact Box4.at_new rfl
      rw [← hw3]
      clear hw3
      have hn2 : NameCells nb no w2 := hncs.keep hU2 hTnb
      have hg2 := hU2.cell hnc (fun e => by simp only [isT] at e; omega)
      have P3 : PiS nb no ncap w2.heap.size (.int .i64 ka) (.string (B na)) (.int .i64 ia) (.slice aa la ca) w3.drew :=
        PiS.keep (S := none') ⟨hU3.cell hg2 (fun x => x), fun j hj => hU3.cell (hn2 j hj) (fun x => x), hav.cells⟩ (Upto.refl none' w3).drew (fun x => x) (fun x => x) (fun x => x)
      have hres3 := hres2.kept hU3
      obtain ⟨r0, r1, r2, r3⟩ := hres3.cells
      obtain ⟨f0, f1, f2, f3⟩ := hres3.frozens
      have hT3 := hT2.on hU3
      have hN3 := hN2.on hU3
      have hT2l := hT2.lt
      have hnbl : nb < w1.heap.size := World.block_lt_of_cell? _ _ (hncs 0 (by decide))
      have e0 : 0 ≠ w.heap.size := by omega
      have en : nb ≠ w.heap.size := by omega
      have ea : w2.heap.size ≠ w.heap.size := by omega
      have eT : ¬ isT T 0 := fun e => hT0 e.symm
      have eTn : ¬ isT T nb := fun e => by simp only [isT] at e; omega
      have eTa : ¬ isT T w2.heap.size := fun e => by simp only [isT] at e; omega
      have hD1w : IntKind.i64.wrap (D - 1) = D - 1 := Go.IntWalk.i64_in _ (by omega)
      have hV1w : IntKind.i64.wrap (V + 1) = V + 1 := Go.IntWalk.i64_in _ (by omega)
      have hRa2 := hRa
      clear hnc hncs hn2 hg2 hT1 hNl hres hres2 hav hT2 hN2
      go_region_held3 (fun w' => PiS nb no ncap w2.heap.size (.int .i64 ka) (.string (B na)) (.int .i64 ia) (.slice aa la ca) w')
        (first | (with_reducible assumption) | (with_reducible exact P3) | (with_reducible exact PiS.new P5 _) | (with_reducible exact PiS.new (PiS.set (PiS.set (PiS.set (PiS.set P5 e0 en ea 0 _) e0 en ea 1 _) e0 en ea 2 _) e0 en ea 3 _) _) | (with_reducible exact PiS.set (PiS.set (PiS.set (PiS.set (PiS.new P5 _) e0 en ea 0 _) e0 en ea 1 _) e0 en ea 2 _) e0 en ea 3 _))
        (first
          | ((go_at_call 30); refine (NX _ (by omega) (by omega) _ (hT3.on (Upto.refl none' w3).drew)).mono ?_; rintro e w4 ⟨⟨c2, hc2, rfl⟩, hT4, hU4⟩;
              have hU4' : Upto (isT T) w3 w4 := Upto.trans ((Upto.refl (isT T) w3).drew) hU4 (fun _ _ x => x); have hc2n : c2 < 6 := (by omega); have hc20 : (0 : Int) ≤ (c2 : Int) := (by omega); have P4 := P3.keep hU4 eT eTn eTa; have hN4 := hN3.keep hU4'; have hres4 := hres3.keep hU4' hresne)
          | ((go_at_call 32); refine (IH _ _ (vars + 1) _ HDd.out HVv.out (by omega) hT4 hN4).mono ?_; rintro e w5 ⟨kb, ib, nb2, ab, lb, cb, tb, rfl, hRb, hFb, hT5, hN5, hU5⟩; have P5 := P4.keep hU5 eT eTn eTa; have hres5 := hres4.keep hU5 hresne; have x5 := hres5.cells; have y5 := hres5.frozens; have q5 := hres5.lt))
      go_wp2_with fail
      obtain ⟨w6, hw6⟩ : ∃ w6, w6 = ((((w5.setCell ⟨w.heap.size, 0, none⟩ (.int .i64 2)).setCell ⟨w.heap.size, 1, none⟩ (.string (B (nameAt c2)))).setCell ⟨w.heap.size, 2, none⟩ (.int .i64 0)).setCell ⟨w.heap.size, 3, none⟩ (.slice (some ⟨w5.heap.size, 0, none⟩) 2 2)).alloc
          (.cells #[.int .i64 ka, .string (B na), .int .i64 ia, .slice aa la ca, .int .i64 kb, .string (B nb2), .int .i64 ib, .slice ab lb cb] 29) := ⟨_, rfl⟩
      have hset := hres5.set (d0 := .int .i64 2) (d1 := .string (B (nameAt c2))) (d2 := .int .i64 0) (d3 := .slice (some ⟨w5.heap.size, 0, none⟩) 2 2)
      have hU6 : Upto (fun x => x = w.heap.size) w5 w6 := by rw [hw6]; exact hset.2.alloc _
      have hres6 : Box4 w6 w.heap.size (.int .i64 2) (.string (B (nameAt c2))) (.int .i64 0) (.slice (some ⟨w5.heap.size, 0, none⟩) 2 2) 29 := by rw [hw6]; exact hset.1.kept ((Upto.refl none' _).alloc _)
      have hnew : w6.heap[w5.heap.size]? = some (.cells #[.int .i64 ka, .string (B na), .int .i64 ia, .slice aa la ca, .int .i64 kb, .string (B nb2), .int .i64 ib, .slice ab lb cb] 29 (0, 0)) := by
        rw [hw6]
        have := heap_alloc_new ((((w5.setCell ⟨w.heap.size, 0, none⟩ (.int .i64 2)).setCell ⟨w.heap.size, 1, none⟩ (.string (B (nameAt c2)))).setCell ⟨w.heap.size, 2, none⟩ (.int .i64 0)).setCell ⟨w.heap.size, 3, none⟩ (.slice (some ⟨w5.heap.size, 0, none⟩) 2 2))
          (.cells #[.int .i64 ka, .string (B na), .int .i64 ia, .slice aa la ca, .int .i64 kb, .string (B nb2), .int .i64 ib, .slice ab lb cb] 29)
        simpa using this
      rw [← hw6]
      clear hw6 hset
      obtain ⟨z0, z1, z2, z3⟩ := hres6.cells
      have hw2U := hw1.trans hU2 (fun _ _ x => x)
      have hw5U := ((hw2U.trans hU3 (fun _ _ x => x.elim)).trans hU4' (fun _ _ x => x)).trans hU5 (fun _ _ x => x)
      have hRa6 : Rep (fun b => b < w.heap.size + 1) w6 ta.dat [.int .i64 ka, .string (B na), .int .i64 ia, .slice aa la ca] := by
        refine Rep.weaken (fun b _ e => ?_) _ _ (Rep.keep hU6 (fun b e => by omega) _ _ (Rep.keep hU5 (fun b e => by simp only [isT] at e; omega) _ _ (Rep.keep hU4' (fun b e => by simp only [isT] at e; omega) _ _ (hRa2.on hU3))))
        omega
      have q4 := hres4.lt
      have hs45 := hU5.size
      have hs34 := hU4'.size
      have hs23 := hU3.size
      have hRb6 : Rep (fun b => b < w.heap.size + 1) w6 tb.dat [.int .i64 kb, .string (B nb2), .int .i64 ib, .slice ab lb cb] := by
        refine Rep.weaken (fun b _ e => ?_) _ _ (Rep.keep hU6 (fun b e => by omega) _ _ hRb)
        omega
      refine bodyPost_ret (v := .agg #[.int .i64 2, .string (B (nameAt c2)), .int .i64 0, .slice (some ⟨w5.heap.size, 0, none⟩) 2 2]) ?_ rfl ?_
      · simp [results, Tryz.f32, go_sem, z0, z1, z2, z3]
      · refine ⟨2, 0, nameAt c2, _, 2, 2, .mk 2 (nameAt c2) 0 [ta, tb], rfl, ?_, Tm.fitsT_pi hFa hFb _ (nameAt_ok c2).1 (nameAt_ok c2).2, hT5.far hU6 (fun b e => by omega), hN5.far hU6 (fun b e => by omega), hw5U.trans hU6 (fun b hb e => by omega)⟩
        exact rep_tm.2 ⟨_, 2, rfl, Nat.le_refl _, RepE.weaken (fun b _ e => by omega) _ _ _ _ (rep_two hRa6 hRb6 (by omega) hnew)⟩
    · obtain ⟨wq, hwq⟩ : ∃ wq, wq = w1 := ⟨_, rfl⟩
      rw [← hwq] at hres hT1 hNl hw1
      have hTq := hT1
      have hNq := hNl
      have hUq := hw1
      subst hwq
      clear hT1 hNl hw1
      go_wp2_with fail
      have HI : ∀ (x : Int) (W : World), x = D - 1 → 0 < D → TapeOk W T → NamesOk T W → Calls Tryz.prog 31 #[.pointer (some ⟨T, 0, none⟩), .int .i64 x, .int .i64 V, .int .i64 M] W (Makes W.heap.size ((d + 1) - 1) vars metas T W) := by
        intro x W hx h0 h2 h3
        have := HD.out
        rw [hx, HV.out, HM.out, show D - 1 = (((d + 1) - 1 : Nat) : Int) by omega]
        exact term_any ((d + 1) - 1) (by omega) vars metas (by omega) hm T W h2 h3
      have HDw := hid (show 0 < D → IntKind.i64.wrap (D - 1) = D - 1 by intro _; exact Go.IntWalk.i64_in _ (by omega))
      have hTql := hTq.lt
      refine (NX _ (by omega) (by omega) _ (hTq.on ((Upto.refl none' wq).alloc _))).mono ?_
      rintro e w3 ⟨⟨c2, hc2, rfl⟩, hT3, hU3⟩
      have hk3 : w3.heap[wq.heap.size]? = some (.cells #[.string (B [110, 97, 116]), .string (B [118, 101, 99]), .string (B [116, 109])] 9 (0, 0)) := by
        rw [hU3.block _ (by simp) (fun e => by simp only [isT] at e; omega)]
        exact heap_alloc_new wq _
      obtain ⟨nm, hnm, hnn, hnl⟩ := famNames_at hk3 c2 hc2
      have d0 : (0 : Int) ≤ (c2 : Int) := by omega
      have hU3' : Upto (isT T) wq w3 := ((Upto.refl (isT T) wq).alloc _).trans hU3 (fun _ _ x => x)
      have hres3 := hres.keep hU3' hresne
      have hN3 := hNq.keep hU3'
      have hw3 := hUq.trans hU3' (fun _ _ x => x)
      have q3 : w.heap.size < w3.heap.size := hres3.lt
      clear hU3 hU3' hk3 hTq hNq hres hUq
      go_wp2_with fail
      obtain ⟨w4, hw4⟩ : ∃ w4, w4 = w3.alloc (.cells #[.int .i64 4, .string (B nm), .int .i64 0, .slice none 0 0] 29) := ⟨_, rfl⟩
      have hU4 : Upto none' w3 w4 := by rw [hw4]; exact (Upto.refl none' w3).alloc _
      have hout : Box4 w4 w3.heap.size (.int .i64 4) (.string (B nm)) (.int .i64 0) (.slice none 0 0) 29 := by rw [hw4]; exact Box4.at_new rfl
      rw [← hw4]
      clear hw4
      have hoT : w3.heap.size ≠ T := by have := hT3.lt; omega
      have hT3l := hT3.lt
      refine (NX _ (by omega) (by omega) _ (hT3.on hU4)).mono ?_
      rintro e w5 ⟨⟨nn, hnn2, rfl⟩, hT5, hU5⟩
      have hN5 := (hN3.on hU4).keep hU5
      have hres5 := (hres3.kept hU4).keep hU5 hresne
      have hout5 := hout.keep hU5 hoT
      have hw5 := (hw3.trans hU4 (fun _ _ x => x.elim)).trans hU5 (fun _ _ x => x)
      have q5 : w3.heap.size < w5.heap.size := hout5.lt
      clear hU5 hU4 hout hres3 hN3 hT3 hw3 hnm
      go_wp2_with fail
      obtain ⟨i0, hi, hi0, hi1, hi2⟩ := info_parts info_term
      go_loopw [11] (fun v11 wr => ∃ (m : Nat) (v : Value) (ts : List Tm) (css : List (List Value)), v11 = .int .i64 m ∧ m + ts.length ≤ 2 ∧ (ts.length = 0 ∨ 0 < D) ∧ Terms w5.heap.size wr v ts css ∧ (∀ t ∈ ts, Tm.Fits t ((d + 1) - 1) vars metas) ∧
          Box4 wr w3.heap.size (.int .i64 4) (.string (B nm)) (.int .i64 0) v 29 ∧ Box4 wr w.heap.size (.int .i64 0) (.string (B [])) (.int .i64 0) (.slice none 0 0) 29 ∧ TapeOk wr T ∧ NamesOk T wr ∧ Upto (isT T) w wr ∧ w5.heap.size ≤ wr.heap.size)
        (fun v11 _ => (intOf v11).toNat)
      case atStart => exact ⟨nn, _, [], [], rfl, by simp; omega, .inl rfl, Terms.nil _ _, by simp, hout5, hres5, hT5, hN5, hw5, Nat.le_refl _⟩
      case round =>
        obtain ⟨m, v, ts, css, rfl, hmt, htD, hts, hfs, hout, hres, hTr, hNr, hwr, hbr⟩ := hrel
        obtain ⟨b0, b1, b2, b3⟩ := hout.cells
        obtain ⟨f0, f1, f2, f3⟩ := hout.frozens
        have hTrl := hTr.lt
        by_cases hm0 : 0 < m ∧ 0 < D
        · obtain ⟨hm0, hD0⟩ := hm0
          have hm1 : (0 : Int) < (m : Int) := by omega
          have hDw := HDw.out hD0
          go_wp2_with fail
          go_region_law (first
            | ((rw [if_pos (by rfl)]); go_simp; (go_at_call 31); refine (HI _ _ rfl hD0 (hTr.on (Upto.refl none' wr).drew) (hNr.on (Upto.refl none' wr).drew)).mono ?_; rintro e w6 ⟨k1, i1, n1, a1, len1, cap1, t, rfl, hR6, hF6, hT6, hN6, hU6⟩; have hU6' : Upto (isT T) wr w6 := Upto.trans ((Upto.refl (isT T) wr).drew) hU6 (fun _ _ x => x); have hout6 := hout.keep hU6' hoT; have q6 := hout6.lt; have c6 := hout6.cells.2.2.2; have z6 := hout6.frozen 3; have hs6 := hU6'.size; have hts6 := hts.keep hU6' (fun b e => (by simp only [isT] at e; omega)))
            | (refine step_append_lies _ (by rfl) _ _ 27 (by rfl) w5.heap.size 29 i0 (.agg #[.int .i64 0, .string (B []), .int .i64 0, .slice none 0 0]) 4 56 (by kernel_rfl) hi hi0 hi1 hi2 rfl (by decide) v ts.length css.flatten (by rfl) ((hts6.on ((Upto.refl none' w6).alloc _)).2.2.1) ⟨w6.heap.size, 0, none⟩ 1 1 [.int .i64 k1, .string (B n1), .int .i64 i1, .slice a1 len1 cap1] (by rfl) rfl (World.news_of_block (heap_alloc_new w6 _)) (by simp [Value.oneCell']) (by omega) (by simp only [maxLen]; omega) (by omega) (by simp; omega) _ rfl ?_; intro g cap' w7 hown hgrow hat hlt; have hout7 := (hout6.kept ((Upto.refl none' w6).alloc _)).row hgrow (hts6.on ((Upto.refl none' w6).alloc _)) (by omega); have c7 := hout7.cells.2.2.2; have z7 := hout7.frozen 3))
          all_goals
            have hts6' := hts6.on ((Upto.refl none' w6).alloc (.cells #[.int .i64 k1, .string (B n1), .int .i64 i1, .slice a1 len1 cap1] 29))
            have hR6' : Rep (fun b => b < w5.heap.size ∨ v.ownBlock = some b) (w6.alloc (.cells #[.int .i64 k1, .string (B n1), .int .i64 i1, .slice a1 len1 cap1] 29)) t.dat [.int .i64 k1, .string (B n1), .int .i64 i1, .slice a1 len1 cap1] := by
              refine (Rep.weaken (fun b _ e => ?_) _ _ hR6).new _
              rcases e with e | e
              · exact Nat.lt_of_lt_of_le e hbr
              · exact (hts.2.2.1.lt b e).2
            have hT7 := hts6'.appended rfl hR6' hown hgrow hat (Nat.le_refl _)
            have hset7 : Upto (fun b => b = w3.heap.size) w7 (w7.setCell ⟨w3.heap.size, 3, none⟩ (.slice (some ⟨g, 0, none⟩) (ts.length + 1) cap')) := Upto.set (Upto.refl _ _) 3 _
            have hrow7 := Upto.ofRow (RowUp.grown hts6'.2.2.1 hgrow)
            have hal6 : Upto none' w6 (w6.alloc (.cells #[.int .i64 k1, .string (B n1), .int .i64 i1, .slice a1 len1 cap1] 29)) := (Upto.refl none' w6).alloc _
            have hT7' := ((hT6.on hal6).far hrow7 (fun b e => by omega)).far hset7 (fun b e => by omega)
            have hN7' := ((hN6.on hal6).far hrow7 (fun b e => by omega)).far hset7 (fun b e => by omega)
            have hres7 : Box4 (w7.setCell ⟨w3.heap.size, 3, none⟩ (.slice (some ⟨g, 0, none⟩) (ts.length + 1) cap')) w.heap.size _ _ _ _ _ := (((hres.keep hU6' hresne).kept hal6).keep hrow7 (by omega)).keep hset7 (by omega)
            have hw7U : Upto (isT T) w (w7.setCell ⟨w3.heap.size, 3, none⟩ (.slice (some ⟨g, 0, none⟩) (ts.length + 1) cap')) := ((((hwr.trans hU6' (fun _ _ x => x)).trans hal6 (fun _ _ x => x.elim)).trans hrow7 (fun b hb e => by omega))).trans hset7 (fun b hb e => by omega)
            have hsz7 : w5.heap.size ≤ (w7.setCell ⟨w3.heap.size, 3, none⟩ (.slice (some ⟨g, 0, none⟩) (ts.length + 1) cap')).heap.size := by have := hset7.size; have := hrow7.size; have := hal6.size; omega
            have hfs7 : ∀ t' ∈ ts ++ [t], Tm.Fits t' ((d + 1) - 1) vars metas := by
              intro t' ht'
              rcases List.mem_append.1 ht' with h | h
              · exact hfs t' h
              · obtain rfl : t' = t := by simpa using h
                exact hF6
            have hT7s := hT7.keep hset7 (fun b e => by omega)
            go_wp2_with fail
            go_roundw
            case rel => exact ⟨m - 1, _, ts ++ [t], _, int_eq (by omega), by simp; omega, .inr hD0, hT7s, hfs7, hout7.set3 _, hres7, hT7', hN7', hw7U, hsz7⟩
            case measure => simp [intOf]; omega
        · obtain ⟨r0, r1, r2, r3⟩ := hres.cells
          obtain ⟨rf0, rf1, rf2, rf3⟩ := hres.frozens
          have qr := hres.lt
          obtain ⟨a, cap, rfl, hcap, hE⟩ := hts.rep
          have hfit' : Tm.FitsT (.mk 4 nm 0 ts) (d + 1) vars metas := by
            refine Tm.fitsT_atom ?_
            rcases htD with h | h
            · obtain rfl : ts = [] := List.eq_nil_of_length_eq_zero h
              exact (Tm.fits_leaf (.inl rfl) (fun _ => ⟨hnn, rfl⟩) (fun e => by omega) (fun e => by omega) (by omega) (by omega) hnl).mono (Nat.zero_le _)
            · have hdd : (d + 1) = ((d + 1) - 1) + 1 := by have := HD.out; omega
              rw [hdd]
              exact Tm.fits_node (.inl rfl) (by omega) hfs (fun _ => ⟨hnn, rfl⟩) (fun e => by omega) (fun e => by omega) (by omega) (by omega) hnl
          obtain ⟨len, hlen⟩ : ∃ len, len = ts.length := ⟨_, rfl⟩
          rw [← hlen] at hout hcap b3
          have HL := hid hlen
          clear hlen hfs hts htD
          by_cases hm1 : (0 : Int) < (m : Int)
          case' pos =>
            have hD1 : ¬ 0 < D := fun h => hm0 ⟨by omega, h⟩
            (try exact absurd D0 hD1)
          all_goals
            clear hm0
            go_wp2_with fail
            obtain ⟨w9, hw9⟩ : ∃ w9, w9 = (((wr.setCell ⟨w.heap.size, 0, none⟩ (.int .i64 4)).setCell ⟨w.heap.size, 1, none⟩ (.string (B nm))).setCell ⟨w.heap.size, 2, none⟩ (.int .i64 0)).setCell ⟨w.heap.size, 3, none⟩ (.slice a len cap) := ⟨_, rfl⟩
            have hset9 := hres.set (d0 := .int .i64 4) (d1 := .string (B nm)) (d2 := .int .i64 0) (d3 := .slice a len cap)
            rw [← hw9] at hset9
            rw [← hw9]
            clear hw9
            obtain ⟨e0, e1, e2, e3⟩ := hset9.1.cells
            refine bodyPost_ret (v := .agg #[.int .i64 4, .string (B nm), .int .i64 0, .slice a len cap]) ?_ rfl ?_
            · simp [results, Tryz.f32, go_sem, e0, e1, e2, e3]
            · exact madeT_fin rfl HL.out hcap hE (by omega) hset9 hfit' hTr hNr hwr hTl
end Go.Proofs.YtdomloghcpfdjaaGreatDoor
/- Any: a kind, a type or an object. -/
namespace Go.Proofs.YtdomloghcpfdjaaGreatDoor
open Go.RowKit Go.LF
end Go.Proofs.YtdomloghcpfdjaaGreatDoor
/- Spoil: words. -/
namespace Go.Proofs.YtdomloghcpfdjaaGreatDoor
open Go.RowKit Go.LF
/-- The cells of a row of terms. -/
theorem row_cells {O : Nat → Prop} {W : World} : ∀ (ts : List Tm) (a : Option Addr) (j : Nat), RepE O W 4 (ts.map Tm.dat) a j →
    ∃ css : List (List Value), css.length = ts.length ∧ (∀ cs ∈ css, cs.length = 4) ∧ (∀ u ∈ css.flatten, u.oneCell' = true) ∧ (∀ i u, css.flatten[i]? = some u → ∃ b o, a = some ⟨b, o, none⟩ ∧ W.cell? ⟨b, o + j + i, none⟩ = some u) ∧
      ∀ i (h : i < ts.length) (h' : i < css.length), Rep O W ts[i].dat css[i]
  | [], _, _, _ => ⟨[], rfl, by simp, by simp, by simp, fun i h => by simp at h⟩
  | t :: ts, a, j, h => by
    simp only [List.map_cons, RepE] at h
    obtain ⟨⟨b, o, cs, rfl, hb, hO, hl, hc, hr⟩, hrest⟩ := h
    obtain ⟨css, h1, h2, h3, h4, h5⟩ := row_cells ts _ (j + 4) hrest
    obtain ⟨k, n, i, l, a', cap', ht, hcs, _⟩ := tm_open hr
    refine ⟨cs :: css, by simp [h1], ?_, ?_, ?_, ?_⟩
    · intro x hx
      rcases List.mem_cons.1 hx with rfl | hx
      · exact hl
      · exact h2 x hx
    · intro u hu
      rw [List.flatten_cons, List.mem_append] at hu
      rcases hu with hu | hu
      · rw [hcs] at hu
        simp only [List.mem_cons, List.not_mem_nil, or_false] at hu
        rcases hu with rfl | rfl | rfl | rfl <;> rfl
      · exact h3 u hu
    · intro m u hu
      rw [List.flatten_cons] at hu
      by_cases hm : m < cs.length
      · rw [List.getElem?_append_left hm] at hu
        exact ⟨b, o, rfl, hc m u hu⟩
      · rw [List.getElem?_append_right (by omega)] at hu
        obtain ⟨b', o', e, hc'⟩ := h4 _ u hu
        cases e
        refine ⟨b, o, rfl, ?_⟩
        rw [show o + j + m = o + (j + 4) + (m - cs.length) by omega]
        exact hc'
    · intro m hm hm'
      cases m with
      | zero => exact hr
      | succ m => exact h5 m (by simpa using hm) (by simpa using hm')
/-- The value v is a row of its own, from base on, with these terms, whose arguments lie below, outside O. -/
def RowS (O : Nat → Prop) (base : Nat) (W : World) (v : Value) (ts : List Tm) (css : List (List Value)) : Prop :=
  css.length = ts.length ∧ (∀ cs ∈ css, cs.length = 4) ∧ W.ownsRow base 29 4 v ts.length css.flatten ∧ ∀ i (h : i < ts.length) (h' : i < css.length), Rep (fun b => O b ∨ base ≤ b) W ts[i].dat css[i]
theorem RowS.keep {O : Nat → Prop} {base : Nat} {W W' : World} {v : Value} {ts : List Tm} {css : List (List Value)} {S : Nat → Prop} (h : RowS O base W v ts css) (hU : Upto S W W') (hS : ∀ b, S b → base ≤ b ∧ v.ownBlock ≠ some b) : RowS O base W' v ts css := by
  obtain ⟨h1, h2, h3, h4⟩ := h
  refine ⟨h1, h2, ⟨h3.1, ?_⟩, fun i h h' => Rep.keep hU (fun b hb => .inr (hS b hb).1) _ _ (h4 i h h')⟩
  rcases h3.2 with h5 | ⟨g, cap, cur, rfl, hb, hg, rest⟩
  · exact .inl h5
  · exact .inr ⟨g, cap, cur, rfl, hb, (hU.block g (Array.getElem?_eq_some_iff.1 hg).1 (fun e => (hS g e).2 rfl)).trans hg, rest⟩
theorem RowS.on {O : Nat → Prop} {base : Nat} {W W' : World} {v : Value} {ts : List Tm} {css : List (List Value)} (h : RowS O base W v ts css) (hU : Upto none' W W') : RowS O base W' v ts css := h.keep hU (fun _ x => x.elim)
/-- Each cell of such a row. -/
theorem RowS.cells {O : Nat → Prop} {base : Nat} {W : World} {v : Value} {ts : List Tm} {css : List (List Value)} (h : RowS O base W v ts css) : ∃ a cap, v = .slice a ts.length cap ∧ ts.length ≤ cap ∧
    ∀ i (hi : i < ts.length) (hi' : i < css.length), ∃ g, a = some ⟨g, 0, none⟩ ∧ v.ownBlock = some g ∧ base ≤ g ∧ g < W.heap.size ∧ (∀ o, W.frozen? ⟨g, o, none⟩ = false) ∧ ∀ m u, css[i][m]? = some u → W.cell? ⟨g, i * 4 + m, none⟩ = some u := by
  obtain ⟨h1, h2, h3, h4⟩ := h
  rcases h3.2 with ⟨rfl, h0⟩ | ⟨g, cap, cur, rfl, hb, hg, hnc, _⟩
  · exact ⟨none, 0, by rw [h0], by omega, fun i hi => by omega⟩
  · refine ⟨_, cap, rfl, hnc, fun i hi hi' => ⟨g, rfl, rfl, hb, (Array.getElem?_eq_some_iff.1 hg).1, fun o => by simp [World.frozen?, hg], fun m u hu => ?_⟩⟩
    have := h3.cells (g := g) rfl _ u ((flat4 css h2).2 i hi' m u hu)
    have hadd : (⟨g, 0, none⟩ : Addr).add (i * 4 + m) = ⟨g, i * 4 + m, none⟩ := by unfold Addr.add; split <;> simp_all
    rwa [hadd] at this
theorem RowS.rep {O : Nat → Prop} {base : Nat} {W : World} {v : Value} {ts : List Tm} {css : List (List Value)} (h : RowS O base W v ts css) : ∃ a cap, v = .slice a ts.length cap ∧ ts.length ≤ cap ∧ RepE (fun b => (O b ∧ b < base) ∨ (base ≤ b ∧ v.ownBlock ≠ some b)) W 4 (ts.map Tm.dat) a 0 := by
  obtain ⟨a, cap, hv, hcap, hc⟩ := h.cells
  refine ⟨a, cap, hv, hcap, repE_of _ _ _ (fun i hi => ?_)⟩
  simp only [List.length_map] at hi
  have hi' : i < css.length := by have := h.1; omega
  obtain ⟨g, rfl, hown, hb, hlt, _, hg⟩ := hc i hi hi'
  refine ⟨g, 0, css[i], rfl, hlt, fun x => x.elim (fun y => by omega) (fun y => y.2 hown), h.2.1 _ (List.getElem_mem hi'), fun m u hu => ?_, ?_⟩
  · rw [show 0 + 0 + i * 4 + m = i * 4 + m by omega]
    exact hg m u hu
  · simp only [List.getElem_map]
    exact Rep.weaken (fun _ _ x => x.elim (fun y => .inl y.1) (fun y => .inr y.1)) _ _ (h.2.2.2 i hi hi')
/-- A row that has just been copied. -/
theorem RowS.new {O : Nat → Prop} {base len : Nat} {w W w7 : World} {ts : List Tm} {css : List (List Value)} {g cap : Nat} (h1 : css.length = ts.length) (h2 : ∀ cs ∈ css, cs.length = 4) (h5 : ∀ i (h : i < ts.length) (h' : i < css.length), Rep (fun b => O b ∨ base ≤ b) w ts[i].dat css[i]) (hl : len = ts.length)
    (hU : Upto none' w W) (hown : w7.ownsRow base 29 4 (.slice (some ⟨g, 0, none⟩) (0 + len) cap) (0 + len) ([] ++ css.flatten)) (hg : W.grownBy w7 none) : RowS O base w7 (.slice (some ⟨g, 0, none⟩) len cap) ts css := by
  subst hl
  refine ⟨h1, h2, by simpa using hown, fun i h h' => ?_⟩
  have hU7 : Upto none' W w7 := ⟨hg.os, hg.tape, hg.output, hg.size, fun k hk _ => hg.block k hk (by simp)⟩
  exact ((h5 i h h').on hU).on hU7
/-- A leaf is appended. -/
theorem RowS.leaf {O : Nat → Prop} {base : Nat} {W w' : World} {v : Value} {ts : List Tm} {css : List (List Value)} {k i : Int} {n : List UInt8} {g cap : Nat} (h : RowS O base W v ts css)
    (hown : w'.ownsRow base 29 4 (.slice (some ⟨g, 0, none⟩) (ts.length + 1) cap) (ts.length + 1) (css.flatten ++ [.int .i64 k, .string (B n), .int .i64 i, .slice none 0 0])) (hg : W.grownBy w' v.ownBlock) :
    RowS O base w' (.slice (some ⟨g, 0, none⟩) (ts.length + 1) cap) (ts ++ [.mk k n i []]) (css ++ [[.int .i64 k, .string (B n), .int .i64 i, .slice none 0 0]]) := by
  obtain ⟨h1, h2, h3, h4⟩ := h
  have hcel : Cel (fun b => O b ∨ base ≤ b) W w' := ⟨hg.size, fun b o u hb hu => hg.cell hu (fun e => hb (.inr (h3.lt b e.symm).1))⟩
  refine ⟨by simp [h1], ?_, by simpa using hown, fun i hi hi' => ?_⟩
  · intro c hc
    rcases List.mem_append.1 hc with hc | hc
    · exact h2 c hc
    · obtain rfl := List.mem_singleton.1 hc
      rfl
  · by_cases hlt : i < ts.length
    · rw [List.getElem_append_left hlt, List.getElem_append_left (by omega)]
      exact Rep.carry hcel _ _ (h4 i hlt (by omega))
    · have e1 : i = ts.length := by simp at hi; omega
      subst e1
      rw [List.getElem_append_right (Nat.le_refl _), List.getElem_append_right (by omega)]
      simp only [h1, Nat.sub_self, List.getElem_cons_zero]
      exact rep_leaf _ _ _
/-- The last term of a row is taken away. -/
theorem repE_init {O : Nat → Prop} {W : World} {ts : List Tm} {a : Option Addr} (n : Nat) (h : RepE O W 4 (ts.map Tm.dat) a 0) : RepE O W 4 ((ts.take n).map Tm.dat) a 0 := by
  refine repE_of _ _ _ (fun i hi => ?_)
  have hi1 : i < (ts.map Tm.dat).length := by simp at hi ⊢; omega
  obtain ⟨b, o, cs, e1, e2, e3, e4, e5, e6⟩ := h.get i hi1
  exact ⟨b, o, cs, e1, e2, e3, e4, e5, by simpa using e6⟩
/-- What Spoil hands back: it avoids what it avoided. -/
def Spoils (O : Nat → Prop) (wt : Nat) (w : World) (e : Ending) (w' : World) : Prop :=
  ∃ (k i : Int) (n : List UInt8) (a : Option Addr) (len cap : Nat) (t : Tm), e = .returned (.agg #[.int .i64 k, .string (B n), .int .i64 i, .slice a len cap]) ∧
    Rep (fun b => O b ∧ b < w.heap.size) w' t.dat [.int .i64 k, .string (B n), .int .i64 i, .slice a len cap] ∧ t.wt ≤ wt + 10 ∧ Upto none' w w'
theorem spoil_fin {O : Nat → Prop} {w W w9 : World} {hb len cap wt : Nat} {k i : Int} {n : List UInt8} {a : Option Addr} {ts : List Tm} {x0 x1 x2 x3 : Value} {U : TypeId} (hlen : len = ts.length) (hcap : len ≤ cap) (hE : RepE (fun b => (O b ∧ b < w.heap.size) ∨ b = hb) W 4 (ts.map Tm.dat) a 0)
    (h9 : Box4 w9 hb x0 x1 x2 x3 U ∧ Upto (fun b => b = hb) W w9) (hw : w.heap.size ≤ hb) (hU : Upto none' w W) (hwt : (Tm.mk k n i ts).wt ≤ wt + 10) :
    Spoils O wt w (.returned (.agg #[.int .i64 k, .string (B n), .int .i64 i, .slice a len cap])) w9 := by
  subst hlen
  exact ⟨k, i, n, a, _, cap, .mk k n i ts, rfl, rep_tm.2 ⟨a, cap, rfl, hcap, RepE.weaken (fun _ _ x => .inl x) _ _ _ _ (RepE.keep h9.2 (fun _ e => .inr e) _ _ _ _ hE)⟩, hwt, hU.trans h9.2 (fun b hb e => by omega)⟩
theorem out_kept {W w7 : World} {b : Nat} {c0 c1 c2 c3 : Value} {T : TypeId} (hg : W.grownBy w7 (Value.slice none 0 0).ownBlock) (h : Box4 W b c0 c1 c2 c3 T) : Box4 w7 b c0 c1 c2 c3 T := (hg.block b h.lt (by simp [Value.ownBlock])).trans h
theorem grown_upto {W w7 : World} (hg : W.grownBy w7 (Value.slice none 0 0).ownBlock) : Upto none' W w7 := ⟨hg.os, hg.tape, hg.output, hg.size, fun k hk _ => hg.block k hk (by simp [Value.ownBlock])⟩
/-- The four cells of a variable. -/
abbrev TcS (b : Nat) (c0 c1 c2 c3 : Value) (w' : World) : Prop := w'.cell? ⟨b, 0, none⟩ = some c0 ∧ w'.cell? ⟨b, 1, none⟩ = some c1 ∧ w'.cell? ⟨b, 2, none⟩ = some c2 ∧ w'.cell? ⟨b, 3, none⟩ = some c3
theorem TcS.keep {b : Nat} {c0 c1 c2 c3 : Value} {w w' : World} {S : Nat → Prop} (h : TcS b c0 c1 c2 c3 w) (hU : Upto S w w') (hS : ¬ S b) : TcS b c0 c1 c2 c3 w' := ⟨hU.cell h.1 hS, hU.cell h.2.1 hS, hU.cell h.2.2.1 hS, hU.cell h.2.2.2 hS⟩
theorem TcS.new {b : Nat} {c0 c1 c2 c3 : Value} {w : World} (h : TcS b c0 c1 c2 c3 w) (o : Obj) : TcS b c0 c1 c2 c3 (w.alloc o) := h.keep ((Upto.refl none' w).alloc o) (fun x => x)
theorem TcS.set {b r : Nat} {c0 c1 c2 c3 : Value} {w : World} (h : TcS b c0 c1 c2 c3 w) (hr : b ≠ r) (j : Nat) (v : Value) : TcS b c0 c1 c2 c3 (w.setCell ⟨r, j, none⟩ v) := h.keep (Upto.set (Upto.refl _ w) j v) hr
theorem wts_set : ∀ (ts : List Tm) (j : Nat) (h : j < ts.length) (t : Tm), t.wt ≤ ts[j].wt + 10 → Tm.wts (ts.set j t) ≤ Tm.wts ts + 10
  | [], j, h, _, _ => by simp at h
  | u :: us, 0, h, t, ht => by simp only [List.getElem_cons_zero] at ht; simp only [List.set_cons_zero, Tm.wts]; omega
  | u :: us, j + 1, h, t, ht => by
    have := wts_set us j (by simpa using h) t (by simpa using ht)
    simp only [List.set_cons_succ, Tm.wts]; omega
theorem wts_take : ∀ (ts : List Tm) (n : Nat), Tm.wts (ts.take n) ≤ Tm.wts ts
  | [], n => by simp
  | _ :: _, 0 => by simp [Tm.wts]
  | u :: us, n + 1 => by have := wts_take us n; simp only [List.take_succ_cons, Tm.wts]; omega
/-- The cells of a term in a row are stored anew. -/
theorem set_cells {W : World} {g o : Nat} {c0 c1 c2 c3 d0 d1 d2 d3 : Value} (h0 : W.cell? ⟨g, o, none⟩ = some c0) (h1 : W.cell? ⟨g, o + 1, none⟩ = some c1) (h2 : W.cell? ⟨g, o + 2, none⟩ = some c2) (h3 : W.cell? ⟨g, o + 3, none⟩ = some c3) {W' : World}
    (hW : W' = (((W.setCell ⟨g, o, none⟩ d0).setCell ⟨g, o + 1, none⟩ d1).setCell ⟨g, o + 2, none⟩ d2).setCell ⟨g, o + 3, none⟩ d3) :
    (W'.cell? ⟨g, o, none⟩ = some d0 ∧ W'.cell? ⟨g, o + 1, none⟩ = some d1 ∧ W'.cell? ⟨g, o + 2, none⟩ = some d2 ∧ W'.cell? ⟨g, o + 3, none⟩ = some d3) ∧
    (∀ x, x ≠ o → x ≠ o + 1 → x ≠ o + 2 → x ≠ o + 3 → W'.cell? ⟨g, x, none⟩ = W.cell? ⟨g, x, none⟩) ∧ Upto (fun b => b = g) W W' := by
  have ne : ∀ x y : Nat, x ≠ y → (⟨g, x, none⟩ : Addr) ≠ ⟨g, y, none⟩ := fun x y h e => h (by cases e; rfl)
  have other : ∀ (V : World) (x y : Nat) (v : Value), x ≠ y → (V.setCell ⟨g, x, none⟩ v).cell? ⟨g, y, none⟩ = V.cell? ⟨g, y, none⟩ := fun V x y v h => World.cell?_setCell_other _ _ _ _ (ne x y h)
  subst hW
  refine ⟨⟨?_, ?_, ?_, ?_⟩, ?_, ?_⟩
  · rw [other _ _ _ _ (by omega), other _ _ _ _ (by omega), other _ _ _ _ (by omega)]
    exact World.cell?_setCell_same _ _ _ h0
  · rw [other _ _ _ _ (by omega), other _ _ _ _ (by omega)]
    exact World.cell?_setCell_same _ _ _ (by rw [other _ _ _ _ (by omega)]; exact h1)
  · rw [other _ _ _ _ (by omega)]
    exact World.cell?_setCell_same _ _ _ (by rw [other _ _ _ _ (by omega), other _ _ _ _ (by omega)]; exact h2)
  · exact World.cell?_setCell_same _ _ _ (by rw [other _ _ _ _ (by omega), other _ _ _ _ (by omega), other _ _ _ _ (by omega)]; exact h3)
  · intro x h0 h1 h2 h3
    rw [other _ _ _ _ (Ne.symm h3), other _ _ _ _ (Ne.symm h2), other _ _ _ _ (Ne.symm h1), other _ _ _ _ (Ne.symm h0)]
  · exact Upto.set (Upto.set (Upto.set (Upto.set (Upto.refl _ W) _ _) _ _) _ _) _ _
theorem row_set {Oe Of : Nat → Prop} {W W' : World} {g j : Nat} {ts : List Tm} {css : List (List Value)} {t5 : Tm} {d0 d1 d2 d3 : Value} (hl : css.length = ts.length) (hj : j < ts.length) (hlt : g < W.heap.size)
    (h : ∀ i (hi : i < ts.length) (hi' : i < css.length), (∀ m u, css[i][m]? = some u → W.cell? ⟨g, i * 4 + m, none⟩ = some u) ∧ css[i].length = 4 ∧ Rep Oe W ts[i].dat css[i])
    (hR5 : Rep Oe W t5.dat [d0, d1, d2, d3]) (hOg : Oe g) (hf : ∀ b, b < W'.heap.size → Of b → Oe b) (hfg : ¬ Of g)
    (hW : W' = (((W.setCell ⟨g, j * 4, none⟩ d0).setCell ⟨g, j * 4 + 1, none⟩ d1).setCell ⟨g, j * 4 + 2, none⟩ d2).setCell ⟨g, j * 4 + 3, none⟩ d3) : RepE Of W' 4 ((ts.set j t5).map Tm.dat) (some ⟨g, 0, none⟩) 0 ∧ Upto (fun b => b = g) W W' := by
  have hj4 := h j hj (by omega)
  have hcj : ∀ m, m < 4 → ∃ u, W.cell? ⟨g, j * 4 + m, none⟩ = some u := fun m hm => ⟨_, hj4.1 m _ (List.getElem?_eq_getElem (by rw [hj4.2.1]; exact hm))⟩
  obtain ⟨_, u0⟩ := hcj 0 (by omega)
  obtain ⟨_, u1⟩ := hcj 1 (by omega)
  obtain ⟨_, u2⟩ := hcj 2 (by omega)
  obtain ⟨_, u3⟩ := hcj 3 (by omega)
  obtain ⟨⟨v0, v1, v2, v3⟩, hoth, hU⟩ := set_cells (d0 := d0) (d1 := d1) (d2 := d2) (d3 := d3) u0 u1 u2 u3 hW
  refine ⟨repE_of _ _ _ (fun i hi => ?_), hU⟩
  simp only [List.length_map, List.length_set] at hi
  have hltW : g < W'.heap.size := Nat.lt_of_lt_of_le hlt hU.size
  by_cases hij : i = j
  · subst hij
    refine ⟨g, 0, [d0, d1, d2, d3], rfl, hltW, hfg, rfl, fun m u hu => ?_, ?_⟩
    · rw [show 0 + 0 + i * 4 + m = i * 4 + m by omega]
      match m, hu with
      | 0, hu => cases hu; exact v0
      | 1, hu => cases hu; exact v1
      | 2, hu => cases hu; exact v2
      | 3, hu => cases hu; exact v3
    · simp only [List.getElem_map, List.getElem_set_self]
      exact Rep.weaken hf _ _ (Rep.keep hU (fun b e => by rw [e]; exact hOg) _ _ hR5)
  · have hi2 := h i hi (by omega)
    refine ⟨g, 0, css[i]'(by omega), rfl, hltW, hfg, hi2.2.1, fun m u hu => ?_, ?_⟩
    · rw [show 0 + 0 + i * 4 + m = i * 4 + m by omega]
      have hm : m < 4 := by rw [← hi2.2.1]; exact (List.getElem?_eq_some_iff.1 hu).1
      rw [hoth _ (by omega) (by omega) (by omega) (by omega)]
      exact hi2.1 m u hu
    · simp only [List.getElem_map, List.getElem_set_ne (Ne.symm hij)]
      exact Rep.weaken hf _ _ (Rep.keep hU (fun b e => by rw [e]; exact hOg) _ _ hi2.2.2)
theorem grown_own {w w' : World} {v : Value} (h : w.grownBy w' v.ownBlock) : Upto (fun b => v.ownBlock = some b) w w' := ⟨h.os, h.tape, h.output, h.size, fun k hk hn => h.block k hk (fun e => hn e.symm)⟩
theorem ixs_at {W : World} {b : Nat} {T' : TypeId} {fr : Nat × Nat} (h : W.heap[b]? = some (.cells #[.int .i64 (-1), .int .i64 1, .int .i64 1048576, .int .i64 1048577, .int .i64 2048, .int .i64 0] T' fr)) (c : Nat) (hc : (c : Int) < 6) :
    ∃ i : Int, W.cell? ⟨b, c, none⟩ = some (.int .i64 i) := by
  have hcell : ∀ i, W.cell? ⟨b, i, none⟩ = (#[.int .i64 (-1), .int .i64 1, .int .i64 1048576, .int .i64 1048577, .int .i64 2048, .int .i64 0] : Array Value)[i]? := fun i => by simp [World.cell?, h]
  match c, hc with
  | 0, _ => exact ⟨_, hcell 0⟩
  | 1, _ => exact ⟨_, hcell 1⟩
  | 2, _ => exact ⟨_, hcell 2⟩
  | 3, _ => exact ⟨_, hcell 3⟩
  | 4, _ => exact ⟨_, hcell 4⟩
  | 5, _ => exact ⟨_, hcell 5⟩
  | n + 6, h => omega
theorem badNames_at {W : World} {b : Nat} {T' : TypeId} {fr : Nat × Nat} (h : W.heap[b]? = some (.cells #[.string (B []), .string (B [95]), .string (B [122]), .string (B [116, 121, 112, 101]), .string (B [64, 99]), .string (B [97, 32, 98]), .string (B [45, 62])] T' fr)) (c : Nat) (hc : (c : Int) < 7) :
    ∃ nm : List UInt8, W.cell? ⟨b, c, none⟩ = some (.string (B nm)) ∧ nm.length ≤ 6 := by
  have hcell : ∀ i, W.cell? ⟨b, i, none⟩ = (#[.string (B []), .string (B [95]), .string (B [122]), .string (B [116, 121, 112, 101]), .string (B [64, 99]), .string (B [97, 32, 98]), .string (B [45, 62])] : Array Value)[i]? := fun i => by simp [World.cell?, h]
  match c, hc with
  | 0, _ => exact ⟨_, hcell 0, by decide⟩
  | 1, _ => exact ⟨_, hcell 1, by decide⟩
  | 2, _ => exact ⟨_, hcell 2, by decide⟩
  | 3, _ => exact ⟨_, hcell 3, by decide⟩
  | 4, _ => exact ⟨_, hcell 4, by decide⟩
  | 5, _ => exact ⟨_, hcell 5, by decide⟩
  | 6, _ => exact ⟨_, hcell 6, by decide⟩
  | n + 7, h => omega
theorem newNames_at {W : World} {b : Nat} {T' : TypeId} {fr : Nat × Nat} (h : W.heap[b]? = some (.cells #[.string (B [122]), .string (B [110, 97, 116]), .string (B [110, 111, 98, 111, 100, 121])] T' fr)) (c : Nat) (hc : (c : Int) < 3) :
    ∃ nm : List UInt8, W.cell? ⟨b, c, none⟩ = some (.string (B nm)) ∧ nm.length ≤ 6 := by
  have hcell : ∀ i, W.cell? ⟨b, i, none⟩ = (#[.string (B [122]), .string (B [110, 97, 116]), .string (B [110, 111, 98, 111, 100, 121])] : Array Value)[i]? := fun i => by simp [World.cell?, h]
  match c, hc with
  | 0, _ => exact ⟨_, hcell 0, by decide⟩
  | 1, _ => exact ⟨_, hcell 1, by decide⟩
  | 2, _ => exact ⟨_, hcell 2, by decide⟩
  | n + 3, h => omega
end Go.Proofs.YtdomloghcpfdjaaGreatDoor
/- Spoil. -/
namespace Go.Proofs.YtdomloghcpfdjaaGreatDoor
open Go.RowKit Go.LF
set_option maxRecDepth 100000 in
set_option maxHeartbeats 16000000 in
theorem spoil_any (t : Tm) : t.wt ≤ 900000 → ∀ (O : Nat → Prop) (n by' : Int) (w : World) (cs : List Value), Rep O w t.dat cs →
    Calls Tryz.prog 33 #[.agg cs.toArray, .int .i64 n, .int .i64 by'] w (Spoils O t.wt w) := by
  induction t using Tm.ind with
  | h k nm i ts ih =>
    intro hwt O n by' w cs h
    obtain ⟨a, cap, rfl, hcap, hE⟩ := rep_tm.1 h
    have hlen := Tm.length_le_sizes ts
    have hsw := Tm.sizes_le_wts ts
    have hwt0 := hwt
    simp only [Tm.wt_mk] at hwt
    obtain ⟨i0, hi, hi0, hi1, hi2⟩ := info_parts info_term
    have HW := hid hwt
    obtain ⟨css, r1, r2, r3, r4, r5⟩ := row_cells ts a 0 (RepE.fresh' 4 _ _ _ hE)
    have HC := fun (x n : Int) h0 h1 w => cut_any x n h0 h1 w
    obtain ⟨len, hlen'⟩ : ∃ len, len = ts.length := ⟨_, rfl⟩
    rw [← hlen'] at hcap hlen
    have hl6 : len ≤ 900000 := by omega
    have hflat := (flat4 css r2).1
    rw [r1, ← hlen'] at hflat
    have HF := hid hflat
    clear hwt hsw hE h hlen hflat
    rw [← hlen']
    have HL := hid hlen'
    have HR := hid (And.intro r1 (And.intro r2 r5))
    clear hlen' r1 r2 r5
    obtain ⟨w2, hw2⟩ : ∃ w2, w2 = (w.alloc (.cells #[.int .i64 k, .string (B nm), .int .i64 i, .slice a len cap] 29)).alloc (.cells #[.int .i64 0, .string (B []), .int .i64 0, .slice none 0 0] 29) := ⟨_, rfl⟩
    have hU2 : Upto none' w w2 := by rw [hw2]; exact ((Upto.refl none' w).alloc _).alloc _
    have ht2 : Box4 w2 w.heap.size (.int .i64 k) (.string (B nm)) (.int .i64 i) (.slice a len cap) 29 := by rw [hw2]; exact (Box4.at_new rfl).kept ((Upto.refl none' _).alloc _)
    have hr2 : Box4 w2 (w.heap.size + 1) (.int .i64 0) (.string (B [])) (.int .i64 0) (.slice none 0 0) 29 := by rw [hw2]; exact Box4.at_new (by simp)
    have hz2 : w.heap.size + 1 < w2.heap.size := hr2.lt
    have hz1 : w.heap.size < w2.heap.size := by omega
    have HW2 := hid hw2
    clear hw2
    obtain ⟨t0, t1, t2, t3⟩ := ht2.cells
    have HN : ∀ (W : World) (b o : Nat), a = some ⟨b, o, none⟩ → Upto none' w W → ∀ j u, css.flatten[j]? = some u → W.cell? ((⟨b, o, none⟩ : Addr).add j) = some u := by
      intro W b o ha hU j u hu
      obtain ⟨b', o', e, hc⟩ := r4 j u hu
      rw [ha] at e
      cases e
      have hadd : (⟨b, o, none⟩ : Addr).add j = ⟨b, o + j, none⟩ := by unfold Addr.add; split <;> simp_all
      rw [hadd]
      exact hU.cell (by simpa using hc) (fun x => x)
    have hA : 0 < len → ∃ b o, a = some ⟨b, o, none⟩ := by
      intro h0
      have h1 := HF.out
      obtain ⟨u, hu⟩ : ∃ u, css.flatten[0]? = some u := ⟨_, List.getElem?_eq_getElem (by omega)⟩
      obtain ⟨b, o, e, _⟩ := r4 0 u hu
      exact ⟨b, o, e⟩
    clear r4
    go_enter Tryz.func33, Tryz.ntmps33
    go_wp2_with fail
    rw [← HW2.out]
    go_cut [7] from 9 (fun v7 wc => ∃ (ob : Nat) (v : Value), v7 = .pointer (some ⟨ob, 0, none⟩) ∧ Box4 wc ob (.int .i64 k) (.string (B nm)) (.int .i64 i) v 29 ∧ RowS O w.heap.size wc v ts css ∧ Upto none' w2 wc ∧ w2.heap.size ≤ ob ∧ (∀ g, v.ownBlock = some g → w2.heap.size ≤ g ∧ g ≠ ob))
    case first =>
      rcases Nat.eq_zero_or_pos len with h0 | h0
      · obtain rfl : len = 0 := h0
        rcases a with _ | a0
        all_goals
          go_region
        all_goals
          go_wp2_with fail
          go_meet
        all_goals
          refine ⟨w2.heap.size, .slice none 0 0, rfl, Box4.at_new rfl, ?_, ((Upto.refl none' w2).alloc _).drew, Nat.le_refl _, fun g e => by simp [Value.ownBlock] at e⟩
          have h1 := HR.out
          have h0 := HL.out
          exact ⟨h1.1, h1.2.1, by rw [← h0, List.eq_nil_of_length_eq_zero (HF.out)]; exact World.ownsRow_nil _ _ _ _, fun i hi => by omega⟩
      · obtain ⟨b, o, rfl⟩ := hA h0
        clear hA
        have T2d : TcS w.heap.size (.int .i64 k) (.string (B nm)) (.int .i64 i) (.slice (some ⟨b, o, none⟩) len cap) w2.drew := TcS.keep (S := none') ⟨t0, t1, t2, t3⟩ (Upto.refl none' w2).drew (fun x => x)
        have T2a : TcS w.heap.size (.int .i64 k) (.string (B nm)) (.int .i64 i) (.slice (some ⟨b, o, none⟩) len cap) (w2.alloc (.cells #[.int .i64 0, .string (B []), .int .i64 0, .slice none 0 0] 29)).drew := TcS.keep (S := none') (TcS.new ⟨t0, t1, t2, t3⟩ _) (Upto.refl none' _).drew (fun x => x)
        have hne : w.heap.size ≠ w2.heap.size := by omega
        go_region_held3 (fun w' => TcS w.heap.size (.int .i64 k) (.string (B nm)) (.int .i64 i) (.slice (some ⟨b, o, none⟩) len cap) w')
          (first | (with_reducible assumption) | (with_reducible exact T2d) | (with_reducible exact T2a) | (with_reducible exact TcS.new T7 _) | (with_reducible exact TcS.set (TcS.set (TcS.set (TcS.set T7 hne 0 _) hne 1 _) hne 2 _) hne 3 _))
          ((refine step_append_lies _ (by rfl) _ _ 27 (by rfl) w.heap.size 29 i0 (.agg #[.int .i64 0, .string (B []), .int .i64 0, .slice none 0 0]) 4 56 (by kernel_rfl) hi hi0 hi1 hi2 rfl (by decide) (.slice none 0 0) 0 [] (by rfl) (World.ownsRow_nil _ _ _ _) ⟨b, o, none⟩ len cap css.flatten (by rfl) HF.out (HN _ b o rfl (by first | exact hU2.drew | exact (hU2.alloc _).drew)) r3 h0 (by simp only [maxLen]; omega) (by omega) (by simp; omega) _ rfl ?_; intro g cap' w7 hown hgrow hat hlt; (first | (have z7 := out_kept hgrow (show Box4 (w2.alloc (.cells #[.int .i64 0, .string (B []), .int .i64 0, .slice none 0 0] 29)).drew w2.heap.size _ _ _ _ _ from Box4.at_new rfl); obtain ⟨z0, z1, z2, z3⟩ := z7.cells; obtain ⟨y0, y1, y2, y3⟩ := z7.frozens) | skip); have T7 : TcS w.heap.size (.int .i64 k) (.string (B nm)) (.int .i64 i) (.slice (some ⟨b, o, none⟩) len cap) w7 := TcS.keep (S := none') (by first | exact T2d | exact T2a) (grown_upto hgrow) (fun x => x)))
        all_goals
          go_wp2_with fail
          go_meet
        all_goals
          have hUW : Upto none' w2 w7 := (by first | exact ((Upto.refl none' w2).drew).and (grown_upto hgrow) | exact (((Upto.refl none' w2).alloc _).drew).and (grown_upto hgrow))
          have hS7 : RowS O w.heap.size w7 (.slice (some ⟨g, 0, none⟩) len cap') ts css := (by first | exact RowS.new HR.out.1 HR.out.2.1 HR.out.2.2 HL.out hU2.drew hown hgrow | exact RowS.new HR.out.1 HR.out.2.1 HR.out.2.2 HL.out (hU2.alloc _).drew hown hgrow)
          have hgg : w2.heap.size ≤ g := by
            rcases hat with h | h
            · simp [Value.ownBlock] at h
            · rw [h]; first | exact Nat.le_refl _ | (show w2.heap.size ≤ (w2.alloc _).heap.size; simp)
          first
            | (have hset := z7.set (d0 := .int .i64 k) (d1 := .string (B nm)) (d2 := .int .i64 i) (d3 := .slice (some ⟨g, 0, none⟩) len cap')
               have hgo : g ≠ w2.heap.size := (by
                 rcases hat with h | h
                 · simp [Value.ownBlock] at h
                 · rw [h]; show (w2.alloc _).heap.size ≠ w2.heap.size; simp)
               exact ⟨w2.heap.size, _, rfl, hset.1, hS7.keep hset.2 (fun b e => ⟨by omega, fun e2 => by simp only [Value.ownBlock, Option.some.injEq] at e2; omega⟩), hUW.trans hset.2 (fun i hi e => by omega), Nat.le_refl _, fun g' e => by simp only [Value.ownBlock, Option.some.injEq] at e; omega⟩)
            | exact ⟨w7.heap.size, _, rfl, Box4.at_new rfl, hS7.on ((Upto.refl none' w7).alloc _), hUW.alloc _, hUW.size, fun g' e => by simp only [Value.ownBlock, Option.some.injEq] at e; omega⟩
    case rest =>
      obtain ⟨ob, v, rfl, hB, hS, hU, hob, hown⟩ := hcut
      obtain ⟨wb, hwb⟩ : ∃ wb, wb = wc := ⟨_, rfl⟩
      have hr := hr2.kept hU
      have hUw := hU2.and hU
      obtain ⟨sa, sc, rfl, hsc, hE⟩ := hS.rep
      rw [← HL.out] at hB hown hsc
      have hobl := hB.lt
      have hrl := hr.lt
      have hne : w.heap.size + 1 ≠ ob := by omega
      obtain ⟨x0, x1, x2, x3⟩ := hB.cells
      obtain ⟨y0, y1, y2, y3⟩ := hB.frozens
      obtain ⟨p0, p1, p2, p3⟩ := hr.cells
      obtain ⟨q0, q1, q2, q3⟩ := hr.frozens
      have hneo : w.heap.size + 1 ≠ ob := by omega
      have hE' : RepE (fun b => (O b ∧ b < w.heap.size) ∨ b = w.heap.size + 1 ∨ b = ob) wc 4 (ts.map Tm.dat) sa 0 := by
        refine RepE.weaken (fun b _ e => ?_) _ _ _ _ hE
        rcases e with e | e | e
        · exact .inl e
        · exact .inr ⟨by omega, fun e2 => by have := (hown b (by rw [HL.out]; exact e2)).1; omega⟩
        · exact .inr ⟨by omega, fun e2 => (hown b (by rw [HL.out]; exact e2)).2 e⟩
      have hOwn : wc.ownsRow w.heap.size 29 4 (.slice sa len sc) len css.flatten := by
        have := hS.2.2.1
        rw [← HL.out] at this
        exact this
      have HOwn := hid hOwn
      have HSd := hid hS
      have HWt := hid hwt0
      clear t0 t1 t2 t3 hA HN r3 hU hr2 ht2 hU2 hwb hE hOwn hS hwt0
      have hway : (¬ (0 : Int) < (len : Int)) ∨ (0 : Int) < (len : Int) := by omega
      rcases hway with hl0 | hl0
      case' inr =>
        go_wp2_with fail
        refine (HC _ 3 (by omega) (by omega) _).mono ?_
        rintro e wd ⟨⟨c1, hc1, rfl⟩, rfl⟩
        have hway2 : (0 : Int) < (c1 : Int) ∨ (c1 = 0) := by omega
        rcases hway2 with hc0 | rfl
      case' isTrue.inl =>
        go_wp2_with fail
        refine (HC _ (len : Int) (by omega) (by omega) _).mono ?_
        rintro e wd ⟨⟨j, hj, rfl⟩, rfl⟩
        have hjl : j < ts.length := by rw [← HL.out]; omega
        obtain ⟨sa', sc', hv', _, hrow⟩ := HSd.out.cells
        have hcl := HSd.out.1
        simp only [Value.slice.injEq] at hv'
        obtain ⟨rfl, _, rfl⟩ := hv'
        obtain ⟨g, rfl, hgown, hgb, hglt, hgf, hgc⟩ := hrow j hjl (by omega)
        have hRj := HSd.out.2.2.2 j hjl (by omega)
        obtain ⟨kj, nj, ij, lj, aj, cj, htj, hcsj, _, _⟩ := tm_open hRj
        rw [hcsj] at hgc hRj
        have g0 := hgc 0 _ rfl
        rw [Nat.add_zero] at g0
        have g1 := hgc 1 _ rfl
        have g2 := hgc 2 _ rfl
        have g3 := hgc 3 _ rfl
        have hgo := hown g rfl
        have IH := fun n by' w' (hh : Rep (fun b => O b ∨ w.heap.size ≤ b) w' (ts[j]'hjl).dat [.int .i64 kj, .string (B nj), .int .i64 ij, .slice aj lj.length cj]) => ih (ts[j]'hjl) (List.getElem_mem hjl) (by have := Tm.wt_le_wts (List.getElem_mem hjl); have := HW.out; omega) (fun b => O b ∨ w.heap.size ≤ b) n by' w' [.int .i64 kj, .string (B nj), .int .i64 ij, .slice aj lj.length cj] hh
        have hj0 : (0 : Int) ≤ (j : Int) := by omega
        have hjL : (j : Int) < (len : Int) := hj
        have HJ := hid (And.intro hrow (And.intro hcl (And.intro htj hgown)))
        clear hrow hcl htj hgc hgown hcsj
        generalize lj.length = ljl at *
        go_wp2_with fail
        go_region_law ((rw [if_pos (by rfl)]); go_simp; (go_at_call 33); refine (IH _ _ _ (hRj.on (Upto.refl none' wc).drew)).mono ?_; rintro e w5 ⟨k5, i5, n5, a5, l5, c5, t5, rfl, hR5, hw5, hU5⟩; have hU5' : Upto none' wc w5 := ((Upto.refl none' wc).drew).and hU5; have hB5 := hB.kept hU5'; have hr5 := hr.kept hU5'; obtain ⟨z0, z1, z2, z3⟩ := hB5.cells; have v0 := hU5'.cell g0 (fun x => x); have v1 := hU5'.cell g1 (fun x => x); have v2 := hU5'.cell g2 (fun x => x); have v3 := hU5'.cell g3 (fun x => x); have f5 := fun o => (hU5'.cells0.2 g o hglt).trans (hgf o); obtain ⟨m0, m1, m2, m3⟩ := hr5.cells; obtain ⟨b0, b1, b2, b3⟩ := hr5.frozens; have hs5 := hU5'.size)
        all_goals
          go_wp2_with fail
          have hglt5 : g < w5.heap.size := by omega
          obtain ⟨hE6, hU6⟩ := row_set (Oe := fun b => (O b ∨ w.heap.size ≤ b) ∧ b < wc.drew.heap.size) (Of := fun b => (O b ∧ b < w.heap.size) ∨ b = w.heap.size + 1) (W := w5) (W' := ((((w5.setCell ⟨g, j * 4, none⟩ (.int .i64 k5)).setCell ⟨g, j * 4 + 1, none⟩ (.string (B n5))).setCell ⟨g, j * 4 + 2, none⟩ (.int .i64 i5)).setCell ⟨g, j * 4 + 3, none⟩ (.slice a5 l5 c5))) (css := css) (t5 := t5) HJ.out.2.1 hjl hglt5
            (fun x hx hx' => by
              obtain ⟨g', eg, hgo', _, _, _, hc'⟩ := HJ.out.1 x hx hx'
              obtain rfl : g = g' := by cases eg; rfl
              exact ⟨fun m u hu => hU5'.cell (hc' m u hu) (fun z => z), HSd.out.2.1 _ (List.getElem_mem hx'), Rep.weaken (fun b _ e => e.1) _ _ ((HSd.out.2.2.2 x hx hx').on hU5')⟩)
            hR5 ⟨.inr (by omega), hglt⟩ (fun b _ e => by
              have hwc : wc.drew.heap.size = wc.heap.size := rfl
              rcases e with e | e
              · exact ⟨.inl e.1, by omega⟩
              · exact ⟨.inr (by omega), by omega⟩) (fun e => by omega) rfl
          obtain ⟨w9, hw9⟩ : ∃ w9, w9 = ((((((((w5.setCell ⟨g, j * 4, none⟩ (.int .i64 k5)).setCell ⟨g, j * 4 + 1, none⟩ (.string (B n5))).setCell ⟨g, j * 4 + 2, none⟩ (.int .i64 i5)).setCell ⟨g, j * 4 + 3, none⟩ (.slice a5 l5 c5)).setCell ⟨w.heap.size + 1, 0, none⟩ (.int .i64 k)).setCell ⟨w.heap.size + 1, 1, none⟩ (.string (B nm))).setCell ⟨w.heap.size + 1, 2, none⟩ (.int .i64 i)).setCell ⟨w.heap.size + 1, 3, none⟩ (.slice (some ⟨g, 0, none⟩) len sc)) := ⟨_, rfl⟩
          have hrx : Box4 ((((w5.setCell ⟨g, j * 4, none⟩ (.int .i64 k5)).setCell ⟨g, j * 4 + 1, none⟩ (.string (B n5))).setCell ⟨g, j * 4 + 2, none⟩ (.int .i64 i5)).setCell ⟨g, j * 4 + 3, none⟩ (.slice a5 l5 c5)) (w.heap.size + 1) (.int .i64 0) (.string (B [])) (.int .i64 0) (.slice none 0 0) 29 := hr5.keep hU6 (by omega)
          have hset := hrx.set (d0 := .int .i64 k) (d1 := .string (B nm)) (d2 := .int .i64 i) (d3 := .slice (some ⟨g, 0, none⟩) len sc)
          have hset9 := hset
          rw [← hw9] at hset9
          rw [← hw9]
          clear hw9 hset
          obtain ⟨e0, e1, e2, e3⟩ := hset9.1.cells
          refine bodyPost_ret (v := .agg #[.int .i64 k, .string (B nm), .int .i64 i, .slice (some ⟨g, 0, none⟩) len sc]) ?_ rfl ?_
          · simp [results, Tryz.f33, go_sem, e0, e1, e2, e3]
          · exact spoil_fin (ts := ts.set j t5) (by simp [← HL.out]) hsc (hE6) hset9 (by omega) ((hUw.and hU5').trans hU6 (fun i hi e => by omega)) (by have := wts_set ts j hjl t5 hw5; simp only [Tm.wt_mk]; omega)
      all_goals
        go_wp2_with fail
        refine (HC _ 9 (by omega) (by omega) _).mono ?_
        rintro e wd ⟨⟨c, hc, rfl⟩, rfl⟩
        obtain rfl | rfl | rfl | rfl | rfl | rfl | rfl | rfl | rfl : c = 0 ∨ c = 1 ∨ c = 2 ∨ c = 3 ∨ c = 4 ∨ c = 5 ∨ c = 6 ∨ c = 7 ∨ c = 8 := by omega
        · go_wp2_with fail
          refine (HC _ 8 (by omega) (by omega) _).mono ?_
          rintro e wd ⟨⟨c2, hc2, rfl⟩, rfl⟩
          have c20 : (0 : Int) ≤ (c2 : Int) := by omega
          go_wp2_with fail
          obtain ⟨wb, hwb⟩ : ∃ wb, wb = wc := ⟨_, rfl⟩
          have hBb := hB; have hrb := hr; have hEb := hE'; have hUb := hUw
          rw [← hwb] at hBb hrb hEb hUb
          subst hwb
          obtain ⟨w9, hw9⟩ : ∃ w9, w9 = ((((wb.setCell ⟨ob, 0, none⟩ (.int .i64 c2)).setCell ⟨w.heap.size + 1, 0, none⟩ (.int .i64 c2)).setCell ⟨w.heap.size + 1, 1, none⟩ (.string (B nm))).setCell ⟨w.heap.size + 1, 2, none⟩ (.int .i64 i)).setCell ⟨w.heap.size + 1, 3, none⟩ (.slice sa len sc) := ⟨_, rfl⟩
          have hrx : Box4 (wb.setCell ⟨ob, 0, none⟩ (.int .i64 c2)) (w.heap.size + 1) (.int .i64 0) (.string (B [])) (.int .i64 0) (.slice none 0 0) 29 := hrb.other hneo _
          have hset9 := hrx.set (d0 := .int .i64 c2) (d1 := .string (B nm)) (d2 := .int .i64 i) (d3 := .slice sa len sc)
          rw [← hw9] at hset9
          rw [← hw9]
          clear hw9
          obtain ⟨e0, e1, e2, e3⟩ := hset9.1.cells
          refine bodyPost_ret (v := .agg #[.int .i64 c2, .string (B nm), .int .i64 i, .slice sa len sc]) ?_ rfl ?_
          · simp [results, Tryz.f33, go_sem, e0, e1, e2, e3]
          · exact spoil_fin (ts := ts) HL.out hsc (RepE.weaken (fun b _ x => x.elim .inl (fun y => .inr (.inl y))) _ _ _ _ (RepE.keep (Upto.set (Upto.refl _ wb) 0 _) (fun b e => .inr (.inr e)) _ _ _ _ hEb)) hset9 (by omega) (hUb.trans (Upto.set (Upto.refl _ wb) 0 _) (fun i hi e => by omega)) (by simp only [Tm.wt_mk]; omega)
        · go_wp2_with fail
          refine (HC _ 6 (by omega) (by omega) _).mono ?_
          rintro e wd ⟨⟨c2, hc2, rfl⟩, rfl⟩
          have c20 : (0 : Int) ≤ (c2 : Int) := by omega
          clear x0 x1 x2 x3 y0 y1 y2 y3 p0 p1 p2 p3 q0 q1 q2 q3
          obtain ⟨wb, hwb⟩ : ∃ wb, wb = wc.alloc (Obj.cells #[.int .i64 (-1), .int .i64 1, .int .i64 1048576, .int .i64 1048577, .int .i64 2048, .int .i64 0] 3) := ⟨_, rfl⟩
          have hUa : Upto none' wc wb := by rw [hwb]; exact (Upto.refl none' wc).alloc _
          have hBb := hB.kept hUa
          have hrb := hr.kept hUa
          have hEb := hE'.on hUa
          have hUb := hUw.and hUa
          obtain ⟨x0, x1, x2, x3⟩ := hBb.cells
          obtain ⟨y0, y1, y2, y3⟩ := hBb.frozens
          obtain ⟨p0, p1, p2, p3⟩ := hrb.cells
          obtain ⟨q0, q1, q2, q3⟩ := hrb.frozens
          have hobb := hBb.lt
          obtain ⟨ix, hix⟩ : ∃ ix : Int, wb.cell? ⟨wc.heap.size, c2, none⟩ = some (.int .i64 ix) := by rw [hwb]; exact ixs_at (heap_alloc_new wc _) c2 hc2
          rw [← hwb]
          clear hwb
          go_wp2_with fail
          obtain ⟨w9, hw9⟩ : ∃ w9, w9 = ((((wb.setCell ⟨ob, 2, none⟩ (.int .i64 ix)).setCell ⟨w.heap.size + 1, 0, none⟩ (.int .i64 k)).setCell ⟨w.heap.size + 1, 1, none⟩ (.string (B nm))).setCell ⟨w.heap.size + 1, 2, none⟩ (.int .i64 ix)).setCell ⟨w.heap.size + 1, 3, none⟩ (.slice sa len sc) := ⟨_, rfl⟩
          have hrx : Box4 (wb.setCell ⟨ob, 2, none⟩ (.int .i64 ix)) (w.heap.size + 1) (.int .i64 0) (.string (B [])) (.int .i64 0) (.slice none 0 0) 29 := hrb.other hneo _
          have hset9 := hrx.set (d0 := .int .i64 k) (d1 := .string (B nm)) (d2 := .int .i64 ix) (d3 := .slice sa len sc)
          rw [← hw9] at hset9
          rw [← hw9]
          clear hw9
          obtain ⟨e0, e1, e2, e3⟩ := hset9.1.cells
          refine bodyPost_ret (v := .agg #[.int .i64 k, .string (B nm), .int .i64 ix, .slice sa len sc]) ?_ rfl ?_
          · simp [results, Tryz.f33, go_sem, e0, e1, e2, e3]
          · exact spoil_fin (ts := ts) HL.out hsc (RepE.weaken (fun b _ x => x.elim .inl (fun y => .inr (.inl y))) _ _ _ _ (RepE.keep (Upto.set (Upto.refl _ wb) 2 _) (fun b e => .inr (.inr e)) _ _ _ _ hEb)) hset9 (by omega) (hUb.trans (Upto.set (Upto.refl _ wb) 2 _) (fun i hi e => by omega)) (by simp only [Tm.wt_mk]; omega)
        · go_wp2_with fail
          refine (HC _ 7 (by omega) (by omega) _).mono ?_
          rintro e wd ⟨⟨c2, hc2, rfl⟩, rfl⟩
          have c20 : (0 : Int) ≤ (c2 : Int) := by omega
          clear x0 x1 x2 x3 y0 y1 y2 y3 p0 p1 p2 p3 q0 q1 q2 q3
          obtain ⟨wb, hwb⟩ : ∃ wb, wb = wc.alloc (Obj.cells #[.string (B []), .string (B [95]), .string (B [122]), .string (B [116, 121, 112, 101]), .string (B [64, 99]), .string (B [97, 32, 98]), .string (B [45, 62])] 9) := ⟨_, rfl⟩
          have hUa : Upto none' wc wb := by rw [hwb]; exact (Upto.refl none' wc).alloc _
          have hBb := hB.kept hUa
          have hrb := hr.kept hUa
          have hEb := hE'.on hUa
          have hUb := hUw.and hUa
          obtain ⟨x0, x1, x2, x3⟩ := hBb.cells
          obtain ⟨y0, y1, y2, y3⟩ := hBb.frozens
          obtain ⟨p0, p1, p2, p3⟩ := hrb.cells
          obtain ⟨q0, q1, q2, q3⟩ := hrb.frozens
          have hobb := hBb.lt
          obtain ⟨nm2, hix, hnl⟩ : ∃ nm2 : List UInt8, wb.cell? ⟨wc.heap.size, c2, none⟩ = some (.string (B nm2)) ∧ nm2.length ≤ 6 := by rw [hwb]; exact badNames_at (heap_alloc_new wc _) c2 hc2
          rw [← hwb]
          clear hwb
          go_wp2_with fail
          obtain ⟨w9, hw9⟩ : ∃ w9, w9 = ((((wb.setCell ⟨ob, 1, none⟩ (.string (B nm2))).setCell ⟨w.heap.size + 1, 0, none⟩ (.int .i64 k)).setCell ⟨w.heap.size + 1, 1, none⟩ (.string (B nm2))).setCell ⟨w.heap.size + 1, 2, none⟩ (.int .i64 i)).setCell ⟨w.heap.size + 1, 3, none⟩ (.slice sa len sc) := ⟨_, rfl⟩
          have hrx : Box4 (wb.setCell ⟨ob, 1, none⟩ (.string (B nm2))) (w.heap.size + 1) (.int .i64 0) (.string (B [])) (.int .i64 0) (.slice none 0 0) 29 := hrb.other hneo _
          have hset9 := hrx.set (d0 := .int .i64 k) (d1 := .string (B nm2)) (d2 := .int .i64 i) (d3 := .slice sa len sc)
          rw [← hw9] at hset9
          rw [← hw9]
          clear hw9
          obtain ⟨e0, e1, e2, e3⟩ := hset9.1.cells
          refine bodyPost_ret (v := .agg #[.int .i64 k, .string (B nm2), .int .i64 i, .slice sa len sc]) ?_ rfl ?_
          · simp [results, Tryz.f33, go_sem, e0, e1, e2, e3]
          · exact spoil_fin (ts := ts) HL.out hsc (RepE.weaken (fun b _ x => x.elim .inl (fun y => .inr (.inl y))) _ _ _ _ (RepE.keep (Upto.set (Upto.refl _ wb) 1 _) (fun b e => .inr (.inr e)) _ _ _ _ hEb)) hset9 (by omega) (hUb.trans (Upto.set (Upto.refl _ wb) 1 _) (fun i hi e => by omega)) (by simp only [Tm.wt_mk]; omega)
        · have hal := (Upto.refl none' wc).alloc (.cells #[.int .i64 4, .string (B [122]), .int .i64 0, .slice none 0 0] 29)
          have hOwna := World.ownsRow.alloc HOwn.out (.cells #[.int .i64 4, .string (B [122]), .int .i64 0, .slice none 0 0] 29)
          have hBa := hB.kept hal
          have hra := hr.kept hal
          have hwcl := hUw.size
          go_wp2_with (at_builtin; refine wpList_append_lies _ (by rfl) _ _ 27 (by rfl) w.heap.size 29 i0 (.agg #[.int .i64 0, .string (B []), .int .i64 0, .slice none 0 0]) 4 56 (by kernel_rfl) hi hi0 hi1 hi2 rfl (by omega) (.slice sa len sc) len css.flatten (by rfl) hOwna ⟨wc.heap.size, 0, none⟩ 1 1 [.int .i64 4, .string (B [122]), .int .i64 0, .slice none 0 0] (by rfl) rfl (World.news_of_block (heap_alloc_new wc _)) (by simp [Value.oneCell']) (by omega) (by simp only [maxLen]; omega) (by omega) (by simp; omega) (wc.heap.size + 1) (by simp) ?_; intro g cap' w7 hown7 hgrow hat hlt7; have hB7 : Box4 w7 ob (.int .i64 k) (.string (B nm)) (.int .i64 i) (.slice sa len sc) 29 := (hgrow.block ob hBa.lt (fun e => (hown ob e.symm).2 rfl)).trans hBa; have hr7 : Box4 w7 (w.heap.size + 1) (.int .i64 0) (.string (B [])) (.int .i64 0) (.slice none 0 0) 29 := (hgrow.block _ hra.lt (fun e => by have := (hown _ e.symm).1; omega)).trans hra; obtain ⟨c70, c71, c72, c73⟩ := hB7.cells; obtain ⟨d70, d71, d72, d73⟩ := hB7.frozens; obtain ⟨e70, e71, e72, e73⟩ := hr7.cells; obtain ⟨f70, f71, f72, f73⟩ := hr7.frozens)
          have hS7 := (HSd.out.on hal).leaf (k := 4) (i := 0) (n := [122]) (g := g) (cap := cap') (by rw [← HL.out]; exact hown7) (by rw [← HL.out]; exact hgrow)
          obtain ⟨a8, c8, hv8, hcap8, hE8⟩ := hS7.rep
          simp only [Value.slice.injEq] at hv8
          obtain ⟨rfl, _, rfl⟩ := hv8
          have hgo : w2.heap.size ≤ g ∧ g ≠ ob := by
            rcases hat with h | h
            · exact hown g h
            · rw [h]; omega
          have hE7 : RepE (fun b => (O b ∧ b < w.heap.size) ∨ b = w.heap.size + 1 ∨ b = ob) w7 4 ((ts ++ [Tm.mk 4 [122] 0 []]).map Tm.dat) (some ⟨g, 0, none⟩) 0 := by
            refine RepE.weaken (fun b _ e => ?_) _ _ _ _ hE8
            rcases e with e | e | e
            · exact .inl e
            · exact .inr ⟨by omega, fun e2 => by simp only [Value.ownBlock, Option.some.injEq] at e2; omega⟩
            · exact .inr ⟨by omega, fun e2 => by simp only [Value.ownBlock, Option.some.injEq] at e2; omega⟩
          have hU7 : Upto none' w w7 := (hUw.and hal).trans (grown_own hgrow) (fun i hi e => by have := (hown i e).1; omega)
          have hwt7 : Tm.wts (ts ++ [Tm.mk 4 [122] 0 []]) = Tm.wts ts + 2 := by rw [Tm.wts_append]; simp [Tm.wts]
          obtain ⟨w9, hw9⟩ : ∃ w9, w9 = ((((w7.setCell ⟨ob, 3, none⟩ (.slice (some ⟨g, 0, none⟩) (len + 1) cap')).setCell ⟨w.heap.size + 1, 0, none⟩ (.int .i64 k)).setCell ⟨w.heap.size + 1, 1, none⟩ (.string (B nm))).setCell ⟨w.heap.size + 1, 2, none⟩ (.int .i64 i)).setCell ⟨w.heap.size + 1, 3, none⟩ (.slice (some ⟨g, 0, none⟩) (len + 1) cap') := ⟨_, rfl⟩
          have hrx : Box4 (w7.setCell ⟨ob, 3, none⟩ (.slice (some ⟨g, 0, none⟩) (len + 1) cap')) (w.heap.size + 1) (.int .i64 0) (.string (B [])) (.int .i64 0) (.slice none 0 0) 29 := hr7.other hneo _
          have hset9 := hrx.set (d0 := .int .i64 k) (d1 := .string (B nm)) (d2 := .int .i64 i) (d3 := .slice (some ⟨g, 0, none⟩) (len + 1) cap')
          rw [← hw9] at hset9
          rw [← hw9]
          clear hw9
          obtain ⟨e0, e1, e2, e3⟩ := hset9.1.cells
          refine bodyPost_ret (v := .agg #[.int .i64 k, .string (B nm), .int .i64 i, .slice (some ⟨g, 0, none⟩) (len + 1) cap']) ?_ rfl ?_
          · simp [results, Tryz.f33, go_sem, e0, e1, e2, e3]
          · exact spoil_fin (ts := ts ++ [Tm.mk 4 [122] 0 []]) (by simp [← HL.out]) (by rw [HL.out]; simpa using hcap8) (RepE.weaken (fun b _ x => x.elim .inl (fun y => .inr (.inl y))) _ _ _ _ (RepE.keep (Upto.set (Upto.refl _ w7) 3 _) (fun b e => .inr (.inr e)) _ _ _ _ hE7)) hset9 (by omega) (hU7.trans (Upto.set (Upto.refl _ w7) 3 _) (fun i hi e => by omega)) (by simp only [Tm.wt_mk]; omega)
        · by_cases h4 : 0 < len
          · first
              | (exfalso; omega)
              | (have hsc4 : (0 : Int) ≤ (len : Int) - 1 := by omega
                 have hsc5 : (len : Int) - 1 ≤ (sc : Int) := by omega
                 go_wp2_with fail
                 obtain ⟨w9, hw9⟩ : ∃ w9, w9 = (((((wc.setCell ⟨ob, 3, none⟩ (.slice sa (len - 1) sc)).setCell ⟨w.heap.size + 1, 0, none⟩ (.int .i64 k)).setCell ⟨w.heap.size + 1, 1, none⟩ (.string (B nm))).setCell ⟨w.heap.size + 1, 2, none⟩ (.int .i64 i)).setCell ⟨w.heap.size + 1, 3, none⟩ (.slice sa (len - 1) sc)) := ⟨_, rfl⟩
                 have hrx : Box4 (wc.setCell ⟨ob, 3, none⟩ (.slice sa (len - 1) sc)) (w.heap.size + 1) (.int .i64 0) (.string (B [])) (.int .i64 0) (.slice none 0 0) 29 := hr.other hneo _
                 have hset := hrx.set (d0 := .int .i64 k) (d1 := .string (B nm)) (d2 := .int .i64 i) (d3 := .slice sa (len - 1) sc)
                 have hset9 := hset
                 rw [← hw9] at hset9
                 rw [← hw9]
                 clear hw9 hset
                 obtain ⟨e0, e1, e2, e3⟩ := hset9.1.cells
                 refine bodyPost_ret (v := .agg #[.int .i64 k, .string (B nm), .int .i64 i, .slice sa (len - 1) sc]) ?_ rfl ?_
                 · simp [results, Tryz.f33, go_sem, e0, e1, e2, e3]
                 · exact spoil_fin (ts := ts.take (len - 1)) (by simp [← HL.out]) (by omega) (RepE.weaken (fun b _ x => x.elim .inl (fun y => .inr (.inl y))) _ _ _ _ (RepE.keep (Upto.set (Upto.refl _ wc) 3 _) (fun b e => .inr (.inr e)) _ _ _ _ (repE_init (len - 1) hE'))) hset9 (by omega) (hUw.trans (Upto.set (Upto.refl _ wc) 3 _) (fun i hi e => by omega)) (by have := wts_take ts (len - 1); simp only [Tm.wt_mk]; omega))
          · first
              | (exfalso; omega)
              | (go_wp2_with fail
                 obtain ⟨w9, hw9⟩ : ∃ w9, w9 = ((((wc.setCell ⟨w.heap.size + 1, 0, none⟩ (.int .i64 k)).setCell ⟨w.heap.size + 1, 1, none⟩ (.string (B nm))).setCell ⟨w.heap.size + 1, 2, none⟩ (.int .i64 i)).setCell ⟨w.heap.size + 1, 3, none⟩ (.slice sa len sc)) := ⟨_, rfl⟩
                 have hrx : Box4 wc (w.heap.size + 1) (.int .i64 0) (.string (B [])) (.int .i64 0) (.slice none 0 0) 29 := hr
                 have hset := hrx.set (d0 := .int .i64 k) (d1 := .string (B nm)) (d2 := .int .i64 i) (d3 := .slice sa len sc)
                 have hset9 := hset
                 rw [← hw9] at hset9
                 rw [← hw9]
                 clear hw9 hset
                 obtain ⟨e0, e1, e2, e3⟩ := hset9.1.cells
                 refine bodyPost_ret (v := .agg #[.int .i64 k, .string (B nm), .int .i64 i, .slice sa len sc]) ?_ rfl ?_
                 · simp [results, Tryz.f33, go_sem, e0, e1, e2, e3]
                 · exact spoil_fin (ts := ts) HL.out hsc (RepE.weaken (fun b _ x => x.elim .inl (fun y => .inr (.inl y))) _ _ _ _ hE') hset9 (by omega) (hUw) (by simp only [Tm.wt_mk]; omega))
        · go_wp2_with fail
          have hR0 : Rep (fun b => (O b ∧ b < w.heap.size) ∨ b = w.heap.size + 1 ∨ b = ob) wc (Tm.mk k nm i ts).dat [.int .i64 k, .string (B nm), .int .i64 i, .slice sa len sc] := rep_tm.2 ⟨sa, sc, by rw [← HL.out], by rw [← HL.out]; exact hsc, hE'⟩
          obtain ⟨w9, hw9⟩ : ∃ w9, w9 = ((((((((wc.setCell ⟨ob, 0, none⟩ (.int .i64 3)).setCell ⟨ob, 1, none⟩ (.string (B []))).setCell ⟨ob, 2, none⟩ (.int .i64 0)).setCell ⟨ob, 3, none⟩ (.slice (some ⟨wc.heap.size, 0, none⟩) 1 1)).setCell ⟨w.heap.size + 1, 0, none⟩ (.int .i64 3)).setCell ⟨w.heap.size + 1, 1, none⟩ (.string (B []))).setCell ⟨w.heap.size + 1, 2, none⟩ (.int .i64 0)).setCell ⟨w.heap.size + 1, 3, none⟩ (.slice (some ⟨wc.heap.size, 0, none⟩) 1 1)).alloc (.cells #[.int .i64 k, .string (B nm), .int .i64 i, .slice sa len sc] 29) := ⟨_, rfl⟩
          have s1 := hB.set (d0 := .int .i64 3) (d1 := .string (B [])) (d2 := .int .i64 0) (d3 := .slice (some ⟨wc.heap.size, 0, none⟩) 1 1)
          have s2 := (hr.keep s1.2 hneo).set (d0 := .int .i64 3) (d1 := .string (B [])) (d2 := .int .i64 0) (d3 := .slice (some ⟨wc.heap.size, 0, none⟩) 1 1)
          have hU9 : Upto none' w w9 := by rw [hw9]; exact ((hUw.trans s1.2 (fun i hi e => by omega)).trans s2.2 (fun i hi e => by omega)).alloc _
          have hr9 : Box4 w9 (w.heap.size + 1) (.int .i64 3) (.string (B [])) (.int .i64 0) (.slice (some ⟨wc.heap.size, 0, none⟩) 1 1) 29 := by rw [hw9]; exact s2.1.kept ((Upto.refl none' _).alloc _)
          have hR9 : Rep (fun b => (O b ∧ b < w.heap.size) ∨ b = w.heap.size + 1 ∨ b = ob) w9 (Tm.mk k nm i ts).dat [.int .i64 k, .string (B nm), .int .i64 i, .slice sa len sc] := by rw [hw9]; exact (Rep.keep s2.2 (fun b e => .inr (.inl e)) _ _ (Rep.keep s1.2 (fun b e => .inr (.inr e)) _ _ hR0)).on ((Upto.refl none' _).alloc _)
          have hn9 : Box4 w9 wc.heap.size (.int .i64 k) (.string (B nm)) (.int .i64 i) (.slice sa len sc) 29 := by rw [hw9]; exact Box4.at_new (by simp)
          rw [← hw9]
          clear hw9
          obtain ⟨e0, e1, e2, e3⟩ := hr9.cells
          have hwl := hUw.size
          refine bodyPost_ret (v := .agg #[.int .i64 3, .string (B []), .int .i64 0, .slice (some ⟨wc.heap.size, 0, none⟩) 1 1]) ?_ rfl ?_
          · simp [results, Tryz.f33, go_sem, e0, e1, e2, e3]
          · exact ⟨3, 0, [], _, 1, 1, .mk 3 [] 0 [.mk k nm i ts], rfl, rep_one (Rep.weaken (fun b _ x => .inl x) _ _ hR9) (fun x => by omega) hn9 3 [] 0, by simp [Tm.wts] <;> omega, hU9⟩
        · go_wp2_with fail
          obtain ⟨wb, hwb⟩ : ∃ wb, wb = wc := ⟨_, rfl⟩
          have hBb := hB; have hrb := hr; have hEb := hE'; have hUb := hUw
          rw [← hwb] at hBb hrb hEb hUb
          subst hwb
          have sb := hBb.set (d0 := .int .i64 1) (d1 := .string (B [])) (d2 := .int .i64 0) (d3 := .slice none 0 0)
          obtain ⟨w9, hw9⟩ : ∃ w9, w9 = (((((((wb.setCell ⟨ob, 0, none⟩ (.int .i64 1)).setCell ⟨ob, 1, none⟩ (.string (B []))).setCell ⟨ob, 2, none⟩ (.int .i64 0)).setCell ⟨ob, 3, none⟩ (.slice none 0 0)).setCell ⟨w.heap.size + 1, 0, none⟩ (.int .i64 1)).setCell ⟨w.heap.size + 1, 1, none⟩ (.string (B []))).setCell ⟨w.heap.size + 1, 2, none⟩ (.int .i64 0)).setCell ⟨w.heap.size + 1, 3, none⟩ (.slice none 0 0) := ⟨_, rfl⟩
          have hrx : Box4 ((((wb.setCell ⟨ob, 0, none⟩ (.int .i64 1)).setCell ⟨ob, 1, none⟩ (.string (B []))).setCell ⟨ob, 2, none⟩ (.int .i64 0)).setCell ⟨ob, 3, none⟩ (.slice none 0 0)) (w.heap.size + 1) (.int .i64 0) (.string (B [])) (.int .i64 0) (.slice none 0 0) 29 := (hrb.keep sb.2 hneo)
          have hset9 := hrx.set (d0 := .int .i64 1) (d1 := .string (B [])) (d2 := .int .i64 0) (d3 := .slice none 0 0)
          rw [← hw9] at hset9
          rw [← hw9]
          clear hw9
          obtain ⟨e0, e1, e2, e3⟩ := hset9.1.cells
          refine bodyPost_ret (v := .agg #[.int .i64 1, .string (B []), .int .i64 0, .slice none 0 0]) ?_ rfl ?_
          · simp [results, Tryz.f33, go_sem, e0, e1, e2, e3]
          · exact spoil_fin (ts := []) rfl (Nat.le_refl _) (by simp only [List.map_nil, RepE]) hset9 (by omega) (hUb.trans sb.2 (fun i hi e => by omega)) (by simp [Tm.wts] <;> omega)
        · go_wp2_with fail
          go_region_law ((rw [if_pos (by rfl)]); go_simp; (go_at_call 18); refine (HC _ 3 (by omega) (by omega) _).mono ?_; rintro e wd ⟨⟨c2, hc2, rfl⟩, rfl⟩)
          all_goals
            go_wp2_with fail
            obtain ⟨w9, hw9⟩ : ∃ w9, w9 = (((((wc.setCell ⟨ob, 2, none⟩ (.int .i64 (wrap64 (i + (1 + (c2 : Int)))))).setCell ⟨w.heap.size + 1, 0, none⟩ (.int .i64 k)).setCell ⟨w.heap.size + 1, 1, none⟩ (.string (B nm))).setCell ⟨w.heap.size + 1, 2, none⟩ (.int .i64 (wrap64 (i + (1 + (c2 : Int)))))).setCell ⟨w.heap.size + 1, 3, none⟩ (.slice sa len sc)).drew := ⟨_, rfl⟩
            have hrx : Box4 (wc.setCell ⟨ob, 2, none⟩ (.int .i64 (wrap64 (i + (1 + (c2 : Int)))))) (w.heap.size + 1) (.int .i64 0) (.string (B [])) (.int .i64 0) (.slice none 0 0) 29 := hr.other hneo _
            have hset := hrx.set (d0 := .int .i64 k) (d1 := .string (B nm)) (d2 := .int .i64 (wrap64 (i + (1 + (c2 : Int))))) (d3 := .slice sa len sc)
            have hset9 : Box4 (((((wc.setCell ⟨ob, 2, none⟩ (.int .i64 (wrap64 (i + (1 + (c2 : Int)))))).setCell ⟨w.heap.size + 1, 0, none⟩ (.int .i64 k)).setCell ⟨w.heap.size + 1, 1, none⟩ (.string (B nm))).setCell ⟨w.heap.size + 1, 2, none⟩ (.int .i64 (wrap64 (i + (1 + (c2 : Int)))))).setCell ⟨w.heap.size + 1, 3, none⟩ (.slice sa len sc)).drew (w.heap.size + 1) (.int .i64 k) (.string (B nm)) (.int .i64 (wrap64 (i + (1 + (c2 : Int))))) (.slice sa len sc) 29 ∧ Upto (fun x => x = w.heap.size + 1) (wc.setCell ⟨ob, 2, none⟩ (.int .i64 (wrap64 (i + (1 + (c2 : Int)))))) (((((wc.setCell ⟨ob, 2, none⟩ (.int .i64 (wrap64 (i + (1 + (c2 : Int)))))).setCell ⟨w.heap.size + 1, 0, none⟩ (.int .i64 k)).setCell ⟨w.heap.size + 1, 1, none⟩ (.string (B nm))).setCell ⟨w.heap.size + 1, 2, none⟩ (.int .i64 (wrap64 (i + (1 + (c2 : Int)))))).setCell ⟨w.heap.size + 1, 3, none⟩ (.slice sa len sc)).drew := ⟨hset.1, hset.2.drew⟩
            rw [← hw9] at hset9
            rw [← hw9]
            clear hw9 hset
            obtain ⟨e0, e1, e2, e3⟩ := hset9.1.cells
            refine bodyPost_ret (v := .agg #[.int .i64 k, .string (B nm), .int .i64 (wrap64 (i + (1 + (c2 : Int)))), .slice sa len sc]) ?_ rfl ?_
            · simp [results, Tryz.f33, go_sem, e0, e1, e2, e3]
            · exact spoil_fin (ts := ts) HL.out hsc (RepE.weaken (fun b _ x => x.elim .inl (fun y => .inr (.inl y))) _ _ _ _ (RepE.keep (Upto.set (Upto.refl _ wc) 2 _) (fun b e => .inr (.inr e)) _ _ _ _ hE')) hset9 (by omega) (hUw.trans (Upto.set (Upto.refl _ wc) 2 _) (fun i hi e => by omega)) (by simp only [Tm.wt_mk]; omega)
        · go_wp2_with fail
          refine (HC _ 3 (by omega) (by omega) _).mono ?_
          rintro e wd ⟨⟨c2, hc2, rfl⟩, rfl⟩
          have c20 : (0 : Int) ≤ (c2 : Int) := by omega
          clear x0 x1 x2 x3 y0 y1 y2 y3 p0 p1 p2 p3 q0 q1 q2 q3
          obtain ⟨wb, hwb⟩ : ∃ wb, wb = wc.alloc (Obj.cells #[.string (B [122]), .string (B [110, 97, 116]), .string (B [110, 111, 98, 111, 100, 121])] 9) := ⟨_, rfl⟩
          have hUa : Upto none' wc wb := by rw [hwb]; exact (Upto.refl none' wc).alloc _
          have hBb := hB.kept hUa
          have hrb := hr.kept hUa
          have hEb := hE'.on hUa
          have hUb := hUw.and hUa
          obtain ⟨x0, x1, x2, x3⟩ := hBb.cells
          obtain ⟨y0, y1, y2, y3⟩ := hBb.frozens
          obtain ⟨p0, p1, p2, p3⟩ := hrb.cells
          obtain ⟨q0, q1, q2, q3⟩ := hrb.frozens
          have hobb := hBb.lt
          obtain ⟨nm2, hix, hnl⟩ : ∃ nm2 : List UInt8, wb.cell? ⟨wc.heap.size, c2, none⟩ = some (.string (B nm2)) ∧ nm2.length ≤ 6 := by rw [hwb]; exact newNames_at (heap_alloc_new wc _) c2 hc2
          rw [← hwb]
          clear hwb
          go_wp2_with fail
          have sb := hBb.set (d0 := .int .i64 4) (d1 := .string (B nm2)) (d2 := .int .i64 0) (d3 := .slice none 0 0)
          obtain ⟨w9, hw9⟩ : ∃ w9, w9 = (((((((wb.setCell ⟨ob, 0, none⟩ (.int .i64 4)).setCell ⟨ob, 1, none⟩ (.string (B nm2))).setCell ⟨ob, 2, none⟩ (.int .i64 0)).setCell ⟨ob, 3, none⟩ (.slice none 0 0)).setCell ⟨w.heap.size + 1, 0, none⟩ (.int .i64 4)).setCell ⟨w.heap.size + 1, 1, none⟩ (.string (B nm2))).setCell ⟨w.heap.size + 1, 2, none⟩ (.int .i64 0)).setCell ⟨w.heap.size + 1, 3, none⟩ (.slice none 0 0) := ⟨_, rfl⟩
          have hrx : Box4 ((((wb.setCell ⟨ob, 0, none⟩ (.int .i64 4)).setCell ⟨ob, 1, none⟩ (.string (B nm2))).setCell ⟨ob, 2, none⟩ (.int .i64 0)).setCell ⟨ob, 3, none⟩ (.slice none 0 0)) (w.heap.size + 1) (.int .i64 0) (.string (B [])) (.int .i64 0) (.slice none 0 0) 29 := (hrb.keep sb.2 hneo)
          have hset9 := hrx.set (d0 := .int .i64 4) (d1 := .string (B nm2)) (d2 := .int .i64 0) (d3 := .slice none 0 0)
          rw [← hw9] at hset9
          rw [← hw9]
          clear hw9
          obtain ⟨e0, e1, e2, e3⟩ := hset9.1.cells
          refine bodyPost_ret (v := .agg #[.int .i64 4, .string (B nm2), .int .i64 0, .slice none 0 0]) ?_ rfl ?_
          · simp [results, Tryz.f33, go_sem, e0, e1, e2, e3]
          · exact spoil_fin (ts := []) rfl (Nat.le_refl _) (by simp only [List.map_nil, RepE]) hset9 (by omega) (hUb.trans sb.2 (fun i hi e => by omega)) (by simp [Tm.wts] <;> omega)
end Go.Proofs.YtdomloghcpfdjaaGreatDoor
namespace Go.Proofs.YtdomloghcpfdjaaGreatDoor
open Go.RowKit Go.LF
/-- What the walk needs of a world: the variable t. -/
abbrev TvS (W : World) (b : Nat) (k1 : Int) (n1 : List UInt8) (i1 : Int) (a1 : Option Addr) (len1 cap1 : Nat) (w' : World) : Prop :=
  (w'.cell? ⟨b, 0, none⟩ = some (.int .i64 k1) ∧ w'.cell? ⟨b, 1, none⟩ = some (.string (B n1)) ∧ w'.cell? ⟨b, 2, none⟩ = some (.int .i64 i1) ∧ w'.cell? ⟨b, 3, none⟩ = some (.slice a1 len1 cap1)) ∧ Upto none' W w'
theorem TvS.on {W w' w1 : World} {b : Nat} {k1 : Int} {n1 : List UInt8} {i1 : Int} {a1 : Option Addr} {len1 cap1 : Nat} (h : TvS W b k1 n1 i1 a1 len1 cap1 w') (hU : Upto none' w' w1) : TvS W b k1 n1 i1 a1 len1 cap1 w1 := ⟨box_on hU h.1, h.2.and hU⟩
theorem TvS.up {W w' : World} {b : Nat} {k1 : Int} {n1 : List UInt8} {i1 : Int} {a1 : Option Addr} {len1 cap1 : Nat} (h : TvS W b k1 n1 i1 a1 len1 cap1 w') : Upto none' W w' := h.2
end Go.Proofs.YtdomloghcpfdjaaGreatDoor
