/- meta.reaches. -/
import Derived.Test.YtdomloghcpfdjaaGreatDoorRFA
import Derived.Test.YtdomloghcpfdjaaGreatDoorRFB
import Derived.Test.YtdomloghcpfdjaaGreatDoorRSC
namespace Go.Proofs.YtdomloghcpfdjaaGreatDoor
open Go.RowKit Go.LF
/-- A store in which one can look for what is reached. -/
structure StR (l : List Mv) : Prop where
  ok : StOk l
  val : ∀ m ∈ l, m.value.length ≤ 100
  nx : ∀ m ∈ l, (nextV m).length ≤ 10000
theorem StR.rng {l : List Mv} (_ : StR l) : ∀ m ∈ l, ∀ x ∈ nextV m, 0 ≤ x ∧ x ≤ 100000 := by
  intro m _ x hx
  have key : ∀ t : Tm, x ∈ Tm.metas t → 0 ≤ x ∧ x ≤ 100000 := fun t h => by have := metas_ge x h; omega
  rcases List.mem_append.1 hx with h | h
  · exact key _ h
  · obtain ⟨v, _, h⟩ := List.mem_flatMap.1 h
    exact key _ h
theorem succV_at13 {l : List Mv} {k x : Int} (h : x ∈ succV l k) : ∃ m ∈ l, succV l k = nextV m := by
  unfold succV at h ⊢
  split at h
  · rename_i hk
    rw [if_pos hk]
    split at h
    · rename_i m hm
      exact ⟨m, List.mem_of_getElem? hm, rfl⟩
    · cases h
  · cases h
theorem succV_rng13 {l : List Mv} (hl : StR l) {k x : Int} (h : x ∈ succV l k) : 0 ≤ x ∧ x ≤ 100000 := by
  obtain ⟨m, hm, e⟩ := succV_at13 h
  exact hl.rng m hm x (e ▸ h)
theorem succV_len13 {l : List Mv} (hl : StR l) (k : Int) : (succV l k).length ≤ 10000 := by
  cases hs : succV l k with
  | nil => simp
  | cons x xs =>
    obtain ⟨m, hm, e⟩ := succV_at13 (l := l) (k := k) (x := x) (by rw [hs]; simp)
    rw [← hs, e]
    exact hl.nx m hm
theorem visit13_any (l : List Mv) (hl : StR l) (tg : Int) (la : Option Addr) (lc : Nat) (fb sb lb tb vb M : Nat) (n : Nat) : ∀ (ks : List Int) (f : Bool) (i : Int) (W : World), 0 ≤ i → i ≤ 100000 → unseen l ks ≤ n → (f = true ↔ tg ∈ ks) → VisW fb sb lb tb vb M la l.length lc tg ks f W → RepE (fun b => b = fb ∨ b = M) W 6 (l.map Mv.dat) la 0 →
    Calls Tryz.prog 170 #[.int .i64 i, .pointer (some ⟨fb, 0, none⟩), .pointer (some ⟨sb, 0, none⟩), .pointer (some ⟨lb, 0, none⟩), .pointer (some ⟨tb, 0, none⟩), .pointer (some ⟨vb, 0, none⟩)] W fun e W' => e = .returned (.tuple #[]) ∧ VisC l tg [i] fb sb lb tb vb M la lc ks f W W' := by
  induction n with
  | zero => exact fun ks f i W h0 h1 hn hf hW hL => visit13_step l hl.ok hl.val hl.rng (fun m hm => Nat.le_trans (hl.nx m hm) (by decide)) tg la lc fb sb lb tb vb M 0 (fun n' e => by omega) ks f i W h0 h1 hn hf hW hL
  | succ n ih => exact fun ks f i W h0 h1 hn hf hW hL => visit13_step l hl.ok hl.val hl.rng (fun m hm => Nat.le_trans (hl.nx m hm) (by decide)) tg la lc fb sb lb tb vb M (n + 1) (fun n' e => by obtain rfl : n = n' := (by omega); exact ih) ks f i W h0 h1 hn hf hW hL
set_option maxRecDepth 100000 in
set_option maxHeartbeats 8000000 in
theorem reaches_any (l : List Mv) (hl : StR l) (is : List Int) (his : ∀ x ∈ is, 0 ≤ x ∧ x ≤ 100000) (hil : is.length ≤ 100000000) (tg : Int) (w : World) (la : Option Addr) (lc : Nat) (ia : Option Addr) (ic : Nat) (hL : RepE none' w 6 (l.map Mv.dat) la 0) (hI : RepE none' w 1 (is.map (Dat.int .i64)) ia 0) :
    Calls Tryz.prog 92 #[.slice la l.length lc, .slice ia is.length ic, .int .i64 tg] w fun e w' => e = .returned (.bool (reachB l is tg)) ∧ Upto none' w w' := by
  have hmm := @run_makeMap Tryz.prog
  obtain ⟨H, hH⟩ : ∃ H, H = w.heap.size := ⟨_, rfl⟩
  obtain ⟨w6, hw6⟩ : ∃ w6, w6 = (((((w.alloc (.cells #[.slice la l.length lc] 44)).alloc (.cells #[.int .i64 tg] 3)).alloc (.map #[] 0)).alloc (.cells #[.map (some (H + 1 + 1))] 170)).alloc (.cells #[.bool false] 4)).alloc (.cells #[visV (H + 1 + 1 + 1 + 1) (H + 1 + 1 + 1) H (H + 1) (H + 1 + 1 + 1 + 1 + 1)] 171) := ⟨_, rfl⟩
  have hV6 : VisW (H + 1 + 1 + 1 + 1) (H + 1 + 1 + 1) H (H + 1) (H + 1 + 1 + 1 + 1 + 1) (H + 1 + 1) la l.length lc tg [] false w6 := by
    have al : ∀ (W : World) (o : Obj), Upto none' W (W.alloc o) := fun W o => (Upto.refl none' W).alloc o
    rw [hw6]
    refine ⟨?_, ?_, ?_, ?_, ?_, ?_, ⟨by omega, by omega, by omega, by omega, by omega⟩, by omega, by omega, by omega, by omega⟩
    · exact (Box1.at_new (by simp [hH])).kept (al _ _)
    · exact ((Box1.at_new (by simp [hH])).kept (al _ _)).kept (al _ _)
    · exact (((((Box1.at_new hH.symm).kept (al _ _)).kept (al _ _)).kept (al _ _)).kept (al _ _)).kept (al _ _)
    · exact ((((Box1.at_new (by simp [hH])).kept (al _ _)).kept (al _ _)).kept (al _ _)).kept (al _ _)
    · exact Box1.at_new (by simp [hH])
    · have h := Seen.made ((w.alloc (.cells #[.slice la l.length lc] 44)).alloc (.cells #[.int .i64 tg] 3))
      rw [show ((w.alloc (.cells #[.slice la l.length lc] 44)).alloc (.cells #[.int .i64 tg] 3)).heap.size = H + 1 + 1 by simp [hH]] at h
      exact ((h.on (al _ _) (fun x => x)).on (al _ _) (fun x => x)).on (al _ _) (fun x => x)
  have hU6 : Upto none' w w6 := by rw [hw6]; exact ((((((Upto.refl none' w).alloc _).alloc _).alloc _).alloc _).alloc _).alloc _
  have hL6 : RepE (fun b => b = H + 1 + 1 + 1 + 1 ∨ b = H + 1 + 1) w6 6 (l.map Mv.dat) la 0 := (RepE.weaken (fun b _ e => .inr (by omega)) _ _ _ _ (RepE.fresh' _ _ _ _ hL)).on hU6
  have hI6 : RepE (fun b => b = H + 1 + 1 + 1 + 1 ∨ b = H + 1 + 1) w6 1 (is.map (Dat.int .i64)) ia 0 := (RepE.weaken (fun b _ e => .inr (by omega)) _ _ _ _ (RepE.fresh' _ _ _ _ hI)).on hU6
  have HW := hid hw6
  have HH := hid hH
  obtain ⟨ll, hll⟩ : ∃ ll, ll = l.length := ⟨_, rfl⟩
  obtain ⟨il, hil'⟩ : ∃ il, il = is.length := ⟨_, rfl⟩
  rw [← hll] at HW
  rw [← hll, ← hil']
  rw [← hil'] at hil
  have HLL := hid (And.intro hll hil')
  have hcall : ∀ args w, Sem.run Tryz.prog (callFunc 170 args) w = .ok (Next.enter 170 args) w := fun _ _ => by simp only [go_sem, Tryz.call170]
  have hH6 : H < w6.heap.size := hV6.st.lt
  clear hw6 hH hL hI hll hil'
  go_enter Tryz.func92, Tryz.ntmps92
  go_upto_region 5 with fail
  rw [← HH.out, ← HW.out]
  clear hmm
  go_wp2_with fail
  go_loopw [16] (fun v16 wr => ∃ (j : Nat) (ks' : List Int) (f' : Bool), v16 = .int .i64 (j : Int) ∧ j ≤ il ∧ Vis l tg (is.take j) [] ks' false f' ∧ VisW (H + 1 + 1 + 1 + 1) (H + 1 + 1 + 1) H (H + 1) (H + 1 + 1 + 1 + 1 + 1) (H + 1 + 1) la l.length lc tg ks' f' wr ∧ Upto (fun b => b = H + 1 + 1 + 1 + 1 ∨ b = H + 1 + 1) w6 wr)
    (fun v16 _ => il - (intOf v16).toNat)
  case atStart => exact ⟨0, [], false, rfl, Nat.zero_le _, Vis.nil (by simp), hV6, Upto.refl _ _⟩
  case round =>
    obtain ⟨j, ks', f', rfl, hj, hvis, hVr, hUr⟩ := hrel
    by_cases hlt : j < il
    · have hjl : j < is.length := by have := HLL.out.2; omega
      obtain ⟨b, o, rfl, hb, _, hcj⟩ := int_cell (RepE.keep hUr (fun b e => e) _ _ _ _ hI6) j hjl
      have htk : is.take (j + 1) = is.take j ++ [is[j]] := List.take_succ_eq_append_getElem hjl
      obtain ⟨x0, x1⟩ := his _ (List.getElem_mem hjl)
      generalize is[j] = x at *
      have IHx := visit13_any l hl tg la lc (H + 1 + 1 + 1 + 1) (H + 1 + 1 + 1) H (H + 1) (H + 1 + 1 + 1 + 1 + 1) (H + 1 + 1) _ ks' f' x wr x0 x1 (Nat.le_refl _) hvis.found hVr (RepE.keep hUr (fun b e => e) _ _ _ _ hL6)
      have HT := hid htk
      have HVS := hid hvis
      have k5 := hVr.vis.cell
      have hjb : (j : Int) < (il : Int) := by omega
      have hjm : (j : Int) ≤ 100000000 := by omega
      clear htk hjl hVr hvis hV6
      go_wp2_with fail
      (with_reducible refine IHx.mono ?_)
      rintro e w7 ⟨rfl, ks2, f2, hvis2, hV7, hU7⟩
      have HV2 := hid hvis2
      clear hvis2 k5 hcj
      go_wp2_with fail
      go_roundw
      case rel => exact ⟨j + 1, ks2, f2, by go_num, by omega, by rw [HT.out]; exact HVS.out.trans HV2.out, hV7, hUr.trans hU7 (fun _ _ e => e)⟩
      case measure => simp [intOf]; omega
    · have hje : is.take j = is := List.take_of_length_le (by have := HLL.out.2; omega)
      rw [hje] at hvis
      have hfin : f' = reachB l is tg := by
        unfold reachB
        classical
        rw [Bool.eq_iff_iff, hvis.says, decide_eq_true_eq]
      have HR := hid (And.intro hfin (hU6.trans hUr (fun b hb e => by have := HH.out; omega)))
      have k1 := hVr.fnd.cell
      clear hvis hVr hUr hfin
      go_wp2_with fail
      go_ret
      exact ⟨congrArg (fun b => Ending.returned (.bool b)) HR.out.1, HR.out.2⟩
end Go.Proofs.YtdomloghcpfdjaaGreatDoor
namespace Go.Proofs.YtdomloghcpfdjaaGreatDoor
open Go.RowKit Go.LF
/-- A metavariable of a row of one's own gets a value. -/
theorem RowD.solved {O : Nat → Prop} {base : Nat} {W : World} {g cap : Nat} {l : List Mv} {css : List (List Value)} (h : RowD 53 6 O base W (.slice (some ⟨g, 0, none⟩) l.length cap) (l.map Mv.dat) css) {i : Nat} (hi : i < l.length) {m : Tm} {a : Option Addr} {ac : Nat} (ha : 1 ≤ ac)
    (hR : RepE (fun b => b = g) W 4 ([m].map Tm.dat) a 0) : RepE none' (W.setCell ⟨g, i * 6 + 5, none⟩ (.slice a 1 ac)) 6 ((l.set i ⟨l[i].name, l[i].type, [m]⟩).map Mv.dat) (some ⟨g, 0, none⟩) 0 := by
  have ne : ∀ x y : Nat, x ≠ y → (⟨g, x, none⟩ : Addr) ≠ ⟨g, y, none⟩ := fun x y h e => h (by cases e; rfl)
  have other : ∀ (V : World) (x y : Nat) (v : Value), x ≠ y → (V.setCell ⟨g, x, none⟩ v).cell? ⟨g, y, none⟩ = V.cell? ⟨g, y, none⟩ := fun V x y v h => World.cell?_setCell_other _ _ _ _ (ne x y h)
  have hset : Upto (fun b => b = g) W (W.setCell ⟨g, i * 6 + 5, none⟩ (.slice a 1 ac)) := Upto.set (Upto.refl _ _) _ _
  obtain ⟨sa, sc, hv, _, hc⟩ := h.cells
  have hlen := h.1
  rw [List.length_map] at hlen
  refine repE_of _ _ _ (fun k hk => ?_)
  have hk' : k < l.length := by simpa using hk
  obtain ⟨g', hg1, hown, hb, hlt, _, hg⟩ := hc k (by simpa using hk') (by omega)
  have hRk := h.2.2.2 k (by simpa using hk') (by omega)
  simp only [List.getElem_map] at hRk
  simp only [Value.ownBlock, Option.some.injEq] at hown
  obtain rfl := hown
  have hRk : Rep (fun b => b = g) W l[k].dat css[k] := Rep.weaken (fun b _ e => .inr (by simp [Value.ownBlock, e])) _ _ hRk
  by_cases e : k = i
  · subst e
    obtain ⟨kk, n, ix, aa, ac2, va, vc, hcs, h6, h7, h8⟩ := mv_open hRk
    rw [hcs] at hg
    refine ⟨g, 0, [.string (B l[k].name), .int .i64 kk, .string (B n), .int .i64 ix, .slice aa l[k].type.args.length ac2, .slice a 1 ac], rfl, Nat.lt_of_lt_of_le hlt hset.size, fun x => x, rfl, fun m' u hu => ?_, ?_⟩
    · rw [show 0 + 0 + k * 6 + m' = k * 6 + m' by omega]
      match m', hu with
      | 0, hu => rw [other _ _ _ _ (by omega)]; exact hg 0 u hu
      | 1, hu => rw [other _ _ _ _ (by omega)]; exact hg 1 u hu
      | 2, hu => rw [other _ _ _ _ (by omega)]; exact hg 2 u hu
      | 3, hu => rw [other _ _ _ _ (by omega)]; exact hg 3 u hu
      | 4, hu => rw [other _ _ _ _ (by omega)]; exact hg 4 u hu
      | 5, hu => cases hu; exact World.cell?_setCell_same _ _ _ (hg 5 _ rfl)
      | m' + 6, hu => simp at hu
    · simp only [List.getElem_map, List.getElem_set_self]
      refine rep_mv.2 ⟨[.int .i64 kk, .string (B n), .int .i64 ix, .slice aa l[k].type.args.length ac2], a, ac, rfl, Rep.weaken (fun _ _ x => x.elim) _ _ (Rep.keep hset (fun b e => e) _ _ h6), by simpa using ha, RepE.weaken (fun _ _ x => x.elim) _ _ _ _ (RepE.keep hset (fun b e => e) _ _ _ _ hR)⟩
  · refine ⟨g, 0, css[k], rfl, Nat.lt_of_lt_of_le hlt hset.size, fun x => x, h.2.1 _ (List.getElem_mem _), fun m' u hu => ?_, ?_⟩
    · rw [show 0 + 0 + k * 6 + m' = k * 6 + m' by omega, other _ _ _ _ ?_]
      · exact hg m' u hu
      · have hl6 := h.2.1 _ (List.getElem_mem (show k < css.length by omega))
        have : m' < 6 := by rw [← hl6]; exact (List.getElem?_eq_some_iff.1 hu).1
        omega
    · simp only [List.getElem_map, List.getElem_set_ne (Ne.symm e)]
      exact Rep.weaken (fun _ _ x => x.elim) _ _ (Rep.keep hset (fun b e => e) _ _ hRk)
/-- A store and an error. -/
def GivesV (L : List Mv) (e' : Int) (w : World) (e : Ending) (w' : World) : Prop :=
  ∃ (a : Option Addr) (cap : Nat), e = .returned (.tuple #[.slice a L.length cap, .int .i64 e']) ∧ L.length ≤ cap ∧ RepE none' w' 6 (L.map Mv.dat) a 0 ∧ Upto none' w w'
set_option maxRecDepth 100000 in
set_option maxHeartbeats 8000000 in
theorem solve13_any (l : List Mv) (hl : StR l) (i : Int) (m : Tm) (hmw : m.wt ≤ 300000) (w : World) (la : Option Addr) (lc : Nat) (cs : List Value) (hL : RepE none' w 6 (l.map Mv.dat) la 0) (h : Rep none' w m.dat cs) :
    Calls Tryz.prog 46 #[.slice la l.length lc, .int .i64 i, .agg cs.toArray] w (GivesV (solveS l i m) (solveE l i m) w) := by
  obtain ⟨k, nm, ix, ts, aa, cap, ht, rfl, _, _⟩ := tm_open h
  generalize ts.length = len at *
  obtain ⟨w1, hw1⟩ : ∃ w1, w1 = w.alloc (.cells #[.int .i64 k, .string (B nm), .int .i64 ix, .slice aa len cap] 29) := ⟨_, rfl⟩
  have hU1 : Upto none' w w1 := by rw [hw1]; exact (Upto.refl none' w).alloc _
  have ha1 : Box4 w1 w.heap.size (.int .i64 k) (.string (B nm)) (.int .i64 ix) (.slice aa len cap) 29 := by rw [hw1]; exact Box4.at_new rfl
  have hR1 := h.on hU1
  have hL1 := hL.on hU1
  have has := Tm.size_le_wt m
  have DS := dupStore_any l (by have := hl.ok.len; omega) hl.ok.dup w1 la lc hL1
  have VA := fun (W : World) (hu : Upto none' w1 W) => value13_any m l.length (by omega) W _ (hR1.on hu)
  have MT := fun (W : World) (hu : Upto none' w1 W) => metas_any m (by omega) W _ (hR1.on hu)
  have RE := fun (W : World) (hu : Upto none' w1 W) ia ic hI => reaches_any l hl (Tm.metas m) (fun x hx => by have := metas_ge x hx; omega) (by have := metas_len13 m; omega) i W la lc ia ic (hL1.on hu) hI
  have DT := fun (W : World) (hu : Upto none' w1 W) => dupTerm_any m (by omega) W _ (hR1.on hu)
  have HW := hid hw1
  obtain ⟨H, hH⟩ : ∃ H, H = w.heap.size := ⟨_, rfl⟩
  have HH := hid hH
  rw [← hH] at ha1
  obtain ⟨E, hE⟩ : ∃ E : Int, E = solveE l i m := ⟨_, rfl⟩
  obtain ⟨L2, hL2⟩ : ∃ L2, L2 = solveS l i m := ⟨_, rfl⟩
  rw [← hE, ← hL2]
  unfold solveS at hL2
  rw [← hE] at hL2
  unfold solveE at hE
  obtain ⟨vE, hvE⟩ : ∃ vE, vE = valueE m l.length := ⟨_, rfl⟩
  rw [← hvE] at hE VA
  obtain ⟨rB, hrB⟩ : ∃ rB, rB = reachB l (Tm.metas m) i := ⟨_, rfl⟩
  rw [← hrB] at hE RE
  have hmln : (Tm.metas m).length ≤ 300000 := by have := metas_len13 m; omega
  obtain ⟨ms, hms⟩ : ∃ ms, ms = Tm.metas m := ⟨_, rfl⟩
  rw [← hms] at MT RE hmln
  obtain ⟨ll, hll⟩ : ∃ ll, ll = l.length := ⟨_, rfl⟩
  rw [← hll] at DS VA RE hE
  rw [← hll]
  have hl2 : (ll : Int) ≤ 2048 := by have := hl.ok.len; omega
  have HL := hid (And.intro hll (And.intro hL2 hE))
  clear hw1 hH hE hL2 h ht hL hvE hrB hms hR1 hll
  obtain ⟨t0, t1, t2, t3⟩ := ha1.cells
  go_enter Tryz.func46, Tryz.ntmps46
  go_upto_region 1 with fail
  rw [← HW.out, ← HH.out]
  go_wp2_with fail
  (with_reducible refine DS.mono ?_)
  rintro e w2 ⟨v, css, rfl, hRD, hU2⟩
  have ha2 := ha1.kept hU2
  have VA2 := VA w2 hU2
  clear t0 t1 t2 t3 DS VA
  obtain ⟨t0, t1, t2, t3⟩ := ha2.cells
  have hRD0 : RowD 53 6 (fun b => b < w1.heap.size) w1.heap.size w2 v (l.map Mv.dat) css := hRD
  obtain ⟨va, vc, rfl, hvc, hEv⟩ := hRD.rep (fun b e => e)
  rw [List.length_map] at hvc
  rw [List.length_map, ← HL.out.1] at hRD0
  rw [List.length_map, ← HL.out.1]
  have hEv' : RepE none' w2 6 (l.map Mv.dat) va 0 := RepE.weaken (fun _ _ x => x.elim) _ _ _ _ hEv
  have HRD := hid hRD0
  clear hRD hRD0 hEv
  by_cases hin : 0 ≤ i ∧ i < (ll : Int)
  case neg =>
    have hE3 : E = 3 := by rw [HL.out.2.2, if_pos hin]
    have HF := hid (show L2 = l by rw [HL.out.2.1, if_pos (by rw [hE3]; decide)])
    subst hE3
    by_cases h0 : i < 0
    · go_wp2_with fail
      refine bodyPost_ret (v := .tuple #[.slice va ll vc, .int .i64 3]) (by simp [results, Tryz.f46, go_sem]) rfl ⟨va, vc, by rw [HF.out, HL.out.1], by rw [HF.out]; exact hvc, by rw [HF.out]; exact hEv', hU1.and hU2⟩
    · have h1 : ¬ i < 0 := h0
      have h2 : (ll : Int) ≤ i := by omega
      go_wp2_with fail
      refine bodyPost_ret (v := .tuple #[.slice va ll vc, .int .i64 3]) (by simp [results, Tryz.f46, go_sem]) rfl ⟨va, vc, by rw [HF.out, HL.out.1], by rw [HF.out]; exact hvc, by rw [HF.out]; exact hEv', hU1.and hU2⟩
  case pos =>
    obtain ⟨i0, i1⟩ := hin
    obtain ⟨p, rfl⟩ : ∃ p : Nat, i = (p : Int) := ⟨i.toNat, by omega⟩
    have hpl : p < l.length := by have := HL.out.1; omega
    have hE4 : E = if l[p].value ≠ [] then 53 else if vE ≠ 0 then vE else if rB = true then 51 else 0 := by
      rw [HL.out.2.2, if_neg (by simp only [Classical.not_not]; exact ⟨i0, i1⟩)]
      simp only [Int.toNat_natCast, List.getElem?_eq_getElem hpl]
    obtain ⟨b, o, k1, n1, i1', a1, cap1, va1, vc1, rfl, hb, _, ⟨c0, c1, c2, c3, c4, c5⟩, hRt, hvc1, hV1⟩ := arg_mv (hL1.on hU2) p hpl
    obtain ⟨vl, hvl⟩ : ∃ vl, vl = l[p].value.length := ⟨_, rfl⟩
    rw [← hvl] at c5
    have hvv : l[p].value ≠ [] ↔ 0 < vl := by
      rw [hvl]; cases l[p].value <;> simp
    have hp0 : (0 : Int) ≤ (p : Int) := by omega
    have hpm : (p : Int) ≤ 2048 := by omega
    generalize l[p].type.args.length = al at *
    clear hRt hV1 hvc1 hvl
    have HE4 := hid hE4
    clear hE4
    by_cases h53 : 0 < vl
    · have hE5 : E = 53 := by rw [HE4.out, if_pos (hvv.2 h53)]
      have HF := hid (show L2 = l by rw [HL.out.2.1, if_pos (by rw [hE5]; decide)])
      subst hE5
      have h53' : (0 : Int) < (vl : Int) := by omega
      clear hvv
      go_wp2_with fail
      refine bodyPost_ret (v := .tuple #[.slice va ll vc, .int .i64 53]) (by simp [results, Tryz.f46, go_sem]) rfl ⟨va, vc, by rw [HF.out, HL.out.1], by rw [HF.out]; exact hvc, by rw [HF.out]; exact hEv', hU1.and hU2⟩
    · obtain rfl : vl = 0 := by omega
      have hE5 : E = if vE ≠ 0 then vE else if rB = true then 51 else 0 := by rw [HE4.out, if_neg (fun e => by have := hvv.1 e; omega)]
      have HE5 := hid hE5
      clear hE5 HE4 hvv h53
      go_wp2_with fail
      (with_reducible refine VA2.mono ?_)
      rintro e w3 ⟨rfl, hU3⟩
      have hU23 := hU2.and hU3
      have ha3 := ha1.kept hU23
      have hE3 := hEv'.on hU3
      have MT3 := MT w3 hU23
      clear t0 t1 t2 t3 c0 c1 c2 c3 c4 c5 VA2 MT
      obtain ⟨t0, t1, t2, t3⟩ := ha3.cells
      by_cases hz : vE = 0
      case neg =>
        have hE6 : E = vE := by rw [HE5.out, if_pos hz]
        have HF := hid (show L2 = l by rw [HL.out.2.1, if_pos (by rw [hE6]; exact hz)])
        subst hE6
        have hz' : (E != 0) = true := by simpa using hz
        clear hz
        go_wp2_with fail
        refine bodyPost_ret (v := .tuple #[.slice va ll vc, .int .i64 E]) (by simp [results, Tryz.f46, go_sem]) rfl ⟨va, vc, by rw [HF.out, HL.out.1], by rw [HF.out]; exact hvc, by rw [HF.out]; exact hE3, hU1.and hU23⟩
      subst hz
      have hE6 : E = if rB = true then 51 else 0 := by rw [HE5.out, if_neg (by simp)]
      have HE6 := hid hE6
      clear hE6 HE5
      go_wp2_with fail
      (with_reducible refine MT3.mono ?_)
      rintro e w4 ⟨vm, rfl, hI, hU4⟩
      obtain ⟨ma, mc, rfl, hmc, hEm⟩ := ints_open hI.rep
      have hU14 := hU23.and hU4
      have RE4 := RE w4 hU14 ma mc (RepE.weaken (fun _ _ x => x.elim) _ _ _ _ hEm)
      have hE4 := hE3.on hU4
      clear hI hEm RE MT3 hmc
      go_wp2_with fail
      (with_reducible refine RE4.mono ?_)
      rintro e w5 ⟨rfl, hU5⟩
      have hU15 := hU14.and hU5
      have ha5 := ha1.kept hU15
      have hE5 := hE4.on hU5
      have DT5 := DT w5 hU15
      clear t0 t1 t2 t3 RE4 DT
      cases rB
      case true =>
        have hE7 : E = 51 := by rw [HE6.out, if_pos rfl]
        have HF := hid (show L2 = l by rw [HL.out.2.1, if_pos (by rw [hE7]; decide)])
        subst hE7
        go_wp2_with fail
        refine bodyPost_ret (v := .tuple #[.slice va ll vc, .int .i64 51]) (by simp [results, Tryz.f46, go_sem]) rfl ⟨va, vc, by rw [HF.out, HL.out.1], by rw [HF.out]; exact hvc, by rw [HF.out]; exact hE5, hU1.and hU15⟩
      case false =>
        have hE7 : E = 0 := by rw [HE6.out, if_neg (by simp)]
        have hL3 : L2 = l.set p ⟨l[p].name, l[p].type, [m]⟩ := by
          rw [HL.out.2.1, if_neg (by simp [hE7])]
          unfold setV
          simp only [Int.toNat_natCast, List.getElem?_eq_getElem hpl]
        subst hE7
        obtain ⟨t0, t1, t2, t3⟩ := ha5.cells
        have hcl : p < css.length := by have := HRD.out.1; rw [List.length_map] at this; omega
        have hpl2 : p < (l.map Mv.dat).length := by rw [List.length_map]; exact hpl
        obtain ⟨sa, sc, hv, _, hc⟩ := HRD.out.cells
        rw [List.length_map] at hv
        simp only [Value.slice.injEq] at hv
        obtain ⟨g, hg0, hown, hgb, hglt, hgf, hgc⟩ := hc p hpl2 hcl
        have hv1 := hv.1
        have hv2 := hv.2.2
        clear hv
        subst hv1 hv2
        subst hg0
        have hRp := HRD.out.2.2.2 p hpl2 hcl
        simp only [List.getElem_map] at hRp
        obtain ⟨kk, nn, ii, a9, c9, va9, vc9, hcs, _, _, _⟩ := mv_open hRp
        have hg5 := hgc 5 (.slice va9 l[p].value.length vc9) (by rw [hcs]; rfl)
        have hU25 := (hU3.and hU4).and hU5
        have g5 := hU25.cell hg5 (fun x => x)
        have gf := (hU25.cells0.2 g (p * 6 + 5) hglt).trans (hgf (p * 6 + 5))
        have gl := Nat.lt_of_lt_of_le hglt hU25.size
        have HG := hid (And.intro hL3 hgb)
        clear hL3 hcs hgc hg5 hgf hRp hc hown
        go_wp2_with fail
        (with_reducible refine DT5.mono ?_)
        rintro e w6 ⟨k6, i6, n6, a6, l6, c6, rfl, hR6, hU6⟩
        have G5 := hU6.cell g5 (fun x => x)
        have GF := (hU6.cells0.2 g (p * 6 + 5) gl).trans gf
        have GL := Nat.lt_of_lt_of_le gl hU6.size
        have hU26 := hU25.and hU6
        clear t0 t1 t2 t3 g5 gf gl DT5
        go_wp2_with fail
        obtain ⟨w7, hw7⟩ : ∃ w7, w7 = w6.alloc (.cells #[.int .i64 k6, .string (B n6), .int .i64 i6, .slice a6 l6 c6] 29) := ⟨_, rfl⟩
        have hU7 : Upto none' w6 w7 := by rw [hw7]; exact (Upto.refl none' _).alloc _
        have hB7 : Box4 w7 w6.heap.size (.int .i64 k6) (.string (B n6)) (.int .i64 i6) (.slice a6 l6 c6) 29 := by rw [hw7]; exact Box4.at_new rfl
        have hz67 := hU6.size
        have hD7 := (HRD.out.on (hU26.and hU7) (fun b e => e))
        have hrow : RepE (fun b => b = g) w7 4 ([m].map Tm.dat) (some ⟨w6.heap.size, 0, none⟩) 0 := by
          refine repE_of _ _ _ (fun j hj => ?_)
          obtain rfl : j = 0 := by simpa using hj
          obtain ⟨x0, x1, x2, x3⟩ := hB7.cells
          refine ⟨w6.heap.size, 0, [.int .i64 k6, .string (B n6), .int .i64 i6, .slice a6 l6 c6], rfl, hB7.lt, by omega, rfl, fun q u hu => ?_, by simpa using (Rep.weaken (fun b _ e => by have := Nat.lt_of_lt_of_le hglt hU25.size; omega) _ _ hR6).on hU7⟩
          match q, hu with
          | 0, hu => cases hu; exact x0
          | 1, hu => cases hu; exact x1
          | 2, hu => cases hu; exact x2
          | 3, hu => cases hu; exact x3
          | q + 4, hu => simp at hu
        rw [HL.out.1] at hD7
        have hfin := hD7.solved hpl (Nat.le_refl 1) hrow
        have hUf : Upto none' w (w7.setCell ⟨g, p * 6 + 5, none⟩ (.slice (some ⟨w6.heap.size, 0, none⟩) 1 1)) := (hU1.and ((hU2.and hU26).and hU7)).trans (S' := fun b => b = g) (Upto.set (Upto.refl _ _) _ _) (fun b hb e => by have := HG.out.2; have := hU1.size; omega)
        rw [hw7, World.setCell_alloc_past _ _ _ _ GL] at hfin hUf
        refine bodyPost_ret (v := .tuple #[.slice (some ⟨g, 0, none⟩) ll vc, .int .i64 0]) (by simp [results, Tryz.f46, go_sem]) rfl ⟨some ⟨g, 0, none⟩, vc, (by rw [HG.out.1, List.length_set]; exact congrArg (fun z => Ending.returned (.tuple #[.slice (some ⟨g, 0, none⟩) z vc, .int .i64 0])) HL.out.1), by rw [HG.out.1, List.length_set]; exact hvc, by rw [HG.out.1]; exact hfin, hUf⟩
end Go.Proofs.YtdomloghcpfdjaaGreatDoor
namespace Go.LF
open Tm Go.Proofs.YtdomloghcpfdjaaGreatDoor
theorem metas_size13 (t : Tm) : (Tm.metas t).length ≤ t.size := by
  unfold Tm.metas
  split
  · have := addMetas_len t []
    simp at this
    show (Tm.addMetas [] t).length ≤ _
    omega
  · simp
theorem Play.stOk {l : List Mv} (h : Play l) : StOk l := by
  refine ⟨by have := h.len; omega, fun m hm => ⟨?_, by have := (h.val m hm).1; omega, fun v hv => ?_⟩⟩
  · have := Tm.wf_wt65 (h.typ m hm); omega
  · have := Tm.wf_wt65 (h.vals m hm v hv); omega
theorem Play.stR {l : List Mv} (h : Play l) : StR l := by
  refine ⟨h.stOk, fun m hm => by have := (h.val m hm).1; omega, fun m hm => ?_⟩
  obtain ⟨h1, h2⟩ := h.ar m hm
  have h3 := (h.val m hm).1
  unfold nextV
  rw [List.length_append]
  have h4 := metas_size13 m.type
  have h5 : (m.value.flatMap Tm.metas).length ≤ 200 := by
    match hv : m.value, h3 with
    | [], _ => simp
    | [v], _ =>
      have h6 := metas_size13 v
      have h7 := h2 v (by rw [hv]; simp)
      simp only [List.flatMap_cons, List.flatMap_nil, List.append_nil]
      omega
  omega
end Go.LF
namespace Go.Proofs.YtdomloghcpfdjaaGreatDoor
open Go.RowKit Go.LF
theorem badA_drop (n : Nat) (l : List Mv) (j : Nat) (hj : j < l.length) : badA n j (l.drop j) = if mvE n j l[j] ≠ 0 then ((j : Int), mvE n j l[j]) else badA n (j + 1) (l.drop (j + 1)) := by
  rw [List.drop_eq_getElem_cons hj, badA]
theorem badC_step (l : List Mv) (j k : Nat) : badC l j (k + 1) = if reachB l (succV l (j : Int)) (j : Int) = true then ((j : Int), 51) else badC l (j + 1) k := by
  rw [badC]
  unfold reachB
  classical
  by_cases h : ∃ x ∈ succV l (j : Int), Rch l x (j : Int)
  · rw [if_pos h, if_pos (decide_eq_true h)]
  · rw [if_neg h, if_neg (by rw [decide_eq_false h]; simp)]
set_option maxRecDepth 100000 in
set_option maxHeartbeats 8000000 in
theorem valid13_any (l : List Mv) (hl : StR l) (hnm : ∀ m ∈ l, m.name.length ≤ 1000000) (w : World) (la : Option Addr) (lc : Nat) (hL : RepE none' w 6 (l.map Mv.dat) la 0) :
    Calls Tryz.prog 28 #[.slice la l.length lc] w fun e w' => e = .returned (.tuple #[.int .i64 (validR l).1, .int .i64 (validR l).2]) ∧ Upto none' w w' := by
  obtain ⟨V, hV⟩ : ∃ V, V = validR l := ⟨_, rfl⟩
  rw [← hV]
  unfold validR at hV
  have CK := fun (j : Nat) (hj : j < l.length) (W : World) (cs : List Value) (hcs : Rep none' W l[j].type.dat cs) => check13_any (j : Int) l[j].name l[j].type (hnm _ (List.getElem_mem hj)) (by have := (hl.ok.mv _ (List.getElem_mem hj)).1; omega) W cs hcs
  have VA := fun (m : Tm) (hm : m.wt ≤ 1000000) (W : World) (cs : List Value) (hcs : Rep none' W m.dat cs) => value13_any m (l.length : Int) hm W cs hcs
  have NX : ∀ (j : Nat), j < l.length → ∀ (W : World), RepE none' W 6 (l.map Mv.dat) la 0 → Calls Tryz.prog 93 #[.slice la l.length lc, .int .i64 (j : Int)] W fun e w' => ∃ v, e = .returned v ∧ Ints W.heap.size w' v (succV l (j : Int)) ∧ Upto none' W w' := by
    intro j hj W hL
    rw [succV_at hj]
    exact next13_any l hl.ok j hj W la lc hL (hl.val _ (List.getElem_mem hj))
  have RE := fun (j : Nat) (W : World) ia ic hL (hI : RepE none' W 1 ((succV l (j : Int)).map (Dat.int .i64)) ia 0) => reaches_any l hl (succV l (j : Int)) (fun x hx => succV_rng13 hl hx) (by have := succV_len13 hl (j : Int); omega) (j : Int) W la lc ia ic hL hI
  obtain ⟨ll, hll⟩ : ∃ ll, ll = l.length := ⟨_, rfl⟩
  have hl2 : (ll : Int) ≤ 2048 := by have := hl.ok.len; omega
  rw [← hll] at VA NX RE hV
  rw [← hll]
  have HL := hid (And.intro hll hV)
  have hcall := hid hL
  clear hll hV
  go_enter Tryz.func28, Tryz.ntmps28
  go_wp2_with fail
  go_loopw [10] (fun v10 wr => ∃ j : Nat, v10 = .int .i64 (j : Int) ∧ j ≤ ll ∧ badA ll 0 l = badA ll j (l.drop j) ∧ Upto none' w wr) (fun v10 _ => ll - (intOf v10).toNat)
  case atStart => exact ⟨0, rfl, Nat.zero_le _, rfl, Upto.refl _ _⟩
  case round =>
    obtain ⟨j, rfl, hj, hA, hU⟩ := hrel
    have HA := hid hA
    clear hA
    have hjm : (j : Int) ≤ 2048 := by omega
    by_cases hlt : j < ll
    · have hjl : j < l.length := by have := HL.out.1; omega
      have hAd := badA_drop ll l j hjl
      obtain ⟨b, o, k, n, i, aa, cap, va, vc, rfl, hb, _, ⟨x0, x1, x2, x3, x4, x5⟩, hR1, hv1, hV1⟩ := arg_mv (hL.on hU) j hjl
      obtain ⟨w2, hw2⟩ : ∃ w2, w2 = wr.alloc (.cells #[.string (B l[j].name), .int .i64 k, .string (B n), .int .i64 i, .slice aa l[j].type.args.length cap, .slice va l[j].value.length vc] 53) := ⟨_, rfl⟩
      have hUa : Upto none' wr w2 := by rw [hw2]; exact (Upto.refl none' _).alloc _
      have hB2 : Box6 w2 wr.heap.size (.string (B l[j].name)) (.int .i64 k) (.string (B n)) (.int .i64 i) (.slice aa l[j].type.args.length cap) (.slice va l[j].value.length vc) 53 := by rw [hw2]; exact Box6.at_new rfl
      have CKj := CK j hjl w2 _ (hR1.on hUa)
      have hVa := hV1.on hUa
      obtain ⟨m1, m2, m3⟩ := hl.ok.mv _ (List.getElem_mem hjl)
      obtain ⟨vs, hvs⟩ : ∃ vs, vs = l[j].value := ⟨_, rfl⟩
      obtain ⟨E1, hE1⟩ : ∃ E1, E1 = checkE (j : Int) l[j].name l[j].type := ⟨_, rfl⟩
      have hmE : mvE ll j l[j] = if E1 ≠ 0 then E1 else if 1 < vs.length then 7 else firstE (fun v => valueE v ll) vs := by rw [hE1, hvs]; rfl
      rw [hmE] at hAd
      have HAD := hid (show badA ll 0 l = _ from HA.out.trans hAd)
      rw [← hE1] at CKj
      rw [← hvs] at hB2 hVa m3 hw2 x5
      obtain ⟨vl, hvl⟩ : ∃ vl, vl = vs.length := ⟨_, rfl⟩
      rw [← hvl] at hB2 hw2 x5
      have HVL := hid hvl
      generalize l[j].type.args.length = al at *
      generalize l[j].name = nm at *
      obtain ⟨Q, hQ⟩ : ∃ Q, Q = wr.heap.size := ⟨_, rfl⟩
      rw [← hQ] at hB2
      have HQ := hid hQ
      have HW2 := hid hw2
      have hjb : (j : Int) < (ll : Int) := by omega
      obtain ⟨c0, c1, c2, c3, c4, c5⟩ := hB2.cells
      clear hR1 hV1 hv1 hAd hmE hE1 hvs hvl hw2 hQ m1 m2 HA
      go_upto_region 4 with fail
      rw [← HW2.out, ← HQ.out]
      go_wp2_with fail
      (with_reducible refine CKj.mono ?_)
      rintro e w3 ⟨rfl, hU3⟩
      have hU13 := hU.and (hUa.and hU3)
      have hV3 := hVa.on hU3
      clear c0 c1 c2 c3 c4 c5 CKj x0 x1 x2 x3 x4 x5
      obtain ⟨c0, c1, c2, c3, c4, c5⟩ := (hB2.kept hU3).cells
      by_cases hE : E1 = 0
      case neg =>
        have hE' : (E1 != 0) = true := by simpa using hE
        have hE'' : (E1 == 0) = false := by simpa using hE
        have HF := hid (show V = ((j : Int), E1) by
          have h := HAD.out
          rw [if_pos hE, if_pos hE] at h
          rw [HL.out.2, h, if_pos hE])
        clear hE
        go_wp2_with fail
        refine bodyPost_ret (v := .tuple #[.int .i64 (j : Int), .int .i64 E1]) (by simp [results, Tryz.f28, go_sem]) rfl ⟨by rw [HF.out], hU13⟩
      subst hE
      have HAD2 := hid (show badA ll 0 l = if (if 1 < vl then 7 else firstE (fun v => valueE v ll) vs) ≠ 0 then ((j : Int), (if 1 < vl then 7 else firstE (fun v => valueE v ll) vs)) else badA ll (j + 1) (l.drop (j + 1)) by rw [HAD.out, HVL.out]; rfl)
      clear HAD
      by_cases hv1 : 1 < vl
      · have HF := hid (show V = ((j : Int), 7) by
          have h := HAD2.out
          rw [if_pos hv1, if_pos (by decide)] at h
          rw [HL.out.2, h, if_pos (by simp)])
        have hv1' : (1 : Int) < (vl : Int) := by omega
        go_wp2_with fail
        refine bodyPost_ret (v := .tuple #[.int .i64 (j : Int), .int .i64 7]) (by simp [results, Tryz.f28, go_sem]) rfl ⟨by rw [HF.out], hU13⟩
      · have HAD3 := hid (show badA ll 0 l = if firstE (fun v => valueE v ll) vs ≠ 0 then ((j : Int), firstE (fun v => valueE v ll) vs) else badA ll (j + 1) (l.drop (j + 1)) by rw [HAD2.out, if_neg hv1])
        clear HAD2
        by_cases hv2 : vl = 1
        · subst hv2
          obtain ⟨v0, hv0⟩ : ∃ v0, vs = [v0] := by
            have := HVL.out
            match vs, this with
            | [v], _ => exact ⟨v, rfl⟩
          subst hv0
          obtain ⟨b1, p1, k1, n1, i1, s1, z1, rfl, hb1, _, y0, y1, y2, y3, hRv⟩ := arg_tm hV3 0 (by simp)
          simp only [Nat.zero_mul, Nat.add_zero, List.getElem_cons_zero] at y0 y1 y2 y3 hRv
          have VA3 := VA v0 (by have := m3 v0 (by simp); omega) w3 _ hRv
          obtain ⟨E2, hE2⟩ : ∃ E2, E2 = valueE v0 ll := ⟨_, rfl⟩
          rw [← hE2] at VA3
          have hf1 : firstE (fun v => valueE v ll) [v0] = E2 := by
            rw [hE2]
            by_cases h : valueE v0 ll = 0
            · rw [firstE_only _ v0 h, h]
            · unfold firstE; rw [if_pos h]
          have HAD4 := hid (show badA ll 0 l = if E2 ≠ 0 then ((j : Int), E2) else badA ll (j + 1) (l.drop (j + 1)) by rw [HAD3.out, hf1])
          generalize v0.args.length = ul at *
          clear HAD3 hf1 hE2 hv1 hRv
          go_wp2_with fail
          (with_reducible refine VA3.mono ?_)
          rintro e w4 ⟨rfl, hU4⟩
          have hU14 := hU13.and hU4
          by_cases hE : E2 = 0
          · subst hE
            have HF := hid (show badA ll 0 l = badA ll (j + 1) (l.drop (j + 1)) by rw [HAD4.out]; rfl)
            clear HAD4
            go_wp2_with fail
            go_roundw
            case rel => exact ⟨j + 1, by go_num, by omega, HF.out, hU14⟩
            case measure => simp [intOf]; omega
          · have hE' : (E2 != 0) = true := by simpa using hE
            have HF := hid (show V = ((j : Int), E2) by
              have h := HAD4.out
              rw [if_pos hE] at h
              rw [HL.out.2, h, if_pos hE])
            clear hE
            go_wp2_with fail
            refine bodyPost_ret (v := .tuple #[.int .i64 (j : Int), .int .i64 E2]) (by simp [results, Tryz.f28, go_sem]) rfl ⟨by rw [HF.out], hU14⟩
        · obtain rfl : vl = 0 := by omega
          obtain rfl : vs = [] := List.eq_nil_of_length_eq_zero HVL.out.symm
          have HF := hid (show badA ll 0 l = badA ll (j + 1) (l.drop (j + 1)) by rw [HAD3.out]; rfl)
          clear HAD3 hv1 hv2
          go_wp2_with fail
          go_roundw
          case rel => exact ⟨j + 1, by go_num, by omega, HF.out, hU13⟩
          case measure => simp [intOf]; omega
    · have hjn : ¬ (j : Int) < (ll : Int) := by omega
      have hje : l.drop j = [] := List.drop_eq_nil_of_le (by have := HL.out.1; omega)
      have HV := hid (show V = badC l 0 ll by
        have h := HA.out
        rw [hje] at h
        rw [HL.out.2, h]
        rfl)
      clear HA hje
      go_wp2_with fail
      go_loopw [51] (fun v51 w' => ∃ i : Nat, v51 = .int .i64 (i : Int) ∧ i ≤ ll ∧ badC l 0 ll = badC l i (ll - i) ∧ Upto none' w w') (fun v51 _ => ll - (intOf v51).toNat)
      case atStart => exact ⟨0, rfl, Nat.zero_le _, rfl, hU⟩
      case round =>
        obtain ⟨i, rfl, hi, hC, hU2⟩ := hrel
        have HC := hid hC
        clear hC
        have him : (i : Int) ≤ 2048 := by omega
        by_cases hlt2 : i < ll
        · have hst := badC_step l i (ll - i - 1)
          rw [show ll - i - 1 + 1 = ll - i by omega, show ll - i - 1 = ll - (i + 1) by omega] at hst
          have hil : (i : Int) < (ll : Int) := by omega
          have NXi := NX i hlt2 _ (hL.on hU2)
          have REi := RE i
          obtain ⟨rB, hrB⟩ : ∃ rB, rB = reachB l (succV l (i : Int)) (i : Int) := ⟨_, rfl⟩
          rw [← hrB] at REi hst
          have HST := hid hst
          obtain ⟨sl, hsl⟩ : ∃ sl, sl = (succV l (i : Int)).length := ⟨_, rfl⟩
          rw [← hsl] at REi
          have HSL := hid hsl
          clear hst hrB hsl
          go_wp2_with (first | ((go_at_call 93); (with_reducible refine NXi.mono ?_); rintro e w5 ⟨v, rfl, hI, hU5⟩; obtain ⟨ia, ic, rfl, hic, hEi⟩ := ints_open hI.rep; rw [← HSL.out]; have REj := REi w5 ia ic (hL.on (hU2.and hU5)) (RepE.weaken (fun _ _ x => x.elim) _ _ _ _ hEi)) | ((go_at_call 92); (with_reducible refine REj.mono ?_); rintro e w6 ⟨rfl, hU6⟩; cases rB))
          · go_roundw
            case rel => exact ⟨i + 1, by go_num, by omega, by rw [HC.out, HST.out]; rfl, (hU2.and hU5).and hU6⟩
            case measure => simp [intOf]; omega
          · have HF := hid (show V = ((i : Int), 51) by rw [HV.out, HC.out, HST.out]; rfl)
            refine bodyPost_ret (v := .tuple #[.int .i64 (i : Int), .int .i64 51]) (by simp [results, Tryz.f28, go_sem]) rfl ⟨by rw [HF.out], (hU2.and hU5).and hU6⟩
        · have hin : ¬ (i : Int) < (ll : Int) := by omega
          have HF := hid (show V = ((ll : Int), 0) by
            rw [HV.out, HC.out, show ll - i = 0 by omega, badC]
            have : i = ll := by omega
            rw [this])
          clear HC
          go_wp2_with fail
          refine bodyPost_ret (v := .tuple #[.int .i64 (ll : Int), .int .i64 0]) (by simp [results, Tryz.f28, go_sem]) rfl ⟨by rw [HF.out], hU2⟩
end Go.Proofs.YtdomloghcpfdjaaGreatDoor
