/- Renamings of free variables, as plain data. No program is in sight here. -/
import Derived.Test.YtdomloghcpfdjaaGreatDoorRCD
import Derived.Test.YtdomloghcpfdjaaGreatDoorRCH
import Derived.Test.YtdomloghcpfdjaaGreatDoorRCJ
import Derived.Deep.AppendLies
import Derived.Deep.CutRange
import Derived.Deep.RegionHeld3
import Derived.Deep.RegionLaw
import Derived.Laws.CopyOwn
import Derived.Laws.MakeOwn
import Derived.Shelf.Bits.Mul64
namespace Go.LF.Tm
abbrev To := Int → Int × Bool
/-- The index of a node behind a renaming. -/
def mvi (f : To) (b k i : Int) : Int := if k = 5 ∧ b ≤ i then (f (i - b)).1 + b else i
/-- A renaming has an index for a node. -/
def oki (f : To) (b k i : Int) : Bool := !(k == 5 && decide (b ≤ i)) || ((f (i - b)).2 && (decide (0 ≤ (f (i - b)).1) && decide ((f (i - b)).1 ≤ 1048576 - b)))
mutual
def mv (f : To) (b : Int) : Tm → Tm
  | mk k n i l => mk k n (mvi f b k i) (mvA f b k 0 l)
def mvA (f : To) (b k : Int) (j : Nat) : List Tm → List Tm
  | [] => []
  | t :: ts => mv f (b + under k j) t :: mvA f b k (j + 1) ts
end
mutual
def mvok (f : To) (b : Int) : Tm → Bool
  | mk k _ i l => oki f b k i && mvokA f b k 0 l
def mvokA (f : To) (b k : Int) (j : Nat) : List Tm → Bool
  | [] => true
  | t :: ts => mvok f (b + under k j) t && mvokA f b k (j + 1) ts
end
theorem mv_mk (f : To) (b k n i l) : mv f b (mk k n i l) = mk k n (mvi f b k i) (mvA f b k 0 l) := by rw [mv]
theorem mvok_mk (f : To) (b k n i l) : mvok f b (mk k n i l) = (oki f b k i && mvokA f b k 0 l) := by rw [mvok]
theorem mvA_append (f : To) (b k : Int) (l m : List Tm) (j : Nat) : mvA f b k j (l ++ m) = mvA f b k j l ++ mvA f b k (j + l.length) m := by
  induction l generalizing j with
  | nil => simp [mvA]
  | cons t ts ih => simp [mvA, ih (j + 1), Nat.add_assoc, Nat.add_comm 1 ts.length]
theorem mvokA_append (f : To) (b k : Int) (l m : List Tm) (j : Nat) : mvokA f b k j (l ++ m) = (mvokA f b k j l && mvokA f b k (j + l.length) m) := by
  induction l generalizing j with
  | nil => simp [mvokA]
  | cons t ts ih => simp [mvokA, ih (j + 1), Nat.add_assoc, Nat.add_comm 1 ts.length, Bool.and_assoc]
theorem mvA_length (f : To) (b k : Int) (l : List Tm) (j : Nat) : (mvA f b k j l).length = l.length := by
  induction l generalizing j with
  | nil => simp [mvA]
  | cons t ts ih => simp [mvA, ih (j + 1)]
theorem mvA_take_succ (f : To) (b k : Int) (l : List Tm) (j : Nat) (h : j < l.length) : mvA f b k 0 (l.take (j + 1)) = mvA f b k 0 (l.take j) ++ [mv f (b + under k j) l[j]] := by
  rw [List.take_succ_eq_append_getElem h, mvA_append]
  simp [mvA, Nat.min_eq_left (Nat.le_of_lt h)]
theorem mvokA_take_succ (f : To) (b k : Int) (l : List Tm) (j : Nat) (h : j < l.length) : mvokA f b k 0 (l.take (j + 1)) = (mvokA f b k 0 (l.take j) && mvok f (b + under k j) l[j]) := by
  rw [List.take_succ_eq_append_getElem h, mvokA_append]
  simp [mvokA, Nat.min_eq_left (Nat.le_of_lt h)]
theorem mvok_nodes (f : To) (t : Tm) : ∀ b, mvok f b t = (nodes b t).all (fun x => oki f x.b x.k x.i) := by
  induction t using ind with
  | h k n i l ih =>
    intro b
    have key : ∀ (l' : List Tm), (∀ t ∈ l', ∀ b, mvok f b t = (nodes b t).all (fun x => oki f x.b x.k x.i)) → ∀ j, mvokA f b k j l' = (nodesA b k j l').all (fun x => oki f x.b x.k x.i) := by
      intro l'
      induction l' with
      | nil => intro _ j; simp [mvokA, nodesA]
      | cons t ts ih2 => intro h j; rw [mvokA, nodesA, List.all_append, h t (by simp), ih2 (fun t ht => h t (by simp [ht]))]
    rw [mvok_mk, nodes_mk, List.all_cons, key l ih 0]
theorem nodes_mv (f : To) (t : Tm) : ∀ b, nodes b (mv f b t) = (nodes b t).map (fun x => ⟨x.b, x.k, x.n, mvi f x.b x.k x.i⟩) := by
  induction t using ind with
  | h k n i l ih =>
    intro b
    have key : ∀ (l' : List Tm), (∀ t ∈ l', ∀ b, nodes b (mv f b t) = (nodes b t).map (fun x => ⟨x.b, x.k, x.n, mvi f x.b x.k x.i⟩)) → ∀ j, nodesA b k j (mvA f b k j l') = (nodesA b k j l').map (fun x => ⟨x.b, x.k, x.n, mvi f x.b x.k x.i⟩) := by
      intro l'
      induction l' with
      | nil => intro _ j; simp [mvA, nodesA]
      | cons t ts ih2 => intro h j; rw [mvA, nodesA, nodesA, List.map_append, h t (by simp), ih2 (fun t ht => h t (by simp [ht]))]
    rw [mv_mk, nodes_mk, nodes_mk, List.map_cons, key l ih 0]
theorem mv_congr (f g : To) (t : Tm) : ∀ b, (∀ x ∈ nodes b t, mvi f x.b x.k x.i = mvi g x.b x.k x.i) → mv f b t = mv g b t := by
  induction t using ind with
  | h k n i l ih =>
    intro b h
    have key : ∀ (l' : List Tm), (∀ t ∈ l', ∀ b, (∀ x ∈ nodes b t, mvi f x.b x.k x.i = mvi g x.b x.k x.i) → mv f b t = mv g b t) → ∀ j, (∀ x ∈ nodesA b k j l', mvi f x.b x.k x.i = mvi g x.b x.k x.i) → mvA f b k j l' = mvA g b k j l' := by
      intro l'
      induction l' with
      | nil => intro _ j _; simp [mvA]
      | cons t ts ih2 =>
        intro h j hx
        simp only [nodesA, List.mem_append] at hx
        rw [mvA, mvA, h t (by simp) _ (fun x hm => hx x (.inl hm)), ih2 (fun t ht => h t (by simp [ht])) _ (fun x hm => hx x (.inr hm))]
    rw [nodes_mk] at h
    rw [mv_mk, mv_mk, key l ih 0 (fun x hx => h x (by simp [hx])), h ⟨b, k, n, i⟩ (by simp)]
theorem mv_same (t : Tm) : ∀ b, mv (fun i => (i, true)) b t = t := by
  induction t using ind with
  | h k n i l ih =>
    intro b
    have key : ∀ (l' : List Tm), (∀ t ∈ l', ∀ b, mv (fun i => (i, true)) b t = t) → ∀ j, mvA (fun i => (i, true)) b k j l' = l' := by
      intro l'
      induction l' with
      | nil => intro _ j; simp [mvA]
      | cons t ts ih2 => intro h j; rw [mvA, h t (by simp), ih2 (fun t ht => h t (by simp [ht]))]
    rw [mv_mk, key l ih 0]
    congr 1
    unfold mvi
    split
    · simp
    · rfl
theorem size_mv (f : To) (t : Tm) (b : Int) : (mv f b t).size = t.size := by
  rw [← nodes_length _ b, nodes_mv, List.length_map, nodes_length]
theorem depth_mv (f : To) (t : Tm) : ∀ b, (mv f b t).depth = t.depth := by
  induction t using ind with
  | h k n i l ih =>
    intro b
    have key : ∀ (l' : List Tm), (∀ t ∈ l', ∀ b, (mv f b t).depth = t.depth) → ∀ j, depths (mvA f b k j l') = depths l' := by
      intro l'
      induction l' with
      | nil => intro _ j; simp [mvA]
      | cons t ts ih2 => intro h j; rw [mvA, depths, depths, h t (by simp), ih2 (fun t ht => h t (by simp [ht]))]
    rw [mv_mk, depth_mk, depth_mk, key l ih 0]
theorem mvi_other (f : To) (b k i : Int) (h : k ≠ 5) : mvi f b k i = i := by unfold mvi; rw [if_neg (fun e => h e.1)]
theorem obj_mv (f : To) (t : Tm) : t.isObj = true → ∀ b, 0 ≤ b → mvok f b t = true → (mv f b t).isObj = true := by
  induction t using ind with
  | h k n i l ih =>
    intro ho b hb h
    have key : ∀ (l' : List Tm), (∀ t ∈ l', t.isObj = true → ∀ b, 0 ≤ b → mvok f b t = true → (mv f b t).isObj = true) → ∀ j, allObj l' = true → mvokA f b k j l' = true → allObj (mvA f b k j l') = true := by
      intro l'
      induction l' with
      | nil => intro _ j _ _; simp [mvA, allObj]
      | cons t ts ih2 =>
        intro h j ha hm
        simp only [allObj, mvokA, Bool.and_eq_true] at ha hm
        simp only [mvA, allObj, Bool.and_eq_true]
        exact ⟨h t (by simp) ha.1 _ (by have := under_le k j; omega) hm.1, ih2 (fun t ht => h t (by simp [ht])) _ ha.2 hm.2⟩
    rw [mvok_mk, Bool.and_eq_true] at h
    have k1 := key l ih 0
    rw [mv_mk]
    rw [isObj] at ho ⊢
    by_cases h3 : k = 3
    · subst h3
      simp only [if_true, Bool.and_eq_true, bound, mvA_length] at ho ⊢
      rw [mvi_other f b 3 i (by decide)]
      exact ⟨ho.1, k1 ho.2 h.2⟩
    rw [if_neg h3] at ho ⊢
    by_cases h4 : k = 4
    · subst h4
      simp only [if_true, Bool.and_eq_true] at ho ⊢
      rw [mvi_other f b 4 i (by decide)]
      exact ⟨ho.1, k1 ho.2 h.2⟩
    rw [if_neg h4] at ho ⊢
    by_cases h5 : k = 5
    · subst h5
      simp only [if_true, Bool.and_eq_true, decide_eq_true_eq] at ho ⊢
      refine ⟨⟨⟨ho.1.1.1, ?_⟩, ?_⟩, k1 ho.2 h.2⟩
      all_goals
        have hh := h.1
        unfold mvi
        by_cases hbi : b ≤ i
        · simp only [oki, hbi] at hh
          simp at hh
          simp [hbi]
          omega
        · rw [if_neg (fun e => hbi e.2)]
          omega
    rw [if_neg h5] at ho ⊢
    by_cases h6 : k = 6
    · subst h6
      simp only [if_true, Bool.and_eq_true] at ho ⊢
      rw [mvi_other f b 6 i (by decide)]
      exact ⟨ho.1, k1 ho.2 h.2⟩
    · rw [if_neg h6] at ho
      cases ho
theorem nodes_arg {b k i : Int} {n : List UInt8} {l : List Tm} (j : Nat) (h : j < l.length) {x : Nd0} (hx : x ∈ nodes (b + under k j) l[j]) : x ∈ nodes b (mk k n i l) := by
  rw [nodes_mk]
  refine List.mem_cons_of_mem _ ((nodesA_take_prefix l b k (j + 1)).subset ?_)
  rw [nodesA_take_succ l b k j h]
  simp [hx]
theorem args_ok {k i : Int} {n : List UInt8} {l : List Tm} (h : ∀ b, ∀ x ∈ nodes b (mk k n i l), x.ok) : ∀ t ∈ l, ∀ b, ∀ x ∈ nodes b t, x.ok := by
  intro t ht b x hx
  obtain ⟨j, hj, rfl⟩ := List.getElem_of_mem ht
  exact h (b - under k j) x (nodes_arg j hj (by rw [show b - under k j + under k j = b by omega]; exact hx))
theorem same_refl (t : Tm) : t.same t = true := by
  induction t using ind with
  | h k n i l ih =>
    rw [same_mk]
    have key : ∀ (l' : List Tm), (∀ t ∈ l', t.same t = true) → sames l' l' = true := by
      intro l'
      induction l' with
      | nil => intro _; simp [sames]
      | cons t ts ih2 => intro h; simp only [sames, Bool.and_eq_true]; exact ⟨h t (by simp), ih2 (fun t ht => h t (by simp [ht]))⟩
    simp [key l ih]
theorem FitsA.wf {t : Tm} {sz v m : Nat} (h : FitsA t sz v m) (hs : sz ≤ 4096) : t.wf = 0 := by
  unfold Tm.wf
  rw [if_neg, if_neg]
  · unfold small
    have := h.depth
    have := h.size
    simp
    omega
  · intro e
    simp only [Bool.and_eq_true, Bool.not_eq_true'] at e
    rcases h.any with h | h | h
    · rw [e.1.1] at h; cases h
    · rw [e.1.2] at h; cases h
    · rw [e.2] at h; cases h
end Go.LF.Tm
namespace Go.Proofs.YtdomloghcpfdjaaGreatDoor
open Go.RowKit Go.LF
/-- A box with one cell. -/
def Box1 (W : World) (g : Nat) (c : Value) (T : TypeId) : Prop := W.heap[g]? = some (.cells #[c] T (0, 0))
section
variable {W W' : World} {g b : Nat} {c : Value} {T : TypeId} {S : Nat → Prop}
theorem Box1.at_new (hb : W.heap.size = b) : Box1 (W.alloc (.cells #[c] T)) b c T := by subst hb; exact heap_alloc_new W _
theorem Box1.lt (h : Box1 W g c T) : g < W.heap.size := (Array.getElem?_eq_some_iff.1 h).1
theorem Box1.cell (h : Box1 W g c T) : W.cell? ⟨g, 0, none⟩ = some c := by unfold Box1 at h; simp [World.cell?, h]
theorem Box1.frozen (h : Box1 W g c T) : W.frozen? ⟨g, 0, none⟩ = false := by unfold Box1 at h; simp [World.frozen?, h]
theorem Box1.keep (h : Box1 W g c T) (hU : Upto S W W') (hS : ¬ S g) : Box1 W' g c T := (hU.block g h.lt hS).trans h
theorem Box1.kept (h : Box1 W g c T) (hU : Upto none' W W') : Box1 W' g c T := h.keep hU (fun x => x)
theorem Box1.set (h : Box1 W g c T) (v : Value) : Box1 (W.setCell ⟨g, 0, none⟩ v) g v T := by
  obtain ⟨hlt, hk⟩ := Array.getElem?_eq_some_iff.1 h
  show (W.heap.modify g _)[g]? = _
  rw [Array.getElem?_eq_getElem (by rw [Array.size_modify]; exact hlt), Array.getElem_modify_self, hk]
  rfl
end
theorem repE_none {O : Nat → Prop} {W : World} {ts : List Tm} (h : RepE O W 4 (ts.map Tm.dat) none 0) : ts = [] := by
  cases ts with
  | nil => rfl
  | cons t ts => simp only [List.map_cons, RepE] at h; obtain ⟨⟨_, _, _, e, _⟩, _⟩ := h; cases e
/-- What slices.Clone hands back: a row of its own, with the same terms. -/
def Cloned (O : Nat → Prop) (ts : List Tm) (w : World) (e : Ending) (w' : World) : Prop := ∃ v css, e = .returned v ∧ RowS O w.heap.size w' v ts css ∧ Upto none' w w'
set_option maxRecDepth 100000 in
set_option maxHeartbeats 4000000 in
theorem clone_any (ts : List Tm) (O : Nat → Prop) (w : World) (a : Option Addr) (cap : Nat) (hl : ts.length ≤ 900000) (hE : RepE O w 4 (ts.map Tm.dat) a 0) :
    Calls Tryz.prog 210 #[.slice a ts.length cap] w (Cloned O ts w) := by
  obtain ⟨i0, hi, hi0, hi1, hi2⟩ := info_parts info_term
  rcases a with _ | ad
  · obtain rfl := repE_none hE
    clear hE
    have he : ∀ w : World, (binOp .eql 27 (.slice none 0 cap) (.slice none 0 0)).run Tryz.prog w = .ok (.bool true) w := fun _ => rfl
    go_enter Tryz.func210, Tryz.ntmps210
    go_wp2_with fail
    go_ret
    exact ⟨_, [], rfl, ⟨rfl, by simp, World.ownsRow_nil _ _ _ _, fun i h => by simp at h⟩, Upto.refl _ _⟩
  · rcases Nat.eq_zero_or_pos ts.length with h0 | h0
    · obtain rfl : ts = [] := List.eq_nil_of_length_eq_zero h0
      clear hE h0
      simp only [List.length_nil]
      have he : ∀ w : World, (binOp .eql 27 (.slice (some ad) 0 cap) (.slice none 0 0)).run Tryz.prog w = .ok (.bool false) w := fun _ => rfl
      go_enter Tryz.func210, Tryz.ntmps210
      go_wp2_with fail
      go_ret
      exact ⟨_, [], rfl, ⟨rfl, by simp, World.ownsRow_made w #[] 0 (Nat.le_refl _) (by decide) (by simp), fun i h => by simp at h⟩, (Upto.refl none' w).alloc _⟩
    · obtain ⟨css, r1, r2, r3, r4, r5⟩ := row_cells ts _ 0 (RepE.fresh' 4 _ _ _ hE)
      have hflat := (flat4 css r2).1
      rw [r1] at hflat
      obtain ⟨ub, uo, he⟩ : ∃ ub uo, ad = ⟨ub, uo, none⟩ := by
        obtain ⟨u, hu⟩ : ∃ u, css.flatten[0]? = some u := ⟨_, List.getElem?_eq_getElem (by omega)⟩
        obtain ⟨b, o, e, _⟩ := r4 0 u hu
        cases e
        exact ⟨b, o, rfl⟩
      subst he
      have HN : ∀ j u, css.flatten[j]? = some u → (w.alloc (.cells #[] 29)).cell? ((⟨ub, uo, none⟩ : Addr).add j) = some u := by
        intro j u hu
        obtain ⟨b', o', e, hc⟩ := r4 j u hu
        cases e
        have hadd : (⟨ub, uo, none⟩ : Addr).add j = ⟨ub, uo + j, none⟩ := by unfold Addr.add; split <;> simp_all
        rw [hadd]
        exact ((Upto.refl none' w).alloc _).cell (by simpa using hc) (fun x => x)
      have HL := hid (And.intro r1 (And.intro r2 r5))
      obtain ⟨len, hlen⟩ : ∃ len, len = ts.length := ⟨_, rfl⟩
      rw [← hlen] at hl h0 hflat ⊢
      have HE := hid hlen
      clear hE r1 r2 r4 r5 hlen
      have he : ∀ w : World, (binOp .eql 27 (.slice (some ⟨ub, uo, none⟩) len cap) (.slice none 0 0)).run Tryz.prog w = .ok (.bool false) w := fun _ => rfl
      go_enter Tryz.func210, Tryz.ntmps210
      go_wp2_with (at_builtin; refine wpList_append_lies _ (by rfl) _ _ 27 (by rfl) w.heap.size 29 i0 (.agg #[.int .i64 0, .string (B []), .int .i64 0, .slice none 0 0]) 4 56 (by kernel_rfl) hi hi0 hi1 hi2 rfl (by decide) (.slice (some ⟨w.heap.size, 0, none⟩) 0 0) 0 [] (by rfl) (World.ownsRow_made w #[] 0 (Nat.le_refl _) (by decide) (by simp)) ⟨ub, uo, none⟩ len cap css.flatten (by rfl) hflat HN r3 h0 (by simp only [maxLen]; omega) (by omega) (by simp) _ rfl ?_; intro g cap' w7 hown hgrow hat hlt)
      go_ret
      have hU7 : Upto none' w w7 := ((Upto.refl none' w).alloc (.cells #[] 29)).trans (grown_own hgrow) (fun i hi e => by simp only [Value.ownBlock, Option.some.injEq] at e; omega)
      refine ⟨_, css, rfl, ⟨HL.out.1, HL.out.2.1, ?_, fun i hi hi' => (HL.out.2.2 i hi hi').on hU7⟩, hU7⟩
      rw [← HE.out]
      simpa using hown
end Go.Proofs.YtdomloghcpfdjaaGreatDoor
namespace Go.Proofs.YtdomloghcpfdjaaGreatDoor
open Go.RowKit Go.LF
/-- What a call of the function does that tells the numbers: in each world that goes on from w. -/
def ToSays (w : World) (F : FuncId) (caps : List Value) (f : Tm.To) : Prop :=
  ∀ (i : Int) (W : World), 0 ≤ i → i ≤ 1048576 → Upto none' w W → Calls Tryz.prog F (.int .i64 i :: caps).toArray W fun e W' => e = .returned (.tuple #[.int .i64 (f i).1, .bool (f i).2]) ∧ Upto none' W W'
/-- What the walk of move hands back: all of it in new blocks. -/
def Moves (f : Tm.To) (okb : Nat) (o : Bool) (b : Int) (t : Tm) (w : World) (e : Ending) (w' : World) : Prop :=
  ∃ (k i : Int) (n : List UInt8) (a : Option Addr) (len cap : Nat) (u : Tm), e = .returned (.agg #[.int .i64 k, .string (B n), .int .i64 i, .slice a len cap]) ∧
    Rep (fun x => x < w.heap.size) w' u.dat [.int .i64 k, .string (B n), .int .i64 i, .slice a len cap] ∧ (t.mvok f b = true → u = t.mv f b) ∧ u.size = t.size ∧
    Box1 w' okb (.bool (o && t.mvok f b)) 4 ∧ Upto (fun x => x = okb) w w'
/-- A row of terms of which the first have been replaced: these lie in new blocks. -/
def RowM (okb lo base : Nat) (W : World) (a : Option Addr) (us ts : List Tm) : Prop :=
  ∀ i, i < ts.length → ∃ g cs, a = some ⟨g, 0, none⟩ ∧ base ≤ g ∧ g < W.heap.size ∧ (∀ o, W.frozen? ⟨g, o, none⟩ = false) ∧ cs.length = 4 ∧ (∀ m u, cs[m]? = some u → W.cell? ⟨g, i * 4 + m, none⟩ = some u) ∧
    (∀ (h : i < us.length), Rep (fun b => b < base ∨ b = g) W us[i].dat cs) ∧ (∀ (h : i < ts.length), us.length ≤ i → Rep (fun b => b = okb ∨ lo ≤ b) W ts[i].dat cs)
section
variable {okb lo base : Nat} {W W' : World} {a : Option Addr} {us ts : List Tm}
theorem RowM.start {O : Nat → Prop} {sc : Nat} {css : List (List Value)} {sa : Option Addr} (h : RowS O base W (.slice sa ts.length sc) ts css) (hO : ∀ b, b = okb ∨ lo ≤ b → O b ∨ base ≤ b) : RowM okb lo base W sa [] ts := by
  intro i hi
  obtain ⟨sa', sc', hv, _, hc⟩ := h.cells
  simp only [Value.slice.injEq] at hv
  obtain ⟨rfl, _, rfl⟩ := hv
  have hi' : i < css.length := by have := h.1; omega
  obtain ⟨g, rfl, _, hb, hlt, hf, hg⟩ := hc i hi hi'
  exact ⟨g, css[i], rfl, hb, hlt, hf, h.2.1 _ (List.getElem_mem hi'), hg, fun h => by simp at h, fun h' _ => Rep.weaken (fun b _ e => hO b e) _ _ (h.2.2.2 i hi hi')⟩
theorem RowM.keep {S : Nat → Prop} (h : RowM okb lo base W a us ts) (hU : Upto S W W') (hS : ∀ b, S b → (b = okb ∨ lo ≤ b) ∧ b < base) : RowM okb lo base W' a us ts := by
  intro i hi
  obtain ⟨g, cs, h1, h2, h3, h4, h5, h6, h7, h8⟩ := h i hi
  have hg : ¬ S g := fun e => by have := (hS g e).2; omega
  refine ⟨g, cs, h1, h2, Nat.lt_of_lt_of_le h3 hU.size, fun o => ?_, h5, fun m u hu => hU.cell (h6 m u hu) hg, fun h => ?_, fun h hi' => ?_⟩
  · rw [hU.cells.2 g o h3 hg]; exact h4 o
  · exact Rep.keep hU (fun b e => .inl (hS b e).2) _ _ (h7 h)
  · exact Rep.keep hU (fun b e => (hS b e).1) _ _ (h8 h hi')
theorem RowM.kept (h : RowM okb lo base W a us ts) (hU : Upto none' W W') : RowM okb lo base W' a us ts := h.keep hU (fun _ x => x.elim)
/-- The next term is replaced. -/
theorem RowM.next {g : Nat} {u : Tm} {d0 d1 d2 d3 : Value} (h : RowM okb lo base W (some ⟨g, 0, none⟩) us ts) (hj : us.length < ts.length) (hob : lo ≤ base) (hR : Rep (fun b => b < base ∨ b = g) W u.dat [d0, d1, d2, d3])
    (hW : W' = (((W.setCell ⟨g, us.length * 4, none⟩ d0).setCell ⟨g, us.length * 4 + 1, none⟩ d1).setCell ⟨g, us.length * 4 + 2, none⟩ d2).setCell ⟨g, us.length * 4 + 3, none⟩ d3) :
    RowM okb lo base W' (some ⟨g, 0, none⟩) (us ++ [u]) ts ∧ Upto (fun b => b = g) W W' := by
  obtain ⟨g', cs, e, hb, hlt, hf, hcl, hc, _, _⟩ := h us.length hj
  cases e
  have hcj : ∀ m, m < 4 → ∃ u, W.cell? ⟨g, us.length * 4 + m, none⟩ = some u := fun m hm => ⟨_, hc m _ (List.getElem?_eq_getElem (by rw [hcl]; exact hm))⟩
  obtain ⟨_, u0⟩ := hcj 0 (by omega)
  obtain ⟨_, u1⟩ := hcj 1 (by omega)
  obtain ⟨_, u2⟩ := hcj 2 (by omega)
  obtain ⟨_, u3⟩ := hcj 3 (by omega)
  obtain ⟨⟨v0, v1, v2, v3⟩, hoth, hU⟩ := set_cells (d0 := d0) (d1 := d1) (d2 := d2) (d3 := d3) u0 u1 u2 u3 hW
  refine ⟨fun i hi => ?_, hU⟩
  obtain ⟨g', cs', e, hb', hlt', hf', hcl', hc', h7, h8⟩ := h i hi
  cases e
  have hfr : ∀ o, W'.frozen? ⟨g, o, none⟩ = false := fun o => by rw [hW]; simp only [World.frozen?_setCell]; exact hf o
  by_cases hij : i = us.length
  · subst hij
    refine ⟨g, [d0, d1, d2, d3], rfl, hb, Nat.lt_of_lt_of_le hlt hU.size, hfr, rfl, fun m x hx => ?_, fun h' => ?_, fun _ h' => ?_⟩
    · match m, hx with
      | 0, hx => cases hx; exact v0
      | 1, hx => cases hx; exact v1
      | 2, hx => cases hx; exact v2
      | 3, hx => cases hx; exact v3
    · simp only [List.getElem_concat_length]
      exact Rep.keep hU (fun b e => .inr e) _ _ hR
    · (simp at h'; omega)
  · refine ⟨g, cs', rfl, hb, Nat.lt_of_lt_of_le hlt hU.size, hfr, hcl', fun m x hx => ?_, fun h' => ?_, fun h' h'' => ?_⟩
    · have hm : m < 4 := by rw [← hcl']; exact (List.getElem?_eq_some_iff.1 hx).1
      rw [hoth _ (by omega) (by omega) (by omega) (by omega)]
      exact hc' m x hx
    · have hlt2 : i < us.length := by simp at h'; omega
      rw [List.getElem_append_left hlt2]
      exact Rep.keep hU (fun b e => .inr e) _ _ (h7 hlt2)
    · simp at h''
      exact Rep.keep hU (fun b e => .inr (by omega)) _ _ (h8 h' (by omega))
/-- The whole row has been replaced. -/
theorem RowM.rep (h : RowM okb lo base W a us ts) (hl : us.length = ts.length) : RepE (fun b => b < base) W 4 (us.map Tm.dat) a 0 := by
  refine repE_of _ _ _ (fun i hi => ?_)
  simp only [List.length_map] at hi
  obtain ⟨g, cs, rfl, hb, hlt, _, hcl, hc, h7, _⟩ := h i (by omega)
  refine ⟨g, 0, cs, rfl, hlt, by omega, hcl, fun m u hu => ?_, ?_⟩
  · rw [show 0 + 0 + i * 4 + m = i * 4 + m by omega]
    exact hc m u hu
  · simp only [List.getElem_map]
    exact Rep.weaken (fun b _ e => .inl e) _ _ (h7 hi)
end
end Go.Proofs.YtdomloghcpfdjaaGreatDoor
namespace Go.Proofs.YtdomloghcpfdjaaGreatDoor
open Go.RowKit Go.LF
/-- What a round of the walk needs of a world. -/
abbrev MvS (B K tb : Nat) (sa : Option Addr) (len sc : Nat) (fv c0 c1 c2 c3 : Value) (w' : World) : Prop :=
  w'.cell? ⟨B, 3, none⟩ = some (.slice sa len sc) ∧ w'.cell? ⟨K, 0, none⟩ = some fv ∧ TcS tb c0 c1 c2 c3 w'
theorem MvS.keep {B K tb len sc : Nat} {sa : Option Addr} {fv c0 c1 c2 c3 : Value} {w w' : World} {S : Nat → Prop} (h : MvS B K tb sa len sc fv c0 c1 c2 c3 w) (hU : Upto S w w') (h1 : ¬ S B) (h2 : ¬ S K) (h3 : ¬ S tb) : MvS B K tb sa len sc fv c0 c1 c2 c3 w' :=
  ⟨hU.cell h.1 h1, hU.cell h.2.1 h2, h.2.2.keep hU h3⟩
theorem MvS.set {B K tb len sc g : Nat} {sa : Option Addr} {fv c0 c1 c2 c3 : Value} {w : World} (h : MvS B K tb sa len sc fv c0 c1 c2 c3 w) (h1 : B ≠ g) (h2 : K ≠ g) (h3 : tb ≠ g) (o : Nat) (v : Value) : MvS B K tb sa len sc fv c0 c1 c2 c3 (w.setCell ⟨g, o, none⟩ v) :=
  h.keep (Upto.set (Upto.refl _ w) o v) h1 h2 h3
set_option maxRecDepth 100000 in
set_option maxHeartbeats 16000000 in
theorem walk_any (f : Tm.To) (w0 : World) (okb tob K : Nat) (F : FuncId) (caps : List Value) (hF : ToSays w0 F caps f) (hFE : ∀ args w, Sem.run Tryz.prog (callFunc F args) w = .ok (Next.enter F args) w) (hk : w0.heap.size ≤ okb) (ht0 : tob ≠ okb) (hK0 : K ≠ okb) (t : Tm) : t.size ≤ 100000 → (∀ b, ∀ x ∈ t.nodes b, x.ok) →
    ∀ (b : Int) (o : Bool) (w : World) (cs : List Value), 0 ≤ b → b + t.size ≤ 1000000 → Rep (fun x => x = okb) w t.dat cs → Upto none' w0 w → Box1 w okb (.bool o) 4 → w.cell? ⟨tob, 0, none⟩ = some (.func (.func F) #[] caps.toArray) →
    w.cell? ⟨K, 0, none⟩ = some (.func (.func 209) #[] #[.pointer (some ⟨tob, 0, none⟩), .pointer (some ⟨okb, 0, none⟩), .pointer (some ⟨K, 0, none⟩)]) →
    Calls Tryz.prog 209 #[.agg cs.toArray, .int .i64 b, .pointer (some ⟨tob, 0, none⟩), .pointer (some ⟨okb, 0, none⟩), .pointer (some ⟨K, 0, none⟩)] w (Moves f okb o b t w) := by
  induction t using Tm.ind with
  | h k nm i ts ih =>
    intro hsz hok b o w cs hb0 hb1 hR hU0 hO hT hK
    obtain ⟨a, cap, rfl, hcap, hE⟩ := rep_tm.1 hR
    have hlen := Tm.length_le_sizes ts
    simp only [Tm.size_mk] at hsz hb1
    have hno := hok b
    rw [Tm.nodes_mk] at hno
    have hi5 : k = 5 → 0 ≤ i ∧ i ≤ 1048576 := fun e => (hno _ (List.mem_cons_self ..)).1 (by simp [e])
    have hoks : ∀ x ∈ ts, ∀ b, ∀ y ∈ x.nodes b, y.ok := Tm.args_ok hok
    have hokb := hO.lt
    have htob : tob < w.heap.size := World.block_lt_of_cell? w _ hT
    have hKb : K < w.heap.size := World.block_lt_of_cell? w _ hK
    obtain ⟨w2, hw2⟩ : ∃ w2, w2 = (w.alloc (.cells #[.int .i64 k, .string (B nm), .int .i64 i, .slice a ts.length cap] 29)).alloc (.cells #[.int .i64 0, .string (B []), .int .i64 0, .slice none 0 0] 29) := ⟨_, rfl⟩
    have hU2 : Upto none' w w2 := by rw [hw2]; exact ((Upto.refl none' w).alloc _).alloc _
    have ht2 : Box4 w2 w.heap.size (.int .i64 k) (.string (B nm)) (.int .i64 i) (.slice a ts.length cap) 29 := by rw [hw2]; exact (Box4.at_new rfl).kept ((Upto.refl none' _).alloc _)
    have hr2 : Box4 w2 (w.heap.size + 1) (.int .i64 0) (.string (B [])) (.int .i64 0) (.slice none 0 0) 29 := by rw [hw2]; exact Box4.at_new (by simp)
    have hO2 := hO.kept hU2
    have hT2 := hU2.cell hT (fun x => x)
    have hK2 := hU2.cell hK (fun x => x)
    obtain ⟨t0, t1, t2, t3⟩ := ht2.cells
    obtain ⟨f0, f1, f2, f3⟩ := ht2.frozens
    have q0 := hO2.cell
    have q1 := hO2.frozen
    have HW2 := hid hw2
    have HW := hid (And.intro hsz hb1)
    clear hw2 hR hno hok
    obtain ⟨c21, hc21⟩ : ∃ c, c = (k == 5 && decide (b ≤ i)) := ⟨_, rfl⟩
    have hways : ((k == 5) = true ∧ b ≤ i) ∨ ((k == 5) = true ∧ i < b) ∨ (k == 5) = false := by
      by_cases h : k = 5
      · by_cases h' : b ≤ i
        · exact .inl ⟨by simp [h], h'⟩
        · exact .inr (.inl ⟨by simp [h], by omega⟩)
      · exact .inr (.inr (by simp [h]))
    have HC := hid hc21
    have HY := hid hways
    clear hc21 hways
    go_enter Tryz.func209, Tryz.ntmps209
    go_upto_region 1 with fail
    rw [← HW2.out]
    go_cut [21] from 13 to 21 (fun v21 wx => v21 = .bool c21 ∧ w2 = wx)
    case first =>
      rcases HY.out with ⟨h5, hbi⟩ | ⟨h5, hbi⟩ | h5
      all_goals
        go_wp2_with fail
        go_meet
        case rel => exact ⟨by rw [HC.out]; simp [h5] <;> omega, rfl⟩
    case rest =>
      obtain ⟨rfl, rfl⟩ := hcut
      go_upto_if 21 with fail
      go_cut [] from 13 to 46 (fun wc => ∃ (i2 : Int) (o1 : Bool), Box4 wc w.heap.size (.int .i64 k) (.string (B nm)) (.int .i64 i2) (.slice a ts.length cap) 29 ∧ Box4 wc (w.heap.size + 1) (.int .i64 0) (.string (B [])) (.int .i64 0) (.slice none 0 0) 29 ∧
        Box1 wc okb (.bool o1) 4 ∧ Upto (fun x => x = okb ∨ x = w.heap.size) w2 wc ∧ (Tm.oki f b k i = true → i2 = Tm.mvi f b k i) ∧ o1 = (o && Tm.oki f b k i))
      case first =>
        cases c21
        · go_wp2_with fail
          go_meet
          case rel =>
            have hc := HC.out
            exact ⟨i, o, ht2, hr2, hO2, Upto.refl _ _, fun _ => (if_neg (fun e => by simp [e.1, e.2] at hc)).symm, by unfold Tm.oki; rw [← hc]; simp⟩
        · have hki : k = 5 ∧ b ≤ i := by have := HC.out; simpa using this.symm
          obtain ⟨hk5, hbi⟩ := hki
          have hi6 := hi5 hk5
          have hd0 : 0 ≤ i - b := by omega
          have hd1 : i - b ≤ 1048576 := by omega
          have HF := hid (hF (i - b))
          clear hF
          have HK := hid hk5
          clear hk5 hi5
          go_wp2_with fail
          refine (HF.out _ (by omega) (by omega) (hU0.and hU2)).mono ?_
          rintro e w3 ⟨rfl, hU3⟩
          obtain ⟨⟨n, fd⟩, hp⟩ : ∃ p, p = f (i - b) := ⟨_, rfl⟩
          rw [← hp]
          have ho1 : Tm.oki f b k i = (fd && (decide (0 ≤ n) && decide (n ≤ 1048576 - b))) := by unfold Tm.oki; rw [← hp, HK.out]; simp [hbi]
          have hm1 : Tm.mvi f b k i = n + b := by unfold Tm.mvi; rw [if_pos ⟨HK.out, hbi⟩, ← hp]
          have HO := hid (And.intro ho1 hm1)
          clear ho1 hm1 hp HF t0 t1 t2 t3 f0 f1 f2 f3 q0 q1
          have ht3 := ht2.kept hU3
          have hr3 := hr2.kept hU3
          have hO3 := hO2.kept hU3
          obtain ⟨x0, x1, x2, x3⟩ := ht3.cells
          obtain ⟨y0, y1, y2, y3⟩ := ht3.frozens
          have q0 := hO3.cell
          have q1 := hO3.frozen
          have hne : w.heap.size ≠ okb := by omega
          have hne1 : w.heap.size + 1 ≠ okb := by omega
          have hways : (fd = true ∧ 0 ≤ n ∧ n ≤ 1048576 - b) ∨ fd = false ∨ (fd = true ∧ n < 0) ∨ (fd = true ∧ 0 ≤ n ∧ 1048576 - b < n) := by
            cases fd
            · exact .inr (.inl rfl)
            · by_cases h0 : 0 ≤ n
              · by_cases h1 : n ≤ 1048576 - b
                · exact .inl ⟨rfl, h0, h1⟩
                · exact .inr (.inr (.inr ⟨rfl, h0, by omega⟩))
              · exact .inr (.inr (.inl ⟨rfl, by omega⟩))
          rcases hways with ⟨rfl, h1, h2⟩ | rfl | ⟨rfl, h1⟩ | ⟨rfl, h1, h2⟩
          all_goals go_wp2_with fail
          all_goals go_meet
          all_goals first
            | exact ⟨n + b, o, ht3.set2 _, hr3.other (by omega) _, hO3.keep (Upto.set (Upto.refl _ _) 2 _) (by omega), (hU3.mono (fun _ _ e => e.elim)).trans (Upto.set (Upto.refl _ _) 2 _) (fun _ _ e => .inr e), fun _ => HO.out.2.symm, by rw [HO.out.1]; simp [h1, h2]⟩
            | exact ⟨_, false, (ht3.other hne _).set2 _, (hr3.other hne1 _).other (by omega) _, (hO3.set _).keep (Upto.set (Upto.refl _ _) 2 _) (by omega), ((hU3.mono (fun _ _ e => e.elim)).trans (Upto.set (Upto.refl _ _) 0 _) (fun _ _ e => .inl e)).trans (Upto.set (Upto.refl _ _) 2 _) (fun _ _ e => .inr e), fun e => (by rw [HO.out.1] at e; simp at e <;> omega), by rw [HO.out.1]; simp <;> omega⟩
            | trace_state
      case rest =>
        obtain ⟨i2, o1, hB, hRs, hO1, hUc, hi2, ho1⟩ := hcut
        obtain ⟨x0, x1, x2, x3⟩ := hB.cells
        obtain ⟨y0, y1, y2, y3⟩ := hB.frozens
        have hE2 : RepE (fun x => x = okb ∨ w.heap.size ≤ x) wc 4 (ts.map Tm.dat) a 0 := RepE.keep hUc (fun x e => e.elim .inl (fun e => .inr (by omega))) _ _ _ _ ((RepE.fresh' _ _ _ _ hE).on hU2)
        have HI := hid (And.intro hi2 ho1)
        clear hi2 ho1 t0 t1 t2 t3 f0 f1 f2 f3 q0 q1 hi5
        go_wp2_with fail
        have hwz : w.heap.size < wc.heap.size := hB.lt
        refine (clone_any ts (fun x => x = okb ∨ w.heap.size ≤ x) wc a cap (by omega) hE2).mono ?_
        rintro e w4 ⟨v, css, rfl, hS, hU4⟩
        obtain ⟨sa, sc, rfl, hsc, _⟩ := hS.cells
        have hM4 := RowM.start (okb := okb) (lo := w.heap.size) hS (fun b e => .inl e)
        have hB4 := hB.kept hU4
        have hR4 := hRs.kept hU4
        have hO4 := hO1.kept hU4
        obtain ⟨base, hbase⟩ : ∃ base, base = wc.heap.size := ⟨_, rfl⟩
        rw [← hbase] at hM4 hwz
        have hb4 : base ≤ w4.heap.size := by rw [hbase]; exact hU4.size
        have hb5 : w.heap.size + 1 < base := by rw [hbase]; exact hRs.lt
        have hUw4 : Upto (fun x => x = okb ∨ x = w.heap.size) w2 w4 := hUc.trans hU4 (fun _ _ e => e.elim)
        obtain ⟨z0, z1, z2, z3⟩ := hB4.cells
        obtain ⟨v0, v1, v2, v3⟩ := hB4.frozens
        clear hS hB hRs hO1 hE hE2 x0 x1 x2 x3 y0 y1 y2 y3 hbase hU4 hUc
        go_wp2_with fail
        obtain ⟨w5, hw5⟩ : ∃ w5, w5 = w4.setCell ⟨w.heap.size, 3, none⟩ (.slice sa ts.length sc) := ⟨_, rfl⟩
        have hset5 : Upto (fun x => x = w.heap.size) w4 w5 := by rw [hw5]; exact Upto.set (Upto.refl _ _) 3 _
        have hB5 : Box4 w5 w.heap.size (.int .i64 k) (.string (B nm)) (.int .i64 i2) (.slice sa ts.length sc) 29 := by rw [hw5]; exact hB4.set3 _
        have hR5 : Box4 w5 (w.heap.size + 1) (.int .i64 0) (.string (B [])) (.int .i64 0) (.slice none 0 0) 29 := hR4.keep hset5 (by omega)
        have hO5 := hO4.keep hset5 (by omega)
        have hUw5 : Upto (fun x => x = okb) w w5 := (hU2.mono (fun _ _ e => e.elim)).trans (hUw4.trans hset5 (fun _ _ e => .inr e)) (fun x hx e => e.elim id (fun e => by omega))
        have hs5 := hset5.size
        have hM5 : RowM okb w.heap.size base w5 sa [] ts := hM4.keep hset5 (fun b e => ⟨.inr (by omega), by omega⟩)
        rw [← hw5]
        clear hw5 hB4 hR4 hO4 hM4 hset5 hUw4 z0 z1 z2 z3 v0 v1 v2 v3
        go_loopw [54] (fun v54 wr => ∃ (j : Nat) (us : List Tm) (o2 : Bool), v54 = .int .i64 j ∧ j ≤ ts.length ∧ us.length = j ∧ (Tm.mvokA f b k 0 (ts.take j) = true → us = Tm.mvA f b k 0 (ts.take j)) ∧ Tm.sizes us = Tm.sizes (ts.take j) ∧ o2 = (o1 && Tm.mvokA f b k 0 (ts.take j)) ∧ RowM okb w.heap.size base wr sa us ts ∧
            Box4 wr w.heap.size (.int .i64 k) (.string (B nm)) (.int .i64 i2) (.slice sa ts.length sc) 29 ∧ Box4 wr (w.heap.size + 1) (.int .i64 0) (.string (B [])) (.int .i64 0) (.slice none 0 0) 29 ∧
            Box1 wr okb (.bool o2) 4 ∧ Upto (fun x => x = okb) w wr ∧ base ≤ wr.heap.size)
          (fun v54 _ => ts.length - (intOf v54).toNat)
        case atStart => exact ⟨0, [], o1, rfl, Nat.zero_le _, rfl, fun _ => by simp [Tm.mvA], by simp, by simp [Tm.mvokA], hM5, hB5, hR5, hO5, hUw5, by omega⟩
        case round =>
          obtain ⟨j, us, o2, rfl, hj, huj, hus, hzs, ho2, hM, hB, hRr, hO2', hU, hbr⟩ := hrel
          obtain ⟨x0, x1, x2, x3⟩ := hB.cells
          have qB := hB.lt
          have hjb : (j : Int) ≤ 100000 := by omega
          have hj0 : (0 : Int) ≤ (j : Int) := by omega
          have hTr := hU.cell hT (by exact ht0)
          have hKr := hU.cell hK (by exact hK0)
          have hU0r : Upto none' w0 wr := hU0.trans hU (fun x hx e => by omega)
          have HS := hid (And.intro huj (And.intro hus (And.intro hzs ho2)))
          clear huj hus hzs ho2
          by_cases hlt : j < ts.length
          · obtain ⟨g, cs, rfl, hgb, hgl, hgf, hgn, hgc, _, hgr⟩ := hM j hlt
            have hRj := hgr hlt (by have := HS.out.1; omega)
            obtain ⟨kj, nj, ij, lj, aj, cj, htj, rfl, _, _⟩ := tm_open hRj
            have g0 := hgc 0 _ rfl
            rw [Nat.add_zero] at g0
            have g1 := hgc 1 _ rfl
            have g2 := hgc 2 _ rfl
            have g3 := hgc 3 _ rfl
            have hj1 : (j : Int) < (ts.length : Int) := by omega
            have hsj := Tm.size_le_sizes (List.getElem_mem hlt)
            have hun := Tm.under_le k j
            have IH := fun w' (h1 : Rep (fun x => x = okb) w' (ts[j]'hlt).dat [.int .i64 kj, .string (B nj), .int .i64 ij, .slice aj lj.length cj]) => ih (ts[j]'hlt) (List.getElem_mem hlt) (by omega) (hoks _ (List.getElem_mem hlt)) (b + Tm.under k j) o2 w' _ (by omega) (by omega) h1
            have HLT := hid (show j < ts.length from hlt)
            have HG := hid (And.intro htj hgc)
            clear htj hgc hgr hgn
            have hgo2 : ¬ g = okb := by omega
            have hg1 : w.heap.size ≠ g := by omega
            have hg2 : K ≠ g := by omega
            have hg3 : wr.heap.size ≠ g := by omega
            generalize lj.length = ljl at *
            have rest := under_ways k j
            generalize hu : Tm.under k j = u at *
            clear hun
            obtain ⟨wa, hwa⟩ : ∃ wa, wa = wr.alloc (.cells #[.int .i64 kj, .string (B nj), .int .i64 ij, .slice aj ljl cj] 29) := ⟨_, rfl⟩
            have hUa : Upto none' wr wa.drew := by rw [hwa]; exact ((Upto.refl none' wr).alloc _).drew
            have hza : wa.drew.heap.size = wr.heap.size + 1 := by rw [hwa]; simp [World.drew]
            have hTc : TcS wr.heap.size (.int .i64 kj) (.string (B nj)) (.int .i64 ij) (.slice aj ljl cj) wa.drew := by rw [hwa]; exact TcS.keep (Box4.at_new (T := 29) rfl).cells (Upto.refl none' _).drew (fun x => x)
            have hgo : okb < base ∧ K < base := by omega
            have S0 : MvS w.heap.size K wr.heap.size (some ⟨g, 0, none⟩) ts.length sc (.func (.func 209) #[] #[.pointer (some ⟨tob, 0, none⟩), .pointer (some ⟨okb, 0, none⟩), .pointer (some ⟨K, 0, none⟩)]) (.int .i64 kj) (.string (B nj)) (.int .i64 ij) (.slice aj ljl cj) wa.drew := ⟨hUa.cell x3 (fun x => x), hUa.cell hKr (fun x => x), hTc⟩
            have hRd := Rep.weaken (O' := fun x => x = okb) (fun b _ e => .inl e) _ _ (hRj.on hUa)
            have IH2 := IH _ hRd (hU0r.and hUa) (hO2'.kept hUa) (hUa.cell hTr (fun x => x)) (hUa.cell hKr (fun x => x))
            have HWA := hid hwa
            clear hwa IH hRd hRj hTc hTr
            rcases rest with ⟨k3, rfl⟩ | ⟨k3, k2, j1, rfl⟩ | ⟨k3, k2, j1, rfl⟩ | ⟨k3, k2, rfl⟩
            all_goals
              have HU := hid hu
              clear hu
              try simp only [Int.add_zero] at IH2
              go_wp2_with fail
              rw [← HWA.out]
              go_region_held3 (fun w' => MvS w.heap.size K wr.heap.size (some ⟨g, 0, none⟩) ts.length sc (.func (.func 209) #[] #[.pointer (some ⟨tob, 0, none⟩), .pointer (some ⟨okb, 0, none⟩), .pointer (some ⟨K, 0, none⟩)]) (.int .i64 kj) (.string (B nj)) (.int .i64 ij) (.slice aj ljl cj) w')
                (first | (with_reducible assumption) | (with_reducible exact S0) | (with_reducible exact MvS.set (MvS.set (MvS.set (MvS.set S6 hg1 hg2 hg3 _ _) hg1 hg2 hg3 _ _) hg1 hg2 hg3 _ _) hg1 hg2 hg3 _ _))
                ((go_at_call 209; refine IH2.mono ?_; rintro e w6 ⟨k6, i6, n6, a6, l6, c6, u6, rfl, hR6, hu6, hs6, hO6, hU6⟩; have S6 := S0.keep hU6 (by omega) (by omega) (by omega); have hU6' : Upto (fun x => x = okb) wr w6 := (hUa.mono (fun _ _ e => e.elim)).trans hU6 (fun _ _ e => e); have v0 := hU6'.cell g0 (by exact hgo2); have v1 := hU6'.cell g1 (by exact hgo2); have v2 := hU6'.cell g2 (by exact hgo2); have v3 := hU6'.cell g3 (by exact hgo2); have f6 := fun o => (hU6'.cells.2 g o hgl hgo2).trans (hgf o); have hz6 := hU6'.size))
            all_goals
              have hM6 := hM.keep hU6' (fun b e => ⟨.inl e, by omega⟩)
              have hnx := RowM.next (u := u6) (d0 := .int .i64 k6) (d1 := .string (B n6)) (d2 := .int .i64 i6) (d3 := .slice a6 l6 c6) hM6 (by have := HS.out.1; have := HLT.out; omega) (by omega) (Rep.weaken (fun b _ e => by omega) _ _ hR6) rfl
              rw [HS.out.1] at hnx
              have hB9 := (hB.keep hU6' (by omega)).keep hnx.2 (by omega)
              have hR9 := (hRr.keep hU6' (by omega)).keep hnx.2 (by omega)
              have hO9 := hO6.keep hnx.2 (by omega)
              have hU9 := (hU.trans hU6' (fun _ _ e => e)).trans hnx.2 (fun x hx e => by omega)
              have hz9 := hnx.2.size
              have n1 : (us ++ [u6]).length = j + 1 := by simp [HS.out.1]
              have n2 : Tm.mvokA f b k 0 (ts.take (j + 1)) = true → us ++ [u6] = Tm.mvA f b k 0 (ts.take (j + 1)) := by
                intro e
                rw [Tm.mvokA_take_succ _ _ _ _ _ hlt, HU.out, Bool.and_eq_true] at e
                rw [Tm.mvA_take_succ _ _ _ _ _ hlt, HU.out, HS.out.2.1 e.1]
                try simp only [Int.add_zero] at e ⊢
                rw [hu6 e.2]
              have n3 : Tm.sizes (us ++ [u6]) = Tm.sizes (ts.take (j + 1)) := by rw [Tm.sizes_append, Tm.sizes_take_succ _ _ hlt, HS.out.2.2.1]; simp [Tm.sizes, hs6]
              have n4 := HS.out.2.2.2
              have n5 := Tm.mvokA_take_succ f b k ts j hlt
              rw [HU.out] at n5
              try simp only [Int.add_zero] at n5
              have HN := hid (And.intro n1 (And.intro n2 (And.intro n3 (And.intro n4 n5))))
              clear n1 n2 n3 n4 n5 hu6 hs6
              go_wp2_with fail
              go_roundw
              case rel => exact ⟨j + 1, us ++ [u6], _, by go_num, Nat.succ_le_of_lt HLT.out, HN.out.1, HN.out.2.1, HN.out.2.2.1, by rw [HN.out.2.2.2.1, HN.out.2.2.2.2, Bool.and_assoc], hnx.1, hB9, hR9, hO9, hU9, by omega⟩
              case measure => (have := HLT.out; simp [intOf]; omega)
          · obtain ⟨r0, r1, r2, r3⟩ := hRr.cells
            obtain ⟨rf0, rf1, rf2, rf3⟩ := hRr.frozens
            have hjl : j = ts.length := by omega
            have hrep := hM.rep (by have := HS.out.1; omega)
            have hjn : ¬ (j : Int) < (ts.length : Int) := by omega
            have HJ := hid hjl
            clear hjl hM
            go_wp2_with fail
            obtain ⟨w9, hw9⟩ : ∃ w9, w9 = (((wr.setCell ⟨w.heap.size + 1, 0, none⟩ (.int .i64 k)).setCell ⟨w.heap.size + 1, 1, none⟩ (.string (B nm))).setCell ⟨w.heap.size + 1, 2, none⟩ (.int .i64 i2)).setCell ⟨w.heap.size + 1, 3, none⟩ (.slice sa ts.length sc) := ⟨_, rfl⟩
            have hset9 := hRr.set (d0 := .int .i64 k) (d1 := .string (B nm)) (d2 := .int .i64 i2) (d3 := .slice sa ts.length sc)
            rw [← hw9] at hset9
            rw [← hw9]
            clear hw9
            obtain ⟨e0, e1, e2, e3⟩ := hset9.1.cells
            refine bodyPost_ret (v := .agg #[.int .i64 k, .string (B nm), .int .i64 i2, .slice sa ts.length sc]) ?_ rfl ?_
            · simp [results, Tryz.f209, go_sem, e0, e1, e2, e3]
            · have h1 := HS.out.1
              have h2 := HS.out.2.1
              have h3 := HS.out.2.2.1
              have h4 := HS.out.2.2.2
              rw [List.take_of_length_le (by have := HJ.out; omega)] at h2 h3 h4
              have h5 : us.length = ts.length := by have := HJ.out; omega
              refine ⟨k, i2, nm, sa, ts.length, sc, .mk k nm i2 us, rfl, rep_tm.2 ⟨sa, sc, by rw [h5], by rw [h5]; exact hsc, ?_⟩, fun e => ?_, by simp [h3], ?_, hU.trans hset9.2 (fun x hx e => by omega)⟩
              · exact RepE.weaken (fun b _ e => by omega) _ _ _ _ (RepE.keep hset9.2 (fun b e => by omega) _ _ _ _ hrep)
              · rw [Tm.mvok_mk, Bool.and_eq_true] at e
                rw [Tm.mv_mk, HI.out.1 e.1, h2 e.2]
              · rw [Tm.mvok_mk, ← Bool.and_assoc, ← HI.out.2, ← h4]
                exact hO2'.keep hset9.2 (by omega)
end Go.Proofs.YtdomloghcpfdjaaGreatDoor
namespace Go.Proofs.YtdomloghcpfdjaaGreatDoor
open Go.RowKit Go.LF
/-- What move hands back: all of it in new blocks. -/
def Moved (f : Tm.To) (t : Tm) (w : World) (e : Ending) (w' : World) : Prop :=
  ∃ (k i : Int) (n : List UInt8) (a : Option Addr) (len cap : Nat) (u : Tm), e = .returned (.tuple #[.agg #[.int .i64 k, .string (B n), .int .i64 i, .slice a len cap], .bool (t.mvok f 0)]) ∧
    Rep (fun x => x < w.heap.size) w' u.dat [.int .i64 k, .string (B n), .int .i64 i, .slice a len cap] ∧ u = (if t.mvok f 0 then t.mv f 0 else .mk 0 [] 0 []) ∧ u.size ≤ t.size ∧ Upto none' w w'
set_option maxRecDepth 100000 in
set_option maxHeartbeats 4000000 in
theorem move_any (f : Tm.To) (F : FuncId) (caps : List Value) (t : Tm) (w : World) (cs : List Value) (hF : ToSays w F caps f) (hFE : ∀ args w, Sem.run Tryz.prog (callFunc F args) w = .ok (Next.enter F args) w) (hsz : t.size ≤ 100000)
    (hok : ∀ b, ∀ x ∈ t.nodes b, x.ok) (h : Rep none' w t.dat cs) : Calls Tryz.prog 153 #[.agg cs.toArray, .func (.func F) #[] caps.toArray] w (Moved f t w) := by
  obtain ⟨k, n, i, ts, a, cap, rfl, rfl, hcap, hE⟩ := tm_open h
  have hW := fun okb tob K h1 h2 h3 w' h4 h5 h6 h7 h8 => walk_any f w okb tob K F caps hF hFE h1 h2 h3 (.mk k n i ts) hsz hok 0 true w' [.int .i64 k, .string (B n), .int .i64 i, .slice a ts.length cap] (by omega) (by omega) h4 h5 h6 h7 h8
  clear hF hok
  obtain ⟨H, hH⟩ : ∃ H, H = w.heap.size := ⟨_, rfl⟩
  obtain ⟨w3, hw3⟩ : ∃ w3, w3 = ((w.alloc (.cells #[.int .i64 k, .string (B n), .int .i64 i, .slice a ts.length cap] 29)).alloc (.cells #[.func (.func F) #[] caps.toArray] 163)).alloc (.cells #[.int .i64 0, .string (B []), .int .i64 0, .slice none 0 0] 29) := ⟨_, rfl⟩
  obtain ⟨w5, hw5⟩ : ∃ w5, w5 = (w3.alloc (.cells #[.bool true] 4)).alloc (.cells #[.func (.func 209) #[] #[.pointer (some ⟨w.heap.size + 1, 0, none⟩), .pointer (some ⟨w.heap.size + 1 + 1 + 1, 0, none⟩), .pointer (some ⟨w.heap.size + 1 + 1 + 1 + 1, 0, none⟩)]] 143) := ⟨_, rfl⟩
  have hz3 : w3.heap.size = w.heap.size + 1 + 1 + 1 := by rw [hw3]; simp
  have hU3 : Upto none' w w3 := by rw [hw3]; exact (((Upto.refl none' w).alloc _).alloc _).alloc _
  have hU5 : Upto none' w3 w5 := by rw [hw5]; exact ((Upto.refl none' w3).alloc _).alloc _
  have hUw := hU3.and hU5
  have hT5 : Box1 w5 (w.heap.size + 1) (.func (.func F) #[] caps.toArray) 163 := by
    refine Box1.kept ?_ hU5
    rw [hw3]; exact (Box1.at_new (by simp)).kept ((Upto.refl none' _).alloc _)
  have hr5 : Box4 w5 (w.heap.size + 1 + 1) (.int .i64 0) (.string (B [])) (.int .i64 0) (.slice none 0 0) 29 := by
    refine Box4.kept ?_ hU5
    rw [hw3]; exact Box4.at_new (by simp)
  have ht5 : Box4 w5 w.heap.size (.int .i64 k) (.string (B n)) (.int .i64 i) (.slice a ts.length cap) 29 := by
    refine Box4.kept ?_ hU5
    rw [hw3]; exact ((Box4.at_new rfl).kept ((Upto.refl none' _).alloc _)).kept ((Upto.refl none' _).alloc _)
  have hO5 : Box1 w5 (w.heap.size + 1 + 1 + 1) (.bool true) 4 := by rw [hw5]; exact (Box1.at_new hz3).kept ((Upto.refl none' _).alloc _)
  have hK5 : Box1 w5 (w.heap.size + 1 + 1 + 1 + 1) (.func (.func 209) #[] #[.pointer (some ⟨w.heap.size + 1, 0, none⟩), .pointer (some ⟨w.heap.size + 1 + 1 + 1, 0, none⟩), .pointer (some ⟨w.heap.size + 1 + 1 + 1 + 1, 0, none⟩)]) 143 := by rw [hw5]; exact Box1.at_new (by simp [hz3])
  have hR5 : Rep (fun x => x = w.heap.size + 1 + 1 + 1) w5 (Tm.mk k n i ts).dat [.int .i64 k, .string (B n), .int .i64 i, .slice a ts.length cap] := (Rep.weaken (fun b _ e => .inr (by omega)) _ _ (Rep.fresh' _ _ h)).on hUw
  have hWW := hW (w.heap.size + 1 + 1 + 1) (w.heap.size + 1) (w.heap.size + 1 + 1 + 1 + 1) (by omega) (by omega) (by omega) w5 hR5 hUw hO5 hT5.cell hK5.cell
  have hq5 := hO5.lt
  rw [hw3] at hw5
  have HW5 := hid hw5
  clear hW hw3 hw5 hU3 hU5 hR5 hE h hK5 hT5 hO5
  clear hz3 w3 hH
  go_enter Tryz.func153, Tryz.ntmps153
  go_wp2_with fail
  rw [← show B [] = { data := #[] } from rfl, ← HW5.out]
  refine hWW.mono ?_
  rintro e w6 ⟨k6, i6, n6, a6, l6, c6, u, rfl, hR6, hu6, hs6, hO6, hU6⟩
  have hr6 := hr5.keep hU6 (by omega)
  have q0 := hO6.cell
  have q1 := hO6.lt
  obtain ⟨x0, x1, x2, x3⟩ := hr6.cells
  obtain ⟨y0, y1, y2, y3⟩ := hr6.frozens
  have qr := hr6.lt
  obtain ⟨ok, hok⟩ : ∃ ok, ok = (Tm.mk k n i ts).mvok f 0 := ⟨_, rfl⟩
  rw [← hok] at q0 hu6
  have HO := hid (And.intro hok (And.intro hu6 hs6))
  clear hok hu6 hs6 hWW
  simp only [Bool.true_and] at q0
  have hUw6 : Upto none' w w6 := hUw.trans hU6 (fun x hx e => by omega)
  have hUwz := hUw.size
  cases ok
  · go_wp2_with fail
    obtain ⟨w9, hw9⟩ : ∃ w9, w9 = ((((w6.setCell ⟨w.heap.size + 1 + 1, 0, none⟩ (.int .i64 0)).setCell ⟨w.heap.size + 1 + 1, 1, none⟩ (.string (B []))).setCell ⟨w.heap.size + 1 + 1, 2, none⟩ (.int .i64 0)).setCell ⟨w.heap.size + 1 + 1, 3, none⟩ (.slice none 0 0)).alloc (.cells #[.int .i64 k6, .string (B n6), .int .i64 i6, .slice a6 l6 c6] 29) := ⟨_, rfl⟩
    have hset := hr6.set (d0 := .int .i64 0) (d1 := .string (B [])) (d2 := .int .i64 0) (d3 := .slice none 0 0)
    have hB9 : Box4 w9 (w.heap.size + 1 + 1) (.int .i64 0) (.string (B [])) (.int .i64 0) (.slice none 0 0) 29 := by rw [hw9]; exact hset.1.kept ((Upto.refl none' _).alloc _)
    have hU9 : Upto (fun x => x = w.heap.size + 1 + 1) w6 w9 := by rw [hw9]; exact hset.2.alloc _
    rw [← hw9]
    clear hw9 hset
    obtain ⟨e0, e1, e2, e3⟩ := hB9.cells
    refine bodyPost_ret (v := .tuple #[.agg #[.int .i64 0, .string (B []), .int .i64 0, .slice none 0 0], .bool false]) ?_ rfl ?_
    · simp [results, Tryz.f153, go_sem, e0, e1, e2, e3]
    · exact ⟨0, 0, [], none, 0, 0, .mk 0 [] 0 [], by rw [← HO.out.1], rep_leaf _ _ _, by rw [← HO.out.1]; rfl, by simp [Tm.sizes], hUw6.trans hU9 (fun x hx e => by omega)⟩
  · go_wp2_with fail
    obtain ⟨w9, hw9⟩ : ∃ w9, w9 = ((((w6.setCell ⟨w.heap.size + 1 + 1, 0, none⟩ (.int .i64 k6)).setCell ⟨w.heap.size + 1 + 1, 1, none⟩ (.string (B n6))).setCell ⟨w.heap.size + 1 + 1, 2, none⟩ (.int .i64 i6)).setCell ⟨w.heap.size + 1 + 1, 3, none⟩ (.slice a6 l6 c6)).alloc (.cells #[.int .i64 k6, .string (B n6), .int .i64 i6, .slice a6 l6 c6] 29) := ⟨_, rfl⟩
    have hset := hr6.set (d0 := .int .i64 k6) (d1 := .string (B n6)) (d2 := .int .i64 i6) (d3 := .slice a6 l6 c6)
    have hB9 : Box4 w9 (w.heap.size + 1 + 1) (.int .i64 k6) (.string (B n6)) (.int .i64 i6) (.slice a6 l6 c6) 29 := by rw [hw9]; exact hset.1.kept ((Upto.refl none' _).alloc _)
    have hU9 : Upto (fun x => x = w.heap.size + 1 + 1) w6 w9 := by rw [hw9]; exact hset.2.alloc _
    rw [← hw9]
    clear hw9 hset
    obtain ⟨e0, e1, e2, e3⟩ := hB9.cells
    refine bodyPost_ret (v := .tuple #[.agg #[.int .i64 k6, .string (B n6), .int .i64 i6, .slice a6 l6 c6], .bool true]) ?_ rfl ?_
    · simp [results, Tryz.f153, go_sem, e0, e1, e2, e3]
    · exact ⟨k6, i6, n6, a6, l6, c6, u, by rw [← HO.out.1], Rep.weaken (fun b _ e => by omega) _ _ (Rep.keep hU9 (fun b e => by omega) _ _ hR6), by rw [← HO.out.1]; exact HO.out.2.1 trivial, by rw [HO.out.2.2]; exact Nat.le_refl _, hUw6.trans hU9 (fun x hx e => by omega)⟩
end Go.Proofs.YtdomloghcpfdjaaGreatDoor
namespace Go.LF.Tm
/-- What shifting does to a number. -/
def shiftF (by' from' : Int) : To := fun i => if i < from' then (i, true) else (Go.RowKit.wrap64 (i + by'), decide (by' ≤ 1048576))
def renF (l : List Int) : To := fun i => match l[i.toNat]? with | some n => (n, true) | none => (0, false)
def zero : Tm := mk 0 [] 0 []
def shiftE (t : Tm) (by' from' : Int) : Int := if t.wf ≠ 0 then t.wf else if by' < 0 ∨ from' < 0 then 5 else if mvok (shiftF by' from') 0 t then 0 else 5
def shiftT (t : Tm) (by' from' : Int) : Tm := if shiftE t by' from' = 0 then mv (shiftF by' from') 0 t else zero
def renB (t : Tm) (l : List Int) : Bool := t.wf == 0 && mvok (renF l) 0 t
def renT (t : Tm) (l : List Int) : Tm := if renB t l then mv (renF l) 0 t else zero
end Go.LF.Tm
namespace Go.Proofs.YtdomloghcpfdjaaGreatDoor
open Go.RowKit Go.LF
/-- A call hands back this term, in new blocks, and this value. -/
def Gives (u : Tm) (r : Value) (w : World) (e : Ending) (w' : World) : Prop :=
  ∃ (k i : Int) (n : List UInt8) (a : Option Addr) (len cap : Nat), e = .returned (.tuple #[.agg #[.int .i64 k, .string (B n), .int .i64 i, .slice a len cap], r]) ∧
    Rep (fun x => x < w.heap.size) w' u.dat [.int .i64 k, .string (B n), .int .i64 i, .slice a len cap] ∧ Upto none' w w'
theorem Gives.on {u : Tm} {r : Value} {w W W' : World} {e : Ending} (h : Gives u r w e W) (hU : Upto none' W W') : Gives u r w e W' := by
  obtain ⟨k, i, n, a, len, cap, h1, h2, h3⟩ := h
  exact ⟨k, i, n, a, len, cap, h1, h2.on hU, h3.and hU⟩
theorem gives_set {w W W' : World} {u : Tm} {r : Value} {k i : Int} {n : List UInt8} {a : Option Addr} {len cap hb : Nat} {T : TypeId} {z0 z1 z2 z3 : Value} (hr : Box4 W hb z0 z1 z2 z3 T) (hlt : w.heap.size ≤ hb) (hU : Upto none' w W)
    (hR : Rep (fun x => x ≤ hb) W u.dat [.int .i64 k, .string (B n), .int .i64 i, .slice a len cap])
    (hW : W' = (((W.setCell ⟨hb, 0, none⟩ (.int .i64 k)).setCell ⟨hb, 1, none⟩ (.string (B n))).setCell ⟨hb, 2, none⟩ (.int .i64 i)).setCell ⟨hb, 3, none⟩ (.slice a len cap)) :
    Gives u r w (.returned (.tuple #[.agg #[.int .i64 k, .string (B n), .int .i64 i, .slice a len cap], r])) W' ∧ Box4 W' hb (.int .i64 k) (.string (B n)) (.int .i64 i) (.slice a len cap) T := by
  have hs := hr.set (d0 := .int .i64 k) (d1 := .string (B n)) (d2 := .int .i64 i) (d3 := .slice a len cap)
  rw [← hW] at hs
  exact ⟨⟨k, i, n, a, len, cap, rfl, Rep.weaken (fun b _ e => Nat.le_of_lt (Nat.lt_of_lt_of_le e hlt)) _ _ (Rep.keep hs.2 (fun b e => Nat.le_of_eq e) _ _ hR), hU.trans hs.2 (fun b hb' e => by omega)⟩, hs.1⟩
theorem shift_to (w : World) (fb bb : Nat) (from' by' : Int) (h1 : w.cell? ⟨fb, 0, none⟩ = some (.int .i64 from')) (h2 : w.cell? ⟨bb, 0, none⟩ = some (.int .i64 by')) :
    ToSays w 154 [.pointer (some ⟨fb, 0, none⟩), .pointer (some ⟨bb, 0, none⟩)] (Tm.shiftF by' from') := by
  intro i W h0 hi hU
  have c1 := hU.cell h1 (fun x => x)
  have c2 := hU.cell h2 (fun x => x)
  by_cases hlt : i < from'
  · have hf : Tm.shiftF by' from' i = (i, true) := by unfold Tm.shiftF; rw [if_pos hlt]
    rw [hf]
    clear hf h1 h2 hU
    go_enter Tryz.func154, Tryz.ntmps154
    go_wp2_with fail
    refine bodyPost_ret (v := .tuple #[.int .i64 i, .bool true]) ?_ rfl ?_
    · simp [results, Tryz.f154, go_sem]
    · exact ⟨rfl, Upto.refl _ _⟩
  · have hf : Tm.shiftF by' from' i = (Go.RowKit.wrap64 (i + by'), decide (by' ≤ 1048576)) := by unfold Tm.shiftF; rw [if_neg hlt]
    rw [hf]
    clear hf h1 h2 hU
    go_enter Tryz.func154, Tryz.ntmps154
    go_wp2_with fail
    go_region
    all_goals
      go_wp2_with fail
      refine bodyPost_ret (v := .tuple #[.int .i64 (Go.RowKit.wrap64 (i + by')), .bool (decide (by' ≤ 1048576))]) ?_ rfl ?_
      · simp [results, Tryz.f154, go_sem]
      · exact ⟨rfl, (Upto.refl _ _).drew⟩
set_option maxRecDepth 100000 in
set_option maxHeartbeats 4000000 in
theorem shift_any (t : Tm) (hs : t.wt ≤ 1000000) (by' from' : Int) (w : World) (cs : List Value) (h : Rep none' w t.dat cs) :
    Calls Tryz.prog 71 #[.agg cs.toArray, .int .i64 by', .int .i64 from'] w (Gives (t.shiftT by' from') (.int .i64 (t.shiftE by' from')) w) := by
  have hwf := Tm.wf_ok t
  obtain ⟨k, n, i, ts, a, cap, ht, rfl, hcap, hE⟩ := tm_open h
  obtain ⟨w4, hw4⟩ : ∃ w4, w4 = (((w.alloc (.cells #[.int .i64 k, .string (B n), .int .i64 i, .slice a ts.length cap] 29)).alloc (.cells #[.int .i64 by'] 3)).alloc (.cells #[.int .i64 from'] 3)).alloc (.cells #[.int .i64 0, .string (B []), .int .i64 0, .slice none 0 0] 29) := ⟨_, rfl⟩
  have hU4 : Upto none' w w4 := by rw [hw4]; exact ((((Upto.refl none' w).alloc _).alloc _).alloc _).alloc _
  have ht4 : Box4 w4 w.heap.size (.int .i64 k) (.string (B n)) (.int .i64 i) (.slice a ts.length cap) 29 := by
    rw [hw4]; exact (((Box4.at_new rfl).kept ((Upto.refl none' _).alloc _)).kept ((Upto.refl none' _).alloc _)).kept ((Upto.refl none' _).alloc _)
  have hb4 : Box1 w4 (w.heap.size + 1) (.int .i64 by') 3 := by rw [hw4]; exact ((Box1.at_new (by simp)).kept ((Upto.refl none' _).alloc _)).kept ((Upto.refl none' _).alloc _)
  have hf4 : Box1 w4 (w.heap.size + 1 + 1) (.int .i64 from') 3 := by rw [hw4]; exact (Box1.at_new (by simp)).kept ((Upto.refl none' _).alloc _)
  have hr4 : Box4 w4 (w.heap.size + 1 + 1 + 1) (.int .i64 0) (.string (B [])) (.int .i64 0) (.slice none 0 0) 29 := by rw [hw4]; exact Box4.at_new (by simp)
  have h4 := h.on hU4
  have HW4 := hid hw4
  have HT := hid ht
  obtain ⟨x0, x1, x2, x3⟩ := ht4.cells
  clear hw4 ht hE h
  go_enter Tryz.func71, Tryz.ntmps71
  go_wp2_with fail
  rw [← show B [] = { data := #[] } from rfl, ← HW4.out]
  refine (wellFormed_any t hs w4 _ h4).mono ?_
  rintro e w5 ⟨rfl, hU5⟩
  have ht5 := ht4.kept hU5
  have hb5 := hb4.kept hU5
  have hf5 := hf4.kept hU5
  have hr5 := hr4.kept hU5
  have h5 := h4.on hU5
  have hUw5 := hU4.and hU5
  clear x0 x1 x2 x3 ht4 hb4 hf4 hr4 h4 hU4 hU5
  obtain ⟨x0, x1, x2, x3⟩ := ht5.cells
  obtain ⟨y0, y1, y2, y3⟩ := hr5.cells
  obtain ⟨z0, z1, z2, z3⟩ := hr5.frozens
  have b0 := hb5.cell
  have f0 := hf5.cell
  have q0 := hr5.lt
  obtain ⟨wf, hwf0⟩ : ∃ wf, wf = t.wf := ⟨_, rfl⟩
  rw [← hwf0] at hwf ⊢
  have HWF := hid hwf0
  clear hwf0
  by_cases h0 : wf = 0
  case neg =>
    have hE : t.shiftE by' from' = wf := by unfold Tm.shiftE; rw [← HWF.out, if_pos h0]
    have hT : t.shiftT by' from' = .mk 0 [] 0 [] := by unfold Tm.shiftT; rw [hE, if_neg h0]; rfl
    have hwn : (wf != 0) = true := by simp [h0]
    have HEE := hid (And.intro hE hT)
    clear hE hT hwf h0
    go_wp2_with fail
    obtain ⟨w8, hw8⟩ : ∃ w8, w8 = (((w5.setCell ⟨w.heap.size + 1 + 1 + 1, 0, none⟩ (.int .i64 0)).setCell ⟨w.heap.size + 1 + 1 + 1, 1, none⟩ (.string (B []))).setCell ⟨w.heap.size + 1 + 1 + 1, 2, none⟩ (.int .i64 0)).setCell ⟨w.heap.size + 1 + 1 + 1, 3, none⟩ (.slice none 0 0) := ⟨_, rfl⟩
    obtain ⟨hG, hB9⟩ := gives_set (r := .int .i64 wf) hr5 (by omega) hUw5 (rep_leaf (k := 0) (n := []) (i := 0)) hw8
    try rw [← show B [] = { data := #[] } from rfl]
    rw [← hw8]
    clear hw8
    obtain ⟨e0, e1, e2, e3⟩ := hB9.cells
    refine bodyPost_ret (v := .tuple #[.agg #[.int .i64 0, .string (B []), .int .i64 0, .slice none 0 0], .int .i64 wf]) ?_ rfl ?_
    · simp [results, Tryz.f71, go_sem, e0, e1, e2, e3]
    · rw [HEE.out.1, HEE.out.2]; exact hG
  case pos =>
    subst h0
    obtain ⟨hok, hsz, _⟩ := hwf rfl
    have hSE : t.shiftE by' from' = if by' < 0 ∨ from' < 0 then 5 else if Tm.mvok (Tm.shiftF by' from') 0 t then 0 else 5 := by unfold Tm.shiftE; rw [← HWF.out, if_neg (by omega)]
    have HSE := hid hSE
    have hTS := shift_to w5 (w.heap.size + 1 + 1) (w.heap.size + 1) from' by' f0 b0
    have HM := fun h => move_any (Tm.shiftF by' from') 154 _ t w5 [.int .i64 k, .string (B n), .int .i64 i, .slice a ts.length cap] hTS (fun _ _ => by simp only [go_sem, Tryz.call154]) (by omega) hok h
    have HM2 := HM h5
    clear hSE hwf hok hsz HM hTS
    have hways : by' < 0 ∨ (0 ≤ by' ∧ from' < 0) ∨ (0 ≤ by' ∧ 0 ≤ from') := by omega
    rcases hways with g1 | ⟨g1, g2⟩ | ⟨g1, g2⟩
    case' inl => have hE : t.shiftE by' from' = 5 := by rw [HSE.out, if_pos (.inl g1)]
    case' inr.inl => have hE : t.shiftE by' from' = 5 := by rw [HSE.out, if_pos (.inr g2)]
    case' inr.inr =>
      have hE : t.shiftE by' from' = if Tm.mvok (Tm.shiftF by' from') 0 t then 0 else 5 := by rw [HSE.out, if_neg (by omega)]
      have HE := hid hE
      clear hE
      go_wp2_with fail
      refine HM2.mono ?_
      rintro e w6 ⟨k6, i6, n6, a6, l6, c6, u, rfl, hR6, hu6, hs6, hU6⟩
      have hr6 := hr5.kept hU6
      have hUw6 := hUw5.and hU6
      have hR7 := Rep.weaken (O' := fun x => x ≤ w.heap.size + 1 + 1 + 1) (fun b _ e => by omega) _ _ hR6
      clear y0 y1 y2 y3 z0 z1 z2 z3 HM2
      obtain ⟨y0, y1, y2, y3⟩ := hr6.cells
      obtain ⟨z0, z1, z2, z3⟩ := hr6.frozens
      have q6 := hr6.lt
      obtain ⟨ok, hok⟩ : ∃ ok, ok = t.mvok (Tm.shiftF by' from') 0 := ⟨_, rfl⟩
      rw [← hok] at hu6 ⊢
      have HO := hid (And.intro hok hu6)
      clear hok hu6
      cases ok
    all_goals first
      | (have hT : t.shiftT by' from' = .mk 0 [] 0 [] := by unfold Tm.shiftT; rw [hE]; rfl
         have HEE := hid (And.intro hE hT)
         clear hE hT HM2
         go_wp2_with fail
         obtain ⟨w8, hw8⟩ : ∃ w8, w8 = (((w5.setCell ⟨w.heap.size + 1 + 1 + 1, 0, none⟩ (.int .i64 0)).setCell ⟨w.heap.size + 1 + 1 + 1, 1, none⟩ (.string (B []))).setCell ⟨w.heap.size + 1 + 1 + 1, 2, none⟩ (.int .i64 0)).setCell ⟨w.heap.size + 1 + 1 + 1, 3, none⟩ (.slice none 0 0) := ⟨_, rfl⟩
         obtain ⟨hG, hB9⟩ := gives_set (r := .int .i64 5) hr5 (by omega) hUw5 (rep_leaf (k := 0) (n := []) (i := 0)) hw8
         try rw [← show B [] = { data := #[] } from rfl]
         rw [← hw8]
         clear hw8
         obtain ⟨e0, e1, e2, e3⟩ := hB9.cells
         refine bodyPost_ret (v := .tuple #[.agg #[.int .i64 0, .string (B []), .int .i64 0, .slice none 0 0], .int .i64 5]) ?_ rfl ?_
         · simp [results, Tryz.f71, go_sem, e0, e1, e2, e3]
         · rw [HEE.out.1, HEE.out.2]; exact hG)
      | skip
    case false =>
      have hE : t.shiftE by' from' = 5 := by rw [HE.out, ← HO.out.1]; rfl
      have hT : t.shiftT by' from' = .mk 0 [] 0 [] := by unfold Tm.shiftT; rw [hE]; rfl
      have HEE := hid (And.intro hE hT)
      clear hE hT
      go_wp2_with fail
      obtain ⟨w8, hw8⟩ : ∃ w8, w8 = (((w6.setCell ⟨w.heap.size + 1 + 1 + 1, 0, none⟩ (.int .i64 0)).setCell ⟨w.heap.size + 1 + 1 + 1, 1, none⟩ (.string (B []))).setCell ⟨w.heap.size + 1 + 1 + 1, 2, none⟩ (.int .i64 0)).setCell ⟨w.heap.size + 1 + 1 + 1, 3, none⟩ (.slice none 0 0) := ⟨_, rfl⟩
      obtain ⟨hG, hB9⟩ := gives_set (r := .int .i64 5) hr6 (by omega) hUw6 (rep_leaf (k := 0) (n := []) (i := 0)) hw8
      obtain ⟨w9, hw9⟩ : ∃ w9, w9 = w8.alloc (.cells #[.int .i64 k6, .string (B n6), .int .i64 i6, .slice a6 l6 c6] 29) := ⟨_, rfl⟩
      replace hG := hG.on (W' := w9) (by rw [hw9]; exact (Upto.refl none' w8).alloc _)
      replace hB9 := hB9.kept (W' := w9) (by rw [hw9]; exact (Upto.refl none' w8).alloc _)
      rw [hw8] at hw9
      try rw [← show B [] = { data := #[] } from rfl]
      rw [← hw9]
      clear hw9 hw8
      obtain ⟨e0, e1, e2, e3⟩ := hB9.cells
      refine bodyPost_ret (v := .tuple #[.agg #[.int .i64 0, .string (B []), .int .i64 0, .slice none 0 0], .int .i64 5]) ?_ rfl ?_
      · simp [results, Tryz.f71, go_sem, e0, e1, e2, e3]
      · rw [HEE.out.1, HEE.out.2]; exact hG
    case true =>
      have hE : t.shiftE by' from' = 0 := by rw [HE.out, ← HO.out.1]; rfl
      have hT : t.shiftT by' from' = u := by unfold Tm.shiftT; rw [hE, HO.out.2]; rfl
      have HEE := hid (And.intro hE hT)
      clear hE hT
      go_wp2_with fail
      obtain ⟨w8, hw8⟩ : ∃ w8, w8 = (((w6.setCell ⟨w.heap.size + 1 + 1 + 1, 0, none⟩ (.int .i64 k6)).setCell ⟨w.heap.size + 1 + 1 + 1, 1, none⟩ (.string (B n6))).setCell ⟨w.heap.size + 1 + 1 + 1, 2, none⟩ (.int .i64 i6)).setCell ⟨w.heap.size + 1 + 1 + 1, 3, none⟩ (.slice a6 l6 c6) := ⟨_, rfl⟩
      obtain ⟨hG, hB9⟩ := gives_set (r := .int .i64 0) hr6 (by omega) hUw6 hR7 hw8
      obtain ⟨w9, hw9⟩ : ∃ w9, w9 = w8.alloc (.cells #[.int .i64 k6, .string (B n6), .int .i64 i6, .slice a6 l6 c6] 29) := ⟨_, rfl⟩
      replace hG := hG.on (W' := w9) (by rw [hw9]; exact (Upto.refl none' w8).alloc _)
      replace hB9 := hB9.kept (W' := w9) (by rw [hw9]; exact (Upto.refl none' w8).alloc _)
      rw [hw8] at hw9
      try rw [← show B [] = { data := #[] } from rfl]
      rw [← hw9]
      clear hw9 hw8
      obtain ⟨e0, e1, e2, e3⟩ := hB9.cells
      refine bodyPost_ret (v := .tuple #[.agg #[.int .i64 k6, .string (B n6), .int .i64 i6, .slice a6 l6 c6], .int .i64 0]) ?_ rfl ?_
      · simp [results, Tryz.f71, go_sem, e0, e1, e2, e3]
      · rw [HEE.out.1, HEE.out.2]; exact hG
end Go.Proofs.YtdomloghcpfdjaaGreatDoor
namespace Go.Proofs.YtdomloghcpfdjaaGreatDoor
open Go.RowKit Go.LF
end Go.Proofs.YtdomloghcpfdjaaGreatDoor
namespace Go.LF.Tm
/-- What the reference's Move does to a number. -/
def shF (by' from' : Int) : To := fun v => (if v < from' then v else v + by', true)
end Go.LF.Tm
namespace Go.Proofs.YtdomloghcpfdjaaGreatDoor
open Go.RowKit Go.LF
/-- A call hands back this term, in new blocks. -/
def NewTm (u : Tm) (w : World) (e : Ending) (w' : World) : Prop :=
  ∃ (k i : Int) (n : List UInt8) (a : Option Addr) (len cap : Nat), e = .returned (.agg #[.int .i64 k, .string (B n), .int .i64 i, .slice a len cap]) ∧
    Rep (fun x => x < w.heap.size) w' u.dat [.int .i64 k, .string (B n), .int .i64 i, .slice a len cap] ∧ Upto none' w w'
end Go.Proofs.YtdomloghcpfdjaaGreatDoor
namespace Go.LF
end Go.LF
namespace Go.LF.Tm
theorem mvi_eq {f g : To} {x : Nd0} (h : x.k = 5 → x.b ≤ x.i → (f (x.i - x.b)).1 = (g (x.i - x.b)).1) : mvi f x.b x.k x.i = mvi g x.b x.k x.i := by
  unfold mvi
  by_cases hk : x.k = 5 ∧ x.b ≤ x.i
  · rw [if_pos hk, if_pos hk, h hk.1 hk.2]
  · rw [if_neg hk, if_neg hk]
theorem shiftF_small {a c v : Int} (ha : 0 ≤ a) (ha2 : a ≤ 1048576) (hv : 0 ≤ v) (hv2 : v ≤ 1048576) : shiftF a c v = (if v < c then v else v + a, true) := by
  unfold shiftF
  by_cases h : v < c
  · rw [if_pos h, if_pos h]
  · rw [if_neg h, if_neg h, decide_eq_true ha2]
    congr 1
    unfold Go.RowKit.wrap64
    omega
end Go.LF.Tm
namespace Go.LF.Tm
mutual
/-- The greatest index of a variable, or -1. -/
def great : Tm → Int
  | mk k _ i l => greats (if k == 5 then i else -1) l
def greats (acc : Int) : List Tm → Int
  | [] => acc
  | t :: ts => greats (max acc (great t)) ts
end
theorem great_le (t : Tm) (m : Int) (hm : -1 ≤ m) : ∀ b, (great t ≤ m ↔ ∀ x ∈ nodes b t, x.k = 5 → x.i ≤ m) := by
  induction t using ind with
  | h k n i l ih =>
    intro b
    have key : ∀ (l' : List Tm), (∀ t ∈ l', ∀ b, (great t ≤ m ↔ ∀ x ∈ nodes b t, x.k = 5 → x.i ≤ m)) → ∀ j acc, (greats acc l' ≤ m ↔ acc ≤ m ∧ ∀ x ∈ nodesA b k j l', x.k = 5 → x.i ≤ m) := by
      intro l'
      induction l' with
      | nil => intro _ j acc; simp [greats, nodesA]
      | cons t ts ih2 =>
        intro h j acc
        rw [greats, ih2 (fun t ht => h t (by simp [ht])) (j + 1)]
        have h1 := h t (by simp) (b + under k j)
        simp only [nodesA, List.mem_append]
        constructor
        · rintro ⟨h2, h3⟩
          refine ⟨by omega, fun x hx => ?_⟩
          rcases hx with hx | hx
          · exact h1.1 (by omega) x hx
          · exact h3 x hx
        · rintro ⟨h2, h3⟩
          have := h1.2 (fun x hx => h3 x (.inl hx))
          exact ⟨by omega, fun x hx => h3 x (.inr hx)⟩
    rw [great, key l ih 0, nodes_mk]
    constructor
    · rintro ⟨h1, h2⟩ x hx hk
      rcases List.mem_cons.1 hx with rfl | hx
      · simp only at hk; subst hk; simpa using h1
      · exact h2 x hx hk
    · intro h
      refine ⟨?_, fun x hx => h x (by simp [hx])⟩
      by_cases hk : (k == 5) = true
      · rw [if_pos hk]; exact h ⟨b, k, n, i⟩ (by simp) (by simpa using hk)
      · rw [if_neg hk]; omega
theorem shift_ref (t : Tm) (hw : t.wf = 0) (by' from' : Int) (h0 : 0 ≤ by') (h1 : by' ≤ 1048576) (_h2 : 0 ≤ from') (_h3 : from' ≤ 1048576) :
    mv (shF by' from') 0 t = mv (shiftF by' from') 0 t ∧ (great (mv (shF by' from') 0 t) ≤ 1048576 ↔ mvok (shiftF by' from') 0 t = true) := by
  have hok := (wf_ok t hw).1 0
  have hsz := (wf_ok t hw).2.1
  have hn : ∀ x ∈ nodes 0 t, x.k = 5 → 0 ≤ x.i ∧ x.i ≤ 1048576 ∧ 0 ≤ x.b := fun x hx hk => by
    have := (hok x hx).1 (by simp [hk])
    have := nodes_b t 0 x hx
    omega
  have e1 : mv (shF by' from') 0 t = mv (shiftF by' from') 0 t := mv_congr _ _ _ _ (fun x hx => mvi_eq (fun hk hb => by
    have := hn x hx hk
    rw [shiftF_small h0 h1 (by omega) (by omega)]
    rfl))
  refine ⟨e1, ?_⟩
  rw [great_le _ _ (by omega) 0, nodes_mv, mvok_nodes, List.all_eq_true]
  constructor
  · intro h x hx
    unfold oki
    by_cases hk : x.k = 5 ∧ x.b ≤ x.i
    · have h4 := hn x hx hk.1
      have h5 := h _ (List.mem_map.2 ⟨x, hx, rfl⟩) hk.1
      simp only [mvi] at h5
      rw [if_pos hk] at h5
      rw [shiftF_small h0 h1 (by omega) (by omega)]
      unfold shF at h5
      simp only at h5
      simp only [hk.1, Bool.or_eq_true, Bool.and_eq_true, decide_eq_true_eq, Bool.true_and]
      right
      split at h5 <;> rename_i hlt
      · rw [if_pos hlt]; omega
      · rw [if_neg hlt]; omega
    · have : (x.k == 5 && decide (x.b ≤ x.i)) = false := by rw [Bool.eq_false_iff]; intro e; exact hk (by simpa using e)
      rw [this]; rfl
  · intro h y hy hk5
    obtain ⟨x, hx, rfl⟩ := List.mem_map.1 hy
    simp only at hk5 ⊢
    have h4 := hn x hx hk5
    unfold mvi
    by_cases hb : x.b ≤ x.i
    · rw [if_pos ⟨hk5, hb⟩]
      have h5 := h x hx
      unfold oki at h5
      rw [shiftF_small h0 h1 (by omega) (by omega)] at h5
      simp only [hk5, hb] at h5
      simp at h5
      unfold shF
      simp only
      split <;> rename_i hlt
      · omega
      · rw [if_neg hlt] at h5; omega
    · rw [if_neg (fun e => hb e.2)]; omega
end Go.LF.Tm
namespace Go.Proofs.YtdomloghcpfdjaaGreatDoor
open Go.RowKit Go.LF
/-- What a round of the reference's functions needs of a world: the variable t, and an argument of it. -/
abbrev RfS (tb eb eo : Nat) (c0 c1 c2 c3 d0 d1 d2 d3 : Value) (w' : World) : Prop :=
  TcS tb c0 c1 c2 c3 w' ∧ w'.cell? ⟨eb, eo, none⟩ = some d0 ∧ w'.cell? ⟨eb, eo + 1, none⟩ = some d1 ∧ w'.cell? ⟨eb, eo + 2, none⟩ = some d2 ∧ w'.cell? ⟨eb, eo + 3, none⟩ = some d3
theorem RfS.keep {tb eb eo : Nat} {c0 c1 c2 c3 d0 d1 d2 d3 : Value} {w w' : World} {S : Nat → Prop} (h : RfS tb eb eo c0 c1 c2 c3 d0 d1 d2 d3 w) (hU : Upto S w w') (h1 : ¬ S tb) (h2 : ¬ S eb) : RfS tb eb eo c0 c1 c2 c3 d0 d1 d2 d3 w' :=
  ⟨h.1.keep hU h1, hU.cell h.2.1 h2, hU.cell h.2.2.1 h2, hU.cell h.2.2.2.1 h2, hU.cell h.2.2.2.2 h2⟩
theorem RfS.on {tb eb eo : Nat} {c0 c1 c2 c3 d0 d1 d2 d3 : Value} {w w' : World} (h : RfS tb eb eo c0 c1 c2 c3 d0 d1 d2 d3 w) (hU : Upto none' w w') : RfS tb eb eo c0 c1 c2 c3 d0 d1 d2 d3 w' := h.keep hU (fun x => x) (fun x => x)
theorem RfS.new {tb eb eo : Nat} {c0 c1 c2 c3 d0 d1 d2 d3 : Value} {w : World} (h : RfS tb eb eo c0 c1 c2 c3 d0 d1 d2 d3 w) (o : Obj) : RfS tb eb eo c0 c1 c2 c3 d0 d1 d2 d3 (w.alloc o) := h.on ((Upto.refl none' w).alloc o)
theorem RfS.set {tb eb eo r : Nat} {c0 c1 c2 c3 d0 d1 d2 d3 : Value} {w : World} (h : RfS tb eb eo c0 c1 c2 c3 d0 d1 d2 d3 w) (h1 : tb ≠ r) (h2 : eb ≠ r) (o : Nat) (v : Value) : RfS tb eb eo c0 c1 c2 c3 d0 d1 d2 d3 (w.setCell ⟨r, o, none⟩ v) := h.keep (Upto.set (Upto.refl _ w) o v) h1 h2
end Go.Proofs.YtdomloghcpfdjaaGreatDoor
namespace Go.Proofs.YtdomloghcpfdjaaGreatDoor
open Go.RowKit Go.LF
end Go.Proofs.YtdomloghcpfdjaaGreatDoor
namespace Go.Proofs.YtdomloghcpfdjaaGreatDoor
open Go.RowKit Go.LF
/-- A block with these numbers. -/
def NumB (W : World) (g : Nat) (l : List Int) : Prop := W.heap[g]? = some (.cells (l.map (Value.int .i64)).toArray 3 (0, 0))
section
variable {W W' : World} {g : Nat} {l : List Int} {S : Nat → Prop}
theorem NumB.lt (h : NumB W g l) : g < W.heap.size := (Array.getElem?_eq_some_iff.1 h).1
theorem NumB.cell (h : NumB W g l) (i : Nat) (hi : i < l.length) : W.cell? ⟨g, i, none⟩ = some (.int .i64 (l.getD i 0)) := by
  unfold NumB at h
  simp [World.cell?, h, List.getD, hi]
theorem NumB.frozen (h : NumB W g l) (i : Nat) : W.frozen? ⟨g, i, none⟩ = false := by unfold NumB at h; simp [World.frozen?, h]
theorem NumB.keep (h : NumB W g l) (hU : Upto S W W') (hS : ¬ S g) : NumB W' g l := (hU.block g h.lt hS).trans h
theorem NumB.set (h : NumB W g l) (i : Nat) (_hi : i < l.length) (x : Int) : NumB (W.setCell ⟨g, i, none⟩ (.int .i64 x)) g (l.set i x) := by
  obtain ⟨hlt, hk⟩ := Array.getElem?_eq_some_iff.1 h
  show (W.heap.modify g _)[g]? = _
  rw [Array.getElem?_eq_getElem (by rw [Array.size_modify]; exact hlt), Array.getElem_modify_self, hk]
  simp
theorem NumB.rep (h : NumB W g l) {O : Nat → Prop} (hO : ¬ O g) : RepE O W 1 (l.map (Dat.int .i64)) (some ⟨g, 0, none⟩) 0 :=
  repE_row (V := Value.int .i64) (fun x => by simp [Rep]) l _ 0 (fun i hi => ⟨g, rfl, h.lt, hO, by rw [Nat.zero_add, h.cell i hi]; simp [List.getD, hi]⟩)
end
end Go.Proofs.YtdomloghcpfdjaaGreatDoor
namespace Go.Proofs.YtdomloghcpfdjaaGreatDoor
open Go.RowKit Go.LF
theorem rep_pre {O : Nat → Prop} {w : World} {d : Dat} {cs : List Value} (h : Rep O w d cs) : Rep none' w d cs := Rep.weaken (fun _ _ x => x.elim) _ _ h
end Go.Proofs.YtdomloghcpfdjaaGreatDoor
namespace Go.Proofs.YtdomloghcpfdjaaGreatDoor
open Go.RowKit Go.LF
end Go.Proofs.YtdomloghcpfdjaaGreatDoor
