/- Two rows beside each other. -/
import Derived.Test.YtadphaobbpngkaaEA
import Derived.Test.YtadphaobbpngkaaCL
namespace Go.Proofs.Ytadphaobbpngkaa
open Go.RowKit Go.LF
section
variable {T T2 : TypeId} {wd wd2 : Nat} {O : Nat → Prop} {base : Nat} {W W' : World} {v v2 : Value} {ds ds2 : List Dat} {css css2 : List (List Value)}
theorem RowD.keepO {S : Nat → Prop} (h : RowD T wd O base W v ds css) (hU : Upto S W W') (hS : ∀ b, S b → O b) (hO : ∀ b, v.ownBlock = some b → ¬ S b) : RowD T wd O base W' v ds css := by
  obtain ⟨h1, h2, h3, h4⟩ := h
  refine ⟨h1, h2, ⟨h3.1, ?_⟩, fun i h h' => Rep.keep hU (fun b hb => .inl (hS b hb)) _ _ (h4 i h h')⟩
  rcases h3.2 with h5 | ⟨g, cap, cur, rfl, hb, hg, rest⟩
  · exact .inl h5
  · exact .inr ⟨g, cap, cur, rfl, hb, (hU.block g (Array.getElem?_eq_some_iff.1 hg).1 (hO g rfl)).trans hg, rest⟩
theorem RowD.weaken {O' : Nat → Prop} (h : RowD T wd O base W v ds css) (hs : ∀ k, k < W.heap.size → O' k → O k) : RowD T wd O' base W v ds css :=
  ⟨h.1, h.2.1, h.2.2.1, fun i h1 h2 => Rep.weaken (fun b hb e => e.elim (fun e => .inl (hs b hb e)) .inr) _ _ (h.2.2.2 i h1 h2)⟩
theorem RowD.fresh (h : RowD T wd O base W v ds css) : RowD T wd (fun b => O b ∨ W.heap.size ≤ b) base W v ds css :=
  ⟨h.1, h.2.1, h.2.2.1, fun i h1 h2 => Rep.weaken (fun _ _ e => e.elim (fun e => e.elim (fun e => .inl (.inl e)) .inr) (fun e => .inl (.inr e))) _ _ (Rep.freshO (h.2.2.2 i h1 h2))⟩
/-- Two rows of their own, apart from each other. -/
structure Two (T : TypeId) (wd : Nat) (T2 : TypeId) (wd2 : Nat) (base : Nat) (W : World) (v : Value) (ds : List Dat) (css : List (List Value)) (v2 : Value) (ds2 : List Dat) (css2 : List (List Value)) : Prop where
  one : RowD T wd (fun b => b < base ∨ v2.ownBlock = some b) base W v ds css
  two : RowD T2 wd2 (fun b => b < base ∨ v.ownBlock = some b) base W v2 ds2 css2
  apart : ∀ g, v.ownBlock = some g → ¬ v2.ownBlock = some g
theorem Two.swap (h : Two T wd T2 wd2 base W v ds css v2 ds2 css2) : Two T2 wd2 T wd base W v2 ds2 css2 v ds css := ⟨h.two, h.one, fun g e e' => h.apart g e' e⟩
theorem Two.keep {S : Nat → Prop} (h : Two T wd T2 wd2 base W v ds css v2 ds2 css2) (hU : Upto S W W') (hS : ∀ b, S b → b < base) : Two T wd T2 wd2 base W' v ds css v2 ds2 css2 :=
  ⟨h.one.keepO hU (fun b e => .inl (hS b e)) (fun b e s => by have := (h.one.2.2.1.lt b e).1; have := hS b s; omega), h.two.keepO hU (fun b e => .inl (hS b e)) (fun b e s => by have := (h.two.2.2.1.lt b e).1; have := hS b s; omega), h.apart⟩
theorem Two.on (h : Two T wd T2 wd2 base W v ds css v2 ds2 css2) (hU : Upto none' W W') : Two T wd T2 wd2 base W' v ds css v2 ds2 css2 := h.keep hU (fun _ x => x.elim)
/-- One element more in the first row. -/
theorem Two.appended {d : Dat} {cs : List Value} {g cap H : Nat} (h : Two T wd T2 wd2 base W v ds css v2 ds2 css2) (hcs : cs.length = wd)
    (hr : Rep (fun b => (b < base ∨ v2.ownBlock = some b) ∨ v.ownBlock = some b) W d cs) (hown : W'.ownsRow base T wd (.slice (some ⟨g, 0, none⟩) (ds.length + 1) cap) (ds.length + 1) (css.flatten ++ cs)) (hg : W.grownBy W' v.ownBlock)
    (hat : v.ownBlock = some g ∨ g = H) (hH : W.heap.size ≤ H) : Two T wd T2 wd2 base W' (.slice (some ⟨g, 0, none⟩) (ds.length + 1) cap) (ds ++ [d]) (css ++ [cs]) v2 ds2 css2 := by
  have hgo := grown_own hg
  refine ⟨h.one.appended hcs hr hown hg hat hH, ?_, fun x e => ?_⟩
  · have h2 := (h.two.fresh).keepO hgo (fun b e => .inl (.inr e)) (fun b e s => h.apart b s e)
    refine h2.weaken (fun b _ e => ?_)
    rcases e with e | e
    · exact .inl (.inl e)
    · simp only [Value.ownBlock, Option.some.injEq] at e
      subst e
      rcases hat with hat | rfl
      · exact .inl (.inr hat)
      · exact .inr hH
  · simp only [Value.ownBlock, Option.some.injEq] at e
    subst e
    rcases hat with hat | rfl
    · exact h.apart _ hat
    · intro e2
      have := (h.two.2.2.1.lt _ e2).2
      omega
theorem Two.upto (h : Two T wd T2 wd2 base W v ds css v2 ds2 css2) (hg : W.grownBy W' v.ownBlock) : Upto (fun k => base ≤ k) W W' := h.one.upto hg
theorem Two.nil (T : TypeId) (wd : Nat) (T2 : TypeId) (wd2 : Nat) (base : Nat) (W : World) : Two T wd T2 wd2 base W (.slice none 0 0) [] [] (.slice none 0 0) [] [] := ⟨RowD.nil _ _ _ _ _, RowD.nil _ _ _ _ _, fun g e => by simp [Value.ownBlock] at e⟩
end
end Go.Proofs.Ytadphaobbpngkaa
