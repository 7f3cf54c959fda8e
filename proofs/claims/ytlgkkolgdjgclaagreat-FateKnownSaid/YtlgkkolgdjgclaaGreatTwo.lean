/- Two systems with their tries in memory, apart. -/
import Derived.Test.YtlgkkolgdjgclaaGreatSw1
namespace Go.Proofs.YtlgkkolgdjgclaaGreat
open Go.RowKit Go.Shelf Go.Maps
set_option linter.unusedVariables false
set_option linter.unusedSimpArgs false

section
variable {v0 w0 w w' : World} {ow ow2 : Nat → Option Own} {L L2 : Lay} {s s' s2 : SysS} {oz oz2 : Nat → Option OwnW} {M M2 : SwL} {z z' z2 : SwS}
theorem PSt.base {F : Nat → Prop} {p b : Nat} {tag : Int} {S : Ln} (h : PSt w0 w F p b tag S) (hb : Below v0.heap.size v0 w0) : PSt v0 w F p b tag S :=
  ⟨h.cell, h.q, h.apart, Nat.le_trans hb.size h.newp, fun k hk => Nat.le_trans hb.size (h.new k hk), hb.trans (h.old.mono hb.size)⟩
theorem CSt.base {F : Nat → Prop} {c p b r : Nat} {d : CoreS} (h : CSt w0 w F c p b r d) (hb : Below v0.heap.size v0 w0) : CSt v0 w F c p b r d :=
  ⟨h.cell, h.pol.base hb, h.map, h.cF, h.rF, h.cp, h.rp, h.cr, Nat.le_trans hb.size h.newc, Nat.le_trans hb.size h.newr⟩
theorem SysIn.base (h : SysIn w0 w ow L s) (hb : Below v0.heap.size v0 w0) : SysIn v0 w ow L s := by
  refine ⟨h.top, h.arr, h.grp, h.slt, h.map, h.tsk, fun i c hc => ?_, h.cbl, h.oT, h.oA, h.oG, h.oS, h.oP, h.oM, fun k x hk => ⟨Nat.le_trans hb.size (h.lt k x hk).1, (h.lt k x hk).2⟩, hb.trans (h.old.mono hb.size)⟩
  obtain ⟨bl, F, p, q, r, h1, h2, h3⟩ := h.cor i c hc
  exact ⟨bl, F, p, q, r, h1, h2.base hb, h3⟩
theorem TryAt.base {t cp : Nat} {G : Nat → Prop} {x : TryS} {lv : Int} (h : TryAt w0 w t G cp x lv) (hb : Below v0.heap.size v0 w0) : TryAt v0 w t G cp x lv := by
  obtain ⟨a, n, k, q, h1, h2, h3⟩ := h.cell
  refine ⟨⟨a, n, k, q, h1, fun e => ?_, fun e => ?_⟩, h.tG, Nat.le_trans hb.size h.newt, fun j hj => ⟨Nat.le_trans hb.size (h.new j hj).1, (h.new j hj).2⟩⟩
  · obtain ⟨g1, g2, g3⟩ := h2 e
    exact ⟨g1, own_base g2 hb.size, g3⟩
  · obtain ⟨p2, H, b2, g1, g2, g3⟩ := h3 e
    exact ⟨p2, H, b2, g1, g2.base hb, g3⟩
theorem SwIn.base (h : SwIn w0 w ow L s oz M z) (hb : Below v0.heap.size v0 w0) : SwIn v0 w ow L s oz M z := by
  refine ⟨h.sys.base hb, h.top, h.map, h.mn, own_base h.arr hb.size, fun i c x hx => ?_, h.ob, h.om, h.oa, h.ot, h.og, h.otl, h.sep, fun k hk => ⟨Nat.le_trans hb.size (h.lt k hk).1, (h.lt k hk).2⟩⟩
  obtain ⟨bl, a1, a2⟩ := h.try' i c x hx
  exact ⟨bl, a1, a2.base hb⟩
/-- What was written lies beside it. -/
theorem SwIn.fr {G : Nat → Prop} (h : SwIn w0 w ow L s oz M z) (hf : Fr G w w') (hG : ∀ k, G k → (ow k = none ∧ oz k = none) ∧ w0.heap.size ≤ k) : SwIn w0 w' ow L s oz M z := by
  have n : ∀ {k x}, oz k = some x → ¬ G k := fun hk hg => by rw [(hG _ hg).1.2] at hk; cases hk
  refine ⟨h.sys.fr hf (fun k hk => ⟨(hG k hk).1.1, (hG k hk).2⟩), heap_fr h.top hf (n h.ob), h.map.fr hf (n h.om), h.mn, own_fr h.arr hf (fun j hj => n (h.oa j hj)), fun i c x hx => ?_, h.ob, h.om, h.oa, h.ot, h.og, h.otl, h.sep, fun k hk => ?_⟩
  · obtain ⟨bl, a1, a2⟩ := h.try' i c x hx
    have hi := (List.getElem?_eq_some_iff.1 hx).1
    exact ⟨bl, a1, a2.fr hf (n (h.ot i hi)) (fun j hj => n (h.og i hi j hj)) (fun k hk => (hG k hk).2)⟩
  · have := h.lt k hk
    have := hf.size
    omega
/-- What is its own. -/
theorem SwIn.own (h : SwIn w0 w ow L s oz M z) {k : Nat} (hk : ow k ≠ none ∨ oz k ≠ none) : w0.heap.size ≤ k ∧ k < w.heap.size := by
  rcases hk with hk | hk
  · rcases Option.eq_none_or_eq_some (ow k) with e | ⟨x, e⟩
    · exact absurd e hk
    · exact h.sys.lt k x e
  · exact h.lt k hk
/-- Two of them, apart. -/
structure Two (w0 w : World) (ow : Nat → Option Own) (L : Lay) (s : SysS) (oz : Nat → Option OwnW) (M : SwL) (z : SwS) (ow2 : Nat → Option Own) (L2 : Lay) (s2 : SysS) (oz2 : Nat → Option OwnW) (M2 : SwL) (z2 : SwS) : Prop where
  a : SwIn w0 w ow L s oz M z
  b : SwIn w0 w ow2 L2 s2 oz2 M2 z2
  sep : ∀ k, (ow k ≠ none ∨ oz k ≠ none) → ow2 k = none ∧ oz2 k = none
theorem Two.swap (h : Two w0 w ow L s oz M z ow2 L2 s2 oz2 M2 z2) : Two w0 w ow2 L2 s2 oz2 M2 z2 ow L s oz M z :=
  ⟨h.b, h.a, fun k hk => ⟨Classical.byContradiction fun e => by have := h.sep k (.inl e); rcases hk with hk | hk; exact hk this.1; exact hk this.2, Classical.byContradiction fun e => by have := h.sep k (.inr e); rcases hk with hk | hk; exact hk this.1; exact hk this.2⟩⟩
theorem Two.below (h : Two w0 w ow L s oz M z ow2 L2 s2 oz2 M2 z2) (hb : Below w.heap.size w w') : Two w0 w' ow L s oz M z ow2 L2 s2 oz2 M2 z2 := ⟨h.a.below hb, h.b.below hb, h.sep⟩
/-- Behind a call on the first. -/
theorem Two.fst (h : Two w0 w ow L s oz M z ow2 L2 s2 oz2 M2 z2) (hs : SwTo w0 w ow L oz M s' z' w') : ∃ ow' oz' M', M'.b = M.b ∧ Two w0 w' ow' L s' oz' M' z' ow2 L2 s2 oz2 M2 z2 := by
  obtain ⟨ow', oz', M', a1, a2, a3, a4, a5⟩ := hs
  refine ⟨ow', oz', M', a1, a3, h.b.fr a4 (fun k hk => ⟨h.sep k hk, (h.a.own hk).1⟩), fun k hk => ?_⟩
  rcases a5 k hk with e | e
  · exact h.sep k e
  · exact ⟨Classical.byContradiction fun e2 => by have := (h.b.own (k := k) (.inl e2)).2; omega, Classical.byContradiction fun e2 => by have := (h.b.own (k := k) (.inr e2)).2; omega⟩
/-- Behind a call on the second. -/
theorem Two.snd (h : Two w0 w ow L s oz M z ow2 L2 s2 oz2 M2 z2) (hs : SwTo w0 w ow2 L2 oz2 M2 s' z' w') : ∃ ow' oz' M', M'.b = M2.b ∧ Two w0 w' ow L s oz M z ow' L2 s' oz' M' z' := by
  obtain ⟨ow', oz', M', a1, a2⟩ := h.swap.fst hs
  exact ⟨ow', oz', M', a1, a2.swap⟩
/-- One was there, the other one was made behind it. -/
theorem Two.of {w1 : World} (h : SwIn w0 w1 ow L s oz M z) (h2 : SwIn w1 w ow2 L2 s2 oz2 M2 z2) : Two w0 w ow L s oz M z ow2 L2 s2 oz2 M2 z2 := by
  refine ⟨h.below h2.sys.old, h2.base h.sys.old, fun k hk => ?_⟩
  have h1 := (h.own hk).2
  exact ⟨Classical.byContradiction fun e2 => by have := (h2.own (k := k) (.inl e2)).1; omega, Classical.byContradiction fun e2 => by have := (h2.own (k := k) (.inr e2)).1; omega⟩
end
end Go.Proofs.YtlgkkolgdjgclaaGreat
