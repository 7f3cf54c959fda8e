/- PolicyLeaves in the plain model. -/
import Derived.Test.YtfijedmdfkelnaaLags
import Derived.Test.YtfijedmdfkelnaaP
import Derived.Test.YtfijedmdfkelnaaFront
namespace Go.Proofs.Ytfijedmdfkelnaa
open Go.RowKit
set_option linter.unusedVariables false
set_option linter.unusedSimpArgs false

theorem growB_keeps {base : Int} {l : List Pt} {x : Pt} (hx : x ∈ l) (h : x.v ≤ base) : growB base l = base := by
  unfold growB
  cases hz : least l with
  | none => rfl
  | some z => have := least_le hz x hx; simp only; omega
theorem erase_ids {l : List Pt} (h : ById l) {j : Nat} {x : Pt} (hx : l[j]? = some x) : ∀ y ∈ l.eraseIdx j, y.id ≠ x.id := by
  intro y hy
  obtain ⟨i, hi, hne, rfl⟩ := List.mem_eraseIdx_iff_getElem.1 hy
  obtain ⟨hj, rfl⟩ := List.getElem?_eq_some_iff.1 hx
  have hg := List.pairwise_iff_getElem.1 h
  rcases Nat.lt_or_gt_of_ne hne with h1 | h1
  · have := hg i j hi hj h1; omega
  · have := hg j i hj hi h1; omega
/-- Who leaves, and is put in again. -/
structure LeavesI (f : Fm) (id : Int) (x : It) (S1 S2 : Ln) : Prop where
  leave : leaveR (seedR f 0) id = (S1, x.lag, 0)
  ok1 : OkS 0 S1
  lags1 : Lags S1
  len1 : S1.l.length + 1 = f.l.length
  may : mayE S1.l id x.w x.lag = 0
  put : putR S1 id x.w x.lag = S2
  ok2 : OkS 1125899906842624 S2
  lags2 : Lags S2
  len2 : S2.l.length = S1.l.length + 1
  find : ∃ (j : Nat) (z : It), fi (isIt id) (S2.l.map (itOf S2.base)) = j ∧ (S2.l.map (itOf S2.base))[j]? = some z ∧ z.lag = x.lag
theorem leavesI {f : Fm} (hg : goodF f = true) (h2 : 2 ≤ f.l.length) {id : Int} {j : Nat} {x : It} (hx : f.l[j]? = some x) (hid : x.id = id) : ∃ S1 S2, LeavesI f id x S1 S2 := by
  have k0 : OkS 0 (seedR f 0) := OkS.seed (by decide) (by decide) hg
  have g0 : Lags (seedR f 0) := Lags.seed hg
  obtain ⟨G1, G2, G3, G4, G5⟩ := (of_decide_eq_true hg : GoodP f)
  have hxm : x ∈ f.l := List.mem_of_getElem? hx
  have hpm : seedP 0 x ∈ (seedR f 0).l := List.mem_map_of_mem hxm
  rcases at_cases (seedR f 0) id with ⟨_, _, h3⟩ | ⟨j', p, e1, e2, hj, hp, hpid⟩
  · exact absurd (show (seedP 0 x).id = id from hid) (h3 _ hpm)
  · have hpx : p = seedP 0 x := k0.byid.uniq (List.mem_of_getElem? hp) hpm (by rw [hpid]; exact hid.symm)
    have hl : leaveR (seedR f 0) id = (⟨growB (seedR f 0).base ((seedR f 0).l.eraseIdx j'), if (seedR f 0).cur = id then -1 else (seedR f 0).cur, (seedR f 0).l.eraseIdx j'⟩, x.lag, 0) := by
      unfold leaveR
      rw [e1]
      simp only [Prod.mk.injEq, and_true, true_and]
      rw [hpx]
      simp only [seedR, seedP, newP]
      omega
    generalize hS1 : (⟨growB (seedR f 0).base ((seedR f 0).l.eraseIdx j'), if (seedR f 0).cur = id then -1 else (seedR f 0).cur, (seedR f 0).l.eraseIdx j'⟩ : Ln) = S1 at hl
    have hl1 : S1.l = (seedR f 0).l.eraseIdx j' := by rw [← hS1]
    have k1 : OkS 0 S1 := by have := k0.leave id; rw [hl] at this; exact this
    have g1 : Lags S1 := by have := g0.leave id; rw [hl] at this; exact this
    have hlen0 : (seedR f 0).l.length = f.l.length := by simp only [seedR, List.length_map]
    have hlen : S1.l.length + 1 = f.l.length := by
      rw [hl1, List.length_eraseIdx_of_lt hj, hlen0]; omega
    have hno : ∀ y ∈ S1.l, y.id ≠ id := by
      rw [hl1]; intro y hy; rw [← hpid]; exact erase_ids k0.byid hp y hy
    have hmb := G3 x hxm
    have hm : mayE S1.l id x.w x.lag = 0 := by
      unfold mayE
      rw [← hid, if_pos hmb, if_neg (by
        rw [List.any_eq_true]; rintro ⟨y, hy, h⟩
        exact hno y hy (by rw [← hid]; simpa [isId] using h)), if_neg (by omega)]
    obtain ⟨y0, hy0, hv0⟩ : ∃ y ∈ S1.l, y.v ≤ S1.base := by
      rcases g1.front with h | h
      · rw [h] at hlen; simp at hlen; omega
      · exact h
    have hput : putR S1 id x.w x.lag = ⟨S1.base, S1.cur, insP (newP S1.base id x.w x.lag) S1.l⟩ := by
      unfold putR
      rw [if_pos hm, growB_keeps (x := y0) (insP_mem.2 (.inr hy0)) hv0]
    have k2 : OkS 1125899906842624 (putR S1 id x.w x.lag) := k1.put id x.w x.lag (by decide)
    have g2 : Lags (putR S1 id x.w x.lag) := g1.put id x.w x.lag k1.len
    refine ⟨S1, putR S1 id x.w x.lag, hl, k1, g1, hlen, hm, rfl, k2, g2, ?_, ?_⟩
    · rw [hput]; exact insP_len _ _
    · rw [hput]
      simp only
      rcases fi_cases (isIt id) ((insP (newP S1.base id x.w x.lag) S1.l).map (itOf S1.base)) with ⟨_, h⟩ | ⟨i, z, h1, _, h3, h4, _⟩
      · have := h (itOf S1.base (newP S1.base id x.w x.lag)) (List.mem_map_of_mem (insP_mem.2 (.inl rfl)))
        simp [isIt, itOf, newP] at this
      · refine ⟨i, z, h1, h3, ?_⟩
        obtain ⟨y, hy, rfl⟩ := List.mem_map.1 (List.mem_of_getElem? h3)
        have hyid : y.id = id := by simpa [isIt, itOf] using h4
        rcases insP_mem.1 hy with rfl | hy
        · simp only [itOf, newP]; omega
        · exact absurd hyid (hno y hy)
/-- Somebody is not ahead. -/
theorem front_ge {S : Ln} (g : Lags S) {x : It} {t : List It} (h : S.l.map (itOf S.base) = x :: t) : 0 ≤ (bestF t x).lag := by
  obtain ⟨h1, h2⟩ := bestF_le t x
  rcases g.front with e | ⟨y, hy, hv⟩
  · rw [e] at h; cases h
  · have hm : itOf S.base y ∈ x :: t := by rw [← h]; exact List.mem_map_of_mem hy
    have hl : 0 ≤ (itOf S.base y).lag := by simp only [itOf]; omega
    rcases List.mem_cons.1 hm with e | hm
    · rw [e] at hl; omega
    · have := h2 _ hm; omega
end Go.Proofs.Ytfijedmdfkelnaa
