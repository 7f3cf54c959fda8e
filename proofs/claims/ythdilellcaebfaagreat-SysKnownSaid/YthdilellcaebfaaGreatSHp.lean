/- Law 23: who is held (plain). -/
import Derived.Test.YthdilellcaebfaaGreatSzX
namespace Go.Proofs.YthdilellcaebfaaGreat
open Go.RowKit Go.Shelf
set_option linter.unusedVariables false
set_option linter.unusedSimpArgs false

section
variable {T : Nat} {s : SysS} {q p u f : Int}
theorem spentG_congr {s s' : SysS} (h : s'.grps = s.grps) (g : Int) : s'.spentG g = s.spentG g := by
  unfold SysS.spentG SysS.ups SysS.acc
  rw [h]
theorem hold1_grps (s : SysS) (id : Int) : (s.hold1 id).grps = s.grps := by
  unfold SysS.hold1
  split
  · rfl
  · split
    · unfold SysS.leaveT; split <;> rfl
    · rfl
theorem hold1_is {t : Tk} (h : s.find t.id = some t) (hs : t.st = 2 ∧ s.spentG t.grp = true) (j : Int) : ((s.hold1 t.id).find j) = if j = t.id then some { (s.leaveT t).2 with st := 5 } else s.find j := by
  unfold SysS.hold1
  rw [h]
  simp only
  rw [if_pos hs]
  have h1 := SysS.leaveT_find h t.id
  rw [if_pos rfl] at h1
  rw [SysS.find_setT (t := (s.leaveT t).2) (t' := { (s.leaveT t).2 with st := 5 }) (by rw [SysS.leaveT_id]; exact h1) rfl, SysS.leaveT_find h]
  simp only [SysS.leaveT_id]
  by_cases e : j = t.id
  · simp [e]
  · simp [e]
theorem leaveT_grp (s : SysS) (t : Tk) : (s.leaveT t).2.grp = t.grp := by unfold SysS.leaveT; split <;> rfl
theorem hold1_all (id : Int) (h : ∀ j t, s.find j = some t → t.grp = 1) (hsp : s.spentG 1 = true) :
    (∀ j t, (s.hold1 id).find j = some t → t.grp = 1) ∧ (∀ t, (s.hold1 id).find id = some t → t.st ≠ 2) ∧ (∀ j, (∀ t, s.find j = some t → t.st ≠ 2) → ∀ t, (s.hold1 id).find j = some t → t.st ≠ 2) := by
  cases hf : s.find id with
  | none =>
    have e : s.hold1 id = s := by unfold SysS.hold1; rw [hf]
    rw [e]
    refine ⟨h, fun t ht => ?_, fun j hj => hj⟩
    rw [hf] at ht; cases ht
  | some t =>
    obtain ⟨-, hid, -⟩ := SysS.find_slot hf
    subst hid
    have hg := h _ t hf
    by_cases h2 : t.st = 2
    · have hi := hold1_is hf ⟨h2, by rw [hg]; exact hsp⟩
      refine ⟨fun j v hv => ?_, fun v hv => ?_, fun j hj v hv => ?_⟩
      · rw [hi] at hv
        split at hv
        · simp only [Option.some.injEq] at hv; subst hv; simp only [leaveT_grp]; exact hg
        · exact h j v hv
      · rw [hi, if_pos rfl] at hv
        simp only [Option.some.injEq] at hv; subst hv; simp
      · rw [hi] at hv
        split at hv
        · simp only [Option.some.injEq] at hv; subst hv; simp
        · exact hj v hv
    · have e : s.hold1 t.id = s := by unfold SysS.hold1; rw [hf]; simp only; rw [if_neg (fun h => h2 h.1)]
      rw [e]
      exact ⟨h, fun v hv => by rw [hf] at hv; simp only [Option.some.injEq] at hv; subst hv; exact h2, fun j hj => hj⟩
theorem holdL_all : ∀ (l : List Int) (s : SysS), (∀ j t, s.find j = some t → t.grp = 1) → s.spentG 1 = true →
    (s.holdL l).grps = s.grps ∧ (∀ j t, (s.holdL l).find j = some t → t.grp = 1) ∧ (∀ j, (j ∈ l ∨ ∀ t, s.find j = some t → t.st ≠ 2) → ∀ t, (s.holdL l).find j = some t → t.st ≠ 2)
  | [], s, h, hsp => ⟨rfl, h, fun j hj => by rcases hj with hj | hj; cases hj; exact hj⟩
  | id :: l, s, h, hsp => by
    obtain ⟨h1, h2, h3⟩ := hold1_all id h hsp
    obtain ⟨g1, g2, g3⟩ := holdL_all l (s.hold1 id) h1 (by rw [spentG_congr (hold1_grps s id)]; exact hsp)
    refine ⟨g1.trans (hold1_grps s id), g2, fun j hj => g3 j ?_⟩
    by_cases e : j = id
    · subst e; exact .inr h2
    · rcases hj with hj | hj
      · exact .inl (by simpa [e] using hj)
      · exact .inr (h3 j hj)
theorem holdL_none : ∀ (l : List Int) (s : SysS), (∀ j t, s.find j = some t → t.grp = 1) → s.spentG 1 = false → s.holdL l = s
  | [], s, h, hsp => rfl
  | id :: l, s, h, hsp => by
    have e : s.hold1 id = s := by
      unfold SysS.hold1
      cases hf : s.find id with
      | none => rfl
      | some t => simp only; rw [h _ t hf, if_neg (by rw [hsp]; simp)]
    show (s.hold1 id).holdL l = s
    rw [e]; exact holdL_none l s h hsp

def QB (q p u f : Int) : Prop := 1 ≤ q ∧ q ≤ 200 ∧ 1 ≤ p ∧ p ≤ 200 ∧ 0 ≤ u ∧ u ≤ q ∧ 0 ≤ f ∧ f < p
/-- A group of its own, of which u was used in its period; all are in it; none is ready when all is used. -/
structure HQ (q p u f : Int) (s : SysS) : Prop where
  grps : s.grps = [(-1, Acn.zero), (0, ⟨q, p, q - u, f⟩)]
  on : ∀ id t, s.find id = some t → t.grp = 1 ∧ (u = q → t.st ≠ 2)
theorem HQ.ups (h : HQ q p u f s) : s.ups = [-1, 0] := by unfold SysS.ups; rw [h.grps]; rfl
theorem path1 : pathG [-1, 0] 1 = [1, 0] := by decide +kernel
theorem spent_of (hg : s.grps = [(-1, Acn.zero), (0, ⟨q, p, q - u, f⟩)]) (hb : QB q p u f) : s.spentG 1 = decide (u = q) := by
  unfold SysS.spentG
  have e0 : s.acc 0 = Acn.zero := by unfold SysS.acc; rw [hg]; rfl
  have e1 : s.acc 1 = ⟨q, p, q - u, f⟩ := by unfold SysS.acc; rw [hg]; rfl
  have e2 : s.ups = [-1, 0] := by unfold SysS.ups; rw [hg]; rfl
  rw [e2, path1]
  simp only [List.any_cons, List.any_nil, e0, e1, Bool.or_false]
  rw [show Acn.zero.spent = false by decide, Bool.or_false]
  unfold QB at hb
  unfold Acn.spent Acn.ok
  exact decide_eq_decide.2 (by simp only; omega)
theorem find_setC (s : SysS) (i : Nat) (c : CoreS) (id : Int) : (s.setC i c).find id = s.find id := rfl
theorem HQ.run (h : HQ q p u f s) (hk : SysOk T s) (hT : T ≤ 8000000) (hb : QB q p u f) {c : Int} (hc : 0 ≤ c ∧ c < s.cores.length) :
    (s.run c).2.2 = 0 ∧ (((s.run c).2.1 < 0 ∧ HQ q p u f (s.run c).1) ∨ (0 ≤ (s.run c).2.1 ∧ u < q ∧ HQ q p (u + 1) f (s.run c).1)) := by
  obtain ⟨d, hd, hde, hdf⟩ := hk.core hc
  obtain ⟨-, r0, rc, -⟩ := hdf.run (by omega)
  rcases rc with ⟨-, e, -⟩ | ⟨j, x, hx, e, -⟩
  · have e1 : s.run c = (s.setC c.toNat d.run.1, -1, 0) := by
      unfold SysS.run
      rw [if_pos hc]
      have hf : s.find (-1) = none := by unfold SysS.find; rw [if_pos (by decide)]
      simp only [hde, e, hf, r0]
    rw [e1]
    exact ⟨rfl, .inl ⟨by simp, h.grps, h.on⟩⟩
  · obtain ⟨t, ht, h2, -⟩ := hk.rdy _ d hd x (List.mem_of_getElem? hx)
    obtain ⟨g1, g2⟩ := h.on _ t ht
    have hu : u < q := by
      have : u ≠ q := fun e => g2 e h2
      unfold QB at hb; omega
    have hx0 : 0 ≤ x.id := (SysS.find_slot ht).1
    have e1 : s.run c = (((s.setC c.toNat d.run.1).useG [1, 0]).holdL ((s.setC c.toNat d.run.1).useG [1, 0]).ids, x.id, 0) := by
      unfold SysS.run
      rw [if_pos hc]
      simp only [hde, e, ht, h.ups, g1, path1]
    have eg : ((s.setC c.toNat d.run.1).useG [1, 0]).grps = [(-1, Acn.zero), (0, ⟨q, p, q - (u + 1), f⟩)] := by
      have hg : (s.setC c.toNat d.run.1).grps = [(-1, Acn.zero), (0, ⟨q, p, q - u, f⟩)] := h.grps
      generalize s.setC c.toNat d.run.1 = s1 at hg
      have a1 : s1.acc 1 = ⟨q, p, q - u, f⟩ := by unfold SysS.acc; rw [hg]; rfl
      have hne : (⟨q, p, q - u, f⟩ : Acn) ≠ Acn.zero := fun e => by
        have := congrArg Acn.q e
        simp only [Acn.zero] at this
        unfold QB at hb; omega
      have hok : (⟨q, p, q - u, f⟩ : Acn).ok := by unfold QB at hb; unfold Acn.ok; simp only; omega
      have hus : (s1.acc 1).use = (⟨q, p, q - (u + 1), f⟩, 0) := by
        rw [a1]
        unfold Acn.use
        rw [if_neg hne, if_pos hok, if_neg (by simp only; omega)]
        simp only [Prod.mk.injEq, Acn.mk.injEq, and_true, true_and]
        omega
      unfold SysS.useG
      rw [hus, if_pos rfl]
      simp only
      unfold SysS.useG
      have a0 : (s1.setA 1 ⟨q, p, q - (u + 1), f⟩).acc 0 = Acn.zero := by unfold SysS.acc SysS.setA; rw [hg]; rfl
      rw [a0, show Acn.zero.use = (Acn.zero, 0) by decide, if_pos rfl]
      unfold SysS.useG SysS.setA
      simp only
      rw [hg]
      rfl
    have ef : ∀ id, ((s.setC c.toNat d.run.1).useG [1, 0]).find id = s.find id := fun id => by
      unfold SysS.useG
      split
      · unfold SysS.useG
        split
        · rfl
        · rfl
      · unfold SysS.useG
        split
        · rfl
        · rfl
    have hk1 := (hk.run1 (by omega) hd).useG [1, 0] (fun g hg => by
      have := hk.g16
      have h16 : s.grps.length = 2 := by rw [h.grps]; rfl
      simp at hg
      omega)
    have hmi := fun id => hk1.mem_ids (id := id)
    rw [e1]
    generalize (s.setC c.toNat d.run.1).useG [1, 0] = s2 at eg ef hmi ⊢
    refine ⟨rfl, .inr ⟨hx0, hu, ?_⟩⟩
    have hon : ∀ j v, s2.find j = some v → v.grp = 1 := fun j v hv => (h.on j v (by rw [← ef]; exact hv)).1
    have hb2 : QB q p (u + 1) f := by unfold QB at hb ⊢; omega
    have hsp := spent_of eg hb2
    by_cases hq : u + 1 = q
    · rw [decide_eq_true hq] at hsp
      obtain ⟨k1, k2, k3⟩ := holdL_all s2.ids s2 hon hsp
      refine ⟨k1.trans eg, fun j v hv => ⟨k2 j v hv, fun _ => k3 j ?_ v hv⟩⟩
      cases hf : s2.find j with
      | none => exact .inr fun v hv => by cases hv
      | some w => exact .inl ((hmi j).2 (by rw [hf]; rfl))
    · rw [decide_eq_false hq] at hsp
      rw [holdL_none s2.ids s2 hon hsp]
      exact ⟨eg, fun j v hv => ⟨hon j v hv, fun e => absurd e hq⟩⟩
/-- A tick. -/
theorem tick1_grps (s : SysS) (id : Int) : (s.tick1 id).grps = s.grps := by
  unfold SysS.tick1
  split
  · rfl
  · split
    · unfold SysS.enterT; split <;> rfl
    · rfl
theorem tickL_all' : ∀ (l : List Int) (s : SysS), (∀ j t, s.find j = some t → t.grp = 1 ∧ (s.spentG 1 = true → t.st ≠ 2)) →
    (s.tickL l).grps = s.grps ∧ (∀ j t, (s.tickL l).find j = some t → t.grp = 1 ∧ (s.spentG 1 = true → t.st ≠ 2))
  | [], s, h => ⟨rfl, h⟩
  | id :: l, s, h => by
    have hsp := spentG_congr (tick1_grps s id) 1
    have h1 : ∀ j t, (s.tick1 id).find j = some t → t.grp = 1 ∧ (s.spentG 1 = true → t.st ≠ 2) := by
      intro j v hv
      unfold SysS.tick1 at hv
      cases hf : s.find id with
      | none => rw [hf] at hv; exact h j v hv
      | some t =>
        obtain ⟨-, hid, -⟩ := SysS.find_slot hf
        subst hid
        have hg := h _ t hf
        rw [hf] at hv
        simp only at hv
        split at hv
        · rename_i hs
          rw [SysS.enterT_find hf] at hv
          split at hv
          · simp only [Option.some.injEq] at hv
            subst hv
            refine ⟨hg.1, fun e => ?_⟩
            rw [hg.1, e] at hs
            simp at hs
          · exact h j v hv
        · exact h j v hv
    obtain ⟨g1, g2⟩ := tickL_all' l (s.tick1 id) (fun j t ht => by rw [hsp]; exact h1 j t ht)
    exact ⟨g1.trans (tick1_grps s id), fun j t ht => by have := g2 j t ht; rw [hsp] at this; exact this⟩
theorem HQ.tick (h : HQ q p u f s) (hb : QB q p u f) :
    (s.tick 1).2 = 0 ∧ HQ q p (if p - f ≤ 1 then 0 else u) ((f + 1) % p) (s.tick 1).1 ∧ QB q p (if p - f ≤ 1 then 0 else u) ((f + 1) % p) ∧ ((f + 1) % p = 0 ↔ p - f ≤ 1) := by
  have e : s.tick 1 = ((s.tickG 1).tickL (s.tickG 1).ids, 0) := by unfold SysS.tick; rw [if_neg (by decide)]
  have hb' := hb
  unfold QB at hb'
  have hm : (f + 1) % p = if p - f ≤ 1 then 0 else f + 1 := by
    split
    · rw [show f + 1 = p by omega, Int.emod_self]
    · exact Int.emod_eq_of_lt (by omega) (by omega)
  have hok : (⟨q, p, q - u, f⟩ : Acn).ok := by unfold Acn.ok; simp only; omega
  have htk : ((⟨q, p, q - u, f⟩ : Acn).tick 1).1 = ⟨q, p, q - (if p - f ≤ 1 then 0 else u), (f + 1) % p⟩ := by
    unfold Acn.tick
    rw [if_pos ⟨hok, by decide⟩]
    simp only [Acn.mk.injEq, and_true, true_and]
    split <;> omega
  have eg : (s.tickG 1).grps = [(-1, Acn.zero), (0, ⟨q, p, q - (if p - f ≤ 1 then 0 else u), (f + 1) % p⟩)] := by
    unfold SysS.tickG
    simp only [h.grps, List.map_cons, List.map_nil, htk]
    rw [show (Acn.zero.tick 1).1 = Acn.zero by decide]
  have hb2 : QB q p (if p - f ≤ 1 then 0 else u) ((f + 1) % p) := by
    rw [hm]; unfold QB
    split <;> omega
  have hsp := spent_of eg hb2
  rw [e]
  obtain ⟨g1, g2⟩ := tickL_all' (s.tickG 1).ids (s.tickG 1) (fun j t ht => ⟨(h.on j t ht).1, fun hs => by
    rw [hsp] at hs
    have h3 := of_decide_eq_true hs
    refine (h.on j t ht).2 ?_
    split at h3 <;> omega⟩)
  refine ⟨rfl, ⟨g1.trans eg, fun j t ht => ⟨(g2 j t ht).1, fun e => (g2 j t ht).2 (by rw [hsp]; exact decide_eq_true e)⟩⟩, hb2, ?_⟩
  rw [hm]
  split <;> omega
/-- Made and started in the group, of which nothing is used. -/
theorem HQ.made (h : HQ q p 0 f s) (hb : QB q p 0 f) (hk : SysOk T s) (hT : T ≤ 10000000) (x m : Int) :
    ((s.spawn x m 1).2.2 ≠ 0 ∧ (s.spawn x m 1).1 = s) ∨ ((s.spawn x m 1).2.2 = 0 ∧ I63 (s.spawn x m 1).2.1 ∧ HQ q p 0 f ((s.spawn x m 1).1.start (s.spawn x m 1).2.1).1) := by
  by_cases hx : 1 ≤ x ∧ x ≤ 20
  · by_cases hg : goodM m s.cores.length = true
    · have hh : hasG s.ups 1 = true := by rw [h.ups]; decide
      cases hfi : s.slots.findIdx? (fun x => x.task.isNone) with
      | none =>
        have e : s.spawn x m 1 = (s, 0, 3) := by unfold SysS.spawn; rw [if_pos hx, if_pos hg, if_pos hh, hfi]
        rw [e]; exact .inl ⟨by simp, rfl⟩
      | some i =>
        obtain ⟨k, hsl⟩ := free_slot s i hfi
        have h64 : i < 64 := by have := (List.getElem?_eq_some_iff.1 hsl).1; rw [hk.s64] at this; exact this
        have hn := hk.turn _ (List.mem_of_getElem? hsl)
        simp only at hn
        rw [SysS.spawn_is hfi hsl hx hg hh]
        have hfd := SysS.find_putS (s := s) (t := ⟨i + 64 * k, x, 1, -1, 1, m, 0⟩) hsl h64 rfl hn.1
        refine .inr ⟨rfl, (show I63 (i + 64 * k) by unfold I63; omega), ?_⟩
        have hgr : (s.putS i ⟨i + 64 * k, x, 1, -1, 1, m, 0⟩).grps = [(-1, Acn.zero), (0, ⟨q, p, q - 0, f⟩)] := h.grps
        generalize s.putS i ⟨i + 64 * k, x, 1, -1, 1, m, 0⟩ = s2 at hfd hgr ⊢
        generalize hid : (i + 64 * k : Int) = id at *
        have hf0 := hfd id
        rw [if_pos rfl] at hf0
        simp only
        unfold SysS.start
        rw [hf0]
        simp only [if_true]
        have hsp := spent_of hgr hb
        have hne : (0 : Int) ≠ q := by unfold QB at hb; omega
        refine ⟨?_, fun j v hv => ?_⟩
        · unfold SysS.enterT; split <;> exact hgr
        · unfold SysS.enterT at hv
          simp only at hv
          rw [hsp, decide_eq_false hne, if_neg (by simp)] at hv
          rw [SysS.find_setT (s := s2.setC _ _) (t := ⟨id, x, 1, -1, 1, m, 0⟩) (t' := ⟨id, x, 1, s2.least m, 2, m, 0⟩) hf0 rfl] at hv
          split at hv
          · simp only [Option.some.injEq] at hv
            subst hv
            exact ⟨rfl, fun e => absurd e hne⟩
          · rename_i e
            have h2 := hfd j
            rw [if_neg e] at h2
            exact h.on j v (h2.symm.trans hv)
    · have e : s.spawn x m 1 = (s, 0, 5) := by unfold SysS.spawn; rw [if_pos hx, if_neg hg]
      rw [e]; exact .inl ⟨by simp, rfl⟩
  · have e : s.spawn x m 1 = (s, 0, 1) := by unfold SysS.spawn; rw [if_neg hx]
    rw [e]; exact .inl ⟨by simp, rfl⟩
/-- The group is made. -/
theorem group_new (tags : List Int) (q p : Int) (hb : QB q p 0 0) : ∃ s, (SysS.new tags).group 0 q p = (s, 1, 0) ∧ HQ q p 0 0 s ∧ s.cores.length = tags.length := by
  have hg : (⟨q, p, q, 0⟩ : Acn).good = true := by
    unfold QB at hb
    unfold Acn.good Acn.ok
    rw [decide_eq_true_eq]
    refine .inr ?_
    simp only; omega
  have hu : (SysS.new tags).ups = [-1] := rfl
  refine ⟨{ SysS.new tags with grps := [(-1, Acn.zero), (0, ⟨q, p, q, 0⟩)] }, ?_, ⟨by simp, fun id t ht => ?_⟩, by simp [SysS.new]⟩
  · unfold SysS.group
    rw [if_pos hg, hu, if_pos (by decide), if_neg (by decide +kernel), if_pos (show (SysS.new tags).grps.length < 16 from (by decide : (1 : Nat) < 16))]
    rfl
  · have : (SysS.new tags).find id = some t := ht
    rw [SysS.new_find] at this; cases this
theorem SysOk.group (h : SysOk T s) (up q p : Int) : SysOk T (s.group up q p).1 := by
  unfold SysS.group
  split
  · rename_i hg
    split
    · split
      · exact h
      · split
        · rename_i h16
          have hup : ∀ g, hasG s.ups g = true → hasG (SysS.ups { s with grps := s.grps ++ [(up, ⟨q, p, q, 0⟩)] }) g = true := fun g hh => by
            unfold hasG SysS.ups at *
            simp only [decide_eq_true_eq, List.length_map, List.length_append, List.length_cons, List.length_nil] at *
            omega
          refine ⟨h.c1, h.c16, h.cor, by simp, by simp; omega, fun x hx => ?_, h.s64, h.turn, fun i k t ht => ?_, h.rdy, h.rdq⟩
          · simp only [List.mem_append, List.mem_singleton] at hx
            rcases hx with hx | rfl
            · exact h.acc x hx
            · exact hg
          · obtain ⟨b1, b2, b3⟩ := h.slot i k t ht
            exact ⟨b1, b2, b3.w, hup _ b3.grp, b3.mask, b3.m16, b3.st, b3.lag, b3.new, b3.old⟩
        · exact h
    · exact h
  · exact h
theorem hold1_len (s : SysS) (id : Int) : (s.hold1 id).cores.length = s.cores.length := by
  unfold SysS.hold1
  split
  · rfl
  · split
    · exact SysS.leaveT_len
    · rfl
theorem holdL_len : ∀ (l : List Int) (s : SysS), (s.holdL l).cores.length = s.cores.length
  | [], s => rfl
  | id :: l, s => (holdL_len l (s.hold1 id)).trans (hold1_len s id)
theorem useG_len : ∀ (l : List Nat) (s : SysS), (s.useG l).cores.length = s.cores.length
  | [], s => rfl
  | g :: l, s => by
    unfold SysS.useG
    rw [useG_len l]
    split <;> rfl
theorem run_len (s : SysS) (c : Int) : (s.run c).1.cores.length = s.cores.length := by
  unfold SysS.run
  split
  · simp only
    split
    · simp [SysS.setC]
    · simp only; rw [holdL_len, useG_len]; simp [SysS.setC]
  · rfl
theorem tick1_len (s : SysS) (id : Int) : (s.tick1 id).cores.length = s.cores.length := by
  unfold SysS.tick1
  split
  · rfl
  · split
    · unfold SysS.enterT; split
      · rfl
      · simp [SysS.setC, SysS.setT]
    · rfl
theorem tickL_len : ∀ (l : List Int) (s : SysS), (s.tickL l).cores.length = s.cores.length
  | [], s => rfl
  | id :: l, s => (tickL_len l (s.tick1 id)).trans (tick1_len s id)
theorem tick_len (s : SysS) (n : Int) : (s.tick n).1.cores.length = s.cores.length := by
  unfold SysS.tick
  split
  · rfl
  · simp only; rw [tickL_len]; rfl
theorem start_len (s : SysS) (id : Int) : (s.start id).1.cores.length = s.cores.length := by
  unfold SysS.start
  split
  · rfl
  · split
    · unfold SysS.enterT; split
      · rfl
      · simp [SysS.setC, SysS.setT]
    · rfl
theorem spawn_len (s : SysS) (x m g : Int) : (s.spawn x m g).1.cores.length = s.cores.length := by
  unfold SysS.spawn
  split
  · split
    · split
      · split <;> rfl
      · rfl
    · rfl
  · rfl
end
end Go.Proofs.YthdilellcaebfaaGreat
