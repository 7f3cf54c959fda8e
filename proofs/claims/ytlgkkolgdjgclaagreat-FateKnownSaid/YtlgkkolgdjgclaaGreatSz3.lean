/- A map of numbers by bools. -/
import Derived.Test.YtlgkkolgdjgclaaGreatSz2
namespace Go.Proofs.YtlgkkolgdjgclaaGreat
open Go.RowKit Go.Shelf Go.Maps
set_option linter.unusedVariables false
set_option linter.unusedSimpArgs false

def boolElem : Value → Option (DataW Unit × List MemPlace)
  | .bool b => some (.lit (.bool b), [])
  | _ => none
theorem boolElem_inv {v : Value} {b : Bool} {ps : List MemPlace} (h : boolElem v = some (.lit (.bool b), ps)) : v = .bool b := by
  unfold boolElem at h
  split at h
  · simp at h; obtain ⟨rfl, _⟩ := h; rfl
  · cases h
def updB (f : Int → Bool) (id : Int) (u : Bool) : Int → Bool := fun j => if j = id then u else f j
end Go.Proofs.YtlgkkolgdjgclaaGreat
/- Law 23: names (plain). -/
namespace Go.Proofs.YtlgkkolgdjgclaaGreat
open Go.RowKit Go.Shelf
set_option linter.unusedVariables false
set_option linter.unusedSimpArgs false

section
variable {T : Nat} {s : SysS}
/-- Which names were given: of each place those below its turn; all that are there. -/
structure Given (s : SysS) (f : Int → Bool) : Prop where
  low : ∀ id, f id = true → 0 ≤ id ∧ ∃ x, s.slots[(id % 64).toNat]? = some x ∧ id / 64 < x.turn
  has : ∀ id t, s.find id = some t → f id = true
theorem Given.new : Given (SysS.new [0]) (fun _ => false) := ⟨fun id h => (by cases h), fun id t h => (by rw [SysS.new_find] at h; cases h)⟩
theorem all_full (hk : SysOk T s) (h : s.slots.findIdx? (fun x => x.task.isNone) = none) : s.tasks.length = 64 := by
  unfold SysS.tasks SysS.all
  rw [List.length_map, ← hk.s64]
  have h2 := List.findIdx?_eq_none_iff.1 h
  have key : ∀ l : List Slo, (∀ x ∈ l, x.task.isNone = false) → (l.filterMap Slo.task).length = l.length := by
    intro l
    induction l with
    | nil => intro _; rfl
    | cons x t ih =>
      intro hx
      have h1 := hx x (by simp)
      cases hq : x.task with
      | none => rw [hq] at h1; simp at h1
      | some u => rw [List.filterMap_cons_some hq, List.length_cons, List.length_cons, ih (fun y hy => hx y (by simp [hy]))]
  exact key s.slots (fun x hx => by simpa using h2 x hx)
/-- What Spawn does to the names. -/
theorem spawn_names (hk : SysOk T s) (hT : T ≤ 10000000) (hg : goodM 1 s.cores.length = true) {f : Int → Bool} (hf : Given s f) :
    ((s.spawn 1 1 0).2.2 = 3 ∧ (s.spawn 1 1 0).1 = s ∧ s.tasks.length = 64) ∨
    ((s.spawn 1 1 0).2.2 = 0 ∧ f (s.spawn 1 1 0).2.1 = false ∧ I63 (s.spawn 1 1 0).2.1 ∧ Given (s.spawn 1 1 0).1 (updB f (s.spawn 1 1 0).2.1 true)) := by
  have hh : hasG s.ups 0 = true := by
    unfold hasG SysS.ups
    have := hk.g1
    simp; omega
  cases hfi : s.slots.findIdx? (fun x => x.task.isNone) with
  | none =>
    have : s.spawn 1 1 0 = (s, 0, 3) := by unfold SysS.spawn; rw [if_pos (by decide), if_pos hg, if_pos hh, hfi]
    rw [this]
    exact .inl ⟨rfl, rfl, all_full hk hfi⟩
  | some i =>
    obtain ⟨n, hsl⟩ := free_slot s i hfi
    have h64 : i < 64 := by have := (List.getElem?_eq_some_iff.1 hsl).1; rw [hk.s64] at this; exact this
    have hn := hk.turn _ (List.mem_of_getElem? hsl)
    simp only at hn
    rw [SysS.spawn_is hfi hsl (by decide) hg hh]
    have hfd := SysS.find_putS (s := s) (t := ⟨i + 64 * n, 1, 0, -1, 1, 1, 0⟩) hsl h64 rfl hn.1
    refine .inr ⟨rfl, ?_, ?_, fun id h => ?_, fun id t h => ?_⟩
    · cases hq : f (i + 64 * n) with
      | false => rfl
      | true =>
        obtain ⟨h0, x, hx, hlt⟩ := hf.low _ hq
        rw [show ((i + 64 * n : Int) % 64).toNat = i by omega, hsl] at hx
        simp only [Option.some.injEq] at hx
        subst hx
        simp only at hlt
        omega
    · have := hk.turn _ (List.mem_of_getElem? hsl)
      simp only at this
      unfold I63
      simp only
      omega
    · simp only [updB] at h
      by_cases e : id = i + 64 * n
      · subst e
        refine ⟨by omega, ⟨n + 1, some ⟨i + 64 * n, 1, 0, -1, 1, 1, 0⟩⟩, ?_, by simp only; omega⟩
        rw [show ((i + 64 * n : Int) % 64).toNat = i by omega]
        simp [SysS.putS, List.getElem?_modify, hsl]
      · rw [if_neg e] at h
        obtain ⟨h0, x, hx, hlt⟩ := hf.low id h
        refine ⟨h0, ?_⟩
        simp only [SysS.putS, List.getElem?_modify, hx]
        by_cases e2 : i = (id % 64).toNat
        · refine ⟨⟨x.turn + 1, some ⟨i + 64 * n, 1, 0, -1, 1, 1, 0⟩⟩, by simp [e2], by simp only; omega⟩
        · exact ⟨x, by simp [e2], hlt⟩
    · rw [hfd] at h
      simp only [updB]
      split at h
      · rename_i e; rw [if_pos e]
      · rename_i e; rw [if_neg e]; exact hf.has id t h
/-- What End does to the names. -/
theorem leaveT_turn {t : Tk} (h : s.find t.id = some t) (k : Nat) : ((s.leaveT t).1.slots[k]?).map Slo.turn = (s.slots[k]?).map Slo.turn := by
  unfold SysS.leaveT
  split
  · simp only [SysS.setT, SysS.setC, List.getElem?_modify]
    cases s.slots[k]? with
    | none => rfl
    | some y => simp only [Option.map_eq_map, Option.map_some]; split <;> rfl
  · rfl
theorem end_names (hk : SysOk T s) {f : Int → Bool} (hf : Given s f) {t : Tk} (ht : s.find t.id = some t) : (s.endT t.id).2 = 0 ∧ (s.endT t.id).1.find t.id = none ∧ Given (s.endT t.id).1 f := by
  have e : s.endT t.id = ((s.leaveT t).1.delT t.id, 0) := by unfold SysS.endT; rw [ht]
  have hlf := SysS.leaveT_find ht
  have hlf0 := hlf t.id
  rw [if_pos rfl] at hlf0
  rw [e]
  refine ⟨rfl, by simp only; rw [SysS.find_delT hlf0, if_pos rfl], fun id h => ?_, fun id u h => ?_⟩
  · obtain ⟨h0, x, hx, hlt⟩ := hf.low id h
    refine ⟨h0, ?_⟩
    have h1 := leaveT_turn ht (id % 64).toNat
    rw [hx] at h1
    cases hq : (s.leaveT t).1.slots[(id % 64).toNat]? with
    | none => rw [hq] at h1; simp at h1
    | some y =>
      rw [hq] at h1
      simp only [Option.map_some, Option.some.injEq] at h1
      simp only [SysS.delT, List.getElem?_modify, hq, Option.map_eq_map, Option.map_some]
      refine ⟨_, rfl, ?_⟩
      split
      · simp only; omega
      · omega
  · simp only at h
    rw [SysS.find_delT hlf0] at h
    split at h
    · cases h
    · rename_i e2
      rw [hlf, if_neg e2] at h
      exact hf.has id u h
end
end Go.Proofs.YtlgkkolgdjgclaaGreat
/- Law 23: moves (plain). -/
namespace Go.Proofs.YtlgkkolgdjgclaaGreat
open Go.RowKit Go.Shelf
set_option linter.unusedVariables false
set_option linter.unusedSimpArgs false

/-- All are ready, of the root, and may be where m says; nothing is held. -/
structure Free (m : Int) (n : Nat) (s : SysS) : Prop where
  grps : s.grps = [(-1, Acn.zero)]
  len : s.cores.length = n
  on : ∀ id t, s.find id = some t → t.st = 2 ∧ t.mask = m ∧ t.grp = 0
section
variable {T n : Nat} {s : SysS} {m : Int}
theorem Free.new (tags : List Int) (m : Int) : Free m tags.length (SysS.new tags) := ⟨rfl, by simp [SysS.new], fun id t h => by rw [SysS.new_find] at h; cases h⟩
theorem Free.acc0 (h : Free m n s) (i : Nat) : s.acc i = Acn.zero := by
  unfold SysS.acc; rw [h.grps]
  cases i with
  | zero => rfl
  | succ i => rfl
theorem Free.spent (h : Free m n s) (g : Int) : s.spentG g = false := by
  unfold SysS.spentG
  rw [List.any_eq_false]
  intro i _
  rw [h.acc0]; decide
theorem Free.setC (h : Free m n s) (i : Nat) (c : CoreS) : Free m n (s.setC i c) := ⟨h.grps, by simp [SysS.setC, h.len], h.on⟩
theorem Free.useG (h : Free m n s) : ∀ l : List Nat, s.useG l = s
  | [] => rfl
  | g :: l => by
    unfold SysS.useG
    have e : s.setA g Acn.zero = s := by
      unfold SysS.setA
      have := h.grps
      cases s with
      | mk c gr sl =>
        simp only at this
        subst this
        have e2 : ([(-1, Acn.zero)] : List (Int × Acn)).modify g (fun p => (p.1, Acn.zero)) = [(-1, Acn.zero)] := by
          refine List.ext_getElem? fun i => ?_
          rw [List.getElem?_modify]
          cases i with
          | zero => simp
          | succ i => simp
        simp only [e2]
    rw [h.acc0, show Acn.zero.use = (Acn.zero, 0) by decide, if_pos rfl, e]
    exact h.useG l
theorem Free.hold1 (h : Free m n s) (id : Int) : s.hold1 id = s := by
  unfold SysS.hold1
  split
  · rfl
  · rw [if_neg (by rw [h.spent]; simp)]
theorem Free.holdL (h : Free m n s) : ∀ l : List Int, s.holdL l = s
  | [] => rfl
  | id :: l => by unfold SysS.holdL; rw [h.hold1]; exact h.holdL l
theorem Free.run (h : Free m n s) (c : Int) : Free m n (s.run c).1 := by
  unfold SysS.run
  split
  · have h1 := h.setC c.toNat (s.core c).run.1
    simp only
    split
    · exact h1
    · simp only; rw [h1.useG, h1.holdL]; exact h1
  · exact h
/-- Made and started. -/
theorem Free.made (h : Free m n s) (hk : SysOk T s) (hT : T ≤ 10000000) (x : Int) :
    ((s.spawn x m 0).2.2 ≠ 0 ∧ (s.spawn x m 0).1 = s) ∨ ((s.spawn x m 0).2.2 = 0 ∧ I63 (s.spawn x m 0).2.1 ∧ Free m n ((s.spawn x m 0).1.start (s.spawn x m 0).2.1).1) := by
  by_cases hx : 1 ≤ x ∧ x ≤ 20
  · by_cases hg : goodM m s.cores.length = true
    · have hh : hasG s.ups 0 = true := by
        unfold hasG SysS.ups
        have := hk.g1
        simp; omega
      cases hfi : s.slots.findIdx? (fun x => x.task.isNone) with
      | none =>
        have e : s.spawn x m 0 = (s, 0, 3) := by unfold SysS.spawn; rw [if_pos hx, if_pos hg, if_pos hh, hfi]
        rw [e]; exact .inl ⟨by simp, rfl⟩
      | some i =>
        obtain ⟨k, hsl⟩ := free_slot s i hfi
        have h64 : i < 64 := by have := (List.getElem?_eq_some_iff.1 hsl).1; rw [hk.s64] at this; exact this
        have hn := hk.turn _ (List.mem_of_getElem? hsl)
        simp only at hn
        rw [SysS.spawn_is hfi hsl hx hg hh]
        have hfd := SysS.find_putS (s := s) (t := ⟨i + 64 * k, x, 0, -1, 1, m, 0⟩) hsl h64 rfl hn.1
        refine .inr ⟨rfl, (show I63 (i + 64 * k) by unfold I63; omega), ?_⟩
        have hgr : (s.putS i ⟨i + 64 * k, x, 0, -1, 1, m, 0⟩).grps = [(-1, Acn.zero)] := h.grps
        have hcl : (s.putS i ⟨i + 64 * k, x, 0, -1, 1, m, 0⟩).cores.length = n := h.len
        generalize s.putS i ⟨i + 64 * k, x, 0, -1, 1, m, 0⟩ = s2 at hfd hgr hcl ⊢
        generalize hid : (i + 64 * k : Int) = id at *
        have hf0 := hfd id
        rw [if_pos rfl] at hf0
        simp only
        unfold SysS.start
        rw [hf0]
        simp only [if_true]
        unfold SysS.enterT
        have hsp : ∀ g, s2.spentG g = false := fun g => by
          unfold SysS.spentG
          rw [List.any_eq_false]
          intro j _
          have : s2.acc j = Acn.zero := by
            unfold SysS.acc; rw [hgr]
            cases j <;> rfl
          rw [this]; decide
        rw [hsp, if_neg (by simp)]
        refine ⟨hgr, by simp [SysS.setC, SysS.setT, hcl], fun j u hu => ?_⟩
        rw [SysS.find_setT (s := s2.setC _ _) (t := ⟨id, x, 0, -1, 1, m, 0⟩) (t' := ⟨id, x, 0, s2.least m, 2, m, 0⟩) hf0 rfl] at hu
        split at hu
        · simp only [Option.some.injEq] at hu
          subst hu
          exact ⟨rfl, rfl, rfl⟩
        · rename_i e
          have : s.find j = some u := by
            have h2 := hfd j
            rw [if_neg e] at h2
            exact h2.symm.trans hu
          exact h.on j u this
    · have e : s.spawn x m 0 = (s, 0, 5) := by unfold SysS.spawn; rw [if_pos hx, if_neg hg]
      rw [e]; exact .inl ⟨by simp, rfl⟩
  · have e : s.spawn x m 0 = (s, 0, 1) := by unfold SysS.spawn; rw [if_neg hx]
    rw [e]; exact .inl ⟨by simp, rfl⟩
/-- What a task moved is told. -/
theorem move_view (hk : SysOk T s) (hT : T ≤ 9000000) {t : Tk} (ht : s.find t.id = some t) (h2 : t.st = 2) {d : Int} (hd : 0 ≤ d ∧ d < s.cores.length) (hne : t.core ≠ d) :
    ∃ t' g, (s.putT t d).find t.id = some t' ∧ (s.putT t d).view t' = { t with core := d, lag := g } ∧ (g = (s.view t).lag ∨ (s.view t).lag < g ∧ g = 0) := by
  have hk2 := hk.putT hT ht (.inl h2) hd
  obtain ⟨c, j, x, hc, hce, hcf, hat, hxw⟩ := hk.inq ht h2
  obtain ⟨-, -, h3, h4, h5⟩ := hcf.q.leave (by omega) hat
  have hv : (s.view t).lag = c.q.base - x.v := by unfold SysS.view; rw [if_pos h2, hce, hat]
  obtain ⟨k0, -, -⟩ := hk.tk ht
  have hold := k0.old (by omega)
  have hdn : d.toNat ≠ t.core.toNat := by omega
  have hlc : (s.leaveT t).1.core d = s.core d := by
    unfold SysS.core
    rw [List.getD_eq_getElem?_getD, List.getD_eq_getElem?_getD, SysS.leaveT_cores hdn]
  obtain ⟨e, hec, hee, hef⟩ := hk.core hd
  have hlt : (s.leaveT t).2 = { t with lag := c.q.base - x.v } := by unfold SysS.leaveT; rw [if_pos h2, hce, h3]
  have hp : s.putT t d = ((s.leaveT t).1.setC d.toNat (e.enter t.id t.w (c.q.base - x.v) true)).setT { t with lag := c.q.base - x.v, core := d } := by
    unfold SysS.putT
    rw [if_neg hne, if_neg (by omega), hlt, hlc, hee]
  have hlf := SysS.leaveT_find ht t.id
  rw [if_pos rfl, hlt] at hlf
  have hf' : (s.putT t d).find t.id = some { t with lag := c.q.base - x.v, core := d } := by
    rw [hp, SysS.find_setT (s := (s.leaveT t).1.setC _ _) (t := { t with lag := c.q.base - x.v }) (t' := { t with lag := c.q.base - x.v, core := d }) hlf rfl, if_pos rfl]
  have hni : ∀ y ∈ e.q.l, y.id ≠ t.id := fun y hy eq => by
    obtain ⟨u, hu, -, hu3, -⟩ := hk.rdy _ _ hec y hy
    rw [eq, ht] at hu
    simp only [Option.some.injEq] at hu
    subst hu
    omega
  have hroom := hk.room ht hec hni
  have hget : (s.putT t d).core d = e.enter t.id t.w (c.q.base - x.v) true := by
    rw [hp]
    unfold SysS.core SysS.setT SysS.setC
    simp only
    rw [List.getD_eq_getElem?_getD, List.getElem?_set, if_pos rfl, if_pos (by rw [SysS.leaveT_len]; omega)]
    rfl
  obtain ⟨c', j', x', hc', hce', hcf', hat', hxw'⟩ := hk2.inq hf' (by exact h2)
  simp only at hce' hat'
  have hq := hef.q.put hni hroom (w := t.w) (lag := c.q.base - x.v) (by have := hk.tk ht; exact ⟨by omega, by omega⟩) k0.w ⟨h4, h5⟩
  obtain ⟨-, q1, -, q2, q3⟩ := hq
  have hcq : c'.q = putR e.q t.id t.w (c.q.base - x.v) := by
    rw [← hce', hget]
    unfold CoreS.enter
    rw [if_pos rfl, done_q]
  obtain ⟨-, hm, hid⟩ := at_mem hat'
  rw [hcq, q1] at hm
  have hx' : x' = newP e.q.base t.id t.w (c.q.base - x.v) := by
    rcases insP_mem.1 hm with h | h
    · exact h
    · exact absurd hid (hni _ h)
  have hvw : (s.putT t d).view { t with lag := c.q.base - x.v, core := d } = { t with core := d, lag := c'.q.base - x'.v } := by
    unfold SysS.view
    rw [if_pos h2]
    simp only
    rw [hce', hat']
  refine ⟨_, _, hf', hvw, ?_⟩
  rw [hv, hx', hcq]
  simp only [newP]
  by_cases hl : e.q.l = []
  · rw [q3 hl]
    omega
  · rw [q2 hl]
    omega
theorem has_all {n : Nat} (hn : 1 ≤ n ∧ n ≤ 6) : goodM (2 ^ n - 1 : Int) n = true ∧ (∀ d : Int, 0 ≤ d ∧ d < n → hasM (2 ^ n - 1 : Int) d = true) := by
  have key : ∀ n : Fin 7, 1 ≤ n.val → goodM (2 ^ n.val - 1 : Int) n.val = true ∧ ∀ d : Fin 6, d.val < n.val → hasM (2 ^ n.val - 1 : Int) (d.val : Int) = true := by decide +kernel
  obtain ⟨h1, h2⟩ := key ⟨n, by omega⟩ hn.1
  refine ⟨h1, fun d hd => ?_⟩
  have := h2 ⟨d.toNat, by omega⟩ (by simp only; omega)
  simpa [show ((d.toNat : Nat) : Int) = d by omega] using this
/-- What a move does, where it may be: of those that are all ready. -/
theorem Free.moved (h : Free (2 ^ n - 1) n s) (hn : 1 ≤ n ∧ n ≤ 6) (hk : SysOk T s) (hT : T ≤ 9000000) {t : Tk} (ht : s.find t.id = some t) {d : Int} (hd : 0 ≤ d ∧ d < n) :
    ∃ t' g, (s.move t.id d).2 = 0 ∧ (s.move t.id d).1.find t.id = some t' ∧ (s.move t.id d).1.view t' = { t with core := d, lag := g } ∧ t.st = 2 ∧ (g = (s.view t).lag ∨ (s.view t).lag < g ∧ g = 0) := by
  obtain ⟨o1, o2, o3⟩ := h.on _ _ ht
  have hm : hasM t.mask d = true := by rw [o2]; exact (has_all hn).2 d hd
  have e : s.move t.id d = (s.putT t d, 0) := by unfold SysS.move; rw [ht]; simp only; rw [if_pos (.inl o1), if_pos hm]
  rw [e]
  by_cases hc : t.core = d
  · have e2 : s.putT t d = s := by unfold SysS.putT; rw [if_pos hc]
    rw [e2]
    refine ⟨t, (s.view t).lag, rfl, ht, ?_, o1, .inl rfl⟩
    simp only
    unfold SysS.view
    rw [if_pos o1]
    subst hc
    rfl
  · obtain ⟨t', g, h1, h2, h3⟩ := move_view hk hT ht o1 (d := d) (by rw [h.len]; exact hd) hc
    exact ⟨t', g, rfl, h1, h2, o1, h3⟩
theorem Free.stays (h : Free (2 ^ n - 1) n s) (hn : 1 ≤ n ∧ n ≤ 6) (hk : SysOk T s) {t : Tk} (ht : s.find t.id = some t) {d : Int} (hd : ¬ (0 ≤ d ∧ d < n)) : s.move t.id d = (s, 5) := by
  obtain ⟨o1, o2, o3⟩ := h.on _ _ ht
  have hm : hasM t.mask d = false := by
    rw [o2]
    cases hq : hasM (2 ^ n - 1 : Int) d with
    | false => rfl
    | true => exact absurd (hasM_lt (has_all hn).1 hq) hd
  unfold SysS.move
  rw [ht]
  simp only
  rw [if_pos (.inl o1), hm, if_neg (by simp)]
end
theorem mask_val {n : Nat} (hn : n ≤ 6) : IntKind.u16.wrap (IntKind.u16.wrap (2 ^ n) - 1) = (2 ^ n - 1 : Int) := by
  have key : ∀ n : Fin 7, IntKind.u16.wrap (IntKind.u16.wrap (2 ^ n.val) - 1) = (2 ^ n.val - 1 : Int) := by decide +kernel
  exact key ⟨n, by omega⟩
theorem mask_16 {n : Nat} (hn : n ≤ 6) : 0 ≤ (2 ^ n - 1 : Int) ∧ (2 ^ n - 1 : Int) < 65536 := by
  have key : ∀ n : Fin 7, 0 ≤ (2 ^ n.val - 1 : Int) ∧ (2 ^ n.val - 1 : Int) < 65536 := by decide +kernel
  exact key ⟨n, by omega⟩
end Go.Proofs.YtlgkkolgdjgclaaGreat
/- A system keeps what is true of it: Tick (plain). -/
namespace Go.Proofs.YtlgkkolgdjgclaaGreat
open Go.RowKit Go.Shelf
set_option linter.unusedVariables false
set_option linter.unusedSimpArgs false

section
variable {T : Nat} {s : SysS}
theorem Acn.tick_good {a : Acn} (h : a.good = true) (n : Int) : (a.tick n).1.good = true := by
  unfold Acn.tick
  split
  · rename_i h1
    obtain ⟨⟨a1, a2, a3, a4, a5, a6, a7, a8⟩, hn⟩ := h1
    unfold Acn.good
    rw [decide_eq_true_eq]
    refine .inr ?_
    have m0 := Int.emod_nonneg (a.f + n) (show a.p ≠ 0 by omega)
    have m1 := Int.emod_lt_of_pos (a.f + n) (show 0 < a.p by omega)
    unfold Acn.ok
    simp only
    refine ⟨a1, a2, a3, a4, ?_, ?_, m0, m1⟩ <;> (split <;> omega)
  · exact h
theorem ups_tickG (s : SysS) (n : Int) : (s.tickG n).ups = s.ups := by
  unfold SysS.ups SysS.tickG
  simp [Function.comp_def]
theorem acc_tickG (s : SysS) (n : Int) (g : Nat) : (s.tickG n).acc g = ((s.acc g).tick n).1 := by
  unfold SysS.acc SysS.tickG
  simp only [List.getElem?_map]
  cases s.grps[g]? with
  | none => simp [Acn.tick, Acn.zero, Acn.ok]
  | some p => rfl
theorem SysOk.tickG (h : SysOk T s) (n : Int) : SysOk T (s.tickG n) := by
  have hup := ups_tickG s n
  refine ⟨h.c1, h.c16, h.cor, by have := h.g1; simp [SysS.tickG]; omega, by have := h.g16; simp [SysS.tickG]; omega, fun p hp => ?_, h.s64, h.turn, fun i k t ht => ?_, h.rdy, h.rdq⟩
  · obtain ⟨q, hq, rfl⟩ := List.mem_map.1 hp
    exact Acn.tick_good (h.acc q hq) n
  · obtain ⟨a1, a2, a3⟩ := h.slot i k t ht
    exact ⟨a1, a2, a3.congr hup rfl⟩
theorem SysS.enterT_find {t : Tk} (h : s.find t.id = some t) (ex : Bool) (j : Int) : (s.enterT t ex).find j = if j = t.id then some { t with st := if s.spentG t.grp = true then 5 else 2 } else s.find j := by
  unfold SysS.enterT
  split
  · rw [SysS.find_setT (t' := { t with st := 5 }) h rfl]
  · rw [SysS.find_setT (s := s.setC _ _) (t := t) (t' := { t with st := 2 }) h rfl]
    rfl
theorem SysOk.tick1 (h : SysOk T s) (hT : T ≤ 10000000) (id : Int) : SysOk (T + 2) (s.tick1 id) := by
  unfold SysS.tick1
  cases hf : s.find id with
  | none => exact h.mono (by omega)
  | some t =>
    obtain ⟨hok, hid, -⟩ := h.tk hf
    subst hid
    simp only
    split
    · rename_i hs
      exact h.enterT hT hf (by omega) rfl rfl rfl rfl rfl (hok.old (by omega)) true
    · exact h.mono (by omega)
theorem SysS.tickL_append (s : SysS) (l : List Int) (x : Int) : s.tickL (l ++ [x]) = (s.tickL l).tick1 x := by
  induction l generalizing s with
  | nil => rfl
  | cons y t ih => exact ih (s.tick1 y)
theorem SysOk.tickL (hk : SysOk T s) : ∀ (l : List Int), T + 2 * l.length ≤ 10000000 → SysOk (T + 2 * l.length) (s.tickL l) := by
  intro l
  induction l generalizing s T with
  | nil => intro _; exact hk
  | cons y t ih =>
    intro h
    rw [List.length_cons] at h ⊢
    have := ih (hk.tick1 (by omega) y) (by omega)
    rw [show T + 2 * (t.length + 1) = T + 2 + 2 * t.length by omega]
    exact this
theorem SysS.tick1_find {s : SysS} (id j : Int) : ((s.tick1 id).find j).isSome = (s.find j).isSome := by
  unfold SysS.tick1
  cases hf : s.find id with
  | none => rfl
  | some t =>
    obtain ⟨-, hid, -⟩ := SysS.find_slot hf
    subst hid
    simp only
    split
    · rw [SysS.enterT_find hf]
      by_cases e : j = t.id
      · subst e; simp [hf]
      · simp [e]
    · rfl
theorem SysS.tickL_find (s : SysS) (l : List Int) (j : Int) : ((s.tickL l).find j).isSome = (s.find j).isSome := by
  induction l generalizing s with
  | nil => rfl
  | cons y t ih => exact (ih (s.tick1 y)).trans (SysS.tick1_find y j)
theorem SysOk.mem_ids (hk : SysOk T s) {id : Int} : id ∈ s.ids ↔ (s.find id).isSome = true := by
  unfold SysS.ids
  rw [List.mem_mergeSort]
  constructor
  · intro h
    obtain ⟨u, hu, rfl⟩ := List.mem_map.1 h
    rw [hk.all_find hu]; rfl
  · intro h
    obtain ⟨t, ht⟩ := Option.isSome_iff_exists.1 h
    obtain ⟨_, hid, n, hs⟩ := SysS.find_slot ht
    refine List.mem_map.2 ⟨t, ?_, hid⟩
    unfold SysS.all
    exact List.mem_filterMap.2 ⟨_, List.mem_of_getElem? hs, rfl⟩
theorem SysOk.tick_at (hk : SysOk T s) (hT : T ≤ 9000000) {k : Nat} (hlk : k < s.all.length) : ∃ id t, s.ids[k]? = some id ∧ (s.tickL (s.ids.take k)).find id = some t ∧ t.id = id ∧ SysOk (T + 128) (s.tickL (s.ids.take k)) ∧ s.tickL (s.ids.take (k + 1)) = (s.tickL (s.ids.take k)).tick1 id := by
  have h64 := hk.all64
  have hkl : k < s.ids.length := by rw [ids_len]; exact hlk
  have h2 := SysS.tickL_find s (s.ids.take k) s.ids[k]
  rw [hk.mem_ids.1 (List.getElem_mem hkl)] at h2
  obtain ⟨t, ht⟩ := Option.isSome_iff_exists.1 h2
  have hok := hk.tickL (s.ids.take k) (by rw [List.length_take, ids_len]; omega)
  refine ⟨s.ids[k], t, List.getElem?_eq_getElem hkl, ht, (SysS.find_slot ht).2.1, hok.mono (by rw [List.length_take, ids_len]; omega), ?_⟩
  rw [List.take_succ_eq_append_getElem hkl, SysS.tickL_append]
theorem SysOk.tick (hk : SysOk T s) (hT : T ≤ 9000000) (n : Int) : SysOk (T + 128) (s.tick n).1 := by
  unfold SysS.tick
  split
  · exact hk.mono (by omega)
  · have h1 := hk.tickG n
    have h64 := h1.all64
    exact (h1.tickL (s.tickG n).ids (by rw [ids_len]; omega)).mono (by rw [ids_len]; omega)
theorem SysS.tickL_all (s : SysS) : s.tickL s.ids = s.tickL (s.ids.take s.all.length) := by rw [← ids_len, List.take_length]
end
end Go.Proofs.YtlgkkolgdjgclaaGreat
