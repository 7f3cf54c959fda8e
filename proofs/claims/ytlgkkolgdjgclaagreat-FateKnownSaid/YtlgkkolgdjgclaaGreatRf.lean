/- A drawn region in which two operations that act may stand in either order: a tree of orders. -/
import Derived.Test.YtlgkkolgdjgclaaGreatR
namespace Go.Proofs.YtlgkkolgdjgclaaGreat
set_option linter.unusedVariables false
set_option linter.unusedSimpArgs false

/-- A tree of orders. -/
inductive Tr where
  | done
  | one (k : Nat) (r : Tr)
  | act (k : Nat) (ps : List Nat) (r : Tr)
  | fork (k1 : Nat) (ps1 : List Nat) (r1 : Tr) (k2 : Nat) (ps2 : List Nat) (r2 : Tr)
def Tr.size : Tr → Nat
  | done => 0
  | one _ r => r.size + 1
  | act _ _ r => r.size + 1
  | fork _ _ r1 _ _ _ => r1.size + 1

section
variable {P : Program} {ops : Array Oper} {Q : Exit → Act → World → Prop} {wt : Nat → Nat → Bool}

def chainT (P : Program) (ops : Array Oper) (Q : Exit → Act → World → Prop) : Tr → Act → World → Prop
  | .done, a, w => Q .normal a w
  | .one k r, a, w => (match ops[k]? with
    | some o => wpList P ops (Exit.then (fun a1 w1 => w1 = w ∧ chainT P ops Q r a1 w1) NoWay) [o] a w
    | none => False)
  | .act k ps r, a, w => (match ops[k]? with
    | some o => wpList P ops (Exit.then (fun a1 w1 => Obs P ops ps a1 w1 (chainT P ops Q r a1 w1)) Q) [o] a w
    | none => False)
  | .fork k1 ps1 r1 k2 ps2 r2, a, w => (match ops[k1]? with
    | some o => wpList P ops (Exit.then (fun a1 w1 => Obs P ops ps1 a1 w1 (chainT P ops Q r1 a1 w1)) Q) [o] a w
    | none => False) ∧ (match ops[k2]? with
    | some o => wpList P ops (Exit.then (fun a1 w1 => Obs P ops ps2 a1 w1 (chainT P ops Q r2 a1 w1)) Q) [o] a w
    | none => False)

/-- What an operation that acts must keep: those that need not have come before it. -/
def keepsC (wt : Nat → Nat → Bool) (ops : Array Oper) (k : Nat) (ps Pr : List Nat) : Bool :=
  match ops[k]? with
  | some o => ((Pr.filter fun p => !wt k p).all fun p => ps.contains p && match ops[p]? with | some op => !(op.dst == o.dst) | none => false)
  | none => false

def okT (wt : Nat → Nat → Bool) (ops : Array Oper) : Tr → Array Bool → List Nat → Bool
  | .done, listed, _ => Region.ready .any ops listed == []
  | .one k r, listed, Pr => (match ops[k]? with
    | some o => valOp o.op && (match o.dst with | some d => !(o.looksAt ops).contains d | none => false) && Region.free .any ops listed k && (Region.ready .any ops listed).contains k &&
        ((stillPr wt ops listed Pr).all fun p => match ops[p]? with | some op => !(op.dst == o.dst) && (match o.dst with | some d => !(op.looksAt ops).contains d | none => false) | none => false) &&
        okT wt ops r (listed.setIfInBounds k true) (k :: stillPr wt ops listed Pr)
    | none => false)
  | .act k ps r, listed, Pr => (Region.ready .any ops listed == [k]) && keepsC wt ops k ps (stillPr wt ops listed Pr) &&
        okT wt ops r (listed.setIfInBounds k true) ((stillPr wt ops listed Pr).filter fun p => !wt k p)
  | .fork k1 ps1 r1 k2 ps2 r2, listed, Pr => (Region.ready .any ops listed == [k1, k2]) && (r1.size == r2.size) && (keepsC wt ops k1 ps1 (stillPr wt ops listed Pr) &&
        okT wt ops r1 (listed.setIfInBounds k1 true) ((stillPr wt ops listed Pr).filter fun p => !wt k1 p)) && (keepsC wt ops k2 ps2 (stillPr wt ops listed Pr) &&
        okT wt ops r2 (listed.setIfInBounds k2 true) ((stillPr wt ops listed Pr).filter fun p => !wt k2 p))

/-- One operation that acts. -/
theorem act_step {k : Nat} {ps : List Nat} {fuel : Nat} {listed : Array Bool} {Pr' : List (Nat × Value)} {a : Act} {w : World} {X : Act → World → Prop}
    (hkr : k ∈ Region.ready .any ops listed) (hkeep : keepsC wt ops k ps (Pr'.map (·.1)) = true) (hinv : ∀ p ∈ Pr', Inv P ops w a p) (hsz : ∀ (i : Nat) (o : Oper) (d : Tmp), ops[i]? = some o → o.dst = some d → d < a.tmps.size)
    (hch : match ops[k]? with | some o => wpList P ops (Exit.then (fun a1 w1 => Obs P ops ps a1 w1 (X a1 w1)) Q) [o] a w | none => False)
    (ih : ∀ a1 w1, (∀ p ∈ Pr'.filter (fun p => !wt k p.1), Inv P ops w1 a1 p) → (∀ (i : Nat) (o : Oper) (d : Tmp), ops[i]? = some o → o.dst = some d → d < a1.tmps.size) → X a1 w1 → wpAnyG wt P ops Q fuel (Pr'.filter fun p => !wt k p.1) (listed.setIfInBounds k true) a1 w1) :
    wpOp P ops Q k (fun a' w' => (∀ p ∈ Pr'.filter (fun p => !wt k p.1), AtW P ops w' p a') ∧ wpAnyG wt P ops Q fuel (Pr'.filter fun p => !wt k p.1) (listed.setIfInBounds k true) a' w') a w := by
  have hsub : ∀ p ∈ Pr', p ∈ Pr' := fun p hp => hp
  cases ho : ops[k]? with
  | none => rw [ho] at hch; exact hch.elim
  | some o =>
    unfold keepsC at hkeep
    rw [ho] at hkeep hch
    have hall := hkeep
    simp only at hall hch
    have hfm : (Pr'.filter fun p => !wt k p.1).map (·.1) = (Pr'.map (·.1)).filter fun p => !wt k p := by
      rw [List.filter_map]; rfl
    have hpr : ∀ p ∈ Pr'.filter (fun p => !wt k p.1), p.1 ∈ ps ∧ ∃ op, ops[p.1]? = some op ∧ op.dst ≠ o.dst := by
      intro p hp
      have h1 := List.all_eq_true.1 hall p.1 (by rw [← hfm]; exact List.mem_map_of_mem hp)
      simp only [Bool.and_eq_true] at h1
      refine ⟨by simpa using h1.1, ?_⟩
      have h2 := h1.2
      cases hop : ops[p.1]? with
      | none => rw [hop] at h2; simp at h2
      | some op =>
        rw [hop] at h2
        simp only [Bool.not_eq_true', beq_eq_false_iff_ne] at h2
        exact ⟨op, rfl, h2⟩
    -- behind the operation
    have hnext : ∀ a1 w1, (∃ u, a1.tmps = (a.put o.dst u).tmps) → Obs P ops ps a1 w1 (X a1 w1) →
        (∀ p ∈ Pr'.filter (fun p => !wt k p.1), AtW P ops w1 p a1) ∧ wpAnyG wt P ops Q fuel (Pr'.filter fun p => !wt k p.1) (listed.setIfInBounds k true) a1 w1 := by
      intro a1 w1 hu hob
      obtain ⟨u, hu⟩ := hu
      obtain ⟨hx, hps⟩ := obs_get hob
      have hslot : ∀ p ∈ Pr'.filter (fun p => !wt k p.1), ∀ op d, ops[p.1]? = some op → op.dst = some d → a1.tmps.getD d undef = p.2 := by
        intro p hp op d hop hd
        obtain ⟨_, op', hop', hne⟩ := hpr p hp
        rw [hop] at hop'; cases hop'
        have h1 := (hinv p (hsub p (List.mem_filter.1 hp).1)).2.1 op d hop hd
        rw [hu, Act.put_get_ne a u o.dst (fun h => hne (by rw [hd, h]))]
        exact h1
      have hat : ∀ p ∈ Pr'.filter (fun p => !wt k p.1), AtW P ops w1 p a1 := by
        intro p hp
        obtain ⟨hmem, op, hop, hne⟩ := hpr p hp
        obtain ⟨op', hop', hrun⟩ := hps p.1 hmem
        rw [hop] at hop'; cases hop'
        refine ⟨op, hop, ?_⟩
        cases hd : op.dst with
        | none => exact absurd hd ((hinv p (hsub p (List.mem_filter.1 hp).1)).2.2 op hop)
        | some d =>
          rw [hd] at hrun
          simp only at hrun
          rw [hslot p hp op d hop hd] at hrun
          rcases hrun with ⟨h1, h2⟩ | ⟨h1, h2⟩
          · exact .inl ⟨h1, fun x hx => by subst hx; exact h2⟩
          · exact .inr ⟨h1, h2⟩
      exact ⟨hat, ih a1 w1 (fun p hp => ⟨hat p hp, fun op d h1 h2 => hslot p hp op d h1 h2, (hinv p (hsub p (List.mem_filter.1 hp).1)).2.2⟩) (fun i o' e h1 h2 => by rw [hu, Act.put_size]; exact hsz i o' e h1 h2) hx⟩
    unfold wpOp
    rw [ho]
    simp only
    unfold wpList at hch
    by_cases hw : Region.wanted o (yielded ops a.tmps) = true
    · rw [if_pos hw] at hch ⊢
      rcases hch with hch | ⟨h1, a0, w0, h2⟩
      · refine .inl (Oper.wp_mono (fun a1 w1 h => ?_) (wp_put (wp_post hch)))
        simp only [wpList, Exit.then] at h
        exact hnext a1 w1 h.1 h.2
      · exact .inr ⟨h1, a0, w0, h2⟩
    · rw [if_neg hw] at hch ⊢
      simp only [wpList, Exit.then] at hch
      exact hnext _ w ⟨undef, rfl⟩ hch



theorem chainT_sound (hwt : Waits ops wt) (hsel : Region.noSelect ops = true) (hQ : ∀ c a a' w, Q (.panic c) a' w → Q (.panic c) a w) :
    ∀ (r : Tr) (listed : Array Bool) (Pr : List (Nat × Value)) (a : Act) (w : World), okT wt ops r listed (Pr.map (·.1)) = true → Closed ops listed →
      (∀ p ∈ Pr, Inv P ops w a p) → (∀ (i : Nat) (o : Oper) (d : Tmp), ops[i]? = some o → o.dst = some d → d < a.tmps.size) → chainT P ops Q r a w → wpAnyG wt P ops Q r.size Pr listed a w := by
  have hse := Region.noSelect_spec hsel
  have hfm : ∀ (k : Nat) (L : List (Nat × Value)), (L.filter fun p => !wt k p.1).map (·.1) = (L.map (·.1)).filter fun p => !wt k p := fun k L => by rw [List.filter_map]; rfl
  intro r
  induction r with
  | done =>
    intro listed Pr a w hok _ _ _ hch
    exact ⟨by simpa [okT] using hok, hch⟩
  | one k r ih =>
    intro listed Pr a w hok hcl hinv hsz hch
    -- only those for which something is left that need not wait
    have hk : ∀ p ∈ Pr, (fun p : Nat × Value => (stillPr wt ops listed (Pr.map (·.1))).contains p.1) p = false → ∀ j, j < ops.size → listed.getD j true = false → wt j p.1 = true := by
      intro p hp hno j hjs hj
      have hno' : ¬ p.1 ∈ stillPr wt ops listed (Pr.map (·.1)) := by simpa using hno
      unfold stillPr at hno'
      rw [List.mem_filter] at hno'
      have hm : p.1 ∈ Pr.map (·.1) := List.mem_map_of_mem hp
      cases hwt : wt j p.1 with
      | true => rfl
      | false => exact absurd ⟨hm, List.any_eq_true.2 ⟨j, List.mem_range.2 hjs, by rw [hj, hwt]; rfl⟩⟩ hno'
    refine wpAnyG_drop _ _ Pr listed a w hk ?_
    generalize hPr' : (Pr.filter fun p : Nat × Value => (stillPr wt ops listed (Pr.map (·.1))).contains p.1) = Pr'
    have hsub : ∀ p ∈ Pr', p ∈ Pr := fun p hp => by rw [← hPr'] at hp; exact (List.mem_filter.1 hp).1
    have hst : stillPr wt ops listed (Pr.map (·.1)) = Pr'.map (·.1) := by
      rw [← hPr']
      have hc : ∀ p ∈ Pr, (stillPr wt ops listed (Pr.map (·.1))).contains p.1 = ((fun p => (List.range ops.size).any fun j => !listed.getD j true && !wt j p) ∘ fun x : Nat × Value => x.1) p := by
        intro p hp
        have hm : p.1 ∈ Pr.map (·.1) := List.mem_map_of_mem hp
        unfold stillPr
        simp only [List.contains_eq_mem, List.mem_filter, hm, true_and, Function.comp]
        cases ((List.range ops.size).any fun j => !listed.getD j true && !wt j p.1) <;> simp
      rw [List.filter_congr hc]
      unfold stillPr
      rw [List.filter_map]
    clear hPr' hk
    simp only [okT, chainT] at hok hch
    cases ho : ops[k]? with
    | none => rw [ho] at hok; simp at hok
    | some o =>
      rw [ho] at hok hch
      simp only [Bool.and_eq_true] at hok hch
      rw [hst] at hok
      obtain ⟨⟨⟨⟨⟨hval, hself⟩, hfree⟩, hready⟩, hall⟩, hrest⟩ := hok
      cases hd : o.dst with
      | none => rw [hd] at hself; simp at hself
      | some d =>
        rw [hd] at hself
        -- what the one operation yields
        have hy : ∃ v, YieldsIf P ops (fun x => x = w) o v a ∧ chainT P ops Q r (a.put (some d) v) w := by
          unfold wpList at hch
          by_cases hw : Region.wanted o (yielded ops a.tmps) = true
          · rw [if_pos hw] at hch
            rcases hch with hch | ⟨_, _, _, hno⟩
            case inr => exact hno.elim
            unfold Oper.wp at hch
            cases hr : (execOp a.eval o).run P w with
            | halt x w1 => rw [hr] at hch; cases x <;> simp only [Oper.upon] at hch <;> exact hch.elim
            | ok n w1 =>
              obtain ⟨v, rfl⟩ := val_run hval hr
              rw [hr] at hch
              simp only [Oper.upon, wpList, Exit.then, hd] at hch
              obtain ⟨rfl, hch⟩ := hch
              exact ⟨v, .inl ⟨hw, fun x hx => by subst hx; exact hr⟩, hch⟩
          · rw [if_neg hw] at hch
            simp only [wpList, Exit.then, hd, true_and] at hch
            exact ⟨undef, .inr ⟨by simpa using hw, rfl⟩, hch⟩
        obtain ⟨v, hy, hch⟩ := hy
        have hpr : ∀ p ∈ Pr', ∃ op, ops[p.1]? = some op ∧ op.dst ≠ some d ∧ d ∉ op.looksAt ops := by
          intro p hp
          have h1 := List.all_eq_true.1 hall p.1 (List.mem_map_of_mem hp)
          cases hop : ops[p.1]? with
          | none => rw [hop] at h1; simp at h1
          | some op =>
            rw [hop, hd] at h1
            simp only [Bool.and_eq_true, Bool.not_eq_true', beq_eq_false_iff_ne] at h1
            exact ⟨op, rfl, h1.1, by simpa using h1.2⟩
        have hself' : ∀ e, o.dst = some e → e ∉ o.looksAt ops := fun e he => by rw [hd] at he; cases he; simpa using hself
        refine wpAnyG_first hwt ho hse hself' (fun c a w h => hQ c a _ w h) r.size Pr' listed a w hcl (Region.free_spec ho hfree) (fun p hp => ?_) (by simpa using hready) hy (fun p hp => (hinv p (hsub p hp)).1) ?_
        · obtain ⟨op, hop, _, h2⟩ := hpr p hp
          exact ⟨op, hop, fun e he => by rw [hd] at he; cases he; exact h2⟩
        · refine ih _ ((k, v) :: Pr') _ w (by simpa using hrest) (hcl.set (by simpa using hready)) ?_ (fun i o' e h1 h2 => by rw [Act.put_size]; exact hsz i o' e h1 h2) (by rw [hd]; exact hch)
          intro p hp
          rcases List.mem_cons.1 hp with rfl | hp
          · refine ⟨(AtW.put ho (fun cs b => hse k o cs b ho) hself').2 ⟨o, ho, hy⟩, fun o' e h1 h2 => ?_, fun o' h1 => ?_⟩
            · simp only at h1
              rw [ho] at h1; cases h1
              rw [hd] at h2 ⊢; cases h2
              exact Act.put_get a v (hsz k o d ho hd)
            · simp only at h1; rw [ho] at h1; cases h1; rw [hd]; simp
          · obtain ⟨op, hop, h1, h2⟩ := hpr p hp
            refine ⟨(AtW.put hop (fun cs b => hse p.1 op cs b hop) (fun e he => by rw [hd] at he; cases he; exact h2)).2 (hinv p (hsub p hp)).1, fun o' e h3 h4 => ?_, (hinv p (hsub p hp)).2.2⟩
            rw [hop] at h3; cases h3
            rw [hd, Act.put_get_ne a v (some d) (fun h => h1 (by rw [h4, h]))]
            exact (hinv p (hsub p hp)).2.1 op e hop h4
  | act k ps r ih =>
    intro listed Pr a w hok hcl hinv hsz hch
    -- only those for which something is left that need not wait
    have hk : ∀ p ∈ Pr, (fun p : Nat × Value => (stillPr wt ops listed (Pr.map (·.1))).contains p.1) p = false → ∀ j, j < ops.size → listed.getD j true = false → wt j p.1 = true := by
      intro p hp hno j hjs hj
      have hno' : ¬ p.1 ∈ stillPr wt ops listed (Pr.map (·.1)) := by simpa using hno
      unfold stillPr at hno'
      rw [List.mem_filter] at hno'
      have hm : p.1 ∈ Pr.map (·.1) := List.mem_map_of_mem hp
      cases hwt : wt j p.1 with
      | true => rfl
      | false => exact absurd ⟨hm, List.any_eq_true.2 ⟨j, List.mem_range.2 hjs, by rw [hj, hwt]; rfl⟩⟩ hno'
    refine wpAnyG_drop _ _ Pr listed a w hk ?_
    generalize hPr' : (Pr.filter fun p : Nat × Value => (stillPr wt ops listed (Pr.map (·.1))).contains p.1) = Pr'
    have hsub : ∀ p ∈ Pr', p ∈ Pr := fun p hp => by rw [← hPr'] at hp; exact (List.mem_filter.1 hp).1
    have hst : stillPr wt ops listed (Pr.map (·.1)) = Pr'.map (·.1) := by
      rw [← hPr']
      have hc : ∀ p ∈ Pr, (stillPr wt ops listed (Pr.map (·.1))).contains p.1 = ((fun p => (List.range ops.size).any fun j => !listed.getD j true && !wt j p) ∘ fun x : Nat × Value => x.1) p := by
        intro p hp
        have hm : p.1 ∈ Pr.map (·.1) := List.mem_map_of_mem hp
        unfold stillPr
        simp only [List.contains_eq_mem, List.mem_filter, hm, true_and, Function.comp]
        cases ((List.range ops.size).any fun j => !listed.getD j true && !wt j p.1) <;> simp
      rw [List.filter_congr hc]
      unfold stillPr
      rw [List.filter_map]
    clear hPr' hk
    simp only [okT, chainT, Bool.and_eq_true, beq_iff_eq] at hok hch
    rw [hst] at hok
    obtain ⟨⟨hready, hkeep⟩, hrest⟩ := hok
    have hkr : k ∈ Region.ready .any ops listed := by rw [hready]; simp
    refine ⟨fun h => (by rw [h] at hready; cases hready), fun j hj => ?_⟩
    rw [hready] at hj
    obtain rfl : j = k := by simpa using hj
    exact act_step hkr hkeep (fun p hp => hinv p (hsub p hp)) hsz hch (fun a1 w1 h1 h2 h3 => ih _ _ a1 w1 (by rw [hfm]; exact hrest) (hcl.set hkr) h1 h2 h3)
  | fork k1 ps1 r1 k2 ps2 r2 ih1 ih2 =>
    intro listed Pr a w hok hcl hinv hsz hch
    -- only those for which something is left that need not wait
    have hk : ∀ p ∈ Pr, (fun p : Nat × Value => (stillPr wt ops listed (Pr.map (·.1))).contains p.1) p = false → ∀ j, j < ops.size → listed.getD j true = false → wt j p.1 = true := by
      intro p hp hno j hjs hj
      have hno' : ¬ p.1 ∈ stillPr wt ops listed (Pr.map (·.1)) := by simpa using hno
      unfold stillPr at hno'
      rw [List.mem_filter] at hno'
      have hm : p.1 ∈ Pr.map (·.1) := List.mem_map_of_mem hp
      cases hwt : wt j p.1 with
      | true => rfl
      | false => exact absurd ⟨hm, List.any_eq_true.2 ⟨j, List.mem_range.2 hjs, by rw [hj, hwt]; rfl⟩⟩ hno'
    refine wpAnyG_drop _ _ Pr listed a w hk ?_
    generalize hPr' : (Pr.filter fun p : Nat × Value => (stillPr wt ops listed (Pr.map (·.1))).contains p.1) = Pr'
    have hsub : ∀ p ∈ Pr', p ∈ Pr := fun p hp => by rw [← hPr'] at hp; exact (List.mem_filter.1 hp).1
    have hst : stillPr wt ops listed (Pr.map (·.1)) = Pr'.map (·.1) := by
      rw [← hPr']
      have hc : ∀ p ∈ Pr, (stillPr wt ops listed (Pr.map (·.1))).contains p.1 = ((fun p => (List.range ops.size).any fun j => !listed.getD j true && !wt j p) ∘ fun x : Nat × Value => x.1) p := by
        intro p hp
        have hm : p.1 ∈ Pr.map (·.1) := List.mem_map_of_mem hp
        unfold stillPr
        simp only [List.contains_eq_mem, List.mem_filter, hm, true_and, Function.comp]
        cases ((List.range ops.size).any fun j => !listed.getD j true && !wt j p.1) <;> simp
      rw [List.filter_congr hc]
      unfold stillPr
      rw [List.filter_map]
    clear hPr' hk
    simp only [okT, chainT, Bool.and_eq_true, beq_iff_eq] at hok hch
    rw [hst] at hok
    obtain ⟨⟨⟨hready, hsame⟩, hkeep1, hrest1⟩, hkeep2, hrest2⟩ := hok
    have hkr1 : k1 ∈ Region.ready .any ops listed := by rw [hready]; simp
    have hkr2 : k2 ∈ Region.ready .any ops listed := by rw [hready]; simp
    refine ⟨fun h => (by rw [h] at hready; cases hready), fun j hj => ?_⟩
    rw [hready] at hj
    rcases (by simpa using hj : j = k1 ∨ j = k2) with rfl | rfl
    · exact act_step hkr1 hkeep1 (fun p hp => hinv p (hsub p hp)) hsz hch.1 (fun a1 w1 h1 h2 h3 => ih1 _ _ a1 w1 (by rw [hfm]; exact hrest1) (hcl.set hkr1) h1 h2 h3)
    · exact act_step hkr2 hkeep2 (fun p hp => hinv p (hsub p hp)) hsz hch.2 (fun a1 w1 h1 h2 h3 => by rw [hsame]; exact ih2 _ _ a1 w1 (by rw [hfm]; exact hrest2) (hcl.set hkr2) h1 h2 h3)

theorem wp_region_tree {id : Nat} {l : List Oper} {a : Act} {w : World} (n : Nat) (tbl : List Nat) (r : Tr) (hm : P.follows .mixedOrders = true)
    (hok : (Region.noSelect l.toArray && (r.size == l.length) && dstsIn l.toArray n && rowsOk tbl l 0 && okT (wtT tbl) l.toArray r (Array.replicate l.length false) []) = true) (hn : a.tmps.size = n)
    (h : chainT P l.toArray (NoPanic Q) r a w.drew) : (Code.region id l.toArray true).wp P Q a w := by
  simp only [Bool.and_eq_true, beq_iff_eq] at hok
  obtain ⟨⟨⟨⟨hsel, hlen⟩, hd⟩, htb⟩, hok⟩ := hok
  refine wp_region_noPanic (wp_region_any hm ?_)
  have hs : l.toArray.size = l.length := by simp
  have := chainT_sound (P := P) (Q := NoPanic Q) (wt := wtT tbl) (waits_tbl htb) hsel (fun _ _ _ _ h => h) r (Array.replicate l.toArray.size false) [] a w.drew (by rw [hs]; exact hok) closed0 (fun p hp => by cases hp) (fun i o d ho hdst => by
    have h1 := Array.all_eq_true_iff_forall_mem.1 hd o (Array.mem_of_getElem? ho)
    rw [hdst] at h1
    rw [hn]; simpa using h1) h
  rw [hlen, ← hs] at this
  exact wpAnyG_any _ _ _ _ _ this

end
end Go.Proofs.YtlgkkolgdjgclaaGreat
