/- A region whose order is open, walked in one order: each operation that only reads is shown once; behind one that acts it is shown that those that need not wait for one another read as before. -/
import Derived.OrdersHeld
import Derived.Deep.RegionHeld3
namespace Go.Proofs.YtlgkkolgdjgclaaGreat
set_option linter.unusedVariables false
set_option linter.unusedSimpArgs false

section
variable {P : Program} {ops : Array Oper} {Q : Exit → Act → World → Prop} {wt : Nat → Nat → Bool}

/-- j waits for i, at once or through others, as a table of bits tells (one row an operation). -/
def wtT (tbl : List Nat) (j i : Nat) : Bool := (tbl.getD j 0).testBit i

/-- A row tells no more than: what it waits for at once, and what these (all ahead of it) wait for. -/
def rowOk (tbl : List Nat) (j : Nat) (o : Oper) : Bool :=
  (o.after.toList.all fun e => !Region.binds .any e || decide (e.on < j)) &&
  (tbl.getD j 0 == o.after.toList.foldl (fun m e => if Region.binds .any e then m ||| (2 ^ e.on ||| tbl.getD e.on 0) else m) 0)

def rowsOk (tbl : List Nat) : List Oper → Nat → Bool
  | [], _ => true
  | o :: r, j => rowOk tbl j o && rowsOk tbl r (j + 1)

theorem row_bit {tbl : List Nat} {i : Nat} : ∀ (l : List Edge) (m : Nat), (l.foldl (fun m e => if Region.binds .any e then m ||| (2 ^ e.on ||| tbl.getD e.on 0) else m) m).testBit i = true →
    m.testBit i = true ∨ ∃ e ∈ l, Region.binds .any e = true ∧ (e.on = i ∨ wtT tbl e.on i = true) := by
  intro l
  induction l with
  | nil => intro m h; exact .inl h
  | cons e l ih =>
    intro m h
    rw [List.foldl_cons] at h
    rcases ih _ h with h1 | ⟨e', he', h1⟩
    · by_cases hb : Region.binds .any e = true
      · rw [if_pos hb, Nat.testBit_or, Nat.testBit_or, Nat.testBit_two_pow] at h1
        simp only [Bool.or_eq_true, decide_eq_true_eq] at h1
        rcases h1 with h1 | h1 | h1
        · exact .inl h1
        · exact .inr ⟨e, List.mem_cons_self, hb, .inl h1⟩
        · exact .inr ⟨e, List.mem_cons_self, hb, .inr h1⟩
      · rw [if_neg hb] at h1; exact .inl h1
    · exact .inr ⟨e', List.mem_cons_of_mem _ he', h1⟩

theorem rows_at {tbl : List Nat} : ∀ (l : List Oper) (k j : Nat) (o : Oper), rowsOk tbl l k = true → l[j]? = some o → rowOk tbl (k + j) o = true := by
  intro l
  induction l with
  | nil => intro k j o _ h; simp at h
  | cons x l ih =>
    intro k j o h hj
    simp only [rowsOk, Bool.and_eq_true] at h
    cases j with
    | zero => simp at hj; subst hj; exact h.1
    | succ j =>
      have := ih (k + 1) j o h.2 (by simpa using hj)
      rw [show k + (j + 1) = k + 1 + j from by omega]; exact this

def Closed (ops : Array Oper) (listed : Array Bool) : Prop :=
  ∀ j o, ops[j]? = some o → listed.getD j false = true → ∀ e ∈ o.after, Region.binds .any e = true → listed.getD e.on false = true

/-- What a test of waiting must be good for: who may come is behind all it waits for. -/
def Waits (ops : Array Oper) (wt : Nat → Nat → Bool) : Prop :=
  ∀ (listed : Array Bool), Closed ops listed → ∀ (i j : Nat) (o : Oper), ops[j]? = some o → (∀ e ∈ o.after, Region.binds .any e = true → listed.getD e.on false = true) → wt j i = true → listed.getD i false = true

theorem waits_tbl {tbl : List Nat} {l : List Oper} (h : rowsOk tbl l 0 = true) : Waits l.toArray (wtT tbl) := by
  intro listed hc i j
  induction j using Nat.strongRecOn with
  | ind j ih =>
    intro o ho hall hw
    have hr := rows_at l 0 j o h (by simpa using ho)
    rw [Nat.zero_add] at hr
    simp only [rowOk, Bool.and_eq_true, List.all_eq_true, Bool.or_eq_true, Bool.not_eq_true', decide_eq_true_eq, beq_iff_eq] at hr
    unfold wtT at hw
    rw [hr.2] at hw
    rcases row_bit _ _ hw with h0 | ⟨e, he, hb, h1⟩
    · simp at h0
    · have hl := hall e (by simpa using he) hb
      rcases h1 with rfl | h1
      · exact hl
      · have hlt : e.on < j := by
          rcases hr.1 e he with h2 | h2
          · rw [hb] at h2; cases h2
          · exact h2
        cases ho' : l.toArray[e.on]? with
        | none =>
          have hs : l.length ≤ e.on := by simpa using ho'
          have hj : j < l.length := by have := (Array.getElem?_eq_some_iff.1 ho).1; simpa using this
          omega
        | some o' => exact ih e.on hlt o' ho' (fun e2 he2 hb2 => hc e.on o' ho' hl e2 he2 hb2) h1

theorem Closed.set {listed : Array Bool} (hc : Closed ops listed) {i : Nat} (hi : i ∈ Region.ready .any ops listed) : Closed ops (listed.setIfInBounds i true) := by
  intro j o ho hl e he hb
  by_cases hij : i = j
  · subst hij
    obtain ⟨_, o', ho', hall⟩ := mem_ready.1 hi
    rw [ho] at ho'; cases ho'
    exact getD_set_true (hall e he hb)
  · rw [getD_set_ne false hij] at hl
    exact getD_set_true (hc j o ho hl e he hb)

/-- Number p.1 yields p.2 in world w. -/
def AtW (P : Program) (ops : Array Oper) (w : World) (p : Nat × Value) (a : Act) : Prop := ∃ o, ops[p.1]? = some o ∧ YieldsIf P ops (fun x => x = w) o p.2 a

theorem AtW.put {w : World} {p : Nat × Value} {a : Act} {oi op : Oper} {v : Value} (hp : ops[p.1]? = some op) (hs : ∀ cs b, op.op ≠ .select cs b) (h : ∀ d, oi.dst = some d → d ∉ op.looksAt ops) : AtW P ops w p (a.put oi.dst v) ↔ AtW P ops w p a := by
  constructor
  · rintro ⟨o, ho, hy⟩
    rw [hp] at ho; cases ho
    exact ⟨op, hp, hy.of_same (execOp_put op hs a oi.dst v h).symm (wanted_put op a oi.dst v h).symm⟩
  · rintro ⟨o, ho, hy⟩
    rw [hp] at ho; cases ho
    exact ⟨op, hp, hy.of_same (execOp_put op hs a oi.dst v h) (wanted_put op a oi.dst v h)⟩

/-- Whatever order is picked; behind each operation, those of Pr that need not have come before it still yield what they yielded. -/
def wpAnyG (wt : Nat → Nat → Bool) (P : Program) (ops : Array Oper) (Q : Exit → Act → World → Prop) : Nat → List (Nat × Value) → Array Bool → Act → World → Prop
  | 0, _, listed, a, w => Region.ready .any ops listed = [] ∧ Q .normal a w
  | fuel + 1, Pr, listed, a, w =>
    (Region.ready .any ops listed = [] → Q .normal a w) ∧
    ∀ j ∈ Region.ready .any ops listed, wpOp P ops Q j (fun a' w' => (∀ p ∈ Pr.filter (fun p => !wt j p.1), AtW P ops w' p a') ∧
      wpAnyG wt P ops Q fuel (Pr.filter (fun p => !wt j p.1)) (listed.setIfInBounds j true) a' w') a w

theorem wpAnyG_any : ∀ (fuel : Nat) (Pr : List (Nat × Value)) (listed : Array Bool) (a : Act) (w : World), wpAnyG wt P ops Q fuel Pr listed a w → wpAny P .any ops Q fuel listed a w
  | 0, _, _, _, _, h => h
  | fuel + 1, Pr, listed, a, w, h => ⟨h.1, fun j hj => wpOp_mono (fun a' w' h2 => wpAnyG_any fuel _ _ a' w' h2.2) (h.2 j hj)⟩

theorem wpAnyG_mono : ∀ (fuel : Nat) (Pr Pr' : List (Nat × Value)) (listed : Array Bool) (a : Act) (w : World), (∀ p ∈ Pr', p ∈ Pr) → wpAnyG wt P ops Q fuel Pr listed a w → wpAnyG wt P ops Q fuel Pr' listed a w
  | 0, _, _, _, _, _, _, h => h
  | fuel + 1, Pr, Pr', listed, a, w, hs, h => ⟨h.1, fun j hj => wpOp_mono (fun a' w' h2 => by
      have hf : ∀ p ∈ Pr'.filter (fun p => !wt j p.1), p ∈ Pr.filter (fun p => !wt j p.1) := fun p hp => by
        rw [List.mem_filter] at hp ⊢; exact ⟨hs p hp.1, hp.2⟩
      exact ⟨fun p hp => h2.1 p (hf p hp), wpAnyG_mono fuel _ _ _ a' w' hf h2.2⟩) (h.2 j hj)⟩

/-- Those for which all that is left waits need not be looked after. -/
theorem wpAnyG_drop (keep : Nat × Value → Bool) : ∀ (fuel : Nat) (Pr : List (Nat × Value)) (listed : Array Bool) (a : Act) (w : World),
    (∀ p ∈ Pr, keep p = false → ∀ j, j < ops.size → listed.getD j true = false → wt j p.1 = true) → wpAnyG wt P ops Q fuel (Pr.filter keep) listed a w → wpAnyG wt P ops Q fuel Pr listed a w
  | 0, _, _, _, _, _, h => h
  | fuel + 1, Pr, listed, a, w, hw, h => ⟨h.1, fun j hj => wpOp_mono (fun a' w' h2 => by
      obtain ⟨hj0, oj, hoj, _⟩ := mem_ready.1 hj
      have he : (Pr.filter keep).filter (fun q => !wt j q.1) = Pr.filter (fun q => !wt j q.1) := by
        rw [List.filter_filter]
        apply List.filter_congr
        intro q hq
        cases hk : keep q with
        | true => simp
        | false => simp [hw q hq hk j (Array.getElem?_eq_some_iff.1 hoj).1 hj0]
      rw [he] at h2
      exact h2) (h.2 j hj)⟩

theorem wpAnyG_first (hwt : Waits ops wt) {i : Nat} {oi : Oper} {v : Value} (hi : ops[i]? = some oi) (hsel : ∀ (j : Nat) (o : Oper) cs b, ops[j]? = some o → o.op ≠ .select cs b)
    (hself : ∀ d, oi.dst = some d → d ∉ oi.looksAt ops)
    (hQ : ∀ c a w, Q (.panic c) (a.put oi.dst v) w → Q (.panic c) a w) :
    ∀ (fuel : Nat) (Pr : List (Nat × Value)) (listed : Array Bool) (a : Act) (w : World), Closed ops listed →
      (∀ j oj, ops[j]? = some oj → j ≠ i → listed.getD j true = false → (∀ e ∈ oj.after, Region.binds .any e = true → e.on ≠ i) → oi.apart ops oj = true) →
      (∀ p ∈ Pr, ∃ op, ops[p.1]? = some op ∧ ∀ d, oi.dst = some d → d ∉ op.looksAt ops) →
      i ∈ Region.ready .any ops listed → YieldsIf P ops (fun x => x = w) oi v a → (∀ p ∈ Pr, AtW P ops w p a) →
      wpAnyG wt P ops Q fuel ((i, v) :: Pr) (listed.setIfInBounds i true) (a.put oi.dst v) w → wpAnyG wt P ops Q (fuel + 1) Pr listed a w := by
  intro fuel
  induction fuel with
  | zero =>
    intro Pr listed a w hc _ hpr hr hy hat H
    refine ⟨fun h => (by rw [h] at hr; cases hr), fun j hj => ?_⟩
    by_cases hji : j = i
    · subst hji
      refine hy.wpOp hi rfl ⟨fun p hp => ?_, wpAnyG_mono 0 ((j, v) :: Pr) _ _ _ _ (fun p hp => List.mem_cons_of_mem _ (List.mem_filter.1 hp).1) H⟩
      obtain ⟨op, hop, hd⟩ := hpr p (List.mem_filter.1 hp).1
      exact (AtW.put hop (fun cs b => hsel p.1 op cs b hop) hd).2 (hat p (List.mem_filter.1 hp).1)
    · have := ready_mono hj hji
      rw [H.1] at this
      cases this
  | succ fuel ih =>
    intro Pr listed a w hc hfree hpr hr hy hat H
    refine ⟨fun h => (by rw [h] at hr; cases hr), fun j hj => ?_⟩
    by_cases hji : j = i
    · subst hji
      refine hy.wpOp hi rfl ⟨fun p hp => ?_, wpAnyG_mono (fuel + 1) ((j, v) :: Pr) _ _ _ _ (fun p hp => List.mem_cons_of_mem _ (List.mem_filter.1 hp).1) H⟩
      obtain ⟨op, hop, hd⟩ := hpr p (List.mem_filter.1 hp).1
      exact (AtW.put hop (fun cs b => hsel p.1 op cs b hop) hd).2 (hat p (List.mem_filter.1 hp).1)
    · have h1 := H.2 j (ready_mono hj hji)
      obtain ⟨hjun, oj, hoj, hall⟩ := mem_ready.1 hj
      have hi0 := (mem_ready.1 hr).1
      have hilf : listed.getD i false = false := by
        rcases Nat.lt_or_ge i listed.size with h' | h'
        · simp [h'] at hi0 ⊢; exact hi0
        · simp [Array.getElem?_eq_none h'] at hi0
      have hnot : ∀ e ∈ oj.after, Region.binds .any e = true → e.on ≠ i := fun e he hb heq => by
        have h1 := hall e he hb
        rw [heq, hilf] at h1; cases h1
      have hnw : wt j i = false := by
        cases hw : wt j i with
        | false => rfl
        | true => have := hwt listed hc i j oj hoj hall hw; rw [hilf] at this; cases this
      have h2 := wpOp_putIf hoj (hfree j oj hoj hji hjun hnot) (fun cs b => hsel i oi cs b hi) (fun cs b => hsel j oj cs b hoj) hQ hy h1
      have hfree' : ∀ k ok, ops[k]? = some ok → k ≠ i → (listed.setIfInBounds j true).getD k true = false →
          (∀ e ∈ ok.after, Region.binds .any e = true → e.on ≠ i) → oi.apart ops ok = true := fun k ok hk hki hun hno => by
        refine hfree k ok hk hki ?_ hno
        by_cases hjk : j = k
        · subst hjk; exact hjun
        · rw [getD_set_ne true hjk] at hun; exact hun
      refine wpOp_mono (fun a' w' h3 => ?_) h2
      obtain ⟨_, h4, h5⟩ := h3
      have hcons : ((i, v) :: Pr).filter (fun p => !wt j p.1) = (i, v) :: Pr.filter (fun p => !wt j p.1) := by
        simp [hnw]
      rw [hcons] at h4 h5
      have hati : AtW P ops w' (i, v) a' := (AtW.put hi (fun cs b => hsel i oi cs b hi) hself).1 (h4 (i, v) (List.mem_cons_self))
      obtain ⟨oi', hoi', hyi⟩ := hati
      rw [hi] at hoi'; cases hoi'
      have hatp : ∀ p ∈ Pr.filter (fun p => !wt j p.1), AtW P ops w' p a' := fun p hp => by
        obtain ⟨op, hop, hd⟩ := hpr p (List.mem_filter.1 hp).1
        exact (AtW.put hop (fun cs b => hsel p.1 op cs b hop) hd).1 (h4 p (List.mem_cons_of_mem _ hp))
      refine ⟨hatp, ih _ _ a' w' (hc.set hj) hfree' (fun p hp => hpr p (List.mem_filter.1 hp).1) (ready_mono hr (Ne.symm hji)) hyi hatp ?_⟩
      rw [Array.setIfInBounds_comm _ _ hji]
      exact h5

/-- Operations that give a value and call nothing. -/
def valOp : Op → Bool
  | .move _ | .assign _ | .pick .. | .load .. | .nilCheck _ | .binOp .. | .unOp .. | .convert .. | .fieldAddr .. | .field .. | .indexAddr .. | .index .. | .extract .. | .slice .. | .build .. | .makeFunc .. | .makeInterface .. | .lookup .. => true
  | .call { callee := .builtin .len, .. } | .call { callee := .builtin .cap, .. } | .call { callee := .builtin .max, .. } | .call { callee := .builtin .min, .. } => true
  | _ => false

theorem run_val {s : Sem Value} {w w1 : World} {n : Next} (h : Sem.run P (do pure (Next.value (← s))) w = .ok n w1) : ∃ v, n = .value v := by
  rw [Sem.run_bind] at h
  cases hs : s.run P w with
  | ok x w2 => rw [hs] at h; simp [Result.andThen] at h; exact ⟨x, h.1.symm⟩
  | halt x w2 => rw [hs] at h; simp [Result.andThen] at h

theorem run_bindv {α : Type} {s : Sem α} {f : α → Sem Next} (hf : ∀ x w n w1, Sem.run P (f x) w = .ok n w1 → ∃ v, n = .value v) {w w1 : World} {n : Next} (h : Sem.run P (s >>= f) w = .ok n w1) : ∃ v, n = .value v := by
  rw [Sem.run_bind] at h
  cases hs : s.run P w with
  | ok x w2 => rw [hs] at h; exact hf x w2 n w1 h
  | halt x w2 => rw [hs] at h; simp [Result.andThen] at h
theorem run_nilDeref {α : Type} {w w1 : World} {x : α} : Sem.run P (runtimePanic .nilDeref) w ≠ .ok x w1 := by
  intro h
  unfold runtimePanic at h
  rw [Sem.run_bind] at h
  simp [Result.andThen, goPanic] at h

theorem val_run {ρ : Operand → Value} {o : Oper} {w w1 : World} {n : Next} (hv : valOp o.op = true) (h : (execOp ρ o).run P w = .ok n w1) : ∃ v, n = .value v := by
  obtain ⟨dst, op, type, pos, after, guard⟩ := o
  cases op <;> simp only [valOp, Bool.false_eq_true] at hv <;> first
    | exact run_val h
    | (simp only [execOp] at h; exact run_val h)
    | skip
  case move => simp [execOp] at h; exact ⟨_, h.1.symm⟩
  case assign => simp [execOp] at h; exact ⟨_, h.1.symm⟩
  case pick c a b =>
    simp only [execOp] at h
    rw [Sem.run_bind] at h
    cases hs : (asBool (ρ c)).run P w with
    | ok x w2 => rw [hs] at h; simp [Result.andThen] at h; exact ⟨_, h.1.symm⟩
    | halt x w2 => rw [hs] at h; simp [Result.andThen] at h
  case nilCheck x =>
    simp only [execOp] at h
    split at h
    · exact absurd h run_nilDeref
    · exact absurd h run_nilDeref
    · exact absurd h run_nilDeref
    · split at h
      · exact absurd h run_nilDeref
      · refine run_bindv (fun p w2 n2 w3 h2 => ?_) h
        refine run_bindv (fun p w2 n2 w3 h2 => ?_) h2
        split at h2
        · refine run_bindv (fun p w2 n2 w3 h2 => ?_) h2
          simp at h2; exact ⟨_, h2.1.symm⟩
        · simp at h2; exact ⟨_, h2.1.symm⟩
      · simp at h; exact ⟨_, h.1.symm⟩
    · simp at h; exact ⟨_, h.1.symm⟩
  case call c =>
    obtain ⟨callee, args, tys⟩ := c
    cases callee with
    | value f => simp at hv
    | invoke r m => simp at hv
    | builtin b =>
      cases b <;> simp at hv
      · exact run_val (s := Builtin.cap_ tys type (Array.map ρ args)) h
      · exact run_val (s := Builtin.len_ tys type (Array.map ρ args)) h
      · exact run_val (s := Builtin.max_ tys type (Array.map ρ args)) h
      · exact run_val (s := Builtin.min_ tys type (Array.map ρ args)) h


/-! ### one order -/
/-- Behind an operation: those of ps still yield what they yielded. -/
def Obs (P : Program) (ops : Array Oper) (ps : List Nat) (a : Act) (w : World) (X : Prop) : Prop :=
  match ps with
  | [] => X
  | p :: r => (match ops[p]? with
    | some o => (match o.guard with
      | none => (execOp a.eval o).run P w = .ok (.value (match o.dst with | some d => a.tmps.getD d undef | none => undef)) w
      | some _ => if Region.wanted o (yielded ops a.tmps) = true then (execOp a.eval o).run P w = .ok (.value (match o.dst with | some d => a.tmps.getD d undef | none => undef)) w
        else (match o.dst with | some d => a.tmps.getD d undef | none => undef) = undef)
    | none => False) ∧ Obs P ops r a w X

def NoWay : Exit → Act → World → Prop := fun _ _ _ => False

def chain (P : Program) (ops : Array Oper) (Q : Exit → Act → World → Prop) : List (Nat × Option (List Nat)) → Act → World → Prop
  | [], a, w => Q .normal a w
  | (k, none) :: r, a, w => (match ops[k]? with
    | some o => wpList P ops (Exit.then (fun a1 w1 => w1 = w ∧ chain P ops Q r a1 w1) NoWay) [o] a w
    | none => False)
  | (k, some ps) :: r, a, w => (match ops[k]? with
    | some o => wpList P ops (Exit.then (fun a1 w1 => Obs P ops ps a1 w1 (chain P ops Q r a1 w1)) Q) [o] a w
    | none => False)

def stillPr (wt : Nat → Nat → Bool) (ops : Array Oper) (listed : Array Bool) (Pr : List Nat) : List Nat :=
  Pr.filter fun p => (List.range ops.size).any fun j => !listed.getD j true && !wt j p

def okC (wt : Nat → Nat → Bool) (ops : Array Oper) : List (Nat × Option (List Nat)) → Array Bool → List Nat → Bool
  | [], listed, _ => Region.ready .any ops listed == []
  | (k, none) :: r, listed, Pr => (match ops[k]? with
    | some o => valOp o.op && (match o.dst with | some d => !(o.looksAt ops).contains d | none => false) && Region.free .any ops listed k && (Region.ready .any ops listed).contains k &&
        ((stillPr wt ops listed Pr).all fun p => match ops[p]? with | some op => !(op.dst == o.dst) && (match o.dst with | some d => !(op.looksAt ops).contains d | none => false) | none => false) &&
        okC wt ops r (listed.setIfInBounds k true) (k :: stillPr wt ops listed Pr)
    | none => false)
  | (k, some ps) :: r, listed, Pr => (match ops[k]? with
    | some o => (Region.ready .any ops listed == [k]) &&
        (((stillPr wt ops listed Pr).filter fun p => !wt k p).all fun p => ps.contains p && match ops[p]? with | some op => !(op.dst == o.dst) | none => false) &&
        okC wt ops r (listed.setIfInBounds k true) ((stillPr wt ops listed Pr).filter fun p => !wt k p)
    | none => false)

theorem Act.put_size (a : Act) (d : Option Tmp) (v : Value) : (a.put d v).tmps.size = a.tmps.size := by cases d <;> simp [Act.put]
theorem Act.put_get_ne (a : Act) {d : Tmp} (v : Value) (o : Option Tmp) (h : o ≠ some d) : (a.put o v).tmps.getD d undef = a.tmps.getD d undef := by
  cases o with
  | none => rfl
  | some e => simp only [Act.put]; have : e ≠ d := fun he => h (by rw [he]); simp [Array.getElem?_setIfInBounds_ne this]
theorem Act.put_get (a : Act) {d : Tmp} (v : Value) (h : d < a.tmps.size) : (a.put (some d) v).tmps.getD d undef = v := by simp [Act.put, h]

/-- An operation's own act behind it. -/
theorem wp_put {o : Oper} {a : Act} {w : World} {K : Act → World → Prop} (h : o.wp P a w K Q) : o.wp P a w (fun a1 w1 => (∃ u, a1.tmps = (a.put o.dst u).tmps) ∧ K a1 w1) Q := by
  unfold Oper.wp at *
  generalize (execOp a.eval o).run P w = r at *
  cases r with
  | ok n w' =>
    cases n <;> simp only [Oper.upon] at h ⊢
    case value u => exact ⟨⟨u, rfl⟩, h⟩
    case skip => exact ⟨⟨undef, rfl⟩, h⟩
    case defer d => exact ⟨⟨undef, by cases o.dst <;> rfl⟩, h⟩
    case enter f args =>
      refine Calls.mono h fun e w'' he => ?_
      cases e with
      | returned u => exact ⟨⟨u, rfl⟩, he⟩
      | panicked c => exact he
      | outgrown => exact he
    case row row args => exact Rows.mono h fun u w'' he => ⟨⟨u, rfl⟩, he⟩
  | halt x w' => cases x <;> simp only [Oper.upon] at h ⊢ <;> exact h
theorem wp_post {o : Oper} {a : Act} {w : World} {K N : Act → World → Prop} (h : o.wp P a w K (Exit.then N Q)) : o.wp P a w K Q := by
  unfold Oper.wp at *
  generalize (execOp a.eval o).run P w = r at *
  cases r with
  | ok n w' =>
    cases n <;> simp only [Oper.upon] at h ⊢ <;> first
      | exact h
      | exact Calls.mono h fun e w'' he => by cases e <;> exact he
  | halt x w' => cases x <;> simp only [Oper.upon] at h ⊢ <;> exact h


theorem obs_get {ps : List Nat} {a : Act} {w : World} {X : Prop} (h : Obs P ops ps a w X) : X ∧ ∀ p ∈ ps, ∃ o : Oper, ops[p]? = some o ∧
    ((Region.wanted o (yielded ops a.tmps) = true ∧ (execOp a.eval o).run P w = .ok (.value (match o.dst with | some d => a.tmps.getD d undef | none => undef)) w) ∨
     (Region.wanted o (yielded ops a.tmps) = false ∧ (match o.dst with | some d => a.tmps.getD d undef | none => undef) = undef)) := by
  induction ps with
  | nil => exact ⟨h, fun p hp => by cases hp⟩
  | cons q r ih =>
    obtain ⟨h1, h2⟩ := h
    obtain ⟨hx, h3⟩ := ih h2
    refine ⟨hx, fun p hp => ?_⟩
    rcases List.mem_cons.1 hp with rfl | hp
    · cases ho : ops[p]? with
      | none => rw [ho] at h1; exact h1.elim
      | some o =>
        rw [ho] at h1
        refine ⟨o, rfl, ?_⟩
        simp only at h1
        cases hg : o.guard with
        | none => rw [hg] at h1; exact .inl ⟨by simp [Region.wanted, hg], h1⟩
        | some g =>
          rw [hg] at h1
          simp only at h1
          by_cases hw : Region.wanted o (yielded ops a.tmps) = true
          · rw [if_pos hw] at h1; exact .inl ⟨hw, h1⟩
          · rw [if_neg hw] at h1; exact .inr ⟨by simpa using hw, h1⟩
    · exact h3 p hp

/-- What is known of those that are looked after. -/
def Inv (P : Program) (ops : Array Oper) (w : World) (a : Act) (p : Nat × Value) : Prop :=
  AtW P ops w p a ∧ (∀ (o : Oper) (d : Tmp), ops[p.1]? = some o → o.dst = some d → a.tmps.getD d undef = p.2) ∧ ∀ (o : Oper), ops[p.1]? = some o → o.dst ≠ none

theorem chain_sound (hwt : Waits ops wt) (hsel : Region.noSelect ops = true) (hQ : ∀ c a a' w, Q (.panic c) a' w → Q (.panic c) a w) :
    ∀ (r : List (Nat × Option (List Nat))) (listed : Array Bool) (Pr : List (Nat × Value)) (a : Act) (w : World), okC wt ops r listed (Pr.map (·.1)) = true → Closed ops listed →
      (∀ p ∈ Pr, Inv P ops w a p) → (∀ (i : Nat) (o : Oper) (d : Tmp), ops[i]? = some o → o.dst = some d → d < a.tmps.size) → chain P ops Q r a w → wpAnyG wt P ops Q r.length Pr listed a w := by
  have hse := Region.noSelect_spec hsel
  intro r
  induction r with
  | nil =>
    intro listed Pr a w hok _ _ _ hch
    exact ⟨by simpa [okC] using hok, hch⟩
  | cons kf r ih =>
    obtain ⟨k, f⟩ := kf
    intro listed Pr a w hok hcl hinv hsz hch
    -- only those for which something is left that need not wait
    have hk : ∀ p ∈ Pr, (fun p : Nat × Value => (stillPr wt ops listed (Pr.map (·.1))).contains p.1) p = false → ∀ j, j < ops.size → listed.getD j true = false → wt j p.1 = true := by
      intro p hp hno j hjs hj
      have hno' : ¬ p.1 ∈ stillPr wt ops listed (Pr.map (·.1)) := by simpa using hno
      unfold stillPr at hno'
      rw [List.mem_filter] at hno'
      have hm : p.1 ∈ Pr.map (·.1) := List.mem_map_of_mem hp
      cases hwt : wt j p.1 with
      | true => rfl
      | false => exact absurd ⟨hm, List.any_eq_true.2 ⟨j, List.mem_range.2 hjs, by rw [hj, hwt]; rfl⟩⟩ hno'
    refine wpAnyG_drop _ _ Pr listed a w hk ?_
    generalize hPr' : (Pr.filter fun p : Nat × Value => (stillPr wt ops listed (Pr.map (·.1))).contains p.1) = Pr'
    have hsub : ∀ p ∈ Pr', p ∈ Pr := fun p hp => by rw [← hPr'] at hp; exact (List.mem_filter.1 hp).1
    have hst : stillPr wt ops listed (Pr.map (·.1)) = Pr'.map (·.1) := by
      rw [← hPr']
      have hc : ∀ p ∈ Pr, (stillPr wt ops listed (Pr.map (·.1))).contains p.1 = ((fun p => (List.range ops.size).any fun j => !listed.getD j true && !wt j p) ∘ fun x : Nat × Value => x.1) p := by
        intro p hp
        have hm : p.1 ∈ Pr.map (·.1) := List.mem_map_of_mem hp
        unfold stillPr
        simp only [List.contains_eq_mem, List.mem_filter, hm, true_and, Function.comp]
        cases ((List.range ops.size).any fun j => !listed.getD j true && !wt j p.1) <;> simp
      rw [List.filter_congr hc]
      unfold stillPr
      rw [List.filter_map]
    clear hPr' hk
    cases f with
    | none =>
      simp only [okC, chain] at hok hch
      cases ho : ops[k]? with
      | none => rw [ho] at hok; simp at hok
      | some o =>
        rw [ho] at hok hch
        simp only [Bool.and_eq_true] at hok hch
        rw [hst] at hok
        obtain ⟨⟨⟨⟨⟨hval, hself⟩, hfree⟩, hready⟩, hall⟩, hrest⟩ := hok
        cases hd : o.dst with
        | none => rw [hd] at hself; simp at hself
        | some d =>
          rw [hd] at hself
          -- what the one operation yields
          have hy : ∃ v, YieldsIf P ops (fun x => x = w) o v a ∧ chain P ops Q r (a.put (some d) v) w := by
            unfold wpList at hch
            by_cases hw : Region.wanted o (yielded ops a.tmps) = true
            · rw [if_pos hw] at hch
              rcases hch with hch | ⟨_, _, _, hno⟩
              case inr => exact hno.elim
              unfold Oper.wp at hch
              cases hr : (execOp a.eval o).run P w with
              | halt x w1 => rw [hr] at hch; cases x <;> simp only [Oper.upon] at hch <;> exact hch.elim
              | ok n w1 =>
                obtain ⟨v, rfl⟩ := val_run hval hr
                rw [hr] at hch
                simp only [Oper.upon, wpList, Exit.then, hd] at hch
                obtain ⟨rfl, hch⟩ := hch
                exact ⟨v, .inl ⟨hw, fun x hx => by subst hx; exact hr⟩, hch⟩
            · rw [if_neg hw] at hch
              simp only [wpList, Exit.then, hd, true_and] at hch
              exact ⟨undef, .inr ⟨by simpa using hw, rfl⟩, hch⟩
          obtain ⟨v, hy, hch⟩ := hy
          have hpr : ∀ p ∈ Pr', ∃ op, ops[p.1]? = some op ∧ op.dst ≠ some d ∧ d ∉ op.looksAt ops := by
            intro p hp
            have h1 := List.all_eq_true.1 hall p.1 (List.mem_map_of_mem hp)
            cases hop : ops[p.1]? with
            | none => rw [hop] at h1; simp at h1
            | some op =>
              rw [hop, hd] at h1
              simp only [Bool.and_eq_true, Bool.not_eq_true', beq_eq_false_iff_ne] at h1
              exact ⟨op, rfl, h1.1, by simpa using h1.2⟩
          have hself' : ∀ e, o.dst = some e → e ∉ o.looksAt ops := fun e he => by rw [hd] at he; cases he; simpa using hself
          refine wpAnyG_first hwt ho hse hself' (fun c a w h => hQ c a _ w h) r.length Pr' listed a w hcl (Region.free_spec ho hfree) (fun p hp => ?_) (by simpa using hready) hy (fun p hp => (hinv p (hsub p hp)).1) ?_
          · obtain ⟨op, hop, _, h2⟩ := hpr p hp
            exact ⟨op, hop, fun e he => by rw [hd] at he; cases he; exact h2⟩
          · refine ih _ ((k, v) :: Pr') _ w (by simpa using hrest) (hcl.set (by simpa using hready)) ?_ (fun i o' e h1 h2 => by rw [Act.put_size]; exact hsz i o' e h1 h2) (by rw [hd]; exact hch)
            intro p hp
            rcases List.mem_cons.1 hp with rfl | hp
            · refine ⟨(AtW.put ho (fun cs b => hse k o cs b ho) hself').2 ⟨o, ho, hy⟩, fun o' e h1 h2 => ?_, fun o' h1 => ?_⟩
              · simp only at h1
                rw [ho] at h1; cases h1
                rw [hd] at h2 ⊢; cases h2
                exact Act.put_get a v (hsz k o d ho hd)
              · simp only at h1; rw [ho] at h1; cases h1; rw [hd]; simp
            · obtain ⟨op, hop, h1, h2⟩ := hpr p hp
              refine ⟨(AtW.put hop (fun cs b => hse p.1 op cs b hop) (fun e he => by rw [hd] at he; cases he; exact h2)).2 (hinv p (hsub p hp)).1, fun o' e h3 h4 => ?_, (hinv p (hsub p hp)).2.2⟩
              rw [hop] at h3; cases h3
              rw [hd, Act.put_get_ne a v (some d) (fun h => h1 (by rw [h4, h]))]
              exact (hinv p (hsub p hp)).2.1 op e hop h4
    | some ps =>
      simp only [okC, chain] at hok hch
      cases ho : ops[k]? with
      | none => rw [ho] at hok; simp at hok
      | some o =>
        rw [ho] at hok hch
        simp only [Bool.and_eq_true, beq_iff_eq] at hok hch
        rw [hst] at hok
        obtain ⟨⟨hready, hall⟩, hrest⟩ := hok
        have hkr : k ∈ Region.ready .any ops listed := by rw [hready]; simp
        have hfm : (Pr'.filter fun p => !wt k p.1).map (·.1) = (Pr'.map (·.1)).filter fun p => !wt k p := by
          rw [List.filter_map]; rfl
        have hpr : ∀ p ∈ Pr'.filter (fun p => !wt k p.1), p.1 ∈ ps ∧ ∃ op, ops[p.1]? = some op ∧ op.dst ≠ o.dst := by
          intro p hp
          have h1 := List.all_eq_true.1 hall p.1 (by rw [← hfm]; exact List.mem_map_of_mem hp)
          simp only [Bool.and_eq_true] at h1
          refine ⟨by simpa using h1.1, ?_⟩
          have h2 := h1.2
          cases hop : ops[p.1]? with
          | none => rw [hop] at h2; simp at h2
          | some op =>
            rw [hop] at h2
            simp only [Bool.not_eq_true', beq_eq_false_iff_ne] at h2
            exact ⟨op, rfl, h2⟩
        -- behind the operation
        have hnext : ∀ a1 w1, (∃ u, a1.tmps = (a.put o.dst u).tmps) → Obs P ops ps a1 w1 (chain P ops Q r a1 w1) →
            (∀ p ∈ Pr'.filter (fun p => !wt k p.1), AtW P ops w1 p a1) ∧ wpAnyG wt P ops Q r.length (Pr'.filter fun p => !wt k p.1) (listed.setIfInBounds k true) a1 w1 := by
          intro a1 w1 hu hob
          obtain ⟨u, hu⟩ := hu
          obtain ⟨hx, hps⟩ := obs_get hob
          have hslot : ∀ p ∈ Pr'.filter (fun p => !wt k p.1), ∀ op d, ops[p.1]? = some op → op.dst = some d → a1.tmps.getD d undef = p.2 := by
            intro p hp op d hop hd
            obtain ⟨_, op', hop', hne⟩ := hpr p hp
            rw [hop] at hop'; cases hop'
            have h1 := (hinv p (hsub p (List.mem_filter.1 hp).1)).2.1 op d hop hd
            rw [hu, Act.put_get_ne a u o.dst (fun h => hne (by rw [hd, h]))]
            exact h1
          have hat : ∀ p ∈ Pr'.filter (fun p => !wt k p.1), AtW P ops w1 p a1 := by
            intro p hp
            obtain ⟨hmem, op, hop, hne⟩ := hpr p hp
            obtain ⟨op', hop', hrun⟩ := hps p.1 hmem
            rw [hop] at hop'; cases hop'
            refine ⟨op, hop, ?_⟩
            cases hd : op.dst with
            | none => exact absurd hd ((hinv p (hsub p (List.mem_filter.1 hp).1)).2.2 op hop)
            | some d =>
              rw [hd] at hrun
              simp only at hrun
              rw [hslot p hp op d hop hd] at hrun
              rcases hrun with ⟨h1, h2⟩ | ⟨h1, h2⟩
              · exact .inl ⟨h1, fun x hx => by subst hx; exact h2⟩
              · exact .inr ⟨h1, h2⟩
          exact ⟨hat, ih _ _ a1 w1 (by rw [hfm]; exact hrest) (hcl.set hkr) (fun p hp => ⟨hat p hp, fun op d h1 h2 => hslot p hp op d h1 h2, (hinv p (hsub p (List.mem_filter.1 hp).1)).2.2⟩) (fun i o' e h1 h2 => by rw [hu, Act.put_size]; exact hsz i o' e h1 h2) hx⟩
        refine ⟨fun h => (by rw [h] at hready; cases hready), fun j hj => ?_⟩
        rw [hready] at hj
        obtain rfl : j = k := by simpa using hj
        unfold wpOp
        rw [ho]
        simp only
        unfold wpList at hch
        by_cases hw : Region.wanted o (yielded ops a.tmps) = true
        · rw [if_pos hw] at hch ⊢
          rcases hch with hch | ⟨h1, a0, w0, h2⟩
          · refine .inl (Oper.wp_mono (fun a1 w1 h => ?_) (wp_put (wp_post hch)))
            simp only [wpList, Exit.then] at h
            exact hnext a1 w1 h.1 h.2
          · exact .inr ⟨h1, a0, w0, h2⟩
        · rw [if_neg hw] at hch ⊢
          simp only [wpList, Exit.then] at hch
          exact hnext _ w ⟨undef, rfl⟩ hch


theorem closed0 : Closed ops (Array.replicate ops.size false) := by
  intro j o ho hl
  have : (Array.replicate ops.size false).getD j false = false := by
    by_cases h : j < ops.size <;> simp [h]
  rw [this] at hl; cases hl

/-- The dsts lie in the frame. -/
def dstsIn (ops : Array Oper) (n : Nat) : Bool := ops.all fun o => match o.dst with | some d => decide (d < n) | none => true

theorem wp_region_chain {id : Nat} {l : List Oper} {a : Act} {w : World} (n : Nat) (tbl : List Nat) (r : List (Nat × Option (List Nat))) (hm : P.follows .mixedOrders = true)
    (hok : (Region.noSelect l.toArray && (r.length == l.length) && dstsIn l.toArray n && rowsOk tbl l 0 && okC (wtT tbl) l.toArray r (Array.replicate l.length false) []) = true) (hn : a.tmps.size = n)
    (h : chain P l.toArray (NoPanic Q) r a w.drew) : (Code.region id l.toArray true).wp P Q a w := by
  simp only [Bool.and_eq_true, beq_iff_eq] at hok
  obtain ⟨⟨⟨⟨hsel, hlen⟩, hd⟩, htb⟩, hok⟩ := hok
  refine wp_region_noPanic (wp_region_any hm ?_)
  have hs : l.toArray.size = l.length := by simp
  have := chain_sound (P := P) (Q := NoPanic Q) (wt := wtT tbl) (waits_tbl htb) hsel (fun _ _ _ _ h => h) r (Array.replicate l.toArray.size false) [] a w.drew (by rw [hs]; exact hok) closed0 (fun p hp => by cases hp) (fun i o d ho hdst => by
    have h1 := Array.all_eq_true_iff_forall_mem.1 hd o (Array.mem_of_getElem? ho)
    rw [hdst] at h1
    rw [hn]; simpa using h1) h
  rw [hlen, ← hs] at this
  exact wpAnyG_any _ _ _ _ _ this

end
end Go.Proofs.YtlgkkolgdjgclaaGreat
