/- A queue of a system: what was owed is nothing or less, and not much. -/
import Derived.Test.YtlgkkolgdjgclaaGreatCorM
import Derived.Test.YtlgkkolgdjgclaaGreatSy1
import Derived.Maps.OwnSet
import Derived.Test.YtlgkkolgdjgclaaGreatCor
import Derived.Deep.AppendLies
namespace Go.Proofs.YtlgkkolgdjgclaaGreat
open Go.RowKit
set_option linter.unusedVariables false
set_option linter.unusedSimpArgs false

/-- Points stand at the base or ahead of it, by less than five Scales; T: how much was done. -/
structure NearQ (T : Nat) (S : Ln) : Prop where
  byid : ById S.l
  len : S.l.length ≤ 64
  b0 : 0 ≤ S.base
  b1 : S.base ≤ (T : Int) * 1000000000
  pts : ∀ x ∈ S.l, 0 ≤ x.id ∧ x.id ≤ 1000000000 ∧ 1 ≤ x.w ∧ x.w ≤ 20 ∧ S.base ≤ x.v ∧ x.v ≤ S.base + 1000000000
  front : S.l = [] ∨ ∃ x ∈ S.l, x.v = S.base
  days : ∀ x ∈ S.l, DayOk x
  cur : S.cur = -1 ∨ ∃ x ∈ S.l, x.id = S.cur
theorem NearQ.ok {T : Nat} {S : Ln} (h : NearQ T S) (hT : T ≤ 100000000) : OkS 0 S := by
  have h0 := h.b0
  have h1 := h.b1
  refine ⟨by omega, by omega, h.byid, h.len, by omega, by omega, fun x hx => ?_, h.cur⟩
  have := h.pts x hx
  omega
theorem NearQ.lags {T : Nat} {S : Ln} (h : NearQ T S) : Lags S :=
  ⟨fun x hx => by have := h.pts x hx; omega, h.front.imp id fun ⟨x, hx, hv⟩ => ⟨x, hx, by omega⟩, h.days⟩
theorem NearQ.mono {T T' : Nat} {S : Ln} (h : NearQ T S) (hT : T ≤ T') : NearQ T' S :=
  ⟨h.byid, h.len, h.b0, by have := h.b1; omega, h.pts, h.front, h.days, h.cur⟩
theorem NearQ.new : NearQ 0 ⟨0, -1, []⟩ := ⟨List.Pairwise.nil, by simp, by simp, by simp, (fun x hx => by cases hx), .inl rfl, (fun x hx => by cases hx), .inl rfl⟩
/-- What is left, its base taken to the least. -/
theorem NearQ.of_grow {T : Nat} {base cur : Int} {l : List Pt} (hl : ById l) (hn : l.length ≤ 64) (h0 : 0 ≤ base) (h1 : base ≤ (T : Int) * 1000000000) (hp : ∀ x ∈ l, 0 ≤ x.id ∧ x.id ≤ 1000000000 ∧ 1 ≤ x.w ∧ x.w ≤ 20 ∧ base ≤ x.v ∧ x.v ≤ base + 1000000000) (hd : ∀ x ∈ l, DayOk x) (hc : cur = -1 ∨ ∃ x ∈ l, x.id = cur) :
    NearQ (T + 1) ⟨growB base l, cur, l⟩ := by
  cases hz : least l with
  | none =>
    obtain rfl : l = [] := least_none.1 hz
    have hg : growB base [] = base := by unfold growB; rw [hz]
    rw [hg]
    exact ⟨hl, hn, h0, by simp only; omega, (fun x hx => by cases hx), .inl rfl, hd, hc⟩
  | some z =>
    have hm := least_mem hz
    have hle := least_le hz
    have h3 := hp z hm
    have hg : growB base l = z.v := by unfold growB; rw [hz]; simp only; omega
    rw [hg]
    refine ⟨hl, hn, by simp only; omega, by simp only; omega, fun x hx => ?_, .inr ⟨z, hm, rfl⟩, hd, hc⟩
    have h4 := hp x hx
    have h5 := hle x hx
    simp only; omega
theorem mayE_ok {S : Ln} {id w lag : Int} (hn : ∀ x ∈ S.l, x.id ≠ id) (hl : S.l.length < 64) (hi : 0 ≤ id ∧ id ≤ 1000000000) (hw : 1 ≤ w ∧ w ≤ 20) (hg : -1000000000 ≤ lag ∧ lag ≤ 0) : mayE S.l id w lag = 0 := by
  have h1 : mayB id w lag = true := by unfold mayB; simp only [decide_eq_true_eq]; omega
  have h2 : S.l.any (isId id) = false := by
    rw [List.any_eq_false]; intro x hx
    have := hn x hx
    simpa [isId] using this
  unfold mayE
  rw [if_pos h1, h2, if_neg (by simp), if_neg (by omega)]
theorem NearQ.put {T : Nat} {S : Ln} (h : NearQ T S) {id w lag : Int} (hn : ∀ x ∈ S.l, x.id ≠ id) (hl : S.l.length < 64) (hi : 0 ≤ id ∧ id ≤ 1000000000) (hw : 1 ≤ w ∧ w ≤ 20) (hg : -1000000000 ≤ lag ∧ lag ≤ 0) :
    NearQ (T + 1) (putR S id w lag) ∧ (putR S id w lag).l = insP (newP S.base id w lag) S.l ∧ (putR S id w lag).cur = S.cur ∧ (S.l ≠ [] → (putR S id w lag).base = S.base) ∧ (S.l = [] → (putR S id w lag).base = S.base - lag) := by
  have hm := mayE_ok hn hl hi hw hg
  have e : putR S id w lag = ⟨growB S.base (insP (newP S.base id w lag) S.l), S.cur, insP (newP S.base id w lag) S.l⟩ := by unfold putR; rw [if_pos hm]
  have hp : ∀ x ∈ insP (newP S.base id w lag) S.l, 0 ≤ x.id ∧ x.id ≤ 1000000000 ∧ 1 ≤ x.w ∧ x.w ≤ 20 ∧ S.base ≤ x.v ∧ x.v ≤ S.base + 1000000000 := fun x hx => by
    rcases insP_mem.1 hx with rfl | hx
    · simp only [newP]; omega
    · exact h.pts x hx
  rw [e]
  refine ⟨NearQ.of_grow (insP_sorted h.byid fun y hy => hn y hy) (by rw [insP_len]; omega) h.b0 h.b1 hp (fun x hx => ?_) ?_, rfl, rfl, fun hne => ?_, fun he => ?_⟩
  · rcases insP_mem.1 hx with rfl | hx
    · exact DayOk.newP _ _ _ _
    · exact h.days x hx
  · rcases h.cur with hc | ⟨x, hx, hc⟩
    · exact .inl hc
    · exact .inr ⟨x, insP_mem.2 (.inr hx), hc⟩
  · obtain ⟨z, hz, hv⟩ := h.front.resolve_left hne
    simp only
    cases hq : least (insP (newP S.base id w lag) S.l) with
    | none => have := least_none.1 hq; have := congrArg List.length this; rw [insP_len] at this; simp at this
    | some y =>
      have h1 := least_le hq z (insP_mem.2 (.inr hz))
      have h2 := hp y (least_mem hq)
      unfold growB; rw [hq]; simp only; omega
  · simp only
    rw [he]
    show growB S.base [newP S.base id w lag] = _
    unfold growB
    simp only [least, best, newP]; omega
theorem held_ok {tag lag : Int} (ht : TagOk tag) (hg : -1000000000 ≤ lag ∧ lag ≤ 0) : -1000000000 ≤ heldT tag lag ∧ heldT tag lag ≤ 0 ∧ lag ≤ heldT tag lag := by
  rcases ht with rfl | rfl | rfl
  · show -1000000000 ≤ min lag 0 ∧ min lag 0 ≤ 0 ∧ lag ≤ min lag 0; omega
  · show -1000000000 ≤ min lag 698377680 ∧ min lag 698377680 ≤ 0 ∧ lag ≤ min lag 698377680; omega
  · show -1000000000 ≤ max (-698377680) (min lag 698377680) ∧ max (-698377680) (min lag 698377680) ≤ 0 ∧ lag ≤ max (-698377680) (min lag 698377680); omega
theorem enter_is {S : Ln} {id w lag : Int} (held : Int → Int) (hm : mayE S.l id w lag = 0) : enterR held S id w lag = putR S id w (held lag) := by unfold enterR; rw [if_pos hm]
theorem NearQ.leave {T : Nat} {S : Ln} (h : NearQ T S) (hT : T ≤ 100000000) {id : Int} {j : Nat} {x : Pt} (ha : at? S id = some (j, x)) :
    NearQ (T + 1) (leaveR S id).1 ∧ (leaveR S id).1.l = S.l.eraseIdx j ∧ (leaveR S id).2 = (S.base - x.v, 0) ∧ -1000000000 ≤ S.base - x.v ∧ S.base - x.v ≤ 0 := by
  have hx := (at_mem ha).2.1
  have hsub : (S.l.eraseIdx j).Sublist S.l := List.eraseIdx_sublist _ _
  have e : leaveR S id = (⟨growB S.base (S.l.eraseIdx j), if S.cur = id then -1 else S.cur, S.l.eraseIdx j⟩, S.base - x.v, 0) := by unfold leaveR; rw [ha]
  have hc := ((h.ok hT).leave id).cur
  rw [e] at hc ⊢
  have hp := h.pts x hx
  exact ⟨NearQ.of_grow (h.byid.sub hsub) (Nat.le_trans hsub.length_le h.len) h.b0 h.b1 (fun y hy => h.pts y (hsub.subset hy)) (fun y hy => h.days y (hsub.subset hy)) hc, rfl, rfl, by omega, by omega⟩
theorem NearQ.weigh {T : Nat} {S : Ln} (h : NearQ T S) (hT : T ≤ 100000000) {id w : Int} (hw : 1 ≤ w ∧ w ≤ 20) {j : Nat} {x : Pt} (ha : at? S id = some (j, x)) :
    NearQ (T + 1) (weighR S id w).1 ∧ (weighR S id w).1.l = S.l.set j (dayOf { x with w := w }) ∧ (weighR S id w).2 = 0 ∧ (weighR S id w).1.base = S.base ∧ (weighR S id w).1.cur = S.cur := by
  obtain ⟨hj, hx, _⟩ := at_mem ha
  have hg : goodW w = true := decide_eq_true hw
  have e : weighR S id w = (⟨growB S.base (S.l.set j (dayOf { x with w := w })), S.cur, S.l.set j (dayOf { x with w := w })⟩, 0) := by unfold weighR; rw [ha]; simp only; rw [if_pos hg]
  have ho := (h.ok hT).weigh id w
  rw [e] at ho ⊢
  have hp : ∀ y ∈ S.l.set j (dayOf { x with w := w }), 0 ≤ y.id ∧ y.id ≤ 1000000000 ∧ 1 ≤ y.w ∧ y.w ≤ 20 ∧ S.base ≤ y.v ∧ y.v ≤ S.base + 1000000000 := fun y hy => by
    rcases mem_set hj hy with rfl | hy
    · have := h.pts x hx; simp only [dayOf]; omega
    · exact h.pts y hy
  have hN := NearQ.of_grow (T := T) (cur := S.cur) ho.byid ho.len h.b0 h.b1 hp (fun y hy => by
    rcases mem_set hj hy with rfl | hy
    · exact DayOk.dayOf _
    · exact h.days y hy) ho.cur
  refine ⟨hN, rfl, rfl, ?_, rfl⟩
  simp only
  obtain ⟨z, hz, hv⟩ := h.front.resolve_left (List.ne_nil_of_mem hx)
  cases hq : least (S.l.set j (dayOf { x with w := w })) with
  | none =>
    have h1 := congrArg List.length (least_none.1 hq)
    have h2 : 0 < S.l.length := List.length_pos_of_mem hx
    rw [List.length_set] at h1
    simp at h1
    rw [h1] at h2; simp at h2
  | some y =>
    have h2 := hp y (least_mem hq)
    have h3 : y.v ≤ S.base := by
      by_cases hzx : z = x
      · subst hzx
        have := least_le hq _ (List.mem_set (List.getElem?_eq_some_iff.1 hj).1 (dayOf { z with w := w }))
        simp only [dayOf] at this; omega
      · obtain ⟨i, hi, rfl⟩ := List.getElem_of_mem hz
        have hij : j ≠ i := fun e => by subst e; exact hzx (by rw [List.getElem?_eq_getElem hi] at hj; exact Option.some.inj hj)
        have hmem : S.l[i] ∈ S.l.set j (dayOf { x with w := w }) := List.mem_iff_getElem.2 ⟨i, by rw [List.length_set]; exact hi, by rw [List.getElem_set, if_neg hij]⟩
        have := least_le hq _ hmem; omega
    unfold growB; rw [hq]; simp only; omega
/-- Who is picked is charged. -/
theorem NearQ.run {T : Nat} {tag : Int} (ht : TagOk tag) {S : Ln} (h : NearQ T S) (hT : T ≤ 100000000) (hl : 0 < S.l.length) :
    ∃ (j : Nat) (x : Pt) (S2 : Ln), S.l[j]? = some x ∧ chargeR (pickT tag S).1 = (S2, x.id, 0) ∧ (pickT tag S).2 = (x.id, true) ∧ S2.l = S.l.set j (chargeP x) ∧ NearQ (T + 1) S2 := by
  have hok := h.ok hT
  obtain ⟨j, x, hp, hat⟩ := pickat_T ht hok hl
  obtain ⟨c, hc⟩ := pickis_T ht S
  have hk1 := pickok_T ht hok
  have hroom := room_T ht hok h.lags j x hat
  rw [hc] at hk1 hroom hat ⊢
  simp only at hat hroom
  obtain ⟨hx, hxm, hid⟩ := at_mem hat
  simp only at hx hxm
  have hst := step_le x.w
  have hb1 := h.b1
  have hpx := h.pts x hxm
  obtain ⟨c1, c2, c3⟩ := chargeP_is x
  have hch : chargeR ⟨S.base, c, S.l⟩ = (⟨growB S.base (S.l.set j (chargeP x)), c, S.l.set j (chargeP x)⟩, x.id, 0) := by
    unfold chargeR; simp only; rw [hat]; simp only; rw [if_neg (by omega)]
  have ho : OkS 0 ⟨growB S.base (S.l.set j (chargeP x)), c, S.l.set j (chargeP x)⟩ := by have := hk1.charge; rw [hch] at this; exact this
  have hpts : ∀ y ∈ S.l.set j (chargeP x), 0 ≤ y.id ∧ y.id ≤ 1000000000 ∧ 1 ≤ y.w ∧ y.w ≤ 20 ∧ S.base ≤ y.v ∧ y.v ≤ S.base + 1000000000 := by
    intro y hy
    rcases mem_set hx hy with rfl | hy
    · rw [c1, c2, c3]; omega
    · exact h.pts y hy
  exact ⟨j, x, _, hx, hch, hp, rfl, NearQ.of_grow ho.byid ho.len h.b0 h.b1 hpts (fun y hy => by
    rcases mem_set hx hy with rfl | hy
    · exact (h.days x hxm).charge
    · exact h.days y hy) ho.cur⟩
/-- Nobody is there. -/
theorem NearQ.idle {T : Nat} {tag : Int} (ht : TagOk tag) {S : Ln} (h : NearQ T S) (hl : S.l = []) : chargeR (pickT tag S).1 = (⟨S.base, -1, []⟩, 0, 14) ∧ (pickT tag S).2 = (0, false) := by
  have hc : S.cur = -1 := by
    rcases h.cur with hc | ⟨x, hx, _⟩
    · exact hc
    · rw [hl] at hx; cases hx
  obtain ⟨base, cur, l⟩ := S
  simp only at hl hc
  subst hl hc
  rcases ht with rfl | rfl | rfl <;> exact ⟨rfl, rfl⟩
end Go.Proofs.YtlgkkolgdjgclaaGreat
/- The plain model of a system: cores, groups with accounts, tasks by their places. -/
namespace Go.Proofs.YtlgkkolgdjgclaaGreat
open Go.RowKit
set_option linter.unusedVariables false
set_option linter.unusedSimpArgs false

instance : Inhabited CoreS := ⟨⟨0, ⟨0, -1, []⟩, fun _ => 0, 0, 0, 0⟩⟩
/-- A task. -/
structure Tk where
  id : Int
  w : Int
  grp : Int
  core : Int
  st : Int
  mask : Int
  lag : Int
deriving DecidableEq, Inhabited
def Tk.enc (t : Tk) : List Value := [.int .i64 t.id, .int .i64 t.w, .int .i64 t.grp, .int .i64 t.core, .int .i64 t.st, .int .u16 t.mask, .int .i64 t.lag]
theorem Tk.len (t : Tk) : t.enc.length = 7 := rfl
/-- A place: how often it was taken; who is there. -/
structure Slo where
  turn : Int
  task : Option Tk
structure SysS where
  cores : List CoreS
  grps : List (Int × Acn)
  slots : List Slo
namespace SysS
def ups (s : SysS) : List Int := s.grps.map (·.1)
def acc (s : SysS) (g : Nat) : Acn := match s.grps[g]? with | some p => p.2 | none => Acn.zero
def plcs (s : SysS) : List Plc := s.slots.map fun x => ⟨x.turn, x.task.isSome⟩
def find (s : SysS) (id : Int) : Option Tk := if id < 0 then none else match s.slots[(id % 64).toNat]? with
  | some ⟨_, some t⟩ => if t.id = id then some t else none
  | _ => none
def setT (s : SysS) (t : Tk) : SysS := { s with slots := s.slots.modify (t.id % 64).toNat fun x => { x with task := some t } }
def delT (s : SysS) (id : Int) : SysS := { s with slots := s.slots.modify (id % 64).toNat fun x => { x with task := none } }
def setC (s : SysS) (i : Nat) (c : CoreS) : SysS := { s with cores := s.cores.set i c }
def setA (s : SysS) (g : Nat) (a : Acn) : SysS := { s with grps := s.grps.modify g fun p => (p.1, a) }
def core (s : SysS) (c : Int) : CoreS := s.cores.getD c.toNat default
def loads (s : SysS) : List Int := s.cores.map fun c => totW c.q.l
def least (s : SysS) (m : Int) : Int := ((leastC s.loads m).1 : Nat)
def spentG (s : SysS) (g : Int) : Bool := (pathG s.ups g).any fun i => (s.acc i).spent
/-- All that are there, by their places. -/
def all (s : SysS) : List Tk := s.slots.filterMap Slo.task
/-- .. by their names. -/
def ids (s : SysS) : List Int := (s.all.map Tk.id).mergeSort (fun a b => decide (a ≤ b))
def enterT (s : SysS) (t : Tk) (exact : Bool) : SysS :=
  if s.spentG t.grp = true then s.setT { t with st := 5 }
  else (s.setC t.core.toNat ((s.core t.core).enter t.id t.w t.lag exact)).setT { t with st := 2 }
def start (s : SysS) (id : Int) : SysS × Int := match s.find id with
  | none => (s, 2)
  | some t => if t.st = 1 then (s.enterT { t with core := s.least t.mask } false, 0) else (s, 4)
def wakeC (s : SysS) (t : Tk) : Int := if hasM t.mask t.core = true then t.core else s.least t.mask
def wake (s : SysS) (id : Int) : SysS × Int := match s.find id with
  | none => (s, 2)
  | some t => if t.st = 4 then (s.enterT { t with core := s.wakeC t } false, 0) else (s, 4)
/-- A ready task leaves its core: the system, and the task as it is then. -/
def leaveT (s : SysS) (t : Tk) : SysS × Tk :=
  if t.st = 2 then ((s.setC t.core.toNat ((s.core t.core).leave t.id)).setT { t with lag := (leaveR (s.core t.core).q t.id).2.1 }, { t with lag := (leaveR (s.core t.core).q t.id).2.1 }) else (s, t)
def sleep (s : SysS) (id : Int) : SysS × Int := match s.find id with
  | none => (s, 2)
  | some t => if t.st = 2 ∨ t.st = 5 then ((s.leaveT t).1.setT { (s.leaveT t).2 with st := 4 }, 0) else (s, 4)
def endT (s : SysS) (id : Int) : SysS × Int := match s.find id with
  | none => (s, 2)
  | some t => ((s.leaveT t).1.delT id, 0)
def weigh (s : SysS) (id w : Int) : SysS × Int := match s.find id with
  | none => (s, 2)
  | some t => if 1 ≤ w ∧ w ≤ 20 then ((if t.st = 2 then s.setC t.core.toNat ((s.core t.core).weigh id w) else s).setT { t with w := w }, 0) else (s, 1)
def onT (t : Tk) : Prop := t.st = 2 ∨ t.st = 5
instance (t : Tk) : Decidable (onT t) := by unfold onT; infer_instance
def putT (s : SysS) (t : Tk) (d : Int) : SysS :=
  if t.core = d then s
  else if t.st = 5 then s.setT { t with core := d }
  else ((s.leaveT t).1.setC d.toNat (((s.leaveT t).1.core d).enter t.id t.w (s.leaveT t).2.lag true)).setT { (s.leaveT t).2 with core := d }
def move (s : SysS) (id d : Int) : SysS × Int := match s.find id with
  | none => (s, 2)
  | some t => if onT t then (if hasM t.mask d = true then (s.putT t d, 0) else (s, 5)) else (s, 4)
def bind (s : SysS) (id m : Int) : SysS × Int := match s.find id with
  | none => (s, 2)
  | some t => if goodM m s.cores.length = true then
      (if onT t ∧ hasM m t.core = false then (s.setT { t with mask := m }).putT { t with mask := m } (s.least m) else s.setT { t with mask := m }, 0)
    else (s, 5)
def useG (s : SysS) : List Nat → SysS
  | [] => s
  | g :: l => useG (if (s.acc g).use.2 = 0 then s.setA g (s.acc g).use.1 else s) l
def hold1 (s : SysS) (id : Int) : SysS := match s.find id with
  | none => s
  | some t => if t.st = 2 ∧ s.spentG t.grp = true then (s.leaveT t).1.setT { (s.leaveT t).2 with st := 5 } else s
def holdL (s : SysS) : List Int → SysS
  | [] => s
  | id :: l => holdL (s.hold1 id) l
def run (s : SysS) (c : Int) : SysS × Int × Int :=
  if 0 ≤ c ∧ c < s.cores.length then
    let r := (s.core c).run
    let s1 := s.setC c.toNat r.1
    match s.find r.2.1 with
    | none => (s1, r.2.1, r.2.2)
    | some t => let s2 := s1.useG (pathG s.ups t.grp); (s2.holdL s2.ids, r.2.1, 0)
  else (s, 0, 2)
def tickG (s : SysS) (n : Int) : SysS := { s with grps := s.grps.map fun p => (p.1, (p.2.tick n).1) }
def tick1 (s : SysS) (id : Int) : SysS := match s.find id with
  | none => s
  | some t => if t.st = 5 ∧ s.spentG t.grp = false then s.enterT t true else s
def tickL (s : SysS) : List Int → SysS
  | [] => s
  | id :: l => tickL (s.tick1 id) l
def tick (s : SysS) (n : Int) : SysS × Int := if n < 0 then (s, 1) else ((s.tickG n).tickL (s.tickG n).ids, 0)
/-- A task as it is told. -/
def view (s : SysS) (t : Tk) : Tk := if t.st = 2 then { t with lag := match at? (s.core t.core).q t.id with | some (_, x) => (s.core t.core).q.base - x.v | none => 0 } else t
def tasks (s : SysS) : List Tk := s.all.map s.view
def group (s : SysS) (up q p : Int) : SysS × Int × Int :=
  if (⟨q, p, q, 0⟩ : Acn).good = true then
    (if hasG s.ups up = true then (if 4 ≤ (pathG s.ups up).length then (s, 0, 6) else if s.grps.length < 16 then ({ s with grps := s.grps ++ [(up, ⟨q, p, q, 0⟩)] }, s.grps.length, 0) else (s, 0, 3)) else (s, 0, 2))
  else (s, 0, 1)
def spawn (s : SysS) (w m g : Int) : SysS × Int × Int :=
  if 1 ≤ w ∧ w ≤ 20 then
    (if goodM m s.cores.length = true then
      (if hasG s.ups g = true then
        (match s.slots.findIdx? (fun x => x.task.isNone) with
        | none => (s, 0, 3)
        | some i => ({ s with slots := s.slots.modify i fun x => ⟨x.turn + 1, some ⟨i + 64 * x.turn, w, g, -1, 1, m, 0⟩⟩ }, i + 64 * (s.slots.getD i ⟨0, none⟩).turn, 0))
      else (s, 0, 2))
    else (s, 0, 5))
  else (s, 0, 1)
def served (s : SysS) (id : Int) : Int := (s.cores.map fun c => c.sv id).foldl (· + ·) 0
def new (tags : List Int) : SysS := ⟨tags.map fun t => ⟨t, ⟨0, -1, []⟩, fun _ => 0, 0, 0, 0⟩, [(-1, Acn.zero)], List.replicate 64 ⟨0, none⟩⟩
end SysS
end Go.Proofs.YtlgkkolgdjgclaaGreat
/- A map of numbers by pointers; a system in memory. -/
namespace Go.Proofs.YtlgkkolgdjgclaaGreat
open Go.RowKit Go.Shelf Go.Maps
set_option linter.unusedVariables false
set_option linter.unusedSimpArgs false

/-- A pointer, by its block; none by -1. -/
def ptrV (x : Int) : Value := if x < 0 then .pointer none else .pointer (some ⟨x.toNat, 0, none⟩)
def ptrElem : Value → Option (DataW Unit × List MemPlace)
  | .pointer none => some (.lit (.int .i64 (-1)), [])
  | .pointer (some ⟨b, 0, none⟩) => some (.lit (.int .i64 b), [])
  | _ => none
theorem ptrElem_mk (x : Int) (hx : -1 ≤ x) : ptrElem (ptrV x) = some (.lit (.int .i64 x), []) := by
  unfold ptrV
  split
  · obtain rfl : x = -1 := by omega
    rfl
  · simp only [ptrElem]
    have : ((x.toNat : Nat) : Int) = x := by omega
    rw [this]
theorem ptrElem_inv {v : Value} {x : Int} {ps : List MemPlace} (h : ptrElem v = some (.lit (.int .i64 x), ps)) : v = ptrV x := by
  unfold ptrElem at h
  split at h
  · simp at h; obtain ⟨rfl, _⟩ := h; rfl
  · simp at h; obtain ⟨rfl, _⟩ := h
    unfold ptrV
    rw [if_neg (by omega), Int.toNat_natCast]
  · cases h
/-- Block r is a map of at most n entries; f: the block that it has at each number. -/
def MapP (w : World) (r n : Nat) (f : Int → Int) : Prop :=
  ∃ D : DataW Unit, w.ownsMap Tryz.prog 3 ptrElem r n D ∧ IsMap D ∧ ∀ id : Int, D.atKey (.int .i64 id) (.lit (.int .i64 (-1))) = .lit (.int .i64 (f id))
theorem MapP.made (w : World) : MapP (w.alloc (.map #[] 0)) w.heap.size 0 (fun _ => -1) := ⟨.map [], World.ownsMap_made _ _ _ _, isMap_empty, fun id => rfl⟩
theorem MapP.lt {w : World} {r n : Nat} {f : Int → Int} (h : MapP w r n f) : r < w.heap.size := by
  obtain ⟨D, h, _⟩ := h
  exact h.lt
theorem MapP.fr {w w' : World} {r n : Nat} {f : Int → Int} {F : Nat → Prop} (h : MapP w r n f) (hf : Fr F w w') (hn : ¬ F r) : MapP w' r n f := by
  obtain ⟨D, ⟨es, cl, hb, h2⟩, h3⟩ := h
  exact ⟨D, ⟨es, cl, heap_fr hb hf hn, h2⟩, h3⟩
theorem MapP.below {w w' : World} {r n : Nat} {f : Int → Int} (h : MapP w r n f) (hb : Below w.heap.size w w') : MapP w' r n f := h.fr (F := fun _ => False) (Fr.of_below hb) (fun h => h)
theorem zero_ptr (w : World) : (zeroValue 105).run Tryz.prog w = .ok (.pointer none) w := by kernel_rfl
theorem keyed_intP : Keyed Tryz.prog 3 := int_keyed Tryz.underlying3
/-- A look-up. -/
theorem MapP.look {w : World} {r n : Nat} {f : Int → Int} (h : MapP w r n f) {id : Int} (hw : -9223372036854775808 ≤ id ∧ id ≤ 9223372036854775807) :
    (Instr.lookup 90 (.map (some r)) (.int .i64 id) false).run Tryz.prog w = .ok (ptrV (f id)) w := by
  obtain ⟨D, h1, h2, h3⟩ := h
  obtain ⟨v, ps, hr, hv⟩ := h1.lookup keyed_intP Tryz.underlying90 (zero_ptr w) (zd := .lit (.int .i64 (-1))) (zp := []) rfl (key := .int .i64 id) (kl := .int .i64 id) (keyOf_int_mk Tryz.underlying3 (wf_of hw))
  rw [h3 id] at hv
  rw [hr, ptrElem_inv hv]
def updP (f : Int → Int) (id u : Int) : Int → Int := fun j => if j = id then u else f j
theorem wpList_putP (w : World) {ops : Array Oper} {rest : List Oper} {o : Oper} {a : Act} {Q : Exit → Act → World → Prop} (hg : o.guard = none) (m x v : Operand) (hop : o.op = Op.mapUpdate 90 m x v)
    (r n : Nat) (f : Int → Int) (hm : a.eval m = .map (some r)) (h : MapP w r n f) (hn : n < maxLen) (id u : Int) (hx : a.eval x = .int .i64 id) (hv : a.eval v = ptrV u) (hu : -1 ≤ u) (hw : -9223372036854775808 ≤ id ∧ id ≤ 9223372036854775807)
    (hK : ∀ w', MapP w' r (n + 1) (updP f id u) → Fr (fun k => k = r) w w' → wpList Tryz.prog ops Q rest (a.put o.dst undef) w') : wpList Tryz.prog ops Q (o :: rest) a w := by
  obtain ⟨D, h1, h2, h3⟩ := h
  refine wpList_mapUpdate_own w hg m x v 90 hop 3 105 keyed_intP Tryz.underlying90 _ r n D hm h1 hn (.int .i64 id) (ptrV u) (.int .i64 id) hx hv (keyOf_int_mk Tryz.underlying3 (wf_of hw)) _ [] (ptrElem_mk u hu) ?_
  intro w' h1' hgr
  refine hK w' ⟨_, h1', h2.put _ _, fun j => ?_⟩ ((Fr.of_grown hgr).mono fun k _ e => by simpa using e.symm)
  unfold updP
  by_cases e : j = id
  · subst e
    rw [if_pos rfl, atKey_put_same (k := .int .i64 j) h2 (by trivial)]
  · rw [if_neg e, atKey_put_other (by simpa using e)]
    exact h3 j
theorem wpList_delP (w : World) {ops : Array Oper} {rest : List Oper} {o : Oper} {a : Act} {Q : Exit → Act → World → Prop} (hg : o.guard = none) (m x : Operand) (hop : o.op = Op.call { callee := Callee.builtin Builtin.delete, args := #[m, x], argTypes := #[ 90, 3 ] })
    (r n : Nat) (f : Int → Int) (hm : a.eval m = .map (some r)) (h : MapP w r n f) (id : Int) (hx : a.eval x = .int .i64 id) (hw : -9223372036854775808 ≤ id ∧ id ≤ 9223372036854775807)
    (hK : ∀ w', MapP w' r n (updP f id (-1)) → Fr (fun k => k = r) w w' → wpList Tryz.prog ops Q rest (a.put o.dst (.tuple #[])) w') : wpList Tryz.prog ops Q (o :: rest) a w := by
  obtain ⟨D, h1, h2, h3⟩ := h
  refine wpList_delete_own w hg m x 90 3 hop 105 keyed_intP Tryz.underlying90 _ r n D hm h1 (.int .i64 id) (.int .i64 id) hx (keyOf_int_mk Tryz.underlying3 (wf_of hw)) ?_
  intro w' h1' hgr
  refine hK w' ⟨_, h1', IsMap.del h2 _, fun j => ?_⟩ ((Fr.of_grown hgr.grown).mono fun k _ e => by simpa using e.symm)
  unfold updP
  by_cases e : j = id
  · subst e
    rw [if_pos rfl, atKey_del_same]
  · rw [if_neg e, atKey_del_other (by simpa using e)]
    exact h3 j
/-! ### the system -/
def Acn.enc (a : Acn) : List Value := [.int .i64 a.q, .int .i64 a.p, .int .i64 a.l, .int .i64 a.f]
theorem Acn.len (a : Acn) : a.enc.length = 4 := rfl
def ptr1 (c : Nat) : List Value := [.pointer (some ⟨c, 0, none⟩)]
theorem ptr1_len (c : Nat) : (ptr1 c).length = 1 := rfl
/-- Where it lies. -/
structure Lay where
  b : Nat
  ar : Option Addr
  cap : Nat
  g : Nat
  sl : Nat
  pl : Nat
  mp : Nat
  mn : Nat
  tb : Int → Nat
  cb : List Nat
/-- Whose a block is. -/
inductive Own
  | top
  | arr
  | grp
  | slt
  | plc
  | map
  | tsk (id : Int)
  | cor (i : Nat)
def accL (s : SysS) : List Acn := (List.range 16).map s.acc
def topCells (L : Lay) (s : SysS) : List Value := [.slice L.ar s.cores.length L.cap, .pointer (some ⟨L.g, 0, none⟩)] ++ (flat Acn.enc (accL s) ++ [.pointer (some ⟨L.sl, 0, none⟩), .map (some L.mp)])
def fmap (L : Lay) (s : SysS) (id : Int) : Int := match s.find id with | some _ => L.tb id | none => -1
structure SysIn (w0 w : World) (ow : Nat → Option Own) (L : Lay) (s : SysS) : Prop where
  top : w.heap[L.b]? = some (.cells (topCells L s).toArray 92 (0, 0))
  arr : Sl ptr1 1 w L.ar L.cb
  grp : GrpM w L.g s.ups
  slt : SltM w L.sl L.pl s.plcs
  map : MapP w L.mp L.mn (fmap L s)
  tsk : ∀ id t, s.find id = some t → w.heap[L.tb id]? = some (.cells t.enc.toArray 110 (0, 0)) ∧ ow (L.tb id) = some (.tsk id)
  cor : ∀ (i : Nat) (c : CoreS), s.cores[i]? = some c → ∃ bl F p q r, L.cb[i]? = some bl ∧ CSt w0 w F bl p q r c ∧ ∀ k, cfoot F bl p r k → ow k = some (.cor i)
  cbl : L.cb.length = s.cores.length
  oT : ow L.b = some .top
  oA : ∀ p, L.ar = some p → ow p.block = some .arr
  oG : ow L.g = some .grp
  oS : ow L.sl = some .slt
  oP : ow L.pl = some .plc
  oM : ow L.mp = some .map
  lt : ∀ k x, ow k = some x → w0.heap.size ≤ k ∧ k < w.heap.size
  old : Below w0.heap.size w0 w
section
variable {w0 w w' : World} {ow : Nat → Option Own} {L : Lay} {s : SysS}
/-- What was written lies beside it. -/
theorem SysIn.fr {G : Nat → Prop} (h : SysIn w0 w ow L s) (hf : Fr G w w') (hG : ∀ k, G k → ow k = none ∧ w0.heap.size ≤ k) : SysIn w0 w' ow L s := by
  have n : ∀ {k x}, ow k = some x → ¬ G k := fun hk hg => by rw [(hG _ hg).1] at hk; cases hk
  refine ⟨heap_fr h.top hf (n h.oT), h.arr.fr hf fun p hp => n (h.oA p hp), h.grp.fr hf (n h.oG), h.slt.fr hf (n h.oS) (n h.oP), h.map.fr hf (n h.oM), fun id t ht => ?_, fun i c hc => ?_, h.cbl, h.oT, h.oA, h.oG, h.oS, h.oP, h.oM, fun k x hk => ?_, h.old.trans (hf.below h.old.size fun k hk => (hG k hk).2)⟩
  · obtain ⟨h1, h2⟩ := h.tsk id t ht
    exact ⟨heap_fr h1 hf (n h2), h2⟩
  · obtain ⟨bl, F, p, q, r, h1, h2, h3⟩ := h.cor i c hc
    exact ⟨bl, F, p, q, r, h1, h2.fr hf (fun k hk => n (h3 k hk)) (fun k hk => (hG k hk).2), h3⟩
  · have := h.lt k x hk
    have := hf.size
    omega
theorem accL_at (s : SysS) {g : Nat} (hg : g < 16) : (accL s)[g]? = some (s.acc g) := by simp [accL, hg]
theorem flat_accL (s : SysS) : (flat Acn.enc (accL s)).length = 64 := by rw [flat_length (k := 4) Acn.len]; simp [accL]
theorem top_at (L : Lay) (s : SysS) : (topCells L s)[0]? = some (.slice L.ar s.cores.length L.cap) ∧ (topCells L s)[1]? = some (.pointer (some ⟨L.g, 0, none⟩)) ∧ (topCells L s)[66]? = some (.pointer (some ⟨L.sl, 0, none⟩)) ∧ (topCells L s)[67]? = some (.map (some L.mp)) := by
  refine ⟨rfl, rfl, ?_, ?_⟩
  · unfold topCells
    rw [List.getElem?_append_right (by simp), List.getElem?_append_right (by rw [flat_accL]; simp), flat_accL]; rfl
  · unfold topCells
    rw [List.getElem?_append_right (by simp), List.getElem?_append_right (by rw [flat_accL]; simp), flat_accL]; rfl
theorem acc_at (L : Lay) (s : SysS) {g : Nat} (hg : g < 16) {j : Nat} {u : Value} (hj : (s.acc g).enc[j]? = some u) : (topCells L s)[2 + g * 4 + j]? = some u := by
  have h1 := flat_get Acn.len (accL s) g _ (accL_at s hg) j u hj
  have h2 := (List.getElem?_eq_some_iff.1 h1).1
  unfold topCells
  rw [List.getElem?_append_right (by simp; omega)]
  simp only [List.length_cons, List.length_nil]
  rw [show 2 + g * 4 + j - (0 + 1 + 1) = g * 4 + j from by omega, List.getElem?_append_left h2]
  exact h1
theorem SysIn.tops (h : SysIn w0 w ow L s) : (w.cell? ⟨L.b, 0, none⟩ = some (.slice L.ar s.cores.length L.cap) ∧ w.cell? ⟨L.b, 1, none⟩ = some (.pointer (some ⟨L.g, 0, none⟩)) ∧ w.cell? ⟨L.b, 66, none⟩ = some (.pointer (some ⟨L.sl, 0, none⟩)) ∧ w.cell? ⟨L.b, 67, none⟩ = some (.map (some L.mp))) ∧
    (w.frozen? ⟨L.b, 0, none⟩ = false ∧ w.frozen? ⟨L.b, 1, none⟩ = false ∧ w.frozen? ⟨L.b, 66, none⟩ = false ∧ w.frozen? ⟨L.b, 67, none⟩ = false) ∧ L.b < w.heap.size := by
  obtain ⟨a0, a1, a2, a3⟩ := top_at L s
  obtain ⟨b0, c0⟩ := cells_get h.top (i := 0) (by simpa using a0)
  obtain ⟨b1, c1⟩ := cells_get h.top (i := 1) (by simpa using a1)
  obtain ⟨b2, c2⟩ := cells_get h.top (i := 66) (by simpa using a2)
  obtain ⟨b3, c3⟩ := cells_get h.top (i := 67) (by simpa using a3)
  exact ⟨⟨b0, b1, b2, b3⟩, ⟨c0, c1, c2, c3⟩, (h.lt _ _ h.oT).2⟩
theorem SysIn.accs (h : SysIn w0 w ow L s) {g : Nat} (hg : g < 16) : (w.cell? ⟨L.b, 2 + g * 4, none⟩ = some (.int .i64 (s.acc g).q) ∧ w.cell? ⟨L.b, 2 + g * 4 + 1, none⟩ = some (.int .i64 (s.acc g).p) ∧ w.cell? ⟨L.b, 2 + g * 4 + 2, none⟩ = some (.int .i64 (s.acc g).l) ∧ w.cell? ⟨L.b, 2 + g * 4 + 3, none⟩ = some (.int .i64 (s.acc g).f)) ∧
    (w.frozen? ⟨L.b, 2 + g * 4, none⟩ = false ∧ w.frozen? ⟨L.b, 2 + g * 4 + 1, none⟩ = false ∧ w.frozen? ⟨L.b, 2 + g * 4 + 2, none⟩ = false ∧ w.frozen? ⟨L.b, 2 + g * 4 + 3, none⟩ = false) := by
  obtain ⟨b0, c0⟩ := cells_get h.top (i := 2 + g * 4 + 0) (by simpa using acc_at L s hg (j := 0) rfl)
  obtain ⟨b1, c1⟩ := cells_get h.top (i := 2 + g * 4 + 1) (by simpa using acc_at L s hg (j := 1) rfl)
  obtain ⟨b2, c2⟩ := cells_get h.top (i := 2 + g * 4 + 2) (by simpa using acc_at L s hg (j := 2) rfl)
  obtain ⟨b3, c3⟩ := cells_get h.top (i := 2 + g * 4 + 3) (by simpa using acc_at L s hg (j := 3) rfl)
  exact ⟨⟨b0, b1, b2, b3⟩, c0, c1, c2, c3⟩
theorem SysIn.below (h : SysIn w0 w ow L s) (hb : Below w.heap.size w w') : SysIn w0 w' ow L s := h.fr (G := fun _ => False) (Fr.of_below hb) (fun _ h => h.elim)
end
end Go.Proofs.YtlgkkolgdjgclaaGreat
/- A system's small methods: spent, find, become, on, Core, Cores. -/
namespace Go.Proofs.YtlgkkolgdjgclaaGreat
open Go.RowKit Go.Shelf
attribute [local go_sem] Oper.semAt_some wide_fn wide_depth
set_option linter.unusedVariables false
set_option linter.unusedSimpArgs false

theorem res_b {P : Program} {fn : Func} {p : Tmp} {ty : TypeId} (tmps : Array Value) (w : World) (g : Nat) (v : Value) (cs : Array Value) (T : TypeId) (h : fn.results = #[.cell p ty]) (hp : tmps.getD p undef = .pointer (some ⟨g, 0, none⟩)) (hc : w.heap[g]? = some (.cells cs T (0, 0))) (hv : cs[0]? = some v)
    (ha : ∀ w, (isAgg ty).run P w = .ok false w) : (results fn tmps).run P w = .ok v w := by
  have hp' : tmps[p]?.getD undef = .pointer (some ⟨g, 0, none⟩) := by simpa using hp
  have hcell := (cells_get hc hv).1
  simp [results, h, hp', asAddr, loadVar, Sem.run_bind, ha, hcell]
theorem agg_bool (w : World) : (isAgg 4).run Tryz.prog w = .ok false w := by kernel_rfl
section
variable {w0 w : World} {ow : Nat → Option Own} {L : Lay} {s : SysS}
/-- A task's block reads as it. -/
def TkAt (w : World) (k : Nat) (t : Tk) : Prop := w.heap[k]? = some (.cells t.enc.toArray 110 (0, 0))
theorem TkAt.cells {k : Nat} {t : Tk} (h : TkAt w k t) : (w.cell? ⟨k, 0, none⟩ = some (.int .i64 t.id) ∧ w.cell? ⟨k, 1, none⟩ = some (.int .i64 t.w) ∧ w.cell? ⟨k, 2, none⟩ = some (.int .i64 t.grp) ∧ w.cell? ⟨k, 3, none⟩ = some (.int .i64 t.core) ∧ w.cell? ⟨k, 4, none⟩ = some (.int .i64 t.st) ∧ w.cell? ⟨k, 5, none⟩ = some (.int .u16 t.mask) ∧ w.cell? ⟨k, 6, none⟩ = some (.int .i64 t.lag)) ∧
    (w.frozen? ⟨k, 0, none⟩ = false ∧ w.frozen? ⟨k, 1, none⟩ = false ∧ w.frozen? ⟨k, 2, none⟩ = false ∧ w.frozen? ⟨k, 3, none⟩ = false ∧ w.frozen? ⟨k, 4, none⟩ = false ∧ w.frozen? ⟨k, 5, none⟩ = false ∧ w.frozen? ⟨k, 6, none⟩ = false) ∧ k < w.heap.size := by
  have hk := (Array.getElem?_eq_some_iff.1 h).1
  obtain ⟨a0, b0⟩ := cells_get h (i := 0) rfl
  obtain ⟨a1, b1⟩ := cells_get h (i := 1) rfl
  obtain ⟨a2, b2⟩ := cells_get h (i := 2) rfl
  obtain ⟨a3, b3⟩ := cells_get h (i := 3) rfl
  obtain ⟨a4, b4⟩ := cells_get h (i := 4) rfl
  obtain ⟨a5, b5⟩ := cells_get h (i := 5) rfl
  obtain ⟨a6, b6⟩ := cells_get h (i := 6) rfl
  exact ⟨⟨a0, a1, a2, a3, a4, a5, a6⟩, ⟨b0, b1, b2, b3, b4, b5, b6⟩, hk⟩
set_option maxHeartbeats 3200000 in
set_option maxRecDepth 100000 in
theorem YSpent (h : SysIn w0 w ow L s) (hg : ∀ i, i < 16 → (s.acc i).good = true) {k : Nat} {t : Tk} (ht : TkAt w k t) : Calls Tryz.prog 78 #[.pointer (some ⟨L.b, 0, none⟩), .pointer (some ⟨k, 0, none⟩)] w fun e w' => e = .returned (.bool (s.spentG t.grp)) ∧ Below w.heap.size w w' := by
  obtain ⟨⟨q0, q1, q2, q3⟩, ⟨z0, z1, z2, z3⟩, hlt⟩ := h.tops
  obtain ⟨⟨c0, c1, c2, c3, c4, c5, c6⟩, -, hk⟩ := ht.cells
  have H := Lib.hid h
  clear h c0 c1 c3 c4 c5 c6
  refine (callsIn_wide (n := 0)).1 (callsIn_of_wp_marks Tryz.func78 rfl trivial ?_ rfl)
  simp only [ Tryz.ntmps78, List.size_toArray, List.length_cons, List.length_nil, Nat.reduceAdd, Nat.reduceSub, Array.replicate_succ, Array.replicate_zero, List.push_toArray, List.append_toArray, List.nil_append, List.cons_append]
  refine wpIn_wide.2 ?_
  go_wp2_with (go_at_call 46; refine (GPath _ _ _).mono ?_; rintro e w1 ⟨rfl, rfl⟩)
  refine wp_region_chain 23 [0, 1, 3, 7, 0, 16, 48, 112, 255] [(0, none), (1, none), (2, none), (3, none), (4, none), (5, none), (6, none), (7, none), (8, some [])] (by kernel_rfl) (by kernel_rfl) (by rfl) ?_; simp only [chain, Obs, List.getElem?_toArray, List.getElem?_cons_zero, List.getElem?_cons_succ]
  go_wp2_with (first
    | (with_reducible refine And.intro (by first | with_reducible exact True.intro | with_reducible rfl | go_simp) ?_)
    | (go_at_call 46; refine (GPath _ _ _).mono ?_; rintro e w1 ⟨rfl, rfl⟩))
  refine NoPanic.normal ?_
  go_wp2
  obtain ⟨w4, hw4⟩ : ∃ w4, ((((w.alloc (.cells #[.pointer (some ⟨L.b, 0, none⟩)] 24)).alloc (.cells #[.bool false] 4)).alloc (.cells #[.pointer (some ⟨L.g, 0, none⟩)] 85)).alloc (.cells #[.int .i64 t.grp] 3)).drew = w4 := ⟨_, rfl⟩
  rw [hw4]
  obtain ⟨x0, x1, x2, hs3, hb3⟩ := heap_a3 (w := w) (o1 := .cells #[.pointer (some ⟨L.b, 0, none⟩)] 24) (o2 := .cells #[.bool false] 4) (o3 := .cells #[.pointer (some ⟨L.g, 0, none⟩)] 85) (Below.refl _ _)
  have e4 : w4.heap.size = w.heap.size + 4 := by rw [← hw4]; simp
  have y0 := heap_drw (heap_alloc x0 (.cells #[.int .i64 t.grp] 3))
  have y1 := heap_drw (heap_alloc x1 (.cells #[.int .i64 t.grp] 3))
  have y2 := heap_drw (heap_alloc x2 (.cells #[.int .i64 t.grp] 3))
  have y3 := heap_drw (heap_at (n := w.heap.size + 3) (w := (((w.alloc (.cells #[.pointer (some ⟨L.b, 0, none⟩)] 24)).alloc (.cells #[.bool false] 4)).alloc (.cells #[.pointer (some ⟨L.g, 0, none⟩)] 85))) (by simp) (.cells #[.int .i64 t.grp] 3))
  have hb4 := (hb3.alloc (by omega) (.cells #[.int .i64 t.grp] 3)).drew
  rw [hw4] at y0 y1 y2 y3 hb4
  clear hs3 hw4 x0 x1 x2 hb3
  have hgl := H.out.grp.lt
  refine wp_range rfl (enters_of Tryz.func66 (by kernel_rfl) rfl) (GPathIter (H.out.grp.below hb4) t.grp y3 y2) (Below.refl _ _) (fun _ => rfl)
    (fun _ k W => W.heap[w.heap.size]? = some (.cells #[.pointer (some ⟨L.b, 0, none⟩)] 24 (0, 0)) ∧ W.heap[w.heap.size + 1]? = some (.cells #[.bool false] 4 (0, 0)) ∧ Below w.heap.size w W ∧ ((pathG s.ups t.grp).take k).any (fun i => (s.acc i).spent) = false)
    (fun _ e k W => e = .ret ∧ W.heap[w.heap.size + 1]? = some (.cells #[.bool true] 4 (0, 0)) ∧ Below w.heap.size w W ∧ s.spentG t.grp = true) ?hI ?hX ?h0 ?round ?done ?stop
  case hI => exact fun r k W o h hl => ⟨(World.putObj_heap_other (by omega)).trans h.1, (World.putObj_heap_other (by omega)).trans h.2.1, Below.putObj h.2.2.1 (by omega) _, h.2.2.2⟩
  case hX => exact fun r e k W o h hl => ⟨h.1, (World.putObj_heap_other (by omega)).trans h.2.1, Below.putObj h.2.2.1 (by omega) _, h.2.2.2⟩
  case h0 => exact fun r W hs hb _ => ⟨heap_below y0 hb, heap_below y1 hb, hb4.trans (hb.mono (by omega)), rfl⟩
  case round =>
    rintro r j x W hx ⟨hc0, hc1, hb, hno⟩ hl
    refine ⟨_, fun W' K hK => by gi_wp2; exact hK, ?_⟩
    obtain ⟨d0, f0, l0⟩ := blk1 hc0
    obtain ⟨d1, f1, l1⟩ := blk1 hc1
    have hx16 : x < 16 := by have := pathF_mem _ _ _ (List.mem_of_getElem? hx); have := H.out.grp.n16; omega
    have hxi : (x : Int) < 16 := by omega
    have hx0 : (0 : Int) ≤ x := by omega
    obtain ⟨⟨a0, a1, a2, a3⟩, -⟩ := (H.out.below hb).accs hx16
    have HS := Lib.hid (AcSpent (s.acc x) W (hg x hx16))
    have H0 := Lib.hid hc0
    have H1 := Lib.hid hc1
    have HB := Lib.hid hb
    have HX := Lib.hid hx
    have HN := Lib.hid hno
    clear hc0 hc1 hb hx hno
    cases hsp : (s.acc x).spent with
    | true =>
      rw [hsp] at HS
      have Hsp := Lib.hid hsp
      clear hsp
      gi_wp2_with (gi_at_call 69; refine (CallsIn.inRound _ (callsIn_wide.2 HS.out)).mono ?_; rintro e w1 ⟨rfl, hb1⟩; have z1 := heap_below H1.out hb1; obtain ⟨d1, f1, l1⟩ := blk1 z1; have HZ := Lib.hid z1; have HB1 := Lib.hid hb1; clear z1 hb1)
      have hs := HB1.out.size
      refine ⟨⟨?_, ?_⟩, rfl, heap_set HZ.out _, (HB.out.trans (HB1.out.mono HB.out.size)).setCell (p := ⟨_, 0, none⟩) (by simp) _, ?_⟩
      · rw [Below.heap_setCell _ _ _ _ (by simp; omega)]; exact HB1.out.block _ (by omega)
      · rw [Below.heap_setCell _ _ _ _ (by simp; omega)]; exact HB1.out.block _ (by omega)
      · unfold SysS.spentG
        rw [List.any_eq_true]
        exact ⟨x, List.mem_of_getElem? HX.out, Hsp.out⟩
    | false =>
      rw [hsp] at HS
      have Hsp := Lib.hid hsp
      clear hsp
      gi_wp2_with (gi_at_call 69; refine (CallsIn.inRound _ (callsIn_wide.2 HS.out)).mono ?_; rintro e w1 ⟨rfl, hb1⟩; have HB1 := Lib.hid hb1; clear hb1)
      have hs := HB1.out.size
      have hbs := HB.out.size
      refine ⟨⟨HB1.out.block _ (by omega), HB1.out.block _ (by omega), fun b hb' _ => HB1.out.block _ (by omega)⟩, heap_below H0.out HB1.out, heap_below H1.out HB1.out, HB.out.trans (HB1.out.mono HB.out.size), ?_⟩
      obtain ⟨hj, e⟩ := List.getElem?_eq_some_iff.1 HX.out
      rw [List.take_succ_eq_append_getElem hj, List.any_append, HN.out, e]
      simp [Hsp.out]
  case done =>
    rintro r W ⟨hc0, hc1, hb, hno⟩ hl hK
    rw [List.take_length] at hno
    obtain ⟨d1, f1, l1⟩ := blk1 hc1
    have H1 := Lib.hid hc1
    clear hc0 hc1
    go_wp2
    refine ⟨by simp, .inl ⟨_, _, rfl, run_takeDeferred (by rw [Below.heap_setCell _ _ _ _ (by simp; omega)]; exact hK), ?_⟩⟩
    exact ⟨_, res_b _ _ (w.heap.size + 1) (.bool false) _ _ rfl rfl ((World.putObj_heap_other (by omega)).trans (heap_set H1.out _)) rfl agg_bool, by rw [show s.spentG t.grp = false from hno], Below.putObj (hb.setCell (p := ⟨_, 0, none⟩) (by simp) _) (by omega) _⟩
  case stop =>
    rintro r e k x W hx ⟨rfl, hc1, hb, hsp⟩ hl hK
    refine ⟨by simp, .inl ⟨_, _, rfl, run_takeDeferred hK, ?_⟩⟩
    exact ⟨_, res_b _ _ (w.heap.size + 1) (.bool true) _ _ rfl rfl ((World.putObj_heap_other (by omega)).trans hc1) rfl agg_bool, by rw [hsp], Below.putObj hb (by omega) _⟩
end
end Go.Proofs.YtlgkkolgdjgclaaGreat
/- A system's small methods: find, become, on, Core, Cores, loads, least. -/
namespace Go.Proofs.YtlgkkolgdjgclaaGreat
open Go.RowKit Go.Shelf
set_option linter.unusedVariables false
set_option linter.unusedSimpArgs false

theorem ptrV_nat (k : Nat) : ptrV (k : Int) = .pointer (some ⟨k, 0, none⟩) := by unfold ptrV; rw [if_neg (by omega), Int.toNat_natCast]
theorem ptrV_none : ptrV (-1) = .pointer none := rfl
def I63 (x : Int) : Prop := -9223372036854775808 ≤ x ∧ x ≤ 9223372036854775807
section
variable {w0 w : World} {ow : Nat → Option Own} {L : Lay} {s : SysS}
theorem SysIn.look (h : SysIn w0 w ow L s) {id : Int} (hi : I63 id) {t : Tk} (ht : s.find id = some t) :
    (Instr.lookup 90 (.map (some L.mp)) (.int .i64 id) false).run Tryz.prog w = .ok (.pointer (some ⟨L.tb id, 0, none⟩)) w := by
  rw [h.map.look hi]
  unfold fmap
  rw [ht]
  simp only [ptrV_nat]
theorem SysIn.look_none (h : SysIn w0 w ow L s) {id : Int} (hi : I63 id) (ht : s.find id = none) :
    (Instr.lookup 90 (.map (some L.mp)) (.int .i64 id) false).run Tryz.prog w = .ok (.pointer none) w := by
  rw [h.map.look hi]
  unfold fmap
  rw [ht]
  rfl
def St4 (x : Int) : Prop := x = 1 ∨ x = 2 ∨ x = 4 ∨ x = 5
def Act6 (a : Int) : Prop := a = 1 ∨ a = 4 ∨ a = 5 ∨ a = 6 ∨ a = 7 ∨ a = 8
set_option maxHeartbeats 1600000 in
set_option maxRecDepth 100000 in
theorem YFind (h : SysIn w0 w ow L s) {id : Int} (hi : I63 id) {t : Tk} (ht : s.find id = some t) (hs : St4 t.st) {act : Int} (ha : Act6 act) : Calls Tryz.prog 57 #[.pointer (some ⟨L.b, 0, none⟩), .int .i64 id, .int .i64 act] w fun e w' => e = .returned (.tuple #[.pointer (some ⟨L.tb id, 0, none⟩), .int .i64 (nextL t.st act).2]) ∧ w = w' := by
  obtain ⟨⟨q0, q1, q2, q3⟩, -, hlt⟩ := h.tops
  have hlk := h.look hi ht
  obtain ⟨⟨c0, c1, c2, c3, c4, c5, c6⟩, -, hk⟩ := TkAt.cells (h.tsk id t ht).1
  have HN := Lib.hid (Next_any t.st act w ⟨hs, ha⟩)
  clear h hs ha ht hi
  go_enter Tryz.func57, Tryz.ntmps57
  go_wp2_with (go_at_call 75; refine HN.out.mono ?_; rintro e w1 ⟨rfl, rfl⟩)
  go_ret2
  exact ⟨rfl, rfl⟩
set_option maxHeartbeats 1600000 in
set_option maxRecDepth 100000 in
theorem YFind_none (h : SysIn w0 w ow L s) {id : Int} (hi : I63 id) (ht : s.find id = none) (act : Int) : Calls Tryz.prog 57 #[.pointer (some ⟨L.b, 0, none⟩), .int .i64 id, .int .i64 act] w fun e w' => e = .returned (.tuple #[.pointer none, .int .i64 2]) ∧ w = w' := by
  obtain ⟨⟨q0, q1, q2, q3⟩, -, hlt⟩ := h.tops
  have hlk := h.look_none hi ht
  clear h ht hi
  go_enter Tryz.func57, Tryz.ntmps57
  go_wp2
  go_ret2
  exact ⟨rfl, rfl⟩
set_option maxHeartbeats 1600000 in
set_option maxRecDepth 100000 in
theorem YBecome {k : Nat} {t : Tk} (ht : TkAt w k t) (hs : St4 t.st) {act : Int} (ha : Act6 act) : Calls Tryz.prog 73 #[.pointer (some ⟨k, 0, none⟩), .int .i64 act] w fun e w' => (∃ v, e = .returned v) ∧ w' = w.setCell ⟨k, 4, none⟩ (.int .i64 (nextL t.st act).1) := by
  obtain ⟨⟨c0, c1, c2, c3, c4, c5, c6⟩, ⟨f0, f1, f2, f3, f4, f5, f6⟩, hk⟩ := ht.cells
  have HN := Lib.hid (Next_any t.st act w ⟨hs, ha⟩)
  clear ht hs ha
  go_enter Tryz.func73, Tryz.ntmps73
  go_wp2_with (go_at_call 75; refine HN.out.mono ?_; rintro e w1 ⟨rfl, rfl⟩)
  go_end0
  exact ⟨⟨_, rfl⟩, rfl⟩
theorem TkAt.st {k : Nat} {t : Tk} (ht : TkAt w k t) (x : Int) : TkAt (w.setCell ⟨k, 4, none⟩ (.int .i64 x)) k { t with st := x } := heap_set ht _
theorem TkAt.lag {k : Nat} {t : Tk} (ht : TkAt w k t) (x : Int) : TkAt (w.setCell ⟨k, 6, none⟩ (.int .i64 x)) k { t with lag := x } := heap_set ht _
theorem TkAt.core {k : Nat} {t : Tk} (ht : TkAt w k t) (x : Int) : TkAt (w.setCell ⟨k, 3, none⟩ (.int .i64 x)) k { t with core := x } := heap_set ht _
theorem TkAt.wgt {k : Nat} {t : Tk} (ht : TkAt w k t) (x : Int) : TkAt (w.setCell ⟨k, 1, none⟩ (.int .i64 x)) k { t with w := x } := heap_set ht _
theorem TkAt.mask {k : Nat} {t : Tk} (ht : TkAt w k t) (x : Int) : TkAt (w.setCell ⟨k, 5, none⟩ (.int .u16 x)) k { t with mask := x } := heap_set ht _
set_option maxHeartbeats 1600000 in
set_option maxRecDepth 100000 in
theorem YCore (h : SysIn w0 w ow L s) {c : Int} (hc : 0 ≤ c ∧ c < s.cores.length) {bl : Nat} (hb : L.cb[c.toNat]? = some bl) : Calls Tryz.prog 14 #[.pointer (some ⟨L.b, 0, none⟩), .int .i64 c] w fun e w' => e = .returned (.tuple #[.pointer (some ⟨bl, 0, none⟩), .int .i64 0]) ∧ w = w' := by
  obtain ⟨⟨q0, q1, q2, q3⟩, -, hlt⟩ := h.tops
  obtain ⟨k, rfl⟩ : ∃ k : Nat, c = k := ⟨c.toNat, by omega⟩
  rw [Int.toNat_natCast] at hb
  obtain ⟨r, off, ha, hrl, hcc⟩ := h.arr (by intro h0; rw [h0] at hb; simp at hb)
  have e0 := hcc k bl hb 0 _ rfl
  simp only [Nat.mul_one, Nat.add_zero] at e0
  obtain ⟨h0, h1⟩ := hc
  rw [ha] at q0
  generalize s.cores.length = n at q0 h1
  clear h hcc ha hb
  go_enter Tryz.func14, Tryz.ntmps14
  go_wp2
  go_ret2
  exact ⟨rfl, rfl⟩
set_option maxHeartbeats 1600000 in
set_option maxRecDepth 100000 in
theorem YCore_none (h : SysIn w0 w ow L s) {c : Int} (hc : ¬ (0 ≤ c ∧ c < s.cores.length)) : Calls Tryz.prog 14 #[.pointer (some ⟨L.b, 0, none⟩), .int .i64 c] w fun e w' => e = .returned (.tuple #[.pointer none, .int .i64 2]) ∧ w = w' := by
  obtain ⟨⟨q0, q1, q2, q3⟩, -, hlt⟩ := h.tops
  generalize s.cores.length = n at q0 hc
  clear h
  by_cases h0 : c < 0
  · clear hc
    go_enter Tryz.func14, Tryz.ntmps14
    go_wp2
    go_ret2
    exact ⟨rfl, rfl⟩
  · have h1 : (n : Int) ≤ c := by omega
    clear hc
    go_enter Tryz.func14, Tryz.ntmps14
    go_wp2
    go_ret2
    exact ⟨rfl, rfl⟩
end
end Go.Proofs.YtlgkkolgdjgclaaGreat
/- A system's small methods: loads, least, Served. -/
namespace Go.Proofs.YtlgkkolgdjgclaaGreat
open Go.RowKit Go.Shelf
set_option linter.unusedVariables false
set_option linter.unusedSimpArgs false

theorem i64_info : ((Tryz.prog).info? 2).map (fun i => (i.zero, i.size, i.bytes)) = some (some (.int .i64 0), 1, 8) := by kernel_rfl
theorem own_bl {w w' : World} {B e k n : Nat} {v : Value} {xs : List Value} (h : w.ownsRow B e k v n xs) (hb : Below w.heap.size w w') : w'.ownsRow B e k v n xs :=
  own_fr (F := fun _ => False) h (Fr.of_below hb) (fun _ _ h => h)
/-- What a walk asks of cores. -/
def CoresOk (s : SysS) : Prop := s.cores.length ≤ 16 ∧ ∀ c ∈ s.cores, TagOk c.tag ∧ OkS 0 c.q
section
variable {w0 w : World} {ow : Nat → Option Own} {L : Lay} {s : SysS}
theorem SysIn.arrc (h : SysIn w0 w ow L s) {k : Nat} {bl : Nat} (hb : L.cb[k]? = some bl) : ∃ r off, L.ar = some ⟨r, off, none⟩ ∧ r < w.heap.size ∧ w.cell? ⟨r, off + k, none⟩ = some (.pointer (some ⟨bl, 0, none⟩)) := by
  obtain ⟨r, off, ha, hrl, hcc⟩ := h.arr (by intro h0; rw [h0] at hb; simp at hb)
  have e0 := hcc k bl hb 0 _ rfl
  simp only [Nat.mul_one, Nat.add_zero] at e0
  exact ⟨r, off, ha, hrl, e0⟩
set_option maxHeartbeats 3200000 in
set_option maxRecDepth 100000 in
theorem YLoads (h : SysIn w0 w ow L s) (hc : CoresOk s) : Calls Tryz.prog 77 #[.pointer (some ⟨L.b, 0, none⟩)] w fun e w' => ∃ a c, e = .returned (.slice a s.cores.length c) ∧ Sl int1 1 w' a s.loads ∧ Below w.heap.size w w' := by
  obtain ⟨⟨q0, q1, q2, q3⟩, -, hlt⟩ := h.tops
  obtain ⟨i0, hi0, hz0, hz1, hz2⟩ := info_parts i64_info
  have H := Lib.hid h
  have HC := Lib.hid hc
  obtain ⟨n, hn⟩ : ∃ n, s.cores.length = n := ⟨_, rfl⟩
  have hn16 : n ≤ 16 := by have := hc.1; omega
  rw [hn] at q0 ⊢
  have Hn := Lib.hid hn
  clear h hc hn
  go_enter Tryz.func77, Tryz.ntmps77
  go_wp2_with fail
  go_loopw [11, 3] (fun ix sx wr => ∃ (k : Nat) (va : Option Addr) (vc : Nat), k ≤ n ∧ ix = .int .i64 k ∧ sx = .slice va k vc ∧ Below w.heap.size w wr ∧ wr.ownsRow w.heap.size 2 1 (.slice va k vc) k ((s.loads.take k).map (Value.int .i64))) (fun ix _ _ => n - (intOf ix).toNat)
  case atStart => exact ⟨0, none, 0, Nat.zero_le _, rfl, rfl, Below.refl _ _, World.ownsRow_nil _ _ _ _⟩
  case round =>
    obtain ⟨k, va, vc, hk, rfl, rfl, hb, hown⟩ := hrel
    have hsz := hb.size
    have Hown := Lib.hid hown
    have Hb := Lib.hid hb
    have hk0 : (0 : Int) ≤ k := by omega
    by_cases hlk : k < n
    · have hki : (k : Int) < n := by omega
      obtain ⟨c, hck⟩ : ∃ c, s.cores[k]? = some c := ⟨_, List.getElem?_eq_getElem (by have := Hn.out; omega)⟩
      obtain ⟨bl, F, p, q, r, hbl, hcst, -⟩ := (H.out.below hb).cor k c hck
      obtain ⟨ra, off, har, hral, e0⟩ := (H.out.below hb).arrc hbl
      have hco := HC.out.2 c (List.mem_of_getElem? hck)
      have HL := Lib.hid (CorLoad hcst hco.1 hco.2)
      have hld : s.loads[k]? = some (totW c.q.l) := by unfold SysS.loads; rw [List.getElem?_map, hck]; rfl
      have HLd := Lib.hid hld
      generalize totW c.q.l = u at HL HLd
      rw [har] at q0 ⊢
      clear hown hb hck hcst hbl hco hld har
      go_wp2_with (first
        | (go_at_call 95; refine HL.out.mono ?_; rintro e w1 ⟨rfl, hb1⟩; have Hown1 := Lib.hid (own_bl Hown.out hb1); have HB1 := Lib.hid hb1; clear hb1)
        | (at_builtin; go_loud (refine wpList_append_lies _ (by rfl) _ _ _ (by rfl) w.heap.size 2 i0 _ 1 8 Tryz.underlying153 hi0 hz0 hz1 hz2 rfl (by omega) (.slice va k vc) k _ (by rfl) (Hown1.out.alloc _) ⟨w1.heap.size, 0, none⟩ 1 1 [.int .i64 u] (by rfl) (by rfl) (World.news_of_block (cs := #[.int .i64 u]) (t := 2) (fr := (0, 0)) (heap_at (by simp) _)) (by simp [Value.oneCell']) (by omega) (by unfold maxLen; omega) (by omega) (by have := HB1.out.size; simp; omega) (w1.heap.size + 1) (by simp) ?_); intro gg cap w2 hown2 hgrow hat hltg; have hfr1 : Fr (fun q => (Value.slice va k vc).ownBlock = some q) w1 w2 := (((Fr.refl _ w1).alloc _)).trans (Fr.of_grown hgrow) (fun _ _ h => h); have q4 := Lib.hid hown2; clear hat hgrow hown2))
      go_roundw
      case rel =>
        have hov := Hown1.out.lt
        have hs1 := HB1.out.size
        refine ⟨k + 1, _, _, by omega, by go_num, rfl, ?_, ?_⟩
        · exact (Hb.out.trans (HB1.out.mono Hb.out.size)).trans (hfr1.below (by omega) fun k' hk' => (hov _ hk').1)
        · have := q4.out
          rw [List.take_succ_eq_append_getElem (List.getElem?_eq_some_iff.1 HLd.out).1, (List.getElem?_eq_some_iff.1 HLd.out).2, List.map_append]
          exact this
      case measure => simp [intOf]; omega
    · obtain rfl : k = n := by omega
      have e1 : s.loads.take k = s.loads := List.take_of_length_le (by unfold SysS.loads; rw [List.length_map, Hn.out]; exact Nat.le_refl _)
      rw [e1] at Hown
      clear hown hb
      go_wp2_with fail
      go_ret
      refine ⟨va, vc, rfl, Sl.of_own (e := 2) (n := k) (c := vc) int1_len (B := w.heap.size) ?_, Hb.out⟩
      have e2 : s.loads.length = k := by unfold SysS.loads; rw [List.length_map, Hn.out]
      rw [flat_int, e2]
      exact Hown.out
set_option maxHeartbeats 1600000 in
set_option maxRecDepth 100000 in
theorem YLeast (h : SysIn w0 w ow L s) (hc : CoresOk s) (m : Int) (hm : 0 ≤ m ∧ m < 65536) : Calls Tryz.prog 58 #[.pointer (some ⟨L.b, 0, none⟩), .int .u16 m] w fun e w' => e = .returned (.int .i64 (s.least m)) ∧ Below w.heap.size w w' := by
  have HL := Lib.hid (YLoads h hc)
  have hl : s.loads.length = s.cores.length := by unfold SysS.loads; rw [List.length_map]
  have hn16 := hc.1
  have HQ := Lib.hid (fun (W : World) (a : Option Addr) (c : Nat) (hs : Sl int1 1 W a s.loads) => LLeast m hm s.loads s.cores.length a c hl hn16 hs)
  unfold SysS.least
  clear h hc hl
  generalize s.cores.length = n at HL HQ hn16
  go_enter Tryz.func58, Tryz.ntmps58
  go_wp2_with (first
    | (go_at_call 77; refine HL.out.mono ?_; rintro e w1 ⟨a, c, rfl, hs, hb1⟩; have HS := Lib.hid hs; have HB1 := Lib.hid hb1; clear hs hb1)
    | (go_at_call 76; refine (HQ.out _ _ _ HS.out).mono ?_; rintro e w2 ⟨rfl, hb2⟩))
  go_ret
  exact ⟨rfl, HB1.out.trans (hb2.mono HB1.out.size)⟩
end
end Go.Proofs.YtlgkkolgdjgclaaGreat
/- A system in memory: what a write leaves. -/
namespace Go.Proofs.YtlgkkolgdjgclaaGreat
open Go.RowKit Go.Shelf
set_option linter.unusedVariables false
set_option linter.unusedSimpArgs false

/-! ### the plain model -/
namespace SysS
variable {s : SysS} {t t' : Tk} {id : Int}
theorem find_slot (h : s.find id = some t) : 0 ≤ id ∧ t.id = id ∧ ∃ n, s.slots[(id % 64).toNat]? = some ⟨n, some t⟩ := by
  unfold find at h
  split at h
  · cases h
  · rename_i h0
    split at h
    · rename_i n u hs
      split at h
      · rename_i e
        simp only [Option.some.injEq] at h
        subst h
        exact ⟨by omega, e, n, hs⟩
      · cases h
    · cases h
theorem find_of_slot {n : Int} (h0 : 0 ≤ id) (hi : t.id = id) (hs : s.slots[(id % 64).toNat]? = some ⟨n, some t⟩) : s.find id = some t := by
  unfold find
  rw [if_neg (by omega), hs]
  simp only
  rw [if_pos hi]
theorem find_setT (h : s.find t.id = some t) (hi : t'.id = t.id) (id : Int) : (s.setT t').find id = if id = t.id then some t' else s.find id := by
  obtain ⟨h0, -, n, hs⟩ := find_slot h
  by_cases e : id = t.id
  · subst e
    rw [if_pos rfl]
    refine find_of_slot (n := n) h0 hi ?_
    simp only [setT, List.getElem?_modify, hi, if_pos, hs, Option.map_eq_map, Option.map_some]
  · rw [if_neg e]
    unfold find
    split
    · rfl
    · rename_i hn
      simp only [setT, List.getElem?_modify, hi]
      by_cases e2 : (t.id % 64).toNat = (id % 64).toNat
      · rw [e2] at hs ⊢
        simp only [hs, if_pos, Option.map_eq_map, Option.map_some]
        rw [if_neg (by rw [hi]; exact fun h => e h.symm), if_neg (fun h => e h.symm)]
      · simp [e2]
theorem plcs_setT (h : s.find t.id = some t) (hi : t'.id = t.id) : (s.setT t').plcs = s.plcs := by
  obtain ⟨h0, -, n, hs⟩ := find_slot h
  unfold plcs setT
  simp only [hi]
  refine List.ext_getElem? fun k => ?_
  simp only [List.getElem?_map, List.getElem?_modify]
  by_cases e : (t.id % 64).toNat = k
  · subst e
    simp [hs]
  · simp [e]
theorem setT_is (t : Tk) : (s.setT t).cores = s.cores ∧ (s.setT t).grps = s.grps ∧ (s.setT t).ups = s.ups ∧ (s.setT t).loads = s.loads := ⟨rfl, rfl, rfl, rfl⟩
theorem setC_is (i : Nat) (c : CoreS) : (s.setC i c).slots = s.slots ∧ (s.setC i c).grps = s.grps ∧ (s.setC i c).ups = s.ups ∧ (s.setC i c).plcs = s.plcs ∧ ∀ id, (s.setC i c).find id = s.find id := ⟨rfl, rfl, rfl, rfl, fun _ => rfl⟩
end SysS
section
variable {w0 w w' : World} {ow : Nat → Option Own} {L : Lay} {s : SysS}
/-- Behind a call on it. -/
def SysTo (w0 w : World) (ow : Nat → Option Own) (L : Lay) (s' : SysS) (w' : World) : Prop := ∃ ow', SysIn w0 w' ow' L s' ∧ Fr (fun k => ow k ≠ none) w w' ∧ ∀ k, ow' k ≠ none → ow k ≠ none ∨ w.heap.size ≤ k
theorem fmap_setT {t t' : Tk} (h : s.find t.id = some t) (hi : t'.id = t.id) : fmap L (s.setT t') = fmap L s := by
  funext id
  unfold fmap
  rw [SysS.find_setT h hi]
  by_cases e : id = t.id
  · subst e; rw [if_pos rfl, h]
  · rw [if_neg e]
theorem topCells_eq {s' : SysS} (h1 : s'.cores.length = s.cores.length) (h2 : s'.grps = s.grps) : topCells L s' = topCells L s := by
  unfold topCells accL
  have : s'.acc = s.acc := by funext g; unfold SysS.acc; rw [h2]
  rw [h1, this]
/-- A task's block is written. -/
theorem SysIn.setT (h : SysIn w0 w ow L s) {t t' : Tk} (ht : s.find t.id = some t) (hi : t'.id = t.id) (hf : Fr (fun k => k = L.tb t.id) w w') (hc : TkAt w' (L.tb t.id) t') : SysIn w0 w' ow L (s.setT t') := by
  have hown := (h.tsk _ _ ht).2
  have n : ∀ {k x}, ow k = some x → (∀ id, x ≠ .tsk id) → ¬ (k = L.tb t.id) := fun hk hx e => by subst e; rw [hown] at hk; simp only [Option.some.injEq] at hk; exact hx _ hk.symm
  have hnew := (h.lt _ _ hown).1
  refine ⟨?_, h.arr.fr hf fun p hp => n (h.oA p hp) (fun _ e => by cases e), h.grp.fr hf (n h.oG (fun _ e => by cases e)), ?_, ?_, fun id u hu => ?_, fun i c hc => ?_, h.cbl, h.oT, h.oA, h.oG, h.oS, h.oP, h.oM, fun k x hk => ?_, h.old.trans (hf.below h.old.size fun k hk => by subst hk; exact hnew)⟩
  · rw [topCells_eq (s := s) (s' := s.setT t') rfl rfl]; exact heap_fr h.top hf (n h.oT (fun _ e => by cases e))
  · rw [SysS.plcs_setT ht hi]; exact h.slt.fr hf (n h.oS (fun _ e => by cases e)) (n h.oP (fun _ e => by cases e))
  · rw [fmap_setT ht hi]; exact h.map.fr hf (n h.oM (fun _ e => by cases e))
  · rw [SysS.find_setT ht hi] at hu
    by_cases e : id = t.id
    · subst e
      rw [if_pos rfl] at hu
      simp only [Option.some.injEq] at hu
      subst hu
      exact ⟨hc, hown⟩
    · rw [if_neg e] at hu
      obtain ⟨h1, h2⟩ := h.tsk id u hu
      refine ⟨heap_fr h1 hf fun e2 => ?_, h2⟩
      rw [e2, hown] at h2
      simp only [Option.some.injEq, Own.tsk.injEq] at h2
      exact e h2.symm
  · obtain ⟨bl, F, p, q, r, h1, h2, h3⟩ := h.cor i c hc
    exact ⟨bl, F, p, q, r, h1, h2.fr hf (fun k hk => n (h3 k hk) (fun _ e => by cases e)) (fun k hk => by subst hk; exact hnew), h3⟩
  · have := h.lt k x hk
    have := hf.size
    omega
open Classical in
/-- A core is another one. -/
theorem SysIn.setC (h : SysIn w0 w ow L s) {i : Nat} {c c' : CoreS} (hc : s.cores[i]? = some c) {bl p q r : Nat} {F : Nat → Prop} (hbl : L.cb[i]? = some bl) (how : ∀ k, cfoot F bl p r k → ow k = some (.cor i)) (hn : CNext w0 w F bl p q r c' w') : SysTo w0 w ow L (s.setC i c') w' := by
  obtain ⟨F', hcs, hf, hs⟩ := hn
  have hG : ∀ k, (F k ∨ k = bl ∨ k = r) → ow k = some (.cor i) := fun k hk => how k (by rcases hk with h | h | h; exact .inl h; exact .inr (.inl h); exact .inr (.inr (.inr h)))
  have n : ∀ {k x}, ow k = some x → x ≠ .cor i → ¬ (F k ∨ k = bl ∨ k = r) := fun hk hx hg => by rw [hG _ hg] at hk; simp only [Option.some.injEq] at hk; exact hx hk.symm
  have hsz := hf.size
  have hil : i < s.cores.length := (List.getElem?_eq_some_iff.1 hc).1
  have o : ∀ {k x}, ow k = some x → (if w.heap.size ≤ k then (if F' k then some (Own.cor i) else none) else ow k) = some x := fun hk => by rw [if_neg (by have := (h.lt _ _ hk).2; omega)]; exact hk
  have hlt := hcs.lt
  refine ⟨fun k => if w.heap.size ≤ k then (if F' k then some (.cor i) else none) else ow k, ⟨?_, h.arr.fr hf fun p hp => n (h.oA p hp) (fun e => by cases e), h.grp.fr hf (n h.oG (fun e => by cases e)), h.slt.fr hf (n h.oS (fun e => by cases e)) (n h.oP (fun e => by cases e)), h.map.fr hf (n h.oM (fun e => by cases e)), fun id u hu => ?_, fun j d hd => ?_, ?_, o h.oT, fun p hp => o (h.oA p hp), o h.oG, o h.oS, o h.oP, o h.oM, fun k x hk => ?_, hcs.old⟩, hf.mono fun k _ hk e => ?_, fun k hk => ?_⟩
  · rw [topCells_eq (s := s) (s' := s.setC i c') (by simp [SysS.setC]) rfl]; exact heap_fr h.top hf (n h.oT (fun e => by cases e))
  · obtain ⟨h1, h2⟩ := h.tsk id u hu
    exact ⟨heap_fr h1 hf (n h2 (fun e => by cases e)), o h2⟩
  · simp only [SysS.setC, List.getElem?_set] at hd
    by_cases e : i = j
    · subst e
      rw [if_pos rfl, if_pos hil] at hd
      simp only [Option.some.injEq] at hd
      subst hd
      refine ⟨bl, F', p, q, r, hbl, hcs, fun k hk => ?_⟩
      split
      · rename_i hk2
        rcases hk with hk | hk
        · rw [if_pos hk]
        · have hk3 : cfoot F bl p r k := .inr hk
          have := (h.lt _ _ (how k hk3)).2
          omega
      · rename_i hk2
        rcases hk with hk | hk
        · exact how k (.inl ((hs k hk).resolve_right hk2))
        · exact how k (.inr hk)
    · rw [if_neg e] at hd
      obtain ⟨bl2, F2, p2, q2, r2, h1, h2, h3⟩ := h.cor j d hd
      refine ⟨bl2, F2, p2, q2, r2, h1, h2.fr hf (fun k hk => n (h3 k hk) (fun e2 => by cases e2; exact e rfl)) (fun k hk => (h.lt _ _ (hG k hk)).1), fun k hk => o (h3 k hk)⟩
  · simp only [SysS.setC, List.length_set]; exact h.cbl
  · split at hk
    · split at hk
      · rename_i hk2 hF
        exact ⟨Nat.le_trans h.old.size hk2, hlt k (.inl hF)⟩
      · cases hk
    · have := h.lt k x hk
      omega
  · rw [hG k hk] at e; cases e
  · dsimp only at hk
    split at hk
    · rename_i h2; exact .inr h2
    · exact .inl hk
theorem SysIn.same (h : SysIn w0 w ow L s) (hb : Below w.heap.size w w') : SysTo w0 w ow L s w' := ⟨ow, h.below hb, Fr.of_below hb, fun k hk => .inl hk⟩
theorem SysIn.to {s' : SysS} (h : SysIn w0 w ow L s) (h' : SysIn w0 w' ow L s') (hf : Fr (fun k => ow k ≠ none) w w') : SysTo w0 w ow L s' w' := ⟨ow, h', hf, fun k hk => .inl hk⟩
theorem SysTo.trans {w1 w2 : World} {ow1 : Nat → Option Own} {s' : SysS} (h1 : ∀ k, ow1 k ≠ none → ow k ≠ none ∨ w.heap.size ≤ k) (hf : Fr (fun k => ow k ≠ none) w w1) (h : SysTo w0 w1 ow1 L s' w2) : SysTo w0 w ow L s' w2 := by
  obtain ⟨ow2, hq, hf2, hs2⟩ := h
  have hsz := hf.size
  exact ⟨ow2, hq, hf.trans hf2 (fun k hk hk2 => (h1 k hk2).elim id (fun h => by omega)), fun k hk => (hs2 k hk).elim (h1 k) (fun h => .inr (by omega))⟩
end
end Go.Proofs.YtlgkkolgdjgclaaGreat
/- A system's methods: leave, enter. -/
namespace Go.Proofs.YtlgkkolgdjgclaaGreat
open Go.RowKit Go.Shelf
set_option linter.unusedVariables false
set_option linter.unusedSimpArgs false

theorem SysS.setT_setT {s : SysS} {a b : Tk} (h : b.id = a.id) : (s.setT a).setT b = s.setT b := by
  unfold SysS.setT
  simp only [SysS.mk.injEq, true_and, h]
  refine List.ext_getElem? fun k => ?_
  simp only [List.getElem?_modify]
  by_cases e : (a.id % 64).toNat = k
  · subst e
    cases s.slots[(a.id % 64).toNat]? <;> simp
  · simp [e]
theorem SysS.find_setT_self {s : SysS} {t t' : Tk} (h : s.find t.id = some t) (hi : t'.id = t.id) : (s.setT t').find t'.id = some t' := by rw [SysS.find_setT h hi, if_pos hi]
section
variable {w0 w : World} {ow : Nat → Option Own} {L : Lay} {s : SysS}
theorem fr_cell {k j : Nat} {v : Value} (w : World) : Fr (fun i => i = k) w (w.setCell ⟨k, j, none⟩ v) := (Fr.refl (fun i => i = k) w).setCell (p := ⟨k, j, none⟩) (fun _ => rfl) _
/-- One store into a task's block. -/
theorem SysIn.setCell (h : SysIn w0 w ow L s) {t t' : Tk} (ht : s.find t.id = some t) (hi : t'.id = t.id) {j : Nat} {v : Value} (hc : TkAt (w.setCell ⟨L.tb t.id, j, none⟩ v) (L.tb t.id) t') : SysTo w0 w ow L (s.setT t') (w.setCell ⟨L.tb t.id, j, none⟩ v) :=
  h.to (h.setT ht hi (fr_cell w) hc) ((fr_cell w).mono fun k _ e => by subst e; rw [(h.tsk _ _ ht).2]; simp)
theorem SysTo.drew {s' : SysS} {w' : World} (h : SysTo w0 w ow L s' w') : SysTo w0 w ow L s' w'.drew := by
  obtain ⟨ow', h1, h2, h3⟩ := h
  exact ⟨ow', h1.below (Below.refl _ _).drew, h2.drew, h3⟩
theorem SysTo.drew0 {s' : SysS} {w' : World} (h : SysTo w0 w.drew ow L s' w') : SysTo w0 w ow L s' w' := by
  obtain ⟨ow', h1, h2, h3⟩ := h
  exact ⟨ow', h1, ⟨h2.os, h2.tape, h2.output, h2.size, h2.block⟩, h3⟩
set_option maxHeartbeats 3200000 in
set_option maxRecDepth 100000 in
theorem YLeave {B : Nat} {K : Int} (h : SysIn w0 w ow L s) {t : Tk} (ht : s.find t.id = some t) (hst : t.st = 2) {c : CoreS} (hcr : 0 ≤ t.core) (hc : s.cores[t.core.toNat]? = some c) (hk : CoreOk B K c) (hB : B ≤ 1000000000) :
    Calls Tryz.prog 72 #[.pointer (some ⟨L.b, 0, none⟩), .pointer (some ⟨L.tb t.id, 0, none⟩)] w fun e w' => (∃ v, e = .returned v) ∧ SysTo w0 w ow L (s.leaveT t).1 w' := by
  obtain ⟨⟨q0, q1, q2, q3⟩, ⟨z0, z1, z2, z3⟩, hlt⟩ := h.tops
  obtain ⟨⟨c0, c1, c2, c3, c4, c5, c6⟩, ⟨f0, f1, f2, f3, f4, f5, f6⟩, hkl⟩ := TkAt.cells (h.tsk _ t ht).1
  obtain ⟨k, hkc⟩ : ∃ k : Nat, t.core = k := ⟨t.core.toNat, by omega⟩
  have hk0 : (0 : Int) ≤ k := by omega
  rw [hkc] at c3
  rw [hkc, Int.toNat_natCast] at hc
  obtain ⟨bl, F, p, q, r, hbl, hcst, how⟩ := h.cor k c hc
  obtain ⟨ra, off, har, hral, e0⟩ := h.arrc hbl
  have hkn : (k : Int) < s.cores.length := by have := (List.getElem?_eq_some_iff.1 hc).1; omega
  have hcore : s.core t.core = c := by unfold SysS.core; rw [hkc, Int.toNat_natCast, List.getD_eq_getElem?_getD, hc]; rfl
  obtain ⟨S', v, x, hx⟩ : ∃ S' v x, leaveR c.q t.id = (S', v, x) := ⟨_, _, _, rfl⟩
  have hleave : (s.leaveT t).1 = (s.setC k (c.leave t.id)).setT { t with lag := v } := by
    unfold SysS.leaveT
    rw [if_pos hst, hcore, hkc, Int.toNat_natCast, hx]
  rw [hleave]
  rw [hst] at c4
  rw [har] at q0
  have HC := Lib.hid (CorLeave (w := w.drew) (hcst.below (Below.refl _ _).drew) hk hB t.id hx)
  have H := Lib.hid h
  have HT := Lib.hid ht
  have HO := Lib.hid how
  have HBL := Lib.hid hbl
  have HCk := Lib.hid hc
  have hne : L.b ≠ L.tb t.id := fun e => by have h1 := h.oT; rw [e, (h.tsk _ t ht).2] at h1; cases h1
  generalize s.cores.length = n at q0 hkn
  clear hcst hbl hc hx hleave h ht how hk har hcore
  go_enter Tryz.func72, Tryz.ntmps72
  go_wp2_with fail
  refine wp_region_chain 30 [0, 0, 2, 6, 14, 0, 32, 96, 224, 510, 1022, 0, 2048, 6144, 14336, 32766, 65534, 131070, 131070, 262143, 786431, 1835007] [(0, none), (1, none), (2, none), (3, none), (4, none), (5, none), (6, none), (7, none), (8, none), (9, none), (10, none), (11, none), (12, none), (13, none), (14, none), (15, some [0]), (16, none), (17, none), (18, none), (19, none), (20, none), (21, some [18])] (by kernel_rfl) (by kernel_rfl) (by rfl) ?_; simp only [chain, Obs, List.getElem?_toArray, List.getElem?_cons_zero, List.getElem?_cons_succ]
  go_wp2_with (first
    | (with_reducible refine And.intro (by first | with_reducible exact True.intro | with_reducible rfl | go_simp) ?_)
    | (go_at_call 92; refine HC.out.mono ?_; rintro e w1 ⟨rfl, hn⟩
       obtain ⟨ow1, h1, hf1, hs1⟩ := (H.out.below (Below.refl _ _).drew).setC HCk.out HBL.out HO.out hn
       obtain ⟨⟨c0, c1, c2, c3, c4, c5, c6⟩, ⟨f0, f1, f2, f3, f4, f5, f6⟩, hkl⟩ := TkAt.cells (h1.tsk _ t HT.out).1
       have H1 := Lib.hid h1
       have Hf1 := Lib.hid hf1
       have Hs1 := Lib.hid hs1
       clear hn h1 hf1 hs1))
  refine NoPanic.normal ?_
  go_wp2_with fail
  go_end0
  exact ⟨⟨_, rfl⟩, SysTo.drew0 (SysTo.trans Hs1.out Hf1.out (H1.out.setCell (t := t) (t' := { t with lag := v }) HT.out rfl (TkAt.lag (H1.out.tsk _ t HT.out).1 v)))⟩
/-- One that is not ready: nothing happens. -/
theorem YLeave_not (h : SysIn w0 w ow L s) {t : Tk} (ht : s.find t.id = some t) (hst : t.st ≠ 2) :
    Calls Tryz.prog 72 #[.pointer (some ⟨L.b, 0, none⟩), .pointer (some ⟨L.tb t.id, 0, none⟩)] w fun e w' => (∃ v, e = .returned v) ∧ SysTo w0 w ow L (s.leaveT t).1 w' := by
  obtain ⟨⟨c0, c1, c2, c3, c4, c5, c6⟩, ⟨f0, f1, f2, f3, f4, f5, f6⟩, hkl⟩ := TkAt.cells (h.tsk _ t ht).1
  have hleave : (s.leaveT t).1 = s := by unfold SysS.leaveT; rw [if_neg hst]
  rw [hleave]
  have hb : (t.st == 2) = false := by simpa using hst
  have H := Lib.hid h
  clear h ht hleave
  go_enter Tryz.func72, Tryz.ntmps72
  go_wp2
  go_end0
  exact ⟨⟨_, rfl⟩, H.out.same (Below.refl _ _)⟩
set_option maxHeartbeats 3200000 in
set_option maxRecDepth 100000 in
theorem YEnter {B : Nat} {K : Int} (h : SysIn w0 w ow L s) (hg : ∀ i, i < 16 → (s.acc i).good = true) {t : Tk} (ht : s.find t.id = some t) (hs4 : St4 t.st) {act : Int} (ha : Act6 act) (hna : (nextL t.st act).1 = 2) {c : CoreS} (hcr : 0 ≤ t.core) (hc : s.cores[t.core.toNat]? = some c) (hk : CoreOk B K c) (hB : B ≤ 1000000000) (hK : K ≤ 1151795604700004352) (exact' : Bool) (hm : mayE c.q.l t.id t.w t.lag = 0) :
    Calls Tryz.prog 59 #[.pointer (some ⟨L.b, 0, none⟩), .pointer (some ⟨L.tb t.id, 0, none⟩), .int .i64 act, .bool exact'] w fun e w' => e = .returned (.int .i64 0) ∧ SysTo w0 w ow L (s.enterT t exact') w' := by
  have HSp := Lib.hid (YSpent h hg (h.tsk _ t ht).1)
  have H := Lib.hid h
  have HT := Lib.hid ht
  cases hsp : s.spentG t.grp with
  | true =>
    have he : s.enterT t exact' = s.setT { t with st := 5 } := by unfold SysS.enterT; rw [if_pos hsp]
    rw [he]
    rw [hsp] at HSp
    have HNA := Lib.hid hna
    have HB1 := Lib.hid (fun (W : World) (hW : TkAt W (L.tb t.id) t) => YBecome hW hs4 ha)
    have HB2 := Lib.hid (fun (W : World) (hW : TkAt W (L.tb t.id) { t with st := 2 }) => YBecome (act := 6) hW (.inr (.inl rfl)) (.inr (.inr (.inr (.inl rfl)))))
    rw [hna] at HB1
    clear h ht hg hs4 ha hna hcr hc hk hB hK hm hsp he
    go_enter Tryz.func59, Tryz.ntmps59
    go_wp2_with (first
      | (go_at_call 78; refine HSp.out.mono ?_; rintro e w1 ⟨rfl, hb1⟩; have hh := H.out.below hb1; have HT1 := Lib.hid (show TkAt w1 (L.tb t.id) t from (hh.tsk _ t HT.out).1); have H1 := Lib.hid hh; have Hb1 := Lib.hid hb1; clear hh hb1)
      | (go_at_call 73; with_reducible refine (HB1.out _ HT1.out).mono ?_; rintro e w2 ⟨⟨v, rfl⟩, rfl⟩; have HT2 := Lib.hid (TkAt.st HT1.out 2))
      | (go_at_call 73; with_reducible refine (HB2.out _ HT2.out).mono ?_; rintro e w3 ⟨⟨v, rfl⟩, rfl⟩))
    go_ret
    obtain ⟨ow2, h2, hf2, hs2⟩ := H1.out.setCell (t := t) (t' := { t with st := 2 }) (j := 4) (v := .int .i64 2) HT.out rfl (TkAt.st HT1.out 2)
    have h3 := h2.setCell (t := { t with st := 2 }) (t' := { t with st := 5 }) (j := 4) (v := .int .i64 5) (SysS.find_setT_self HT.out rfl) rfl (TkAt.st HT2.out 5)
    have h4 := SysTo.trans hs2 hf2 h3
    rw [SysS.setT_setT (s := s) (a := { t with st := 2 }) (b := { t with st := 5 }) rfl] at h4
    exact ⟨rfl, SysTo.trans (w1 := w1) (ow1 := ow) (fun k hk => .inl hk) (Fr.of_below Hb1.out) h4⟩
  | false =>
    have he : s.enterT t exact' = (s.setC t.core.toNat ((s.core t.core).enter t.id t.w t.lag exact')).setT { t with st := 2 } := by unfold SysS.enterT; rw [if_neg (by rw [hsp]; decide)]
    rw [he]
    rw [hsp] at HSp
    obtain ⟨⟨q0, q1, q2, q3⟩, ⟨z0, z1, z2, z3⟩, hlt⟩ := h.tops
    obtain ⟨k, hkc⟩ : ∃ k : Nat, t.core = k := ⟨t.core.toNat, by omega⟩
    have hk0 : (0 : Int) ≤ k := by omega
    rw [hkc, Int.toNat_natCast] at hc
    obtain ⟨bl, F, p, q, r, hbl, hcst, how⟩ := h.cor k c hc
    obtain ⟨ra, off, har, hral, e0⟩ := h.arrc hbl
    have hkn : (k : Int) < s.cores.length := by have := (List.getElem?_eq_some_iff.1 hc).1; omega
    have hcore : s.core t.core = c := by unfold SysS.core; rw [hkc, Int.toNat_natCast, List.getD_eq_getElem?_getD, hc]; rfl
    rw [hcore, show t.core.toNat = k from by omega]
    rw [har] at q0
    have HC := Lib.hid (fun (W : World) (hW : CSt w0 W F bl p q r c) => CorEnter hW hk hB hK t.id t.w t.lag exact' hm)
    have HCS := Lib.hid hcst
    have HO := Lib.hid how
    have HBL := Lib.hid hbl
    have HCk := Lib.hid hc
    have HB1 := Lib.hid (fun (W : World) (hW : TkAt W (L.tb t.id) t) => YBecome hW hs4 ha)
    rw [hna] at HB1
    obtain ⟨n, hn0⟩ : ∃ n, s.cores.length = n := ⟨_, rfl⟩
    rw [hn0] at q0 hkn
    have HAR := Lib.hid (show L.ar = some ⟨ra, off, none⟩ ∧ s.cores.length = n from ⟨har, hn0⟩)
    clear hn0 hcst hbl hc h ht how hk har hcore hg hs4 ha hna hcr hm hsp he
    go_enter Tryz.func59, Tryz.ntmps59
    go_wp2_with (first
      | (go_at_call 78; refine HSp.out.mono ?_; rintro e w1 ⟨rfl, hb1⟩; have hh := H.out.below hb1
         obtain ⟨⟨q0, q1, q2, q3⟩, ⟨z0, z1, z2, z3⟩, hlt⟩ := hh.tops
         obtain ⟨⟨c0, c1, c2, c3, c4, c5, c6⟩, ⟨f0, f1, f2, f3, f4, f5, f6⟩, hkl⟩ := TkAt.cells (hh.tsk _ t HT.out).1
         rw [HAR.out.1, HAR.out.2] at q0
         have e1 := (hb1.cell (p := ⟨ra, off + k, none⟩) hral).trans e0
         have hral1 := Nat.lt_of_lt_of_le hral hb1.size
         have H1 := Lib.hid hh; have Hb1 := Lib.hid hb1; clear hh hb1))
    refine wp_region_chain 49 [0, 1, 3, 7, 0, 16, 48, 112, 255, 511, 0, 1024, 3072, 7168, 0, 16384, 49152, 114688, 0, 262144, 786432, 1835008, 0, 8388607, 16777215] [(0, none), (1, none), (2, none), (3, none), (4, none), (5, none), (6, none), (7, none), (8, none), (9, none), (10, none), (11, none), (12, none), (13, none), (14, none), (15, none), (16, none), (17, none), (18, none), (19, none), (20, none), (21, none), (22, none), (23, some []), (24, none)] (by kernel_rfl) (by kernel_rfl) (by rfl) ?_; simp only [chain, Obs, List.getElem?_toArray, List.getElem?_cons_zero, List.getElem?_cons_succ]
    go_wp2_with (first
      | (with_reducible refine And.intro (by first | with_reducible exact True.intro | with_reducible rfl | go_simp) ?_)
      | (go_at_call 79; refine (HC.out w1.drew ((HCS.out.below Hb1.out).below (Below.refl _ _).drew)).mono ?_; rintro e w2 ⟨rfl, hn⟩
         obtain ⟨ow2, h2, hf2, hs2⟩ := (H1.out.below (Below.refl _ _).drew).setC HCk.out HBL.out HO.out hn
         have HT2 := Lib.hid (show TkAt w2 (L.tb t.id) t from (h2.tsk _ t HT.out).1)
         have H2 := Lib.hid h2
         have Hf2 := Lib.hid hf2
         have Hs2 := Lib.hid hs2
         clear hn h2 hf2 hs2))
    refine NoPanic.normal ?_
    go_wp2_with (first
      | (go_at_call 73; with_reducible refine (HB1.out _ HT2.out).mono ?_; rintro e w3 ⟨⟨v, rfl⟩, rfl⟩))
    go_ret
    have h3 := H2.out.setCell (t := t) (t' := { t with st := 2 }) (j := 4) (v := .int .i64 2) HT.out rfl (TkAt.st HT2.out 2)
    exact ⟨rfl, SysTo.trans (w1 := w1) (ow1 := ow) (fun k hk => .inl hk) (Fr.of_below Hb1.out) (SysTo.drew0 (SysTo.trans Hs2.out Hf2.out h3))⟩
end
end Go.Proofs.YtlgkkolgdjgclaaGreat
/- What a system keeps. -/
namespace Go.Proofs.YtlgkkolgdjgclaaGreat
open Go.RowKit
set_option linter.unusedVariables false
set_option linter.unusedSimpArgs false

structure TkOk (s : SysS) (t : Tk) : Prop where
  w : 1 ≤ t.w ∧ t.w ≤ 20
  grp : hasG s.ups t.grp = true
  mask : goodM t.mask s.cores.length = true
  m16 : 0 ≤ t.mask ∧ t.mask < 65536
  st : St4 t.st
  lag : -1000000000 ≤ t.lag ∧ t.lag ≤ 0
  new : t.st = 1 → t.core = -1 ∧ t.lag = 0
  old : t.st ≠ 1 → 0 ≤ t.core ∧ t.core < s.cores.length
structure CorFine (T : Nat) (c : CoreS) : Prop where
  tag : TagOk c.tag
  q : NearQ T c.q
  age : 0 ≤ c.age ∧ c.age ≤ T
  idle : 0 ≤ c.idle ∧ c.idle ≤ T
  sv : ∀ id, 0 ≤ c.sv id ∧ c.sv id ≤ T
  n : c.n ≤ T
theorem CorFine.ok {T : Nat} {c : CoreS} (h : CorFine T c) (hT : T ≤ 100000000) : CoreOk T 0 c := ⟨h.tag, h.q.ok hT, h.age.1, h.age.2, h.idle.1, h.idle.2, fun id => (h.sv id).1, fun id => (h.sv id).2, h.n⟩
theorem CorFine.mono {T T' : Nat} {c : CoreS} (h : CorFine T c) (hT : T ≤ T') : CorFine T' c := ⟨h.tag, h.q.mono hT, by have := h.age; omega, by have := h.idle; omega, fun id => by have := h.sv id; omega, by have := h.n; omega⟩
structure SysOk (T : Nat) (s : SysS) : Prop where
  c1 : 1 ≤ s.cores.length
  c16 : s.cores.length ≤ 16
  cor : ∀ c ∈ s.cores, CorFine T c
  g1 : 1 ≤ s.grps.length
  g16 : s.grps.length ≤ 16
  acc : ∀ p ∈ s.grps, p.2.good = true
  s64 : s.slots.length = 64
  turn : ∀ x ∈ s.slots, 0 ≤ x.turn ∧ x.turn ≤ T
  slot : ∀ (i : Nat) (n : Int) (t : Tk), s.slots[i]? = some ⟨n, some t⟩ → t.id = i + 64 * (n - 1) ∧ 1 ≤ n ∧ TkOk s t
  rdy : ∀ (i : Nat) c, s.cores[i]? = some c → ∀ x ∈ c.q.l, ∃ t, s.find x.id = some t ∧ t.st = 2 ∧ t.core = i ∧ t.w = x.w
  rdq : ∀ id t, s.find id = some t → t.st = 2 → ∃ c, s.cores[t.core.toNat]? = some c ∧ ∃ x ∈ c.q.l, x.id = id
section
variable {T : Nat} {s : SysS}
theorem SysOk.accs (h : SysOk T s) : ∀ i, i < 16 → (s.acc i).good = true := fun i _ => by
  unfold SysS.acc
  split
  · rename_i p hp; exact h.acc p (List.mem_of_getElem? hp)
  · decide
theorem SysOk.cores (h : SysOk T s) (hT : T ≤ 100000000) : CoresOk s := ⟨h.c16, fun c hc => ⟨(h.cor c hc).tag, (h.cor c hc).q.ok hT⟩⟩
theorem SysOk.tk (h : SysOk T s) {id : Int} {t : Tk} (ht : s.find id = some t) : TkOk s t ∧ t.id = id ∧ 0 ≤ id ∧ id ≤ 64 * T + 64 := by
  obtain ⟨h0, h1, n, h2⟩ := SysS.find_slot ht
  obtain ⟨h3, h4, h5⟩ := h.slot _ n t h2
  have h6 := h.turn _ (List.mem_of_getElem? h2)
  have hk : (id % 64).toNat < 64 := by have := (List.getElem?_eq_some_iff.1 h2).1; rw [h.s64] at this; exact this
  exact ⟨h5, h1, h0, by simp only at h6; omega⟩
theorem SysOk.core (h : SysOk T s) {c : Int} (hc : 0 ≤ c ∧ c < s.cores.length) : ∃ d, s.cores[c.toNat]? = some d ∧ s.core c = d ∧ CorFine T d := by
  have hl : c.toNat < s.cores.length := by omega
  refine ⟨s.cores[c.toNat], List.getElem?_eq_getElem hl, ?_, h.cor _ (List.getElem_mem hl)⟩
  unfold SysS.core
  rw [List.getD_eq_getElem?_getD, List.getElem?_eq_getElem hl]; rfl
/-- One that is not ready stands in no queue. -/
theorem SysOk.notin (h : SysOk T s) {id : Int} {t : Tk} (ht : s.find id = some t) (hs : t.st ≠ 2) {i : Nat} {c : CoreS} (hc : s.cores[i]? = some c) : ∀ x ∈ c.q.l, x.id ≠ id := fun x hx e => by
  obtain ⟨u, hu, hs2, _⟩ := h.rdy i c hc x hx
  rw [e, ht] at hu
  simp only [Option.some.injEq] at hu
  subst hu
  exact hs hs2
theorem byid_idx {l : List Pt} (h : ById l) : l.Pairwise fun a b => a.id ≠ b.id := h.imp fun h => by omega
/-- Of some numbers below m, no two alike, there are m at most. -/
theorem nodup_len : ∀ (m : Nat) (l : List Nat), l.Nodup → (∀ x ∈ l, x < m) → l.length ≤ m
  | 0, l, _, h => by
    cases l with
    | nil => simp
    | cons x t => have := h x (by simp); omega
  | m + 1, l, hn, h => by
    have h1 := nodup_len m (l.erase m) (hn.erase m) (fun x hx => by
      have h2 := h x (List.mem_of_mem_erase hx)
      have h3 : x ≠ m := fun e => by subst e; exact (List.Nodup.not_mem_erase hn) hx
      omega)
    have := List.length_erase (a := m) (l := l)
    split at this <;> omega
/-- There is room in each queue for one that is not there. -/
theorem SysOk.room (h : SysOk T s) {id : Int} {t : Tk} (ht : s.find id = some t) {i : Nat} {c : CoreS} (hc : s.cores[i]? = some c) (hni : ∀ x ∈ c.q.l, x.id ≠ id) : c.q.l.length < 64 := by
  obtain ⟨k0, -, k1, k2⟩ := h.tk ht |> fun ⟨a, b, c, d⟩ => (⟨b, a, c, d⟩ : _ ∧ _ ∧ _ ∧ _)
  have hby := (h.cor c (List.mem_of_getElem? hc)).q.byid
  have key : (((id % 64).toNat) :: c.q.l.map fun x => (x.id % 64).toNat).Nodup := by
    rw [List.nodup_cons]
    constructor
    · intro hm
      obtain ⟨x, hx, e⟩ := List.mem_map.1 hm
      obtain ⟨u, hu, -⟩ := h.rdy i c hc x hx
      obtain ⟨a0, a1, n, a2⟩ := SysS.find_slot hu
      obtain ⟨b0, b1, m, b2⟩ := SysS.find_slot ht
      rw [e, b2] at a2
      simp only [Option.some.injEq, Slo.mk.injEq] at a2
      obtain ⟨-, rfl⟩ := a2
      exact hni x hx (by rw [← a1, b1])
    · rw [List.Nodup, List.pairwise_map]
      refine List.Pairwise.imp_of_mem (fun {a b} ha hb hab e => ?_) hby
      obtain ⟨u, hu, -⟩ := h.rdy i c hc a ha
      obtain ⟨v, hv, -⟩ := h.rdy i c hc b hb
      obtain ⟨a0, a1, n, a2⟩ := SysS.find_slot hu
      obtain ⟨b0, b1, m, b2⟩ := SysS.find_slot hv
      rw [e, b2] at a2
      simp only [Option.some.injEq, Slo.mk.injEq] at a2
      obtain ⟨-, rfl⟩ := a2
      omega
  have hl := nodup_len 64 _ key (fun x hx => by
    rcases List.mem_cons.1 hx with rfl | hx
    · omega
    · obtain ⟨y, _, rfl⟩ := List.mem_map.1 hx; omega)
  simp at hl
  omega
/-- .. so that it is let in. -/
theorem SysOk.mayE' (h : SysOk T s) (hT : T ≤ 10000000) {id : Int} {t : Tk} (ht : s.find id = some t) {i : Nat} {c : CoreS} (hc : s.cores[i]? = some c) (hni : ∀ x ∈ c.q.l, x.id ≠ id) {w lag : Int} (hw : 1 ≤ w ∧ w ≤ 20) (hl : -1000000000 ≤ lag ∧ lag ≤ 0) : Go.Proofs.YtlgkkolgdjgclaaGreat.mayE c.q.l id w lag = 0 := by
  obtain ⟨-, -, h1, h2⟩ := h.tk ht
  exact mayE_ok (S := c.q) hni (h.room ht hc hni) ⟨h1, by omega⟩ hw hl
theorem SysOk.mayE (h : SysOk T s) (hT : T ≤ 10000000) {id : Int} {t : Tk} (ht : s.find id = some t) (hs : t.st ≠ 2) {i : Nat} {c : CoreS} (hc : s.cores[i]? = some c) {w lag : Int} (hw : 1 ≤ w ∧ w ≤ 20) (hl : -1000000000 ≤ lag ∧ lag ≤ 0) : Go.Proofs.YtlgkkolgdjgclaaGreat.mayE c.q.l id w lag = 0 := h.mayE' hT ht hc (h.notin ht hs hc) hw hl
/-- One that is ready stands in its core's queue. -/
theorem SysOk.inq (h : SysOk T s) {id : Int} {t : Tk} (ht : s.find id = some t) (hs : t.st = 2) : ∃ c j x, s.cores[t.core.toNat]? = some c ∧ s.core t.core = c ∧ CorFine T c ∧ at? c.q id = some (j, x) ∧ x.w = t.w := by
  obtain ⟨c, hc, x, hx, hid⟩ := h.rdq id t ht hs
  obtain ⟨u, hu, -, -, hw⟩ := h.rdy _ c hc x hx
  rw [hid, ht] at hu
  simp only [Option.some.injEq] at hu
  subst hu
  refine ⟨c, ?_⟩
  rcases at_cases c.q id with ⟨_, _, h3⟩ | ⟨j, y, h1, _, _, hy, hyd⟩
  · exact absurd hid (h3 x hx)
  · have := (h.cor c (List.mem_of_getElem? hc)).q.byid.uniq (List.mem_of_getElem? hy) hx (by rw [hyd, hid])
    subst this
    refine ⟨j, y, hc, ?_, h.cor c (List.mem_of_getElem? hc), h1, hw.symm⟩
    unfold SysS.core
    rw [List.getD_eq_getElem?_getD, hc]; rfl
theorem leastF_mem (ld : List Int) : ∀ (cs : List Nat) (b : Nat × Bool), (leastF ld cs b = b ∨ ((leastF ld cs b).1 ∈ cs ∧ (leastF ld cs b).1 < ld.length)) ∧ (b.2 = true ∨ (∃ c ∈ cs, c < ld.length) → (leastF ld cs b).2 = true)
  | [], b => ⟨.inl rfl, fun h => by rcases h with h | ⟨c, hc, _⟩; exact h; cases hc⟩
  | c :: t, b => by
    unfold leastF
    by_cases hc : c < ld.length ∧ (b.2 = false ∨ ld.getD c 0 < ld.getD b.1 0)
    · rw [if_pos hc]
      obtain ⟨h1, h2⟩ := leastF_mem ld t (c, true)
      refine ⟨.inr ?_, fun _ => h2 (.inl rfl)⟩
      rcases h1 with h1 | h1
      · rw [h1]; exact ⟨by simp, hc.1⟩
      · exact ⟨List.mem_cons_of_mem _ h1.1, h1.2⟩
    · rw [if_neg hc]
      obtain ⟨h1, h2⟩ := leastF_mem ld t b
      refine ⟨h1.imp id fun h => ⟨List.mem_cons_of_mem _ h.1, h.2⟩, fun h => h2 ?_⟩
      rcases h with h | ⟨d, hd, hl⟩
      · exact .inl h
      · rcases List.mem_cons.1 hd with rfl | hd
        · cases hb : b.2 with
          | true => exact .inl rfl
          | false => exact absurd ⟨hl, .inl hb⟩ hc
        · exact .inr ⟨d, hd, hl⟩
theorem hasM_ex {m : Int} {n : Nat} (hm : 0 ≤ m ∧ m < 65536) (hg : goodM m n = true) : ∃ c : Nat, c < n ∧ hasM m c = true := by
  simp only [goodM, decide_eq_true_eq] at hg
  obtain ⟨h1, h2, h3, h4⟩ := hg
  rw [Int.toNat_natCast] at h4
  have hn16 : n ≤ 16 := by omega
  refine Classical.byContradiction fun hne => ?_
  have hall : ∀ c : Nat, c < n → m / 2 ^ c % 2 = 0 := fun c hc => by
    have h5 : hasM m c ≠ true := fun h => hne ⟨c, hc, h⟩
    have h6 : ¬ (0 ≤ (c : Int) ∧ (c : Int) < 16 ∧ m / 2 ^ (c : Int).toNat % 2 = 1) := fun hh => h5 (decide_eq_true hh)
    rw [Int.toNat_natCast] at h6
    have h7 : m / 2 ^ c % 2 ≠ 1 := fun h => h6 ⟨by omega, by omega, h⟩
    omega
  have hz : ∀ c : Nat, c ≤ n → m % 2 ^ c = 0 := by
    intro c
    induction c with
    | zero => intro _; simp
    | succ c ih =>
      intro hc
      have h6 := ih (by omega)
      have h7 := hall c (by omega)
      have hp : (0 : Int) ≤ 2 ^ c := Int.le_of_lt (Int.pow_pos (by decide))
      generalize hP : (2 : Int) ^ c = P at h6 h7 hp
      rw [Int.pow_succ, hP, Int.emod_def, ← Int.ediv_ediv_of_nonneg hp]
      rw [Int.emod_def] at h6
      generalize m / P = q at h6 h7 ⊢
      obtain ⟨k, rfl⟩ : ∃ k, q = 2 * k := ⟨q / 2, by omega⟩
      have e : 2 * k / 2 = k := by omega
      rw [e, Int.mul_assoc]; exact h6
  have h8 := hz n (Nat.le_refl _)
  have h9 := Int.emod_add_mul_ediv m (2 ^ n)
  rw [h8, h4] at h9
  simp at h9
  omega
/-- The least core of a set is one of it. -/
theorem SysOk.least (h : SysOk T s) {m : Int} (hm : 0 ≤ m ∧ m < 65536) (hg : goodM m s.cores.length = true) : 0 ≤ s.least m ∧ s.least m < s.cores.length ∧ hasM m (s.least m) = true := by
  have hl : s.loads.length = s.cores.length := by unfold SysS.loads; rw [List.length_map]
  obtain ⟨c, hc, hh⟩ := hasM_ex hm hg
  obtain ⟨h1, h2⟩ := leastF_mem s.loads (coresM m) (0, false)
  have hc16 := h.c16
  have h3 := h2 (.inr ⟨c, by unfold coresM; rw [List.mem_filter]; exact ⟨by rw [List.mem_range]; omega, hh⟩, by omega⟩)
  rcases h1 with h1 | ⟨h4, h5⟩
  · rw [h1] at h3; cases h3
  · unfold SysS.least leastC
    unfold coresM at h4
    rw [List.mem_filter] at h4
    exact ⟨by omega, by omega, h4.2⟩
end
end Go.Proofs.YtlgkkolgdjgclaaGreat
/- A system's methods: Start, Wake, Sleep, End, Weigh. -/
namespace Go.Proofs.YtlgkkolgdjgclaaGreat
open Go.RowKit Go.Shelf
set_option linter.unusedVariables false
set_option linter.unusedSimpArgs false

theorem undrew {B : Nat} {w w' : World} (h : Below B w.drew w') : Below B w w' := ⟨h.os, h.tape, h.output, h.size, h.block⟩
theorem SysS.enterT_setT {s : SysS} {a t : Tk} (h : a.id = t.id) (e : Bool) : (s.setT a).enterT t e = s.enterT t e := by
  unfold SysS.enterT
  have h1 : (s.setT a).spentG t.grp = s.spentG t.grp := rfl
  have h2 : (s.setT a).core t.core = s.core t.core := rfl
  rw [h1, h2]
  split
  · exact SysS.setT_setT (by exact h.symm)
  · show ((s.setC _ _).setT a).setT _ = _
    exact SysS.setT_setT (by exact h.symm)
section
variable {w0 w : World} {ow : Nat → Option Own} {L : Lay} {s : SysS} {T : Nat}
theorem I63.of_tk {id : Int} (h1 : 0 ≤ id) (h2 : id ≤ 64 * T + 64) (hT : T ≤ 10000000) : I63 id := by unfold I63; omega
set_option maxHeartbeats 3200000 in
set_option maxRecDepth 100000 in
theorem YStart (h : SysIn w0 w ow L s) (hk : SysOk T s) (hT : T ≤ 10000000) {id : Int} (hi : I63 id) :
    Calls Tryz.prog 34 #[.pointer (some ⟨L.b, 0, none⟩), .int .i64 id] w fun e w' => e = .returned (.int .i64 (s.start id).2) ∧ SysTo w0 w ow L (s.start id).1 w' := by
  cases hf : s.find id with
  | none =>
    have e1 : s.start id = (s, 2) := by unfold SysS.start; rw [hf]
    rw [e1]
    have HF := Lib.hid (YFind_none h hi hf 1)
    have H := Lib.hid h
    clear h hk hi hf e1
    go_enter Tryz.func34, Tryz.ntmps34
    go_wp2_with (go_at_call 57; refine HF.out.mono ?_; rintro e w1 ⟨rfl, rfl⟩)
    go_ret
    exact ⟨rfl, H.out.same (Below.refl _ _)⟩
  | some t =>
    obtain ⟨hok, hid, hi0, hi1⟩ := hk.tk hf
    subst hid
    have HF := Lib.hid (YFind h hi hf hok.st (act := 1) (.inl rfl))
    have H := Lib.hid h
    by_cases h1 : t.st = 1
    · have e1 : s.start t.id = (s.enterT { t with core := s.least t.mask } false, 0) := by unfold SysS.start; rw [hf]; simp only; rw [if_pos h1]
      rw [e1]
      rw [h1] at HF
      have e2 : (nextL 1 1).2 = 0 := by decide
      rw [e2] at HF
      obtain ⟨l0, l1, l2⟩ := hk.least hok.m16 hok.mask
      obtain ⟨c, hc, hce, hcf⟩ := hk.core ⟨l0, l1⟩
      have hm := hk.mayE hT hf (by omega) hc hok.w hok.lag
      have HLs := Lib.hid (fun (W : World) (hW : Below w.heap.size w W) => YLeast (h.below hW) (hk.cores (by omega)) t.mask hok.m16)
      have HT := Lib.hid hf
      have HE := Lib.hid (fun (W : World) (hW : SysIn w0 W ow L (s.setT { t with core := s.least t.mask })) =>
        YEnter (t := { t with core := s.least t.mask }) (c := c) hW hk.accs (SysS.find_setT_self hf rfl) hok.st (act := 1) (.inl rfl) (by show (nextL t.st 1).1 = 2; rw [h1]; decide) l0 hc (hcf.ok (by omega)) (by omega) (by decide) false (by exact hm))
      obtain ⟨⟨c0, c1, c2, c3, c4, c5, c6⟩, ⟨f0, f1, f2, f3, f4, f5, f6⟩, hkl⟩ := TkAt.cells (h.tsk _ t hf).1
      clear h hk hi hf e1 e2 hc hce hcf hm
      generalize hlm : s.least t.mask = lm at HLs HE l0 l1 l2 ⊢
      clear hlm h1 l1
      go_enter Tryz.func34, Tryz.ntmps34
      go_wp2_with (first
        | (go_at_call 57; refine HF.out.mono ?_; rintro e w1 ⟨rfl, rfl⟩)
        | (go_at_call 58; refine (HLs.out _ ((Below.refl _ _).alloc (Nat.le_refl _) _)).mono ?_; rintro e w2 ⟨rfl, hb2⟩
           obtain ⟨x0, hs0, hbw⟩ := heap_a1 hb2
           have h2 := H.out.below hbw
           have t2 : TkAt w2 (L.tb t.id) t := (h2.tsk _ t HT.out).1
           obtain ⟨⟨c0, c1, c2, c3, c4, c5, c6⟩, ⟨f0, f1, f2, f3, f4, f5, f6⟩, hkl⟩ := t2.cells
           have H3 := Lib.hid (h2.setT (t := t) (t' := { t with core := lm }) (w' := w2.setCell ⟨L.tb t.id, 3, none⟩ (.int .i64 lm)) HT.out rfl (fr_cell _) (t2.core lm))
           have H2 := Lib.hid h2
           have Hbw := Lib.hid hbw
           clear hb2 x0 hs0 h2 t2 hbw)
        | (go_at_call 59; refine (HE.out _ H3.out).mono ?_; rintro e w3 ⟨rfl, hto⟩; have HTo := Lib.hid hto; clear hto))
      go_ret
      obtain ⟨ow3, h3, hf3, hs3⟩ := HTo.out
      rw [SysS.enterT_setT rfl] at h3
      refine ⟨rfl, ow3, h3, (Fr.of_below Hbw.out).trans (((fr_cell w2).mono (F := fun i => i = L.tb t.id) (G := fun k => ow k ≠ none) fun k _ e => by subst e; rw [(H.out.tsk _ t HT.out).2]; simp).trans hf3 fun _ _ h => h) (fun _ _ h => h), fun k hk => ?_⟩
      have hsz := Hbw.out.size
      exact (hs3 k hk).imp id fun h => by simp at h; omega
    · have e1 : s.start t.id = (s, 4) := by unfold SysS.start; rw [hf]; simp only; rw [if_neg h1]
      rw [e1]
      have e2 : (nextL t.st 1).2 = 4 := by rcases hok.st with h | h | h | h <;> rw [h] at h1 ⊢ <;> first | exact absurd rfl h1 | decide
      rw [e2] at HF
      clear h hk hi hf e1 hok h1 e2
      go_enter Tryz.func34, Tryz.ntmps34
      go_wp2_with (go_at_call 57; refine HF.out.mono ?_; rintro e w1 ⟨rfl, rfl⟩)
      go_ret
      exact ⟨rfl, H.out.same (Below.refl _ _)⟩
theorem SysS.leaveT_is {s : SysS} {t : Tk} (h : s.find t.id = some t) : (s.leaveT t).1.find t.id = some (s.leaveT t).2 ∧ (s.leaveT t).2.id = t.id ∧ (s.leaveT t).2.st = t.st ∧ (s.leaveT t).2.w = t.w ∧ (s.leaveT t).2.grp = t.grp ∧ (s.leaveT t).2.core = t.core ∧ (s.leaveT t).2.mask = t.mask := by
  unfold SysS.leaveT
  split
  · refine ⟨?_, rfl, rfl, rfl, rfl, rfl, rfl⟩
    exact SysS.find_setT_self (s := s.setC _ _) (t := t) (t' := { t with lag := _ }) h rfl
  · exact ⟨h, rfl, rfl, rfl, rfl, rfl, rfl⟩
theorem YLeaveA (h : SysIn w0 w ow L s) (hk : SysOk T s) (hT : T ≤ 10000000) {t : Tk} (ht : s.find t.id = some t) :
    Calls Tryz.prog 72 #[.pointer (some ⟨L.b, 0, none⟩), .pointer (some ⟨L.tb t.id, 0, none⟩)] w fun e w' => (∃ v, e = .returned v) ∧ SysTo w0 w ow L (s.leaveT t).1 w' := by
  by_cases hs : t.st = 2
  · obtain ⟨hok, -⟩ := hk.tk ht
    obtain ⟨c, hc, -, hcf⟩ := hk.core (hok.old (by omega))
    exact YLeave h ht hs (hok.old (by omega)).1 hc (hcf.ok (by omega)) (by omega)
  · exact YLeave_not h ht hs
end
end Go.Proofs.YtlgkkolgdjgclaaGreat
