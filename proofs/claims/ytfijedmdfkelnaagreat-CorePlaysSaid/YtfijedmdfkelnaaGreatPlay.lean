/- What a queue and the document's own keep, whatever both are told. -/
import Derived.Test.YtfijedmdfkelnaaGreatFar
import Derived.Test.YtfijedmdfkelnaaGreatRefQ
namespace Go.Proofs.YtfijedmdfkelnaaGreat
open Go.RowKit
set_option linter.unusedVariables false
set_option linter.unusedSimpArgs false

/-- What both keep. -/
structure PlayI (i : Nat) (S : Ln) : Prop where
  ok : OkS ((i : Int) * 1125899906842624) S
  days : ∀ x ∈ S.l, DayOk x
  far : Far ((i : Int) * 232792560) S
theorem PlayI.day {i : Nat} {S : Ln} (h : PlayI i S) : ∀ x ∈ S.l, -4611686018427387904 ≤ x.day ∧ x.day ≤ 4611686018427387904 := fun x hx => by
  have h1 := h.ok.pts x hx
  have h2 := (h.days x hx).le
  have h3 := step_le x.w
  have h4 := h.ok.k1
  omega
theorem days_put {S : Ln} (h : ∀ x ∈ S.l, DayOk x) (id w lag : Int) : ∀ x ∈ (putR S id w lag).l, DayOk x := by
  unfold putR; split
  · intro x hx
    rcases insP_mem.1 hx with rfl | hx
    · exact DayOk.newP _ _ _ _
    · exact h x hx
  · exact h
theorem days_enter {S : Ln} (held : Int → Int) (h : ∀ x ∈ S.l, DayOk x) (id w lag : Int) : ∀ x ∈ (enterR held S id w lag).l, DayOk x := by
  unfold enterR; split
  · exact days_put h _ _ _
  · exact h
theorem days_leave {S : Ln} (h : ∀ x ∈ S.l, DayOk x) (id : Int) : ∀ x ∈ (leaveR S id).1.l, DayOk x := by
  unfold leaveR
  cases at? S id with
  | none => exact h
  | some p => exact fun x hx => h x ((List.eraseIdx_sublist _ _).subset hx)
theorem days_weigh {S : Ln} (h : ∀ x ∈ S.l, DayOk x) (id w : Int) : ∀ x ∈ (weighR S id w).1.l, DayOk x := by
  unfold weighR
  rcases at_cases S id with ⟨e, _⟩ | ⟨j, x, e, _, _, hx, _⟩
  · rw [e]; exact h
  · rw [e]
    simp only
    split
    · intro y hy
      rcases mem_set hx hy with rfl | hy
      · exact DayOk.dayOf _
      · exact h y hy
    · exact h
theorem days_charge {S : Ln} (h : ∀ x ∈ S.l, DayOk x) : ∀ x ∈ (chargeR S).1.l, DayOk x := by
  unfold chargeR
  rcases at_cases S S.cur with ⟨e, _⟩ | ⟨j, x, e, _, _, hx, _⟩
  · rw [e]; exact h
  · rw [e]
    simp only
    split
    · exact h
    · intro y hy
      rcases mem_set hx hy with rfl | hy
      · exact (h x (List.mem_of_getElem? hx)).charge
      · exact h y hy
theorem PlayI.next {i : Nat} {S' : Ln} {K c : Int} (hi : i < 200) (h : OkS K S') (hk : K ≤ (i : Int) * 1125899906842624 + 1125899906842624) (hd : ∀ x ∈ S'.l, DayOk x) (hf : Far c S') (hc : c ≤ (i : Int) * 232792560 + 232792560) : PlayI (i + 1) S' :=
  ⟨h.mono (by omega) (by omega), hd, hf.mono (by omega)⟩
section
variable {i : Nat} {S : Ln} (hi : i < 200) (h : PlayI i S)
include hi h
theorem PlayI.enter (held : Int → Int) (id w lag : Int) : PlayI (i + 1) (enterR held S id w lag) :=
  PlayI.next hi (h.ok.enter held id w lag (by omega)) (by omega) (days_enter _ h.days _ _ _) (h.far.enter (by omega) _ _ _ _ h.ok.len) (by omega)
theorem PlayI.put (id w lag : Int) : PlayI (i + 1) (putR S id w lag) :=
  PlayI.next hi (h.ok.put id w lag (by omega)) (by omega) (days_put h.days _ _ _) (h.far.put (by omega) _ _ _ h.ok.len) (by omega)
theorem PlayI.leave (id : Int) : PlayI (i + 1) (leaveR S id).1 := PlayI.next hi (h.ok.leave id) (by omega) (days_leave h.days _) (h.far.leave _) (by omega)
theorem PlayI.weigh (id w : Int) : PlayI (i + 1) (weighR S id w).1 := PlayI.next hi (h.ok.weigh id w) (by omega) (days_weigh h.days _ _) (h.far.weigh _ _) (by omega)
theorem PlayI.charge : PlayI (i + 1) (chargeR S).1 := PlayI.next hi h.ok.charge (by omega) (days_charge h.days) h.far.charge (by omega)
theorem PlayI.pick {T : Ln} (hk : OkS ((i : Int) * 1125899906842624) T) (hc : ∃ c, T = ⟨S.base, c, S.l⟩) : PlayI (i + 1) T := by
  obtain ⟨c, rfl⟩ := hc
  exact PlayI.next hi hk (by omega) h.days (h.far.curs c) (by omega)
end
theorem PlayI.seed {f : Fm} {base : Int} (hb : BaseOk base) (hg : goodF f = true) : PlayI 0 (seedR f base) :=
  ⟨(OkS.seed hb.1 hb.2 hg).mono (by omega) (by omega), (Lags.seed hg).days, (Far.seed hg).mono (by omega)⟩
theorem PlayI.new {base : Int} (hb : BaseOk base) : PlayI 0 ⟨base, -1, []⟩ :=
  ⟨(OkS.new hb.1 hb.2).mono (by omega) (by omega), (fun x hx => by cases hx), (Far.new base).mono (by omega)⟩

/-- Both behind a call. -/
def TwoAt (tag : Int) (w0 : World) (b r : Nat) (i : Nat) (w' : World) : Prop := ∃ F G S, QSt w0 w' F b S ∧ RSt w0 w' G r tag S ∧ (∀ k, F k → ¬ G k) ∧ PlayI i S
theorem TwoAt.old {tag : Int} {w0 w : World} {b r i : Nat} (h : TwoAt tag w0 b r i w) : Below w0.heap.size w0 w := by
  obtain ⟨F, G, S, hp, _⟩ := h
  exact hp.old
end Go.Proofs.YtfijedmdfkelnaaGreat
