/- CoreServes in the plain model. -/
import Derived.Test.YtfijedmdfkelnaaGreatCorM
import Derived.Test.YtfijedmdfkelnaaGreatNearT
namespace Go.Proofs.YtfijedmdfkelnaaGreat
open Go.RowKit
set_option linter.unusedVariables false
set_option linter.unusedSimpArgs false

/-- So many weights were tried, inn of them let in. -/
structure SvA (tag : Int) (i inn : Nat) (s : CoreS) : Prop where
  ok : CoreOk i ((i : Int) * 1125899906842624) s
  near : NearT0 i s.q
  tag : s.tag = tag
  sv : ∀ id, s.sv id = 0
  idle : s.idle = 0
  age : s.age = inn
  len : s.q.l.length = inn
  le : inn ≤ i
theorem SvA.start {tag : Int} (ht : TagOk tag) : SvA tag 0 0 ⟨tag, ⟨0, -1, []⟩, fun _ => 0, 0, 0, 0⟩ :=
  ⟨⟨ht, OkS.new (by decide) (by decide), Int.le_refl _, Int.le_refl _, Int.le_refl _, Int.le_refl _, fun _ => Int.le_refl _, fun _ => Int.le_refl _, Nat.le_refl _⟩, nearT0_start, rfl, fun _ => rfl, rfl, rfl, rfl, Nat.le_refl _⟩
theorem SvA.next {tag : Int} {i inn : Nat} {s : CoreS} (h : SvA tag i inn s) (hi : i < 64) (w : Int) :
    (mayE s.q.l i w 0 = 0 ∧ SvA tag (i + 1) (inn + 1) (s.enter i w 0 false)) ∨ (mayE s.q.l i w 0 = 1 ∧ SvA tag (i + 1) inn (s.enter i w 0 false)) := by
  have ht : TagOk s.tag := h.ok.tag
  have hle := h.le
  have hage := h.age
  have hok : CoreOk (i + 1) (((i + 1 : Nat) : Int) * 1125899906842624) (s.enter i w 0 false) := (h.ok.enter (by omega) i w 0 false).mono (Nat.le_refl _) (by omega) (by omega)
  obtain ⟨hn, hc⟩ := nearT0_next ht h.near hi w
  rcases hc with ⟨_, hm, hl⟩ | ⟨_, hm, hq⟩
  · left
    have e1 : s.enter i w 0 false = { s with q := enterR (heldT s.tag) s.q i w 0, age := s.age + 1 } := by
      show CoreS.done _ (mayE s.q.l i w 0) = _
      rw [hm]; rfl
    refine ⟨hm, hok, ?_, ?_, ?_, ?_, ?_, ?_, by omega⟩
    · rw [e1]; exact hn
    · rw [e1]; exact h.tag
    · rw [e1]; exact h.sv
    · rw [e1]; exact h.idle
    · rw [e1]; simp only; omega
    · rw [e1]; simp only; rw [hl, insP_len, h.len]
  · right
    have e1 : s.enter i w 0 false = s := by
      show CoreS.done { s with q := enterR (heldT s.tag) s.q i w 0 } (mayE s.q.l i w 0) = _
      rw [hm, hq]; rfl
    refine ⟨hm, hok, ?_, ?_, ?_, ?_, ?_, ?_, by omega⟩
    · rw [hq] at hn; rw [e1]; exact hn
    · rw [e1]; exact h.tag
    · rw [e1]; exact h.sv
    · rw [e1]; exact h.idle
    · rw [e1]; exact h.age
    · rw [e1]; exact h.len
/-- t runs behind. -/
structure SvB (m inn t : Nat) (s : CoreS) : Prop where
  ok : CoreOk (m + t) ((m : Int) * 1125899906842624) s
  age : s.age = inn + t
  some : 0 < inn → NearT t ((m : Int) * 1125899906842624) s.q ∧ s.idle = 0 ∧ sumTo s.sv m = t ∧ ∀ x ∈ s.q.l, 0 ≤ x.id ∧ x.id < m
  none : inn = 0 → s.q.l = [] ∧ s.q.cur = -1 ∧ s.idle = t ∧ sumTo s.sv m = 0
theorem SvA.runs {tag : Int} {m inn : Nat} {s : CoreS} (h : SvA tag m inn s) : SvB m inn 0 s := by
  have hsum : sumTo s.sv m = 0 := by
    have : s.sv = fun _ => 0 := funext h.sv
    rw [this]; exact sumTo_zero m
  refine ⟨h.ok, by have := h.age; omega, fun hi => ⟨nearT_start h.near (by rw [h.len]; exact hi), h.idle, by rw [hsum]; rfl, fun x hx => ⟨(h.near.pts x hx).1, (h.near.pts x hx).2.1⟩⟩, fun hi => ⟨?_, h.near.cur, by rw [h.idle]; rfl, hsum⟩⟩
  have := h.len
  rw [hi] at this
  exact List.eq_nil_of_length_eq_zero this
theorem SvB.next {m inn t : Nat} {s : CoreS} (h : SvB m inn t s) (hb : t < 1000) : ∃ s' v x, s.run = (s', v, x) ∧ (-9223372036854775808 ≤ s.ran.2.1 ∧ s.ran.2.1 ≤ 9223372036854775807) ∧ SvB m inn (t + 1) s' := by
  have hok := h.ok.run
  have hage := h.age
  have ht := h.ok.tag
  rcases Nat.eq_zero_or_pos inn with h0 | h0
  · obtain ⟨n1, n2, n3, n4⟩ := h.none h0
    obtain ⟨c, e1, e2, e3, e4⟩ := none_tick ht n1 n2
    subst e3
    have hran : s.ran = (⟨s.q.base, -1, s.q.l⟩, 0, 14) := by unfold CoreS.ran; rw [e1]; exact e4
    have hrun : s.run = ({ s with q := ⟨s.q.base, -1, s.q.l⟩, idle := s.idle + 1, age := s.age + 1 }, -1, 0) := by
      unfold CoreS.run; rw [hran]; rfl
    rw [hrun] at hok
    refine ⟨_, _, _, hrun, by rw [hran]; show (-9223372036854775808 : Int) ≤ 0 ∧ (0 : Int) ≤ 9223372036854775807; decide, hok, by simp only; omega, fun hi => by omega, fun _ => ⟨n1, rfl, by simp only; omega, n4⟩⟩
  · obtain ⟨n1, n2, n3, n4⟩ := h.some h0
    obtain ⟨j, x, S2, hx, hc, hp, hl, hN⟩ := nearT_tick ht n1 hb
    have hxm := List.mem_of_getElem? hx
    obtain ⟨i1, i2⟩ := n4 x hxm
    have hpx := n1.ok.pts x hxm
    have hran : s.ran = (S2, x.id, 0) := hc
    have hrun : s.run = ({ s with q := S2, sv := updI s.sv x.id (s.sv x.id + 1), n := s.n + 1, age := s.age + 1 }, x.id, 0) := by
      unfold CoreS.run; rw [hran]; rfl
    rw [hrun] at hok
    refine ⟨_, _, _, hrun, by rw [hran]; simp only; omega, hok, by simp only; omega, fun _ => ⟨hN, n2, ?_, ?_⟩, fun hi => by omega⟩
    · simp only
      have := sumTo_upd s.sv x.id (s.sv x.id + 1) m i1 i2
      unfold updI
      rw [this, n3]; omega
    · simp only
      rw [hl]
      intro y hy
      rcases mem_set hx hy with rfl | hy
      · rw [(chargeP_is x).1]; exact n4 x hxm
      · exact n4 y hy
end Go.Proofs.YtfijedmdfkelnaaGreat
