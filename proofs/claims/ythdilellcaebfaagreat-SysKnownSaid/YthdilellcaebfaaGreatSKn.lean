/- Law 23: the examples (plain). -/
import Derived.Test.YthdilellcaebfaaGreatSHp
namespace Go.Proofs.YthdilellcaebfaaGreat
open Go.RowKit Go.Shelf
set_option linter.unusedVariables false
set_option linter.unusedSimpArgs false

theorem SysOk.bind {T : Nat} {s : SysS} (h : SysOk T s) (hT : T ≤ 9000000) (id m : Int) (hm : 0 ≤ m ∧ m < 65536) : SysOk (T + 4) (s.bind id m).1 := by
  unfold SysS.bind
  cases hf : s.find id with
  | none => exact h.mono (by omega)
  | some t =>
    obtain ⟨k0, hid, -⟩ := h.tk hf
    subst hid
    simp only
    split
    · rename_i hg
      have h1 := h.bind0 hf hm hg
      split
      · rename_i hon
        have hf1 : (s.setT { t with mask := m }).find t.id = some { t with mask := m } := by rw [SysS.find_setT (t' := { t with mask := m }) hf rfl, if_pos rfl]
        obtain ⟨l0, l1, -⟩ := h.least hm hg
        exact h1.putT hT (t := { t with mask := m }) hf1 hon.1 ⟨l0, l1⟩
      · exact h1.mono (by omega)
    · exact h.mono (by omega)
theorem sorted_ids {l : List Int} (h : l.Pairwise (fun a b => a ≤ b)) : l.mergeSort (fun a b => decide (a ≤ b)) = l :=
  List.mergeSort_of_pairwise (h.imp fun h => decide_eq_true h)
theorem run_lit {s s2 s3 : SysS} {c v : Int} {t : Tk} {l : List Int} {d : CoreS} (hc : 0 ≤ c ∧ c < s.cores.length) (hr : (s.core c).run = (d, v, 0)) (hf : s.find v = some t) (hu : (s.setC c.toNat d).useG (pathG s.ups t.grp) = s2) (hm : s2.all.map Tk.id = l) (hl : l.Pairwise (fun a b => a ≤ b)) (hh : s2.holdL l = s3) : s.run c = (s3, v, 0) := by
  unfold SysS.run
  rw [if_pos hc]
  simp only [hr, hf, hu]
  have : s2.ids = l := by unfold SysS.ids; rw [hm]; exact sorted_ids hl
  rw [this, hh]
theorem tick_lit {s s2 s3 : SysS} {n : Int} {l : List Int} (hn : ¬ n < 0) (hu : s.tickG n = s2) (hm : s2.all.map Tk.id = l) (hl : l.Pairwise (fun a b => a ≤ b)) (hh : s2.tickL l = s3) : s.tick n = (s3, 0) := by
  unfold SysS.tick
  rw [if_neg hn, hu]
  have : s2.ids = l := by unfold SysS.ids; rw [hm]; exact sorted_ids hl
  rw [this, hh]
def zs : List Slo := List.replicate 62 ⟨0, none⟩
def A0 : Int → Int := fun _ => 0
def A1 : Int → Int := updI A0 0 1
def A2 : Int → Int := updI A1 1 1
def kn0 : SysS := ⟨[⟨0, ⟨0, -1, []⟩, A0, 0, 0, 0⟩, ⟨1, ⟨0, -1, []⟩, A0, 0, 0, 0⟩], [(-1, ⟨0, 0, 0, 0⟩)], ⟨0, none⟩ :: ⟨0, none⟩ :: zs⟩
def kn1 : SysS := ⟨[⟨0, ⟨0, -1, []⟩, A0, 0, 0, 0⟩, ⟨1, ⟨0, -1, []⟩, A0, 0, 0, 0⟩], [(-1, ⟨0, 0, 0, 0⟩), (0, ⟨1, 10, 1, 0⟩)], ⟨0, none⟩ :: ⟨0, none⟩ :: zs⟩
def kn2 : SysS := ⟨[⟨0, ⟨0, -1, []⟩, A0, 0, 0, 0⟩, ⟨1, ⟨0, -1, []⟩, A0, 0, 0, 0⟩], [(-1, ⟨0, 0, 0, 0⟩), (0, ⟨1, 10, 1, 0⟩)], ⟨1, some ⟨0, 2, 1, -1, 1, 3, 0⟩⟩ :: ⟨0, none⟩ :: zs⟩
def kn3 : SysS := ⟨[⟨0, ⟨0, -1, []⟩, A0, 0, 0, 0⟩, ⟨1, ⟨0, -1, []⟩, A0, 0, 0, 0⟩], [(-1, ⟨0, 0, 0, 0⟩), (0, ⟨1, 10, 1, 0⟩)], ⟨1, some ⟨0, 2, 1, -1, 1, 3, 0⟩⟩ :: ⟨1, some ⟨1, 3, 0, -1, 1, 1, 0⟩⟩ :: zs⟩
def kn4 : SysS := ⟨[⟨0, ⟨0, -1, [⟨0, 2, 0, 465585120⟩]⟩, A0, 0, 0, 1⟩, ⟨1, ⟨0, -1, []⟩, A0, 0, 0, 0⟩], [(-1, ⟨0, 0, 0, 0⟩), (0, ⟨1, 10, 1, 0⟩)], ⟨1, some ⟨0, 2, 1, 0, 2, 3, 0⟩⟩ :: ⟨1, some ⟨1, 3, 0, -1, 1, 1, 0⟩⟩ :: zs⟩
def kn5 : SysS := ⟨[⟨0, ⟨0, -1, [⟨0, 2, 0, 465585120⟩, ⟨1, 3, 0, 310390080⟩]⟩, A0, 0, 0, 2⟩, ⟨1, ⟨0, -1, []⟩, A0, 0, 0, 0⟩], [(-1, ⟨0, 0, 0, 0⟩), (0, ⟨1, 10, 1, 0⟩)], ⟨1, some ⟨0, 2, 1, 0, 2, 3, 0⟩⟩ :: ⟨1, some ⟨1, 3, 0, 0, 2, 1, 0⟩⟩ :: zs⟩
def kn6 : SysS := ⟨[⟨0, ⟨0, -1, [⟨1, 3, 0, 310390080⟩]⟩, A1, 1, 0, 4⟩, ⟨1, ⟨0, -1, []⟩, A0, 0, 0, 0⟩], [(-1, ⟨0, 0, 0, 0⟩), (0, ⟨1, 10, 0, 0⟩)], ⟨1, some ⟨0, 2, 1, 0, 5, 3, -116396280⟩⟩ :: ⟨1, some ⟨1, 3, 0, 0, 2, 1, 0⟩⟩ :: zs⟩
def kn7 : SysS := ⟨[⟨0, ⟨77597520, 1, [⟨1, 3, 77597520, 310390080⟩]⟩, A2, 2, 0, 5⟩, ⟨1, ⟨0, -1, []⟩, A0, 0, 0, 0⟩], [(-1, ⟨0, 0, 0, 0⟩), (0, ⟨1, 10, 0, 0⟩)], ⟨1, some ⟨0, 2, 1, 0, 5, 3, -116396280⟩⟩ :: ⟨1, some ⟨1, 3, 0, 0, 2, 1, 0⟩⟩ :: zs⟩
def kn8 : SysS := ⟨[⟨0, ⟨77597520, 1, [⟨1, 3, 77597520, 310390080⟩]⟩, A2, 2, 0, 5⟩, ⟨1, ⟨0, -1, []⟩, A0, 0, 0, 0⟩], [(-1, ⟨0, 0, 0, 0⟩), (0, ⟨1, 10, 0, 0⟩)], ⟨1, some ⟨0, 2, 1, 1, 5, 3, -116396280⟩⟩ :: ⟨1, some ⟨1, 3, 0, 0, 2, 1, 0⟩⟩ :: zs⟩
def kn9 : SysS := ⟨[⟨0, ⟨77597520, 1, [⟨1, 3, 77597520, 310390080⟩]⟩, A2, 2, 0, 5⟩, ⟨1, ⟨116396280, -1, [⟨0, 2, 116396280, 581981400⟩]⟩, A0, 0, 0, 1⟩], [(-1, ⟨0, 0, 0, 0⟩), (0, ⟨1, 10, 1, 0⟩)], ⟨1, some ⟨0, 2, 1, 1, 2, 3, -116396280⟩⟩ :: ⟨1, some ⟨1, 3, 0, 0, 2, 1, 0⟩⟩ :: zs⟩
def kn10 : SysS := ⟨[⟨0, ⟨77597520, 1, [⟨1, 3, 77597520, 310390080⟩]⟩, A2, 2, 0, 5⟩, ⟨1, ⟨232792560, -1, []⟩, A1, 1, 0, 3⟩], [(-1, ⟨0, 0, 0, 0⟩), (0, ⟨1, 10, 0, 0⟩)], ⟨1, some ⟨0, 2, 1, 1, 5, 3, 0⟩⟩ :: ⟨1, some ⟨1, 3, 0, 0, 2, 1, 0⟩⟩ :: zs⟩
def kn11 : SysS := ⟨[⟨0, ⟨77597520, 1, [⟨1, 3, 77597520, 310390080⟩]⟩, A2, 2, 0, 5⟩, ⟨1, ⟨232792560, -1, []⟩, A1, 1, 0, 3⟩], [(-1, ⟨0, 0, 0, 0⟩), (0, ⟨1, 10, 0, 0⟩)], ⟨1, some ⟨0, 2, 1, 1, 4, 3, 0⟩⟩ :: ⟨1, some ⟨1, 3, 0, 0, 2, 1, 0⟩⟩ :: zs⟩
def kn12 : SysS := ⟨[⟨0, ⟨77597520, 1, [⟨1, 3, 77597520, 310390080⟩]⟩, A2, 2, 0, 5⟩, ⟨1, ⟨232792560, -1, []⟩, A1, 1, 1, 4⟩], [(-1, ⟨0, 0, 0, 0⟩), (0, ⟨1, 10, 0, 0⟩)], ⟨1, some ⟨0, 2, 1, 1, 4, 3, 0⟩⟩ :: ⟨1, some ⟨1, 3, 0, 0, 2, 1, 0⟩⟩ :: zs⟩
def kn13 : SysS := ⟨[⟨0, ⟨77597520, -1, []⟩, A2, 2, 0, 6⟩, ⟨1, ⟨232792560, -1, []⟩, A1, 1, 1, 4⟩], [(-1, ⟨0, 0, 0, 0⟩), (0, ⟨1, 10, 0, 0⟩)], ⟨1, some ⟨0, 2, 1, 1, 4, 3, 0⟩⟩ :: ⟨1, none⟩ :: zs⟩
def kn14 : SysS := ⟨[⟨0, ⟨77597520, -1, []⟩, A2, 2, 0, 6⟩, ⟨1, ⟨232792560, -1, []⟩, A1, 1, 1, 4⟩], [(-1, ⟨0, 0, 0, 0⟩), (0, ⟨1, 10, 0, 0⟩)], ⟨1, some ⟨0, 2, 1, 1, 4, 1, 0⟩⟩ :: ⟨1, none⟩ :: zs⟩
def kn15 : SysS := ⟨[⟨0, ⟨77597520, -1, []⟩, A2, 2, 0, 6⟩, ⟨1, ⟨232792560, -1, []⟩, A1, 1, 1, 4⟩], [(-1, ⟨0, 0, 0, 0⟩), (0, ⟨1, 10, 0, 0⟩)], ⟨1, some ⟨0, 2, 1, 1, 4, 1, 0⟩⟩ :: ⟨2, some ⟨65, 1, 0, -1, 1, 1, 0⟩⟩ :: zs⟩
def kn5u : SysS := ⟨[⟨0, ⟨0, 0, [⟨0, 2, 116396280, 465585120⟩, ⟨1, 3, 0, 310390080⟩]⟩, A1, 1, 0, 3⟩, ⟨1, ⟨0, -1, []⟩, A0, 0, 0, 0⟩], [(-1, ⟨0, 0, 0, 0⟩), (0, ⟨1, 10, 0, 0⟩)], ⟨1, some ⟨0, 2, 1, 0, 2, 3, 0⟩⟩ :: ⟨1, some ⟨1, 3, 0, 0, 2, 1, 0⟩⟩ :: zs⟩
def kn9u : SysS := ⟨[⟨0, ⟨77597520, 1, [⟨1, 3, 77597520, 310390080⟩]⟩, A2, 2, 0, 5⟩, ⟨1, ⟨232792560, 0, [⟨0, 2, 232792560, 581981400⟩]⟩, A1, 1, 0, 2⟩], [(-1, ⟨0, 0, 0, 0⟩), (0, ⟨1, 10, 0, 0⟩)], ⟨1, some ⟨0, 2, 1, 1, 2, 3, -116396280⟩⟩ :: ⟨1, some ⟨1, 3, 0, 0, 2, 1, 0⟩⟩ :: zs⟩
def kn8u : SysS := ⟨[⟨0, ⟨77597520, 1, [⟨1, 3, 77597520, 310390080⟩]⟩, A2, 2, 0, 5⟩, ⟨1, ⟨0, -1, []⟩, A0, 0, 0, 0⟩], [(-1, ⟨0, 0, 0, 0⟩), (0, ⟨1, 10, 1, 0⟩)], ⟨1, some ⟨0, 2, 1, 1, 5, 3, -116396280⟩⟩ :: ⟨1, some ⟨1, 3, 0, 0, 2, 1, 0⟩⟩ :: zs⟩
theorem st0 : SysS.new [0, 1] = kn0 := by kernel_rfl
theorem st1 : kn0.group 0 1 10 = (kn1, 1, 0) := by kernel_rfl
theorem st1b : kn1.group 9 0 0 = (kn1, 0, 2) := by kernel_rfl
theorem st1c : kn1.group 0 0 5 = (kn1, 0, 1) := by kernel_rfl
theorem st2 : kn1.spawn 2 3 1 = (kn2, 0, 0) := by kernel_rfl
theorem st2b : kn2.spawn 0 1 0 = (kn2, 0, 1) := by kernel_rfl
theorem st2c : kn2.spawn 1 4 0 = (kn2, 0, 5) := by kernel_rfl
theorem st2d : kn2.spawn 1 1 7 = (kn2, 0, 2) := by kernel_rfl
theorem st3 : kn2.spawn 3 1 0 = (kn3, 1, 0) := by kernel_rfl
theorem st3b : kn3.wake 0 = (kn3, 4) := by kernel_rfl
theorem st4 : kn3.start 0 = (kn4, 0) := by kernel_rfl
theorem st5 : kn4.start 1 = (kn5, 0) := by kernel_rfl
theorem st6 : kn5.run 0 = (kn6, 0, 0) := run_lit (d := (kn5.core 0).run.1) (t := ⟨0, 2, 1, 0, 2, 3, 0⟩) (s2 := kn5u) (l := [0, 1]) (by decide) (by kernel_rfl) (by kernel_rfl) (by kernel_rfl) (by kernel_rfl) (by decide) (by kernel_rfl)
theorem st7 : kn6.run 0 = (kn7, 1, 0) := run_lit (d := (kn6.core 0).run.1) (t := ⟨1, 3, 0, 0, 2, 1, 0⟩) (s2 := kn7) (l := [0, 1]) (by decide) (by kernel_rfl) (by kernel_rfl) (by kernel_rfl) (by kernel_rfl) (by decide) (by kernel_rfl)
theorem st8 : kn7.move 0 1 = (kn8, 0) := by kernel_rfl
theorem st8b : kn8.move 1 1 = (kn8, 5) := by kernel_rfl
theorem st9 : kn8.tick 10 = (kn9, 0) := tick_lit (s2 := kn8u) (l := [0, 1]) (by decide) (by kernel_rfl) (by kernel_rfl) (by decide) (by kernel_rfl)
theorem st10 : kn9.run 1 = (kn10, 0, 0) := run_lit (d := (kn9.core 1).run.1) (t := ⟨0, 2, 1, 1, 2, 3, -116396280⟩) (s2 := kn9u) (l := [0, 1]) (by decide) (by kernel_rfl) (by kernel_rfl) (by kernel_rfl) (by kernel_rfl) (by decide) (by kernel_rfl)
theorem st11 : kn10.sleep 0 = (kn11, 0) := by kernel_rfl
theorem st12 : kn11.run 1 = (kn12, -1, 0) := by kernel_rfl
theorem st12b : kn12.run 2 = (kn12, 0, 2) := by kernel_rfl
theorem st13 : kn12.endT 1 = (kn13, 0) := by kernel_rfl
theorem st13b : kn13.endT 1 = (kn13, 2) := by kernel_rfl
theorem st13c : kn13.start 0 = (kn13, 4) := by kernel_rfl
theorem st14 : kn13.bind 0 1 = (kn14, 0) := by kernel_rfl
theorem st15 : kn14.spawn 1 1 0 = (kn15, 65, 0) := by kernel_rfl
theorem sv15 : kn15.served 0 = 2 := by kernel_rfl
theorem ok0 : SysOk 0 kn0 := by rw [← st0]; exact SysOk.new ⟨by decide, by decide, fun t ht => by simp at ht; rcases ht with rfl | rfl; exact .inl rfl; exact .inr (.inl rfl)⟩
theorem ok1 : SysOk 0 kn1 := by have := ok0.group 0 1 10; rw [st1] at this; exact this
theorem ok2 : SysOk 1 kn2 := by have := ok1.spawn 2 3 1 (by decide); rw [st2] at this; exact this
theorem ok3 : SysOk 2 kn3 := by have := ok2.spawn 3 1 0 (by decide); rw [st3] at this; exact this
theorem ok4 : SysOk 4 kn4 := by have := ok3.start (by decide) 0; rw [st4] at this; exact this
theorem ok5 : SysOk 6 kn5 := by have := ok4.start (by decide) 1; rw [st5] at this; exact this
theorem ok6 : SysOk 136 kn6 := by have := ok5.run (by decide) 0; rw [st6] at this; exact this
theorem ok7 : SysOk 266 kn7 := by have := ok6.run (by decide) 0; rw [st7] at this; exact this
theorem ok8 : SysOk 270 kn8 := by have := ok7.move (by decide) 0 1; rw [st8] at this; exact this
theorem ok9 : SysOk 398 kn9 := by have := ok8.tick (by decide) 10; rw [st9] at this; exact this
theorem ok10 : SysOk 528 kn10 := by have := ok9.run (by decide) 1; rw [st10] at this; exact this
theorem ok11 : SysOk 530 kn11 := by have := ok10.sleep (by decide) 0; rw [st11] at this; exact this
theorem ok12 : SysOk 660 kn12 := by have := ok11.run (by decide) 1; rw [st12] at this; exact this
theorem ok13 : SysOk 662 kn13 := by have := ok12.endT (by decide) 1; rw [st13] at this; exact this
theorem ok14 : SysOk 666 kn14 := by have := ok13.bind (by decide) 0 1 (by decide); rw [st14] at this; exact this
theorem ok15 : SysOk 667 kn15 := by have := ok14.spawn 1 1 0 (by decide); rw [st15] at this; exact this
theorem fd5 : kn5.find 1 = some ⟨1, 3, 0, 0, 2, 1, 0⟩ := by kernel_rfl
theorem fd6 : kn6.find 0 = some ⟨0, 2, 1, 0, 5, 3, -116396280⟩ := by kernel_rfl
theorem fd8 : kn8.find 0 = some ⟨0, 2, 1, 1, 5, 3, -116396280⟩ := by kernel_rfl
theorem fd9 : kn9.find 0 = some ⟨0, 2, 1, 1, 2, 3, -116396280⟩ := by kernel_rfl
theorem fd14 : kn14.find 0 = some ⟨0, 2, 1, 1, 4, 1, 0⟩ := by kernel_rfl
theorem vw5 : kn5.view ⟨1, 3, 0, 0, 2, 1, 0⟩ = ⟨1, 3, 0, 0, 2, 1, 0⟩ := by kernel_rfl
theorem vw6 : kn6.view ⟨0, 2, 1, 0, 5, 3, -116396280⟩ = ⟨0, 2, 1, 0, 5, 3, -116396280⟩ := by kernel_rfl
theorem vw8 : kn8.view ⟨0, 2, 1, 1, 5, 3, -116396280⟩ = ⟨0, 2, 1, 1, 5, 3, -116396280⟩ := by kernel_rfl
theorem vw9 : kn9.view ⟨0, 2, 1, 1, 2, 3, -116396280⟩ = ⟨0, 2, 1, 1, 2, 3, 0⟩ := by kernel_rfl
theorem vw14 : kn14.view ⟨0, 2, 1, 1, 4, 1, 0⟩ = ⟨0, 2, 1, 1, 4, 1, 0⟩ := by kernel_rfl
end Go.Proofs.YthdilellcaebfaaGreat
