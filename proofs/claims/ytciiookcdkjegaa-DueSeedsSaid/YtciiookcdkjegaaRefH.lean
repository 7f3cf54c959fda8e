/- The document's own forms: Good. -/
import Derived.Test.YtciiookcdkjegaaRefH1
import Derived.Test.YtciiookcdkjegaaRefH2
import Derived.Test.YtciiookcdkjegaaRefH3
import Derived.Test.YtciiookcdkjegaaRefH4
import Derived.Test.YtciiookcdkjegaaRefH5
namespace Go.Proofs.Ytciiookcdkjegaa
open Go.RowKit
set_option linter.unusedVariables false
set_option linter.unusedSimpArgs false

theorem rGoodF_any (cur : Int) (l : List It) (n : Nat) (a : Option Addr) (c : Nat) (w : World) (hn : l.length = n) (hl : n ≤ 4611686018427387904) (hs : Sl It.enc 3 w a l) {v : Bool} (hv : goodF ⟨cur, l⟩ = v) :
    Calls Try.prog 61 #[.agg #[.int .i64 cur, .slice a n c]] w fun e w' => e = .returned (.bool v) ∧ Below w.heap.size w w' := by
  rcases firstBad l with h | ⟨k, y, hy, hok, hbad⟩
  · exact rGood_all cur l n a c w hn hl hs h hv
  · have hvf : v = false := by
      rw [← hv]
      rcases hbad with h | ⟨j, z, rfl, hz, h⟩
      · exact goodF_bad hy h
      · exact goodF_down hz hy h
    subst hvf
    by_cases hr : 0 ≤ y.id ∧ y.id ≤ 1073741824
    · by_cases hd : ∃ j z, k = j + 1 ∧ l[j]? = some z ∧ y.id ≤ z.id
      · obtain ⟨j, z, rfl, hz, hle⟩ := hd
        have hup : ∀ j2 z2, j + 1 = j2 + 1 → l[j2]? = some z2 → y.id ≤ z2.id := by
          intro j2 z2 e hz2
          obtain rfl : j = j2 := by omega
          rw [hz] at hz2
          cases hz2
          exact hle
        exact rGood_bad4 cur l n a c w hn hl hs (j + 1) y hy hok hup ⟨hr.1, hr.2, by omega⟩
      · have hasc : ∀ j z, k = j + 1 → l[j]? = some z → z.id < y.id := fun j z e hz => by
          rcases Int.lt_or_le z.id y.id with h | h
          · exact h
          · exact absurd ⟨j, z, e, hz, h⟩ hd
        have hm : mayB y.id y.w y.lag = false := by
          rcases hbad with h | ⟨j, z, e, hz, h⟩
          · exact h
          · exact absurd (hasc j z e hz) h
        have hn' : ¬ (0 ≤ y.id ∧ y.id ≤ 1073741824 ∧ 1 ≤ y.w ∧ y.w ≤ 20 ∧ -1125899906842624 ≤ y.lag ∧ y.lag ≤ 1125899906842624) := fun h => by
          have : mayB y.id y.w y.lag = true := by unfold mayB; simp only [decide_eq_true_eq]; exact h
          rw [hm] at this; cases this
        cases hg : goodW y.w with
        | false => exact rGood_bad2 cur l n a c w hn hl hs k y hy hok hasc ⟨hr.1, hr.2, hg⟩
        | true =>
          obtain ⟨g1, g2⟩ := goodW_true hg
          exact rGood_bad3 cur l n a c w hn hl hs k y hy hok hasc ⟨hr.1, hr.2, hg, by omega⟩
    · exact rGood_bad1 cur l n a c w hn hl hs k y hy hok (fun _ _ _ _ => trivial) (by omega)
end Go.Proofs.Ytciiookcdkjegaa
