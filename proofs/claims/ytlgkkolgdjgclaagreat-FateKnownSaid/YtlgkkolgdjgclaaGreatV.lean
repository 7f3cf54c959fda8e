/- Package policy: what is held; the tag; a run. -/
import Derived.Test.YtlgkkolgdjgclaaGreatU
import Derived.Test.YtlgkkolgdjgclaaGreatfair
import Derived.Test.YtlgkkolgdjgclaaGreatdue
namespace Go.Proofs.YtlgkkolgdjgclaaGreat
open Go.RowKit
set_option linter.unusedVariables false
set_option linter.unusedSimpArgs false

def heldT (tag : Int) : Int → Int := if tag = 0 then heldstride else if tag = 1 then heldfair else helddue

set_option maxHeartbeats 400000 in
theorem PolTag {w : World} {F : Nat → Prop} {p : Nat} {tag : Int} {S : Ln} (h : Pm w F p tag S) : Calls Tryz.prog 38 #[.pointer (some ⟨p, 0, none⟩)] w fun e w' => e = .returned (.int .i64 tag) ∧ w = w' := by
  obtain ⟨b, G, hp, _⟩ := h
  obtain ⟨c0, c1, f0, f1, hlt⟩ := blk2 hp
  clear hp
  go_enter Tryz.func38, Tryz.ntmps38
  go_wp2
  go_ret
  exact ⟨rfl, rfl⟩
set_option maxHeartbeats 400000 in
theorem PolGood (tag : Int) (w : World) {r : Bool} (hr : decide (0 ≤ tag ∧ tag ≤ 2) = r) : Calls Tryz.prog 97 #[.int .i64 tag] w fun e w' => e = .returned (.bool r) ∧ w = w' := by
  have Hr := Lib.hid hr
  clear hr
  go_enter Tryz.func97, Tryz.ntmps97
  go_wp2
  all_goals go_ret
  all_goals (refine ⟨ret_bool ?_, rfl⟩; rw [← Hr.out]; simp; omega)
/-- A policy's name. -/
def nameT (tag : Int) : ByteArray := if tag = 0 then ⟨#[115, 116, 114, 105, 100, 101]⟩ else if tag = 1 then ⟨#[102, 97, 105, 114]⟩ else if tag = 2 then ⟨#[100, 117, 101]⟩ else ⟨#[63]⟩
theorem m_pick_0 (b : Nat) (w : World) : (method 396 163 (.pointer (some ⟨b, 0, none⟩)) "Pick").run Tryz.prog w = .ok (180, .pointer (some ⟨b, 0, none⟩)) w := by kernel_rfl
theorem m_charge_0 (b : Nat) (w : World) : (method 396 163 (.pointer (some ⟨b, 0, none⟩)) "Charge").run Tryz.prog w = .ok (176, .pointer (some ⟨b, 0, none⟩)) w := by kernel_rfl
set_option maxHeartbeats 800000 in
theorem PolRun_0 {w : World} {F : Nat → Prop} {p : Nat} {S : Ln} {K : Int} (h : Pm w F p 0 S) (hk : OkS K S) {S1 S2 : Ln} {v1 v2 e2 : Int} {r1 : Bool} (h1 : pickstride S = (S1, v1, r1)) (h2 : chargeR S1 = (S2, v2, e2)) :
    Calls Tryz.prog 64 #[.pointer (some ⟨p, 0, none⟩)] w fun e w' => e = .returned (.tuple #[.int .i64 v2, .int .i64 e2]) ∧ PQPost w F p 0 S2 w' := by
  obtain ⟨b, G, hp, hq, hG, rfl⟩ := h
  obtain ⟨c0, c1, f0, f1, hlt⟩ := blk2 hp
  have hk1 : OkS K S1 := by
    have := hk.take (least S.l) (fun x hx => least_mem hx)
    unfold pickstride at h1; rw [h1] at this; exact this
  have Hq := Lib.hid hq
  have HP := Lib.hid hp
  have HK := Lib.hid hk
  have HK1 := Lib.hid hk1
  have HH1 := Lib.hid h1
  have HH2 := Lib.hid h2
  have HG := Lib.hid hG
  have e1 : polT 0 = 163 := rfl
  have E1 := Lib.hid e1
  rw [e1] at c0
  have m1 := m_pick_0 b
  have m2 := m_charge_0 b
  clear hp hq hk hk1 h1 h2 hG e1
  go_enter Tryz.func64, Tryz.ntmps64
  go_wp2_with (first
    | (go_at_call 180; refine (Pick_stride Hq.out HK.out HH1.out).mono ?_; rintro e w1 ⟨rfl, hq1⟩
       obtain ⟨-, hp1, G1, hq1, hG1, hs1, hf1⟩ := pol_post HP.out HG.out hq1
       obtain ⟨c0, c1, f0, f1, hlt⟩ := blk2 hp1
       rw [E1.out] at c0
       have HP1 := Lib.hid hp1
       have Hq1 := Lib.hid hq1
       have HG1 := Lib.hid hG1
       have Hs1 := Lib.hid hs1
       have Hf1 := Lib.hid hf1
       clear hp1 hq1 hG1 hs1 hf1)
    | (go_at_call 176; refine (Charge_stride Hq1.out HK1.out HH2.out).mono ?_; rintro e w2 ⟨rfl, hq2⟩))
  go_ret2
  refine ⟨rfl, ?_⟩
  obtain ⟨hpp, -⟩ := pol_post HP1.out HG1.out hq2
  refine PQPost.trans (F1 := fun k => k = p ∨ G1 k) ?_ (Hf1.out.mono fun i _ h => .inr h) hpp
  rintro k (rfl | hk)
  · exact .inl (.inl rfl)
  · rcases Hs1.out k hk with h2 | h2
    · exact .inl (.inr h2)
    · exact .inr h2
end Go.Proofs.YtlgkkolgdjgclaaGreat
