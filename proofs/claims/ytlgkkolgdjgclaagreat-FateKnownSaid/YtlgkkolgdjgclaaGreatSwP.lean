/- What all calls on tries keep; Abort, Step of any try. -/
import Derived.Test.YtlgkkolgdjgclaaGreatFt
namespace Go.Proofs.YtlgkkolgdjgclaaGreat
open Go.RowKit Go.Shelf Go.Maps
set_option linter.unusedVariables false
set_option linter.unusedSimpArgs false

def SwS.abortT (z : SwS) (s : SysS) (c : Int) : SwS × Int :=
  if 0 ≤ c ∧ c < s.cores.length then
    (if z.lst c < 0 then (z, 14) else match z.all[(z.lst c).toNat]? with
      | some p => if p.2.stage < 5 then (z.set (z.lst c).toNat p.2.abort.1, 0) else (z, 14)
      | none => (z, 14))
  else (z, 2)
section
variable {s : SysS} {z : SwS} {T : Nat} {c tag : Int} {l : List Bl}
theorem tryOk_new (ht : TagOk tag) {base : Int} (hb : 0 ≤ base ∧ base ≤ 1000000000) : TryOk (TryS.new tag base) :=
  ⟨ht, hb, by simp [TryS.new], by simp [TryS.new], by simp [TryS.new], by simp [TryS.new]⟩
theorem opn_false (h : ¬ z.opn c = true) : z.opn c = false := by simpa using h
theorem open_keep (h : SwKx s z) (hk : SysOk T s) (hlen : z.all.length ≤ 1000000) (c tag : Int) : SwKx s (z.openT s c tag).1 := by
  unfold SwS.openT
  split
  · rename_i hin
    split
    · exact h
    · rename_i ho
      split
      · rename_i ht
        obtain ⟨d, hd, hde, hdf⟩ := hk.core hin
        obtain ⟨k, rfl⟩ : ∃ k : Nat, c = k := ⟨c.toNat, by omega⟩
        rw [Int.toNat_natCast] at *
        exact h.addT (tryOk_new ht (by omega)) (by omega) (opn_false ho) (fun e he => TryEx.new (by rw [hd] at he; cases he; exact hdf.age.1))
      · exact h
  · exact h
theorem abort_ok {x : TryS} (h : TryOk x) : TryOk x.abort.1 := by
  unfold TryS.abort
  split
  · exact h
  · exact ⟨h.tag, h.base, by simp, h.len, h.byt, by simp⟩
theorem abort_keep (h : SwKx s z) (c : Int) : SwKx s (z.abortT s c).1 := by
  unfold SwS.abortT
  split
  · rename_i hin
    split
    · exact h
    · rename_i hl
      obtain ⟨x, hx, -, -⟩ := h.ok.idx hl
      rw [hx]
      simp only
      split
      · rename_i h5
        obtain ⟨d, hd⟩ : ∃ d, s.cores[c.toNat]? = some d := ⟨_, List.getElem?_eq_getElem (by omega)⟩
        have h1 := h.put (d' := d) hx h5 (abort_ok (h.ok.tok _ _ _ hx).1) (fun hlt => by
          unfold TryS.abort at hlt
          rw [if_neg (by omega)] at hlt
          simp at hlt)
        rw [setC_self hd] at h1
        exact h1
      · exact h
  · exact h
theorem step_keep (h : SwKx s z) (hk : SysOk T s) (h1 : 1 ≤ T) (hT : T ≤ 10000000) (c : Int) : SwKx (z.step s c).2.1 (z.step s c).1 ∧ SysOk T (z.step s c).2.1 := by
  unfold SwS.step
  split
  · rename_i hin
    split
    · exact ⟨h, hk⟩
    · rename_i hl
      obtain ⟨x, hx, -, -⟩ := h.ok.idx hl
      rw [hx]
      simp only
      obtain ⟨d, hd, hde, hdf⟩ := hk.core hin
      rw [hde]
      obtain ⟨hok, -⟩ := h.ok.tok _ _ _ hx
      by_cases h5 : x.stage < 5
      · have hex := h.ex _ _ _ _ hx hd h5
        refine ⟨h.put hx h5 (hok.step (good_core hdf hT)) (fun _ => hex.step hok), ?_⟩
        rcases x.step_core d with e | ⟨e4, -, ha, hf, e⟩ | e
        · rw [e, setC_self hd]; exact hk
        · rw [e]
          have hS := hex.sed (by omega) (by omega)
          rw [hf] at hS
          rw [hS]
          exact hk.change hd hok.tag (seed_near hdf.q h1 hok.base) (form_seed _ _)
        · exact absurd hok.st.1 e
      · have e : x.step d = (x, d) := by unfold TryS.step; rw [if_pos (by omega)]
        rw [e, setC_self hd, set_self hx]
        exact ⟨h, hk⟩
  · exact ⟨h, hk⟩
theorem attT_keep (h : SwKx s z) (hk : SysOk T s) (h1 : 1 ≤ T) (hT : T ≤ 10000000) (hlen : z.all.length ≤ 1000000) (c tag : Int) (hl : ∀ b ∈ l, Byte b.y) : SwKx (z.attT s c tag l).2.1 (z.attT s c tag l).1 ∧ SysOk T (z.attT s c tag l).2.1 := by
  by_cases hin : 0 ≤ c ∧ c < s.cores.length
  · by_cases ho : z.opn c = true
    · have e : z.attT s c tag l = (z, s, false, 15) := by
        have eo : z.openT s c tag = (z, 15) := by unfold SwS.openT; rw [if_pos hin, if_pos ho]
        unfold SwS.attT; rw [eo]; exact if_neg (by simp)
      rw [e]; exact ⟨h, hk⟩
    · by_cases ht : TagOk tag
      · rw [attT_is hin (opn_false ho) ht]
        obtain ⟨d, hd, hde, hdf⟩ := hk.core hin
        have hb : 0 ≤ 1000 * (z.all.length : Int) ∧ 1000 * (z.all.length : Int) ≤ 1000000000 := by omega
        have hs := att_sys (l := l) hk h1 hT hin ht hb hl
        refine ⟨?_, hs⟩
        rw [hde]
        obtain ⟨r1, r2⟩ := rounds_done (l := l) (d := d) ht hb hdf.age.1 hl (good_core hdf hT)
        obtain ⟨k, rfl⟩ : ∃ k : Nat, c = k := ⟨c.toNat, by omega⟩
        rw [Int.toNat_natCast] at *
        have hx := h.addT (c := k) (tryOk_new ht hb) (by omega) (opn_false ho) (fun e he => TryEx.new (by rw [hd] at he; cases he; exact hdf.age.1))
        refine hx.put (i := z.all.length) (x := TryS.new tag (1000 * (z.all.length : Int))) (by show (z.all ++ [_])[_]? = _; rw [List.getElem?_append_right (Nat.le_refl _)]; simp) (by simp [TryS.new]) r1 (fun hlt => ?_)
        rcases r2 with ⟨e, -⟩ | ⟨e, -⟩
        · omega
        · omega
      · have e : z.attT s c tag l = (z, s, false, 1) := by
          have eo : z.openT s c tag = (z, 1) := by unfold SwS.openT; rw [if_pos hin, if_neg ho, if_neg ht]
          unfold SwS.attT; rw [eo]; exact if_neg (by simp)
        rw [e]; exact ⟨h, hk⟩
  · have e : z.attT s c tag l = (z, s, false, 2) := by
      have eo : z.openT s c tag = (z, 2) := by unfold SwS.openT; rw [if_neg hin]
      unfold SwS.attT; rw [eo]; exact if_neg (by simp)
    rw [e]; exact ⟨h, hk⟩
/-- A try that nothing befalls: all at once. -/
theorem allT_att (hk : SysOk T s) (hT : T ≤ 10000000) (c tag : Int) : z.allT s c tag = z.attT s c tag [] := by
  by_cases hin : 0 ≤ c ∧ c < s.cores.length
  · obtain ⟨d, hd, hde, hdf⟩ := hk.core hin
    unfold SwS.allT SwS.attT
    rw [hde, rounds_off (l := []) (good_core hdf hT) (fun b hb => by cases hb) (Nat.le_refl 5) rfl]
    rfl
  · have eo : z.openT s c tag = (z, 2) := by unfold SwS.openT; rw [if_neg hin]
    unfold SwS.allT SwS.attT
    rw [eo, if_neg (by simp), if_neg (by simp)]
/-- Where cores are as they were, or older. -/
theorem SwKx.aged {s' : SysS} (h : SwKx s z) (hl : s'.cores.length = s.cores.length) (hc : ∀ (i : Nat) d', s'.cores[i]? = some d' → ∃ d, s.cores[i]? = some d ∧ (d' = d ∨ d.age < d'.age)) : SwKx s' z := by
  refine ⟨by rw [hl]; exact h.ok, fun i c x d' hx hd h5 => ?_⟩
  obtain ⟨d, hd0, e⟩ := hc c d' hd
  have h1 := h.ex i c x d hx hd0 h5
  rcases e with rfl | e
  · exact h1
  · exact ⟨by have := h1.age; omega, h1.sed, fun _ ha => by have := h1.age; omega⟩
end
section
variable {w0 w w' : World} {ow : Nat → Option Own} {L : Lay} {s s' : SysS} {oz : Nat → Option OwnW} {M : SwL} {z : SwS} {T : Nat}
set_option maxHeartbeats 1600000 in
set_option maxRecDepth 100000 in
theorem SwStepX (h : SwIn w0 w ow L s oz M z) (hk : SysOk T s) (hT : T ≤ 10000000) (hz : SwKx s z) {c : Int} (hc : I63 c) : Calls Tryz.prog 25 #[.pointer (some ⟨M.b, 0, none⟩), .int .i64 c] w fun e w' => e = .returned (.tuple #[.int .i64 (z.step s c).2.2.1, .int .i64 (z.step s c).2.2.2]) ∧ SwTo w0 w ow L oz M (z.step s c).2.1 (z.step s c).1 w' := by
  have HT := Lib.hid (SwTry h hc)
  by_cases hin : 0 ≤ c ∧ c < s.cores.length
  · rw [if_pos hin] at HT
    by_cases hl : z.lst c < 0
    · rw [if_pos hl] at HT
      have e1 : z.step s c = (z, s, 0, 14) := by unfold SwS.step; rw [if_pos hin, if_pos hl]
      rw [e1]
      have HS := Lib.hid (h.same (Below.refl _ _))
      clear h hin hl e1
      go_enter Tryz.func25, Tryz.ntmps25
      go_wp2_with (go_at_call 22; refine HT.out.mono ?_; rintro e w1 ⟨rfl, rfl⟩)
      go_ret2
      exact ⟨rfl, HS.out⟩
    · rw [if_neg hl] at HT
      obtain ⟨x, hx, -, -⟩ := hz.ok.idx hl
      obtain ⟨d, hd, hde, hdf⟩ := hk.core hin
      obtain ⟨hok, -⟩ := hz.ok.tok _ _ _ hx
      obtain ⟨bl, F, p, q, r, hbl, hcst, how, htr, hdis⟩ := h.at hx hd
      have e1 : z.step s c = (z.set (z.lst c).toNat (x.step d).1, s.setC c.toNat (x.step d).2, (x.step d).1.stage, (x.step d).1.why) := by
        unfold SwS.step
        rw [if_pos hin, if_neg hl, hx]
        simp only [hde]
      rw [e1]
      have HS := Lib.hid (StStep_of hcst htr hdis hok (fun hl5 => StNextX hcst htr hdis hok hdf.tag (hdf.q.ok (by omega)) (good_near hdf.q (by omega)) hl5 (hz.ex _ _ _ _ hx hd hl5)))
      have HN := Lib.hid (fun (w' : World) (hn : NextTo w0 w F bl p r (M.tb (z.lst c).toNat) (M.G (z.lst c).toNat) (x.step d).1 (x.step d).1.stage (x.step d).2 w') => h.next hx hd hbl how hn)
      clear h hin hl e1 hx hd hde hdf hok hbl hcst how htr hdis
      go_enter Tryz.func25, Tryz.ntmps25
      go_wp2_with (first
        | (go_at_call 22; refine HT.out.mono ?_; rintro e w1 ⟨rfl, rfl⟩)
        | (go_at_call 36; refine HS.out.mono ?_; rintro e w2 ⟨rfl, hn⟩; have HF := Lib.hid (HN.out _ hn); clear hn))
      go_ret2
      exact ⟨rfl, HF.out⟩
  · rw [if_neg hin] at HT
    have e1 : z.step s c = (z, s, 0, 2) := by unfold SwS.step; rw [if_neg hin]
    rw [e1]
    have HS := Lib.hid (h.same (Below.refl _ _))
    clear h hin e1
    go_enter Tryz.func25, Tryz.ntmps25
    go_wp2_with (go_at_call 22; refine HT.out.mono ?_; rintro e w1 ⟨rfl, rfl⟩)
    go_ret2
    exact ⟨rfl, HS.out⟩
set_option maxHeartbeats 1600000 in
set_option maxRecDepth 100000 in
theorem SwAbort (h : SwIn w0 w ow L s oz M z) (hz : SwOk s.cores.length z) {c : Int} (hc : I63 c) : Calls Tryz.prog 28 #[.pointer (some ⟨M.b, 0, none⟩), .int .i64 c] w fun e w' => e = .returned (.int .i64 (z.abortT s c).2) ∧ SwTo w0 w ow L oz M s (z.abortT s c).1 w' := by
  have HT := Lib.hid (SwTry h hc)
  have HSm := Lib.hid (h.same (Below.refl _ _))
  by_cases hin : 0 ≤ c ∧ c < s.cores.length
  · rw [if_pos hin] at HT
    by_cases hl : z.lst c < 0
    · rw [if_pos hl] at HT
      have e1 : z.abortT s c = (z, 14) := by unfold SwS.abortT; rw [if_pos hin, if_pos hl]
      rw [e1]
      clear h hin hl e1
      go_enter Tryz.func28, Tryz.ntmps28
      go_wp2_with (go_at_call 22; refine HT.out.mono ?_; rintro e w1 ⟨rfl, rfl⟩)
      go_ret
      exact ⟨rfl, HSm.out⟩
    · rw [if_neg hl] at HT
      obtain ⟨x, hx, -, -⟩ := hz.idx hl
      obtain ⟨d, hd⟩ : ∃ d, s.cores[c.toNat]? = some d := ⟨_, List.getElem?_eq_getElem (by omega)⟩
      obtain ⟨bl, F, p, q, r, hbl, hcst, how, htr, hdis⟩ := h.at hx hd
      have HS := Lib.hid (StAbort hcst htr hdis)
      have hN := fun (w' : World) (hn : NextTo w0 w F bl p r (M.tb (z.lst c).toNat) (M.G (z.lst c).toNat) x.abort.1 x.abort.1.stage d w') => h.next hx hd hbl how hn
      rw [setC_self hd] at hN
      by_cases h5 : x.stage < 5
      · have e1 : z.abortT s c = (z.set (z.lst c).toNat x.abort.1, 0) := by
          unfold SwS.abortT
          rw [if_pos hin, if_neg hl, hx]
          simp only [if_pos h5]
        rw [e1]
        have e2 : x.abort.2 = true := by unfold TryS.abort; rw [if_neg (by omega)]
        rw [e2] at HS
        have HN := Lib.hid hN
        clear h hin hl e1 hx hd hbl hcst how htr hdis hN
        go_enter Tryz.func28, Tryz.ntmps28
        go_wp2_with (first
          | (go_at_call 22; refine HT.out.mono ?_; rintro e w1 ⟨rfl, rfl⟩)
          | (go_at_call 44; refine HS.out.mono ?_; rintro e w2 ⟨rfl, hn⟩; have HF := Lib.hid (HN.out _ hn); clear hn))
        go_ret
        exact ⟨rfl, HF.out⟩
      · have e1 : z.abortT s c = (z, 14) := by
          unfold SwS.abortT
          rw [if_pos hin, if_neg hl, hx]
          simp only [if_neg h5]
        rw [e1]
        have e2 : x.abort = (x, false) := by unfold TryS.abort; rw [if_pos (by omega)]
        rw [e2] at HS hN
        simp only [set_self hx] at HS hN
        have HN := Lib.hid hN
        clear h hin hl e1 hx hd hbl hcst how htr hdis hN e2
        go_enter Tryz.func28, Tryz.ntmps28
        go_wp2_with (first
          | (go_at_call 22; refine HT.out.mono ?_; rintro e w1 ⟨rfl, rfl⟩)
          | (go_at_call 44; refine HS.out.mono ?_; rintro e w2 ⟨rfl, hn⟩; have HF := Lib.hid (HN.out _ hn); clear hn))
        go_ret
        exact ⟨rfl, HF.out⟩
  · rw [if_neg hin] at HT
    have e1 : z.abortT s c = (z, 2) := by unfold SwS.abortT; rw [if_neg hin]
    rw [e1]
    clear h hin e1
    go_enter Tryz.func28, Tryz.ntmps28
    go_wp2_with (go_at_call 22; refine HT.out.mono ?_; rintro e w1 ⟨rfl, rfl⟩)
    go_ret
    exact ⟨rfl, HSm.out⟩
end
end Go.Proofs.YtlgkkolgdjgclaaGreat
