/- The document's own queue in memory; its small functions. -/
import Derived.Test.YtfijedmdfkelnaaGreatO
namespace Go.Proofs.YtfijedmdfkelnaaGreat
open Go.RowKit
set_option linter.unusedVariables false
set_option linter.unusedSimpArgs false

theorem rGood_any (x : Int) (w : World) {r : Bool} (hr : goodW x = r) : Calls Tryz.prog 47 #[.int .i64 x] w fun e w' => e = .returned (.bool r) ∧ w = w' := by
  subst hr
  by_cases g1 : 1 ≤ x
  · by_cases g2 : x ≤ 20
    · have hv : goodW x = true := by unfold goodW; simp; omega
      rw [hv]; clear hv
      go_enter Tryz.func47, Tryz.ntmps47
      go_wp2
      go_ret
      exact ⟨rfl, rfl⟩
    · have hv : goodW x = false := by unfold goodW; simp; omega
      rw [hv]; clear hv
      go_enter Tryz.func47, Tryz.ntmps47
      go_wp2
      go_ret
      exact ⟨rfl, rfl⟩
  · have hv : goodW x = false := by unfold goodW; simp; omega
    rw [hv]; clear hv
    go_enter Tryz.func47, Tryz.ntmps47
    go_wp2
    go_ret
    exact ⟨rfl, rfl⟩
theorem rStep_any (x : Int) (w : World) (h1 : 1 ≤ x) (h2 : x ≤ 20) : Calls Tryz.prog 50 #[.int .i64 x] w fun e w' => e = .returned (.int .i64 (step x)) ∧ w = w' := by
  have e : step x = 232792560 / x := by unfold step; rw [if_pos ⟨h1, h2⟩]
  have hg : goodW x = true := by unfold goodW; simp; omega
  have Hg := Lib.hid hg
  rw [e]
  clear e hg
  go_enter Tryz.func50, Tryz.ntmps50
  go_wp2_with (go_at_call 47; refine (rGood_any _ _ Hg.out).mono ?_; rintro e w' ⟨rfl, rfl⟩)
  go_ret
  exact ⟨by simp, rfl⟩
theorem rday_any (x : Int) (w : World) (h1 : 1 ≤ x) (h2 : x ≤ 20) : Calls Tryz.prog 46 #[.int .i64 x] w fun e w' => e = .returned (.int .i64 (4 * step x)) ∧ w = w' := by
  have hs := step_le x
  go_enter Tryz.func46, Tryz.ntmps46
  go_wp2_with (go_at_call 50; refine (rStep_any _ _ h1 h2).mono ?_; rintro e w' ⟨rfl, rfl⟩)
  go_ret
  exact ⟨rfl, rfl⟩
/-- What one that comes in is owed. -/
def rheld (tag lag : Int) : Int := if tag = 0 then min lag 0 else if tag = 2 then max (-698377680) (min lag 698377680) else min lag 698377680
theorem rHeld_any (tag lag : Int) (w : World) (ht : tag = 0 ∨ tag = 1 ∨ tag = 2) (h1 : -9223372036854775808 ≤ lag) : Calls Tryz.prog 21 #[.int .i64 tag, .int .i64 lag] w fun e w' => e = .returned (.int .i64 (rheld tag lag)) ∧ w = w' := by
  rcases ht with rfl | rfl | rfl
  all_goals
    go_enter Tryz.func21, Tryz.ntmps21
    go_wp2
    all_goals go_ret
    all_goals (refine ⟨ret_int ?_, rfl⟩; unfold rheld; simp only [if_true, if_false, reduceCtorEq, Int.reduceEq]; omega)

/-- Block b is a queue of the document's own. -/
structure RAt (w : World) (b : Nat) (a : Option Addr) (c : Nat) (tag : Int) (S : Ln) : Prop where
  blk : w.heap[b]? = some (.cells #[.int .i64 tag, .int .i64 S.base, .int .i64 S.cur, .slice a S.l.length c] 55 (0, 0))
  row : w.ownsRow 0 82 4 (.slice a S.l.length c) S.l.length (flat Pt.enc S.l)
  apart : ∀ p, a = some p → p.block ≠ b
section
variable {w w' : World} {b c : Nat} {a : Option Addr} {tag : Int} {S : Ln}
theorem RAt.fr {F : Nat → Prop} (h : RAt w b a c tag S) (hf : Fr F w w') (hn : ∀ k, foot b a k → ¬ F k) : RAt w' b a c tag S :=
  ⟨heap_fr h.blk hf (hn b (.inl rfl)), own_fr h.row hf (fun g hg => by
    cases a with
    | none => simp [Value.ownBlock] at hg
    | some p => simp [Value.ownBlock] at hg; exact hn g (.inr ⟨p, rfl, hg⟩)), h.apart⟩
theorem RAt.below (h : RAt w b a c tag S) (hf : Below w.heap.size w w') : RAt w' b a c tag S := h.fr (F := fun _ => False) (Fr.of_below hf) (fun _ _ h => h)
theorem RAt.sl (h : RAt w b a c tag S) : Sl Pt.enc 4 w a S.l := Sl.of_own Pt.len h.row
theorem RAt.lt (h : RAt w b a c tag S) : b < w.heap.size := (Array.getElem?_eq_some_iff.1 h.blk).1
theorem RAt.foot_lt (h : RAt w b a c tag S) : ∀ k, foot b a k → k < w.heap.size := by
  rintro k (rfl | ⟨p, hp, rfl⟩)
  · exact h.lt
  · subst hp; exact (h.row.lt p.block rfl).2
theorem RAt.own_ne (h : RAt w b a c tag S) : (Value.slice a S.l.length c).ownBlock ≠ some b := by
  cases a with
  | none => simp [Value.ownBlock]
  | some p => simpa [Value.ownBlock] using h.apart p rfl
theorem RAt.base (h : RAt w b a c tag S) (x : Int) : RAt (w.setCell ⟨b, 1, none⟩ (.int .i64 x)) b a c tag ⟨x, S.cur, S.l⟩ := ⟨heap_set h.blk _, own_set h.row h.own_ne, h.apart⟩
theorem RAt.cur (h : RAt w b a c tag S) (x : Int) : RAt (w.setCell ⟨b, 2, none⟩ (.int .i64 x)) b a c tag ⟨S.base, x, S.l⟩ := ⟨heap_set h.blk _, own_set h.row h.own_ne, h.apart⟩
theorem RAt.drew (h : RAt w b a c tag S) : RAt w.drew b a c tag S := h.below (Below.refl _ _).drew
/-- What a walk reads of element j. -/
theorem RAt.elem (h : RAt w b a c tag S) (j : Nat) (x : Pt) (hx : S.l[j]? = some x) :
    ∃ r, a = some ⟨r, 0, none⟩ ∧ w.cell? ⟨r, j * 4, none⟩ = some (.int .i64 x.id) ∧ w.cell? ⟨r, j * 4 + 1, none⟩ = some (.int .i64 x.w) ∧ w.cell? ⟨r, j * 4 + 2, none⟩ = some (.int .i64 x.v) ∧ w.cell? ⟨r, j * 4 + 3, none⟩ = some (.int .i64 x.day) ∧
      w.frozen? ⟨r, j * 4, none⟩ = false ∧ w.frozen? ⟨r, j * 4 + 1, none⟩ = false ∧ w.frozen? ⟨r, j * 4 + 2, none⟩ = false ∧ w.frozen? ⟨r, j * 4 + 3, none⟩ = false ∧ r ≠ b ∧ r < w.heap.size := by
  obtain ⟨r, off, rfl, hr, hc⟩ := h.sl (by intro h0; rw [h0] at hx; simp at hx)
  have hne := h.apart _ rfl
  have ho : off = 0 := by
    rcases h.row.2 with ⟨hv, _⟩ | ⟨g, cap, cu, hv, _⟩
    · simp at hv
    · simp at hv; exact hv.1.2
  subst ho
  have hfr := fun i => h.row.frozenAt i
  refine ⟨r, rfl, ?_, ?_, ?_, ?_, hfr _, hfr _, hfr _, hfr _, hne, hr⟩
  · simpa using hc j x hx 0 _ rfl
  · simpa using hc j x hx 1 _ rfl
  · simpa using hc j x hx 2 _ rfl
  · simpa using hc j x hx 3 _ rfl
end

set_option maxHeartbeats 800000 in
theorem rat_any {w : World} {b c : Nat} {a : Option Addr} {tag : Int} {S : Ln} (h : RAt w b a c tag S) (hl : S.l.length ≤ 64) (id : Int) {v : Int} (hv : fi (isId id) S.l = v) :
    Calls Tryz.prog 48 #[.pointer (some ⟨b, 0, none⟩), .int .i64 id] w fun e w' => e = .returned (.int .i64 v) ∧ w = w' := by
  subst hv
  obtain ⟨c0, c1, c2, c3, f0, f1, f2, f3, hlt⟩ := blk4 h.blk
  obtain ⟨l, hL⟩ : ∃ l, S.l = l := ⟨_, rfl⟩
  have HE := Lib.hid (fun j x (hx : l[j]? = some x) => h.elem j x (by rw [hL]; exact hx))
  rw [hL] at hl c3 ⊢
  clear h hL
  go_enter Tryz.func48, Tryz.ntmps48
  go_wp2_with fail
  go_loop [5] (fun i => ∃ k : Nat, k ≤ l.length ∧ i = .int .i64 k ∧ ∀ i, i < k → ∀ y, l[i]? = some y → isId id y = false) (fun i => l.length - (intOf i).toNat)
  case atStart => exact ⟨0, Nat.zero_le _, rfl, fun i hi => absurd hi (Nat.not_lt_zero _)⟩
  case round =>
    obtain ⟨k, hk, rfl, hno⟩ := hrel
    have Hno := Lib.hid hno
    clear hno
    by_cases hlt : k < l.length
    · obtain ⟨x, hx⟩ : ∃ x, l[k]? = some x := ⟨_, List.getElem?_eq_getElem hlt⟩
      obtain ⟨r, rfl, d0, _⟩ := HE.out k x hx
      have Hx := Lib.hid hx
      have hki : (k : Int) < l.length := by omega
      clear hx
      by_cases hp : x.id = id
      · have hpb : (x.id == id) = true := by simpa using hp
        have Hp := Lib.hid (show isId id x = true from hpb)
        clear hp
        go_wp2_with fail
        go_ret
        exact ⟨ret_int (fi_at Hx.out Hp.out Hno.out).symm, rfl⟩
      · have hpb : (x.id == id) = false := by simpa using hp
        have Hp := Lib.hid (show isId id x = false from hpb)
        clear hp
        go_wp2_with fail
        go_round
        case rel => exact ⟨k + 1, hlt, by go_num, fun i hi z hz => by
          rcases Nat.lt_or_ge i k with h | h
          · exact Hno.out i h z hz
          · obtain rfl : i = k := by omega
            rw [Hx.out] at hz; cases hz; exact Hp.out⟩
        case measure => simp [intOf]; omega
    · go_wp2_with fail
      go_ret
      exact ⟨ret_int (fi_neg (fun x hx => by
        obtain ⟨i, hi⟩ := List.mem_iff_getElem?.1 hx
        exact Hno.out i (by have := (List.getElem?_eq_some_iff.1 hi).1; omega) x hi)).symm, rfl⟩
end Go.Proofs.YtfijedmdfkelnaaGreat
