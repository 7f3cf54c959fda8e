/- What may befall a try: plain. -/
import Derived.Test.YtlgkkolgdjgclaaGreatTwo
import Derived.Laws.BitsLemmas
import Derived.Test.YtlgkkolgdjgclaaGreatCrc
namespace Go.Proofs.YtlgkkolgdjgclaaGreat
open Go.RowKit
set_option linter.unusedVariables false
set_option linter.unusedSimpArgs false

/-- One byte turned by another. -/
def bx (x y : Int) : Int := bits .xor .u8 x y
theorem bx_nat {x y : Int} (hx : Byte x) (hy : Byte y) : bx x y = ((x.toNat ^^^ y.toNat : Nat) : Int) := by
  unfold Byte at hx hy
  obtain ⟨a, rfl⟩ : ∃ a : Nat, x = a := ⟨x.toNat, by omega⟩
  obtain ⟨b, rfl⟩ : ∃ b : Nat, y = b := ⟨y.toNat, by omega⟩
  have ha' : a % 2 ^ IntKind.u8.bits = a := Nat.mod_eq_of_lt (by show a < 256; omega)
  have hb' : b % 2 ^ IntKind.u8.bits = b := Nat.mod_eq_of_lt (by show b < 256; omega)
  have hz := Nat.xor_lt_two_pow (n := 8) (show a < 2 ^ 8 by omega) (show b < 2 ^ 8 by omega)
  unfold bx
  simp only [bits, BitVec.ofInt_natCast, BitVec.toNat_xor, BitVec.toNat_ofNat, ha', hb', Int.toNat_natCast]
  rw [IntKind.wrap_u8]; omega
theorem bx_byte {x y : Int} (hx : Byte x) (hy : Byte y) : Byte (bx x y) := by
  rw [bx_nat hx hy]
  unfold Byte at *
  have hz := Nat.xor_lt_two_pow (n := 8) (show x.toNat < 2 ^ 8 by omega) (show y.toNat < 2 ^ 8 by omega)
  omega
theorem bx_zero {x : Int} (hx : Byte x) : bx x 0 = x := by
  rw [bx_nat hx (by unfold Byte; omega)]
  unfold Byte at hx
  simp; omega
theorem bx_twice {x y : Int} (hx : Byte x) (hy : Byte y) : bx (bx x y) y = x := by
  rw [bx_nat (bx_byte hx hy) hy, bx_nat hx hy, Int.toNat_natCast, Nat.xor_assoc, Nat.xor_self, Nat.xor_zero]
  unfold Byte at hx; omega
theorem bx_ne {x y : Int} (hx : Byte x) (hy : Byte y) (h : y ≠ 0) : bx x y ≠ x := fun e => by
  rw [bx_nat hx hy] at e
  unfold Byte at hx hy
  have e1 : x.toNat ^^^ y.toNat = x.toNat := by omega
  have e2 : x.toNat ^^^ (x.toNat ^^^ y.toNat) = 0 := by rw [e1, Nat.xor_self]
  rw [← Nat.xor_assoc, Nat.xor_self, Nat.zero_xor] at e2
  omega
/-- What befalls a try. -/
structure Bl where
  op : Int
  st : Int
  ix : Int
  y : Int
deriving DecidableEq, Inhabited
def Bl.enc (b : Bl) : List Value := [.int .i64 b.op, .int .i64 b.st, .int .i64 b.ix, .int .u8 b.y]
theorem Bl.len (b : Bl) : b.enc.length = 4 := rfl
namespace TryS
def spoil (x : TryS) (i y : Int) : TryS × Bool := if x.stage = 2 ∧ 0 ≤ i ∧ i < x.b.length then ({ x with b := x.b.set i.toNat (bx (x.b.getD i.toNat 0) y) }, true) else (x, false)
def cut (x : TryS) (n : Int) : TryS × Bool := if x.stage = 2 ∧ 1 ≤ n ∧ n ≤ x.b.length then ({ x with b := x.b.take (x.b.length - n.toNat) }, true) else (x, false)
def updF (f : Nat → Bool) (m : Nat) : Nat → Bool := fun j => if j = m then true else f j
def force (x : TryS) (m : Int) : TryS × Bool := if x.stage < 5 ∧ 1 ≤ m ∧ m ≤ 5 ∧ x.stage < m then ({ x with fo := updF x.fo m.toNat }, true) else (x, false)
def strike (x : TryS) (b : Bl) : TryS × Bool :=
  if x.stage = b.st then
    (if b.op = 1 then x.spoil b.ix b.y else if b.op = 2 then x.cut b.ix else if b.op = 3 then x.force (b.st + 1) else if b.op = 4 then x.abort else (x, false))
  else (x, false)
def strikes (x : TryS) (l : List Bl) : TryS := l.foldl (fun x b => (x.strike b).1) x
/-- A round: all that befalls it, and its next stage. -/
def round (l : List Bl) (p : TryS × CoreS) : TryS × CoreS := (p.1.strikes l).step p.2
def rounds (l : List Bl) (p : TryS × CoreS) : Nat → TryS × CoreS
  | 0 => p
  | k + 1 => round l (rounds l p k)
end TryS
section
variable {x : TryS} {d : CoreS}
theorem TryS.strikes_succ {l : List Bl} {k : Nat} {b : Bl} (hb : l[k]? = some b) (x : TryS) : x.strikes (l.take (k + 1)) = ((x.strikes (l.take k)).strike b).1 := by
  obtain ⟨hk, e⟩ := List.getElem?_eq_some_iff.1 hb
  unfold TryS.strikes
  rw [List.take_succ_eq_append_getElem hk, List.foldl_append, e]
  rfl
/-- A blow leaves a try's stage, or ends it. -/
theorem TryS.strike_is (x : TryS) (b : Bl) : (x.strike b).1.tag = x.tag ∧ (x.strike b).1.base = x.base ∧ (x.strike b).1.age = x.age ∧ (x.strike b).1.S = x.S ∧ (((x.strike b).1.stage = x.stage ∧ (x.strike b).1.why = x.why) ∨ (x.stage < 5 ∧ (x.strike b).1.stage = 6 ∧ (x.strike b).1.why = 13)) := by
  unfold TryS.strike TryS.spoil TryS.cut TryS.force TryS.abort
  repeat' split
  all_goals first
    | exact ⟨rfl, rfl, rfl, rfl, .inl ⟨rfl, rfl⟩⟩
    | exact ⟨rfl, rfl, rfl, rfl, .inr ⟨by omega, rfl, rfl⟩⟩
theorem TryOk.strike (h : TryOk x) {b : Bl} (hy : Byte b.y) : TryOk (x.strike b).1 := by
  unfold TryS.strike TryS.spoil TryS.cut TryS.force TryS.abort
  have h1 := h.st
  repeat' split
  all_goals first
    | exact h
    | exact ⟨h.tag, h.base, h.st, h.len, h.byt, h.que⟩
    | exact ⟨h.tag, h.base, (by simp), h.len, h.byt, (by simp)⟩
    | skip
  · rename_i e1 e2 e3
    refine ⟨h.tag, h.base, h.st, by simp only [List.length_set]; exact h.len, fun v hv => ?_, h.que⟩
    rcases List.mem_or_eq_of_mem_set hv with e | rfl
    · exact h.byt v e
    · refine bx_byte ?_ hy
      have hi : b.ix.toNat < x.b.length := by omega
      rw [List.getD_eq_getElem?_getD, List.getElem?_eq_getElem hi]
      exact h.byt _ (List.getElem_mem hi)
  · refine ⟨h.tag, h.base, h.st, by simp only [List.length_take]; have := h.len; omega, fun v hv => h.byt v (List.mem_of_mem_take hv), h.que⟩
/-- What a try knows of its core, whatever befell it. -/
structure TryEx (x : TryS) (d : CoreS) : Prop where
  age : x.age ≤ d.age
  sed : 3 ≤ x.stage → x.stage < 5 → x.S = seedR (formR x.S) x.base
  que : x.stage = 4 → d.age = x.age → formR x.S = formR d.q
theorem TryEx.strike (h : TryEx x d) (b : Bl) : TryEx (x.strike b).1 d := by
  obtain ⟨h1, h2, h3, h4, h5⟩ := x.strike_is b
  refine ⟨by rw [h3]; exact h.age, fun a b' => ?_, fun a b' => ?_⟩
  · rw [h4, h2]
    rcases h5 with ⟨e, -⟩ | ⟨-, e, -⟩
    · exact h.sed (by omega) (by omega)
    · omega
  · rw [h4]
    rw [h3] at b'
    rcases h5 with ⟨e, -⟩ | ⟨-, e, -⟩
    · exact h.que (by omega) b'
    · omega
theorem TryEx.new {tag base : Int} (h : 0 ≤ d.age) : TryEx (TryS.new tag base) d := ⟨h, fun h => absurd h (by simp [TryS.new]), fun h => absurd h (by simp [TryS.new])⟩
/-- What the next stage does to a try, to its core. -/
theorem TryS.step_cases (x : TryS) (d : CoreS) (h5 : x.stage < 5) (h0 : 0 ≤ x.stage) :
    ((x.step d).1.stage = x.stage + 1 ∧ (x.step d).1.why = x.why ∧ (x.next d (x.stage + 1)).2.2 = 0 ∧ (x.step d) = ({ (x.next d (x.stage + 1)).1 with stage := x.stage + 1 }, (x.next d (x.stage + 1)).2.1)) ∨
    ((x.step d).1.stage = 6 ∧ (x.step d).1.why = (x.next d (x.stage + 1)).2.2 ∧ (x.step d).1.why ≠ 0 ∧ (x.step d).2 = d) := by
  obtain ⟨n1, n2, -⟩ := x.next_is d (x.stage + 1)
  by_cases he : (x.next d (x.stage + 1)).2.2 = 0
  · left
    have e : x.step d = ({ (x.next d (x.stage + 1)).1 with stage := x.stage + 1 }, (x.next d (x.stage + 1)).2.1) := by unfold TryS.step; rw [if_neg (by omega), if_pos he]
    rw [e]
    exact ⟨rfl, n2, he, rfl⟩
  · right
    have e : x.step d = ({ (x.next d (x.stage + 1)).1 with stage := 6, why := (x.next d (x.stage + 1)).2.2 }, (x.next d (x.stage + 1)).2.1) := by unfold TryS.step; rw [if_neg (by omega), if_neg he]
    rw [e]
    refine ⟨rfl, rfl, he, ?_⟩
    revert he
    unfold TryS.next
    repeat' split
    all_goals first | (intro _; rfl) | (intro he; exact absurd rfl he)
/-- A core changes only at the last stage. -/
theorem TryS.step_core (x : TryS) (d : CoreS) : (x.step d).2 = d ∨ (x.stage = 4 ∧ (x.step d).1.stage = 5 ∧ d.age = x.age ∧ formR x.S = formR d.q ∧ (x.step d).2 = { d with tag := x.tag, q := x.S }) ∨ ¬ (0 ≤ x.stage) := by
  by_cases h0 : 0 ≤ x.stage
  · by_cases h5 : x.stage < 5
    · rcases x.step_cases d h5 h0 with ⟨a, -, b, c⟩ | ⟨-, -, -, c⟩
      · rw [c]
        revert b
        unfold TryS.next
        repeat' split
        all_goals first
          | (intro _; exact .inl rfl)
          | (intro he; simp at he; done)
          | (rename_i e1 e2 e3 e4 e5 e6 e7
             intro _
             exact .inr (.inl ⟨by omega, by simp only; omega, Classical.byContradiction fun hn => e1 ⟨by omega, hn⟩, e7, rfl⟩))
      · exact .inl c
    · left; unfold TryS.step; rw [if_pos (by omega)]
  · exact .inr (.inr h0)
theorem TryOk.step (h : TryOk x) (hg : goodC d.tag (formR d.q) = true) : TryOk (x.step d).1 := by
  by_cases h5 : x.stage < 5
  · have h0 := h.st.1
    rcases x.step_cases d h5 h0 with ⟨-, -, b, c⟩ | ⟨a, -, -, -⟩
    · rw [c]
      revert b
      unfold TryS.next
      repeat' split
      all_goals first
        | (intro he; simp at he; done)
        | skip
      · intro _
        exact ⟨h.tag, h.base, by simp only; omega, h.len, h.byt, by simp only; omega⟩
      · intro _
        exact ⟨h.tag, h.base, by simp only; omega, putB_len hg, putB_byte hg, by simp only; omega⟩
      · rename_i e
        intro _
        have hgr := readE_good e
        have hgf : goodF (readE x.b).2.1 = true := by unfold goodC at hgr; rw [Bool.and_eq_true] at hgr; exact hgr.2
        have hb := h.base
        exact ⟨h.tag, h.base, by simp only; omega, h.len, h.byt, fun _ _ => ⟨OkS.seed (by omega) (by omega) hgf, by rw [form_seed]; exact hgf, Lags.seed hgf, rfl⟩⟩
      · rename_i e
        intro b; exact absurd b e
      · intro _
        exact ⟨h.tag, h.base, by simp only; omega, h.len, h.byt, fun _ _ => h.que (by omega) (by omega)⟩
      · intro _
        exact ⟨h.tag, h.base, by simp only; omega, h.len, h.byt, fun a b => by simp only at b; omega⟩
    · unfold TryS.step at a ⊢
      rw [if_neg (by omega)] at a ⊢
      split at a
      · simp only at a; omega
      · rename_i e
        rw [if_neg e]
        revert e
        unfold TryS.next
        repeat' split
        all_goals first | (intro e; exact absurd rfl e) | (intro _; exact ⟨h.tag, h.base, by simp, h.len, h.byt, by simp⟩)
  · have e : x.step d = (x, d) := by unfold TryS.step; rw [if_pos (by omega)]
    rw [e]; exact h
theorem TryEx.step (h : TryEx x d) (hk : TryOk x) : TryEx (x.step d).1 (x.step d).2 := by
  by_cases h5 : x.stage < 5
  · have h0 := hk.st.1
    rcases x.step_cases d h5 h0 with ⟨-, -, b, c⟩ | ⟨a, -, -, a2⟩
    · rw [c]
      revert b
      unfold TryS.next
      repeat' split
      all_goals first
        | (intro he; simp at he; done)
        | skip
      · intro _
        exact ⟨Int.le_refl _, by simp only; omega, by simp only; omega⟩
      · intro _
        exact ⟨h.age, by simp only; omega, by simp only; omega⟩
      · intro _
        exact ⟨h.age, fun _ _ => by simp only; rw [form_seed], by simp only; omega⟩
      · rename_i e
        intro b; exact absurd b e
      · rename_i e
        intro _
        exact ⟨h.age, fun _ _ => h.sed (by omega) (by omega), fun _ _ => e⟩
      · intro _
        exact ⟨h.age, by simp only; omega, by simp only; omega⟩
    · rw [a2]
      obtain ⟨-, -, -, n4, -⟩ := x.next_is d (x.stage + 1)
      refine ⟨?_, by omega, by omega⟩
      have := h.age
      unfold TryS.step
      rw [if_neg (by omega)]
      split
      · unfold TryS.next
        repeat' split
        all_goals first | exact this | exact Int.le_refl _
      · unfold TryS.next
        repeat' split
        all_goals first | exact this | exact Int.le_refl _
  · have e : x.step d = (x, d) := by unfold TryS.step; rw [if_pos (by omega)]
    rw [e]; exact h
end
end Go.Proofs.YtlgkkolgdjgclaaGreat
/- What may befall a try, in memory: Spoil, Cut, Force, Strike. -/
namespace Go.Proofs.YtlgkkolgdjgclaaGreat
open Go.RowKit
set_option linter.unusedVariables false
set_option linter.unusedSimpArgs false

section
variable {w0 w w' : World} {F : Nat → Prop} {c p b r : Nat} {s : CoreS} {t : Nat} {G : Nat → Prop} {x : TryS} {lv : Int}
/-- Its own cells, and those of what it made, alone were written. -/
theorem NextTo.own {y : TryS} (h : CSt w0 w F c p b r s) (hx : TryAt w0 w t G c x lv) (hd : ∀ j, cfoot F c p r j → j ≠ t ∧ ¬ G j) (hf : Fr (fun j => j = t ∨ G j) w w') {lv' : Int} (hy : TryAt w0 w' t G c y lv') : NextTo w0 w F c p r t G y lv' s w' :=
  ⟨G, F, p, b, h.fr hf (fun k hk e => e.elim (hd k hk).1 (hd k hk).2) (fun k e => e.elim (fun e => by rw [e]; exact hx.newt) (fun e => (hx.new k e).1)), hy, hf.mono (fun j _ e => e.imp id .inr), fun j hj => .inl hj, fun j hj => hj.elim .inl (fun e => .inr (.inl e)), hd⟩
set_option maxHeartbeats 1600000 in
set_option maxRecDepth 100000 in
theorem StSpoil (h : CSt w0 w F c p b r s) (hx : TryAt w0 w t G c x x.stage) (hd : ∀ j, cfoot F c p r j → j ≠ t ∧ ¬ G j) (hok : TryOk x) (i y : Int) :
    Calls Tryz.prog 41 #[.pointer (some ⟨t, 0, none⟩), .int .i64 i, .int .u8 y] w fun e w' => e = .returned (.bool (x.spoil i y).2) ∧ NextTo w0 w F c p r t G (x.spoil i y).1 (x.spoil i y).1.stage s w' := by
  have HS := Lib.hid (NextTo.same h hx hd (Below.refl _ _))
  obtain ⟨a, n, k, q, hx0, hx2, hx3⟩ := hx.cell
  simp only [tryCells] at hx0
  obtain ⟨⟨c0, c1, c2, c3, c4, c5, c6, c7⟩, ⟨c8, c9, c10, c11, c12, c13⟩, ⟨f3, f4, f5, f6, f7⟩, tl⟩ := blk14 hx0
  by_cases h2 : x.stage = 2
  · have hxl := (hx2 h2).1
    have hlen := hok.len
    by_cases i0 : i < 0
    · have e : x.spoil i y = (x, false) := by unfold TryS.spoil; rw [if_neg (by omega)]
      rw [e]
      rw [h2] at c3
      clear h hx hd hok hx0 hx2 hx3 e hxl h2
      go_enter Tryz.func41, Tryz.ntmps41
      go_wp2_with fail
      go_ret
      exact ⟨rfl, HS.out⟩
    · by_cases i1 : (n : Int) ≤ i
      · have e : x.spoil i y = (x, false) := by unfold TryS.spoil; rw [if_neg (by omega)]
        rw [e]
        rw [h2] at c3
        clear h hx hd hok hx0 hx2 hx3 e hxl h2
        go_enter Tryz.func41, Tryz.ntmps41
        go_wp2_with fail
        go_ret
        exact ⟨rfl, HS.out⟩
      · obtain ⟨m, rfl⟩ : ∃ m : Nat, i = m := ⟨i.toNat, by omega⟩
        have hm : m < n := by omega
        have hmi : (m : Int) < n := by omega
        obtain ⟨-, ho, hG⟩ := hx2 h2
        obtain ⟨g, cap, hv, hg0, hgl⟩ := ho.form (by omega)
        simp only [Value.slice.injEq, true_and] at hv
        obtain ⟨rfl, rfl⟩ := hv
        have e : x.spoil m y = ({ x with b := x.b.set m (bx (x.b.getD m 0) y) }, true) := by unfold TryS.spoil; rw [if_pos (by omega), Int.toNat_natCast]
        rw [e]
        have hGg := hG g rfl
        have r0 := ho.cellAt m (by omega)
        have z0 := ho.frozenAt m
        have hst := (ho.stored m (.int .u8 (bx (x.b.getD m 0) y))).1
        rw [flatU] at r0
        rw [show (List.map (Value.int .u8) x.b)[m]? = some (.int .u8 (x.b.getD m 0)) by simp [List.getD, List.getElem?_eq_getElem (show m < x.b.length by omega)]] at r0
        have hgt : g ≠ t := fun e => hx.tG (by rw [← e]; exact hGg)
        have hfr : Fr (fun j => j = t ∨ G j) w (w.setCell ⟨g, m, none⟩ (.int .u8 (bx (x.b.getD m 0) y))) := (Fr.refl (fun j => j = t ∨ G j) w).setCell (p := ⟨g, m, none⟩) (fun _ => .inr hGg) _
        have HR := Lib.hid (NextTo.own (y := { x with b := x.b.set m (bx (x.b.getD m 0) y) }) h hx hd hfr (lv' := x.stage) ⟨⟨_, _, _, _, heap_fr hx0 ((Fr.refl (fun j => j = g) w).setCell (p := ⟨g, m, none⟩) (fun _ => rfl) _) (fun e => hgt e.symm), fun _ => ⟨by simp only [List.length_set]; exact hxl, by rw [flatU] at hst ⊢; rw [List.map_set]; exact hst, hG⟩, fun e => by omega⟩, hx.tG, hx.newt, fun j hj => by have := hx.new j hj; simpa using this⟩)
        rw [h2] at c3
        generalize x.b.getD m 0 = v at *
        have hm0 : (0 : Int) ≤ m := by omega
        clear h hx hd hok hx0 hx2 hx3 e hxl hst ho hG hfr h2
        go_enter Tryz.func41, Tryz.ntmps41
        go_wp2_with fail
        go_ret
        exact ⟨rfl, HR.out⟩
  · have e : x.spoil i y = (x, false) := by unfold TryS.spoil; rw [if_neg (by omega)]
    rw [e]
    clear h hx hd hok hx0 hx2 hx3 e
    go_enter Tryz.func41, Tryz.ntmps41
    go_wp2_with fail
    go_ret
    exact ⟨rfl, HS.out⟩
set_option maxHeartbeats 1600000 in
set_option maxRecDepth 100000 in
theorem StCut (h : CSt w0 w F c p b r s) (hx : TryAt w0 w t G c x x.stage) (hd : ∀ j, cfoot F c p r j → j ≠ t ∧ ¬ G j) (hok : TryOk x) (i : Int) :
    Calls Tryz.prog 42 #[.pointer (some ⟨t, 0, none⟩), .int .i64 i] w fun e w' => e = .returned (.bool (x.cut i).2) ∧ NextTo w0 w F c p r t G (x.cut i).1 (x.cut i).1.stage s w' := by
  have HS := Lib.hid (NextTo.same h hx hd (Below.refl _ _))
  obtain ⟨a, n, k, q, hx0, hx2, hx3⟩ := hx.cell
  simp only [tryCells] at hx0
  obtain ⟨⟨c0, c1, c2, c3, c4, c5, c6, c7⟩, ⟨c8, c9, c10, c11, c12, c13⟩, ⟨f3, f4, f5, f6, f7⟩, tl⟩ := blk14 hx0
  by_cases h2 : x.stage = 2
  · have hxl := (hx2 h2).1
    have hlen := hok.len
    by_cases i0 : i < 1
    · have e : x.cut i = (x, false) := by unfold TryS.cut; rw [if_neg (by omega)]
      rw [e]
      rw [h2] at c3
      clear h hx hd hok hx0 hx2 hx3 e hxl h2
      go_enter Tryz.func42, Tryz.ntmps42
      go_wp2_with fail
      go_ret
      exact ⟨rfl, HS.out⟩
    · by_cases i1 : (n : Int) < i
      · have e : x.cut i = (x, false) := by unfold TryS.cut; rw [if_neg (by omega)]
        rw [e]
        rw [h2] at c3
        clear h hx hd hok hx0 hx2 hx3 e hxl h2
        go_enter Tryz.func42, Tryz.ntmps42
        go_wp2_with fail
        go_ret
        exact ⟨rfl, HS.out⟩
      · obtain ⟨m, rfl⟩ : ∃ m : Nat, i = m := ⟨i.toNat, by omega⟩
        have hm : m ≤ n := by omega
        have hn1000 : n ≤ 1000 := by omega
        obtain ⟨-, ho, hG⟩ := hx2 h2
        have hcap := own_cap ho
        obtain ⟨g, cap, hv, hg0, hgl⟩ := ho.form (by omega)
        simp only [Value.slice.injEq, true_and] at hv
        obtain ⟨rfl, rfl⟩ := hv
        have e : x.cut m = ({ x with b := x.b.take (n - m) }, true) := by unfold TryS.cut; rw [if_pos (by omega), Int.toNat_natCast, hxl]
        rw [e]
        have hsh := own_shrink ho (show n - m ≤ n by omega)
        have hGg := hG g rfl
        have hfr : Fr (fun j => j = t) w (w.setCell ⟨t, 6, none⟩ (.slice (some ⟨g, 0, none⟩) (n - m) k)) := (Fr.refl (fun j => j = t) w).setCell (p := ⟨t, 6, none⟩) (fun _ => rfl) _
        have hgt : g ≠ t := fun e => hx.tG (by rw [← e]; exact hGg)
        have HR := Lib.hid (NextTo.own (y := { x with b := x.b.take (n - m) }) h hx hd (hfr.mono fun _ _ e => .inl e) (lv' := x.stage) ⟨⟨_, _, _, _, heap_set hx0 _, fun _ => ⟨by simp only [List.length_take]; omega, by rw [flatU] at hsh ⊢; rw [Nat.mul_one, ← List.map_take] at hsh; exact own_fr hsh hfr (fun j hj e => hgt (by simp [Value.ownBlock] at hj; omega)), hG⟩, fun e => by omega⟩, hx.tG, hx.newt, fun j hj => by have := hx.new j hj; simpa using this⟩)
        have hnm : (n : Int) - m = ((n - m : Nat) : Int) := by omega
        have hnk : n - m ≤ k := by omega
        have hk63 : k ≤ maxLen := by
          rcases ho.2 with ⟨h', _⟩ | ⟨g', cap', cur, h', _, hg, _, h5, _⟩
          · simp at h'
          · simp at h'
            rw [h'.2]; exact h5
        have Hd := Lib.hid hx0
        rw [h2] at c3
        have hm1 : (1 : Int) ≤ m := by omega
        clear h hx hd hok hx0 hx2 hx3 e hxl hsh ho hG hfr h2
        go_enter Tryz.func42, Tryz.ntmps42
        go_wp2_with fail
        refine wp_region_chain 38 [0, 0, 2, 6, 14, 0, 32, 96, 224, 480, 0, 2016, 4094, 8191, 16383, 32767] [(0, none), (1, none), (2, none), (3, none), (4, none), (5, none), (6, none), (7, none), (8, none), (9, none), (10, none), (11, none), (12, none), (13, none), (14, none), (15, some [])] (by kernel_rfl) (by kernel_rfl) (by rfl) ?_; simp only [chain, Obs, List.getElem?_toArray, List.getElem?_cons_zero, List.getElem?_cons_succ]
        go_wp2_with (with_reducible refine And.intro (by first | with_reducible exact True.intro | with_reducible rfl | go_simp) ?_)
        refine NoPanic.normal ?_
        go_wp2_with fail
        go_ret
        exact ⟨rfl, HR.out.drew⟩
  · have e : x.cut i = (x, false) := by unfold TryS.cut; rw [if_neg (by omega)]
    rw [e]
    clear h hx hd hok hx0 hx2 hx3 e
    go_enter Tryz.func42, Tryz.ntmps42
    go_wp2_with fail
    go_ret
    exact ⟨rfl, HS.out⟩
end
end Go.Proofs.YtlgkkolgdjgclaaGreat
/- A try's steps, whatever befell it. -/
namespace Go.Proofs.YtlgkkolgdjgclaaGreat
open Go.RowKit Go.Shelf Go.Maps
set_option linter.unusedVariables false
set_option linter.unusedSimpArgs false

theorem asc_eq : ∀ (l1 l2 : List It), (l1.Pairwise fun a b => a.id < b.id) → (l2.Pairwise fun a b => a.id < b.id) → (∀ x ∈ l1, x ∈ l2) → (∀ x ∈ l2, x ∈ l1) → l1 = l2
  | [], [], _, _, _, _ => rfl
  | [], b :: l2, _, _, _, h => absurd (h b (by simp)) (by simp)
  | a :: l1, [], _, _, h, _ => absurd (h a (by simp)) (by simp)
  | a :: l1, b :: l2, p1, p2, h1, h2 => by
    obtain ⟨q1, q1'⟩ := List.pairwise_cons.1 p1
    obtain ⟨q2, q2'⟩ := List.pairwise_cons.1 p2
    have e : a = b := by
      rcases List.mem_cons.1 (h1 a (by simp)) with e | e
      · exact e
      · rcases List.mem_cons.1 (h2 b (by simp)) with e2 | e2
        · exact e2.symm
        · have := q2 a e; have := q1 b e2; omega
    subst e
    refine congrArg _ (asc_eq l1 l2 q1' q2' (fun x hx => ?_) (fun x hx => ?_))
    · rcases List.mem_cons.1 (h1 x (by simp [hx])) with e | e
      · have := q1 x hx; rw [e] at this; omega
      · exact e
    · rcases List.mem_cons.1 (h2 x (by simp [hx])) with e | e
      · have := q2 x hx; rw [e] at this; omega
      · exact e
theorem asc_id {l : List It} (h : l.Pairwise fun a b => a.id < b.id) {x y : It} (hx : x ∈ l) (hy : y ∈ l) (e : x.id = y.id) : x = y := by
  induction l with
  | nil => cases hx
  | cons a l ih =>
    obtain ⟨q, q'⟩ := List.pairwise_cons.1 h
    rcases List.mem_cons.1 hx with e1 | hx1 <;> rcases List.mem_cons.1 hy with e2 | hy1
    · rw [e1, e2]
    · have := q y hy1; rw [← e1] at this; omega
    · have := q x hx1; rw [← e2] at this; omega
    · exact ih q' hx1 hy1
/-- Forms in which nothing is found to differ are the same. -/
theorem faults_nil {f g : Fm} (hf : GoodP f) (hg : GoodP g) (h : faultsM f.cur f.l g.cur g.l = []) : f = g := by
  unfold faultsM at h
  obtain ⟨h12, h3⟩ := List.append_eq_nil_iff.1 h
  obtain ⟨h1, h2⟩ := List.append_eq_nil_iff.1 h12
  rw [List.flatMap_eq_nil_iff] at h1 h2
  have hc : f.cur = g.cur := Classical.byContradiction fun e => by rw [if_neg e] at h3; cases h3
  obtain ⟨-, -, -, f4, -⟩ := hf
  obtain ⟨-, -, -, g4, -⟩ := hg
  have m1 : ∀ x ∈ g.l, x ∈ f.l := fun x hx => by
    have hx1 := h1 x hx
    rcases fi_or (isIt x.id) f.l with e | ⟨j, y, e, hy⟩
    · rw [fl1_none e] at hx1; cases hx1
    · rw [fl1_some e hy] at hx1
      obtain ⟨a1, a2⟩ := List.append_eq_nil_iff.1 hx1
      have hw : y.w = x.w := Classical.byContradiction fun e => by rw [if_neg e] at a1; cases a1
      have hl : y.lag = x.lag := Classical.byContradiction fun e => by rw [if_neg e] at a2; cases a2
      have hi : y.id = x.id := by
        rcases fi_cases (isIt x.id) f.l with ⟨c, -⟩ | ⟨j2, y2, c1, -, c2, c3, -⟩
        · rw [c] at e; omega
        · have : j2 = j := by omega
          subst this
          rw [c2] at hy
          cases hy
          unfold isIt at c3
          exact beq_iff_eq.1 c3
      have : y = x := by cases y; cases x; simp only at hw hl hi; subst hw hl hi; rfl
      rw [← this]
      exact List.mem_of_getElem? hy
  have m2 : ∀ x ∈ f.l, x ∈ g.l := fun x hx => by
    have hx2 := h2 x hx
    rcases fi_cases (isIt x.id) g.l with ⟨c, -⟩ | ⟨j2, y2, c1, -, c2, c3, -⟩
    · rw [fl2_none c] at hx2; cases hx2
    · have hy := List.mem_of_getElem? c2
      have e : y2 = x := asc_id f4 (m1 y2 hy) hx (by unfold isIt at c3; exact beq_iff_eq.1 c3)
      rw [← e]; exact hy
  have hl := asc_eq f.l g.l f4 g4 m2 m1
  cases f; cases g; simp only at hc hl; subst hc hl; rfl
section
variable {w0 w w' : World} {F : Nat → Prop} {c p b r : Nat} {s : CoreS} {K : Int} {t : Nat} {G : Nat → Prop} {x : TryS} {lv : Int}
set_option maxHeartbeats 1600000 in
set_option maxRecDepth 100000 in
theorem ShFitsAny {H : Nat → Prop} {p2 b2 : Nat} {tag2 : Int} {S2 : Ln} {K2 : Int} (h : CSt w0 w F c p b r s) (hq : PSt w0 w H p2 b2 tag2 S2) (ht : TagOk s.tag) (ht2 : TagOk tag2) (hk : OkS K s.q) (hk2 : OkS K2 S2) {f f2 : Fm} (hf : formR s.q = f) (hf2 : formR S2 = f2) (hg : goodF f = true) (hg2 : goodF f2 = true) :
    Calls Tryz.prog 82 #[.pointer (some ⟨c, 0, none⟩), .pointer (some ⟨p2, 0, none⟩)] w fun e w' => (∃ fa fc, e = .returned (.slice fa (faultsM f2.cur f2.l f.cur f.l).length fc)) ∧ Below w.heap.size w w' := by
  obtain ⟨FN2, hmf2, hef2, HQb⟩ := ifForm tag2 ht2 b2
  obtain ⟨q0, q1, z0, z1, qlt⟩ := blk2 hq.cell
  have HQ := Lib.hid (HQb.out hq.q hk2)
  have HF := Lib.hid (fun W (hW : Below w.heap.size w W) => CorForm (h.below hW) ht hk)
  have e1 : s.q.cur = f.cur := by rw [← hf]; rfl
  have e2 : s.q.l.map (itOf s.q.base) = f.l := by rw [← hf]; rfl
  have e3 : S2.cur = f2.cur := by rw [← hf2]; rfl
  have e4 : S2.l.map (itOf S2.base) = f2.l := by rw [← hf2]; rfl
  rw [e1, e2] at HF
  rw [e3, e4] at HQ
  have HC := Lib.hid (fun W A C A2 C2 (hs : Sl It.enc 3 W A f2.l) (hs2 : Sl It.enc 3 W A2 f.l) => FaultsAny f2.cur f.cur f2.l f.l f2.l.length f.l.length A A2 C C2 W rfl rfl (goodF_P hg).1 hs hs2 (goodF_P hg2))
  clear h hq ht ht2 hk hk2 hf hf2 hg hg2 e1 e2 e3 e4 HQb
  go_enter Tryz.func82, Tryz.ntmps82
  go_wp2_with (first
    | (go_at_fn FN2; refine HQ.out.mono ?_; rintro e w1 ⟨a1, c1, rfl, ho1, hb1⟩; have Hs1 := Lib.hid (Sl.of_own It.len ho1); clear ho1)
    | (go_at_call 19; refine (HF.out _ hb1).mono ?_; rintro e w2 ⟨a2, c2, rfl, ho2, hb2⟩; have Hs2 := Lib.hid (Sl.of_own It.len ho2); have Hs1 := Lib.hid (Hs1.out.below hb2); have hb3 := hb1.trans (hb2.mono hb1.size); clear ho2)
    | (go_at_call 100; refine (HC.out _ _ _ _ _ Hs1.out Hs2.out).mono ?_; rintro e w4 ⟨fa, fc, rfl, -, hb4⟩))
  go_ret
  exact ⟨⟨fa, fc, rfl⟩, hb3.trans (hb4.mono hb3.size)⟩
set_option maxHeartbeats 1600000 in
set_option maxRecDepth 100000 in
theorem StNext4_no {K2 : Int} (h : CSt w0 w F c p b r s) (hx : TryAt w0 w t G c x 3) (hd : ∀ j, cfoot F c p r j → j ≠ t ∧ ¬ G j) (ht : TagOk s.tag) (ht2 : TagOk x.tag) (hk : OkS K s.q) (hk2 : OkS K2 x.S) (hg : goodF (formR s.q) = true) (hg2 : goodF (formR x.S) = true) (hr : formR x.S ≠ formR s.q) (ha : s.age = x.age) (hfo : x.fo 4 = false) :
    Calls Tryz.prog 61 #[.pointer (some ⟨t, 0, none⟩), .int .i64 4] w fun e w' => e = .returned (.int .i64 11) ∧ NextTo w0 w F c p r t G x 0 s w' := by
  obtain ⟨a, n, k, q, hx0, hx2, hx3⟩ := hx.cell
  simp only [tryCells] at hx0
  obtain ⟨⟨c0, c1, c2, c3, c4, c5, c6, c7⟩, ⟨c8, c9, c10, c11, c12, c13⟩, ⟨f3, f4, f5, f6, f7⟩, tl⟩ := blk14 hx0
  have HAg := Lib.hid (fun (W : World) (hW : Below w.heap.size w W) => CorAge (h.below hW))
  have hbd := (Below.refl w.heap.size w).drew
  rw [hfo] at c12
  obtain ⟨p2, H2, b2, rfl, hq, hqG⟩ := hx3 (.inl rfl)
  have HM := Lib.hid (fun (W : World) (hW : Below w.heap.size w W) => ShFitsAny (h.below hW) (hq.below hW) ht ht2 hk hk2 rfl rfl hg hg2)
  have hpos : (0 : Int) < ((faultsM (formR x.S).cur (formR x.S).l (formR s.q).cur (formR s.q).l).length : Nat) := by
    rcases Nat.eq_zero_or_pos (faultsM (formR x.S).cur (formR x.S).l (formR s.q).cur (formR s.q).l).length with e | e
    · exact absurd (faults_nil (goodF_P hg2) (goodF_P hg) (List.length_eq_zero_iff.1 e)) hr
    · omega
  generalize (faultsM (formR x.S).cur (formR x.S).l (formR s.q).cur (formR s.q).l).length = nf at *
  have H := Lib.hid h; have Hx := Lib.hid (hx.weak (lv' := 0) (by decide) (by decide) (by decide)); have Hx0 := Lib.hid hx0; have Hd := Lib.hid hd
  clear h hx hx0 hx2 hx3 hd hq hqG hr
  go_enter Tryz.func61, Tryz.ntmps61
  go_wp2_with fail
  refine wp_region_chain 95 [0, 1, 3, 7, 15, 31, 63, 127, 7, 263, 775, 1799, 4095, 8191] [(0, none), (1, none), (2, none), (3, none), (4, none), (5, none), (6, none), (8, none), (9, none), (10, none), (11, none), (7, some [8, 9, 10, 11]), (12, none), (13, none)] (by kernel_rfl) (by kernel_rfl) (by rfl) ?_; simp only [chain, Obs, List.getElem?_toArray, List.getElem?_cons_zero, List.getElem?_cons_succ]
  go_wp2_with (first
    | (with_reducible refine And.intro (by first | with_reducible exact True.intro | with_reducible rfl | go_simp) ?_)
    | (go_at_call 31; refine (HAg.out _ hbd).mono ?_; rintro e w1 ⟨rfl, rfl⟩))
  refine NoPanic.normal ?_
  go_wp2_with fail
  refine wp_region_chain 95 [0, 1, 3, 7, 0, 16, 48, 112, 255, 511, 1023] [(0, none), (1, none), (2, none), (3, none), (4, none), (5, none), (6, none), (7, none), (8, some []), (9, none), (10, none)] (by kernel_rfl) (by kernel_rfl) (by rfl) ?_; simp only [chain, Obs, List.getElem?_toArray, List.getElem?_cons_zero, List.getElem?_cons_succ]
  go_wp2_with (first
    | (with_reducible refine And.intro (by first | with_reducible exact True.intro | with_reducible rfl | go_simp) ?_)
    | (go_at_call 82; with_reducible refine (HM.out _ hbd.drew).mono ?_; rintro e w1 ⟨⟨fa, fc, rfl⟩, hb1⟩
       have Hb2 := Lib.hid (hbd.drew.trans (hb1.mono (Nat.le_refl _)))
       clear hb1))
  refine NoPanic.normal ?_
  go_wp2_with fail
  go_ret
  exact ⟨rfl, NextTo.same H.out Hx.out Hd.out Hb2.out⟩
/-- What the next stage does, whatever befell the try. -/
theorem StNextX (h : CSt w0 w F c p b r s) (hx : TryAt w0 w t G c x x.stage) (hd : ∀ j, cfoot F c p r j → j ≠ t ∧ ¬ G j) (hok : TryOk x) (ht : TagOk s.tag) (hk : OkS K s.q) (hg : goodF (formR s.q) = true) (hlt : x.stage < 5) (he : TryEx x s) :
    Calls Tryz.prog 61 #[.pointer (some ⟨t, 0, none⟩), .int .i64 (x.stage + 1)] w fun e w' => e = .returned (.int .i64 (x.next s (x.stage + 1)).2.2) ∧ NextTo w0 w F c p r t G (x.next s (x.stage + 1)).1 (if (x.next s (x.stage + 1)).2.2 = 0 then x.stage + 1 else 0) (x.next s (x.stage + 1)).2.1 w' := by
  by_cases hc : x.stage = 3 ∧ s.age = x.age ∧ x.fo 4 = false ∧ formR x.S ≠ formR s.q
  · obtain ⟨h3, ha, hfo, hr⟩ := hc
    obtain ⟨q1, q2, -⟩ := hok.que (by omega) (by omega)
    have e : x.next s (x.stage + 1) = (x, s, 11) := by
      unfold TryS.next
      rw [h3, if_neg (by rintro ⟨-, hn⟩; exact hn ha), if_neg (by show ¬ x.fo 4 = true; rw [hfo]; simp), if_neg (by decide), if_neg (by decide), if_neg (by decide), if_pos (by decide), if_neg hr]
    rw [e]
    simp only
    rw [if_neg (show ¬ (11 : Int) = 0 by decide)]
    rw [h3] at hx ⊢
    exact StNext4_no h hx hd ht hok.tag hk q1 hg q2 hr ha hfo
  · refine StNext h hx hd hok ht hk hg hlt (fun h3 ha hfo => ?_)
    by_cases h4 : x.stage = 4
    · exact he.que h4 ha
    · have e3 : x.stage = 3 := by omega
      rw [e3] at hfo
      exact Classical.byContradiction fun hr => hc ⟨e3, ha, hfo, hr⟩
theorem StStepX (h : CSt w0 w F c p b r s) (hx : TryAt w0 w t G c x x.stage) (hd : ∀ j, cfoot F c p r j → j ≠ t ∧ ¬ G j) (hok : TryOk x) (ht : TagOk s.tag) (hk : OkS K s.q) (hg : goodF (formR s.q) = true) (he : TryEx x s) :
    Calls Tryz.prog 36 #[.pointer (some ⟨t, 0, none⟩)] w fun e w' => e = .returned (.tuple #[.int .i64 (x.step s).1.stage, .int .i64 (x.step s).1.why]) ∧ NextTo w0 w F c p r t G (x.step s).1 (x.step s).1.stage (x.step s).2 w' :=
  StStep_of h hx hd hok (fun hl => StNextX h hx hd hok ht hk hg hl he)
end
end Go.Proofs.YtlgkkolgdjgclaaGreat
/- An attempt: plain. -/
namespace Go.Proofs.YtlgkkolgdjgclaaGreat
open Go.RowKit Go.Shelf Go.Maps
set_option linter.unusedVariables false
set_option linter.unusedSimpArgs false

/-- What is known of all tries and their cores, whatever befell them. -/
structure SwKx (s : SysS) (z : SwS) : Prop where
  ok : SwOk s.cores.length z
  ex : ∀ (i c : Nat) x d, z.all[i]? = some (c, x) → s.cores[c]? = some d → x.stage < 5 → TryEx x d
theorem set_get {z : SwS} {i : Nat} {y : TryS} {j c : Nat} {x : TryS} (h : (z.set i y).all[j]? = some (c, x)) : (i = j ∧ x = y ∧ ∃ x', z.all[j]? = some (c, x')) ∨ (i ≠ j ∧ z.all[j]? = some (c, x)) := by
  simp only [SwS.set, List.getElem?_modify] at h
  cases hq : z.all[j]? with
  | none => rw [hq] at h; simp at h
  | some p =>
    rw [hq] at h
    by_cases e : i = j
    · simp [e] at h
      exact .inl ⟨e, h.2.symm, p.2, by rw [← h.1]⟩
    · simp [e] at h
      exact .inr ⟨e, by rw [h]⟩
theorem setC_get {s : SysS} {c : Nat} {d' : CoreS} {j : Nat} {d : CoreS} (h : (s.setC c d').cores[j]? = some d) : (c = j ∧ d = d') ∨ (c ≠ j ∧ s.cores[j]? = some d) := by
  simp only [SysS.setC, List.getElem?_set] at h
  by_cases e : c = j
  · rw [if_pos e] at h
    split at h
    · cases h; exact .inl ⟨e, rfl⟩
    · cases h
  · rw [if_neg e] at h
    exact .inr ⟨e, h⟩
theorem SwOk.put {n : Nat} {z : SwS} (h : SwOk n z) {i c : Nat} {x y : TryS} (hx : z.all[i]? = some (c, x)) (hy : TryOk y) (h5 : y.stage < 5 → x.stage < 5) : SwOk n (z.set i y) := by
  refine ⟨fun k => ?_, h.low, fun j k v hv hs => ?_, fun j k v hv => ?_⟩
  · rcases h.lst k with e | ⟨v, hv, hr⟩
    · exact .inl e
    · by_cases e : i = (z.lst k).toNat
      · refine .inr ⟨y, ?_, hr⟩
        show (z.set i y).all[(z.lst k).toNat]? = _
        simp only [SwS.set, List.getElem?_modify, hv, e]; simp
      · refine .inr ⟨v, ?_, hr⟩
        show (z.set i y).all[(z.lst k).toNat]? = _
        simp only [SwS.set, List.getElem?_modify, hv]; simp [e]
  · rcases set_get hv with ⟨rfl, rfl, x', hx'⟩ | ⟨-, hv'⟩
    · rw [hx] at hx'
      cases hx'
      exact h.opn i c x hx (h5 hs)
    · exact h.opn j k v hv' hs
  · rcases set_get hv with ⟨rfl, rfl, x', hx'⟩ | ⟨-, hv'⟩
    · exact ⟨hy, (h.tok _ _ _ hx').2⟩
    · exact h.tok j k v hv'
theorem SwKx.put {s : SysS} {z : SwS} (h : SwKx s z) {i c : Nat} {x y : TryS} {d' : CoreS} (hx : z.all[i]? = some (c, x)) (h5 : x.stage < 5) (hy : TryOk y) (he : y.stage < 5 → TryEx y d') : SwKx (s.setC c d') (z.set i y) := by
  have hl : (s.setC c d').cores.length = s.cores.length := by simp [SysS.setC]
  refine ⟨by rw [hl]; exact h.ok.put hx hy (fun _ => h5), fun j k v e hv hk hs => ?_⟩
  rcases set_get hv with ⟨rfl, rfl, x', hx'⟩ | ⟨hne, hv'⟩
  · rw [hx] at hx'
    cases hx'
    rcases setC_get hk with ⟨-, rfl⟩ | ⟨hn, -⟩
    · exact he hs
    · exact absurd rfl hn
  · rcases setC_get hk with ⟨rfl, rfl⟩ | ⟨-, hk'⟩
    · have a1 := h.ok.opn j c v hv' hs
      have a2 := h.ok.opn i c x hx h5
      omega
    · exact h.ex j k v e hv' hk' hs
theorem SwOk.addT {n : Nat} {z : SwS} (h : SwOk n z) {c : Nat} {x : TryS} (hx : TryOk x) (hc : c < n) (ho : z.opn c = false) : SwOk n (z.add c x) := by
  have old : ∀ (j k : Nat) v, z.all[j]? = some (k, v) → (z.add c x).all[j]? = some (k, v) := fun j k v hv => by
    show (z.all ++ [(c, x)])[j]? = _
    rw [List.getElem?_append_left (List.getElem?_eq_some_iff.1 hv).1]; exact hv
  have get : ∀ (j k : Nat) v, (z.add c x).all[j]? = some (k, v) → (j = z.all.length ∧ k = c ∧ v = x) ∨ z.all[j]? = some (k, v) := fun j k v hv => by
    have hv : (z.all ++ [(c, x)])[j]? = some (k, v) := hv
    by_cases e : j < z.all.length
    · rw [List.getElem?_append_left e] at hv; exact .inr hv
    · rw [List.getElem?_append_right (by omega)] at hv
      have : j - z.all.length = 0 := Classical.byContradiction fun hne => by
        rw [List.getElem?_eq_none (by simp; omega)] at hv; cases hv
      rw [this] at hv
      simp at hv
      exact .inl ⟨by omega, hv.1.symm, hv.2.symm⟩
  have lst : ∀ k, (z.add c x).lst k = if k = (c : Int) then (z.all.length : Int) else z.lst k := fun k => rfl
  refine ⟨fun k => ?_, fun k => ?_, fun j k v hv hs => ?_, fun j k v hv => ?_⟩
  · rw [lst]
    by_cases e : k = (c : Int)
    · rw [if_pos e]
      refine .inr ⟨x, ?_, by omega, by omega⟩
      show (z.all ++ [(c, x)])[_]? = _
      rw [Int.toNat_natCast, e, Int.toNat_natCast]
      simp
    · rw [if_neg e]
      rcases h.lst k with e2 | ⟨v, hv, hr⟩
      · exact .inl e2
      · exact .inr ⟨v, old _ _ _ hv, hr⟩
  · rw [lst]
    split
    · omega
    · exact h.low k
  · rw [lst]
    rcases get j k v hv with ⟨rfl, rfl, rfl⟩ | hv'
    · rw [if_pos rfl]
    · have hl := h.opn j k v hv' hs
      by_cases e : (k : Int) = (c : Int)
      · exfalso
        have e2 : k = c := by omega
        subst e2
        unfold SwS.opn at ho
        rw [hl, if_neg (by omega), Int.toNat_natCast, hv'] at ho
        simp at ho
        omega
      · rw [if_neg e]; exact hl
  · rcases get j k v hv with ⟨rfl, rfl, rfl⟩ | hv'
    · exact ⟨hx, hc⟩
    · exact h.tok j k v hv'
theorem add_get {z : SwS} {c : Nat} {x : TryS} {j k : Nat} {v : TryS} (hv : (z.add c x).all[j]? = some (k, v)) : (j = z.all.length ∧ k = c ∧ v = x) ∨ z.all[j]? = some (k, v) := by
  have hv : (z.all ++ [(c, x)])[j]? = some (k, v) := hv
  by_cases e : j < z.all.length
  · rw [List.getElem?_append_left e] at hv; exact .inr hv
  · rw [List.getElem?_append_right (by omega)] at hv
    have : j - z.all.length = 0 := Classical.byContradiction fun hne => by
      rw [List.getElem?_eq_none (by simp; omega)] at hv; cases hv
    rw [this] at hv
    simp at hv
    exact .inl ⟨by omega, hv.1.symm, hv.2.symm⟩
theorem SwKx.addT {s : SysS} {z : SwS} (h : SwKx s z) {c : Nat} {x : TryS} (hx : TryOk x) (hc : c < s.cores.length) (ho : z.opn c = false) (he : ∀ d, s.cores[c]? = some d → TryEx x d) : SwKx s (z.add c x) := by
  refine ⟨h.ok.addT hx hc ho, fun j k v d hv hd hs => ?_⟩
  rcases add_get hv with ⟨rfl, rfl, rfl⟩ | hv'
  · exact he d hd
  · exact h.ex j k v d hv' hd hs
theorem SwOk.none (n : Nat) : SwOk n SwS.new := ⟨fun c => .inl (by simp [SwS.new]), fun c => by simp [SwS.new], fun i c x hx => by simp [SwS.new] at hx, fun i c x hx => by simp [SwS.new] at hx⟩
theorem SwKx.new (s : SysS) : SwKx s SwS.new := ⟨SwOk.none _, fun i c x d hx => by simp [SwS.new] at hx⟩

theorem openB_err (b : List Int) : (openB b).2.2 = 0 ∨ (openB b).2.2 = 8 ∨ (openB b).2.2 = 9 := by
  unfold openB
  split
  · simp
  · split <;> simp
theorem getB_err (b : List Int) : (getB b).2.2 = 0 ∨ (getB b).2.2 = 8 ∨ (getB b).2.2 = 9 ∨ (getB b).2.2 = 10 ∨ (getB b).2.2 = 11 := by
  have h := openB_err b
  unfold getB
  split
  · simp only; omega
  · split
    · simp
    · split
      · simp
      · split <;> simp
theorem upB_err (b : List Int) : (upB b).2 = 0 ∨ (upB b).2 = 8 ∨ (upB b).2 = 9 ∨ (upB b).2 = 10 ∨ (upB b).2 = 11 := by
  have h := openB_err b
  have h2 := getB_err b
  unfold upB
  split
  · simp only; omega
  · split
    · split
      · simp only; omega
      · simp
    · split
      · simp
      · split
        · simp
        · split
          · simp
          · split <;> simp
theorem readE_err (b : List Int) : (readE b).2.2 = 0 ∨ (readE b).2.2 = 8 ∨ (readE b).2.2 = 9 ∨ (readE b).2.2 = 10 ∨ (readE b).2.2 = 11 := by
  unfold readE
  split
  · simp only; exact upB_err b
  · exact getB_err _
/-- A try behind some rounds, its core left alone. -/
structure FInv (tag base : Int) (d : CoreS) (p : TryS × CoreS) : Prop where
  ok : TryOk p.1
  tg : p.1.tag = tag ∧ p.1.base = base
  st : (p.1.stage < 5 ∧ p.2 = d ∧ p.1.why = 0 ∧ (1 ≤ p.1.stage → p.1.age = d.age) ∧ TryEx p.1 d) ∨
    (p.1.stage = 6 ∧ p.2 = d ∧ (p.1.why = 8 ∨ p.1.why = 9 ∨ p.1.why = 10 ∨ p.1.why = 11 ∨ p.1.why = 13)) ∨
    (p.1.stage = 5 ∧ p.1.why = 0 ∧ p.2 = { d with tag := tag, q := seedR (formR d.q) base })
section
variable {tag base : Int} {d : CoreS} {x : TryS} {d' : CoreS} {l : List Bl}
theorem FInv.new (ht : TagOk tag) (hb : 0 ≤ base ∧ base ≤ 1000000000) (h0 : 0 ≤ d.age) : FInv tag base d (TryS.new tag base, d) :=
  ⟨⟨ht, hb, by simp [TryS.new], by simp [TryS.new], by simp [TryS.new], by simp [TryS.new]⟩, ⟨rfl, rfl⟩, .inl ⟨by simp [TryS.new], rfl, rfl, by simp [TryS.new], TryEx.new h0⟩⟩
theorem FInv.strike (h : FInv tag base d (x, d')) {b : Bl} (hy : Byte b.y) : FInv tag base d ((x.strike b).1, d') := by
  obtain ⟨a1, a2, a3, a4, a5⟩ := x.strike_is b
  refine ⟨h.ok.strike hy, ⟨a1.trans h.tg.1, a2.trans h.tg.2⟩, ?_⟩
  have hst := h.st
  simp only at hst ⊢
  rcases a5 with ⟨e1, e2⟩ | ⟨e0, e1, e2⟩
  · rcases hst with ⟨b1, b2, b3, b4, b5⟩ | ⟨b1, b2, b3⟩ | ⟨b1, b2, b3⟩
    · exact .inl ⟨by rw [e1]; exact b1, b2, e2.trans b3, by rw [e1, a3]; exact b4, b5.strike b⟩
    · exact .inr (.inl ⟨e1.trans b1, b2, by rw [e2]; exact b3⟩)
    · exact .inr (.inr ⟨e1.trans b1, e2.trans b2, b3⟩)
  · rcases hst with ⟨b1, b2, b3, b4, b5⟩ | ⟨b1, b2, b3⟩ | ⟨b1, b2, b3⟩
    · exact .inr (.inl ⟨e1, b2, by rw [e2]; simp⟩)
    · omega
    · omega
theorem FInv.strikes : ∀ (l : List Bl) {x : TryS}, FInv tag base d (x, d') → (∀ b ∈ l, Byte b.y) → FInv tag base d (x.strikes l, d')
  | [], _, h, _ => h
  | b :: l, x, h, hl => FInv.strikes l (x := (x.strike b).1) (h.strike (hl b (by simp))) (fun c hc => hl c (by simp [hc]))
theorem FInv.step (h : FInv tag base d (x, d')) (hg : goodC d.tag (formR d.q) = true) : FInv tag base d (x.step d') := by
  obtain ⟨s1, s2⟩ := h.ok.st
  rcases h.st with ⟨b1, b2, b3, b4, b5⟩ | ⟨b1, b2, b3⟩ | ⟨b1, b2, b3⟩
  · simp only at b1 b2 b3 b4 b5 s1
    subst b2
    obtain ⟨n1, n2, n3, n4, n5⟩ := x.next_is d' (x.stage + 1)
    have tg : (x.step d').1.tag = tag ∧ (x.step d').1.base = base := by
      unfold TryS.step
      rw [if_neg (by omega)]
      split
      · exact ⟨n3.trans h.tg.1, n4.trans h.tg.2⟩
      · exact ⟨n3.trans h.tg.1, n4.trans h.tg.2⟩
    refine ⟨h.ok.step hg, tg, ?_⟩
    have hex := b5.step h.ok
    rcases x.step_cases d' b1 s1 with ⟨c1, c2, c3, c4⟩ | ⟨c1, c2, c3, c4⟩
    · by_cases h4 : x.stage = 4
      · refine .inr (.inr ⟨by omega, c2.trans b3, ?_⟩)
        have e : x.next d' (x.stage + 1) = (x, { d' with tag := x.tag, q := x.S }, 0) := by
          have ha := b4 (by omega)
          have hf := b5.que h4 ha.symm
          revert c3
          rw [h4]
          unfold TryS.next
          rw [if_neg (by rintro ⟨-, hn⟩; exact hn ha.symm)]
          split
          · intro hh; simp at hh
          · intro _
            rw [if_neg (by decide), if_neg (by decide), if_neg (by decide), if_neg (by decide)]
        rw [c4, e]
        simp only
        have hS := b5.sed (by omega) (by omega)
        rw [b5.que h4 (b4 (by omega)).symm] at hS
        obtain ⟨t1, t2⟩ := h.tg
        simp only at t1 t2
        rw [t1]
        rw [t2] at hS
        rw [hS]
      · have e : (x.step d').2 = d' := by
          rcases x.step_core d' with e | ⟨e, -⟩ | e
          · exact e
          · exact absurd e h4
          · exact absurd s1 e
        refine .inl ⟨by omega, e, c2.trans b3, fun _ => ?_, by rw [e] at hex; exact hex⟩
        rw [c4]
        by_cases h0 : x.stage = 0
        · revert c3
          rw [h0]
          unfold TryS.next
          rw [if_neg (by rintro ⟨hh, -⟩; exact absurd hh (by decide))]
          split
          · intro hh; simp at hh
          · intro _; rfl
        · have ha := b4 (by omega)
          show (x.next d' (x.stage + 1)).1.age = d'.age
          have hm1 : ¬ x.stage + 1 = 1 := by omega
          unfold TryS.next
          repeat' split
          all_goals first | exact ha | (rename_i e1 _; exact absurd e1 hm1) | (rename_i e1; exact absurd e1 hm1)
    · refine .inr (.inl ⟨c1, c4, ?_⟩)
      rw [c2]
      rw [c2] at c3
      revert c3
      unfold TryS.next
      split
      · rename_i e; exact absurd (b4 (by omega)).symm e.2
      · split
        · intro _; simp
        · split
          · intro hn; exact absurd rfl hn
          · split
            · intro hn; exact absurd rfl hn
            · split
              · split
                · intro hn; exact absurd rfl hn
                · intro hn
                  rcases readE_err x.b with e | e | e | e | e
                  · exact absurd e hn
                  all_goals (simp only; omega)
              · split
                · split
                  · intro hn; exact absurd rfl hn
                  · intro _; simp
                · split
                  · intro hn; exact absurd rfl hn
                  · rename_i e1 e2 e3 e4 e5 e6
                    exact absurd (b5.que (by omega) (b4 (by omega)).symm) e6
  · have e : x.step d' = (x, d') := by unfold TryS.step; rw [if_pos (by simp only at b1; omega)]
    rw [e]; exact h
  · have e : x.step d' = (x, d') := by unfold TryS.step; rw [if_pos (by simp only at b1; omega)]
    rw [e]; exact h
theorem FInv.rounds (h : FInv tag base d (x, d')) (hl : ∀ b ∈ l, Byte b.y) (hg : goodC d.tag (formR d.q) = true) : ∀ k, FInv tag base d (TryS.rounds l (x, d') k)
  | 0 => h
  | k + 1 => by
    have h1 := h.rounds hl hg k
    exact (FInv.strikes l (x := (TryS.rounds l (x, d') k).1) (d' := (TryS.rounds l (x, d') k).2) h1 hl).step hg
/-- A round takes a try on. -/
theorem FInv.on {p : TryS × CoreS} (h : FInv tag base d p) (hl : ∀ b ∈ l, Byte b.y) : 5 ≤ (TryS.round l p).1.stage ∨ p.1.stage < (TryS.round l p).1.stage := by
  have h2 := FInv.strikes l (x := p.1) (d' := p.2) h hl
  have key : ∀ (l : List Bl) (x : TryS), (x.strikes l).stage = x.stage ∨ 5 ≤ (x.strikes l).stage := fun l => by
    induction l with
    | nil => exact fun x => .inl rfl
    | cons b l ih =>
      intro x
      have e : x.strikes (b :: l) = (x.strike b).1.strikes l := rfl
      rw [e]
      obtain ⟨-, -, -, -, a5⟩ := x.strike_is b
      rcases ih (x.strike b).1 with i1 | i1
      · rcases a5 with ⟨e1, -⟩ | ⟨-, e1, -⟩
        · exact .inl (i1.trans e1)
        · exact .inr (by omega)
      · exact .inr i1
  unfold TryS.round
  by_cases h5 : (p.1.strikes l).stage < 5
  · have hs := h2.ok.st.1
    rcases key l p.1 with e | e
    · rcases (p.1.strikes l).step_cases p.2 h5 hs with ⟨c1, -⟩ | ⟨c1, -⟩
      · right; omega
      · left; omega
    · omega
  · left
    have e : (p.1.strikes l).step p.2 = (p.1.strikes l, p.2) := by unfold TryS.step; rw [if_pos (by omega)]
    rw [e]; simp only; omega
theorem strike_end (x : TryS) (b : Bl) (h : 5 ≤ x.stage) : (x.strike b).1 = x := by
  unfold TryS.strike TryS.spoil TryS.cut TryS.force TryS.abort
  repeat' split
  all_goals first | rfl | omega
theorem strikes_end (h : 5 ≤ x.stage) : ∀ l : List Bl, x.strikes l = x
  | [] => rfl
  | b :: l => by
    show (x.strike b).1.strikes l = x
    rw [strike_end x b h]; exact strikes_end h l
theorem round_end {p : TryS × CoreS} (h : 5 ≤ p.1.stage) : TryS.round l p = p := by
  unfold TryS.round
  rw [strikes_end h]
  unfold TryS.step
  rw [if_pos h]
theorem rounds_end {p : TryS × CoreS} {k : Nat} (h : 5 ≤ (TryS.rounds l p k).1.stage) : ∀ m, TryS.rounds l p (k + m) = TryS.rounds l p k
  | 0 => rfl
  | m + 1 => by
    show TryS.round l (TryS.rounds l p (k + m)) = _
    rw [rounds_end h m]; exact round_end h
theorem rounds_stage (ht : TagOk tag) (hb : 0 ≤ base ∧ base ≤ 1000000000) (h0 : 0 ≤ d.age) (hl : ∀ b ∈ l, Byte b.y) (hg : goodC d.tag (formR d.q) = true) : ∀ k : Nat, 5 ≤ (TryS.rounds l (TryS.new tag base, d) k).1.stage ∨ (k : Int) ≤ (TryS.rounds l (TryS.new tag base, d) k).1.stage
  | 0 => .inr (Int.le_refl _)
  | k + 1 => by
    have hf := (FInv.new ht hb h0).rounds hl hg k
    have ho := hf.on hl
    show 5 ≤ (TryS.round l (TryS.rounds l (TryS.new tag base, d) k)).1.stage ∨ _ ≤ (TryS.round l (TryS.rounds l (TryS.new tag base, d) k)).1.stage
    rcases rounds_stage ht hb h0 hl hg k with e | e
    · rw [round_end e]; exact .inl e
    · rcases ho with e2 | e2
      · exact .inl e2
      · exact .inr (by omega)
end
/-- An attempt: all tries, the system, was it done, why not. -/
def SwS.attT (z : SwS) (s : SysS) (c tag : Int) (l : List Bl) : SwS × SysS × Bool × Int :=
  if (z.openT s c tag).2 = 0 then
    ((z.openT s c tag).1.set z.all.length (TryS.rounds l (TryS.new tag (1000 * (z.all.length : Int)), s.core c) 5).1, s.setC c.toNat (TryS.rounds l (TryS.new tag (1000 * (z.all.length : Int)), s.core c) 5).2,
      decide ((TryS.rounds l (TryS.new tag (1000 * (z.all.length : Int)), s.core c) 5).1.stage = 5), (TryS.rounds l (TryS.new tag (1000 * (z.all.length : Int)), s.core c) 5).1.why)
  else ((z.openT s c tag).1, s, false, (z.openT s c tag).2)
end Go.Proofs.YtlgkkolgdjgclaaGreat
/- An attempt, in memory. -/
namespace Go.Proofs.YtlgkkolgdjgclaaGreat
open Go.RowKit Go.Shelf Go.Maps
set_option linter.unusedVariables false
set_option linter.unusedSimpArgs false

section
variable {w0 w w' w1 : World} {F : Nat → Prop} {c p b r : Nat} {s : CoreS} {t : Nat} {G : Nat → Prop} {x : TryS} {lv : Int}
theorem NextTo.from {y : TryS} {s' : CoreS} (hb : Below w.heap.size w w1) (h : NextTo w0 w1 F c p r t G y lv s' w') : NextTo w0 w F c p r t G y lv s' w' := by
  obtain ⟨G', F', p', b', a1, a2, a3, a4, a5, a6⟩ := h
  exact ⟨G', F', p', b', a1, a2, (Fr.of_below hb).trans a3 (fun j _ e => e), fun j hj => (a4 j hj).imp id (fun e => Nat.le_trans hb.size e), a5, a6⟩
theorem callsFrom {Fn : FuncId} {args : Array Value} {v : Ending} {y : TryS} {s' : CoreS} (hb : Below w.heap.size w w1) (h : Calls Tryz.prog Fn args w1 fun e w' => e = v ∧ NextTo w0 w1 F c p r t G y lv s' w') : Calls Tryz.prog Fn args w1 fun e w' => e = v ∧ NextTo w0 w F c p r t G y lv s' w' :=
  h.mono fun e w' h => ⟨h.1, h.2.from hb⟩
theorem TryAt.force (h : TryAt w0 w t G c x lv) {m : Nat} (hm : 1 ≤ m ∧ m ≤ 5) : TryAt w0 (w.setCell ⟨t, 8 + m, none⟩ (.bool true)) t G c { x with fo := TryS.updF x.fo m } lv := by
  obtain ⟨a, n, k, q, h1, h2, h3⟩ := h.cell
  have hf : Fr (fun j => j = t) w (w.setCell ⟨t, 8 + m, none⟩ (.bool true)) := (Fr.refl (fun j => j = t) w).setCell (p := ⟨t, 8 + m, none⟩) (fun _ => rfl) _
  refine ⟨⟨a, n, k, q, ?_, fun e => ?_, fun e => ?_⟩, h.tG, h.newt, fun j hj => ⟨(h.new j hj).1, by have := (h.new j hj).2; simpa using this⟩⟩
  · obtain rfl | rfl | rfl | rfl | rfl : m = 1 ∨ m = 2 ∨ m = 3 ∨ m = 4 ∨ m = 5 := by omega
    all_goals
      refine (heap_set h1 _).trans ?_
      simp [tryCells, TryS.updF]
  · obtain ⟨g1, g2, g3⟩ := h2 e
    exact ⟨g1, own_fr g2 hf (fun j hj e => by subst e; exact h.tG (g3 _ hj)), g3⟩
  · obtain ⟨p2, H, b2, g1, g2, g3⟩ := h3 e
    exact ⟨p2, H, b2, g1, g2.fr hf (fun j hj e => by subst e; exact h.tG (g3 _ (.inl hj))) (fun e => h.tG (by rw [← e]; exact g3 _ (.inr rfl))) (fun j e => by rw [e]; exact h.newt), g3⟩
set_option maxHeartbeats 1600000 in
set_option maxRecDepth 100000 in
theorem StForceM (h : CSt w0 w F c p b r s) (hx : TryAt w0 w t G c x x.stage) (hd : ∀ j, cfoot F c p r j → j ≠ t ∧ ¬ G j) (hok : TryOk x) (m : Int) :
    Calls Tryz.prog 43 #[.pointer (some ⟨t, 0, none⟩), .int .i64 m] w fun e w' => e = .returned (.bool (x.force m).2) ∧ NextTo w0 w F c p r t G (x.force m).1 (x.force m).1.stage s w' := by
  have HS := Lib.hid (NextTo.same h hx hd (Below.refl _ _))
  have HO := Lib.hid (fun (W : World) (hW : Below w.heap.size w W) => StOver (hx.below hW))
  obtain ⟨⟨c0, c3, c4⟩, ⟨f3, f4⟩, tl⟩ := hx.cells
  have hst := hok.st
  by_cases h5 : 5 ≤ x.stage
  · have e : x.force m = (x, false) := by unfold TryS.force; rw [if_neg (by omega)]
    rw [e]
    rw [decide_eq_true h5] at HO
    clear h hx hd hok e
    go_enter Tryz.func43, Tryz.ntmps43
    go_wp2_with (first
      | (go_at_call 60; refine (HO.out _ (Below.refl _ _)).mono ?_; rintro e w1 ⟨rfl, rfl⟩))
    go_ret
    exact ⟨rfl, HS.out⟩
  · rw [decide_eq_false h5] at HO
    by_cases m1 : m < 1
    · have e : x.force m = (x, false) := by unfold TryS.force; rw [if_neg (by omega)]
      rw [e]
      clear h hx hd hok e
      go_enter Tryz.func43, Tryz.ntmps43
      go_wp2_with (first
        | (go_at_call 60; refine (HO.out _ (Below.refl _ _)).mono ?_; rintro e w1 ⟨rfl, rfl⟩))
      go_ret
      exact ⟨rfl, HS.out⟩
    · by_cases m5 : 5 < m
      · have e : x.force m = (x, false) := by unfold TryS.force; rw [if_neg (by omega)]
        rw [e]
        clear h hx hd hok e
        go_enter Tryz.func43, Tryz.ntmps43
        go_wp2_with (first
          | (go_at_call 60; refine (HO.out _ (Below.refl _ _)).mono ?_; rintro e w1 ⟨rfl, rfl⟩))
        go_ret
        exact ⟨rfl, HS.out⟩
      · by_cases ms : m ≤ x.stage
        · have e : x.force m = (x, false) := by unfold TryS.force; rw [if_neg (by omega)]
          rw [e]
          clear h hx hd hok e
          go_enter Tryz.func43, Tryz.ntmps43
          go_wp2_with (first
            | (go_at_call 60; refine (HO.out _ (Below.refl _ _)).mono ?_; rintro e w1 ⟨rfl, rfl⟩))
          go_ret
          exact ⟨rfl, HS.out⟩
        · obtain ⟨k, rfl⟩ : ∃ k : Nat, m = k := ⟨m.toNat, by omega⟩
          have e : x.force k = ({ x with fo := TryS.updF x.fo k }, true) := by unfold TryS.force; rw [if_pos (by omega), Int.toNat_natCast]
          rw [e]
          have hfr : Fr (fun j => j = t) w (w.setCell ⟨t, 8 + k, none⟩ (.bool true)) := (Fr.refl (fun j => j = t) w).setCell (p := ⟨t, 8 + k, none⟩) (fun _ => rfl) _
          have HR := Lib.hid (NextTo.own (y := { x with fo := TryS.updF x.fo k }) h hx hd (hfr.mono fun _ _ e => .inl e) (lv' := x.stage) (hx.force (m := k) (by omega)))
          have fz : w.frozen? ⟨t, 8 + k, none⟩ = false := by
            obtain ⟨a, n, kk, q, h1, -⟩ := hx.cell
            simp [World.frozen?, h1]
          have cz : w.cell? ⟨t, 8 + k, none⟩ = some (.bool (x.fo k)) := by
            obtain ⟨a, n, kk, q, h1, -⟩ := hx.cell
            obtain rfl | rfl | rfl | rfl | rfl : k = 1 ∨ k = 2 ∨ k = 3 ∨ k = 4 ∨ k = 5 := by omega
            all_goals simp [World.cell?, h1, tryCells]
          have hk6 : k < 6 := by omega
          have hk0 : (0 : Int) ≤ k := by omega
          have hk6i : (k : Int) < 6 := by omega
          clear h hx hd hok e hfr
          go_enter Tryz.func43, Tryz.ntmps43
          go_wp2_with (first
            | (go_at_call 60; refine (HO.out _ (Below.refl _ _)).mono ?_; rintro e w1 ⟨rfl, rfl⟩))
          go_ret
          exact ⟨rfl, HR.out⟩
set_option maxHeartbeats 1600000 in
set_option maxRecDepth 100000 in
theorem StStrike (h : CSt w0 w F c p b r s) (hx : TryAt w0 w t G c x x.stage) (hd : ∀ j, cfoot F c p r j → j ≠ t ∧ ¬ G j) (hok : TryOk x) (B : Bl) :
    Calls Tryz.prog 23 #[.pointer (some ⟨t, 0, none⟩), .agg #[.int .i64 B.op, .int .i64 B.st, .int .i64 B.ix, .int .u8 B.y]] w fun e w' => e = .returned (.bool (x.strike B).2) ∧ NextTo w0 w F c p r t G (x.strike B).1 (x.strike B).1.stage s w' := by
  have hb0 := (Below.refl w.heap.size w).alloc (Nat.le_refl _) (.cells #[.int .i64 B.op, .int .i64 B.st, .int .i64 B.ix, .int .u8 B.y] 44)
  have hbd := hb0.drew
  have HS := Lib.hid (NextTo.same h hx hd hbd)
  have HSg := Lib.hid (fun (W : World) (hW : Below w.heap.size w W) => StStage (hx.below hW))
  have H1 := Lib.hid (fun (W : World) (hW : Below w.heap.size w W) => callsFrom hW (StSpoil (h.below hW) (hx.below hW) hd hok B.ix B.y))
  have H2 := Lib.hid (fun (W : World) (hW : Below w.heap.size w W) => callsFrom hW (StCut (h.below hW) (hx.below hW) hd hok B.ix))
  have H3 := Lib.hid (fun (W : World) (hW : Below w.heap.size w W) => callsFrom hW (StForceM (h.below hW) (hx.below hW) hd hok (B.st + 1)))
  have H4 := Lib.hid (fun (W : World) (hW : Below w.heap.size w W) => callsFrom hW (StAbort (h.below hW) (hx.below hW) hd))
  have hst := hok.st
  obtain ⟨op, st, ix, y⟩ := B
  simp only at *
  have hwr : wrap64 (st + 1) = st + 1 ∨ x.stage ≠ st := by
    by_cases e : x.stage = st
    · exact .inl (IntWalk.wrap64_in _ (by omega))
    · exact .inr e
  clear h hx hd hok
  by_cases hs : x.stage = st
  · replace hwr := hwr.resolve_right (fun h => h hs)
    subst hs
    by_cases o1 : op = 1
    · subst o1
      have e : x.strike ⟨1, x.stage, ix, y⟩ = x.spoil ix y := by unfold TryS.strike; rw [if_pos rfl, if_pos rfl]
      rw [e]
      go_enter Tryz.func23, Tryz.ntmps23
      go_wp2_with fail
      refine wp_region_chain 41 [0, 1, 3, 7, 15, 7, 39, 127, 255] [(0, none), (1, none), (2, none), (3, none), (5, none), (6, none), (4, some [5, 6]), (7, none), (8, none)] (by kernel_rfl) (by kernel_rfl) (by rfl) ?_; simp only [chain, Obs, List.getElem?_toArray, List.getElem?_cons_zero, List.getElem?_cons_succ]
      go_wp2_with (first
        | (with_reducible refine And.intro (by first | with_reducible exact True.intro | with_reducible rfl | go_simp) ?_)
        | (go_at_call 29; refine (HSg.out _ hbd).mono ?_; rintro e w1 ⟨rfl, rfl⟩))
      refine NoPanic.normal ?_
      go_wp2_with (go_at_call 41; refine (H1.out _ (by first | exact hbd | exact hbd.drew)).mono ?_; rintro e w2 ⟨rfl, hn⟩; have HN := Lib.hid hn; clear hn)
      go_ret
      exact ⟨rfl, HN.out⟩
    · by_cases o2 : op = 2
      · subst o2
        have e : x.strike ⟨2, x.stage, ix, y⟩ = x.cut ix := by unfold TryS.strike; rw [if_pos rfl, if_neg o1, if_pos rfl]
        rw [e]
        go_enter Tryz.func23, Tryz.ntmps23
        go_wp2_with fail
        refine wp_region_chain 41 [0, 1, 3, 7, 15, 7, 39, 127, 255] [(0, none), (1, none), (2, none), (3, none), (5, none), (6, none), (4, some [5, 6]), (7, none), (8, none)] (by kernel_rfl) (by kernel_rfl) (by rfl) ?_; simp only [chain, Obs, List.getElem?_toArray, List.getElem?_cons_zero, List.getElem?_cons_succ]
        go_wp2_with (first
          | (with_reducible refine And.intro (by first | with_reducible exact True.intro | with_reducible rfl | go_simp) ?_)
          | (go_at_call 29; refine (HSg.out _ hbd).mono ?_; rintro e w1 ⟨rfl, rfl⟩))
        refine NoPanic.normal ?_
        go_wp2_with (go_at_call 42; refine (H2.out _ (by first | exact hbd | exact hbd.drew)).mono ?_; rintro e w2 ⟨rfl, hn⟩; have HN := Lib.hid hn; clear hn)
        go_ret
        exact ⟨rfl, HN.out⟩
      · by_cases o3 : op = 3
        · subst o3
          have e : x.strike ⟨3, x.stage, ix, y⟩ = x.force (x.stage + 1) := by unfold TryS.strike; rw [if_pos rfl, if_neg o1, if_neg o2, if_pos rfl]
          rw [e]
          go_enter Tryz.func23, Tryz.ntmps23
          go_wp2_with fail
          refine wp_region_chain 41 [0, 1, 3, 7, 15, 7, 39, 127, 255] [(0, none), (1, none), (2, none), (3, none), (5, none), (6, none), (4, some [5, 6]), (7, none), (8, none)] (by kernel_rfl) (by kernel_rfl) (by rfl) ?_; simp only [chain, Obs, List.getElem?_toArray, List.getElem?_cons_zero, List.getElem?_cons_succ]
          go_wp2_with (first
            | (with_reducible refine And.intro (by first | with_reducible exact True.intro | with_reducible rfl | go_simp) ?_)
            | (go_at_call 29; refine (HSg.out _ hbd).mono ?_; rintro e w1 ⟨rfl, rfl⟩))
          refine NoPanic.normal ?_
          go_wp2_with (go_at_call 43; refine (H3.out _ (by first | exact hbd | exact hbd.drew)).mono ?_; rintro e w2 ⟨rfl, hn⟩; have HN := Lib.hid hn; clear hn)
          go_ret
          exact ⟨rfl, HN.out⟩
        · by_cases o4 : op = 4
          · subst o4
            have e : x.strike ⟨4, x.stage, ix, y⟩ = x.abort := by unfold TryS.strike; rw [if_pos rfl, if_neg o1, if_neg o2, if_neg o3, if_pos rfl]
            rw [e]
            go_enter Tryz.func23, Tryz.ntmps23
            go_wp2_with fail
            refine wp_region_chain 41 [0, 1, 3, 7, 15, 7, 39, 127, 255] [(0, none), (1, none), (2, none), (3, none), (5, none), (6, none), (4, some [5, 6]), (7, none), (8, none)] (by kernel_rfl) (by kernel_rfl) (by rfl) ?_; simp only [chain, Obs, List.getElem?_toArray, List.getElem?_cons_zero, List.getElem?_cons_succ]
            go_wp2_with (first
              | (with_reducible refine And.intro (by first | with_reducible exact True.intro | with_reducible rfl | go_simp) ?_)
              | (go_at_call 29; refine (HSg.out _ hbd).mono ?_; rintro e w1 ⟨rfl, rfl⟩))
            refine NoPanic.normal ?_
            go_wp2_with (go_at_call 44; refine (H4.out _ (by first | exact hbd | exact hbd.drew)).mono ?_; rintro e w2 ⟨rfl, hn⟩; have HN := Lib.hid hn; clear hn)
            go_ret
            exact ⟨rfl, HN.out⟩
          · have e : x.strike ⟨op, x.stage, ix, y⟩ = (x, false) := by unfold TryS.strike; rw [if_pos rfl, if_neg o1, if_neg o2, if_neg o3, if_neg o4]
            rw [e]
            go_enter Tryz.func23, Tryz.ntmps23
            go_wp2_with fail
            refine wp_region_chain 41 [0, 1, 3, 7, 15, 7, 39, 127, 255] [(0, none), (1, none), (2, none), (3, none), (5, none), (6, none), (4, some [5, 6]), (7, none), (8, none)] (by kernel_rfl) (by kernel_rfl) (by rfl) ?_; simp only [chain, Obs, List.getElem?_toArray, List.getElem?_cons_zero, List.getElem?_cons_succ]
            go_wp2_with (first
              | (with_reducible refine And.intro (by first | with_reducible exact True.intro | with_reducible rfl | go_simp) ?_)
              | (go_at_call 29; refine (HSg.out _ hbd).mono ?_; rintro e w1 ⟨rfl, rfl⟩))
            refine NoPanic.normal ?_
            go_wp2_with fail
            go_ret
            exact ⟨rfl, HS.out⟩
  · have e : x.strike ⟨op, st, ix, y⟩ = (x, false) := by unfold TryS.strike; rw [if_neg hs]
    rw [e]
    go_enter Tryz.func23, Tryz.ntmps23
    go_wp2_with fail
    refine wp_region_chain 41 [0, 1, 3, 7, 15, 7, 39, 127, 255] [(0, none), (1, none), (2, none), (3, none), (5, none), (6, none), (4, some [5, 6]), (7, none), (8, none)] (by kernel_rfl) (by kernel_rfl) (by rfl) ?_; simp only [chain, Obs, List.getElem?_toArray, List.getElem?_cons_zero, List.getElem?_cons_succ]
    go_wp2_with (first
      | (with_reducible refine And.intro (by first | with_reducible exact True.intro | with_reducible rfl | go_simp) ?_)
      | (go_at_call 29; refine (HSg.out _ hbd).mono ?_; rintro e w1 ⟨rfl, rfl⟩))
    refine NoPanic.normal ?_
    go_wp2_with fail
    go_ret
    exact ⟨rfl, HS.out⟩
end
section
variable {w0 w w' w1 : World} {ow ow1 : Nat → Option Own} {L : Lay} {s s' : SysS} {oz oz1 : Nat → Option OwnW} {M M1 : SwL} {z z1 z' : SwS} {T : Nat}
set_option maxHeartbeats 6400000 in
set_option maxRecDepth 100000 in
theorem SwAttempt (h : SwIn w0 w ow L s oz M z) (hz : SwKx s z) (hk : SysOk T s) (hT : T ≤ 10000000) (hlen : z.all.length ≤ 1000000) {c : Int} (hc : I63 c) (tag : Int) (l : List Bl) (n : Nat) (a : Option Addr) (kc : Nat) (hn : l.length = n) (hm : n ≤ 1000000) (hs : Sl Bl.enc 4 w a l) (hap : l ≠ [] → ∀ p, a = some p → ow p.block = none ∧ oz p.block = none) (hy : ∀ b ∈ l, Byte b.y) :
    Calls Tryz.prog 20 #[.pointer (some ⟨M.b, 0, none⟩), .int .i64 c, .int .i64 tag, .slice a n kc] w fun e w' => e = .returned (.tuple #[.bool (z.attT s c tag l).2.2.1, .int .i64 (z.attT s c tag l).2.2.2]) ∧ SwTo w0 w ow L oz M (z.attT s c tag l).2.1 (z.attT s c tag l).1 w' := by
  have HO := Lib.hid (SwOpenC h hz.ok hlen hc tag)
  by_cases ho : (z.openT s c tag).2 = 0
  · have hin : 0 ≤ c ∧ c < s.cores.length := Classical.byContradiction fun hn => by
      unfold SwS.openT at ho; rw [if_neg hn] at ho; simp at ho
    have hop : z.opn c = false := by
      cases hq : z.opn c with
      | false => rfl
      | true => unfold SwS.openT at ho; rw [if_pos hin, if_pos hq] at ho; simp at ho
    have htag : TagOk tag := Classical.byContradiction fun hn => by
      unfold SwS.openT at ho; rw [if_pos hin, if_neg (by rw [hop]; simp), if_neg hn] at ho; simp at ho
    have eo : z.openT s c tag = (z.add c.toNat (TryS.new tag (1000 * (z.all.length : Int))), 0) := by unfold SwS.openT; rw [if_pos hin, if_neg (by rw [hop]; simp), if_pos htag]
    obtain ⟨d, hd, hde, hdf⟩ := hk.core hin
    have ea : z.attT s c tag l = ((z.add c.toNat (TryS.new tag (1000 * (z.all.length : Int)))).set z.all.length (TryS.rounds l (TryS.new tag (1000 * (z.all.length : Int)), d) 5).1, s.setC c.toNat (TryS.rounds l (TryS.new tag (1000 * (z.all.length : Int)), d) 5).2, decide ((TryS.rounds l (TryS.new tag (1000 * (z.all.length : Int)), d) 5).1.stage = 5), (TryS.rounds l (TryS.new tag (1000 * (z.all.length : Int)), d) 5).1.why) := by
      unfold SwS.attT; rw [if_pos ho, eo, hde]
    rw [ea]
    rw [eo] at HO
    have hgf := good_near hdf.q (by omega)
    have hgc : goodC d.tag (formR d.q) = true := by unfold goodC; rw [hgf, Bool.and_true, decide_eq_true_eq]; have := hdf.tag; unfold TagOk at this; omega
    have hbase : 0 ≤ 1000 * (z.all.length : Int) ∧ 1000 * (z.all.length : Int) ≤ 1000000000 := by omega
    obtain ⟨cn, rfl⟩ : ∃ cn : Nat, c = cn := ⟨c.toNat, by omega⟩
    rw [Int.toNat_natCast] at *
    obtain ⟨i, hi⟩ : ∃ i, z.all.length = i := ⟨_, rfl⟩
    have hzi : (z.add cn (TryS.new tag (1000 * (i : Int)))).all[i]? = some (cn, TryS.new tag (1000 * (i : Int))) := by
      subst hi; simp [SwS.add]
    have hzl : ¬ (z.add cn (TryS.new tag (1000 * (i : Int)))).lst cn < 0 ∧ (z.add cn (TryS.new tag (1000 * (i : Int)))).lst cn = i := by
      subst hi; simp [SwS.add, updP]
    have hzn : (z.add cn (TryS.new tag (1000 * (i : Int)))).all.length = i + 1 := by subst hi; simp [SwS.add]
    rw [hi] at HO hbase ⊢
    generalize hz1 : z.add cn (TryS.new tag (1000 * (i : Int))) = z1 at *
    have HInv := Lib.hid (fun k => (FInv.new (d := d) htag hbase hdf.age.1).rounds hy hgc k)
    have HStg := Lib.hid (fun k => rounds_stage (d := d) htag hbase hdf.age.1 hy hgc k)
    have HOn := Lib.hid (fun k => ((FInv.new (d := d) htag hbase hdf.age.1).rounds hy hgc k).on hy)
    have H := Lib.hid h
    have Hi := Lib.hid hi
    have HD := Lib.hid hd
    have HDf := Lib.hid hdf
    have HGc := Lib.hid hgc
    have HGf := Lib.hid hgf
    have HZi := Lib.hid hzi
    have HZl := Lib.hid hzl
    have HZn := Lib.hid hzn
    have HS := Lib.hid (fun (W : World) (hf : Fr (fun k => ow k ≠ none ∨ oz k ≠ none) w W) => (fun hne => hs.fr hf (fun p hp e => e.elim (fun e => e (hap hne p hp).1) (fun e => e (hap hne p hp).2)) hne : Sl Bl.enc 4 W a l))
    have HHn := Lib.hid hn
    have HHy := Lib.hid hy
    clear h hz hk hlen ho hin hop eo ea hd hde hdf hgf hgc hz1 hi hzi hzl hzn hs hap hn hy
    go_enter Tryz.func20, Tryz.ntmps20
    go_wp2_with (first
      | (go_at_call 21; refine HO.out.mono ?_; rintro e w1 ⟨rfl, ow1, oz1, M1, hb1, ht1, h1, hf1, hn1⟩
         have HTr := Lib.hid (SwTry h1 hc)
         rw [hb1, if_pos (by have := (List.getElem?_eq_some_iff.1 HD.out).1; omega), if_neg HZl.out.1, HZl.out.2, Int.toNat_natCast] at HTr
         have H1 := Lib.hid h1; have Hb1 := Lib.hid hb1; have Ht1 := Lib.hid ht1; have Hf1 := Lib.hid hf1; have Hn1 := Lib.hid hn1
         clear h1 hb1 ht1 hf1 hn1)
      | (go_at_call 22; refine HTr.out.mono ?_; rintro e w2 ⟨rfl, rfl⟩))
    go_loopw [36] (fun _ wr => ∃ (k : Nat) (ow' : Nat → Option Own) (oz' : Nat → Option OwnW) (M' : SwL), k ≤ 5 ∧ M'.b = M.b ∧ (∀ j, oz (M.tb j) = some (.tr j) → M'.tb j = M.tb j) ∧ M'.tb i = M1.tb i ∧ SwIn w0 wr ow' L (s.setC cn (TryS.rounds l (TryS.new tag (1000 * (i : Int)), d) k).2) oz' M' (z1.set i (TryS.rounds l (TryS.new tag (1000 * (i : Int)), d) k).1) ∧ Fr (fun k => ow k ≠ none ∨ oz k ≠ none) w wr ∧ ∀ k, (ow' k ≠ none ∨ oz' k ≠ none) → (ow k ≠ none ∨ oz k ≠ none) ∨ w.heap.size ≤ k) (fun _ wr => 6 - stageW wr (M1.tb i))
    case atStart => exact ⟨0, ow1, oz1, M1, by omega, Hb1.out, Ht1.out, rfl, by rw [show (TryS.rounds l (TryS.new tag (1000 * (i : Int)), d) 0).2 = d from rfl, setC_self HD.out, show (TryS.rounds l (TryS.new tag (1000 * (i : Int)), d) 0).1 = TryS.new tag (1000 * (i : Int)) from rfl, set_self HZi.out]; exact H1.out, Hf1.out, Hn1.out⟩
    case round =>
      obtain ⟨k, ow', oz', M', hk5, hMb, hMt, hMi, h, hf, hn⟩ := hrel
      have hInv := HInv.out k
      have hx : (z1.set i (TryS.rounds l (TryS.new tag (1000 * (i : Int)), d) k).1).all[i]? = some (cn, (TryS.rounds l (TryS.new tag (1000 * (i : Int)), d) k).1) := by
        simp only [SwS.set, List.getElem?_modify, HZi.out]; simp
      have hdk : (s.setC cn (TryS.rounds l (TryS.new tag (1000 * (i : Int)), d) k).2).cores[cn]? = some (TryS.rounds l (TryS.new tag (1000 * (i : Int)), d) k).2 := by
        simp only [SysS.setC, List.getElem?_set, if_true]
        rw [if_pos (List.getElem?_eq_some_iff.1 HD.out).1]
      obtain ⟨bl, F, p, q, r, hbl, hcst, how, htr, hdis⟩ := h.at hx hdk
      have hcell := htr.cells.1.2.1
      have HSg := Lib.hid (StStage htr)
      have HWy := Lib.hid (StWhy htr)
      rw [hMi] at HSg HWy hcell
      have hsw : stageW wr (M1.tb i) = (TryS.rounds l (TryS.new tag (1000 * (i : Int)), d) k).1.stage.toNat := by unfold stageW; rw [hcell]
      have hst := hInv.ok.st
      by_cases hlt : (TryS.rounds l (TryS.new tag (1000 * (i : Int)), d) k).1.stage < 5
      · have hk4 : k < 5 := by
          have := HStg.out k
          omega
        have hco : (TryS.rounds l (TryS.new tag (1000 * (i : Int)), d) k).2 = d := by
          rcases hInv.st with ⟨-, e, -⟩ | ⟨e, -⟩ | ⟨e, -⟩
          · exact e
          · omega
          · omega
        have hOn := HOn.out k
        have hRs : TryS.rounds l (TryS.new tag (1000 * (i : Int)), d) (k + 1) = TryS.round l (TryS.rounds l (TryS.new tag (1000 * (i : Int)), d) k) := rfl
        rw [← hRs] at hOn
        have HRs := Lib.hid hRs
        have HRk := Lib.hid hInv
        have HRn := Lib.hid (HInv.out (k + 1))
        have HH := Lib.hid h
        have HF := Lib.hid hf
        have HNw := Lib.hid hn
        have HMt := Lib.hid hMt
        have HMb := Lib.hid hMb
        have HMi := Lib.hid hMi
        have HSw := Lib.hid hsw
        have HCo := Lib.hid hco
        have HOk' := Lib.hid hOn
        clear h hx hdk hbl hcst how htr hdis hcell hf hn hMt hsw hMb hMi hInv hOn hRs hco
        go_wp2_with (first
          | (go_at_call 29; refine HSg.out.mono ?_; rintro e w2 ⟨rfl, rfl⟩))
        have h0 : SwIn w0 wr ow' L s oz' M' (z1.set i (TryS.rounds l (TryS.new tag (1000 * (i : Int)), d) k).1) := by
          have := HH.out
          rw [HCo.out, setC_self HD.out] at this
          exact this
        have HH0 := Lib.hid h0
        clear h0
        obtain ⟨P, hP⟩ : ∃ P, (TryS.rounds l (TryS.new tag (1000 * (i : Int)), d) k).1 = P := ⟨_, rfl⟩
        have hstk : ∀ j, FInv tag (1000 * (i : Int)) d (P.strikes (l.take j), d) := fun j => by
          have h1 := HRk.out
          have h2 := FInv.strikes (l.take j) (x := (TryS.rounds l (TryS.new tag (1000 * (i : Int)), d) k).1) (d' := (TryS.rounds l (TryS.new tag (1000 * (i : Int)), d) k).2) h1 (fun b hb => HHy.out b (List.mem_of_mem_take hb))
          rw [hP, HCo.out] at h2
          exact h2
        have HStk := Lib.hid hstk
        have hRs := HRs.out
        unfold TryS.round at hRs
        rw [hP, HCo.out] at hRs
        have HRs2 := Lib.hid hRs
        have HPl := Lib.hid (show P.stage < 5 by rw [← hP]; exact hlt)
        rw [hP] at HH0 HSw HOk'
        have HHH := Lib.hid HH0.out
        clear hstk hRs hlt hP HRs HH HRk HCo HSg HWy hst
        go_loopw [36] (fun ix wq => ∃ (j : Nat) (owq : Nat → Option Own) (ozq : Nat → Option OwnW) (Mq : SwL), j ≤ n ∧ ix = .int .i64 j ∧ Mq.b = M.b ∧ (∀ j, oz (M.tb j) = some (.tr j) → Mq.tb j = M.tb j) ∧ Mq.tb i = M1.tb i ∧ SwIn w0 wq owq L s ozq Mq (z1.set i (P.strikes (l.take j))) ∧ Fr (fun k => ow k ≠ none ∨ oz k ≠ none) w wq ∧ ∀ k, (owq k ≠ none ∨ ozq k ≠ none) → (ow k ≠ none ∨ oz k ≠ none) ∨ w.heap.size ≤ k) (fun ix _ => n - (intOf ix).toNat)
        case atStart => exact ⟨0, ow', oz', M', Nat.zero_le _, rfl, HMb.out, HMt.out, HMi.out, HHH.out, HF.out, HNw.out⟩
        case round =>
          obtain ⟨j, owq, ozq, Mq, hjn, rfl, hMb, hMt, hMi, h, hf, hn⟩ := hrel
          have hj0 : (0 : Int) ≤ j := by omega
          have hy5 := HStk.out j
          have hx : (z1.set i (P.strikes (l.take j))).all[i]? = some (cn, P.strikes (l.take j)) := by
            simp only [SwS.set, List.getElem?_modify, HZi.out]; simp
          obtain ⟨bl, F, p, q, r, hbl, hcst, how, htr, hdis⟩ := h.at hx HD.out
          by_cases hlj : j < n
          · have hjn2 : (j : Int) < n := by omega
            obtain ⟨b, hb⟩ : ∃ b, l[j]? = some b := ⟨_, List.getElem?_eq_getElem (by rw [HHn.out]; exact hlj)⟩
            have hss := TryS.strikes_succ hb P
            have HSt := Lib.hid (fun (W : World) (hW : Below wr.heap.size wr W) => callsFrom hW (StStrike (hcst.below hW) (htr.below hW) hdis hy5.ok b))
            rw [← hss, hMi] at HSt
            have hN := fun (W : World) (hn : NextTo w0 wr F bl p r (Mq.tb i) (Mq.G i) (P.strikes (l.take (j + 1))) (P.strikes (l.take (j + 1))).stage d W) => h.next hx HD.out hbl how hn
            rw [setC_self HD.out, set_set, hMi] at hN
            have HN := Lib.hid hN
            obtain ⟨ra, off, rfl, hra, hcr⟩ := (HS.out wr hf) (by intro h0; rw [h0] at hb; simp at hb)
            have e0 := hcr j b hb 0 _ rfl
            have e1 := hcr j b hb 1 _ rfl
            have e2 := hcr j b hb 2 _ rfl
            have e3 := hcr j b hb 3 _ rfl
            simp only [Nat.add_zero] at e0
            have hbq := (Below.refl wr.heap.size wr).alloc (Nat.le_refl _) (.cells #[.int .i64 b.op, .int .i64 b.st, .int .i64 b.ix, .int .u8 b.y] 44)
            have HH := Lib.hid h
            have HF2 := Lib.hid hf
            have HNw2 := Lib.hid hn
            have HMt2 := Lib.hid hMt
            have HMb2 := Lib.hid hMb
            have HMi2 := Lib.hid hMi
            clear h hx hbl hcst how htr hdis hf hn hMt hMb hMi hN hss hcr hy5 hb
            go_wp2_with (first
              | (go_at_call 23; refine (HSt.out _ (by first | exact hbq | exact hbq.drew)).mono ?_; rintro e w2 ⟨rfl, hnx⟩; have HT := Lib.hid (HN.out _ hnx); clear hnx))
            obtain ⟨ow2, oz2, M2, a1, a2, a3, a4, a5⟩ := HT.out
            have hsf := HF2.out.size
            refine ⟨⟨j + 1, ow2, oz2, M2, hlj, by go_num, a1.trans HMb2.out, fun q hq => ?_, (a2 i (HH.out.ot i (by simp [SwS.set, HZn.out]))).trans ?_, a3, HF2.out.trans a4 (fun b hb hx => ?_), fun b hb => ?_⟩, by simp [intOf]; omega⟩
            · have e := HMt2.out q hq
              have hj2 := H.out.otl _ _ hq
              rw [a2 q (HH.out.ot q (by simp [SwS.set, HZn.out]; have := Hi.out; omega)), e]
            · exact HMi2.out
            · rcases HNw2.out b hx with e | e
              · exact e
              · omega
            · rcases a5 b hb with e | e
              · exact HNw2.out b e
              · exact .inr (by omega)
          · obtain rfl : j = n := by omega
            have htk : l.take j = l := by rw [← HHn.out, List.take_length]
            rw [htk] at hy5 hx h htr
            have hS := StStep_of hcst htr hdis hy5.ok (fun hl5 => StNextX hcst htr hdis hy5.ok HDf.out.tag (HDf.out.q.ok (by omega)) HGf.out hl5 (by
              rcases hy5.st with ⟨-, -, -, -, e⟩ | ⟨e, -⟩ | ⟨e, -⟩
              · exact e
              · simp only at e; omega
              · simp only at e; omega))
            rw [← HRs2.out, hMi] at hS
            have HS5 := Lib.hid hS
            have hN := fun (W : World) (hn : NextTo w0 wr F bl p r (Mq.tb i) (Mq.G i) (TryS.rounds l (TryS.new tag (1000 * (i : Int)), d) (k + 1)).1 (TryS.rounds l (TryS.new tag (1000 * (i : Int)), d) (k + 1)).1.stage (TryS.rounds l (TryS.new tag (1000 * (i : Int)), d) (k + 1)).2 W) => h.next hx HD.out hbl how hn
            rw [set_set, hMi] at hN
            have HN := Lib.hid hN
            have HH := Lib.hid h
            have HF2 := Lib.hid hf
            have HNw2 := Lib.hid hn
            have HMt2 := Lib.hid hMt
            have HMb2 := Lib.hid hMb
            have HMi2 := Lib.hid hMi
            clear h hx hbl hcst how htr hdis hf hn hMt hMb hMi hN hS hy5 htk
            go_wp2_with (first
              | (go_at_call 36; refine HS5.out.mono ?_; rintro e w2 ⟨rfl, hnx⟩; have HT := Lib.hid (HN.out _ hnx); clear hnx))
            obtain ⟨ow2, oz2, M2, a1, a2, a3, a4, a5⟩ := HT.out
            have hi2 : M2.tb i = M1.tb i := (a2 i (HH.out.ot i (by simp [SwS.set, HZn.out]))).trans HMi2.out
            have hx2 : (z1.set i (TryS.rounds l (TryS.new tag (1000 * (i : Int)), d) (k + 1)).1).all[i]? = some (cn, (TryS.rounds l (TryS.new tag (1000 * (i : Int)), d) (k + 1)).1) := by
              simp only [SwS.set, List.getElem?_modify, HZi.out]; simp
            obtain ⟨bl2, -, htr2⟩ := a3.try' _ _ _ hx2
            have hcell2 := htr2.cells.1.2.1
            rw [hi2] at hcell2
            have hsw2 : stageW w2 (M1.tb i) = (TryS.rounds l (TryS.new tag (1000 * (i : Int)), d) (k + 1)).1.stage.toNat := by unfold stageW; rw [hcell2]
            have hr6 := HRn.out.ok.st
            have hsf := HF2.out.size
            refine ⟨⟨k + 1, ow2, oz2, M2, by omega, a1.trans HMb2.out, fun q hq => ?_, hi2, a3, HF2.out.trans a4 (fun b hb hx => ?_), fun b hb => ?_⟩, ?_⟩
            · have e := HMt2.out q hq
              have hj2 := H.out.otl _ _ hq
              rw [a2 q (HH.out.ot q (by simp [SwS.set, HZn.out]; have := Hi.out; omega)), e]
            · rcases HNw2.out b hx with e | e
              · exact e
              · omega
            · rcases a5 b hb with e | e
              · exact HNw2.out b e
              · exact .inr (by omega)
            · have h1 := HSw.out
              have h2 := HOk'.out
              have h3 := HPl.out
              have h4 : 0 ≤ P.stage := (HStk.out 0).ok.st.1
              omega
      · have hfin : TryS.rounds l (TryS.new tag (1000 * (i : Int)), d) 5 = TryS.rounds l (TryS.new tag (1000 * (i : Int)), d) k := by
          have := rounds_end (l := l) (p := (TryS.new tag (1000 * (i : Int)), d)) (k := k) (by omega) (5 - k)
          rw [show k + (5 - k) = 5 by omega] at this
          exact this
        have HFin := Lib.hid hfin
        have HH := Lib.hid h
        have HF := Lib.hid hf
        have HNw := Lib.hid hn
        have HMt := Lib.hid hMt
        have HMb := Lib.hid hMb
        clear h hx hdk hbl hcst how htr hdis hcell hf hn hMt hsw hfin hInv
        go_wp2_with (first
          | (go_at_call 29; refine HSg.out.mono ?_; rintro e w2 ⟨rfl, rfl⟩)
          | (go_at_call 37; refine HWy.out.mono ?_; rintro e w2 ⟨rfl, rfl⟩))
        go_ret2
        rw [HFin.out]
        exact ⟨rfl, ow', oz', M', HMb.out, HMt.out, HH.out, HF.out, HNw.out⟩
  · have ea : z.attT s c tag l = ((z.openT s c tag).1, s, false, (z.openT s c tag).2) := by unfold SwS.attT; rw [if_neg ho]
    rw [ea]
    generalize (z.openT s c tag).1 = z1 at *
    generalize (z.openT s c tag).2 = er at *
    have her : ¬ er = 0 := ho
    clear h hz hk ea
    go_enter Tryz.func20, Tryz.ntmps20
    go_wp2_with (go_at_call 21; refine HO.out.mono ?_; rintro e w1 ⟨rfl, h1⟩; have H1 := Lib.hid h1; clear h1)
    go_ret2
    exact ⟨rfl, H1.out⟩
end
end Go.Proofs.YtlgkkolgdjgclaaGreat
/- Attempts: the plain laws. -/
namespace Go.Proofs.YtlgkkolgdjgclaaGreat
open Go.RowKit Go.Shelf Go.Maps
set_option linter.unusedVariables false
set_option linter.unusedSimpArgs false

theorem SwIn.free {w0 w : World} {ow : Nat → Option Own} {L : Lay} {s : SysS} {oz : Nat → Option OwnW} {M : SwL} {z : SwS} (h : SwIn w0 w ow L s oz M z) {k : Nat} (hk : w.heap.size ≤ k) : ow k = none ∧ oz k = none :=
  ⟨Classical.byContradiction fun e => by have := (h.own (k := k) (.inl e)).2; omega, Classical.byContradiction fun e => by have := (h.own (k := k) (.inr e)).2; omega⟩
theorem SwIn.older {w0 w : World} {ow : Nat → Option Own} {L : Lay} {s : SysS} {oz : Nat → Option OwnW} {M : SwL} {z : SwS} (h : SwIn w0 w ow L s oz M z) {k : Nat} (hk : k < w0.heap.size) : ow k = none ∧ oz k = none :=
  ⟨Classical.byContradiction fun e => by have := (h.own (k := k) (.inl e)).1; omega, Classical.byContradiction fun e => by have := (h.own (k := k) (.inr e)).1; omega⟩
theorem putB_size (tag : Int) (f : Fm) : (putB tag f).length = 13 + 13 * f.l.length := by
  have : ∀ l : List It, (l.flatMap itemB).length = 13 * l.length := fun l => by
    induction l with
    | nil => rfl
    | cons x l ih => rw [List.flatMap_cons, List.length_append, ih]; simp [itemB, numB]; omega
  unfold putB
  rw [sealP_length]
  unfold formB
  simp only [List.length_append, List.length_cons, List.length_nil, this]
  simp [numB]; omega
theorem step_err {x : TryS} {d : CoreS} {er : Int} (h5 : x.stage < 5) (hn : x.next d (x.stage + 1) = (x, d, er)) (he : er ≠ 0) : (x.step d).1.stage = 6 ∧ (x.step d).1.why = er := by
  unfold TryS.step
  rw [if_neg (by omega), hn, if_neg he]
  exact ⟨rfl, rfl⟩
section
variable {tag base : Int} {d : CoreS} {x : TryS} {l : List Bl}
theorem strike_off {b : Bl} (h : x.stage ≠ b.st) : (x.strike b).1 = x := by unfold TryS.strike; rw [if_neg h]
theorem strikes_off : ∀ (l : List Bl), (∀ b ∈ l, x.stage ≠ b.st) → x.strikes l = x
  | [], _ => rfl
  | b :: l, h => by
    show (x.strike b).1.strikes l = x
    rw [strike_off (h b (by simp))]; exact strikes_off l (fun c hc => h c (by simp [hc]))
theorem rounds_fx (hg : goodC d.tag (formR d.q) = true) : ∀ k : Nat, k ≤ 5 → (∀ j, j < k → (fx tag base d j).1.strikes l = (fx tag base d j).1) → TryS.rounds l (TryS.new tag base, d) k = fx tag base d k
  | 0, _, _ => rfl
  | k + 1, hk, h => by
    have ih := rounds_fx hg k (by omega) (fun j hj => h j (by omega))
    show TryS.round l (TryS.rounds l (TryS.new tag base, d) k) = _
    rw [ih]
    unfold TryS.round
    rw [h k (by omega)]
    exact fx_step hg (by omega)
theorem rounds_off (hg : goodC d.tag (formR d.q) = true) (hs : ∀ b ∈ l, b.st = 2) {k : Nat} (hk : k ≤ 5) (h2 : (fx tag base d 2).1.strikes l = (fx tag base d 2).1) : TryS.rounds l (TryS.new tag base, d) k = fx tag base d k :=
  rounds_fx hg k hk (fun j hj => by
    by_cases e : j = 2
    · subst e; exact h2
    · exact strikes_off l (fun b hb => by rw [(fx_stage (show j ≤ 5 by omega)).1, hs b hb]; omega))
/-- A byte that is spoilt by nothing, or twice alike, or is none. -/
theorem fate_sum_ok (hg : goodC d.tag (formR d.q) = true) {i y : Int} (hy : Byte y) (twice : Bool) (h : i < 0 ∨ (13 + 13 * (formR d.q).l.length : Int) ≤ i ∨ y = 0 ∨ twice = true) :
    TryS.rounds (if twice = true then [⟨1, 2, i, y⟩, ⟨1, 2, i, y⟩] else [⟨1, 2, i, y⟩]) (TryS.new tag base, d) 5 = fx tag base d 5 := by
  refine rounds_off hg (fun b hb => by split at hb <;> simp at hb <;> rw [hb]) (Nat.le_refl _) ?_
  have hlen : (fx tag base d 2).1.b = putB d.tag (formR d.q) := rfl
  have hst : (fx tag base d 2).1.stage = 2 := rfl
  have hB := putB_byte hg
  have hsz := putB_size d.tag (formR d.q)
  generalize (fx tag base d 2).1 = x at *
  have s1 : ∀ x : TryS, (x.strike ⟨1, 2, i, y⟩).1 = if x.stage = 2 then (x.spoil i y).1 else x := fun x => by
    unfold TryS.strike
    simp only
    split <;> rfl
  by_cases hin : 0 ≤ i ∧ i < x.b.length
  · have hl : i.toNat < x.b.length := by omega
    have e1 : (x.spoil i y).1 = { x with b := x.b.set i.toNat (bx (x.b.getD i.toNat 0) y) } := by unfold TryS.spoil; rw [if_pos ⟨hst, hin⟩]
    have hg1 : x.b.getD i.toNat 0 = x.b[i.toNat] := by rw [List.getD_eq_getElem?_getD, List.getElem?_eq_getElem hl]; rfl
    have hBy : Byte (x.b[i.toNat]) := hB _ (by rw [← hlen]; exact List.getElem_mem hl)
    cases twice with
    | false =>
      have hy0 : y = 0 := by
        rw [hlen, hsz] at hin
        rcases h with h | h | h | h
        · omega
        · omega
        · exact h
        · simp at h
      simp only [Bool.false_eq_true, if_false]
      show (x.strike ⟨1, 2, i, y⟩).1 = x
      rw [s1, if_pos hst, e1, hg1, hy0, bx_zero hBy, List.set_getElem_self]
    | true =>
      simp only [if_true]
      show ((x.strike ⟨1, 2, i, y⟩).1.strike ⟨1, 2, i, y⟩).1 = x
      rw [s1 x, if_pos hst, e1, s1, if_pos (show ({ x with b := x.b.set i.toNat (bx (x.b.getD i.toNat 0) y) } : TryS).stage = 2 from hst)]
      have e2 : ({ x with b := x.b.set i.toNat (bx (x.b.getD i.toNat 0) y) } : TryS).spoil i y = ({ x with b := (x.b.set i.toNat (bx (x.b.getD i.toNat 0) y)).set i.toNat (bx ((x.b.set i.toNat (bx (x.b.getD i.toNat 0) y)).getD i.toNat 0) y) }, true) := by
        unfold TryS.spoil; rw [if_pos ⟨hst, hin.1, by simp only [List.length_set]; exact hin.2⟩]
      rw [e2]
      have e3 : (x.b.set i.toNat (bx (x.b.getD i.toNat 0) y)).getD i.toNat 0 = bx (x.b.getD i.toNat 0) y := by
        rw [List.getD_eq_getElem?_getD, List.getElem?_set, if_pos rfl, if_pos hl]; rfl
      rw [e3, hg1, bx_twice hBy hy, List.set_set, List.set_getElem_self]
  · have e1 : (x.spoil i y).1 = x := by unfold TryS.spoil; rw [if_neg (fun e => hin e.2)]
    have e2 : (x.strike ⟨1, 2, i, y⟩).1 = x := by rw [s1, if_pos hst, e1]
    cases twice with
    | false => exact e2
    | true =>
      show ((x.strike ⟨1, 2, i, y⟩).1.strike ⟨1, 2, i, y⟩).1 = x
      rw [e2, e2]
/-- One byte that is spoilt is told. -/
theorem fate_sum_told (hg : goodC d.tag (formR d.q) = true) {i y : Int} (hy : Byte y) (h0 : 0 ≤ i) (h1 : i < 13 + 13 * (formR d.q).l.length) (hne : y ≠ 0) :
    (TryS.rounds [⟨1, 2, i, y⟩] (TryS.new tag base, d) 5).1.stage = 6 ∧ (TryS.rounds [⟨1, 2, i, y⟩] (TryS.new tag base, d) 5).1.why = 9 := by
  have e2 : TryS.rounds [⟨1, 2, i, y⟩] (TryS.new tag base, d) 2 = fx tag base d 2 :=
    rounds_fx hg 2 (by decide) (fun j hj => strikes_off _ (fun b hb => by simp at hb; subst hb; rw [(fx_stage (show j ≤ 5 by omega)).1]; simp only; omega))
  have hl : i.toNat < (putB d.tag (formR d.q)).length := by rw [putB_size]; omega
  have hB := putB_byte hg
  have hBy : Byte ((putB d.tag (formR d.q))[i.toNat]) := hB _ (List.getElem_mem hl)
  have e3 : (TryS.rounds [⟨1, 2, i, y⟩] (TryS.new tag base, d) 3).1.stage = 6 ∧ (TryS.rounds [⟨1, 2, i, y⟩] (TryS.new tag base, d) 3).1.why = 9 := by
    have hr : (readE ((putB d.tag (formR d.q)).set i.toNat (bx ((putB d.tag (formR d.q)).getD i.toNat 0) y))).2.2 = 9 := by
      have hgd : (putB d.tag (formR d.q)).getD i.toNat 0 = (putB d.tag (formR d.q))[i.toNat] := by rw [List.getD_eq_getElem?_getD, List.getElem?_eq_getElem hl]; rfl
      rw [hgd]
      exact readE_spoilt (formB_byte hg) hl (bx_byte hBy hy) (fun e => by
        have e' : (putB d.tag (formR d.q))[i.toNat]? = some (bx (putB d.tag (formR d.q))[i.toNat] y) := e
        rw [List.getElem?_eq_getElem hl] at e'
        simp only [Option.some.injEq] at e'
        exact bx_ne hBy hy hne e'.symm)
    show (TryS.round [⟨1, 2, i, y⟩] (TryS.rounds [⟨1, 2, i, y⟩] (TryS.new tag base, d) 2)).1.stage = 6 ∧ (TryS.round [⟨1, 2, i, y⟩] (TryS.rounds [⟨1, 2, i, y⟩] (TryS.new tag base, d) 2)).1.why = 9
    rw [e2]
    unfold TryS.round
    have es : (fx tag base d 2).1.strikes [⟨1, 2, i, y⟩] = { (fx tag base d 2).1 with b := (putB d.tag (formR d.q)).set i.toNat (bx ((putB d.tag (formR d.q)).getD i.toNat 0) y) } := by
      show ((fx tag base d 2).1.strike ⟨1, 2, i, y⟩).1 = _
      unfold TryS.strike TryS.spoil
      rw [if_pos (show (fx tag base d 2).1.stage = 2 from rfl), if_pos rfl, if_pos ⟨rfl, h0, by show i < ((putB d.tag (formR d.q)).length : Nat); omega⟩]
      rfl
    rw [es]
    have ed : (fx tag base d 2).2 = d := rfl
    rw [ed]
    refine step_err (by show (2 : Int) < 5; decide) ?_ (by decide)
    show TryS.next { (fx tag base d 2).1 with b := (putB d.tag (formR d.q)).set i.toNat (bx ((putB d.tag (formR d.q)).getD i.toNat 0) y) } d ((2 : Int) + 1) = _
    unfold TryS.next
    rw [if_neg (by rintro ⟨-, hn⟩; exact hn rfl), if_neg (by show ¬ (false = true); decide), if_neg (by decide), if_neg (by decide), if_pos (by decide), if_neg (by simp only; rw [hr]; decide), hr]
  have e5 := rounds_end (l := [⟨1, 2, i, y⟩]) (p := (TryS.new tag base, d)) (k := 3) (by omega) 2
  rw [e5]
  exact e3
/-- How an attempt ends. -/
theorem rounds_done (ht : TagOk tag) (hb : 0 ≤ base ∧ base ≤ 1000000000) (h0 : 0 ≤ d.age) (hl : ∀ b ∈ l, Byte b.y) (hg : goodC d.tag (formR d.q) = true) :
    TryOk (TryS.rounds l (TryS.new tag base, d) 5).1 ∧
    (((TryS.rounds l (TryS.new tag base, d) 5).1.stage = 6 ∧ (TryS.rounds l (TryS.new tag base, d) 5).2 = d ∧ ((TryS.rounds l (TryS.new tag base, d) 5).1.why = 8 ∨ (TryS.rounds l (TryS.new tag base, d) 5).1.why = 9 ∨ (TryS.rounds l (TryS.new tag base, d) 5).1.why = 10 ∨ (TryS.rounds l (TryS.new tag base, d) 5).1.why = 11 ∨ (TryS.rounds l (TryS.new tag base, d) 5).1.why = 13)) ∨
    ((TryS.rounds l (TryS.new tag base, d) 5).1.stage = 5 ∧ (TryS.rounds l (TryS.new tag base, d) 5).1.why = 0 ∧ (TryS.rounds l (TryS.new tag base, d) 5).2 = { d with tag := tag, q := seedR (formR d.q) base })) := by
  have h1 := (FInv.new (d := d) ht hb h0).rounds hl hg 5
  have h2 := rounds_stage (d := d) ht hb h0 hl hg 5
  refine ⟨h1.ok, ?_⟩
  rcases h1.st with ⟨a, -⟩ | a | a
  · omega
  · exact .inl a
  · exact .inr a
end
section
variable {s : SysS} {z : SwS} {T : Nat} {c tag : Int} {l : List Bl}
theorem good_core {T : Nat} {d : CoreS} (h : CorFine T d) (hT : T ≤ 10000000) : goodC d.tag (formR d.q) = true := by
  have hgf := good_near h.q (by omega)
  unfold goodC; rw [hgf, Bool.and_true, decide_eq_true_eq]; have := h.tag; unfold TagOk at this; omega
/-- An attempt that was let in. -/
theorem attT_is (hin : 0 ≤ c ∧ c < s.cores.length) (ho : z.opn c = false) (ht : TagOk tag) : z.attT s c tag l = ((z.add c.toNat (TryS.new tag (1000 * (z.all.length : Int)))).set z.all.length (TryS.rounds l (TryS.new tag (1000 * (z.all.length : Int)), s.core c) 5).1, s.setC c.toNat (TryS.rounds l (TryS.new tag (1000 * (z.all.length : Int)), s.core c) 5).2, decide ((TryS.rounds l (TryS.new tag (1000 * (z.all.length : Int)), s.core c) 5).1.stage = 5), (TryS.rounds l (TryS.new tag (1000 * (z.all.length : Int)), s.core c) 5).1.why) := by
  have eo : z.openT s c tag = (z.add c.toNat (TryS.new tag (1000 * (z.all.length : Int))), 0) := by unfold SwS.openT; rw [if_pos hin, if_neg (by rw [ho]; simp), if_pos ht]
  unfold SwS.attT; rw [eo, if_pos rfl]
/-- All tries have come to an end. -/
structure EndZ (n m : Nat) (z : SwS) : Prop where
  ok : SwOk n z
  len : z.all.length = m
  fin : ∀ (i c : Nat) x, z.all[i]? = some (c, x) → 5 ≤ x.stage
theorem EndZ.new (n : Nat) : EndZ n 0 SwS.new := ⟨SwOk.none _, rfl, fun i c x hx => by simp [SwS.new] at hx⟩
theorem EndZ.shut {n m : Nat} (h : EndZ n m z) (j : Int) : z.opn j = false := by
  unfold SwS.opn
  split
  · rfl
  · cases hq : z.all[(z.lst j).toNat]? with
    | none => rfl
    | some p =>
      obtain ⟨c', x⟩ := p
      have := h.fin _ _ _ hq
      simp only
      exact decide_eq_false (by omega)
theorem EndZ.kx {n m : Nat} (h : EndZ n m z) (hn : s.cores.length = n) : SwKx s z := ⟨by rw [hn]; exact h.ok, fun i c x d hx _ h5 => by have := h.fin i c x hx; omega⟩
theorem EndZ.more {n m : Nat} (h : EndZ n m z) {c : Nat} (hc : c < n) {x y : TryS} (hx : TryOk x) (hy : TryOk y) (h5 : 5 ≤ y.stage) : EndZ n (m + 1) ((z.add c x).set m y) := by
  have hl := h.len
  have hi : (z.add c x).all[m]? = some (c, x) := by
    show (z.all ++ [(c, x)])[m]? = _
    rw [List.getElem?_append_right (by omega), hl]; simp
  refine ⟨(h.ok.addT hx hc (h.shut c)).put hi hy (fun h => by omega), by simp [SwS.add, SwS.set, hl], fun j k v hv => ?_⟩
  rcases set_get hv with ⟨rfl, rfl, -⟩ | ⟨hne, hv'⟩
  · exact h5
  · rcases add_get hv' with ⟨rfl, -⟩ | hv''
    · exact absurd hl.symm hne
    · exact h.fin j k v hv''
theorem EndZ.cnt {n m : Nat} (h : EndZ n m z) : cntT z.all 5 + cntT z.all 6 = m := by
  have key : ∀ l : List (Nat × TryS), (∀ p ∈ l, p.2.stage = 5 ∨ p.2.stage = 6) → cntT l 5 + cntT l 6 = l.length := fun l => by
    induction l with
    | nil => intro _; rfl
    | cons p l ih =>
      intro hp
      have i1 := ih (fun q hq => hp q (by simp [hq]))
      have h1 := hp p (by simp)
      unfold cntT at i1 ⊢
      simp only [List.filter_cons]
      rcases h1 with e | e
      · rw [e]; simp; omega
      · rw [e]; simp; omega
  rw [key z.all (fun p hp => ?_), h.len]
  obtain ⟨i, hi⟩ := List.getElem?_of_mem hp
  obtain ⟨c, x⟩ := p
  have h1 := h.fin i c x hi
  have h2 := (h.ok.tok i c x hi).1.st
  simp only; omega
theorem att_sys (hk : SysOk T s) (h1 : 1 ≤ T) (hT : T ≤ 10000000) (hin : 0 ≤ c ∧ c < s.cores.length) (ht : TagOk tag) {base : Int} (hb : 0 ≤ base ∧ base ≤ 1000000000) (hl : ∀ b ∈ l, Byte b.y) :
    SysOk T (s.setC c.toNat (TryS.rounds l (TryS.new tag base, s.core c) 5).2) := by
  obtain ⟨d, hd, hde, hdf⟩ := hk.core hin
  rw [hde]
  obtain ⟨-, h⟩ := rounds_done (l := l) (d := d) ht hb hdf.age.1 hl (good_core hdf hT)
  rcases h with ⟨-, e, -⟩ | ⟨-, -, e⟩
  · rw [e, setC_self hd]; exact hk
  · rw [e]
    exact hk.change hd ht (seed_near hdf.q h1 hb) (form_seed _ _)
/-- What an attempt comes to, on the only core. -/
theorem fate_safe (hk : SysOk T s) (h1 : 1 ≤ T) (hT : T ≤ 10000000) (hl1 : s.cores.length = 1) {d : CoreS} (hd : s.cores[0]? = some d) (hl : ∀ b ∈ l, Byte b.y) :
    ∃ d5, (SwS.new.attT s 0 tag l).2.1.cores[0]? = some d5 ∧ formR d5.q = formR d.q ∧ d5.age = d.age ∧ CorFine T d5 ∧
      ((¬ TagOk tag ∧ (SwS.new.attT s 0 tag l).2.2 = (false, 1) ∧ d5.tag = d.tag ∧ cntT (SwS.new.attT s 0 tag l).1.all 5 = 0 ∧ cntT (SwS.new.attT s 0 tag l).1.all 6 = 0) ∨
       (TagOk tag ∧ (SwS.new.attT s 0 tag l).2.2 = (true, 0) ∧ d5.tag = tag ∧ cntT (SwS.new.attT s 0 tag l).1.all 5 = 1 ∧ cntT (SwS.new.attT s 0 tag l).1.all 6 = 0) ∨
       (TagOk tag ∧ ∃ er, (er = 8 ∨ er = 9 ∨ er = 10 ∨ er = 11 ∨ er = 13) ∧ (SwS.new.attT s 0 tag l).2.2 = (false, er) ∧ d5.tag = d.tag ∧ cntT (SwS.new.attT s 0 tag l).1.all 5 = 0 ∧ cntT (SwS.new.attT s 0 tag l).1.all 6 = 1)) := by
  have hin : 0 ≤ (0 : Int) ∧ (0 : Int) < s.cores.length := by rw [hl1]; decide
  have hdf := hk.cor d (List.mem_of_getElem? hd)
  by_cases ht : TagOk tag
  · have hb : 0 ≤ 1000 * ((SwS.new.all.length : Nat) : Int) ∧ 1000 * ((SwS.new.all.length : Nat) : Int) ≤ 1000000000 := by decide
    have hsy := att_sys (l := l) hk h1 hT hin ht hb hl
    have hcor : s.core 0 = d := by
      obtain ⟨d', hd', hde, -⟩ := hk.core hin
      rw [show s.cores[(0 : Int).toNat]? = some d from hd] at hd'
      cases hd'
      exact hde
    obtain ⟨r1, r2⟩ := rounds_done (l := l) (d := d) ht hb hdf.age.1 hl (good_core hdf hT)
    rw [attT_is hin (EndZ.shut (EndZ.new 1) 0) ht, hcor]
    rw [hcor] at hsy
    simp only at hsy ⊢
    generalize hR : TryS.rounds l (TryS.new tag (1000 * ((SwS.new.all.length : Nat) : Int)), d) 5 = R at *
    have hget : (s.setC (Int.toNat 0) R.2).cores[0]? = some R.2 := by
      simp only [SysS.setC, List.getElem?_set]
      simp [hl1]
    have hall : ((SwS.new.add (Int.toNat 0) (TryS.new tag (1000 * ((SwS.new.all.length : Nat) : Int)))).set SwS.new.all.length R.1).all = [(0, R.1)] := rfl
    refine ⟨R.2, hget, ?_, ?_, hsy.cor _ (List.mem_of_getElem? hget), ?_⟩
    · rcases r2 with ⟨-, e, -⟩ | ⟨-, -, e⟩
      · rw [e]
      · rw [e]; exact form_seed _ _
    · rcases r2 with ⟨-, e, -⟩ | ⟨-, -, e⟩
      · rw [e]
      · rw [e]
    · rw [hall]
      rcases r2 with ⟨e6, e, hw⟩ | ⟨e5, ew, e⟩
      · refine .inr (.inr ⟨ht, R.1.why, hw, ?_, by rw [e], ?_, ?_⟩)
        · rw [e6]; rfl
        · simp [cntT, e6]
        · simp [cntT, e6]
      · refine .inr (.inl ⟨ht, ?_, by rw [e], ?_, ?_⟩)
        · rw [e5, ew]; rfl
        · simp [cntT, e5]
        · simp [cntT, e5]
  · have e : SwS.new.attT s 0 tag l = (SwS.new, s, false, 1) := by
      have eo : SwS.new.openT s 0 tag = (SwS.new, 1) := by unfold SwS.openT; rw [if_pos hin, if_neg (by rw [EndZ.shut (EndZ.new 1) 0]; simp), if_neg ht]
      unfold SwS.attT; rw [eo]; exact if_neg (by decide)
    rw [e]
    exact ⟨d, hd, rfl, rfl, hdf, .inl ⟨ht, rfl, rfl, rfl, rfl⟩⟩
end
end Go.Proofs.YtlgkkolgdjgclaaGreat
