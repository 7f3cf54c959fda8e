/- Package policy. -/
import Derived.Test.YtlgkkolgdjgclaaGreatTstride
import Derived.Test.YtlgkkolgdjgclaaGreatQfair
import Derived.Test.YtlgkkolgdjgclaaGreatQdue
namespace Go.Proofs.YtlgkkolgdjgclaaGreat
open Go.RowKit
set_option linter.unusedVariables false
set_option linter.unusedSimpArgs false

def polT (tag : Int) : TypeId := if tag = 0 then 163 else if tag = 1 then 167 else 170
def TagOk (tag : Int) : Prop := tag = 0 ∨ tag = 1 ∨ tag = 2
instance (tag : Int) : Decidable (TagOk tag) := by unfold TagOk; infer_instance
/-- Block p is a queue of policy tag; S: what it owes. -/
def Pm (w : World) (F : Nat → Prop) (p : Nat) (tag : Int) (S : Ln) : Prop :=
  ∃ b G, w.heap[p]? = some (.cells #[.iface (polT tag) (.pointer (some ⟨b, 0, none⟩)), .int .i64 tag] 101 (0, 0)) ∧ Qm w G b S ∧ ¬ G p ∧ F = fun k => k = p ∨ G k

/-- Behind a call of a policy. -/
def PQPost (w : World) (F : Nat → Prop) (p : Nat) (tag : Int) (S : Ln) (w' : World) : Prop := ∃ F', Pm w' F' p tag S ∧ (∀ k, F' k → F k ∨ w.heap.size ≤ k) ∧ Fr F w w'
theorem Pm.lt {w : World} {F : Nat → Prop} {p : Nat} {tag : Int} {S : Ln} (h : Pm w F p tag S) : ∀ k, F k → k < w.heap.size := by
  obtain ⟨b, G, hp, hq, hG, rfl⟩ := h
  rintro k (rfl | hk)
  · exact (Array.getElem?_eq_some_iff.1 hp).1
  · exact hq.lt k hk
theorem Pm.fr {w w' : World} {F H : Nat → Prop} {p : Nat} {tag : Int} {S : Ln} (h : Pm w F p tag S) (hf : Fr H w w') (hd : ∀ k, F k → ¬ H k) : Pm w' F p tag S := by
  obtain ⟨b, G, hp, hq, hG, rfl⟩ := h
  exact ⟨b, G, heap_fr hp hf (hd p (.inl rfl)), hq.fr hf (fun k hk => hd k (.inr hk)), hG, rfl⟩
theorem Pm.below {w w' : World} {F : Nat → Prop} {p : Nat} {tag : Int} {S : Ln} (h : Pm w F p tag S) (hb : Below w.heap.size w w') : Pm w' F p tag S := by
  obtain ⟨b, G, hp, hq, hG, rfl⟩ := h
  exact ⟨b, G, heap_below hp hb, hq.below hb, hG, rfl⟩
theorem Pm.post {w w' : World} {F : Nat → Prop} {p : Nat} {tag : Int} {S : Ln} (h : Pm w F p tag S) (hb : Below w.heap.size w w') : PQPost w F p tag S w' := ⟨F, h.below hb, fun k hk => .inl hk, Fr.of_below hb⟩
/-- The queue's own call, at the policy. -/
theorem pol_post {w w' : World} {p b : Nat} {G : Nat → Prop} {tag : Int} {S : Ln} (hp : w.heap[p]? = some (.cells #[.iface (polT tag) (.pointer (some ⟨b, 0, none⟩)), .int .i64 tag] 101 (0, 0))) (hG : ¬ G p) (h : QPost w G b S w') :
    PQPost w (fun k => k = p ∨ G k) p tag S w' ∧ w'.heap[p]? = some (.cells #[.iface (polT tag) (.pointer (some ⟨b, 0, none⟩)), .int .i64 tag] 101 (0, 0)) ∧ ∃ G', Qm w' G' b S ∧ ¬ G' p ∧ (∀ k, G' k → G k ∨ w.heap.size ≤ k) ∧ Fr G w w' := by
  obtain ⟨G', hq, hs, hf⟩ := h
  have hp' := heap_fr hp hf hG
  have hlt := (Array.getElem?_eq_some_iff.1 hp).1
  have hn : ¬ G' p := fun h1 => by
    rcases hs p h1 with h2 | h2
    · exact hG h2
    · omega
  refine ⟨⟨_, ⟨b, G', hp', hq, hn, rfl⟩, ?_, hf.mono fun i _ h => .inr h⟩, hp', G', hq, hn, hs, hf⟩
  rintro k (rfl | hk)
  · exact .inl (.inl rfl)
  · rcases hs k hk with h2 | h2
    · exact .inl (.inr h2)
    · exact .inr h2
theorem PQPost.trans {w w1 w2 : World} {F F1 : Nat → Prop} {p : Nat} {tag : Int} {S : Ln} (h1 : ∀ k, F1 k → F k ∨ w.heap.size ≤ k) (hf : Fr F w w1) (h : PQPost w1 F1 p tag S w2) : PQPost w F p tag S w2 := by
  obtain ⟨F2, hq, hs, hf2⟩ := h
  have hsz := hf.size
  refine ⟨F2, hq, fun k hk => ?_, hf.trans hf2 fun k hk hk2 => ?_⟩
  · rcases hs k hk with h | h
    · exact h1 k h
    · exact .inr (by omega)
  · rcases h1 k hk2 with h | h
    · exact h
    · omega

set_option maxHeartbeats 800000 in
theorem polOf_nil (tag : Int) (T : TypeId) (v : Value) (w : World) :
    Calls Tryz.prog 85 #[.int .i64 tag, .iface T v, .int .i64 1] w fun e w' => e = .returned (.tuple #[.pointer none, .int .i64 1]) ∧ Below w.heap.size w w' := by
  go_enter Tryz.func85, Tryz.ntmps85
  go_wp2
  go_ret2
  exact ⟨rfl, Below.refl _ _⟩
set_option maxHeartbeats 800000 in
theorem polOf_ok (tag : Int) (T : TypeId) (v : Value) (w : World) :
    Calls Tryz.prog 85 #[.int .i64 tag, .iface T v, .int .i64 0] w fun e w' => e = .returned (.tuple #[.pointer (some ⟨w.heap.size, 0, none⟩), .int .i64 0]) ∧ w' = w.alloc (.cells #[.iface T v, .int .i64 tag] 101) := by
  go_enter Tryz.func85, Tryz.ntmps85
  go_wp2
  go_ret2
  exact ⟨rfl, rfl⟩
def PolPost (w : World) (tag : Int) (S : Ln) (e : Ending) (w' : World) : Prop :=
  ∃ p F, e = .returned (.tuple #[.pointer (some ⟨p, 0, none⟩), .int .i64 0]) ∧ Pm w' F p tag S ∧ (∀ k, F k → w.heap.size ≤ k) ∧ Below w.heap.size w w'
theorem pol_made {w w1 : World} {b : Nat} {G : Nat → Prop} {S : Ln} (tag : Int) (h : Qm w1 G b S) (hg : ∀ k, G k → w.heap.size ≤ k) (hb : Below w.heap.size w w1) :
    ∃ F, Pm (w1.alloc (.cells #[.iface (polT tag) (.pointer (some ⟨b, 0, none⟩)), .int .i64 tag] 101)) F w1.heap.size tag S ∧ (∀ k, F k → w.heap.size ≤ k) ∧ Below w.heap.size w (w1.alloc (.cells #[.iface (polT tag) (.pointer (some ⟨b, 0, none⟩)), .int .i64 tag] 101)) := by
  have hs := hb.size
  refine ⟨fun k => k = w1.heap.size ∨ G k, ⟨b, G, heap_new _ _, h.below ((Below.refl _ _).alloc (Nat.le_refl _) _), fun hk => ?_, rfl⟩, ?_, hb.alloc hs _⟩
  · have := h.lt _ hk; omega
  · rintro k (rfl | hk)
    · exact hs
    · exact hg k hk

set_option maxHeartbeats 1600000 in
theorem PolNew_ok (tag base : Int) (w : World) (ht : TagOk tag) (h : BaseOk base) : Calls Tryz.prog 63 #[.int .i64 tag, .int .i64 base] w (PolPost w tag ⟨base, -1, []⟩) := by
  have H := Lib.hid h
  clear h
  rcases ht with rfl | rfl | rfl
  all_goals
    go_enter Tryz.func63, Tryz.ntmps63
    go_wp2_with (first
      | (go_at_call 84; refine (New_ok_stride _ _ H.out).mono ?_; rintro e w1 ⟨b, F, rfl, hq, hF, hb⟩; have Hq := Lib.hid hq; have HF := Lib.hid hF; clear hq hF)
      | (go_at_call 86; refine (New_ok_fair _ _ H.out).mono ?_; rintro e w1 ⟨b, F, rfl, hq, hF, hb⟩; have Hq := Lib.hid hq; have HF := Lib.hid hF; clear hq hF)
      | (go_at_call 87; refine (New_ok_due _ _ H.out).mono ?_; rintro e w1 ⟨b, F, rfl, hq, hF, hb⟩; have Hq := Lib.hid hq; have HF := Lib.hid hF; clear hq hF)
      | (go_at_call 85; refine (polOf_ok _ _ _ _).mono ?_; rintro e w2 ⟨rfl, rfl⟩))
    go_ret2
  · obtain ⟨F', h1, h2, h3⟩ := pol_made 0 Hq.out HF.out hb
    exact ⟨_, F', rfl, h1, h2, h3⟩
  · obtain ⟨F', h1, h2, h3⟩ := pol_made 1 Hq.out HF.out hb
    exact ⟨_, F', rfl, h1, h2, h3⟩
  · obtain ⟨F', h1, h2, h3⟩ := pol_made 2 Hq.out HF.out hb
    exact ⟨_, F', rfl, h1, h2, h3⟩
set_option maxHeartbeats 1600000 in
theorem PolNew_err (tag base : Int) (w : World) (h : ¬ (TagOk tag ∧ BaseOk base)) : Calls Tryz.prog 63 #[.int .i64 tag, .int .i64 base] w (NilPost w) := by
  by_cases ht : TagOk tag
  · have h : ¬ BaseOk base := fun hb => h ⟨ht, hb⟩
    have H := Lib.hid h
    clear h
    rcases ht with rfl | rfl | rfl
    all_goals
      go_enter Tryz.func63, Tryz.ntmps63
      go_wp2_with (first
        | (go_at_call 84; refine (New_err_stride _ _ H.out).mono ?_; rintro e w1 ⟨rfl, hb⟩)
        | (go_at_call 86; refine (New_err_fair _ _ H.out).mono ?_; rintro e w1 ⟨rfl, hb⟩)
        | (go_at_call 87; refine (New_err_due _ _ H.out).mono ?_; rintro e w1 ⟨rfl, hb⟩)
        | (go_at_call 85; refine (polOf_nil _ _ _ _).mono ?_; rintro e w2 ⟨rfl, hb2⟩))
      go_ret2
      exact ⟨rfl, hb.trans (hb2.mono hb.size)⟩
  · have h0 : (tag == 0) = false := by simp; exact fun e => ht (.inl e)
    have h1 : (tag == 1) = false := by simp; exact fun e => ht (.inr (.inl e))
    have h2 : (tag == 2) = false := by simp; exact fun e => ht (.inr (.inr e))
    clear h ht
    go_enter Tryz.func63, Tryz.ntmps63
    go_wp2
    go_ret2
    exact ⟨rfl, Below.refl _ _⟩
set_option maxHeartbeats 1600000 in
theorem PolSeed_ok (tag : Int) (f : Fm) (n : Nat) (a : Option Addr) (c : Nat) (base : Int) (w : World) (hn : f.l.length = n) (hs : Sl It.enc 3 w a f.l) (ht : TagOk tag) (h : BaseOk base) (hg : goodF f = true) : Calls Tryz.prog 99 #[.int .i64 tag, .agg #[.int .i64 f.cur, .slice a n c], .int .i64 base] w (PolPost w tag (seedR f base)) := by
  have H := Lib.hid h
  have Hn := Lib.hid hn
  have HS := Lib.hid hs
  have HG := Lib.hid hg
  clear h hn hs hg
  rcases ht with rfl | rfl | rfl
  all_goals
    go_enter Tryz.func99, Tryz.ntmps99
    go_wp2_with (first
      | (go_at_call 117; refine (Seed_ok_stride f n a c base _ Hn.out (HS.out.below ((Below.refl _ _).alloc (Nat.le_refl _) _)) H.out HG.out).mono ?_; rintro e w1 ⟨b, F, rfl, hq, hF, hb⟩; have Hq := Lib.hid hq; have HF := Lib.hid hF; clear hq hF)
      | (go_at_call 118; refine (Seed_ok_fair f n a c base _ Hn.out (HS.out.below ((Below.refl _ _).alloc (Nat.le_refl _) _)) H.out HG.out).mono ?_; rintro e w1 ⟨b, F, rfl, hq, hF, hb⟩; have Hq := Lib.hid hq; have HF := Lib.hid hF; clear hq hF)
      | (go_at_call 119; refine (Seed_ok_due f n a c base _ Hn.out (HS.out.below ((Below.refl _ _).alloc (Nat.le_refl _) _)) H.out HG.out).mono ?_; rintro e w1 ⟨b, F, rfl, hq, hF, hb⟩; have Hq := Lib.hid hq; have HF := Lib.hid hF; clear hq hF)
      | (go_at_call 85; refine (polOf_ok _ _ _ _).mono ?_; rintro e w2 ⟨rfl, rfl⟩))
    go_ret2
  · obtain ⟨F', h1, h2, h3⟩ := pol_made (w := w) 0 Hq.out (fun k hk => by have := HF.out k hk; simp at this; omega) (((Below.refl _ _).alloc (Nat.le_refl _) _).trans (hb.mono (by simp)))
    exact ⟨_, F', rfl, h1, h2, h3⟩
  · obtain ⟨F', h1, h2, h3⟩ := pol_made (w := w) 1 Hq.out (fun k hk => by have := HF.out k hk; simp at this; omega) (((Below.refl _ _).alloc (Nat.le_refl _) _).trans (hb.mono (by simp)))
    exact ⟨_, F', rfl, h1, h2, h3⟩
  · obtain ⟨F', h1, h2, h3⟩ := pol_made (w := w) 2 Hq.out (fun k hk => by have := HF.out k hk; simp at this; omega) (((Below.refl _ _).alloc (Nat.le_refl _) _).trans (hb.mono (by simp)))
    exact ⟨_, F', rfl, h1, h2, h3⟩
set_option maxHeartbeats 1600000 in
theorem PolSeed_err (tag : Int) (f : Fm) (n : Nat) (a : Option Addr) (c : Nat) (base : Int) (w : World) (hn : f.l.length = n) (hl : n ≤ 4611686018427387904) (hs : Sl It.enc 3 w a f.l) (h : ¬ (TagOk tag ∧ BaseOk base ∧ goodF f = true)) : Calls Tryz.prog 99 #[.int .i64 tag, .agg #[.int .i64 f.cur, .slice a n c], .int .i64 base] w (NilPost w) := by
  by_cases ht : TagOk tag
  · have h : ¬ BaseOk base ∨ goodF f = false := by
      by_cases hb : BaseOk base
      · exact .inr (by cases hg : goodF f with | true => exact absurd ⟨ht, hb, hg⟩ h | false => rfl)
      · exact .inl hb
    have H := Lib.hid h
    have Hn := Lib.hid hn
    have HS := Lib.hid hs
    clear h hn hs
    rcases ht with rfl | rfl | rfl
    all_goals
      go_enter Tryz.func99, Tryz.ntmps99
      go_wp2_with (first
        | (go_at_call 117; refine (Seed_err_stride f n a c base _ Hn.out hl (HS.out.below ((Below.refl _ _).alloc (Nat.le_refl _) _)) H.out).mono ?_; rintro e w1 ⟨rfl, hb⟩)
        | (go_at_call 118; refine (Seed_err_fair f n a c base _ Hn.out hl (HS.out.below ((Below.refl _ _).alloc (Nat.le_refl _) _)) H.out).mono ?_; rintro e w1 ⟨rfl, hb⟩)
        | (go_at_call 119; refine (Seed_err_due f n a c base _ Hn.out hl (HS.out.below ((Below.refl _ _).alloc (Nat.le_refl _) _)) H.out).mono ?_; rintro e w1 ⟨rfl, hb⟩)
        | (go_at_call 85; refine (polOf_nil _ _ _ _).mono ?_; rintro e w2 ⟨rfl, hb2⟩))
      go_ret2
      exact ⟨rfl, (((Below.refl _ _).alloc (Nat.le_refl _) _).trans (hb.mono (by simp))).trans (hb2.mono (by have := hb.size; simp at this; omega))⟩
  · have h0 : (tag == 0) = false := by simp; exact fun e => ht (.inl e)
    have h1 : (tag == 1) = false := by simp; exact fun e => ht (.inr (.inl e))
    have h2 : (tag == 2) = false := by simp; exact fun e => ht (.inr (.inr e))
    clear h ht hs hn
    go_enter Tryz.func99, Tryz.ntmps99
    go_wp2
    go_ret2
    exact ⟨rfl, (Below.refl _ _).alloc (Nat.le_refl _) _⟩
end Go.Proofs.YtlgkkolgdjgclaaGreat
