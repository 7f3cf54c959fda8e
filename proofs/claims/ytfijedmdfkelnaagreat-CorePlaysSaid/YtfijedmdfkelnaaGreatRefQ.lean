/- The document's own queue: its calls in the plain model's words. -/
import Derived.Test.YtfijedmdfkelnaaGreatRefE
import Derived.Test.YtfijedmdfkelnaaGreatRefF
import Derived.Test.YtfijedmdfkelnaaGreatRefG
import Derived.Test.YtfijedmdfkelnaaGreatSt
namespace Go.Proofs.YtfijedmdfkelnaaGreat
open Go.RowKit
set_option linter.unusedVariables false
set_option linter.unusedSimpArgs false

structure RSt (w0 w : World) (G : Nat → Prop) (r : Nat) (tag : Int) (S : Ln) : Prop where
  q : ∃ a c, RAt w r a c tag S ∧ G = foot r a
  new : ∀ k, G k → w0.heap.size ≤ k
  old : Below w0.heap.size w0 w
def RNext (w0 w : World) (G : Nat → Prop) (r : Nat) (tag : Int) (S : Ln) (w' : World) : Prop := ∃ G', RSt w0 w' G' r tag S ∧ Fr G w w' ∧ ∀ k, G' k → G k ∨ w.heap.size ≤ k
section
variable {w0 w w' : World} {G : Nat → Prop} {r : Nat} {tag : Int} {S S' : Ln}
theorem RSt.lt (h : RSt w0 w G r tag S) : ∀ k, G k → k < w.heap.size := by
  obtain ⟨a, c, hq, rfl⟩ := h.q
  exact hq.foot_lt
theorem RSt.below (h : RSt w0 w G r tag S) (hb : Below w.heap.size w w') : RSt w0 w' G r tag S := by
  obtain ⟨a, c, hq, hG⟩ := h.q
  exact ⟨⟨a, c, hq.below hb, hG⟩, h.new, h.old.trans (hb.mono h.old.size)⟩
theorem RSt.fr {F : Nat → Prop} (h : RSt w0 w G r tag S) (hf : Fr F w w') (hd : ∀ k, G k → ¬ F k) (hF : ∀ k, F k → w0.heap.size ≤ k) : RSt w0 w' G r tag S := by
  obtain ⟨a, c, hq, rfl⟩ := h.q
  exact ⟨⟨a, c, hq.fr hf hd, rfl⟩, h.new, h.old.trans (hf.below h.old.size hF)⟩
theorem RSt.same (h : RSt w0 w G r tag S) : RNext w0 w G r tag S w := ⟨G, h, Fr.refl _ _, fun k hk => .inl hk⟩
theorem RSt.cells (h : RSt w0 w G r tag S) : ∃ a c, w.heap[r]? = some (.cells #[.int .i64 tag, .int .i64 S.base, .int .i64 S.cur, .slice a S.l.length c] 55 (0, 0)) := by
  obtain ⟨a, c, hq, _⟩ := h.q
  exact ⟨a, c, hq.blk⟩
theorem RPost.next {a : Option Addr} {c : Nat} (h : RPost w r a c tag S' w') (hs : RSt w0 w (foot r a) r tag S) : RNext w0 w (foot r a) r tag S' w' :=
  ⟨foot r a, ⟨⟨a, c, h.1, rfl⟩, hs.new, hs.old.trans (h.2.below hs.old.size hs.new)⟩, h.2, fun k hk => .inl hk⟩
theorem RNew.next (h : RNew w r tag S' w') (hs : RSt w0 w G r tag S) : RNext w0 w G r tag S' w' := by
  obtain ⟨a', c', h1, h2, h3⟩ := h
  obtain ⟨a, c, hq, rfl⟩ := hs.q
  have hf : Fr (foot r a) w w' := h3.mono fun i _ e => .inl e
  refine ⟨foot r a', ⟨⟨a', c', h1, rfl⟩, ?_, hs.old.trans (hf.below hs.old.size hs.new)⟩, hf, ?_⟩
  · rintro k (rfl | ⟨p, hp, rfl⟩)
    · exact hs.new k (.inl rfl)
    · exact Nat.le_trans hs.old.size (h2 p hp)
  · rintro k (rfl | ⟨p, hp, rfl⟩)
    · exact .inl (.inl rfl)
    · exact .inr (h2 p hp)

theorem rPutS {K : Int} (h : RSt w0 w G r tag S) (hk : OkS K S) (hK : K ≤ 1151795604700004352) (ht : tag = 0 ∨ tag = 1 ∨ tag = 2) (id tw lag : Int) {v : Int} (hv : mayE S.l id tw lag = v) :
    Calls Tryz.prog 11 #[.pointer (some ⟨r, 0, none⟩), .int .i64 id, .int .i64 tw, .int .i64 lag, .bool true] w fun e w' => e = .returned (.int .i64 v) ∧ RNext w0 w G r tag (putR S id tw lag) w' := by
  obtain ⟨a, c, hq, rfl⟩ := h.q
  have hbl := hk.blo
  have hbh := hk.bhi
  by_cases h0 : v = 0
  · subst h0
    have e : putR S id tw lag = ⟨growB S.base (insP (newP S.base id tw lag) S.l), S.cur, insP (newP S.base id tw lag) S.l⟩ := by unfold putR; rw [if_pos hv]
    rw [e]
    exact (rEnter_go hq hk.len id tw lag true lag hv ht (by simp) (by omega) (by omega)).mono fun _ _ ⟨h1, h2⟩ => ⟨h1, h2.next h⟩
  · have e : putR S id tw lag = S := by unfold putR; rw [if_neg (by rw [hv]; exact h0)]
    rw [e]
    exact (rEnter_err hq hk.len id tw lag true hv h0).mono fun _ _ ⟨h1, h2⟩ => ⟨h1, by subst h2; exact h.same⟩
theorem rEnterS {K : Int} (held : Int → Int) (h : RSt w0 w G r tag S) (hk : OkS K S) (hK : K ≤ 1151795604700004352) (ht : tag = 0 ∨ tag = 1 ∨ tag = 2) (hh : ∀ lag, held lag = rheld tag lag) (hm : ∀ {l : List Pt} {id tw lag : Int}, mayE l id tw lag = 0 → l.length ≤ 64 → mayE l id tw (held lag) = 0)
    (id tw lag : Int) {v : Int} (hv : mayE S.l id tw lag = v) :
    Calls Tryz.prog 11 #[.pointer (some ⟨r, 0, none⟩), .int .i64 id, .int .i64 tw, .int .i64 lag, .bool false] w fun e w' => e = .returned (.int .i64 v) ∧ RNext w0 w G r tag (enterR held S id tw lag) w' := by
  obtain ⟨a, c, hq, rfl⟩ := h.q
  have hbl := hk.blo
  have hbh := hk.bhi
  by_cases h0 : v = 0
  · subst h0
    have e : enterR held S id tw lag = ⟨growB S.base (insP (newP S.base id tw (held lag)) S.l), S.cur, insP (newP S.base id tw (held lag)) S.l⟩ := by unfold enterR putR; rw [if_pos hv, if_pos (hm hv hk.len)]
    rw [e]
    exact (rEnter_go hq hk.len id tw lag false (held lag) hv ht (by simp [hh]) (by omega) (by omega)).mono fun _ _ ⟨h1, h2⟩ => ⟨h1, h2.next h⟩
  · have e : enterR held S id tw lag = S := by unfold enterR; rw [if_neg (by rw [hv]; exact h0)]
    rw [e]
    exact (rEnter_err hq hk.len id tw lag false hv h0).mono fun _ _ ⟨h1, h2⟩ => ⟨h1, by subst h2; exact h.same⟩
theorem rLeaveS {K v e' : Int} (h : RSt w0 w G r tag S) (hk : OkS K S) (id : Int) (hr : leaveR S id = (S', v, e')) :
    Calls Tryz.prog 12 #[.pointer (some ⟨r, 0, none⟩), .int .i64 id] w fun e w' => e = .returned (.tuple #[.int .i64 v, .int .i64 e']) ∧ RNext w0 w G r tag S' w' := by
  obtain ⟨a, c, hq, rfl⟩ := h.q
  have hbl := hk.blo
  have hbh := hk.bhi
  have k1 := hk.k1
  unfold leaveR at hr
  rcases at_cases S id with ⟨e1, e2, _⟩ | ⟨j, x, e1, e2, hj, hx, hid⟩
  · rw [e1] at hr
    simp only [Prod.mk.injEq] at hr
    obtain ⟨rfl, rfl, rfl⟩ := hr
    exact (rLeave_none hq hk.len id e2).mono fun _ _ ⟨h1, h2⟩ => ⟨h1, by subst h2; exact h.same⟩
  · rw [e1] at hr
    simp only [Prod.mk.injEq] at hr
    obtain ⟨rfl, rfl, rfl⟩ := hr
    have hp := hk.pts x (List.mem_of_getElem? hx)
    exact (rLeave_go hq hk.len id j x e2 hx (by omega) (by omega) (by omega) (by omega)).mono fun _ _ ⟨h1, h2⟩ => ⟨h1, h2.next h⟩
theorem rWeighS {K e' : Int} (h : RSt w0 w G r tag S) (hk : OkS K S) (id tw : Int) (hr : weighR S id tw = (S', e')) :
    Calls Tryz.prog 13 #[.pointer (some ⟨r, 0, none⟩), .int .i64 id, .int .i64 tw] w fun e w' => e = .returned (.int .i64 e') ∧ RNext w0 w G r tag S' w' := by
  obtain ⟨a, c, hq, rfl⟩ := h.q
  have k1 := hk.k1
  unfold weighR at hr
  rcases at_cases S id with ⟨e1, e2, _⟩ | ⟨j, x, e1, e2, hj, hx, hid⟩
  · rw [e1] at hr
    simp only [Prod.mk.injEq] at hr
    obtain ⟨rfl, rfl⟩ := hr
    exact (rWeigh_none hq hk.len id tw e2).mono fun _ _ ⟨h1, h2⟩ => ⟨h1, h2.next h⟩
  · rw [e1] at hr
    simp only at hr
    have hp := hk.pts x (List.mem_of_getElem? hx)
    by_cases hg : goodW tw = true
    · rw [if_pos hg] at hr
      simp only [Prod.mk.injEq] at hr
      obtain ⟨rfl, rfl⟩ := hr
      exact (rWeigh_go hq hk.len id tw j x e2 hx hg (by omega) (by omega) _ rfl).mono fun _ _ ⟨h1, h2⟩ => ⟨h1, h2.next h⟩
    · rw [if_neg hg] at hr
      simp only [Prod.mk.injEq] at hr
      obtain ⟨rfl, rfl⟩ := hr
      exact (rWeigh_arg hq hk.len id tw j e2 (by simpa using hg)).mono fun _ _ ⟨h1, h2⟩ => ⟨h1, h2.next h⟩
theorem rChargeS {K v e' : Int} (h : RSt w0 w G r tag S) (hk : OkS K S) (hd : ∀ x ∈ S.l, -4611686018427387904 ≤ x.day ∧ x.day ≤ 4611686018427387904) (hr : chargeR S = (S', v, e')) :
    Calls Tryz.prog 15 #[.pointer (some ⟨r, 0, none⟩)] w fun e w' => e = .returned (.tuple #[.int .i64 v, .int .i64 e']) ∧ RNext w0 w G r tag S' w' := by
  obtain ⟨a, c, hq, rfl⟩ := h.q
  have k1 := hk.k1
  unfold chargeR at hr
  rcases at_cases S S.cur with ⟨e1, e2, _⟩ | ⟨j, x, e1, e2, hj, hx, hid⟩
  · rw [e1] at hr
    simp only [Prod.mk.injEq] at hr
    obtain ⟨rfl, rfl, rfl⟩ := hr
    exact (rCharge_none hq hk.len e2).mono fun _ _ ⟨h1, h2⟩ => ⟨h1, h2.next h⟩
  · rw [e1] at hr
    simp only at hr
    have hp := hk.pts x (List.mem_of_getElem? hx)
    have hdx := hd x (List.mem_of_getElem? hx)
    by_cases hg : 2305843009213693952 < x.v + step x.w
    · rw [if_pos hg] at hr
      simp only [Prod.mk.injEq] at hr
      obtain ⟨rfl, rfl, rfl⟩ := hr
      exact (rCharge_over hq hk.len j x e2 hx (by omega) (by omega) (by omega) (by omega) hg).mono fun _ _ ⟨h1, h2⟩ => ⟨h1, h2.next h⟩
    · rw [if_neg hg] at hr
      simp only [Prod.mk.injEq] at hr
      obtain ⟨rfl, rfl, rfl⟩ := hr
      rw [hid]
      exact (rCharge_go hq hk.len j x e2 hx (by omega) (by omega) (by omega) (by omega) hdx.1 hdx.2 (by omega) _ rfl).mono fun _ _ ⟨h1, h2⟩ => ⟨h1, h2.next h⟩
theorem rFormS {K : Int} (h : RSt w0 w G r tag S) (hk : OkS K S) : Calls Tryz.prog 18 #[.pointer (some ⟨r, 0, none⟩)] w (RFormPost w S.cur (S.l.map (itOf S.base))) := by
  obtain ⟨a, c, hq, rfl⟩ := h.q
  have hbl := hk.blo
  have hbh := hk.bhi
  have k1 := hk.k1
  exact rForm_any hq hk.len (by omega) (by omega) fun x hx => by have := hk.pts x hx; omega
end

/-- New. -/
theorem rNew_err (tag base : Int) (w : World) (h : ¬ ((tag = 0 ∨ tag = 1 ∨ tag = 2) ∧ BaseOk base)) : Calls Tryz.prog 32 #[.int .i64 tag, .int .i64 base] w fun e w' => e = .returned (.tuple #[.pointer none, .int .i64 1]) ∧ w = w' := by
  have hc : tag < 0 ∨ (0 ≤ tag ∧ 2 < tag) ∨ (0 ≤ tag ∧ tag ≤ 2 ∧ 1152921504606846976 < base) ∨ (0 ≤ tag ∧ tag ≤ 2 ∧ base ≤ 1152921504606846976 ∧ base < -1152921504606846976) := by
    unfold BaseOk at h; omega
  clear h
  rcases hc with h1 | ⟨h1, h2⟩ | ⟨h1, h2, h3⟩ | ⟨h1, h2, h3, h4⟩
  all_goals
    go_enter Tryz.func32, Tryz.ntmps32
    go_wp2_with fail
    go_ret2
    exact ⟨rfl, rfl⟩
theorem rNew_ok (tag base : Int) (w : World) (ht : tag = 0 ∨ tag = 1 ∨ tag = 2) (hb : BaseOk base) : Calls Tryz.prog 32 #[.int .i64 tag, .int .i64 base] w fun e w' => e = .returned (.tuple #[.pointer (some ⟨w.heap.size, 0, none⟩), .int .i64 0]) ∧
    RAt w' w.heap.size none 0 tag ⟨base, -1, []⟩ ∧ Below w.heap.size w w' := by
  have h1 : 0 ≤ tag := by omega
  have h2 : tag ≤ 2 := by omega
  obtain ⟨h3, h4⟩ := hb
  clear ht
  go_enter Tryz.func32, Tryz.ntmps32
  go_wp2_with fail
  go_ret2
  exact ⟨rfl, ⟨heap_new _ _, World.ownsRow_nil _ _ _ _, fun p hp => by cases hp⟩, (Below.refl _ _).alloc (Nat.le_refl _) _⟩
theorem rNew_st {w0 w w' : World} {tag base : Int} (hb : Below w0.heap.size w0 w) (h : RAt w' w.heap.size none 0 tag ⟨base, -1, []⟩) (hw : Below w.heap.size w w') : RSt w0 w' (foot w.heap.size none) w.heap.size tag ⟨base, -1, []⟩ :=
  ⟨⟨none, 0, h, rfl⟩, (fun k hk => by
    rcases hk with rfl | ⟨p, hp, _⟩
    · exact hb.size
    · cases hp), hb.trans (hw.mono hb.size)⟩
end Go.Proofs.YtfijedmdfkelnaaGreat
