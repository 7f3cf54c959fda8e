/- A system one of whose cores has another queue. -/
import Derived.Test.YtlgkkolgdjgclaaGreatSz3
import Derived.Test.YtlgkkolgdjgclaaGreatSt1
namespace Go.Proofs.YtlgkkolgdjgclaaGreat
open Go.RowKit Go.Shelf
set_option linter.unusedVariables false
set_option linter.unusedSimpArgs false

/-- What is made of a queue that may be. -/
theorem seed_pts {S : Ln} {base : Int} : (seedR (formR S) base).l = S.l.map fun x => newP base x.id x.w (S.base - x.v) := by
  simp only [seedR, formR, List.map_map]
  rfl
theorem seed_near {T : Nat} {S : Ln} {base : Int} (h : NearQ T S) (hT : 1 ≤ T) (hb : 0 ≤ base ∧ base ≤ 1000000000) : NearQ T (seedR (formR S) base) := by
  have e := seed_pts (S := S) (base := base)
  refine ⟨?_, ?_, hb.1, ?_, fun x hx => ?_, ?_, fun x hx => ?_, ?_⟩
  · rw [e]
    unfold ById
    rw [List.pairwise_map]
    exact h.byid
  · rw [e, List.length_map]; exact h.len
  · show base ≤ (T : Int) * 1000000000
    have : (1 : Int) ≤ T := by omega
    omega
  · rw [e] at hx
    obtain ⟨y, hy, rfl⟩ := List.mem_map.1 hx
    have := h.pts y hy
    show 0 ≤ y.id ∧ y.id ≤ 1000000000 ∧ 1 ≤ y.w ∧ y.w ≤ 20 ∧ base ≤ base - (S.base - y.v) ∧ base - (S.base - y.v) ≤ base + 1000000000
    omega
  · rw [e]
    rcases h.front with h1 | ⟨y, hy, hv⟩
    · exact .inl (by rw [h1]; rfl)
    · refine .inr ⟨_, List.mem_map.2 ⟨y, hy, rfl⟩, ?_⟩
      show base - (S.base - y.v) = base
      omega
  · rw [e] at hx
    obtain ⟨y, hy, rfl⟩ := List.mem_map.1 hx
    exact DayOk.newP _ _ _ _
  · show S.cur = -1 ∨ ∃ x ∈ (seedR (formR S) base).l, x.id = S.cur
    rw [e]
    rcases h.cur with h1 | ⟨y, hy, hv⟩
    · exact .inl h1
    · exact .inr ⟨_, List.mem_map.2 ⟨y, hy, rfl⟩, hv⟩
/-- Of two queues that owe the same: who stands in one stands in the other. -/
theorem form_ids {S S' : Ln} (h : formR S' = formR S) : ∀ x ∈ S'.l, ∃ y ∈ S.l, y.id = x.id ∧ y.w = x.w := fun x hx => by
  have h1 : S'.l.map (itOf S'.base) = S.l.map (itOf S.base) := congrArg Fm.l h
  have h2 : itOf S'.base x ∈ S.l.map (itOf S.base) := by rw [← h1]; exact List.mem_map.2 ⟨x, hx, rfl⟩
  obtain ⟨y, hy, e⟩ := List.mem_map.1 h2
  have e1 := congrArg It.id e
  have e2 := congrArg It.w e
  exact ⟨y, hy, e1, e2⟩
section
variable {T : Nat} {s : SysS}
theorem SysOk.change (h : SysOk T s) {i : Nat} {c : CoreS} (hc : s.cores[i]? = some c) {tag : Int} {S : Ln} (ht : TagOk tag) (hS : NearQ T S) (hr : formR S = formR c.q) : SysOk T (s.setC i { c with tag := tag, q := S }) := by
  have hi := (List.getElem?_eq_some_iff.1 hc).1
  have hcf := h.cor c (List.mem_of_getElem? hc)
  have hlen : (s.setC i { c with tag := tag, q := S }).cores.length = s.cores.length := by simp [SysS.setC]
  have hget : ∀ j d, (s.setC i { c with tag := tag, q := S }).cores[j]? = some d → (j = i ∧ d = { c with tag := tag, q := S }) ∨ (j ≠ i ∧ s.cores[j]? = some d) := fun j d hd => by
    simp only [SysS.setC, List.getElem?_set] at hd
    by_cases e : i = j
    · subst e
      rw [if_pos rfl, if_pos hi] at hd
      simp only [Option.some.injEq] at hd
      exact .inl ⟨rfl, hd.symm⟩
    · rw [if_neg e] at hd
      exact .inr ⟨fun e2 => e e2.symm, hd⟩
  refine ⟨by rw [hlen]; exact h.c1, by rw [hlen]; exact h.c16, fun d hd => ?_, h.g1, h.g16, h.acc, h.s64, h.turn, fun j n t ht => ?_, fun j d hd x hx => ?_, fun id t ht h2 => ?_⟩
  · obtain ⟨j, hj⟩ := List.getElem?_of_mem hd
    rcases hget j d hj with ⟨-, rfl⟩ | ⟨-, h2⟩
    · exact ⟨ht, hS, hcf.age, hcf.idle, hcf.sv, hcf.n⟩
    · exact h.cor d (List.mem_of_getElem? h2)
  · obtain ⟨a1, a2, a3⟩ := h.slot j n t ht
    exact ⟨a1, a2, a3.congr rfl hlen⟩
  · rcases hget j d hd with ⟨rfl, rfl⟩ | ⟨-, h2⟩
    · obtain ⟨y, hy, e1, e2⟩ := form_ids hr x hx
      obtain ⟨t, a1, a2, a3, a4⟩ := h.rdy j c hc y hy
      exact ⟨t, by rw [← e1]; exact a1, a2, a3, a4.trans e2⟩
    · exact h.rdy j d h2 x hx
  · obtain ⟨d, hd, x, hx, hid⟩ := h.rdq id t ht h2
    by_cases e : t.core.toNat = i
    · rw [e, hc] at hd
      simp only [Option.some.injEq] at hd
      subst hd
      obtain ⟨y, hy, e1, -⟩ := form_ids hr.symm x hx
      refine ⟨{ c with tag := tag, q := S }, ?_, y, hy, e1.trans hid⟩
      rw [e]
      simp [SysS.setC, List.getElem?_set, hi]
    · refine ⟨d, ?_, x, hx, hid⟩
      simp only [SysS.setC, List.getElem?_set, if_neg (Ne.symm e)]
      exact hd
end
section
variable {w0 w w' : World} {ow : Nat → Option Own} {L : Lay} {s : SysS}
open Classical in
/-- A core is given another queue, that belonged to nobody. -/
theorem SysIn.giveC (h : SysIn w0 w ow L s) {i : Nat} {c c' : CoreS} (hc : s.cores[i]? = some c) {bl p2 b2 r : Nat} {H : Nat → Prop} (hbl : L.cb[i]? = some bl) (hob : ow bl = some (.cor i)) (hor : ow r = some (.cor i)) (hn : CSt w0 w' H bl p2 b2 r c') (hf : Fr (fun k => k = bl ∨ (ow k = none ∧ w0.heap.size ≤ k)) w w') (hH : ∀ k, H k ∨ k = p2 → ow k = none ∨ ow k = some (.cor i)) :
    SysIn w0 w' (fun k => if H k ∨ k = p2 then some (.cor i) else ow k) L (s.setC i c') := by
  have hw := (h.lt _ _ hob).1
  have n : ∀ {k x}, ow k = some x → x ≠ .cor i → ¬ (k = bl ∨ (ow k = none ∧ w0.heap.size ≤ k)) := fun hk hx hg => by
    rcases hg with hg | hg
    · rw [hg, hob] at hk; simp only [Option.some.injEq] at hk; exact hx hk.symm
    · rw [hg.1] at hk; cases hk
  have hG : ∀ k, (k = bl ∨ (ow k = none ∧ w0.heap.size ≤ k)) → w0.heap.size ≤ k := fun k e => by
    rcases e with e | e
    · rw [e]; exact hw
    · exact e.2
  have hil : i < s.cores.length := (List.getElem?_eq_some_iff.1 hc).1
  have o : ∀ {k x}, ow k = some x → (if H k ∨ k = p2 then some (Own.cor i) else ow k) = some x := fun {k x} hk => by
    by_cases e : H k ∨ k = p2
    · rw [if_pos e]
      rcases hH k e with h1 | h1
      · rw [h1] at hk; cases hk
      · rw [h1] at hk; exact hk
    · rw [if_neg e]; exact hk
  have hlt := hn.lt
  have hsz := hf.size
  refine ⟨?_, h.arr.fr hf fun p hp => n (h.oA p hp) (fun e => by cases e), h.grp.fr hf (n h.oG (fun e => by cases e)), h.slt.fr hf (n h.oS (fun e => by cases e)) (n h.oP (fun e => by cases e)), h.map.fr hf (n h.oM (fun e => by cases e)), fun id u hu => ?_, fun j d hd => ?_, ?_, o h.oT, fun p hp => o (h.oA p hp), o h.oG, o h.oS, o h.oP, o h.oM, fun k x hk => ?_, h.old.trans (hf.below h.old.size hG)⟩
  · rw [topCells_eq (s := s) (s' := s.setC i c') (by simp [SysS.setC]) rfl]; exact heap_fr h.top hf (n h.oT (fun e => by cases e))
  · obtain ⟨h1, h2⟩ := h.tsk id u hu
    exact ⟨heap_fr h1 hf (n h2 (fun e => by cases e)), o h2⟩
  · simp only [SysS.setC, List.getElem?_set] at hd
    by_cases e : i = j
    · subst e
      rw [if_pos rfl, if_pos hil] at hd
      simp only [Option.some.injEq] at hd
      subst hd
      refine ⟨bl, H, p2, b2, r, hbl, hn, fun k hk => ?_⟩
      rcases hk with hk | rfl | rfl | rfl
      · exact if_pos (.inl hk)
      · exact o hob
      · exact if_pos (.inr rfl)
      · exact o hor
    · rw [if_neg e] at hd
      obtain ⟨bl2, F2, p3, q3, r3, h1, h2, h3⟩ := h.cor j d hd
      exact ⟨bl2, F2, p3, q3, r3, h1, h2.fr hf (fun k hk => n (h3 k hk) (fun e2 => by cases e2; exact e rfl)) hG, fun k hk => o (h3 k hk)⟩
  · simp only [SysS.setC, List.length_set]; exact h.cbl
  · split at hk
    · rename_i e
      have := hn.new
      have h1 : cfoot H bl p2 r k := by rcases e with e | e; exact .inl e; exact .inr (.inr (.inl e))
      exact ⟨hn.new k h1, hlt k h1⟩
    · have := h.lt k x hk
      omega
end
end Go.Proofs.YtlgkkolgdjgclaaGreat
/- Tries of a system's cores: plain, and in memory. -/
namespace Go.Proofs.YtlgkkolgdjgclaaGreat
open Go.RowKit Go.Shelf Go.Maps
set_option linter.unusedVariables false
set_option linter.unusedSimpArgs false

/-! ### a map of numbers by tries -/
theorem zero_try (w : World) : (zeroValue 49).run Tryz.prog w = .ok (.pointer none) w := by kernel_rfl
theorem MapP.lookT {w : World} {r n : Nat} {f : Int → Int} (h : MapP w r n f) {id : Int} (hw : -9223372036854775808 ≤ id ∧ id ≤ 9223372036854775807) :
    (Instr.lookup 77 (.map (some r)) (.int .i64 id) false).run Tryz.prog w = .ok (ptrV (f id)) w := by
  obtain ⟨D, h1, h2, h3⟩ := h
  obtain ⟨v, ps, hr, hv⟩ := h1.lookup keyed_intP Tryz.underlying77 (zero_try w) (zd := .lit (.int .i64 (-1))) (zp := []) rfl (key := .int .i64 id) (kl := .int .i64 id) (keyOf_int_mk Tryz.underlying3 (wf_of hw))
  rw [h3 id] at hv
  rw [hr, ptrElem_inv hv]
theorem wpList_putT (w : World) {ops : Array Oper} {rest : List Oper} {o : Oper} {a : Act} {Q : Exit → Act → World → Prop} (hg : o.guard = none) (m x v : Operand) (hop : o.op = Op.mapUpdate 77 m x v)
    (r n : Nat) (f : Int → Int) (hm : a.eval m = .map (some r)) (h : MapP w r n f) (hn : n < maxLen) (id u : Int) (hx : a.eval x = .int .i64 id) (hv : a.eval v = ptrV u) (hu : -1 ≤ u) (hw : -9223372036854775808 ≤ id ∧ id ≤ 9223372036854775807)
    (hK : ∀ w', MapP w' r (n + 1) (updP f id u) → Fr (fun k => k = r) w w' → wpList Tryz.prog ops Q rest (a.put o.dst undef) w') : wpList Tryz.prog ops Q (o :: rest) a w := by
  obtain ⟨D, h1, h2, h3⟩ := h
  refine wpList_mapUpdate_own w hg m x v 77 hop 3 49 keyed_intP Tryz.underlying77 _ r n D hm h1 hn (.int .i64 id) (ptrV u) (.int .i64 id) hx hv (keyOf_int_mk Tryz.underlying3 (wf_of hw)) _ [] (ptrElem_mk u hu) ?_
  intro w' h1' hgr
  refine hK w' ⟨_, h1', h2.put _ _, fun j => ?_⟩ ((Fr.of_grown hgr).mono fun k _ e => by simpa using e.symm)
  unfold updP
  by_cases e : j = id
  · subst e
    rw [if_pos rfl, atKey_put_same (k := .int .i64 j) h2 (by trivial)]
  · rw [if_neg e, atKey_put_other (by simpa using e)]
    exact h3 j
/-- All tries, in the order in which they were opened, each with its core; of each core its last one (-1: none). -/
structure SwS where
  all : List (Nat × TryS)
  lst : Int → Int
namespace SwS
def new : SwS := ⟨[], fun _ => -1⟩
def set (z : SwS) (i : Nat) (x : TryS) : SwS := { z with all := z.all.modify i fun p => (p.1, x) }
def add (z : SwS) (c : Nat) (x : TryS) : SwS := { all := z.all ++ [(c, x)], lst := updP z.lst c z.all.length }
def last (z : SwS) (c : Int) : Option TryS := if z.lst c < 0 then none else (z.all[(z.lst c).toNat]?).map (·.2)
def count (z : SwS) (st : Int) : Int := ((z.all.filter fun p => decide (p.2.stage = st)).length : Nat)
end SwS
/-- What is true of the tries: the last of a core is one of its own; who is open is the last of its core. -/
structure SwOk (n : Nat) (z : SwS) : Prop where
  lst : ∀ c, z.lst c < 0 ∨ ∃ x, z.all[(z.lst c).toNat]? = some (c.toNat, x) ∧ 0 ≤ c ∧ c < n
  low : ∀ c, -1 ≤ z.lst c
  opn : ∀ (i c : Nat) x, z.all[i]? = some (c, x) → x.stage < 5 → z.lst c = i
  tok : ∀ (i c : Nat) x, z.all[i]? = some (c, x) → TryOk x ∧ c < n
/-- Where it lies. -/
structure SwL where
  b : Nat
  m : Nat
  n : Nat
  a : Option Addr
  k : Nat
  tb : Nat → Nat
  G : Nat → Nat → Prop
inductive OwnW
  | top
  | map
  | arr
  | tr (i : Nat)
def ptrN (i : Nat) : List Value := [.pointer (some ⟨i, 0, none⟩)]
def lmap (M : SwL) (z : SwS) (c : Int) : Int := if z.lst c < 0 then -1 else M.tb (z.lst c).toNat
/-- The tries in memory, and the system. -/
structure SwIn (w0 w : World) (ow : Nat → Option Own) (L : Lay) (s : SysS) (oz : Nat → Option OwnW) (M : SwL) (z : SwS) : Prop where
  sys : SysIn w0 w ow L s
  top : w.heap[M.b]? = some (.cells #[.pointer (some ⟨L.b, 0, none⟩), .map (some M.m), .slice M.a z.all.length M.k] 80 (0, 0))
  map : MapP w M.m M.n (lmap M z)
  mn : M.n ≤ z.all.length
  arr : w.ownsRow w0.heap.size 49 1 (.slice M.a z.all.length M.k) z.all.length (flat ptrN ((List.range z.all.length).map M.tb))
  try' : ∀ (i c : Nat) x, z.all[i]? = some (c, x) → ∃ bl, L.cb[c]? = some bl ∧ TryAt w0 w (M.tb i) (M.G i) bl x x.stage
  ob : oz M.b = some .top
  om : oz M.m = some .map
  oa : ∀ j, (Value.slice M.a z.all.length M.k).ownBlock = some j → oz j = some .arr
  ot : ∀ i, i < z.all.length → oz (M.tb i) = some (.tr i)
  og : ∀ i, i < z.all.length → ∀ j, M.G i j → oz j = some (.tr i)
  otl : ∀ k i, oz k = some (.tr i) → i < z.all.length
  sep : ∀ k, oz k ≠ none → ow k = none
  lt : ∀ k, oz k ≠ none → w0.heap.size ≤ k ∧ k < w.heap.size
section
variable {w0 w w' : World} {ow : Nat → Option Own} {L : Lay} {s s' : SysS} {oz : Nat → Option OwnW} {M : SwL} {z : SwS}
theorem SwIn.sep' (h : SwIn w0 w ow L s oz M z) {k : Nat} (hk : ow k ≠ none) : oz k = none := by
  cases e : oz k with
  | none => rfl
  | some x => exact absurd (h.sep k (by rw [e]; simp)) hk
/-- What was done to the system. -/
theorem SwIn.sysTo (h : SwIn w0 w ow L s oz M z) (hs : SysTo w0 w ow L s' w') : ∃ ow', SwIn w0 w' ow' L s' oz M z ∧ Fr (fun k => ow k ≠ none) w w' ∧ ∀ k, ow' k ≠ none → ow k ≠ none ∨ w.heap.size ≤ k := by
  obtain ⟨ow', h1, hf, ho⟩ := hs
  have n : ∀ {k x}, oz k = some x → ¬ (ow k ≠ none) := fun hk hg => hg (h.sep _ (by rw [hk]; simp))
  have h0 : ∀ k, ow k ≠ none → w0.heap.size ≤ k := fun k hk => by
    cases e : ow k with
    | none => exact absurd e hk
    | some x => exact (h.sys.lt k x e).1
  refine ⟨ow', ⟨h1, heap_fr h.top hf (n h.ob), h.map.fr hf (n h.om), h.mn, own_fr h.arr hf (fun j hj => n (h.oa j hj)), fun i c x hx => ?_, h.ob, h.om, h.oa, h.ot, h.og, h.otl, fun k hk => ?_, fun k hk => ?_⟩, hf, ho⟩
  · obtain ⟨bl, a1, a2⟩ := h.try' i c x hx
    have hi := (List.getElem?_eq_some_iff.1 hx).1
    exact ⟨bl, a1, a2.fr hf (n (h.ot i hi)) (fun j hj => n (h.og i hi j hj)) h0⟩
  · rcases Option.eq_none_or_eq_some (ow' k) with e | ⟨x, e⟩
    · exact e
    · rcases ho k (by rw [e]; simp) with e2 | e2
      · exact absurd (h.sep k hk) e2
      · have := (h.lt k hk).2; omega
  · have := h.lt k hk
    have := hf.size
    omega
theorem SwIn.below (h : SwIn w0 w ow L s oz M z) (hb : Below w.heap.size w w') : SwIn w0 w' ow L s oz M z := by
  have hf := Fr.of_below (F := fun _ => False) hb
  refine ⟨h.sys.below hb, heap_below h.top hb, h.map.below hb, h.mn, own_fr h.arr hf (fun _ _ h => h), fun i c x hx => ?_, h.ob, h.om, h.oa, h.ot, h.og, h.otl, h.sep, fun k hk => ?_⟩
  · obtain ⟨bl, a1, a2⟩ := h.try' i c x hx
    exact ⟨bl, a1, a2.below hb⟩
  · have := h.lt k hk
    have := hf.size
    omega
end
end Go.Proofs.YtlgkkolgdjgclaaGreat
/- Tries of a system's cores: what a stage of one does to all. -/
namespace Go.Proofs.YtlgkkolgdjgclaaGreat
open Go.RowKit Go.Shelf Go.Maps
set_option linter.unusedVariables false
set_option linter.unusedSimpArgs false

/-- Behind a call on the tries. -/
def SwTo (w0 w : World) (ow : Nat → Option Own) (L : Lay) (oz : Nat → Option OwnW) (M : SwL) (s' : SysS) (z' : SwS) (w' : World) : Prop :=
  ∃ ow' oz' M', M'.b = M.b ∧ (∀ i, oz (M.tb i) = some (.tr i) → M'.tb i = M.tb i) ∧ SwIn w0 w' ow' L s' oz' M' z' ∧ Fr (fun k => ow k ≠ none ∨ oz k ≠ none) w w' ∧ ∀ k, (ow' k ≠ none ∨ oz' k ≠ none) → (ow k ≠ none ∨ oz k ≠ none) ∨ w.heap.size ≤ k
section
variable {w0 w w' : World} {ow : Nat → Option Own} {L : Lay} {s s' : SysS} {oz : Nat → Option OwnW} {M : SwL} {z : SwS}
theorem SwIn.same (h : SwIn w0 w ow L s oz M z) (hb : Below w.heap.size w w') : SwTo w0 w ow L oz M s z w' := ⟨ow, oz, M, rfl, fun _ _ => rfl, h.below hb, Fr.of_below hb, fun k hk => .inl hk⟩
theorem SwIn.sysSw (h : SwIn w0 w ow L s oz M z) (hs : SysTo w0 w ow L s' w') : SwTo w0 w ow L oz M s' z w' := by
  obtain ⟨ow', h1, h2, h3⟩ := h.sysTo hs
  exact ⟨ow', oz, M, rfl, fun _ _ => rfl, h1, h2.mono fun k _ e => .inl e, fun k hk => by
    rcases hk with hk | hk
    · exact (h3 k hk).imp .inl id
    · exact .inl (.inr hk)⟩
/-- A try and its core. -/
theorem SwIn.at (h : SwIn w0 w ow L s oz M z) {i c : Nat} {x : TryS} (hx : z.all[i]? = some (c, x)) {d : CoreS} (hd : s.cores[c]? = some d) :
    ∃ bl F p q r, L.cb[c]? = some bl ∧ CSt w0 w F bl p q r d ∧ (∀ k, cfoot F bl p r k → ow k = some (.cor c)) ∧ TryAt w0 w (M.tb i) (M.G i) bl x x.stage ∧ ∀ j, cfoot F bl p r j → j ≠ M.tb i ∧ ¬ M.G i j := by
  obtain ⟨bl, F, p, q, r, h1, h2, h3⟩ := h.sys.cor c d hd
  obtain ⟨bl', e1, e2⟩ := h.try' i c x hx
  rw [h1] at e1
  simp only [Option.some.injEq] at e1
  subst e1
  have hi := (List.getElem?_eq_some_iff.1 hx).1
  refine ⟨bl, F, p, q, r, h1, h2, h3, e2, fun j hj => ⟨fun e => ?_, fun e => ?_⟩⟩
  · have h4 := h.sep' (k := j) (by rw [h3 j hj]; simp)
    rw [e, h.ot i hi] at h4; cases h4
  · have h4 := h.sep' (k := j) (by rw [h3 j hj]; simp)
    rw [h.og i hi j e] at h4; cases h4
open Classical in
/-- A stage of a try. -/
theorem SwIn.next (h : SwIn w0 w ow L s oz M z) {i c : Nat} {x y : TryS} (hx : z.all[i]? = some (c, x)) {d d' : CoreS} (hd : s.cores[c]? = some d) {bl p r : Nat} {F : Nat → Prop} (hbl : L.cb[c]? = some bl) (how : ∀ k, cfoot F bl p r k → ow k = some (.cor c))
    (hn : NextTo w0 w F bl p r (M.tb i) (M.G i) y y.stage d' w') : SwTo w0 w ow L oz M (s.setC c d') (z.set i y) w' := by
  obtain ⟨G', F', p', b', hc, ht, hf, h4, h5, h6⟩ := hn
  have hi := (List.getElem?_eq_some_iff.1 hx).1
  have hot := h.ot i hi
  have hob := how bl (.inr (.inl rfl))
  have hor := how r (.inr (.inr (.inr rfl)))
  have hzb : oz bl = none := h.sep' (by rw [hob]; simp)
  have hsz := hf.size
  have f5 : ∀ k, F' k ∨ k = p' → ow k = none ∨ ow k = some (.cor c) := fun k hk => by
    rcases h5 k hk with e | e | e
    · exact .inr (how k (.inl e))
    · exact .inr (how k (.inr (.inr (.inl e))))
    · exact .inl (h.sep k (by rw [h.og i hi k e]; simp))
  have f5z : ∀ {k o}, oz k = some o → (∀ j, o ≠ .tr j ∨ j ≠ i) → ¬ (F' k ∨ k = p') := fun {k o} hk ho e => by
    rcases h5 k e with e | e | e
    · have := h.sep' (k := k) (by rw [how k (.inl e)]; simp); rw [hk] at this; cases this
    · have := h.sep' (k := k) (by rw [how k (.inr (.inr (.inl e)))]; simp); rw [hk] at this; cases this
    · have := h.og i hi k e
      rw [hk] at this
      simp only [Option.some.injEq] at this
      rcases ho i with h1 | h1
      · exact h1 this
      · exact h1 rfl
  have f4z : ∀ {k o}, oz k = some o → (∀ j, o ≠ .tr j ∨ j ≠ i) → ¬ G' k := fun {k o} hk ho e => by
    rcases h4 k e with e | e
    · have := h.og i hi k e
      rw [hk] at this
      simp only [Option.some.injEq] at this
      rcases ho i with h1 | h1
      · exact h1 this
      · exact h1 rfl
    · have := (h.lt k (by rw [hk]; simp)).2; omega
  have n : ∀ {k o}, oz k = some o → (∀ j, o ≠ .tr j ∨ j ≠ i) → ¬ (k = M.tb i ∨ k = bl ∨ M.G i k) := fun {k o} hk ho e => by
    rcases e with e | e | e
    · rw [e, hot] at hk
      simp only [Option.some.injEq] at hk
      subst hk
      rcases ho i with h1 | h1
      · exact h1 rfl
      · exact h1 rfl
    · rw [e, hzb] at hk; cases hk
    · have := h.og i hi k e
      rw [hk] at this
      simp only [Option.some.injEq] at this
      rcases ho i with h1 | h1
      · exact h1 this
      · exact h1 rfl
  have keep : ∀ {k o}, oz k = some o → (∀ j, o ≠ .tr j ∨ j ≠ i) → (if F' k ∨ k = p' then none else if G' k then some (OwnW.tr i) else oz k) = some o := fun {k o} hk ho => by
    rw [if_neg (f5z hk ho), if_neg (f4z hk ho)]; exact hk
  have g0 : ∀ k, (k = M.tb i ∨ k = bl ∨ M.G i k) → w0.heap.size ≤ k := fun k e => by
    rcases e with e | e | e
    · rw [e]; exact (h.lt _ (by rw [hot]; simp)).1
    · rw [e]; exact (h.sys.lt _ _ hob).1
    · exact (h.lt k (by rw [h.og i hi k e]; simp)).1
  have ftop : ∀ j, (OwnW.top ≠ OwnW.tr j ∨ j ≠ i) := fun j => .inl (fun e => by cases e)
  have fmap' : ∀ j, (OwnW.map ≠ OwnW.tr j ∨ j ≠ i) := fun j => .inl (fun e => by cases e)
  have farr : ∀ j, (OwnW.arr ≠ OwnW.tr j ∨ j ≠ i) := fun j => .inl (fun e => by cases e)
  have ftr : ∀ k, k ≠ i → ∀ j, (OwnW.tr k ≠ OwnW.tr j ∨ j ≠ i) := fun k hk j => by
    by_cases e : j = i
    · exact .inl (fun e2 => by cases e2; exact hk e)
    · exact .inr e
  have hlen : (z.set i y).all.length = z.all.length := by simp [SwS.set]
  have hsys := h.sys.giveC (c' := d') hd hbl hob hor hc (hf.mono fun k _ e => by
    rcases e with e | e | e
    · exact .inr ⟨by rw [e]; exact h.sep _ (by rw [hot]; simp), by rw [e]; exact g0 _ (.inl rfl)⟩
    · exact .inl e
    · exact .inr ⟨h.sep _ (by rw [h.og i hi k e]; simp), g0 _ (.inr (.inr e))⟩) f5
  refine ⟨_, fun k => if F' k ∨ k = p' then none else if G' k then some (.tr i) else oz k, { M with G := fun j => if j = i then G' else M.G j }, rfl, fun _ _ => rfl, ⟨hsys, ?_, ?_, by rw [hlen]; exact h.mn, ?_, fun j c2 x2 hx2 => ?_, keep h.ob ftop, keep h.om fmap', fun j hj => ?_, fun j hj => ?_, fun j hj k hk => ?_, fun k j hk => ?_, fun k hk => ?_, fun k hk => ?_⟩, hf.mono fun k _ e => ?_, fun k hk => ?_⟩
  · simp only [hlen]; exact heap_fr h.top hf (n h.ob ftop)
  · exact h.map.fr hf (n h.om fmap')
  · simp only [hlen]; exact own_fr h.arr hf (fun j hj => n (h.oa j hj) farr)
  · simp only [SwS.set, List.getElem?_modify] at hx2
    by_cases e : i = j
    · subst e
      rw [hx] at hx2
      simp only [if_true, Option.map_eq_map, Option.map_some, Option.some.injEq, Prod.mk.injEq] at hx2
      obtain ⟨rfl, rfl⟩ := hx2
      refine ⟨bl, hbl, ?_⟩
      simp only [if_true]
      exact ht
    · have hx3 : z.all[j]? = some (c2, x2) := by
        cases hq : z.all[j]? with
        | none => rw [hq] at hx2; simp at hx2
        | some p => rw [hq] at hx2; simpa [e] using hx2
      have hj := (List.getElem?_eq_some_iff.1 hx3).1
      obtain ⟨bl2, a1, a2⟩ := h.try' j c2 x2 hx3
      refine ⟨bl2, a1, ?_⟩
      simp only [if_neg (fun e2 : j = i => e e2.symm)]
      exact a2.fr hf (n (h.ot j hj) (ftr j (fun e2 => e e2.symm))) (fun k hk => n (h.og j hj k hk) (ftr j (fun e2 => e e2.symm))) g0
  · rw [hlen] at hj
    exact keep (h.oa j hj) farr
  · rw [hlen] at hj
    by_cases e : j = i
    · subst e
      simp only
      rw [if_neg (fun e => (h6 _ (by rcases e with e | e; exact .inl e; exact .inr (.inr (.inl e)))).1 rfl), if_neg ht.tG]
      exact hot
    · exact keep (h.ot j hj) (ftr j e)
  · rw [hlen] at hj
    simp only at hk
    by_cases e : j = i
    · subst e
      rw [if_pos rfl] at hk
      rw [if_neg (fun e => (h6 _ (by rcases e with e | e; exact .inl e; exact .inr (.inr (.inl e)))).2 hk), if_pos hk]
    · rw [if_neg e] at hk
      exact keep (h.og j hj k hk) (ftr j e)
  · rw [hlen]
    by_cases e : F' k ∨ k = p'
    · rw [if_pos e] at hk; cases hk
    · rw [if_neg e] at hk
      by_cases e2 : G' k
      · rw [if_pos e2] at hk
        cases hk
        exact hi
      · rw [if_neg e2] at hk
        exact h.otl k j hk
  · by_cases e : F' k ∨ k = p'
    · rw [if_pos e] at hk; exact absurd rfl hk
    · rw [if_neg e] at hk ⊢
      by_cases e2 : G' k
      · rcases h4 k e2 with e3 | e3
        · exact h.sep k (by rw [h.og i hi k e3]; simp)
        · rcases Option.eq_none_or_eq_some (ow k) with e4 | ⟨o, e4⟩
          · exact e4
          · have := (h.sys.lt k o e4).2; omega
      · rw [if_neg e2] at hk
        exact h.sep k hk
  · by_cases e : F' k ∨ k = p'
    · rw [if_pos e] at hk; exact absurd rfl hk
    · rw [if_neg e] at hk
      by_cases e2 : G' k
      · exact ht.new k e2
      · rw [if_neg e2] at hk
        have := h.lt k hk
        omega
  · rcases e with e | e | e
    · exact .inr (by rw [e, hot]; simp)
    · exact .inl (by rw [e, hob]; simp)
    · exact .inr (by rw [h.og i hi k e]; simp)
  · by_cases e : F' k ∨ k = p'
    · rcases h5 k e with e2 | e2 | e2
      · exact .inl (.inl (by rw [how k (.inl e2)]; simp))
      · exact .inl (.inl (by rw [how k (.inr (.inr (.inl e2)))]; simp))
      · exact .inl (.inr (by rw [h.og i hi k e2]; simp))
    · simp only [if_neg e] at hk
      by_cases e2 : G' k
      · rcases h4 k e2 with e3 | e3
        · exact .inl (.inr (by rw [h.og i hi k e3]; simp))
        · exact .inr e3
      · simp only [if_neg e2] at hk
        exact .inl hk
end
end Go.Proofs.YtlgkkolgdjgclaaGreat
/- Tries of a system's cores: New, Try, Step, Abort, Counts. -/
namespace Go.Proofs.YtlgkkolgdjgclaaGreat
open Go.RowKit Go.Shelf Go.Maps
set_option linter.unusedVariables false
set_option linter.unusedSimpArgs false

section
variable {w0 w w' : World} {ow : Nat → Option Own} {L : Lay} {s s' : SysS} {oz : Nat → Option OwnW} {M : SwL} {z : SwS} {t c : Nat} {G : Nat → Prop} {x : TryS} {lv : Int} {T : Nat}
set_option maxHeartbeats 800000 in
theorem OpenNil (w : World) : Calls Tryz.prog 35 #[.pointer none] w fun e w' => e = .returned (.bool false) ∧ w = w' := by
  go_enter Tryz.func35, Tryz.ntmps35
  go_wp2_with fail
  go_ret
  exact ⟨rfl, rfl⟩
set_option maxHeartbeats 800000 in
theorem OpenAt (hx : TryAt w0 w t G c x lv) : Calls Tryz.prog 35 #[.pointer (some ⟨t, 0, none⟩)] w fun e w' => e = .returned (.bool (decide (x.stage < 5))) ∧ w = w' := by
  have HS := Lib.hid (StStage hx)
  clear hx
  go_enter Tryz.func35, Tryz.ntmps35
  go_wp2_with (go_at_call 29; refine HS.out.mono ?_; rintro e w1 ⟨rfl, rfl⟩)
  go_ret
  exact ⟨rfl, rfl⟩
theorem SwIn.cells (h : SwIn w0 w ow L s oz M z) : (w.cell? ⟨M.b, 0, none⟩ = some (.pointer (some ⟨L.b, 0, none⟩)) ∧ w.cell? ⟨M.b, 1, none⟩ = some (.map (some M.m)) ∧ w.cell? ⟨M.b, 2, none⟩ = some (.slice M.a z.all.length M.k)) ∧ w.frozen? ⟨M.b, 2, none⟩ = false ∧ M.b < w.heap.size := by
  have hx := h.top
  have hg := (Array.getElem?_eq_some_iff.1 hx).1
  refine ⟨⟨?_, ?_, ?_⟩, ?_, hg⟩ <;> simp [World.cell?, World.frozen?, hx]
/-- The last try of a core, looked up. -/
theorem SwIn.look (h : SwIn w0 w ow L s oz M z) {c : Int} (hc : I63 c) : (Instr.lookup 77 (.map (some M.m)) (.int .i64 c) false).run Tryz.prog w = .ok (if z.lst c < 0 then .pointer none else .pointer (some ⟨M.tb (z.lst c).toNat, 0, none⟩)) w := by
  rw [h.map.lookT hc]
  unfold lmap ptrV
  by_cases e : z.lst c < 0
  · simp [e]
  · rw [if_neg e, if_neg e, if_neg (by omega), Int.toNat_natCast]
set_option maxHeartbeats 1600000 in
set_option maxRecDepth 100000 in
theorem SwNewC (h : SysIn w0 w ow L s) : Calls Tryz.prog 27 #[.pointer (some ⟨L.b, 0, none⟩)] w fun e w' => ∃ oz M, e = .returned (.tuple #[.pointer (some ⟨M.b, 0, none⟩), .int .i64 0]) ∧ SwIn w0 w' ow L s oz M SwS.new ∧ M.n = 0 ∧ (∀ k, oz k ≠ none → w.heap.size ≤ k) ∧ Below w.heap.size w w' := by
  have H := Lib.hid h
  have hmk : ∀ w, (Instr.makeMap 77 none).run Tryz.prog w = .ok (.map (some w.heap.size)) (w.alloc (.map #[] 0)) := fun w => run_makeMap _ w
  have h0 := h.old.size
  have hlt := h.lt
  clear h
  go_enter Tryz.func27, Tryz.ntmps27
  go_wp2_with fail
  go_ret2
  have hb : Below w.heap.size w (w.alloc (.map #[] 0)) := (Below.refl _ _).alloc (Nat.le_refl _) _
  have hb2 := hb.alloc (o := .cells #[.pointer (some ⟨L.b, 0, none⟩), .map (some w.heap.size), .slice none 0 0] 80) (by simp)
  refine ⟨fun k => if k = w.heap.size + 1 then some .top else if k = w.heap.size then some .map else none, ⟨w.heap.size + 1, w.heap.size, 0, none, 0, fun _ => 0, fun _ _ => False⟩, rfl, ⟨H.out.below hb2, ?_, (MapP.made w).below ((Below.refl _ _).alloc (Nat.le_refl _) _), Nat.le_refl _, World.ownsRow_nil _ _ _ _, fun i c x hx => by simp [SwS.new] at hx, by simp, by simp, fun j hj => by simp [Value.ownBlock] at hj, fun i hi => by simp [SwS.new] at hi, fun i hi => by simp [SwS.new] at hi, fun k i hk => ?_, fun k hk => ?_, fun k hk => ?_⟩, rfl, fun k hk => ?_, hb2⟩
  · have := heap_new (w.alloc (.map #[] 0)) (.cells #[.pointer (some ⟨L.b, 0, none⟩), .map (some w.heap.size), .slice none 0 0] 80)
    have e : (w.alloc (.map #[] 0)).heap.size = w.heap.size + 1 := by simp
    rw [e] at this
    exact this
  · by_cases e : k = w.heap.size + 1
    · rw [if_pos e] at hk; cases hk
    · rw [if_neg e] at hk
      by_cases e2 : k = w.heap.size
      · rw [if_pos e2] at hk; cases hk
      · rw [if_neg e2] at hk; cases hk
  · rcases Option.eq_none_or_eq_some (ow k) with e | ⟨o, e⟩
    · exact e
    · have := (hlt k o e).2
      rw [if_neg (by omega), if_neg (by omega)] at hk
      exact absurd rfl hk
  · by_cases e : k = w.heap.size + 1
    · simp; omega
    · by_cases e2 : k = w.heap.size
      · simp; omega
      · rw [if_neg e, if_neg e2] at hk; exact absurd rfl hk
  · dsimp only at hk
    by_cases e : k = w.heap.size + 1
    · omega
    · by_cases e2 : k = w.heap.size
      · omega
      · rw [if_neg e, if_neg e2] at hk; exact absurd rfl hk
set_option maxHeartbeats 1600000 in
set_option maxRecDepth 100000 in
theorem SwTry (h : SwIn w0 w ow L s oz M z) {c : Int} (hc : I63 c) : Calls Tryz.prog 22 #[.pointer (some ⟨M.b, 0, none⟩), .int .i64 c] w fun e w' => e = .returned (if 0 ≤ c ∧ c < s.cores.length then (if z.lst c < 0 then .tuple #[.pointer none, .int .i64 14] else .tuple #[.pointer (some ⟨M.tb (z.lst c).toNat, 0, none⟩), .int .i64 0]) else .tuple #[.pointer none, .int .i64 2]) ∧ w = w' := by
  obtain ⟨⟨m0, m1, m2⟩, -, ml⟩ := h.cells
  have hlk := h.look hc
  by_cases hin : 0 ≤ c ∧ c < s.cores.length
  · obtain ⟨k, rfl⟩ : ∃ k : Nat, c = k := ⟨c.toNat, by omega⟩
    obtain ⟨bl, hbl⟩ : ∃ bl, L.cb[k]? = some bl := ⟨_, List.getElem?_eq_getElem (by rw [h.sys.cbl]; omega)⟩
    have HC := Lib.hid (YCore h.sys hin (bl := bl) (by rw [Int.toNat_natCast]; exact hbl))
    rw [if_pos hin]
    by_cases hl : z.lst k < 0
    · rw [if_pos hl] at hlk ⊢
      clear h hin hl
      go_enter Tryz.func22, Tryz.ntmps22
      go_wp2_with (go_at_call 14; refine HC.out.mono ?_; rintro e w1 ⟨rfl, rfl⟩)
      go_ret2
      exact ⟨rfl, rfl⟩
    · rw [if_neg hl] at hlk ⊢
      clear h hin hl
      go_enter Tryz.func22, Tryz.ntmps22
      go_wp2_with (go_at_call 14; refine HC.out.mono ?_; rintro e w1 ⟨rfl, rfl⟩)
      go_ret2
      exact ⟨rfl, rfl⟩
  · have HC := Lib.hid (YCore_none h.sys hin)
    rw [if_neg hin]
    clear h hin hlk
    go_enter Tryz.func22, Tryz.ntmps22
    go_wp2_with (go_at_call 14; refine HC.out.mono ?_; rintro e w1 ⟨rfl, rfl⟩)
    go_ret2
    exact ⟨rfl, rfl⟩
theorem SwOk.idx {n : Nat} (h : SwOk n z) {c : Int} (hc : ¬ z.lst c < 0) : ∃ x, z.all[(z.lst c).toNat]? = some (c.toNat, x) ∧ 0 ≤ c ∧ c < n := (h.lst c).resolve_left hc
/-- A step of a core's try. -/
def SwS.step (z : SwS) (s : SysS) (c : Int) : SwS × SysS × Int × Int :=
  if 0 ≤ c ∧ c < s.cores.length then
    (if z.lst c < 0 then (z, s, 0, 14) else match z.all[(z.lst c).toNat]? with
      | none => (z, s, 0, 14)
      | some p => (z.set (z.lst c).toNat (p.2.step (s.core c)).1, s.setC c.toNat (p.2.step (s.core c)).2, (p.2.step (s.core c)).1.stage, (p.2.step (s.core c)).1.why))
  else (z, s, 0, 2)
/-- What is known of all tries and their cores. -/
structure SwKn (s : SysS) (z : SwS) : Prop where
  ok : SwOk s.cores.length z
  inn : ∀ (i c : Nat) x d, z.all[i]? = some (c, x) → s.cores[c]? = some d → x.stage < 5 → TryIn x d
theorem good_near {T : Nat} {S : Ln} (h : NearQ T S) (hT : T ≤ 100000000) : goodF (formR S) = true := good_of_lags (h.ok hT) h.lags
set_option maxHeartbeats 1600000 in
set_option maxRecDepth 100000 in
theorem SwStep (h : SwIn w0 w ow L s oz M z) (hk : SysOk T s) (hT : T ≤ 10000000) (hz : SwKn s z) {c : Int} (hc : I63 c) : Calls Tryz.prog 25 #[.pointer (some ⟨M.b, 0, none⟩), .int .i64 c] w fun e w' => e = .returned (.tuple #[.int .i64 (z.step s c).2.2.1, .int .i64 (z.step s c).2.2.2]) ∧ SwTo w0 w ow L oz M (z.step s c).2.1 (z.step s c).1 w' := by
  have HT := Lib.hid (SwTry h hc)
  by_cases hin : 0 ≤ c ∧ c < s.cores.length
  · rw [if_pos hin] at HT
    by_cases hl : z.lst c < 0
    · rw [if_pos hl] at HT
      have e1 : z.step s c = (z, s, 0, 14) := by unfold SwS.step; rw [if_pos hin, if_pos hl]
      rw [e1]
      have HS := Lib.hid (h.same (Below.refl _ _))
      clear h hin hl e1
      go_enter Tryz.func25, Tryz.ntmps25
      go_wp2_with (go_at_call 22; refine HT.out.mono ?_; rintro e w1 ⟨rfl, rfl⟩)
      go_ret2
      exact ⟨rfl, HS.out⟩
    · rw [if_neg hl] at HT
      obtain ⟨x, hx, -, -⟩ := hz.ok.idx hl
      obtain ⟨d, hd, hde, hdf⟩ := hk.core hin
      obtain ⟨hok, -⟩ := hz.ok.tok _ _ _ hx
      obtain ⟨bl, F, p, q, r, hbl, hcst, how, htr, hdis⟩ := h.at hx hd
      have e1 : z.step s c = (z.set (z.lst c).toNat (x.step d).1, s.setC c.toNat (x.step d).2, (x.step d).1.stage, (x.step d).1.why) := by
        unfold SwS.step
        rw [if_pos hin, if_neg hl, hx]
        simp only [hde]
      rw [e1]
      have HS := Lib.hid (StStep hcst htr hdis hok hdf.tag (hdf.q.ok (by omega)) (good_near hdf.q (by omega)) (fun h3 h5 ha => (hz.inn _ _ _ _ hx hd h5).que h3 h5 ha))
      have HN := Lib.hid (fun (w' : World) (hn : NextTo w0 w F bl p r (M.tb (z.lst c).toNat) (M.G (z.lst c).toNat) (x.step d).1 (x.step d).1.stage (x.step d).2 w') => h.next hx hd hbl how hn)
      clear h hin hl e1 hx hd hde hdf hok hbl hcst how htr hdis
      go_enter Tryz.func25, Tryz.ntmps25
      go_wp2_with (first
        | (go_at_call 22; refine HT.out.mono ?_; rintro e w1 ⟨rfl, rfl⟩)
        | (go_at_call 36; refine HS.out.mono ?_; rintro e w2 ⟨rfl, hn⟩; have HF := Lib.hid (HN.out _ hn); clear hn))
      go_ret2
      exact ⟨rfl, HF.out⟩
  · rw [if_neg hin] at HT
    have e1 : z.step s c = (z, s, 0, 2) := by unfold SwS.step; rw [if_neg hin]
    rw [e1]
    have HS := Lib.hid (h.same (Below.refl _ _))
    clear h hin e1
    go_enter Tryz.func25, Tryz.ntmps25
    go_wp2_with (go_at_call 22; refine HT.out.mono ?_; rintro e w1 ⟨rfl, rfl⟩)
    go_ret2
    exact ⟨rfl, HS.out⟩
end
end Go.Proofs.YtlgkkolgdjgclaaGreat
/- Tries of a system's cores: Counts, Open. -/
namespace Go.Proofs.YtlgkkolgdjgclaaGreat
open Go.RowKit Go.Shelf Go.Maps
set_option linter.unusedVariables false
set_option linter.unusedSimpArgs false

def cntT (l : List (Nat × TryS)) (st : Int) : Nat := (l.filter fun p => decide (p.2.stage = st)).length
theorem cntT_succ {l : List (Nat × TryS)} {k : Nat} {p : Nat × TryS} (hp : l[k]? = some p) (st : Int) : cntT (l.take (k + 1)) st = cntT (l.take k) st + if p.2.stage = st then 1 else 0 := by
  obtain ⟨hk, e⟩ := List.getElem?_eq_some_iff.1 hp
  unfold cntT
  rw [List.take_succ_eq_append_getElem hk, List.filter_append, List.length_append, e]
  by_cases h : p.2.stage = st <;> simp [h]
theorem cntT_le (l : List (Nat × TryS)) (st : Int) : cntT l st ≤ l.length := List.length_filter_le _ _
section
variable {w0 w w' : World} {ow : Nat → Option Own} {L : Lay} {s s' : SysS} {oz : Nat → Option OwnW} {M : SwL} {z : SwS} {t c : Nat} {G : Nat → Prop} {x : TryS} {lv : Int} {T : Nat}
theorem SwIn.ptrs (h : SwIn w0 w ow L s oz M z) : Sl ptrN 1 w M.a ((List.range z.all.length).map M.tb) :=
  Sl.of_own (enc := ptrN) (B := w0.heap.size) (e := 49) (n := z.all.length) (c := M.k) (fun _ => rfl) (by have := h.arr; simpa using this)
set_option maxHeartbeats 1600000 in
set_option maxRecDepth 100000 in
theorem SwCounts (h : SwIn w0 w ow L s oz M z) (hlen : z.all.length ≤ 1000000) : Calls Tryz.prog 16 #[.pointer (some ⟨M.b, 0, none⟩)] w fun e w' => e = .returned (.tuple #[.int .i64 (cntT z.all 5), .int .i64 (cntT z.all 6)]) ∧ w = w' := by
  obtain ⟨⟨m0, m1, m2⟩, -, ml⟩ := h.cells
  have hsl := h.ptrs
  have HT := Lib.hid h.try'
  obtain ⟨n, hn⟩ : ∃ n, z.all.length = n := ⟨_, rfl⟩
  rw [hn] at m2 hsl hlen
  have Hn := Lib.hid hn
  have HS := Lib.hid hsl
  clear h hn hsl
  go_enter Tryz.func16, Tryz.ntmps16
  go_wp2_with fail
  go_loopw [11, 2, 3] (fun ix dx fx wr => ∃ k : Nat, k ≤ n ∧ ix = .int .i64 k ∧ dx = .int .i64 (cntT (z.all.take k) 5) ∧ fx = .int .i64 (cntT (z.all.take k) 6) ∧ wr = w) (fun ix _ _ _ => n - (intOf ix).toNat)
  case atStart => exact ⟨0, Nat.zero_le _, rfl, rfl, rfl, rfl⟩
  case round =>
    obtain ⟨k, hk, rfl, rfl, rfl, rfl⟩ := hrel
    have hk0 : (0 : Int) ≤ k := by omega
    by_cases hlt : k < n
    · have hkn : (k : Int) < n := by omega
      obtain ⟨p, hp⟩ : ∃ p, z.all[k]? = some p := ⟨_, List.getElem?_eq_getElem (by rw [Hn.out]; exact hlt)⟩
      obtain ⟨c, x⟩ := p
      obtain ⟨bl, -, htr⟩ := HT.out k c x hp
      obtain ⟨r, off, har, hr, hc⟩ := HS.out (by intro e; have := congrArg List.length e; simp at this; omega)
      have e0 := hc k (M.tb k) (by rw [List.getElem?_map, List.getElem?_range hlt]; rfl) 0 _ rfl
      simp only [Nat.mul_one, Nat.add_zero] at e0
      have s5 := cntT_succ hp 5
      have s6 := cntT_succ hp 6
      have l5 := cntT_le (z.all.take k) 5
      have l6 := cntT_le (z.all.take k) 6
      rw [List.length_take, Hn.out] at l5 l6
      have HSt := Lib.hid (StStage htr)
      simp only at s5 s6
      rw [har]
      generalize cntT (z.all.take k) 5 = n5 at *
      generalize cntT (z.all.take k) 6 = n6 at *
      have S5 := Lib.hid s5
      have S6 := Lib.hid s6
      clear hc hp htr s5 s6
      by_cases h5 : x.stage = 5
      · have h6 : ¬ x.stage = 6 := by omega
        go_wp2_with (go_at_call 29; refine HSt.out.mono ?_; rintro e w1 ⟨rfl, rfl⟩)
        exact ⟨⟨k + 1, hlt, by go_num, by rw [S5.out, if_pos h5]; go_num, by rw [S6.out, if_neg h6]; rfl, trivial⟩, by simp [intOf]; omega⟩
      · by_cases h6 : x.stage = 6
        · go_wp2_with (go_at_call 29; refine HSt.out.mono ?_; rintro e w1 ⟨rfl, rfl⟩)
          exact ⟨⟨k + 1, hlt, by go_num, by rw [S5.out, if_neg h5]; rfl, by rw [S6.out, if_pos h6]; go_num, trivial⟩, by simp [intOf]; omega⟩
        · go_wp2_with (go_at_call 29; refine HSt.out.mono ?_; rintro e w1 ⟨rfl, rfl⟩)
          exact ⟨⟨k + 1, hlt, by go_num, by rw [S5.out, if_neg h5]; rfl, by rw [S6.out, if_neg h6]; rfl, trivial⟩, by simp [intOf]; omega⟩
    · obtain rfl : k = n := by omega
      have htk : z.all.take k = z.all := by rw [← Hn.out, List.take_length]
      rw [htk]
      go_wp2_with fail
      go_ret2
      exact ⟨rfl, rfl⟩
/-- A try more. -/
theorem SwIn.add (h : SwIn w0 w ow L s oz M z) (hz : ∀ c, z.lst c < 0 ∨ (z.lst c).toNat < z.all.length) {c bl : Nat} (hbl : L.cb[c]? = some bl) {x : TryS} {t : Nat} {a : Option Addr} {k : Nat} (ht : TryAt w0 w' t (fun _ => False) bl x x.stage) (ht0 : w.heap.size ≤ t) (hf : Fr (fun j => oz j = some .top ∨ oz j = some .map ∨ oz j = some .arr) w w')
    (htop : w'.heap[M.b]? = some (.cells #[.pointer (some ⟨L.b, 0, none⟩), .map (some M.m), .slice a (z.all.length + 1) k] 80 (0, 0))) (hmap : MapP w' M.m (M.n + 1) (updP (lmap M z) c t))
    (harr : w'.ownsRow w0.heap.size 49 1 (.slice a (z.all.length + 1) k) (z.all.length + 1) (flat ptrN ((List.range z.all.length).map M.tb) ++ ptrN t)) (hown : ∀ j, (Value.slice a (z.all.length + 1) k).ownBlock = some j → j < w'.heap.size ∧ (oz j = some .arr ∨ w.heap.size ≤ j ∧ j ≠ t)) : SwTo w0 w ow L oz M s (z.add c x) w' := by
  have hlen : (z.add c x).all.length = z.all.length + 1 := by simp [SwS.add]
  have hsz := hf.size
  have h0 := h.sys.old.size
  have hg : ∀ j, (oz j = some .top ∨ oz j = some .map ∨ oz j = some .arr) → ow j = none ∧ w0.heap.size ≤ j := fun j hj => by
    have : oz j ≠ none := by rcases hj with e | e | e <;> rw [e] <;> simp
    exact ⟨h.sep j this, (h.lt j this).1⟩
  have htn : oz t = none := by
    rcases Option.eq_none_or_eq_some (oz t) with e | ⟨o, e⟩
    · exact e
    · have := (h.lt t (by rw [e]; simp)).2; omega
  have keep : ∀ {j o}, oz j = some o → o ≠ .arr → (if j = t then some (OwnW.tr z.all.length) else if (Value.slice a (z.all.length + 1) k).ownBlock = some j then some .arr else oz j) = some o := fun {j o} hj ho => by
    rw [if_neg (fun e => by rw [e, htn] at hj; cases hj), if_neg (fun e => ?_)]
    · exact hj
    · rcases (hown j e).2 with e2 | e2
      · rw [hj] at e2
        simp only [Option.some.injEq] at e2
        exact ho e2
      · have := (h.lt j (by rw [hj]; simp)).2; omega
  refine ⟨ow, fun j => if j = t then some (.tr z.all.length) else if (Value.slice a (z.all.length + 1) k).ownBlock = some j then some .arr else oz j, ⟨M.b, M.m, M.n + 1, a, k, fun i => if i = z.all.length then t else M.tb i, fun i => if i = z.all.length then (fun _ => False) else M.G i⟩, rfl, fun i hi => ?_, ⟨h.sys.fr hf hg, ?_, ?_, by rw [hlen]; exact Nat.succ_le_succ h.mn, ?_, fun i c2 x2 hx2 => ?_, keep h.ob (fun e => by cases e), keep h.om (fun e => by cases e), fun j hj => ?_, fun i hi => ?_, fun i hi j hj => ?_, fun j i hj => ?_, fun j hj => ?_, fun j hj => ?_⟩, hf.mono fun j _ e => .inr (by rcases e with e | e | e <;> rw [e] <;> simp), fun j hj => ?_⟩
  · have := h.otl _ _ hi
    simp only
    rw [if_neg (by omega)]
  · rw [hlen]; exact htop
  · have e : lmap ⟨M.b, M.m, M.n + 1, a, k, fun i => if i = z.all.length then t else M.tb i, fun i => if i = z.all.length then (fun _ => False) else M.G i⟩ (z.add c x) = updP (lmap M z) c t := by
      funext id
      unfold lmap SwS.add updP
      simp only
      by_cases e : id = (c : Int)
      · rw [if_pos e, if_pos e, if_neg (by omega), if_pos (by omega)]
      · rw [if_neg e, if_neg e]
        by_cases e2 : z.lst id < 0
        · rw [if_pos e2, if_pos e2]
        · rw [if_neg e2, if_neg e2]
          have := (hz id).resolve_left e2
          rw [if_neg (by omega)]
    rw [e]; exact hmap
  · rw [hlen]
    have e : ((List.range (z.all.length + 1)).map fun i => if i = z.all.length then t else M.tb i) = (List.range z.all.length).map M.tb ++ [t] := by
      rw [List.range_succ, List.map_append]
      congr 1
      · refine List.map_congr_left fun i hi => ?_
        have := List.mem_range.1 hi
        rw [if_neg (by omega)]
      · simp
    rw [e, flat_append]
    exact harr
  · simp only [SwS.add] at hx2
    by_cases e : i = z.all.length
    · subst e
      rw [List.getElem?_append_right (Nat.le_refl _)] at hx2
      simp only [Nat.sub_self, List.getElem?_cons_zero, Option.some.injEq, Prod.mk.injEq] at hx2
      obtain ⟨rfl, rfl⟩ := hx2
      refine ⟨bl, hbl, ?_⟩
      simp only [if_true]
      exact ht
    · have hi : i < z.all.length := by
        have := (List.getElem?_eq_some_iff.1 hx2).1
        simp at this
        omega
      rw [List.getElem?_append_left hi] at hx2
      obtain ⟨bl2, a1, a2⟩ := h.try' i c2 x2 hx2
      refine ⟨bl2, a1, ?_⟩
      simp only [if_neg e]
      have nn : ∀ {j}, oz j = some (.tr i) → ¬ (oz j = some .top ∨ oz j = some .map ∨ oz j = some .arr) := fun {j} hj e => by
        rw [hj] at e
        rcases e with e | e | e <;> cases e
      exact a2.fr hf (nn (h.ot i hi)) (fun j hj => nn (h.og i hi j hj)) (fun j hj => (hg j hj).2)
  · rw [hlen] at hj
    have := hown j hj
    by_cases e : j = t
    · subst e
      rcases this.2 with e2 | e2
      · rw [htn] at e2; cases e2
      · exact absurd rfl e2.2
    · rw [if_neg e, if_pos hj]
  · rw [hlen] at hi
    dsimp only
    by_cases e : i = z.all.length
    · rw [if_pos e, if_pos rfl, e]
    · rw [if_neg e]
      exact keep (h.ot i (by omega)) (fun e => by cases e)
  · rw [hlen] at hi
    simp only at hj ⊢
    by_cases e : i = z.all.length
    · rw [if_pos e] at hj; exact hj.elim
    · rw [if_neg e] at hj
      exact keep (h.og i (by omega) j hj) (fun e => by cases e)
  · rw [hlen]
    by_cases e : j = t
    · rw [if_pos e] at hj
      cases hj; omega
    · rw [if_neg e] at hj
      by_cases e2 : (Value.slice a (z.all.length + 1) k).ownBlock = some j
      · rw [if_pos e2] at hj; cases hj
      · rw [if_neg e2] at hj
        have := h.otl j i hj
        omega
  · rcases Option.eq_none_or_eq_some (ow j) with e3 | ⟨o, e3⟩
    · exact e3
    · have hb := (h.sys.lt j o e3).2
      have hzj := h.sep' (k := j) (by rw [e3]; simp)
      rw [if_neg (by omega)] at hj
      by_cases e2 : (Value.slice a (z.all.length + 1) k).ownBlock = some j
      · rcases (hown j e2).2 with e4 | e4
        · rw [hzj] at e4; cases e4
        · omega
      · rw [if_neg e2, hzj] at hj; exact absurd rfl hj
  · by_cases e : j = t
    · subst e
      exact ⟨by omega, ht.tlt⟩
    · rw [if_neg e] at hj
      by_cases e2 : (Value.slice a (z.all.length + 1) k).ownBlock = some j
      · have h1 := hown j e2
        refine ⟨?_, h1.1⟩
        rcases h1.2 with e4 | e4
        · exact (h.lt j (by rw [e4]; simp)).1
        · omega
      · rw [if_neg e2] at hj
        have := h.lt j hj
        omega
  · rcases hj with hj | hj
    · exact .inl (.inl hj)
    · simp only at hj
      by_cases e : j = t
      · subst e; exact .inr ht0
      · rw [if_neg e] at hj
        by_cases e2 : (Value.slice a (z.all.length + 1) k).ownBlock = some j
        · rcases (hown j e2).2 with e4 | e4
          · exact .inl (.inr (by rw [e4]; simp))
          · exact .inr e4.1
        · rw [if_neg e2] at hj
          exact .inl (.inr hj)
def SwS.opn (z : SwS) (c : Int) : Bool := if z.lst c < 0 then false else match z.all[(z.lst c).toNat]? with | some p => decide (p.2.stage < 5) | none => false
instance (tag : Int) : Decidable (TagOk tag) := by unfold TagOk; infer_instance
def SwS.openT (z : SwS) (s : SysS) (c tag : Int) : SwS × Int :=
  if 0 ≤ c ∧ c < s.cores.length then (if z.opn c = true then (z, 15) else if TagOk tag then (z.add c.toNat (TryS.new tag (1000 * (z.all.length : Int))), 0) else (z, 1)) else (z, 2)
theorem blk3' {w : World} {g : Nat} {u0 u1 u2 : Value} {T : TypeId} (h : w.heap[g]? = some (.cells #[u0, u1, u2] T (0, 0))) : (w.cell? ⟨g, 0, none⟩ = some u0 ∧ w.cell? ⟨g, 1, none⟩ = some u1 ∧ w.cell? ⟨g, 2, none⟩ = some u2) ∧ w.frozen? ⟨g, 2, none⟩ = false ∧ g < w.heap.size := by
  have hg := (Array.getElem?_eq_some_iff.1 h).1
  refine ⟨⟨?_, ?_, ?_⟩, ?_, hg⟩ <;> simp [World.cell?, World.frozen?, h]
theorem tryp_info : ((Tryz.prog).info? 49).map (fun i => (i.zero, i.size, i.bytes)) = some (some (.pointer none), 1, 8) := by kernel_rfl
set_option maxHeartbeats 3200000 in
set_option maxRecDepth 100000 in
theorem SwOpenC (h : SwIn w0 w ow L s oz M z) (hz : SwOk s.cores.length z) (hlen : z.all.length ≤ 1000000) {c : Int} (hc : I63 c) (tag : Int) : Calls Tryz.prog 21 #[.pointer (some ⟨M.b, 0, none⟩), .int .i64 c, .int .i64 tag] w fun e w' => e = .returned (.int .i64 (z.openT s c tag).2) ∧ SwTo w0 w ow L oz M s (z.openT s c tag).1 w' := by
  obtain ⟨⟨m0, m1, m2⟩, -, ml⟩ := h.cells
  have hlk := h.look hc
  by_cases hin : 0 ≤ c ∧ c < s.cores.length
  · obtain ⟨k, rfl⟩ : ∃ k : Nat, c = k := ⟨c.toNat, by omega⟩
    obtain ⟨bl, hbl⟩ : ∃ bl, L.cb[k]? = some bl := ⟨_, List.getElem?_eq_getElem (by rw [h.sys.cbl]; omega)⟩
    have HC := Lib.hid (YCore h.sys hin (bl := bl) (by rw [Int.toNat_natCast]; exact hbl))
    have HOx : ∃ v, (if z.lst k < 0 then Value.pointer none else .pointer (some ⟨M.tb (z.lst k).toNat, 0, none⟩)) = v ∧ Hid (Calls Tryz.prog 35 #[v] w fun e w' => e = .returned (.bool (z.opn k)) ∧ w = w') := by
      refine ⟨_, rfl, Lib.hid ?_⟩
      by_cases hl : z.lst k < 0
      · rw [if_pos hl]
        have : z.opn k = false := by unfold SwS.opn; rw [if_pos hl]
        rw [this]
        exact OpenNil w
      · rw [if_neg hl]
        obtain ⟨x, hx, -, -⟩ := hz.idx hl
        obtain ⟨bl2, -, a2⟩ := h.try' _ _ _ hx
        have : z.opn k = decide (x.stage < 5) := by unfold SwS.opn; rw [if_neg hl, hx]
        rw [this]
        exact OpenAt a2
    obtain ⟨v, hv, HO⟩ := HOx
    rw [hv] at hlk
    have HS := Lib.hid (h.same (Below.refl _ _))
    cases ho : z.opn k with
    | true =>
      rw [ho] at HO
      have e1 : z.openT s k tag = (z, 15) := by unfold SwS.openT; rw [if_pos hin, if_pos ho]
      rw [e1]
      clear h hin hz hv e1 ho hbl
      go_enter Tryz.func21, Tryz.ntmps21
      go_wp2_with (first
        | (go_at_call 14; refine HC.out.mono ?_; rintro e w1 ⟨rfl, rfl⟩)
        | (go_at_call 35; refine HO.out.mono ?_; rintro e w1 ⟨rfl, rfl⟩)
        )
      go_ret
      exact ⟨rfl, HS.out⟩
    | false =>
      rw [ho] at HO
      by_cases ht : TagOk tag
      · have e1 : z.openT s k tag = (z.add k (TryS.new tag (1000 * (z.all.length : Int))), 0) := by unfold SwS.openT; rw [if_pos hin, if_neg (by rw [ho]; simp), if_pos ht, Int.toNat_natCast]
        rw [e1]
        have HN := Lib.hid (StNew_ok w h.sys.old.size bl tag (1000 * (z.all.length : Int)) ht (by unfold BaseOk; omega))
        have H := Lib.hid h
        have HZ := Lib.hid hz
        have Hbl := Lib.hid hbl
        obtain ⟨n, hn⟩ : ∃ n, z.all.length = n := ⟨_, rfl⟩
        have Hn := Lib.hid hn
        rw [hn] at m2 HN hlen
        have hmul : wrap64 (1000 * (n : Int)) = 1000 * (n : Int) := IntWalk.wrap64_in _ (by omega)
        have hbm : M.b ≠ M.m := fun e => by have a := h.ob; rw [e, h.om] at a; cases a
        have ham : ∀ j, (Value.slice M.a z.all.length M.k).ownBlock = some j → j ≠ M.m := fun j hj e => by have a := h.oa j hj; rw [e, h.om] at a; cases a
        have hab : (Value.slice M.a n M.k).ownBlock ≠ some M.b := fun e => by have a := h.oa M.b (by rw [hn]; exact e); rw [h.ob] at a; cases a
        clear h hin hz hv e1 ho hbl hn
        obtain ⟨i0, hi0, hz0, hz1, hz2⟩ := info_parts tryp_info
        go_enter Tryz.func21, Tryz.ntmps21
        go_wp2_with (first
          | (go_at_call 14; refine HC.out.mono ?_; rintro e w1 ⟨rfl, rfl⟩)
          | (go_at_call 35; refine HO.out.mono ?_; rintro e w1 ⟨rfl, rfl⟩)
          | (go_at_call 40; refine HN.out.mono ?_; rintro e w1 ⟨t, rfl, ht1, ht0, hb1⟩
             have H1 := Lib.hid (H.out.below hb1)
             obtain ⟨⟨m0, m1, m2⟩, mf, ml⟩ := H1.out.cells
             rw [Hn.out] at m2
             have HT1 := Lib.hid ht1; have HT0 := Lib.hid ht0; have Hb1 := Lib.hid hb1
             clear ht1 ht0 hb1)
          | (refine wpList_putT _ rfl _ _ _ rfl M.m M.n _ rfl H1.out.map (by have := H1.out.mn; have := Hn.out; unfold maxLen; omega) k t rfl (ptrV_nat _).symm (by omega) hc ?_
             intro w2 hm2 hf2
             have x2 := heap_fr H1.out.top hf2 hbm
             rw [Hn.out] at x2
             have ho2 := own_fr H1.out.arr hf2 (fun j hj e => ham j hj e)
             rw [Hn.out] at ho2
             obtain ⟨⟨m0, m1, m2⟩, mf, ml⟩ := blk3' x2
             have hs2 := hf2.size
             have hne2 : M.b ≠ w2.heap.size := (by omega)
             have X2 := Lib.hid x2; have HM2 := Lib.hid hm2; have HF2 := Lib.hid hf2; have HO2 := Lib.hid ho2
             clear x2 hm2 hf2 ho2)
          | (at_builtin; go_loud (refine wpList_append_lies _ (by rfl) _ _ _ (by rfl) w0.heap.size 49 i0 _ 1 8 Tryz.underlying78 hi0 hz0 hz1 hz2 rfl (by omega) (.slice M.a n M.k) n _ (by rfl) (HO2.out.alloc _) ⟨w2.heap.size, 0, none⟩ 1 1 [.pointer (some ⟨t, 0, none⟩)] (by rfl) (by rfl) (World.news_of_block (cs := #[.pointer (some ⟨t, 0, none⟩)]) (t := 49) (fr := (0, 0)) (heap_at (by simp) _)) (by simp [Value.oneCell']) (by omega) (by unfold maxLen; omega) (by omega) (by have := H.out.sys.old.size; have := Hb1.out.size; simp; omega) (w2.heap.size + 1) (by simp) ?_)
             intro gg cap w3 hown3 hgrow hat hltg
             have hfr3 : Fr (fun q => (Value.slice M.a n M.k).ownBlock = some q) w2 w3 := (((Fr.refl _ w2).alloc _)).trans (Fr.of_grown hgrow) (fun _ _ h => h)
             have x3 := heap_fr X2.out hfr3 (fun e => hab e)
             obtain ⟨⟨m0, m1, m2⟩, mf, ml⟩ := blk3' x3
             have X3 := Lib.hid x3; have HF3 := Lib.hid hfr3; have HO3 := Lib.hid hown3; have HAt := Lib.hid hat; have HLg := Lib.hid hltg
             clear x3 hfr3 hown3 hgrow hat hltg))
        go_ret
        have hs1 := Hb1.out.size
        have hs2 := HF2.out.size
        have hs3 := HF3.out.size
        have hbw := (H.out.lt _ (by rw [H.out.ob]; simp)).2
        have hmw := (H.out.lt _ (by rw [H.out.om]; simp)).2
        have ht0 := HT0.out
        have htl := HT1.out.tlt
        have hss : (w3.setCell ⟨M.b, 2, none⟩ (.slice (some ⟨gg, 0, none⟩) (n + 1) cap)).heap.size = w3.heap.size := by simp
        have haw : ∀ j, (Value.slice M.a n M.k).ownBlock = some j → oz j = some .arr ∧ j < w.heap.size := fun j hj => by
          have h1 := H.out.oa j (by rw [Hn.out]; exact hj)
          exact ⟨h1, (H.out.lt j (by rw [h1]; simp)).2⟩
        have hset : Fr (fun j => j = M.b) w3 (w3.setCell ⟨M.b, 2, none⟩ (.slice (some ⟨gg, 0, none⟩) (n + 1) cap)) := (Fr.refl (fun j => j = M.b) w3).setCell (p := ⟨M.b, 2, none⟩) (fun _ => rfl) _
        have h1' : Fr (fun j => oz j = some .top ∨ oz j = some .map ∨ oz j = some .arr) w1 (w3.setCell ⟨M.b, 2, none⟩ (.slice (some ⟨gg, 0, none⟩) (n + 1) cap)) :=
          ((HF2.out.mono fun j _ e => by rw [e]; exact .inr (.inl H.out.om)).trans (HF3.out.mono fun j _ e => .inr (.inr (haw j e).1)) (fun _ _ h => h)).trans (hset.mono fun j _ e => by rw [e]; exact .inl H.out.ob) (fun _ _ h => h)
        have hgg : oz gg = some .arr ∨ w.heap.size ≤ gg ∧ gg ≠ t := by
          rcases HAt.out with e | e
          · exact .inl (haw gg e).1
          · exact .inr ⟨by omega, by omega⟩
        have hgb : gg ≠ M.b := by
          rcases hgg with e | e
          · intro e2; rw [e2, H.out.ob] at e; cases e
          · omega
        refine ⟨rfl, ?_⟩
        have hnt : ¬ (oz t = some .top ∨ oz t = some .map ∨ oz t = some .arr) := fun e => by
          have : oz t ≠ none := by rcases e with e | e | e <;> rw [e] <;> simp
          have := (H.out.lt t this).2
          omega
        have hadd := SwIn.add (w' := w3.setCell ⟨M.b, 2, none⟩ (.slice (some ⟨gg, 0, none⟩) (n + 1) cap)) (x := TryS.new tag (1000 * (n : Int))) (a := some ⟨gg, 0, none⟩) (k := cap) (t := t) H.out (fun c => by
            rcases HZ.out.lst c with e | ⟨x, e, -⟩
            · exact .inl e
            · exact .inr (List.getElem?_eq_some_iff.1 e).1) Hbl.out (HT1.out.fr h1' hnt (fun _ h => h.elim) (fun j hj => by
              have : oz j ≠ none := by rcases hj with e | e | e <;> rw [e] <;> simp
              exact (H.out.lt j this).1)) ht0 ((Fr.of_below (F := fun j => oz j = some .top ∨ oz j = some .map ∨ oz j = some .arr) Hb1.out).trans h1' (fun _ _ h => h)) (by rw [Hn.out]; exact heap_set X3.out _)
            ((HM2.out.fr HF3.out (fun e => by have := (haw _ e).1; rw [H.out.om] at this; cases this)).fr hset (fun e => hbm e.symm)) (by rw [Hn.out]; exact own_fr HO3.out hset (fun j hj e => hgb (by simp [Value.ownBlock] at hj; omega))) (fun j hj => by
              have e : gg = j := by simpa [Value.ownBlock] using hj
              subst e
              exact ⟨by rw [hss]; exact HLg.out, hgg⟩)
        rw [Hn.out]
        exact hadd
      · have e1 : z.openT s k tag = (z, 1) := by unfold SwS.openT; rw [if_pos hin, if_neg (by rw [ho]; simp), if_neg ht]
        rw [e1]
        obtain ⟨n, hn⟩ : ∃ n, z.all.length = n := ⟨_, rfl⟩
        rw [hn] at m2 hlen
        have HN := Lib.hid (StNew_err w bl tag (1000 * (n : Int)) (fun h => ht h.1))
        have hmul : wrap64 (1000 * (n : Int)) = 1000 * (n : Int) := IntWalk.wrap64_in _ (by omega)
        have H := Lib.hid h
        clear h hin hz hv e1 ho hbl hn
        go_enter Tryz.func21, Tryz.ntmps21
        go_wp2_with (first
          | (go_at_call 14; refine HC.out.mono ?_; rintro e w1 ⟨rfl, rfl⟩)
          | (go_at_call 35; refine HO.out.mono ?_; rintro e w1 ⟨rfl, rfl⟩)
          | (go_at_call 40; refine HN.out.mono ?_; rintro e w1 ⟨rfl, hb1⟩; have Hb1 := Lib.hid hb1; clear hb1))
        go_ret
        exact ⟨rfl, H.out.same Hb1.out⟩
  · have HC := Lib.hid (YCore_none h.sys hin)
    have e1 : z.openT s c tag = (z, 2) := by unfold SwS.openT; rw [if_neg hin]
    rw [e1]
    have HS := Lib.hid (h.same (Below.refl _ _))
    clear h hin hlk e1 hz
    go_enter Tryz.func21, Tryz.ntmps21
    go_wp2_with (go_at_call 14; refine HC.out.mono ?_; rintro e w1 ⟨rfl, rfl⟩)
    go_ret
    exact ⟨rfl, HS.out⟩
end
end Go.Proofs.YtlgkkolgdjgclaaGreat
/- Tries of a system's cores: All. -/
namespace Go.Proofs.YtlgkkolgdjgclaaGreat
open Go.RowKit Go.Shelf Go.Maps
set_option linter.unusedVariables false
set_option linter.unusedSimpArgs false

/-- A try that nothing befalls, and its core, behind k stages. -/
def fx (tag base : Int) (d : CoreS) : Nat → TryS × CoreS
  | 0 => (TryS.new tag base, d)
  | 1 => ({ TryS.new tag base with age := d.age, stage := 1 }, d)
  | 2 => ({ TryS.new tag base with age := d.age, b := putB d.tag (formR d.q), stage := 2 }, d)
  | 3 => ({ TryS.new tag base with age := d.age, b := putB d.tag (formR d.q), S := seedR (formR d.q) base, stage := 3 }, d)
  | 4 => ({ TryS.new tag base with age := d.age, b := putB d.tag (formR d.q), S := seedR (formR d.q) base, stage := 4 }, d)
  | _ => ({ TryS.new tag base with age := d.age, b := putB d.tag (formR d.q), S := seedR (formR d.q) base, stage := 5 }, { d with tag := tag, q := seedR (formR d.q) base })
section
variable {tag base : Int} {d : CoreS}
theorem fx_step (hg : goodC d.tag (formR d.q) = true) {k : Nat} (hk : k < 5) : (fx tag base d k).1.step (fx tag base d k).2 = fx tag base d (k + 1) := by
  have hr := readE_put hg
  have hf := form_seed (formR d.q) base
  obtain rfl | rfl | rfl | rfl | rfl : k = 0 ∨ k = 1 ∨ k = 2 ∨ k = 3 ∨ k = 4 := by omega
  · simp [fx, TryS.step, TryS.next, TryS.new]
  · simp [fx, TryS.step, TryS.next, TryS.new]
  · simp [fx, TryS.step, TryS.next, TryS.new, hr]
  · simp [fx, TryS.step, TryS.next, TryS.new, hf]
  · simp [fx, TryS.step, TryS.next, TryS.new, hf]
theorem fx_stage {k : Nat} (hk : k ≤ 5) : (fx tag base d k).1.stage = k ∧ (fx tag base d k).1.why = 0 := by
  obtain rfl | rfl | rfl | rfl | rfl | rfl : k = 0 ∨ k = 1 ∨ k = 2 ∨ k = 3 ∨ k = 4 ∨ k = 5 := by omega
  all_goals exact ⟨rfl, rfl⟩
theorem fx_core {k : Nat} (hk : k < 5) : (fx tag base d k).2 = d := by
  obtain rfl | rfl | rfl | rfl | rfl : k = 0 ∨ k = 1 ∨ k = 2 ∨ k = 3 ∨ k = 4 := by omega
  all_goals rfl
theorem fx_ok (ht : TagOk tag) (hb : 0 ≤ base ∧ base ≤ 1000000000) (hg : goodC d.tag (formR d.q) = true) {k : Nat} (hk : k ≤ 5) : TryOk (fx tag base d k).1 := by
  have hgf : goodF (formR d.q) = true := by unfold goodC at hg; rw [Bool.and_eq_true] at hg; exact hg.2
  have hq : OkS 0 (seedR (formR d.q) base) ∧ goodF (formR (seedR (formR d.q) base)) = true ∧ Lags (seedR (formR d.q) base) ∧ (seedR (formR d.q) base).base = base :=
    ⟨OkS.seed (by omega) (by omega) hgf, by rw [form_seed]; exact hgf, Lags.seed hgf, rfl⟩
  have hl := putB_len hg
  have hB := putB_byte hg
  obtain rfl | rfl | rfl | rfl | rfl | rfl : k = 0 ∨ k = 1 ∨ k = 2 ∨ k = 3 ∨ k = 4 ∨ k = 5 := by omega
  · exact ⟨ht, hb, by simp [fx, TryS.new], by simp [fx, TryS.new], by simp [fx, TryS.new], by simp [fx, TryS.new]⟩
  · exact ⟨ht, hb, by simp [fx, TryS.new], by simp [fx, TryS.new], by simp [fx, TryS.new], by simp [fx, TryS.new]⟩
  · exact ⟨ht, hb, by simp [fx, TryS.new], hl, hB, by simp [fx, TryS.new]⟩
  · exact ⟨ht, hb, by simp [fx, TryS.new], hl, hB, fun _ _ => hq⟩
  · exact ⟨ht, hb, by simp [fx, TryS.new], hl, hB, fun _ _ => hq⟩
  · exact ⟨ht, hb, by simp [fx, TryS.new], hl, hB, fun _ _ => hq⟩
theorem fx_form {k : Nat} (hk : k < 5) (h3 : 3 ≤ k) : formR (fx tag base d k).1.S = formR (fx tag base d k).2.q := by
  have hf := form_seed (formR d.q) base
  obtain rfl | rfl : k = 3 ∨ k = 4 := by omega
  all_goals exact hf
end
theorem setC_self {s : SysS} {c : Nat} {d : CoreS} (hd : s.cores[c]? = some d) : s.setC c d = s := by
  have : s.cores.set c d = s.cores := by
    refine List.ext_getElem? fun i => ?_
    rw [List.getElem?_set]
    by_cases e : c = i
    · subst e
      rw [if_pos rfl, if_pos (List.getElem?_eq_some_iff.1 hd).1, hd]
    · rw [if_neg e]
  cases s
  simp only [SysS.setC] at *
  rw [this]
theorem setC_setC (s : SysS) (c : Nat) (d e : CoreS) : (s.setC c d).setC c e = s.setC c e := by
  simp [SysS.setC]
theorem set_self {z : SwS} {i c : Nat} {x : TryS} (hx : z.all[i]? = some (c, x)) : z.set i x = z := by
  have : (z.all.modify i fun p => (p.1, x)) = z.all := by
    refine List.ext_getElem? fun j => ?_
    rw [List.getElem?_modify]
    by_cases e : i = j
    · subst e; rw [hx]; simp
    · cases z.all[j]? <;> simp [e]
  cases z
  simp only [SwS.set] at *
  rw [this]
theorem set_set (z : SwS) (i : Nat) (x y : TryS) : (z.set i x).set i y = z.set i y := by
  have : ((z.all.modify i fun p => (p.1, x)).modify i fun p => (p.1, y)) = z.all.modify i fun p => (p.1, y) := by
    refine List.ext_getElem? fun j => ?_
    simp only [List.getElem?_modify]
    by_cases e : i = j
    · subst e; cases z.all[i]? <;> simp
    · cases z.all[j]? <;> simp [e]
  simp only [SwS.set]
  rw [this]
def SwS.allT (z : SwS) (s : SysS) (c tag : Int) : SwS × SysS × Bool × Int :=
  if (z.openT s c tag).2 = 0 then ((z.openT s c tag).1.set z.all.length (fx tag (1000 * (z.all.length : Int)) (s.core c) 5).1, s.setC c.toNat (fx tag (1000 * (z.all.length : Int)) (s.core c) 5).2, true, 0)
  else ((z.openT s c tag).1, s, false, (z.openT s c tag).2)
def stageW (w : World) (t : Nat) : Nat := match w.cell? ⟨t, 3, none⟩ with
  | some (.int _ v) => v.toNat
  | _ => 0
section
variable {w0 w w' w1 : World} {ow ow1 : Nat → Option Own} {L : Lay} {s s' : SysS} {oz oz1 : Nat → Option OwnW} {M M1 : SwL} {z z1 z' : SwS} {T : Nat}
theorem SwTo.trans (h : SwIn w0 w ow L s oz M z) (h1 : SwIn w0 w1 ow1 L s' oz1 M1 z1) (hb : M1.b = M.b) (ht : ∀ i, oz (M.tb i) = some (.tr i) → M1.tb i = M.tb i) (hl : z.all.length ≤ z1.all.length) (hf : Fr (fun k => ow k ≠ none ∨ oz k ≠ none) w w1) (hn : ∀ k, (ow1 k ≠ none ∨ oz1 k ≠ none) → (ow k ≠ none ∨ oz k ≠ none) ∨ w.heap.size ≤ k) {s2 : SysS} (h2 : SwTo w0 w1 ow1 L oz1 M1 s2 z' w') : SwTo w0 w ow L oz M s2 z' w' := by
  obtain ⟨ow2, oz2, M2, a1, a2, a3, a4, a5⟩ := h2
  have hs := hf.size
  refine ⟨ow2, oz2, M2, a1.trans hb, fun i hi => ?_, a3, hf.trans a4 (fun k hk hx => ?_), fun k hk => ?_⟩
  · have hi2 := h.otl _ _ hi
    have e := ht i hi
    rw [a2 i (h1.ot i (by omega)), e]
  · rcases hn k hx with e | e
    · exact e
    · omega
  · rcases a5 k hk with e | e
    · exact hn k e
    · exact .inr (by omega)
set_option maxHeartbeats 3200000 in
set_option maxRecDepth 100000 in
theorem SwAll (h : SwIn w0 w ow L s oz M z) (hz : SwOk s.cores.length z) (hk : SysOk T s) (hT : T ≤ 10000000) (hlen : z.all.length ≤ 1000000) {c : Int} (hc : I63 c) (tag : Int) : Calls Tryz.prog 13 #[.pointer (some ⟨M.b, 0, none⟩), .int .i64 c, .int .i64 tag] w fun e w' => e = .returned (.tuple #[.bool (z.allT s c tag).2.2.1, .int .i64 (z.allT s c tag).2.2.2]) ∧ SwTo w0 w ow L oz M (z.allT s c tag).2.1 (z.allT s c tag).1 w' := by
  have HO := Lib.hid (SwOpenC h hz hlen hc tag)
  by_cases ho : (z.openT s c tag).2 = 0
  · have hin : 0 ≤ c ∧ c < s.cores.length := Classical.byContradiction fun hn => by
      unfold SwS.openT at ho; rw [if_neg hn] at ho; simp at ho
    have hop : z.opn c = false := by
      cases hq : z.opn c with
      | false => rfl
      | true => unfold SwS.openT at ho; rw [if_pos hin, if_pos hq] at ho; simp at ho
    have htag : TagOk tag := Classical.byContradiction fun hn => by
      unfold SwS.openT at ho; rw [if_pos hin, if_neg (by rw [hop]; simp), if_neg hn] at ho; simp at ho
    have eo : z.openT s c tag = (z.add c.toNat (TryS.new tag (1000 * (z.all.length : Int))), 0) := by unfold SwS.openT; rw [if_pos hin, if_neg (by rw [hop]; simp), if_pos htag]
    have ea : z.allT s c tag = ((z.add c.toNat (TryS.new tag (1000 * (z.all.length : Int)))).set z.all.length (fx tag (1000 * (z.all.length : Int)) (s.core c) 5).1, s.setC c.toNat (fx tag (1000 * (z.all.length : Int)) (s.core c) 5).2, true, 0) := by
      unfold SwS.allT; rw [if_pos ho, eo]
    rw [ea]
    rw [eo] at HO
    obtain ⟨d, hd, hde, hdf⟩ := hk.core hin
    rw [hde]
    have hgf := good_near hdf.q (by omega)
    have hgc : goodC d.tag (formR d.q) = true := by unfold goodC; rw [hgf, Bool.and_true, decide_eq_true_eq]; have := hdf.tag; unfold TagOk at this; omega
    have hbase : 0 ≤ 1000 * (z.all.length : Int) ∧ 1000 * (z.all.length : Int) ≤ 1000000000 := by omega
    obtain ⟨cn, rfl⟩ : ∃ cn : Nat, c = cn := ⟨c.toNat, by omega⟩
    rw [Int.toNat_natCast] at *
    obtain ⟨i, hi⟩ : ∃ i, z.all.length = i := ⟨_, rfl⟩
    have hzi : (z.add cn (TryS.new tag (1000 * (i : Int)))).all[i]? = some (cn, TryS.new tag (1000 * (i : Int))) := by
      subst hi; simp [SwS.add]
    have hzl : ¬ (z.add cn (TryS.new tag (1000 * (i : Int)))).lst cn < 0 ∧ (z.add cn (TryS.new tag (1000 * (i : Int)))).lst cn = i := by
      subst hi; simp [SwS.add, updP]
    have hzn : (z.add cn (TryS.new tag (1000 * (i : Int)))).all.length = i + 1 := by subst hi; simp [SwS.add]
    rw [hi] at HO hbase ⊢
    generalize hz1 : z.add cn (TryS.new tag (1000 * (i : Int))) = z1 at *
    have H := Lib.hid h
    have Hi := Lib.hid hi
    have HD := Lib.hid hd
    have HDf := Lib.hid hdf
    have HGc := Lib.hid hgc
    have HGf := Lib.hid hgf
    have HZi := Lib.hid hzi
    have HZl := Lib.hid hzl
    have HZn := Lib.hid hzn
    clear h hz hk hlen ho hin hop eo ea hd hde hdf hgf hgc hz1 hi hzi hzl hzn
    go_enter Tryz.func13, Tryz.ntmps13
    go_wp2_with (first
      | (go_at_call 21; refine HO.out.mono ?_; rintro e w1 ⟨rfl, ow1, oz1, M1, hb1, ht1, h1, hf1, hn1⟩
         obtain ⟨⟨m0, m1, m2⟩, -, ml⟩ := h1.cells
         rw [hb1] at m0 m1 m2 ml
         have hlk := h1.look hc
         rw [if_neg HZl.out.1, HZl.out.2, Int.toNat_natCast] at hlk
         have H1 := Lib.hid h1; have Hb1 := Lib.hid hb1; have Ht1 := Lib.hid ht1; have Hf1 := Lib.hid hf1; have Hn1 := Lib.hid hn1
         clear h1 hb1 ht1 hf1 hn1))
    go_loopw [24] (fun _ wr => ∃ (k : Nat) (ow' : Nat → Option Own) (oz' : Nat → Option OwnW) (M' : SwL), k ≤ 5 ∧ M'.b = M.b ∧ (∀ j, oz (M.tb j) = some (.tr j) → M'.tb j = M.tb j) ∧ M'.tb i = M1.tb i ∧ SwIn w0 wr ow' L (s.setC cn (fx tag (1000 * (i : Int)) d k).2) oz' M' (z1.set i (fx tag (1000 * (i : Int)) d k).1) ∧ Fr (fun k => ow k ≠ none ∨ oz k ≠ none) w wr ∧ ∀ k, (ow' k ≠ none ∨ oz' k ≠ none) → (ow k ≠ none ∨ oz k ≠ none) ∨ w.heap.size ≤ k) (fun _ wr => 5 - stageW wr (M1.tb i))
    case atStart => exact ⟨0, ow1, oz1, M1, by omega, Hb1.out, Ht1.out, rfl, by rw [show (fx tag (1000 * (i : Int)) d 0).2 = d from rfl, setC_self HD.out, show (fx tag (1000 * (i : Int)) d 0).1 = TryS.new tag (1000 * (i : Int)) from rfl, set_self HZi.out]; exact H1.out, Hf1.out, Hn1.out⟩
    case round =>
      obtain ⟨k, ow', oz', M', hk5, hMb, hMt, hMi, h, hf, hn⟩ := hrel
      have hx : (z1.set i (fx tag (1000 * (i : Int)) d k).1).all[i]? = some (cn, (fx tag (1000 * (i : Int)) d k).1) := by
        simp only [SwS.set, List.getElem?_modify, HZi.out]; simp
      have hdk : (s.setC cn (fx tag (1000 * (i : Int)) d k).2).cores[cn]? = some (fx tag (1000 * (i : Int)) d k).2 := by
        simp only [SysS.setC, List.getElem?_set, if_true]
        rw [if_pos (List.getElem?_eq_some_iff.1 HD.out).1]
      obtain ⟨bl, F, p, q, r, hbl, hcst, how, htr, hdis⟩ := h.at hx hdk
      obtain ⟨hst, hwy⟩ := fx_stage (tag := tag) (base := 1000 * (i : Int)) (d := d) hk5
      have hcell := htr.cells.1.2.1
      have HOp := Lib.hid (OpenAt htr)
      have HSg := Lib.hid (StStage htr)
      have HWy := Lib.hid (StWhy htr)
      rw [hMi] at HOp HSg HWy hcell
      rw [hst] at HOp HSg hcell
      rw [hwy] at HWy
      have hsw : stageW wr (M1.tb i) = k := by unfold stageW; rw [hcell]; simp
      by_cases hlt : k < 5
      · rw [decide_eq_true (show (k : Int) < 5 by omega)] at HOp
        have hco := fx_core (tag := tag) (base := 1000 * (i : Int)) (d := d) hlt
        have hsp := fx_step (tag := tag) (base := 1000 * (i : Int)) HGc.out hlt
        have hfm : 3 ≤ (fx tag (1000 * (i : Int)) d k).1.stage → (fx tag (1000 * (i : Int)) d k).1.stage < 5 → (fx tag (1000 * (i : Int)) d k).2.age = (fx tag (1000 * (i : Int)) d k).1.age → formR (fx tag (1000 * (i : Int)) d k).1.S = formR (fx tag (1000 * (i : Int)) d k).2.q := fun h3 _ _ => fx_form hlt (by omega)
        have HS := Lib.hid (StStep hcst htr hdis (fx_ok htag hbase HGc.out hk5) (by rw [hco]; exact HDf.out.tag) (K := 0) (by rw [hco]; exact HDf.out.q.ok (by omega)) (by rw [hco]; exact HGf.out) hfm)
        rw [hsp, hMi] at HS
        have HN := Lib.hid (fun (W : World) (hn : NextTo w0 wr F bl p r (M'.tb i) (M'.G i) (fx tag (1000 * (i : Int)) d (k + 1)).1 (fx tag (1000 * (i : Int)) d (k + 1)).1.stage (fx tag (1000 * (i : Int)) d (k + 1)).2 W) => h.next hx hdk hbl how hn)
        rw [hMi] at HN
        have HH := Lib.hid h
        have HF := Lib.hid hf
        have HNw := Lib.hid hn
        have HMt := Lib.hid hMt
        have HMb := Lib.hid hMb
        have HMi := Lib.hid hMi
        have HSw := Lib.hid hsw
        clear h hx hdk hbl hcst how htr hdis hst hwy hcell hco hsp hfm hf hn hMt hsw
        go_wp2_with (first
          | (go_at_call 35; refine HOp.out.mono ?_; rintro e w2 ⟨rfl, rfl⟩)
          | (go_at_call 36; refine HS.out.mono ?_; rintro e w2 ⟨rfl, hnx⟩; have HT := Lib.hid (HN.out _ hnx); clear hnx))
        obtain ⟨ow2, oz2, M2, a1, a2, a3, a4, a5⟩ := HT.out
        rw [setC_setC, set_set] at a3
        have hi2 : M2.tb i = M1.tb i := (a2 i (HH.out.ot i (by simp [SwS.set, HZn.out]))).trans HMi.out
        have hx2 : (z1.set i (fx tag (1000 * (i : Int)) d (k + 1)).1).all[i]? = some (cn, (fx tag (1000 * (i : Int)) d (k + 1)).1) := by
          simp only [SwS.set, List.getElem?_modify, HZi.out]; simp
        obtain ⟨bl2, -, htr2⟩ := a3.try' _ _ _ hx2
        have hcell2 := htr2.cells.1.2.1
        rw [hi2, (fx_stage (tag := tag) (base := 1000 * (i : Int)) (d := d) (show k + 1 ≤ 5 by omega)).1] at hcell2
        have hsw2 : stageW w2 (M1.tb i) = k + 1 := by unfold stageW; rw [hcell2]; simp
        have hsf := HF.out.size
        refine ⟨⟨k + 1, ow2, oz2, M2, by omega, a1.trans HMb.out, fun j hj => ?_, hi2, a3, HF.out.trans a4 (fun b hb hx => ?_), fun b hb => ?_⟩, by have := HSw.out; omega⟩
        · have e := HMt.out j hj
          have hj2 := H.out.otl _ _ hj
          rw [a2 j (HH.out.ot j (by simp [SwS.set, HZn.out]; have := Hi.out; omega)), e]
        · rcases HNw.out b hx with e | e
          · exact e
          · omega
        · rcases a5 b hb with e | e
          · exact HNw.out b e
          · exact .inr (by omega)
      · obtain rfl : k = 5 := by omega
        rw [decide_eq_false (show ¬ ((5 : Nat) : Int) < 5 by decide)] at HOp
        have HH := Lib.hid h
        have HF := Lib.hid hf
        have HNw := Lib.hid hn
        have HMt := Lib.hid hMt
        have HMb := Lib.hid hMb
        clear h hx hdk hbl hcst how htr hdis hst hwy hcell hf hn hMt hsw
        go_wp2_with (first
          | (go_at_call 35; refine HOp.out.mono ?_; rintro e w2 ⟨rfl, rfl⟩)
          | (go_at_call 29; refine HSg.out.mono ?_; rintro e w2 ⟨rfl, rfl⟩)
          | (go_at_call 37; refine HWy.out.mono ?_; rintro e w2 ⟨rfl, rfl⟩))
        go_ret2
        exact ⟨rfl, ow', oz', M', HMb.out, HMt.out, HH.out, HF.out, HNw.out⟩
  · have ea : z.allT s c tag = ((z.openT s c tag).1, s, false, (z.openT s c tag).2) := by unfold SwS.allT; rw [if_neg ho]
    rw [ea]
    generalize (z.openT s c tag).1 = z1 at *
    generalize (z.openT s c tag).2 = er at *
    have her : ¬ er = 0 := ho
    clear h hz hk ea
    go_enter Tryz.func13, Tryz.ntmps13
    go_wp2_with (go_at_call 21; refine HO.out.mono ?_; rintro e w1 ⟨rfl, h1⟩; have H1 := Lib.hid h1; clear h1)
    go_ret2
    exact ⟨rfl, H1.out⟩
end
end Go.Proofs.YtlgkkolgdjgclaaGreat
