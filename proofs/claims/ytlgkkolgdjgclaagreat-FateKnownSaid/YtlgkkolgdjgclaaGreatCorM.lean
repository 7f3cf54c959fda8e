/- A map of numbers by numbers. -/
import Derived.Maps.Own
import Derived.Maps.OwnOps
import Derived.Maps.Views
import Derived.Test.YtlgkkolgdjgclaaGreatA
import Derived.Test.YtlgkkolgdjgclaaGreatProg
import Derived.Test.YtlgkkolgdjgclaaGreatPif
namespace Go.Proofs.YtlgkkolgdjgclaaGreat
open Go.RowKit Go.Maps
set_option linter.unusedVariables false
set_option linter.unusedSimpArgs false

theorem keyed_int : Keyed Tryz.prog 3 := int_keyed Tryz.underlying3
theorem zero_i64 (w : World) : (zeroValue 2).run Tryz.prog w = .ok (.int .i64 0) w := by kernel_rfl
def updI (sv : Int → Int) (id u : Int) : Int → Int := fun j => if j = id then u else sv j
/-- Block r is a map of at most n entries; sv: what it has at each number. -/
def MapI (w : World) (r n : Nat) (sv : Int → Int) : Prop :=
  ∃ D : DataW Unit, w.ownsMap Tryz.prog 3 (plainElem Tryz.prog 2) r n D ∧ IsMap D ∧ ∀ id : Int, D.atKey (.int .i64 id) (.lit (.int .i64 0)) = .lit (.int .i64 (sv id))
theorem MapI.made (w : World) : MapI (w.alloc (.map #[] 0)) w.heap.size 0 (fun _ => 0) := ⟨.map [], World.ownsMap_made _ _ _ _, isMap_empty, fun id => rfl⟩
theorem MapI.lt {w : World} {r n : Nat} {sv : Int → Int} (h : MapI w r n sv) : r < w.heap.size := by
  obtain ⟨D, h, _⟩ := h
  exact h.lt
theorem MapI.fr {w w' : World} {r n : Nat} {sv : Int → Int} {F : Nat → Prop} (h : MapI w r n sv) (hf : Fr F w w') (hn : ¬ F r) : MapI w' r n sv := by
  obtain ⟨D, ⟨es, cl, hb, h2⟩, h3⟩ := h
  exact ⟨D, ⟨es, cl, heap_fr hb hf hn, h2⟩, h3⟩
theorem MapI.below {w w' : World} {r n : Nat} {sv : Int → Int} (h : MapI w r n sv) (hb : Below w.heap.size w w') : MapI w' r n sv := h.fr (F := fun _ => False) (Fr.of_below hb) (fun h => h)
theorem MapI.mono {w : World} {r n n' : Nat} {sv : Int → Int} (h : MapI w r n sv) (hn : n ≤ n') : MapI w r n' sv := by
  obtain ⟨D, h, h2⟩ := h
  exact ⟨D, h.mono hn, h2⟩
theorem wf_of {x : Int} (h : -9223372036854775808 ≤ x ∧ x ≤ 9223372036854775807) : (Lit.int .i64 x).wf = true := WalkArith.wf_i64 h
theorem wpList_lookI (w : World) {ops : Array Oper} {rest : List Oper} {o : Oper} {a : Act} {Q : Exit → Act → World → Prop} (hg : o.guard = none) (m x : Operand) (hop : o.op = Op.lookup 94 m x false)
    (r n : Nat) (sv : Int → Int) (hm : a.eval m = .map (some r)) (h : MapI w r n sv) (id : Int) (hx : a.eval x = .int .i64 id) (hw : -9223372036854775808 ≤ id ∧ id ≤ 9223372036854775807)
    (hK : wpList Tryz.prog ops Q rest (a.put o.dst (.int .i64 (sv id))) w) : wpList Tryz.prog ops Q (o :: rest) a w := by
  obtain ⟨D, h1, h2, h3⟩ := h
  refine wpList_lookup_own_int w hg m x 94 hop 3 2 .i64 keyed_int Tryz.underlying94 Tryz.underlying2 (zero_i64 _) r n D hm h1 (.int .i64 id) (.int .i64 id) hx (keyOf_int_mk Tryz.underlying3 (wf_of hw)) ?_
  intro c hat _
  have e := (h3 id).symm.trans hat
  obtain rfl : sv id = c := by simpa using e
  exact hK
theorem wpList_putI (w : World) {ops : Array Oper} {rest : List Oper} {o : Oper} {a : Act} {Q : Exit → Act → World → Prop} (hg : o.guard = none) (m x v : Operand) (hop : o.op = Op.mapUpdate 94 m x v)
    (r n : Nat) (sv : Int → Int) (hm : a.eval m = .map (some r)) (h : MapI w r n sv) (hn : n < maxLen) (id u : Int) (hx : a.eval x = .int .i64 id) (hv : a.eval v = .int .i64 u) (hw : -9223372036854775808 ≤ id ∧ id ≤ 9223372036854775807) (hwu : -9223372036854775808 ≤ u ∧ u ≤ 9223372036854775807)
    (hK : ∀ w', MapI w' r (n + 1) (updI sv id u) → Fr (fun k => k = r) w w' → wpList Tryz.prog ops Q rest (a.put o.dst undef) w') : wpList Tryz.prog ops Q (o :: rest) a w := by
  obtain ⟨D, h1, h2, h3⟩ := h
  refine wpList_mapUpdate_own w hg m x v 94 hop 3 2 keyed_int Tryz.underlying94 _ r n D hm h1 hn (.int .i64 id) (.int .i64 u) (.int .i64 id) hx hv (keyOf_int_mk Tryz.underlying3 (wf_of hw)) _ [] (plainElem_int Tryz.underlying2 (wf_of hwu)) ?_
  intro w' h1' hgr
  refine hK w' ⟨_, h1', h2.put _ _, fun j => ?_⟩ ((Fr.of_grown hgr).mono fun k _ e => by simpa using e.symm)
  unfold updI
  by_cases e : j = id
  · subst e
    rw [if_pos rfl, atKey_put_same (k := .int .i64 j) h2 (by trivial)]
  · rw [if_neg e, atKey_put_other (by simpa using e)]
    exact h3 j
end Go.Proofs.YtlgkkolgdjgclaaGreat
/- The plain model of a core; a core in memory. -/
namespace Go.Proofs.YtlgkkolgdjgclaaGreat
open Go.RowKit
set_option linter.unusedVariables false
set_option linter.unusedSimpArgs false

/-- A core: its policy's tag, its queue; how long each ran, how many entries that makes at most; how long nobody ran; what was OK. -/
structure CoreS where
  tag : Int
  q : Ln
  sv : Int → Int
  n : Nat
  idle : Int
  age : Int
namespace CoreS
def done (s : CoreS) (e : Int) : CoreS := if e = 0 then { s with age := s.age + 1 } else s
def enter (s : CoreS) (id w lag : Int) (exact : Bool) : CoreS := ({ s with q := if exact = true then putR s.q id w lag else enterR (heldT s.tag) s.q id w lag }).done (mayE s.q.l id w lag)
def leave (s : CoreS) (id : Int) : CoreS := ({ s with q := (leaveR s.q id).1 }).done (leaveR s.q id).2.2
def weigh (s : CoreS) (id w : Int) : CoreS := ({ s with q := (weighR s.q id w).1 }).done (weighR s.q id w).2
def ran (s : CoreS) : Ln × Int × Int := chargeR (pickT s.tag s.q).1
def run (s : CoreS) : CoreS × Int × Int :=
  if s.ran.2.2 = 0 then ({ s with q := s.ran.1, sv := updI s.sv s.ran.2.1 (s.sv s.ran.2.1 + 1), n := s.n + 1, age := s.age + 1 }, s.ran.2.1, 0)
  else if s.ran.2.2 = 14 then ({ s with q := s.ran.1, idle := s.idle + 1, age := s.age + 1 }, -1, 0)
  else ({ s with q := s.ran.1 }, s.ran.2.1, s.ran.2.2)
end CoreS
/-- Numbers stay small: B is how much was done at most. -/
structure CoreOk (B : Nat) (K : Int) (s : CoreS) : Prop where
  tag : TagOk s.tag
  ok : OkS K s.q
  age0 : 0 ≤ s.age
  age1 : s.age ≤ B
  idle0 : 0 ≤ s.idle
  idle1 : s.idle ≤ B
  sv0 : ∀ id, 0 ≤ s.sv id
  sv1 : ∀ id, s.sv id ≤ B
  n1 : s.n ≤ B
theorem CoreOk.mono {B B' : Nat} {K K' : Int} {s : CoreS} (h : CoreOk B K s) (hB : B ≤ B') (hK : K ≤ K') (hK1 : K' ≤ 1152921504606846976) : CoreOk B' K' s :=
  ⟨h.tag, h.ok.mono hK hK1, h.age0, by have := h.age1; omega, h.idle0, by have := h.idle1; omega, h.sv0, fun id => by have := h.sv1 id; omega, by have := h.n1; omega⟩
theorem CoreOk.with_q {B : Nat} {K K' : Int} {s : CoreS} {S : Ln} (h : CoreOk B K s) (hS : OkS K' S) : CoreOk B K' { s with q := S } := ⟨h.tag, hS, h.age0, h.age1, h.idle0, h.idle1, h.sv0, h.sv1, h.n1⟩
theorem CoreOk.done {B : Nat} {K : Int} {s : CoreS} (h : CoreOk B K s) (e : Int) : CoreOk (B + 1) K (s.done e) := by
  unfold CoreS.done
  split
  · exact ⟨h.tag, h.ok, by have := h.age0; simp only; omega, by have := h.age1; simp only; omega, h.idle0, by have := h.idle1; simp only; omega, h.sv0, fun id => by have := h.sv1 id; simp only; omega, by have := h.n1; simp only; omega⟩
  · exact ⟨h.tag, h.ok, h.age0, by have := h.age1; omega, h.idle0, by have := h.idle1; omega, h.sv0, fun id => by have := h.sv1 id; omega, by have := h.n1; omega⟩
theorem CoreOk.enter {B : Nat} {K : Int} {s : CoreS} (h : CoreOk B K s) (hK : K ≤ 1151795604700004352) (id w lag : Int) (exact : Bool) : CoreOk (B + 1) (K + 1125899906842624) (s.enter id w lag exact) := by
  unfold CoreS.enter
  refine CoreOk.done (h.with_q ?_) _
  cases exact
  · exact h.ok.enter _ id w lag (by omega)
  · exact h.ok.put id w lag (by omega)
theorem CoreOk.leave {B : Nat} {K : Int} {s : CoreS} (h : CoreOk B K s) (id : Int) : CoreOk (B + 1) K (s.leave id) := CoreOk.done (h.with_q (h.ok.leave id)) _
theorem CoreOk.weigh {B : Nat} {K : Int} {s : CoreS} (h : CoreOk B K s) (id w : Int) : CoreOk (B + 1) K (s.weigh id w) := CoreOk.done (h.with_q (h.ok.weigh id w)) _
theorem CoreOk.ran {B : Nat} {K : Int} {s : CoreS} (h : CoreOk B K s) : OkS K s.ran.1 := (pickok_T h.tag h.ok).charge
theorem CoreOk.run {B : Nat} {K : Int} {s : CoreS} (h : CoreOk B K s) : CoreOk (B + 1) K s.run.1 := by
  have hr := h.ran
  have h1 := h.age0; have h2 := h.age1; have h3 := h.idle0; have h4 := h.idle1; have h5 := h.n1
  unfold CoreS.run
  split
  · refine ⟨h.tag, hr, by simp only; omega, by simp only; omega, h3, by simp only; omega, fun id => ?_, fun id => ?_, by simp only; omega⟩
    · simp only [updI]; have := h.sv0 id; have := h.sv0 s.ran.2.1; split <;> omega
    · simp only [updI]; have := h.sv1 id; have := h.sv1 s.ran.2.1; split <;> omega
  · split
    · exact ⟨h.tag, hr, by simp only; omega, by simp only; omega, by simp only; omega, by simp only; omega, h.sv0, fun id => by have := h.sv1 id; simp only; omega, by simp only; omega⟩
    · exact (h.with_q hr).mono (by omega) (Int.le_refl _) h.ok.k1

/-- In w block c is the core s, its policy at p, the queue at b, in blocks F, the map at r. -/
structure CSt (w0 w : World) (F : Nat → Prop) (c p b r : Nat) (s : CoreS) : Prop where
  cell : w.heap[c]? = some (.cells #[.pointer (some ⟨p, 0, none⟩), .map (some r), .int .i64 s.idle, .int .i64 s.age] 96 (0, 0))
  pol : PSt w0 w F p b s.tag s.q
  map : MapI w r s.n s.sv
  cF : ¬ F c
  rF : ¬ F r
  cp : c ≠ p
  rp : r ≠ p
  cr : c ≠ r
  newc : w0.heap.size ≤ c
  newr : w0.heap.size ≤ r
/-- A core's blocks. -/
def cfoot (F : Nat → Prop) (c p r : Nat) (k : Nat) : Prop := F k ∨ k = c ∨ k = p ∨ k = r
/-- Behind a call on it. -/
def CNext (w0 w : World) (F : Nat → Prop) (c p b r : Nat) (s : CoreS) (w' : World) : Prop := ∃ F', CSt w0 w' F' c p b r s ∧ Fr (fun k => F k ∨ k = c ∨ k = r) w w' ∧ ∀ k, F' k → F k ∨ w.heap.size ≤ k
section
variable {w0 w w' w1 w2 : World} {F F1 : Nat → Prop} {c p b r : Nat} {s s' : CoreS}
theorem CSt.clt (h : CSt w0 w F c p b r s) : c < w.heap.size := (Array.getElem?_eq_some_iff.1 h.cell).1
theorem CSt.rlt (h : CSt w0 w F c p b r s) : r < w.heap.size := h.map.lt
theorem CSt.lt (h : CSt w0 w F c p b r s) : ∀ k, cfoot F c p r k → k < w.heap.size := by
  rintro k (hk | rfl | rfl | rfl)
  · exact h.pol.lt k hk
  · exact h.clt
  · exact h.pol.plt
  · exact h.rlt
theorem CSt.old (h : CSt w0 w F c p b r s) : Below w0.heap.size w0 w := h.pol.old
theorem CSt.below (h : CSt w0 w F c p b r s) (hb : Below w.heap.size w w') : CSt w0 w' F c p b r s :=
  ⟨heap_below h.cell hb, h.pol.below hb, h.map.below hb, h.cF, h.rF, h.cp, h.rp, h.cr, h.newc, h.newr⟩
theorem CSt.fr {G : Nat → Prop} (h : CSt w0 w F c p b r s) (hf : Fr G w w') (hd : ∀ k, cfoot F c p r k → ¬ G k) (hG : ∀ k, G k → w0.heap.size ≤ k) : CSt w0 w' F c p b r s :=
  ⟨heap_fr h.cell hf (hd c (.inr (.inl rfl))), h.pol.fr hf (fun k hk => hd k (.inl hk)) (hd p (.inr (.inr (.inl rfl)))) hG, h.map.fr hf (hd r (.inr (.inr (.inr rfl)))), h.cF, h.rF, h.cp, h.rp, h.cr, h.newc, h.newr⟩
theorem CSt.new (h : CSt w0 w F c p b r s) : ∀ k, cfoot F c p r k → w0.heap.size ≤ k := by
  rintro k (hk | rfl | rfl | rfl)
  · exact h.pol.new k hk
  · exact h.newc
  · exact h.pol.newp
  · exact h.newr
theorem CSt.pnext {S : Ln} (h : CSt w0 w F c p b r s) (hn : PNext w0 w F p b s.tag S w') : CNext w0 w F c p b r { s with q := S } w' := by
  obtain ⟨F', hq, hf, hs⟩ := hn
  have h1 := h.clt
  have h2 := h.rlt
  exact ⟨F', ⟨heap_fr h.cell hf h.cF, hq, h.map.fr hf h.rF, fun hk => (hs c hk).elim h.cF (fun h => by omega), fun hk => (hs r hk).elim h.rF (fun h => by omega), h.cp, h.rp, h.cr, h.newc, h.newr⟩, hf.mono fun k _ hk => .inl hk, hs⟩
theorem CSt.same (h : CSt w0 w F c p b r s) (hb : Below w.heap.size w w') : CNext w0 w F c p b r s w' := ⟨F, h.below hb, Fr.of_below hb, fun k hk => .inl hk⟩
theorem CNext.trans (h1 : ∀ k, F1 k → F k ∨ w.heap.size ≤ k) (hf : Fr (fun k => F k ∨ k = c ∨ k = r) w w1) (h : CNext w0 w1 F1 c p b r s w2) : CNext w0 w F c p b r s w2 := by
  obtain ⟨F2, hq, hf2, hs2⟩ := h
  have hsz := hf.size
  refine ⟨F2, hq, hf.trans hf2 (fun k hk hk2 => ?_), fun k hk => (hs2 k hk).elim (h1 k) (fun h => .inr (by omega))⟩
  rcases hk2 with h | h
  · exact (h1 k h).elim .inl (fun h => by omega)
  · exact .inr h
theorem CSt.setAge (h : CSt w0 w F c p b r s) (x : Int) : CSt w0 (w.setCell ⟨c, 3, none⟩ (.int .i64 x)) F c p b r { s with age := x } := by
  have hf : Fr (fun k => k = c) w (w.setCell ⟨c, 3, none⟩ (.int .i64 x)) := (Fr.refl (fun k => k = c) w).setCell (p := ⟨c, 3, none⟩) (fun _ => rfl) _
  exact ⟨heap_set h.cell _, h.pol.fr hf (fun k hk e => h.cF (by subst e; exact hk)) (fun e => h.cp e.symm) (fun k e => by subst e; exact h.newc), h.map.fr hf (fun e => h.cr e.symm), h.cF, h.rF, h.cp, h.rp, h.cr, h.newc, h.newr⟩
theorem CSt.setIdle (h : CSt w0 w F c p b r s) (x : Int) : CSt w0 (w.setCell ⟨c, 2, none⟩ (.int .i64 x)) F c p b r { s with idle := x } := by
  have hf : Fr (fun k => k = c) w (w.setCell ⟨c, 2, none⟩ (.int .i64 x)) := (Fr.refl (fun k => k = c) w).setCell (p := ⟨c, 2, none⟩) (fun _ => rfl) _
  exact ⟨heap_set h.cell _, h.pol.fr hf (fun k hk e => h.cF (by subst e; exact hk)) (fun e => h.cp e.symm) (fun k e => by subst e; exact h.newc), h.map.fr hf (fun e => h.cr e.symm), h.cF, h.rF, h.cp, h.rp, h.cr, h.newc, h.newr⟩
theorem CSt.setMap {n' : Nat} {sv' : Int → Int} (h : CSt w0 w F c p b r s) (hf : Fr (fun k => k = r) w w') (hm : MapI w' r n' sv') : CSt w0 w' F c p b r { s with n := n', sv := sv' } :=
  ⟨heap_fr h.cell hf h.cr, h.pol.fr hf (fun k hk e => h.rF (by subst e; exact hk)) (fun e => h.rp e.symm) (fun k e => by subst e; exact h.newr), hm, h.cF, h.rF, h.cp, h.rp, h.cr, h.newc, h.newr⟩
end
end Go.Proofs.YtlgkkolgdjgclaaGreat
