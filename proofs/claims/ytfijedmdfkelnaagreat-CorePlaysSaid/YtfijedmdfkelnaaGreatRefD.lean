/- The document's own queue: Leave; appends of cuts. -/
import Derived.Test.YtfijedmdfkelnaaGreatRefC
import Derived.Maps.AppendAt
namespace Go.Proofs.YtfijedmdfkelnaaGreat
open Go.RowKit
set_option linter.unusedVariables false
set_option linter.unusedSimpArgs false

theorem Fr.mono' {F G : Nat → Prop} {a b : World} (h : Fr F a b) (hG : ∀ i, F i → G i) : Fr G a b := h.mono fun i _ => hG i
section
variable {P : Program}
/-- Nothing is appended of a nil slice. -/
theorem run_append_nilsrc {w : World} {B k : Nat} {t ty e : TypeId} {i : TypeInfo} {v : Value} {n : Nat} {xs : List Value} (ht : P.underlying t = some (.slice e)) (hi : P.info? e = some i) (hown : w.ownsRow B e k v n xs) (c : Nat) :
    (Builtin.append_ #[t, t] ty #[v, .slice none 0 c]).run P w = .ok v w := by
  rcases hown.2 with ⟨rfl, rfl⟩ | ⟨g, cap, cur, rfl, _, _, hnc, _⟩
  · simp [Builtin.append_, run_underlying ht, sizeOf, typeInfo, hi, Builtin.lenOf, Builtin.firstCells]
  · simp [Builtin.append_, run_underlying ht, sizeOf, typeInfo, hi, Builtin.lenOf, Builtin.firstCells, hnc, storeCells]
/-- 'append(v, x...)' onto a row of one's own: x any slice whose cells are known. -/
theorem run_append_cut {w : World} {B k bytes : Nat} {t ty e : TypeId} {i : TypeInfo} {z v : Value} {n : Nat} {xs : List Value} (ht : P.underlying t = some (.slice e)) (hi : P.info? e = some i) (hz : i.zero = some z) (hk : i.size = k) (hby : i.bytes = bytes) (hzs : z.cells.size = k) (hk0 : 0 < k)
    (hown : w.ownsRow B e k v n xs) {A : Option Addr} {m c : Nat} {news : List Value} (hl : news.length = m * k) (hnil : A = none → m = 0) (hsrc : ∀ ad, A = some ad → ∀ j u, news[j]? = some u → w.cell? (ad.add j) = some u) (h1 : ∀ u ∈ news, u.oneCell' = true)
    (h63 : n + m ≤ maxLen) (hbytes : (n + m) * bytes ≤ 140737488355328) (hB : B ≤ w.heap.size) :
    ∃ a' c' w', (Builtin.append_ #[t, t] ty #[v, .slice A m c]).run P w = .ok (.slice a' (n + m) c') w' ∧ w'.ownsRow B e k (.slice a' (n + m) c') (n + m) (xs ++ news) ∧ w.grownBy w' v.ownBlock := by
  cases A with
  | none =>
    have hm := hnil rfl
    subst hm
    obtain rfl : news = [] := List.eq_nil_of_length_eq_zero (by simpa using hl)
    obtain ⟨a, c', rfl, _⟩ := own_slice hown
    exact ⟨a, c', w, run_append_nilsrc ht hi hown c, by simpa using hown, World.grownBy.refl w _⟩
  | some ad =>
    obtain ⟨v', w', hr, h2, h3, _⟩ := run_append_own_at (P := P) w B t ty e i z k bytes ht hi hz hk hby hzs hk0 v n xs hown ad m c news hl (hsrc ad rfl) h1 h63 hbytes hB
    obtain ⟨a, c', rfl, _⟩ := own_slice h2
    exact ⟨a, c', w', hr, h2, h3⟩
theorem wpList_append_cut {ops : Array Oper} {rest : List Oper} {o : Oper} {a : Act} {w : World} {Q : Exit → Act → World → Prop} (hgd : o.guard = none) (s x : Operand) (t : TypeId) (ho : o.op = .call { callee := .builtin .append, args := #[s, x], argTypes := #[t, t] })
    {B k bytes : Nat} {e : TypeId} {i : TypeInfo} {z v : Value} {n : Nat} {xs : List Value} (ht : P.underlying t = some (.slice e)) (hi : P.info? e = some i) (hz : i.zero = some z) (hk : i.size = k) (hby : i.bytes = bytes) (hzs : z.cells.size = k) (hk0 : 0 < k)
    (hs : a.eval s = v) (hown : w.ownsRow B e k v n xs) {A : Option Addr} {m c : Nat} {news : List Value} (hx : a.eval x = .slice A m c) (hl : news.length = m * k) (hnil : A = none → m = 0) (hsrc : ∀ ad, A = some ad → ∀ j u, news[j]? = some u → w.cell? (ad.add j) = some u) (h1 : ∀ u ∈ news, u.oneCell' = true)
    (h63 : n + m ≤ maxLen) (hbytes : (n + m) * bytes ≤ 140737488355328) (hB : B ≤ w.heap.size)
    (h : ∀ a' c' w', w'.ownsRow B e k (.slice a' (n + m) c') (n + m) (xs ++ news) → w.grownBy w' v.ownBlock → wpList P ops Q rest (a.put o.dst (.slice a' (n + m) c')) w') : wpList P ops Q (o :: rest) a w := by
  obtain ⟨a', c', w', hr, h2, h3⟩ := run_append_cut (P := P) (ty := o.type) ht hi hz hk hby hzs hk0 hown (c := c) hl hnil hsrc h1 h63 hbytes hB
  exact wpList_append_run hgd s x t ho v (.slice A m c) hs hx _ w' hr (h a' c' w' h2 h3)
end
theorem own_empty {w : World} {B g k : Nat} {e : TypeId} (h : w.heap[g]? = some (.cells #[] e (0, 0))) (hB : B ≤ g) : w.ownsRow B e k (.slice (some ⟨g, 0, none⟩) 0 0) 0 [] :=
  ⟨by simp, .inr ⟨g, 0, #[], rfl, hB, h, Nat.le_refl _, by unfold maxLen; omega, by simp, by simp⟩⟩
/-- A cut's cells. -/
theorem Sl.cut {α : Type} {enc : α → List Value} {k : Nat} (hk : ∀ x, (enc x).length = k) (h0 : 0 < k) {w : World} {a : Option Addr} {l : List α} (h : Sl enc k w a l) (i : Nat) :
    l.drop i = [] ∨ ∃ r off, a = some ⟨r, off, none⟩ ∧ ∀ j u, (flat enc (l.drop i))[j]? = some u → w.cell? ⟨r, off + i * k + j, none⟩ = some u := by
  by_cases hl : l.drop i = []
  · exact .inl hl
  · right
    obtain ⟨r, off, rfl, _, hc⟩ := h (by intro h; rw [h] at hl; simp at hl)
    refine ⟨r, off, rfl, fun j u hj => ?_⟩
    have hlt := (List.getElem?_eq_some_iff.1 hj).1
    rw [flat_length hk] at hlt
    have hjk : j / k < (l.drop i).length := (Nat.div_lt_iff_lt_mul h0).2 hlt
    obtain ⟨x, hx⟩ : ∃ x, (l.drop i)[j / k]? = some x := ⟨_, List.getElem?_eq_getElem hjk⟩
    have hm : j % k < (enc x).length := by rw [hk]; exact Nat.mod_lt _ h0
    have h2 := flat_get hk (l.drop i) (j / k) x hx (j % k) _ (List.getElem?_eq_getElem hm)
    have h3 : j / k * k + j % k = j := by rw [Nat.mul_comm]; exact Nat.div_add_mod j k
    rw [h3, hj] at h2
    rw [List.getElem?_drop] at hx
    have h4 := hc (i + j / k) x hx (j % k) u (by rw [List.getElem?_eq_getElem hm, h2])
    have e : off + (i + j / k) * k + j % k = off + i * k + j := by rw [Nat.add_mul]; omega
    rw [e] at h4
    exact h4
theorem Sl.take {α : Type} {enc : α → List Value} {k : Nat} (hk : ∀ x, (enc x).length = k) (h0 : 0 < k) {w : World} {a : Option Addr} {l : List α} (h : Sl enc k w a l) (i : Nat) : Sl enc k w a (l.take i) := fun hl => by
  obtain ⟨r, off, rfl, hr, hc⟩ := h (by intro h; rw [h] at hl; simp at hl)
  refine ⟨r, off, rfl, hr, fun j x hj u v hv => hc j x ?_ u v hv⟩
  rw [List.getElem?_take] at hj
  split at hj
  · exact hj
  · cases hj
theorem ptOne (l : List Pt) : ∀ u ∈ flat Pt.enc l, u.oneCell' = true := by
  intro u hu
  obtain ⟨x, _, hx⟩ := List.mem_flatMap.1 hu
  simp [Pt.enc] at hx
  rcases hx with rfl | rfl | rfl | rfl <;> rfl
/-- The cells of 'l[:i]'. -/
theorem Sl.srcTake {w : World} {a : Option Addr} {l : List Pt} (h : Sl Pt.enc 4 w a l) (i : Nat) : ∀ ad, a = some ad → ∀ j u, (flat Pt.enc (l.take i))[j]? = some u → w.cell? (ad.add j) = some u := by
  intro ad ha j u hu
  rcases (h.take Pt.len (by omega) i).cut Pt.len (by omega) 0 with h1 | ⟨r, off, h1, h2⟩
  · rw [List.drop_zero] at h1; rw [h1] at hu; simp [flat] at hu
  · rw [ha] at h1; cases h1
    rw [List.drop_zero] at h2
    rw [Addr.add_lit]
    simpa using h2 j u hu
/-- The cells of 'l[i:]'. -/
theorem Sl.srcDrop {w : World} {r : Nat} {l : List Pt} (h : Sl Pt.enc 4 w (some ⟨r, 0, none⟩) l) (i cap : Nat) (hc : l.length ≤ cap) {A : Addr} (hA : (if cap = i then (some ⟨r, 0, none⟩ : Option Addr) else some ⟨r, i * 4, none⟩) = some A) : ∀ j u, (flat Pt.enc (l.drop i))[j]? = some u → w.cell? (A.add j) = some u := by
  intro j u hu
  rcases h.cut Pt.len (by omega) i with h1 | ⟨r', off, h1, h2⟩
  · rw [h1] at hu; simp [flat] at hu
  · cases h1
    by_cases e : cap = i
    · have h3 : l.drop i = [] := List.drop_of_length_le (by omega)
      rw [h3] at hu; simp [flat] at hu
    · rw [if_neg e] at hA
      cases hA
      rw [Addr.add_lit]
      simpa using h2 j u hu
theorem RAt.caps {w : World} {b c : Nat} {a : Option Addr} {tag : Int} {S : Ln} (h : RAt w b a c tag S) : S.l.length ≤ c ∧ c ≤ 9223372036854775807 := by
  rcases h.row.2 with ⟨hv, h0⟩ | ⟨g, cap, cu, hv, _, _, h1, h2, _⟩
  · simp at hv; omega
  · simp at hv
    obtain ⟨_, rfl⟩ := hv
    unfold maxLen at h2
    exact ⟨h1, by omega⟩
theorem infoTask : (Tryz.prog.info? 82).map (fun i => (i.zero, i.size, i.bytes)) = some (some (.agg #[.int .i64 0, .int .i64 0, .int .i64 0, .int .i64 0]), 4, 32) := by kernel_rfl

/-- Behind a call that lays the row anew. -/
def RNew (w : World) (b : Nat) (tag : Int) (S : Ln) (w' : World) : Prop := ∃ a c, RAt w' b a c tag S ∧ (∀ p, a = some p → w.heap.size ≤ p.block) ∧ Fr (fun k => k = b) w w'
theorem rLeave_none {w : World} {b c : Nat} {a : Option Addr} {tag : Int} {S : Ln} (h : RAt w b a c tag S) (hl : S.l.length ≤ 64) (id : Int) (hf : fi (isId id) S.l = -1) :
    Calls Tryz.prog 12 #[.pointer (some ⟨b, 0, none⟩), .int .i64 id] w fun e w' => e = .returned (.tuple #[.int .i64 0, .int .i64 2]) ∧ w = w' := by
  have H0 := Lib.hid h
  have Hf := Lib.hid (rat_any h hl id hf)
  clear h hf
  go_enter Tryz.func12, Tryz.ntmps12
  go_wp2_with (go_at_call 48; refine Hf.out.mono ?_; rintro e w1 ⟨rfl, rfl⟩)
  go_ret2
  exact ⟨rfl, rfl⟩
set_option maxHeartbeats 3200000 in
set_option maxRecDepth 100000 in
theorem rLeave_go {w : World} {b c : Nat} {a : Option Addr} {tag : Int} {S : Ln} (h : RAt w b a c tag S) (hl : S.l.length ≤ 64) (id : Int) (j : Nat) (x : Pt) (hf : fi (isId id) S.l = j) (hx : S.l[j]? = some x)
    (hb1 : -2305843009213693952 ≤ S.base) (hb2 : S.base ≤ 4611686018427387904) (hv1 : -2305843009213693952 ≤ x.v) (hv2 : x.v ≤ 4611686018427387904) :
    Calls Tryz.prog 12 #[.pointer (some ⟨b, 0, none⟩), .int .i64 id] w fun e w' => e = .returned (.tuple #[.int .i64 (S.base - x.v), .int .i64 0]) ∧
      RNew w b tag ⟨growB S.base (S.l.eraseIdx j), if S.cur = id then -1 else S.cur, S.l.eraseIdx j⟩ w' := by
  generalize hcu : (if S.cur = id then -1 else S.cur) = cu
  have Hcu := Lib.hid hcu
  clear hcu
  have hjl : j < S.l.length := (List.getElem?_eq_some_iff.1 hx).1
  have hlen : (S.l.eraseIdx j).length = S.l.length - 1 := by rw [List.length_eraseIdx, if_pos hjl]
  obtain ⟨c0, c1, c2, c3, f0, f1, f2, f3, hlt⟩ := blk4 h.blk
  obtain ⟨hc1, hc2⟩ := h.caps
  obtain ⟨r, rfl, d0, d1, d2, d3, z0, z1, z2, z3, hrb, hr⟩ := h.elem j x hx
  have Hf := Lib.hid (rat_any h hl id hf)
  have hj0 : ¬ (j : Int) < 0 := by omega
  have hj1 : (0 : Int) ≤ j := by omega
  have hjn : (j : Int) < S.l.length := by omega
  have hjc : j ≤ c := by omega
  have hjc1 : j + 1 ≤ S.l.length := by omega
  have hjn1 : (j : Int) + 1 ≤ S.l.length := by omega
  have hjn2 : ((j : Int) + 1).toNat = j + 1 := by omega
  have hjn3 : (0 : Int) ≤ (j : Int) + 1 := by omega
  have hwr : IntKind.i64.wrap ((j : Int) + 1) = (j : Int) + 1 := IntWalk.i64_in _ (by omega)
  have hsub : IntKind.i64.wrap (S.base - x.v) = S.base - x.v := IntWalk.i64_in _ (by omega)
  have HB := Lib.hid h.blk
  have Hsl := Lib.hid h.sl
  have Hlen := Lib.hid hlen
  have Hcc := Lib.hid hc1
  obtain ⟨A, hA⟩ : ∃ A : Addr, (if c = j + 1 then some (⟨r, 0, none⟩ : Addr) else some ⟨r, (j + 1) * 4, none⟩) = some A := by split <;> exact ⟨_, rfl⟩
  have HA := Lib.hid hA
  obtain ⟨i0, hi0, hz0, hz1, hz2⟩ := info_parts infoTask
  clear h hf hx hlen
  go_enter Tryz.func12, Tryz.ntmps12
  go_wp2_with (go_at_call 48; refine Hf.out.mono ?_; rintro e w1 ⟨rfl, rfl⟩)
  refine wp_region_chain 57 [0, 1, 3, 7, 0, 16, 48, 112, 0, 496, 1008, 2032, 4095, 8191] [(0, none), (1, none), (2, none), (3, none), (4, none), (5, none), (6, none), (7, none), (8, none), (9, none), (10, none), (11, none), (12, none), (13, none)] (by kernel_rfl) (by kernel_rfl) (by rfl) ?_; simp only [chain, Obs, List.getElem?_toArray, List.getElem?_cons_zero, List.getElem?_cons_succ]
  go_wp2_with (first
    | (with_reducible refine And.intro (by first | with_reducible exact True.intro | with_reducible rfl | go_simp) ?_))
  refine NoPanic.normal ?_
  go_wp2_with fail
  have hfl1 : (flat Pt.enc (S.l.take j)).length = j * 4 := by rw [flat_length Pt.len, List.length_take]; congr 1; omega
  have hfl2 : (flat Pt.enc (S.l.drop (j + 1))).length = (S.l.length - (j + 1)) * 4 := by rw [flat_length Pt.len, List.length_drop]
  have hap : flat Pt.enc (S.l.take j) ++ flat Pt.enc (S.l.drop (j + 1)) = flat Pt.enc (S.l.eraseIdx j) := by rw [← flat_append, List.eraseIdx_eq_take_drop_succ]
  have Hfl1 := Lib.hid hfl1
  have Hfl2 := Lib.hid hfl2
  have Hap := Lib.hid hap
  clear hfl1 hfl2 hap
  have tok : True := trivial
  refine wp_region_chain 57 [0, 0, 0, 4, 12, 28, 0, 124, 254, 0, 512, 1536, 3584, 0, 8192, 32256, 65534, 131071, 262143, 524287] [(0, none), (2, none), (3, none), (4, none), (5, none), (6, none), (7, none), (9, none), (10, none), (11, none), (12, none), (13, none), (14, none), (15, none), (1, some [0, 2, 3, 4, 5, 6, 7, 9, 10, 11, 12, 13, 14, 15]), (8, some [0, 9, 10, 11, 12, 13, 14, 15]), (16, some [0]), (17, none), (18, none), (19, some [])] (by kernel_rfl) (by kernel_rfl) (by rfl) ?_; simp only [chain, Obs, List.getElem?_toArray, List.getElem?_cons_zero, List.getElem?_cons_succ]
  go_wp2_with (first
    | (with_reducible refine And.intro (by first | with_reducible exact True.intro | with_reducible rfl | go_simp) ?_)
    | (at_builtin; have _t := tok
       go_loud (refine wpList_append_cut (by rfl) _ _ _ (by rfl) (B := w.heap.size) Tryz.underlying53 hi0 hz0 hz1 hz2 rfl (by omega) (by rfl) (own_empty (heap_new w _) (Nat.le_refl _)) (A := some ⟨r, 0, none⟩) (m := j) (c := c) (by rfl) Hfl1.out (fun h => by cases h) ((Hsl.out.below ((Below.refl _ _).alloc (Nat.le_refl _) _)).srcTake j) (ptOne _) (by unfold maxLen; omega) (by omega) (by simp) ?_)
       intro a1 k1 w2 hown hgrow
       go_loud (have hfr : Fr (fun k => k = w.heap.size) (w.alloc (.cells #[] 82)) w2 := ((Fr.refl _ _).drew.drew).trans (Fr.of_grown hgrow) (fun k _ hk => by simpa [Value.ownBlock, eq_comm] using hk))
       go_loud (have hB2 := heap_fr (heap_alloc HB.out _) hfr (by omega))
       obtain ⟨q0, q1, q2, q3, u0, u1, u2, u3, ul⟩ := blk4 hB2
       have HB2 := Lib.hid hB2
       go_loud (have Hs2 := Lib.hid ((Hsl.out.below ((Below.refl _ _).alloc (Nat.le_refl _) _)).fr hfr (fun p hp => by cases hp; simp only; omega)))
       have Hfr := Lib.hid hfr
       have Hown := Lib.hid hown
       clear tok hB2 hfr hown hgrow)
    | (at_builtin
       refine wpList_append_cut (by rfl) _ _ _ (by rfl) (B := w.heap.size) Tryz.underlying53 hi0 hz0 hz1 hz2 rfl (by omega) (by rfl) Hown.out (A := some A) (m := S.l.length - (j + 1)) (c := c - (j + 1)) (by rfl) Hfl2.out (fun h => by cases h) (fun ad had => by cases had; exact Hs2.out.srcDrop (j + 1) c Hcc.out HA.out) (ptOne _) (by unfold maxLen; omega) (by omega) (by have := Hfr.out.size; simp at this; omega) ?_
       intro a2 k2 w3 hown3 hgrow3
       rw [show 0 + j + (S.l.length - (j + 1)) = S.l.length - 1 by omega] at hown3 ⊢
       rw [List.nil_append, Hap.out] at hown3
       have hfr3 : Fr (fun k => w.heap.size ≤ k) w2 w3 := (Fr.of_grown hgrow3).mono' (fun k hk => (Hown.out.lt k hk).1)
       have hB3 := heap_fr HB2.out hfr3 (by omega)
       obtain ⟨q0, q1, q2, q3, u0, u1, u2, u3, ul⟩ := blk4 hB3
       have hlt3 := hown3.lt
       have hne3 : (Value.slice a2 (S.l.length - 1) k2).ownBlock ≠ some b := fun e => by have := (hlt3 b e).1; omega
       have HR := Lib.hid (RAt.mk (w := w3.setCell ⟨b, 3, none⟩ (.slice a2 (S.l.length - 1) k2)) (b := b) (a := a2) (c := k2) (tag := tag) (S := ⟨S.base, S.cur, S.l.eraseIdx j⟩) (by simp only; rw [Hlen.out]; exact heap_set hB3 _) (by simp only; rw [Hlen.out]; exact own_base (own_set hown3 hne3) (Nat.zero_le _)) (fun p hp e => hne3 (by subst hp; simp [Value.ownBlock, e])))
       have Hnew := Lib.hid (fun p (hp : a2 = some p) => (hlt3 p.block (by subst hp; rfl)).1 : ∀ p, a2 = some p → w.heap.size ≤ p.block)
       have Hf3 := Lib.hid ((((Fr.refl (fun k => k = b) w).alloc (.cells #[] 82)).trans (Hfr.out.trans hfr3 (fun k hk h => by simp at hk; omega)) (fun k hk h => by omega)).setCell (p := ⟨b, 3, none⟩) (fun _ => rfl) (.slice a2 (S.l.length - 1) k2))
       clear hB3 hown3 hgrow3 hfr3 hlt3 hne3))
  refine NoPanic.normal ?_
  by_cases hci : S.cur = id
  · have hcb : (S.cur == id) = true := by simpa using hci
    have hcu := Hcu.out
    rw [if_pos hci] at hcu
    subst hcu
    have HG := Lib.hid (rgrow_any (HR.out.cur (-1)) (by simp only; rw [Hlen.out]; omega))
    clear hci
    go_wp2_with (go_at_call 49; refine HG.out.mono ?_; rintro e w5 ⟨rfl, hr5, hf5⟩; have Hr5 := Lib.hid hr5; have Hf5 := Lib.hid hf5; clear hr5 hf5)
    go_ret2
    exact ⟨rfl, a2, k2, Hr5.out, Hnew.out, (Hf3.out.setCell (p := ⟨b, 2, none⟩) (fun _ => rfl) _).trans Hf5.out (fun k _ e => e)⟩
  · have hcb : (S.cur == id) = false := by simpa using hci
    have hcu := Hcu.out
    rw [if_neg hci] at hcu
    subst hcu
    have HG := Lib.hid (rgrow_any HR.out (by simp only; rw [Hlen.out]; omega))
    clear hci
    go_wp2_with (go_at_call 49; refine HG.out.mono ?_; rintro e w5 ⟨rfl, hr5, hf5⟩; have Hr5 := Lib.hid hr5; have Hf5 := Lib.hid hf5; clear hr5 hf5)
    go_ret2
    exact ⟨rfl, a2, k2, Hr5.out, Hnew.out, Hf3.out.trans Hf5.out (fun k _ e => e)⟩
end Go.Proofs.YtfijedmdfkelnaaGreat
