/- The walk of FateKnown. -/
import Derived.Test.YtlgkkolgdjgclaaGreatKz
import Derived.Test.YtlgkkolgdjgclaaGreatMd26
namespace Go.Proofs.YtlgkkolgdjgclaaGreat
open Go.RowKit Go.Shelf Go.Maps
set_option linter.unusedVariables false
set_option linter.unusedSimpArgs false

/-- m tries have come to an end, a of them done, b failed; the only core is d. -/
structure FK (m a b : Nat) (d : CoreS) (s : SysS) (z : SwS) : Prop where
  ez : EndZ 1 m z
  c5 : cntT z.all 5 = a
  c6 : cntT z.all 6 = b
  ok : SysOk 36 s
  l1 : s.cores.length = 1
  cd : s.cores[0]? = some d
section
variable {m a b : Nat} {d : CoreS} {s : SysS} {z : SwS} {tag : Int} {l : List Bl}
theorem cnt_more {z : SwS} {c : Nat} {x y : TryS} (st : Int) : cntT ((z.add c x).set z.all.length y).all st = cntT z.all st + if y.stage = st then 1 else 0 := by
  have e : ((z.add c x).set z.all.length y).all = z.all ++ [(c, y)] := by
    show (z.all ++ [(c, x)]).modify z.all.length _ = _
    refine List.ext_getElem? fun i => ?_
    rw [List.getElem?_modify]
    by_cases h : i < z.all.length
    · rw [List.getElem?_append_left h, List.getElem?_append_left h]
      cases z.all[i]? <;> simp [show ¬ z.all.length = i by omega]
    · rw [List.getElem?_append_right (by omega), List.getElem?_append_right (by omega)]
      by_cases h2 : i = z.all.length
      · subst h2; simp
      · rw [List.getElem?_eq_none (by simp; omega), List.getElem?_eq_none (by simp; omega)]; rfl
  rw [e]
  unfold cntT
  rw [List.filter_append, List.length_append]
  by_cases h : y.stage = st <;> simp [h]
theorem FK.fin (h : FK m a b d s z) : CorFine 36 d ∧ s.core 0 = d ∧ (0 ≤ (0 : Int) ∧ (0 : Int) < s.cores.length) := by
  have hin : 0 ≤ (0 : Int) ∧ (0 : Int) < s.cores.length := by rw [h.l1]; decide
  obtain ⟨d', hd', hde, hdf⟩ := h.ok.core hin
  rw [show s.cores[(0 : Int).toNat]? = some d from h.cd] at hd'
  cases hd'
  exact ⟨hdf, hde, hin⟩
theorem FK.fail (h : FK m a b d s z) (hm : m ≤ 100) (ht : TagOk tag) (hl : ∀ x ∈ l, Byte x.y) {er : Int} (hR : (TryS.rounds l (TryS.new tag (1000 * (m : Int)), d) 5).1.stage = 6 ∧ (TryS.rounds l (TryS.new tag (1000 * (m : Int)), d) 5).1.why = er) :
    (z.attT s 0 tag l).2.2 = (false, er) ∧ FK (m + 1) a (b + 1) d (z.attT s 0 tag l).2.1 (z.attT s 0 tag l).1 := by
  obtain ⟨hdf, hde, hin⟩ := h.fin
  have hb : 0 ≤ 1000 * (m : Int) ∧ 1000 * (m : Int) ≤ 1000000000 := by omega
  obtain ⟨r1, r2⟩ := rounds_done (l := l) (d := d) ht hb hdf.age.1 hl (good_core hdf (by decide))
  have hd2 : (TryS.rounds l (TryS.new tag (1000 * (m : Int)), d) 5).2 = d := by
    rcases r2 with ⟨-, e, -⟩ | ⟨e, -⟩
    · exact e
    · omega
  have hmo := h.ez.more (c := 0) (by decide) (x := TryS.new tag (1000 * (m : Int))) (tryOk_new ht hb) r1 (by omega)
  rw [attT_is hin (h.ez.shut 0) ht, hde, h.ez.len]
  have c5 := cnt_more (z := z) (c := 0) (x := TryS.new tag (1000 * (m : Int))) (y := (TryS.rounds l (TryS.new tag (1000 * (m : Int)), d) 5).1) 5
  have c6 := cnt_more (z := z) (c := 0) (x := TryS.new tag (1000 * (m : Int))) (y := (TryS.rounds l (TryS.new tag (1000 * (m : Int)), d) 5).1) 6
  rw [h.ez.len, hR.1] at c5 c6
  refine ⟨by rw [hR.1, hR.2]; rfl, hmo, ?_, ?_, ?_, ?_, ?_⟩
  · exact c5.trans (by rw [h.c5]; rfl)
  · exact c6.trans (by rw [h.c6]; rfl)
  · rw [hd2]
    show SysOk 36 (s.setC 0 d)
    rw [setC_self h.cd]; exact h.ok
  · simp [SysS.setC, h.l1]
  · rw [hd2]
    show (s.setC 0 d).cores[0]? = some d
    rw [setC_self h.cd]; exact h.cd
theorem FK.done (h : FK m a b d s z) (hm : m ≤ 100) (ht : TagOk tag) (hl : ∀ x ∈ l, Byte x.y) (hR : TryS.rounds l (TryS.new tag (1000 * (m : Int)), d) 5 = fx tag (1000 * (m : Int)) d 5) :
    (z.attT s 0 tag l).2.2 = (true, 0) ∧ FK (m + 1) (a + 1) b (fx tag (1000 * (m : Int)) d 5).2 (z.attT s 0 tag l).2.1 (z.attT s 0 tag l).1 := by
  obtain ⟨hdf, hde, hin⟩ := h.fin
  have hb : 0 ≤ 1000 * (m : Int) ∧ 1000 * (m : Int) ≤ 1000000000 := by omega
  obtain ⟨r1, r2⟩ := rounds_done (l := l) (d := d) ht hb hdf.age.1 hl (good_core hdf (by decide))
  have hsy := att_sys (l := l) h.ok (by decide) (by decide) hin ht hb hl
  have hmo := h.ez.more (c := 0) (by decide) (x := TryS.new tag (1000 * (m : Int))) (tryOk_new ht hb) r1 (by rw [hR, (fx_stage (Nat.le_refl 5)).1]; decide)
  rw [hde] at hsy
  rw [attT_is hin (h.ez.shut 0) ht, hde, h.ez.len]
  have c5 := cnt_more (z := z) (c := 0) (x := TryS.new tag (1000 * (m : Int))) (y := (fx tag (1000 * (m : Int)) d 5).1) 5
  have c6 := cnt_more (z := z) (c := 0) (x := TryS.new tag (1000 * (m : Int))) (y := (fx tag (1000 * (m : Int)) d 5).1) 6
  rw [h.ez.len, (fx_stage (Nat.le_refl 5)).1] at c5 c6
  rw [hR] at hmo hsy ⊢
  refine ⟨by rw [(fx_stage (Nat.le_refl 5)).1, (fx_stage (Nat.le_refl 5)).2]; rfl, hmo, ?_, ?_, hsy, ?_, ?_⟩
  · exact c5.trans (by rw [h.c5]; rfl)
  · exact c6.trans (by rw [h.c6]; rfl)
  · simp [SysS.setC, h.l1]
  · simp only [SysS.setC, List.getElem?_set]
    simp [h.l1]
end
section
variable {tag base : Int} {d : CoreS}
/-- A byte is cut away. -/
theorem fk_cut (hg : goodC d.tag (formR d.q) = true) (hr : (readE ((putB d.tag (formR d.q)).take ((putB d.tag (formR d.q)).length - 1))).2.2 = 9) :
    (TryS.rounds [⟨2, 2, 1, 0⟩] (TryS.new tag base, d) 5).1.stage = 6 ∧ (TryS.rounds [⟨2, 2, 1, 0⟩] (TryS.new tag base, d) 5).1.why = 9 := by
  have e2 : TryS.rounds [⟨2, 2, 1, 0⟩] (TryS.new tag base, d) 2 = fx tag base d 2 :=
    rounds_fx hg 2 (by decide) (fun j hj => strikes_off _ (fun b hb => by simp at hb; subst hb; rw [(fx_stage (show j ≤ 5 by omega)).1]; simp only; omega))
  have hsz := putB_size d.tag (formR d.q)
  have e3 : (TryS.rounds [⟨2, 2, 1, 0⟩] (TryS.new tag base, d) 3).1.stage = 6 ∧ (TryS.rounds [⟨2, 2, 1, 0⟩] (TryS.new tag base, d) 3).1.why = 9 := by
    show (TryS.round [⟨2, 2, 1, 0⟩] (TryS.rounds [⟨2, 2, 1, 0⟩] (TryS.new tag base, d) 2)).1.stage = 6 ∧ (TryS.round [⟨2, 2, 1, 0⟩] (TryS.rounds [⟨2, 2, 1, 0⟩] (TryS.new tag base, d) 2)).1.why = 9
    rw [e2]
    unfold TryS.round
    have es : (fx tag base d 2).1.strikes [⟨2, 2, 1, 0⟩] = { (fx tag base d 2).1 with b := (putB d.tag (formR d.q)).take ((putB d.tag (formR d.q)).length - 1) } := by
      show ((fx tag base d 2).1.strike ⟨2, 2, 1, 0⟩).1 = _
      unfold TryS.strike TryS.cut
      rw [if_pos (show (fx tag base d 2).1.stage = 2 from rfl), if_neg (by decide), if_pos rfl, if_pos ⟨rfl, by decide, by show (1 : Int) ≤ ((putB d.tag (formR d.q)).length : Nat); omega⟩]
      rfl
    rw [es]
    have ed : (fx tag base d 2).2 = d := rfl
    rw [ed]
    refine step_err (by show (2 : Int) < 5; decide) ?_ (by decide)
    show TryS.next { (fx tag base d 2).1 with b := (putB d.tag (formR d.q)).take ((putB d.tag (formR d.q)).length - 1) } d ((2 : Int) + 1) = _
    unfold TryS.next
    rw [if_neg (by rintro ⟨-, hn⟩; exact hn rfl), if_neg (by show ¬ (false = true); decide), if_neg (by decide), if_neg (by decide), if_pos (by decide), if_neg (by simp only; rw [hr]; decide), hr]
  have e5 := rounds_end (l := [⟨2, 2, 1, 0⟩]) (p := (TryS.new tag base, d)) (k := 3) (by omega) 2
  rw [e5]
  exact e3
/-- A stage is forced to fail. -/
theorem fk_force (hg : goodC d.tag (formR d.q) = true) : (TryS.rounds [⟨3, 3, 0, 0⟩] (TryS.new tag base, d) 5).1.stage = 6 ∧ (TryS.rounds [⟨3, 3, 0, 0⟩] (TryS.new tag base, d) 5).1.why = 13 := by
  have e2 : TryS.rounds [⟨3, 3, 0, 0⟩] (TryS.new tag base, d) 3 = fx tag base d 3 :=
    rounds_fx hg 3 (by decide) (fun j hj => strikes_off _ (fun b hb => by simp at hb; subst hb; rw [(fx_stage (show j ≤ 5 by omega)).1]; simp only; omega))
  have e3 : (TryS.rounds [⟨3, 3, 0, 0⟩] (TryS.new tag base, d) 4).1.stage = 6 ∧ (TryS.rounds [⟨3, 3, 0, 0⟩] (TryS.new tag base, d) 4).1.why = 13 := by
    show (TryS.round [⟨3, 3, 0, 0⟩] (TryS.rounds [⟨3, 3, 0, 0⟩] (TryS.new tag base, d) 3)).1.stage = 6 ∧ (TryS.round [⟨3, 3, 0, 0⟩] (TryS.rounds [⟨3, 3, 0, 0⟩] (TryS.new tag base, d) 3)).1.why = 13
    rw [e2]
    unfold TryS.round
    have es : (fx tag base d 3).1.strikes [⟨3, 3, 0, 0⟩] = { (fx tag base d 3).1 with fo := TryS.updF (fx tag base d 3).1.fo 4 } := by
      show ((fx tag base d 3).1.strike ⟨3, 3, 0, 0⟩).1 = _
      unfold TryS.strike TryS.force
      rw [if_pos (show (fx tag base d 3).1.stage = 3 from rfl), if_neg (by decide), if_neg (by decide), if_pos rfl, if_pos (by show (3 : Int) < 5 ∧ 1 ≤ (3 : Int) + 1 ∧ (3 : Int) + 1 ≤ 5 ∧ (3 : Int) < 3 + 1; decide)]
      rfl
    rw [es]
    have ed : (fx tag base d 3).2 = d := rfl
    rw [ed]
    refine step_err (by show (3 : Int) < 5; decide) ?_ (by decide)
    show TryS.next { (fx tag base d 3).1 with fo := TryS.updF (fx tag base d 3).1.fo 4 } d ((3 : Int) + 1) = _
    unfold TryS.next
    rw [if_neg (by rintro ⟨-, hn⟩; exact hn rfl), if_pos (by show TryS.updF (fx tag base d 3).1.fo 4 4 = true; unfold TryS.updF; rfl)]
  have e5 := rounds_end (l := [⟨3, 3, 0, 0⟩]) (p := (TryS.new tag base, d)) (k := 4) (by omega) 1
  rw [e5]
  exact e3
theorem fk_abort : (TryS.rounds [⟨4, 0, 0, 0⟩] (TryS.new tag base, d) 5).1.stage = 6 ∧ (TryS.rounds [⟨4, 0, 0, 0⟩] (TryS.new tag base, d) 5).1.why = 13 := by
  have e3 : (TryS.rounds [⟨4, 0, 0, 0⟩] (TryS.new tag base, d) 1).1.stage = 6 ∧ (TryS.rounds [⟨4, 0, 0, 0⟩] (TryS.new tag base, d) 1).1.why = 13 := by
    show (((TryS.new tag base).strike ⟨4, 0, 0, 0⟩).1.step d).1.stage = 6 ∧ (((TryS.new tag base).strike ⟨4, 0, 0, 0⟩).1.step d).1.why = 13
    have es : ((TryS.new tag base).strike ⟨4, 0, 0, 0⟩).1 = { TryS.new tag base with stage := 6, why := 13 } := rfl
    rw [es]
    exact ⟨rfl, rfl⟩
  have e5 := rounds_end (l := [⟨4, 0, 0, 0⟩]) (p := (TryS.new tag base, d)) (k := 1) (by omega) 4
  rw [e5]
  exact e3
/-- What befalls too late, and what is no blow. -/
theorem fk_late (hg : goodC d.tag (formR d.q) = true) : TryS.rounds [⟨1, 3, 0, 1⟩, ⟨9, 1, 0, 0⟩] (TryS.new tag base, d) 5 = fx tag base d 5 :=
  rounds_fx hg 5 (Nat.le_refl _) (fun j hj => by
    have h1 : ((fx tag base d j).1.strike ⟨1, 3, 0, 1⟩).1 = (fx tag base d j).1 := by
      unfold TryS.strike TryS.spoil
      have := (fx_stage (tag := tag) (base := base) (d := d) (show j ≤ 5 by omega)).1
      split
      · rename_i e
        simp only at e
        rw [if_pos rfl, if_neg (by omega)]
      · rfl
    have h2 : ((fx tag base d j).1.strike ⟨9, 1, 0, 0⟩).1 = (fx tag base d j).1 := by
      unfold TryS.strike
      split
      · rw [if_neg (by decide), if_neg (by decide), if_neg (by decide), if_neg (by decide)]
      · rfl
    show (((fx tag base d j).1.strike ⟨1, 3, 0, 1⟩).1.strike ⟨9, 1, 0, 0⟩).1 = _
    rw [h1, h2])
end
def fs0 : SysS := madeF 1 [1, 2] (SysS.new [0])
theorem fs0_core : (fs0.core 0).tag = 0 ∧ formR (fs0.core 0).q = ⟨-1, [⟨0, 1, 0⟩, ⟨1, 2, 0⟩]⟩ := ⟨by kernel_rfl, by kernel_rfl⟩
theorem fk_read : (readE ((putB 0 ⟨-1, [⟨0, 1, 0⟩, ⟨1, 2, 0⟩]⟩).take ((putB 0 ⟨-1, [⟨0, 1, 0⟩, ⟨1, 2, 0⟩]⟩).length - 1))).2.2 = 9 := by kernel_rfl
theorem fk_call {m a b : Nat} {d : CoreS} {s : SysS} {z : SwS} {tag : Int} {l : List Bl} {ok : Bool} {er : Int} (F : FK m a b d s z) (hm : m ≤ 100) (hv : (z.attT s 0 tag l).2.2 = (ok, er)) (hl : ∀ x ∈ l, Byte x.y) (W w0 : World) (B C t : Nat) (K : KZ w0 W B C 5 t s z) (W1 : World) (hW : Below W.heap.size W W1) (n : Nat) (ad : Option Addr) (k : Nat) (hn : l.length = n) (hn6 : n ≤ 1000000) (hs : Sl Bl.enc 4 W1 ad l) (hap : ∀ p, ad = some p → W.heap.size ≤ p.block) (hlen : (z.attT s 0 tag l).1.all.length ≤ 5) :
    Calls Tryz.prog 20 #[.pointer (some ⟨C, 0, none⟩), .int .i64 0, .int .i64 tag, .slice ad n k] W1 fun e w' => e = .returned (.tuple #[.bool ok, .int .i64 er]) ∧ KZ w0 w' B C 5 t (z.attT s 0 tag l).2.1 (z.attT s 0 tag l).1 :=
  KZ.callB (fun ow L oz M hL hb hc ht => by
    have h := SwAttempt (hL.below hW) (F.ez.kx F.l1) F.ok (by decide) (by rw [F.ez.len]; omega) (c := 0) (by unfold I63; decide) tag l n ad k hn hn6 hs (fun _ p hp => hL.free (hap p hp)) hl
    rw [hv, hc] at h
    exact h) hlen K
theorem bsB2 (w : World) (op st ix y op2 st2 ix2 y2 : Int) : (Instr.buildSlice 45 2 #[(0, .agg #[.int .i64 op, .int .i64 st, .int .i64 ix, .int .u8 y]), (1, .agg #[.int .i64 op2, .int .i64 st2, .int .i64 ix2, .int .u8 y2])]).run Tryz.prog w = .ok (.slice (some ⟨w.heap.size, 0, none⟩) 2 2) (w.alloc (.cells #[.int .i64 op, .int .i64 st, .int .i64 ix, .int .u8 y, .int .i64 op2, .int .i64 st2, .int .i64 ix2, .int .u8 y2] 44)) := by kernel_rfl
set_option maxHeartbeats 12800000 in
set_option maxRecDepth 100000 in
theorem fateKnown_walk (w : World) : Calls Tryz.prog 5 #[] w fun e w' => e = .returned (.bool true) ∧ Below w.heap.size w w' := by
  have HA := Lib.hid (fun (W : World) => awake26 W)
  have SNil := Lib.hid (fun (W : World) => StrikeNil W 4 0 0 0)
  have hbs2 := bs2m
  have hbB := bsB1
  have hbB2 := bsB2
  have HM := Lib.hid (fun (W : World) (a2 : Option Addr) (h2 : Sl int1 1 W a2 [1, 2]) => (made26 0 [1, 2] 2 a2 2 W rfl (by decide) h2).mono (fun e w' h => h.resolve_right (fun h => h.1 good0)))
  obtain ⟨ok0, fr0⟩ : SysOk 36 fs0 ∧ Free 1 1 fs0 := made_ok [0] [1, 2] good0 (by decide) (by decide)
  have hl0 : fs0.cores.length = 1 := fr0.len
  obtain ⟨d0, hd0⟩ : ∃ d, fs0.cores[0]? = some d := ⟨_, List.getElem?_eq_getElem (by rw [hl0]; decide)⟩
  have F0 : FK 0 0 0 d0 fs0 SwS.new := ⟨EndZ.new 1, rfl, rfl, ok0, hl0, hd0⟩
  have hc0 := fs0_core
  rw [F0.fin.2.1] at hc0
  have hg0 := good_core F0.fin.1 (by decide)
  have hby1 : ∀ (op st ix y : Int), Byte y → ∀ x ∈ ([⟨op, st, ix, y⟩] : List Bl), Byte x.y := fun op st ix y hy x hx => by simp at hx; subst hx; exact hy
  have hrd : (readE ((putB d0.tag (formR d0.q)).take ((putB d0.tag (formR d0.q)).length - 1))).2.2 = 9 := by rw [hc0.1, hc0.2]; exact fk_read
  clear hc0 ok0 fr0 hl0 hd0
  obtain ⟨v1, F1⟩ := F0.fail (tag := 1) (l := [⟨2, 2, 1, 0⟩]) (by decide) (.inr (.inl rfl)) (hby1 _ _ _ _ (by unfold Byte; decide)) (fk_cut hg0 hrd)
  have A1 := Lib.hid (fun (W w0 : World) (B C t : Nat) (K : KZ w0 W B C 5 t fs0 SwS.new) => fk_call F0 (by decide) v1 (hby1 _ _ _ _ (by unfold Byte; decide)) W w0 B C t K (W.alloc (.cells #[.int .i64 2, .int .i64 2, .int .i64 1, .int .u8 0] 44)) ((Below.refl _ _).alloc (Nat.le_refl _) _) 1 (some ⟨W.heap.size, 0, none⟩) 1 rfl (by decide) (slB1 W 2 2 1 0 _) (fun p hp => by cases hp; exact Nat.le_refl _) (by rw [F1.ez.len]; decide))
  generalize (SwS.new.attT fs0 0 1 [⟨2, 2, 1, 0⟩]).2.1 = s1 at *
  generalize (SwS.new.attT fs0 0 1 [⟨2, 2, 1, 0⟩]).1 = z1 at *
  obtain ⟨v2, F2⟩ := F1.fail (tag := 1) (l := [⟨3, 3, 0, 0⟩]) (by decide) (.inr (.inl rfl)) (hby1 _ _ _ _ (by unfold Byte; decide)) (fk_force hg0)
  have A2 := Lib.hid (fun (W w0 : World) (B C t : Nat) (K : KZ w0 W B C 5 t s1 z1) => fk_call F1 (by decide) v2 (hby1 _ _ _ _ (by unfold Byte; decide)) W w0 B C t K (W.alloc (.cells #[.int .i64 3, .int .i64 3, .int .i64 0, .int .u8 0] 44)) ((Below.refl _ _).alloc (Nat.le_refl _) _) 1 (some ⟨W.heap.size, 0, none⟩) 1 rfl (by decide) (slB1 W 3 3 0 0 _) (fun p hp => by cases hp; exact Nat.le_refl _) (by rw [F2.ez.len]; decide))
  generalize (z1.attT s1 0 1 [⟨3, 3, 0, 0⟩]).2.1 = s2 at *
  generalize (z1.attT s1 0 1 [⟨3, 3, 0, 0⟩]).1 = z2 at *
  obtain ⟨v3, F3⟩ := F2.fail (tag := 1) (l := [⟨4, 0, 0, 0⟩]) (by decide) (.inr (.inl rfl)) (hby1 _ _ _ _ (by unfold Byte; decide)) fk_abort
  have A3 := Lib.hid (fun (W w0 : World) (B C t : Nat) (K : KZ w0 W B C 5 t s2 z2) => fk_call F2 (by decide) v3 (hby1 _ _ _ _ (by unfold Byte; decide)) W w0 B C t K (W.alloc (.cells #[.int .i64 4, .int .i64 0, .int .i64 0, .int .u8 0] 44)) ((Below.refl _ _).alloc (Nat.le_refl _) _) 1 (some ⟨W.heap.size, 0, none⟩) 1 rfl (by decide) (slB1 W 4 0 0 0 _) (fun p hp => by cases hp; exact Nat.le_refl _) (by rw [F3.ez.len]; decide))
  generalize (z2.attT s2 0 1 [⟨4, 0, 0, 0⟩]).2.1 = s3 at *
  generalize (z2.attT s2 0 1 [⟨4, 0, 0, 0⟩]).1 = z3 at *
  have hb4 : ∀ x ∈ ([⟨1, 3, 0, 1⟩, ⟨9, 1, 0, 0⟩] : List Bl), Byte x.y := fun x hx => by simp at hx; rcases hx with rfl | rfl <;> (unfold Byte; decide)
  obtain ⟨v4, F4⟩ := F3.done (tag := 1) (l := [⟨1, 3, 0, 1⟩, ⟨9, 1, 0, 0⟩]) (by decide) (.inr (.inl rfl)) hb4 (fk_late hg0)
  have A4 := Lib.hid (fun (W w0 : World) (B C t : Nat) (K : KZ w0 W B C 5 t s3 z3) => fk_call F3 (by decide) v4 hb4 W w0 B C t K (W.alloc (.cells #[.int .i64 1, .int .i64 3, .int .i64 0, .int .u8 1, .int .i64 9, .int .i64 1, .int .i64 0, .int .u8 0] 44)) ((Below.refl _ _).alloc (Nat.le_refl _) _) 2 (some ⟨W.heap.size, 0, none⟩) 2 rfl (by decide) (slB2k W ⟨1, 3, 0, 1⟩ ⟨9, 1, 0, 0⟩ _) (fun p hp => by cases hp; exact Nat.le_refl _) (by rw [F4.ez.len]; decide))
  generalize (z3.attT s3 0 1 [⟨1, 3, 0, 1⟩, ⟨9, 1, 0, 0⟩]).2.1 = s4 at *
  generalize (z3.attT s3 0 1 [⟨1, 3, 0, 1⟩, ⟨9, 1, 0, 0⟩]).1 = z4 at *
  generalize (fx 1 (1000 * ((3 : Nat) : Int)) d0 5).2 = d4 at *
  have hg4 := good_core F4.fin.1 (by decide)
  have hb5 : ∀ x ∈ ([⟨1, 2, 5, 7⟩, ⟨1, 2, 5, 7⟩] : List Bl), Byte x.y := fun x hx => by simp at hx; subst hx; unfold Byte; decide
  have hfx := fate_sum_ok (tag := 2) (base := 1000 * ((4 : Nat) : Int)) hg4 (i := 5) (y := 7) (by unfold Byte; decide) true (.inr (.inr (.inr rfl)))
  simp only [if_true] at hfx
  obtain ⟨v5, F5⟩ := F4.done (tag := 2) (l := [⟨1, 2, 5, 7⟩, ⟨1, 2, 5, 7⟩]) (by decide) (.inr (.inr rfl)) hb5 hfx
  have A5 := Lib.hid (fun (W w0 : World) (B C t : Nat) (K : KZ w0 W B C 5 t s4 z4) => fk_call F4 (by decide) v5 hb5 W w0 B C t K (W.alloc (.cells #[.int .i64 1, .int .i64 2, .int .i64 5, .int .u8 7, .int .i64 1, .int .i64 2, .int .i64 5, .int .u8 7] 44)) ((Below.refl _ _).alloc (Nat.le_refl _) _) 2 (some ⟨W.heap.size, 0, none⟩) 2 rfl (by decide) (slB2k W ⟨1, 2, 5, 7⟩ ⟨1, 2, 5, 7⟩ _) (fun p hp => by cases hp; exact Nat.le_refl _) (by rw [F5.ez.len]; decide))
  generalize (z4.attT s4 0 2 [⟨1, 2, 5, 7⟩, ⟨1, 2, 5, 7⟩]).2.1 = s5 at *
  generalize (z4.attT s4 0 2 [⟨1, 2, 5, 7⟩, ⟨1, 2, 5, 7⟩]).1 = z5 at *
  generalize (fx 2 (1000 * ((4 : Nat) : Int)) d4 5).2 = d5 at *
  obtain ⟨hdf5, hde5, hin5⟩ := F5.fin
  have hlz5 := F5.ez.len
  have v6 : z5.attT s5 5 1 [] = (z5, s5, false, 2) := by
    have eo : z5.openT s5 5 1 = (z5, 2) := by unfold SwS.openT; rw [if_neg (by rw [F5.l1]; decide)]
    unfold SwS.attT; rw [eo]; exact if_neg (by simp)
  have v7 : z5.attT s5 0 9 [] = (z5, s5, false, 1) := by
    have eo : z5.openT s5 0 9 = (z5, 1) := by unfold SwS.openT; rw [if_pos hin5, if_neg (by rw [F5.ez.shut 0]; simp), if_neg (by unfold TagOk; decide)]
    unfold SwS.attT; rw [eo]; exact if_neg (by simp)
  have v8 : z5.openT s5 0 1 = (z5.add 0 (TryS.new 1 5000), 0) := by
    unfold SwS.openT; rw [if_pos hin5, if_neg (by rw [F5.ez.shut 0]; simp), if_pos (.inr (.inl rfl)), hlz5]; rfl
  have hkx5 := F5.ez.kx F5.l1
  have hkx6 := open_keep hkx5 F5.ok (by rw [hlz5]; decide) 0 1
  rw [v8] at hkx6
  have hx6 : (z5.add 0 (TryS.new 1 5000)).all[5]? = some (0, TryS.new 1 5000) := by
    show (z5.all ++ [(0, TryS.new 1 5000)])[5]? = _
    rw [List.getElem?_append_right (by omega), hlz5]; rfl
  have hl6 : (z5.add 0 (TryS.new 1 5000)).lst 0 = 5 := by show updP z5.lst ((0 : Nat) : Int) z5.all.length 0 = 5; unfold updP; rw [if_pos (show (0 : Int) = ((0 : Nat) : Int) from rfl), hlz5]; rfl
  have hlz6 : (z5.add 0 (TryS.new 1 5000)).all.length = 6 := by simp [SwS.add, hlz5]
  have hop6 : (z5.add 0 (TryS.new 1 5000)).opn 0 = true := by
    unfold SwS.opn
    rw [hl6, if_neg (by decide), show (5 : Int).toNat = 5 from rfl, hx6]
    rfl
  generalize z5.add 0 (TryS.new 1 5000) = z6 at *
  have v9 : z6.attT s5 0 1 [] = (z6, s5, false, 15) := by
    have eo : z6.openT s5 0 1 = (z6, 15) := by unfold SwS.openT; rw [if_pos hin5, if_pos hop6]
    unfold SwS.attT; rw [eo]; exact if_neg (by simp)
  have hok6 : TryOk (TryS.new 1 5000) := tryOk_new (.inr (.inl rfl)) (by decide)
  have A6 := Lib.hid (fun (W w0 : World) (B C t : Nat) (K : KZ w0 W B C 5 t s5 z5) => KZ.call (F := 20) (args := #[.pointer (some ⟨C, 0, none⟩), .int .i64 5, .int .i64 1, .slice none 0 0]) (v := .tuple #[.bool false, .int .i64 2]) (s := s5) (z := z5) (s' := s5) (z' := z5) (fun ow L oz M hL hb hc ht => by
    have h := SwAttempt hL hkx5 F5.ok (by decide) (by rw [hlz5]; decide) (c := 5) (by unfold I63; decide) 1 [] 0 none 0 rfl (by decide) (fun h => absurd rfl h) (fun h => absurd rfl h) (fun b hb => by cases hb)
    rw [v6, hc] at h
    exact h) (.inl rfl) K)
  have A7 := Lib.hid (fun (W w0 : World) (B C t : Nat) (K : KZ w0 W B C 5 t s5 z5) => KZ.call (F := 20) (args := #[.pointer (some ⟨C, 0, none⟩), .int .i64 0, .int .i64 9, .slice none 0 0]) (v := .tuple #[.bool false, .int .i64 1]) (s := s5) (z := z5) (s' := s5) (z' := z5) (fun ow L oz M hL hb hc ht => by
    have h := SwAttempt hL hkx5 F5.ok (by decide) (by rw [hlz5]; decide) (c := 0) (by unfold I63; decide) 9 [] 0 none 0 rfl (by decide) (fun h => absurd rfl h) (fun h => absurd rfl h) (fun b hb => by cases hb)
    rw [v7, hc] at h
    exact h) (.inl rfl) K)
  have C1 := Lib.hid (fun (W w0 : World) (B C t : Nat) (K : KZ w0 W B C 5 t s5 z5) => KZ.same (F := 16) (args := #[.pointer (some ⟨C, 0, none⟩)]) (v := .tuple #[.int .i64 2, .int .i64 3]) (fun ow L oz M hL hb hc ht => by
    have h := SwCounts hL (by rw [hlz5]; decide)
    rw [F5.c5, F5.c6, hc] at h
    exact h) K)
  have O1 := Lib.hid (fun (W w0 : World) (B C t : Nat) (K : KZ w0 W B C 5 t s5 z5) => KZ.opened (F := 21) (args := #[.pointer (some ⟨C, 0, none⟩), .int .i64 0, .int .i64 1]) (v := .int .i64 0) (s := s5) (z := z5) (s' := s5) (z' := z6) (fun ow L oz M hL hb hc => by
    have h := SwOpenC hL hkx5.ok (by rw [hlz5]; decide) (c := 0) (by unfold I63; decide) 1
    rw [v8, hc] at h
    exact h) K)
  have A8 := Lib.hid (fun (W w0 : World) (B C t : Nat) (K : KZ w0 W B C 5 t s5 z6) => KZ.call (F := 20) (args := #[.pointer (some ⟨C, 0, none⟩), .int .i64 0, .int .i64 1, .slice none 0 0]) (v := .tuple #[.bool false, .int .i64 15]) (s := s5) (z := z6) (s' := s5) (z' := z6) (fun ow L oz M hL hb hc ht => by
    have h := SwAttempt hL hkx6 F5.ok (by decide) (by rw [hlz6]; decide) (c := 0) (by unfold I63; decide) 1 [] 0 none 0 rfl (by decide) (fun h => absurd rfl h) (fun h => absurd rfl h) (fun b hb => by cases hb)
    rw [v9, hc] at h
    exact h) (.inl rfl) K)
  have T1 := Lib.hid (fun (W w0 : World) (B C t : Nat) (K : KZ w0 W B C 5 t s5 z6) => KZ.same (F := 22) (args := #[.pointer (some ⟨C, 0, none⟩), .int .i64 0]) (v := .tuple #[.pointer (some ⟨t, 0, none⟩), .int .i64 0]) (fun ow L oz M hL hb hc ht => by
    have h := SwTry hL (c := 0) (by unfold I63; decide)
    rw [if_pos hin5, hl6, if_neg (by decide), show (5 : Int).toNat = 5 from rfl, ht (by rw [hlz6]; decide), hc] at h
    exact h) K)
  have e1 : (TryS.new 1 5000).strike ⟨3, 1, 0, 0⟩ = (TryS.new 1 5000, false) := by
    unfold TryS.strike
    rw [if_neg (by show ¬ (0 : Int) = 1; decide)]
  have e2 : (TryS.new 1 5000).strike ⟨0, 0, 0, 0⟩ = (TryS.new 1 5000, false) := by
    unfold TryS.strike
    rw [if_pos (show (TryS.new 1 5000).stage = 0 from rfl), if_neg (by decide), if_neg (by decide), if_neg (by decide), if_neg (by decide)]
  have e3 : ((TryS.new 1 5000).strike ⟨4, 0, 0, 0⟩).2 = true := rfl
  have B1 := Lib.hid (fun (W w0 : World) (B C t : Nat) (K : KZ w0 W B C 5 t s5 z6) => (show Calls Tryz.prog 23 #[.pointer (some ⟨t, 0, none⟩), .agg #[.int .i64 3, .int .i64 1, .int .i64 0, .int .u8 0]] W fun e w' => e = .returned (.bool false) ∧ KZ w0 w' B C 5 t s5 z6 from by
    have h := K.strike hx6 F5.cd hok6 ⟨3, 1, 0, 0⟩
    rw [e1] at h
    simp only [set_self hx6] at h
    exact h))
  have B2 := Lib.hid (fun (W w0 : World) (B C t : Nat) (K : KZ w0 W B C 5 t s5 z6) => (show Calls Tryz.prog 23 #[.pointer (some ⟨t, 0, none⟩), .agg #[.int .i64 0, .int .i64 0, .int .i64 0, .int .u8 0]] W fun e w' => e = .returned (.bool false) ∧ KZ w0 w' B C 5 t s5 z6 from by
    have h := K.strike hx6 F5.cd hok6 ⟨0, 0, 0, 0⟩
    rw [e2] at h
    simp only [set_self hx6] at h
    exact h))
  have B3 := Lib.hid (fun (W w0 : World) (B C t : Nat) (K : KZ w0 W B C 5 t s5 z6) => (show Calls Tryz.prog 23 #[.pointer (some ⟨t, 0, none⟩), .agg #[.int .i64 4, .int .i64 0, .int .i64 0, .int .u8 0]] W fun e w' => e = .returned (.bool true) ∧ KZ w0 w' B C 5 t s5 (z6.set 5 ((TryS.new 1 5000).strike ⟨4, 0, 0, 0⟩).1) from by
    have h := K.strike hx6 F5.cd hok6 ⟨4, 0, 0, 0⟩
    rw [e3] at h
    exact h))
  clear e1 e2 e3
  clear F0 F1 F2 F3 F4 F5 v1 v2 v3 v4 v5 v6 v7 v8 v9 hg0 hg4 hby1 hrd hb4 hb5 hfx hkx5 hkx6 hop6 hok6 hdf5 hde5 hin5 hlz5 hlz6 hl6
  have HX6 := Lib.hid hx6
  clear hx6
  go_enter Tryz.func5, Tryz.ntmps5
  go_wp2_with (first
    | (go_at_call 17; refine (HA.out _).mono ?_; rintro e w1 ⟨rfl, hb1⟩; have Hb1 := Lib.hid hb1; clear hb1)
    | (go_at_call 18; refine (HM.out _ _ (sl2k w1 1 2 _)).mono ?_
       rintro e w2 ⟨-, ow, L, oz, M, s, rfl, h2, -, -, -, hmf⟩
       obtain rfl : s = fs0 := hmf.trans (by unfold fs0; rfl)
       have k : KZ _ w2 L.b M.b 5 0 fs0 SwS.new := ⟨ow, L, oz, M, rfl, rfl, fun h => absurd h (by decide), h2⟩
       have K0 := Lib.hid k
       clear h2 k)
    | (go_at_call 20; refine (A1.out _ _ _ _ _ K0.out).mono ?_; rintro e w2 ⟨rfl, k⟩; have K1 := Lib.hid k; clear k K0)
    | (go_at_call 20; refine (A2.out _ _ _ _ _ K1.out).mono ?_; rintro e w2 ⟨rfl, k⟩; have K2 := Lib.hid k; clear k K1)
    | (go_at_call 20; refine (A3.out _ _ _ _ _ K2.out).mono ?_; rintro e w2 ⟨rfl, k⟩; have K3 := Lib.hid k; clear k K2)
    | (go_at_call 20; refine (A4.out _ _ _ _ _ K3.out).mono ?_; rintro e w2 ⟨rfl, k⟩; have K4 := Lib.hid k; clear k K3)
    | (go_at_call 20; refine (A5.out _ _ _ _ _ K4.out).mono ?_; rintro e w2 ⟨rfl, k⟩; have K5 := Lib.hid k; clear k K4)
    | (go_at_call 20; refine (A6.out _ _ _ _ _ K5.out).mono ?_; rintro e w2 ⟨rfl, k⟩; have K6 := Lib.hid k; clear k K5)
    | (go_at_call 20; refine (A7.out _ _ _ _ _ K6.out).mono ?_; rintro e w2 ⟨rfl, k⟩; have K7 := Lib.hid k; clear k K6)
    | (go_at_call 16; refine (C1.out _ _ _ _ _ K7.out).mono ?_; rintro e w2 ⟨rfl, k, -⟩; have K8 := Lib.hid k; clear k K7)
    | (go_at_call 21; refine (O1.out _ _ _ _ _ K8.out).mono ?_; rintro e w2 ⟨rfl, t, k⟩; have K9 := Lib.hid k; clear k K8)
    | (go_at_call 20; refine (A8.out _ _ _ _ _ K9.out).mono ?_; rintro e w2 ⟨rfl, k⟩; have K10 := Lib.hid k; clear k K9)
    | (go_at_call 22; refine (T1.out _ _ _ _ _ K10.out).mono ?_; rintro e w2 ⟨rfl, k, -⟩; have K11 := Lib.hid k; clear k K10)
    | (go_at_call 23; refine (B1.out _ _ _ _ _ K11.out).mono ?_; rintro e w2 ⟨rfl, k⟩; have K12 := Lib.hid k; clear k K11)
    | (go_at_call 23; refine (B2.out _ _ _ _ _ K12.out).mono ?_; rintro e w2 ⟨rfl, k⟩; have K13 := Lib.hid k; clear k K12)
    | (go_at_call 23; refine (B3.out _ _ _ _ _ K14.out).mono ?_; rintro e w2 ⟨rfl, k⟩; have K15 := Lib.hid k; clear k K14)
    | (go_at_call 23; with_reducible refine (SNil.out _).mono ?_; rintro e w2 ⟨rfl, hb⟩; have k := K13.out.below hb; have K14 := Lib.hid k; clear k hb K13))
  have hbW := ((Below.refl w2.heap.size w2).alloc (Nat.le_refl _) (.cells #[.int .i64 0, .int .i64 12, .int .i64 13, .int .i64 9, .int .i64 8, .int .i64 10, .int .i64 11, .int .i64 1, .int .i64 2, .int .i64 99] 28)).alloc (by simp) (.cells #[.string ⟨#[100, 111, 110, 101]⟩, .string ⟨#[115, 116, 97, 108, 101]⟩, .string ⟨#[102, 111, 114, 99, 101, 100]⟩, .string ⟨#[115, 117, 109]⟩, .string ⟨#[102, 111, 114, 109]⟩, .string ⟨#[97, 103, 101]⟩, .string ⟨#[99, 104, 101, 99, 107]⟩, .string ⟨#[97, 114, 103]⟩, .string ⟨#[111, 116, 104, 101, 114]⟩, .string ⟨#[111, 116, 104, 101, 114]⟩] 9)
  have HBW := Lib.hid hbW
  have HA0 := Lib.hid (heap_alloc (heap_new w2 (.cells #[.int .i64 0, .int .i64 12, .int .i64 13, .int .i64 9, .int .i64 8, .int .i64 10, .int .i64 11, .int .i64 1, .int .i64 2, .int .i64 99] 28)) (.cells #[.string ⟨#[100, 111, 110, 101]⟩, .string ⟨#[115, 116, 97, 108, 101]⟩, .string ⟨#[102, 111, 114, 99, 101, 100]⟩, .string ⟨#[115, 117, 109]⟩, .string ⟨#[102, 111, 114, 109]⟩, .string ⟨#[97, 103, 101]⟩, .string ⟨#[99, 104, 101, 99, 107]⟩, .string ⟨#[97, 114, 103]⟩, .string ⟨#[111, 116, 104, 101, 114]⟩, .string ⟨#[111, 116, 104, 101, 114]⟩] 9))
  have hB0 := heap_new (w2.alloc (.cells #[.int .i64 0, .int .i64 12, .int .i64 13, .int .i64 9, .int .i64 8, .int .i64 10, .int .i64 11, .int .i64 1, .int .i64 2, .int .i64 99] 28)) (.cells #[.string ⟨#[100, 111, 110, 101]⟩, .string ⟨#[115, 116, 97, 108, 101]⟩, .string ⟨#[102, 111, 114, 99, 101, 100]⟩, .string ⟨#[115, 117, 109]⟩, .string ⟨#[102, 111, 114, 109]⟩, .string ⟨#[97, 103, 101]⟩, .string ⟨#[99, 104, 101, 99, 107]⟩, .string ⟨#[97, 114, 103]⟩, .string ⟨#[111, 116, 104, 101, 114]⟩, .string ⟨#[111, 116, 104, 101, 114]⟩] 9)
  rw [show (w2.alloc (.cells #[.int .i64 0, .int .i64 12, .int .i64 13, .int .i64 9, .int .i64 8, .int .i64 10, .int .i64 11, .int .i64 1, .int .i64 2, .int .i64 99] 28)).heap.size = w2.heap.size + 1 by simp] at hB0
  have HB0 := Lib.hid hB0
  clear hbW hB0
  generalize (w2.alloc (.cells #[.int .i64 0, .int .i64 12, .int .i64 13, .int .i64 9, .int .i64 8, .int .i64 10, .int .i64 11, .int .i64 1, .int .i64 2, .int .i64 99] 28)).alloc (.cells #[.string ⟨#[100, 111, 110, 101]⟩, .string ⟨#[115, 116, 97, 108, 101]⟩, .string ⟨#[102, 111, 114, 99, 101, 100]⟩, .string ⟨#[115, 117, 109]⟩, .string ⟨#[102, 111, 114, 109]⟩, .string ⟨#[97, 103, 101]⟩, .string ⟨#[99, 104, 101, 99, 107]⟩, .string ⟨#[97, 114, 103]⟩, .string ⟨#[111, 116, 104, 101, 114]⟩, .string ⟨#[111, 116, 104, 101, 114]⟩] 9) = W0 at *
  go_loopw [27] (fun ix wr => ∃ k : Nat, k ≤ 10 ∧ ix = .int .i64 k ∧ Below W0.heap.size W0 wr) (fun ix _ => 10 - (intOf ix).toNat)
  case atStart => exact ⟨0, by decide, rfl, Below.refl _ _⟩
  case round =>
    obtain ⟨k, hk, rfl, hbk⟩ := hrel
    have hA1 := heap_below HA0.out hbk
    have hB1 := heap_below HB0.out hbk
    by_cases hlt : k < 10
    · have hkk : ∃ nk : Int, wr.cell? ⟨w2.heap.size, k, none⟩ = some (.int .i64 nk) ∧ wr.cell? ⟨w2.heap.size + 1, k, none⟩ = some (.string (namedS nk)) := by
        obtain rfl | rfl | rfl | rfl | rfl | rfl | rfl | rfl | rfl | rfl : k = 0 ∨ k = 1 ∨ k = 2 ∨ k = 3 ∨ k = 4 ∨ k = 5 ∨ k = 6 ∨ k = 7 ∨ k = 8 ∨ k = 9 := by omega
        · exact ⟨0, by unfold World.cell?; rw [hA1]; rfl, by unfold World.cell?; rw [hB1]; rfl⟩
        · exact ⟨12, by unfold World.cell?; rw [hA1]; rfl, by unfold World.cell?; rw [hB1]; rfl⟩
        · exact ⟨13, by unfold World.cell?; rw [hA1]; rfl, by unfold World.cell?; rw [hB1]; rfl⟩
        · exact ⟨9, by unfold World.cell?; rw [hA1]; rfl, by unfold World.cell?; rw [hB1]; rfl⟩
        · exact ⟨8, by unfold World.cell?; rw [hA1]; rfl, by unfold World.cell?; rw [hB1]; rfl⟩
        · exact ⟨10, by unfold World.cell?; rw [hA1]; rfl, by unfold World.cell?; rw [hB1]; rfl⟩
        · exact ⟨11, by unfold World.cell?; rw [hA1]; rfl, by unfold World.cell?; rw [hB1]; rfl⟩
        · exact ⟨1, by unfold World.cell?; rw [hA1]; rfl, by unfold World.cell?; rw [hB1]; rfl⟩
        · exact ⟨2, by unfold World.cell?; rw [hA1]; rfl, by unfold World.cell?; rw [hB1]; rfl⟩
        · exact ⟨99, by unfold World.cell?; rw [hA1]; rfl, by unfold World.cell?; rw [hB1]; rfl⟩
      obtain ⟨nk, r1, r2⟩ := hkk
      have hN := FtNamed nk
      generalize namedS nk = sk at *
      have Hk := Lib.hid hN
      have HBk := Lib.hid hbk
      have hk0 : (0 : Int) ≤ k := by omega
      have hk10 : (k : Int) < 10 := by omega
      clear hN hA1 hB1 hbk
      go_wp2_with fail
      refine wp_region_chain 215 [0, 0, 3, 7, 15, 0, 0, 96, 224, 511] [(0, none), (1, none), (2, none), (3, none), (5, none), (6, none), (7, none), (8, none), (4, some [5, 6, 7, 8]), (9, none)] (by kernel_rfl) (by kernel_rfl) (by rfl) ?_; simp only [chain, Obs, List.getElem?_toArray, List.getElem?_cons_zero, List.getElem?_cons_succ]
      go_wp2_with (first
        | (with_reducible refine And.intro (by first | with_reducible exact True.intro | with_reducible rfl | go_simp) ?_)
        | (go_at_call 24; refine (Hk.out _).mono ?_; rintro e w3 ⟨rfl, rfl⟩))
      refine NoPanic.normal ?_
      go_wp2_with fail
      exact ⟨⟨k + 1, hlt, by go_num, HBk.out.drew⟩, by simp [intOf]; omega⟩
    · obtain rfl : k = 10 := by omega
      clear hA1 hB1
      have HBk := Lib.hid hbk
      clear hbk
      go_wp2_with fail
      go_ret
      have hb1 := Hb1.out.alloc Hb1.out.size (.cells #[.int .i64 1, .int .i64 2] 3)
      have hb2 := hb1.trans (K15.out.old.mono hb1.size)
      have hb3 := hb2.trans (HBW.out.mono hb2.size)
      exact ⟨rfl, hb3.trans (HBk.out.mono hb3.size)⟩
end Go.Proofs.YtlgkkolgdjgclaaGreat
