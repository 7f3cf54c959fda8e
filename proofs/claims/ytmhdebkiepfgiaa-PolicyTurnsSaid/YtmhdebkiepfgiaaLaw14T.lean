/- PolicyTurns walked. -/
import Derived.Test.YtmhdebkiepfgiaaLaw14
import Derived.Test.YtmhdebkiepfgiaaArg
namespace Go.Proofs.Ytmhdebkiepfgiaa
open Go.RowKit
set_option linter.unusedVariables false
set_option linter.unusedSimpArgs false

theorem m_form_0 (b : Nat) (w : World) : (method 322 59 (.pointer (some ⟨b, 0, none⟩)) "Form").run Try.prog w = .ok (38, .pointer (some ⟨b, 0, none⟩)) w := by kernel_rfl
theorem m_form_1 (b : Nat) (w : World) : (method 322 91 (.pointer (some ⟨b, 0, none⟩)) "Form").run Try.prog w = .ok (174, .pointer (some ⟨b, 0, none⟩)) w := by kernel_rfl
theorem m_form_2 (b : Nat) (w : World) : (method 322 94 (.pointer (some ⟨b, 0, none⟩)) "Form").run Try.prog w = .ok (183, .pointer (some ⟨b, 0, none⟩)) w := by kernel_rfl

def formFn (tag : Int) : FuncId := if tag = 0 then 38 else if tag = 1 then 174 else 183
theorem form_fn {w : World} {F : Nat → Prop} {b : Nat} {S : Ln} {K tag : Int} (ht : TagOk tag) (h : Qm w F b S) (hk : OkS K S) : Calls Try.prog (formFn tag) #[.pointer (some ⟨b, 0, none⟩)] w (FormPost w S.cur (S.l.map (itOf S.base))) := by
  rcases ht with rfl | rfl | rfl
  · exact Form_stride h hk
  · exact Form_fair h hk
  · exact Form_due h hk
theorem m_form (tag : Int) (ht : TagOk tag) (b : Nat) (w : World) : (method 322 (polT tag) (.pointer (some ⟨b, 0, none⟩)) "Form").run Try.prog w = .ok (formFn tag, .pointer (some ⟨b, 0, none⟩)) w := by
  rcases ht with rfl | rfl | rfl
  · exact m_form_0 b w
  · exact m_form_1 b w
  · exact m_form_2 b w
theorem ent_form (tag : Int) (ht : TagOk tag) : ∀ args w, (callFunc (formFn tag) args).run Try.prog w = .ok (.enter (formFn tag) args) w := by
  rcases ht with rfl | rfl | rfl
  · exact enters_of Try.func38 (by kernel_rfl) rfl
  · exact enters_of Try.func174 (by kernel_rfl) rfl
  · exact enters_of Try.func183 (by kernel_rfl) rfl
/-- A seed's form is told. -/
theorem form_of_seed {w : World} {F : Nat → Prop} {b : Nat} {tag B : Int} {f : Fm} (ht : TagOk tag) (hb : BaseOk B) (hg : goodF f = true) (h : Qm w F b (seedR f B)) : Calls Try.prog (formFn tag) #[.pointer (some ⟨b, 0, none⟩)] w (FormPost w f.cur f.l) := by
  have h1 := form_fn ht h (OkS.seed hb.1 hb.2 hg)
  have h2 := form_seed f B
  have e1 : (seedR f B).cur = f.cur := rfl
  have e2 : (seedR f B).l.map (itOf (seedR f B).base) = f.l := congrArg Fm.l h2
  rw [e1, e2] at h1
  exact h1

set_option maxHeartbeats 1600000 in
set_option maxRecDepth 100000 in
theorem PolicyTurns_walk (cur : Int) (l : List It) (n : Nat) (a : Option Addr) (c : Nat) (tags : List Int) (nt : Nat) (ta : Option Addr) (tc : Nat) (bases : List Int) (nb : Nat) (ba : Option Addr) (bc : Nat) (w : World)
    (hn : l.length = n) (hm : n ≤ maxLen) (hs : Sl It.enc 3 w a l) (hnt : tags.length = nt) (hmt : nt ≤ maxLen) (hst : Sl encI 1 w ta tags) (hnb : bases.length = nb) (hmb : nb ≤ maxLen) (hsb : Sl encI 1 w ba bases) :
    Calls Try.prog 4 #[.agg #[.int .i64 cur, .slice a n c], .slice ta nt tc, .slice ba nb bc] w fun e w' => e = .returned (.bool true) ∧ Below w.heap.size w w' := by
  have HS := Lib.hid hs
  have Hn := Lib.hid hn
  have HT := Lib.hid hst
  have Hnt := Lib.hid hnt
  have HB := Lib.hid hsb
  have Hnb := Lib.hid hnb
  unfold maxLen at hm hmt hmb
  clear hs hn hst hnt hsb hnb
  by_cases h64 : (64 : Int) < n
  · go_enter Try.func4, Try.ntmps4
    go_wp2_with (go_at_call 13; refine (awake14 _).mono ?_; rintro e w1 ⟨rfl, hb⟩; obtain ⟨g0, g1, y0, y1, gl⟩ := blk2 (heap_below (heap_new w _) hb))
    go_ret
    exact ⟨rfl, ((Below.refl _ _).alloc (Nat.le_refl _) _).trans (hb.mono (by simp))⟩
  · by_cases h12 : (12 : Int) < nt
    · go_enter Try.func4, Try.ntmps4
      go_wp2_with (go_at_call 13; refine (awake14 _).mono ?_; rintro e w1 ⟨rfl, hb⟩; obtain ⟨g0, g1, y0, y1, gl⟩ := blk2 (heap_below (heap_new w _) hb))
      go_ret
      exact ⟨rfl, ((Below.refl _ _).alloc (Nat.le_refl _) _).trans (hb.mono (by simp))⟩
    · cases hg : goodF ⟨cur, l⟩ with
      | false =>
        have Hg := Lib.hid hg
        clear hg
        go_enter Try.func4, Try.ntmps4
        go_wp2_with (first
          | (go_at_call 13; refine (awake14 _).mono ?_; rintro e w1 ⟨rfl, hb⟩; obtain ⟨g0, g1, y0, y1, gl⟩ := blk2 (heap_below (heap_new w _) hb); have hb0 := ((Below.refl w.heap.size w).alloc (Nat.le_refl _) _).trans (hb.mono (by simp)))
          | (go_at_call 20; refine (GoodF_any cur l n a c _ Hn.out (by omega) (HS.out.below hb0) Hg.out).mono ?_; rintro e w2 ⟨rfl, hb2⟩))
        go_ret
        exact ⟨rfl, hb0.trans (hb2.mono hb0.size)⟩
      | true =>
        have Hg := Lib.hid hg
        clear hg
        go_enter Try.func4, Try.ntmps4
        go_wp2_with (first
          | (go_at_call 13; refine (awake14 _).mono ?_; rintro e w1 ⟨rfl, hb⟩; have hh := heap_below (heap_new w _) hb; obtain ⟨g0, g1, y0, y1, gl⟩ := blk2 hh; have HH := Lib.hid hh; have hb0 := ((Below.refl w.heap.size w).alloc (Nat.le_refl _) _).trans (hb.mono (by simp)); clear hh)
          | (go_at_call 20; refine (GoodF_any cur l n a c _ Hn.out (by omega) (HS.out.below hb0) Hg.out).mono ?_; rintro e w2 ⟨rfl, hb2⟩; have hb3 := hb0.trans (hb2.mono hb0.size)))
        go_loopw [7] (fun i wr => ∃ (k : Nat) (fa : Option Addr) (fc : Nat), k ≤ nt ∧ i = .int .i64 k ∧ Below w.heap.size w wr ∧ wr.heap[w.heap.size]? = some (.cells #[.int .i64 cur, .slice fa n fc] 30 (0, 0)) ∧ Sl It.enc 3 wr fa l) (fun i _ => nt - (intOf i).toNat)
        case atStart => exact ⟨0, a, c, Nat.zero_le _, rfl, hb3, heap_below HH.out hb2, HS.out.below hb3⟩
        case round =>
          obtain ⟨k, fa, fc, hk, rfl, hbw, hF, hSl⟩ := hrel
          obtain ⟨g0, g1, y0, y1, gl⟩ := blk2 hF
          have HF := Lib.hid hF
          have HSl := Lib.hid hSl
          have hsz := hbw.size
          clear hF hSl
          by_cases hlt : k < nt
          · obtain ⟨r, off, rfl, hr, hcc⟩ := HT.out (by intro h; have h1 := Hnt.out; rw [h] at h1; simp at h1; omega)
            obtain ⟨tg, htg⟩ : ∃ y, tags[k]? = some y := ⟨_, List.getElem?_eq_getElem (by rw [Hnt.out]; exact hlt)⟩
            have e0 := (hbw.cell (p := ⟨r, off + k * 1 + 0, none⟩) hr).trans (hcc k tg htg 0 _ rfl)
            simp only [Nat.mul_one, Nat.add_zero] at e0
            have hki : (k : Int) < nt := by omega
            clear hcc htg
            have hbase : ∃ B : Int, (∃ r off, (k : Int) < nb ∧ ba = some ⟨r, off, none⟩ ∧ wr.cell? ⟨r, off + k, none⟩ = some (.int .i64 B)) ∨ (¬ (k : Int) < nb ∧ B = 0) := by
              by_cases hkb : k < nb
              · obtain ⟨r2, off2, rfl, hr2, hc2⟩ := HB.out (by intro h; have h1 := Hnb.out; rw [h] at h1; simp at h1; omega)
                obtain ⟨B, hB⟩ : ∃ y, bases[k]? = some y := ⟨_, List.getElem?_eq_getElem (by rw [Hnb.out]; exact hkb)⟩
                have f0 := (hbw.cell (p := ⟨r2, off2 + k * 1 + 0, none⟩) hr2).trans (hc2 k B hB 0 _ rfl)
                simp only [Nat.mul_one, Nat.add_zero] at f0
                exact ⟨B, .inl ⟨r2, off2, by omega, rfl, f0⟩⟩
              · exact ⟨0, .inr ⟨by omega, rfl⟩⟩
            obtain ⟨B, hbase⟩ := hbase
            by_cases hok : TagOk tg ∧ BaseOk B
            · obtain ⟨htk, hbk⟩ := hok
              have HBk := Lib.hid hbk
              clear hbk
              have HT3 := Lib.hid htk
              have hmf := m_form tg htk
              have hef := ent_form tg htk
              generalize hTT : polT tg = TT at hmf
              generalize hFN : formFn tg = FN at hmf hef
              have HTT := Lib.hid hTT
              have HFN := Lib.hid hFN
              clear htk hTT hFN
              rcases hbase with ⟨r2, off2, hkb, rfl, f0⟩ | ⟨hkb, rfl⟩
              all_goals
                go_wp2_with fail
                refine wp_region_chain 88 [(0, none), (1, none), (2, none), (3, none), (4, none), (5, none), (6, some []), (7, none), (8, none), (9, none), (10, none), (11, none)] (by kernel_rfl) (by kernel_rfl) (by rfl) ?_; simp only [chain, Obs, List.getElem?_toArray, List.getElem?_cons_zero, List.getElem?_cons_succ]
                go_wp2_with (first
                  | (with_reducible refine And.intro (by first | with_reducible exact True.intro | with_reducible rfl | go_simp) ?_)
                  | (go_at_call 15; refine (PolSeed_ok _ ⟨cur, l⟩ n fa fc _ _ Hn.out (HSl.out.below (Below.refl _ _).drew) HT3.out HBk.out Hg.out).mono ?_; rintro e w3 ⟨p, F, rfl, hq, hFF, hb4⟩; have Hq := Lib.hid hq; clear hq hFF))
                refine NoPanic.normal ?_
                obtain ⟨b, G, hp, hq, hG, rfl⟩ := Hq.out
                rw [HTT.out] at hp
                obtain ⟨p0, p1, p2, p3, plt⟩ := blk2 hp
                have HP := Lib.hid hp
                have hb5 := hbw.drew.trans (hb4.mono hsz)
                have HF3 := Lib.hid (heap_below (w := wr.drew) HF.out hb4)
                obtain ⟨g0, g1, y0, y1, gl⟩ := blk2 HF3.out
                have HSl3 := Lib.hid (HSl.out.below ((Below.refl wr.heap.size wr).drew.trans hb4))
                have HQ : ∀ W, Below w3.heap.size w3 W → Calls Try.prog FN #[.pointer (some ⟨b, 0, none⟩)] W (FormPost W cur l) := fun W hW => by
                  rw [← HFN.out]
                  exact form_of_seed HT3.out HBk.out Hg.out (hq.below hW)
                have HQ := Lib.hid HQ
                have mf := hmf b
                clear hp hq hG
                go_wp2_with fail
                have hcur := (Below.refl w3.heap.size w3).drew
                refine wp_region_chain 88 [(0, none), (1, none), (2, none), (3, none), (5, none), (4, some [5]), (6, some []), (7, none)] (by kernel_rfl) (by kernel_rfl) (by rfl) ?_; simp only [chain, Obs, List.getElem?_toArray, List.getElem?_cons_zero, List.getElem?_cons_succ]
                go_wp2_with (first
                  | (with_reducible refine And.intro (by first | with_reducible exact True.intro | with_reducible rfl | go_simp) ?_)
                  | (go_at_fn FN; refine (HQ.out _ hcur).mono ?_; rintro e w4 ⟨a4, c4, rfl, ho, hb6⟩; have hcur := hcur.trans (hb6.mono hcur.size); obtain ⟨g0, g1, y0, y1, gl⟩ := blk2 (heap_below HF3.out hcur); have Hs4 := Lib.hid (Sl.of_own It.len ho); clear ho)
                  | (go_at_call 21; go_loud (refine (SameF_any cur cur l l _ n a4 fa c4 fc _ rfl Hn.out (by rw [Hn.out]; omega) (by omega) Hs4.out (HSl3.out.below hcur) (decide_eq_true rfl)).mono ?_); rintro e w5 ⟨rfl, hb7⟩; have hcur := hcur.trans (hb7.mono hcur.size); obtain ⟨p0, p1, p2, p3, plt⟩ := blk2 (heap_below HP.out hcur)))
                refine NoPanic.normal ?_
                go_wp2_with (go_at_fn FN; refine (HQ.out _ hcur).mono ?_; rintro e w6 ⟨a6, c6, rfl, ho, hb8⟩; have hcur := hcur.trans (hb8.mono hcur.size); have h6 := heap_below HF3.out hcur; obtain ⟨g0, g1, y0, y1, gl⟩ := blk2 h6; have H6 := Lib.hid h6; rw [Hn.out] at ho ⊢; have Ho6 := Lib.hid ho; clear ho h6)
                go_roundw
                case rel =>
                  have hno : (Value.slice a6 n c6).ownBlock ≠ some w.heap.size := fun e => by
                    have h1 := (Ho6.out.lt _ e).1
                    have h2 := hb5.size
                    have h3 := hcur.size
                    have h4 := hb8.size
                    have h5 := hb7.size
                    omega
                  have ho := own_set (own_set Ho6.out hno (i := 0) (u := .int .i64 cur)) hno (i := 1) (u := .slice a6 n c6)
                  exact ⟨k + 1, a6, c6, hlt, by go_num, ((hb5.trans (hcur.mono hb5.size)).setCell (Nat.le_refl _) _).setCell (Nat.le_refl _) _, heap_set (heap_set H6.out _) _, Sl.of_own It.len (by rw [Hn.out]; exact ho)⟩
                case measure => simp [intOf]; omega
            · have h3 : decide (0 ≤ tg ∧ tg ≤ 2) = false ∨ (decide (0 ≤ tg ∧ tg ≤ 2) = true ∧ 1152921504606846976 < B) ∨ (decide (0 ≤ tg ∧ tg ≤ 2) = true ∧ B < -1152921504606846976) := by
                by_cases h : 0 ≤ tg ∧ tg ≤ 2
                · right
                  have h1 : TagOk tg := by unfold TagOk; omega
                  have h2 : ¬ BaseOk B := fun h2 => hok ⟨h1, h2⟩
                  unfold BaseOk at h2
                  rcases Int.lt_or_le 1152921504606846976 B with h4 | h4
                  · exact .inl ⟨decide_eq_true h, h4⟩
                  · exact .inr ⟨decide_eq_true h, by omega⟩
                · exact .inl (decide_eq_false h)
              have Hok := Lib.hid hok
              have hrw : r < wr.heap.size := by omega
              clear hok
              rcases hbase with ⟨r2, off2, hkb, rfl, f0⟩ | ⟨hkb, rfl⟩
              all_goals
                rcases h3 with h3 | ⟨h3, h4⟩ | ⟨h3, h4⟩
              all_goals first
                | (exfalso; omega)
                | (have H3 := Lib.hid h3
                   clear h3
                   go_wp2_with fail
                   refine wp_region_chain 88 [(0, none), (1, none), (2, none), (3, none), (4, none), (5, none), (6, some []), (7, none), (8, none), (9, none), (10, none), (11, none)] (by kernel_rfl) (by kernel_rfl) (by rfl) ?_; simp only [chain, Obs, List.getElem?_toArray, List.getElem?_cons_zero, List.getElem?_cons_succ]
                   go_wp2_with (first
                     | (with_reducible refine And.intro (by first | with_reducible exact True.intro | with_reducible rfl | go_simp) ?_)
                     | (go_at_call 15; refine (PolSeed_err _ ⟨cur, l⟩ n fa fc _ _ Hn.out (by omega) (HSl.out.below (Below.refl _ _).drew) (fun h => Hok.out ⟨h.1, h.2.1⟩)).mono ?_; rintro e w3 ⟨rfl, hb4⟩; have e3 := (hb4.cell (p := ⟨r, off + k, none⟩) hrw).trans e0; have hcur := hbw.drew.trans (hb4.mono hsz)))
                   refine NoPanic.normal ?_
                   go_wp2_with (go_at_call 16; refine (PolGood _ _ H3.out).mono ?_; rintro e w5 ⟨rfl, rfl⟩)
                   go_ret
                   exact ⟨rfl, hcur⟩)
          · go_wp2_with fail
            go_ret
            exact ⟨rfl, hbw⟩
end Go.Proofs.Ytmhdebkiepfgiaa
