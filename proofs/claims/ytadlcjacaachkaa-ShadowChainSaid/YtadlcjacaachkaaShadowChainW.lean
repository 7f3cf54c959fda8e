/- Proved here: the statement ShadowChain, without conditions of ours (its walk, then the row). -/
import Derived.Test.YtadlcjacaachkaaShadow
import Derived.Test.YtadlcjacaachkaaRows
import Derived.ProofKit
import Derived.Below
namespace Go.Proofs.Ytadlcjacaachkaa
open Go.RowKit
set_option linter.unusedVariables false
set_option linter.unusedSimpArgs false

set_option maxHeartbeats 800000 in
theorem Fill_ok (tag : Int) (f : Fm) (n : Nat) (a : Option Addr) (c : Nat) (w : World) (hn : f.l.length = n) (hs : Sl It.enc 3 w a f.l) (ht : TagOk tag) (hg : goodF f = true) :
    Calls Try.prog 10 #[.int .i64 tag, .agg #[.int .i64 f.cur, .slice a n c]] w fun e w' => ∃ cc p b r F, e = .returned (.pointer (some ⟨cc, 0, none⟩)) ∧ CSt w w' F cc p b r ⟨tag, seedR f 0, fun _ => 0, 0, 0, 0⟩ := by
  have hb0 := (Below.refl w.heap.size w).alloc (Nat.le_refl _) (.cells #[.int .i64 f.cur, .slice a n c] 26)
  have HS := Lib.hid (CorSeed_ok tag f n a c 0 _ hn (hs.below hb0) ht (by decide) hg)
  clear hs ht hg hn
  go_enter Try.func10, Try.ntmps10
  go_wp2_with (go_at_call 21; refine HS.out.mono ?_; intro e w1 hp; obtain ⟨cc, p, b, r, F, rfl, hc, _, _⟩ := hp.st hb0; have Hc := Lib.hid hc; clear hc hp)
  go_ret
  exact ⟨cc, p, b, r, F, rfl, Hc.out⟩
set_option maxHeartbeats 800000 in
theorem Fill_err (tag : Int) (f : Fm) (n : Nat) (a : Option Addr) (c : Nat) (w : World) (hn : f.l.length = n) (hl : n ≤ 4611686018427387904) (hs : Sl It.enc 3 w a f.l) (h : ¬ (TagOk tag ∧ goodF f = true)) :
    Calls Try.prog 10 #[.int .i64 tag, .agg #[.int .i64 f.cur, .slice a n c]] w fun e w' => e = .returned (.pointer none) ∧ Below w.heap.size w w' := by
  have hb0 := (Below.refl w.heap.size w).alloc (Nat.le_refl _) (.cells #[.int .i64 f.cur, .slice a n c] 26)
  have HS := Lib.hid (CorSeed_err tag f n a c 0 _ hn hl (hs.below hb0) (fun h2 => h ⟨h2.1, h2.2.2⟩))
  clear hs h hn
  go_enter Try.func10, Try.ntmps10
  go_wp2_with (go_at_call 21; refine HS.out.mono ?_; rintro e w1 ⟨rfl, hb1⟩)
  go_ret
  exact ⟨rfl, hb0.trans (hb1.mono hb0.size)⟩

set_option maxHeartbeats 6400000 in
set_option maxRecDepth 100000 in
theorem ShadowChain_walk (tag cur : Int) (l : List It) (n : Nat) (a : Option Addr) (c : Nat) (ts : List Int) (m : Nat) (ta : Option Addr) (tc : Nat) (w : World) (htag : I64 tag) (hn : l.length = n) (hnm : n ≤ maxLen) (hs : Sl It.enc 3 w a l) (hm : ts.length = m) (hmm : m ≤ maxLen) (hts : Sl encI 1 w ta ts) :
    Calls Try.prog 4 #[.int .i64 tag, .agg #[.int .i64 cur, .slice a n c], .slice ta m tc] w fun e w' => e = .returned (.bool true) ∧ Below w.heap.size w w' := by
  have HX0 := Lib.hid (heap_new w (.cells #[.int .i64 cur, .slice a n c] 26))
  have HA0 := Lib.hid ((Below.refl w.heap.size w).alloc (Nat.le_refl _) (.cells #[.int .i64 cur, .slice a n c] 26))
  have HS := Lib.hid hs
  have HTs := Lib.hid hts
  have Hn := Lib.hid hn
  have Hm := Lib.hid hm
  unfold maxLen at hnm hmm
  clear hs hts hn hm
  by_cases h40 : (40 : Int) < n
  · go_enter Try.func4, Try.ntmps4
    go_wp2_with (first
      | (go_at_call 5; refine (awake21 _).mono ?_; rintro e w1 ⟨rfl, hb1⟩; have hX1 := heap_below HX0.out hb1; obtain ⟨g0, g1, y0, y1, gl⟩ := blk2 hX1; have HX1 := Lib.hid hX1; have hbA := HA0.out.trans (hb1.mono HA0.out.size); clear hX1)
      )
    go_ret
    exact ⟨rfl, hbA⟩
  · by_cases h10 : (10 : Int) < m
    · go_enter Try.func4, Try.ntmps4
      go_wp2_with (first
        | (go_at_call 5; refine (awake21 _).mono ?_; rintro e w1 ⟨rfl, hb1⟩; have hX1 := heap_below HX0.out hb1; obtain ⟨g0, g1, y0, y1, gl⟩ := blk2 hX1; have HX1 := Lib.hid hX1; have hbA := HA0.out.trans (hb1.mono HA0.out.size); clear hX1)
        )
      go_ret
      exact ⟨rfl, hbA⟩
    · by_cases hok : TagOk tag ∧ goodF ⟨cur, l⟩ = true
      case neg =>
        have HFl := Lib.hid (fun W (h : Below w.heap.size w W) => Fill_err tag ⟨cur, l⟩ n a c W Hn.out (by omega) (HS.out.below h) hok)
        clear hok
        go_enter Try.func4, Try.ntmps4
        go_wp2_with (first
          | (go_at_call 5; refine (awake21 _).mono ?_; rintro e w1 ⟨rfl, hb1⟩; have hX1 := heap_below HX0.out hb1; obtain ⟨g0, g1, y0, y1, gl⟩ := blk2 hX1; have HX1 := Lib.hid hX1; have hbA := HA0.out.trans (hb1.mono HA0.out.size); clear hX1)
          | (go_at_call 10; refine (HFl.out _ hbA).mono ?_; rintro e w2 ⟨rfl, hb2⟩; have hbB := hbA.trans (hb2.mono hbA.size)))
        go_ret
        exact ⟨rfl, hbB⟩
      case pos =>
        have Hg := Lib.hid hok.2
        have Ht := Lib.hid hok.1
        have HFl := Lib.hid (fun W (h : Below w.heap.size w W) => Fill_ok tag ⟨cur, l⟩ n a c W Hn.out (HS.out.below h) hok.1 hok.2)
        clear hok
        go_enter Try.func4, Try.ntmps4
        go_wp2_with (first
          | (go_at_call 5; refine (awake21 _).mono ?_; rintro e w1 ⟨rfl, hb1⟩; have hX1 := heap_below HX0.out hb1; obtain ⟨g0, g1, y0, y1, gl⟩ := blk2 hX1; have HX1 := Lib.hid hX1; have hbA := HA0.out.trans (hb1.mono HA0.out.size); clear hX1)
          | (go_at_call 10; refine (HFl.out _ hbA).mono ?_; rintro e w2 ⟨cc, p, b, r, F, rfl, hc⟩; have Hc := Lib.hid hc; clear hc))
        have HbA := Lib.hid hbA
        go_loopw [8, 9] (fun t i wr => ∃ (k : Nat) (now bs : Int) (F : Nat → Prop) (p b : Nat), k ≤ m ∧ t = .int .i64 now ∧ i = .int .i64 k ∧ TagOk now ∧ BaseOk bs ∧ CSt w1 wr F cc p b r ⟨now, seedR ⟨cur, l⟩ bs, fun _ => 0, 0, 0, 0⟩) (fun _ i _ => m - (intOf i).toNat)
        case atStart => exact ⟨0, tag, 0, F, p, b, Nat.zero_le _, rfl, rfl, Ht.out, by decide, Hc.out⟩
        case round =>
          obtain ⟨k, now, bs, F, p, b, hk, rfl, rfl, hnow, hbs, hc⟩ := hrel
          have hold := hc.old
          have hX := heap_below HX1.out hold
          obtain ⟨g0, g1, y0, y1, gl⟩ := blk2 hX
          have Hc2 := Lib.hid hc
          have Hnow := Lib.hid hnow
          have Hbs := Lib.hid hbs
          have Hold := Lib.hid hold
          have HTg := Lib.hid (CorTag hc)
          clear hc hnow hbs hX hold
          by_cases hlt : k < m
          · obtain ⟨tr, toff, rfl, hr, hcc⟩ := HTs.out (by intro h; have h1 := Hm.out; rw [h] at h1; simp at h1; omega)
            obtain ⟨tg, htg⟩ : ∃ x, ts[k]? = some x := ⟨_, List.getElem?_eq_getElem (by rw [Hm.out]; exact hlt)⟩
            have hbr := HbA.out.trans (Hold.out.mono HbA.out.size)
            have e0 := (hbr.cell (p := ⟨tr, toff + k * 1 + 0, none⟩) hr).trans (hcc k tg htg 0 _ rfl)
            simp only [Nat.add_zero, Nat.mul_one] at e0
            have hkm : (k : Int) < m := by omega
            have hk10 : (k : Int) ≤ 10 := by omega
            by_cases htg2 : TagOk tg
            · have t0 : ¬ tg < 0 := by unfold TagOk at htg2; omega
              have t2 : ¬ 2 < tg := by unfold TagOk at htg2; omega
              have td0 : decide (tg < 0) = false := decide_eq_false t0
              have td2 : decide (2 < tg) = false := decide_eq_false t2
              have hBb : BaseOk ((k : Int) * 7777) := by unfold BaseOk; omega
              have HTu := Lib.hid (Turn_ok Hc2.out Hnow.out (OkS.seed Hbs.out.1 Hbs.out.2 Hg.out) (form_seed ⟨cur, l⟩ bs) Hg.out tg ((k : Int) * 7777) htg2 hBb)
              have Htg := Lib.hid htg2
              have HBb := Lib.hid hBb
              have Hcc := Lib.hid (hcc k tg htg 0 _ rfl)
              have htt : (tg != tg) = false := by simp
              clear hcc htg htg2 hBb
              go_wp2_with (first
                | (go_at_call 11; refine HTu.out.mono ?_; rintro e w5 ⟨p2, b2, H, rfl, hq, hH, hb5⟩; have e1 := (hb5.cell (p := ⟨tr, toff + k, none⟩) (Nat.lt_of_lt_of_le hr hbr.size)).trans e0; have HQ5 := Lib.hid hq; have Hd := Lib.hid (fun q (hq1 : H q ∨ q = p2) (hq2 : cfoot F cc p r q) => (by have h1 := hH q hq1; have h2 := Hc2.out.lt q hq2; omega : False)); have HC5 := Lib.hid (Hc2.out.below hb5); clear hq hH)
                | (go_at_call 12; refine (CorChange_ok HC5.out HQ5.out Hnow.out Htg.out (OkS.seed Hbs.out.1 Hbs.out.2 Hg.out) (OkS.seed HBb.out.1 HBb.out.2 Hg.out) Hd.out ((form_seed _ _).trans (form_seed _ _).symm)).mono ?_; rintro e w6 ⟨rfl, hc6, -⟩; have HC6 := Lib.hid (show CSt w1 w6 H cc p2 b2 r ⟨tg, seedR ⟨cur, l⟩ ((k : Int) * 7777), fun _ => 0, 0, 0, 0⟩ from hc6); have hold6 := HC6.out.old; have e2 := ((HbA.out.trans (hold6.mono HbA.out.size)).cell (p := ⟨tr, toff + k * 1 + 0, none⟩) hr).trans Hcc.out; simp only [Nat.add_zero, Nat.mul_one] at e2; have hX6 := heap_below HX1.out hold6; obtain ⟨g0, g1, y0, y1, gl⟩ := blk2 hX6; clear hc6 hX6))
              have hold7 := hold6.drew
              have HC7 := Lib.hid (HC6.out.below ((Below.refl w6.heap.size w6).drew))
              have HTag7 := Lib.hid (CorTag HC7.out)
              have HF7 := CorForm HC7.out Htg.out (OkS.seed (f := ⟨cur, l⟩) HBb.out.1 HBb.out.2 Hg.out)
              have e4 : (seedR ⟨cur, l⟩ ((k : Int) * 7777)).l.map (itOf (seedR ⟨cur, l⟩ ((k : Int) * 7777)).base) = l := congrArg Fm.l (form_seed ⟨cur, l⟩ _)
              simp only [e4] at HF7
              have HF8 := Lib.hid (show Calls Try.prog 14 #[.pointer (some ⟨cc, 0, none⟩)] w6.drew (FormPost w6.drew cur l) from HF7)
              clear HF7 e4
              refine wp_region_chain 91 [0, 1, 0, 7, 15, 31, 63, 31, 255, 511, 1023] [(0, none), (2, none), (1, some [2]), (3, none), (4, none), (5, none), (7, none), (6, some [7]), (8, some []), (9, none), (10, none)] (by kernel_rfl) (by kernel_rfl) (by rfl) ?_; simp only [chain, Obs, List.getElem?_toArray, List.getElem?_cons_zero, List.getElem?_cons_succ]
              go_wp2_with (first
                | (with_reducible refine And.intro (by first | with_reducible exact True.intro | with_reducible rfl | go_simp) ?_)
                | (go_at_call 13; refine HTag7.out.mono ?_; rintro e w7 ⟨rfl, rfl⟩)
                | (go_at_call 14; refine HF8.out.mono ?_; rintro e w8 ⟨a8, c8, rfl, ho8, hb8⟩; have hX8 := heap_below HX1.out (hold7.trans (hb8.mono hold7.size)); obtain ⟨g0, g1, y0, y1, gl⟩ := blk2 hX8; have Hs8 := Lib.hid (Sl.of_own It.len ho8); have HC8 := Lib.hid (HC7.out.below hb8); have hold8 := hold7.trans (hb8.mono hold7.size); have Hs9 := Lib.hid (HS.out.below (HbA.out.trans (hold8.mono HbA.out.size))); clear ho8 hX8)
                | (go_at_call 9; refine (SameF_any cur cur l l l.length n a8 a c8 c _ rfl Hn.out (by have := Hn.out; omega) (by omega) Hs8.out Hs9.out (decide_eq_true rfl)).mono ?_; rintro e w9 ⟨rfl, hb9⟩; have HC9 := Lib.hid (HC8.out.below hb9)))
              refine NoPanic.normal ?_
              go_wp2_with fail
              go_roundw
              case rel => exact ⟨k + 1, tg, (k : Int) * 7777, H, p2, b2, by omega, rfl, by go_num, Htg.out, HBb.out, HC9.out⟩
              case measure => simp [intOf]; omega
            · have hd : tg < 0 ∨ (¬ tg < 0 ∧ 2 < tg) := by unfold TagOk at htg2; omega
              have HTu := Lib.hid (fun q bb W => Turn_tag tg bb q W htg2)
              clear hcc htg htg2
              rcases hd with h1 | ⟨h1, h2⟩
              all_goals
                go_wp2_with (go_at_call 11; refine (HTu.out _ _ _).mono ?_; rintro e w5 ⟨rfl, hb5⟩; have e1 := (hb5.cell (p := ⟨tr, toff + k, none⟩) (Nat.lt_of_lt_of_le hr hbr.size)).trans e0)
                go_roundw
                case rel => exact ⟨k + 1, now, bs, F, p, b, by omega, rfl, by go_num, Hnow.out, Hbs.out, Hc2.out.below hb5⟩
                case measure => simp [intOf]; omega
          · go_wp2_with (go_at_call 13; refine HTg.out.mono ?_; rintro e w5 ⟨rfl, rfl⟩)
            go_ret
            exact ⟨by simp, HbA.out.trans (Hold.out.mono HbA.out.size)⟩
end Go.Proofs.Ytadlcjacaachkaa
/- Proved here: the statement ShadowChain, without conditions of ours. -/
namespace Go.Proofs.Ytadlcjacaachkaa
open Go.ChangeShapes Go.WideShapes Go.ChangeAt Go.RowKit
set_option linter.unusedVariables false

theorem ownShadowChain : ownKnob Try.prog.godebug = none := by kernel_rfl
theorem laidOutShadowChain : laidOutB Try.prog = true := by kernel_rfl
set_option maxRecDepth 100000 in
set_option maxHeartbeats 1000000 in
theorem shadowChain_lifted (os : Os) (started : os.Started) (H : Type) (enc : TypeId × Value → H) :
    ReturnsInHanded {} Try.checked os 4 .any (Rows.shadowChainSpec.pre6 enc Try.prog Try.f4 Rows.shadowChainRow.domain false) (Rows.shadowChainSpec.post enc Try.prog Try.f4 false true false false) := by
  refine returnsInHanded_of_change (C := Try.checked) ownShadowChain started (by kernel_rfl) Try.func4
    (ChangeSpec.witness6 (enc := enc) (C := Try.checked) false ⟨#[], #[.int .i64 0, .agg #[.int .i64 0, .slice none 0 0], .slice none 0 0], []⟩ 8 (by kernel_rfl) (by kernel_rfl) (by kernel_rfl) (by kernel_rfl)) ?_
  intro W base args ds gs before hval0 hW hcnd _
  have hval : ∀ (j : Nat) t v, Try.f4.params[j]? = some t → args[j]? = some v → Value.okWide Try.prog W .any base t v := hval0
  have hW' := hW
  obtain ⟨p, q, hA0, hV, rfl, hfz, hnd⟩ := hW
  have hA : DataW.TrodAll enc Try.prog W 0 (fun _ => true) true Try.f4.params.toList args.toList ds p := hA0
  rw [ Try.params4 ] at hA hval
  obtain ⟨v0, vs0, d0, ds0, p0, q0, hargs, rfl, rfl, h0, r0⟩ := trodAll_cons hA
  obtain ⟨v1, vs1, d1, ds1, p1, q1, rfl, rfl, rfl, h1, r1⟩ := trodAll_cons r0
  obtain ⟨v2, vs2, d2, ds2, p2, q2, rfl, rfl, rfl, h2, r2⟩ := trodAll_cons r1
  obtain ⟨rfl, rfl, rfl⟩ := trodAll_nil r2
  obtain rfl : args = #[v0, v1, v2] := by cases args; simp_all
  obtain ⟨rfl, rfl⟩ := trodVars_none hV
  obtain ⟨x0, rfl, rfl, rfl, w0⟩ := open_int Try.underlying3 (hval 0 3 v0 rfl rfl) h0
  have k1 := h1
  have lt1 : ∀ x ∈ p1, x.block < W.heap.size := by obtain ⟨m, hm⟩ := k1; exact DataW.trod_lt m _ _ _ hm
  obtain ⟨cu1, a1, n1, c1, l1, rfl, hn1, hm1, hs1, hi1⟩ := open_form (hval 1 26 v1 rfl rfl) h1
  have k2 := h2
  have lt2 : ∀ x ∈ p2, x.block < W.heap.size := by obtain ⟨m, hm⟩ := k2; exact DataW.trod_lt m _ _ _ hm
  obtain ⟨a2, n2, c2, l2, rfl, hn2, hm2, hs2⟩ := open_nums Try.underlying41 Try.underlying3 cInt (hval 2 41 v2 rfl rfl) h2
  clear hA0 hval0
  refine (ShadowChain_walk x0 cu1 l1 n1 a1 c1 l2 n2 a2 c2 W (wf_is w0) hn1 hm1 hs1 hn2 hm2 hs2).mono fun e W' ⟨he, bel⟩ => ?_
  subst he
  exact ⟨_, rfl, _, _, _, [], _, [], hW', trodAll_mk1 (shut_bool Try.underlying4 _), (trodAll_cons_mk (shut_int Try.underlying3 w0) (trodAll_cons_mk (Below.trod laidOutShadowChain (by kernel_rfl) (of_decide_eq_true (by kernel_rfl)) k1 bel lt1) (trodAll_cons_mk (Below.trod laidOutShadowChain (by kernel_rfl) (of_decide_eq_true (by kernel_rfl)) k2 bel lt2) trodAll_mk0))), rfl, bel.frame _, fun h => by cases h⟩

theorem shadowChain_holds : Rows.ShadowChainSaid :=
  OpenClaim.holds_of_wide 4 Try.f4 rfl rfl rfl rfl rfl rfl rfl ⟨rfl, rfl, rfl, rfl, rfl⟩ rfl rfl rfl rfl rfl (by kernel_rfl) Try.func4 (by kernel_rfl)
    (of_decide_eq_true (by kernel_rfl)) (by unfold Func.isWrapper; first | (rw [if_pos (by decide +kernel)]; kernel_rfl) | (rw [if_neg (by decide +kernel)]; exact ⟨rfl, rfl⟩))
    (fun os started H enc _ => shadowChain_lifted os started H enc)
#print axioms shadowChain_holds
end Go.Proofs.Ytadlcjacaachkaa
