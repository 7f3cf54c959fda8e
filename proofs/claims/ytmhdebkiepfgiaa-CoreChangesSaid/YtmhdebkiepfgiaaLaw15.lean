/- The law's functions of layer 15. -/
import Derived.Test.YtmhdebkiepfgiaaCore
import Derived.Test.YtmhdebkiepfgiaaArg
namespace Go.Proofs.Ytmhdebkiepfgiaa
open Go.RowKit
set_option linter.unusedVariables false
set_option linter.unusedSimpArgs false

set_option maxHeartbeats 1600000 in
theorem awake15 (w : World) : Calls Try.prog 22 #[] w fun e w' => e = .returned (.bool true) ∧ Below w.heap.size w w' := by
  have h0 : TagOk 0 := by decide
  have h1 : BaseOk 0 := by decide
  have hk : OkS 0 ⟨0, -1, []⟩ := OkS.new (by decide) (by decide)
  have hr1 : pickstride ⟨0, -1, []⟩ = (⟨0, -1, []⟩, 0, false) := rfl
  have hr2 : chargeR ⟨0, -1, []⟩ = (⟨0, -1, []⟩, 0, 14) := rfl
  have HN := Lib.hid (fun W => CoreNew_ok 0 0 W h0 h1)
  have HR := Lib.hid (fun (W : World) (F : Nat → Prop) (c : Nat) (h : Cm W F c 0 ⟨0, -1, []⟩ 0 0) => CoreRun_idle h (by decide) (by decide) fun G p hp => PolRun_0 hp hk hr1 hr2)
  clear h0 h1 hk hr1 hr2
  go_enter Try.func22, Try.ntmps22
  go_wp2_with (first
    | (go_at_call 60; refine (HN.out _).mono ?_; rintro e w1 ⟨c, F, rfl, hq, hF, hb⟩; have Hq := Lib.hid hq; have HF := Lib.hid hF; clear hq hF)
    | (go_at_call 61; refine (HR.out _ _ _ Hq.out).mono ?_; rintro e w2 ⟨rfl, F2, hq2, hs2, hf2⟩; have Hq2 := Lib.hid hq2; have Hf2 := Lib.hid hf2; clear hq2 hs2 hf2)
    | (go_at_call 62; refine (CoreIdle Hq2.out).mono ?_; rintro e w3 ⟨rfl, rfl⟩)
    | (go_at_call 27; refine (CoreAge Hq2.out).mono ?_; rintro e w3 ⟨rfl, rfl⟩))
  go_ret
  exact ⟨rfl, hb.trans (Hf2.out.below hb.size fun k hk => HF.out k hk)⟩

set_option maxHeartbeats 3200000 in
set_option maxRecDepth 100000 in
theorem CoreChanges_walk (tag cuf : Int) (lf : List It) (nf : Nat) (af : Option Addr) (kf : Nat) (tt cug : Int) (lg : List It) (ng : Nat) (ag : Option Addr) (kg : Nat) (w : World)
    (ht : I64 tag) (hnf : lf.length = nf) (hmf : nf ≤ maxLen) (hsf : Sl It.enc 3 w af lf) (hto : I64 tt) (hng : lg.length = ng) (hmg : ng ≤ maxLen) (hsg : Sl It.enc 3 w ag lg) :
    Calls Try.prog 5 #[.int .i64 tag, .agg #[.int .i64 cuf, .slice af nf kf], .int .i64 tt, .agg #[.int .i64 cug, .slice ag ng kg]] w fun e w' => e = .returned (.bool true) ∧ Below w.heap.size w w' := by
  have SF := Lib.hid hsf
  have SG := Lib.hid hsg
  have NF := Lib.hid hnf
  have NG := Lib.hid hng
  unfold maxLen at hmf hmg
  clear hsf hsg hnf hng
  by_cases h1 : (64 : Int) < nf
  · go_enter Try.func5, Try.ntmps5
    go_wp2_with (go_at_call 22; refine (awake15 _).mono ?_; rintro e w1 ⟨rfl, hb⟩; obtain ⟨x0, x1, hs1, hb2⟩ := heap_two hb; obtain ⟨f0, f1, _, _, _⟩ := blk2 x0; obtain ⟨g0, g1, _, _, _⟩ := blk2 x1; clear x0 x1)
    go_ret
    exact ⟨rfl, hb2⟩
  · by_cases h2 : (64 : Int) < ng
    · go_enter Try.func5, Try.ntmps5
      go_wp2_with (go_at_call 22; refine (awake15 _).mono ?_; rintro e w1 ⟨rfl, hb⟩; obtain ⟨x0, x1, hs1, hb2⟩ := heap_two hb; obtain ⟨f0, f1, _, _, _⟩ := blk2 x0; obtain ⟨g0, g1, _, _, _⟩ := blk2 x1; clear x0 x1)
      go_ret
      exact ⟨rfl, hb2⟩
    · by_cases hC : TagOk tag ∧ BaseOk 0 ∧ goodF ⟨cuf, lf⟩ = true
      · by_cases hQ : TagOk tt ∧ BaseOk 99 ∧ goodF ⟨cug, lg⟩ = true
        · have kC : OkS 0 (seedR ⟨cuf, lf⟩ 0) := OkS.seed hC.2.1.1 hC.2.1.2 hC.2.2
          have kQ : OkS 0 (seedR ⟨cug, lg⟩ 99) := OkS.seed hQ.2.1.1 hQ.2.1.2 hQ.2.2
          have HC := Lib.hid (fun W (hW : Below w.heap.size w W) => CoreSeed_ok tag ⟨cuf, lf⟩ nf af kf 0 W NF.out (SF.out.below hW) hC.1 hC.2.1 hC.2.2)
          have HQ := Lib.hid (fun W (hW : Below w.heap.size w W) => PolSeed_ok tt ⟨cug, lg⟩ ng ag kg 99 W NG.out (SG.out.below hW) hQ.1 hQ.2.1 hQ.2.2)
          have KC := Lib.hid kC
          have KQ := Lib.hid kQ
          have T1 := Lib.hid hC.1
          have T2 := Lib.hid hQ.1
          clear hC hQ kC kQ
          by_cases hfg : (⟨cuf, lf⟩ : Fm) = ⟨cug, lg⟩
          · have hr : decide (formR (seedR ⟨cug, lg⟩ 99) = formR (seedR ⟨cuf, lf⟩ 0)) = true := decide_eq_true (by rw [form_seed, form_seed, hfg])
            have hs : decide ((⟨cuf, lf⟩ : Fm) = ⟨cug, lg⟩) = true := decide_eq_true hfg
            have Hr := Lib.hid hr
            have Hs := Lib.hid hs
            have Hfg := Lib.hid hfg
            clear hr hs hfg
            go_enter Try.func5, Try.ntmps5
            go_wp2_with (first
              | (go_at_call 22; refine (awake15 _).mono ?_; rintro e w1 ⟨rfl, hb⟩; obtain ⟨x0, x1, hs1, hc⟩ := heap_two hb; obtain ⟨f0, f1, _, _, _⟩ := blk2 x0; obtain ⟨g0, g1, _, _, _⟩ := blk2 x1; have X0 := Lib.hid x0; have X1 := Lib.hid x1; clear x0 x1)
              | (go_at_call 23; refine (HC.out _ hc).mono ?_; rintro e w2 ⟨c, F, rfl, hcm, hF, hb2⟩; have hc := hc.trans (hb2.mono hc.size); have X2 := Lib.hid (heap_below X0.out hb2); have X3 := Lib.hid (heap_below X1.out hb2); obtain ⟨f0, f1, _, _, _⟩ := blk2 X2.out; obtain ⟨g0, g1, _, _, _⟩ := blk2 X3.out; have Hcm := Lib.hid hcm; have HF := Lib.hid hF; clear hcm hF)
              | (go_at_call 15; refine (HQ.out _ hc).mono ?_; rintro e w3 ⟨p, HH, rfl, hqm, hH, hb3⟩; have hc := hc.trans (hb3.mono hc.size); have X4 := Lib.hid (heap_below X2.out hb3); have X5 := Lib.hid (heap_below X3.out hb3); obtain ⟨f0, f1, _, _, _⟩ := blk2 X4.out; obtain ⟨g0, g1, _, _, _⟩ := blk2 X5.out
                 have Hqm := Lib.hid hqm
                 have Hcm3 := Lib.hid (Hcm.out.below hb3)
                 have Hd := Lib.hid (fun k (hk : HH k) (hk2 : F k) => by have h1 := hH k hk; have h2 := Hcm.out.lt k hk2; omega : ∀ k, HH k → ¬ F k)
                 clear hqm hH)
              | (go_at_call 24; refine (CoreChange Hcm3.out Hqm.out T1.out T2.out KC.out KQ.out Hd.out Hr.out).mono ?_; rintro e w4 ⟨rfl, _, hch⟩
                 obtain ⟨⟨F', hcm4, hF4⟩, hf4⟩ := hch rfl
                 have hx0 : ¬ F w.heap.size := fun hk => by have := HF.out _ hk; omega
                 have hx1 : ¬ F (w.heap.size + 1) := fun hk => by have := HF.out _ hk; omega
                 have X6 := Lib.hid (heap_fr X4.out hf4 hx0)
                 have X7 := Lib.hid (heap_fr X5.out hf4 hx1)
                 have hc := hc.trans (hf4.below hc.size fun k hk => by have := HF.out k hk; omega)
                 obtain ⟨f0, f1, _, _, _⟩ := blk2 X6.out
                 obtain ⟨g0, g1, _, _, _⟩ := blk2 X7.out
                 have Hcm4 := Lib.hid hcm4
                 clear hch hcm4 hF4 hf4 hx0 hx1)
              | (go_at_call 21; refine (SameF_any cuf cug lf lg nf ng af ag kf kg _ NF.out NG.out (by omega) (by omega) (SF.out.below hc) (SG.out.below hc) Hs.out).mono ?_; rintro e w5 ⟨rfl, hb5⟩; have hc := hc.trans (hb5.mono hc.size); have X8 := Lib.hid (heap_below X6.out hb5); obtain ⟨f0, f1, _, _, _⟩ := blk2 X8.out; have Hcm5 := Lib.hid (Hcm4.out.below hb5)))
            have HC5 := Lib.hid (CoreForm (w := w5.drew) (Hcm5.out.below (Below.refl _ _).drew) T2.out KQ.out)
            have eF : FormPost w5.drew (seedR ⟨cug, lg⟩ 99).cur ((seedR ⟨cug, lg⟩ 99).l.map (itOf (seedR ⟨cug, lg⟩ 99).base)) = FormPost w5.drew cug lg := by
              have e2 : (seedR ⟨cug, lg⟩ 99).l.map (itOf (seedR ⟨cug, lg⟩ 99).base) = lg := congrArg Fm.l (form_seed ⟨cug, lg⟩ 99)
              rw [e2]; rfl
            rw [eF] at HC5
            clear eF
            refine wp_region_chain 83 [(0, none), (1, none), (2, none), (3, none), (5, none), (4, some [5]), (6, none), (7, none), (8, none), (9, none), (11, none), (10, some [11]), (12, some []), (13, none), (14, none), (15, none), (16, some []), (17, none), (18, none), (19, none)] (by kernel_rfl) (by kernel_rfl) (by rfl) ?_; simp only [chain, Obs, List.getElem?_toArray, List.getElem?_cons_zero, List.getElem?_cons_succ]
            go_wp2_with (first
              | (with_reducible refine And.intro (by first | with_reducible exact True.intro | with_reducible rfl | go_simp) ?_)
              | (go_at_call 25; refine (CoreTag (w := w5.drew) (Hcm5.out.below (Below.refl _ _).drew)).mono ?_; rintro e w6 ⟨rfl, rfl⟩)
              | (go_at_call 26; refine HC5.out.mono ?_; rintro e w7 ⟨a7, k7, rfl, ho, hb7⟩; have hc := hc.drew.trans (hb7.mono hc.size); have X9 := Lib.hid (heap_below (w := w5.drew) X8.out hb7); obtain ⟨f0, f1, _, _, _⟩ := blk2 X9.out; have Hs7 := Lib.hid (Sl.of_own It.len ho); have Hcm7 := Lib.hid ((Hcm5.out.below (Below.refl w5.heap.size w5).drew).below hb7); rw [NG.out]; clear ho)
              | (go_at_call 21; refine (SameF_any cug cuf lg lf ng nf a7 af k7 kf _ NG.out NF.out (by omega) (by omega) Hs7.out (SF.out.below hc) (decide_eq_true Hfg.out.symm)).mono ?_; rintro e w8 ⟨rfl, hb8⟩; have hc := hc.trans (hb8.mono hc.size); have Hcm8 := Lib.hid (Hcm7.out.below hb8))
              | (go_at_call 27; refine (CoreAge Hcm8.out).mono ?_; rintro e w9 ⟨rfl, rfl⟩))
            refine NoPanic.normal ?_
            go_wp2_with fail
            go_ret
            exact ⟨rfl, hc⟩
          · have hr : decide (formR (seedR ⟨cug, lg⟩ 99) = formR (seedR ⟨cuf, lf⟩ 0)) = false := decide_eq_false (by rw [form_seed, form_seed]; exact fun h => hfg h.symm)
            have hs : decide ((⟨cuf, lf⟩ : Fm) = ⟨cug, lg⟩) = false := decide_eq_false hfg
            have Hr := Lib.hid hr
            have Hs := Lib.hid hs
            have Hfg := Lib.hid hfg
            clear hr hs hfg
            go_enter Try.func5, Try.ntmps5
            go_wp2_with (first
              | (go_at_call 22; refine (awake15 _).mono ?_; rintro e w1 ⟨rfl, hb⟩; obtain ⟨x0, x1, hs1, hc⟩ := heap_two hb; obtain ⟨f0, f1, _, _, _⟩ := blk2 x0; obtain ⟨g0, g1, _, _, _⟩ := blk2 x1; have X0 := Lib.hid x0; have X1 := Lib.hid x1; clear x0 x1)
              | (go_at_call 23; refine (HC.out _ hc).mono ?_; rintro e w2 ⟨c, F, rfl, hcm, hF, hb2⟩; have hc := hc.trans (hb2.mono hc.size); have X2 := Lib.hid (heap_below X0.out hb2); have X3 := Lib.hid (heap_below X1.out hb2); obtain ⟨f0, f1, _, _, _⟩ := blk2 X2.out; obtain ⟨g0, g1, _, _, _⟩ := blk2 X3.out; have Hcm := Lib.hid hcm; have HF := Lib.hid hF; clear hcm hF)
              | (go_at_call 15; refine (HQ.out _ hc).mono ?_; rintro e w3 ⟨p, HH, rfl, hqm, hH, hb3⟩; have hc := hc.trans (hb3.mono hc.size); have X4 := Lib.hid (heap_below X2.out hb3); have X5 := Lib.hid (heap_below X3.out hb3); obtain ⟨f0, f1, _, _, _⟩ := blk2 X4.out; obtain ⟨g0, g1, _, _, _⟩ := blk2 X5.out
                 have Hqm := Lib.hid hqm
                 have Hcm3 := Lib.hid (Hcm.out.below hb3)
                 have Hd := Lib.hid (fun k (hk : HH k) (hk2 : F k) => by have h1 := hH k hk; have h2 := Hcm.out.lt k hk2; omega : ∀ k, HH k → ¬ F k)
                 clear hqm hH)
              | (go_at_call 24; refine (CoreChange Hcm3.out Hqm.out T1.out T2.out KC.out KQ.out Hd.out Hr.out).mono ?_; rintro e w4 ⟨rfl, hch, _⟩
                 have hb4 := hch rfl
                 have X6 := Lib.hid (heap_below X4.out hb4)
                 have X7 := Lib.hid (heap_below X5.out hb4)
                 have hc := hc.trans (hb4.mono hc.size)
                 obtain ⟨f0, f1, _, _, _⟩ := blk2 X6.out
                 obtain ⟨g0, g1, _, _, _⟩ := blk2 X7.out
                 have Hcm4 := Lib.hid (Hcm3.out.below hb4)
                 clear hch hb4)
              | (go_at_call 21; refine (SameF_any cuf cug lf lg nf ng af ag kf kg _ NF.out NG.out (by omega) (by omega) (SF.out.below hc) (SG.out.below hc) Hs.out).mono ?_; rintro e w5 ⟨rfl, hb5⟩; have hc := hc.trans (hb5.mono hc.size); have X8 := Lib.hid (heap_below X6.out hb5); obtain ⟨f0, f1, _, _, _⟩ := blk2 X8.out; have Hcm5 := Lib.hid (Hcm4.out.below hb5)))
            have HC5 := Lib.hid (CoreForm (w := w5.drew) (Hcm5.out.below (Below.refl _ _).drew) T1.out KC.out)
            have eF : FormPost w5.drew (seedR ⟨cuf, lf⟩ 0).cur ((seedR ⟨cuf, lf⟩ 0).l.map (itOf (seedR ⟨cuf, lf⟩ 0).base)) = FormPost w5.drew cuf lf := by
              have e2 : (seedR ⟨cuf, lf⟩ 0).l.map (itOf (seedR ⟨cuf, lf⟩ 0).base) = lf := congrArg Fm.l (form_seed ⟨cuf, lf⟩ 0)
              rw [e2]; rfl
            rw [eF] at HC5
            clear eF
            refine wp_region_chain 83 [(0, none), (1, none), (2, none), (3, none), (5, none), (4, some [5]), (6, none), (7, none), (8, none), (9, none), (11, none), (10, some [11]), (12, some []), (13, none), (14, none)] (by kernel_rfl) (by kernel_rfl) (by rfl) ?_; simp only [chain, Obs, List.getElem?_toArray, List.getElem?_cons_zero, List.getElem?_cons_succ]
            go_wp2_with (first
              | (with_reducible refine And.intro (by first | with_reducible exact True.intro | with_reducible rfl | go_simp) ?_)
              | (go_at_call 25; refine (CoreTag (w := w5.drew) (Hcm5.out.below (Below.refl _ _).drew)).mono ?_; rintro e w6 ⟨rfl, rfl⟩)
              | (go_at_call 26; refine HC5.out.mono ?_; rintro e w7 ⟨a7, k7, rfl, ho, hb7⟩; have hc := hc.drew.trans (hb7.mono hc.size); have X9 := Lib.hid (heap_below (w := w5.drew) X8.out hb7); obtain ⟨f0, f1, _, _, _⟩ := blk2 X9.out; have Hs7 := Lib.hid (Sl.of_own It.len ho); have Hcm7 := Lib.hid ((Hcm5.out.below (Below.refl w5.heap.size w5).drew).below hb7); rw [NF.out]; clear ho)
              | (go_at_call 21; refine (SameF_any cuf cuf lf lf nf nf a7 af k7 kf _ NF.out NF.out (by omega) (by omega) Hs7.out (SF.out.below hc) (decide_eq_true rfl)).mono ?_; rintro e w8 ⟨rfl, hb8⟩; have hc := hc.trans (hb8.mono hc.size); have Hcm8 := Lib.hid (Hcm7.out.below hb8))
              | (go_at_call 27; refine (CoreAge Hcm8.out).mono ?_; rintro e w9 ⟨rfl, rfl⟩))
            refine NoPanic.normal ?_
            go_wp2_with fail
            go_ret
            exact ⟨rfl, hc⟩
        · have HC := Lib.hid (fun W (hW : Below w.heap.size w W) => CoreSeed_ok tag ⟨cuf, lf⟩ nf af kf 0 W NF.out (SF.out.below hW) hC.1 hC.2.1 hC.2.2)
          have HQ := Lib.hid (fun W (hW : Below w.heap.size w W) => PolSeed_err tt ⟨cug, lg⟩ ng ag kg 99 W NG.out (by omega) (SG.out.below hW) hQ)
          clear hC hQ
          go_enter Try.func5, Try.ntmps5
          go_wp2_with (first
            | (go_at_call 22; refine (awake15 _).mono ?_; rintro e w1 ⟨rfl, hb⟩; obtain ⟨x0, x1, hs1, hc⟩ := heap_two hb; obtain ⟨f0, f1, _, _, _⟩ := blk2 x0; obtain ⟨g0, g1, _, _, _⟩ := blk2 x1; have X0 := Lib.hid x0; have X1 := Lib.hid x1; clear x0 x1)
            | (go_at_call 23; refine (HC.out _ hc).mono ?_; rintro e w2 ⟨c, F, rfl, _, _, hb2⟩; have hc := hc.trans (hb2.mono hc.size); obtain ⟨f0, f1, _, _, _⟩ := blk2 (heap_below X0.out hb2); obtain ⟨g0, g1, _, _, _⟩ := blk2 (heap_below X1.out hb2))
            | (go_at_call 15; refine (HQ.out _ hc).mono ?_; rintro e w3 ⟨rfl, hb3⟩; have hc := hc.trans (hb3.mono hc.size)))
          go_ret
          exact ⟨rfl, hc⟩
      · have HC := Lib.hid (fun W (hW : Below w.heap.size w W) => CoreSeed_err tag ⟨cuf, lf⟩ nf af kf 0 W NF.out (by omega) (SF.out.below hW) hC)
        by_cases hQ : TagOk tt ∧ BaseOk 99 ∧ goodF ⟨cug, lg⟩ = true
        · have HQ := Lib.hid (fun W (hW : Below w.heap.size w W) => PolSeed_ok tt ⟨cug, lg⟩ ng ag kg 99 W NG.out (SG.out.below hW) hQ.1 hQ.2.1 hQ.2.2)
          clear hC hQ
          go_enter Try.func5, Try.ntmps5
          go_wp2_with (first
            | (go_at_call 22; refine (awake15 _).mono ?_; rintro e w1 ⟨rfl, hb⟩; obtain ⟨x0, x1, hs1, hc⟩ := heap_two hb; obtain ⟨f0, f1, _, _, _⟩ := blk2 x0; obtain ⟨g0, g1, _, _, _⟩ := blk2 x1; have X0 := Lib.hid x0; have X1 := Lib.hid x1; clear x0 x1)
            | (go_at_call 23; refine (HC.out _ hc).mono ?_; rintro e w2 ⟨rfl, hb2⟩; have hc := hc.trans (hb2.mono hc.size); obtain ⟨f0, f1, _, _, _⟩ := blk2 (heap_below X0.out hb2); obtain ⟨g0, g1, _, _, _⟩ := blk2 (heap_below X1.out hb2))
            | (go_at_call 15; refine (HQ.out _ hc).mono ?_; rintro e w3 ⟨p, F, rfl, _, _, hb3⟩; have hc := hc.trans (hb3.mono hc.size)))
          go_ret
          exact ⟨rfl, hc⟩
        · have HQ := Lib.hid (fun W (hW : Below w.heap.size w W) => PolSeed_err tt ⟨cug, lg⟩ ng ag kg 99 W NG.out (by omega) (SG.out.below hW) hQ)
          clear hC hQ
          go_enter Try.func5, Try.ntmps5
          go_wp2_with (first
            | (go_at_call 22; refine (awake15 _).mono ?_; rintro e w1 ⟨rfl, hb⟩; obtain ⟨x0, x1, hs1, hc⟩ := heap_two hb; obtain ⟨f0, f1, _, _, _⟩ := blk2 x0; obtain ⟨g0, g1, _, _, _⟩ := blk2 x1; have X0 := Lib.hid x0; have X1 := Lib.hid x1; clear x0 x1)
            | (go_at_call 23; refine (HC.out _ hc).mono ?_; rintro e w2 ⟨rfl, hb2⟩; have hc := hc.trans (hb2.mono hc.size); obtain ⟨f0, f1, _, _, _⟩ := blk2 (heap_below X0.out hb2); obtain ⟨g0, g1, _, _, _⟩ := blk2 (heap_below X1.out hb2))
            | (go_at_call 15; refine (HQ.out _ hc).mono ?_; rintro e w3 ⟨rfl, hb3⟩; have hc := hc.trans (hb3.mono hc.size)))
          go_ret
          exact ⟨rfl, hc⟩
end Go.Proofs.Ytmhdebkiepfgiaa
