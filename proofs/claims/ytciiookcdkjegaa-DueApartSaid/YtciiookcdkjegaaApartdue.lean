/- DueApart walked. -/
import Derived.Test.YtciiookcdkjegaaLaw13
import Derived.Test.YtciiookcdkjegaadueM
import Derived.Test.YtciiookcdkjegaaSt
import Derived.Test.YtciiookcdkjegaaK
namespace Go.Proofs.Ytciiookcdkjegaa
open Go.RowKit
set_option linter.unusedVariables false
set_option linter.unusedSimpArgs false

structure ApartI (a d : Int) (i : Nat) (S : Ln) : Prop where
  ok : OkS ((i : Int) * 1125899906842624) S
  okd : OkS ((i : Int) * 1125899906842624) (shS d S)
  hi : Hi (a + ((i : Int) + 1) * 1125899906842624) S
theorem ApartI.mk' {a d : Int} {i : Nat} {S : Ln} {K K' c : Int} (hi : i < 100) (h : OkS K S) (hk : K ≤ (i : Int) * 1125899906842624 + 1125899906842624) (h' : OkS K' (shS d S)) (hk' : K' ≤ (i : Int) * 1125899906842624 + 1125899906842624) (g : Hi c S) (hc : c ≤ a + ((i : Int) + 1) * 1125899906842624 + 1125899906842624) : ApartI a d (i + 1) S :=
  ⟨h.mono (by omega) (by omega), h'.mono (by omega) (by omega), g.mono (by omega)⟩
theorem apartPut {a d : Int} {i : Nat} {S : Ln} (hi : i < 100) (h : ApartI a d i S) (id w lag : Int) : ApartI a d (i + 1) (putR S id w lag) := by
  refine ApartI.mk' hi (h.ok.put id w lag (by omega)) (by omega) (K' := (i : Int) * 1125899906842624 + 1125899906842624) ?_ (Int.le_refl _) ?_ (Int.le_refl _)
  · rw [← putR_sh]; exact h.okd.put id w lag (by omega)
  · by_cases hm : mayE S.l id w lag = 0
    · exact h.hi.put id w lag (.inr hm) h.ok.len
    · unfold putR; rw [if_neg hm]; exact h.hi.mono (by omega)
theorem apartEnter {a d : Int} {i : Nat} {S : Ln} (held : Int → Int) (hi : i < 100) (h : ApartI a d i S) (id w lag : Int) : ApartI a d (i + 1) (enterR held S id w lag) := by
  refine ApartI.mk' hi (h.ok.enter held id w lag (by omega)) (by omega) (K' := (i : Int) * 1125899906842624 + 1125899906842624) ?_ (Int.le_refl _) (h.hi.enter held id w lag h.ok.len) (Int.le_refl _)
  rw [← enterR_sh]; exact h.okd.enter held id w lag (by omega)
theorem apartLeave {a d : Int} {i : Nat} {S : Ln} (hi : i < 100) (h : ApartI a d i S) (id : Int) : ApartI a d (i + 1) (leaveR S id).1 := by
  refine ApartI.mk' hi (h.ok.leave id) (by omega) (K' := (i : Int) * 1125899906842624) ?_ (by omega) (h.hi.leave id) (by omega)
  have := h.okd.leave id
  rwa [leaveR_sh] at this
theorem apartWeigh {a d : Int} {i : Nat} {S : Ln} (hi : i < 100) (h : ApartI a d i S) (id w : Int) : ApartI a d (i + 1) (weighR S id w).1 := by
  refine ApartI.mk' hi (h.ok.weigh id w) (by omega) (K' := (i : Int) * 1125899906842624) ?_ (by omega) (h.hi.weigh id w) (by omega)
  have := h.okd.weigh id w
  rwa [weighR_sh] at this
theorem apartPick_due {a d : Int} {i : Nat} {S : Ln} (hi : i < 100) (h : ApartI a d i S) : ApartI a d (i + 1) (pickdue S).1 := by
  refine ApartI.mk' hi (pickok_due h.ok) (by omega) (K' := (i : Int) * 1125899906842624) ?_ (by omega) (c := a + ((i : Int) + 1) * 1125899906842624) ?_ (by omega)
  · have := pickok_due h.okd
    rwa [picksh_due] at this
  · obtain ⟨c, hc⟩ := pickis_due S
    rw [hc]; exact h.hi.curs c
theorem apartChargeEq {a d : Int} {i : Nat} {S : Ln} (hi : i < 100) (h : ApartI a d i S) (ha : a ≤ 1152921504606846976) (hb : a + d ≤ 1152921504606846976) : chargeR (shS d S) = (shS d (chargeR S).1, (chargeR S).2) :=
  chargeR_sh d _ S h.hi (by omega) (by omega)
theorem apartCharge {a d : Int} {i : Nat} {S : Ln} (hi : i < 100) (h : ApartI a d i S) (ha : a ≤ 1152921504606846976) (hb : a + d ≤ 1152921504606846976) : ApartI a d (i + 1) (chargeR S).1 := by
  refine ApartI.mk' hi h.ok.charge (by omega) (K' := (i : Int) * 1125899906842624) ?_ (by omega) h.hi.charge (by omega)
  have := h.okd.charge
  rwa [apartChargeEq hi h ha hb] at this
theorem apartStart {f : Fm} {a d : Int} (ha : BaseOk a) (hb : BaseOk (a + d)) (hg : goodF f = true) : ApartI a d 0 (seedR f a) := by
  refine ⟨(OkS.seed ha.1 ha.2 hg).mono (by omega) (by omega), ?_, (Hi.seed hg).mono (by omega)⟩
  rw [← seedR_sh]
  exact (OkS.seed hb.1 hb.2 hg).mono (by omega) (by omega)


set_option maxHeartbeats 6400000 in
set_option maxRecDepth 100000 in
theorem DueApart_walk (cu : Int) (l : List It) (n : Nat) (a : Option Addr) (c : Nat) (sa sb : Int) (acts : List Ac) (m : Nat) (aa : Option Addr) (ac : Nat) (w : World) (hn : l.length = n) (hm : n ≤ maxLen) (hs : Sl It.enc 3 w a l) (hsa : I64 sa) (hsb : I64 sb) (hna : acts.length = m) (hma : m ≤ maxLen) (hac : Sl Ac.enc 4 w aa acts) :
    Calls Try.prog 12 #[.agg #[.int .i64 cu, .slice a n c], .int .i64 sa, .int .i64 sb, .slice aa m ac] w fun e w' => e = .returned (.bool true) ∧ Below w.heap.size w w' := by
  have HS := Lib.hid hs
  have Hn := Lib.hid hn
  have HA := Lib.hid hac
  have Hm := Lib.hid hna
  unfold maxLen at hm hma
  clear hs hn hac hna
  by_cases h1 : (64 : Int) < n
  · go_enter Try.func12, Try.ntmps12
    go_wp2_with (go_at_call 38; refine (awake13 _).mono ?_; rintro e w1 ⟨rfl, hb⟩; obtain ⟨g0, g1, y0, y1, gl⟩ := blk2 (heap_below (heap_new w _) hb))
    go_ret
    exact ⟨rfl, ((Below.refl _ _).alloc (Nat.le_refl _) _).trans (hb.mono (by simp))⟩
  · by_cases h2 : (100 : Int) < m
    · go_enter Try.func12, Try.ntmps12
      go_wp2_with (go_at_call 38; refine (awake13 _).mono ?_; rintro e w1 ⟨rfl, hb⟩; obtain ⟨g0, g1, y0, y1, gl⟩ := blk2 (heap_below (heap_new w _) hb))
      go_ret
      exact ⟨rfl, ((Below.refl _ _).alloc (Nat.le_refl _) _).trans (hb.mono (by simp))⟩
    · cases hg : goodF ⟨cu, l⟩ with
      | false =>
        have Hg := Lib.hid hg
        clear hg
        go_enter Try.func12, Try.ntmps12
        go_wp2_with (first
          | (go_at_call 38; refine (awake13 _).mono ?_; rintro e w1 ⟨rfl, hb⟩; have X1 := Lib.hid (heap_below (heap_new w _) hb); obtain ⟨g0, g1, y0, y1, gl⟩ := blk2 X1.out; have hb0 := ((Below.refl w.heap.size w).alloc (Nat.le_refl _) _).trans (hb.mono (by simp)))
          | (go_at_call 35; refine (GoodF_any cu l n a c _ Hn.out (by omega) (HS.out.below hb0) Hg.out).mono ?_; rintro e w2 ⟨rfl, hb2⟩; have X2 := Lib.hid (heap_below X1.out hb2); obtain ⟨g0, g1, y0, y1, gl⟩ := blk2 X2.out; have hb0 := hb0.trans (hb2.mono hb0.size))
          )
        go_ret
        exact ⟨rfl, hb0⟩
      | true =>
        have Hg := Lib.hid hg
        clear hg
        by_cases ha : BaseOk sa
        · have HE1 := Lib.hid (fun W (hW : Below w.heap.size w W) => Seed_ok_due ⟨cu, l⟩ n a c sa W Hn.out (HS.out.below hW) ha Hg.out)
          by_cases hb : BaseOk sb
          · have HE2 := Lib.hid (fun W (hW : Below w.heap.size w W) => Seed_ok_due ⟨cu, l⟩ n a c sb W Hn.out (HS.out.below hW) hb Hg.out)
            obtain ⟨d, hd⟩ : ∃ d, sa + d = sb := ⟨sb - sa, by omega⟩
            have ha2 : sa ≤ 1152921504606846976 := ha.2
            have hb2 : sa + d ≤ 1152921504606846976 := by rw [hd]; exact hb.2
            have hI := apartStart ha (by rw [hd]; exact hb) Hg.out
            have hsh := seedR_sh d sa ⟨cu, l⟩
            rw [hd] at hsh
            rw [hsh] at HE2
            have HI := Lib.hid hI
            have Ha2 := Lib.hid ha2
            have Hb2 := Lib.hid hb2
            clear ha hb hd hI hsh ha2 hb2
            go_enter Try.func12, Try.ntmps12
            go_wp2_with (first
              | (go_at_call 38; refine (awake13 _).mono ?_; rintro e w1 ⟨rfl, hb⟩; have X1 := Lib.hid (heap_below (heap_new w _) hb); obtain ⟨g0, g1, y0, y1, gl⟩ := blk2 X1.out; have hb0 := ((Below.refl w.heap.size w).alloc (Nat.le_refl _) _).trans (hb.mono (by simp)))
              | (go_at_call 35; refine (GoodF_any cu l n a c _ Hn.out (by omega) (HS.out.below hb0) Hg.out).mono ?_; rintro e w2 ⟨rfl, hb2⟩; have X2 := Lib.hid (heap_below X1.out hb2); obtain ⟨g0, g1, y0, y1, gl⟩ := blk2 X2.out; have hb0 := hb0.trans (hb2.mono hb0.size))
              | (go_at_call 45; (with_reducible refine (HE1.out _ hb0).mono ?_); clear HE1; go_loud (rintro e w3 hnp); obtain ⟨b1, F, rfl, hp, hFn, hb3⟩ := hnp.st hb0; have Hp := Lib.hid hp; have HFn := Lib.hid hFn; have X3 := Lib.hid (heap_below X2.out hb3); obtain ⟨g0, g1, y0, y1, gl⟩ := blk2 X3.out; have hb0 := hb0.trans (hb3.mono hb0.size); clear hp hnp hFn)
              | (go_at_call 45; (with_reducible refine (HE2.out _ hb0).mono ?_); clear HE2; go_loud (rintro e w4 hnp); obtain ⟨b2, G, rfl, hq, hGn, hb4⟩ := hnp.st hb0; have Hq := Lib.hid hq; have Hp2 := Lib.hid (Hp.out.below hb4); have Hd := Lib.hid (fun k (h1 : F k) (h2 : G k) => by have h3 := hGn k h2; have h4 := Hp.out.lt k h1; omega : ∀ k, F k → ¬ G k); clear hq hnp hGn))
            go_loopw [13] (fun ix wr => ∃ (i : Nat) (F G : Nat → Prop) (S : Ln), i ≤ m ∧ ix = .int .i64 i ∧ QSt w wr F b1 S ∧ QSt w wr G b2 (shS d S) ∧ (∀ k, F k → ¬ G k) ∧ ApartI sa d i S) (fun ix _ => m - (intOf ix).toNat)
            case atStart => exact ⟨0, F, G, _, Nat.zero_le _, rfl, Hp2.out, Hq.out, Hd.out, HI.out⟩
            case round =>
              clear HI Hd Hp2 Hp Hq X1 X2 X3
              obtain ⟨i, F, G, S, hi, rfl, hp, hq, hd, hI⟩ := hrel
              by_cases hlt : i < m
              · obtain ⟨r, off, rfl, hr, hcc⟩ := HA.out (by intro h; have h1 := Hm.out; rw [h] at h1; simp at h1; omega)
                obtain ⟨x, hx⟩ : ∃ y, acts[i]? = some y := ⟨_, List.getElem?_eq_getElem (by rw [Hm.out]; exact hlt)⟩
                have e0 := (hq.old.cell (p := ⟨r, off + i * 4 + 0, none⟩) hr).trans (hcc i x hx 0 _ rfl)
                have e1 := (hq.old.cell (p := ⟨r, off + i * 4 + 1, none⟩) hr).trans (hcc i x hx 1 _ rfl)
                have e2 := (hq.old.cell (p := ⟨r, off + i * 4 + 2, none⟩) hr).trans (hcc i x hx 2 _ rfl)
                have e3 := (hq.old.cell (p := ⟨r, off + i * 4 + 3, none⟩) hr).trans (hcc i x hx 3 _ rfl)
                simp only [Nat.add_zero] at e0
                have hki : (i : Int) < m := by omega
                have hi100 : i < 100 := by omega
                have HI := Lib.hid hI
                have Hp0 := Lib.hid (hp.below ((Below.refl _ _).alloc (Nat.le_refl _) (.cells #[.int .i64 x.op, .int .i64 x.id, .int .i64 x.w, .int .i64 x.lag] 75)))
                have Hq0 := Lib.hid (hq.below ((Below.refl _ _).alloc (Nat.le_refl _) (.cells #[.int .i64 x.op, .int .i64 x.id, .int .i64 x.w, .int .i64 x.lag] 75)))
                have Hlt := Lib.hid hp.lt
                have HX0 := Lib.hid (heap_new wr (.cells #[.int .i64 x.op, .int .i64 x.id, .int .i64 x.w, .int .i64 x.lag] 75))
                have Hd := Lib.hid hd
                have hK : (i : Int) * 1125899906842624 ≤ 1151795604700004352 := by omega
                clear hcc hx hp hq hd hI
                have hcase : x.op = 0 ∨ (x.op ≠ 0 ∧ x.op = 1) ∨ (x.op ≠ 0 ∧ x.op ≠ 1 ∧ x.op = 2) ∨ (x.op ≠ 0 ∧ x.op ≠ 1 ∧ x.op ≠ 2 ∧ x.op = 3) ∨ (x.op ≠ 0 ∧ x.op ≠ 1 ∧ x.op ≠ 2 ∧ x.op ≠ 3 ∧ x.op = 4) ∨ (x.op ≠ 0 ∧ x.op ≠ 1 ∧ x.op ≠ 2 ∧ x.op ≠ 3 ∧ x.op ≠ 4) := by omega
                rcases hcase with o1 | ⟨o1, o2⟩ | ⟨o1, o2, o3⟩ | ⟨o1, o2, o3, o4⟩ | ⟨o1, o2, o3, o4, o5⟩ | ⟨o1, o2, o3, o4, o5⟩
                · have b0 : (x.op == 0) = true := by simpa using o1
                  have Hp := Lib.hid (Hp0.out.below (Below.refl _ _).drew)
                  have Hq := Lib.hid (Hq0.out.below (Below.refl _ _).drew)
                  have HX := Lib.hid (heap_drew HX0.out)
                  have hI2 := apartEnter helddue hi100 HI.out x.id x.w x.lag
                  obtain ⟨v, hv⟩ : ∃ v, mayE S.l x.id x.w x.lag = v := ⟨_, rfl⟩
                  have hv2 : mayE (shS d S).l x.id x.w x.lag = v := (mayE_sh d S.l _ _ _).trans hv
                  have HE1 := Lib.hid (callsNext Hp.out (Enter_due Hp.out.q HI.out.ok hK x.id x.w x.lag hv))
                  have HE2 := Lib.hid (fun W G (hW : QSt w W G b2 (shS d S)) => callsNext hW (Enter_due hW.q HI.out.okd hK x.id x.w x.lag hv2))
                  rw [enterR_sh] at HE2
                  generalize enterR helddue S x.id x.w x.lag = S2 at hI2 HE1 HE2
                  have HI2 := Lib.hid hI2
                  clear hv hv2 hI2 o1
                  -- both calls: first p's, then q's
                  go_wp2_with fail
                  refine wp_region_chain 194 [0, 0, 2, 0, 8, 0, 32, 127, 0, 0, 512, 0, 2048, 0, 8192, 32767, 65535] [(0, none), (1, none), (2, none), (3, none), (4, none), (5, none), (6, none), (8, none), (9, none), (10, none), (11, none), (12, none), (13, none), (14, none), (7, some [8, 9, 10, 11, 12, 13, 14]), (15, some []), (16, none)] (by kernel_rfl) (by kernel_rfl) (by rfl) ?_; simp only [chain, Obs, List.getElem?_toArray, List.getElem?_cons_zero, List.getElem?_cons_succ]
                  go_wp2_with (first
                    | (with_reducible refine And.intro (by first | with_reducible exact True.intro | with_reducible rfl | go_simp) ?_)
                    | (go_at_call 40; (with_reducible refine HE1.out.mono ?_)
                       rintro e w4 ⟨rfl, F4, hp4, hf4, hs4⟩
                       have hxx := heap_fr HX.out hf4 (fun h => by have := Hlt.out _ h; omega)
                       obtain ⟨x0, x1, x2, x3, z0, z1, z2, z3, xl⟩ := blk4 hxx
                       have Hxx := Lib.hid hxx
                       have Hp4 := Lib.hid hp4
                       have Hq4 := Lib.hid (Hq.out.fr hf4 (fun k h1 h2 => Hd.out k h2 h1) Hp.out.new)
                       have Hd4 := Lib.hid (fun k (h1 : F4 k) (h2 : G k) => (hs4 k h1).elim (fun h => Hd.out k h h2) (fun h => by have := Hq.out.lt k h2; omega) : ∀ k, F4 k → ¬ G k)
                       clear hp4 hf4 hs4 hxx)
                    | (go_at_call 40; (with_reducible refine (HE2.out _ _ Hq4.out).mono ?_)
                       rintro e w5 ⟨rfl, G5, hq5, hf5, hs5⟩
                       have Hq5 := Lib.hid hq5
                       have Hp5 := Lib.hid (Hp4.out.fr hf5 Hd4.out Hq4.out.new)
                       have Hd5 := Lib.hid (fun k (h1 : F4 k) (h2 : G5 k) => (hs5 k h2).elim (fun h => Hd4.out k h1 h) (fun h => by have := Hp4.out.lt k h1; omega) : ∀ k, F4 k → ¬ G5 k)
                       clear hq5 hf5 hs5))
                  refine NoPanic.normal ?_
                  have HF1 := Lib.hid (Form_due Hp5.out.q HI2.out.ok)
                  have HF2 := Lib.hid (fun W G (hW : QSt w W G b2 (shS d S2)) => Form_due hW.q HI2.out.okd)
                  have hmap : (shS d S2).l.map (itOf (shS d S2).base) = S2.l.map (itOf S2.base) := congrArg Fm.l (formR_sh d S2)
                  have hcur : (shS d S2).cur = S2.cur := rfl
                  rw [hmap, hcur] at HF2
                  clear hmap hcur
                  go_wp2_with (first
                    | (go_at_call 43; (with_reducible refine HF1.out.mono ?_); rintro e w6 ⟨a6, c6, rfl, ho, hb6⟩; have Hs6 := Lib.hid (Sl.of_own It.len ho); rw [List.length_map]; have Hq6 := Lib.hid (Hq5.out.below hb6); have Hp6 := Lib.hid (Hp5.out.below hb6); clear ho hb6)
                    | (go_at_call 43; (with_reducible refine (HF2.out _ _ Hq6.out).mono ?_); rintro e w7 ⟨a7, c7, rfl, ho, hb7⟩; have Hs7 := Lib.hid (Sl.of_own It.len ho); have Hs67 := Lib.hid (Hs6.out.below hb7); rw [List.length_map]; have Hq7 := Lib.hid (Hq6.out.below hb7); have Hp7 := Lib.hid (Hp6.out.below hb7); clear ho hb7)
                    | (go_at_call 19; refine (SameF_any S2.cur S2.cur (S2.l.map (itOf S2.base)) (S2.l.map (itOf S2.base)) S2.l.length S2.l.length a6 a7 c6 c7 _ (List.length_map _) (List.length_map _) (by have := HI2.out.ok.len; omega) (by have := HI2.out.ok.len; omega) Hs67.out Hs7.out (decide_eq_true rfl)).mono ?_; rintro e w8 ⟨rfl, hb8⟩; have Hq8 := Lib.hid (Hq7.out.below hb8); have Hp8 := Lib.hid (Hp7.out.below hb8); clear hb8))
                  go_roundw
                  case rel => exact ⟨i + 1, F4, G5, S2, hlt, by go_num, Hp8.out, Hq8.out, Hd5.out, HI2.out⟩
                  case measure => simp [intOf]; omega
                · have b0 : (x.op == 0) = false := by simpa using o1
                  have b1' : (x.op == 1) = true := by simpa using o2
                  have Hp := Lib.hid (Hp0.out.below (Below.refl _ _).drew)
                  have Hq := Lib.hid (Hq0.out.below (Below.refl _ _).drew)
                  have HX := Lib.hid (heap_drew HX0.out)
                  have hI2 := apartPut hi100 HI.out x.id x.w x.lag
                  obtain ⟨v, hv⟩ : ∃ v, mayE S.l x.id x.w x.lag = v := ⟨_, rfl⟩
                  have hv2 : mayE (shS d S).l x.id x.w x.lag = v := (mayE_sh d S.l _ _ _).trans hv
                  have HE1 := Lib.hid (callsNext Hp.out (Put_due Hp.out.q HI.out.ok hK x.id x.w x.lag hv))
                  have HE2 := Lib.hid (fun W G (hW : QSt w W G b2 (shS d S)) => callsNext hW (Put_due hW.q HI.out.okd hK x.id x.w x.lag hv2))
                  rw [putR_sh] at HE2
                  generalize putR S x.id x.w x.lag = S2 at hI2 HE1 HE2
                  have HI2 := Lib.hid hI2
                  clear hv hv2 hI2 o1 o2
                  -- both calls: first p's, then q's
                  go_wp2_with fail
                  refine wp_region_chain 194 [0, 0, 2, 0, 8, 0, 32, 127, 0, 0, 512, 0, 2048, 0, 8192, 32767, 65535] [(0, none), (1, none), (2, none), (3, none), (4, none), (5, none), (6, none), (8, none), (9, none), (10, none), (11, none), (12, none), (13, none), (14, none), (7, some [8, 9, 10, 11, 12, 13, 14]), (15, some []), (16, none)] (by kernel_rfl) (by kernel_rfl) (by rfl) ?_; simp only [chain, Obs, List.getElem?_toArray, List.getElem?_cons_zero, List.getElem?_cons_succ]
                  go_wp2_with (first
                    | (with_reducible refine And.intro (by first | with_reducible exact True.intro | with_reducible rfl | go_simp) ?_)
                    | (go_at_call 49; (with_reducible refine HE1.out.mono ?_)
                       rintro e w4 ⟨rfl, F4, hp4, hf4, hs4⟩
                       have hxx := heap_fr HX.out hf4 (fun h => by have := Hlt.out _ h; omega)
                       obtain ⟨x0, x1, x2, x3, z0, z1, z2, z3, xl⟩ := blk4 hxx
                       have Hxx := Lib.hid hxx
                       have Hp4 := Lib.hid hp4
                       have Hq4 := Lib.hid (Hq.out.fr hf4 (fun k h1 h2 => Hd.out k h2 h1) Hp.out.new)
                       have Hd4 := Lib.hid (fun k (h1 : F4 k) (h2 : G k) => (hs4 k h1).elim (fun h => Hd.out k h h2) (fun h => by have := Hq.out.lt k h2; omega) : ∀ k, F4 k → ¬ G k)
                       clear hp4 hf4 hs4 hxx)
                    | (go_at_call 49; (with_reducible refine (HE2.out _ _ Hq4.out).mono ?_)
                       rintro e w5 ⟨rfl, G5, hq5, hf5, hs5⟩
                       have Hq5 := Lib.hid hq5
                       have Hp5 := Lib.hid (Hp4.out.fr hf5 Hd4.out Hq4.out.new)
                       have Hd5 := Lib.hid (fun k (h1 : F4 k) (h2 : G5 k) => (hs5 k h2).elim (fun h => Hd4.out k h1 h) (fun h => by have := Hp4.out.lt k h1; omega) : ∀ k, F4 k → ¬ G5 k)
                       clear hq5 hf5 hs5))
                  refine NoPanic.normal ?_
                  have HF1 := Lib.hid (Form_due Hp5.out.q HI2.out.ok)
                  have HF2 := Lib.hid (fun W G (hW : QSt w W G b2 (shS d S2)) => Form_due hW.q HI2.out.okd)
                  have hmap : (shS d S2).l.map (itOf (shS d S2).base) = S2.l.map (itOf S2.base) := congrArg Fm.l (formR_sh d S2)
                  have hcur : (shS d S2).cur = S2.cur := rfl
                  rw [hmap, hcur] at HF2
                  clear hmap hcur
                  go_wp2_with (first
                    | (go_at_call 43; (with_reducible refine HF1.out.mono ?_); rintro e w6 ⟨a6, c6, rfl, ho, hb6⟩; have Hs6 := Lib.hid (Sl.of_own It.len ho); rw [List.length_map]; have Hq6 := Lib.hid (Hq5.out.below hb6); have Hp6 := Lib.hid (Hp5.out.below hb6); clear ho hb6)
                    | (go_at_call 43; (with_reducible refine (HF2.out _ _ Hq6.out).mono ?_); rintro e w7 ⟨a7, c7, rfl, ho, hb7⟩; have Hs7 := Lib.hid (Sl.of_own It.len ho); have Hs67 := Lib.hid (Hs6.out.below hb7); rw [List.length_map]; have Hq7 := Lib.hid (Hq6.out.below hb7); have Hp7 := Lib.hid (Hp6.out.below hb7); clear ho hb7)
                    | (go_at_call 19; refine (SameF_any S2.cur S2.cur (S2.l.map (itOf S2.base)) (S2.l.map (itOf S2.base)) S2.l.length S2.l.length a6 a7 c6 c7 _ (List.length_map _) (List.length_map _) (by have := HI2.out.ok.len; omega) (by have := HI2.out.ok.len; omega) Hs67.out Hs7.out (decide_eq_true rfl)).mono ?_; rintro e w8 ⟨rfl, hb8⟩; have Hq8 := Lib.hid (Hq7.out.below hb8); have Hp8 := Lib.hid (Hp7.out.below hb8); clear hb8))
                  go_roundw
                  case rel => exact ⟨i + 1, F4, G5, S2, hlt, by go_num, Hp8.out, Hq8.out, Hd5.out, HI2.out⟩
                  case measure => simp [intOf]; omega
                · have b0 : (x.op == 0) = false := by simpa using o1
                  have b1' : (x.op == 1) = false := by simpa using o2
                  have b2' : (x.op == 2) = true := by simpa using o3
                  have Hp := Hp0
                  have Hq := Hq0
                  have HX := HX0
                  have hI2 := apartLeave hi100 HI.out x.id
                  obtain ⟨S2, v, f, hv⟩ : ∃ S2 v f, leaveR S x.id = (S2, v, f) := ⟨_, _, _, rfl⟩
                  have hv2 : leaveR (shS d S) x.id = (shS d S2, v, f) := by rw [leaveR_sh, hv]
                  have HE1 := Lib.hid (callsNext Hp.out (Leave_due Hp.out.q HI.out.ok x.id hv))
                  have HE2 := Lib.hid (fun W G (hW : QSt w W G b2 (shS d S)) => callsNext hW (Leave_due hW.q HI.out.okd x.id hv2))
                  rw [hv] at hI2
                  have HI2 := Lib.hid hI2
                  clear hv hv2 hI2 o1 o2 o3
                  -- both calls: first p's, then q's
                  go_wp2_with fail
                  skip
                  go_wp2_with (first
                    | (with_reducible refine And.intro (by first | with_reducible exact True.intro | with_reducible rfl | go_simp) ?_)
                    | (go_at_call 47; (with_reducible refine HE1.out.mono ?_)
                       rintro e w4 ⟨rfl, F4, hp4, hf4, hs4⟩
                       have hxx := heap_fr HX.out hf4 (fun h => by have := Hlt.out _ h; omega)
                       obtain ⟨x0, x1, x2, x3, z0, z1, z2, z3, xl⟩ := blk4 hxx
                       have Hxx := Lib.hid hxx
                       have Hp4 := Lib.hid hp4
                       have Hq4 := Lib.hid (Hq.out.fr hf4 (fun k h1 h2 => Hd.out k h2 h1) Hp.out.new)
                       have Hd4 := Lib.hid (fun k (h1 : F4 k) (h2 : G k) => (hs4 k h1).elim (fun h => Hd.out k h h2) (fun h => by have := Hq.out.lt k h2; omega) : ∀ k, F4 k → ¬ G k)
                       clear hp4 hf4 hs4 hxx)
                    | (go_at_call 47; (with_reducible refine (HE2.out _ _ Hq4.out).mono ?_)
                       rintro e w5 ⟨rfl, G5, hq5, hf5, hs5⟩
                       have Hq5 := Lib.hid hq5
                       have Hp5 := Lib.hid (Hp4.out.fr hf5 Hd4.out Hq4.out.new)
                       have Hd5 := Lib.hid (fun k (h1 : F4 k) (h2 : G5 k) => (hs5 k h2).elim (fun h => Hd4.out k h1 h) (fun h => by have := Hp4.out.lt k h1; omega) : ∀ k, F4 k → ¬ G5 k)
                       clear hq5 hf5 hs5))
                  skip
                  have HF1 := Lib.hid (Form_due Hp5.out.q HI2.out.ok)
                  have HF2 := Lib.hid (fun W G (hW : QSt w W G b2 (shS d S2)) => Form_due hW.q HI2.out.okd)
                  have hmap : (shS d S2).l.map (itOf (shS d S2).base) = S2.l.map (itOf S2.base) := congrArg Fm.l (formR_sh d S2)
                  have hcur : (shS d S2).cur = S2.cur := rfl
                  rw [hmap, hcur] at HF2
                  clear hmap hcur
                  go_wp2_with (first
                    | (go_at_call 43; (with_reducible refine HF1.out.mono ?_); rintro e w6 ⟨a6, c6, rfl, ho, hb6⟩; have Hs6 := Lib.hid (Sl.of_own It.len ho); rw [List.length_map]; have Hq6 := Lib.hid (Hq5.out.below hb6); have Hp6 := Lib.hid (Hp5.out.below hb6); clear ho hb6)
                    | (go_at_call 43; (with_reducible refine (HF2.out _ _ Hq6.out).mono ?_); rintro e w7 ⟨a7, c7, rfl, ho, hb7⟩; have Hs7 := Lib.hid (Sl.of_own It.len ho); have Hs67 := Lib.hid (Hs6.out.below hb7); rw [List.length_map]; have Hq7 := Lib.hid (Hq6.out.below hb7); have Hp7 := Lib.hid (Hp6.out.below hb7); clear ho hb7)
                    | (go_at_call 19; refine (SameF_any S2.cur S2.cur (S2.l.map (itOf S2.base)) (S2.l.map (itOf S2.base)) S2.l.length S2.l.length a6 a7 c6 c7 _ (List.length_map _) (List.length_map _) (by have := HI2.out.ok.len; omega) (by have := HI2.out.ok.len; omega) Hs67.out Hs7.out (decide_eq_true rfl)).mono ?_; rintro e w8 ⟨rfl, hb8⟩; have Hq8 := Lib.hid (Hq7.out.below hb8); have Hp8 := Lib.hid (Hp7.out.below hb8); clear hb8))
                  go_roundw
                  case rel => exact ⟨i + 1, F4, G5, S2, hlt, by go_num, Hp8.out, Hq8.out, Hd5.out, HI2.out⟩
                  case measure => simp [intOf]; omega
                · have b0 : (x.op == 0) = false := by simpa using o1
                  have b1' : (x.op == 1) = false := by simpa using o2
                  have b2' : (x.op == 2) = false := by simpa using o3
                  have b3' : (x.op == 3) = true := by simpa using o4
                  have Hp := Lib.hid (Hp0.out.below (Below.refl _ _).drew)
                  have Hq := Lib.hid (Hq0.out.below (Below.refl _ _).drew)
                  have HX := Lib.hid (heap_drew HX0.out)
                  have hI2 := apartWeigh hi100 HI.out x.id x.w
                  obtain ⟨S2, v, hv⟩ : ∃ S2 v, weighR S x.id x.w = (S2, v) := ⟨_, _, rfl⟩
                  have hv2 : weighR (shS d S) x.id x.w = (shS d S2, v) := by rw [weighR_sh, hv]
                  have HE1 := Lib.hid (callsNext Hp.out (Weigh_due Hp.out.q HI.out.ok x.id x.w hv))
                  have HE2 := Lib.hid (fun W G (hW : QSt w W G b2 (shS d S)) => callsNext hW (Weigh_due hW.q HI.out.okd x.id x.w hv2))
                  rw [hv] at hI2
                  have HI2 := Lib.hid hI2
                  clear hv hv2 hI2 o1 o2 o3 o4
                  -- both calls: first p's, then q's
                  go_wp2_with fail
                  refine wp_region_chain 194 [0, 0, 2, 0, 8, 31, 0, 0, 128, 0, 512, 2047, 4095] [(0, none), (1, none), (2, none), (3, none), (4, none), (6, none), (7, none), (8, none), (9, none), (10, none), (5, some [6, 7, 8, 9, 10]), (11, some []), (12, none)] (by kernel_rfl) (by kernel_rfl) (by rfl) ?_; simp only [chain, Obs, List.getElem?_toArray, List.getElem?_cons_zero, List.getElem?_cons_succ]
                  go_wp2_with (first
                    | (with_reducible refine And.intro (by first | with_reducible exact True.intro | with_reducible rfl | go_simp) ?_)
                    | (go_at_call 48; (with_reducible refine HE1.out.mono ?_)
                       rintro e w4 ⟨rfl, F4, hp4, hf4, hs4⟩
                       have hxx := heap_fr HX.out hf4 (fun h => by have := Hlt.out _ h; omega)
                       obtain ⟨x0, x1, x2, x3, z0, z1, z2, z3, xl⟩ := blk4 hxx
                       have Hxx := Lib.hid hxx
                       have Hp4 := Lib.hid hp4
                       have Hq4 := Lib.hid (Hq.out.fr hf4 (fun k h1 h2 => Hd.out k h2 h1) Hp.out.new)
                       have Hd4 := Lib.hid (fun k (h1 : F4 k) (h2 : G k) => (hs4 k h1).elim (fun h => Hd.out k h h2) (fun h => by have := Hq.out.lt k h2; omega) : ∀ k, F4 k → ¬ G k)
                       clear hp4 hf4 hs4 hxx)
                    | (go_at_call 48; (with_reducible refine (HE2.out _ _ Hq4.out).mono ?_)
                       rintro e w5 ⟨rfl, G5, hq5, hf5, hs5⟩
                       have Hq5 := Lib.hid hq5
                       have Hp5 := Lib.hid (Hp4.out.fr hf5 Hd4.out Hq4.out.new)
                       have Hd5 := Lib.hid (fun k (h1 : F4 k) (h2 : G5 k) => (hs5 k h2).elim (fun h => Hd4.out k h1 h) (fun h => by have := Hp4.out.lt k h1; omega) : ∀ k, F4 k → ¬ G5 k)
                       clear hq5 hf5 hs5))
                  refine NoPanic.normal ?_
                  have HF1 := Lib.hid (Form_due Hp5.out.q HI2.out.ok)
                  have HF2 := Lib.hid (fun W G (hW : QSt w W G b2 (shS d S2)) => Form_due hW.q HI2.out.okd)
                  have hmap : (shS d S2).l.map (itOf (shS d S2).base) = S2.l.map (itOf S2.base) := congrArg Fm.l (formR_sh d S2)
                  have hcur : (shS d S2).cur = S2.cur := rfl
                  rw [hmap, hcur] at HF2
                  clear hmap hcur
                  go_wp2_with (first
                    | (go_at_call 43; (with_reducible refine HF1.out.mono ?_); rintro e w6 ⟨a6, c6, rfl, ho, hb6⟩; have Hs6 := Lib.hid (Sl.of_own It.len ho); rw [List.length_map]; have Hq6 := Lib.hid (Hq5.out.below hb6); have Hp6 := Lib.hid (Hp5.out.below hb6); clear ho hb6)
                    | (go_at_call 43; (with_reducible refine (HF2.out _ _ Hq6.out).mono ?_); rintro e w7 ⟨a7, c7, rfl, ho, hb7⟩; have Hs7 := Lib.hid (Sl.of_own It.len ho); have Hs67 := Lib.hid (Hs6.out.below hb7); rw [List.length_map]; have Hq7 := Lib.hid (Hq6.out.below hb7); have Hp7 := Lib.hid (Hp6.out.below hb7); clear ho hb7)
                    | (go_at_call 19; refine (SameF_any S2.cur S2.cur (S2.l.map (itOf S2.base)) (S2.l.map (itOf S2.base)) S2.l.length S2.l.length a6 a7 c6 c7 _ (List.length_map _) (List.length_map _) (by have := HI2.out.ok.len; omega) (by have := HI2.out.ok.len; omega) Hs67.out Hs7.out (decide_eq_true rfl)).mono ?_; rintro e w8 ⟨rfl, hb8⟩; have Hq8 := Lib.hid (Hq7.out.below hb8); have Hp8 := Lib.hid (Hp7.out.below hb8); clear hb8))
                  go_roundw
                  case rel => exact ⟨i + 1, F4, G5, S2, hlt, by go_num, Hp8.out, Hq8.out, Hd5.out, HI2.out⟩
                  case measure => simp [intOf]; omega
                · have b0 : (x.op == 0) = false := by simpa using o1
                  have b1' : (x.op == 1) = false := by simpa using o2
                  have b2' : (x.op == 2) = false := by simpa using o3
                  have b3' : (x.op == 3) = false := by simpa using o4
                  have b4' : (x.op == 4) = true := by simpa using o5
                  have Hp := Hp0
                  have Hq := Hq0
                  have HX := HX0
                  have hI2 := apartPick_due hi100 HI.out
                  obtain ⟨S2, v, f, hv⟩ : ∃ S2 v f, pickdue S = (S2, v, f) := ⟨_, _, _, rfl⟩
                  have hv2 : pickdue (shS d S) = (shS d S2, v, f) := by rw [picksh_due, hv]
                  have HE1 := Lib.hid (callsNext Hp.out (Pick_due Hp.out.q HI.out.ok hv))
                  have HE2 := Lib.hid (fun W G (hW : QSt w W G b2 (shS d S)) => callsNext hW (Pick_due hW.q HI.out.okd hv2))
                  rw [hv] at hI2
                  have HI2 := Lib.hid hI2
                  clear hv hv2 hI2 o1 o2 o3 o4 o5
                  -- both calls: first p's, then q's
                  go_wp2_with fail
                  skip
                  go_wp2_with (first
                    | (with_reducible refine And.intro (by first | with_reducible exact True.intro | with_reducible rfl | go_simp) ?_)
                    | (go_at_call 41; (with_reducible refine HE1.out.mono ?_)
                       rintro e w4 ⟨rfl, F4, hp4, hf4, hs4⟩
                       have hxx := heap_fr HX.out hf4 (fun h => by have := Hlt.out _ h; omega)
                       obtain ⟨x0, x1, x2, x3, z0, z1, z2, z3, xl⟩ := blk4 hxx
                       have Hxx := Lib.hid hxx
                       have Hp4 := Lib.hid hp4
                       have Hq4 := Lib.hid (Hq.out.fr hf4 (fun k h1 h2 => Hd.out k h2 h1) Hp.out.new)
                       have Hd4 := Lib.hid (fun k (h1 : F4 k) (h2 : G k) => (hs4 k h1).elim (fun h => Hd.out k h h2) (fun h => by have := Hq.out.lt k h2; omega) : ∀ k, F4 k → ¬ G k)
                       clear hp4 hf4 hs4 hxx)
                    | (go_at_call 41; (with_reducible refine (HE2.out _ _ Hq4.out).mono ?_)
                       rintro e w5 ⟨rfl, G5, hq5, hf5, hs5⟩
                       have Hq5 := Lib.hid hq5
                       have Hp5 := Lib.hid (Hp4.out.fr hf5 Hd4.out Hq4.out.new)
                       have Hd5 := Lib.hid (fun k (h1 : F4 k) (h2 : G5 k) => (hs5 k h2).elim (fun h => Hd4.out k h1 h) (fun h => by have := Hp4.out.lt k h1; omega) : ∀ k, F4 k → ¬ G5 k)
                       clear hq5 hf5 hs5))
                  skip
                  have HF1 := Lib.hid (Form_due Hp5.out.q HI2.out.ok)
                  have HF2 := Lib.hid (fun W G (hW : QSt w W G b2 (shS d S2)) => Form_due hW.q HI2.out.okd)
                  have hmap : (shS d S2).l.map (itOf (shS d S2).base) = S2.l.map (itOf S2.base) := congrArg Fm.l (formR_sh d S2)
                  have hcur : (shS d S2).cur = S2.cur := rfl
                  rw [hmap, hcur] at HF2
                  clear hmap hcur
                  go_wp2_with (first
                    | (go_at_call 43; (with_reducible refine HF1.out.mono ?_); rintro e w6 ⟨a6, c6, rfl, ho, hb6⟩; have Hs6 := Lib.hid (Sl.of_own It.len ho); rw [List.length_map]; have Hq6 := Lib.hid (Hq5.out.below hb6); have Hp6 := Lib.hid (Hp5.out.below hb6); clear ho hb6)
                    | (go_at_call 43; (with_reducible refine (HF2.out _ _ Hq6.out).mono ?_); rintro e w7 ⟨a7, c7, rfl, ho, hb7⟩; have Hs7 := Lib.hid (Sl.of_own It.len ho); have Hs67 := Lib.hid (Hs6.out.below hb7); rw [List.length_map]; have Hq7 := Lib.hid (Hq6.out.below hb7); have Hp7 := Lib.hid (Hp6.out.below hb7); clear ho hb7)
                    | (go_at_call 19; refine (SameF_any S2.cur S2.cur (S2.l.map (itOf S2.base)) (S2.l.map (itOf S2.base)) S2.l.length S2.l.length a6 a7 c6 c7 _ (List.length_map _) (List.length_map _) (by have := HI2.out.ok.len; omega) (by have := HI2.out.ok.len; omega) Hs67.out Hs7.out (decide_eq_true rfl)).mono ?_; rintro e w8 ⟨rfl, hb8⟩; have Hq8 := Lib.hid (Hq7.out.below hb8); have Hp8 := Lib.hid (Hp7.out.below hb8); clear hb8))
                  go_roundw
                  case rel => exact ⟨i + 1, F4, G5, S2, hlt, by go_num, Hp8.out, Hq8.out, Hd5.out, HI2.out⟩
                  case measure => simp [intOf]; omega
                · have b0 : (x.op == 0) = false := by simpa using o1
                  have b1' : (x.op == 1) = false := by simpa using o2
                  have b2' : (x.op == 2) = false := by simpa using o3
                  have b3' : (x.op == 3) = false := by simpa using o4
                  have b4' : (x.op == 4) = false := by simpa using o5
                  have Hp := Hp0
                  have Hq := Hq0
                  have HX := HX0
                  have hI2 := apartCharge hi100 HI.out Ha2.out Hb2.out
                  obtain ⟨S2, v, f, hv⟩ : ∃ S2 v f, chargeR S = (S2, v, f) := ⟨_, _, _, rfl⟩
                  have hv2 : chargeR (shS d S) = (shS d S2, v, f) := by rw [apartChargeEq hi100 HI.out Ha2.out Hb2.out, hv]
                  have HE1 := Lib.hid (callsNext Hp.out (Charge_due Hp.out.q HI.out.ok hv))
                  have HE2 := Lib.hid (fun W G (hW : QSt w W G b2 (shS d S)) => callsNext hW (Charge_due hW.q HI.out.okd hv2))
                  rw [hv] at hI2
                  have HI2 := Lib.hid hI2
                  clear hv hv2 hI2 o1 o2 o3 o4 o5
                  -- both calls: first p's, then q's
                  go_wp2_with fail
                  skip
                  go_wp2_with (first
                    | (with_reducible refine And.intro (by first | with_reducible exact True.intro | with_reducible rfl | go_simp) ?_)
                    | (go_at_call 42; (with_reducible refine HE1.out.mono ?_)
                       rintro e w4 ⟨rfl, F4, hp4, hf4, hs4⟩
                       have hxx := heap_fr HX.out hf4 (fun h => by have := Hlt.out _ h; omega)
                       obtain ⟨x0, x1, x2, x3, z0, z1, z2, z3, xl⟩ := blk4 hxx
                       have Hxx := Lib.hid hxx
                       have Hp4 := Lib.hid hp4
                       have Hq4 := Lib.hid (Hq.out.fr hf4 (fun k h1 h2 => Hd.out k h2 h1) Hp.out.new)
                       have Hd4 := Lib.hid (fun k (h1 : F4 k) (h2 : G k) => (hs4 k h1).elim (fun h => Hd.out k h h2) (fun h => by have := Hq.out.lt k h2; omega) : ∀ k, F4 k → ¬ G k)
                       clear hp4 hf4 hs4 hxx)
                    | (go_at_call 42; (with_reducible refine (HE2.out _ _ Hq4.out).mono ?_)
                       rintro e w5 ⟨rfl, G5, hq5, hf5, hs5⟩
                       have Hq5 := Lib.hid hq5
                       have Hp5 := Lib.hid (Hp4.out.fr hf5 Hd4.out Hq4.out.new)
                       have Hd5 := Lib.hid (fun k (h1 : F4 k) (h2 : G5 k) => (hs5 k h2).elim (fun h => Hd4.out k h1 h) (fun h => by have := Hp4.out.lt k h1; omega) : ∀ k, F4 k → ¬ G5 k)
                       clear hq5 hf5 hs5))
                  skip
                  have HF1 := Lib.hid (Form_due Hp5.out.q HI2.out.ok)
                  have HF2 := Lib.hid (fun W G (hW : QSt w W G b2 (shS d S2)) => Form_due hW.q HI2.out.okd)
                  have hmap : (shS d S2).l.map (itOf (shS d S2).base) = S2.l.map (itOf S2.base) := congrArg Fm.l (formR_sh d S2)
                  have hcur : (shS d S2).cur = S2.cur := rfl
                  rw [hmap, hcur] at HF2
                  clear hmap hcur
                  go_wp2_with (first
                    | (go_at_call 43; (with_reducible refine HF1.out.mono ?_); rintro e w6 ⟨a6, c6, rfl, ho, hb6⟩; have Hs6 := Lib.hid (Sl.of_own It.len ho); rw [List.length_map]; have Hq6 := Lib.hid (Hq5.out.below hb6); have Hp6 := Lib.hid (Hp5.out.below hb6); clear ho hb6)
                    | (go_at_call 43; (with_reducible refine (HF2.out _ _ Hq6.out).mono ?_); rintro e w7 ⟨a7, c7, rfl, ho, hb7⟩; have Hs7 := Lib.hid (Sl.of_own It.len ho); have Hs67 := Lib.hid (Hs6.out.below hb7); rw [List.length_map]; have Hq7 := Lib.hid (Hq6.out.below hb7); have Hp7 := Lib.hid (Hp6.out.below hb7); clear ho hb7)
                    | (go_at_call 19; refine (SameF_any S2.cur S2.cur (S2.l.map (itOf S2.base)) (S2.l.map (itOf S2.base)) S2.l.length S2.l.length a6 a7 c6 c7 _ (List.length_map _) (List.length_map _) (by have := HI2.out.ok.len; omega) (by have := HI2.out.ok.len; omega) Hs67.out Hs7.out (decide_eq_true rfl)).mono ?_; rintro e w8 ⟨rfl, hb8⟩; have Hq8 := Lib.hid (Hq7.out.below hb8); have Hp8 := Lib.hid (Hp7.out.below hb8); clear hb8))
                  go_roundw
                  case rel => exact ⟨i + 1, F4, G5, S2, hlt, by go_num, Hp8.out, Hq8.out, Hd5.out, HI2.out⟩
                  case measure => simp [intOf]; omega
              · go_wp2_with fail
                go_ret
                exact ⟨rfl, hq.old⟩
          · have HE2 := Lib.hid (fun W (hW : Below w.heap.size w W) => Seed_err_due ⟨cu, l⟩ n a c sb W Hn.out (by omega) (HS.out.below hW) (.inl hb))
            clear ha hb
            go_enter Try.func12, Try.ntmps12
            go_wp2_with (first
              | (go_at_call 38; refine (awake13 _).mono ?_; rintro e w1 ⟨rfl, hb⟩; have X1 := Lib.hid (heap_below (heap_new w _) hb); obtain ⟨g0, g1, y0, y1, gl⟩ := blk2 X1.out; have hb0 := ((Below.refl w.heap.size w).alloc (Nat.le_refl _) _).trans (hb.mono (by simp)))
              | (go_at_call 35; refine (GoodF_any cu l n a c _ Hn.out (by omega) (HS.out.below hb0) Hg.out).mono ?_; rintro e w2 ⟨rfl, hb2⟩; have X2 := Lib.hid (heap_below X1.out hb2); obtain ⟨g0, g1, y0, y1, gl⟩ := blk2 X2.out; have hb0 := hb0.trans (hb2.mono hb0.size))
              | (go_at_call 45; (with_reducible refine (HE1.out _ hb0).mono ?_); clear HE1; go_loud (rintro e w3 hnp); obtain ⟨b1, F, rfl, _, _, hb3⟩ := hnp.st hb0; have X3 := Lib.hid (heap_below X2.out hb3); obtain ⟨g0, g1, y0, y1, gl⟩ := blk2 X3.out; have hb0 := hb0.trans (hb3.mono hb0.size); clear hnp)
              | (go_at_call 45; (with_reducible refine (HE2.out _ hb0).mono ?_); clear HE2; rintro e w4 ⟨rfl, hb4⟩; have hb0 := hb0.trans (hb4.mono hb0.size)))
            go_ret
            exact ⟨rfl, hb0⟩
        · have HE1 := Lib.hid (fun W (hW : Below w.heap.size w W) => Seed_err_due ⟨cu, l⟩ n a c sa W Hn.out (by omega) (HS.out.below hW) (.inl ha))
          by_cases hb : BaseOk sb
          · have HE2 := Lib.hid (fun W (hW : Below w.heap.size w W) => Seed_ok_due ⟨cu, l⟩ n a c sb W Hn.out (HS.out.below hW) hb Hg.out)
            clear ha hb
            go_enter Try.func12, Try.ntmps12
            go_wp2_with (first
              | (go_at_call 38; refine (awake13 _).mono ?_; rintro e w1 ⟨rfl, hb⟩; have X1 := Lib.hid (heap_below (heap_new w _) hb); obtain ⟨g0, g1, y0, y1, gl⟩ := blk2 X1.out; have hb0 := ((Below.refl w.heap.size w).alloc (Nat.le_refl _) _).trans (hb.mono (by simp)))
              | (go_at_call 35; refine (GoodF_any cu l n a c _ Hn.out (by omega) (HS.out.below hb0) Hg.out).mono ?_; rintro e w2 ⟨rfl, hb2⟩; have X2 := Lib.hid (heap_below X1.out hb2); obtain ⟨g0, g1, y0, y1, gl⟩ := blk2 X2.out; have hb0 := hb0.trans (hb2.mono hb0.size))
              | (go_at_call 45; (with_reducible refine (HE1.out _ hb0).mono ?_); clear HE1; rintro e w3 ⟨rfl, hb3⟩; have X3 := Lib.hid (heap_below X2.out hb3); obtain ⟨g0, g1, y0, y1, gl⟩ := blk2 X3.out; have hb0 := hb0.trans (hb3.mono hb0.size))
              | (go_at_call 45; (with_reducible refine (HE2.out _ hb0).mono ?_); clear HE2; go_loud (rintro e w4 hnp); obtain ⟨b1, F, rfl, _, _, hb3⟩ := hnp.st hb0; have hb0 := hb0.trans (hb3.mono hb0.size); clear hnp))
            go_ret
            exact ⟨rfl, hb0⟩
          · have HE2 := Lib.hid (fun W (hW : Below w.heap.size w W) => Seed_err_due ⟨cu, l⟩ n a c sb W Hn.out (by omega) (HS.out.below hW) (.inl hb))
            clear ha hb
            go_enter Try.func12, Try.ntmps12
            go_wp2_with (first
              | (go_at_call 38; refine (awake13 _).mono ?_; rintro e w1 ⟨rfl, hb⟩; have X1 := Lib.hid (heap_below (heap_new w _) hb); obtain ⟨g0, g1, y0, y1, gl⟩ := blk2 X1.out; have hb0 := ((Below.refl w.heap.size w).alloc (Nat.le_refl _) _).trans (hb.mono (by simp)))
              | (go_at_call 35; refine (GoodF_any cu l n a c _ Hn.out (by omega) (HS.out.below hb0) Hg.out).mono ?_; rintro e w2 ⟨rfl, hb2⟩; have X2 := Lib.hid (heap_below X1.out hb2); obtain ⟨g0, g1, y0, y1, gl⟩ := blk2 X2.out; have hb0 := hb0.trans (hb2.mono hb0.size))
              | (go_at_call 45; (with_reducible refine (HE1.out _ hb0).mono ?_); clear HE1; rintro e w3 ⟨rfl, hb3⟩; have X3 := Lib.hid (heap_below X2.out hb3); obtain ⟨g0, g1, y0, y1, gl⟩ := blk2 X3.out; have hb0 := hb0.trans (hb3.mono hb0.size))
              | (go_at_call 45; (with_reducible refine (HE2.out _ hb0).mono ?_); clear HE2; rintro e w4 ⟨rfl, hb4⟩; have hb0 := hb0.trans (hb4.mono hb0.size)))
            go_ret
            exact ⟨rfl, hb0⟩
end Go.Proofs.Ytciiookcdkjegaa
