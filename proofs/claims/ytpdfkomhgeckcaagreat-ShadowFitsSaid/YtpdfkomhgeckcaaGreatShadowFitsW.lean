/- Proved here: the statement ShadowFits, without conditions of ours (contracts, law, walk; then the row). -/
import Derived.Test.YtpdfkomhgeckcaaGreatShadow
import Derived.Test.YtpdfkomhgeckcaaGreatstrideM
import Derived.Test.YtpdfkomhgeckcaaGreatRows
import Derived.ProofKit
import Derived.Below
namespace Go.Proofs.YtpdfkomhgeckcaaGreat
open Go.ChangeShapes Go.WideShapes Go.ChangeAt Go.RowKit Go.Deep Go.Joins
set_option linter.unusedVariables false
set_option linter.unusedSimpArgs false

/-! ### a base that may not be -/
set_option maxHeartbeats 1600000 in
set_option maxRecDepth 100000 in
theorem Make_base (l : List Int) (tag base : Int) (n : Nat) (a : Option Addr) (c : Nat) (w : World) (hn : l.length = n) (hl : n ≤ 1000000) (hc : n ≤ c) (hB : ∀ x ∈ l, Byte x) (hs : Sl encU 1 w a l) (ht : TagOk tag) (hb : ¬ BaseOk base) (h0 : (readE l).2.2 = 0) :
    Calls Tryz.prog 24 #[.slice a n c, .int .i64 tag, .int .i64 base] w fun e w' => e = .returned (.tuple #[.pointer none, .int .i64 1]) ∧ Below w.heap.size w w' := by
  have HG := Lib.hid (fun W => PolGood tag W (r := true) (by rw [decide_eq_true_iff]; unfold TagOk at ht; omega))
  have HR := Lib.hid (ElderRead l n a c w hn hl hc hB hs (R := readE l) rfl)
  have hgood := readE_good h0
  generalize readE l = R at *
  obtain ⟨r1, r2, r3⟩ := R
  simp only at h0 hgood
  subst h0
  unfold goodC at hgood
  rw [Bool.and_eq_true] at hgood
  have hf64 : r2.l.length ≤ 64 := (goodF_P hgood.2).1
  have HP := Lib.hid (fun W A C (h : Sl It.enc 3 W A r2.l) => PolSeed_err tag r2 r2.l.length A C base W rfl (by omega) h (fun h2 => hb h2.2.1))
  clear ht hs hB hn hgood hb hf64
  go_enter Tryz.func24, Tryz.ntmps24
  go_wp2_with (first
    | (go_at_call 22; refine (HG.out _).mono ?_; rintro e w1 ⟨rfl, rfl⟩)
    | (go_at_call 33; refine HR.out.mono ?_; rintro e w2 ⟨fa, fc, rfl, ho2, hb2⟩; have Hs2 := Lib.hid ((Sl.of_own It.len ho2).below ((Below.refl _ _).alloc (Nat.le_refl _) (.cells #[.int .i64 r2.cur, .slice fa r2.l.length fc] 24))); have hb3 := hb2.alloc hb2.size (.cells #[.int .i64 r2.cur, .slice fa r2.l.length fc] 24); clear ho2)
    | (go_at_call 31; refine (HP.out _ _ _ Hs2.out).mono ?_; rintro e w4 ⟨rfl, hb4⟩))
  go_ret2
  exact ⟨rfl, hb3.trans (hb4.mono hb3.size)⟩
section
variable {w0 w : World} {F : Nat → Prop} {c p b r : Nat} {s : CoreS} {K : Int}
set_option maxHeartbeats 1600000 in
set_option maxRecDepth 100000 in
theorem Turn_base (h : CSt w0 w F c p b r s) (ht : TagOk s.tag) (hk : OkS K s.q) {f : Fm} (hf : formR s.q = f) (hg : goodF f = true) (tag base : Int) (ht2 : TagOk tag) (hB : ¬ BaseOk base) :
    Calls Tryz.prog 10 #[.pointer (some ⟨c, 0, none⟩), .int .i64 tag, .int .i64 base] w fun e w' => e = .returned (.tuple #[.pointer none, .int .i64 1]) ∧ Below w.heap.size w w' := by
  have HG := Lib.hid (fun W => PolGood tag W (r := true) (by rw [decide_eq_true_iff]; unfold TagOk at ht2; omega))
  have hgc : goodC s.tag f = true := by unfold goodC; rw [hg, Bool.and_true, decide_eq_true_eq]; unfold TagOk at ht; omega
  have HW := Lib.hid (ShWrite h ht hk hf hg)
  have hrd := readE_put hgc
  have HM := Lib.hid (fun W A C (hC : (putB s.tag f).length ≤ C) (hs : Sl encU 1 W A (putB s.tag f)) => Make_base (putB s.tag f) tag base (putB s.tag f).length A C W rfl (by have := putB_len hgc; omega) hC (putB_byte hgc) hs ht2 hB (by rw [hrd]))
  generalize hpb : putB s.tag f = l at *
  clear h ht hk hf hg ht2 hB hgc hrd hpb
  go_enter Tryz.func10, Tryz.ntmps10
  go_wp2_with (first
    | (go_at_call 22; refine (HG.out _).mono ?_; rintro e w1 ⟨rfl, rfl⟩)
    | (go_at_call 23; refine HW.out.mono ?_; rintro e w2 ⟨a2, c2, rfl, ho2, hb2⟩; have hc2 := own_cap ho2; have Hs2 := Lib.hid (own_sl ho2); clear ho2)
    | (go_at_call 24; refine (HM.out _ _ _ hc2 Hs2.out).mono ?_; rintro e w3 ⟨rfl, hb3⟩; have hb4 := hb2.trans (hb3.mono hb2.size)))
  go_ret2
  exact ⟨rfl, hb4⟩
end

/-! ### acts that came in -/
section
variable {H : Type} {enc : TypeId × Value → H} {w : World} {spare : Nat → Bool} {held : Bool}
theorem cAct_21 : Tryz.prog.cellsOf 47 = 4 := by kernel_rfl
set_option maxRecDepth 100000 in
theorem elAct_21 (n : Nat) (cs : List Value) (y : DataW H × List MemPlace) (h : DataW.trod enc Tryz.prog w 0 spare held n 47 cs = some y) : ∃ z : Ac, cs = z.enc := by
  obtain ⟨y0, y1, y2, y3, m, _, hl, h0, h1, h2, h3⟩ := trod_struct4 Tryz.underlying47 h
  rw [cAct_21] at hl
  obtain ⟨a, ha, _⟩ := fld (t := 3) Tryz.underlying3 cInt h0
  obtain ⟨b, hb, _⟩ := fld (t := 3) Tryz.underlying3 cInt h1
  obtain ⟨c, hc, _⟩ := fld (t := 3) Tryz.underlying3 cInt h2
  obtain ⟨d, hd, _⟩ := fld (t := 2) Tryz.underlying2 cI64 h3
  match cs, hl with
  | [u0, u1, u2, u3], _ =>
    simp at ha hb hc hd
    exact ⟨⟨a, b, c, d⟩, by simp [Ac.enc, ha, hb, hc, hd]⟩
set_option maxRecDepth 100000 in
/-- A slice of acts that came in. -/
theorem openActs_21 {b0 : Nat} {v : Value} {d : DataW H} {p : List MemPlace} (hv : Value.okWide Tryz.prog w .any b0 25 v) (h : DataW.Trod enc Tryz.prog w 0 spare held 25 v d p) :
    ∃ (a : Option Addr) (n c : Nat) (l : List Ac), v = .slice a n c ∧ l.length = n ∧ n ≤ maxLen ∧ Sl Ac.enc 4 w a l := by
  obtain ⟨a0, n0, c0, rfl⟩ := okWide_slice Tryz.underlying25 hv
  obtain ⟨fuel, hf⟩ := h
  obtain ⟨a, n, c, l, e1, hl, hm, hs⟩ := open_sl (en := Ac.enc) (k := 4) Tryz.underlying25 cAct_21 (by omega) (fun n cs y h => elAct_21 n cs y h) hf
  simp [Value.cells] at e1
  obtain ⟨rfl, rfl, rfl⟩ := e1
  exact ⟨_, _, _, l, rfl, hl, hm, hs⟩
end

/-! ### acts on a core -/
/-- What stays, whatever is done. -/
structure FA (i : Nat) (tag : Int) (s : CoreS) : Prop where
  ok : CoreOk i ((i : Int) * 1125899906842624) s
  lags : Lags s.q
  tg : s.tag = tag
theorem FA.good {i : Nat} {tag : Int} {s : CoreS} (h : FA i tag s) : goodF (formR s.q) = true := good_of_lags h.ok.ok h.lags
theorem done_q (s : CoreS) (e : Int) : (s.done e).q = s.q ∧ (s.done e).tag = s.tag := by unfold CoreS.done; split <;> exact ⟨rfl, rfl⟩
theorem FA.enter {i : Nat} {tag : Int} {s : CoreS} (h : FA i tag s) (hi : i < 100) (id w lag : Int) : FA (i + 1) tag (s.enter id w lag false) := by
  have h1 := h.ok.enter (by omega) id w lag false
  refine ⟨?_, ?_, ?_⟩
  · rw [show ((i + 1 : Nat) : Int) * 1125899906842624 = (i : Int) * 1125899906842624 + 1125899906842624 by omega]; exact h1
  · unfold CoreS.enter; rw [(done_q _ _).1]; exact h.lags.enter _ id w lag h.ok.ok.len
  · unfold CoreS.enter; rw [(done_q _ _).2]; exact h.tg
theorem FA.leave {i : Nat} {tag : Int} {s : CoreS} (h : FA i tag s) (hi : i < 100) (id : Int) : FA (i + 1) tag (s.leave id) := by
  refine ⟨(h.ok.leave id).mono (Nat.le_refl _) (by omega) (by omega), ?_, ?_⟩
  · unfold CoreS.leave; rw [(done_q _ _).1]; exact h.lags.leave id
  · unfold CoreS.leave; rw [(done_q _ _).2]; exact h.tg
theorem FA.weigh {i : Nat} {tag : Int} {s : CoreS} (h : FA i tag s) (hi : i < 100) (id w : Int) : FA (i + 1) tag (s.weigh id w) := by
  refine ⟨(h.ok.weigh id w).mono (Nat.le_refl _) (by omega) (by omega), ?_, ?_⟩
  · unfold CoreS.weigh; rw [(done_q _ _).1]; exact h.lags.weigh id w
  · unfold CoreS.weigh; rw [(done_q _ _).2]; exact h.tg
theorem FA.run {i : Nat} {tag : Int} {s : CoreS} (h : FA i tag s) (hi : i < 100) : FA (i + 1) tag s.run.1 := by
  have hl : Lags s.ran.1 := by
    unfold CoreS.ran
    obtain ⟨c, hc⟩ := pickis_T h.ok.tag s.q
    have hr := room_T h.ok.tag h.ok.ok h.lags
    rw [hc] at hr ⊢
    exact (h.lags.curs c).charge hr
  refine ⟨(h.ok.run).mono (Nat.le_refl _) (by omega) (by omega), ?_, ?_⟩
  · unfold CoreS.run
    split
    · exact hl
    · split <;> exact hl
  · unfold CoreS.run
    split
    · exact h.tg
    · split <;> exact h.tg
theorem charge_id21 {K : Int} {S : Ln} (h : OkS K S) : 0 ≤ (chargeR S).2.1 ∧ (chargeR S).2.1 ≤ 1073741824 := by
  unfold chargeR
  rcases at_cases S S.cur with ⟨e, _⟩ | ⟨j, x, e, _, _, hx, _⟩
  · rw [e]; simp
  · rw [e]
    have := h.pts x (List.mem_of_getElem? hx)
    simp only
    split
    · simp
    · simp only; omega
theorem ran_bound {i : Nat} {tag : Int} {s : CoreS} (h : FA i tag s) : -9223372036854775808 ≤ s.ran.2.1 ∧ s.ran.2.1 ≤ 9223372036854775807 := by
  have := charge_id21 (pickok_T h.ok.tag h.ok.ok)
  unfold CoreS.ran
  omega
theorem FA.seed {tag : Int} (ht : TagOk tag) {f : Fm} (hg : goodF f = true) : FA 0 tag ⟨tag, seedR f 0, fun _ => 0, 0, 0, 0⟩ :=
  ⟨⟨ht, OkS.seed (by decide) (by decide) hg, by simp, by simp, by simp, by simp, fun _ => by simp, fun _ => by simp, by simp⟩, Lags.seed hg, rfl⟩

set_option maxHeartbeats 3200000 in
set_option maxRecDepth 100000 in
theorem Does {w0 w : World} {F : Nat → Prop} {c p b r : Nat} {s : CoreS} {tag : Int} (h : CSt w0 w F c p b r s) (hf : FA 0 tag s) (l : List Ac) (n : Nat) (a : Option Addr) (k : Nat) (hn : l.length = n) (h100 : n ≤ 100) (hs : Sl Ac.enc 4 w0 a l) :
    Calls Tryz.prog 7 #[.pointer (some ⟨c, 0, none⟩), .slice a n k] w fun e w' => e = .returned (.tuple #[]) ∧ ∃ s' F', FA n tag s' ∧ CSt w0 w' F' c p b r s' := by
  have HC := Lib.hid h
  have HF := Lib.hid hf
  have HS := Lib.hid hs
  have Hn := Lib.hid hn
  clear h hf hs hn
  go_enter Tryz.func7, Tryz.ntmps7
  go_wp2_with fail
  go_loopw [4] (fun i wr => ∃ (j : Nat) (s' : CoreS) (F' : Nat → Prop), j ≤ n ∧ i = .int .i64 j ∧ FA j tag s' ∧ CSt w0 wr F' c p b r s') (fun i _ => n - (intOf i).toNat)
  case atStart => exact ⟨0, s, F, Nat.zero_le _, rfl, HF.out, HC.out⟩
  case round =>
    obtain ⟨j, s', F', hj, rfl, hfa, hc⟩ := hrel
    have hold := hc.old
    by_cases hlt : j < n
    · obtain ⟨r0, off, rfl, hr, hcc⟩ := HS.out (by intro h; have h1 := Hn.out; rw [h] at h1; simp at h1; omega)
      obtain ⟨x, hx⟩ : ∃ x, l[j]? = some x := ⟨_, List.getElem?_eq_getElem (by rw [Hn.out]; exact hlt)⟩
      have e0 := (hold.cell (p := ⟨r0, off + j * 4 + 0, none⟩) hr).trans (hcc j x hx 0 _ rfl)
      have e1 := (hold.cell (p := ⟨r0, off + j * 4 + 1, none⟩) hr).trans (hcc j x hx 1 _ rfl)
      have e2 := (hold.cell (p := ⟨r0, off + j * 4 + 2, none⟩) hr).trans (hcc j x hx 2 _ rfl)
      have e3 := (hold.cell (p := ⟨r0, off + j * 4 + 3, none⟩) hr).trans (hcc j x hx 3 _ rfl)
      simp only [Nat.add_zero] at e0
      have hjn : (j : Int) < n := by omega
      have h99 : j < 100 := by omega
      have Hc := Lib.hid hc
      have HFA := Lib.hid hfa
      have hcd := hc.below ((Below.refl wr.heap.size wr).drew)
      have hnj : ¬ n ≤ j := by omega
      have hwj : IntKind.i64.wrap (j : Int) = j := by simp [IntKind.wrap, IntKind.bits, IntKind.signed]; omega
      have HE := Lib.hid (CorEnter hcd hfa.ok (by omega) (by omega) x.id x.w x.lag false (x := mayE s'.q.l x.id x.w x.lag) rfl)
      have HL := Lib.hid (CorLeave hc hfa.ok (by omega) x.id (S' := (leaveR s'.q x.id).1) (v := (leaveR s'.q x.id).2.1) (x := (leaveR s'.q x.id).2.2) rfl)
      have HW := Lib.hid (CorWeigh hcd hfa.ok (by omega) x.id x.w (S' := (weighR s'.q x.id x.w).1) (x := (weighR s'.q x.id x.w).2) rfl)
      have HR := Lib.hid (CorRun hc hfa.ok (by omega) (s' := s'.run.1) (v := s'.run.2.1) (x := s'.run.2.2) rfl (ran_bound hfa))
      clear hcc hx hc hfa hcd
      by_cases o0 : x.op = 0
      · have b0 : (x.op == 0) = true := by simpa using o0
        go_wp2_with fail
        refine wp_region_chain 60 [0, 0, 0, 6, 14, 30, 0, 0, 192, 448, 960, 0, 0, 6144, 14336, 30720, 65535] [(0, none), (1, none), (2, none), (3, none), (4, none), (5, none), (6, none), (7, none), (8, none), (9, none), (10, none), (11, none), (12, none), (13, none), (14, none), (15, none), (16, some [])] (by kernel_rfl) (by kernel_rfl) (by rfl) ?_; simp only [chain, Obs, List.getElem?_toArray, List.getElem?_cons_zero, List.getElem?_cons_succ]
        go_wp2_with (first
          | (with_reducible refine And.intro (by first | with_reducible exact True.intro | with_reducible rfl | go_simp) ?_)
          | (go_at_call 19; refine HE.out.mono ?_; rintro e w9 ⟨rfl, F9, s9, -, -⟩; have HN := Lib.hid s9; clear s9))
        refine NoPanic.normal ?_
        go_wp2_with fail
        go_roundw
        case rel => exact ⟨j + 1, _, F9, by omega, by go_num, HFA.out.enter h99 _ _ _, HN.out⟩
        case measure => simp [intOf]; omega
      · have b0 : (x.op == 0) = false := by simpa using o0
        by_cases o1 : x.op = 1
        · have b1 : (x.op == 1) = true := by simpa using o1
          go_wp2_with (go_at_call 20; refine HL.out.mono ?_; rintro e w9 ⟨rfl, F9, s9, -, -⟩; have HN := Lib.hid s9; clear s9)
          go_roundw
          case rel => exact ⟨j + 1, _, F9, by omega, by go_num, HFA.out.leave h99 _, HN.out⟩
          case measure => simp [intOf]; omega
        · have b1 : (x.op == 1) = false := by simpa using o1
          by_cases o2 : x.op = 2
          · have b2 : (x.op == 2) = true := by simpa using o2
            go_wp2_with fail
            refine wp_region_chain 60 [0, 0, 0, 6, 14, 30, 0, 0, 192, 448, 960, 2047] [(0, none), (1, none), (2, none), (3, none), (4, none), (5, none), (6, none), (7, none), (8, none), (9, none), (10, none), (11, some [])] (by kernel_rfl) (by kernel_rfl) (by rfl) ?_; simp only [chain, Obs, List.getElem?_toArray, List.getElem?_cons_zero, List.getElem?_cons_succ]
            go_wp2_with (first
              | (with_reducible refine And.intro (by first | with_reducible exact True.intro | with_reducible rfl | go_simp) ?_)
              | (go_at_call 21; refine HW.out.mono ?_; rintro e w9 ⟨rfl, F9, s9, -, -⟩; have HN := Lib.hid s9; clear s9))
            refine NoPanic.normal ?_
            go_wp2_with fail
            go_roundw
            case rel => exact ⟨j + 1, _, F9, by omega, by go_num, HFA.out.weigh h99 _ _, HN.out⟩
            case measure => simp [intOf]; omega
          · have b2 : (x.op == 2) = false := by simpa using o2
            go_wp2_with (go_at_call 16; refine HR.out.mono ?_; rintro e w9 ⟨rfl, F9, s9, -, -⟩; have HN := Lib.hid s9; clear s9)
            go_roundw
            case rel => exact ⟨j + 1, _, F9, by omega, by go_num, HFA.out.run h99, HN.out⟩
            case measure => simp [intOf]; omega
    · obtain rfl : j = n := by omega
      go_wp2_with fail
      go_end0
      exact ⟨rfl, s', F', hfa, hc⟩

set_option maxHeartbeats 800000 in
theorem Fill_ok (tag : Int) (f : Fm) (n : Nat) (a : Option Addr) (c : Nat) (w : World) (hn : f.l.length = n) (hs : Sl It.enc 3 w a f.l) (ht : TagOk tag) (hg : goodF f = true) :
    Calls Tryz.prog 6 #[.int .i64 tag, .agg #[.int .i64 f.cur, .slice a n c]] w fun e w' => ∃ cc p b r F, e = .returned (.pointer (some ⟨cc, 0, none⟩)) ∧ CSt w w' F cc p b r ⟨tag, seedR f 0, fun _ => 0, 0, 0, 0⟩ := by
  have hb0 := (Below.refl w.heap.size w).alloc (Nat.le_refl _) (.cells #[.int .i64 f.cur, .slice a n c] 24)
  have HS := Lib.hid (CorSeed_ok tag f n a c 0 _ hn (hs.below hb0) ht (by decide) hg)
  clear hs ht hg hn
  go_enter Tryz.func6, Tryz.ntmps6
  go_wp2_with (go_at_call 18; refine HS.out.mono ?_; intro e w1 hp; obtain ⟨cc, p, b, r, F, rfl, hc, _, _⟩ := hp.st hb0; have Hc := Lib.hid hc; clear hc hp)
  go_ret
  exact ⟨cc, p, b, r, F, rfl, Hc.out⟩
set_option maxHeartbeats 800000 in
theorem Fill_err (tag : Int) (f : Fm) (n : Nat) (a : Option Addr) (c : Nat) (w : World) (hn : f.l.length = n) (hl : n ≤ 4611686018427387904) (hs : Sl It.enc 3 w a f.l) (h : ¬ (TagOk tag ∧ goodF f = true)) :
    Calls Tryz.prog 6 #[.int .i64 tag, .agg #[.int .i64 f.cur, .slice a n c]] w fun e w' => e = .returned (.pointer none) ∧ Below w.heap.size w w' := by
  have hb0 := (Below.refl w.heap.size w).alloc (Nat.le_refl _) (.cells #[.int .i64 f.cur, .slice a n c] 24)
  have HS := Lib.hid (CorSeed_err tag f n a c 0 _ hn hl (hs.below hb0) (fun h2 => h ⟨h2.1, h2.2.2⟩))
  clear hs h hn
  go_enter Tryz.func6, Tryz.ntmps6
  go_wp2_with (go_at_call 18; refine HS.out.mono ?_; rintro e w1 ⟨rfl, hb1⟩)
  go_ret
  exact ⟨rfl, hb0.trans (hb1.mono hb0.size)⟩

set_option maxHeartbeats 6400000 in
set_option maxRecDepth 100000 in
theorem ShadowFits_walk (tag cur : Int) (l : List It) (n : Nat) (a : Option Addr) (c : Nat) (la : List Ac) (na : Nat) (aa : Option Addr) (ca : Nat) (tto base : Int) (w : World) (htag : I64 tag) (hn : l.length = n) (hnm : n ≤ maxLen) (hs : Sl It.enc 3 w a l) (han : la.length = na) (ham : na ≤ maxLen) (has : Sl Ac.enc 4 w aa la) (hto : I64 tto) (hba : I64 base) :
    Calls Tryz.prog 3 #[.int .i64 tag, .agg #[.int .i64 cur, .slice a n c], .slice aa na ca, .int .i64 tto, .int .i64 base] w fun e w' => e = .returned (.bool true) ∧ Below w.heap.size w w' := by
  have HX0 := Lib.hid (heap_new w (.cells #[.int .i64 cur, .slice a n c] 24))
  have HA0 := Lib.hid ((Below.refl w.heap.size w).alloc (Nat.le_refl _) (.cells #[.int .i64 cur, .slice a n c] 24))
  have HS := Lib.hid hs
  have HAs := Lib.hid has
  have Hn := Lib.hid hn
  have Han := Lib.hid han
  unfold maxLen at hnm ham
  clear hs has hn han
  by_cases h40 : (64 : Int) < n
  · go_enter Tryz.func3, Tryz.ntmps3
    go_wp2_with (first
      | (go_at_call 5; refine (awake21 _).mono ?_; rintro e w1 ⟨rfl, hb1⟩; have hX1 := heap_below HX0.out hb1; obtain ⟨g0, g1, y0, y1, gl⟩ := blk2 hX1; have HX1 := Lib.hid hX1; have hbA := HA0.out.trans (hb1.mono HA0.out.size); clear hX1)
      )
    go_ret
    exact ⟨rfl, hbA⟩
  · by_cases h10 : (100 : Int) < na
    · go_enter Tryz.func3, Tryz.ntmps3
      go_wp2_with (first
        | (go_at_call 5; refine (awake21 _).mono ?_; rintro e w1 ⟨rfl, hb1⟩; have hX1 := heap_below HX0.out hb1; obtain ⟨g0, g1, y0, y1, gl⟩ := blk2 hX1; have HX1 := Lib.hid hX1; have hbA := HA0.out.trans (hb1.mono HA0.out.size); clear hX1)
        )
      go_ret
      exact ⟨rfl, hbA⟩
    · by_cases hok : TagOk tag ∧ goodF ⟨cur, l⟩ = true
      case neg =>
        have HFl := Lib.hid (fun W (h : Below w.heap.size w W) => Fill_err tag ⟨cur, l⟩ n a c W Hn.out (by omega) (HS.out.below h) hok)
        clear hok
        go_enter Tryz.func3, Tryz.ntmps3
        go_wp2_with (first
          | (go_at_call 5; refine (awake21 _).mono ?_; rintro e w1 ⟨rfl, hb1⟩; have hX1 := heap_below HX0.out hb1; obtain ⟨g0, g1, y0, y1, gl⟩ := blk2 hX1; have HX1 := Lib.hid hX1; have hbA := HA0.out.trans (hb1.mono HA0.out.size); clear hX1)
          | (go_at_call 6; refine (HFl.out _ hbA).mono ?_; rintro e w2 ⟨rfl, hb2⟩; have hbB := hbA.trans (hb2.mono hbA.size)))
        go_ret
        exact ⟨rfl, hbB⟩
      case pos =>
        have Hg := Lib.hid hok.2
        have Ht := Lib.hid hok.1
        have HFl := Lib.hid (fun W (h : Below w.heap.size w W) => Fill_ok tag ⟨cur, l⟩ n a c W Hn.out (HS.out.below h) hok.1 hok.2)
        clear hok
        by_cases hgo : TagOk tto ∧ BaseOk base
        case neg =>
          have HTu : ∀ (s' : CoreS), FA na tag s' → ∀ (w0 W : World) (F' : Nat → Prop) cc p b r, CSt w0 W F' cc p b r s' → Calls Tryz.prog 10 #[.pointer (some ⟨cc, 0, none⟩), .int .i64 tto, .int .i64 base] W fun e w' => e = .returned (.tuple #[.pointer none, .int .i64 1]) ∧ Below W.heap.size W w' := by
            intro s' hfa w0 W F' cc p b r h
            by_cases h1 : TagOk tto
            · exact Turn_base h hfa.ok.tag hfa.ok.ok rfl hfa.good tto base h1 (fun h2 => hgo ⟨h1, h2⟩)
            · exact Turn_tag tto base _ W h1
          have hd : tto < 0 ∨ (¬ tto < 0 ∧ 2 < tto) ∨ (¬ tto < 0 ∧ ¬ 2 < tto ∧ 1152921504606846976 < base) ∨ (¬ tto < 0 ∧ ¬ 2 < tto ∧ ¬ 1152921504606846976 < base ∧ base < -1152921504606846976) := by unfold TagOk BaseOk at hgo; omega
          clear hgo
          rcases hd with h1 | ⟨h1, h2⟩ | ⟨h1, h2, h3⟩ | ⟨h1, h2, h3, h4⟩
          all_goals
            go_enter Tryz.func3, Tryz.ntmps3
            go_wp2_with (first
              | (go_at_call 5; refine (awake21 _).mono ?_; rintro e w1 ⟨rfl, hb1⟩; have hX1 := heap_below HX0.out hb1; obtain ⟨g0, g1, y0, y1, gl⟩ := blk2 hX1; have HX1 := Lib.hid hX1; have hbA := HA0.out.trans (hb1.mono HA0.out.size); clear hX1)
              | (go_at_call 6; refine (HFl.out _ hbA).mono ?_; rintro e w2 ⟨cc, p, b, r, F, rfl, hc⟩; have Hc := Lib.hid hc; have HD := Lib.hid (Does hc (FA.seed Ht.out Hg.out) la na aa ca Han.out (by omega) (HAs.out.below hbA)); clear hc)
              | (go_at_call 7; refine HD.out.mono ?_; rintro e w3 ⟨rfl, s', F', hfa, hc3⟩; have HFA := Lib.hid hfa; have H3 := Lib.hid hc3; have HFm := (fun W (h : CSt _ W F' cc p b r s') => CorForm (w0 := w1) h hfa.ok.tag hfa.ok.ok); have HTgm := (fun W (h : CSt w1 W F' cc p b r s') => CorTag h); rw [hfa.tg] at HTgm; have HTgk := Lib.hid HTgm; have hL64 : (s'.q.l.map (itOf s'.q.base)).length ≤ 64 := (by rw [List.length_map]; exact hfa.ok.ok.len); have hfr : formR s'.q = ⟨s'.q.cur, s'.q.l.map (itOf s'.q.base)⟩ := rfl; have hgd := hfa.good; have HTn := HTu s' hfa; generalize s'.q.l.map (itOf s'.q.base) = L at *; generalize s'.q.cur = cu at *; have HF1 := Lib.hid HFm; have HL64 := Lib.hid hL64; have Hfr := Lib.hid hfr; have Hgd := Lib.hid hgd; have HTk := Lib.hid HTn; clear hfa hc3 HFm hL64 hfr hgd HTn HTgm)
              | (go_at_call 9; (with_reducible refine (CorAge H4.out).mono ?_); rintro e w5 ⟨rfl, rfl⟩)
              | (go_at_call 8; (refine (HF1.out _ H3.out).mono ?_); rintro e w4 ⟨a4, c4, rfl, ho4, hb4⟩; have Hs4 := Lib.hid (Sl.of_own It.len ho4); have H4 := Lib.hid (H3.out.below hb4); have hW4 := heap_new w4 (.cells #[.int .i64 cu, .slice a4 L.length c4] 24); have HW4 := Lib.hid hW4; have hbB := ((Below.refl w4.heap.size w4).alloc (Nat.le_refl _) (.cells #[.int .i64 cu, .slice a4 L.length c4] 24)); have H5 := Lib.hid (H4.out.below hbB); have Hs5 := Lib.hid (Hs4.out.below hbB); clear ho4 hW4)
              | (go_at_call 10; refine (HTk.out _ _ _ _ _ _ _ H5.out).mono ?_; rintro e w6 ⟨rfl, hb6⟩; have H6 := Lib.hid (H5.out.below hb6); have Hs6 := Lib.hid (Hs5.out.below hb6); have hW6 := heap_below HW4.out hb6; obtain ⟨v0, v1, u0, u1, vl⟩ := blk2 hW6; have HW6 := Lib.hid hW6; clear hW6))
            have H7 := Lib.hid (H6.out.below ((Below.refl w6.heap.size w6).drew))
            have Hs7 := Lib.hid (Hs6.out.below ((Below.refl w6.heap.size w6).drew))
            refine wp_region_chain 118 [0, 1, 3, 7, 15, 31, 63, 127, 255, 127, 1023, 2047, 4095] [(0, none), (1, none), (2, none), (3, none), (4, none), (5, none), (6, none), (7, none), (9, none), (8, some [9]), (10, some []), (11, none), (12, none)] (by kernel_rfl) (by kernel_rfl) (by rfl) ?_; simp only [chain, Obs, List.getElem?_toArray, List.getElem?_cons_zero, List.getElem?_cons_succ]
            go_wp2_with (first
              | (with_reducible refine And.intro (by first | with_reducible exact True.intro | with_reducible rfl | go_simp) ?_)
              | (go_at_call 8; refine (HF1.out _ H7.out).mono ?_; rintro e w11 ⟨a11, c11, rfl, ho11, hb11⟩; have hW11 := heap_below (w := w6.drew) HW6.out hb11; obtain ⟨v0, v1, u0, u1, vl⟩ := blk2 hW11; have Hs11 := Lib.hid (Sl.of_own It.len ho11); have Hw11 := Lib.hid (Hs7.out.below hb11); have H11 := Lib.hid (H7.out.below hb11); clear ho11 hW11)
              | (go_at_call 11; refine (SameF_any cu cu L L _ _ a11 a4 c11 c4 _ rfl rfl (by have := HL64.out; omega) (by have := HL64.out; omega) Hs11.out Hw11.out (decide_eq_true rfl)).mono ?_; rintro e w12 ⟨rfl, hb12⟩; have H12 := Lib.hid (H11.out.below hb12)))
            refine NoPanic.normal ?_
            go_wp2_with fail
            go_ret
            exact ⟨rfl, hbA.trans (H12.out.old.mono hbA.size)⟩
        case pos =>
          have HTu : ∀ (s' : CoreS), FA na tag s' → ∀ (w0 W : World) (F' : Nat → Prop) cc p b r, CSt w0 W F' cc p b r s' → Calls Tryz.prog 10 #[.pointer (some ⟨cc, 0, none⟩), .int .i64 tto, .int .i64 base] W fun e w' => ∃ p2 b2 H, e = .returned (.tuple #[.pointer (some ⟨p2, 0, none⟩), .int .i64 0]) ∧ PSt w0 w' H p2 b2 tto (seedR (formR s'.q) base) ∧ (∀ k, H k ∨ k = p2 → W.heap.size ≤ k) ∧ Below W.heap.size W w' := by
            intro s' hfa w0 W F' cc p b r h
            exact Turn_ok h hfa.ok.tag hfa.ok.ok rfl hfa.good tto base hgo.1 hgo.2
          have t0 : ¬ tto < 0 := by unfold TagOk at hgo; omega
          have t2 : ¬ 2 < tto := by unfold TagOk at hgo; omega
          have t3 : ¬ 1152921504606846976 < base := by unfold BaseOk at hgo; omega
          have t4 : ¬ base < -1152921504606846976 := by unfold BaseOk at hgo; omega
          have d0 : decide (tto < 0) = false := decide_eq_false t0
          have d2 : decide (2 < tto) = false := decide_eq_false t2
          have d3 : decide (1152921504606846976 < base) = false := decide_eq_false t3
          have d4 : decide (base < -1152921504606846976) = false := decide_eq_false t4
          have Hto := Lib.hid hgo.1
          have Hbo := Lib.hid hgo.2
          clear hgo
          go_enter Tryz.func3, Tryz.ntmps3
          go_wp2_with (first
            | (go_at_call 5; refine (awake21 _).mono ?_; rintro e w1 ⟨rfl, hb1⟩; have hX1 := heap_below HX0.out hb1; obtain ⟨g0, g1, y0, y1, gl⟩ := blk2 hX1; have HX1 := Lib.hid hX1; have hbA := HA0.out.trans (hb1.mono HA0.out.size); clear hX1)
            | (go_at_call 6; refine (HFl.out _ hbA).mono ?_; rintro e w2 ⟨cc, p, b, r, F, rfl, hc⟩; have Hc := Lib.hid hc; have HD := Lib.hid (Does hc (FA.seed Ht.out Hg.out) la na aa ca Han.out (by omega) (HAs.out.below hbA)); clear hc)
            | (go_at_call 7; refine HD.out.mono ?_; rintro e w3 ⟨rfl, s', F', hfa, hc3⟩; have HFA := Lib.hid hfa; have H3 := Lib.hid hc3; have HFm := (fun W (h : CSt _ W F' cc p b r s') => CorForm (w0 := w1) h hfa.ok.tag hfa.ok.ok); have HTgm := (fun W (h : CSt w1 W F' cc p b r s') => CorTag h); rw [hfa.tg] at HTgm; have HTgk := Lib.hid HTgm; have hL64 : (s'.q.l.map (itOf s'.q.base)).length ≤ 64 := (by rw [List.length_map]; exact hfa.ok.ok.len); have hfr : formR s'.q = ⟨s'.q.cur, s'.q.l.map (itOf s'.q.base)⟩ := rfl; have hgd := hfa.good; have HTn := HTu s' hfa; generalize s'.q.l.map (itOf s'.q.base) = L at *; generalize s'.q.cur = cu at *; have HF1 := Lib.hid HFm; have HL64 := Lib.hid hL64; have Hfr := Lib.hid hfr; have Hgd := Lib.hid hgd; have HTk := Lib.hid HTn; clear hfa hc3 HFm hL64 hfr hgd HTn HTgm)
            | (go_at_call 9; (with_reducible refine (CorAge H4.out).mono ?_); rintro e w5 ⟨rfl, rfl⟩)
            | (go_at_call 8; (refine (HF1.out _ H3.out).mono ?_); rintro e w4 ⟨a4, c4, rfl, ho4, hb4⟩; have Hs4 := Lib.hid (Sl.of_own It.len ho4); have H4 := Lib.hid (H3.out.below hb4); have hW4 := heap_new w4 (.cells #[.int .i64 cu, .slice a4 L.length c4] 24); have HW4 := Lib.hid hW4; have hbB := ((Below.refl w4.heap.size w4).alloc (Nat.le_refl _) (.cells #[.int .i64 cu, .slice a4 L.length c4] 24)); have H5 := Lib.hid (H4.out.below hbB); have Hs5 := Lib.hid (Hs4.out.below hbB); clear ho4 hW4)
            | (go_at_call 10; refine (HTk.out _ _ _ _ _ _ _ H5.out).mono ?_; rintro e w6 ⟨p2, b2, H, rfl, hq, hH, hb6⟩; have HQ6 := Lib.hid hq; have H6 := Lib.hid (H5.out.below hb6); have Hs6 := Lib.hid (Hs5.out.below hb6); have hW6 := heap_below HW4.out hb6; obtain ⟨v0, v1, u0, u1, vl⟩ := blk2 hW6; have HW6 := Lib.hid hW6; clear hq hH hW6))
          have hdW := (Below.refl w6.heap.size w6).drew
          have H7 := Lib.hid (H6.out.below hdW)
          have HQ7 := Lib.hid (HQ6.out.below hdW)
          have Hs7 := Lib.hid (Hs6.out.below hdW)
          obtain ⟨FN, hmf, hef, HQb⟩ := ifForm tto Hto.out b2
          obtain ⟨q0, q1, z0, z1, qlt⟩ := blk2 HQ6.out.cell
          have hkq := OkS.seed (f := formR s'.q) Hbo.out.1 Hbo.out.2 Hgd.out
          have hq7 := HQb.out (w := w6.drew) HQ7.out.q hkq
          have e3 : (seedR (formR s'.q) base).cur = cu := by rw [Hfr.out]; rfl
          have e4 : (seedR (formR s'.q) base).l.map (itOf (seedR (formR s'.q) base).base) = L := (congrArg Fm.l (form_seed (formR s'.q) base)).trans (by rw [Hfr.out])
          rw [e3, e4] at hq7
          have HQF := Lib.hid hq7
          have HTag := Lib.hid (PolTag HQ7.out.pm)
          have HFt := Lib.hid (fun W (h : CSt w1 W F' cc p b r s') (hq : PSt w1 W H p2 b2 tto (seedR (formR s'.q) base)) => ShFits h hq HFA.out.ok.tag Hto.out HFA.out.ok.ok hkq rfl (form_seed _ _) Hgd.out)
          clear hq7 e3 e4 HQb hkq
          refine wp_region_chain 118 [0, 1, 3, 7, 15, 31, 63, 127, 255, 127, 1023, 2047, 4095, 8191, 16383, 32767, 65535, 131071, 8191, 524287, 1048575, 2097151, 4194303, 4194303, 16777215, 33554431, 67108863, 134217727, 268435455, 536870911, 1073741823, 536870911, 4294967295, 8589934591, 17179869183, 34359738367, 68719476735, 34359738367, 274877906943, 549755813887, 1099511627775, 2199023255551, 4398046511103, 2199023255551, 17592186044415, 35184372088831, 70368744177663] [(0, none), (1, none), (2, none), (3, none), (4, none), (5, none), (6, none), (7, none), (9, none), (8, some [9]), (10, none), (11, none), (12, none), (13, none), (14, none), (15, none), (16, none), (18, none), (17, some [18]), (19, some []), (20, none), (21, none), (22, none), (23, none), (24, some []), (25, none), (26, none), (27, none), (28, none), (29, none), (31, none), (30, some [31]), (32, some []), (33, none), (34, none), (35, none), (37, none), (36, some [37]), (38, none), (39, none), (40, none), (41, none), (43, none), (42, some [43]), (44, none), (45, none), (46, none)] (by kernel_rfl) (by kernel_rfl) (by rfl) ?_; simp only [chain, Obs, List.getElem?_toArray, List.getElem?_cons_zero, List.getElem?_cons_succ]
          go_wp2_with (first
            | (with_reducible refine And.intro (by first | with_reducible exact True.intro | with_reducible rfl | go_simp) ?_)
            | (go_at_call 12; refine HTag.out.mono ?_; rintro e w7 ⟨rfl, rfl⟩)
            | (go_at_fn FN; refine HQF.out.mono ?_; rintro e w8 ⟨a8, c8, rfl, ho8, hb8⟩; have hW8 := heap_below (w := w6.drew) HW6.out hb8; obtain ⟨v0, v1, u0, u1, vl⟩ := blk2 hW8; have HW8 := Lib.hid hW8; have Hs8 := Lib.hid (Sl.of_own It.len ho8); have Hw8 := Lib.hid (Hs7.out.below hb8); have H8 := Lib.hid (H7.out.below hb8); have HQ8 := Lib.hid (HQ7.out.below hb8); clear ho8 hW8)
            | (go_at_call 13; refine (HFt.out _ H9.out HQ9.out).mono ?_; rintro e w10 ⟨rfl, hb10⟩; have hW10 := heap_below HW9.out hb10; obtain ⟨v0, v1, u0, u1, vl⟩ := blk2 hW10; have HW10 := Lib.hid hW10; have Hw10 := Lib.hid (Hw9.out.below hb10); have H10 := Lib.hid (H9.out.below hb10); clear hW10)
            | (go_at_call 8; refine (HF1.out _ H10.out).mono ?_; rintro e w11 ⟨a11, c11, rfl, ho11, hb11⟩; have hW11 := heap_below HW10.out hb11; obtain ⟨v0, v1, u0, u1, vl⟩ := blk2 hW11; have Hs11 := Lib.hid (Sl.of_own It.len ho11); have Hw11 := Lib.hid (Hw10.out.below hb11); have H11 := Lib.hid (H10.out.below hb11); clear ho11 hW11)
            | (go_at_call 11; first
              | ((with_reducible refine (SameF_any cu cu L L _ _ a11 a4 c11 c4 _ rfl rfl (by have := HL64.out; omega) (by have := HL64.out; omega) Hs11.out Hw11.out (decide_eq_true rfl)).mono ?_); rintro e w12 ⟨rfl, hb12⟩; have H12 := Lib.hid (H11.out.below hb12))
              | ((with_reducible refine (SameF_any cu cu L L _ _ a8 a4 c8 c4 _ rfl rfl (by have := HL64.out; omega) (by have := HL64.out; omega) Hs8.out Hw8.out (decide_eq_true rfl)).mono ?_); rintro e w9 ⟨rfl, hb9⟩; have hW9 := heap_below HW8.out hb9; obtain ⟨v0, v1, u0, u1, vl⟩ := blk2 hW9; have HW9 := Lib.hid hW9; have Hw9 := Lib.hid (Hw8.out.below hb9); have H9 := Lib.hid (H8.out.below hb9); have HQ9 := Lib.hid (HQ8.out.below hb9); clear hW9))
            | (go_at_call 9; refine (CorAge H12.out).mono ?_; rintro e w13 ⟨rfl, rfl⟩)
            | (go_at_call 14; refine (HTgk.out _ H12.out).mono ?_; rintro e w14 ⟨rfl, rfl⟩))
          refine NoPanic.normal ?_
          go_wp2_with fail
          go_ret
          exact ⟨rfl, hbA.trans (H12.out.old.mono hbA.size)⟩
end Go.Proofs.YtpdfkomhgeckcaaGreat
/- Proved here: the statement ShadowFits, without conditions of ours. -/
namespace Go.Proofs.YtpdfkomhgeckcaaGreat
open Go.ChangeShapes Go.WideShapes Go.ChangeAt Go.RowKit
set_option linter.unusedVariables false

theorem ownShadowFits : ownKnob Tryz.prog.godebug = none := by kernel_rfl
theorem laidOutShadowFits : laidOutB Tryz.prog = true := by kernel_rfl
set_option maxRecDepth 100000 in
set_option maxHeartbeats 1000000 in
theorem shadowFits_lifted (os : Os) (started : os.Started) (H : Type) (enc : TypeId × Value → H) :
    ReturnsInHanded {} Tryz.checked os 3 .any (Rows.shadowFitsSpec.pre6 enc Tryz.prog Tryz.f3 Rows.shadowFitsRow.domain false) (Rows.shadowFitsSpec.post enc Tryz.prog Tryz.f3 false true false false) := by
  refine returnsInHanded_of_change (C := Tryz.checked) ownShadowFits started (by kernel_rfl) Tryz.func3
    (ChangeSpec.witness6 (enc := enc) (C := Tryz.checked) false ⟨#[], #[.int .i64 0, .agg #[.int .i64 0, .slice none 0 0], .slice none 0 0, .int .i64 0, .int .i64 0], []⟩ 8 (by kernel_rfl) (by kernel_rfl) (by kernel_rfl) (by kernel_rfl)) ?_
  intro W base args ds gs before hval0 hW hcnd _
  have hval : ∀ (j : Nat) t v, Tryz.f3.params[j]? = some t → args[j]? = some v → Value.okWide Tryz.prog W .any base t v := hval0
  have hW' := hW
  obtain ⟨p, q, hA0, hV, rfl, hfz, hnd⟩ := hW
  have hA : DataW.TrodAll enc Tryz.prog W 0 (fun _ => true) true Tryz.f3.params.toList args.toList ds p := hA0
  rw [ Tryz.params3 ] at hA hval
  obtain ⟨v0, vs0, d0, ds0, p0, q0, hargs, rfl, rfl, h0, r0⟩ := trodAll_cons hA
  obtain ⟨v1, vs1, d1, ds1, p1, q1, rfl, rfl, rfl, h1, r1⟩ := trodAll_cons r0
  obtain ⟨v2, vs2, d2, ds2, p2, q2, rfl, rfl, rfl, h2, r2⟩ := trodAll_cons r1
  obtain ⟨v3, vs3, d3, ds3, p3, q3, rfl, rfl, rfl, h3, r3⟩ := trodAll_cons r2
  obtain ⟨v4, vs4, d4, ds4, p4, q4, rfl, rfl, rfl, h4, r4⟩ := trodAll_cons r3
  obtain ⟨rfl, rfl, rfl⟩ := trodAll_nil r4
  obtain rfl : args = #[v0, v1, v2, v3, v4] := by cases args; simp_all
  obtain ⟨rfl, rfl⟩ := trodVars_none hV
  obtain ⟨x0, rfl, rfl, rfl, w0⟩ := open_int Tryz.underlying3 (hval 0 3 v0 rfl rfl) h0
  have k1 := h1
  have lt1 : ∀ x ∈ p1, x.block < W.heap.size := by obtain ⟨m, hm⟩ := k1; exact DataW.trod_lt m _ _ _ hm
  obtain ⟨cu1, a1, n1, c1, l1, rfl, hn1, hm1, hs1, hi1⟩ := open_form (hval 1 24 v1 rfl rfl) h1
  have k2 := h2
  have lt2 : ∀ x ∈ p2, x.block < W.heap.size := by obtain ⟨m, hm⟩ := k2; exact DataW.trod_lt m _ _ _ hm
  obtain ⟨a2, n2, c2, l2, rfl, hn2, hm2, hs2⟩ := openActs_21 (hval 2 25 v2 rfl rfl) h2
  obtain ⟨x3, rfl, rfl, rfl, w3⟩ := open_int Tryz.underlying3 (hval 3 3 v3 rfl rfl) h3
  obtain ⟨x4, rfl, rfl, rfl, w4⟩ := open_int Tryz.underlying2 (hval 4 2 v4 rfl rfl) h4
  clear hA0 hval0
  refine (ShadowFits_walk x0 cu1 l1 n1 a1 c1 l2 n2 a2 c2 x3 x4 W (wf_is w0) hn1 hm1 hs1 hn2 hm2 hs2 (wf_is w3) (wf_is w4)).mono fun e W' ⟨he, bel⟩ => ?_
  subst he
  exact ⟨_, rfl, _, _, _, [], _, [], hW', trodAll_mk1 (shut_bool Tryz.underlying4 _), (trodAll_cons_mk (shut_int Tryz.underlying3 w0) (trodAll_cons_mk (Below.trod laidOutShadowFits (by kernel_rfl) (of_decide_eq_true (by kernel_rfl)) k1 bel lt1) (trodAll_cons_mk (Below.trod laidOutShadowFits (by kernel_rfl) (of_decide_eq_true (by kernel_rfl)) k2 bel lt2) (trodAll_cons_mk (shut_int Tryz.underlying3 w3) (trodAll_cons_mk (shut_int Tryz.underlying2 w4) trodAll_mk0))))), rfl, bel.frame _, fun h => by cases h⟩

theorem shadowFits_holds : Rows.ShadowFitsSaid :=
  OpenClaim.holds_of_wide 3 Tryz.f3 rfl rfl rfl rfl rfl rfl rfl ⟨rfl, rfl, rfl, rfl, rfl⟩ rfl rfl rfl rfl rfl (by kernel_rfl) Tryz.func3 (by kernel_rfl)
    (of_decide_eq_true (by kernel_rfl)) (by unfold Func.isWrapper; first | (rw [if_pos (by decide +kernel)]; kernel_rfl) | (rw [if_neg (by decide +kernel)]; exact ⟨rfl, rfl⟩))
    (fun os started H enc _ => shadowFits_lifted os started H enc)
#print axioms shadowFits_holds
end Go.Proofs.YtpdfkomhgeckcaaGreat
