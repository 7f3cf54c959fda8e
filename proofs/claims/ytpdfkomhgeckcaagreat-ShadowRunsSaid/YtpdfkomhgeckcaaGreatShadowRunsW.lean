/- Proved here: the statement ShadowRuns, without conditions of ours (contracts, law, walk; then the row). -/
import Derived.Test.YtpdfkomhgeckcaaGreatShadow
import Derived.Test.YtpdfkomhgeckcaaGreatstrideM
import Derived.Test.YtpdfkomhgeckcaaGreatRows
import Derived.ProofKit
import Derived.Below
namespace Go.Proofs.YtpdfkomhgeckcaaGreat
open Go.ChangeShapes Go.WideShapes Go.ChangeAt Go.RowKit Go.Deep Go.Joins
set_option linter.unusedVariables false
set_option linter.unusedSimpArgs false

/-! ### acts that came in -/
section
variable {H : Type} {enc : TypeId × Value → H} {w : World} {spare : Nat → Bool} {held : Bool}
theorem cAct_21 : Tryz.prog.cellsOf 47 = 4 := by kernel_rfl
set_option maxRecDepth 100000 in
theorem elAct_21 (n : Nat) (cs : List Value) (y : DataW H × List MemPlace) (h : DataW.trod enc Tryz.prog w 0 spare held n 47 cs = some y) : ∃ z : Ac, cs = z.enc := by
  obtain ⟨y0, y1, y2, y3, m, _, hl, h0, h1, h2, h3⟩ := trod_struct4 Tryz.underlying47 h
  rw [cAct_21] at hl
  obtain ⟨a, ha, _⟩ := fld (t := 3) Tryz.underlying3 cInt h0
  obtain ⟨b, hb, _⟩ := fld (t := 3) Tryz.underlying3 cInt h1
  obtain ⟨c, hc, _⟩ := fld (t := 3) Tryz.underlying3 cInt h2
  obtain ⟨d, hd, _⟩ := fld (t := 2) Tryz.underlying2 cI64 h3
  match cs, hl with
  | [u0, u1, u2, u3], _ =>
    simp at ha hb hc hd
    exact ⟨⟨a, b, c, d⟩, by simp [Ac.enc, ha, hb, hc, hd]⟩
set_option maxRecDepth 100000 in
/-- A slice of acts that came in. -/
theorem openActs_21 {b0 : Nat} {v : Value} {d : DataW H} {p : List MemPlace} (hv : Value.okWide Tryz.prog w .any b0 25 v) (h : DataW.Trod enc Tryz.prog w 0 spare held 25 v d p) :
    ∃ (a : Option Addr) (n c : Nat) (l : List Ac), v = .slice a n c ∧ l.length = n ∧ n ≤ maxLen ∧ Sl Ac.enc 4 w a l := by
  obtain ⟨a0, n0, c0, rfl⟩ := okWide_slice Tryz.underlying25 hv
  obtain ⟨fuel, hf⟩ := h
  obtain ⟨a, n, c, l, e1, hl, hm, hs⟩ := open_sl (en := Ac.enc) (k := 4) Tryz.underlying25 cAct_21 (by omega) (fun n cs y h => elAct_21 n cs y h) hf
  simp [Value.cells] at e1
  obtain ⟨rfl, rfl, rfl⟩ := e1
  exact ⟨_, _, _, l, rfl, hl, hm, hs⟩
end

/-! ### acts on a core -/
/-- What stays, whatever is done. -/
structure FA (i : Nat) (tag : Int) (s : CoreS) : Prop where
  ok : CoreOk i ((i : Int) * 1125899906842624) s
  lags : Lags s.q
  tg : s.tag = tag
theorem FA.good {i : Nat} {tag : Int} {s : CoreS} (h : FA i tag s) : goodF (formR s.q) = true := good_of_lags h.ok.ok h.lags
theorem done_q (s : CoreS) (e : Int) : (s.done e).q = s.q ∧ (s.done e).tag = s.tag := by unfold CoreS.done; split <;> exact ⟨rfl, rfl⟩
theorem FA.enter {i : Nat} {tag : Int} {s : CoreS} (h : FA i tag s) (hi : i < 100) (id w lag : Int) : FA (i + 1) tag (s.enter id w lag false) := by
  have h1 := h.ok.enter (by omega) id w lag false
  refine ⟨?_, ?_, ?_⟩
  · rw [show ((i + 1 : Nat) : Int) * 1125899906842624 = (i : Int) * 1125899906842624 + 1125899906842624 by omega]; exact h1
  · unfold CoreS.enter; rw [(done_q _ _).1]; exact h.lags.enter _ id w lag h.ok.ok.len
  · unfold CoreS.enter; rw [(done_q _ _).2]; exact h.tg
theorem FA.leave {i : Nat} {tag : Int} {s : CoreS} (h : FA i tag s) (hi : i < 100) (id : Int) : FA (i + 1) tag (s.leave id) := by
  refine ⟨(h.ok.leave id).mono (Nat.le_refl _) (by omega) (by omega), ?_, ?_⟩
  · unfold CoreS.leave; rw [(done_q _ _).1]; exact h.lags.leave id
  · unfold CoreS.leave; rw [(done_q _ _).2]; exact h.tg
theorem FA.weigh {i : Nat} {tag : Int} {s : CoreS} (h : FA i tag s) (hi : i < 100) (id w : Int) : FA (i + 1) tag (s.weigh id w) := by
  refine ⟨(h.ok.weigh id w).mono (Nat.le_refl _) (by omega) (by omega), ?_, ?_⟩
  · unfold CoreS.weigh; rw [(done_q _ _).1]; exact h.lags.weigh id w
  · unfold CoreS.weigh; rw [(done_q _ _).2]; exact h.tg
theorem FA.run {i : Nat} {tag : Int} {s : CoreS} (h : FA i tag s) (hi : i < 100) : FA (i + 1) tag s.run.1 := by
  have hl : Lags s.ran.1 := by
    unfold CoreS.ran
    obtain ⟨c, hc⟩ := pickis_T h.ok.tag s.q
    have hr := room_T h.ok.tag h.ok.ok h.lags
    rw [hc] at hr ⊢
    exact (h.lags.curs c).charge hr
  refine ⟨(h.ok.run).mono (Nat.le_refl _) (by omega) (by omega), ?_, ?_⟩
  · unfold CoreS.run
    split
    · exact hl
    · split <;> exact hl
  · unfold CoreS.run
    split
    · exact h.tg
    · split <;> exact h.tg
theorem charge_id21 {K : Int} {S : Ln} (h : OkS K S) : 0 ≤ (chargeR S).2.1 ∧ (chargeR S).2.1 ≤ 1073741824 := by
  unfold chargeR
  rcases at_cases S S.cur with ⟨e, _⟩ | ⟨j, x, e, _, _, hx, _⟩
  · rw [e]; simp
  · rw [e]
    have := h.pts x (List.mem_of_getElem? hx)
    simp only
    split
    · simp
    · simp only; omega
theorem ran_bound {i : Nat} {tag : Int} {s : CoreS} (h : FA i tag s) : -9223372036854775808 ≤ s.ran.2.1 ∧ s.ran.2.1 ≤ 9223372036854775807 := by
  have := charge_id21 (pickok_T h.ok.tag h.ok.ok)
  unfold CoreS.ran
  omega
theorem FA.seed {tag : Int} (ht : TagOk tag) {f : Fm} (hg : goodF f = true) : FA 0 tag ⟨tag, seedR f 0, fun _ => 0, 0, 0, 0⟩ :=
  ⟨⟨ht, OkS.seed (by decide) (by decide) hg, by simp, by simp, by simp, by simp, fun _ => by simp, fun _ => by simp, by simp⟩, Lags.seed hg, rfl⟩

set_option maxHeartbeats 3200000 in
set_option maxRecDepth 100000 in
theorem Does {w0 w : World} {F : Nat → Prop} {c p b r : Nat} {s : CoreS} {tag : Int} (h : CSt w0 w F c p b r s) (hf : FA 0 tag s) (l : List Ac) (n : Nat) (a : Option Addr) (k : Nat) (hn : l.length = n) (h100 : n ≤ 100) (hs : Sl Ac.enc 4 w0 a l) :
    Calls Tryz.prog 7 #[.pointer (some ⟨c, 0, none⟩), .slice a n k] w fun e w' => e = .returned (.tuple #[]) ∧ ∃ s' F', FA n tag s' ∧ CSt w0 w' F' c p b r s' := by
  have HC := Lib.hid h
  have HF := Lib.hid hf
  have HS := Lib.hid hs
  have Hn := Lib.hid hn
  clear h hf hs hn
  go_enter Tryz.func7, Tryz.ntmps7
  go_wp2_with fail
  go_loopw [4] (fun i wr => ∃ (j : Nat) (s' : CoreS) (F' : Nat → Prop), j ≤ n ∧ i = .int .i64 j ∧ FA j tag s' ∧ CSt w0 wr F' c p b r s') (fun i _ => n - (intOf i).toNat)
  case atStart => exact ⟨0, s, F, Nat.zero_le _, rfl, HF.out, HC.out⟩
  case round =>
    obtain ⟨j, s', F', hj, rfl, hfa, hc⟩ := hrel
    have hold := hc.old
    by_cases hlt : j < n
    · obtain ⟨r0, off, rfl, hr, hcc⟩ := HS.out (by intro h; have h1 := Hn.out; rw [h] at h1; simp at h1; omega)
      obtain ⟨x, hx⟩ : ∃ x, l[j]? = some x := ⟨_, List.getElem?_eq_getElem (by rw [Hn.out]; exact hlt)⟩
      have e0 := (hold.cell (p := ⟨r0, off + j * 4 + 0, none⟩) hr).trans (hcc j x hx 0 _ rfl)
      have e1 := (hold.cell (p := ⟨r0, off + j * 4 + 1, none⟩) hr).trans (hcc j x hx 1 _ rfl)
      have e2 := (hold.cell (p := ⟨r0, off + j * 4 + 2, none⟩) hr).trans (hcc j x hx 2 _ rfl)
      have e3 := (hold.cell (p := ⟨r0, off + j * 4 + 3, none⟩) hr).trans (hcc j x hx 3 _ rfl)
      simp only [Nat.add_zero] at e0
      have hjn : (j : Int) < n := by omega
      have h99 : j < 100 := by omega
      have Hc := Lib.hid hc
      have HFA := Lib.hid hfa
      have hcd := hc.below ((Below.refl wr.heap.size wr).drew)
      have hnj : ¬ n ≤ j := by omega
      have hwj : IntKind.i64.wrap (j : Int) = j := by simp [IntKind.wrap, IntKind.bits, IntKind.signed]; omega
      have HE := Lib.hid (CorEnter hcd hfa.ok (by omega) (by omega) x.id x.w x.lag false (x := mayE s'.q.l x.id x.w x.lag) rfl)
      have HL := Lib.hid (CorLeave hc hfa.ok (by omega) x.id (S' := (leaveR s'.q x.id).1) (v := (leaveR s'.q x.id).2.1) (x := (leaveR s'.q x.id).2.2) rfl)
      have HW := Lib.hid (CorWeigh hcd hfa.ok (by omega) x.id x.w (S' := (weighR s'.q x.id x.w).1) (x := (weighR s'.q x.id x.w).2) rfl)
      have HR := Lib.hid (CorRun hc hfa.ok (by omega) (s' := s'.run.1) (v := s'.run.2.1) (x := s'.run.2.2) rfl (ran_bound hfa))
      clear hcc hx hc hfa hcd
      by_cases o0 : x.op = 0
      · have b0 : (x.op == 0) = true := by simpa using o0
        go_wp2_with fail
        refine wp_region_chain 60 [0, 0, 0, 6, 14, 30, 0, 0, 192, 448, 960, 0, 0, 6144, 14336, 30720, 65535] [(0, none), (1, none), (2, none), (3, none), (4, none), (5, none), (6, none), (7, none), (8, none), (9, none), (10, none), (11, none), (12, none), (13, none), (14, none), (15, none), (16, some [])] (by kernel_rfl) (by kernel_rfl) (by rfl) ?_; simp only [chain, Obs, List.getElem?_toArray, List.getElem?_cons_zero, List.getElem?_cons_succ]
        go_wp2_with (first
          | (with_reducible refine And.intro (by first | with_reducible exact True.intro | with_reducible rfl | go_simp) ?_)
          | (go_at_call 19; refine HE.out.mono ?_; rintro e w9 ⟨rfl, F9, s9, -, -⟩; have HN := Lib.hid s9; clear s9))
        refine NoPanic.normal ?_
        go_wp2_with fail
        go_roundw
        case rel => exact ⟨j + 1, _, F9, by omega, by go_num, HFA.out.enter h99 _ _ _, HN.out⟩
        case measure => simp [intOf]; omega
      · have b0 : (x.op == 0) = false := by simpa using o0
        by_cases o1 : x.op = 1
        · have b1 : (x.op == 1) = true := by simpa using o1
          go_wp2_with (go_at_call 20; refine HL.out.mono ?_; rintro e w9 ⟨rfl, F9, s9, -, -⟩; have HN := Lib.hid s9; clear s9)
          go_roundw
          case rel => exact ⟨j + 1, _, F9, by omega, by go_num, HFA.out.leave h99 _, HN.out⟩
          case measure => simp [intOf]; omega
        · have b1 : (x.op == 1) = false := by simpa using o1
          by_cases o2 : x.op = 2
          · have b2 : (x.op == 2) = true := by simpa using o2
            go_wp2_with fail
            refine wp_region_chain 60 [0, 0, 0, 6, 14, 30, 0, 0, 192, 448, 960, 2047] [(0, none), (1, none), (2, none), (3, none), (4, none), (5, none), (6, none), (7, none), (8, none), (9, none), (10, none), (11, some [])] (by kernel_rfl) (by kernel_rfl) (by rfl) ?_; simp only [chain, Obs, List.getElem?_toArray, List.getElem?_cons_zero, List.getElem?_cons_succ]
            go_wp2_with (first
              | (with_reducible refine And.intro (by first | with_reducible exact True.intro | with_reducible rfl | go_simp) ?_)
              | (go_at_call 21; refine HW.out.mono ?_; rintro e w9 ⟨rfl, F9, s9, -, -⟩; have HN := Lib.hid s9; clear s9))
            refine NoPanic.normal ?_
            go_wp2_with fail
            go_roundw
            case rel => exact ⟨j + 1, _, F9, by omega, by go_num, HFA.out.weigh h99 _ _, HN.out⟩
            case measure => simp [intOf]; omega
          · have b2 : (x.op == 2) = false := by simpa using o2
            go_wp2_with (go_at_call 16; refine HR.out.mono ?_; rintro e w9 ⟨rfl, F9, s9, -, -⟩; have HN := Lib.hid s9; clear s9)
            go_roundw
            case rel => exact ⟨j + 1, _, F9, by omega, by go_num, HFA.out.run h99, HN.out⟩
            case measure => simp [intOf]; omega
    · obtain rfl : j = n := by omega
      go_wp2_with fail
      go_end0
      exact ⟨rfl, s', F', hfa, hc⟩


/-! ### two cores that go on alike -/
theorem pickT_sh21 {tag : Int} (ht : TagOk tag) (d : Int) (S : Ln) : pickT tag (shS d S) = (shS d (pickT tag S).1, (pickT tag S).2) := by
  rcases ht with rfl | rfl | rfl
  · exact picksh_stride d S
  · exact picksh_fair d S
  · exact picksh_due d S
structure RR (i : Nat) (tag : Int) (s t : CoreS) : Prop where
  a : CoreOk i ((i : Int) * 1125899906842624) s
  b : CoreOk i ((i : Int) * 1125899906842624) t
  sa : s.tag = tag
  tb : t.tag = tag
  q : s.q = shS 4242 t.q
  hi : Hi (((i : Int) + 1) * 1125899906842624) t.q
def actC (s : CoreS) (x : Ac) : CoreS := if x.op = 0 then s.enter x.id x.w x.lag false else if x.op = 1 then s.leave x.id else if x.op = 2 then s.weigh x.id x.w else s.run.1
theorem run_q (s : CoreS) : s.run.1.q = s.ran.1 ∧ s.run.1.tag = s.tag := by
  unfold CoreS.run
  split
  · exact ⟨rfl, rfl⟩
  · split <;> exact ⟨rfl, rfl⟩
section
variable {i : Nat} {tag : Int} {s t : CoreS} (h : RR i tag s t) (hi : i < 200)
include h
theorem RR.form : formR s.q = formR t.q := by rw [h.q, formR_sh]
include hi
theorem RR.ran : s.ran = (shS 4242 t.ran.1, t.ran.2) := by
  have ht := h.b.tag
  obtain ⟨c, hc⟩ := pickis_T ht t.q
  have hh : Hi (((i : Int) + 1) * 1125899906842624) (pickT t.tag t.q).1 := by rw [hc]; exact h.hi.curs c
  unfold CoreS.ran
  rw [h.q, h.sa, ← h.tb, pickT_sh21 ht]
  simp only
  exact chargeR_sh 4242 _ _ hh (by omega) (by omega)
theorem RR.runs : s.run.2 = t.run.2 := by
  have hr := RR.ran h hi
  unfold CoreS.run
  rw [hr]
  simp only
  split
  · rfl
  · split <;> rfl
theorem RR.mk' {B : Nat} {K1 K2 : Int} {s' t' : CoreS} (ha : CoreOk B K1 s') (hb : CoreOk B K2 t') (hB : B ≤ i + 1) (h1 : K1 ≤ (i : Int) * 1125899906842624 + 1125899906842624) (h2 : K2 ≤ (i : Int) * 1125899906842624 + 1125899906842624) (e1 : s'.tag = s.tag) (e2 : t'.tag = t.tag) (hq : s'.q = shS 4242 t'.q) {c : Int} (hh : Hi c t'.q) (hc : c ≤ ((i : Int) + 1) * 1125899906842624 + 1125899906842624) : RR (i + 1) tag s' t' :=
  ⟨ha.mono hB (by omega) (by omega), hb.mono hB (by omega) (by omega), e1.trans h.sa, e2.trans h.tb, hq, hh.mono (by omega)⟩
theorem RR.act (x : Ac) : RR (i + 1) tag (actC s x) (actC t x) := by
  have ett : s.tag = t.tag := h.sa.trans h.tb.symm
  unfold actC
  split
  · refine RR.mk' h hi (h.a.enter (by omega) _ _ _ _) (h.b.enter (by omega) _ _ _ _) (Nat.le_refl _) (Int.le_refl _) (Int.le_refl _) ?_ ?_ ?_ (h.hi.enter (heldT t.tag) x.id x.w x.lag h.b.ok.len |> fun g => (by unfold CoreS.enter; rw [(done_q _ _).1]; exact g : Hi _ (t.enter x.id x.w x.lag false).q)) (Int.le_refl _)
    · unfold CoreS.enter; rw [(done_q _ _).2]
    · unfold CoreS.enter; rw [(done_q _ _).2]
    · unfold CoreS.enter; rw [(done_q _ _).1, (done_q _ _).1]
      show enterR (heldT s.tag) s.q x.id x.w x.lag = shS 4242 (enterR (heldT t.tag) t.q x.id x.w x.lag)
      rw [h.q, ett]; exact enterR_sh _ 4242 _ _ _ _
  · split
    · refine RR.mk' h hi (h.a.leave _) (h.b.leave _) (Nat.le_refl _) (by omega) (by omega) ?_ ?_ ?_ (h.hi.leave x.id |> fun g => (by unfold CoreS.leave; rw [(done_q _ _).1]; exact g : Hi _ (t.leave x.id).q)) (by omega)
      · unfold CoreS.leave; rw [(done_q _ _).2]
      · unfold CoreS.leave; rw [(done_q _ _).2]
      · unfold CoreS.leave; rw [(done_q _ _).1, (done_q _ _).1]
        show (leaveR s.q x.id).1 = shS 4242 (leaveR t.q x.id).1
        rw [h.q, leaveR_sh]
    · split
      · refine RR.mk' h hi (h.a.weigh _ _) (h.b.weigh _ _) (Nat.le_refl _) (by omega) (by omega) ?_ ?_ ?_ (h.hi.weigh x.id x.w |> fun g => (by unfold CoreS.weigh; rw [(done_q _ _).1]; exact g : Hi _ (t.weigh x.id x.w).q)) (by omega)
        · unfold CoreS.weigh; rw [(done_q _ _).2]
        · unfold CoreS.weigh; rw [(done_q _ _).2]
        · unfold CoreS.weigh; rw [(done_q _ _).1, (done_q _ _).1]
          show (weighR s.q x.id x.w).1 = shS 4242 (weighR t.q x.id x.w).1
          rw [h.q, weighR_sh]
      · have hr := RR.ran h hi
        have hh : Hi (((i : Int) + 1) * 1125899906842624 + 1125899906842624) t.run.1.q := by
          rw [(run_q t).1]
          unfold CoreS.ran
          obtain ⟨c, hc⟩ := pickis_T h.b.tag t.q
          refine Hi.charge ?_
          rw [hc]; exact h.hi.curs c
        refine RR.mk' h hi h.a.run h.b.run (Nat.le_refl _) (by omega) (by omega) (run_q s).2 (run_q t).2 ?_ hh (Int.le_refl _)
        rw [(run_q s).1, (run_q t).1, hr]
end
theorem RR.start {n : Nat} {tag tto : Int} {s' : CoreS} (h : FA n tag s') (hn : n ≤ 60) (ht : TagOk tto) : RR 60 tto { s' with tag := tto, q := seedR (formR s'.q) 4242 } ⟨tto, seedR (formR s'.q) 0, fun _ => 0, 0, 0, 0⟩ := by
  have hg := h.good
  have h1 := h.ok
  have o1 : OkS 0 (seedR (formR s'.q) 4242) := OkS.seed (by decide) (by decide) hg
  have o2 : OkS 0 (seedR (formR s'.q) 0) := OkS.seed (by decide) (by decide) hg
  refine ⟨⟨ht, o1.mono (by omega) (by omega), h1.age0, by have := h1.age1; simp only; omega, h1.idle0, by have := h1.idle1; simp only; omega, h1.sv0, fun id => by have := h1.sv1 id; simp only; omega, by have := h1.n1; simp only; omega⟩,
    ⟨ht, o2.mono (by omega) (by omega), by simp, by simp, by simp, by simp, fun _ => by simp, fun _ => by simp, by simp⟩, rfl, rfl, ?_, ?_⟩
  · have := seedR_sh 4242 0 (formR s'.q)
    rw [Int.zero_add] at this
    exact this
  · have := Hi.seed (a := 0) hg
    exact this.mono (by omega)

/-! ### two cores in memory -/
def Two (w0 w : World) (c1 p1 b1 r1 c2 p2 b2 r2 : Nat) (s t : CoreS) : Prop := ∃ F1 F2, CSt w0 w F1 c1 p1 b1 r1 s ∧ CSt w0 w F2 c2 p2 b2 r2 t ∧ ∀ k, cfoot F1 c1 p1 r1 k → ¬ cfoot F2 c2 p2 r2 k
section
variable {w0 w w' : World} {c1 p1 b1 r1 c2 p2 b2 r2 : Nat} {s t s' t' : CoreS} {F1 F2 : Nat → Prop}
theorem Two.left (h1 : CSt w0 w F1 c1 p1 b1 r1 s) (h2 : CSt w0 w F2 c2 p2 b2 r2 t) (hd : ∀ k, cfoot F1 c1 p1 r1 k → ¬ cfoot F2 c2 p2 r2 k) (hn : CNext w0 w F1 c1 p1 b1 r1 s' w') : Two w0 w' c1 p1 b1 r1 c2 p2 b2 r2 s' t := by
  obtain ⟨F', hc, hf, hs⟩ := hn
  have hg : ∀ k, (F1 k ∨ k = c1 ∨ k = r1) → cfoot F1 c1 p1 r1 k := fun k hk => hk.elim .inl (fun h => h.elim (fun h => .inr (.inl h)) (fun h => .inr (.inr (.inr h))))
  refine ⟨F', F2, hc, h2.fr hf (fun k hk hk2 => hd k (hg k hk2) hk) (fun k hk => h1.new k (hg k hk)), fun k hk hk2 => ?_⟩
  rcases hk with h | h
  · rcases hs k h with h | h
    · exact hd k (.inl h) hk2
    · have := h2.lt k hk2; omega
  · exact hd k (.inr h) hk2
theorem Two.right (h1 : CSt w0 w F1 c1 p1 b1 r1 s) (h2 : CSt w0 w F2 c2 p2 b2 r2 t) (hd : ∀ k, cfoot F1 c1 p1 r1 k → ¬ cfoot F2 c2 p2 r2 k) (hn : CNext w0 w F2 c2 p2 b2 r2 t' w') : Two w0 w' c1 p1 b1 r1 c2 p2 b2 r2 s t' := by
  obtain ⟨F1', F2', g1, g2, g3⟩ := Two.left h2 h1 (fun k hk hk2 => hd k hk2 hk) hn
  exact ⟨F2', F1', g2, g1, fun k hk hk2 => g3 k hk2 hk⟩
end
set_option maxHeartbeats 3200000 in
set_option maxRecDepth 100000 in
/-- One act. -/
theorem Does1 {w0 w : World} {F : Nat → Prop} {c p b r : Nat} {s : CoreS} {B : Nat} {K : Int} (h : CSt w0 w F c p b r s) (hk : CoreOk B K s) (hB : B ≤ 1000000000) (hK : K ≤ 1151795604700004352) (x : Ac) (r0 off k : Nat) (hr : r0 < w0.heap.size) (hcc : ∀ i u, (Ac.enc x)[i]? = some u → w0.cell? ⟨r0, off + i, none⟩ = some u) :
    Calls Tryz.prog 7 #[.pointer (some ⟨c, 0, none⟩), .slice (some ⟨r0, off, none⟩) 1 k] w fun e w' => e = .returned (.tuple #[]) ∧ CNext w0 w F c p b r (actC s x) w' := by
  have hold := h.old
  have e0 := (hold.cell (p := ⟨r0, off + 0, none⟩) hr).trans (hcc 0 _ rfl)
  have e1 := (hold.cell (p := ⟨r0, off + 1, none⟩) hr).trans (hcc 1 _ rfl)
  have e2 := (hold.cell (p := ⟨r0, off + 2, none⟩) hr).trans (hcc 2 _ rfl)
  have e3 := (hold.cell (p := ⟨r0, off + 3, none⟩) hr).trans (hcc 3 _ rfl)
  simp only [Nat.add_zero] at e0
  have hcd := h.below ((Below.refl w.heap.size w).drew)
  have hrb : -9223372036854775808 ≤ s.ran.2.1 ∧ s.ran.2.1 ≤ 9223372036854775807 := by
    have := charge_id21 (pickok_T hk.tag hk.ok)
    unfold CoreS.ran
    omega
  have HE := Lib.hid (CorEnter hcd hk hB hK x.id x.w x.lag false (x := mayE s.q.l x.id x.w x.lag) rfl)
  have HL := Lib.hid (CorLeave h hk hB x.id (S' := (leaveR s.q x.id).1) (v := (leaveR s.q x.id).2.1) (x := (leaveR s.q x.id).2.2) rfl)
  have HW := Lib.hid (CorWeigh hcd hk hB x.id x.w (S' := (weighR s.q x.id x.w).1) (x := (weighR s.q x.id x.w).2) rfl)
  have HR := Lib.hid (CorRun h hk hB (s' := s.run.1) (v := s.run.2.1) (x := s.run.2.2) rfl hrb)
  have HDr : ∀ s2 w2, CNext w0 w.drew F c p b r s2 w2 → CNext w0 w F c p b r s2 w2 := fun s2 w2 ⟨F', h1, h2, h3⟩ => ⟨F', h1, ((Fr.refl _ w).drew).trans h2 (fun _ _ h => h), h3⟩
  have HD := Lib.hid HDr
  clear h hk hcc hcd hold HDr
  go_enter Tryz.func7, Tryz.ntmps7
  go_wp2_with fail
  go_loopw [4] (fun i wr => (i = .int .i64 0 ∧ wr = w) ∨ (i = .int .i64 1 ∧ CNext w0 w F c p b r (actC s x) wr)) (fun i _ => 1 - (intOf i).toNat)
  case atStart => exact .inl ⟨rfl, rfl⟩
  case round =>
    rcases hrel with ⟨rfl, rfl⟩ | ⟨rfl, hnx⟩
    · by_cases o0 : x.op = 0
      · have b0 : (x.op == 0) = true := by simpa using o0
        have eA : actC s x = s.enter x.id x.w x.lag false := by unfold actC; rw [if_pos o0]
        rw [eA]
        go_wp2_with fail
        refine wp_region_chain 60 [0, 0, 0, 6, 14, 30, 0, 0, 192, 448, 960, 0, 0, 6144, 14336, 30720, 65535] [(0, none), (1, none), (2, none), (3, none), (4, none), (5, none), (6, none), (7, none), (8, none), (9, none), (10, none), (11, none), (12, none), (13, none), (14, none), (15, none), (16, some [])] (by kernel_rfl) (by kernel_rfl) (by rfl) ?_; simp only [chain, Obs, List.getElem?_toArray, List.getElem?_cons_zero, List.getElem?_cons_succ]
        go_wp2_with (first
          | (with_reducible refine And.intro (by first | with_reducible exact True.intro | with_reducible rfl | go_simp) ?_)
          | (go_at_call 19; refine HE.out.mono ?_; rintro e w9 ⟨rfl, s9⟩; have HN := Lib.hid (HD.out _ _ s9); clear s9))
        refine NoPanic.normal ?_
        go_wp2_with fail
        go_roundw
        case rel => exact .inr ⟨rfl, HN.out⟩
        case measure => simp [intOf]
      · have b0 : (x.op == 0) = false := by simpa using o0
        by_cases o1 : x.op = 1
        · have b1 : (x.op == 1) = true := by simpa using o1
          have eA : actC s x = s.leave x.id := by unfold actC; rw [if_neg o0, if_pos o1]
          rw [eA]
          go_wp2_with (go_at_call 20; refine HL.out.mono ?_; rintro e w9 ⟨rfl, s9⟩; have HN := Lib.hid s9; clear s9)
          go_roundw
          case rel => exact .inr ⟨rfl, HN.out⟩
          case measure => simp [intOf]
        · have b1 : (x.op == 1) = false := by simpa using o1
          by_cases o2 : x.op = 2
          · have b2 : (x.op == 2) = true := by simpa using o2
            have eA : actC s x = s.weigh x.id x.w := by unfold actC; rw [if_neg o0, if_neg o1, if_pos o2]
            rw [eA]
            go_wp2_with fail
            refine wp_region_chain 60 [0, 0, 0, 6, 14, 30, 0, 0, 192, 448, 960, 2047] [(0, none), (1, none), (2, none), (3, none), (4, none), (5, none), (6, none), (7, none), (8, none), (9, none), (10, none), (11, some [])] (by kernel_rfl) (by kernel_rfl) (by rfl) ?_; simp only [chain, Obs, List.getElem?_toArray, List.getElem?_cons_zero, List.getElem?_cons_succ]
            go_wp2_with (first
              | (with_reducible refine And.intro (by first | with_reducible exact True.intro | with_reducible rfl | go_simp) ?_)
              | (go_at_call 21; refine HW.out.mono ?_; rintro e w9 ⟨rfl, s9⟩; have HN := Lib.hid (HD.out _ _ s9); clear s9))
            refine NoPanic.normal ?_
            go_wp2_with fail
            go_roundw
            case rel => exact .inr ⟨rfl, HN.out⟩
            case measure => simp [intOf]
          · have b2 : (x.op == 2) = false := by simpa using o2
            have eA : actC s x = s.run.1 := by unfold actC; rw [if_neg o0, if_neg o1, if_neg o2]
            rw [eA]
            go_wp2_with (go_at_call 16; refine HR.out.mono ?_; rintro e w9 ⟨rfl, s9⟩; have HN := Lib.hid s9; clear s9)
            go_roundw
            case rel => exact .inr ⟨rfl, HN.out⟩
            case measure => simp [intOf]
    · go_wp2_with fail
      go_end0
      exact ⟨rfl, hnx⟩

set_option maxHeartbeats 800000 in
theorem Fill_at {w0 : World} (tag : Int) (f : Fm) (n : Nat) (a : Option Addr) (c : Nat) (w : World) (hb : Below w0.heap.size w0 w) (hn : f.l.length = n) (hs : Sl It.enc 3 w a f.l) (ht : TagOk tag) (hg : goodF f = true) :
    Calls Tryz.prog 6 #[.int .i64 tag, .agg #[.int .i64 f.cur, .slice a n c]] w fun e w' => ∃ cc p b r F, e = .returned (.pointer (some ⟨cc, 0, none⟩)) ∧ CSt w0 w' F cc p b r ⟨tag, seedR f 0, fun _ => 0, 0, 0, 0⟩ ∧ (∀ k, cfoot F cc p r k → w.heap.size ≤ k) ∧ Below w.heap.size w w' := by
  have hb0 := (Below.refl w.heap.size w).alloc (Nat.le_refl _) (.cells #[.int .i64 f.cur, .slice a n c] 24)
  have HS := Lib.hid (CorSeed_ok tag f n a c 0 _ hn (hs.below hb0) ht (by decide) hg)
  clear hs ht hg hn
  go_enter Tryz.func6, Tryz.ntmps6
  go_wp2_with (go_at_call 18; refine HS.out.mono ?_; intro e w1 hp; obtain ⟨cc, p, b, r, F, rfl, hc, hF, hb1⟩ := hp.st (hb.trans (hb0.mono hb.size)); have Hc := Lib.hid hc; have HF := Lib.hid hF; clear hc hp hF)
  go_ret
  exact ⟨cc, p, b, r, F, rfl, Hc.out, fun k hk => Nat.le_trans hb0.size (HF.out k hk), hb0.trans (hb1.mono hb0.size)⟩
set_option maxHeartbeats 800000 in
theorem Fill_err (tag : Int) (f : Fm) (n : Nat) (a : Option Addr) (c : Nat) (w : World) (hn : f.l.length = n) (hl : n ≤ 4611686018427387904) (hs : Sl It.enc 3 w a f.l) (h : ¬ (TagOk tag ∧ goodF f = true)) :
    Calls Tryz.prog 6 #[.int .i64 tag, .agg #[.int .i64 f.cur, .slice a n c]] w fun e w' => e = .returned (.pointer none) ∧ Below w.heap.size w w' := by
  have hb0 := (Below.refl w.heap.size w).alloc (Nat.le_refl _) (.cells #[.int .i64 f.cur, .slice a n c] 24)
  have HS := Lib.hid (CorSeed_err tag f n a c 0 _ hn hl (hs.below hb0) (fun h2 => h ⟨h2.1, h2.2.2⟩))
  clear hs h hn
  go_enter Tryz.func6, Tryz.ntmps6
  go_wp2_with (go_at_call 18; refine HS.out.mono ?_; rintro e w1 ⟨rfl, hb1⟩)
  go_ret
  exact ⟨rfl, hb0.trans (hb1.mono hb0.size)⟩
section
variable {H : Type} {enc : TypeId × Value → H} {w : World} {spare : Nat → Bool} {held : Bool}
set_option maxRecDepth 100000 in
theorem openActs_21c {b0 : Nat} {v : Value} {d : DataW H} {p : List MemPlace} (hv : Value.okWide Tryz.prog w .any b0 25 v) (h : DataW.Trod enc Tryz.prog w 0 spare held 25 v d p) :
    ∃ (a : Option Addr) (n c : Nat) (l : List Ac), v = .slice a n c ∧ l.length = n ∧ n ≤ c ∧ Sl Ac.enc 4 w a l := by
  obtain ⟨a0, n0, c0, rfl⟩ := okWide_slice Tryz.underlying25 hv
  obtain ⟨fuel, hf⟩ := h
  have hlc : n0 ≤ c0 := by
    rcases open_slice Tryz.underlying25 hf with ⟨e, _⟩ | ⟨a, len, cap, m, n, D, Pl, e, hb, hl, hm, hmm, _, hx⟩
    · simp [Value.cells] at e; omega
    · simp [Value.cells] at e; omega
  obtain ⟨a, n, c, l, e1, hl, hm, hs⟩ := open_sl (en := Ac.enc) (k := 4) Tryz.underlying25 cAct_21 (by omega) (fun n cs y h => elAct_21 n cs y h) hf
  simp [Value.cells] at e1
  obtain ⟨rfl, rfl, rfl⟩ := e1
  exact ⟨_, _, _, l, rfl, hl, hlc, hs⟩
end

set_option maxHeartbeats 6400000 in
set_option maxRecDepth 100000 in
theorem ShadowRuns_walk (tag cur : Int) (l : List It) (n : Nat) (a : Option Addr) (c : Nat) (la : List Ac) (na : Nat) (aa : Option Addr) (ca : Nat) (tto : Int) (lb : List Ac) (nb : Nat) (ab : Option Addr) (cb : Nat) (w : World) (htag : I64 tag) (hn : l.length = n) (hnm : n ≤ maxLen) (hs : Sl It.enc 3 w a l) (han : la.length = na) (hac : na ≤ ca) (has : Sl Ac.enc 4 w aa la) (hto : I64 tto) (hbn : lb.length = nb) (hbc : nb ≤ cb) (hbs : Sl Ac.enc 4 w ab lb) :
    Calls Tryz.prog 4 #[.int .i64 tag, .agg #[.int .i64 cur, .slice a n c], .slice aa na ca, .int .i64 tto, .slice ab nb cb] w fun e w' => e = .returned (.bool true) ∧ Below w.heap.size w w' := by
  have HX0 := Lib.hid (heap_new w (.cells #[.int .i64 cur, .slice a n c] 24))
  have HA0 := Lib.hid ((Below.refl w.heap.size w).alloc (Nat.le_refl _) (.cells #[.int .i64 cur, .slice a n c] 24))
  have HS := Lib.hid hs
  have HAs := Lib.hid has
  have HBs := Lib.hid hbs
  have Hn := Lib.hid hn
  have Han := Lib.hid han
  have Hbn := Lib.hid hbn
  unfold maxLen at hnm
  clear hs has hn han hbs hbn
  by_cases h40 : (64 : Int) < n
  · have hx := h40
    go_enter Tryz.func4, Tryz.ntmps4
    go_wp2_with (first
      | (go_at_call 5; refine (awake21 _).mono ?_; rintro e w1 ⟨rfl, hb1⟩; have hX1 := heap_below HX0.out hb1; obtain ⟨g0, g1, y0, y1, gl⟩ := blk2 hX1; have hbA := HA0.out.trans (hb1.mono HA0.out.size); clear hX1)
      )
    all_goals go_ret
    all_goals exact ⟨rfl, hbA⟩
  · by_cases h60 : (60 : Int) < na
    · have hx := h60
      go_enter Tryz.func4, Tryz.ntmps4
      go_wp2_with (first
        | (go_at_call 5; refine (awake21 _).mono ?_; rintro e w1 ⟨rfl, hb1⟩; have hX1 := heap_below HX0.out hb1; obtain ⟨g0, g1, y0, y1, gl⟩ := blk2 hX1; have hbA := HA0.out.trans (hb1.mono HA0.out.size); clear hX1)
        )
      all_goals go_ret
      all_goals exact ⟨rfl, hbA⟩
    · by_cases h61 : (60 : Int) < nb
      · have hx := h61
        go_enter Tryz.func4, Tryz.ntmps4
        go_wp2_with (first
          | (go_at_call 5; refine (awake21 _).mono ?_; rintro e w1 ⟨rfl, hb1⟩; have hX1 := heap_below HX0.out hb1; obtain ⟨g0, g1, y0, y1, gl⟩ := blk2 hX1; have hbA := HA0.out.trans (hb1.mono HA0.out.size); clear hX1)
          )
        all_goals go_ret
        all_goals exact ⟨rfl, hbA⟩
      · by_cases ht0 : tto < 0
        · have hx := ht0
          go_enter Tryz.func4, Tryz.ntmps4
          go_wp2_with (first
            | (go_at_call 5; refine (awake21 _).mono ?_; rintro e w1 ⟨rfl, hb1⟩; have hX1 := heap_below HX0.out hb1; obtain ⟨g0, g1, y0, y1, gl⟩ := blk2 hX1; have hbA := HA0.out.trans (hb1.mono HA0.out.size); clear hX1)
            )
          all_goals go_ret
          all_goals exact ⟨rfl, hbA⟩
        · by_cases ht2 : 2 < tto
          · have hx := ht2
            go_enter Tryz.func4, Tryz.ntmps4
            go_wp2_with (first
              | (go_at_call 5; refine (awake21 _).mono ?_; rintro e w1 ⟨rfl, hb1⟩; have hX1 := heap_below HX0.out hb1; obtain ⟨g0, g1, y0, y1, gl⟩ := blk2 hX1; have hbA := HA0.out.trans (hb1.mono HA0.out.size); clear hX1)
              )
            all_goals go_ret
            all_goals exact ⟨rfl, hbA⟩
          · have htt : TagOk tto := by unfold TagOk; omega
            have Hto := Lib.hid htt
            clear htt
            by_cases hok : TagOk tag ∧ goodF ⟨cur, l⟩ = true
            case neg =>
              have HFl := Lib.hid (fun W (h : Below w.heap.size w W) => Fill_err tag ⟨cur, l⟩ n a c W Hn.out (by omega) (HS.out.below h) hok)
              clear hok
              go_enter Tryz.func4, Tryz.ntmps4
              go_wp2_with (first
                | (go_at_call 5; refine (awake21 _).mono ?_; rintro e w1 ⟨rfl, hb1⟩; have hX1 := heap_below HX0.out hb1; obtain ⟨g0, g1, y0, y1, gl⟩ := blk2 hX1; have hbA := HA0.out.trans (hb1.mono HA0.out.size); clear hX1)
                | (go_at_call 6; refine (HFl.out _ hbA).mono ?_; rintro e w2 ⟨rfl, hb2⟩; have hbB := hbA.trans (hb2.mono hbA.size)))
              go_ret
              exact ⟨rfl, hbB⟩
            case pos =>
              have Hg := Lib.hid hok.2
              have Ht := Lib.hid hok.1
              have HFl := Lib.hid (fun W (h : Below w.heap.size w W) => Fill_at (w0 := W) tag ⟨cur, l⟩ n a c W (Below.refl _ _) Hn.out (HS.out.below h) hok.1 hok.2)
              clear hok
              go_enter Tryz.func4, Tryz.ntmps4
              go_wp2_with (first
                | (go_at_call 5; refine (awake21 _).mono ?_; rintro e w1 ⟨rfl, hb1⟩; have hX1 := heap_below HX0.out hb1; obtain ⟨g0, g1, y0, y1, gl⟩ := blk2 hX1; have hbA := HA0.out.trans (hb1.mono HA0.out.size); clear hX1)
                | (go_at_call 6; first
                  | ((with_reducible refine (HFl2.out).mono ?_); rintro e w7 ⟨c2, p3, b3, r2, F2, rfl, hc7, hn7, hb7⟩; have H7 := Lib.hid hc7; have HN7 := Lib.hid hn7; have HB7 := Lib.hid hb7; clear hc7 hn7 hb7)
                  | ((with_reducible refine (HFl.out _ hbA).mono ?_); rintro e w2 ⟨cc, p, b, r, F, rfl, hc, -, -⟩; have Hc := Lib.hid hc; have HD := Lib.hid (Does hc (FA.seed Ht.out Hg.out) la na aa ca Han.out (by omega) (HAs.out.below hbA)); have HbA := Lib.hid hbA; clear hc))
                | (go_at_call 7; refine HD.out.mono ?_; rintro e w3 ⟨rfl, s', F', hfa, hc3⟩; have HFA := Lib.hid hfa; have H3 := Lib.hid hc3; have HTu := Lib.hid (Turn_ok hc3 hfa.ok.tag hfa.ok.ok rfl hfa.good tto 4242 Hto.out (by decide)); clear hfa hc3)
                | (go_at_call 10; refine HTu.out.mono ?_; rintro e w4 ⟨p2, b2, H, rfl, hq, hH, hb4⟩; have HQ4 := Lib.hid hq; have H4 := Lib.hid (H3.out.below hb4); have Hd := Lib.hid (fun q (hq1 : H q ∨ q = p2) (hq2 : cfoot F' cc p r q) => (by have h1 := hH q hq1; have h2 := H3.out.lt q hq2; omega : False)); clear hq hH)
                | (go_at_call 15; refine (CorChange_ok H4.out HQ4.out HFA.out.ok.tag Hto.out HFA.out.ok.ok (OkS.seed (by decide) (by decide) HFA.out.good) Hd.out (form_seed _ _)).mono ?_; rintro e w5 ⟨rfl, hc5, -⟩; have H5 := Lib.hid hc5; have HTg := Lib.hid (CorTag hc5); have hF5 := CorForm hc5 Hto.out (OkS.seed (by decide) (by decide) HFA.out.good); have hfs := form_seed (formR s'.q) 4242; have hF6 : FormPost w5 (formR s'.q).cur (formR s'.q).l = FormPost w5 (seedR (formR s'.q) 4242).cur ((seedR (formR s'.q) 4242).l.map (itOf (seedR (formR s'.q) 4242).base)) := (by rw [show (seedR (formR s'.q) 4242).cur = (formR s'.q).cur from rfl, show (seedR (formR s'.q) 4242).l.map (itOf (seedR (formR s'.q) 4242).base) = (formR s'.q).l from congrArg Fm.l hfs]); have HFm := Lib.hid (hF6 ▸ hF5); have HG9 := Lib.hid HFA.out.good; clear hc5 hF5 hfs hF6)
                | (go_at_call 14; refine HTg.out.mono ?_; rintro e w8 ⟨rfl, rfl⟩)
                | (go_at_call 8; refine HFm.out.mono ?_; rintro e w6 ⟨a6, c6, rfl, ho6, hb6⟩; have H6 := Lib.hid (H5.out.below hb6); have HFl2 := Lib.hid (Fill_at (w0 := w1) tto (formR s'.q) (formR s'.q).l.length a6 c6 w6 H6.out.old rfl (Sl.of_own It.len ho6) Hto.out HG9.out); clear ho6))
              go_loopw [15] (fun i wr => ∃ (j : Nat) (s t : CoreS), j ≤ nb ∧ i = .int .i64 j ∧ RR (60 + j) tto s t ∧ Two w1 wr cc p2 b2 r c2 p3 b3 r2 s t) (fun i _ => nb - (intOf i).toNat)
              case atStart => exact ⟨0, _, _, Nat.zero_le _, rfl, RR.start HFA.out (by omega) Hto.out, H, F2, H6.out.below HB7.out, H7.out, fun k hk hk2 => by have h1 := HN7.out k hk2; have h2 := H6.out.lt k hk; omega⟩
              case round =>
                obtain ⟨j, s, t, hj, rfl, hRR, F1, F2', h1, h2, hd⟩ := hrel
                have hold := h1.old
                by_cases hlt : j < nb
                · obtain ⟨r0, off, rfl, hr, hcc⟩ := HBs.out (by intro h; have h1 := Hbn.out; rw [h] at h1; simp at h1; omega)
                  obtain ⟨x, hx⟩ : ∃ x, lb[j]? = some x := ⟨_, List.getElem?_eq_getElem (by rw [Hbn.out]; exact hlt)⟩
                  have hcw : ∀ i u, (Ac.enc x)[i]? = some u → w1.cell? ⟨r0, off + j * 4 + i, none⟩ = some u := fun i u hi => (HbA.out.cell (p := ⟨r0, off + j * 4 + i, none⟩) hr).trans (hcc j x hx i u hi)
                  have hr1 : r0 < w1.heap.size := Nat.lt_of_lt_of_le hr HbA.out.size
                  have e0 := (hold.cell (p := ⟨r0, off + j * 4 + 0, none⟩) hr1).trans (hcw 0 _ rfl)
                  simp only [Nat.add_zero] at e0
                  have h200 : 60 + j < 200 := by omega
                  have hjn : (j : Int) < nb := by omega
                  have hcj : ¬ cb = j := by omega
                  have hA := hRR.act h200 x
                  have hfr := hA.form
                  obtain ⟨cu, hcu⟩ : ∃ z, (actC t x).q.cur = z := ⟨_, rfl⟩
                  obtain ⟨L, hL⟩ : ∃ z, (actC t x).q.l.map (itOf (actC t x).q.base) = z := ⟨_, rfl⟩
                  have hcu2 : (actC s x).q.cur = cu := (congrArg Fm.cur hfr).trans hcu
                  have hL2 : (actC s x).q.l.map (itOf (actC s x).q.base) = L := (congrArg Fm.l hfr).trans hL
                  have hL64 : L.length ≤ 64 := by rw [← hL, List.length_map]; exact hA.b.ok.len
                  have HFc := fun W F (h : CSt w1 W F cc p2 b2 r (actC s x)) => CorForm h hA.a.tag hA.a.ok
                  have HFd := fun W F (h : CSt w1 W F c2 p3 b3 r2 (actC t x)) => CorForm h hA.b.tag hA.b.ok
                  rw [hcu2, hL2] at HFc
                  rw [hcu, hL] at HFd
                  have HFc := Lib.hid HFc
                  have HFd := Lib.hid HFd
                  have HAA := Lib.hid hA
                  have G1 := Lib.hid h1
                  have G2 := Lib.hid h2
                  have GD := Lib.hid hd
                  by_cases o3 : x.op = 3
                  · have b3' : (x.op == 3) = true := by simpa using o3
                    have eAs : actC s x = s.run.1 := by unfold actC; rw [if_neg (by omega), if_neg (by omega), if_neg (by omega)]
                    have eAt : actC t x = t.run.1 := by unfold actC; rw [if_neg (by omega), if_neg (by omega), if_neg (by omega)]
                    obtain ⟨v1, hv1⟩ : ∃ z, t.run.2.1 = z := ⟨_, rfl⟩
                    obtain ⟨e1, he1⟩ : ∃ z, t.run.2.2 = z := ⟨_, rfl⟩
                    have hrt : t.run = (actC t x, v1, e1) := by rw [eAt, ← hv1, ← he1]
                    have hrs : s.run = (actC s x, v1, e1) := by
                      have hh := hRR.runs h200
                      rw [eAs, ← hv1, ← he1, ← hh]
                    have hbd : ∀ q : CoreS, CoreOk (60 + j) (((60 + j : Nat) : Int) * 1125899906842624) q → -9223372036854775808 ≤ q.ran.2.1 ∧ q.ran.2.1 ≤ 9223372036854775807 := fun q hq => by
                      have := charge_id21 (pickok_T hq.tag hq.ok)
                      unfold CoreS.ran
                      omega
                    have HR1 := Lib.hid (CorRun h1 hRR.a (by omega) hrs (hbd s hRR.a))
                    have HR2 := Lib.hid (fun W F (h : CSt w1 W F c2 p3 b3 r2 t) => CorRun h hRR.b (by omega) hrt (hbd t hRR.b))
                    have nv : (v1 != v1) = false := by simp
                    have ne : (e1 != e1) = false := by simp
                    clear hcc hcw hx hA hfr hcu hL hcu2 hL2 hRR h1 h2 hd eAs eAt hv1 he1 hrt hrs hbd hold
                    go_wp2_with (first
                      | (go_at_call 16; first
                        | ((with_reducible refine (HR2.out _ _ K2.out).mono ?_); rintro e w9 ⟨rfl, hn9⟩; obtain ⟨J1, J2, j1, j2, jd⟩ := Two.right K1.out K2.out KD.out hn9; have M1 := Lib.hid j1; have M2 := Lib.hid j2; have MD := Lib.hid jd; clear hn9 j1 j2 jd)
                        | ((with_reducible refine HR1.out.mono ?_); rintro e w8 ⟨rfl, hn8⟩; obtain ⟨I1, I2, k1, k2, kd⟩ := Two.left G1.out G2.out GD.out hn8; have K1 := Lib.hid k1; have K2 := Lib.hid k2; have KD := Lib.hid kd; clear hn8 k1 k2 kd))
                      | (go_at_call 8; first
                        | ((with_reducible refine (HFd.out _ _ N2.out).mono ?_); rintro e w11 ⟨a11, c11, rfl, ho11, hb11⟩; have Hs11 := Lib.hid (Sl.of_own It.len ho11); have Hw11 := Lib.hid (Hs10.out.below hb11); have O1 := Lib.hid (N1.out.below hb11); have O2 := Lib.hid (N2.out.below hb11); clear ho11)
                        | ((with_reducible refine (HFc.out _ _ M1.out).mono ?_); rintro e w10 ⟨a10, c10, rfl, ho10, hb10⟩; have Hs10 := Lib.hid (Sl.of_own It.len ho10); have N1 := Lib.hid (M1.out.below hb10); have N2 := Lib.hid (M2.out.below hb10); clear ho10))
                      | (go_at_call 11; refine (SameF_any cu cu L L _ _ a10 a11 c10 c11 _ rfl rfl (by omega) (by omega) Hw11.out Hs11.out (decide_eq_true rfl)).mono ?_; rintro e w12 ⟨rfl, hb12⟩; have Q1 := Lib.hid (O1.out.below hb12); have Q2 := Lib.hid (O2.out.below hb12))
                      )
                    go_roundw
                    case rel => exact ⟨j + 1, _, _, by omega, by go_num, HAA.out, J1, J2, Q1.out, Q2.out, MD.out⟩
                    case measure => simp [intOf]; omega
                  · have b3' : (x.op == 3) = false := by simpa using o3
                    have HD1 := Lib.hid (Does1 h1 hRR.a (by omega) (by omega) x r0 (off + j * 4) (cb - j) hr1 hcw)
                    have HD2 := Lib.hid (fun W F (h : CSt w1 W F c2 p3 b3 r2 t) => Does1 h hRR.b (by omega) (by omega) x r0 (off + j * 4) (cb - j) hr1 hcw)
                    clear hcc hcw hx hA hfr hcu hL hcu2 hL2 hRR h1 h2 hd hold
                    go_wp2_with (first
                      | (go_at_call 7; first
                        | ((with_reducible refine (HD2.out _ _ K2.out).mono ?_); rintro e w9 ⟨rfl, hn9⟩; obtain ⟨J1, J2, j1, j2, jd⟩ := Two.right K1.out K2.out KD.out hn9; have M1 := Lib.hid j1; have M2 := Lib.hid j2; have MD := Lib.hid jd; clear hn9 j1 j2 jd)
                        | ((with_reducible refine HD1.out.mono ?_); rintro e w8 ⟨rfl, hn8⟩; obtain ⟨I1, I2, k1, k2, kd⟩ := Two.left G1.out G2.out GD.out hn8; have K1 := Lib.hid k1; have K2 := Lib.hid k2; have KD := Lib.hid kd; clear hn8 k1 k2 kd))
                      | (go_at_call 8; first
                        | ((with_reducible refine (HFd.out _ _ N2.out).mono ?_); rintro e w11 ⟨a11, c11, rfl, ho11, hb11⟩; have Hs11 := Lib.hid (Sl.of_own It.len ho11); have Hw11 := Lib.hid (Hs10.out.below hb11); have O1 := Lib.hid (N1.out.below hb11); have O2 := Lib.hid (N2.out.below hb11); clear ho11)
                        | ((with_reducible refine (HFc.out _ _ M1.out).mono ?_); rintro e w10 ⟨a10, c10, rfl, ho10, hb10⟩; have Hs10 := Lib.hid (Sl.of_own It.len ho10); have N1 := Lib.hid (M1.out.below hb10); have N2 := Lib.hid (M2.out.below hb10); clear ho10))
                      | (go_at_call 11; refine (SameF_any cu cu L L _ _ a10 a11 c10 c11 _ rfl rfl (by omega) (by omega) Hw11.out Hs11.out (decide_eq_true rfl)).mono ?_; rintro e w12 ⟨rfl, hb12⟩; have Q1 := Lib.hid (O1.out.below hb12); have Q2 := Lib.hid (O2.out.below hb12))
                      )
                    go_roundw
                    case rel => exact ⟨j + 1, _, _, by omega, by go_num, HAA.out, J1, J2, Q1.out, Q2.out, MD.out⟩
                    case measure => simp [intOf]; omega
                · go_wp2_with fail
                  go_ret
                  exact ⟨rfl, HbA.out.trans (hold.mono HbA.out.size)⟩
end Go.Proofs.YtpdfkomhgeckcaaGreat
/- Proved here: the statement ShadowRuns, without conditions of ours. -/
namespace Go.Proofs.YtpdfkomhgeckcaaGreat
open Go.ChangeShapes Go.WideShapes Go.ChangeAt Go.RowKit
set_option linter.unusedVariables false

theorem ownShadowRuns : ownKnob Tryz.prog.godebug = none := by kernel_rfl
theorem laidOutShadowRuns : laidOutB Tryz.prog = true := by kernel_rfl
set_option maxRecDepth 100000 in
set_option maxHeartbeats 1000000 in
theorem shadowRuns_lifted (os : Os) (started : os.Started) (H : Type) (enc : TypeId × Value → H) :
    ReturnsInHanded {} Tryz.checked os 4 .any (Rows.shadowRunsSpec.pre6 enc Tryz.prog Tryz.f4 Rows.shadowRunsRow.domain false) (Rows.shadowRunsSpec.post enc Tryz.prog Tryz.f4 false true false false) := by
  refine returnsInHanded_of_change (C := Tryz.checked) ownShadowRuns started (by kernel_rfl) Tryz.func4
    (ChangeSpec.witness6 (enc := enc) (C := Tryz.checked) false ⟨#[], #[.int .i64 0, .agg #[.int .i64 0, .slice none 0 0], .slice none 0 0, .int .i64 0, .slice none 0 0], []⟩ 8 (by kernel_rfl) (by kernel_rfl) (by kernel_rfl) (by kernel_rfl)) ?_
  intro W base args ds gs before hval0 hW hcnd _
  have hval : ∀ (j : Nat) t v, Tryz.f4.params[j]? = some t → args[j]? = some v → Value.okWide Tryz.prog W .any base t v := hval0
  have hW' := hW
  obtain ⟨p, q, hA0, hV, rfl, hfz, hnd⟩ := hW
  have hA : DataW.TrodAll enc Tryz.prog W 0 (fun _ => true) true Tryz.f4.params.toList args.toList ds p := hA0
  rw [ Tryz.params4 ] at hA hval
  obtain ⟨v0, vs0, d0, ds0, p0, q0, hargs, rfl, rfl, h0, r0⟩ := trodAll_cons hA
  obtain ⟨v1, vs1, d1, ds1, p1, q1, rfl, rfl, rfl, h1, r1⟩ := trodAll_cons r0
  obtain ⟨v2, vs2, d2, ds2, p2, q2, rfl, rfl, rfl, h2, r2⟩ := trodAll_cons r1
  obtain ⟨v3, vs3, d3, ds3, p3, q3, rfl, rfl, rfl, h3, r3⟩ := trodAll_cons r2
  obtain ⟨v4, vs4, d4, ds4, p4, q4, rfl, rfl, rfl, h4, r4⟩ := trodAll_cons r3
  obtain ⟨rfl, rfl, rfl⟩ := trodAll_nil r4
  obtain rfl : args = #[v0, v1, v2, v3, v4] := by cases args; simp_all
  obtain ⟨rfl, rfl⟩ := trodVars_none hV
  obtain ⟨x0, rfl, rfl, rfl, w0⟩ := open_int Tryz.underlying3 (hval 0 3 v0 rfl rfl) h0
  have k1 := h1
  have lt1 : ∀ x ∈ p1, x.block < W.heap.size := by obtain ⟨m, hm⟩ := k1; exact DataW.trod_lt m _ _ _ hm
  obtain ⟨cu1, a1, n1, c1, l1, rfl, hn1, hm1, hs1, hi1⟩ := open_form (hval 1 24 v1 rfl rfl) h1
  have k2 := h2
  have lt2 : ∀ x ∈ p2, x.block < W.heap.size := by obtain ⟨m, hm⟩ := k2; exact DataW.trod_lt m _ _ _ hm
  obtain ⟨a2, n2, c2, l2, rfl, hn2, hm2, hs2⟩ := openActs_21c (hval 2 25 v2 rfl rfl) h2
  obtain ⟨x3, rfl, rfl, rfl, w3⟩ := open_int Tryz.underlying3 (hval 3 3 v3 rfl rfl) h3
  have k4 := h4
  have lt4 : ∀ x ∈ p4, x.block < W.heap.size := by obtain ⟨m, hm⟩ := k4; exact DataW.trod_lt m _ _ _ hm
  obtain ⟨a4, n4, c4, l4, rfl, hn4, hm4, hs4⟩ := openActs_21c (hval 4 25 v4 rfl rfl) h4
  clear hA0 hval0
  refine (ShadowRuns_walk x0 cu1 l1 n1 a1 c1 l2 n2 a2 c2 x3 l4 n4 a4 c4 W (wf_is w0) hn1 hm1 hs1 hn2 hm2 hs2 (wf_is w3) hn4 hm4 hs4).mono fun e W' ⟨he, bel⟩ => ?_
  subst he
  exact ⟨_, rfl, _, _, _, [], _, [], hW', trodAll_mk1 (shut_bool Tryz.underlying4 _), (trodAll_cons_mk (shut_int Tryz.underlying3 w0) (trodAll_cons_mk (Below.trod laidOutShadowRuns (by kernel_rfl) (of_decide_eq_true (by kernel_rfl)) k1 bel lt1) (trodAll_cons_mk (Below.trod laidOutShadowRuns (by kernel_rfl) (of_decide_eq_true (by kernel_rfl)) k2 bel lt2) (trodAll_cons_mk (shut_int Tryz.underlying3 w3) (trodAll_cons_mk (Below.trod laidOutShadowRuns (by kernel_rfl) (of_decide_eq_true (by kernel_rfl)) k4 bel lt4) trodAll_mk0))))), rfl, bel.frame _, fun h => by cases h⟩

theorem shadowRuns_holds : Rows.ShadowRunsSaid :=
  OpenClaim.holds_of_wide 4 Tryz.f4 rfl rfl rfl rfl rfl rfl rfl ⟨rfl, rfl, rfl, rfl, rfl⟩ rfl rfl rfl rfl rfl (by kernel_rfl) Tryz.func4 (by kernel_rfl)
    (of_decide_eq_true (by kernel_rfl)) (by unfold Func.isWrapper; first | (rw [if_pos (by decide +kernel)]; kernel_rfl) | (rw [if_neg (by decide +kernel)]; exact ⟨rfl, rfl⟩))
    (fun os started H enc _ => shadowRuns_lifted os started H enc)
#print axioms shadowRuns_holds
end Go.Proofs.YtpdfkomhgeckcaaGreat
