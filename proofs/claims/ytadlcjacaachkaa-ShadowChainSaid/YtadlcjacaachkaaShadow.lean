/- The law's functions of layer 21: ShadowMakes, ShadowChain. -/
import Derived.Test.YtadlcjacaachkaaShT
import Derived.Test.YtadlcjacaachkaaArg
namespace Go.Proofs.Ytadlcjacaachkaa
open Go.ChangeShapes Go.WideShapes Go.ChangeAt Go.RowKit Go.Deep Go.Joins
set_option linter.unusedVariables false
set_option linter.unusedSimpArgs false

/-! ### bytes that came in -/
abbrev BtB := {z : Int // Byte z}
instance : Inhabited BtB := ⟨⟨0, by unfold Byte; decide⟩⟩
def encBt (x : BtB) : List Value := [.int .u8 x.1]
section
variable {H : Type} {enc : TypeId × Value → H} {w : World} {spare : Nat → Bool} {held : Bool}
theorem cU8 : Try.prog.cellsOf 5 = 1 := by kernel_rfl
theorem wf_u8 {n : Int} (h : (Lit.int .u8 n).wf = true) : Byte n := by
  have h1 : IntKind.u8.min = 0 := by decide +kernel
  have h2 : IntKind.u8.max = 255 := by decide +kernel
  simp [Lit.wf, h1, h2] at h
  exact h
theorem elByte (n : Nat) (cs : List Value) (y : DataW H × List MemPlace) (h : DataW.trod enc Try.prog w 0 spare held n 5 cs = some y) : ∃ z : BtB, cs = encBt z := by
  obtain ⟨z, h1, _, h2⟩ := DataW.trod_int Try.underlying5 h
  exact ⟨⟨z, wf_u8 h2⟩, h1⟩
theorem Sl.bts {a : Option Addr} {l : List BtB} (h : Sl encBt 1 w a l) : Sl encU 1 w a (l.map Subtype.val) := by
  intro hne
  obtain ⟨r, off, e, hr, hc⟩ := h (fun e => hne (by rw [e]; rfl))
  refine ⟨r, off, e, hr, fun j z hz i u hu => ?_⟩
  rw [List.getElem?_map] at hz
  cases hj : l[j]? with
  | none => rw [hj] at hz; simp at hz
  | some y =>
    rw [hj] at hz
    simp only [Option.map_some, Option.some.injEq] at hz
    subst hz
    exact hc j y hj i u hu
set_option maxRecDepth 100000 in
theorem open_bytes {b0 : Nat} {v : Value} {d : DataW H} {p : List MemPlace} (hv : Value.okWide Try.prog w .any b0 22 v) (h : DataW.Trod enc Try.prog w 0 spare held 22 v d p) :
    ∃ (a : Option Addr) (n c : Nat) (l : List Int), v = .slice a n c ∧ l.length = n ∧ n ≤ c ∧ Sl encU 1 w a l ∧ ∀ x ∈ l, Byte x := by
  obtain ⟨a0, n0, c0, rfl⟩ := okWide_slice Try.underlying22 hv
  obtain ⟨fuel, hf⟩ := h
  have hlc : n0 ≤ c0 := by
    rcases open_slice Try.underlying22 hf with ⟨e, _⟩ | ⟨a, len, cap, m, n, D, Pl, e, hb, hl, hm, hmm, _, hx⟩
    · simp [Value.cells] at e; omega
    · simp [Value.cells] at e; omega
  obtain ⟨a, n, c, l, e1, hl, hm, hs⟩ := open_sl (en := encBt) (k := 1) Try.underlying22 cU8 (by omega) (fun n cs y h => elByte n cs y h) hf
  simp [Value.cells] at e1
  obtain ⟨rfl, rfl, rfl⟩ := e1
  refine ⟨_, _, _, l.map Subtype.val, rfl, by rw [List.length_map]; exact hl, hlc, hs.bts, fun x hx => ?_⟩
  obtain ⟨y, _, rfl⟩ := List.mem_map.1 hx
  exact y.2
end

/-! ### what both laws look at first -/
theorem fieldForm21 (W : World) (cu : Int) (a : Option Addr) (n k : Nat) : (Instr.field 26 (.agg #[.int .i64 cu, .slice a n k]) 1).run Try.prog W = .ok (.slice a n k) W := by kernel_rfl
set_option maxHeartbeats 1600000 in
set_option maxRecDepth 100000 in
theorem awake21 (w : World) : Calls Try.prog 5 #[] w fun e w' => e = .returned (.bool true) ∧ Below w.heap.size w w' := by
  have HN := Lib.hid (CorNew_ok 0 0 w (by decide) (by decide))
  have HT := Lib.hid (fun W (F : Nat → Prop) c p b r (h : CSt w W F c p b r ⟨0, ⟨0, -1, []⟩, fun _ => 0, 0, 0, 0⟩) => Turn_ok h (by decide) (OkS.new (by decide) (by decide)) (f := ⟨-1, []⟩) rfl (by decide) 1 5 (by decide) (by decide))
  have hk : OkS 0 (seedR ⟨-1, []⟩ 5) := OkS.seed (by decide) (by decide) (by decide)
  have Hk := Lib.hid hk
  clear hk
  go_enter Try.func5, Try.ntmps5
  go_wp2_with (first
    | (go_at_call 15; refine HN.out.mono ?_; rintro e w1 ⟨c, p, b, r, F, rfl, hc, hb1⟩; have Hc := Lib.hid hc; clear hc)
    | (go_at_call 11; refine (HT.out _ _ _ _ _ _ Hc.out).mono ?_; rintro e w2 ⟨p2, b2, H, rfl, hq, _, hb2⟩; obtain ⟨FN, hmf, hef, HQb⟩ := ifForm 1 (by decide) b2; obtain ⟨q0, q1, z0, z1, qlt⟩ := blk2 hq.cell; have HQ0 := HQb.out hq.q Hk.out; rw [show (seedR ⟨-1, []⟩ 5).cur = -1 from rfl, show (seedR ⟨-1, []⟩ 5).l.map (itOf (seedR ⟨-1, []⟩ 5).base) = ([] : List It) from rfl] at HQ0; have HQ := Lib.hid HQ0; clear HQ0; have HTag := Lib.hid (PolTag hq.pm); have hb3 := hb1.trans (hb2.mono hb1.size); clear hq HQb)
    | (go_at_call 8; refine HTag.out.mono ?_; rintro e w3 ⟨rfl, rfl⟩)
    | (go_at_fn FN; refine HQ.out.mono ?_; rintro e w4 ⟨a4, c4, rfl, _, hb4⟩; have hff := fieldForm21 w4 (-1) a4 0 c4))
  go_ret
  exact ⟨rfl, hb3.trans (hb4.mono hb3.size)⟩

set_option maxHeartbeats 3200000 in
set_option maxRecDepth 100000 in
theorem ShadowMakes_walk (l : List Int) (n : Nat) (a : Option Addr) (c : Nat) (tag : Int) (w : World) (hn : l.length = n) (hc : n ≤ c) (hB : ∀ x ∈ l, Byte x) (hs : Sl encU 1 w a l) :
    Calls Try.prog 3 #[.slice a n c, .int .i64 tag] w fun e w' => e = .returned (.bool true) ∧ Below w.heap.size w w' := by
  by_cases h12 : (1200 : Int) < n
  · clear hs hB hn
    go_enter Try.func3, Try.ntmps3
    go_wp2_with (go_at_call 5; refine (awake21 _).mono ?_; rintro e w1 ⟨rfl, hb1⟩)
    go_ret
    exact ⟨rfl, hb1⟩
  · have hl : n ≤ 1000000 := by omega
    have HR := Lib.hid (fun W (h : Below w.heap.size w W) => ElderRead l n a c W hn hl hc hB (hs.below h) (R := readE l) rfl)
    by_cases ht : TagOk tag
    · have t0 : ¬ tag < 0 := by unfold TagOk at ht; omega
      have t2 : ¬ 2 < tag := by unfold TagOk at ht; omega
      have td0 : decide (tag < 0) = false := decide_eq_false t0
      have td2 : decide (2 < tag) = false := decide_eq_false t2
      by_cases he : (readE l).2.2 = 0
      · have HM := Lib.hid (fun W (h : Below w.heap.size w W) => Make_ok l tag 0 n a c W hn hl hc hB (hs.below h) ht (by decide) (f := (readE l).2.1) rfl he)
        have hgd := readE_good he
        generalize readE l = R at *
        obtain ⟨r1, f, r3⟩ := R
        simp only at he hgd
        subst he
        unfold goodC at hgd
        rw [Bool.and_eq_true] at hgd
        have hk : OkS 0 (seedR f 0) := OkS.seed (by decide) (by decide) hgd.2
        have e3 : (seedR f 0).cur = f.cur := rfl
        have e4 : (seedR f 0).l.map (itOf (seedR f 0).base) = f.l := congrArg Fm.l (form_seed f 0)
        have hf64 : f.l.length ≤ 64 := (goodF_P hgd.2).1
        have Hk := Lib.hid hk
        have Ht := Lib.hid ht
        have E3 := Lib.hid e3
        have E4 := Lib.hid e4
        clear hs hB hn hgd hk ht e3 e4
        go_enter Try.func3, Try.ntmps3
        go_wp2_with (first
          | (go_at_call 5; refine (awake21 _).mono ?_; rintro e w1 ⟨rfl, hb1⟩)
          | (go_at_call 6; refine (HR.out _ hb1).mono ?_; rintro e w2 ⟨fa, fc, rfl, ho2, hb2⟩; have hX2 := Lib.hid (heap_new w2 (.cells #[.int .i64 f.cur, .slice fa f.l.length fc] 26)); have Hs2 := Lib.hid ((Sl.of_own It.len ho2).below ((Below.refl _ _).alloc (Nat.le_refl _) (.cells #[.int .i64 f.cur, .slice fa f.l.length fc] 26))); have hb3 := (hb1.trans (hb2.mono hb1.size)).alloc (Nat.le_trans hb1.size hb2.size) (.cells #[.int .i64 f.cur, .slice fa f.l.length fc] 26); clear ho2)
          | (go_at_call 7; refine (HM.out _ hb3).mono ?_; intro e w4 hp; obtain ⟨p2, b2, H, rfl, hq, hH, hb4⟩ := hp.st hb3; have Hq := Lib.hid hq; have hX4 := heap_below hX2.out hb4; obtain ⟨g0, g1, y0, y1, gl⟩ := blk2 hX4; have HX4 := Lib.hid hX4; have Hs4 := Lib.hid (Hs2.out.below hb4); have hb5 := hb3.trans (hb4.mono hb3.size); clear hq hH hp hX4))
        obtain ⟨FN, hmf, hef, HQb⟩ := ifForm tag Ht.out b2
        obtain ⟨q0, q1, z0, z1, qlt⟩ := blk2 Hq.out.cell
        have HTag := Lib.hid (PolTag (Hq.out.below ((Below.refl w4.heap.size w4).drew)).pm)
        have HQ := HQb.out (w := w4.drew) (Hq.out.below ((Below.refl w4.heap.size w4).drew)).q Hk.out
        rw [E3.out, E4.out] at HQ
        have HQ := Lib.hid HQ
        have hb6 := hb5.drew
        clear HQb
        refine wp_region_chain 69 [0, 1, 3, 7, 15, 31, 63, 127, 255, 127, 1023, 2047, 4095, 8191, 16383, 32767, 65535, 131071, 8191, 524287, 1048575, 2097151] [(0, none), (1, none), (2, none), (3, none), (4, none), (5, none), (6, none), (7, none), (9, none), (8, some [9]), (10, none), (11, none), (12, none), (13, none), (14, none), (15, none), (16, none), (18, none), (17, some [18]), (19, some []), (20, none), (21, none)] (by kernel_rfl) (by kernel_rfl) (by rfl) ?_; simp only [chain, Obs, List.getElem?_toArray, List.getElem?_cons_zero, List.getElem?_cons_succ]
        go_wp2_with (first
          | (with_reducible refine And.intro (by first | with_reducible exact True.intro | with_reducible rfl | go_simp) ?_)
          | (go_at_call 8; refine HTag.out.mono ?_; rintro e w5 ⟨rfl, rfl⟩)
          | (go_at_fn FN; refine HQ.out.mono ?_; rintro e w6 ⟨a6, c6, rfl, ho6, hb7⟩; have hX6 := heap_below (w := w4.drew) HX4.out hb7; obtain ⟨g0, g1, y0, y1, gl⟩ := blk2 hX6; have Hs6 := Lib.hid (Sl.of_own It.len ho6); have Hs7 := Lib.hid ((Hs4.out.below ((Below.refl w4.heap.size w4).drew)).below hb7); have hb8 := hb6.trans (hb7.mono hb6.size); clear ho6 hX6)
          | (go_at_call 9; refine (SameF_any f.cur f.cur f.l f.l _ _ a6 fa c6 fc _ rfl rfl (by omega) (by omega) Hs6.out Hs7.out (decide_eq_true rfl)).mono ?_; rintro e w7 ⟨rfl, hb9⟩; have hb10 := hb8.trans (hb9.mono hb8.size)))
        refine NoPanic.normal ?_
        go_wp2_with fail
        go_ret
        exact ⟨rfl, hb10⟩
      · have HM := Lib.hid (fun W (h : Below w.heap.size w W) => Make_err l tag 0 n a c W hn hl hc hB (hs.below h) ht rfl he)
        generalize readE l = R at *
        obtain ⟨r1, f, r3⟩ := R
        simp only at he HM
        have heb : (r3 != 0) = true := by simpa using he
        clear hs hB hn he ht
        go_enter Try.func3, Try.ntmps3
        go_wp2_with (first
          | (go_at_call 5; refine (awake21 _).mono ?_; rintro e w1 ⟨rfl, hb1⟩)
          | (go_at_call 6; refine (HR.out _ hb1).mono ?_; rintro e w2 ⟨fa, fc, rfl, _, hb2⟩; have hb3 := (hb1.trans (hb2.mono hb1.size)).alloc (Nat.le_trans hb1.size hb2.size) (.cells #[.int .i64 f.cur, .slice fa f.l.length fc] 26))
          | (go_at_call 7; refine (HM.out _ hb3).mono ?_; rintro e w4 ⟨rfl, hb4⟩; have hb5 := hb3.trans (hb4.mono hb3.size)))
        go_ret
        exact ⟨rfl, hb5⟩
    · have hd : tag < 0 ∨ (¬ tag < 0 ∧ 2 < tag) := by unfold TagOk at ht; omega
      have HM := Lib.hid (fun W => Make_tag tag 0 n a c W ht)
      generalize readE l = R at *
      obtain ⟨r1, f, r3⟩ := R
      clear hs hB hn ht
      rcases hd with h1 | ⟨h1, h2⟩
      all_goals
        go_enter Try.func3, Try.ntmps3
        go_wp2_with (first
          | (go_at_call 5; refine (awake21 _).mono ?_; rintro e w1 ⟨rfl, hb1⟩)
          | (go_at_call 6; refine (HR.out _ hb1).mono ?_; rintro e w2 ⟨fa, fc, rfl, _, hb2⟩; have hb3 := (hb1.trans (hb2.mono hb1.size)).alloc (Nat.le_trans hb1.size hb2.size) (.cells #[.int .i64 f.cur, .slice fa f.l.length fc] 26))
          | (go_at_call 7; refine (HM.out _).mono ?_; rintro e w4 ⟨rfl, hb4⟩; have hb5 := hb3.trans (hb4.mono hb3.size)))
        go_ret
        exact ⟨rfl, hb5⟩
end Go.Proofs.Ytadlcjacaachkaa
