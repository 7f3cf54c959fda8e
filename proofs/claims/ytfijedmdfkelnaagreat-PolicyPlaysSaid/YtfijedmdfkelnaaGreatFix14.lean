/- Layer 14's laws: a form as the document's own. -/
import Derived.Test.YtfijedmdfkelnaaGreatRefF
import Derived.Test.YtfijedmdfkelnaaGreatArg
namespace Go.Proofs.YtfijedmdfkelnaaGreat
open Go.RowKit
set_option linter.unusedVariables false
set_option linter.unusedSimpArgs false

set_option maxHeartbeats 3200000 in
set_option maxRecDepth 100000 in
theorem own_14 (cur : Int) (l : List It) (n : Nat) (a : Option Addr) (c : Nat) (w : World) (hn : l.length = n) (hl : n ≤ 70) (hs : Sl It.enc 3 w a l) :
    Calls Tryz.prog 10 #[.agg #[.int .i64 cur, .slice a n c]] w (RFormPost w cur l) := by
  obtain ⟨i0, hi0, hz0, hz1, hz2⟩ := info_parts infoRIt
  have HS := Lib.hid hs
  have Hn := Lib.hid hn
  clear hs hn
  go_enter Tryz.func10, Tryz.ntmps10
  go_wp2_with fail
  go_loopw [4] (fun i wr => ∃ (k : Nat) (va : Option Addr) (vc : Nat), k ≤ n ∧ i = .int .i64 k ∧ Below w.heap.size w wr ∧ wr.heap[w.heap.size + 2]? = some (.cells #[.int .i64 cur, .slice va k vc] 36 (0, 0)) ∧
      wr.heap[w.heap.size + 1]? = some (.cells #[.int .i64 0, .slice none 0 0] 36 (0, 0)) ∧ wr.heap[w.heap.size]? = some (.cells #[.int .i64 cur, .slice a n c] 24 (0, 0)) ∧ wr.ownsRow (w.heap.size + 3) 97 3 (.slice va k vc) k (flat It.enc (l.take k))) (fun i _ => n - (intOf i).toNat)
  case atStart => exact ⟨0, none, 0, Nat.zero_le _, rfl, (((Below.refl _ _).alloc (Nat.le_refl _) _).alloc (by simp) _).alloc (by simp; omega) _, heap_at (by simp) _, heap_alloc (heap_at (by simp) _) _, heap_alloc (heap_alloc (heap_new _ _) _) _, World.ownsRow_nil _ _ _ _⟩
  case round =>
    obtain ⟨k, va, vc, hk, rfl, hb, hG, hR, hT, hown⟩ := hrel
    obtain ⟨g0, g1, y0, y1, gsz⟩ := blk2 hG
    obtain ⟨t0, t1, z0, z1, tsz⟩ := blk2 hT
    by_cases hlt : k < n
    · obtain ⟨r, off, rfl, hr, hcc⟩ := HS.out (by intro h; have h1 := Hn.out; rw [h] at h1; simp at h1; omega)
      obtain ⟨x, hx⟩ : ∃ x, l[k]? = some x := ⟨_, List.getElem?_eq_getElem (by rw [Hn.out]; exact hlt)⟩
      have e0 := (hb.cell (p := ⟨r, off + k * 3 + 0, none⟩) hr).trans (hcc k x hx 0 _ rfl)
      have e1 := (hb.cell (p := ⟨r, off + k * 3 + 1, none⟩) hr).trans (hcc k x hx 1 _ rfl)
      have e2 := (hb.cell (p := ⟨r, off + k * 3 + 2, none⟩) hr).trans (hcc k x hx 2 _ rfl)
      simp only [Nat.add_zero] at e0
      have hsz := hb.size
      have hk0 : (0 : Int) ≤ k := by omega
      have hki : (k : Int) < n := by omega
      have hov : ∀ g, (Value.slice va k vc).ownBlock = some g → w.heap.size + 3 ≤ g ∧ g < wr.heap.size := fun g hg => hown.lt g hg
      have ag : (Value.slice va k vc).ownBlock ≠ some (w.heap.size + 2) := fun e => by have := hov _ e; omega
      have hP1 : w.heap.size + 2 ≠ wr.heap.size := by omega
      have hP2 : w.heap.size ≠ wr.heap.size := by omega
      have HG := Lib.hid hG
      have HR := Lib.hid hR
      have HT := Lib.hid hT
      have Hown := Lib.hid hown
      have Hx := Lib.hid hx
      have Hag := Lib.hid ag
      have Hov := Lib.hid hov
      clear hG hR hT hown hx ag hov hcc
      go_wp2_with fail
      refine wp_region_chain 40 [0, 1, 0, 4, 0, 28, 60, 124, 0, 256, 0, 1792, 3840, 7936, 0, 16384, 0, 114688, 245760, 507904, 1048572, 2097148, 4194303, 8388607, 16777215] [(0, none), (1, none), (2, none), (3, none), (4, none), (5, none), (6, none), (7, none), (8, none), (9, none), (10, none), (11, none), (12, none), (13, none), (14, none), (15, none), (16, none), (17, none), (18, none), (19, none), (20, none), (21, some [0, 1]), (22, some []), (23, none), (24, some [])] (by kernel_rfl) (by kernel_rfl) (by rfl) ?_; simp only [chain, Obs, List.getElem?_toArray, List.getElem?_cons_zero, List.getElem?_cons_succ]
      go_wp2_with (first
        | (with_reducible refine And.intro (by first | with_reducible exact True.intro | with_reducible rfl | go_simp) ?_)
        | (at_builtin; go_loud (refine wpList_append_lies _ (by rfl) _ _ _ (by rfl) (w.heap.size + 3) 97 i0 _ 3 24 Tryz.underlying34 hi0 hz0 hz1 hz2 rfl (by omega) (.slice va k vc) k _ (by rfl) ((Hown.out.alloc _).drew) ⟨wr.heap.size, 0, none⟩ 1 1 [.int .i64 x.id, .int .i64 x.w, .int .i64 x.lag] (by rfl) (by rfl) (World.news_of_block (cs := #[.int .i64 x.id, .int .i64 x.w, .int .i64 x.lag]) (t := 97) (fr := (0, 0)) (heap_at (by simp) _)) (by simp [Value.oneCell']) (by omega) (by unfold maxLen; omega) (by omega) (by simp; omega) (wr.heap.size + 1) (by simp) ?_); intro gg cap w1 hown1 hgrow hat hlt; have hfr1 : Fr (fun q => (Value.slice va k vc).ownBlock = some q) wr w1 := (((Fr.refl _ wr).alloc _).drew).trans (Fr.of_grown hgrow) (fun _ _ h => h); have q1 := (hfr1.cell (p := ⟨w.heap.size + 2, 1, none⟩) gsz Hag.out).trans g1; have q2 := (hfr1.frozen (p := ⟨w.heap.size + 2, 1, none⟩) gsz Hag.out).trans y1; have q0 := Lib.hid hat; have q3 := Lib.hid hgrow; have q4 := Lib.hid hown1; clear hat hgrow hown1))
      refine NoPanic.normal ?_
      go_wp2_with fail
      go_roundw
      case rel =>
        have hG1 : w1.heap[w.heap.size + 2]? = some (.cells #[.int .i64 cur, .slice va k vc] 36 (0, 0)) := heap_fr HG.out hfr1 Hag.out
        have hR1 := heap_fr HR.out hfr1 (fun e => by have := (Hov.out _ e).1; omega)
        have hT1 := heap_fr HT.out hfr1 (fun e => by have := (Hov.out _ e).1; omega)
        have hown := q4.out
        have hGg : (Value.slice (some ⟨gg, 0, none⟩) (k + 1) cap).ownBlock ≠ some (w.heap.size + 2) := fun e => by have := (hown.lt _ e).1; omega
        refine ⟨k + 1, _, cap, by omega, by go_num, ?_, heap_set hG1 _, heap_set_ne hR1 (by simp only; omega) _, heap_set_ne hT1 (by simp only; omega) _, ?_⟩
        · exact (hb.trans (hfr1.below hsz fun k' hk' => by have := (Hov.out _ hk').1; omega)).setCell (by simp only; omega) _
        · have e1 : l.take (k + 1) = l.take k ++ [x] := by
            rw [List.take_succ_eq_append_getElem (List.getElem?_eq_some_iff.1 Hx.out).1, (List.getElem?_eq_some_iff.1 Hx.out).2]
          rw [e1, flat_append, flat_one]
          exact own_set hown hGg
      case measure => simp [intOf]; omega
    · obtain rfl : k = n := by omega
      have hR0 := Lib.hid hR
      have Hown := Lib.hid hown
      obtain ⟨r0, r1, v0, v1, rsz⟩ := blk2 hR
      clear hR hown hG hT
      go_wp2_with fail
      have haR : (Value.slice va k vc).ownBlock ≠ some (w.heap.size + 1) := fun e => by have := (Hown.out.lt _ e).1; omega
      refine bodyPost_ret (res_c _ _ (w.heap.size + 1) 36 #[.int .i64 cur, .slice va k vc] (0, 0) _ rfl rfl (heap_set (heap_set hR0.out _) _) Tryz.underlying36 rfl (by kernel_rfl)) rfl ⟨va, vc, ?_, ?_, ?_⟩
      · rw [Hn.out]
      · rw [Hn.out]
        have e1 : l.take k = l := List.take_of_length_le (by have := Hn.out; omega)
        have ho := Hown.out
        rw [e1] at ho
        exact own_base (own_set (own_set ho haR) haR) (by omega)
      · exact (hb.setCell (by simp) _).setCell (by simp) _
end Go.Proofs.YtfijedmdfkelnaaGreat
/- The acts of layer 14's laws, opened. -/
namespace Go.Proofs.YtfijedmdfkelnaaGreat
open Go.ChangeShapes Go.WideShapes Go.ChangeAt Go.RowKit Go.Deep Go.Joins
set_option linter.unusedVariables false
set_option linter.unusedSimpArgs false
/-- A call whose days are a whole number of 64 bits. -/
abbrev AcB := {z : Ac // -9223372036854775808 ≤ z.lag}
instance : Inhabited AcB := ⟨⟨⟨0, 0, 0, 0⟩, by decide⟩⟩
def encB (x : AcB) : List Value := x.1.enc
section
variable {H : Type} {enc : TypeId × Value → H} {w : World} {spare : Nat → Bool} {held : Bool}
theorem cAct_14 : Tryz.prog.cellsOf 39 = 4 := by kernel_rfl
set_option maxRecDepth 100000 in
theorem elAct_14 (n : Nat) (cs : List Value) (y : DataW H × List MemPlace) (h : DataW.trod enc Tryz.prog w 0 spare held n 39 cs = some y) : ∃ z : AcB, cs = encB z := by
  obtain ⟨y0, y1, y2, y3, m, _, hl, h0, h1, h2, h3⟩ := trod_struct4 Tryz.underlying39 h
  rw [cAct_14] at hl
  obtain ⟨a, ha, _⟩ := fld (t := 3) Tryz.underlying3 cInt h0
  obtain ⟨b, hb, _⟩ := fld (t := 3) Tryz.underlying3 cInt h1
  obtain ⟨c, hc, _⟩ := fld (t := 3) Tryz.underlying3 cInt h2
  obtain ⟨d, hd, hdd⟩ := fld (t := 2) Tryz.underlying2 cI64 h3
  match cs, hl with
  | [u0, u1, u2, u3], _ =>
    simp at ha hb hc hd
    exact ⟨⟨⟨a, b, c, d⟩, hdd.1⟩, by simp [encB, Ac.enc, ha, hb, hc, hd]⟩
theorem Sl.acs {a : Option Addr} {l : List AcB} (h : Sl encB 4 w a l) : Sl Ac.enc 4 w a (l.map Subtype.val) := by
  intro hne
  obtain ⟨r, off, e, hr, hc⟩ := h (fun e => hne (by rw [e]; rfl))
  refine ⟨r, off, e, hr, fun j z hz i u hu => ?_⟩
  rw [List.getElem?_map] at hz
  cases hj : l[j]? with
  | none => rw [hj] at hz; simp at hz
  | some y =>
    rw [hj] at hz
    simp only [Option.map_some, Option.some.injEq] at hz
    subst hz
    exact hc j y hj i u hu
set_option maxRecDepth 100000 in
/-- A slice of acts that came in. -/
theorem openActs_14 {b0 : Nat} {v : Value} {d : DataW H} {p : List MemPlace} (hv : Value.okWide Tryz.prog w .any b0 25 v) (h : DataW.Trod enc Tryz.prog w 0 spare held 25 v d p) :
    ∃ (a : Option Addr) (n c : Nat) (l : List Ac), v = .slice a n c ∧ l.length = n ∧ n ≤ maxLen ∧ Sl Ac.enc 4 w a l ∧ ∀ x ∈ l, -9223372036854775808 ≤ x.lag := by
  obtain ⟨a0, n0, c0, rfl⟩ := okWide_slice Tryz.underlying25 hv
  obtain ⟨fuel, hf⟩ := h
  obtain ⟨a, n, c, l, e1, hl, hm, hs⟩ := open_sl (en := encB) (k := 4) Tryz.underlying25 cAct_14 (by omega) (fun n cs y h => elAct_14 n cs y h) hf
  simp [Value.cells] at e1
  obtain ⟨rfl, rfl, rfl⟩ := e1
  refine ⟨_, _, _, l.map Subtype.val, rfl, by rw [List.length_map]; exact hl, hm, hs.acs, fun x hx => ?_⟩
  obtain ⟨y, _, rfl⟩ := List.mem_map.1 hx
  exact y.2
end
end Go.Proofs.YtfijedmdfkelnaaGreat
