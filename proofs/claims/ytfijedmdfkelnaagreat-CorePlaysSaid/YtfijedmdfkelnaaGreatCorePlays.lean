/- Proved here: the statement CorePlays, without conditions of ours. -/
import Derived.Test.YtfijedmdfkelnaaGreatCorM
import Derived.Test.YtfijedmdfkelnaaGreatJ
import Derived.Test.YtfijedmdfkelnaaGreatRefF
import Derived.Test.YtfijedmdfkelnaaGreatArg
import Derived.Test.YtfijedmdfkelnaaGreatCor
import Derived.Test.YtfijedmdfkelnaaGreatPlayP
import Derived.Test.YtfijedmdfkelnaaGreatShift
import Derived.Test.YtfijedmdfkelnaaGreatRefS
import Derived.Deep.LoopGhost
import Derived.Deep.CutBlock
import Derived.Deep.DeepCutAuto
import Derived.Test.YtfijedmdfkelnaaGreatRows
import Derived.ProofKit
import Derived.Below
/- What a core's load is, in plain words. -/
namespace Go.Proofs.YtfijedmdfkelnaaGreat
set_option linter.unusedVariables false
set_option linter.unusedSimpArgs false

theorem totW_erase : ∀ {l : List Pt} {j : Nat} {x : Pt}, l[j]? = some x → totW (l.eraseIdx j) = totW l - x.w := by
  intro l
  induction l with
  | nil => intro j x h; simp at h
  | cons y l ih =>
    intro j x h
    cases j with
    | zero => simp at h; subst h; simp only [List.eraseIdx_zero, List.tail_cons, totW]; omega
    | succ j =>
      have h1 : l[j]? = some x := by simpa using h
      simp only [List.eraseIdx_cons_succ, totW, ih h1]
      omega
theorem totW_ins (x : Pt) : ∀ l : List Pt, totW (insP x l) = totW l + x.w
  | [] => by simp only [insP, totW]; omega
  | y :: l => by
    unfold insP
    split
    · simp only [totW]; omega
    · simp only [totW, totW_ins x l]; omega
theorem totW_le : ∀ l : List Pt, (∀ x ∈ l, 1 ≤ x.w ∧ x.w ≤ 20) → 0 ≤ totW l ∧ totW l ≤ 20 * l.length
  | [], _ => by simp [totW]
  | x :: l, h => by
    have h1 := h x (List.mem_cons_self)
    have h2 := totW_le l fun y hy => h y (List.mem_cons_of_mem _ hy)
    simp only [totW, List.length_cons]
    omega
theorem fi_itOf (base id : Int) (l : List Pt) : fi (isIt id) (l.map (itOf base)) = fi (isId id) l := by
  unfold fi
  rw [List.findIdx?_map]
  rfl
theorem tot_ok {K : Int} {S : Ln} (h : OkS K S) : 0 ≤ totW S.l ∧ totW S.l ≤ 1280 := by
  have h1 := totW_le S.l fun x hx => by have := h.pts x hx; omega
  have h2 := h.len
  omega
/-- Leave: the one there goes with its weight; nobody there: nothing. -/
theorem loads_leave {K : Int} {S : Ln} (h : OkS K S) (id : Int) :
    (fi (isIt id) (S.l.map (itOf S.base)) = -1 ∧ leaveR S id = (S, 0, 2)) ∨
    ∃ (j : Nat) (x : Pt) (S' : Ln) (v : Int), fi (isIt id) (S.l.map (itOf S.base)) = j ∧ (S.l.map (itOf S.base))[j]? = some (itOf S.base x) ∧ leaveR S id = (S', v, 0) ∧ totW S'.l = totW S.l - x.w ∧ 1 ≤ x.w ∧ x.w ≤ 20 := by
  rw [fi_itOf]
  rcases at_cases S id with ⟨h1, h2, _⟩ | ⟨j, x, h1, h2, h3, h4, h5⟩
  · exact .inl ⟨h2, by unfold leaveR; rw [h1]⟩
  · have hp := h.pts x (List.mem_of_getElem? h4)
    exact .inr ⟨j, x, _, _, h2, by rw [List.getElem?_map, h4]; rfl, by unfold leaveR; rw [h1], totW_erase h4, by omega, by omega⟩
/-- Enter: it was not there and weighs in; or nothing. -/
theorem loads_enter {B : Nat} {K : Int} {s : CoreS} (h : CoreOk B K s) (id w lag : Int) (exact : Bool) :
    (mayE s.q.l id w lag = 0 ∧ fi (isIt id) (s.q.l.map (itOf s.q.base)) = -1 ∧ totW (s.enter id w lag exact).q.l = totW s.q.l + w ∧ 1 ≤ w ∧ w ≤ 20) ∨
    (mayE s.q.l id w lag ≠ 0 ∧ totW (s.enter id w lag exact).q.l = totW s.q.l) := by
  have hq : (s.enter id w lag exact).q = if exact = true then putR s.q id w lag else enterR (heldT s.tag) s.q id w lag := by
    unfold CoreS.enter CoreS.done
    split <;> rfl
  have hpl : ∀ lg, mayE s.q.l id w lg = 0 → totW (putR s.q id w lg).l = totW s.q.l + w := fun lg hz => by
    unfold putR
    rw [if_pos hz]
    rw [totW_ins]
    rfl
  by_cases hm : mayE s.q.l id w lag = 0
  · obtain ⟨h1, h2, h3⟩ := mayE_zero h.ok.len hm
    have hb := mayB_true h1
    left
    refine ⟨hm, ?_, ?_, hb.2.2.1, hb.2.2.2.1⟩
    · rw [fi_itOf]
      rcases at_cases s.q id with ⟨_, h4, _⟩ | ⟨j, x, _, _, _, h5, h6⟩
      · exact h4
      · exact absurd h6 (h2 x (List.mem_of_getElem? h5))
    · rw [hq]
      cases exact with
      | true => exact hpl lag hm
      | false =>
        simp only [Bool.false_eq_true, if_false]
        unfold enterR
        rw [if_pos hm]
        exact hpl _ (heldmay_T h.tag hm h.ok.len)
  · right
    refine ⟨hm, ?_⟩
    rw [hq]
    cases exact with
    | true => simp only [if_true]; unfold putR; rw [if_neg hm]
    | false => simp only [Bool.false_eq_true, if_false]; unfold enterR; rw [if_neg hm]
/-- What Find tells. -/
theorem find_cases (l : List It) (id : Int) : (fi (isIt id) l = -1) ∨ ∃ (j : Nat) (x : It), fi (isIt id) l = j ∧ l[j]? = some x := by
  rcases fi_cases (isIt id) l with ⟨h, _⟩ | ⟨j, x, h1, _, h3, _⟩
  · exact .inl h
  · exact .inr ⟨j, x, h1, h3⟩
end Go.Proofs.YtfijedmdfkelnaaGreat
/- Layer 15's laws: a form as the document's own. -/
namespace Go.Proofs.YtfijedmdfkelnaaGreat
open Go.RowKit
set_option linter.unusedVariables false
set_option linter.unusedSimpArgs false

set_option maxHeartbeats 3200000 in
set_option maxRecDepth 100000 in
theorem own_15 (cur : Int) (l : List It) (n : Nat) (a : Option Addr) (c : Nat) (w : World) (hn : l.length = n) (hl : n ≤ 70) (hs : Sl It.enc 3 w a l) :
    Calls Tryz.prog 34 #[.agg #[.int .i64 cur, .slice a n c]] w (RFormPost w cur l) := by
  obtain ⟨i0, hi0, hz0, hz1, hz2⟩ := info_parts infoRIt
  have HS := Lib.hid hs
  have Hn := Lib.hid hn
  clear hs hn
  go_enter Tryz.func34, Tryz.ntmps34
  go_wp2_with fail
  go_loopw [4] (fun i wr => ∃ (k : Nat) (va : Option Addr) (vc : Nat), k ≤ n ∧ i = .int .i64 k ∧ Below w.heap.size w wr ∧ wr.heap[w.heap.size + 2]? = some (.cells #[.int .i64 cur, .slice va k vc] 36 (0, 0)) ∧
      wr.heap[w.heap.size + 1]? = some (.cells #[.int .i64 0, .slice none 0 0] 36 (0, 0)) ∧ wr.heap[w.heap.size]? = some (.cells #[.int .i64 cur, .slice a n c] 24 (0, 0)) ∧ wr.ownsRow (w.heap.size + 3) 97 3 (.slice va k vc) k (flat It.enc (l.take k))) (fun i _ => n - (intOf i).toNat)
  case atStart => exact ⟨0, none, 0, Nat.zero_le _, rfl, (((Below.refl _ _).alloc (Nat.le_refl _) _).alloc (by simp) _).alloc (by simp; omega) _, heap_at (by simp) _, heap_alloc (heap_at (by simp) _) _, heap_alloc (heap_alloc (heap_new _ _) _) _, World.ownsRow_nil _ _ _ _⟩
  case round =>
    obtain ⟨k, va, vc, hk, rfl, hb, hG, hR, hT, hown⟩ := hrel
    obtain ⟨g0, g1, y0, y1, gsz⟩ := blk2 hG
    obtain ⟨t0, t1, z0, z1, tsz⟩ := blk2 hT
    by_cases hlt : k < n
    · obtain ⟨r, off, rfl, hr, hcc⟩ := HS.out (by intro h; have h1 := Hn.out; rw [h] at h1; simp at h1; omega)
      obtain ⟨x, hx⟩ : ∃ x, l[k]? = some x := ⟨_, List.getElem?_eq_getElem (by rw [Hn.out]; exact hlt)⟩
      have e0 := (hb.cell (p := ⟨r, off + k * 3 + 0, none⟩) hr).trans (hcc k x hx 0 _ rfl)
      have e1 := (hb.cell (p := ⟨r, off + k * 3 + 1, none⟩) hr).trans (hcc k x hx 1 _ rfl)
      have e2 := (hb.cell (p := ⟨r, off + k * 3 + 2, none⟩) hr).trans (hcc k x hx 2 _ rfl)
      simp only [Nat.add_zero] at e0
      have hsz := hb.size
      have hk0 : (0 : Int) ≤ k := by omega
      have hki : (k : Int) < n := by omega
      have hov : ∀ g, (Value.slice va k vc).ownBlock = some g → w.heap.size + 3 ≤ g ∧ g < wr.heap.size := fun g hg => hown.lt g hg
      have ag : (Value.slice va k vc).ownBlock ≠ some (w.heap.size + 2) := fun e => by have := hov _ e; omega
      have hP1 : w.heap.size + 2 ≠ wr.heap.size := by omega
      have hP2 : w.heap.size ≠ wr.heap.size := by omega
      have HG := Lib.hid hG
      have HR := Lib.hid hR
      have HT := Lib.hid hT
      have Hown := Lib.hid hown
      have Hx := Lib.hid hx
      have Hag := Lib.hid ag
      have Hov := Lib.hid hov
      clear hG hR hT hown hx ag hov hcc
      go_wp2_with fail
      refine wp_region_chain 40 [0, 1, 0, 4, 0, 28, 60, 124, 0, 256, 0, 1792, 3840, 7936, 0, 16384, 0, 114688, 245760, 507904, 1048572, 2097148, 4194303, 8388607, 16777215] [(0, none), (1, none), (2, none), (3, none), (4, none), (5, none), (6, none), (7, none), (8, none), (9, none), (10, none), (11, none), (12, none), (13, none), (14, none), (15, none), (16, none), (17, none), (18, none), (19, none), (20, none), (21, some [0, 1]), (22, some []), (23, none), (24, some [])] (by kernel_rfl) (by kernel_rfl) (by rfl) ?_; simp only [chain, Obs, List.getElem?_toArray, List.getElem?_cons_zero, List.getElem?_cons_succ]
      go_wp2_with (first
        | (with_reducible refine And.intro (by first | with_reducible exact True.intro | with_reducible rfl | go_simp) ?_)
        | (at_builtin; go_loud (refine wpList_append_lies _ (by rfl) _ _ _ (by rfl) (w.heap.size + 3) 97 i0 _ 3 24 Tryz.underlying34 hi0 hz0 hz1 hz2 rfl (by omega) (.slice va k vc) k _ (by rfl) ((Hown.out.alloc _).drew) ⟨wr.heap.size, 0, none⟩ 1 1 [.int .i64 x.id, .int .i64 x.w, .int .i64 x.lag] (by rfl) (by rfl) (World.news_of_block (cs := #[.int .i64 x.id, .int .i64 x.w, .int .i64 x.lag]) (t := 97) (fr := (0, 0)) (heap_at (by simp) _)) (by simp [Value.oneCell']) (by omega) (by unfold maxLen; omega) (by omega) (by simp; omega) (wr.heap.size + 1) (by simp) ?_); intro gg cap w1 hown1 hgrow hat hlt; have hfr1 : Fr (fun q => (Value.slice va k vc).ownBlock = some q) wr w1 := (((Fr.refl _ wr).alloc _).drew).trans (Fr.of_grown hgrow) (fun _ _ h => h); have q1 := (hfr1.cell (p := ⟨w.heap.size + 2, 1, none⟩) gsz Hag.out).trans g1; have q2 := (hfr1.frozen (p := ⟨w.heap.size + 2, 1, none⟩) gsz Hag.out).trans y1; have q0 := Lib.hid hat; have q3 := Lib.hid hgrow; have q4 := Lib.hid hown1; clear hat hgrow hown1))
      refine NoPanic.normal ?_
      go_wp2_with fail
      go_roundw
      case rel =>
        have hG1 : w1.heap[w.heap.size + 2]? = some (.cells #[.int .i64 cur, .slice va k vc] 36 (0, 0)) := heap_fr HG.out hfr1 Hag.out
        have hR1 := heap_fr HR.out hfr1 (fun e => by have := (Hov.out _ e).1; omega)
        have hT1 := heap_fr HT.out hfr1 (fun e => by have := (Hov.out _ e).1; omega)
        have hown := q4.out
        have hGg : (Value.slice (some ⟨gg, 0, none⟩) (k + 1) cap).ownBlock ≠ some (w.heap.size + 2) := fun e => by have := (hown.lt _ e).1; omega
        refine ⟨k + 1, _, cap, by omega, by go_num, ?_, heap_set hG1 _, heap_set_ne hR1 (by simp only; omega) _, heap_set_ne hT1 (by simp only; omega) _, ?_⟩
        · exact (hb.trans (hfr1.below hsz fun k' hk' => by have := (Hov.out _ hk').1; omega)).setCell (by simp only; omega) _
        · have e1 : l.take (k + 1) = l.take k ++ [x] := by
            rw [List.take_succ_eq_append_getElem (List.getElem?_eq_some_iff.1 Hx.out).1, (List.getElem?_eq_some_iff.1 Hx.out).2]
          rw [e1, flat_append, flat_one]
          exact own_set hown hGg
      case measure => simp [intOf]; omega
    · obtain rfl : k = n := by omega
      have hR0 := Lib.hid hR
      have Hown := Lib.hid hown
      obtain ⟨r0, r1, v0, v1, rsz⟩ := blk2 hR
      clear hR hown hG hT
      go_wp2_with fail
      have haR : (Value.slice va k vc).ownBlock ≠ some (w.heap.size + 1) := fun e => by have := (Hown.out.lt _ e).1; omega
      refine bodyPost_ret (res_c _ _ (w.heap.size + 1) 36 #[.int .i64 cur, .slice va k vc] (0, 0) _ rfl rfl (heap_set (heap_set hR0.out _) _) Tryz.underlying36 rfl (by kernel_rfl)) rfl ⟨va, vc, ?_, ?_, ?_⟩
      · rw [Hn.out]
      · rw [Hn.out]
        have e1 : l.take k = l := List.take_of_length_le (by have := Hn.out; omega)
        have ho := Hown.out
        rw [e1] at ho
        exact own_base (own_set (own_set ho haR) haR) (by omega)
      · exact (hb.setCell (by simp) _).setCell (by simp) _
end Go.Proofs.YtfijedmdfkelnaaGreat
/- The acts of layer 15's laws, opened. -/
namespace Go.Proofs.YtfijedmdfkelnaaGreat
open Go.ChangeShapes Go.WideShapes Go.ChangeAt Go.RowKit Go.Deep Go.Joins
set_option linter.unusedVariables false
set_option linter.unusedSimpArgs false
/-- A call of a core's script. -/
structure Ad where
  op : Int
  id : Int
  w : Int
  tag : Int
  lag : Int
  exact : Bool
deriving Inhabited
def Ad.enc (x : Ad) : List Value := [.int .i64 x.op, .int .i64 x.id, .int .i64 x.w, .int .i64 x.tag, .int .i64 x.lag, .bool x.exact]
def Ad.ok (x : Ad) : Prop := I64 x.id ∧ I64 x.lag ∧ I64 x.tag
abbrev AdB := {z : Ad // z.ok}
instance : Inhabited AdB := ⟨⟨⟨0, 0, 0, 0, 0, false⟩, by unfold Ad.ok I64; decide⟩⟩
def encD (x : AdB) : List Value := x.1.enc
section
variable {H : Type} {enc : TypeId × Value → H} {w : World} {spare : Nat → Bool} {held : Bool}
theorem cAct_15 : Tryz.prog.cellsOf 73 = 6 := by kernel_rfl
theorem cBool : Tryz.prog.cellsOf 4 = 1 := by kernel_rfl
set_option maxRecDepth 100000 in
theorem elAct_15 (n : Nat) (cs : List Value) (y : DataW H × List MemPlace) (h : DataW.trod enc Tryz.prog w 0 spare held n 73 cs = some y) : ∃ z : AdB, cs = encD z := by
  obtain ⟨xs, m, _, rfl, hl, hlen, hf⟩ := DataW.trod_struct Tryz.underlying73 h
  rw [cAct_15] at hl
  match xs, hlen with
  | [y0, y1, y2, y3, y4, y5], _ =>
    obtain ⟨a, ha, haa⟩ := fld (t := 3) Tryz.underlying3 cInt (hf 0 _ rfl)
    obtain ⟨b, hb, hbb⟩ := fld (t := 3) Tryz.underlying3 cInt (hf 1 _ rfl)
    obtain ⟨c, hc, _⟩ := fld (t := 3) Tryz.underlying3 cInt (hf 2 _ rfl)
    obtain ⟨d, hd, hdd⟩ := fld (t := 3) Tryz.underlying3 cInt (hf 3 _ rfl)
    obtain ⟨e, he, hee⟩ := fld (t := 2) Tryz.underlying2 cI64 (hf 4 _ rfl)
    obtain ⟨f, hf5, _⟩ := DataW.trod_bool (t := 4) Tryz.underlying4 (hf 5 _ rfl)
    have hf6 : (cs.drop 5).take 1 = [.bool f] := hf5
    match cs, hl with
    | [u0, u1, u2, u3, u4, u5], _ =>
      simp at ha hb hc hd he hf6
      exact ⟨⟨⟨a, b, c, d, e, f⟩, ⟨hbb, hee, hdd⟩⟩, by simp [encD, Ad.enc, ha, hb, hc, hd, he, hf6]⟩
theorem Sl.ads {a : Option Addr} {l : List AdB} (h : Sl encD 6 w a l) : Sl Ad.enc 6 w a (l.map Subtype.val) := by
  intro hne
  obtain ⟨r, off, e, hr, hc⟩ := h (fun e => hne (by rw [e]; rfl))
  refine ⟨r, off, e, hr, fun j z hz i u hu => ?_⟩
  rw [List.getElem?_map] at hz
  cases hj : l[j]? with
  | none => rw [hj] at hz; simp at hz
  | some y =>
    rw [hj] at hz
    simp only [Option.map_some, Option.some.injEq] at hz
    subst hz
    exact hc j y hj i u hu
set_option maxRecDepth 100000 in
/-- A slice of acts that came in. -/
theorem openActs_15 {b0 : Nat} {v : Value} {d : DataW H} {p : List MemPlace} (hv : Value.okWide Tryz.prog w .any b0 63 v) (h : DataW.Trod enc Tryz.prog w 0 spare held 63 v d p) :
    ∃ (a : Option Addr) (n c : Nat) (l : List Ad), v = .slice a n c ∧ l.length = n ∧ n ≤ maxLen ∧ Sl Ad.enc 6 w a l ∧ ∀ x ∈ l, x.ok := by
  obtain ⟨a0, n0, c0, rfl⟩ := okWide_slice Tryz.underlying63 hv
  obtain ⟨fuel, hf⟩ := h
  obtain ⟨a, n, c, l, e1, hl, hm, hs⟩ := open_sl (en := encD) (k := 6) Tryz.underlying63 cAct_15 (by omega) (fun n cs y h => elAct_15 n cs y h) hf
  simp [Value.cells] at e1
  obtain ⟨rfl, rfl, rfl⟩ := e1
  refine ⟨_, _, _, l.map Subtype.val, rfl, by rw [List.length_map]; exact hl, hm, hs.ads, fun x hx => ?_⟩
  obtain ⟨y, _, rfl⟩ := List.mem_map.1 hx
  exact y.2
end
end Go.Proofs.YtfijedmdfkelnaaGreat
/- The law's functions of layer 15: awake. -/
namespace Go.Proofs.YtfijedmdfkelnaaGreat
open Go.RowKit
set_option linter.unusedVariables false
set_option linter.unusedSimpArgs false

def core0 : CoreS := ⟨0, ⟨0, -1, []⟩, fun _ => 0, 0, 0, 0⟩
theorem core0_ok : CoreOk 0 0 core0 := ⟨by decide, OkS.new (by decide) (by decide), by decide, by decide, by decide, by decide, fun _ => by simp [core0], fun _ => by simp [core0], by decide⟩
theorem core0_run : core0.run = (⟨0, ⟨0, -1, []⟩, fun _ => 0, 0, 1, 1⟩, -1, 0) := rfl
set_option maxHeartbeats 1600000 in
theorem awakeC (w : World) : Calls Tryz.prog 22 #[] w fun e w' => e = .returned (.bool true) ∧ Below w.heap.size w w' := by
  have HN := Lib.hid (CorNew_ok 0 0 w (by decide) (by decide))
  go_enter Tryz.func22, Tryz.ntmps22
  go_wp2_with (first
    | (go_at_call 23; refine HN.out.mono ?_; rintro e w1 ⟨c, p, b, r, F, rfl, hc, _⟩; have Hc := Lib.hid hc; clear hc)
    | (go_at_call 30; refine (CorRun (s := core0) Hc.out core0_ok (by decide) core0_run (by decide)).mono ?_; rintro e w2 ⟨rfl, F2, hc2, _, _⟩; have Hc2 := Lib.hid hc2; clear hc2)
    | (go_at_call 36; refine (CorIdle Hc2.out).mono ?_; rintro e w3 ⟨rfl, rfl⟩)
    | (go_at_call 37; refine (CorAge Hc2.out).mono ?_; rintro e w3 ⟨rfl, rfl⟩))
  go_ret
  exact ⟨rfl, Hc2.out.old⟩
end Go.Proofs.YtfijedmdfkelnaaGreat
/- A core and the document's own queue, told the same calls: what both keep. -/
namespace Go.Proofs.YtfijedmdfkelnaaGreat
open Go.RowKit Go.Maps
set_option linter.unusedVariables false
set_option linter.unusedSimpArgs false
set_option linter.unusedSectionVars false

theorem pickT_sh {tag : Int} (ht : TagOk tag) (d : Int) (S : Ln) : pickT tag (shS d S) = (shS d (pickT tag S).1, (pickT tag S).2) := by
  rcases ht with rfl | rfl | rfl
  · exact picksh_stride d S
  · exact picksh_fair d S
  · exact picksh_due d S
theorem pickT_nil {tag : Int} (ht : TagOk tag) {S : Ln} (h : S.l = []) : (pickT tag S).2.2 = false := by
  obtain ⟨b, c, l⟩ := S
  simp only at h
  subst h
  rcases ht with rfl | rfl | rfl <;> rfl
theorem pickT_yes {tag : Int} (ht : TagOk tag) {K : Int} {S S1 S2 : Ln} (h : OkS K S) {v1 v2 e2 : Int} (h1 : pickT tag S = (S1, v1, true)) (h2 : chargeR S1 = (S2, v2, e2)) : e2 ≠ 14 := by
  rcases Nat.eq_zero_or_pos S.l.length with h0 | h0
  · have := pickT_nil ht (List.eq_nil_of_length_eq_zero h0)
    rw [h1] at this; cases this
  · obtain ⟨j, x, _, h3⟩ := pickat_T ht h h0
    rw [h1] at h3
    simp only at h3
    unfold chargeR at h2
    rw [h3] at h2
    simp only at h2
    split at h2 <;> (simp only [Prod.mk.injEq] at h2; omega)
theorem totW_take {K : Int} {S : Ln} (h : OkS K S) (j : Nat) : 0 ≤ totW (S.l.take j) ∧ totW (S.l.take j) ≤ 1280 := by
  have h1 := totW_le (S.l.take j) fun x hx => by have := h.pts x (List.mem_of_mem_take hx); omega
  have h2 := h.len
  have h3 : (S.l.take j).length ≤ S.l.length := by rw [List.length_take]; omega
  omega
/-- What the core and the document's own queue keep: i calls are done; the core's points lie d further on. -/
structure CP (i : Nat) (d : Int) (s : CoreS) (S : Ln) : Prop where
  ok : CoreOk i ((i : Int) * 1125899906842624) s
  ref : PlayI i S
  q : s.q = shS d S
  d0 : 0 ≤ d
  d1 : d ≤ 1000000
  hi : Hi (((i : Int) + 1) * 1125899906842624) S
section
variable {i : Nat} {d : Int} {s : CoreS} {S : Ln} (hi : i < 200) (h : CP i d s S)
include hi h
theorem CP.next {s' : CoreS} {S' : Ln} {B : Nat} {K c : Int} (hk : CoreOk B K s') (hB : B ≤ i + 1) (hK : K ≤ (i : Int) * 1125899906842624 + 1125899906842624) (hr : PlayI (i + 1) S') (hq : s'.q = shS d S') (hh : Hi c S') (hc : c ≤ ((i : Int) + 1) * 1125899906842624 + 1125899906842624) : CP (i + 1) d s' S' :=
  ⟨hk.mono hB (by omega) (by omega), hr, hq, h.d0, h.d1, hh.mono (by omega)⟩
/-- One that comes in. -/
theorem CP.enter (id w lag : Int) (exact : Bool) : CP (i + 1) d (s.enter id w lag exact) (if exact = true then putR S id w lag else enterR (heldT s.tag) S id w lag) := by
  have hq : (s.enter id w lag exact).q = if exact = true then putR s.q id w lag else enterR (heldT s.tag) s.q id w lag := by
    unfold CoreS.enter CoreS.done
    split <;> rfl
  refine CP.next hi h (h.ok.enter (by omega) id w lag exact) (by omega) (by omega) ?_ ?_ (c := ((i : Int) + 1) * 1125899906842624 + 1125899906842624) ?_ (by omega)
  · cases exact with
    | true => exact h.ref.put hi id w lag
    | false => exact h.ref.enter hi _ id w lag
  · rw [hq, h.q]
    cases exact with
    | true => exact putR_sh d S id w lag
    | false => exact enterR_sh _ d S id w lag
  · cases exact with
    | true =>
      simp only [if_true]
      by_cases hm : mayE S.l id w lag = 0
      · exact h.hi.put id w lag (.inr hm) h.ref.ok.len
      · unfold putR; rw [if_neg hm]; exact h.hi.mono (by omega)
    | false => exact h.hi.enter _ id w lag h.ref.ok.len
theorem CP.leave (id : Int) : CP (i + 1) d (s.leave id) (leaveR S id).1 := by
  have hq : (s.leave id).q = (leaveR s.q id).1 := by
    unfold CoreS.leave CoreS.done
    split <;> rfl
  exact CP.next hi h (h.ok.leave id) (by omega) (by omega) (h.ref.leave hi id) (by rw [hq, h.q, leaveR_sh]) (h.hi.leave id) (by omega)
theorem CP.weigh (id w : Int) : CP (i + 1) d (s.weigh id w) (weighR S id w).1 := by
  have hq : (s.weigh id w).q = (weighR s.q id w).1 := by
    unfold CoreS.weigh CoreS.done
    split <;> rfl
  exact CP.next hi h (h.ok.weigh id w) (by omega) (by omega) (h.ref.weigh hi id w) (by rw [hq, h.q, weighR_sh]) (h.hi.weigh id w) (by omega)
theorem CP.leave_is (id : Int) : (leaveR s.q id).2 = (leaveR S id).2 := by rw [h.q, leaveR_sh]
theorem CP.weigh_is (id w : Int) : (weighR s.q id w).2 = (weighR S id w).2 := by rw [h.q, weighR_sh]
theorem CP.may_is (id w lag : Int) : mayE s.q.l id w lag = mayE S.l id w lag := by
  rw [h.q]; exact mayE_sh d S.l id w lag
omit hi in
theorem CP.form_is : formR s.q = formR S := by rw [h.q, formR_sh]
omit hi in
theorem CP.form_at : s.q.cur = S.cur ∧ s.q.l.map (itOf s.q.base) = S.l.map (itOf S.base) := by
  have := CP.form_is h
  exact ⟨congrArg Fm.cur this, congrArg Fm.l this⟩
omit hi in
theorem CP.tot_is : totW s.q.l = totW S.l := by
  rw [h.q]; exact totW_sh d S.l
/-- The document's queue is made anew of its form, the core's too, further on. -/
theorem CP.anew {tag : Int} (ht : TagOk tag) (hg : goodF (formR S) = true) : CP (i + 1) (1000 * (i : Int)) { s with tag := tag, q := seedR (formR S) (1000 * (i : Int)) } (seedR (formR S) 0) := by
  have hp : PlayI 0 (seedR (formR S) 0) := PlayI.seed (by decide) hg
  have hs : seedR (formR S) (1000 * (i : Int)) = shS (1000 * (i : Int)) (seedR (formR S) 0) := by
    have := seedR_sh (1000 * (i : Int)) 0 (formR S)
    rw [Int.zero_add] at this
    exact this
  have hb : BaseOk (1000 * (i : Int)) := by unfold BaseOk; omega
  have hq : PlayI 0 (seedR (formR S) (1000 * (i : Int))) := PlayI.seed hb hg
  have h1 := h.ok
  refine ⟨⟨ht, hq.ok.mono (by omega) (by omega), h1.age0, by have := h1.age1; simp only; omega, h1.idle0, by have := h1.idle1; simp only; omega, h1.sv0, fun id => by have := h1.sv1 id; simp only; omega, by have := h1.n1; simp only; omega⟩, ⟨hp.ok.mono (by omega) (by omega), hp.days, hp.far.mono (by omega)⟩, hs, by omega, by omega, (Hi.seed hg).mono (by omega)⟩
/-- A run. -/
theorem CP.run {S1 S2 : Ln} {v1 v2 e2 : Int} {k1 : Bool} (h1 : pickT s.tag S = (S1, v1, k1)) (h2 : chargeR S1 = (S2, v2, e2)) : CP (i + 1) d s.run.1 S2 ∧ s.ran = (shS d S2, v2, e2) := by
  have ht := h.ok.tag
  obtain ⟨c, hc⟩ := pickis_T ht S
  rw [h1] at hc
  simp only at hc
  have hh1 : Hi (((i : Int) + 1) * 1125899906842624) S1 := by rw [hc]; exact h.hi.curs c
  have hd0 := h.d0
  have hd1 := h.d1
  have hr : s.ran = (shS d S2, v2, e2) := by
    unfold CoreS.ran
    rw [h.q, pickT_sh ht, h1]
    simp only
    rw [chargeR_sh d _ S1 hh1 (by omega) (by omega), h2]
  have hp : PlayI (i + 1) S2 := by
    have := PlayI.run ht hi h.ref
    rw [h1] at this
    simp only at this
    rw [h2] at this
    exact this
  have hh2 : Hi (((i : Int) + 1) * 1125899906842624 + 1125899906842624) S2 := by
    have := hh1.charge
    rw [h2] at this
    exact this
  refine ⟨CP.next hi h h.ok.run (by omega) (by omega) hp ?_ hh2 (by omega), hr⟩
  unfold CoreS.run
  split
  · simp only; rw [hr]
  · split
    · simp only; rw [hr]
    · simp only; rw [hr]
/-- Nothing is done. -/
theorem CP.stay : CP (i + 1) d s S := CP.next hi h h.ok (by omega) (by omega) ⟨h.ref.ok.mono (by omega) (by omega), h.ref.days, h.ref.far.mono (by omega)⟩ h.q h.hi (by omega)
end
/-- What a map has at a number, as a look-up's run. -/
theorem MapI.look {w : World} {r n : Nat} {sv : Int → Int} (h : MapI w r n sv) (id : Int) (hw : -9223372036854775808 ≤ id ∧ id ≤ 9223372036854775807) : (Instr.lookup 80 (.map (some r)) (.int .i64 id) false).run Tryz.prog w = .ok (.int .i64 (sv id)) w := by
  obtain ⟨D, h1, h2, h3⟩ := h
  obtain ⟨c, hrun, hat, _⟩ := h1.lookup_int keyed_int Tryz.underlying80 Tryz.underlying2 (zero_i64 _) (keyOf_int_mk Tryz.underlying3 (wf_of hw))
  have e := (h3 id).symm.trans hat
  obtain rfl : sv id = c := by simpa using e
  exact hrun
/-- The document's Enter, exact or not. -/
theorem rEnterB {w0 w : World} {G : Nat → Prop} {r : Nat} {tag K : Int} {S : Ln} (h : RSt w0 w G r tag S) (hk : OkS K S) (hK : K ≤ 1151795604700004352) (ht : TagOk tag) (id tw lag : Int) (exact : Bool) {v : Int} (hv : mayE S.l id tw lag = v) :
    Calls Tryz.prog 11 #[.pointer (some ⟨r, 0, none⟩), .int .i64 id, .int .i64 tw, .int .i64 lag, .bool exact] w fun e w' => e = .returned (.int .i64 v) ∧ RNext w0 w G r tag (if exact = true then putR S id tw lag else enterR (heldT tag) S id tw lag) w' := by
  cases exact with
  | true => exact rPutS h hk hK ht id tw lag hv
  | false => exact rEnterS (heldT tag) h hk hK ht (heldT_r ht) (fun h1 h2 => heldmay_T ht h1 h2) id tw lag hv
end Go.Proofs.YtfijedmdfkelnaaGreat

/- CorePlays walked. -/
namespace Go.Proofs.YtfijedmdfkelnaaGreat
open Go.RowKit Go.Maps
set_option linter.unusedVariables false
set_option linter.unusedSimpArgs false

/-- Both, and the law's own map: the core at c (its map at r), the document's queue at rr, the law's map at r2. -/
structure CW (w0 w : World) (c p b r rr r2 : Nat) (F G : Nat → Prop) (n2 : Nat) (s : CoreS) (S : Ln) : Prop where
  core : CSt w0 w F c p b r s
  ref : RSt w0 w G rr s.tag S
  map : MapI w r2 n2 s.sv
  apart : ∀ k, cfoot F c p r k → ¬ G k
  mc : ¬ cfoot F c p r r2
  mg : ¬ G r2
  new2 : w0.heap.size ≤ r2
/-- The loop's round. -/
def CJ (w0 w : World) (c r r2 : Nat) (i : Nat) (tw ti ta : Value) : Prop :=
  ∃ (p b rr n2 : Nat) (F G : Nat → Prop) (s : CoreS) (S : Ln) (d : Int), tw = .pointer (some ⟨rr, 0, none⟩) ∧ ti = .int .i64 s.idle ∧ ta = .int .i64 s.age ∧ CW w0 w c p b r rr r2 F G n2 s S ∧ n2 ≤ i ∧ CP i d s S
/-- Behind the call, ahead of the count of what was OK. -/
def CK (w0 w : World) (c r r2 k13 : Nat) (x : Ad) (i : Nat) (te tw tf ti ta : Value) : Prop :=
  ∃ (p b rr n2 : Nat) (F G : Nat → Prop) (s : CoreS) (S : Ln) (d e age : Int), te = .int .i64 e ∧ tf = .int .i64 e ∧ tw = .pointer (some ⟨rr, 0, none⟩) ∧ ti = .int .i64 s.idle ∧ ta = .int .i64 age ∧ s.age = (if e = 0 then age + 1 else age) ∧ -1000 ≤ age ∧ age ≤ 1000000 ∧
    CW w0 w c p b r rr r2 F G n2 s S ∧ n2 ≤ i + 1 ∧ CP (i + 1) d s S ∧ w.heap[k13]? = some (.cells #[.int .i64 x.op, .int .i64 x.id, .int .i64 x.w, .int .i64 x.tag, .int .i64 x.lag, .bool x.exact] 73 (0, 0)) ∧ ¬ cfoot F c p r k13 ∧ ¬ G k13 ∧ k13 ≠ r2

section
variable {w0 w w' : World} {c p b r rr r2 n2 : Nat} {F G : Nat → Prop} {s : CoreS} {S : Ln}
theorem CW.below (h : CW w0 w c p b r rr r2 F G n2 s S) (hb : Below w.heap.size w w') : CW w0 w' c p b r rr r2 F G n2 s S :=
  ⟨h.core.below hb, h.ref.below hb, h.map.below hb, h.apart, h.mc, h.mg, h.new2⟩
end
section
variable {w0 w w' : World} {c p b r rr r2 n2 k13 : Nat} {F G : Nat → Prop} {s s' : CoreS} {S S2 : Ln} {o : Obj} {tag : Int} {sv : Int → Int}
/-- Core, document's queue, the law's map and one block more, each for itself. -/
structure CX (w0 w : World) (c p b r rr r2 k13 : Nat) (F G : Nat → Prop) (n2 : Nat) (s : CoreS) (tag : Int) (S : Ln) (sv : Int → Int) (o : Obj) : Prop where
  core : CSt w0 w F c p b r s
  ref : RSt w0 w G rr tag S
  map : MapI w r2 n2 sv
  apart : ∀ k, cfoot F c p r k → ¬ G k
  mc : ¬ cfoot F c p r r2
  mg : ¬ G r2
  new2 : w0.heap.size ≤ r2
  x : w.heap[k13]? = some o
  xc : ¬ cfoot F c p r k13
  xg : ¬ G k13
  x2 : k13 ≠ r2
theorem CX.below (h : CX w0 w c p b r rr r2 k13 F G n2 s tag S sv o) (hb : Below w.heap.size w w') : CX w0 w' c p b r rr r2 k13 F G n2 s tag S sv o :=
  ⟨h.core.below hb, h.ref.below hb, h.map.below hb, h.apart, h.mc, h.mg, h.new2, heap_below h.x hb, h.xc, h.xg, h.x2⟩
theorem cfoot_of {k : Nat} (h : F k ∨ k = c ∨ k = r) : cfoot F c p r k := by
  rcases h with h | h | h
  · exact .inl h
  · exact .inr (.inl h)
  · exact .inr (.inr (.inr h))
theorem CX.step (h : CX w0 w c p b r rr r2 k13 F G n2 s tag S sv o) (hn : CNext w0 w F c p b r s' w') : ∃ F', CX w0 w' c p b r rr r2 k13 F' G n2 s' tag S sv o := by
  obtain ⟨F', hc, hf, hs⟩ := hn
  have hx := (Array.getElem?_eq_some_iff.1 h.x).1
  have h2 := h.map.lt
  have hback : ∀ k, cfoot F' c p r k → cfoot F c p r k ∨ w.heap.size ≤ k := by
    rintro k (hk | hk | hk | hk)
    · exact (hs k hk).elim (fun h => .inl (.inl h)) .inr
    · exact .inl (.inr (.inl hk))
    · exact .inl (.inr (.inr (.inl hk)))
    · exact .inl (.inr (.inr (.inr hk)))
  refine ⟨F', hc, h.ref.fr hf (fun k h1 h3 => h.apart k (cfoot_of h3) h1) (fun k h3 => h.core.new k (cfoot_of h3)), h.map.fr hf (fun h3 => h.mc (cfoot_of h3)), fun k h1 h3 => ?_, fun h1 => ?_, h.mg, h.new2, heap_fr h.x hf (fun h3 => h.xc (cfoot_of h3)), fun h1 => ?_, h.xg, h.x2⟩
  · rcases hback k h1 with h4 | h4
    · exact h.apart k h4 h3
    · have := h.ref.lt k h3; omega
  · rcases hback _ h1 with h4 | h4
    · exact h.mc h4
    · omega
  · rcases hback _ h1 with h4 | h4
    · exact h.xc h4
    · omega
theorem CX.rstep (h : CX w0 w c p b r rr r2 k13 F G n2 s tag S sv o) (hn : RNext w0 w G rr tag S2 w') : ∃ G', CX w0 w' c p b r rr r2 k13 F G' n2 s tag S2 sv o := by
  obtain ⟨G', hc, hf, hs⟩ := hn
  have hx := (Array.getElem?_eq_some_iff.1 h.x).1
  have h2 := h.map.lt
  refine ⟨G', h.core.fr hf (fun k h1 h3 => h.apart k h1 h3) h.ref.new, hc, h.map.fr hf h.mg, fun k h1 h3 => ?_, h.mc, fun h1 => ?_, h.new2, heap_fr h.x hf h.xg, h.xc, fun h1 => ?_, h.x2⟩
  · rcases hs k h3 with h4 | h4
    · exact h.apart k h1 h4
    · have := h.core.lt k h1; omega
  · rcases hs _ h1 with h4 | h4
    · exact h.mg h4
    · omega
  · rcases hs _ h1 with h4 | h4
    · exact h.xg h4
    · omega
theorem CX.cw (h : CX w0 w c p b r rr r2 k13 F G n2 s tag S sv o) (ht : tag = s.tag) (hs : sv = s.sv) : CW w0 w c p b r rr r2 F G n2 s S := by
  subst ht hs
  exact ⟨h.core, h.ref, h.map, h.apart, h.mc, h.mg, h.new2⟩
theorem CX.change {H : Nat → Prop} {p2 b2 N : Nat} (h : CX w0 w c p b r rr r2 k13 F G n2 s tag S sv o) (hG : ∀ k, G k → k < N) (h2 : r2 < N) (h13 : k13 < N) (hH : ∀ k, H k ∨ k = p2 → N ≤ k) (hc : CSt w0 w' H c p2 b2 r s') (hf : Fr (fun k => k = c) w w') : CX w0 w' c p2 b2 r rr r2 k13 H G n2 s' tag S sv o := by
  have hno : ∀ k, k < N → ¬ cfoot F c p r k → ¬ cfoot H c p2 r k := by
    rintro k hk h1 (h3 | h3 | h3 | h3)
    · have := hH k (.inl h3); omega
    · exact h1 (.inr (.inl h3))
    · have := hH k (.inr h3); omega
    · exact h1 (.inr (.inr (.inr h3)))
  have hcf : cfoot F c p r c := .inr (.inl rfl)
  exact ⟨hc, h.ref.fr hf (fun k h1 h3 => h.apart c hcf (by subst h3; exact h1)) (fun k h3 => by subst h3; exact h.core.newc), h.map.fr hf (fun h3 => h.mc (by subst h3; exact hcf)), fun k h1 h3 => hno k (hG k h3) (fun h4 => h.apart k h4 h3) h1, hno _ h2 h.mc, h.mg, h.new2, heap_fr h.x hf (fun h3 => h.xc (by subst h3; exact hcf)), hno _ h13 h.xc, h.xg, h.x2⟩
theorem CX.reseed {r9 c9 : Nat} {a9 : Option Addr} {tag9 : Int} {S9 : Ln} (h : CX w0 w c p b r rr r2 k13 F G n2 s tag S sv o) (hra : RAt w' r9 a9 c9 tag9 S9) (hn : ∀ k, foot r9 a9 k → w.heap.size ≤ k) (hb : Below w.heap.size w w') : CX w0 w' c p b r r9 r2 k13 F (foot r9 a9) n2 s tag9 S9 sv o := by
  have h1 := h.core.below hb
  have h2 := h.map.lt
  have h3 := (Array.getElem?_eq_some_iff.1 h.x).1
  exact ⟨h1, ⟨⟨a9, c9, hra, rfl⟩, fun k hk => Nat.le_trans h.core.old.size (hn k hk), h1.old⟩, h.map.below hb, fun k h4 h5 => by have := h.core.lt k h4; have := hn k h5; omega, h.mc, fun h5 => by have := hn _ h5; omega, h.new2, heap_below h.x hb, h.xc, fun h5 => by have := hn _ h5; omega, h.x2⟩
theorem CX.remap {n3 : Nat} {sv' : Int → Int} (h : CX w0 w c p b r rr r2 k13 F G n2 s tag S sv o) (hf : Fr (fun k => k = r2) w w') (hm : MapI w' r2 n3 sv') : CX w0 w' c p b r rr r2 k13 F G n3 s tag S sv' o :=
  ⟨h.core.fr hf (fun k h1 h3 => h.mc (by subst h3; exact h1)) (fun k h3 => by subst h3; exact h.new2), h.ref.fr hf (fun k h1 h3 => h.mg (by subst h3; exact h1)) (fun k h3 => by subst h3; exact h.new2), hm, h.apart, h.mc, h.mg, h.new2, heap_fr h.x hf h.x2, h.xc, h.xg, h.x2⟩
end
theorem charge_id {K : Int} {S : Ln} (h : OkS K S) : 0 ≤ (chargeR S).2.1 ∧ (chargeR S).2.1 ≤ 1073741824 := by
  unfold chargeR
  rcases at_cases S S.cur with ⟨e, _⟩ | ⟨j, x, e, _, _, hx, _⟩
  · rw [e]; simp
  · rw [e]
    have := h.pts x (List.mem_of_getElem? hx)
    simp only
    split
    · simp
    · simp only; omega
theorem CoreS.run_none {s : CoreS} {Q : Ln} {v : Int} (h : s.ran = (Q, v, 14)) : s.run.2 = (-1, 0) ∧ s.run.1.tag = s.tag ∧ s.run.1.sv = s.sv ∧ s.run.1.idle = s.idle + 1 ∧ s.run.1.age = s.age + 1 := by
  unfold CoreS.run; rw [h]; exact ⟨rfl, rfl, rfl, rfl, rfl⟩
theorem CoreS.run_ok {s : CoreS} {Q : Ln} {v : Int} (h : s.ran = (Q, v, 0)) : s.run.2 = (v, 0) ∧ s.run.1.tag = s.tag ∧ s.run.1.sv = updI s.sv v (s.sv v + 1) ∧ s.run.1.idle = s.idle ∧ s.run.1.age = s.age + 1 := by
  unfold CoreS.run; rw [h]; exact ⟨rfl, rfl, rfl, rfl, rfl⟩
theorem CoreS.run_err {s : CoreS} {Q : Ln} {v e : Int} (h : s.ran = (Q, v, e)) (h0 : e ≠ 0) (h1 : e ≠ 14) : s.run.2 = (v, e) ∧ s.run.1.tag = s.tag ∧ s.run.1.sv = s.sv ∧ s.run.1.idle = s.idle ∧ s.run.1.age = s.age := by
  unfold CoreS.run; rw [h]; simp [h0, h1]
theorem CoreS.enter_same (s : CoreS) (id w lag : Int) (exact : Bool) : (s.enter id w lag exact).tag = s.tag ∧ (s.enter id w lag exact).sv = s.sv ∧ (s.enter id w lag exact).idle = s.idle ∧ (s.enter id w lag exact).age = if mayE s.q.l id w lag = 0 then s.age + 1 else s.age := by
  unfold CoreS.enter CoreS.done; split <;> exact ⟨rfl, rfl, rfl, rfl⟩
theorem CoreS.leave_same (s : CoreS) (id : Int) : (s.leave id).tag = s.tag ∧ (s.leave id).sv = s.sv ∧ (s.leave id).idle = s.idle ∧ (s.leave id).age = if (leaveR s.q id).2.2 = 0 then s.age + 1 else s.age := by
  unfold CoreS.leave CoreS.done; split <;> exact ⟨rfl, rfl, rfl, rfl⟩
theorem CoreS.weigh_same (s : CoreS) (id w : Int) : (s.weigh id w).tag = s.tag ∧ (s.weigh id w).sv = s.sv ∧ (s.weigh id w).idle = s.idle ∧ (s.weigh id w).age = if (weighR s.q id w).2 = 0 then s.age + 1 else s.age := by
  unfold CoreS.weigh CoreS.done; split <;> exact ⟨rfl, rfl, rfl, rfl⟩
theorem blk6 {w : World} {g : Nat} {a0 a1 a2 a3 a4 a5 : Value} {T : TypeId} (h : w.heap[g]? = some (.cells #[a0, a1, a2, a3, a4, a5] T (0, 0))) : w.cell? ⟨g, 0, none⟩ = some a0 ∧ w.cell? ⟨g, 1, none⟩ = some a1 ∧ w.cell? ⟨g, 2, none⟩ = some a2 ∧ w.cell? ⟨g, 3, none⟩ = some a3 ∧ w.cell? ⟨g, 4, none⟩ = some a4 ∧ w.cell? ⟨g, 5, none⟩ = some a5 ∧ g < w.heap.size := by
  have hg := (Array.getElem?_eq_some_iff.1 h).1
  refine ⟨?_, ?_, ?_, ?_, ?_, ?_, hg⟩ <;> simp [World.cell?, h]
theorem cell1 {w : World} {g : Nat} {a0 a1 a2 a3 a4 a5 : Value} {T : TypeId} (h : w.heap[g]? = some (.cells #[a0, a1, a2, a3, a4, a5] T (0, 0))) : w.cell? ⟨g, 1, none⟩ = some a1 := by
  simp [World.cell?, h]
set_option maxHeartbeats 25600000 in
set_option maxRecDepth 100000 in
theorem CorePlays_walk (tag : Int) (acts : List Ad) (m : Nat) (aa : Option Addr) (ac : Nat) (w : World) (htag : I64 tag) (hna : acts.length = m) (hma : m ≤ maxLen) (hac : Sl Ad.enc 6 w aa acts) (hok : ∀ x ∈ acts, x.ok) :
    Calls Tryz.prog 6 #[.int .i64 tag, .slice aa m ac] w fun e w' => e = .returned (.bool true) ∧ Below w.heap.size w w' := by
  have HA := Lib.hid hac
  have HM := Lib.hid hna
  have HAo := Lib.hid hok
  unfold maxLen at hma
  clear hac hna hok
  by_cases h1 : (200 : Int) < m
  · go_enter Tryz.func6, Tryz.ntmps6
    go_wp2_with (first
      | (go_at_call 22; refine (awakeC _).mono ?_; rintro e w1 ⟨rfl, hb1⟩; have Hb1 := Lib.hid hb1; clear hb1)
      )
    go_ret
    exact ⟨rfl, Hb1.out⟩
  · by_cases ht : TagOk tag
    case neg =>
      have HN := Lib.hid (fun W => CorNew_err tag 0 W fun h => ht h.1)
      have HR := Lib.hid (fun W => rNew_err tag 0 W fun h => ht h.1)
      clear ht
      go_enter Tryz.func6, Tryz.ntmps6
      go_wp2_with (first
        | (go_at_call 22; refine (awakeC _).mono ?_; rintro e w1 ⟨rfl, hb1⟩; have Hb1 := Lib.hid hb1; clear hb1)
        | (go_at_call 23; refine (HN.out _).mono ?_; rintro e w2 ⟨rfl, hb2⟩; have Hb2 := Lib.hid hb2; clear hb2)
        | (go_at_call 32; refine (HR.out _).mono ?_; rintro e w3 ⟨rfl, rfl⟩))
      go_ret
      exact ⟨rfl, Hb1.out.trans (Hb2.out.mono Hb1.out.size)⟩
    case pos =>
      have HN := Lib.hid (fun W => CorNew_ok tag 0 W ht (by decide))
      have HR := Lib.hid (fun W => rNew_ok tag 0 W ht (by decide))
      have HI0 := Lib.hid (show CP 0 0 (⟨tag, ⟨0, -1, []⟩, fun _ => 0, 0, 0, 0⟩ : CoreS) ⟨0, -1, []⟩ from ⟨⟨ht, OkS.new (by decide) (by decide), Int.le_refl _, Int.le_refl _, Int.le_refl _, Int.le_refl _, fun _ => Int.le_refl _, fun _ => Int.le_refl _, Nat.le_refl _⟩, PlayI.new (by decide), rfl, by decide, by decide, ⟨by decide, fun x hx => by cases hx⟩⟩)
      clear ht
      have hmk : ∀ w, (Instr.makeMap 80 none).run Tryz.prog w = .ok (.map (some w.heap.size)) (w.alloc (.map #[] 0)) := fun w => run_makeMap _ w
      go_enter Tryz.func6, Tryz.ntmps6
      go_wp2_with (first
        | (go_at_call 22; refine (awakeC _).mono ?_; rintro e w1 ⟨rfl, hb1⟩; have Hb1 := Lib.hid hb1; clear hb1)
        | (go_at_call 23; refine (HN.out _).mono ?_; go_loud (rintro e w2 hnp); obtain ⟨c, p, b, r, F, rfl, hc, _, _⟩ := hnp.st Hb1.out; have Hc := Lib.hid hc; clear hc hnp)
        | (go_at_call 32; refine (HR.out _).mono ?_; rintro e w3 ⟨rfl, hra, hb3⟩; have Hra := Lib.hid hra; have Hb3 := Lib.hid hb3; clear hra hb3))
      have hw2 := Hc.out.lt
      have hcw := Hb3.out.size
      have Hc3 := Lib.hid (Hc.out.below Hb3.out)
      have Hr3 := Lib.hid (rNew_st Hc.out.old Hra.out Hb3.out)
      have hrl := Hr3.out.lt
      have hap : ∀ k, cfoot F c p r k → ¬ foot w2.heap.size none k := fun k h1 h2 => by
        have h3 := hw2 k h1
        rcases h2 with rfl | ⟨_, h2, _⟩
        · omega
        · cases h2
      have Hap := Lib.hid hap
      clear hap
      go_loopg [7, 10, 11, 12] m (fun k tw ti ta ix wr => ∃ i : Nat, i ≤ m ∧ k = m - i ∧ ix = .int .i64 i ∧ CJ w wr c r w3.heap.size i tw ti ta)
      case atStart =>
        refine ⟨0, Nat.zero_le _, rfl, rfl, p, b, w2.heap.size, 0, F, foot w2.heap.size none, _, _, 0, rfl, rfl, rfl, ⟨Hc3.out.below ((Below.refl _ _).alloc (Nat.le_refl _) _), Hr3.out.below ((Below.refl _ _).alloc (Nat.le_refl _) _), MapI.made w3, Hap.out, fun h => ?_, fun h => ?_, Hc3.out.old.size⟩, Nat.le_refl _, HI0.out⟩
        · have := Hc3.out.lt _ h; omega
        · have := hrl _ h; omega
      case round =>
        obtain ⟨i, hi, rfl, rfl, p3, b3, rr, n2, F3, G, s, S, d, rfl, rfl, rfl, hC, hn2, hP⟩ := hrel
        clear Hc Hc3 Hr3 Hap hw2 hrl HI0 HN HR Hra Hb3
        have HC := Lib.hid hC
        have HP := Lib.hid hP
        clear hC hP
        by_cases hlt : i < m
        case neg =>
          have Hold := Lib.hid HC.out.core.old
          clear HC HP
          go_wp2_with fail
          go_ret
          exact ⟨rfl, Hold.out⟩
        case pos =>
          obtain ⟨r0, off, rfl, hr, hcc⟩ := HA.out (by intro h; have h1 := HM.out; rw [h] at h1; simp at h1; omega)
          obtain ⟨x, hx⟩ : ∃ y, acts[i]? = some y := ⟨_, List.getElem?_eq_getElem (by rw [HM.out]; exact hlt)⟩
          have Hxo := Lib.hid (HAo.out x (List.mem_of_getElem? hx))
          have e0 := (HC.out.core.old.cell (p := ⟨r0, off + i * 6 + 0, none⟩) hr).trans (hcc i x hx 0 _ rfl)
          have e1 := (HC.out.core.old.cell (p := ⟨r0, off + i * 6 + 1, none⟩) hr).trans (hcc i x hx 1 _ rfl)
          have e2 := (HC.out.core.old.cell (p := ⟨r0, off + i * 6 + 2, none⟩) hr).trans (hcc i x hx 2 _ rfl)
          have e3 := (HC.out.core.old.cell (p := ⟨r0, off + i * 6 + 3, none⟩) hr).trans (hcc i x hx 3 _ rfl)
          have e4 := (HC.out.core.old.cell (p := ⟨r0, off + i * 6 + 4, none⟩) hr).trans (hcc i x hx 4 _ rfl)
          have e5 := (HC.out.core.old.cell (p := ⟨r0, off + i * 6 + 5, none⟩) hr).trans (hcc i x hx 5 _ rfl)
          simp only [Nat.add_zero] at e0
          have hki : (i : Int) < m := by omega
          have hi200 : i < 200 := by omega
          have HC0 := Lib.hid (HC.out.below ((Below.refl _ _).alloc (Nat.le_refl _) (.cells #[.int .i64 x.op, .int .i64 x.id, .int .i64 x.w, .int .i64 x.tag, .int .i64 x.lag, .bool x.exact] 73)))
          have HX0 := Lib.hid (heap_new wr (.cells #[.int .i64 x.op, .int .i64 x.id, .int .i64 x.w, .int .i64 x.tag, .int .i64 x.lag, .bool x.exact] 73))
          have Hc9 := Lib.hid (fun h => by have := HC.out.core.lt _ h; omega : ¬ cfoot F3 c p3 r wr.heap.size)
          have Hg9 := Lib.hid (fun h => by have := HC.out.ref.lt _ h; omega : ¬ G wr.heap.size)
          have h92 : wr.heap.size ≠ w3.heap.size := by have := HC.out.map.lt; omega
          clear hcc hx
          go_upto_block 2 with fail
          go_cut [6, 7, 8, 10, 11] (fun te tw tf ti ta wx => CK w wx c r w3.heap.size wr.heap.size x i te tw tf ti ta)
          case first =>
            have HCX := Lib.hid (CX.mk HC0.out.core HC0.out.ref HC0.out.map HC0.out.apart HC0.out.mc HC0.out.mg HC0.out.new2 HX0.out Hc9.out Hg9.out h92)
            have ha0 := HP.out.ok.age0
            have ha1 := HP.out.ok.age1
            have hK : (i : Int) * 1125899906842624 ≤ 1151795604700004352 := by omega
            by_cases o0 : x.op = 0
            case pos =>
              as_aux_lemma =>
              have b0 : (x.op == 0) = true := by simpa using o0
              have HCd := Lib.hid (HCX.out.below (Below.refl _ _).drew)
              obtain ⟨x0, x1, x2, x3, x4, x5, xl⟩ := blk6 HCX.out.x
              obtain ⟨v, hv⟩ : ∃ v, mayE S.l x.id x.w x.lag = v := ⟨_, rfl⟩
              have hv' : mayE s.q.l x.id x.w x.lag = v := by rw [CP.may_is hi200 HP.out]; exact hv
              have HE1 := Lib.hid (CorEnter HCd.out.core HP.out.ok (by omega) hK x.id x.w x.lag x.exact hv')
              have HE2 := Lib.hid (fun W G (hW : RSt w W G rr s.tag S) => rEnterB hW HP.out.ref.ok hK HP.out.ok.tag x.id x.w x.lag x.exact hv)
              have HP2 := Lib.hid (CP.enter hi200 HP.out x.id x.w x.lag x.exact)
              obtain ⟨q1, q2, q3, q4⟩ := CoreS.enter_same s x.id x.w x.lag x.exact
              rw [hv'] at q4
              generalize s.enter x.id x.w x.lag x.exact = s2 at HE1 HP2 q1 q2 q3 q4
              generalize (if x.exact = true then putR S x.id x.w x.lag else enterR (heldT s.tag) S x.id x.w x.lag) = S2 at HE2 HP2
              have HQ := Lib.hid (And.intro q1 (And.intro q2 (And.intro q3 q4)))
              clear hv hv' o0 q1 q2 q3 q4
              go_wp2_with fail
              refine wp_region_chain 256 [0, 0, 2, 0, 8, 0, 32, 0, 128, 511, 0, 0, 2048, 0, 8192, 0, 32768, 0, 131072, 524287, 1048575, 2097151] [(0, none), (1, none), (2, none), (3, none), (4, none), (5, none), (6, none), (7, none), (8, none), (10, none), (11, none), (12, none), (13, none), (14, none), (15, none), (16, none), (17, none), (18, none), (9, some [10, 11, 12, 13, 14, 15, 16, 17, 18]), (19, some []), (20, none), (21, none)] (by kernel_rfl) (by kernel_rfl) (by rfl) ?_; simp only [chain, Obs, List.getElem?_toArray, List.getElem?_cons_zero, List.getElem?_cons_succ]
              go_wp2_with (first
                | (with_reducible refine And.intro (by first | with_reducible exact True.intro | with_reducible rfl | (go_simp; done) | (go_simp; intro h; simp [undef] at h)) ?_)
                | (go_at_call 28; refine HE1.out.mono ?_; rintro e w4 ⟨rfl, hn4⟩; obtain ⟨F4, hx4⟩ := HCd.out.step hn4; have HC4 := Lib.hid hx4; obtain ⟨x0, x1, x2, x3, x4, x5, xl⟩ := blk6 hx4.x; clear hn4 hx4)
                | (go_at_call 11; refine (HE2.out _ _ HC4.out.ref).mono ?_; rintro e w5 ⟨rfl, hn5⟩; obtain ⟨G5, hx5⟩ := HC4.out.rstep hn5; have HC5 := Lib.hid hx5; clear hn5 hx5))
              refine NoPanic.normal ?_
              go_wp2_with fail
              go_meet
              obtain ⟨q1, q2, q3, q4⟩ := HQ.out
              exact ⟨p3, b3, rr, n2, F4, G5, s2, S2, d, v, s.age, rfl, rfl, rfl, by rw [q3], rfl, q4, by omega, by omega, HC5.out.cw q1.symm q2.symm, by omega, HP2.out, HC5.out.x, HC5.out.xc, HC5.out.xg, HC5.out.x2⟩
            case neg =>
              have b0 : (x.op == 0) = false := by simpa using o0
              by_cases o1 : x.op = 1
              case pos =>
                as_aux_lemma =>
                have b1 : (x.op == 1) = true := by simpa using o1
                obtain ⟨x0, x1, x2, x3, x4, x5, xl⟩ := blk6 HCX.out.x
                obtain ⟨S2, v, k, hv⟩ : ∃ S2 v k, leaveR S x.id = (S2, v, k) := ⟨_, _, _, rfl⟩
                have h2 := CP.leave_is hi200 HP.out x.id
                have hv' : leaveR s.q x.id = ((leaveR s.q x.id).1, v, k) := by rw [hv] at h2; exact Prod.ext rfl h2
                have HE1 := Lib.hid (CorLeave HCX.out.core HP.out.ok (by omega) x.id hv')
                have HE2 := Lib.hid (fun W G (hW : RSt w W G rr s.tag S) => rLeaveS hW HP.out.ref.ok x.id hv)
                have hP2 := CP.leave hi200 HP.out x.id
                rw [hv] at hP2
                have HP2 := Lib.hid hP2
                obtain ⟨q1, q2, q3, q4⟩ := CoreS.leave_same s x.id
                rw [h2, hv] at q4
                generalize s.leave x.id = s2 at HE1 HP2 q1 q2 q3 q4
                have HQ := Lib.hid (And.intro q1 (And.intro q2 (And.intro q3 q4)))
                clear hv hv' h2 hP2 o1 q1 q2 q3 q4
                go_wp2_with (first
                  | (go_at_call 27; refine HE1.out.mono ?_; rintro e w4 ⟨rfl, hn4⟩; obtain ⟨F4, hx4⟩ := HCX.out.step hn4; have HC4 := Lib.hid hx4; obtain ⟨x0, x1, x2, x3, x4, x5, xl⟩ := blk6 hx4.x; clear hn4 hx4)
                  | (go_at_call 12; refine (HE2.out _ _ HC4.out.ref).mono ?_; rintro e w5 ⟨rfl, hn5⟩; obtain ⟨G5, hx5⟩ := HC4.out.rstep hn5; have HC5 := Lib.hid hx5; clear hn5 hx5))
                go_meet
                obtain ⟨q1, q2, q3, q4⟩ := HQ.out
                exact ⟨p3, b3, rr, n2, F4, G5, s2, S2, d, k, s.age, rfl, rfl, rfl, by rw [q3], rfl, q4, by omega, by omega, HC5.out.cw q1.symm q2.symm, by omega, HP2.out, HC5.out.x, HC5.out.xc, HC5.out.xg, HC5.out.x2⟩
              case neg =>
                have b1 : (x.op == 1) = false := by simpa using o1
                by_cases o2 : x.op = 2
                case pos =>
                  as_aux_lemma =>
                  have b2 : (x.op == 2) = true := by simpa using o2
                  have HCd := Lib.hid (HCX.out.below (Below.refl _ _).drew)
                  obtain ⟨x0, x1, x2, x3, x4, x5, xl⟩ := blk6 HCX.out.x
                  obtain ⟨S2, k, hv⟩ : ∃ S2 k, weighR S x.id x.w = (S2, k) := ⟨_, _, rfl⟩
                  have h2 := CP.weigh_is hi200 HP.out x.id x.w
                  have hv' : weighR s.q x.id x.w = ((weighR s.q x.id x.w).1, k) := by rw [hv] at h2; exact Prod.ext rfl h2
                  have HE1 := Lib.hid (CorWeigh HCd.out.core HP.out.ok (by omega) x.id x.w hv')
                  have HE2 := Lib.hid (fun W G (hW : RSt w W G rr s.tag S) => rWeighS hW HP.out.ref.ok x.id x.w hv)
                  have hP2 := CP.weigh hi200 HP.out x.id x.w
                  rw [hv] at hP2
                  have HP2 := Lib.hid hP2
                  obtain ⟨q1, q2, q3, q4⟩ := CoreS.weigh_same s x.id x.w
                  rw [h2, hv] at q4
                  generalize s.weigh x.id x.w = s2 at HE1 HP2 q1 q2 q3 q4
                  have HQ := Lib.hid (And.intro q1 (And.intro q2 (And.intro q3 q4)))
                  clear hv hv' h2 hP2 o2 q1 q2 q3 q4
                  go_wp2_with fail
                  refine wp_region_chain 256 [0, 0, 2, 0, 8, 31, 0, 0, 128, 0, 512, 2047, 4095, 8191] [(0, none), (1, none), (2, none), (3, none), (4, none), (6, none), (7, none), (8, none), (9, none), (10, none), (5, some [6, 7, 8, 9, 10]), (11, some []), (12, none), (13, none)] (by kernel_rfl) (by kernel_rfl) (by rfl) ?_; simp only [chain, Obs, List.getElem?_toArray, List.getElem?_cons_zero, List.getElem?_cons_succ]
                  go_wp2_with (first
                    | (with_reducible refine And.intro (by first | with_reducible exact True.intro | with_reducible rfl | (go_simp; done) | (go_simp; intro h; simp [undef] at h)) ?_)
                    | (go_at_call 33; refine HE1.out.mono ?_; rintro e w4 ⟨rfl, hn4⟩; obtain ⟨F4, hx4⟩ := HCd.out.step hn4; have HC4 := Lib.hid hx4; obtain ⟨x0, x1, x2, x3, x4, x5, xl⟩ := blk6 hx4.x; clear hn4 hx4)
                    | (go_at_call 13; refine (HE2.out _ _ HC4.out.ref).mono ?_; rintro e w5 ⟨rfl, hn5⟩; obtain ⟨G5, hx5⟩ := HC4.out.rstep hn5; have HC5 := Lib.hid hx5; clear hn5 hx5))
                  refine NoPanic.normal ?_
                  go_wp2_with fail
                  go_meet
                  obtain ⟨q1, q2, q3, q4⟩ := HQ.out
                  exact ⟨p3, b3, rr, n2, F4, G5, s2, S2, d, k, s.age, rfl, rfl, rfl, by rw [q3], rfl, q4, by omega, by omega, HC5.out.cw q1.symm q2.symm, by omega, HP2.out, HC5.out.x, HC5.out.xc, HC5.out.xg, HC5.out.x2⟩
                case neg =>
                  have b2 : (x.op == 2) = false := by simpa using o2
                  by_cases o3 : x.op = 3
                  case pos =>
                    as_aux_lemma =>
                    have b3' : (x.op == 3) = true := by simpa using o3
                    obtain ⟨x0, x1, x2, x3, x4, x5, xl⟩ := blk6 HCX.out.x
                    obtain ⟨S1, v1, k1, h1⟩ : ∃ S1 v k, pickT s.tag S = (S1, v, k) := ⟨_, _, _, rfl⟩
                    obtain ⟨S2, v2, e2, h2⟩ : ∃ S2 v k, chargeR S1 = (S2, v, k) := ⟨_, _, _, rfl⟩
                    obtain ⟨hP2, hran⟩ := CP.run hi200 HP.out h1 h2
                    have hI1 := PlayI.pickT HP.out.ok.tag hi200 HP.out.ref
                    rw [h1] at hI1
                    have HI1 := Lib.hid hI1
                    have hid := charge_id hI1.ok
                    rw [h2] at hid
                    simp only at hid
                    have hv2 : -9223372036854775808 ≤ v2 ∧ v2 ≤ 9223372036854775807 := by omega
                    have hrv : -9223372036854775808 ≤ s.ran.2.1 ∧ s.ran.2.1 ≤ 9223372036854775807 := by rw [hran]; exact hv2
                    have HE2 := Lib.hid (fun W G (hW : RSt w W G rr s.tag S) => rPickS_T HP.out.ok.tag hW HP.out.ref.ok HP.out.ref.far (by omega) h1)
                    have HE3 := Lib.hid (fun W G (hW : RSt w W G rr s.tag S1) => rChargeS hW HI1.out.ok HI1.out.day h2)
                    have HP2 := Lib.hid hP2
                    have hsv0 := HP.out.ok.sv0 v2
                    have hsv1 := HP.out.ok.sv1 v2
                    have hi0 := HP.out.ok.idle0
                    have hi1 := HP.out.ok.idle1
                    cases k1 with
                    | false =>
                      obtain ⟨rfl, rfl, rfl⟩ := pickT_no HP.out.ok.tag HP.out.ref.ok h1 h2 rfl
                      obtain ⟨q0, q1, q2, q3, q4⟩ := CoreS.run_none hran
                      have HE1 := Lib.hid (CorRun HCX.out.core HP.out.ok (by omega) (show s.run = (s.run.1, -1, 0) from Prod.ext rfl q0) hrv)
                      have hw : IntKind.i64.wrap (s.idle + 1) = s.idle + 1 := IntWalk.i64_in _ (by omega)
                      generalize s.run.1 = s2 at HE1 HP2 q1 q2 q3 q4
                      have HQ := Lib.hid (And.intro q1 (And.intro q2 (And.intro q3 q4)))
                      clear h1 h2 hP2 hran hI1 hid hrv o3 q0 q1 q2 q3 q4
                      go_wp2_with (first
                        | (go_at_call 30; refine HE1.out.mono ?_; rintro e w4 ⟨rfl, hn4⟩; obtain ⟨F4, hx4⟩ := HCX.out.step hn4; have HC4 := Lib.hid hx4; obtain ⟨x0, x1, x2, x3, x4, x5, xl⟩ := blk6 hx4.x; clear hn4 hx4)
                        | (go_at_call 14; refine (HE2.out _ _ HC4.out.ref).mono ?_; rintro e w5 ⟨rfl, hn5⟩; obtain ⟨G5, hx5⟩ := HC4.out.rstep hn5; have HC5 := Lib.hid hx5; clear hn5 hx5))
                      go_meet
                      obtain ⟨q1, q2, q3, q4⟩ := HQ.out
                      exact ⟨p3, b3, rr, n2, F4, G5, s2, _, d, 0, s.age, rfl, rfl, rfl, by rw [q3], rfl, by rw [q4]; rfl, by omega, by omega, HC5.out.cw q1.symm q2.symm, by omega, HP2.out, HC5.out.x, HC5.out.xc, HC5.out.xg, HC5.out.x2⟩
                    | true =>
                      have h14 := pickT_yes HP.out.ok.tag HP.out.ref.ok h1 h2
                      by_cases h0 : e2 = 0
                      · subst h0
                        obtain ⟨q0, q1, q2, q3, q4⟩ := CoreS.run_ok hran
                        have HE1 := Lib.hid (CorRun HCX.out.core HP.out.ok (by omega) (show s.run = (s.run.1, v2, 0) from Prod.ext rfl q0) hrv)
                        have hw : IntKind.i64.wrap (s.sv v2 + 1) = s.sv v2 + 1 := IntWalk.i64_in _ (by omega)
                        generalize s.run.1 = s2 at HE1 HP2 q1 q2 q3 q4
                        have HQ := Lib.hid (And.intro q1 (And.intro q2 (And.intro q3 q4)))
                        clear h1 h2 hP2 hran hI1 hid hrv o3 q0 q1 q2 q3 q4 h14
                        go_wp2_with (first
                          | (go_at_call 30; refine HE1.out.mono ?_; rintro e w4 ⟨rfl, hn4⟩; obtain ⟨F4, hx4⟩ := HCX.out.step hn4; have HC4 := Lib.hid hx4; obtain ⟨x0, x1, x2, x3, x4, x5, xl⟩ := blk6 hx4.x; clear hn4 hx4)
                          | (go_at_call 14; refine (HE2.out _ _ HC4.out.ref).mono ?_; rintro e w5 ⟨rfl, hn5⟩; obtain ⟨G5, hx5⟩ := HC4.out.rstep hn5; have HC5 := Lib.hid hx5; clear hn5 hx5)
                          | (go_at_call 15; refine (HE3.out _ _ HC5.out.ref).mono ?_; rintro e w6 ⟨rfl, hn6⟩; obtain ⟨G6, hx6⟩ := HC5.out.rstep hn6; have HC6 := Lib.hid hx6; clear hn6 hx6)
                          | (at_lookup; refine wpList_lookI _ rfl _ _ rfl w3.heap.size _ _ rfl HC6.out.map v2 rfl hv2 ?_)
                          | (at_mapUpdate; refine wpList_putI _ rfl _ _ _ rfl w3.heap.size _ _ rfl HC6.out.map (show n2 < maxLen by unfold maxLen; omega) v2 (s.sv v2 + 1) rfl (by first | rfl | simp only [hw]) hv2 (by omega) ?_; intro w7 hm7 hf7; have HC7 := Lib.hid (HC6.out.remap hf7 hm7); clear hm7 hf7))
                        go_meet
                        obtain ⟨q1, q2, q3, q4⟩ := HQ.out
                        exact ⟨p3, b3, rr, n2 + 1, F4, G6, s2, S2, d, 0, s.age, rfl, rfl, rfl, by rw [q3], rfl, by rw [q4]; rfl, by omega, by omega, HC7.out.cw q1.symm q2.symm, by omega, HP2.out, HC7.out.x, HC7.out.xc, HC7.out.xg, HC7.out.x2⟩
                      · obtain ⟨q0, q1, q2, q3, q4⟩ := CoreS.run_err hran h0 h14
                        have HE1 := Lib.hid (CorRun HCX.out.core HP.out.ok (by omega) (show s.run = (s.run.1, v2, e2) from Prod.ext rfl q0) hrv)
                        have be : (e2 == 0) = false := by simpa using h0
                        have H0 := Lib.hid h0
                        generalize s.run.1 = s2 at HE1 HP2 q1 q2 q3 q4
                        have HQ := Lib.hid (And.intro q1 (And.intro q2 (And.intro q3 q4)))
                        clear h1 h2 hP2 hran hI1 hid hrv o3 q0 q1 q2 q3 q4 h14 h0
                        go_wp2_with (first
                          | (go_at_call 30; refine HE1.out.mono ?_; rintro e w4 ⟨rfl, hn4⟩; obtain ⟨F4, hx4⟩ := HCX.out.step hn4; have HC4 := Lib.hid hx4; obtain ⟨x0, x1, x2, x3, x4, x5, xl⟩ := blk6 hx4.x; clear hn4 hx4)
                          | (go_at_call 14; refine (HE2.out _ _ HC4.out.ref).mono ?_; rintro e w5 ⟨rfl, hn5⟩; obtain ⟨G5, hx5⟩ := HC4.out.rstep hn5; have HC5 := Lib.hid hx5; clear hn5 hx5)
                          | (go_at_call 15; refine (HE3.out _ _ HC5.out.ref).mono ?_; rintro e w6 ⟨rfl, hn6⟩; obtain ⟨G6, hx6⟩ := HC5.out.rstep hn6; have HC6 := Lib.hid hx6; clear hn6 hx6))
                        go_meet
                        obtain ⟨q1, q2, q3, q4⟩ := HQ.out
                        exact ⟨p3, b3, rr, n2, F4, G6, s2, S2, d, e2, s.age, rfl, rfl, rfl, by rw [q3], rfl, by rw [q4, if_neg H0.out], by omega, by omega, HC6.out.cw q1.symm q2.symm, by omega, HP2.out, HC6.out.x, HC6.out.xc, HC6.out.xg, HC6.out.x2⟩
                  case neg =>
                    have b3' : (x.op == 3) = false := by simpa using o3
                    have hfa := CP.form_at HP.out
                    have HCd := Lib.hid (HCX.out.below (Below.refl _ _).drew)
                    have HFm := Lib.hid (by
                      have h0 := CorForm HCd.out.core HP.out.ok.tag HP.out.ok.ok
                      rw [hfa.1, hfa.2] at h0
                      exact h0 : Calls Tryz.prog 26 #[.pointer (some ⟨c, 0, none⟩)] _ (FormPost _ S.cur (S.l.map (itOf S.base))))
                    have hw : IntKind.i64.wrap (1000 * (i : Int)) = 1000 * (i : Int) := IntWalk.i64_in _ (by omega)
                    have hlen := HP.out.ref.ok.len
                    obtain ⟨x0, x1, x2, x3, x4, x5, xl⟩ := blk6 HCX.out.x
                    by_cases hG : TagOk x.tag ∧ BaseOk (1000 * (i : Int)) ∧ goodF (formR S) = true
                    case neg =>
                      as_aux_lemma =>
                      have HS := Lib.hid (fun W a k (hW : Sl It.enc 3 W a (S.l.map (itOf S.base))) => PolSeed_err x.tag (formR S) S.l.length a k (1000 * (i : Int)) W (List.length_map _) (by omega) hW hG)
                      clear hG hfa o0 o1 o2 o3
                      go_wp2_with fail
                      refine wp_region_chain 256 [0, 1, 0, 4, 0, 16, 63, 127, 255, 255, 511, 2047] [(0, none), (1, none), (2, none), (4, none), (5, none), (3, some [0, 1, 4, 5]), (6, some []), (7, none), (8, none), (9, none), (10, none), (11, none)] (by kernel_rfl) (by kernel_rfl) (by rfl) ?_; simp only [chain, Obs, List.getElem?_toArray, List.getElem?_cons_zero, List.getElem?_cons_succ]
                      go_wp2_with (first
                        | (with_reducible refine And.intro (by first | with_reducible exact True.intro | with_reducible rfl | (go_simp; done) | (go_simp; intro h; simp [undef] at h)) ?_)
                        | (go_at_call 26; refine HFm.out.mono ?_; rintro e w6 ⟨a6, k6, rfl, ho, hb6⟩; rw [List.length_map] at ho ⊢; have Hs6 := Lib.hid (Sl.of_own (l := S.l.map (itOf S.base)) It.len (by rw [List.length_map]; exact ho)); have HC6 := Lib.hid (HCd.out.below hb6); obtain ⟨x0, x1, x2, x3, x4, x5, xl⟩ := blk6 HC6.out.x; clear ho hb6)
                        | (go_at_call 8; refine (HS.out _ _ _ Hs6.out).mono ?_; rintro e w7 ⟨rfl, hb7⟩; have HC7 := Lib.hid (HC6.out.below hb7); obtain ⟨x0, x1, x2, x3, x4, x5, xl⟩ := blk6 HC7.out.x; clear hb7))
                      refine NoPanic.normal ?_
                      go_wp2_with fail
                      go_roundg (m - (i + 1))
                      case measure => omega
                      case rel => exact ⟨i + 1, hlt, rfl, by go_num, p3, b3, rr, n2, F3, G, s, S, d, rfl, rfl, rfl, HC7.out.cw rfl rfl, by omega, CP.stay hi200 HP.out⟩
                    case pos =>
                      as_aux_lemma =>
                      obtain ⟨ht9, hB9, hg9⟩ := hG
                      have HS := Lib.hid (fun W a k (hW : Sl It.enc 3 W a (S.l.map (itOf S.base))) => PolSeed_ok x.tag (formR S) S.l.length a k (1000 * (i : Int)) W (List.length_map _) hW ht9 hB9 hg9)
                      have HR := Lib.hid (fun W a k (hW : Sl It.enc 3 W a (S.l.map (itOf S.base))) => rSeed_ok x.tag S.cur (S.l.map (itOf S.base)) S.l.length a k 0 W (List.length_map _) hW ht9 (by decide) hg9)
                      have HP2 := Lib.hid (CP.anew hi200 HP.out ht9 hg9)
                      have HT9 := Lib.hid ht9
                      have HFR := Lib.hid (show formR (seedR (formR S) (1000 * (i : Int))) = formR s.q by rw [form_seed, CP.form_is HP.out])
                      have hwa : IntKind.i64.wrap (s.age - 1) = s.age - 1 := IntWalk.i64_in _ (by omega)
                      clear ht9 hB9 hg9 hfa o0 o1 o2 o3
                      go_wp2_with fail
                      refine wp_region_chain 256 [0, 1, 0, 4, 0, 16, 63, 127, 255, 255, 511, 2047] [(0, none), (1, none), (2, none), (4, none), (5, none), (3, some [0, 1, 4, 5]), (6, some []), (7, none), (8, none), (9, none), (10, none), (11, none)] (by kernel_rfl) (by kernel_rfl) (by rfl) ?_; simp only [chain, Obs, List.getElem?_toArray, List.getElem?_cons_zero, List.getElem?_cons_succ]
                      go_wp2_with (first
                        | (with_reducible refine And.intro (by first | with_reducible exact True.intro | with_reducible rfl | (go_simp; done) | (go_simp; intro h; simp [undef] at h)) ?_)
                        | (go_at_call 26; refine HFm.out.mono ?_; rintro e w6 ⟨a6, k6, rfl, ho, hb6⟩; rw [List.length_map] at ho ⊢; have Hs6 := Lib.hid (Sl.of_own (l := S.l.map (itOf S.base)) It.len (by rw [List.length_map]; exact ho)); have HC6 := Lib.hid (HCd.out.below hb6); obtain ⟨x0, x1, x2, x3, x4, x5, xl⟩ := blk6 HC6.out.x; clear ho hb6)
                        | (go_at_call 8; refine (HS.out _ _ _ Hs6.out).mono ?_; go_loud (rintro e w7 hnp); obtain ⟨p7, b7, F7, rfl, hp7, hF7, hb7⟩ := hnp.st HC6.out.core.old; have HC7 := Lib.hid (HC6.out.below hb7); have Hp7 := Lib.hid hp7; have HF7 := Lib.hid hF7; obtain ⟨x0, x1, x2, x3, x4, x5, xl⟩ := blk6 HC7.out.x; clear hb7 hp7 hF7 hnp))
                      refine NoPanic.normal ?_
                      go_wp2_with (go_at_call 29; refine (CorChange_ok HC7.out.core Hp7.out HP.out.ok.tag HT9.out HP.out.ok.ok HP2.out.ok.ok (fun k h1 h2 => by have := HF7.out k h1; have := HC6.out.core.lt k h2; omega) HFR.out).mono ?_; rintro e w8 ⟨rfl, hc8, hf8⟩; have HC8 := Lib.hid (HC7.out.change (N := w6.heap.size) HC6.out.ref.lt HC6.out.map.lt (Array.getElem?_eq_some_iff.1 HC6.out.x).1 HF7.out hc8 hf8); obtain ⟨x0, x1, x2, x3, x4, x5, xl⟩ := blk6 HC8.out.x; clear hc8 hf8)
                      refine wp_region_chain 256 [0, 1, 0, 4, 15, 31, 63, 63, 127, 511] [(0, none), (1, none), (2, none), (3, some [0, 1]), (4, some []), (5, none), (6, none), (7, none), (8, none), (9, none)] (by kernel_rfl) (by kernel_rfl) (by rfl) ?_; simp only [chain, Obs, List.getElem?_toArray, List.getElem?_cons_zero, List.getElem?_cons_succ]
                      have HCe := Lib.hid (HC8.out.below (Below.refl _ _).drew)
                      go_wp2_with (first
                        | (with_reducible refine And.intro (by first | with_reducible exact True.intro | with_reducible rfl | (go_simp; done) | (go_simp; intro h; simp [undef] at h)) ?_)
                        | (go_at_call 18; refine (rFormS HCe.out.ref HP.out.ref.ok).mono ?_; rintro e w9 ⟨a9, k9, rfl, ho, hb9⟩; rw [List.length_map] at ho ⊢; have Hs9 := Lib.hid (Sl.of_own (l := S.l.map (itOf S.base)) It.len (by rw [List.length_map]; exact ho)); have HC9 := Lib.hid (HCe.out.below hb9); obtain ⟨x0, x1, x2, x3, x4, x5, xl⟩ := blk6 HC9.out.x; clear ho hb9)
                        | (go_at_call 9; refine (HR.out _ _ _ Hs9.out).mono ?_; rintro e w10 ⟨r10, a10, c10, rfl, hra, hnew, hb10⟩; have HC10 := Lib.hid (HC9.out.reseed hra hnew hb10); clear hra hnew hb10))
                      refine NoPanic.normal ?_
                      go_wp2_with fail
                      go_meet
                      exact ⟨p7, b7, r10, n2, F7, foot r10 a10, { s with tag := x.tag, q := seedR (formR S) (1000 * (i : Int)) }, seedR (formR S) 0, 1000 * (i : Int), 0, s.age - 1, rfl, rfl, rfl, rfl, rfl, by simp, by omega, by omega, HC10.out.cw rfl rfl, by omega, HP2.out, HC10.out.x, HC10.out.xc, HC10.out.xg, HC10.out.x2⟩
          case rest =>
            as_aux_lemma =>
            obtain ⟨p5, b5, rr5, n5, F5, G5, s5, S5, d5, e, age, rfl, rfl, rfl, rfl, rfl, hage, hag0, hag1, hC5, hn5, hP5, hx5, hf5, hg5, h95⟩ := hcut
            have hee : (e != e) = false := by simp
            go_upto_if 189 with fail
            go_cut [11] (fun ta wx => ta = .int .i64 s5.age ∧ wx = wc)
            case first =>
              have hw : IntKind.i64.wrap (age + 1) = age + 1 := IntWalk.i64_in _ (by omega)
              by_cases he : e = 0
              · have be : (e == 0) = true := by simpa using he
                rw [if_pos he] at hage
                go_wp2_with fail
                go_meet
                exact ⟨by rw [hage], rfl⟩
              · have be : (e == 0) = false := by simpa using he
                rw [if_neg he] at hage
                go_wp2_with fail
                go_meet
                exact ⟨by rw [hage], rfl⟩
            case rest =>
              obtain ⟨rfl, rfl⟩ := hcut
              clear hage
              generalize (e == 0) = be
              have hok5 := hP5.ok.tag
              have htag5 := hP5.ok.ok
              have hlen5 := hP5.ref.ok.len
              have htot := tot_ok hP5.ref.ok
              have htk := fun j => totW_take hP5.ref.ok j
              have HC5 := Lib.hid hC5
              have HP5 := Lib.hid hP5
              have HX5 := Lib.hid hx5
              have Htk := Lib.hid htk
              obtain ⟨ra, rc, hra, _⟩ := hC5.ref.q
              have Hra := Lib.hid hra
              obtain ⟨m0, m1, m2, m3, k0, k1, k2, k3, ml⟩ := blk4 hra.blk
              clear hC5 hP5 hx5 htk hra
              go_wp2_with fail
              rename World => wl
              go_loopg [27, 28] S5.l.length (fun k tl tk wy => ∃ j : Nat, j ≤ S5.l.length ∧ k = S5.l.length - j ∧ tk = .int .i64 j ∧ tl = .int .i64 (totW (S5.l.take j)) ∧ wy = wl)
              case atStart => exact ⟨0, Nat.zero_le _, rfl, rfl, by simp [totW], rfl⟩
              case round =>
                obtain ⟨j, hj, rfl, rfl, rfl, rfl⟩ := hrel
                have hjm : (j : Int) ≤ S5.l.length := by omega
                by_cases hjl : j < S5.l.length
                · obtain ⟨y, hy⟩ : ∃ y, S5.l[j]? = some y := ⟨_, List.getElem?_eq_getElem hjl⟩
                  obtain ⟨rq, rfl, y0, y1, y2, y3, _, _, _, _, hq1, hq2⟩ := Hra.out.elem j y hy
                  have hs1 := totW_succ hy
                  have ht1 := Htk.out j
                  have ht2 := Htk.out (j + 1)
                  have hw : IntKind.i64.wrap (totW (S5.l.take j) + y.w) = totW (S5.l.take j) + y.w := IntWalk.i64_in _ (by omega)
                  have hjl2 : (j : Int) < S5.l.length := by omega
                  clear hy
                  go_wp2_with fail
                  go_roundg (S5.l.length - (j + 1))
                  case measure => omega
                  case rel => exact ⟨j + 1, hjl, rfl, by go_num, by rw [hs1], rfl⟩
                · obtain rfl : j = S5.l.length := by omega
                  have hjl2 : ¬ ((S5.l.length : Int) < S5.l.length) := by omega
                  rw [List.take_length]
                  have hfa := CP.form_at HP5.out
                  have HFm := Lib.hid (fun W (hW : CSt w W F5 c p5 b5 r s5) => (by
                    have h0 := CorForm hW HP5.out.ok.tag HP5.out.ok.ok
                    rw [hfa.1, hfa.2] at h0
                    exact h0 : Calls Tryz.prog 26 #[.pointer (some ⟨c, 0, none⟩)] W (FormPost W S5.cur (S5.l.map (itOf S5.base)))))
                  clear Htk Hra hfa
                  go_wp2_with fail
                  refine wp_region_chain 256 [0, 1, 3, 0, 15, 31, 63, 127, 255, 511, 255, 1279, 3327, 7423, 16383, 32767, 65535, 131071, 262143, 131071, 1048575, 2097151, 4194303, 8388607, 16777215, 8388607, 67108863, 134217727, 268435455, 536870911, 1073741823, 536870911, 4294967295, 8589934591, 17179869183, 34359738367, 34359738367, 103079215103, 274877906943, 34359738367, 34359738367, 1133871366143, 3882650435583, 8796093022207, 17592186044415] [(0, none), (3, none), (1, some [3]), (2, some [3]), (4, some []), (5, some []), (6, none), (7, none), (8, none), (10, none), (11, none), (12, none), (13, none), (9, some [10, 11, 12, 13]), (14, none), (15, none), (16, none), (17, none), (19, none), (18, some [19]), (20, none), (21, none), (22, none), (23, none), (25, none), (24, some [25]), (26, none), (27, none), (28, none), (29, none), (31, none), (30, some [31]), (32, none), (33, none), (34, none), (35, none), (36, none), (37, none), (39, none), (40, none), (41, none), (42, none), (38, some [39, 40, 41, 42]), (43, none), (44, none)] (by kernel_rfl) (by kernel_rfl) (by rfl) ?_; simp only [chain, Obs, List.getElem?_toArray, List.getElem?_cons_zero, List.getElem?_cons_succ]
                  have HCd := Lib.hid (HC5.out.below (Below.refl _ _).drew)
                  have HXd := Lib.hid (heap_drew HX5.out)
                  go_wp2_with (first
                    | (with_reducible refine And.intro (by first | with_reducible exact True.intro | with_reducible rfl | (go_simp; done) | (go_simp; intro h; simp [undef] at h)) ?_)
                    | (go_at_call 26; refine (HFm.out _ HCd.out.core).mono ?_; rintro e w6 ⟨a6, k6, rfl, ho, hb6⟩; rw [List.length_map] at ho ⊢; have Hs6 := Lib.hid (Sl.of_own (l := S5.l.map (itOf S5.base)) It.len (by rw [List.length_map]; exact ho)); have HC6 := Lib.hid (HCd.out.below hb6); have HX6 := Lib.hid (heap_below HXd.out hb6); clear ho hb6)
                    | (go_at_call 34; refine (own_15 S5.cur (S5.l.map (itOf S5.base)) S5.l.length a6 k6 _ (List.length_map _) (by omega) Hs6.out).mono ?_; rintro e w7 ⟨a7, k7, rfl, ho, hb7⟩; rw [List.length_map] at ho ⊢; have Hs7 := Lib.hid (Sl.of_own (l := S5.l.map (itOf S5.base)) It.len (by rw [List.length_map]; exact ho)); have HC7 := Lib.hid (HC6.out.below hb7); have HX7 := Lib.hid (heap_below HX6.out hb7); clear ho hb7)
                    | (go_at_call 18; refine (rFormS HC7.out.ref HP5.out.ref.ok).mono ?_; rintro e w8 ⟨a8, k8, rfl, ho, hb8⟩; rw [List.length_map] at ho ⊢; have Hs8 := Lib.hid (Sl.of_own (l := S5.l.map (itOf S5.base)) It.len (by rw [List.length_map]; exact ho)); have Hs78 := Lib.hid (Hs7.out.below hb8); have HC8 := Lib.hid (HC7.out.below hb8); have HX8 := Lib.hid (heap_below HX7.out hb8); clear ho hb8)
                    | (go_at_call 17; refine (rSame_any S5.cur S5.cur (S5.l.map (itOf S5.base)) (S5.l.map (itOf S5.base)) S5.l.length S5.l.length a7 a8 k7 k8 _ (List.length_map _) (List.length_map _) (by omega) (by omega) Hs78.out Hs8.out rfl).mono ?_; rintro e w9 ⟨rfl, hb9⟩; have HC9 := Lib.hid (HC8.out.below hb9); have HX9 := Lib.hid (heap_below HX8.out hb9); obtain ⟨ra9, rc9, hr9⟩ := HC9.out.ref.cells; obtain ⟨m0, m1, m2, m3, k0, k1, k2, k3, ml⟩ := blk4 hr9; clear hb9 hr9)
                    | (go_at_call 35; refine (CorTag HC9.out.core).mono ?_; rintro e w10 ⟨rfl, rfl⟩)
                    | (go_at_call 36; refine (CorIdle HC9.out.core).mono ?_; rintro e w10 ⟨rfl, rfl⟩)
                    | (go_at_call 37; refine (CorAge HC9.out.core).mono ?_; rintro e w10 ⟨rfl, rfl⟩)
                    | (go_at_call 24; refine (CorLoad HC9.out.core HP5.out.ok.tag HP5.out.ok.ok).mono ?_; rw [CP.tot_is HP5.out]; rintro e w11 ⟨rfl, hb11⟩; have HC11 := Lib.hid (HC9.out.below hb11); have x11 := cell1 (heap_below HX9.out hb11); have hlk := HC11.out.map.look x.id Hxo.out.1; obtain ⟨ra9, rc9, hr9⟩ := HC11.out.ref.cells; obtain ⟨m0, m1, m2, m3, k0, k1, k2, k3, ml⟩ := blk4 hr9; clear hb11 hr9)
                    | (go_at_call 31; refine (CorServed HC11.out.core x.id Hxo.out.1).mono ?_; rintro e w12 ⟨rfl, rfl⟩))
                  refine NoPanic.normal ?_
                  go_wp2_with fail
                  go_roundg (m - (i + 1))
                  case measure => omega
                  case rel => exact ⟨i + 1, hlt, rfl, by go_num, p5, b5, rr5, n5, F5, G5, s5, S5, d5, rfl, rfl, rfl, HC11.out, hn5, HP5.out⟩
end Go.Proofs.YtfijedmdfkelnaaGreat

/- Proved here: the statement CorePlays, without conditions of ours. -/
namespace Go.Proofs.YtfijedmdfkelnaaGreat
open Go.ChangeShapes Go.WideShapes Go.ChangeAt Go.RowKit
set_option linter.unusedVariables false

theorem ownCorePlays : ownKnob Tryz.prog.godebug = none := by kernel_rfl
theorem laidOutCorePlays : laidOutB Tryz.prog = true := by kernel_rfl
set_option maxRecDepth 100000 in
set_option maxHeartbeats 1000000 in
theorem corePlays_lifted (os : Os) (started : os.Started) (H : Type) (enc : TypeId × Value → H) :
    ReturnsInHanded {} Tryz.checked os 6 .any (Rows.corePlaysSpec.pre6 enc Tryz.prog Tryz.f6 Rows.corePlaysRow.domain false) (Rows.corePlaysSpec.post enc Tryz.prog Tryz.f6 false true false false) := by
  refine returnsInHanded_of_change (C := Tryz.checked) ownCorePlays started (by kernel_rfl) Tryz.func6
    (ChangeSpec.witness6 (enc := enc) (C := Tryz.checked) false ⟨#[], #[.int .i64 0, .slice none 0 0], []⟩ 8 (by kernel_rfl) (by kernel_rfl) (by kernel_rfl) (by kernel_rfl)) ?_
  intro W base args ds gs before hval0 hW hcnd _
  have hval : ∀ (j : Nat) t v, Tryz.f6.params[j]? = some t → args[j]? = some v → Value.okWide Tryz.prog W .any base t v := hval0
  have hW' := hW
  obtain ⟨p, q, hA0, hV, rfl, hfz, hnd⟩ := hW
  have hA : DataW.TrodAll enc Tryz.prog W 0 (fun _ => true) true Tryz.f6.params.toList args.toList ds p := hA0
  rw [ Tryz.params6 ] at hA hval
  obtain ⟨v0, vs0, d0, ds0, p0, q0, hargs, rfl, rfl, h0, r0⟩ := trodAll_cons hA
  obtain ⟨v1, vs1, d1, ds1, p1, q1, rfl, rfl, rfl, h1, r1⟩ := trodAll_cons r0
  obtain ⟨rfl, rfl, rfl⟩ := trodAll_nil r1
  obtain rfl : args = #[v0, v1] := by cases args; simp_all
  obtain ⟨rfl, rfl⟩ := trodVars_none hV
  obtain ⟨x0, rfl, rfl, rfl, w0⟩ := open_int Tryz.underlying3 (hval 0 3 v0 rfl rfl) h0
  have k1 := h1
  have lt1 : ∀ x ∈ p1, x.block < W.heap.size := by obtain ⟨m, hm⟩ := k1; exact DataW.trod_lt m _ _ _ hm
  obtain ⟨a1, n1, c1, l1, rfl, hn1, hm1, hs1, hb1⟩ := openActs_15 (hval 1 63 v1 rfl rfl) h1
  clear hA0 hval0
  refine (CorePlays_walk x0 l1 n1 a1 c1 W (wf_is w0) hn1 hm1 hs1 hb1).mono fun e W' ⟨he, bel⟩ => ?_
  subst he
  exact ⟨_, rfl, _, _, _, [], _, [], hW', trodAll_mk1 (shut_bool Tryz.underlying4 _), (trodAll_cons_mk (shut_int Tryz.underlying3 w0) (trodAll_cons_mk (Below.trod laidOutCorePlays (by kernel_rfl) (of_decide_eq_true (by kernel_rfl)) k1 bel lt1) trodAll_mk0)), rfl, bel.frame _, fun h => by cases h⟩

theorem corePlays_holds : Rows.CorePlaysSaid :=
  OpenClaim.holds_of_wide 6 Tryz.f6 rfl rfl rfl rfl rfl rfl rfl ⟨rfl, rfl, rfl, rfl, rfl⟩ rfl rfl rfl rfl rfl (by kernel_rfl) Tryz.func6 (by kernel_rfl)
    (of_decide_eq_true (by kernel_rfl)) (by unfold Func.isWrapper; first | (rw [if_pos (by decide +kernel)]; kernel_rfl) | (rw [if_neg (by decide +kernel)]; exact ⟨rfl, rfl⟩))
    (fun os started H enc _ => corePlays_lifted os started H enc)
#print axioms corePlays_holds
end Go.Proofs.YtfijedmdfkelnaaGreat
