/- Contract of package owed's line: telling a form. -/
import Derived.Test.YtlgkkolgdjgclaaGreatD
import Derived.Test.YtlgkkolgdjgclaaGreatR
import Derived.Deep.AppendLies
import Derived.Deep.DeepCutAuto
import Derived.KernelRfl
namespace Go.Proofs.YtlgkkolgdjgclaaGreat
open Go.RowKit
set_option linter.unusedVariables false
set_option linter.unusedSimpArgs false

theorem infoIt : (Tryz.prog.info? 119).map (fun i => (i.zero, i.size, i.bytes)) = some (some (.agg #[.int .i64 0, .int .i64 0, .int .i64 0]), 3, 24) := by kernel_rfl
theorem infoPt : (Tryz.prog.info? 248).map (fun i => (i.zero, i.size, i.bytes)) = some (some (.agg #[.int .i64 0, .int .i64 0, .int .i64 0, .int .i64 0]), 4, 32) := by kernel_rfl

/-- What a call that makes a form leaves. -/
def FormPost (w : World) (cur : Int) (its : List It) (e : Ending) (w' : World) : Prop :=
  ∃ a c, e = .returned (.agg #[.int .i64 cur, .slice a its.length c]) ∧ w'.ownsRow w.heap.size 119 3 (.slice a its.length c) its.length (flat It.enc its) ∧ Below w.heap.size w w'

theorem own_base {w : World} {B B' e k n : Nat} {v : Value} {xs : List Value} (h : w.ownsRow B e k v n xs) (hB : B' ≤ B) : w.ownsRow B' e k v n xs := by
  refine ⟨h.1, ?_⟩
  rcases h.2 with h0 | ⟨g, cap, cur, rfl, hb, rest⟩
  · exact .inl h0
  · exact .inr ⟨g, cap, cur, rfl, Nat.le_trans hB hb, rest⟩
theorem own_slice {w : World} {B e k n : Nat} {v : Value} {xs : List Value} (h : w.ownsRow B e k v n xs) : ∃ a c, v = .slice a n c ∧ ∀ p, a = some p → B ≤ p.block ∧ p.block < w.heap.size := by
  have hlt := h.lt
  rcases h.2 with ⟨rfl, rfl⟩ | ⟨g, cap, cur, rfl, hb, _⟩
  · exact ⟨none, 0, rfl, fun p hp => by cases hp⟩
  · exact ⟨_, _, rfl, fun p hp => by cases hp; exact hlt g rfl⟩

set_option maxHeartbeats 3200000 in
set_option maxRecDepth 100000 in
theorem Form_any {w : World} {B b : Nat} {a : Option Addr} {c : Nat} {base cur : Int} {l : List Pt} (h : LineAt w B b a c base cur l) (hl : l.length ≤ 64)
    (hb1 : -2305843009213693952 ≤ base) (hb2 : base ≤ 4611686018427387904) (hv : ∀ x ∈ l, -2305843009213693952 ≤ x.v ∧ x.v ≤ 4611686018427387904) :
    Calls Tryz.prog 187 #[.pointer (some ⟨b, 0, none⟩)] w (FormPost w cur (l.map (itOf base))) := by
  obtain ⟨T, hT⟩ := h.blk
  obtain ⟨c0, c1, c2, f0, f1, f2, hlt⟩ := blk3 hT
  obtain ⟨i0, hi0, hz0, hz1, hz2⟩ := info_parts infoIt
  have hne : b ≠ w.heap.size := by omega
  have hne1 : b ≠ w.heap.size + 1 := by omega
  generalize hn : l.length = n at c2
  have hnn : n ≤ 64 := by omega
  have Hn := Lib.hid hn
  have H0 := Lib.hid h
  have HT := Lib.hid hT
  have Hv := Lib.hid hv
  clear hT h hn hl hv
  go_enter Tryz.func187, Tryz.ntmps187
  go_wp2_with fail
  go_loopw [16] (fun i wr => ∃ (k : Nat) (va : Option Addr) (vc : Nat), k ≤ n ∧ i = .int .i64 k ∧ Below w.heap.size w wr ∧ wr.heap[w.heap.size + 1]? = some (.cells #[.int .i64 cur, .slice va k vc] 41 (0, 0)) ∧
      wr.heap[w.heap.size]? = some (.cells #[.int .i64 0, .slice none 0 0] 41 (0, 0)) ∧ wr.ownsRow (w.heap.size + 2) 119 3 (.slice va k vc) k (flat It.enc ((l.take k).map (itOf base)))) (fun i _ => n - (intOf i).toNat)
  case atStart => exact ⟨0, none, 0, Nat.zero_le _, rfl, ((Below.refl _ _).alloc (Nat.le_refl _) _).alloc (by simp) _, heap_at (by simp) _, heap_alloc (heap_new _ _) _, World.ownsRow_nil _ _ _ _⟩
  case round =>
    obtain ⟨k, va, vc, hk, rfl, hb, hG, hR, hown⟩ := hrel
    by_cases hlt : k < n
    · obtain ⟨x, hx⟩ : ∃ x, l[k]? = some x := ⟨_, List.getElem?_eq_getElem (by have := Hn.out; omega)⟩
      obtain ⟨r, ra, d0, d1, d2, d3, z0, z1, z2, z3, hrb, hrl⟩ := (H0.out.below hb).elem k x hx
      obtain ⟨g0, g1, y0, y1, gsz⟩ := blk2 hG
      obtain ⟨C0, C1, C2, F0, F1, F2, hlt1⟩ := blk3 (heap_below HT.out hb)
      obtain ⟨hx1, hx2⟩ := Hv.out x (List.mem_of_getElem? hx)
      have hsz := hb.size
      subst ra
      rw [Hn.out] at C2
      have hk0 : (0 : Int) ≤ k := by omega
      have hki : (k : Int) < n := by omega
      have hkn : decide ((k : Int) < n) = true := by simp; omega
      have hP : wr.heap.size ≠ w.heap.size + 1 := by omega
      have hbP : b ≠ wr.heap.size := by omega
      have hbG : w.heap.size + 1 ≠ b := by omega
      have hP1 : w.heap.size ≠ wr.heap.size := by omega
      have hP3 : w.heap.size + 1 ≠ wr.heap.size + 1 := by omega
      have hP4 : w.heap.size + 1 < wr.heap.size + 1 := by omega
      have hP2 : w.heap.size + 1 ≠ wr.heap.size := by omega
      have hbP1 : b ≠ wr.heap.size + 1 := by omega
      have hov : ∀ g, (Value.slice va k vc).ownBlock = some g → w.heap.size + 2 ≤ g ∧ g < wr.heap.size := fun g hg => hown.lt g hg
      have ag : (Value.slice va k vc).ownBlock ≠ some (w.heap.size + 1) := fun e => by have := hov _ e; omega
      have ab : (Value.slice va k vc).ownBlock ≠ some b := fun e => by have := hov _ e; omega
      have aP : (Value.slice va k vc).ownBlock ≠ some wr.heap.size := fun e => by have := hov _ e; omega
      have HG := Lib.hid hG
      have HR := Lib.hid hR
      have Hown := Lib.hid hown
      have Hx := Lib.hid hx
      have Hag := Lib.hid ag
      have Hab := Lib.hid ab
      have HaP := Lib.hid aP
      have hsub : IntKind.i64.wrap (base - x.v) = base - x.v := IntWalk.i64_in _ (by omega)
      clear hG hR hown hx ag ab aP hov
      go_wp2_with (first
        | (with_reducible refine And.intro (by first | with_reducible exact True.intro | with_reducible rfl | go_simp) ?_))
      refine wp_region_chain 39 [0, 1, 0, 4, 0, 16, 0, 64, 192, 448, 0, 1024, 4032, 8188, 16380, 32767, 65535, 131071] [(0, none), (1, none), (2, none), (3, none), (4, none), (5, none), (6, none), (7, none), (8, none), (9, none), (10, none), (11, none), (12, none), (13, none), (14, some [0, 1]), (15, some []), (16, none), (17, some [])] (by kernel_rfl) (by kernel_rfl) (by rfl) ?_; simp only [chain, Obs, List.getElem?_toArray, List.getElem?_cons_zero, List.getElem?_cons_succ]
      go_wp2_with (first
        | (with_reducible refine And.intro (by first | with_reducible exact True.intro | with_reducible rfl | go_simp) ?_)
        | (at_builtin; go_loud (refine wpList_append_lies _ (by rfl) _ _ _ (by rfl) (w.heap.size + 2) 119 i0 _ 3 24 Tryz.underlying39 hi0 hz0 hz1 hz2 rfl (by omega) (.slice va k vc) k _ (by rfl) (((Hown.out.alloc _).alloc _).drew) ⟨wr.heap.size + 1, 0, none⟩ 1 1 [.int .i64 x.id, .int .i64 x.w, .int .i64 (base - x.v)] (by rfl) (by rfl) (World.news_of_block (cs := #[.int .i64 x.id, .int .i64 x.w, .int .i64 (base - x.v)]) (t := 119) (fr := (0, 0)) (heap_at (by simp) _)) (by simp [Value.oneCell']) (by omega) (by unfold maxLen; omega) (by omega) (by simp; omega) (wr.heap.size + 2) (by simp) ?_); intro gg cap w1 hown1 hgrow hat hlt; have hfr1 : Fr (fun q => (Value.slice va k vc).ownBlock = some q) wr w1 := ((((Fr.refl _ wr).alloc _).alloc _).drew).trans (Fr.of_grown hgrow) (fun _ _ h => h); have q1 := (hfr1.cell (p := ⟨w.heap.size + 1, 1, none⟩) gsz Hag.out).trans g1; have q2 := (hfr1.frozen (p := ⟨w.heap.size + 1, 1, none⟩) gsz Hag.out).trans y1; have q0 := Lib.hid hat; have q3 := Lib.hid hgrow; have q4 := Lib.hid hown1; clear hat hgrow hown1))
      refine NoPanic.normal ?_
      go_wp2_with fail
      go_roundw
      case rel =>
        have hov := Hown.out.lt
        have hG1 : w1.heap[w.heap.size + 1]? = some (.cells #[.int .i64 cur, .slice va k vc] 41 (0, 0)) := heap_fr HG.out hfr1 Hag.out
        have haR : (Value.slice va k vc).ownBlock ≠ some w.heap.size := fun e => by have := (hov _ e).1; omega
        have hR1 : w1.heap[w.heap.size]? = some (.cells #[.int .i64 0, .slice none 0 0] 41 (0, 0)) := heap_fr HR.out hfr1 haR
        have hown := q4.out
        have hGg : (Value.slice (some ⟨gg, 0, none⟩) (k + 1) cap).ownBlock ≠ some (w.heap.size + 1) := fun e => by have := (hown.lt _ e).1; omega
        refine ⟨k + 1, _, cap, by omega, by go_num, ?_, heap_set hG1 _, heap_set_ne hR1 (by simp) _, ?_⟩
        · exact (hb.trans (hfr1.below hsz fun k' hk' => by have := (hov _ hk').1; omega)).setCell (by simp) _
        · have e1 : (l.take (k + 1)).map (itOf base) = (l.take k).map (itOf base) ++ [itOf base x] := by
            rw [List.take_succ_eq_append_getElem (List.getElem?_eq_some_iff.1 Hx.out).1, List.map_append, (List.getElem?_eq_some_iff.1 Hx.out).2]; rfl
          rw [e1, flat_append, flat_one]
          exact own_set hown hGg
      case measure => simp [intOf]; omega
    · have hkn : k = n := by omega
      subst hkn
      obtain ⟨g0, g1, y0, y1, gsz⟩ := blk2 hG
      obtain ⟨r0, r1, v0, v1, rsz⟩ := blk2 hR
      have hR0 := Lib.hid hR
      have Hown := Lib.hid hown
      clear hR hown hG
      go_wp2_with fail
      have haR : (Value.slice va k vc).ownBlock ≠ some w.heap.size := fun e => by have := (Hown.out.lt _ e).1; omega
      refine bodyPost_ret (res_c _ _ w.heap.size 41 #[.int .i64 cur, .slice va k vc] (0, 0) _ rfl rfl (heap_set (heap_set hR0.out _) _) Tryz.underlying41 rfl (by kernel_rfl)) rfl ⟨va, vc, ?_, ?_, ?_⟩
      · rw [List.length_map, Hn.out]
      · rw [List.length_map, Hn.out]
        have e1 : l.take k = l := List.take_of_length_le (by have := Hn.out; omega)
        have ho := Hown.out
        rw [e1] at ho
        exact own_base (own_set (own_set ho haR) haR) (by omega)
      · exact (hb.setCell (Nat.le_refl _) _).setCell (Nat.le_refl _) _
end Go.Proofs.YtlgkkolgdjgclaaGreat
