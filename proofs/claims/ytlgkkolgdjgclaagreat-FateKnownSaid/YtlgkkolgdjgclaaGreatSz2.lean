/- slices.SortFunc at tasks. -/
import Derived.Test.YtlgkkolgdjgclaaGreatSz1
import Derived.Test.YtlgkkolgdjgclaaGreatH
import Derived.Test.YtlgkkolgdjgclaaGreatStk
import Derived.Shelf.SlSortCmp.NoneTotal
import Derived.WalkMore
namespace Go.Proofs.YtlgkkolgdjgclaaGreat
open Go.RowKit Go.Shelf Go.Lib Go.Sort
set_option linter.unusedVariables false
set_option linter.unusedSimpArgs false

theorem sw_fr {α : Type} [Inhabited α] (enc : α → Value) (w : World) (g n : Nat) (dk : Array α) (os : Array Obj) : Fr (fun k => k = g) w (sortWorld enc w g 0 n dk os) := by
  refine ⟨rfl, rfl, rfl, by simp [sortWorld, putRow, mapBlock, Sort.ahead, grow], fun k hk hn => ?_⟩
  unfold sortWorld
  rw [heap_grow_old _ _ (by simpa [putRow, mapBlock, Sort.ahead] using hk)]
  show (w.heap.modify g _)[k]? = _
  rw [Array.getElem?_modify, if_neg (fun h => hn h.symm)]
def cfT {l : List Tk} (x y : {t : Tk // t ∈ l}) : Int := cmpI x.1.id y.1.id
theorem ltT {l : List Tk} (x y : {t : Tk // t ∈ l}) : ltOf cfT x y = decide (x.1.id < y.1.id) := by
  unfold ltOf cfT cmpI
  by_cases h1 : x.1.id < y.1.id
  · simp [h1]
  · by_cases h2 : y.1.id < x.1.id <;> simp [h1, h2]
theorem swoT {l : List Tk} : SWO (ltOf (cfT (l := l))) where
  irrefl x := by rw [ltT]; simp
  trans x y z h1 h2 := by rw [ltT] at *; simp at *; omega
  ntrans x y z h1 h2 := by rw [ltT] at *; simp at *; omega
def ptrE (tb : Int → Nat) (id : Int) : List Value := [.pointer (some ⟨tb id, 0, none⟩)]
theorem ptrE_len (tb : Int → Nat) (id : Int) : (ptrE tb id).length = 1 := rfl
set_option maxHeartbeats 800000 in
theorem cmpT {tb : Int → Nat} {x y : Tk} {W : World} (hx : TkAt W (tb x.id) x) (hy : TkAt W (tb y.id) y) : Calls Tryz.prog 90 #[.pointer (some ⟨tb x.id, 0, none⟩), .pointer (some ⟨tb y.id, 0, none⟩)] W fun e w' => e = .returned (.int .i64 (cmpI x.id y.id)) ∧ ∃ q os', w' = grow (W.drewN q) os' := by
  obtain ⟨⟨c0, -⟩, -, hk⟩ := hx.cells
  obtain ⟨⟨d0, -⟩, -, hk2⟩ := hy.cells
  go_enter Tryz.func90, Tryz.ntmps90
  go_wp2_with fail
  refine wp_region_chain 14 [0, 1, 3, 7, 0, 16, 48, 112, 255, 511] [(0, none), (1, none), (2, none), (3, none), (4, none), (5, none), (6, none), (7, none), (8, some []), (9, none)] (by kernel_rfl) (by kernel_rfl) (by rfl) ?_; simp only [chain, Obs, List.getElem?_toArray, List.getElem?_cons_zero, List.getElem?_cons_succ]
  go_wp2_with (first
    | (with_reducible refine And.intro (by first | with_reducible exact True.intro | with_reducible rfl | go_simp) ?_)
    | (go_at_call 91; refine (cmpint_any _ _ _).mono ?_; rintro e w' ⟨rfl, rfl⟩))
  refine NoPanic.normal ?_
  go_wp2_with fail
  go_ret
  exact ⟨rfl, 1, #[], by rw [grow_empty]; rfl⟩
theorem SortTk {w : World} {g cap : Nat} {l : List Tk} (tb : Int → Nat) (n : Nat) (hn : l.length = n) (h0 : 0 < n) (h64 : n ≤ 64) (hs : Sl (ptrE tb) 1 w (some ⟨g, 0, none⟩) (l.map Tk.id)) (hfz : ∀ j, w.frozen? ⟨g, j, none⟩ = false) (ht : ∀ t ∈ l, TkAt w (tb t.id) t ∧ tb t.id ≠ g) (hd : ∀ x ∈ l, ∀ y ∈ l, x.id = y.id → x = y) :
    Calls Tryz.prog 89 #[.slice (some ⟨g, 0, none⟩) n cap, .func (.func 90) #[] #[]] w fun e w' => e = .returned (.tuple #[]) ∧
      Sl (ptrE tb) 1 w' (some ⟨g, 0, none⟩) ((l.map Tk.id).mergeSort (fun a b => decide (a ≤ b))) ∧ Fr (fun k => k = g) w w' := by
  have eg : ∀ args w, (callFunc 90 args).run Tryz.prog w = .ok (.enter 90 args) w := enters_of Tryz.func90 (by kernel_rfl) rfl
  have hne : l ≠ [] := fun e => by rw [e] at hn; simp at hn; omega
  haveI : Inhabited {t : Tk // t ∈ l} := ⟨⟨l.head hne, List.head_mem hne⟩⟩
  have hdl : l.attach.toArray.size = n := by simp [hn]
  obtain ⟨r, off, he, hgl, hc⟩ := hs (by simpa using hne)
  simp only [Option.some.injEq, Addr.mk.injEq, and_true] at he
  obtain ⟨rfl, rfl⟩ := he
  have hH : Holds (fun x : {t : Tk // t ∈ l} => Value.pointer (some ⟨tb x.1.id, 0, none⟩)) w g 0 l.attach.toArray := fun j hj => by
    have hj' : j < l.attach.length := by simpa using hj
    have hj2 : j < l.length := by simpa using hj
    refine ⟨?_, hfz _⟩
    rw [getElem!_pos _ j hj]
    have := hc j (l[j].id) (by rw [List.getElem?_map, List.getElem?_eq_getElem hj2]; rfl) 0 _ rfl
    simpa using this
  have hcmp : CmpLays1 Tryz.prog 90 #[] (fun x : {t : Tk // t ∈ l} => Value.pointer (some ⟨tb x.1.id, 0, none⟩)) cfT g 0 l.attach.toArray.size w := fun m os dk hk x y => by
    have hf := sw_fr (fun x : {t : Tk // t ∈ l} => Value.pointer (some ⟨tb x.1.id, 0, none⟩)) w g m dk os
    exact cmpT (heap_fr (ht x.1 x.2).1 hf (ht x.1 x.2).2) (heap_fr (ht y.1 y.2).1 hf (ht y.1 y.2).2)
  have hcon := Any.slices_SortFunc_total Tryz.sortTk (fun x : {t : Tk // t ∈ l} => Value.pointer (some ⟨tb x.1.id, 0, none⟩)) (fun x => rfl) cfT swoT 90 #[] g 0 cap l.attach.toArray w eg hcmp hH hgl (by rw [hdl]; omega) (fun x y h1 h2 => by
    rw [ltT] at h1 h2
    simp at h1 h2
    exact Subtype.ext (hd x.1 x.2 y.1 y.2 (by omega)))
  change Calls Tryz.prog 89 _ _ _ at hcon
  rw [hdl] at hcon
  refine hcon.mono ?_
  rintro e w' ⟨rfl, m, os, rfl⟩
  refine ⟨rfl, fun _ => ⟨g, 0, rfl, ?_, ?_⟩, sw_fr _ w g m _ os⟩
  · have := (sw_fr (fun x : {t : Tk // t ∈ l} => Value.pointer (some ⟨tb x.1.id, 0, none⟩)) w g m (l.attach.toArray.toList.mergeSort fun x y => !(ltOf cfT) y x).toArray os).size
    omega
  · have hm : (l.map Tk.id).mergeSort (fun a b => decide (a ≤ b)) = (l.attach.mergeSort fun x y => !(ltOf cfT) y x).map (fun x => x.1.id) := by
      rw [List.map_mergeSort (s := fun a b => decide (a ≤ b)) (fun a _ b _ => by rw [ltT]; by_cases h : b.1.id < a.1.id <;> simp [h] <;> omega)]
      congr 1
      rw [show (fun x : {t : Tk // t ∈ l} => x.1.id) = Tk.id ∘ Subtype.val from rfl, ← List.map_map, List.attach_map_subtype_val]
    rw [hm]
    intro j x hj i u hi
    rw [List.getElem?_map] at hj
    obtain ⟨y, hy, rfl⟩ : ∃ y, (l.attach.mergeSort fun x y => !(ltOf cfT) y x)[j]? = some y ∧ y.1.id = x := by
      cases h : (l.attach.mergeSort fun x y => !(ltOf cfT) y x)[j]? with
      | none => rw [h] at hj; simp at hj
      | some y => rw [h] at hj; exact ⟨y, rfl, by simpa using hj⟩
    have hjl := (List.getElem?_eq_some_iff.1 hy).1
    have hsw : SW (fun x : {t : Tk // t ∈ l} => Value.pointer (some ⟨tb x.1.id, 0, none⟩)) w g 0 (l.attach.toArray.toList.mergeSort fun x y => !(ltOf cfT) y x).toArray (sortWorld (fun x : {t : Tk // t ∈ l} => Value.pointer (some ⟨tb x.1.id, 0, none⟩)) w g 0 m (l.attach.toArray.toList.mergeSort fun x y => !(ltOf cfT) y x).toArray os) := ⟨m, os, rfl⟩
    have h1 := hsw.c1 (d0 := l.attach.toArray) ⟨fun x => rfl, hH, hgl⟩ (by simp) j (by simpa using hjl)
    have hi0 : i = 0 := by have := (List.getElem?_eq_some_iff.1 hi).1; simp [ptrE] at this; omega
    subst hi0
    simp only [ptrE, List.getElem?_cons_zero, Option.some.injEq] at hi
    subst hi
    rw [getElem!_pos _ j (by simpa using hjl)] at h1
    rw [show 0 + j * 1 + 0 = 0 + j by omega, h1]
    have hyy : (l.attach.mergeSort fun x y => !(ltOf cfT) y x)[j] = y := (List.getElem?_eq_some_iff.1 hy).2
    simp only [List.getElem_toArray]
    rw [show (l.attach.toArray.toList.mergeSort fun x y => !(ltOf cfT) y x)[j]'(by simpa using hjl) = y from hyy]
end Go.Proofs.YtlgkkolgdjgclaaGreat
/- A system's methods: sorted. -/
namespace Go.Proofs.YtlgkkolgdjgclaaGreat
open Go.RowKit Go.Shelf
attribute [local go_sem] Oper.semAt_some wide_fn wide_depth
set_option linter.unusedVariables false
set_option linter.unusedSimpArgs false

section
variable {w0 w : World} {ow : Nat → Option Own} {L : Lay} {s : SysS} {T : Nat}
theorem tkp_info : ((Tryz.prog).info? 105).map (fun i => (i.zero, i.size, i.bytes)) = some (some (.pointer none), 1, 8) := by kernel_rfl
set_option maxHeartbeats 3200000 in
set_option maxRecDepth 100000 in
theorem YSorted (h : SysIn w0 w ow L s) (hk : SysOk T s) (hT : T ≤ 10000000) : Calls Tryz.prog 71 #[.pointer (some ⟨L.b, 0, none⟩)] w fun e w' => ∃ a c, e = .returned (.slice a s.all.length c) ∧ Sl (ptrE L.tb) 1 w' a s.ids ∧ (∀ p, a = some p → w.heap.size ≤ p.block ∧ p.block < w'.heap.size) ∧ Below w.heap.size w w' := by
  obtain ⟨⟨q0, q1, q2, q3⟩, ⟨z0, z1, z2, z3⟩, hlt⟩ := h.tops
  have H := Lib.hid h
  clear h
  refine (callsIn_wide (n := 0)).1 (callsIn_of_wp_marks Tryz.func71 rfl trivial ?_ rfl)
  simp only [ Tryz.ntmps71, List.size_toArray, List.length_cons, List.length_nil, Nat.reduceAdd, Nat.reduceSub, Array.replicate_succ, Array.replicate_zero, List.push_toArray, List.append_toArray, List.nil_append, List.cons_append]
  refine wpIn_wide.2 ?_
  go_wp2_with (go_at_call 88; refine (SAll _ _).mono ?_; rintro e w1 ⟨rfl, rfl⟩)
  obtain ⟨i0, hi0, hz0, hz1, hz2⟩ := info_parts tkp_info
  obtain ⟨w4, hw4⟩ : ∃ w4, ((w.alloc (.cells #[.pointer (some ⟨L.b, 0, none⟩)] 24)).alloc (.cells #[.slice none 0 0] 139)).alloc (.cells #[.pointer (some ⟨L.sl, 0, none⟩)] 89) = w4 := ⟨_, rfl⟩
  rw [hw4]
  obtain ⟨x0, x1, x2, hs3, hb3⟩ := heap_a3 (w := w) (o1 := (.cells #[.pointer (some ⟨L.b, 0, none⟩)] 24)) (o2 := (.cells #[.slice none 0 0] 139)) (o3 := (.cells #[.pointer (some ⟨L.sl, 0, none⟩)] 89)) (Below.refl _ _)
  have e4 : w4.heap.size = w.heap.size + 3 := by rw [← hw4]; simp
  rw [hw4] at x0 x1 x2 hb3
  clear hs3 hw4
  refine wp_range rfl (enters_of Tryz.func105 (by kernel_rfl) rfl) (SAllIter (H.out.slt.below hb3) x2) (Below.refl _ _) (fun _ => rfl)
    (fun r k W => W.heap[w.heap.size]? = some (.cells #[.pointer (some ⟨L.b, 0, none⟩)] 24 (0, 0)) ∧ Below w.heap.size w W ∧ (∀ p, r = some p → w.heap.size + 5 ≤ p.block ∧ p.block < W.heap.size) ∧ ∃ va vc, W.heap[w.heap.size + 1]? = some (.cells #[.slice va k vc] 139 (0, 0)) ∧ W.ownsRow (w.heap.size + 5) 105 1 (.slice va k vc) k (flat (ptrE L.tb) ((s.all.map Tk.id).take k)) ∧ ∀ q, (Value.slice va k vc).ownBlock = some q → ∀ p, r = some p → q ≠ p.block)
    (fun _ e k W => False) ?hI ?hX ?h0 ?round ?done ?stop
  case hI =>
    rintro r k W o ⟨h1, h2, h3, va, vc, h4, h5, h6⟩ hl
    have h7 := h5.lt
    exact ⟨(World.putObj_heap_other (by omega)).trans h1, Below.putObj h2 (by omega) _, fun p hp => by rw [World.putObj_size]; exact h3 p hp, va, vc, (World.putObj_heap_other (by omega)).trans h4, own_fr (F := fun i => i = w4.heap.size + 1) h5 ((Fr.refl (fun i => i = w4.heap.size + 1) W).putObj (l := w4.heap.size + 1) (fun _ => rfl) o) (fun q hq e => by have := (h7 q hq).1; omega), h6⟩
  case hX => exact fun r e k W o h hl => h
  case h0 =>
    rintro r W hs hb ⟨Lv, hR⟩
    exact ⟨heap_below x0 (hb.mono (by omega)), hb3.trans (hb.mono (by omega)), fun p hp => ⟨by have := (hR p hp).1; simp at this; omega, (hR p hp).2⟩, none, 0, heap_below x1 hb, World.ownsRow_nil _ _ _ _, fun q hq => by simp [Value.ownBlock] at hq⟩
  case round =>
    rintro r j x W hx ⟨hc0, hb, hr, va, vc, hc1, hown, hap⟩ hl
    refine ⟨_, fun W' K hK => by gi_wp2; exact hK, ?_⟩
    have hnm := hk.names
    rw [hnm, List.getElem?_map] at hx
    obtain ⟨t, htj, rfl⟩ : ∃ t, s.all[j]? = some t ∧ t.id = x := by
      cases h : s.all[j]? with
      | none => rw [h] at hx; simp at hx
      | some t => rw [h] at hx; simp at hx; exact ⟨t, rfl, hx⟩
    have htf := hk.all_find (List.mem_of_getElem? htj)
    obtain ⟨hok, -, hid0, hid1⟩ := hk.tk htf
    have hall : s.all.length ≤ 64 := by unfold SysS.all; exact Nat.le_trans (List.length_filterMap_le _ _) (by rw [hk.s64]; exact Nat.le_refl _)
    have hj64 : j < 64 := by have := (List.getElem?_eq_some_iff.1 htj).1; omega
    obtain ⟨d0, f0, l0⟩ := blk1 hc0
    obtain ⟨d1, f1, l1⟩ := blk1 hc1
    obtain ⟨⟨q0, q1, q2, q3⟩, -, hlt2⟩ := (H.out.below hb).tops
    have hlk : ∀ W', Below W.heap.size W W' → (Instr.lookup 90 (.map (some L.mp)) (.int .i64 t.id) false).run Tryz.prog W' = .ok (.pointer (some ⟨L.tb t.id, 0, none⟩)) W' := fun W' hW => ((H.out.below hb).below hW).look ⟨by omega, by omega⟩ htf
    have hlk0 := hlk _ (Below.refl _ _).drew
    have H0 := Lib.hid hc0
    have H1 := Lib.hid hc1
    have HB := Lib.hid hb
    have HO := Lib.hid hown
    have HR := Lib.hid hr
    have HAP := Lib.hid hap
    have HTj := Lib.hid htj
    have HLk := Lib.hid hlk
    clear hc0 hc1 hb hx hown hr hap hnm htj htf hok hall hlk
    gi_wp2
    refine wpIn_region_chain 23 [0, 0, 2, 6, 14, 0, 62, 126, 255, 511] [(0, none), (1, none), (2, none), (3, none), (4, none), (5, none), (6, none), (7, some [0]), (8, some []), (9, some [])] (by kernel_rfl) (by kernel_rfl) (by kernel_rfl) (by rfl) (by rintro ⟨_, _, h⟩; exact h) ?_; simp only [chain, Obs, List.getElem?_toArray, List.getElem?_cons_zero, List.getElem?_cons_succ]
    go_wp2_with (first
      | (with_reducible refine And.intro (by first | with_reducible exact True.intro | with_reducible rfl | go_simp) ?_)
      | (at_builtin; go_loud (refine wpList_append_lies _ (by rfl) _ _ _ (by rfl) (w.heap.size + 5) 105 i0 _ 1 8 Tryz.underlying139 hi0 hz0 hz1 hz2 rfl (by omega) (.slice va j vc) j _ (by rfl) (own_bl HO.out (((Below.refl _ _).drew).alloc (Nat.le_refl _) _)) ⟨W.heap.size, 0, none⟩ 1 1 [.pointer (some ⟨L.tb t.id, 0, none⟩)] (by rfl) (by rfl) (World.news_of_block (cs := #[.pointer (some ⟨L.tb t.id, 0, none⟩)]) (t := 105) (fr := (0, 0)) (heap_at (by simp) _)) (by simp [Value.oneCell']) (by omega) (by unfold maxLen; omega) (by omega) (by simp; omega) (W.heap.size + 1) (by simp) ?_)
         intro gg cap w2 hown2 hgrow hat hltg
         have hfr1 : Fr (fun q => (Value.slice va j vc).ownBlock = some q) W w2 := ((((Fr.refl _ W).drew).alloc _).trans (Fr.of_grown hgrow) (fun _ _ h => h))
         have hol := HO.out.lt
         have y0 := heap_fr H0.out hfr1 (fun e => by have := (hol _ e).1; omega)
         have y1 := heap_fr H1.out hfr1 (fun e => by have := (hol _ e).1; omega)
         obtain ⟨d0, f0, l0⟩ := blk1 y0
         obtain ⟨d1, f1, l1⟩ := blk1 y1
         have HZ0 := Lib.hid y0; have HZ1 := Lib.hid y1; have HF := Lib.hid hfr1; have HO2 := Lib.hid hown2; have HAt := Lib.hid hat; have HLg := Lib.hid hltg
         clear y0 y1 hfr1 hown2 hat hltg hgrow hol))
    refine NoPanic.normal ?_
    gi_wp2
    have hsF := HF.out.size
    have hol := HO.out.lt
    have hgg := (HO2.out.lt gg rfl).1
    have keep : ∀ b, b < W.heap.size → b ≠ w.heap.size + 1 → (Value.slice va j vc).ownBlock ≠ some b → (w2.setCell ⟨w.heap.size + 1, 0, none⟩ (.slice (some ⟨gg, 0, none⟩) (j + 1) cap)).heap[b]? = W.heap[b]? := fun b h1 h2 h3 => by
      rw [Below.heap_setCell _ _ _ _ h2]
      exact HF.out.block b (by omega) h3
    refine ⟨⟨keep _ (by omega) (by omega) (fun e => by have := (hol _ e).1; omega), keep _ (by omega) (by omega) (fun e => by have := (hol _ e).1; omega), fun b hb _ => ?_⟩, heap_set_ne HZ0.out (show w.heap.size ≠ w.heap.size + 1 by omega) _, ?_, fun p hp => ⟨(HR.out p hp).1, by have := (HR.out p hp).2; simp; omega⟩, some ⟨gg, 0, none⟩, cap, heap_set HZ1.out _, ?_, fun q hq p hp => ?_⟩
    · obtain ⟨p, hp, rfl⟩ := hb
      have := HR.out p hp
      exact keep _ this.2 (by omega) (fun e => HAP.out _ e p hp rfl)
    · exact (HB.out.trans (HF.out.below (B := w.heap.size) (by omega) (fun q hq => by have := (hol _ hq).1; omega))).setCell (p := ⟨_, 0, none⟩) (by simp) _
    · rw [List.take_succ_eq_append_getElem (by rw [List.length_map]; exact (List.getElem?_eq_some_iff.1 HTj.out).1), List.getElem_map, (List.getElem?_eq_some_iff.1 HTj.out).2, flat_append]
      refine own_fr (F := fun i => i = w.heap.size + 1) HO2.out ((Fr.refl (fun i => i = w.heap.size + 1) w2).setCell (p := ⟨w.heap.size + 1, 0, none⟩) (fun _ => rfl) _) fun q hq e => ?_
      have : gg = q := by simpa [Value.ownBlock] using hq
      omega
    · have : gg = q := by simpa [Value.ownBlock] using hq
      subst this
      rcases HAt.out with e | e
      · exact HAP.out _ e p hp
      · have := (HR.out p hp).2; omega
  case done =>
    rintro r W ⟨hc0, hb, hr, va, vc, hc1, hown, hap⟩ hl hK
    have hn : (namesL s.plcs).length = s.all.length := by rw [hk.names, List.length_map]
    rw [hn] at hc1 hown
    rw [List.take_of_length_le (by rw [List.length_map]; exact Nat.le_refl _)] at hown
    obtain ⟨d1, f1, l1⟩ := blk1 hc1
    have HO := Lib.hid hown
    have HB := Lib.hid hb
    have H1 := Lib.hid hc1
    clear hc0 hc1 hown hap hr hb hn
    have HSort := Lib.hid (show Calls Tryz.prog 89 #[.slice va s.all.length vc, .func (.func 90) #[] #[]] W fun e w' => e = .returned (.tuple #[]) ∧ Sl (ptrE L.tb) 1 w' va s.ids ∧ Fr (fun q => (Value.slice va s.all.length vc).ownBlock = some q) W w' by
      rcases Nat.eq_zero_or_pos s.all.length with h0 | h0
      · have hcon := AnyF.slices_SortFunc_none { Tryz.sortTk with } va vc (.func (.func 90) #[] #[]) W
        change Calls Tryz.prog 89 _ _ _ at hcon
        rw [h0]
        refine hcon.mono ?_
        rintro e w' ⟨rfl, rfl⟩
        exact ⟨rfl, fun h => absurd (by unfold SysS.ids; rw [List.eq_nil_of_length_eq_zero h0]; simp) h, Fr.refl _ _⟩
      · obtain ⟨g, cap, hv, hg1, hg2⟩ := HO.out.form h0
        simp only [Value.slice.injEq, true_and] at hv
        obtain ⟨rfl, rfl⟩ := hv
        have hall : s.all.length ≤ 64 := by unfold SysS.all; exact Nat.le_trans (List.length_filterMap_le _ _) (by rw [hk.s64]; exact Nat.le_refl _)
        refine (SortTk (cap := vc) (l := s.all) L.tb s.all.length rfl h0 hall (Sl.of_own (B := w.heap.size + 5) (n := s.all.length) (c := vc) (ptrE_len L.tb) (by rw [List.length_map]; exact HO.out)) HO.out.frozenAt (fun t ht => ?_) (fun x hx y hy e => ?_)).mono ?_
        · have htf := hk.all_find ht
          obtain ⟨h1, h2⟩ := (H.out.below HB.out).tsk _ t htf
          refine ⟨h1, fun e => ?_⟩
          have := (H.out.lt _ _ h2).2
          omega
        · have h1 := hk.all_find hx
          rw [e, hk.all_find hy] at h1
          exact (Option.some.inj h1).symm
        · rintro e w' ⟨rfl, hs, hf⟩
          exact ⟨rfl, hs, hf.mono fun k _ e => by subst e; rfl⟩)
    go_wp2_with (first
      | (go_at_call 89; refine HSort.out.mono ?_; rintro e w5 ⟨rfl, hs5, hf5⟩
         have y1 := heap_fr H1.out hf5 (fun e => by have := (HO.out.lt _ e).1; omega)
         obtain ⟨d1, f1, l1⟩ := blk1 y1
         have hK5 := heap_fr hK hf5 (fun e => by have := (HO.out.lt _ e).1; omega)
         have HS5 := Lib.hid hs5; have HF5 := Lib.hid hf5; clear hs5 hf5 y1))
    have hs5 := HF5.out.size
    rw [e4] at hK5
    refine ⟨by simp, .inl ⟨_, _, rfl, run_takeDeferred hK5, ?_⟩⟩
    refine ⟨_, results_tmp rfl _ _ _, va, vc, rfl, HS5.out.fr (F := fun i => i = w.heap.size + 3) ((Fr.refl (fun i => i = w.heap.size + 3) w5).putObj (l := w.heap.size + 3) (fun _ => rfl) _) (fun p hp e => by have := (HO.out.lt p.block (by subst hp; rfl)).1; omega), fun p hp => (by have := HO.out.lt p.block (by subst hp; rfl); rw [World.putObj_size]; omega), Below.putObj (HB.out.trans (HF5.out.below (B := w.heap.size) (by omega) (fun q hq => by have := (HO.out.lt q hq).1; omega))) (by omega) _⟩
  case stop => exact fun r e k x W hx h => h.elim
end
end Go.Proofs.YtlgkkolgdjgclaaGreat
/- What stays true of the plain model. -/
namespace Go.Proofs.YtlgkkolgdjgclaaGreat
open Go.RowKit
set_option linter.unusedVariables false
set_option linter.unusedSimpArgs false

section
variable {T : Nat} {s : SysS}
theorem TkOk.congr {s' : SysS} {t : Tk} (h : TkOk s t) (h1 : s'.ups = s.ups) (h2 : s'.cores.length = s.cores.length) : TkOk s' t := by
  obtain ⟨a0, a1, a2, a3, a4, a5, a6, a7⟩ := h
  exact ⟨a0, by rw [h1]; exact a1, by rw [h2]; exact a2, a3, a4, a5, a6, fun h => by rw [h2]; exact a7 h⟩
theorem SysOk.mono {T' : Nat} (h : SysOk T s) (hT : T ≤ T') : SysOk T' s :=
  ⟨h.c1, h.c16, fun c hc => (h.cor c hc).mono hT, h.g1, h.g16, h.acc, h.s64, fun x hx => by have := h.turn x hx; omega, h.slot, h.rdy, h.rdq⟩
theorem SysS.setT_slot {t t' : Tk} (ht : s.find t.id = some t) (hi : t'.id = t.id) {i : Nat} {n : Int} {u : Tk} (hs : (s.setT t').slots[i]? = some ⟨n, some u⟩) : (u = t' ∧ ∃ v, v = t ∧ s.slots[i]? = some ⟨n, some v⟩) ∨ s.slots[i]? = some ⟨n, some u⟩ := by
  obtain ⟨h0, -, m, h1⟩ := SysS.find_slot ht
  simp only [SysS.setT, List.getElem?_modify, hi] at hs
  by_cases e : (t.id % 64).toNat = i
  · subst e
    rw [h1] at hs
    simp at hs
    exact .inl ⟨hs.2.symm, t, rfl, by rw [h1, hs.1]⟩
  · simp [e] at hs
    exact .inr hs
/-- A task and its core are others. -/
theorem SysOk.upd (h : SysOk T s) {T' : Nat} (hT : T ≤ T') {t t' : Tk} (ht : s.find t.id = some t) (hi : t'.id = t.id) (hok : TkOk s t') {i : Nat} {c c' : CoreS} (hc : s.cores[i]? = some c) (hcf : CorFine T' c')
    (hm1 : ∀ x ∈ c'.q.l, (x.id = t.id → t'.st = 2 ∧ t'.core = i ∧ t'.w = x.w) ∧ (x.id ≠ t.id → ∃ y ∈ c.q.l, y.id = x.id ∧ y.w = x.w)) (hm2 : ∀ y ∈ c.q.l, y.id ≠ t.id → ∃ x ∈ c'.q.l, x.id = y.id)
    (hr : t'.st = 2 → t'.core = i ∧ ∃ x ∈ c'.q.l, x.id = t.id) (ho : t.st ≠ 2 ∨ t.core = i) : SysOk T' ((s.setC i c').setT t') := by
  have hil := (List.getElem?_eq_some_iff.1 hc).1
  have hfd : ∀ id, ((s.setC i c').setT t').find id = if id = t.id then some t' else s.find id := fun id => SysS.find_setT (s := s.setC i c') (t := t) ht hi id
  refine ⟨by simp [SysS.setT, SysS.setC]; exact h.c1, by simp [SysS.setT, SysS.setC]; exact h.c16, fun d hd => ?_, h.g1, h.g16, h.acc, by simp [SysS.setT, SysS.setC]; exact h.s64, fun x hx => ?_, fun j n u hu => ?_, fun j d hd x hx => ?_, fun id u hu hs2 => ?_⟩
  · obtain ⟨j, hj, rfl⟩ := List.getElem_of_mem hd
    have h2 : ((s.setC i c').setT t').cores[j]? = some ((s.setC i c').setT t').cores[j] := List.getElem?_eq_getElem hj
    generalize ((s.setC i c').setT t').cores[j] = d at h2 ⊢
    simp only [SysS.setT, SysS.setC, List.getElem?_set] at h2
    split at h2
    · first
      | (simp only [Option.some.injEq] at h2; subst h2; exact hcf)
      | (split at h2
         · simp only [Option.some.injEq] at h2; subst h2; exact hcf
         · cases h2)
    · exact (h.cor d (List.mem_of_getElem? h2)).mono hT
  · obtain ⟨j, hj⟩ := List.getElem?_of_mem hx
    simp only [SysS.setT, SysS.setC, List.getElem?_modify] at hj
    cases hq : s.slots[j]? with
    | none => rw [hq] at hj; simp at hj
    | some y =>
      have := h.turn y (List.mem_of_getElem? hq)
      rw [hq] at hj
      simp only [Option.map_eq_map, Option.map_some, Option.some.injEq] at hj
      have e : x.turn = y.turn := by subst hj; split <;> rfl
      rw [e]; omega
  · rcases SysS.setT_slot (s := s.setC i c') (t := t) ht hi hu with ⟨rfl, v, rfl, h2⟩ | h2
    · obtain ⟨a, b, -⟩ := h.slot j n v h2
      exact ⟨by rw [hi]; exact a, b, hok.congr rfl (by simp [SysS.setT, SysS.setC])⟩
    · obtain ⟨a, b, d⟩ := h.slot j n u h2
      exact ⟨a, b, d.congr rfl (by simp [SysS.setT, SysS.setC])⟩
  · simp only [SysS.setT, SysS.setC, List.getElem?_set] at hd
    rw [hfd]
    by_cases e : i = j
    · subst e
      rw [if_pos rfl, if_pos hil] at hd
      simp only [Option.some.injEq] at hd
      subst hd
      obtain ⟨k1, k2⟩ := hm1 x hx
      by_cases e2 : x.id = t.id
      · obtain ⟨a, b, d⟩ := k1 e2
        rw [if_pos e2]
        exact ⟨t', rfl, a, b, d⟩
      · obtain ⟨y, hy, a, b⟩ := k2 e2
        rw [if_neg e2]
        obtain ⟨u, q1, q2, q3, q4⟩ := h.rdy i c hc y hy
        exact ⟨u, by rw [← a]; exact q1, q2, q3, by rw [← b]; exact q4⟩
    · rw [if_neg e] at hd
      obtain ⟨u, q1, q2, q3, q4⟩ := h.rdy j d hd x hx
      by_cases e2 : x.id = t.id
      · rw [e2, ht] at q1
        simp only [Option.some.injEq] at q1
        subst q1
        rcases ho with ho | ho
        · exact absurd q2 ho
        · exact absurd (by omega : i = j) e
      · rw [if_neg e2]; exact ⟨u, q1, q2, q3, q4⟩
  · rw [hfd] at hu
    by_cases e : id = t.id
    · rw [if_pos e] at hu
      simp only [Option.some.injEq] at hu
      subst hu
      obtain ⟨a, x, b, d⟩ := hr hs2
      refine ⟨c', ?_, x, b, by rw [e]; exact d⟩
      rw [a]
      simp only [SysS.setT, SysS.setC, List.getElem?_set, Int.toNat_natCast]
      simp [hil]
    · rw [if_neg e] at hu
      obtain ⟨d, q1, x, q2, q3⟩ := h.rdq id u hu hs2
      by_cases e2 : i = u.core.toNat
      · rw [← e2, hc] at q1
        simp only [Option.some.injEq] at q1
        subst q1
        obtain ⟨z, hz, hz2⟩ := hm2 x q2 (by rw [q3]; exact e)
        refine ⟨c', ?_, z, hz, by rw [hz2]; exact q3⟩
        simp only [SysS.setT, SysS.setC, List.getElem?_set]
        rw [if_pos e2, if_pos (by omega)]
      · refine ⟨d, ?_, x, q2, q3⟩
        simp only [SysS.setT, SysS.setC, List.getElem?_set]
        rw [if_neg e2]; exact q1
/-- A task is another one, as ready as before. -/
theorem SysOk.setT (h : SysOk T s) {t t' : Tk} (ht : s.find t.id = some t) (hi : t'.id = t.id) (hok : TkOk s t') (h1 : t'.st = 2 ↔ t.st = 2) (h2 : t.st = 2 → t'.core = t.core ∧ t'.w = t.w) : SysOk T (s.setT t') := by
  have hfd : ∀ id, (s.setT t').find id = if id = t.id then some t' else s.find id := fun id => SysS.find_setT ht hi id
  refine ⟨h.c1, h.c16, h.cor, h.g1, h.g16, h.acc, by simp [SysS.setT]; exact h.s64, fun x hx => ?_, fun j n u hu => ?_, fun j d hd x hx => ?_, fun id u hu hs2 => ?_⟩
  · obtain ⟨j, hj⟩ := List.getElem?_of_mem hx
    simp only [SysS.setT, List.getElem?_modify] at hj
    cases hq : s.slots[j]? with
    | none => rw [hq] at hj; simp at hj
    | some y =>
      have := h.turn y (List.mem_of_getElem? hq)
      rw [hq] at hj
      simp only [Option.map_eq_map, Option.map_some, Option.some.injEq] at hj
      have e : x.turn = y.turn := by subst hj; split <;> rfl
      rw [e]; omega
  · rcases SysS.setT_slot ht hi hu with ⟨rfl, v, rfl, h3⟩ | h3
    · obtain ⟨a, b, -⟩ := h.slot j n v h3
      exact ⟨by rw [hi]; exact a, b, hok.congr rfl rfl⟩
    · obtain ⟨a, b, d⟩ := h.slot j n u h3
      exact ⟨a, b, d.congr rfl rfl⟩
  · obtain ⟨u, q1, q2, q3, q4⟩ := h.rdy j d hd x hx
    rw [hfd]
    by_cases e : x.id = t.id
    · rw [e, ht] at q1
      simp only [Option.some.injEq] at q1
      subst q1
      obtain ⟨a, b⟩ := h2 q2
      rw [if_pos e]
      exact ⟨t', rfl, h1.2 q2, by rw [a]; exact q3, by rw [b]; exact q4⟩
    · rw [if_neg e]; exact ⟨u, q1, q2, q3, q4⟩
  · rw [hfd] at hu
    by_cases e : id = t.id
    · rw [if_pos e] at hu
      simp only [Option.some.injEq] at hu
      subst hu
      obtain ⟨a, b⟩ := h2 (h1.1 hs2)
      obtain ⟨d, q1, x, q2, q3⟩ := h.rdq t.id t ht (h1.1 hs2)
      exact ⟨d, by rw [a]; exact q1, x, q2, by rw [q3, e]⟩
    · rw [if_neg e] at hu
      exact h.rdq id u hu hs2
theorem CorFine.done {T' : Nat} {c : CoreS} (h : CorFine T' c) (e : Int) : CorFine (T' + 1) (c.done e) := by
  have h1 := h.age
  have h2 := h.mono (Nat.le_succ T')
  unfold CoreS.done
  split
  · exact ⟨h2.tag, h2.q, by simp only; omega, h2.idle, h2.sv, h2.n⟩
  · exact h2
theorem CorFine.with_q {T' : Nat} {c : CoreS} (h : CorFine T c) (hT : T ≤ T') {S : Ln} (hq : NearQ T' S) : CorFine T' { c with q := S } := by
  have h2 := h.mono hT
  exact ⟨h2.tag, hq, h2.age, h2.idle, h2.sv, h2.n⟩
theorem done_q (c : CoreS) (e : Int) : (c.done e).q = c.q := by unfold CoreS.done; split <;> rfl
theorem done_tag (c : CoreS) (e : Int) : (c.done e).tag = c.tag := by unfold CoreS.done; split <;> rfl
theorem CorFine.leave {c : CoreS} (h : CorFine T c) (hT : T ≤ 10000000) {id : Int} {j : Nat} {x : Pt} (ha : at? c.q id = some (j, x)) :
    CorFine (T + 2) (c.leave id) ∧ (c.leave id).q.l = c.q.l.eraseIdx j := by
  obtain ⟨h1, h2, -⟩ := h.q.leave (by omega) ha
  unfold CoreS.leave
  exact ⟨(h.with_q (Nat.le_succ T) h1).done _, by rw [done_q]; exact h2⟩
theorem CorFine.enter {c : CoreS} (h : CorFine T c) (hT : T ≤ 10000000) {id w lag : Int} (ex : Bool) (hn : ∀ x ∈ c.q.l, x.id ≠ id) (hl : c.q.l.length < 64) (hi : 0 ≤ id ∧ id ≤ 1000000000) (hw : 1 ≤ w ∧ w ≤ 20) (hg : -1000000000 ≤ lag ∧ lag ≤ 0) :
    CorFine (T + 2) (c.enter id w lag ex) ∧ ∃ g, (c.enter id w lag ex).q.l = insP (newP c.q.base id w g) c.q.l ∧ (ex = true → g = lag) := by
  have hm := mayE_ok (S := c.q) hn hl hi hw hg
  unfold CoreS.enter
  cases ex with
  | true =>
    rw [if_pos rfl]
    obtain ⟨h1, h2, -⟩ := h.q.put hn hl hi hw hg
    exact ⟨(h.with_q (Nat.le_succ T) h1).done _, lag, by rw [done_q]; exact h2, fun _ => rfl⟩
  | false =>
    rw [if_neg (by decide), enter_is (heldT c.tag) hm]
    have hh := held_ok h.tag hg
    obtain ⟨h1, h2, -⟩ := h.q.put hn hl hi hw (lag := heldT c.tag lag) ⟨hh.1, hh.2.1⟩
    exact ⟨(h.with_q (Nat.le_succ T) h1).done _, _, by rw [done_q]; exact h2, fun h => by cases h⟩
theorem CorFine.weigh {c : CoreS} (h : CorFine T c) (hT : T ≤ 10000000) {id w : Int} (hw : 1 ≤ w ∧ w ≤ 20) {j : Nat} {x : Pt} (ha : at? c.q id = some (j, x)) :
    CorFine (T + 2) (c.weigh id w) ∧ (c.weigh id w).q.l = c.q.l.set j (dayOf { x with w := w }) := by
  obtain ⟨h1, h2, -⟩ := h.q.weigh (by omega) hw ha
  unfold CoreS.weigh
  exact ⟨(h.with_q (Nat.le_succ T) h1).done _, by rw [done_q]; exact h2⟩
/-- A ready task leaves, and is not ready. -/
theorem SysOk.leave (h : SysOk T s) (hT : T ≤ 10000000) {t t' : Tk} (ht : s.find t.id = some t) (hs : t.st = 2) (hi : t'.id = t.id) (hok : TkOk s t') (hs' : t'.st ≠ 2) {c : CoreS} (hc : s.cores[t.core.toNat]? = some c) : SysOk (T + 2) ((s.setC t.core.toNat (c.leave t.id)).setT t') := by
  obtain ⟨c2, j, x, hc2, -, hcf, hat, hxw⟩ := h.inq ht hs
  rw [hc] at hc2
  simp only [Option.some.injEq] at hc2
  subst hc2
  obtain ⟨h1, h2⟩ := hcf.leave hT hat
  obtain ⟨k0, -, -⟩ := h.tk ht
  have hcr := k0.old (by omega)
  obtain ⟨hj, hxm, hxi⟩ := at_mem hat
  have hjl := (List.getElem?_eq_some_iff.1 hj).1
  have hne : ∀ y ∈ c.q.l.eraseIdx j, y.id ≠ t.id := fun y hy e => by
    obtain ⟨i, hi1, hi2⟩ := List.mem_eraseIdx_iff_getElem?.1 hy
    have hil := (List.getElem?_eq_some_iff.1 hi2).1
    have := List.pairwise_iff_getElem.1 hcf.q.byid
    have e1 : c.q.l[i] = y := (List.getElem?_eq_some_iff.1 hi2).2
    have e2 : c.q.l[j] = x := (List.getElem?_eq_some_iff.1 hj).2
    rcases Nat.lt_trichotomy i j with h | h | h
    · have := this i j hil hjl h; rw [e1, e2] at this; omega
    · exact hi1 h
    · have := this j i hjl hil h; rw [e1, e2] at this; omega
  refine h.upd (by omega) ht hi hok hc h1 (fun y hy => ?_) (fun y hy hyn => ?_) (fun h => absurd h hs') (.inr (by omega))
  · rw [h2] at hy
    exact ⟨fun e => absurd e (hne y hy), fun _ => ⟨y, List.mem_of_mem_eraseIdx hy, rfl, rfl⟩⟩
  · rw [h2]
    refine ⟨y, List.mem_eraseIdx_iff_getElem?.2 ?_, rfl⟩
    obtain ⟨i, hi1⟩ := List.getElem?_of_mem hy
    refine ⟨i, fun e => ?_, hi1⟩
    subst e
    rw [hj] at hi1
    simp only [Option.some.injEq] at hi1
    subst hi1
    exact hyn hxi
/-- A task that is not ready comes to a core. -/
theorem SysOk.enter (h : SysOk T s) (hT : T ≤ 10000000) {t t' : Tk} (ht : s.find t.id = some t) (hs : t.st ≠ 2) (hi : t'.id = t.id) (hok : TkOk s t') (hs' : t'.st = 2) {c : CoreS} {i : Nat} (hcr : t'.core = i) (hc : s.cores[i]? = some c) {lag : Int} (hg : -1000000000 ≤ lag ∧ lag ≤ 0) (ex : Bool) : SysOk (T + 2) ((s.setC i (c.enter t.id t'.w lag ex)).setT t') := by
  have hcf := h.cor c (List.mem_of_getElem? hc)
  have hn := h.notin ht hs hc
  obtain ⟨-, -, hi0, hi1⟩ := h.tk ht
  obtain ⟨h1, g, h2, -⟩ := hcf.enter hT ex hn (h.room ht hc hn) ⟨hi0, by omega⟩ hok.w hg
  refine h.upd (by omega) ht hi hok hc h1 (fun y hy => ?_) (fun y hy hyn => ?_) (fun _ => ⟨hcr, ?_⟩) (.inl hs)
  · rw [h2] at hy
    rcases insP_mem.1 hy with rfl | hy
    · exact ⟨fun _ => ⟨hs', hcr, rfl⟩, fun e => absurd rfl e⟩
    · exact ⟨fun e => absurd e (hn y hy), fun _ => ⟨y, hy, rfl, rfl⟩⟩
  · rw [h2]; exact ⟨y, insP_mem.2 (.inr hy), rfl⟩
  · rw [h2]; exact ⟨_, insP_mem.2 (.inl rfl), rfl⟩
/-! ### the steps -/
theorem SysOk.core_at (h : SysOk T s) {t : Tk} (ht : s.find t.id = some t) (hs : t.st ≠ 1) : ∃ c, s.cores[t.core.toNat]? = some c ∧ s.core t.core = c ∧ CorFine T c := by
  obtain ⟨k0, -, -⟩ := h.tk ht
  exact h.core (k0.old hs)
/-- What a task that leaves was owed. -/
theorem SysOk.lag_ok (h : SysOk T s) (hT : T ≤ 10000000) {t : Tk} (ht : s.find t.id = some t) (hs : t.st = 2) : -1000000000 ≤ (leaveR (s.core t.core).q t.id).2.1 ∧ (leaveR (s.core t.core).q t.id).2.1 ≤ 0 := by
  obtain ⟨c, j, x, hc, hce, hcf, hat, hxw⟩ := h.inq ht hs
  obtain ⟨-, -, h3, h4, h5⟩ := hcf.q.leave (by omega) hat
  rw [hce, h3]
  exact ⟨h4, h5⟩
/-- A task (ready or not) leaves, and is not ready then. -/
theorem SysOk.leaveSt (h : SysOk T s) (hT : T ≤ 10000000) {t : Tk} (ht : s.find t.id = some t) {st : Int} (hst : st = 4 ∨ st = 5) (hn1 : t.st ≠ 1) : SysOk (T + 2) ((s.leaveT t).1.setT { (s.leaveT t).2 with st := st }) := by
  obtain ⟨k0, -, -⟩ := h.tk ht
  have hco := k0.old hn1
  unfold SysS.leaveT
  by_cases hs : t.st = 2
  · rw [if_pos hs]
    obtain ⟨c, hc, hce, -⟩ := h.core_at ht hn1
    have hl := h.lag_ok hT ht hs
    simp only
    rw [hce] at hl ⊢
    rw [SysS.setT_setT (s := s.setC t.core.toNat (c.leave t.id)) (a := { t with lag := (leaveR c.q t.id).2.1 }) (b := { t with lag := (leaveR c.q t.id).2.1, st := st }) rfl]
    refine h.leave (t' := { t with lag := (leaveR c.q t.id).2.1, st := st }) hT ht hs rfl ⟨k0.w, k0.grp, k0.mask, k0.m16, ?_, hl, ?_, fun _ => hco⟩ ?_ hc
    · rcases hst with rfl | rfl <;> unfold St4 <;> simp
    · intro e; simp only at e; omega
    · show st ≠ 2; omega
  · rw [if_neg hs]
    simp only
    refine (h.setT (t' := { t with st := st }) ht rfl ⟨k0.w, k0.grp, k0.mask, k0.m16, ?_, k0.lag, ?_, fun _ => hco⟩ ⟨fun e => ?_, fun e => absurd e hs⟩ (fun e => absurd e hs)).mono (by omega)
    · rcases hst with rfl | rfl <;> unfold St4 <;> simp
    · intro e; simp only at e; omega
    · simp only at e; omega
theorem SysOk.hold1 (h : SysOk T s) (hT : T ≤ 10000000) (id : Int) : SysOk (T + 2) (s.hold1 id) := by
  unfold SysS.hold1
  cases hf : s.find id with
  | none => exact h.mono (by omega)
  | some t =>
    simp only
    obtain ⟨-, hid, -⟩ := h.tk hf
    subst hid
    split
    · rename_i hh
      exact h.leaveSt hT hf (.inr rfl) (by omega)
    · exact h.mono (by omega)
/-- A task that is not ready comes to a core, or is held for it. -/
theorem SysOk.enterT (h : SysOk T s) (hT : T ≤ 10000000) {t u : Tk} (ht : s.find t.id = some t) (hs : t.st ≠ 2) (hu : u.id = t.id) (hw : u.w = t.w) (hgr : u.grp = t.grp) (hm : u.mask = t.mask) (hlg : u.lag = t.lag) (hcr : 0 ≤ u.core ∧ u.core < s.cores.length) (ex : Bool) : SysOk (T + 2) (s.enterT u ex) := by
  obtain ⟨k0, -, -⟩ := h.tk ht
  have hok : ∀ st, st = 2 ∨ st = 5 → TkOk s { u with st := st } := fun st hst => ⟨by rw [show ({ u with st := st } : Tk).w = t.w from hw]; exact k0.w, by rw [show ({ u with st := st } : Tk).grp = t.grp from hgr]; exact k0.grp, by rw [show ({ u with st := st } : Tk).mask = t.mask from hm]; exact k0.mask, by rw [show ({ u with st := st } : Tk).mask = t.mask from hm]; exact k0.m16,
    by rcases hst with rfl | rfl <;> unfold St4 <;> simp, by rw [show ({ u with st := st } : Tk).lag = t.lag from hlg]; exact k0.lag, fun e => by simp only at e; omega, fun _ => hcr⟩
  unfold SysS.enterT
  split
  · exact (h.setT (t' := { u with st := 5 }) ht hu (hok 5 (.inr rfl)) ⟨fun e => by simp only at e; omega, fun e => absurd e hs⟩ (fun e => absurd e hs)).mono (by omega)
  · obtain ⟨c, hc, hce, -⟩ := h.core hcr
    rw [hce]
    have := h.enter hT ht hs (t' := { u with st := 2 }) hu (hok 2 (.inl rfl)) rfl (i := u.core.toNat) (show u.core = (u.core.toNat : Int) by omega) hc (lag := u.lag) (by rw [hlg]; exact k0.lag) ex
    rw [← hu] at this
    exact this
end
end Go.Proofs.YtlgkkolgdjgclaaGreat
/- A system's methods: Bind. -/
namespace Go.Proofs.YtlgkkolgdjgclaaGreat
open Go.RowKit Go.Shelf
set_option linter.unusedVariables false
set_option linter.unusedSimpArgs false

section
variable {w0 w : World} {ow : Nat → Option Own} {L : Lay} {s : SysS} {T : Nat}
theorem SysOk.bind0 (h : SysOk T s) {t : Tk} (ht : s.find t.id = some t) {m : Int} (hm : 0 ≤ m ∧ m < 65536) (hg : goodM m s.cores.length = true) : SysOk T (s.setT { t with mask := m }) := by
  obtain ⟨k0, -, -⟩ := h.tk ht
  exact h.setT (t' := { t with mask := m }) ht rfl ⟨k0.w, k0.grp, hg, hm, k0.st, k0.lag, k0.new, k0.old⟩ Iff.rfl (fun _ => ⟨rfl, rfl⟩)
end
end Go.Proofs.YtlgkkolgdjgclaaGreat
/- A system's methods: hold. -/
namespace Go.Proofs.YtlgkkolgdjgclaaGreat
open Go.RowKit Go.Shelf
attribute [local go_sem] Oper.semAt_some wide_fn wide_depth
set_option linter.unusedVariables false
set_option linter.unusedSimpArgs false

section
variable {w0 w : World} {ow : Nat → Option Own} {L : Lay} {s : SysS} {T : Nat}
theorem SysS.holdL_append (s : SysS) (l : List Int) (x : Int) : s.holdL (l ++ [x]) = (s.holdL l).hold1 x := by
  induction l generalizing s with
  | nil => rfl
  | cons y t ih => exact ih (s.hold1 y)
theorem SysOk.holdL (hk : SysOk T s) : ∀ (l : List Int), T + 2 * l.length ≤ 10000000 → SysOk (T + 2 * l.length) (s.holdL l) := by
  intro l
  induction l generalizing s T with
  | nil => intro _; exact hk
  | cons y t ih =>
    intro h
    rw [List.length_cons] at h ⊢
    have := ih (hk.hold1 (by omega) y) (by omega)
    rw [show T + 2 * (t.length + 1) = T + 2 + 2 * t.length by omega]
    exact this
theorem SysS.leaveT_find {s : SysS} {t : Tk} (h : s.find t.id = some t) (j : Int) : (s.leaveT t).1.find j = if j = t.id then some (s.leaveT t).2 else s.find j := by
  unfold SysS.leaveT
  split
  · exact SysS.find_setT (s := s.setC _ _) (t := t) (t' := { t with lag := (leaveR (s.core t.core).q t.id).2.1 }) h rfl j
  · simp only
    split
    · rename_i e; subst e; exact h
    · rfl
theorem SysS.leaveT_id (s : SysS) (t : Tk) : (s.leaveT t).2.id = t.id := by unfold SysS.leaveT; split <;> rfl
theorem SysS.hold1_find {s : SysS} (id j : Int) : ((s.hold1 id).find j).isSome = (s.find j).isSome := by
  unfold SysS.hold1
  cases hf : s.find id with
  | none => rfl
  | some t =>
    obtain ⟨-, hid, -⟩ := SysS.find_slot hf
    subst hid
    simp only
    split
    · have h1 := SysS.leaveT_find hf t.id
      rw [if_pos rfl] at h1
      rw [SysS.find_setT (t := (s.leaveT t).2) (t' := { (s.leaveT t).2 with st := 5 }) (by rw [SysS.leaveT_id]; exact h1) rfl, SysS.leaveT_find hf, SysS.leaveT_id]
      by_cases e : j = t.id
      · subst e; simp [hf]
      · simp [e]
    · rfl
theorem SysS.holdL_find (s : SysS) (l : List Int) (j : Int) : ((s.holdL l).find j).isSome = (s.find j).isSome := by
  induction l generalizing s with
  | nil => rfl
  | cons y t ih => exact (ih (s.hold1 y)).trans (SysS.hold1_find y j)
theorem ids_len (s : SysS) : s.ids.length = s.all.length := by unfold SysS.ids; rw [List.length_mergeSort, List.length_map]
theorem SysOk.all64 (hk : SysOk T s) : s.all.length ≤ 64 := by unfold SysS.all; exact Nat.le_trans (List.length_filterMap_le _ _) (by rw [hk.s64]; exact Nat.le_refl _)
theorem SysOk.hold_at (hk : SysOk T s) (hT : T ≤ 9000000) {k : Nat} (hlk : k < s.all.length) : ∃ id t, s.ids[k]? = some id ∧ (s.holdL (s.ids.take k)).find id = some t ∧ t.id = id ∧ SysOk (T + 128) (s.holdL (s.ids.take k)) ∧ s.holdL (s.ids.take (k + 1)) = (s.holdL (s.ids.take k)).hold1 id := by
  have h64 := hk.all64
  have hkl : k < s.ids.length := by rw [ids_len]; exact hlk
  have hmem : s.ids[k] ∈ s.all.map Tk.id := by
    have h1 : s.ids[k] ∈ s.ids := List.getElem_mem hkl
    unfold SysS.ids at h1
    exact List.mem_mergeSort.1 h1
  obtain ⟨u, hu, hui⟩ := List.mem_map.1 hmem
  have hfu := hk.all_find hu
  rw [hui] at hfu
  have h2 := SysS.holdL_find s (s.ids.take k) s.ids[k]
  rw [hfu] at h2
  obtain ⟨t, ht⟩ := Option.isSome_iff_exists.1 h2
  have hok := hk.holdL (s.ids.take k) (by rw [List.length_take, ids_len]; omega)
  refine ⟨s.ids[k], t, List.getElem?_eq_getElem hkl, ht, (SysS.find_slot ht).2.1, hok.mono (by rw [List.length_take, ids_len]; omega), ?_⟩
  rw [List.take_succ_eq_append_getElem hkl, SysS.holdL_append]
/-- The marks are taken, one behind the other. -/
theorem leaves_marks {F : Fence} {n : Nat} {P : Program} {fn : Func} {tm : Array Value} {R : Ending → World → Prop} : ∀ (Ds : List Nat) (W : World), Ds.Nodup → (∀ D ∈ Ds, W.heap[D]? = some (.deferred (some []))) → (∀ W', Fr (fun k => k ∈ Ds) W W' → LeavesInM F n P fn tm R [] .returning W') →
    LeavesInM F n P fn tm R (Ds.map fun D => { target := .collected D, args := #[] }) .returning W
  | [], W, _, _, h => h W (Fr.refl _ W)
  | D :: Ds, W, hn, hd, h => by
    rw [List.nodup_cons] at hn
    refine ⟨by simp, .inl ⟨_, _, rfl, run_takeDeferred (hd D (by simp)), ?_⟩⟩
    refine leaves_marks Ds _ hn.2 (fun E hE => ?_) (fun W' hW => h W' (((Fr.refl _ W).putObj (fun _ => by simp) _).trans hW (fun i _ hi => by simp [hi])))
    rw [World.putObj_heap_other (fun e => hn.1 (by rw [← e]; exact hE))]
    exact hd E (by simp [hE])
set_option maxHeartbeats 3200000 in
set_option maxRecDepth 100000 in
theorem YHold (h : SysIn w0 w ow L s) (hk : SysOk T s) (hT : T ≤ 9000000) : Calls Tryz.prog 48 #[.pointer (some ⟨L.b, 0, none⟩)] w fun e w' => (∃ v, e = .returned v) ∧ SysTo w0 w ow L (s.holdL s.ids) w' := by
  have H := Lib.hid h
  have HSo := Lib.hid (fun (W : World) (hW : Below w.heap.size w W) => YSorted (h.below hW) hk (by omega))
  clear h
  refine (callsIn_wide (n := 0)).1 (callsIn_of_wp_marks Tryz.func48 rfl trivial ?_ rfl)
  simp only [ Tryz.ntmps48, List.size_toArray, List.length_cons, List.length_nil, Nat.reduceAdd, Nat.reduceSub, Array.replicate_succ, Array.replicate_zero, List.push_toArray, List.append_toArray, List.nil_append, List.cons_append]
  refine wpIn_wide.2 ?_
  go_wp2_with fail
  go_step3
  go_wp2_with fail
  go_step3
  go_wp2_with (first
    | (go_at_call 71; refine (HSo.out _ ((Below.refl _ _).alloc (Nat.le_refl _) _)).mono ?_; rintro e w1 ⟨va, vc, rfl, hs1, hva, hb1⟩; have HS1 := Lib.hid hs1; have HVa := Lib.hid hva; clear hva; have Hb1 := Lib.hid hb1; clear hs1 hb1))
  obtain ⟨x0, hsz1, hbw⟩ := heap_a1 Hb1.out
  refine wp_loop (fun a W => ∃ (k : Nat) (u3 u4 u9 u10 u11 u12 u13 u14 u15 u16 u17 u18 u19 u20 u21 u22 u23 u24 u25 u26 u27 u28 u29 u30 u31 u32 u33 u34 u35 u36 u37 u38 u39 : Value) (Ds : List Nat) (ow' : Nat → Option Own), a = { tmps := #[.pointer (some ⟨L.b, 0, none⟩), .pointer (some ⟨w.heap.size, 0, none⟩), undef, u3, u4, .pointer (some ⟨L.b, 0, none⟩), .slice va s.all.length vc, .int .i64 s.all.length, .int .i64 k, u9, u10, u11, u12, u13, u14, u15, u16, u17, u18, u19, u20, u21, u22, u23, u24, u25, u26, u27, u28, u29, u30, u31, u32, u33, u34, u35, u36, u37, u38, u39], defers := Ds.map fun D => { target := .collected D, args := #[] } } ∧ k ≤ s.all.length ∧ SysIn w0 W ow' L (s.holdL (s.ids.take k)) ∧ Fr (fun b => ow b ≠ none) w W ∧ w1.heap.size ≤ W.heap.size ∧ (∀ b, ow' b ≠ none → ow b ≠ none ∨ w1.heap.size ≤ b) ∧
      W.heap[w.heap.size]? = some (.cells #[.pointer (some ⟨L.b, 0, none⟩)] 24 (0, 0)) ∧ Sl (ptrE L.tb) 1 W va s.ids ∧ Ds.Nodup ∧ ∀ D ∈ Ds, w1.heap.size ≤ D ∧ ow' D = none ∧ W.heap[D]? = some (.deferred (some [])))
    (fun a _ => s.all.length - (intOf (a.tmps.getD 8 undef)).toNat) ?h0 ?round
  case h0 => exact ⟨0, _, _, _, _, _, _, _, _, _, _, _, _, _, _, _, _, _, _, _, _, _, _, _, _, _, _, _, _, _, _, _, _, _, [], ow, rfl, Nat.zero_le _, H.out.below hbw, Fr.of_below hbw, Nat.le_refl _, fun b hb => .inl hb, x0, HS1.out, List.nodup_nil, fun D hD => by cases hD⟩
  case round =>
    rintro a W ⟨k, u3, u4, u9, u10, u11, u12, u13, u14, u15, u16, u17, u18, u19, u20, u21, u22, u23, u24, u25, u26, u27, u28, u29, u30, u31, u32, u33, u34, u35, u36, u37, u38, u39, Ds, ow', rfl, hkn, h1, hf1, hw1W, ho1, hx0, hs1, hnd, hD⟩
    have hwl := H.out.lt
    have hbn : ow' w.heap.size = none := by
      rcases Option.eq_none_or_eq_some (ow' w.heap.size) with e | ⟨o, e⟩
      · exact e
      · rcases ho1 w.heap.size (by rw [e]; simp) with e2 | e2
        · cases e3 : ow w.heap.size with
          | none => exact absurd e3 e2
          | some o => have := (hwl _ _ e3).2; omega
        · omega
    have hvn : ∀ p, va = some p → ow' p.block = none := fun p hp => by
      have hp2 := HVa.out p hp
      simp at hp2
      rcases Option.eq_none_or_eq_some (ow' p.block) with e | ⟨o, e⟩
      · exact e
      · rcases ho1 p.block (by rw [e]; simp) with e2 | e2
        · cases e3 : ow p.block with
          | none => exact absurd e3 e2
          | some o => have := (hwl _ _ e3).2; omega
        · omega
    have hk0 : (0 : Int) ≤ k := by omega
    have hsW := hf1.size
    have h64 := hk.all64
    have hw64 : wrap64 ((k : Int) + 1) = (k : Int) + 1 := IntWalk.wrap64_in _ (by omega)
    by_cases hlk : k < s.all.length
    · obtain ⟨id, t, hid, htf, rfl, hk1, hst⟩ := hk.hold_at hT hlk
      obtain ⟨r, off, rfl, hr, hc⟩ := hs1 (by intro e; rw [e] at hid; simp at hid)
      have e0 := hc k t.id hid 0 _ rfl
      simp only [Nat.mul_one, Nat.add_zero] at e0
      have hkn' : (k : Int) < s.all.length := by omega
      obtain ⟨d0, f0, l0⟩ := blk1 hx0
      obtain ⟨c0, c1, c2, c3, c4, c5, c6⟩ := (TkAt.cells (h1.tsk _ t htf).1).1
      obtain ⟨-, -, hkl⟩ := TkAt.cells (h1.tsk _ t htf).1
      obtain ⟨⟨q0, q1, q2, q3⟩, -, hlt⟩ := h1.tops
      generalize s.holdL (s.ids.take k) = s1 at h1 hk1 hst htf
      have HH1 := Lib.hid h1
      have HF1 := Lib.hid hf1
      have HO1 := Lib.hid ho1
      have HX0 := Lib.hid hx0
      have HSl := Lib.hid hs1
      have HND := Lib.hid hnd
      have HD := Lib.hid hD
      have HST := Lib.hid hst
      have HVn := Lib.hid hvn
      have HBn := Lib.hid hbn
      have HTf := Lib.hid htf
      have HK1 := Lib.hid hk1
      generalize hn : s.all.length = n at *
      by_cases h2 : t.st = 2
      · have hW0 : ow' W.heap.size = none := by
          rcases Option.eq_none_or_eq_some (ow' W.heap.size) with e | ⟨o, e⟩
          · exact e
          · have := (HH1.out.lt _ _ e).2; omega
        have HW0 := Lib.hid hW0
        have HL := Lib.hid (fun (W' : World) (hW : Below W.heap.size W W') => YLeaveA (h1.below hW) hk1 (by omega) htf)
        have hgl := h1.grp.lt
        have HG := Lib.hid (fun (W' : World) (hW : Below W.heap.size W W') => h1.grp.below hW)
        have hgood := hk1.accs
        have hH2 := Lib.hid h2
        rw [h2] at c4
        have hn16 := h1.grp.n16
        clear h1 hf1 ho1 hx0 hs1 hnd hD hst hvn hbn htf h2 hc hW0
        go_wp2_with fail
        refine wp_region_chain 40 [0, 1, 3, 7, 0, 16, 48, 112, 255] [(0, none), (1, none), (2, none), (3, none), (4, none), (5, none), (6, none), (7, none), (8, some [])] (by kernel_rfl) (by kernel_rfl) (by rfl) ?_; simp only [chain, Obs, List.getElem?_toArray, List.getElem?_cons_zero, List.getElem?_cons_succ]
        go_wp2_with (first
          | (with_reducible refine And.intro (by first | with_reducible exact True.intro | with_reducible rfl | go_simp) ?_)
          | (go_at_call 46; refine (GPath _ _ _).mono ?_; rintro e w2 ⟨rfl, rfl⟩))
        refine NoPanic.normal ?_
        go_wp2
        obtain ⟨w4, hw4⟩ : ∃ w4, (((W.alloc (.cells #[.pointer (some ⟨L.tb t.id, 0, none⟩)] 105)).alloc (.cells #[.pointer (some ⟨L.g, 0, none⟩)] 85)).alloc (.cells #[.int .i64 t.grp] 3)).drew = w4 := ⟨_, rfl⟩
        rw [hw4]
        obtain ⟨y0, y1, y2, hs3, hb3⟩ := heap_a3 (w := W) (o1 := (.cells #[.pointer (some ⟨L.tb t.id, 0, none⟩)] 105)) (o2 := (.cells #[.pointer (some ⟨L.g, 0, none⟩)] 85)) (o3 := (.cells #[.int .i64 t.grp] 3)) (Below.refl _ _)
        have e4 : w4.heap.size = W.heap.size + 3 := by rw [← hw4]; simp
        have z0 := heap_drw y0
        have z1 := heap_drw y1
        have z2 := heap_drw y2
        have hb4 := hb3.drew
        rw [hw4] at z0 z1 z2 hb4
        clear hs3 hw4 y0 y1 y2 hb3
        have hWw : w.heap.size < W.heap.size := by omega
        refine wp_range rfl (enters_of Tryz.func66 (by kernel_rfl) rfl) (GPathIter (HG.out _ hb4) t.grp z2 z1) (Below.refl _ _) (fun _ => rfl)
          (fun _ j W' => W'.heap[w.heap.size]? = some (.cells #[.pointer (some ⟨L.b, 0, none⟩)] 24 (0, 0)) ∧ W'.heap[W.heap.size]? = some (.cells #[.pointer (some ⟨L.tb t.id, 0, none⟩)] 105 (0, 0)) ∧ Below W.heap.size W W' ∧ ((pathG s1.ups t.grp).take j).any (fun i => (s1.acc i).spent) = false)
          (fun _ e j W' => e = .exit 1 ∧ ∃ ow2, SysIn w0 W' ow2 L (s1.hold1 t.id) ∧ Fr (fun b => ow' b ≠ none) W W' ∧ ∀ b, ow2 b ≠ none → ow' b ≠ none ∨ W.heap.size + 5 ≤ b) ?hI ?hX ?h1 ?round2 ?done ?stop
        case hI => exact fun r j W' o h hl => ⟨(World.putObj_heap_other (by omega)).trans h.1, (World.putObj_heap_other (by omega)).trans h.2.1, Below.putObj h.2.2.1 (by omega) _, h.2.2.2⟩
        case hX =>
          rintro r e j W' o ⟨rfl, ow2, g1, g2, g3⟩ hl
          have hln : ow2 (w4.heap.size + 1) = none := by
            rcases Option.eq_none_or_eq_some (ow2 (w4.heap.size + 1)) with e | ⟨o, e⟩
            · exact e
            · rcases g3 _ (by rw [e]; simp) with e2 | e2
              · cases e3 : ow' (w4.heap.size + 1) with
                | none => exact absurd e3 e2
                | some o => have := (HH1.out.lt _ _ e3).2; omega
              · omega
          have h0s := HH1.out.old.size
          have hfr := (Fr.refl (fun i => i = w4.heap.size + 1) W').putObj (l := w4.heap.size + 1) (fun _ => rfl) o
          exact ⟨rfl, ow2, g1.fr hfr (fun k hk => by subst hk; exact ⟨hln, by omega⟩), g2.trans hfr (fun k hk1 hk2 => by omega), g3⟩
        case h1 => exact fun r W' hs hb _ => ⟨heap_below HX0.out (hb4.trans (hb.mono (by omega))), heap_below z0 hb, hb4.trans (hb.mono (by omega)), rfl⟩
        case round2 =>
          rintro r2 j x W' hx ⟨hc0, hc1, hb, hno⟩ hl
          refine ⟨_, fun W'' K hK => by gi_wp2; exact hK, ?_⟩
          obtain ⟨d0, f0, l0⟩ := blk1 hc0
          obtain ⟨d1, f1, l1⟩ := blk1 hc1
          have hx16 : x < 16 := by have := pathF_mem _ _ _ (List.mem_of_getElem? hx); omega
          have hxi : (x : Int) < 16 := by omega
          have hx0 : (0 : Int) ≤ x := by omega
          obtain ⟨⟨a0, a1, a2, a3⟩, -⟩ := (HH1.out.below hb).accs hx16
          have HS := Lib.hid (AcSpent (s1.acc x) W' (hgood x hx16))
          have H0 := Lib.hid hc0
          have H1 := Lib.hid hc1
          have HB := Lib.hid hb
          have HX := Lib.hid hx
          have HN := Lib.hid hno
          have hbs := hb.size
          clear hc0 hc1 hb hx hno z0 z1 z2
          cases hsp : (s1.acc x).spent with
          | true =>
            rw [hsp] at HS
            have hspG : s1.spentG t.grp = true := by
              unfold SysS.spentG
              rw [List.any_eq_true]
              exact ⟨x, List.mem_of_getElem? HX.out, hsp⟩
            have hho : s1.hold1 t.id = (s1.leaveT t).1.setT { (s1.leaveT t).2 with st := 5 } := by unfold SysS.hold1; rw [HTf.out]; simp only; rw [if_pos ⟨hH2.out, hspG⟩]
            have hlf := SysS.leaveT_find HTf.out t.id
            rw [if_pos rfl] at hlf
            have hls : (s1.leaveT t).2.st = 2 := by unfold SysS.leaveT; split <;> exact hH2.out
            have hli := SysS.leaveT_id s1 t
            rw [hho]
            generalize (s1.leaveT t).1 = s2 at HL hlf ⊢
            generalize (s1.leaveT t).2 = t2 at hlf hls hli ⊢
            have HLf := Lib.hid hlf
            have HLs := Lib.hid hls
            have HLi := Lib.hid hli
            clear hsp hspG hho hlf hls hli
            gi_wp2_with (first
              | (gi_at_call 69; refine (CallsIn.inRound _ (callsIn_wide.2 HS.out)).mono ?_; rintro e w5 ⟨rfl, hb1⟩
                 have z0 := heap_below H0.out hb1; obtain ⟨d0, f0, l0⟩ := blk1 z0; have HZ0 := Lib.hid z0
                 have z1 := heap_below H1.out hb1; obtain ⟨d1, f1, l1⟩ := blk1 z1; have HZ1 := Lib.hid z1
                 have HB1 := Lib.hid hb1; have HB2 := Lib.hid (HB.out.trans (hb1.mono HB.out.size)); have hs5 := hb1.size; clear z0 z1 hb1)
              | (gi_at_call 72; refine (CallsIn.inRound _ (callsIn_wide.2 (HL.out _ HB2.out))).mono ?_; rintro e w6 ⟨⟨v, rfl⟩, ow2, g1, g2, g3⟩
                 have z1 := heap_fr HZ1.out g2 (fun h => h HW0.out); obtain ⟨d1, f1, l1⟩ := blk1 z1
                 have HT2 := Lib.hid (show TkAt w6 (L.tb t.id) t2 from (g1.tsk _ t2 HLf.out).1)
                 have HBc := Lib.hid (YBecome (act := 6) HT2.out (by rw [HLs.out]; exact .inr (.inl rfl)) (.inr (.inr (.inr (.inl rfl)))))
                 rw [HLs.out, show (nextL 2 6).1 = 5 from rfl] at HBc
                 have G1 := Lib.hid g1; have G2 := Lib.hid g2; have G3 := Lib.hid g3; have hs6 := g2.size; clear z1 g1 g2 g3)
              | (gi_at_call 73; refine (CallsIn.inRound _ (callsIn_wide.2 HBc.out)).mono ?_; rintro e w7 ⟨⟨v, rfl⟩, rfl⟩))
            have htb : L.tb t2.id = L.tb t.id := by rw [HLi.out]
            have hset := G1.out.setCell (t := t2) (t' := { t2 with st := 5 }) (j := 4) (v := .int .i64 5) (by rw [HLi.out]; exact HLf.out) rfl (by rw [htb]; exact TkAt.st HT2.out 5)
            rw [htb] at hset
            obtain ⟨ow3, g1, g2, g3⟩ := SysTo.trans G3.out G2.out hset
            have hun : ∀ b, W.heap.size ≤ b → ow' b = none := fun b hb => by
              rcases Option.eq_none_or_eq_some (ow' b) with e | ⟨o, e⟩
              · exact e
              · have := (HH1.out.lt _ _ e).2; omega
            exact ⟨⟨(g2.block _ (by omega) (fun h => h (hun _ (by omega)))).trans (HB1.out.block _ (by omega)), (g2.block _ (by omega) (fun h => h (hun _ (by omega)))).trans (HB1.out.block _ (by omega))⟩, rfl, ow3, g1, (Fr.of_below HB2.out).trans g2 (fun _ _ h => h), fun k hk => (g3 k hk).imp id (fun h => by omega)⟩
          | false =>
            rw [hsp] at HS
            have Hsp := Lib.hid hsp
            clear hsp
            gi_wp2_with (gi_at_call 69; refine (CallsIn.inRound _ (callsIn_wide.2 HS.out)).mono ?_; rintro e w5 ⟨rfl, hb1⟩; have HB1 := Lib.hid hb1; clear hb1)
            have hs := HB1.out.size
            refine ⟨⟨HB1.out.block _ (by omega), HB1.out.block _ (by omega), fun b hb' _ => HB1.out.block _ (by have := (HH1.out.lt _ _ HH1.out.oG).2; omega)⟩, heap_below H0.out HB1.out, heap_below H1.out HB1.out, HB.out.trans (HB1.out.mono HB.out.size), ?_⟩
            obtain ⟨hj, e⟩ := List.getElem?_eq_some_iff.1 HX.out
            rw [List.take_succ_eq_append_getElem hj, List.any_append, HN.out, e]
            simp [Hsp.out]
        case done =>
          rintro r W' ⟨hc0, hc1, hb, hno⟩ hl hK
          rw [List.take_length] at hno
          have he : s1.hold1 t.id = s1 := by unfold SysS.hold1; rw [HTf.out]; simp only; rw [if_neg (fun h => by have h2 := h.2; rw [show s1.spentG t.grp = false from hno] at h2; cases h2)]
          rw [he] at HST
          have HB := Lib.hid hb
          have HC0 := Lib.hid hc0
          have HK := Lib.hid hK
          have hbs := hb.size
          clear hc0 hc1 hb hno hK he z0 z1 z2
          go_wp2_with fail
          refine ⟨⟨k + 1, _, _, _, _, _, _, _, _, _, _, _, _, _, _, _, _, _, _, _, _, _, _, _, _, _, _, _, _, _, _, _, _, _, w4.heap.size :: Ds, ow', rfl, by omega, by rw [HST.out]; exact HH1.out.below HB.out, HF1.out.trans (Fr.of_below HB.out) (fun _ _ h => h), by omega, HO1.out, HC0.out, HSl.out.below HB.out, List.nodup_cons.2 ⟨fun hm => ?_, HND.out⟩, fun D hD2 => ?_⟩, by simp [intOf]; omega⟩
          · have := (Array.getElem?_eq_some_iff.1 (HD.out _ hm).2.2).1; omega
          · rcases List.mem_cons.1 hD2 with rfl | hD3
            · refine ⟨by omega, ?_, HK.out⟩
              rcases Option.eq_none_or_eq_some (ow' w4.heap.size) with e | ⟨o, e⟩
              · exact e
              · have := (HH1.out.lt _ _ e).2; omega
            · exact ⟨(HD.out D hD3).1, (HD.out D hD3).2.1, heap_below (HD.out D hD3).2.2 HB.out⟩
        case stop =>
          rintro r e j x W' hx ⟨rfl, ow2, g1, g2, g3⟩ hl hK
          have G1 := Lib.hid g1
          have G2 := Lib.hid g2
          have G3 := Lib.hid g3
          have HK := Lib.hid hK
          have hbs := g2.size
          clear g1 g2 g3 hK z0 z1 z2 hx
          go_wp2_with fail
          have hDn : ∀ D, D < W.heap.size + 5 → ow' D = none → ow2 D = none := fun D hD1 hD2 => by
            rcases Option.eq_none_or_eq_some (ow2 D) with e | ⟨o, e⟩
            · exact e
            · rcases G3.out D (by rw [e]; simp) with e2 | e2
              · exact absurd hD2 e2
              · omega
          refine ⟨⟨k + 1, _, _, _, _, _, _, _, _, _, _, _, _, _, _, _, _, _, _, _, _, _, _, _, _, _, _, _, _, _, _, _, _, _, w4.heap.size :: Ds, ow2, rfl, by omega, by rw [HST.out]; exact G1.out, HF1.out.trans G2.out (fun b hb h => (HO1.out b h).elim id (fun h => by omega)), by omega, fun b hb => (G3.out b hb).elim (fun h => HO1.out b h) (fun h => .inr (by omega)), heap_fr HX0.out G2.out (fun h => h HBn.out), HSl.out.fr G2.out (fun p hp h => h (HVn.out p hp)), List.nodup_cons.2 ⟨fun hm => ?_, HND.out⟩, fun D hD2 => ?_⟩, by simp [intOf]; omega⟩
          · have := (Array.getElem?_eq_some_iff.1 (HD.out _ hm).2.2).1; omega
          · rcases List.mem_cons.1 hD2 with rfl | hD3
            · refine ⟨by omega, hDn _ (by omega) ?_, HK.out⟩
              rcases Option.eq_none_or_eq_some (ow' w4.heap.size) with e | ⟨o, e⟩
              · exact e
              · have := (HH1.out.lt _ _ e).2; omega
            · have hlt3 := (Array.getElem?_eq_some_iff.1 (HD.out D hD3).2.2).1
              exact ⟨(HD.out D hD3).1, hDn D (by omega) (HD.out D hD3).2.1, heap_fr (HD.out D hD3).2.2 G2.out (fun h => h (HD.out D hD3).2.1)⟩
      · have hb2 : (t.st == 2) = false := by simpa using h2
        have he : s1.hold1 t.id = s1 := by unfold SysS.hold1; rw [HTf.out]; simp only; rw [if_neg (fun h => h2 h.1)]
        rw [he] at HST
        clear h1 hf1 ho1 hx0 hs1 hnd hD hst hvn hbn htf hk1 h2 he hc
        go_wp2_with fail
        have hba := (Below.refl W.heap.size W).alloc (Nat.le_refl _) (.cells #[.pointer (some ⟨L.tb t.id, 0, none⟩)] 105)
        refine ⟨⟨k + 1, _, _, _, _, _, _, _, _, _, _, _, _, _, _, _, _, _, _, _, _, _, _, _, _, _, _, _, _, _, _, _, _, _, Ds, ow', rfl, by omega, by rw [HST.out]; exact HH1.out.below hba, HF1.out.trans (Fr.of_below hba) (fun _ _ h => h), by simp; omega, HO1.out, heap_below HX0.out hba, HSl.out.below hba, HND.out, fun D hD2 => ⟨(HD.out D hD2).1, (HD.out D hD2).2.1, heap_below (HD.out D hD2).2.2 hba⟩⟩, by simp [intOf]; omega⟩
    · obtain rfl : k = s.all.length := by omega
      rw [List.take_of_length_le (by rw [ids_len]; exact Nat.le_refl _)] at h1
      have HH1 := Lib.hid h1
      have HF1 := Lib.hid hf1
      have HO1 := Lib.hid ho1
      have HND := Lib.hid hnd
      have HD := Lib.hid hD
      clear h1 hf1 ho1 hx0 hs1 hnd hD hbn hvn hlk hkn
      generalize s.all.length = n at *
      go_wp2_with fail
      simp only [Exit.noGoto_normal]
      refine leaves_marks Ds W HND.out (fun D hD2 => (HD.out D hD2).2.2) (fun W' hW' => ?_)
      have h0s := H.out.old.size
      exact ⟨_, results_none rfl _ _ _, ⟨_, rfl⟩, ow', HH1.out.fr hW' (fun D hD2 => ⟨(HD.out D hD2).2.1, by have := (HD.out D hD2).1; omega⟩), HF1.out.trans hW' (fun D hD1 hD2 => by have := (HD.out D hD2).1; omega), fun b hb => (HO1.out b hb).imp id fun h => by omega⟩
end
end Go.Proofs.YtlgkkolgdjgclaaGreat
/- What stays true of the plain model, more. -/
namespace Go.Proofs.YtlgkkolgdjgclaaGreat
open Go.RowKit
set_option linter.unusedVariables false
set_option linter.unusedSimpArgs false

section
variable {T : Nat} {s : SysS}
/-- A core is another one, with the same tasks. -/
theorem SysOk.setC (h : SysOk T s) {T' : Nat} (hT : T ≤ T') {i : Nat} {c c' : CoreS} (hc : s.cores[i]? = some c) (hcf : CorFine T' c') (hm1 : ∀ x ∈ c'.q.l, ∃ y ∈ c.q.l, y.id = x.id ∧ y.w = x.w) (hm2 : ∀ y ∈ c.q.l, ∃ x ∈ c'.q.l, x.id = y.id) : SysOk T' (s.setC i c') := by
  have hil := (List.getElem?_eq_some_iff.1 hc).1
  refine ⟨by simp [SysS.setC]; exact h.c1, by simp [SysS.setC]; exact h.c16, fun d hd => ?_, h.g1, h.g16, h.acc, h.s64, fun x hx => by have := h.turn x hx; omega, fun j n u hu => ?_, fun j d hd x hx => ?_, fun id u hu hs2 => ?_⟩
  · simp only [SysS.setC] at hd
    obtain ⟨j, hj⟩ := List.getElem?_of_mem hd
    rw [List.getElem?_set] at hj
    by_cases e : i = j
    · rw [if_pos e] at hj
      split at hj
      · first
        | (simp only [Option.some.injEq] at hj; subst hj; exact hcf)
        | exact hcf
      · first
        | (simp only [Option.some.injEq] at hj; subst hj; exact hcf)
        | exact hcf
        | cases hj
    · rw [if_neg e] at hj; exact (h.cor d (List.mem_of_getElem? hj)).mono hT
  · obtain ⟨a, b, d⟩ := h.slot j n u hu
    exact ⟨a, b, d.congr rfl (by simp [SysS.setC])⟩
  · simp only [SysS.setC, List.getElem?_set] at hd
    by_cases e : i = j
    · subst e
      rw [if_pos rfl, if_pos hil] at hd
      simp only [Option.some.injEq] at hd
      subst hd
      obtain ⟨y, hy, a, b⟩ := hm1 x hx
      obtain ⟨u, q1, q2, q3, q4⟩ := h.rdy i c hc y hy
      exact ⟨u, by rw [← a]; exact q1, q2, q3, by rw [← b]; exact q4⟩
    · rw [if_neg e] at hd; exact h.rdy j d hd x hx
  · obtain ⟨d, q1, x, q2, q3⟩ := h.rdq id u hu hs2
    by_cases e2 : i = u.core.toNat
    · rw [← e2, hc] at q1
      simp only [Option.some.injEq] at q1
      subst q1
      obtain ⟨z, hz, hz2⟩ := hm2 x q2
      refine ⟨c', ?_, z, hz, by rw [hz2]; exact q3⟩
      simp only [SysS.setC, List.getElem?_set]
      rw [if_pos e2, if_pos (by omega)]
    · refine ⟨d, ?_, x, q2, q3⟩
      simp only [SysS.setC, List.getElem?_set]
      rw [if_neg e2]; exact q1
/-- What a core's run tells and leaves. -/
theorem CorFine.run {c : CoreS} (h : CorFine T c) (hT : T ≤ 10000000) : CorFine (T + 1) c.run.1 ∧ c.run.2.2 = 0 ∧ ((c.q.l = [] ∧ c.run.2.1 = -1 ∧ c.run.1.q.l = []) ∨ ∃ (j : Nat) (x : Pt), c.q.l[j]? = some x ∧ c.run.2.1 = x.id ∧ c.run.1.q.l = c.q.l.set j (chargeP x)) ∧ (-9223372036854775808 ≤ c.ran.2.1 ∧ c.ran.2.1 ≤ 9223372036854775807) := by
  have h2 := h.mono (Nat.le_succ T)
  have ha := h.age
  have hi := h.idle
  have hn := h.n
  rcases Nat.eq_zero_or_pos c.q.l.length with h0 | h0
  · have he : c.q.l = [] := List.eq_nil_of_length_eq_zero h0
    have hq := (h.q.idle h.tag he).1
    have hr : c.ran = (⟨c.q.base, -1, []⟩, 0, 14) := hq
    have e : c.run = ({ c with q := ⟨c.q.base, -1, []⟩, idle := c.idle + 1, age := c.age + 1 }, -1, 0) := by unfold CoreS.run; rw [hr]; rfl
    rw [e, hr]
    refine ⟨⟨h2.tag, ?_, by simp only; omega, by simp only; omega, h2.sv, h2.n⟩, rfl, .inl ⟨he, rfl, rfl⟩, by simp only; omega⟩
    have hq2 := h2.q
    exact ⟨List.Pairwise.nil, by simp, hq2.b0, hq2.b1, (fun x hx => by cases hx), .inl rfl, (fun x hx => by cases hx), .inl rfl⟩
  · obtain ⟨j, x, S2, h3, h4, h5, h6, h7⟩ := h.q.run h.tag (by omega) h0
    have hr : c.ran = (S2, x.id, 0) := h4
    have e : c.run = ({ c with q := S2, sv := updI c.sv x.id (c.sv x.id + 1), n := c.n + 1, age := c.age + 1 }, x.id, 0) := by unfold CoreS.run; rw [hr]; rfl
    have hxm := List.mem_of_getElem? h3
    have hp := h.q.pts x hxm
    rw [e, hr]
    refine ⟨⟨h2.tag, h7, by simp only; omega, by simp only; omega, fun id => ?_, by simp only; omega⟩, rfl, .inr ⟨j, x, h3, rfl, h6⟩, by simp only; omega⟩
    have := h.sv id
    have := h.sv x.id
    simp only [updI]
    split <;> omega
theorem SysOk.run1 (h : SysOk T s) (hT : T ≤ 10000000) {i : Nat} {c : CoreS} (hc : s.cores[i]? = some c) : SysOk (T + 1) (s.setC i c.run.1) := by
  obtain ⟨h1, -, h3, -⟩ := (h.cor c (List.mem_of_getElem? hc)).run hT
  rcases h3 with ⟨h4, -, h5⟩ | ⟨j, x, h4, -, h5⟩
  · refine h.setC (by omega) hc h1 (fun x hx => ?_) (fun y hy => ?_)
    · rw [h5] at hx; cases hx
    · rw [h4] at hy; cases hy
  · obtain ⟨c1, c2, c3⟩ := chargeP_is x
    refine h.setC (by omega) hc h1 (fun y hy => ?_) (fun y hy => ?_)
    · rw [h5] at hy
      rcases mem_set h4 hy with rfl | hy
      · exact ⟨x, List.mem_of_getElem? h4, c1.symm, c2.symm⟩
      · exact ⟨y, hy, rfl, rfl⟩
    · rw [h5]
      obtain ⟨i2, hi2⟩ := List.getElem?_of_mem hy
      by_cases e : j = i2
      · subst e
        rw [h4] at hi2
        simp only [Option.some.injEq] at hi2
        subst hi2
        exact ⟨chargeP x, List.mem_set (List.getElem?_eq_some_iff.1 h4).1 _, c1⟩
      · refine ⟨y, List.mem_iff_getElem?.2 ⟨i2, ?_⟩, rfl⟩
        rw [List.getElem?_set, if_neg e]; exact hi2
theorem SysOk.setA (h : SysOk T s) {g : Nat} {a : Acn} (ha : a.good = true) : SysOk T (s.setA g a) := by
  have hu : (s.setA g a).ups = s.ups := ups_setA g a
  refine ⟨h.c1, h.c16, h.cor, by simp [SysS.setA]; exact h.g1, by simp [SysS.setA]; exact h.g16, fun p hp => ?_, h.s64, h.turn, fun j n u hu2 => ?_, h.rdy, h.rdq⟩
  · obtain ⟨j, hj⟩ := List.getElem?_of_mem hp
    simp only [SysS.setA, List.getElem?_modify] at hj
    cases hq : s.grps[j]? with
    | none => rw [hq] at hj; simp at hj
    | some y =>
      have := h.acc y (List.mem_of_getElem? hq)
      rw [hq] at hj
      simp only [Option.map_eq_map, Option.map_some, Option.some.injEq] at hj
      subst hj
      split
      · exact ha
      · exact this
  · obtain ⟨a, b, d⟩ := h.slot j n u hu2
    exact ⟨a, b, d.congr hu rfl⟩
theorem Acn.use_good {a : Acn} (h : a.good = true) (h0 : a.use.2 = 0) : a.use.1.good = true := by
  unfold Acn.use at h0 ⊢
  split
  · exact h
  · rename_i hz
    rw [if_neg hz] at h0
    split
    · rename_i hok
      split
      · rename_i hl; rw [if_pos hok, if_pos hl] at h0; simp at h0
      · rename_i hl
        unfold Acn.good
        refine decide_eq_true (.inr ?_)
        unfold Acn.ok at hok ⊢
        simp only
        omega
    · rename_i hok; rw [if_neg hok] at h0; simp at h0
def SysS.use1 (s : SysS) (g : Nat) : SysS := if (s.acc g).use.2 = 0 then s.setA g (s.acc g).use.1 else s
theorem SysS.useG_append (s : SysS) (l : List Nat) (x : Nat) : s.useG (l ++ [x]) = (s.useG l).use1 x := by
  induction l generalizing s with
  | nil => rfl
  | cons y t ih => exact ih (s.use1 y)
theorem SysS.use1_is (s : SysS) (g : Nat) : (s.use1 g).ups = s.ups ∧ (s.use1 g).cores = s.cores ∧ (s.use1 g).slots = s.slots ∧ (s.use1 g).grps.length = s.grps.length := by
  unfold SysS.use1
  split
  · exact ⟨ups_setA _ _, rfl, rfl, by simp [SysS.setA]⟩
  · exact ⟨rfl, rfl, rfl, rfl⟩
theorem SysS.useG_is (s : SysS) (l : List Nat) : (s.useG l).ups = s.ups ∧ (s.useG l).cores = s.cores ∧ (s.useG l).slots = s.slots ∧ (s.useG l).grps.length = s.grps.length := by
  induction l generalizing s with
  | nil => exact ⟨rfl, rfl, rfl, rfl⟩
  | cons y t ih =>
    obtain ⟨a, b, c, d⟩ := ih (s.use1 y)
    obtain ⟨a', b', c', d'⟩ := s.use1_is y
    exact ⟨a.trans a', b.trans b', c.trans c', d.trans d'⟩
theorem SysOk.use1 (h : SysOk T s) {g : Nat} (hg : g < 16) : SysOk T (s.use1 g) := by
  unfold SysS.use1
  split
  · rename_i h0; exact h.setA (Acn.use_good (h.accs g hg) h0)
  · exact h
theorem SysOk.useG (h : SysOk T s) (l : List Nat) (hl : ∀ g ∈ l, g < 16) : SysOk T (s.useG l) := by
  induction l generalizing s with
  | nil => exact h
  | cons y t ih => exact ih (h.use1 (hl y (by simp))) (fun g hg => hl g (by simp [hg]))
end
end Go.Proofs.YtlgkkolgdjgclaaGreat
/- A system's methods: Run. -/
namespace Go.Proofs.YtlgkkolgdjgclaaGreat
open Go.RowKit Go.Shelf
attribute [local go_sem] Oper.semAt_some wide_fn wide_depth
set_option linter.unusedVariables false
set_option linter.unusedSimpArgs false

section
variable {w0 w : World} {ow : Nat → Option Own} {L : Lay} {s : SysS} {T : Nat}
set_option maxHeartbeats 3200000 in
set_option maxRecDepth 100000 in
theorem YRun (h : SysIn w0 w ow L s) (hk : SysOk T s) (hT : T ≤ 8000000) (c : Int) : Calls Tryz.prog 26 #[.pointer (some ⟨L.b, 0, none⟩), .int .i64 c] w fun e w' => e = .returned (.tuple #[.int .i64 (s.run c).2.1, .int .i64 (s.run c).2.2]) ∧ SysTo w0 w ow L (s.run c).1 w' := by
  have H := Lib.hid h
  have hb0 := (Below.refl w.heap.size w).alloc (Nat.le_refl _) (.cells #[.pointer (some ⟨L.b, 0, none⟩)] 24)
  have hbn : ow w.heap.size = none := by
    rcases Option.eq_none_or_eq_some (ow w.heap.size) with e | ⟨o, e⟩
    · exact e
    · have := (h.lt _ _ e).2; omega
  by_cases hc : 0 ≤ c ∧ c < s.cores.length
  · obtain ⟨k, rfl⟩ : ∃ k : Nat, c = k := ⟨c.toNat, by omega⟩
    have hkl : k < s.cores.length := by omega
    obtain ⟨d, hd⟩ : ∃ d, s.cores[k]? = some d := ⟨_, List.getElem?_eq_getElem hkl⟩
    have hdf := hk.cor d (List.mem_of_getElem? hd)
    obtain ⟨bl, F, p, q, r, hbl, hcst, how⟩ := h.cor k d hd
    have hco : s.core k = d := by unfold SysS.core; rw [Int.toNat_natCast, List.getD_eq_getElem?_getD, hd]; rfl
    obtain ⟨-, hr0, hrc, hran⟩ := hdf.run (by omega)
    have hk1 := hk.run1 (by omega) hd
    have HC := Lib.hid (fun (W : World) (hW : Below w.heap.size w W) => YCore (h.below hW) hc (bl := bl) (by rw [Int.toNat_natCast]; exact hbl))
    have HR := Lib.hid (fun (W : World) (hW : Below w.heap.size w W) => CorRun (hcst.below hW) (hdf.ok (by omega)) (by omega) (s' := d.run.1) (v := d.run.2.1) (x := 0) (by rw [← hr0]) hran)
    have HSC := Lib.hid (fun (W W' : World) (hW : Below w.heap.size w W) (hn : CNext w0 W F bl p q r d.run.1 W') => (h.below hW).setC hd hbl how hn)
    have hv63 : I63 d.run.2.1 := by
      rcases hrc with ⟨-, e, -⟩ | ⟨j, x, hx, e, -⟩
      · rw [e]; unfold I63; omega
      · have := hdf.q.pts x (List.mem_of_getElem? hx)
        rw [e]; unfold I63; omega
    have hfs : (s.setC k d.run.1).find d.run.2.1 = s.find d.run.2.1 := rfl
    cases hf : s.find d.run.2.1 with
    | none =>
      have e1 : s.run k = (s.setC k d.run.1, d.run.2.1, 0) := by
        unfold SysS.run
        rw [if_pos hc]
        simp only [hco, hf, hr0, Int.toNat_natCast]
      rw [e1]
      rw [hf] at hfs
      have HFn := Lib.hid hfs
      have HV := Lib.hid hv63
      have Hb0 := Lib.hid hb0
      generalize d.run.2.1 = v at *
      clear h hk hc hkl hd hdf hbl hcst how hco hr0 hrc hran hk1 hv63 hfs hf e1 hb0
      refine (callsIn_wide (n := 0)).1 (callsIn_of_wp_marks Tryz.func26 rfl trivial ?_ rfl)
      simp only [ Tryz.ntmps26, List.size_toArray, List.length_cons, List.length_nil, Nat.reduceAdd, Nat.reduceSub, Array.replicate_succ, Array.replicate_zero, List.push_toArray, List.append_toArray, List.nil_append, List.cons_append]
      refine wpIn_wide.2 ?_
      go_wp2_with (first
        | (go_at_call 14; refine (HC.out _ Hb0.out).mono ?_; rintro e w1 ⟨rfl, rfl⟩)
        | (go_at_call 45; refine (HR.out _ Hb0.out).mono ?_; rintro e w2 ⟨rfl, hn⟩
           obtain ⟨ow1, h1, hf1, hs1⟩ := HSC.out _ _ Hb0.out hn
           have x0 := heap_fr (heap_new w (.cells #[.pointer (some ⟨L.b, 0, none⟩)] 24)) hf1 (fun h => h hbn)
           obtain ⟨d0, f0, l0⟩ := blk1 x0
           obtain ⟨⟨q0, q1, q2, q3⟩, -, hlt⟩ := h1.tops
           have hlk := h1.look_none HV.out HFn.out
           have H1 := Lib.hid h1; have HF1 := Lib.hid hf1; have HS1 := Lib.hid hs1
           clear hn h1 hf1 hs1 x0))
      exact ⟨_, results_tmp2 rfl _ _ _, rfl, SysTo.trans (fun k hk => .inl hk) (Fr.of_below Hb0.out) ⟨ow1, H1.out, HF1.out, HS1.out⟩⟩
    | some t =>
      have e1 : s.run k = (((s.setC k d.run.1).useG (pathG s.ups t.grp)).holdL ((s.setC k d.run.1).useG (pathG s.ups t.grp)).ids, d.run.2.1, 0) := by
        unfold SysS.run
        rw [if_pos hc]
        simp only [hco, hf, Int.toNat_natCast]
      rw [e1]
      rw [hf] at hfs
      have hid := (SysS.find_slot hf).2.1
      rw [← hid] at hfs hv63
      rw [← hid] at HR ⊢
      have HFn := Lib.hid hfs
      have HV := Lib.hid hv63
      have Hb0 := Lib.hid hb0
      have HK1 := Lib.hid hk1
      have HT := Lib.hid hT
      have hup : s.ups = (s.setC k d.run.1).ups := rfl
      rw [hup]
      have hpm : ∀ g ∈ pathG (s.setC k d.run.1).ups t.grp, g < 16 := fun g hg => by
        have h1 := pathF_mem _ _ _ hg
        have h2 : (s.setC k d.run.1).ups.length = s.grps.length := by unfold SysS.ups SysS.setC; simp
        have := hk.g16
        omega
      have HPM := Lib.hid hpm
      have hpl : ∀ g ∈ pathG (s.setC k d.run.1).ups t.grp, g < 16 ∧ g < (s.setC k d.run.1).grps.length := fun g hg => by
        refine ⟨hpm g hg, ?_⟩
        have h1 := pathF_mem _ _ _ hg
        have h2 : (s.setC k d.run.1).ups.length = (s.setC k d.run.1).grps.length := by unfold SysS.ups; rw [List.length_map]
        omega
      have HPL := Lib.hid hpl
      generalize d.run.2.1 = v at *
      generalize s.setC k d.run.1 = s1 at *
      clear h hk hc hkl hd hdf hbl hcst how hco hr0 hrc hran hk1 hv63 hfs hf e1 hb0 hup hpm hpl hT hid
      refine (callsIn_wide (n := 0)).1 (callsIn_of_wp_marks Tryz.func26 rfl trivial ?_ rfl)
      simp only [ Tryz.ntmps26, List.size_toArray, List.length_cons, List.length_nil, Nat.reduceAdd, Nat.reduceSub, Array.replicate_succ, Array.replicate_zero, List.push_toArray, List.append_toArray, List.nil_append, List.cons_append]
      refine wpIn_wide.2 ?_
      go_wp2_with (first
        | (go_at_call 14; refine (HC.out _ Hb0.out).mono ?_; rintro e w1 ⟨rfl, rfl⟩)
        | (go_at_call 45; refine (HR.out _ Hb0.out).mono ?_; rintro e w2 ⟨rfl, hn⟩
           obtain ⟨ow1, h1, hf1, hs1⟩ := HSC.out _ _ Hb0.out hn
           have x0 := heap_fr (heap_new w (.cells #[.pointer (some ⟨L.b, 0, none⟩)] 24)) hf1 (fun h => h hbn)
           obtain ⟨d0, f0, l0⟩ := blk1 x0
           obtain ⟨⟨q0, q1, q2, q3⟩, -, hlt⟩ := h1.tops
           obtain ⟨⟨c0, c1, c2, c3, c4, c5, c6⟩, -, hkl⟩ := TkAt.cells (h1.tsk _ t HFn.out).1
           have hlk := h1.look HV.out HFn.out
           have H1 := Lib.hid h1; have HF1 := Lib.hid hf1; have HS1 := Lib.hid hs1; have HX0 := Lib.hid x0
           clear hn h1 hf1 hs1 x0))
      refine wp_region_chain 72 [0, 1, 3, 7, 0, 16, 48, 112, 255] [(0, none), (1, none), (2, none), (3, none), (4, none), (5, none), (6, none), (7, none), (8, some [])] (by kernel_rfl) (by kernel_rfl) (by rfl) ?_; simp only [chain, Obs, List.getElem?_toArray, List.getElem?_cons_zero, List.getElem?_cons_succ]
      go_wp2_with (first
        | (with_reducible refine And.intro (by first | with_reducible exact True.intro | with_reducible rfl | go_simp) ?_)
        | (go_at_call 46; refine (GPath _ _ _).mono ?_; rintro e w3 ⟨rfl, rfl⟩))
      refine NoPanic.normal ?_
      go_wp2
      obtain ⟨w4, hw4⟩ : ∃ w4, ((w2.alloc (.cells #[.pointer (some ⟨L.g, 0, none⟩)] 85)).alloc (.cells #[.int .i64 t.grp] 3)).drew = w4 := ⟨_, rfl⟩
      rw [hw4]
      obtain ⟨y1, y2, hs3, hb3⟩ := heap_a2 (w := w2) (o1 := (.cells #[.pointer (some ⟨L.g, 0, none⟩)] 85)) (o2 := (.cells #[.int .i64 t.grp] 3)) (Below.refl _ _)
      have e4 : w4.heap.size = w2.heap.size + 2 := by rw [← hw4]; simp
      have z1 := heap_drw y1
      have z2 := heap_drw y2
      have hb4 := hb3.drew
      rw [hw4] at z1 z2 hb4
      clear hs3 hw4 y1 y2 hb3
      have hun : ∀ b, w2.heap.size ≤ b → ow1 b = none := fun b hb => by
        rcases Option.eq_none_or_eq_some (ow1 b) with e | ⟨o, e⟩
        · exact e
        · have := (H1.out.lt _ _ e).2; omega
      have h0s := H1.out.old.size
      refine wp_range rfl (enters_of Tryz.func66 (by kernel_rfl) rfl) (GPathIter (H1.out.grp.below hb4) t.grp z2 z1) (Below.refl _ _) (fun _ => rfl)
        (fun _ j W' => W'.heap[w.heap.size]? = some (.cells #[.pointer (some ⟨L.b, 0, none⟩)] 24 (0, 0)) ∧ SysIn w0 W' ow1 L (s1.useG ((pathG s1.ups t.grp).take j)) ∧ Fr (fun b => ow1 b ≠ none) w2 W')
        (fun _ e j W' => False) ?hI ?hX ?h1 ?round2 ?done ?stop
      case hI =>
        rintro r j W' o ⟨g1, g2, g3⟩ hl
        have hfr := (Fr.refl (fun i => i = w4.heap.size + 1) W').putObj (l := w4.heap.size + 1) (fun _ => rfl) o
        exact ⟨(World.putObj_heap_other (by omega)).trans g1, g2.fr hfr (fun k hk => by subst hk; exact ⟨hun _ (by omega), by omega⟩), g3.trans hfr (fun k hk1 hk2 => by omega)⟩
      case hX => exact fun r e j W' o h hl => h
      case h1 => exact fun r W' hs hb _ => ⟨heap_below HX0.out (hb4.trans (hb.mono (by omega))), H1.out.below (hb4.trans (hb.mono (by omega))), Fr.of_below (hb4.trans (hb.mono (by omega)))⟩
      case round2 =>
        rintro r2 j x W' hx ⟨hc0, g2, g3⟩ hl
        refine ⟨_, fun W'' K hK => by gi_wp2; exact hK, ?_⟩
        obtain ⟨hx16, hxg⟩ := HPL.out x (List.mem_of_getElem? hx)
        have hxi : (x : Int) < 16 := by omega
        have hx0 : (0 : Int) ≤ x := by omega
        have hst : s1.useG ((pathG s1.ups t.grp).take (j + 1)) = (s1.useG ((pathG s1.ups t.grp).take j)).use1 x := by
          obtain ⟨hj, e⟩ := List.getElem?_eq_some_iff.1 hx
          rw [List.take_succ_eq_append_getElem hj, SysS.useG_append, e]
        have hgl : x < (s1.useG ((pathG s1.ups t.grp).take j)).grps.length := by rw [(SysS.useG_is s1 _).2.2.2]; exact hxg
        have hgood := (HK1.out.useG ((pathG s1.ups t.grp).take j) (fun g hg => HPM.out g (List.mem_of_mem_take hg))).accs x hx16
        generalize s1.useG ((pathG s1.ups t.grp).take j) = sj at g2 hst hgl hgood
        obtain ⟨d0, f0, l0⟩ := blk1 hc0
        obtain ⟨⟨a0, a1, a2, a3⟩, -⟩ := g2.accs hx16
        have HU := Lib.hid (AcUse (sj.acc x) W' hgood)
        have H0 := Lib.hid hc0
        have G2 := Lib.hid g2
        have G3 := Lib.hid g3
        have HST := Lib.hid hst
        have HGL := Lib.hid hgl
        have H16 := Lib.hid hx16
        have hbl := (g2.lt _ _ g2.oT).2
        have hbg := (H1.out.lt _ _ H1.out.oT).2
        have hgg := (H1.out.lt _ _ H1.out.oG).2
        have hbgn : L.g ≠ L.b := fun e => by have h1 := H1.out.oG; rw [e, H1.out.oT] at h1; cases h1
        have hwb : w.heap.size ≠ L.b := fun e => by have h1 := H1.out.oT; have := (H.out.lt _ _ H.out.oT).2; omega
        clear hc0 g2 g3 hst hgl hgood hx hx16 hxg z1 z2
        by_cases hu : (sj.acc x).use.2 = 0
        · have hu1 : sj.use1 x = sj.setA x (sj.acc x).use.1 := by unfold SysS.use1; rw [if_pos hu]
          rw [hu1] at HST
          rw [hu] at HU
          generalize (sj.acc x).use.1 = ua at HU HST
          clear hu hu1
          gi_wp2_with (first
            | (gi_at_call 47; refine (CallsIn.inRound _ (callsIn_wide.2 HU.out)).mono ?_; rintro e w5 ⟨rfl, hb1⟩
               have z0 := heap_below H0.out hb1; obtain ⟨d0, f0, l0⟩ := blk1 z0; have HZ0 := Lib.hid z0
               have g5 := G2.out.below hb1
               obtain ⟨⟨a0, a1, a2, a3⟩, ⟨b0, b1, b2, b3⟩⟩ := g5.accs H16.out
               have hs5 := hb1.size
               have hlb5 : L.b < w5.heap.size := (by omega)
               have hlb6 : L.b ≠ w5.heap.size := (by omega)
               have G5 := Lib.hid g5; have HB5 := Lib.hid hb1; clear z0 hb1 g5))
          refine wpIn_region_chain 72 [0, 0, 0, 1, 9, 31, 63] [(0, none), (1, none), (2, none), (3, none), (4, none), (5, none), (6, some [])] (by kernel_rfl) (by kernel_rfl) (by kernel_rfl) (by rfl) (by rintro ⟨_, _, h⟩; exact h) ?_; simp only [chain, Obs, List.getElem?_toArray, List.getElem?_cons_zero, List.getElem?_cons_succ]
          go_wp2_with (with_reducible refine And.intro (by first | with_reducible exact True.intro | with_reducible rfl | go_simp) ?_)
          refine NoPanic.normal ?_
          gi_wp2
          have hfa := (((fr_acn w5 L.b x ua).alloc (.cells #[.int .i64 ua.q, .int .i64 ua.p, .int .i64 ua.l, .int .i64 ua.f] 87))).drew
          refine ⟨⟨(hfa.block _ (by omega) (fun e => by omega)).trans (HB5.out.block _ (by omega)), (hfa.block _ (by omega) (fun e => by omega)).trans (HB5.out.block _ (by omega)), fun b hb' _ => (hfa.block _ (by omega) (fun e => by omega)).trans (HB5.out.block _ (by omega))⟩, heap_fr HZ0.out hfa hwb, ?_, ?_⟩
          · rw [HST.out]
            exact (G5.out.setA HGL.out H16.out ua).below (((Below.refl _ _).alloc (Nat.le_refl _) _).drew)
          · exact (G3.out.trans (Fr.of_below HB5.out) (fun _ _ h => h)).trans (hfa.mono (G := fun b => ow1 b ≠ none) fun i _ e => by subst e; rw [H1.out.oT]; simp) (fun _ _ h => h)
        · have hu1 : sj.use1 x = sj := by unfold SysS.use1; rw [if_neg hu]
          rw [hu1] at HST
          have hub : ((sj.acc x).use.2 == 0) = false := by simpa using hu
          generalize (sj.acc x).use.2 = ue at HU hub
          generalize (sj.acc x).use.1 = ua at HU
          clear hu hu1
          gi_wp2_with (first
            | (gi_at_call 47; refine (CallsIn.inRound _ (callsIn_wide.2 HU.out)).mono ?_; rintro e w5 ⟨rfl, hb1⟩
               have HB5 := Lib.hid hb1; have hs5 := hb1.size; clear hb1))
          have hb6 := HB5.out.alloc HB5.out.size (.cells #[.int .i64 ua.q, .int .i64 ua.p, .int .i64 ua.l, .int .i64 ua.f] 87)
          refine ⟨⟨hb6.block _ (by omega), hb6.block _ (by omega), fun b hb' _ => hb6.block _ (by omega)⟩, heap_below H0.out hb6, by rw [HST.out]; exact G2.out.below hb6, G3.out.trans (Fr.of_below hb6) (fun _ _ h => h)⟩
      case done =>
        rintro r W' ⟨hc0, g2, g3⟩ hl hK
        rw [List.take_length] at g2
        have hk2 := HK1.out.useG (pathG s1.ups t.grp) HPM.out
        have HHo := Lib.hid (YHold g2 hk2 (by have := HT.out; omega))
        obtain ⟨d0, f0, l0⟩ := blk1 hc0
        have G3 := Lib.hid g3
        have HK := Lib.hid hK
        clear hc0 g2 g3 hK hk2 z1 z2
        go_wp2_with (first
          | (go_at_call 48; refine HHo.out.mono ?_; rintro e w7 ⟨⟨v7, rfl⟩, ow3, a, b, c⟩; have HA := Lib.hid a; have HB := Lib.hid b; have HC3 := Lib.hid c; clear a b c))
        have hs7 := HB.out.size
        have hs3 := G3.out.size
        have hK7 : w7.heap[w4.heap.size]? = some (.deferred (some [])) := (HB.out.block _ (by omega) (fun h => h (hun _ (by omega)))).trans HK.out
        have hD3 : ow3 w4.heap.size = none := by
          rcases Option.eq_none_or_eq_some (ow3 w4.heap.size) with e | ⟨o, e⟩
          · exact e
          · rcases HC3.out w4.heap.size (by rw [e]; simp) with e2 | e2
            · exact absurd (hun _ (by omega)) e2
            · omega
        rw [e4] at hK7 hD3
        refine ⟨by simp, .inl ⟨_, _, rfl, run_takeDeferred hK7, ?_⟩⟩
        refine ⟨_, results_tmp2 rfl _ _ _, rfl, ?_⟩
        have hfr := (Fr.refl (fun i => i = w2.heap.size + 2) w7).putObj (l := w2.heap.size + 2) (fun _ => rfl) (.deferred none)
        have hT2 : SysTo w0 w2 ow1 L ((s1.useG (pathG s1.ups t.grp)).holdL (s1.useG (pathG s1.ups t.grp)).ids) (w7.putObj (w2.heap.size + 2) (.deferred none)) :=
          ⟨ow3, HA.out.fr hfr (fun k hk => by subst hk; exact ⟨hD3, by omega⟩), (G3.out.trans HB.out (fun _ _ h => h)).trans hfr (fun i hi e => by omega), fun k hk => (HC3.out k hk).imp id (fun h => by omega)⟩
        exact SysTo.trans (fun k hk => .inl hk) (Fr.of_below Hb0.out) (SysTo.trans HS1.out HF1.out hT2)
      case stop => exact fun r e j x W' hx h => h.elim
  · have HC := Lib.hid (fun (W : World) (hW : Below w.heap.size w W) => YCore_none (h.below hW) hc)
    have e1 : s.run c = (s, 0, 2) := by unfold SysS.run; rw [if_neg hc]
    rw [e1]
    have Hb0 := Lib.hid hb0
    clear h hk hc e1 hb0
    refine (callsIn_wide (n := 0)).1 (callsIn_of_wp_marks Tryz.func26 rfl trivial ?_ rfl)
    simp only [ Tryz.ntmps26, List.size_toArray, List.length_cons, List.length_nil, Nat.reduceAdd, Nat.reduceSub, Array.replicate_succ, Array.replicate_zero, List.push_toArray, List.append_toArray, List.nil_append, List.cons_append]
    refine wpIn_wide.2 ?_
    go_wp2_with (first
      | (go_at_call 14; refine (HC.out _ Hb0.out).mono ?_; rintro e w1 ⟨rfl, rfl⟩))
    exact ⟨_, results_tmp2 rfl _ _ _, rfl, H.out.same Hb0.out⟩
end
end Go.Proofs.YtlgkkolgdjgclaaGreat
/- What stays true of the plain model: the calls. -/
namespace Go.Proofs.YtlgkkolgdjgclaaGreat
open Go.RowKit
set_option linter.unusedVariables false
set_option linter.unusedSimpArgs false

section
variable {T : Nat} {s : SysS}
theorem SysOk.new {tags : List Int} (h : newGood tags) : SysOk 0 (SysS.new tags) := by
  obtain ⟨h1, h2, h3⟩ := h
  have hslo : ∀ (i : Nat) (x : Slo), (List.replicate 64 (⟨0, none⟩ : Slo))[i]? = some x → x = ⟨0, none⟩ := fun i x hx => (List.mem_replicate.1 (List.mem_of_getElem? hx)).2
  refine ⟨by simp [SysS.new]; omega, by simp [SysS.new]; omega, fun c hc => ?_, by simp [SysS.new], by simp [SysS.new], fun p hp => ?_, by simp [SysS.new], fun x hx => ?_, fun i n t hi => ?_, fun i c hc x hx => ?_, fun id t ht => ?_⟩
  · obtain ⟨t, ht, rfl⟩ := List.mem_map.1 hc
    exact ⟨h3 t ht, NearQ.new, by simp, by simp, fun id => by simp, by simp⟩
  · simp only [SysS.new, List.mem_singleton] at hp
    subst hp; decide
  · simp only [SysS.new] at hx
    rw [(List.mem_replicate.1 hx).2]; simp
  · have := hslo i _ hi
    simp at this
  · simp only [SysS.new, List.getElem?_map] at hc
    cases hq : tags[i]? with
    | none => rw [hq] at hc; simp at hc
    | some t => rw [hq] at hc; simp at hc; subst hc; simp at hx
  · rw [SysS.new_find] at ht; cases ht
theorem hasM_good {m : Int} {n : Nat} {d : Int} (hg : goodM m n = true) (hh : hasM m d = true) : 0 ≤ d ∧ d < n := hasM_lt hg hh
theorem SysOk.start (h : SysOk T s) (hT : T ≤ 10000000) (id : Int) : SysOk (T + 2) (s.start id).1 := by
  unfold SysS.start
  cases hf : s.find id with
  | none => exact h.mono (by omega)
  | some t =>
    simp only
    obtain ⟨k0, hid, -⟩ := h.tk hf
    subst hid
    split
    · rename_i hs
      obtain ⟨a, b, -⟩ := h.least k0.m16 k0.mask
      exact h.enterT (u := { t with core := s.least t.mask }) hT hf (by omega) rfl rfl rfl rfl rfl ⟨a, b⟩ false
    · exact h.mono (by omega)
theorem SysOk.wake (h : SysOk T s) (hT : T ≤ 10000000) (id : Int) : SysOk (T + 2) (s.wake id).1 := by
  unfold SysS.wake
  cases hf : s.find id with
  | none => exact h.mono (by omega)
  | some t =>
    simp only
    obtain ⟨k0, hid, -⟩ := h.tk hf
    subst hid
    split
    · rename_i hs
      obtain ⟨a, b, -⟩ := h.least k0.m16 k0.mask
      have hc := k0.old (by omega)
      refine h.enterT (u := { t with core := s.wakeC t }) hT hf (by omega) rfl rfl rfl rfl rfl ?_ false
      show 0 ≤ s.wakeC t ∧ s.wakeC t < s.cores.length
      unfold SysS.wakeC
      split
      · exact hc
      · exact ⟨a, b⟩
    · exact h.mono (by omega)
theorem SysOk.sleep (h : SysOk T s) (hT : T ≤ 10000000) (id : Int) : SysOk (T + 2) (s.sleep id).1 := by
  unfold SysS.sleep
  cases hf : s.find id with
  | none => exact h.mono (by omega)
  | some t =>
    simp only
    obtain ⟨k0, hid, -⟩ := h.tk hf
    subst hid
    split
    · rename_i hs
      exact h.leaveSt hT hf (.inl rfl) (by omega)
    · exact h.mono (by omega)
/-- A task goes to another core. -/
theorem SysOk.putT (h : SysOk T s) (hT : T ≤ 9000000) {t : Tk} (ht : s.find t.id = some t) (hon : SysS.onT t) {d : Int} (hd : 0 ≤ d ∧ d < s.cores.length) : SysOk (T + 4) (s.putT t d) := by
  obtain ⟨k0, -, -⟩ := h.tk ht
  unfold SysS.putT
  split
  · exact h.mono (by omega)
  · rename_i hcd
    split
    · rename_i h5
      exact (h.setT (t' := { t with core := d }) ht rfl ⟨k0.w, k0.grp, k0.mask, k0.m16, k0.st, k0.lag, fun e => by simp only at e; omega, fun _ => hd⟩ Iff.rfl (fun e => by omega)).mono (by omega)
    · rename_i h5
      have h2 : t.st = 2 := by rcases hon with e | e; exact e; exact absurd e h5
      have h1 := h.leaveSt (by omega) ht (st := 5) (.inr rfl) (by omega)
      have hlf := SysS.leaveT_find ht t.id
      rw [if_pos rfl] at hlf
      have hli := SysS.leaveT_id s t
      have hl := h.lag_ok (by omega) ht h2
      have he : (s.leaveT t).2 = { t with lag := (leaveR (s.core t.core).q t.id).2.1 } := by unfold SysS.leaveT; rw [if_pos h2]
      have hcl : (s.leaveT t).1.cores.length = s.cores.length := by unfold SysS.leaveT; rw [if_pos h2]; simp [SysS.setT, SysS.setC]
      obtain ⟨c, hc, hce⟩ : ∃ c, (s.leaveT t).1.cores[d.toNat]? = some c ∧ (s.leaveT t).1.core d = c := by
        refine ⟨_, List.getElem?_eq_getElem (by rw [hcl]; omega), ?_⟩
        unfold SysS.core
        rw [List.getD_eq_getElem?_getD, List.getElem?_eq_getElem (by rw [hcl]; omega)]; rfl
      generalize hs2 : (s.leaveT t).1 = s2 at *
      generalize ht2 : (s.leaveT t).2 = t2 at *
      have hf3 : (s2.setT { t2 with st := 5 }).find t2.id = some { t2 with st := 5 } := by
        rw [SysS.find_setT (t := t2) (t' := { t2 with st := 5 }) (by rw [hli]; exact hlf) rfl, if_pos rfl]
      obtain ⟨k2, -, -⟩ := h1.tk hf3
      rw [hce]
      have h6 := h1.enter (t := { t2 with st := 5 }) (t' := { t2 with core := d, st := 2 }) (by omega) hf3 (by simp) rfl ⟨k2.w, k2.grp, k2.mask, k2.m16, .inr (.inl rfl), k2.lag, fun e => by simp at e, fun _ => by rw [show (s2.setT { t2 with st := 5 }).cores.length = s2.cores.length from rfl, hcl]; exact hd⟩ rfl (i := d.toNat) (show d = (d.toNat : Int) by omega) (c := c) hc (lag := t2.lag) (by rw [he]; exact hl) true
      have e7 : ((s2.setT { t2 with st := 5 }).setC d.toNat (c.enter t2.id t2.w t2.lag true)).setT { t2 with core := d, st := 2 } = ((s2.setC d.toNat (c.enter t2.id t2.w t2.lag true)).setT { t2 with st := 5 }).setT { t2 with core := d, st := 2 } := rfl
      have e8 : ({ t2 with core := d, st := 2 } : Tk) = { t2 with core := d } := by rw [he, h2]
      have h7 : SysOk (T + 4) (((s2.setT { t2 with st := 5 }).setC d.toNat (c.enter t2.id t2.w t2.lag true)).setT { t2 with core := d, st := 2 }) := h6
      rw [e7, SysS.setT_setT (a := { t2 with st := 5 }) (b := { t2 with core := d, st := 2 }) rfl, e8] at h7
      have e9 : c.enter t.id t.w t2.lag true = c.enter t2.id t2.w t2.lag true := by rw [he]
      rw [e9]
      exact h7
theorem SysOk.move (h : SysOk T s) (hT : T ≤ 9000000) (id d : Int) : SysOk (T + 4) (s.move id d).1 := by
  unfold SysS.move
  cases hf : s.find id with
  | none => exact h.mono (by omega)
  | some t =>
    simp only
    obtain ⟨k0, hid, -⟩ := h.tk hf
    subst hid
    split
    · rename_i hon
      split
      · rename_i hm; exact h.putT hT hf hon (hasM_good k0.mask hm)
      · exact h.mono (by omega)
    · exact h.mono (by omega)
theorem SysOk.run (h : SysOk T s) (hT : T ≤ 8000000) (c : Int) : SysOk (T + 130) (s.run c).1 := by
  unfold SysS.run
  split
  · rename_i hc
    simp only
    obtain ⟨d, hd, hde, -⟩ := h.core hc
    have h1 := h.run1 (by omega) hd
    rw [hde]
    cases hf : s.find d.run.2.1 with
    | none => exact h1.mono (by omega)
    | some t =>
      simp only
      have h2 := h1.useG (pathG s.ups t.grp) (fun g hg => by
        have h3 := pathF_mem _ _ _ hg
        have h4 : s.ups.length = s.grps.length := by unfold SysS.ups; rw [List.length_map]
        have := h.g16; omega)
      have h64 := h2.all64
      have h5 := h2.holdL ((s.setC c.toNat d.run.1).useG (pathG s.ups t.grp)).ids (by rw [ids_len]; omega)
      exact h5.mono (by rw [ids_len]; omega)
  · exact h.mono (by omega)
end
end Go.Proofs.YtlgkkolgdjgclaaGreat
/- What stays true of the plain model: who comes and goes. -/
namespace Go.Proofs.YtlgkkolgdjgclaaGreat
open Go.RowKit
set_option linter.unusedVariables false
set_option linter.unusedSimpArgs false

section
variable {T : Nat} {s : SysS}
theorem SysOk.delT (h : SysOk T s) {t : Tk} (ht : s.find t.id = some t) (hs : t.st ≠ 2) : SysOk T (s.delT t.id) := by
  obtain ⟨h0, -, m, hsl⟩ := SysS.find_slot ht
  have hslot : ∀ (i : Nat) (n : Int) (u : Tk), (s.delT t.id).slots[i]? = some ⟨n, some u⟩ → s.slots[i]? = some ⟨n, some u⟩ := fun i n u hi => by
    simp only [SysS.delT, List.getElem?_modify] at hi
    cases hq : s.slots[i]? with
    | none => rw [hq] at hi; simp at hi
    | some y =>
      rw [hq] at hi
      simp only [Option.map_eq_map, Option.map_some, Option.some.injEq] at hi
      split at hi
      · simp at hi
      · rw [hi]
  refine ⟨h.c1, h.c16, h.cor, h.g1, h.g16, h.acc, by simp [SysS.delT]; exact h.s64, fun x hx => ?_, fun i n u hu => ?_, fun i c hc x hx => ?_, fun id u hu hs2 => ?_⟩
  · obtain ⟨j, hj⟩ := List.getElem?_of_mem hx
    simp only [SysS.delT, List.getElem?_modify] at hj
    cases hq : s.slots[j]? with
    | none => rw [hq] at hj; simp at hj
    | some y =>
      have := h.turn y (List.mem_of_getElem? hq)
      rw [hq] at hj
      simp only [Option.map_eq_map, Option.map_some, Option.some.injEq] at hj
      have e : x.turn = y.turn := by subst hj; split <;> rfl
      rw [e]; omega
  · obtain ⟨a, b, d⟩ := h.slot i n u (hslot i n u hu)
    exact ⟨a, b, d.congr rfl rfl⟩
  · obtain ⟨u, q1, q2, q3, q4⟩ := h.rdy i c hc x hx
    rw [SysS.find_delT ht]
    by_cases e : x.id = t.id
    · rw [e, ht] at q1
      simp only [Option.some.injEq] at q1
      subst q1
      exact absurd q2 hs
    · rw [if_neg e]; exact ⟨u, q1, q2, q3, q4⟩
  · rw [SysS.find_delT ht] at hu
    split at hu
    · cases hu
    · exact h.rdq id u hu hs2
theorem SysS.setT_delT (s : SysS) (t : Tk) : (s.setT t).delT t.id = s.delT t.id := by
  unfold SysS.setT SysS.delT
  simp only [SysS.mk.injEq, true_and]
  refine List.ext_getElem? fun k => ?_
  simp only [List.getElem?_modify]
  by_cases e : (t.id % 64).toNat = k
  · subst e
    cases s.slots[(t.id % 64).toNat]? <;> simp
  · simp [e]
theorem SysOk.endT (h : SysOk T s) (hT : T ≤ 10000000) (id : Int) : SysOk (T + 2) (s.endT id).1 := by
  unfold SysS.endT
  cases hf : s.find id with
  | none => exact h.mono (by omega)
  | some t =>
    simp only
    obtain ⟨k0, hid, -⟩ := h.tk hf
    subst hid
    by_cases h2 : t.st = 2
    · have h1 := h.leaveSt hT hf (st := 5) (.inr rfl) (by omega)
      have hlf := SysS.leaveT_find hf t.id
      rw [if_pos rfl] at hlf
      have hli := SysS.leaveT_id s t
      generalize (s.leaveT t).1 = s2 at *
      generalize (s.leaveT t).2 = t2 at *
      have hf3 : (s2.setT { t2 with st := 5 }).find t2.id = some { t2 with st := 5 } := by
        rw [SysS.find_setT (t := t2) (t' := { t2 with st := 5 }) (by rw [hli]; exact hlf) rfl, if_pos rfl]
      have h4 := h1.delT (t := { t2 with st := 5 }) hf3 (by simp)
      have h5 : (s2.setT { t2 with st := 5 }).delT t2.id = s2.delT t2.id := SysS.setT_delT s2 { t2 with st := 5 }
      rw [← hli, ← h5]
      exact h4
    · have e : s.leaveT t = (s, t) := by unfold SysS.leaveT; rw [if_neg h2]
      rw [e]
      exact (h.delT hf h2).mono (by omega)
theorem SysOk.putS (h : SysOk T s) {i : Nat} {n : Int} {t : Tk} (hs : s.slots[i]? = some ⟨n, none⟩) (hid : t.id = i + 64 * n) (hok : TkOk s t) (hst : t.st = 1) : SysOk (T + 1) (s.putS i t) := by
  have h64 : i < 64 := by have := (List.getElem?_eq_some_iff.1 hs).1; rw [h.s64] at this; exact this
  have hn := h.turn _ (List.mem_of_getElem? hs)
  simp only at hn
  have hnf : s.find t.id = none := by
    unfold SysS.find
    split
    · rfl
    · rw [show (t.id % 64).toNat = i by omega, hs]
  have hfd := SysS.find_putS hs h64 hid hn.1
  refine ⟨h.c1, h.c16, fun c hc => (h.cor c hc).mono (by omega), h.g1, h.g16, h.acc, by simp [SysS.putS]; exact h.s64, fun x hx => ?_, fun j m u hu => ?_, fun j c hc x hx => ?_, fun id u hu hs2 => ?_⟩
  · obtain ⟨j, hj⟩ := List.getElem?_of_mem hx
    simp only [SysS.putS, List.getElem?_modify] at hj
    cases hq : s.slots[j]? with
    | none => rw [hq] at hj; simp at hj
    | some y =>
      have := h.turn y (List.mem_of_getElem? hq)
      rw [hq] at hj
      simp only [Option.map_eq_map, Option.map_some, Option.some.injEq] at hj
      subst hj
      split
      · simp only; omega
      · omega
  · simp only [SysS.putS, List.getElem?_modify] at hu
    by_cases e : i = j
    · subst e
      rw [hs] at hu
      simp at hu
      obtain ⟨rfl, rfl⟩ := hu
      exact ⟨by rw [hid]; omega, by omega, hok.congr rfl rfl⟩
    · simp [e] at hu
      obtain ⟨a, b, d⟩ := h.slot j m u hu
      exact ⟨a, b, d.congr rfl rfl⟩
  · obtain ⟨u, q1, q2, q3, q4⟩ := h.rdy j c hc x hx
    rw [hfd]
    by_cases e : x.id = t.id
    · rw [e, hnf] at q1; cases q1
    · rw [if_neg e]; exact ⟨u, q1, q2, q3, q4⟩
  · rw [hfd] at hu
    split at hu
    · simp only [Option.some.injEq] at hu
      subst hu; omega
    · exact h.rdq id u hu hs2
theorem SysS.spawn_is {s : SysS} {x m g : Int} {i : Nat} {n : Int} (hfi : s.slots.findIdx? (fun x => x.task.isNone) = some i) (hsl : s.slots[i]? = some ⟨n, none⟩) (hx : 1 ≤ x ∧ x ≤ 20) (hg : goodM m s.cores.length = true) (hh : hasG s.ups g = true) :
    s.spawn x m g = (s.putS i ⟨i + 64 * n, x, g, -1, 1, m, 0⟩, i + 64 * n, 0) := by
  unfold SysS.spawn
  rw [if_pos hx, if_pos hg, if_pos hh, hfi]
  have e1 : (s.slots.getD i ⟨0, none⟩).turn = n := by rw [List.getD_eq_getElem?_getD, hsl]; rfl
  simp only [e1, Prod.mk.injEq, and_true]
  unfold SysS.putS
  simp only [SysS.mk.injEq, true_and]
  refine List.ext_getElem? fun k => ?_
  simp only [List.getElem?_modify]
  by_cases e : i = k
  · subst e; simp [hsl]
  · simp [e]
theorem free_slot (s : SysS) (i : Nat) (h : s.slots.findIdx? (fun x => x.task.isNone) = some i) : ∃ n, s.slots[i]? = some ⟨n, none⟩ := by
  obtain ⟨h1, h2, -⟩ := List.findIdx?_eq_some_iff_getElem.1 h
  refine ⟨(s.slots[i]).turn, ?_⟩
  rw [List.getElem?_eq_getElem h1]
  cases hx : s.slots[i] with
  | mk n t =>
    rw [hx] at h2
    cases t with
    | none => rfl
    | some u => simp at h2
theorem SysOk.spawn (h : SysOk T s) (x m g : Int) (hm : 0 ≤ m ∧ m < 65536) : SysOk (T + 1) (s.spawn x m g).1 := by
  by_cases hx : 1 ≤ x ∧ x ≤ 20
  · by_cases hg : goodM m s.cores.length = true
    · by_cases hh : hasG s.ups g = true
      · cases hfi : s.slots.findIdx? (fun x => x.task.isNone) with
        | none =>
          have : s.spawn x m g = (s, 0, 3) := by unfold SysS.spawn; rw [if_pos hx, if_pos hg, if_pos hh, hfi]
          rw [this]; exact h.mono (by omega)
        | some i =>
          obtain ⟨n, hsl⟩ := free_slot s i hfi
          rw [SysS.spawn_is hfi hsl hx hg hh]
          exact h.putS hsl rfl ⟨hx, hh, hg, hm, .inl rfl, by simp only; omega, fun _ => ⟨rfl, rfl⟩, fun e => absurd rfl e⟩ rfl
      · have : s.spawn x m g = (s, 0, 2) := by unfold SysS.spawn; rw [if_pos hx, if_pos hg, if_neg hh]
        rw [this]; exact h.mono (by omega)
    · have : s.spawn x m g = (s, 0, 5) := by unfold SysS.spawn; rw [if_pos hx, if_neg hg]
      rw [this]; exact h.mono (by omega)
  · have : s.spawn x m g = (s, 0, 1) := by unfold SysS.spawn; rw [if_neg hx]
    rw [this]; exact h.mono (by omega)
end
end Go.Proofs.YtlgkkolgdjgclaaGreat
/- Law 23's awake. -/
namespace Go.Proofs.YtlgkkolgdjgclaaGreat
open Go.RowKit Go.Shelf
set_option linter.unusedVariables false
set_option linter.unusedSimpArgs false

theorem of0 : ofM [0] = 1 := by decide
theorem good0 : newGood [0] := ⟨by decide, by decide, fun t ht => by simp at ht; subst ht; exact .inl rfl⟩
/-- The system that awake makes. -/
def aw0 : SysS := SysS.new [0]
def aw1 : SysS := (aw0.spawn 1 1 0).1
def aw2 : SysS := (aw1.start 0).1
theorem aw_spawn : (aw0.spawn 1 1 0).2 = (0, 0) := by kernel_rfl
theorem aw_start : (aw1.start 0).2 = 0 := by kernel_rfl
theorem aw_run : (aw2.run 0).2 = (0, 0) := by kernel_rfl
theorem aw_find : aw2.find 0 = some ⟨0, 1, 0, 0, 2, 1, 0⟩ := by kernel_rfl
theorem aw_core : (aw2.core 0).run.2 = (0, 0) := by kernel_rfl
def aw3 : SysS := (aw2.setC 0 (aw2.core 0).run.1).useG (pathG aw2.ups 0)
theorem aw_ids : aw3.ids = [0] := by
  unfold SysS.ids
  rw [show aw3.all = [⟨0, 1, 0, 0, 2, 1, 0⟩] from by kernel_rfl]
  simp
theorem aw_run_is : (aw2.run 0).1 = aw3.holdL aw3.ids := by
  unfold SysS.run
  rw [if_pos (by decide)]
  simp only
  rw [show (aw2.core 0).run.2.1 = 0 from by kernel_rfl, aw_find]
  rfl
theorem aw_served : ((aw2.run 0).1).served 0 = 1 := by
  rw [aw_run_is, aw_ids]
  kernel_rfl
theorem aw_ok0 : SysOk 0 aw0 := SysOk.new good0
theorem aw_ok1 : SysOk 1 aw1 := aw_ok0.spawn 1 1 0 (by decide)
theorem aw_ok2 : SysOk 3 aw2 := aw_ok1.start (by decide) 0
theorem aw_ok3 : SysOk 133 (aw2.run 0).1 := aw_ok2.run (by decide) 0
theorem sl1 (w : World) (x : Int) (T : TypeId) : Sl int1 1 (w.alloc (.cells #[.int .i64 x] T)) (some ⟨w.heap.size, 0, none⟩) [x] := fun _ => by
  refine ⟨w.heap.size, 0, rfl, by simp, fun j y hj i u hi => ?_⟩
  have hj0 : j = 0 := by have := (List.getElem?_eq_some_iff.1 hj).1; simp at this; omega
  subst hj0
  simp at hj
  subst hj
  have hi0 : i = 0 := by have := (List.getElem?_eq_some_iff.1 hi).1; simp [int1] at this; omega
  subst hi0
  simp [int1] at hi
  subst hi
  exact (blk1 (heap_new w (.cells #[.int .i64 x] T))).1
end Go.Proofs.YtlgkkolgdjgclaaGreat
