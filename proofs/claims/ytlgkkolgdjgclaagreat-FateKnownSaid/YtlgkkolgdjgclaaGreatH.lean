/- slices.SortFunc at points, and Put. -/
import Derived.Test.YtlgkkolgdjgclaaGreatG
import Derived.Test.YtlgkkolgdjgclaaGreatS
import Derived.Deep.AppendLies
namespace Go.Proofs.YtlgkkolgdjgclaaGreat
open Go.Shelf Go.RowKit Go.Lib Go.Sort
set_option linter.unusedVariables false
set_option linter.unusedSimpArgs false
instance : Inhabited Pt := ⟨⟨0, 0, 0, 0⟩⟩

/-- A point put into those that stand by their ids. -/
def insP (x : Pt) : List Pt → List Pt
  | [] => [x]
  | y :: t => if x.id < y.id then x :: y :: t else y :: insP x t
theorem insP_perm (x : Pt) : ∀ l : List Pt, (insP x l).Perm (l ++ [x])
  | [] => .refl _
  | y :: t => by
    unfold insP
    split
    · exact (List.perm_append_comm (l₁ := [x]) (l₂ := y :: t))
    · exact (insP_perm x t).cons y
theorem insP_len (x : Pt) (l : List Pt) : (insP x l).length = l.length + 1 := by rw [(insP_perm x l).length_eq]; simp
theorem insP_mem {x y : Pt} {l : List Pt} : y ∈ insP x l ↔ y = x ∨ y ∈ l := by
  rw [(insP_perm x l).mem_iff]; simp [or_comm]
/-- Points by their ids. -/
def ById (l : List Pt) : Prop := l.Pairwise fun a b => a.id < b.id
theorem insP_sorted {x : Pt} : ∀ {l : List Pt}, ById l → (∀ y ∈ l, y.id ≠ x.id) → ById (insP x l)
  | [], _, _ => by simp [insP, ById]
  | y :: t, h, hn => by
    unfold insP
    have hy := hn y (by simp)
    obtain ⟨h1, h2⟩ := List.pairwise_cons.1 h
    split
    · rename_i hlt
      refine List.pairwise_cons.2 ⟨fun z hz => ?_, h⟩
      rcases List.mem_cons.1 hz with rfl | hz
      · exact hlt
      · have := h1 z hz; omega
    · rename_i hlt
      refine List.pairwise_cons.2 ⟨fun z hz => ?_, insP_sorted h2 fun z hz => hn z (by simp [hz])⟩
      rcases insP_mem.1 hz with rfl | hz
      · omega
      · exact h1 z hz
theorem sorted_is {x : Pt} {l l' : List Pt} (h : ById l) (hn : ∀ y ∈ l, y.id ≠ x.id) (hp : l'.Perm (l ++ [x])) (hs : l'.Pairwise fun a b => a.id ≤ b.id) : l' = insP x l := by
  have hI := insP_sorted h hn
  refine List.Perm.eq_of_pairwise (le := fun a b => a.id ≤ b.id) (fun a b ha hb h1 h2 => ?_) hs (hI.imp fun h => by omega) (hp.trans (insP_perm x l).symm)
  have ha' : a ∈ insP x l := (hp.trans (insP_perm x l).symm).mem_iff.1 ha
  have hid : a.id = b.id := by omega
  obtain ⟨i, hi, rfl⟩ := List.getElem_of_mem ha'
  obtain ⟨j, hj, rfl⟩ := List.getElem_of_mem hb
  have hg := List.pairwise_iff_getElem.1 hI
  rcases Nat.lt_trichotomy i j with h | rfl | h
  · have := hg i j hi hj h; omega
  · rfl
  · have := hg j i hj hi h; omega

def cfP (x y : Pt) : Int := cmpI x.id y.id
theorem ltP (x y : Pt) : ltOf cfP x y = decide (x.id < y.id) := by
  unfold ltOf cfP cmpI
  by_cases h1 : x.id < y.id
  · simp [h1]
  · by_cases h2 : y.id < x.id <;> simp [h1, h2]
theorem swoP : SWO (ltOf cfP) where
  irrefl x := by rw [ltP]; simp
  trans x y z h1 h2 := by rw [ltP] at *; simp at *; omega
  ntrans x y z h1 h2 := by rw [ltP] at *; simp at *; omega

set_option maxHeartbeats 800000 in
theorem put1_any (x y : Pt) (W : World) : Calls Tryz.prog 194 #[.agg #[.int .i64 x.id, .int .i64 x.w, .int .i64 x.v, .int .i64 x.day], .agg #[.int .i64 y.id, .int .i64 y.w, .int .i64 y.v, .int .i64 y.day]] W fun e w' =>
    e = .returned (.int .i64 (cfP x y)) ∧ ∃ q os', w' = grow (W.drewN q) os' := by
  unfold cfP
  go_enter Tryz.func194, Tryz.ntmps194
  go_wp2_with (go_at_call 91; refine (cmpint_any _ _ _).mono ?_; rintro e w' ⟨rfl, rfl⟩)
  go_ret
  exact ⟨rfl, 0, _, by rw [alloc_eq_grow, alloc_eq_grow, grow_grow]; rfl⟩
theorem layPt (blk off size : Nat) (w : World) : CmpLays Tryz.prog 194 #[] Pt.enc 4 cfP blk off size w := fun _ _ _ _ x y => put1_any x y _

theorem flatK_eq (l : List Pt) : flatK Pt.enc 4 l.toArray = (flat Pt.enc l).toArray := by
  have hs : (flat Pt.enc l).length = l.length * 4 := flat_length Pt.len l
  refine ext_get! (by simp [hs]) fun t ht => ?_
  have ht' : t < l.length * 4 := by simpa using ht
  rw [get_flatK _ _ _ t (by simpa using ht')]
  have hj : t / 4 < l.length := by omega
  have h1 : l[t / 4]? = some l[t / 4] := List.getElem?_eq_getElem hj
  have h2 : (l.toArray)[t / 4]! = l[t / 4] := by simp [getElem!_pos, hj]
  rw [h2]
  have hi : t % 4 < (Pt.enc l[t / 4]).length := by rw [Pt.len]; omega
  have h3 := flat_get Pt.len l (t / 4) _ h1 (t % 4) _ (List.getElem?_eq_getElem hi)
  rw [show t / 4 * 4 + t % 4 = t by omega] at h3
  have h4 : t < (flat Pt.enc l).length := by omega
  rw [List.getElem?_eq_getElem h4] at h3
  have h5 : t < (flat Pt.enc l).toArray.size := by simpa using h4
  rw [getElem!_pos (l[t / 4].enc) (t % 4) hi, getElem!_pos (flat Pt.enc l).toArray t h5, List.getElem_toArray]
  exact (Option.some.inj h3).symm

theorem own_holds {w : World} {B e g cap : Nat} {l : List Pt} (h : w.ownsRow B e 4 (.slice (some ⟨g, 0, none⟩) l.length cap) l.length (flat Pt.enc l)) : HoldsK Pt.enc 4 w g 0 l.toArray := by
  unfold HoldsK
  rw [flatK_eq]
  have hs : (flat Pt.enc l).length = l.length * 4 := flat_length Pt.len l
  intro j hj
  have hj' : j < (flat Pt.enc l).length := by simpa using hj
  refine ⟨?_, by rw [Nat.zero_add]; exact h.frozenAt j⟩
  rw [Nat.zero_add, h.cellAt j (by omega), List.getElem?_eq_getElem hj']
  simp [getElem!_pos, hj']

theorem own_put {w : World} {B e g cap : Nat} {l l' : List Pt} (h : w.ownsRow B e 4 (.slice (some ⟨g, 0, none⟩) l.length cap) l.length (flat Pt.enc l)) (hl : l'.length = l.length) (m : Nat) (os : Array Obj) :
    (sortWorldK Pt.enc 4 w g 0 m l'.toArray os).ownsRow B e 4 (.slice (some ⟨g, 0, none⟩) l.length cap) l.length (flat Pt.enc l') ∧ Fr (fun k => k = g) w (sortWorldK Pt.enc 4 w g 0 m l'.toArray os) := by
  have hs : (flat Pt.enc l').length = l'.length * 4 := flat_length Pt.len l'
  have hglt := h.lt g rfl
  have hheap : ∀ k, k < w.heap.size → (sortWorldK Pt.enc 4 w g 0 m l'.toArray os).heap[k]? = (w.heap.modify g (onCells (putCells id 0 (flat Pt.enc l').toArray)))[k]? := by
    intro k hk
    unfold sortWorldK putRowK
    rw [heap_grow_old _ _ (by simpa [putRow, mapBlock, Sort.ahead] using hk), flatK_eq]
    rfl
  constructor
  · refine ⟨by rw [hs, hl], ?_⟩
    rcases h.2 with ⟨hv, _⟩ | ⟨g', cap', cur, hv, hb, hg, h1, h2, h3, h4⟩
    · simp at hv
    · simp at hv
      obtain ⟨rfl, rfl⟩ := hv
      refine .inr ⟨g, cap, putCells id 0 (flat Pt.enc l').toArray cur, rfl, hb, ?_, h1, h2, by simp [putCells, h3], ?_⟩
      · rw [hheap g hglt.2, Array.getElem?_modify, if_pos rfl, hg]; rfl
      · apply List.ext_getElem?
        intro t
        rw [List.getElem?_take]
        by_cases ht : t < l.length * 4
        · rw [if_pos ht, Array.getElem?_toList, putCells, Array.getElem?_mapIdx]
          have hc : t < cur.size := by rw [h3]; have := Nat.mul_le_mul_right 4 h1; omega
          have hf : t < (flat Pt.enc l').length := by omega
          rw [Array.getElem?_eq_getElem hc, Option.map_some, if_pos ⟨Nat.zero_le _, by simp; omega⟩, List.getElem?_eq_getElem hf]
          simp [getElem!_pos, hf]
        · rw [if_neg ht, List.getElem?_eq_none (by omega)]
  · refine ⟨rfl, rfl, rfl, by simp [sortWorldK, putRowK, putRow, mapBlock, Sort.ahead], fun k hk hn => ?_⟩
    rw [hheap k hk, Array.getElem?_modify, if_neg (fun h => hn h.symm)]

theorem agPt (w : World) : (isAgg 248).run Tryz.prog w = .ok true w := Tryz.isAgg248 w
theorem szPt (w : World) : (Go.sizeOf 248).run Tryz.prog w = .ok 4 w := Tryz.sizeOf248 w

/-- slices.SortFunc at points, by their ids. -/
theorem sort_any {w : World} {B g cap : Nat} {l : List Pt} {x : Pt} (h : w.ownsRow B 248 4 (.slice (some ⟨g, 0, none⟩) (l ++ [x]).length cap) (l ++ [x]).length (flat Pt.enc (l ++ [x]))) (hl : l.length ≤ 64) (hs : ById l) (hn : ∀ y ∈ l, y.id ≠ x.id) :
    Calls Tryz.prog 193 #[.slice (some ⟨g, 0, none⟩) (l ++ [x]).length cap, .func (.func 194) #[] #[]] w fun e w' => e = .returned (.tuple #[]) ∧
      w'.ownsRow B 248 4 (.slice (some ⟨g, 0, none⟩) (l ++ [x]).length cap) (l ++ [x]).length (flat Pt.enc (insP x l)) ∧ Fr (fun k => k = g) w w' := by
  have eg : ∀ args w, (callFunc 194 args).run Tryz.prog w = .ok (.enter 194 args) w := enters_of Tryz.func194 (by kernel_rfl) rfl
  have hsz : ((l ++ [x]).toArray).size < 4611686018427387904 := by simp; omega
  have hcon := AnyQ.slices_SortFunc Tryz.sortPt 4 agPt szPt Pt.enc Pt.len (fun x v hv => by simp [Pt.enc] at hv; rcases hv with rfl | rfl | rfl | rfl <;> rfl) cfP swoP 194 #[] g 0 cap (l ++ [x]).toArray w eg (layPt g 0 _ w) (own_holds h) (h.lt g rfl).2 hsz
  change Calls Tryz.prog 193 _ _ _ at hcon
  rw [List.size_toArray] at hcon
  refine hcon.mono ?_
  rintro e w' ⟨rfl, d', n, os, hp, hso, rfl⟩
  obtain ⟨hp1, _, hp3⟩ := hp
  have e1 : d'.toList.length = (l ++ [x]).length := by simpa using hp1
  have e2 : d'.extract 0 (l ++ [x]).length = d' := by apply Array.extract_eq_self_of_le; rw [hp1]; simp
  have e3 : ((l ++ [x]).toArray).extract 0 (l ++ [x]).length = (l ++ [x]).toArray := by apply Array.extract_eq_self_of_le; simp
  rw [e2, e3] at hp3
  have hd : d'.toList = insP x l := by
    refine sorted_is hs hn (by simpa using hp3) (List.pairwise_iff_getElem.2 fun i j hi hj hij => ?_)
    have := hso i j (Nat.zero_le _) hij (by rw [← e1]; exact hj)
    rw [ltP] at this
    have hi' : i < d'.size := by simpa using hi
    have hj' : j < d'.size := by simpa using hj
    rw [getElem!_pos d' i hi', getElem!_pos d' j hj'] at this
    simp at this ⊢
    exact this
  have hdd : d' = (insP x l).toArray := by rw [← hd]
  have := own_put (l' := insP x l) h (by rw [← hd]; exact e1) n os
  rw [hdd]
  exact ⟨rfl, this.1, this.2⟩

set_option maxHeartbeats 1600000 in
theorem Put_err {w : World} {B b : Nat} {a : Option Addr} {c : Nat} {base cur : Int} {l : List Pt} (h : LineAt w B b a c base cur l) (hl : l.length ≤ 64) (id tw lag : Int) {r : Int} (hr : mayE l id tw lag = r) (hne : r ≠ 0) :
    Calls Tryz.prog 185 #[.pointer (some ⟨b, 0, none⟩), .int .i64 id, .int .i64 tw, .int .i64 lag] w fun e w' => e = .returned (.int .i64 r) ∧ Below w.heap.size w w' := by
  have Hm := Lib.hid (May_any h hl id tw lag)
  have Hr := Lib.hid hr
  clear h hr
  go_enter Tryz.func185, Tryz.ntmps185
  go_wp2_with (go_at_call 184; refine Hm.out.mono ?_; rw [Hr.out]; rintro e w1 ⟨rfl, hb1⟩)
  go_ret
  exact ⟨rfl, hb1⟩

def newP (base id tw lag : Int) : Pt := ⟨id, tw, base - lag, base - lag + 4 * step tw⟩
theorem mayE_zero {l : List Pt} {id tw lag : Int} (hl : l.length ≤ 64) (h : mayE l id tw lag = 0) : mayB id tw lag = true ∧ (∀ y ∈ l, y.id ≠ id) ∧ l.length < 64 := by
  unfold mayE at h
  split at h
  · rename_i h1
    split at h
    · simp at h
    · rename_i h2
      split at h
      · simp at h
      · rename_i h3
        refine ⟨h1, fun y hy e => h2 (List.any_eq_true.2 ⟨y, hy, by unfold isId; rw [e]; simp⟩), by omega⟩
  · simp at h

theorem infoPt2 : (Tryz.prog.info? 248).map (fun i => (i.zero, i.size, i.bytes)) = some (some (.agg #[.int .i64 0, .int .i64 0, .int .i64 0, .int .i64 0]), 4, 32) := by kernel_rfl

set_option maxHeartbeats 3200000 in
set_option maxRecDepth 100000 in
theorem Put_go {w : World} {B b : Nat} {a : Option Addr} {c : Nat} {base cur : Int} {l : List Pt} (h : LineAt w B b a c base cur l) (hl : l.length ≤ 64) (id tw lag : Int) (hr : mayE l id tw lag = 0) (hs : ById l)
    (hb1 : -2305843009213693952 ≤ base) (hb2 : base ≤ 4611686018427387904 - 1125899906842624) (x : Pt) (hx : newP base id tw lag = x) :
    Calls Tryz.prog 185 #[.pointer (some ⟨b, 0, none⟩), .int .i64 id, .int .i64 tw, .int .i64 lag] w fun e w' => e = .returned (.int .i64 0) ∧
      ∃ a' c', LineAt w' B b a' c' (growB base (insP x l)) cur (insP x l) ∧ (∀ k, foot b a' k → foot b a k ∨ w.heap.size ≤ k) ∧ Fr (foot b a) w w' := by
  obtain ⟨hm, hnid, hlt⟩ := mayE_zero hl hr
  obtain ⟨i1, i2, w1', w2', g1, g2⟩ := mayB_true hm
  obtain ⟨T, hT⟩ := h.blk
  obtain ⟨i0, hi0, hz0, hz1, hz2⟩ := info_parts infoPt2
  have Hm := Lib.hid (May_any h hl id tw lag)
  have Hr := Lib.hid hr
  have H0 := Lib.hid h
  have hsub : IntKind.i64.wrap (base - lag) = base - lag := IntWalk.i64_in _ (by omega)
  have Hx := Lib.hid hx
  generalize hn : l.length = n at hT hlt hl
  have Hn := Lib.hid hn
  have HT := Lib.hid hT
  clear h hr hm hT hx hn
  go_enter Tryz.func185, Tryz.ntmps185
  go_wp2_with (go_at_call 184; refine Hm.out.mono ?_; rw [Hr.out]; rintro e w1 ⟨rfl, hb1⟩; obtain ⟨c0, c1, c2, f0, f1, f2, hlt1⟩ := blk3 (heap_below HT.out hb1))
  refine wp_region_chain 44 [0, 0, 2, 6, 14, 0, 0, 0, 128, 384, 896, 0, 3968, 8160, 16352, 32736, 65534, 131071, 262143, 524287] [(0, none), (1, none), (2, none), (3, none), (4, none), (5, none), (6, none), (7, none), (8, none), (9, none), (10, none), (11, none), (12, none), (13, none), (14, some [0, 1, 2, 3, 4]), (15, some [0, 1, 2, 3, 4]), (16, some [0]), (17, none), (18, none), (19, some [])] (by kernel_rfl) (by kernel_rfl) (by rfl) ?_; simp only [chain, Obs, List.getElem?_toArray, List.getElem?_cons_zero, List.getElem?_cons_succ]
  go_wp2_with (first
    | (with_reducible refine And.intro (by first | with_reducible exact True.intro | with_reducible rfl | go_simp) ?_)
    | (go_at_call 151; refine (day_any _ _ _ _ _ w1' w2' (by omega) (by omega)).mono ?_; rintro e w2 ⟨rfl, hb2⟩; have hb3 := hb1.drew.trans (hb2.mono (by have := hb1.size; simp; omega)); obtain ⟨c0, c1, c2, f0, f1, f2, hlt2⟩ := blk3 (heap_below HT.out hb3); have HL2 := Lib.hid (H0.out.below hb3))
    | (at_builtin; refine wpList_append_lies _ (by rfl) _ _ _ (by rfl) B 248 i0 _ 4 32 Tryz.underlying187 hi0 hz0 hz1 hz2 rfl (by omega) (.slice a n c) n (flat Pt.enc l) (by rfl) (by have := HL2.out.row; rw [Hn.out] at this; exact this.alloc _) ⟨w2.heap.size, 0, none⟩ 1 1 (Pt.enc (newP base id tw lag)) (by rfl) (by rfl) (World.news_of_block (cs := #[.int .i64 id, .int .i64 tw, .int .i64 (base - lag), .int .i64 (base - lag + 4 * step tw)]) (t := 248) (fr := (0, 0)) (heap_at (by simp) _)) (by simp [Value.oneCell', Pt.enc]) (by omega) (by unfold maxLen; omega) (by omega) (by have := H0.out.hb; simp; omega) (w2.heap.size + 1) (by simp) ?_
       intro gg cap w3 hown3 hgrow hat hglt
       have hfr3 : Fr (fun q => (Value.slice a n c).ownBlock = some q) w2 w3 := ((Fr.refl _ w2).alloc _).trans (Fr.of_grown hgrow) (fun _ _ h => h)
       have hnb : (Value.slice a n c).ownBlock ≠ some b := by have := HL2.out.own_ne; rw [Hn.out] at this; exact this
       obtain ⟨c0, c1, c2, f0, f1, f2, hlt3⟩ := blk3 (heap_fr (heap_below HT.out hb3) hfr3 hnb)
       have hT3 := Lib.hid (heap_fr (heap_below HT.out hb3) hfr3 hnb)
       have hgb : gg ≠ b := (by rcases hat with h1 | h1; exact fun e => hnb (by rw [h1, e]); omega)
       have Hfr3 := Lib.hid hfr3
       have Hat := Lib.hid hat
       have Hown3 := Lib.hid hown3
       clear hat hgrow hown3 hfr3 hnb))
  refine NoPanic.normal ?_
  have hx2 : newP base id tw lag = x := Hx.out
  rw [hx2] at Hown3
  have hlen : (l ++ [x]).length = n + 1 := by simp [Hn.out]
  have hxid : x.id = id := by rw [← hx2]; rfl
  have hrow : (w3.setCell ⟨b, 2, none⟩ (.slice (some ⟨gg, 0, none⟩) (n + 1) cap)).ownsRow B 248 4 (.slice (some ⟨gg, 0, none⟩) (l ++ [x]).length cap) (l ++ [x]).length (flat Pt.enc (l ++ [x])) := by
    rw [hlen, flat_append, flat_one]
    exact own_set Hown3.out (by simpa [Value.ownBlock] using hgb)
  have hsort := sort_any hrow (by rw [Hn.out]; exact hl) hs (fun y hy => by rw [hxid]; exact hnid y hy)
  rw [hlen] at hsort
  have hTs := Lib.hid (heap_set hT3.out (.slice (some ⟨gg, 0, none⟩) (n + 1) cap) (i := 2))
  have Hsort := Lib.hid hsort
  have Hgb := Lib.hid hgb
  have Hnid := Lib.hid hnid
  clear hsort hrow hgb hnid
  go_wp2_with (first
    | (go_at_call 193; refine Hsort.out.mono ?_; rintro e w4 ⟨rfl, ho4, hf4⟩
       have hT4 := heap_fr hTs.out hf4 (fun e => Hgb.out e.symm)
       have hl4 : (insP x l).length = n + 1 := (by rw [insP_len, Hn.out])
       have hL4 := Lib.hid (LineAt.mk (B := B) (b := b) (a := some ⟨gg, 0, none⟩) (c := cap) (base := base) (cur := cur) (l := insP x l) H0.out.hb ⟨T, by rw [hl4]; exact hT4⟩ (by rw [hl4]; exact ho4) (fun p hp => by cases hp; exact Hgb.out))
       have hf4' := Lib.hid hf4
       clear hT4 ho4 hf4)
    | (go_at_call 192; refine (grow_any hL4.out (by rw [hl4]; omega)).mono ?_; rintro e w5 ⟨rfl, hL5, hf5⟩))
  go_ret
  have hfoot : ∀ k, (Value.slice a n c).ownBlock = some k → foot b a k := fun k hk => by
    cases a with
    | none => simp [Value.ownBlock] at hk
    | some p => simp [Value.ownBlock] at hk; exact .inr ⟨p, rfl, hk⟩
  have hs2 := hb3.size
  have hs3 := Hfr3.out.size
  have hgf : foot b a gg ∨ w.heap.size ≤ gg := by
    rcases Hat.out with h1 | h1
    · exact .inl (hfoot gg h1)
    · exact .inr (by omega)
  refine ⟨rfl, some ⟨gg, 0, none⟩, cap, hL5, ?_, ?_⟩
  · rintro k (rfl | ⟨p, hp, rfl⟩)
    · exact .inl (.inl rfl)
    · cases hp; exact hgf
  · have h1 : Fr (foot b a) w w3 := (Fr.of_below hb3).trans Hfr3.out (fun k _ hk => hfoot k hk)
    refine ((h1.setCell (p := ⟨b, 2, none⟩) (fun _ => .inl rfl) _).trans hf4'.out (fun k hk h => ?_)).trans hf5 (fun k hk h => .inl h)
    subst h
    rcases hgf with h | h
    · exact h
    · omega
end Go.Proofs.YtlgkkolgdjgclaaGreat
