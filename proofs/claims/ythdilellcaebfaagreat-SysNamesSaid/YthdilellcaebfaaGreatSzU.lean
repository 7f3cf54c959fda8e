/- The walk of SysNames. -/
import Derived.Test.YthdilellcaebfaaGreatSzT
namespace Go.Proofs.YthdilellcaebfaaGreat
open Go.RowKit Go.Shelf
set_option linter.unusedVariables false
set_option linter.unusedSimpArgs false

theorem endT_cores (s : SysS) (id : Int) : (s.endT id).1.cores.length = s.cores.length := by
  unfold SysS.endT
  split
  · rfl
  · simp only [SysS.delT, SysS.leaveT]
    split <;> simp [SysS.setC, SysS.setT]
theorem spawn_cores (s : SysS) (x m g : Int) : (s.spawn x m g).1.cores = s.cores := by
  unfold SysS.spawn
  split
  · split
    · split
      · split <;> rfl
      · rfl
    · rfl
  · rfl
set_option maxHeartbeats 6400000 in
set_option maxRecDepth 100000 in
theorem sysNames_walk (l : List Int) (n : Nat) (a : Option Addr) (c : Nat) (w : World) (hn : l.length = n) (hm : n ≤ maxLen) (hs : Sl int1 1 w a l) (hI : ∀ x ∈ l, I63 x) :
    Calls Tryz.prog 4 #[.slice a n c] w fun e w' => e = .returned (.bool true) ∧ Below w.heap.size w w' := by
  have HA := Lib.hid (fun (W : World) => awake23 W)
  have HN := Lib.hid (fun (a : Option Addr) (c : Nat) (W : World) (hs : Sl int1 1 W a [0]) => (YNew [0] 1 rfl a c W hs).mono (fun e w' h => h.resolve_right (fun h => h.1 good0)))
  have HO := Lib.hid (fun (a : Option Addr) (c : Nat) (W : World) (hs : Sl int1 1 W a [0]) => MOf [0] 1 rfl (by decide) a c W hs)
  rw [of0] at HO
  have Hn := Lib.hid hn
  have HS := Lib.hid hs
  have HI := Lib.hid hI
  have hmk : ∀ w, (Instr.makeMap 41 none).run Tryz.prog w = .ok (.map (some w.heap.size)) (w.alloc (.map #[] 0)) := fun w => run_makeMap _ w
  clear hn hs hI
  by_cases h120 : 120 < n
  · have hni : (120 : Int) < n := by omega
    go_enter Tryz.func4, Tryz.ntmps4
    go_wp2_with (first
      | (go_at_call 8; refine (HA.out _).mono ?_; rintro e w1 ⟨rfl, hb1⟩; have Hb1 := Lib.hid hb1; clear hb1))
    go_ret
    exact ⟨rfl, Hb1.out⟩
  · have hni : ¬ (120 : Int) < n := by omega
    go_enter Tryz.func4, Tryz.ntmps4
    go_wp2_with (first
      | (go_at_call 8; refine (HA.out _).mono ?_; rintro e w1 ⟨rfl, hb1⟩; have Hb1 := Lib.hid hb1; clear hb1)
      | (go_at_call 9; refine (HN.out _ _ _ (sl1 w1 0 _)).mono ?_; rintro e w2 ⟨-, ow, L, rfl, h2, hmn⟩
         have H2 := Lib.hid h2; have Hmn := Lib.hid hmn; clear h2 hmn))
    have hB1 := (Hb1.out.alloc Hb1.out.size (.cells #[.int .i64 0] 3)).trans (H2.out.old.mono (by have := Hb1.out.size; simp; omega))
    have HB := Lib.hid hB1
    have hmg : ow w2.heap.size = none := by
      rcases Option.eq_none_or_eq_some (ow w2.heap.size) with e | ⟨o, e⟩
      · exact e
      · have := (H2.out.lt _ _ e).2; omega
    clear hB1
    have h120 : n ≤ 120 := by omega
    go_loopw [6] (fun ix wr => ∃ (k : Nat) (ow' : Nat → Option Own) (L' : Lay) (s : SysS) (f : Int → Bool), k ≤ n ∧ ix = .int .i64 k ∧ L'.b = L.b ∧ L'.mn ≤ k ∧ SysIn (w1.alloc (.cells #[.int .i64 0] 3)) wr ow' L' s ∧ SysOk (2 * k) s ∧ s.cores.length = 1 ∧ Given s f ∧ MapB wr w2.heap.size k f ∧ ow' w2.heap.size = none ∧ Below w.heap.size w wr) (fun ix _ => n - (intOf ix).toNat)
    case atStart =>
      exact ⟨0, ow, L, SysS.new [0], fun _ => false, Nat.zero_le _, rfl, rfl, by rw [Hmn.out]; exact Nat.le_refl _, H2.out.below ((Below.refl _ _).alloc (Nat.le_refl _) _), SysOk.new good0, rfl, Given.new, MapB.made w2, hmg, HB.out.alloc HB.out.size _⟩
    case round =>
      obtain ⟨k, ow', L', s, f, hk, rfl, hLb, hmn, h, hok, hcl, hf, hmp, hmo, hb⟩ := hrel
      have hk0 : (0 : Int) ≤ k := by omega
      by_cases hlt : k < n
      · have hkn : (k : Int) < n := by omega
        obtain ⟨x, hx⟩ : ∃ x, l[k]? = some x := ⟨_, List.getElem?_eq_getElem (by rw [Hn.out]; exact hlt)⟩
        have hxI := HI.out x (List.mem_of_getElem? hx)
        obtain ⟨r, off, rfl, hr, hc⟩ := HS.out (by intro h0; rw [h0] at hx; simp at hx)
        have E0 := Lib.hid (show w.cell? ⟨r, off + k, none⟩ = some (.int .i64 x) by have := hc k x hx 0 _ rfl; simpa using this)
        have e0 := (hb.cell (p := ⟨r, off + k * 1 + 0, none⟩) hr).trans (hc k x hx 0 _ rfl)
        simp only [Nat.mul_one, Nat.add_zero] at e0
        have hgm : goodM 1 s.cores.length = true := by rw [hcl]; decide
        have HH := Lib.hid h
        have HOk := Lib.hid hok
        have HF := Lib.hid hf
        have HMp := Lib.hid hmp
        have HMo := Lib.hid hmo
        have HBw := Lib.hid hb
        have HLb := Lib.hid hLb
        have HLm := Lib.hid hmn
        have HCl := Lib.hid hcl
        have hmlt := hmp.lt
        by_cases hx0 : x < 0
        · have HSp := Lib.hid (fun (W : World) (hW : Below wr.heap.size wr W) => YSpawn (h.below hW) hok (by omega) 1 1 0 (by decide) (by omega))
          have hok1 := hok.spawn 1 1 0 (by decide)
          have hnm := spawn_names hok (by omega) hgm hf
          rw [hLb] at HSp
          rcases hnm with ⟨n1, n2, n3⟩ | ⟨n1, n2, n3, n4⟩
          · have HTs := Lib.hid (fun (W : World) (ow2 : Nat → Option Own) (L2 : Lay) (h2 : SysIn (w1.alloc (.cells #[.int .i64 0] 3)) W ow2 L2 s) => YTasks h2 hok (by omega))
            rw [n1, n2] at HSp
            rw [n3] at HTs
            generalize (s.spawn 1 1 0).2.1 = v at *
            clear h hok hf hmp hmo hb hLb hmn hcl hgm hok1 n1 n2 n3 hc hx hxI
            go_wp2_with (first
              | (go_at_call 15; refine (HO.out _ _ _ (sl1 wr 0 _)).mono ?_; rintro e w3 ⟨rfl, hb3⟩
                 have hb4 := (((Below.refl _ wr).alloc (Nat.le_refl _) (.cells #[.int .i64 0] 3)).trans (hb3.mono (by simp)))
                 have HSq := Lib.hid (HSp.out _ hb4)
                 have HB4 := Lib.hid hb4
                 clear hb3 hb4)
              | (go_at_call 10; refine HSq.out.mono ?_; rintro e w5 ⟨rfl, ow5, L5, hb5, hm5, h5, hf5, ho5⟩
                 have HTq := Lib.hid (HTs.out _ _ _ h5)
                 rw [hb5, HLb.out] at HTq
                 have H5 := Lib.hid h5; have Hf5 := Lib.hid hf5; have Ho5 := Lib.hid ho5; have Hb5 := Lib.hid hb5; have Hm5 := Lib.hid hm5
                 clear h5 hf5 ho5 hb5 hm5)
              | (go_at_call 16; refine HTq.out.mono ?_; rintro e w6 ⟨ta, tc, rfl, -, hb6⟩; have HB6 := Lib.hid hb6; clear hb6))
            have hs4 := HB4.out.size
            have hs5 := Hf5.out.size
            have hmo5 : ow5 w2.heap.size = none := by
              rcases Option.eq_none_or_eq_some (ow5 w2.heap.size) with e | ⟨o, e⟩
              · exact e
              · rcases Ho5.out w2.heap.size (by rw [e]; simp) with e2 | e2
                · exact absurd HMo.out e2
                · omega
            have hold := HH.out.old
            refine ⟨⟨k + 1, ow5, L5, s, f, hlt, by go_num, by rw [Hb5.out]; exact HLb.out, by have := Hm5.out; have := HLm.out; omega, H5.out.below HB6.out, HOk.out.mono (by omega), HCl.out, HF.out, ?_, hmo5, ?_⟩, by simp [intOf]; omega⟩
            · exact (((HMp.out.fr (F := fun _ => False) (Fr.of_below HB4.out) (fun h => h)).fr Hf5.out (fun h => h HMo.out)).fr (F := fun _ => False) (Fr.of_below HB6.out) (fun h => h)).mono (Nat.le_succ k)
            · have hh := (H5.out.below HB6.out).old
              exact (Hb1.out.alloc Hb1.out.size _).trans (hh.mono (by have := Hb1.out.size; simp; omega))
          · rw [n1] at HSp
            have hcl1 : (s.spawn 1 1 0).1.cores.length = 1 := by rw [spawn_cores]; exact hcl
            have HCl1 := Lib.hid hcl1
            generalize (s.spawn 1 1 0).2.1 = v at *
            generalize (s.spawn 1 1 0).1 = s2 at *
            have HN2 := Lib.hid n2
            have HN3 := Lib.hid n3
            have HN4 := Lib.hid n4
            have HOk1 := Lib.hid hok1
            clear h hok hf hmp hmo hb hLb hmn hcl hgm hok1 n1 n2 n3 n4 hc hx hxI hcl1
            go_wp2_with (first
              | (go_at_call 15; refine (HO.out _ _ _ (sl1 wr 0 _)).mono ?_; rintro e w3 ⟨rfl, hb3⟩
                 have hb4 := (((Below.refl _ wr).alloc (Nat.le_refl _) (.cells #[.int .i64 0] 3)).trans (hb3.mono (by simp)))
                 have HSq := Lib.hid (HSp.out _ hb4)
                 have HB4 := Lib.hid hb4
                 clear hb3 hb4)
              | (go_at_call 10; refine HSq.out.mono ?_; rintro e w5 ⟨rfl, ow5, L5, hb5, hm5, h5, hf5, ho5⟩
                 have HM5 := Lib.hid ((HMp.out.fr (F := fun _ => False) (Fr.of_below HB4.out) (fun h => h)).fr hf5 (fun h => h HMo.out))
                 have hlk := HM5.out.look HN3.out
                 rw [HN2.out] at hlk
                 have H5 := Lib.hid h5; have Hf5 := Lib.hid hf5; have Ho5 := Lib.hid ho5; have Hb5 := Lib.hid hb5; have Hm5 := Lib.hid hm5
                 clear h5 hf5 ho5 hb5 hm5)
              | (refine wpList_putB _ rfl _ _ _ rfl w2.heap.size k f rfl HM5.out (by unfold maxLen; omega) v true rfl rfl HN3.out ?_; intro w6 hm6 hf6; have HM6 := Lib.hid hm6; have Hf6 := Lib.hid hf6; clear hm6 hf6))
            have hs4 := HB4.out.size
            have hs5 := Hf5.out.size
            have hmo5 : ow5 w2.heap.size = none := by
              rcases Option.eq_none_or_eq_some (ow5 w2.heap.size) with e | ⟨o, e⟩
              · exact e
              · rcases Ho5.out w2.heap.size (by rw [e]; simp) with e2 | e2
                · exact absurd HMo.out e2
                · omega
            have h2s := H2.out.old.size
            have h6 := H5.out.fr Hf6.out (fun i hi => by subst hi; exact ⟨hmo5, h2s⟩)
            refine ⟨⟨k + 1, ow5, L5, s2, updB f v true, hlt, by go_num, by rw [Hb5.out]; exact HLb.out, by have := Hm5.out; have := HLm.out; omega, h6, HOk1.out.mono (by omega), HCl1.out, HN4.out, HM6.out, hmo5, ?_⟩, by simp [intOf]; omega⟩
            exact (Hb1.out.alloc Hb1.out.size _).trans (h6.old.mono (by have := Hb1.out.size; simp; omega))
        · have hx0' : ¬ x < 0 := hx0
          cases hfd : s.find x with
          | none =>
            have HT1 := Lib.hid (fun (W : World) (hW : Below wr.heap.size wr W) => YTask_none (h.below hW) hxI hfd)
            have HE := Lib.hid (fun (W : World) (hW : Below wr.heap.size wr W) => YEnd (h.below hW) hok (by omega) hxI)
            have HT2 := Lib.hid (fun (W : World) (ow2 : Nat → Option Own) (h2 : SysIn (w1.alloc (.cells #[.int .i64 0] 3)) W ow2 L' s) => YTask_none h2 hxI hfd)
            rw [show s.endT x = (s, 2) by unfold SysS.endT; rw [hfd]] at HE
            rw [hLb] at HT1 HE HT2
            simp only [noTask] at HT1 HT2
            clear h hok hf hmp hmo hb hLb hmn hcl hgm hc hx hxI hfd
            go_wp2_with (first
              | (go_at_call 13; refine (HT1.out _ (Below.refl _ _)).mono ?_; rintro e w3 ⟨rfl, hb3⟩
                 have e0 := (hb3.cell (p := ⟨r, off + k, none⟩) (show r < wr.heap.size by have := HBw.out.size; omega)).trans e0
                 have hs3 := hb3.size
                 have hr3 : r ≠ w3.heap.size := (by have := HBw.out.size; omega)
                 have hrl3 : r < w3.heap.size := (by have := HBw.out.size; omega)
                 have HB3 := Lib.hid hb3
                 clear HT1 hb3)
              | (go_at_call 17; refine (HE.out _ (HB3.out.trans (((Below.refl _ _).alloc (Nat.le_refl _) _).mono HB3.out.size))).mono ?_; rintro e w4 ⟨rfl, ow4, h4, hf4, ho4⟩
                 have hB4 : Below w.heap.size w w4 := (Hb1.out.alloc Hb1.out.size _).trans (h4.old.mono (by have := Hb1.out.size; simp; omega))
                 have e0 := (hB4.cell (p := ⟨r, off + k, none⟩) hr).trans E0.out
                 have hs4 := hB4.size
                 have hr4 : r ≠ w4.heap.size := (by omega)
                 have hrl4 : r < w4.heap.size := (by omega)
                 have hM4 : MapB w4 w2.heap.size k f := (HMp.out.fr (F := fun _ => False) (Fr.of_below (HB3.out.alloc HB3.out.size _)) (fun h => h)).fr hf4 (fun h => h HMo.out)
                 have hmo4 : ow4 w2.heap.size = none := (by
                   rcases Option.eq_none_or_eq_some (ow4 w2.heap.size) with e | ⟨o, e⟩
                   · exact e
                   · rcases ho4 w2.heap.size (by rw [e]; simp) with e2 | e2
                     · exact absurd HMo.out e2
                     · exact absurd e2 (by simp; omega))
                 have H4 := Lib.hid h4; have HB4 := Lib.hid hB4; have HM4 := Lib.hid hM4; have HMo4 := Lib.hid hmo4
                 clear h4 hf4 ho4 hM4 hmo4 hB4)
              | (go_at_call 13; refine (HT2.out _ _ H4.out).mono ?_; rintro e w5 ⟨rfl, hb5⟩
                 have hM5 : ∀ o, MapB (w5.alloc o) w2.heap.size k f := fun o => HM4.out.fr (F := fun _ => False) (Fr.of_below (hb5.alloc hb5.size o)) (fun h => h)
                 skip
                 have HB5 := Lib.hid hb5; have HM5 := Lib.hid hM5
                 clear hb5 hM5)
              )
            have HBz := fun o => H4.out.below (HB5.out.alloc HB5.out.size o)
            refine ⟨⟨k + 1, ow4, L', _, f, hlt, by go_num, HLb.out, by have := HLm.out; omega, HBz _, HOk.out.mono (by omega), HCl.out, HF.out, (HM5.out _).mono (Nat.le_succ k), HMo4.out, ?_⟩, by simp [intOf]; omega⟩
            exact (Hb1.out.alloc Hb1.out.size _).trans ((HBz _).old.mono (by have := Hb1.out.size; simp; omega))
          | some t =>
            obtain ⟨hx00, hid, -⟩ := SysS.find_slot hfd
            subst hid
            obtain ⟨n1, n2, n3⟩ := end_names hok hf hfd
            have hfx := hf.has _ _ hfd
            have HT1 := Lib.hid (fun (W : World) (hW : Below wr.heap.size wr W) => YTask_some (h.below hW) hok (by omega) hxI hfd)
            have HE := Lib.hid (fun (W : World) (hW : Below wr.heap.size wr W) => YEnd (h.below hW) hok (by omega) hxI)
            have HT2 := Lib.hid (fun (W : World) (ow2 : Nat → Option Own) (h2 : SysIn (w1.alloc (.cells #[.int .i64 0] 3)) W ow2 L' (s.endT t.id).1) => YTask_none h2 hxI n2)
            have HOk1 := Lib.hid (hok.endT (by omega) t.id)
            have HCl1 := Lib.hid ((endT_cores s t.id).trans hcl)
            have HF1 := Lib.hid n3
            rw [n1] at HE
            rw [hLb] at HT1 HE HT2
            simp only [noTask] at HT2
            generalize s.view t = u at HT1
            simp only [taskV, Tk.enc] at HT1
            generalize (s.endT t.id).1 = s2 at *
            generalize t.id = x at *
            have HxI := Lib.hid hxI
            have Hfx := Lib.hid hfx
            clear h hok hf hmp hmo hb hLb hmn hcl hgm hc hx hxI hfd n1 n2 n3 hfx
            go_wp2_with (first
              | (go_at_call 13; refine (HT1.out _ (Below.refl _ _)).mono ?_; rintro e w3 ⟨rfl, hb3⟩
                 have e0 := (hb3.cell (p := ⟨r, off + k, none⟩) (show r < wr.heap.size by have := HBw.out.size; omega)).trans e0
                 have hs3 := hb3.size
                 have hr3 : r ≠ w3.heap.size := (by have := HBw.out.size; omega)
                 have hrl3 : r < w3.heap.size := (by have := HBw.out.size; omega)
                 have HB3 := Lib.hid hb3
                 clear HT1 hb3)
              | (go_at_call 17; refine (HE.out _ (HB3.out.trans (((Below.refl _ _).alloc (Nat.le_refl _) _).mono HB3.out.size))).mono ?_; rintro e w4 ⟨rfl, ow4, h4, hf4, ho4⟩
                 have hB4 : Below w.heap.size w w4 := (Hb1.out.alloc Hb1.out.size _).trans (h4.old.mono (by have := Hb1.out.size; simp; omega))
                 have e0 := (hB4.cell (p := ⟨r, off + k, none⟩) hr).trans E0.out
                 have hs4 := hB4.size
                 have hr4 : r ≠ w4.heap.size := (by omega)
                 have hrl4 : r < w4.heap.size := (by omega)
                 have hM4 : MapB w4 w2.heap.size k f := (HMp.out.fr (F := fun _ => False) (Fr.of_below (HB3.out.alloc HB3.out.size _)) (fun h => h)).fr hf4 (fun h => h HMo.out)
                 have hmo4 : ow4 w2.heap.size = none := (by
                   rcases Option.eq_none_or_eq_some (ow4 w2.heap.size) with e | ⟨o, e⟩
                   · exact e
                   · rcases ho4 w2.heap.size (by rw [e]; simp) with e2 | e2
                     · exact absurd HMo.out e2
                     · exact absurd e2 (by simp; omega))
                 have H4 := Lib.hid h4; have HB4 := Lib.hid hB4; have HM4 := Lib.hid hM4; have HMo4 := Lib.hid hmo4
                 clear h4 hf4 ho4 hM4 hmo4 hB4)
              | (go_at_call 13; refine (HT2.out _ _ H4.out).mono ?_; rintro e w5 ⟨rfl, hb5⟩
                 have hM5 : ∀ o, MapB (w5.alloc o) w2.heap.size k f := fun o => HM4.out.fr (F := fun _ => False) (Fr.of_below (hb5.alloc hb5.size o)) (fun h => h)
                 (have hlk := fun o => (hM5 o).look HxI.out; simp only [Hfx.out] at hlk; have hB5 : Below w.heap.size w w5 := HB4.out.trans (hb5.mono HB4.out.size); have e0 := (hB5.cell (p := ⟨r, off + k, none⟩) hr).trans E0.out; have hs5 := hb5.size; have hr5 : r ≠ w5.heap.size := (by omega); have hrl5 : r < w5.heap.size := (by omega))
                 have HB5 := Lib.hid hb5; have HM5 := Lib.hid hM5
                 clear hb5 hM5)
              )
            have HBz := fun o => H4.out.below (HB5.out.alloc HB5.out.size o)
            refine ⟨⟨k + 1, ow4, L', _, f, hlt, by go_num, HLb.out, by have := HLm.out; omega, HBz _, HOk1.out.mono (by omega), HCl1.out, HF1.out, (HM5.out _).mono (Nat.le_succ k), HMo4.out, ?_⟩, by simp [intOf]; omega⟩
            exact (Hb1.out.alloc Hb1.out.size _).trans ((HBz _).old.mono (by have := Hb1.out.size; simp; omega))
      · obtain rfl : k = n := by omega
        have HBb := Lib.hid hb
        clear h hok hf hmp hb
        go_wp2_with fail
        go_ret
        exact ⟨rfl, HBb.out⟩
end Go.Proofs.YthdilellcaebfaaGreat
