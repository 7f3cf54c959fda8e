/- The law's functions of layer 11: awake. -/
import Derived.Test.YtadlcjacaachkaaDoorTstride
import Derived.Test.YtadlcjacaachkaaDoorArg
namespace Go.Proofs.YtadlcjacaachkaaDoor
open Go.RowKit
set_option linter.unusedVariables false
set_option linter.unusedSimpArgs false

def aw0 : Ln := ⟨0, -1, []⟩
def aw1 : Ln := enterR heldstride aw0 1 1 0
def aw : Nat → Ln
  | 0 => enterR heldstride aw1 2 2 0
  | k + 1 => (chargeR (pickstride (aw k)).1).1
def awWant : List Int := [1, 2, 2, 1, 2, 2]
theorem pick_ok {K : Int} {S : Ln} (h : OkS K S) : OkS K (pickstride S).1 := h.take _ fun x hx => least_mem hx
theorem aw_ok : ∀ k, OkS 2251799813685248 (aw k)
  | 0 => by
    have h0 : OkS 0 aw0 := OkS.new (by decide) (by decide)
    have h1 : OkS 1125899906842624 aw1 := h0.enter heldstride 1 1 0 (by decide)
    exact h1.enter heldstride 2 2 0 (by decide)
  | k + 1 => (pick_ok (aw_ok k)).charge
theorem aw_is : ∀ k, k < 6 → (pickstride (aw k)).2 = (awWant.getD k 0, true) ∧ (chargeR (pickstride (aw k)).1).2 = (awWant.getD k 0, 0) := by decide +kernel
theorem mk3 {a : Ln} {b : Int} {c : Bool} {p : Ln × Int × Bool} (h1 : p.1 = a) (h2 : p.2 = (b, c)) : p = (a, b, c) := by cases p; simp at h1 h2; simp [h1, h2]
theorem mk3i {a : Ln} {b c : Int} {p : Ln × Int × Int} (h1 : p.1 = a) (h2 : p.2 = (b, c)) : p = (a, b, c) := by cases p; simp at h1 h2; simp [h1, h2]

def awCells : Array Value := #[.int .i64 1, .int .i64 2, .int .i64 2, .int .i64 1, .int .i64 2, .int .i64 2]
theorem aw_cell : ∀ k, k < 6 → awCells[k]? = some (.int .i64 (awWant.getD k 0)) := by
  intro k hk
  match k, hk with
  | 0, _ => rfl
  | 1, _ => rfl
  | 2, _ => rfl
  | 3, _ => rfl
  | 4, _ => rfl
  | 5, _ => rfl
  | k + 6, h => omega
theorem cell_of_heap {w : World} {g i : Nat} {cs : Array Value} {T : TypeId} {fr : Nat × Nat} {v : Value} (h : w.heap[g]? = some (.cells cs T fr)) (hv : cs[i]? = some v) : w.cell? ⟨g, i, none⟩ = some v := by
  simp [World.cell?, h, hv]

set_option maxHeartbeats 1600000 in
set_option maxRecDepth 100000 in
theorem awake11 (w : World) : Calls Tryd.prog 21 #[] w fun e w' => e = .returned (.bool true) ∧ Below w.heap.size w w' := by
  have HN := Lib.hid (fun W => New_ok_stride 0 W (by decide))
  have k0 : OkS 0 aw0 := OkS.new (by decide) (by decide)
  have k1 : OkS 1125899906842624 aw1 := k0.enter heldstride 1 1 0 (by decide)
  have HE1 := Lib.hid (fun (W : World) (F : Nat → Prop) (b : Nat) (h : Qm W F b aw0) => Enter_stride h k0 (by decide) 1 1 0 (r := 0) (by decide +kernel))
  have HE2 := Lib.hid (fun (W : World) (F : Nat → Prop) (b : Nat) (h : Qm W F b aw1) => Enter_stride h k1 (by decide) 2 2 0 (r := 0) (by decide +kernel))
  clear k0 k1
  have hn := Nat.le_refl w.heap.size
  go_enter Tryd.func21, Tryd.ntmps21
  go_wp2_with (first
    | (go_at_call 22; refine (HN.out _).mono ?_; rintro e w1 ⟨b, F, rfl, hq, hF, hb⟩; have Hq := Lib.hid hq; have HF := Lib.hid hF; have Hb := Lib.hid hb; clear hq hF hb)
    | (go_at_call 26; first
      | ((with_reducible refine (HE1.out _ _ _ Hq.out).mono ?_); rintro e w2 ⟨rfl, F2, hq2, hs2, hf2⟩; have Hq2 := Lib.hid hq2; have HF2 := Lib.hid (fun k (hk : F2 k) => (hs2 k hk).elim (fun h => HF.out k h) (fun h => Nat.le_trans Hb.out.size h)); have Hb2 := Lib.hid (Hb.out.trans (hf2.below Hb.out.size fun k hk => HF.out k hk)); clear hq2 hs2 hf2)
      | ((with_reducible refine (HE2.out _ _ _ Hq2.out).mono ?_); rintro e w3 ⟨rfl, F3, hq3, hs3, hf3⟩; have Hq3 := Lib.hid hq3; have HF3 := Lib.hid (fun k (hk : F3 k) => (hs3 k hk).elim (fun h => HF2.out k h) (fun h => Nat.le_trans Hb2.out.size h)); have Hb3 := Lib.hid (Hb2.out.trans (hf3.below Hb2.out.size fun k hk => HF2.out k hk)); clear hq3 hs3 hf3)))
  go_loopw [4] (fun i wr => ∃ (k : Nat) (F : Nat → Prop), k ≤ 6 ∧ i = .int .i64 k ∧ Below w.heap.size w wr ∧ Qm wr F b (aw k) ∧ (∀ x, F x → w.heap.size ≤ x) ∧ ¬ F w3.heap.size ∧ wr.heap[w3.heap.size]? = some (.cells awCells 3 (0, 0))) (fun i _ => 6 - (intOf i).toNat)
  case atStart => exact ⟨0, F3, by omega, rfl, Hb3.out.alloc Hb3.out.size _, Hq3.out.below ((Below.refl _ _).alloc (Nat.le_refl _) _), HF3.out, fun h => by have := Hq3.out.lt _ h; omega, heap_new _ _⟩
  case round =>
    obtain ⟨k, F, hk, rfl, hbw, hq, hF, hnF, hW⟩ := hrel
    have hsz := hbw.size
    by_cases hlt : k < 6
    · obtain ⟨e1, e2⟩ := aw_is k hlt
      have hcell := cell_of_heap hW (aw_cell k hlt)
      have HP := Lib.hid (Pick_stride hq (aw_ok k) (mk3 rfl e1))
      have HC := Lib.hid (fun (W : World) (G : Nat → Prop) (h : Qm W G b (pickstride (aw k)).1) => Charge_stride h (pick_ok (aw_ok k)) (mk3i (a := aw (k + 1)) rfl e2))
      generalize hv : awWant.getD k 0 = v at hcell HP HC
      have hlt3 : w3.heap.size < wr.heap.size := (Array.getElem?_eq_some_iff.1 hW).1
      have HW := Lib.hid hW
      have HF := Lib.hid hF
      have HnF := Lib.hid hnF
      have hki : (k : Int) < 6 := by omega
      have HV := Lib.hid hv
      clear hv e1 e2 hW hq hF hnF
      go_wp2_with (first
        | (go_at_call 24; refine HP.out.mono ?_; rintro e w4 ⟨rfl, F4, hq4, hs4, hf4⟩; have h4 := heap_fr HW.out hf4 HnF.out; have H4 := Lib.hid h4; have Hq4 := Lib.hid hq4; have Hs4 := Lib.hid hs4; have Hf4 := Lib.hid hf4; clear h4 hq4 hs4 hf4)
        | (go_at_call 25; refine (HC.out _ _ Hq4.out).mono ?_; rintro e w5 ⟨rfl, F5, hq5, hs5, hf5⟩
           have hn4 : ¬ F4 w3.heap.size := fun h => (Hs4.out _ h).elim HnF.out (fun h => by omega)
           have h5 := heap_fr H4.out hf5 hn4
           have hcell5 := cell_of_heap h5 (aw_cell k hlt)
           rw [HV.out] at hcell5
           have H5 := Lib.hid h5; have Hq5 := Lib.hid hq5; have Hs5 := Lib.hid hs5; have Hf5 := Lib.hid hf5; have Hn4 := Lib.hid hn4; clear h5 hq5 hs5 hf5 hn4))
      have hb5 : Below w.heap.size w w5 := (hbw.trans (Hf4.out.below hsz fun k hk => HF.out k hk)).trans (Hf5.out.below (Nat.le_trans hsz Hf4.out.size) fun x hx => (Hs4.out x hx).elim (HF.out x) (fun h => by omega))
      refine ⟨⟨k + 1, F5, by omega, by go_num, hb5, Hq5.out, fun x hx => (Hs5.out x hx).elim (fun h => (Hs4.out x h).elim (HF.out x) (fun h => by omega)) (fun h => by have := Hf4.out.size; omega), fun h => (Hs5.out _ h).elim Hn4.out (fun h => by have := Hf4.out.size; omega), H5.out⟩, by simp [intOf]; omega⟩
    · go_wp2_with fail
      go_ret
      exact ⟨rfl, hbw⟩
end Go.Proofs.YtadlcjacaachkaaDoor
