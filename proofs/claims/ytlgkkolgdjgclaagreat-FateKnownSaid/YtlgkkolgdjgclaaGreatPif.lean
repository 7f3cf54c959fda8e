/- A policy's queue through its interface, whatever the tag. -/
import Derived.Test.YtlgkkolgdjgclaaGreatV
import Derived.Test.YtlgkkolgdjgclaaGreatTfair
import Derived.Test.YtlgkkolgdjgclaaGreatTdue
import Derived.Test.YtlgkkolgdjgclaaGreatSt
import Derived.Test.YtlgkkolgdjgclaaGreatstrideM
namespace Go.Proofs.YtlgkkolgdjgclaaGreat
open Go.RowKit
set_option linter.unusedVariables false
set_option linter.unusedSimpArgs false

def pickT (tag : Int) : Ln → Ln × Int × Bool := if tag = 0 then pickstride else if tag = 1 then pickfair else pickdue
section
variable {tag K : Int} {S : Ln} (ht : TagOk tag)
include ht
theorem pickok_T (h : OkS K S) : OkS K (pickT tag S).1 := by
  rcases ht with rfl | rfl | rfl
  · exact pickok_stride h
  · exact pickok_fair h
  · exact pickok_due h
theorem pickis_T (S : Ln) : ∃ c, (pickT tag S).1 = ⟨S.base, c, S.l⟩ := by
  rcases ht with rfl | rfl | rfl
  · exact pickis_stride S
  · exact pickis_fair S
  · exact pickis_due S
theorem room_T (h : OkS K S) (g : Lags S) : ∀ j x, at? (pickT tag S).1 (pickT tag S).1.cur = some (j, x) → x.v + step x.w ≤ (pickT tag S).1.base + 1000000000 := by
  rcases ht with rfl | rfl | rfl
  · exact room_stride h g
  · exact room_fair h g
  · exact room_due h g
theorem pickat_T (h : OkS K S) (hl : 0 < S.l.length) : ∃ j x, (pickT tag S).2 = (x.id, true) ∧ at? (pickT tag S).1 (pickT tag S).1.cur = some (j, x) := by
  rcases ht with rfl | rfl | rfl
  · exact pickat_stride h hl
  · exact pickat_fair h hl
  · exact pickat_due h hl
theorem heldmay_T {l : List Pt} {id tw lag : Int} (h : mayE l id tw lag = 0) (hl : l.length ≤ 64) : mayE l id tw (heldT tag lag) = 0 := by
  rcases ht with rfl | rfl | rfl
  · exact held_may_stride h hl
  · exact held_may_fair h hl
  · exact held_may_due h hl
theorem heldT_idem (lag : Int) : heldT tag (heldT tag lag) = heldT tag lag := by
  rcases ht with rfl | rfl | rfl
  · show min (min lag 0) 0 = min lag 0; omega
  · show min (min lag 698377680) 698377680 = min lag 698377680; omega
  · show max (-698377680) (min (max (-698377680) (min lag 698377680)) 698377680) = max (-698377680) (min lag 698377680); omega
theorem heldT_mag {lag : Int} (h1 : -1125899906842624 ≤ lag) (h2 : lag ≤ 1125899906842624) : -1125899906842624 ≤ heldT tag lag ∧ heldT tag lag ≤ 1125899906842624 := by
  rcases ht with rfl | rfl | rfl
  · show -1125899906842624 ≤ min lag 0 ∧ min lag 0 ≤ 1125899906842624; omega
  · show -1125899906842624 ≤ min lag 698377680 ∧ min lag 698377680 ≤ 1125899906842624; omega
  · show -1125899906842624 ≤ max (-698377680) (min lag 698377680) ∧ max (-698377680) (min lag 698377680) ≤ 1125899906842624; omega
end

/-- In w block p is a policy with the queue at b, in blocks F, all laid behind w0; what lay in w0 lies as it lay. -/
structure PSt (w0 w : World) (F : Nat → Prop) (p b : Nat) (tag : Int) (S : Ln) : Prop where
  cell : w.heap[p]? = some (.cells #[.iface (polT tag) (.pointer (some ⟨b, 0, none⟩)), .int .i64 tag] 101 (0, 0))
  q : Qm w F b S
  apart : ¬ F p
  newp : w0.heap.size ≤ p
  new : ∀ k, F k → w0.heap.size ≤ k
  old : Below w0.heap.size w0 w
/-- Behind a call on it. -/
def PNext (w0 w : World) (F : Nat → Prop) (p b : Nat) (tag : Int) (S : Ln) (w' : World) : Prop := ∃ F', PSt w0 w' F' p b tag S ∧ Fr F w w' ∧ ∀ k, F' k → F k ∨ w.heap.size ≤ k
section
variable {w0 w w' : World} {F : Nat → Prop} {p b : Nat} {tag : Int} {S S' : Ln}
theorem PSt.plt (h : PSt w0 w F p b tag S) : p < w.heap.size := (Array.getElem?_eq_some_iff.1 h.cell).1
theorem PSt.lt (h : PSt w0 w F p b tag S) : ∀ k, F k → k < w.heap.size := h.q.lt
theorem PSt.below (h : PSt w0 w F p b tag S) (hb : Below w.heap.size w w') : PSt w0 w' F p b tag S :=
  ⟨heap_below h.cell hb, h.q.below hb, h.apart, h.newp, h.new, h.old.trans (hb.mono h.old.size)⟩
theorem PSt.fr {G : Nat → Prop} (h : PSt w0 w F p b tag S) (hf : Fr G w w') (hd : ∀ k, F k → ¬ G k) (hp : ¬ G p) (hG : ∀ k, G k → w0.heap.size ≤ k) : PSt w0 w' F p b tag S :=
  ⟨heap_fr h.cell hf hp, h.q.fr hf hd, h.apart, h.newp, h.new, h.old.trans (hf.below h.old.size hG)⟩
theorem PSt.same (h : PSt w0 w F p b tag S) (hb : Below w.heap.size w w') : PNext w0 w F p b tag S w' := ⟨F, h.below hb, Fr.of_below hb, fun k hk => .inl hk⟩
theorem QPost.pnext (h : QPost w F b S' w') (hs : PSt w0 w F p b tag S) : PNext w0 w F p b tag S' w' := by
  obtain ⟨F', hq, hs', hf⟩ := h
  have hsz := hs.old.size
  have hlt := hs.plt
  exact ⟨F', ⟨heap_fr hs.cell hf hs.apart, hq, fun h1 => (hs' p h1).elim hs.apart (fun h => by omega), hs.newp, fun k hk => (hs' k hk).elim (hs.new k) (fun h => Nat.le_trans hsz h), hs.old.trans (hf.below hsz fun k hk => hs.new k hk)⟩, hf, hs'⟩
theorem Pm.st {F : Nat → Prop} (h : Pm w F p tag S) (hF : ∀ k, F k → w0.heap.size ≤ k) (hb : Below w0.heap.size w0 w) : ∃ b G, PSt w0 w G p b tag S ∧ ∀ k, G k ∨ k = p → F k := by
  obtain ⟨b, G, hp, hq, hG, rfl⟩ := h
  exact ⟨b, G, ⟨hp, hq, hG, hF p (.inl rfl), fun k hk => hF k (.inr hk), hb⟩, fun k hk => hk.elim .inr .inl⟩
theorem PSt.pm (h : PSt w0 w F p b tag S) : Pm w (fun k => k = p ∨ F k) p tag S := ⟨b, F, h.cell, h.q, h.apart, rfl⟩
theorem PolPost.st {e : Ending} (h : PolPost w tag S e w') (hb : Below w0.heap.size w0 w) : ∃ p b F, e = .returned (.tuple #[.pointer (some ⟨p, 0, none⟩), .int .i64 0]) ∧ PSt w0 w' F p b tag S ∧ (∀ k, F k ∨ k = p → w.heap.size ≤ k) ∧ Below w.heap.size w w' := by
  obtain ⟨p, F, rfl, hq, hF, hb2⟩ := h
  obtain ⟨b, G, h1, h2⟩ := hq.st (w0 := w0) (fun k hk => Nat.le_trans hb.size (hF k hk)) (hb.trans (hb2.mono hb.size))
  exact ⟨p, b, G, rfl, h1, fun k hk => hF k (h2 k hk), hb2⟩
end

theorem ifEnter (tag : Int) (ht : TagOk tag) (b : Nat) : ∃ FN : FuncId, (∀ W : World, (method 396 (polT tag) (.pointer (some ⟨b, 0, none⟩)) "Enter").run Tryz.prog W = .ok (FN, .pointer (some ⟨b, 0, none⟩)) W) ∧ (∀ args W, (callFunc FN args).run Tryz.prog W = .ok (.enter FN args) W) ∧
    Hid (∀ {w0 w : World} {F : Nat → Prop} {p : Nat} {S : Ln} {K : Int} , PSt w0 w F p b tag S → OkS K S → K ≤ 1151795604700004352 → ∀ (id tw lag : Int) (r : Int) (hr : mayE S.l id tw lag = r), Calls Tryz.prog FN #[.pointer (some ⟨b, 0, none⟩), .int .i64 id, .int .i64 tw, .int .i64 lag] w fun e w' => e = .returned (.int .i64 r) ∧ PNext w0 w F p b tag (enterR (heldT tag) S id tw lag) w') := by
  rcases ht with rfl | rfl | rfl
  · exact ⟨177, fun W => by kernel_rfl, enters_of Tryz.func177 (by kernel_rfl) rfl, Lib.hid fun h hk hK id tw lag r hr => (Enter_stride h.q hk hK id tw lag hr).mono fun _ _ ⟨h1, h2⟩ => ⟨h1, h2.pnext h⟩⟩
  · exact ⟨217, fun W => by kernel_rfl, enters_of Tryz.func217 (by kernel_rfl) rfl, Lib.hid fun h hk hK id tw lag r hr => (Enter_fair h.q hk hK id tw lag hr).mono fun _ _ ⟨h1, h2⟩ => ⟨h1, h2.pnext h⟩⟩
  · exact ⟨227, fun W => by kernel_rfl, enters_of Tryz.func227 (by kernel_rfl) rfl, Lib.hid fun h hk hK id tw lag r hr => (Enter_due h.q hk hK id tw lag hr).mono fun _ _ ⟨h1, h2⟩ => ⟨h1, h2.pnext h⟩⟩
theorem ifPut (tag : Int) (ht : TagOk tag) (b : Nat) : ∃ FN : FuncId, (∀ W : World, (method 396 (polT tag) (.pointer (some ⟨b, 0, none⟩)) "Put").run Tryz.prog W = .ok (FN, .pointer (some ⟨b, 0, none⟩)) W) ∧ (∀ args W, (callFunc FN args).run Tryz.prog W = .ok (.enter FN args) W) ∧
    Hid (∀ {w0 w : World} {F : Nat → Prop} {p : Nat} {S : Ln} {K : Int} , PSt w0 w F p b tag S → OkS K S → K ≤ 1151795604700004352 → ∀ (id tw lag : Int) (r : Int) (hr : mayE S.l id tw lag = r), Calls Tryz.prog FN #[.pointer (some ⟨b, 0, none⟩), .int .i64 id, .int .i64 tw, .int .i64 lag] w fun e w' => e = .returned (.int .i64 r) ∧ PNext w0 w F p b tag (putR S id tw lag) w') := by
  rcases ht with rfl | rfl | rfl
  · exact ⟨181, fun W => by kernel_rfl, enters_of Tryz.func181 (by kernel_rfl) rfl, Lib.hid fun h hk hK id tw lag r hr => (Put_stride h.q hk hK id tw lag hr).mono fun _ _ ⟨h1, h2⟩ => ⟨h1, h2.pnext h⟩⟩
  · exact ⟨221, fun W => by kernel_rfl, enters_of Tryz.func221 (by kernel_rfl) rfl, Lib.hid fun h hk hK id tw lag r hr => (Put_fair h.q hk hK id tw lag hr).mono fun _ _ ⟨h1, h2⟩ => ⟨h1, h2.pnext h⟩⟩
  · exact ⟨231, fun W => by kernel_rfl, enters_of Tryz.func231 (by kernel_rfl) rfl, Lib.hid fun h hk hK id tw lag r hr => (Put_due h.q hk hK id tw lag hr).mono fun _ _ ⟨h1, h2⟩ => ⟨h1, h2.pnext h⟩⟩
theorem ifLeave (tag : Int) (ht : TagOk tag) (b : Nat) : ∃ FN : FuncId, (∀ W : World, (method 396 (polT tag) (.pointer (some ⟨b, 0, none⟩)) "Leave").run Tryz.prog W = .ok (FN, .pointer (some ⟨b, 0, none⟩)) W) ∧ (∀ args W, (callFunc FN args).run Tryz.prog W = .ok (.enter FN args) W) ∧
    Hid (∀ {w0 w : World} {F : Nat → Prop} {p : Nat} {S : Ln} {K : Int} , PSt w0 w F p b tag S → OkS K S → ∀ (id : Int) (S' : Ln) (v e' : Int) (hr : leaveR S id = (S', v, e')), Calls Tryz.prog FN #[.pointer (some ⟨b, 0, none⟩), .int .i64 id] w fun e w' => e = .returned (.tuple #[.int .i64 v, .int .i64 e']) ∧ PNext w0 w F p b tag S' w') := by
  rcases ht with rfl | rfl | rfl
  · exact ⟨179, fun W => by kernel_rfl, enters_of Tryz.func179 (by kernel_rfl) rfl, Lib.hid fun h hk id S' v e' hr => (Leave_stride h.q hk id hr).mono fun _ _ ⟨h1, h2⟩ => ⟨h1, h2.pnext h⟩⟩
  · exact ⟨219, fun W => by kernel_rfl, enters_of Tryz.func219 (by kernel_rfl) rfl, Lib.hid fun h hk id S' v e' hr => (Leave_fair h.q hk id hr).mono fun _ _ ⟨h1, h2⟩ => ⟨h1, h2.pnext h⟩⟩
  · exact ⟨229, fun W => by kernel_rfl, enters_of Tryz.func229 (by kernel_rfl) rfl, Lib.hid fun h hk id S' v e' hr => (Leave_due h.q hk id hr).mono fun _ _ ⟨h1, h2⟩ => ⟨h1, h2.pnext h⟩⟩
theorem ifPick (tag : Int) (ht : TagOk tag) (b : Nat) : ∃ FN : FuncId, (∀ W : World, (method 396 (polT tag) (.pointer (some ⟨b, 0, none⟩)) "Pick").run Tryz.prog W = .ok (FN, .pointer (some ⟨b, 0, none⟩)) W) ∧ (∀ args W, (callFunc FN args).run Tryz.prog W = .ok (.enter FN args) W) ∧
    Hid (∀ {w0 w : World} {F : Nat → Prop} {p : Nat} {S : Ln} {K : Int} , PSt w0 w F p b tag S → OkS K S → ∀ (S' : Ln) (v : Int) (r : Bool) (hr : pickT tag S = (S', v, r)), Calls Tryz.prog FN #[.pointer (some ⟨b, 0, none⟩)] w fun e w' => e = .returned (.tuple #[.int .i64 v, .bool r]) ∧ PNext w0 w F p b tag S' w') := by
  rcases ht with rfl | rfl | rfl
  · exact ⟨180, fun W => by kernel_rfl, enters_of Tryz.func180 (by kernel_rfl) rfl, Lib.hid fun h hk S' v r hr => (Pick_stride h.q hk hr).mono fun _ _ ⟨h1, h2⟩ => ⟨h1, h2.pnext h⟩⟩
  · exact ⟨220, fun W => by kernel_rfl, enters_of Tryz.func220 (by kernel_rfl) rfl, Lib.hid fun h hk S' v r hr => (Pick_fair h.q hk hr).mono fun _ _ ⟨h1, h2⟩ => ⟨h1, h2.pnext h⟩⟩
  · exact ⟨230, fun W => by kernel_rfl, enters_of Tryz.func230 (by kernel_rfl) rfl, Lib.hid fun h hk S' v r hr => (Pick_due h.q hk hr).mono fun _ _ ⟨h1, h2⟩ => ⟨h1, h2.pnext h⟩⟩
theorem ifCharge (tag : Int) (ht : TagOk tag) (b : Nat) : ∃ FN : FuncId, (∀ W : World, (method 396 (polT tag) (.pointer (some ⟨b, 0, none⟩)) "Charge").run Tryz.prog W = .ok (FN, .pointer (some ⟨b, 0, none⟩)) W) ∧ (∀ args W, (callFunc FN args).run Tryz.prog W = .ok (.enter FN args) W) ∧
    Hid (∀ {w0 w : World} {F : Nat → Prop} {p : Nat} {S : Ln} {K : Int} , PSt w0 w F p b tag S → OkS K S → ∀ (S' : Ln) (v e' : Int) (hr : chargeR S = (S', v, e')), Calls Tryz.prog FN #[.pointer (some ⟨b, 0, none⟩)] w fun e w' => e = .returned (.tuple #[.int .i64 v, .int .i64 e']) ∧ PNext w0 w F p b tag S' w') := by
  rcases ht with rfl | rfl | rfl
  · exact ⟨176, fun W => by kernel_rfl, enters_of Tryz.func176 (by kernel_rfl) rfl, Lib.hid fun h hk S' v e' hr => (Charge_stride h.q hk hr).mono fun _ _ ⟨h1, h2⟩ => ⟨h1, h2.pnext h⟩⟩
  · exact ⟨216, fun W => by kernel_rfl, enters_of Tryz.func216 (by kernel_rfl) rfl, Lib.hid fun h hk S' v e' hr => (Charge_fair h.q hk hr).mono fun _ _ ⟨h1, h2⟩ => ⟨h1, h2.pnext h⟩⟩
  · exact ⟨226, fun W => by kernel_rfl, enters_of Tryz.func226 (by kernel_rfl) rfl, Lib.hid fun h hk S' v e' hr => (Charge_due h.q hk hr).mono fun _ _ ⟨h1, h2⟩ => ⟨h1, h2.pnext h⟩⟩
theorem ifForm (tag : Int) (ht : TagOk tag) (b : Nat) : ∃ FN : FuncId, (∀ W : World, (method 396 (polT tag) (.pointer (some ⟨b, 0, none⟩)) "Form").run Tryz.prog W = .ok (FN, .pointer (some ⟨b, 0, none⟩)) W) ∧ (∀ args W, (callFunc FN args).run Tryz.prog W = .ok (.enter FN args) W) ∧
    Hid (∀ {w : World} {F : Nat → Prop} {S : Ln} {K : Int}, Qm w F b S → OkS K S → Calls Tryz.prog FN #[.pointer (some ⟨b, 0, none⟩)] w (FormPost w S.cur (S.l.map (itOf S.base)))) := by
  rcases ht with rfl | rfl | rfl
  · exact ⟨178, fun W => by kernel_rfl, enters_of Tryz.func178 (by kernel_rfl) rfl, Lib.hid fun h hk => Form_stride h hk⟩
  · exact ⟨218, fun W => by kernel_rfl, enters_of Tryz.func218 (by kernel_rfl) rfl, Lib.hid fun h hk => Form_fair h hk⟩
  · exact ⟨228, fun W => by kernel_rfl, enters_of Tryz.func228 (by kernel_rfl) rfl, Lib.hid fun h hk => Form_due h hk⟩
section
variable {w0 w w1 w2 : World} {F F1 : Nat → Prop} {p b : Nat} {tag K : Int} {S S' : Ln}
theorem PNext.trans (h1 : ∀ k, F1 k → F k ∨ w.heap.size ≤ k) (hf : Fr F w w1) (h : PNext w0 w1 F1 p b tag S' w2) : PNext w0 w F p b tag S' w2 := by
  obtain ⟨F2, hq, hf2, hs2⟩ := h
  have hsz := hf.size
  exact ⟨F2, hq, hf.trans hf2 (fun k hk hk2 => (h1 k hk2).elim id (fun h => by omega)), fun k hk => (hs2 k hk).elim (h1 k) (fun h => .inr (by omega))⟩
set_option maxHeartbeats 800000 in
/-- A run: one is picked, and charged. -/
theorem PolRunT (h : PSt w0 w F p b tag S) (ht : TagOk tag) (hk : OkS K S) {S1 S2 : Ln} {v1 v2 e2 : Int} {r1 : Bool} (h1 : pickT tag S = (S1, v1, r1)) (h2 : chargeR S1 = (S2, v2, e2)) :
    Calls Tryz.prog 64 #[.pointer (some ⟨p, 0, none⟩)] w fun e w' => e = .returned (.tuple #[.int .i64 v2, .int .i64 e2]) ∧ PNext w0 w F p b tag S2 w' := by
  have hk1 : OkS K S1 := by have := pickok_T ht hk; rw [h1] at this; exact this
  obtain ⟨FP, mP, eP, cP⟩ := ifPick tag ht b
  obtain ⟨FC, mC, eC, cC⟩ := ifCharge tag ht b
  obtain ⟨c0, c1, f0, f1, pl⟩ := blk2 h.cell
  have HP := Lib.hid (cP.out h hk S1 v1 r1 h1)
  have Hk1 := Lib.hid hk1
  have H2 := Lib.hid h2
  clear h hk hk1 h1 h2 ht cP
  go_enter Tryz.func64, Tryz.ntmps64
  go_wp2_with (first
    | (go_at_fn FP; refine HP.out.mono ?_; rintro e w1 ⟨rfl, F1, hp1, hf1, hs1⟩; obtain ⟨c0, c1, f0, f1, pl⟩ := blk2 hp1.cell; have Hp1 := Lib.hid hp1; have Hf1 := Lib.hid hf1; have Hs1 := Lib.hid hs1; clear hp1 hf1 hs1)
    | (go_at_fn FC; refine (cC.out Hp1.out Hk1.out S2 v2 e2 H2.out).mono ?_; rintro e w2 ⟨rfl, hn⟩; have HN := Lib.hid hn; clear hn))
  go_ret2
  exact ⟨rfl, PNext.trans Hs1.out Hf1.out HN.out⟩
end
end Go.Proofs.YtlgkkolgdjgclaaGreat
