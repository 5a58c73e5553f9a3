/- Stamps: the chapter's example; whether stamps are short; a stamp that was read. -/
import Derived.Test.YtmkmndgdakpojaaDoorTb
import Derived.Deep.DeepMust
namespace Go.Proofs.YtmkmndgdakpojaaDoor
open Go.RowKit
set_option linter.unusedSimpArgs false
set_option linter.unusedVariables false
set_option maxRecDepth 100000

theorem rd_newS (w : World) (vs : Array Value) (t : TypeId) : Rd (w.alloc (.cells vs t)) (some ⟨w.heap.size, 0, none⟩) vs.toList :=
  .inr ⟨_, 0, rfl, by rw [World.size_alloc]; omega, fun i v hv => by
    have := app_there w vs t i v hv
    rwa [addr_off] at this⟩
theorem good31 : goodSt [3, 1] := by
  refine ⟨by decide, by decide, fun x hx => ?_, by decide⟩
  simp at hx
  omega
/-- A row of stamps, their chains so long. -/
def StRow (W : World) (b : Nat) (ns : List Nat) : Prop := b < W.heap.size ∧ ∀ k, k < ns.length → ∃ (e r : Int) (A : Option Addr) (c : Nat), W.cell? ⟨b, k * 3, none⟩ = some (.int .u64 e) ∧ W.cell? ⟨b, k * 3 + 1, none⟩ = some (.int .u64 r) ∧ W.cell? ⟨b, k * 3 + 2, none⟩ = some (.slice A (ns.getD k 0) c)
theorem StRow.below {W W' : World} {b : Nat} {ns : List Nat} (h : StRow W b ns) (hb : Below W.heap.size W W') : StRow W' b ns :=
  ⟨Nat.lt_of_lt_of_le h.1 hb.size, fun k hk => by
    obtain ⟨e, r, A, c, h0, h1, h2⟩ := h.2 k hk
    exact ⟨e, r, A, c, (hb.cell (p := ⟨b, k * 3, none⟩) h.1).trans h0, (hb.cell (p := ⟨b, k * 3 + 1, none⟩) h.1).trans h1, (hb.cell (p := ⟨b, k * 3 + 2, none⟩) h.1).trans h2⟩⟩
open Go.Joins Go.Deep in
/-- A stamp that was read: its form. -/
theorem open_stamp {H : Type} {enc : TypeId × Value → H} {W : World} {base b : Nat} {r : Reach} {v : Value} {d : DataW H} {p : List MemPlace} {spare : Nat → Bool} {held : Bool}
    (hv : Value.okWide Tryd.prog W r base 28 v) (h : DataW.Trod enc Tryd.prog W b spare held 28 v d p) :
    ∃ (ep ro : Nat) (A : Option Addr) (n c : Nat) (xs : List Int), v = .agg #[.int .u64 ep, .int .u64 ro, .slice A n c] ∧ n ≤ c ∧ c ≤ maxLen ∧ xs.length = n ∧ Rd W A (nums .i64 xs) ∧ ep < 18446744073709551616 ∧ ro < 18446744073709551616 ∧ (∀ x ∈ xs, (Lit.int .i64 x).wf = true) := by
  obtain ⟨v0, v1, v2, y0, y1, y2, n, rfl, rfl, rfl, h0, h1, h2⟩ := open_agg3 Tryd.underlying28 (by kernel_rfl) (by kernel_rfl) hv h
  obtain ⟨e, rfl, we⟩ := int_of_trod Tryd.underlying25 h0
  obtain ⟨q, rfl, wq⟩ := int_of_trod Tryd.underlying25 h1
  obtain ⟨A, m, c, xs, rfl, hc1, hc2, hl, hr, hw, _⟩ := open_row Tryd.underlying26 Tryd.underlying3 (by kernel_rfl) h2
  have b1 : (decide ((0 : Int) ≤ e) && decide (e ≤ (18446744073709551615 : Int))) = true := we
  have b2 : (decide ((0 : Int) ≤ q) && decide (q ≤ (18446744073709551615 : Int))) = true := wq
  simp only [Bool.and_eq_true, decide_eq_true_eq] at b1 b2
  obtain ⟨E, rfl⟩ := Int.eq_ofNat_of_zero_le b1.1
  obtain ⟨R, rfl⟩ := Int.eq_ofNat_of_zero_le b2.1
  exact ⟨E, R, A, m, c, xs, rfl, hc1, hc2, hl, hr, by omega, by omega, hw⟩

end Go.Proofs.YtmkmndgdakpojaaDoor
