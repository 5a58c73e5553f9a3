/- StampOrder: the law's row, proved: for every input it returns true, and each argument reads as it did. -/
import Derived.Test.YtmkmndgdakpojaaFrame
import Derived.Test.YtmkmndgdakpojaaTho
namespace Go.Proofs.Ytmkmndgdakpojaa
open Go.RowKit
set_option linter.unusedVariables false

theorem stampOrder_spec {H : Type} (ds : List (DataW H)) (h : ds.length = Try.f8.params.toList.length) : Rows.stampOrderSpec.fn H (ds ++ []) = { results := [.lit (.bool true)], args := ds } := by
  rw [Try.params8] at h
  match ds, h with
  | [d0, d1, d2], _ => rfl

set_option maxRecDepth 100000 in
theorem stampOrder_lifted (os : Os) (started : os.Started) (H : Type) (enc : TypeId × Value → H) :
    ReturnsInHanded {} Try.checked os 8 .any (Rows.stampOrderSpec.pre6 enc Try.prog Try.f8 Rows.stampOrderRow.domain false) (Rows.stampOrderSpec.post enc Try.prog Try.f8 false true false false) :=
  lift_yes started (by kernel_rfl) Try.func8
    (ChangeSpec.witness6 (enc := enc) (C := Try.checked) false ⟨#[], #[.agg #[.int .u64 0, .int .u64 0, .slice none 0 0], .agg #[.int .u64 0, .int .u64 0, .slice none 0 0], .agg #[.int .u64 0, .int .u64 0, .slice none 0 0]], []⟩ 8 (by kernel_rfl) (by kernel_rfl) (by kernel_rfl) (by kernel_rfl))
    rfl (by kernel_rfl) (by kernel_rfl) stampOrder_spec (fun W base args ds p hval hA hlt hz => stampOrder_of W base args ds p hval hA hlt hz)

theorem stampOrder_holds : Rows.StampOrderSaid :=
  OpenClaim.holds_of_wide 8 Try.f8 rfl rfl rfl rfl rfl rfl rfl ⟨rfl, rfl, rfl, rfl, rfl⟩ rfl rfl rfl rfl rfl (by kernel_rfl) Try.func8 (by kernel_rfl)
    (of_decide_eq_true (by kernel_rfl)) (by unfold Func.isWrapper; first | (rw [if_pos (by decide +kernel)]; kernel_rfl) | (rw [if_neg (by decide +kernel)]; exact ⟨rfl, rfl⟩))
    (fun os started H enc _ => stampOrder_lifted os started H enc)
#print axioms stampOrder_holds
end Go.Proofs.Ytmkmndgdakpojaa
