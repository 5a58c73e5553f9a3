/- PermDraws: the law's row, proved: for every input it returns true, and each argument reads as it did. -/
import Derived.Test.YtmepcpklnpjebaaFrame
import Derived.Test.YtmepcpklnpjebaaPl
namespace Go.Proofs.Ytmepcpklnpjebaa
open Go.RowKit
set_option linter.unusedVariables false

theorem permDraws_spec {H : Type} (ds : List (DataW H)) (h : ds.length = Try.f4.params.toList.length) : Rows.permDrawsSpec.fn H (ds ++ []) = { results := [.lit (.bool true)], args := ds } := by
  rw [Try.params4] at h
  match ds, h with
  | [d0, d1, d2, d3], _ => rfl

set_option maxRecDepth 100000 in
theorem permDraws_lifted (os : Os) (started : os.Started) (H : Type) (enc : TypeId × Value → H) :
    ReturnsInHanded {} Try.checked os 4 .any (Rows.permDrawsSpec.pre6 enc Try.prog Try.f4 Rows.permDrawsRow.domain false) (Rows.permDrawsSpec.post enc Try.prog Try.f4 false true false false) :=
  lift_yes started (by kernel_rfl) Try.func4
    (ChangeSpec.witness6 (enc := enc) (C := Try.checked) false ⟨#[], #[.int .i64 0, .slice none 0 0, .slice none 0 0, .int .i64 0], []⟩ 8 (by kernel_rfl) (by kernel_rfl) (by kernel_rfl) (by kernel_rfl))
    rfl (by kernel_rfl) (by kernel_rfl) permDraws_spec (fun W base args ds p hval hA hlt hz => permDraws_of W base args ds p hval hA hlt hz)

theorem permDraws_holds : Rows.PermDrawsSaid :=
  OpenClaim.holds_of_wide 4 Try.f4 rfl rfl rfl rfl rfl rfl rfl ⟨rfl, rfl, rfl, rfl, rfl⟩ rfl rfl rfl rfl rfl (by kernel_rfl) Try.func4 (by kernel_rfl)
    (of_decide_eq_true (by kernel_rfl)) (by unfold Func.isWrapper; first | (rw [if_pos (by decide +kernel)]; kernel_rfl) | (rw [if_neg (by decide +kernel)]; exact ⟨rfl, rfl⟩))
    (fun os started H enc _ => permDraws_lifted os started H enc)
#print axioms permDraws_holds
end Go.Proofs.Ytmepcpklnpjebaa
