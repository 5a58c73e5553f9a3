/- KeyChecks: the law's row, proved: for every input it returns true, and each argument reads as it did. -/
import Derived.Test.YtmacimnabcjljaaFrame
import Derived.Test.YtmacimnabcjljaaKh
namespace Go.Proofs.Ytmacimnabcjljaa
open Go.RowKit
set_option linter.unusedVariables false

theorem keyChecks_spec {H : Type} (ds : List (DataW H)) (h : ds.length = Try.f5.params.toList.length) : Rows.keyChecksSpec.fn H (ds ++ []) = { results := [.lit (.bool true)], args := ds } := by
  rw [Try.params5] at h
  match ds, h with
  | [d0], _ => rfl

set_option maxRecDepth 100000 in
theorem keyChecks_lifted (os : Os) (started : os.Started) (H : Type) (enc : TypeId × Value → H) :
    ReturnsInHanded {} Try.checked os 5 .any (Rows.keyChecksSpec.pre6 enc Try.prog Try.f5 Rows.keyChecksRow.domain false) (Rows.keyChecksSpec.post enc Try.prog Try.f5 false true false false) :=
  lift_yes started (by kernel_rfl) Try.func5
    (ChangeSpec.witness6 (enc := enc) (C := Try.checked) false ⟨#[], #[.agg #[.slice none 0 0, .int .i64 0, .int .i64 0, .int .i64 0, .int .i64 0, .int .i64 0, .int .i64 0, .int .i64 0, .int .i64 0, .int .u64 0, .int .u64 0]], []⟩ 8 (by kernel_rfl) (by kernel_rfl) (by kernel_rfl) (by kernel_rfl))
    rfl (by kernel_rfl) (by kernel_rfl) keyChecks_spec (fun W base args ds p hval hA hlt hz => keyChecks_of W base args ds p hval hA hlt hz)

theorem keyChecks_holds : Rows.KeyChecksSaid :=
  OpenClaim.holds_of_wide 5 Try.f5 rfl rfl rfl rfl rfl rfl rfl ⟨rfl, rfl, rfl, rfl, rfl⟩ rfl rfl rfl rfl rfl (by kernel_rfl) Try.func5 (by kernel_rfl)
    (of_decide_eq_true (by kernel_rfl)) (by unfold Func.isWrapper; first | (rw [if_pos (by decide +kernel)]; kernel_rfl) | (rw [if_neg (by decide +kernel)]; exact ⟨rfl, rfl⟩))
    (fun os started H enc _ => keyChecks_lifted os started H enc)
#print axioms keyChecks_holds
end Go.Proofs.Ytmacimnabcjljaa
