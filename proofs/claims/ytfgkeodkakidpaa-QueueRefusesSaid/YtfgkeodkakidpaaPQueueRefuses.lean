/- QueueRefuses: the law's row, proved: for every input it returns true, and each argument reads as it did. -/
import Derived.Test.YtfgkeodkakidpaaFrame
import Derived.Test.YtfgkeodkakidpaaQn
namespace Go.Proofs.Ytfgkeodkakidpaa
open Go.RowKit
set_option linter.unusedVariables false

theorem queueRefuses_spec {H : Type} (ds : List (DataW H)) (h : ds.length = Try.f3.params.toList.length) : Rows.queueRefusesSpec.fn H (ds ++ []) = { results := [.lit (.bool true)], args := ds } := by
  rw [Try.params3] at h
  match ds, h with
  | [d0, d1, d2, d3, d4], _ => rfl

set_option maxRecDepth 100000 in
theorem queueRefuses_lifted (os : Os) (started : os.Started) (H : Type) (enc : TypeId × Value → H) :
    ReturnsInHanded {} Try.checked os 3 .any (Rows.queueRefusesSpec.pre6 enc Try.prog Try.f3 Rows.queueRefusesRow.domain false) (Rows.queueRefusesSpec.post enc Try.prog Try.f3 false true false false) :=
  lift_yes started (by kernel_rfl) Try.func3
    (ChangeSpec.witness6 (enc := enc) (C := Try.checked) false ⟨#[], #[.agg #[.slice none 0 0, .int .i64 0, .int .i64 0, .int .i64 0, .int .i64 0, .int .i64 0, .int .i64 0, .int .i64 0, .int .i64 0, .int .u64 0, .int .u64 0], .agg #[.int .u64 0, .slice none 0 0], .int .i64 0, .int .i64 0, .slice none 0 0], []⟩ 8 (by kernel_rfl) (by kernel_rfl) (by kernel_rfl) (by kernel_rfl))
    rfl (by kernel_rfl) (by kernel_rfl) queueRefuses_spec (fun W base args ds p hval hA hlt hz => queueRefuses_of W base args ds p hval hA hlt hz)

theorem queueRefuses_holds : Rows.QueueRefusesSaid :=
  OpenClaim.holds_of_wide 3 Try.f3 rfl rfl rfl rfl rfl rfl rfl ⟨rfl, rfl, rfl, rfl, rfl⟩ rfl rfl rfl rfl rfl (by kernel_rfl) Try.func3 (by kernel_rfl)
    (of_decide_eq_true (by kernel_rfl)) (by unfold Func.isWrapper; first | (rw [if_pos (by decide +kernel)]; kernel_rfl) | (rw [if_neg (by decide +kernel)]; exact ⟨rfl, rfl⟩))
    (fun os started H enc _ => queueRefuses_lifted os started H enc)
#print axioms queueRefuses_holds
end Go.Proofs.Ytfgkeodkakidpaa
