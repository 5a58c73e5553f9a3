/- QueueEmpties: the law's row, proved: for every input it returns true, and each argument reads as it did. -/
import Derived.Test.YtfgkeodkakidpaaFrame
import Derived.Test.YtfgkeodkakidpaaQm
namespace Go.Proofs.Ytfgkeodkakidpaa
open Go.RowKit
set_option linter.unusedVariables false

theorem queueEmpties_spec {H : Type} (ds : List (DataW H)) (h : ds.length = Try.f7.params.toList.length) : Rows.queueEmptiesSpec.fn H (ds ++ []) = { results := [.lit (.bool true)], args := ds } := by
  rw [Try.params7] at h
  match ds, h with
  | [d0], _ => rfl

set_option maxRecDepth 100000 in
theorem queueEmpties_lifted (os : Os) (started : os.Started) (H : Type) (enc : TypeId × Value → H) :
    ReturnsInHanded {} Try.checked os 7 .any (Rows.queueEmptiesSpec.pre6 enc Try.prog Try.f7 Rows.queueEmptiesRow.domain false) (Rows.queueEmptiesSpec.post enc Try.prog Try.f7 false true false false) :=
  lift_yes started (by kernel_rfl) Try.func7
    (ChangeSpec.witness6 (enc := enc) (C := Try.checked) false ⟨#[], #[.agg #[.int .u64 0, .slice none 0 0]], []⟩ 8 (by kernel_rfl) (by kernel_rfl) (by kernel_rfl) (by kernel_rfl))
    rfl (by kernel_rfl) (by kernel_rfl) queueEmpties_spec (fun W base args ds p hval hA hlt hz => queueEmpties_of W base args ds p hval hA hlt hz)

theorem queueEmpties_holds : Rows.QueueEmptiesSaid :=
  OpenClaim.holds_of_wide 7 Try.f7 rfl rfl rfl rfl rfl rfl rfl ⟨rfl, rfl, rfl, rfl, rfl⟩ rfl rfl rfl rfl rfl (by kernel_rfl) Try.func7 (by kernel_rfl)
    (of_decide_eq_true (by kernel_rfl)) (by unfold Func.isWrapper; first | (rw [if_pos (by decide +kernel)]; kernel_rfl) | (rw [if_neg (by decide +kernel)]; exact ⟨rfl, rfl⟩))
    (fun os started H enc _ => queueEmpties_lifted os started H enc)
#print axioms queueEmpties_holds
end Go.Proofs.Ytfgkeodkakidpaa
