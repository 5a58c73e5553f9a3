/- PermBack: the law's row, proved: for every input it returns true, and each argument reads as it did. -/
import Derived.Test.YtmepcpklnpjebaaFrame
import Derived.Test.YtmepcpklnpjebaaPr
namespace Go.Proofs.Ytmepcpklnpjebaa
open Go.RowKit
set_option linter.unusedVariables false

theorem permBack_spec {H : Type} (ds : List (DataW H)) (h : ds.length = Try.f14.params.toList.length) : Rows.permBackSpec.fn H (ds ++ []) = { results := [.lit (.bool true)], args := ds } := by
  rw [Try.params14] at h
  match ds, h with
  | [d0, d1], _ => rfl

set_option maxRecDepth 100000 in
theorem permBack_lifted (os : Os) (started : os.Started) (H : Type) (enc : TypeId × Value → H) :
    ReturnsInHanded {} Try.checked os 14 .any (Rows.permBackSpec.pre6 enc Try.prog Try.f14 Rows.permBackRow.domain false) (Rows.permBackSpec.post enc Try.prog Try.f14 false true false false) :=
  lift_yes started (by kernel_rfl) Try.func14
    (ChangeSpec.witness6 (enc := enc) (C := Try.checked) false ⟨#[], #[.slice none 0 0, .slice none 0 0], []⟩ 8 (by kernel_rfl) (by kernel_rfl) (by kernel_rfl) (by kernel_rfl))
    rfl (by kernel_rfl) (by kernel_rfl) permBack_spec (fun W base args ds p hval hA hlt hz => permBack_of W base args ds p hval hA hlt hz)

theorem permBack_holds : Rows.PermBackSaid :=
  OpenClaim.holds_of_wide 14 Try.f14 rfl rfl rfl rfl rfl rfl rfl ⟨rfl, rfl, rfl, rfl, rfl⟩ rfl rfl rfl rfl rfl (by kernel_rfl) Try.func14 (by kernel_rfl)
    (of_decide_eq_true (by kernel_rfl)) (by unfold Func.isWrapper; first | (rw [if_pos (by decide +kernel)]; kernel_rfl) | (rw [if_neg (by decide +kernel)]; exact ⟨rfl, rfl⟩))
    (fun os started H enc _ => permBack_lifted os started H enc)
#print axioms permBack_holds
end Go.Proofs.Ytmepcpklnpjebaa
