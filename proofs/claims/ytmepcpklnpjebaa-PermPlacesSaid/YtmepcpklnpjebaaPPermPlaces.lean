/- PermPlaces: the law's row, proved: for every input it returns true, and each argument reads as it did. -/
import Derived.Test.YtmepcpklnpjebaaFrame
import Derived.Test.YtmepcpklnpjebaaPj
namespace Go.Proofs.Ytmepcpklnpjebaa
open Go.RowKit
set_option linter.unusedVariables false

theorem permPlaces_spec {H : Type} (ds : List (DataW H)) (h : ds.length = Try.f12.params.toList.length) : Rows.permPlacesSpec.fn H (ds ++ []) = { results := [.lit (.bool true)], args := ds } := by
  rw [Try.params12] at h
  match ds, h with
  | [d0], _ => rfl

set_option maxRecDepth 100000 in
theorem permPlaces_lifted (os : Os) (started : os.Started) (H : Type) (enc : TypeId × Value → H) :
    ReturnsInHanded {} Try.checked os 12 .any (Rows.permPlacesSpec.pre6 enc Try.prog Try.f12 Rows.permPlacesRow.domain false) (Rows.permPlacesSpec.post enc Try.prog Try.f12 false true false false) :=
  lift_yes started (by kernel_rfl) Try.func12
    (ChangeSpec.witness6 (enc := enc) (C := Try.checked) false ⟨#[], #[.slice none 0 0], []⟩ 8 (by kernel_rfl) (by kernel_rfl) (by kernel_rfl) (by kernel_rfl))
    rfl (by kernel_rfl) (by kernel_rfl) permPlaces_spec (fun W base args ds p hval hA hlt hz => permPlaces_of W base args ds p hval hA hlt hz)

theorem permPlaces_holds : Rows.PermPlacesSaid :=
  OpenClaim.holds_of_wide 12 Try.f12 rfl rfl rfl rfl rfl rfl rfl ⟨rfl, rfl, rfl, rfl, rfl⟩ rfl rfl rfl rfl rfl (by kernel_rfl) Try.func12 (by kernel_rfl)
    (of_decide_eq_true (by kernel_rfl)) (by unfold Func.isWrapper; first | (rw [if_pos (by decide +kernel)]; kernel_rfl) | (rw [if_neg (by decide +kernel)]; exact ⟨rfl, rfl⟩))
    (fun os started H enc _ => permPlaces_lifted os started H enc)
#print axioms permPlaces_holds
end Go.Proofs.Ytmepcpklnpjebaa
