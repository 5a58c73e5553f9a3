/- PermTurns: the law's row, proved: for every input it returns true, and each argument reads as it did. -/
import Derived.Test.YtmepcpklnpjebaaFrame
import Derived.Test.YtmepcpklnpjebaaPr
namespace Go.Proofs.Ytmepcpklnpjebaa
open Go.RowKit
set_option linter.unusedVariables false

theorem permTurns_spec {H : Type} (ds : List (DataW H)) (h : ds.length = Try.f13.params.toList.length) : Rows.permTurnsSpec.fn H (ds ++ []) = { results := [.lit (.bool true)], args := ds } := by
  rw [Try.params13] at h
  match ds, h with
  | [d0, d1], _ => rfl

set_option maxRecDepth 100000 in
theorem permTurns_lifted (os : Os) (started : os.Started) (H : Type) (enc : TypeId × Value → H) :
    ReturnsInHanded {} Try.checked os 13 .any (Rows.permTurnsSpec.pre6 enc Try.prog Try.f13 Rows.permTurnsRow.domain false) (Rows.permTurnsSpec.post enc Try.prog Try.f13 false true false false) :=
  lift_yes started (by kernel_rfl) Try.func13
    (ChangeSpec.witness6 (enc := enc) (C := Try.checked) false ⟨#[], #[.slice none 0 0, .slice none 0 0], []⟩ 8 (by kernel_rfl) (by kernel_rfl) (by kernel_rfl) (by kernel_rfl))
    rfl (by kernel_rfl) (by kernel_rfl) permTurns_spec (fun W base args ds p hval hA hlt hz => permTurns_of W base args ds p hval hA hlt hz)

theorem permTurns_holds : Rows.PermTurnsSaid :=
  OpenClaim.holds_of_wide 13 Try.f13 rfl rfl rfl rfl rfl rfl rfl ⟨rfl, rfl, rfl, rfl, rfl⟩ rfl rfl rfl rfl rfl (by kernel_rfl) Try.func13 (by kernel_rfl)
    (of_decide_eq_true (by kernel_rfl)) (by unfold Func.isWrapper; first | (rw [if_pos (by decide +kernel)]; kernel_rfl) | (rw [if_neg (by decide +kernel)]; exact ⟨rfl, rfl⟩))
    (fun os started H enc _ => permTurns_lifted os started H enc)
#print axioms permTurns_holds
end Go.Proofs.Ytmepcpklnpjebaa
