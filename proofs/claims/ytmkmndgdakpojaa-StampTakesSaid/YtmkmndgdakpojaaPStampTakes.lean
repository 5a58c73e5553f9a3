/- StampTakes: the law's row, proved: for every input it returns true, and each argument reads as it did. -/
import Derived.Test.YtmkmndgdakpojaaFrame
import Derived.Test.YtmkmndgdakpojaaTk
namespace Go.Proofs.Ytmkmndgdakpojaa
open Go.RowKit
set_option linter.unusedVariables false

theorem stampTakes_spec {H : Type} (ds : List (DataW H)) (h : ds.length = Try.f3.params.toList.length) : Rows.stampTakesSpec.fn H (ds ++ []) = { results := [.lit (.bool true)], args := ds } := by
  rw [Try.params3] at h
  match ds, h with
  | [d0], _ => rfl

set_option maxRecDepth 100000 in
theorem stampTakes_lifted (os : Os) (started : os.Started) (H : Type) (enc : TypeId × Value → H) :
    ReturnsInHanded {} Try.checked os 3 .any (Rows.stampTakesSpec.pre6 enc Try.prog Try.f3 Rows.stampTakesRow.domain false) (Rows.stampTakesSpec.post enc Try.prog Try.f3 false true false false) :=
  lift_yes started (by kernel_rfl) Try.func3
    (ChangeSpec.witness6 (enc := enc) (C := Try.checked) false ⟨#[], #[.slice none 0 0], []⟩ 8 (by kernel_rfl) (by kernel_rfl) (by kernel_rfl) (by kernel_rfl))
    rfl (by kernel_rfl) (by kernel_rfl) stampTakes_spec (fun W base args ds p hval hA hlt hz => stampTakes_of W base args ds p hval hA hlt hz)

theorem stampTakes_holds : Rows.StampTakesSaid :=
  OpenClaim.holds_of_wide 3 Try.f3 rfl rfl rfl rfl rfl rfl rfl ⟨rfl, rfl, rfl, rfl, rfl⟩ rfl rfl rfl rfl rfl (by kernel_rfl) Try.func3 (by kernel_rfl)
    (of_decide_eq_true (by kernel_rfl)) (by unfold Func.isWrapper; first | (rw [if_pos (by decide +kernel)]; kernel_rfl) | (rw [if_neg (by decide +kernel)]; exact ⟨rfl, rfl⟩))
    (fun os started H enc _ => stampTakes_lifted os started H enc)
#print axioms stampTakes_holds
end Go.Proofs.Ytmkmndgdakpojaa
