/- StampTells: the law's row, proved: for every input it returns true, and each argument reads as it did. -/
import Derived.Test.YtmkmndgdakpojaaFrame
import Derived.Test.YtmkmndgdakpojaaTn
namespace Go.Proofs.Ytmkmndgdakpojaa
open Go.RowKit
set_option linter.unusedVariables false

theorem stampTells_spec {H : Type} (ds : List (DataW H)) (h : ds.length = Try.f6.params.toList.length) : Rows.stampTellsSpec.fn H (ds ++ []) = { results := [.lit (.bool true)], args := ds } := by
  rw [Try.params6] at h
  match ds, h with
  | [d0, d1], _ => rfl

set_option maxRecDepth 100000 in
theorem stampTells_lifted (os : Os) (started : os.Started) (H : Type) (enc : TypeId × Value → H) :
    ReturnsInHanded {} Try.checked os 6 .any (Rows.stampTellsSpec.pre6 enc Try.prog Try.f6 Rows.stampTellsRow.domain false) (Rows.stampTellsSpec.post enc Try.prog Try.f6 false true false false) :=
  lift_yes started (by kernel_rfl) Try.func6
    (ChangeSpec.witness6 (enc := enc) (C := Try.checked) false ⟨#[], #[.agg #[.int .u64 0, .int .u64 0, .slice none 0 0], .agg #[.int .u64 0, .int .u64 0, .slice none 0 0]], []⟩ 8 (by kernel_rfl) (by kernel_rfl) (by kernel_rfl) (by kernel_rfl))
    rfl (by kernel_rfl) (by kernel_rfl) stampTells_spec (fun W base args ds p hval hA hlt hz => stampTells_of W base args ds p hval hA hlt hz)

theorem stampTells_holds : Rows.StampTellsSaid :=
  OpenClaim.holds_of_wide 6 Try.f6 rfl rfl rfl rfl rfl rfl rfl ⟨rfl, rfl, rfl, rfl, rfl⟩ rfl rfl rfl rfl rfl (by kernel_rfl) Try.func6 (by kernel_rfl)
    (of_decide_eq_true (by kernel_rfl)) (by unfold Func.isWrapper; first | (rw [if_pos (by decide +kernel)]; kernel_rfl) | (rw [if_neg (by decide +kernel)]; exact ⟨rfl, rfl⟩))
    (fun os started H enc _ => stampTells_lifted os started H enc)
#print axioms stampTells_holds
end Go.Proofs.Ytmkmndgdakpojaa
