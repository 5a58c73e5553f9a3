/- StampCuts: the law's row, proved: for every input it returns true, and each argument reads as it did. -/
import Derived.Test.YtmkmndgdakpojaaFrame
import Derived.Test.YtmkmndgdakpojaaTl
namespace Go.Proofs.Ytmkmndgdakpojaa
open Go.RowKit
set_option linter.unusedVariables false

theorem stampCuts_spec {H : Type} (ds : List (DataW H)) (h : ds.length = Try.f4.params.toList.length) : Rows.stampCutsSpec.fn H (ds ++ []) = { results := [.lit (.bool true)], args := ds } := by
  rw [Try.params4] at h
  match ds, h with
  | [d0, d1], _ => rfl

set_option maxRecDepth 100000 in
theorem stampCuts_lifted (os : Os) (started : os.Started) (H : Type) (enc : TypeId × Value → H) :
    ReturnsInHanded {} Try.checked os 4 .any (Rows.stampCutsSpec.pre6 enc Try.prog Try.f4 Rows.stampCutsRow.domain false) (Rows.stampCutsSpec.post enc Try.prog Try.f4 false true false false) :=
  lift_yes started (by kernel_rfl) Try.func4
    (ChangeSpec.witness6 (enc := enc) (C := Try.checked) false ⟨#[], #[.agg #[.int .u64 0, .int .u64 0, .slice none 0 0], .int .i64 0], []⟩ 8 (by kernel_rfl) (by kernel_rfl) (by kernel_rfl) (by kernel_rfl))
    rfl (by kernel_rfl) (by kernel_rfl) stampCuts_spec (fun W base args ds p hval hA hlt hz => stampCuts_of W base args ds p hval hA hlt hz)

theorem stampCuts_holds : Rows.StampCutsSaid :=
  OpenClaim.holds_of_wide 4 Try.f4 rfl rfl rfl rfl rfl rfl rfl ⟨rfl, rfl, rfl, rfl, rfl⟩ rfl rfl rfl rfl rfl (by kernel_rfl) Try.func4 (by kernel_rfl)
    (of_decide_eq_true (by kernel_rfl)) (by unfold Func.isWrapper; first | (rw [if_pos (by decide +kernel)]; kernel_rfl) | (rw [if_neg (by decide +kernel)]; exact ⟨rfl, rfl⟩))
    (fun os started H enc _ => stampCuts_lifted os started H enc)
#print axioms stampCuts_holds
end Go.Proofs.Ytmkmndgdakpojaa
