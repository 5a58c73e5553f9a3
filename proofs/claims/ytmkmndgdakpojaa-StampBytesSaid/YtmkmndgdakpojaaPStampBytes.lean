/- StampBytes: the law's row, proved: for every input it returns true, and each argument reads as it did. -/
import Derived.Test.YtmkmndgdakpojaaFrame
import Derived.Test.YtmkmndgdakpojaaTr
namespace Go.Proofs.Ytmkmndgdakpojaa
open Go.RowKit
set_option linter.unusedVariables false

theorem stampBytes_spec {H : Type} (ds : List (DataW H)) (h : ds.length = Try.f5.params.toList.length) : Rows.stampBytesSpec.fn H (ds ++ []) = { results := [.lit (.bool true)], args := ds } := by
  rw [Try.params5] at h
  match ds, h with
  | [d0, d1], _ => rfl

set_option maxRecDepth 100000 in
theorem stampBytes_lifted (os : Os) (started : os.Started) (H : Type) (enc : TypeId × Value → H) :
    ReturnsInHanded {} Try.checked os 5 .any (Rows.stampBytesSpec.pre6 enc Try.prog Try.f5 Rows.stampBytesRow.domain false) (Rows.stampBytesSpec.post enc Try.prog Try.f5 false true false false) :=
  lift_yes started (by kernel_rfl) Try.func5
    (ChangeSpec.witness6 (enc := enc) (C := Try.checked) false ⟨#[], #[.agg #[.int .u64 0, .int .u64 0, .slice none 0 0], .agg #[.int .u64 0, .int .u64 0, .slice none 0 0]], []⟩ 8 (by kernel_rfl) (by kernel_rfl) (by kernel_rfl) (by kernel_rfl))
    rfl (by kernel_rfl) (by kernel_rfl) stampBytes_spec (fun W base args ds p hval hA hlt hz => stampBytes_of W base args ds p hval hA hlt hz)

theorem stampBytes_holds : Rows.StampBytesSaid :=
  OpenClaim.holds_of_wide 5 Try.f5 rfl rfl rfl rfl rfl rfl rfl ⟨rfl, rfl, rfl, rfl, rfl⟩ rfl rfl rfl rfl rfl (by kernel_rfl) Try.func5 (by kernel_rfl)
    (of_decide_eq_true (by kernel_rfl)) (by unfold Func.isWrapper; first | (rw [if_pos (by decide +kernel)]; kernel_rfl) | (rw [if_neg (by decide +kernel)]; exact ⟨rfl, rfl⟩))
    (fun os started H enc _ => stampBytes_lifted os started H enc)
#print axioms stampBytes_holds
end Go.Proofs.Ytmkmndgdakpojaa
