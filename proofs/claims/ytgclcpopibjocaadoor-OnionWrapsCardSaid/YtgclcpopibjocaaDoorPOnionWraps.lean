/- OnionWraps: the law's row, proved: for every input it returns true, and each argument reads as it did. -/
import Derived.Test.YtgclcpopibjocaaDoorLaid
import Derived.Test.YtgclcpopibjocaaDoorOt
namespace Go.Proofs.YtgclcpopibjocaaDoor
open Go.RowKit
set_option linter.unusedVariables false

theorem onionWraps_spec {H : Type} (ds : List (DataW H)) (h : ds.length = Tryd.f13.params.toList.length) : Rows.onionWrapsSpec.fn H (ds ++ []) = { results := [.lit (.bool true)], args := ds } := by
  rw [Tryd.params13] at h
  match ds, h with
  | [d0, d1, d2, d3, d4, d5], _ => rfl

set_option maxRecDepth 100000 in
theorem onionWraps_lifted (os : Os) (started : os.Started) (H : Type) (enc : TypeId × Value → H) :
    ReturnsInHanded {} Tryd.checked os 13 .any (fun w args => (Rows.onionWrapsSpec.pre enc Tryd.prog Tryd.f13 [] false w args ∧ laidMetH Tryd.prog laid1 w) ∧ sizedMet enc Tryd.prog Tryd.f13 (OpenSpec.ofChange Rows.onionWrapsSpec) false w args) (Rows.onionWrapsSpec.post enc Tryd.prog Tryd.f13 false true false false) :=
  lift_yesL started (by kernel_rfl) Tryd.func13
    (ChangeSpec.witness_shaped (enc := enc) (C := Tryd.checked) (os := os) (X := fun w _ => laidMetH Tryd.prog laid1 w) false (World.doorLaid Tryd.prog 400 os) #[.slice none 0 0, .slice none 0 0, .slice none 0 0, .slice none 0 0, .agg #[.int .u64 0, .int .u64 0, .slice none 0 0], .int .i64 0] 8 rfl (World.shaped_of_RefB (by kernel_rfl) (by kernel_rfl)) (by kernel_rfl) (by kernel_rfl) (by kernel_rfl) (met0 os _))
    rfl (by kernel_rfl) (by kernel_rfl) onionWraps_spec (fun W base args ds p hval hA hlt hz hK => onionWraps_of W base args ds p hval hA hlt hz hK)

theorem onionWraps_holds : Rows.OnionWrapsSaid :=
  OpenClaim.holds_of_wide 13 Tryd.f13 rfl rfl rfl rfl rfl rfl rfl ⟨rfl, rfl, rfl, rfl, rfl⟩ rfl rfl rfl rfl rfl (by kernel_rfl) Tryd.func13 (by kernel_rfl)
    (of_decide_eq_true (by kernel_rfl)) (by unfold Func.isWrapper; first | (rw [if_pos (by decide +kernel)]; kernel_rfl) | (rw [if_neg (by decide +kernel)]; exact ⟨rfl, rfl⟩))
    (fun os started H enc _ => onionWraps_lifted os started H enc)

theorem onionWraps_card : Rows.OnionWrapsCardSaid :=
  Claim7.holds_tied_plain_at .later [] [.data] true (true, "604c203bac5c13bd54bd7ff5890ba24e52ca0012d4c213f0b50fc9d47d778c78") false
    onionWraps_holds (fun _ h => by cases h) (by kernel_rfl) (fun _ h => by cases h) onionWraps_row_tie rfl ⟨rfl, rfl⟩ (by kernel_rfl) rfl
    (fun f fn hf hfn => by
      obtain rfl : f = 13 := Option.some.inj ((show Tryd.prog.funcNamed "shallot/shallotlaw09.OnionWraps" = some 13 by kernel_rfl).symm.trans hf) |>.symm
      obtain rfl : fn = Tryd.f13 := (Option.some.inj (Tryd.func13.symm.trans hfn)).symm
      exact ⟨by kernel_rfl, fun j t ht => by
        rw [Tryd.params13] at ht
        have hm : t ∈ [44, 44, 22, 22, 43, 3] := by simpa using Array.mem_of_getElem? ht
        have hall : ([44, 44, 22, 22, 43, 3].all fun u => !Tryd.prog.wantsStandIn u) = true := by kernel_rfl
        exact (show Tryd.prog.wantsStandIn t = false by simpa using List.all_eq_true.1 hall t hm)⟩)
    (by kernel_rfl)
#print axioms onionWraps_card
end Go.Proofs.YtgclcpopibjocaaDoor
