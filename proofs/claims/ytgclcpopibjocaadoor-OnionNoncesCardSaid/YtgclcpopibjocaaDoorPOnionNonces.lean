/- OnionNonces: the law's row, proved: for every input it returns true, and each argument reads as it did. -/
import Derived.Test.YtgclcpopibjocaaDoorLaid
import Derived.Test.YtgclcpopibjocaaDoorOn
namespace Go.Proofs.YtgclcpopibjocaaDoor
open Go.RowKit
set_option linter.unusedVariables false

theorem onionNonces_spec {H : Type} (ds : List (DataW H)) (h : ds.length = Tryd.f6.params.toList.length) : Rows.onionNoncesSpec.fn H (ds ++ []) = { results := [.lit (.bool true)], args := ds } := by
  rw [Tryd.params6] at h
  match ds, h with
  | [d0, d1], _ => rfl

set_option maxRecDepth 100000 in
theorem onionNonces_lifted (os : Os) (started : os.Started) (H : Type) (enc : TypeId × Value → H) :
    ReturnsInHanded {} Tryd.checked os 6 .any (fun w args => (Rows.onionNoncesSpec.pre enc Tryd.prog Tryd.f6 [] false w args ∧ laidMetH Tryd.prog laid1 w) ∧ sizedMet enc Tryd.prog Tryd.f6 (OpenSpec.ofChange Rows.onionNoncesSpec) false w args) (Rows.onionNoncesSpec.post enc Tryd.prog Tryd.f6 false true false false) :=
  lift_yesL started (by kernel_rfl) Tryd.func6
    (ChangeSpec.witness_shaped (enc := enc) (C := Tryd.checked) (os := os) (X := fun w _ => laidMetH Tryd.prog laid1 w) false (World.doorLaid Tryd.prog 400 os) #[.slice none 0 0, .agg #[.int .u64 0, .int .u64 0, .slice none 0 0]] 8 rfl (World.shaped_of_RefB (by kernel_rfl) (by kernel_rfl)) (by kernel_rfl) (by kernel_rfl) (by kernel_rfl) (met0 os _))
    rfl (by kernel_rfl) (by kernel_rfl) onionNonces_spec (fun W base args ds p hval hA hlt hz hK => onionNonces_of W base args ds p hval hA hlt hz hK)

theorem onionNonces_holds : Rows.OnionNoncesSaid :=
  OpenClaim.holds_of_wide 6 Tryd.f6 rfl rfl rfl rfl rfl rfl rfl ⟨rfl, rfl, rfl, rfl, rfl⟩ rfl rfl rfl rfl rfl (by kernel_rfl) Tryd.func6 (by kernel_rfl)
    (of_decide_eq_true (by kernel_rfl)) (by unfold Func.isWrapper; first | (rw [if_pos (by decide +kernel)]; kernel_rfl) | (rw [if_neg (by decide +kernel)]; exact ⟨rfl, rfl⟩))
    (fun os started H enc _ => onionNonces_lifted os started H enc)

theorem onionNonces_card : Rows.OnionNoncesCardSaid :=
  Claim7.holds_tied_plain_at .later [] [.data] true (true, "604c203bac5c13bd54bd7ff5890ba24e52ca0012d4c213f0b50fc9d47d778c78") false
    onionNonces_holds (fun _ h => by cases h) (by kernel_rfl) (fun _ h => by cases h) onionNonces_row_tie rfl ⟨rfl, rfl⟩ (by kernel_rfl) rfl
    (fun f fn hf hfn => by
      obtain rfl : f = 6 := Option.some.inj ((show Tryd.prog.funcNamed "shallot/shallotlaw09.OnionNonces" = some 6 by kernel_rfl).symm.trans hf) |>.symm
      obtain rfl : fn = Tryd.f6 := (Option.some.inj (Tryd.func6.symm.trans hfn)).symm
      exact ⟨by kernel_rfl, fun j t ht => by
        rw [Tryd.params6] at ht
        have hm : t ∈ [22, 43] := by simpa using Array.mem_of_getElem? ht
        have hall : ([22, 43].all fun u => !Tryd.prog.wantsStandIn u) = true := by kernel_rfl
        exact (show Tryd.prog.wantsStandIn t = false by simpa using List.all_eq_true.1 hall t hm)⟩)
    (by kernel_rfl)
#print axioms onionNonces_card
end Go.Proofs.YtgclcpopibjocaaDoor
