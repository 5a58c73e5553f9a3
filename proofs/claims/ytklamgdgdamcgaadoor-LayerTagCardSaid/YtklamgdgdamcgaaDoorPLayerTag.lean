/- LayerTag: the law's row, proved: for every input it returns true, and each argument reads as it did. -/
import Derived.Test.YtklamgdgdamcgaaDoorLaid
import Derived.Test.YtklamgdgdamcgaaDoorLi
namespace Go.Proofs.YtklamgdgdamcgaaDoor
open Go.RowKit
set_option linter.unusedVariables false

theorem layerTag_spec {H : Type} (ds : List (DataW H)) (h : ds.length = Tryd.f15.params.toList.length) : Rows.layerTagSpec.fn H (ds ++ []) = { results := [.lit (.bool true)], args := ds } := by
  rw [Tryd.params15] at h
  match ds, h with
  | [d0, d1, d2], _ => rfl

set_option maxRecDepth 100000 in
theorem layerTag_lifted (os : Os) (started : os.Started) (H : Type) (enc : TypeId × Value → H) :
    ReturnsInHanded {} Tryd.checked os 15 .any (fun w args => (Rows.layerTagSpec.pre enc Tryd.prog Tryd.f15 [] false w args ∧ laidMetH Tryd.prog laid1 w) ∧ sizedMet enc Tryd.prog Tryd.f15 (OpenSpec.ofChange Rows.layerTagSpec) false w args) (Rows.layerTagSpec.post enc Tryd.prog Tryd.f15 false true false false) :=
  lift_yesL started (by kernel_rfl) Tryd.func15
    (ChangeSpec.witness_shaped (enc := enc) (C := Tryd.checked) (os := os) (X := fun w _ => laidMetH Tryd.prog laid1 w) false (World.doorLaid Tryd.prog 400 os) #[.slice none 0 0, .slice none 0 0, .agg #[.int .u8 0, .int .u8 0, .int .u8 0, .int .u8 0, .int .u8 0, .int .u8 0, .int .u8 0, .int .u8 0, .int .u8 0, .int .u8 0, .int .u8 0, .int .u8 0, .int .u8 0, .int .u8 0, .int .u8 0, .int .u8 0, .int .u8 0, .int .u8 0, .int .u8 0, .int .u8 0, .int .u8 0, .int .u8 0, .int .u8 0, .int .u8 0, .int .u8 0, .int .u8 0, .int .u8 0, .int .u8 0, .int .u8 0, .int .u8 0, .int .u8 0, .int .u8 0]] 8 rfl (World.shaped_of_RefB (by kernel_rfl) (by kernel_rfl)) (by kernel_rfl) (by kernel_rfl) (by kernel_rfl) (met0 os _))
    rfl (by kernel_rfl) (by kernel_rfl) layerTag_spec (fun W base args ds p hval hA hlt hz hK => layerTag_of W base args ds p hval hA hlt hz hK)

theorem layerTag_holds : Rows.LayerTagSaid :=
  OpenClaim.holds_of_wide 15 Tryd.f15 rfl rfl rfl rfl rfl rfl rfl ⟨rfl, rfl, rfl, rfl, rfl⟩ rfl rfl rfl rfl rfl (by kernel_rfl) Tryd.func15 (by kernel_rfl)
    (of_decide_eq_true (by kernel_rfl)) (by unfold Func.isWrapper; first | (rw [if_pos (by decide +kernel)]; kernel_rfl) | (rw [if_neg (by decide +kernel)]; exact ⟨rfl, rfl⟩))
    (fun os started H enc _ => layerTag_lifted os started H enc)

theorem layerTag_card : Rows.LayerTagCardSaid :=
  Claim7.holds_tied_plain_at .later [] [.data] true (true, "afae67657bc4a1834149cd058dc2bf98e2f08ff0dcae66f118c210f6a9e156f6") false
    layerTag_holds (fun _ h => by cases h) (by kernel_rfl) (fun _ h => by cases h) layerTag_row_tie rfl ⟨rfl, rfl⟩ (by kernel_rfl) rfl
    (fun f fn hf hfn => by
      obtain rfl : f = 15 := Option.some.inj ((show Tryd.prog.funcNamed "shallot/shallotlaw08.LayerTag" = some 15 by kernel_rfl).symm.trans hf) |>.symm
      obtain rfl : fn = Tryd.f15 := (Option.some.inj (Tryd.func15.symm.trans hfn)).symm
      exact ⟨by kernel_rfl, fun j t ht => by
        rw [Tryd.params15] at ht
        have hm : t ∈ [23, 23, 54] := by simpa using Array.mem_of_getElem? ht
        have hall : ([23, 23, 54].all fun u => !Tryd.prog.wantsStandIn u) = true := by kernel_rfl
        exact (show Tryd.prog.wantsStandIn t = false by simpa using List.all_eq_true.1 hall t hm)⟩)
    (by kernel_rfl)
#print axioms layerTag_card
end Go.Proofs.YtklamgdgdamcgaaDoor
