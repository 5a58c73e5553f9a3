/- LayerSeals: the law's row, proved: for every input it returns true, and each argument reads as it did. -/
import Derived.Test.YtklamgdgdamcgaaDoorLaid
import Derived.Test.YtklamgdgdamcgaaDoorLe
namespace Go.Proofs.YtklamgdgdamcgaaDoor
open Go.RowKit
set_option linter.unusedVariables false

theorem layerSeals_spec {H : Type} (ds : List (DataW H)) (h : ds.length = Tryd.f11.params.toList.length) : Rows.layerSealsSpec.fn H (ds ++ []) = { results := [.lit (.bool true)], args := ds } := by
  rw [Tryd.params11] at h
  match ds, h with
  | [d0, d1, d2, d3, d4], _ => rfl

set_option maxRecDepth 100000 in
theorem layerSeals_lifted (os : Os) (started : os.Started) (H : Type) (enc : TypeId × Value → H) :
    ReturnsInHanded {} Tryd.checked os 11 .any (fun w args => (Rows.layerSealsSpec.pre enc Tryd.prog Tryd.f11 [] false w args ∧ laidMetH Tryd.prog laid1 w) ∧ sizedMet enc Tryd.prog Tryd.f11 (OpenSpec.ofChange Rows.layerSealsSpec) false w args) (Rows.layerSealsSpec.post enc Tryd.prog Tryd.f11 false true false false) :=
  lift_yesL started (by kernel_rfl) Tryd.func11
    (ChangeSpec.witness_shaped (enc := enc) (C := Tryd.checked) (os := os) (X := fun w _ => laidMetH Tryd.prog laid1 w) false (World.doorLaid Tryd.prog 400 os) #[.slice none 0 0, .slice none 0 0, .slice none 0 0, .int .i64 0, .int .u8 0] 8 rfl (World.shaped_of_RefB (by kernel_rfl) (by kernel_rfl)) (by kernel_rfl) (by kernel_rfl) (by kernel_rfl) (met0 os _))
    rfl (by kernel_rfl) (by kernel_rfl) layerSeals_spec (fun W base args ds p hval hA hlt hz hK => layerSeals_of W base args ds p hval hA hlt hz hK)

theorem layerSeals_holds : Rows.LayerSealsSaid :=
  OpenClaim.holds_of_wide 11 Tryd.f11 rfl rfl rfl rfl rfl rfl rfl ⟨rfl, rfl, rfl, rfl, rfl⟩ rfl rfl rfl rfl rfl (by kernel_rfl) Tryd.func11 (by kernel_rfl)
    (of_decide_eq_true (by kernel_rfl)) (by unfold Func.isWrapper; first | (rw [if_pos (by decide +kernel)]; kernel_rfl) | (rw [if_neg (by decide +kernel)]; exact ⟨rfl, rfl⟩))
    (fun os started H enc _ => layerSeals_lifted os started H enc)

theorem layerSeals_card : Rows.LayerSealsCardSaid :=
  Claim7.holds_tied_plain_at .later [] [.data] true (true, "afae67657bc4a1834149cd058dc2bf98e2f08ff0dcae66f118c210f6a9e156f6") false
    layerSeals_holds (fun _ h => by cases h) (by kernel_rfl) (fun _ h => by cases h) layerSeals_row_tie rfl ⟨rfl, rfl⟩ (by kernel_rfl) rfl
    (fun f fn hf hfn => by
      obtain rfl : f = 11 := Option.some.inj ((show Tryd.prog.funcNamed "shallot/shallotlaw08.LayerSeals" = some 11 by kernel_rfl).symm.trans hf) |>.symm
      obtain rfl : fn = Tryd.f11 := (Option.some.inj (Tryd.func11.symm.trans hfn)).symm
      exact ⟨by kernel_rfl, fun j t ht => by
        rw [Tryd.params11] at ht
        have hm : t ∈ [23, 23, 23, 3, 5] := by simpa using Array.mem_of_getElem? ht
        have hall : ([23, 23, 23, 3, 5].all fun u => !Tryd.prog.wantsStandIn u) = true := by kernel_rfl
        exact (show Tryd.prog.wantsStandIn t = false by simpa using List.all_eq_true.1 hall t hm)⟩)
    (by kernel_rfl)
#print axioms layerSeals_card
end Go.Proofs.YtklamgdgdamcgaaDoor
