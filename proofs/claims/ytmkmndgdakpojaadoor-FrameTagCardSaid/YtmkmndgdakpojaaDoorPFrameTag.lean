/- FrameTag: the law's row, proved: for every input it returns true, and each argument reads as it did. -/
import Derived.Test.YtmkmndgdakpojaaDoorLaid
import Derived.Test.YtmkmndgdakpojaaDoorFr
namespace Go.Proofs.YtmkmndgdakpojaaDoor
open Go.RowKit
set_option linter.unusedVariables false

theorem frameTag_spec {H : Type} (ds : List (DataW H)) (h : ds.length = Tryd.f5.params.toList.length) : Rows.frameTagSpec.fn H (ds ++ []) = { results := [.lit (.bool true)], args := ds } := by
  rw [Tryd.params5] at h
  match ds, h with
  | [d0, d1, d2], _ => rfl

set_option maxRecDepth 100000 in
theorem frameTag_lifted (os : Os) (started : os.Started) (H : Type) (enc : TypeId × Value → H) :
    ReturnsInHanded {} Tryd.checked os 5 .any (fun w args => (Rows.frameTagSpec.pre enc Tryd.prog Tryd.f5 [] false w args ∧ laidMetH Tryd.prog laid1 w) ∧ sizedMet enc Tryd.prog Tryd.f5 (OpenSpec.ofChange Rows.frameTagSpec) false w args) (Rows.frameTagSpec.post enc Tryd.prog Tryd.f5 false true false false) :=
  lift_yesL started (by kernel_rfl) Tryd.func5
    (ChangeSpec.witness_shaped (enc := enc) (C := Tryd.checked) (os := os) (X := fun w _ => laidMetH Tryd.prog laid1 w) false (World.doorLaid Tryd.prog 400 os) #[.slice none 0 0, .agg #[.int .i64 0, .int .i64 0, .int .u64 0, .int .u64 0, .slice none 0 0, .int .i64 0, .int .i64 0, .slice none 0 0], .agg #[.int .u8 0, .int .u8 0, .int .u8 0, .int .u8 0, .int .u8 0, .int .u8 0, .int .u8 0, .int .u8 0, .int .u8 0, .int .u8 0, .int .u8 0, .int .u8 0, .int .u8 0, .int .u8 0, .int .u8 0, .int .u8 0, .int .u8 0, .int .u8 0, .int .u8 0, .int .u8 0, .int .u8 0, .int .u8 0, .int .u8 0, .int .u8 0, .int .u8 0, .int .u8 0, .int .u8 0, .int .u8 0, .int .u8 0, .int .u8 0, .int .u8 0, .int .u8 0]] 8 rfl (World.shaped_of_RefB (by kernel_rfl) (by kernel_rfl)) (by kernel_rfl) (by kernel_rfl) (by kernel_rfl) (met0 os _))
    rfl (by kernel_rfl) (by kernel_rfl) frameTag_spec (fun W base args ds p hval hA hlt hz hK => frameTag_of W base args ds p hval hA hlt hz hK)

theorem frameTag_holds : Rows.FrameTagSaid :=
  OpenClaim.holds_of_wide 5 Tryd.f5 rfl rfl rfl rfl rfl rfl rfl ⟨rfl, rfl, rfl, rfl, rfl⟩ rfl rfl rfl rfl rfl (by kernel_rfl) Tryd.func5 (by kernel_rfl)
    (of_decide_eq_true (by kernel_rfl)) (by unfold Func.isWrapper; first | (rw [if_pos (by decide +kernel)]; kernel_rfl) | (rw [if_neg (by decide +kernel)]; exact ⟨rfl, rfl⟩))
    (fun os started H enc _ => frameTag_lifted os started H enc)

theorem frameTag_card : Rows.FrameTagCardSaid :=
  Claim7.holds_tied_plain_at .later [] [.data] true (true, "9190a2c0adf909509a8aa18001333f287e4b4ee787dc49e95d1b49a9168cee7c") false
    frameTag_holds (fun _ h => by cases h) (by kernel_rfl) (fun _ h => by cases h) frameTag_row_tie rfl ⟨rfl, rfl⟩ (by kernel_rfl) rfl
    (fun f fn hf hfn => by
      obtain rfl : f = 5 := Option.some.inj ((show Tryd.prog.funcNamed "shallot/shallotlaw05.FrameTag" = some 5 by kernel_rfl).symm.trans hf) |>.symm
      obtain rfl : fn = Tryd.f5 := (Option.some.inj (Tryd.func5.symm.trans hfn)).symm
      exact ⟨by kernel_rfl, fun j t ht => by
        rw [Tryd.params5] at ht
        have hm : t ∈ [22, 30, 40] := by simpa using Array.mem_of_getElem? ht
        have hall : ([22, 30, 40].all fun u => !Tryd.prog.wantsStandIn u) = true := by kernel_rfl
        exact (show Tryd.prog.wantsStandIn t = false by simpa using List.all_eq_true.1 hall t hm)⟩)
    (by kernel_rfl)
#print axioms frameTag_card
end Go.Proofs.YtmkmndgdakpojaaDoor
