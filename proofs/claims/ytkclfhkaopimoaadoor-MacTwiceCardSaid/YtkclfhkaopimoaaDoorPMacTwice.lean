/- MacTwice: the law's row, proved: for every input it returns true, and each argument reads as it did. -/
import Derived.Test.YtkclfhkaopimoaaDoorLaid
import Derived.Test.YtkclfhkaopimoaaDoorMg
namespace Go.Proofs.YtkclfhkaopimoaaDoor
open Go.RowKit
set_option linter.unusedVariables false

theorem macTwice_spec {H : Type} (ds : List (DataW H)) (h : ds.length = Tryd.f12.params.toList.length) : Rows.macTwiceSpec.fn H (ds ++ []) = { results := [.lit (.bool true)], args := ds } := by
  rw [Tryd.params12] at h
  match ds, h with
  | [d0, d1], _ => rfl

set_option maxRecDepth 100000 in
theorem macTwice_lifted (os : Os) (started : os.Started) (H : Type) (enc : TypeId × Value → H) :
    ReturnsInHanded {} Tryd.checked os 12 .any (fun w args => (Rows.macTwiceSpec.pre enc Tryd.prog Tryd.f12 [] false w args ∧ laidMetH Tryd.prog laid1 w) ∧ sizedMet enc Tryd.prog Tryd.f12 (OpenSpec.ofChange Rows.macTwiceSpec) false w args) (Rows.macTwiceSpec.post enc Tryd.prog Tryd.f12 false true false false) :=
  lift_yesL started (by kernel_rfl) Tryd.func12
    (ChangeSpec.witness_shaped (enc := enc) (C := Tryd.checked) (os := os) (X := fun w _ => laidMetH Tryd.prog laid1 w) false (World.doorLaid Tryd.prog 400 os) #[.slice none 0 0, .slice none 0 0] 8 rfl (World.shaped_of_RefB (by kernel_rfl) (by kernel_rfl)) (by kernel_rfl) (by kernel_rfl) (by kernel_rfl) (met0 os _))
    rfl (by kernel_rfl) (by kernel_rfl) macTwice_spec (fun W base args ds p hval hA hlt hz hK => macTwice_of W base args ds p hval hA hlt hz hK)

theorem macTwice_holds : Rows.MacTwiceSaid :=
  OpenClaim.holds_of_wide 12 Tryd.f12 rfl rfl rfl rfl rfl rfl rfl ⟨rfl, rfl, rfl, rfl, rfl⟩ rfl rfl rfl rfl rfl (by kernel_rfl) Tryd.func12 (by kernel_rfl)
    (of_decide_eq_true (by kernel_rfl)) (by unfold Func.isWrapper; first | (rw [if_pos (by decide +kernel)]; kernel_rfl) | (rw [if_neg (by decide +kernel)]; exact ⟨rfl, rfl⟩))
    (fun os started H enc _ => macTwice_lifted os started H enc)

theorem macTwice_card : Rows.MacTwiceCardSaid :=
  Claim7.holds_tied_plain_at .later [] [.data] true (true, "216aff96c11110dab00c16a25f6841e5483664498896f808911cabd9ef41eb8e") false
    macTwice_holds (fun _ h => by cases h) (by kernel_rfl) (fun _ h => by cases h) macTwice_row_tie rfl ⟨rfl, rfl⟩ (by kernel_rfl) rfl
    (fun f fn hf hfn => by
      obtain rfl : f = 12 := Option.some.inj ((show Tryd.prog.funcNamed "shallot/shallotlaw02.MacTwice" = some 12 by kernel_rfl).symm.trans hf) |>.symm
      obtain rfl : fn = Tryd.f12 := (Option.some.inj (Tryd.func12.symm.trans hfn)).symm
      exact ⟨by kernel_rfl, fun j t ht => by
        rw [Tryd.params12] at ht
        have hm : t ∈ [22, 22] := by simpa using Array.mem_of_getElem? ht
        have hall : ([22, 22].all fun u => !Tryd.prog.wantsStandIn u) = true := by kernel_rfl
        exact (show Tryd.prog.wantsStandIn t = false by simpa using List.all_eq_true.1 hall t hm)⟩)
    (by kernel_rfl)
#print axioms macTwice_card
end Go.Proofs.YtkclfhkaopimoaaDoor
