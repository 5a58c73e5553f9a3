/- What is left over; the numbers from one down. -/
import Derived.Test.YtmepcpklnpjebaaPa
import Derived.Test.YtmepcpklnpjebaaSame
namespace Go.Proofs.Ytmepcpklnpjebaa
open Go.RowKit
set_option linter.unusedSimpArgs false
set_option linter.unusedVariables false

theorem ret_int {k : IntKind} {a b : Int} (h : a = b) : Ending.returned (.int k a) = .returned (.int k b) := by rw [h]

theorem tmod_cases (d : Int) (m : Nat) (hm : 0 < m) : (d.tmod m = d % m) ∨ (d.tmod m = d % m - m ∧ 0 < d % m) := by
  rw [Int.tmod_eq_emod]
  split
  · left; omega
  · rename_i h
    right
    refine ⟨by simp, ?_⟩
    have h1 : ¬ (m : Int) ∣ d := fun hh => h (.inr hh)
    have h2 := Int.emod_nonneg d (b := (m : Int)) (by omega)
    have h3 : d % (m : Int) ≠ 0 := fun hh => h1 (Int.dvd_of_emod_eq_zero hh)
    omega

set_option maxHeartbeats 400000 in
theorem left_any (d : Int) (m : Nat) (w : World) (hm : 0 < m) (hm2 : m ≤ 100000) :
    Calls Try.prog 42 #[.int .i64 d, .int .i64 m] w (fun e w' => e = .returned (.int .i64 (leftN d m : Nat)) ∧ w = w') := by
  have h1 := Int.emod_lt_of_pos d (b := (m : Int)) (by omega)
  have h2 := Int.emod_nonneg d (b := (m : Int)) (by omega)
  have h3 := tmod_cases d m hm
  have h4 := leftN_cast d hm
  have hw : wrap64 (d.tmod (m : Int)) = d.tmod m := IntWalk.wrap64_in _ (by omega)
  have hw2 : d.tmod (m : Int) < 0 → wrap64 (d.tmod (m : Int) + m) = d.tmod m + m := fun h => IntWalk.wrap64_in _ (by omega)
  have h5 : ¬ (m : Int) = 0 := by omega
  by_cases hneg : d.tmod (m : Int) < 0
  · have hv : d.tmod (m : Int) + m = (leftN d m : Nat) := by omega
    have HV := Lib.hid hv
    replace hw2 := hw2 hneg
    clear hv h1 h2 h3 h4
    go_enter Try.func42, Try.ntmps42
    go_wp2_with fail
    go_ret
    exact ⟨ret_int (hw2.trans HV.out), rfl⟩
  · have hv : d.tmod (m : Int) = (leftN d m : Nat) := by omega
    have HV := Lib.hid hv
    clear hv h1 h2 h3 h4
    go_enter Try.func42, Try.ntmps42
    go_wp2_with fail
    go_ret
    exact ⟨ret_int HV.out, rfl⟩
end Go.Proofs.Ytmepcpklnpjebaa
