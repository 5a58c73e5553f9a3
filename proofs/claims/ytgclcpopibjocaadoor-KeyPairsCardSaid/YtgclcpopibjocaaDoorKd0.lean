/- The example of the laws on keys, and the walks of KeyNodes, KeyBack. -/
import Derived.Test.YtgclcpopibjocaaDoorBase
import Derived.Test.YtgclcpopibjocaaDoorKc0
namespace Go.Proofs.YtgclcpopibjocaaDoor
open Go.RowKit
set_option linter.unusedSimpArgs false
set_option linter.unusedVariables false

theorem check_ok {a : Option Addr} {n c : Nat} {ch st cl qu clo lo ag wi ro se : Int} (w : World) (h : okC n ch st cl qu clo lo ag wi ro se) :
    Calls Tryd.prog 23 #[cfgV (.slice a n c) ch st cl qu clo lo ag wi ro se] w fun e w' => e = .returned (.int .i64 0) ∧ Below w.heap.size w w' :=
  (check_any a n c ch st cl qu clo lo ag wi ro se w).mono fun e w' ⟨he, hb⟩ => ⟨he.elim (·.2) (fun x => absurd h x.1), hb⟩
theorem check_bad {a : Option Addr} {n c : Nat} {ch st cl qu clo lo ag wi ro se : Int} (w : World) (h : ¬ okC n ch st cl qu clo lo ag wi ro se) :
    Calls Tryd.prog 23 #[cfgV (.slice a n c) ch st cl qu clo lo ag wi ro se] w fun e w' => e = .returned (.int .i64 1) ∧ Below w.heap.size w w' :=
  (check_any a n c ch st cl qu clo lo ag wi ro se w).mono fun e w' ⟨he, hb⟩ => ⟨he.elim (fun x => absurd x.1 h) (·.2), hb⟩
theorem rcheck_ok {a : Option Addr} {n c : Nat} {ch st cl qu clo lo ag wi ro se : Int} (w : World) (h : okC n ch st cl qu clo lo ag wi ro se) :
    Calls Tryd.prog 15 #[cfgV (.slice a n c) ch st cl qu clo lo ag wi ro se] w fun e w' => e = .returned (.int .i64 0) ∧ Below w.heap.size w w' :=
  (rcheck_any a n c ch st cl qu clo lo ag wi ro se w).mono fun e w' ⟨he, hb⟩ => ⟨he.elim (·.2) (fun x => absurd h x.1), hb⟩
theorem rcheck_bad {a : Option Addr} {n c : Nat} {ch st cl qu clo lo ag wi ro se : Int} (w : World) (h : ¬ okC n ch st cl qu clo lo ag wi ro se) :
    Calls Tryd.prog 15 #[cfgV (.slice a n c) ch st cl qu clo lo ag wi ro se] w fun e w' => e = .returned (.int .i64 1) ∧ Below w.heap.size w w' :=
  (rcheck_any a n c ch st cl qu clo lo ag wi ro se w).mono fun e w' ⟨he, hb⟩ => ⟨he.elim (fun x => absurd x.1 h) (·.2), hb⟩

theorem okC_plain : okC 0 2 1 2 3 4 20 5 4 1 1 := by unfold okC; omega
theorem nokC_zero : ¬ okC 0 0 0 0 0 0 0 0 0 0 0 := by unfold okC; omega

set_option maxHeartbeats 1000000 in
theorem live_any (w : World) : Calls Tryd.prog 14 #[] w (Yes w) := by
  have n0 : nodN (1 + (2 + 1)) 2 0 = 4 := by simp [nodN]
  have n1 : nodN (1 + (2 + 1)) 2 1 = 5 := by simp [nodN]
  have kp := okC_plain
  have kz := nokC_zero
  have N0 := Lib.hid n0
  have N1 := Lib.hid n1
  have KP := Lib.hid kp
  have KZ := Lib.hid kz
  clear n0 n1 kp kz
  go_enter Tryd.func14, Tryd.ntmps14
  go_wp2_with fail
  refine (plain_any _).mono ?_; rintro e w1 ⟨rfl, hb1⟩
  go_wp2_with fail
  refine (check_ok _ KP.out).mono ?_; rintro e w2 ⟨rfl, hb2⟩
  go_wp2_with fail
  refine (plain_any _).mono ?_; rintro e w3 ⟨rfl, hb3⟩
  go_wp2_with fail
  refine (node_any _ _ _ _ _ _ _ _ _ _ _ _ _ (by omega) (by omega) (by omega) (by omega) (by omega) (by omega)).mono ?_; rintro e w4 ⟨rfl, hb4⟩
  rw [N0.out]
  go_wp2_with fail
  refine (plain_any _).mono ?_; rintro e w5 ⟨rfl, hb5⟩
  go_wp2_with fail
  refine (node_any _ _ _ _ _ _ _ _ _ _ _ _ _ (by omega) (by omega) (by omega) (by omega) (by omega) (by omega)).mono ?_; rintro e w6 ⟨rfl, hb6⟩
  rw [N1.out]
  go_wp2_with fail
  refine (check_bad _ KZ.out).mono ?_; rintro e w7 ⟨rfl, hb7⟩
  go_wp2_with fail
  go_ret
  exact ⟨rfl, bgo (bgo (bgo (bgo (bgo (bgo hb1 hb2) hb3) hb4) hb5) hb6) hb7⟩
end Go.Proofs.YtgclcpopibjocaaDoor
