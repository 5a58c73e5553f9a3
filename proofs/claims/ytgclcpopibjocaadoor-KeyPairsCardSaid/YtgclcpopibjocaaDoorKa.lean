/- Contracts of the small functions of package key, of its reference, and of their callees: each returns its plain value, and turns nothing that was there. -/
import Derived.Test.YtgclcpopibjocaaDoorRows
import Derived.WalkKit
import Derived.WalkSpells
import Derived.WalkLawsBesides
namespace Go.Proofs.YtgclcpopibjocaaDoor
open Go.RowKit
set_option linter.unusedSimpArgs false
set_option linter.unusedVariables false

theorem within_any (n lo hi : Int) (w : World) :
    Calls Tryd.prog 49 #[.int .i64 n, .int .i64 lo, .int .i64 hi] w fun e w' => e = .returned (.bool (decide (lo ≤ n) && decide (n ≤ hi))) ∧ w = w' := by
  by_cases h1 : lo ≤ n <;> by_cases h2 : n ≤ hi
  all_goals
    go_enter Tryd.func49, Tryd.ntmps49
    go_wp2
    go_ret
    simp [h1, h2]

theorem rwithin_any (n lo hi : Int) (w : World) :
    Calls Tryd.prog 46 #[.int .i64 n, .int .i64 lo, .int .i64 hi] w fun e w' => e = .returned (.bool (decide (lo ≤ n) && decide (n ≤ hi))) ∧ w = w' := by
  by_cases h1 : lo ≤ n <;> by_cases h2 : n ≤ hi
  all_goals
    go_enter Tryd.func46, Tryd.ntmps46
    go_wp2
    go_ret
    simp [h1, h2]

/-- A configuration's value. -/
abbrev cfgV (s : Value) (ch st cl qu clo lo ag wi ro se : Int) : Value :=
  .agg #[s, .int .i64 ch, .int .i64 st, .int .i64 cl, .int .i64 qu, .int .i64 clo, .int .i64 lo, .int .i64 ag, .int .i64 wi, .int .u64 ro, .int .u64 se]

/-- What a configuration must be. -/
def okC (n : Nat) (ch st cl qu clo lo ag wi ro se : Int) : Prop :=
  (n : Int) ≤ 64 ∧ 1 ≤ ch ∧ ch ≤ 8 ∧ 0 ≤ st ∧ st ≤ 8 ∧ 1 ≤ cl ∧ cl ≤ 8 ∧ 1 ≤ qu ∧ qu ≤ 64 ∧ 1 ≤ clo ∧ clo ≤ 10000 ∧ clo < lo ∧ lo ≤ 10000 ∧ 1 ≤ ag ∧ ag ≤ 10000 ∧ 1 ≤ wi ∧ wi ≤ 64 ∧ 1 ≤ ro ∧ 1 ≤ se

def CheckEnds (ok : Prop) (w : World) (e : Ending) (w' : World) : Prop := ((ok ∧ e = .returned (.int .i64 0)) ∨ (¬ ok ∧ e = .returned (.int .i64 1))) ∧ Below w.heap.size w w'

set_option maxHeartbeats 1000000 in
theorem check_any (a : Option Addr) (n c : Nat) (ch st cl qu clo lo ag wi ro se : Int) (w : World) :
    Calls Tryd.prog 23 #[cfgV (.slice a n c) ch st cl qu clo lo ag wi ro se] w (CheckEnds (okC n ch st cl qu clo lo ag wi ro se) w) := by
  go_enter Tryd.func23, Tryd.ntmps23
  go_wp2_with (go_at_call 49; refine (within_any _ _ _ _).mono ?_; rintro e w' ⟨rfl, rfl⟩)
  all_goals
    go_ret
    refine ⟨?_, (Below.refl _ _).alloc (Nat.le_refl _) _⟩
    simp only [Bool.not_eq_true', Bool.not_eq_false', decide_eq_true_eq, decide_eq_false_iff_not] at *
    first
      | exact .inl ⟨by unfold okC; omega, rfl⟩
      | exact .inr ⟨by unfold okC; omega, rfl⟩
      | (exfalso; omega)
end Go.Proofs.YtgclcpopibjocaaDoor
