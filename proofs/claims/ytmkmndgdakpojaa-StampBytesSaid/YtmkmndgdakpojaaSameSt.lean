/- The reference's comparison of stamps. -/
import Derived.Test.YtmkmndgdakpojaaSame
namespace Go.Proofs.Ytmkmndgdakpojaa
open Go.RowKit
set_option linter.unusedSimpArgs false
set_option linter.unusedVariables false

/-- It tells a truth value, and turns nothing that was there. -/
def Tells (w : World) (b : Bool) (e : Ending) (w' : World) : Prop := e = .returned (.bool b) ∧ Below w.heap.size w w'

set_option maxHeartbeats 1000000 in
theorem rsame_any (e1 r1 e2 r2 : Int) (A B : Option Addr) (n c m d : Nat) (xs ys : List Int) (w : World) (hn : xs.length = n) (hm : ys.length = m) (hx : Rd w A (nums .i64 xs)) (hy : Rd w B (nums .i64 ys)) (hlen : n ≤ maxLen) :
    Calls Try.prog 12 #[.agg #[.int .u64 e1, .int .u64 r1, .slice A n c], .agg #[.int .u64 e2, .int .u64 r2, .slice B m d]] w (Tells w (decide (e1 = e2 ∧ r1 = r2 ∧ xs = ys))) := by
  have HN := Lib.hid hn
  have HM := Lib.hid hm
  have HL := Lib.hid hlen
  clear hn hm hlen
  by_cases c1 : e1 = e2
  · subst c1
    by_cases c2 : r1 = r2
    · subst c2
      go_enter Try.func12, Try.ntmps12
      go_wp2_with fail
      refine (sameInts_any _ _ _ _ _ _ _ _ _ HN.out HM.out (hx.below (bal (bal brf _) _)) (hy.below (bal (bal brf _) _)) HL.out).mono ?_; rintro e w1 ⟨rfl, hb⟩
      go_wp2_with fail
      go_ret
      exact ⟨by simp, bgo (bal (bal brf _) _) hb⟩
    · have c2b : (r1 == r2) = false := by simpa using c2
      go_enter Try.func12, Try.ntmps12
      go_wp2_with fail
      go_ret
      exact ⟨by simp [c2], bal (bal brf _) _⟩
  · have c1b : (e1 == e2) = false := by simpa using c1
    go_enter Try.func12, Try.ntmps12
    go_wp2_with fail
    go_ret
    exact ⟨by simp [c1], bal (bal brf _) _⟩
end Go.Proofs.Ytmkmndgdakpojaa
