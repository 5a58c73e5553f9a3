/- Contracts of Client, Server, Node, Nodes, in package key and in its reference, for a configuration whose numbers are small. -/
import Derived.Test.YtgclcpopibjocaaDoorKb0
namespace Go.Proofs.YtgclcpopibjocaaDoor
open Go.RowKit
set_option linter.unusedSimpArgs false
set_option linter.unusedVariables false

def nodN (b cl k : Int) : Int := if 0 ≤ k ∧ k < cl then b + k else -1
section
variable (s : Value) (ch st cl qu clo lo ag wi ro se : Int) (w : World)

set_option maxHeartbeats 1000000 in
theorem node_any (n : Int) (h0 : 1 ≤ ch) (h1 : ch ≤ 8) (h2 : 0 ≤ st) (h3 : st ≤ 8) (h4 : 1 ≤ cl) (h5 : cl ≤ 8) :
    Calls Tryd.prog 45 #[cfgV s ch st cl qu clo lo ag wi ro se, .int .i64 n] w fun e w' => e = .returned (.int .i64 (nodN (1 + (ch + st)) cl n)) ∧ Below w.heap.size w w' := by
  have hyes : 0 ≤ n → n < cl → nodN (1 + (ch + st)) cl n = 1 + (ch + st) + n := fun a b => by simp [nodN, a, b]
  have hno : (n < 0 ∨ cl ≤ n) → nodN (1 + (ch + st)) cl n = -1 := fun a => by
    simp [nodN]
    exact fun _ _ => by omega
  have HY := Lib.hid hyes
  have HN := Lib.hid hno
  clear hyes hno
  go_enter Tryd.func45, Tryd.ntmps45
  go_wp2_with (go_at_call 67; refine (servers_any _ _ _ _ _ _ _ _ _ _ _ _ (by omega) (by omega)).mono ?_; rintro e w1 ⟨rfl, hb⟩)
  all_goals
    go_ret
    first
      | exact ⟨by rw [HN.out (by omega)]; rfl, (Below.refl _ _).alloc (Nat.le_refl _) _⟩
      | exact ⟨by rw [HY.out (by omega) (by omega)]; rfl, ((Below.refl _ _).alloc (Nat.le_refl _) _).trans (hb.mono (by simp))⟩

end

/-- The configuration that the laws' example takes. -/
theorem plain_any (w : World) :
    Calls Tryd.prog 44 #[] w fun e w' => e = .returned (cfgV (.slice none 0 0) 2 1 2 3 4 20 5 4 1 1) ∧ Below w.heap.size w w' := by
  go_enter Tryd.func44, Tryd.ntmps44
  go_wp2
  exact bodyPost_ret (v := cfgV (.slice none 0 0) 2 1 2 3 4 20 5 4 1 1) (by simp [results, Tryd.results44, go_sem]) rfl ⟨rfl, (Below.refl _ _).alloc (Nat.le_refl _) _⟩
end Go.Proofs.YtgclcpopibjocaaDoor
