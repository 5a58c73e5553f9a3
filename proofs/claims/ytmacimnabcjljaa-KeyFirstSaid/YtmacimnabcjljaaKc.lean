/- Contracts of Client, Server, Node, Nodes, in package key and in its reference, for a configuration whose numbers are small. -/
import Derived.Test.YtmacimnabcjljaaKb
namespace Go.Proofs.Ytmacimnabcjljaa
open Go.RowKit
set_option linter.unusedSimpArgs false
set_option linter.unusedVariables false

/-- Which client a node is; whether it is one; the node of a client. b: the first client's node. -/
def cliN (b cl n : Int) : Int := if b ≤ n ∧ n < b + cl then n - b else 0
def cliB (b cl n : Int) : Bool := decide (b ≤ n ∧ n < b + cl)
def nodN (b cl k : Int) : Int := if 0 ≤ k ∧ k < cl then b + k else -1
def srvB (b n : Int) : Bool := decide (1 ≤ n) && decide (n ≤ b - 1)

section
variable (s : Value) (ch st cl qu clo lo ag wi ro se : Int) (w : World)

set_option maxHeartbeats 1000000 in
theorem rnodes_any (h0 : 1 ≤ ch) (h1 : ch ≤ 8) (h2 : 0 ≤ st) (h3 : st ≤ 8) (h4 : 1 ≤ cl) (h5 : cl ≤ 8) :
    Calls Try.prog 17 #[cfgV s ch st cl qu clo lo ag wi ro se] w fun e w' => e = .returned (.int .i64 (1 + (ch + st) + cl)) ∧ Below w.heap.size w w' := by
  have he : (1 + ch + st + cl) = 1 + (ch + st) + cl := by omega
  have HE := Lib.hid he
  clear he
  go_enter Try.func17, Try.ntmps17
  go_wp2
  go_ret
  exact ⟨by rw [← HE.out]; rfl, (Below.refl _ _).alloc (Nat.le_refl _) _⟩

set_option maxHeartbeats 1000000 in
theorem server_any (n : Int) (h0 : 1 ≤ ch) (h1 : ch ≤ 8) (h2 : 0 ≤ st) (h3 : st ≤ 8) :
    Calls Try.prog 18 #[cfgV s ch st cl qu clo lo ag wi ro se, .int .i64 n] w fun e w' => e = .returned (.bool (srvB (1 + (ch + st)) n)) ∧ Below w.heap.size w w' := by
  go_enter Try.func18, Try.ntmps18
  go_wp2_with (first
    | (go_at_call 43; refine (servers_any _ _ _ _ _ _ _ _ _ _ _ _ (by omega) (by omega)).mono ?_; rintro e w' ⟨rfl, hb⟩)
    | (go_at_call 44; refine (within_any _ _ _ _).mono ?_; rintro e w' ⟨rfl, rfl⟩))
  go_ret
  refine ⟨?_, ((Below.refl _ _).alloc (Nat.le_refl _) _).trans (hb.mono (by simp))⟩
  simp only [srvB, show 1 + (ch + st) - 1 = ch + st by omega]
  rfl

set_option maxHeartbeats 1000000 in
theorem rserver_any (n : Int) (h0 : 1 ≤ ch) (h1 : ch ≤ 8) (h2 : 0 ≤ st) (h3 : st ≤ 8) :
    Calls Try.prog 19 #[cfgV s ch st cl qu clo lo ag wi ro se, .int .i64 n] w fun e w' => e = .returned (.bool (srvB (1 + (ch + st)) n)) ∧ Below w.heap.size w w' := by
  go_enter Try.func19, Try.ntmps19
  go_wp2_with (go_at_call 42; refine (rwithin_any _ _ _ _).mono ?_; rintro e w' ⟨rfl, rfl⟩)
  go_ret
  refine ⟨?_, (Below.refl _ _).alloc (Nat.le_refl _) _⟩
  simp only [srvB, show 1 + (ch + st) - 1 = ch + st by omega]
  rfl

set_option maxHeartbeats 1000000 in
theorem client_any (n : Int) (h0 : 1 ≤ ch) (h1 : ch ≤ 8) (h2 : 0 ≤ st) (h3 : st ≤ 8) (h4 : 1 ≤ cl) (h5 : cl ≤ 8) (hn : n ≤ 9223372036854775807) :
    Calls Try.prog 14 #[cfgV s ch st cl qu clo lo ag wi ro se, .int .i64 n] w fun e w' => e = .returned (.tuple #[.int .i64 (cliN (1 + (ch + st)) cl n), .bool (cliB (1 + (ch + st)) cl n)]) ∧ Below w.heap.size w w' := by
  have hyes : 1 + (ch + st) ≤ n → n < 1 + (ch + st) + cl → cliN (1 + (ch + st)) cl n = n - (1 + (ch + st)) ∧ cliB (1 + (ch + st)) cl n = true := fun a b => by simp [cliN, cliB, a, b]
  have hno : (n < 1 + (ch + st) ∨ 1 + (ch + st) + cl ≤ n) → cliN (1 + (ch + st)) cl n = 0 ∧ cliB (1 + (ch + st)) cl n = false := fun a => by
    simp [cliN, cliB]
    exact ⟨fun _ _ => by omega, fun _ => by omega⟩
  have HY := Lib.hid hyes
  have HN := Lib.hid hno
  clear hyes hno
  go_enter Try.func14, Try.ntmps14
  go_wp2_with (first
    | (go_at_call 43; refine (servers_any _ _ _ _ _ _ _ _ _ _ _ _ (by omega) (by omega)).mono ?_; rintro e w1 ⟨rfl, hb⟩; have hc1 := cfgHeld_next cfgHeld_start0 hb; clear hb; obtain ⟨hB, hlt, hc⟩ := hc1)
    | (go_at_call 16; refine (nodes_any _ _ _ _ _ _ _ _ _ _ _ _ (by omega) (by omega) (by omega) (by omega)).mono ?_; rintro e w2 ⟨rfl, hb2⟩))
  · go_ret2
    exact ⟨by rw [(HN.out (by omega)).1, (HN.out (by omega)).2]; rfl, hB.trans (hb2.mono (Nat.le_of_lt hlt))⟩
  · go_ret2
    exact ⟨by rw [(HY.out (by omega) (by omega)).1, (HY.out (by omega) (by omega)).2]; rfl, hB.trans (hb2.mono (Nat.le_of_lt hlt))⟩
  · go_ret2
    exact ⟨by rw [(HN.out (by omega)).1, (HN.out (by omega)).2]; rfl, hB⟩

set_option maxHeartbeats 1000000 in
theorem rclient_any (n : Int) (h0 : 1 ≤ ch) (h1 : ch ≤ 8) (h2 : 0 ≤ st) (h3 : st ≤ 8) (h4 : 1 ≤ cl) (h5 : cl ≤ 8) (hn : n ≤ 9223372036854775807) :
    Calls Try.prog 15 #[cfgV s ch st cl qu clo lo ag wi ro se, .int .i64 n] w fun e w' => e = .returned (.tuple #[.int .i64 (cliN (1 + (ch + st)) cl n), .bool (cliB (1 + (ch + st)) cl n)]) ∧ Below w.heap.size w w' := by
  have hyes : 1 + (ch + st) ≤ n → n < 1 + (ch + st) + cl → cliN (1 + (ch + st)) cl n = n - 1 - ch - st ∧ cliB (1 + (ch + st)) cl n = true := fun a b => by
    simp [cliN, cliB, a, b]; omega
  have hno : (n < 1 + (ch + st) ∨ 1 + (ch + st) + cl ≤ n) → cliN (1 + (ch + st)) cl n = 0 ∧ cliB (1 + (ch + st)) cl n = false := fun a => by
    simp [cliN, cliB]
    exact ⟨fun _ _ => by omega, fun _ => by omega⟩
  have HY := Lib.hid hyes
  have HN := Lib.hid hno
  clear hyes hno
  by_cases c1 : 1 + ch + st ≤ n <;> by_cases c2 : n ≤ ch + st + cl
  all_goals try (exfalso; omega)
  all_goals go_enter Try.func15, Try.ntmps15
  all_goals go_wp2_with (go_at_call 42; refine (rwithin_any _ _ _ _).mono ?_; rintro e w' ⟨rfl, rfl⟩)
  all_goals
    try simp only [Bool.not_eq_true', Bool.not_eq_false', decide_eq_true_eq, decide_eq_false_iff_not, Bool.and_eq_true, Bool.or_eq_true, Bool.and_eq_false_iff, Bool.or_eq_false_iff] at *
    go_ret2
    first
      | exact ⟨by rw [(HN.out (by omega)).1, (HN.out (by omega)).2]; rfl, (Below.refl _ _).alloc (Nat.le_refl _) _⟩
      | exact ⟨by rw [(HY.out (by omega) (by omega)).1, (HY.out (by omega) (by omega)).2]; rfl, (Below.refl _ _).alloc (Nat.le_refl _) _⟩
      | (exfalso; omega)

set_option maxHeartbeats 1000000 in
theorem node_any (n : Int) (h0 : 1 ≤ ch) (h1 : ch ≤ 8) (h2 : 0 ≤ st) (h3 : st ≤ 8) (h4 : 1 ≤ cl) (h5 : cl ≤ 8) :
    Calls Try.prog 20 #[cfgV s ch st cl qu clo lo ag wi ro se, .int .i64 n] w fun e w' => e = .returned (.int .i64 (nodN (1 + (ch + st)) cl n)) ∧ Below w.heap.size w w' := by
  have hyes : 0 ≤ n → n < cl → nodN (1 + (ch + st)) cl n = 1 + (ch + st) + n := fun a b => by simp [nodN, a, b]
  have hno : (n < 0 ∨ cl ≤ n) → nodN (1 + (ch + st)) cl n = -1 := fun a => by
    simp [nodN]
    exact fun _ _ => by omega
  have HY := Lib.hid hyes
  have HN := Lib.hid hno
  clear hyes hno
  go_enter Try.func20, Try.ntmps20
  go_wp2_with (go_at_call 43; refine (servers_any _ _ _ _ _ _ _ _ _ _ _ _ (by omega) (by omega)).mono ?_; rintro e w1 ⟨rfl, hb⟩)
  all_goals
    go_ret
    first
      | exact ⟨by rw [HN.out (by omega)]; rfl, (Below.refl _ _).alloc (Nat.le_refl _) _⟩
      | exact ⟨by rw [HY.out (by omega) (by omega)]; rfl, ((Below.refl _ _).alloc (Nat.le_refl _) _).trans (hb.mono (by simp))⟩

set_option maxHeartbeats 1000000 in
theorem rnode_any (n : Int) (h0 : 1 ≤ ch) (h1 : ch ≤ 8) (h2 : 0 ≤ st) (h3 : st ≤ 8) (h4 : 1 ≤ cl) (h5 : cl ≤ 8) :
    Calls Try.prog 21 #[cfgV s ch st cl qu clo lo ag wi ro se, .int .i64 n] w fun e w' => e = .returned (.int .i64 (nodN (1 + (ch + st)) cl n)) ∧ Below w.heap.size w w' := by
  have hyes : 0 ≤ n → n < cl → nodN (1 + (ch + st)) cl n = 1 + ch + st + n := fun a b => by simp [nodN, a, b]; omega
  have hno : (n < 0 ∨ cl ≤ n) → nodN (1 + (ch + st)) cl n = -1 := fun a => by
    simp [nodN]
    exact fun _ _ => by omega
  have HY := Lib.hid hyes
  have HN := Lib.hid hno
  clear hyes hno
  by_cases c1 : 0 ≤ n <;> by_cases c2 : n ≤ cl - 1
  all_goals try (exfalso; omega)
  all_goals go_enter Try.func21, Try.ntmps21
  all_goals go_wp2_with (go_at_call 42; refine (rwithin_any _ _ _ _).mono ?_; rintro e w' ⟨rfl, rfl⟩)
  all_goals
    try simp only [Bool.not_eq_true', Bool.not_eq_false', decide_eq_true_eq, decide_eq_false_iff_not, Bool.and_eq_true, Bool.or_eq_true, Bool.and_eq_false_iff, Bool.or_eq_false_iff] at *
    go_ret
    first
      | exact ⟨by rw [HN.out (by omega)]; rfl, (Below.refl _ _).alloc (Nat.le_refl _) _⟩
      | exact ⟨by rw [HY.out (by omega) (by omega)]; rfl, (Below.refl _ _).alloc (Nat.le_refl _) _⟩
      | (exfalso; omega)
end

/-- The configuration that the laws' example takes. -/
theorem plain_any (w : World) :
    Calls Try.prog 41 #[] w fun e w' => e = .returned (cfgV (.slice none 0 0) 2 1 2 3 4 20 5 4 1 1) ∧ Below w.heap.size w w' := by
  go_enter Try.func41, Try.ntmps41
  go_wp2
  exact bodyPost_ret (v := cfgV (.slice none 0 0) 2 1 2 3 4 20 5 4 1 1) (by simp [results, Try.results41, go_sem]) rfl ⟨rfl, (Below.refl _ _).alloc (Nat.le_refl _) _⟩
end Go.Proofs.Ytmacimnabcjljaa
