/- The walk of KeyBack. -/
import Derived.Test.YtmacimnabcjljaaKg
import Derived.LoopN
namespace Go.Proofs.Ytmacimnabcjljaa
open Go.RowKit
set_option linter.unusedSimpArgs false
set_option linter.unusedVariables false

theorem cliN_yes {b cl n : Int} (h : b ≤ n) (h' : n < b + cl) : cliN b cl n = n - b ∧ cliB b cl n = true := by simp [cliN, cliB, h, h']
theorem cliN_no {b cl n : Int} (h : n < b ∨ b + cl ≤ n) : cliN b cl n = 0 ∧ cliB b cl n = false := by
  have : ¬ (b ≤ n ∧ n < b + cl) := by omega
  simp only [cliN, cliB, if_neg this, decide_eq_false this, and_self]
theorem nodN_yes {b cl n : Int} (h : 0 ≤ n) (h' : n < cl) : nodN b cl n = b + n := by simp [nodN, h, h']
theorem nodN_no {b cl n : Int} (h : n < 0 ∨ cl ≤ n) : nodN b cl n = -1 := by
  have : ¬ (0 ≤ n ∧ n < cl) := by omega
  simp only [nodN, if_neg this]
theorem srvB_yes {b n : Int} (h : 1 ≤ n) (h' : n ≤ b - 1) : srvB b n = true := by simp [srvB, h, h']
theorem srvB_no {b n : Int} (h : n < 1 ∨ b - 1 < n) : srvB b n = false := by
  rcases h with h | h
  · simp [srvB, show ¬ 1 ≤ n by omega]
  · simp [srvB, show ¬ n ≤ b - 1 by omega]

set_option maxHeartbeats 2000000 in
theorem keyBack_A (a : Option Addr) (m c : Nat) (ch st cl qu clo lo ag wi ro se n : Int) (w : World) (hn0 : -9223372036854775808 ≤ n) (hn : n ≤ 9223372036854775807) (ok : okC m ch st cl qu clo lo ag wi ro se) (h : n < 0) :
    Calls Try.prog 4 #[cfgV (.slice a m c) ch st cl qu clo lo ag wi ro se, .int .i64 n] w (Yes w) := by
  have hok := ok
  obtain ⟨_, b1, b2, b3, b4, b5, b6, _⟩ := hok
  have OK := Lib.hid ok
  clear ok
  have K1 := Lib.hid (cliN_no (b := 1 + (ch + st)) (cl := cl) (n := n) (by omega))
  have K3 := Lib.hid (nodN_no (b := 1 + (ch + st)) (cl := cl) (n := n) (by omega))
  have K5 := Lib.hid (srvB_no (b := 1 + (ch + st)) (n := n) (by omega))
  have hz0 : (n == 0) = false := beq_eq_false_iff_ne.2 (by omega)
  have hge : ¬ 0 ≤ n := by omega
  go_enter Try.func4, Try.ntmps4
  go_wp2_with fail
  refine (live_any _).mono ?_; rintro e w1 ⟨rfl, hb1⟩
  obtain ⟨hB1, hl1, hc1⟩ := cfgHeld_next cfgHeld_start0 hb1
  clear hb1
  go_wp2_with fail
  refine (check_ok _ OK.out).mono ?_; rintro e w2 ⟨rfl, hb2⟩
  obtain ⟨hB2, hl2, hc2⟩ := cfgHeld_next ⟨hB1, hl1, hc1⟩ hb2
  clear hb2 hB1 hl1 hc1
  go_wp2_with fail
  refine (client_any _ _ _ _ _ _ _ _ _ _ _ _ _ (by omega) (by omega) (by omega) (by omega) (by omega) (by omega) (by omega)).mono ?_; rintro e w3 ⟨rfl, hb3⟩
  rw [K1.out.1, K1.out.2]
  obtain ⟨hB3, hl3, hc3⟩ := cfgHeld_next ⟨hB2, hl2, hc2⟩ hb3
  clear hb3 hB2 hl2 hc2
  go_wp2_with fail
  refine (node_any _ _ _ _ _ _ _ _ _ _ _ _ _ (by omega) (by omega) (by omega) (by omega) (by omega) (by omega)).mono ?_; rintro e w4 ⟨rfl, hb4⟩
  rw [K3.out]
  obtain ⟨hB4, hl4, hc4⟩ := cfgHeld_next ⟨hB3, hl3, hc3⟩ hb4
  clear hb4 hB3 hl3 hc3
  go_wp2_with fail
  refine (server_any _ _ _ _ _ _ _ _ _ _ _ _ _ (by omega) (by omega) (by omega) (by omega)).mono ?_; rintro e w5 ⟨rfl, hb5⟩
  rw [K5.out]
  obtain ⟨hB5, hl5, hc5⟩ := cfgHeld_next ⟨hB4, hl4, hc4⟩ hb5
  clear hb5 hB4 hl4 hc4
  go_wp2_with fail
  refine wp_loop_rounds 4 ?_
  iterate 4 (rw [rounds_succ]; go_wp2_with fail)
  go_ret
  exact ⟨by first | rfl | (simp; done) | (simp; omega), bal hB5 _⟩

set_option maxHeartbeats 2000000 in
theorem keyBack_B (a : Option Addr) (m c : Nat) (ch st cl qu clo lo ag wi ro se n : Int) (w : World) (hn0 : -9223372036854775808 ≤ n) (hn : n ≤ 9223372036854775807) (ok : okC m ch st cl qu clo lo ag wi ro se) (h : n = 0) :
    Calls Try.prog 4 #[cfgV (.slice a m c) ch st cl qu clo lo ag wi ro se, .int .i64 n] w (Yes w) := by
  have hok := ok
  obtain ⟨_, b1, b2, b3, b4, b5, b6, _⟩ := hok
  have OK := Lib.hid ok
  clear ok
  have K1 := Lib.hid (cliN_no (b := 1 + (ch + st)) (cl := cl) (n := n) (by omega))
  have K3 := Lib.hid (nodN_yes (b := 1 + (ch + st)) (cl := cl) (n := n) (by omega) (by omega))
  have K4a := cliN_yes (b := 1 + (ch + st)) (cl := cl) (n := 1 + (ch + st) + n) (by omega) (by omega)
  rw [show 1 + (ch + st) + n - (1 + (ch + st)) = n by omega] at K4a
  subst h
  rw [Int.add_zero] at K4a
  have K4 := Lib.hid K4a
  clear K4a
  have K5 := Lib.hid (srvB_no (b := 1 + (ch + st)) (n := 0) (by omega))
  go_enter Try.func4, Try.ntmps4
  go_wp2_with fail
  refine (live_any _).mono ?_; rintro e w1 ⟨rfl, hb1⟩
  obtain ⟨hB1, hl1, hc1⟩ := cfgHeld_next cfgHeld_start0 hb1
  clear hb1
  go_wp2_with fail
  refine (check_ok _ OK.out).mono ?_; rintro e w2 ⟨rfl, hb2⟩
  obtain ⟨hB2, hl2, hc2⟩ := cfgHeld_next ⟨hB1, hl1, hc1⟩ hb2
  clear hb2 hB1 hl1 hc1
  go_wp2_with fail
  refine (client_any _ _ _ _ _ _ _ _ _ _ _ _ _ (by omega) (by omega) (by omega) (by omega) (by omega) (by omega) (by omega)).mono ?_; rintro e w3 ⟨rfl, hb3⟩
  rw [K1.out.1, K1.out.2]
  obtain ⟨hB3, hl3, hc3⟩ := cfgHeld_next ⟨hB2, hl2, hc2⟩ hb3
  clear hb3 hB2 hl2 hc2
  go_wp2_with fail
  refine (node_any _ _ _ _ _ _ _ _ _ _ _ _ _ (by omega) (by omega) (by omega) (by omega) (by omega) (by omega)).mono ?_; rintro e w4 ⟨rfl, hb4⟩
  rw [K3.out]
  obtain ⟨hB4, hl4, hc4⟩ := cfgHeld_next ⟨hB3, hl3, hc3⟩ hb4
  clear hb4 hB3 hl3 hc3
  go_wp2_with fail
  refine (client_any _ _ _ _ _ _ _ _ _ _ _ _ _ (by omega) (by omega) (by omega) (by omega) (by omega) (by omega) (by omega)).mono ?_; rintro e w5 ⟨rfl, hb5⟩
  rw [K4.out.1, K4.out.2]
  obtain ⟨hB5, hl5, hc5⟩ := cfgHeld_next ⟨hB4, hl4, hc4⟩ hb5
  clear hb5 hB4 hl4 hc4
  go_wp2_with fail
  refine (server_any _ _ _ _ _ _ _ _ _ _ _ _ _ (by omega) (by omega) (by omega) (by omega)).mono ?_; rintro e w6 ⟨rfl, hb6⟩
  rw [K5.out]
  obtain ⟨hB6, hl6, hc6⟩ := cfgHeld_next ⟨hB5, hl5, hc5⟩ hb6
  clear hb6 hB5 hl5 hc5
  go_wp2_with fail
  refine wp_loop_rounds 4 ?_
  iterate 4 (rw [rounds_succ]; go_wp2_with fail)
  refine (nodes_any _ _ _ _ _ _ _ _ _ _ _ _ (by omega) (by omega) (by omega) (by omega)).mono ?_; rintro e w7 ⟨rfl, hb7⟩
  go_wp2_with fail
  go_ret
  exact ⟨by first | rfl | (simp; done) | (simp; omega), bgo (bal hB6 _) hb7⟩

set_option maxHeartbeats 2000000 in
theorem keyBack_C1 (a : Option Addr) (m c : Nat) (ch st cl qu clo lo ag wi ro se n : Int) (w : World) (hn0 : -9223372036854775808 ≤ n) (hn : n ≤ 9223372036854775807) (ok : okC m ch st cl qu clo lo ag wi ro se) (h : 1 ≤ n ∧ n ≤ ch + st ∧ n < cl) :
    Calls Try.prog 4 #[cfgV (.slice a m c) ch st cl qu clo lo ag wi ro se, .int .i64 n] w (Yes w) := by
  have hok := ok
  obtain ⟨_, b1, b2, b3, b4, b5, b6, _⟩ := hok
  have OK := Lib.hid ok
  clear ok
  have K1 := Lib.hid (cliN_no (b := 1 + (ch + st)) (cl := cl) (n := n) (by omega))
  have K3 := Lib.hid (nodN_yes (b := 1 + (ch + st)) (cl := cl) (n := n) (by omega) (by omega))
  have K4a := cliN_yes (b := 1 + (ch + st)) (cl := cl) (n := 1 + (ch + st) + n) (by omega) (by omega)
  rw [show 1 + (ch + st) + n - (1 + (ch + st)) = n by omega] at K4a
  have K4 := Lib.hid K4a
  clear K4a
  have K5 := Lib.hid (srvB_yes (b := 1 + (ch + st)) (n := n) (by omega) (by omega))
  have hz0 : (n == 0) = false := beq_eq_false_iff_ne.2 (by omega)
  go_enter Try.func4, Try.ntmps4
  go_wp2_with fail
  refine (live_any _).mono ?_; rintro e w1 ⟨rfl, hb1⟩
  obtain ⟨hB1, hl1, hc1⟩ := cfgHeld_next cfgHeld_start0 hb1
  clear hb1
  go_wp2_with fail
  refine (check_ok _ OK.out).mono ?_; rintro e w2 ⟨rfl, hb2⟩
  obtain ⟨hB2, hl2, hc2⟩ := cfgHeld_next ⟨hB1, hl1, hc1⟩ hb2
  clear hb2 hB1 hl1 hc1
  go_wp2_with fail
  refine (client_any _ _ _ _ _ _ _ _ _ _ _ _ _ (by omega) (by omega) (by omega) (by omega) (by omega) (by omega) (by omega)).mono ?_; rintro e w3 ⟨rfl, hb3⟩
  rw [K1.out.1, K1.out.2]
  obtain ⟨hB3, hl3, hc3⟩ := cfgHeld_next ⟨hB2, hl2, hc2⟩ hb3
  clear hb3 hB2 hl2 hc2
  go_wp2_with fail
  refine (node_any _ _ _ _ _ _ _ _ _ _ _ _ _ (by omega) (by omega) (by omega) (by omega) (by omega) (by omega)).mono ?_; rintro e w4 ⟨rfl, hb4⟩
  rw [K3.out]
  obtain ⟨hB4, hl4, hc4⟩ := cfgHeld_next ⟨hB3, hl3, hc3⟩ hb4
  clear hb4 hB3 hl3 hc3
  go_wp2_with fail
  refine (client_any _ _ _ _ _ _ _ _ _ _ _ _ _ (by omega) (by omega) (by omega) (by omega) (by omega) (by omega) (by omega)).mono ?_; rintro e w5 ⟨rfl, hb5⟩
  rw [K4.out.1, K4.out.2]
  obtain ⟨hB5, hl5, hc5⟩ := cfgHeld_next ⟨hB4, hl4, hc4⟩ hb5
  clear hb5 hB4 hl4 hc4
  go_wp2_with fail
  refine (server_any _ _ _ _ _ _ _ _ _ _ _ _ _ (by omega) (by omega) (by omega) (by omega)).mono ?_; rintro e w6 ⟨rfl, hb6⟩
  rw [K5.out]
  obtain ⟨hB6, hl6, hc6⟩ := cfgHeld_next ⟨hB5, hl5, hc5⟩ hb6
  clear hb6 hB5 hl5 hc5
  go_wp2_with fail
  refine wp_loop_rounds 4 ?_
  iterate 4 (rw [rounds_succ]; go_wp2_with fail)
  refine (nodes_any _ _ _ _ _ _ _ _ _ _ _ _ (by omega) (by omega) (by omega) (by omega)).mono ?_; rintro e w7 ⟨rfl, hb7⟩
  go_wp2_with fail
  go_ret
  exact ⟨by first | rfl | (simp; done) | (simp; omega), bgo (bal hB6 _) hb7⟩

set_option maxHeartbeats 2000000 in
theorem keyBack_C2 (a : Option Addr) (m c : Nat) (ch st cl qu clo lo ag wi ro se n : Int) (w : World) (hn0 : -9223372036854775808 ≤ n) (hn : n ≤ 9223372036854775807) (ok : okC m ch st cl qu clo lo ag wi ro se) (h : 1 ≤ n ∧ n ≤ ch + st ∧ cl ≤ n) :
    Calls Try.prog 4 #[cfgV (.slice a m c) ch st cl qu clo lo ag wi ro se, .int .i64 n] w (Yes w) := by
  have hok := ok
  obtain ⟨_, b1, b2, b3, b4, b5, b6, _⟩ := hok
  have OK := Lib.hid ok
  clear ok
  have K1 := Lib.hid (cliN_no (b := 1 + (ch + st)) (cl := cl) (n := n) (by omega))
  have K3 := Lib.hid (nodN_no (b := 1 + (ch + st)) (cl := cl) (n := n) (by omega))
  have K5 := Lib.hid (srvB_yes (b := 1 + (ch + st)) (n := n) (by omega) (by omega))
  have hz0 : (n == 0) = false := beq_eq_false_iff_ne.2 (by omega)
  go_enter Try.func4, Try.ntmps4
  go_wp2_with fail
  refine (live_any _).mono ?_; rintro e w1 ⟨rfl, hb1⟩
  obtain ⟨hB1, hl1, hc1⟩ := cfgHeld_next cfgHeld_start0 hb1
  clear hb1
  go_wp2_with fail
  refine (check_ok _ OK.out).mono ?_; rintro e w2 ⟨rfl, hb2⟩
  obtain ⟨hB2, hl2, hc2⟩ := cfgHeld_next ⟨hB1, hl1, hc1⟩ hb2
  clear hb2 hB1 hl1 hc1
  go_wp2_with fail
  refine (client_any _ _ _ _ _ _ _ _ _ _ _ _ _ (by omega) (by omega) (by omega) (by omega) (by omega) (by omega) (by omega)).mono ?_; rintro e w3 ⟨rfl, hb3⟩
  rw [K1.out.1, K1.out.2]
  obtain ⟨hB3, hl3, hc3⟩ := cfgHeld_next ⟨hB2, hl2, hc2⟩ hb3
  clear hb3 hB2 hl2 hc2
  go_wp2_with fail
  refine (node_any _ _ _ _ _ _ _ _ _ _ _ _ _ (by omega) (by omega) (by omega) (by omega) (by omega) (by omega)).mono ?_; rintro e w4 ⟨rfl, hb4⟩
  rw [K3.out]
  obtain ⟨hB4, hl4, hc4⟩ := cfgHeld_next ⟨hB3, hl3, hc3⟩ hb4
  clear hb4 hB3 hl3 hc3
  go_wp2_with fail
  refine (server_any _ _ _ _ _ _ _ _ _ _ _ _ _ (by omega) (by omega) (by omega) (by omega)).mono ?_; rintro e w5 ⟨rfl, hb5⟩
  rw [K5.out]
  obtain ⟨hB5, hl5, hc5⟩ := cfgHeld_next ⟨hB4, hl4, hc4⟩ hb5
  clear hb5 hB4 hl4 hc4
  go_wp2_with fail
  refine wp_loop_rounds 4 ?_
  iterate 4 (rw [rounds_succ]; go_wp2_with fail)
  refine (nodes_any _ _ _ _ _ _ _ _ _ _ _ _ (by omega) (by omega) (by omega) (by omega)).mono ?_; rintro e w6 ⟨rfl, hb6⟩
  go_wp2_with fail
  go_ret
  exact ⟨by first | rfl | (simp; done) | (simp; omega), bgo (bal hB5 _) hb6⟩

set_option maxHeartbeats 2000000 in
theorem keyBack_D1 (a : Option Addr) (m c : Nat) (ch st cl qu clo lo ag wi ro se n : Int) (w : World) (hn0 : -9223372036854775808 ≤ n) (hn : n ≤ 9223372036854775807) (ok : okC m ch st cl qu clo lo ag wi ro se) (h : 1 + (ch + st) ≤ n ∧ n < 1 + (ch + st) + cl ∧ n < cl) :
    Calls Try.prog 4 #[cfgV (.slice a m c) ch st cl qu clo lo ag wi ro se, .int .i64 n] w (Yes w) := by
  have hok := ok
  obtain ⟨_, b1, b2, b3, b4, b5, b6, _⟩ := hok
  have OK := Lib.hid ok
  clear ok
  have K1 := Lib.hid (cliN_yes (b := 1 + (ch + st)) (cl := cl) (n := n) (by omega) (by omega))
  have K2 := Lib.hid ((nodN_yes (b := 1 + (ch + st)) (cl := cl) (n := n - (1 + (ch + st))) (by omega) (by omega)).trans (show _ = n by omega))
  have K3 := Lib.hid (nodN_yes (b := 1 + (ch + st)) (cl := cl) (n := n) (by omega) (by omega))
  have K4a := cliN_yes (b := 1 + (ch + st)) (cl := cl) (n := 1 + (ch + st) + n) (by omega) (by omega)
  rw [show 1 + (ch + st) + n - (1 + (ch + st)) = n by omega] at K4a
  have K4 := Lib.hid K4a
  clear K4a
  have K5 := Lib.hid (srvB_no (b := 1 + (ch + st)) (n := n) (by omega))
  have hz0 : (n == 0) = false := beq_eq_false_iff_ne.2 (by omega)
  go_enter Try.func4, Try.ntmps4
  go_wp2_with fail
  refine (live_any _).mono ?_; rintro e w1 ⟨rfl, hb1⟩
  obtain ⟨hB1, hl1, hc1⟩ := cfgHeld_next cfgHeld_start0 hb1
  clear hb1
  go_wp2_with fail
  refine (check_ok _ OK.out).mono ?_; rintro e w2 ⟨rfl, hb2⟩
  obtain ⟨hB2, hl2, hc2⟩ := cfgHeld_next ⟨hB1, hl1, hc1⟩ hb2
  clear hb2 hB1 hl1 hc1
  go_wp2_with fail
  refine (client_any _ _ _ _ _ _ _ _ _ _ _ _ _ (by omega) (by omega) (by omega) (by omega) (by omega) (by omega) (by omega)).mono ?_; rintro e w3 ⟨rfl, hb3⟩
  rw [K1.out.1, K1.out.2]
  obtain ⟨hB3, hl3, hc3⟩ := cfgHeld_next ⟨hB2, hl2, hc2⟩ hb3
  clear hb3 hB2 hl2 hc2
  go_wp2_with fail
  refine (node_any _ _ _ _ _ _ _ _ _ _ _ _ _ (by omega) (by omega) (by omega) (by omega) (by omega) (by omega)).mono ?_; rintro e w4 ⟨rfl, hb4⟩
  rw [K2.out]
  obtain ⟨hB4, hl4, hc4⟩ := cfgHeld_next ⟨hB3, hl3, hc3⟩ hb4
  clear hb4 hB3 hl3 hc3
  go_wp2_with fail
  refine (node_any _ _ _ _ _ _ _ _ _ _ _ _ _ (by omega) (by omega) (by omega) (by omega) (by omega) (by omega)).mono ?_; rintro e w5 ⟨rfl, hb5⟩
  rw [K3.out]
  obtain ⟨hB5, hl5, hc5⟩ := cfgHeld_next ⟨hB4, hl4, hc4⟩ hb5
  clear hb5 hB4 hl4 hc4
  go_wp2_with fail
  refine (client_any _ _ _ _ _ _ _ _ _ _ _ _ _ (by omega) (by omega) (by omega) (by omega) (by omega) (by omega) (by omega)).mono ?_; rintro e w6 ⟨rfl, hb6⟩
  rw [K4.out.1, K4.out.2]
  obtain ⟨hB6, hl6, hc6⟩ := cfgHeld_next ⟨hB5, hl5, hc5⟩ hb6
  clear hb6 hB5 hl5 hc5
  go_wp2_with fail
  refine (server_any _ _ _ _ _ _ _ _ _ _ _ _ _ (by omega) (by omega) (by omega) (by omega)).mono ?_; rintro e w7 ⟨rfl, hb7⟩
  rw [K5.out]
  obtain ⟨hB7, hl7, hc7⟩ := cfgHeld_next ⟨hB6, hl6, hc6⟩ hb7
  clear hb7 hB6 hl6 hc6
  go_wp2_with fail
  refine wp_loop_rounds 4 ?_
  iterate 4 (rw [rounds_succ]; go_wp2_with fail)
  refine (nodes_any _ _ _ _ _ _ _ _ _ _ _ _ (by omega) (by omega) (by omega) (by omega)).mono ?_; rintro e w8 ⟨rfl, hb8⟩
  go_wp2_with fail
  go_ret
  exact ⟨by first | rfl | (simp; done) | (simp; omega), bgo (bal hB7 _) hb8⟩

set_option maxHeartbeats 2000000 in
theorem keyBack_D2 (a : Option Addr) (m c : Nat) (ch st cl qu clo lo ag wi ro se n : Int) (w : World) (hn0 : -9223372036854775808 ≤ n) (hn : n ≤ 9223372036854775807) (ok : okC m ch st cl qu clo lo ag wi ro se) (h : 1 + (ch + st) ≤ n ∧ n < 1 + (ch + st) + cl ∧ cl ≤ n) :
    Calls Try.prog 4 #[cfgV (.slice a m c) ch st cl qu clo lo ag wi ro se, .int .i64 n] w (Yes w) := by
  have hok := ok
  obtain ⟨_, b1, b2, b3, b4, b5, b6, _⟩ := hok
  have OK := Lib.hid ok
  clear ok
  have K1 := Lib.hid (cliN_yes (b := 1 + (ch + st)) (cl := cl) (n := n) (by omega) (by omega))
  have K2 := Lib.hid ((nodN_yes (b := 1 + (ch + st)) (cl := cl) (n := n - (1 + (ch + st))) (by omega) (by omega)).trans (show _ = n by omega))
  have K3 := Lib.hid (nodN_no (b := 1 + (ch + st)) (cl := cl) (n := n) (by omega))
  have K5 := Lib.hid (srvB_no (b := 1 + (ch + st)) (n := n) (by omega))
  have hz0 : (n == 0) = false := beq_eq_false_iff_ne.2 (by omega)
  go_enter Try.func4, Try.ntmps4
  go_wp2_with fail
  refine (live_any _).mono ?_; rintro e w1 ⟨rfl, hb1⟩
  obtain ⟨hB1, hl1, hc1⟩ := cfgHeld_next cfgHeld_start0 hb1
  clear hb1
  go_wp2_with fail
  refine (check_ok _ OK.out).mono ?_; rintro e w2 ⟨rfl, hb2⟩
  obtain ⟨hB2, hl2, hc2⟩ := cfgHeld_next ⟨hB1, hl1, hc1⟩ hb2
  clear hb2 hB1 hl1 hc1
  go_wp2_with fail
  refine (client_any _ _ _ _ _ _ _ _ _ _ _ _ _ (by omega) (by omega) (by omega) (by omega) (by omega) (by omega) (by omega)).mono ?_; rintro e w3 ⟨rfl, hb3⟩
  rw [K1.out.1, K1.out.2]
  obtain ⟨hB3, hl3, hc3⟩ := cfgHeld_next ⟨hB2, hl2, hc2⟩ hb3
  clear hb3 hB2 hl2 hc2
  go_wp2_with fail
  refine (node_any _ _ _ _ _ _ _ _ _ _ _ _ _ (by omega) (by omega) (by omega) (by omega) (by omega) (by omega)).mono ?_; rintro e w4 ⟨rfl, hb4⟩
  rw [K2.out]
  obtain ⟨hB4, hl4, hc4⟩ := cfgHeld_next ⟨hB3, hl3, hc3⟩ hb4
  clear hb4 hB3 hl3 hc3
  go_wp2_with fail
  refine (node_any _ _ _ _ _ _ _ _ _ _ _ _ _ (by omega) (by omega) (by omega) (by omega) (by omega) (by omega)).mono ?_; rintro e w5 ⟨rfl, hb5⟩
  rw [K3.out]
  obtain ⟨hB5, hl5, hc5⟩ := cfgHeld_next ⟨hB4, hl4, hc4⟩ hb5
  clear hb5 hB4 hl4 hc4
  go_wp2_with fail
  refine (server_any _ _ _ _ _ _ _ _ _ _ _ _ _ (by omega) (by omega) (by omega) (by omega)).mono ?_; rintro e w6 ⟨rfl, hb6⟩
  rw [K5.out]
  obtain ⟨hB6, hl6, hc6⟩ := cfgHeld_next ⟨hB5, hl5, hc5⟩ hb6
  clear hb6 hB5 hl5 hc5
  go_wp2_with fail
  refine wp_loop_rounds 4 ?_
  iterate 4 (rw [rounds_succ]; go_wp2_with fail)
  refine (nodes_any _ _ _ _ _ _ _ _ _ _ _ _ (by omega) (by omega) (by omega) (by omega)).mono ?_; rintro e w7 ⟨rfl, hb7⟩
  go_wp2_with fail
  go_ret
  exact ⟨by first | rfl | (simp; done) | (simp; omega), bgo (bal hB6 _) hb7⟩

set_option maxHeartbeats 2000000 in
theorem keyBack_E (a : Option Addr) (m c : Nat) (ch st cl qu clo lo ag wi ro se n : Int) (w : World) (hn0 : -9223372036854775808 ≤ n) (hn : n ≤ 9223372036854775807) (ok : okC m ch st cl qu clo lo ag wi ro se) (h : 1 + (ch + st) + cl ≤ n) :
    Calls Try.prog 4 #[cfgV (.slice a m c) ch st cl qu clo lo ag wi ro se, .int .i64 n] w (Yes w) := by
  have hok := ok
  obtain ⟨_, b1, b2, b3, b4, b5, b6, _⟩ := hok
  have OK := Lib.hid ok
  clear ok
  have K1 := Lib.hid (cliN_no (b := 1 + (ch + st)) (cl := cl) (n := n) (by omega))
  have K3 := Lib.hid (nodN_no (b := 1 + (ch + st)) (cl := cl) (n := n) (by omega))
  have K5 := Lib.hid (srvB_no (b := 1 + (ch + st)) (n := n) (by omega))
  have hz0 : (n == 0) = false := beq_eq_false_iff_ne.2 (by omega)
  go_enter Try.func4, Try.ntmps4
  go_wp2_with fail
  refine (live_any _).mono ?_; rintro e w1 ⟨rfl, hb1⟩
  obtain ⟨hB1, hl1, hc1⟩ := cfgHeld_next cfgHeld_start0 hb1
  clear hb1
  go_wp2_with fail
  refine (check_ok _ OK.out).mono ?_; rintro e w2 ⟨rfl, hb2⟩
  obtain ⟨hB2, hl2, hc2⟩ := cfgHeld_next ⟨hB1, hl1, hc1⟩ hb2
  clear hb2 hB1 hl1 hc1
  go_wp2_with fail
  refine (client_any _ _ _ _ _ _ _ _ _ _ _ _ _ (by omega) (by omega) (by omega) (by omega) (by omega) (by omega) (by omega)).mono ?_; rintro e w3 ⟨rfl, hb3⟩
  rw [K1.out.1, K1.out.2]
  obtain ⟨hB3, hl3, hc3⟩ := cfgHeld_next ⟨hB2, hl2, hc2⟩ hb3
  clear hb3 hB2 hl2 hc2
  go_wp2_with fail
  refine (node_any _ _ _ _ _ _ _ _ _ _ _ _ _ (by omega) (by omega) (by omega) (by omega) (by omega) (by omega)).mono ?_; rintro e w4 ⟨rfl, hb4⟩
  rw [K3.out]
  obtain ⟨hB4, hl4, hc4⟩ := cfgHeld_next ⟨hB3, hl3, hc3⟩ hb4
  clear hb4 hB3 hl3 hc3
  go_wp2_with fail
  refine (server_any _ _ _ _ _ _ _ _ _ _ _ _ _ (by omega) (by omega) (by omega) (by omega)).mono ?_; rintro e w5 ⟨rfl, hb5⟩
  rw [K5.out]
  obtain ⟨hB5, hl5, hc5⟩ := cfgHeld_next ⟨hB4, hl4, hc4⟩ hb5
  clear hb5 hB4 hl4 hc4
  go_wp2_with fail
  refine wp_loop_rounds 4 ?_
  iterate 4 (rw [rounds_succ]; go_wp2_with fail)
  refine (nodes_any _ _ _ _ _ _ _ _ _ _ _ _ (by omega) (by omega) (by omega) (by omega)).mono ?_; rintro e w6 ⟨rfl, hb6⟩
  go_wp2_with fail
  go_ret
  exact ⟨by first | rfl | (simp; done) | (simp; omega), bgo (bal hB5 _) hb6⟩

theorem keyBack_walk (a : Option Addr) (m c : Nat) (ch st cl qu clo lo ag wi ro se n : Int) (w : World) (hn0 : -9223372036854775808 ≤ n) (hn : n ≤ 9223372036854775807) :
    Calls Try.prog 4 #[cfgV (.slice a m c) ch st cl qu clo lo ag wi ro se, .int .i64 n] w (Yes w) := by
  by_cases ok : okC m ch st cl qu clo lo ag wi ro se
  · have hok := ok
    obtain ⟨_, b1, b2, b3, b4, b5, b6, _⟩ := hok
    by_cases h1 : n < 0
    · exact keyBack_A _ _ _ _ _ _ _ _ _ _ _ _ _ _ _ hn0 hn ok h1
    by_cases h2 : n = 0
    · exact keyBack_B _ _ _ _ _ _ _ _ _ _ _ _ _ _ _ hn0 hn ok h2
    by_cases h3 : n ≤ ch + st
    · by_cases h4 : n < cl
      · exact keyBack_C1 _ _ _ _ _ _ _ _ _ _ _ _ _ _ _ hn0 hn ok (by omega)
      · exact keyBack_C2 _ _ _ _ _ _ _ _ _ _ _ _ _ _ _ hn0 hn ok (by omega)
    by_cases h5 : n < 1 + (ch + st) + cl
    · by_cases h4 : n < cl
      · exact keyBack_D1 _ _ _ _ _ _ _ _ _ _ _ _ _ _ _ hn0 hn ok (by omega)
      · exact keyBack_D2 _ _ _ _ _ _ _ _ _ _ _ _ _ _ _ hn0 hn ok (by omega)
    · exact keyBack_E _ _ _ _ _ _ _ _ _ _ _ _ _ _ _ hn0 hn ok (by omega)
  · have OK := Lib.hid ok
    clear ok
    go_enter Try.func4, Try.ntmps4
    go_wp2_with fail
    refine (live_any _).mono ?_; rintro e w1 ⟨rfl, hb1⟩
    obtain ⟨hB1, hl1, hc1⟩ := cfgHeld_next cfgHeld_start0 hb1
    clear hb1
    go_wp2_with fail
    refine (check_bad _ OK.out).mono ?_; rintro e w2 ⟨rfl, hb2⟩
    go_wp2_with fail
    go_ret
    exact ⟨rfl, bgo hB1 hb2⟩

open Go.Joins Go.ChangeShapes Go.WideShapes Go.ChangeAt Go.Deep
theorem keyBack_of {H : Type} {enc : TypeId × Value → H} (W : World) (base : Nat) (args : Array Value) (ds : List (DataW H)) (p : List MemPlace)
    (hval : ∀ (j : Nat) t v, Try.f4.params[j]? = some t → args[j]? = some v → Value.okWide Try.prog W .any base t v)
    (hA : DataW.TrodAll enc Try.prog W 0 (fun _ => true) true Try.f4.params.toList args.toList ds p) (hlt : ∀ x ∈ p, x.block < W.heap.size)
    (hz : (DataW.weightsEach Try.prog Try.f4.params.toList ds).all (· ≤ reachBytes) = true) : Calls Try.prog 4 args W (Yes W) := by
  rw [Try.params4] at hA hval hz
  obtain ⟨v0, vs0, d0, ds0, p0, q0, hargs, rfl, rfl, h0, r0⟩ := trodAll_cons hA
  obtain ⟨v1, vs1, d1, ds1, p1, q1, rfl, rfl, rfl, h1, r1⟩ := trodAll_cons r0
  obtain ⟨rfl, rfl, rfl⟩ := trodAll_nil r1
  obtain rfl : args = #[v0, v1] := by cases args; simp_all

  obtain ⟨a, m, c, ch, st, cl, qu, clo, lo, ag, wi, ro, se, rfl⟩ := open_cfg (hval 0 _ _ rfl rfl) h0
  obtain ⟨n, rfl, rfl, rfl, wn⟩ := open_int Try.underlying3 (hval 1 _ _ rfl rfl) h1
  exact keyBack_walk a m c ch st cl qu clo lo ag wi ro se n W (bounds_i64 wn).1 (bounds_i64 wn).2

theorem keyChecks_of {H : Type} {enc : TypeId × Value → H} (W : World) (base : Nat) (args : Array Value) (ds : List (DataW H)) (p : List MemPlace)
    (hval : ∀ (j : Nat) t v, Try.f5.params[j]? = some t → args[j]? = some v → Value.okWide Try.prog W .any base t v)
    (hA : DataW.TrodAll enc Try.prog W 0 (fun _ => true) true Try.f5.params.toList args.toList ds p) (hlt : ∀ x ∈ p, x.block < W.heap.size)
    (hz : (DataW.weightsEach Try.prog Try.f5.params.toList ds).all (· ≤ reachBytes) = true) : Calls Try.prog 5 args W (Yes W) := by
  rw [Try.params5] at hA hval hz
  obtain ⟨v0, vs0, d0, ds0, p0, q0, hargs, rfl, rfl, h0, r0⟩ := trodAll_cons hA
  obtain ⟨rfl, rfl, rfl⟩ := trodAll_nil r0
  obtain rfl : args = #[v0] := by cases args; simp_all

  obtain ⟨a, m, c, ch, st, cl, qu, clo, lo, ag, wi, ro, se, rfl⟩ := open_cfg (hval 0 _ _ rfl rfl) h0
  exact keyChecks_walk a m c ch st cl qu clo lo ag wi ro se W

theorem keyFirst_of {H : Type} {enc : TypeId × Value → H} (W : World) (base : Nat) (args : Array Value) (ds : List (DataW H)) (p : List MemPlace)
    (hval : ∀ (j : Nat) t v, Try.f7.params[j]? = some t → args[j]? = some v → Value.okWide Try.prog W .any base t v)
    (hA : DataW.TrodAll enc Try.prog W 0 (fun _ => true) true Try.f7.params.toList args.toList ds p) (hlt : ∀ x ∈ p, x.block < W.heap.size)
    (hz : (DataW.weightsEach Try.prog Try.f7.params.toList ds).all (· ≤ reachBytes) = true) : Calls Try.prog 7 args W (Yes W) := by
  rw [Try.params7] at hA hval hz
  obtain ⟨v0, vs0, d0, ds0, p0, q0, hargs, rfl, rfl, h0, r0⟩ := trodAll_cons hA
  obtain ⟨rfl, rfl, rfl⟩ := trodAll_nil r0
  obtain rfl : args = #[v0] := by cases args; simp_all

  obtain ⟨a, m, c, ch, st, cl, qu, clo, lo, ag, wi, ro, se, rfl⟩ := open_cfg (hval 0 _ _ rfl rfl) h0
  exact keyFirst_walk a m c ch st cl qu clo lo ag wi ro se W

end Go.Proofs.Ytmacimnabcjljaa
