/- The walks of KeyChecks, KeyBack, KeyFirst. -/
import Derived.Test.YtmacimnabcjljaaKe
import Derived.Test.YtmacimnabcjljaaKf
import Derived.Test.YtmacimnabcjljaaStCheck
namespace Go.Proofs.Ytmacimnabcjljaa
open Go.RowKit
set_option linter.unusedSimpArgs false
set_option linter.unusedVariables false

set_option maxHeartbeats 2000000 in
theorem keyChecks_walk (a : Option Addr) (m c : Nat) (ch st cl qu clo lo ag wi ro se : Int) (w : World) :
    Calls Try.prog 5 #[cfgV (.slice a m c) ch st cl qu clo lo ag wi ro se] w (Yes w) := by
  by_cases ok : okC m ch st cl qu clo lo ag wi ro se
  · have hok := ok
    have hlen : ch.toNat ≤ 8 := by obtain ⟨_, b1, b2, _⟩ := hok; omega
    have OK := Lib.hid ok
    clear ok hok
    go_enter Try.func5, Try.ntmps5
    go_wp2_with fail
    refine (live_any _).mono ?_; rintro e w1 ⟨rfl, hb1⟩
    obtain ⟨hB1, hl1, hc1⟩ := cfgHeld_next cfgHeld_start0 hb1
    clear hb1
    go_wp2_with fail
    go_region_held3 (fun x => cfgHeld w x (.slice a m c) ch st cl qu clo lo ag wi ro se) (first | exact ⟨bdr (by assumption), by assumption, by assumption⟩ | exact cfgHeld_next (by assumption) (by assumption))
      (first
        | (go_at_call 22; refine (check_ok _ OK.out).mono ?_; rintro e w' ⟨rfl, hb⟩)
        | (go_at_call 13; refine (rcheck_ok _ OK.out).mono ?_; rintro e w' ⟨rfl, hb⟩)
        | (go_at_call 24; refine (first_ok _ _ _ _ _ _ _ _ _ _ _ _ _ _ OK.out).mono ?_; rintro e w' ⟨A1, n1, c1, rfl, hn1, hr1, hb1⟩)
        | (go_at_call 25; refine (rfirst_ok _ _ _ _ _ _ _ _ _ _ _ _ _ _ OK.out).mono ?_; rintro e w' ⟨A2, n2, c2, rfl, hn2, hr2, hb2⟩)
        | (go_at_call 23; refine (rsame_any _ _ _ _ _ _ _ _ _ _ _ _ _ hn1 hn2 (hr1.below hb2) hr2 (by rw [← hn1]; unfold maxLen; simp [upto_len]; try omega)).mono ?_; rintro e w' ⟨rfl, hb⟩))
    go_wp2
    go_ret
    rename_i hk
    exact ⟨by simp, hk.1⟩
  · have hok := ok
    have OK := Lib.hid ok
    clear ok hok
    go_enter Try.func5, Try.ntmps5
    go_wp2_with fail
    refine (live_any _).mono ?_; rintro e w1 ⟨rfl, hb1⟩
    obtain ⟨hB1, hl1, hc1⟩ := cfgHeld_next cfgHeld_start0 hb1
    clear hb1
    go_wp2_with fail
    go_region_held3 (fun x => cfgHeld w x (.slice a m c) ch st cl qu clo lo ag wi ro se) (first | exact ⟨bdr (by assumption), by assumption, by assumption⟩ | exact cfgHeld_next (by assumption) (by assumption))
      (first
        | (go_at_call 22; refine (check_bad _ OK.out).mono ?_; rintro e w' ⟨rfl, hb⟩)
        | (go_at_call 13; refine (rcheck_bad _ OK.out).mono ?_; rintro e w' ⟨rfl, hb⟩)
        | (go_at_call 24; refine (first_bad _ _ _ _ _ _ _ _ _ _ _ _ _ _ OK.out).mono ?_; rintro e w' ⟨A1, n1, c1, rfl, hn1, hr1, hb1⟩)
        | (go_at_call 25; refine (rfirst_bad _ _ _ _ _ _ _ _ _ _ _ _ _ _ OK.out).mono ?_; rintro e w' ⟨A2, n2, c2, rfl, hn2, hr2, hb2⟩)
        | (go_at_call 23; refine (rsame_any _ _ _ _ _ _ _ _ _ _ _ _ _ hn1 hn2 (hr1.below hb2) hr2 (by rw [← hn1]; unfold maxLen; simp [upto_len]; try omega)).mono ?_; rintro e w' ⟨rfl, hb⟩))
    go_wp2
    go_ret
    rename_i hk
    exact ⟨by simp, hk.1⟩

theorem upto_at {k n : Nat} (h : k < n) : (upto n).getD k 0 = (k : Int) + 1 := by
  simp [upto, List.getD, List.getElem?_range h]

theorem upto_good {n : Nat} (h1 : 1 ≤ n) (h2 : n ≤ 8) : goodSt (upto n) := by
  refine ⟨by simp [upto_len, h1], by simp [upto_len, h2], fun x hx => ?_, ?_⟩
  · obtain ⟨i, hi, rfl⟩ := List.mem_map.1 hx
    have := List.mem_range.1 hi
    omega
  · unfold upto
    rw [List.nodup_iff_pairwise_ne, List.pairwise_map]
    refine List.Pairwise.imp ?_ (List.nodup_iff_pairwise_ne.1 List.nodup_range)
    intro a b h e
    have e' : (a : Int) + 1 = (b : Int) + 1 := e
    exact h (by omega)

abbrev stAt (x : World) (b : Nat) (ep ro : Int) (v : Value) : Prop :=
  x.cell? ⟨b, 0, none⟩ = some (.int .u64 ep) ∧ x.cell? ⟨b, 1, none⟩ = some (.int .u64 ro) ∧ x.cell? ⟨b, 2, none⟩ = some v
theorem stAt_below {x y : World} {B b : Nat} {ep ro : Int} {v : Value} (h : stAt x b ep ro v) (hb : Below B x y) (hlt : b < B) : stAt y b ep ro v :=
  ⟨(hb.cell (p := ⟨b, 0, none⟩) hlt).trans h.1, (hb.cell (p := ⟨b, 1, none⟩) hlt).trans h.2.1, (hb.cell (p := ⟨b, 2, none⟩) hlt).trans h.2.2⟩

set_option maxHeartbeats 2000000 in
theorem keyFirst_walk (a : Option Addr) (m c : Nat) (ch st cl qu clo lo ag wi ro se : Int) (w : World) :
    Calls Try.prog 7 #[cfgV (.slice a m c) ch st cl qu clo lo ag wi ro se] w (Yes w) := by
  by_cases ok : okC m ch st cl qu clo lo ag wi ro se
  · have hok := ok
    obtain ⟨_, b1, b2, b3, b4, _⟩ := hok
    have OK := Lib.hid ok
    clear ok
    obtain ⟨n, rfl⟩ := Int.eq_ofNat_of_zero_le (show 0 ≤ ch by omega)
    go_enter Try.func7, Try.ntmps7
    go_wp2_with fail
    refine (live_any _).mono ?_; rintro e w1 ⟨rfl, hb1⟩
    obtain ⟨hB1, hl1, hc1⟩ := cfgHeld_next cfgHeld_start0 hb1
    clear hb1
    go_wp2_with fail
    refine (first_ok _ _ _ _ _ _ _ _ _ _ _ _ _ _ OK.out).mono ?_; rintro e w2 ⟨A, n', c', rfl, hn', hr2, hb2⟩
    obtain ⟨hB2, hl2, hc2⟩ := cfgHeld_next ⟨hB1, hl1, hc1⟩ hb2
    rw [Int.toNat_natCast] at hr2 hn'
    obtain rfl : n = n' := by rw [← hn', upto_len]
    have HN := Lib.hid hn'
    clear hb2 hB1 hl1 hc1 hn'
    go_wp2_with fail
    refine (check_ok _ OK.out).mono ?_; rintro e w3 ⟨rfl, hb3⟩
    have hs3 : stAt w3 w2.heap.size 1 ro (.slice A n c') := stAt_below ⟨by simp [go_sem], by simp [go_sem], by simp [go_sem]⟩ hb3 (by simp)
    have hc3 : cfgAt w3 w.heap.size (.slice a m c) n st cl qu clo lo ag wi ro se := cfgAt_below (cfgAt_below hc2 (bal brf _) hl2) hb3 (by simp; omega)
    have hr3 := hr2.below (bgo (bal brf _) hb3)
    have hB3 := bgo (bal hB2 _) hb3
    have hl3 : w2.heap.size < w3.heap.size := by have := hb3.size; simp at this; omega
    clear hr2 hc2 hb3
    go_wp2_with fail
    refine (stCheck_any _ _ _ _ _ _ _ HN.out hr3).mono ?_; rintro e w4 ⟨(⟨_, rfl⟩ | ⟨hbad, _⟩), hb4⟩
    case inr => exact absurd (upto_good (by omega) (by omega)) hbad
    have hs4 := stAt_below hs3 hb4 hl3
    have hc4 := cfgAt_below hc3 hb4 (by omega)
    have hr4 := hr3.below hb4
    have hB4 := bgo hB3 hb4
    have hl4 : w2.heap.size < w4.heap.size := by have := hb4.size; omega
    have hl5 : w.heap.size < w4.heap.size := by omega
    clear hs3 hc3 hr3 hB3 hb4 hl3
    go_wp2_with fail
    go_loopw [5, 42] (fun _ i wr => ∃ k : Nat, k ≤ n ∧ i = .int .i64 k ∧ Below w4.heap.size w4 wr) (fun _ i _ => n - (intOf i).toNat)
    case atStart => exact ⟨0, Nat.zero_le _, rfl, brf⟩
    case round =>
      obtain ⟨k, hk, rfl, hB⟩ := hrel
      have hc := cfgAt_below hc4 hB hl5
      by_cases hkn : k < n
      · obtain ⟨bb, o1, rfl, l1, cc⟩ := (hr4.below hB).at_ (by simp [HN.out]; omega)
        have g1 := cc k _ (nums_at (by rw [HN.out]; exact hkn))
        rw [upto_at hkn] at g1
        have hsv : srvB (1 + ((n : Int) + st)) ((k : Int) + 1) = true := by
          simp [srvB]
          omega
        have HS := Lib.hid hsv
        clear cc hr4 hc4 hs4 hsv
        go_wp2_with fail
        refine (server_any _ _ _ _ _ _ _ _ _ _ _ _ _ (by omega) (by omega) (by omega) (by omega)).mono ?_; rintro e w5 ⟨rfl, hb5⟩
        rw [HS.out]
        have hcx := cfgAt_below hc hb5 (by have := hB.size; omega)
        go_wp2_with fail
        exact ⟨⟨k + 1, by omega, by go_num, bgo hB hb5⟩, by simp [intOf]; omega⟩
      · clear hr4 hc4 hs4
        go_wp2_with fail
        go_ret
        exact ⟨rfl, bgo hB4 hB⟩
  · have OK := Lib.hid ok
    clear ok
    go_enter Try.func7, Try.ntmps7
    go_wp2_with fail
    refine (live_any _).mono ?_; rintro e w1 ⟨rfl, hb1⟩
    obtain ⟨hB1, hl1, hc1⟩ := cfgHeld_next cfgHeld_start0 hb1
    clear hb1
    go_wp2_with fail
    refine (first_bad _ _ _ _ _ _ _ _ _ _ _ _ _ _ OK.out).mono ?_; rintro e w2 ⟨A, n', c', rfl, hn', hr2, hb2⟩
    obtain ⟨hB2, hl2, hc2⟩ := cfgHeld_next ⟨hB1, hl1, hc1⟩ hb2
    obtain rfl : 0 = n' := hn'
    clear hb2 hB1 hl1 hc1
    go_wp2_with fail
    refine (check_bad _ OK.out).mono ?_; rintro e w3 ⟨rfl, hb3⟩
    have hs3 : stAt w3 w2.heap.size 0 0 (.slice A 0 c') := stAt_below ⟨by simp [go_sem], by simp [go_sem], by simp [go_sem]⟩ hb3 (by simp)
    have hr3 := hr2.below (bgo (bal brf _) hb3)
    have hB3 := bgo (bal hB2 _) hb3
    clear hr2 hc2 hb3
    go_wp2_with fail
    refine (rsame_any _ _ _ _ _ _ _ _ _ _ [] [] _ rfl rfl hr3 Rd.nil (Nat.zero_le _)).mono ?_; rintro e w4 ⟨rfl, hb4⟩
    go_wp2_with fail
    go_ret
    exact ⟨by simp, bgo hB3 hb4⟩
end Go.Proofs.Ytmacimnabcjljaa
