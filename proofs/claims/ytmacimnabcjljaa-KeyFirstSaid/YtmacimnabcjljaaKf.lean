/- Contracts of First, in package key and in its reference: the first stamp. -/
import Derived.Test.YtmacimnabcjljaaKd
import Derived.Test.YtmacimnabcjljaaOwn
namespace Go.Proofs.Ytmacimnabcjljaa
open Go.RowKit
set_option linter.unusedSimpArgs false
set_option linter.unusedVariables false

/-- The numbers from 1 on, so many. -/
def upto (n : Nat) : List Int := (List.range n).map fun i : Nat => (i : Int) + 1
theorem upto_succ (n : Nat) : upto (n + 1) = upto n ++ [(n : Int) + 1] := by simp [upto, List.range_succ]
theorem upto_len (n : Nat) : (upto n).length = n := by simp [upto]

/-- A stamp's value, its chain a list. -/
def IsStamp (w : World) (ep ro : Int) (xs : List Int) (e : Ending) (w' : World) : Prop :=
  ∃ A n c, e = .returned (.agg #[.int .u64 ep, .int .u64 ro, .slice A n c]) ∧ xs.length = n ∧ Rd w' A (nums .i64 xs) ∧ Below w.heap.size w w'

set_option maxHeartbeats 2000000 in
theorem first_ok (a : Option Addr) (m c : Nat) (ch st cl qu clo lo ag wi ro se : Int) (w : World) (ok : okC m ch st cl qu clo lo ag wi ro se) :
    Calls Try.prog 24 #[cfgV (.slice a m c) ch st cl qu clo lo ag wi ro se] w (IsStamp w 1 ro (upto ch.toNat)) := by
  obtain ⟨i0, hi, hz0, hz1, hz2⟩ := info_parts infoInt
  have hok := ok
  obtain ⟨_, b1, b2, _, _, _, _, _, _, _, _, _, _, _, _, _, _, _, _⟩ := hok
  have OK := Lib.hid ok
  clear ok
  go_enter Try.func24, Try.ntmps24
  go_wp2_with fail
  refine (check_ok _ OK.out).mono ?_; rintro e w1 ⟨rfl, hb1⟩
  have hsz := hb1.size
  simp only [World.size_alloc] at hsz
  have hcfg : cfgAt w1 w.heap.size (.slice a m c) ch st cl qu clo lo ag wi ro se := cfgAt_below (by unfold cfgAt; simp [go_sem]) hb1 (by simp; omega)
  have hr0 : w1.cell? ⟨w.heap.size + 1, 0, none⟩ = some (.int .u64 0) := (hb1.cell (p := ⟨w.heap.size + 1, 0, none⟩) (by simp)).trans (by simp [go_sem])
  have hr1 : w1.cell? ⟨w.heap.size + 1, 1, none⟩ = some (.int .u64 0) := (hb1.cell (p := ⟨w.heap.size + 1, 1, none⟩) (by simp)).trans (by simp [go_sem])
  have hr2 : w1.cell? ⟨w.heap.size + 1, 2, none⟩ = some (.slice none 0 0) := (hb1.cell (p := ⟨w.heap.size + 1, 2, none⟩) (by simp)).trans (by simp [go_sem])
  have hf0 : ∀ j, w1.frozen? ⟨w.heap.size + 1, j, none⟩ = false := fun j => (hb1.frozen (p := ⟨w.heap.size + 1, j, none⟩) (by simp)).trans (by simp [go_sem])
  have hl1 : w.heap.size < w1.heap.size := by omega
  have hl2 : w.heap.size + 1 < w1.heap.size := by omega
  have hB1 : Below w.heap.size w w1 := bgo (bal (bal brf _) _) hb1
  obtain ⟨n, rfl⟩ := Int.eq_ofNat_of_zero_le (show 0 ≤ ch by omega)
  clear hb1
  go_wp2_with fail
  go_loopw [4, 14] (fun _ i wr => ∃ (k : Nat) (A : Option Addr) (cc : Nat), k ≤ n ∧ i = .int .i64 k ∧ wr.ownsRow (w1.heap.size + 1) 3 1 (.slice A k cc) k (nums .i64 (upto k)) ∧
      wr.cell? ⟨w1.heap.size, 0, none⟩ = some (.int .u64 1) ∧ wr.cell? ⟨w1.heap.size, 1, none⟩ = some (.int .u64 ro) ∧ wr.cell? ⟨w1.heap.size, 2, none⟩ = some (.slice A k cc) ∧ wr.frozen? ⟨w1.heap.size, 2, none⟩ = false ∧
      w1.heap.size < wr.heap.size ∧ Below w1.heap.size w1 wr) (fun _ i _ => n - (intOf i).toNat)
  case atStart => exact ⟨0, none, 0, Nat.zero_le _, rfl, World.ownsRow_nil _ _ _ _, by simp [go_sem], by simp [go_sem], by simp [go_sem], by simp [go_sem], by simp, bal brf _⟩
  case round =>
    obtain ⟨k, A, cc, hk, rfl, hown, hc0, hc1, hc2, hfz, hlt, hB⟩ := hrel
    by_cases hkn : k < n
    · go_wp2_with (at_builtin; go_must (refine wpList_append_own _ rfl _ _ 36 rfl (w1.heap.size + 1) 3 i0 (.int .i64 0) 1 8 Try.underlying36 hi hz0 hz1 hz2 rfl (by decide) _ _ _ rfl (hown.alloc _) ⟨wr.heap.size, 0, none⟩ 1 1 [.int .i64 ((k : Int) + 1)] rfl rfl ?c1 ?c2 ?c3 ?c4 ?c5 ?_))
      case c1 => exact cell_one_new _ _ _
      case c2 => simp [Value.oneCell']
      case c3 => unfold maxLen; omega
      case c4 => omega
      case c5 => simp; omega
      intro v' w2 hown' hgrow _
      obtain ⟨A', c', rfl⟩ := own_slice hown'
      have hB2 := keep_below hown hgrow hB (Nat.le_of_lt hlt) (Nat.le_succ _)
      have g0 := keep_cell hown hgrow (Nat.lt_succ_self _) hc0
      have g1 := keep_cell hown hgrow (Nat.lt_succ_self _) hc1
      have g2 := keep_cell hown hgrow (Nat.lt_succ_self _) hc2
      have gz := keep_frozen hown hgrow (Nat.lt_succ_self _) hlt hfz
      have hs2 : w1.heap.size < w2.heap.size := by have := hgrow.size; simp at this; omega
      clear hc0 hc1 hc2 hfz hgrow hown hB
      have U := Lib.hid (upto_succ k)
      go_wp2
      refine ⟨⟨k + 1, A', c', by omega, by go_num, ?_, ?_, ?_, ?_, by simpa using gz, by rw [size_setCell]; exact hs2, hB2.setCell (Nat.le_refl _) _⟩, by simp [intOf]; omega⟩
      · rw [U.out]; simpa [nums] using own_setCell (a := ⟨w1.heap.size, 2, none⟩) hown' (Nat.lt_succ_self _)
      · rw [cell_setCell_off (by decide)]; exact g0
      · rw [cell_setCell_off (by decide)]; exact g1
      · exact cell_setCell_eq g2
    · obtain rfl : k = n := by omega
      have q0 := (hB.cell (p := ⟨w.heap.size + 1, 0, none⟩) hl2).trans hr0
      have q1 := (hB.cell (p := ⟨w.heap.size + 1, 1, none⟩) hl2).trans hr1
      have q2 := (hB.cell (p := ⟨w.heap.size + 1, 2, none⟩) hl2).trans hr2
      have z0 := (hB.frozen (p := ⟨w.heap.size + 1, 0, none⟩) hl2).trans (hf0 0)
      have z1 := (hB.frozen (p := ⟨w.heap.size + 1, 1, none⟩) hl2).trans (hf0 1)
      have z2 := (hB.frozen (p := ⟨w.heap.size + 1, 2, none⟩) hl2).trans (hf0 2)
      have hl3 : w.heap.size + 1 < wr.heap.size := by omega
      clear hr0 hr1 hr2 hf0
      go_wp2
      refine bodyPost_ret (v := .agg #[.int .u64 1, .int .u64 ro, .slice A k cc]) (by simp [results, Try.results24, go_sem, q0, q1, q2]) rfl ⟨A, k, cc, rfl, by simp [upto_len], ?_, ?_⟩
      · have hbs : ∀ (x : World) (j : Nat) (u : Value), Below w.heap.size w x → Below w.heap.size w (x.setCell ⟨w.heap.size + 1, j, none⟩ u) := fun x j u h => h.setCell (Nat.le_succ _) u
        have := Rd.of_own (own_setCell (a := ⟨w.heap.size + 1, 2, none⟩) (u := .slice A k cc) (own_setCell (a := ⟨w.heap.size + 1, 1, none⟩) (u := .int .u64 ro) (own_setCell (a := ⟨w.heap.size + 1, 0, none⟩) (u := .int .u64 1) hown (by show w.heap.size + 1 < _; omega)) (by show w.heap.size + 1 < _; omega)) (by show w.heap.size + 1 < _; omega))
        simpa using this
      · exact (((hB1.trans (hB.mono (by omega))).setCell (Nat.le_succ _) _).setCell (Nat.le_succ _) _).setCell (Nat.le_succ _) _

set_option maxHeartbeats 2000000 in
theorem rfirst_ok (a : Option Addr) (m c : Nat) (ch st cl qu clo lo ag wi ro se : Int) (w : World) (ok : okC m ch st cl qu clo lo ag wi ro se) :
    Calls Try.prog 25 #[cfgV (.slice a m c) ch st cl qu clo lo ag wi ro se] w (IsStamp w 1 ro (upto ch.toNat)) := by
  obtain ⟨i0, hi, hz0, hz1, hz2⟩ := info_parts infoInt
  have hok := ok
  obtain ⟨_, b1, b2, _, _, _, _, _, _, _, _, _, _, _, _, _, _, _, _⟩ := hok
  have OK := Lib.hid ok
  clear ok
  go_enter Try.func25, Try.ntmps25
  go_wp2_with fail
  refine (rcheck_ok _ OK.out).mono ?_; rintro e w1 ⟨rfl, hb1⟩
  have hsz := hb1.size
  simp only [World.size_alloc] at hsz
  have hcfg : cfgAt w1 w.heap.size (.slice a m c) ch st cl qu clo lo ag wi ro se := cfgAt_below (by unfold cfgAt; simp [go_sem]) hb1 (by simp; omega)
  have hr0 : w1.cell? ⟨w.heap.size + 1, 0, none⟩ = some (.int .u64 0) := (hb1.cell (p := ⟨w.heap.size + 1, 0, none⟩) (by simp)).trans (by simp [go_sem])
  have hr1 : w1.cell? ⟨w.heap.size + 1, 1, none⟩ = some (.int .u64 0) := (hb1.cell (p := ⟨w.heap.size + 1, 1, none⟩) (by simp)).trans (by simp [go_sem])
  have hr2 : w1.cell? ⟨w.heap.size + 1, 2, none⟩ = some (.slice none 0 0) := (hb1.cell (p := ⟨w.heap.size + 1, 2, none⟩) (by simp)).trans (by simp [go_sem])
  have hf0 : ∀ j, w1.frozen? ⟨w.heap.size + 1, j, none⟩ = false := fun j => (hb1.frozen (p := ⟨w.heap.size + 1, j, none⟩) (by simp)).trans (by simp [go_sem])
  have hl1 : w.heap.size < w1.heap.size := by omega
  have hl2 : w.heap.size + 1 < w1.heap.size := by omega
  have hB1 : Below w.heap.size w w1 := bgo (bal (bal brf _) _) hb1
  obtain ⟨n, rfl⟩ := Int.eq_ofNat_of_zero_le (show 0 ≤ ch by omega)
  clear hb1
  go_wp2_with fail
  go_loopw [4, 14] (fun _ i wr => ∃ (k : Nat) (A : Option Addr) (cc : Nat), k ≤ n ∧ i = .int .i64 k ∧ wr.ownsRow (w1.heap.size + 1) 3 1 (.slice A k cc) k (nums .i64 (upto k)) ∧
      wr.cell? ⟨w1.heap.size, 0, none⟩ = some (.int .u64 1) ∧ wr.cell? ⟨w1.heap.size, 1, none⟩ = some (.int .u64 ro) ∧ wr.cell? ⟨w1.heap.size, 2, none⟩ = some (.slice A k cc) ∧ wr.frozen? ⟨w1.heap.size, 2, none⟩ = false ∧
      w1.heap.size < wr.heap.size ∧ Below w1.heap.size w1 wr) (fun _ i _ => n - (intOf i).toNat)
  case atStart => exact ⟨0, none, 0, Nat.zero_le _, rfl, World.ownsRow_nil _ _ _ _, by simp [go_sem], by simp [go_sem], by simp [go_sem], by simp [go_sem], by simp, bal brf _⟩
  case round =>
    obtain ⟨k, A, cc, hk, rfl, hown, hc0, hc1, hc2, hfz, hlt, hB⟩ := hrel
    by_cases hkn : k < n
    · go_wp2_with (at_builtin; go_must (refine wpList_append_own _ rfl _ _ 36 rfl (w1.heap.size + 1) 3 i0 (.int .i64 0) 1 8 Try.underlying36 hi hz0 hz1 hz2 rfl (by decide) _ _ _ rfl (hown.alloc _) ⟨wr.heap.size, 0, none⟩ 1 1 [.int .i64 ((k : Int) + 1)] rfl rfl ?c1 ?c2 ?c3 ?c4 ?c5 ?_))
      case c1 => exact cell_one_new _ _ _
      case c2 => simp [Value.oneCell']
      case c3 => unfold maxLen; omega
      case c4 => omega
      case c5 => simp; omega
      intro v' w2 hown' hgrow _
      obtain ⟨A', c', rfl⟩ := own_slice hown'
      have hB2 := keep_below hown hgrow hB (Nat.le_of_lt hlt) (Nat.le_succ _)
      have g0 := keep_cell hown hgrow (Nat.lt_succ_self _) hc0
      have g1 := keep_cell hown hgrow (Nat.lt_succ_self _) hc1
      have g2 := keep_cell hown hgrow (Nat.lt_succ_self _) hc2
      have gz := keep_frozen hown hgrow (Nat.lt_succ_self _) hlt hfz
      have hs2 : w1.heap.size < w2.heap.size := by have := hgrow.size; simp at this; omega
      clear hc0 hc1 hc2 hfz hgrow hown hB
      have U := Lib.hid (upto_succ k)
      go_wp2
      refine ⟨⟨k + 1, A', c', by omega, by go_num, ?_, ?_, ?_, ?_, by simpa using gz, by rw [size_setCell]; exact hs2, hB2.setCell (Nat.le_refl _) _⟩, by simp [intOf]; omega⟩
      · rw [U.out]; simpa [nums] using own_setCell (a := ⟨w1.heap.size, 2, none⟩) hown' (Nat.lt_succ_self _)
      · rw [cell_setCell_off (by decide)]; exact g0
      · rw [cell_setCell_off (by decide)]; exact g1
      · exact cell_setCell_eq g2
    · obtain rfl : k = n := by omega
      have q0 := (hB.cell (p := ⟨w.heap.size + 1, 0, none⟩) hl2).trans hr0
      have q1 := (hB.cell (p := ⟨w.heap.size + 1, 1, none⟩) hl2).trans hr1
      have q2 := (hB.cell (p := ⟨w.heap.size + 1, 2, none⟩) hl2).trans hr2
      have z0 := (hB.frozen (p := ⟨w.heap.size + 1, 0, none⟩) hl2).trans (hf0 0)
      have z1 := (hB.frozen (p := ⟨w.heap.size + 1, 1, none⟩) hl2).trans (hf0 1)
      have z2 := (hB.frozen (p := ⟨w.heap.size + 1, 2, none⟩) hl2).trans (hf0 2)
      have hl3 : w.heap.size + 1 < wr.heap.size := by omega
      clear hr0 hr1 hr2 hf0
      go_wp2
      refine bodyPost_ret (v := .agg #[.int .u64 1, .int .u64 ro, .slice A k cc]) (by simp [results, Try.results25, go_sem, q0, q1, q2]) rfl ⟨A, k, cc, rfl, by simp [upto_len], ?_, ?_⟩
      · have hbs : ∀ (x : World) (j : Nat) (u : Value), Below w.heap.size w x → Below w.heap.size w (x.setCell ⟨w.heap.size + 1, j, none⟩ u) := fun x j u h => h.setCell (Nat.le_succ _) u
        have := Rd.of_own (own_setCell (a := ⟨w.heap.size + 1, 2, none⟩) (u := .slice A k cc) (own_setCell (a := ⟨w.heap.size + 1, 1, none⟩) (u := .int .u64 ro) (own_setCell (a := ⟨w.heap.size + 1, 0, none⟩) (u := .int .u64 1) hown (by show w.heap.size + 1 < _; omega)) (by show w.heap.size + 1 < _; omega)) (by show w.heap.size + 1 < _; omega))
        simpa using this
      · exact (((hB1.trans (hB.mono (by omega))).setCell (Nat.le_succ _) _).setCell (Nat.le_succ _) _).setCell (Nat.le_succ _) _

theorem first_bad (a : Option Addr) (m c : Nat) (ch st cl qu clo lo ag wi ro se : Int) (w : World) (ok : ¬ okC m ch st cl qu clo lo ag wi ro se) :
    Calls Try.prog 24 #[cfgV (.slice a m c) ch st cl qu clo lo ag wi ro se] w (IsStamp w 0 0 []) := by
  have OK := Lib.hid ok
  clear ok
  go_enter Try.func24, Try.ntmps24
  go_wp2_with fail
  refine (check_bad _ OK.out).mono ?_; rintro e w1 ⟨rfl, hb1⟩
  have hsz := hb1.size
  simp only [World.size_alloc] at hsz
  have hl2 : w.heap.size + 1 < w1.heap.size := by omega
  have q0 : w1.cell? ⟨w.heap.size + 1, 0, none⟩ = some (.int .u64 0) := (hb1.cell (p := ⟨w.heap.size + 1, 0, none⟩) (by simp)).trans (by simp [go_sem])
  have q1 : w1.cell? ⟨w.heap.size + 1, 1, none⟩ = some (.int .u64 0) := (hb1.cell (p := ⟨w.heap.size + 1, 1, none⟩) (by simp)).trans (by simp [go_sem])
  have q2 : w1.cell? ⟨w.heap.size + 1, 2, none⟩ = some (.slice none 0 0) := (hb1.cell (p := ⟨w.heap.size + 1, 2, none⟩) (by simp)).trans (by simp [go_sem])
  have hf0 : ∀ j, w1.frozen? ⟨w.heap.size + 1, j, none⟩ = false := fun j => (hb1.frozen (p := ⟨w.heap.size + 1, j, none⟩) (by simp)).trans (by simp [go_sem])
  have z0 := hf0 0
  have z1 := hf0 1
  have z2 := hf0 2
  have hB1 : Below w.heap.size w w1 := bgo (bal (bal brf _) _) hb1
  clear hb1 hf0
  go_wp2_with fail
  refine bodyPost_ret (v := .agg #[.int .u64 0, .int .u64 0, .slice none 0 0]) (by simp [results, Try.results24, go_sem, q0, q1, q2]) rfl ⟨none, 0, 0, rfl, rfl, .inl rfl, ?_⟩
  exact ((hB1.setCell (Nat.le_succ _) _).setCell (Nat.le_succ _) _).setCell (Nat.le_succ _) _

theorem rfirst_bad (a : Option Addr) (m c : Nat) (ch st cl qu clo lo ag wi ro se : Int) (w : World) (ok : ¬ okC m ch st cl qu clo lo ag wi ro se) :
    Calls Try.prog 25 #[cfgV (.slice a m c) ch st cl qu clo lo ag wi ro se] w (IsStamp w 0 0 []) := by
  have OK := Lib.hid ok
  clear ok
  go_enter Try.func25, Try.ntmps25
  go_wp2_with fail
  refine (rcheck_bad _ OK.out).mono ?_; rintro e w1 ⟨rfl, hb1⟩
  have hsz := hb1.size
  simp only [World.size_alloc] at hsz
  have hl2 : w.heap.size + 1 < w1.heap.size := by omega
  have q0 : w1.cell? ⟨w.heap.size + 1, 0, none⟩ = some (.int .u64 0) := (hb1.cell (p := ⟨w.heap.size + 1, 0, none⟩) (by simp)).trans (by simp [go_sem])
  have q1 : w1.cell? ⟨w.heap.size + 1, 1, none⟩ = some (.int .u64 0) := (hb1.cell (p := ⟨w.heap.size + 1, 1, none⟩) (by simp)).trans (by simp [go_sem])
  have q2 : w1.cell? ⟨w.heap.size + 1, 2, none⟩ = some (.slice none 0 0) := (hb1.cell (p := ⟨w.heap.size + 1, 2, none⟩) (by simp)).trans (by simp [go_sem])
  have hf0 : ∀ j, w1.frozen? ⟨w.heap.size + 1, j, none⟩ = false := fun j => (hb1.frozen (p := ⟨w.heap.size + 1, j, none⟩) (by simp)).trans (by simp [go_sem])
  have z0 := hf0 0
  have z1 := hf0 1
  have z2 := hf0 2
  have hB1 : Below w.heap.size w w1 := bgo (bal (bal brf _) _) hb1
  clear hb1 hf0
  go_wp2_with fail
  refine bodyPost_ret (v := .agg #[.int .u64 0, .int .u64 0, .slice none 0 0]) (by simp [results, Try.results25, go_sem, q0, q1, q2]) rfl ⟨none, 0, 0, rfl, rfl, .inl rfl, ?_⟩
  exact ((hB1.setCell (Nat.le_succ _) _).setCell (Nat.le_succ _) _).setCell (Nat.le_succ _) _
end Go.Proofs.Ytmacimnabcjljaa
