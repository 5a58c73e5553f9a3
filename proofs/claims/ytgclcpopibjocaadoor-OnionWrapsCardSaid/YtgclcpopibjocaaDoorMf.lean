/- Two rows of bytes, xor. -/
import Derived.Test.YtgclcpopibjocaaDoorMd
import Derived.Deep.RegionHeld3
namespace Go.Proofs.YtgclcpopibjocaaDoor
open Go.RowKit
set_option linter.unusedSimpArgs false
set_option linter.unusedVariables false
set_option maxRecDepth 100000

/-- Two rows, byte by byte. -/
def xorL (a b : List Int) : List Int := (List.range a.length).map fun j => xor8 (a.getD j 0) (b.getD j 0)
theorem xor_len (a b : List Int) : (xorL a b).length = a.length := by simp [xorL]

theorem xor_bad (A B : Option Addr) (n c m d : Nat) (w : World) (h : n ≠ m) :
    Calls Tryd.prog 74 #[.slice A n c, .slice B m d] w fun e w' => e = .returned (.tuple #[.slice none 0 0, .int .i64 1]) ∧ w = w' := by
  have r1 : ¬ ((n : Int) = m) := by omega
  go_enter Tryd.func74, Tryd.ntmps74
  go_wp2_with fail
  go_ret2
  exact ⟨rfl, rfl⟩

set_option maxHeartbeats 600000 in
theorem xor_any (A B : Option Addr) (n c d : Nat) (xs ys : List Int) (w : World) (hn : xs.length = n) (hm : ys.length = n) (hb : n ≤ 4000) (hp : 0 < n) (hx : Rd w A (nums .u8 xs)) (hy : Rd w B (nums .u8 ys)) :
    Calls Tryd.prog 74 #[.slice A n c, .slice B n d] w fun e w' => e = .returned (.tuple #[.slice (some ⟨w.heap.size, 0, none⟩) n n, .int .i64 0]) ∧ Brow w' w.heap.size (xorL xs ys) ∧ w.heap.size < w'.heap.size ∧ Below w.heap.size w w' := by
  obtain ⟨i0, hi, hz0, hz1, hz2⟩ := info_parts infoByte
  obtain ⟨b1, o1, rfl, hl1, hx1⟩ := hx.at_ (by simp [hn]; exact hp)
  obtain ⟨b2, o2, rfl, hl2, hy1⟩ := hy.at_ (by simp [hm]; exact hp)
  have HX := Lib.hid hx1
  have HY := Lib.hid hy1
  have HN := Lib.hid hn
  have HM := Lib.hid hm
  clear hx hy hx1 hy1 hn hm
  go_enter Tryd.func74, Tryd.ntmps74
  go_wp2_with (at_make; refine wpList_make_full _ rfl _ _ 22 rfl w.heap.size 5 i0 (.int .u8 0) 1 Tryd.underlying22 hi hz0 hz1 .i64 .i64 _ _ n rfl rfl (by omega) (by omega) (by rw [hz2]; omega) (by unfold maxLen; omega) (Nat.le_refl _) ?_; intro w1 hown1 hgrow1)
  obtain ⟨hB1, hb1, hlw⟩ := brow_make hown1 hgrow1 hp
  have HB1 := Lib.hid hB1
  clear hown1 hgrow1 hB1 hi hz0 hz1 hz2
  go_loopw [7, 18] (fun _ i wr => ∃ k : Nat, k ≤ n ∧ i = .int .i64 k ∧ Brow wr w.heap.size (fillL (fun j => xor8 (xs.getD j 0) (ys.getD j 0)) n k) ∧ w.heap.size < wr.heap.size ∧ Below w.heap.size w wr) (fun _ i _ => n - (intOf i).toNat)
  case atStart => exact ⟨0, Nat.zero_le _, rfl, by rw [fill_zero]; exact HB1.out, hlw, hb1⟩
  case round =>
    obtain ⟨k, hk, rfl, hB, hl, hb4⟩ := hrel
    have r0 : (0 : Int) ≤ (k : Int) := by omega
    by_cases hlt : k < n
    · have r1 : (k : Int) < n := by omega
      have c1 : wr.cell? ⟨w.heap.size, k, none⟩ = some (.int .u8 _) := hB.1 k (by rw [fill_len]; exact hlt)
      have f1 : wr.frozen? ⟨w.heap.size, k, none⟩ = false := hB.2 _
      have c2 := (hb4.cell (p := ⟨b1, o1 + k, none⟩) hl1).trans (HX.out k _ (nums_at (by rw [HN.out]; exact hlt)))
      have c3 := (hb4.cell (p := ⟨b2, o2 + k, none⟩) hl2).trans (HY.out k _ (nums_at (by rw [HM.out]; exact hlt)))
      have HB := Lib.hid hB
      clear hB
      go_wp2_with fail
      go_region
      go_wp2_with fail
      refine ⟨⟨k + 1, by omega, by congr 1, ?_, by show w.heap.size < (wr.setCell _ _).heap.size; rw [size_setCell]; exact hl, (hb4.setCell (p := ⟨w.heap.size, k, none⟩) (Nat.le_refl _) _).drew⟩, by show n - ((k : Int) + 1).toNat < n - (k : Int).toNat; omega⟩
      have := HB.out.set (k := k) (xor8 (xs.getD k 0) (ys.getD k 0)) (by rw [fill_len]; exact hlt)
      rw [fill_set (fun j => xor8 (xs.getD j 0) (ys.getD j 0))] at this
      exact this
    · have hk8 : k = n := by omega
      have r1 : ¬ (k : Int) < n := by omega
      rw [hk8, fill_full] at hB
      have e : (List.range n).map (fun j => xor8 (xs.getD j 0) (ys.getD j 0)) = xorL xs ys := by rw [xorL, HN.out]
      rw [e] at hB
      have HB := Lib.hid hB
      clear hB hk8 e
      go_wp2_with fail
      go_ret2
      exact ⟨rfl, HB.out, hl, hb4⟩

theorem xor_none (A B : Option Addr) (c d : Nat) (w : World) :
    Calls Tryd.prog 74 #[.slice A 0 c, .slice B 0 d] w fun e w' => ∃ A', e = .returned (.tuple #[.slice A' 0 0, .int .i64 0]) ∧ Below w.heap.size w w' := by
  obtain ⟨i0, hi, hz0, hz1, hz2⟩ := info_parts infoByte
  go_enter Tryd.func74, Tryd.ntmps74
  go_wp2_with (at_make; refine wpList_make_full _ rfl _ _ 22 rfl w.heap.size 5 i0 (.int .u8 0) 1 Tryd.underlying22 hi hz0 hz1 .i64 .i64 _ _ 0 rfl rfl (by omega) (by omega) (by rw [hz2]; omega) (by unfold maxLen; omega) (Nat.le_refl _) ?_; intro w1 hown1 hgrow1)
  have hb1 : Below w.heap.size w w1 := brf.grown hgrow1 (Nat.le_refl _) (fun k e => by cases e)
  clear hown1 hgrow1
  refine wp_loop_rounds 1 ?_
  rw [rounds_succ]
  go_wp2_with fail
  go_ret2
  exact ⟨_, rfl, hb1⟩

/-- Two rows as long, xor: a row. -/
theorem xor_same (A B : Option Addr) (n c d : Nat) (xs ys : List Int) (w : World) (hn : xs.length = n) (hm : ys.length = n) (hb : n ≤ 4000) (hx : Rd w A (nums .u8 xs)) (hy : Rd w B (nums .u8 ys)) :
    Calls Tryd.prog 74 #[.slice A n c, .slice B n d] w fun e w' => ∃ A' c', e = .returned (.tuple #[.slice A' n c', .int .i64 0]) ∧ Rd w' A' (nums .u8 (xorL xs ys)) ∧ Below w.heap.size w w' := by
  rcases Nat.eq_zero_or_pos n with h | h
  · subst h
    refine (xor_none A B c d w).mono ?_
    rintro e w' ⟨A', rfl, hb⟩
    have : xorL xs ys = [] := List.eq_nil_of_length_eq_zero (by rw [xor_len]; exact hn)
    exact ⟨A', 0, rfl, by rw [this]; exact Rd.nil, hb⟩
  · refine (xor_any A B n c d xs ys w hn hm hb h hx hy).mono ?_
    rintro e w' ⟨rfl, hB, hl, hb'⟩
    exact ⟨_, _, rfl, hB.whole hl, hb'⟩
end Go.Proofs.YtgclcpopibjocaaDoor
