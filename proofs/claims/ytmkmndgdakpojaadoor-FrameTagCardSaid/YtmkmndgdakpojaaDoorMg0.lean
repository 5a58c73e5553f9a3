/- xor of bytes, and twice. -/
import Derived.Test.YtmkmndgdakpojaaDoorMf
namespace Go.Proofs.YtmkmndgdakpojaaDoor
open Go.RowKit Go.ChangeShapes Go.WideShapes Go.ChangeAt
set_option linter.unusedSimpArgs false
set_option linter.unusedVariables false
set_option maxRecDepth 100000

theorem xor8_nat (a b : Nat) (ha : a < 256) (hb : b < 256) : xor8 (a : Int) (b : Int) = ((a ^^^ b : Nat) : Int) := by
  have ha' : a % 2 ^ IntKind.u8.bits = a := Nat.mod_eq_of_lt ha
  have hb' : b % 2 ^ IntKind.u8.bits = b := Nat.mod_eq_of_lt hb
  have hx : a ^^^ b < 2 ^ 8 := Nat.xor_lt_two_pow ha hb
  unfold xor8
  simp only [bits, BitVec.ofInt_natCast, BitVec.toNat_xor, BitVec.toNat_ofNat, ha', hb']
  exact IntWalk.u8_in _ (by omega)
theorem xor8_of (a b : Int) (ha : 0 ≤ a ∧ a ≤ 255) (hb : 0 ≤ b ∧ b ≤ 255) : xor8 (xor8 a b) b = a ∧ xor8 a b = xor8 b a ∧ 0 ≤ xor8 a b ∧ xor8 a b ≤ 255 := by
  obtain ⟨m, rfl⟩ := Int.eq_ofNat_of_zero_le ha.1
  obtain ⟨n, rfl⟩ := Int.eq_ofNat_of_zero_le hb.1
  have hm : m < 256 := by omega
  have hn : n < 256 := by omega
  have hx : m ^^^ n < 2 ^ 8 := Nat.xor_lt_two_pow hm hn
  rw [xor8_nat m n hm hn, xor8_nat n m hn hm, xor8_nat (m ^^^ n) n hx hn]
  exact ⟨by rw [Nat.xor_assoc, Nat.xor_self, Nat.xor_zero], by rw [Nat.xor_comm], by omega, by omega⟩
theorem byt_at {l : List Int} (h : Byt l) (j : Nat) : 0 ≤ l.getD j 0 ∧ l.getD j 0 ≤ 255 := by
  rw [List.getD]
  by_cases hj : j < l.length
  · rw [List.getElem?_eq_getElem hj]
    exact h _ (List.getElem_mem hj)
  · rw [List.getElem?_eq_none (by omega)]
    exact ⟨Int.le_refl _, by decide⟩
theorem xorL_byt {a b : List Int} (ha : Byt a) (hb : Byt b) : Byt (xorL a b) := by
  intro x hx
  obtain ⟨j, _, rfl⟩ := List.mem_map.1 hx
  exact (xor8_of _ _ (byt_at ha j) (byt_at hb j)).2.2
theorem xorL_comm {a b : List Int} (hl : a.length = b.length) (ha : Byt a) (hb : Byt b) : xorL a b = xorL b a := by
  unfold xorL
  rw [hl]
  exact List.map_congr_left fun j _ => (xor8_of _ _ (byt_at ha j) (byt_at hb j)).2.1
theorem xorL_at {a b : List Int} (j : Nat) (hj : j < a.length) : (xorL a b).getD j 0 = xor8 (a.getD j 0) (b.getD j 0) := by
  rw [List.getD, xorL, List.getElem?_map, List.getElem?_range hj]
  rfl
theorem xorL_twice {a b : List Int} (ha : Byt a) (hb : Byt b) : xorL (xorL a b) b = a := by
  apply List.ext_getElem?
  intro i
  by_cases hi : i < a.length
  · rw [xorL, xor_len, List.getElem?_map, List.getElem?_range hi, Option.map_some, xorL_at i hi, (xor8_of _ _ (byt_at ha i) (byt_at hb i)).1, List.getD, List.getElem?_eq_getElem hi]
    rfl
  · rw [List.getElem?_eq_none (by rw [xor_len, xor_len]; omega), List.getElem?_eq_none (by omega)]

end Go.Proofs.YtmkmndgdakpojaaDoor
