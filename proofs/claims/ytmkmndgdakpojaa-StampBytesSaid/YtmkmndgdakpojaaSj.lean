/- The reference's padding and hash. -/
import Derived.Test.YtmkmndgdakpojaaSi
namespace Go.Proofs.Ytmkmndgdakpojaa
open Go.RowKit
set_option linter.unusedSimpArgs false
set_option linter.unusedVariables false
set_option maxRecDepth 100000

def tail8 (v : Nat) (k : Nat) : List Int := (List.range k).map fun j => (((v / 2 ^ (56 - 8 * j)) % 256 : Nat) : Int)
theorem tail8_succ (v k : Nat) : tail8 v (k + 1) = tail8 v k ++ [(((v / 2 ^ (56 - 8 * k)) % 256 : Nat) : Int)] := by simp [tail8, List.range_succ]
def headP (xs : List Int) (j : Nat) : List Int := xs ++ 128 :: List.replicate j 0
theorem headP_succ (xs : List Int) (j : Nat) : headP xs (j + 1) = headP xs j ++ [0] := by simp [headP, List.replicate_succ']
theorem headP_len (xs : List Int) (j : Nat) : (headP xs j).length = xs.length + 1 + j := by simp [headP]; omega

theorem tailN_get (m v : Nat) (l : List Int) (hl : l.length = m) (i : Nat) : ∀ k, k ≤ m → (tailN m v l k)[i]? = if m - k ≤ i ∧ i < m then some (((v / 2 ^ (8 * (m - 1 - i))) % 256 : Nat) : Int) else l[i]? := by
  intro k
  induction k with
  | zero => intro _; rw [if_neg (by omega)]; rfl
  | succ k ih =>
    intro hk
    rw [tailN, List.getElem?_set, ih (by omega), tailN_len, hl]
    by_cases h : m - 1 - k = i
    · have e : m - 1 - i = k := by omega
      rw [if_pos h, if_pos (by omega), if_pos (by omega), e]
    · rw [if_neg h]
      by_cases h2 : m - k ≤ i ∧ i < m
      · rw [if_pos h2, if_pos (by omega)]
      · rw [if_neg h2, if_neg (by omega)]

theorem padded_eq (xs : List Int) : padded xs = headP xs (padLen xs.length - xs.length - 9) ++ tail8 (8 * xs.length) 8 := by
  obtain ⟨m, hm⟩ : ∃ m, m = padLen xs.length := ⟨_, rfl⟩
  have hm9 : xs.length + 9 ≤ m := by rw [hm]; unfold padLen; omega
  unfold padded
  rw [← hm]
  apply List.ext_getElem?
  intro i
  rw [tailN_get m _ _ (by simp; omega) i 8 (by omega)]
  have hh := headP_len xs (m - xs.length - 9)
  by_cases h : m - 8 ≤ i ∧ i < m
  · rw [if_pos h, List.getElem?_append_right (by omega), hh]
    simp only [tail8, List.getElem?_map]
    rw [List.getElem?_range (by omega)]
    simp only [Option.map_some]
    congr 6
    omega
  · rw [if_neg h]
    by_cases h2 : i < m
    · rw [List.getElem?_append_left (by omega), List.getElem?_set]
      unfold headP
      by_cases h3 : xs.length = i
      · rw [if_pos h3, if_pos (by simp; omega), List.getElem?_append_right (by omega)]
        simp [h3]
      · rw [if_neg h3]
        by_cases h4 : i < xs.length
        · rw [List.getElem?_append_left h4, List.getElem?_append_left h4]
        · rw [List.getElem?_append_right (by omega), List.getElem?_append_right (by omega)]
          obtain ⟨d, hd⟩ : ∃ d, i - xs.length = d + 1 := ⟨i - xs.length - 1, by omega⟩
          rw [hd, List.getElem?_cons_succ, List.getElem?_replicate, List.getElem?_replicate, if_pos (by omega), if_pos (by omega)]
    · rw [List.getElem?_eq_none (by simp; omega), List.getElem?_eq_none (by rw [List.length_append, hh]; simp [tail8]; omega)]

def lenOfS : Value → Nat | .slice _ n _ => n | _ => 0
end Go.Proofs.Ytmkmndgdakpojaa
