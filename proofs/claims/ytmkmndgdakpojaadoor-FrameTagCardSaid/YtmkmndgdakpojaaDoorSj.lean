/- The reference's padding and hash. -/
import Derived.Test.YtmkmndgdakpojaaDoorSi
namespace Go.Proofs.YtmkmndgdakpojaaDoor
open Go.RowKit
set_option linter.unusedSimpArgs false
set_option linter.unusedVariables false
set_option maxRecDepth 100000

def tail8 (v : Nat) (k : Nat) : List Int := (List.range k).map fun j => (((v / 2 ^ (56 - 8 * j)) % 256 : Nat) : Int)
theorem tail8_succ (v k : Nat) : tail8 v (k + 1) = tail8 v k ++ [(((v / 2 ^ (56 - 8 * k)) % 256 : Nat) : Int)] := by simp [tail8, List.range_succ]
def headP (xs : List Int) (j : Nat) : List Int := xs ++ 128 :: List.replicate j 0
theorem headP_succ (xs : List Int) (j : Nat) : headP xs (j + 1) = headP xs j ++ [0] := by simp [headP, List.replicate_succ']
theorem headP_len (xs : List Int) (j : Nat) : (headP xs j).length = xs.length + 1 + j := by simp [headP]; omega

theorem tailN_get (m v : Nat) (l : List Int) (hl : l.length = m) (i : Nat) : ∀ k, k ≤ m → (tailN m v l k)[i]? = if m - k ≤ i ∧ i < m then some (((v / 2 ^ (8 * (m - 1 - i))) % 256 : Nat) : Int) else l[i]? := by
  intro k
  induction k with
  | zero => intro _; rw [if_neg (by omega)]; rfl
  | succ k ih =>
    intro hk
    rw [tailN, List.getElem?_set, ih (by omega), tailN_len, hl]
    by_cases h : m - 1 - k = i
    · have e : m - 1 - i = k := by omega
      rw [if_pos h, if_pos (by omega), if_pos (by omega), e]
    · rw [if_neg h]
      by_cases h2 : m - k ≤ i ∧ i < m
      · rw [if_pos h2, if_pos (by omega)]
      · rw [if_neg h2, if_neg (by omega)]

theorem padded_eq (xs : List Int) : padded xs = headP xs (padLen xs.length - xs.length - 9) ++ tail8 (8 * xs.length) 8 := by
  obtain ⟨m, hm⟩ : ∃ m, m = padLen xs.length := ⟨_, rfl⟩
  have hm9 : xs.length + 9 ≤ m := by rw [hm]; unfold padLen; omega
  unfold padded
  rw [← hm]
  apply List.ext_getElem?
  intro i
  rw [tailN_get m _ _ (by simp; omega) i 8 (by omega)]
  have hh := headP_len xs (m - xs.length - 9)
  by_cases h : m - 8 ≤ i ∧ i < m
  · rw [if_pos h, List.getElem?_append_right (by omega), hh]
    simp only [tail8, List.getElem?_map]
    rw [List.getElem?_range (by omega)]
    simp only [Option.map_some]
    congr 6
    omega
  · rw [if_neg h]
    by_cases h2 : i < m
    · rw [List.getElem?_append_left (by omega), List.getElem?_set]
      unfold headP
      by_cases h3 : xs.length = i
      · rw [if_pos h3, if_pos (by simp; omega), List.getElem?_append_right (by omega)]
        simp [h3]
      · rw [if_neg h3]
        by_cases h4 : i < xs.length
        · rw [List.getElem?_append_left h4, List.getElem?_append_left h4]
        · rw [List.getElem?_append_right (by omega), List.getElem?_append_right (by omega)]
          obtain ⟨d, hd⟩ : ∃ d, i - xs.length = d + 1 := ⟨i - xs.length - 1, by omega⟩
          rw [hd, List.getElem?_cons_succ, List.getElem?_replicate, List.getElem?_replicate, if_pos (by omega), if_pos (by omega)]
    · rw [List.getElem?_eq_none (by simp; omega), List.getElem?_eq_none (by rw [List.length_append, hh]; simp [tail8]; omega)]

def lenOfS : Value → Nat | .slice _ n _ => n | _ => 0
set_option maxHeartbeats 2000000 in
theorem rpad_any (A : Option Addr) (n c : Nat) (xs : List Int) (w : World) (hn : xs.length = n) (hb : n ≤ 4000) (hx : Rd w A (nums .u8 xs)) :
    Calls Tryd.prog 55 #[.slice A n c] w (IsBytes w (padded xs)) := by
  have HX := Lib.hid hx
  have HN := Lib.hid hn
  clear hx hn
  obtain ⟨z, hz⟩ : ∃ z, z = padLen n - n - 9 := ⟨_, rfl⟩
  have hz1 : (n + 1 + z) % 64 = 56 := by rw [hz]; unfold padLen; omega
  have hz2 : z < 64 := by rw [hz]; unfold padLen; omega
  have hz3 : ∀ j, j < z → (n + 1 + j) % 64 ≠ 56 := by intro j hj; rw [hz] at hj; unfold padLen at hj; omega
  have HZ := Lib.hid hz
  have HZ3 := Lib.hid hz3
  clear hz hz3
  obtain ⟨i0, hi, hi0, hi1, hi2⟩ := info_parts infoByte
  have hnil : w.ownsRow w.heap.size 5 1 (.slice none 0 0) 0 [] := ⟨rfl, .inl ⟨rfl, rfl⟩⟩
  go_enter Tryd.func55, Tryd.ntmps55
  go_wp2_with (at_builtin; first
    | (refine append_rd rfl _ _ rfl w.heap.size (.slice none 0 0) 0 [] rfl hnil A n c xs rfl HN.out HX.out (by omega) (Nat.le_refl _) ?_; intro v1 w1 hown1 hgrow1; rw [Nat.zero_add, List.nil_append] at hown1; obtain ⟨A1, c1, rfl⟩ := own_slice hown1; clear hnil; have hs1 := hgrow1.size)
    | (refine wpList_append_own _ rfl _ _ 22 rfl w.heap.size 5 i0 (.int .u8 0) 1 1 Tryd.underlying22 hi hi0 hi1 hi2 rfl (by decide) (.slice A1 n c1) n _ rfl (hown1.alloc _) ⟨w1.heap.size, 0, none⟩ 1 1 [.int .u8 128] rfl rfl (cell_one_new _ _ _) (by simp [Value.oneCell']) (by unfold maxLen; omega) (by omega) (by rw [World.size_alloc]; omega) ?_; intro v2 w2 hown2 hgrow2 _; obtain ⟨A2, c2, rfl⟩ := own_slice hown2; have hb2 := keep_below hown1 hgrow2 (keep_below0 (base := w.heap.size) (w := w) (s := 1) (e := 5) (n := 0) (v := .slice none 0 0) (xs := []) ⟨rfl, .inl ⟨rfl, rfl⟩⟩ hgrow1 brf (Nat.le_refl _) (Nat.le_refl _)) hs1 (Nat.le_refl _)))
  have hs2 := hb2.size
  have hown2' : w2.ownsRow w.heap.size 5 1 (.slice A2 (n + 1 + 0) c2) (n + 1 + 0) (nums .u8 (headP xs 0)) := by
    have e : nums .u8 (headP xs 0) = nums .u8 xs ++ [.int .u8 128] := by simp [headP]
    rw [e, Nat.add_zero]; exact hown2
  clear hgrow1 hgrow2 hown1 hown2 hs1
  go_loopw [3] (fun s3 wr => ∃ j : Nat, j ≤ z ∧ (∃ A c, s3 = .slice A (n + 1 + j) c) ∧ wr.ownsRow w.heap.size 5 1 s3 (n + 1 + j) (nums .u8 (headP xs j)) ∧ Below w.heap.size w wr) (fun s3 _ => n + 1 + z - lenOfS s3)
  case atStart =>
    exact ⟨0, Nat.zero_le _, ⟨A2, c2, rfl⟩, hown2', hb2⟩
  case round =>
    obtain ⟨j, hj, ⟨A3, c3, rfl⟩, hown, hb6⟩ := hrel
    have hzz := hb6.size
    by_cases hlt : j < z
    · have hne : ¬ (((n : Int) + 1 + j) % 64 = 56) := by have := HZ3.out j hlt; omega
      go_wp2_with (at_builtin; refine wpList_append_own _ rfl _ _ 22 rfl w.heap.size 5 i0 (.int .u8 0) 1 1 Tryd.underlying22 hi hi0 hi1 hi2 rfl (by decide) (.slice A3 (n + 1 + j) c3) (n + 1 + j) _ rfl (hown.alloc _) ⟨wr.heap.size, 0, none⟩ 1 1 [.int .u8 0] rfl rfl (cell_one_new _ _ _) (by simp [Value.oneCell']) (by unfold maxLen; omega) (by omega) (by rw [World.size_alloc]; omega) ?_; intro v4 w4 hown4 hgrow4 _; obtain ⟨A4, c4, rfl⟩ := own_slice hown4)
      refine ⟨⟨j + 1, by omega, ⟨A4, c4, by congr 1⟩, ?_, ?_⟩, ?_⟩
      · rw [headP_succ, nums_app]
        exact hown4
      · exact keep_below hown hgrow4 hb6 hzz (Nat.le_refl _)
      · show n + 1 + z - (n + 1 + j + 1) < n + 1 + z - (n + 1 + j)
        omega
    · have hjz : j = z := by omega
      have heq : ((n : Int) + 1 + j) % 64 = 56 := by rw [hjz]; omega
      have HJ := Lib.hid hjz
      clear hjz
      have hle : n + 1 + j ≤ 4100 := by omega
      go_wp2_with fail
      clear heq
      go_loopw [3, 5, 22] (fun s3 _ i wr => ∃ k : Nat, k ≤ 8 ∧ i = .int .i64 k ∧ (∃ A c, s3 = .slice A (n + 1 + j + k) c) ∧ wr.ownsRow w.heap.size 5 1 s3 (n + 1 + j + k) (nums .u8 (headP xs j ++ tail8 (8 * n) k)) ∧ Below w.heap.size w wr) (fun _ _ i _ => 8 - (intOf i).toNat)
      case atStart =>
        exact ⟨0, Nat.zero_le _, rfl, ⟨A3, c3, rfl⟩, by simpa [tail8] using hown, hb6⟩
      case round =>
        obtain ⟨k, hk, rfl, ⟨A5, c5, rfl⟩, hown5, hb7⟩ := hrel
        have hz7 := hb7.size
        have r0 : (0 : Int) ≤ (k : Int) := by omega
        by_cases hlt : k < 8
        · have r1 : (k : Int) < 8 := by omega
          go_wp2_with (at_builtin; refine wpList_append_own _ rfl _ _ 22 rfl w.heap.size 5 i0 (.int .u8 0) 1 1 Tryd.underlying22 hi hi0 hi1 hi2 rfl (by decide) (.slice A5 (n + 1 + j + k) c5) (n + 1 + j + k) _ rfl (hown5.alloc _) ⟨wr.heap.size, 0, none⟩ 1 1 [.int .u8 (((8 * n / 2 ^ (56 - 8 * k)) % 256 : Nat) : Int)] rfl rfl ?c3 (by simp [Value.oneCell']) (by unfold maxLen; omega) (by omega) (by rw [World.size_alloc]; omega) ?_; rotate_left; intro v8 w8 hown8 hgrow8 _; obtain ⟨A8, c8, rfl⟩ := own_slice hown8)
          case c3 =>
            have e : ((n : Int) * 8 / 2 ^ (56 - 8 * k) % 256) = ((((8 * n) / 2 ^ (56 - 8 * k)) % 256 : Nat) : Int) := by
              rw [Nat.mul_comm 8 n, Int.natCast_emod, Int.natCast_ediv, Int.natCast_mul, Int.natCast_pow]; rfl
            rw [e]
            exact cell_one_new _ _ _
          refine ⟨⟨k + 1, by omega, by congr 1, ⟨A8, c8, by congr 1⟩, ?_, ?_⟩, by show 8 - ((k : Int) + 1).toNat < 8 - (k : Int).toNat; omega⟩
          · rw [tail8_succ, ← List.append_assoc, nums_app]
            exact hown8
          · exact keep_below hown5 hgrow8 hb7 hz7 (Nat.le_refl _)
        · have r1 : (8 : Int) ≤ (k : Int) := by omega
          have hk8 : k = 8 := by omega
          have HK8 := Lib.hid hk8
          clear hk8
          go_wp2_with fail
          refine bodyPost_ret (results_tmp rfl _ _ _) rfl ?_
          have hkk := HK8.out
          subst hkk
          have e : padded xs = headP xs j ++ tail8 (8 * n) 8 := by
            rw [padded_eq, HN.out, HJ.out, HZ.out]
          rw [e]
          exact isBytes_of_own hown5 (by rw [List.length_append, headP_len, HN.out]; simp [tail8]) (by omega) hb7
end Go.Proofs.YtmkmndgdakpojaaDoor
