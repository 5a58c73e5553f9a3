/- Which of two stamps' bytes are less: in plain lists. -/
import Derived.Test.YtmkmndgdakpojaaTg
import Derived.Test.YtmkmndgdakpojaaTe
namespace Go.Proofs.Ytmkmndgdakpojaa
set_option linter.unusedVariables false
set_option linter.unusedSimpArgs false

/-- Which of two lists is less. -/
def lexL : List Int → List Int → Bool
  | _, [] => false
  | [], _ :: _ => true
  | a :: x, b :: y => decide (a < b) || (decide (a = b) && lexL x y)
theorem u8_lt {a b : Int} (ha : 0 ≤ a ∧ a ≤ 255) (hb : 0 ≤ b ∧ b ≤ 255) : (decide (UInt8.ofNat a.toNat < UInt8.ofNat b.toNat)) = decide (a < b) := by
  apply decide_eq_decide.2
  rw [UInt8.lt_iff_toNat_lt]
  simp
  omega
theorem u8_eq {a b : Int} (ha : 0 ≤ a ∧ a ≤ 255) (hb : 0 ≤ b ∧ b ≤ 255) : (UInt8.ofNat a.toNat == UInt8.ofNat b.toNat) = decide (a = b) := by
  by_cases h : a = b
  · subst h; simp
  · have : ¬ UInt8.ofNat a.toNat = UInt8.ofNat b.toNat := fun e => by
      have h3 := congrArg UInt8.toNat e
      simp at h3
      omega
    rw [decide_eq_false h]
    exact beq_eq_false_iff_ne.2 this
theorem bytesLess_nums : ∀ (xs ys : List Int), Byt xs → Byt ys → Op.bytesLess (xs.map fun n => UInt8.ofNat n.toNat) (ys.map fun n => UInt8.ofNat n.toNat) = lexL xs ys
  | [], [], _, _ => rfl
  | _ :: _, [], _, _ => rfl
  | [], _ :: _, _, _ => rfl
  | a :: x, b :: y, hx, hy => by
    have ih := bytesLess_nums x y (fun z hz => hx z (List.mem_cons_of_mem _ hz)) (fun z hz => hy z (List.mem_cons_of_mem _ hz))
    have ha := hx a (List.mem_cons_self ..)
    have hb := hy b (List.mem_cons_self ..)
    simp only [List.map_cons, Op.bytesLess, lexL, u8_eq ha hb, ih]
    rw [u8_lt ha hb]
theorem less_str {xs ys : List Int} {s t : ByteArray} (hs : s = strOfNums xs) (ht : t = strOfNums ys) (hx : Byt xs) (hy : Byt ys) : Op.bytesLess s.toList t.toList = lexL xs ys := by
  have e1 : s.toList = xs.map fun n => UInt8.ofNat n.toNat := by rw [hs, ByteArray.toList_eq]; rfl
  have e2 : t.toList = ys.map fun n => UInt8.ofNat n.toNat := by rw [ht, ByteArray.toList_eq]; rfl
  rw [e1, e2, bytesLess_nums xs ys hx hy]

/-- Numbers of one length decide, unless they are the same. -/
theorem lexL_val : ∀ (l m r s : List Int), l.length = m.length → Byt l → Byt m → (valB l < valB m → lexL (l ++ r) (m ++ s) = true) ∧ (valB m < valB l → lexL (l ++ r) (m ++ s) = false) ∧ (valB l = valB m → lexL (l ++ r) (m ++ s) = lexL r s)
  | [], [], r, s, _, _, _ => ⟨fun h => absurd h (Nat.lt_irrefl _), fun h => absurd h (Nat.lt_irrefl _), fun _ => rfl⟩
  | a :: l, b :: m, r, s, h, hl, hm => by
    have hl' : Byt l := fun z hz => hl z (List.mem_cons_of_mem _ hz)
    have hm' : Byt m := fun z hz => hm z (List.mem_cons_of_mem _ hz)
    have ha := hl a (List.mem_cons_self ..)
    have hb := hm b (List.mem_cons_self ..)
    have hlen : l.length = m.length := by simpa using h
    obtain ⟨i1, i2, i3⟩ := lexL_val l m r s hlen hl' hm'
    have b1 := valB_lt hl'
    have b2 := valB_lt hm'
    rw [hlen] at b1
    have e1 : valB (a :: l) = a.toNat * 2 ^ (8 * m.length) + valB l := by rw [valB_cons, hlen]
    have e2 := valB_cons b m
    obtain ⟨p, hp⟩ : ∃ p, p = 2 ^ (8 * m.length) := ⟨_, rfl⟩
    rw [← hp] at b1 b2 e1 e2
    have hc : lexL (a :: l ++ r) (b :: m ++ s) = (decide (a < b) || (decide (a = b) && lexL (l ++ r) (m ++ s))) := rfl
    have key : (a < b → valB (a :: l) < valB (b :: m)) ∧ (b < a → valB (b :: m) < valB (a :: l)) ∧ (a = b → (valB (a :: l) < valB (b :: m) ↔ valB l < valB m) ∧ (valB (b :: m) < valB (a :: l) ↔ valB m < valB l) ∧ (valB (a :: l) = valB (b :: m) ↔ valB l = valB m)) := by
      rw [e1, e2]
      refine ⟨fun hab => ?_, fun hab => ?_, fun hab => ?_⟩
      · have h1 : a.toNat + 1 ≤ b.toNat := by omega
        have h2 := Nat.mul_le_mul_right p h1
        rw [Nat.add_mul] at h2
        omega
      · have h1 : b.toNat + 1 ≤ a.toNat := by omega
        have h2 := Nat.mul_le_mul_right p h1
        rw [Nat.add_mul] at h2
        omega
      · subst hab; omega
    obtain ⟨k1, k2, k3⟩ := key
    rw [hc]
    rcases Int.lt_trichotomy a b with hab | hab | hab
    · have := k1 hab
      refine ⟨fun _ => by simp [hab], fun h => by omega, fun h => by omega⟩
    · obtain ⟨q1, q2, q3⟩ := k3 hab
      have n1 : ¬ a < b := by omega
      refine ⟨fun h => by simp [hab, i1 (q1.1 h)], fun h => by simp [hab, i2 (q2.1 h)], fun h => by simp [hab, i3 (q3.1 h)]⟩
    · have := k2 hab
      have n1 : ¬ a < b := by omega
      have n2 : ¬ a = b := by omega
      refine ⟨fun h => by omega, fun _ => by simp [n1, n2], fun h => by omega⟩

theorem stB_less (e1 r1 e2 r2 : Nat) (xs ys : List Int) (h1 : e1 < 18446744073709551616) (h2 : r1 < 18446744073709551616) (h3 : e2 < 18446744073709551616) (h4 : r2 < 18446744073709551616) :
    (cmpS e1 r1 e2 r2 < 0 → lexL (stB e1 r1 xs) (stB e2 r2 ys) = true) ∧ (0 < cmpS e1 r1 e2 r2 → lexL (stB e1 r1 xs) (stB e2 r2 ys) = false) := by
  have hp : (2 : Nat) ^ (8 * 8) = 18446744073709551616 := by decide
  have v : ∀ k, k < 18446744073709551616 → valB (lowB k 8) = k := fun k hk => by rw [valB_low, hp, Nat.mod_eq_of_lt hk]
  have s1 : stB e1 r1 xs = lowB e1 8 ++ (lowB r1 8 ++ ([((xs.length : Nat) : Int)] ++ xs)) := by simp [stB]
  have s2 : stB e2 r2 ys = lowB e2 8 ++ (lowB r2 8 ++ ([((ys.length : Nat) : Int)] ++ ys)) := by simp [stB]
  obtain ⟨a1, a2, a3⟩ := lexL_val (lowB e1 8) (lowB e2 8) (lowB r1 8 ++ ([((xs.length : Nat) : Int)] ++ xs)) (lowB r2 8 ++ ([((ys.length : Nat) : Int)] ++ ys)) (by simp [lowB_len]) (lowB_byt _ _) (lowB_byt _ _)
  obtain ⟨b1, b2, b3⟩ := lexL_val (lowB r1 8) (lowB r2 8) ([((xs.length : Nat) : Int)] ++ xs) ([((ys.length : Nat) : Int)] ++ ys) (by simp [lowB_len]) (lowB_byt _ _) (lowB_byt _ _)
  rw [v e1 h1, v e2 h3, ← s1, ← s2] at a1 a2 a3
  rw [v r1 h2, v r2 h4] at b1 b2
  have hc : cmpS e1 r1 e2 r2 = if e1 = e2 then (if r1 < r2 then -1 else if r2 < r1 then 1 else 0) else (if e1 < e2 then -1 else if e2 < e1 then 1 else 0) := by
    unfold cmpS cmpC
    simp only [Int.ofNat_lt, Int.natCast_inj]
  rw [hc]
  by_cases he : e1 = e2
  · rw [if_pos he]
    have := a3 he
    rcases Nat.lt_trichotomy r1 r2 with h | h | h
    · rw [if_pos h]; exact ⟨fun _ => by rw [this, b1 h], fun h0 => by omega⟩
    · rw [if_neg (by omega), if_neg (by omega)]; exact ⟨fun h0 => by omega, fun h0 => by omega⟩
    · rw [if_neg (by omega), if_pos h]; exact ⟨fun h0 => by omega, fun _ => by rw [this, b2 h]⟩
  · rw [if_neg he]
    rcases Nat.lt_or_gt_of_ne he with h | h
    · rw [if_pos h]; exact ⟨fun _ => a1 h, fun h0 => by omega⟩
    · rw [if_neg (by omega), if_pos h]; exact ⟨fun h0 => by omega, fun _ => a2 h⟩
end Go.Proofs.Ytmkmndgdakpojaa
