/- Numbers as bytes, and stamps' bytes, in plain lists. -/
import Derived.Test.YtgclcpopibjocaaDoorStCheck
import Derived.Test.YtgclcpopibjocaaDoorBytes
namespace Go.Proofs.YtgclcpopibjocaaDoor
set_option linter.unusedVariables false
set_option linter.unusedSimpArgs false

/-- The last k bytes of a number, the highest one first. -/
def lowB (v : Nat) : Nat → List Int
  | 0 => []
  | k + 1 => (((v / 2 ^ (8 * k)) % 256 : Nat) : Int) :: lowB v k
theorem lowB_len (v k : Nat) : (lowB v k).length = k := by
  induction k with
  | zero => rfl
  | succ k ih => simp [lowB, ih]
theorem lowB_byt (v k : Nat) : Byt (lowB v k) := by
  induction k with
  | zero => intro x hx; cases hx
  | succ k ih =>
    intro x hx
    rcases List.mem_cons.1 hx with rfl | hx
    · have := Nat.mod_lt (v / 2 ^ (8 * k)) (show 0 < 256 by omega)
      omega
    · exact ih x hx
theorem pow8 (k : Nat) : 2 ^ (8 * (k + 1)) = 2 ^ (8 * k) * 256 := by
  rw [Nat.mul_add, Nat.pow_add]
theorem lowB_mod (v m : Nat) : ∀ k, k ≤ m → lowB (v % 2 ^ (8 * m)) k = lowB v k
  | 0, _ => rfl
  | k + 1, h => by
    rw [lowB, lowB, lowB_mod v m k (by omega)]
    congr 2
    obtain ⟨d, rfl⟩ : ∃ d, m = k + 1 + d := ⟨m - (k + 1), by omega⟩
    have e : 2 ^ (8 * (k + 1 + d)) = 2 ^ (8 * k) * (256 * 2 ^ (8 * d)) := by
      rw [Nat.mul_add, Nat.pow_add, pow8, Nat.mul_assoc]
    rw [e, Nat.mod_mul_right_div_self, Nat.mod_mul_right_mod]

/-- The number that bytes are. -/
def valB (l : List Int) : Nat := l.foldl (fun n x => n * 256 + x.toNat) 0
theorem valB_snoc (l : List Int) (x : Int) : valB (l ++ [x]) = valB l * 256 + x.toNat := by simp [valB]
theorem foldB_from (l : List Int) : ∀ n, l.foldl (fun n x => n * 256 + x.toNat) n = n * 2 ^ (8 * l.length) + valB l := by
  induction l with
  | nil => intro n; simp [valB]
  | cons x r ih =>
    intro n
    have h1 := ih (n * 256 + x.toNat)
    have h2 := ih (0 * 256 + x.toNat)
    have e : valB (x :: r) = r.foldl (fun n x => n * 256 + x.toNat) (0 * 256 + x.toNat) := rfl
    rw [List.foldl_cons, h1, e, h2, List.length_cons, pow8, Nat.zero_mul, Nat.zero_add, Nat.add_mul, Nat.mul_assoc, Nat.mul_comm 256, Nat.add_assoc]
theorem valB_cons (x : Int) (r : List Int) : valB (x :: r) = x.toNat * 2 ^ (8 * r.length) + valB r := by
  have h := foldB_from r x.toNat
  have e : valB (x :: r) = r.foldl (fun n x => n * 256 + x.toNat) (0 * 256 + x.toNat) := rfl
  rw [e, Nat.zero_mul, Nat.zero_add, h]
theorem valB_lt {l : List Int} (h : Byt l) : valB l < 2 ^ (8 * l.length) := by
  induction l with
  | nil => simp [valB]
  | cons x r ih =>
    have h1 := ih (fun y hy => h y (List.mem_cons_of_mem _ hy))
    have h2 := h x (List.mem_cons_self ..)
    rw [valB_cons, List.length_cons, pow8]
    have h3 : x.toNat ≤ 255 := by omega
    have h4 := Nat.mul_le_mul_right (2 ^ (8 * r.length)) h3
    rw [Nat.mul_comm (2 ^ (8 * r.length)) 256]
    omega
theorem valB_low (v : Nat) : ∀ k, valB (lowB v k) = v % 2 ^ (8 * k)
  | 0 => by simp [lowB, valB, Nat.mod_one]
  | k + 1 => by
    rw [lowB, valB_cons, lowB_len, valB_low v k, pow8, Int.toNat_natCast, Nat.mod_mul, Nat.mul_comm, Nat.add_comm]
theorem low_valB {l : List Int} (h : Byt l) : lowB (valB l) l.length = l := by
  induction l with
  | nil => rfl
  | cons x r ih =>
    have hr : Byt r := fun y hy => h y (List.mem_cons_of_mem _ hy)
    have h2 := h x (List.mem_cons_self ..)
    have hlt := valB_lt hr
    rw [List.length_cons, lowB]
    have e1 : valB (x :: r) / 2 ^ (8 * r.length) = x.toNat := by
      rw [valB_cons, Nat.mul_comm, Nat.mul_add_div (Nat.two_pow_pos _), Nat.div_eq_of_lt hlt, Nat.add_zero]
    have e2 : lowB (valB (x :: r)) r.length = lowB (valB r) r.length := by
      rw [← lowB_mod (valB (x :: r)) r.length _ (Nat.le_refl _), ← lowB_mod (valB r) r.length _ (Nat.le_refl _)]
      congr 1
      rw [valB_cons, Nat.mul_comm, Nat.mul_add_mod]
    rw [e1, e2, ih hr, Nat.mod_eq_of_lt (by omega)]
    congr 1
    omega

/-- A stamp's bytes. -/
def stB (ep ro : Nat) (xs : List Int) : List Int := (lowB ep 8 ++ lowB ro 8) ++ [((xs.length : Nat) : Int)] ++ xs
theorem stB_len (ep ro : Nat) (xs : List Int) : (stB ep ro xs).length = 17 + xs.length := by
  simp [stB, lowB_len]; omega
theorem stB_byt {ep ro : Nat} {xs : List Int} (h : goodSt xs) : Byt (stB ep ro xs) := fun x hx => by
  obtain ⟨h1, h2, h3, _⟩ := h
  simp only [stB, List.mem_append, List.mem_singleton] at hx
  rcases hx with ((hx | hx) | hx) | hx
  · exact lowB_byt _ _ x hx
  · exact lowB_byt _ _ x hx
  · omega
  · have := h3 x hx; omega
end Go.Proofs.YtgclcpopibjocaaDoor
