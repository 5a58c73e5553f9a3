/- Stamps' bytes taken: the plain laws. -/
import Derived.Test.YtmkmndgdakpojaaDoorTb0
namespace Go.Proofs.YtmkmndgdakpojaaDoor
set_option linter.unusedVariables false
set_option linter.unusedSimpArgs false

/-- How many servers, which epoch, which round, and which servers bytes say. -/
def tkM (b : List Int) : Nat := (b.getD 16 0).toNat
def tkE (b : List Int) : Nat := valB (b.take 8)
def tkR (b : List Int) : Nat := valB ((b.drop 8).take 8)
def tkX (b : List Int) : List Int := (b.drop 17).take (tkM b)
/-- Whether bytes begin with a stamp's. -/
def stOk (b : List Int) : Prop := 17 ≤ b.length ∧ 17 + tkM b ≤ b.length ∧ goodSt (tkX b)
theorem tkX_len {b : List Int} (h : stOk b) : (tkX b).length = tkM b := by
  obtain ⟨h1, h2, _⟩ := h
  rw [tkX, List.length_take, List.length_drop]; omega
theorem tkM_le {b : List Int} (h : stOk b) : tkM b ≤ 8 := by rw [← tkX_len h]; exact h.2.2.2.1
theorem tkE_lt {b : List Int} (hb : Byt b) : tkE b < 18446744073709551616 := by
  have h := valB_lt (l := b.take 8) (fun x hx => hb x (List.mem_of_mem_take hx))
  have h2 : (b.take 8).length ≤ 8 := List.length_take_le _ _
  have h3 : 2 ^ (8 * (b.take 8).length) ≤ 2 ^ 64 := Nat.pow_le_pow_right (by omega) (by omega)
  have h4 : (2 : Nat) ^ 64 = 18446744073709551616 := by decide
  unfold tkE
  omega
theorem tkR_lt {b : List Int} (hb : Byt b) : tkR b < 18446744073709551616 := by
  have h := valB_lt (l := (b.drop 8).take 8) (fun x hx => hb x (List.mem_of_mem_drop (List.mem_of_mem_take hx)))
  have h2 : ((b.drop 8).take 8).length ≤ 8 := List.length_take_le _ _
  have h3 : 2 ^ (8 * ((b.drop 8).take 8).length) ≤ 2 ^ 64 := Nat.pow_le_pow_right (by omega) (by omega)
  have h4 : (2 : Nat) ^ 64 = 18446744073709551616 := by decide
  unfold tkR
  omega

/-- What was taken is put as these bytes. -/
theorem stB_take_back {b : List Int} (h : stOk b) (hb : Byt b) : stB (tkE b) (tkR b) (tkX b) = b.take (17 + tkM b) := by
  have hm := tkX_len h
  obtain ⟨h1, h2, h3⟩ := h
  have e1 : lowB (tkE b) 8 = b.take 8 := by
    have := low_valB (l := b.take 8) (fun x hx => hb x (List.mem_of_mem_take hx))
    rwa [List.length_take, Nat.min_eq_left (by omega)] at this
  have e2 : lowB (tkR b) 8 = (b.drop 8).take 8 := by
    have := low_valB (l := (b.drop 8).take 8) (fun x hx => hb x (List.mem_of_mem_drop (List.mem_of_mem_take hx)))
    rwa [List.length_take, List.length_drop, Nat.min_eq_left (by omega)] at this
  have hx := hb (b.getD 16 0) (by simp [List.getD, List.getElem?_eq_getElem (show 16 < b.length by omega)])
  have e3 : ((((tkX b).length : Nat)) : Int) = b.getD 16 0 := by rw [hm, tkM]; omega
  rw [stB, e1, e2, e3, tkX]
  have p1 : b.take 16 = b.take 8 ++ (b.drop 8).take 8 := by rw [show (16 : Nat) = 8 + 8 from rfl, List.take_add]
  have p2 : b.take 17 = b.take 16 ++ [b.getD 16 0] := take_snoc (xs := b) (k := 16) (by omega)
  rw [← p1, ← p2, ← List.take_add]

/-- What was put is taken, whatever stands behind it. -/
theorem stB_at {ep ro : Nat} {xs more : List Int} : ∀ i, i < 17 + xs.length → (stB ep ro xs ++ more).getD i 0 = (stB ep ro xs).getD i 0 := fun i hi => by
  simp [List.getD, List.getElem?_append_left (show i < (stB ep ro xs).length by rw [stB_len]; exact hi)]
theorem stB_16 (ep ro : Nat) (xs : List Int) : (stB ep ro xs).getD 16 0 = ((xs.length : Nat) : Int) := by
  have : (stB ep ro xs) = (lowB ep 8 ++ lowB ro 8) ++ (((xs.length : Nat) : Int) :: xs) := by simp only [stB, List.append_assoc, List.cons_append, List.nil_append]
  have hl : (lowB ep 8 ++ lowB ro 8).length = 16 := by simp [lowB_len]
  rw [this, List.getD_eq_getElem?_getD, List.getElem?_append_right (by rw [hl]; exact Nat.le_refl _), hl]
  rfl
theorem stB_parts {ep ro : Nat} {xs more : List Int} (he : ep < 18446744073709551616) (hr : ro < 18446744073709551616) :
    tkM (stB ep ro xs ++ more) = xs.length ∧ tkE (stB ep ro xs ++ more) = ep ∧ tkR (stB ep ro xs ++ more) = ro ∧ tkX (stB ep ro xs ++ more) = xs := by
  have h4 : (2 : Nat) ^ (8 * 8) = 18446744073709551616 := by decide
  have hM : tkM (stB ep ro xs ++ more) = xs.length := by rw [tkM, stB_at 16 (by omega), stB_16]; omega
  have e0 : stB ep ro xs ++ more = lowB ep 8 ++ (lowB ro 8 ++ ([((xs.length : Nat) : Int)] ++ (xs ++ more))) := by simp [stB]
  refine ⟨hM, ?_, ?_, ?_⟩
  · rw [tkE, e0, List.take_append_of_le_length (by rw [lowB_len]; exact Nat.le_refl _), List.take_of_length_le (by rw [lowB_len]; exact Nat.le_refl _), valB_low, h4, Nat.mod_eq_of_lt he]
  · have d : (stB ep ro xs ++ more).drop 8 = lowB ro 8 ++ ([((xs.length : Nat) : Int)] ++ (xs ++ more)) := by
      rw [e0]; exact List.drop_left' (lowB_len _ _)
    rw [tkR, d, List.take_append_of_le_length (by rw [lowB_len]; exact Nat.le_refl _), List.take_of_length_le (by rw [lowB_len]; exact Nat.le_refl _), valB_low, h4, Nat.mod_eq_of_lt hr]
  · have d : (stB ep ro xs ++ more).drop 17 = xs ++ more := by
      have e1 : stB ep ro xs ++ more = (lowB ep 8 ++ lowB ro 8 ++ [((xs.length : Nat) : Int)]) ++ (xs ++ more) := by simp [stB]
      rw [e1]; exact List.drop_left' (by simp [lowB_len])
    rw [tkX, hM, d, List.take_left]
theorem stB_ok {ep ro : Nat} {xs more : List Int} (hg : goodSt xs) (he : ep < 18446744073709551616) (hr : ro < 18446744073709551616) : stOk (stB ep ro xs ++ more) := by
  obtain ⟨h1, _, _, h4⟩ := stB_parts (more := more) he hr
  refine ⟨?_, ?_, by rw [h4]; exact hg⟩
  · rw [List.length_append, stB_len]; omega
  · rw [h1, List.length_append, stB_len]; omega
/-- A stamp's bytes cut short are none. -/
theorem stB_cut {ep ro : Nat} {xs : List Int} {k : Nat} (hk : k < (stB ep ro xs).length) : ¬ stOk ((stB ep ro xs).take k) := fun h => by
  obtain ⟨h1, h2, _⟩ := h
  rw [List.length_take] at h1 h2
  have e : ((stB ep ro xs).take k).getD 16 0 = (stB ep ro xs).getD 16 0 := by simp [List.getD, List.getElem?_take, show 16 < k by omega]
  rw [tkM, e, stB_16] at h2
  rw [stB_len] at hk h2
  omega
end Go.Proofs.YtmkmndgdakpojaaDoor
