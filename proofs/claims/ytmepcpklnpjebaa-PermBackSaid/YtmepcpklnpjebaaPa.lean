/- Shuffles, in plain lists: what a shuffle is, what draws make of the numbers from 0 on, what turns a shuffle back. -/
import Derived.Test.YtmepcpklnpjebaaRow
namespace Go.Proofs.Ytmepcpklnpjebaa
set_option linter.unusedVariables false
set_option linter.unusedSimpArgs false

theorem getD_set_self {l : List Int} {i : Nat} {x : Int} (h : i < l.length) : (l.set i x).getD i 0 = x := by simp [List.getD, h]
theorem getD_set_ne {l : List Int} {i j : Nat} {x : Int} (h : i ≠ j) : (l.set i x).getD j 0 = l.getD j 0 := by simp [List.getD, List.getElem?_set_ne h]
theorem list_eq {xs ys : List Int} (hl : xs.length = ys.length) (h : ∀ j, j < xs.length → xs.getD j 0 = ys.getD j 0) : xs = ys := by
  apply List.ext_getElem hl
  intro i h1 h2
  have := h i h1
  simpa [List.getD, List.getElem?_eq_getElem h1, List.getElem?_eq_getElem h2] using this

/-- Two places of a list changed for each other. -/
def swapL (l : List Int) (i j : Nat) : List Int := (l.set i (l.getD j 0)).set j (l.getD i 0)
theorem swapL_len (l : List Int) (i j : Nat) : (swapL l i j).length = l.length := by simp [swapL]
/-- Where the number comes from that stands at place k when places i and j were changed. -/
def turn (i j k : Nat) : Nat := if k = j then i else if k = i then j else k
theorem swapL_at {l : List Int} {i j k : Nat} (hi : i < l.length) (hj : j < l.length) : (swapL l i j).getD k 0 = l.getD (turn i j k) 0 := by
  unfold swapL turn
  by_cases h1 : k = j
  · subst h1
    rw [getD_set_self (by simpa using hj), if_pos rfl]
  · rw [getD_set_ne (Ne.symm h1), if_neg h1]
    by_cases h2 : k = i
    · subst h2
      rw [getD_set_self hi, if_pos rfl]
    · rw [getD_set_ne (Ne.symm h2), if_neg h2]
theorem turn_lt {i j k n : Nat} (hi : i < n) (hj : j < n) (hk : k < n) : turn i j k < n := by unfold turn; split; exact hi; split; exact hj; exact hk
theorem turn_inj {i j a b : Nat} (h : turn i j a = turn i j b) : a = b := by
  unfold turn at h
  split at h <;> split at h <;> (try split at h) <;> (try split at h) <;> omega

/-- A list is a shuffle: its numbers are places of it, each once. -/
def Sh (l : List Int) : Prop := (∀ i, i < l.length → 0 ≤ l.getD i 0 ∧ l.getD i 0 < l.length) ∧ ∀ i j, i < l.length → j < l.length → l.getD i 0 = l.getD j 0 → i = j

theorem Sh.swap {l : List Int} {i j : Nat} (h : Sh l) (hi : i < l.length) (hj : j < l.length) : Sh (swapL l i j) := by
  refine ⟨fun k hk => ?_, fun a b ha hb e => ?_⟩
  · rw [swapL_len] at hk ⊢
    rw [swapL_at hi hj]
    exact h.1 _ (turn_lt hi hj hk)
  · rw [swapL_len] at ha hb
    rw [swapL_at hi hj, swapL_at hi hj] at e
    exact turn_inj (h.2 _ _ (turn_lt hi hj ha) (turn_lt hi hj hb) e)

/-- The numbers from 0 on. -/
def idL (n : Nat) : List Int := (List.range n).map fun (i : Nat) => (i : Int)
theorem idL_len (n : Nat) : (idL n).length = n := by simp [idL]
theorem idL_at {n i : Nat} (h : i < n) : (idL n).getD i 0 = i := by simp [idL, List.getD, List.getElem?_range h]
theorem idL_succ (n : Nat) : idL (n + 1) = idL n ++ [(n : Int)] := by simp [idL, List.range_succ]
theorem sh_id (n : Nat) : Sh (idL n) := by
  refine ⟨fun i hi => ?_, fun i j hi hj e => ?_⟩
  · rw [idL_len] at hi ⊢
    rw [idL_at hi]
    omega
  · rw [idL_len] at hi hj
    rw [idL_at hi, idL_at hj] at e
    omega

/-- What is left over. -/
def leftN (d : Int) (m : Nat) : Nat := (d % (m : Int)).toNat
theorem leftN_lt (d : Int) {m : Nat} (h : 0 < m) : leftN d m < m := by
  have h1 := Int.emod_lt_of_pos d (b := (m : Int)) (by omega)
  have h2 := Int.emod_nonneg d (b := (m : Int)) (by omega)
  unfold leftN
  omega
theorem leftN_cast (d : Int) {m : Nat} (h : 0 < m) : ((leftN d m : Nat) : Int) = d % (m : Int) := by
  have h2 := Int.emod_nonneg d (b := (m : Int)) (by omega)
  unfold leftN
  omega

/-- k rounds of a shuffle of n numbers. -/
def shufN (n : Nat) (ds : List Int) : Nat → List Int
  | 0 => idL n
  | k + 1 => swapL (shufN n ds k) (n - 1 - k) (leftN (ds.getD k 0) (n - k))
theorem shufN_len (n : Nat) (ds : List Int) (k : Nat) : (shufN n ds k).length = n := by
  induction k with
  | zero => exact idL_len n
  | succ k ih => rw [shufN, swapL_len, ih]
def shufL (n : Nat) (ds : List Int) : List Int := shufN n ds (n - 1)
theorem shufL_len (n : Nat) (ds : List Int) : (shufL n ds).length = n := shufN_len _ _ _
theorem shufN_sh (n : Nat) (ds : List Int) : ∀ k, k ≤ n - 1 → Sh (shufN n ds k)
  | 0, _ => sh_id n
  | k + 1, h => (shufN_sh n ds k (by omega)).swap (by rw [shufN_len]; omega) (by rw [shufN_len]; have := leftN_lt (ds.getD k 0) (m := n - k) (by omega); omega)
theorem shufL_sh (n : Nat) (ds : List Int) : Sh (shufL n ds) := shufN_sh n ds _ (Nat.le_refl _)
/-- Draws that leave the same over shuffle alike. -/
theorem shufN_congr (n : Nat) (ds es : List Int) : ∀ k, k ≤ n - 1 → (∀ j, j < k → leftN (ds.getD j 0) (n - j) = leftN (es.getD j 0) (n - j)) → shufN n ds k = shufN n es k
  | 0, _, _ => rfl
  | k + 1, hk, h => by rw [shufN, shufN, shufN_congr n ds es k (by omega) (fun j hj => h j (by omega)), h k (by omega)]

/-- A map of the first n numbers among themselves that never meets one twice meets all. -/
theorem pigeon : ∀ (n : Nat) (f : Nat → Nat), (∀ i, i < n → f i < n) → (∀ i j, i < n → j < n → f i = f j → i = j) → ∀ y, y < n → ∃ i, i < n ∧ f i = y
  | 0, _, _, _, y, hy => by omega
  | n + 1, f, hf, hi, y, hy => by
    have hfn := hf n (by omega)
    by_cases hya : f n = y
    · exact ⟨n, by omega, hya⟩
    · have gl : ∀ i, i < n → (if f i = n then f n else f i) < n := fun i hin => by
        have h1 := hf i (by omega)
        split
        · rename_i h2
          have : f n ≠ n := fun h3 => by have := hi i n (by omega) (by omega) (by omega); omega
          omega
        · omega
      have gi : ∀ i j, i < n → j < n → (if f i = n then f n else f i) = (if f j = n then f n else f j) → i = j := fun i j hin hjn e => by
        split at e <;> split at e
        · exact hi i j (by omega) (by omega) (by omega)
        · have := hi n j (by omega) (by omega) e; omega
        · have := hi i n (by omega) (by omega) e; omega
        · exact hi i j (by omega) (by omega) e
      by_cases hyn : y = n
      · obtain ⟨i, hin, hgi⟩ := pigeon n (fun i => if f i = n then f n else f i) gl gi (f n) (by omega)
        split at hgi
        · exact ⟨i, by omega, by omega⟩
        · have := hi i n (by omega) (by omega) hgi; omega
      · obtain ⟨i, hin, hgi⟩ := pigeon n (fun i => if f i = n then f n else f i) gl gi y (by omega)
        split at hgi
        · omega
        · exact ⟨i, by omega, hgi⟩

theorem Sh.onto {l : List Int} (h : Sh l) (y : Nat) (hy : y < l.length) : ∃ i, i < l.length ∧ l.getD i 0 = y := by
  obtain ⟨i, hi, e⟩ := pigeon l.length (fun i => (l.getD i 0).toNat) (fun i hi => by have := h.1 i hi; show (l.getD i 0).toNat < _; omega)
    (fun i j hi hj e => h.2 i j hi hj (by have := h.1 i hi; have := h.1 j hj; have e : (l.getD i 0).toNat = (l.getD j 0).toNat := e; omega)) y hy
  exact ⟨i, hi, by have := h.1 i hi; have e : (l.getD i 0).toNat = y := e; omega⟩
/-- Two shuffles as long that are one at all places but the first are one. -/
theorem sh_eq {l m : List Int} (h : Sh l) (k : Sh m) (hl : l.length = m.length) (he : ∀ i, 1 ≤ i → i < l.length → l.getD i 0 = m.getD i 0) : l = m := by
  refine list_eq hl fun j hj => ?_
  by_cases h0 : j = 0
  · subst h0
    have h1 := h.1 0 hj
    obtain ⟨i, hi, e⟩ := k.onto (l.getD 0 0).toNat (by omega)
    have e2 : m.getD i 0 = l.getD 0 0 := by omega
    by_cases hi0 : i = 0
    · subst hi0; exact e2.symm
    · have := he i (by omega) (by omega)
      have := h.2 i 0 (by omega) hj (by omega)
      omega
  · exact he j (by omega) hj

/-- k rounds of turning a shuffle round. -/
def invN (l : List Int) : Nat → List Int
  | 0 => List.replicate l.length 0
  | k + 1 => (invN l k).set (l.getD k 0).toNat k
def invL (l : List Int) : List Int := invN l l.length
theorem invN_len (l : List Int) (k : Nat) : (invN l k).length = l.length := by
  induction k with
  | zero => simp [invN]
  | succ k ih => simp [invN, ih]
theorem invL_len (l : List Int) : (invL l).length = l.length := invN_len _ _
theorem invN_at {l : List Int} (h : Sh l) : ∀ k, k ≤ l.length → ∀ i, i < k → (invN l k).getD (l.getD i 0).toNat 0 = i
  | 0, _, i, hi => by omega
  | k + 1, hk, i, hi => by
    have h1 := h.1 i (by omega)
    have h2 := h.1 k (by omega)
    rw [invN]
    by_cases e : i = k
    · subst e
      rw [getD_set_self (by rw [invN_len]; omega)]
    · have : (l.getD k 0).toNat ≠ (l.getD i 0).toNat := fun hh => e (h.2 i k (by omega) (by omega) (by omega))
      rw [getD_set_ne this]
      exact invN_at h k (by omega) i (by omega)
theorem invL_at {l : List Int} (h : Sh l) (i : Nat) (hi : i < l.length) : (invL l).getD (l.getD i 0).toNat 0 = i := invN_at h _ (Nat.le_refl _) i hi
theorem inv_back {l : List Int} (h : Sh l) (y : Nat) (hy : y < l.length) : ∃ i, i < l.length ∧ (invL l).getD y 0 = (i : Int) ∧ l.getD i 0 = (y : Int) := by
  obtain ⟨i, hi, e⟩ := h.onto y hy
  refine ⟨i, hi, ?_, e⟩
  have := invL_at h i hi
  rw [e] at this
  simpa using this
theorem Sh.inv {l : List Int} (h : Sh l) : Sh (invL l) := by
  refine ⟨fun y hy => ?_, fun a b ha hb e => ?_⟩
  · rw [invL_len] at hy ⊢
    obtain ⟨i, hi, e, _⟩ := inv_back h y hy
    rw [e]; omega
  · rw [invL_len] at ha hb
    obtain ⟨i, hi, e1, f1⟩ := inv_back h a ha
    obtain ⟨j, hj, e2, f2⟩ := inv_back h b hb
    have : i = j := by omega
    subst this
    omega
theorem inv_inv {l : List Int} (h : Sh l) : invL (invL l) = l := by
  refine list_eq (by rw [invL_len, invL_len]) fun j hj => ?_
  rw [invL_len, invL_len] at hj
  obtain ⟨i, hi, e1, f1⟩ := inv_back h.inv j (by rw [invL_len]; exact hj)
  rw [invL_len] at hi
  obtain ⟨m, hm, e2, f2⟩ := inv_back h i hi
  rw [e1, ← f2]
  have : m = j := by omega
  rw [this]

/-- Parts in the order of a shuffle. -/
def appL {α : Type} (l : List Int) (L : List (List α)) : List (List α) := l.map fun n => L.getD n.toNat []
theorem appL_len {α : Type} (l : List Int) (L : List (List α)) : (appL l L).length = l.length := by simp [appL]
theorem appL_back {α : Type} {l : List Int} (h : Sh l) (L : List (List α)) (hl : L.length = l.length) : appL (invL l) (appL l L) = L := by
  apply List.ext_getElem
  · rw [appL_len, invL_len, hl]
  · intro i h1 h2
    obtain ⟨m, hm, e2, f2⟩ := inv_back h i (by omega)
    have hi : i < (invL l).length := by rw [invL_len]; omega
    have e3 : (invL l)[i] = (m : Int) := by simpa [List.getD, hi] using e2
    have e4 : l[m] = (i : Int) := by simpa [List.getD, hm] using f2
    simp [appL, e3, List.getD, hm, e4, h2]

/-- How often a number stands among the first k. -/
def cnt (l : List Int) (v : Int) : Nat → Nat
  | 0 => 0
  | k + 1 => cnt l v k + if l.getD k 0 = v then 1 else 0
theorem cnt_zero {l : List Int} {v : Int} : ∀ k, cnt l v k = 0 → ∀ i, i < k → l.getD i 0 ≠ v
  | 0, _, i, hi => by omega
  | k + 1, h, i, hi => by
    rw [cnt] at h
    by_cases e : i = k
    · subst e
      intro hh
      rw [if_pos hh] at h
      omega
    · exact cnt_zero k (by omega) i (by omega)
theorem cnt_none {l : List Int} {v : Int} : ∀ k, (∀ i, i < k → l.getD i 0 ≠ v) → cnt l v k = 0
  | 0, _ => rfl
  | k + 1, h => by rw [cnt, cnt_none k (fun i hi => h i (by omega)), if_neg (h k (by omega))]
theorem cnt_le {l : List Int} {v : Int} : ∀ k, cnt l v k ≤ k
  | 0 => Nat.le_refl _
  | k + 1 => by rw [cnt]; have := cnt_le (l := l) (v := v) k; split <;> omega
theorem cnt_one {l : List Int} {v : Int} : ∀ k, cnt l v k = 1 → ∃ i, i < k ∧ l.getD i 0 = v ∧ ∀ j, j < k → l.getD j 0 = v → j = i
  | 0, h => by simp [cnt] at h
  | k + 1, h => by
    rw [cnt] at h
    by_cases e : l.getD k 0 = v
    · rw [if_pos e] at h
      have h0 := cnt_zero k (show cnt l v k = 0 by omega)
      exact ⟨k, by omega, e, fun j hj hv => by
        by_cases hjk : j = k
        · exact hjk
        · exact absurd hv (h0 j (by omega))⟩
    · rw [if_neg e] at h
      obtain ⟨i, hi, e1, e2⟩ := cnt_one k (by omega)
      exact ⟨i, by omega, e1, fun j hj hv => by
        by_cases hjk : j = k
        · subst hjk; exact absurd hv e
        · exact e2 j (by omega) hv⟩
theorem cnt_of {l : List Int} {v : Int} : ∀ k, (∃ i, i < k ∧ l.getD i 0 = v ∧ ∀ j, j < k → l.getD j 0 = v → j = i) → cnt l v k = 1
  | 0, ⟨i, hi, _⟩ => by omega
  | k + 1, ⟨i, hi, e1, e2⟩ => by
    rw [cnt]
    by_cases e : i = k
    · subst e
      rw [if_pos e1, cnt_none i fun j hj hv => by have := e2 j (by omega) hv; omega]
    · rw [if_neg fun hv => by have := e2 k (by omega) hv; omega, cnt_of k ⟨i, by omega, e1, fun j hj hv => e2 j (by omega) hv⟩]
/-- A list is a shuffle if each of its places stands in it once. -/
theorem sh_of_cnt {l : List Int} (h : ∀ i : Nat, i < l.length → cnt l i l.length = 1) : Sh l := by
  have hx : ∀ i : Nat, ∃ j : Nat, i < l.length → (j < l.length ∧ l.getD j 0 = i ∧ ∀ j', j' < l.length → l.getD j' 0 = i → j' = j) := fun i => by
    by_cases hi : i < l.length
    · obtain ⟨j, hj⟩ := cnt_one _ (h i hi)
      exact ⟨j, fun _ => hj⟩
    · exact ⟨0, fun hh => absurd hh hi⟩
  obtain ⟨f, hf⟩ := Classical.axiomOfChoice hx
  have hon := pigeon l.length f (fun i hi => (hf i hi).1) (fun i j hi hj e => by
    have a := (hf i hi).2.1
    have b := (hf j hj).2.1
    rw [e] at a
    omega)
  have hin : ∀ j, j < l.length → ∃ i : Nat, i < l.length ∧ f i = j ∧ l.getD j 0 = i := fun j hj => by
    obtain ⟨i, hi, e⟩ := hon j hj
    exact ⟨i, hi, e, by rw [← e]; exact (hf i hi).2.1⟩
  refine ⟨fun j hj => ?_, fun a b ha hb e => ?_⟩
  · obtain ⟨i, hi, _, e⟩ := hin j hj
    omega
  · obtain ⟨i, hi, _, e1⟩ := hin a ha
    have x1 := (hf i hi).2.2 a ha e1
    have x2 := (hf i hi).2.2 b hb (by omega)
    omega
theorem cnt_of_sh {l : List Int} (h : Sh l) (i : Nat) (hi : i < l.length) : cnt l i l.length = 1 := by
  obtain ⟨j, hj, e⟩ := h.onto i hi
  exact cnt_of _ ⟨j, hj, e, fun j' hj' e' => h.2 j' j hj' hj (by omega)⟩
end Go.Proofs.Ytmepcpklnpjebaa
