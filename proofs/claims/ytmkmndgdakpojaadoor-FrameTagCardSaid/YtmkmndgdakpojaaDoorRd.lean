/- Slices that read as lists of values, nil let in; how they stay through what a call turns; from what was read as data. -/
import Derived.Test.YtmkmndgdakpojaaDoorOpen
import Derived.Deep.QuietTactic
import Derived.BigQuiet
namespace Go.Proofs.YtmkmndgdakpojaaDoor
open Go.RowKit

theorem cell_lt {w : World} {a : Addr} {v : Value} (h : w.cell? a = some v) : a.block < w.heap.size := by
  rcases Nat.lt_or_ge a.block w.heap.size with hl | hl
  · exact hl
  · simp [World.cell?, Array.getElem?_eq_none hl] at h

/-- The slice value with address A reads as the values vs. -/
def Rd (w : World) (A : Option Addr) (vs : List Value) : Prop :=
  vs = [] ∨ ∃ b off, A = some ⟨b, off, none⟩ ∧ b < w.heap.size ∧ ∀ i v, vs[i]? = some v → w.cell? ⟨b, off + i, none⟩ = some v

theorem Rd.nil {w : World} {A : Option Addr} : Rd w A [] := .inl rfl
theorem Rd.below {w w' : World} {A : Option Addr} {vs : List Value} (h : Rd w A vs) (hb : Below w.heap.size w w') : Rd w' A vs := by
  rcases h with h | ⟨b, off, hA, hlt, hc⟩
  · exact .inl h
  · exact .inr ⟨b, off, hA, Nat.lt_of_lt_of_le hlt hb.size, fun i v hv => (hb.cell (p := ⟨b, off + i, none⟩) hlt).trans (hc i v hv)⟩
theorem Rd.at_ {w : World} {A : Option Addr} {vs : List Value} (h : Rd w A vs) (hne : 0 < vs.length) : ∃ b off, A = some ⟨b, off, none⟩ ∧ b < w.heap.size ∧ ∀ i v, vs[i]? = some v → w.cell? ⟨b, off + i, none⟩ = some v := by
  rcases h with rfl | h
  · simp at hne
  · exact h

/-- Numbers of one kind, as values. -/
abbrev nums (k : IntKind) (xs : List Int) : List Value := xs.map (Value.int k)
theorem nums_at {k : IntKind} {xs : List Int} {i : Nat} (h : i < xs.length) : (nums k xs)[i]? = some (.int k (xs.getD i 0)) := by
  simp [nums, List.getD, List.getElem?_eq_getElem h]

/-- A slice of integers that was read: its form. -/
theorem open_row {H : Type} {enc : TypeId × Value → H} {P : Program} {w : World} {base : Nat} {spare : Nat → Bool} {held : Bool} {t e : TypeId} {k : IntKind} {n : Nat} {v : Value} {y : DataW H × List MemPlace}
    (ht : P.underlying t = some (.slice e)) (he : P.underlying e = some (.int k)) (hC : P.cellsOf e = 1) (h : DataW.trod enc P w base spare held n t [v] = some y) :
    ∃ A l c xs, v = .slice A l c ∧ l ≤ c ∧ c ≤ maxLen ∧ xs.length = l ∧ Rd w A (nums k xs) ∧ (∀ x ∈ xs, (Lit.int k x).wf = true) ∧ (∃ sp, y.1 = .slice (xs.map fun x => .lit (.int k x)) sp ∨ (y.1 = .nil ∧ l = 0)) := by
  rcases Deep.open_slice1 ht hC h with ⟨hv, hy⟩ | ⟨a, len, cap, m, n', V, D, Pl, hv, hb, hl, hm, hmm, hy, hi⟩
  · simp at hv
    exact ⟨none, 0, 0, [], hv, Nat.le_refl _, Nat.zero_le _, rfl, .inl rfl, by simp, ⟨[], .inr ⟨by rw [hy], rfl⟩⟩⟩
  · simp at hv
    have hml : len ≤ m := by rw [hmm]; split <;> omega
    have hz : ∀ i, i < len → ∃ z, V i = .int k z ∧ (Lit.int k z).wf = true ∧ D i = .lit (.int k z) := fun i hi' => by
      obtain ⟨z, e1, e2, wz⟩ := DataW.trod_int he (hi i (by omega)).2
      simp at e1 e2
      exact ⟨z, e1, wz, e2.1⟩
    obtain ⟨f, hf⟩ := Deep.choose_lt hz
    refine ⟨some a, len, cap, (List.range len).map f, hv, hl, hm, by simp, ?_, ?_, ⟨(List.range (m - len)).map fun j => D (len + j), .inl ?_⟩⟩
    · by_cases h0 : len = 0
      · subst h0; exact .inl rfl
      · obtain ⟨b, off, spot⟩ := a
        have c0 := (hi 0 (by omega)).1
        have hs : spot = none := by simpa [Addr.add] using World.cell?_spot c0
        subst hs
        have hlt : b < w.heap.size := by
          have := cell_lt c0
          simpa [Addr.add] using this
        refine .inr ⟨b, off, rfl, hlt, fun i v hv => ?_⟩
        have hil : i < len := by
          have := (List.getElem?_eq_some_iff.1 hv).1
          simpa using this
        have := (hi i (by omega)).1
        have hadd : (Addr.mk b off none).add i = ⟨b, off + i, none⟩ := by
          unfold Addr.add
          by_cases h : i = 0 <;> simp [h]
        rw [hadd, (hf i hil).1] at this
        rw [this]
        simp [nums, List.getElem?_map, List.getElem?_range hil] at hv
        rw [← hv]
    · intro x hx
      obtain ⟨i, hi', rfl⟩ := List.mem_map.1 hx
      exact (hf i (List.mem_range.1 hi')).2.1
    · rw [hy]
      simp only [List.map_map]
      congr 1
      exact List.map_congr_left fun i hi' => (hf i (List.mem_range.1 hi')).2.2
end Go.Proofs.YtmkmndgdakpojaaDoor
