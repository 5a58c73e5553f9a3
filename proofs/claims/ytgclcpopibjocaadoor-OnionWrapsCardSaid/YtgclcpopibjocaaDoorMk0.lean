/- The law that a tag is a hash of the key, and of a hash. -/
import Derived.Test.YtgclcpopibjocaaDoorMi0
import Derived.Test.YtgclcpopibjocaaDoorApart
import Derived.Deep.MidRow
namespace Go.Proofs.YtgclcpopibjocaaDoor
open Go.RowKit Go.ChangeShapes Go.WideShapes Go.ChangeAt
set_option linter.unusedSimpArgs false
set_option linter.unusedVariables false
set_option maxRecDepth 100000

theorem okWide_arr {P : Program} {w : World} {r : Reach} {base n : Nat} {t e : TypeId} {v : Value} (ht : P.underlying t = some (.array n e)) (h : Value.okWide P w r base t v) : ∃ cs, v = .agg cs ∧ cs.size = P.cellsOf t := by
  simp only [Value.okWide, ht] at h
  obtain ⟨cs, h1, h2, _⟩ := h
  exact ⟨cs, h1, h2⟩

/-- Eight words, read as data. -/
theorem open_bytes64 {H : Type} {enc : TypeId × Value → H} {W : World} {base b0 : Nat} {sp : Nat → Bool} {held : Bool} {v : Value} {d : DataW H} {p : List MemPlace} (hv : Value.okWide Tryd.prog W .any base 68 v) (h : DataW.Trod enc Tryd.prog W b0 sp held 68 v d p) :
    ∃ l : List Int, v = .agg (nums .u8 l).toArray ∧ l.length = 64 ∧ Byt l := by
  obtain ⟨cs, rfl, hsz⟩ := okWide_arr Tryd.underlying68 hv
  rw [show Tryd.prog.cellsOf _ = 64 from by kernel_rfl] at hsz
  obtain ⟨l⟩ := cs
  obtain ⟨fuel, hf⟩ := h
  obtain ⟨xs, m1, rfl, hx1, hlen, hn3, hel⟩ := DataW.trod_array Tryd.underlying68 hf
  have hsz : l.length = 64 := hsz
  have get : ∀ i, i < 64 → ∃ z : Int, l[i]? = some (.int .u8 z) ∧ 0 ≤ z ∧ z ≤ 255 := by
    intro i hi
    have h0 := hel i hi
    rw [List.getElem?_eq_getElem (show i < xs.length by omega), show Tryd.prog.cellsOf 5 = 1 from by kernel_rfl, Nat.mul_one] at h0
    obtain ⟨k, e1, e2, e3⟩ := DataW.trod_int Tryd.underlying5 h0
    have e4 := congrArg (fun l => l[0]?) e1
    have e5 : (decide ((0 : Int) ≤ k) && decide (k ≤ (255 : Int))) = true := e3
    exact ⟨k, by simpa [Value.cells] using e4, by simpa using e5⟩
  obtain ⟨f, hf⟩ := Deep.choose_lt get
  refine ⟨(List.range 64).map f, ?_, by simp, ?_⟩
  · congr 2
    apply List.ext_getElem?
    intro i
    by_cases hi : i < 64
    · rw [(hf i hi).1]
      simp [nums, List.getElem?_range hi]
    · rw [List.getElem?_eq_none (by omega), List.getElem?_eq_none (by simp [nums]; omega)]
  · intro x hx
    obtain ⟨i, hi, rfl⟩ := List.mem_map.1 hx
    exact (hf i (List.mem_range.1 hi)).2

theorem RdB {w w' : World} {b B : Nat} {vs : List Value} (h : Rd w (some ⟨b, 0, none⟩) vs) (hb : Below B w w') (hlt : b < B) (hs : w.heap.size ≤ w'.heap.size) : Rd w' (some ⟨b, 0, none⟩) vs := by
  rcases h with h | ⟨b', o, he, hl, hc⟩
  · exact .inl h
  · cases he
    exact .inr ⟨b, 0, rfl, Nat.lt_of_lt_of_le hl hs, fun i v hv => (hb.cell (p := ⟨b, 0 + i, none⟩) hlt).trans (hc i v hv)⟩
theorem RdG {w w' : World} {b : Nat} {vs : List Value} {row : Option Nat} (h : Rd w (some ⟨b, 0, none⟩) vs) (hg : w.grownBy w' row) (hne : ∀ g, row = some g → g < b) : Rd w' (some ⟨b, 0, none⟩) vs := by
  rcases h with h | ⟨b', o, he, hl, hc⟩
  · exact .inl h
  · cases he
    exact .inr ⟨b, 0, rfl, Nat.lt_of_lt_of_le hl hg.size, fun i v hv => (World.cell?_of_block (a := ⟨b, 0 + i, none⟩) (hg.block b hl (fun e => by have := hne b e.symm; omega))).trans (hc i v hv)⟩
end Go.Proofs.YtgclcpopibjocaaDoor
