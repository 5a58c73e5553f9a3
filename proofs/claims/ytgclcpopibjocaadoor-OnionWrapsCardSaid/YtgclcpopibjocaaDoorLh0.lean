/- Layers of one nonce differ as their texts do. -/
import Derived.Test.YtgclcpopibjocaaDoorLd
import Derived.Test.YtgclcpopibjocaaDoorMk0
import Derived.Deep.RegionWith
import Derived.Deep.DeepMust
namespace Go.Proofs.YtgclcpopibjocaaDoor
open Go.RowKit Go.ChangeShapes Go.WideShapes Go.ChangeAt
set_option linter.unusedSimpArgs false
set_option linter.unusedVariables false
set_option maxRecDepth 100000

theorem open_arr {H : Type} {enc : TypeId × Value → H} {W : World} {base b0 : Nat} {sp : Nat → Bool} {held : Bool} {v : Value} {d : DataW H} {p : List MemPlace} {t : TypeId} {N : Nat} (ht : Tryd.prog.underlying t = some (.array N 5)) (hC : Tryd.prog.cellsOf t = N) (hv : Value.okWide Tryd.prog W .any base t v) (h : DataW.Trod enc Tryd.prog W b0 sp held t v d p) :
    ∃ l : List Int, v = .agg (nums .u8 l).toArray ∧ l.length = N ∧ Byt l := by
  obtain ⟨cs, rfl, hsz⟩ := okWide_arr ht hv
  rw [hC] at hsz
  obtain ⟨l⟩ := cs
  obtain ⟨fuel, hf⟩ := h
  obtain ⟨xs, m1, rfl, hx1, hlen, hn3, hel⟩ := DataW.trod_array ht hf
  have hsz : l.length = N := hsz
  have get : ∀ i, i < N → ∃ z : Int, l[i]? = some (.int .u8 z) ∧ 0 ≤ z ∧ z ≤ 255 := by
    intro i hi
    have h0 := hel i hi
    rw [List.getElem?_eq_getElem (show i < xs.length by omega), show Tryd.prog.cellsOf 5 = 1 from by kernel_rfl, Nat.mul_one] at h0
    obtain ⟨k, e1, e2, e3⟩ := DataW.trod_int Tryd.underlying5 h0
    have e4 := congrArg (fun l => l[0]?) e1
    have e5 : (decide ((0 : Int) ≤ k) && decide (k ≤ (255 : Int))) = true := e3
    exact ⟨k, by simpa [Value.cells] using e4, by simpa using e5⟩
  obtain ⟨f, hf⟩ := Deep.choose_lt get
  refine ⟨(List.range N).map f, ?_, by simp, ?_⟩
  · congr 2
    apply List.ext_getElem?
    intro i
    by_cases hi : i < N
    · rw [(hf i hi).1]
      simp [nums, List.getElem?_range hi]
    · rw [List.getElem?_eq_none (by omega), List.getElem?_eq_none (by simp [nums]; omega)]
  · intro x hx
    obtain ⟨i, hi, rfl⟩ := List.mem_map.1 hx
    exact (hf i (List.mem_range.1 hi)).2

theorem xor8_strip (x y z : Int) (hx : 0 ≤ x ∧ x ≤ 255) (hy : 0 ≤ y ∧ y ≤ 255) (hz : 0 ≤ z ∧ z ≤ 255) : xor8 (xor8 x z) (xor8 y z) = xor8 x y := by
  obtain ⟨X, rfl⟩ := Int.eq_ofNat_of_zero_le hx.1
  obtain ⟨Y, rfl⟩ := Int.eq_ofNat_of_zero_le hy.1
  obtain ⟨Z, rfl⟩ := Int.eq_ofNat_of_zero_le hz.1
  have h1 : X < 256 := by omega
  have h2 : Y < 256 := by omega
  have h3 : Z < 256 := by omega
  rw [xor8_nat X Z h1 h3, xor8_nat Y Z h2 h3, xor8_nat X Y h1 h2, xor8_nat _ _ (Nat.xor_lt_two_pow (n := 8) h1 h3) (Nat.xor_lt_two_pow (n := 8) h2 h3)]
  congr 1
  apply Nat.eq_of_testBit_eq
  intro i
  simp only [Nat.testBit_xor]
  cases X.testBit i <;> cases Y.testBit i <;> cases Z.testBit i <;> rfl
theorem xorL_strip {a b s : List Int} (hl : a.length = b.length) (ha : Byt a) (hb : Byt b) (hs : Byt s) : xorL (xorL a s) (xorL b s) = xorL a b := by
  apply List.ext_getElem
  · simp [xor_len]
  · intro j h1 h2
    have h3 : j < a.length := by rw [xor_len] at h2; exact h2
    have e1 := xorL_at (a := xorL a s) (b := xorL b s) j (by rw [xor_len]; exact h3)
    have e2 := xorL_at (a := a) (b := b) j h3
    have f1 := xorL_at (a := a) (b := s) j h3
    have f2 := xorL_at (a := b) (b := s) j (by omega)
    rw [f1, f2, xor8_strip _ _ _ (byt_at ha j) (byt_at hb j) (byt_at hs j), ← e2] at e1
    simpa [List.getD, h1, h2] using e1
theorem hide_strip {k a b : List Int} (hl : a.length = b.length) (ha : Byt a) (hb : Byt b) : xorL (hideL k a) (hideL k b) = xorL a b := by
  rw [hideL, hideL, ← hl]
  exact xorL_strip hl ha hb (streamL_byt _ _)
theorem sealL_mid {server nonce plain : List Int} (hn : nonce.length = 16) : ((sealL server nonce plain).drop 16).take plain.length = hideL (tagL server nonce) plain := by
  have h1 : (sealL server nonce plain).drop 16 = hideL (tagL server nonce) plain ++ tagL (tagL (tagL server nonce) [3]) (outL server nonce plain) := by
    rw [sealL]
    conv => lhs; rw [outL, List.append_assoc, ← hn, List.drop_left]
    rfl
  rw [h1, List.take_append_of_le_length (by rw [hide_len]; omega), List.take_of_length_le (by rw [hide_len]; omega)]
end Go.Proofs.YtgclcpopibjocaaDoor
