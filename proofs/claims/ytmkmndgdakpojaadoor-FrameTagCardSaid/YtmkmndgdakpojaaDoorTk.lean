/- Stamps taken; the law StampTakes. -/
import Derived.Test.YtmkmndgdakpojaaDoorTj
import Derived.Test.YtmkmndgdakpojaaDoorTf
import Derived.Test.YtmkmndgdakpojaaDoorTe
namespace Go.Proofs.YtmkmndgdakpojaaDoor
open Go.RowKit
set_option linter.unusedSimpArgs false
set_option linter.unusedVariables false
set_option maxRecDepth 100000

section
variable {A : Option Addr} {n c : Nat} {xs : List Int}
theorem b16 (hb : Byt xs) : 0 ≤ xs.getD 16 0 ∧ xs.getD 16 0 ≤ 255 := by
  by_cases h : 16 < xs.length
  · exact hb _ (by simp [List.getD, List.getElem?_eq_getElem h])
  · simp [List.getD, List.getElem?_eq_none (Nat.le_of_not_lt h)]
theorem tk_yes (w : World) (hn : xs.length = n) (hnc : n ≤ c) (hcm : c ≤ maxLen) (hx : Rd w A (nums .u8 xs)) (hb : Byt xs) (h : stOk xs) : Calls Tryd.prog 40 #[.slice A n c] w (IsTk w xs) := by
  have h8 := tkM_le h
  obtain ⟨h1, h2, h3⟩ := h
  exact (tk_walk A n c xs w hn hnc hx hb (by omega) h8 (by omega) hcm).mono fun e w' h => h.elim (·.2) (fun x => absurd h3 x.1)
theorem rtk_yes (w : World) (hn : xs.length = n) (hnc : n ≤ c) (hcm : c ≤ maxLen) (hx : Rd w A (nums .u8 xs)) (hb : Byt xs) (h : stOk xs) : Calls Tryd.prog 24 #[.slice A n c] w (IsTk w xs) := by
  have h8 := tkM_le h
  obtain ⟨h1, h2, h3⟩ := h
  exact (rtk_walk A n c xs w hn hnc hx hb (by omega) (by omega) (by omega) hcm).mono fun e w' h => h.elim (·.2) (fun x => absurd h3 x.1)
theorem tk_no (w : World) (hn : xs.length = n) (hnc : n ≤ c) (hcm : c ≤ maxLen) (hx : Rd w A (nums .u8 xs)) (hb : Byt xs) (h : ¬ stOk xs) : Calls Tryd.prog 40 #[.slice A n c] w (NoTk w) := by
  have hg := b16 hb
  by_cases h1 : n < 17
  · exact tk_short A n c w h1
  · by_cases h2 : 8 < xs.getD 16 0 ∨ (n : Int) < 17 + xs.getD 16 0
    · exact tk_many A n c xs w hn hx (by omega) hg h2
    · have hm : ((tkM xs : Nat) : Int) = xs.getD 16 0 := by rw [tkM]; omega
      refine (tk_walk A n c xs w hn hnc hx hb (by omega) (by omega) (by omega) hcm).mono fun e w' h0 => h0.elim (fun x => absurd ⟨by omega, by omega, x.1⟩ h) (·.2)
theorem rtk_no (w : World) (hn : xs.length = n) (hnc : n ≤ c) (hcm : c ≤ maxLen) (hx : Rd w A (nums .u8 xs)) (hb : Byt xs) (h : ¬ stOk xs) : Calls Tryd.prog 24 #[.slice A n c] w (NoTk w) := by
  have hg := b16 hb
  by_cases h1 : n < 17
  · exact rtk_short A n c w h1
  · by_cases h2 : (n : Int) < 17 + xs.getD 16 0
    · exact rtk_many A n c xs w hn hx (by omega) hg h2
    · have hm : ((tkM xs : Nat) : Int) = xs.getD 16 0 := by rw [tkM]; omega
      refine (rtk_walk A n c xs w hn hnc hx hb (by omega) (by omega) (by omega) hcm).mono fun e w' h0 => h0.elim (fun x => absurd ⟨by omega, by omega, x.1⟩ h) (·.2)
end

theorem rsame_refl (E R : Int) (A B : Option Addr) (n c d : Nat) (xs : List Int) (W : World) (hn : xs.length = n) (hlen : n ≤ maxLen) (hx : Rd W A (nums .i64 xs)) (hy : Rd W B (nums .i64 xs)) :
    Calls Tryd.prog 27 #[.agg #[.int .u64 E, .int .u64 R, .slice A n c], .agg #[.int .u64 E, .int .u64 R, .slice B n d]] W fun e w' => e = .returned (.bool true) ∧ Below W.heap.size W w' :=
  (rsame_any E R E R A B n c n d xs xs W hn hn hx hy hlen).mono fun e w' ⟨he, hb⟩ => ⟨by rw [he]; simp, hb⟩

open Go.Joins Go.ChangeShapes Go.WideShapes Go.ChangeAt Go.Deep in
/-- A slice of bytes that was read: its form. -/
theorem open_bytesT {H : Type} {enc : TypeId × Value → H} {W : World} {base b0 : Nat} {sp : Nat → Bool} {held : Bool} {v : Value} {d : DataW H} {p : List MemPlace} (h : DataW.Trod enc Tryd.prog W b0 sp held 22 v d p) (hv : Value.okWide Tryd.prog W .any base 22 v) :
    ∃ A n c xs, v = .slice A n c ∧ n ≤ c ∧ c ≤ maxLen ∧ xs.length = n ∧ Rd W A (nums .u8 xs) ∧ Byt xs := by
  obtain ⟨A, n, c, rfl⟩ := okWide_slice Tryd.underlying22 hv
  obtain ⟨fuel, hf⟩ := h
  obtain ⟨A', l, c', xs, he, hc1, hc2, hl, hr, hw, _⟩ := open_row Tryd.underlying22 Tryd.underlying5 (by kernel_rfl) hf
  cases he
  refine ⟨A, n, c, xs, rfl, hc1, hc2, hl, hr, fun x hx => ?_⟩
  have : (decide ((0 : Int) ≤ x) && decide (x ≤ (255 : Int))) = true := hw x hx
  simpa using this

end Go.Proofs.YtmkmndgdakpojaaDoor
