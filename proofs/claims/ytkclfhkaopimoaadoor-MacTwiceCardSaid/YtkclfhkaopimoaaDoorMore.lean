/- Two rows that are the same, told so. -/
import Derived.Test.YtkclfhkaopimoaaDoorSn
namespace Go.Proofs.YtkclfhkaopimoaaDoor
open Go.RowKit

theorem same_true (A B : Option Addr) (n c m d : Nat) (xs ys : List Int) (w : World) (he : xs = ys) (hn : xs.length = n) (hm : ys.length = m) (hx : Rd w A (nums .u8 xs)) (hy : Rd w B (nums .u8 ys)) (bx : Byt xs) :
    Calls Tryd.prog 17 #[.slice A n c, .slice B m d] w (fun e w' => e = .returned (.bool true) ∧ w = w') := by
  subst he
  refine (same_any A B n c m d xs xs w hn hm hx hy bx bx).mono ?_
  rintro e w' ⟨rfl, rfl⟩
  exact ⟨by simp, rfl⟩

/-- The beginning of what a row reads as. -/
theorem Rd.take {w : World} {A : Option Addr} {l : List Int} (h : Rd w A (nums .u8 l)) (k : Nat) : Rd w A (nums .u8 (l.take k)) := by
  rcases h with h | ⟨b, off, hA, hlt, hc⟩
  · left
    have : l = [] := by simpa [nums] using h
    simp [nums, this]
  · refine .inr ⟨b, off, hA, hlt, fun i v hv => hc i v ?_⟩
    rw [nums, List.map_take, List.getElem?_take] at hv
    split at hv
    · exact hv
    · simp at hv
/-- A part of what a row in a block of its own reads as. -/
theorem Rd.part {w : World} {B o : Nat} {l : List Int} (h : Rd w (some ⟨B, o, none⟩) (nums .u8 l)) (i k : Nat) : Rd w (some ⟨B, o + i, none⟩) (nums .u8 ((l.drop i).take k)) := by
  rcases h with h | ⟨b, off, hA, hlt, hc⟩
  · left
    have : l = [] := by simpa [nums] using h
    simp [nums, this]
  · cases hA
    refine .inr ⟨B, o + i, rfl, hlt, fun j v hv => ?_⟩
    rw [nums, List.map_take, List.getElem?_take] at hv
    split at hv
    · rw [List.map_drop, List.getElem?_drop] at hv
      rw [Nat.add_assoc]
      exact hc (i + j) v hv
    · simp at hv
end Go.Proofs.YtkclfhkaopimoaaDoor
