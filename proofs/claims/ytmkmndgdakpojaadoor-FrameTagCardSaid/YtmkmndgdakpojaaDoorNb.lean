/- What the laws of hashes proved besides: bytes that were read; rows cut; words' bytes. -/
import Derived.Test.YtmkmndgdakpojaaDoorLaid
import Derived.Test.YtmkmndgdakpojaaDoorSk
namespace Go.Proofs.YtmkmndgdakpojaaDoor
open Go.RowKit Go.ChangeShapes Go.WideShapes Go.ChangeAt
set_option linter.unusedSimpArgs false
set_option linter.unusedVariables false
set_option maxRecDepth 100000

theorem open_bytes {H : Type} {enc : TypeId × Value → H} {W : World} {base b0 : Nat} {sp : Nat → Bool} {held : Bool} {v : Value} {d : DataW H} {p : List MemPlace} (h : DataW.Trod enc Tryd.prog W b0 sp held 22 v d p) (hv : Value.okWide Tryd.prog W .any base 22 v) :
    ∃ A n c xs, v = .slice A n c ∧ xs.length = n ∧ Rd W A (nums .u8 xs) ∧ Byt xs := by
  obtain ⟨A, n, c, rfl⟩ := okWide_slice Tryd.underlying22 hv
  obtain ⟨fuel, hf⟩ := h
  obtain ⟨A', l, c', xs, he, _, _, hl, hr, hw, _⟩ := open_row Tryd.underlying22 Tryd.underlying5 (by kernel_rfl) hf
  cases he
  refine ⟨A, n, c, xs, rfl, hl, hr, fun x hx => ?_⟩
  have : (decide ((0 : Int) ≤ x) && decide (x ≤ (255 : Int))) = true := hw x hx
  simpa using this

theorem wordB_byt {x : Int} (h : 0 ≤ x ∧ x < 4294967296) : Byt (wordB x) := by
  intro y hy
  simp [wordB] at hy
  rcases hy with rfl | rfl | rfl | rfl <;> omega

theorem bytesL_byt {l : List Int} (h : Words l) : Byt (bytesL l) := by
  intro y hy
  obtain ⟨x, hx, hy⟩ := List.mem_flatMap.1 hy
  exact wordB_byt (h x hx) y hy

theorem sumL_byt (xs : List Int) : Byt (sumL xs) := bytesL_byt (foldB_words _ _)

theorem tailN_byt (m v : Nat) {l : List Int} (h : Byt l) (k : Nat) : Byt (tailN m v l k) := by
  induction k with
  | zero => exact h
  | succ k ih =>
    intro x hx
    rcases List.mem_or_eq_of_mem_set hx with hx | rfl
    · exact ih x hx
    · omega

theorem padded_byt {xs : List Int} (h : Byt xs) : Byt (padded xs) := by
  refine tailN_byt _ _ ?_ 8
  intro x hx
  rcases List.mem_or_eq_of_mem_set hx with hx | rfl
  · rcases List.mem_append.1 hx with hx | hx
    · exact h x hx
    · have := List.eq_of_mem_replicate hx
      omega
  · omega

theorem Brow.whole {w : World} {B : Nat} {l : List Int} (h : Brow w B l) (hB : B < w.heap.size) : Rd w (some ⟨B, 0, none⟩) (nums .u8 l) := by
  refine .inr ⟨B, 0, rfl, hB, fun i v hv => ?_⟩
  have hi : i < l.length := by
    have := (List.getElem?_eq_some_iff.1 hv).1
    simpa using this
  rw [Nat.zero_add, h.1 i hi, ← hv, nums_at hi]

theorem same_true (A B : Option Addr) (n c m d : Nat) (xs ys : List Int) (w : World) (he : xs = ys) (hn : xs.length = n) (hm : ys.length = m) (hx : Rd w A (nums .u8 xs)) (hy : Rd w B (nums .u8 ys)) (bx : Byt xs) :
    Calls Tryd.prog 14 #[.slice A n c, .slice B m d] w (fun e w' => e = .returned (.bool true) ∧ w = w') := by
  subst he
  refine (same_any A B n c m d xs xs w hn hm hx hy bx bx).mono ?_
  rintro e w' ⟨rfl, rfl⟩
  exact ⟨by simp, rfl⟩

/-- The beginning of what a row reads as. -/
theorem Rd.take {w : World} {A : Option Addr} {l : List Int} (h : Rd w A (nums .u8 l)) (k : Nat) : Rd w A (nums .u8 (l.take k)) := by
  rcases h with h | ⟨b, off, hA, hlt, hc⟩
  · left
    have : l = [] := by simpa [nums] using h
    simp [nums, this]
  · refine .inr ⟨b, off, hA, hlt, fun i v hv => hc i v ?_⟩
    rw [nums, List.map_take, List.getElem?_take] at hv
    split at hv
    · exact hv
    · simp at hv

/-- A part of what a row in a block of its own reads as. -/
theorem Rd.part {w : World} {B o : Nat} {l : List Int} (h : Rd w (some ⟨B, o, none⟩) (nums .u8 l)) (i k : Nat) : Rd w (some ⟨B, o + i, none⟩) (nums .u8 ((l.drop i).take k)) := by
  rcases h with h | ⟨b, off, hA, hlt, hc⟩
  · left
    have : l = [] := by simpa [nums] using h
    simp [nums, this]
  · cases hA
    refine .inr ⟨B, o + i, rfl, hlt, fun j v hv => ?_⟩
    rw [nums, List.map_take, List.getElem?_take] at hv
    split at hv
    · rw [List.map_drop, List.getElem?_drop] at hv
      rw [Nat.add_assoc]
      exact hc (i + j) v hv
    · simp at hv

theorem Brow.rd0 {w : World} {B k : Nat} {l : List Int} (h : Brow w B l) (hB : B < w.heap.size) (hk : 64 * k + 64 ≤ l.length) : Rd w (some ⟨B, 64 * k, none⟩) (nums .u8 (chunk l k)) := h.rd hB hk

/-- Bytes in a new block. -/
theorem rd_new (w : World) (l : List Int) (t : TypeId) : Rd (w.alloc (.cells (nums .u8 l).toArray t)) (some ⟨w.heap.size, 0, none⟩) (nums .u8 l) := by
  refine .inr ⟨_, _, rfl, by simp, fun i v hv => ?_⟩
  rw [World.cell?_alloc_at _ _ _ _ rfl]
  simpa using hv

end Go.Proofs.YtmkmndgdakpojaaDoor
