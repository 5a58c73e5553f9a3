/- What the hash is, in plain words on numbers, in the walk's own forms. -/
import Derived.Test.YtmkmndgdakpojaaDoorSa
import Derived.Test.YtmkmndgdakpojaaDoorArr
namespace Go.Proofs.YtmkmndgdakpojaaDoor
open Go.RowKit

/-- Numbers of 32 bits. -/
def u32 (x : Int) : Int := IntKind.u32.wrap x
def xorU (a b : Int) : Int := bits .xor .u32 a b
def andU (a b : Int) : Int := bits .and .u32 a b
def orU (a b : Int) : Int := bits .or .u32 a b

/-- The i-th word of a block's bytes. -/
def wd (bs : List Int) (i : Nat) : Int :=
  orU (orU (orU (u32 (u32 (bs.getD (4 * i) 0) * 16777216)) (u32 (u32 (bs.getD (4 * i + 1) 0) * 65536))) (u32 (u32 (bs.getD (4 * i + 2) 0) * 256))) (u32 (bs.getD (4 * i + 3) 0))
def first16 (bs : List Int) : List Int := (List.range 16).map (wd bs)
def sg0 (x : Int) : Int := xorU (xorU (rotI x 7) (rotI x 18)) (x / 8)
def sg1 (x : Int) : Int := xorU (xorU (rotI x 17) (rotI x 19)) (x / 1024)
def schedN (bs : List Int) : Nat → List Int
  | 0 => first16 bs
  | n + 1 => schedN bs n ++ [((schedN bs n).getD n 0 + sg0 ((schedN bs n).getD (n + 1) 0) + (schedN bs n).getD (n + 9) 0 + sg1 ((schedN bs n).getD (n + 14) 0)) % 4294967296]
def sched (bs : List Int) : List Int := schedN bs 48

theorem first16_len (bs : List Int) : (first16 bs).length = 16 := by simp [first16]
theorem schedN_len (bs : List Int) (n : Nat) : (schedN bs n).length = n + 16 := by
  induction n with
  | zero => exact first16_len bs
  | succ n ih => simp [schedN, ih, Nat.add_right_comm]
theorem sched_len (bs : List Int) : (sched bs).length = 64 := schedN_len bs 48

/-- An array of 64 words, of which the first ones are l, and the others 0. -/
def Pad64 (w : World) (B : Nat) (l : List Int) : Prop := (∀ j, j < 64 → w.cell? ⟨B, j, none⟩ = some (.int .u32 (l.getD j 0))) ∧ ∀ j, w.frozen? ⟨B, j, none⟩ = false
theorem Pad64.push {w : World} {B : Nat} {l : List Int} (h : Pad64 w B l) (x : Int) {k : Nat} (hk : l.length = k) (hl : k < 64) : Pad64 (w.setCell ⟨B, k, none⟩ (.int .u32 x)) B (l ++ [x]) := by
  refine ⟨fun j hj => ?_, fun j => by rw [World.frozen?_setCell]; exact h.2 j⟩
  by_cases hjk : j = k
  · subst hjk
    rw [cell_setCell_eq (h.1 j hj)]
    simp [List.getD, hk]
  · rw [cell_setCell_off (Ne.symm hjk), h.1 j hj]
    congr 2
    simp only [List.getD]
    by_cases hlt : j < l.length
    · rw [List.getElem?_append_left hlt]
    · rw [List.getElem?_append_right (by omega), List.getElem?_eq_none (by omega), List.getElem?_eq_none (by simp; omega)]
theorem Pad64.drew {w : World} {B : Nat} {l : List Int} (h : Pad64 w B l) : Pad64 w.drew B l := h
theorem Pad64.drewN {w : World} {B : Nat} {l : List Int} (h : Pad64 w B l) (n : Nat) : Pad64 (w.drewN n) B l := h
theorem Pad64.below {w w' : World} {B b : Nat} {l : List Int} (h : Pad64 w B l) (hb : Below b w w') (hlt : B < b) : Pad64 w' B l :=
  ⟨fun j hj => (hb.cell (p := ⟨B, j, none⟩) hlt).trans (h.1 j hj), fun j => (hb.frozen (p := ⟨B, j, none⟩) hlt).trans (h.2 j)⟩

theorem Pad64.far {w : World} {B b o : Nat} {l : List Int} {v : Value} (h : Pad64 w B l) (hne : b ≠ B) : Pad64 (w.setCell ⟨b, o, none⟩ v) B l :=
  ⟨fun j hj => by rw [cell_setCell_far hne]; exact h.1 j hj, fun j => by rw [World.frozen?_setCell]; exact h.2 j⟩

/-- An array of words. -/
def Arr (w : World) (B : Nat) (l : List Int) : Prop := (∀ j, j < l.length → w.cell? ⟨B, j, none⟩ = some (.int .u32 (l.getD j 0))) ∧ ∀ j, w.frozen? ⟨B, j, none⟩ = false
theorem Arr.drew {w : World} {B : Nat} {l : List Int} (h : Arr w B l) : Arr w.drew B l := h
theorem Arr.drewN {w : World} {B : Nat} {l : List Int} (h : Arr w B l) (n : Nat) : Arr (w.drewN n) B l := h
theorem Arr.below {w w' : World} {B b : Nat} {l : List Int} (h : Arr w B l) (hb : Below b w w') (hlt : B < b) : Arr w' B l :=
  ⟨fun j hj => (hb.cell (p := ⟨B, j, none⟩) hlt).trans (h.1 j hj), fun j => (hb.frozen (p := ⟨B, j, none⟩) hlt).trans (h.2 j)⟩
theorem Arr.far {w : World} {B b o : Nat} {l : List Int} {v : Value} (h : Arr w B l) (hne : b ≠ B) : Arr (w.setCell ⟨b, o, none⟩ v) B l :=
  ⟨fun j hj => by rw [cell_setCell_far hne]; exact h.1 j hj, fun j => by rw [World.frozen?_setCell]; exact h.2 j⟩
theorem Arr.set {w : World} {B k : Nat} {l : List Int} (h : Arr w B l) (x : Int) (hk : k < l.length) : Arr (w.setCell ⟨B, k, none⟩ (.int .u32 x)) B (l.set k x) := by
  refine ⟨fun j hj => ?_, fun j => by rw [World.frozen?_setCell]; exact h.2 j⟩
  rw [List.length_set] at hj
  by_cases hjk : j = k
  · subst hjk
    rw [cell_setCell_eq (h.1 j hj)]
    simp [List.getD, hj]
  · rw [cell_setCell_off (Ne.symm hjk), h.1 j hj]
    simp [List.getD, List.getElem?_set_ne (Ne.symm hjk)]
end Go.Proofs.YtmkmndgdakpojaaDoor
