/- Rows that a call makes and appends to, while other blocks stand. -/
import Derived.Test.YtmkmndgdakpojaaDoorRd
import Derived.Deep.AppendLies
namespace Go.Proofs.YtmkmndgdakpojaaDoor
open Go.RowKit

theorem Rd.of_own {w : World} {base : Nat} {e : TypeId} {A : Option Addr} {n c : Nat} {vs : List Value} (h : w.ownsRow base e 1 (.slice A n c) n vs) : Rd w A vs := by
  rcases h.2 with ⟨h1, h2⟩ | ⟨g, cap, cur, h1, hb, hg, hc⟩
  · have hl := h.1
    rw [h2] at hl
    exact .inl (List.eq_nil_of_length_eq_zero (by simpa using hl))
  · simp only [Value.slice.injEq] at h1
    obtain ⟨rfl, _, rfl⟩ := h1
    refine .inr ⟨g, 0, rfl, (Array.getElem?_eq_some_iff.1 hg).1, fun i v hv => ?_⟩
    have := h.cells (g := g) rfl i v hv
    have hadd : (Addr.mk g 0 none).add i = ⟨g, 0 + i, none⟩ := by
      unfold Addr.add
      by_cases h : i = 0 <;> simp [h]
    rwa [hadd] at this

theorem own_slice {w : World} {base : Nat} {e : TypeId} {s : Nat} {v : Value} {n : Nat} {vs : List Value} (h : w.ownsRow base e s v n vs) : ∃ A c, v = .slice A n c := by
  rcases h.2 with ⟨h1, h2⟩ | ⟨g, cap, cur, h1, hb, hg, hc⟩
  · subst h2; exact ⟨_, _, h1⟩
  · exact ⟨_, _, h1⟩

section
variable {w w' : World} {base : Nat} {e : TypeId} {s n : Nat} {v : Value} {xs : List Value}
/-- A cell of a block ahead of the row's base, through an append (and the block that holds what is appended). -/
theorem keep_cell {o : Obj} {a : Addr} {x : Value} (hown : w.ownsRow base e s v n xs) (hg : (w.alloc o).grownBy w' v.ownBlock) (hb : a.block < base) (hc : w.cell? a = some x) : w'.cell? a = some x :=
  hg.cell ((World.cell?_alloc_lt w o a (cell_lt hc)).trans hc) (fun h => by have := (hown.lt a.block h.symm).1; omega)
theorem keep_cell0 {a : Addr} {x : Value} (hown : w.ownsRow base e s v n xs) (hg : w.grownBy w' v.ownBlock) (hb : a.block < base) (hc : w.cell? a = some x) : w'.cell? a = some x :=
  hg.cell hc (fun h => by have := (hown.lt a.block h.symm).1; omega)
theorem frozen_alloc_old {o : Obj} {a : Addr} (h : a.block < w.heap.size) : (w.alloc o).frozen? a = w.frozen? a :=
  World.frozen?_of_block (Below.heap_alloc w o a.block h)
theorem keep_frozen {o : Obj} {a : Addr} (hown : w.ownsRow base e s v n xs) (hg : (w.alloc o).grownBy w' v.ownBlock) (hb : a.block < base) (hlt : a.block < w.heap.size) (hf : w.frozen? a = false) : w'.frozen? a = false :=
  (hg.frozen_far a (by simp; omega) (fun h => by have := (hown.lt a.block h.symm).1; omega)).trans ((frozen_alloc_old hlt).trans hf)
theorem keep_frozen0 {a : Addr} (hown : w.ownsRow base e s v n xs) (hg : w.grownBy w' v.ownBlock) (hb : a.block < base) (hlt : a.block < w.heap.size) (hf : w.frozen? a = false) : w'.frozen? a = false :=
  (hg.frozen_far a hlt (fun h => by have := (hown.lt a.block h.symm).1; omega)).trans hf
theorem keep_below {B : Nat} {W : World} {o : Obj} (hown : w.ownsRow base e s v n xs) (hg : (w.alloc o).grownBy w' v.ownBlock) (h : Below B W w) (hB : B ≤ w.heap.size) (hb : B ≤ base) : Below B W w' :=
  (h.alloc hB o).grown hg (by simp; omega) (fun k hk => by have := (hown.lt k hk).1; omega)
theorem keep_below0 {B : Nat} {W : World} (hown : w.ownsRow base e s v n xs) (hg : w.grownBy w' v.ownBlock) (h : Below B W w) (hB : B ≤ w.heap.size) (hb : B ≤ base) : Below B W w' :=
  h.grown hg hB (fun k hk => by have := (hown.lt k hk).1; omega)
theorem heap_setCell_ne (w : World) {a : Addr} {u : Value} {i : Nat} (h : i ≠ a.block) : (w.setCell a u).heap[i]? = w.heap[i]? := by
  simp [World.setCell, Array.getElem?_modify, Ne.symm h]
/-- A store into a block ahead of the row's base leaves the row. -/
theorem own_setCell {a : Addr} {u : Value} (h : w.ownsRow base e s v n xs) (hb : a.block < base) : (w.setCell a u).ownsRow base e s v n xs := by
  refine ⟨h.1, ?_⟩
  rcases h.2 with h1 | ⟨g, cap, cur, h1, hbg, hg, hc⟩
  · exact .inl h1
  · exact .inr ⟨g, cap, cur, h1, hbg, (heap_setCell_ne w (by omega)).trans hg, hc⟩
theorem size_setCell (w : World) (a : Addr) (u : Value) : (w.setCell a u).heap.size = w.heap.size := by simp [World.setCell]
theorem cell_setCell_off {b i j : Nat} {u : Value} (h : i ≠ j) : (w.setCell ⟨b, i, none⟩ u).cell? ⟨b, j, none⟩ = w.cell? ⟨b, j, none⟩ :=
  World.cell?_setCell_other w ⟨b, i, none⟩ ⟨b, j, none⟩ u (fun e => h (by injection e))
theorem cell_setCell_eq {a : Addr} {u x : Value} (h : w.cell? a = some x) : (w.setCell a u).cell? a = some u := World.cell?_setCell_same' w a u (by rw [h]; rfl)
theorem cell_setCell_far {b c i j : Nat} {u : Value} (h : b ≠ c) : (w.setCell ⟨b, i, none⟩ u).cell? ⟨c, j, none⟩ = w.cell? ⟨c, j, none⟩ :=
  World.cell?_setCell_other w ⟨b, i, none⟩ ⟨c, j, none⟩ u (fun e => h (by injection e))
end

theorem infoInt : (Tryd.prog.info? 3).map (fun i => (i.zero, i.size, i.bytes)) = some (some (.int .i64 0), 1, 8) := by kernel_rfl
end Go.Proofs.YtmkmndgdakpojaaDoor
