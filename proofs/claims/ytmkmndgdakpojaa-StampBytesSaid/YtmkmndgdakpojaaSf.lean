/- A row's blocks of 64, one behind the other: the iterator's contract. -/
import Derived.Test.YtmkmndgdakpojaaSe
import Derived.RangeFuncNested
import Derived.RangeFuncBound
import Derived.RangeFuncCalls
import Derived.RangeFuncLeaves
import Derived.RangeFuncBox
import Derived.RangeFuncFrom
import Derived.Shelf.Abstract
import Derived.Shelf.RegionOpen
import Derived.WalkKit
import Derived.OwnWalkIn
import Derived.TacticsInMore
import Derived.LoopNIn
import Derived.LoopIn
namespace Go.Proofs.Ytmkmndgdakpojaa
open Go.RowKit Go.Shelf
set_option linter.unusedSimpArgs false
set_option linter.unusedVariables false
attribute [local go_sem] Oper.semAt_some

/-- The first k numbers. -/
def upto (k : Nat) : List Nat := List.range k
theorem upto_succ (k : Nat) : upto (k + 1) = upto k ++ [k] := by simp [upto, List.range_succ]
theorem upto_length (k : Nat) : (upto k).length = k := by simp [upto]

/-- A row's block k; there is no more than q of them. -/
def pc (q k : Nat) : Nat := if k < q then k else 0
def piece (B m q : Nat) (k : Nat) : Array Value := #[.slice (some ⟨B, 64 * pc q k, none⟩) 64 (m - 64 * pc q k)]
theorem piece_eq {B m q k : Nat} (h : k < q) : piece B m q k = #[.slice (some ⟨B, 64 * k, none⟩) 64 (m - 64 * k)] := by simp [piece, pc, h]
theorem pc_lt {q k : Nat} (h : 0 < q) : pc q k < q := by unfold pc; split <;> omega

/-- A box's cell stays. -/
def KeepsAt (Bs : Nat) (W W' : World) : Prop := W'.cell? ⟨Bs, 0, none⟩ = W.cell? ⟨Bs, 0, none⟩
theorem keepsAt_t {Bs : Nat} {A B C : World} (h : KeepsAt Bs A B) (k : KeepsAt Bs B C) : KeepsAt Bs A C := k.trans h
theorem keepsAt_b {Bs : Nat} {w : World} (hB : Bs < w.heap.size) (W : World) (l : Nat) (o o' : Obj) (hl : w.heap.size ≤ l) (_ : W.heap[l]? = some o) (_ : o.isCells = false) (_ : o.isWalk = false) : KeepsAt Bs W (W.putObj l o') :=
  World.cell?_of_block (World.putObj_heap_other (by show Bs ≠ l; omega))

end Go.Proofs.Ytmkmndgdakpojaa
