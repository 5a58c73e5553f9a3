/- A hash, worked out. -/
import Derived.Test.YtmkmndgdakpojaaDoorSg
import Derived.Lib.SlBytesConst
namespace Go.Proofs.YtmkmndgdakpojaaDoor
open Go.RowKit

theorem sum_abc : sumL [97, 98, 99] = [186, 120, 22, 191, 143, 1, 207, 234, 65, 65, 64, 222, 93, 174, 34, 35, 176, 3, 97, 163, 150, 23, 122, 156, 180, 16, 255, 97, 242, 0, 21, 173] := by decide +kernel

theorem alloc_cell_any (w : World) (C : Array Value) (t : TypeId) (fr : Nat × Nat) (i : Nat) : (w.alloc (.cells C t fr)).cell? ⟨w.heap.size, i, none⟩ = C[i]? := by
  have h := World.alloc_heap_new w (.cells C t fr)
  unfold World.cell?
  dsimp only
  rw [h]
  rfl
def IsLive (w : World) (e : Ending) (w' : World) : Prop := e = .returned (.bool true) ∧ Below w.heap.size w w'

end Go.Proofs.YtmkmndgdakpojaaDoor
