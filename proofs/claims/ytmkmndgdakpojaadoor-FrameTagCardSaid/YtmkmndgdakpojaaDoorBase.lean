/- Small lemmas that all texts of this seat lean on: what lies below stays as it was, through calls, new blocks, draws. -/
import Derived.Test.YtmkmndgdakpojaaDoorRows
import Derived.WalkKit
import Derived.WalkSpells
import Derived.WalkLawsBesides
import Derived.Lib.Hide
namespace Go.Proofs.YtmkmndgdakpojaaDoor
open Go.RowKit

theorem bgo {w x y : World} (h : Below w.heap.size w x) (hb : Below x.heap.size x y) : Below w.heap.size w y := h.trans (hb.mono h.size)
theorem bal {w x : World} (h : Below w.heap.size w x) (o : Obj) : Below w.heap.size w (x.alloc o) := h.alloc h.size o
theorem bdr {w x : World} (h : Below w.heap.size w x) : Below w.heap.size w x.drew := h.drew
theorem bdrN {w x : World} (h : Below w.heap.size w x) (n : Nat) : Below w.heap.size w (x.drewN n) := ⟨h.os, h.tape, h.output, h.size, h.block⟩
theorem brf {w : World} : Below w.heap.size w w := Below.refl _ _

/-- It returns true, and turns nothing that was there. -/
def Yes (w : World) (e : Ending) (w' : World) : Prop := e = .returned (.bool true) ∧ Below w.heap.size w w'
end Go.Proofs.YtmkmndgdakpojaaDoor
