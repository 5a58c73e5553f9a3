/- The schedule of a block: its contract. -/
import Derived.Test.YtmkmndgdakpojaaShaSpec
namespace Go.Proofs.Ytmkmndgdakpojaa
open Go.RowKit
set_option linter.unusedSimpArgs false
set_option linter.unusedVariables false

def IsWords (w : World) (ws : List Int) (e : Ending) (w' : World) : Prop := e = .returned (.agg (ws.map (Value.int .u32)).toArray) ∧ Below w.heap.size w w'

theorem range_of_pad {w : World} {B : Nat} {l : List Int} (h : Pad64 w B l) (hl : l.length = 64) : w.rangeAt B 0 (l.map (Value.int .u32)) := fun j v hv => by
  have hj : j < l.length := by
    have := (List.getElem?_eq_some_iff.1 hv).1
    simpa using this
  rw [Nat.zero_add, h.1 j (by omega)]
  rw [List.getElem?_map, List.getElem?_eq_getElem hj] at hv
  simpa [List.getD, List.getElem?_eq_getElem hj] using hv

end Go.Proofs.Ytmkmndgdakpojaa
