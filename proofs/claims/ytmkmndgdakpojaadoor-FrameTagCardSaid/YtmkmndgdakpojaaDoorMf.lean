/- Two rows of bytes, xor. -/
import Derived.Test.YtmkmndgdakpojaaDoorMd
import Derived.Deep.RegionHeld3
namespace Go.Proofs.YtmkmndgdakpojaaDoor
open Go.RowKit
set_option linter.unusedSimpArgs false
set_option linter.unusedVariables false
set_option maxRecDepth 100000

/-- Two rows, byte by byte. -/
def xorL (a b : List Int) : List Int := (List.range a.length).map fun j => xor8 (a.getD j 0) (b.getD j 0)
theorem xor_len (a b : List Int) : (xorL a b).length = a.length := by simp [xorL]

end Go.Proofs.YtmkmndgdakpojaaDoor
