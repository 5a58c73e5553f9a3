/- A pack: Bj. -/
import Derived.Test.YtelgmbomkojmaaaDoorQBae
import Derived.Test.YtelgmbomkojmaaaDoorQLac
namespace Go.Proofs.YtelgmbomkojmaaaDoor
set_option linter.unusedSimpArgs false
set_option linter.unusedVariables false
set_option linter.unusedSectionVars false
set_option maxRecDepth 100000
section
open Go.RowKit
theorem z50 (n:Nat): (madeCells (Value.int .u8 0).cells (n * 1)).toList=nums .u8 (List.replicate n 0):=by
 apply List.ext_getElem?
 intro i
 by_cases h:i<n <;> simp [madeCells,nums,Value.cells,h,Nat.mod_one]
end
end Go.Proofs.YtelgmbomkojmaaaDoor
