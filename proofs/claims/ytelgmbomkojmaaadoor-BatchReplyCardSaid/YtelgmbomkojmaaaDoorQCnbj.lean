/- A pack: Bn. -/
import Derived.Test.YtelgmbomkojmaaaDoorQCjbi
import Derived.Test.YtelgmbomkojmaaaDoorQBaf
import Derived.Test.YtelgmbomkojmaaaDoorQLaa
namespace Go.Proofs.YtelgmbomkojmaaaDoor
set_option linter.unusedSimpArgs false
set_option linter.unusedVariables false
set_option linter.unusedSectionVars false
set_option maxRecDepth 100000
section
open Go.RowKit
theorem zro (xs:List Int)(rs:List (List Int))(m:Nat): (bkL xs rs m).length=m:=by simp [bkL]
theorem zmx {xs:List Int}{rs:List (List Int)}{v:Nat}(h:∀ ys∈rs,Byt ys): ∀ k,Byt (zbc xs rs v k)
 | 0=>ze0 32
 | k+1=>by
   rw [zbc]
   split
   ·by_cases hk:k<rs.length
    ·exact h _ (by simp only [List.getD,List.getElem?_eq_getElem hk];exact List.getElem_mem _)
    ·intro x hx
     simp [List.getD,List.getElem?_eq_none (Nat.le_of_not_lt hk)] at hx
   ·exact zmx h k
end
end Go.Proofs.YtelgmbomkojmaaaDoor
