/- Two rows that are the same, told so. -/
import Derived.Test.YtkclfhkaopimoaaDoorSn
namespace Go.Proofs.YtkclfhkaopimoaaDoor
open Go.RowKit

theorem same_true (A B : Option Addr) (n c m d : Nat) (xs ys : List Int) (w : World) (he : xs = ys) (hn : xs.length = n) (hm : ys.length = m) (hx : Rd w A (nums .u8 xs)) (hy : Rd w B (nums .u8 ys)) (bx : Byt xs) :
    Calls Tryd.prog 17 #[.slice A n c, .slice B m d] w (fun e w' => e = .returned (.bool true) ∧ w = w') := by
  subst he
  refine (same_any A B n c m d xs xs w hn hm hx hy bx bx).mono ?_
  rintro e w' ⟨rfl, rfl⟩
  exact ⟨by simp, rfl⟩
end Go.Proofs.YtkclfhkaopimoaaDoor
