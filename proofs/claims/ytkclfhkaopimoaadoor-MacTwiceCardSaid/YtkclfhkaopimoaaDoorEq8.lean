/- Eight words, compared with themselves. -/
import Derived.Test.YtkclfhkaopimoaaDoorSg
import Derived.DeepKeys
namespace Go.Proofs.YtkclfhkaopimoaaDoor
open Go.RowKit

theorem c27 : Tryd.prog.cellsOf 27 = 8 := by kernel_rfl
theorem c26 : Tryd.prog.cellsOf 26 = 1 := by kernel_rfl
theorem wf32 {x : Int} (h : 0 ≤ x ∧ x < 4294967296) : (Lit.int .u32 x).wf = true := by
  show (decide ((0 : Int) ≤ x) && decide (x ≤ (4294967295 : Int))) = true
  simp
  omega
theorem eq8 (a b c d e f g i : Int) (w : World) (h : Words [a, b, c, d, e, f, g, i]) :
    (Op.equalIn 10000 27 (.agg #[.int .u32 a, .int .u32 b, .int .u32 c, .int .u32 d, .int .u32 e, .int .u32 f, .int .u32 g, .int .u32 i]) (.agg #[.int .u32 a, .int .u32 b, .int .u32 c, .int .u32 d, .int .u32 e, .int .u32 f, .int .u32 g, .int .u32 i])).run Tryd.prog w = .ok true w := by
  have ha := wf32 (h a (by simp))
  have hb := wf32 (h b (by simp))
  have hc := wf32 (h c (by simp))
  have hd := wf32 (h d (by simp))
  have he := wf32 (h e (by simp))
  have hf := wf32 (h f (by simp))
  have hg := wf32 (h g (by simp))
  have hi := wf32 (h i (by simp))
  have hk : Tryd.prog.keyLits 5 27 [.int .u32 a, .int .u32 b, .int .u32 c, .int .u32 d, .int .u32 e, .int .u32 f, .int .u32 g, .int .u32 i] = some [.int .u32 a, .int .u32 b, .int .u32 c, .int .u32 d, .int .u32 e, .int .u32 f, .int .u32 g, .int .u32 i] := by
    simp [Tryd.underlying27, c27, c26, Program.keyLits, Tryd.underlying26, ha, hb, hc, hd, he, hf, hg, hi, List.range_succ, List.mapM_cons]
  obtain ⟨r, hr, hi2⟩ := run_equalIn_deep (P := Tryd.prog) 9990 10 27 (by kernel_rfl) w 5 5 (.agg #[.int .u32 a, .int .u32 b, .int .u32 c, .int .u32 d, .int .u32 e, .int .u32 f, .int .u32 g, .int .u32 i]) (.agg #[.int .u32 a, .int .u32 b, .int .u32 c, .int .u32 d, .int .u32 e, .int .u32 f, .int .u32 g, .int .u32 i]) _ _ (by rfl) (by rfl) hk hk
  rw [hr, hi2.2 rfl]
end Go.Proofs.YtkclfhkaopimoaaDoor
