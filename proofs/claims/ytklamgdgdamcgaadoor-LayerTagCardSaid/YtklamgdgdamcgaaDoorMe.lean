/- The chapter's example of a tag. -/
import Derived.Test.YtklamgdgdamcgaaDoorMd
import Derived.Lib.SlBytesConst
import Derived.Deep.DeepMust
namespace Go.Proofs.YtklamgdgdamcgaaDoor
open Go.RowKit
set_option linter.unusedSimpArgs false
set_option linter.unusedVariables false

theorem tag_jefe : tagL [74, 101, 102, 101] [119, 104, 97, 116, 32, 100, 111, 32, 121, 97, 32, 119, 97, 110, 116, 32, 102, 111, 114, 32, 110, 111, 116, 104, 105, 110, 103, 63] = [91, 220, 193, 70, 191, 96, 117, 78, 106, 4, 36, 38, 8, 149, 117, 199, 90, 0, 63, 8, 157, 39, 57, 131, 157, 236, 88, 185, 100, 236, 56, 67] := by decide +kernel
theorem cell_old (w : World) (o : Obj) (a : Addr) (v : Value) (h : w.cell? a = some v) : (w.alloc o).cell? a = some v :=
  ((bal (brf (w := w)) o).cell (cell_lt h)).trans h

set_option maxRecDepth 100000 in
set_option maxHeartbeats 1000000 in
theorem live2_any (w : World) (hK : Konst w) : Calls Tryd.prog 16 #[] w (IsLive w) := by
  have hw0 : 0 < w.heap.size := cell_lt (hK 0 (by omega))
  have HK := Lib.hid hK
  have hT := Lib.hid tag_jefe
  have hTL := Lib.hid (show (tagL [74, 101, 102, 101] [119, 104, 97, 116, 32, 100, 111, 32, 121, 97, 32, 119, 97, 110, 116, 32, 102, 111, 114, 32, 110, 111, 116, 104, 105, 110, 103, 63]).length = 32 by rw [hT.out]; rfl)
  clear hK
  go_enter Tryd.func16, Tryd.ntmps16
  have kc := fun (w : World) (C : Array Value) (n c : Nat) => Lib.run_convert_bytes_const (P := Tryd.prog) w 23 5 C n c Tryd.underlying23 Tryd.underlying5
  have kc2 := fun (w : World) (o : Obj) (C : Array Value) (n c : Nat) => Lib.run_convert_bytes_const (P := Tryd.prog) (w.alloc o) 23 5 C n c Tryd.underlying23 Tryd.underlying5
  simp only [World.size_alloc] at kc2
  go_wp2_with (go_at_call 19; go_must (refine (tag_any _ _ 4 4 28 28 [74, 101, 102, 101] [119, 104, 97, 116, 32, 100, 111, 32, 121, 97, 32, 119, 97, 110, 116, 32, 102, 111, 114, 32, 110, 111, 116, 104, 105, 110, 103, 63] _ rfl rfl (by omega) (by omega) (.inr ⟨w.heap.size, 0, rfl, by simp; omega, fun i v hv => ?hc⟩) (.inr ⟨w.heap.size + 1, 0, rfl, by simp, fun i v hv => ?hd⟩) (HK.out.below (bal (bal brf _) _) hw0)).mono ?_; rotate_left 2; rintro e w1 ⟨B, c, rfl, _, hlt, hrd, hb⟩; rw [hT.out] at hrd; obtain ⟨b, off, he, hl1, hc1⟩ := hrd.at_ (by simp); cases he; have c0 := hc1 0 _ rfl; have c1 := hc1 1 _ rfl; have c2 := hc1 2 _ rfl; have c3 := hc1 3 _ rfl; simp only [Nat.zero_add] at c0 c1 c2 c3; rw [hTL.out]))
  case hc =>
    rw [Nat.zero_add]
    apply cell_old
    rw [alloc_cell_any]
    simpa [nums] using hv
  case hd =>
    rw [Nat.zero_add, ← World.size_alloc, alloc_cell_any]
    simpa [nums] using hv
  go_ret
  exact ⟨rfl, bgo (bal (bal brf _) _) hb⟩
end Go.Proofs.YtklamgdgdamcgaaDoor
