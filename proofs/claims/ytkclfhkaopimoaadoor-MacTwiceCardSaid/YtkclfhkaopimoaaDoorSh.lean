/- The chapter's example. -/
import Derived.Test.YtkclfhkaopimoaaDoorSg
import Derived.Lib.SlBytesConst
namespace Go.Proofs.YtkclfhkaopimoaaDoor
open Go.RowKit

theorem sum_abc : sumL [97, 98, 99] = [186, 120, 22, 191, 143, 1, 207, 234, 65, 65, 64, 222, 93, 174, 34, 35, 176, 3, 97, 163, 150, 23, 122, 156, 180, 16, 255, 97, 242, 0, 21, 173] := by decide +kernel

theorem alloc_cell_any (w : World) (C : Array Value) (t : TypeId) (fr : Nat × Nat) (i : Nat) : (w.alloc (.cells C t fr)).cell? ⟨w.heap.size, i, none⟩ = C[i]? := by
  have h := World.alloc_heap_new w (.cells C t fr)
  unfold World.cell?
  dsimp only
  rw [h]
  rfl
def IsLive (w : World) (e : Ending) (w' : World) : Prop := e = .returned (.bool true) ∧ Below w.heap.size w w'

set_option maxHeartbeats 1000000 in
theorem live_any (w : World) (hK : Konst w) : Calls Tryd.prog 15 #[] w (IsLive w) := by
  have hw0 : 0 < w.heap.size := cell_lt (hK 0 (by omega))
  have HK := Lib.hid hK
  clear hK
  go_enter Tryd.func15, Tryd.ntmps15
  have kc := fun (w : World) (C : Array Value) (n c : Nat) => Lib.run_convert_bytes_const (P := Tryd.prog) w 22 5 C n c Tryd.underlying22 Tryd.underlying5
  go_wp2_with (go_at_call 23; refine (sum_any _ 3 3 [97, 98, 99] _ rfl (by omega) (.inr ⟨w.heap.size, 0, rfl, by simp, fun i v hv => ?hc⟩) (HK.out.below (bal brf _) hw0)).mono ?_; rotate_left; rintro e w1 ⟨B, c, rfl, _, hlt, hrd, hb⟩; rw [sum_abc] at hrd; obtain ⟨b, off, he, hl1, hc1⟩ := hrd.at_ (by simp); cases he; have c0 := hc1 0 _ rfl; have c1 := hc1 1 _ rfl; have c2 := hc1 30 _ rfl; have c3 := hc1 31 _ rfl; simp only [Nat.zero_add] at c0 c1 c2 c3; have hlen : (sumL [97, 98, 99]).length = 32 := (by rw [sum_abc]; rfl); rw [hlen])
  case hc =>
    rw [Nat.zero_add, alloc_cell_any]
    simpa [nums] using hv
  go_ret
  exact ⟨rfl, bgo (bal brf _) hb⟩
end Go.Proofs.YtkclfhkaopimoaaDoor
