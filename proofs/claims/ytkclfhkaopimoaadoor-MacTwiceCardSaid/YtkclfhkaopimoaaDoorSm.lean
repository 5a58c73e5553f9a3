/- The law of any bytes' hash. -/
import Derived.Test.YtkclfhkaopimoaaDoorSk
import Derived.Test.YtkclfhkaopimoaaDoorSl
namespace Go.Proofs.YtkclfhkaopimoaaDoor
open Go.RowKit Go.ChangeShapes Go.WideShapes Go.ChangeAt
set_option linter.unusedSimpArgs false
set_option linter.unusedVariables false

theorem wordB_byt {x : Int} (h : 0 ≤ x ∧ x < 4294967296) : Byt (wordB x) := by
  intro y hy
  simp [wordB] at hy
  rcases hy with rfl | rfl | rfl | rfl <;> omega
theorem bytesL_byt {l : List Int} (h : Words l) : Byt (bytesL l) := by
  intro y hy
  obtain ⟨x, hx, hy⟩ := List.mem_flatMap.1 hy
  exact wordB_byt (h x hx) y hy
theorem sumL_byt (xs : List Int) : Byt (sumL xs) := bytesL_byt (foldB_words _ _)

set_option maxHeartbeats 1000000 in
theorem shaSums_walk (A : Option Addr) (n c : Nat) (xs : List Int) (w : World) (hn : xs.length = n) (hx : Rd w A (nums .u8 xs)) (hK : Konst w) :
    Calls Tryd.prog 5 #[.slice A n c] w (Yes w) := by
  have hw0 : 0 < w.heap.size := cell_lt (hK 0 (by omega))
  have HN := Lib.hid hn
  have HX := Lib.hid hx
  have HK := Lib.hid hK
  clear hn hx hK
  by_cases hbig : 1000 < n
  · have r1 : (1000 : Int) < n := by omega
    go_enter Tryd.func5, Tryd.ntmps5
    go_wp2_with (go_at_call 15; refine (live_any _ HK.out).mono ?_; rintro e w1 ⟨rfl, hb1⟩)
    go_ret
    exact ⟨rfl, hb1⟩
  have r1 : ¬ (1000 : Int) < n := by omega
  go_enter Tryd.func5, Tryd.ntmps5
  go_wp2_with (first
    | (go_at_call 15; refine (live_any _ HK.out).mono ?_; rintro e w1 ⟨rfl, hb1⟩; have hz1 := hb1.size)
    | (go_at_call 23; refine (sum_any A n c xs _ HN.out (by omega) (HX.out.below hb1) (HK.out.below hb1 hw0)).mono ?_; rintro e w2 ⟨B2, c2, rfl, hc2, hl2, hr2, hb2⟩; have hz2 := hb2.size; have hB2 := hb1.trans (hb2.mono hz1))
    | (go_at_call 24; refine (rsum_any A n c xs _ HN.out (by omega) (HX.out.below hB2)).mono ?_; rintro e w3 ⟨B3, c3, rfl, hc3, hl3, hr3, hb3⟩)
    | (go_at_call 17; refine (same_any _ _ _ _ _ _ (sumL xs) (sumL xs) _ rfl rfl (hr2.below hb3) hr3 (sumL_byt xs) (sumL_byt xs)).mono ?_; rintro e w4 ⟨he, rfl⟩; rw [decide_eq_true rfl] at he; subst he))
  go_ret
  exact ⟨rfl, hB2.trans (hb3.mono (by omega))⟩

theorem shaSums_of {H : Type} {enc : TypeId × Value → H} (W : World) (base : Nat) (args : Array Value) (ds : List (DataW H)) (p : List MemPlace)
    (hval : ∀ (j : Nat) t v, Tryd.f5.params[j]? = some t → args[j]? = some v → Value.okWide Tryd.prog W .any base t v)
    (hA : DataW.TrodAll enc Tryd.prog W 0 (fun _ => true) true Tryd.f5.params.toList args.toList ds p) (hlt : ∀ x ∈ p, x.block < W.heap.size)
    (hz : (DataW.weightsEach Tryd.prog Tryd.f5.params.toList ds).all (· ≤ reachBytes) = true) (hK : Konst W) : Calls Tryd.prog 5 args W (Yes W) := by
  rw [Tryd.params5] at hA hval hz
  obtain ⟨v0, vs0, d0, ds0, p0, q0, hargs, rfl, rfl, h0, r0⟩ := trodAll_cons hA
  obtain ⟨rfl, rfl, rfl⟩ := trodAll_nil r0
  obtain rfl : args = #[v0] := by cases args; simp_all

  obtain ⟨A, n, c, xs, rfl, hn, hr, _⟩ := open_bytes h0 (hval 0 _ _ rfl rfl)
  exact shaSums_walk A n c xs W hn hr hK
end Go.Proofs.YtkclfhkaopimoaaDoor
