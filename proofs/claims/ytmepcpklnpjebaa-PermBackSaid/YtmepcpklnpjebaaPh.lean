/- The law that what is shuffled is a shuffle. -/
import Derived.Test.YtmepcpklnpjebaaPg
namespace Go.Proofs.Ytmepcpklnpjebaa
open Go.RowKit Go.ChangeShapes Go.WideShapes Go.ChangeAt
set_option linter.unusedSimpArgs false
set_option linter.unusedVariables false

theorem ret_eqb {a b : Int} (h : a = b) : Ending.returned (.bool (a == b)) = .returned (.bool true) := by rw [h, beq_self_eq_true]

set_option maxHeartbeats 600000 in
theorem permRight_walk (z : Int) (A : Option Addr) (m c : Nat) (ds : List Int) (w : World) (hm : ds.length = m) (hx : Rd w A (nums .i64 ds)) :
    Calls Try.prog 6 #[.int .i64 z, .slice A m c] w (Yes w) := by
  have HM := Lib.hid hm
  have HX := Lib.hid hx
  clear hm hx
  by_cases h0 : z < 0
  · go_enter Try.func6, Try.ntmps6
    go_wp2_with (go_at_call 15; refine (live11_any _).mono ?_; rintro e w1 ⟨rfl, hb1⟩)
    go_ret
    exact ⟨rfl, hb1⟩
  by_cases h1 : 100 < z
  · go_enter Try.func6, Try.ntmps6
    go_wp2_with (go_at_call 15; refine (live11_any _).mono ?_; rintro e w1 ⟨rfl, hb1⟩)
    go_ret
    exact ⟨rfl, hb1⟩
  by_cases hm2 : 200 < m
  · have h2 : (200 : Int) < m := by omega
    go_enter Try.func6, Try.ntmps6
    go_wp2_with (go_at_call 15; refine (live11_any _).mono ?_; rintro e w1 ⟨rfl, hb1⟩)
    go_ret
    exact ⟨rfl, hb1⟩
  have h2 : ¬ (200 : Int) < m := by omega
  obtain ⟨n, rfl⟩ := Int.eq_ofNat_of_zero_le (show 0 ≤ z by omega)
  have hn : n ≤ 100 := by omega
  have CA := fun W (hr : Rd W A (nums .i64 ds)) => shuf_any n A m c ds W (by omega) HM.out (by omega) hr
  have CK := fun A1 c1 W h1 => check_yes A1 n c1 (shufL n ds) W (shufL_len _ _) (by omega) h1 (shufL_sh n ds)
  obtain ⟨d, hd⟩ : ∃ d, d = min (n - 1) ds.length := ⟨_, rfl⟩
  have hd1 : d ≤ n := by omega
  have hd2 : d ≤ m := by have := HM.out; omega
  have HD := Lib.hid hd
  clear hd
  go_enter Try.func6, Try.ntmps6
  go_wp2_with (first
    | (go_at_call 15; refine (live11_any _).mono ?_; rintro e w1 ⟨rfl, hb1⟩; have HX1 := Lib.hid (HX.out.below hb1))
    | (go_at_call 16; refine (CA _ HX1.out).mono ?_; rintro e w2 ⟨A2, c2, he, hc2, hr2, hb2⟩; rw [← HD.out] at he; subst he)
    | (go_at_call 23; refine (CK A2 c2 _ hr2).mono ?_; rintro e w3 ⟨rfl, hb3⟩))
  all_goals
    go_ret
    have hm := HM.out
    have hd := HD.out
    exact ⟨ret_eqb (by omega), bgo (bgo hb1 hb2) hb3⟩

theorem permRight_of {H : Type} {enc : TypeId × Value → H} (W : World) (base : Nat) (args : Array Value) (ds : List (DataW H)) (p : List MemPlace)
    (hval : ∀ (j : Nat) t v, Try.f6.params[j]? = some t → args[j]? = some v → Value.okWide Try.prog W .any base t v)
    (hA : DataW.TrodAll enc Try.prog W 0 (fun _ => true) true Try.f6.params.toList args.toList ds p) (hlt : ∀ x ∈ p, x.block < W.heap.size)
    (hz : (DataW.weightsEach Try.prog Try.f6.params.toList ds).all (· ≤ reachBytes) = true) : Calls Try.prog 6 args W (Yes W) := by
  rw [Try.params6] at hA hval hz
  obtain ⟨v0, vs0, d0, ds0, p0, q0, hargs, rfl, rfl, h0, r0⟩ := trodAll_cons hA
  obtain ⟨v1, vs1, d1, ds1, p1, q1, rfl, rfl, rfl, h1, r1⟩ := trodAll_cons r0
  obtain ⟨rfl, rfl, rfl⟩ := trodAll_nil r1
  obtain rfl : args = #[v0, v1] := by cases args; simp_all
  obtain ⟨z, rfl, rfl, rfl, wz⟩ := open_int Try.underlying3 (hval 0 _ _ rfl rfl) h0
  obtain ⟨A, m, c, xs, rfl, hlen, hmx, hrd, hwf⟩ := open_intRow h1 (hval 1 _ _ rfl rfl)
  exact permRight_walk z A m c xs W hlen hrd
end Go.Proofs.Ytmepcpklnpjebaa
