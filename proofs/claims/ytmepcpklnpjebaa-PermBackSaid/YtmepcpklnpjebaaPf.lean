/- The law of any shuffle. -/
import Derived.Test.YtmepcpklnpjebaaPe
namespace Go.Proofs.Ytmepcpklnpjebaa
open Go.RowKit Go.ChangeShapes Go.WideShapes Go.ChangeAt
set_option linter.unusedSimpArgs false
set_option linter.unusedVariables false

theorem sameInts_true (A B : Option Addr) (n c m d : Nat) (xs ys : List Int) (w : World) (he : xs = ys) (hn : xs.length = n) (hm : ys.length = m) (hx : Rd w A (nums .i64 xs)) (hy : Rd w B (nums .i64 ys)) (hlen : n ≤ maxLen) :
    Calls Try.prog 18 #[.slice A n c, .slice B m d] w fun e w' => e = .returned (.bool true) ∧ Below w.heap.size w w' :=
  (sameInts_any A B n c m d xs ys w hn hm hx hy hlen).mono fun e w' ⟨h, hb⟩ => ⟨by rw [h, decide_eq_true he], hb⟩

theorem rd_new (w : World) (vs : Array Value) (t : TypeId) : Rd (w.alloc (.cells vs t)) (some ⟨w.heap.size, 0, none⟩) vs.toList :=
  .inr ⟨_, 0, rfl, by rw [World.size_alloc]; omega, fun i v hv => by
    have := new_there w vs t i v hv
    rwa [addr_off] at this⟩

theorem live11_any (w : World) : Calls Try.prog 15 #[] w (Yes w) := by
  have C1 := fun W => shuf_any 3 none 0 0 [] W (by omega) rfl (by omega) Rd.nil
  go_enter Try.func15, Try.ntmps15
  go_wp2_with (first
    | (go_at_call 16; refine (C1 _).mono ?_; rintro e w1 ⟨A, c, rfl, hc, hr, hb⟩)
    | (go_at_call 18; refine (sameInts_true A _ 3 c 3 3 (shufL 3 []) [1, 2, 0] _ (by decide +kernel) (by decide +kernel) rfl (hr.below (bal brf _)) (rd_new _ _ _) (by unfold maxLen; omega)).mono ?_; rintro e w2 ⟨rfl, hb2⟩))
  go_ret
  exact ⟨rfl, bgo (bal hb _) hb2⟩

set_option maxHeartbeats 600000 in
theorem permDoes_walk (z : Int) (A : Option Addr) (m c : Nat) (ds : List Int) (w : World) (hm : ds.length = m) (hx : Rd w A (nums .i64 ds)) :
    Calls Try.prog 3 #[.int .i64 z, .slice A m c] w (Yes w) := by
  have HM := Lib.hid hm
  have HX := Lib.hid hx
  clear hm hx
  by_cases hbig : 100 < z ∧ z ≤ 1024
  · obtain ⟨h1, h2⟩ := hbig
    go_enter Try.func3, Try.ntmps3
    go_wp2_with (go_at_call 15; refine (live11_any _).mono ?_; rintro e w1 ⟨rfl, hb1⟩)
    go_ret
    exact ⟨rfl, hb1⟩
  by_cases hm2 : 200 < m
  · have h2 : (200 : Int) < m := by omega
    by_cases h1 : 100 < z
    · have h3 : ¬ z ≤ 1024 := by omega
      go_enter Try.func3, Try.ntmps3
      go_wp2_with (go_at_call 15; refine (live11_any _).mono ?_; rintro e w1 ⟨rfl, hb1⟩)
      go_ret
      exact ⟨rfl, hb1⟩
    · go_enter Try.func3, Try.ntmps3
      go_wp2_with (go_at_call 15; refine (live11_any _).mono ?_; rintro e w1 ⟨rfl, hb1⟩)
      go_ret
      exact ⟨rfl, hb1⟩
  have h2 : ¬ (200 : Int) < m := by omega
  by_cases hbad : z < 0 ∨ 1024 < z
  · have CA := fun W => shuf_bad z A m c W hbad
    have CB := fun W => rshuf_bad z A m c W hbad
    have CS := fun W => sameInts_true none none 0 0 0 0 [] [] W rfl rfl rfl Rd.nil Rd.nil (Nat.zero_le _)
    have HBAD := Lib.hid hbad
    clear hbad
    by_cases h1 : 100 < z
    · have h3 : ¬ z ≤ 1024 := by omega
      go_enter Try.func3, Try.ntmps3
      go_wp2_with (first
        | (go_at_call 15; refine (live11_any _).mono ?_; rintro e w1 ⟨rfl, hb1⟩)
        | (go_at_call 16; refine (CA _).mono ?_; rintro e w2 ⟨rfl, hb2⟩)
        | (go_at_call 17; refine (CB _).mono ?_; rintro e w3 ⟨rfl, rfl⟩)
        | (go_at_call 18; refine (CS _).mono ?_; rintro e w4 ⟨rfl, hb4⟩))
      go_ret
      exact ⟨rfl, bgo (bgo hb1 hb2) hb4⟩
    · go_enter Try.func3, Try.ntmps3
      go_wp2_with (first
        | (go_at_call 15; refine (live11_any _).mono ?_; rintro e w1 ⟨rfl, hb1⟩)
        | (go_at_call 16; refine (CA _).mono ?_; rintro e w2 ⟨rfl, hb2⟩)
        | (go_at_call 17; refine (CB _).mono ?_; rintro e w3 ⟨rfl, rfl⟩)
        | (go_at_call 18; refine (CS _).mono ?_; rintro e w4 ⟨rfl, hb4⟩))
      go_ret
      exact ⟨rfl, bgo (bgo hb1 hb2) hb4⟩
  · obtain ⟨n, rfl⟩ := Int.eq_ofNat_of_zero_le (show 0 ≤ z by omega)
    have hn : n ≤ 100 := by omega
    have h1 : ¬ (100 : Int) < n := by omega
    have CA := fun W (hr : Rd W A (nums .i64 ds)) => shuf_any n A m c ds W (by omega) HM.out (by omega) hr
    have CB := fun W (hr : Rd W A (nums .i64 ds)) => rshuf_any n A m c ds W (by omega) HM.out (by omega) hr
    have CS := fun A1 A2 c1 c2 W h1 h2 => sameInts_true A1 A2 n c1 n c2 (shufL n ds) (shufL n ds) W rfl (shufL_len _ _) (shufL_len _ _) h1 h2 (by unfold maxLen; omega)
    clear hbad hbig
    go_enter Try.func3, Try.ntmps3
    go_wp2_with (first
      | (go_at_call 15; refine (live11_any _).mono ?_; rintro e w1 ⟨rfl, hb1⟩; have HX1 := Lib.hid (HX.out.below hb1))
      | (go_at_call 16; refine (CA _ HX1.out).mono ?_; rintro e w2 ⟨A2, c2, rfl, hc2, hr2, hb2⟩)
      | (go_at_call 17; refine (CB _ (HX1.out.below hb2)).mono ?_; rintro e w3 ⟨A3, c3, rfl, hc3, hr3, hb3⟩)
      | (go_at_call 18; refine (CS A2 A3 c2 c3 _ (hr2.below hb3) hr3).mono ?_; rintro e w4 ⟨rfl, hb4⟩))
    go_ret
    exact ⟨rfl, bgo (bgo (bgo hb1 hb2) hb3) hb4⟩

theorem open_intRow {H : Type} {enc : TypeId × Value → H} {W : World} {base b0 : Nat} {sp : Nat → Bool} {held : Bool} {v : Value} {d : DataW H} {p : List MemPlace} (h : DataW.Trod enc Try.prog W b0 sp held 22 v d p) (hv : Value.okWide Try.prog W .any base 22 v) :
    ∃ A n c xs, v = .slice A n c ∧ xs.length = n ∧ n ≤ maxLen ∧ Rd W A (nums .i64 xs) ∧ ∀ x ∈ xs, -9223372036854775808 ≤ x ∧ x ≤ 9223372036854775807 := by
  obtain ⟨A, n, c, rfl⟩ := okWide_slice Try.underlying22 hv
  obtain ⟨fuel, hf⟩ := h
  obtain ⟨A', l, c', xs, he, h1, h2, hl, hr, hw, _⟩ := open_row Try.underlying22 Try.underlying3 (by kernel_rfl) hf
  cases he
  refine ⟨A, n, c, xs, rfl, hl, Nat.le_trans h1 h2, hr, fun x hx => ?_⟩
  have : (decide ((-9223372036854775808 : Int) ≤ x) && decide (x ≤ (9223372036854775807 : Int))) = true := hw x hx
  simpa using this

theorem permDoes_of {H : Type} {enc : TypeId × Value → H} (W : World) (base : Nat) (args : Array Value) (ds : List (DataW H)) (p : List MemPlace)
    (hval : ∀ (j : Nat) t v, Try.f3.params[j]? = some t → args[j]? = some v → Value.okWide Try.prog W .any base t v)
    (hA : DataW.TrodAll enc Try.prog W 0 (fun _ => true) true Try.f3.params.toList args.toList ds p) (hlt : ∀ x ∈ p, x.block < W.heap.size)
    (hz : (DataW.weightsEach Try.prog Try.f3.params.toList ds).all (· ≤ reachBytes) = true) : Calls Try.prog 3 args W (Yes W) := by
  rw [Try.params3] at hA hval hz
  obtain ⟨v0, vs0, d0, ds0, p0, q0, hargs, rfl, rfl, h0, r0⟩ := trodAll_cons hA
  obtain ⟨v1, vs1, d1, ds1, p1, q1, rfl, rfl, rfl, h1, r1⟩ := trodAll_cons r0
  obtain ⟨rfl, rfl, rfl⟩ := trodAll_nil r1
  obtain rfl : args = #[v0, v1] := by cases args; simp_all
  obtain ⟨z, rfl, rfl, rfl, wz⟩ := open_int Try.underlying3 (hval 0 _ _ rfl rfl) h0
  obtain ⟨A, m, c, xs, rfl, hlen, hmx, hrd, hwf⟩ := open_intRow h1 (hval 1 _ _ rfl rfl)
  exact permDoes_walk z A m c xs W hlen hrd
end Go.Proofs.Ytmepcpklnpjebaa
