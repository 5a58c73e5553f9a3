/- The law that the inverse says where each number stands. -/
import Derived.Test.YtmepcpklnpjebaaPi
namespace Go.Proofs.Ytmepcpklnpjebaa
open Go.RowKit Go.ChangeShapes Go.WideShapes Go.ChangeAt
set_option linter.unusedSimpArgs false
set_option linter.unusedVariables false

set_option maxHeartbeats 600000 in
theorem permPlaces_walk (A : Option Addr) (n c : Nat) (xs : List Int) (w : World) (hn : xs.length = n) (hx : Rd w A (nums .i64 xs)) :
    Calls Try.prog 12 #[.slice A n c] w (Yes w) := by
  have HN := Lib.hid hn
  have HX := Lib.hid hx
  clear hn hx
  by_cases hbig : 60 < n
  · have h1 : (60 : Int) < n := by omega
    go_enter Try.func12, Try.ntmps12
    go_wp2_with (go_at_call 15; refine (live11_any _).mono ?_; rintro e w1 ⟨rfl, hb1⟩)
    go_ret
    exact ⟨rfl, hb1⟩
  have h1 : ¬ (60 : Int) < n := by omega
  by_cases hs : Sh xs
  · have CI := fun W (hr : Rd W A (nums .i64 xs)) => inv_yes A n c xs W HN.out (by omega) hr hs
    have HS := Lib.hid hs
    clear hs
    go_enter Try.func12, Try.ntmps12
    go_wp2_with (first
      | (go_at_call 15; refine (live11_any _).mono ?_; rintro e w1 ⟨rfl, hb1⟩; have HX1 := Lib.hid (HX.out.below hb1))
      | (go_at_call 34; refine (CI _ HX1.out).mono ?_; rintro e w2 ⟨g, he, hg, hgl, hrow, hb2⟩; rw [HN.out] at he; subst he))
    have HX2 := Lib.hid (HX1.out.below hb2)
    have HROW := Lib.hid hrow
    clear hrow
    go_loop [39] (fun i => ∃ k : Nat, k ≤ n ∧ i = .int .i64 k) (fun i => n - (intOf i).toNat)
    case atStart => exact ⟨0, Nat.zero_le _, rfl⟩
    case round =>
      obtain ⟨k, hk, rfl⟩ := hrel
      by_cases hlt : k < n
      · have r1 : (k : Int) < n := by omega
        have r0 : (0 : Int) ≤ k := by omega
        obtain ⟨m, hm, e1, e2⟩ := inv_back HS.out k (by rw [HN.out]; exact hlt)
        rw [HN.out] at hm
        have ck := (HROW.out k _ (nums_at (by rw [invL_len, HN.out]; exact hlt))).1
        rw [e1] at ck
        obtain ⟨b, o, rfl, hlb, hc⟩ := HX2.out.at_ (by simp [HN.out]; omega)
        have cm := hc m _ (nums_at (by rw [HN.out]; exact hm))
        rw [e2] at cm
        have r2 : ¬ (m : Int) < 0 := by omega
        have r3 : ¬ (n : Int) ≤ m := by omega
        have r4 : (m : Int) < n := by omega
        clear e1 e2 hc
        go_wp2_with fail
        refine ⟨⟨k + 1, by omega, by congr 1⟩, by show n - ((k : Int) + 1).toNat < n - (k : Int).toNat; omega⟩
      · have hkn : n = k := by omega
        subst hkn
        go_wp2_with fail
        go_ret
        exact ⟨rfl, bgo hb1 hb2⟩
  · have CI := fun W (hr : Rd W A (nums .i64 xs)) => inv_no A n c xs W HN.out (by omega) hr hs
    have CK := fun W (hr : Rd W A (nums .i64 xs)) => check_no A n c xs W HN.out (by omega) hr hs
    go_enter Try.func12, Try.ntmps12
    go_wp2_with (first
      | (go_at_call 15; refine (live11_any _).mono ?_; rintro e w1 ⟨rfl, hb1⟩; have HX1 := Lib.hid (HX.out.below hb1))
      | (go_at_call 34; refine (CI _ HX1.out).mono ?_; rintro e w2 ⟨rfl, hb2⟩; have HX2 := Lib.hid (HX1.out.below hb2))
      | (go_at_call 23; refine (CK _ HX2.out).mono ?_; rintro e w3 ⟨rfl, hb3⟩))
    go_ret
    exact ⟨rfl, bgo (bgo hb1 hb2) hb3⟩
theorem permPlaces_of {H : Type} {enc : TypeId × Value → H} (W : World) (base : Nat) (args : Array Value) (ds : List (DataW H)) (p : List MemPlace)
    (hval : ∀ (j : Nat) t v, Try.f12.params[j]? = some t → args[j]? = some v → Value.okWide Try.prog W .any base t v)
    (hA : DataW.TrodAll enc Try.prog W 0 (fun _ => true) true Try.f12.params.toList args.toList ds p) (hlt : ∀ x ∈ p, x.block < W.heap.size)
    (hz : (DataW.weightsEach Try.prog Try.f12.params.toList ds).all (· ≤ reachBytes) = true) : Calls Try.prog 12 args W (Yes W) := by
  rw [Try.params12] at hA hval hz
  obtain ⟨v0, vs0, d0, ds0, p0, q0, hargs, rfl, rfl, h0, r0⟩ := trodAll_cons hA
  obtain ⟨rfl, rfl, rfl⟩ := trodAll_nil r0
  obtain rfl : args = #[v0] := by cases args; simp_all
  obtain ⟨A, n, c, xs, rfl, hlen, hmx, hrd, hwf⟩ := open_intRow h0 (hval 0 _ _ rfl rfl)
  exact permPlaces_walk A n c xs W hlen hrd
end Go.Proofs.Ytmepcpklnpjebaa
