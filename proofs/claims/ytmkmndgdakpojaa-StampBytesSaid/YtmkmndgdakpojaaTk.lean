/- Stamps taken; the law StampTakes. -/
import Derived.Test.YtmkmndgdakpojaaTj
import Derived.Test.YtmkmndgdakpojaaTf
import Derived.Test.YtmkmndgdakpojaaTe
namespace Go.Proofs.Ytmkmndgdakpojaa
open Go.RowKit
set_option linter.unusedSimpArgs false
set_option linter.unusedVariables false
set_option maxRecDepth 100000

section
variable {A : Option Addr} {n c : Nat} {xs : List Int}
theorem b16 (hb : Byt xs) : 0 ≤ xs.getD 16 0 ∧ xs.getD 16 0 ≤ 255 := by
  by_cases h : 16 < xs.length
  · exact hb _ (by simp [List.getD, List.getElem?_eq_getElem h])
  · simp [List.getD, List.getElem?_eq_none (Nat.le_of_not_lt h)]
theorem tk_yes (w : World) (hn : xs.length = n) (hnc : n ≤ c) (hcm : c ≤ maxLen) (hx : Rd w A (nums .u8 xs)) (hb : Byt xs) (h : stOk xs) : Calls Try.prog 10 #[.slice A n c] w (IsTk w xs) := by
  have h8 := tkM_le h
  obtain ⟨h1, h2, h3⟩ := h
  exact (tk_walk A n c xs w hn hnc hx hb (by omega) h8 (by omega) hcm).mono fun e w' h => h.elim (·.2) (fun x => absurd h3 x.1)
theorem rtk_yes (w : World) (hn : xs.length = n) (hnc : n ≤ c) (hcm : c ≤ maxLen) (hx : Rd w A (nums .u8 xs)) (hb : Byt xs) (h : stOk xs) : Calls Try.prog 11 #[.slice A n c] w (IsTk w xs) := by
  have h8 := tkM_le h
  obtain ⟨h1, h2, h3⟩ := h
  exact (rtk_walk A n c xs w hn hnc hx hb (by omega) (by omega) (by omega) hcm).mono fun e w' h => h.elim (·.2) (fun x => absurd h3 x.1)
theorem tk_no (w : World) (hn : xs.length = n) (hnc : n ≤ c) (hcm : c ≤ maxLen) (hx : Rd w A (nums .u8 xs)) (hb : Byt xs) (h : ¬ stOk xs) : Calls Try.prog 10 #[.slice A n c] w (NoTk w) := by
  have hg := b16 hb
  by_cases h1 : n < 17
  · exact tk_short A n c w h1
  · by_cases h2 : 8 < xs.getD 16 0 ∨ (n : Int) < 17 + xs.getD 16 0
    · exact tk_many A n c xs w hn hx (by omega) hg h2
    · have hm : ((tkM xs : Nat) : Int) = xs.getD 16 0 := by rw [tkM]; omega
      refine (tk_walk A n c xs w hn hnc hx hb (by omega) (by omega) (by omega) hcm).mono fun e w' h0 => h0.elim (fun x => absurd ⟨by omega, by omega, x.1⟩ h) (·.2)
theorem rtk_no (w : World) (hn : xs.length = n) (hnc : n ≤ c) (hcm : c ≤ maxLen) (hx : Rd w A (nums .u8 xs)) (hb : Byt xs) (h : ¬ stOk xs) : Calls Try.prog 11 #[.slice A n c] w (NoTk w) := by
  have hg := b16 hb
  by_cases h1 : n < 17
  · exact rtk_short A n c w h1
  · by_cases h2 : (n : Int) < 17 + xs.getD 16 0
    · exact rtk_many A n c xs w hn hx (by omega) hg h2
    · have hm : ((tkM xs : Nat) : Int) = xs.getD 16 0 := by rw [tkM]; omega
      refine (rtk_walk A n c xs w hn hnc hx hb (by omega) (by omega) (by omega) hcm).mono fun e w' h0 => h0.elim (fun x => absurd ⟨by omega, by omega, x.1⟩ h) (·.2)
end

theorem rsame_refl (E R : Int) (A B : Option Addr) (n c d : Nat) (xs : List Int) (W : World) (hn : xs.length = n) (hlen : n ≤ maxLen) (hx : Rd W A (nums .i64 xs)) (hy : Rd W B (nums .i64 xs)) :
    Calls Try.prog 12 #[.agg #[.int .u64 E, .int .u64 R, .slice A n c], .agg #[.int .u64 E, .int .u64 R, .slice B n d]] W fun e w' => e = .returned (.bool true) ∧ Below W.heap.size W w' :=
  (rsame_any E R E R A B n c n d xs xs W hn hn hx hy hlen).mono fun e w' ⟨he, hb⟩ => ⟨by rw [he]; simp, hb⟩

set_option maxHeartbeats 1000000 in
theorem stampTakes_walk (A : Option Addr) (n c : Nat) (xs : List Int) (w : World) (hn : xs.length = n) (hnc : n ≤ c) (hcm : c ≤ maxLen) (hx : Rd w A (nums .u8 xs)) (hb : Byt xs) :
    Calls Try.prog 3 #[.slice A n c] w (Yes w) := by
  by_cases h3 : 300 < n
  · go_enter Try.func3, Try.ntmps3
    go_wp2_with (go_at_call 9; refine (live4_any _).mono ?_; rintro e w1 ⟨rfl, hb1⟩)
    go_ret
    exact ⟨rfl, hb1⟩
  have HX := Lib.hid hx
  by_cases hs : stOk xs
  · have CT := fun (W : World) h0 => tk_yes (A := A) (c := c) W hn hnc hcm h0 hb hs
    have CR := fun (W : World) h0 => rtk_yes (A := A) (c := c) W hn hnc hcm h0 hb hs
    have hX := tkX_len hs
    have h8 := tkM_le hs
    have CS := fun A B c d (W : World) h0 h1 => rsame_refl ((tkE xs : Nat) : Int) ((tkR xs : Nat) : Int) A B (tkM xs) c d (tkX xs) W hX (by unfold maxLen; omega) h0 h1
    clear hx hn hb hs hX h8
    go_enter Try.func3, Try.ntmps3
    go_wp2_with (first
      | (go_at_call 9; refine (live4_any _).mono ?_; rintro e w1 ⟨rfl, hb1⟩; have HX := Lib.hid (HX.out.below hb1))
      | (go_at_call 10; refine (CT _ HX.out).mono ?_; rintro e w2 ⟨A2, c2, rfl, hc2, hown2, hb2⟩; have HX := Lib.hid (HX.out.below hb2); have HR2 := Lib.hid (Rd.of_own hown2); clear hown2)
      | (go_at_call 11; refine (CR _ (HX.out.below (bal brf _))).mono ?_; rintro e w3 ⟨A3, c3, rfl, hc3, hown3, hb3⟩; obtain ⟨s3, k30, k31, k32⟩ := (stBox_new w2 _ _ _ _).below hb3; have HR2 := Lib.hid ((HR2.out.below (bal brf _)).below hb3); have HR3 := Lib.hid (Rd.of_own hown3); clear hown3)
      | (go_at_call 12; refine (CS _ _ _ _ _ (HR2.out.below (bal brf _)) (HR3.out.below (bal brf _))).mono ?_; rintro e w4 ⟨rfl, hb4⟩))
    go_ret
    exact ⟨by simp, bgo (bal (bgo (bal (bgo hb1 hb2) _) hb3) _) hb4⟩
  · have CT := fun (W : World) h0 => tk_no (A := A) (c := c) W hn hnc hcm h0 hb hs
    have CR := fun (W : World) h0 => rtk_no (A := A) (c := c) W hn hnc hcm h0 hb hs
    have CS := fun A B c d (W : World) h0 h1 => rsame_refl 0 0 A B 0 c d [] W rfl (by unfold maxLen; omega) h0 h1
    clear hx hn hb hs
    go_enter Try.func3, Try.ntmps3
    go_wp2_with (first
      | (go_at_call 9; refine (live4_any _).mono ?_; rintro e w1 ⟨rfl, hb1⟩; have HX := Lib.hid (HX.out.below hb1))
      | (go_at_call 10; refine (CT _ HX.out).mono ?_; rintro e w2 ⟨rfl, hb2⟩; have HX := Lib.hid (HX.out.below hb2))
      | (go_at_call 11; refine (CR _ (HX.out.below (bal brf _))).mono ?_; rintro e w3 ⟨rfl, hb3⟩; obtain ⟨s3, k30, k31, k32⟩ := (stBox_new w2 _ _ _ _).below hb3)
      | (go_at_call 12; refine (CS _ _ _ _ _ (.inl rfl) (.inl rfl)).mono ?_; rintro e w4 ⟨rfl, hb4⟩))
    go_ret
    exact ⟨by simp, bgo (bal (bgo (bal (bgo hb1 hb2) _) hb3) _) hb4⟩
open Go.Joins Go.ChangeShapes Go.WideShapes Go.ChangeAt Go.Deep in
/-- A slice of bytes that was read: its form. -/
theorem open_bytesT {H : Type} {enc : TypeId × Value → H} {W : World} {base b0 : Nat} {sp : Nat → Bool} {held : Bool} {v : Value} {d : DataW H} {p : List MemPlace} (h : DataW.Trod enc Try.prog W b0 sp held 22 v d p) (hv : Value.okWide Try.prog W .any base 22 v) :
    ∃ A n c xs, v = .slice A n c ∧ n ≤ c ∧ c ≤ maxLen ∧ xs.length = n ∧ Rd W A (nums .u8 xs) ∧ Byt xs := by
  obtain ⟨A, n, c, rfl⟩ := okWide_slice Try.underlying22 hv
  obtain ⟨fuel, hf⟩ := h
  obtain ⟨A', l, c', xs, he, hc1, hc2, hl, hr, hw, _⟩ := open_row Try.underlying22 Try.underlying5 (by kernel_rfl) hf
  cases he
  refine ⟨A, n, c, xs, rfl, hc1, hc2, hl, hr, fun x hx => ?_⟩
  have : (decide ((0 : Int) ≤ x) && decide (x ≤ (255 : Int))) = true := hw x hx
  simpa using this

open Go.Joins Go.ChangeShapes Go.WideShapes Go.ChangeAt Go.Deep in
theorem stampTakes_of {H : Type} {enc : TypeId × Value → H} (W : World) (base : Nat) (args : Array Value) (ds : List (DataW H)) (p : List MemPlace)
    (hval : ∀ (j : Nat) t v, Try.f3.params[j]? = some t → args[j]? = some v → Value.okWide Try.prog W .any base t v)
    (hA : DataW.TrodAll enc Try.prog W 0 (fun _ => true) true Try.f3.params.toList args.toList ds p) (hlt : ∀ x ∈ p, x.block < W.heap.size)
    (hz : (DataW.weightsEach Try.prog Try.f3.params.toList ds).all (· ≤ reachBytes) = true) : Calls Try.prog 3 args W (Yes W) := by
  rw [Try.params3] at hA hval hz
  obtain ⟨v0, vs0, d0, ds0, p0, q0, hargs, rfl, rfl, h0, r0⟩ := trodAll_cons hA
  obtain ⟨rfl, rfl, rfl⟩ := trodAll_nil r0
  obtain rfl : args = #[v0] := by cases args; simp_all
  obtain ⟨A, n, c, xs, rfl, g1, g2, g3, g4, g5⟩ := open_bytesT h0 (hval 0 _ _ rfl rfl)
  exact stampTakes_walk A n c xs W g3 g1 g2 g4 g5
end Go.Proofs.Ytmkmndgdakpojaa
