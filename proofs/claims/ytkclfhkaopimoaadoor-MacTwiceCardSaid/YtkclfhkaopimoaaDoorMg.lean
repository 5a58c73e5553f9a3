/- The law of xor twice. -/
import Derived.Test.YtkclfhkaopimoaaDoorMf
namespace Go.Proofs.YtkclfhkaopimoaaDoor
open Go.RowKit Go.ChangeShapes Go.WideShapes Go.ChangeAt
set_option linter.unusedSimpArgs false
set_option linter.unusedVariables false

theorem xor8_nat (a b : Nat) (ha : a < 256) (hb : b < 256) : xor8 (a : Int) (b : Int) = ((a ^^^ b : Nat) : Int) := by
  have ha' : a % 2 ^ IntKind.u8.bits = a := Nat.mod_eq_of_lt ha
  have hb' : b % 2 ^ IntKind.u8.bits = b := Nat.mod_eq_of_lt hb
  have hx : a ^^^ b < 2 ^ 8 := Nat.xor_lt_two_pow ha hb
  unfold xor8
  simp only [bits, BitVec.ofInt_natCast, BitVec.toNat_xor, BitVec.toNat_ofNat, ha', hb']
  exact IntWalk.u8_in _ (by omega)
theorem xor8_of (a b : Int) (ha : 0 ≤ a ∧ a ≤ 255) (hb : 0 ≤ b ∧ b ≤ 255) : xor8 (xor8 a b) b = a ∧ xor8 a b = xor8 b a ∧ 0 ≤ xor8 a b ∧ xor8 a b ≤ 255 := by
  obtain ⟨m, rfl⟩ := Int.eq_ofNat_of_zero_le ha.1
  obtain ⟨n, rfl⟩ := Int.eq_ofNat_of_zero_le hb.1
  have hm : m < 256 := by omega
  have hn : n < 256 := by omega
  have hx : m ^^^ n < 2 ^ 8 := Nat.xor_lt_two_pow hm hn
  rw [xor8_nat m n hm hn, xor8_nat n m hn hm, xor8_nat (m ^^^ n) n hx hn]
  exact ⟨by rw [Nat.xor_assoc, Nat.xor_self, Nat.xor_zero], by rw [Nat.xor_comm], by omega, by omega⟩
theorem byt_at {l : List Int} (h : Byt l) (j : Nat) : 0 ≤ l.getD j 0 ∧ l.getD j 0 ≤ 255 := by
  rw [List.getD]
  by_cases hj : j < l.length
  · rw [List.getElem?_eq_getElem hj]
    exact h _ (List.getElem_mem hj)
  · rw [List.getElem?_eq_none (by omega)]
    exact ⟨Int.le_refl _, by decide⟩
theorem xorL_byt {a b : List Int} (ha : Byt a) (hb : Byt b) : Byt (xorL a b) := by
  intro x hx
  obtain ⟨j, _, rfl⟩ := List.mem_map.1 hx
  exact (xor8_of _ _ (byt_at ha j) (byt_at hb j)).2.2
theorem xorL_comm {a b : List Int} (hl : a.length = b.length) (ha : Byt a) (hb : Byt b) : xorL a b = xorL b a := by
  unfold xorL
  rw [hl]
  exact List.map_congr_left fun j _ => (xor8_of _ _ (byt_at ha j) (byt_at hb j)).2.1
theorem xorL_at {a b : List Int} (j : Nat) (hj : j < a.length) : (xorL a b).getD j 0 = xor8 (a.getD j 0) (b.getD j 0) := by
  rw [List.getD, xorL, List.getElem?_map, List.getElem?_range hj]
  rfl
theorem xorL_twice {a b : List Int} (ha : Byt a) (hb : Byt b) : xorL (xorL a b) b = a := by
  apply List.ext_getElem?
  intro i
  by_cases hi : i < a.length
  · rw [xorL, xor_len, List.getElem?_map, List.getElem?_range hi, Option.map_some, xorL_at i hi, (xor8_of _ _ (byt_at ha i) (byt_at hb i)).1, List.getD, List.getElem?_eq_getElem hi]
    rfl
  · rw [List.getElem?_eq_none (by rw [xor_len, xor_len]; omega), List.getElem?_eq_none (by omega)]

set_option maxHeartbeats 600000 in
theorem macTwice_walk (A B : Option Addr) (n c m d : Nat) (xs ys : List Int) (w : World) (hn : xs.length = n) (hm : ys.length = m) (hx : Rd w A (nums .u8 xs)) (hy : Rd w B (nums .u8 ys)) (bx : Byt xs) (bY : Byt ys) (hK : Konst w) :
    Calls Tryd.prog 12 #[.slice A n c, .slice B m d] w (Yes w) := by
  have HX := Lib.hid hx
  have HY := Lib.hid hy
  have HN := Lib.hid hn
  have HM := Lib.hid hm
  have HK := Lib.hid hK
  clear hx hy hn hm hK
  by_cases hbig : 1000 < n ∨ 1000 < m
  · by_cases h1 : 1000 < n
    · have r1 : (1000 : Int) < n := by omega
      go_enter Tryd.func12, Tryd.ntmps12
      go_wp2_with (go_at_call 26; refine (live2_any _ HK.out).mono ?_; rintro e w1 ⟨rfl, hb1⟩)
      go_ret
      exact ⟨rfl, hb1⟩
    · have r1 : ¬ (1000 : Int) < n := by omega
      have r2 : (1000 : Int) < m := by omega
      go_enter Tryd.func12, Tryd.ntmps12
      go_wp2_with (go_at_call 26; refine (live2_any _ HK.out).mono ?_; rintro e w1 ⟨rfl, hb1⟩)
      go_ret
      exact ⟨rfl, hb1⟩
  have r1 : ¬ (1000 : Int) < n := by omega
  have r2 : ¬ (1000 : Int) < m := by omega
  by_cases hnm : n = m
  · subst hnm
    go_enter Tryd.func12, Tryd.ntmps12
    go_wp2_with (first
      | (go_at_call 26; refine (live2_any _ HK.out).mono ?_; rintro e w1 ⟨rfl, hb1⟩; have HX1 := Lib.hid (HX.out.below hb1); have HY1 := Lib.hid (HY.out.below hb1))
      | (go_at_call 31; first
          | (refine (xor_same A2 B n c2 d (xorL xs ys) ys _ (by rw [xor_len]; exact HN.out) HM.out (by omega) (R2.below hb3) ((HY1.out.below hb2).below hb3)).mono ?_; rintro e w4 ⟨A4, c4, rfl, R4, hb4⟩)
          | (refine (xor_same B A n d c ys xs _ HM.out HN.out (by omega) (HY1.out.below hb2) (HX1.out.below hb2)).mono ?_; rintro e w3 ⟨A3, c3, rfl, R3, hb3⟩)
          | (refine (xor_same A B n c d xs ys _ HN.out HM.out (by omega) HX1.out HY1.out).mono ?_; rintro e w2 ⟨A2, c2, rfl, R2, hb2⟩))
      | (go_at_call 17; first
          | (refine (same_true A2 A3 n c2 n c3 (xorL xs ys) (xorL ys xs) _ (xorL_comm (HN.out.trans HM.out.symm) bx bY) (by rw [xor_len]; exact HN.out) (by rw [xor_len]; exact HM.out) ((R2.below hb3).below hb4) (R3.below hb4) (xorL_byt bx bY)).mono ?_; rintro e w5 ⟨rfl, rfl⟩)
          | (refine (same_true A4 A n c4 n c (xorL (xorL xs ys) ys) xs _ (xorL_twice bx bY) (by rw [xor_len, xor_len]; exact HN.out) HN.out R4 (((HX1.out.below hb2).below hb3).below hb4) (by rw [xorL_twice bx bY]; exact bx)).mono ?_; rintro e w6 ⟨rfl, rfl⟩)))
    go_ret
    exact ⟨rfl, bgo (bgo (bgo hb1 hb2) hb3) hb4⟩
  · have r3 : ¬ ((n : Int) = m) := by omega
    go_enter Tryd.func12, Tryd.ntmps12
    go_wp2_with (first
      | (go_at_call 26; refine (live2_any _ HK.out).mono ?_; rintro e w1 ⟨rfl, hb1⟩)
      | (go_at_call 31; refine (xor_bad _ _ _ _ _ _ _ (by first | exact hnm | exact fun h => hnm h.symm)).mono ?_; rintro e w2 ⟨rfl, rfl⟩))
    go_ret
    have hbb : ((n : Int) != (m : Int)) = true := bne_iff_ne.2 r3
    exact ⟨(by show Ending.returned (.bool ((n : Int) != (m : Int))) = .returned (.bool true); rw [hbb]), by first | exact hb1 | assumption⟩

theorem macTwice_of {H : Type} {enc : TypeId × Value → H} (W : World) (base : Nat) (args : Array Value) (ds : List (DataW H)) (p : List MemPlace)
    (hval : ∀ (j : Nat) t v, Tryd.f12.params[j]? = some t → args[j]? = some v → Value.okWide Tryd.prog W .any base t v)
    (hA : DataW.TrodAll enc Tryd.prog W 0 (fun _ => true) true Tryd.f12.params.toList args.toList ds p) (hlt : ∀ x ∈ p, x.block < W.heap.size)
    (hz : (DataW.weightsEach Tryd.prog Tryd.f12.params.toList ds).all (· ≤ reachBytes) = true) (hK : Konst W) : Calls Tryd.prog 12 args W (Yes W) := by
  rw [Tryd.params12] at hA hval hz
  obtain ⟨v0, vs0, d0, ds0, p0, q0, hargs, rfl, rfl, h0, r0⟩ := trodAll_cons hA
  obtain ⟨v1, vs1, d1, ds1, p1, q1, rfl, rfl, rfl, h1, r1⟩ := trodAll_cons r0
  obtain ⟨rfl, rfl, rfl⟩ := trodAll_nil r1
  obtain rfl : args = #[v0, v1] := by cases args; simp_all

  obtain ⟨A, n, c, xs, rfl, hn, hr, hb⟩ := open_bytes h0 (hval 0 _ _ rfl rfl)
  obtain ⟨B, m, d, ys, rfl, hm, hs, hc⟩ := open_bytes h1 (hval 1 _ _ rfl rfl)
  exact macTwice_walk A B n c m d xs ys W hn hm hr hs hb hc hK
end Go.Proofs.YtkclfhkaopimoaaDoor
