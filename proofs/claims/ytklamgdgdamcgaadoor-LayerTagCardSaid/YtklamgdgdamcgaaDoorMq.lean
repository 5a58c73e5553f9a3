/- The law of streams and of xor. -/
import Derived.Test.YtklamgdgdamcgaaDoorMo
namespace Go.Proofs.YtklamgdgdamcgaaDoor
open Go.RowKit Go.ChangeShapes Go.WideShapes Go.ChangeAt
set_option linter.unusedSimpArgs false
set_option linter.unusedVariables false

set_option maxRecDepth 100000 in
set_option maxHeartbeats 4000000 in
theorem macStreams_walk (A B C : Option Addr) (n c m d t f : Nat) (z : Int) (key a b : List Int) (w : World) (hn : key.length = n) (hm : a.length = m) (ht : b.length = t) (hx : Rd w A (nums .u8 key)) (hy : Rd w B (nums .u8 a)) (hu : Rd w C (nums .u8 b)) (ba : Byt a) (bb : Byt b) (hK : Konst w) :
    Calls Tryd.prog 7 #[.slice A n c, .int .i64 z, .slice B m d, .slice C t f] w (Yes w) := by
  have HX := Lib.hid hx
  have HA := Lib.hid hy
  have HB := Lib.hid hu
  have HN := Lib.hid hn
  have HM := Lib.hid hm
  have HT := Lib.hid ht
  have HK := Lib.hid hK
  have hxb := xorL_byt ba bb
  clear hx hy hu hn hm ht hK
  by_cases h1 : 300 < n
  · have q : (300 : Int) < n := by omega
    go_enter Tryd.func7, Tryd.ntmps7
    go_wp2_with (go_at_call 16; refine (live2_any _ HK.out).mono ?_; rintro e w1 ⟨rfl, hb1⟩; have HBX := hb1)
    go_ret
    exact ⟨rfl, hb1⟩
  have q1 : ¬ (300 : Int) < n := by omega
  by_cases h2 : 1000 < z ∧ z ≤ 1048576
  · obtain ⟨h2, h3⟩ := h2
    skip
    go_enter Tryd.func7, Tryd.ntmps7
    go_wp2_with (go_at_call 16; refine (live2_any _ HK.out).mono ?_; rintro e w1 ⟨rfl, hb1⟩; have HBX := hb1)
    go_ret
    exact ⟨rfl, hb1⟩
  by_cases h4 : 1000 < m
  · by_cases h5 : 1000 < z
    · have h6 : ¬ z ≤ 1048576 := by omega
      have q : (1000 : Int) < m := by omega
      go_enter Tryd.func7, Tryd.ntmps7
      go_wp2_with (go_at_call 16; refine (live2_any _ HK.out).mono ?_; rintro e w1 ⟨rfl, hb1⟩; have HBX := hb1)
      go_ret
      exact ⟨rfl, hb1⟩
    · skip
      have q : (1000 : Int) < m := by omega
      go_enter Tryd.func7, Tryd.ntmps7
      go_wp2_with (go_at_call 16; refine (live2_any _ HK.out).mono ?_; rintro e w1 ⟨rfl, hb1⟩; have HBX := hb1)
      go_ret
      exact ⟨rfl, hb1⟩
  have q4 : ¬ (1000 : Int) < m := by omega
  by_cases h7 : 1000 < t
  · by_cases h5 : 1000 < z
    · have h6 : ¬ z ≤ 1048576 := by omega
      have q : (1000 : Int) < t := by omega
      go_enter Tryd.func7, Tryd.ntmps7
      go_wp2_with (go_at_call 16; refine (live2_any _ HK.out).mono ?_; rintro e w1 ⟨rfl, hb1⟩; have HBX := hb1)
      go_ret
      exact ⟨rfl, hb1⟩
    · skip
      have q : (1000 : Int) < t := by omega
      go_enter Tryd.func7, Tryd.ntmps7
      go_wp2_with (go_at_call 16; refine (live2_any _ HK.out).mono ?_; rintro e w1 ⟨rfl, hb1⟩; have HBX := hb1)
      go_ret
      exact ⟨rfl, hb1⟩
  have q7 : ¬ (1000 : Int) < t := by omega
  have CS0 := fun W => same_true none none 0 0 0 0 [] [] W rfl rfl rfl Rd.nil Rd.nil (by intro x hx; cases hx)
  by_cases hbad : z < 0 ∨ 1048576 < z
  · have CA := fun W => stream_bad A n c z W hbad
    have CB := fun W => rstream_bad A n c z W hbad
    have h5 : z ≤ 1000 ∨ (1000 < z ∧ ¬ z ≤ 1048576) := by omega
    clear h2 hbad
    by_cases hmt : m = t
    · subst hmt
      have CX := fun W h1 h2 => xor_same B C m d f a b W HM.out HT.out (by omega) h1 h2
      have CY := fun W h1 h2 => rxor_any B C m d f a b W HM.out HT.out (by omega) h1 h2
      have hxl : (xorL a b).length = m := by rw [xor_len]; exact HM.out
      have HXL := Lib.hid hxl
      have CS2 := fun A1 A2 c1 c2 W h1 h2 => same_true A1 A2 m c1 m c2 (xorL a b) (xorL a b) W rfl HXL.out HXL.out h1 h2 hxb
      clear hxl hxb ba bb
      rcases h5 with h5 | ⟨h5, h6⟩
      · have h5' : ¬ 1000 < z := by omega
        go_enter Tryd.func7, Tryd.ntmps7
        go_wp2_with (first
          | (go_at_call 16; refine (live2_any _ HK.out).mono ?_; rintro e w1 ⟨rfl, hb1⟩; have HBX := hb1)
          | (go_at_call 23; refine (CA _).mono ?_; rintro e w2 ⟨rfl, hb2⟩; have HBX := bgo HBX hb2)
          | (go_at_call 24; refine (CB _).mono ?_; rintro e w3 ⟨rfl, rfl⟩)
          | (go_at_call 25; refine (CX _ (HA.out.below HBX) (HB.out.below HBX)).mono ?_; rintro e w4 ⟨A4, c4, rfl, hr4, hb4⟩; have HR4 := Lib.hid hr4; clear hr4; have HBX := bgo HBX hb4)
          | (go_at_call 26; refine (CY _ (HA.out.below HBX) (HB.out.below HBX)).mono ?_; rintro e w5 ⟨A5, c5, he, hc5, hr5, hb5⟩; rw [HXL.out] at he; subst he; have HR5 := Lib.hid hr5; clear hr5; have HR4 := Lib.hid (HR4.out.below hb5); have HBX := bgo HBX hb5)
          | (go_at_call 18; first | ((with_reducible refine (CS0 _).mono ?_); rintro e w6 ⟨rfl, rfl⟩) | ((with_reducible refine (CS2 _ _ _ _ _ HR4.out HR5.out).mono ?_); rintro e w7 ⟨rfl, rfl⟩)))
        go_ret
        exact ⟨rfl, HBX⟩
      · skip
        go_enter Tryd.func7, Tryd.ntmps7
        go_wp2_with (first
          | (go_at_call 16; refine (live2_any _ HK.out).mono ?_; rintro e w1 ⟨rfl, hb1⟩; have HBX := hb1)
          | (go_at_call 23; refine (CA _).mono ?_; rintro e w2 ⟨rfl, hb2⟩; have HBX := bgo HBX hb2)
          | (go_at_call 24; refine (CB _).mono ?_; rintro e w3 ⟨rfl, rfl⟩)
          | (go_at_call 25; refine (CX _ (HA.out.below HBX) (HB.out.below HBX)).mono ?_; rintro e w4 ⟨A4, c4, rfl, hr4, hb4⟩; have HR4 := Lib.hid hr4; clear hr4; have HBX := bgo HBX hb4)
          | (go_at_call 26; refine (CY _ (HA.out.below HBX) (HB.out.below HBX)).mono ?_; rintro e w5 ⟨A5, c5, he, hc5, hr5, hb5⟩; rw [HXL.out] at he; subst he; have HR5 := Lib.hid hr5; clear hr5; have HR4 := Lib.hid (HR4.out.below hb5); have HBX := bgo HBX hb5)
          | (go_at_call 18; first | ((with_reducible refine (CS0 _).mono ?_); rintro e w6 ⟨rfl, rfl⟩) | ((with_reducible refine (CS2 _ _ _ _ _ HR4.out HR5.out).mono ?_); rintro e w7 ⟨rfl, rfl⟩)))
        go_ret
        exact ⟨rfl, HBX⟩
    · have CX := fun W => xor_bad B C m d t f W hmt
      have CY := fun W => rxor_bad B C m d t f W hmt
      clear hxb ba bb
      rcases h5 with h5 | ⟨h5, h6⟩
      · have h5' : ¬ 1000 < z := by omega
        go_enter Tryd.func7, Tryd.ntmps7
        go_wp2_with (first
          | (go_at_call 16; refine (live2_any _ HK.out).mono ?_; rintro e w1 ⟨rfl, hb1⟩; have HBX := hb1)
          | (go_at_call 23; refine (CA _).mono ?_; rintro e w2 ⟨rfl, hb2⟩; have HBX := bgo HBX hb2)
          | (go_at_call 24; refine (CB _).mono ?_; rintro e w3 ⟨rfl, rfl⟩)
          | (go_at_call 25; refine (CX _).mono ?_; rintro e w4 ⟨rfl, rfl⟩)
          | (go_at_call 26; refine (CY _).mono ?_; rintro e w5 ⟨rfl, rfl⟩)
          | (go_at_call 18; first | ((with_reducible refine (CS0 _).mono ?_); rintro e w6 ⟨rfl, rfl⟩)))
        go_ret
        exact ⟨rfl, HBX⟩
      · skip
        go_enter Tryd.func7, Tryd.ntmps7
        go_wp2_with (first
          | (go_at_call 16; refine (live2_any _ HK.out).mono ?_; rintro e w1 ⟨rfl, hb1⟩; have HBX := hb1)
          | (go_at_call 23; refine (CA _).mono ?_; rintro e w2 ⟨rfl, hb2⟩; have HBX := bgo HBX hb2)
          | (go_at_call 24; refine (CB _).mono ?_; rintro e w3 ⟨rfl, rfl⟩)
          | (go_at_call 25; refine (CX _).mono ?_; rintro e w4 ⟨rfl, rfl⟩)
          | (go_at_call 26; refine (CY _).mono ?_; rintro e w5 ⟨rfl, rfl⟩)
          | (go_at_call 18; first | ((with_reducible refine (CS0 _).mono ?_); rintro e w6 ⟨rfl, rfl⟩)))
        go_ret
        exact ⟨rfl, HBX⟩
  · obtain ⟨N, rfl⟩ := Int.eq_ofNat_of_zero_le (show 0 ≤ z by omega)
    have hN : N ≤ 1000 := by omega
    have h5 : ¬ (1000 : Int) < N := by omega
    have CA := fun W h1 hK => stream_any A n c N key W HN.out (by omega) (by omega) h1 hK
    have CB := fun W h1 => rstream_any A n c N key W HN.out (by omega) (by omega) h1
    have CS1 := fun A1 A2 c1 c2 W h1 h2 => same_true A1 A2 N c1 N c2 (streamL key N) (streamL key N) W rfl (streamL_len _ _) (streamL_len _ _) h1 h2 (streamL_byt _ _)
    clear h2 hbad
    by_cases hmt : m = t
    · subst hmt
      have CX := fun W h1 h2 => xor_same B C m d f a b W HM.out HT.out (by omega) h1 h2
      have CY := fun W h1 h2 => rxor_any B C m d f a b W HM.out HT.out (by omega) h1 h2
      have hxl : (xorL a b).length = m := by rw [xor_len]; exact HM.out
      have HXL := Lib.hid hxl
      have CS2 := fun A1 A2 c1 c2 W h1 h2 => same_true A1 A2 m c1 m c2 (xorL a b) (xorL a b) W rfl HXL.out HXL.out h1 h2 hxb
      clear hxl hxb ba bb
      go_enter Tryd.func7, Tryd.ntmps7
      go_wp2_with (first
        | (go_at_call 16; refine (live2_any _ HK.out).mono ?_; rintro e w1 ⟨rfl, hb1⟩; have HBX := hb1)
        | (go_at_call 23; refine (CA _ (HX.out.below HBX) (HK.out.go HBX)).mono ?_; rintro e w2 ⟨B2, c2, he, hc2, hl2, hown2, hb2⟩; rw [streamL_len] at he hown2; subst he; have HR2 := Lib.hid (Rd.of_own hown2); clear hown2; have HBX := bgo HBX hb2)
        | (go_at_call 24; refine (CB _ (HX.out.below HBX)).mono ?_; rintro e w3 ⟨A3, c3, he, hc3, hr3, hb3⟩; rw [streamL_len] at he; subst he; have HR3 := Lib.hid hr3; clear hr3; have HR2 := Lib.hid (HR2.out.below hb3); have HBX := bgo HBX hb3)
        | (go_at_call 25; refine (CX _ (HA.out.below HBX) (HB.out.below HBX)).mono ?_; rintro e w4 ⟨A4, c4, rfl, hr4, hb4⟩; have HR4 := Lib.hid hr4; clear hr4; have HR2 := Lib.hid (HR2.out.below hb4); have HR3 := Lib.hid (HR3.out.below hb4); have HBX := bgo HBX hb4)
        | (go_at_call 26; refine (CY _ (HA.out.below HBX) (HB.out.below HBX)).mono ?_; rintro e w5 ⟨A5, c5, he, hc5, hr5, hb5⟩; rw [HXL.out] at he; subst he; have HR5 := Lib.hid hr5; clear hr5; have HR4 := Lib.hid (HR4.out.below hb5); have HR2 := Lib.hid (HR2.out.below hb5); have HR3 := Lib.hid (HR3.out.below hb5); have HBX := bgo HBX hb5)
        | (go_at_call 18; first | ((with_reducible refine (CS1 _ _ _ _ _ HR2.out HR3.out).mono ?_); rintro e w6 ⟨rfl, rfl⟩) | ((with_reducible refine (CS2 _ _ _ _ _ HR4.out HR5.out).mono ?_); rintro e w7 ⟨rfl, rfl⟩)))
      go_ret
      exact ⟨rfl, HBX⟩
    · have CX := fun W => xor_bad B C m d t f W hmt
      have CY := fun W => rxor_bad B C m d t f W hmt
      clear hxb ba bb
      go_enter Tryd.func7, Tryd.ntmps7
      go_wp2_with (first
        | (go_at_call 16; refine (live2_any _ HK.out).mono ?_; rintro e w1 ⟨rfl, hb1⟩; have HBX := hb1)
        | (go_at_call 23; refine (CA _ (HX.out.below HBX) (HK.out.go HBX)).mono ?_; rintro e w2 ⟨B2, c2, he, hc2, hl2, hown2, hb2⟩; rw [streamL_len] at he hown2; subst he; have HR2 := Lib.hid (Rd.of_own hown2); clear hown2; have HBX := bgo HBX hb2)
        | (go_at_call 24; refine (CB _ (HX.out.below HBX)).mono ?_; rintro e w3 ⟨A3, c3, he, hc3, hr3, hb3⟩; rw [streamL_len] at he; subst he; have HR3 := Lib.hid hr3; clear hr3; have HR2 := Lib.hid (HR2.out.below hb3); have HBX := bgo HBX hb3)
        | (go_at_call 25; refine (CX _).mono ?_; rintro e w4 ⟨rfl, rfl⟩)
        | (go_at_call 26; refine (CY _).mono ?_; rintro e w5 ⟨rfl, rfl⟩)
        | (go_at_call 18; first | ((with_reducible refine (CS1 _ _ _ _ _ HR2.out HR3.out).mono ?_); rintro e w6 ⟨rfl, rfl⟩) | ((with_reducible refine (CS0 _).mono ?_); rintro e w7 ⟨rfl, rfl⟩)))
      go_ret
      exact ⟨rfl, HBX⟩

theorem macStreams_of {H : Type} {enc : TypeId × Value → H} (W : World) (base : Nat) (args : Array Value) (ds : List (DataW H)) (p : List MemPlace)
    (hval : ∀ (j : Nat) t v, Tryd.f7.params[j]? = some t → args[j]? = some v → Value.okWide Tryd.prog W .any base t v)
    (hA : DataW.TrodAll enc Tryd.prog W 0 (fun _ => true) true Tryd.f7.params.toList args.toList ds p) (hlt : ∀ x ∈ p, x.block < W.heap.size)
    (hz : (DataW.weightsEach Tryd.prog Tryd.f7.params.toList ds).all (· ≤ reachBytes) = true) (hK : Konst W) : Calls Tryd.prog 7 args W (Yes W) := by
  rw [Tryd.params7] at hA hval hz
  obtain ⟨v0, vs0, d0, ds0, p0, q0, hargs, rfl, rfl, h0, r0⟩ := trodAll_cons hA
  obtain ⟨v1, vs1, d1, ds1, p1, q1, rfl, rfl, rfl, h1, r1⟩ := trodAll_cons r0
  obtain ⟨v2, vs2, d2, ds2, p2, q2, rfl, rfl, rfl, h2, r2⟩ := trodAll_cons r1
  obtain ⟨v3, vs3, d3, ds3, p3, q3, rfl, rfl, rfl, h3, r3⟩ := trodAll_cons r2
  obtain ⟨rfl, rfl, rfl⟩ := trodAll_nil r3
  obtain rfl : args = #[v0, v1, v2, v3] := by cases args; simp_all
  obtain ⟨A, n, c, xs, rfl, hn, hr, hb⟩ := open_bytes h0 (hval 0 _ _ rfl rfl)
  obtain ⟨z, rfl, rfl, rfl, wz⟩ := open_int Tryd.underlying3 (hval 1 _ _ rfl rfl) h1
  obtain ⟨B, m, d, ys, rfl, hm, hs, hc⟩ := open_bytes h2 (hval 2 _ _ rfl rfl)
  obtain ⟨C, t, f, us, rfl, ht, hu, hd⟩ := open_bytes h3 (hval 3 _ _ rfl rfl)
  exact macStreams_walk A B C n c m d t f z xs ys us W hn hm ht hr hs hu hc hd hK
end Go.Proofs.YtklamgdgdamcgaaDoor
