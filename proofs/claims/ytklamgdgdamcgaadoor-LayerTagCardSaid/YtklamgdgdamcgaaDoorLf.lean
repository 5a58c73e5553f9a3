/- The law of what is opened. -/
import Derived.Test.YtklamgdgdamcgaaDoorLe
import Derived.Deep.RegionWith
import Derived.Deep.DeepMust
namespace Go.Proofs.YtklamgdgdamcgaaDoor
open Go.RowKit Go.ChangeShapes Go.WideShapes Go.ChangeAt
set_option linter.unusedSimpArgs false
set_option linter.unusedVariables false

set_option maxHeartbeats 2000000 in
theorem layerOpens_walk (A B : Option Addr) (n c m d : Nat) (server b : List Int) (w : World) (hn : server.length = n) (hm : b.length = m) (hmd : m ≤ d) (hx : Rd w A (nums .u8 server)) (hy : Rd w B (nums .u8 b)) (bb : Byt b) (hK : Konst w) :
    Calls Tryd.prog 13 #[.slice A n c, .slice B m d] w (Yes w) := by
  obtain ⟨i0, hi, hz0, hz1, hz2⟩ := info_parts infoByte
  have HX := Lib.hid hx
  have HY := Lib.hid hy
  have HN := Lib.hid hn
  have HM := Lib.hid hm
  have HK := Lib.hid hK
  have HBB := Lib.hid bb
  have hnl : (nums .u8 b).length = m := by simp [hm]
  have HNL := Lib.hid hnl
  clear hx hy hn hm hK bb hnl
  by_cases h1 : 200 < n
  · skip
    have q : (200 : Int) < n := by omega
    go_enter Tryd.func13, Tryd.ntmps13
    go_wp2_with (go_at_call 36; refine (live8_any _ HK.out).mono ?_; rintro e w1 ⟨rfl, hb1⟩; have HBX := hb1)
    go_ret
    exact ⟨rfl, HBX⟩
  have q1 : ¬ (200 : Int) < n := by omega
  by_cases h3 : 700 < m ∧ m ≤ 2096
  · skip
    have q : (700 : Int) < m := by omega
    have q3 : (m : Int) ≤ 2096 := by omega
    go_enter Tryd.func13, Tryd.ntmps13
    go_wp2_with (go_at_call 36; refine (live8_any _ HK.out).mono ?_; rintro e w1 ⟨rfl, hb1⟩; have HBX := hb1)
    go_ret
    exact ⟨rfl, HBX⟩
  by_cases h4 : 2200 < m
  · skip
    have q : (700 : Int) < m := by omega
    have q3 : ¬ (m : Int) ≤ 2096 := by omega
    have q4 : (2200 : Int) < m := by omega
    go_enter Tryd.func13, Tryd.ntmps13
    go_wp2_with (go_at_call 36; refine (live8_any _ HK.out).mono ?_; rintro e w1 ⟨rfl, hb1⟩; have HBX := hb1)
    go_ret
    exact ⟨rfl, HBX⟩
  have q4 : ¬ (2200 : Int) < m := by omega
  have S5 := fun A1 c1 W h1 h2 => same_true B A1 m d m c1 b b W rfl HM.out HM.out h1 h2 HBB.out
  have S0 := fun W => same_true none none 0 0 0 0 [] [] W rfl rfl rfl (.inl rfl) (.inl rfl) (fun x hx => by cases hx)
  by_cases h7 : m ≤ 700
  · by_cases h48 : m < 48
    · have hbad : m < 48 ∨ 2096 < m := .inl h48
      have q3 : ¬ (700 : Int) < m := by omega
      have CO := fun W => open_form A B n c m d W hbad
      have CR := fun W => ropen_form A B n c m d W hbad
      go_enter Tryd.func13, Tryd.ntmps13
      go_wp2_with (first
        | (go_at_call 36; refine (live8_any _ HK.out).mono ?_; rintro e w1 ⟨rfl, hb1⟩; have HBX := hb1)
        | (at_builtin; refine append_vs rfl _ _ 23 rfl w1.heap.size 5 i0 (.int .u8 0) 1 Tryd.underlying23 hi hz0 hz1 hz2 rfl (.slice none 0 0) 0 [] rfl ⟨rfl, .inl ⟨rfl, rfl⟩⟩ _ m d (nums .u8 b) rfl HNL.out (HY.out.below HBX) nums_u8_one (by unfold maxLen; omega) (by omega) (Nat.le_refl _) ?_; intro v2 w2 hown2 hgrow2; rw [Nat.zero_add, List.nil_append] at hown2; have hb2 : Below w1.heap.size w1 w2 := brf.grown hgrow2 (Nat.le_refl _) (fun k e => by simp [Value.ownBlock] at e); obtain ⟨A2, c2, rfl⟩ := own_slice hown2; have HW := Lib.hid (Rd.of_own hown2); have HBW := Lib.hid (bgo hb1 hb2); clear hgrow2 hown2; have HX2 := Lib.hid (HX.out.below HBW.out); have HY2 := Lib.hid (HY.out.below HBW.out); have HK2 := Lib.hid (HK.out.go HBW.out); have HBX := brf (w := w2))
        | (go_at_call 45; refine (CO _).mono ?_; rintro e w3 ⟨rfl, rfl⟩)
        | (go_at_call 46; refine (CR _).mono ?_; rintro e w4 ⟨rfl, rfl⟩)
        | (go_at_call 18; refine (S0 _).mono ?_; rintro e w5 ⟨rfl, rfl⟩))
      refine wp_loop_rounds 1 ?_
      rw [rounds_succ]
      go_wp2_with (go_at_call 18; refine (S5 _ _ _ (HY2.out.below HBX) (HW.out.below HBX)).mono ?_; rintro e w6 ⟨rfl, rfl⟩)
      go_ret
      exact ⟨rfl, bgo HBW.out HBX⟩
    · by_cases hE : openE server b = 0
      · skip
        have q3 : ¬ (700 : Int) < m := by omega
        obtain ⟨b0, o0, rfl, _, _⟩ := HY.out.at_ (by rw [HNL.out]; omega)
        have CO := fun W h1 h2 hK => open_any A b0 o0 n c m d server b W HN.out HM.out (by omega) (by omega) (by omega) hmd h1 h2 HBB.out hK hE
        have CR := fun W h1 h2 => ropen_any A b0 o0 n c m d server b W HN.out HM.out (by omega) (by omega) (by omega) hmd h1 h2 HBB.out hE
        obtain ⟨P, hP⟩ : ∃ P, P = m - 48 := ⟨_, rfl⟩
        have hil : (inL server b).length = P := by rw [inL_len _ _ (by rw [HM.out]; omega), HM.out, hP]
        have hib : Byt (inL server b) := inL_byt HBB.out
        have hP7 : P ≤ 700 := by omega
        have P7 : (P : Int) ≤ 700 := by omega
        have HIL := Lib.hid hil
        have S1 := fun A1 A2 c1 c2 W h1 h2 => same_true A1 A2 P c1 P c2 (inL server b) (inL server b) W rfl HIL.out HIL.out h1 h2 hib
        have S2 := fun A1 A2 c1 c2 W h1 h2 => same_true A1 A2 32 c1 32 c2 (tagL server (nonL b)) (tagL server (nonL b)) W rfl (tag_len _ _) (tag_len _ _) h1 h2 (tag_byt _ _)
        clear hil hE hP
        go_enter Tryd.func13, Tryd.ntmps13
        go_wp2_with (first
          | (go_at_call 36; refine (live8_any _ HK.out).mono ?_; rintro e w1 ⟨rfl, hb1⟩; have HBX := hb1)
          | (at_builtin; refine append_vs rfl _ _ 23 rfl w1.heap.size 5 i0 (.int .u8 0) 1 Tryd.underlying23 hi hz0 hz1 hz2 rfl (.slice none 0 0) 0 [] rfl ⟨rfl, .inl ⟨rfl, rfl⟩⟩ _ m d (nums .u8 b) rfl HNL.out (HY.out.below HBX) nums_u8_one (by unfold maxLen; omega) (by omega) (Nat.le_refl _) ?_; intro v2 w2 hown2 hgrow2; rw [Nat.zero_add, List.nil_append] at hown2; have hb2 : Below w1.heap.size w1 w2 := brf.grown hgrow2 (Nat.le_refl _) (fun k e => by simp [Value.ownBlock] at e); obtain ⟨A2, c2, rfl⟩ := own_slice hown2; have HW := Lib.hid (Rd.of_own hown2); have HBW := Lib.hid (bgo hb1 hb2); clear hgrow2 hown2; have HX2 := Lib.hid (HX.out.below HBW.out); have HY2 := Lib.hid (HY.out.below HBW.out); have HK2 := Lib.hid (HK.out.go HBW.out); have HBX := brf (w := w2))
          | (go_at_call 45; refine (CO _ HX2.out HY2.out HK2.out).mono ?_; rintro e w3 ⟨A3, B3, c3, he, hr3, hB3, hq3, hc3, hb3⟩; rw [HIL.out, tag_len] at he; subst he; have HBX := bgo HBX hb3; have HRx := Lib.hid hr3; have HRk := Lib.hid hq3; have HG := Lib.hid hB3; clear hr3 hq3 hB3)
          | (go_at_call 46; refine (CR _ (HX2.out.below HBX) (HY2.out.below HBX)).mono ?_; rintro e w4 ⟨A4, c4, B4, d4, he, hr4, hq4, hb4⟩; rw [HIL.out, tag_len] at he; subst he; (try have HRx := Lib.hid (HRx.out.below hb4)); (try have HRy := Lib.hid (HRy.out.below hb4)); (try have HRk := Lib.hid (HRk.out.below hb4)); (try have HRl := Lib.hid (HRl.out.below hb4)); have HBX := bgo HBX hb4; have HRy := Lib.hid hr4; have HRl := Lib.hid hq4; clear hr4 hq4)
          | (go_at_call 18; first | ((with_reducible refine (S2 _ _ _ _ _ HRk.out HRl.out).mono ?_); rintro e w5 ⟨rfl, rfl⟩) | ((with_reducible refine (S1 _ _ _ _ _ HRx.out HRy.out).mono ?_); rintro e w5 ⟨rfl, rfl⟩)))
        rcases Nat.eq_zero_or_pos P with hP0 | hP0
        · subst hP0
          refine wp_loop_rounds 1 ?_
          rw [rounds_succ]
          go_wp2_with (go_at_call 18; refine (S5 _ _ _ (HY2.out.below HBX) (HW.out.below HBX)).mono ?_; rintro e w6 ⟨rfl, rfl⟩)
          go_ret
          exact ⟨rfl, bgo HBW.out HBX⟩
        · obtain ⟨B5, hB5, hge5, hlt5, hbr5⟩ := HG.out (by rw [HIL.out]; exact hP0)
          subst hB5
          have hbr6 : Brow w4 B5 (inL server b) := hbr5.below hb4 hlt5
          have hlt6 : B5 < w4.heap.size := Nat.lt_of_lt_of_le hlt5 hb4.size
          have HB6 := Lib.hid hbr6
          clear hbr5 hbr6
          have HBZ := Lib.hid HBX
          go_loopw [13, 65] (fun _ i wr => ∃ (k : Nat) (l : List Int), k ≤ P ∧ i = .int .i64 k ∧ l.length = P ∧ Brow wr B5 l ∧ B5 < wr.heap.size ∧ Below w2.heap.size w2 wr) (fun _ i _ => P - (intOf i).toNat)
          case atStart => exact ⟨0, _, Nat.zero_le _, rfl, HIL.out, HB6.out, hlt6, HBZ.out⟩
          case round =>
            obtain ⟨k, l, hk, rfl, hl, hB, hlt7, hb7⟩ := hrel
            have r0 : (0 : Int) ≤ (k : Int) := by omega
            by_cases hlt : k < P
            · have r1 : (k : Int) < P := by omega
              have c1 : wr.cell? ⟨B5, k, none⟩ = some (.int .u8 _) := hB.1 k (by rw [hl]; exact hlt)
              have f1 : wr.frozen? ⟨B5, k, none⟩ = false := hB.2 _
              have HB := Lib.hid hB
              clear hB
              go_wp2_with fail
              exact ⟨⟨k + 1, _, by omega, by congr 1, by rw [List.length_set]; exact hl, HB.out.set (k := k) _ (by rw [hl]; exact hlt), by show B5 < (wr.setCell _ _).heap.size; rw [size_setCell]; exact hlt7, hb7.setCell (p := ⟨B5, k, none⟩) (by omega) _⟩, by show P - ((k : Int) + 1).toNat < P - (k : Int).toNat; omega⟩
            · have r1 : ¬ (k : Int) < P := by omega
              go_wp2_with (go_at_call 18; refine (S5 _ _ _ (HY2.out.below hb7) (HW.out.below hb7)).mono ?_; rintro e w6 ⟨rfl, rfl⟩)
              go_ret
              exact ⟨rfl, bgo HBW.out hb7⟩
      · skip
        have q3 : ¬ (700 : Int) < m := by omega
        obtain ⟨b0, o0, rfl, _, _⟩ := HY.out.at_ (by rw [HNL.out]; omega)
        have CO := fun W h1 h2 hK => open_tag A b0 o0 n c m d server b W HN.out HM.out (by omega) (by omega) (by omega) hmd h1 h2 HBB.out hK hE
        have CR := fun W h1 h2 => ropen_tag A b0 o0 n c m d server b W HN.out HM.out (by omega) (by omega) (by omega) hmd h1 h2 HBB.out hE
        go_enter Tryd.func13, Tryd.ntmps13
        go_wp2_with (first
          | (go_at_call 36; refine (live8_any _ HK.out).mono ?_; rintro e w1 ⟨rfl, hb1⟩; have HBX := hb1)
          | (at_builtin; refine append_vs rfl _ _ 23 rfl w1.heap.size 5 i0 (.int .u8 0) 1 Tryd.underlying23 hi hz0 hz1 hz2 rfl (.slice none 0 0) 0 [] rfl ⟨rfl, .inl ⟨rfl, rfl⟩⟩ _ m d (nums .u8 b) rfl HNL.out (HY.out.below HBX) nums_u8_one (by unfold maxLen; omega) (by omega) (Nat.le_refl _) ?_; intro v2 w2 hown2 hgrow2; rw [Nat.zero_add, List.nil_append] at hown2; have hb2 : Below w1.heap.size w1 w2 := brf.grown hgrow2 (Nat.le_refl _) (fun k e => by simp [Value.ownBlock] at e); obtain ⟨A2, c2, rfl⟩ := own_slice hown2; have HW := Lib.hid (Rd.of_own hown2); have HBW := Lib.hid (bgo hb1 hb2); clear hgrow2 hown2; have HX2 := Lib.hid (HX.out.below HBW.out); have HY2 := Lib.hid (HY.out.below HBW.out); have HK2 := Lib.hid (HK.out.go HBW.out); have HBX := brf (w := w2))
          | (go_at_call 45; refine (CO _ HX2.out HY2.out HK2.out).mono ?_; rintro e w3 ⟨rfl, hb3⟩; have HBX := bgo HBX hb3)
          | (go_at_call 46; refine (CR _ (HX2.out.below HBX) (HY2.out.below HBX)).mono ?_; rintro e w4 ⟨rfl, hb4⟩; have HBX := bgo HBX hb4)
          | (go_at_call 18; refine (S0 _).mono ?_; rintro e w5 ⟨rfl, rfl⟩))
        refine wp_loop_rounds 1 ?_
        rw [rounds_succ]
        go_wp2_with (go_at_call 18; refine (S5 _ _ _ (HY2.out.below HBX) (HW.out.below HBX)).mono ?_; rintro e w6 ⟨rfl, rfl⟩)
        go_ret
        exact ⟨rfl, bgo HBW.out HBX⟩
  · have hbad : m < 48 ∨ 2096 < m := .inr (by omega)
    have q : (700 : Int) < m := by omega
    have q3 : ¬ (m : Int) ≤ 2096 := by omega
    have CO := fun W => open_form A B n c m d W hbad
    have CR := fun W => ropen_form A B n c m d W hbad
    go_enter Tryd.func13, Tryd.ntmps13
    go_wp2_with (first
      | (go_at_call 36; refine (live8_any _ HK.out).mono ?_; rintro e w1 ⟨rfl, hb1⟩; have HBX := hb1)
      | (at_builtin; refine append_vs rfl _ _ 23 rfl w1.heap.size 5 i0 (.int .u8 0) 1 Tryd.underlying23 hi hz0 hz1 hz2 rfl (.slice none 0 0) 0 [] rfl ⟨rfl, .inl ⟨rfl, rfl⟩⟩ _ m d (nums .u8 b) rfl HNL.out (HY.out.below HBX) nums_u8_one (by unfold maxLen; omega) (by omega) (Nat.le_refl _) ?_; intro v2 w2 hown2 hgrow2; rw [Nat.zero_add, List.nil_append] at hown2; have hb2 : Below w1.heap.size w1 w2 := brf.grown hgrow2 (Nat.le_refl _) (fun k e => by simp [Value.ownBlock] at e); obtain ⟨A2, c2, rfl⟩ := own_slice hown2; have HW := Lib.hid (Rd.of_own hown2); have HBW := Lib.hid (bgo hb1 hb2); clear hgrow2 hown2; have HX2 := Lib.hid (HX.out.below HBW.out); have HY2 := Lib.hid (HY.out.below HBW.out); have HK2 := Lib.hid (HK.out.go HBW.out); have HBX := brf (w := w2))
      | (go_at_call 45; refine (CO _).mono ?_; rintro e w3 ⟨rfl, rfl⟩)
      | (go_at_call 46; refine (CR _).mono ?_; rintro e w4 ⟨rfl, rfl⟩)
      | (go_at_call 18; refine (S0 _).mono ?_; rintro e w5 ⟨rfl, rfl⟩))
    refine wp_loop_rounds 1 ?_
    rw [rounds_succ]
    go_wp2_with (go_at_call 18; refine (S5 _ _ _ (HY2.out.below HBX) (HW.out.below HBX)).mono ?_; rintro e w6 ⟨rfl, rfl⟩)
    go_ret
    exact ⟨rfl, bgo HBW.out HBX⟩

theorem layerOpens_of {H : Type} {enc : TypeId × Value → H} (W : World) (base : Nat) (args : Array Value) (ds : List (DataW H)) (p : List MemPlace)
    (hval : ∀ (j : Nat) t v, Tryd.f13.params[j]? = some t → args[j]? = some v → Value.okWide Tryd.prog W .any base t v)
    (hA : DataW.TrodAll enc Tryd.prog W 0 (fun _ => true) true Tryd.f13.params.toList args.toList ds p) (hlt : ∀ x ∈ p, x.block < W.heap.size)
    (hz : (DataW.weightsEach Tryd.prog Tryd.f13.params.toList ds).all (· ≤ reachBytes) = true) (hK : Konst W) : Calls Tryd.prog 13 args W (Yes W) := by
  rw [Tryd.params13] at hA hval hz
  obtain ⟨v0, vs0, d0, ds0, p0, q0, hargs, rfl, rfl, h0, r0⟩ := trodAll_cons hA
  obtain ⟨v1, vs1, d1, ds1, p1, q1, rfl, rfl, rfl, h1, r1⟩ := trodAll_cons r0
  obtain ⟨rfl, rfl, rfl⟩ := trodAll_nil r1
  obtain rfl : args = #[v0, v1] := by cases args; simp_all
  obtain ⟨A, n, c, xs, rfl, hn0, hr0, hb0, hc0, hd0⟩ := open_bytes2 h0 (hval 0 _ _ rfl rfl)
  obtain ⟨B, m, d, ys, rfl, hn1, hr1, hb1, hc1, hd1⟩ := open_bytes2 h1 (hval 1 _ _ rfl rfl)
  exact layerOpens_walk A B n c m d xs ys W hn0 hn1 hc1 hr0 hr1 hb1 hK
end Go.Proofs.YtklamgdgdamcgaaDoor
