/- The law of long and of short keys. -/
import Derived.Test.YtklamgdgdamcgaaDoorMi
import Derived.Test.YtklamgdgdamcgaaDoorZero
namespace Go.Proofs.YtklamgdgdamcgaaDoor
open Go.RowKit Go.ChangeShapes Go.WideShapes Go.ChangeAt
set_option linter.unusedSimpArgs false
set_option linter.unusedVariables false

theorem tag_long {key b : List Int} (h : 64 < key.length) : tagL (sumL key) b = tagL key b := by
  have e : blockL (sumL key) = blockL key := by
    have h1 : shortL key = sumL key := by unfold shortL; rw [if_pos h]
    have h2 : shortL (sumL key) = sumL key := by unfold shortL; rw [if_neg (by rw [sumL_len]; omega)]
    unfold blockL
    rw [h1, h2]
  unfold tagL
  rw [e]
theorem tag_short {key b : List Int} (h : key.length ≤ 64) : tagL (key ++ List.replicate (64 - key.length) 0) b = tagL key b := by
  have e : blockL (key ++ List.replicate (64 - key.length) 0) = blockL key := by
    have h1 : shortL key = key := by unfold shortL; rw [if_neg (by omega)]
    have hl : (key ++ List.replicate (64 - key.length) (0 : Int)).length = 64 := by simp; omega
    have h2 : shortL (key ++ List.replicate (64 - key.length) (0 : Int)) = key ++ List.replicate (64 - key.length) 0 := by unfold shortL; rw [if_neg (by omega)]
    unfold blockL
    rw [h1, h2, hl]
    simp
  unfold tagL
  rw [e]

set_option maxHeartbeats 1000000 in
theorem macKeys_walk (A B : Option Addr) (n c m d : Nat) (key b : List Int) (w : World) (hn : key.length = n) (hm : b.length = m) (hx : Rd w A (nums .u8 key)) (hy : Rd w B (nums .u8 b)) (hK : Konst w) :
    Calls Tryd.prog 4 #[.slice A n c, .slice B m d] w (Yes w) := by
  obtain ⟨i0, hi, hz0, hz1, hz2⟩ := info_parts infoByte
  have HX := Lib.hid hx
  have HY := Lib.hid hy
  have HN := Lib.hid hn
  have HM := Lib.hid hm
  have HK := Lib.hid hK
  clear hx hy hn hm hK
  by_cases h1 : 300 < n
  · have q : (300 : Int) < n := by omega
    go_enter Tryd.func4, Tryd.ntmps4
    go_wp2_with (go_at_call 16; refine (live2_any _ HK.out).mono ?_; rintro e w1 ⟨rfl, hb1⟩; have HBX := hb1)
    go_ret
    exact ⟨rfl, hb1⟩
  have q1 : ¬ (300 : Int) < n := by omega
  by_cases h2 : 1000 < m
  · have q : (1000 : Int) < m := by omega
    go_enter Tryd.func4, Tryd.ntmps4
    go_wp2_with (go_at_call 16; refine (live2_any _ HK.out).mono ?_; rintro e w1 ⟨rfl, hb1⟩; have HBX := hb1)
    go_ret
    exact ⟨rfl, hb1⟩
  have q2 : ¬ (1000 : Int) < m := by omega
  have CT := fun W h1 h2 hK => tag_any A B n c m d key b W HN.out HM.out (by omega) (by omega) h1 h2 hK
  have CS := fun A1 A2 c1 c2 W h1 h2 => same_true A1 A2 32 c1 32 c2 (tagL key b) (tagL key b) W rfl (tag_len _ _) (tag_len _ _) h1 h2 (tag_byt _ _)
  by_cases hbig : 64 < n
  · have q3 : (64 : Int) < n := by omega
    have CU := fun W h1 hK => sum_any A n c key W HN.out (by omega) h1 hK
    have CV := fun A1 c1 W h1 h2 hK => tag_any A1 B 32 c1 m d (sumL key) b W (sumL_len _) HM.out (by omega) (by omega) h1 h2 hK
    rw [tag_long (by rw [HN.out]; exact hbig)] at CV
    go_enter Tryd.func4, Tryd.ntmps4
    go_wp2_with (first
      | (go_at_call 16; refine (live2_any _ HK.out).mono ?_; rintro e w1 ⟨rfl, hb1⟩; have HBX := hb1)
      | (go_at_call 17; refine (CU _ (HX.out.below HBX) (HK.out.go HBX)).mono ?_; rintro e w3 ⟨B3, c3, rfl, hc3, hl3, hr3, hb3⟩; rw [sumL_len] at hc3 ⊢; have HR2 := Lib.hid (HR2.out.below hb3); have HBX := bgo HBX hb3)
      | (go_at_call 19; first
          | ((with_reducible refine (CT _ (HX.out.below HBX) (HY.out.below HBX) (HK.out.go HBX)).mono ?_); rintro e w2 ⟨B2, c2, rfl, hc2, hl2, hr2, hb2⟩; rw [tag_len] at hc2 ⊢; have HR2 := Lib.hid hr2; have HBX := bgo HBX hb2)
          | ((with_reducible refine (CV (some ⟨B3, 0, none⟩) c3 _ hr3 (HY.out.below HBX) (HK.out.go HBX)).mono ?_); rintro e w4 ⟨B4, c4, rfl, hc4, hl4, hr4, hb4⟩; rw [tag_len] at hc4 ⊢; have HR2 := Lib.hid (HR2.out.below hb4); have HBX := bgo HBX hb4))
      | (go_at_call 18; refine (CS _ _ _ _ _ HR2.out hr4).mono ?_; rintro e w5 ⟨rfl, rfl⟩))
    go_ret
    exact ⟨rfl, HBX⟩
  · have q3 : ¬ (64 : Int) < n := by omega
    have hl6 : (key ++ List.replicate (64 - n) (0 : Int)).length = 64 := by simp [HN.out]; omega
    have CV := fun A1 c1 W h1 h2 hK => tag_any A1 B 64 c1 m d (key ++ List.replicate (64 - n) 0) b W hl6 HM.out (by omega) (by omega) h1 h2 hK
    have hts := tag_short (key := key) (b := b) (by rw [HN.out]; omega)
    rw [HN.out] at hts
    rw [hts] at CV
    have hnl : (nums .u8 key).length = n := by simp [HN.out]
    have HNL := Lib.hid hnl
    have q4 : (64 : Int) - n = ((64 - n : Nat) : Int) := by omega
    have q5 : n + (64 - n) = 64 := by omega
    have Q4 := Lib.hid q4
    have Q5 := Lib.hid q5
    clear hts hnl hl6 q4 q5
    go_enter Tryd.func4, Tryd.ntmps4
    go_wp2_with (first
      | (go_at_call 16; refine (live2_any _ HK.out).mono ?_; rintro e w1 ⟨rfl, hb1⟩; have HBX := hb1)
      | (go_at_call 19; first
          | ((with_reducible refine (CT _ (HX.out.below HBX) (HY.out.below HBX) (HK.out.go HBX)).mono ?_); rintro e w2 ⟨B2, c2, rfl, hc2, hl2, hr2, hb2⟩; rw [tag_len] at hc2 ⊢; have HR2 := Lib.hid hr2; have HBX := bgo HBX hb2)
          | ((with_reducible refine (CV _ _ _ HR7.out (HY.out.below HBX) (HK.out.go HBX)).mono ?_); rintro e w4 ⟨B4, c4, rfl, hc4, hl4, hr4, hb4⟩; rw [tag_len] at hc4 ⊢; have HR2 := Lib.hid (HR2.out.below hb4); have HBX := bgo HBX hb4))
      | (at_builtin; first
          | (refine append_vs rfl _ _ 23 rfl w2.heap.size 5 i0 (.int .u8 0) 1 Tryd.underlying23 hi hz0 hz1 hz2 rfl (.slice none 0 0) 0 [] rfl ⟨rfl, .inl ⟨rfl, rfl⟩⟩ A n c (nums .u8 key) rfl HNL.out (HX.out.below HBX) nums_u8_one (by unfold maxLen; omega) (by omega) (Nat.le_refl _) ?_; intro v5 w5 hown5 hgrow5; rw [Nat.zero_add, List.nil_append] at hown5; have hb5 : Below w2.heap.size w2 w5 := brf.grown hgrow5 (Nat.le_refl _) (fun k e => by simp [Value.ownBlock] at e); clear hgrow5)
          | (obtain ⟨v7, w7, hr7, hown7, hgrow7⟩ := run_append_zeros (P := Tryd.prog) w5 23 3 23 5 i0 .i64 Tryd.underlying23 Tryd.underlying3 hi hz0 hz1 hz2 w2.heap.size v5 n (64 - n) (nums .u8 key) hown5 (by omega) hb5.size; rw [← Q4.out] at hr7; refine Lib.wpList_append_run _ rfl _ _ _ _ rfl _ _ rfl rfl _ _ hr7 ?_; rw [Q5.out, ← List.map_append] at hown7; obtain ⟨A7, c7, rfl⟩ := own_slice hown7; have HR7 := Lib.hid (Rd.of_own hown7); have hb7 : Below w2.heap.size w2 w7 := keep_below0 hown5 hgrow7 hb5 hb5.size (Nat.le_refl _); have HR2 := Lib.hid (HR2.out.below hb7); have HBX := bgo HBX hb7; clear hr7 hown7 hgrow7 hown5))
      | (go_at_call 18; refine (CS _ _ _ _ _ HR2.out hr4).mono ?_; rintro e w8 ⟨rfl, rfl⟩))
    go_ret
    exact ⟨rfl, HBX⟩

theorem macKeys_of {H : Type} {enc : TypeId × Value → H} (W : World) (base : Nat) (args : Array Value) (ds : List (DataW H)) (p : List MemPlace)
    (hval : ∀ (j : Nat) t v, Tryd.f4.params[j]? = some t → args[j]? = some v → Value.okWide Tryd.prog W .any base t v)
    (hA : DataW.TrodAll enc Tryd.prog W 0 (fun _ => true) true Tryd.f4.params.toList args.toList ds p) (hlt : ∀ x ∈ p, x.block < W.heap.size)
    (hz : (DataW.weightsEach Tryd.prog Tryd.f4.params.toList ds).all (· ≤ reachBytes) = true) (hK : Konst W) : Calls Tryd.prog 4 args W (Yes W) := by
  rw [Tryd.params4] at hA hval hz
  obtain ⟨v0, vs0, d0, ds0, p0, q0, hargs, rfl, rfl, h0, r0⟩ := trodAll_cons hA
  obtain ⟨v1, vs1, d1, ds1, p1, q1, rfl, rfl, rfl, h1, r1⟩ := trodAll_cons r0
  obtain ⟨rfl, rfl, rfl⟩ := trodAll_nil r1
  obtain rfl : args = #[v0, v1] := by cases args; simp_all
  obtain ⟨A, n, c, xs, rfl, hn, hr, hb⟩ := open_bytes h0 (hval 0 _ _ rfl rfl)
  obtain ⟨B, m, d, ys, rfl, hm, hs, hc⟩ := open_bytes h1 (hval 1 _ _ rfl rfl)
  exact macKeys_walk A B n c m d xs ys W hn hm hr hs hK
end Go.Proofs.YtklamgdgdamcgaaDoor
