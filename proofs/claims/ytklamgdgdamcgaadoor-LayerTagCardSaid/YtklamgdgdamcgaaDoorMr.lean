/- The law that a shorter stream is a longer one's beginning. -/
import Derived.Test.YtklamgdgdamcgaaDoorMq
import Derived.Deep.RegionWith
import Derived.Deep.DeepMust
namespace Go.Proofs.YtklamgdgdamcgaaDoor
open Go.RowKit Go.ChangeShapes Go.WideShapes Go.ChangeAt
set_option linter.unusedSimpArgs false
set_option linter.unusedVariables false

theorem flatK_app (key : List Int) (a b : List Nat) : flatK key (a ++ b) = flatK key a ++ flatK key b := by simp [flatK]
theorem range_split (a b : Nat) (h : a ≤ b) : List.range b = List.range a ++ (List.range (b - a)).map (a + ·) := by
  have := List.range_add (n := a) (m := b - a)
  rwa [show a + (b - a) = b by omega] at this
theorem streamL_take (key : List Int) (N M : Nat) (h : N ≤ M) : (streamL key M).take N = streamL key N := by
  unfold streamL
  rw [List.take_take, Nat.min_eq_left h, range_split ((N + 31) / 32) ((M + 31) / 32) (by omega), flatK_app, List.take_append_of_le_length (by rw [flatK_len, List.length_range]; omega)]
theorem streamL_part (key : List Int) (M i : Nat) (h : 32 * i + 32 ≤ M) : ((streamL key M).drop (32 * i)).take 32 = hashK key i := by
  have h1 : (streamL key M).take (32 * (i + 1)) = flatK key (List.range (i + 1)) := by
    rw [streamL_take key _ _ (by omega), streamL, show (32 * (i + 1) + 31) / 32 = i + 1 by omega, List.take_of_length_le (by rw [flatK_len, List.length_range]; exact Nat.le_refl _)]
  have h2 : ((streamL key M).drop (32 * i)).take 32 = ((streamL key M).take (32 * (i + 1))).drop (32 * i) := by
    rw [List.drop_take]
    congr 1
    omega
  rw [h2, h1, List.range_succ, flatK_snoc, List.drop_left' (by rw [flatK_len, List.length_range])]
theorem numL_small (i : Nat) (h : i < 256) : numL i = [0, 0, 0, 0, 0, 0, 0, (i : Int)] := by
  have : ∀ i : Fin 256, numL i = [0, 0, 0, 0, 0, 0, 0, (i : Int)] := by decide +kernel
  exact this ⟨i, h⟩

set_option maxRecDepth 100000 in
set_option maxHeartbeats 4000000 in
theorem macBegins_walk (A : Option Addr) (n c : Nat) (z1 z2 : Int) (key : List Int) (w : World) (hn : key.length = n) (hx : Rd w A (nums .u8 key)) (hK : Konst w) :
    Calls Tryd.prog 6 #[.slice A n c, .int .i64 z1, .int .i64 z2] w (Yes w) := by
  obtain ⟨i0, hi, hz0, hz1, hz2⟩ := info_parts infoByte
  have HX := Lib.hid hx
  have HN := Lib.hid hn
  have HK := Lib.hid hK
  clear hx hn hK
  by_cases h1 : 300 < n
  · have q : (300 : Int) < n := by omega
    go_enter Tryd.func6, Tryd.ntmps6
    go_wp2_with (go_at_call 16; refine (live2_any _ HK.out).mono ?_; rintro e w1 ⟨rfl, hb1⟩; have HBX := hb1)
    go_ret
    exact ⟨rfl, hb1⟩
  have q1 : ¬ (300 : Int) < n := by omega
  by_cases h2 : z1 < 0
  · skip
    go_enter Tryd.func6, Tryd.ntmps6
    go_wp2_with (go_at_call 16; refine (live2_any _ HK.out).mono ?_; rintro e w1 ⟨rfl, hb1⟩; have HBX := hb1)
    go_ret
    exact ⟨rfl, hb1⟩
  by_cases h3 : z2 < z1
  · skip
    go_enter Tryd.func6, Tryd.ntmps6
    go_wp2_with (go_at_call 16; refine (live2_any _ HK.out).mono ?_; rintro e w1 ⟨rfl, hb1⟩; have HBX := hb1)
    go_ret
    exact ⟨rfl, hb1⟩
  by_cases h4 : 1000 < z2
  · skip
    go_enter Tryd.func6, Tryd.ntmps6
    go_wp2_with (go_at_call 16; refine (live2_any _ HK.out).mono ?_; rintro e w1 ⟨rfl, hb1⟩; have HBX := hb1)
    go_ret
    exact ⟨rfl, hb1⟩
  obtain ⟨N, rfl⟩ := Int.eq_ofNat_of_zero_le (show 0 ≤ z1 by omega)
  obtain ⟨M, rfl⟩ := Int.eq_ofNat_of_zero_le (show 0 ≤ z2 by omega)
  have hNM : N ≤ M := by omega
  have hM : M ≤ 1000 := by omega
  have CA := fun W h1 hK => stream_any A n c N key W HN.out (by omega) (by omega) h1 hK
  have CB := fun W h1 hK => stream_any A n c M key W HN.out (by omega) (by omega) h1 hK
  have CS1 := fun A1 A2 c1 c2 W h1 h2 => same_true A1 A2 N c1 N c2 (streamL key N) (streamL key N) W rfl (streamL_len _ _) (streamL_len _ _) h1 h2 (streamL_byt _ _)
  have htk := streamL_take key N M hNM
  have HTK := Lib.hid htk
  have hnl : (nums .u8 key).length = n := by simp [HN.out]
  have HNL := Lib.hid hnl
  clear htk hnl
  go_enter Tryd.func6, Tryd.ntmps6
  go_wp2_with (first
    | (go_at_call 16; refine (live2_any _ HK.out).mono ?_; rintro e w1 ⟨rfl, hb1⟩; have HBX := hb1)
    | (go_at_call 23; first
        | ((with_reducible refine (CA _ (HX.out.below HBX) (HK.out.go HBX)).mono ?_); rintro e w2 ⟨B2, c2, he, hc2, hl2, hown2, hb2⟩; rw [streamL_len] at he hown2 hc2; subst he; have HR2 := Lib.hid (Rd.of_own hown2); clear hown2; have HBX := bgo HBX hb2)
        | ((with_reducible refine (CB _ (HX.out.below HBX) (HK.out.go HBX)).mono ?_); rintro e w3 ⟨B3, c3, he, hc3, hl3, hown3, hb3⟩; rw [streamL_len] at he hown3 hc3; subst he; have HR3 := Lib.hid (Rd.of_own hown3); clear hown3; have HR2 := Lib.hid (HR2.out.below hb3); have HBX := bgo HBX hb3; have q9 : (N : Int) ≤ c3 := (by omega); have hr4 := HR3.out.takeK N; rw [HTK.out] at hr4; have HR4 := Lib.hid hr4; clear hr4))
    | (go_at_call 18; refine (CS1 _ _ _ _ _ HR2.out HR4.out).mono ?_; rintro e w4 ⟨rfl, rfl⟩))
  have HB0 := Lib.hid HBX
  have hsz := HBX.size
  go_loopw [11] (fun i wr => ∃ k : Nat, 32 * k ≤ M + 32 ∧ k ≤ 40 ∧ i = .int .i64 k ∧ Below w3.heap.size w3 wr) (fun i _ => 50 - (intOf i).toNat)
  case atStart => exact ⟨0, by omega, by omega, rfl, Below.refl _ _⟩
  case round =>
    obtain ⟨k, hk, hk40, rfl, hb⟩ := hrel
    by_cases hlt : 32 * k + 32 ≤ M
    · have q2 : (32 : Int) * k + 32 ≤ M := by omega
      have k0 : (0 : Int) ≤ k := by omega
      have k1 : (k : Int) ≤ 31 := by omega
      have hw1 : IntKind.i64.wrap ((32 : Int) * k) = (32 : Int) * k := IntWalk.i64_in _ (by omega)
      have hw2 : IntKind.i64.wrap ((32 : Int) * k + 32) = (32 : Int) * k + 32 := IntWalk.i64_in _ (by omega)
      have ht1 : ((32 : Int) * k).toNat = 32 * k := by omega
      have ht2 : ((32 : Int) * k + 32).toNat = 32 * k + 32 := by omega
      have ht3 : (0 : Int) ≤ (32 : Int) * k := by omega
      have ht4 : (32 : Int) * k ≤ (32 : Int) * k + 32 := by omega
      have ht5 : (32 : Int) * k + 32 ≤ c3 := by omega
      have ht6 : 32 * k + 32 - 32 * k = 32 := by omega
      have hw3 : wrap64 ((32 : Int) * k) = (32 : Int) * k := IntWalk.wrap64_in _ (by omega)
      have hw5 : IntKind.u8.wrap (k : Int) = k := IntWalk.u8_in _ (by omega)
      have hbw : Below w.heap.size w wr := HB0.out.trans (hb.mono hsz)
      have HW := Lib.hid hbw
      have hr5 := (HR3.out.below hb).part (32 * k) 32
      rw [streamL_part key M k hlt, Nat.zero_add] at hr5
      have HR5 := Lib.hid hr5
      have hlm : (key ++ numL k).length = n + 8 := by rw [List.length_append, HN.out, numL_len]
      have CU := fun A1 c1 W h1 hK => sum_any A1 (n + 8) c1 (key ++ numL k) W hlm (by omega) h1 hK
      have hhk : sumL (key ++ numL k) = hashK key k := rfl
      rw [hhk] at CU
      have CS2 := fun A1 A2 c1 c2 W h1 h2 => same_true A1 A2 32 c1 32 c2 (hashK key k) (hashK key k) W rfl (hashK_len _ _) (hashK_len _ _) h1 h2 (sumL_byt _)
      have hns := numL_small k (by omega)
      have HNS := Lib.hid hns
      have hcap : ¬ c3 = 32 * k := by omega
      have hle : 32 * k + 32 ≤ c3 := by omega
      clear hbw hr5 hlm hhk hns
      go_upto_region 13 with (at_builtin; first
        | (refine append_vs rfl _ _ 23 rfl wr.heap.size 5 i0 (.int .u8 0) 1 Tryd.underlying23 hi hz0 hz1 hz2 rfl (.slice none 0 0) 0 [] rfl ⟨rfl, .inl ⟨rfl, rfl⟩⟩ A n c (nums .u8 key) rfl HNL.out (HX.out.below HW.out) nums_u8_one (by unfold maxLen; omega) (by omega) (Nat.le_refl _) ?_; intro v5 w5 hown5 hgrow5; rw [Nat.zero_add, List.nil_append] at hown5; have hb5 : Below wr.heap.size wr w5 := brf.grown hgrow5 (Nat.le_refl _) (fun k e => by simp [Value.ownBlock] at e); clear hgrow5)
        | (refine append_vs rfl _ _ 23 rfl wr.heap.size 5 i0 (.int .u8 0) 1 Tryd.underlying23 hi hz0 hz1 hz2 rfl v5 n (nums .u8 key) rfl (hown5.alloc _) (some ⟨w5.heap.size, 0, none⟩) 8 8 (nums .u8 [0, 0, 0, 0, 0, 0, 0, (k : Int)]) rfl rfl (rd_new w5 [0, 0, 0, 0, 0, 0, 0, (k : Int)] _) nums_u8_one (by unfold maxLen; omega) (by omega) (by rw [World.size_alloc]; have := hb5.size; omega) ?_; intro v6 w6 hown6 hgrow6; have hb6 : Below wr.heap.size wr w6 := keep_below hown5 hgrow6 hb5 hb5.size (Nat.le_refl _); obtain ⟨A6, c6, rfl⟩ := own_slice hown6; rw [← List.map_append, ← HNS.out] at hown6; have HR6 := Lib.hid (Rd.of_own hown6); clear hgrow6 hown6 hown5))
      have HBY := bdr (bgo HW.out hb6)
      have HR7 := Lib.hid ((HR5.out.below hb6).below (bdr (brf (w := w6))))
      have HR9 := Lib.hid (HR6.out.below (bdr (brf (w := w6))))
      have hb36 := bgo hb hb6
      go_region_with (first
        | (go_at_call 17; go_must (refine (CU A6 c6 _ HR9.out (HK.out.go HBY)).mono ?_; rintro e w7 ⟨B7, c7, rfl, hc7, hl7, hr7, hb7⟩; rw [hashK_len] at hc7 ⊢; have HBZ := bgo HBY hb7; have HR8 := Lib.hid (HR7.out.below hb7)))
        | (go_at_call 18; go_must (refine (CS2 _ _ _ _ _ HR8.out hr7).mono ?_; rintro e w8 ⟨rfl, rfl⟩)))
      go_wp2_with fail
      exact ⟨⟨k + 1, by omega, by omega, by congr 1, bgo (bdr hb36) hb7⟩, by show 50 - ((k : Int) + 1).toNat < 50 - (k : Int).toNat; omega⟩
    · have q2 : ¬ (32 : Int) * k + 32 ≤ M := by omega
      have k0 : (0 : Int) ≤ k := by omega
      have k1 : (k : Int) ≤ 40 := by omega
      go_wp2_with fail
      go_ret
      exact ⟨rfl, HB0.out.trans (hb.mono hsz)⟩

theorem macBegins_of {H : Type} {enc : TypeId × Value → H} (W : World) (base : Nat) (args : Array Value) (ds : List (DataW H)) (p : List MemPlace)
    (hval : ∀ (j : Nat) t v, Tryd.f6.params[j]? = some t → args[j]? = some v → Value.okWide Tryd.prog W .any base t v)
    (hA : DataW.TrodAll enc Tryd.prog W 0 (fun _ => true) true Tryd.f6.params.toList args.toList ds p) (hlt : ∀ x ∈ p, x.block < W.heap.size)
    (hz : (DataW.weightsEach Tryd.prog Tryd.f6.params.toList ds).all (· ≤ reachBytes) = true) (hK : Konst W) : Calls Tryd.prog 6 args W (Yes W) := by
  rw [Tryd.params6] at hA hval hz
  obtain ⟨v0, vs0, d0, ds0, p0, q0, hargs, rfl, rfl, h0, r0⟩ := trodAll_cons hA
  obtain ⟨v1, vs1, d1, ds1, p1, q1, rfl, rfl, rfl, h1, r1⟩ := trodAll_cons r0
  obtain ⟨v2, vs2, d2, ds2, p2, q2, rfl, rfl, rfl, h2, r2⟩ := trodAll_cons r1
  obtain ⟨rfl, rfl, rfl⟩ := trodAll_nil r2
  obtain rfl : args = #[v0, v1, v2] := by cases args; simp_all
  obtain ⟨A, n, c, xs, rfl, hn, hr, hb⟩ := open_bytes h0 (hval 0 _ _ rfl rfl)
  obtain ⟨z1, rfl, rfl, rfl, wz⟩ := open_int Tryd.underlying3 (hval 1 _ _ rfl rfl) h1
  obtain ⟨z2, rfl, rfl, rfl, wy⟩ := open_int Tryd.underlying3 (hval 2 _ _ rfl rfl) h2
  exact macBegins_walk A n c z1 z2 xs W hn hr hK
end Go.Proofs.YtklamgdgdamcgaaDoor
