/- Of any configuration that may be any keys. -/
import Derived.Test.YtgclcpopibjocaaDoorKk
import Derived.Test.YtgclcpopibjocaaDoorLb
import Derived.Deep.RegionHeld3
import Derived.Deep.DeepMust
namespace Go.Proofs.YtgclcpopibjocaaDoor
open Go.RowKit Go.ChangeShapes Go.WideShapes Go.ChangeAt Go.Joins Go.Deep
set_option linter.unusedSimpArgs false
set_option linter.unusedVariables false
set_option maxRecDepth 100000

/-- A configuration that was read: its form, its seed. -/
theorem open_cfgS {H : Type} {enc : TypeId × Value → H} {W : World} {base b : Nat} {r : Reach} {v : Value} {d : DataW H} {p : List MemPlace} {spare : Nat → Bool} {held : Bool}
    (hv : Value.okWide Tryd.prog W r base 25 v) (h : DataW.Trod enc Tryd.prog W b spare held 25 v d p) :
    ∃ (a : Option Addr) (m c : Nat) (seed : List Int) (ch st cl qu clo lo ag wi ro se : Int), v = cfgV (.slice a m c) ch st cl qu clo lo ag wi ro se ∧ seed.length = m ∧ Rd W a (nums .u8 seed) ∧ Byt seed := by
  obtain ⟨v0, v1, v2, v3, v4, v5, v6, v7, v8, v9, v10, y0, y1, y2, y3, y4, y5, y6, y7, y8, y9, y10, n, rfl, rfl, rfl, h0, h1, h2, h3, h4, h5, h6, h7, h8, h9, h10⟩ :=
    open_aggN11 Tryd.underlying25 (by kernel_rfl) (by kernel_rfl) hv h
  obtain ⟨a, m, c, seed, rfl, _, _, hl, hr, hw, _⟩ := open_row Tryd.underlying22 Tryd.underlying5 (by kernel_rfl) h0
  obtain ⟨ch, rfl, _⟩ := int_of_trod Tryd.underlying3 h1
  obtain ⟨st, rfl, _⟩ := int_of_trod Tryd.underlying3 h2
  obtain ⟨cl, rfl, _⟩ := int_of_trod Tryd.underlying3 h3
  obtain ⟨qu, rfl, _⟩ := int_of_trod Tryd.underlying3 h4
  obtain ⟨clo, rfl, _⟩ := int_of_trod Tryd.underlying3 h5
  obtain ⟨lo, rfl, _⟩ := int_of_trod Tryd.underlying3 h6
  obtain ⟨ag, rfl, _⟩ := int_of_trod Tryd.underlying3 h7
  obtain ⟨wi, rfl, _⟩ := int_of_trod Tryd.underlying3 h8
  obtain ⟨ro, rfl, _⟩ := int_of_trod Tryd.underlying23 h9
  obtain ⟨se, rfl, _⟩ := int_of_trod Tryd.underlying23 h10
  refine ⟨a, m, c, seed, ch, st, cl, qu, clo, lo, ag, wi, ro, se, rfl, hl, hr, fun x hx => ?_⟩
  have : (decide ((0 : Int) ≤ x) && decide (x ≤ (255 : Int))) = true := hw x hx
  simpa using this

theorem low8_one {a : Int} (h : 0 ≤ a ∧ a ≤ 255) : low8 [a] = [a] := by
  simp [low8]; omega
theorem low8_two {a b : Int} (h : 0 ≤ a ∧ a ≤ 255) (k : 0 ≤ b ∧ b ≤ 255) : low8 [a, b] = [a, b] := by
  simp [low8]; omega

set_option maxHeartbeats 4000000 in
theorem keyKeys_walk (S : Option Addr) (sn sc : Nat) (seed : List Int) (ch st cl qu clo lo ag wi ro se : Int) (a b : Int) (w : World) (hs : seed.length = sn) (hx : Rd w S (nums .u8 seed)) (hK : Konst w) :
    Calls Tryd.prog 3 #[cfgV (.slice S sn sc) ch st cl qu clo lo ag wi ro se, .int .i64 a, .int .i64 b] w (Yes w) := by
  by_cases ok : okC sn ch st cl qu clo lo ag wi ro se
  · have hsn : sn ≤ 64 := by have := ok.1; omega
    have HX := Lib.hid hx
    have HK := Lib.hid hK
    have C1 := fun W (h : cfgHeld w W (.slice S sn sc) ch st cl qu clo lo ag wi ro se) => kpair_any S sn sc seed ch st cl qu clo lo ag wi ro se W a b hs (by omega) (HX.out.below h.1) (HK.out.go h.1)
    have D1 := fun W (h : cfgHeld w W (.slice S sn sc) ch st cl qu clo lo ag wi ro se) => rpair_any S sn sc seed ch st cl qu clo lo ag wi ro se W a b hs (by omega) (HX.out.below h.1)
    obtain ⟨k1, hk1⟩ : ∃ k, k = tagL seed (1 :: low8 [min a b, max a b]) := ⟨_, rfl⟩
    have l1 : k1.length = 32 := by rw [hk1, tag_len]
    have b1 : Byt k1 := by rw [hk1]; exact tag_byt _ _
    rw [← hk1] at C1 D1
    have E1 := fun A1 A2 c1 c2 W h1 h2 => same_true A1 A2 32 c1 32 c2 k1 k1 W rfl l1 l1 h1 h2 b1
    have L1 := Lib.hid l1
    clear hk1 l1 b1
    have C2 := fun W (h : cfgHeld w W (.slice S sn sc) ch st cl qu clo lo ag wi ro se) => konion_any S sn sc seed ch st cl qu clo lo ag wi ro se W a hs (by omega) (HX.out.below h.1) (HK.out.go h.1)
    have D2 := fun W (h : cfgHeld w W (.slice S sn sc) ch st cl qu clo lo ag wi ro se) => ronion_any S sn sc seed ch st cl qu clo lo ag wi ro se W a hs (by omega) (HX.out.below h.1)
    obtain ⟨k2, hk2⟩ : ∃ k, k = tagL seed (2 :: low8 [a]) := ⟨_, rfl⟩
    have l2 : k2.length = 32 := by rw [hk2, tag_len]
    have b2 : Byt k2 := by rw [hk2]; exact tag_byt _ _
    rw [← hk2] at C2 D2
    have E2 := fun A1 A2 c1 c2 W h1 h2 => same_true A1 A2 32 c1 32 c2 k2 k2 W rfl l2 l2 h1 h2 b2
    have L2 := Lib.hid l2
    clear hk2 l2 b2
    have C3 := fun W (h : cfgHeld w W (.slice S sn sc) ch st cl qu clo lo ag wi ro se) => ksecret_any S sn sc seed ch st cl qu clo lo ag wi ro se W a hs (by omega) (HX.out.below h.1) (HK.out.go h.1)
    have D3 := fun W (h : cfgHeld w W (.slice S sn sc) ch st cl qu clo lo ag wi ro se) => rsecret_any S sn sc seed ch st cl qu clo lo ag wi ro se W a hs (by omega) (HX.out.below h.1)
    obtain ⟨k3, hk3⟩ : ∃ k, k = tagL seed (3 :: low8 [a]) := ⟨_, rfl⟩
    have l3 : k3.length = 32 := by rw [hk3, tag_len]
    have b3 : Byt k3 := by rw [hk3]; exact tag_byt _ _
    rw [← hk3] at C3 D3
    have E3 := fun A1 A2 c1 c2 W h1 h2 => same_true A1 A2 32 c1 32 c2 k3 k3 W rfl l3 l3 h1 h2 b3
    have L3 := Lib.hid l3
    clear hk3 l3 b3
    clear hx hK hs
    have OK := Lib.hid ok
    clear ok
    go_enter Tryd.func3, Tryd.ntmps3
    go_wp2_with fail
    refine (live_any _).mono ?_; rintro e w1 ⟨rfl, hb1⟩
    obtain ⟨hB1, hl1, hc1⟩ := cfgHeld_next cfgHeld_start0 hb1
    clear hb1
    go_wp2_with fail
    refine (rcheck_ok _ OK.out).mono ?_; rintro e w2 ⟨rfl, hb2⟩
    obtain ⟨hB2, hl2, hc2⟩ := cfgHeld_next ⟨hB1, hl1, hc1⟩ hb2
    clear hb2 hB1 hl1 hc1
    go_wp2_with fail
    go_region_held3 (fun x => cfgHeld w x (.slice S sn sc) ch st cl qu clo lo ag wi ro se) (first | assumption | exact ⟨bdr (by assumption), by assumption, by assumption⟩ | exact cfgHeld_next (by assumption) (by assumption))
      (first
        | (go_at_call 17; refine (C1 _ (by assumption)).mono ?_; rintro e x3 ⟨B3, c3, he3, hc3, hl3, hr3, hb3⟩; rw [L1.out] at he3; subst he3; (try have HRa := Lib.hid (HRa.out.below hb3)); (try have HRb := Lib.hid (HRb.out.below hb3)); (try have HRc := Lib.hid (HRc.out.below hb3)); (try have HRd := Lib.hid (HRd.out.below hb3)); (try have HRe := Lib.hid (HRe.out.below hb3)); (try have HRf := Lib.hid (HRf.out.below hb3)); have HRa := Lib.hid hr3; clear hr3)
        | (go_at_call 18; refine (D1 _ (by assumption)).mono ?_; rintro e x4 ⟨B4, c4, he4, hc4, hl4, hr4, hb4⟩; rw [L1.out] at he4; subst he4; (try have HRa := Lib.hid (HRa.out.below hb4)); (try have HRb := Lib.hid (HRb.out.below hb4)); (try have HRc := Lib.hid (HRc.out.below hb4)); (try have HRd := Lib.hid (HRd.out.below hb4)); (try have HRe := Lib.hid (HRe.out.below hb4)); (try have HRf := Lib.hid (HRf.out.below hb4)); have HRb := Lib.hid hr4; clear hr4)
        | (go_at_call 19; refine (C2 _ (by assumption)).mono ?_; rintro e x5 ⟨B5, c5, he5, hc5, hl5, hr5, hb5⟩; rw [L2.out] at he5; subst he5; (try have HRa := Lib.hid (HRa.out.below hb5)); (try have HRb := Lib.hid (HRb.out.below hb5)); (try have HRc := Lib.hid (HRc.out.below hb5)); (try have HRd := Lib.hid (HRd.out.below hb5)); (try have HRe := Lib.hid (HRe.out.below hb5)); (try have HRf := Lib.hid (HRf.out.below hb5)); have HRc := Lib.hid hr5; clear hr5)
        | (go_at_call 20; refine (D2 _ (by assumption)).mono ?_; rintro e x6 ⟨B6, c6, he6, hc6, hl6, hr6, hb6⟩; rw [L2.out] at he6; subst he6; (try have HRa := Lib.hid (HRa.out.below hb6)); (try have HRb := Lib.hid (HRb.out.below hb6)); (try have HRc := Lib.hid (HRc.out.below hb6)); (try have HRd := Lib.hid (HRd.out.below hb6)); (try have HRe := Lib.hid (HRe.out.below hb6)); (try have HRf := Lib.hid (HRf.out.below hb6)); have HRd := Lib.hid hr6; clear hr6)
        | (go_at_call 21; refine (C3 _ (by assumption)).mono ?_; rintro e x7 ⟨B7, c7, he7, hc7, hl7, hr7, hb7⟩; rw [L3.out] at he7; subst he7; (try have HRa := Lib.hid (HRa.out.below hb7)); (try have HRb := Lib.hid (HRb.out.below hb7)); (try have HRc := Lib.hid (HRc.out.below hb7)); (try have HRd := Lib.hid (HRd.out.below hb7)); (try have HRe := Lib.hid (HRe.out.below hb7)); (try have HRf := Lib.hid (HRf.out.below hb7)); have HRe := Lib.hid hr7; clear hr7)
        | (go_at_call 22; refine (D3 _ (by assumption)).mono ?_; rintro e x8 ⟨B8, c8, he8, hc8, hl8, hr8, hb8⟩; rw [L3.out] at he8; subst he8; (try have HRa := Lib.hid (HRa.out.below hb8)); (try have HRb := Lib.hid (HRb.out.below hb8)); (try have HRc := Lib.hid (HRc.out.below hb8)); (try have HRd := Lib.hid (HRd.out.below hb8)); (try have HRe := Lib.hid (HRe.out.below hb8)); (try have HRf := Lib.hid (HRf.out.below hb8)); have HRf := Lib.hid hr8; clear hr8)
        | (go_at_call 16; first | ((with_reducible refine (E3 _ _ _ _ _ HRe.out HRf.out).mono ?_); rintro e w10 ⟨rfl, rfl⟩) | ((with_reducible refine (E2 _ _ _ _ _ HRc.out HRd.out).mono ?_); rintro e w10 ⟨rfl, rfl⟩) | ((with_reducible refine (E1 _ _ _ _ _ HRa.out HRb.out).mono ?_); rintro e w10 ⟨rfl, rfl⟩)))
    all_goals
      go_wp2
      go_ret
      rename_i hk
      exact ⟨rfl, hk.1⟩
  · skip
    have OK := Lib.hid ok
    clear ok
    go_enter Tryd.func3, Tryd.ntmps3
    go_wp2_with fail
    refine (live_any _).mono ?_; rintro e w1 ⟨rfl, hb1⟩
    obtain ⟨hB1, hl1, hc1⟩ := cfgHeld_next cfgHeld_start0 hb1
    clear hb1
    go_wp2_with fail
    refine (rcheck_bad _ OK.out).mono ?_; rintro e w2 ⟨rfl, hb2⟩
    obtain ⟨hB2, hl2, hc2⟩ := cfgHeld_next ⟨hB1, hl1, hc1⟩ hb2
    clear hb2 hB1 hl1 hc1
    go_wp2_with fail
    go_ret
    exact ⟨rfl, hB2⟩

theorem keyKeys_of {H : Type} {enc : TypeId × Value → H} (W : World) (base : Nat) (args : Array Value) (ds : List (DataW H)) (p : List MemPlace)
    (hval : ∀ (j : Nat) t v, Tryd.f3.params[j]? = some t → args[j]? = some v → Value.okWide Tryd.prog W .any base t v)
    (hA : DataW.TrodAll enc Tryd.prog W 0 (fun _ => true) true Tryd.f3.params.toList args.toList ds p) (hlt : ∀ x ∈ p, x.block < W.heap.size)
    (hz : (DataW.weightsEach Tryd.prog Tryd.f3.params.toList ds).all (· ≤ reachBytes) = true) (hK : Konst W) : Calls Tryd.prog 3 args W (Yes W) := by
  rw [Tryd.params3] at hA hval hz
  obtain ⟨v0, vs0, d0, ds0, p0, q0, hargs, rfl, rfl, h0, r0⟩ := trodAll_cons hA
  obtain ⟨v1, vs1, d1, ds1, p1, q1, rfl, rfl, rfl, h1, r1⟩ := trodAll_cons r0
  obtain ⟨v2, vs2, d2, ds2, p2, q2, rfl, rfl, rfl, h2, r2⟩ := trodAll_cons r1
  obtain ⟨rfl, rfl, rfl⟩ := trodAll_nil r2
  obtain rfl : args = #[v0, v1, v2] := by cases args; simp_all
  obtain ⟨S, sn, sc, seed, ch, st, cl, qu, clo, lo, ag, wi, ro, se, rfl, hs, hr, hb⟩ := open_cfgS (hval 0 _ _ rfl rfl) h0
  obtain ⟨a, rfl, rfl, rfl, wz1⟩ := open_int Tryd.underlying3 (hval 1 _ _ rfl rfl) h1
  obtain ⟨b, rfl, rfl, rfl, wz2⟩ := open_int Tryd.underlying3 (hval 2 _ _ rfl rfl) h2
  exact keyKeys_walk S sn sc seed ch st cl qu clo lo ag wi ro se a b W hs hr hK
end Go.Proofs.YtgclcpopibjocaaDoor
