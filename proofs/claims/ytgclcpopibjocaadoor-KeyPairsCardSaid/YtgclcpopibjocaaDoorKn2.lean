/- A pair's key does not hang on who is named first; all keys are tags by the seed. -/
import Derived.Test.YtgclcpopibjocaaDoorKm
import Derived.Test.YtgclcpopibjocaaDoorLb
import Derived.Deep.RegionHeld3
import Derived.Deep.DeepMust
namespace Go.Proofs.YtgclcpopibjocaaDoor
open Go.RowKit Go.ChangeShapes Go.WideShapes Go.ChangeAt Go.Joins Go.Deep
set_option linter.unusedSimpArgs false
set_option linter.unusedVariables false
set_option maxRecDepth 100000

set_option maxHeartbeats 4000000 in
theorem keyPairs_gt (S : Option Addr) (sn sc : Nat) (seed : List Int) (ch st cl qu clo lo ag wi ro se : Int) (a b : Int) (w : World) (hs : seed.length = sn) (hx : Rd w S (nums .u8 seed)) (hK : Konst w) (ha : 0 ≤ a ∧ a ≤ 255) (hb : 0 ≤ b ∧ b ≤ 255) (hab : b < a) (ok : okC sn ch st cl qu clo lo ag wi ro se) :
    Calls Tryd.prog 4 #[cfgV (.slice S sn sc) ch st cl qu clo lo ag wi ro se, .int .u8 a, .int .u8 b] w (Yes w) := by
    have hsn : sn ≤ 64 := by have := ok.1; omega
    have a0 := ha.1
    have a1 := ha.2
    have b0 := hb.1
    have b1 := hb.2
    have HX := Lib.hid hx
    have HK := Lib.hid hK
    have C1 := fun W (h : cfgHeld w W (.slice S sn sc) ch st cl qu clo lo ag wi ro se) => kpair_any S sn sc seed ch st cl qu clo lo ag wi ro se W a b hs (by omega) (HX.out.below h.1) (HK.out.go h.1)
    have C2 := fun W (h : cfgHeld w W (.slice S sn sc) ch st cl qu clo lo ag wi ro se) => kpair_any S sn sc seed ch st cl qu clo lo ag wi ro se W b a hs (by omega) (HX.out.below h.1) (HK.out.go h.1)
    have C3 := fun W (h : cfgHeld w W (.slice S sn sc) ch st cl qu clo lo ag wi ro se) => konion_any S sn sc seed ch st cl qu clo lo ag wi ro se W a hs (by omega) (HX.out.below h.1) (HK.out.go h.1)
    have C4 := fun W (h : cfgHeld w W (.slice S sn sc) ch st cl qu clo lo ag wi ro se) => ksecret_any S sn sc seed ch st cl qu clo lo ag wi ro se W a hs (by omega) (HX.out.below h.1) (HK.out.go h.1)
    have e1 : tagL seed (1 :: low8 [min a b, max a b]) = tagL seed [1, b, a] := by
      rw [show min a b = b by omega, show max a b = a by omega, low8_two (by omega) (by omega)]
    have e2 : tagL seed (1 :: low8 [min b a, max b a]) = tagL seed [1, b, a] := by
      rw [show min b a = b by omega, show max b a = a by omega, low8_two (by omega) (by omega)]
    rw [e1] at C1
    rw [e2] at C2
    rw [low8_one ha] at C3 C4
    have T1 := fun V B0 (h : cfgHeld w V (.slice S sn sc) ch st cl qu clo lo ag wi ro se) hr => tag_any S (some ⟨B0, 0, none⟩) sn sc 3 3 seed [1, b, a] V hs rfl (by omega) (by omega) (HX.out.below h.1) hr (HK.out.go h.1)
    have T3 := fun V B0 (h : cfgHeld w V (.slice S sn sc) ch st cl qu clo lo ag wi ro se) hr => tag_any S (some ⟨B0, 0, none⟩) sn sc 2 2 seed [2, a] V hs rfl (by omega) (by omega) (HX.out.below h.1) hr (HK.out.go h.1)
    have T4 := fun V B0 (h : cfgHeld w V (.slice S sn sc) ch st cl qu clo lo ag wi ro se) hr => tag_any S (some ⟨B0, 0, none⟩) sn sc 2 2 seed [3, a] V hs rfl (by omega) (by omega) (HX.out.below h.1) hr (HK.out.go h.1)
    obtain ⟨k1, hk1⟩ : ∃ k, k = tagL seed [1, b, a] := ⟨_, rfl⟩
    have l1 : k1.length = 32 := by rw [hk1, tag_len]
    have bb1 : Byt k1 := by rw [hk1]; exact tag_byt _ _
    rw [← hk1] at C1 T1 C2
    have E1 := fun A1 A2 c1 c2 W h1 h2 => same_true A1 A2 32 c1 32 c2 k1 k1 W rfl l1 l1 h1 h2 bb1
    have L1 := Lib.hid l1
    clear hk1 l1 bb1
    obtain ⟨k3, hk3⟩ : ∃ k, k = tagL seed [2, a] := ⟨_, rfl⟩
    have l3 : k3.length = 32 := by rw [hk3, tag_len]
    have bb3 : Byt k3 := by rw [hk3]; exact tag_byt _ _
    rw [← hk3] at C3 T3
    have E3 := fun A1 A2 c1 c2 W h1 h2 => same_true A1 A2 32 c1 32 c2 k3 k3 W rfl l3 l3 h1 h2 bb3
    have L3 := Lib.hid l3
    clear hk3 l3 bb3
    obtain ⟨k4, hk4⟩ : ∃ k, k = tagL seed [3, a] := ⟨_, rfl⟩
    have l4 : k4.length = 32 := by rw [hk4, tag_len]
    have bb4 : Byt k4 := by rw [hk4]; exact tag_byt _ _
    rw [← hk4] at C4 T4
    have E4 := fun A1 A2 c1 c2 W h1 h2 => same_true A1 A2 32 c1 32 c2 k4 k4 W rfl l4 l4 h1 h2 bb4
    have L4 := Lib.hid l4
    clear hk4 l4 bb4
    clear hx hK hs e1 e2 ha hb
    have nif : (if a < b then b else a) = a := if_neg (by omega)
    have wa_ : IntKind.i64.wrap a = a := IntWalk.i64_in _ (by omega)
    have wb_ : IntKind.i64.wrap b = b := IntWalk.i64_in _ (by omega)
    have OK := Lib.hid ok
    clear ok
    go_enter Tryd.func4, Tryd.ntmps4
    go_wp2_with fail
    refine (live_any _).mono ?_; rintro e w1 ⟨rfl, hb1⟩
    obtain ⟨hB1, hl1, hc1⟩ := cfgHeld_next cfgHeld_start0 hb1
    clear hb1
    go_wp2_with fail
    refine (check_ok _ OK.out).mono ?_; rintro e w2 ⟨rfl, hb2⟩
    obtain ⟨hB2, hl2, hc2⟩ := cfgHeld_next ⟨hB1, hl1, hc1⟩ hb2
    clear hb2 hB1 hl1 hc1
    go_wp2_with fail
    refine (C1 _ ⟨hB2, hl2, hc2⟩).mono ?_; rintro e w3 ⟨B3, c3, he, _, _, hr3, hb3⟩; rw [L1.out] at he; subst he
    obtain ⟨hB3, hl3, hc3⟩ := cfgHeld_next ⟨hB2, hl2, hc2⟩ hb3
    have HRk := Lib.hid hr3
    clear hb3 hB2 hl2 hc2 hr3
    go_wp2_with fail
    have HRk := Lib.hid (HRk.out.below (bdr brf))
    go_region_held3 (fun x => cfgHeld w x (.slice S sn sc) ch st cl qu clo lo ag wi ro se) (first | assumption | exact ⟨bdr (by assumption), by assumption, by assumption⟩ | exact cfgHeld_next (by assumption) (by assumption) | exact cfgHeld_next (by assumption) (bal brf _))
      (first
        | (go_at_call 17; refine (C2 _ (by assumption)).mono ?_; rintro e x4 ⟨B4, c4, he4, hc4, hl4, hr4, hb4⟩; rw [L1.out] at he4; subst he4; (try have HRk := Lib.hid (HRk.out.below hb4)); (try have HRa := Lib.hid (HRa.out.below hb4)); (try have HRb := Lib.hid (HRb.out.below hb4)); (try have HRc := Lib.hid (HRc.out.below hb4)); (try have HRd := Lib.hid (HRd.out.below hb4)); (try have HRe := Lib.hid (HRe.out.below hb4)); have HRa := Lib.hid hr4; clear hr4)
        | (go_at_call 19; refine (C3 _ (by assumption)).mono ?_; rintro e x5 ⟨B5, c5, he5, hc5, hl5, hr5, hb5⟩; rw [L3.out] at he5; subst he5; (try have HRk := Lib.hid (HRk.out.below hb5)); (try have HRa := Lib.hid (HRa.out.below hb5)); (try have HRb := Lib.hid (HRb.out.below hb5)); (try have HRc := Lib.hid (HRc.out.below hb5)); (try have HRd := Lib.hid (HRd.out.below hb5)); (try have HRe := Lib.hid (HRe.out.below hb5)); have HRb := Lib.hid hr5; clear hr5)
        | (go_at_call 21; refine (C4 _ (by assumption)).mono ?_; rintro e x6 ⟨B6, c6, he6, hc6, hl6, hr6, hb6⟩; rw [L4.out] at he6; subst he6; (try have HRk := Lib.hid (HRk.out.below hb6)); (try have HRa := Lib.hid (HRa.out.below hb6)); (try have HRb := Lib.hid (HRb.out.below hb6)); (try have HRc := Lib.hid (HRc.out.below hb6)); (try have HRd := Lib.hid (HRd.out.below hb6)); (try have HRe := Lib.hid (HRe.out.below hb6)); have HRc := Lib.hid hr6; clear hr6)
        | (go_at_call 24; first
            | ((with_reducible refine (T1 _ _ ?_ ?_).mono ?_); (· assumption); (· first | exact rd_new _ _ _ | exact (rd_new _ _ _).below hb4); rintro e x7 ⟨B7, c7, he7, hc7, hl7, hr7, hb7⟩; rw [L1.out] at he7; subst he7; (try have HRk := Lib.hid ((HRk.out.below (bal brf _)).below hb7)); (try have HRk := Lib.hid (HRk.out.below hb7)); (try have HRa := Lib.hid ((HRa.out.below (bal brf _)).below hb7)); (try have HRa := Lib.hid (HRa.out.below hb7)); (try have HRb := Lib.hid ((HRb.out.below (bal brf _)).below hb7)); (try have HRb := Lib.hid (HRb.out.below hb7)); (try have HRc := Lib.hid ((HRc.out.below (bal brf _)).below hb7)); (try have HRc := Lib.hid (HRc.out.below hb7)); (try have HRd := Lib.hid ((HRd.out.below (bal brf _)).below hb7)); (try have HRd := Lib.hid (HRd.out.below hb7)); (try have HRe := Lib.hid ((HRe.out.below (bal brf _)).below hb7)); (try have HRe := Lib.hid (HRe.out.below hb7)); have HRd := Lib.hid hr7; clear hr7)
            | ((with_reducible refine (T3 _ _ ?_ ?_).mono ?_); (· assumption); (· first | exact rd_new _ _ _ | exact (rd_new _ _ _).below hb5); rintro e x8 ⟨B8, c8, he8, hc8, hl8, hr8, hb8⟩; rw [L3.out] at he8; subst he8; (try have HRk := Lib.hid ((HRk.out.below (bal brf _)).below hb8)); (try have HRk := Lib.hid (HRk.out.below hb8)); (try have HRa := Lib.hid ((HRa.out.below (bal brf _)).below hb8)); (try have HRa := Lib.hid (HRa.out.below hb8)); (try have HRb := Lib.hid ((HRb.out.below (bal brf _)).below hb8)); (try have HRb := Lib.hid (HRb.out.below hb8)); (try have HRc := Lib.hid ((HRc.out.below (bal brf _)).below hb8)); (try have HRc := Lib.hid (HRc.out.below hb8)); (try have HRd := Lib.hid ((HRd.out.below (bal brf _)).below hb8)); (try have HRd := Lib.hid (HRd.out.below hb8)); (try have HRe := Lib.hid ((HRe.out.below (bal brf _)).below hb8)); (try have HRe := Lib.hid (HRe.out.below hb8)); have HRe := Lib.hid hr8; clear hr8)
            | ((with_reducible refine (T4 _ _ ?_ ?_).mono ?_); (· assumption); (· first | exact rd_new _ _ _ | exact (rd_new _ _ _).below hb6); rintro e x9 ⟨B9, c9, he9, hc9, hl9, hr9, hb9⟩; rw [L4.out] at he9; subst he9; (try have HRk := Lib.hid ((HRk.out.below (bal brf _)).below hb9)); (try have HRk := Lib.hid (HRk.out.below hb9)); (try have HRa := Lib.hid ((HRa.out.below (bal brf _)).below hb9)); (try have HRa := Lib.hid (HRa.out.below hb9)); (try have HRb := Lib.hid ((HRb.out.below (bal brf _)).below hb9)); (try have HRb := Lib.hid (HRb.out.below hb9)); (try have HRc := Lib.hid ((HRc.out.below (bal brf _)).below hb9)); (try have HRc := Lib.hid (HRc.out.below hb9)); (try have HRd := Lib.hid ((HRd.out.below (bal brf _)).below hb9)); (try have HRd := Lib.hid (HRd.out.below hb9)); (try have HRe := Lib.hid ((HRe.out.below (bal brf _)).below hb9)); (try have HRe := Lib.hid (HRe.out.below hb9)); have HRe := Lib.hid hr9; clear hr9))
        | (go_at_call 16; first | ((with_reducible refine (E4 _ _ _ _ _ HRc.out HRe.out).mono ?_); rintro e w10 ⟨rfl, rfl⟩) | ((with_reducible refine (E3 _ _ _ _ _ HRb.out HRe.out).mono ?_); rintro e w10 ⟨rfl, rfl⟩) | ((with_reducible refine (E1 _ _ _ _ _ HRk.out HRd.out).mono ?_); rintro e w10 ⟨rfl, rfl⟩) | ((with_reducible refine (E1 _ _ _ _ _ HRk.out HRa.out).mono ?_); rintro e w10 ⟨rfl, rfl⟩)))
    all_goals
      go_wp2
      go_ret
      rename_i hk
      exact ⟨rfl, hk.1⟩

end Go.Proofs.YtgclcpopibjocaaDoor
