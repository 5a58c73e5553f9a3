/- The law that what was closed is opened, and what was opened is closed so. -/
import Derived.Test.YtklamgdgdamcgaaDoorLf
import Derived.Deep.RegionWith
import Derived.Deep.DeepMust
namespace Go.Proofs.YtklamgdgdamcgaaDoor
open Go.RowKit Go.ChangeShapes Go.WideShapes Go.ChangeAt
set_option linter.unusedSimpArgs false
set_option linter.unusedVariables false

set_option maxHeartbeats 2000000 in
theorem layerBack_walk (A B C D : Option Addr) (n c m d p f t g : Nat) (server nonce plain b : List Int) (w : World) (hn : server.length = n) (hm : nonce.length = m) (hp : plain.length = p) (ht : b.length = t) (htg : t ≤ g) (hx : Rd w A (nums .u8 server)) (hy : Rd w B (nums .u8 nonce)) (hz : Rd w C (nums .u8 plain)) (hu : Rd w D (nums .u8 b)) (by_ : Byt nonce) (bz : Byt plain) (bb : Byt b) (hK : Konst w) :
    Calls Tryd.prog 14 #[.slice A n c, .slice B m d, .slice C p f, .slice D t g] w (Yes w) := by
  have HX := Lib.hid hx
  have HY := Lib.hid hy
  have HZ := Lib.hid hz
  have HU := Lib.hid hu
  have HN := Lib.hid hn
  have HM := Lib.hid hm
  have HP := Lib.hid hp
  have HT := Lib.hid ht
  have HK := Lib.hid hK
  have HBB := Lib.hid bb
  have HBZ := Lib.hid bz
  have hbs := sealL_byt (server := server) by_ bz
  have HBS := Lib.hid hbs
  have hnl : (nums .u8 b).length = t := by simp [ht]
  have HNL := Lib.hid hnl
  clear hx hy hz hu hn hm hp ht hK by_ bz bb hbs hnl
  by_cases h1 : 200 < n
  · skip
    have q : (200 : Int) < n := by omega
    go_enter Tryd.func14, Tryd.ntmps14
    go_wp2_with (go_at_call 36; refine (live8_any _ HK.out).mono ?_; rintro e w1 ⟨rfl, hb1⟩; have HBX := hb1)
    go_ret
    exact ⟨rfl, HBX⟩
  have q1 : ¬ (200 : Int) < n := by omega
  by_cases h2 : 100 < m
  · skip
    have q : (100 : Int) < m := by omega
    go_enter Tryd.func14, Tryd.ntmps14
    go_wp2_with (go_at_call 36; refine (live8_any _ HK.out).mono ?_; rintro e w1 ⟨rfl, hb1⟩; have HBX := hb1)
    go_ret
    exact ⟨rfl, HBX⟩
  have q2 : ¬ (100 : Int) < m := by omega
  by_cases h3 : 700 < p
  · skip
    have q : (700 : Int) < p := by omega
    go_enter Tryd.func14, Tryd.ntmps14
    go_wp2_with (go_at_call 36; refine (live8_any _ HK.out).mono ?_; rintro e w1 ⟨rfl, hb1⟩; have HBX := hb1)
    go_ret
    exact ⟨rfl, HBX⟩
  have q3 : ¬ (700 : Int) < p := by omega
  by_cases h4 : 700 < t
  · skip
    have q : (700 : Int) < t := by omega
    go_enter Tryd.func14, Tryd.ntmps14
    go_wp2_with (go_at_call 36; refine (live8_any _ HK.out).mono ?_; rintro e w1 ⟨rfl, hb1⟩; have HBX := hb1)
    go_ret
    exact ⟨rfl, HBX⟩
  have q4 : ¬ (700 : Int) < t := by omega
  have SP := fun A1 c1 W h1 h2 => same_true A1 C p c1 p f plain plain W rfl HP.out HP.out h1 h2 HBZ.out
  by_cases h16 : m = 16
  · subst h16
    by_cases h48 : t < 48
    · skip
      obtain ⟨M, hM⟩ : ∃ M, M = 16 + p + 32 := ⟨_, rfl⟩
      have w1_ : IntKind.i64.wrap ((p : Int) + 48) = (M : Int) := by rw [show (p : Int) + 48 = M by omega]; exact IntWalk.i64_in _ (by omega)
      have CA := fun W h1 h2 h3 hK => seal_any A B C n c d p f server nonce plain W HN.out HM.out HP.out (by omega) (by omega) h1 h2 h3 hK
      have CK := fun W h1 h2 hK => lkey_any A B n c 16 d server nonce W HN.out HM.out (by omega) (by omega) h1 h2 hK
      have hs : (sealL server nonce plain).length = M := by rw [sealL_len, HM.out, HP.out, hM]
      have HS := Lib.hid hs
      have CO1 := fun B0 o0 c2 W hc h1 h2 hK => open_any A B0 o0 n c M c2 server (sealL server nonce plain) W HN.out HS.out (by omega) (by omega) (by omega) hc h1 h2 HBS.out hK (sealL_open HM.out (by rw [HP.out]; omega))
      rw [sealL_in HM.out HBZ.out, sealL_non HM.out] at CO1
      have S2 := fun A1 A2 c1 c2 W h1 h2 => same_true A1 A2 32 c1 32 c2 (tagL server nonce) (tagL server nonce) W rfl (tag_len _ _) (tag_len _ _) h1 h2 (tag_byt _ _)
      have hM48 : 48 ≤ M := by omega
      clear hs hM
      have CO := fun W => open_form A D n c t g W (.inl h48)
      go_enter Tryd.func14, Tryd.ntmps14
      go_wp2_with (first
        | (go_at_call 36; refine (live8_any _ HK.out).mono ?_; rintro e w1 ⟨rfl, hb1⟩; have HBX := hb1)
        | (go_at_call 37; first | ((with_reducible refine (CA _ (HX.out.below HBX) (HY.out.below HBX) (HZ.out.below HBX) (HK.out.go HBX)).mono ?_); rintro e w2 ⟨A2, c2, he, hc2, hr2, hb2⟩; rw [HS.out] at he hc2; subst he; obtain ⟨x2, y2, rfl, _, _⟩ := hr2.at_ (by simp [HS.out]; omega); (try have HRx := Lib.hid (HRx.out.below hb2)); (try have HRy := Lib.hid (HRy.out.below hb2)); (try have HRk := Lib.hid (HRk.out.below hb2)); (try have HRq := Lib.hid (HRq.out.below hb2)); (try have HRz := Lib.hid (HRz.out.below hb2)); (try have HRl := Lib.hid (HRl.out.below hb2)); have HBX := bgo HBX hb2; have HRx := Lib.hid hr2; clear hr2))
        | (go_at_call 45; first | ((with_reducible refine (CO1 _ _ _ _ hc2 (HX.out.below HBX) HRx.out (HK.out.go HBX)).mono ?_); rintro e w3 ⟨A3, B3, c3, he, hr3, hB3, hq3, hc3, hb3⟩; rw [HP.out, tag_len] at he; subst he; clear hB3; (try have HRx := Lib.hid (HRx.out.below hb3)); (try have HRy := Lib.hid (HRy.out.below hb3)); (try have HRk := Lib.hid (HRk.out.below hb3)); (try have HRq := Lib.hid (HRq.out.below hb3)); (try have HRz := Lib.hid (HRz.out.below hb3)); (try have HRl := Lib.hid (HRl.out.below hb3)); have HBX := bgo HBX hb3; have HRy := Lib.hid hr3; have HRk := Lib.hid hq3; clear hr3 hq3) | ((with_reducible refine (CO _).mono ?_); rintro e w6 ⟨rfl, rfl⟩))
        | (go_at_call 39; refine (CK _ (HX.out.below HBX) (HY.out.below HBX) (HK.out.go HBX)).mono ?_; rintro e w4 ⟨B4, c4, he, hc4, hl4, hr4, hb4⟩; rw [tag_len] at he; subst he; (try have HRx := Lib.hid (HRx.out.below hb4)); (try have HRy := Lib.hid (HRy.out.below hb4)); (try have HRk := Lib.hid (HRk.out.below hb4)); (try have HRq := Lib.hid (HRq.out.below hb4)); (try have HRz := Lib.hid (HRz.out.below hb4)); (try have HRl := Lib.hid (HRl.out.below hb4)); have HBX := bgo HBX hb4; have HRq := Lib.hid hr4; clear hr4)
        | (go_at_call 18; first | ((with_reducible refine (S2 _ _ _ _ _ HRk.out HRq.out).mono ?_); rintro e w5 ⟨rfl, rfl⟩) | ((with_reducible refine (SP _ _ _ HRy.out (HZ.out.below HBX)).mono ?_); rintro e w5 ⟨rfl, rfl⟩)))
      go_ret
      exact ⟨rfl, HBX⟩
    · by_cases hE : openE server b = 0
      · skip
        obtain ⟨M, hM⟩ : ∃ M, M = 16 + p + 32 := ⟨_, rfl⟩
        have w1_ : IntKind.i64.wrap ((p : Int) + 48) = (M : Int) := by rw [show (p : Int) + 48 = M by omega]; exact IntWalk.i64_in _ (by omega)
        have CA := fun W h1 h2 h3 hK => seal_any A B C n c d p f server nonce plain W HN.out HM.out HP.out (by omega) (by omega) h1 h2 h3 hK
        have CK := fun W h1 h2 hK => lkey_any A B n c 16 d server nonce W HN.out HM.out (by omega) (by omega) h1 h2 hK
        have hs : (sealL server nonce plain).length = M := by rw [sealL_len, HM.out, HP.out, hM]
        have HS := Lib.hid hs
        have CO1 := fun B0 o0 c2 W hc h1 h2 hK => open_any A B0 o0 n c M c2 server (sealL server nonce plain) W HN.out HS.out (by omega) (by omega) (by omega) hc h1 h2 HBS.out hK (sealL_open HM.out (by rw [HP.out]; omega))
        rw [sealL_in HM.out HBZ.out, sealL_non HM.out] at CO1
        have S2 := fun A1 A2 c1 c2 W h1 h2 => same_true A1 A2 32 c1 32 c2 (tagL server nonce) (tagL server nonce) W rfl (tag_len _ _) (tag_len _ _) h1 h2 (tag_byt _ _)
        have hM48 : 48 ≤ M := by omega
        clear hs hM
        obtain ⟨b0, o0, rfl, _, _⟩ := HU.out.at_ (by rw [HNL.out]; omega)
        have CO := fun W h1 h2 hK => open_any A b0 o0 n c t g server b W HN.out HT.out (by omega) (by omega) (by omega) htg h1 h2 HBB.out hK hE
        obtain ⟨P, hP⟩ : ∃ P, P = t - 48 := ⟨_, rfl⟩
        have hil : (inL server b).length = P := by rw [inL_len _ _ (by rw [HT.out]; omega), HT.out, hP]
        have hib : Byt (inL server b) := inL_byt HBB.out
        have hP7 : P ≤ 700 := by omega
        have HIL := Lib.hid hil
        have hnn : (nonL b).length = 16 := by simp [nonL, HT.out]; omega
        have CB := fun A1 W h1 h2 h3 hK => seal_any A (some ⟨b0, o0, none⟩) A1 n c g P P server (nonL b) (inL server b) W HN.out hnn HIL.out (by omega) (by omega) h1 h2 h3 hK
        rw [open_sealL (by rw [HT.out]; omega) (by rw [HT.out]; omega) HBB.out hE] at CB
        have hr0 := HU.out.part 0 16
        rw [Nat.add_zero] at hr0
        have H0 := Lib.hid (show Rd w (some ⟨b0, o0, none⟩) (nums .u8 (nonL b)) from hr0)
        have S5 := fun A1 c1 W h1 h2 => same_true A1 (some ⟨b0, o0, none⟩) t c1 t g b b W rfl HT.out HT.out h1 h2 HBB.out
        have q6 : (16 : Int) ≤ g := by omega
        have q7 : ¬ g = 16 := by omega
        clear hil hE hP hnn hr0 hib
        go_enter Tryd.func14, Tryd.ntmps14
        go_wp2_with (first
          | (go_at_call 36; refine (live8_any _ HK.out).mono ?_; rintro e w1 ⟨rfl, hb1⟩; have HBX := hb1)
          | (go_at_call 37; first | ((with_reducible refine (CA _ (HX.out.below HBX) (HY.out.below HBX) (HZ.out.below HBX) (HK.out.go HBX)).mono ?_); rintro e w2 ⟨A2, c2, he, hc2, hr2, hb2⟩; rw [HS.out] at he hc2; subst he; obtain ⟨x2, y2, rfl, _, _⟩ := hr2.at_ (by simp [HS.out]; omega); (try have HRx := Lib.hid (HRx.out.below hb2)); (try have HRy := Lib.hid (HRy.out.below hb2)); (try have HRk := Lib.hid (HRk.out.below hb2)); (try have HRq := Lib.hid (HRq.out.below hb2)); (try have HRz := Lib.hid (HRz.out.below hb2)); (try have HRl := Lib.hid (HRl.out.below hb2)); have HBX := bgo HBX hb2; have HRx := Lib.hid hr2; clear hr2) | ((with_reducible refine (CB _ _ (HX.out.below HBX) (H0.out.below HBX) HRz.out (HK.out.go HBX)).mono ?_); rintro e w7 ⟨A7, c7, he, hc7, hr7, hb7⟩; rw [HT.out] at he; subst he; (try have HRx := Lib.hid (HRx.out.below hb7)); (try have HRy := Lib.hid (HRy.out.below hb7)); (try have HRk := Lib.hid (HRk.out.below hb7)); (try have HRq := Lib.hid (HRq.out.below hb7)); (try have HRz := Lib.hid (HRz.out.below hb7)); (try have HRl := Lib.hid (HRl.out.below hb7)); have HBX := bgo HBX hb7; have HRl := Lib.hid hr7; clear hr7))
          | (go_at_call 45; first | ((with_reducible refine (CO1 _ _ _ _ hc2 (HX.out.below HBX) HRx.out (HK.out.go HBX)).mono ?_); rintro e w3 ⟨A3, B3, c3, he, hr3, hB3, hq3, hc3, hb3⟩; rw [HP.out, tag_len] at he; subst he; clear hB3; (try have HRx := Lib.hid (HRx.out.below hb3)); (try have HRy := Lib.hid (HRy.out.below hb3)); (try have HRk := Lib.hid (HRk.out.below hb3)); (try have HRq := Lib.hid (HRq.out.below hb3)); (try have HRz := Lib.hid (HRz.out.below hb3)); (try have HRl := Lib.hid (HRl.out.below hb3)); have HBX := bgo HBX hb3; have HRy := Lib.hid hr3; have HRk := Lib.hid hq3; clear hr3 hq3) | ((with_reducible refine (CO _ (HX.out.below HBX) (HU.out.below HBX) (HK.out.go HBX)).mono ?_); rintro e w6 ⟨A6, B6, c6, he, hr6, hB6, hq6, hc6, hb6⟩; rw [HIL.out, tag_len] at he; subst he; clear hB6 hq6; (try have HRx := Lib.hid (HRx.out.below hb6)); (try have HRy := Lib.hid (HRy.out.below hb6)); (try have HRk := Lib.hid (HRk.out.below hb6)); (try have HRq := Lib.hid (HRq.out.below hb6)); (try have HRz := Lib.hid (HRz.out.below hb6)); (try have HRl := Lib.hid (HRl.out.below hb6)); have HBX := bgo HBX hb6; have HRz := Lib.hid hr6; clear hr6))
          | (go_at_call 39; refine (CK _ (HX.out.below HBX) (HY.out.below HBX) (HK.out.go HBX)).mono ?_; rintro e w4 ⟨B4, c4, he, hc4, hl4, hr4, hb4⟩; rw [tag_len] at he; subst he; (try have HRx := Lib.hid (HRx.out.below hb4)); (try have HRy := Lib.hid (HRy.out.below hb4)); (try have HRk := Lib.hid (HRk.out.below hb4)); (try have HRq := Lib.hid (HRq.out.below hb4)); (try have HRz := Lib.hid (HRz.out.below hb4)); (try have HRl := Lib.hid (HRl.out.below hb4)); have HBX := bgo HBX hb4; have HRq := Lib.hid hr4; clear hr4)
          | (go_at_call 18; first | ((with_reducible refine (S2 _ _ _ _ _ HRk.out HRq.out).mono ?_); rintro e w5 ⟨rfl, rfl⟩) | ((with_reducible refine (SP _ _ _ HRy.out (HZ.out.below HBX)).mono ?_); rintro e w5 ⟨rfl, rfl⟩) | ((with_reducible refine (S5 _ _ _ HRl.out (HU.out.below HBX)).mono ?_); rintro e w8 ⟨rfl, rfl⟩)))
        go_ret
        exact ⟨rfl, HBX⟩
      · skip
        obtain ⟨M, hM⟩ : ∃ M, M = 16 + p + 32 := ⟨_, rfl⟩
        have w1_ : IntKind.i64.wrap ((p : Int) + 48) = (M : Int) := by rw [show (p : Int) + 48 = M by omega]; exact IntWalk.i64_in _ (by omega)
        have CA := fun W h1 h2 h3 hK => seal_any A B C n c d p f server nonce plain W HN.out HM.out HP.out (by omega) (by omega) h1 h2 h3 hK
        have CK := fun W h1 h2 hK => lkey_any A B n c 16 d server nonce W HN.out HM.out (by omega) (by omega) h1 h2 hK
        have hs : (sealL server nonce plain).length = M := by rw [sealL_len, HM.out, HP.out, hM]
        have HS := Lib.hid hs
        have CO1 := fun B0 o0 c2 W hc h1 h2 hK => open_any A B0 o0 n c M c2 server (sealL server nonce plain) W HN.out HS.out (by omega) (by omega) (by omega) hc h1 h2 HBS.out hK (sealL_open HM.out (by rw [HP.out]; omega))
        rw [sealL_in HM.out HBZ.out, sealL_non HM.out] at CO1
        have S2 := fun A1 A2 c1 c2 W h1 h2 => same_true A1 A2 32 c1 32 c2 (tagL server nonce) (tagL server nonce) W rfl (tag_len _ _) (tag_len _ _) h1 h2 (tag_byt _ _)
        have hM48 : 48 ≤ M := by omega
        clear hs hM
        obtain ⟨b0, o0, rfl, _, _⟩ := HU.out.at_ (by rw [HNL.out]; omega)
        have CO := fun W h1 h2 hK => open_tag A b0 o0 n c t g server b W HN.out HT.out (by omega) (by omega) (by omega) htg h1 h2 HBB.out hK hE
        go_enter Tryd.func14, Tryd.ntmps14
        go_wp2_with (first
          | (go_at_call 36; refine (live8_any _ HK.out).mono ?_; rintro e w1 ⟨rfl, hb1⟩; have HBX := hb1)
          | (go_at_call 37; first | ((with_reducible refine (CA _ (HX.out.below HBX) (HY.out.below HBX) (HZ.out.below HBX) (HK.out.go HBX)).mono ?_); rintro e w2 ⟨A2, c2, he, hc2, hr2, hb2⟩; rw [HS.out] at he hc2; subst he; obtain ⟨x2, y2, rfl, _, _⟩ := hr2.at_ (by simp [HS.out]; omega); (try have HRx := Lib.hid (HRx.out.below hb2)); (try have HRy := Lib.hid (HRy.out.below hb2)); (try have HRk := Lib.hid (HRk.out.below hb2)); (try have HRq := Lib.hid (HRq.out.below hb2)); (try have HRz := Lib.hid (HRz.out.below hb2)); (try have HRl := Lib.hid (HRl.out.below hb2)); have HBX := bgo HBX hb2; have HRx := Lib.hid hr2; clear hr2))
          | (go_at_call 45; first | ((with_reducible refine (CO1 _ _ _ _ hc2 (HX.out.below HBX) HRx.out (HK.out.go HBX)).mono ?_); rintro e w3 ⟨A3, B3, c3, he, hr3, hB3, hq3, hc3, hb3⟩; rw [HP.out, tag_len] at he; subst he; clear hB3; (try have HRx := Lib.hid (HRx.out.below hb3)); (try have HRy := Lib.hid (HRy.out.below hb3)); (try have HRk := Lib.hid (HRk.out.below hb3)); (try have HRq := Lib.hid (HRq.out.below hb3)); (try have HRz := Lib.hid (HRz.out.below hb3)); (try have HRl := Lib.hid (HRl.out.below hb3)); have HBX := bgo HBX hb3; have HRy := Lib.hid hr3; have HRk := Lib.hid hq3; clear hr3 hq3) | ((with_reducible refine (CO _ (HX.out.below HBX) (HU.out.below HBX) (HK.out.go HBX)).mono ?_); rintro e w6 ⟨rfl, hb6⟩; have HBX := bgo HBX hb6))
          | (go_at_call 39; refine (CK _ (HX.out.below HBX) (HY.out.below HBX) (HK.out.go HBX)).mono ?_; rintro e w4 ⟨B4, c4, he, hc4, hl4, hr4, hb4⟩; rw [tag_len] at he; subst he; (try have HRx := Lib.hid (HRx.out.below hb4)); (try have HRy := Lib.hid (HRy.out.below hb4)); (try have HRk := Lib.hid (HRk.out.below hb4)); (try have HRq := Lib.hid (HRq.out.below hb4)); (try have HRz := Lib.hid (HRz.out.below hb4)); (try have HRl := Lib.hid (HRl.out.below hb4)); have HBX := bgo HBX hb4; have HRq := Lib.hid hr4; clear hr4)
          | (go_at_call 18; first | ((with_reducible refine (S2 _ _ _ _ _ HRk.out HRq.out).mono ?_); rintro e w5 ⟨rfl, rfl⟩) | ((with_reducible refine (SP _ _ _ HRy.out (HZ.out.below HBX)).mono ?_); rintro e w5 ⟨rfl, rfl⟩)))
        go_ret
        exact ⟨rfl, HBX⟩
  · skip
    by_cases h48 : t < 48
    · skip
      have hse : sealE m p = 1 := by rw [sealE, if_neg h16]
      have CA := fun W => seal_bad A B C n c m d p f W (.inl h16)
      rw [hse] at CA
      have q5 : ¬ (m : Int) = 16 := by omega
      clear hse
      have CO := fun W => open_form A D n c t g W (.inl h48)
      go_enter Tryd.func14, Tryd.ntmps14
      go_wp2_with (first
        | (go_at_call 36; refine (live8_any _ HK.out).mono ?_; rintro e w1 ⟨rfl, hb1⟩; have HBX := hb1)
        | (go_at_call 37; first | ((with_reducible refine (CA _).mono ?_); rintro e w2 ⟨rfl, rfl⟩))
        | (go_at_call 45; first | ((with_reducible refine (CO _).mono ?_); rintro e w6 ⟨rfl, rfl⟩)))
      go_ret
      exact ⟨rfl, HBX⟩
    · by_cases hE : openE server b = 0
      · skip
        have hse : sealE m p = 1 := by rw [sealE, if_neg h16]
        have CA := fun W => seal_bad A B C n c m d p f W (.inl h16)
        rw [hse] at CA
        have q5 : ¬ (m : Int) = 16 := by omega
        clear hse
        obtain ⟨b0, o0, rfl, _, _⟩ := HU.out.at_ (by rw [HNL.out]; omega)
        have CO := fun W h1 h2 hK => open_any A b0 o0 n c t g server b W HN.out HT.out (by omega) (by omega) (by omega) htg h1 h2 HBB.out hK hE
        obtain ⟨P, hP⟩ : ∃ P, P = t - 48 := ⟨_, rfl⟩
        have hil : (inL server b).length = P := by rw [inL_len _ _ (by rw [HT.out]; omega), HT.out, hP]
        have hib : Byt (inL server b) := inL_byt HBB.out
        have hP7 : P ≤ 700 := by omega
        have HIL := Lib.hid hil
        have hnn : (nonL b).length = 16 := by simp [nonL, HT.out]; omega
        have CB := fun A1 W h1 h2 h3 hK => seal_any A (some ⟨b0, o0, none⟩) A1 n c g P P server (nonL b) (inL server b) W HN.out hnn HIL.out (by omega) (by omega) h1 h2 h3 hK
        rw [open_sealL (by rw [HT.out]; omega) (by rw [HT.out]; omega) HBB.out hE] at CB
        have hr0 := HU.out.part 0 16
        rw [Nat.add_zero] at hr0
        have H0 := Lib.hid (show Rd w (some ⟨b0, o0, none⟩) (nums .u8 (nonL b)) from hr0)
        have S5 := fun A1 c1 W h1 h2 => same_true A1 (some ⟨b0, o0, none⟩) t c1 t g b b W rfl HT.out HT.out h1 h2 HBB.out
        have q6 : (16 : Int) ≤ g := by omega
        have q7 : ¬ g = 16 := by omega
        clear hil hE hP hnn hr0 hib
        go_enter Tryd.func14, Tryd.ntmps14
        go_wp2_with (first
          | (go_at_call 36; refine (live8_any _ HK.out).mono ?_; rintro e w1 ⟨rfl, hb1⟩; have HBX := hb1)
          | (go_at_call 37; first | ((with_reducible refine (CA _).mono ?_); rintro e w2 ⟨rfl, rfl⟩) | ((with_reducible refine (CB _ _ (HX.out.below HBX) (H0.out.below HBX) HRz.out (HK.out.go HBX)).mono ?_); rintro e w7 ⟨A7, c7, he, hc7, hr7, hb7⟩; rw [HT.out] at he; subst he; (try have HRx := Lib.hid (HRx.out.below hb7)); (try have HRy := Lib.hid (HRy.out.below hb7)); (try have HRk := Lib.hid (HRk.out.below hb7)); (try have HRq := Lib.hid (HRq.out.below hb7)); (try have HRz := Lib.hid (HRz.out.below hb7)); (try have HRl := Lib.hid (HRl.out.below hb7)); have HBX := bgo HBX hb7; have HRl := Lib.hid hr7; clear hr7))
          | (go_at_call 45; first | ((with_reducible refine (CO _ (HX.out.below HBX) (HU.out.below HBX) (HK.out.go HBX)).mono ?_); rintro e w6 ⟨A6, B6, c6, he, hr6, hB6, hq6, hc6, hb6⟩; rw [HIL.out, tag_len] at he; subst he; clear hB6 hq6; (try have HRx := Lib.hid (HRx.out.below hb6)); (try have HRy := Lib.hid (HRy.out.below hb6)); (try have HRk := Lib.hid (HRk.out.below hb6)); (try have HRq := Lib.hid (HRq.out.below hb6)); (try have HRz := Lib.hid (HRz.out.below hb6)); (try have HRl := Lib.hid (HRl.out.below hb6)); have HBX := bgo HBX hb6; have HRz := Lib.hid hr6; clear hr6))
          | (go_at_call 18; first | ((with_reducible refine (S5 _ _ _ HRl.out (HU.out.below HBX)).mono ?_); rintro e w8 ⟨rfl, rfl⟩)))
        go_ret
        exact ⟨rfl, HBX⟩
      · skip
        have hse : sealE m p = 1 := by rw [sealE, if_neg h16]
        have CA := fun W => seal_bad A B C n c m d p f W (.inl h16)
        rw [hse] at CA
        have q5 : ¬ (m : Int) = 16 := by omega
        clear hse
        obtain ⟨b0, o0, rfl, _, _⟩ := HU.out.at_ (by rw [HNL.out]; omega)
        have CO := fun W h1 h2 hK => open_tag A b0 o0 n c t g server b W HN.out HT.out (by omega) (by omega) (by omega) htg h1 h2 HBB.out hK hE
        go_enter Tryd.func14, Tryd.ntmps14
        go_wp2_with (first
          | (go_at_call 36; refine (live8_any _ HK.out).mono ?_; rintro e w1 ⟨rfl, hb1⟩; have HBX := hb1)
          | (go_at_call 37; first | ((with_reducible refine (CA _).mono ?_); rintro e w2 ⟨rfl, rfl⟩))
          | (go_at_call 45; first | ((with_reducible refine (CO _ (HX.out.below HBX) (HU.out.below HBX) (HK.out.go HBX)).mono ?_); rintro e w6 ⟨rfl, hb6⟩; have HBX := bgo HBX hb6)))
        go_ret
        exact ⟨rfl, HBX⟩

theorem layerBack_of {H : Type} {enc : TypeId × Value → H} (W : World) (base : Nat) (args : Array Value) (ds : List (DataW H)) (p : List MemPlace)
    (hval : ∀ (j : Nat) t v, Tryd.f14.params[j]? = some t → args[j]? = some v → Value.okWide Tryd.prog W .any base t v)
    (hA : DataW.TrodAll enc Tryd.prog W 0 (fun _ => true) true Tryd.f14.params.toList args.toList ds p) (hlt : ∀ x ∈ p, x.block < W.heap.size)
    (hz : (DataW.weightsEach Tryd.prog Tryd.f14.params.toList ds).all (· ≤ reachBytes) = true) (hK : Konst W) : Calls Tryd.prog 14 args W (Yes W) := by
  rw [Tryd.params14] at hA hval hz
  obtain ⟨v0, vs0, d0, ds0, p0, q0, hargs, rfl, rfl, h0, r0⟩ := trodAll_cons hA
  obtain ⟨v1, vs1, d1, ds1, p1, q1, rfl, rfl, rfl, h1, r1⟩ := trodAll_cons r0
  obtain ⟨v2, vs2, d2, ds2, p2, q2, rfl, rfl, rfl, h2, r2⟩ := trodAll_cons r1
  obtain ⟨v3, vs3, d3, ds3, p3, q3, rfl, rfl, rfl, h3, r3⟩ := trodAll_cons r2
  obtain ⟨rfl, rfl, rfl⟩ := trodAll_nil r3
  obtain rfl : args = #[v0, v1, v2, v3] := by cases args; simp_all
  obtain ⟨A, n, c, xs, rfl, hn0, hr0, hb0, hc0, hd0⟩ := open_bytes2 h0 (hval 0 _ _ rfl rfl)
  obtain ⟨B, m, d, ys, rfl, hn1, hr1, hb1, hc1, hd1⟩ := open_bytes2 h1 (hval 1 _ _ rfl rfl)
  obtain ⟨C, p_, f, us, rfl, hn2, hr2, hb2, hc2, hd2⟩ := open_bytes2 h2 (hval 2 _ _ rfl rfl)
  obtain ⟨D, t, g, bs, rfl, hn3, hr3, hb3, hc3, hd3⟩ := open_bytes2 h3 (hval 3 _ _ rfl rfl)
  exact layerBack_walk A B C D n c m d p_ f t g xs ys us bs W hn0 hn1 hn2 hn3 hc3 hr0 hr1 hr2 hr3 hb1 hb2 hb3 hK
end Go.Proofs.YtklamgdgdamcgaaDoor
