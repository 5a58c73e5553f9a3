/- The law of what is sealed, and of what a key makes. -/
import Derived.Test.YtklamgdgdamcgaaDoorLd
import Derived.Deep.RegionWith
import Derived.Deep.DeepMust
namespace Go.Proofs.YtklamgdgdamcgaaDoor
open Go.RowKit Go.ChangeShapes Go.WideShapes Go.ChangeAt
set_option linter.unusedSimpArgs false
set_option linter.unusedVariables false

set_option maxHeartbeats 2000000 in
theorem layerSeals_walk (A B C : Option Addr) (n c m d p f : Nat) (z code : Int) (server nonce plain : List Int) (w : World) (hn : server.length = n) (hm : nonce.length = m) (hp : plain.length = p) (hx : Rd w A (nums .u8 server)) (hy : Rd w B (nums .u8 nonce)) (hz : Rd w C (nums .u8 plain)) (by_ : Byt nonce) (bz : Byt plain) (hK : Konst w) :
    Calls Tryd.prog 11 #[.slice A n c, .slice B m d, .slice C p f, .int .i64 z, .int .u8 code] w (Yes w) := by
  have HX := Lib.hid hx
  have HY := Lib.hid hy
  have HZ := Lib.hid hz
  have HN := Lib.hid hn
  have HM := Lib.hid hm
  have HP := Lib.hid hp
  have HK := Lib.hid hK
  have hbs := sealL_byt (server := server) by_ bz
  have HBS := Lib.hid hbs
  clear hx hy hz hn hm hp hK by_ bz hbs
  by_cases h1 : 200 < n
  · skip
    have q : (200 : Int) < n := by omega
    go_enter Tryd.func11, Tryd.ntmps11
    go_wp2_with (go_at_call 36; refine (live8_any _ HK.out).mono ?_; rintro e w1 ⟨rfl, hb1⟩; have HBX := hb1)
    go_ret
    exact ⟨rfl, HBX⟩
  have q1 : ¬ (200 : Int) < n := by omega
  by_cases h2 : 100 < m
  · skip
    have q : (100 : Int) < m := by omega
    go_enter Tryd.func11, Tryd.ntmps11
    go_wp2_with (go_at_call 36; refine (live8_any _ HK.out).mono ?_; rintro e w1 ⟨rfl, hb1⟩; have HBX := hb1)
    go_ret
    exact ⟨rfl, HBX⟩
  have q2 : ¬ (100 : Int) < m := by omega
  by_cases h3 : 700 < p ∧ p ≤ 2048
  · skip
    have q : (700 : Int) < p := by omega
    have q3 : (p : Int) ≤ 2048 := by omega
    go_enter Tryd.func11, Tryd.ntmps11
    go_wp2_with (go_at_call 36; refine (live8_any _ HK.out).mono ?_; rintro e w1 ⟨rfl, hb1⟩; have HBX := hb1)
    go_ret
    exact ⟨rfl, HBX⟩
  by_cases h4 : 2200 < p
  · skip
    have q : (700 : Int) < p := by omega
    have q3 : ¬ (p : Int) ≤ 2048 := by omega
    have q4 : (2200 : Int) < p := by omega
    go_enter Tryd.func11, Tryd.ntmps11
    go_wp2_with (go_at_call 36; refine (live8_any _ HK.out).mono ?_; rintro e w1 ⟨rfl, hb1⟩; have HBX := hb1)
    go_ret
    exact ⟨rfl, HBX⟩
  by_cases h5 : 700 < z ∧ z ≤ 2048
  · by_cases h6 : p ≤ 700
    · skip
      have q3 : ¬ (700 : Int) < p := by omega
      have q4 : ¬ (2200 : Int) < p := by omega
      have q5 : (700 : Int) < z := by omega
      have q6 : z ≤ 2048 := by omega
      go_enter Tryd.func11, Tryd.ntmps11
      go_wp2_with (go_at_call 36; refine (live8_any _ HK.out).mono ?_; rintro e w1 ⟨rfl, hb1⟩; have HBX := hb1)
      go_ret
      exact ⟨rfl, HBX⟩
    · skip
      have q : (700 : Int) < p := by omega
      have q3 : ¬ (p : Int) ≤ 2048 := by omega
      have q4 : ¬ (2200 : Int) < p := by omega
      have q5 : (700 : Int) < z := by omega
      have q6 : z ≤ 2048 := by omega
      go_enter Tryd.func11, Tryd.ntmps11
      go_wp2_with (go_at_call 36; refine (live8_any _ HK.out).mono ?_; rintro e w1 ⟨rfl, hb1⟩; have HBX := hb1)
      go_ret
      exact ⟨rfl, HBX⟩
  obtain ⟨k, hk⟩ : ∃ k, k = tagL server nonce := ⟨_, rfl⟩
  have lk : k.length = 32 := by rw [hk, tag_len]
  have bk : Byt k := by rw [hk]; exact tag_byt _ _
  have HBK := Lib.hid bk
  clear bk
  have CK := fun W h1 h2 hK => lkey_any A B n c m d server nonce W HN.out HM.out (by omega) (by omega) h1 h2 hK
  have CL := fun W h1 h2 => rlkey_any A B n c m d server nonce W HN.out HM.out (by omega) (by omega) h1 h2
  rw [← hk] at CK CL
  clear hk
  have CR := fun A1 c1 W h1 hK => reply_any A1 32 c1 k code W lk (by omega) h1 hK
  have CT := fun A1 c1 W h1 => rreply_any A1 32 c1 k code W lk (by omega) h1
  have S2 := fun A1 A2 c1 c2 W h1 h2 => same_true A1 A2 32 c1 32 c2 k k W rfl lk lk h1 h2 HBK.out
  have S4 := fun A1 A2 c1 c2 W h1 h2 => same_true A1 A2 32 c1 32 c2 (tagL k [4, code]) (tagL k [4, code]) W rfl (tag_len _ _) (tag_len _ _) h1 h2 (tag_byt _ _)
  have S0 := fun W => same_true none none 0 0 0 0 [] [] W rfl rfl rfl (.inl rfl) (.inl rfl) (fun x hx => by cases hx)
  by_cases h6 : p ≤ 700
  · by_cases h16 : m = 16
    · subst h16
      by_cases h7 : 0 ≤ z ∧ z ≤ 700
      · obtain ⟨N, rfl⟩ := Int.eq_ofNat_of_zero_le h7.1
        have h8 : N ≤ 700 := by omega
        have q3 : ¬ (700 : Int) < p := by omega
        have q4 : ¬ (2200 : Int) < p := by omega
        have q5 : ¬ (700 : Int) < N := by omega
        have CA := fun W h1 h2 h3 hK => seal_any A B C n c d p f server nonce plain W HN.out HM.out HP.out (by omega) (by omega) h1 h2 h3 hK
        have CB := fun W h1 h2 h3 => rseal_any A B C n c d p f server nonce plain W HN.out HM.out HP.out (by omega) (by omega) h1 h2 h3
        have hs : (sealL server nonce plain).length = 16 + p + 32 := by rw [sealL_len, HM.out, HP.out]
        have HS := Lib.hid hs
        have S1 := fun A1 A2 c1 c2 W h1 h2 => same_true A1 A2 (16 + p + 32) c1 (16 + p + 32) c2 (sealL server nonce plain) (sealL server nonce plain) W rfl HS.out HS.out h1 h2 HBS.out
        clear hs
        have CP := fun A1 c1 W h1 hK => pad8_any A1 32 c1 N k W lk (by omega) (by omega) h1 hK
        have CQ := fun A1 c1 W h1 => rpad8_any A1 32 c1 N k W lk (by omega) (by omega) h1
        have S3 := fun A1 A2 c1 c2 W h1 h2 => same_true A1 A2 N c1 N c2 (streamL (tagL k [2]) N) (streamL (tagL k [2]) N) W rfl (streamL_len _ _) (streamL_len _ _) h1 h2 (streamL_byt _ _)
        go_enter Tryd.func11, Tryd.ntmps11
        go_wp2_with (first
          | (go_at_call 36; refine (live8_any _ HK.out).mono ?_; rintro e w1 ⟨rfl, hb1⟩; have HBX := hb1)
          | (go_at_call 37; refine (CA _ (HX.out.below HBX) (HY.out.below HBX) (HZ.out.below HBX) (HK.out.go HBX)).mono ?_; rintro e w2 ⟨A2, c2, he, hc2, hr2, hb2⟩; rw [HS.out] at he; subst he; (try have HRa := Lib.hid (HRa.out.below hb2)); (try have HRb := Lib.hid (HRb.out.below hb2)); (try have HRk := Lib.hid (HRk.out.below hb2)); (try have HRx := Lib.hid (HRx.out.below hb2)); (try have HRy := Lib.hid (HRy.out.below hb2)); (try have HRq := Lib.hid (HRq.out.below hb2)); (try have HRr := Lib.hid (HRr.out.below hb2)); have HBX := bgo HBX hb2; have HRa := Lib.hid hr2; clear hr2)
          | (go_at_call 38; refine (CB _ (HX.out.below HBX) (HY.out.below HBX) (HZ.out.below HBX)).mono ?_; rintro e w3 ⟨A3, c3, he, hc3, hr3, hb3⟩; rw [HS.out] at he; subst he; (try have HRa := Lib.hid (HRa.out.below hb3)); (try have HRb := Lib.hid (HRb.out.below hb3)); (try have HRk := Lib.hid (HRk.out.below hb3)); (try have HRx := Lib.hid (HRx.out.below hb3)); (try have HRy := Lib.hid (HRy.out.below hb3)); (try have HRq := Lib.hid (HRq.out.below hb3)); (try have HRr := Lib.hid (HRr.out.below hb3)); have HBX := bgo HBX hb3; have HRb := Lib.hid hr3; clear hr3)
          | (go_at_call 39; refine (CK _ (HX.out.below HBX) (HY.out.below HBX) (HK.out.go HBX)).mono ?_; rintro e w4 ⟨B4, c4, he, hc4, hl4, hr4, hb4⟩; rw [lk] at he; subst he; (try have HRa := Lib.hid (HRa.out.below hb4)); (try have HRb := Lib.hid (HRb.out.below hb4)); (try have HRk := Lib.hid (HRk.out.below hb4)); (try have HRx := Lib.hid (HRx.out.below hb4)); (try have HRy := Lib.hid (HRy.out.below hb4)); (try have HRq := Lib.hid (HRq.out.below hb4)); (try have HRr := Lib.hid (HRr.out.below hb4)); have HBX := bgo HBX hb4; have HRk := Lib.hid hr4; clear hr4)
          | (go_at_call 42; refine (CL _ (HX.out.below HBX) (HY.out.below HBX)).mono ?_; rintro e w5 ⟨B5, c5, he, hc5, hl5, hr5, hb5⟩; rw [lk] at he; subst he; (try have HRa := Lib.hid (HRa.out.below hb5)); (try have HRb := Lib.hid (HRb.out.below hb5)); (try have HRk := Lib.hid (HRk.out.below hb5)); (try have HRx := Lib.hid (HRx.out.below hb5)); (try have HRy := Lib.hid (HRy.out.below hb5)); (try have HRq := Lib.hid (HRq.out.below hb5)); (try have HRr := Lib.hid (HRr.out.below hb5)); have HBX := bgo HBX hb5; have HRq := Lib.hid hr5; clear hr5)
          | (go_at_call 40; refine (CP _ _ _ HRk.out (HK.out.go HBX)).mono ?_; rintro e w6 ⟨B6, c6, he, hc6, hl6, ho6, hb6⟩; rw [streamL_len] at he ho6; subst he; (try have HRa := Lib.hid (HRa.out.below hb6)); (try have HRb := Lib.hid (HRb.out.below hb6)); (try have HRk := Lib.hid (HRk.out.below hb6)); (try have HRx := Lib.hid (HRx.out.below hb6)); (try have HRy := Lib.hid (HRy.out.below hb6)); (try have HRq := Lib.hid (HRq.out.below hb6)); (try have HRr := Lib.hid (HRr.out.below hb6)); have HBX := bgo HBX hb6; have HRx := Lib.hid (Rd.of_own ho6); clear ho6)
          | (go_at_call 41; refine (CQ _ _ _ HRq.out).mono ?_; rintro e w7 ⟨A7, c7, he, hc7, hr7, hb7⟩; rw [streamL_len] at he; subst he; (try have HRa := Lib.hid (HRa.out.below hb7)); (try have HRb := Lib.hid (HRb.out.below hb7)); (try have HRk := Lib.hid (HRk.out.below hb7)); (try have HRx := Lib.hid (HRx.out.below hb7)); (try have HRy := Lib.hid (HRy.out.below hb7)); (try have HRq := Lib.hid (HRq.out.below hb7)); (try have HRr := Lib.hid (HRr.out.below hb7)); have HBX := bgo HBX hb7; have HRy := Lib.hid hr7; clear hr7)
          | (go_at_call 43; refine (CR _ _ _ HRk.out (HK.out.go HBX)).mono ?_; rintro e w8 ⟨B8, c8, he, hc8, hl8, hr8, hb8⟩; rw [tag_len] at he; subst he; (try have HRa := Lib.hid (HRa.out.below hb8)); (try have HRb := Lib.hid (HRb.out.below hb8)); (try have HRk := Lib.hid (HRk.out.below hb8)); (try have HRx := Lib.hid (HRx.out.below hb8)); (try have HRy := Lib.hid (HRy.out.below hb8)); (try have HRq := Lib.hid (HRq.out.below hb8)); (try have HRr := Lib.hid (HRr.out.below hb8)); have HBX := bgo HBX hb8; have HRr := Lib.hid hr8; clear hr8)
          | (go_at_call 44; refine (CT _ _ _ HRk.out).mono ?_; rintro e w9 ⟨B9, c9, he, hc9, hl9, hr9, hb9⟩; rw [tag_len] at he; subst he; (try have HRa := Lib.hid (HRa.out.below hb9)); (try have HRb := Lib.hid (HRb.out.below hb9)); (try have HRk := Lib.hid (HRk.out.below hb9)); (try have HRx := Lib.hid (HRx.out.below hb9)); (try have HRy := Lib.hid (HRy.out.below hb9)); (try have HRq := Lib.hid (HRq.out.below hb9)); (try have HRr := Lib.hid (HRr.out.below hb9)); have HBX := bgo HBX hb9; have HRs := Lib.hid hr9; clear hr9)
          | (go_at_call 18; first | ((with_reducible refine (S4 _ _ _ _ _ HRr.out HRs.out).mono ?_); rintro e w10 ⟨rfl, rfl⟩) | ((with_reducible refine (S3 _ _ _ _ _ HRx.out HRy.out).mono ?_); rintro e w10 ⟨rfl, rfl⟩) | ((with_reducible refine (S1 _ _ _ _ _ HRa.out HRb.out).mono ?_); rintro e w10 ⟨rfl, rfl⟩) | ((with_reducible refine (S2 _ _ _ _ _ HRk.out HRq.out).mono ?_); rintro e w10 ⟨rfl, rfl⟩)))
        go_ret
        exact ⟨rfl, HBX⟩
      · have hpad : z < 0 ∨ 2048 < z := by omega
        by_cases h9 : z < 0
        · skip
          have q3 : ¬ (700 : Int) < p := by omega
          have q4 : ¬ (2200 : Int) < p := by omega
          have q5 : ¬ (700 : Int) < z := by omega
          have CA := fun W h1 h2 h3 hK => seal_any A B C n c d p f server nonce plain W HN.out HM.out HP.out (by omega) (by omega) h1 h2 h3 hK
          have CB := fun W h1 h2 h3 => rseal_any A B C n c d p f server nonce plain W HN.out HM.out HP.out (by omega) (by omega) h1 h2 h3
          have hs : (sealL server nonce plain).length = 16 + p + 32 := by rw [sealL_len, HM.out, HP.out]
          have HS := Lib.hid hs
          have S1 := fun A1 A2 c1 c2 W h1 h2 => same_true A1 A2 (16 + p + 32) c1 (16 + p + 32) c2 (sealL server nonce plain) (sealL server nonce plain) W rfl HS.out HS.out h1 h2 HBS.out
          clear hs
          have CP := fun A1 c1 W => pad8_bad A1 32 c1 z W hpad
          have CQ := fun A1 c1 W => rpad8_bad A1 32 c1 z W hpad
          go_enter Tryd.func11, Tryd.ntmps11
          go_wp2_with (first
            | (go_at_call 36; refine (live8_any _ HK.out).mono ?_; rintro e w1 ⟨rfl, hb1⟩; have HBX := hb1)
            | (go_at_call 37; refine (CA _ (HX.out.below HBX) (HY.out.below HBX) (HZ.out.below HBX) (HK.out.go HBX)).mono ?_; rintro e w2 ⟨A2, c2, he, hc2, hr2, hb2⟩; rw [HS.out] at he; subst he; (try have HRa := Lib.hid (HRa.out.below hb2)); (try have HRb := Lib.hid (HRb.out.below hb2)); (try have HRk := Lib.hid (HRk.out.below hb2)); (try have HRx := Lib.hid (HRx.out.below hb2)); (try have HRy := Lib.hid (HRy.out.below hb2)); (try have HRq := Lib.hid (HRq.out.below hb2)); (try have HRr := Lib.hid (HRr.out.below hb2)); have HBX := bgo HBX hb2; have HRa := Lib.hid hr2; clear hr2)
            | (go_at_call 38; refine (CB _ (HX.out.below HBX) (HY.out.below HBX) (HZ.out.below HBX)).mono ?_; rintro e w3 ⟨A3, c3, he, hc3, hr3, hb3⟩; rw [HS.out] at he; subst he; (try have HRa := Lib.hid (HRa.out.below hb3)); (try have HRb := Lib.hid (HRb.out.below hb3)); (try have HRk := Lib.hid (HRk.out.below hb3)); (try have HRx := Lib.hid (HRx.out.below hb3)); (try have HRy := Lib.hid (HRy.out.below hb3)); (try have HRq := Lib.hid (HRq.out.below hb3)); (try have HRr := Lib.hid (HRr.out.below hb3)); have HBX := bgo HBX hb3; have HRb := Lib.hid hr3; clear hr3)
            | (go_at_call 39; refine (CK _ (HX.out.below HBX) (HY.out.below HBX) (HK.out.go HBX)).mono ?_; rintro e w4 ⟨B4, c4, he, hc4, hl4, hr4, hb4⟩; rw [lk] at he; subst he; (try have HRa := Lib.hid (HRa.out.below hb4)); (try have HRb := Lib.hid (HRb.out.below hb4)); (try have HRk := Lib.hid (HRk.out.below hb4)); (try have HRx := Lib.hid (HRx.out.below hb4)); (try have HRy := Lib.hid (HRy.out.below hb4)); (try have HRq := Lib.hid (HRq.out.below hb4)); (try have HRr := Lib.hid (HRr.out.below hb4)); have HBX := bgo HBX hb4; have HRk := Lib.hid hr4; clear hr4)
            | (go_at_call 42; refine (CL _ (HX.out.below HBX) (HY.out.below HBX)).mono ?_; rintro e w5 ⟨B5, c5, he, hc5, hl5, hr5, hb5⟩; rw [lk] at he; subst he; (try have HRa := Lib.hid (HRa.out.below hb5)); (try have HRb := Lib.hid (HRb.out.below hb5)); (try have HRk := Lib.hid (HRk.out.below hb5)); (try have HRx := Lib.hid (HRx.out.below hb5)); (try have HRy := Lib.hid (HRy.out.below hb5)); (try have HRq := Lib.hid (HRq.out.below hb5)); (try have HRr := Lib.hid (HRr.out.below hb5)); have HBX := bgo HBX hb5; have HRq := Lib.hid hr5; clear hr5)
            | (go_at_call 40; refine (CP _ _ _).mono ?_; rintro e w6 ⟨rfl, rfl⟩)
            | (go_at_call 41; refine (CQ _ _ _).mono ?_; rintro e w7 ⟨rfl, rfl⟩)
            | (go_at_call 43; refine (CR _ _ _ HRk.out (HK.out.go HBX)).mono ?_; rintro e w8 ⟨B8, c8, he, hc8, hl8, hr8, hb8⟩; rw [tag_len] at he; subst he; (try have HRa := Lib.hid (HRa.out.below hb8)); (try have HRb := Lib.hid (HRb.out.below hb8)); (try have HRk := Lib.hid (HRk.out.below hb8)); (try have HRx := Lib.hid (HRx.out.below hb8)); (try have HRy := Lib.hid (HRy.out.below hb8)); (try have HRq := Lib.hid (HRq.out.below hb8)); (try have HRr := Lib.hid (HRr.out.below hb8)); have HBX := bgo HBX hb8; have HRr := Lib.hid hr8; clear hr8)
            | (go_at_call 44; refine (CT _ _ _ HRk.out).mono ?_; rintro e w9 ⟨B9, c9, he, hc9, hl9, hr9, hb9⟩; rw [tag_len] at he; subst he; (try have HRa := Lib.hid (HRa.out.below hb9)); (try have HRb := Lib.hid (HRb.out.below hb9)); (try have HRk := Lib.hid (HRk.out.below hb9)); (try have HRx := Lib.hid (HRx.out.below hb9)); (try have HRy := Lib.hid (HRy.out.below hb9)); (try have HRq := Lib.hid (HRq.out.below hb9)); (try have HRr := Lib.hid (HRr.out.below hb9)); have HBX := bgo HBX hb9; have HRs := Lib.hid hr9; clear hr9)
            | (go_at_call 18; first | ((with_reducible refine (S4 _ _ _ _ _ HRr.out HRs.out).mono ?_); rintro e w10 ⟨rfl, rfl⟩) | ((with_reducible refine (S1 _ _ _ _ _ HRa.out HRb.out).mono ?_); rintro e w10 ⟨rfl, rfl⟩) | ((with_reducible refine (S2 _ _ _ _ _ HRk.out HRq.out).mono ?_); rintro e w10 ⟨rfl, rfl⟩) | ((with_reducible refine (S0 _).mono ?_); rintro e w10 ⟨rfl, rfl⟩)))
          go_ret
          exact ⟨rfl, HBX⟩
        · skip
          have q3 : ¬ (700 : Int) < p := by omega
          have q4 : ¬ (2200 : Int) < p := by omega
          have q5 : (700 : Int) < z := by omega
          have q6 : ¬ z ≤ 2048 := by omega
          have CA := fun W h1 h2 h3 hK => seal_any A B C n c d p f server nonce plain W HN.out HM.out HP.out (by omega) (by omega) h1 h2 h3 hK
          have CB := fun W h1 h2 h3 => rseal_any A B C n c d p f server nonce plain W HN.out HM.out HP.out (by omega) (by omega) h1 h2 h3
          have hs : (sealL server nonce plain).length = 16 + p + 32 := by rw [sealL_len, HM.out, HP.out]
          have HS := Lib.hid hs
          have S1 := fun A1 A2 c1 c2 W h1 h2 => same_true A1 A2 (16 + p + 32) c1 (16 + p + 32) c2 (sealL server nonce plain) (sealL server nonce plain) W rfl HS.out HS.out h1 h2 HBS.out
          clear hs
          have CP := fun A1 c1 W => pad8_bad A1 32 c1 z W hpad
          have CQ := fun A1 c1 W => rpad8_bad A1 32 c1 z W hpad
          go_enter Tryd.func11, Tryd.ntmps11
          go_wp2_with (first
            | (go_at_call 36; refine (live8_any _ HK.out).mono ?_; rintro e w1 ⟨rfl, hb1⟩; have HBX := hb1)
            | (go_at_call 37; refine (CA _ (HX.out.below HBX) (HY.out.below HBX) (HZ.out.below HBX) (HK.out.go HBX)).mono ?_; rintro e w2 ⟨A2, c2, he, hc2, hr2, hb2⟩; rw [HS.out] at he; subst he; (try have HRa := Lib.hid (HRa.out.below hb2)); (try have HRb := Lib.hid (HRb.out.below hb2)); (try have HRk := Lib.hid (HRk.out.below hb2)); (try have HRx := Lib.hid (HRx.out.below hb2)); (try have HRy := Lib.hid (HRy.out.below hb2)); (try have HRq := Lib.hid (HRq.out.below hb2)); (try have HRr := Lib.hid (HRr.out.below hb2)); have HBX := bgo HBX hb2; have HRa := Lib.hid hr2; clear hr2)
            | (go_at_call 38; refine (CB _ (HX.out.below HBX) (HY.out.below HBX) (HZ.out.below HBX)).mono ?_; rintro e w3 ⟨A3, c3, he, hc3, hr3, hb3⟩; rw [HS.out] at he; subst he; (try have HRa := Lib.hid (HRa.out.below hb3)); (try have HRb := Lib.hid (HRb.out.below hb3)); (try have HRk := Lib.hid (HRk.out.below hb3)); (try have HRx := Lib.hid (HRx.out.below hb3)); (try have HRy := Lib.hid (HRy.out.below hb3)); (try have HRq := Lib.hid (HRq.out.below hb3)); (try have HRr := Lib.hid (HRr.out.below hb3)); have HBX := bgo HBX hb3; have HRb := Lib.hid hr3; clear hr3)
            | (go_at_call 39; refine (CK _ (HX.out.below HBX) (HY.out.below HBX) (HK.out.go HBX)).mono ?_; rintro e w4 ⟨B4, c4, he, hc4, hl4, hr4, hb4⟩; rw [lk] at he; subst he; (try have HRa := Lib.hid (HRa.out.below hb4)); (try have HRb := Lib.hid (HRb.out.below hb4)); (try have HRk := Lib.hid (HRk.out.below hb4)); (try have HRx := Lib.hid (HRx.out.below hb4)); (try have HRy := Lib.hid (HRy.out.below hb4)); (try have HRq := Lib.hid (HRq.out.below hb4)); (try have HRr := Lib.hid (HRr.out.below hb4)); have HBX := bgo HBX hb4; have HRk := Lib.hid hr4; clear hr4)
            | (go_at_call 42; refine (CL _ (HX.out.below HBX) (HY.out.below HBX)).mono ?_; rintro e w5 ⟨B5, c5, he, hc5, hl5, hr5, hb5⟩; rw [lk] at he; subst he; (try have HRa := Lib.hid (HRa.out.below hb5)); (try have HRb := Lib.hid (HRb.out.below hb5)); (try have HRk := Lib.hid (HRk.out.below hb5)); (try have HRx := Lib.hid (HRx.out.below hb5)); (try have HRy := Lib.hid (HRy.out.below hb5)); (try have HRq := Lib.hid (HRq.out.below hb5)); (try have HRr := Lib.hid (HRr.out.below hb5)); have HBX := bgo HBX hb5; have HRq := Lib.hid hr5; clear hr5)
            | (go_at_call 40; refine (CP _ _ _).mono ?_; rintro e w6 ⟨rfl, rfl⟩)
            | (go_at_call 41; refine (CQ _ _ _).mono ?_; rintro e w7 ⟨rfl, rfl⟩)
            | (go_at_call 43; refine (CR _ _ _ HRk.out (HK.out.go HBX)).mono ?_; rintro e w8 ⟨B8, c8, he, hc8, hl8, hr8, hb8⟩; rw [tag_len] at he; subst he; (try have HRa := Lib.hid (HRa.out.below hb8)); (try have HRb := Lib.hid (HRb.out.below hb8)); (try have HRk := Lib.hid (HRk.out.below hb8)); (try have HRx := Lib.hid (HRx.out.below hb8)); (try have HRy := Lib.hid (HRy.out.below hb8)); (try have HRq := Lib.hid (HRq.out.below hb8)); (try have HRr := Lib.hid (HRr.out.below hb8)); have HBX := bgo HBX hb8; have HRr := Lib.hid hr8; clear hr8)
            | (go_at_call 44; refine (CT _ _ _ HRk.out).mono ?_; rintro e w9 ⟨B9, c9, he, hc9, hl9, hr9, hb9⟩; rw [tag_len] at he; subst he; (try have HRa := Lib.hid (HRa.out.below hb9)); (try have HRb := Lib.hid (HRb.out.below hb9)); (try have HRk := Lib.hid (HRk.out.below hb9)); (try have HRx := Lib.hid (HRx.out.below hb9)); (try have HRy := Lib.hid (HRy.out.below hb9)); (try have HRq := Lib.hid (HRq.out.below hb9)); (try have HRr := Lib.hid (HRr.out.below hb9)); have HBX := bgo HBX hb9; have HRs := Lib.hid hr9; clear hr9)
            | (go_at_call 18; first | ((with_reducible refine (S4 _ _ _ _ _ HRr.out HRs.out).mono ?_); rintro e w10 ⟨rfl, rfl⟩) | ((with_reducible refine (S1 _ _ _ _ _ HRa.out HRb.out).mono ?_); rintro e w10 ⟨rfl, rfl⟩) | ((with_reducible refine (S2 _ _ _ _ _ HRk.out HRq.out).mono ?_); rintro e w10 ⟨rfl, rfl⟩) | ((with_reducible refine (S0 _).mono ?_); rintro e w10 ⟨rfl, rfl⟩)))
          go_ret
          exact ⟨rfl, HBX⟩
    · have hbad : m ≠ 16 ∨ 2048 < p := .inl h16
      by_cases h7 : 0 ≤ z ∧ z ≤ 700
      · obtain ⟨N, rfl⟩ := Int.eq_ofNat_of_zero_le h7.1
        have h8 : N ≤ 700 := by omega
        have q3 : ¬ (700 : Int) < p := by omega
        have q4 : ¬ (2200 : Int) < p := by omega
        have q5 : ¬ (700 : Int) < N := by omega
        have CA := fun W => seal_bad A B C n c m d p f W hbad
        have CB := fun W => rseal_bad A B C n c m d p f W hbad
        obtain ⟨E, hE⟩ : ∃ E, E = sealE m p := ⟨_, rfl⟩
        rw [← hE] at CA CB
        clear hE
        have CP := fun A1 c1 W h1 hK => pad8_any A1 32 c1 N k W lk (by omega) (by omega) h1 hK
        have CQ := fun A1 c1 W h1 => rpad8_any A1 32 c1 N k W lk (by omega) (by omega) h1
        have S3 := fun A1 A2 c1 c2 W h1 h2 => same_true A1 A2 N c1 N c2 (streamL (tagL k [2]) N) (streamL (tagL k [2]) N) W rfl (streamL_len _ _) (streamL_len _ _) h1 h2 (streamL_byt _ _)
        go_enter Tryd.func11, Tryd.ntmps11
        go_wp2_with (first
          | (go_at_call 36; refine (live8_any _ HK.out).mono ?_; rintro e w1 ⟨rfl, hb1⟩; have HBX := hb1)
          | (go_at_call 37; refine (CA _).mono ?_; rintro e w2 ⟨rfl, rfl⟩)
          | (go_at_call 38; refine (CB _).mono ?_; rintro e w3 ⟨rfl, rfl⟩)
          | (go_at_call 39; refine (CK _ (HX.out.below HBX) (HY.out.below HBX) (HK.out.go HBX)).mono ?_; rintro e w4 ⟨B4, c4, he, hc4, hl4, hr4, hb4⟩; rw [lk] at he; subst he; (try have HRa := Lib.hid (HRa.out.below hb4)); (try have HRb := Lib.hid (HRb.out.below hb4)); (try have HRk := Lib.hid (HRk.out.below hb4)); (try have HRx := Lib.hid (HRx.out.below hb4)); (try have HRy := Lib.hid (HRy.out.below hb4)); (try have HRq := Lib.hid (HRq.out.below hb4)); (try have HRr := Lib.hid (HRr.out.below hb4)); have HBX := bgo HBX hb4; have HRk := Lib.hid hr4; clear hr4)
          | (go_at_call 42; refine (CL _ (HX.out.below HBX) (HY.out.below HBX)).mono ?_; rintro e w5 ⟨B5, c5, he, hc5, hl5, hr5, hb5⟩; rw [lk] at he; subst he; (try have HRa := Lib.hid (HRa.out.below hb5)); (try have HRb := Lib.hid (HRb.out.below hb5)); (try have HRk := Lib.hid (HRk.out.below hb5)); (try have HRx := Lib.hid (HRx.out.below hb5)); (try have HRy := Lib.hid (HRy.out.below hb5)); (try have HRq := Lib.hid (HRq.out.below hb5)); (try have HRr := Lib.hid (HRr.out.below hb5)); have HBX := bgo HBX hb5; have HRq := Lib.hid hr5; clear hr5)
          | (go_at_call 40; refine (CP _ _ _ HRk.out (HK.out.go HBX)).mono ?_; rintro e w6 ⟨B6, c6, he, hc6, hl6, ho6, hb6⟩; rw [streamL_len] at he ho6; subst he; (try have HRa := Lib.hid (HRa.out.below hb6)); (try have HRb := Lib.hid (HRb.out.below hb6)); (try have HRk := Lib.hid (HRk.out.below hb6)); (try have HRx := Lib.hid (HRx.out.below hb6)); (try have HRy := Lib.hid (HRy.out.below hb6)); (try have HRq := Lib.hid (HRq.out.below hb6)); (try have HRr := Lib.hid (HRr.out.below hb6)); have HBX := bgo HBX hb6; have HRx := Lib.hid (Rd.of_own ho6); clear ho6)
          | (go_at_call 41; refine (CQ _ _ _ HRq.out).mono ?_; rintro e w7 ⟨A7, c7, he, hc7, hr7, hb7⟩; rw [streamL_len] at he; subst he; (try have HRa := Lib.hid (HRa.out.below hb7)); (try have HRb := Lib.hid (HRb.out.below hb7)); (try have HRk := Lib.hid (HRk.out.below hb7)); (try have HRx := Lib.hid (HRx.out.below hb7)); (try have HRy := Lib.hid (HRy.out.below hb7)); (try have HRq := Lib.hid (HRq.out.below hb7)); (try have HRr := Lib.hid (HRr.out.below hb7)); have HBX := bgo HBX hb7; have HRy := Lib.hid hr7; clear hr7)
          | (go_at_call 43; refine (CR _ _ _ HRk.out (HK.out.go HBX)).mono ?_; rintro e w8 ⟨B8, c8, he, hc8, hl8, hr8, hb8⟩; rw [tag_len] at he; subst he; (try have HRa := Lib.hid (HRa.out.below hb8)); (try have HRb := Lib.hid (HRb.out.below hb8)); (try have HRk := Lib.hid (HRk.out.below hb8)); (try have HRx := Lib.hid (HRx.out.below hb8)); (try have HRy := Lib.hid (HRy.out.below hb8)); (try have HRq := Lib.hid (HRq.out.below hb8)); (try have HRr := Lib.hid (HRr.out.below hb8)); have HBX := bgo HBX hb8; have HRr := Lib.hid hr8; clear hr8)
          | (go_at_call 44; refine (CT _ _ _ HRk.out).mono ?_; rintro e w9 ⟨B9, c9, he, hc9, hl9, hr9, hb9⟩; rw [tag_len] at he; subst he; (try have HRa := Lib.hid (HRa.out.below hb9)); (try have HRb := Lib.hid (HRb.out.below hb9)); (try have HRk := Lib.hid (HRk.out.below hb9)); (try have HRx := Lib.hid (HRx.out.below hb9)); (try have HRy := Lib.hid (HRy.out.below hb9)); (try have HRq := Lib.hid (HRq.out.below hb9)); (try have HRr := Lib.hid (HRr.out.below hb9)); have HBX := bgo HBX hb9; have HRs := Lib.hid hr9; clear hr9)
          | (go_at_call 18; first | ((with_reducible refine (S4 _ _ _ _ _ HRr.out HRs.out).mono ?_); rintro e w10 ⟨rfl, rfl⟩) | ((with_reducible refine (S3 _ _ _ _ _ HRx.out HRy.out).mono ?_); rintro e w10 ⟨rfl, rfl⟩) | ((with_reducible refine (S2 _ _ _ _ _ HRk.out HRq.out).mono ?_); rintro e w10 ⟨rfl, rfl⟩) | ((with_reducible refine (S0 _).mono ?_); rintro e w10 ⟨rfl, rfl⟩)))
        go_ret
        exact ⟨rfl, HBX⟩
      · have hpad : z < 0 ∨ 2048 < z := by omega
        by_cases h9 : z < 0
        · skip
          have q3 : ¬ (700 : Int) < p := by omega
          have q4 : ¬ (2200 : Int) < p := by omega
          have q5 : ¬ (700 : Int) < z := by omega
          have CA := fun W => seal_bad A B C n c m d p f W hbad
          have CB := fun W => rseal_bad A B C n c m d p f W hbad
          obtain ⟨E, hE⟩ : ∃ E, E = sealE m p := ⟨_, rfl⟩
          rw [← hE] at CA CB
          clear hE
          have CP := fun A1 c1 W => pad8_bad A1 32 c1 z W hpad
          have CQ := fun A1 c1 W => rpad8_bad A1 32 c1 z W hpad
          go_enter Tryd.func11, Tryd.ntmps11
          go_wp2_with (first
            | (go_at_call 36; refine (live8_any _ HK.out).mono ?_; rintro e w1 ⟨rfl, hb1⟩; have HBX := hb1)
            | (go_at_call 37; refine (CA _).mono ?_; rintro e w2 ⟨rfl, rfl⟩)
            | (go_at_call 38; refine (CB _).mono ?_; rintro e w3 ⟨rfl, rfl⟩)
            | (go_at_call 39; refine (CK _ (HX.out.below HBX) (HY.out.below HBX) (HK.out.go HBX)).mono ?_; rintro e w4 ⟨B4, c4, he, hc4, hl4, hr4, hb4⟩; rw [lk] at he; subst he; (try have HRa := Lib.hid (HRa.out.below hb4)); (try have HRb := Lib.hid (HRb.out.below hb4)); (try have HRk := Lib.hid (HRk.out.below hb4)); (try have HRx := Lib.hid (HRx.out.below hb4)); (try have HRy := Lib.hid (HRy.out.below hb4)); (try have HRq := Lib.hid (HRq.out.below hb4)); (try have HRr := Lib.hid (HRr.out.below hb4)); have HBX := bgo HBX hb4; have HRk := Lib.hid hr4; clear hr4)
            | (go_at_call 42; refine (CL _ (HX.out.below HBX) (HY.out.below HBX)).mono ?_; rintro e w5 ⟨B5, c5, he, hc5, hl5, hr5, hb5⟩; rw [lk] at he; subst he; (try have HRa := Lib.hid (HRa.out.below hb5)); (try have HRb := Lib.hid (HRb.out.below hb5)); (try have HRk := Lib.hid (HRk.out.below hb5)); (try have HRx := Lib.hid (HRx.out.below hb5)); (try have HRy := Lib.hid (HRy.out.below hb5)); (try have HRq := Lib.hid (HRq.out.below hb5)); (try have HRr := Lib.hid (HRr.out.below hb5)); have HBX := bgo HBX hb5; have HRq := Lib.hid hr5; clear hr5)
            | (go_at_call 40; refine (CP _ _ _).mono ?_; rintro e w6 ⟨rfl, rfl⟩)
            | (go_at_call 41; refine (CQ _ _ _).mono ?_; rintro e w7 ⟨rfl, rfl⟩)
            | (go_at_call 43; refine (CR _ _ _ HRk.out (HK.out.go HBX)).mono ?_; rintro e w8 ⟨B8, c8, he, hc8, hl8, hr8, hb8⟩; rw [tag_len] at he; subst he; (try have HRa := Lib.hid (HRa.out.below hb8)); (try have HRb := Lib.hid (HRb.out.below hb8)); (try have HRk := Lib.hid (HRk.out.below hb8)); (try have HRx := Lib.hid (HRx.out.below hb8)); (try have HRy := Lib.hid (HRy.out.below hb8)); (try have HRq := Lib.hid (HRq.out.below hb8)); (try have HRr := Lib.hid (HRr.out.below hb8)); have HBX := bgo HBX hb8; have HRr := Lib.hid hr8; clear hr8)
            | (go_at_call 44; refine (CT _ _ _ HRk.out).mono ?_; rintro e w9 ⟨B9, c9, he, hc9, hl9, hr9, hb9⟩; rw [tag_len] at he; subst he; (try have HRa := Lib.hid (HRa.out.below hb9)); (try have HRb := Lib.hid (HRb.out.below hb9)); (try have HRk := Lib.hid (HRk.out.below hb9)); (try have HRx := Lib.hid (HRx.out.below hb9)); (try have HRy := Lib.hid (HRy.out.below hb9)); (try have HRq := Lib.hid (HRq.out.below hb9)); (try have HRr := Lib.hid (HRr.out.below hb9)); have HBX := bgo HBX hb9; have HRs := Lib.hid hr9; clear hr9)
            | (go_at_call 18; first | ((with_reducible refine (S4 _ _ _ _ _ HRr.out HRs.out).mono ?_); rintro e w10 ⟨rfl, rfl⟩) | ((with_reducible refine (S2 _ _ _ _ _ HRk.out HRq.out).mono ?_); rintro e w10 ⟨rfl, rfl⟩) | ((with_reducible refine (S0 _).mono ?_); rintro e w10 ⟨rfl, rfl⟩)))
          go_ret
          exact ⟨rfl, HBX⟩
        · skip
          have q3 : ¬ (700 : Int) < p := by omega
          have q4 : ¬ (2200 : Int) < p := by omega
          have q5 : (700 : Int) < z := by omega
          have q6 : ¬ z ≤ 2048 := by omega
          have CA := fun W => seal_bad A B C n c m d p f W hbad
          have CB := fun W => rseal_bad A B C n c m d p f W hbad
          obtain ⟨E, hE⟩ : ∃ E, E = sealE m p := ⟨_, rfl⟩
          rw [← hE] at CA CB
          clear hE
          have CP := fun A1 c1 W => pad8_bad A1 32 c1 z W hpad
          have CQ := fun A1 c1 W => rpad8_bad A1 32 c1 z W hpad
          go_enter Tryd.func11, Tryd.ntmps11
          go_wp2_with (first
            | (go_at_call 36; refine (live8_any _ HK.out).mono ?_; rintro e w1 ⟨rfl, hb1⟩; have HBX := hb1)
            | (go_at_call 37; refine (CA _).mono ?_; rintro e w2 ⟨rfl, rfl⟩)
            | (go_at_call 38; refine (CB _).mono ?_; rintro e w3 ⟨rfl, rfl⟩)
            | (go_at_call 39; refine (CK _ (HX.out.below HBX) (HY.out.below HBX) (HK.out.go HBX)).mono ?_; rintro e w4 ⟨B4, c4, he, hc4, hl4, hr4, hb4⟩; rw [lk] at he; subst he; (try have HRa := Lib.hid (HRa.out.below hb4)); (try have HRb := Lib.hid (HRb.out.below hb4)); (try have HRk := Lib.hid (HRk.out.below hb4)); (try have HRx := Lib.hid (HRx.out.below hb4)); (try have HRy := Lib.hid (HRy.out.below hb4)); (try have HRq := Lib.hid (HRq.out.below hb4)); (try have HRr := Lib.hid (HRr.out.below hb4)); have HBX := bgo HBX hb4; have HRk := Lib.hid hr4; clear hr4)
            | (go_at_call 42; refine (CL _ (HX.out.below HBX) (HY.out.below HBX)).mono ?_; rintro e w5 ⟨B5, c5, he, hc5, hl5, hr5, hb5⟩; rw [lk] at he; subst he; (try have HRa := Lib.hid (HRa.out.below hb5)); (try have HRb := Lib.hid (HRb.out.below hb5)); (try have HRk := Lib.hid (HRk.out.below hb5)); (try have HRx := Lib.hid (HRx.out.below hb5)); (try have HRy := Lib.hid (HRy.out.below hb5)); (try have HRq := Lib.hid (HRq.out.below hb5)); (try have HRr := Lib.hid (HRr.out.below hb5)); have HBX := bgo HBX hb5; have HRq := Lib.hid hr5; clear hr5)
            | (go_at_call 40; refine (CP _ _ _).mono ?_; rintro e w6 ⟨rfl, rfl⟩)
            | (go_at_call 41; refine (CQ _ _ _).mono ?_; rintro e w7 ⟨rfl, rfl⟩)
            | (go_at_call 43; refine (CR _ _ _ HRk.out (HK.out.go HBX)).mono ?_; rintro e w8 ⟨B8, c8, he, hc8, hl8, hr8, hb8⟩; rw [tag_len] at he; subst he; (try have HRa := Lib.hid (HRa.out.below hb8)); (try have HRb := Lib.hid (HRb.out.below hb8)); (try have HRk := Lib.hid (HRk.out.below hb8)); (try have HRx := Lib.hid (HRx.out.below hb8)); (try have HRy := Lib.hid (HRy.out.below hb8)); (try have HRq := Lib.hid (HRq.out.below hb8)); (try have HRr := Lib.hid (HRr.out.below hb8)); have HBX := bgo HBX hb8; have HRr := Lib.hid hr8; clear hr8)
            | (go_at_call 44; refine (CT _ _ _ HRk.out).mono ?_; rintro e w9 ⟨B9, c9, he, hc9, hl9, hr9, hb9⟩; rw [tag_len] at he; subst he; (try have HRa := Lib.hid (HRa.out.below hb9)); (try have HRb := Lib.hid (HRb.out.below hb9)); (try have HRk := Lib.hid (HRk.out.below hb9)); (try have HRx := Lib.hid (HRx.out.below hb9)); (try have HRy := Lib.hid (HRy.out.below hb9)); (try have HRq := Lib.hid (HRq.out.below hb9)); (try have HRr := Lib.hid (HRr.out.below hb9)); have HBX := bgo HBX hb9; have HRs := Lib.hid hr9; clear hr9)
            | (go_at_call 18; first | ((with_reducible refine (S4 _ _ _ _ _ HRr.out HRs.out).mono ?_); rintro e w10 ⟨rfl, rfl⟩) | ((with_reducible refine (S2 _ _ _ _ _ HRk.out HRq.out).mono ?_); rintro e w10 ⟨rfl, rfl⟩) | ((with_reducible refine (S0 _).mono ?_); rintro e w10 ⟨rfl, rfl⟩)))
          go_ret
          exact ⟨rfl, HBX⟩
  · have hbad : m ≠ 16 ∨ 2048 < p := .inr (by omega)
    by_cases h7 : 0 ≤ z ∧ z ≤ 700
    · obtain ⟨N, rfl⟩ := Int.eq_ofNat_of_zero_le h7.1
      have h8 : N ≤ 700 := by omega
      have q : (700 : Int) < p := by omega
      have q3 : ¬ (p : Int) ≤ 2048 := by omega
      have q4 : ¬ (2200 : Int) < p := by omega
      have q5 : ¬ (700 : Int) < N := by omega
      have CA := fun W => seal_bad A B C n c m d p f W hbad
      have CB := fun W => rseal_bad A B C n c m d p f W hbad
      obtain ⟨E, hE⟩ : ∃ E, E = sealE m p := ⟨_, rfl⟩
      rw [← hE] at CA CB
      clear hE
      have CP := fun A1 c1 W h1 hK => pad8_any A1 32 c1 N k W lk (by omega) (by omega) h1 hK
      have CQ := fun A1 c1 W h1 => rpad8_any A1 32 c1 N k W lk (by omega) (by omega) h1
      have S3 := fun A1 A2 c1 c2 W h1 h2 => same_true A1 A2 N c1 N c2 (streamL (tagL k [2]) N) (streamL (tagL k [2]) N) W rfl (streamL_len _ _) (streamL_len _ _) h1 h2 (streamL_byt _ _)
      go_enter Tryd.func11, Tryd.ntmps11
      go_wp2_with (first
        | (go_at_call 36; refine (live8_any _ HK.out).mono ?_; rintro e w1 ⟨rfl, hb1⟩; have HBX := hb1)
        | (go_at_call 37; refine (CA _).mono ?_; rintro e w2 ⟨rfl, rfl⟩)
        | (go_at_call 38; refine (CB _).mono ?_; rintro e w3 ⟨rfl, rfl⟩)
        | (go_at_call 39; refine (CK _ (HX.out.below HBX) (HY.out.below HBX) (HK.out.go HBX)).mono ?_; rintro e w4 ⟨B4, c4, he, hc4, hl4, hr4, hb4⟩; rw [lk] at he; subst he; (try have HRa := Lib.hid (HRa.out.below hb4)); (try have HRb := Lib.hid (HRb.out.below hb4)); (try have HRk := Lib.hid (HRk.out.below hb4)); (try have HRx := Lib.hid (HRx.out.below hb4)); (try have HRy := Lib.hid (HRy.out.below hb4)); (try have HRq := Lib.hid (HRq.out.below hb4)); (try have HRr := Lib.hid (HRr.out.below hb4)); have HBX := bgo HBX hb4; have HRk := Lib.hid hr4; clear hr4)
        | (go_at_call 42; refine (CL _ (HX.out.below HBX) (HY.out.below HBX)).mono ?_; rintro e w5 ⟨B5, c5, he, hc5, hl5, hr5, hb5⟩; rw [lk] at he; subst he; (try have HRa := Lib.hid (HRa.out.below hb5)); (try have HRb := Lib.hid (HRb.out.below hb5)); (try have HRk := Lib.hid (HRk.out.below hb5)); (try have HRx := Lib.hid (HRx.out.below hb5)); (try have HRy := Lib.hid (HRy.out.below hb5)); (try have HRq := Lib.hid (HRq.out.below hb5)); (try have HRr := Lib.hid (HRr.out.below hb5)); have HBX := bgo HBX hb5; have HRq := Lib.hid hr5; clear hr5)
        | (go_at_call 40; refine (CP _ _ _ HRk.out (HK.out.go HBX)).mono ?_; rintro e w6 ⟨B6, c6, he, hc6, hl6, ho6, hb6⟩; rw [streamL_len] at he ho6; subst he; (try have HRa := Lib.hid (HRa.out.below hb6)); (try have HRb := Lib.hid (HRb.out.below hb6)); (try have HRk := Lib.hid (HRk.out.below hb6)); (try have HRx := Lib.hid (HRx.out.below hb6)); (try have HRy := Lib.hid (HRy.out.below hb6)); (try have HRq := Lib.hid (HRq.out.below hb6)); (try have HRr := Lib.hid (HRr.out.below hb6)); have HBX := bgo HBX hb6; have HRx := Lib.hid (Rd.of_own ho6); clear ho6)
        | (go_at_call 41; refine (CQ _ _ _ HRq.out).mono ?_; rintro e w7 ⟨A7, c7, he, hc7, hr7, hb7⟩; rw [streamL_len] at he; subst he; (try have HRa := Lib.hid (HRa.out.below hb7)); (try have HRb := Lib.hid (HRb.out.below hb7)); (try have HRk := Lib.hid (HRk.out.below hb7)); (try have HRx := Lib.hid (HRx.out.below hb7)); (try have HRy := Lib.hid (HRy.out.below hb7)); (try have HRq := Lib.hid (HRq.out.below hb7)); (try have HRr := Lib.hid (HRr.out.below hb7)); have HBX := bgo HBX hb7; have HRy := Lib.hid hr7; clear hr7)
        | (go_at_call 43; refine (CR _ _ _ HRk.out (HK.out.go HBX)).mono ?_; rintro e w8 ⟨B8, c8, he, hc8, hl8, hr8, hb8⟩; rw [tag_len] at he; subst he; (try have HRa := Lib.hid (HRa.out.below hb8)); (try have HRb := Lib.hid (HRb.out.below hb8)); (try have HRk := Lib.hid (HRk.out.below hb8)); (try have HRx := Lib.hid (HRx.out.below hb8)); (try have HRy := Lib.hid (HRy.out.below hb8)); (try have HRq := Lib.hid (HRq.out.below hb8)); (try have HRr := Lib.hid (HRr.out.below hb8)); have HBX := bgo HBX hb8; have HRr := Lib.hid hr8; clear hr8)
        | (go_at_call 44; refine (CT _ _ _ HRk.out).mono ?_; rintro e w9 ⟨B9, c9, he, hc9, hl9, hr9, hb9⟩; rw [tag_len] at he; subst he; (try have HRa := Lib.hid (HRa.out.below hb9)); (try have HRb := Lib.hid (HRb.out.below hb9)); (try have HRk := Lib.hid (HRk.out.below hb9)); (try have HRx := Lib.hid (HRx.out.below hb9)); (try have HRy := Lib.hid (HRy.out.below hb9)); (try have HRq := Lib.hid (HRq.out.below hb9)); (try have HRr := Lib.hid (HRr.out.below hb9)); have HBX := bgo HBX hb9; have HRs := Lib.hid hr9; clear hr9)
        | (go_at_call 18; first | ((with_reducible refine (S4 _ _ _ _ _ HRr.out HRs.out).mono ?_); rintro e w10 ⟨rfl, rfl⟩) | ((with_reducible refine (S3 _ _ _ _ _ HRx.out HRy.out).mono ?_); rintro e w10 ⟨rfl, rfl⟩) | ((with_reducible refine (S2 _ _ _ _ _ HRk.out HRq.out).mono ?_); rintro e w10 ⟨rfl, rfl⟩) | ((with_reducible refine (S0 _).mono ?_); rintro e w10 ⟨rfl, rfl⟩)))
      go_ret
      exact ⟨rfl, HBX⟩
    · have hpad : z < 0 ∨ 2048 < z := by omega
      by_cases h9 : z < 0
      · skip
        have q : (700 : Int) < p := by omega
        have q3 : ¬ (p : Int) ≤ 2048 := by omega
        have q4 : ¬ (2200 : Int) < p := by omega
        have q5 : ¬ (700 : Int) < z := by omega
        have CA := fun W => seal_bad A B C n c m d p f W hbad
        have CB := fun W => rseal_bad A B C n c m d p f W hbad
        obtain ⟨E, hE⟩ : ∃ E, E = sealE m p := ⟨_, rfl⟩
        rw [← hE] at CA CB
        clear hE
        have CP := fun A1 c1 W => pad8_bad A1 32 c1 z W hpad
        have CQ := fun A1 c1 W => rpad8_bad A1 32 c1 z W hpad
        go_enter Tryd.func11, Tryd.ntmps11
        go_wp2_with (first
          | (go_at_call 36; refine (live8_any _ HK.out).mono ?_; rintro e w1 ⟨rfl, hb1⟩; have HBX := hb1)
          | (go_at_call 37; refine (CA _).mono ?_; rintro e w2 ⟨rfl, rfl⟩)
          | (go_at_call 38; refine (CB _).mono ?_; rintro e w3 ⟨rfl, rfl⟩)
          | (go_at_call 39; refine (CK _ (HX.out.below HBX) (HY.out.below HBX) (HK.out.go HBX)).mono ?_; rintro e w4 ⟨B4, c4, he, hc4, hl4, hr4, hb4⟩; rw [lk] at he; subst he; (try have HRa := Lib.hid (HRa.out.below hb4)); (try have HRb := Lib.hid (HRb.out.below hb4)); (try have HRk := Lib.hid (HRk.out.below hb4)); (try have HRx := Lib.hid (HRx.out.below hb4)); (try have HRy := Lib.hid (HRy.out.below hb4)); (try have HRq := Lib.hid (HRq.out.below hb4)); (try have HRr := Lib.hid (HRr.out.below hb4)); have HBX := bgo HBX hb4; have HRk := Lib.hid hr4; clear hr4)
          | (go_at_call 42; refine (CL _ (HX.out.below HBX) (HY.out.below HBX)).mono ?_; rintro e w5 ⟨B5, c5, he, hc5, hl5, hr5, hb5⟩; rw [lk] at he; subst he; (try have HRa := Lib.hid (HRa.out.below hb5)); (try have HRb := Lib.hid (HRb.out.below hb5)); (try have HRk := Lib.hid (HRk.out.below hb5)); (try have HRx := Lib.hid (HRx.out.below hb5)); (try have HRy := Lib.hid (HRy.out.below hb5)); (try have HRq := Lib.hid (HRq.out.below hb5)); (try have HRr := Lib.hid (HRr.out.below hb5)); have HBX := bgo HBX hb5; have HRq := Lib.hid hr5; clear hr5)
          | (go_at_call 40; refine (CP _ _ _).mono ?_; rintro e w6 ⟨rfl, rfl⟩)
          | (go_at_call 41; refine (CQ _ _ _).mono ?_; rintro e w7 ⟨rfl, rfl⟩)
          | (go_at_call 43; refine (CR _ _ _ HRk.out (HK.out.go HBX)).mono ?_; rintro e w8 ⟨B8, c8, he, hc8, hl8, hr8, hb8⟩; rw [tag_len] at he; subst he; (try have HRa := Lib.hid (HRa.out.below hb8)); (try have HRb := Lib.hid (HRb.out.below hb8)); (try have HRk := Lib.hid (HRk.out.below hb8)); (try have HRx := Lib.hid (HRx.out.below hb8)); (try have HRy := Lib.hid (HRy.out.below hb8)); (try have HRq := Lib.hid (HRq.out.below hb8)); (try have HRr := Lib.hid (HRr.out.below hb8)); have HBX := bgo HBX hb8; have HRr := Lib.hid hr8; clear hr8)
          | (go_at_call 44; refine (CT _ _ _ HRk.out).mono ?_; rintro e w9 ⟨B9, c9, he, hc9, hl9, hr9, hb9⟩; rw [tag_len] at he; subst he; (try have HRa := Lib.hid (HRa.out.below hb9)); (try have HRb := Lib.hid (HRb.out.below hb9)); (try have HRk := Lib.hid (HRk.out.below hb9)); (try have HRx := Lib.hid (HRx.out.below hb9)); (try have HRy := Lib.hid (HRy.out.below hb9)); (try have HRq := Lib.hid (HRq.out.below hb9)); (try have HRr := Lib.hid (HRr.out.below hb9)); have HBX := bgo HBX hb9; have HRs := Lib.hid hr9; clear hr9)
          | (go_at_call 18; first | ((with_reducible refine (S4 _ _ _ _ _ HRr.out HRs.out).mono ?_); rintro e w10 ⟨rfl, rfl⟩) | ((with_reducible refine (S2 _ _ _ _ _ HRk.out HRq.out).mono ?_); rintro e w10 ⟨rfl, rfl⟩) | ((with_reducible refine (S0 _).mono ?_); rintro e w10 ⟨rfl, rfl⟩)))
        go_ret
        exact ⟨rfl, HBX⟩
      · skip
        have q : (700 : Int) < p := by omega
        have q3 : ¬ (p : Int) ≤ 2048 := by omega
        have q4 : ¬ (2200 : Int) < p := by omega
        have q5 : (700 : Int) < z := by omega
        have q6 : ¬ z ≤ 2048 := by omega
        have CA := fun W => seal_bad A B C n c m d p f W hbad
        have CB := fun W => rseal_bad A B C n c m d p f W hbad
        obtain ⟨E, hE⟩ : ∃ E, E = sealE m p := ⟨_, rfl⟩
        rw [← hE] at CA CB
        clear hE
        have CP := fun A1 c1 W => pad8_bad A1 32 c1 z W hpad
        have CQ := fun A1 c1 W => rpad8_bad A1 32 c1 z W hpad
        go_enter Tryd.func11, Tryd.ntmps11
        go_wp2_with (first
          | (go_at_call 36; refine (live8_any _ HK.out).mono ?_; rintro e w1 ⟨rfl, hb1⟩; have HBX := hb1)
          | (go_at_call 37; refine (CA _).mono ?_; rintro e w2 ⟨rfl, rfl⟩)
          | (go_at_call 38; refine (CB _).mono ?_; rintro e w3 ⟨rfl, rfl⟩)
          | (go_at_call 39; refine (CK _ (HX.out.below HBX) (HY.out.below HBX) (HK.out.go HBX)).mono ?_; rintro e w4 ⟨B4, c4, he, hc4, hl4, hr4, hb4⟩; rw [lk] at he; subst he; (try have HRa := Lib.hid (HRa.out.below hb4)); (try have HRb := Lib.hid (HRb.out.below hb4)); (try have HRk := Lib.hid (HRk.out.below hb4)); (try have HRx := Lib.hid (HRx.out.below hb4)); (try have HRy := Lib.hid (HRy.out.below hb4)); (try have HRq := Lib.hid (HRq.out.below hb4)); (try have HRr := Lib.hid (HRr.out.below hb4)); have HBX := bgo HBX hb4; have HRk := Lib.hid hr4; clear hr4)
          | (go_at_call 42; refine (CL _ (HX.out.below HBX) (HY.out.below HBX)).mono ?_; rintro e w5 ⟨B5, c5, he, hc5, hl5, hr5, hb5⟩; rw [lk] at he; subst he; (try have HRa := Lib.hid (HRa.out.below hb5)); (try have HRb := Lib.hid (HRb.out.below hb5)); (try have HRk := Lib.hid (HRk.out.below hb5)); (try have HRx := Lib.hid (HRx.out.below hb5)); (try have HRy := Lib.hid (HRy.out.below hb5)); (try have HRq := Lib.hid (HRq.out.below hb5)); (try have HRr := Lib.hid (HRr.out.below hb5)); have HBX := bgo HBX hb5; have HRq := Lib.hid hr5; clear hr5)
          | (go_at_call 40; refine (CP _ _ _).mono ?_; rintro e w6 ⟨rfl, rfl⟩)
          | (go_at_call 41; refine (CQ _ _ _).mono ?_; rintro e w7 ⟨rfl, rfl⟩)
          | (go_at_call 43; refine (CR _ _ _ HRk.out (HK.out.go HBX)).mono ?_; rintro e w8 ⟨B8, c8, he, hc8, hl8, hr8, hb8⟩; rw [tag_len] at he; subst he; (try have HRa := Lib.hid (HRa.out.below hb8)); (try have HRb := Lib.hid (HRb.out.below hb8)); (try have HRk := Lib.hid (HRk.out.below hb8)); (try have HRx := Lib.hid (HRx.out.below hb8)); (try have HRy := Lib.hid (HRy.out.below hb8)); (try have HRq := Lib.hid (HRq.out.below hb8)); (try have HRr := Lib.hid (HRr.out.below hb8)); have HBX := bgo HBX hb8; have HRr := Lib.hid hr8; clear hr8)
          | (go_at_call 44; refine (CT _ _ _ HRk.out).mono ?_; rintro e w9 ⟨B9, c9, he, hc9, hl9, hr9, hb9⟩; rw [tag_len] at he; subst he; (try have HRa := Lib.hid (HRa.out.below hb9)); (try have HRb := Lib.hid (HRb.out.below hb9)); (try have HRk := Lib.hid (HRk.out.below hb9)); (try have HRx := Lib.hid (HRx.out.below hb9)); (try have HRy := Lib.hid (HRy.out.below hb9)); (try have HRq := Lib.hid (HRq.out.below hb9)); (try have HRr := Lib.hid (HRr.out.below hb9)); have HBX := bgo HBX hb9; have HRs := Lib.hid hr9; clear hr9)
          | (go_at_call 18; first | ((with_reducible refine (S4 _ _ _ _ _ HRr.out HRs.out).mono ?_); rintro e w10 ⟨rfl, rfl⟩) | ((with_reducible refine (S2 _ _ _ _ _ HRk.out HRq.out).mono ?_); rintro e w10 ⟨rfl, rfl⟩) | ((with_reducible refine (S0 _).mono ?_); rintro e w10 ⟨rfl, rfl⟩)))
        go_ret
        exact ⟨rfl, HBX⟩

theorem layerSeals_of {H : Type} {enc : TypeId × Value → H} (W : World) (base : Nat) (args : Array Value) (ds : List (DataW H)) (p : List MemPlace)
    (hval : ∀ (j : Nat) t v, Tryd.f11.params[j]? = some t → args[j]? = some v → Value.okWide Tryd.prog W .any base t v)
    (hA : DataW.TrodAll enc Tryd.prog W 0 (fun _ => true) true Tryd.f11.params.toList args.toList ds p) (hlt : ∀ x ∈ p, x.block < W.heap.size)
    (hz : (DataW.weightsEach Tryd.prog Tryd.f11.params.toList ds).all (· ≤ reachBytes) = true) (hK : Konst W) : Calls Tryd.prog 11 args W (Yes W) := by
  rw [Tryd.params11] at hA hval hz
  obtain ⟨v0, vs0, d0, ds0, p0, q0, hargs, rfl, rfl, h0, r0⟩ := trodAll_cons hA
  obtain ⟨v1, vs1, d1, ds1, p1, q1, rfl, rfl, rfl, h1, r1⟩ := trodAll_cons r0
  obtain ⟨v2, vs2, d2, ds2, p2, q2, rfl, rfl, rfl, h2, r2⟩ := trodAll_cons r1
  obtain ⟨v3, vs3, d3, ds3, p3, q3, rfl, rfl, rfl, h3, r3⟩ := trodAll_cons r2
  obtain ⟨v4, vs4, d4, ds4, p4, q4, rfl, rfl, rfl, h4, r4⟩ := trodAll_cons r3
  obtain ⟨rfl, rfl, rfl⟩ := trodAll_nil r4
  obtain rfl : args = #[v0, v1, v2, v3, v4] := by cases args; simp_all
  obtain ⟨A, n, c, xs, rfl, hn0, hr0, hb0, hc0, hd0⟩ := open_bytes2 h0 (hval 0 _ _ rfl rfl)
  obtain ⟨B, m, d, ys, rfl, hn1, hr1, hb1, hc1, hd1⟩ := open_bytes2 h1 (hval 1 _ _ rfl rfl)
  obtain ⟨C, t, f, us, rfl, hn2, hr2, hb2, hc2, hd2⟩ := open_bytes2 h2 (hval 2 _ _ rfl rfl)
  obtain ⟨z, rfl, rfl, rfl, wz3⟩ := open_int Tryd.underlying3 (hval 3 _ _ rfl rfl) h3
  obtain ⟨z2, rfl, rfl, rfl, wz4⟩ := open_int Tryd.underlying5 (hval 4 _ _ rfl rfl) h4
  exact layerSeals_walk A B C n c m d t f z z2 xs ys us W hn0 hn1 hn2 hr0 hr1 hr2 hb1 hb2 hK
end Go.Proofs.YtklamgdgdamcgaaDoor
