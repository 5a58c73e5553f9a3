/- What has not the tag of its bytes is told as such. -/
import Derived.Test.YtgclcpopibjocaaDoorLh0
import Derived.Deep.RegionWith
import Derived.Deep.RegionHeld3
import Derived.Test.YtgclcpopibjocaaDoorTb0
import Derived.Deep.DeepMust
namespace Go.Proofs.YtgclcpopibjocaaDoor
open Go.RowKit Go.ChangeShapes Go.WideShapes Go.ChangeAt
set_option linter.unusedSimpArgs false
set_option linter.unusedVariables false
set_option maxRecDepth 100000

theorem tagged_open {server b e : List Int} (h16 : 16 ≤ b.length) (hm : b.length ≤ 2000) (he : e.length = 32) : openE server (b ++ e) = badTag (tagL (tagL server (nonL b)) [3]) b e := by
  have hl : (b ++ e).length = b.length + 32 := by rw [List.length_append, he]
  have h1 : nonL (b ++ e) = nonL b := by rw [nonL, nonL, List.drop_zero, List.drop_zero, List.take_append_of_le_length h16]
  have h2 : bodyL (b ++ e) = b := by rw [bodyL, List.drop_zero, hl, Nat.add_sub_cancel, List.take_left]
  have h3 : endL (b ++ e) = e := by rw [endL, hl, Nat.add_sub_cancel, List.drop_left, List.take_of_length_le (by omega)]
  rw [openE_ok (by omega) (by omega), h1, h2, h3]

set_option maxHeartbeats 2000000 in
theorem layerTag_same (A : Option Addr) (b0 o0 n c m d : Nat) (server b l : List Int) (w : World) (hn : server.length = n) (hm : b.length = m) (hl : l.length = 32) (hmd : m ≤ d) (h200 : n ≤ 200) (h16 : 16 ≤ m) (h700 : m ≤ 700) (hx : Rd w A (nums .u8 server)) (hy : Rd w (some ⟨b0, o0, none⟩) (nums .u8 b)) (bb : Byt b) (bl : Byt l) (hK : Konst w) (heq : l = tagL (tagL (tagL server (nonL b)) [3]) b) :
    Calls Tryd.prog 7 #[.slice A n c, .slice (some ⟨b0, o0, none⟩) m d, .agg (nums .u8 l).toArray] w (Yes w) := by
  obtain ⟨i0, hi, hz0, hz1, hz2⟩ := info_parts infoByte
  obtain ⟨cs, hcs⟩ : ∃ cs, cs = (nums .u8 l).toArray := ⟨_, rfl⟩
  have hsz : cs.size = 32 := by rw [hcs]; simp [hl]
  have HR0 := Lib.hid (show Rd (w.alloc (.cells cs 49)) (some ⟨w.heap.size, 0, none⟩) (nums .u8 l) by rw [hcs]; exact rd_new w l _)
  rw [← hcs]
  have q1 : ¬ (200 : Int) < n := by omega
  have q2 : ¬ (m : Int) < 16 := by omega
  have q3 : ¬ (700 : Int) < m := by omega
  have q4 : (16 : Int) ≤ d := by omega
  have hH := tagged_open (server := server) (b := b) (e := tagL (tagL (tagL server (nonL b)) [3]) b) (by omega) (by omega) (tag_len _ _)
  rw [badTag, if_pos rfl] at hH
  have hL := tagged_open (server := server) (b := b) (e := l) (by omega) (by omega) hl
  rw [badTag, if_pos heq] at hL
  have nQ : (nonL b).length = 16 := by simp [nonL]; omega
  have hr0 := hy.part 0 16
  rw [Nat.add_zero] at hr0
  have hr0 : Rd w (some ⟨b0, o0, none⟩) (nums .u8 (nonL b)) := hr0
  obtain ⟨k, hk⟩ : ∃ k, k = tagL server (nonL b) := ⟨_, rfl⟩
  have lk : k.length = 32 := by rw [hk, tag_len]
  have C1 := fun W h1 h2 hK => tag_any A (some ⟨b0, o0, none⟩) n c 16 d server (nonL b) W hn nQ (by omega) (by omega) h1 h2 hK
  rw [← hk] at C1 heq hH
  have C2 : ∀ A1 c1 (W : World), Rd W A1 (nums .u8 k) → Konst (W.alloc (.cells #[.int .u8 3] 5)) → Calls Tryd.prog 24 #[.slice A1 32 c1, .slice (some ⟨W.heap.size, 0, none⟩) 1 1] (W.alloc (.cells #[.int .u8 3] 5)) (IsBytes (W.alloc (.cells #[.int .u8 3] 5)) (tagL k [3])) := fun A1 c1 (W : World) h1 hK => tag_any A1 (some ⟨W.heap.size, 0, none⟩) 32 c1 1 1 k [3] (W.alloc (.cells (nums .u8 [3]).toArray 5)) lk rfl (by omega) (by omega) (Rd.below h1 (bal brf _)) (rd_new W [3] 5) hK
  obtain ⟨k3, hk3⟩ : ∃ k3, k3 = tagL k [3] := ⟨_, rfl⟩
  have lk3 : k3.length = 32 := by rw [hk3, tag_len]
  rw [← hk3] at C2 heq hH
  have C3 := fun A1 c1 W h1 h2 hK => tag_any A1 (some ⟨b0, o0, none⟩) 32 c1 m d k3 b W lk3 hm (by omega) (by omega) h1 h2 hK
  have br : Byt (tagL k3 b) := tag_byt _ _
  have lr : (tagL k3 b).length = 32 := tag_len _ _
  obtain ⟨r, hr⟩ : ∃ r, r = tagL k3 b := ⟨_, rfl⟩
  rw [← hr] at C3 heq hH br lr
  have hx1 : (b ++ r).length = m + 32 := by rw [List.length_append, hm, lr]
  have hx2 : (b ++ l).length = m + 32 := by rw [List.length_append, hm, hl]
  have bx1 : Byt (b ++ r) := fun x hx => (List.mem_append.1 hx).elim (bb x) (br x)
  have bx2 : Byt (b ++ l) := fun x hx => (List.mem_append.1 hx).elim (bb x) (bl x)
  have CO := fun B o c1 W hc h1 h2 hK => open_any A B o n c (m + 32) c1 server (b ++ r) W hn hx1 (by omega) (by omega) (by omega) hc h1 h2 bx1 hK hH
  have CP := fun B o c1 W hc h1 h2 hK => open_any A B o n c (m + 32) c1 server (b ++ l) W hn hx2 (by omega) (by omega) (by omega) hc h1 h2 bx2 hK hL
  have CS := fun A1 A2 c1 c2 W h1 h2 => same_any A1 A2 32 c1 32 c2 l r W hl lr h1 h2 bl br
  have hdec : decide (l = r) = true := by simp [heq]
  have HDC := Lib.hid hdec
  have HX := Lib.hid (hx.below (bal brf (.cells cs 49)))
  have HY := Lib.hid (hy.below (bal brf (.cells cs 49)))
  have HY0 := Lib.hid (hr0.below (bal brf (.cells cs 49)))
  have HK0 := Lib.hid (hK.go (bal brf (.cells cs 49)))
  have hnl : (nums .u8 b).length = m := by simp [hm]
  have HNL := Lib.hid hnl
  have hrl : (nums .u8 r).length = 32 := by simp [lr]
  have HRL := Lib.hid hrl
  have HM := Lib.hid hm
  have HL := Lib.hid hl
  have hll : (nums .u8 l).length = 32 := by simp [hl]
  have HLL := Lib.hid hll
  have HB2 := Lib.hid hx2
  clear hx hy hr0 hn hm hl hK bb bl br heq hH hL hcs hk hk3 hr nQ hdec hnl hrl hll hx1 hx2 bx1 bx2
  go_enter Tryd.func7, Tryd.ntmps7
  go_upto_region 8 with (first
    | (go_at_call 25; refine (live8_any _ HK0.out).mono ?_; rintro e w1 ⟨rfl, hb1⟩; have HBX := hb1)
    | (go_at_call 24; first
        | ((with_reducible refine (C1 _ (HX.out.below HBX) (HY0.out.below HBX) (HK0.out.go HBX)).mono ?_); rintro e w2 ⟨B2, c2, he, hc2, hl2, hr2, hb2⟩; rw [lk] at he; subst he; have HBX := bgo HBX hb2; have HRk := Lib.hid hr2; clear hr2)
        | ((with_reducible refine (C2 _ _ _ HRk.out (HK0.out.go (bal HBX _))).mono ?_); rintro e w3 ⟨B3, c3, he, hc3, hl3, hr3, hb3⟩; rw [lk3] at he; subst he; have HBX := bgo (bal HBX _) hb3; have HR3 := Lib.hid hr3; clear hr3)
        | ((with_reducible refine (C3 _ _ _ HR3.out (HY.out.below HBX) (HK0.out.go HBX)).mono ?_); rintro e w4 ⟨B4, c4, he, hc4, hl4, hr4, hb4⟩; rw [lr] at he; subst he; have HBq := bgo HBX hb4; have HBX := HBq; have HRr := Lib.hid hr4; have HRq := Lib.hid hr4; clear hr4))
    | (at_builtin; first
        | (refine append_vs rfl _ _ 22 rfl w4.heap.size 5 i0 (.int .u8 0) 1 Tryd.underlying22 hi hz0 hz1 hz2 rfl (.slice none 0 0) 0 [] rfl ⟨rfl, .inl ⟨rfl, rfl⟩⟩ _ m d (nums .u8 b) rfl HNL.out (HY.out.below HBX) nums_u8_one (by unfold maxLen; omega) (by omega) (Nat.le_refl _) ?_; intro v5 w5 hown5 hgrow5; rw [Nat.zero_add, List.nil_append] at hown5; have hb5 : Below w4.heap.size w4 w5 := brf.grown hgrow5 (Nat.le_refl _) (fun k e => by simp [Value.ownBlock] at e); have HBX := bgo HBX hb5; have HRr := Lib.hid (HRr.out.below hb5); clear hgrow5)
        | (refine append_vs rfl _ _ 22 rfl w4.heap.size 5 i0 (.int .u8 0) 1 Tryd.underlying22 hi hz0 hz1 hz2 rfl _ m _ rfl hown5 _ 32 _ _ rfl HRL.out HRr.out nums_u8_one (by unfold maxLen; omega) (by omega) hb5.size ?_; intro v6 w6 hown6 hgrow6; have hb6 : Below w4.heap.size w4 w6 := keep_below0 hown5 hgrow6 hb5 hb5.size (Nat.le_refl _); have hb46 : Below w4.heap.size w4 w6 := hb6; have HRr := Lib.hid (HRq.out.below hb6); have HBX := bgo HBq hb6; obtain ⟨A6, c6, rfl⟩ := own_slice hown6; have hc6 := (own_cap6 hown6).1; rw [← List.map_append] at hown6; obtain ⟨x6, y6, rfl, _, _⟩ := (Rd.of_own hown6).at_ (by simp [HM.out]; omega); have HRx := Lib.hid (Rd.of_own hown6); clear hown6 hgrow6 hown5))
    | (go_at_call 34; refine (CO _ _ _ _ hc6 (HX.out.below HBX) HRx.out (HK0.out.go HBX)).mono ?_; rintro e w7 ⟨A7, B7, c7, rfl, _, _, _, _, hb7⟩; have HBX := bgo HBX hb7; have HRr := Lib.hid (HRr.out.below hb7)))
  go_region_held3 (fun x => Below w7.heap.size w7 x) (first | assumption | exact bdr brf)
    (first
      | (refine step_append_vs rfl _ _ 22 (by rfl) w7.heap.size 5 i0 (.int .u8 0) 1 Tryd.underlying22 hi hz0 hz1 hz2 rfl (.slice none 0 0) 0 [] (by rfl) ⟨rfl, .inl ⟨rfl, rfl⟩⟩ (some ⟨b0, o0, none⟩) m d (nums .u8 b) (by rfl) HNL.out (HY.out.below (bgo HBX (by assumption))) nums_u8_one (by unfold maxLen; omega) (by omega) (by simp) ?_; intro v8 w8 hown8 hgrow8; rw [Nat.zero_add, List.nil_append] at hown8; have hb8 : Below w7.heap.size w7 w8 := (bdr brf).grown hgrow8 (by simp) (fun k e => by simp [Value.ownBlock] at e); clear hgrow8)
      | (refine step_append_vs rfl _ _ 22 (by rfl) w7.heap.size 5 i0 (.int .u8 0) 1 Tryd.underlying22 hi hz0 hz1 hz2 rfl _ m _ (by rfl) hown8 (some ⟨w.heap.size, 0, none⟩) 32 32 (nums .u8 l) (by rfl) HLL.out (HR0.out.below (bgo HBX hb8)) nums_u8_one (by unfold maxLen; omega) (by omega) hb8.size ?_; intro v9 w9 hown9 hgrow9; have hb9 : Below w7.heap.size w7 w9 := keep_below0 hown8 hgrow9 hb8 hb8.size (Nat.le_refl _); obtain ⟨A9, c9, rfl⟩ := own_slice hown9; have hc9 := (own_cap6 hown9).1; rw [← List.map_append] at hown9; obtain ⟨x9, y9, rfl, _, _⟩ := (Rd.of_own hown9).at_ (by simp [HM.out]; omega); have HRx := Lib.hid (Rd.of_own hown9); have HBY := Lib.hid (bgo HBX hb9); clear hown8 hown9 hgrow9)
      | (go_at_call 34; go_must (refine (CP _ _ _ _ hc9 (HX.out.below HBY.out) HRx.out (HK0.out.go HBY.out)).mono ?_; rintro e w10 ⟨A10, B10, c10, rfl, _, _, _, _, hb10⟩; have hb10 : Below w7.heap.size w7 w10 := bgo hb9 hb10)))
  have HBY := bgo HBX hb10
  have HRr := Lib.hid (HRr.out.below hb10)
  have HR2 := Lib.hid (HR0.out.below HBY)
  go_wp2_with (go_at_call 16; refine (CS _ _ _ _ _ HR2.out HRr.out).mono ?_; rintro e w11 ⟨he, rfl⟩; rw [HDC.out] at he; subst he)
  go_ret
  exact ⟨rfl, bgo (bal brf _) HBY⟩

set_option maxHeartbeats 2000000 in
theorem layerTag_other (A : Option Addr) (b0 o0 n c m d : Nat) (server b l : List Int) (w : World) (hn : server.length = n) (hm : b.length = m) (hl : l.length = 32) (hmd : m ≤ d) (h200 : n ≤ 200) (h16 : 16 ≤ m) (h700 : m ≤ 700) (hx : Rd w A (nums .u8 server)) (hy : Rd w (some ⟨b0, o0, none⟩) (nums .u8 b)) (bb : Byt b) (bl : Byt l) (hK : Konst w) (heq : l ≠ tagL (tagL (tagL server (nonL b)) [3]) b) :
    Calls Tryd.prog 7 #[.slice A n c, .slice (some ⟨b0, o0, none⟩) m d, .agg (nums .u8 l).toArray] w (Yes w) := by
  obtain ⟨i0, hi, hz0, hz1, hz2⟩ := info_parts infoByte
  obtain ⟨cs, hcs⟩ : ∃ cs, cs = (nums .u8 l).toArray := ⟨_, rfl⟩
  have hsz : cs.size = 32 := by rw [hcs]; simp [hl]
  have HR0 := Lib.hid (show Rd (w.alloc (.cells cs 49)) (some ⟨w.heap.size, 0, none⟩) (nums .u8 l) by rw [hcs]; exact rd_new w l _)
  rw [← hcs]
  have q1 : ¬ (200 : Int) < n := by omega
  have q2 : ¬ (m : Int) < 16 := by omega
  have q3 : ¬ (700 : Int) < m := by omega
  have q4 : (16 : Int) ≤ d := by omega
  have hH := tagged_open (server := server) (b := b) (e := tagL (tagL (tagL server (nonL b)) [3]) b) (by omega) (by omega) (tag_len _ _)
  rw [badTag, if_pos rfl] at hH
  have hL := tagged_open (server := server) (b := b) (e := l) (by omega) (by omega) hl
  rw [badTag, if_neg heq] at hL
  have nQ : (nonL b).length = 16 := by simp [nonL]; omega
  have hr0 := hy.part 0 16
  rw [Nat.add_zero] at hr0
  have hr0 : Rd w (some ⟨b0, o0, none⟩) (nums .u8 (nonL b)) := hr0
  obtain ⟨k, hk⟩ : ∃ k, k = tagL server (nonL b) := ⟨_, rfl⟩
  have lk : k.length = 32 := by rw [hk, tag_len]
  have C1 := fun W h1 h2 hK => tag_any A (some ⟨b0, o0, none⟩) n c 16 d server (nonL b) W hn nQ (by omega) (by omega) h1 h2 hK
  rw [← hk] at C1 heq hH
  have C2 : ∀ A1 c1 (W : World), Rd W A1 (nums .u8 k) → Konst (W.alloc (.cells #[.int .u8 3] 5)) → Calls Tryd.prog 24 #[.slice A1 32 c1, .slice (some ⟨W.heap.size, 0, none⟩) 1 1] (W.alloc (.cells #[.int .u8 3] 5)) (IsBytes (W.alloc (.cells #[.int .u8 3] 5)) (tagL k [3])) := fun A1 c1 (W : World) h1 hK => tag_any A1 (some ⟨W.heap.size, 0, none⟩) 32 c1 1 1 k [3] (W.alloc (.cells (nums .u8 [3]).toArray 5)) lk rfl (by omega) (by omega) (Rd.below h1 (bal brf _)) (rd_new W [3] 5) hK
  obtain ⟨k3, hk3⟩ : ∃ k3, k3 = tagL k [3] := ⟨_, rfl⟩
  have lk3 : k3.length = 32 := by rw [hk3, tag_len]
  rw [← hk3] at C2 heq hH
  have C3 := fun A1 c1 W h1 h2 hK => tag_any A1 (some ⟨b0, o0, none⟩) 32 c1 m d k3 b W lk3 hm (by omega) (by omega) h1 h2 hK
  have br : Byt (tagL k3 b) := tag_byt _ _
  have lr : (tagL k3 b).length = 32 := tag_len _ _
  obtain ⟨r, hr⟩ : ∃ r, r = tagL k3 b := ⟨_, rfl⟩
  rw [← hr] at C3 heq hH br lr
  have hx1 : (b ++ r).length = m + 32 := by rw [List.length_append, hm, lr]
  have hx2 : (b ++ l).length = m + 32 := by rw [List.length_append, hm, hl]
  have bx1 : Byt (b ++ r) := fun x hx => (List.mem_append.1 hx).elim (bb x) (br x)
  have bx2 : Byt (b ++ l) := fun x hx => (List.mem_append.1 hx).elim (bb x) (bl x)
  have CO := fun B o c1 W hc h1 h2 hK => open_any A B o n c (m + 32) c1 server (b ++ r) W hn hx1 (by omega) (by omega) (by omega) hc h1 h2 bx1 hK hH
  have CP := fun B o c1 W hc h1 h2 hK => open_tag A B o n c (m + 32) c1 server (b ++ l) W hn hx2 (by omega) (by omega) (by omega) hc h1 h2 bx2 hK (by rw [hL]; decide)
  have CS := fun A1 A2 c1 c2 W h1 h2 => same_any A1 A2 32 c1 32 c2 l r W hl lr h1 h2 bl br
  have hdec : decide (l = r) = false := by simp [heq]
  have HDC := Lib.hid hdec
  have HX := Lib.hid (hx.below (bal brf (.cells cs 49)))
  have HY := Lib.hid (hy.below (bal brf (.cells cs 49)))
  have HY0 := Lib.hid (hr0.below (bal brf (.cells cs 49)))
  have HK0 := Lib.hid (hK.go (bal brf (.cells cs 49)))
  have hnl : (nums .u8 b).length = m := by simp [hm]
  have HNL := Lib.hid hnl
  have hrl : (nums .u8 r).length = 32 := by simp [lr]
  have HRL := Lib.hid hrl
  have HM := Lib.hid hm
  have HL := Lib.hid hl
  have hll : (nums .u8 l).length = 32 := by simp [hl]
  have HLL := Lib.hid hll
  have HB2 := Lib.hid hx2
  clear hx hy hr0 hn hm hl hK bb bl br heq hH hL hcs hk hk3 hr nQ hdec hnl hrl hll hx1 hx2 bx1 bx2
  go_enter Tryd.func7, Tryd.ntmps7
  go_upto_region 8 with (first
    | (go_at_call 25; refine (live8_any _ HK0.out).mono ?_; rintro e w1 ⟨rfl, hb1⟩; have HBX := hb1)
    | (go_at_call 24; first
        | ((with_reducible refine (C1 _ (HX.out.below HBX) (HY0.out.below HBX) (HK0.out.go HBX)).mono ?_); rintro e w2 ⟨B2, c2, he, hc2, hl2, hr2, hb2⟩; rw [lk] at he; subst he; have HBX := bgo HBX hb2; have HRk := Lib.hid hr2; clear hr2)
        | ((with_reducible refine (C2 _ _ _ HRk.out (HK0.out.go (bal HBX _))).mono ?_); rintro e w3 ⟨B3, c3, he, hc3, hl3, hr3, hb3⟩; rw [lk3] at he; subst he; have HBX := bgo (bal HBX _) hb3; have HR3 := Lib.hid hr3; clear hr3)
        | ((with_reducible refine (C3 _ _ _ HR3.out (HY.out.below HBX) (HK0.out.go HBX)).mono ?_); rintro e w4 ⟨B4, c4, he, hc4, hl4, hr4, hb4⟩; rw [lr] at he; subst he; have HBq := bgo HBX hb4; have HBX := HBq; have HRr := Lib.hid hr4; have HRq := Lib.hid hr4; clear hr4))
    | (at_builtin; first
        | (refine append_vs rfl _ _ 22 rfl w4.heap.size 5 i0 (.int .u8 0) 1 Tryd.underlying22 hi hz0 hz1 hz2 rfl (.slice none 0 0) 0 [] rfl ⟨rfl, .inl ⟨rfl, rfl⟩⟩ _ m d (nums .u8 b) rfl HNL.out (HY.out.below HBX) nums_u8_one (by unfold maxLen; omega) (by omega) (Nat.le_refl _) ?_; intro v5 w5 hown5 hgrow5; rw [Nat.zero_add, List.nil_append] at hown5; have hb5 : Below w4.heap.size w4 w5 := brf.grown hgrow5 (Nat.le_refl _) (fun k e => by simp [Value.ownBlock] at e); have HBX := bgo HBX hb5; have HRr := Lib.hid (HRr.out.below hb5); clear hgrow5)
        | (refine append_vs rfl _ _ 22 rfl w4.heap.size 5 i0 (.int .u8 0) 1 Tryd.underlying22 hi hz0 hz1 hz2 rfl _ m _ rfl hown5 _ 32 _ _ rfl HRL.out HRr.out nums_u8_one (by unfold maxLen; omega) (by omega) hb5.size ?_; intro v6 w6 hown6 hgrow6; have hb6 : Below w4.heap.size w4 w6 := keep_below0 hown5 hgrow6 hb5 hb5.size (Nat.le_refl _); have hb46 : Below w4.heap.size w4 w6 := hb6; have HRr := Lib.hid (HRq.out.below hb6); have HBX := bgo HBq hb6; obtain ⟨A6, c6, rfl⟩ := own_slice hown6; have hc6 := (own_cap6 hown6).1; rw [← List.map_append] at hown6; obtain ⟨x6, y6, rfl, _, _⟩ := (Rd.of_own hown6).at_ (by simp [HM.out]; omega); have HRx := Lib.hid (Rd.of_own hown6); clear hown6 hgrow6 hown5))
    | (go_at_call 34; refine (CO _ _ _ _ hc6 (HX.out.below HBX) HRx.out (HK0.out.go HBX)).mono ?_; rintro e w7 ⟨A7, B7, c7, rfl, _, _, _, _, hb7⟩; have HBX := bgo HBX hb7; have HRr := Lib.hid (HRr.out.below hb7)))
  go_region_held3 (fun x => Below w7.heap.size w7 x) (first | assumption | exact bdr brf)
    (first
      | (refine step_append_vs rfl _ _ 22 (by rfl) w7.heap.size 5 i0 (.int .u8 0) 1 Tryd.underlying22 hi hz0 hz1 hz2 rfl (.slice none 0 0) 0 [] (by rfl) ⟨rfl, .inl ⟨rfl, rfl⟩⟩ (some ⟨b0, o0, none⟩) m d (nums .u8 b) (by rfl) HNL.out (HY.out.below (bgo HBX (by assumption))) nums_u8_one (by unfold maxLen; omega) (by omega) (by simp) ?_; intro v8 w8 hown8 hgrow8; rw [Nat.zero_add, List.nil_append] at hown8; have hb8 : Below w7.heap.size w7 w8 := (bdr brf).grown hgrow8 (by simp) (fun k e => by simp [Value.ownBlock] at e); clear hgrow8)
      | (refine step_append_vs rfl _ _ 22 (by rfl) w7.heap.size 5 i0 (.int .u8 0) 1 Tryd.underlying22 hi hz0 hz1 hz2 rfl _ m _ (by rfl) hown8 (some ⟨w.heap.size, 0, none⟩) 32 32 (nums .u8 l) (by rfl) HLL.out (HR0.out.below (bgo HBX hb8)) nums_u8_one (by unfold maxLen; omega) (by omega) hb8.size ?_; intro v9 w9 hown9 hgrow9; have hb9 : Below w7.heap.size w7 w9 := keep_below0 hown8 hgrow9 hb8 hb8.size (Nat.le_refl _); obtain ⟨A9, c9, rfl⟩ := own_slice hown9; have hc9 := (own_cap6 hown9).1; rw [← List.map_append] at hown9; obtain ⟨x9, y9, rfl, _, _⟩ := (Rd.of_own hown9).at_ (by simp [HM.out]; omega); have HRx := Lib.hid (Rd.of_own hown9); have HBY := Lib.hid (bgo HBX hb9); clear hown8 hown9 hgrow9)
      | (go_at_call 34; go_must (refine (CP _ _ _ _ hc9 (HX.out.below HBY.out) HRx.out (HK0.out.go HBY.out)).mono ?_; rintro e w10 ⟨rfl, hb10⟩; have hb10 : Below w7.heap.size w7 w10 := bgo hb9 hb10)))
  have HBY := bgo HBX hb10
  have HRr := Lib.hid (HRr.out.below hb10)
  have HR2 := Lib.hid (HR0.out.below HBY)
  go_wp2_with (go_at_call 16; refine (CS _ _ _ _ _ HR2.out HRr.out).mono ?_; rintro e w11 ⟨he, rfl⟩; rw [HDC.out] at he; subst he)
  go_ret
  exact ⟨rfl, bgo (bal brf _) HBY⟩

theorem layerTag_walk (A B : Option Addr) (n c m d : Nat) (server b l : List Int) (w : World) (hn : server.length = n) (hm : b.length = m) (hl : l.length = 32) (hmd : m ≤ d) (hx : Rd w A (nums .u8 server)) (hy : Rd w B (nums .u8 b)) (bb : Byt b) (bl : Byt l) (hK : Konst w) :
    Calls Tryd.prog 7 #[.slice A n c, .slice B m d, .agg (nums .u8 l).toArray] w (Yes w) := by
  have HK0 := fun (cs : Array Value) => Lib.hid (hK.go (bal brf (.cells cs 49)))
  by_cases hin : n ≤ 200 ∧ 16 ≤ m ∧ m ≤ 700
  · obtain ⟨b0, o0, rfl, _, _⟩ := hy.at_ (by simp [hm]; omega)
    by_cases heq : l = tagL (tagL (tagL server (nonL b)) [3]) b
    · exact layerTag_same A b0 o0 n c m d server b l w hn hm hl hmd hin.1 hin.2.1 hin.2.2 hx hy bb bl hK heq
    · exact layerTag_other A b0 o0 n c m d server b l w hn hm hl hmd hin.1 hin.2.1 hin.2.2 hx hy bb bl hK heq
  obtain ⟨cs, hcs⟩ : ∃ cs, cs = (nums .u8 l).toArray := ⟨_, rfl⟩
  have hsz : cs.size = 32 := by rw [hcs]; simp [hl]
  rw [← hcs]
  have HK0 := HK0 cs
  clear hx hy hn hm hl hK bb bl hcs
  by_cases h1 : 200 < n
  · skip
    have q : (200 : Int) < n := by omega
    go_enter Tryd.func7, Tryd.ntmps7
    go_wp2_with (go_at_call 25; refine (live8_any _ HK0.out).mono ?_; rintro e w1 ⟨rfl, hb1⟩; have HBX := bgo (bal brf _) hb1)
    go_ret
    exact ⟨rfl, HBX⟩
  have q1 : ¬ (200 : Int) < n := by omega
  by_cases h2 : m < 16
  · skip
    have q : (m : Int) < 16 := by omega
    go_enter Tryd.func7, Tryd.ntmps7
    go_wp2_with (go_at_call 25; refine (live8_any _ HK0.out).mono ?_; rintro e w1 ⟨rfl, hb1⟩; have HBX := bgo (bal brf _) hb1)
    go_ret
    exact ⟨rfl, HBX⟩
  have q2 : ¬ (m : Int) < 16 := by omega
  have q3 : (700 : Int) < m := by omega
  go_enter Tryd.func7, Tryd.ntmps7
  go_wp2_with (go_at_call 25; refine (live8_any _ HK0.out).mono ?_; rintro e w1 ⟨rfl, hb1⟩; have HBX := bgo (bal brf _) hb1)
  go_ret
  exact ⟨rfl, HBX⟩

theorem layerTag_of {H : Type} {enc : TypeId × Value → H} (W : World) (base : Nat) (args : Array Value) (ds : List (DataW H)) (p : List MemPlace)
    (hval : ∀ (j : Nat) t v, Tryd.f7.params[j]? = some t → args[j]? = some v → Value.okWide Tryd.prog W .any base t v)
    (hA : DataW.TrodAll enc Tryd.prog W 0 (fun _ => true) true Tryd.f7.params.toList args.toList ds p) (hlt : ∀ x ∈ p, x.block < W.heap.size)
    (hz : (DataW.weightsEach Tryd.prog Tryd.f7.params.toList ds).all (· ≤ reachBytes) = true) (hK : Konst W) : Calls Tryd.prog 7 args W (Yes W) := by
  rw [Tryd.params7] at hA hval hz
  obtain ⟨v0, vs0, d0, ds0, p0, q0, hargs, rfl, rfl, h0, r0⟩ := trodAll_cons hA
  obtain ⟨v1, vs1, d1, ds1, p1, q1, rfl, rfl, rfl, h1, r1⟩ := trodAll_cons r0
  obtain ⟨v2, vs2, d2, ds2, p2, q2, rfl, rfl, rfl, h2, r2⟩ := trodAll_cons r1
  obtain ⟨rfl, rfl, rfl⟩ := trodAll_nil r2
  obtain rfl : args = #[v0, v1, v2] := by cases args; simp_all
  obtain ⟨A, n, c, xs, rfl, hn0, hr0, hb0, hc0, hd0⟩ := open_bytes2 h0 (hval 0 _ _ rfl rfl)
  obtain ⟨B, m, d, us, rfl, hn1, hr1, hb1, hc1, hd1⟩ := open_bytes2 h1 (hval 1 _ _ rfl rfl)
  obtain ⟨l, rfl, hl, bl⟩ := open_arr Tryd.underlying49 (by kernel_rfl) (hval 2 _ _ rfl rfl) h2
  exact layerTag_walk A B n c m d xs us l W hn0 hn1 hl hc1 hr0 hr1 hb1 bl hK
end Go.Proofs.YtgclcpopibjocaaDoor
