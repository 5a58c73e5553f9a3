/- What stands behind an onion's part at a hop says nothing to who peels it there. -/
import Derived.Test.YtgclcpopibjocaaDoorOc
import Derived.Deep.RegionHeld3
import Derived.Deep.DeepMust
namespace Go.Proofs.YtgclcpopibjocaaDoor
open Go.RowKit Go.ChangeShapes Go.WideShapes Go.ChangeAt
set_option linter.unusedSimpArgs false
set_option linter.unusedVariables false
set_option maxRecDepth 100000

set_option maxHeartbeats 2000000 in
theorem onionPadding_1 (A : Option Addr) (b0 o0 p0 q0 n c m d f : Nat) (i H : Nat) (server b u : List Int) (w : World) (hn : server.length = n) (hm : b.length = m) (hu : u.length = m) (hmd : m ≤ d) (hmf : m ≤ f) (h200 : n ≤ 200) (hH : H ≤ 8) (hlt : i < H) (hmm : m = 78 + 48 * H) (hx : Rd w A (nums .u8 server)) (hy : Rd w (some ⟨b0, o0, none⟩) (nums .u8 b)) (hv : Rd w (some ⟨p0, q0, none⟩) (nums .u8 u)) (bb : Byt b) (bu : Byt u) (hK : Konst w) (hcap : f ≠ m - 48 * i) (hz : peelZ server i H b = 0) :
    Calls Tryd.prog 9 #[.slice A n c, .int .i64 i, .int .i64 H, .slice (some ⟨b0, o0, none⟩) m d, .slice (some ⟨p0, q0, none⟩) m f] w (Yes w) := by
  obtain ⟨i0, hi, hz0, hz1, hz2⟩ := info_parts infoByte
  obtain ⟨L, hL⟩ : ∃ L, L = m - 48 * i := ⟨_, rfl⟩
  have e1 : (m : Int) - 48 * (i : Int) = (L : Int) := by omega
  have e2 : (78 : Int) + 48 * (H : Int) = (m : Int) := by omega
  have r0 : ¬ (200 : Int) < n := by omega
  have r1 : (0 : Int) ≤ L := by omega
  have r2 : (L : Int) ≤ d := by omega
  have r3 : (L : Int) ≤ m := by omega
  have r4 : (L : Int) ≤ 1000 := by omega
  have r5 : (m : Int) ≤ 1000 := by omega
  have r6 : (L : Int) ≤ f := by omega
  have r7 : ¬ (H : Int) < 1 := by omega
  have r8 : ¬ (8 : Int) < H := by omega
  have r9 : ¬ (i : Int) < 0 := by omega
  have r10 : ¬ (H : Int) ≤ i := by omega
  have pb : L ≤ m := by omega
  have pm : m ≤ 600 := by omega
  have r11 : ¬ f = L := by omega
  have hmix : b.take (b.length - 48 * i) ++ u.drop (b.length - 48 * i) = b.take L ++ u.drop L := by rw [hm, ← hL]
  have hv2 : Rd w (some ⟨p0, q0 + L, none⟩) (nums .u8 (u.drop L)) := by
    have := hv.part L (m - L)
    rwa [List.take_of_length_le (by rw [List.length_drop]; omega)] at this
  have hy2 : Rd w (some ⟨b0, o0, none⟩) (nums .u8 (b.take L)) := hy.take _
  have hl1 : (nums .u8 (b.take L)).length = L := by simp; omega
  have hl2 : (nums .u8 (u.drop L)).length = m - L := by simp; omega
  have hZm := peelZ_mix (server := server) (i := i) (hops := H) (b := b) (c := u) (by omega)
  obtain ⟨hOm, hKm⟩ := peelO_mix (server := server) (i := i) (H := H) (b := b) (c := u) (by omega)
  have hLm := mix_len (b := b) (c := u) (i := i) (by omega)
  rw [hmix] at hZm hOm hKm hLm
  have bc : Byt (b.take L ++ (u.drop L)) := fun x hx => by
    rcases List.mem_append.1 hx with hx | hx
    · exact bb x (List.mem_of_mem_take hx)
    · exact bu x (List.mem_of_mem_drop hx)
  obtain ⟨cc, hcc⟩ : ∃ cc, cc = b.take L ++ (u.drop L) := ⟨_, rfl⟩
  rw [← hcc] at hZm hOm hKm hLm bc
  rw [hm] at hLm
  have hz2c := hz
  rw [← hZm] at hz2c
  have CA := fun W h1 h2 hK => peel_yes A (some ⟨b0, o0, none⟩) n c m d i H server b W hn hm (by omega) hmd h1 h2 bb hK hz
  have CB := fun B3 c3 W hc h1 h2 hK => peel_yes A B3 n c m c3 i H server cc W hn hLm (by omega) hc h1 h2 bc hK hz2c
  rw [Int.toNat_natCast, Int.toNat_natCast] at CA CB
  rw [hOm, hKm] at CB
  obtain ⟨x, hxe⟩ : ∃ x, x = peelO server i H b := ⟨_, rfl⟩
  obtain ⟨k, hke⟩ : ∃ k, k = peelK server i b := ⟨_, rfl⟩
  have lk : k.length = 32 := by rw [hke]; exact peelK_len _ _ _
  have bk : Byt k := by rw [hke]; exact peelK_byt _ _ _
  have bx : Byt x := by rw [hxe]; exact peelO_byt bb
  rw [← hxe, ← hke] at CA CB
  obtain ⟨N, hN⟩ : ∃ N, N = x.length := ⟨_, rfl⟩
  have S1 := fun A1 A2 c1 c2 W h1 h2 => same_true A1 A2 N c1 N c2 x x W rfl hN.symm hN.symm h1 h2 bx
  have S2 := fun A1 A2 c1 c2 W h1 h2 => same_true A1 A2 32 c1 32 c2 k k W rfl lk lk h1 h2 bk
  have HN := Lib.hid hN
  have HLK := Lib.hid lk
  have HX := Lib.hid hx
  have HY := Lib.hid hy
  have HY2 := Lib.hid hy2
  have HV2 := Lib.hid hv2
  have HK := Lib.hid hK
  have HL1 := Lib.hid hl1
  have HL2 := Lib.hid hl2
  have HCC := Lib.hid hcc
  have HTOT := Lib.hid (show L + (m - L) = m by omega)
  clear hn hm hu hmm hx hy hv bb bu hK hz hz2c hcap hL hmix hy2 hv2 hl1 hl2 hZm hOm hKm hLm bc hcc hxe hke lk bk bx hN
  go_enter Tryd.func9, Tryd.ntmps9
  go_upto_region 6 with (go_at_call 31; refine (live9_any _).mono ?_; rintro e w1 ⟨rfl, rfl⟩)
  have hb0 : Below w.heap.size w w.drew := bdr brf
  go_region_held3 (fun x => Below w.heap.size w x) (first | assumption | exact bdr brf)
    (first
      | (refine step_append_vs rfl _ _ 22 (by rfl) w.heap.size 5 i0 (.int .u8 0) 1 Tryd.underlying22 hi hz0 hz1 hz2 rfl (.slice none 0 0) 0 [] (by rfl) ⟨rfl, .inl ⟨rfl, rfl⟩⟩ (some ⟨b0, o0, none⟩) L d (nums .u8 (b.take L)) (by rfl) HL1.out (HY2.out.below (by assumption)) nums_u8_one (by unfold maxLen; omega) (by omega) (by simp) ?_; intro v8 w8 hown8 hgrow8; rw [Nat.zero_add, List.nil_append] at hown8; have hb8 : Below w.heap.size w w8 := (bdr brf).grown hgrow8 (by simp) (fun k e => by simp [Value.ownBlock] at e); clear hgrow8)
      | (refine step_append_vs rfl _ _ 22 (by rfl) w.heap.size 5 i0 (.int .u8 0) 1 Tryd.underlying22 hi hz0 hz1 hz2 rfl _ L _ (by rfl) hown8 (some ⟨p0, q0 + L, none⟩) (m - L) (f - L) (nums .u8 (u.drop L)) (by rfl) HL2.out (HV2.out.below hb8) nums_u8_one (by unfold maxLen; omega) (by omega) hb8.size ?_; intro v9 w9 hown9 hgrow9; have hb9 : Below w.heap.size w w9 := keep_below0 hown8 hgrow9 hb8 hb8.size (Nat.le_refl _); rw [HTOT.out] at hown9; obtain ⟨A9, c9, rfl⟩ := own_slice hown9; have hc9 := (own_cap6 hown9).1; rw [← List.map_append, ← HCC.out] at hown9; have HRc := Lib.hid (Rd.of_own hown9); clear hown8 hown9 hgrow9))
  go_wp2_with (first
    | (go_at_call 35; first
        | ((with_reducible refine (CA _ (HX.out.below hb9) (HY.out.below hb9) (HK.out.go hb9)).mono ?_); rintro e w2 ⟨A2, B2, c2, d2, he, _, hr2, hq2, hb2⟩; rw [← HN.out, HLK.out] at he; subst he; have HRx := Lib.hid hr2; have HRk := Lib.hid hq2; have HRc := Lib.hid (HRc.out.below hb2); have HBX := bgo hb9 hb2; clear hr2 hq2)
        | ((with_reducible refine (CB _ _ _ hc9 (HX.out.below HBX) HRc.out (HK.out.go HBX)).mono ?_); rintro e w3 ⟨A3, B3, c3, d3, he, _, hr3, hq3, hb3⟩; rw [← HN.out, HLK.out] at he; subst he; have HRx := Lib.hid (HRx.out.below hb3); have HRk := Lib.hid (HRk.out.below hb3); have HRy := Lib.hid hr3; have HRl := Lib.hid hq3; have HBX := bgo HBX hb3; clear hr3 hq3))
    | (go_at_call 16; first
        | ((with_reducible refine (S2 _ _ _ _ _ HRk.out HRl.out).mono ?_); rintro e w4 ⟨rfl, rfl⟩)
        | ((with_reducible refine (S1 _ _ _ _ _ HRx.out HRy.out).mono ?_); rintro e w4 ⟨rfl, rfl⟩)))
  go_ret
  exact ⟨rfl, HBX⟩

set_option maxHeartbeats 2000000 in
theorem onionPadding_2 (A : Option Addr) (b0 o0 p0 q0 n c m d f : Nat) (i H : Nat) (server b u : List Int) (w : World) (hn : server.length = n) (hm : b.length = m) (hu : u.length = m) (hmd : m ≤ d) (hmf : m ≤ f) (h200 : n ≤ 200) (hH : H ≤ 8) (hlt : i < H) (hmm : m = 78 + 48 * H) (hx : Rd w A (nums .u8 server)) (hy : Rd w (some ⟨b0, o0, none⟩) (nums .u8 b)) (hv : Rd w (some ⟨p0, q0, none⟩) (nums .u8 u)) (bb : Byt b) (bu : Byt u) (hK : Konst w) (hcap : f ≠ m - 48 * i) (hz : peelZ server i H b ≠ 0) :
    Calls Tryd.prog 9 #[.slice A n c, .int .i64 i, .int .i64 H, .slice (some ⟨b0, o0, none⟩) m d, .slice (some ⟨p0, q0, none⟩) m f] w (Yes w) := by
  obtain ⟨i0, hi, hz0, hz1, hz2⟩ := info_parts infoByte
  obtain ⟨L, hL⟩ : ∃ L, L = m - 48 * i := ⟨_, rfl⟩
  have e1 : (m : Int) - 48 * (i : Int) = (L : Int) := by omega
  have e2 : (78 : Int) + 48 * (H : Int) = (m : Int) := by omega
  have r0 : ¬ (200 : Int) < n := by omega
  have r1 : (0 : Int) ≤ L := by omega
  have r2 : (L : Int) ≤ d := by omega
  have r3 : (L : Int) ≤ m := by omega
  have r4 : (L : Int) ≤ 1000 := by omega
  have r5 : (m : Int) ≤ 1000 := by omega
  have r6 : (L : Int) ≤ f := by omega
  have r7 : ¬ (H : Int) < 1 := by omega
  have r8 : ¬ (8 : Int) < H := by omega
  have r9 : ¬ (i : Int) < 0 := by omega
  have r10 : ¬ (H : Int) ≤ i := by omega
  have pb : L ≤ m := by omega
  have pm : m ≤ 600 := by omega
  have r11 : ¬ f = L := by omega
  have hmix : b.take (b.length - 48 * i) ++ u.drop (b.length - 48 * i) = b.take L ++ u.drop L := by rw [hm, ← hL]
  have hv2 : Rd w (some ⟨p0, q0 + L, none⟩) (nums .u8 (u.drop L)) := by
    have := hv.part L (m - L)
    rwa [List.take_of_length_le (by rw [List.length_drop]; omega)] at this
  have hy2 : Rd w (some ⟨b0, o0, none⟩) (nums .u8 (b.take L)) := hy.take _
  have hl1 : (nums .u8 (b.take L)).length = L := by simp; omega
  have hl2 : (nums .u8 (u.drop L)).length = m - L := by simp; omega
  have hZm := peelZ_mix (server := server) (i := i) (hops := H) (b := b) (c := u) (by omega)
  obtain ⟨hOm, hKm⟩ := peelO_mix (server := server) (i := i) (H := H) (b := b) (c := u) (by omega)
  have hLm := mix_len (b := b) (c := u) (i := i) (by omega)
  rw [hmix] at hZm hOm hKm hLm
  have bc : Byt (b.take L ++ (u.drop L)) := fun x hx => by
    rcases List.mem_append.1 hx with hx | hx
    · exact bb x (List.mem_of_mem_take hx)
    · exact bu x (List.mem_of_mem_drop hx)
  obtain ⟨cc, hcc⟩ : ∃ cc, cc = b.take L ++ (u.drop L) := ⟨_, rfl⟩
  rw [← hcc] at hZm hOm hKm hLm bc
  rw [hm] at hLm
  have hz2c := hz
  rw [← hZm] at hz2c
  have CA := fun W h1 h2 hK => peel_no A (some ⟨b0, o0, none⟩) n c m d i H server b W hn hm (by omega) hmd h1 h2 bb hK hz
  have CB := fun B3 c3 W hc h1 h2 hK => peel_no A B3 n c m c3 i H server cc W hn hLm (by omega) hc h1 h2 bc hK hz2c
  rw [hZm] at CB
  obtain ⟨z, hze⟩ : ∃ z, z = peelZ server i H b := ⟨_, rfl⟩
  rw [← hze] at CA CB
  have S0 := fun W => same_true none none 0 0 0 0 [] [] W rfl rfl rfl (.inl rfl) (.inl rfl) (fun x hx => by cases hx)
  have HX := Lib.hid hx
  have HY := Lib.hid hy
  have HY2 := Lib.hid hy2
  have HV2 := Lib.hid hv2
  have HK := Lib.hid hK
  have HL1 := Lib.hid hl1
  have HL2 := Lib.hid hl2
  have HCC := Lib.hid hcc
  have HTOT := Lib.hid (show L + (m - L) = m by omega)
  clear hn hm hu hmm hx hy hv bb bu hK hz hz2c hcap hL hmix hy2 hv2 hl1 hl2 hZm hOm hKm hLm bc hcc hze
  go_enter Tryd.func9, Tryd.ntmps9
  go_upto_region 6 with (go_at_call 31; refine (live9_any _).mono ?_; rintro e w1 ⟨rfl, rfl⟩)
  have hb0 : Below w.heap.size w w.drew := bdr brf
  go_region_held3 (fun x => Below w.heap.size w x) (first | assumption | exact bdr brf)
    (first
      | (refine step_append_vs rfl _ _ 22 (by rfl) w.heap.size 5 i0 (.int .u8 0) 1 Tryd.underlying22 hi hz0 hz1 hz2 rfl (.slice none 0 0) 0 [] (by rfl) ⟨rfl, .inl ⟨rfl, rfl⟩⟩ (some ⟨b0, o0, none⟩) L d (nums .u8 (b.take L)) (by rfl) HL1.out (HY2.out.below (by assumption)) nums_u8_one (by unfold maxLen; omega) (by omega) (by simp) ?_; intro v8 w8 hown8 hgrow8; rw [Nat.zero_add, List.nil_append] at hown8; have hb8 : Below w.heap.size w w8 := (bdr brf).grown hgrow8 (by simp) (fun k e => by simp [Value.ownBlock] at e); clear hgrow8)
      | (refine step_append_vs rfl _ _ 22 (by rfl) w.heap.size 5 i0 (.int .u8 0) 1 Tryd.underlying22 hi hz0 hz1 hz2 rfl _ L _ (by rfl) hown8 (some ⟨p0, q0 + L, none⟩) (m - L) (f - L) (nums .u8 (u.drop L)) (by rfl) HL2.out (HV2.out.below hb8) nums_u8_one (by unfold maxLen; omega) (by omega) hb8.size ?_; intro v9 w9 hown9 hgrow9; have hb9 : Below w.heap.size w w9 := keep_below0 hown8 hgrow9 hb8 hb8.size (Nat.le_refl _); rw [HTOT.out] at hown9; obtain ⟨A9, c9, rfl⟩ := own_slice hown9; have hc9 := (own_cap6 hown9).1; rw [← List.map_append, ← HCC.out] at hown9; have HRc := Lib.hid (Rd.of_own hown9); clear hown8 hown9 hgrow9))
  go_wp2_with (first
    | (go_at_call 35; first
        | ((with_reducible refine (CA _ (HX.out.below hb9) (HY.out.below hb9) (HK.out.go hb9)).mono ?_); rintro e w2 ⟨rfl, hb2⟩; have HRc := Lib.hid (HRc.out.below hb2); have HBX := bgo hb9 hb2)
        | ((with_reducible refine (CB _ _ _ hc9 (HX.out.below HBX) HRc.out (HK.out.go HBX)).mono ?_); rintro e w3 ⟨rfl, hb3⟩; have HBX := bgo HBX hb3))
    | (go_at_call 16; refine (S0 _).mono ?_; rintro e w4 ⟨rfl, rfl⟩))
  go_ret
  exact ⟨rfl, HBX⟩

set_option maxHeartbeats 2000000 in
theorem onionPadding_3 (A : Option Addr) (b0 o0 p0 q0 n c m d : Nat) (H : Nat) (server b u : List Int) (w : World) (hn : server.length = n) (hm : b.length = m) (hu : u.length = m) (hmd : m ≤ d) (h200 : n ≤ 200) (hH : H ≤ 8) (hlt : 0 < H) (hmm : m = 78 + 48 * H) (hx : Rd w A (nums .u8 server)) (hy : Rd w (some ⟨b0, o0, none⟩) (nums .u8 b)) (hv : Rd w (some ⟨p0, q0, none⟩) (nums .u8 u)) (bb : Byt b) (bu : Byt u) (hK : Konst w) (hz : peelZ server (0 : Int) H b = 0) :
    Calls Tryd.prog 9 #[.slice A n c, .int .i64 0, .int .i64 H, .slice (some ⟨b0, o0, none⟩) m d, .slice (some ⟨p0, q0, none⟩) m m] w (Yes w) := by
  obtain ⟨i0, hi, hz0, hz1, hz2⟩ := info_parts infoByte
  have e2 : (78 : Int) + 48 * (H : Int) = (m : Int) := by omega
  have r0 : ¬ (200 : Int) < n := by omega
  have r1 : (0 : Int) ≤ m := by omega
  have r2 : (m : Int) ≤ d := by omega
  have r5 : (m : Int) ≤ 1000 := by omega
  have r7 : ¬ (H : Int) < 1 := by omega
  have r8 : ¬ (8 : Int) < H := by omega
  have r10 : ¬ (H : Int) ≤ 0 := by omega
  have pm : m ≤ 600 := by omega
  have hmix : b.take (b.length - 48 * 0) ++ u.drop (b.length - 48 * 0) = b := by rw [hm, Nat.mul_zero, Nat.sub_zero, List.drop_of_length_le (by omega), List.take_of_length_le (by omega), List.append_nil]
  have hv2 : Rd w (some ⟨p0, q0, none⟩) (nums .u8 ([] : List Int)) := .inl rfl
  have hy2 := hy
  have hl1 : (nums .u8 b).length = m := by simp; omega
  have hl2 : (nums .u8 ([] : List Int)).length = 0 := rfl
  obtain ⟨cc, hcc⟩ : ∃ cc, cc = b := ⟨_, rfl⟩
  have bc : Byt cc := by rw [hcc]; exact bb
  have hLm : cc.length = m := by rw [hcc]; exact hm
  have hz2c := hz
  have hZm : peelZ server (0 : Int) H cc = peelZ server (0 : Int) H b := by rw [hcc]
  have hOm : peelO server 0 H cc = peelO server 0 H b := by rw [hcc]
  have hKm : peelK server 0 cc = peelK server 0 b := by rw [hcc]
  rw [← hZm] at hz2c
  have CA := fun W h1 h2 hK => peel_yes A (some ⟨b0, o0, none⟩) n c m d 0 H server b W hn hm (by omega) hmd h1 h2 bb hK hz
  have CB := fun B3 c3 W hc h1 h2 hK => peel_yes A B3 n c m c3 0 H server cc W hn hLm (by omega) hc h1 h2 bc hK hz2c
  rw [Int.toNat_zero, Int.toNat_natCast] at CA CB
  rw [hOm, hKm] at CB
  obtain ⟨x, hxe⟩ : ∃ x, x = peelO server 0 H b := ⟨_, rfl⟩
  obtain ⟨k, hke⟩ : ∃ k, k = peelK server 0 b := ⟨_, rfl⟩
  have lk : k.length = 32 := by rw [hke]; exact peelK_len _ _ _
  have bk : Byt k := by rw [hke]; exact peelK_byt _ _ _
  have bx : Byt x := by rw [hxe]; exact peelO_byt bb
  rw [← hxe, ← hke] at CA CB
  obtain ⟨N, hN⟩ : ∃ N, N = x.length := ⟨_, rfl⟩
  have S1 := fun A1 A2 c1 c2 W h1 h2 => same_true A1 A2 N c1 N c2 x x W rfl hN.symm hN.symm h1 h2 bx
  have S2 := fun A1 A2 c1 c2 W h1 h2 => same_true A1 A2 32 c1 32 c2 k k W rfl lk lk h1 h2 bk
  have HN := Lib.hid hN
  have HLK := Lib.hid lk
  have HX := Lib.hid hx
  have HY := Lib.hid hy
  have HY2 := Lib.hid hy2
  have HV2 := Lib.hid hv2
  have HK := Lib.hid hK
  have HL1 := Lib.hid hl1
  have HL2 := Lib.hid hl2
  have HCC := Lib.hid hcc
  have HTOT := Lib.hid (show m + 0 = m by omega)
  clear hn hm hu hmm hx hy hv bb bu hK hz hz2c hmix hy2 hv2 hl1 hl2 hZm hOm hKm hLm bc hcc hxe hke lk bk bx hN
  go_enter Tryd.func9, Tryd.ntmps9
  go_upto_region 6 with (go_at_call 31; refine (live9_any _).mono ?_; rintro e w1 ⟨rfl, rfl⟩)
  have hb0 : Below w.heap.size w w.drew := bdr brf
  go_region_held3 (fun x => Below w.heap.size w x) (first | assumption | exact bdr brf)
    (first
      | (refine step_append_vs rfl _ _ 22 (by rfl) w.heap.size 5 i0 (.int .u8 0) 1 Tryd.underlying22 hi hz0 hz1 hz2 rfl (.slice none 0 0) 0 [] (by rfl) ⟨rfl, .inl ⟨rfl, rfl⟩⟩ (some ⟨b0, o0, none⟩) m d (nums .u8 b) (by rfl) HL1.out (HY2.out.below (by assumption)) nums_u8_one (by unfold maxLen; omega) (by omega) (by simp) ?_; intro v8 w8 hown8 hgrow8; rw [Nat.zero_add, List.nil_append] at hown8; have hb8 : Below w.heap.size w w8 := (bdr brf).grown hgrow8 (by simp) (fun k e => by simp [Value.ownBlock] at e); clear hgrow8)
      | (refine step_append_vs rfl _ _ 22 (by rfl) w.heap.size 5 i0 (.int .u8 0) 1 Tryd.underlying22 hi hz0 hz1 hz2 rfl _ m _ (by rfl) hown8 (some ⟨p0, q0, none⟩) 0 0 (nums .u8 ([] : List Int)) (by rfl) HL2.out (HV2.out.below hb8) nums_u8_one (by unfold maxLen; omega) (by omega) hb8.size ?_; intro v9 w9 hown9 hgrow9; have hb9 : Below w.heap.size w w9 := keep_below0 hown8 hgrow9 hb8 hb8.size (Nat.le_refl _); rw [HTOT.out] at hown9; obtain ⟨A9, c9, rfl⟩ := own_slice hown9; have hc9 := (own_cap6 hown9).1; rw [← List.map_append, List.append_nil, ← HCC.out] at hown9; have HRc := Lib.hid (Rd.of_own hown9); clear hown8 hown9 hgrow9))
  go_wp2_with (first
    | (go_at_call 35; first
        | ((with_reducible refine (CA _ (HX.out.below hb9) (HY.out.below hb9) (HK.out.go hb9)).mono ?_); rintro e w2 ⟨A2, B2, c2, d2, he, _, hr2, hq2, hb2⟩; rw [← HN.out, HLK.out] at he; subst he; have HRx := Lib.hid hr2; have HRk := Lib.hid hq2; have HRc := Lib.hid (HRc.out.below hb2); have HBX := bgo hb9 hb2; clear hr2 hq2)
        | ((with_reducible refine (CB _ _ _ hc9 (HX.out.below HBX) HRc.out (HK.out.go HBX)).mono ?_); rintro e w3 ⟨A3, B3, c3, d3, he, _, hr3, hq3, hb3⟩; rw [← HN.out, HLK.out] at he; subst he; have HRx := Lib.hid (HRx.out.below hb3); have HRk := Lib.hid (HRk.out.below hb3); have HRy := Lib.hid hr3; have HRl := Lib.hid hq3; have HBX := bgo HBX hb3; clear hr3 hq3))
    | (go_at_call 16; first
        | ((with_reducible refine (S2 _ _ _ _ _ HRk.out HRl.out).mono ?_); rintro e w4 ⟨rfl, rfl⟩)
        | ((with_reducible refine (S1 _ _ _ _ _ HRx.out HRy.out).mono ?_); rintro e w4 ⟨rfl, rfl⟩)))
  go_ret
  exact ⟨rfl, HBX⟩

set_option maxHeartbeats 2000000 in
theorem onionPadding_4 (A : Option Addr) (b0 o0 p0 q0 n c m d : Nat) (H : Nat) (server b u : List Int) (w : World) (hn : server.length = n) (hm : b.length = m) (hu : u.length = m) (hmd : m ≤ d) (h200 : n ≤ 200) (hH : H ≤ 8) (hlt : 0 < H) (hmm : m = 78 + 48 * H) (hx : Rd w A (nums .u8 server)) (hy : Rd w (some ⟨b0, o0, none⟩) (nums .u8 b)) (hv : Rd w (some ⟨p0, q0, none⟩) (nums .u8 u)) (bb : Byt b) (bu : Byt u) (hK : Konst w) (hz : peelZ server (0 : Int) H b ≠ 0) :
    Calls Tryd.prog 9 #[.slice A n c, .int .i64 0, .int .i64 H, .slice (some ⟨b0, o0, none⟩) m d, .slice (some ⟨p0, q0, none⟩) m m] w (Yes w) := by
  obtain ⟨i0, hi, hz0, hz1, hz2⟩ := info_parts infoByte
  have e2 : (78 : Int) + 48 * (H : Int) = (m : Int) := by omega
  have r0 : ¬ (200 : Int) < n := by omega
  have r1 : (0 : Int) ≤ m := by omega
  have r2 : (m : Int) ≤ d := by omega
  have r5 : (m : Int) ≤ 1000 := by omega
  have r7 : ¬ (H : Int) < 1 := by omega
  have r8 : ¬ (8 : Int) < H := by omega
  have r10 : ¬ (H : Int) ≤ 0 := by omega
  have pm : m ≤ 600 := by omega
  have hmix : b.take (b.length - 48 * 0) ++ u.drop (b.length - 48 * 0) = b := by rw [hm, Nat.mul_zero, Nat.sub_zero, List.drop_of_length_le (by omega), List.take_of_length_le (by omega), List.append_nil]
  have hv2 : Rd w (some ⟨p0, q0, none⟩) (nums .u8 ([] : List Int)) := .inl rfl
  have hy2 := hy
  have hl1 : (nums .u8 b).length = m := by simp; omega
  have hl2 : (nums .u8 ([] : List Int)).length = 0 := rfl
  obtain ⟨cc, hcc⟩ : ∃ cc, cc = b := ⟨_, rfl⟩
  have bc : Byt cc := by rw [hcc]; exact bb
  have hLm : cc.length = m := by rw [hcc]; exact hm
  have hz2c := hz
  have hZm : peelZ server (0 : Int) H cc = peelZ server (0 : Int) H b := by rw [hcc]
  have hOm : peelO server 0 H cc = peelO server 0 H b := by rw [hcc]
  have hKm : peelK server 0 cc = peelK server 0 b := by rw [hcc]
  rw [← hZm] at hz2c
  have CA := fun W h1 h2 hK => peel_no A (some ⟨b0, o0, none⟩) n c m d 0 H server b W hn hm (by omega) hmd h1 h2 bb hK hz
  have CB := fun B3 c3 W hc h1 h2 hK => peel_no A B3 n c m c3 0 H server cc W hn hLm (by omega) hc h1 h2 bc hK hz2c
  rw [hZm] at CB
  obtain ⟨z, hze⟩ : ∃ z, z = peelZ server (0 : Int) H b := ⟨_, rfl⟩
  rw [← hze] at CA CB
  have S0 := fun W => same_true none none 0 0 0 0 [] [] W rfl rfl rfl (.inl rfl) (.inl rfl) (fun x hx => by cases hx)
  have HX := Lib.hid hx
  have HY := Lib.hid hy
  have HY2 := Lib.hid hy2
  have HV2 := Lib.hid hv2
  have HK := Lib.hid hK
  have HL1 := Lib.hid hl1
  have HL2 := Lib.hid hl2
  have HCC := Lib.hid hcc
  have HTOT := Lib.hid (show m + 0 = m by omega)
  clear hn hm hu hmm hx hy hv bb bu hK hz hz2c hmix hy2 hv2 hl1 hl2 hZm hOm hKm hLm bc hcc hze
  go_enter Tryd.func9, Tryd.ntmps9
  go_upto_region 6 with (go_at_call 31; refine (live9_any _).mono ?_; rintro e w1 ⟨rfl, rfl⟩)
  have hb0 : Below w.heap.size w w.drew := bdr brf
  go_region_held3 (fun x => Below w.heap.size w x) (first | assumption | exact bdr brf)
    (first
      | (refine step_append_vs rfl _ _ 22 (by rfl) w.heap.size 5 i0 (.int .u8 0) 1 Tryd.underlying22 hi hz0 hz1 hz2 rfl (.slice none 0 0) 0 [] (by rfl) ⟨rfl, .inl ⟨rfl, rfl⟩⟩ (some ⟨b0, o0, none⟩) m d (nums .u8 b) (by rfl) HL1.out (HY2.out.below (by assumption)) nums_u8_one (by unfold maxLen; omega) (by omega) (by simp) ?_; intro v8 w8 hown8 hgrow8; rw [Nat.zero_add, List.nil_append] at hown8; have hb8 : Below w.heap.size w w8 := (bdr brf).grown hgrow8 (by simp) (fun k e => by simp [Value.ownBlock] at e); clear hgrow8)
      | (refine step_append_vs rfl _ _ 22 (by rfl) w.heap.size 5 i0 (.int .u8 0) 1 Tryd.underlying22 hi hz0 hz1 hz2 rfl _ m _ (by rfl) hown8 (some ⟨p0, q0, none⟩) 0 0 (nums .u8 ([] : List Int)) (by rfl) HL2.out (HV2.out.below hb8) nums_u8_one (by unfold maxLen; omega) (by omega) hb8.size ?_; intro v9 w9 hown9 hgrow9; have hb9 : Below w.heap.size w w9 := keep_below0 hown8 hgrow9 hb8 hb8.size (Nat.le_refl _); rw [HTOT.out] at hown9; obtain ⟨A9, c9, rfl⟩ := own_slice hown9; have hc9 := (own_cap6 hown9).1; rw [← List.map_append, List.append_nil, ← HCC.out] at hown9; have HRc := Lib.hid (Rd.of_own hown9); clear hown8 hown9 hgrow9))
  go_wp2_with (first
    | (go_at_call 35; first
        | ((with_reducible refine (CA _ (HX.out.below hb9) (HY.out.below hb9) (HK.out.go hb9)).mono ?_); rintro e w2 ⟨rfl, hb2⟩; have HRc := Lib.hid (HRc.out.below hb2); have HBX := bgo hb9 hb2)
        | ((with_reducible refine (CB _ _ _ hc9 (HX.out.below HBX) HRc.out (HK.out.go HBX)).mono ?_); rintro e w3 ⟨rfl, hb3⟩; have HBX := bgo HBX hb3))
    | (go_at_call 16; refine (S0 _).mono ?_; rintro e w4 ⟨rfl, rfl⟩))
  go_ret
  exact ⟨rfl, HBX⟩

set_option maxHeartbeats 2000000 in
theorem onionPadding_walk (A B C : Option Addr) (n c m d t f : Nat) (hop hops : Int) (server b u : List Int) (w : World) (hn : server.length = n) (hm : b.length = m) (hu : u.length = t) (hmd : m ≤ d) (hmf : t ≤ f) (hx : Rd w A (nums .u8 server)) (hy : Rd w B (nums .u8 b)) (hv : Rd w C (nums .u8 u)) (bb : Byt b) (bu : Byt u) (hK : Konst w) :
    Calls Tryd.prog 9 #[.slice A n c, .int .i64 hop, .int .i64 hops, .slice B m d, .slice C t f] w (Yes w) := by
  by_cases hin : n ≤ 200 ∧ 1 ≤ hops ∧ hops ≤ 8 ∧ 0 ≤ hop ∧ hop < hops ∧ (m : Int) = 78 + 48 * hops ∧ t = m
  · obtain ⟨g1, g2, g3, g4, g5, g6, rfl⟩ := hin
    obtain ⟨H, rfl⟩ := Int.eq_ofNat_of_zero_le (show 0 ≤ hops by omega)
    obtain ⟨i, rfl⟩ := Int.eq_ofNat_of_zero_le g4
    obtain ⟨b0, o0, rfl, _, _⟩ := hy.at_ (by simp [hm]; omega)
    obtain ⟨p0, q0, rfl, _, _⟩ := hv.at_ (by simp [hu]; omega)
    by_cases hcap : f = t - 48 * i
    · have hi0 : i = 0 := by omega
      subst hi0
      obtain rfl : f = t := by omega
      by_cases hz : peelZ server (0 : Int) H b = 0
      · exact onionPadding_3 A b0 o0 p0 q0 n c f d H server b u w hn hm hu hmd g1 (by omega) (by omega) (by omega) hx hy hv bb bu hK hz
      · exact onionPadding_4 A b0 o0 p0 q0 n c f d H server b u w hn hm hu hmd g1 (by omega) (by omega) (by omega) hx hy hv bb bu hK hz
    by_cases hz : peelZ server i H b = 0
    · exact onionPadding_1 A b0 o0 p0 q0 n c t d f i H server b u w hn hm hu hmd hmf g1 (by omega) (by omega) (by omega) hx hy hv bb bu hK hcap hz
    · exact onionPadding_2 A b0 o0 p0 q0 n c t d f i H server b u w hn hm hu hmd hmf g1 (by omega) (by omega) (by omega) hx hy hv bb bu hK hcap hz
  clear hn hm hu hx hy hv bb bu hK
  by_cases h1 : 200 < n
  · clear hin
    have q : (200 : Int) < n := by omega
    go_enter Tryd.func9, Tryd.ntmps9
    go_wp2_with (go_at_call 31; refine (live9_any _).mono ?_; rintro e w1 ⟨rfl, rfl⟩)
    go_ret
    exact ⟨rfl, brf⟩
  have q1 : ¬ (200 : Int) < n := by omega
  by_cases h2 : hops < 1
  · clear hin
    go_enter Tryd.func9, Tryd.ntmps9
    go_wp2_with (go_at_call 31; refine (live9_any _).mono ?_; rintro e w1 ⟨rfl, rfl⟩)
    go_ret
    exact ⟨rfl, brf⟩
  by_cases h3 : 8 < hops
  · clear hin
    go_enter Tryd.func9, Tryd.ntmps9
    go_wp2_with (go_at_call 31; refine (live9_any _).mono ?_; rintro e w1 ⟨rfl, rfl⟩)
    go_ret
    exact ⟨rfl, brf⟩
  by_cases h4 : hop < 0
  · clear hin
    go_enter Tryd.func9, Tryd.ntmps9
    go_wp2_with (go_at_call 31; refine (live9_any _).mono ?_; rintro e w1 ⟨rfl, rfl⟩)
    go_ret
    exact ⟨rfl, brf⟩
  by_cases h5 : hops ≤ hop
  · clear hin
    go_enter Tryd.func9, Tryd.ntmps9
    go_wp2_with (go_at_call 31; refine (live9_any _).mono ?_; rintro e w1 ⟨rfl, rfl⟩)
    go_ret
    exact ⟨rfl, brf⟩
  by_cases h6 : (m : Int) = 78 + 48 * hops
  · have h7 : ¬ ((t : Int) = m) := by omega
    have h8 : ((t : Int) != (m : Int)) = true := by simpa using h7
    have h9 : ((m : Int) != 78 + 48 * hops) = false := by simpa using h6
    have H6 := Lib.hid h6
    clear hin h6
    go_enter Tryd.func9, Tryd.ntmps9
    go_wp2_with (go_at_call 31; refine (live9_any _).mono ?_; rintro e w1 ⟨rfl, rfl⟩)
    go_ret
    exact ⟨rfl, brf⟩
  have h9 : ((m : Int) != 78 + 48 * hops) = true := by simpa using h6
  clear hin
  go_enter Tryd.func9, Tryd.ntmps9
  go_wp2_with (go_at_call 31; refine (live9_any _).mono ?_; rintro e w1 ⟨rfl, rfl⟩)
  go_ret
  exact ⟨rfl, brf⟩

theorem onionPadding_of {H : Type} {enc : TypeId × Value → H} (W : World) (base : Nat) (args : Array Value) (ds : List (DataW H)) (p : List MemPlace)
    (hval : ∀ (j : Nat) t v, Tryd.f9.params[j]? = some t → args[j]? = some v → Value.okWide Tryd.prog W .any base t v)
    (hA : DataW.TrodAll enc Tryd.prog W 0 (fun _ => true) true Tryd.f9.params.toList args.toList ds p) (hlt : ∀ x ∈ p, x.block < W.heap.size)
    (hz : (DataW.weightsEach Tryd.prog Tryd.f9.params.toList ds).all (· ≤ reachBytes) = true) (hK : Konst W) : Calls Tryd.prog 9 args W (Yes W) := by
  rw [Tryd.params9] at hA hval hz
  obtain ⟨v0, vs0, d0, ds0, p0, q0, hargs, rfl, rfl, h0, r0⟩ := trodAll_cons hA
  obtain ⟨v1, vs1, d1, ds1, p1, q1, rfl, rfl, rfl, h1, r1⟩ := trodAll_cons r0
  obtain ⟨v2, vs2, d2, ds2, p2, q2, rfl, rfl, rfl, h2, r2⟩ := trodAll_cons r1
  obtain ⟨v3, vs3, d3, ds3, p3, q3, rfl, rfl, rfl, h3, r3⟩ := trodAll_cons r2
  obtain ⟨v4, vs4, d4, ds4, p4, q4, rfl, rfl, rfl, h4, r4⟩ := trodAll_cons r3
  obtain ⟨rfl, rfl, rfl⟩ := trodAll_nil r4
  obtain rfl : args = #[v0, v1, v2, v3, v4] := by cases args; simp_all
  obtain ⟨A, n, c, xs, rfl, hn0, hr0, hb0, hc0, hd0⟩ := open_bytes2 h0 (hval 0 _ _ rfl rfl)
  obtain ⟨hop, rfl, rfl, rfl, wz1⟩ := open_int Tryd.underlying3 (hval 1 _ _ rfl rfl) h1
  obtain ⟨hops, rfl, rfl, rfl, wz2⟩ := open_int Tryd.underlying3 (hval 2 _ _ rfl rfl) h2
  obtain ⟨B, m, d, us, rfl, hn3, hr3, hb3, hc3, hd3⟩ := open_bytes2 h3 (hval 3 _ _ rfl rfl)
  obtain ⟨C, t, f, vs, rfl, hn4, hr4, hb4, hc4, hd4⟩ := open_bytes2 h4 (hval 4 _ _ rfl rfl)
  exact onionPadding_walk A B C n c m d t f hop hops xs us vs W hn0 hn3 hn4 hc3 hc4 hr0 hr3 hr4 hb3 hb4 hK
end Go.Proofs.YtgclcpopibjocaaDoor
