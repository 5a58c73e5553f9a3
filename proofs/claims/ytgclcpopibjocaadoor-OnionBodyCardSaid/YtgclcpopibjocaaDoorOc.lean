/- A layer peeled off any bytes, at any hop; what stands behind an onion's part at a hop says nothing. -/
import Derived.Test.YtgclcpopibjocaaDoorOb
import Derived.Deep.RegionHeld3
import Derived.Deep.DeepMust
namespace Go.Proofs.YtgclcpopibjocaaDoor
open Go.RowKit Go.ChangeShapes Go.WideShapes Go.ChangeAt
set_option linter.unusedSimpArgs false
set_option linter.unusedVariables false
set_option maxRecDepth 100000

/-- Why a layer is not peeled off; 0 if it is. -/
noncomputable def peelZ (server : List Int) (hop hops : Int) (b : List Int) : Int := by
  classical exact if mayPeel hop hops b.length then openE server (partO hop.toNat b) else 1
theorem peelZ_no {server : List Int} {hop hops : Int} {b : List Int} (h : ¬ mayPeel hop hops b.length) : peelZ server hop hops b = 1 := if_neg h
theorem peelZ_may {server : List Int} {hop hops : Int} {b : List Int} (h : mayPeel hop hops b.length) : peelZ server hop hops b = openE server (partO hop.toNat b) := if_pos h
theorem openE_two {server b : List Int} (h1 : 48 ≤ b.length) (h2 : b.length ≤ 2096) : openE server b = 0 ∨ openE server b = 4 := by
  rw [openE_ok h1 h2]; exact badTag_cases _ _ _

theorem peel_no (A B : Option Addr) (n c m d : Nat) (hop hops : Int) (server b : List Int) (w : World) (hn : server.length = n) (hm : b.length = m) (hbn : n ≤ 4000) (hmd : m ≤ d) (hx : Rd w A (nums .u8 server)) (hy : Rd w B (nums .u8 b)) (hb : Byt b) (hK : Konst w) (hz : peelZ server hop hops b ≠ 0) :
    Calls Tryd.prog 35 #[.slice A n c, .int .i64 hop, .int .i64 hops, .slice B m d] w (IsPeelBad (peelZ server hop hops b) w) := by
  by_cases h : mayPeel hop hops b.length
  · rw [peelZ_may h] at hz ⊢
    obtain ⟨h1, h2, h3, h4, h5⟩ := h
    obtain ⟨H, rfl⟩ := Int.eq_ofNat_of_zero_le (show 0 ≤ hops by omega)
    obtain ⟨i, rfl⟩ := Int.eq_ofNat_of_zero_le h3
    rw [Int.toNat_natCast] at hz ⊢
    have hl := partO_len (hop := i) (hops := H) (b := b) (by omega) (by omega)
    have h4' := (openE_two (server := server) (b := partO i b) (by omega) (by omega)).resolve_left hz
    rw [h4']
    exact peel_tag A B n c m d i H server b w hn hm hbn (by omega) (by omega) (by omega) hmd hx hy hb hK hz
  · rw [peelZ_no h]
    exact peel_bad A B n c m d hop hops w (by rw [hm] at h; exact h)
theorem peel_yes (A B : Option Addr) (n c m d : Nat) (hop hops : Int) (server b : List Int) (w : World) (hn : server.length = n) (hm : b.length = m) (hbn : n ≤ 4000) (hmd : m ≤ d) (hx : Rd w A (nums .u8 server)) (hy : Rd w B (nums .u8 b)) (hb : Byt b) (hK : Konst w) (hz : peelZ server hop hops b = 0) :
    Calls Tryd.prog 35 #[.slice A n c, .int .i64 hop, .int .i64 hops, .slice B m d] w (IsPeel w (peelO server hop.toNat hops.toNat b) (peelK server hop.toNat b)) := by
  have h : mayPeel hop hops b.length := by
    apply Classical.byContradiction
    intro h
    rw [peelZ_no h] at hz
    cases hz
  rw [peelZ_may h] at hz
  obtain ⟨h1, h2, h3, h4, h5⟩ := h
  obtain ⟨H, rfl⟩ := Int.eq_ofNat_of_zero_le (show 0 ≤ hops by omega)
  obtain ⟨i, rfl⟩ := Int.eq_ofNat_of_zero_le h3
  rw [Int.toNat_natCast] at hz
  rw [Int.toNat_natCast, Int.toNat_natCast]
  by_cases hl : i + 1 = H
  · exact peel_last A B n c m d i H server b w hn hm hbn (by omega) (by omega) (by omega) hmd hx hy hb hK hz hl
  · exact peel_mid A B n c m d i H server b w hn hm hbn (by omega) (by omega) (by omega) hmd hx hy hb hK hz (by omega)

theorem rpeel_no (A B : Option Addr) (n c m d : Nat) (hop hops : Int) (server b : List Int) (w : World) (hn : server.length = n) (hm : b.length = m) (hbn : n ≤ 4000) (hmd : m ≤ d) (hx : Rd w A (nums .u8 server)) (hy : Rd w B (nums .u8 b)) (hb : Byt b) (hz : peelZ server hop hops b ≠ 0) :
    Calls Tryd.prog 36 #[.slice A n c, .int .i64 hop, .int .i64 hops, .slice B m d] w (IsPeelBad (peelZ server hop hops b) w) := by
  by_cases h : mayPeel hop hops b.length
  · rw [peelZ_may h] at hz ⊢
    obtain ⟨h1, h2, h3, h4, h5⟩ := h
    obtain ⟨H, rfl⟩ := Int.eq_ofNat_of_zero_le (show 0 ≤ hops by omega)
    obtain ⟨i, rfl⟩ := Int.eq_ofNat_of_zero_le h3
    rw [Int.toNat_natCast] at hz ⊢
    have hl := partO_len (hop := i) (hops := H) (b := b) (by omega) (by omega)
    have h4' := (openE_two (server := server) (b := partO i b) (by omega) (by omega)).resolve_left hz
    rw [h4']
    exact rpeel_tag A B n c m d i H server b w hn hm hbn (by omega) (by omega) (by omega) hmd hx hy hb hz
  · rw [peelZ_no h]
    exact rpeel_bad A B n c m d hop hops w (by rw [hm] at h; exact h)
theorem rpeel_yes (A B : Option Addr) (n c m d : Nat) (hop hops : Int) (server b : List Int) (w : World) (hn : server.length = n) (hm : b.length = m) (hbn : n ≤ 4000) (hmd : m ≤ d) (hx : Rd w A (nums .u8 server)) (hy : Rd w B (nums .u8 b)) (hb : Byt b) (hz : peelZ server hop hops b = 0) :
    Calls Tryd.prog 36 #[.slice A n c, .int .i64 hop, .int .i64 hops, .slice B m d] w (IsPeel w (peelO server hop.toNat hops.toNat b) (peelK server hop.toNat b)) := by
  have h : mayPeel hop hops b.length := by
    apply Classical.byContradiction
    intro h
    rw [peelZ_no h] at hz
    cases hz
  rw [peelZ_may h] at hz
  obtain ⟨h1, h2, h3, h4, h5⟩ := h
  obtain ⟨H, rfl⟩ := Int.eq_ofNat_of_zero_le (show 0 ≤ hops by omega)
  obtain ⟨i, rfl⟩ := Int.eq_ofNat_of_zero_le h3
  rw [Int.toNat_natCast] at hz
  rw [Int.toNat_natCast, Int.toNat_natCast]
  by_cases hl : i + 1 = H
  · exact rpeel_last A B n c m d i H server b w hn hm hbn (by omega) (by omega) (by omega) hmd hx hy hb hz hl
  · exact rpeel_mid A B n c m d i H server b w hn hm hbn (by omega) (by omega) (by omega) hmd hx hy hb hz (by omega)

theorem peelK_len (server : List Int) (i : Nat) (b : List Int) : (peelK server i b).length = 32 := tag_len _ _
theorem peelK_byt (server : List Int) (i : Nat) (b : List Int) : Byt (peelK server i b) := tag_byt _ _
theorem peelO_byt {server : List Int} {i H : Nat} {b : List Int} (h : Byt b) : Byt (peelO server i H b) := fun x hx => by
  rcases List.mem_append.1 hx with hx | hx
  · exact inL_byt (partO_byt h) x hx
  · unfold padO at hx
    split at hx
    · cases hx
    · exact streamL_byt _ _ x hx
theorem partO_mix {b c : List Int} {i : Nat} (hl : b.length = c.length) : partO i (b.take (b.length - 48 * i) ++ c.drop (b.length - 48 * i)) = partO i b := by
  have h : (b.take (b.length - 48 * i) ++ c.drop (b.length - 48 * i)).length = b.length := by
    rw [List.length_append, List.length_take, List.length_drop]; omega
  rw [partO, h, List.take_append_of_le_length (by rw [List.length_take]; omega), List.take_take, Nat.min_self, partO]
theorem mix_len {b c : List Int} {i : Nat} (hl : b.length = c.length) : (b.take (b.length - 48 * i) ++ c.drop (b.length - 48 * i)).length = b.length := by
  rw [List.length_append, List.length_take, List.length_drop]; omega
theorem peelZ_mix {server b c : List Int} {i : Nat} {hops : Int} (hl : b.length = c.length) : peelZ server i hops (b.take (b.length - 48 * i) ++ c.drop (b.length - 48 * i)) = peelZ server i hops b := by
  by_cases h : mayPeel i hops b.length
  · rw [peelZ_may h, peelZ_may (by rw [mix_len hl]; exact h), Int.toNat_natCast, partO_mix hl]
  · rw [peelZ_no h, peelZ_no (by rw [mix_len hl]; exact h)]
theorem peelO_mix {server b c : List Int} {i H : Nat} (hl : b.length = c.length) : peelO server i H (b.take (b.length - 48 * i) ++ c.drop (b.length - 48 * i)) = peelO server i H b ∧ peelK server i (b.take (b.length - 48 * i) ++ c.drop (b.length - 48 * i)) = peelK server i b := by
  rw [peelO, peelO, peelK, peelK, partO_mix hl]
  exact ⟨rfl, rfl⟩

set_option maxHeartbeats 1000000 in
theorem onionPeels_walk (A B : Option Addr) (n c m d : Nat) (hop hops : Int) (server b : List Int) (w : World) (hn : server.length = n) (hm : b.length = m) (hmd : m ≤ d) (hx : Rd w A (nums .u8 server)) (hy : Rd w B (nums .u8 b)) (bb : Byt b) (hK : Konst w) :
    Calls Tryd.prog 8 #[.slice A n c, .int .i64 hop, .int .i64 hops, .slice B m d] w (Yes w) := by
  by_cases h1 : 200 < n
  · clear hn hm hx hy bb hK
    have q : (200 : Int) < n := by omega
    go_enter Tryd.func8, Tryd.ntmps8
    go_wp2_with (go_at_call 31; refine (live9_any _).mono ?_; rintro e w1 ⟨rfl, rfl⟩)
    go_ret
    exact ⟨rfl, brf⟩
  have q1 : ¬ (200 : Int) < n := by omega
  by_cases h2 : 600 < m
  · clear hn hm hx hy bb hK
    have q : (600 : Int) < m := by omega
    go_enter Tryd.func8, Tryd.ntmps8
    go_wp2_with (go_at_call 31; refine (live9_any _).mono ?_; rintro e w1 ⟨rfl, rfl⟩)
    go_ret
    exact ⟨rfl, brf⟩
  have q2 : ¬ (600 : Int) < m := by omega
  have S0 := fun W => same_true none none 0 0 0 0 [] [] W rfl rfl rfl (.inl rfl) (.inl rfl) (fun x hx => by cases hx)
  by_cases hz : peelZ server hop hops b = 0
  · have CA := fun W h1 h2 hK => peel_yes A B n c m d hop hops server b W hn hm (by omega) hmd h1 h2 bb hK hz
    have CB := fun W h1 h2 => rpeel_yes A B n c m d hop hops server b W hn hm (by omega) hmd h1 h2 bb hz
    obtain ⟨x, hxe⟩ : ∃ x, x = peelO server hop.toNat hops.toNat b := ⟨_, rfl⟩
    obtain ⟨k, hke⟩ : ∃ k, k = peelK server hop.toNat b := ⟨_, rfl⟩
    have lk : k.length = 32 := by rw [hke]; exact peelK_len _ _ _
    have bk : Byt k := by rw [hke]; exact peelK_byt _ _ _
    have bx : Byt x := by rw [hxe]; exact peelO_byt bb
    rw [← hxe, ← hke] at CA CB
    obtain ⟨N, hN⟩ : ∃ N, N = x.length := ⟨_, rfl⟩
    have S1 := fun A1 A2 c1 c2 W h1 h2 => same_true A1 A2 N c1 N c2 x x W rfl hN.symm hN.symm h1 h2 bx
    have S2 := fun A1 A2 c1 c2 W h1 h2 => same_true A1 A2 32 c1 32 c2 k k W rfl lk lk h1 h2 bk
    have HN := Lib.hid hN
    have HLK := Lib.hid lk
    have HX := Lib.hid hx
    have HY := Lib.hid hy
    have HK := Lib.hid hK
    clear hn hm hx hy bb hK hz hxe hke lk bk bx hN
    go_enter Tryd.func8, Tryd.ntmps8
    go_wp2_with (first
      | (go_at_call 31; refine (live9_any _).mono ?_; rintro e w1 ⟨rfl, rfl⟩)
      | (go_at_call 35; refine (CA _ HX.out HY.out HK.out).mono ?_; rintro e w2 ⟨A2, B2, c2, d2, he, _, hr2, hq2, hb2⟩; rw [← HN.out, HLK.out] at he; subst he; have HRx := Lib.hid hr2; have HRk := Lib.hid hq2; clear hr2 hq2)
      | (go_at_call 36; refine (CB _ (HX.out.below hb2) (HY.out.below hb2)).mono ?_; rintro e w3 ⟨A3, B3, c3, d3, he, _, hr3, hq3, hb3⟩; rw [← HN.out, HLK.out] at he; subst he; have HRx := Lib.hid (HRx.out.below hb3); have HRk := Lib.hid (HRk.out.below hb3); have HRy := Lib.hid hr3; have HRl := Lib.hid hq3; have HBX := bgo hb2 hb3; clear hr3 hq3)
      | (go_at_call 16; first
          | ((with_reducible refine (S2 _ _ _ _ _ HRk.out HRl.out).mono ?_); rintro e w4 ⟨rfl, rfl⟩)
          | ((with_reducible refine (S1 _ _ _ _ _ HRx.out HRy.out).mono ?_); rintro e w4 ⟨rfl, rfl⟩)))
    go_ret
    exact ⟨rfl, HBX⟩
  · have CA := fun W h1 h2 hK => peel_no A B n c m d hop hops server b W hn hm (by omega) hmd h1 h2 bb hK hz
    have CB := fun W h1 h2 => rpeel_no A B n c m d hop hops server b W hn hm (by omega) hmd h1 h2 bb hz
    obtain ⟨z, hze⟩ : ∃ z, z = peelZ server hop hops b := ⟨_, rfl⟩
    rw [← hze] at CA CB
    have HX := Lib.hid hx
    have HY := Lib.hid hy
    have HK := Lib.hid hK
    clear hn hm hx hy bb hK hz hze
    go_enter Tryd.func8, Tryd.ntmps8
    go_wp2_with (first
      | (go_at_call 31; refine (live9_any _).mono ?_; rintro e w1 ⟨rfl, rfl⟩)
      | (go_at_call 35; refine (CA _ HX.out HY.out HK.out).mono ?_; rintro e w2 ⟨rfl, hb2⟩)
      | (go_at_call 36; refine (CB _ (HX.out.below hb2) (HY.out.below hb2)).mono ?_; rintro e w3 ⟨rfl, hb3⟩; have HBX := bgo hb2 hb3)
      | (go_at_call 16; refine (S0 _).mono ?_; rintro e w4 ⟨rfl, rfl⟩))
    go_ret
    exact ⟨rfl, HBX⟩

theorem onionPeels_of {H : Type} {enc : TypeId × Value → H} (W : World) (base : Nat) (args : Array Value) (ds : List (DataW H)) (p : List MemPlace)
    (hval : ∀ (j : Nat) t v, Tryd.f8.params[j]? = some t → args[j]? = some v → Value.okWide Tryd.prog W .any base t v)
    (hA : DataW.TrodAll enc Tryd.prog W 0 (fun _ => true) true Tryd.f8.params.toList args.toList ds p) (hlt : ∀ x ∈ p, x.block < W.heap.size)
    (hz : (DataW.weightsEach Tryd.prog Tryd.f8.params.toList ds).all (· ≤ reachBytes) = true) (hK : Konst W) : Calls Tryd.prog 8 args W (Yes W) := by
  rw [Tryd.params8] at hA hval hz
  obtain ⟨v0, vs0, d0, ds0, p0, q0, hargs, rfl, rfl, h0, r0⟩ := trodAll_cons hA
  obtain ⟨v1, vs1, d1, ds1, p1, q1, rfl, rfl, rfl, h1, r1⟩ := trodAll_cons r0
  obtain ⟨v2, vs2, d2, ds2, p2, q2, rfl, rfl, rfl, h2, r2⟩ := trodAll_cons r1
  obtain ⟨v3, vs3, d3, ds3, p3, q3, rfl, rfl, rfl, h3, r3⟩ := trodAll_cons r2
  obtain ⟨rfl, rfl, rfl⟩ := trodAll_nil r3
  obtain rfl : args = #[v0, v1, v2, v3] := by cases args; simp_all
  obtain ⟨A, n, c, xs, rfl, hn0, hr0, hb0, hc0, hd0⟩ := open_bytes2 h0 (hval 0 _ _ rfl rfl)
  obtain ⟨hop, rfl, rfl, rfl, wz1⟩ := open_int Tryd.underlying3 (hval 1 _ _ rfl rfl) h1
  obtain ⟨hops, rfl, rfl, rfl, wz2⟩ := open_int Tryd.underlying3 (hval 2 _ _ rfl rfl) h2
  obtain ⟨B, m, d, us, rfl, hn3, hr3, hb3, hc3, hd3⟩ := open_bytes2 h3 (hval 3 _ _ rfl rfl)
  exact onionPeels_walk A B n c m d hop hops xs us W hn0 hn3 hc3 hr0 hr3 hb3 hK
end Go.Proofs.YtgclcpopibjocaaDoor
