/- FrameSize: the walk. -/
import Derived.Test.YtmkmndgdakpojaaDoorFm
namespace Go.Proofs.YtmkmndgdakpojaaDoor
open Go.RowKit Go.ChangeShapes Go.WideShapes Go.ChangeAt
set_option linter.unusedSimpArgs false
set_option linter.unusedVariables false
set_option maxRecDepth 100000

set_option maxHeartbeats 1000000 in
theorem frameSize_long1 (P : Option Addr) (pn pc : Nat) (O : Option Addr) (on oc : Nat) (F T : Int) (ep ro : Nat) (A : Option Addr) (n c : Nat) (K Q : Int) (D : Option Addr) (l dc : Nat) (F2 T2 : Int) (fp so : Nat) (B : Option Addr) (m d : Nat) (K2 Q2 : Int) (E : Option Addr) (l2 dc2 : Nat) (w : World) (hK : Konst w) (h : ¬ (pn ≤ 200 ∧ l ≤ 600 ∧ n ≤ 60)) : Calls Tryd.prog 6 #[.slice P pn pc, .slice O on oc, .agg #[.int .i64 F, .int .i64 T, .int .u64 (ep : Nat), .int .u64 (ro : Nat), .slice A n c, .int .i64 K, .int .i64 Q, .slice D l dc], .agg #[.int .i64 F2, .int .i64 T2, .int .u64 fp, .int .u64 so, .slice B m d, .int .i64 K2, .int .i64 Q2, .slice E l2 dc2]] w (Yes w) := by
  have hf := (frBox_new w F T ep ro (.slice A n c) K Q (.slice D l dc) 30).below (bal brf (.cells #[.int .i64 F2, .int .i64 T2, .int .u64 fp, .int .u64 so, .slice B m d, .int .i64 K2, .int .i64 Q2, .slice E l2 dc2] 30))
  have hg := frBox_new (w.alloc (.cells #[.int .i64 F, .int .i64 T, .int .u64 ep, .int .u64 ro, .slice A n c, .int .i64 K, .int .i64 Q, .slice D l dc] 30)) F2 T2 fp so (.slice B m d) K2 Q2 (.slice E l2 dc2) 30
  rw [World.size_alloc] at hg
  have HF := Lib.hid hf
  have HG := Lib.hid hg
  have HK := Lib.hid hK
  have HBX := Lib.hid (bal (bal (brf (w := w)) (.cells #[.int .i64 F, .int .i64 T, .int .u64 ep, .int .u64 ro, .slice A n c, .int .i64 K, .int .i64 Q, .slice D l dc] 30)) (.cells #[.int .i64 F2, .int .i64 T2, .int .u64 fp, .int .u64 so, .slice B m d, .int .i64 K2, .int .i64 Q2, .slice E l2 dc2] 30))
  clear hf hg hK
  go_enter Tryd.func6, Tryd.ntmps6
  go_wp2_with (first
    | (go_at_call 9; go_must (refine (live5_any _ (HK.out.go HBX.out)).mono ?_; rintro e w1 ⟨rfl, hb1⟩; have HBX := Lib.hid (bgo HBX.out hb1); have HF := Lib.hid (HF.out.below hb1); have HG := Lib.hid (HG.out.below hb1); obtain ⟨s0, a0, a1, a2, a3, a4, a5, a6, a7⟩ := HF.out; obtain ⟨t0, e0, e1, e2, e3, e4, e5, e6, e7⟩ := HG.out))
    | (go_at_call 10; first | ((with_reducible refine (few_no P pn pc F T ep ro A n c K Q D l dc none 0 0 _ (by omega)).mono ?_); rintro e w2 ⟨rfl, hb2⟩; have HBX := Lib.hid (bgo HBX.out hb2); have HF := Lib.hid (HF.out.below hb2); have HG := Lib.hid (HG.out.below hb2); obtain ⟨s0, a0, a1, a2, a3, a4, a5, a6, a7⟩ := HF.out; obtain ⟨t0, e0, e1, e2, e3, e4, e5, e6, e7⟩ := HG.out)))
  go_ret
  exact ⟨by simp, HBX.out⟩

set_option maxHeartbeats 1000000 in
theorem frameSize_long2 (P : Option Addr) (pn pc : Nat) (O : Option Addr) (on oc : Nat) (F T : Int) (ep ro : Nat) (A : Option Addr) (n c : Nat) (K Q : Int) (D : Option Addr) (l dc : Nat) (F2 T2 : Int) (fp so : Nat) (B : Option Addr) (m d : Nat) (K2 Q2 : Int) (E : Option Addr) (l2 dc2 : Nat) (w : World) (hK : Konst w) (h : pn ≤ 200 ∧ l ≤ 600 ∧ n ≤ 60) (h2 : ¬ (on ≤ 200 ∧ l2 ≤ 600 ∧ m ≤ 60)) : Calls Tryd.prog 6 #[.slice P pn pc, .slice O on oc, .agg #[.int .i64 F, .int .i64 T, .int .u64 (ep : Nat), .int .u64 (ro : Nat), .slice A n c, .int .i64 K, .int .i64 Q, .slice D l dc], .agg #[.int .i64 F2, .int .i64 T2, .int .u64 fp, .int .u64 so, .slice B m d, .int .i64 K2, .int .i64 Q2, .slice E l2 dc2]] w (Yes w) := by
  have hf := (frBox_new w F T ep ro (.slice A n c) K Q (.slice D l dc) 30).below (bal brf (.cells #[.int .i64 F2, .int .i64 T2, .int .u64 fp, .int .u64 so, .slice B m d, .int .i64 K2, .int .i64 Q2, .slice E l2 dc2] 30))
  have hg := frBox_new (w.alloc (.cells #[.int .i64 F, .int .i64 T, .int .u64 ep, .int .u64 ro, .slice A n c, .int .i64 K, .int .i64 Q, .slice D l dc] 30)) F2 T2 fp so (.slice B m d) K2 Q2 (.slice E l2 dc2) 30
  rw [World.size_alloc] at hg
  have HF := Lib.hid hf
  have HG := Lib.hid hg
  have HK := Lib.hid hK
  have HBX := Lib.hid (bal (bal (brf (w := w)) (.cells #[.int .i64 F, .int .i64 T, .int .u64 ep, .int .u64 ro, .slice A n c, .int .i64 K, .int .i64 Q, .slice D l dc] 30)) (.cells #[.int .i64 F2, .int .i64 T2, .int .u64 fp, .int .u64 so, .slice B m d, .int .i64 K2, .int .i64 Q2, .slice E l2 dc2] 30))
  clear hf hg hK
  go_enter Tryd.func6, Tryd.ntmps6
  go_wp2_with (first
    | (go_at_call 9; go_must (refine (live5_any _ (HK.out.go HBX.out)).mono ?_; rintro e w1 ⟨rfl, hb1⟩; have HBX := Lib.hid (bgo HBX.out hb1); have HF := Lib.hid (HF.out.below hb1); have HG := Lib.hid (HG.out.below hb1); obtain ⟨s0, a0, a1, a2, a3, a4, a5, a6, a7⟩ := HF.out; obtain ⟨t0, e0, e1, e2, e3, e4, e5, e6, e7⟩ := HG.out))
    | (go_at_call 10; first | ((with_reducible refine (few_yes P pn pc F T ep ro A n c K Q D l dc none 0 0 _ (by omega) (by omega) (by omega) (by omega)).mono ?_); rintro e w2 ⟨rfl, hb2⟩; have HBX := Lib.hid (bgo HBX.out hb2); have HF := Lib.hid (HF.out.below hb2); have HG := Lib.hid (HG.out.below hb2); obtain ⟨s0, a0, a1, a2, a3, a4, a5, a6, a7⟩ := HF.out; obtain ⟨t0, e0, e1, e2, e3, e4, e5, e6, e7⟩ := HG.out) | ((with_reducible refine (few_no O on oc F2 T2 fp so B m d K2 Q2 E l2 dc2 none 0 0 _ (by omega)).mono ?_); rintro e w3 ⟨rfl, hb3⟩; have HBX := Lib.hid (bgo HBX.out hb3); have HF := Lib.hid (HF.out.below hb3); have HG := Lib.hid (HG.out.below hb3); obtain ⟨s0, a0, a1, a2, a3, a4, a5, a6, a7⟩ := HF.out; obtain ⟨t0, e0, e1, e2, e3, e4, e5, e6, e7⟩ := HG.out)))
  go_ret
  exact ⟨by simp, HBX.out⟩

set_option maxHeartbeats 2000000 in
theorem frameSize_gg (P : Option Addr) (pn pc : Nat) (O : Option Addr) (on oc : Nat) (F T : Int) (ep ro : Nat) (A : Option Addr) (n c : Nat) (K Q : Int) (D : Option Addr) (l dc : Nat) (F2 T2 : Int) (fp so : Nat) (B : Option Addr) (m d : Nat) (K2 Q2 : Int) (E : Option Addr) (l2 dc2 : Nat) (w : World) (hK : Konst w) (key other xs ys bs bs2 : List Int) (h : pn ≤ 200 ∧ l ≤ 600 ∧ n ≤ 60) (h2 : on ≤ 200 ∧ l2 ≤ 600 ∧ m ≤ 60) (hp : key.length = pn) (hpx : Rd w P (nums .u8 key)) (ho : other.length = on) (hox : Rd w O (nums .u8 other)) (hn : xs.length = n) (hnc : n ≤ c) (hx : Rd w A (nums .i64 xs)) (hep : ep < 18446744073709551616) (hro : ro < 18446744073709551616) (hl : bs.length = l) (hb : Rd w D (nums .u8 bs)) (hm : ys.length = m) (hmd : m ≤ d) (hy : Rd w B (nums .i64 ys)) (hfp : fp < 18446744073709551616) (hso : so < 18446744073709551616) (hl2 : bs2.length = l2) (hb2 : Rd w E (nums .u8 bs2)) (hg : goodF F T K Q xs l) (hh : goodF F2 T2 K2 Q2 ys l2) : Calls Tryd.prog 6 #[.slice P pn pc, .slice O on oc, .agg #[.int .i64 F, .int .i64 T, .int .u64 (ep : Nat), .int .u64 (ro : Nat), .slice A n c, .int .i64 K, .int .i64 Q, .slice D l dc], .agg #[.int .i64 F2, .int .i64 T2, .int .u64 fp, .int .u64 so, .slice B m d, .int .i64 K2, .int .i64 Q2, .slice E l2 dc2]] w (Yes w) := by
  obtain ⟨q, rfl⟩ := Int.eq_ofNat_of_zero_le hg.2.2.2.2.2.2.1
  obtain ⟨q2, rfl⟩ := Int.eq_ofNat_of_zero_le hh.2.2.2.2.2.2.1
  have hl60 := frB_len key F T ep ro xs K q bs
  rw [hn, hl] at hl60
  have HCP := Lib.hid (fun (W : World) h0 h1 h2 h3 => fPut_any P pn pc key F T ep ro A n c xs K q D l dc bs W hp (by omega) h0 hn hnc h1 hl (by omega) h2 hep hro h3 hg)
  obtain ⟨fr, hfr⟩ : ∃ fr, fr = frB key F T ep ro xs K q bs := ⟨_, rfl⟩
  rw [← hfr] at HCP hl60
  have HL := Lib.hid hl60
  clear hl60 hfr
  have hl61 := frB_len other F2 T2 fp so ys K2 q2 bs2
  rw [hm, hl2] at hl61
  have HCQ := Lib.hid (fun (W : World) h0 h1 h2 h3 => fPut_any O on oc other F2 T2 fp so B m d ys K2 q2 E l2 dc2 bs2 W ho (by omega) h0 hm hmd h1 hl2 (by omega) h2 hfp hso h3 hh)
  obtain ⟨fs, hfs⟩ : ∃ fr, fr = frB other F2 T2 fp so ys K2 q2 bs2 := ⟨_, rfl⟩
  rw [← hfs] at HCQ hl61
  have HL2 := Lib.hid hl61
  clear hl61 hfs
  have HP := Lib.hid hpx
  have HO := Lib.hid hox
  have HX := Lib.hid hx
  have HY := Lib.hid hy
  have HB := Lib.hid hb
  have HB2 := Lib.hid hb2
  have hf := (frBox_new w F T ep ro (.slice A n c) K q (.slice D l dc) 30).below (bal brf (.cells #[.int .i64 F2, .int .i64 T2, .int .u64 fp, .int .u64 so, .slice B m d, .int .i64 K2, .int .i64 q2, .slice E l2 dc2] 30))
  have hg := frBox_new (w.alloc (.cells #[.int .i64 F, .int .i64 T, .int .u64 ep, .int .u64 ro, .slice A n c, .int .i64 K, .int .i64 q, .slice D l dc] 30)) F2 T2 fp so (.slice B m d) K2 q2 (.slice E l2 dc2) 30
  rw [World.size_alloc] at hg
  have HF := Lib.hid hf
  have HG := Lib.hid hg
  have HK := Lib.hid hK
  have HBX := Lib.hid (bal (bal (brf (w := w)) (.cells #[.int .i64 F, .int .i64 T, .int .u64 ep, .int .u64 ro, .slice A n c, .int .i64 K, .int .i64 q, .slice D l dc] 30)) (.cells #[.int .i64 F2, .int .i64 T2, .int .u64 fp, .int .u64 so, .slice B m d, .int .i64 K2, .int .i64 q2, .slice E l2 dc2] 30))
  clear hf hg hK
  clear hp hpx ho hox hn hx hep hro hl hb hm hy hfp hso hl2 hb2 hg hh
  go_enter Tryd.func6, Tryd.ntmps6
  go_wp2_with (first
    | (go_at_call 9; go_must (refine (live5_any _ (HK.out.go HBX.out)).mono ?_; rintro e w1 ⟨rfl, hb1⟩; have HBX := Lib.hid (bgo HBX.out hb1); have HF := Lib.hid (HF.out.below hb1); have HG := Lib.hid (HG.out.below hb1); obtain ⟨s0, a0, a1, a2, a3, a4, a5, a6, a7⟩ := HF.out; obtain ⟨t0, e0, e1, e2, e3, e4, e5, e6, e7⟩ := HG.out))
    | (go_at_call 10; first | ((with_reducible refine (few_yes P pn pc F T ep ro A n c K q D l dc none 0 0 _ (by omega) (by omega) (by omega) (by omega)).mono ?_); rintro e w2 ⟨rfl, hb2⟩; have HBX := Lib.hid (bgo HBX.out hb2); have HF := Lib.hid (HF.out.below hb2); have HG := Lib.hid (HG.out.below hb2); obtain ⟨s0, a0, a1, a2, a3, a4, a5, a6, a7⟩ := HF.out; obtain ⟨t0, e0, e1, e2, e3, e4, e5, e6, e7⟩ := HG.out) | ((with_reducible refine (few_yes O on oc F2 T2 fp so B m d K2 q2 E l2 dc2 none 0 0 _ (by omega) (by omega) (by omega) (by omega)).mono ?_); rintro e w3 ⟨rfl, hb3⟩; have HBX := Lib.hid (bgo HBX.out hb3); have HF := Lib.hid (HF.out.below hb3); have HG := Lib.hid (HG.out.below hb3); obtain ⟨s0, a0, a1, a2, a3, a4, a5, a6, a7⟩ := HF.out; obtain ⟨t0, e0, e1, e2, e3, e4, e5, e6, e7⟩ := HG.out))
    | (go_at_call 15; first
      | ((with_reducible refine (HCP.out _ (HP.out.below HBX.out) (HX.out.below HBX.out) (HB.out.below HBX.out) (HK.out.go HBX.out)).mono ?_); rintro e w4 ⟨B4, c4, he4, hc4, hown4, hb4⟩; rw [HL.out] at he4; subst he4; have HBX := Lib.hid (bgo HBX.out hb4); have HF := Lib.hid (HF.out.below hb4); have HG := Lib.hid (HG.out.below hb4); obtain ⟨s0, a0, a1, a2, a3, a4, a5, a6, a7⟩ := HF.out; obtain ⟨t0, e0, e1, e2, e3, e4, e5, e6, e7⟩ := HG.out; clear hown4)
      | ((with_reducible refine (HCQ.out _ (HO.out.below HBX.out) (HY.out.below HBX.out) (HB2.out.below HBX.out) (HK.out.go HBX.out)).mono ?_); rintro e w5 ⟨B5, c5, he5, hc5, hown5, hb5⟩; rw [HL2.out] at he5; subst he5; have HBX := Lib.hid (bgo HBX.out hb5); have HF := Lib.hid (HF.out.below hb5); have HG := Lib.hid (HG.out.below hb5); obtain ⟨s0, a0, a1, a2, a3, a4, a5, a6, a7⟩ := HF.out; obtain ⟨t0, e0, e1, e2, e3, e4, e5, e6, e7⟩ := HG.out; clear hown5)))
  go_ret
  exact ⟨by first | (simp; done) | (simp; omega), HBX.out⟩

set_option maxHeartbeats 2000000 in
theorem frameSize_gb (P : Option Addr) (pn pc : Nat) (O : Option Addr) (on oc : Nat) (F T : Int) (ep ro : Nat) (A : Option Addr) (n c : Nat) (K Q : Int) (D : Option Addr) (l dc : Nat) (F2 T2 : Int) (fp so : Nat) (B : Option Addr) (m d : Nat) (K2 Q2 : Int) (E : Option Addr) (l2 dc2 : Nat) (w : World) (hK : Konst w) (key other xs ys bs bs2 : List Int) (h : pn ≤ 200 ∧ l ≤ 600 ∧ n ≤ 60) (h2 : on ≤ 200 ∧ l2 ≤ 600 ∧ m ≤ 60) (hp : key.length = pn) (hpx : Rd w P (nums .u8 key)) (ho : other.length = on) (hox : Rd w O (nums .u8 other)) (hn : xs.length = n) (hnc : n ≤ c) (hx : Rd w A (nums .i64 xs)) (hep : ep < 18446744073709551616) (hro : ro < 18446744073709551616) (hl : bs.length = l) (hb : Rd w D (nums .u8 bs)) (hm : ys.length = m) (hmd : m ≤ d) (hy : Rd w B (nums .i64 ys)) (hfp : fp < 18446744073709551616) (hso : so < 18446744073709551616) (hl2 : bs2.length = l2) (hb2 : Rd w E (nums .u8 bs2)) (hg : goodF F T K Q xs l) (hh : ¬ goodF F2 T2 K2 Q2 ys l2) : Calls Tryd.prog 6 #[.slice P pn pc, .slice O on oc, .agg #[.int .i64 F, .int .i64 T, .int .u64 (ep : Nat), .int .u64 (ro : Nat), .slice A n c, .int .i64 K, .int .i64 Q, .slice D l dc], .agg #[.int .i64 F2, .int .i64 T2, .int .u64 fp, .int .u64 so, .slice B m d, .int .i64 K2, .int .i64 Q2, .slice E l2 dc2]] w (Yes w) := by
  obtain ⟨q, rfl⟩ := Int.eq_ofNat_of_zero_le hg.2.2.2.2.2.2.1
  have hl60 := frB_len key F T ep ro xs K q bs
  rw [hn, hl] at hl60
  have HCP := Lib.hid (fun (W : World) h0 h1 h2 h3 => fPut_any P pn pc key F T ep ro A n c xs K q D l dc bs W hp (by omega) h0 hn hnc h1 hl (by omega) h2 hep hro h3 hg)
  obtain ⟨fr, hfr⟩ : ∃ fr, fr = frB key F T ep ro xs K q bs := ⟨_, rfl⟩
  rw [← hfr] at HCP hl60
  have HL := Lib.hid hl60
  clear hl60 hfr
  have HCQ := Lib.hid (fun (W : World) h0 => fPut_bad O on oc F2 T2 fp so B m d ys K2 Q2 E l2 dc2 W hm hmd h0 (by omega) hh)
  have HP := Lib.hid hpx
  have HO := Lib.hid hox
  have HX := Lib.hid hx
  have HY := Lib.hid hy
  have HB := Lib.hid hb
  have HB2 := Lib.hid hb2
  have hf := (frBox_new w F T ep ro (.slice A n c) K q (.slice D l dc) 30).below (bal brf (.cells #[.int .i64 F2, .int .i64 T2, .int .u64 fp, .int .u64 so, .slice B m d, .int .i64 K2, .int .i64 Q2, .slice E l2 dc2] 30))
  have hg := frBox_new (w.alloc (.cells #[.int .i64 F, .int .i64 T, .int .u64 ep, .int .u64 ro, .slice A n c, .int .i64 K, .int .i64 q, .slice D l dc] 30)) F2 T2 fp so (.slice B m d) K2 Q2 (.slice E l2 dc2) 30
  rw [World.size_alloc] at hg
  have HF := Lib.hid hf
  have HG := Lib.hid hg
  have HK := Lib.hid hK
  have HBX := Lib.hid (bal (bal (brf (w := w)) (.cells #[.int .i64 F, .int .i64 T, .int .u64 ep, .int .u64 ro, .slice A n c, .int .i64 K, .int .i64 q, .slice D l dc] 30)) (.cells #[.int .i64 F2, .int .i64 T2, .int .u64 fp, .int .u64 so, .slice B m d, .int .i64 K2, .int .i64 Q2, .slice E l2 dc2] 30))
  clear hf hg hK
  clear hp hpx ho hox hn hx hep hro hl hb hm hy hfp hso hl2 hb2 hg hh
  go_enter Tryd.func6, Tryd.ntmps6
  go_wp2_with (first
    | (go_at_call 9; go_must (refine (live5_any _ (HK.out.go HBX.out)).mono ?_; rintro e w1 ⟨rfl, hb1⟩; have HBX := Lib.hid (bgo HBX.out hb1); have HF := Lib.hid (HF.out.below hb1); have HG := Lib.hid (HG.out.below hb1); obtain ⟨s0, a0, a1, a2, a3, a4, a5, a6, a7⟩ := HF.out; obtain ⟨t0, e0, e1, e2, e3, e4, e5, e6, e7⟩ := HG.out))
    | (go_at_call 10; first | ((with_reducible refine (few_yes P pn pc F T ep ro A n c K q D l dc none 0 0 _ (by omega) (by omega) (by omega) (by omega)).mono ?_); rintro e w2 ⟨rfl, hb2⟩; have HBX := Lib.hid (bgo HBX.out hb2); have HF := Lib.hid (HF.out.below hb2); have HG := Lib.hid (HG.out.below hb2); obtain ⟨s0, a0, a1, a2, a3, a4, a5, a6, a7⟩ := HF.out; obtain ⟨t0, e0, e1, e2, e3, e4, e5, e6, e7⟩ := HG.out) | ((with_reducible refine (few_yes O on oc F2 T2 fp so B m d K2 Q2 E l2 dc2 none 0 0 _ (by omega) (by omega) (by omega) (by omega)).mono ?_); rintro e w3 ⟨rfl, hb3⟩; have HBX := Lib.hid (bgo HBX.out hb3); have HF := Lib.hid (HF.out.below hb3); have HG := Lib.hid (HG.out.below hb3); obtain ⟨s0, a0, a1, a2, a3, a4, a5, a6, a7⟩ := HF.out; obtain ⟨t0, e0, e1, e2, e3, e4, e5, e6, e7⟩ := HG.out))
    | (go_at_call 15; first
      | ((with_reducible refine (HCP.out _ (HP.out.below HBX.out) (HX.out.below HBX.out) (HB.out.below HBX.out) (HK.out.go HBX.out)).mono ?_); rintro e w4 ⟨B4, c4, he4, hc4, hown4, hb4⟩; rw [HL.out] at he4; subst he4; have HBX := Lib.hid (bgo HBX.out hb4); have HF := Lib.hid (HF.out.below hb4); have HG := Lib.hid (HG.out.below hb4); obtain ⟨s0, a0, a1, a2, a3, a4, a5, a6, a7⟩ := HF.out; obtain ⟨t0, e0, e1, e2, e3, e4, e5, e6, e7⟩ := HG.out; clear hown4)
      | ((with_reducible refine (HCQ.out _ (HY.out.below HBX.out)).mono ?_); rintro e w5 ⟨rfl, hb5⟩; have HBX := Lib.hid (bgo HBX.out hb5); have HF := Lib.hid (HF.out.below hb5); have HG := Lib.hid (HG.out.below hb5); obtain ⟨s0, a0, a1, a2, a3, a4, a5, a6, a7⟩ := HF.out; obtain ⟨t0, e0, e1, e2, e3, e4, e5, e6, e7⟩ := HG.out)))
  go_ret
  exact ⟨by first | (simp; done) | (simp; omega), HBX.out⟩

set_option maxHeartbeats 2000000 in
theorem frameSize_bg (P : Option Addr) (pn pc : Nat) (O : Option Addr) (on oc : Nat) (F T : Int) (ep ro : Nat) (A : Option Addr) (n c : Nat) (K Q : Int) (D : Option Addr) (l dc : Nat) (F2 T2 : Int) (fp so : Nat) (B : Option Addr) (m d : Nat) (K2 Q2 : Int) (E : Option Addr) (l2 dc2 : Nat) (w : World) (hK : Konst w) (key other xs ys bs bs2 : List Int) (h : pn ≤ 200 ∧ l ≤ 600 ∧ n ≤ 60) (h2 : on ≤ 200 ∧ l2 ≤ 600 ∧ m ≤ 60) (hp : key.length = pn) (hpx : Rd w P (nums .u8 key)) (ho : other.length = on) (hox : Rd w O (nums .u8 other)) (hn : xs.length = n) (hnc : n ≤ c) (hx : Rd w A (nums .i64 xs)) (hep : ep < 18446744073709551616) (hro : ro < 18446744073709551616) (hl : bs.length = l) (hb : Rd w D (nums .u8 bs)) (hm : ys.length = m) (hmd : m ≤ d) (hy : Rd w B (nums .i64 ys)) (hfp : fp < 18446744073709551616) (hso : so < 18446744073709551616) (hl2 : bs2.length = l2) (hb2 : Rd w E (nums .u8 bs2)) (hg : ¬ goodF F T K Q xs l) (hh : goodF F2 T2 K2 Q2 ys l2) : Calls Tryd.prog 6 #[.slice P pn pc, .slice O on oc, .agg #[.int .i64 F, .int .i64 T, .int .u64 (ep : Nat), .int .u64 (ro : Nat), .slice A n c, .int .i64 K, .int .i64 Q, .slice D l dc], .agg #[.int .i64 F2, .int .i64 T2, .int .u64 fp, .int .u64 so, .slice B m d, .int .i64 K2, .int .i64 Q2, .slice E l2 dc2]] w (Yes w) := by
  obtain ⟨q2, rfl⟩ := Int.eq_ofNat_of_zero_le hh.2.2.2.2.2.2.1
  have HCP := Lib.hid (fun (W : World) h0 => fPut_bad P pn pc F T ep ro A n c xs K Q D l dc W hn hnc h0 (by omega) hg)
  have hl61 := frB_len other F2 T2 fp so ys K2 q2 bs2
  rw [hm, hl2] at hl61
  have HCQ := Lib.hid (fun (W : World) h0 h1 h2 h3 => fPut_any O on oc other F2 T2 fp so B m d ys K2 q2 E l2 dc2 bs2 W ho (by omega) h0 hm hmd h1 hl2 (by omega) h2 hfp hso h3 hh)
  obtain ⟨fs, hfs⟩ : ∃ fr, fr = frB other F2 T2 fp so ys K2 q2 bs2 := ⟨_, rfl⟩
  rw [← hfs] at HCQ hl61
  have HL2 := Lib.hid hl61
  clear hl61 hfs
  have HP := Lib.hid hpx
  have HO := Lib.hid hox
  have HX := Lib.hid hx
  have HY := Lib.hid hy
  have HB := Lib.hid hb
  have HB2 := Lib.hid hb2
  have hf := (frBox_new w F T ep ro (.slice A n c) K Q (.slice D l dc) 30).below (bal brf (.cells #[.int .i64 F2, .int .i64 T2, .int .u64 fp, .int .u64 so, .slice B m d, .int .i64 K2, .int .i64 q2, .slice E l2 dc2] 30))
  have hg := frBox_new (w.alloc (.cells #[.int .i64 F, .int .i64 T, .int .u64 ep, .int .u64 ro, .slice A n c, .int .i64 K, .int .i64 Q, .slice D l dc] 30)) F2 T2 fp so (.slice B m d) K2 q2 (.slice E l2 dc2) 30
  rw [World.size_alloc] at hg
  have HF := Lib.hid hf
  have HG := Lib.hid hg
  have HK := Lib.hid hK
  have HBX := Lib.hid (bal (bal (brf (w := w)) (.cells #[.int .i64 F, .int .i64 T, .int .u64 ep, .int .u64 ro, .slice A n c, .int .i64 K, .int .i64 Q, .slice D l dc] 30)) (.cells #[.int .i64 F2, .int .i64 T2, .int .u64 fp, .int .u64 so, .slice B m d, .int .i64 K2, .int .i64 q2, .slice E l2 dc2] 30))
  clear hf hg hK
  clear hp hpx ho hox hn hx hep hro hl hb hm hy hfp hso hl2 hb2 hg hh
  go_enter Tryd.func6, Tryd.ntmps6
  go_wp2_with (first
    | (go_at_call 9; go_must (refine (live5_any _ (HK.out.go HBX.out)).mono ?_; rintro e w1 ⟨rfl, hb1⟩; have HBX := Lib.hid (bgo HBX.out hb1); have HF := Lib.hid (HF.out.below hb1); have HG := Lib.hid (HG.out.below hb1); obtain ⟨s0, a0, a1, a2, a3, a4, a5, a6, a7⟩ := HF.out; obtain ⟨t0, e0, e1, e2, e3, e4, e5, e6, e7⟩ := HG.out))
    | (go_at_call 10; first | ((with_reducible refine (few_yes P pn pc F T ep ro A n c K Q D l dc none 0 0 _ (by omega) (by omega) (by omega) (by omega)).mono ?_); rintro e w2 ⟨rfl, hb2⟩; have HBX := Lib.hid (bgo HBX.out hb2); have HF := Lib.hid (HF.out.below hb2); have HG := Lib.hid (HG.out.below hb2); obtain ⟨s0, a0, a1, a2, a3, a4, a5, a6, a7⟩ := HF.out; obtain ⟨t0, e0, e1, e2, e3, e4, e5, e6, e7⟩ := HG.out) | ((with_reducible refine (few_yes O on oc F2 T2 fp so B m d K2 q2 E l2 dc2 none 0 0 _ (by omega) (by omega) (by omega) (by omega)).mono ?_); rintro e w3 ⟨rfl, hb3⟩; have HBX := Lib.hid (bgo HBX.out hb3); have HF := Lib.hid (HF.out.below hb3); have HG := Lib.hid (HG.out.below hb3); obtain ⟨s0, a0, a1, a2, a3, a4, a5, a6, a7⟩ := HF.out; obtain ⟨t0, e0, e1, e2, e3, e4, e5, e6, e7⟩ := HG.out))
    | (go_at_call 15; first
      | ((with_reducible refine (HCP.out _ (HX.out.below HBX.out)).mono ?_); rintro e w4 ⟨rfl, hb4⟩; have HBX := Lib.hid (bgo HBX.out hb4); have HF := Lib.hid (HF.out.below hb4); have HG := Lib.hid (HG.out.below hb4); obtain ⟨s0, a0, a1, a2, a3, a4, a5, a6, a7⟩ := HF.out; obtain ⟨t0, e0, e1, e2, e3, e4, e5, e6, e7⟩ := HG.out)
      | ((with_reducible refine (HCQ.out _ (HO.out.below HBX.out) (HY.out.below HBX.out) (HB2.out.below HBX.out) (HK.out.go HBX.out)).mono ?_); rintro e w5 ⟨B5, c5, he5, hc5, hown5, hb5⟩; rw [HL2.out] at he5; subst he5; have HBX := Lib.hid (bgo HBX.out hb5); have HF := Lib.hid (HF.out.below hb5); have HG := Lib.hid (HG.out.below hb5); obtain ⟨s0, a0, a1, a2, a3, a4, a5, a6, a7⟩ := HF.out; obtain ⟨t0, e0, e1, e2, e3, e4, e5, e6, e7⟩ := HG.out; clear hown5)))
  go_ret
  exact ⟨by first | (simp; done) | (simp; omega), HBX.out⟩

set_option maxHeartbeats 2000000 in
theorem frameSize_bb (P : Option Addr) (pn pc : Nat) (O : Option Addr) (on oc : Nat) (F T : Int) (ep ro : Nat) (A : Option Addr) (n c : Nat) (K Q : Int) (D : Option Addr) (l dc : Nat) (F2 T2 : Int) (fp so : Nat) (B : Option Addr) (m d : Nat) (K2 Q2 : Int) (E : Option Addr) (l2 dc2 : Nat) (w : World) (hK : Konst w) (key other xs ys bs bs2 : List Int) (h : pn ≤ 200 ∧ l ≤ 600 ∧ n ≤ 60) (h2 : on ≤ 200 ∧ l2 ≤ 600 ∧ m ≤ 60) (hp : key.length = pn) (hpx : Rd w P (nums .u8 key)) (ho : other.length = on) (hox : Rd w O (nums .u8 other)) (hn : xs.length = n) (hnc : n ≤ c) (hx : Rd w A (nums .i64 xs)) (hep : ep < 18446744073709551616) (hro : ro < 18446744073709551616) (hl : bs.length = l) (hb : Rd w D (nums .u8 bs)) (hm : ys.length = m) (hmd : m ≤ d) (hy : Rd w B (nums .i64 ys)) (hfp : fp < 18446744073709551616) (hso : so < 18446744073709551616) (hl2 : bs2.length = l2) (hb2 : Rd w E (nums .u8 bs2)) (hg : ¬ goodF F T K Q xs l) (hh : ¬ goodF F2 T2 K2 Q2 ys l2) : Calls Tryd.prog 6 #[.slice P pn pc, .slice O on oc, .agg #[.int .i64 F, .int .i64 T, .int .u64 (ep : Nat), .int .u64 (ro : Nat), .slice A n c, .int .i64 K, .int .i64 Q, .slice D l dc], .agg #[.int .i64 F2, .int .i64 T2, .int .u64 fp, .int .u64 so, .slice B m d, .int .i64 K2, .int .i64 Q2, .slice E l2 dc2]] w (Yes w) := by
  have HCP := Lib.hid (fun (W : World) h0 => fPut_bad P pn pc F T ep ro A n c xs K Q D l dc W hn hnc h0 (by omega) hg)
  have HCQ := Lib.hid (fun (W : World) h0 => fPut_bad O on oc F2 T2 fp so B m d ys K2 Q2 E l2 dc2 W hm hmd h0 (by omega) hh)
  have HP := Lib.hid hpx
  have HO := Lib.hid hox
  have HX := Lib.hid hx
  have HY := Lib.hid hy
  have HB := Lib.hid hb
  have HB2 := Lib.hid hb2
  have hf := (frBox_new w F T ep ro (.slice A n c) K Q (.slice D l dc) 30).below (bal brf (.cells #[.int .i64 F2, .int .i64 T2, .int .u64 fp, .int .u64 so, .slice B m d, .int .i64 K2, .int .i64 Q2, .slice E l2 dc2] 30))
  have hg := frBox_new (w.alloc (.cells #[.int .i64 F, .int .i64 T, .int .u64 ep, .int .u64 ro, .slice A n c, .int .i64 K, .int .i64 Q, .slice D l dc] 30)) F2 T2 fp so (.slice B m d) K2 Q2 (.slice E l2 dc2) 30
  rw [World.size_alloc] at hg
  have HF := Lib.hid hf
  have HG := Lib.hid hg
  have HK := Lib.hid hK
  have HBX := Lib.hid (bal (bal (brf (w := w)) (.cells #[.int .i64 F, .int .i64 T, .int .u64 ep, .int .u64 ro, .slice A n c, .int .i64 K, .int .i64 Q, .slice D l dc] 30)) (.cells #[.int .i64 F2, .int .i64 T2, .int .u64 fp, .int .u64 so, .slice B m d, .int .i64 K2, .int .i64 Q2, .slice E l2 dc2] 30))
  clear hf hg hK
  clear hp hpx ho hox hn hx hep hro hl hb hm hy hfp hso hl2 hb2 hg hh
  go_enter Tryd.func6, Tryd.ntmps6
  go_wp2_with (first
    | (go_at_call 9; go_must (refine (live5_any _ (HK.out.go HBX.out)).mono ?_; rintro e w1 ⟨rfl, hb1⟩; have HBX := Lib.hid (bgo HBX.out hb1); have HF := Lib.hid (HF.out.below hb1); have HG := Lib.hid (HG.out.below hb1); obtain ⟨s0, a0, a1, a2, a3, a4, a5, a6, a7⟩ := HF.out; obtain ⟨t0, e0, e1, e2, e3, e4, e5, e6, e7⟩ := HG.out))
    | (go_at_call 10; first | ((with_reducible refine (few_yes P pn pc F T ep ro A n c K Q D l dc none 0 0 _ (by omega) (by omega) (by omega) (by omega)).mono ?_); rintro e w2 ⟨rfl, hb2⟩; have HBX := Lib.hid (bgo HBX.out hb2); have HF := Lib.hid (HF.out.below hb2); have HG := Lib.hid (HG.out.below hb2); obtain ⟨s0, a0, a1, a2, a3, a4, a5, a6, a7⟩ := HF.out; obtain ⟨t0, e0, e1, e2, e3, e4, e5, e6, e7⟩ := HG.out) | ((with_reducible refine (few_yes O on oc F2 T2 fp so B m d K2 Q2 E l2 dc2 none 0 0 _ (by omega) (by omega) (by omega) (by omega)).mono ?_); rintro e w3 ⟨rfl, hb3⟩; have HBX := Lib.hid (bgo HBX.out hb3); have HF := Lib.hid (HF.out.below hb3); have HG := Lib.hid (HG.out.below hb3); obtain ⟨s0, a0, a1, a2, a3, a4, a5, a6, a7⟩ := HF.out; obtain ⟨t0, e0, e1, e2, e3, e4, e5, e6, e7⟩ := HG.out))
    | (go_at_call 15; first
      | ((with_reducible refine (HCP.out _ (HX.out.below HBX.out)).mono ?_); rintro e w4 ⟨rfl, hb4⟩; have HBX := Lib.hid (bgo HBX.out hb4); have HF := Lib.hid (HF.out.below hb4); have HG := Lib.hid (HG.out.below hb4); obtain ⟨s0, a0, a1, a2, a3, a4, a5, a6, a7⟩ := HF.out; obtain ⟨t0, e0, e1, e2, e3, e4, e5, e6, e7⟩ := HG.out)
      | ((with_reducible refine (HCQ.out _ (HY.out.below HBX.out)).mono ?_); rintro e w5 ⟨rfl, hb5⟩; have HBX := Lib.hid (bgo HBX.out hb5); have HF := Lib.hid (HF.out.below hb5); have HG := Lib.hid (HG.out.below hb5); obtain ⟨s0, a0, a1, a2, a3, a4, a5, a6, a7⟩ := HF.out; obtain ⟨t0, e0, e1, e2, e3, e4, e5, e6, e7⟩ := HG.out)))
  go_ret
  exact ⟨by first | (simp; done) | (simp; omega), HBX.out⟩

set_option maxHeartbeats 1000000 in
open Go.Joins Go.Deep in
theorem frameSize_of {H : Type} {enc : TypeId × Value → H} (W : World) (base : Nat) (args : Array Value) (ds : List (DataW H)) (p : List MemPlace)
    (hval : ∀ (j : Nat) t v, Tryd.f6.params[j]? = some t → args[j]? = some v → Value.okWide Tryd.prog W .any base t v)
    (hA : DataW.TrodAll enc Tryd.prog W 0 (fun _ => true) true Tryd.f6.params.toList args.toList ds p) (hlt : ∀ x ∈ p, x.block < W.heap.size)
    (hz : (DataW.weightsEach Tryd.prog Tryd.f6.params.toList ds).all (· ≤ reachBytes) = true) (hK : Konst W) : Calls Tryd.prog 6 args W (Yes W) := by
  rw [Tryd.params6] at hA hval hz
  obtain ⟨v0, vs0, d0, ds0, p0, q0, hargs, rfl, rfl, h0, r0⟩ := trodAll_cons hA
  obtain ⟨v1, vs1, d1, ds1, p1, q1, rfl, rfl, rfl, h1, r1⟩ := trodAll_cons r0
  obtain ⟨v2, vs2, d2, ds2, p2, q2, rfl, rfl, rfl, h2, r2⟩ := trodAll_cons r1
  obtain ⟨v3, vs3, d3, ds3, p3, q3, rfl, rfl, rfl, h3, r3⟩ := trodAll_cons r2
  obtain ⟨rfl, rfl, rfl⟩ := trodAll_nil r3
  obtain rfl : args = #[v0, v1, v2, v3] := by cases args; simp_all
  obtain ⟨P, pn, pc, key, rfl, p1, p2, p3, p4, p5⟩ := open_bytesT h0 (hval 0 _ _ rfl rfl)
  obtain ⟨O, on, oc, other, rfl, o1, o2, o3, o4, o5⟩ := open_bytesT h1 (hval 1 _ _ rfl rfl)
  obtain ⟨F, T, ep, ro, A, n, c, xs, K, Q, D, l, dc, bs, rfl, a1, a2, a3, a4, a5, a6, a7, a8, a9⟩ := open_frame (hval 2 _ _ rfl rfl) h2
  obtain ⟨F2, T2, fp, so, B, m, d, ys, K2, Q2, E, l2, dc2, bs2, rfl, e1, e2, e3, e4, e5, e6, e7, e8, e9⟩ := open_frame (hval 3 _ _ rfl rfl) h3
  by_cases hs : pn ≤ 200 ∧ l ≤ 600 ∧ n ≤ 60
  · by_cases hs2 : on ≤ 200 ∧ l2 ≤ 600 ∧ m ≤ 60
    · by_cases hg : goodF F T K Q xs l <;> by_cases hh : goodF F2 T2 K2 Q2 ys l2
      · exact frameSize_gg P pn pc O on oc F T ep ro A n c K Q D l dc F2 T2 fp so B m d K2 Q2 E l2 dc2 W hK key other xs ys bs bs2 hs hs2 p3 p4 o3 o4 a2 a1 a3 a4 a5 a6 a8 e2 e1 e3 e4 e5 e6 e8 hg hh
      · exact frameSize_gb P pn pc O on oc F T ep ro A n c K Q D l dc F2 T2 fp so B m d K2 Q2 E l2 dc2 W hK key other xs ys bs bs2 hs hs2 p3 p4 o3 o4 a2 a1 a3 a4 a5 a6 a8 e2 e1 e3 e4 e5 e6 e8 hg hh
      · exact frameSize_bg P pn pc O on oc F T ep ro A n c K Q D l dc F2 T2 fp so B m d K2 Q2 E l2 dc2 W hK key other xs ys bs bs2 hs hs2 p3 p4 o3 o4 a2 a1 a3 a4 a5 a6 a8 e2 e1 e3 e4 e5 e6 e8 hg hh
      · exact frameSize_bb P pn pc O on oc F T ep ro A n c K Q D l dc F2 T2 fp so B m d K2 Q2 E l2 dc2 W hK key other xs ys bs bs2 hs hs2 p3 p4 o3 o4 a2 a1 a3 a4 a5 a6 a8 e2 e1 e3 e4 e5 e6 e8 hg hh
    · exact frameSize_long2 P pn pc O on oc F T ep ro A n c K Q D l dc F2 T2 fp so B m d K2 Q2 E l2 dc2 W hK hs hs2
  · exact frameSize_long1 P pn pc O on oc F T ep ro A n c K Q D l dc F2 T2 fp so B m d K2 Q2 E l2 dc2 W hK hs
end Go.Proofs.YtmkmndgdakpojaaDoor
