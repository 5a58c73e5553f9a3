/- FrameLong: the walk. -/
import Derived.Test.YtmkmndgdakpojaaDoorFm
namespace Go.Proofs.YtmkmndgdakpojaaDoor
open Go.RowKit Go.ChangeShapes Go.WideShapes Go.ChangeAt
set_option linter.unusedSimpArgs false
set_option linter.unusedVariables false
set_option maxRecDepth 100000

/-- Bytes with a tag behind that are no frame's but for it. -/
theorem not_tF {l tg : List Int} (ht : tg.length = 32) (h : ¬ paOk l) : ¬ tF (l ++ tg) := fun ⟨_, h1, _⟩ => by
  have e : (l ++ tg).length - 32 = l.length := by rw [List.length_append, ht]; omega
  rw [e, List.take_left' rfl] at h1
  exact h h1

set_option maxHeartbeats 1000000 in
theorem frameLong_long (P : Option Addr) (pn pc : Nat) (F T : Int) (ep ro : Nat) (A : Option Addr) (n c : Nat) (K Q : Int) (D : Option Addr) (l dc : Nat) (Z : Option Addr) (m d : Nat) (k : Int) (w : World) (hK : Konst w) (h : ¬ (pn ≤ 200 ∧ l ≤ 600 ∧ n ≤ 60 ∧ m ≤ 800)) : Calls Tryd.prog 4 #[.slice P pn pc, .agg #[.int .i64 F, .int .i64 T, .int .u64 (ep : Nat), .int .u64 (ro : Nat), .slice A n c, .int .i64 K, .int .i64 Q, .slice D l dc], .slice Z m d, .int .i64 k] w (Yes w) := by
  have HF := Lib.hid (frBox_new w F T ep ro (.slice A n c) K Q (.slice D l dc) 30)
  have HK := Lib.hid hK
  have HBX := Lib.hid (bal (brf (w := w)) (.cells #[.int .i64 F, .int .i64 T, .int .u64 ep, .int .u64 ro, .slice A n c, .int .i64 K, .int .i64 Q, .slice D l dc] 30))
  clear hK
  go_enter Tryd.func4, Tryd.ntmps4
  go_wp2_with (first
    | (go_at_call 9; go_must (refine (live5_any _ (HK.out.go HBX.out)).mono ?_; rintro e w1 ⟨rfl, hb1⟩; have HBX := Lib.hid (bgo HBX.out hb1); have HF := Lib.hid (HF.out.below hb1); obtain ⟨s0, a0, a1, a2, a3, a4, a5, a6, a7⟩ := HF.out))
    | (go_at_call 10; go_must ((refine (few_no P pn pc F T ep ro A n c K Q D l dc Z m d _ (by omega)).mono ?_); rintro e w2 ⟨rfl, hb2⟩; have HBX := Lib.hid (bgo HBX.out hb2); have HF := Lib.hid (HF.out.below hb2); obtain ⟨s0, a0, a1, a2, a3, a4, a5, a6, a7⟩ := HF.out)))
  go_ret
  exact ⟨by first | (simp; done) | (simp; omega), by first | exact HBX.out | exact bal HBX.out _⟩

set_option maxHeartbeats 1000000 in
theorem frameLong_none (P : Option Addr) (pn pc : Nat) (F T : Int) (ep ro : Nat) (A : Option Addr) (n c : Nat) (K Q : Int) (D : Option Addr) (l dc : Nat) (Z : Option Addr) (m d : Nat) (k : Int) (w : World) (hK : Konst w) (h : pn ≤ 200 ∧ l ≤ 600 ∧ n ≤ 60 ∧ m ≤ 800) (h0 : m = 0) : Calls Tryd.prog 4 #[.slice P pn pc, .agg #[.int .i64 F, .int .i64 T, .int .u64 (ep : Nat), .int .u64 (ro : Nat), .slice A n c, .int .i64 K, .int .i64 Q, .slice D l dc], .slice Z m d, .int .i64 k] w (Yes w) := by
  subst h0
  have HF := Lib.hid (frBox_new w F T ep ro (.slice A n c) K Q (.slice D l dc) 30)
  have HK := Lib.hid hK
  have HBX := Lib.hid (bal (brf (w := w)) (.cells #[.int .i64 F, .int .i64 T, .int .u64 ep, .int .u64 ro, .slice A n c, .int .i64 K, .int .i64 Q, .slice D l dc] 30))
  clear hK
  go_enter Tryd.func4, Tryd.ntmps4
  go_wp2_with (first
    | (go_at_call 9; go_must (refine (live5_any _ (HK.out.go HBX.out)).mono ?_; rintro e w1 ⟨rfl, hb1⟩; have HBX := Lib.hid (bgo HBX.out hb1); have HF := Lib.hid (HF.out.below hb1); obtain ⟨s0, a0, a1, a2, a3, a4, a5, a6, a7⟩ := HF.out))
    | (go_at_call 10; go_must ((refine (few_yes P pn pc F T ep ro A n c K Q D l dc Z 0 d _ (by omega) (by omega) (by omega) (by omega)).mono ?_); rintro e w2 ⟨rfl, hb2⟩; have HBX := Lib.hid (bgo HBX.out hb2); have HF := Lib.hid (HF.out.below hb2); obtain ⟨s0, a0, a1, a2, a3, a4, a5, a6, a7⟩ := HF.out)))
  go_ret
  exact ⟨by first | (simp; done) | (simp; omega), by first | exact HBX.out | exact bal HBX.out _⟩

set_option maxHeartbeats 2000000 in
theorem frameLong_bad (P : Option Addr) (pn pc : Nat) (F T : Int) (ep ro : Nat) (A : Option Addr) (n c : Nat) (K Q : Int) (D : Option Addr) (l dc : Nat) (Z : Option Addr) (m d : Nat) (k : Int) (w : World) (hK : Konst w) (key xs bs zs : List Int) (h : pn ≤ 200 ∧ l ≤ 600 ∧ n ≤ 60 ∧ m ≤ 800) (hm0 : 0 < m) (hp : key.length = pn) (hpx : Rd w P (nums .u8 key)) (hn : xs.length = n) (hnc : n ≤ c) (hx : Rd w A (nums .i64 xs)) (hep : ep < 18446744073709551616) (hro : ro < 18446744073709551616) (hl : bs.length = l) (hb : Rd w D (nums .u8 bs)) (hbb : Byt bs) (hm : zs.length = m) (hz : Rd w Z (nums .u8 zs)) (hbz : Byt zs) (hg : ¬ goodF F T K Q xs l) : Calls Tryd.prog 4 #[.slice P pn pc, .agg #[.int .i64 F, .int .i64 T, .int .u64 (ep : Nat), .int .u64 (ro : Nat), .slice A n c, .int .i64 K, .int .i64 Q, .slice D l dc], .slice Z m d, .int .i64 k] w (Yes w) := by
  have HCP := Lib.hid (fun (W : World) h0 => fPut_bad P pn pc F T ep ro A n c xs K Q D l dc W hn hnc h0 (by omega) hg)
  have HX := Lib.hid hx
  have m0 : (0 : Int) < m := by omega
  have HF := Lib.hid (frBox_new w F T ep ro (.slice A n c) K Q (.slice D l dc) 30)
  have HK := Lib.hid hK
  have HBX := Lib.hid (bal (brf (w := w)) (.cells #[.int .i64 F, .int .i64 T, .int .u64 ep, .int .u64 ro, .slice A n c, .int .i64 K, .int .i64 Q, .slice D l dc] 30))
  clear hK
  clear hp hpx hn hx hep hro hl hb hbb hm hz hbz hg
  go_enter Tryd.func4, Tryd.ntmps4
  go_wp2_with (first
    | (go_at_call 9; go_must (refine (live5_any _ (HK.out.go HBX.out)).mono ?_; rintro e w1 ⟨rfl, hb1⟩; have HBX := Lib.hid (bgo HBX.out hb1); have HF := Lib.hid (HF.out.below hb1); obtain ⟨s0, a0, a1, a2, a3, a4, a5, a6, a7⟩ := HF.out))
    | (go_at_call 10; go_must ((refine (few_yes P pn pc F T ep ro A n c K Q D l dc Z m d _ (by omega) (by omega) (by omega) (by omega)).mono ?_); rintro e w2 ⟨rfl, hb2⟩; have HBX := Lib.hid (bgo HBX.out hb2); have HF := Lib.hid (HF.out.below hb2); obtain ⟨s0, a0, a1, a2, a3, a4, a5, a6, a7⟩ := HF.out))
    | (go_at_call 15; (with_reducible refine (HCP.out _ (HX.out.below HBX.out)).mono ?_); rintro e w3 ⟨rfl, hb3⟩; have HBX := Lib.hid (bgo HBX.out hb3); have HF := Lib.hid (HF.out.below hb3); obtain ⟨s0, a0, a1, a2, a3, a4, a5, a6, a7⟩ := HF.out))
  go_ret
  exact ⟨by first | (simp; done) | (simp; omega), by first | exact HBX.out | exact bal HBX.out _⟩

set_option maxHeartbeats 4000000 in
theorem frameLong_out (P : Option Addr) (pn pc : Nat) (F T : Int) (ep ro : Nat) (A : Option Addr) (n c : Nat) (K Q : Int) (D : Option Addr) (l dc : Nat) (Z : Option Addr) (m d : Nat) (k : Int) (w : World) (hK : Konst w) (key xs bs zs : List Int) (h : pn ≤ 200 ∧ l ≤ 600 ∧ n ≤ 60 ∧ m ≤ 800) (hm0 : 0 < m) (hp : key.length = pn) (hpx : Rd w P (nums .u8 key)) (hn : xs.length = n) (hnc : n ≤ c) (hx : Rd w A (nums .i64 xs)) (hep : ep < 18446744073709551616) (hro : ro < 18446744073709551616) (hl : bs.length = l) (hb : Rd w D (nums .u8 bs)) (hbb : Byt bs) (hm : zs.length = m) (hz : Rd w Z (nums .u8 zs)) (hbz : Byt zs) (hg : goodF F T K Q xs l) (hk : k < 0 ∨ 28 + (n : Int) + l ≤ k) : Calls Tryd.prog 4 #[.slice P pn pc, .agg #[.int .i64 F, .int .i64 T, .int .u64 (ep : Nat), .int .u64 (ro : Nat), .slice A n c, .int .i64 K, .int .i64 Q, .slice D l dc], .slice Z m d, .int .i64 k] w (Yes w) := by
  obtain ⟨q, rfl⟩ := Int.eq_ofNat_of_zero_le hg.2.2.2.2.2.2.1
  have n8 : n ≤ 8 := by rw [← hn]; exact hg.2.2.2.2.2.1.2.1
  have q31 : q < 4294967296 := by have := hg.2.2.2.2.2.2.2.1; omega
  have hl60 := frB_len key F T ep ro xs K q bs
  have hil := inB_len F T ep ro xs K q bs
  rw [hn, hl] at hl60 hil
  have hft := frB_take (key := key) (F := F) (T := T) (K := K) (ep := ep) (ro := ro) (q := q) (xs := xs) (bs := bs)
  rw [hl60] at hft
  have bi : Byt (inB F T ep ro xs K q bs) := inB_byt (by rw [hl]; exact hg) hbb q
  have hzne : zs ≠ [] := fun e => by rw [e] at hm; simp at hm; omega
  have hnl := in_long (F := F) (T := T) (K := K) (xs := xs) (more := zs) hep hro q31 (by omega) hzne (bs := bs)
  have hct := fun (kk : Nat) (h : kk < 28 + n + l) => in_cut (F := F) (T := T) (K := K) (xs := xs) hep hro q31 (by omega) (bs := bs) (k := kk) (by rw [hil]; exact h)
  have HCP := Lib.hid (fun (W : World) h0 h1 h2 h3 => fPut_any P pn pc key F T ep ro A n c xs K q D l dc bs W hp (by omega) h0 hn hnc h1 hl (by omega) h2 hep hro h3 hg)
  obtain ⟨fr, hfr⟩ : ∃ fr, fr = frB key F T ep ro xs K q bs := ⟨_, rfl⟩
  obtain ⟨inn, hinn⟩ : ∃ x, x = inB F T ep ro xs K q bs := ⟨_, rfl⟩
  rw [← hfr] at HCP hl60 hft
  rw [← hinn] at hil hft bi hnl hct
  obtain ⟨t, ht⟩ : ∃ t, t = 28 + n + l := ⟨_, rfl⟩
  obtain ⟨N, hN⟩ : ∃ N, N = 60 + n + l := ⟨_, rfl⟩
  rw [← hN] at hl60 hft
  rw [← ht] at hil hct
  have eN : N - 32 = t := by omega
  rw [eN] at hft
  have e1 : (N : Int) - 32 = (t : Int) := by omega
  have e2 : t ≤ 640 := by omega
  have e3 : t + 32 = N := by omega
  have i1 : (33 : Int) ≤ N := by omega
  have i2 : ¬ (N : Int) < 33 := by omega
  have i3 : (0 : Int) ≤ t := by omega
  have i4 : (t : Int) ≤ N := by omega
  have m0 : (0 : Int) < m := by omega
  have hlz : (inn ++ zs).length = t + m := by rw [List.length_append, hil, hm]
  have bz : Byt (inn ++ zs) := fun x hx => by
    rcases List.mem_append.1 hx with h | h
    · exact bi x h
    · exact hbz x h
  have CTG := fun (B : Option Addr) (d' : Nat) (W : World) h0 h1 h2 => tag_any P B pn pc (t + m) d' key (inn ++ zs) W hp hlz (by omega) (by omega) h0 h1 h2
  have tl := tag_len key (inn ++ zs)
  have tb := tag_byt key (inn ++ zs)
  obtain ⟨tg, htg⟩ : ∃ x, x = tagL key (inn ++ zs) := ⟨_, rfl⟩
  rw [← htg] at CTG tl tb
  have HCTG := Lib.hid CTG
  have HTL := Lib.hid tl
  have HCZ := Lib.hid (fun (B : Option Addr) (d' : Nat) (W : World) h0 h1 (h2 : t + m + 32 ≤ d') (h3 : d' ≤ maxLen) h4 => fTake_3 (P := P) (A := B) (pc := pc) (c := d') (n := t + m + 32) (b := (inn ++ zs) ++ tg) (w := W) hp (by omega) h0 (by rw [List.length_append, hlz, tl]) h2 h3 (by omega) h1 (fun x hx => by
    rcases List.mem_append.1 hx with h | h
    · exact bz x h
    · exact tb x h) h4 (not_tF tl hnl))
  have HFT := Lib.hid hft
  have HIL := Lib.hid hil
  have HL := Lib.hid hl60
  have HZL := Lib.hid hm
  have hkk : k < 0 ∨ (t : Int) ≤ k := by omega
  have HP := Lib.hid hpx
  have HX := Lib.hid hx
  have HB := Lib.hid hb
  have HZ := Lib.hid hz
  have HF := Lib.hid (frBox_new w F T ep ro (.slice A n c) K q (.slice D l dc) 30)
  have HK := Lib.hid hK
  have HBX := Lib.hid (bal (brf (w := w)) (.cells #[.int .i64 F, .int .i64 T, .int .u64 ep, .int .u64 ro, .slice A n c, .int .i64 K, .int .i64 q, .slice D l dc] 30))
  clear hK
  clear hp hpx hn hx hep hro hl hb hbb hm hz hbz hg hl60 hil hft bi hzne hnl hct hfr hinn ht hN hlz bz CTG tl tb htg eN hk
  rcases hkk with hk1 | hk1
  all_goals
    go_enter Tryd.func4, Tryd.ntmps4
    go_wp2_with (first
      | (go_at_call 9; go_must (refine (live5_any _ (HK.out.go HBX.out)).mono ?_; rintro e w1 ⟨rfl, hb1⟩; have HBX := Lib.hid (bgo HBX.out hb1); have HF := Lib.hid (HF.out.below hb1); obtain ⟨s0, a0, a1, a2, a3, a4, a5, a6, a7⟩ := HF.out))
      | (go_at_call 10; go_must ((refine (few_yes P pn pc F T ep ro A n c K q D l dc Z m d _ (by omega) (by omega) (by omega) (by omega)).mono ?_); rintro e w2 ⟨rfl, hb2⟩; have HBX := Lib.hid (bgo HBX.out hb2); have HF := Lib.hid (HF.out.below hb2); obtain ⟨s0, a0, a1, a2, a3, a4, a5, a6, a7⟩ := HF.out))
      | (go_at_call 15; (with_reducible refine (HCP.out _ (HP.out.below HBX.out) (HX.out.below HBX.out) (HB.out.below HBX.out) (HK.out.go HBX.out)).mono ?_); rintro e w3 ⟨B3, c3, he3, hc3, hown3, hb3⟩; rw [HL.out] at he3 hc3 hown3; subst he3; have HBX := Lib.hid (bgo HBX.out hb3); have HF := Lib.hid (HF.out.below hb3); obtain ⟨s0, a0, a1, a2, a3, a4, a5, a6, a7⟩ := HF.out; have HR3 := Lib.hid (Rd.of_own hown3); have HRI := Lib.hid (show Rd w3 (some ⟨B3, 0, none⟩) (nums .u8 inn) from by have := HR3.out.take t; rwa [HFT.out] at this); clear hown3)
      | (at_builtin; refine append_rd rfl _ _ rfl w3.heap.size (.slice none 0 0) 0 [] rfl (World.ownsRow_nil _ _ _ _) (some ⟨B3, 0, none⟩) t c3 inn rfl HIL.out HRI.out (by omega) (Nat.le_refl _) ?_; intro v4 w4 hown4 hgrow4; rw [Nat.zero_add, List.nil_append] at hown4; have hb4 : Below w3.heap.size w3 w4 := keep_below0 (World.ownsRow_nil w3 w3.heap.size 5 1) hgrow4 brf (Nat.le_refl _) (Nat.le_refl _); obtain ⟨A4, c4, rfl⟩ := own_slice hown4; clear hgrow4)
      | (at_builtin; refine append_rd rfl _ _ rfl w3.heap.size (.slice A4 t c4) t (nums .u8 inn) rfl hown4 Z m d zs rfl HZL.out (HZ.out.below (bgo HBX.out hb4)) (by omega) hb4.size ?_; intro v5 w5 hown5 hgrow5; rw [app_nums] at hown5; have hb5 : Below w3.heap.size w3 w5 := keep_below0 hown4 hgrow5 hb4 hb4.size (Nat.le_refl _); obtain ⟨A5, c5, rfl⟩ := own_slice hown5; clear hgrow5 hown4)
      | (go_at_call 16; ((with_reducible refine (HCTG.out _ _ _ (HP.out.below (bgo HBX.out hb5)) (Rd.of_own hown5) (HK.out.go (bgo HBX.out hb5))).mono ?_); rintro e w6 ⟨B6, c6, het, hct, hlt, hrt, hbt⟩; rw [HTL.out] at het; subst het; have hown6 := own_below hown5 hbt; have hb6 := bgo hb5 hbt; have HRT := Lib.hid hrt; clear hrt hown5))
      | (at_builtin; refine append_rd rfl _ _ rfl w3.heap.size (.slice A5 (t + m) c5) (t + m) (nums .u8 (inn ++ zs)) rfl hown6 (some ⟨B6, 0, none⟩) 32 c6 tg rfl HTL.out HRT.out (by omega) hb6.size ?_; intro v7 w7 hown7 hgrow7; rw [app_nums] at hown7; have hb7 : Below w3.heap.size w3 w7 := keep_below0 hown6 hgrow7 hb6 hb6.size (Nat.le_refl _); obtain ⟨A7, c7, rfl⟩ := own_slice hown7; have HM7 := Lib.hid (And.intro (own_le hown7) (own_max hown7)); have HR7 := Lib.hid (Rd.of_own hown7); have HBX := Lib.hid (bgo HBX.out hb7); have HF := Lib.hid (HF.out.below hb7); obtain ⟨s0, a0, a1, a2, a3, a4, a5, a6, a7⟩ := HF.out; clear hgrow7 hown6 hown7)
      | (go_at_call 11; ((with_reducible refine (HCZ.out _ _ _ (HP.out.below HBX.out) HR7.out HM7.out.1 HM7.out.2 (HK.out.go HBX.out)).mono ?_); rintro e w8 ⟨rfl, hb8⟩; have HBX := Lib.hid (bgo HBX.out hb8); have HF := Lib.hid (HF.out.below hb8); obtain ⟨s0, a0, a1, a2, a3, a4, a5, a6, a7⟩ := HF.out; have HR3 := Lib.hid (HR3.out.below (bgo hb7 hb8)))))
    go_ret
    exact ⟨by first | (simp; done) | (simp; omega), by first | exact HBX.out | exact bal HBX.out _⟩

set_option maxHeartbeats 4000000 in
theorem frameLong_cut (P : Option Addr) (pn pc : Nat) (F T : Int) (ep ro : Nat) (A : Option Addr) (n c : Nat) (K Q : Int) (D : Option Addr) (l dc : Nat) (Z : Option Addr) (m d : Nat) (k : Int) (w : World) (hK : Konst w) (key xs bs zs : List Int) (h : pn ≤ 200 ∧ l ≤ 600 ∧ n ≤ 60 ∧ m ≤ 800) (hm0 : 0 < m) (hp : key.length = pn) (hpx : Rd w P (nums .u8 key)) (hn : xs.length = n) (hnc : n ≤ c) (hx : Rd w A (nums .i64 xs)) (hep : ep < 18446744073709551616) (hro : ro < 18446744073709551616) (hl : bs.length = l) (hb : Rd w D (nums .u8 bs)) (hbb : Byt bs) (hm : zs.length = m) (hz : Rd w Z (nums .u8 zs)) (hbz : Byt zs) (hg : goodF F T K Q xs l) (hk0 : 0 ≤ k) (hkt : k < 28 + (n : Int) + l) : Calls Tryd.prog 4 #[.slice P pn pc, .agg #[.int .i64 F, .int .i64 T, .int .u64 (ep : Nat), .int .u64 (ro : Nat), .slice A n c, .int .i64 K, .int .i64 Q, .slice D l dc], .slice Z m d, .int .i64 k] w (Yes w) := by
  obtain ⟨q, rfl⟩ := Int.eq_ofNat_of_zero_le hg.2.2.2.2.2.2.1
  have n8 : n ≤ 8 := by rw [← hn]; exact hg.2.2.2.2.2.1.2.1
  have q31 : q < 4294967296 := by have := hg.2.2.2.2.2.2.2.1; omega
  have hl60 := frB_len key F T ep ro xs K q bs
  have hil := inB_len F T ep ro xs K q bs
  rw [hn, hl] at hl60 hil
  have hft := frB_take (key := key) (F := F) (T := T) (K := K) (ep := ep) (ro := ro) (q := q) (xs := xs) (bs := bs)
  rw [hl60] at hft
  have bi : Byt (inB F T ep ro xs K q bs) := inB_byt (by rw [hl]; exact hg) hbb q
  have hzne : zs ≠ [] := fun e => by rw [e] at hm; simp at hm; omega
  have hnl := in_long (F := F) (T := T) (K := K) (xs := xs) (more := zs) hep hro q31 (by omega) hzne (bs := bs)
  have hct := fun (kk : Nat) (h : kk < 28 + n + l) => in_cut (F := F) (T := T) (K := K) (xs := xs) hep hro q31 (by omega) (bs := bs) (k := kk) (by rw [hil]; exact h)
  have HCP := Lib.hid (fun (W : World) h0 h1 h2 h3 => fPut_any P pn pc key F T ep ro A n c xs K q D l dc bs W hp (by omega) h0 hn hnc h1 hl (by omega) h2 hep hro h3 hg)
  obtain ⟨fr, hfr⟩ : ∃ fr, fr = frB key F T ep ro xs K q bs := ⟨_, rfl⟩
  obtain ⟨inn, hinn⟩ : ∃ x, x = inB F T ep ro xs K q bs := ⟨_, rfl⟩
  rw [← hfr] at HCP hl60 hft
  rw [← hinn] at hil hft bi hnl hct
  obtain ⟨t, ht⟩ : ∃ t, t = 28 + n + l := ⟨_, rfl⟩
  obtain ⟨N, hN⟩ : ∃ N, N = 60 + n + l := ⟨_, rfl⟩
  rw [← hN] at hl60 hft
  rw [← ht] at hil hct
  have eN : N - 32 = t := by omega
  rw [eN] at hft
  have e1 : (N : Int) - 32 = (t : Int) := by omega
  have e2 : t ≤ 640 := by omega
  have e3 : t + 32 = N := by omega
  have i1 : (33 : Int) ≤ N := by omega
  have i2 : ¬ (N : Int) < 33 := by omega
  have i3 : (0 : Int) ≤ t := by omega
  have i4 : (t : Int) ≤ N := by omega
  have m0 : (0 : Int) < m := by omega
  have hlz : (inn ++ zs).length = t + m := by rw [List.length_append, hil, hm]
  have bz : Byt (inn ++ zs) := fun x hx => by
    rcases List.mem_append.1 hx with h | h
    · exact bi x h
    · exact hbz x h
  have CTG := fun (B : Option Addr) (d' : Nat) (W : World) h0 h1 h2 => tag_any P B pn pc (t + m) d' key (inn ++ zs) W hp hlz (by omega) (by omega) h0 h1 h2
  have tl := tag_len key (inn ++ zs)
  have tb := tag_byt key (inn ++ zs)
  obtain ⟨tg, htg⟩ : ∃ x, x = tagL key (inn ++ zs) := ⟨_, rfl⟩
  rw [← htg] at CTG tl tb
  have HCTG := Lib.hid CTG
  have HTL := Lib.hid tl
  have HCZ := Lib.hid (fun (B : Option Addr) (d' : Nat) (W : World) h0 h1 (h2 : t + m + 32 ≤ d') (h3 : d' ≤ maxLen) h4 => fTake_3 (P := P) (A := B) (pc := pc) (c := d') (n := t + m + 32) (b := (inn ++ zs) ++ tg) (w := W) hp (by omega) h0 (by rw [List.length_append, hlz, tl]) h2 h3 (by omega) h1 (fun x hx => by
    rcases List.mem_append.1 hx with h | h
    · exact bz x h
    · exact tb x h) h4 (not_tF tl hnl))
  have HFT := Lib.hid hft
  have HIL := Lib.hid hil
  have HL := Lib.hid hl60
  have HZL := Lib.hid hm
  obtain ⟨kk, rfl⟩ := Int.eq_ofNat_of_zero_le hk0
  have kt : kk < t := by omega
  have k1 : (kk : Int) < t := by omega
  have k2 : (0 : Int) ≤ kk := by omega
  have k3 : (kk : Int) ≤ N := by omega
  have hck : (fr.take kk).length = kk := by rw [List.length_take, hl60]; omega
  have hfk : fr.take kk = inn.take kk := by rw [← hft, List.take_take, Nat.min_eq_left (by omega)]
  have bk : Byt (fr.take kk) := by rw [hfk]; exact fun x hx => bi x (List.mem_of_mem_take hx)
  have CTK := fun (B : Option Addr) (d' : Nat) (W : World) h0 h1 h2 => tag_any P B pn pc kk d' key (fr.take kk) W hp hck (by omega) (by omega) h0 h1 h2
  have tlk := tag_len key (fr.take kk)
  have tbk := tag_byt key (fr.take kk)
  have hnk : ¬ paOk (fr.take kk) := by rw [hfk]; exact hct kk kt
  obtain ⟨cu, hcu⟩ : ∃ x, x = fr.take kk := ⟨_, rfl⟩
  rw [← hcu] at CTK tlk tbk hck bk hnk
  obtain ⟨tk, htk⟩ : ∃ x, x = tagL key cu := ⟨_, rfl⟩
  rw [← htk] at CTK tlk tbk
  have HCTK := Lib.hid CTK
  have HTLK := Lib.hid tlk
  have HCK := Lib.hid hck
  have HCU := Lib.hid hcu
  have HCZK := Lib.hid (fun (B : Option Addr) (d' : Nat) (W : World) h0 h1 (h2 : kk + 32 ≤ d') (h3 : d' ≤ maxLen) h4 => fTake_3 (P := P) (A := B) (pc := pc) (c := d') (n := kk + 32) (b := cu ++ tk) (w := W) hp (by omega) h0 (by rw [List.length_append, hck, tlk]) h2 h3 (by omega) h1 (fun x hx => by
    rcases List.mem_append.1 hx with h | h
    · exact bk x h
    · exact tbk x h) h4 (not_tF tlk hnk))
  clear CTK tlk tbk hnk bk hck hfk hcu htk
  have HP := Lib.hid hpx
  have HX := Lib.hid hx
  have HB := Lib.hid hb
  have HZ := Lib.hid hz
  have HF := Lib.hid (frBox_new w F T ep ro (.slice A n c) K q (.slice D l dc) 30)
  have HK := Lib.hid hK
  have HBX := Lib.hid (bal (brf (w := w)) (.cells #[.int .i64 F, .int .i64 T, .int .u64 ep, .int .u64 ro, .slice A n c, .int .i64 K, .int .i64 q, .slice D l dc] 30))
  clear hK
  clear hp hpx hn hx hep hro hl hb hbb hm hz hbz hg hl60 hil hft bi hzne hnl hct hfr hinn ht hN hlz bz CTG tl tb htg eN hk0 hkt
  go_enter Tryd.func4, Tryd.ntmps4
  go_upto_region 14 with (first
    | (go_at_call 9; go_must (refine (live5_any _ (HK.out.go HBX.out)).mono ?_; rintro e w1 ⟨rfl, hb1⟩; have HBX := Lib.hid (bgo HBX.out hb1); have HF := Lib.hid (HF.out.below hb1); obtain ⟨s0, a0, a1, a2, a3, a4, a5, a6, a7⟩ := HF.out))
    | (go_at_call 10; go_must ((refine (few_yes P pn pc F T ep ro A n c K q D l dc Z m d _ (by omega) (by omega) (by omega) (by omega)).mono ?_); rintro e w2 ⟨rfl, hb2⟩; have HBX := Lib.hid (bgo HBX.out hb2); have HF := Lib.hid (HF.out.below hb2); obtain ⟨s0, a0, a1, a2, a3, a4, a5, a6, a7⟩ := HF.out))
    | (go_at_call 15; (with_reducible refine (HCP.out _ (HP.out.below HBX.out) (HX.out.below HBX.out) (HB.out.below HBX.out) (HK.out.go HBX.out)).mono ?_); rintro e w3 ⟨B3, c3, he3, hc3, hown3, hb3⟩; rw [HL.out] at he3 hc3 hown3; subst he3; have HBX := Lib.hid (bgo HBX.out hb3); have HF := Lib.hid (HF.out.below hb3); obtain ⟨s0, a0, a1, a2, a3, a4, a5, a6, a7⟩ := HF.out; have HR3 := Lib.hid (Rd.of_own hown3); have HRI := Lib.hid (show Rd w3 (some ⟨B3, 0, none⟩) (nums .u8 inn) from by have := HR3.out.take t; rwa [HFT.out] at this); clear hown3)
    | (at_builtin; refine append_rd rfl _ _ rfl w3.heap.size (.slice none 0 0) 0 [] rfl (World.ownsRow_nil _ _ _ _) (some ⟨B3, 0, none⟩) t c3 inn rfl HIL.out HRI.out (by omega) (Nat.le_refl _) ?_; intro v4 w4 hown4 hgrow4; rw [Nat.zero_add, List.nil_append] at hown4; have hb4 : Below w3.heap.size w3 w4 := keep_below0 (World.ownsRow_nil w3 w3.heap.size 5 1) hgrow4 brf (Nat.le_refl _) (Nat.le_refl _); obtain ⟨A4, c4, rfl⟩ := own_slice hown4; clear hgrow4)
    | (at_builtin; refine append_rd rfl _ _ rfl w3.heap.size (.slice A4 t c4) t (nums .u8 inn) rfl hown4 Z m d zs rfl HZL.out (HZ.out.below (bgo HBX.out hb4)) (by omega) hb4.size ?_; intro v5 w5 hown5 hgrow5; rw [app_nums] at hown5; have hb5 : Below w3.heap.size w3 w5 := keep_below0 hown4 hgrow5 hb4 hb4.size (Nat.le_refl _); obtain ⟨A5, c5, rfl⟩ := own_slice hown5; clear hgrow5 hown4)
    | (go_at_call 16; ((with_reducible refine (HCTG.out _ _ _ (HP.out.below (bgo HBX.out hb5)) (Rd.of_own hown5) (HK.out.go (bgo HBX.out hb5))).mono ?_); rintro e w6 ⟨B6, c6, het, hct, hlt, hrt, hbt⟩; rw [HTL.out] at het; subst het; have hown6 := own_below hown5 hbt; have hb6 := bgo hb5 hbt; have HRT := Lib.hid hrt; clear hrt hown5))
    | (at_builtin; refine append_rd rfl _ _ rfl w3.heap.size (.slice A5 (t + m) c5) (t + m) (nums .u8 (inn ++ zs)) rfl hown6 (some ⟨B6, 0, none⟩) 32 c6 tg rfl HTL.out HRT.out (by omega) hb6.size ?_; intro v7 w7 hown7 hgrow7; rw [app_nums] at hown7; have hb7 : Below w3.heap.size w3 w7 := keep_below0 hown6 hgrow7 hb6 hb6.size (Nat.le_refl _); obtain ⟨A7, c7, rfl⟩ := own_slice hown7; have HM7 := Lib.hid (And.intro (own_le hown7) (own_max hown7)); have HR7 := Lib.hid (Rd.of_own hown7); have HBX := Lib.hid (bgo HBX.out hb7); have HF := Lib.hid (HF.out.below hb7); obtain ⟨s0, a0, a1, a2, a3, a4, a5, a6, a7⟩ := HF.out; clear hgrow7 hown6 hown7)
    | (go_at_call 11; ((with_reducible refine (HCZ.out _ _ _ (HP.out.below HBX.out) HR7.out HM7.out.1 HM7.out.2 (HK.out.go HBX.out)).mono ?_); rintro e w8 ⟨rfl, hb8⟩; have HBX := Lib.hid (bgo HBX.out hb8); have HF := Lib.hid (HF.out.below hb8); obtain ⟨s0, a0, a1, a2, a3, a4, a5, a6, a7⟩ := HF.out; have HR3 := Lib.hid (HR3.out.below (bgo hb7 hb8)))))
  have HBX := Lib.hid (bal HBX.out (.cells #[.int .i64 0, .int .i64 0, .int .u64 0, .int .u64 0, .slice none 0 0, .int .i64 0, .int .i64 0, .slice none 0 0] 30))
  have HRX := Lib.hid (HR3.out.below (bal brf (.cells #[.int .i64 0, .int .i64 0, .int .u64 0, .int .u64 0, .slice none 0 0, .int .i64 0, .int .i64 0, .slice none 0 0] 30)))
  have HF := Lib.hid (HF.out.below (bal brf (.cells #[.int .i64 0, .int .i64 0, .int .u64 0, .int .u64 0, .slice none 0 0, .int .i64 0, .int .i64 0, .slice none 0 0] 30)))
  generalize w8.alloc (.cells #[.int .i64 0, .int .i64 0, .int .u64 0, .int .u64 0, .slice none 0 0, .int .i64 0, .int .i64 0, .slice none 0 0] 30) = w9 at HBX HRX HF ⊢
  go_wp2_with (first
    | (at_builtin; refine append_rd rfl _ _ rfl w9.heap.size (.slice none 0 0) 0 [] rfl (World.ownsRow_nil _ _ _ _) (some ⟨B3, 0, none⟩) kk c3 cu rfl HCK.out (show Rd w9 (some ⟨B3, 0, none⟩) (nums .u8 cu) from by rw [HCU.out]; exact HRX.out.take kk) (by omega) (Nat.le_refl _) ?_; intro vA wA hownA hgrowA; rw [Nat.zero_add, List.nil_append] at hownA; have hbA : Below w9.heap.size w9 wA := keep_below0 (World.ownsRow_nil w9 w9.heap.size 5 1) hgrowA brf (Nat.le_refl _) (Nat.le_refl _); obtain ⟨AA, cA, rfl⟩ := own_slice hownA; clear hgrowA)
    | (go_at_call 16; ((with_reducible refine (HCTK.out _ _ _ (HP.out.below (bgo HBX.out hbA)) (Rd.of_own hownA) (HK.out.go (bgo HBX.out hbA))).mono ?_); rintro e wB ⟨BB, cB, heu, hcu, hlu, hru, hbu⟩; rw [HTLK.out] at heu; subst heu; have hownB := own_below hownA hbu; have hbB := bgo hbA hbu; have HRU := Lib.hid hru; clear hru hownA))
    | (at_builtin; refine append_rd rfl _ _ rfl w9.heap.size (.slice AA kk cA) kk (nums .u8 cu) rfl hownB (some ⟨BB, 0, none⟩) 32 cB tk rfl HTLK.out HRU.out (by omega) hbB.size ?_; intro vC wC hownC hgrowC; rw [app_nums] at hownC; have hbC : Below w9.heap.size w9 wC := keep_below0 hownB hgrowC hbB hbB.size (Nat.le_refl _); obtain ⟨AC, cC, rfl⟩ := own_slice hownC; have HMC := Lib.hid (And.intro (own_le hownC) (own_max hownC)); have HRC := Lib.hid (Rd.of_own hownC); have HBX := Lib.hid (bgo HBX.out hbC); have HF := Lib.hid (HF.out.below hbC); obtain ⟨s0, a0, a1, a2, a3, a4, a5, a6, a7⟩ := HF.out; clear hgrowC hownB hownC)
    | (go_at_call 11; ((with_reducible refine (HCZK.out _ _ _ (HP.out.below HBX.out) HRC.out HMC.out.1 HMC.out.2 (HK.out.go HBX.out)).mono ?_); rintro e wD ⟨rfl, hbD⟩; have HBX := Lib.hid (bgo HBX.out hbD); have HF := Lib.hid (HF.out.below hbD); obtain ⟨s0, a0, a1, a2, a3, a4, a5, a6, a7⟩ := HF.out)))
  go_ret
  exact ⟨by first | (simp; done) | (simp; omega), by first | exact HBX.out | exact bal HBX.out _⟩

set_option maxHeartbeats 1000000 in
open Go.Joins Go.Deep in
theorem frameLong_of {H : Type} {enc : TypeId × Value → H} (W : World) (base : Nat) (args : Array Value) (ds : List (DataW H)) (p : List MemPlace)
    (hval : ∀ (j : Nat) t v, Tryd.f4.params[j]? = some t → args[j]? = some v → Value.okWide Tryd.prog W .any base t v)
    (hA : DataW.TrodAll enc Tryd.prog W 0 (fun _ => true) true Tryd.f4.params.toList args.toList ds p) (hlt : ∀ x ∈ p, x.block < W.heap.size)
    (hz : (DataW.weightsEach Tryd.prog Tryd.f4.params.toList ds).all (· ≤ reachBytes) = true) (hK : Konst W) : Calls Tryd.prog 4 args W (Yes W) := by
  rw [Tryd.params4] at hA hval hz
  obtain ⟨v0, vs0, d0, ds0, p0, q0, hargs, rfl, rfl, h0, r0⟩ := trodAll_cons hA
  obtain ⟨v1, vs1, d1, ds1, p1, q1, rfl, rfl, rfl, h1, r1⟩ := trodAll_cons r0
  obtain ⟨v2, vs2, d2, ds2, p2, q2, rfl, rfl, rfl, h2, r2⟩ := trodAll_cons r1
  obtain ⟨v3, vs3, d3, ds3, p3, q3, rfl, rfl, rfl, h3, r3⟩ := trodAll_cons r2
  obtain ⟨rfl, rfl, rfl⟩ := trodAll_nil r3
  obtain rfl : args = #[v0, v1, v2, v3] := by cases args; simp_all
  obtain ⟨P, pn, pc, key, rfl, p1, p2, p3, p4, p5⟩ := open_bytesT h0 (hval 0 _ _ rfl rfl)
  obtain ⟨F, T, ep, ro, A, n, c, xs, K, Q, D, l, dc, bs, rfl, a1, a2, a3, a4, a5, a6, a7, a8, a9⟩ := open_frame (hval 1 _ _ rfl rfl) h1
  obtain ⟨Z, m, d, zs, rfl, z1, z2, z3, z4, z5⟩ := open_bytesT h2 (hval 2 _ _ rfl rfl)
  obtain ⟨k, rfl⟩ := okWide_int Tryd.underlying3 (hval 3 _ _ rfl rfl)
  by_cases hs : pn ≤ 200 ∧ l ≤ 600 ∧ n ≤ 60 ∧ m ≤ 800
  · by_cases hm : m = 0
    · exact frameLong_none P pn pc F T ep ro A n c K Q D l dc Z m d k W hK hs hm
    · by_cases hg : goodF F T K Q xs l
      · by_cases hk : k < 0 ∨ 28 + (n : Int) + l ≤ k
        · exact frameLong_out P pn pc F T ep ro A n c K Q D l dc Z m d k W hK key xs bs zs hs (by omega) p3 p4 a2 a1 a3 a4 a5 a6 a8 a9 z3 z4 z5 hg hk
        · exact frameLong_cut P pn pc F T ep ro A n c K Q D l dc Z m d k W hK key xs bs zs hs (by omega) p3 p4 a2 a1 a3 a4 a5 a6 a8 a9 z3 z4 z5 hg (by omega) (by omega)
      · exact frameLong_bad P pn pc F T ep ro A n c K Q D l dc Z m d k W hK key xs bs zs hs (by omega) p3 p4 a2 a1 a3 a4 a5 a6 a8 a9 z3 z4 z5 hg
  · exact frameLong_long P pn pc F T ep ro A n c K Q D l dc Z m d k W hK hs
end Go.Proofs.YtmkmndgdakpojaaDoor
