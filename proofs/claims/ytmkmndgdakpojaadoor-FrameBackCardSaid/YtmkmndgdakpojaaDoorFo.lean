/- FrameBack: the walk. -/
import Derived.Test.YtmkmndgdakpojaaDoorFm
namespace Go.Proofs.YtmkmndgdakpojaaDoor
open Go.RowKit Go.ChangeShapes Go.WideShapes Go.ChangeAt
set_option linter.unusedSimpArgs false
set_option linter.unusedVariables false
set_option maxRecDepth 100000

/-- What was taken is put as these bytes. -/
theorem frB_back {key b : List Int} (h : tF b) (ht : tT key b) (hb : Byt b) (cc : List Int) (hcc : cc = b.take (b.length - 32)) :
    frB key (cc.getD 0 0) (cc.getD 1 0) (paE cc) (paO cc) (paX cc) (paK cc) (paQ cc) (paB cc) = b := by
  subst hcc
  rw [frB, in_back h.2.1 (fun x hx => hb x (List.mem_of_mem_take hx)), ← ht]
  exact List.take_append_drop _ _

set_option maxHeartbeats 1000000 in
theorem frameBack_long (P : Option Addr) (pn pc : Nat) (F T : Int) (ep ro : Nat) (A : Option Addr) (n c : Nat) (K Q : Int) (D : Option Addr) (l dc : Nat) (Z : Option Addr) (m d : Nat) (w : World) (hK : Konst w) (h : ¬ (pn ≤ 200 ∧ l ≤ 600 ∧ n ≤ 60 ∧ m ≤ 800)) : Calls Tryd.prog 8 #[.slice P pn pc, .agg #[.int .i64 F, .int .i64 T, .int .u64 (ep : Nat), .int .u64 (ro : Nat), .slice A n c, .int .i64 K, .int .i64 Q, .slice D l dc], .slice Z m d] w (Yes w) := by
  have HF := Lib.hid (frBox_new w F T ep ro (.slice A n c) K Q (.slice D l dc) 30)
  have HK := Lib.hid hK
  have HBX := Lib.hid (bal (brf (w := w)) (.cells #[.int .i64 F, .int .i64 T, .int .u64 ep, .int .u64 ro, .slice A n c, .int .i64 K, .int .i64 Q, .slice D l dc] 30))
  clear hK
  go_enter Tryd.func8, Tryd.ntmps8
  go_wp2_with (first
    | (go_at_call 9; go_must (refine (live5_any _ (HK.out.go HBX.out)).mono ?_; rintro e w1 ⟨rfl, hb1⟩; have HBX := Lib.hid (bgo HBX.out hb1); have HF := Lib.hid (HF.out.below hb1); obtain ⟨s0, a0, a1, a2, a3, a4, a5, a6, a7⟩ := HF.out))
    | (go_at_call 10; go_must ((refine (few_no P pn pc F T ep ro A n c K Q D l dc Z m d _ (by omega)).mono ?_); rintro e w2 ⟨rfl, hb2⟩; have HBX := Lib.hid (bgo HBX.out hb2); have HF := Lib.hid (HF.out.below hb2); obtain ⟨s0, a0, a1, a2, a3, a4, a5, a6, a7⟩ := HF.out)))
  go_ret
  exact ⟨by first | (simp; done) | (simp; omega), by first | exact HBX.out | exact bal HBX.out _⟩

set_option maxHeartbeats 4000000 in
theorem frameBack_y3 (P : Option Addr) (pn pc : Nat) (F T : Int) (ep ro : Nat) (A : Option Addr) (n c : Nat) (K Q : Int) (D : Option Addr) (l dc : Nat) (Z : Option Addr) (m d : Nat) (w : World) (hK : Konst w) (key xs bs zs : List Int) (h : pn ≤ 200 ∧ l ≤ 600 ∧ n ≤ 60 ∧ m ≤ 800) (hp : key.length = pn) (hpx : Rd w P (nums .u8 key)) (hn : xs.length = n) (hnc : n ≤ c) (hx : Rd w A (nums .i64 xs)) (hep : ep < 18446744073709551616) (hro : ro < 18446744073709551616) (hl : bs.length = l) (hb : Rd w D (nums .u8 bs)) (hbb : Byt bs) (hm : zs.length = m) (hmd : m ≤ d) (hdm : d ≤ maxLen) (hz : Rd w Z (nums .u8 zs)) (hbz : Byt zs) (hg : goodF F T K Q xs l) (ht : ¬ tF zs) : Calls Tryd.prog 8 #[.slice P pn pc, .agg #[.int .i64 F, .int .i64 T, .int .u64 (ep : Nat), .int .u64 (ro : Nat), .slice A n c, .int .i64 K, .int .i64 Q, .slice D l dc], .slice Z m d] w (Yes w) := by
  obtain ⟨q, rfl⟩ := Int.eq_ofNat_of_zero_le hg.2.2.2.2.2.2.1
  have n8 : n ≤ maxLen := by unfold maxLen; omega
  have hl60 := frB_len key F T ep ro xs K q bs
  rw [hn, hl] at hl60
  have HCP := Lib.hid (fun (W : World) h0 h1 h2 h3 => fPut_any P pn pc key F T ep ro A n c xs K q D l dc bs W hp (by omega) h0 hn hnc h1 hl (by omega) h2 hep hro h3 hg)
  have HCT := Lib.hid (fun (B c' : Nat) (W : World) h0 (h1 : 60 + n + l ≤ c') (h2 : c' ≤ maxLen) h3 h4 => fTake_put P pn pc key F T ep ro xs K q bs B n c' l W hp (by omega) h0 hn hl (by omega) hg hep hro hbb h1 h2 h3 h4)
  have HCS := Lib.hid (fun (B : Option Addr) (d' : Nat) (E : Option Addr) (f' : Nat) (W : World) h0 h1 h2 h3 => fSame_refl F T ep ro A n c xs K q D l dc bs B d' E f' W hn h0 h1 n8 hl h2 hbb h3)
  obtain ⟨fr, hfr⟩ : ∃ fr, fr = frB key F T ep ro xs K q bs := ⟨_, rfl⟩
  rw [← hfr] at HCP HCT hl60
  have HL := Lib.hid hl60
  clear hl60 hfr n8
  have HCZ := Lib.hid (fun (W : World) h0 h1 h2 => fTake_3 (P := P) (A := Z) (pc := pc) (c := d) (w := W) hp (by omega) h0 hm hmd hdm (by omega) h1 hbz h2 ht)
  have HCE := Lib.hid (fun (W : World) => rfSame_refl 0 0 0 0 none 0 0 [] 0 0 none 0 0 [] none 0 none 0 W rfl (.inl rfl) (.inl rfl) (by unfold maxLen; omega) rfl (.inl rfl) (fun x hx => by cases hx) (.inl rfl))
  have HP := Lib.hid hpx
  have HX := Lib.hid hx
  have HB := Lib.hid hb
  have HZ := Lib.hid hz
  have HF := Lib.hid (frBox_new w F T ep ro (.slice A n c) K q (.slice D l dc) 30)
  have HK := Lib.hid hK
  have HBX := Lib.hid (bal (brf (w := w)) (.cells #[.int .i64 F, .int .i64 T, .int .u64 ep, .int .u64 ro, .slice A n c, .int .i64 K, .int .i64 q, .slice D l dc] 30))
  clear hK
  clear hp hpx hn hx hep hro hl hb hbb hm hz hbz hg ht
  go_enter Tryd.func8, Tryd.ntmps8
  go_wp2_with (first
    | (go_at_call 9; go_must (refine (live5_any _ (HK.out.go HBX.out)).mono ?_; rintro e w1 ⟨rfl, hb1⟩; have HBX := Lib.hid (bgo HBX.out hb1); have HF := Lib.hid (HF.out.below hb1); obtain ⟨s0, a0, a1, a2, a3, a4, a5, a6, a7⟩ := HF.out))
    | (go_at_call 10; go_must ((refine (few_yes P pn pc F T ep ro A n c K q D l dc Z m d _ (by omega) (by omega) (by omega) (by omega)).mono ?_); rintro e w2 ⟨rfl, hb2⟩; have HBX := Lib.hid (bgo HBX.out hb2); have HF := Lib.hid (HF.out.below hb2); obtain ⟨s0, a0, a1, a2, a3, a4, a5, a6, a7⟩ := HF.out))
    | (go_at_call 15; (with_reducible refine (HCP.out _ (HP.out.below HBX.out) (HX.out.below HBX.out) (HB.out.below HBX.out) (HK.out.go HBX.out)).mono ?_); rintro e w3 ⟨B3, c3, he3, hc3, hown3, hb3⟩; rw [HL.out] at he3 hc3 hown3; subst he3; have HBX := Lib.hid (bgo HBX.out hb3); have HF := Lib.hid (HF.out.below hb3); obtain ⟨s0, a0, a1, a2, a3, a4, a5, a6, a7⟩ := HF.out; have HM3 := Lib.hid (own_max hown3); have HR3 := Lib.hid (Rd.of_own hown3); clear hown3)
    | (go_at_call 11; (with_reducible refine (HCT.out _ _ _ (HP.out.below HBX.out) hc3 HM3.out HR3.out (HK.out.go HBX.out)).mono ?_); rintro e w4 ⟨A4, c4, D4, d4, rfl, hc4, hx4, ho4, hb4⟩; have HBX := Lib.hid (bgo HBX.out hb4); have HF := Lib.hid (HF.out.below hb4); obtain ⟨s0, a0, a1, a2, a3, a4, a5, a6, a7⟩ := HF.out; have HX4 := Lib.hid hx4; have HB4 := Lib.hid (Rd.of_own ho4); clear hx4 ho4)
    | (go_at_call 20; (with_reducible refine (HCS.out _ _ _ _ _ (HX.out.below (bal HBX.out _)) (HX4.out.below (bal brf _)) (HB.out.below (bal HBX.out _)) (HB4.out.below (bal brf _))).mono ?_); rintro e w5 ⟨rfl, hb5⟩; have hb5 := bgo (bal brf _) hb5; have HBX := Lib.hid (bgo HBX.out hb5); have HF := Lib.hid (HF.out.below hb5); obtain ⟨s0, a0, a1, a2, a3, a4, a5, a6, a7⟩ := HF.out)
    | (go_at_call 11; (with_reducible refine (HCZ.out _ (HP.out.below HBX.out) (HZ.out.below HBX.out) (HK.out.go HBX.out)).mono ?_); rintro e w6 ⟨rfl, hb6⟩; have HBX := Lib.hid (bgo HBX.out hb6); have HF := Lib.hid (HF.out.below hb6); obtain ⟨s0, a0, a1, a2, a3, a4, a5, a6, a7⟩ := HF.out)
    | (go_at_call 13; (refine (HCE.out _).mono ?_); rintro e w7 ⟨rfl, hb7⟩; have hb7 := bgo (bal brf _) hb7; have HBX := Lib.hid (bgo HBX.out hb7); have HF := Lib.hid (HF.out.below hb7); obtain ⟨s0, a0, a1, a2, a3, a4, a5, a6, a7⟩ := HF.out))
  go_ret
  exact ⟨by first | (simp; done) | (simp; omega), by first | exact HBX.out | exact bal HBX.out _⟩

set_option maxHeartbeats 4000000 in
theorem frameBack_y4 (P : Option Addr) (pn pc : Nat) (F T : Int) (ep ro : Nat) (A : Option Addr) (n c : Nat) (K Q : Int) (D : Option Addr) (l dc : Nat) (Z : Option Addr) (m d : Nat) (w : World) (hK : Konst w) (key xs bs zs : List Int) (h : pn ≤ 200 ∧ l ≤ 600 ∧ n ≤ 60 ∧ m ≤ 800) (hp : key.length = pn) (hpx : Rd w P (nums .u8 key)) (hn : xs.length = n) (hnc : n ≤ c) (hx : Rd w A (nums .i64 xs)) (hep : ep < 18446744073709551616) (hro : ro < 18446744073709551616) (hl : bs.length = l) (hb : Rd w D (nums .u8 bs)) (hbb : Byt bs) (hm : zs.length = m) (hmd : m ≤ d) (hdm : d ≤ maxLen) (hz : Rd w Z (nums .u8 zs)) (hbz : Byt zs) (hg : goodF F T K Q xs l) (ht : tF zs) (ht2 : ¬ tT key zs) : Calls Tryd.prog 8 #[.slice P pn pc, .agg #[.int .i64 F, .int .i64 T, .int .u64 (ep : Nat), .int .u64 (ro : Nat), .slice A n c, .int .i64 K, .int .i64 Q, .slice D l dc], .slice Z m d] w (Yes w) := by
  obtain ⟨q, rfl⟩ := Int.eq_ofNat_of_zero_le hg.2.2.2.2.2.2.1
  have n8 : n ≤ maxLen := by unfold maxLen; omega
  have hl60 := frB_len key F T ep ro xs K q bs
  rw [hn, hl] at hl60
  have HCP := Lib.hid (fun (W : World) h0 h1 h2 h3 => fPut_any P pn pc key F T ep ro A n c xs K q D l dc bs W hp (by omega) h0 hn hnc h1 hl (by omega) h2 hep hro h3 hg)
  have HCT := Lib.hid (fun (B c' : Nat) (W : World) h0 (h1 : 60 + n + l ≤ c') (h2 : c' ≤ maxLen) h3 h4 => fTake_put P pn pc key F T ep ro xs K q bs B n c' l W hp (by omega) h0 hn hl (by omega) hg hep hro hbb h1 h2 h3 h4)
  have HCS := Lib.hid (fun (B : Option Addr) (d' : Nat) (E : Option Addr) (f' : Nat) (W : World) h0 h1 h2 h3 => fSame_refl F T ep ro A n c xs K q D l dc bs B d' E f' W hn h0 h1 n8 hl h2 hbb h3)
  obtain ⟨fr, hfr⟩ : ∃ fr, fr = frB key F T ep ro xs K q bs := ⟨_, rfl⟩
  rw [← hfr] at HCP HCT hl60
  have HL := Lib.hid hl60
  clear hl60 hfr n8
  have HCZ := Lib.hid (fun (W : World) h0 h1 h2 => fTake_4 (P := P) (A := Z) (pc := pc) (c := d) (w := W) hp (by omega) h0 hm hmd hdm (by omega) h1 hbz h2 ht ht2)
  have HCE := Lib.hid (fun (W : World) => rfSame_refl 0 0 0 0 none 0 0 [] 0 0 none 0 0 [] none 0 none 0 W rfl (.inl rfl) (.inl rfl) (by unfold maxLen; omega) rfl (.inl rfl) (fun x hx => by cases hx) (.inl rfl))
  have HP := Lib.hid hpx
  have HX := Lib.hid hx
  have HB := Lib.hid hb
  have HZ := Lib.hid hz
  have HF := Lib.hid (frBox_new w F T ep ro (.slice A n c) K q (.slice D l dc) 30)
  have HK := Lib.hid hK
  have HBX := Lib.hid (bal (brf (w := w)) (.cells #[.int .i64 F, .int .i64 T, .int .u64 ep, .int .u64 ro, .slice A n c, .int .i64 K, .int .i64 q, .slice D l dc] 30))
  clear hK
  clear hp hpx hn hx hep hro hl hb hbb hm hz hbz hg ht ht2
  go_enter Tryd.func8, Tryd.ntmps8
  go_wp2_with (first
    | (go_at_call 9; go_must (refine (live5_any _ (HK.out.go HBX.out)).mono ?_; rintro e w1 ⟨rfl, hb1⟩; have HBX := Lib.hid (bgo HBX.out hb1); have HF := Lib.hid (HF.out.below hb1); obtain ⟨s0, a0, a1, a2, a3, a4, a5, a6, a7⟩ := HF.out))
    | (go_at_call 10; go_must ((refine (few_yes P pn pc F T ep ro A n c K q D l dc Z m d _ (by omega) (by omega) (by omega) (by omega)).mono ?_); rintro e w2 ⟨rfl, hb2⟩; have HBX := Lib.hid (bgo HBX.out hb2); have HF := Lib.hid (HF.out.below hb2); obtain ⟨s0, a0, a1, a2, a3, a4, a5, a6, a7⟩ := HF.out))
    | (go_at_call 15; (with_reducible refine (HCP.out _ (HP.out.below HBX.out) (HX.out.below HBX.out) (HB.out.below HBX.out) (HK.out.go HBX.out)).mono ?_); rintro e w3 ⟨B3, c3, he3, hc3, hown3, hb3⟩; rw [HL.out] at he3 hc3 hown3; subst he3; have HBX := Lib.hid (bgo HBX.out hb3); have HF := Lib.hid (HF.out.below hb3); obtain ⟨s0, a0, a1, a2, a3, a4, a5, a6, a7⟩ := HF.out; have HM3 := Lib.hid (own_max hown3); have HR3 := Lib.hid (Rd.of_own hown3); clear hown3)
    | (go_at_call 11; (with_reducible refine (HCT.out _ _ _ (HP.out.below HBX.out) hc3 HM3.out HR3.out (HK.out.go HBX.out)).mono ?_); rintro e w4 ⟨A4, c4, D4, d4, rfl, hc4, hx4, ho4, hb4⟩; have HBX := Lib.hid (bgo HBX.out hb4); have HF := Lib.hid (HF.out.below hb4); obtain ⟨s0, a0, a1, a2, a3, a4, a5, a6, a7⟩ := HF.out; have HX4 := Lib.hid hx4; have HB4 := Lib.hid (Rd.of_own ho4); clear hx4 ho4)
    | (go_at_call 20; (with_reducible refine (HCS.out _ _ _ _ _ (HX.out.below (bal HBX.out _)) (HX4.out.below (bal brf _)) (HB.out.below (bal HBX.out _)) (HB4.out.below (bal brf _))).mono ?_); rintro e w5 ⟨rfl, hb5⟩; have hb5 := bgo (bal brf _) hb5; have HBX := Lib.hid (bgo HBX.out hb5); have HF := Lib.hid (HF.out.below hb5); obtain ⟨s0, a0, a1, a2, a3, a4, a5, a6, a7⟩ := HF.out)
    | (go_at_call 11; (with_reducible refine (HCZ.out _ (HP.out.below HBX.out) (HZ.out.below HBX.out) (HK.out.go HBX.out)).mono ?_); rintro e w6 ⟨rfl, hb6⟩; have HBX := Lib.hid (bgo HBX.out hb6); have HF := Lib.hid (HF.out.below hb6); obtain ⟨s0, a0, a1, a2, a3, a4, a5, a6, a7⟩ := HF.out)
    | (go_at_call 13; (refine (HCE.out _).mono ?_); rintro e w7 ⟨rfl, hb7⟩; have hb7 := bgo (bal brf _) hb7; have HBX := Lib.hid (bgo HBX.out hb7); have HF := Lib.hid (HF.out.below hb7); obtain ⟨s0, a0, a1, a2, a3, a4, a5, a6, a7⟩ := HF.out))
  go_ret
  exact ⟨by first | (simp; done) | (simp; omega), by first | exact HBX.out | exact bal HBX.out _⟩

set_option maxHeartbeats 4000000 in
theorem frameBack_y0 (P : Option Addr) (pn pc : Nat) (F T : Int) (ep ro : Nat) (A : Option Addr) (n c : Nat) (K Q : Int) (D : Option Addr) (l dc : Nat) (Z : Option Addr) (m d : Nat) (w : World) (hK : Konst w) (key xs bs zs : List Int) (h : pn ≤ 200 ∧ l ≤ 600 ∧ n ≤ 60 ∧ m ≤ 800) (hp : key.length = pn) (hpx : Rd w P (nums .u8 key)) (hn : xs.length = n) (hnc : n ≤ c) (hx : Rd w A (nums .i64 xs)) (hep : ep < 18446744073709551616) (hro : ro < 18446744073709551616) (hl : bs.length = l) (hb : Rd w D (nums .u8 bs)) (hbb : Byt bs) (hm : zs.length = m) (hmd : m ≤ d) (hdm : d ≤ maxLen) (hz : Rd w Z (nums .u8 zs)) (hbz : Byt zs) (hg : goodF F T K Q xs l) (ht : tF zs) (ht2 : tT key zs) : Calls Tryd.prog 8 #[.slice P pn pc, .agg #[.int .i64 F, .int .i64 T, .int .u64 (ep : Nat), .int .u64 (ro : Nat), .slice A n c, .int .i64 K, .int .i64 Q, .slice D l dc], .slice Z m d] w (Yes w) := by
  obtain ⟨q, rfl⟩ := Int.eq_ofNat_of_zero_le hg.2.2.2.2.2.2.1
  have n8 : n ≤ maxLen := by unfold maxLen; omega
  have hl60 := frB_len key F T ep ro xs K q bs
  rw [hn, hl] at hl60
  have HCP := Lib.hid (fun (W : World) h0 h1 h2 h3 => fPut_any P pn pc key F T ep ro A n c xs K q D l dc bs W hp (by omega) h0 hn hnc h1 hl (by omega) h2 hep hro h3 hg)
  have HCT := Lib.hid (fun (B c' : Nat) (W : World) h0 (h1 : 60 + n + l ≤ c') (h2 : c' ≤ maxLen) h3 h4 => fTake_put P pn pc key F T ep ro xs K q bs B n c' l W hp (by omega) h0 hn hl (by omega) hg hep hro hbb h1 h2 h3 h4)
  have HCS := Lib.hid (fun (B : Option Addr) (d' : Nat) (E : Option Addr) (f' : Nat) (W : World) h0 h1 h2 h3 => fSame_refl F T ep ro A n c xs K q D l dc bs B d' E f' W hn h0 h1 n8 hl h2 hbb h3)
  obtain ⟨fr, hfr⟩ : ∃ fr, fr = frB key F T ep ro xs K q bs := ⟨_, rfl⟩
  rw [← hfr] at HCP HCT hl60
  have HL := Lib.hid hl60
  clear hl60 hfr n8
  have hfb := frB_back ht ht2 hbz _ rfl
  have hgg := ht.2.2
  have hXl := tkX_len2 ht.2.1
  have hBl := paB_len ht.2.1
  have hcl : (zs.take (zs.length - 32)).length ≤ 800 := Nat.le_trans (List.length_take_le' _ _) (by omega)
  have CZ := fun (W : World) h0 h1 h2 => fTake_0 (P := P) (A := Z) (pc := pc) (c := d) (w := W) hp (by omega) h0 hm hmd hdm (by omega) h1 hbz h2 ht ht2
  have bB : Byt (paB (zs.take (zs.length - 32))) := fun x hx => hbz x (List.mem_of_mem_take (List.mem_of_mem_drop (List.mem_of_mem_drop hx)))
  have bE : paE (zs.take (zs.length - 32)) < 18446744073709551616 := tkE_lt (fun x hx => hbz x (List.mem_of_mem_take (List.mem_of_mem_drop hx)))
  have bO : paO (zs.take (zs.length - 32)) < 18446744073709551616 := tkR_lt (fun x hx => hbz x (List.mem_of_mem_take (List.mem_of_mem_drop hx)))
  unfold paGood at hgg
  rw [← hm] at CZ
  simp only [IsFr] at CZ
  obtain ⟨cc, hcc⟩ : ∃ cc, cc = zs.take (zs.length - 32) := ⟨_, rfl⟩
  rw [← hcc] at hfb hgg hXl hBl hcl CZ bB bE bO
  obtain ⟨f0, hf0⟩ : ∃ f, f = cc.getD 0 0 := ⟨_, rfl⟩
  obtain ⟨t0, ht0⟩ : ∃ f, f = cc.getD 1 0 := ⟨_, rfl⟩
  obtain ⟨r, hr⟩ : ∃ r, r = (paB cc).length := ⟨_, rfl⟩
  rw [← hf0, ← ht0] at hfb hgg CZ
  rw [← hr] at hgg CZ hBl
  have r8 : r ≤ 800 := by omega
  have CP2 := fun (A' : Option Addr) (c' : Nat) (E' : Option Addr) (d' : Nat) (W : World) h0 h1 h2 h3 h4 => fPut_any P pn pc key f0 t0 (paE cc) (paO cc) A' (paM cc) c' (paX cc) (paK cc) (paQ cc) E' r d' (paB cc) W hp (by omega) h0 hXl h1 h2 hr.symm (by omega) h3 bE bO h4 hgg
  rw [hfb] at CP2
  have HCZ := Lib.hid CZ
  have HCP2 := Lib.hid CP2
  have HZL := Lib.hid hm
  have HCSB := Lib.hid (fun (B : Option Addr) (d' : Nat) (W : World) h0 h1 => sameB_refl B Z m d' d zs zs W hm hm rfl hbz h0 h1)
  rw [hm] at HCZ
  clear CZ CP2 hfb hgg hXl hBl hcl bB bE bO hcc hf0 ht0 hr
  have HP := Lib.hid hpx
  have HX := Lib.hid hx
  have HB := Lib.hid hb
  have HZ := Lib.hid hz
  have HF := Lib.hid (frBox_new w F T ep ro (.slice A n c) K q (.slice D l dc) 30)
  have HK := Lib.hid hK
  have HBX := Lib.hid (bal (brf (w := w)) (.cells #[.int .i64 F, .int .i64 T, .int .u64 ep, .int .u64 ro, .slice A n c, .int .i64 K, .int .i64 q, .slice D l dc] 30))
  clear hK
  clear hp hpx hn hx hep hro hl hb hbb hm hz hbz hg ht ht2
  go_enter Tryd.func8, Tryd.ntmps8
  go_wp2_with (first
    | (go_at_call 9; go_must (refine (live5_any _ (HK.out.go HBX.out)).mono ?_; rintro e w1 ⟨rfl, hb1⟩; have HBX := Lib.hid (bgo HBX.out hb1); have HF := Lib.hid (HF.out.below hb1); obtain ⟨s0, a0, a1, a2, a3, a4, a5, a6, a7⟩ := HF.out))
    | (go_at_call 10; go_must ((refine (few_yes P pn pc F T ep ro A n c K q D l dc Z m d _ (by omega) (by omega) (by omega) (by omega)).mono ?_); rintro e w2 ⟨rfl, hb2⟩; have HBX := Lib.hid (bgo HBX.out hb2); have HF := Lib.hid (HF.out.below hb2); obtain ⟨s0, a0, a1, a2, a3, a4, a5, a6, a7⟩ := HF.out))
    | (go_at_call 15; (with_reducible refine (HCP.out _ (HP.out.below HBX.out) (HX.out.below HBX.out) (HB.out.below HBX.out) (HK.out.go HBX.out)).mono ?_); rintro e w3 ⟨B3, c3, he3, hc3, hown3, hb3⟩; rw [HL.out] at he3 hc3 hown3; subst he3; have HBX := Lib.hid (bgo HBX.out hb3); have HF := Lib.hid (HF.out.below hb3); obtain ⟨s0, a0, a1, a2, a3, a4, a5, a6, a7⟩ := HF.out; have HM3 := Lib.hid (own_max hown3); have HR3 := Lib.hid (Rd.of_own hown3); clear hown3)
    | (go_at_call 11; (with_reducible refine (HCT.out _ _ _ (HP.out.below HBX.out) hc3 HM3.out HR3.out (HK.out.go HBX.out)).mono ?_); rintro e w4 ⟨A4, c4, D4, d4, rfl, hc4, hx4, ho4, hb4⟩; have HBX := Lib.hid (bgo HBX.out hb4); have HF := Lib.hid (HF.out.below hb4); obtain ⟨s0, a0, a1, a2, a3, a4, a5, a6, a7⟩ := HF.out; have HX4 := Lib.hid hx4; have HB4 := Lib.hid (Rd.of_own ho4); clear hx4 ho4)
    | (go_at_call 20; (with_reducible refine (HCS.out _ _ _ _ _ (HX.out.below (bal HBX.out _)) (HX4.out.below (bal brf _)) (HB.out.below (bal HBX.out _)) (HB4.out.below (bal brf _))).mono ?_); rintro e w5 ⟨rfl, hb5⟩; have hb5 := bgo (bal brf _) hb5; have HBX := Lib.hid (bgo HBX.out hb5); have HF := Lib.hid (HF.out.below hb5); obtain ⟨s0, a0, a1, a2, a3, a4, a5, a6, a7⟩ := HF.out)
    | (go_at_call 11; (with_reducible refine (HCZ.out _ (HP.out.below HBX.out) (HZ.out.below HBX.out) (HK.out.go HBX.out)).mono ?_); rintro e w6 ⟨A6, c6, D6, d6, rfl, hc6, hx6, ho6, hb6⟩; have HBX := Lib.hid (bgo HBX.out hb6); have HF := Lib.hid (HF.out.below hb6); obtain ⟨s0, a0, a1, a2, a3, a4, a5, a6, a7⟩ := HF.out; have HX6 := Lib.hid hx6; have HB6 := Lib.hid (Rd.of_own ho6); clear hx6 ho6)
    | (go_at_call 15; (with_reducible refine (HCP2.out _ _ _ _ _ (HP.out.below (bal HBX.out _)) hc6 (HX6.out.below (bal brf _)) (HB6.out.below (bal brf _)) (HK.out.go (bal HBX.out _))).mono ?_); rintro e w7 ⟨B7, c7, he7, hc7, hown7, hb7⟩; rw [HZL.out] at he7 hown7; subst he7; have hb7 := bgo (bal brf _) hb7; have HBX := Lib.hid (bgo HBX.out hb7); have HF := Lib.hid (HF.out.below hb7); obtain ⟨s0, a0, a1, a2, a3, a4, a5, a6, a7⟩ := HF.out; have HR7 := Lib.hid (Rd.of_own hown7); clear hown7)
    | (go_at_call 14; (with_reducible refine (HCSB.out _ _ _ HR7.out (HZ.out.below HBX.out)).mono ?_); rintro e w8 ⟨rfl, rfl⟩))
  go_ret
  exact ⟨by first | (simp; done) | (simp; omega), by first | exact HBX.out | exact bal HBX.out _⟩

set_option maxHeartbeats 4000000 in
theorem frameBack_n3 (P : Option Addr) (pn pc : Nat) (F T : Int) (ep ro : Nat) (A : Option Addr) (n c : Nat) (K Q : Int) (D : Option Addr) (l dc : Nat) (Z : Option Addr) (m d : Nat) (w : World) (hK : Konst w) (key xs bs zs : List Int) (h : pn ≤ 200 ∧ l ≤ 600 ∧ n ≤ 60 ∧ m ≤ 800) (hp : key.length = pn) (hpx : Rd w P (nums .u8 key)) (hn : xs.length = n) (hnc : n ≤ c) (hx : Rd w A (nums .i64 xs)) (hep : ep < 18446744073709551616) (hro : ro < 18446744073709551616) (hl : bs.length = l) (hb : Rd w D (nums .u8 bs)) (hbb : Byt bs) (hm : zs.length = m) (hmd : m ≤ d) (hdm : d ≤ maxLen) (hz : Rd w Z (nums .u8 zs)) (hbz : Byt zs) (hg : ¬ goodF F T K Q xs l) (ht : ¬ tF zs) : Calls Tryd.prog 8 #[.slice P pn pc, .agg #[.int .i64 F, .int .i64 T, .int .u64 (ep : Nat), .int .u64 (ro : Nat), .slice A n c, .int .i64 K, .int .i64 Q, .slice D l dc], .slice Z m d] w (Yes w) := by
  have HCP := Lib.hid (fun (W : World) h0 => fPut_bad P pn pc F T ep ro A n c xs K Q D l dc W hn hnc h0 (by omega) hg)
  have HCC := Lib.hid (fun (W : World) h0 => fCheck_bad F T ep ro A n c xs K Q D l dc W hn hnc h0 (by omega) hg)
  have HCZ := Lib.hid (fun (W : World) h0 h1 h2 => fTake_3 (P := P) (A := Z) (pc := pc) (c := d) (w := W) hp (by omega) h0 hm hmd hdm (by omega) h1 hbz h2 ht)
  have HCE := Lib.hid (fun (W : World) => rfSame_refl 0 0 0 0 none 0 0 [] 0 0 none 0 0 [] none 0 none 0 W rfl (.inl rfl) (.inl rfl) (by unfold maxLen; omega) rfl (.inl rfl) (fun x hx => by cases hx) (.inl rfl))
  have HP := Lib.hid hpx
  have HX := Lib.hid hx
  have HB := Lib.hid hb
  have HZ := Lib.hid hz
  have HF := Lib.hid (frBox_new w F T ep ro (.slice A n c) K Q (.slice D l dc) 30)
  have HK := Lib.hid hK
  have HBX := Lib.hid (bal (brf (w := w)) (.cells #[.int .i64 F, .int .i64 T, .int .u64 ep, .int .u64 ro, .slice A n c, .int .i64 K, .int .i64 Q, .slice D l dc] 30))
  clear hK
  clear hp hpx hn hx hep hro hl hb hbb hm hz hbz hg ht
  go_enter Tryd.func8, Tryd.ntmps8
  go_wp2_with (first
    | (go_at_call 9; go_must (refine (live5_any _ (HK.out.go HBX.out)).mono ?_; rintro e w1 ⟨rfl, hb1⟩; have HBX := Lib.hid (bgo HBX.out hb1); have HF := Lib.hid (HF.out.below hb1); obtain ⟨s0, a0, a1, a2, a3, a4, a5, a6, a7⟩ := HF.out))
    | (go_at_call 10; go_must ((refine (few_yes P pn pc F T ep ro A n c K Q D l dc Z m d _ (by omega) (by omega) (by omega) (by omega)).mono ?_); rintro e w2 ⟨rfl, hb2⟩; have HBX := Lib.hid (bgo HBX.out hb2); have HF := Lib.hid (HF.out.below hb2); obtain ⟨s0, a0, a1, a2, a3, a4, a5, a6, a7⟩ := HF.out))
    | (go_at_call 15; (with_reducible refine (HCP.out _ (HX.out.below HBX.out)).mono ?_); rintro e w3 ⟨rfl, hb3⟩; have HBX := Lib.hid (bgo HBX.out hb3); have HF := Lib.hid (HF.out.below hb3); obtain ⟨s0, a0, a1, a2, a3, a4, a5, a6, a7⟩ := HF.out)
    | (go_at_call 18; (with_reducible refine (HCC.out _ (HX.out.below HBX.out)).mono ?_); rintro e w5 ⟨rfl, hb5⟩; have HBX := Lib.hid (bgo HBX.out hb5); have HF := Lib.hid (HF.out.below hb5); obtain ⟨s0, a0, a1, a2, a3, a4, a5, a6, a7⟩ := HF.out)
    | (go_at_call 11; (with_reducible refine (HCZ.out _ (HP.out.below HBX.out) (HZ.out.below HBX.out) (HK.out.go HBX.out)).mono ?_); rintro e w6 ⟨rfl, hb6⟩; have HBX := Lib.hid (bgo HBX.out hb6); have HF := Lib.hid (HF.out.below hb6); obtain ⟨s0, a0, a1, a2, a3, a4, a5, a6, a7⟩ := HF.out)
    | (go_at_call 13; (refine (HCE.out _).mono ?_); rintro e w7 ⟨rfl, hb7⟩; have hb7 := bgo (bal brf _) hb7; have HBX := Lib.hid (bgo HBX.out hb7); have HF := Lib.hid (HF.out.below hb7); obtain ⟨s0, a0, a1, a2, a3, a4, a5, a6, a7⟩ := HF.out))
  go_ret
  exact ⟨by first | (simp; done) | (simp; omega), by first | exact HBX.out | exact bal HBX.out _⟩

set_option maxHeartbeats 4000000 in
theorem frameBack_n4 (P : Option Addr) (pn pc : Nat) (F T : Int) (ep ro : Nat) (A : Option Addr) (n c : Nat) (K Q : Int) (D : Option Addr) (l dc : Nat) (Z : Option Addr) (m d : Nat) (w : World) (hK : Konst w) (key xs bs zs : List Int) (h : pn ≤ 200 ∧ l ≤ 600 ∧ n ≤ 60 ∧ m ≤ 800) (hp : key.length = pn) (hpx : Rd w P (nums .u8 key)) (hn : xs.length = n) (hnc : n ≤ c) (hx : Rd w A (nums .i64 xs)) (hep : ep < 18446744073709551616) (hro : ro < 18446744073709551616) (hl : bs.length = l) (hb : Rd w D (nums .u8 bs)) (hbb : Byt bs) (hm : zs.length = m) (hmd : m ≤ d) (hdm : d ≤ maxLen) (hz : Rd w Z (nums .u8 zs)) (hbz : Byt zs) (hg : ¬ goodF F T K Q xs l) (ht : tF zs) (ht2 : ¬ tT key zs) : Calls Tryd.prog 8 #[.slice P pn pc, .agg #[.int .i64 F, .int .i64 T, .int .u64 (ep : Nat), .int .u64 (ro : Nat), .slice A n c, .int .i64 K, .int .i64 Q, .slice D l dc], .slice Z m d] w (Yes w) := by
  have HCP := Lib.hid (fun (W : World) h0 => fPut_bad P pn pc F T ep ro A n c xs K Q D l dc W hn hnc h0 (by omega) hg)
  have HCC := Lib.hid (fun (W : World) h0 => fCheck_bad F T ep ro A n c xs K Q D l dc W hn hnc h0 (by omega) hg)
  have HCZ := Lib.hid (fun (W : World) h0 h1 h2 => fTake_4 (P := P) (A := Z) (pc := pc) (c := d) (w := W) hp (by omega) h0 hm hmd hdm (by omega) h1 hbz h2 ht ht2)
  have HCE := Lib.hid (fun (W : World) => rfSame_refl 0 0 0 0 none 0 0 [] 0 0 none 0 0 [] none 0 none 0 W rfl (.inl rfl) (.inl rfl) (by unfold maxLen; omega) rfl (.inl rfl) (fun x hx => by cases hx) (.inl rfl))
  have HP := Lib.hid hpx
  have HX := Lib.hid hx
  have HB := Lib.hid hb
  have HZ := Lib.hid hz
  have HF := Lib.hid (frBox_new w F T ep ro (.slice A n c) K Q (.slice D l dc) 30)
  have HK := Lib.hid hK
  have HBX := Lib.hid (bal (brf (w := w)) (.cells #[.int .i64 F, .int .i64 T, .int .u64 ep, .int .u64 ro, .slice A n c, .int .i64 K, .int .i64 Q, .slice D l dc] 30))
  clear hK
  clear hp hpx hn hx hep hro hl hb hbb hm hz hbz hg ht ht2
  go_enter Tryd.func8, Tryd.ntmps8
  go_wp2_with (first
    | (go_at_call 9; go_must (refine (live5_any _ (HK.out.go HBX.out)).mono ?_; rintro e w1 ⟨rfl, hb1⟩; have HBX := Lib.hid (bgo HBX.out hb1); have HF := Lib.hid (HF.out.below hb1); obtain ⟨s0, a0, a1, a2, a3, a4, a5, a6, a7⟩ := HF.out))
    | (go_at_call 10; go_must ((refine (few_yes P pn pc F T ep ro A n c K Q D l dc Z m d _ (by omega) (by omega) (by omega) (by omega)).mono ?_); rintro e w2 ⟨rfl, hb2⟩; have HBX := Lib.hid (bgo HBX.out hb2); have HF := Lib.hid (HF.out.below hb2); obtain ⟨s0, a0, a1, a2, a3, a4, a5, a6, a7⟩ := HF.out))
    | (go_at_call 15; (with_reducible refine (HCP.out _ (HX.out.below HBX.out)).mono ?_); rintro e w3 ⟨rfl, hb3⟩; have HBX := Lib.hid (bgo HBX.out hb3); have HF := Lib.hid (HF.out.below hb3); obtain ⟨s0, a0, a1, a2, a3, a4, a5, a6, a7⟩ := HF.out)
    | (go_at_call 18; (with_reducible refine (HCC.out _ (HX.out.below HBX.out)).mono ?_); rintro e w5 ⟨rfl, hb5⟩; have HBX := Lib.hid (bgo HBX.out hb5); have HF := Lib.hid (HF.out.below hb5); obtain ⟨s0, a0, a1, a2, a3, a4, a5, a6, a7⟩ := HF.out)
    | (go_at_call 11; (with_reducible refine (HCZ.out _ (HP.out.below HBX.out) (HZ.out.below HBX.out) (HK.out.go HBX.out)).mono ?_); rintro e w6 ⟨rfl, hb6⟩; have HBX := Lib.hid (bgo HBX.out hb6); have HF := Lib.hid (HF.out.below hb6); obtain ⟨s0, a0, a1, a2, a3, a4, a5, a6, a7⟩ := HF.out)
    | (go_at_call 13; (refine (HCE.out _).mono ?_); rintro e w7 ⟨rfl, hb7⟩; have hb7 := bgo (bal brf _) hb7; have HBX := Lib.hid (bgo HBX.out hb7); have HF := Lib.hid (HF.out.below hb7); obtain ⟨s0, a0, a1, a2, a3, a4, a5, a6, a7⟩ := HF.out))
  go_ret
  exact ⟨by first | (simp; done) | (simp; omega), by first | exact HBX.out | exact bal HBX.out _⟩

set_option maxHeartbeats 4000000 in
theorem frameBack_n0 (P : Option Addr) (pn pc : Nat) (F T : Int) (ep ro : Nat) (A : Option Addr) (n c : Nat) (K Q : Int) (D : Option Addr) (l dc : Nat) (Z : Option Addr) (m d : Nat) (w : World) (hK : Konst w) (key xs bs zs : List Int) (h : pn ≤ 200 ∧ l ≤ 600 ∧ n ≤ 60 ∧ m ≤ 800) (hp : key.length = pn) (hpx : Rd w P (nums .u8 key)) (hn : xs.length = n) (hnc : n ≤ c) (hx : Rd w A (nums .i64 xs)) (hep : ep < 18446744073709551616) (hro : ro < 18446744073709551616) (hl : bs.length = l) (hb : Rd w D (nums .u8 bs)) (hbb : Byt bs) (hm : zs.length = m) (hmd : m ≤ d) (hdm : d ≤ maxLen) (hz : Rd w Z (nums .u8 zs)) (hbz : Byt zs) (hg : ¬ goodF F T K Q xs l) (ht : tF zs) (ht2 : tT key zs) : Calls Tryd.prog 8 #[.slice P pn pc, .agg #[.int .i64 F, .int .i64 T, .int .u64 (ep : Nat), .int .u64 (ro : Nat), .slice A n c, .int .i64 K, .int .i64 Q, .slice D l dc], .slice Z m d] w (Yes w) := by
  have HCP := Lib.hid (fun (W : World) h0 => fPut_bad P pn pc F T ep ro A n c xs K Q D l dc W hn hnc h0 (by omega) hg)
  have HCC := Lib.hid (fun (W : World) h0 => fCheck_bad F T ep ro A n c xs K Q D l dc W hn hnc h0 (by omega) hg)
  have hfb := frB_back ht ht2 hbz _ rfl
  have hgg := ht.2.2
  have hXl := tkX_len2 ht.2.1
  have hBl := paB_len ht.2.1
  have hcl : (zs.take (zs.length - 32)).length ≤ 800 := Nat.le_trans (List.length_take_le' _ _) (by omega)
  have CZ := fun (W : World) h0 h1 h2 => fTake_0 (P := P) (A := Z) (pc := pc) (c := d) (w := W) hp (by omega) h0 hm hmd hdm (by omega) h1 hbz h2 ht ht2
  have bB : Byt (paB (zs.take (zs.length - 32))) := fun x hx => hbz x (List.mem_of_mem_take (List.mem_of_mem_drop (List.mem_of_mem_drop hx)))
  have bE : paE (zs.take (zs.length - 32)) < 18446744073709551616 := tkE_lt (fun x hx => hbz x (List.mem_of_mem_take (List.mem_of_mem_drop hx)))
  have bO : paO (zs.take (zs.length - 32)) < 18446744073709551616 := tkR_lt (fun x hx => hbz x (List.mem_of_mem_take (List.mem_of_mem_drop hx)))
  unfold paGood at hgg
  rw [← hm] at CZ
  simp only [IsFr] at CZ
  obtain ⟨cc, hcc⟩ : ∃ cc, cc = zs.take (zs.length - 32) := ⟨_, rfl⟩
  rw [← hcc] at hfb hgg hXl hBl hcl CZ bB bE bO
  obtain ⟨f0, hf0⟩ : ∃ f, f = cc.getD 0 0 := ⟨_, rfl⟩
  obtain ⟨t0, ht0⟩ : ∃ f, f = cc.getD 1 0 := ⟨_, rfl⟩
  obtain ⟨r, hr⟩ : ∃ r, r = (paB cc).length := ⟨_, rfl⟩
  rw [← hf0, ← ht0] at hfb hgg CZ
  rw [← hr] at hgg CZ hBl
  have r8 : r ≤ 800 := by omega
  have CP2 := fun (A' : Option Addr) (c' : Nat) (E' : Option Addr) (d' : Nat) (W : World) h0 h1 h2 h3 h4 => fPut_any P pn pc key f0 t0 (paE cc) (paO cc) A' (paM cc) c' (paX cc) (paK cc) (paQ cc) E' r d' (paB cc) W hp (by omega) h0 hXl h1 h2 hr.symm (by omega) h3 bE bO h4 hgg
  rw [hfb] at CP2
  have HCZ := Lib.hid CZ
  have HCP2 := Lib.hid CP2
  have HZL := Lib.hid hm
  have HCSB := Lib.hid (fun (B : Option Addr) (d' : Nat) (W : World) h0 h1 => sameB_refl B Z m d' d zs zs W hm hm rfl hbz h0 h1)
  rw [hm] at HCZ
  clear CZ CP2 hfb hgg hXl hBl hcl bB bE bO hcc hf0 ht0 hr
  have HP := Lib.hid hpx
  have HX := Lib.hid hx
  have HB := Lib.hid hb
  have HZ := Lib.hid hz
  have HF := Lib.hid (frBox_new w F T ep ro (.slice A n c) K Q (.slice D l dc) 30)
  have HK := Lib.hid hK
  have HBX := Lib.hid (bal (brf (w := w)) (.cells #[.int .i64 F, .int .i64 T, .int .u64 ep, .int .u64 ro, .slice A n c, .int .i64 K, .int .i64 Q, .slice D l dc] 30))
  clear hK
  clear hp hpx hn hx hep hro hl hb hbb hm hz hbz hg ht ht2
  go_enter Tryd.func8, Tryd.ntmps8
  go_wp2_with (first
    | (go_at_call 9; go_must (refine (live5_any _ (HK.out.go HBX.out)).mono ?_; rintro e w1 ⟨rfl, hb1⟩; have HBX := Lib.hid (bgo HBX.out hb1); have HF := Lib.hid (HF.out.below hb1); obtain ⟨s0, a0, a1, a2, a3, a4, a5, a6, a7⟩ := HF.out))
    | (go_at_call 10; go_must ((refine (few_yes P pn pc F T ep ro A n c K Q D l dc Z m d _ (by omega) (by omega) (by omega) (by omega)).mono ?_); rintro e w2 ⟨rfl, hb2⟩; have HBX := Lib.hid (bgo HBX.out hb2); have HF := Lib.hid (HF.out.below hb2); obtain ⟨s0, a0, a1, a2, a3, a4, a5, a6, a7⟩ := HF.out))
    | (go_at_call 15; (with_reducible refine (HCP.out _ (HX.out.below HBX.out)).mono ?_); rintro e w3 ⟨rfl, hb3⟩; have HBX := Lib.hid (bgo HBX.out hb3); have HF := Lib.hid (HF.out.below hb3); obtain ⟨s0, a0, a1, a2, a3, a4, a5, a6, a7⟩ := HF.out)
    | (go_at_call 18; (with_reducible refine (HCC.out _ (HX.out.below HBX.out)).mono ?_); rintro e w5 ⟨rfl, hb5⟩; have HBX := Lib.hid (bgo HBX.out hb5); have HF := Lib.hid (HF.out.below hb5); obtain ⟨s0, a0, a1, a2, a3, a4, a5, a6, a7⟩ := HF.out)
    | (go_at_call 11; (with_reducible refine (HCZ.out _ (HP.out.below HBX.out) (HZ.out.below HBX.out) (HK.out.go HBX.out)).mono ?_); rintro e w6 ⟨A6, c6, D6, d6, rfl, hc6, hx6, ho6, hb6⟩; have HBX := Lib.hid (bgo HBX.out hb6); have HF := Lib.hid (HF.out.below hb6); obtain ⟨s0, a0, a1, a2, a3, a4, a5, a6, a7⟩ := HF.out; have HX6 := Lib.hid hx6; have HB6 := Lib.hid (Rd.of_own ho6); clear hx6 ho6)
    | (go_at_call 15; (with_reducible refine (HCP2.out _ _ _ _ _ (HP.out.below (bal HBX.out _)) hc6 (HX6.out.below (bal brf _)) (HB6.out.below (bal brf _)) (HK.out.go (bal HBX.out _))).mono ?_); rintro e w7 ⟨B7, c7, he7, hc7, hown7, hb7⟩; rw [HZL.out] at he7 hown7; subst he7; have hb7 := bgo (bal brf _) hb7; have HBX := Lib.hid (bgo HBX.out hb7); have HF := Lib.hid (HF.out.below hb7); obtain ⟨s0, a0, a1, a2, a3, a4, a5, a6, a7⟩ := HF.out; have HR7 := Lib.hid (Rd.of_own hown7); clear hown7)
    | (go_at_call 14; (with_reducible refine (HCSB.out _ _ _ HR7.out (HZ.out.below HBX.out)).mono ?_); rintro e w8 ⟨rfl, rfl⟩))
  go_ret
  exact ⟨by first | (simp; done) | (simp; omega), by first | exact HBX.out | exact bal HBX.out _⟩

set_option maxHeartbeats 1000000 in
open Go.Joins Go.Deep in
theorem frameBack_of {H : Type} {enc : TypeId × Value → H} (W : World) (base : Nat) (args : Array Value) (ds : List (DataW H)) (p : List MemPlace)
    (hval : ∀ (j : Nat) t v, Tryd.f8.params[j]? = some t → args[j]? = some v → Value.okWide Tryd.prog W .any base t v)
    (hA : DataW.TrodAll enc Tryd.prog W 0 (fun _ => true) true Tryd.f8.params.toList args.toList ds p) (hlt : ∀ x ∈ p, x.block < W.heap.size)
    (hz : (DataW.weightsEach Tryd.prog Tryd.f8.params.toList ds).all (· ≤ reachBytes) = true) (hK : Konst W) : Calls Tryd.prog 8 args W (Yes W) := by
  rw [Tryd.params8] at hA hval hz
  obtain ⟨v0, vs0, d0, ds0, p0, q0, hargs, rfl, rfl, h0, r0⟩ := trodAll_cons hA
  obtain ⟨v1, vs1, d1, ds1, p1, q1, rfl, rfl, rfl, h1, r1⟩ := trodAll_cons r0
  obtain ⟨v2, vs2, d2, ds2, p2, q2, rfl, rfl, rfl, h2, r2⟩ := trodAll_cons r1
  obtain ⟨rfl, rfl, rfl⟩ := trodAll_nil r2
  obtain rfl : args = #[v0, v1, v2] := by cases args; simp_all
  obtain ⟨P, pn, pc, key, rfl, p1, p2, p3, p4, p5⟩ := open_bytesT h0 (hval 0 _ _ rfl rfl)
  obtain ⟨F, T, ep, ro, A, n, c, xs, K, Q, D, l, dc, bs, rfl, a1, a2, a3, a4, a5, a6, a7, a8, a9⟩ := open_frame (hval 1 _ _ rfl rfl) h1
  obtain ⟨Z, m, d, zs, rfl, z1, z2, z3, z4, z5⟩ := open_bytesT h2 (hval 2 _ _ rfl rfl)
  by_cases hs : pn ≤ 200 ∧ l ≤ 600 ∧ n ≤ 60 ∧ m ≤ 800
  · by_cases ht : tF zs
    · by_cases ht2 : tT key zs
      · by_cases hg : goodF F T K Q xs l
        · exact frameBack_y0 P pn pc F T ep ro A n c K Q D l dc Z m d W hK key xs bs zs hs p3 p4 a2 a1 a3 a4 a5 a6 a8 a9 z3 z1 z2 z4 z5 hg ht ht2
        · exact frameBack_n0 P pn pc F T ep ro A n c K Q D l dc Z m d W hK key xs bs zs hs p3 p4 a2 a1 a3 a4 a5 a6 a8 a9 z3 z1 z2 z4 z5 hg ht ht2
      · by_cases hg : goodF F T K Q xs l
        · exact frameBack_y4 P pn pc F T ep ro A n c K Q D l dc Z m d W hK key xs bs zs hs p3 p4 a2 a1 a3 a4 a5 a6 a8 a9 z3 z1 z2 z4 z5 hg ht ht2
        · exact frameBack_n4 P pn pc F T ep ro A n c K Q D l dc Z m d W hK key xs bs zs hs p3 p4 a2 a1 a3 a4 a5 a6 a8 a9 z3 z1 z2 z4 z5 hg ht ht2
    · by_cases hg : goodF F T K Q xs l
      · exact frameBack_y3 P pn pc F T ep ro A n c K Q D l dc Z m d W hK key xs bs zs hs p3 p4 a2 a1 a3 a4 a5 a6 a8 a9 z3 z1 z2 z4 z5 hg ht
      · exact frameBack_n3 P pn pc F T ep ro A n c K Q D l dc Z m d W hK key xs bs zs hs p3 p4 a2 a1 a3 a4 a5 a6 a8 a9 z3 z1 z2 z4 z5 hg ht
  · exact frameBack_long P pn pc F T ep ro A n c K Q D l dc Z m d W hK hs
end Go.Proofs.YtmkmndgdakpojaaDoor
