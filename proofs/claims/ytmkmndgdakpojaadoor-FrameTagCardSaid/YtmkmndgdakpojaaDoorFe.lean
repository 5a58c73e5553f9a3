/- Frames put: contracts of both answers. -/
import Derived.Test.YtmkmndgdakpojaaDoorFb
import Derived.Test.YtmkmndgdakpojaaDoorFc
import Derived.Test.YtmkmndgdakpojaaDoorApart
import Derived.Test.YtmkmndgdakpojaaDoorMi0
namespace Go.Proofs.YtmkmndgdakpojaaDoor
open Go.RowKit
set_option linter.unusedSimpArgs false
set_option linter.unusedVariables false
set_option maxRecDepth 100000

/-- A frame's bytes. -/
def frB (key : List Int) (F T : Int) (ep ro : Nat) (xs : List Int) (K : Int) (q : Nat) (bs : List Int) : List Int := inB F T ep ro xs K q bs ++ tagL key (inB F T ep ro xs K q bs)
theorem frB_len (key : List Int) (F T : Int) (ep ro : Nat) (xs : List Int) (K : Int) (q : Nat) (bs : List Int) : (frB key F T ep ro xs K q bs).length = 60 + xs.length + bs.length := by
  rw [frB, List.length_append, inB_len, tag_len]; omega
theorem own_new2 (w : World) (x y : Int) : (w.alloc (.cells #[.int .u8 x, .int .u8 y] 5)).ownsRow w.heap.size 5 1 (.slice (some ⟨w.heap.size, 0, none⟩) 2 2) 2 (nums .u8 [x, y]) :=
  ⟨rfl, .inr ⟨w.heap.size, 2, _, rfl, Nat.le_refl _, World.alloc_heap_new w _, Nat.le_refl _, by unfold maxLen; omega, rfl, rfl⟩⟩
theorem snoc_nums (xs : List Int) (x : Int) : nums .u8 xs ++ [Value.int .u8 x] = nums .u8 (xs ++ [x]) := by simp [nums]
theorem app_nums (xs ys : List Int) : nums .u8 xs ++ nums .u8 ys = nums .u8 (xs ++ ys) := by simp [nums]

set_option maxHeartbeats 4000000 in
theorem fPut_any (P : Option Addr) (pn pc : Nat) (key : List Int) (F T : Int) (ep ro : Nat) (A : Option Addr) (n c : Nat) (xs : List Int) (K : Int) (q : Nat) (D : Option Addr) (l dc : Nat) (bs : List Int) (w : World) (hp : key.length = pn) (hp4 : pn ≤ 4000) (hpx : Rd w P (nums .u8 key)) (hn : xs.length = n) (hnc : n ≤ c) (hx : Rd w A (nums .i64 xs)) (hl : bs.length = l) (hl2 : l ≤ 2000) (hb : Rd w D (nums .u8 bs)) (he : ep < 18446744073709551616) (hr : ro < 18446744073709551616) (hK : Konst w) (hg : goodF F T K q xs l) :
    Calls Tryd.prog 15 #[.slice P pn pc, .agg #[.int .i64 F, .int .i64 T, .int .u64 ep, .int .u64 ro, .slice A n c, .int .i64 K, .int .i64 (q : Nat), .slice D l dc]] w (IsNum w (frB key F T ep ro xs K q bs)) := by
  obtain ⟨i0, hi, hz0, hz1, hz2⟩ := info_parts infoByteT
  have hgs := hg.2.2.2.2.2.1
  have n8 : n ≤ 8 := by rw [← hn]; exact hgs.2.1
  have CK := fun (W : World) h0 => fCheck_ok F T ep ro A n c xs K q D l dc W hn hnc h0 (by omega) hg
  have CP := fun (W : World) h0 => stPut_any ep ro A n c xs W hn h0 hgs he hr
  obtain ⟨f1, f2, t1, t2, ft, _, q1, q2, hk⟩ := hg
  have k1 : 0 ≤ K := by rcases hk with h | h <;> omega
  have k2 : K ≤ 2 := by rcases hk with h | h <;> omega
  have CQ := fun (W : World) => wput4_any q W (by omega)
  have CL := fun (W : World) => wput4_any l W (by omega)
  have hsl := stB_len ep ro xs
  rw [hn] at hsl
  have lq := lowB_len q 4
  have ll := lowB_len l 4
  have hin : inB F T ep ro xs K q bs = [F, T] ++ stB ep ro xs ++ [K] ++ lowB q 4 ++ lowB l 4 ++ bs := by rw [inB, hl]
  have hil : (inB F T ep ro xs K q bs).length = 2 + (17 + n) + 1 + 4 + 4 + l := by rw [inB_len, hn, hl]; omega
  have hfr : frB key F T ep ro xs K q bs = inB F T ep ro xs K q bs ++ tagL key (inB F T ep ro xs K q bs) := rfl
  have CT := fun (B : Option Addr) (d : Nat) (W : World) h0 h1 h2 => tag_any P B pn pc (2 + (17 + n) + 1 + 4 + 4 + l) d key (inB F T ep ro xs K q bs) W hp hil hp4 (by omega) h0 h1 h2
  have tl := tag_len key (inB F T ep ro xs K q bs)
  obtain ⟨tg, htg⟩ : ∃ tg, tg = tagL key (inB F T ep ro xs K q bs) := ⟨_, rfl⟩
  obtain ⟨st, hst⟩ : ∃ st, st = stB ep ro xs := ⟨_, rfl⟩
  obtain ⟨lQ, hlQ⟩ : ∃ x, x = lowB q 4 := ⟨_, rfl⟩
  obtain ⟨lL, hlL⟩ : ∃ x, x = lowB l 4 := ⟨_, rfl⟩
  obtain ⟨inn, hinn⟩ : ∃ x, x = inB F T ep ro xs K q bs := ⟨_, rfl⟩
  rw [← hst] at CP hsl hin
  rw [← hlQ] at CQ lq hin
  rw [← hlL] at CL ll hin
  rw [← hinn] at CT hin hil hfr tl htg
  rw [← htg] at CT hfr tl
  rw [hfr]
  have HSL := Lib.hid hsl
  have HLQ := Lib.hid lq
  have HLL := Lib.hid ll
  have HIN := Lib.hid hin
  have HIL := Lib.hid hil
  have HTL := Lib.hid tl
  have HBL := Lib.hid hl
  have HP := Lib.hid (hpx.below (bal brf (.cells #[.int .i64 F, .int .i64 T, .int .u64 ep, .int .u64 ro, .slice A n c, .int .i64 K, .int .i64 (q : Nat), .slice D l dc] 30)))
  have HX := Lib.hid (hx.below (bal brf (.cells #[.int .i64 F, .int .i64 T, .int .u64 ep, .int .u64 ro, .slice A n c, .int .i64 K, .int .i64 (q : Nat), .slice D l dc] 30)))
  have HB := Lib.hid (hb.below (bal brf (.cells #[.int .i64 F, .int .i64 T, .int .u64 ep, .int .u64 ro, .slice A n c, .int .i64 K, .int .i64 (q : Nat), .slice D l dc] 30)))
  have HK := Lib.hid (hK.go (bal brf (.cells #[.int .i64 F, .int .i64 T, .int .u64 ep, .int .u64 ro, .slice A n c, .int .i64 K, .int .i64 (q : Nat), .slice D l dc] 30)))
  have HBX := bal (brf (w := w)) (.cells #[.int .i64 F, .int .i64 T, .int .u64 ep, .int .u64 ro, .slice A n c, .int .i64 K, .int .i64 (q : Nat), .slice D l dc] 30)
  have HBOX := Lib.hid (frBox_new w F T ep ro (.slice A n c) K q (.slice D l dc) 30)
  clear hp hpx hn hx hl hb he hr hgs hk hsl lq ll hin hil hfr tl htg hst hlQ hlL hinn ft hK
  go_enter Tryd.func15, Tryd.ntmps15
  go_upto_region 9 with (first
    | (go_at_call 18; (with_reducible refine (CK _ HX.out).mono ?_); rintro e w1 ⟨rfl, hb1⟩; have HP := Lib.hid (HP.out.below hb1); have HX := Lib.hid (HX.out.below hb1); have HB := Lib.hid (HB.out.below hb1); have HK := Lib.hid (HK.out.go hb1); have HBX := bgo HBX hb1; have HBOX := Lib.hid (HBOX.out.below hb1); obtain ⟨s0, b0, b1, b2, b3, b4, b5, b6, b7⟩ := HBOX.out)
    | (go_at_call 28; (with_reducible refine (CP _ HX.out).mono ?_); rintro e w2 ⟨B2, c2, he2, hc2, hown2, hb2⟩; rw [HSL.out] at he2 hown2; subst he2; have HP := Lib.hid (HP.out.below hb2); have HX := Lib.hid (HX.out.below hb2); have HB := Lib.hid (HB.out.below hb2); have HK := Lib.hid (HK.out.go hb2); have HBX := bgo HBX hb2; have HBOX := Lib.hid (HBOX.out.below hb2); obtain ⟨s0, b0, b1, b2, b3, b4, b5, b6, b7⟩ := HBOX.out; have HR2 := Lib.hid (Rd.of_own hown2); clear hown2)
    | (go_at_call 29; first
        | ((with_reducible refine (CQ _).mono ?_); rintro e w3 ⟨B3, c3, he3, hc3, hown3, hb3⟩; rw [HLQ.out] at he3 hown3; subst he3; have HP := Lib.hid (HP.out.below hb3); have HX := Lib.hid (HX.out.below hb3); have HB := Lib.hid (HB.out.below hb3); have HK := Lib.hid (HK.out.go hb3); have HBX := bgo HBX hb3; have HBOX := Lib.hid (HBOX.out.below hb3); obtain ⟨s0, b0, b1, b2, b3, b4, b5, b6, b7⟩ := HBOX.out; have HR2 := Lib.hid (HR2.out.below hb3); have HR3 := Lib.hid (Rd.of_own hown3); clear hown3)
        | ((with_reducible refine (CL _).mono ?_); rintro e w4 ⟨B4, c4, he4, hc4, hown4, hb4⟩; rw [HLL.out] at he4 hown4; subst he4; have HP := Lib.hid (HP.out.below hb4); have HX := Lib.hid (HX.out.below hb4); have HB := Lib.hid (HB.out.below hb4); have HK := Lib.hid (HK.out.go hb4); have HBX := bgo HBX hb4; have HBOX := Lib.hid (HBOX.out.below hb4); obtain ⟨s0, b0, b1, b2, b3, b4, b5, b6, b7⟩ := HBOX.out; have HR2 := Lib.hid (HR2.out.below hb4); have HR3 := Lib.hid (HR3.out.below hb4); have HR4 := Lib.hid (Rd.of_own hown4); clear hown4))
    | fail)
  have HB9 := Lib.hid HBOX.out
  obtain ⟨s0, b0, b1, b2, b3, b4, b5, b6, b7⟩ := HBOX.out
  go_wp2_with (first
    | (at_builtin; refine append_rd rfl _ _ rfl w4.heap.size (.slice (some ⟨w4.heap.size, 0, none⟩) 2 2) (2) (nums .u8 ([F, T])) rfl (own_new2 w4 F T) (some ⟨B2, 0, none⟩) (17 + n) c2 st rfl HSL.out (HR2.out.below (bal brf _)) (by omega) (by first | exact (bal brf _).size | (simp; done) | (have := (bal brf _).size; omega)) ?_; intro v20 w20 hown20 hgrow20; rw [app_nums] at hown20; have hb20 : Below w4.heap.size w4 w20 := keep_below0 (own_new2 w4 F T) hgrow20 (bal brf _) (by first | exact (bal brf _).size | (simp; done)) (Nat.le_refl _); obtain ⟨A20, c20, rfl⟩ := own_slice hown20; have HBOX := Lib.hid (HB9.out.below hb20); obtain ⟨s0, b0, b1, b2, b3, b4, b5, b6, b7⟩ := HBOX.out; clear hgrow20)
    | (at_builtin; refine append_one rfl _ _ 22 rfl w4.heap.size 5 i0 (.int .u8 0) 1 Tryd.underlying22 hi hz0 hz1 hz2 rfl (.slice A20 (2 + (17 + n)) c20) (2 + (17 + n)) (nums .u8 ([F, T] ++ st)) rfl hown20 (.int .u8 K) 5 rfl rfl (by unfold maxLen; omega) (by omega) hb20.size ?_; intro v21 w21 hown21 hgrow21; rw [snoc_nums] at hown21; have hb21 : Below w4.heap.size w4 w21 := keep_below hown20 hgrow21 hb20 hb20.size (Nat.le_refl _); obtain ⟨A21, c21, rfl⟩ := own_slice hown21; have HBOX := Lib.hid (HB9.out.below hb21); obtain ⟨s0, b0, b1, b2, b3, b4, b5, b6, b7⟩ := HBOX.out; clear hgrow21)
    | (at_builtin; refine append_rd rfl _ _ rfl w4.heap.size (.slice A21 (2 + (17 + n) + 1) c21) (2 + (17 + n) + 1) (nums .u8 ([F, T] ++ st ++ [K])) rfl hown21 (some ⟨B3, 0, none⟩) (4) c3 lQ rfl HLQ.out (HR3.out.below hb21) (by omega) (by first | exact hb21.size | (simp; done) | (have := hb21.size; omega)) ?_; intro v22 w22 hown22 hgrow22; rw [app_nums] at hown22; have hb22 : Below w4.heap.size w4 w22 := keep_below0 hown21 hgrow22 hb21 (by first | exact hb21.size | (simp; done)) (Nat.le_refl _); obtain ⟨A22, c22, rfl⟩ := own_slice hown22; have HBOX := Lib.hid (HB9.out.below hb22); obtain ⟨s0, b0, b1, b2, b3, b4, b5, b6, b7⟩ := HBOX.out; clear hgrow22)
    | (at_builtin; refine append_rd rfl _ _ rfl w4.heap.size (.slice A22 (2 + (17 + n) + 1 + 4) c22) (2 + (17 + n) + 1 + 4) (nums .u8 ([F, T] ++ st ++ [K] ++ lQ)) rfl hown22 (some ⟨B4, 0, none⟩) (4) c4 lL rfl HLL.out (HR4.out.below hb22) (by omega) (by first | exact hb22.size | (simp; done) | (have := hb22.size; omega)) ?_; intro v23 w23 hown23 hgrow23; rw [app_nums] at hown23; have hb23 : Below w4.heap.size w4 w23 := keep_below0 hown22 hgrow23 hb22 (by first | exact hb22.size | (simp; done)) (Nat.le_refl _); obtain ⟨A23, c23, rfl⟩ := own_slice hown23; have HBOX := Lib.hid (HB9.out.below hb23); obtain ⟨s0, b0, b1, b2, b3, b4, b5, b6, b7⟩ := HBOX.out; clear hgrow23)
    | (at_builtin; refine append_rd rfl _ _ rfl w4.heap.size (.slice A23 (2 + (17 + n) + 1 + 4 + 4) c23) (2 + (17 + n) + 1 + 4 + 4) (nums .u8 ([F, T] ++ st ++ [K] ++ lQ ++ lL)) rfl hown23 D (l) dc bs rfl HBL.out (HB.out.below hb23) (by omega) (by first | exact hb23.size | (simp; done) | (have := hb23.size; omega)) ?_; intro v24 w24 hown24 hgrow24; rw [app_nums] at hown24; have hb24 : Below w4.heap.size w4 w24 := keep_below0 hown23 hgrow24 hb23 (by first | exact hb23.size | (simp; done)) (Nat.le_refl _); obtain ⟨A24, c24, rfl⟩ := own_slice hown24; have HBOX := Lib.hid (HB9.out.below hb24); obtain ⟨s0, b0, b1, b2, b3, b4, b5, b6, b7⟩ := HBOX.out; clear hgrow24)
    | (go_at_call 16; rw [← HIN.out] at hown24; (with_reducible refine (CT _ _ _ (HP.out.below hb24) (Rd.of_own hown24) (HK.out.go hb24)).mono ?_); rintro e w25 ⟨B25, c25, het, hct, hlt, hrt, hbt⟩; rw [HTL.out] at het; subst het; have hown25 := own_below hown24 hbt; have hb25 := bgo hb24 hbt; have HRT := Lib.hid hrt; clear hrt)
    | (at_builtin; refine append_rd rfl _ _ rfl w4.heap.size (.slice A24 (2 + (17 + n) + 1 + 4 + 4 + l) c24) (2 + (17 + n) + 1 + 4 + 4 + l) (nums .u8 (inn)) rfl hown25 (some ⟨B25, 0, none⟩) (32) c25 tg rfl HTL.out HRT.out (by omega) (by first | exact hb25.size | (simp; done) | (have := hb25.size; omega)) ?_; intro v26 w26 hown26 hgrow26; rw [app_nums] at hown26; have hb26 : Below w4.heap.size w4 w26 := keep_below0 hown25 hgrow26 hb25 (by first | exact hb25.size | (simp; done)) (Nat.le_refl _); obtain ⟨A26, c26, rfl⟩ := own_slice hown26; clear hgrow26)
    | fail)
  go_ret2
  obtain ⟨g, cq, he, hcq, hrow, hgb, hgl, hlq⟩ := vrow_of_own hown26 (by omega)
  cases he
  have hlen : (inn ++ tg).length = 2 + (17 + n) + 1 + 4 + 4 + l + 32 := by rw [List.length_append, HIL.out, HTL.out]
  exact ⟨g, c26, by rw [hlen]; rfl, by rw [hlen]; exact hcq, by rw [hlen]; exact own_baseT hown26 HBX.size, bgo HBX hb26⟩

set_option maxHeartbeats 1000000 in
theorem fPut_bad (P : Option Addr) (pn pc : Nat) (F T : Int) (ep ro : Int) (A : Option Addr) (n c : Nat) (xs : List Int) (K Q : Int) (D : Option Addr) (l dc : Nat) (w : World) (hn : xs.length = n) (hnc : n ≤ c) (hx : Rd w A (nums .i64 xs)) (hl : l ≤ 60000) (hg : ¬ goodF F T K Q xs l) :
    Calls Tryd.prog 15 #[.slice P pn pc, .agg #[.int .i64 F, .int .i64 T, .int .u64 ep, .int .u64 ro, .slice A n c, .int .i64 K, .int .i64 Q, .slice D l dc]] w fun e w' => e = .returned (.tuple #[.slice none 0 0, .int .i64 1]) ∧ Below w.heap.size w w' := by
  have CK := fun (W : World) h0 => fCheck_bad F T ep ro A n c xs K Q D l dc W hn hnc h0 hl hg
  have HX := Lib.hid (hx.below (bal brf (.cells #[.int .i64 F, .int .i64 T, .int .u64 ep, .int .u64 ro, .slice A n c, .int .i64 K, .int .i64 Q, .slice D l dc] 30)))
  clear hx hn hg
  go_enter Tryd.func15, Tryd.ntmps15
  go_wp2_with (go_at_call 18; refine (CK _ HX.out).mono ?_; rintro e w1 ⟨rfl, hb1⟩)
  go_ret2
  exact ⟨rfl, bgo (bal brf _) hb1⟩

set_option maxHeartbeats 4000000 in
theorem rfPut_any (P : Option Addr) (pn pc : Nat) (key : List Int) (F T : Int) (ep ro : Nat) (A : Option Addr) (n c : Nat) (xs : List Int) (K : Int) (q : Nat) (D : Option Addr) (l dc : Nat) (bs : List Int) (w : World) (hp : key.length = pn) (hp4 : pn ≤ 4000) (hpx : Rd w P (nums .u8 key)) (hn : xs.length = n) (hnc : n ≤ c) (hx : Rd w A (nums .i64 xs)) (hl : bs.length = l) (hl2 : l ≤ 2000) (hb : Rd w D (nums .u8 bs)) (he : ep < 18446744073709551616) (hr : ro < 18446744073709551616) (hg : goodF F T K q xs l) :
    Calls Tryd.prog 17 #[.slice P pn pc, .agg #[.int .i64 F, .int .i64 T, .int .u64 ep, .int .u64 ro, .slice A n c, .int .i64 K, .int .i64 (q : Nat), .slice D l dc]] w (IsNum w (frB key F T ep ro xs K q bs)) := by
  obtain ⟨i0, hi, hz0, hz1, hz2⟩ := info_parts infoByteT
  have hgs := hg.2.2.2.2.2.1
  have n8 : n ≤ 8 := by rw [← hn]; exact hgs.2.1
  have CK := fun (W : World) h0 => rfCheck_ok F T ep ro A n c xs K q D l dc W hn hnc h0 (by omega) hg
  have CP := fun (W : World) h0 => rstPut_any ep ro A n c xs W hn hnc h0 hgs he hr
  obtain ⟨f1, f2, t1, t2, ft, _, q1, q2, hk⟩ := hg
  have k1 : 0 ≤ K := by rcases hk with h | h <;> omega
  have k2 : K ≤ 2 := by rcases hk with h | h <;> omega
  have CQ := fun (W : World) => rmust4_any q W (by omega)
  have CL := fun (W : World) => rmust4_any l W (by omega)
  have hsl := stB_len ep ro xs
  rw [hn] at hsl
  have lq := lowB_len q 4
  have ll := lowB_len l 4
  have hin : inB F T ep ro xs K q bs = [F, T] ++ stB ep ro xs ++ [K] ++ lowB q 4 ++ lowB l 4 ++ bs := by rw [inB, hl]
  have hil : (inB F T ep ro xs K q bs).length = 2 + (17 + n) + 1 + 4 + 4 + l := by rw [inB_len, hn, hl]; omega
  have hfr : frB key F T ep ro xs K q bs = inB F T ep ro xs K q bs ++ tagL key (inB F T ep ro xs K q bs) := rfl
  have CT := fun (B : Option Addr) (d : Nat) (W : World) h0 h1 => rtag_any P B pn pc (2 + (17 + n) + 1 + 4 + 4 + l) d key (inB F T ep ro xs K q bs) W hp hil hp4 (by omega) h0 h1
  have tl := tag_len key (inB F T ep ro xs K q bs)
  obtain ⟨tg, htg⟩ : ∃ tg, tg = tagL key (inB F T ep ro xs K q bs) := ⟨_, rfl⟩
  obtain ⟨st, hst⟩ : ∃ st, st = stB ep ro xs := ⟨_, rfl⟩
  obtain ⟨lQ, hlQ⟩ : ∃ x, x = lowB q 4 := ⟨_, rfl⟩
  obtain ⟨lL, hlL⟩ : ∃ x, x = lowB l 4 := ⟨_, rfl⟩
  obtain ⟨inn, hinn⟩ : ∃ x, x = inB F T ep ro xs K q bs := ⟨_, rfl⟩
  rw [← hst] at CP hsl hin
  rw [← hlQ] at CQ lq hin
  rw [← hlL] at CL ll hin
  rw [← hinn] at CT hin hil hfr tl htg
  rw [← htg] at CT hfr tl
  rw [hfr]
  have HSL := Lib.hid hsl
  have HLQ := Lib.hid lq
  have HLL := Lib.hid ll
  have HIN := Lib.hid hin
  have HIL := Lib.hid hil
  have HTL := Lib.hid tl
  have HBL := Lib.hid hl
  have HP := Lib.hid (hpx.below (bal brf (.cells #[.int .i64 F, .int .i64 T, .int .u64 ep, .int .u64 ro, .slice A n c, .int .i64 K, .int .i64 (q : Nat), .slice D l dc] 30)))
  have HX := Lib.hid (hx.below (bal brf (.cells #[.int .i64 F, .int .i64 T, .int .u64 ep, .int .u64 ro, .slice A n c, .int .i64 K, .int .i64 (q : Nat), .slice D l dc] 30)))
  have HB := Lib.hid (hb.below (bal brf (.cells #[.int .i64 F, .int .i64 T, .int .u64 ep, .int .u64 ro, .slice A n c, .int .i64 K, .int .i64 (q : Nat), .slice D l dc] 30)))
  have HBX := bal (brf (w := w)) (.cells #[.int .i64 F, .int .i64 T, .int .u64 ep, .int .u64 ro, .slice A n c, .int .i64 K, .int .i64 (q : Nat), .slice D l dc] 30)
  have HBOX := Lib.hid (frBox_new w F T ep ro (.slice A n c) K q (.slice D l dc) 30)
  clear hp hpx hn hx hl hb he hr hgs hk hsl lq ll hin hil hfr tl htg hst hlQ hlL hinn ft
  go_enter Tryd.func17, Tryd.ntmps17
  go_upto_region 5 with (first
    | (go_at_call 19; (with_reducible refine (CK _ HX.out).mono ?_); rintro e w1 ⟨rfl, hb1⟩; have HP := Lib.hid (HP.out.below hb1); have HX := Lib.hid (HX.out.below hb1); have HB := Lib.hid (HB.out.below hb1); have HBX := bgo HBX hb1; have HBOX := Lib.hid (HBOX.out.below hb1); obtain ⟨s0, b0, b1, b2, b3, b4, b5, b6, b7⟩ := HBOX.out)
    | (go_at_call 33; (with_reducible refine (CP _ HX.out).mono ?_); rintro e w2 ⟨B2, c2, he2, hc2, hown2, hb2⟩; rw [HSL.out] at he2 hown2; subst he2; have HP := Lib.hid (HP.out.below hb2); have HX := Lib.hid (HX.out.below hb2); have HB := Lib.hid (HB.out.below hb2); have HBX := bgo HBX hb2; have HBOX := Lib.hid (HBOX.out.below hb2); obtain ⟨s0, b0, b1, b2, b3, b4, b5, b6, b7⟩ := HBOX.out; have HR2 := Lib.hid (Rd.of_own hown2); clear hown2)
    | fail)
  have HB9 := Lib.hid HBOX.out
  obtain ⟨s0, b0, b1, b2, b3, b4, b5, b6, b7⟩ := HBOX.out
  go_wp2_with (first
    | (at_builtin; refine append_rd rfl _ _ rfl w2.heap.size (.slice (some ⟨w2.heap.size, 0, none⟩) 2 2) (2) (nums .u8 ([F, T])) rfl (own_new2 w2 F T) (some ⟨B2, 0, none⟩) (17 + n) c2 st rfl HSL.out (HR2.out.below (bal brf _)) (by omega) (by first | exact (bal brf _).size | (simp; done) | (have := (bal brf _).size; omega)) ?_; intro v20 w20 hown20 hgrow20; rw [app_nums] at hown20; have hb20 : Below w2.heap.size w2 w20 := keep_below0 (own_new2 w2 F T) hgrow20 (bal brf _) (by first | exact (bal brf _).size | (simp; done)) (Nat.le_refl _); obtain ⟨A20, c20, rfl⟩ := own_slice hown20; have HBOX := Lib.hid (HB9.out.below hb20); obtain ⟨s0, b0, b1, b2, b3, b4, b5, b6, b7⟩ := HBOX.out; clear hgrow20)
    | (at_builtin; refine append_one rfl _ _ 22 rfl w2.heap.size 5 i0 (.int .u8 0) 1 Tryd.underlying22 hi hz0 hz1 hz2 rfl (.slice A20 (2 + (17 + n)) c20) (2 + (17 + n)) (nums .u8 ([F, T] ++ st)) rfl hown20 (.int .u8 K) 5 rfl rfl (by unfold maxLen; omega) (by omega) hb20.size ?_; intro v21 w21 hown21 hgrow21; rw [snoc_nums] at hown21; have hb21 : Below w2.heap.size w2 w21 := keep_below hown20 hgrow21 hb20 hb20.size (Nat.le_refl _); obtain ⟨A21, c21, rfl⟩ := own_slice hown21; have HBOX := Lib.hid (HB9.out.below hb21); obtain ⟨s0, b0, b1, b2, b3, b4, b5, b6, b7⟩ := HBOX.out; clear hgrow21)
    | (go_at_call 34; (with_reducible refine (CQ _).mono ?_); rintro e w22 ⟨B22, c22, rfl, hc22, hownm22, hbm22⟩; have hown22 := own_below hown21 hbm22; have hb22 := bgo hb21 hbm22; have HBOX := Lib.hid (HB9.out.below hb22); obtain ⟨s0, b0, b1, b2, b3, b4, b5, b6, b7⟩ := HBOX.out; have HR3 := Lib.hid (Rd.of_own hownm22); clear hownm22)
    | (at_builtin; refine append_rd rfl _ _ rfl w2.heap.size (.slice A21 (2 + (17 + n) + 1) c21) (2 + (17 + n) + 1) (nums .u8 ([F, T] ++ st ++ [K])) rfl hown22 (some ⟨B22, 0, none⟩) (4) c22 lQ rfl HLQ.out HR3.out (by omega) (by first | exact hb22.size | (simp; done) | (have := hb22.size; omega)) ?_; intro v23 w23 hown23 hgrow23; rw [app_nums] at hown23; have hb23 : Below w2.heap.size w2 w23 := keep_below0 hown22 hgrow23 hb22 (by first | exact hb22.size | (simp; done)) (Nat.le_refl _); obtain ⟨A23, c23, rfl⟩ := own_slice hown23; have HBOX := Lib.hid (HB9.out.below hb23); obtain ⟨s0, b0, b1, b2, b3, b4, b5, b6, b7⟩ := HBOX.out; clear hgrow23)
    | (go_at_call 34; (with_reducible refine (CL _).mono ?_); rintro e w24 ⟨B24, c24, rfl, hc24, hownm24, hbm24⟩; have hown24 := own_below hown23 hbm24; have hb24 := bgo hb23 hbm24; have HBOX := Lib.hid (HB9.out.below hb24); obtain ⟨s0, b0, b1, b2, b3, b4, b5, b6, b7⟩ := HBOX.out; have HR4 := Lib.hid (Rd.of_own hownm24); clear hownm24)
    | (at_builtin; refine append_rd rfl _ _ rfl w2.heap.size (.slice A23 (2 + (17 + n) + 1 + 4) c23) (2 + (17 + n) + 1 + 4) (nums .u8 ([F, T] ++ st ++ [K] ++ lQ)) rfl hown24 (some ⟨B24, 0, none⟩) (4) c24 lL rfl HLL.out HR4.out (by omega) (by first | exact hb24.size | (simp; done) | (have := hb24.size; omega)) ?_; intro v25 w25 hown25 hgrow25; rw [app_nums] at hown25; have hb25 : Below w2.heap.size w2 w25 := keep_below0 hown24 hgrow25 hb24 (by first | exact hb24.size | (simp; done)) (Nat.le_refl _); obtain ⟨A25, c25, rfl⟩ := own_slice hown25; have HBOX := Lib.hid (HB9.out.below hb25); obtain ⟨s0, b0, b1, b2, b3, b4, b5, b6, b7⟩ := HBOX.out; clear hgrow25)
    | (at_builtin; refine append_rd rfl _ _ rfl w2.heap.size (.slice A25 (2 + (17 + n) + 1 + 4 + 4) c25) (2 + (17 + n) + 1 + 4 + 4) (nums .u8 ([F, T] ++ st ++ [K] ++ lQ ++ lL)) rfl hown25 D (l) dc bs rfl HBL.out (HB.out.below hb25) (by omega) (by first | exact hb25.size | (simp; done) | (have := hb25.size; omega)) ?_; intro v26 w26 hown26 hgrow26; rw [app_nums] at hown26; have hb26 : Below w2.heap.size w2 w26 := keep_below0 hown25 hgrow26 hb25 (by first | exact hb25.size | (simp; done)) (Nat.le_refl _); obtain ⟨A26, c26, rfl⟩ := own_slice hown26; have HBOX := Lib.hid (HB9.out.below hb26); obtain ⟨s0, b0, b1, b2, b3, b4, b5, b6, b7⟩ := HBOX.out; clear hgrow26)
    | (go_at_call 35; rw [← HIN.out] at hown26; (with_reducible refine (CT _ _ _ (HP.out.below hb26) (Rd.of_own hown26)).mono ?_); rintro e w27 ⟨B27, c27, het, hct, hlt, hrt, hbt⟩; rw [HTL.out] at het; subst het; have hown27 := own_below hown26 hbt; have hb27 := bgo hb26 hbt; have HRT := Lib.hid hrt; clear hrt)
    | (at_builtin; refine append_rd rfl _ _ rfl w2.heap.size (.slice A26 (2 + (17 + n) + 1 + 4 + 4 + l) c26) (2 + (17 + n) + 1 + 4 + 4 + l) (nums .u8 (inn)) rfl hown27 (some ⟨B27, 0, none⟩) (32) c27 tg rfl HTL.out HRT.out (by omega) (by first | exact hb27.size | (simp; done) | (have := hb27.size; omega)) ?_; intro v28 w28 hown28 hgrow28; rw [app_nums] at hown28; have hb28 : Below w2.heap.size w2 w28 := keep_below0 hown27 hgrow28 hb27 (by first | exact hb27.size | (simp; done)) (Nat.le_refl _); obtain ⟨A28, c28, rfl⟩ := own_slice hown28; clear hgrow28)
    | fail)
  go_ret2
  obtain ⟨g, cq, he, hcq, hrow, hgb, hgl, hlq⟩ := vrow_of_own hown28 (by omega)
  cases he
  have hlen : (inn ++ tg).length = 2 + (17 + n) + 1 + 4 + 4 + l + 32 := by rw [List.length_append, HIL.out, HTL.out]
  exact ⟨g, c28, by rw [hlen]; rfl, by rw [hlen]; exact hcq, by rw [hlen]; exact own_baseT hown28 HBX.size, bgo HBX hb28⟩

set_option maxHeartbeats 1000000 in
theorem rfPut_bad (P : Option Addr) (pn pc : Nat) (F T : Int) (ep ro : Int) (A : Option Addr) (n c : Nat) (xs : List Int) (K Q : Int) (D : Option Addr) (l dc : Nat) (w : World) (hn : xs.length = n) (hnc : n ≤ c) (hx : Rd w A (nums .i64 xs)) (hl : l ≤ 60000) (hg : ¬ goodF F T K Q xs l) :
    Calls Tryd.prog 17 #[.slice P pn pc, .agg #[.int .i64 F, .int .i64 T, .int .u64 ep, .int .u64 ro, .slice A n c, .int .i64 K, .int .i64 Q, .slice D l dc]] w fun e w' => e = .returned (.tuple #[.slice none 0 0, .int .i64 1]) ∧ Below w.heap.size w w' := by
  have CK := fun (W : World) h0 => rfCheck_bad F T ep ro A n c xs K Q D l dc W hn hnc h0 hl hg
  have HX := Lib.hid (hx.below (bal brf (.cells #[.int .i64 F, .int .i64 T, .int .u64 ep, .int .u64 ro, .slice A n c, .int .i64 K, .int .i64 Q, .slice D l dc] 30)))
  clear hx hn hg
  go_enter Tryd.func17, Tryd.ntmps17
  go_wp2_with (go_at_call 19; refine (CK _ HX.out).mono ?_; rintro e w1 ⟨rfl, hb1⟩)
  go_ret2
  exact ⟨rfl, bgo (bal brf _) hb1⟩
end Go.Proofs.YtmkmndgdakpojaaDoor
