/- StampBack: the walk. -/
import Derived.Test.YtmkmndgdakpojaaTl
namespace Go.Proofs.Ytmkmndgdakpojaa
open Go.RowKit Go.ChangeShapes Go.WideShapes Go.ChangeAt
set_option linter.unusedSimpArgs false
set_option linter.unusedVariables false
set_option maxRecDepth 100000

theorem tk_put (ep ro : Nat) (xs ys : List Int) (A : Option Addr) (n m c : Nat) (W : World) (hn : xs.length = n) (hm : ys.length = m) (hg : goodSt xs) (hep : ep < 18446744073709551616) (hro : ro < 18446744073709551616) (hy : Byt ys) (hc : 17 + n + m ≤ c) (hcm : c ≤ maxLen) (hx : Rd W A (nums .u8 (stB ep ro xs ++ ys))) :
    Calls Try.prog 10 #[.slice A (17 + n + m) c] W fun e w' => ∃ A' c', e = .returned (.tuple #[.agg #[.int .u64 (ep : Int), .int .u64 (ro : Int), .slice A' n c'], .int .i64 (17 + (n : Int)), .int .i64 0]) ∧ n ≤ c' ∧ Rd w' A' (nums .i64 xs) ∧ Below W.heap.size W w' := by
  obtain ⟨p1, p2, p3, p4⟩ := stB_parts (xs := xs) (more := ys) hep hro
  refine (tk_yes W (by rw [List.length_append, stB_len]; omega) hc hcm hx (fun x hx => ?_) (stB_ok hg hep hro)).mono ?_
  · rcases List.mem_append.1 hx with h | h
    · exact stB_byt hg x h
    · exact hy x h
  · rintro e w' ⟨A', c', rfl, h1, h2, h3⟩
    rw [p1] at h1 h2
    rw [p4] at h2
    rw [p1, p2, p3, hn]
    rw [hn] at h1 h2
    exact ⟨A', c', rfl, h1, Rd.of_own h2, h3⟩
theorem stSame_refl (E R : Int) (A B : Option Addr) (n c d : Nat) (xs : List Int) (W : World) (hn : xs.length = n) (hlen : n ≤ maxLen) (hx : Rd W A (nums .i64 xs)) (hy : Rd W B (nums .i64 xs)) :
    Calls Try.prog 20 #[.agg #[.int .u64 E, .int .u64 R, .slice A n c], .agg #[.int .u64 E, .int .u64 R, .slice B n d]] W fun e w' => e = .returned (.bool true) ∧ Below W.heap.size W w' :=
  (stSame_any E R E R A B n c n d xs xs W hn hn hx hy hlen).mono fun e w' ⟨he, hb⟩ => ⟨by rw [he]; simp, hb⟩
theorem sameB_refl (A B : Option Addr) (n c d : Nat) (xs ys : List Int) (W : World) (hn : xs.length = n) (hm : ys.length = n) (e : xs = ys) (hb : Byt xs) (hx : Rd W A (nums .u8 xs)) (hy : Rd W B (nums .u8 ys)) :
    Calls Try.prog 21 #[.slice A n c, .slice B n d] W fun e w' => e = .returned (.bool true) ∧ W = w' := by
  subst e
  exact (same_any A B n c n d xs xs W hn hn hx hy hb hb).mono fun e w' ⟨he, hw⟩ => ⟨by rw [he]; simp, hw⟩

set_option maxHeartbeats 1000000 in
theorem stampBack_long (ep ro : Nat) (A : Option Addr) (n c : Nat) (M : Option Addr) (m cm : Nat) (Z : Option Addr) (l cz : Nat) (w : World) (h : ¬ (n ≤ 60 ∧ m ≤ 300 ∧ l ≤ 300)) :
    Calls Try.prog 7 #[.agg #[.int .u64 ep, .int .u64 ro, .slice A n c], .slice M m cm, .slice Z l cz] w (Yes w) := by
  have HBOX := Lib.hid (stBox_new w ep ro (.slice A n c) 27)
  by_cases h1 : n ≤ 60
  by_cases h2 : m ≤ 300
  have h3 : ¬ l ≤ 300 := fun h3 => h ⟨h1, h2, h3⟩
  all_goals
    clear h
    go_enter Try.func7, Try.ntmps7
    go_wp2_with (first
      | (go_at_call 9; refine (live4_any _).mono ?_; rintro e w1 ⟨rfl, hb1⟩; have HBOX := Lib.hid (HBOX.out.below hb1); obtain ⟨s1, k10, k11, k12⟩ := HBOX.out; have HBX := bgo (bal brf _) hb1)
      | (go_at_call 14; refine (short_any _ 1 _ [n] _ rfl (stRow1 _ _ _ _ _ _ _) (by omega)).mono ?_; rintro e w2 ⟨he, hb2⟩; (first | (rw [decide_eq_true (show ∀ x ∈ [n], x ≤ 60 by simp; omega)] at he; subst he) | (rw [decide_eq_false (show ¬ ∀ x ∈ [n], x ≤ 60 by simp; omega)] at he; subst he)); have HBX := bgo (bal HBX _) hb2))
    go_ret
    exact ⟨by simp, HBX⟩

set_option maxHeartbeats 2000000 in
theorem stampBack_yy (ep ro : Nat) (A : Option Addr) (n c : Nat) (xs : List Int) (M : Option Addr) (m cm : Nat) (ys : List Int) (Z : Option Addr) (l cz : Nat) (zs : List Int) (w : World) (hn : xs.length = n) (hx : Rd w A (nums .i64 xs)) (hep : ep < 18446744073709551616) (hro : ro < 18446744073709551616)
    (hm : ys.length = m) (hy : Rd w M (nums .u8 ys)) (hby : Byt ys) (hl : zs.length = l) (hz : Rd w Z (nums .u8 zs)) (hbz : Byt zs) (hcz : l ≤ cz) (hczm : cz ≤ maxLen) (h60 : n ≤ 60) (hm3 : m ≤ 300) (hl3 : l ≤ 300) (hg : goodSt xs) (ht : stOk zs) :
    Calls Try.prog 7 #[.agg #[.int .u64 ep, .int .u64 ro, .slice A n c], .slice M m cm, .slice Z l cz] w (Yes w) := by
  have HX := Lib.hid hx
  have HM := Lib.hid hy
  have HML := Lib.hid hm
  have HS : Hid (decide (∀ x ∈ [n], x ≤ 60) = true) := Lib.hid (by simp; omega)
  have HBOX := Lib.hid (stBox_new w ep ro (.slice A n c) 27)
  have CP := fun (W : World) h0 => stPut_any ep ro A n c xs W hn h0 hg hep hro
  have h8 : n ≤ 8 := by rw [← hn]; exact hg.2.1
  have hl7 := stB_len ep ro xs
  rw [hn] at hl7
  have CT1 := fun (A' : Option Addr) (c' : Nat) (W : World) (h1 : 17 + n + m ≤ c') (h2 : c' ≤ maxLen) h3 => tk_put ep ro xs ys A' n m c' W hn hm hg hep hro hby h1 h2 h3
  have CSM := fun (B : Option Addr) (d : Nat) (W : World) h0 h1 => stSame_refl ep ro A B n c d xs W hn (by unfold maxLen; omega) h0 h1
  obtain ⟨st, hst⟩ : ∃ st, st = stB ep ro xs := ⟨_, rfl⟩
  rw [← hst] at CP hl7 CT1
  have HL := Lib.hid hl7
  clear hst hl7
  have hz17 : 17 + tkM zs ≤ l := by rw [← hl]; exact ht.2.1
  obtain ⟨bz, oz, rfl, _, _⟩ := hz.at_ (by simp; omega)
  have HZ := Lib.hid hz
  have CT2 := fun (W : World) h0 => tk_yes (A := some ⟨bz, oz, none⟩) (c := cz) W hl hcz hczm h0 hbz ht
  have hX := tkX_len ht
  have CP2 := fun (B : Option Addr) (d : Nat) (W : World) h0 => stPut_any (tkE zs) (tkR zs) B (tkM zs) d (tkX zs) W hX h0 ht.2.2 (tkE_lt hbz) (tkR_lt hbz)
  have htl : (stB (tkE zs) (tkR zs) (tkX zs)).length = 17 + tkM zs := by rw [stB_len, hX]
  have CSB := fun (B : Option Addr) (d : Nat) (W : World) h0 h1 => sameB_refl B (some ⟨bz, oz, none⟩) (17 + tkM zs) d cz _ _ W htl (by rw [List.length_take]; omega) (stB_take_back ht hbz) (stB_byt ht.2.2) h0 h1
  have HTL := Lib.hid htl
  clear htl hX
  clear hx hn hep hro hm hy hby hl hz hbz hg ht
  go_enter Try.func7, Try.ntmps7
  go_wp2_with (first
    | (go_at_call 9; refine (live4_any _).mono ?_; rintro e w1 ⟨rfl, hb1⟩; have HX := Lib.hid (HX.out.below (bgo (bal brf _) hb1)); have HM := Lib.hid (HM.out.below (bgo (bal brf _) hb1)); have HZ := Lib.hid (HZ.out.below (bgo (bal brf _) hb1)); have HBOX := Lib.hid (HBOX.out.below hb1); obtain ⟨s1, k10, k11, k12⟩ := HBOX.out; have HBX := bgo (bal brf _) hb1)
    | (go_at_call 14; refine (short_any _ 1 _ [n] _ rfl (stRow1 _ _ _ _ _ _ _) (by omega)).mono ?_; rintro e w2 ⟨he, hb2⟩; rw [HS.out] at he; subst he; have hb2 := bgo (bal brf _) hb2; have HX := Lib.hid (HX.out.below hb2); have HM := Lib.hid (HM.out.below hb2); have HZ := Lib.hid (HZ.out.below hb2); have HBOX := Lib.hid (HBOX.out.below hb2); obtain ⟨s2, k20, k21, k22⟩ := HBOX.out; have HBX := bgo HBX hb2)
    | (go_at_call 13; (with_reducible refine (CP _ HX.out).mono ?_); rintro e w3 ⟨B3, c3, he, hc3, hown3, hb3⟩; rw [HL.out] at he hc3 hown3; subst he; have HX := Lib.hid (HX.out.below hb3); have HM := Lib.hid (HM.out.below hb3); have HZ := Lib.hid (HZ.out.below hb3); have HBOX := Lib.hid (HBOX.out.below hb3); obtain ⟨s3, k30, k31, k32⟩ := HBOX.out; have HBX := bgo HBX hb3; have HR3 := Lib.hid (Rd.of_own hown3); clear hown3)
    | (at_builtin; refine append_rd rfl _ _ rfl w3.heap.size (.slice none 0 0) 0 [] rfl (World.ownsRow_nil _ _ _ _) (some ⟨B3, 0, none⟩) (17 + n) c3 st rfl HL.out HR3.out (by omega) (Nat.le_refl _) ?_; intro v4 w4 hown4 hgrow4; rw [Nat.zero_add, List.nil_append] at hown4; have hb4 : Below w3.heap.size w3 w4 := keep_below0 (World.ownsRow_nil w3 w3.heap.size 5 1) hgrow4 brf (Nat.le_refl _) (Nat.le_refl _); obtain ⟨A4, c4, rfl⟩ := own_slice hown4; clear hgrow4)
    | (at_builtin; refine append_rd rfl _ _ rfl w3.heap.size (.slice A4 (17 + n) c4) (17 + n) (nums .u8 st) rfl hown4 M m cm ys rfl HML.out (HM.out.below hb4) (by omega) hb4.size ?_; intro v5 w5 hown5 hgrow5; have hb5 : Below w3.heap.size w3 w5 := keep_below0 hown4 hgrow5 hb4 hb4.size (Nat.le_refl _); have HX := Lib.hid (HX.out.below hb5); have HM := Lib.hid (HM.out.below hb5); have HZ := Lib.hid (HZ.out.below hb5); have HBOX := Lib.hid (HBOX.out.below hb5); obtain ⟨s5, k50, k51, k52⟩ := HBOX.out; have HBX := bgo HBX hb5; obtain ⟨A5, c5, rfl⟩ := own_slice hown5; have HOL := Lib.hid (And.intro (own_le hown5) (own_max hown5)); rw [← List.map_append] at hown5; have HR5 := Lib.hid (Rd.of_own hown5); clear hown4 hown5 hgrow5 hb4)
    | (go_at_call 10; (with_reducible refine (CT1 _ _ _ HOL.out.1 HOL.out.2 HR5.out).mono ?_); rintro e w6 ⟨A6, c6, rfl, hc6, hr6, hb6⟩; have HX := Lib.hid (HX.out.below hb6); have HM := Lib.hid (HM.out.below hb6); have HZ := Lib.hid (HZ.out.below hb6); have HBOX := Lib.hid (HBOX.out.below hb6); obtain ⟨s6, k60, k61, k62⟩ := HBOX.out; have HBX := bgo HBX hb6; have HR6 := Lib.hid hr6; clear hr6)
    | (go_at_call 20; (with_reducible refine (CSM _ _ _ (HX.out.below (bal brf _)) (HR6.out.below (bal brf _))).mono ?_); rintro e w7 ⟨rfl, hb7⟩; have hb7 := bgo (bal brf _) hb7; have HX := Lib.hid (HX.out.below hb7); have HM := Lib.hid (HM.out.below hb7); have HZ := Lib.hid (HZ.out.below hb7); have HBX := bgo HBX hb7)
    | (go_at_call 10; (with_reducible refine (CT2 _ HZ.out).mono ?_); rintro e w9 ⟨A9, c9, rfl, hc9, hown9, hb9⟩; have HBX := bgo HBX hb9; have HZ := Lib.hid (HZ.out.below hb9); have HR9 := Lib.hid (Rd.of_own hown9); clear hown9)
    | (go_at_call 13; (with_reducible refine (CP2 _ _ _ (HR9.out.below (bal brf _))).mono ?_); rintro e wa ⟨Ba, ca, he, hca, howna, hba⟩; rw [HTL.out] at he hca howna; subst he; have hba := bgo (bal brf _) hba; have HBX := bgo HBX hba; have HZ := Lib.hid (HZ.out.below hba); have HRa := Lib.hid (Rd.of_own howna); clear howna)
    | (go_at_call 21; (with_reducible refine (CSB _ _ _ HRa.out (HZ.out.take _)).mono ?_); rintro e wb ⟨rfl, rfl⟩))
  go_ret
  exact ⟨by simp, by first | exact HBX | exact bal HBX _⟩

set_option maxHeartbeats 2000000 in
theorem stampBack_yn (ep ro : Nat) (A : Option Addr) (n c : Nat) (xs : List Int) (M : Option Addr) (m cm : Nat) (ys : List Int) (Z : Option Addr) (l cz : Nat) (zs : List Int) (w : World) (hn : xs.length = n) (hx : Rd w A (nums .i64 xs)) (hep : ep < 18446744073709551616) (hro : ro < 18446744073709551616)
    (hm : ys.length = m) (hy : Rd w M (nums .u8 ys)) (hby : Byt ys) (hl : zs.length = l) (hz : Rd w Z (nums .u8 zs)) (hbz : Byt zs) (hcz : l ≤ cz) (hczm : cz ≤ maxLen) (h60 : n ≤ 60) (hm3 : m ≤ 300) (hl3 : l ≤ 300) (hg : goodSt xs) (ht : ¬ stOk zs) :
    Calls Try.prog 7 #[.agg #[.int .u64 ep, .int .u64 ro, .slice A n c], .slice M m cm, .slice Z l cz] w (Yes w) := by
  have HX := Lib.hid hx
  have HM := Lib.hid hy
  have HML := Lib.hid hm
  have HS : Hid (decide (∀ x ∈ [n], x ≤ 60) = true) := Lib.hid (by simp; omega)
  have HBOX := Lib.hid (stBox_new w ep ro (.slice A n c) 27)
  have CP := fun (W : World) h0 => stPut_any ep ro A n c xs W hn h0 hg hep hro
  have h8 : n ≤ 8 := by rw [← hn]; exact hg.2.1
  have hl7 := stB_len ep ro xs
  rw [hn] at hl7
  have CT1 := fun (A' : Option Addr) (c' : Nat) (W : World) (h1 : 17 + n + m ≤ c') (h2 : c' ≤ maxLen) h3 => tk_put ep ro xs ys A' n m c' W hn hm hg hep hro hby h1 h2 h3
  have CSM := fun (B : Option Addr) (d : Nat) (W : World) h0 h1 => stSame_refl ep ro A B n c d xs W hn (by unfold maxLen; omega) h0 h1
  obtain ⟨st, hst⟩ : ∃ st, st = stB ep ro xs := ⟨_, rfl⟩
  rw [← hst] at CP hl7 CT1
  have HL := Lib.hid hl7
  clear hst hl7
  have HZ := Lib.hid hz
  have CT2 := fun (W : World) h0 => tk_no (A := Z) (c := cz) W hl hcz hczm h0 hbz ht
  clear hx hn hep hro hm hy hby hl hz hbz hg ht
  go_enter Try.func7, Try.ntmps7
  go_wp2_with (first
    | (go_at_call 9; refine (live4_any _).mono ?_; rintro e w1 ⟨rfl, hb1⟩; have HX := Lib.hid (HX.out.below (bgo (bal brf _) hb1)); have HM := Lib.hid (HM.out.below (bgo (bal brf _) hb1)); have HZ := Lib.hid (HZ.out.below (bgo (bal brf _) hb1)); have HBOX := Lib.hid (HBOX.out.below hb1); obtain ⟨s1, k10, k11, k12⟩ := HBOX.out; have HBX := bgo (bal brf _) hb1)
    | (go_at_call 14; refine (short_any _ 1 _ [n] _ rfl (stRow1 _ _ _ _ _ _ _) (by omega)).mono ?_; rintro e w2 ⟨he, hb2⟩; rw [HS.out] at he; subst he; have hb2 := bgo (bal brf _) hb2; have HX := Lib.hid (HX.out.below hb2); have HM := Lib.hid (HM.out.below hb2); have HZ := Lib.hid (HZ.out.below hb2); have HBOX := Lib.hid (HBOX.out.below hb2); obtain ⟨s2, k20, k21, k22⟩ := HBOX.out; have HBX := bgo HBX hb2)
    | (go_at_call 13; (with_reducible refine (CP _ HX.out).mono ?_); rintro e w3 ⟨B3, c3, he, hc3, hown3, hb3⟩; rw [HL.out] at he hc3 hown3; subst he; have HX := Lib.hid (HX.out.below hb3); have HM := Lib.hid (HM.out.below hb3); have HZ := Lib.hid (HZ.out.below hb3); have HBOX := Lib.hid (HBOX.out.below hb3); obtain ⟨s3, k30, k31, k32⟩ := HBOX.out; have HBX := bgo HBX hb3; have HR3 := Lib.hid (Rd.of_own hown3); clear hown3)
    | (at_builtin; refine append_rd rfl _ _ rfl w3.heap.size (.slice none 0 0) 0 [] rfl (World.ownsRow_nil _ _ _ _) (some ⟨B3, 0, none⟩) (17 + n) c3 st rfl HL.out HR3.out (by omega) (Nat.le_refl _) ?_; intro v4 w4 hown4 hgrow4; rw [Nat.zero_add, List.nil_append] at hown4; have hb4 : Below w3.heap.size w3 w4 := keep_below0 (World.ownsRow_nil w3 w3.heap.size 5 1) hgrow4 brf (Nat.le_refl _) (Nat.le_refl _); obtain ⟨A4, c4, rfl⟩ := own_slice hown4; clear hgrow4)
    | (at_builtin; refine append_rd rfl _ _ rfl w3.heap.size (.slice A4 (17 + n) c4) (17 + n) (nums .u8 st) rfl hown4 M m cm ys rfl HML.out (HM.out.below hb4) (by omega) hb4.size ?_; intro v5 w5 hown5 hgrow5; have hb5 : Below w3.heap.size w3 w5 := keep_below0 hown4 hgrow5 hb4 hb4.size (Nat.le_refl _); have HX := Lib.hid (HX.out.below hb5); have HM := Lib.hid (HM.out.below hb5); have HZ := Lib.hid (HZ.out.below hb5); have HBOX := Lib.hid (HBOX.out.below hb5); obtain ⟨s5, k50, k51, k52⟩ := HBOX.out; have HBX := bgo HBX hb5; obtain ⟨A5, c5, rfl⟩ := own_slice hown5; have HOL := Lib.hid (And.intro (own_le hown5) (own_max hown5)); rw [← List.map_append] at hown5; have HR5 := Lib.hid (Rd.of_own hown5); clear hown4 hown5 hgrow5 hb4)
    | (go_at_call 10; (with_reducible refine (CT1 _ _ _ HOL.out.1 HOL.out.2 HR5.out).mono ?_); rintro e w6 ⟨A6, c6, rfl, hc6, hr6, hb6⟩; have HX := Lib.hid (HX.out.below hb6); have HM := Lib.hid (HM.out.below hb6); have HZ := Lib.hid (HZ.out.below hb6); have HBOX := Lib.hid (HBOX.out.below hb6); obtain ⟨s6, k60, k61, k62⟩ := HBOX.out; have HBX := bgo HBX hb6; have HR6 := Lib.hid hr6; clear hr6)
    | (go_at_call 20; (with_reducible refine (CSM _ _ _ (HX.out.below (bal brf _)) (HR6.out.below (bal brf _))).mono ?_); rintro e w7 ⟨rfl, hb7⟩; have hb7 := bgo (bal brf _) hb7; have HX := Lib.hid (HX.out.below hb7); have HM := Lib.hid (HM.out.below hb7); have HZ := Lib.hid (HZ.out.below hb7); have HBX := bgo HBX hb7)
    | (go_at_call 10; (with_reducible refine (CT2 _ HZ.out).mono ?_); rintro e w9 ⟨rfl, hb9⟩; have HBX := bgo HBX hb9))
  go_ret
  exact ⟨by simp, by first | exact HBX | exact bal HBX _⟩

set_option maxHeartbeats 2000000 in
theorem stampBack_ny (ep ro : Nat) (A : Option Addr) (n c : Nat) (xs : List Int) (M : Option Addr) (m cm : Nat) (ys : List Int) (Z : Option Addr) (l cz : Nat) (zs : List Int) (w : World) (hn : xs.length = n) (hx : Rd w A (nums .i64 xs)) (hep : ep < 18446744073709551616) (hro : ro < 18446744073709551616)
    (hm : ys.length = m) (hy : Rd w M (nums .u8 ys)) (hby : Byt ys) (hl : zs.length = l) (hz : Rd w Z (nums .u8 zs)) (hbz : Byt zs) (hcz : l ≤ cz) (hczm : cz ≤ maxLen) (h60 : n ≤ 60) (hm3 : m ≤ 300) (hl3 : l ≤ 300) (hg : ¬ goodSt xs) (ht : stOk zs) :
    Calls Try.prog 7 #[.agg #[.int .u64 ep, .int .u64 ro, .slice A n c], .slice M m cm, .slice Z l cz] w (Yes w) := by
  have HX := Lib.hid hx
  have HM := Lib.hid hy
  have HML := Lib.hid hm
  have HS : Hid (decide (∀ x ∈ [n], x ≤ 60) = true) := Lib.hid (by simp; omega)
  have HBOX := Lib.hid (stBox_new w ep ro (.slice A n c) 27)
  have CP := fun (W : World) h0 => stPut_bad ep ro A n c xs W hn h0 hg
  have CC := fun (W : World) h0 => stCheck_bad (ep := ep) (ro := ro) (A := A) (n := n) (c := c) W hn h0 hg
  have hz17 : 17 + tkM zs ≤ l := by rw [← hl]; exact ht.2.1
  obtain ⟨bz, oz, rfl, _, _⟩ := hz.at_ (by simp; omega)
  have HZ := Lib.hid hz
  have CT2 := fun (W : World) h0 => tk_yes (A := some ⟨bz, oz, none⟩) (c := cz) W hl hcz hczm h0 hbz ht
  have hX := tkX_len ht
  have CP2 := fun (B : Option Addr) (d : Nat) (W : World) h0 => stPut_any (tkE zs) (tkR zs) B (tkM zs) d (tkX zs) W hX h0 ht.2.2 (tkE_lt hbz) (tkR_lt hbz)
  have htl : (stB (tkE zs) (tkR zs) (tkX zs)).length = 17 + tkM zs := by rw [stB_len, hX]
  have CSB := fun (B : Option Addr) (d : Nat) (W : World) h0 h1 => sameB_refl B (some ⟨bz, oz, none⟩) (17 + tkM zs) d cz _ _ W htl (by rw [List.length_take]; omega) (stB_take_back ht hbz) (stB_byt ht.2.2) h0 h1
  have HTL := Lib.hid htl
  clear htl hX
  clear hx hn hep hro hm hy hby hl hz hbz hg ht
  go_enter Try.func7, Try.ntmps7
  go_wp2_with (first
    | (go_at_call 9; refine (live4_any _).mono ?_; rintro e w1 ⟨rfl, hb1⟩; have HX := Lib.hid (HX.out.below (bgo (bal brf _) hb1)); have HM := Lib.hid (HM.out.below (bgo (bal brf _) hb1)); have HZ := Lib.hid (HZ.out.below (bgo (bal brf _) hb1)); have HBOX := Lib.hid (HBOX.out.below hb1); obtain ⟨s1, k10, k11, k12⟩ := HBOX.out; have HBX := bgo (bal brf _) hb1)
    | (go_at_call 14; refine (short_any _ 1 _ [n] _ rfl (stRow1 _ _ _ _ _ _ _) (by omega)).mono ?_; rintro e w2 ⟨he, hb2⟩; rw [HS.out] at he; subst he; have hb2 := bgo (bal brf _) hb2; have HX := Lib.hid (HX.out.below hb2); have HM := Lib.hid (HM.out.below hb2); have HZ := Lib.hid (HZ.out.below hb2); have HBOX := Lib.hid (HBOX.out.below hb2); obtain ⟨s2, k20, k21, k22⟩ := HBOX.out; have HBX := bgo HBX hb2)
    | (go_at_call 13; (with_reducible refine (CP _ HX.out).mono ?_); rintro e w3 ⟨rfl, hb3⟩; have HX := Lib.hid (HX.out.below hb3); have HM := Lib.hid (HM.out.below hb3); have HZ := Lib.hid (HZ.out.below hb3); have HBOX := Lib.hid (HBOX.out.below hb3); obtain ⟨s3, k30, k31, k32⟩ := HBOX.out; have HBX := bgo HBX hb3)
    | (go_at_call 17; (with_reducible refine (CC _ HX.out).mono ?_); rintro e w7 ⟨rfl, hb7⟩; have HX := Lib.hid (HX.out.below hb7); have HM := Lib.hid (HM.out.below hb7); have HZ := Lib.hid (HZ.out.below hb7); have HBOX := Lib.hid (HBOX.out.below hb7); obtain ⟨s7, k70, k71, k72⟩ := HBOX.out; have HBX := bgo HBX hb7)
    | (go_at_call 10; (with_reducible refine (CT2 _ HZ.out).mono ?_); rintro e w9 ⟨A9, c9, rfl, hc9, hown9, hb9⟩; have HBX := bgo HBX hb9; have HZ := Lib.hid (HZ.out.below hb9); have HR9 := Lib.hid (Rd.of_own hown9); clear hown9)
    | (go_at_call 13; (with_reducible refine (CP2 _ _ _ (HR9.out.below (bal brf _))).mono ?_); rintro e wa ⟨Ba, ca, he, hca, howna, hba⟩; rw [HTL.out] at he hca howna; subst he; have hba := bgo (bal brf _) hba; have HBX := bgo HBX hba; have HZ := Lib.hid (HZ.out.below hba); have HRa := Lib.hid (Rd.of_own howna); clear howna)
    | (go_at_call 21; (with_reducible refine (CSB _ _ _ HRa.out (HZ.out.take _)).mono ?_); rintro e wb ⟨rfl, rfl⟩))
  go_ret
  exact ⟨by simp, by first | exact HBX | exact bal HBX _⟩

set_option maxHeartbeats 2000000 in
theorem stampBack_nn (ep ro : Nat) (A : Option Addr) (n c : Nat) (xs : List Int) (M : Option Addr) (m cm : Nat) (ys : List Int) (Z : Option Addr) (l cz : Nat) (zs : List Int) (w : World) (hn : xs.length = n) (hx : Rd w A (nums .i64 xs)) (hep : ep < 18446744073709551616) (hro : ro < 18446744073709551616)
    (hm : ys.length = m) (hy : Rd w M (nums .u8 ys)) (hby : Byt ys) (hl : zs.length = l) (hz : Rd w Z (nums .u8 zs)) (hbz : Byt zs) (hcz : l ≤ cz) (hczm : cz ≤ maxLen) (h60 : n ≤ 60) (hm3 : m ≤ 300) (hl3 : l ≤ 300) (hg : ¬ goodSt xs) (ht : ¬ stOk zs) :
    Calls Try.prog 7 #[.agg #[.int .u64 ep, .int .u64 ro, .slice A n c], .slice M m cm, .slice Z l cz] w (Yes w) := by
  have HX := Lib.hid hx
  have HM := Lib.hid hy
  have HML := Lib.hid hm
  have HS : Hid (decide (∀ x ∈ [n], x ≤ 60) = true) := Lib.hid (by simp; omega)
  have HBOX := Lib.hid (stBox_new w ep ro (.slice A n c) 27)
  have CP := fun (W : World) h0 => stPut_bad ep ro A n c xs W hn h0 hg
  have CC := fun (W : World) h0 => stCheck_bad (ep := ep) (ro := ro) (A := A) (n := n) (c := c) W hn h0 hg
  have HZ := Lib.hid hz
  have CT2 := fun (W : World) h0 => tk_no (A := Z) (c := cz) W hl hcz hczm h0 hbz ht
  clear hx hn hep hro hm hy hby hl hz hbz hg ht
  go_enter Try.func7, Try.ntmps7
  go_wp2_with (first
    | (go_at_call 9; refine (live4_any _).mono ?_; rintro e w1 ⟨rfl, hb1⟩; have HX := Lib.hid (HX.out.below (bgo (bal brf _) hb1)); have HM := Lib.hid (HM.out.below (bgo (bal brf _) hb1)); have HZ := Lib.hid (HZ.out.below (bgo (bal brf _) hb1)); have HBOX := Lib.hid (HBOX.out.below hb1); obtain ⟨s1, k10, k11, k12⟩ := HBOX.out; have HBX := bgo (bal brf _) hb1)
    | (go_at_call 14; refine (short_any _ 1 _ [n] _ rfl (stRow1 _ _ _ _ _ _ _) (by omega)).mono ?_; rintro e w2 ⟨he, hb2⟩; rw [HS.out] at he; subst he; have hb2 := bgo (bal brf _) hb2; have HX := Lib.hid (HX.out.below hb2); have HM := Lib.hid (HM.out.below hb2); have HZ := Lib.hid (HZ.out.below hb2); have HBOX := Lib.hid (HBOX.out.below hb2); obtain ⟨s2, k20, k21, k22⟩ := HBOX.out; have HBX := bgo HBX hb2)
    | (go_at_call 13; (with_reducible refine (CP _ HX.out).mono ?_); rintro e w3 ⟨rfl, hb3⟩; have HX := Lib.hid (HX.out.below hb3); have HM := Lib.hid (HM.out.below hb3); have HZ := Lib.hid (HZ.out.below hb3); have HBOX := Lib.hid (HBOX.out.below hb3); obtain ⟨s3, k30, k31, k32⟩ := HBOX.out; have HBX := bgo HBX hb3)
    | (go_at_call 17; (with_reducible refine (CC _ HX.out).mono ?_); rintro e w7 ⟨rfl, hb7⟩; have HX := Lib.hid (HX.out.below hb7); have HM := Lib.hid (HM.out.below hb7); have HZ := Lib.hid (HZ.out.below hb7); have HBOX := Lib.hid (HBOX.out.below hb7); obtain ⟨s7, k70, k71, k72⟩ := HBOX.out; have HBX := bgo HBX hb7)
    | (go_at_call 10; (with_reducible refine (CT2 _ HZ.out).mono ?_); rintro e w9 ⟨rfl, hb9⟩; have HBX := bgo HBX hb9))
  go_ret
  exact ⟨by simp, by first | exact HBX | exact bal HBX _⟩

open Go.Joins Go.Deep in
theorem stampBack_of {H : Type} {enc : TypeId × Value → H} (W : World) (base : Nat) (args : Array Value) (ds : List (DataW H)) (p : List MemPlace)
    (hval : ∀ (j : Nat) t v, Try.f7.params[j]? = some t → args[j]? = some v → Value.okWide Try.prog W .any base t v)
    (hA : DataW.TrodAll enc Try.prog W 0 (fun _ => true) true Try.f7.params.toList args.toList ds p) (hlt : ∀ x ∈ p, x.block < W.heap.size)
    (hz : (DataW.weightsEach Try.prog Try.f7.params.toList ds).all (· ≤ reachBytes) = true) : Calls Try.prog 7 args W (Yes W) := by
  rw [Try.params7] at hA hval hz
  obtain ⟨v0, vs0, d0, ds0, p0, q0, hargs, rfl, rfl, h0, r0⟩ := trodAll_cons hA
  obtain ⟨v1, vs1, d1, ds1, p1, q1, rfl, rfl, rfl, h1, r1⟩ := trodAll_cons r0
  obtain ⟨v2, vs2, d2, ds2, p2, q2, rfl, rfl, rfl, h2, r2⟩ := trodAll_cons r1
  obtain ⟨rfl, rfl, rfl⟩ := trodAll_nil r2
  obtain rfl : args = #[v0, v1, v2] := by cases args; simp_all
  obtain ⟨ep, ro, A, n, c, xs, rfl, g1, g2, g3, g4, g5, g6, g7⟩ := open_stamp (hval 0 _ _ rfl rfl) h0
  obtain ⟨M, m, cm, ys, rfl, a1, a2, a3, a4, a5⟩ := open_bytesT h1 (hval 1 _ _ rfl rfl)
  obtain ⟨Z, l, cz, zs, rfl, e1, e2, e3, e4, e5⟩ := open_bytesT h2 (hval 2 _ _ rfl rfl)
  by_cases hs : n ≤ 60 ∧ m ≤ 300 ∧ l ≤ 300
  · obtain ⟨q1, q2, q3⟩ := hs
    by_cases hg : goodSt xs <;> by_cases ht : stOk zs
    · exact stampBack_yy ep ro A n c xs M m cm ys Z l cz zs W g3 g4 g5 g6 a3 a4 a5 e3 e4 e5 e1 e2 q1 q2 q3 hg ht
    · exact stampBack_yn ep ro A n c xs M m cm ys Z l cz zs W g3 g4 g5 g6 a3 a4 a5 e3 e4 e5 e1 e2 q1 q2 q3 hg ht
    · exact stampBack_ny ep ro A n c xs M m cm ys Z l cz zs W g3 g4 g5 g6 a3 a4 a5 e3 e4 e5 e1 e2 q1 q2 q3 hg ht
    · exact stampBack_nn ep ro A n c xs M m cm ys Z l cz zs W g3 g4 g5 g6 a3 a4 a5 e3 e4 e5 e1 e2 q1 q2 q3 hg ht
  · exact stampBack_long ep ro A n c M m cm Z l cz W hs
end Go.Proofs.Ytmkmndgdakpojaa
