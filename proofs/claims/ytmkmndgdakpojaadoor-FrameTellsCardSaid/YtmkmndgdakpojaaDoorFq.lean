/- FrameTells: the walk. -/
import Derived.Test.YtmkmndgdakpojaaDoorFm
namespace Go.Proofs.YtmkmndgdakpojaaDoor
open Go.RowKit Go.ChangeShapes Go.WideShapes Go.ChangeAt
set_option linter.unusedSimpArgs false
set_option linter.unusedVariables false
set_option maxRecDepth 100000

set_option maxHeartbeats 1000000 in
theorem frameTells_long1 (P : Option Addr) (pn pc : Nat) (F T : Int) (ep ro : Nat) (A : Option Addr) (n c : Nat) (K Q : Int) (D : Option Addr) (l dc : Nat) (F2 T2 : Int) (fp so : Nat) (B : Option Addr) (m d : Nat) (K2 Q2 : Int) (E : Option Addr) (l2 dc2 : Nat) (w : World) (hK : Konst w) (h : ¬ (pn ≤ 200 ∧ l ≤ 600 ∧ n ≤ 60)) : Calls Tryd.prog 7 #[.slice P pn pc, .agg #[.int .i64 F, .int .i64 T, .int .u64 (ep : Nat), .int .u64 (ro : Nat), .slice A n c, .int .i64 K, .int .i64 Q, .slice D l dc], .agg #[.int .i64 F2, .int .i64 T2, .int .u64 fp, .int .u64 so, .slice B m d, .int .i64 K2, .int .i64 Q2, .slice E l2 dc2]] w (Yes w) := by
  have hf := (frBox_new w F T ep ro (.slice A n c) K Q (.slice D l dc) 30).below (bal brf (.cells #[.int .i64 F2, .int .i64 T2, .int .u64 fp, .int .u64 so, .slice B m d, .int .i64 K2, .int .i64 Q2, .slice E l2 dc2] 30))
  have hg9 := frBox_new (w.alloc (.cells #[.int .i64 F, .int .i64 T, .int .u64 ep, .int .u64 ro, .slice A n c, .int .i64 K, .int .i64 Q, .slice D l dc] 30)) F2 T2 fp so (.slice B m d) K2 Q2 (.slice E l2 dc2) 30
  rw [World.size_alloc] at hg9
  have HF := Lib.hid hf
  have HG := Lib.hid hg9
  have HK := Lib.hid hK
  have HBX := Lib.hid (bal (bal (brf (w := w)) (.cells #[.int .i64 F, .int .i64 T, .int .u64 ep, .int .u64 ro, .slice A n c, .int .i64 K, .int .i64 Q, .slice D l dc] 30)) (.cells #[.int .i64 F2, .int .i64 T2, .int .u64 fp, .int .u64 so, .slice B m d, .int .i64 K2, .int .i64 Q2, .slice E l2 dc2] 30))
  clear hf hg9 hK
  go_enter Tryd.func7, Tryd.ntmps7
  go_wp2_with (first
    | (go_at_call 9; go_must (refine (live5_any _ (HK.out.go HBX.out)).mono ?_; rintro e w1 ⟨rfl, hb1⟩; have HBX := Lib.hid (bgo HBX.out hb1); have HF := Lib.hid (HF.out.below hb1); have HG := Lib.hid (HG.out.below hb1); obtain ⟨s0, a0, a1, a2, a3, a4, a5, a6, a7⟩ := HF.out; obtain ⟨t0, e0, e1, e2, e3, e4, e5, e6, e7⟩ := HG.out))
    | (go_at_call 10; first | ((with_reducible refine (few_no P pn pc F T ep ro A n c K Q D l dc none 0 0 _ (by omega)).mono ?_); rintro e w2 ⟨rfl, hb2⟩; have HBX := Lib.hid (bgo HBX.out hb2); have HF := Lib.hid (HF.out.below hb2); have HG := Lib.hid (HG.out.below hb2); obtain ⟨s0, a0, a1, a2, a3, a4, a5, a6, a7⟩ := HF.out; obtain ⟨t0, e0, e1, e2, e3, e4, e5, e6, e7⟩ := HG.out)))
  go_ret
  exact ⟨by simp, HBX.out⟩

set_option maxHeartbeats 1000000 in
theorem frameTells_long2 (P : Option Addr) (pn pc : Nat) (F T : Int) (ep ro : Nat) (A : Option Addr) (n c : Nat) (K Q : Int) (D : Option Addr) (l dc : Nat) (F2 T2 : Int) (fp so : Nat) (B : Option Addr) (m d : Nat) (K2 Q2 : Int) (E : Option Addr) (l2 dc2 : Nat) (w : World) (hK : Konst w) (h : pn ≤ 200 ∧ l ≤ 600 ∧ n ≤ 60) (h2 : ¬ (l2 ≤ 600 ∧ m ≤ 60)) : Calls Tryd.prog 7 #[.slice P pn pc, .agg #[.int .i64 F, .int .i64 T, .int .u64 (ep : Nat), .int .u64 (ro : Nat), .slice A n c, .int .i64 K, .int .i64 Q, .slice D l dc], .agg #[.int .i64 F2, .int .i64 T2, .int .u64 fp, .int .u64 so, .slice B m d, .int .i64 K2, .int .i64 Q2, .slice E l2 dc2]] w (Yes w) := by
  have hf := (frBox_new w F T ep ro (.slice A n c) K Q (.slice D l dc) 30).below (bal brf (.cells #[.int .i64 F2, .int .i64 T2, .int .u64 fp, .int .u64 so, .slice B m d, .int .i64 K2, .int .i64 Q2, .slice E l2 dc2] 30))
  have hg9 := frBox_new (w.alloc (.cells #[.int .i64 F, .int .i64 T, .int .u64 ep, .int .u64 ro, .slice A n c, .int .i64 K, .int .i64 Q, .slice D l dc] 30)) F2 T2 fp so (.slice B m d) K2 Q2 (.slice E l2 dc2) 30
  rw [World.size_alloc] at hg9
  have HF := Lib.hid hf
  have HG := Lib.hid hg9
  have HK := Lib.hid hK
  have HBX := Lib.hid (bal (bal (brf (w := w)) (.cells #[.int .i64 F, .int .i64 T, .int .u64 ep, .int .u64 ro, .slice A n c, .int .i64 K, .int .i64 Q, .slice D l dc] 30)) (.cells #[.int .i64 F2, .int .i64 T2, .int .u64 fp, .int .u64 so, .slice B m d, .int .i64 K2, .int .i64 Q2, .slice E l2 dc2] 30))
  clear hf hg9 hK
  go_enter Tryd.func7, Tryd.ntmps7
  go_wp2_with (first
    | (go_at_call 9; go_must (refine (live5_any _ (HK.out.go HBX.out)).mono ?_; rintro e w1 ⟨rfl, hb1⟩; have HBX := Lib.hid (bgo HBX.out hb1); have HF := Lib.hid (HF.out.below hb1); have HG := Lib.hid (HG.out.below hb1); obtain ⟨s0, a0, a1, a2, a3, a4, a5, a6, a7⟩ := HF.out; obtain ⟨t0, e0, e1, e2, e3, e4, e5, e6, e7⟩ := HG.out))
    | (go_at_call 10; first | ((with_reducible refine (few_yes P pn pc F T ep ro A n c K Q D l dc none 0 0 _ (by omega) (by omega) (by omega) (by omega)).mono ?_); rintro e w2 ⟨rfl, hb2⟩; have HBX := Lib.hid (bgo HBX.out hb2); have HF := Lib.hid (HF.out.below hb2); have HG := Lib.hid (HG.out.below hb2); obtain ⟨s0, a0, a1, a2, a3, a4, a5, a6, a7⟩ := HF.out; obtain ⟨t0, e0, e1, e2, e3, e4, e5, e6, e7⟩ := HG.out) | ((with_reducible refine (few_no none 0 0 F2 T2 fp so B m d K2 Q2 E l2 dc2 none 0 0 _ (by omega)).mono ?_); rintro e w3 ⟨rfl, hb3⟩; have HBX := Lib.hid (bgo HBX.out hb3); have HF := Lib.hid (HF.out.below hb3); have HG := Lib.hid (HG.out.below hb3); obtain ⟨s0, a0, a1, a2, a3, a4, a5, a6, a7⟩ := HF.out; obtain ⟨t0, e0, e1, e2, e3, e4, e5, e6, e7⟩ := HG.out)))
  go_ret
  exact ⟨by simp, HBX.out⟩

set_option maxHeartbeats 8000000 in
theorem frameTells_y (P : Option Addr) (pn pc : Nat) (F T : Int) (ep ro : Nat) (A : Option Addr) (n c : Nat) (K Q : Int) (D : Option Addr) (l dc : Nat) (F2 T2 : Int) (fp so : Nat) (B : Option Addr) (m d : Nat) (K2 Q2 : Int) (E : Option Addr) (l2 dc2 : Nat) (w : World) (hK : Konst w) (key xs ys bs bs2 : List Int) (h : pn ≤ 200 ∧ l ≤ 600 ∧ n ≤ 60) (h2 : l2 ≤ 600 ∧ m ≤ 60) (hp : key.length = pn) (hpx : Rd w P (nums .u8 key)) (hn : xs.length = n) (hnc : n ≤ c) (hx : Rd w A (nums .i64 xs)) (hep : ep < 18446744073709551616) (hro : ro < 18446744073709551616) (hl : bs.length = l) (hb : Rd w D (nums .u8 bs)) (hbb : Byt bs) (hm : ys.length = m) (hy : Rd w B (nums .i64 ys)) (hl2 : bs2.length = l2) (hb2 : Rd w E (nums .u8 bs2)) (hbb2 : Byt bs2) (hg : goodF F T K Q xs l) : Calls Tryd.prog 7 #[.slice P pn pc, .agg #[.int .i64 F, .int .i64 T, .int .u64 (ep : Nat), .int .u64 (ro : Nat), .slice A n c, .int .i64 K, .int .i64 Q, .slice D l dc], .agg #[.int .i64 F2, .int .i64 T2, .int .u64 fp, .int .u64 so, .slice B m d, .int .i64 K2, .int .i64 Q2, .slice E l2 dc2]] w (Yes w) := by
  obtain ⟨q, rfl⟩ := Int.eq_ofNat_of_zero_le hg.2.2.2.2.2.2.1
  have n6 : n ≤ maxLen := by unfold maxLen; omega
  have HCS := Lib.hid (fun (W : World) h0 h1 h2 h3 => fSame_any F T ep ro A n c xs K q D l dc bs F2 T2 fp so B m d ys K2 Q2 E l2 dc2 bs2 W hn h0 hm h1 n6 hl h2 hbb hl2 h3 hbb2)
  have HRS := Lib.hid (fun (W : World) h0 h1 h2 h3 => rfSame_any F T ep ro A n c xs K q D l dc bs F2 T2 fp so B m d ys K2 Q2 E l2 dc2 bs2 W hn h0 hm h1 n6 hl h2 hbb hl2 h3 hbb2)
  obtain ⟨sb, hsb⟩ : ∃ sb, sb = decide (F = F2 ∧ T = T2 ∧ ((ep : Int) = fp ∧ (ro : Int) = so ∧ xs = ys) ∧ K = K2 ∧ (q : Int) = Q2 ∧ bs = bs2) := ⟨_, rfl⟩
  rw [← hsb] at HCS HRS
  have HCK := Lib.hid (fun (W : World) h0 => fCheck_ok F T ep ro A n c xs K q D l dc W hn hnc h0 (by omega) hg)
  have HRK := Lib.hid (fun (W : World) h0 => rfCheck_ok F T ep ro A n c xs K q D l dc W hn hnc h0 (by omega) hg)
  have hl60 := frB_len key F T ep ro xs K q bs
  rw [hn, hl] at hl60
  have HCP := Lib.hid (fun (W : World) h0 h1 h2 h3 => fPut_any P pn pc key F T ep ro A n c xs K q D l dc bs W hp (by omega) h0 hn hnc h1 hl (by omega) h2 hep hro h3 hg)
  have HRP := Lib.hid (fun (W : World) h0 h1 h2 => rfPut_any P pn pc key F T ep ro A n c xs K q D l dc bs W hp (by omega) h0 hn hnc h1 hl (by omega) h2 hep hro hg)
  have HSB := Lib.hid (fun (B C : Option Addr) (c d : Nat) (W : World) h0 h1 => sameB_refl B C (60 + n + l) c d _ _ W hl60 hl60 rfl (frB_byt (by rw [hl]; exact hg) hbb) h0 h1)
  obtain ⟨fr, hfr⟩ : ∃ fr, fr = frB key F T ep ro xs K q bs := ⟨_, rfl⟩
  rw [← hfr] at HCP HRP HSB hl60
  have HL := Lib.hid hl60
  clear hl60 hfr
  have HP := Lib.hid hpx
  have HX := Lib.hid hx
  have HY := Lib.hid hy
  have HB := Lib.hid hb
  have HE := Lib.hid hb2
  have hf := (frBox_new w F T ep ro (.slice A n c) K q (.slice D l dc) 30).below (bal brf (.cells #[.int .i64 F2, .int .i64 T2, .int .u64 fp, .int .u64 so, .slice B m d, .int .i64 K2, .int .i64 Q2, .slice E l2 dc2] 30))
  have hg9 := frBox_new (w.alloc (.cells #[.int .i64 F, .int .i64 T, .int .u64 ep, .int .u64 ro, .slice A n c, .int .i64 K, .int .i64 q, .slice D l dc] 30)) F2 T2 fp so (.slice B m d) K2 Q2 (.slice E l2 dc2) 30
  rw [World.size_alloc] at hg9
  have HF := Lib.hid hf
  have HG := Lib.hid hg9
  have HK := Lib.hid hK
  have HBX := Lib.hid (bal (bal (brf (w := w)) (.cells #[.int .i64 F, .int .i64 T, .int .u64 ep, .int .u64 ro, .slice A n c, .int .i64 K, .int .i64 q, .slice D l dc] 30)) (.cells #[.int .i64 F2, .int .i64 T2, .int .u64 fp, .int .u64 so, .slice B m d, .int .i64 K2, .int .i64 Q2, .slice E l2 dc2] 30))
  clear hf hg9 hK
  clear hp hpx hn hx hep hro hl hb hbb hm hy hl2 hb2 hbb2 hg hsb n6
  go_enter Tryd.func7, Tryd.ntmps7
  go_wp2_with (first
    | (go_at_call 9; go_must (refine (live5_any _ (HK.out.go HBX.out)).mono ?_; rintro e w1 ⟨rfl, hb1⟩; have HBX := Lib.hid (bgo HBX.out hb1); have HF := Lib.hid (HF.out.below hb1); have HG := Lib.hid (HG.out.below hb1); obtain ⟨s0, a0, a1, a2, a3, a4, a5, a6, a7⟩ := HF.out; obtain ⟨t0, e0, e1, e2, e3, e4, e5, e6, e7⟩ := HG.out))
    | (go_at_call 10; first | ((with_reducible refine (few_yes P pn pc F T ep ro A n c K q D l dc none 0 0 _ (by omega) (by omega) (by omega) (by omega)).mono ?_); rintro e w2 ⟨rfl, hb2⟩; have HBX := Lib.hid (bgo HBX.out hb2); have HF := Lib.hid (HF.out.below hb2); have HG := Lib.hid (HG.out.below hb2); obtain ⟨s0, a0, a1, a2, a3, a4, a5, a6, a7⟩ := HF.out; obtain ⟨t0, e0, e1, e2, e3, e4, e5, e6, e7⟩ := HG.out) | ((with_reducible refine (few_yes none 0 0 F2 T2 fp so B m d K2 Q2 E l2 dc2 none 0 0 _ (by omega) (by omega) (by omega) (by omega)).mono ?_); rintro e w3 ⟨rfl, hb3⟩; have HBX := Lib.hid (bgo HBX.out hb3); have HF := Lib.hid (HF.out.below hb3); have HG := Lib.hid (HG.out.below hb3); obtain ⟨s0, a0, a1, a2, a3, a4, a5, a6, a7⟩ := HF.out; obtain ⟨t0, e0, e1, e2, e3, e4, e5, e6, e7⟩ := HG.out))
    | (go_at_call 15; go_must ((refine (HCP.out _ (HP.out.below HBX.out) (HX.out.below HBX.out) (HB.out.below HBX.out) (HK.out.go HBX.out)).mono ?_); rintro e w4 ⟨B4, c4, he4, hc4, hown4, hb4⟩; rw [HL.out] at he4 hown4; subst he4; have HBX := Lib.hid (bgo HBX.out hb4); have HF := Lib.hid (HF.out.below hb4); have HG := Lib.hid (HG.out.below hb4); obtain ⟨s0, a0, a1, a2, a3, a4, a5, a6, a7⟩ := HF.out; obtain ⟨t0, e0, e1, e2, e3, e4, e5, e6, e7⟩ := HG.out; have HR4 := Lib.hid (Rd.of_own hown4); clear hown4))
    | (go_at_call 17; go_must ((refine (HRP.out _ (HP.out.below HBX.out) (HX.out.below HBX.out) (HB.out.below HBX.out)).mono ?_); rintro e w5 ⟨B5, c5, he5, hc5, hown5, hb5⟩; rw [HL.out] at he5 hown5; subst he5; have HBX := Lib.hid (bgo HBX.out hb5); have HF := Lib.hid (HF.out.below hb5); have HG := Lib.hid (HG.out.below hb5); obtain ⟨s0, a0, a1, a2, a3, a4, a5, a6, a7⟩ := HF.out; obtain ⟨t0, e0, e1, e2, e3, e4, e5, e6, e7⟩ := HG.out; have HR4 := Lib.hid (HR4.out.below hb5); have HR5 := Lib.hid (Rd.of_own hown5); clear hown5))
    | fail)
  have HXW := Lib.hid (HX.out.below HBX.out)
  have HYW := Lib.hid (HY.out.below HBX.out)
  have HBW := Lib.hid (HB.out.below HBX.out)
  have HEW := Lib.hid (HE.out.below HBX.out)
  have hS : Below w5.heap.size w5 w5.drew := bdr brf
  refine wp_region_held_drew (S := fun x => Below w5.heap.size w5 x) (by kernel_rfl) hS (fun hHeld => ?_)
  clear hHeld
  refine takeH (i := 0) (oi := ?oiu1) ?vu1 (by kernel_rfl) (by with_reducible exact hS) ?hiu1 ?hQu1 ?hyu1 ?_
  case hiu1 => simp only [List.getElem?_toArray, List.getElem?_cons_succ, List.getElem?_cons_zero]; rfl
  case hQu1 => exact fun _ _ _ h => h
  case hyu1 =>
    refine Or.inl ⟨by rfl, ?_⟩
    rintro W9 hSw
    obtain ⟨_, a0, a1, a2, a3, a4, a5, a6, a7⟩ := HF.out.below hSw; obtain ⟨_, e0, e1, e2, e3, e4, e5, e6, e7⟩ := HG.out.below hSw
    go_simp
    rfl
  try simp only [Act.put, List.setIfInBounds_toArray, List.set_cons_zero, List.set_cons_succ]
  refine takeH (i := 2) (oi := ?oiu2) ?vu2 (by kernel_rfl) (by with_reducible exact hS) ?hiu2 ?hQu2 ?hyu2 ?_
  case hiu2 => simp only [List.getElem?_toArray, List.getElem?_cons_succ, List.getElem?_cons_zero]; rfl
  case hQu2 => exact fun _ _ _ h => h
  case hyu2 =>
    refine Or.inl ⟨by rfl, ?_⟩
    rintro W9 hSw
    obtain ⟨_, a0, a1, a2, a3, a4, a5, a6, a7⟩ := HF.out.below hSw; obtain ⟨_, e0, e1, e2, e3, e4, e5, e6, e7⟩ := HG.out.below hSw
    go_simp
    rfl
  try simp only [Act.put, List.setIfInBounds_toArray, List.set_cons_zero, List.set_cons_succ]
  refine onlyH (i := 1) (oi := ?oiu3) (by kernel_rfl) ?hiu3 (fun K hK => ?_)
  case hiu3 => simp only [List.getElem?_toArray, List.getElem?_cons_succ, List.getElem?_cons_zero]; rfl
  go_simp
  refine (HCK.out _ (HXW.out.below hS)).mono ?_
  rintro e w' ⟨rfl, hb⟩
  have hS := bgo hS hb
  clear hb
  go_wp2_with fail
  refine hK.out _ _ (by with_reducible exact hS) (fun hHeld => ?_)
  clear hK K hHeld
  try simp only [Act.put, List.setIfInBounds_toArray, List.set_cons_zero, List.set_cons_succ]
  refine onlyH (i := 3) (oi := ?oiu4) (by kernel_rfl) ?hiu4 (fun K hK => ?_)
  case hiu4 => simp only [List.getElem?_toArray, List.getElem?_cons_succ, List.getElem?_cons_zero]; rfl
  go_simp
  refine (HRK.out _ (HXW.out.below hS)).mono ?_
  rintro e w' ⟨rfl, hb⟩
  have hS := bgo hS hb
  clear hb
  go_wp2_with fail
  refine hK.out _ _ (by with_reducible exact hS) (fun hHeld => ?_)
  clear hK K hHeld
  try simp only [Act.put, List.setIfInBounds_toArray, List.set_cons_zero, List.set_cons_succ]
  refine takeH (i := 4) (oi := ?oiu5) ?vu5 (by kernel_rfl) (by with_reducible exact hS) ?hiu5 ?hQu5 ?hyu5 ?_
  case hiu5 => simp only [List.getElem?_toArray, List.getElem?_cons_succ, List.getElem?_cons_zero]; rfl
  case hQu5 => exact fun _ _ _ h => h
  case hyu5 =>
    refine Or.inl ⟨by rfl, ?_⟩
    rintro W9 hSw
    obtain ⟨_, a0, a1, a2, a3, a4, a5, a6, a7⟩ := HF.out.below hSw; obtain ⟨_, e0, e1, e2, e3, e4, e5, e6, e7⟩ := HG.out.below hSw
    go_simp
    rfl
  try simp only [Act.put, List.setIfInBounds_toArray, List.set_cons_zero, List.set_cons_succ]
  refine takeH (i := 5) (oi := ?oiu6) ?vu6 (by kernel_rfl) (by with_reducible exact hS) ?hiu6 ?hQu6 ?hyu6 ?_
  case hiu6 => simp only [List.getElem?_toArray, List.getElem?_cons_succ, List.getElem?_cons_zero]; rfl
  case hQu6 => exact fun _ _ _ h => h
  case hyu6 =>
    refine Or.inl ⟨by rfl, ?_⟩
    rintro W9 hSw
    obtain ⟨_, a0, a1, a2, a3, a4, a5, a6, a7⟩ := HF.out.below hSw; obtain ⟨_, e0, e1, e2, e3, e4, e5, e6, e7⟩ := HG.out.below hSw
    go_simp
    rfl
  try simp only [Act.put, List.setIfInBounds_toArray, List.set_cons_zero, List.set_cons_succ]
  refine takeH (i := 6) (oi := ?oiu7) ?vu7 (by kernel_rfl) (by with_reducible exact hS) ?hiu7 ?hQu7 ?hyu7 ?_
  case hiu7 => simp only [List.getElem?_toArray, List.getElem?_cons_succ, List.getElem?_cons_zero]; rfl
  case hQu7 => exact fun _ _ _ h => h
  case hyu7 =>
    refine Or.inl ⟨by rfl, ?_⟩
    rintro W9 hSw
    obtain ⟨_, a0, a1, a2, a3, a4, a5, a6, a7⟩ := HF.out.below hSw; obtain ⟨_, e0, e1, e2, e3, e4, e5, e6, e7⟩ := HG.out.below hSw
    go_simp
    rfl
  try simp only [Act.put, List.setIfInBounds_toArray, List.set_cons_zero, List.set_cons_succ]
  refine takeH (i := 7) (oi := ?oiu8) ?vu8 (by kernel_rfl) (by with_reducible exact hS) ?hiu8 ?hQu8 ?hyu8 ?_
  case hiu8 => simp only [List.getElem?_toArray, List.getElem?_cons_succ, List.getElem?_cons_zero]; rfl
  case hQu8 => exact fun _ _ _ h => h
  case hyu8 =>
    refine Or.inl ⟨by rfl, ?_⟩
    rintro W9 hSw
    obtain ⟨_, a0, a1, a2, a3, a4, a5, a6, a7⟩ := HF.out.below hSw; obtain ⟨_, e0, e1, e2, e3, e4, e5, e6, e7⟩ := HG.out.below hSw
    go_simp
    rfl
  try simp only [Act.put, List.setIfInBounds_toArray, List.set_cons_zero, List.set_cons_succ]
  refine onlyH (i := 8) (oi := ?oiu9) (by kernel_rfl) ?hiu9 (fun K hK => ?_)
  case hiu9 => simp only [List.getElem?_toArray, List.getElem?_cons_succ, List.getElem?_cons_zero]; rfl
  go_simp
  refine (HSB.out _ _ _ _ _ (HR4.out.below hS) (HR5.out.below hS)).mono ?_
  rintro e w' ⟨rfl, rfl⟩
  go_wp2_with fail
  refine hK.out _ _ (by with_reducible exact hS) (fun hHeld => ?_)
  clear hK K hHeld
  try simp only [Act.put, List.setIfInBounds_toArray, List.set_cons_zero, List.set_cons_succ]
  refine takeH (i := 9) (oi := ?oiu10) ?vu10 (by kernel_rfl) (by with_reducible exact hS) ?hiu10 ?hQu10 ?hyu10 ?_
  case hiu10 => simp only [List.getElem?_toArray, List.getElem?_cons_succ, List.getElem?_cons_zero]; rfl
  case hQu10 => exact fun _ _ _ h => h
  case hyu10 =>
    refine Or.inl ⟨by rfl, ?_⟩
    rintro W9 hSw
    obtain ⟨_, a0, a1, a2, a3, a4, a5, a6, a7⟩ := HF.out.below hSw; obtain ⟨_, e0, e1, e2, e3, e4, e5, e6, e7⟩ := HG.out.below hSw
    go_simp
    rfl
  try simp only [Act.put, List.setIfInBounds_toArray, List.set_cons_zero, List.set_cons_succ]
  refine takeH (i := 10) (oi := ?oiu11) ?vu11 (by kernel_rfl) (by with_reducible exact hS) ?hiu11 ?hQu11 ?hyu11 ?_
  case hiu11 => simp only [List.getElem?_toArray, List.getElem?_cons_succ, List.getElem?_cons_zero]; rfl
  case hQu11 => exact fun _ _ _ h => h
  case hyu11 =>
    refine Or.inl ⟨by rfl, ?_⟩
    rintro W9 hSw
    obtain ⟨_, a0, a1, a2, a3, a4, a5, a6, a7⟩ := HF.out.below hSw; obtain ⟨_, e0, e1, e2, e3, e4, e5, e6, e7⟩ := HG.out.below hSw
    go_simp
    rfl
  try simp only [Act.put, List.setIfInBounds_toArray, List.set_cons_zero, List.set_cons_succ]
  refine takeH (i := 11) (oi := ?oiu12) ?vu12 (by kernel_rfl) (by with_reducible exact hS) ?hiu12 ?hQu12 ?hyu12 ?_
  case hiu12 => simp only [List.getElem?_toArray, List.getElem?_cons_succ, List.getElem?_cons_zero]; rfl
  case hQu12 => exact fun _ _ _ h => h
  case hyu12 =>
    refine Or.inl ⟨by rfl, ?_⟩
    rintro W9 hSw
    obtain ⟨_, a0, a1, a2, a3, a4, a5, a6, a7⟩ := HF.out.below hSw; obtain ⟨_, e0, e1, e2, e3, e4, e5, e6, e7⟩ := HG.out.below hSw
    go_simp
    rfl
  try simp only [Act.put, List.setIfInBounds_toArray, List.set_cons_zero, List.set_cons_succ]
  refine takeH (i := 12) (oi := ?oiu13) ?vu13 (by kernel_rfl) (by with_reducible exact hS) ?hiu13 ?hQu13 ?hyu13 ?_
  case hiu13 => simp only [List.getElem?_toArray, List.getElem?_cons_succ, List.getElem?_cons_zero]; rfl
  case hQu13 => exact fun _ _ _ h => h
  case hyu13 =>
    refine Or.inl ⟨by rfl, ?_⟩
    rintro W9 hSw
    obtain ⟨_, a0, a1, a2, a3, a4, a5, a6, a7⟩ := HF.out.below hSw; obtain ⟨_, e0, e1, e2, e3, e4, e5, e6, e7⟩ := HG.out.below hSw
    go_simp
    rfl
  try simp only [Act.put, List.setIfInBounds_toArray, List.set_cons_zero, List.set_cons_succ]
  refine takeH (i := 13) (oi := ?oiu14) ?vu14 (by kernel_rfl) (by with_reducible exact hS) ?hiu14 ?hQu14 ?hyu14 ?_
  case hiu14 => simp only [List.getElem?_toArray, List.getElem?_cons_succ, List.getElem?_cons_zero]; rfl
  case hQu14 => exact fun _ _ _ h => h
  case hyu14 =>
    refine Or.inl ⟨by rfl, ?_⟩
    rintro W9 hSw
    obtain ⟨_, a0, a1, a2, a3, a4, a5, a6, a7⟩ := HF.out.below hSw; obtain ⟨_, e0, e1, e2, e3, e4, e5, e6, e7⟩ := HG.out.below hSw
    go_simp
    rfl
  try simp only [Act.put, List.setIfInBounds_toArray, List.set_cons_zero, List.set_cons_succ]
  refine takeH (i := 14) (oi := ?oiu15) ?vu15 (by kernel_rfl) (by with_reducible exact hS) ?hiu15 ?hQu15 ?hyu15 ?_
  case hiu15 => simp only [List.getElem?_toArray, List.getElem?_cons_succ, List.getElem?_cons_zero]; rfl
  case hQu15 => exact fun _ _ _ h => h
  case hyu15 =>
    refine Or.inl ⟨by rfl, ?_⟩
    rintro W9 hSw
    obtain ⟨_, a0, a1, a2, a3, a4, a5, a6, a7⟩ := HF.out.below hSw; obtain ⟨_, e0, e1, e2, e3, e4, e5, e6, e7⟩ := HG.out.below hSw
    go_simp
    rfl
  try simp only [Act.put, List.setIfInBounds_toArray, List.set_cons_zero, List.set_cons_succ]
  refine takeH (i := 15) (oi := ?oiu16) ?vu16 (by kernel_rfl) (by with_reducible exact hS) ?hiu16 ?hQu16 ?hyu16 ?_
  case hiu16 => simp only [List.getElem?_toArray, List.getElem?_cons_succ, List.getElem?_cons_zero]; rfl
  case hQu16 => exact fun _ _ _ h => h
  case hyu16 =>
    refine Or.inl ⟨by rfl, ?_⟩
    rintro W9 hSw
    obtain ⟨_, a0, a1, a2, a3, a4, a5, a6, a7⟩ := HF.out.below hSw; obtain ⟨_, e0, e1, e2, e3, e4, e5, e6, e7⟩ := HG.out.below hSw
    go_simp
    rfl
  try simp only [Act.put, List.setIfInBounds_toArray, List.set_cons_zero, List.set_cons_succ]
  refine takeH (i := 16) (oi := ?oiu17) ?vu17 (by kernel_rfl) (by with_reducible exact hS) ?hiu17 ?hQu17 ?hyu17 ?_
  case hiu17 => simp only [List.getElem?_toArray, List.getElem?_cons_succ, List.getElem?_cons_zero]; rfl
  case hQu17 => exact fun _ _ _ h => h
  case hyu17 =>
    refine Or.inl ⟨by rfl, ?_⟩
    rintro W9 hSw
    obtain ⟨_, a0, a1, a2, a3, a4, a5, a6, a7⟩ := HF.out.below hSw; obtain ⟨_, e0, e1, e2, e3, e4, e5, e6, e7⟩ := HG.out.below hSw
    go_simp
    rfl
  try simp only [Act.put, List.setIfInBounds_toArray, List.set_cons_zero, List.set_cons_succ]
  refine takeH (i := 17) (oi := ?oiu18) ?vu18 (by kernel_rfl) (by with_reducible exact hS) ?hiu18 ?hQu18 ?hyu18 ?_
  case hiu18 => simp only [List.getElem?_toArray, List.getElem?_cons_succ, List.getElem?_cons_zero]; rfl
  case hQu18 => exact fun _ _ _ h => h
  case hyu18 =>
    refine Or.inl ⟨by rfl, ?_⟩
    rintro W9 hSw
    obtain ⟨_, a0, a1, a2, a3, a4, a5, a6, a7⟩ := HF.out.below hSw; obtain ⟨_, e0, e1, e2, e3, e4, e5, e6, e7⟩ := HG.out.below hSw
    go_simp
    rfl
  try simp only [Act.put, List.setIfInBounds_toArray, List.set_cons_zero, List.set_cons_succ]
  refine takeH (i := 19) (oi := ?oiu19) ?vu19 (by kernel_rfl) (by with_reducible exact hS) ?hiu19 ?hQu19 ?hyu19 ?_
  case hiu19 => simp only [List.getElem?_toArray, List.getElem?_cons_succ, List.getElem?_cons_zero]; rfl
  case hQu19 => exact fun _ _ _ h => h
  case hyu19 =>
    refine Or.inl ⟨by rfl, ?_⟩
    rintro W9 hSw
    obtain ⟨_, a0, a1, a2, a3, a4, a5, a6, a7⟩ := HF.out.below hSw; obtain ⟨_, e0, e1, e2, e3, e4, e5, e6, e7⟩ := HG.out.below hSw
    go_simp
    rfl
  try simp only [Act.put, List.setIfInBounds_toArray, List.set_cons_zero, List.set_cons_succ]
  refine takeH (i := 20) (oi := ?oiu20) ?vu20 (by kernel_rfl) (by with_reducible exact hS) ?hiu20 ?hQu20 ?hyu20 ?_
  case hiu20 => simp only [List.getElem?_toArray, List.getElem?_cons_succ, List.getElem?_cons_zero]; rfl
  case hQu20 => exact fun _ _ _ h => h
  case hyu20 =>
    refine Or.inl ⟨by rfl, ?_⟩
    rintro W9 hSw
    obtain ⟨_, a0, a1, a2, a3, a4, a5, a6, a7⟩ := HF.out.below hSw; obtain ⟨_, e0, e1, e2, e3, e4, e5, e6, e7⟩ := HG.out.below hSw
    go_simp
    rfl
  try simp only [Act.put, List.setIfInBounds_toArray, List.set_cons_zero, List.set_cons_succ]
  refine onlyH (i := 18) (oi := ?oiu21) (by kernel_rfl) ?hiu21 (fun K hK => ?_)
  case hiu21 => simp only [List.getElem?_toArray, List.getElem?_cons_succ, List.getElem?_cons_zero]; rfl
  go_simp
  refine (HCS.out _ (HXW.out.below hS) (HYW.out.below hS) (HBW.out.below hS) (HEW.out.below hS)).mono ?_
  rintro e w' ⟨rfl, hb⟩
  have hS := bgo hS hb
  clear hb
  go_wp2_with fail
  refine hK.out _ _ (by with_reducible exact hS) (fun hHeld => ?_)
  clear hK K hHeld
  try simp only [Act.put, List.setIfInBounds_toArray, List.set_cons_zero, List.set_cons_succ]
  refine onlyH (i := 21) (oi := ?oiu22) (by kernel_rfl) ?hiu22 (fun K hK => ?_)
  case hiu22 => simp only [List.getElem?_toArray, List.getElem?_cons_succ, List.getElem?_cons_zero]; rfl
  go_simp
  refine (HRS.out _ (HXW.out.below hS) (HYW.out.below hS) (HBW.out.below hS) (HEW.out.below hS)).mono ?_
  rintro e w' ⟨rfl, hb⟩
  have hS := bgo hS hb
  clear hb
  go_wp2_with fail
  refine hK.out _ _ (by with_reducible exact hS) (fun hHeld => ?_)
  clear hK K hHeld
  try simp only [Act.put, List.setIfInBounds_toArray, List.set_cons_zero, List.set_cons_succ]
  refine takeH (i := 22) (oi := ?oiu23) ?vu23 (by kernel_rfl) (by with_reducible exact hS) ?hiu23 ?hQu23 ?hyu23 ?_
  case hiu23 => simp only [List.getElem?_toArray, List.getElem?_cons_succ, List.getElem?_cons_zero]; rfl
  case hQu23 => exact fun _ _ _ h => h
  case hyu23 =>
    refine Or.inl ⟨by rfl, ?_⟩
    rintro W9 hSw
    obtain ⟨_, a0, a1, a2, a3, a4, a5, a6, a7⟩ := HF.out.below hSw; obtain ⟨_, e0, e1, e2, e3, e4, e5, e6, e7⟩ := HG.out.below hSw
    go_simp
    rfl
  try simp only [Act.put, List.setIfInBounds_toArray, List.set_cons_zero, List.set_cons_succ]
  refine takeH (i := 23) (oi := ?oiu24) ?vu24 (by kernel_rfl) (by with_reducible exact hS) ?hiu24 ?hQu24 ?hyu24 ?_
  case hiu24 => simp only [List.getElem?_toArray, List.getElem?_cons_succ, List.getElem?_cons_zero]; rfl
  case hQu24 => exact fun _ _ _ h => h
  case hyu24 =>
    refine Or.inl ⟨by rfl, ?_⟩
    rintro W9 hSw
    obtain ⟨_, a0, a1, a2, a3, a4, a5, a6, a7⟩ := HF.out.below hSw; obtain ⟨_, e0, e1, e2, e3, e4, e5, e6, e7⟩ := HG.out.below hSw
    go_simp
    rfl
  try simp only [Act.put, List.setIfInBounds_toArray, List.set_cons_zero, List.set_cons_succ]
  refine takeH (i := 24) (oi := ?oiu25) ?vu25 (by kernel_rfl) (by with_reducible exact hS) ?hiu25 ?hQu25 ?hyu25 ?_
  case hiu25 => simp only [List.getElem?_toArray, List.getElem?_cons_succ, List.getElem?_cons_zero]; rfl
  case hQu25 => exact fun _ _ _ h => h
  case hyu25 =>
    refine Or.inl ⟨by rfl, ?_⟩
    rintro W9 hSw
    obtain ⟨_, a0, a1, a2, a3, a4, a5, a6, a7⟩ := HF.out.below hSw; obtain ⟨_, e0, e1, e2, e3, e4, e5, e6, e7⟩ := HG.out.below hSw
    go_simp
    rfl
  try simp only [Act.put, List.setIfInBounds_toArray, List.set_cons_zero, List.set_cons_succ]
  refine wpAnyH_done (by kernel_rfl) ?_ _
  go_wp2_with fail
  go_ret
  exact ⟨by first | (simp; done) | (simp; omega), bgo HBX.out hS⟩

set_option maxHeartbeats 8000000 in
theorem frameTells_n (P : Option Addr) (pn pc : Nat) (F T : Int) (ep ro : Nat) (A : Option Addr) (n c : Nat) (K Q : Int) (D : Option Addr) (l dc : Nat) (F2 T2 : Int) (fp so : Nat) (B : Option Addr) (m d : Nat) (K2 Q2 : Int) (E : Option Addr) (l2 dc2 : Nat) (w : World) (hK : Konst w) (key xs ys bs bs2 : List Int) (h : pn ≤ 200 ∧ l ≤ 600 ∧ n ≤ 60) (h2 : l2 ≤ 600 ∧ m ≤ 60) (hp : key.length = pn) (hpx : Rd w P (nums .u8 key)) (hn : xs.length = n) (hnc : n ≤ c) (hx : Rd w A (nums .i64 xs)) (hep : ep < 18446744073709551616) (hro : ro < 18446744073709551616) (hl : bs.length = l) (hb : Rd w D (nums .u8 bs)) (hbb : Byt bs) (hm : ys.length = m) (hy : Rd w B (nums .i64 ys)) (hl2 : bs2.length = l2) (hb2 : Rd w E (nums .u8 bs2)) (hbb2 : Byt bs2) (hg : ¬ goodF F T K Q xs l) : Calls Tryd.prog 7 #[.slice P pn pc, .agg #[.int .i64 F, .int .i64 T, .int .u64 (ep : Nat), .int .u64 (ro : Nat), .slice A n c, .int .i64 K, .int .i64 Q, .slice D l dc], .agg #[.int .i64 F2, .int .i64 T2, .int .u64 fp, .int .u64 so, .slice B m d, .int .i64 K2, .int .i64 Q2, .slice E l2 dc2]] w (Yes w) := by
  have n6 : n ≤ maxLen := by unfold maxLen; omega
  have HCS := Lib.hid (fun (W : World) h0 h1 h2 h3 => fSame_any F T ep ro A n c xs K Q D l dc bs F2 T2 fp so B m d ys K2 Q2 E l2 dc2 bs2 W hn h0 hm h1 n6 hl h2 hbb hl2 h3 hbb2)
  have HRS := Lib.hid (fun (W : World) h0 h1 h2 h3 => rfSame_any F T ep ro A n c xs K Q D l dc bs F2 T2 fp so B m d ys K2 Q2 E l2 dc2 bs2 W hn h0 hm h1 n6 hl h2 hbb hl2 h3 hbb2)
  obtain ⟨sb, hsb⟩ : ∃ sb, sb = decide (F = F2 ∧ T = T2 ∧ ((ep : Int) = fp ∧ (ro : Int) = so ∧ xs = ys) ∧ K = K2 ∧ (Q : Int) = Q2 ∧ bs = bs2) := ⟨_, rfl⟩
  rw [← hsb] at HCS HRS
  have HCK := Lib.hid (fun (W : World) h0 => fCheck_bad F T ep ro A n c xs K Q D l dc W hn hnc h0 (by omega) hg)
  have HRK := Lib.hid (fun (W : World) h0 => rfCheck_bad F T ep ro A n c xs K Q D l dc W hn hnc h0 (by omega) hg)
  have HCP := Lib.hid (fun (W : World) h0 => fPut_bad P pn pc F T ep ro A n c xs K Q D l dc W hn hnc h0 (by omega) hg)
  have HRP := Lib.hid (fun (W : World) h0 => rfPut_bad P pn pc F T ep ro A n c xs K Q D l dc W hn hnc h0 (by omega) hg)
  have HSB := Lib.hid (fun (W : World) => sameB_refl none none 0 0 0 [] [] W rfl rfl rfl (fun x hx => by cases hx) (.inl rfl) (.inl rfl))
  have HP := Lib.hid hpx
  have HX := Lib.hid hx
  have HY := Lib.hid hy
  have HB := Lib.hid hb
  have HE := Lib.hid hb2
  have hf := (frBox_new w F T ep ro (.slice A n c) K Q (.slice D l dc) 30).below (bal brf (.cells #[.int .i64 F2, .int .i64 T2, .int .u64 fp, .int .u64 so, .slice B m d, .int .i64 K2, .int .i64 Q2, .slice E l2 dc2] 30))
  have hg9 := frBox_new (w.alloc (.cells #[.int .i64 F, .int .i64 T, .int .u64 ep, .int .u64 ro, .slice A n c, .int .i64 K, .int .i64 Q, .slice D l dc] 30)) F2 T2 fp so (.slice B m d) K2 Q2 (.slice E l2 dc2) 30
  rw [World.size_alloc] at hg9
  have HF := Lib.hid hf
  have HG := Lib.hid hg9
  have HK := Lib.hid hK
  have HBX := Lib.hid (bal (bal (brf (w := w)) (.cells #[.int .i64 F, .int .i64 T, .int .u64 ep, .int .u64 ro, .slice A n c, .int .i64 K, .int .i64 Q, .slice D l dc] 30)) (.cells #[.int .i64 F2, .int .i64 T2, .int .u64 fp, .int .u64 so, .slice B m d, .int .i64 K2, .int .i64 Q2, .slice E l2 dc2] 30))
  clear hf hg9 hK
  clear hp hpx hn hx hep hro hl hb hbb hm hy hl2 hb2 hbb2 hg hsb n6
  go_enter Tryd.func7, Tryd.ntmps7
  go_wp2_with (first
    | (go_at_call 9; go_must (refine (live5_any _ (HK.out.go HBX.out)).mono ?_; rintro e w1 ⟨rfl, hb1⟩; have HBX := Lib.hid (bgo HBX.out hb1); have HF := Lib.hid (HF.out.below hb1); have HG := Lib.hid (HG.out.below hb1); obtain ⟨s0, a0, a1, a2, a3, a4, a5, a6, a7⟩ := HF.out; obtain ⟨t0, e0, e1, e2, e3, e4, e5, e6, e7⟩ := HG.out))
    | (go_at_call 10; first | ((with_reducible refine (few_yes P pn pc F T ep ro A n c K Q D l dc none 0 0 _ (by omega) (by omega) (by omega) (by omega)).mono ?_); rintro e w2 ⟨rfl, hb2⟩; have HBX := Lib.hid (bgo HBX.out hb2); have HF := Lib.hid (HF.out.below hb2); have HG := Lib.hid (HG.out.below hb2); obtain ⟨s0, a0, a1, a2, a3, a4, a5, a6, a7⟩ := HF.out; obtain ⟨t0, e0, e1, e2, e3, e4, e5, e6, e7⟩ := HG.out) | ((with_reducible refine (few_yes none 0 0 F2 T2 fp so B m d K2 Q2 E l2 dc2 none 0 0 _ (by omega) (by omega) (by omega) (by omega)).mono ?_); rintro e w3 ⟨rfl, hb3⟩; have HBX := Lib.hid (bgo HBX.out hb3); have HF := Lib.hid (HF.out.below hb3); have HG := Lib.hid (HG.out.below hb3); obtain ⟨s0, a0, a1, a2, a3, a4, a5, a6, a7⟩ := HF.out; obtain ⟨t0, e0, e1, e2, e3, e4, e5, e6, e7⟩ := HG.out))
    | (go_at_call 15; go_must ((refine (HCP.out _ (HX.out.below HBX.out)).mono ?_); rintro e w4 ⟨rfl, hb4⟩; have HBX := Lib.hid (bgo HBX.out hb4); have HF := Lib.hid (HF.out.below hb4); have HG := Lib.hid (HG.out.below hb4); obtain ⟨s0, a0, a1, a2, a3, a4, a5, a6, a7⟩ := HF.out; obtain ⟨t0, e0, e1, e2, e3, e4, e5, e6, e7⟩ := HG.out))
    | (go_at_call 17; go_must ((refine (HRP.out _ (HX.out.below HBX.out)).mono ?_); rintro e w5 ⟨rfl, hb5⟩; have HBX := Lib.hid (bgo HBX.out hb5); have HF := Lib.hid (HF.out.below hb5); have HG := Lib.hid (HG.out.below hb5); obtain ⟨s0, a0, a1, a2, a3, a4, a5, a6, a7⟩ := HF.out; obtain ⟨t0, e0, e1, e2, e3, e4, e5, e6, e7⟩ := HG.out))
    | fail)
  have HXW := Lib.hid (HX.out.below HBX.out)
  have HYW := Lib.hid (HY.out.below HBX.out)
  have HBW := Lib.hid (HB.out.below HBX.out)
  have HEW := Lib.hid (HE.out.below HBX.out)
  have hS : Below w5.heap.size w5 w5.drew := bdr brf
  refine wp_region_held_drew (S := fun x => Below w5.heap.size w5 x) (by kernel_rfl) hS (fun hHeld => ?_)
  clear hHeld
  refine takeH (i := 0) (oi := ?oiu26) ?vu26 (by kernel_rfl) (by with_reducible exact hS) ?hiu26 ?hQu26 ?hyu26 ?_
  case hiu26 => simp only [List.getElem?_toArray, List.getElem?_cons_succ, List.getElem?_cons_zero]; rfl
  case hQu26 => exact fun _ _ _ h => h
  case hyu26 =>
    refine Or.inl ⟨by rfl, ?_⟩
    rintro W9 hSw
    obtain ⟨_, a0, a1, a2, a3, a4, a5, a6, a7⟩ := HF.out.below hSw; obtain ⟨_, e0, e1, e2, e3, e4, e5, e6, e7⟩ := HG.out.below hSw
    go_simp
    rfl
  try simp only [Act.put, List.setIfInBounds_toArray, List.set_cons_zero, List.set_cons_succ]
  refine takeH (i := 2) (oi := ?oiu27) ?vu27 (by kernel_rfl) (by with_reducible exact hS) ?hiu27 ?hQu27 ?hyu27 ?_
  case hiu27 => simp only [List.getElem?_toArray, List.getElem?_cons_succ, List.getElem?_cons_zero]; rfl
  case hQu27 => exact fun _ _ _ h => h
  case hyu27 =>
    refine Or.inl ⟨by rfl, ?_⟩
    rintro W9 hSw
    obtain ⟨_, a0, a1, a2, a3, a4, a5, a6, a7⟩ := HF.out.below hSw; obtain ⟨_, e0, e1, e2, e3, e4, e5, e6, e7⟩ := HG.out.below hSw
    go_simp
    rfl
  try simp only [Act.put, List.setIfInBounds_toArray, List.set_cons_zero, List.set_cons_succ]
  refine onlyH (i := 1) (oi := ?oiu28) (by kernel_rfl) ?hiu28 (fun K hK => ?_)
  case hiu28 => simp only [List.getElem?_toArray, List.getElem?_cons_succ, List.getElem?_cons_zero]; rfl
  go_simp
  refine (HCK.out _ (HXW.out.below hS)).mono ?_
  rintro e w' ⟨rfl, hb⟩
  have hS := bgo hS hb
  clear hb
  go_wp2_with fail
  refine hK.out _ _ (by with_reducible exact hS) (fun hHeld => ?_)
  clear hK K hHeld
  try simp only [Act.put, List.setIfInBounds_toArray, List.set_cons_zero, List.set_cons_succ]
  refine onlyH (i := 3) (oi := ?oiu29) (by kernel_rfl) ?hiu29 (fun K hK => ?_)
  case hiu29 => simp only [List.getElem?_toArray, List.getElem?_cons_succ, List.getElem?_cons_zero]; rfl
  go_simp
  refine (HRK.out _ (HXW.out.below hS)).mono ?_
  rintro e w' ⟨rfl, hb⟩
  have hS := bgo hS hb
  clear hb
  go_wp2_with fail
  refine hK.out _ _ (by with_reducible exact hS) (fun hHeld => ?_)
  clear hK K hHeld
  try simp only [Act.put, List.setIfInBounds_toArray, List.set_cons_zero, List.set_cons_succ]
  refine takeH (i := 4) (oi := ?oiu30) ?vu30 (by kernel_rfl) (by with_reducible exact hS) ?hiu30 ?hQu30 ?hyu30 ?_
  case hiu30 => simp only [List.getElem?_toArray, List.getElem?_cons_succ, List.getElem?_cons_zero]; rfl
  case hQu30 => exact fun _ _ _ h => h
  case hyu30 =>
    refine Or.inl ⟨by rfl, ?_⟩
    rintro W9 hSw
    obtain ⟨_, a0, a1, a2, a3, a4, a5, a6, a7⟩ := HF.out.below hSw; obtain ⟨_, e0, e1, e2, e3, e4, e5, e6, e7⟩ := HG.out.below hSw
    go_simp
    rfl
  try simp only [Act.put, List.setIfInBounds_toArray, List.set_cons_zero, List.set_cons_succ]
  refine takeH (i := 5) (oi := ?oiu31) ?vu31 (by kernel_rfl) (by with_reducible exact hS) ?hiu31 ?hQu31 ?hyu31 ?_
  case hiu31 => simp only [List.getElem?_toArray, List.getElem?_cons_succ, List.getElem?_cons_zero]; rfl
  case hQu31 => exact fun _ _ _ h => h
  case hyu31 =>
    refine Or.inl ⟨by rfl, ?_⟩
    rintro W9 hSw
    obtain ⟨_, a0, a1, a2, a3, a4, a5, a6, a7⟩ := HF.out.below hSw; obtain ⟨_, e0, e1, e2, e3, e4, e5, e6, e7⟩ := HG.out.below hSw
    go_simp
    rfl
  try simp only [Act.put, List.setIfInBounds_toArray, List.set_cons_zero, List.set_cons_succ]
  refine takeH (i := 6) (oi := ?oiu32) ?vu32 (by kernel_rfl) (by with_reducible exact hS) ?hiu32 ?hQu32 ?hyu32 ?_
  case hiu32 => simp only [List.getElem?_toArray, List.getElem?_cons_succ, List.getElem?_cons_zero]; rfl
  case hQu32 => exact fun _ _ _ h => h
  case hyu32 =>
    refine Or.inl ⟨by rfl, ?_⟩
    rintro W9 hSw
    obtain ⟨_, a0, a1, a2, a3, a4, a5, a6, a7⟩ := HF.out.below hSw; obtain ⟨_, e0, e1, e2, e3, e4, e5, e6, e7⟩ := HG.out.below hSw
    go_simp
    rfl
  try simp only [Act.put, List.setIfInBounds_toArray, List.set_cons_zero, List.set_cons_succ]
  refine takeH (i := 7) (oi := ?oiu33) ?vu33 (by kernel_rfl) (by with_reducible exact hS) ?hiu33 ?hQu33 ?hyu33 ?_
  case hiu33 => simp only [List.getElem?_toArray, List.getElem?_cons_succ, List.getElem?_cons_zero]; rfl
  case hQu33 => exact fun _ _ _ h => h
  case hyu33 =>
    refine Or.inl ⟨by rfl, ?_⟩
    rintro W9 hSw
    obtain ⟨_, a0, a1, a2, a3, a4, a5, a6, a7⟩ := HF.out.below hSw; obtain ⟨_, e0, e1, e2, e3, e4, e5, e6, e7⟩ := HG.out.below hSw
    go_simp
    rfl
  try simp only [Act.put, List.setIfInBounds_toArray, List.set_cons_zero, List.set_cons_succ]
  refine onlyH (i := 8) (oi := ?oiu34) (by kernel_rfl) ?hiu34 (fun K hK => ?_)
  case hiu34 => simp only [List.getElem?_toArray, List.getElem?_cons_succ, List.getElem?_cons_zero]; rfl
  go_simp
  refine (HSB.out _).mono ?_
  rintro e w' ⟨rfl, rfl⟩
  go_wp2_with fail
  refine hK.out _ _ (by with_reducible exact hS) (fun hHeld => ?_)
  clear hK K hHeld
  try simp only [Act.put, List.setIfInBounds_toArray, List.set_cons_zero, List.set_cons_succ]
  refine takeH (i := 9) (oi := ?oiu35) ?vu35 (by kernel_rfl) (by with_reducible exact hS) ?hiu35 ?hQu35 ?hyu35 ?_
  case hiu35 => simp only [List.getElem?_toArray, List.getElem?_cons_succ, List.getElem?_cons_zero]; rfl
  case hQu35 => exact fun _ _ _ h => h
  case hyu35 =>
    refine Or.inl ⟨by rfl, ?_⟩
    rintro W9 hSw
    obtain ⟨_, a0, a1, a2, a3, a4, a5, a6, a7⟩ := HF.out.below hSw; obtain ⟨_, e0, e1, e2, e3, e4, e5, e6, e7⟩ := HG.out.below hSw
    go_simp
    rfl
  try simp only [Act.put, List.setIfInBounds_toArray, List.set_cons_zero, List.set_cons_succ]
  refine takeH (i := 10) (oi := ?oiu36) ?vu36 (by kernel_rfl) (by with_reducible exact hS) ?hiu36 ?hQu36 ?hyu36 ?_
  case hiu36 => simp only [List.getElem?_toArray, List.getElem?_cons_succ, List.getElem?_cons_zero]; rfl
  case hQu36 => exact fun _ _ _ h => h
  case hyu36 =>
    refine Or.inl ⟨by rfl, ?_⟩
    rintro W9 hSw
    obtain ⟨_, a0, a1, a2, a3, a4, a5, a6, a7⟩ := HF.out.below hSw; obtain ⟨_, e0, e1, e2, e3, e4, e5, e6, e7⟩ := HG.out.below hSw
    go_simp
    rfl
  try simp only [Act.put, List.setIfInBounds_toArray, List.set_cons_zero, List.set_cons_succ]
  refine takeH (i := 11) (oi := ?oiu37) ?vu37 (by kernel_rfl) (by with_reducible exact hS) ?hiu37 ?hQu37 ?hyu37 ?_
  case hiu37 => simp only [List.getElem?_toArray, List.getElem?_cons_succ, List.getElem?_cons_zero]; rfl
  case hQu37 => exact fun _ _ _ h => h
  case hyu37 =>
    refine Or.inl ⟨by rfl, ?_⟩
    rintro W9 hSw
    obtain ⟨_, a0, a1, a2, a3, a4, a5, a6, a7⟩ := HF.out.below hSw; obtain ⟨_, e0, e1, e2, e3, e4, e5, e6, e7⟩ := HG.out.below hSw
    go_simp
    rfl
  try simp only [Act.put, List.setIfInBounds_toArray, List.set_cons_zero, List.set_cons_succ]
  refine takeH (i := 12) (oi := ?oiu38) ?vu38 (by kernel_rfl) (by with_reducible exact hS) ?hiu38 ?hQu38 ?hyu38 ?_
  case hiu38 => simp only [List.getElem?_toArray, List.getElem?_cons_succ, List.getElem?_cons_zero]; rfl
  case hQu38 => exact fun _ _ _ h => h
  case hyu38 =>
    refine Or.inl ⟨by rfl, ?_⟩
    rintro W9 hSw
    obtain ⟨_, a0, a1, a2, a3, a4, a5, a6, a7⟩ := HF.out.below hSw; obtain ⟨_, e0, e1, e2, e3, e4, e5, e6, e7⟩ := HG.out.below hSw
    go_simp
    rfl
  try simp only [Act.put, List.setIfInBounds_toArray, List.set_cons_zero, List.set_cons_succ]
  refine takeH (i := 13) (oi := ?oiu39) ?vu39 (by kernel_rfl) (by with_reducible exact hS) ?hiu39 ?hQu39 ?hyu39 ?_
  case hiu39 => simp only [List.getElem?_toArray, List.getElem?_cons_succ, List.getElem?_cons_zero]; rfl
  case hQu39 => exact fun _ _ _ h => h
  case hyu39 =>
    refine Or.inl ⟨by rfl, ?_⟩
    rintro W9 hSw
    obtain ⟨_, a0, a1, a2, a3, a4, a5, a6, a7⟩ := HF.out.below hSw; obtain ⟨_, e0, e1, e2, e3, e4, e5, e6, e7⟩ := HG.out.below hSw
    go_simp
    rfl
  try simp only [Act.put, List.setIfInBounds_toArray, List.set_cons_zero, List.set_cons_succ]
  refine takeH (i := 14) (oi := ?oiu40) ?vu40 (by kernel_rfl) (by with_reducible exact hS) ?hiu40 ?hQu40 ?hyu40 ?_
  case hiu40 => simp only [List.getElem?_toArray, List.getElem?_cons_succ, List.getElem?_cons_zero]; rfl
  case hQu40 => exact fun _ _ _ h => h
  case hyu40 =>
    refine Or.inl ⟨by rfl, ?_⟩
    rintro W9 hSw
    obtain ⟨_, a0, a1, a2, a3, a4, a5, a6, a7⟩ := HF.out.below hSw; obtain ⟨_, e0, e1, e2, e3, e4, e5, e6, e7⟩ := HG.out.below hSw
    go_simp
    rfl
  try simp only [Act.put, List.setIfInBounds_toArray, List.set_cons_zero, List.set_cons_succ]
  refine takeH (i := 15) (oi := ?oiu41) ?vu41 (by kernel_rfl) (by with_reducible exact hS) ?hiu41 ?hQu41 ?hyu41 ?_
  case hiu41 => simp only [List.getElem?_toArray, List.getElem?_cons_succ, List.getElem?_cons_zero]; rfl
  case hQu41 => exact fun _ _ _ h => h
  case hyu41 =>
    refine Or.inl ⟨by rfl, ?_⟩
    rintro W9 hSw
    obtain ⟨_, a0, a1, a2, a3, a4, a5, a6, a7⟩ := HF.out.below hSw; obtain ⟨_, e0, e1, e2, e3, e4, e5, e6, e7⟩ := HG.out.below hSw
    go_simp
    rfl
  try simp only [Act.put, List.setIfInBounds_toArray, List.set_cons_zero, List.set_cons_succ]
  refine takeH (i := 16) (oi := ?oiu42) ?vu42 (by kernel_rfl) (by with_reducible exact hS) ?hiu42 ?hQu42 ?hyu42 ?_
  case hiu42 => simp only [List.getElem?_toArray, List.getElem?_cons_succ, List.getElem?_cons_zero]; rfl
  case hQu42 => exact fun _ _ _ h => h
  case hyu42 =>
    refine Or.inl ⟨by rfl, ?_⟩
    rintro W9 hSw
    obtain ⟨_, a0, a1, a2, a3, a4, a5, a6, a7⟩ := HF.out.below hSw; obtain ⟨_, e0, e1, e2, e3, e4, e5, e6, e7⟩ := HG.out.below hSw
    go_simp
    rfl
  try simp only [Act.put, List.setIfInBounds_toArray, List.set_cons_zero, List.set_cons_succ]
  refine takeH (i := 17) (oi := ?oiu43) ?vu43 (by kernel_rfl) (by with_reducible exact hS) ?hiu43 ?hQu43 ?hyu43 ?_
  case hiu43 => simp only [List.getElem?_toArray, List.getElem?_cons_succ, List.getElem?_cons_zero]; rfl
  case hQu43 => exact fun _ _ _ h => h
  case hyu43 =>
    refine Or.inl ⟨by rfl, ?_⟩
    rintro W9 hSw
    obtain ⟨_, a0, a1, a2, a3, a4, a5, a6, a7⟩ := HF.out.below hSw; obtain ⟨_, e0, e1, e2, e3, e4, e5, e6, e7⟩ := HG.out.below hSw
    go_simp
    rfl
  try simp only [Act.put, List.setIfInBounds_toArray, List.set_cons_zero, List.set_cons_succ]
  refine takeH (i := 19) (oi := ?oiu44) ?vu44 (by kernel_rfl) (by with_reducible exact hS) ?hiu44 ?hQu44 ?hyu44 ?_
  case hiu44 => simp only [List.getElem?_toArray, List.getElem?_cons_succ, List.getElem?_cons_zero]; rfl
  case hQu44 => exact fun _ _ _ h => h
  case hyu44 =>
    refine Or.inl ⟨by rfl, ?_⟩
    rintro W9 hSw
    obtain ⟨_, a0, a1, a2, a3, a4, a5, a6, a7⟩ := HF.out.below hSw; obtain ⟨_, e0, e1, e2, e3, e4, e5, e6, e7⟩ := HG.out.below hSw
    go_simp
    rfl
  try simp only [Act.put, List.setIfInBounds_toArray, List.set_cons_zero, List.set_cons_succ]
  refine takeH (i := 20) (oi := ?oiu45) ?vu45 (by kernel_rfl) (by with_reducible exact hS) ?hiu45 ?hQu45 ?hyu45 ?_
  case hiu45 => simp only [List.getElem?_toArray, List.getElem?_cons_succ, List.getElem?_cons_zero]; rfl
  case hQu45 => exact fun _ _ _ h => h
  case hyu45 =>
    refine Or.inl ⟨by rfl, ?_⟩
    rintro W9 hSw
    obtain ⟨_, a0, a1, a2, a3, a4, a5, a6, a7⟩ := HF.out.below hSw; obtain ⟨_, e0, e1, e2, e3, e4, e5, e6, e7⟩ := HG.out.below hSw
    go_simp
    rfl
  try simp only [Act.put, List.setIfInBounds_toArray, List.set_cons_zero, List.set_cons_succ]
  refine onlyH (i := 18) (oi := ?oiu46) (by kernel_rfl) ?hiu46 (fun K hK => ?_)
  case hiu46 => simp only [List.getElem?_toArray, List.getElem?_cons_succ, List.getElem?_cons_zero]; rfl
  go_simp
  refine (HCS.out _ (HXW.out.below hS) (HYW.out.below hS) (HBW.out.below hS) (HEW.out.below hS)).mono ?_
  rintro e w' ⟨rfl, hb⟩
  have hS := bgo hS hb
  clear hb
  go_wp2_with fail
  refine hK.out _ _ (by with_reducible exact hS) (fun hHeld => ?_)
  clear hK K hHeld
  try simp only [Act.put, List.setIfInBounds_toArray, List.set_cons_zero, List.set_cons_succ]
  refine onlyH (i := 21) (oi := ?oiu47) (by kernel_rfl) ?hiu47 (fun K hK => ?_)
  case hiu47 => simp only [List.getElem?_toArray, List.getElem?_cons_succ, List.getElem?_cons_zero]; rfl
  go_simp
  refine (HRS.out _ (HXW.out.below hS) (HYW.out.below hS) (HBW.out.below hS) (HEW.out.below hS)).mono ?_
  rintro e w' ⟨rfl, hb⟩
  have hS := bgo hS hb
  clear hb
  go_wp2_with fail
  refine hK.out _ _ (by with_reducible exact hS) (fun hHeld => ?_)
  clear hK K hHeld
  try simp only [Act.put, List.setIfInBounds_toArray, List.set_cons_zero, List.set_cons_succ]
  refine takeH (i := 22) (oi := ?oiu48) ?vu48 (by kernel_rfl) (by with_reducible exact hS) ?hiu48 ?hQu48 ?hyu48 ?_
  case hiu48 => simp only [List.getElem?_toArray, List.getElem?_cons_succ, List.getElem?_cons_zero]; rfl
  case hQu48 => exact fun _ _ _ h => h
  case hyu48 =>
    refine Or.inl ⟨by rfl, ?_⟩
    rintro W9 hSw
    obtain ⟨_, a0, a1, a2, a3, a4, a5, a6, a7⟩ := HF.out.below hSw; obtain ⟨_, e0, e1, e2, e3, e4, e5, e6, e7⟩ := HG.out.below hSw
    go_simp
    rfl
  try simp only [Act.put, List.setIfInBounds_toArray, List.set_cons_zero, List.set_cons_succ]
  refine takeH (i := 23) (oi := ?oiu49) ?vu49 (by kernel_rfl) (by with_reducible exact hS) ?hiu49 ?hQu49 ?hyu49 ?_
  case hiu49 => simp only [List.getElem?_toArray, List.getElem?_cons_succ, List.getElem?_cons_zero]; rfl
  case hQu49 => exact fun _ _ _ h => h
  case hyu49 =>
    refine Or.inl ⟨by rfl, ?_⟩
    rintro W9 hSw
    obtain ⟨_, a0, a1, a2, a3, a4, a5, a6, a7⟩ := HF.out.below hSw; obtain ⟨_, e0, e1, e2, e3, e4, e5, e6, e7⟩ := HG.out.below hSw
    go_simp
    rfl
  try simp only [Act.put, List.setIfInBounds_toArray, List.set_cons_zero, List.set_cons_succ]
  refine takeH (i := 24) (oi := ?oiu50) ?vu50 (by kernel_rfl) (by with_reducible exact hS) ?hiu50 ?hQu50 ?hyu50 ?_
  case hiu50 => simp only [List.getElem?_toArray, List.getElem?_cons_succ, List.getElem?_cons_zero]; rfl
  case hQu50 => exact fun _ _ _ h => h
  case hyu50 =>
    refine Or.inl ⟨by rfl, ?_⟩
    rintro W9 hSw
    obtain ⟨_, a0, a1, a2, a3, a4, a5, a6, a7⟩ := HF.out.below hSw; obtain ⟨_, e0, e1, e2, e3, e4, e5, e6, e7⟩ := HG.out.below hSw
    go_simp
    rfl
  try simp only [Act.put, List.setIfInBounds_toArray, List.set_cons_zero, List.set_cons_succ]
  refine wpAnyH_done (by kernel_rfl) ?_ _
  go_wp2_with fail
  go_ret
  exact ⟨by first | (simp; done) | (simp; omega), bgo HBX.out hS⟩

set_option maxHeartbeats 1000000 in
open Go.Joins Go.Deep in
theorem frameTells_of {H : Type} {enc : TypeId × Value → H} (W : World) (base : Nat) (args : Array Value) (ds : List (DataW H)) (p : List MemPlace)
    (hval : ∀ (j : Nat) t v, Tryd.f7.params[j]? = some t → args[j]? = some v → Value.okWide Tryd.prog W .any base t v)
    (hA : DataW.TrodAll enc Tryd.prog W 0 (fun _ => true) true Tryd.f7.params.toList args.toList ds p) (hlt : ∀ x ∈ p, x.block < W.heap.size)
    (hz : (DataW.weightsEach Tryd.prog Tryd.f7.params.toList ds).all (· ≤ reachBytes) = true) (hK : Konst W) : Calls Tryd.prog 7 args W (Yes W) := by
  rw [Tryd.params7] at hA hval hz
  obtain ⟨v0, vs0, d0, ds0, p0, q0, hargs, rfl, rfl, h0, r0⟩ := trodAll_cons hA
  obtain ⟨v1, vs1, d1, ds1, p1, q1, rfl, rfl, rfl, h1, r1⟩ := trodAll_cons r0
  obtain ⟨v2, vs2, d2, ds2, p2, q2, rfl, rfl, rfl, h2, r2⟩ := trodAll_cons r1
  obtain ⟨rfl, rfl, rfl⟩ := trodAll_nil r2
  obtain rfl : args = #[v0, v1, v2] := by cases args; simp_all
  obtain ⟨P, pn, pc, key, rfl, p1, p2, p3, p4, p5⟩ := open_bytesT h0 (hval 0 _ _ rfl rfl)
  obtain ⟨F, T, ep, ro, A, n, c, xs, K, Q, D, l, dc, bs, rfl, a1, a2, a3, a4, a5, a6, a7, a8, a9⟩ := open_frame (hval 1 _ _ rfl rfl) h1
  obtain ⟨F2, T2, fp, so, B, m, d, ys, K2, Q2, E, l2, dc2, bs2, rfl, e1, e2, e3, e4, e5, e6, e7, e8, e9⟩ := open_frame (hval 2 _ _ rfl rfl) h2
  by_cases hs : pn ≤ 200 ∧ l ≤ 600 ∧ n ≤ 60
  · by_cases hs2 : l2 ≤ 600 ∧ m ≤ 60
    · by_cases hg : goodF F T K Q xs l
      · exact frameTells_y P pn pc F T ep ro A n c K Q D l dc F2 T2 fp so B m d K2 Q2 E l2 dc2 W hK key xs ys bs bs2 hs hs2 p3 p4 a2 a1 a3 a4 a5 a6 a8 a9 e2 e3 e6 e8 e9 hg
      · exact frameTells_n P pn pc F T ep ro A n c K Q D l dc F2 T2 fp so B m d K2 Q2 E l2 dc2 W hK key xs ys bs bs2 hs hs2 p3 p4 a2 a1 a3 a4 a5 a6 a8 a9 e2 e3 e6 e8 e9 hg
    · exact frameTells_long2 P pn pc F T ep ro A n c K Q D l dc F2 T2 fp so B m d K2 Q2 E l2 dc2 W hK hs hs2
  · exact frameTells_long1 P pn pc F T ep ro A n c K Q D l dc F2 T2 fp so B m d K2 Q2 E l2 dc2 W hK hs
end Go.Proofs.YtmkmndgdakpojaaDoor
