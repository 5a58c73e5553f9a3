/- StampBytes: the walk. -/
import Derived.Test.YtmkmndgdakpojaaTq
import Derived.Test.YtmkmndgdakpojaaTn
import Derived.Test.YtmkmndgdakpojaaTh
namespace Go.Proofs.Ytmkmndgdakpojaa
open Go.RowKit Go.ChangeShapes Go.WideShapes Go.ChangeAt
set_option linter.unusedSimpArgs false
set_option linter.unusedVariables false
set_option maxRecDepth 100000

theorem conv_str {A : Option Addr} {n c : Nat} {xs : List Int} {w : World} {s : ByteArray} (hx : Rd w A (nums .u8 xs)) (hn : xs.length = n) (hs : s = strOfNums xs) : (convert 22 9 (.slice A n c)).run Try.prog w = .ok (.string s) w := by
  obtain ⟨t, ht, h⟩ := conv_bytes (c := c) hx
  rw [hn] at h
  rw [hs, ← ht]
  exact h

set_option maxHeartbeats 1000000 in
theorem stampBytes_long (ep ro fp so : Nat) (A B : Option Addr) (n c m d : Nat) (w : World) (h : ¬ (n ≤ 60 ∧ m ≤ 60)) :
    Calls Try.prog 5 #[.agg #[.int .u64 ep, .int .u64 ro, .slice A n c], .agg #[.int .u64 fp, .int .u64 so, .slice B m d]] w (Yes w) := by
  have H6 := Lib.hid (st6_new w 27 ep ro fp so (.slice A n c) (.slice B m d))
  have HH : Hid (decide (∀ x ∈ [n, m], x ≤ 60) = false) := Lib.hid (by simp; omega)
  clear h
  go_enter Try.func5, Try.ntmps5
  go_wp2_with (first
    | (go_at_call 9; refine (live4_any _).mono ?_; rintro e w1 ⟨rfl, hb1⟩; obtain ⟨⟨a1, a2, a3⟩, b1, b2, b3⟩ := st6_below H6.out hb1; have HBX := bgo (bal (bal brf _) _) hb1)
    | (go_at_call 14; refine (short_any _ 2 _ [n, m] _ rfl (stRow2 _ _ _ _ _ _ _ _ _ _ _ _) (by omega)).mono ?_; rintro e w2 ⟨he, hb2⟩; rw [HH.out] at he; subst he; have HBX := bgo (bal HBX _) hb2))
  go_ret
  exact ⟨rfl, HBX⟩

set_option maxHeartbeats 4000000 in
theorem stampBytes_lt (ep ro fp so : Nat) (A B : Option Addr) (n c m d : Nat) (xs ys : List Int) (w : World) (hn : xs.length = n) (hx : Rd w A (nums .i64 xs)) (hep : ep < 18446744073709551616) (hro : ro < 18446744073709551616) (hfp : fp < 18446744073709551616) (hso : so < 18446744073709551616)
    (hm : ys.length = m) (hy : Rd w B (nums .i64 ys)) (h60 : n ≤ 60 ∧ m ≤ 60) (hg : goodSt xs) (hh : goodSt ys) (hz : cmpS ep ro fp so < 0) :
    Calls Try.prog 5 #[.agg #[.int .u64 ep, .int .u64 ro, .slice A n c], .agg #[.int .u64 fp, .int .u64 so, .slice B m d]] w (Yes w) := by
  have H6 := Lib.hid (st6_new w 27 ep ro fp so (.slice A n c) (.slice B m d))
  have HS : Hid (decide (∀ x ∈ [n, m], x ≤ 60) = true) := Lib.hid (by simp; omega)
  have HX := Lib.hid hx
  have HY := Lib.hid hy
  have hless := stB_less ep ro fp so xs ys hep hro hfp hso
  have hb1 := stB_byt (ep := ep) (ro := ro) hg
  have hb2 := stB_byt (ep := fp) (ro := so) hh
  have HCP := Lib.hid (fun (W : World) h0 => stPut_any ep ro A n c xs W hn h0 hg hep hro)
  have l1 := stB_len ep ro xs
  rw [hn] at l1
  obtain ⟨st, hst⟩ : ∃ st, st = stB ep ro xs := ⟨_, rfl⟩
  rw [← hst] at HCP l1 hless hb1
  have HL1 := Lib.hid l1
  clear l1 hst
  have HCQ := Lib.hid (fun (W : World) h0 => stPut_any fp so B m d ys W hm h0 hh hfp hso)
  have l2 := stB_len fp so ys
  rw [hm] at l2
  obtain ⟨tt, htt⟩ : ∃ tt, tt = stB fp so ys := ⟨_, rfl⟩
  rw [← htt] at HCQ l2 hless hb2
  have HL2 := Lib.hid l2
  clear l2 htt
  have HCM := Lib.hid (fun (W : World) => stCmp_any ep ro fp so (.slice A n c) (.slice B m d) W)
  obtain ⟨z, hzz⟩ : ∃ z, z = cmpS ep ro fp so := ⟨_, rfl⟩
  rw [← hzz] at HCM hz hless
  obtain ⟨s1, hs1⟩ : ∃ s, s = strOfNums st := ⟨_, rfl⟩
  obtain ⟨s2, hs2⟩ : ∃ s, s = strOfNums tt := ⟨_, rfl⟩
  have q0 : (z == 0) = false := by simp; omega
  have hlt : Op.bytesLess s1.toList s2.toList = true := by rw [less_str hs1 hs2 hb1 hb2]; exact hless.1 hz
  clear hless
  have HS1 := Lib.hid hs1
  have HS2 := Lib.hid hs2
  clear hs1 hs2 hzz hb1 hb2
  clear hx hy hn hm hg hh hep hro hfp hso
  go_enter Try.func5, Try.ntmps5
  go_wp2_with (first
    | (go_at_call 9; refine (live4_any _).mono ?_; rintro e w1 ⟨rfl, hb1⟩; have H6 := Lib.hid (st6_below H6.out hb1); obtain ⟨⟨a1, a2, a3⟩, b1, b2, b3⟩ := H6.out; have HBX := Lib.hid (bgo (bal (bal brf _) _) hb1))
    | (go_at_call 14; refine (short_any _ 2 _ [n, m] _ rfl (stRow2 _ _ _ _ _ _ _ _ _ _ _ _) (by omega)).mono ?_; rintro e w2 ⟨he, hb2⟩; rw [HS.out] at he; subst he; have hb2 := bgo (bal brf _) hb2; have H6 := Lib.hid (st6_below H6.out hb2); obtain ⟨⟨a1, a2, a3⟩, b1, b2, b3⟩ := H6.out; have HBX := Lib.hid (bgo HBX.out hb2))
    | (go_at_call 13; first
      | ((with_reducible refine (HCP.out _ (HX.out.below HBX.out)).mono ?_); rintro e w3 ⟨B3, c3, he, hc3, hown, hb3⟩; rw [HL1.out] at he hown; subst he; have H6 := Lib.hid (st6_below H6.out hb3); obtain ⟨⟨a1, a2, a3⟩, b1, b2, b3⟩ := H6.out; have HBX := Lib.hid (bgo HBX.out hb3); have HR3 := Lib.hid (Rd.of_own hown); clear hown)
      | ((with_reducible refine (HCQ.out _ (HY.out.below HBX.out)).mono ?_); rintro e w4 ⟨B4, c4, he, hc4, hown, hb4⟩; rw [HL2.out] at he hown; subst he; have H6 := Lib.hid (st6_below H6.out hb4); obtain ⟨⟨a1, a2, a3⟩, b1, b2, b3⟩ := H6.out; have HBX := Lib.hid (bgo HBX.out hb4); have HR3 := Lib.hid (HR3.out.below hb4); have HR4 := Lib.hid (Rd.of_own hown); clear hown))
    | fail)
  have hS : ST6B w4 w4.drew w.heap.size (w.heap.size + 1) ep ro (.slice A n c) fp so (.slice B m d) := ⟨bdr brf, H6.out⟩
  clear H6 a1 a2 a3 b1 b2 b3 HX HY HCP HCQ hb1 hb2 hb3 hb4
  refine wp_region_held_drew (S := fun x => ST6B w4 x w.heap.size (w.heap.size + 1) ep ro (.slice A n c) fp so (.slice B m d)) (by kernel_rfl) hS (fun hHeld => ?_)
  clear hHeld
  refine takeH (i := 0) (oi := ?oiu18) ?vu18 (by kernel_rfl) (by with_reducible exact hS) ?hiu18 ?hQu18 ?hyu18 ?_
  case hiu18 => simp only [List.getElem?_toArray, List.getElem?_cons_succ, List.getElem?_cons_zero]; rfl
  case hQu18 => exact fun _ _ _ h => h
  case hyu18 =>
    refine Or.inl ⟨by rfl, ?_⟩
    rintro W9 ⟨hbw, ⟨a1, a2, a3⟩, b1, b2, b3⟩
    go_simp
    rfl
  try simp only [Act.put, List.setIfInBounds_toArray, List.set_cons_zero, List.set_cons_succ]
  refine takeH (i := 1) (oi := ?oiu19) ?vu19 (by kernel_rfl) (by with_reducible exact hS) ?hiu19 ?hQu19 ?hyu19 ?_
  case hiu19 => simp only [List.getElem?_toArray, List.getElem?_cons_succ, List.getElem?_cons_zero]; rfl
  case hQu19 => exact fun _ _ _ h => h
  case hyu19 =>
    refine Or.inl ⟨by rfl, ?_⟩
    rintro W9 ⟨hbw, ⟨a1, a2, a3⟩, b1, b2, b3⟩
    go_simp
    rfl
  try simp only [Act.put, List.setIfInBounds_toArray, List.set_cons_zero, List.set_cons_succ]
  refine onlyH (i := 2) (oi := ?oiu20) (by kernel_rfl) ?hiu20 (fun K hK => ?_)
  case hiu20 => simp only [List.getElem?_toArray, List.getElem?_cons_succ, List.getElem?_cons_zero]; rfl
  go_simp
  refine (HCM.out _).mono ?_
  rintro e w' ⟨rfl, hb⟩
  have hS := st6B_below hS hb
  clear hb
  go_wp2_with fail
  refine hK.out _ _ (by with_reducible exact hS) (fun hHeld => ?_)
  clear hK K hHeld
  try simp only [Act.put, List.setIfInBounds_toArray, List.set_cons_zero, List.set_cons_succ]
  refine takeH (i := 3) (oi := ?oiu21) ?vu21 (by kernel_rfl) (by with_reducible exact hS) ?hiu21 ?hQu21 ?hyu21 ?_
  case hiu21 => simp only [List.getElem?_toArray, List.getElem?_cons_succ, List.getElem?_cons_zero]; rfl
  case hQu21 => exact fun _ _ _ h => h
  case hyu21 =>
    refine Or.inl ⟨by rfl, ?_⟩
    rintro W9 ⟨hbw, ⟨a1, a2, a3⟩, b1, b2, b3⟩
    go_simp
    rfl
  try simp only [Act.put, List.setIfInBounds_toArray, List.set_cons_zero, List.set_cons_succ]
  refine takeH (i := 4) (oi := ?oiu22) ?vu22 (by kernel_rfl) (by with_reducible exact hS) ?hiu22 ?hQu22 ?hyu22 ?_
  case hiu22 => simp only [List.getElem?_toArray, List.getElem?_cons_succ, List.getElem?_cons_zero]; rfl
  case hQu22 => exact fun _ _ _ h => h
  case hyu22 =>
    refine Or.inl ⟨by rfl, ?_⟩
    rintro W9 ⟨hbw, ⟨a1, a2, a3⟩, b1, b2, b3⟩
    go_simp
    rfl
  try simp only [Act.put, List.setIfInBounds_toArray, List.set_cons_zero, List.set_cons_succ]
  refine takeH (i := 5) (oi := ?oiu23) ?vu23 (by kernel_rfl) (by with_reducible exact hS) ?hiu23 ?hQu23 ?hyu23 ?_
  case hiu23 => simp only [List.getElem?_toArray, List.getElem?_cons_succ, List.getElem?_cons_zero]; rfl
  case hQu23 => exact fun _ _ _ h => h
  case hyu23 =>
    refine Or.inl ⟨by rfl, ?_⟩
    rintro W9 ⟨hbw, ⟨a1, a2, a3⟩, b1, b2, b3⟩
    go_simp
    rfl
  try simp only [Act.put, List.setIfInBounds_toArray, List.set_cons_zero, List.set_cons_succ]
  refine takeH (i := 6) (oi := ?oiu24) ?vu24 (by kernel_rfl) (by with_reducible exact hS) ?hiu24 ?hQu24 ?hyu24 ?_
  case hiu24 => simp only [List.getElem?_toArray, List.getElem?_cons_succ, List.getElem?_cons_zero]; rfl
  case hQu24 => exact fun _ _ _ h => h
  case hyu24 =>
    refine Or.inl ⟨by rfl, ?_⟩
    rintro W9 ⟨hbw, ⟨a1, a2, a3⟩, b1, b2, b3⟩
    have hrun := conv_str (c := c3) (HR3.out.below hbw) HL1.out HS1.out
    go_simp
    rfl
  try simp only [Act.put, List.setIfInBounds_toArray, List.set_cons_zero, List.set_cons_succ]
  refine takeH (i := 7) (oi := ?oiu25) ?vu25 (by kernel_rfl) (by with_reducible exact hS) ?hiu25 ?hQu25 ?hyu25 ?_
  case hiu25 => simp only [List.getElem?_toArray, List.getElem?_cons_succ, List.getElem?_cons_zero]; rfl
  case hQu25 => exact fun _ _ _ h => h
  case hyu25 =>
    refine Or.inl ⟨by rfl, ?_⟩
    rintro W9 ⟨hbw, ⟨a1, a2, a3⟩, b1, b2, b3⟩
    go_simp
    rfl
  try simp only [Act.put, List.setIfInBounds_toArray, List.set_cons_zero, List.set_cons_succ]
  refine takeH (i := 8) (oi := ?oiu26) ?vu26 (by kernel_rfl) (by with_reducible exact hS) ?hiu26 ?hQu26 ?hyu26 ?_
  case hiu26 => simp only [List.getElem?_toArray, List.getElem?_cons_succ, List.getElem?_cons_zero]; rfl
  case hQu26 => exact fun _ _ _ h => h
  case hyu26 =>
    refine Or.inl ⟨by rfl, ?_⟩
    rintro W9 ⟨hbw, ⟨a1, a2, a3⟩, b1, b2, b3⟩
    have hrun := conv_str (c := c4) (HR4.out.below hbw) HL2.out HS2.out
    go_simp
    rfl
  try simp only [Act.put, List.setIfInBounds_toArray, List.set_cons_zero, List.set_cons_succ]
  refine takeH (i := 9) (oi := ?oiu27) ?vu27 (by kernel_rfl) (by with_reducible exact hS) ?hiu27 ?hQu27 ?hyu27 ?_
  case hiu27 => simp only [List.getElem?_toArray, List.getElem?_cons_succ, List.getElem?_cons_zero]; rfl
  case hQu27 => exact fun _ _ _ h => h
  case hyu27 =>
    refine Or.inl ⟨by rfl, ?_⟩
    rintro W9 ⟨hbw, ⟨a1, a2, a3⟩, b1, b2, b3⟩
    go_simp
    rfl
  try simp only [Act.put, List.setIfInBounds_toArray, List.set_cons_zero, List.set_cons_succ]
  refine takeH (i := 10) (oi := ?oiu28) ?vu28 (by kernel_rfl) (by with_reducible exact hS) ?hiu28 ?hQu28 ?hyu28 ?_
  case hiu28 => simp only [List.getElem?_toArray, List.getElem?_cons_succ, List.getElem?_cons_zero]; rfl
  case hQu28 => exact fun _ _ _ h => h
  case hyu28 =>
    refine Or.inl ⟨by rfl, ?_⟩
    rintro W9 ⟨hbw, ⟨a1, a2, a3⟩, b1, b2, b3⟩
    go_simp
    rfl
  try simp only [Act.put, List.setIfInBounds_toArray, List.set_cons_zero, List.set_cons_succ]
  refine takeH (i := 11) (oi := ?oiu29) ?vu29 (by kernel_rfl) (by with_reducible exact hS) ?hiu29 ?hQu29 ?hyu29 ?_
  case hiu29 => simp only [List.getElem?_toArray, List.getElem?_cons_succ, List.getElem?_cons_zero]; rfl
  case hQu29 => exact fun _ _ _ h => h
  case hyu29 =>
    refine Or.inl ⟨by rfl, ?_⟩
    rintro W9 ⟨hbw, ⟨a1, a2, a3⟩, b1, b2, b3⟩
    go_simp
    rfl
  try simp only [Act.put, List.setIfInBounds_toArray, List.set_cons_zero, List.set_cons_succ]
  refine onlyH (i := 12) (oi := ?oiu30) (by kernel_rfl) ?hiu30 (fun K hK => ?_)
  case hiu30 => simp only [List.getElem?_toArray, List.getElem?_cons_succ, List.getElem?_cons_zero]; rfl
  go_simp
  refine (HCM.out _).mono ?_
  rintro e w' ⟨rfl, hb⟩
  have hS := st6B_below hS hb
  clear hb
  go_wp2_with fail
  refine hK.out _ _ (by with_reducible exact hS) (fun hHeld => ?_)
  clear hK K hHeld
  try simp only [Act.put, List.setIfInBounds_toArray, List.set_cons_zero, List.set_cons_succ]
  refine takeH (i := 13) (oi := ?oiu31) ?vu31 (by kernel_rfl) (by with_reducible exact hS) ?hiu31 ?hQu31 ?hyu31 ?_
  case hiu31 => simp only [List.getElem?_toArray, List.getElem?_cons_succ, List.getElem?_cons_zero]; rfl
  case hQu31 => exact fun _ _ _ h => h
  case hyu31 =>
    refine Or.inl ⟨by rfl, ?_⟩
    rintro W9 ⟨hbw, ⟨a1, a2, a3⟩, b1, b2, b3⟩
    go_simp
    rfl
  try simp only [Act.put, List.setIfInBounds_toArray, List.set_cons_zero, List.set_cons_succ]
  refine takeH (i := 14) (oi := ?oiu32) ?vu32 (by kernel_rfl) (by with_reducible exact hS) ?hiu32 ?hQu32 ?hyu32 ?_
  case hiu32 => simp only [List.getElem?_toArray, List.getElem?_cons_succ, List.getElem?_cons_zero]; rfl
  case hQu32 => exact fun _ _ _ h => h
  case hyu32 =>
    refine Or.inl ⟨by rfl, ?_⟩
    rintro W9 ⟨hbw, ⟨a1, a2, a3⟩, b1, b2, b3⟩
    go_simp
    rfl
  try simp only [Act.put, List.setIfInBounds_toArray, List.set_cons_zero, List.set_cons_succ]
  refine takeH (i := 15) (oi := ?oiu33) ?vu33 (by kernel_rfl) (by with_reducible exact hS) ?hiu33 ?hQu33 ?hyu33 ?_
  case hiu33 => simp only [List.getElem?_toArray, List.getElem?_cons_succ, List.getElem?_cons_zero]; rfl
  case hQu33 => exact fun _ _ _ h => h
  case hyu33 =>
    refine Or.inl ⟨by rfl, ?_⟩
    rintro W9 ⟨hbw, ⟨a1, a2, a3⟩, b1, b2, b3⟩
    go_simp
    rfl
  try simp only [Act.put, List.setIfInBounds_toArray, List.set_cons_zero, List.set_cons_succ]
  refine takeH (i := 16) (oi := ?oiu34) ?vu34 (by kernel_rfl) (by with_reducible exact hS) ?hiu34 ?hQu34 ?hyu34 ?_
  case hiu34 => simp only [List.getElem?_toArray, List.getElem?_cons_succ, List.getElem?_cons_zero]; rfl
  case hQu34 => exact fun _ _ _ h => h
  case hyu34 =>
    refine Or.inl ⟨by rfl, ?_⟩
    rintro W9 ⟨hbw, ⟨a1, a2, a3⟩, b1, b2, b3⟩
    go_simp
    rfl
  try simp only [Act.put, List.setIfInBounds_toArray, List.set_cons_zero, List.set_cons_succ]
  refine wpAnyH_done (by kernel_rfl) ?_ _
  go_wp2_with fail
  go_ret
  exact ⟨by first | (simp; done) | (simp; omega), bgo HBX.out hS.1⟩

set_option maxHeartbeats 4000000 in
theorem stampBytes_eq (ep ro fp so : Nat) (A B : Option Addr) (n c m d : Nat) (xs ys : List Int) (w : World) (hn : xs.length = n) (hx : Rd w A (nums .i64 xs)) (hep : ep < 18446744073709551616) (hro : ro < 18446744073709551616) (hfp : fp < 18446744073709551616) (hso : so < 18446744073709551616)
    (hm : ys.length = m) (hy : Rd w B (nums .i64 ys)) (h60 : n ≤ 60 ∧ m ≤ 60) (hg : goodSt xs) (hh : goodSt ys) (hz : cmpS ep ro fp so = 0) :
    Calls Try.prog 5 #[.agg #[.int .u64 ep, .int .u64 ro, .slice A n c], .agg #[.int .u64 fp, .int .u64 so, .slice B m d]] w (Yes w) := by
  have H6 := Lib.hid (st6_new w 27 ep ro fp so (.slice A n c) (.slice B m d))
  have HS : Hid (decide (∀ x ∈ [n, m], x ≤ 60) = true) := Lib.hid (by simp; omega)
  have HX := Lib.hid hx
  have HY := Lib.hid hy
  have hless := stB_less ep ro fp so xs ys hep hro hfp hso
  have hb1 := stB_byt (ep := ep) (ro := ro) hg
  have hb2 := stB_byt (ep := fp) (ro := so) hh
  have HCP := Lib.hid (fun (W : World) h0 => stPut_any ep ro A n c xs W hn h0 hg hep hro)
  have l1 := stB_len ep ro xs
  rw [hn] at l1
  obtain ⟨st, hst⟩ : ∃ st, st = stB ep ro xs := ⟨_, rfl⟩
  rw [← hst] at HCP l1 hless hb1
  have HL1 := Lib.hid l1
  clear l1 hst
  have HCQ := Lib.hid (fun (W : World) h0 => stPut_any fp so B m d ys W hm h0 hh hfp hso)
  have l2 := stB_len fp so ys
  rw [hm] at l2
  obtain ⟨tt, htt⟩ : ∃ tt, tt = stB fp so ys := ⟨_, rfl⟩
  rw [← htt] at HCQ l2 hless hb2
  have HL2 := Lib.hid l2
  clear l2 htt
  have HCM := Lib.hid (fun (W : World) => stCmp_any ep ro fp so (.slice A n c) (.slice B m d) W)
  obtain ⟨z, hzz⟩ : ∃ z, z = cmpS ep ro fp so := ⟨_, rfl⟩
  rw [← hzz] at HCM hz hless
  obtain ⟨s1, hs1⟩ : ∃ s, s = strOfNums st := ⟨_, rfl⟩
  obtain ⟨s2, hs2⟩ : ∃ s, s = strOfNums tt := ⟨_, rfl⟩
  have q0 : (z == 0) = true := by simp [hz]
  clear hless hz
  have HS1 := Lib.hid hs1
  have HS2 := Lib.hid hs2
  clear hs1 hs2 hzz hb1 hb2
  clear hx hy hn hm hg hh hep hro hfp hso
  go_enter Try.func5, Try.ntmps5
  go_wp2_with (first
    | (go_at_call 9; refine (live4_any _).mono ?_; rintro e w1 ⟨rfl, hb1⟩; have H6 := Lib.hid (st6_below H6.out hb1); obtain ⟨⟨a1, a2, a3⟩, b1, b2, b3⟩ := H6.out; have HBX := Lib.hid (bgo (bal (bal brf _) _) hb1))
    | (go_at_call 14; refine (short_any _ 2 _ [n, m] _ rfl (stRow2 _ _ _ _ _ _ _ _ _ _ _ _) (by omega)).mono ?_; rintro e w2 ⟨he, hb2⟩; rw [HS.out] at he; subst he; have hb2 := bgo (bal brf _) hb2; have H6 := Lib.hid (st6_below H6.out hb2); obtain ⟨⟨a1, a2, a3⟩, b1, b2, b3⟩ := H6.out; have HBX := Lib.hid (bgo HBX.out hb2))
    | (go_at_call 13; first
      | ((with_reducible refine (HCP.out _ (HX.out.below HBX.out)).mono ?_); rintro e w3 ⟨B3, c3, he, hc3, hown, hb3⟩; rw [HL1.out] at he hown; subst he; have H6 := Lib.hid (st6_below H6.out hb3); obtain ⟨⟨a1, a2, a3⟩, b1, b2, b3⟩ := H6.out; have HBX := Lib.hid (bgo HBX.out hb3); have HR3 := Lib.hid (Rd.of_own hown); clear hown)
      | ((with_reducible refine (HCQ.out _ (HY.out.below HBX.out)).mono ?_); rintro e w4 ⟨B4, c4, he, hc4, hown, hb4⟩; rw [HL2.out] at he hown; subst he; have H6 := Lib.hid (st6_below H6.out hb4); obtain ⟨⟨a1, a2, a3⟩, b1, b2, b3⟩ := H6.out; have HBX := Lib.hid (bgo HBX.out hb4); have HR3 := Lib.hid (HR3.out.below hb4); have HR4 := Lib.hid (Rd.of_own hown); clear hown))
    | fail)
  have hS : ST6B w4 w4.drew w.heap.size (w.heap.size + 1) ep ro (.slice A n c) fp so (.slice B m d) := ⟨bdr brf, H6.out⟩
  clear H6 a1 a2 a3 b1 b2 b3 HX HY HCP HCQ hb1 hb2 hb3 hb4
  refine wp_region_held_drew (S := fun x => ST6B w4 x w.heap.size (w.heap.size + 1) ep ro (.slice A n c) fp so (.slice B m d)) (by kernel_rfl) hS (fun hHeld => ?_)
  clear hHeld
  refine takeH (i := 0) (oi := ?oiu1) ?vu1 (by kernel_rfl) (by with_reducible exact hS) ?hiu1 ?hQu1 ?hyu1 ?_
  case hiu1 => simp only [List.getElem?_toArray, List.getElem?_cons_succ, List.getElem?_cons_zero]; rfl
  case hQu1 => exact fun _ _ _ h => h
  case hyu1 =>
    refine Or.inl ⟨by rfl, ?_⟩
    rintro W9 ⟨hbw, ⟨a1, a2, a3⟩, b1, b2, b3⟩
    go_simp
    rfl
  try simp only [Act.put, List.setIfInBounds_toArray, List.set_cons_zero, List.set_cons_succ]
  refine takeH (i := 1) (oi := ?oiu2) ?vu2 (by kernel_rfl) (by with_reducible exact hS) ?hiu2 ?hQu2 ?hyu2 ?_
  case hiu2 => simp only [List.getElem?_toArray, List.getElem?_cons_succ, List.getElem?_cons_zero]; rfl
  case hQu2 => exact fun _ _ _ h => h
  case hyu2 =>
    refine Or.inl ⟨by rfl, ?_⟩
    rintro W9 ⟨hbw, ⟨a1, a2, a3⟩, b1, b2, b3⟩
    go_simp
    rfl
  try simp only [Act.put, List.setIfInBounds_toArray, List.set_cons_zero, List.set_cons_succ]
  refine onlyH (i := 2) (oi := ?oiu3) (by kernel_rfl) ?hiu3 (fun K hK => ?_)
  case hiu3 => simp only [List.getElem?_toArray, List.getElem?_cons_succ, List.getElem?_cons_zero]; rfl
  go_simp
  refine (HCM.out _).mono ?_
  rintro e w' ⟨rfl, hb⟩
  have hS := st6B_below hS hb
  clear hb
  go_wp2_with fail
  refine hK.out _ _ (by with_reducible exact hS) (fun hHeld => ?_)
  clear hK K hHeld
  try simp only [Act.put, List.setIfInBounds_toArray, List.set_cons_zero, List.set_cons_succ]
  refine takeH (i := 3) (oi := ?oiu4) ?vu4 (by kernel_rfl) (by with_reducible exact hS) ?hiu4 ?hQu4 ?hyu4 ?_
  case hiu4 => simp only [List.getElem?_toArray, List.getElem?_cons_succ, List.getElem?_cons_zero]; rfl
  case hQu4 => exact fun _ _ _ h => h
  case hyu4 =>
    refine Or.inl ⟨by rfl, ?_⟩
    rintro W9 ⟨hbw, ⟨a1, a2, a3⟩, b1, b2, b3⟩
    go_simp
    rfl
  try simp only [Act.put, List.setIfInBounds_toArray, List.set_cons_zero, List.set_cons_succ]
  refine takeH (i := 4) (oi := ?oiu5) ?vu5 (by kernel_rfl) (by with_reducible exact hS) ?hiu5 ?hQu5 ?hyu5 ?_
  case hiu5 => simp only [List.getElem?_toArray, List.getElem?_cons_succ, List.getElem?_cons_zero]; rfl
  case hQu5 => exact fun _ _ _ h => h
  case hyu5 =>
    refine Or.inl ⟨by rfl, ?_⟩
    rintro W9 ⟨hbw, ⟨a1, a2, a3⟩, b1, b2, b3⟩
    go_simp
    rfl
  try simp only [Act.put, List.setIfInBounds_toArray, List.set_cons_zero, List.set_cons_succ]
  refine takeH (i := 5) (oi := ?oiu6) undef (by kernel_rfl) (by with_reducible exact hS) ?hiu6 ?hQu6 ?hyu6 ?_
  case hiu6 => simp only [List.getElem?_toArray, List.getElem?_cons_succ, List.getElem?_cons_zero]; rfl
  case hQu6 => exact fun _ _ _ h => h
  case hyu6 => exact Or.inr ⟨by rfl, rfl⟩
  try simp only [Act.put, List.setIfInBounds_toArray, List.set_cons_zero, List.set_cons_succ]
  refine takeH (i := 6) (oi := ?oiu7) undef (by kernel_rfl) (by with_reducible exact hS) ?hiu7 ?hQu7 ?hyu7 ?_
  case hiu7 => simp only [List.getElem?_toArray, List.getElem?_cons_succ, List.getElem?_cons_zero]; rfl
  case hQu7 => exact fun _ _ _ h => h
  case hyu7 => exact Or.inr ⟨by rfl, rfl⟩
  try simp only [Act.put, List.setIfInBounds_toArray, List.set_cons_zero, List.set_cons_succ]
  refine takeH (i := 7) (oi := ?oiu8) undef (by kernel_rfl) (by with_reducible exact hS) ?hiu8 ?hQu8 ?hyu8 ?_
  case hiu8 => simp only [List.getElem?_toArray, List.getElem?_cons_succ, List.getElem?_cons_zero]; rfl
  case hQu8 => exact fun _ _ _ h => h
  case hyu8 => exact Or.inr ⟨by rfl, rfl⟩
  try simp only [Act.put, List.setIfInBounds_toArray, List.set_cons_zero, List.set_cons_succ]
  refine takeH (i := 8) (oi := ?oiu9) undef (by kernel_rfl) (by with_reducible exact hS) ?hiu9 ?hQu9 ?hyu9 ?_
  case hiu9 => simp only [List.getElem?_toArray, List.getElem?_cons_succ, List.getElem?_cons_zero]; rfl
  case hQu9 => exact fun _ _ _ h => h
  case hyu9 => exact Or.inr ⟨by rfl, rfl⟩
  try simp only [Act.put, List.setIfInBounds_toArray, List.set_cons_zero, List.set_cons_succ]
  refine takeH (i := 9) (oi := ?oiu10) undef (by kernel_rfl) (by with_reducible exact hS) ?hiu10 ?hQu10 ?hyu10 ?_
  case hiu10 => simp only [List.getElem?_toArray, List.getElem?_cons_succ, List.getElem?_cons_zero]; rfl
  case hQu10 => exact fun _ _ _ h => h
  case hyu10 => exact Or.inr ⟨by rfl, rfl⟩
  try simp only [Act.put, List.setIfInBounds_toArray, List.set_cons_zero, List.set_cons_succ]
  refine takeH (i := 10) (oi := ?oiu11) undef (by kernel_rfl) (by with_reducible exact hS) ?hiu11 ?hQu11 ?hyu11 ?_
  case hiu11 => simp only [List.getElem?_toArray, List.getElem?_cons_succ, List.getElem?_cons_zero]; rfl
  case hQu11 => exact fun _ _ _ h => h
  case hyu11 => exact Or.inr ⟨by rfl, rfl⟩
  try simp only [Act.put, List.setIfInBounds_toArray, List.set_cons_zero, List.set_cons_succ]
  refine takeH (i := 11) (oi := ?oiu12) undef (by kernel_rfl) (by with_reducible exact hS) ?hiu12 ?hQu12 ?hyu12 ?_
  case hiu12 => simp only [List.getElem?_toArray, List.getElem?_cons_succ, List.getElem?_cons_zero]; rfl
  case hQu12 => exact fun _ _ _ h => h
  case hyu12 => exact Or.inr ⟨by rfl, rfl⟩
  try simp only [Act.put, List.setIfInBounds_toArray, List.set_cons_zero, List.set_cons_succ]
  refine takeH (i := 12) (oi := ?oiu13) undef (by kernel_rfl) (by with_reducible exact hS) ?hiu13 ?hQu13 ?hyu13 ?_
  case hiu13 => simp only [List.getElem?_toArray, List.getElem?_cons_succ, List.getElem?_cons_zero]; rfl
  case hQu13 => exact fun _ _ _ h => h
  case hyu13 => exact Or.inr ⟨by rfl, rfl⟩
  try simp only [Act.put, List.setIfInBounds_toArray, List.set_cons_zero, List.set_cons_succ]
  refine takeH (i := 13) (oi := ?oiu14) undef (by kernel_rfl) (by with_reducible exact hS) ?hiu14 ?hQu14 ?hyu14 ?_
  case hiu14 => simp only [List.getElem?_toArray, List.getElem?_cons_succ, List.getElem?_cons_zero]; rfl
  case hQu14 => exact fun _ _ _ h => h
  case hyu14 => exact Or.inr ⟨by rfl, rfl⟩
  try simp only [Act.put, List.setIfInBounds_toArray, List.set_cons_zero, List.set_cons_succ]
  refine takeH (i := 14) (oi := ?oiu15) undef (by kernel_rfl) (by with_reducible exact hS) ?hiu15 ?hQu15 ?hyu15 ?_
  case hiu15 => simp only [List.getElem?_toArray, List.getElem?_cons_succ, List.getElem?_cons_zero]; rfl
  case hQu15 => exact fun _ _ _ h => h
  case hyu15 => exact Or.inr ⟨by rfl, rfl⟩
  try simp only [Act.put, List.setIfInBounds_toArray, List.set_cons_zero, List.set_cons_succ]
  refine takeH (i := 15) (oi := ?oiu16) ?vu16 (by kernel_rfl) (by with_reducible exact hS) ?hiu16 ?hQu16 ?hyu16 ?_
  case hiu16 => simp only [List.getElem?_toArray, List.getElem?_cons_succ, List.getElem?_cons_zero]; rfl
  case hQu16 => exact fun _ _ _ h => h
  case hyu16 =>
    refine Or.inl ⟨by rfl, ?_⟩
    rintro W9 ⟨hbw, ⟨a1, a2, a3⟩, b1, b2, b3⟩
    go_simp
    rfl
  try simp only [Act.put, List.setIfInBounds_toArray, List.set_cons_zero, List.set_cons_succ]
  refine takeH (i := 16) (oi := ?oiu17) ?vu17 (by kernel_rfl) (by with_reducible exact hS) ?hiu17 ?hQu17 ?hyu17 ?_
  case hiu17 => simp only [List.getElem?_toArray, List.getElem?_cons_succ, List.getElem?_cons_zero]; rfl
  case hQu17 => exact fun _ _ _ h => h
  case hyu17 =>
    refine Or.inl ⟨by rfl, ?_⟩
    rintro W9 ⟨hbw, ⟨a1, a2, a3⟩, b1, b2, b3⟩
    go_simp
    rfl
  try simp only [Act.put, List.setIfInBounds_toArray, List.set_cons_zero, List.set_cons_succ]
  refine wpAnyH_done (by kernel_rfl) ?_ _
  go_wp2_with fail
  go_ret
  exact ⟨by first | (simp; done) | (simp; omega), bgo HBX.out hS.1⟩

set_option maxHeartbeats 4000000 in
theorem stampBytes_gt (ep ro fp so : Nat) (A B : Option Addr) (n c m d : Nat) (xs ys : List Int) (w : World) (hn : xs.length = n) (hx : Rd w A (nums .i64 xs)) (hep : ep < 18446744073709551616) (hro : ro < 18446744073709551616) (hfp : fp < 18446744073709551616) (hso : so < 18446744073709551616)
    (hm : ys.length = m) (hy : Rd w B (nums .i64 ys)) (h60 : n ≤ 60 ∧ m ≤ 60) (hg : goodSt xs) (hh : goodSt ys) (hz : 0 < cmpS ep ro fp so) :
    Calls Try.prog 5 #[.agg #[.int .u64 ep, .int .u64 ro, .slice A n c], .agg #[.int .u64 fp, .int .u64 so, .slice B m d]] w (Yes w) := by
  have H6 := Lib.hid (st6_new w 27 ep ro fp so (.slice A n c) (.slice B m d))
  have HS : Hid (decide (∀ x ∈ [n, m], x ≤ 60) = true) := Lib.hid (by simp; omega)
  have HX := Lib.hid hx
  have HY := Lib.hid hy
  have hless := stB_less ep ro fp so xs ys hep hro hfp hso
  have hb1 := stB_byt (ep := ep) (ro := ro) hg
  have hb2 := stB_byt (ep := fp) (ro := so) hh
  have HCP := Lib.hid (fun (W : World) h0 => stPut_any ep ro A n c xs W hn h0 hg hep hro)
  have l1 := stB_len ep ro xs
  rw [hn] at l1
  obtain ⟨st, hst⟩ : ∃ st, st = stB ep ro xs := ⟨_, rfl⟩
  rw [← hst] at HCP l1 hless hb1
  have HL1 := Lib.hid l1
  clear l1 hst
  have HCQ := Lib.hid (fun (W : World) h0 => stPut_any fp so B m d ys W hm h0 hh hfp hso)
  have l2 := stB_len fp so ys
  rw [hm] at l2
  obtain ⟨tt, htt⟩ : ∃ tt, tt = stB fp so ys := ⟨_, rfl⟩
  rw [← htt] at HCQ l2 hless hb2
  have HL2 := Lib.hid l2
  clear l2 htt
  have HCM := Lib.hid (fun (W : World) => stCmp_any ep ro fp so (.slice A n c) (.slice B m d) W)
  obtain ⟨z, hzz⟩ : ∃ z, z = cmpS ep ro fp so := ⟨_, rfl⟩
  rw [← hzz] at HCM hz hless
  obtain ⟨s1, hs1⟩ : ∃ s, s = strOfNums st := ⟨_, rfl⟩
  obtain ⟨s2, hs2⟩ : ∃ s, s = strOfNums tt := ⟨_, rfl⟩
  have q0 : (z == 0) = false := by simp; omega
  have hlt : Op.bytesLess s1.toList s2.toList = false := by rw [less_str hs1 hs2 hb1 hb2]; exact hless.2 hz
  have q1 : ¬ z < 0 := by omega
  clear hless
  have HS1 := Lib.hid hs1
  have HS2 := Lib.hid hs2
  clear hs1 hs2 hzz hb1 hb2
  clear hx hy hn hm hg hh hep hro hfp hso
  go_enter Try.func5, Try.ntmps5
  go_wp2_with (first
    | (go_at_call 9; refine (live4_any _).mono ?_; rintro e w1 ⟨rfl, hb1⟩; have H6 := Lib.hid (st6_below H6.out hb1); obtain ⟨⟨a1, a2, a3⟩, b1, b2, b3⟩ := H6.out; have HBX := Lib.hid (bgo (bal (bal brf _) _) hb1))
    | (go_at_call 14; refine (short_any _ 2 _ [n, m] _ rfl (stRow2 _ _ _ _ _ _ _ _ _ _ _ _) (by omega)).mono ?_; rintro e w2 ⟨he, hb2⟩; rw [HS.out] at he; subst he; have hb2 := bgo (bal brf _) hb2; have H6 := Lib.hid (st6_below H6.out hb2); obtain ⟨⟨a1, a2, a3⟩, b1, b2, b3⟩ := H6.out; have HBX := Lib.hid (bgo HBX.out hb2))
    | (go_at_call 13; first
      | ((with_reducible refine (HCP.out _ (HX.out.below HBX.out)).mono ?_); rintro e w3 ⟨B3, c3, he, hc3, hown, hb3⟩; rw [HL1.out] at he hown; subst he; have H6 := Lib.hid (st6_below H6.out hb3); obtain ⟨⟨a1, a2, a3⟩, b1, b2, b3⟩ := H6.out; have HBX := Lib.hid (bgo HBX.out hb3); have HR3 := Lib.hid (Rd.of_own hown); clear hown)
      | ((with_reducible refine (HCQ.out _ (HY.out.below HBX.out)).mono ?_); rintro e w4 ⟨B4, c4, he, hc4, hown, hb4⟩; rw [HL2.out] at he hown; subst he; have H6 := Lib.hid (st6_below H6.out hb4); obtain ⟨⟨a1, a2, a3⟩, b1, b2, b3⟩ := H6.out; have HBX := Lib.hid (bgo HBX.out hb4); have HR3 := Lib.hid (HR3.out.below hb4); have HR4 := Lib.hid (Rd.of_own hown); clear hown))
    | fail)
  have hS : ST6B w4 w4.drew w.heap.size (w.heap.size + 1) ep ro (.slice A n c) fp so (.slice B m d) := ⟨bdr brf, H6.out⟩
  clear H6 a1 a2 a3 b1 b2 b3 HX HY HCP HCQ hb1 hb2 hb3 hb4
  refine wp_region_held_drew (S := fun x => ST6B w4 x w.heap.size (w.heap.size + 1) ep ro (.slice A n c) fp so (.slice B m d)) (by kernel_rfl) hS (fun hHeld => ?_)
  clear hHeld
  refine takeH (i := 0) (oi := ?oiu18) ?vu18 (by kernel_rfl) (by with_reducible exact hS) ?hiu18 ?hQu18 ?hyu18 ?_
  case hiu18 => simp only [List.getElem?_toArray, List.getElem?_cons_succ, List.getElem?_cons_zero]; rfl
  case hQu18 => exact fun _ _ _ h => h
  case hyu18 =>
    refine Or.inl ⟨by rfl, ?_⟩
    rintro W9 ⟨hbw, ⟨a1, a2, a3⟩, b1, b2, b3⟩
    go_simp
    rfl
  try simp only [Act.put, List.setIfInBounds_toArray, List.set_cons_zero, List.set_cons_succ]
  refine takeH (i := 1) (oi := ?oiu19) ?vu19 (by kernel_rfl) (by with_reducible exact hS) ?hiu19 ?hQu19 ?hyu19 ?_
  case hiu19 => simp only [List.getElem?_toArray, List.getElem?_cons_succ, List.getElem?_cons_zero]; rfl
  case hQu19 => exact fun _ _ _ h => h
  case hyu19 =>
    refine Or.inl ⟨by rfl, ?_⟩
    rintro W9 ⟨hbw, ⟨a1, a2, a3⟩, b1, b2, b3⟩
    go_simp
    rfl
  try simp only [Act.put, List.setIfInBounds_toArray, List.set_cons_zero, List.set_cons_succ]
  refine onlyH (i := 2) (oi := ?oiu20) (by kernel_rfl) ?hiu20 (fun K hK => ?_)
  case hiu20 => simp only [List.getElem?_toArray, List.getElem?_cons_succ, List.getElem?_cons_zero]; rfl
  go_simp
  refine (HCM.out _).mono ?_
  rintro e w' ⟨rfl, hb⟩
  have hS := st6B_below hS hb
  clear hb
  go_wp2_with fail
  refine hK.out _ _ (by with_reducible exact hS) (fun hHeld => ?_)
  clear hK K hHeld
  try simp only [Act.put, List.setIfInBounds_toArray, List.set_cons_zero, List.set_cons_succ]
  refine takeH (i := 3) (oi := ?oiu21) ?vu21 (by kernel_rfl) (by with_reducible exact hS) ?hiu21 ?hQu21 ?hyu21 ?_
  case hiu21 => simp only [List.getElem?_toArray, List.getElem?_cons_succ, List.getElem?_cons_zero]; rfl
  case hQu21 => exact fun _ _ _ h => h
  case hyu21 =>
    refine Or.inl ⟨by rfl, ?_⟩
    rintro W9 ⟨hbw, ⟨a1, a2, a3⟩, b1, b2, b3⟩
    go_simp
    rfl
  try simp only [Act.put, List.setIfInBounds_toArray, List.set_cons_zero, List.set_cons_succ]
  refine takeH (i := 4) (oi := ?oiu22) ?vu22 (by kernel_rfl) (by with_reducible exact hS) ?hiu22 ?hQu22 ?hyu22 ?_
  case hiu22 => simp only [List.getElem?_toArray, List.getElem?_cons_succ, List.getElem?_cons_zero]; rfl
  case hQu22 => exact fun _ _ _ h => h
  case hyu22 =>
    refine Or.inl ⟨by rfl, ?_⟩
    rintro W9 ⟨hbw, ⟨a1, a2, a3⟩, b1, b2, b3⟩
    go_simp
    rfl
  try simp only [Act.put, List.setIfInBounds_toArray, List.set_cons_zero, List.set_cons_succ]
  refine takeH (i := 5) (oi := ?oiu23) ?vu23 (by kernel_rfl) (by with_reducible exact hS) ?hiu23 ?hQu23 ?hyu23 ?_
  case hiu23 => simp only [List.getElem?_toArray, List.getElem?_cons_succ, List.getElem?_cons_zero]; rfl
  case hQu23 => exact fun _ _ _ h => h
  case hyu23 =>
    refine Or.inl ⟨by rfl, ?_⟩
    rintro W9 ⟨hbw, ⟨a1, a2, a3⟩, b1, b2, b3⟩
    go_simp
    rfl
  try simp only [Act.put, List.setIfInBounds_toArray, List.set_cons_zero, List.set_cons_succ]
  refine takeH (i := 6) (oi := ?oiu24) ?vu24 (by kernel_rfl) (by with_reducible exact hS) ?hiu24 ?hQu24 ?hyu24 ?_
  case hiu24 => simp only [List.getElem?_toArray, List.getElem?_cons_succ, List.getElem?_cons_zero]; rfl
  case hQu24 => exact fun _ _ _ h => h
  case hyu24 =>
    refine Or.inl ⟨by rfl, ?_⟩
    rintro W9 ⟨hbw, ⟨a1, a2, a3⟩, b1, b2, b3⟩
    have hrun := conv_str (c := c3) (HR3.out.below hbw) HL1.out HS1.out
    go_simp
    rfl
  try simp only [Act.put, List.setIfInBounds_toArray, List.set_cons_zero, List.set_cons_succ]
  refine takeH (i := 7) (oi := ?oiu25) ?vu25 (by kernel_rfl) (by with_reducible exact hS) ?hiu25 ?hQu25 ?hyu25 ?_
  case hiu25 => simp only [List.getElem?_toArray, List.getElem?_cons_succ, List.getElem?_cons_zero]; rfl
  case hQu25 => exact fun _ _ _ h => h
  case hyu25 =>
    refine Or.inl ⟨by rfl, ?_⟩
    rintro W9 ⟨hbw, ⟨a1, a2, a3⟩, b1, b2, b3⟩
    go_simp
    rfl
  try simp only [Act.put, List.setIfInBounds_toArray, List.set_cons_zero, List.set_cons_succ]
  refine takeH (i := 8) (oi := ?oiu26) ?vu26 (by kernel_rfl) (by with_reducible exact hS) ?hiu26 ?hQu26 ?hyu26 ?_
  case hiu26 => simp only [List.getElem?_toArray, List.getElem?_cons_succ, List.getElem?_cons_zero]; rfl
  case hQu26 => exact fun _ _ _ h => h
  case hyu26 =>
    refine Or.inl ⟨by rfl, ?_⟩
    rintro W9 ⟨hbw, ⟨a1, a2, a3⟩, b1, b2, b3⟩
    have hrun := conv_str (c := c4) (HR4.out.below hbw) HL2.out HS2.out
    go_simp
    rfl
  try simp only [Act.put, List.setIfInBounds_toArray, List.set_cons_zero, List.set_cons_succ]
  refine takeH (i := 9) (oi := ?oiu27) ?vu27 (by kernel_rfl) (by with_reducible exact hS) ?hiu27 ?hQu27 ?hyu27 ?_
  case hiu27 => simp only [List.getElem?_toArray, List.getElem?_cons_succ, List.getElem?_cons_zero]; rfl
  case hQu27 => exact fun _ _ _ h => h
  case hyu27 =>
    refine Or.inl ⟨by rfl, ?_⟩
    rintro W9 ⟨hbw, ⟨a1, a2, a3⟩, b1, b2, b3⟩
    go_simp
    rfl
  try simp only [Act.put, List.setIfInBounds_toArray, List.set_cons_zero, List.set_cons_succ]
  refine takeH (i := 10) (oi := ?oiu28) ?vu28 (by kernel_rfl) (by with_reducible exact hS) ?hiu28 ?hQu28 ?hyu28 ?_
  case hiu28 => simp only [List.getElem?_toArray, List.getElem?_cons_succ, List.getElem?_cons_zero]; rfl
  case hQu28 => exact fun _ _ _ h => h
  case hyu28 =>
    refine Or.inl ⟨by rfl, ?_⟩
    rintro W9 ⟨hbw, ⟨a1, a2, a3⟩, b1, b2, b3⟩
    go_simp
    rfl
  try simp only [Act.put, List.setIfInBounds_toArray, List.set_cons_zero, List.set_cons_succ]
  refine takeH (i := 11) (oi := ?oiu29) ?vu29 (by kernel_rfl) (by with_reducible exact hS) ?hiu29 ?hQu29 ?hyu29 ?_
  case hiu29 => simp only [List.getElem?_toArray, List.getElem?_cons_succ, List.getElem?_cons_zero]; rfl
  case hQu29 => exact fun _ _ _ h => h
  case hyu29 =>
    refine Or.inl ⟨by rfl, ?_⟩
    rintro W9 ⟨hbw, ⟨a1, a2, a3⟩, b1, b2, b3⟩
    go_simp
    rfl
  try simp only [Act.put, List.setIfInBounds_toArray, List.set_cons_zero, List.set_cons_succ]
  refine onlyH (i := 12) (oi := ?oiu30) (by kernel_rfl) ?hiu30 (fun K hK => ?_)
  case hiu30 => simp only [List.getElem?_toArray, List.getElem?_cons_succ, List.getElem?_cons_zero]; rfl
  go_simp
  refine (HCM.out _).mono ?_
  rintro e w' ⟨rfl, hb⟩
  have hS := st6B_below hS hb
  clear hb
  go_wp2_with fail
  refine hK.out _ _ (by with_reducible exact hS) (fun hHeld => ?_)
  clear hK K hHeld
  try simp only [Act.put, List.setIfInBounds_toArray, List.set_cons_zero, List.set_cons_succ]
  refine takeH (i := 13) (oi := ?oiu31) ?vu31 (by kernel_rfl) (by with_reducible exact hS) ?hiu31 ?hQu31 ?hyu31 ?_
  case hiu31 => simp only [List.getElem?_toArray, List.getElem?_cons_succ, List.getElem?_cons_zero]; rfl
  case hQu31 => exact fun _ _ _ h => h
  case hyu31 =>
    refine Or.inl ⟨by rfl, ?_⟩
    rintro W9 ⟨hbw, ⟨a1, a2, a3⟩, b1, b2, b3⟩
    go_simp
    rfl
  try simp only [Act.put, List.setIfInBounds_toArray, List.set_cons_zero, List.set_cons_succ]
  refine takeH (i := 14) (oi := ?oiu32) ?vu32 (by kernel_rfl) (by with_reducible exact hS) ?hiu32 ?hQu32 ?hyu32 ?_
  case hiu32 => simp only [List.getElem?_toArray, List.getElem?_cons_succ, List.getElem?_cons_zero]; rfl
  case hQu32 => exact fun _ _ _ h => h
  case hyu32 =>
    refine Or.inl ⟨by rfl, ?_⟩
    rintro W9 ⟨hbw, ⟨a1, a2, a3⟩, b1, b2, b3⟩
    go_simp
    rfl
  try simp only [Act.put, List.setIfInBounds_toArray, List.set_cons_zero, List.set_cons_succ]
  refine takeH (i := 15) (oi := ?oiu33) ?vu33 (by kernel_rfl) (by with_reducible exact hS) ?hiu33 ?hQu33 ?hyu33 ?_
  case hiu33 => simp only [List.getElem?_toArray, List.getElem?_cons_succ, List.getElem?_cons_zero]; rfl
  case hQu33 => exact fun _ _ _ h => h
  case hyu33 =>
    refine Or.inl ⟨by rfl, ?_⟩
    rintro W9 ⟨hbw, ⟨a1, a2, a3⟩, b1, b2, b3⟩
    go_simp
    rfl
  try simp only [Act.put, List.setIfInBounds_toArray, List.set_cons_zero, List.set_cons_succ]
  refine takeH (i := 16) (oi := ?oiu34) ?vu34 (by kernel_rfl) (by with_reducible exact hS) ?hiu34 ?hQu34 ?hyu34 ?_
  case hiu34 => simp only [List.getElem?_toArray, List.getElem?_cons_succ, List.getElem?_cons_zero]; rfl
  case hQu34 => exact fun _ _ _ h => h
  case hyu34 =>
    refine Or.inl ⟨by rfl, ?_⟩
    rintro W9 ⟨hbw, ⟨a1, a2, a3⟩, b1, b2, b3⟩
    go_simp
    rfl
  try simp only [Act.put, List.setIfInBounds_toArray, List.set_cons_zero, List.set_cons_succ]
  refine wpAnyH_done (by kernel_rfl) ?_ _
  go_wp2_with fail
  go_ret
  exact ⟨by first | (simp; done) | (simp; omega), bgo HBX.out hS.1⟩

set_option maxHeartbeats 4000000 in
theorem stampBytes_yn (ep ro fp so : Nat) (A B : Option Addr) (n c m d : Nat) (xs ys : List Int) (w : World) (hn : xs.length = n) (hx : Rd w A (nums .i64 xs)) (hep : ep < 18446744073709551616) (hro : ro < 18446744073709551616) (hfp : fp < 18446744073709551616) (hso : so < 18446744073709551616)
    (hm : ys.length = m) (hy : Rd w B (nums .i64 ys)) (h60 : n ≤ 60 ∧ m ≤ 60) (hg : goodSt xs) (hh : ¬ goodSt ys) :
    Calls Try.prog 5 #[.agg #[.int .u64 ep, .int .u64 ro, .slice A n c], .agg #[.int .u64 fp, .int .u64 so, .slice B m d]] w (Yes w) := by
  have H6 := Lib.hid (st6_new w 27 ep ro fp so (.slice A n c) (.slice B m d))
  have HS : Hid (decide (∀ x ∈ [n, m], x ≤ 60) = true) := Lib.hid (by simp; omega)
  have HX := Lib.hid hx
  have HY := Lib.hid hy
  have HCP := Lib.hid (fun (W : World) h0 => stPut_any ep ro A n c xs W hn h0 hg hep hro)
  have l1 := stB_len ep ro xs
  rw [hn] at l1
  obtain ⟨st, hst⟩ : ∃ st, st = stB ep ro xs := ⟨_, rfl⟩
  rw [← hst] at HCP l1
  have HL1 := Lib.hid l1
  clear l1 hst
  have HCQ := Lib.hid (fun (W : World) h0 => stPut_bad fp so B m d ys W hm h0 hh)
  clear hx hy hn hm hg hh hep hro hfp hso
  go_enter Try.func5, Try.ntmps5
  go_wp2_with (first
    | (go_at_call 9; refine (live4_any _).mono ?_; rintro e w1 ⟨rfl, hb1⟩; have H6 := Lib.hid (st6_below H6.out hb1); obtain ⟨⟨a1, a2, a3⟩, b1, b2, b3⟩ := H6.out; have HBX := Lib.hid (bgo (bal (bal brf _) _) hb1))
    | (go_at_call 14; refine (short_any _ 2 _ [n, m] _ rfl (stRow2 _ _ _ _ _ _ _ _ _ _ _ _) (by omega)).mono ?_; rintro e w2 ⟨he, hb2⟩; rw [HS.out] at he; subst he; have hb2 := bgo (bal brf _) hb2; have H6 := Lib.hid (st6_below H6.out hb2); obtain ⟨⟨a1, a2, a3⟩, b1, b2, b3⟩ := H6.out; have HBX := Lib.hid (bgo HBX.out hb2))
    | (go_at_call 13; first
      | ((with_reducible refine (HCP.out _ (HX.out.below HBX.out)).mono ?_); rintro e w3 ⟨B3, c3, he, hc3, hown, hb3⟩; rw [HL1.out] at he hown; subst he; have H6 := Lib.hid (st6_below H6.out hb3); obtain ⟨⟨a1, a2, a3⟩, b1, b2, b3⟩ := H6.out; have HBX := Lib.hid (bgo HBX.out hb3); have HR3 := Lib.hid (Rd.of_own hown); clear hown)
      | ((with_reducible refine (HCQ.out _ (HY.out.below HBX.out)).mono ?_); rintro e w4 ⟨rfl, hb4⟩; have H6 := Lib.hid (st6_below H6.out hb4); obtain ⟨⟨a1, a2, a3⟩, b1, b2, b3⟩ := H6.out; have HBX := Lib.hid (bgo HBX.out hb4); have HR3 := Lib.hid (HR3.out.below hb4); skip))
    | fail)
  go_ret
  exact ⟨by simp, HBX.out⟩

set_option maxHeartbeats 4000000 in
theorem stampBytes_ny (ep ro fp so : Nat) (A B : Option Addr) (n c m d : Nat) (xs ys : List Int) (w : World) (hn : xs.length = n) (hx : Rd w A (nums .i64 xs)) (hep : ep < 18446744073709551616) (hro : ro < 18446744073709551616) (hfp : fp < 18446744073709551616) (hso : so < 18446744073709551616)
    (hm : ys.length = m) (hy : Rd w B (nums .i64 ys)) (h60 : n ≤ 60 ∧ m ≤ 60) (hg : ¬ goodSt xs) (hh : goodSt ys) :
    Calls Try.prog 5 #[.agg #[.int .u64 ep, .int .u64 ro, .slice A n c], .agg #[.int .u64 fp, .int .u64 so, .slice B m d]] w (Yes w) := by
  have H6 := Lib.hid (st6_new w 27 ep ro fp so (.slice A n c) (.slice B m d))
  have HS : Hid (decide (∀ x ∈ [n, m], x ≤ 60) = true) := Lib.hid (by simp; omega)
  have HX := Lib.hid hx
  have HY := Lib.hid hy
  have HCP := Lib.hid (fun (W : World) h0 => stPut_bad ep ro A n c xs W hn h0 hg)
  have HCQ := Lib.hid (fun (W : World) h0 => stPut_any fp so B m d ys W hm h0 hh hfp hso)
  have l2 := stB_len fp so ys
  rw [hm] at l2
  obtain ⟨tt, htt⟩ : ∃ tt, tt = stB fp so ys := ⟨_, rfl⟩
  rw [← htt] at HCQ l2
  have HL2 := Lib.hid l2
  clear l2 htt
  clear hx hy hn hm hg hh hep hro hfp hso
  go_enter Try.func5, Try.ntmps5
  go_wp2_with (first
    | (go_at_call 9; refine (live4_any _).mono ?_; rintro e w1 ⟨rfl, hb1⟩; have H6 := Lib.hid (st6_below H6.out hb1); obtain ⟨⟨a1, a2, a3⟩, b1, b2, b3⟩ := H6.out; have HBX := Lib.hid (bgo (bal (bal brf _) _) hb1))
    | (go_at_call 14; refine (short_any _ 2 _ [n, m] _ rfl (stRow2 _ _ _ _ _ _ _ _ _ _ _ _) (by omega)).mono ?_; rintro e w2 ⟨he, hb2⟩; rw [HS.out] at he; subst he; have hb2 := bgo (bal brf _) hb2; have H6 := Lib.hid (st6_below H6.out hb2); obtain ⟨⟨a1, a2, a3⟩, b1, b2, b3⟩ := H6.out; have HBX := Lib.hid (bgo HBX.out hb2))
    | (go_at_call 13; first
      | ((with_reducible refine (HCP.out _ (HX.out.below HBX.out)).mono ?_); rintro e w3 ⟨rfl, hb3⟩; have H6 := Lib.hid (st6_below H6.out hb3); obtain ⟨⟨a1, a2, a3⟩, b1, b2, b3⟩ := H6.out; have HBX := Lib.hid (bgo HBX.out hb3); skip)
      | ((with_reducible refine (HCQ.out _ (HY.out.below HBX.out)).mono ?_); rintro e w4 ⟨B4, c4, he, hc4, hown, hb4⟩; rw [HL2.out] at he hown; subst he; have H6 := Lib.hid (st6_below H6.out hb4); obtain ⟨⟨a1, a2, a3⟩, b1, b2, b3⟩ := H6.out; have HBX := Lib.hid (bgo HBX.out hb4); have HR4 := Lib.hid (Rd.of_own hown); clear hown))
    | fail)
  go_ret
  exact ⟨by simp, HBX.out⟩

set_option maxHeartbeats 4000000 in
theorem stampBytes_nn (ep ro fp so : Nat) (A B : Option Addr) (n c m d : Nat) (xs ys : List Int) (w : World) (hn : xs.length = n) (hx : Rd w A (nums .i64 xs)) (hep : ep < 18446744073709551616) (hro : ro < 18446744073709551616) (hfp : fp < 18446744073709551616) (hso : so < 18446744073709551616)
    (hm : ys.length = m) (hy : Rd w B (nums .i64 ys)) (h60 : n ≤ 60 ∧ m ≤ 60) (hg : ¬ goodSt xs) (hh : ¬ goodSt ys) :
    Calls Try.prog 5 #[.agg #[.int .u64 ep, .int .u64 ro, .slice A n c], .agg #[.int .u64 fp, .int .u64 so, .slice B m d]] w (Yes w) := by
  have H6 := Lib.hid (st6_new w 27 ep ro fp so (.slice A n c) (.slice B m d))
  have HS : Hid (decide (∀ x ∈ [n, m], x ≤ 60) = true) := Lib.hid (by simp; omega)
  have HX := Lib.hid hx
  have HY := Lib.hid hy
  have HCP := Lib.hid (fun (W : World) h0 => stPut_bad ep ro A n c xs W hn h0 hg)
  have HCQ := Lib.hid (fun (W : World) h0 => stPut_bad fp so B m d ys W hm h0 hh)
  clear hx hy hn hm hg hh hep hro hfp hso
  go_enter Try.func5, Try.ntmps5
  go_wp2_with (first
    | (go_at_call 9; refine (live4_any _).mono ?_; rintro e w1 ⟨rfl, hb1⟩; have H6 := Lib.hid (st6_below H6.out hb1); obtain ⟨⟨a1, a2, a3⟩, b1, b2, b3⟩ := H6.out; have HBX := Lib.hid (bgo (bal (bal brf _) _) hb1))
    | (go_at_call 14; refine (short_any _ 2 _ [n, m] _ rfl (stRow2 _ _ _ _ _ _ _ _ _ _ _ _) (by omega)).mono ?_; rintro e w2 ⟨he, hb2⟩; rw [HS.out] at he; subst he; have hb2 := bgo (bal brf _) hb2; have H6 := Lib.hid (st6_below H6.out hb2); obtain ⟨⟨a1, a2, a3⟩, b1, b2, b3⟩ := H6.out; have HBX := Lib.hid (bgo HBX.out hb2))
    | (go_at_call 13; first
      | ((with_reducible refine (HCP.out _ (HX.out.below HBX.out)).mono ?_); rintro e w3 ⟨rfl, hb3⟩; have H6 := Lib.hid (st6_below H6.out hb3); obtain ⟨⟨a1, a2, a3⟩, b1, b2, b3⟩ := H6.out; have HBX := Lib.hid (bgo HBX.out hb3); skip)
      | ((with_reducible refine (HCQ.out _ (HY.out.below HBX.out)).mono ?_); rintro e w4 ⟨rfl, hb4⟩; have H6 := Lib.hid (st6_below H6.out hb4); obtain ⟨⟨a1, a2, a3⟩, b1, b2, b3⟩ := H6.out; have HBX := Lib.hid (bgo HBX.out hb4); skip))
    | fail)
  go_ret
  exact ⟨by simp, HBX.out⟩

set_option maxHeartbeats 1000000 in
open Go.Joins Go.Deep in
theorem stampBytes_of {H : Type} {enc : TypeId × Value → H} (W : World) (base : Nat) (args : Array Value) (ds : List (DataW H)) (p : List MemPlace)
    (hval : ∀ (j : Nat) t v, Try.f5.params[j]? = some t → args[j]? = some v → Value.okWide Try.prog W .any base t v)
    (hA : DataW.TrodAll enc Try.prog W 0 (fun _ => true) true Try.f5.params.toList args.toList ds p) (hlt : ∀ x ∈ p, x.block < W.heap.size)
    (hz : (DataW.weightsEach Try.prog Try.f5.params.toList ds).all (· ≤ reachBytes) = true) : Calls Try.prog 5 args W (Yes W) := by
  rw [Try.params5] at hA hval hz
  obtain ⟨v0, vs0, d0, ds0, p0, q0, hargs, rfl, rfl, h0, r0⟩ := trodAll_cons hA
  obtain ⟨v1, vs1, d1, ds1, p1, q1, rfl, rfl, rfl, h1, r1⟩ := trodAll_cons r0
  obtain ⟨rfl, rfl, rfl⟩ := trodAll_nil r1
  obtain rfl : args = #[v0, v1] := by cases args; simp_all
  obtain ⟨ep, ro, A, n, c, xs, rfl, g1, g2, g3, g4, g5, g6, g7⟩ := open_stamp (hval 0 _ _ rfl rfl) h0
  obtain ⟨fp, so, B, m, d, ys, rfl, a1, a2, a3, a4, a5, a6, a7⟩ := open_stamp (hval 1 _ _ rfl rfl) h1
  by_cases hs : n ≤ 60 ∧ m ≤ 60
  · by_cases hg : goodSt xs
    · by_cases hh : goodSt ys
      · rcases Int.lt_trichotomy (cmpS ep ro fp so) 0 with hz | hz | hz
        · exact stampBytes_lt ep ro fp so A B n c m d xs ys W g3 g4 g5 g6 a5 a6 a3 a4 hs hg hh hz
        · exact stampBytes_eq ep ro fp so A B n c m d xs ys W g3 g4 g5 g6 a5 a6 a3 a4 hs hg hh hz
        · exact stampBytes_gt ep ro fp so A B n c m d xs ys W g3 g4 g5 g6 a5 a6 a3 a4 hs hg hh hz
      · exact stampBytes_yn ep ro fp so A B n c m d xs ys W g3 g4 g5 g6 a5 a6 a3 a4 hs hg hh
    · by_cases hh : goodSt ys
      · exact stampBytes_ny ep ro fp so A B n c m d xs ys W g3 g4 g5 g6 a5 a6 a3 a4 hs hg hh
      · exact stampBytes_nn ep ro fp so A B n c m d xs ys W g3 g4 g5 g6 a5 a6 a3 a4 hs hg hh
  · exact stampBytes_long ep ro fp so A B n c m d W hs
end Go.Proofs.Ytmkmndgdakpojaa
