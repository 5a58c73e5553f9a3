/- StampTells: the walk. -/
import Derived.Test.YtmkmndgdakpojaaTm
import Derived.Deep.RegionHeld3
namespace Go.Proofs.Ytmkmndgdakpojaa
open Go.RowKit Go.ChangeShapes Go.WideShapes Go.ChangeAt
set_option linter.unusedSimpArgs false
set_option linter.unusedVariables false
set_option maxRecDepth 100000

/-- Two stamps' boxes. -/
abbrev ST6 (x : World) (q0 q1 : Nat) (e1 r1 : Int) (v1 : Value) (e2 r2 : Int) (v2 : Value) : Prop :=
  (x.cell? ⟨q0, 0, none⟩ = some (.int .u64 e1) ∧ x.cell? ⟨q0, 1, none⟩ = some (.int .u64 r1) ∧ x.cell? ⟨q0, 2, none⟩ = some v1) ∧
  (x.cell? ⟨q1, 0, none⟩ = some (.int .u64 e2) ∧ x.cell? ⟨q1, 1, none⟩ = some (.int .u64 r2) ∧ x.cell? ⟨q1, 2, none⟩ = some v2)
theorem st6_below {x y : World} {q0 q1 : Nat} {e1 r1 : Int} {v1 : Value} {e2 r2 : Int} {v2 : Value} (h : ST6 x q0 q1 e1 r1 v1 e2 r2 v2) (hb : Below x.heap.size x y) : ST6 y q0 q1 e1 r1 v1 e2 r2 v2 := by
  obtain ⟨⟨a, b, c⟩, d, e, f⟩ := h
  have k : ∀ {b i : Nat} {v : Value}, x.cell? ⟨b, i, none⟩ = some v → y.cell? ⟨b, i, none⟩ = some v := fun hv => (hb.cell (p := ⟨_, _, none⟩) (cell_lt hv)).trans hv
  exact ⟨⟨k a, k b, k c⟩, k d, k e, k f⟩
/-- Two stamps' boxes, and what was there stays. -/
abbrev ST6B (W x : World) (q0 q1 : Nat) (e1 r1 : Int) (v1 : Value) (e2 r2 : Int) (v2 : Value) : Prop := Below W.heap.size W x ∧ ST6 x q0 q1 e1 r1 v1 e2 r2 v2
theorem st6B_below {W x y : World} {q0 q1 : Nat} {e1 r1 : Int} {v1 : Value} {e2 r2 : Int} {v2 : Value} (h : ST6B W x q0 q1 e1 r1 v1 e2 r2 v2) (hb : Below x.heap.size x y) : ST6B W y q0 q1 e1 r1 v1 e2 r2 v2 := ⟨bgo h.1 hb, st6_below h.2 hb⟩
theorem st6_new (w : World) (t : TypeId) (e1 r1 e2 r2 : Int) (v1 v2 : Value) : ST6 ((w.alloc (.cells #[.int .u64 e1, .int .u64 r1, v1] t)).alloc (.cells #[.int .u64 e2, .int .u64 r2, v2] t)) w.heap.size (w.heap.size + 1) e1 r1 v1 e2 r2 v2 :=
  ⟨⟨by simp [go_sem], by simp [go_sem], by simp [go_sem]⟩, by simp [go_sem], by simp [go_sem], by simp [go_sem]⟩

set_option maxHeartbeats 1000000 in
theorem stampTells_long (ep ro fp so : Nat) (A B : Option Addr) (n c m d : Nat) (w : World) (h : ¬ (n ≤ 60 ∧ m ≤ 60)) :
    Calls Try.prog 6 #[.agg #[.int .u64 ep, .int .u64 ro, .slice A n c], .agg #[.int .u64 fp, .int .u64 so, .slice B m d]] w (Yes w) := by
  have H6 := Lib.hid (st6_new w 27 ep ro fp so (.slice A n c) (.slice B m d))
  have HH : Hid (decide (∀ x ∈ [n, m], x ≤ 60) = false) := Lib.hid (by simp; omega)
  clear h
  go_enter Try.func6, Try.ntmps6
  go_wp2_with (first
    | (go_at_call 9; refine (live4_any _).mono ?_; rintro e w1 ⟨rfl, hb1⟩; obtain ⟨⟨a1, a2, a3⟩, b1, b2, b3⟩ := st6_below H6.out hb1; have HBX := bgo (bal (bal brf _) _) hb1)
    | (go_at_call 14; refine (short_any _ 2 _ [n, m] _ rfl (stRow2 _ _ _ _ _ _ _ _ _ _ _ _) (by omega)).mono ?_; rintro e w2 ⟨he, hb2⟩; rw [HH.out] at he; subst he; have HBX := bgo (bal HBX _) hb2))
  go_ret
  exact ⟨rfl, HBX⟩

set_option maxHeartbeats 4000000 in
theorem stampTells_y (ep ro fp so : Nat) (A B : Option Addr) (n c m d : Nat) (xs ys : List Int) (w : World) (hn : xs.length = n) (hnc : n ≤ c) (hx : Rd w A (nums .i64 xs)) (hep : ep < 18446744073709551616) (hro : ro < 18446744073709551616)
    (hm : ys.length = m) (hy : Rd w B (nums .i64 ys)) (h60 : n ≤ 60 ∧ m ≤ 60) (hg : goodSt xs) :
    Calls Try.prog 6 #[.agg #[.int .u64 ep, .int .u64 ro, .slice A n c], .agg #[.int .u64 fp, .int .u64 so, .slice B m d]] w (Yes w) := by
  have H6 := Lib.hid (st6_new w 27 ep ro fp so (.slice A n c) (.slice B m d))
  have HS : Hid (decide (∀ x ∈ [n, m], x ≤ 60) = true) := Lib.hid (by simp; omega)
  have HX := Lib.hid hx
  have HY := Lib.hid hy
  have HCM := Lib.hid (fun (W : World) => stCmp_any ep ro fp so (.slice A n c) (.slice B m d) W)
  have HRM := Lib.hid (fun (W : World) => rstCmp_any ep ro fp so (.slice A n c) (.slice B m d) W)
  obtain ⟨z, hz⟩ : ∃ z, z = cmpS ep ro fp so := ⟨_, rfl⟩
  rw [← hz] at HCM HRM
  have HCS := Lib.hid (fun (W : World) h0 h1 => stSame_any ep ro fp so A B n c m d xs ys W hn hm h0 h1 (by unfold maxLen; omega))
  have HRS := Lib.hid (fun (W : World) h0 h1 => rsame_any ep ro fp so A B n c m d xs ys W hn hm h0 h1 (by unfold maxLen; omega))
  obtain ⟨sb, hsb⟩ : ∃ sb, sb = decide ((ep : Int) = fp ∧ (ro : Int) = so ∧ xs = ys) := ⟨_, rfl⟩
  rw [← hsb] at HCS HRS
  have HCK := Lib.hid (fun (W : World) h0 => stCheck_ok (ep := ep) (ro := ro) (A := A) (n := n) (c := c) W hn h0 hg)
  have HRK := Lib.hid (fun (W : World) h0 => rstCheck_ok (ep := ep) (ro := ro) (A := A) (n := n) (c := c) W hn hnc h0 hg)
  have HCP := Lib.hid (fun (W : World) h0 => stPut_any ep ro A n c xs W hn h0 hg hep hro)
  have HRP := Lib.hid (fun (W : World) h0 => rstPut_any ep ro A n c xs W hn hnc h0 hg hep hro)
  have hl7 := stB_len ep ro xs
  rw [hn] at hl7
  have HSB := Lib.hid (fun (B C : Option Addr) (c d : Nat) (W : World) h0 h1 => sameB_refl B C (17 + n) c d _ _ W hl7 hl7 rfl (stB_byt hg) h0 h1)
  obtain ⟨st, hst⟩ : ∃ st, st = stB ep ro xs := ⟨_, rfl⟩
  rw [← hst] at HCP HRP hl7 HSB
  have HL := Lib.hid hl7
  clear hst hl7
  clear hx hy hn hm hg hz hsb hep hro
  go_enter Try.func6, Try.ntmps6
  go_wp2_with (first
    | (go_at_call 9; refine (live4_any _).mono ?_; rintro e w1 ⟨rfl, hb1⟩; have H6 := Lib.hid (st6_below H6.out hb1); obtain ⟨⟨a1, a2, a3⟩, b1, b2, b3⟩ := H6.out; have HBX := Lib.hid (bgo (bal (bal brf _) _) hb1))
    | (go_at_call 14; refine (short_any _ 2 _ [n, m] _ rfl (stRow2 _ _ _ _ _ _ _ _ _ _ _ _) (by omega)).mono ?_; rintro e w2 ⟨he, hb2⟩; rw [HS.out] at he; subst he; have hb2 := bgo (bal brf _) hb2; have H6 := Lib.hid (st6_below H6.out hb2); obtain ⟨⟨a1, a2, a3⟩, b1, b2, b3⟩ := H6.out; have HBX := Lib.hid (bgo HBX.out hb2))
    | (go_at_call 13; refine (HCP.out _ (HX.out.below HBX.out)).mono ?_; rintro e w3 ⟨B3, c3, he, hc3, hown, hb3⟩; rw [HL.out] at he hown; subst he; have H6 := Lib.hid (st6_below H6.out hb3); obtain ⟨⟨a1, a2, a3⟩, b1, b2, b3⟩ := H6.out; have HBX := Lib.hid (bgo HBX.out hb3); have HR3 := Lib.hid (Rd.of_own hown); clear hown)
    | (go_at_call 16; refine (HRP.out _ (HX.out.below HBX.out)).mono ?_; rintro e w4 ⟨B4, c4, he, hc4, hown, hb4⟩; rw [HL.out] at he hown; subst he; have H6 := Lib.hid (st6_below H6.out hb4); obtain ⟨⟨a1, a2, a3⟩, b1, b2, b3⟩ := H6.out; have HBX := Lib.hid (bgo HBX.out hb4); have HR3 := Lib.hid (HR3.out.below hb4); have HR4 := Lib.hid (Rd.of_own hown); clear hown)
    | fail)
  have hS : ST6B w4 w4.drew w.heap.size (w.heap.size + 1) ep ro (.slice A n c) fp so (.slice B m d) := ⟨bdr brf, H6.out⟩
  have HXW := Lib.hid (HX.out.below HBX.out)
  have HYW := Lib.hid (HY.out.below HBX.out)
  clear H6 a1 a2 a3 b1 b2 b3 HX HY HCP HRP hb1 hb2 hb3 hb4
  go_region_held3 (fun x => ST6B w4 x w.heap.size (w.heap.size + 1) ep ro (.slice A n c) fp so (.slice B m d)) (with_reducible exact hS)
    (first
    | (go_at_call 17; go_must (refine (HCK.out _ (HXW.out.below hS.1)).mono ?_; rintro e w' ⟨rfl, hb⟩; have hS := st6B_below hS hb; clear hb))
    | (go_at_call 18; go_must (refine (HRK.out _ (HXW.out.below hS.1)).mono ?_; rintro e w' ⟨rfl, hb⟩; have hS := st6B_below hS hb; clear hb))
    | (go_at_call 15; go_must (refine (HCM.out _).mono ?_; rintro e w' ⟨rfl, hb⟩; have hS := st6B_below hS hb; clear hb))
    | (go_at_call 19; go_must (refine (HRM.out _).mono ?_; rintro e w' ⟨rfl, hb⟩; have hS := st6B_below hS hb; clear hb))
    | (go_at_call 20; go_must (refine (HCS.out _ (HXW.out.below hS.1) (HYW.out.below hS.1)).mono ?_; rintro e w' ⟨rfl, hb⟩; have hS := st6B_below hS hb; clear hb))
    | (go_at_call 12; go_must (refine (HRS.out _ (HXW.out.below hS.1) (HYW.out.below hS.1)).mono ?_; rintro e w' ⟨rfl, hb⟩; have hS := st6B_below hS hb; clear hb))
    | (go_at_call 21; go_must (refine (HSB.out _ _ _ _ _ (HR3.out.below hS.1) (HR4.out.below hS.1)).mono ?_; rintro e w' ⟨rfl, rfl⟩)))
  go_wp2_with fail
  go_ret
  exact ⟨by simp, bgo HBX.out hS.1⟩

set_option maxHeartbeats 4000000 in
theorem stampTells_n (ep ro fp so : Nat) (A B : Option Addr) (n c m d : Nat) (xs ys : List Int) (w : World) (hn : xs.length = n) (hnc : n ≤ c) (hx : Rd w A (nums .i64 xs)) (hep : ep < 18446744073709551616) (hro : ro < 18446744073709551616)
    (hm : ys.length = m) (hy : Rd w B (nums .i64 ys)) (h60 : n ≤ 60 ∧ m ≤ 60) (hg : ¬ goodSt xs) :
    Calls Try.prog 6 #[.agg #[.int .u64 ep, .int .u64 ro, .slice A n c], .agg #[.int .u64 fp, .int .u64 so, .slice B m d]] w (Yes w) := by
  have H6 := Lib.hid (st6_new w 27 ep ro fp so (.slice A n c) (.slice B m d))
  have HS : Hid (decide (∀ x ∈ [n, m], x ≤ 60) = true) := Lib.hid (by simp; omega)
  have HX := Lib.hid hx
  have HY := Lib.hid hy
  have HCM := Lib.hid (fun (W : World) => stCmp_any ep ro fp so (.slice A n c) (.slice B m d) W)
  have HRM := Lib.hid (fun (W : World) => rstCmp_any ep ro fp so (.slice A n c) (.slice B m d) W)
  obtain ⟨z, hz⟩ : ∃ z, z = cmpS ep ro fp so := ⟨_, rfl⟩
  rw [← hz] at HCM HRM
  have HCS := Lib.hid (fun (W : World) h0 h1 => stSame_any ep ro fp so A B n c m d xs ys W hn hm h0 h1 (by unfold maxLen; omega))
  have HRS := Lib.hid (fun (W : World) h0 h1 => rsame_any ep ro fp so A B n c m d xs ys W hn hm h0 h1 (by unfold maxLen; omega))
  obtain ⟨sb, hsb⟩ : ∃ sb, sb = decide ((ep : Int) = fp ∧ (ro : Int) = so ∧ xs = ys) := ⟨_, rfl⟩
  rw [← hsb] at HCS HRS
  have HCK := Lib.hid (fun (W : World) h0 => stCheck_bad (ep := ep) (ro := ro) (A := A) (n := n) (c := c) W hn h0 hg)
  have HRK := Lib.hid (fun (W : World) h0 => rstCheck_bad (ep := ep) (ro := ro) (A := A) (n := n) (c := c) W hn hnc h0 hg)
  have HCP := Lib.hid (fun (W : World) h0 => stPut_bad ep ro A n c xs W hn h0 hg)
  have HRP := Lib.hid (fun (W : World) h0 => rstPut_bad ep ro A n c xs W hn hnc h0 hg)
  have HSB := Lib.hid (fun (W : World) => sameB_refl none none 0 0 0 [] [] W rfl rfl rfl (fun x hx => by cases hx) (.inl rfl) (.inl rfl))
  clear hx hy hn hm hg hz hsb hep hro
  go_enter Try.func6, Try.ntmps6
  go_wp2_with (first
    | (go_at_call 9; refine (live4_any _).mono ?_; rintro e w1 ⟨rfl, hb1⟩; have H6 := Lib.hid (st6_below H6.out hb1); obtain ⟨⟨a1, a2, a3⟩, b1, b2, b3⟩ := H6.out; have HBX := Lib.hid (bgo (bal (bal brf _) _) hb1))
    | (go_at_call 14; refine (short_any _ 2 _ [n, m] _ rfl (stRow2 _ _ _ _ _ _ _ _ _ _ _ _) (by omega)).mono ?_; rintro e w2 ⟨he, hb2⟩; rw [HS.out] at he; subst he; have hb2 := bgo (bal brf _) hb2; have H6 := Lib.hid (st6_below H6.out hb2); obtain ⟨⟨a1, a2, a3⟩, b1, b2, b3⟩ := H6.out; have HBX := Lib.hid (bgo HBX.out hb2))
    | (go_at_call 13; refine (HCP.out _ (HX.out.below HBX.out)).mono ?_; rintro e w3 ⟨rfl, hb3⟩; have H6 := Lib.hid (st6_below H6.out hb3); obtain ⟨⟨a1, a2, a3⟩, b1, b2, b3⟩ := H6.out; have HBX := Lib.hid (bgo HBX.out hb3))
    | (go_at_call 16; refine (HRP.out _ (HX.out.below HBX.out)).mono ?_; rintro e w4 ⟨rfl, hb4⟩; have H6 := Lib.hid (st6_below H6.out hb4); obtain ⟨⟨a1, a2, a3⟩, b1, b2, b3⟩ := H6.out; have HBX := Lib.hid (bgo HBX.out hb4))
    | fail)
  have hS : ST6B w4 w4.drew w.heap.size (w.heap.size + 1) ep ro (.slice A n c) fp so (.slice B m d) := ⟨bdr brf, H6.out⟩
  have HXW := Lib.hid (HX.out.below HBX.out)
  have HYW := Lib.hid (HY.out.below HBX.out)
  clear H6 a1 a2 a3 b1 b2 b3 HX HY HCP HRP hb1 hb2 hb3 hb4
  go_region_held3 (fun x => ST6B w4 x w.heap.size (w.heap.size + 1) ep ro (.slice A n c) fp so (.slice B m d)) (with_reducible exact hS)
    (first
    | (go_at_call 17; go_must (refine (HCK.out _ (HXW.out.below hS.1)).mono ?_; rintro e w' ⟨rfl, hb⟩; have hS := st6B_below hS hb; clear hb))
    | (go_at_call 18; go_must (refine (HRK.out _ (HXW.out.below hS.1)).mono ?_; rintro e w' ⟨rfl, hb⟩; have hS := st6B_below hS hb; clear hb))
    | (go_at_call 15; go_must (refine (HCM.out _).mono ?_; rintro e w' ⟨rfl, hb⟩; have hS := st6B_below hS hb; clear hb))
    | (go_at_call 19; go_must (refine (HRM.out _).mono ?_; rintro e w' ⟨rfl, hb⟩; have hS := st6B_below hS hb; clear hb))
    | (go_at_call 20; go_must (refine (HCS.out _ (HXW.out.below hS.1) (HYW.out.below hS.1)).mono ?_; rintro e w' ⟨rfl, hb⟩; have hS := st6B_below hS hb; clear hb))
    | (go_at_call 12; go_must (refine (HRS.out _ (HXW.out.below hS.1) (HYW.out.below hS.1)).mono ?_; rintro e w' ⟨rfl, hb⟩; have hS := st6B_below hS hb; clear hb))
    | (go_at_call 21; go_must (refine (HSB.out _).mono ?_; rintro e w' ⟨rfl, rfl⟩)))
  go_wp2_with fail
  go_ret
  exact ⟨by simp, bgo HBX.out hS.1⟩

open Go.Joins Go.Deep in
theorem stampTells_of {H : Type} {enc : TypeId × Value → H} (W : World) (base : Nat) (args : Array Value) (ds : List (DataW H)) (p : List MemPlace)
    (hval : ∀ (j : Nat) t v, Try.f6.params[j]? = some t → args[j]? = some v → Value.okWide Try.prog W .any base t v)
    (hA : DataW.TrodAll enc Try.prog W 0 (fun _ => true) true Try.f6.params.toList args.toList ds p) (hlt : ∀ x ∈ p, x.block < W.heap.size)
    (hz : (DataW.weightsEach Try.prog Try.f6.params.toList ds).all (· ≤ reachBytes) = true) : Calls Try.prog 6 args W (Yes W) := by
  rw [Try.params6] at hA hval hz
  obtain ⟨v0, vs0, d0, ds0, p0, q0, hargs, rfl, rfl, h0, r0⟩ := trodAll_cons hA
  obtain ⟨v1, vs1, d1, ds1, p1, q1, rfl, rfl, rfl, h1, r1⟩ := trodAll_cons r0
  obtain ⟨rfl, rfl, rfl⟩ := trodAll_nil r1
  obtain rfl : args = #[v0, v1] := by cases args; simp_all
  obtain ⟨ep, ro, A, n, c, xs, rfl, g1, g2, g3, g4, g5, g6, g7⟩ := open_stamp (hval 0 _ _ rfl rfl) h0
  obtain ⟨fp, so, B, m, d, ys, rfl, a1, a2, a3, a4, a5, a6, a7⟩ := open_stamp (hval 1 _ _ rfl rfl) h1
  by_cases hs : n ≤ 60 ∧ m ≤ 60
  · by_cases hg : goodSt xs
    · exact stampTells_y ep ro fp so A B n c m d xs ys W g3 g1 g4 g5 g6 a3 a4 hs hg
    · exact stampTells_n ep ro fp so A B n c m d xs ys W g3 g1 g4 g5 g6 a3 a4 hs hg
  · exact stampTells_long ep ro fp so A B n c m d W hs
end Go.Proofs.Ytmkmndgdakpojaa
