/- Whether bytes are a tag; the law of tags. -/
import Derived.Test.YtklamgdgdamcgaaDoorMh
namespace Go.Proofs.YtklamgdgdamcgaaDoor
open Go.RowKit Go.ChangeShapes Go.WideShapes Go.ChangeAt
set_option linter.unusedSimpArgs false
set_option linter.unusedVariables false

theorem tag_len (k b : List Int) : (tagL k b).length = 32 := sumL_len _
theorem tag_byt (k b : List Int) : Byt (tagL k b) := sumL_byt _
theorem equal_any (A B : Option Addr) (n c m d : Nat) (xs ys : List Int) (w : World) (hn : xs.length = n) (hm : ys.length = m) (hx : Rd w A (nums .u8 xs)) (hy : Rd w B (nums .u8 ys)) (bx : Byt xs) (by_ : Byt ys) :
    Calls Tryd.prog 57 #[.slice A n c, .slice B m d] w (IsSameB w xs ys) := by
  obtain ⟨s, hs, h1⟩ := conv_bytes (c := c) hx
  obtain ⟨t, ht, h2⟩ := conv_bytes (c := d) hy
  rw [hn] at h1
  rw [hm] at h2
  have HS := Lib.hid hs
  have HT := Lib.hid ht
  clear hs ht hn hm hx hy
  go_enter Tryd.func57, Tryd.ntmps57
  go_wp2
  go_ret
  have e : (s.toList == t.toList) = decide (xs = ys) := by
    have HS : s = strOfNums xs := HS
    have HT : t = strOfNums ys := HT
    by_cases h : xs = ys
    · subst h
      rw [HS, HT]
      simp
    · have h3 : s.toList ≠ t.toList := by
        intro h4
        apply h
        apply str_inj bx by_
        rw [← HS, ← HT]
        exact bytes_inj h4
      simp [h, h3]
  rw [e]
  exact ⟨rfl, rfl⟩

/-- The number of an error: of bytes that are no tag. -/
def badTag (key b tag : List Int) : Int := if tag = tagL key b then 0 else 4
theorem check_tag (A B T : Option Addr) (n c m d t f : Nat) (key b tag : List Int) (w : World) (hn : key.length = n) (hm : b.length = m) (ht : tag.length = t) (hbn : n ≤ 4000) (hbm : m ≤ 3000) (hx : Rd w A (nums .u8 key)) (hy : Rd w B (nums .u8 b)) (hz : Rd w T (nums .u8 tag)) (hbt : Byt tag) (hK : Konst w) :
    Calls Tryd.prog 21 #[.slice A n c, .slice B m d, .slice T t f] w fun e w' => e = .returned (.int .i64 (badTag key b tag)) ∧ Below w.heap.size w w' := by
  have CT := tag_any A B n c m d key b w hn hm hbn hbm hx hy hK
  have HZ := Lib.hid hz
  have HT := Lib.hid ht
  have CE := fun A1 c1 W (h1 : Rd W T (nums .u8 tag)) (h2 : Rd W A1 (nums .u8 (tagL key b))) => equal_any T A1 t f 32 c1 tag (tagL key b) W HT.out (tag_len _ _) h1 h2 hbt (tag_byt _ _)
  by_cases he : tag = tagL key b
  · have hv : badTag key b tag = 0 := by rw [badTag, if_pos he]
    rw [hv]
    have hd : decide (tag = tagL key b) = true := decide_eq_true he
    have HD := Lib.hid hd
    clear hn hm ht hx hy hz he hv hd
    go_enter Tryd.func21, Tryd.ntmps21
    go_wp2_with (first
      | (go_at_call 19; refine CT.mono ?_; rintro e w1 ⟨B1, c1, rfl, hc1, hl1, hr1, hb1⟩; rw [tag_len] at hc1 ⊢)
      | (go_at_call 57; refine (CE _ _ _ (HZ.out.below hb1) hr1).mono ?_; rintro e w2 ⟨he, rfl⟩; rw [HD.out] at he; subst he))
    go_ret
    exact ⟨rfl, hb1⟩
  · have hv : badTag key b tag = 4 := by rw [badTag, if_neg he]
    rw [hv]
    have hd : decide (tag = tagL key b) = false := decide_eq_false he
    have HD := Lib.hid hd
    clear hn hm ht hx hy hz he hv hd
    go_enter Tryd.func21, Tryd.ntmps21
    go_wp2_with (first
      | (go_at_call 19; refine CT.mono ?_; rintro e w1 ⟨B1, c1, rfl, hc1, hl1, hr1, hb1⟩; rw [tag_len] at hc1 ⊢)
      | (go_at_call 57; refine (CE _ _ _ (HZ.out.below hb1) hr1).mono ?_; rintro e w2 ⟨he, rfl⟩; rw [HD.out] at he; subst he))
    go_ret
    exact ⟨rfl, hb1⟩
theorem rcheck_tag (A B T : Option Addr) (n c m d t f : Nat) (key b tag : List Int) (w : World) (hn : key.length = n) (hm : b.length = m) (ht : tag.length = t) (hbn : n ≤ 4000) (hbm : m ≤ 3000) (hx : Rd w A (nums .u8 key)) (hy : Rd w B (nums .u8 b)) (hz : Rd w T (nums .u8 tag)) (hbt : Byt tag) :
    Calls Tryd.prog 22 #[.slice A n c, .slice B m d, .slice T t f] w fun e w' => e = .returned (.int .i64 (badTag key b tag)) ∧ Below w.heap.size w w' := by
  have CT := rtag_any A B n c m d key b w hn hm hbn hbm hx hy
  have HZ := Lib.hid hz
  have HT := Lib.hid ht
  have CE := fun A1 c1 W (h1 : Rd W T (nums .u8 tag)) (h2 : Rd W A1 (nums .u8 (tagL key b))) => Go.Proofs.YtklamgdgdamcgaaDoor.same_any A1 T 32 c1 t f (tagL key b) tag W (tag_len _ _) HT.out h2 h1 (tag_byt _ _) hbt
  by_cases he : tag = tagL key b
  · have hv : badTag key b tag = 0 := by rw [badTag, if_pos he]
    rw [hv]
    have hd : decide (tagL key b = tag) = true := decide_eq_true he.symm
    have HD := Lib.hid hd
    clear hn hm ht hx hy hz he hv hd
    go_enter Tryd.func22, Tryd.ntmps22
    go_wp2_with (first
      | (go_at_call 20; refine CT.mono ?_; rintro e w1 ⟨B1, c1, rfl, hc1, hl1, hr1, hb1⟩; rw [tag_len] at hc1 ⊢)
      | (go_at_call 18; refine (CE _ _ _ (HZ.out.below hb1) hr1).mono ?_; rintro e w2 ⟨he, rfl⟩; rw [HD.out] at he; subst he))
    go_ret
    exact ⟨rfl, hb1⟩
  · have hv : badTag key b tag = 4 := by rw [badTag, if_neg he]
    rw [hv]
    have hd : decide (tagL key b = tag) = false := decide_eq_false (fun h => he h.symm)
    have HD := Lib.hid hd
    clear hn hm ht hx hy hz he hv hd
    go_enter Tryd.func22, Tryd.ntmps22
    go_wp2_with (first
      | (go_at_call 20; refine CT.mono ?_; rintro e w1 ⟨B1, c1, rfl, hc1, hl1, hr1, hb1⟩; rw [tag_len] at hc1 ⊢)
      | (go_at_call 18; refine (CE _ _ _ (HZ.out.below hb1) hr1).mono ?_; rintro e w2 ⟨he, rfl⟩; rw [HD.out] at he; subst he))
    go_ret
    exact ⟨rfl, hb1⟩

theorem Konst.le {w : World} (h : Konst w) : 0 < w.heap.size := cell_lt (h 0 (by omega))
theorem Konst.go {w w' : World} (h : Konst w) (hb : Below w.heap.size w w') : Konst w' := h.below hb h.le

set_option maxHeartbeats 1000000 in
theorem macTags_walk (A B T : Option Addr) (n c m d t f : Nat) (key b tag : List Int) (w : World) (hn : key.length = n) (hm : b.length = m) (ht : tag.length = t) (hx : Rd w A (nums .u8 key)) (hy : Rd w B (nums .u8 b)) (hz : Rd w T (nums .u8 tag)) (hbt : Byt tag) (hK : Konst w) :
    Calls Tryd.prog 5 #[.slice A n c, .slice B m d, .slice T t f] w (Yes w) := by
  have HX := Lib.hid hx
  have HY := Lib.hid hy
  have HZ := Lib.hid hz
  have HN := Lib.hid hn
  have HM := Lib.hid hm
  have HT := Lib.hid ht
  have HK := Lib.hid hK
  clear hx hy hz hn hm ht hK
  by_cases h1 : 300 < n
  · have q : (300 : Int) < n := by omega
    go_enter Tryd.func5, Tryd.ntmps5
    go_wp2_with (go_at_call 16; refine (live2_any _ HK.out).mono ?_; rintro e w1 ⟨rfl, hb1⟩)
    go_ret
    exact ⟨rfl, hb1⟩
  have q1 : ¬ (300 : Int) < n := by omega
  by_cases h2 : 1000 < m
  · have q : (1000 : Int) < m := by omega
    go_enter Tryd.func5, Tryd.ntmps5
    go_wp2_with (go_at_call 16; refine (live2_any _ HK.out).mono ?_; rintro e w1 ⟨rfl, hb1⟩)
    go_ret
    exact ⟨rfl, hb1⟩
  have q2 : ¬ (1000 : Int) < m := by omega
  by_cases h3 : 100 < t
  · have q : (100 : Int) < t := by omega
    go_enter Tryd.func5, Tryd.ntmps5
    go_wp2_with (go_at_call 16; refine (live2_any _ HK.out).mono ?_; rintro e w1 ⟨rfl, hb1⟩)
    go_ret
    exact ⟨rfl, hb1⟩
  have q3 : ¬ (100 : Int) < t := by omega
  have CT := fun W h1 h2 hK => tag_any A B n c m d key b W HN.out HM.out (by omega) (by omega) h1 h2 hK
  have CR := fun W h1 h2 => rtag_any A B n c m d key b W HN.out HM.out (by omega) (by omega) h1 h2
  have CS := fun A1 A2 c1 c2 W h1 h2 => same_true A1 A2 32 c1 32 c2 (tagL key b) (tagL key b) W rfl (tag_len _ _) (tag_len _ _) h1 h2 (tag_byt _ _)
  have CK := fun W h1 h2 h3 hK => check_tag A B T n c m d t f key b tag W HN.out HM.out HT.out (by omega) (by omega) h1 h2 h3 hbt hK
  have CJ := fun A1 c1 W h1 h2 h3 hK => check_tag A B A1 n c m d 32 c1 key b (tagL key b) W HN.out HM.out (tag_len _ _) (by omega) (by omega) h1 h2 h3 (tag_byt _ _) hK
  rw [show badTag key b (tagL key b) = 0 by rw [badTag, if_pos rfl]] at CJ
  have CL := fun W h1 h2 h3 => rcheck_tag A B T n c m d t f key b tag W HN.out HM.out HT.out (by omega) (by omega) h1 h2 h3 hbt
  obtain ⟨z, hz⟩ : ∃ z, z = badTag key b tag := ⟨_, rfl⟩
  rw [← hz] at CK CL
  clear hz
  go_enter Tryd.func5, Tryd.ntmps5
  go_wp2_with (first
    | (go_at_call 16; refine (live2_any _ HK.out).mono ?_; rintro e w1 ⟨rfl, hb1⟩; have HBX := hb1)
    | (go_at_call 19; refine (CT _ (HX.out.below HBX) (HY.out.below HBX) (HK.out.go HBX)).mono ?_; rintro e w2 ⟨B2, c2, rfl, hc2, hl2, hr2, hb2⟩; rw [tag_len] at hc2 ⊢; have HR2 := Lib.hid hr2; have HBX := bgo HBX hb2)
    | (go_at_call 20; refine (CR _ (HX.out.below HBX) (HY.out.below HBX)).mono ?_; rintro e w3 ⟨B3, c3, rfl, hc3, hl3, hr3, hb3⟩; rw [tag_len] at hc3 ⊢; have HR2 := Lib.hid (HR2.out.below hb3); have HBX := bgo HBX hb3)
    | (go_at_call 18; refine (CS _ _ _ _ _ HR2.out hr3).mono ?_; rintro e w4 ⟨rfl, rfl⟩)
    | (go_at_call 21; first
        | ((with_reducible refine (CK _ (HX.out.below HBX) (HY.out.below HBX) (HZ.out.below HBX) (HK.out.go HBX)).mono ?_); rintro e w5 ⟨rfl, hb5⟩; have HBX := bgo HBX hb5; have HR2 := Lib.hid (HR2.out.below hb5))
        | ((with_reducible refine (CJ (some ⟨B2, 0, none⟩) c2 _ (HX.out.below HBX) (HY.out.below HBX) HR2.out (HK.out.go HBX)).mono ?_); rintro e w6 ⟨rfl, hb6⟩; have HBX := bgo HBX hb6))
    | (go_at_call 22; refine (CL _ (HX.out.below HBX) (HY.out.below HBX) (HZ.out.below HBX)).mono ?_; rintro e w7 ⟨rfl, hb7⟩; have HBX := bgo HBX hb7; have HR2 := Lib.hid (HR2.out.below hb7)))
  go_ret
  exact ⟨rfl, HBX⟩

theorem macTags_of {H : Type} {enc : TypeId × Value → H} (W : World) (base : Nat) (args : Array Value) (ds : List (DataW H)) (p : List MemPlace)
    (hval : ∀ (j : Nat) t v, Tryd.f5.params[j]? = some t → args[j]? = some v → Value.okWide Tryd.prog W .any base t v)
    (hA : DataW.TrodAll enc Tryd.prog W 0 (fun _ => true) true Tryd.f5.params.toList args.toList ds p) (hlt : ∀ x ∈ p, x.block < W.heap.size)
    (hz : (DataW.weightsEach Tryd.prog Tryd.f5.params.toList ds).all (· ≤ reachBytes) = true) (hK : Konst W) : Calls Tryd.prog 5 args W (Yes W) := by
  rw [Tryd.params5] at hA hval hz
  obtain ⟨v0, vs0, d0, ds0, p0, q0, hargs, rfl, rfl, h0, r0⟩ := trodAll_cons hA
  obtain ⟨v1, vs1, d1, ds1, p1, q1, rfl, rfl, rfl, h1, r1⟩ := trodAll_cons r0
  obtain ⟨v2, vs2, d2, ds2, p2, q2, rfl, rfl, rfl, h2, r2⟩ := trodAll_cons r1
  obtain ⟨rfl, rfl, rfl⟩ := trodAll_nil r2
  obtain rfl : args = #[v0, v1, v2] := by cases args; simp_all
  obtain ⟨A, n, c, xs, rfl, hn, hr, hb⟩ := open_bytes h0 (hval 0 _ _ rfl rfl)
  obtain ⟨B, m, d, ys, rfl, hm, hs, hc⟩ := open_bytes h1 (hval 1 _ _ rfl rfl)
  obtain ⟨T, t, f, zs, rfl, ht, hu, hd⟩ := open_bytes h2 (hval 2 _ _ rfl rfl)
  exact macTags_walk A B T n c m d t f xs ys zs W hn hm ht hr hs hu hd hK
end Go.Proofs.YtklamgdgdamcgaaDoor
