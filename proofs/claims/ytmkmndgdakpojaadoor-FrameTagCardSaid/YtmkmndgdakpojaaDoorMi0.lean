/- Whether bytes are a tag; the law of tags. -/
import Derived.Test.YtmkmndgdakpojaaDoorMh
namespace Go.Proofs.YtmkmndgdakpojaaDoor
open Go.RowKit Go.ChangeShapes Go.WideShapes Go.ChangeAt
set_option linter.unusedSimpArgs false
set_option linter.unusedVariables false
set_option maxRecDepth 100000

theorem tag_len (k b : List Int) : (tagL k b).length = 32 := sumL_len _
theorem tag_byt (k b : List Int) : Byt (tagL k b) := sumL_byt _
theorem equal_any (A B : Option Addr) (n c m d : Nat) (xs ys : List Int) (w : World) (hn : xs.length = n) (hm : ys.length = m) (hx : Rd w A (nums .u8 xs)) (hy : Rd w B (nums .u8 ys)) (bx : Byt xs) (by_ : Byt ys) :
    Calls Tryd.prog 39 #[.slice A n c, .slice B m d] w (IsSameB w xs ys) := by
  obtain ⟨s, hs, h1⟩ := conv_bytes (c := c) hx
  obtain ⟨t, ht, h2⟩ := conv_bytes (c := d) hy
  rw [hn] at h1
  rw [hm] at h2
  have HS := Lib.hid hs
  have HT := Lib.hid ht
  clear hs ht hn hm hx hy
  go_enter Tryd.func39, Tryd.ntmps39
  go_wp2
  go_ret
  have e : (s.toList == t.toList) = decide (xs = ys) := by
    have HS : s = strOfNums xs := HS
    have HT : t = strOfNums ys := HT
    by_cases h : xs = ys
    · subst h
      rw [HS, HT]
      simp
    · have h3 : s.toList ≠ t.toList := by
        intro h4
        apply h
        apply str_inj bx by_
        rw [← HS, ← HT]
        exact bytes_inj h4
      simp [h, h3]
  rw [e]
  exact ⟨rfl, rfl⟩

/-- The number of an error: of bytes that are no tag. -/
def badTag (key b tag : List Int) : Int := if tag = tagL key b then 0 else 4
theorem check_tag (A B T : Option Addr) (n c m d t f : Nat) (key b tag : List Int) (w : World) (hn : key.length = n) (hm : b.length = m) (ht : tag.length = t) (hbn : n ≤ 4000) (hbm : m ≤ 3000) (hx : Rd w A (nums .u8 key)) (hy : Rd w B (nums .u8 b)) (hz : Rd w T (nums .u8 tag)) (hbt : Byt tag) (hK : Konst w) :
    Calls Tryd.prog 22 #[.slice A n c, .slice B m d, .slice T t f] w fun e w' => e = .returned (.int .i64 (badTag key b tag)) ∧ Below w.heap.size w w' := by
  have CT := tag_any A B n c m d key b w hn hm hbn hbm hx hy hK
  have HZ := Lib.hid hz
  have HT := Lib.hid ht
  have CE := fun A1 c1 W (h1 : Rd W T (nums .u8 tag)) (h2 : Rd W A1 (nums .u8 (tagL key b))) => equal_any T A1 t f 32 c1 tag (tagL key b) W HT.out (tag_len _ _) h1 h2 hbt (tag_byt _ _)
  by_cases he : tag = tagL key b
  · have hv : badTag key b tag = 0 := by rw [badTag, if_pos he]
    rw [hv]
    have hd : decide (tag = tagL key b) = true := decide_eq_true he
    have HD := Lib.hid hd
    clear hn hm ht hx hy hz he hv hd
    go_enter Tryd.func22, Tryd.ntmps22
    go_wp2_with (first
      | (go_at_call 16; refine CT.mono ?_; rintro e w1 ⟨B1, c1, rfl, hc1, hl1, hr1, hb1⟩; rw [tag_len] at hc1 ⊢)
      | (go_at_call 39; refine (CE _ _ _ (HZ.out.below hb1) hr1).mono ?_; rintro e w2 ⟨he, rfl⟩; rw [HD.out] at he; subst he))
    go_ret
    exact ⟨rfl, hb1⟩
  · have hv : badTag key b tag = 4 := by rw [badTag, if_neg he]
    rw [hv]
    have hd : decide (tag = tagL key b) = false := decide_eq_false he
    have HD := Lib.hid hd
    clear hn hm ht hx hy hz he hv hd
    go_enter Tryd.func22, Tryd.ntmps22
    go_wp2_with (first
      | (go_at_call 16; refine CT.mono ?_; rintro e w1 ⟨B1, c1, rfl, hc1, hl1, hr1, hb1⟩; rw [tag_len] at hc1 ⊢)
      | (go_at_call 39; refine (CE _ _ _ (HZ.out.below hb1) hr1).mono ?_; rintro e w2 ⟨he, rfl⟩; rw [HD.out] at he; subst he))
    go_ret
    exact ⟨rfl, hb1⟩
theorem rcheck_tag (A B T : Option Addr) (n c m d t f : Nat) (key b tag : List Int) (w : World) (hn : key.length = n) (hm : b.length = m) (ht : tag.length = t) (hbn : n ≤ 4000) (hbm : m ≤ 3000) (hx : Rd w A (nums .u8 key)) (hy : Rd w B (nums .u8 b)) (hz : Rd w T (nums .u8 tag)) (hbt : Byt tag) :
    Calls Tryd.prog 26 #[.slice A n c, .slice B m d, .slice T t f] w fun e w' => e = .returned (.int .i64 (badTag key b tag)) ∧ Below w.heap.size w w' := by
  have CT := rtag_any A B n c m d key b w hn hm hbn hbm hx hy
  have HZ := Lib.hid hz
  have HT := Lib.hid ht
  have CE := fun A1 c1 W (h1 : Rd W T (nums .u8 tag)) (h2 : Rd W A1 (nums .u8 (tagL key b))) => Go.Proofs.YtmkmndgdakpojaaDoor.same_any A1 T 32 c1 t f (tagL key b) tag W (tag_len _ _) HT.out h2 h1 (tag_byt _ _) hbt
  by_cases he : tag = tagL key b
  · have hv : badTag key b tag = 0 := by rw [badTag, if_pos he]
    rw [hv]
    have hd : decide (tagL key b = tag) = true := decide_eq_true he.symm
    have HD := Lib.hid hd
    clear hn hm ht hx hy hz he hv hd
    go_enter Tryd.func26, Tryd.ntmps26
    go_wp2_with (first
      | (go_at_call 35; refine CT.mono ?_; rintro e w1 ⟨B1, c1, rfl, hc1, hl1, hr1, hb1⟩; rw [tag_len] at hc1 ⊢)
      | (go_at_call 14; refine (CE _ _ _ (HZ.out.below hb1) hr1).mono ?_; rintro e w2 ⟨he, rfl⟩; rw [HD.out] at he; subst he))
    go_ret
    exact ⟨rfl, hb1⟩
  · have hv : badTag key b tag = 4 := by rw [badTag, if_neg he]
    rw [hv]
    have hd : decide (tagL key b = tag) = false := decide_eq_false (fun h => he h.symm)
    have HD := Lib.hid hd
    clear hn hm ht hx hy hz he hv hd
    go_enter Tryd.func26, Tryd.ntmps26
    go_wp2_with (first
      | (go_at_call 35; refine CT.mono ?_; rintro e w1 ⟨B1, c1, rfl, hc1, hl1, hr1, hb1⟩; rw [tag_len] at hc1 ⊢)
      | (go_at_call 14; refine (CE _ _ _ (HZ.out.below hb1) hr1).mono ?_; rintro e w2 ⟨he, rfl⟩; rw [HD.out] at he; subst he))
    go_ret
    exact ⟨rfl, hb1⟩

theorem Konst.le {w : World} (h : Konst w) : 0 < w.heap.size := cell_lt (h 0 (by omega))
theorem Konst.go {w w' : World} (h : Konst w) (hb : Below w.heap.size w w') : Konst w' := h.below hb h.le
end Go.Proofs.YtmkmndgdakpojaaDoor
