/- The document's tag: its contract. -/
import Derived.Test.YtmkmndgdakpojaaDoorMg0
import Derived.Test.YtmkmndgdakpojaaDoorApp
namespace Go.Proofs.YtmkmndgdakpojaaDoor
open Go.RowKit
set_option linter.unusedSimpArgs false
set_option linter.unusedVariables false
set_option maxRecDepth 100000

theorem nums_u8_one {xs : List Int} : ∀ u ∈ nums .u8 xs, u.oneCell' = true := fun u hu => by
  obtain ⟨x, _, rfl⟩ := List.mem_map.1 hu; rfl

/-- A row of one's own that reads as bytes, empty let in. -/
def IsRowO (w : World) (ys : List Int) (e : Ending) (w' : World) : Prop :=
  ∃ A c, e = .returned (.slice A ys.length c) ∧ w'.ownsRow w.heap.size 5 1 (.slice A ys.length c) ys.length (nums .u8 ys) ∧ Below w.heap.size w w'

theorem isRowO_mk {w w' : World} {ys : List Int} {A : Option Addr} {n c : Nat} (hl : ys.length = n) (h : w'.ownsRow w.heap.size 5 1 (.slice A n c) n (nums .u8 ys)) (hb : Below w.heap.size w w') : IsRowO w ys (.returned (.slice A n c)) w' := by
  subst hl
  exact ⟨A, c, rfl, h, hb⟩

theorem zeros_snoc (l : List Int) (k : Nat) (h : k < 64 - l.length) : l ++ List.replicate (k + 1) (0 : Int) = (l ++ List.replicate k 0) ++ [0] := by
  rw [List.append_assoc, List.replicate_succ']

set_option maxHeartbeats 1000000 in
theorem rkey_any (A : Option Addr) (n c : Nat) (key : List Int) (w : World) (hn : key.length = n) (hb : n ≤ 4000) (hx : Rd w A (nums .u8 key)) :
    Calls Tryd.prog 46 #[.slice A n c] w (IsRowO w (blockL key)) := by
  obtain ⟨i0, hi, hz0, hz1, hz2⟩ := info_parts infoByte
  have HX := Lib.hid hx
  have HN := Lib.hid hn
  have hnl : (nums .u8 key).length = n := by simp [hn]
  have HNL := Lib.hid hnl
  clear hx hn hnl
  by_cases hbig : 64 < n
  · have q : (64 : Int) < n := by omega
    have hs : shortL key = sumL key := by unfold shortL; rw [if_pos (by rw [HN.out]; exact hbig)]
    have hbl : blockL key = sumL key ++ List.replicate 32 0 := by unfold blockL; rw [hs, sumL_len]
    rw [hbl]
    have CS := fun W (hr : Rd W A (nums .u8 key)) => rsumO_any A n c key W HN.out hb hr
    have hsl : (sumL key).length = 32 := sumL_len key
    obtain ⟨s, hse⟩ : ∃ s, s = sumL key := ⟨_, rfl⟩
    rw [← hse] at hsl CS ⊢
    have HSL := Lib.hid hsl
    clear hs hbl hsl hse
    go_enter Tryd.func46, Tryd.ntmps46
    go_wp2_with (first
      | (at_builtin; refine append_vs rfl _ _ 22 rfl w.heap.size 5 i0 (.int .u8 0) 1 Tryd.underlying22 hi hz0 hz1 hz2 rfl (.slice none 0 0) 0 [] rfl ⟨rfl, .inl ⟨rfl, rfl⟩⟩ A n c (nums .u8 key) rfl HNL.out HX.out nums_u8_one (by unfold maxLen; omega) (by omega) (Nat.le_refl _) ?_; intro v5 w5 hown5 hgrow5; rw [Nat.zero_add, List.nil_append] at hown5; obtain ⟨A5, c5, rfl⟩ := own_slice hown5; have hb5 : Below w.heap.size w w5 := brf.grown hgrow5 (Nat.le_refl _) (fun k e => by simp [Value.ownBlock] at e); clear hown5 hgrow5)
      | (go_at_call 47; refine (CS _ (HX.out.below hb5)).mono ?_; rintro e w6 ⟨B6, c6, rfl, hown6, hb6⟩; rw [HSL.out] at hown6 ⊢))
    have hb56 := bgo hb5 hb6
    have hz56 := hb5.size
    have hown6 := own_base (b := w.heap.size) hown6 hz56
    go_loopw [3] (fun v wr => ∃ k : Nat, k ≤ 32 ∧ (∃ A c, v = .slice A (32 + k) c) ∧ wr.ownsRow w.heap.size 5 1 v (32 + k) (nums .u8 (s ++ List.replicate k 0)) ∧ Below w.heap.size w wr) (fun v _ => 64 - (match v with | .slice _ n _ => n | _ => 0))
    case atStart => exact ⟨0, Nat.zero_le _, ⟨_, _, rfl⟩, by simpa using hown6, hb56⟩
    case round =>
      obtain ⟨k, hk, ⟨A3, c3, rfl⟩, hown, hb⟩ := hrel
      have hzz := hb.size
      by_cases hlt : k < 32
      · have r1 : (32 : Int) + k < 64 := by omega
        go_wp2_with (at_builtin; refine append_one rfl _ _ 22 rfl w.heap.size 5 i0 (.int .u8 0) 1 Tryd.underlying22 hi hz0 hz1 hz2 rfl _ _ _ rfl hown _ _ rfl rfl (by unfold maxLen; omega) (by omega) hzz ?_; intro v6 w6 hown6 hgrow6; obtain ⟨A6, c6, rfl⟩ := own_slice hown6)
        refine ⟨⟨k + 1, by omega, ⟨A6, c6, by congr 1⟩, ?_, keep_below hown hgrow6 hb hzz (Nat.le_refl _)⟩, by show 64 - (32 + k + 1) < 64 - (32 + k); omega⟩
        rw [zeros_snoc s k (by rw [HSL.out]; exact hlt), nums, List.map_append]
        exact hown6
      · have hk32 : k = 32 := by omega
        subst hk32
        go_wp2_with fail
        go_ret
        have : (s ++ List.replicate 32 (0 : Int)).length = 64 := by simp [HSL.out]
        exact isRowO_mk this hown hb
  · have q : ¬ (64 : Int) < n := by omega
    have hs : shortL key = key := by unfold shortL; rw [if_neg (by rw [HN.out]; exact hbig)]
    have hbl : blockL key = key ++ List.replicate (64 - n) 0 := by unfold blockL; rw [hs, HN.out]
    rw [hbl]
    clear hs hbl
    go_enter Tryd.func46, Tryd.ntmps46
    go_wp2_with (at_builtin; refine append_vs rfl _ _ 22 rfl w.heap.size 5 i0 (.int .u8 0) 1 Tryd.underlying22 hi hz0 hz1 hz2 rfl (.slice none 0 0) 0 [] rfl ⟨rfl, .inl ⟨rfl, rfl⟩⟩ A n c (nums .u8 key) rfl HNL.out HX.out nums_u8_one (by unfold maxLen; omega) (by omega) (Nat.le_refl _) ?_; intro v5 w5 hown5 hgrow5; rw [Nat.zero_add, List.nil_append] at hown5; obtain ⟨A5, c5, rfl⟩ := own_slice hown5; have hb5 : Below w.heap.size w w5 := brf.grown hgrow5 (Nat.le_refl _) (fun k e => by simp [Value.ownBlock] at e); clear hgrow5)
    go_loopw [3] (fun v wr => ∃ k : Nat, n + k ≤ 64 ∧ (∃ A c, v = .slice A (n + k) c) ∧ wr.ownsRow w.heap.size 5 1 v (n + k) (nums .u8 (key ++ List.replicate k 0)) ∧ Below w.heap.size w wr) (fun v _ => 64 - (match v with | .slice _ n _ => n | _ => 0))
    case atStart => exact ⟨0, by omega, ⟨_, _, rfl⟩, by simpa using hown5, hb5⟩
    case round =>
      obtain ⟨k, hk, ⟨A3, c3, rfl⟩, hown, hb⟩ := hrel
      have hzz := hb.size
      by_cases hlt : n + k < 64
      · have r1 : (n : Int) + k < 64 := by omega
        go_wp2_with (at_builtin; refine append_one rfl _ _ 22 rfl w.heap.size 5 i0 (.int .u8 0) 1 Tryd.underlying22 hi hz0 hz1 hz2 rfl _ _ _ rfl hown _ _ rfl rfl (by unfold maxLen; omega) (by omega) hzz ?_; intro v6 w6 hown6 hgrow6; obtain ⟨A6, c6, rfl⟩ := own_slice hown6)
        refine ⟨⟨k + 1, by omega, ⟨A6, c6, by congr 1⟩, ?_, keep_below hown hgrow6 hb hzz (Nat.le_refl _)⟩, by show 64 - (n + k + 1) < 64 - (n + k); omega⟩
        rw [zeros_snoc key k (by rw [HN.out]; omega), nums, List.map_append]
        exact hown6
      · have hk64 : n + k = 64 := by omega
        have hk2 : k = 64 - n := by omega
        have r1 : ¬ (n : Int) + k < 64 := by omega
        have HK2 := Lib.hid hk2
        have HK64 := Lib.hid hk64
        clear hk2 hk64
        go_wp2_with fail
        go_ret
        have h2 := HK2.out
        subst h2
        have : (key ++ List.replicate (64 - n) (0 : Int)).length = n + (64 - n) := by simp [HN.out]
        exact isRowO_mk this hown hb

set_option maxHeartbeats 1000000 in
theorem with_any (A : Option Addr) (n c : Nat) (xs : List Int) (x : Int) (w : World) (hn : xs.length = n) (hb : n ≤ 4000) (hx : Rd w A (nums .u8 xs)) :
    Calls Tryd.prog 48 #[.slice A n c, .int .u8 x] w (IsRowO w (maskL xs x)) := by
  obtain ⟨i0, hi, hz0, hz1, hz2⟩ := info_parts infoByte
  have HX := Lib.hid hx
  have HN := Lib.hid hn
  clear hx hn
  go_enter Tryd.func48, Tryd.ntmps48
  go_wp2_with fail
  go_loopw [5, 10] (fun v i wr => ∃ k : Nat, k ≤ n ∧ i = .int .i64 k ∧ (∃ A c, v = .slice A k c) ∧ wr.ownsRow w.heap.size 5 1 v k (nums .u8 ((maskL xs x).take k)) ∧ Below w.heap.size w wr) (fun _ i _ => n - (intOf i).toNat)
  case atStart => exact ⟨0, Nat.zero_le _, rfl, ⟨_, _, rfl⟩, ⟨rfl, .inl ⟨rfl, rfl⟩⟩, brf⟩
  case round =>
    obtain ⟨k, hk, rfl, ⟨A5, c5, rfl⟩, hown, hb⟩ := hrel
    have hzz := hb.size
    by_cases hlt : k < n
    · have r1 : (k : Int) < n := by omega
      obtain ⟨b, o, rfl, hlb, hc⟩ := (HX.out.below hb).at_ (by simp [HN.out]; omega)
      have ck := hc k _ (nums_at (by rw [HN.out]; exact hlt))
      obtain ⟨y, hy⟩ : ∃ y, y = xs.getD k 0 := ⟨_, rfl⟩
      rw [← hy] at ck
      have htk : (maskL xs x).take (k + 1) = (maskL xs x).take k ++ [xor8 y x] := by
        rw [List.take_add_one, maskL, List.getElem?_map, List.getElem?_eq_getElem (show k < xs.length by rw [HN.out]; exact hlt), hy]
        simp [List.getD, HN.out, hlt]
      have HTK := Lib.hid htk
      clear hc hy htk
      go_wp2_with (at_builtin; refine append_one rfl _ _ 22 rfl w.heap.size 5 i0 (.int .u8 0) 1 Tryd.underlying22 hi hz0 hz1 hz2 rfl _ _ _ rfl hown _ _ rfl rfl (by unfold maxLen; omega) (by omega) hzz ?_; intro v6 w6 hown6 hgrow6; obtain ⟨A6, c6, rfl⟩ := own_slice hown6)
      refine ⟨⟨k + 1, by omega, by congr 1, ⟨A6, c6, by congr 1⟩, ?_, keep_below hown hgrow6 hb hzz (Nat.le_refl _)⟩, by show n - ((k : Int) + 1).toNat < n - (k : Int).toNat; omega⟩
      rw [HTK.out, nums, List.map_append]
      exact hown6
    · have hkn : n = k := by omega
      subst hkn
      go_wp2_with fail
      go_ret
      have hl : (maskL xs x).length = n := by rw [mask_len, HN.out]
      rw [List.take_of_length_le (by omega)] at hown
      exact isRowO_mk hl hown hb

set_option maxRecDepth 100000 in
set_option maxHeartbeats 1000000 in
theorem rtag_any (A B : Option Addr) (n c m d : Nat) (key b : List Int) (w : World) (hn : key.length = n) (hm : b.length = m) (hbn : n ≤ 4000) (hbm : m ≤ 3000) (hx : Rd w A (nums .u8 key)) (hy : Rd w B (nums .u8 b)) :
    Calls Tryd.prog 35 #[.slice A n c, .slice B m d] w (IsBytes w (tagL key b)) := by
  obtain ⟨i0, hi, hz0, hz1, hz2⟩ := info_parts infoByte
  have CB := rkey_any A n c key w hn hbn hx
  rw [tagL]
  have hbl := block_len key
  obtain ⟨K, hK⟩ : ∃ K, K = blockL key := ⟨_, rfl⟩
  rw [← hK] at hbl CB ⊢
  have hl1 : (maskL K 54).length = 64 := by rw [mask_len]; exact hbl
  have hl2 : (maskL K 92).length = 64 := by rw [mask_len]; exact hbl
  have CW := fun A1 c1 (x : Int) W (hr : Rd W A1 (nums .u8 K)) => with_any A1 64 c1 K x W hbl (by omega) hr
  obtain ⟨k1, hk1⟩ : ∃ k, k = maskL K 54 := ⟨_, rfl⟩
  obtain ⟨k2, hk2⟩ : ∃ k, k = maskL K 92 := ⟨_, rfl⟩
  have CW1 := fun A1 c1 W hr => CW A1 c1 54 W hr
  have CW2 := fun A1 c1 W hr => CW A1 c1 92 W hr
  rw [← hk1] at hl1 CW1 ⊢
  rw [← hk2] at hl2 CW2 ⊢
  have hli : (k1 ++ b).length = 64 + m := by simp [hl1, hm]
  have CI := fun A1 c1 W hr => rsum_any A1 (64 + m) c1 (k1 ++ b) W hli (by omega) hr
  have hsl := sumL_len (k1 ++ b)
  obtain ⟨s, hs⟩ : ∃ s, s = sumL (k1 ++ b) := ⟨_, rfl⟩
  rw [← hs] at hsl CI ⊢
  have hlo : (k2 ++ s).length = 64 + 32 := by simp [hl2, hsl]
  have CO := fun A1 c1 W hr => rsum_any A1 (64 + 32) c1 (k2 ++ s) W hlo (by omega) hr
  have HX := Lib.hid hx
  have HY := Lib.hid hy
  have hnb : (nums .u8 b).length = m := by simp [hm]
  have hns : (nums .u8 s).length = 32 := by simp [hsl]
  have HNB := Lib.hid hnb
  have HNS := Lib.hid hns
  have H1 := Lib.hid hl1
  have H2 := Lib.hid hl2
  have HS := Lib.hid hsl
  have HB := Lib.hid hbl
  clear CW hn hm hx hy hbl hK hk1 hk2 hl1 hl2 hli hsl hs hlo hnb hns
  go_enter Tryd.func35, Tryd.ntmps35
  go_wp2_with (first
    | (go_at_call 46; refine CB.mono ?_; rintro e w1 ⟨A1, c1, rfl, hown1, hb1⟩; rw [HB.out] at hown1 ⊢; have HR1 := Lib.hid (Rd.of_own hown1); have HRA := Lib.hid HR1.out; have HBX := hb1; clear hown1)
    | (go_at_call 48; first
        | ((with_reducible refine (CW1 A1 c1 _ HR1.out).mono ?_); rintro e w2 ⟨A2, c2, rfl, hown2, hb2⟩; rw [H1.out] at hown2 ⊢; have HBX := bgo HBX hb2; have HR1 := Lib.hid (HR1.out.below hb2))
        | ((with_reducible refine (CW2 A1 c1 _ HR1.out).mono ?_); rintro e w5 ⟨A5, c5, rfl, hown5, hb5⟩; rw [H2.out] at hown5 ⊢; have HBX := bgo HBX hb5; have HR4 := Lib.hid (HR4.out.below hb5)))
    | (at_builtin; first
        | (refine append_vs rfl _ _ 22 rfl w1.heap.size 5 i0 (.int .u8 0) 1 Tryd.underlying22 hi hz0 hz1 hz2 rfl (.slice A2 64 c2) 64 (nums .u8 k1) rfl hown2 B m d (nums .u8 b) rfl HNB.out (HY.out.below HBX) nums_u8_one (by unfold maxLen; omega) (by omega) hb2.size ?_; intro v3 w3 hown3 hgrow3; have hb3 : Below w1.heap.size w1 w3 := keep_below0 hown2 hgrow3 hb2 hb2.size (Nat.le_refl _); obtain ⟨A3, c3, rfl⟩ := own_slice hown3; rw [← List.map_append] at hown3; have HR3 := Lib.hid (Rd.of_own hown3); have HBX := bgo hb1 hb3; have HR1 := Lib.hid (HRA.out.below hb3); clear hown2 hgrow3 hown3)
        | (refine append_vs rfl _ _ 22 rfl w4.heap.size 5 i0 (.int .u8 0) 1 Tryd.underlying22 hi hz0 hz1 hz2 rfl (.slice A5 64 c5) 64 (nums .u8 k2) rfl hown5 (some ⟨B4, 0, none⟩) 32 c4 (nums .u8 s) rfl HNS.out HR4.out nums_u8_one (by unfold maxLen; omega) (by omega) hb5.size ?_; intro v6 w6 hown6 hgrow6; have hb6 : Below w4.heap.size w4 w6 := keep_below0 hown5 hgrow6 hb5 hb5.size (Nat.le_refl _); obtain ⟨A6, c6, rfl⟩ := own_slice hown6; rw [← List.map_append] at hown6; have HR6 := Lib.hid (Rd.of_own hown6); have HBX := bgo HB4.out hb6; clear hown5 hgrow6 hown6))
    | (go_at_call 47; first
        | ((with_reducible refine (CI A3 c3 _ HR3.out).mono ?_); rintro e w4 ⟨B4, c4, rfl, hc4, hl4, hr4, hb4⟩; rw [HS.out] at hc4 ⊢; have HR4 := Lib.hid hr4; have HR1 := Lib.hid (HR1.out.below hb4); have HBX := bgo HBX hb4; have HB4 := Lib.hid HBX)
        | ((with_reducible refine (CO A6 c6 _ HR6.out).mono ?_); rintro e w7 ⟨B7, c7, rfl, hc7, hl7, hr7, hb7⟩)))
  go_ret
  have := HBX.size
  exact ⟨B7, c7, rfl, hc7, by omega, hr7, bgo HBX hb7⟩
end Go.Proofs.YtmkmndgdakpojaaDoor
