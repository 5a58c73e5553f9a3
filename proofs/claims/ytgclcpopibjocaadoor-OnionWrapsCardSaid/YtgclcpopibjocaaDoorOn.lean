/- Onions: there is a nonce for each server, the first 16 bytes of a tag. -/
import Derived.Test.YtgclcpopibjocaaDoorTb
import Derived.Test.YtgclcpopibjocaaDoorOf
import Derived.Test.YtgclcpopibjocaaDoorOb
import Derived.Test.YtgclcpopibjocaaDoorLd
import Derived.Deep.RegionHeld3
import Derived.Deep.DeepMust
namespace Go.Proofs.YtgclcpopibjocaaDoor
open Go.RowKit Go.ChangeShapes Go.WideShapes Go.ChangeAt
set_option linter.unusedSimpArgs false
set_option linter.unusedVariables false
set_option maxRecDepth 100000

/-- The nonce of place k. -/
def nonK (key st : List Int) (k : Nat) : List Int := (tagL key (st ++ [(k : Int)])).take 16
def nonsL (key st : List Int) (k : Nat) : List (List Int) := (List.range k).map (nonK key st)
theorem nonsL_succ (key st : List Int) (k : Nat) : nonsL key st (k + 1) = nonsL key st k ++ [nonK key st k] := by simp [nonsL, List.range_succ]
theorem nonsL_len (key st : List Int) (k : Nat) : (nonsL key st k).length = k := by simp [nonsL]
theorem nonK_len (key st : List Int) (k : Nat) : (nonK key st k).length = 16 := by rw [nonK, List.length_take, tag_len]; rfl
theorem nonK_byt (key st : List Int) (k : Nat) : Byt (nonK key st k) := fun x hx => tag_byt _ _ x (List.mem_of_mem_take hx)
theorem nonsL_at {key st : List Int} {n k : Nat} (h : k < n) : (nonsL key st n).getD k [] = nonK key st k := by simp [nonsL, List.getD, h]
theorem fill_vsN {us : List Value} {z v : Value} {n k : Nat} (hu : us.length = k) (hk : k < n) : (us ++ List.replicate (n - k) z).set k v = (us ++ [v]) ++ List.replicate (n - (k + 1)) z := by
  obtain ⟨m, hm⟩ : ∃ m, n - k = m + 1 := ⟨n - k - 1, by omega⟩
  rw [hm, show n - (k + 1) = m by omega, List.replicate_succ, List.set_append_right _ _ (by omega), hu, Nat.sub_self]
  simp

def IsNons (w : World) (L : List (List Int)) (n : Nat) (e : Ending) (w' : World) : Prop :=
  ∃ A c vs, e = .returned (.tuple #[.slice A n c, .int .i64 0]) ∧ n ≤ c ∧ Rd w' A vs ∧ Parts w' vs L ∧ Below w.heap.size w w'
theorem nons_bad (S : Option Addr) (sn sc : Nat) (ep ro : Int) (A : Option Addr) (n c : Nat) (xs : List Int) (w : World) (hn : xs.length = n) (hx : Rd w A (nums .i64 xs)) (hg : ¬ goodSt xs) :
    Calls Tryd.prog 32 #[.slice S sn sc, .agg #[.int .u64 ep, .int .u64 ro, .slice A n c]] w fun e w' => e = .returned (.tuple #[.slice none 0 0, .int .i64 1]) ∧ Below w.heap.size w w' := by
  have CC := fun W h1 => stCheck_bad (ep := ep) (ro := ro) (A := A) (n := n) (c := c) W hn h1 hg
  have HX := Lib.hid (hx.below (bal brf (.cells #[.int .u64 ep, .int .u64 ro, .slice A n c] 43)))
  clear hx hn hg
  go_enter Tryd.func32, Tryd.ntmps32
  go_wp2_with (go_at_call 57; refine (CC _ HX.out).mono ?_; rintro e w1 ⟨rfl, hb1⟩)
  go_ret2
  exact ⟨rfl, bgo (bal brf _) hb1⟩

set_option maxHeartbeats 2000000 in
theorem nons_any (S : Option Addr) (sn sc : Nat) (ep ro : Nat) (A : Option Addr) (n c : Nat) (key xs : List Int) (w : World) (hs : key.length = sn) (hsn : sn ≤ 4000) (hn : xs.length = n) (hk : Rd w S (nums .u8 key)) (hx : Rd w A (nums .i64 xs)) (hg : goodSt xs) (he : ep < 18446744073709551616) (hr : ro < 18446744073709551616) (hK : Konst w) :
    Calls Tryd.prog 32 #[.slice S sn sc, .agg #[.int .u64 ep, .int .u64 ro, .slice A n c]] w (IsNons w (nonsL key (stB ep ro xs) n) n) := by
  obtain ⟨i0, hi, hz0, hz1, hz2⟩ := info_parts infoBytes
  have hg8 : n ≤ 8 := by rw [← hn]; exact hg.2.1
  have hg1 : 1 ≤ n := by rw [← hn]; exact hg.1
  have CC := fun W h1 => stCheck_ok (ep := ep) (ro := ro) (A := A) (n := n) (c := c) W hn h1 hg
  have CP := fun W h1 => stPut_any ep ro A n c xs W hn h1 hg he hr
  have hsl : (stB ep ro xs).length = 17 + n := by rw [stB_len, hn]
  obtain ⟨st, hst⟩ : ∃ st, st = stB ep ro xs := ⟨_, rfl⟩
  rw [← hst] at CP hsl ⊢
  obtain ⟨N, hN⟩ : ∃ N, N = 17 + n := ⟨_, rfl⟩
  rw [← hN] at hsl
  have hN25 : N ≤ 25 := by omega
  have HSL := Lib.hid hsl
  have HS := Lib.hid hs
  have HBOX := Lib.hid (stBox_new w ep ro (.slice A n c) 43)
  have HX := Lib.hid (hx.below (bal brf (.cells #[.int .u64 ep, .int .u64 ro, .slice A n c] 43)))
  have HKY := Lib.hid hk
  have HK := Lib.hid hK
  clear hx hn hg he hr hs hk hK hst hsl hN
  go_enter Tryd.func32, Tryd.ntmps32
  go_wp2_with (first
    | (go_at_call 57; refine (CC _ HX.out).mono ?_; rintro e w1 ⟨rfl, hb1⟩; have HX := Lib.hid (HX.out.below hb1); have HBOX := Lib.hid (HBOX.out.below hb1); obtain ⟨s1, k10, k11, k12⟩ := HBOX.out; have HBX := bgo (bal brf _) hb1)
    | (go_at_call 33; refine (CP _ HX.out).mono ?_; rintro e w2 ⟨B2, c2, he, hc2, hown2, hb2⟩; rw [HSL.out] at he hown2; subst he; have HST := Lib.hid (Rd.of_own hown2); have HBOX := Lib.hid (HBOX.out.below hb2); obtain ⟨s2, k20, k21, k22⟩ := HBOX.out; have HBX := bgo HBX hb2; clear hown2)
    | (at_make; refine wpList_make_full _ rfl _ _ 44 rfl w2.heap.size 22 i0 (.slice none 0 0) 1 Tryd.underlying44 hi hz0 hz1 .i64 .i64 _ _ n rfl rfl (by omega) (by omega) (by rw [hz2]; omega) (by unfold maxLen; omega) (Nat.le_refl _) ?_; intro w3 hown3 hgrow3))
  obtain ⟨hrow3, hb3, hl3⟩ := vrow_make rfl hown3 hgrow3
  obtain ⟨g, hge⟩ : ∃ g, g = w2.heap.size := ⟨_, rfl⟩
  rw [← hge] at hrow3 hl3 ⊢
  have HR := Lib.hid hrow3
  have hg2 : w2.heap.size ≤ g := by omega
  obtain ⟨B0, hB0⟩ : ∃ B0, B0 = w3.heap.size := ⟨_, rfl⟩
  have hgB : g < B0 := by omega
  have hB0' : B0 ≤ w3.heap.size := by omega
  clear hown3 hgrow3 hrow3 hi hz0 hz1 hz2 hge hl3 hB0
  go_loopw [28] (fun i wr => ∃ (k : Nat) (us : List Value), k ≤ n ∧ i = .int .i64 k ∧ Hid (us.length = k) ∧ VRow wr g (us ++ List.replicate (n - k) (.slice none 0 0)) ∧ OwnParts wr B0 us (nonsL key st k) ∧ B0 ≤ wr.heap.size ∧ Below w2.heap.size w2 wr) (fun i _ => n - (intOf i).toNat)
  case atStart => exact ⟨0, [], Nat.zero_le _, rfl, Lib.hid rfl, HR.out, OwnParts.nil, hB0', hb3⟩
  case round =>
    obtain ⟨k, us, hk, rfl, HU, hrow, hop, hl, hb⟩ := hrel
    have r0 : (0 : Int) ≤ k := by omega
    by_cases hlt : k < n
    · have r1 : (k : Int) < n := by omega
      have C3 := fun (W : World) h2 h3 => concat_any (W.alloc (.cells #[.int .u8 (k : Int)] 5)).heap.size (some ⟨B2, 0, none⟩) (some ⟨W.heap.size, 0, none⟩) N c2 1 1 st [(k : Int)] ((W.alloc (.cells #[.int .u8 (k : Int)] 5)).alloc (.cells #[.slice (some ⟨B2, 0, none⟩) N c2, .slice (some ⟨W.heap.size, 0, none⟩) 1 1] 22)) (new_0 _ _ _ _) (new_1 _ _ _ _) HSL.out rfl h2 h3 (by omega)
      simp only [World.size_alloc] at C3
      have hl1 : (st ++ [(k : Int)]).length = N + 1 := by rw [List.length_append, HSL.out]; rfl
      have CT := fun A4 c4 W h1 h2 hK => tag_any S A4 sn sc (N + 1) c4 key (st ++ [(k : Int)]) W HS.out hl1 (by omega) (by omega) h1 h2 hK
      obtain ⟨t, ht⟩ : ∃ t, t = tagL key (st ++ [(k : Int)]) := ⟨_, rfl⟩
      have hlt32 : t.length = 32 := by rw [ht, tag_len]
      have hnk : t.take 16 = nonK key st k := by rw [nonK, ← ht]
      rw [← ht] at CT
      have CC := fun B5 c5 W h1 => clone_any (some ⟨B5, 0, none⟩) 16 c5 (t.take 16) W (by rw [List.length_take, hlt32]; rfl) (by omega) h1
      have HT := Lib.hid hlt32
      have HNK := Lib.hid hnk
      have hkk : (us ++ List.replicate (n - k) (Value.slice none 0 0))[k]? = some (.slice none 0 0) := by
        rw [List.getElem?_append_right (by rw [HU.out]; exact Nat.le_refl _), HU.out, Nat.sub_self, List.getElem?_replicate, if_pos (by omega)]
      have HKK := Lib.hid hkk
      have HROW := Lib.hid hrow
      have HSW := Lib.hid (HST.out.below hb)
      have HKW := Lib.hid (HK.out.go (bgo HBX hb))
      have HYW := Lib.hid (HKY.out.below (bgo HBX hb))
      have hzr := hb.size
      clear hkk hrow hl1 ht hlt32 hnk
      go_wp2_with (first
        | (go_at_call 56; refine (C3 _ (HSW.out.below (bal (bal brf _) _)) ((rd_new wr [(k : Int)] 5).below (bal brf _))).mono ?_; rintro e w4 ⟨A4, c4, rfl, hc4, hown4, hb4⟩; have hbq : Below wr.heap.size wr w4 := bgo (bal (bal brf _) _) hb4; have HR4 := Lib.hid (Rd.of_own hown4); clear hown4)
        | (go_at_call 24; refine (CT _ _ _ (HYW.out.below hbq) HR4.out (HKW.out.go hbq)).mono ?_; rintro e w5 ⟨B5, c5, he, hc5, hl5, hr5, hb5⟩; rw [HT.out] at he hc5; subst he; have hbq := bgo hbq hb5; have hr6 := hr5.take 16; have HR5 := Lib.hid hr6; have g1 : (16 : Int) ≤ c5 := (by omega); have g2 : ¬ c5 = 16 := (by omega); clear hr5 hr6)
        | (go_at_call 58; refine (CC _ _ _ HR5.out).mono ?_; rintro e w6 ⟨v6, rfl, hown6, hg6⟩; rw [List.length_take, HT.out] at hown6; obtain ⟨A6, c6, rfl⟩ := own_slice hown6; have hb6 : Below w5.heap.size w5 w6 := brf.grown hg6 (Nat.le_refl _) (fun k e => by cases e); have hbs := bgo hbq hb6; have hrow6 := HROW.out.below hbs (by omega); obtain ⟨ck6, fk6⟩ := hrow6 k _ HKK.out; have HROW6 := Lib.hid hrow6; clear hrow6))
      refine ⟨⟨k + 1, us ++ [.slice A6 16 c6], by omega, by congr 1, Lib.hid (by simp [HU.out]), ?_, ?_, by rw [size_setCell]; exact Nat.le_trans hl hbs.size, (bgo hb hbs).setCell (p := ⟨g, k, none⟩) hg2 _⟩, by show n - ((k : Int) + 1).toNat < n - (k : Int).toNat; omega⟩
      · rw [← fill_vsN HU.out hlt]
        exact HROW6.out.set _
      · rw [nonsL_succ, ← HNK.out]
        have hop5 := hop.keep (grown_of_below hbs) (fun _ e => by cases e)
        have htl : (t.take 16).length = 16 := by rw [List.length_take, HT.out]; rfl
        have hown7 : w6.ownsRow B0 5 1 (.slice A6 16 c6) (t.take 16).length (nums .u8 (t.take 16)) := by
          rw [htl]
          exact own_baseT hown6 (Nat.le_trans hl hbq.size)
        have := hop5.snoc hown7
        exact ⟨this.1, fun i hi => own_setCell (this.2 i hi) hgB⟩
    · have hkn : n = k := by omega
      subst hkn
      have HROW := Lib.hid (hrow.rd (by omega))
      have HOP := Lib.hid hop
      clear hrow hop
      go_wp2_with fail
      go_ret2
      have h2 := HROW.out
      rw [Nat.sub_self, List.replicate_zero, List.append_nil] at h2
      exact ⟨some ⟨g, 0, none⟩, n, us, rfl, Nat.le_refl _, h2, HOP.out.parts, bgo HBX hb⟩

theorem onionNonces_early (S : Option Addr) (sn sc : Nat) (ep ro : Nat) (A : Option Addr) (n c : Nat) (key xs : List Int) (w : World) (hs : key.length = sn) (hn : xs.length = n) (hk : Rd w S (nums .u8 key)) (hx : Rd w A (nums .i64 xs)) (he : ep < 18446744073709551616) (hr : ro < 18446744073709551616) (hK : Konst w) (h : 200 < sn ∨ 60 < n) : Calls Tryd.prog 6 #[.slice S sn sc, .agg #[.int .u64 ep, .int .u64 ro, .slice A n c]] w (Yes w) := by
  clear hs hn hk hx he hr hK
  by_cases h1 : 200 < sn
  · have q : (200 : Int) < sn := by omega
    clear h
    go_enter Tryd.func6, Tryd.ntmps6
    go_wp2_with (go_at_call 31; refine (live9_any _).mono ?_; rintro e w1 ⟨rfl, rfl⟩)
    go_ret
    exact ⟨rfl, bal brf _⟩
  · have q : ¬ (200 : Int) < sn := by omega
    have q2 : (60 : Int) < n := by omega
    clear h
    go_enter Tryd.func6, Tryd.ntmps6
    go_wp2_with (go_at_call 31; refine (live9_any _).mono ?_; rintro e w1 ⟨rfl, rfl⟩)
    go_ret
    exact ⟨rfl, bal brf _⟩
theorem onionNonces_no (S : Option Addr) (sn sc : Nat) (ep ro : Nat) (A : Option Addr) (n c : Nat) (key xs : List Int) (w : World) (hs : key.length = sn) (hn : xs.length = n) (hk : Rd w S (nums .u8 key)) (hx : Rd w A (nums .i64 xs)) (he : ep < 18446744073709551616) (hr : ro < 18446744073709551616) (hK : Konst w) (h1 : sn ≤ 200) (h2 : n ≤ 60) (hg : ¬ goodSt xs) : Calls Tryd.prog 6 #[.slice S sn sc, .agg #[.int .u64 ep, .int .u64 ro, .slice A n c]] w (Yes w) := by
  have q : ¬ (200 : Int) < sn := by omega
  have q2 : ¬ (60 : Int) < n := by omega
  have CN := fun W h1 => nons_bad S sn sc ep ro A n c xs W hn h1 hg
  have HX := Lib.hid (hx.below (bal brf (.cells #[.int .u64 ep, .int .u64 ro, .slice A n c] 43)))
  clear hs hn hk hx he hr hK hg
  go_enter Tryd.func6, Tryd.ntmps6
  go_wp2_with (first
    | (go_at_call 31; refine (live9_any _).mono ?_; rintro e w1 ⟨rfl, rfl⟩)
    | (go_at_call 32; refine (CN _ HX.out).mono ?_; rintro e w2 ⟨rfl, hb2⟩))
  go_ret
  exact ⟨by simp, bgo (bal brf _) hb2⟩
set_option maxHeartbeats 2000000 in
theorem onionNonces_yes (S : Option Addr) (sn sc : Nat) (ep ro : Nat) (A : Option Addr) (n c : Nat) (key xs : List Int) (w : World) (hs : key.length = sn) (hn : xs.length = n) (hk : Rd w S (nums .u8 key)) (hx : Rd w A (nums .i64 xs)) (he : ep < 18446744073709551616) (hr : ro < 18446744073709551616) (hK : Konst w) (h1 : sn ≤ 200) (h2 : n ≤ 60) (hg : goodSt xs) : Calls Tryd.prog 6 #[.slice S sn sc, .agg #[.int .u64 ep, .int .u64 ro, .slice A n c]] w (Yes w) := by
  obtain ⟨i0, hi, hz0, hz1, hz2⟩ := info_parts infoByteT
  have q : ¬ (200 : Int) < sn := by omega
  have q2 : ¬ (60 : Int) < n := by omega
  have hg8 : n ≤ 8 := by rw [← hn]; exact hg.2.1
  have CN := fun W h1 h2 hK => nons_any S sn sc ep ro A n c key xs W hs (by omega) hn h1 h2 hg he hr hK
  have CP := fun W h1 => stPut_any ep ro A n c xs W hn h1 hg he hr
  have hsl : (stB ep ro xs).length = 17 + n := by rw [stB_len, hn]
  obtain ⟨st, hst⟩ : ∃ st, st = stB ep ro xs := ⟨_, rfl⟩
  rw [← hst] at CP CN hsl
  obtain ⟨N, hN⟩ : ∃ N, N = 17 + n := ⟨_, rfl⟩
  rw [← hN] at hsl
  have hN25 : N ≤ 25 := by omega
  have hnl : (nums .u8 st).length = N := by simp [hsl]
  have HSL := Lib.hid hsl
  have HNL := Lib.hid hnl
  have HS := Lib.hid hs
  have HX := Lib.hid (hx.below (bal brf (.cells #[.int .u64 ep, .int .u64 ro, .slice A n c] 43)))
  have HKY := Lib.hid (hk.below (bal brf (.cells #[.int .u64 ep, .int .u64 ro, .slice A n c] 43)))
  have HK := Lib.hid (hK.go (bal brf (.cells #[.int .u64 ep, .int .u64 ro, .slice A n c] 43)))
  have HBOX := Lib.hid (stBox_new w ep ro (.slice A n c) 43)
  clear hs hn hk hx he hr hK hg hst hsl hN hnl
  go_enter Tryd.func6, Tryd.ntmps6
  go_wp2_with (first
    | (go_at_call 31; refine (live9_any _).mono ?_; rintro e w1 ⟨rfl, rfl⟩)
    | (go_at_call 32; refine (CN _ HKY.out HX.out HK.out).mono ?_; rintro e w2 ⟨A2, c2, vs, rfl, hc2, hr2, hp2, hb2⟩; have HR2 := Lib.hid hr2; have HP2 := Lib.hid hp2; have HX := Lib.hid (HX.out.below hb2); have HBOX := Lib.hid (HBOX.out.below hb2); obtain ⟨s2, k20, k21, k22⟩ := HBOX.out; clear hr2 hp2)
    | (go_at_call 33; refine (CP _ HX.out).mono ?_; rintro e w3 ⟨B3, c3, he, hc3, hown3, hb3⟩; rw [HSL.out] at he hown3; subst he; have HST := Lib.hid (Rd.of_own hown3); have HR2 := Lib.hid (HR2.out.below hb3); have HP2 := Lib.hid (HP2.out.below hb3); have HBOX := Lib.hid (HBOX.out.below hb3); obtain ⟨s3, k30, k31, k32⟩ := HBOX.out; have HBX := bgo (bal brf _) (bgo hb2 hb3); clear hown3))
  have HB23 := Lib.hid (bgo hb2 hb3)
  go_loopw [55] (fun i wr => ∃ k : Nat, k ≤ n ∧ i = .int .i64 k ∧ Below w3.heap.size w3 wr) (fun i _ => n - (intOf i).toNat)
  case atStart => exact ⟨0, Nat.zero_le _, rfl, brf⟩
  case round =>
    obtain ⟨k, hk, rfl, hb⟩ := hrel
    have r0 : (0 : Int) ≤ k := by omega
    by_cases hlt : k < n
    · have r1 : (k : Int) < n := by omega
      obtain ⟨bv, ov, A', c', rfl, hbv, cv, hcv, hrv⟩ := part_at (HR2.out.below hb) (HP2.out.below hb) (nonsL_len _ _ _) hlt
      rw [nonsL_at hlt] at cv hcv hrv
      rw [nonK_len] at cv hcv
      have hl1 : (st ++ [(k : Int)]).length = N + 1 := by rw [List.length_append, HSL.out]; rfl
      have CT := fun A4 c4 W h1 h2 hK => tag_any S A4 sn sc (N + 1) c4 key (st ++ [(k : Int)]) W HS.out hl1 (by omega) (by omega) h1 h2 hK
      obtain ⟨t, ht⟩ : ∃ t, t = tagL key (st ++ [(k : Int)]) := ⟨_, rfl⟩
      have hlt32 : t.length = 32 := by rw [ht, tag_len]
      have hnk : t.take 16 = nonK key st k := by rw [nonK, ← ht]
      have hbn : Byt (t.take 16) := by rw [hnk]; exact nonK_byt _ _ _
      rw [← ht] at CT
      rw [← hnk] at hrv
      have S1 := fun A1 A2 c1 c2 W h1 h2 => same_true A1 A2 16 c1 16 c2 (t.take 16) (t.take 16) W rfl (by rw [List.length_take, hlt32]; rfl) (by rw [List.length_take, hlt32]; rfl) h1 h2 hbn
      have HT := Lib.hid hlt32
      have HRV := Lib.hid hrv
      have HSW := Lib.hid (HST.out.below hb)
      have HKW := Lib.hid ((HK.out.go HB23.out).go hb)
      have HYW := Lib.hid ((HKY.out.below HB23.out).below hb)
      clear hl1 ht hlt32 hnk hrv hbn
      go_wp2_with (first
        | (at_builtin; first
            | (refine append_vs rfl _ _ 22 rfl wr.heap.size 5 i0 (.int .u8 0) 1 Tryd.underlying22 hi hz0 hz1 hz2 rfl (.slice none 0 0) 0 [] rfl ⟨rfl, .inl ⟨rfl, rfl⟩⟩ (some ⟨B3, 0, none⟩) N c3 (nums .u8 st) rfl HNL.out HSW.out nums_u8_one (by unfold maxLen; omega) (by omega) (Nat.le_refl _) ?_; intro v4 w4 hown4 hgrow4; rw [Nat.zero_add, List.nil_append] at hown4; have hb4 : Below wr.heap.size wr w4 := brf.grown hgrow4 (Nat.le_refl _) (fun k e => by simp [Value.ownBlock] at e); clear hgrow4)
            | (refine append_one rfl _ _ 22 rfl wr.heap.size 5 i0 (.int .u8 0) 1 Tryd.underlying22 hi hz0 hz1 hz2 rfl _ N _ rfl hown4 (.int .u8 (k : Int)) 5 rfl rfl (by unfold maxLen; omega) (by omega) hb4.size ?_; intro v5 w5 hown5 hgrow5; have hb5 : Below wr.heap.size wr w5 := keep_below hown4 hgrow5 hb4 hb4.size (Nat.le_refl _); obtain ⟨A5, c5, rfl⟩ := own_slice hown5; rw [show nums .u8 st ++ [Value.int .u8 (k : Int)] = nums .u8 (st ++ [(k : Int)]) by simp [nums]] at hown5; have HR5 := Lib.hid (Rd.of_own hown5); clear hown5 hown4 hgrow5))
        | (go_at_call 24; refine (CT _ _ _ (HYW.out.below hb5) HR5.out (HKW.out.go hb5)).mono ?_; rintro e w6 ⟨B6, c6, he, hc6, hl6, hr6, hb6⟩; rw [HT.out] at he hc6; subst he; have hbq := bgo hb5 hb6; have hr7 := hr6.take 16; have HR6 := Lib.hid hr7; have cv6 := (hbq.cell (p := ⟨bv, ov + k, none⟩) hbv).trans cv; have g1 : (16 : Int) ≤ c6 := (by omega); have g2 : ¬ c6 = 16 := (by omega); clear hr6 hr7)
        | (go_at_call 16; refine (S1 _ _ _ _ _ (HRV.out.below hbq) HR6.out).mono ?_; rintro e w7 ⟨rfl, rfl⟩))
      exact ⟨⟨k + 1, by omega, by congr 1, bgo hb hbq⟩, by show n - ((k : Int) + 1).toNat < n - (k : Int).toNat; omega⟩
    · have hkn : n = k := by omega
      subst hkn
      clear hlt hk
      go_wp2_with fail
      go_ret
      exact ⟨rfl, bgo HBX hb⟩
theorem onionNonces_walk (S : Option Addr) (sn sc : Nat) (ep ro : Nat) (A : Option Addr) (n c : Nat) (key xs : List Int) (w : World) (hs : key.length = sn) (hn : xs.length = n) (hk : Rd w S (nums .u8 key)) (hx : Rd w A (nums .i64 xs)) (he : ep < 18446744073709551616) (hr : ro < 18446744073709551616) (hK : Konst w) : Calls Tryd.prog 6 #[.slice S sn sc, .agg #[.int .u64 ep, .int .u64 ro, .slice A n c]] w (Yes w) := by
  by_cases h : 200 < sn ∨ 60 < n
  · exact onionNonces_early S sn sc ep ro A n c key xs w hs hn hk hx he hr hK h
  · by_cases hg : goodSt xs
    · exact onionNonces_yes S sn sc ep ro A n c key xs w hs hn hk hx he hr hK (by omega) (by omega) hg
    · exact onionNonces_no S sn sc ep ro A n c key xs w hs hn hk hx he hr hK (by omega) (by omega) hg

open Go.Joins Go.Deep in
/-- A stamp that was read: its form. -/
theorem open_stamp {H : Type} {enc : TypeId × Value → H} {W : World} {base b : Nat} {r : Reach} {v : Value} {d : DataW H} {p : List MemPlace} {spare : Nat → Bool} {held : Bool}
    (hv : Value.okWide Tryd.prog W r base 43 v) (h : DataW.Trod enc Tryd.prog W b spare held 43 v d p) :
    ∃ (ep ro : Nat) (A : Option Addr) (n c : Nat) (xs : List Int), v = .agg #[.int .u64 ep, .int .u64 ro, .slice A n c] ∧ n ≤ c ∧ c ≤ maxLen ∧ xs.length = n ∧ Rd W A (nums .i64 xs) ∧ ep < 18446744073709551616 ∧ ro < 18446744073709551616 ∧ (∀ x ∈ xs, (Lit.int .i64 x).wf = true) := by
  obtain ⟨v0, v1, v2, y0, y1, y2, n, rfl, rfl, rfl, h0, h1, h2⟩ := open_agg3 Tryd.underlying43 (by kernel_rfl) (by kernel_rfl) hv h
  obtain ⟨e, rfl, we⟩ := int_of_trod Tryd.underlying23 h0
  obtain ⟨q, rfl, wq⟩ := int_of_trod Tryd.underlying23 h1
  obtain ⟨A, m, c, xs, rfl, hc1, hc2, hl, hr, hw, _⟩ := open_row Tryd.underlying41 Tryd.underlying3 (by kernel_rfl) h2
  have b1 : (decide ((0 : Int) ≤ e) && decide (e ≤ (18446744073709551615 : Int))) = true := we
  have b2 : (decide ((0 : Int) ≤ q) && decide (q ≤ (18446744073709551615 : Int))) = true := wq
  simp only [Bool.and_eq_true, decide_eq_true_eq] at b1 b2
  obtain ⟨E, rfl⟩ := Int.eq_ofNat_of_zero_le b1.1
  obtain ⟨R, rfl⟩ := Int.eq_ofNat_of_zero_le b2.1
  exact ⟨E, R, A, m, c, xs, rfl, hc1, hc2, hl, hr, by omega, by omega, hw⟩

theorem onionNonces_of {H : Type} {enc : TypeId × Value → H} (W : World) (base : Nat) (args : Array Value) (ds : List (DataW H)) (p : List MemPlace)
    (hval : ∀ (j : Nat) t v, Tryd.f6.params[j]? = some t → args[j]? = some v → Value.okWide Tryd.prog W .any base t v)
    (hA : DataW.TrodAll enc Tryd.prog W 0 (fun _ => true) true Tryd.f6.params.toList args.toList ds p) (hlt : ∀ x ∈ p, x.block < W.heap.size)
    (hz : (DataW.weightsEach Tryd.prog Tryd.f6.params.toList ds).all (· ≤ reachBytes) = true) (hK : Konst W) : Calls Tryd.prog 6 args W (Yes W) := by
  rw [Tryd.params6] at hA hval hz
  obtain ⟨v0, vs0, d0, ds0, p0, q0, hargs, rfl, rfl, h0, r0⟩ := trodAll_cons hA
  obtain ⟨v1, vs1, d1, ds1, p1, q1, rfl, rfl, rfl, h1, r1⟩ := trodAll_cons r0
  obtain ⟨rfl, rfl, rfl⟩ := trodAll_nil r1
  obtain rfl : args = #[v0, v1] := by cases args; simp_all
  obtain ⟨S, sn, sc, key, rfl, hn0, hr0, hb0, hc0, hd0⟩ := open_bytes2 h0 (hval 0 _ _ rfl rfl)
  obtain ⟨ep, ro, A, n, c, xs, rfl, hc1, hd1, hl1, hx1, he, hr, _⟩ := open_stamp (hval 1 _ _ rfl rfl) h1
  exact onionNonces_walk S sn sc ep ro A n c key xs W hn0 hl1 hr0 hx1 he hr hK
end Go.Proofs.YtgclcpopibjocaaDoor
