/- Stamps: Check and Put, of both answers. -/
import Derived.Test.YtmkmndgdakpojaaDoorTb0
import Derived.Deep.DeepMust
import Derived.Test.YtmkmndgdakpojaaDoorApart
import Derived.Deep.RegionHeld3
namespace Go.Proofs.YtmkmndgdakpojaaDoor
open Go.RowKit
set_option linter.unusedSimpArgs false
set_option linter.unusedVariables false
set_option maxRecDepth 100000

theorem stCheck_ok {ep ro : Int} {A : Option Addr} {n c : Nat} {xs : List Int} (w : World) (hn : xs.length = n) (hx : Rd w A (nums .i64 xs)) (hg : goodSt xs) :
    Calls Tryd.prog 36 #[.agg #[.int .u64 ep, .int .u64 ro, .slice A n c]] w fun e w' => e = .returned (.int .i64 0) ∧ Below w.heap.size w w' :=
  (stCheck_any ep ro A n c xs w hn hx).mono fun e w' ⟨he, hb⟩ => ⟨he.elim (·.2) (fun x => absurd hg x.1), hb⟩
theorem stCheck_bad {ep ro : Int} {A : Option Addr} {n c : Nat} {xs : List Int} (w : World) (hn : xs.length = n) (hx : Rd w A (nums .i64 xs)) (hg : ¬ goodSt xs) :
    Calls Tryd.prog 36 #[.agg #[.int .u64 ep, .int .u64 ro, .slice A n c]] w fun e w' => e = .returned (.int .i64 1) ∧ Below w.heap.size w w' :=
  (stCheck_any ep ro A n c xs w hn hx).mono fun e w' ⟨he, hb⟩ => ⟨he.elim (fun x => absurd x.1 hg) (·.2), hb⟩

/-- A stamp's box. -/
def StBox (B : Nat) (ep ro : Int) (v : Value) (W : World) : Prop :=
  B < W.heap.size ∧ W.cell? ⟨B, 0, none⟩ = some (.int .u64 ep) ∧ W.cell? ⟨B, 1, none⟩ = some (.int .u64 ro) ∧ W.cell? ⟨B, 2, none⟩ = some v
theorem StBox.below {B : Nat} {ep ro : Int} {v : Value} {W W' : World} (h : StBox B ep ro v W) (hb : Below W.heap.size W W') : StBox B ep ro v W' :=
  ⟨Nat.lt_of_lt_of_le h.1 hb.size, (hb.cell (p := ⟨B, 0, none⟩) h.1).trans h.2.1, (hb.cell (p := ⟨B, 1, none⟩) h.1).trans h.2.2.1, (hb.cell (p := ⟨B, 2, none⟩) h.1).trans h.2.2.2⟩
theorem stBox_new (w : World) (ep ro : Int) (v : Value) (t : TypeId) : StBox w.heap.size ep ro v (w.alloc (.cells #[.int .u64 ep, .int .u64 ro, v] t)) :=
  ⟨by simp, new3_0 _ _ _ _ _, new3_1 _ _ _ _ _, new3_2 _ _ _ _ _⟩

theorem stPut_bad (ep ro : Int) (A : Option Addr) (n c : Nat) (xs : List Int) (w : World) (hn : xs.length = n) (hx : Rd w A (nums .i64 xs)) (hg : ¬ goodSt xs) :
    Calls Tryd.prog 28 #[.agg #[.int .u64 ep, .int .u64 ro, .slice A n c]] w fun e w' => e = .returned (.tuple #[.slice none 0 0, .int .i64 1]) ∧ Below w.heap.size w w' := by
  have CC := fun W h1 => stCheck_bad (ep := ep) (ro := ro) (A := A) (n := n) (c := c) W hn h1 hg
  have HX := Lib.hid (hx.below (bal brf (.cells #[.int .u64 ep, .int .u64 ro, .slice A n c] 28)))
  clear hx hn hg
  go_enter Tryd.func28, Tryd.ntmps28
  go_wp2_with (go_at_call 36; refine (CC _ HX.out).mono ?_; rintro e w1 ⟨rfl, hb1⟩)
  go_ret2
  exact ⟨rfl, bgo (bal brf _) hb1⟩

theorem stB_take (ep ro : Nat) (xs : List Int) (k : Nat) (h : k < xs.length) : ((lowB ep 8 ++ lowB ro 8) ++ [((xs.length : Nat) : Int)] ++ xs.take k) ++ [xs.getD k 0] = (lowB ep 8 ++ lowB ro 8) ++ [((xs.length : Nat) : Int)] ++ xs.take (k + 1) := by
  rw [take_snoc h, List.append_assoc, List.append_assoc]

set_option maxHeartbeats 2000000 in
theorem stPut_any (ep ro : Nat) (A : Option Addr) (n c : Nat) (xs : List Int) (w : World) (hn : xs.length = n) (hx : Rd w A (nums .i64 xs)) (hg : goodSt xs) (he : ep < 18446744073709551616) (hr : ro < 18446744073709551616) :
    Calls Tryd.prog 28 #[.agg #[.int .u64 ep, .int .u64 ro, .slice A n c]] w (IsNum w (stB ep ro xs)) := by
  obtain ⟨i0, hi, hz0, hz1, hz2⟩ := info_parts infoByteT
  have hg8 : n ≤ 8 := by rw [← hn]; exact hg.2.1
  have hg1 : 1 ≤ n := by rw [← hn]; exact hg.1
  have hgx : ∀ k, k < n → 1 ≤ xs.getD k 0 ∧ xs.getD k 0 ≤ 16 := fun k hk => hg.2.2.1 _ (by rw [← hn] at hk; simp [List.getD, List.getElem?_eq_getElem hk])
  have CC := fun W h1 => stCheck_ok (ep := ep) (ro := ro) (A := A) (n := n) (c := c) W hn h1 hg
  have C1 := fun W => wput8_any ep W he
  have C2 := fun W => wput8_any ro W hr
  have hl0 : (lowB ep 8).length = 8 := lowB_len _ _
  have hl1 : (lowB ro 8).length = 8 := lowB_len _ _
  obtain ⟨es, hes⟩ : ∃ es, es = lowB ep 8 := ⟨_, rfl⟩
  obtain ⟨rs, hrs⟩ : ∃ rs, rs = lowB ro 8 := ⟨_, rfl⟩
  have hst : ∀ k, k < n → ((es ++ rs) ++ [(n : Int)] ++ xs.take k) ++ [xs.getD k 0] = (es ++ rs) ++ [(n : Int)] ++ xs.take (k + 1) := fun k hk => by rw [hes, hrs, ← hn]; exact stB_take ep ro xs k (by rw [hn]; exact hk)
  have hfin : stB ep ro xs = (es ++ rs) ++ [(n : Int)] ++ xs.take n := by rw [stB, hes, hrs, ← hn, List.take_length]
  rw [← hes] at C1 hl0
  rw [← hrs] at C2 hl1
  have C3 := fun B1 c1 B2 c2 (W : World) h1 h2 h3 => concat3_any (W.alloc (.cells #[.int .u8 (n : Int)] 5)).heap.size (some ⟨B1, 0, none⟩) (some ⟨B2, 0, none⟩) (some ⟨W.heap.size, 0, none⟩) 8 c1 8 c2 1 1 es rs [(n : Int)] ((W.alloc (.cells #[.int .u8 (n : Int)] 5)).alloc (.cells #[.slice (some ⟨B1, 0, none⟩) 8 c1, .slice (some ⟨B2, 0, none⟩) 8 c2, .slice (some ⟨W.heap.size, 0, none⟩) 1 1] 22)) (new3_0 _ _ _ _ _) (new3_1 _ _ _ _ _) (new3_2 _ _ _ _ _) hl0 hl1 rfl h1 h2 h3 (by omega)
  simp only [World.size_alloc] at C3
  have HBOX := Lib.hid (stBox_new w ep ro (.slice A n c) 28)
  have HX := Lib.hid (hx.below (bal brf (.cells #[.int .u64 ep, .int .u64 ro, .slice A n c] 28)))
  have HXW := Lib.hid hx
  have HN := Lib.hid hn
  have HGX := Lib.hid hgx
  have HST := Lib.hid hst
  have HF := Lib.hid hfin
  have HL0 := Lib.hid hl0
  have HL1 := Lib.hid hl1
  clear hx hn hg hgx he hr hes hrs hst hfin hl0 hl1
  go_enter Tryd.func28, Tryd.ntmps28
  go_wp2_with (first
    | (go_at_call 36; refine (CC _ HX.out).mono ?_; rintro e w1 ⟨rfl, hb1⟩; have HX := Lib.hid (HX.out.below hb1); have HBOX := Lib.hid (HBOX.out.below hb1); obtain ⟨s1, k10, k11, k12⟩ := HBOX.out; have HBX := bgo (bal brf _) hb1)
    | (go_at_call 29; first
        | ((with_reducible refine (C1 _).mono ?_); rintro e w2 ⟨B2, c2, he2, hc2, hown2, hb2⟩; rw [HL0.out] at he2 hown2; subst he2; have HX := Lib.hid (HX.out.below hb2); have HBOX := Lib.hid (HBOX.out.below hb2); obtain ⟨s2, k20, k21, k22⟩ := HBOX.out; have HR2 := Lib.hid (Rd.of_own hown2); have HBX := bgo HBX hb2; clear hown2)
        | ((with_reducible refine (C2 _).mono ?_); rintro e w3 ⟨B3, c3, he3, hc3, hown3, hb3⟩; rw [HL1.out] at he3 hown3; subst he3; have HX := Lib.hid (HX.out.below hb3); have HBOX := Lib.hid (HBOX.out.below hb3); obtain ⟨s3, k30, k31, k32⟩ := HBOX.out; have HR2 := Lib.hid (HR2.out.below hb3); have HR3 := Lib.hid (Rd.of_own hown3); have HBX := bgo HBX hb3; clear hown3))
    | (go_at_call 43; refine (C3 _ _ _ _ _ (HR2.out.below (bal (bal brf _) _)) (HR3.out.below (bal (bal brf _) _)) ((rd_new w3 [(n : Int)] 5).below (bal brf _))).mono ?_; rintro e w4 ⟨A4, c4, rfl, hc4, hown4, hb4⟩; have HB4 := Lib.hid (bgo (bal (bal brf _) _) hb4); have HX := Lib.hid (HX.out.below HB4.out); have HBOX := Lib.hid (HBOX.out.below HB4.out); obtain ⟨s4, k40, k41, k42⟩ := HBOX.out; have HBX := bgo HBX HB4.out; have HO := Lib.hid (own_baseT hown4 (show w.heap.size ≤ _ by have z1 := hb1.size; have z2 := hb2.size; have z3 := hb3.size; simp only [World.size_alloc] at z1 ⊢; omega)); clear hown4))
  go_loopw [9, 41] (fun s i wr => ∃ (k : Nat) (A9 : Option Addr) (c9 : Nat), k ≤ n ∧ i = .int .i64 k ∧ s = .slice A9 (17 + k) c9 ∧ wr.ownsRow w.heap.size 5 1 (.slice A9 (17 + k) c9) (17 + k) (nums .u8 ((es ++ rs) ++ [(n : Int)] ++ xs.take k)) ∧ Below w.heap.size w wr) (fun _ i _ => n - (intOf i).toNat)
  case atStart => exact ⟨0, A4, c4, Nat.zero_le _, rfl, rfl, by rw [List.take_zero, List.append_nil]; exact HO.out, HBX⟩
  case round =>
    obtain ⟨k, A9, c9, hk, rfl, rfl, hown, hb⟩ := hrel
    have r0 : (0 : Int) ≤ k := by omega
    by_cases hlt : k < n
    · have r1 : (k : Int) < n := by omega
      obtain ⟨b1, o1, rfl, l1, g1⟩ := (HXW.out.below hb).at_ (by simp [HN.out]; omega)
      have g1 := g1 k _ (nums_at (by rw [HN.out]; exact hlt))
      obtain ⟨x0, x1⟩ := HGX.out k hlt
      have HS := Lib.hid (HST.out k hlt)
      obtain ⟨x, hx⟩ : ∃ x, x = xs.getD k 0 := ⟨_, rfl⟩
      rw [← hx] at g1 x0 x1 HS
      clear hx
      have hsz := hb.size
      go_wp2_with (at_builtin; refine append_one rfl _ _ 22 rfl w.heap.size 5 i0 (.int .u8 0) 1 Tryd.underlying22 hi hz0 hz1 hz2 rfl _ (17 + k) _ rfl hown (.int .u8 x) 5 rfl rfl (by unfold maxLen; omega) (by omega) hsz ?_; intro v6 w6 hown6 hgrow6; obtain ⟨A6, c6, rfl⟩ := own_slice hown6)
      have hb6 : Below w.heap.size w w6 := keep_below hown hgrow6 hb hsz (Nat.le_refl _)
      rw [show nums .u8 ((es ++ rs) ++ [(n : Int)] ++ xs.take k) ++ [Value.int .u8 x] = nums .u8 (((es ++ rs) ++ [(n : Int)] ++ xs.take k) ++ [x]) by simp [nums], HS.out] at hown6
      exact ⟨⟨k + 1, A6, c6, by omega, by congr 1, by rw [Nat.add_assoc], hown6, hb6⟩, by show n - ((k : Int) + 1).toNat < n - (k : Int).toNat; omega⟩
    · obtain rfl : k = n := by omega
      have HR := Lib.hid hown
      clear hown
      go_wp2_with fail
      go_ret2
      have hq := HR.out
      rw [← HF.out] at hq
      obtain ⟨g, cc, he, hcc, hrow, hgb, hgl, hl⟩ := vrow_of_own hq (by omega)
      cases he
      have hlen : (stB ep ro xs).length = 17 + k := by rw [stB_len, HN.out]
      exact ⟨g, c9, by rw [hlen]; rfl, by rw [hlen]; exact hcc, by rw [hlen]; exact hq, hb⟩
end Go.Proofs.YtmkmndgdakpojaaDoor
/- Stamps: the document's Check and Put. -/
namespace Go.Proofs.YtmkmndgdakpojaaDoor
open Go.RowKit
set_option linter.unusedSimpArgs false
set_option linter.unusedVariables false
set_option maxRecDepth 100000

theorem nums_oneT {k : IntKind} {xs : List Int} : ∀ u ∈ nums k xs, u.oneCell' = true := fun u hu => by
  obtain ⟨x, _, rfl⟩ := List.mem_map.1 hu; rfl
theorem mem_take_of {xs : List Int} {j k : Nat} (h : j < k) (hk : k ≤ xs.length) : xs.getD j 0 ∈ xs.take k := by
  have hj : j < (xs.take k).length := by rw [List.length_take]; omega
  have : (xs.take k)[j] = xs.getD j 0 := by simp [List.getD, List.getElem?_eq_getElem (show j < xs.length by omega)]
  rw [← this]; exact List.getElem_mem hj
theorem not_mem_take {xs : List Int} {x : Int} {k : Nat} (h : ∀ t, t < k → xs.getD t 0 ≠ x) : x ∉ xs.take k := fun hm => by
  obtain ⟨i, hi, e⟩ := List.mem_iff_getElem.1 hm
  rw [List.length_take] at hi
  refine h i (by omega) ?_
  rw [← e]; simp [List.getD, List.getElem?_eq_getElem (show i < xs.length by omega)]

set_option maxHeartbeats 2000000 in
theorem rstCheck_any (ep ro : Int) (A : Option Addr) (n c : Nat) (xs : List Int) (w : World) (hn : xs.length = n) (hnc : n ≤ c) (hx : Rd w A (nums .i64 xs)) :
    Calls Tryd.prog 37 #[.agg #[.int .u64 ep, .int .u64 ro, .slice A n c]] w (StEnds xs w) := by
  have HN := Lib.hid hn
  clear hn
  by_cases hl : 1 ≤ n ∧ n ≤ 8
  · obtain ⟨hl1, hl2⟩ := hl
    have HX := Lib.hid (hx.below (bal brf (.cells #[.int .u64 ep, .int .u64 ro, .slice A n c] 28)))
    have hc0 : ¬ c = 0 := by omega
    clear hx
    go_enter Tryd.func37, Tryd.ntmps37
    go_wp2_with fail
    go_loop [20] (fun i => ∃ k : Nat, k ≤ n ∧ i = .int .i64 k ∧ Hid (goodTo xs k)) (fun i => n - (intOf i).toNat)
    case atStart => exact ⟨0, Nat.zero_le _, rfl, Lib.hid ⟨by simp, by simp⟩⟩
    case round =>
      obtain ⟨k, hk, rfl, HG⟩ := hrel
      have r0 : (0 : Int) ≤ k := by omega
      by_cases hkn : k < n
      · have r1 : (k : Int) < n := by omega
        have kc : (k : Int) ≤ c := by omega
        have hlen : Hid (k < xs.length) := Lib.hid (by rw [HN.out]; exact hkn)
        obtain ⟨b1, o1, rfl, l1, c1⟩ := HX.out.at_ (by simp [HN.out]; omega)
        have g1 := c1 k _ (nums_at (by rw [HN.out]; exact hkn))
        have C1 : Hid (∀ j, j < n → _) := Lib.hid (fun j (hj : j < n) => c1 j _ (nums_at (by rw [HN.out]; exact hj)))
        clear c1
        obtain ⟨x, hxk⟩ : ∃ x, x = xs.getD k 0 := ⟨_, rfl⟩
        rw [← hxk] at g1
        have HXK := Lib.hid hxk
        clear hxk
        by_cases r2 : x < 1
        · have HE := Lib.hid (not_good_range hlen.out (.inl (by rw [← HXK.out]; exact r2)))
          go_wp2
          go_ret
          exact ⟨.inr ⟨HE.out, rfl⟩, bal brf _⟩
        by_cases r3 : 16 < x
        · have HE := Lib.hid (not_good_range hlen.out (.inr (by rw [← HXK.out]; exact r3)))
          go_wp2
          go_ret
          exact ⟨.inr ⟨HE.out, rfl⟩, bal brf _⟩
        go_wp2_with fail
        go_loop [36] (fun i => ∃ j : Nat, j ≤ k ∧ i = .int .i64 j ∧ Hid (∀ t, t < j → xs.getD t 0 ≠ x)) (fun i => k - (intOf i).toNat)
        case atStart => exact ⟨0, Nat.zero_le _, rfl, Lib.hid (fun t ht => by omega)⟩
        case round =>
          obtain ⟨j, hj, rfl, HJ⟩ := hrel
          have s0 : (0 : Int) ≤ j := by omega
          by_cases hjk : j < k
          · have s1 : (j : Int) < k := by omega
            have g2 := C1.out j (by omega)
            obtain ⟨y, hyk⟩ : ∃ y, y = xs.getD j 0 := ⟨_, rfl⟩
            rw [← hyk] at g2
            have HYK := Lib.hid hyk
            clear hyk
            by_cases hyx : y = x
            · have HE := Lib.hid (not_good_twice hlen.out (by rw [← HXK.out, ← hyx, HYK.out]; exact mem_take_of hjk (Nat.le_of_lt hlen.out)))
              have hb : (y == x) = true := by simpa using hyx
              have HYX := Lib.hid hyx
              clear hyx
              go_wp2
              go_ret
              exact ⟨.inr ⟨HE.out, rfl⟩, bal brf _⟩
            · have hb : (y == x) = false := by simpa using hyx
              go_wp2
              exact ⟨⟨j + 1, by omega, by go_num, Lib.hid (fun t ht => by
                by_cases e : t = j
                · subst e; rw [← HYK.out]; exact hyx
                · exact HJ.out t (by omega))⟩, by show k - ((j : Int) + 1).toNat < k - (j : Int).toNat; omega⟩
          · have hjk2 : j = k := by omega
            have HG2 := Lib.hid (goodTo_succ hlen.out HG.out (by rw [← HXK.out]; omega) (by rw [← HXK.out]; omega) (by rw [← HXK.out]; exact not_mem_take (by rw [← hjk2]; exact HJ.out)))
            clear hjk2
            go_wp2
            exact ⟨⟨k + 1, by omega, by go_num, HG2⟩, by show n - ((k : Int) + 1).toNat < n - (k : Int).toNat; omega⟩
      · have hkn2 : k = n := by omega
        have HE := Lib.hid (goodSt_of_to (xs := xs) (by rw [HN.out]; omega) (by rw [HN.out]; omega) (by rw [HN.out, ← hkn2]; exact HG.out))
        clear hkn2
        go_wp2
        go_ret
        exact ⟨.inl ⟨HE.out, rfl⟩, bal brf _⟩
  · have HE : Hid (¬ goodSt xs) := Lib.hid (fun h => hl (by rw [← HN.out]; exact ⟨h.1, h.2.1⟩))
    by_cases h1 : n < 1
    · clear hl hx
      go_enter Tryd.func37, Tryd.ntmps37
      go_wp2_with fail
      go_ret
      exact ⟨.inr ⟨HE.out, rfl⟩, bal brf _⟩
    · have h2 : 8 < n := by omega
      clear hl hx
      go_enter Tryd.func37, Tryd.ntmps37
      go_wp2_with fail
      go_ret
      exact ⟨.inr ⟨HE.out, rfl⟩, bal brf _⟩
theorem rstCheck_ok {ep ro : Int} {A : Option Addr} {n c : Nat} {xs : List Int} (w : World) (hn : xs.length = n) (hnc : n ≤ c) (hx : Rd w A (nums .i64 xs)) (hg : goodSt xs) :
    Calls Tryd.prog 37 #[.agg #[.int .u64 ep, .int .u64 ro, .slice A n c]] w fun e w' => e = .returned (.int .i64 0) ∧ Below w.heap.size w w' :=
  (rstCheck_any ep ro A n c xs w hn hnc hx).mono fun e w' ⟨he, hb⟩ => ⟨he.elim (·.2) (fun x => absurd hg x.1), hb⟩
theorem rstCheck_bad {ep ro : Int} {A : Option Addr} {n c : Nat} {xs : List Int} (w : World) (hn : xs.length = n) (hnc : n ≤ c) (hx : Rd w A (nums .i64 xs)) (hg : ¬ goodSt xs) :
    Calls Tryd.prog 37 #[.agg #[.int .u64 ep, .int .u64 ro, .slice A n c]] w fun e w' => e = .returned (.int .i64 1) ∧ Below w.heap.size w w' :=
  (rstCheck_any ep ro A n c xs w hn hnc hx).mono fun e w' ⟨he, hb⟩ => ⟨he.elim (fun x => absurd x.1 hg) (·.2), hb⟩

theorem rstPut_bad (ep ro : Int) (A : Option Addr) (n c : Nat) (xs : List Int) (w : World) (hn : xs.length = n) (hnc : n ≤ c) (hx : Rd w A (nums .i64 xs)) (hg : ¬ goodSt xs) :
    Calls Tryd.prog 33 #[.agg #[.int .u64 ep, .int .u64 ro, .slice A n c]] w fun e w' => e = .returned (.tuple #[.slice none 0 0, .int .i64 1]) ∧ Below w.heap.size w w' := by
  have CC := fun W h1 => rstCheck_bad (ep := ep) (ro := ro) (A := A) (n := n) (c := c) W hn hnc h1 hg
  have HX := Lib.hid (hx.below (bal brf (.cells #[.int .u64 ep, .int .u64 ro, .slice A n c] 28)))
  clear hx hn hg
  go_enter Tryd.func33, Tryd.ntmps33
  go_wp2_with (go_at_call 37; refine (CC _ HX.out).mono ?_; rintro e w1 ⟨rfl, hb1⟩)
  go_ret2
  exact ⟨rfl, bgo (bal brf _) hb1⟩

theorem held_alloc {b i : Nat} {v : Value} {w1 x : World} {o : Obj} (h : x.cell? ⟨b, i, none⟩ = some v ∧ Below w1.heap.size w1 x) : (x.alloc o).cell? ⟨b, i, none⟩ = some v ∧ Below w1.heap.size w1 (x.alloc o) :=
  ⟨(World.cell?_alloc_lt _ _ _ (cell_lt h.1)).trans h.1, bal h.2 _⟩
theorem rd_grow {w w' : World} {b : Nat} {vs : List Value} {row : Option Nat} (h : Rd w (some ⟨b, 0, none⟩) vs) (hg : w.grownBy w' row) (hne : row ≠ some b) : Rd w' (some ⟨b, 0, none⟩) vs := by
  rcases h with h | ⟨b', o, he, hl, hc⟩
  · exact .inl h
  · cases he
    exact .inr ⟨b, 0, rfl, Nat.lt_of_lt_of_le hl hg.size, fun i v hv => (World.cell?_of_block (a := ⟨b, 0 + i, none⟩) (hg.block b hl (fun e => hne e.symm))).trans (hc i v hv)⟩

set_option maxHeartbeats 4000000 in
theorem rstPut_any (ep ro : Nat) (A : Option Addr) (n c : Nat) (xs : List Int) (w : World) (hn : xs.length = n) (hnc : n ≤ c) (hx : Rd w A (nums .i64 xs)) (hg : goodSt xs) (he : ep < 18446744073709551616) (hr : ro < 18446744073709551616) :
    Calls Tryd.prog 33 #[.agg #[.int .u64 ep, .int .u64 ro, .slice A n c]] w (IsNum w (stB ep ro xs)) := by
  obtain ⟨i0, hi, hz0, hz1, hz2⟩ := info_parts infoByteT
  have hg8 : n ≤ 8 := by rw [← hn]; exact hg.2.1
  have hg1 : 1 ≤ n := by rw [← hn]; exact hg.1
  have hgx : ∀ k, k < n → 1 ≤ xs.getD k 0 ∧ xs.getD k 0 ≤ 16 := fun k hk => hg.2.2.1 _ (by rw [← hn] at hk; simp [List.getD, List.getElem?_eq_getElem hk])
  have CC := fun W h1 => rstCheck_ok (ep := ep) (ro := ro) (A := A) (n := n) (c := c) W hn hnc h1 hg
  have C1 := fun W => rput8_any ep W he
  have C2 := fun W => rput8_any ro W hr
  have hl0 : (lowB ep 8).length = 8 := lowB_len _ _
  have hl1 : (lowB ro 8).length = 8 := lowB_len _ _
  obtain ⟨es, hes⟩ : ∃ es, es = lowB ep 8 := ⟨_, rfl⟩
  obtain ⟨rs, hrs⟩ : ∃ rs, rs = lowB ro 8 := ⟨_, rfl⟩
  have hst : ∀ k, k < n → ((es ++ rs) ++ [(n : Int)] ++ xs.take k) ++ [xs.getD k 0] = (es ++ rs) ++ [(n : Int)] ++ xs.take (k + 1) := fun k hk => by rw [hes, hrs, ← hn]; exact stB_take ep ro xs k (by rw [hn]; exact hk)
  have hfin : stB ep ro xs = (es ++ rs) ++ [(n : Int)] ++ xs.take n := by rw [stB, hes, hrs, ← hn, List.take_length]
  rw [← hes] at C1 hl0
  rw [← hrs] at C2 hl1
  have hlr : (nums .u8 rs).length = 8 := by simp [hl1]
  have HBOX := Lib.hid (stBox_new w ep ro (.slice A n c) 28)
  have HX := Lib.hid (hx.below (bal brf (.cells #[.int .u64 ep, .int .u64 ro, .slice A n c] 28)))
  have HXW := Lib.hid hx
  have HN := Lib.hid hn
  have HGX := Lib.hid hgx
  have HST := Lib.hid hst
  have HF := Lib.hid hfin
  have HL0 := Lib.hid hl0
  have HL1 := Lib.hid hl1
  have HLR := Lib.hid hlr
  clear hx hn hg hgx he hr hes hrs hst hfin hl0 hl1 hlr
  go_enter Tryd.func33, Tryd.ntmps33
  go_upto_region 6 with (first
    | (go_at_call 37; refine (CC _ HX.out).mono ?_; rintro e w1 ⟨rfl, hb1⟩; have HBOX := Lib.hid (HBOX.out.below hb1); obtain ⟨s1, k10, k11, k12⟩ := HBOX.out; have HBX := bgo (bal brf _) hb1)
    | (go_at_call 45; first
        | ((with_reducible refine (C1 _).mono ?_); rintro e w2 ⟨B2, c2, he2, hc2, hown2, hb2⟩; rw [HL0.out] at he2 hown2; subst he2; have HBOX := Lib.hid (HBOX.out.below hb2); obtain ⟨s2, k20, k21, k22⟩ := HBOX.out; have HO := Lib.hid hown2; have HB12 := hb2; have HBX := bgo HBX hb2; clear hown2)
        | ((with_reducible refine (C2 _).mono ?_); rintro e w3 ⟨B3, c3, he3, hc3, hown3, hb3⟩; rw [HL1.out] at he3 hown3; subst he3; have HBOX := Lib.hid (HBOX.out.below hb3); obtain ⟨s3, k30, k31, k32⟩ := HBOX.out; have HLT : Hid (B2 < w3.heap.size) := Lib.hid (Nat.lt_of_lt_of_le (HO.out.lt B2 rfl).2 hb3.size); have HO := Lib.hid (own_below HO.out hb3); have HB13 := bgo HB12 hb3; have HR3 := Lib.hid (Rd.of_own hown3); have HBX := bgo HBX hb3; clear hown3)))
  have z13 := HB13.size
  have wn_ : IntKind.u8.wrap (n : Int) = (n : Int) := IntWalk.u8_in _ (by omega)
  have HW1 := Lib.hid (show Below w.heap.size w w1 from bgo (bal brf _) hb1)
  have hstart : w3.drew.cell? ⟨w.heap.size, 2, none⟩ = some (.slice A n c) ∧ Below w1.heap.size w1 w3.drew := ⟨k32, bdr HB13⟩
  go_region_held3 (fun x => x.cell? ⟨w.heap.size, 2, none⟩ = some (.slice A n c) ∧ Below w1.heap.size w1 x) (first | assumption | exact held_alloc (by assumption))
    (first
      | (refine step_append_vs rfl _ _ 22 (by rfl) w1.heap.size 5 i0 (.int .u8 0) 1 Tryd.underlying22 hi hz0 hz1 hz2 rfl (.slice (some ⟨B2, 0, none⟩) 8 c2) 8 (nums .u8 es) (by rfl) (by first | exact own_drew HO.out | exact (own_drew HO.out).alloc _) (some ⟨B3, 0, none⟩) 8 c3 (nums .u8 rs) (by rfl) HLR.out (by first | exact HR3.out.below (bdr brf) | exact HR3.out.below (bal (bdr brf) _)) nums_oneT (by unfold maxLen; omega) (by omega) (by simp; omega) ?_; intro v4 w4 hown4 hgrow4; have hb4 : Below w1.heap.size w1 w4 := keep_below0 (by first | exact own_drew HO.out | exact (own_drew HO.out).alloc _) hgrow4 (by first | exact bdr HB13 | exact bal (bdr HB13) _) (by simp; omega) (Nat.le_refl _); have hS4 : w4.cell? ⟨w.heap.size, 2, none⟩ = some (.slice A n c) ∧ Below w1.heap.size w1 w4 := ⟨(hb4.cell (p := ⟨w.heap.size, 2, none⟩) s1).trans k12, hb4⟩; (try have HRn := Lib.hid (rd_grow (rd_new w3.drew [(n : Int)] 5) hgrow4 (by have := HLT.out; simp [Value.ownBlock]; omega))))
      | (refine step_append_vs rfl _ _ 22 (by rfl) w1.heap.size 5 i0 (.int .u8 0) 1 Tryd.underlying22 hi hz0 hz1 hz2 rfl v4 16 (nums .u8 es ++ nums .u8 rs) (by rfl) (by first | exact hown4 | exact hown4.alloc _) _ 1 1 (nums .u8 [(n : Int)]) (by rfl) rfl (by first | exact HRn.out | exact rd_new w4 [(n : Int)] _) nums_oneT (by unfold maxLen; omega) (by omega) (by have := hb4.size; simp; omega) ?_; intro v5 w5 hown5 hgrow5; have hb5 : Below w1.heap.size w1 w5 := keep_below0 (by first | exact hown4 | exact hown4.alloc _) hgrow5 (by first | exact hb4 | exact bal hb4 _) (by have := hb4.size; simp; omega) (Nat.le_refl _); obtain ⟨A5, c5, rfl⟩ := own_slice hown5; have hS5 : w5.cell? ⟨w.heap.size, 2, none⟩ = some (.slice A n c) ∧ Below w1.heap.size w1 w5 := ⟨(hb5.cell (p := ⟨w.heap.size, 2, none⟩) s1).trans k12, hb5⟩))
  all_goals
    have HO5 := Lib.hid (show w5.ownsRow w.heap.size 5 1 (.slice A5 17 c5) 17 (nums .u8 ((es ++ rs) ++ [(n : Int)] ++ xs.take 0)) by
      rw [List.take_zero, List.append_nil, nums, List.map_append, List.map_append]
      exact own_baseT hown5 HW1.out.size)
    have HB5 := Lib.hid (bgo HW1.out hb5)
    obtain ⟨kS, _⟩ := hS5
    clear hown5 hown4 hgrow4 hgrow5 hS4 hstart wn_
    simp only [Nat.reduceAdd]
    go_wp2_with fail
    go_loopw [5, 40] (fun s i wr => ∃ (k : Nat) (A9 : Option Addr) (c9 : Nat), k ≤ n ∧ i = .int .i64 k ∧ s = .slice A9 (17 + k) c9 ∧ wr.ownsRow w.heap.size 5 1 (.slice A9 (17 + k) c9) (17 + k) (nums .u8 ((es ++ rs) ++ [(n : Int)] ++ xs.take k)) ∧ Below w.heap.size w wr) (fun _ i _ => n - (intOf i).toNat)
    case atStart => exact ⟨0, A5, c5, Nat.zero_le _, rfl, rfl, HO5.out, HB5.out⟩
    case round =>
      obtain ⟨k, A9, c9, hk, rfl, rfl, hown, hb⟩ := hrel
      have r0 : (0 : Int) ≤ k := by omega
      by_cases hlt : k < n
      · have r1 : (k : Int) < n := by omega
        obtain ⟨b1, o1, rfl, l1, g1⟩ := (HXW.out.below hb).at_ (by simp [HN.out]; omega)
        have g1 := g1 k _ (nums_at (by rw [HN.out]; exact hlt))
        obtain ⟨x0, x1⟩ := HGX.out k hlt
        have HS := Lib.hid (HST.out k hlt)
        obtain ⟨x, hx⟩ : ∃ x, x = xs.getD k 0 := ⟨_, rfl⟩
        rw [← hx] at g1 x0 x1 HS
        clear hx
        have hsz := hb.size
        go_wp2_with (at_builtin; refine append_one rfl _ _ 22 rfl w.heap.size 5 i0 (.int .u8 0) 1 Tryd.underlying22 hi hz0 hz1 hz2 rfl _ (17 + k) _ rfl hown (.int .u8 x) 5 rfl rfl (by unfold maxLen; omega) (by omega) hsz ?_; intro v6 w6 hown6 hgrow6; obtain ⟨A6, c6, rfl⟩ := own_slice hown6)
        have hb6 : Below w.heap.size w w6 := keep_below hown hgrow6 hb hsz (Nat.le_refl _)
        rw [show nums .u8 ((es ++ rs) ++ [(n : Int)] ++ xs.take k) ++ [Value.int .u8 x] = nums .u8 (((es ++ rs) ++ [(n : Int)] ++ xs.take k) ++ [x]) by simp [nums], HS.out] at hown6
        exact ⟨⟨k + 1, A6, c6, by omega, by congr 1, by rw [Nat.add_assoc], hown6, hb6⟩, by show n - ((k : Int) + 1).toNat < n - (k : Int).toNat; omega⟩
      · obtain rfl : k = n := by omega
        have HR := Lib.hid hown
        clear hown
        go_wp2_with fail
        go_ret2
        have hq := HR.out
        rw [← HF.out] at hq
        obtain ⟨g, cc, he, hcc, hrow, hgb, hgl, hl⟩ := vrow_of_own hq (by omega)
        cases he
        have hlen : (stB ep ro xs).length = 17 + k := by rw [stB_len, HN.out]
        exact ⟨g, c9, by rw [hlen]; rfl, by rw [hlen]; exact hcc, by rw [hlen]; exact hq, hb⟩
end Go.Proofs.YtmkmndgdakpojaaDoor
