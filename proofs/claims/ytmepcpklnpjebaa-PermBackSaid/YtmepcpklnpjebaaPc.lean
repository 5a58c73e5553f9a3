/- The document's shuffle: its contract. -/
import Derived.Test.YtmepcpklnpjebaaPb
import Derived.Test.YtmepcpklnpjebaaApp
import Derived.RegionTactic
import Derived.BigRegion
namespace Go.Proofs.Ytmepcpklnpjebaa
open Go.RowKit
set_option linter.unusedSimpArgs false
set_option linter.unusedVariables false

/-- A shuffle of n numbers by draws, and how many were used. -/
def IsShuf (w : World) (n : Nat) (ds : List Int) (e : Ending) (w' : World) : Prop :=
  ∃ A c, e = .returned (.tuple #[.slice A n c, .int .i64 (min (n - 1) ds.length : Nat), .int .i64 0]) ∧ n ≤ c ∧ Rd w' A (nums .i64 (shufL n ds)) ∧ Below w.heap.size w w'

theorem rshuf_bad (z : Int) (A : Option Addr) (m c : Nat) (w : World) (h : z < 0 ∨ 1024 < z) :
    Calls Try.prog 17 #[.int .i64 z, .slice A m c] w fun e w' => e = .returned (.tuple #[.slice none 0 0, .int .i64 0, .int .i64 1]) ∧ w = w' := by
  by_cases h1 : z < 0
  · go_enter Try.func17, Try.ntmps17
    go_wp2_with fail
    go_ret3
    exact ⟨rfl, rfl⟩
  · have h2 : 1024 < z := by omega
    go_enter Try.func17, Try.ntmps17
    go_wp2_with fail
    go_ret3
    exact ⟨rfl, rfl⟩

theorem nums_swap {l : List Int} {i j : Nat} (hi : i < l.length) (hj : j < l.length) : ((nums .i64 l).set i (.int .i64 (l.getD j 0))).set j (.int .i64 (l.getD i 0)) = nums .i64 (swapL l i j) := by
  simp [nums, swapL, List.map_set]

set_option maxRecDepth 100000 in
set_option maxHeartbeats 2000000 in
theorem rshuf_any (n : Nat) (A : Option Addr) (m c : Nat) (ds : List Int) (w : World) (hn : n ≤ 1024) (hm : ds.length = m) (hmax : m ≤ 100000) (hx : Rd w A (nums .i64 ds)) :
    Calls Try.prog 17 #[.int .i64 n, .slice A m c] w (IsShuf w n ds) := by
  obtain ⟨i0, hi, hz0, hz1, hz2⟩ := info_parts infoInt
  have r0 : ¬ (n : Int) < 0 := by omega
  have r1 : ¬ (1024 : Int) < n := by omega
  have HM := Lib.hid hm
  have HX := Lib.hid hx
  clear hm hx
  go_enter Try.func17, Try.ntmps17
  go_wp2_with fail
  go_loopw [7, 20] (fun v i wr => ∃ k : Nat, k ≤ n ∧ i = .int .i64 k ∧ (∃ A c, v = .slice A k c) ∧ wr.ownsRow w.heap.size 3 1 v k (nums .i64 (idL k)) ∧ Below w.heap.size w wr) (fun _ i _ => n - (intOf i).toNat)
  case atStart => exact ⟨0, Nat.zero_le _, rfl, ⟨_, _, rfl⟩, ⟨rfl, .inl ⟨rfl, rfl⟩⟩, brf⟩
  case round =>
    obtain ⟨k, hk, rfl, ⟨A7, c7, rfl⟩, hown, hb⟩ := hrel
    have hzz := hb.size
    by_cases hlt : k < n
    · have r2 : (k : Int) < n := by omega
      go_wp2_with (at_builtin; refine append_one rfl _ _ 22 rfl w.heap.size 3 i0 (.int .i64 0) 8 Try.underlying22 hi hz0 hz1 hz2 rfl _ _ _ rfl hown _ _ rfl rfl (by unfold maxLen; omega) (by omega) hzz ?_; intro v6 w6 hown6 hgrow6; obtain ⟨A6, c6, rfl⟩ := own_slice hown6)
      refine ⟨⟨k + 1, by omega, by congr 1, ⟨A6, c6, by congr 1⟩, ?_, keep_below hown hgrow6 hb hzz (Nat.le_refl _)⟩, by show n - ((k : Int) + 1).toNat < n - (k : Int).toNat; omega⟩
      rw [idL_succ, nums, List.map_append]
      exact hown6
    · have hkn : n = k := by omega
      subst hkn
      clear hlt hk
      rcases Nat.eq_zero_or_pos n with h0 | h0
      · subst h0
        have hrd := Rd.of_own hown
        clear hown
        go_wp2_with fail
        refine wp_loop_rounds 1 ?_
        rw [rounds_succ]
        go_wp2_with fail
        go_ret3
        exact ⟨A7, c7, by simp, Nat.zero_le _, hrd, hb⟩
      · obtain ⟨g, cg, hv, hcg, hrow, hg1, hg2, hlen⟩ := vrow_of_own hown h0
        cases hv
        have HR := Lib.hid hrow
        have HB := Lib.hid hb
        clear hown hrow hb hlen
        go_wp2_with fail
        go_loopw [9, 10] (fun u i wq => ∃ (k d : Nat) (z : Int), d ≤ m ∧ Hid (d = min k m) ∧ k ≤ n - 1 ∧ z ≤ (n : Int) - 1 - k ∧ (n : Int) - 1 - k ≤ z ∧ i = .int .i64 z ∧ u = .int .i64 d ∧ VRow wq g (nums .i64 (shufN n ds k)) ∧ g < wq.heap.size ∧ Below w.heap.size w wq) (fun _ i _ => (intOf i).toNat)
        case atStart => exact ⟨0, 0, (n : Int) - 1, Nat.zero_le _, Lib.hid (by simp), Nat.zero_le _, by omega, by omega, rfl, rfl, HR.out, hg2, HB.out⟩
        case round =>
          obtain ⟨k, d, z, hd, HD, hk, hz1', hz2', rfl, rfl, hrow, hg3, hb2⟩ := hrel
          have hlen : (shufN n ds k).length = n := shufN_len _ _ _
          by_cases hlt : 1 ≤ z
          · obtain ⟨i, rfl⟩ := Int.eq_ofNat_of_zero_le (show 0 ≤ z by omega)
            have hin : i < n := by omega
            obtain ⟨x, hxd⟩ : ∃ x, x = ds.getD k 0 := ⟨_, rfl⟩
            have ht3 := tmod_cases x (i + 1) (by omega)
            have ht1 := Int.emod_lt_of_pos x (b := ((i + 1 : Nat) : Int)) (by omega)
            have ht2 := Int.emod_nonneg x (b := ((i + 1 : Nat) : Int)) (by omega)
            have hj := leftN_lt x (m := i + 1) (by omega)
            have hjc := leftN_cast x (m := i + 1) (by omega)
            obtain ⟨j, hje⟩ : ∃ j, j = leftN x (i + 1) := ⟨_, rfl⟩
            rw [← hje] at hj hjc
            rw [Int.natCast_add, Int.natCast_one] at ht1 ht2 ht3 hjc
            have b1 : -(i : Int) ≤ x.tmod ((i : Int) + 1) := by omega
            have b2 : x.tmod ((i : Int) + 1) ≤ i := by omega
            have b3 : (x.tmod ((i : Int) + 1) + i + 1) % ((i : Int) + 1) = j := by
              rw [hjc]
              rcases ht3 with h | ⟨h, _⟩
              · rw [h, Int.add_assoc, Int.add_emod_right, Int.emod_emod]
              · rw [h, show x % ((i : Int) + 1) - (i + 1) + i + 1 = x % ((i : Int) + 1) by omega, Int.emod_emod]
            have ci := (hrow i _ (nums_at (by rw [hlen]; exact hin))).1
            have fi := (hrow i _ (nums_at (by rw [hlen]; exact hin))).2
            have cj := (hrow j _ (nums_at (by rw [hlen]; omega))).1
            have fj := (hrow j _ (nums_at (by rw [hlen]; omega))).2
            obtain ⟨y, hy⟩ : ∃ y, y = (shufN n ds k).getD i 0 := ⟨_, rfl⟩
            obtain ⟨z, hz⟩ : ∃ z, z = (shufN n ds k).getD j 0 := ⟨_, rfl⟩
            rw [← hy] at ci
            rw [← hz] at cj
            have hsw : (((nums .i64 (shufN n ds k)).set i (.int .i64 z)).set j (.int .i64 y)) = nums .i64 (shufN n ds (k + 1)) := by
              rw [shufN, show n - 1 - k = i by omega, show n - k = i + 1 by omega, ← hxd, ← hje, hy, hz]
              exact nums_swap (by rw [hlen]; exact hin) (by rw [hlen]; omega)
            have hst := (hrow.set (k := i) (.int .i64 z)).set (k := j) (.int .i64 y)
            rw [hsw] at hst
            have HST := Lib.hid hst
            have hsz : g < ((wr.setCell ⟨g, i, none⟩ (.int .i64 z)).setCell ⟨g, j, none⟩ (.int .i64 y)).heap.size := by rw [size_setCell, size_setCell]; exact hg3
            have HSZ := Lib.hid hsz
            have HBL := Lib.hid ((hb2.setCell (p := ⟨g, i, none⟩) hg1 (.int .i64 z)).setCell (p := ⟨g, j, none⟩) hg1 (.int .i64 y))
            have HXD := Lib.hid hxd
            clear ht1 ht2 ht3 hjc hje hy hz hsw hst hsz hxd hrow hlen
            by_cases hdm : d < m
            · have hkd : k = d := by have := HD.out; omega
              subst hkd
              obtain ⟨bA, oA, rfl, hlA, hcA⟩ := (HX.out.below hb2).at_ (by simp [HM.out]; omega)
              have cd := hcA k _ (nums_at (by rw [HM.out]; exact hdm))
              rw [← HXD.out] at cd
              clear hcA
              by_cases hij : i = j
              · subst hij
                obtain rfl : y = z := by have := ci.symm.trans cj; simpa using this
                clear cj fj
                go_wp2_with fail
                go_region
                go_wp2_with fail
                refine ⟨⟨k + 1, k + 1, (i : Int) - 1, by omega, Lib.hid (by have := HD.out; omega), by omega, by omega, by omega, rfl, by congr 1, HST.out, HSZ.out, bdr HBL.out⟩, by show ((i : Int) - 1).toNat < (i : Int).toNat; omega⟩
              · go_wp2_with fail
                go_region
                go_wp2_with fail
                refine ⟨⟨k + 1, k + 1, (i : Int) - 1, by omega, Lib.hid (by have := HD.out; omega), by omega, by omega, by omega, rfl, by congr 1, HST.out, HSZ.out, bdr HBL.out⟩, by show ((i : Int) - 1).toNat < (i : Int).toNat; omega⟩
            · have hx0 : x = 0 := by rw [HXD.out, List.getD, List.getElem?_eq_none (by rw [HM.out]; have := HD.out; omega)]; rfl
              subst hx0
              have hj0 : j = 0 := by simp at b3; omega
              subst hj0
              have hij : ¬ i = 0 := by omega
              clear b1 b2 b3
              go_wp2_with fail
              go_region
              go_wp2_with fail
              refine ⟨⟨k + 1, d, (i : Int) - 1, by omega, Lib.hid (by have := HD.out; omega), by omega, by omega, by omega, rfl, by congr 1, HST.out, HSZ.out, bdr HBL.out⟩, by show ((i : Int) - 1).toNat < (i : Int).toNat; omega⟩
          · have hk0 : k = n - 1 := by omega
            have HS := Lib.hid (show shufN n ds k = shufL n ds by rw [hk0]; rfl)
            have HU := Lib.hid (show d = min (n - 1) ds.length by rw [← hk0, HM.out]; exact HD.out)
            have hrd := hrow.rd hg3
            rw [HS.out] at hrd
            have HR2 := Lib.hid hrd
            clear hk0 hrow hlen hrd HD
            go_wp2_with fail
            go_ret3
            have hu := HU.out
            subst hu
            exact ⟨_, c7, rfl, hcg, HR2.out, hb2⟩
end Go.Proofs.Ytmepcpklnpjebaa
