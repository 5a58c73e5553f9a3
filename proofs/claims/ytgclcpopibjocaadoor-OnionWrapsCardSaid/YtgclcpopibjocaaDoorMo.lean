/- The document's xor. -/
import Derived.Test.YtgclcpopibjocaaDoorMn
import Derived.Deep.RegionHeld3
namespace Go.Proofs.YtgclcpopibjocaaDoor
open Go.RowKit
set_option linter.unusedSimpArgs false
set_option linter.unusedVariables false
set_option maxRecDepth 100000

theorem rxor_bad (A B : Option Addr) (n c m d : Nat) (w : World) (h : n ≠ m) :
    Calls Tryd.prog 92 #[.slice A n c, .slice B m d] w fun e w' => e = .returned (.tuple #[.slice none 0 0, .int .i64 1]) ∧ w = w' := by
  have r1 : ¬ ((n : Int) = m) := by omega
  go_enter Tryd.func92, Tryd.ntmps92
  go_wp2_with fail
  go_ret2
  exact ⟨rfl, rfl⟩

theorem xorL_take (xs ys : List Int) (k : Nat) (h : k < xs.length) : (xorL xs ys).take (k + 1) = (xorL xs ys).take k ++ [xor8 (xs.getD k 0) (ys.getD k 0)] := by
  rw [List.take_add_one, xorL, List.getElem?_map, List.getElem?_range h]
  rfl
/-- A row of one's own, and no error. -/
def IsOwn2 (w : World) (ys : List Int) (e : Ending) (w' : World) : Prop :=
  ∃ A c, e = .returned (.tuple #[.slice A ys.length c, .int .i64 0]) ∧ ys.length ≤ c ∧ w'.ownsRow w.heap.size 5 1 (.slice A ys.length c) ys.length (nums .u8 ys) ∧ Below w.heap.size w w'
theorem IsOwn2.row2 {w w' : World} {ys : List Int} {e : Ending} (h : IsOwn2 w ys e w') : IsRow2 w ys e w' := by
  obtain ⟨A, c, he, hc, ho, hb⟩ := h
  exact ⟨A, c, he, hc, Rd.of_own ho, hb⟩


set_option maxRecDepth 100000 in
set_option maxHeartbeats 2000000 in
theorem rxor_own (A B : Option Addr) (n c d : Nat) (xs ys : List Int) (w : World) (hn : xs.length = n) (hm : ys.length = n) (hb : n ≤ 100000) (hx : Rd w A (nums .u8 xs)) (hy : Rd w B (nums .u8 ys)) :
    Calls Tryd.prog 92 #[.slice A n c, .slice B n d] w (IsOwn2 w (xorL xs ys)) := by
  obtain ⟨i0, hi, hz0, hz1, hz2⟩ := info_parts infoByte
  have HX := Lib.hid hx
  have HY := Lib.hid hy
  have HN := Lib.hid hn
  have HM := Lib.hid hm
  clear hx hy hn hm
  go_enter Tryd.func92, Tryd.ntmps92
  go_wp2_with fail
  go_loopw [6, 15] (fun v i wr => ∃ k : Nat, k ≤ n ∧ i = .int .i64 k ∧ (∃ A c, v = .slice A k c) ∧ wr.ownsRow w.heap.size 5 1 v k (nums .u8 ((xorL xs ys).take k)) ∧ Below w.heap.size w wr) (fun _ i _ => n - (intOf i).toNat)
  case atStart => exact ⟨0, Nat.zero_le _, rfl, ⟨_, _, rfl⟩, ⟨rfl, .inl ⟨rfl, rfl⟩⟩, brf⟩
  case round =>
    obtain ⟨k, hk, rfl, ⟨A6, c6, rfl⟩, hown, hb⟩ := hrel
    have hzz := hb.size
    by_cases hlt : k < n
    · have r1 : (k : Int) < n := by omega
      have r0 : (0 : Int) ≤ k := by omega
      obtain ⟨b1, o1, rfl, hw1, hc1⟩ := HX.out.at_ (by simp [HN.out]; omega)
      obtain ⟨b2, o2, rfl, hw2, hc2⟩ := HY.out.at_ (by simp [HM.out]; omega)
      have gw1 := hc1 k _ (nums_at (by rw [HN.out]; exact hlt))
      have gw2 := hc2 k _ (nums_at (by rw [HM.out]; exact hlt))
      have htk := xorL_take xs ys k (by rw [HN.out]; exact hlt)
      obtain ⟨x, hxv⟩ : ∃ x, x = xs.getD k 0 := ⟨_, rfl⟩
      obtain ⟨y, hyv⟩ : ∃ y, y = ys.getD k 0 := ⟨_, rfl⟩
      rw [← hxv] at gw1 htk
      rw [← hyv] at gw2 htk
      have g1 := (hb.cell (p := ⟨b1, o1 + k, none⟩) hw1).trans gw1
      have g2 := (hb.cell (p := ⟨b2, o2 + k, none⟩) hw2).trans gw2
      have HTK := Lib.hid htk
      have HOWN := Lib.hid (hown.drew)
      have HB := Lib.hid (bdr hb)
      clear hc1 hc2 hxv hyv htk hown
      go_wp2_with fail
      refine wp_region_held_drew (S := fun W' => W'.cell? ⟨b1, o1 + k, none⟩ = some (.int .u8 x) ∧ W'.cell? ⟨b2, o2 + k, none⟩ = some (.int .u8 y)) (by kernel_rfl) ⟨g1, g2⟩ (fun hHeld => ?_)
      have hzd : w.heap.size ≤ wr.drew.heap.size := hzz
      have hld1 : b1 < wr.drew.heap.size := by have := cell_lt g1; exact this
      have hld2 : b2 < wr.drew.heap.size := by have := cell_lt g2; exact this
      refine wpAnyH_take (i := 0) (v := ?_) rfl (by kernel_rfl) (by kernel_rfl) (by kernel_rfl) (fun _ _ _ h => h) (Or.inl ⟨by rfl, ?_⟩) (by assumption) ?_
      rotate_left
      · rintro W9 ⟨s1, s2⟩
        go_simp
        rfl
      try simp only [Act.put, List.setIfInBounds_toArray, List.set_cons_zero, List.set_cons_succ]
      refine wpAnyH_take (i := 1) (v := ?_) rfl (by kernel_rfl) (by kernel_rfl) (by kernel_rfl) (fun _ _ _ h => h) (Or.inl ⟨by rfl, ?_⟩) (by assumption) ?_
      rotate_left
      · rintro W9 ⟨s1, s2⟩
        go_simp
        rfl
      try simp only [Act.put, List.setIfInBounds_toArray, List.set_cons_zero, List.set_cons_succ]
      refine wpAnyH_take (i := 2) (v := ?_) rfl (by kernel_rfl) (by kernel_rfl) (by kernel_rfl) (fun _ _ _ h => h) (Or.inl ⟨by rfl, ?_⟩) (by assumption) ?_
      rotate_left
      · rintro W9 ⟨s1, s2⟩
        go_simp
        rfl
      try simp only [Act.put, List.setIfInBounds_toArray, List.set_cons_zero, List.set_cons_succ]
      refine wpAnyH_take (i := 3) (v := ?_) rfl (by kernel_rfl) (by kernel_rfl) (by kernel_rfl) (fun _ _ _ h => h) (Or.inl ⟨by rfl, ?_⟩) (by assumption) ?_
      rotate_left
      · rintro W9 ⟨s1, s2⟩
        go_simp
        rfl
      try simp only [Act.put, List.setIfInBounds_toArray, List.set_cons_zero, List.set_cons_succ]
      refine wpAnyH_take (i := 4) (v := ?_) rfl (by kernel_rfl) (by kernel_rfl) (by kernel_rfl) (fun _ _ _ h => h) (Or.inl ⟨by rfl, ?_⟩) (by assumption) ?_
      rotate_left
      · rintro W9 ⟨s1, s2⟩
        go_simp
        rfl
      try simp only [Act.put, List.setIfInBounds_toArray, List.set_cons_zero, List.set_cons_succ]
      refine wpAnyH_take (i := 5) (v := ?_) rfl (by kernel_rfl) (by kernel_rfl) (by kernel_rfl) (fun _ _ _ h => h) (Or.inl ⟨by rfl, ?_⟩) (by assumption) ?_
      rotate_left
      · rintro W9 ⟨s1, s2⟩
        go_simp
        rfl
      try simp only [Act.put, List.setIfInBounds_toArray, List.set_cons_zero, List.set_cons_succ]
      refine wpAnyH_take (i := 6) (v := ?_) rfl (by kernel_rfl) (by kernel_rfl) (by kernel_rfl) (fun _ _ _ h => h) (Or.inl ⟨by rfl, ?_⟩) (by assumption) ?_
      rotate_left
      · rintro W9 ⟨s1, s2⟩
        go_simp
        rfl
      try simp only [Act.put, List.setIfInBounds_toArray, List.set_cons_zero, List.set_cons_succ]
      refine wpAnyH_take (i := 7) (v := ?_) rfl (by kernel_rfl) (by kernel_rfl) (by kernel_rfl) (fun _ _ _ h => h) (Or.inl ⟨by rfl, ?_⟩) (by assumption) ?_
      rotate_left
      · rintro W9 ⟨s1, s2⟩
        go_simp
        rfl
      try simp only [Act.put, List.setIfInBounds_toArray, List.set_cons_zero, List.set_cons_succ]
      refine wpAnyH_take (i := 8) (v := ?_) rfl (by kernel_rfl) (by kernel_rfl) (by kernel_rfl) (fun _ _ _ h => h) (Or.inl ⟨by rfl, ?_⟩) (by assumption) ?_
      rotate_left
      · rintro W9 ⟨s1, s2⟩
        go_simp
        rfl
      try simp only [Act.put, List.setIfInBounds_toArray, List.set_cons_zero, List.set_cons_succ]
      refine wpAnyH_take (i := 9) (v := ?_) rfl (by kernel_rfl) (by kernel_rfl) (by kernel_rfl) (fun _ _ _ h => h) (Or.inl ⟨by rfl, ?_⟩) (by assumption) ?_
      rotate_left
      · rintro W9 ⟨s1, s2⟩
        go_simp
        rfl
      try simp only [Act.put, List.setIfInBounds_toArray, List.set_cons_zero, List.set_cons_succ]
      obtain ⟨wd, hwd⟩ : ∃ wd, wd = wr.drew := ⟨_, rfl⟩
      rw [← hwd] at HOWN HB hzd hld1 hld2 hHeld ⊢
      clear hwd
      refine wpAnyH_ready (rs := [10]) (by kernel_rfl) (by simp) ?_
      refine AllReadyH.cons rfl (fun K hK => ?_) AllReadyH.nil
      go_simp
      refine hK.out _ _ ?_ (fun hHeld => ?_)
      · exact ⟨(World.cell?_alloc_lt _ _ _ hld1).trans hHeld.1, (World.cell?_alloc_lt _ _ _ hld2).trans hHeld.2⟩
      clear hK K
      try simp only [Act.put, List.setIfInBounds_toArray, List.set_cons_zero, List.set_cons_succ]
      refine wpAnyH_ready (rs := [11]) (by kernel_rfl) (by simp) ?_
      refine AllReadyH.cons rfl (fun K hK => ?_) AllReadyH.nil
      rw [if_pos (by rfl)]
      refine wp_append_own _ _ _ 22 rfl w.heap.size 5 i0 (.int .u8 0) 1 1 Tryd.underlying22 hi hz0 hz1 hz2 rfl (by decide) _ _ _ rfl (HOWN.out.alloc _) ⟨wd.heap.size, 0, none⟩ 1 1 [.int .u8 (xor8 x y)] rfl rfl (fun j y hy => app_there wd #[_] _ j y hy) (fun u hu => by simp at hu; rw [hu]; rfl) (by unfold maxLen; omega) (by omega) (by rw [World.size_alloc]; omega) fun v7 w7 hown7 hgrow7 _ => ?_
      obtain ⟨A7, c7, rfl⟩ := own_slice hown7
      refine hK.out _ _ ?_ (fun hHeld => ?_)
      · have hb7 := keep_below HOWN.out hgrow7 HB.out hzd (Nat.le_refl _); exact ⟨(hb7.cell (p := ⟨b1, o1 + k, none⟩) hw1).trans gw1, (hb7.cell (p := ⟨b2, o2 + k, none⟩) hw2).trans gw2⟩
      clear hK K
      try simp only [Act.put, List.setIfInBounds_toArray, List.set_cons_zero, List.set_cons_succ]
      refine wpAnyH_ready (rs := [12]) (by kernel_rfl) (by simp) ?_
      refine AllReadyH.cons rfl (fun K hK => ?_) AllReadyH.nil
      go_simp
      refine hK.out _ _ ?_ (fun hHeld => ?_)
      · exact hHeld
      clear hK K
      try simp only [Act.put, List.setIfInBounds_toArray, List.set_cons_zero, List.set_cons_succ]
      refine wpAnyH_done (by kernel_rfl) ?_ _
      go_wp2_with fail
      refine ⟨⟨k + 1, by omega, by congr 1, ⟨A7, c7, by congr 1⟩, ?_, keep_below HOWN.out hgrow7 HB.out hzd (Nat.le_refl _)⟩, by show n - ((k : Int) + 1).toNat < n - (k : Int).toNat; omega⟩
      rw [HTK.out, nums, List.map_append]
      exact hown7
    · have hkn : n = k := by omega
      subst hkn
      rw [List.take_of_length_le (by rw [xor_len, HN.out]; exact Nat.le_refl _)] at hown
      have hcap := own_cap6 hown
      have HR := Lib.hid hown
      clear hown
      go_wp2_with fail
      go_ret2
      have hxl : (xorL xs ys).length = n := by rw [xor_len, HN.out]
      have hres : ∀ (A' : Option Addr) (c' : Nat), n ≤ c' → wr.ownsRow w.heap.size 5 1 (.slice A' n c') n (nums .u8 (xorL xs ys)) → IsOwn2 w (xorL xs ys) (.returned (.tuple #[.slice A' n c', .int .i64 0])) wr := fun A' c' hc h2 => ⟨A', c', by rw [hxl], by rw [hxl]; exact hc, by rw [hxl]; exact h2, hb⟩
      exact hres _ _ hcap.1 HR.out
theorem rxor_any (A B : Option Addr) (n c d : Nat) (xs ys : List Int) (w : World) (hn : xs.length = n) (hm : ys.length = n) (hb : n ≤ 100000) (hx : Rd w A (nums .u8 xs)) (hy : Rd w B (nums .u8 ys)) :
    Calls Tryd.prog 92 #[.slice A n c, .slice B n d] w (IsRow2 w (xorL xs ys)) :=
  (rxor_own A B n c d xs ys w hn hm hb hx hy).mono fun _ _ h => h.row2
end Go.Proofs.YtgclcpopibjocaaDoor
