/- The contract of stamp.Check: of any list. -/
import Derived.Test.YtgclcpopibjocaaDoorOwn
namespace Go.Proofs.YtgclcpopibjocaaDoor
open Go.RowKit
set_option linter.unusedSimpArgs false
set_option linter.unusedVariables false

/-- A chain that may be. -/
def goodSt (xs : List Int) : Prop := 1 ≤ xs.length ∧ xs.length ≤ 8 ∧ (∀ x ∈ xs, 1 ≤ x ∧ x ≤ 16) ∧ xs.Nodup

/-- The first k of them may be in a chain. -/
def goodTo (xs : List Int) (k : Nat) : Prop := (∀ x ∈ xs.take k, 1 ≤ x ∧ x ≤ 16) ∧ (xs.take k).Nodup

theorem take_snoc {xs : List Int} {k : Nat} (h : k < xs.length) : xs.take (k + 1) = xs.take k ++ [xs.getD k 0] := by
  rw [List.take_succ_eq_append_getElem h]
  simp [List.getD, List.getElem?_eq_getElem h]

theorem goodTo_succ {xs : List Int} {k : Nat} (hk : k < xs.length) (h : goodTo xs k) (h1 : 1 ≤ xs.getD k 0) (h2 : xs.getD k 0 ≤ 16) (h3 : xs.getD k 0 ∉ xs.take k) : goodTo xs (k + 1) := by
  unfold goodTo
  rw [take_snoc hk]
  refine ⟨fun x hx => ?_, ?_⟩
  · rcases List.mem_append.1 hx with hx | hx
    · exact h.1 x hx
    · rw [List.mem_singleton] at hx; subst hx; exact ⟨h1, h2⟩
  · rw [List.nodup_append]
    exact ⟨h.2, by simp, fun a ha b hb => by rw [List.mem_singleton] at hb; subst hb; intro e; rw [e] at ha; exact h3 ha⟩

theorem goodSt_of_to {xs : List Int} (h1 : 1 ≤ xs.length) (h2 : xs.length ≤ 8) (h : goodTo xs xs.length) : goodSt xs := by
  unfold goodTo at h
  rw [List.take_length] at h
  exact ⟨h1, h2, h.1, h.2⟩

theorem not_good_range {xs : List Int} {k : Nat} (hk : k < xs.length) (h : xs.getD k 0 < 1 ∨ 16 < xs.getD k 0) : ¬ goodSt xs := fun hg => by
  have hm : xs.getD k 0 ∈ xs := by simp [List.getD, List.getElem?_eq_getElem hk]
  have := hg.2.2.1 _ hm
  omega

theorem not_good_twice {xs : List Int} {k : Nat} (hk : k < xs.length) (h : xs.getD k 0 ∈ xs.take k) : ¬ goodSt xs := fun hg => by
  have hn : (xs.take (k + 1)).Nodup := hg.2.2.2.sublist (List.take_sublist _ _)
  rw [take_snoc hk, List.nodup_append] at hn
  exact hn.2.2 _ h _ (List.mem_singleton.2 rfl) rfl

def StEnds (xs : List Int) (w : World) (e : Ending) (w' : World) : Prop := ((goodSt xs ∧ e = .returned (.int .i64 0)) ∨ (¬ goodSt xs ∧ e = .returned (.int .i64 1))) ∧ Below w.heap.size w w'

set_option maxHeartbeats 2000000 in
theorem stCheck_any (ep ro : Int) (A : Option Addr) (n c : Nat) (xs : List Int) (w : World) (hn : xs.length = n) (hx : Rd w A (nums .i64 xs)) :
    Calls Tryd.prog 57 #[.agg #[.int .u64 ep, .int .u64 ro, .slice A n c]] w (StEnds xs w) := by
  have HN := Lib.hid hn
  clear hn
  by_cases hl : 1 ≤ n ∧ n ≤ 8
  · obtain ⟨hl1, hl2⟩ := hl
    go_enter Tryd.func57, Tryd.ntmps57
    go_wp2_with fail
    go_loopw [5, 19] (fun _ i wr => ∃ k : Nat, k ≤ n ∧ i = .int .i64 k ∧ goodTo xs k ∧ (∀ j : Nat, j ≤ 16 → wr.cell? ⟨w.heap.size + 1, j, none⟩ = some (.bool (decide ((j : Int) ∈ xs.take k)))) ∧ (∀ j : Nat, wr.frozen? ⟨w.heap.size + 1, j, none⟩ = false) ∧ Below w.heap.size w wr) (fun _ i _ => n - (intOf i).toNat)
    case atStart =>
      refine ⟨0, Nat.zero_le _, rfl, ⟨by simp, by simp⟩, fun j hj => ?_, fun j => by simp [go_sem], bal (bal brf _) _⟩
      rw [World.cell?_alloc_at _ _ _ _ (by simp)]
      show (List.replicate 17 (Value.bool false)).toArray[j]? = _
      have hj' : j < 17 := by omega
      rw [List.getElem?_toArray, List.getElem?_replicate, if_pos hj']
      simp
    case round =>
      obtain ⟨k, hk, rfl, hg, hc, hz, hB⟩ := hrel
      by_cases hkn : k < n
      · obtain ⟨b1, o1, rfl, l1, c1⟩ := (hx.below hB).at_ (by simp [HN.out]; omega)
        have g1 := c1 k _ (nums_at (by rw [HN.out]; exact hkn))
        have hlen : k < xs.length := by rw [HN.out]; exact hkn
        clear c1 hx
        by_cases r1 : xs.getD k 0 < 1 ∨ 16 < xs.getD k 0
        · have hend := not_good_range hlen r1
          have HE := Lib.hid hend
          obtain ⟨x, hxk⟩ : ∃ x, xs.getD k 0 = x := ⟨_, rfl⟩
          rw [hxk] at g1 r1
          clear hend hg hc hz hxk
          by_cases r2 : x < 1
          · clear r1
            go_wp2
            go_ret
            exact ⟨.inr ⟨HE.out, rfl⟩, hB⟩
          · have r3 : 16 < x := by omega
            clear r1
            go_wp2
            go_ret
            exact ⟨.inr ⟨HE.out, rfl⟩, hB⟩
        · obtain ⟨m, hm⟩ := Int.eq_ofNat_of_zero_le (show 0 ≤ xs.getD k 0 by omega)
          have hm1 : 1 ≤ m := by omega
          have hm2 : m ≤ 16 := by omega
          have gm := hc m hm2
          have zm := hz m
          have HG := Lib.hid hg
          have HC := Lib.hid hc
          have HZ := Lib.hid hz
          have hm1i : (1 : Int) ≤ (m : Int) := by omega
          have hm2i : (m : Int) ≤ 16 := by omega
          by_cases ht : xs.getD k 0 ∈ xs.take k
          · have HE := Lib.hid (not_good_twice hlen ht)
            rw [hm] at g1 ht
            rw [decide_eq_true ht] at gm
            clear hg hc hz r1 hm ht
            go_wp2
            go_ret
            exact ⟨.inr ⟨HE.out, rfl⟩, hB⟩
          · have HT := Lib.hid ht
            have HM := Lib.hid hm
            rw [hm] at g1 ht
            rw [decide_eq_false ht] at gm
            have hsz : w.heap.size + 1 < wr.heap.size := cell_lt gm
            clear hg hc hz r1 hm ht
            go_wp2
            refine ⟨⟨k + 1, by omega, by go_num, goodTo_succ hlen HG.out (by rw [HM.out]; omega) (by rw [HM.out]; omega) HT.out, fun j hj => ?_, fun j => by simpa using HZ.out j, hB.setCell (by show _ ≤ w.heap.size + 1; omega) _⟩, by simp [intOf]; omega⟩
            rw [take_snoc hlen, HM.out]
            by_cases hjm : j = m
            · subst hjm
              rw [cell_setCell_eq gm]
              simp
            · rw [cell_setCell_off (Ne.symm hjm), HC.out j hj]
              congr 2
              simp
              omega
      · obtain rfl : k = n := by omega
        have HE := Lib.hid (goodSt_of_to (by rw [HN.out]; omega) (by rw [HN.out]; omega) (by rw [HN.out]; exact hg))
        clear hg hc hz
        go_wp2
        go_ret
        exact ⟨.inl ⟨HE.out, rfl⟩, hB⟩
  · have HE : Hid (¬ goodSt xs) := Lib.hid (fun h => hl (by rw [← HN.out]; exact ⟨h.1, h.2.1⟩))
    by_cases h1 : n < 1
    · clear hl
      go_enter Tryd.func57, Tryd.ntmps57
      go_wp2_with fail
      go_ret
      exact ⟨.inr ⟨HE.out, rfl⟩, bal brf _⟩
    · have h2 : 8 < n := by omega
      clear hl
      go_enter Tryd.func57, Tryd.ntmps57
      go_wp2_with fail
      go_ret
      exact ⟨.inr ⟨HE.out, rfl⟩, bal brf _⟩
end Go.Proofs.YtgclcpopibjocaaDoor
