/- slices.Grow of nothing, slices.Concat of two rows of bytes. -/
import Derived.Test.YtmkmndgdakpojaaDoorNb
import Derived.Lib.AppendZeros
import Derived.Handy
namespace Go.Proofs.YtmkmndgdakpojaaDoor
open Go.RowKit
set_option linter.unusedSimpArgs false
set_option linter.unusedVariables false
set_option maxRecDepth 100000

/-- A row of bytes of one's own is returned. -/
def IsOwn (w : World) (N : Nat) (l : List Int) (e : Ending) (w' : World) : Prop :=
  ∃ A c, e = .returned (.slice A N c) ∧ l.length = N ∧ w'.ownsRow w.heap.size 5 1 (.slice A N c) N (nums .u8 l) ∧ Below w.heap.size w w'

theorem size_zeros (n : Nat) : (Builtin.zeroCells #[Value.int .u8 0] n).size = n := by
  simp [Builtin.zeroCells]

set_option maxHeartbeats 1000000 in
theorem grow_nil (n : Nat) (w : World) (hn : n ≤ 100000) :
    Calls Tryd.prog 50 #[.slice none 0 0, .int .i64 n] w (fun e w' => ∃ v, e = .returned v ∧ w'.ownsRow w.heap.size 5 1 v 0 [] ∧ Below w.heap.size w w') := by
  by_cases h0 : n = 0
  · subst h0
    go_enter Tryd.func50, Tryd.ntmps50
    go_wp2
    go_ret
    exact ⟨_, rfl, ⟨rfl, .inl ⟨rfl, rfl⟩⟩, brf⟩
  · obtain ⟨i0, hi, hz0, hz1, hz2⟩ := info_parts infoByte
    have hrz : ∀ ty, (Builtin.append_ #[22, 3] ty #[.slice none 0 0, .int .i64 n]).run Tryd.prog w = .ok (.slice (some ⟨w.heap.size, 0, none⟩) n (grownCap w n 0 5)) (w.drew.alloc (.cells (Builtin.zeroCells (Value.int .u8 0).cells n ++ Builtin.zeroCells (Value.int .u8 0).cells (grownCap w n 0 5 - n)) 5)) := fun ty =>
      Lib.run_append_nil_zeros w 22 3 ty 5 i0 (.int .u8 0) .i64 .i64 Tryd.underlying22 Tryd.underlying3 hi hz0 n (by omega) (by omega) (by omega) (by rw [hz2]; omega)
    have hGn : n ≤ grownCap w n 0 5 := grownCap_ge w _ _ _
    have hGm := grownCap_le_maxLen w n 0 5 (by unfold maxLen; omega)
    obtain ⟨G, hG⟩ : ∃ G, G = grownCap w n 0 5 := ⟨_, rfl⟩
    rw [← hG] at hrz hGn hGm
    have hG63 : G ≤ 9223372036854775807 := by unfold maxLen at hGm; omega
    have h1 : (0 : Int) < n := by omega
    have h2 : ¬ (n : Int) < 0 := by omega
    clear hG
    go_enter Tryd.func50, Tryd.ntmps50
    go_wp2_with (at_builtin; refine Lib.wpList_append_run _ rfl _ _ _ _ rfl _ _ rfl rfl _ _ (hrz _) ?_)
    go_ret
    refine ⟨_, rfl, ⟨rfl, .inr ⟨w.heap.size, G, _, rfl, Nat.le_refl _, Array.getElem?_push_size, Nat.zero_le _, hGm, ?_, by simp⟩⟩, bal (bdr brf) _⟩
    show (Builtin.zeroCells #[Value.int .u8 0] n ++ Builtin.zeroCells #[Value.int .u8 0] (G - n)).size = G * 1
    rw [Array.size_append, size_zeros, size_zeros]
    omega

set_option maxHeartbeats 1000000 in
/-- Two rows of bytes, one behind the other. -/
theorem concat_any (P0 : Nat) (A B : Option Addr) (n c m d : Nat) (xs ys : List Int) (w : World) (hp0 : w.cell? ⟨P0, 0, none⟩ = some (.slice A n c)) (hp1 : w.cell? ⟨P0, 1, none⟩ = some (.slice B m d)) (hn : xs.length = n) (hm : ys.length = m) (hx : Rd w A (nums .u8 xs)) (hy : Rd w B (nums .u8 ys)) (hb : n + m ≤ 20000) :
    Calls Tryd.prog 43 #[.slice (some ⟨P0, 0, none⟩) 2 2] w (IsOwn w (n + m) (xs ++ ys)) := by
  have hP : P0 < w.heap.size := cell_lt hp0
  have HX := Lib.hid hx
  have HY := Lib.hid hy
  have HN := Lib.hid hn
  have HM := Lib.hid hm
  clear hx hy hn hm
  have x1 : wrap64 (n : Int) = n := IntWalk.wrap64_in _ (by omega)
  have x2 : wrap64 ((n : Int) + m) = (n : Int) + m := IntWalk.wrap64_in _ (by omega)
  have x3 : ¬ (n : Int) < 0 := by omega
  have x4 : ¬ (n : Int) + m < 0 := by omega
  have CG := fun (W : World) => grow_nil (n + m) W (by omega)
  rw [Int.natCast_add] at CG
  go_enter Tryd.func43, Tryd.ntmps43
  go_wp2_with fail
  refine wp_loop_rounds 3 ?_
  rw [rounds_succ]
  go_wp2_with fail
  rw [rounds_succ]
  go_wp2_with fail
  rw [rounds_succ]
  go_wp2_with (go_at_call 50; go_must (refine (CG _).mono ?_; rintro e w1 ⟨v1, rfl, hown1, hb1⟩; have hq0 := (hb1.cell (p := ⟨P0, 0, none⟩) hP).trans hp0; have hq1 := (hb1.cell (p := ⟨P0, 1, none⟩) hP).trans hp1; have HX1 := Lib.hid (HX.out.below hb1); have HY1 := Lib.hid (HY.out.below hb1)))
  refine wp_loop_rounds 3 ?_
  rw [rounds_succ]
  go_wp2_with (at_builtin; refine append_rd rfl _ _ rfl w.heap.size v1 0 [] rfl hown1 A n c xs rfl HN.out HX1.out (by omega) hb1.size ?_; intro v2 w2 hown2 hgrow2; rw [Nat.zero_add, List.nil_append] at hown2; have hb2 : Below w.heap.size w w2 := keep_below0 hown1 hgrow2 hb1 hb1.size (Nat.le_refl _); have hbx : Below w.heap.size w1 w2 := keep_below0 hown1 hgrow2 (Below.refl _ _) hb1.size (Nat.le_refl _); have hq3 := (hbx.cell (p := ⟨P0, 1, none⟩) hP).trans hq1; have HY2 := Lib.hid (HY.out.below hb2); clear hown1 hgrow2)
  rw [rounds_succ]
  go_wp2_with (at_builtin; refine append_rd rfl _ _ rfl w.heap.size v2 n (nums .u8 xs) rfl hown2 B m d ys rfl HM.out HY2.out (by omega) hb2.size ?_; intro v3 w3 hown3 hgrow3; have hb3 : Below w.heap.size w w3 := keep_below0 hown2 hgrow3 hb2 hb2.size (Nat.le_refl _); clear hown2 hgrow3)
  rw [rounds_succ]
  go_wp2_with fail
  go_ret
  obtain ⟨A3, cp3, rfl⟩ := own_slice hown3
  have hl : (xs ++ ys).length = n + m := by rw [List.length_append, HN.out, HM.out]
  rw [← List.map_append] at hown3
  exact ⟨A3, cp3, rfl, hl, hown3, hb3⟩
end Go.Proofs.YtmkmndgdakpojaaDoor
