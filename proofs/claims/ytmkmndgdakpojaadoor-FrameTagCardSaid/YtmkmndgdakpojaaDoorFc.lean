/- Frames checked: contracts of both answers. -/
import Derived.Test.YtmkmndgdakpojaaDoorFb
import Derived.Test.YtmkmndgdakpojaaDoorTb
namespace Go.Proofs.YtmkmndgdakpojaaDoor
open Go.RowKit
set_option linter.unusedSimpArgs false
set_option linter.unusedVariables false
set_option maxRecDepth 100000

/-- A frame's box. -/
def FrBox (q : Nat) (F T ep ro : Int) (s : Value) (K Q : Int) (d : Value) (x : World) : Prop :=
  q < x.heap.size ∧ x.cell? ⟨q, 0, none⟩ = some (.int .i64 F) ∧ x.cell? ⟨q, 1, none⟩ = some (.int .i64 T) ∧ x.cell? ⟨q, 2, none⟩ = some (.int .u64 ep) ∧ x.cell? ⟨q, 3, none⟩ = some (.int .u64 ro) ∧ x.cell? ⟨q, 4, none⟩ = some s ∧ x.cell? ⟨q, 5, none⟩ = some (.int .i64 K) ∧ x.cell? ⟨q, 6, none⟩ = some (.int .i64 Q) ∧ x.cell? ⟨q, 7, none⟩ = some d
theorem FrBox.below {q : Nat} {F T ep ro : Int} {s : Value} {K Q : Int} {d : Value} {x y : World} (h : FrBox q F T ep ro s K Q d x) (hb : Below x.heap.size x y) : FrBox q F T ep ro s K Q d y := by
  obtain ⟨h0, a0, a1, a2, a3, a4, a5, a6, a7⟩ := h
  have k : ∀ i, y.cell? ⟨q, i, none⟩ = x.cell? ⟨q, i, none⟩ := fun i => hb.cell (p := ⟨q, i, none⟩) h0
  exact ⟨Nat.lt_of_lt_of_le h0 hb.size, (k 0).trans a0, (k 1).trans a1, (k 2).trans a2, (k 3).trans a3, (k 4).trans a4, (k 5).trans a5, (k 6).trans a6, (k 7).trans a7⟩
theorem frBox_new (w : World) (F T ep ro : Int) (s : Value) (K Q : Int) (d : Value) (t : TypeId) : FrBox w.heap.size F T ep ro s K Q d (w.alloc (.cells #[.int .i64 F, .int .i64 T, .int .u64 ep, .int .u64 ro, s, .int .i64 K, .int .i64 Q, d] t)) :=
  ⟨by simp, by rw [World.cell?_alloc_at _ _ _ _ rfl]; rfl, by rw [World.cell?_alloc_at _ _ _ _ rfl]; rfl, by rw [World.cell?_alloc_at _ _ _ _ rfl]; rfl, by rw [World.cell?_alloc_at _ _ _ _ rfl]; rfl, by rw [World.cell?_alloc_at _ _ _ _ rfl]; rfl, by rw [World.cell?_alloc_at _ _ _ _ rfl]; rfl, by rw [World.cell?_alloc_at _ _ _ _ rfl]; rfl, by rw [World.cell?_alloc_at _ _ _ _ rfl]; rfl⟩

set_option maxHeartbeats 2000000 in
theorem fCheck_ok (F T : Int) (ep ro : Int) (A : Option Addr) (n c : Nat) (xs : List Int) (K Q : Int) (D : Option Addr) (l dc : Nat) (w : World) (hn : xs.length = n) (hnc : n ≤ c) (hx : Rd w A (nums .i64 xs)) (hl : l ≤ 60000) (hg : goodF F T K Q xs l) :
    Calls Tryd.prog 18 #[.agg #[.int .i64 F, .int .i64 T, .int .u64 ep, .int .u64 ro, .slice A n c, .int .i64 K, .int .i64 Q, .slice D l dc]] w fun e w' => e = .returned (.int .i64 0) ∧ Below w.heap.size w w' := by
  obtain ⟨f1, f2, t1, t2, ft, hgs, q1, q2, hk⟩ := hg
  have CK := fun W h0 => stCheck_ok (ep := ep) (ro := ro) (A := A) (n := n) (c := c) W hn h0 hgs
  have HX := Lib.hid (hx.below (bal brf (.cells #[.int .i64 F, .int .i64 T, .int .u64 ep, .int .u64 ro, .slice A n c, .int .i64 K, .int .i64 Q, .slice D l dc] 30)))
  have HBOX := Lib.hid (frBox_new w F T ep ro (.slice A n c) K Q (.slice D l dc) 30)
  have HBX := bal (brf (w := w)) (.cells #[.int .i64 F, .int .i64 T, .int .u64 ep, .int .u64 ro, .slice A n c, .int .i64 K, .int .i64 Q, .slice D l dc] 30)
  have ftb : (F == T) = false := by simpa using ft
  clear hx hn hgs ft
  rcases hk with rfl | ⟨rfl, rfl⟩
  all_goals
    go_enter Tryd.func18, Tryd.ntmps18
    go_wp2_with (first
      | (go_at_call 36; refine (CK _ HX.out).mono ?_; rintro e w1 ⟨rfl, hb1⟩; have HBOX := Lib.hid (HBOX.out.below hb1); obtain ⟨s0, b0, b1, b2, b3, b4, b5, b6, b7⟩ := HBOX.out; have HBX := bgo HBX hb1)
      | fail)
    go_ret
    exact ⟨rfl, HBX⟩

set_option maxHeartbeats 4000000 in
theorem fCheck_bad (F T : Int) (ep ro : Int) (A : Option Addr) (n c : Nat) (xs : List Int) (K Q : Int) (D : Option Addr) (l dc : Nat) (w : World) (hn : xs.length = n) (hnc : n ≤ c) (hx : Rd w A (nums .i64 xs)) (hl : l ≤ 60000) (hg : ¬ goodF F T K Q xs l) :
    Calls Tryd.prog 18 #[.agg #[.int .i64 F, .int .i64 T, .int .u64 ep, .int .u64 ro, .slice A n c, .int .i64 K, .int .i64 Q, .slice D l dc]] w fun e w' => e = .returned (.int .i64 1) ∧ Below w.heap.size w w' := by
  have HX := Lib.hid (hx.below (bal brf (.cells #[.int .i64 F, .int .i64 T, .int .u64 ep, .int .u64 ro, .slice A n c, .int .i64 K, .int .i64 Q, .slice D l dc] 30)))
  have HBOX := Lib.hid (frBox_new w F T ep ro (.slice A n c) K Q (.slice D l dc) 30)
  have HBX := bal (brf (w := w)) (.cells #[.int .i64 F, .int .i64 T, .int .u64 ep, .int .u64 ro, .slice A n c, .int .i64 K, .int .i64 Q, .slice D l dc] 30)
  have HG := Lib.hid hg
  have HXS := Lib.hid hn
  clear hx hg
  by_cases f1 : F < 0
  · clear HXS hn
    go_enter Tryd.func18, Tryd.ntmps18
    go_wp2_with fail
    go_ret
    exact ⟨rfl, HBX⟩
  by_cases f2 : 24 < F
  · clear HXS hn
    go_enter Tryd.func18, Tryd.ntmps18
    go_wp2_with fail
    go_ret
    exact ⟨rfl, HBX⟩
  by_cases t1 : T < 0
  · clear HXS hn
    go_enter Tryd.func18, Tryd.ntmps18
    go_wp2_with fail
    go_ret
    exact ⟨rfl, HBX⟩
  by_cases t2 : 24 < T
  · clear HXS hn
    go_enter Tryd.func18, Tryd.ntmps18
    go_wp2_with fail
    go_ret
    exact ⟨rfl, HBX⟩
  by_cases ft : F = T
  · subst ft
    clear HXS hn
    go_enter Tryd.func18, Tryd.ntmps18
    go_wp2_with fail
    go_ret
    exact ⟨rfl, HBX⟩
  have ftb : (F == T) = false := by simpa using ft
  by_cases hgs : goodSt xs
  rotate_left
  · have CK := fun W h0 => stCheck_bad (ep := ep) (ro := ro) (A := A) (n := n) (c := c) W hn h0 hgs
    clear HXS hn hgs
    go_enter Tryd.func18, Tryd.ntmps18
    go_wp2_with (first
      | (go_at_call 36; refine (CK _ HX.out).mono ?_; rintro e w1 ⟨rfl, hb1⟩; have HBOX := Lib.hid (HBOX.out.below hb1); obtain ⟨s0, b0, b1, b2, b3, b4, b5, b6, b7⟩ := HBOX.out; have HBX := bgo HBX hb1)
      | fail)
    go_ret
    exact ⟨rfl, HBX⟩
  have CK := fun W h0 => stCheck_ok (ep := ep) (ro := ro) (A := A) (n := n) (c := c) W hn h0 hgs
  by_cases q1 : Q < 0
  · clear HXS hn hgs
    go_enter Tryd.func18, Tryd.ntmps18
    go_wp2_with (first
      | (go_at_call 36; refine (CK _ HX.out).mono ?_; rintro e w1 ⟨rfl, hb1⟩; have HBOX := Lib.hid (HBOX.out.below hb1); obtain ⟨s0, b0, b1, b2, b3, b4, b5, b6, b7⟩ := HBOX.out; have HBX := bgo HBX hb1)
      | fail)
    go_ret
    exact ⟨rfl, HBX⟩
  by_cases q2 : 2147483647 < Q
  · clear HXS hn hgs
    go_enter Tryd.func18, Tryd.ntmps18
    go_wp2_with (first
      | (go_at_call 36; refine (CK _ HX.out).mono ?_; rintro e w1 ⟨rfl, hb1⟩; have HBOX := Lib.hid (HBOX.out.below hb1); obtain ⟨s0, b0, b1, b2, b3, b4, b5, b6, b7⟩ := HBOX.out; have HBX := bgo HBX hb1)
      | fail)
    go_ret
    exact ⟨rfl, HBX⟩
  by_cases k1 : K = 1
  · exact absurd ⟨by omega, by omega, by omega, by omega, ft, hgs, by omega, by omega, .inl k1⟩ HG.out
  have k1b : (K == 1) = false := by simpa using k1
  have k1c : (K != 1) = true := by simpa using k1
  by_cases k2 : K = 2
  · have hl0 : ¬ l = 0 := fun h0 => HG.out ⟨by omega, by omega, by omega, by omega, ft, hgs, by omega, by omega, .inr ⟨k2, h0⟩⟩
    have hl1 : (0 : Int) < l := by omega
    subst k2
    clear HXS hn hgs k1 k1b k1c hl0
    go_enter Tryd.func18, Tryd.ntmps18
    go_wp2_with (first
      | (go_at_call 36; refine (CK _ HX.out).mono ?_; rintro e w1 ⟨rfl, hb1⟩; have HBOX := Lib.hid (HBOX.out.below hb1); obtain ⟨s0, b0, b1, b2, b3, b4, b5, b6, b7⟩ := HBOX.out; have HBX := bgo HBX hb1)
      | fail)
    go_ret
    exact ⟨rfl, HBX⟩
  · have k2b : (K == 2) = false := by simpa using k2
    have k2c : (K != 2) = true := by simpa using k2
    clear HXS hn hgs
    go_enter Tryd.func18, Tryd.ntmps18
    go_wp2_with (first
      | (go_at_call 36; refine (CK _ HX.out).mono ?_; rintro e w1 ⟨rfl, hb1⟩; have HBOX := Lib.hid (HBOX.out.below hb1); obtain ⟨s0, b0, b1, b2, b3, b4, b5, b6, b7⟩ := HBOX.out; have HBX := bgo HBX hb1)
      | fail)
    go_ret
    exact ⟨rfl, HBX⟩

set_option maxHeartbeats 2000000 in
theorem rfCheck_ok (F T : Int) (ep ro : Int) (A : Option Addr) (n c : Nat) (xs : List Int) (K Q : Int) (D : Option Addr) (l dc : Nat) (w : World) (hn : xs.length = n) (hnc : n ≤ c) (hx : Rd w A (nums .i64 xs)) (hl : l ≤ 60000) (hg : goodF F T K Q xs l) :
    Calls Tryd.prog 19 #[.agg #[.int .i64 F, .int .i64 T, .int .u64 ep, .int .u64 ro, .slice A n c, .int .i64 K, .int .i64 Q, .slice D l dc]] w fun e w' => e = .returned (.int .i64 0) ∧ Below w.heap.size w w' := by
  obtain ⟨f1, f2, t1, t2, ft, hgs, q1, q2, hk⟩ := hg
  have CK := fun W h0 => rstCheck_ok (ep := ep) (ro := ro) (A := A) (n := n) (c := c) W hn hnc h0 hgs
  have HX := Lib.hid (hx.below (bal brf (.cells #[.int .i64 F, .int .i64 T, .int .u64 ep, .int .u64 ro, .slice A n c, .int .i64 K, .int .i64 Q, .slice D l dc] 30)))
  have HBOX := Lib.hid (frBox_new w F T ep ro (.slice A n c) K Q (.slice D l dc) 30)
  have HBX := bal (brf (w := w)) (.cells #[.int .i64 F, .int .i64 T, .int .u64 ep, .int .u64 ro, .slice A n c, .int .i64 K, .int .i64 Q, .slice D l dc] 30)
  have ftb : (F == T) = false := by simpa using ft
  clear hx hn hgs ft
  rcases hk with rfl | ⟨rfl, rfl⟩
  all_goals
    go_enter Tryd.func19, Tryd.ntmps19
    go_wp2_with (first
      | (go_at_call 37; refine (CK _ HX.out).mono ?_; rintro e w1 ⟨rfl, hb1⟩; have HBOX := Lib.hid (HBOX.out.below hb1); obtain ⟨s0, b0, b1, b2, b3, b4, b5, b6, b7⟩ := HBOX.out; have HBX := bgo HBX hb1)
      | fail)
    go_ret
    exact ⟨rfl, HBX⟩

set_option maxHeartbeats 4000000 in
theorem rfCheck_bad (F T : Int) (ep ro : Int) (A : Option Addr) (n c : Nat) (xs : List Int) (K Q : Int) (D : Option Addr) (l dc : Nat) (w : World) (hn : xs.length = n) (hnc : n ≤ c) (hx : Rd w A (nums .i64 xs)) (hl : l ≤ 60000) (hg : ¬ goodF F T K Q xs l) :
    Calls Tryd.prog 19 #[.agg #[.int .i64 F, .int .i64 T, .int .u64 ep, .int .u64 ro, .slice A n c, .int .i64 K, .int .i64 Q, .slice D l dc]] w fun e w' => e = .returned (.int .i64 1) ∧ Below w.heap.size w w' := by
  have HX := Lib.hid (hx.below (bal brf (.cells #[.int .i64 F, .int .i64 T, .int .u64 ep, .int .u64 ro, .slice A n c, .int .i64 K, .int .i64 Q, .slice D l dc] 30)))
  have HBOX := Lib.hid (frBox_new w F T ep ro (.slice A n c) K Q (.slice D l dc) 30)
  have HBX := bal (brf (w := w)) (.cells #[.int .i64 F, .int .i64 T, .int .u64 ep, .int .u64 ro, .slice A n c, .int .i64 K, .int .i64 Q, .slice D l dc] 30)
  have HG := Lib.hid hg
  have HXS := Lib.hid hn
  clear hx hg
  by_cases f1 : F < 0
  · clear HXS hn
    go_enter Tryd.func19, Tryd.ntmps19
    go_wp2_with fail
    go_ret
    exact ⟨rfl, HBX⟩
  by_cases f2 : 24 < F
  · clear HXS hn
    go_enter Tryd.func19, Tryd.ntmps19
    go_wp2_with fail
    go_ret
    exact ⟨rfl, HBX⟩
  by_cases t1 : T < 0
  · clear HXS hn
    go_enter Tryd.func19, Tryd.ntmps19
    go_wp2_with fail
    go_ret
    exact ⟨rfl, HBX⟩
  by_cases t2 : 24 < T
  · clear HXS hn
    go_enter Tryd.func19, Tryd.ntmps19
    go_wp2_with fail
    go_ret
    exact ⟨rfl, HBX⟩
  by_cases ft : F = T
  · subst ft
    clear HXS hn
    go_enter Tryd.func19, Tryd.ntmps19
    go_wp2_with fail
    go_ret
    exact ⟨rfl, HBX⟩
  have ftb : (F == T) = false := by simpa using ft
  by_cases hgs : goodSt xs
  rotate_left
  · have CK := fun W h0 => rstCheck_bad (ep := ep) (ro := ro) (A := A) (n := n) (c := c) W hn hnc h0 hgs
    clear HXS hn hgs
    go_enter Tryd.func19, Tryd.ntmps19
    go_wp2_with (first
      | (go_at_call 37; refine (CK _ HX.out).mono ?_; rintro e w1 ⟨rfl, hb1⟩; have HBOX := Lib.hid (HBOX.out.below hb1); obtain ⟨s0, b0, b1, b2, b3, b4, b5, b6, b7⟩ := HBOX.out; have HBX := bgo HBX hb1)
      | fail)
    go_ret
    exact ⟨rfl, HBX⟩
  have CK := fun W h0 => rstCheck_ok (ep := ep) (ro := ro) (A := A) (n := n) (c := c) W hn hnc h0 hgs
  by_cases q1 : Q < 0
  · clear HXS hn hgs
    go_enter Tryd.func19, Tryd.ntmps19
    go_wp2_with (first
      | (go_at_call 37; refine (CK _ HX.out).mono ?_; rintro e w1 ⟨rfl, hb1⟩; have HBOX := Lib.hid (HBOX.out.below hb1); obtain ⟨s0, b0, b1, b2, b3, b4, b5, b6, b7⟩ := HBOX.out; have HBX := bgo HBX hb1)
      | fail)
    go_ret
    exact ⟨rfl, HBX⟩
  by_cases q2 : 2147483647 < Q
  · clear HXS hn hgs
    go_enter Tryd.func19, Tryd.ntmps19
    go_wp2_with (first
      | (go_at_call 37; refine (CK _ HX.out).mono ?_; rintro e w1 ⟨rfl, hb1⟩; have HBOX := Lib.hid (HBOX.out.below hb1); obtain ⟨s0, b0, b1, b2, b3, b4, b5, b6, b7⟩ := HBOX.out; have HBX := bgo HBX hb1)
      | fail)
    go_ret
    exact ⟨rfl, HBX⟩
  by_cases k1 : K = 1
  · exact absurd ⟨by omega, by omega, by omega, by omega, ft, hgs, by omega, by omega, .inl k1⟩ HG.out
  have k1b : (K == 1) = false := by simpa using k1
  have k1c : (K != 1) = true := by simpa using k1
  by_cases k2 : K = 2
  · have hl0 : ¬ l = 0 := fun h0 => HG.out ⟨by omega, by omega, by omega, by omega, ft, hgs, by omega, by omega, .inr ⟨k2, h0⟩⟩
    have hl1 : (0 : Int) < l := by omega
    subst k2
    clear HXS hn hgs k1 k1b k1c hl0
    go_enter Tryd.func19, Tryd.ntmps19
    go_wp2_with (first
      | (go_at_call 37; refine (CK _ HX.out).mono ?_; rintro e w1 ⟨rfl, hb1⟩; have HBOX := Lib.hid (HBOX.out.below hb1); obtain ⟨s0, b0, b1, b2, b3, b4, b5, b6, b7⟩ := HBOX.out; have HBX := bgo HBX hb1)
      | fail)
    go_ret
    exact ⟨rfl, HBX⟩
  · have k2b : (K == 2) = false := by simpa using k2
    have k2c : (K != 2) = true := by simpa using k2
    clear HXS hn hgs
    go_enter Tryd.func19, Tryd.ntmps19
    go_wp2_with (first
      | (go_at_call 37; refine (CK _ HX.out).mono ?_; rintro e w1 ⟨rfl, hb1⟩; have HBOX := Lib.hid (HBOX.out.below hb1); obtain ⟨s0, b0, b1, b2, b3, b4, b5, b6, b7⟩ := HBOX.out; have HBX := bgo HBX hb1)
      | fail)
    go_ret
    exact ⟨rfl, HBX⟩
end Go.Proofs.YtmkmndgdakpojaaDoor
