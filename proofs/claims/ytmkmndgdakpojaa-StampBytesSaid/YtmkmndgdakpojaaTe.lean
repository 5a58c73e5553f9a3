/- Stamps compared: contracts of both answers. -/
import Derived.Test.YtmkmndgdakpojaaSameSt
import Derived.Test.YtmkmndgdakpojaaOwn
namespace Go.Proofs.Ytmkmndgdakpojaa
open Go.RowKit
set_option linter.unusedSimpArgs false
set_option linter.unusedVariables false
set_option maxRecDepth 100000

/-- How two numbers stand to one another. -/
def cmpC (a b : Int) : Int := if a < b then -1 else if b < a then 1 else 0
/-- How two stamps do. -/
def cmpS (e1 r1 e2 r2 : Int) : Int := if e1 = e2 then cmpC r1 r2 else cmpC e1 e2

theorem nan_any (a : Int) (w : World) : Calls Try.prog 31 #[.int .u64 a] w fun e w' => e = .returned (.bool false) ∧ w = w' := by
  go_enter Try.func31, Try.ntmps31
  go_wp2
  go_ret
  exact ⟨by simp, rfl⟩
theorem cmp_any (a b : Int) (w : World) : Calls Try.prog 27 #[.int .u64 a, .int .u64 b] w fun e w' => e = .returned (.int .i64 (cmpC a b)) ∧ w = w' := by
  by_cases h1 : a < b
  · have e : cmpC a b = -1 := if_pos h1
    have E := Lib.hid e
    clear e
    go_enter Try.func27, Try.ntmps27
    go_wp2_with (go_at_call 31; refine (nan_any _ _).mono ?_; rintro e w1 ⟨rfl, rfl⟩)
    go_ret
    rw [E.out]
    exact ⟨rfl, rfl⟩
  by_cases h2 : b < a
  · have e : cmpC a b = 1 := by rw [cmpC, if_neg h1, if_pos h2]
    have E := Lib.hid e
    clear e
    go_enter Try.func27, Try.ntmps27
    go_wp2_with (go_at_call 31; refine (nan_any _ _).mono ?_; rintro e w1 ⟨rfl, rfl⟩)
    go_ret
    rw [E.out]
    exact ⟨rfl, rfl⟩
  · have e : cmpC a b = 0 := by rw [cmpC, if_neg h1, if_neg h2]
    have E := Lib.hid e
    clear e
    go_enter Try.func27, Try.ntmps27
    go_wp2_with (go_at_call 31; refine (nan_any _ _).mono ?_; rintro e w1 ⟨rfl, rfl⟩)
    go_ret
    rw [E.out]
    exact ⟨rfl, rfl⟩

theorem stCmp_any (e1 r1 e2 r2 : Int) (v1 v2 : Value) (w : World) :
    Calls Try.prog 15 #[.agg #[.int .u64 e1, .int .u64 r1, v1], .agg #[.int .u64 e2, .int .u64 r2, v2]] w fun e w' => e = .returned (.int .i64 (cmpS e1 r1 e2 r2)) ∧ Below w.heap.size w w' := by
  by_cases h : e1 = e2
  · subst h
    have e : cmpS e1 r1 e1 r2 = cmpC r1 r2 := if_pos rfl
    have e0 : cmpC e1 e1 = 0 := by simp [cmpC]
    have E := Lib.hid e
    have E0 := Lib.hid e0
    clear e e0
    go_enter Try.func15, Try.ntmps15
    go_wp2_with (go_at_call 27; first
      | ((with_reducible refine (cmp_any e1 e1 _).mono ?_); rintro e w1 ⟨he, rfl⟩; rw [E0.out] at he; subst he)
      | ((with_reducible refine (cmp_any r1 r2 _).mono ?_); rintro e w2 ⟨rfl, rfl⟩))
    go_ret
    rw [E.out]
    exact ⟨rfl, bal (bal brf _) _⟩
  · have e : cmpS e1 r1 e2 r2 = cmpC e1 e2 := if_neg h
    have e0 : ¬ cmpC e1 e2 = 0 := by unfold cmpC; split <;> (try split) <;> omega
    obtain ⟨z, hz⟩ : ∃ z, z = cmpC e1 e2 := ⟨_, rfl⟩
    rw [← hz] at e e0
    have e1b : (z != 0) = true := by simpa using e0
    have E := Lib.hid e
    have HZ := Lib.hid hz
    clear e hz h
    go_enter Try.func15, Try.ntmps15
    go_wp2_with (go_at_call 27; refine (cmp_any e1 e2 _).mono ?_; rintro e w1 ⟨he, rfl⟩; rw [← HZ.out] at he; subst he)
    go_ret
    rw [E.out]
    exact ⟨rfl, bal (bal brf _) _⟩

theorem rstCmp_any (e1 r1 e2 r2 : Int) (v1 v2 : Value) (w : World) :
    Calls Try.prog 19 #[.agg #[.int .u64 e1, .int .u64 r1, v1], .agg #[.int .u64 e2, .int .u64 r2, v2]] w fun e w' => e = .returned (.int .i64 (cmpS e1 r1 e2 r2)) ∧ Below w.heap.size w w' := by
  by_cases h1 : e1 < e2
  · have e : cmpS e1 r1 e2 r2 = -1 := by rw [cmpS, if_neg (by omega), cmpC, if_pos h1]
    have E := Lib.hid e
    clear e
    go_enter Try.func19, Try.ntmps19
    go_wp2
    go_ret
    rw [E.out]
    exact ⟨rfl, bal (bal brf _) _⟩
  by_cases h2 : e2 < e1
  · have e : cmpS e1 r1 e2 r2 = 1 := by rw [cmpS, if_neg (by omega), cmpC, if_neg h1, if_pos h2]
    have E := Lib.hid e
    have b1 : (e1 == e2) = false := by simp; omega
    clear e
    go_enter Try.func19, Try.ntmps19
    go_wp2
    go_ret
    rw [E.out]
    exact ⟨rfl, bal (bal brf _) _⟩
  have h3 : e1 = e2 := by omega
  subst h3
  have b2 : ¬ e1 < e1 := by omega
  by_cases h4 : r1 < r2
  · have e : cmpS e1 r1 e1 r2 = -1 := by rw [cmpS, if_pos rfl, cmpC, if_pos h4]
    have E := Lib.hid e
    have b3 : (e1 == e1) = true := by simp
    clear e
    go_enter Try.func19, Try.ntmps19
    go_wp2
    go_ret
    rw [E.out]
    exact ⟨rfl, bal (bal brf _) _⟩
  by_cases h5 : r2 < r1
  · have e : cmpS e1 r1 e1 r2 = 1 := by rw [cmpS, if_pos rfl, cmpC, if_neg h4, if_pos h5]
    have E := Lib.hid e
    have b3 : (e1 == e1) = true := by simp
    have b4 : (r1 == r2) = false := by simp; omega
    clear e
    go_enter Try.func19, Try.ntmps19
    go_wp2
    go_ret
    rw [E.out]
    exact ⟨rfl, bal (bal brf _) _⟩
  have h6 : r1 = r2 := by omega
  subst h6
  have b5 : ¬ r1 < r1 := by omega
  by_cases h7 : True
  · have e : cmpS e1 r1 e1 r1 = 0 := by rw [cmpS, if_pos rfl, cmpC, if_neg b5, if_neg b5]
    have E := Lib.hid e
    clear e
    go_enter Try.func19, Try.ntmps19
    go_wp2
    go_ret
    rw [E.out]
    exact ⟨rfl, bal (bal brf _) _⟩
  exact absurd trivial h7

set_option maxHeartbeats 1000000 in
theorem equalInts_any (A B : Option Addr) (n c m d : Nat) (xs ys : List Int) (w : World) (hn : xs.length = n) (hm : ys.length = m) (hx : Rd w A (nums .i64 xs)) (hy : Rd w B (nums .i64 ys)) (hlen : n ≤ maxLen) :
    Calls Try.prog 29 #[.slice A n c, .slice B m d] w (IsSame w xs ys) := by
  unfold maxLen at hlen
  by_cases hnm : n = m
  · subst hnm
    have HM := Lib.hid hm
    have HN := Lib.hid hn
    clear hm hn
    go_enter Try.func29, Try.ntmps29
    go_wp2
    go_loopw [5, 13] (fun v i wr => ∃ k : Nat, k ≤ n ∧ i = .int .i64 k ∧ (∀ j, j < k → xs.getD j 0 = ys.getD j 0) ∧ Below w.heap.size w wr) (fun _ i _ => n - (intOf i).toNat)
    case atStart => exact ⟨0, Nat.zero_le _, rfl, fun j hj => absurd hj (Nat.not_lt_zero _), Below.refl _ _⟩
    case round =>
      obtain ⟨k, hk, rfl, heq, hB⟩ := hrel
      by_cases hlt : k < n
      · obtain ⟨b1, o1, rfl, l1, c1⟩ := (hx.below hB).at_ (by simp [HN.out]; omega)
        obtain ⟨b2, o2, rfl, l2, c2⟩ := (hy.below hB).at_ (by simp [HM.out]; omega)
        have g1 := c1 k _ (nums_at (by rw [HN.out]; exact hlt))
        have g2 := c2 k _ (nums_at (by rw [HM.out]; exact hlt))
        have HE := Lib.hid heq
        clear c1 c2 heq hx hy
        have hk0 : (0 : Int) ≤ (k : Int) := by omega
        have hk1 : (k : Int) < (n : Int) := by omega
        by_cases hd : xs.getD k 0 = ys.getD k 0
        · have hdb : ((xs[k]?.getD 0) != (ys[k]?.getD 0)) = false := by simpa [List.getD] using hd
          have HD := Lib.hid hd
          clear hd
          go_wp2
          go_quiet (fail)
          go_wp2
          have hd := HD.out
          exact ⟨⟨k + 1, by omega, by go_num, fun j hj => by
            by_cases hjk : j = k
            · subst hjk; exact hd
            · exact HE.out j (by omega), bdrN hB _⟩, by simp [intOf]; omega⟩
        · have hdb : ((xs[k]?.getD 0) != (ys[k]?.getD 0)) = true := by simpa [List.getD] using hd
          have HD := Lib.hid hd
          clear hd
          go_wp2
          go_quiet (fail)
          go_wp2
          go_ret
          exact ⟨by simp [show ¬ xs = ys from fun e => HD.out (by rw [e])], bdrN hB _⟩
      · have he : xs = ys := take_eq_of (by rw [HN.out, HM.out]) fun j hj => heq j (by rw [HN.out] at hj; omega)
        have HX := Lib.hid he
        clear he heq
        go_wp2
        go_ret
        exact ⟨by simp [HX.out], hB⟩
  · go_enter Try.func29, Try.ntmps29
    go_wp2
    go_ret
    exact ⟨by simp [show ¬ xs = ys from fun e => hnm (by rw [← hn, ← hm, e])], Below.refl _ _⟩


set_option maxHeartbeats 1000000 in
theorem stSame_any (e1 r1 e2 r2 : Int) (A B : Option Addr) (n c m d : Nat) (xs ys : List Int) (w : World) (hn : xs.length = n) (hm : ys.length = m) (hx : Rd w A (nums .i64 xs)) (hy : Rd w B (nums .i64 ys)) (hlen : n ≤ maxLen) :
    Calls Try.prog 20 #[.agg #[.int .u64 e1, .int .u64 r1, .slice A n c], .agg #[.int .u64 e2, .int .u64 r2, .slice B m d]] w (Tells w (decide (e1 = e2 ∧ r1 = r2 ∧ xs = ys))) := by
  have HN := Lib.hid hn
  have HM := Lib.hid hm
  have HL := Lib.hid hlen
  clear hn hm hlen
  by_cases c1 : e1 = e2
  · subst c1
    by_cases c2 : r1 = r2
    · subst c2
      go_enter Try.func20, Try.ntmps20
      go_wp2_with fail
      refine (equalInts_any _ _ _ _ _ _ _ _ _ HN.out HM.out (hx.below (bal (bal brf _) _)) (hy.below (bal (bal brf _) _)) HL.out).mono ?_; rintro e w1 ⟨rfl, hb⟩
      go_wp2_with fail
      go_ret
      exact ⟨by simp, bgo (bal (bal brf _) _) hb⟩
    · have c2b : (r1 == r2) = false := by simpa using c2
      go_enter Try.func20, Try.ntmps20
      go_wp2_with fail
      go_ret
      exact ⟨by simp [c2], bal (bal brf _) _⟩
  · have c1b : (e1 == e2) = false := by simpa using c1
    go_enter Try.func20, Try.ntmps20
    go_wp2_with fail
    go_ret
    exact ⟨by simp [c1], bal (bal brf _) _⟩
end Go.Proofs.Ytmkmndgdakpojaa
