/- Stamps compared: contracts of both answers. -/
import Derived.Test.YtmkmndgdakpojaaDoorSameSt
import Derived.Test.YtmkmndgdakpojaaDoorOwn
namespace Go.Proofs.YtmkmndgdakpojaaDoor
open Go.RowKit
set_option linter.unusedSimpArgs false
set_option linter.unusedVariables false
set_option maxRecDepth 100000

/-- How two numbers stand to one another. -/
def cmpC (a b : Int) : Int := if a < b then -1 else if b < a then 1 else 0
/-- How two stamps do. -/
def cmpS (e1 r1 e2 r2 : Int) : Int := if e1 = e2 then cmpC r1 r2 else cmpC e1 e2

set_option maxHeartbeats 1000000 in
theorem equalInts_any (A B : Option Addr) (n c m d : Nat) (xs ys : List Int) (w : World) (hn : xs.length = n) (hm : ys.length = m) (hx : Rd w A (nums .i64 xs)) (hy : Rd w B (nums .i64 ys)) (hlen : n ≤ maxLen) :
    Calls Tryd.prog 49 #[.slice A n c, .slice B m d] w (IsSame w xs ys) := by
  unfold maxLen at hlen
  by_cases hnm : n = m
  · subst hnm
    have HM := Lib.hid hm
    have HN := Lib.hid hn
    clear hm hn
    go_enter Tryd.func49, Tryd.ntmps49
    go_wp2
    go_loopw [5, 13] (fun v i wr => ∃ k : Nat, k ≤ n ∧ i = .int .i64 k ∧ (∀ j, j < k → xs.getD j 0 = ys.getD j 0) ∧ Below w.heap.size w wr) (fun _ i _ => n - (intOf i).toNat)
    case atStart => exact ⟨0, Nat.zero_le _, rfl, fun j hj => absurd hj (Nat.not_lt_zero _), Below.refl _ _⟩
    case round =>
      obtain ⟨k, hk, rfl, heq, hB⟩ := hrel
      by_cases hlt : k < n
      · obtain ⟨b1, o1, rfl, l1, c1⟩ := (hx.below hB).at_ (by simp [HN.out]; omega)
        obtain ⟨b2, o2, rfl, l2, c2⟩ := (hy.below hB).at_ (by simp [HM.out]; omega)
        have g1 := c1 k _ (nums_at (by rw [HN.out]; exact hlt))
        have g2 := c2 k _ (nums_at (by rw [HM.out]; exact hlt))
        have HE := Lib.hid heq
        clear c1 c2 heq hx hy
        have hk0 : (0 : Int) ≤ (k : Int) := by omega
        have hk1 : (k : Int) < (n : Int) := by omega
        by_cases hd : xs.getD k 0 = ys.getD k 0
        · have hdb : ((xs[k]?.getD 0) != (ys[k]?.getD 0)) = false := by simpa [List.getD] using hd
          have HD := Lib.hid hd
          clear hd
          go_wp2
          go_quiet (fail)
          go_wp2
          have hd := HD.out
          exact ⟨⟨k + 1, by omega, by go_num, fun j hj => by
            by_cases hjk : j = k
            · subst hjk; exact hd
            · exact HE.out j (by omega), bdrN hB _⟩, by simp [intOf]; omega⟩
        · have hdb : ((xs[k]?.getD 0) != (ys[k]?.getD 0)) = true := by simpa [List.getD] using hd
          have HD := Lib.hid hd
          clear hd
          go_wp2
          go_quiet (fail)
          go_wp2
          go_ret
          exact ⟨by simp [show ¬ xs = ys from fun e => HD.out (by rw [e])], bdrN hB _⟩
      · have he : xs = ys := take_eq_of (by rw [HN.out, HM.out]) fun j hj => heq j (by rw [HN.out] at hj; omega)
        have HX := Lib.hid he
        clear he heq
        go_wp2
        go_ret
        exact ⟨by simp [HX.out], hB⟩
  · go_enter Tryd.func49, Tryd.ntmps49
    go_wp2
    go_ret
    exact ⟨by simp [show ¬ xs = ys from fun e => hnm (by rw [← hn, ← hm, e])], Below.refl _ _⟩


set_option maxHeartbeats 1000000 in
theorem stSame_any (e1 r1 e2 r2 : Int) (A B : Option Addr) (n c m d : Nat) (xs ys : List Int) (w : World) (hn : xs.length = n) (hm : ys.length = m) (hx : Rd w A (nums .i64 xs)) (hy : Rd w B (nums .i64 ys)) (hlen : n ≤ maxLen) :
    Calls Tryd.prog 38 #[.agg #[.int .u64 e1, .int .u64 r1, .slice A n c], .agg #[.int .u64 e2, .int .u64 r2, .slice B m d]] w (Tells w (decide (e1 = e2 ∧ r1 = r2 ∧ xs = ys))) := by
  have HN := Lib.hid hn
  have HM := Lib.hid hm
  have HL := Lib.hid hlen
  clear hn hm hlen
  by_cases c1 : e1 = e2
  · subst c1
    by_cases c2 : r1 = r2
    · subst c2
      go_enter Tryd.func38, Tryd.ntmps38
      go_wp2_with fail
      refine (equalInts_any _ _ _ _ _ _ _ _ _ HN.out HM.out (hx.below (bal (bal brf _) _)) (hy.below (bal (bal brf _) _)) HL.out).mono ?_; rintro e w1 ⟨rfl, hb⟩
      go_wp2_with fail
      go_ret
      exact ⟨by simp, bgo (bal (bal brf _) _) hb⟩
    · have c2b : (r1 == r2) = false := by simpa using c2
      go_enter Tryd.func38, Tryd.ntmps38
      go_wp2_with fail
      go_ret
      exact ⟨by simp [c2], bal (bal brf _) _⟩
  · have c1b : (e1 == e2) = false := by simpa using c1
    go_enter Tryd.func38, Tryd.ntmps38
    go_wp2_with fail
    go_ret
    exact ⟨by simp [c1], bal (bal brf _) _⟩
end Go.Proofs.YtmkmndgdakpojaaDoor
