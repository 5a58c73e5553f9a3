/- perm.Shuffle: its contract. -/
import Derived.Test.YtmepcpklnpjebaaPc
import Derived.RangeFuncNested
import Derived.RangeFuncBound
import Derived.RangeFuncCalls
import Derived.RangeFuncLeaves
import Derived.RangeFuncBox
import Derived.RangeFuncFrom
import Derived.Shelf.Abstract
import Derived.Shelf.RegionOpen
import Derived.WalkKit
import Derived.OwnWalkIn
import Derived.TacticsInMore
import Derived.LoopNIn
import Derived.LoopIn
import Derived.BigRegionIn
namespace Go.Proofs.Ytmepcpklnpjebaa
open Go.RowKit Go.Shelf
set_option linter.unusedSimpArgs false
set_option linter.unusedVariables false
attribute [local go_sem] Oper.semAt_some

/-- The first k numbers. -/
def upto (k : Nat) : List Nat := List.range k
theorem upto_succ (k : Nat) : upto (k + 1) = upto k ++ [k] := by simp [upto, List.range_succ]
theorem upto_length (k : Nat) : (upto k).length = k := by simp [upto]

/-- The number of round x, from q down; there is no more than q of them. -/
def dn (q x : Nat) : Nat := if x < q then q - x else 1
def dpiece (q : Nat) (x : Nat) : Array Value := #[.int .i64 (dn q x : Nat)]
theorem dn_eq {q x : Nat} (h : x < q) : dn q x = q - x := by simp [dn, h]
theorem dn_le {q x : Nat} (h : 0 < q) : 1 ≤ dn q x ∧ dn q x ≤ q := by unfold dn; split <;> omega

/-- Nothing is asked. -/
def Any (W W' : World) : Prop := True

set_option maxRecDepth 100000 in
set_option maxHeartbeats 2000000 in
theorem down1_in (F : Fence) (n : Nat) (hf : F.fn 46) (hro : F.round = none) (hn : 1 ≤ n) (l Bs q : Nat) (N : Int) (h1 : q = 0 ∨ N ≤ q) (h2 : (q : Int) ≤ N ∨ q = 0) (h3 : q = 0 → N < 1) (h4 : -1 ≤ N) (hq : q ≤ 1000000) (J Jx : List Nat → World → Prop)
    (hY : ∀ pre x W, J pre W → pre.length < q → YieldAt F (n - 1) Try.prog l (dpiece q x) W fun e W' =>
      (e = .returned (.bool true) ∧ J (pre ++ [x]) W' ∧ Any W W') ∨ (e = .returned (.bool false) ∧ Jx (pre ++ [x]) W'))
    (W : World) (hBs : W.cell? ⟨Bs, 0, none⟩ = some (.int .i64 N)) (h0 : J [] W) :
    CallsIn F n Try.prog 46 #[.func (.yield l) #[] #[], .pointer (some ⟨Bs, 0, none⟩)] W fun e W' => (∃ v, e = .returned v) ∧
      ((∃ ys, ys = upto q ∧ J ys W') ∨ (∃ pre, (∃ k, k ≤ q ∧ pre = upto k) ∧ Jx pre W')) := by
  refine callsIn_of_wp Try.func46 rfl hf ?_ hro
  simp only [Try.ntmps46, List.size_toArray, List.length_cons, List.length_nil, Nat.reduceAdd, Nat.reduceSub, Array.replicate_succ, Array.replicate_zero, List.push_toArray, List.append_toArray, List.nil_append, List.cons_append]
  have H1 := Lib.hid h1
  have H2 := Lib.hid h2
  have H3 := Lib.hid h3
  clear h1 h2 h3
  gi_wp2
  gi_loopw [3] (fun i wr => ∃ (k : Nat) (z : Int), k ≤ q ∧ z ≤ N - k ∧ N - k ≤ z ∧ i = .int .i64 z ∧ J (upto k) wr)
    (fun i _ => (intOf i).toNat)
  case atStart => exact ⟨0, N, Nat.zero_le _, by omega, by omega, rfl, h0⟩
  case round =>
    obtain ⟨k, z, hk, hz1, hz2, rfl, hJs⟩ := hrel
    by_cases hlt : k < q
    · obtain rfl : z = (dn q k : Nat) := by rw [dn_eq hlt]; have := H1.out; have := H2.out; omega
      have hd1 : 1 ≤ dn q k := (dn_le (by omega)).1
      have hd2 : dn q k ≤ q := (dn_le (by omega)).2
      obtain ⟨fn, tmps, assign, body, hy, hR⟩ := hY _ k wr hJs (by rw [upto_length]; exact hlt)
      unfold dpiece at hy
      gi_wp2
      refine hR.mono ?_
      rintro e W3 (⟨rfl, hJ3, _⟩ | ⟨rfl, hJx3⟩)
      · gi_wp2
        go_roundw
        case rel => exact ⟨k + 1, (dn q k : Nat) - 1, by omega, by omega, by omega, rfl, by rw [upto_succ]; exact hJ3⟩
        case measure => simp [intOf]; omega
      · gi_wp2
        refine bodyPost_ret (results_none rfl _ _ _) rfl ?_
        exact ⟨⟨_, rfl⟩, .inr ⟨_, ⟨k + 1, by omega, (upto_succ _).symm⟩, hJx3⟩⟩
    · have hz : z < 1 := by have := H1.out; have := H3.out; omega
      have hkq : k = q := by omega
      subst hkq
      clear hlt hk
      gi_wp2
      go_end0
      exact ⟨⟨_, rfl⟩, .inl ⟨_, rfl, hJs⟩⟩

theorem down_any (z : Int) (w : World) :
    Calls Try.prog 41 #[.int .i64 z] w fun e w' => e = .returned (.func (.func 46) #[] #[.pointer (some ⟨w.heap.size, 0, none⟩)]) ∧ w' = w.alloc (.cells #[.int .i64 z] 3) := by
  go_enter Try.func41, Try.ntmps41
  go_wp2_with fail
  go_ret
  exact ⟨rfl, rfl⟩

theorem down_stops (F : Fence) (n : Nat) (hf : F.fn 46) (hro : F.round = none) (hn : 1 ≤ n) (Bs q : Nat) (N : Int) (h1 : q = 0 ∨ N ≤ q) (h2 : (q : Int) ≤ N ∨ q = 0) (h3 : q = 0 → N < 1) (h4 : -1 ≤ N) (hq : q ≤ 1000000) (w : World) (hb : Bs < w.heap.size)
    (hBs : w.cell? ⟨Bs, 0, none⟩ = some (.int .i64 N)) :
    SeqStopsK F n Try.prog 46 #[.pointer (some ⟨Bs, 0, none⟩)] (dpiece q) Any (fun ys => ys = upto q) (fun pre => True) q w := fun l J Jx W hW _ _ hY h0 => by
  have hc' := (hW.cell (p := ⟨Bs, 0, none⟩) hb).trans hBs
  refine (down1_in F n hf hro hn l Bs q N h1 h2 h3 h4 hq J Jx hY W hc' h0).mono ?_
  rintro e W' ⟨he, ⟨ys, rfl, hj⟩ | ⟨pre, _, hj⟩⟩
  · exact ⟨he, .inl ⟨_, rfl, hj⟩⟩
  · exact ⟨he, .inr ⟨_, trivial, hj⟩⟩
end Go.Proofs.Ytmepcpklnpjebaa
