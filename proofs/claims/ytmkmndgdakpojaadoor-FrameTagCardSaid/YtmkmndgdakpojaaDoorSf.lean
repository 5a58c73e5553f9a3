/- A row's blocks of 64, one behind the other: the iterator's contract. -/
import Derived.Test.YtmkmndgdakpojaaDoorSe
import Derived.RangeFuncNested
import Derived.RangeFuncBound
import Derived.RangeFuncCalls
import Derived.RangeFuncLeaves
import Derived.RangeFuncBox
import Derived.RangeFuncFrom
import Derived.Shelf.Abstract
import Derived.Shelf.RegionOpen
import Derived.WalkKit
import Derived.OwnWalkIn
import Derived.TacticsInMore
import Derived.LoopNIn
import Derived.LoopIn
namespace Go.Proofs.YtmkmndgdakpojaaDoor
open Go.RowKit Go.Shelf
set_option linter.unusedSimpArgs false
set_option linter.unusedVariables false
attribute [local go_sem] Oper.semAt_some

/-- The first k numbers. -/
def upto (k : Nat) : List Nat := List.range k
theorem upto_succ (k : Nat) : upto (k + 1) = upto k ++ [k] := by simp [upto, List.range_succ]
theorem upto_length (k : Nat) : (upto k).length = k := by simp [upto]

/-- A row's block k; there is no more than q of them. -/
def pc (q k : Nat) : Nat := if k < q then k else 0
def piece (B m q : Nat) (k : Nat) : Array Value := #[.slice (some ⟨B, 64 * pc q k, none⟩) 64 (m - 64 * pc q k)]
theorem piece_eq {B m q k : Nat} (h : k < q) : piece B m q k = #[.slice (some ⟨B, 64 * k, none⟩) 64 (m - 64 * k)] := by simp [piece, pc, h]
theorem pc_lt {q k : Nat} (h : 0 < q) : pc q k < q := by unfold pc; split <;> omega

/-- A box's cell stays. -/
def KeepsAt (Bs : Nat) (W W' : World) : Prop := W'.cell? ⟨Bs, 0, none⟩ = W.cell? ⟨Bs, 0, none⟩
theorem keepsAt_t {Bs : Nat} {A B C : World} (h : KeepsAt Bs A B) (k : KeepsAt Bs B C) : KeepsAt Bs A C := k.trans h
theorem keepsAt_b {Bs : Nat} {w : World} (hB : Bs < w.heap.size) (W : World) (l : Nat) (o o' : Obj) (hl : w.heap.size ≤ l) (_ : W.heap[l]? = some o) (_ : o.isCells = false) (_ : o.isWalk = false) : KeepsAt Bs W (W.putObj l o') :=
  World.cell?_of_block (World.putObj_heap_other (by show Bs ≠ l; omega))

set_option maxRecDepth 100000 in
set_option maxHeartbeats 2000000 in
theorem blocks1_in (F : Fence) (n : Nat) (hf : F.fn 59) (hro : F.round = none) (hn : 1 ≤ n) (l Bs B m q : Nat) (hm : m = 64 * q) (hq : q ≤ 1000000) (J Jx : List Nat → World → Prop)
    (hY : ∀ pre x W, J pre W → pre.length < q → YieldAt F (n - 1) Tryd.prog l (piece B m q x) W fun e W' =>
      (e = .returned (.bool true) ∧ J (pre ++ [x]) W' ∧ KeepsAt Bs W W') ∨ (e = .returned (.bool false) ∧ Jx (pre ++ [x]) W'))
    (W : World) (hBs : W.cell? ⟨Bs, 0, none⟩ = some (.slice (some ⟨B, 0, none⟩) m m)) (h0 : J [] W) :
    CallsIn F n Tryd.prog 59 #[.func (.yield l) #[] #[], .pointer (some ⟨Bs, 0, none⟩)] W fun e W' => (∃ v, e = .returned v) ∧
      ((∃ ys, ys = upto q ∧ J ys W') ∨ (∃ pre, (∃ k, k ≤ q ∧ pre = upto k) ∧ Jx pre W')) := by
  refine callsIn_of_wp Tryd.func59 rfl hf ?_ hro
  simp only [Tryd.ntmps59, List.size_toArray, List.length_cons, List.length_nil, Nat.reduceAdd, Nat.reduceSub, Array.replicate_succ, Array.replicate_zero, List.push_toArray, List.append_toArray, List.nil_append, List.cons_append]
  have hle0 : 64 * q ≤ m := by omega
  have hle1 : m ≤ 64 * q := by omega
  have HM := Lib.hid hm
  clear hm
  gi_wp2
  gi_loopw [3] (fun i wr => ∃ k : Nat, k ≤ q ∧ i = .int .i64 (64 * k) ∧ J (upto k) wr ∧ KeepsAt Bs W wr)
    (fun i _ => m - (intOf i).toNat)
  case atStart => exact ⟨0, Nat.zero_le _, rfl, h0, rfl⟩
  case round =>
    obtain ⟨k, hk, rfl, hJs, hnx⟩ := hrel
    have hcx : wr.cell? ⟨Bs, 0, none⟩ = some (.slice (some ⟨B, 0, none⟩) m m) := hnx.trans hBs
    by_cases hlt : k < q
    · obtain ⟨fn, tmps, assign, body, hy, hR⟩ := hY _ k wr hJs (by rw [upto_length]; exact hlt)
      have hle : 64 * k + 64 ≤ m := by omega
      rw [piece_eq hlt] at hy
      gi_wp2
      refine hR.mono ?_
      rintro e W3 (⟨rfl, hJ3, hk3⟩ | ⟨rfl, hJx3⟩)
      · gi_wp2
        go_roundw
        case rel => exact ⟨k + 1, by omega, by congr 1, by rw [upto_succ]; exact hJ3, hk3.trans hnx⟩
        case measure => simp [intOf]; omega
      · gi_wp2
        refine bodyPost_ret (results_none rfl _ _ _) rfl ?_
        exact ⟨⟨_, rfl⟩, .inr ⟨_, ⟨k + 1, by omega, (upto_succ _).symm⟩, hJx3⟩⟩
    · have hle : ¬ (64 * k + 64 ≤ m) := by omega
      have hkq : k = q := by omega
      have HKQ := Lib.hid hkq
      clear hkq
      gi_wp2
      go_end0
      exact ⟨⟨_, rfl⟩, .inl ⟨_, rfl, by rw [← HKQ.out]; exact hJs⟩⟩

theorem blocks_any (a : Option Addr) (len cap : Nat) (w : World) :
    Calls Tryd.prog 52 #[.slice a len cap] w fun e w' => e = .returned (.func (.func 59) #[] #[.pointer (some ⟨w.heap.size, 0, none⟩)]) ∧ w' = w.alloc (.cells #[.slice a len cap] 22) := by
  go_enter Tryd.func52, Tryd.ntmps52
  go_wp2_with fail
  go_ret
  exact ⟨rfl, rfl⟩

theorem blocks_stops (F : Fence) (n : Nat) (hf : F.fn 59) (hro : F.round = none) (hn : 1 ≤ n) (Bs B m q : Nat) (hm : m = 64 * q) (hq : q ≤ 1000000) (w : World) (hb : Bs < w.heap.size)
    (hBs : w.cell? ⟨Bs, 0, none⟩ = some (.slice (some ⟨B, 0, none⟩) m m)) :
    SeqStopsK F n Tryd.prog 59 #[.pointer (some ⟨Bs, 0, none⟩)] (piece B m q) (KeepsAt Bs) (fun ys => ys = upto q) (fun pre => True) q w := fun l J Jx W hW _ _ hY h0 => by
  have hc' := (hW.cell (p := ⟨Bs, 0, none⟩) hb).trans hBs
  refine (blocks1_in F n hf hro hn l Bs B m q hm hq J Jx hY W hc' h0).mono ?_
  rintro e W' ⟨he, ⟨ys, rfl, hj⟩ | ⟨pre, _, hj⟩⟩
  · exact ⟨he, .inl ⟨_, rfl, hj⟩⟩
  · exact ⟨he, .inr ⟨_, trivial, hj⟩⟩
end Go.Proofs.YtmkmndgdakpojaaDoor
