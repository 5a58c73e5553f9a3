/- StampOrder: the law. -/
import Derived.Test.YtmkmndgdakpojaaTh
namespace Go.Proofs.Ytmkmndgdakpojaa
open Go.RowKit Go.ChangeShapes Go.WideShapes Go.ChangeAt
set_option linter.unusedSimpArgs false
set_option linter.unusedVariables false
set_option maxRecDepth 100000

theorem cmpS_neg (e1 r1 e2 r2 : Int) : IntKind.i64.wrap (-cmpS e2 r2 e1 r1) = cmpS e1 r1 e2 r2 := by
  have h : -cmpS e2 r2 e1 r1 = cmpS e1 r1 e2 r2 := by
    rcases cmpS_cases e1 r1 e2 r2 with ⟨h1, h2⟩ | ⟨h1, h2⟩ | ⟨h1, h2⟩ <;> rcases cmpS_cases e2 r2 e1 r1 with ⟨h3, h4⟩ | ⟨h3, h4⟩ | ⟨h3, h4⟩ <;> omega
  rw [h]
  have hb : -1 ≤ cmpS e1 r1 e2 r2 ∧ cmpS e1 r1 e2 r2 ≤ 1 := by
    rcases cmpS_cases e1 r1 e2 r2 with ⟨h1, h2⟩ | ⟨h1, h2⟩ | ⟨h1, h2⟩ <;> omega
  exact IntWalk.i64_in _ (by omega)
theorem cmpS_trans (e1 r1 e2 r2 e3 r3 : Int) (h1 : cmpS e1 r1 e2 r2 ≤ 0) (h2 : cmpS e2 r2 e3 r3 ≤ 0) : cmpS e1 r1 e3 r3 ≤ 0 := by
  rcases cmpS_cases e1 r1 e2 r2 with ⟨a1, a2⟩ | ⟨a1, a2⟩ | ⟨a1, a2⟩ <;> rcases cmpS_cases e2 r2 e3 r3 with ⟨b1, b2⟩ | ⟨b1, b2⟩ | ⟨b1, b2⟩ <;> rcases cmpS_cases e1 r1 e3 r3 with ⟨c1, c2⟩ | ⟨c1, c2⟩ | ⟨c1, c2⟩ <;> omega

theorem order_any (e1 r1 : Int) (A1 : Option Addr) (n1 c1 : Nat) (e2 r2 : Int) (A2 : Option Addr) (n2 c2 : Nat) (e3 r3 : Int) (A3 : Option Addr) (n3 c3 : Nat) (xs1 xs2 : List Int) (w : World) (hn1 : xs1.length = n1) (hn2 : xs2.length = n2) (hs : ∀ x ∈ [n1, n2, n3], x ≤ 60) (hx1 : Rd w A1 (nums .i64 xs1)) (hx2 : Rd w A2 (nums .i64 xs2)) :
    Calls Try.prog 8 #[.agg #[.int .u64 e1, .int .u64 r1, .slice A1 n1 c1], .agg #[.int .u64 e2, .int .u64 r2, .slice A2 n2 c2], .agg #[.int .u64 e3, .int .u64 r3, .slice A3 n3 c3]] w (Yes w) := by
  have C12 := fun W => stCmp_any e1 r1 e2 r2 (.slice A1 n1 c1) (.slice A2 n2 c2) W
  have C21 := fun W => stCmp_any e2 r2 e1 r1 (.slice A2 n2 c2) (.slice A1 n1 c1) W
  have C23 := fun W => stCmp_any e2 r2 e3 r3 (.slice A2 n2 c2) (.slice A3 n3 c3) W
  have C13 := fun W => stCmp_any e1 r1 e3 r3 (.slice A1 n1 c1) (.slice A3 n3 c3) W
  have m1 : n1 ≤ maxLen := by have := hs n1 (by simp); unfold maxLen; omega
  have m2 : n2 ≤ maxLen := by have := hs n2 (by simp); unfold maxLen; omega
  have S11 := fun (W : World) (h : Rd W A1 (nums .i64 xs1)) => stSame_refl e1 r1 A1 A1 n1 c1 c1 xs1 W hn1 m1 h h
  have S12 : ∀ W, Rd W A1 (nums .i64 xs1) → Rd W A2 (nums .i64 xs2) → Calls Try.prog 20 #[.agg #[.int .u64 e1, .int .u64 r1, .slice A1 n1 c1], .agg #[.int .u64 e2, .int .u64 r2, .slice A2 n2 c2]] W fun e w' => e = .returned (.bool (decide (e1 = e2 ∧ r1 = r2 ∧ xs1 = xs2))) ∧ Below W.heap.size W w' :=
    fun W h1 h2 => stSame_any e1 r1 e2 r2 A1 A2 n1 c1 n2 c2 xs1 xs2 W hn1 hn2 h1 h2 m1
  have S21 : ∀ W, Rd W A1 (nums .i64 xs1) → Rd W A2 (nums .i64 xs2) → Calls Try.prog 20 #[.agg #[.int .u64 e2, .int .u64 r2, .slice A2 n2 c2], .agg #[.int .u64 e1, .int .u64 r1, .slice A1 n1 c1]] W fun e w' => e = .returned (.bool (decide (e1 = e2 ∧ r1 = r2 ∧ xs1 = xs2))) ∧ Below W.heap.size W w' :=
    fun W h1 h2 => (stSame_any e2 r2 e1 r1 A2 A1 n2 c2 n1 c1 xs2 xs1 W hn2 hn1 h2 h1 m2).mono fun e w' ⟨he, hb⟩ => ⟨by
      rw [he]
      have : decide (e2 = e1 ∧ r2 = r1 ∧ xs2 = xs1) = decide (e1 = e2 ∧ r1 = r2 ∧ xs1 = xs2) := by
        apply decide_eq_decide.2
        exact ⟨fun ⟨a, b, c⟩ => ⟨a.symm, b.symm, c.symm⟩, fun ⟨a, b, c⟩ => ⟨a.symm, b.symm, c.symm⟩⟩
      rw [this], hb⟩
  have hneg := cmpS_neg e1 r1 e2 r2
  have ht := cmpS_trans e1 r1 e2 r2 e3 r3
  have hk := cmpS_cases e1 r1 e2 r2
  obtain ⟨z12, h12⟩ : ∃ z, z = cmpS e1 r1 e2 r2 := ⟨_, rfl⟩
  obtain ⟨z21, h21⟩ : ∃ z, z = cmpS e2 r2 e1 r1 := ⟨_, rfl⟩
  obtain ⟨z23, h23⟩ : ∃ z, z = cmpS e2 r2 e3 r3 := ⟨_, rfl⟩
  obtain ⟨z13, h13⟩ : ∃ z, z = cmpS e1 r1 e3 r3 := ⟨_, rfl⟩
  rw [← h12] at C12 hneg ht hk
  rw [← h21] at C21 hneg
  rw [← h23] at C23 ht
  rw [← h13] at C13 ht
  by_cases he : e1 = e2
  · by_cases hr : r1 = r2
    · have hz : z12 = 0 := by omega
      by_cases hx : xs1 = xs2
      · exact order_1 e1 r1 A1 n1 c1 e2 r2 A2 n2 c2 e3 r3 A3 n3 c3 xs1 xs2 w z12 z21 z23 z13 _ hs hx1 hx2 C12 C21 C23 C13 S11 S12 S21 hneg ⟨by simp [hz], by simp [hz], by simp [he], by simp [hr], by simp [he, hr, hx]⟩ ht
      · exact order_2 e1 r1 A1 n1 c1 e2 r2 A2 n2 c2 e3 r3 A3 n3 c3 xs1 xs2 w z12 z21 z23 z13 _ hs hx1 hx2 C12 C21 C23 C13 S11 S12 S21 hneg ⟨by simp [hz], by simp [hz], by simp [he], by simp [hr], by simp [hx]⟩ ht
    · have hz : z12 ≠ 0 := by omega
      exact order_4 e1 r1 A1 n1 c1 e2 r2 A2 n2 c2 e3 r3 A3 n3 c3 xs1 xs2 w z12 z21 z23 z13 _ hs hx1 hx2 C12 C21 C23 C13 S11 S12 S21 hneg ⟨by simp [hz], by simp [hz], by simp [he], by simp [hr], by simp [hr]⟩ ht
  · have hz : z12 ≠ 0 := by omega
    exact order_3 e1 r1 A1 n1 c1 e2 r2 A2 n2 c2 e3 r3 A3 n3 c3 xs1 xs2 w z12 z21 z23 z13 _ hs hx1 hx2 C12 C21 C23 C13 S11 S12 S21 hneg ⟨by simp [hz], by simp [hz], by simp [he], by simp [he]⟩ ht

set_option maxHeartbeats 1000000 in
open Go.Joins Go.Deep in
theorem stampOrder_of {H : Type} {enc : TypeId × Value → H} (W : World) (base : Nat) (args : Array Value) (ds : List (DataW H)) (p : List MemPlace)
    (hval : ∀ (j : Nat) t v, Try.f8.params[j]? = some t → args[j]? = some v → Value.okWide Try.prog W .any base t v)
    (hA : DataW.TrodAll enc Try.prog W 0 (fun _ => true) true Try.f8.params.toList args.toList ds p) (hlt : ∀ x ∈ p, x.block < W.heap.size)
    (hz : (DataW.weightsEach Try.prog Try.f8.params.toList ds).all (· ≤ reachBytes) = true) : Calls Try.prog 8 args W (Yes W) := by
  rw [Try.params8] at hA hval hz
  obtain ⟨v0, vs0, d0, ds0, p0, q0, hargs, rfl, rfl, h0, r0⟩ := trodAll_cons hA
  obtain ⟨v1, vs1, d1, ds1, p1, q1, rfl, rfl, rfl, h1, r1⟩ := trodAll_cons r0
  obtain ⟨v2, vs2, d2, ds2, p2, q2, rfl, rfl, rfl, h2, r2⟩ := trodAll_cons r1
  obtain ⟨rfl, rfl, rfl⟩ := trodAll_nil r2
  obtain rfl : args = #[v0, v1, v2] := by cases args; simp_all
  obtain ⟨e1, t1, A1, n1, c1, xs1, rfl, a1, a2, a3, a4, a5, a6, a7⟩ := open_stamp (hval 0 _ _ rfl rfl) h0
  obtain ⟨e2, t2, A2, n2, c2, xs2, rfl, b1, b2, b3, b4, b5, b6, b7⟩ := open_stamp (hval 1 _ _ rfl rfl) h1
  obtain ⟨e3, t3, A3, n3, c3, xs3, rfl, d1, d2, d3, d4, d5, d6, d7⟩ := open_stamp (hval 2 _ _ rfl rfl) h2
  by_cases hs : ∀ x ∈ [n1, n2, n3], x ≤ 60
  · exact order_any e1 t1 A1 n1 c1 e2 t2 A2 n2 c2 e3 t3 A3 n3 c3 xs1 xs2 W a3 b3 hs a4 b4
  · exact stampOrder_long e1 t1 A1 n1 c1 e2 t2 A2 n2 c2 e3 t3 A3 n3 c3 W hs
end Go.Proofs.Ytmkmndgdakpojaa
