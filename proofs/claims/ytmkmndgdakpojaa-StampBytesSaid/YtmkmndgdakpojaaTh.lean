/- StampOrder: the walk. -/
import Derived.Test.YtmkmndgdakpojaaTe
import Derived.Test.YtmkmndgdakpojaaTf
import Derived.Test.YtmkmndgdakpojaaTm
import Derived.Deep.RegionHeld3
namespace Go.Proofs.Ytmkmndgdakpojaa
open Go.RowKit Go.ChangeShapes Go.WideShapes Go.ChangeAt
set_option linter.unusedSimpArgs false
set_option linter.unusedVariables false
set_option maxRecDepth 100000

theorem cmpC_refl (a : Int) : cmpC a a = 0 := by simp [cmpC]
theorem cmpS_cases (e1 r1 e2 r2 : Int) : (cmpS e1 r1 e2 r2 = 0 ∧ e1 = e2 ∧ r1 = r2) ∨ (cmpS e1 r1 e2 r2 = -1 ∧ (e1 < e2 ∨ (e1 = e2 ∧ r1 < r2))) ∨ (cmpS e1 r1 e2 r2 = 1 ∧ (e2 < e1 ∨ (e1 = e2 ∧ r2 < r1))) := by
  unfold cmpS cmpC
  split <;> split <;> (try split) <;> simp <;> omega

/-- Three stamps' boxes. -/
abbrev stsHeld (w x : World) (e1 r1 : Int) (v1 : Value) (e2 r2 : Int) (v2 : Value) (e3 r3 : Int) (v3 : Value) : Prop :=
  Below w.heap.size w x ∧ w.heap.size + 2 < x.heap.size ∧ (x.cell? ⟨w.heap.size, 0, none⟩ = some (.int .u64 e1) ∧ x.cell? ⟨w.heap.size, 1, none⟩ = some (.int .u64 r1) ∧ x.cell? ⟨w.heap.size, 2, none⟩ = some v1 ∧
    x.cell? ⟨w.heap.size + 1, 0, none⟩ = some (.int .u64 e2) ∧ x.cell? ⟨w.heap.size + 1, 1, none⟩ = some (.int .u64 r2) ∧ x.cell? ⟨w.heap.size + 1, 2, none⟩ = some v2 ∧
    x.cell? ⟨w.heap.size + 2, 0, none⟩ = some (.int .u64 e3) ∧ x.cell? ⟨w.heap.size + 2, 1, none⟩ = some (.int .u64 r3) ∧ x.cell? ⟨w.heap.size + 2, 2, none⟩ = some v3)
theorem stsHeld_next {w x y : World} {e1 r1 : Int} {v1 : Value} {e2 r2 : Int} {v2 : Value} {e3 r3 : Int} {v3 : Value} (h : stsHeld w x e1 r1 v1 e2 r2 v2 e3 r3 v3) (hb : Below x.heap.size x y) : stsHeld w y e1 r1 v1 e2 r2 v2 e3 r3 v3 := by
  obtain ⟨h0, hl, a0, a1, a2, b0, b1, b2, c0, c1, c2⟩ := h
  have k0 : ∀ i, y.cell? ⟨w.heap.size, i, none⟩ = x.cell? ⟨w.heap.size, i, none⟩ := fun i => hb.cell (p := ⟨w.heap.size, i, none⟩) (by show w.heap.size < _; omega)
  have k1 : ∀ i, y.cell? ⟨w.heap.size + 1, i, none⟩ = x.cell? ⟨w.heap.size + 1, i, none⟩ := fun i => hb.cell (p := ⟨w.heap.size + 1, i, none⟩) (by show w.heap.size + 1 < _; omega)
  have k2 : ∀ i, y.cell? ⟨w.heap.size + 2, i, none⟩ = x.cell? ⟨w.heap.size + 2, i, none⟩ := fun i => hb.cell (p := ⟨w.heap.size + 2, i, none⟩) (by show w.heap.size + 2 < _; omega)
  exact ⟨bgo h0 hb, Nat.lt_of_lt_of_le hl hb.size, by rw [k0]; exact a0, by rw [k0]; exact a1, by rw [k0]; exact a2, by rw [k1]; exact b0, by rw [k1]; exact b1, by rw [k1]; exact b2, by rw [k2]; exact c0, by rw [k2]; exact c1, by rw [k2]; exact c2⟩

theorem stRow3 (W : World) (t : TypeId) (e1 r1 e2 r2 e3 r3 : Int) (A1 A2 A3 : Option Addr) (n1 c1 n2 c2 n3 c3 : Nat) : StRow (W.alloc (.cells #[.int .u64 e1, .int .u64 r1, .slice A1 n1 c1, .int .u64 e2, .int .u64 r2, .slice A2 n2 c2, .int .u64 e3, .int .u64 r3, .slice A3 n3 c3] t)) W.heap.size [n1, n2, n3] :=
  ⟨by simp, fun k hk => by
    have h3 : k < 3 := hk
    match k, h3 with
    | 0, _ => exact ⟨e1, r1, A1, c1, by simp [go_sem], by simp [go_sem], by simp [go_sem]⟩
    | 1, _ => exact ⟨e2, r2, A2, c2, by simp [go_sem], by simp [go_sem], by simp [go_sem]⟩
    | 2, _ => exact ⟨e3, r3, A3, c3, by simp [go_sem], by simp [go_sem], by simp [go_sem]⟩⟩

set_option maxHeartbeats 600000 in
theorem stampOrder_long (e1 r1 : Int) (A1 : Option Addr) (n1 c1 : Nat) (e2 r2 : Int) (A2 : Option Addr) (n2 c2 : Nat) (e3 r3 : Int) (A3 : Option Addr) (n3 c3 : Nat) (w : World) (h : ¬ ∀ x ∈ [n1, n2, n3], x ≤ 60) :
    Calls Try.prog 8 #[.agg #[.int .u64 e1, .int .u64 r1, .slice A1 n1 c1], .agg #[.int .u64 e2, .int .u64 r2, .slice A2 n2 c2], .agg #[.int .u64 e3, .int .u64 r3, .slice A3 n3 c3]] w (Yes w) := by
  have HH := Lib.hid h
  clear h
  go_enter Try.func8, Try.ntmps8
  go_wp2_with (first
    | (go_at_call 9; refine (live4_any _).mono ?_; rintro e w1 ⟨rfl, hb1⟩; obtain ⟨h0, hl, a0, a1, a2, b0, b1, b2, d0, d1, d2⟩ := stsHeld_next (e1 := e1) (r1 := r1) (v1 := .slice A1 n1 c1) (e2 := e2) (r2 := r2) (v2 := .slice A2 n2 c2) (e3 := e3) (r3 := r3) (v3 := .slice A3 n3 c3) (w := w) ⟨bal (bal (bal brf _) _) _, by simp, by simp [go_sem], by simp [go_sem], by simp [go_sem], by simp [go_sem], by simp [go_sem], by simp [go_sem], by simp [go_sem], by simp [go_sem], by simp [go_sem]⟩ hb1; clear hb1)
    | (go_at_call 14; refine (short_any _ 3 _ [n1, n2, n3] _ rfl (stRow3 _ _ _ _ _ _ _ _ _ _ _ _ _ _ _ _ _) (by omega)).mono ?_; rintro e w2 ⟨he, hb2⟩; rw [decide_eq_false HH.out] at he; subst he))
  go_ret
  exact ⟨rfl, bgo (bal h0 _) hb2⟩

theorem stsHeld_drew {w x : World} {e1 r1 : Int} {v1 : Value} {e2 r2 : Int} {v2 : Value} {e3 r3 : Int} {v3 : Value} (h : stsHeld w x e1 r1 v1 e2 r2 v2 e3 r3 v3) : stsHeld w x.drew e1 r1 v1 e2 r2 v2 e3 r3 v3 := ⟨bdr h.1, h.2.1, h.2.2⟩
theorem rd_held {w x : World} {e1 r1 : Int} {v1 : Value} {e2 r2 : Int} {v2 : Value} {e3 r3 : Int} {v3 : Value} {A : Option Addr} {vs : List Value} (h : stsHeld w x e1 r1 v1 e2 r2 v2 e3 r3 v3) (hr : Rd w A vs) : Rd x A vs := hr.below h.1

abbrev ST9 (x : World) (q0 q1 q2 : Nat) (e1 r1 : Int) (v1 : Value) (e2 r2 : Int) (v2 : Value) (e3 r3 : Int) (v3 : Value) : Prop :=
  (x.cell? ⟨q0, 0, none⟩ = some (.int .u64 e1) ∧ x.cell? ⟨q0, 1, none⟩ = some (.int .u64 r1) ∧ x.cell? ⟨q0, 2, none⟩ = some v1) ∧
  (x.cell? ⟨q1, 0, none⟩ = some (.int .u64 e2) ∧ x.cell? ⟨q1, 1, none⟩ = some (.int .u64 r2) ∧ x.cell? ⟨q1, 2, none⟩ = some v2) ∧
  (x.cell? ⟨q2, 0, none⟩ = some (.int .u64 e3) ∧ x.cell? ⟨q2, 1, none⟩ = some (.int .u64 r3) ∧ x.cell? ⟨q2, 2, none⟩ = some v3)
theorem st9_below {x y : World} {q0 q1 q2 : Nat} {e1 r1 : Int} {v1 : Value} {e2 r2 : Int} {v2 : Value} {e3 r3 : Int} {v3 : Value} (h : ST9 x q0 q1 q2 e1 r1 v1 e2 r2 v2 e3 r3 v3) (hb : Below x.heap.size x y) : ST9 y q0 q1 q2 e1 r1 v1 e2 r2 v2 e3 r3 v3 := by
  obtain ⟨⟨a, b, c⟩, ⟨d, e, f⟩, g, i, j⟩ := h
  have k : ∀ {b i : Nat} {v : Value}, x.cell? ⟨b, i, none⟩ = some v → y.cell? ⟨b, i, none⟩ = some v := fun hv => (hb.cell (p := ⟨_, _, none⟩) (cell_lt hv)).trans hv
  exact ⟨⟨k a, k b, k c⟩, ⟨k d, k e, k f⟩, k g, k i, k j⟩


section
variable {P : Program} {ops : Array Oper} {Q : Exit → Act → World → Prop} {md : Region.Mode} {S : World → Prop}
/-- Take number i first; the operation itself is asked first, so that it stands written out. -/
theorem takeH {i : Nat} {oi : Oper} (v : Value) {fuel : Nat} {listed : Array Bool} {a : Act} {w : World} (hs : (Region.noSelect ops && Region.free md ops listed i && (Region.ready md ops listed).contains i) = true) (hS : S w) (hi : ops[i]? = some oi)
    (hQ : ∀ c a w, Q (.panic c) (a.put oi.dst v) w → Q (.panic c) a w) (hy : YieldsIf P ops S oi v a)
    (h : wpAnyH P md ops Q S fuel (listed.setIfInBounds i true) (a.put oi.dst v) w) : wpAnyH P md ops Q S (fuel + 1) listed a w := by
  simp only [Bool.and_eq_true] at hs
  exact wpAnyH_take hi hs.1.1 hs.1.2 hs.2 hQ hy hS h
/-- Number i alone may come up. -/
theorem onlyH {i : Nat} {oi : Oper} {fuel : Nat} {listed : Array Bool} {a : Act} {w : World} (hr : Region.ready md ops listed = [i]) (hi : ops[i]? = some oi)
    (h : ∀ K : Act → World → Prop, Shut (∀ a' w', S w' → (S w' → wpAnyH P md ops Q S fuel (listed.setIfInBounds i true) a' w') → K a' w') → if Region.wanted oi (yielded ops a.tmps) = true then Oper.wp P oi a w K Q else K (a.put oi.dst undef) w) : wpAnyH P md ops Q S (fuel + 1) listed a w :=
  wpAnyH_ready hr (by simp) (AllReadyH.cons hi (fun K hK => h K hK) AllReadyH.nil)
end

set_option maxHeartbeats 8000000 in
theorem order_1 (e1 r1 : Int) (A1 : Option Addr) (n1 c1 : Nat) (e2 r2 : Int) (A2 : Option Addr) (n2 c2 : Nat) (e3 r3 : Int) (A3 : Option Addr) (n3 c3 : Nat) (xs1 xs2 : List Int) (w : World) (z12 z21 z23 z13 : Int) (s : Bool) (hs : ∀ x ∈ [n1, n2, n3], x ≤ 60) (hx1 : Rd w A1 (nums .i64 xs1)) (hx2 : Rd w A2 (nums .i64 xs2))
    (C12 : ∀ W, Calls Try.prog 15 #[.agg #[.int .u64 e1, .int .u64 r1, .slice A1 n1 c1], .agg #[.int .u64 e2, .int .u64 r2, .slice A2 n2 c2]] W fun e w' => e = .returned (.int .i64 z12) ∧ Below W.heap.size W w')
    (C21 : ∀ W, Calls Try.prog 15 #[.agg #[.int .u64 e2, .int .u64 r2, .slice A2 n2 c2], .agg #[.int .u64 e1, .int .u64 r1, .slice A1 n1 c1]] W fun e w' => e = .returned (.int .i64 z21) ∧ Below W.heap.size W w')
    (C23 : ∀ W, Calls Try.prog 15 #[.agg #[.int .u64 e2, .int .u64 r2, .slice A2 n2 c2], .agg #[.int .u64 e3, .int .u64 r3, .slice A3 n3 c3]] W fun e w' => e = .returned (.int .i64 z23) ∧ Below W.heap.size W w')
    (C13 : ∀ W, Calls Try.prog 15 #[.agg #[.int .u64 e1, .int .u64 r1, .slice A1 n1 c1], .agg #[.int .u64 e3, .int .u64 r3, .slice A3 n3 c3]] W fun e w' => e = .returned (.int .i64 z13) ∧ Below W.heap.size W w')
    (S11 : ∀ W, Rd W A1 (nums .i64 xs1) → Calls Try.prog 20 #[.agg #[.int .u64 e1, .int .u64 r1, .slice A1 n1 c1], .agg #[.int .u64 e1, .int .u64 r1, .slice A1 n1 c1]] W fun e w' => e = .returned (.bool true) ∧ Below W.heap.size W w')
    (S12 : ∀ W, Rd W A1 (nums .i64 xs1) → Rd W A2 (nums .i64 xs2) → Calls Try.prog 20 #[.agg #[.int .u64 e1, .int .u64 r1, .slice A1 n1 c1], .agg #[.int .u64 e2, .int .u64 r2, .slice A2 n2 c2]] W fun e w' => e = .returned (.bool s) ∧ Below W.heap.size W w')
    (S21 : ∀ W, Rd W A1 (nums .i64 xs1) → Rd W A2 (nums .i64 xs2) → Calls Try.prog 20 #[.agg #[.int .u64 e2, .int .u64 r2, .slice A2 n2 c2], .agg #[.int .u64 e1, .int .u64 r1, .slice A1 n1 c1]] W fun e w' => e = .returned (.bool s) ∧ Below W.heap.size W w')
    (hneg : IntKind.i64.wrap (-z21) = z12) (hc : (z12 == 0) = true ∧ (z12 != 0) = false ∧ (e1 == e2) = true ∧ (r1 == r2) = true ∧ s = true)
    (ht : z12 ≤ 0 → z23 ≤ 0 → z13 ≤ 0) :
    Calls Try.prog 8 #[.agg #[.int .u64 e1, .int .u64 r1, .slice A1 n1 c1], .agg #[.int .u64 e2, .int .u64 r2, .slice A2 n2 c2], .agg #[.int .u64 e3, .int .u64 r3, .slice A3 n3 c3]] w (Yes w) := by
  have HH := Lib.hid hs
  have HX1 := Lib.hid hx1
  have HX2 := Lib.hid hx2
  have HC12 := Lib.hid C12
  have HC21 := Lib.hid C21
  have HC23 := Lib.hid C23
  have HC13 := Lib.hid C13
  have HS11 := Lib.hid S11
  have HS12 := Lib.hid S12
  have HS21 := Lib.hid S21
  clear hs hx1 hx2 C12 C21 C23 C13 S11 S12 S21
  have hq : (0 : Int) < z12 ∨ (¬ (0 : Int) < z12 ∧ (0 : Int) < z23) ∨ (¬ (0 : Int) < z12 ∧ ¬ (0 : Int) < z23 ∧ z13 ≤ 0) := by omega
  have Q1 := Lib.hid hq
  clear ht hq
  obtain ⟨g1, g2, qe, qr, rfl⟩ := hc
  go_enter Try.func8, Try.ntmps8
  go_wp2_with (first
    | (go_at_call 9; refine (live4_any _).mono ?_; rintro e w1 ⟨rfl, hb1⟩; have hk1 := stsHeld_next (e1 := e1) (r1 := r1) (v1 := .slice A1 n1 c1) (e2 := e2) (r2 := r2) (v2 := .slice A2 n2 c2) (e3 := e3) (r3 := r3) (v3 := .slice A3 n3 c3) (w := w) ⟨bal (bal (bal brf _) _) _, by simp, by simp [go_sem], by simp [go_sem], by simp [go_sem], by simp [go_sem], by simp [go_sem], by simp [go_sem], by simp [go_sem], by simp [go_sem], by simp [go_sem]⟩ hb1; have HK1 := Lib.hid hk1; obtain ⟨h0, hl, a0, a1, a2, b0, b1, b2, d0, d1, d2⟩ := hk1; clear hb1)
    | (go_at_call 14; refine (short_any _ 3 _ [n1, n2, n3] _ rfl (stRow3 _ _ _ _ _ _ _ _ _ _ _ _ _ _ _ _ _) (by omega)).mono ?_; rintro e w2 ⟨he, hb2⟩; rw [decide_eq_true HH.out] at he; subst he; have hk2 := stsHeld_next HK1.out (bgo (bal brf _) hb2); clear h0 hl a0 a1 a2 b0 b1 b2 d0 d1 d2 hb2)
    | fail)
  clear HK1
  have hk2 : stsHeld w w2 e1 r1 (.slice A1 n1 c1) e2 r2 (.slice A2 n2 c2) e3 r3 (.slice A3 n3 c3) := hk2
  go_wp2_with fail
  have HBw := Lib.hid hk2.1
  have hS : ST9 w2.drew w.heap.size (w.heap.size + 1) (w.heap.size + 2) e1 r1 (.slice A1 n1 c1) e2 r2 (.slice A2 n2 c2) e3 r3 (.slice A3 n3 c3) := ⟨⟨hk2.2.2.1, hk2.2.2.2.1, hk2.2.2.2.2.1⟩, ⟨hk2.2.2.2.2.2.1, hk2.2.2.2.2.2.2.1, hk2.2.2.2.2.2.2.2.1⟩, hk2.2.2.2.2.2.2.2.2⟩
  have HBX := Lib.hid (bdr HBw.out)
  clear hk2
  go_region_held3 (fun x => ST9 x w.heap.size (w.heap.size + 1) (w.heap.size + 2) e1 r1 (.slice A1 n1 c1) e2 r2 (.slice A2 n2 c2) e3 r3 (.slice A3 n3 c3)) (with_reducible exact hS)
    (first
    | (go_at_call 15; go_must ((first | (with_reducible refine (HC12.out _).mono ?_) | (with_reducible refine (HC21.out _).mono ?_) | (with_reducible refine (HC23.out _).mono ?_) | (with_reducible refine (HC13.out _).mono ?_)); rintro e w' ⟨rfl, hb⟩; have hS := st9_below hS hb; have HBX := Lib.hid (bgo HBX.out hb); clear hb))
    | (go_at_call 20; go_must ((first | (with_reducible refine (HS11.out _ (HX1.out.below HBX.out)).mono ?_) | (with_reducible refine (HS12.out _ (HX1.out.below HBX.out) (HX2.out.below HBX.out)).mono ?_) | (with_reducible refine (HS21.out _ (HX1.out.below HBX.out) (HX2.out.below HBX.out)).mono ?_)); rintro e w' ⟨rfl, hb⟩; have hS := st9_below hS hb; have HBX := Lib.hid (bgo HBX.out hb); clear hb)))
  go_wp2_with fail
  have hS : ST9 w'.drew w.heap.size (w.heap.size + 1) (w.heap.size + 2) e1 r1 (.slice A1 n1 c1) e2 r2 (.slice A2 n2 c2) e3 r3 (.slice A3 n3 c3) := hS
  have HBX := Lib.hid (bdr HBX.out)
  go_region_held3 (fun x => ST9 x w.heap.size (w.heap.size + 1) (w.heap.size + 2) e1 r1 (.slice A1 n1 c1) e2 r2 (.slice A2 n2 c2) e3 r3 (.slice A3 n3 c3)) (with_reducible exact hS)
    (first
    | (go_at_call 15; go_must ((first | (with_reducible refine (HC12.out _).mono ?_) | (with_reducible refine (HC21.out _).mono ?_) | (with_reducible refine (HC23.out _).mono ?_) | (with_reducible refine (HC13.out _).mono ?_)); rintro e w' ⟨rfl, hb⟩; have hS := st9_below hS hb; have HBX := Lib.hid (bgo HBX.out hb); clear hb))
    | (go_at_call 20; go_must ((first | (with_reducible refine (HS11.out _ (HX1.out.below HBX.out)).mono ?_) | (with_reducible refine (HS12.out _ (HX1.out.below HBX.out) (HX2.out.below HBX.out)).mono ?_) | (with_reducible refine (HS21.out _ (HX1.out.below HBX.out) (HX2.out.below HBX.out)).mono ?_)); rintro e w' ⟨rfl, hb⟩; have hS := st9_below hS hb; have HBX := Lib.hid (bgo HBX.out hb); clear hb)))
  have HS9 := Lib.hid hS
  obtain ⟨⟨a0, a1, a2⟩, ⟨b0, b1, b2⟩, d0, d1, d2⟩ := hS
  have hS := HS9.out
  clear HS9
  rcases Q1.out with q1 | ⟨q1, q2⟩ | ⟨q1, q2, q3⟩
  all_goals
    go_wp2_with ((go_at_call 15; go_must ((first | (with_reducible refine (HC12.out _).mono ?_) | (with_reducible refine (HC21.out _).mono ?_) | (with_reducible refine (HC23.out _).mono ?_) | (with_reducible refine (HC13.out _).mono ?_)); rintro e w' ⟨rfl, hb⟩; have hS := st9_below hS hb; obtain ⟨⟨a0, a1, a2⟩, ⟨b0, b1, b2⟩, d0, d1, d2⟩ := hS; have hS : ST9 w' w.heap.size (w.heap.size + 1) (w.heap.size + 2) e1 r1 (.slice A1 n1 c1) e2 r2 (.slice A2 n2 c2) e3 r3 (.slice A3 n3 c3) := ⟨⟨a0, a1, a2⟩, ⟨b0, b1, b2⟩, d0, d1, d2⟩; have HBX := Lib.hid (bgo HBX.out hb); clear hb)))
    go_ret
    exact ⟨by simp, HBX.out⟩

set_option maxHeartbeats 8000000 in
theorem order_2 (e1 r1 : Int) (A1 : Option Addr) (n1 c1 : Nat) (e2 r2 : Int) (A2 : Option Addr) (n2 c2 : Nat) (e3 r3 : Int) (A3 : Option Addr) (n3 c3 : Nat) (xs1 xs2 : List Int) (w : World) (z12 z21 z23 z13 : Int) (s : Bool) (hs : ∀ x ∈ [n1, n2, n3], x ≤ 60) (hx1 : Rd w A1 (nums .i64 xs1)) (hx2 : Rd w A2 (nums .i64 xs2))
    (C12 : ∀ W, Calls Try.prog 15 #[.agg #[.int .u64 e1, .int .u64 r1, .slice A1 n1 c1], .agg #[.int .u64 e2, .int .u64 r2, .slice A2 n2 c2]] W fun e w' => e = .returned (.int .i64 z12) ∧ Below W.heap.size W w')
    (C21 : ∀ W, Calls Try.prog 15 #[.agg #[.int .u64 e2, .int .u64 r2, .slice A2 n2 c2], .agg #[.int .u64 e1, .int .u64 r1, .slice A1 n1 c1]] W fun e w' => e = .returned (.int .i64 z21) ∧ Below W.heap.size W w')
    (C23 : ∀ W, Calls Try.prog 15 #[.agg #[.int .u64 e2, .int .u64 r2, .slice A2 n2 c2], .agg #[.int .u64 e3, .int .u64 r3, .slice A3 n3 c3]] W fun e w' => e = .returned (.int .i64 z23) ∧ Below W.heap.size W w')
    (C13 : ∀ W, Calls Try.prog 15 #[.agg #[.int .u64 e1, .int .u64 r1, .slice A1 n1 c1], .agg #[.int .u64 e3, .int .u64 r3, .slice A3 n3 c3]] W fun e w' => e = .returned (.int .i64 z13) ∧ Below W.heap.size W w')
    (S11 : ∀ W, Rd W A1 (nums .i64 xs1) → Calls Try.prog 20 #[.agg #[.int .u64 e1, .int .u64 r1, .slice A1 n1 c1], .agg #[.int .u64 e1, .int .u64 r1, .slice A1 n1 c1]] W fun e w' => e = .returned (.bool true) ∧ Below W.heap.size W w')
    (S12 : ∀ W, Rd W A1 (nums .i64 xs1) → Rd W A2 (nums .i64 xs2) → Calls Try.prog 20 #[.agg #[.int .u64 e1, .int .u64 r1, .slice A1 n1 c1], .agg #[.int .u64 e2, .int .u64 r2, .slice A2 n2 c2]] W fun e w' => e = .returned (.bool s) ∧ Below W.heap.size W w')
    (S21 : ∀ W, Rd W A1 (nums .i64 xs1) → Rd W A2 (nums .i64 xs2) → Calls Try.prog 20 #[.agg #[.int .u64 e2, .int .u64 r2, .slice A2 n2 c2], .agg #[.int .u64 e1, .int .u64 r1, .slice A1 n1 c1]] W fun e w' => e = .returned (.bool s) ∧ Below W.heap.size W w')
    (hneg : IntKind.i64.wrap (-z21) = z12) (hc : (z12 == 0) = true ∧ (z12 != 0) = false ∧ (e1 == e2) = true ∧ (r1 == r2) = true ∧ s = false)
    (ht : z12 ≤ 0 → z23 ≤ 0 → z13 ≤ 0) :
    Calls Try.prog 8 #[.agg #[.int .u64 e1, .int .u64 r1, .slice A1 n1 c1], .agg #[.int .u64 e2, .int .u64 r2, .slice A2 n2 c2], .agg #[.int .u64 e3, .int .u64 r3, .slice A3 n3 c3]] w (Yes w) := by
  have HH := Lib.hid hs
  have HX1 := Lib.hid hx1
  have HX2 := Lib.hid hx2
  have HC12 := Lib.hid C12
  have HC21 := Lib.hid C21
  have HC23 := Lib.hid C23
  have HC13 := Lib.hid C13
  have HS11 := Lib.hid S11
  have HS12 := Lib.hid S12
  have HS21 := Lib.hid S21
  clear hs hx1 hx2 C12 C21 C23 C13 S11 S12 S21
  have hq : (0 : Int) < z12 ∨ (¬ (0 : Int) < z12 ∧ (0 : Int) < z23) ∨ (¬ (0 : Int) < z12 ∧ ¬ (0 : Int) < z23 ∧ z13 ≤ 0) := by omega
  have Q1 := Lib.hid hq
  clear ht hq
  obtain ⟨g1, g2, qe, qr, rfl⟩ := hc
  go_enter Try.func8, Try.ntmps8
  go_wp2_with (first
    | (go_at_call 9; refine (live4_any _).mono ?_; rintro e w1 ⟨rfl, hb1⟩; have hk1 := stsHeld_next (e1 := e1) (r1 := r1) (v1 := .slice A1 n1 c1) (e2 := e2) (r2 := r2) (v2 := .slice A2 n2 c2) (e3 := e3) (r3 := r3) (v3 := .slice A3 n3 c3) (w := w) ⟨bal (bal (bal brf _) _) _, by simp, by simp [go_sem], by simp [go_sem], by simp [go_sem], by simp [go_sem], by simp [go_sem], by simp [go_sem], by simp [go_sem], by simp [go_sem], by simp [go_sem]⟩ hb1; have HK1 := Lib.hid hk1; obtain ⟨h0, hl, a0, a1, a2, b0, b1, b2, d0, d1, d2⟩ := hk1; clear hb1)
    | (go_at_call 14; refine (short_any _ 3 _ [n1, n2, n3] _ rfl (stRow3 _ _ _ _ _ _ _ _ _ _ _ _ _ _ _ _ _) (by omega)).mono ?_; rintro e w2 ⟨he, hb2⟩; rw [decide_eq_true HH.out] at he; subst he; have hk2 := stsHeld_next HK1.out (bgo (bal brf _) hb2); clear h0 hl a0 a1 a2 b0 b1 b2 d0 d1 d2 hb2)
    | fail)
  clear HK1
  have hk2 : stsHeld w w2 e1 r1 (.slice A1 n1 c1) e2 r2 (.slice A2 n2 c2) e3 r3 (.slice A3 n3 c3) := hk2
  go_wp2_with fail
  have HBw := Lib.hid hk2.1
  have hS : ST9 w2.drew w.heap.size (w.heap.size + 1) (w.heap.size + 2) e1 r1 (.slice A1 n1 c1) e2 r2 (.slice A2 n2 c2) e3 r3 (.slice A3 n3 c3) := ⟨⟨hk2.2.2.1, hk2.2.2.2.1, hk2.2.2.2.2.1⟩, ⟨hk2.2.2.2.2.2.1, hk2.2.2.2.2.2.2.1, hk2.2.2.2.2.2.2.2.1⟩, hk2.2.2.2.2.2.2.2.2⟩
  have HBX := Lib.hid (bdr HBw.out)
  clear hk2
  go_region_held3 (fun x => ST9 x w.heap.size (w.heap.size + 1) (w.heap.size + 2) e1 r1 (.slice A1 n1 c1) e2 r2 (.slice A2 n2 c2) e3 r3 (.slice A3 n3 c3)) (with_reducible exact hS)
    (first
    | (go_at_call 15; go_must ((first | (with_reducible refine (HC12.out _).mono ?_) | (with_reducible refine (HC21.out _).mono ?_) | (with_reducible refine (HC23.out _).mono ?_) | (with_reducible refine (HC13.out _).mono ?_)); rintro e w' ⟨rfl, hb⟩; have hS := st9_below hS hb; have HBX := Lib.hid (bgo HBX.out hb); clear hb))
    | (go_at_call 20; go_must ((first | (with_reducible refine (HS11.out _ (HX1.out.below HBX.out)).mono ?_) | (with_reducible refine (HS12.out _ (HX1.out.below HBX.out) (HX2.out.below HBX.out)).mono ?_) | (with_reducible refine (HS21.out _ (HX1.out.below HBX.out) (HX2.out.below HBX.out)).mono ?_)); rintro e w' ⟨rfl, hb⟩; have hS := st9_below hS hb; have HBX := Lib.hid (bgo HBX.out hb); clear hb)))
  go_wp2_with fail
  have hS : ST9 w'.drew w.heap.size (w.heap.size + 1) (w.heap.size + 2) e1 r1 (.slice A1 n1 c1) e2 r2 (.slice A2 n2 c2) e3 r3 (.slice A3 n3 c3) := hS
  have HBX := Lib.hid (bdr HBX.out)
  refine wp_region_held_drew (S := fun x => ST9 x w.heap.size (w.heap.size + 1) (w.heap.size + 2) e1 r1 (.slice A1 n1 c1) e2 r2 (.slice A2 n2 c2) e3 r3 (.slice A3 n3 c3)) (by kernel_rfl) hS (fun hHeld => ?_)
  clear hHeld
  refine takeH (i := 0) (oi := ?oiu28) ?vu28 (by kernel_rfl) (by with_reducible exact hS) ?hiu28 ?hQu28 ?hyu28 ?_
  case hiu28 => simp only [List.getElem?_toArray, List.getElem?_cons_succ, List.getElem?_cons_zero]; rfl
  case hQu28 => exact fun _ _ _ h => h
  case hyu28 =>
    refine Or.inl ⟨by rfl, ?_⟩
    rintro W9 ⟨⟨a0, a1, a2⟩, ⟨b0, b1, b2⟩, d0, d1, d2⟩
    go_simp
    rfl
  try simp only [Act.put, List.setIfInBounds_toArray, List.set_cons_zero, List.set_cons_succ]
  refine takeH (i := 1) (oi := ?oiu29) ?vu29 (by kernel_rfl) (by with_reducible exact hS) ?hiu29 ?hQu29 ?hyu29 ?_
  case hiu29 => simp only [List.getElem?_toArray, List.getElem?_cons_succ, List.getElem?_cons_zero]; rfl
  case hQu29 => exact fun _ _ _ h => h
  case hyu29 =>
    refine Or.inl ⟨by rfl, ?_⟩
    rintro W9 ⟨⟨a0, a1, a2⟩, ⟨b0, b1, b2⟩, d0, d1, d2⟩
    go_simp
    rfl
  try simp only [Act.put, List.setIfInBounds_toArray, List.set_cons_zero, List.set_cons_succ]
  refine onlyH (i := 2) (oi := ?oiu30) (by kernel_rfl) ?hiu30 (fun K hK => ?_)
  case hiu30 => simp only [List.getElem?_toArray, List.getElem?_cons_succ, List.getElem?_cons_zero]; rfl
  go_simp
  refine (HS12.out _ (HX1.out.below HBX.out) (HX2.out.below HBX.out)).mono ?_
  rintro e w' ⟨rfl, hb⟩
  have hS := st9_below hS hb
  have HBX := Lib.hid (bgo HBX.out hb)
  clear hb
  go_wp2_with fail
  refine hK.out _ _ (by with_reducible exact hS) (fun hHeld => ?_)
  clear hK K hHeld
  try simp only [Act.put, List.setIfInBounds_toArray, List.set_cons_zero, List.set_cons_succ]
  refine takeH (i := 3) (oi := ?oiu31) ?vu31 (by kernel_rfl) (by with_reducible exact hS) ?hiu31 ?hQu31 ?hyu31 ?_
  case hiu31 => simp only [List.getElem?_toArray, List.getElem?_cons_succ, List.getElem?_cons_zero]; rfl
  case hQu31 => exact fun _ _ _ h => h
  case hyu31 =>
    refine Or.inl ⟨by rfl, ?_⟩
    rintro W9 ⟨⟨a0, a1, a2⟩, ⟨b0, b1, b2⟩, d0, d1, d2⟩
    go_simp
    rfl
  try simp only [Act.put, List.setIfInBounds_toArray, List.set_cons_zero, List.set_cons_succ]
  refine takeH (i := 4) (oi := ?oiu32) undef (by kernel_rfl) (by with_reducible exact hS) ?hiu32 ?hQu32 ?hyu32 ?_
  case hiu32 => simp only [List.getElem?_toArray, List.getElem?_cons_succ, List.getElem?_cons_zero]; rfl
  case hQu32 => exact fun _ _ _ h => h
  case hyu32 => exact Or.inr ⟨by rfl, rfl⟩
  try simp only [Act.put, List.setIfInBounds_toArray, List.set_cons_zero, List.set_cons_succ]
  refine takeH (i := 5) (oi := ?oiu33) undef (by kernel_rfl) (by with_reducible exact hS) ?hiu33 ?hQu33 ?hyu33 ?_
  case hiu33 => simp only [List.getElem?_toArray, List.getElem?_cons_succ, List.getElem?_cons_zero]; rfl
  case hQu33 => exact fun _ _ _ h => h
  case hyu33 => exact Or.inr ⟨by rfl, rfl⟩
  try simp only [Act.put, List.setIfInBounds_toArray, List.set_cons_zero, List.set_cons_succ]
  refine takeH (i := 6) (oi := ?oiu34) undef (by kernel_rfl) (by with_reducible exact hS) ?hiu34 ?hQu34 ?hyu34 ?_
  case hiu34 => simp only [List.getElem?_toArray, List.getElem?_cons_succ, List.getElem?_cons_zero]; rfl
  case hQu34 => exact fun _ _ _ h => h
  case hyu34 => exact Or.inr ⟨by rfl, rfl⟩
  try simp only [Act.put, List.setIfInBounds_toArray, List.set_cons_zero, List.set_cons_succ]
  refine takeH (i := 7) (oi := ?oiu35) undef (by kernel_rfl) (by with_reducible exact hS) ?hiu35 ?hQu35 ?hyu35 ?_
  case hiu35 => simp only [List.getElem?_toArray, List.getElem?_cons_succ, List.getElem?_cons_zero]; rfl
  case hQu35 => exact fun _ _ _ h => h
  case hyu35 => exact Or.inr ⟨by rfl, rfl⟩
  try simp only [Act.put, List.setIfInBounds_toArray, List.set_cons_zero, List.set_cons_succ]
  refine takeH (i := 8) (oi := ?oiu36) ?vu36 (by kernel_rfl) (by with_reducible exact hS) ?hiu36 ?hQu36 ?hyu36 ?_
  case hiu36 => simp only [List.getElem?_toArray, List.getElem?_cons_succ, List.getElem?_cons_zero]; rfl
  case hQu36 => exact fun _ _ _ h => h
  case hyu36 =>
    refine Or.inl ⟨by rfl, ?_⟩
    rintro W9 ⟨⟨a0, a1, a2⟩, ⟨b0, b1, b2⟩, d0, d1, d2⟩
    go_simp
    rfl
  try simp only [Act.put, List.setIfInBounds_toArray, List.set_cons_zero, List.set_cons_succ]
  refine takeH (i := 9) (oi := ?oiu37) ?vu37 (by kernel_rfl) (by with_reducible exact hS) ?hiu37 ?hQu37 ?hyu37 ?_
  case hiu37 => simp only [List.getElem?_toArray, List.getElem?_cons_succ, List.getElem?_cons_zero]; rfl
  case hQu37 => exact fun _ _ _ h => h
  case hyu37 =>
    refine Or.inl ⟨by rfl, ?_⟩
    rintro W9 ⟨⟨a0, a1, a2⟩, ⟨b0, b1, b2⟩, d0, d1, d2⟩
    go_simp
    rfl
  try simp only [Act.put, List.setIfInBounds_toArray, List.set_cons_zero, List.set_cons_succ]
  refine takeH (i := 10) (oi := ?oiu38) ?vu38 (by kernel_rfl) (by with_reducible exact hS) ?hiu38 ?hQu38 ?hyu38 ?_
  case hiu38 => simp only [List.getElem?_toArray, List.getElem?_cons_succ, List.getElem?_cons_zero]; rfl
  case hQu38 => exact fun _ _ _ h => h
  case hyu38 =>
    refine Or.inl ⟨by rfl, ?_⟩
    rintro W9 ⟨⟨a0, a1, a2⟩, ⟨b0, b1, b2⟩, d0, d1, d2⟩
    go_simp
    rfl
  try simp only [Act.put, List.setIfInBounds_toArray, List.set_cons_zero, List.set_cons_succ]
  refine takeH (i := 11) (oi := ?oiu39) ?vu39 (by kernel_rfl) (by with_reducible exact hS) ?hiu39 ?hQu39 ?hyu39 ?_
  case hiu39 => simp only [List.getElem?_toArray, List.getElem?_cons_succ, List.getElem?_cons_zero]; rfl
  case hQu39 => exact fun _ _ _ h => h
  case hyu39 =>
    refine Or.inl ⟨by rfl, ?_⟩
    rintro W9 ⟨⟨a0, a1, a2⟩, ⟨b0, b1, b2⟩, d0, d1, d2⟩
    go_simp
    rfl
  try simp only [Act.put, List.setIfInBounds_toArray, List.set_cons_zero, List.set_cons_succ]
  refine onlyH (i := 12) (oi := ?oiu40) (by kernel_rfl) ?hiu40 (fun K hK => ?_)
  case hiu40 => simp only [List.getElem?_toArray, List.getElem?_cons_succ, List.getElem?_cons_zero]; rfl
  go_simp
  refine (HS11.out _ (HX1.out.below HBX.out)).mono ?_
  rintro e w' ⟨rfl, hb⟩
  have hS := st9_below hS hb
  have HBX := Lib.hid (bgo HBX.out hb)
  clear hb
  go_wp2_with fail
  refine hK.out _ _ (by with_reducible exact hS) (fun hHeld => ?_)
  clear hK K hHeld
  try simp only [Act.put, List.setIfInBounds_toArray, List.set_cons_zero, List.set_cons_succ]
  refine takeH (i := 13) (oi := ?oiu41) ?vu41 (by kernel_rfl) (by with_reducible exact hS) ?hiu41 ?hQu41 ?hyu41 ?_
  case hiu41 => simp only [List.getElem?_toArray, List.getElem?_cons_succ, List.getElem?_cons_zero]; rfl
  case hQu41 => exact fun _ _ _ h => h
  case hyu41 =>
    refine Or.inl ⟨by rfl, ?_⟩
    rintro W9 ⟨⟨a0, a1, a2⟩, ⟨b0, b1, b2⟩, d0, d1, d2⟩
    go_simp
    rfl
  try simp only [Act.put, List.setIfInBounds_toArray, List.set_cons_zero, List.set_cons_succ]
  refine takeH (i := 14) (oi := ?oiu42) ?vu42 (by kernel_rfl) (by with_reducible exact hS) ?hiu42 ?hQu42 ?hyu42 ?_
  case hiu42 => simp only [List.getElem?_toArray, List.getElem?_cons_succ, List.getElem?_cons_zero]; rfl
  case hQu42 => exact fun _ _ _ h => h
  case hyu42 =>
    refine Or.inl ⟨by rfl, ?_⟩
    rintro W9 ⟨⟨a0, a1, a2⟩, ⟨b0, b1, b2⟩, d0, d1, d2⟩
    go_simp
    rfl
  try simp only [Act.put, List.setIfInBounds_toArray, List.set_cons_zero, List.set_cons_succ]
  refine takeH (i := 15) (oi := ?oiu43) ?vu43 (by kernel_rfl) (by with_reducible exact hS) ?hiu43 ?hQu43 ?hyu43 ?_
  case hiu43 => simp only [List.getElem?_toArray, List.getElem?_cons_succ, List.getElem?_cons_zero]; rfl
  case hQu43 => exact fun _ _ _ h => h
  case hyu43 =>
    refine Or.inl ⟨by rfl, ?_⟩
    rintro W9 ⟨⟨a0, a1, a2⟩, ⟨b0, b1, b2⟩, d0, d1, d2⟩
    go_simp
    rfl
  try simp only [Act.put, List.setIfInBounds_toArray, List.set_cons_zero, List.set_cons_succ]
  refine takeH (i := 16) (oi := ?oiu44) ?vu44 (by kernel_rfl) (by with_reducible exact hS) ?hiu44 ?hQu44 ?hyu44 ?_
  case hiu44 => simp only [List.getElem?_toArray, List.getElem?_cons_succ, List.getElem?_cons_zero]; rfl
  case hQu44 => exact fun _ _ _ h => h
  case hyu44 =>
    refine Or.inl ⟨by rfl, ?_⟩
    rintro W9 ⟨⟨a0, a1, a2⟩, ⟨b0, b1, b2⟩, d0, d1, d2⟩
    go_simp
    rfl
  try simp only [Act.put, List.setIfInBounds_toArray, List.set_cons_zero, List.set_cons_succ]
  refine takeH (i := 17) (oi := ?oiu45) ?vu45 (by kernel_rfl) (by with_reducible exact hS) ?hiu45 ?hQu45 ?hyu45 ?_
  case hiu45 => simp only [List.getElem?_toArray, List.getElem?_cons_succ, List.getElem?_cons_zero]; rfl
  case hQu45 => exact fun _ _ _ h => h
  case hyu45 =>
    refine Or.inl ⟨by rfl, ?_⟩
    rintro W9 ⟨⟨a0, a1, a2⟩, ⟨b0, b1, b2⟩, d0, d1, d2⟩
    go_simp
    rfl
  try simp only [Act.put, List.setIfInBounds_toArray, List.set_cons_zero, List.set_cons_succ]
  refine takeH (i := 19) (oi := ?oiu46) ?vu46 (by kernel_rfl) (by with_reducible exact hS) ?hiu46 ?hQu46 ?hyu46 ?_
  case hiu46 => simp only [List.getElem?_toArray, List.getElem?_cons_succ, List.getElem?_cons_zero]; rfl
  case hQu46 => exact fun _ _ _ h => h
  case hyu46 =>
    refine Or.inl ⟨by rfl, ?_⟩
    rintro W9 ⟨⟨a0, a1, a2⟩, ⟨b0, b1, b2⟩, d0, d1, d2⟩
    go_simp
    rfl
  try simp only [Act.put, List.setIfInBounds_toArray, List.set_cons_zero, List.set_cons_succ]
  refine takeH (i := 20) (oi := ?oiu47) ?vu47 (by kernel_rfl) (by with_reducible exact hS) ?hiu47 ?hQu47 ?hyu47 ?_
  case hiu47 => simp only [List.getElem?_toArray, List.getElem?_cons_succ, List.getElem?_cons_zero]; rfl
  case hQu47 => exact fun _ _ _ h => h
  case hyu47 =>
    refine Or.inl ⟨by rfl, ?_⟩
    rintro W9 ⟨⟨a0, a1, a2⟩, ⟨b0, b1, b2⟩, d0, d1, d2⟩
    go_simp
    rfl
  try simp only [Act.put, List.setIfInBounds_toArray, List.set_cons_zero, List.set_cons_succ]
  refine onlyH (i := 18) (oi := ?oiu48) (by kernel_rfl) ?hiu48 (fun K hK => ?_)
  case hiu48 => simp only [List.getElem?_toArray, List.getElem?_cons_succ, List.getElem?_cons_zero]; rfl
  go_simp
  refine (HS12.out _ (HX1.out.below HBX.out) (HX2.out.below HBX.out)).mono ?_
  rintro e w' ⟨rfl, hb⟩
  have hS := st9_below hS hb
  have HBX := Lib.hid (bgo HBX.out hb)
  clear hb
  go_wp2_with fail
  refine hK.out _ _ (by with_reducible exact hS) (fun hHeld => ?_)
  clear hK K hHeld
  try simp only [Act.put, List.setIfInBounds_toArray, List.set_cons_zero, List.set_cons_succ]
  refine onlyH (i := 21) (oi := ?oiu49) (by kernel_rfl) ?hiu49 (fun K hK => ?_)
  case hiu49 => simp only [List.getElem?_toArray, List.getElem?_cons_succ, List.getElem?_cons_zero]; rfl
  go_simp
  refine (HS21.out _ (HX1.out.below HBX.out) (HX2.out.below HBX.out)).mono ?_
  rintro e w' ⟨rfl, hb⟩
  have hS := st9_below hS hb
  have HBX := Lib.hid (bgo HBX.out hb)
  clear hb
  go_wp2_with fail
  refine hK.out _ _ (by with_reducible exact hS) (fun hHeld => ?_)
  clear hK K hHeld
  try simp only [Act.put, List.setIfInBounds_toArray, List.set_cons_zero, List.set_cons_succ]
  refine takeH (i := 22) (oi := ?oiu50) ?vu50 (by kernel_rfl) (by with_reducible exact hS) ?hiu50 ?hQu50 ?hyu50 ?_
  case hiu50 => simp only [List.getElem?_toArray, List.getElem?_cons_succ, List.getElem?_cons_zero]; rfl
  case hQu50 => exact fun _ _ _ h => h
  case hyu50 =>
    refine Or.inl ⟨by rfl, ?_⟩
    rintro W9 ⟨⟨a0, a1, a2⟩, ⟨b0, b1, b2⟩, d0, d1, d2⟩
    go_simp
    rfl
  try simp only [Act.put, List.setIfInBounds_toArray, List.set_cons_zero, List.set_cons_succ]
  refine takeH (i := 23) (oi := ?oiu51) ?vu51 (by kernel_rfl) (by with_reducible exact hS) ?hiu51 ?hQu51 ?hyu51 ?_
  case hiu51 => simp only [List.getElem?_toArray, List.getElem?_cons_succ, List.getElem?_cons_zero]; rfl
  case hQu51 => exact fun _ _ _ h => h
  case hyu51 =>
    refine Or.inl ⟨by rfl, ?_⟩
    rintro W9 ⟨⟨a0, a1, a2⟩, ⟨b0, b1, b2⟩, d0, d1, d2⟩
    go_simp
    rfl
  try simp only [Act.put, List.setIfInBounds_toArray, List.set_cons_zero, List.set_cons_succ]
  refine wpAnyH_done (by kernel_rfl) ?_ _
  have HS9 := Lib.hid hS
  obtain ⟨⟨a0, a1, a2⟩, ⟨b0, b1, b2⟩, d0, d1, d2⟩ := hS
  have hS := HS9.out
  clear HS9
  rcases Q1.out with q1 | ⟨q1, q2⟩ | ⟨q1, q2, q3⟩
  all_goals
    go_wp2_with ((go_at_call 15; go_must ((first | (with_reducible refine (HC12.out _).mono ?_) | (with_reducible refine (HC21.out _).mono ?_) | (with_reducible refine (HC23.out _).mono ?_) | (with_reducible refine (HC13.out _).mono ?_)); rintro e w' ⟨rfl, hb⟩; have hS := st9_below hS hb; obtain ⟨⟨a0, a1, a2⟩, ⟨b0, b1, b2⟩, d0, d1, d2⟩ := hS; have hS : ST9 w' w.heap.size (w.heap.size + 1) (w.heap.size + 2) e1 r1 (.slice A1 n1 c1) e2 r2 (.slice A2 n2 c2) e3 r3 (.slice A3 n3 c3) := ⟨⟨a0, a1, a2⟩, ⟨b0, b1, b2⟩, d0, d1, d2⟩; have HBX := Lib.hid (bgo HBX.out hb); clear hb)))
    go_ret
    exact ⟨by simp, HBX.out⟩

set_option maxHeartbeats 8000000 in
theorem order_3 (e1 r1 : Int) (A1 : Option Addr) (n1 c1 : Nat) (e2 r2 : Int) (A2 : Option Addr) (n2 c2 : Nat) (e3 r3 : Int) (A3 : Option Addr) (n3 c3 : Nat) (xs1 xs2 : List Int) (w : World) (z12 z21 z23 z13 : Int) (s : Bool) (hs : ∀ x ∈ [n1, n2, n3], x ≤ 60) (hx1 : Rd w A1 (nums .i64 xs1)) (hx2 : Rd w A2 (nums .i64 xs2))
    (C12 : ∀ W, Calls Try.prog 15 #[.agg #[.int .u64 e1, .int .u64 r1, .slice A1 n1 c1], .agg #[.int .u64 e2, .int .u64 r2, .slice A2 n2 c2]] W fun e w' => e = .returned (.int .i64 z12) ∧ Below W.heap.size W w')
    (C21 : ∀ W, Calls Try.prog 15 #[.agg #[.int .u64 e2, .int .u64 r2, .slice A2 n2 c2], .agg #[.int .u64 e1, .int .u64 r1, .slice A1 n1 c1]] W fun e w' => e = .returned (.int .i64 z21) ∧ Below W.heap.size W w')
    (C23 : ∀ W, Calls Try.prog 15 #[.agg #[.int .u64 e2, .int .u64 r2, .slice A2 n2 c2], .agg #[.int .u64 e3, .int .u64 r3, .slice A3 n3 c3]] W fun e w' => e = .returned (.int .i64 z23) ∧ Below W.heap.size W w')
    (C13 : ∀ W, Calls Try.prog 15 #[.agg #[.int .u64 e1, .int .u64 r1, .slice A1 n1 c1], .agg #[.int .u64 e3, .int .u64 r3, .slice A3 n3 c3]] W fun e w' => e = .returned (.int .i64 z13) ∧ Below W.heap.size W w')
    (S11 : ∀ W, Rd W A1 (nums .i64 xs1) → Calls Try.prog 20 #[.agg #[.int .u64 e1, .int .u64 r1, .slice A1 n1 c1], .agg #[.int .u64 e1, .int .u64 r1, .slice A1 n1 c1]] W fun e w' => e = .returned (.bool true) ∧ Below W.heap.size W w')
    (S12 : ∀ W, Rd W A1 (nums .i64 xs1) → Rd W A2 (nums .i64 xs2) → Calls Try.prog 20 #[.agg #[.int .u64 e1, .int .u64 r1, .slice A1 n1 c1], .agg #[.int .u64 e2, .int .u64 r2, .slice A2 n2 c2]] W fun e w' => e = .returned (.bool s) ∧ Below W.heap.size W w')
    (S21 : ∀ W, Rd W A1 (nums .i64 xs1) → Rd W A2 (nums .i64 xs2) → Calls Try.prog 20 #[.agg #[.int .u64 e2, .int .u64 r2, .slice A2 n2 c2], .agg #[.int .u64 e1, .int .u64 r1, .slice A1 n1 c1]] W fun e w' => e = .returned (.bool s) ∧ Below W.heap.size W w')
    (hneg : IntKind.i64.wrap (-z21) = z12) (hc : (z12 == 0) = false ∧ (z12 != 0) = true ∧ (e1 == e2) = false ∧ s = false)
    (ht : z12 ≤ 0 → z23 ≤ 0 → z13 ≤ 0) :
    Calls Try.prog 8 #[.agg #[.int .u64 e1, .int .u64 r1, .slice A1 n1 c1], .agg #[.int .u64 e2, .int .u64 r2, .slice A2 n2 c2], .agg #[.int .u64 e3, .int .u64 r3, .slice A3 n3 c3]] w (Yes w) := by
  have HH := Lib.hid hs
  have HX1 := Lib.hid hx1
  have HX2 := Lib.hid hx2
  have HC12 := Lib.hid C12
  have HC21 := Lib.hid C21
  have HC23 := Lib.hid C23
  have HC13 := Lib.hid C13
  have HS11 := Lib.hid S11
  have HS12 := Lib.hid S12
  have HS21 := Lib.hid S21
  clear hs hx1 hx2 C12 C21 C23 C13 S11 S12 S21
  have hq : (0 : Int) < z12 ∨ (¬ (0 : Int) < z12 ∧ (0 : Int) < z23) ∨ (¬ (0 : Int) < z12 ∧ ¬ (0 : Int) < z23 ∧ z13 ≤ 0) := by omega
  have Q1 := Lib.hid hq
  clear ht hq
  obtain ⟨g1, g2, qe, rfl⟩ := hc
  go_enter Try.func8, Try.ntmps8
  go_wp2_with (first
    | (go_at_call 9; refine (live4_any _).mono ?_; rintro e w1 ⟨rfl, hb1⟩; have hk1 := stsHeld_next (e1 := e1) (r1 := r1) (v1 := .slice A1 n1 c1) (e2 := e2) (r2 := r2) (v2 := .slice A2 n2 c2) (e3 := e3) (r3 := r3) (v3 := .slice A3 n3 c3) (w := w) ⟨bal (bal (bal brf _) _) _, by simp, by simp [go_sem], by simp [go_sem], by simp [go_sem], by simp [go_sem], by simp [go_sem], by simp [go_sem], by simp [go_sem], by simp [go_sem], by simp [go_sem]⟩ hb1; have HK1 := Lib.hid hk1; obtain ⟨h0, hl, a0, a1, a2, b0, b1, b2, d0, d1, d2⟩ := hk1; clear hb1)
    | (go_at_call 14; refine (short_any _ 3 _ [n1, n2, n3] _ rfl (stRow3 _ _ _ _ _ _ _ _ _ _ _ _ _ _ _ _ _) (by omega)).mono ?_; rintro e w2 ⟨he, hb2⟩; rw [decide_eq_true HH.out] at he; subst he; have hk2 := stsHeld_next HK1.out (bgo (bal brf _) hb2); clear h0 hl a0 a1 a2 b0 b1 b2 d0 d1 d2 hb2)
    | fail)
  clear HK1
  have hk2 : stsHeld w w2 e1 r1 (.slice A1 n1 c1) e2 r2 (.slice A2 n2 c2) e3 r3 (.slice A3 n3 c3) := hk2
  go_wp2_with fail
  have HBw := Lib.hid hk2.1
  have hS : ST9 w2.drew w.heap.size (w.heap.size + 1) (w.heap.size + 2) e1 r1 (.slice A1 n1 c1) e2 r2 (.slice A2 n2 c2) e3 r3 (.slice A3 n3 c3) := ⟨⟨hk2.2.2.1, hk2.2.2.2.1, hk2.2.2.2.2.1⟩, ⟨hk2.2.2.2.2.2.1, hk2.2.2.2.2.2.2.1, hk2.2.2.2.2.2.2.2.1⟩, hk2.2.2.2.2.2.2.2.2⟩
  have HBX := Lib.hid (bdr HBw.out)
  clear hk2
  refine wp_region_held_drew (S := fun x => ST9 x w.heap.size (w.heap.size + 1) (w.heap.size + 2) e1 r1 (.slice A1 n1 c1) e2 r2 (.slice A2 n2 c2) e3 r3 (.slice A3 n3 c3)) (by kernel_rfl) hS (fun hHeld => ?_)
  clear hHeld
  refine takeH (i := 0) (oi := ?oiu1) ?vu1 (by kernel_rfl) (by with_reducible exact hS) ?hiu1 ?hQu1 ?hyu1 ?_
  case hiu1 => simp only [List.getElem?_toArray, List.getElem?_cons_succ, List.getElem?_cons_zero]; rfl
  case hQu1 => exact fun _ _ _ h => h
  case hyu1 =>
    refine Or.inl ⟨by rfl, ?_⟩
    rintro W9 ⟨⟨a0, a1, a2⟩, ⟨b0, b1, b2⟩, d0, d1, d2⟩
    go_simp
    rfl
  try simp only [Act.put, List.setIfInBounds_toArray, List.set_cons_zero, List.set_cons_succ]
  refine takeH (i := 1) (oi := ?oiu2) ?vu2 (by kernel_rfl) (by with_reducible exact hS) ?hiu2 ?hQu2 ?hyu2 ?_
  case hiu2 => simp only [List.getElem?_toArray, List.getElem?_cons_succ, List.getElem?_cons_zero]; rfl
  case hQu2 => exact fun _ _ _ h => h
  case hyu2 =>
    refine Or.inl ⟨by rfl, ?_⟩
    rintro W9 ⟨⟨a0, a1, a2⟩, ⟨b0, b1, b2⟩, d0, d1, d2⟩
    go_simp
    rfl
  try simp only [Act.put, List.setIfInBounds_toArray, List.set_cons_zero, List.set_cons_succ]
  refine takeH (i := 3) (oi := ?oiu3) ?vu3 (by kernel_rfl) (by with_reducible exact hS) ?hiu3 ?hQu3 ?hyu3 ?_
  case hiu3 => simp only [List.getElem?_toArray, List.getElem?_cons_succ, List.getElem?_cons_zero]; rfl
  case hQu3 => exact fun _ _ _ h => h
  case hyu3 =>
    refine Or.inl ⟨by rfl, ?_⟩
    rintro W9 ⟨⟨a0, a1, a2⟩, ⟨b0, b1, b2⟩, d0, d1, d2⟩
    go_simp
    rfl
  try simp only [Act.put, List.setIfInBounds_toArray, List.set_cons_zero, List.set_cons_succ]
  refine takeH (i := 4) (oi := ?oiu4) ?vu4 (by kernel_rfl) (by with_reducible exact hS) ?hiu4 ?hQu4 ?hyu4 ?_
  case hiu4 => simp only [List.getElem?_toArray, List.getElem?_cons_succ, List.getElem?_cons_zero]; rfl
  case hQu4 => exact fun _ _ _ h => h
  case hyu4 =>
    refine Or.inl ⟨by rfl, ?_⟩
    rintro W9 ⟨⟨a0, a1, a2⟩, ⟨b0, b1, b2⟩, d0, d1, d2⟩
    go_simp
    rfl
  try simp only [Act.put, List.setIfInBounds_toArray, List.set_cons_zero, List.set_cons_succ]
  refine onlyH (i := 2) (oi := ?oiu5) (by kernel_rfl) ?hiu5 (fun K hK => ?_)
  case hiu5 => simp only [List.getElem?_toArray, List.getElem?_cons_succ, List.getElem?_cons_zero]; rfl
  go_simp
  refine (HC12.out _).mono ?_
  rintro e w' ⟨rfl, hb⟩
  have hS := st9_below hS hb
  have HBX := Lib.hid (bgo HBX.out hb)
  clear hb
  go_wp2_with fail
  refine hK.out _ _ (by with_reducible exact hS) (fun hHeld => ?_)
  clear hK K hHeld
  try simp only [Act.put, List.setIfInBounds_toArray, List.set_cons_zero, List.set_cons_succ]
  refine onlyH (i := 5) (oi := ?oiu6) (by kernel_rfl) ?hiu6 (fun K hK => ?_)
  case hiu6 => simp only [List.getElem?_toArray, List.getElem?_cons_succ, List.getElem?_cons_zero]; rfl
  go_simp
  refine (HC21.out _).mono ?_
  rintro e w' ⟨rfl, hb⟩
  have hS := st9_below hS hb
  have HBX := Lib.hid (bgo HBX.out hb)
  clear hb
  go_wp2_with fail
  refine hK.out _ _ (by with_reducible exact hS) (fun hHeld => ?_)
  clear hK K hHeld
  try simp only [Act.put, List.setIfInBounds_toArray, List.set_cons_zero, List.set_cons_succ]
  refine takeH (i := 6) (oi := ?oiu7) ?vu7 (by kernel_rfl) (by with_reducible exact hS) ?hiu7 ?hQu7 ?hyu7 ?_
  case hiu7 => simp only [List.getElem?_toArray, List.getElem?_cons_succ, List.getElem?_cons_zero]; rfl
  case hQu7 => exact fun _ _ _ h => h
  case hyu7 =>
    refine Or.inl ⟨by rfl, ?_⟩
    rintro W9 ⟨⟨a0, a1, a2⟩, ⟨b0, b1, b2⟩, d0, d1, d2⟩
    go_simp
    rfl
  try simp only [Act.put, List.setIfInBounds_toArray, List.set_cons_zero, List.set_cons_succ]
  refine takeH (i := 7) (oi := ?oiu8) ?vu8 (by kernel_rfl) (by with_reducible exact hS) ?hiu8 ?hQu8 ?hyu8 ?_
  case hiu8 => simp only [List.getElem?_toArray, List.getElem?_cons_succ, List.getElem?_cons_zero]; rfl
  case hQu8 => exact fun _ _ _ h => h
  case hyu8 =>
    refine Or.inl ⟨by rfl, ?_⟩
    rintro W9 ⟨⟨a0, a1, a2⟩, ⟨b0, b1, b2⟩, d0, d1, d2⟩
    go_simp
    rfl
  try simp only [Act.put, List.setIfInBounds_toArray, List.set_cons_zero, List.set_cons_succ]
  refine takeH (i := 8) (oi := ?oiu9) ?vu9 (by kernel_rfl) (by with_reducible exact hS) ?hiu9 ?hQu9 ?hyu9 ?_
  case hiu9 => simp only [List.getElem?_toArray, List.getElem?_cons_succ, List.getElem?_cons_zero]; rfl
  case hQu9 => exact fun _ _ _ h => h
  case hyu9 =>
    refine Or.inl ⟨by rfl, ?_⟩
    rintro W9 ⟨⟨a0, a1, a2⟩, ⟨b0, b1, b2⟩, d0, d1, d2⟩
    go_simp
    rfl
  try simp only [Act.put, List.setIfInBounds_toArray, List.set_cons_zero, List.set_cons_succ]
  refine takeH (i := 9) (oi := ?oiu10) ?vu10 (by kernel_rfl) (by with_reducible exact hS) ?hiu10 ?hQu10 ?hyu10 ?_
  case hiu10 => simp only [List.getElem?_toArray, List.getElem?_cons_succ, List.getElem?_cons_zero]; rfl
  case hQu10 => exact fun _ _ _ h => h
  case hyu10 =>
    refine Or.inl ⟨by rfl, ?_⟩
    rintro W9 ⟨⟨a0, a1, a2⟩, ⟨b0, b1, b2⟩, d0, d1, d2⟩
    go_simp
    rfl
  try simp only [Act.put, List.setIfInBounds_toArray, List.set_cons_zero, List.set_cons_succ]
  refine takeH (i := 10) (oi := ?oiu11) ?vu11 (by kernel_rfl) (by with_reducible exact hS) ?hiu11 ?hQu11 ?hyu11 ?_
  case hiu11 => simp only [List.getElem?_toArray, List.getElem?_cons_succ, List.getElem?_cons_zero]; rfl
  case hQu11 => exact fun _ _ _ h => h
  case hyu11 =>
    refine Or.inl ⟨by rfl, ?_⟩
    rintro W9 ⟨⟨a0, a1, a2⟩, ⟨b0, b1, b2⟩, d0, d1, d2⟩
    go_simp
    rfl
  try simp only [Act.put, List.setIfInBounds_toArray, List.set_cons_zero, List.set_cons_succ]
  refine takeH (i := 13) (oi := ?oiu12) ?vu12 (by kernel_rfl) (by with_reducible exact hS) ?hiu12 ?hQu12 ?hyu12 ?_
  case hiu12 => simp only [List.getElem?_toArray, List.getElem?_cons_succ, List.getElem?_cons_zero]; rfl
  case hQu12 => exact fun _ _ _ h => h
  case hyu12 =>
    refine Or.inl ⟨by rfl, ?_⟩
    rintro W9 ⟨⟨a0, a1, a2⟩, ⟨b0, b1, b2⟩, d0, d1, d2⟩
    go_simp
    rfl
  try simp only [Act.put, List.setIfInBounds_toArray, List.set_cons_zero, List.set_cons_succ]
  refine takeH (i := 14) (oi := ?oiu13) ?vu13 (by kernel_rfl) (by with_reducible exact hS) ?hiu13 ?hQu13 ?hyu13 ?_
  case hiu13 => simp only [List.getElem?_toArray, List.getElem?_cons_succ, List.getElem?_cons_zero]; rfl
  case hQu13 => exact fun _ _ _ h => h
  case hyu13 =>
    refine Or.inl ⟨by rfl, ?_⟩
    rintro W9 ⟨⟨a0, a1, a2⟩, ⟨b0, b1, b2⟩, d0, d1, d2⟩
    go_simp
    rfl
  try simp only [Act.put, List.setIfInBounds_toArray, List.set_cons_zero, List.set_cons_succ]
  refine takeH (i := 15) (oi := ?oiu14) ?vu14 (by kernel_rfl) (by with_reducible exact hS) ?hiu14 ?hQu14 ?hyu14 ?_
  case hiu14 => simp only [List.getElem?_toArray, List.getElem?_cons_succ, List.getElem?_cons_zero]; rfl
  case hQu14 => exact fun _ _ _ h => h
  case hyu14 =>
    refine Or.inl ⟨by rfl, ?_⟩
    rintro W9 ⟨⟨a0, a1, a2⟩, ⟨b0, b1, b2⟩, d0, d1, d2⟩
    go_simp
    rfl
  try simp only [Act.put, List.setIfInBounds_toArray, List.set_cons_zero, List.set_cons_succ]
  refine takeH (i := 16) (oi := ?oiu15) ?vu15 (by kernel_rfl) (by with_reducible exact hS) ?hiu15 ?hQu15 ?hyu15 ?_
  case hiu15 => simp only [List.getElem?_toArray, List.getElem?_cons_succ, List.getElem?_cons_zero]; rfl
  case hQu15 => exact fun _ _ _ h => h
  case hyu15 =>
    refine Or.inl ⟨by rfl, ?_⟩
    rintro W9 ⟨⟨a0, a1, a2⟩, ⟨b0, b1, b2⟩, d0, d1, d2⟩
    go_simp
    rfl
  try simp only [Act.put, List.setIfInBounds_toArray, List.set_cons_zero, List.set_cons_succ]
  refine takeH (i := 17) (oi := ?oiu16) ?vu16 (by kernel_rfl) (by with_reducible exact hS) ?hiu16 ?hQu16 ?hyu16 ?_
  case hiu16 => simp only [List.getElem?_toArray, List.getElem?_cons_succ, List.getElem?_cons_zero]; rfl
  case hQu16 => exact fun _ _ _ h => h
  case hyu16 =>
    refine Or.inl ⟨by rfl, ?_⟩
    rintro W9 ⟨⟨a0, a1, a2⟩, ⟨b0, b1, b2⟩, d0, d1, d2⟩
    go_simp
    rfl
  try simp only [Act.put, List.setIfInBounds_toArray, List.set_cons_zero, List.set_cons_succ]
  refine onlyH (i := 11) (oi := ?oiu17) (by kernel_rfl) ?hiu17 (fun K hK => ?_)
  case hiu17 => simp only [List.getElem?_toArray, List.getElem?_cons_succ, List.getElem?_cons_zero]; rfl
  go_simp
  refine (HC12.out _).mono ?_
  rintro e w' ⟨rfl, hb⟩
  have hS := st9_below hS hb
  have HBX := Lib.hid (bgo HBX.out hb)
  clear hb
  go_wp2_with fail
  refine hK.out _ _ (by with_reducible exact hS) (fun hHeld => ?_)
  clear hK K hHeld
  try simp only [Act.put, List.setIfInBounds_toArray, List.set_cons_zero, List.set_cons_succ]
  refine takeH (i := 12) (oi := ?oiu18) ?vu18 (by kernel_rfl) (by with_reducible exact hS) ?hiu18 ?hQu18 ?hyu18 ?_
  case hiu18 => simp only [List.getElem?_toArray, List.getElem?_cons_succ, List.getElem?_cons_zero]; rfl
  case hQu18 => exact fun _ _ _ h => h
  case hyu18 =>
    refine Or.inl ⟨by rfl, ?_⟩
    rintro W9 ⟨⟨a0, a1, a2⟩, ⟨b0, b1, b2⟩, d0, d1, d2⟩
    go_simp
    rfl
  try simp only [Act.put, List.setIfInBounds_toArray, List.set_cons_zero, List.set_cons_succ]
  refine takeH (i := 18) (oi := ?oiu19) ?vu19 (by kernel_rfl) (by with_reducible exact hS) ?hiu19 ?hQu19 ?hyu19 ?_
  case hiu19 => simp only [List.getElem?_toArray, List.getElem?_cons_succ, List.getElem?_cons_zero]; rfl
  case hQu19 => exact fun _ _ _ h => h
  case hyu19 =>
    refine Or.inl ⟨by rfl, ?_⟩
    rintro W9 ⟨⟨a0, a1, a2⟩, ⟨b0, b1, b2⟩, d0, d1, d2⟩
    go_simp
    rfl
  try simp only [Act.put, List.setIfInBounds_toArray, List.set_cons_zero, List.set_cons_succ]
  refine takeH (i := 19) (oi := ?oiu20) undef (by kernel_rfl) (by with_reducible exact hS) ?hiu20 ?hQu20 ?hyu20 ?_
  case hiu20 => simp only [List.getElem?_toArray, List.getElem?_cons_succ, List.getElem?_cons_zero]; rfl
  case hQu20 => exact fun _ _ _ h => h
  case hyu20 => exact Or.inr ⟨by rfl, rfl⟩
  try simp only [Act.put, List.setIfInBounds_toArray, List.set_cons_zero, List.set_cons_succ]
  refine takeH (i := 20) (oi := ?oiu21) undef (by kernel_rfl) (by with_reducible exact hS) ?hiu21 ?hQu21 ?hyu21 ?_
  case hiu21 => simp only [List.getElem?_toArray, List.getElem?_cons_succ, List.getElem?_cons_zero]; rfl
  case hQu21 => exact fun _ _ _ h => h
  case hyu21 => exact Or.inr ⟨by rfl, rfl⟩
  try simp only [Act.put, List.setIfInBounds_toArray, List.set_cons_zero, List.set_cons_succ]
  refine takeH (i := 21) (oi := ?oiu22) undef (by kernel_rfl) (by with_reducible exact hS) ?hiu22 ?hQu22 ?hyu22 ?_
  case hiu22 => simp only [List.getElem?_toArray, List.getElem?_cons_succ, List.getElem?_cons_zero]; rfl
  case hQu22 => exact fun _ _ _ h => h
  case hyu22 => exact Or.inr ⟨by rfl, rfl⟩
  try simp only [Act.put, List.setIfInBounds_toArray, List.set_cons_zero, List.set_cons_succ]
  refine takeH (i := 22) (oi := ?oiu23) undef (by kernel_rfl) (by with_reducible exact hS) ?hiu23 ?hQu23 ?hyu23 ?_
  case hiu23 => simp only [List.getElem?_toArray, List.getElem?_cons_succ, List.getElem?_cons_zero]; rfl
  case hQu23 => exact fun _ _ _ h => h
  case hyu23 => exact Or.inr ⟨by rfl, rfl⟩
  try simp only [Act.put, List.setIfInBounds_toArray, List.set_cons_zero, List.set_cons_succ]
  refine takeH (i := 23) (oi := ?oiu24) undef (by kernel_rfl) (by with_reducible exact hS) ?hiu24 ?hQu24 ?hyu24 ?_
  case hiu24 => simp only [List.getElem?_toArray, List.getElem?_cons_succ, List.getElem?_cons_zero]; rfl
  case hQu24 => exact fun _ _ _ h => h
  case hyu24 => exact Or.inr ⟨by rfl, rfl⟩
  try simp only [Act.put, List.setIfInBounds_toArray, List.set_cons_zero, List.set_cons_succ]
  refine takeH (i := 24) (oi := ?oiu25) ?vu25 (by kernel_rfl) (by with_reducible exact hS) ?hiu25 ?hQu25 ?hyu25 ?_
  case hiu25 => simp only [List.getElem?_toArray, List.getElem?_cons_succ, List.getElem?_cons_zero]; rfl
  case hQu25 => exact fun _ _ _ h => h
  case hyu25 =>
    refine Or.inl ⟨by rfl, ?_⟩
    rintro W9 ⟨⟨a0, a1, a2⟩, ⟨b0, b1, b2⟩, d0, d1, d2⟩
    go_simp
    rfl
  try simp only [Act.put, List.setIfInBounds_toArray, List.set_cons_zero, List.set_cons_succ]
  refine takeH (i := 25) (oi := ?oiu26) ?vu26 (by kernel_rfl) (by with_reducible exact hS) ?hiu26 ?hQu26 ?hyu26 ?_
  case hiu26 => simp only [List.getElem?_toArray, List.getElem?_cons_succ, List.getElem?_cons_zero]; rfl
  case hQu26 => exact fun _ _ _ h => h
  case hyu26 =>
    refine Or.inl ⟨by rfl, ?_⟩
    rintro W9 ⟨⟨a0, a1, a2⟩, ⟨b0, b1, b2⟩, d0, d1, d2⟩
    go_simp
    rfl
  try simp only [Act.put, List.setIfInBounds_toArray, List.set_cons_zero, List.set_cons_succ]
  refine takeH (i := 26) (oi := ?oiu27) ?vu27 (by kernel_rfl) (by with_reducible exact hS) ?hiu27 ?hQu27 ?hyu27 ?_
  case hiu27 => simp only [List.getElem?_toArray, List.getElem?_cons_succ, List.getElem?_cons_zero]; rfl
  case hQu27 => exact fun _ _ _ h => h
  case hyu27 =>
    refine Or.inl ⟨by rfl, ?_⟩
    rintro W9 ⟨⟨a0, a1, a2⟩, ⟨b0, b1, b2⟩, d0, d1, d2⟩
    go_simp
    rfl
  try simp only [Act.put, List.setIfInBounds_toArray, List.set_cons_zero, List.set_cons_succ]
  refine wpAnyH_done (by kernel_rfl) ?_ _
  go_wp2_with fail
  have hS : ST9 w'.drew w.heap.size (w.heap.size + 1) (w.heap.size + 2) e1 r1 (.slice A1 n1 c1) e2 r2 (.slice A2 n2 c2) e3 r3 (.slice A3 n3 c3) := hS
  have HBX := Lib.hid (bdr HBX.out)
  refine wp_region_held_drew (S := fun x => ST9 x w.heap.size (w.heap.size + 1) (w.heap.size + 2) e1 r1 (.slice A1 n1 c1) e2 r2 (.slice A2 n2 c2) e3 r3 (.slice A3 n3 c3)) (by kernel_rfl) hS (fun hHeld => ?_)
  clear hHeld
  refine takeH (i := 0) (oi := ?oiu28) ?vu28 (by kernel_rfl) (by with_reducible exact hS) ?hiu28 ?hQu28 ?hyu28 ?_
  case hiu28 => simp only [List.getElem?_toArray, List.getElem?_cons_succ, List.getElem?_cons_zero]; rfl
  case hQu28 => exact fun _ _ _ h => h
  case hyu28 =>
    refine Or.inl ⟨by rfl, ?_⟩
    rintro W9 ⟨⟨a0, a1, a2⟩, ⟨b0, b1, b2⟩, d0, d1, d2⟩
    go_simp
    rfl
  try simp only [Act.put, List.setIfInBounds_toArray, List.set_cons_zero, List.set_cons_succ]
  refine takeH (i := 1) (oi := ?oiu29) ?vu29 (by kernel_rfl) (by with_reducible exact hS) ?hiu29 ?hQu29 ?hyu29 ?_
  case hiu29 => simp only [List.getElem?_toArray, List.getElem?_cons_succ, List.getElem?_cons_zero]; rfl
  case hQu29 => exact fun _ _ _ h => h
  case hyu29 =>
    refine Or.inl ⟨by rfl, ?_⟩
    rintro W9 ⟨⟨a0, a1, a2⟩, ⟨b0, b1, b2⟩, d0, d1, d2⟩
    go_simp
    rfl
  try simp only [Act.put, List.setIfInBounds_toArray, List.set_cons_zero, List.set_cons_succ]
  refine onlyH (i := 2) (oi := ?oiu30) (by kernel_rfl) ?hiu30 (fun K hK => ?_)
  case hiu30 => simp only [List.getElem?_toArray, List.getElem?_cons_succ, List.getElem?_cons_zero]; rfl
  go_simp
  refine (HS12.out _ (HX1.out.below HBX.out) (HX2.out.below HBX.out)).mono ?_
  rintro e w' ⟨rfl, hb⟩
  have hS := st9_below hS hb
  have HBX := Lib.hid (bgo HBX.out hb)
  clear hb
  go_wp2_with fail
  refine hK.out _ _ (by with_reducible exact hS) (fun hHeld => ?_)
  clear hK K hHeld
  try simp only [Act.put, List.setIfInBounds_toArray, List.set_cons_zero, List.set_cons_succ]
  refine takeH (i := 3) (oi := ?oiu31) ?vu31 (by kernel_rfl) (by with_reducible exact hS) ?hiu31 ?hQu31 ?hyu31 ?_
  case hiu31 => simp only [List.getElem?_toArray, List.getElem?_cons_succ, List.getElem?_cons_zero]; rfl
  case hQu31 => exact fun _ _ _ h => h
  case hyu31 =>
    refine Or.inl ⟨by rfl, ?_⟩
    rintro W9 ⟨⟨a0, a1, a2⟩, ⟨b0, b1, b2⟩, d0, d1, d2⟩
    go_simp
    rfl
  try simp only [Act.put, List.setIfInBounds_toArray, List.set_cons_zero, List.set_cons_succ]
  refine takeH (i := 4) (oi := ?oiu32) undef (by kernel_rfl) (by with_reducible exact hS) ?hiu32 ?hQu32 ?hyu32 ?_
  case hiu32 => simp only [List.getElem?_toArray, List.getElem?_cons_succ, List.getElem?_cons_zero]; rfl
  case hQu32 => exact fun _ _ _ h => h
  case hyu32 => exact Or.inr ⟨by rfl, rfl⟩
  try simp only [Act.put, List.setIfInBounds_toArray, List.set_cons_zero, List.set_cons_succ]
  refine takeH (i := 5) (oi := ?oiu33) undef (by kernel_rfl) (by with_reducible exact hS) ?hiu33 ?hQu33 ?hyu33 ?_
  case hiu33 => simp only [List.getElem?_toArray, List.getElem?_cons_succ, List.getElem?_cons_zero]; rfl
  case hQu33 => exact fun _ _ _ h => h
  case hyu33 => exact Or.inr ⟨by rfl, rfl⟩
  try simp only [Act.put, List.setIfInBounds_toArray, List.set_cons_zero, List.set_cons_succ]
  refine takeH (i := 6) (oi := ?oiu34) undef (by kernel_rfl) (by with_reducible exact hS) ?hiu34 ?hQu34 ?hyu34 ?_
  case hiu34 => simp only [List.getElem?_toArray, List.getElem?_cons_succ, List.getElem?_cons_zero]; rfl
  case hQu34 => exact fun _ _ _ h => h
  case hyu34 => exact Or.inr ⟨by rfl, rfl⟩
  try simp only [Act.put, List.setIfInBounds_toArray, List.set_cons_zero, List.set_cons_succ]
  refine takeH (i := 7) (oi := ?oiu35) undef (by kernel_rfl) (by with_reducible exact hS) ?hiu35 ?hQu35 ?hyu35 ?_
  case hiu35 => simp only [List.getElem?_toArray, List.getElem?_cons_succ, List.getElem?_cons_zero]; rfl
  case hQu35 => exact fun _ _ _ h => h
  case hyu35 => exact Or.inr ⟨by rfl, rfl⟩
  try simp only [Act.put, List.setIfInBounds_toArray, List.set_cons_zero, List.set_cons_succ]
  refine takeH (i := 8) (oi := ?oiu36) ?vu36 (by kernel_rfl) (by with_reducible exact hS) ?hiu36 ?hQu36 ?hyu36 ?_
  case hiu36 => simp only [List.getElem?_toArray, List.getElem?_cons_succ, List.getElem?_cons_zero]; rfl
  case hQu36 => exact fun _ _ _ h => h
  case hyu36 =>
    refine Or.inl ⟨by rfl, ?_⟩
    rintro W9 ⟨⟨a0, a1, a2⟩, ⟨b0, b1, b2⟩, d0, d1, d2⟩
    go_simp
    rfl
  try simp only [Act.put, List.setIfInBounds_toArray, List.set_cons_zero, List.set_cons_succ]
  refine takeH (i := 9) (oi := ?oiu37) ?vu37 (by kernel_rfl) (by with_reducible exact hS) ?hiu37 ?hQu37 ?hyu37 ?_
  case hiu37 => simp only [List.getElem?_toArray, List.getElem?_cons_succ, List.getElem?_cons_zero]; rfl
  case hQu37 => exact fun _ _ _ h => h
  case hyu37 =>
    refine Or.inl ⟨by rfl, ?_⟩
    rintro W9 ⟨⟨a0, a1, a2⟩, ⟨b0, b1, b2⟩, d0, d1, d2⟩
    go_simp
    rfl
  try simp only [Act.put, List.setIfInBounds_toArray, List.set_cons_zero, List.set_cons_succ]
  refine takeH (i := 10) (oi := ?oiu38) ?vu38 (by kernel_rfl) (by with_reducible exact hS) ?hiu38 ?hQu38 ?hyu38 ?_
  case hiu38 => simp only [List.getElem?_toArray, List.getElem?_cons_succ, List.getElem?_cons_zero]; rfl
  case hQu38 => exact fun _ _ _ h => h
  case hyu38 =>
    refine Or.inl ⟨by rfl, ?_⟩
    rintro W9 ⟨⟨a0, a1, a2⟩, ⟨b0, b1, b2⟩, d0, d1, d2⟩
    go_simp
    rfl
  try simp only [Act.put, List.setIfInBounds_toArray, List.set_cons_zero, List.set_cons_succ]
  refine takeH (i := 11) (oi := ?oiu39) ?vu39 (by kernel_rfl) (by with_reducible exact hS) ?hiu39 ?hQu39 ?hyu39 ?_
  case hiu39 => simp only [List.getElem?_toArray, List.getElem?_cons_succ, List.getElem?_cons_zero]; rfl
  case hQu39 => exact fun _ _ _ h => h
  case hyu39 =>
    refine Or.inl ⟨by rfl, ?_⟩
    rintro W9 ⟨⟨a0, a1, a2⟩, ⟨b0, b1, b2⟩, d0, d1, d2⟩
    go_simp
    rfl
  try simp only [Act.put, List.setIfInBounds_toArray, List.set_cons_zero, List.set_cons_succ]
  refine onlyH (i := 12) (oi := ?oiu40) (by kernel_rfl) ?hiu40 (fun K hK => ?_)
  case hiu40 => simp only [List.getElem?_toArray, List.getElem?_cons_succ, List.getElem?_cons_zero]; rfl
  go_simp
  refine (HS11.out _ (HX1.out.below HBX.out)).mono ?_
  rintro e w' ⟨rfl, hb⟩
  have hS := st9_below hS hb
  have HBX := Lib.hid (bgo HBX.out hb)
  clear hb
  go_wp2_with fail
  refine hK.out _ _ (by with_reducible exact hS) (fun hHeld => ?_)
  clear hK K hHeld
  try simp only [Act.put, List.setIfInBounds_toArray, List.set_cons_zero, List.set_cons_succ]
  refine takeH (i := 13) (oi := ?oiu41) ?vu41 (by kernel_rfl) (by with_reducible exact hS) ?hiu41 ?hQu41 ?hyu41 ?_
  case hiu41 => simp only [List.getElem?_toArray, List.getElem?_cons_succ, List.getElem?_cons_zero]; rfl
  case hQu41 => exact fun _ _ _ h => h
  case hyu41 =>
    refine Or.inl ⟨by rfl, ?_⟩
    rintro W9 ⟨⟨a0, a1, a2⟩, ⟨b0, b1, b2⟩, d0, d1, d2⟩
    go_simp
    rfl
  try simp only [Act.put, List.setIfInBounds_toArray, List.set_cons_zero, List.set_cons_succ]
  refine takeH (i := 14) (oi := ?oiu42) ?vu42 (by kernel_rfl) (by with_reducible exact hS) ?hiu42 ?hQu42 ?hyu42 ?_
  case hiu42 => simp only [List.getElem?_toArray, List.getElem?_cons_succ, List.getElem?_cons_zero]; rfl
  case hQu42 => exact fun _ _ _ h => h
  case hyu42 =>
    refine Or.inl ⟨by rfl, ?_⟩
    rintro W9 ⟨⟨a0, a1, a2⟩, ⟨b0, b1, b2⟩, d0, d1, d2⟩
    go_simp
    rfl
  try simp only [Act.put, List.setIfInBounds_toArray, List.set_cons_zero, List.set_cons_succ]
  refine takeH (i := 15) (oi := ?oiu43) ?vu43 (by kernel_rfl) (by with_reducible exact hS) ?hiu43 ?hQu43 ?hyu43 ?_
  case hiu43 => simp only [List.getElem?_toArray, List.getElem?_cons_succ, List.getElem?_cons_zero]; rfl
  case hQu43 => exact fun _ _ _ h => h
  case hyu43 =>
    refine Or.inl ⟨by rfl, ?_⟩
    rintro W9 ⟨⟨a0, a1, a2⟩, ⟨b0, b1, b2⟩, d0, d1, d2⟩
    go_simp
    rfl
  try simp only [Act.put, List.setIfInBounds_toArray, List.set_cons_zero, List.set_cons_succ]
  refine takeH (i := 16) (oi := ?oiu44) ?vu44 (by kernel_rfl) (by with_reducible exact hS) ?hiu44 ?hQu44 ?hyu44 ?_
  case hiu44 => simp only [List.getElem?_toArray, List.getElem?_cons_succ, List.getElem?_cons_zero]; rfl
  case hQu44 => exact fun _ _ _ h => h
  case hyu44 =>
    refine Or.inl ⟨by rfl, ?_⟩
    rintro W9 ⟨⟨a0, a1, a2⟩, ⟨b0, b1, b2⟩, d0, d1, d2⟩
    go_simp
    rfl
  try simp only [Act.put, List.setIfInBounds_toArray, List.set_cons_zero, List.set_cons_succ]
  refine takeH (i := 17) (oi := ?oiu45) ?vu45 (by kernel_rfl) (by with_reducible exact hS) ?hiu45 ?hQu45 ?hyu45 ?_
  case hiu45 => simp only [List.getElem?_toArray, List.getElem?_cons_succ, List.getElem?_cons_zero]; rfl
  case hQu45 => exact fun _ _ _ h => h
  case hyu45 =>
    refine Or.inl ⟨by rfl, ?_⟩
    rintro W9 ⟨⟨a0, a1, a2⟩, ⟨b0, b1, b2⟩, d0, d1, d2⟩
    go_simp
    rfl
  try simp only [Act.put, List.setIfInBounds_toArray, List.set_cons_zero, List.set_cons_succ]
  refine takeH (i := 19) (oi := ?oiu46) ?vu46 (by kernel_rfl) (by with_reducible exact hS) ?hiu46 ?hQu46 ?hyu46 ?_
  case hiu46 => simp only [List.getElem?_toArray, List.getElem?_cons_succ, List.getElem?_cons_zero]; rfl
  case hQu46 => exact fun _ _ _ h => h
  case hyu46 =>
    refine Or.inl ⟨by rfl, ?_⟩
    rintro W9 ⟨⟨a0, a1, a2⟩, ⟨b0, b1, b2⟩, d0, d1, d2⟩
    go_simp
    rfl
  try simp only [Act.put, List.setIfInBounds_toArray, List.set_cons_zero, List.set_cons_succ]
  refine takeH (i := 20) (oi := ?oiu47) ?vu47 (by kernel_rfl) (by with_reducible exact hS) ?hiu47 ?hQu47 ?hyu47 ?_
  case hiu47 => simp only [List.getElem?_toArray, List.getElem?_cons_succ, List.getElem?_cons_zero]; rfl
  case hQu47 => exact fun _ _ _ h => h
  case hyu47 =>
    refine Or.inl ⟨by rfl, ?_⟩
    rintro W9 ⟨⟨a0, a1, a2⟩, ⟨b0, b1, b2⟩, d0, d1, d2⟩
    go_simp
    rfl
  try simp only [Act.put, List.setIfInBounds_toArray, List.set_cons_zero, List.set_cons_succ]
  refine onlyH (i := 18) (oi := ?oiu48) (by kernel_rfl) ?hiu48 (fun K hK => ?_)
  case hiu48 => simp only [List.getElem?_toArray, List.getElem?_cons_succ, List.getElem?_cons_zero]; rfl
  go_simp
  refine (HS12.out _ (HX1.out.below HBX.out) (HX2.out.below HBX.out)).mono ?_
  rintro e w' ⟨rfl, hb⟩
  have hS := st9_below hS hb
  have HBX := Lib.hid (bgo HBX.out hb)
  clear hb
  go_wp2_with fail
  refine hK.out _ _ (by with_reducible exact hS) (fun hHeld => ?_)
  clear hK K hHeld
  try simp only [Act.put, List.setIfInBounds_toArray, List.set_cons_zero, List.set_cons_succ]
  refine onlyH (i := 21) (oi := ?oiu49) (by kernel_rfl) ?hiu49 (fun K hK => ?_)
  case hiu49 => simp only [List.getElem?_toArray, List.getElem?_cons_succ, List.getElem?_cons_zero]; rfl
  go_simp
  refine (HS21.out _ (HX1.out.below HBX.out) (HX2.out.below HBX.out)).mono ?_
  rintro e w' ⟨rfl, hb⟩
  have hS := st9_below hS hb
  have HBX := Lib.hid (bgo HBX.out hb)
  clear hb
  go_wp2_with fail
  refine hK.out _ _ (by with_reducible exact hS) (fun hHeld => ?_)
  clear hK K hHeld
  try simp only [Act.put, List.setIfInBounds_toArray, List.set_cons_zero, List.set_cons_succ]
  refine takeH (i := 22) (oi := ?oiu50) ?vu50 (by kernel_rfl) (by with_reducible exact hS) ?hiu50 ?hQu50 ?hyu50 ?_
  case hiu50 => simp only [List.getElem?_toArray, List.getElem?_cons_succ, List.getElem?_cons_zero]; rfl
  case hQu50 => exact fun _ _ _ h => h
  case hyu50 =>
    refine Or.inl ⟨by rfl, ?_⟩
    rintro W9 ⟨⟨a0, a1, a2⟩, ⟨b0, b1, b2⟩, d0, d1, d2⟩
    go_simp
    rfl
  try simp only [Act.put, List.setIfInBounds_toArray, List.set_cons_zero, List.set_cons_succ]
  refine takeH (i := 23) (oi := ?oiu51) ?vu51 (by kernel_rfl) (by with_reducible exact hS) ?hiu51 ?hQu51 ?hyu51 ?_
  case hiu51 => simp only [List.getElem?_toArray, List.getElem?_cons_succ, List.getElem?_cons_zero]; rfl
  case hQu51 => exact fun _ _ _ h => h
  case hyu51 =>
    refine Or.inl ⟨by rfl, ?_⟩
    rintro W9 ⟨⟨a0, a1, a2⟩, ⟨b0, b1, b2⟩, d0, d1, d2⟩
    go_simp
    rfl
  try simp only [Act.put, List.setIfInBounds_toArray, List.set_cons_zero, List.set_cons_succ]
  refine wpAnyH_done (by kernel_rfl) ?_ _
  have HS9 := Lib.hid hS
  obtain ⟨⟨a0, a1, a2⟩, ⟨b0, b1, b2⟩, d0, d1, d2⟩ := hS
  have hS := HS9.out
  clear HS9
  rcases Q1.out with q1 | ⟨q1, q2⟩ | ⟨q1, q2, q3⟩
  all_goals
    go_wp2_with ((go_at_call 15; go_must ((first | (with_reducible refine (HC12.out _).mono ?_) | (with_reducible refine (HC21.out _).mono ?_) | (with_reducible refine (HC23.out _).mono ?_) | (with_reducible refine (HC13.out _).mono ?_)); rintro e w' ⟨rfl, hb⟩; have hS := st9_below hS hb; obtain ⟨⟨a0, a1, a2⟩, ⟨b0, b1, b2⟩, d0, d1, d2⟩ := hS; have hS : ST9 w' w.heap.size (w.heap.size + 1) (w.heap.size + 2) e1 r1 (.slice A1 n1 c1) e2 r2 (.slice A2 n2 c2) e3 r3 (.slice A3 n3 c3) := ⟨⟨a0, a1, a2⟩, ⟨b0, b1, b2⟩, d0, d1, d2⟩; have HBX := Lib.hid (bgo HBX.out hb); clear hb)))
    go_ret
    exact ⟨by simp, HBX.out⟩

set_option maxHeartbeats 8000000 in
theorem order_4 (e1 r1 : Int) (A1 : Option Addr) (n1 c1 : Nat) (e2 r2 : Int) (A2 : Option Addr) (n2 c2 : Nat) (e3 r3 : Int) (A3 : Option Addr) (n3 c3 : Nat) (xs1 xs2 : List Int) (w : World) (z12 z21 z23 z13 : Int) (s : Bool) (hs : ∀ x ∈ [n1, n2, n3], x ≤ 60) (hx1 : Rd w A1 (nums .i64 xs1)) (hx2 : Rd w A2 (nums .i64 xs2))
    (C12 : ∀ W, Calls Try.prog 15 #[.agg #[.int .u64 e1, .int .u64 r1, .slice A1 n1 c1], .agg #[.int .u64 e2, .int .u64 r2, .slice A2 n2 c2]] W fun e w' => e = .returned (.int .i64 z12) ∧ Below W.heap.size W w')
    (C21 : ∀ W, Calls Try.prog 15 #[.agg #[.int .u64 e2, .int .u64 r2, .slice A2 n2 c2], .agg #[.int .u64 e1, .int .u64 r1, .slice A1 n1 c1]] W fun e w' => e = .returned (.int .i64 z21) ∧ Below W.heap.size W w')
    (C23 : ∀ W, Calls Try.prog 15 #[.agg #[.int .u64 e2, .int .u64 r2, .slice A2 n2 c2], .agg #[.int .u64 e3, .int .u64 r3, .slice A3 n3 c3]] W fun e w' => e = .returned (.int .i64 z23) ∧ Below W.heap.size W w')
    (C13 : ∀ W, Calls Try.prog 15 #[.agg #[.int .u64 e1, .int .u64 r1, .slice A1 n1 c1], .agg #[.int .u64 e3, .int .u64 r3, .slice A3 n3 c3]] W fun e w' => e = .returned (.int .i64 z13) ∧ Below W.heap.size W w')
    (S11 : ∀ W, Rd W A1 (nums .i64 xs1) → Calls Try.prog 20 #[.agg #[.int .u64 e1, .int .u64 r1, .slice A1 n1 c1], .agg #[.int .u64 e1, .int .u64 r1, .slice A1 n1 c1]] W fun e w' => e = .returned (.bool true) ∧ Below W.heap.size W w')
    (S12 : ∀ W, Rd W A1 (nums .i64 xs1) → Rd W A2 (nums .i64 xs2) → Calls Try.prog 20 #[.agg #[.int .u64 e1, .int .u64 r1, .slice A1 n1 c1], .agg #[.int .u64 e2, .int .u64 r2, .slice A2 n2 c2]] W fun e w' => e = .returned (.bool s) ∧ Below W.heap.size W w')
    (S21 : ∀ W, Rd W A1 (nums .i64 xs1) → Rd W A2 (nums .i64 xs2) → Calls Try.prog 20 #[.agg #[.int .u64 e2, .int .u64 r2, .slice A2 n2 c2], .agg #[.int .u64 e1, .int .u64 r1, .slice A1 n1 c1]] W fun e w' => e = .returned (.bool s) ∧ Below W.heap.size W w')
    (hneg : IntKind.i64.wrap (-z21) = z12) (hc : (z12 == 0) = false ∧ (z12 != 0) = true ∧ (e1 == e2) = true ∧ (r1 == r2) = false ∧ s = false)
    (ht : z12 ≤ 0 → z23 ≤ 0 → z13 ≤ 0) :
    Calls Try.prog 8 #[.agg #[.int .u64 e1, .int .u64 r1, .slice A1 n1 c1], .agg #[.int .u64 e2, .int .u64 r2, .slice A2 n2 c2], .agg #[.int .u64 e3, .int .u64 r3, .slice A3 n3 c3]] w (Yes w) := by
  have HH := Lib.hid hs
  have HX1 := Lib.hid hx1
  have HX2 := Lib.hid hx2
  have HC12 := Lib.hid C12
  have HC21 := Lib.hid C21
  have HC23 := Lib.hid C23
  have HC13 := Lib.hid C13
  have HS11 := Lib.hid S11
  have HS12 := Lib.hid S12
  have HS21 := Lib.hid S21
  clear hs hx1 hx2 C12 C21 C23 C13 S11 S12 S21
  have hq : (0 : Int) < z12 ∨ (¬ (0 : Int) < z12 ∧ (0 : Int) < z23) ∨ (¬ (0 : Int) < z12 ∧ ¬ (0 : Int) < z23 ∧ z13 ≤ 0) := by omega
  have Q1 := Lib.hid hq
  clear ht hq
  obtain ⟨g1, g2, qe, qr, rfl⟩ := hc
  go_enter Try.func8, Try.ntmps8
  go_wp2_with (first
    | (go_at_call 9; refine (live4_any _).mono ?_; rintro e w1 ⟨rfl, hb1⟩; have hk1 := stsHeld_next (e1 := e1) (r1 := r1) (v1 := .slice A1 n1 c1) (e2 := e2) (r2 := r2) (v2 := .slice A2 n2 c2) (e3 := e3) (r3 := r3) (v3 := .slice A3 n3 c3) (w := w) ⟨bal (bal (bal brf _) _) _, by simp, by simp [go_sem], by simp [go_sem], by simp [go_sem], by simp [go_sem], by simp [go_sem], by simp [go_sem], by simp [go_sem], by simp [go_sem], by simp [go_sem]⟩ hb1; have HK1 := Lib.hid hk1; obtain ⟨h0, hl, a0, a1, a2, b0, b1, b2, d0, d1, d2⟩ := hk1; clear hb1)
    | (go_at_call 14; refine (short_any _ 3 _ [n1, n2, n3] _ rfl (stRow3 _ _ _ _ _ _ _ _ _ _ _ _ _ _ _ _ _) (by omega)).mono ?_; rintro e w2 ⟨he, hb2⟩; rw [decide_eq_true HH.out] at he; subst he; have hk2 := stsHeld_next HK1.out (bgo (bal brf _) hb2); clear h0 hl a0 a1 a2 b0 b1 b2 d0 d1 d2 hb2)
    | fail)
  clear HK1
  have hk2 : stsHeld w w2 e1 r1 (.slice A1 n1 c1) e2 r2 (.slice A2 n2 c2) e3 r3 (.slice A3 n3 c3) := hk2
  go_wp2_with fail
  have HBw := Lib.hid hk2.1
  have hS : ST9 w2.drew w.heap.size (w.heap.size + 1) (w.heap.size + 2) e1 r1 (.slice A1 n1 c1) e2 r2 (.slice A2 n2 c2) e3 r3 (.slice A3 n3 c3) := ⟨⟨hk2.2.2.1, hk2.2.2.2.1, hk2.2.2.2.2.1⟩, ⟨hk2.2.2.2.2.2.1, hk2.2.2.2.2.2.2.1, hk2.2.2.2.2.2.2.2.1⟩, hk2.2.2.2.2.2.2.2.2⟩
  have HBX := Lib.hid (bdr HBw.out)
  clear hk2
  go_region_held3 (fun x => ST9 x w.heap.size (w.heap.size + 1) (w.heap.size + 2) e1 r1 (.slice A1 n1 c1) e2 r2 (.slice A2 n2 c2) e3 r3 (.slice A3 n3 c3)) (with_reducible exact hS)
    (first
    | (go_at_call 15; go_must ((first | (with_reducible refine (HC12.out _).mono ?_) | (with_reducible refine (HC21.out _).mono ?_) | (with_reducible refine (HC23.out _).mono ?_) | (with_reducible refine (HC13.out _).mono ?_)); rintro e w' ⟨rfl, hb⟩; have hS := st9_below hS hb; have HBX := Lib.hid (bgo HBX.out hb); clear hb))
    | (go_at_call 20; go_must ((first | (with_reducible refine (HS11.out _ (HX1.out.below HBX.out)).mono ?_) | (with_reducible refine (HS12.out _ (HX1.out.below HBX.out) (HX2.out.below HBX.out)).mono ?_) | (with_reducible refine (HS21.out _ (HX1.out.below HBX.out) (HX2.out.below HBX.out)).mono ?_)); rintro e w' ⟨rfl, hb⟩; have hS := st9_below hS hb; have HBX := Lib.hid (bgo HBX.out hb); clear hb)))
  go_wp2_with fail
  have hS : ST9 w'.drew w.heap.size (w.heap.size + 1) (w.heap.size + 2) e1 r1 (.slice A1 n1 c1) e2 r2 (.slice A2 n2 c2) e3 r3 (.slice A3 n3 c3) := hS
  have HBX := Lib.hid (bdr HBX.out)
  refine wp_region_held_drew (S := fun x => ST9 x w.heap.size (w.heap.size + 1) (w.heap.size + 2) e1 r1 (.slice A1 n1 c1) e2 r2 (.slice A2 n2 c2) e3 r3 (.slice A3 n3 c3)) (by kernel_rfl) hS (fun hHeld => ?_)
  clear hHeld
  refine takeH (i := 0) (oi := ?oiu28) ?vu28 (by kernel_rfl) (by with_reducible exact hS) ?hiu28 ?hQu28 ?hyu28 ?_
  case hiu28 => simp only [List.getElem?_toArray, List.getElem?_cons_succ, List.getElem?_cons_zero]; rfl
  case hQu28 => exact fun _ _ _ h => h
  case hyu28 =>
    refine Or.inl ⟨by rfl, ?_⟩
    rintro W9 ⟨⟨a0, a1, a2⟩, ⟨b0, b1, b2⟩, d0, d1, d2⟩
    go_simp
    rfl
  try simp only [Act.put, List.setIfInBounds_toArray, List.set_cons_zero, List.set_cons_succ]
  refine takeH (i := 1) (oi := ?oiu29) ?vu29 (by kernel_rfl) (by with_reducible exact hS) ?hiu29 ?hQu29 ?hyu29 ?_
  case hiu29 => simp only [List.getElem?_toArray, List.getElem?_cons_succ, List.getElem?_cons_zero]; rfl
  case hQu29 => exact fun _ _ _ h => h
  case hyu29 =>
    refine Or.inl ⟨by rfl, ?_⟩
    rintro W9 ⟨⟨a0, a1, a2⟩, ⟨b0, b1, b2⟩, d0, d1, d2⟩
    go_simp
    rfl
  try simp only [Act.put, List.setIfInBounds_toArray, List.set_cons_zero, List.set_cons_succ]
  refine onlyH (i := 2) (oi := ?oiu30) (by kernel_rfl) ?hiu30 (fun K hK => ?_)
  case hiu30 => simp only [List.getElem?_toArray, List.getElem?_cons_succ, List.getElem?_cons_zero]; rfl
  go_simp
  refine (HS12.out _ (HX1.out.below HBX.out) (HX2.out.below HBX.out)).mono ?_
  rintro e w' ⟨rfl, hb⟩
  have hS := st9_below hS hb
  have HBX := Lib.hid (bgo HBX.out hb)
  clear hb
  go_wp2_with fail
  refine hK.out _ _ (by with_reducible exact hS) (fun hHeld => ?_)
  clear hK K hHeld
  try simp only [Act.put, List.setIfInBounds_toArray, List.set_cons_zero, List.set_cons_succ]
  refine takeH (i := 3) (oi := ?oiu31) ?vu31 (by kernel_rfl) (by with_reducible exact hS) ?hiu31 ?hQu31 ?hyu31 ?_
  case hiu31 => simp only [List.getElem?_toArray, List.getElem?_cons_succ, List.getElem?_cons_zero]; rfl
  case hQu31 => exact fun _ _ _ h => h
  case hyu31 =>
    refine Or.inl ⟨by rfl, ?_⟩
    rintro W9 ⟨⟨a0, a1, a2⟩, ⟨b0, b1, b2⟩, d0, d1, d2⟩
    go_simp
    rfl
  try simp only [Act.put, List.setIfInBounds_toArray, List.set_cons_zero, List.set_cons_succ]
  refine takeH (i := 4) (oi := ?oiu32) undef (by kernel_rfl) (by with_reducible exact hS) ?hiu32 ?hQu32 ?hyu32 ?_
  case hiu32 => simp only [List.getElem?_toArray, List.getElem?_cons_succ, List.getElem?_cons_zero]; rfl
  case hQu32 => exact fun _ _ _ h => h
  case hyu32 => exact Or.inr ⟨by rfl, rfl⟩
  try simp only [Act.put, List.setIfInBounds_toArray, List.set_cons_zero, List.set_cons_succ]
  refine takeH (i := 5) (oi := ?oiu33) undef (by kernel_rfl) (by with_reducible exact hS) ?hiu33 ?hQu33 ?hyu33 ?_
  case hiu33 => simp only [List.getElem?_toArray, List.getElem?_cons_succ, List.getElem?_cons_zero]; rfl
  case hQu33 => exact fun _ _ _ h => h
  case hyu33 => exact Or.inr ⟨by rfl, rfl⟩
  try simp only [Act.put, List.setIfInBounds_toArray, List.set_cons_zero, List.set_cons_succ]
  refine takeH (i := 6) (oi := ?oiu34) undef (by kernel_rfl) (by with_reducible exact hS) ?hiu34 ?hQu34 ?hyu34 ?_
  case hiu34 => simp only [List.getElem?_toArray, List.getElem?_cons_succ, List.getElem?_cons_zero]; rfl
  case hQu34 => exact fun _ _ _ h => h
  case hyu34 => exact Or.inr ⟨by rfl, rfl⟩
  try simp only [Act.put, List.setIfInBounds_toArray, List.set_cons_zero, List.set_cons_succ]
  refine takeH (i := 7) (oi := ?oiu35) undef (by kernel_rfl) (by with_reducible exact hS) ?hiu35 ?hQu35 ?hyu35 ?_
  case hiu35 => simp only [List.getElem?_toArray, List.getElem?_cons_succ, List.getElem?_cons_zero]; rfl
  case hQu35 => exact fun _ _ _ h => h
  case hyu35 => exact Or.inr ⟨by rfl, rfl⟩
  try simp only [Act.put, List.setIfInBounds_toArray, List.set_cons_zero, List.set_cons_succ]
  refine takeH (i := 8) (oi := ?oiu36) ?vu36 (by kernel_rfl) (by with_reducible exact hS) ?hiu36 ?hQu36 ?hyu36 ?_
  case hiu36 => simp only [List.getElem?_toArray, List.getElem?_cons_succ, List.getElem?_cons_zero]; rfl
  case hQu36 => exact fun _ _ _ h => h
  case hyu36 =>
    refine Or.inl ⟨by rfl, ?_⟩
    rintro W9 ⟨⟨a0, a1, a2⟩, ⟨b0, b1, b2⟩, d0, d1, d2⟩
    go_simp
    rfl
  try simp only [Act.put, List.setIfInBounds_toArray, List.set_cons_zero, List.set_cons_succ]
  refine takeH (i := 9) (oi := ?oiu37) ?vu37 (by kernel_rfl) (by with_reducible exact hS) ?hiu37 ?hQu37 ?hyu37 ?_
  case hiu37 => simp only [List.getElem?_toArray, List.getElem?_cons_succ, List.getElem?_cons_zero]; rfl
  case hQu37 => exact fun _ _ _ h => h
  case hyu37 =>
    refine Or.inl ⟨by rfl, ?_⟩
    rintro W9 ⟨⟨a0, a1, a2⟩, ⟨b0, b1, b2⟩, d0, d1, d2⟩
    go_simp
    rfl
  try simp only [Act.put, List.setIfInBounds_toArray, List.set_cons_zero, List.set_cons_succ]
  refine takeH (i := 10) (oi := ?oiu38) ?vu38 (by kernel_rfl) (by with_reducible exact hS) ?hiu38 ?hQu38 ?hyu38 ?_
  case hiu38 => simp only [List.getElem?_toArray, List.getElem?_cons_succ, List.getElem?_cons_zero]; rfl
  case hQu38 => exact fun _ _ _ h => h
  case hyu38 =>
    refine Or.inl ⟨by rfl, ?_⟩
    rintro W9 ⟨⟨a0, a1, a2⟩, ⟨b0, b1, b2⟩, d0, d1, d2⟩
    go_simp
    rfl
  try simp only [Act.put, List.setIfInBounds_toArray, List.set_cons_zero, List.set_cons_succ]
  refine takeH (i := 11) (oi := ?oiu39) ?vu39 (by kernel_rfl) (by with_reducible exact hS) ?hiu39 ?hQu39 ?hyu39 ?_
  case hiu39 => simp only [List.getElem?_toArray, List.getElem?_cons_succ, List.getElem?_cons_zero]; rfl
  case hQu39 => exact fun _ _ _ h => h
  case hyu39 =>
    refine Or.inl ⟨by rfl, ?_⟩
    rintro W9 ⟨⟨a0, a1, a2⟩, ⟨b0, b1, b2⟩, d0, d1, d2⟩
    go_simp
    rfl
  try simp only [Act.put, List.setIfInBounds_toArray, List.set_cons_zero, List.set_cons_succ]
  refine onlyH (i := 12) (oi := ?oiu40) (by kernel_rfl) ?hiu40 (fun K hK => ?_)
  case hiu40 => simp only [List.getElem?_toArray, List.getElem?_cons_succ, List.getElem?_cons_zero]; rfl
  go_simp
  refine (HS11.out _ (HX1.out.below HBX.out)).mono ?_
  rintro e w' ⟨rfl, hb⟩
  have hS := st9_below hS hb
  have HBX := Lib.hid (bgo HBX.out hb)
  clear hb
  go_wp2_with fail
  refine hK.out _ _ (by with_reducible exact hS) (fun hHeld => ?_)
  clear hK K hHeld
  try simp only [Act.put, List.setIfInBounds_toArray, List.set_cons_zero, List.set_cons_succ]
  refine takeH (i := 13) (oi := ?oiu41) ?vu41 (by kernel_rfl) (by with_reducible exact hS) ?hiu41 ?hQu41 ?hyu41 ?_
  case hiu41 => simp only [List.getElem?_toArray, List.getElem?_cons_succ, List.getElem?_cons_zero]; rfl
  case hQu41 => exact fun _ _ _ h => h
  case hyu41 =>
    refine Or.inl ⟨by rfl, ?_⟩
    rintro W9 ⟨⟨a0, a1, a2⟩, ⟨b0, b1, b2⟩, d0, d1, d2⟩
    go_simp
    rfl
  try simp only [Act.put, List.setIfInBounds_toArray, List.set_cons_zero, List.set_cons_succ]
  refine takeH (i := 14) (oi := ?oiu42) ?vu42 (by kernel_rfl) (by with_reducible exact hS) ?hiu42 ?hQu42 ?hyu42 ?_
  case hiu42 => simp only [List.getElem?_toArray, List.getElem?_cons_succ, List.getElem?_cons_zero]; rfl
  case hQu42 => exact fun _ _ _ h => h
  case hyu42 =>
    refine Or.inl ⟨by rfl, ?_⟩
    rintro W9 ⟨⟨a0, a1, a2⟩, ⟨b0, b1, b2⟩, d0, d1, d2⟩
    go_simp
    rfl
  try simp only [Act.put, List.setIfInBounds_toArray, List.set_cons_zero, List.set_cons_succ]
  refine takeH (i := 15) (oi := ?oiu43) ?vu43 (by kernel_rfl) (by with_reducible exact hS) ?hiu43 ?hQu43 ?hyu43 ?_
  case hiu43 => simp only [List.getElem?_toArray, List.getElem?_cons_succ, List.getElem?_cons_zero]; rfl
  case hQu43 => exact fun _ _ _ h => h
  case hyu43 =>
    refine Or.inl ⟨by rfl, ?_⟩
    rintro W9 ⟨⟨a0, a1, a2⟩, ⟨b0, b1, b2⟩, d0, d1, d2⟩
    go_simp
    rfl
  try simp only [Act.put, List.setIfInBounds_toArray, List.set_cons_zero, List.set_cons_succ]
  refine takeH (i := 16) (oi := ?oiu44) ?vu44 (by kernel_rfl) (by with_reducible exact hS) ?hiu44 ?hQu44 ?hyu44 ?_
  case hiu44 => simp only [List.getElem?_toArray, List.getElem?_cons_succ, List.getElem?_cons_zero]; rfl
  case hQu44 => exact fun _ _ _ h => h
  case hyu44 =>
    refine Or.inl ⟨by rfl, ?_⟩
    rintro W9 ⟨⟨a0, a1, a2⟩, ⟨b0, b1, b2⟩, d0, d1, d2⟩
    go_simp
    rfl
  try simp only [Act.put, List.setIfInBounds_toArray, List.set_cons_zero, List.set_cons_succ]
  refine takeH (i := 17) (oi := ?oiu45) ?vu45 (by kernel_rfl) (by with_reducible exact hS) ?hiu45 ?hQu45 ?hyu45 ?_
  case hiu45 => simp only [List.getElem?_toArray, List.getElem?_cons_succ, List.getElem?_cons_zero]; rfl
  case hQu45 => exact fun _ _ _ h => h
  case hyu45 =>
    refine Or.inl ⟨by rfl, ?_⟩
    rintro W9 ⟨⟨a0, a1, a2⟩, ⟨b0, b1, b2⟩, d0, d1, d2⟩
    go_simp
    rfl
  try simp only [Act.put, List.setIfInBounds_toArray, List.set_cons_zero, List.set_cons_succ]
  refine takeH (i := 19) (oi := ?oiu46) ?vu46 (by kernel_rfl) (by with_reducible exact hS) ?hiu46 ?hQu46 ?hyu46 ?_
  case hiu46 => simp only [List.getElem?_toArray, List.getElem?_cons_succ, List.getElem?_cons_zero]; rfl
  case hQu46 => exact fun _ _ _ h => h
  case hyu46 =>
    refine Or.inl ⟨by rfl, ?_⟩
    rintro W9 ⟨⟨a0, a1, a2⟩, ⟨b0, b1, b2⟩, d0, d1, d2⟩
    go_simp
    rfl
  try simp only [Act.put, List.setIfInBounds_toArray, List.set_cons_zero, List.set_cons_succ]
  refine takeH (i := 20) (oi := ?oiu47) ?vu47 (by kernel_rfl) (by with_reducible exact hS) ?hiu47 ?hQu47 ?hyu47 ?_
  case hiu47 => simp only [List.getElem?_toArray, List.getElem?_cons_succ, List.getElem?_cons_zero]; rfl
  case hQu47 => exact fun _ _ _ h => h
  case hyu47 =>
    refine Or.inl ⟨by rfl, ?_⟩
    rintro W9 ⟨⟨a0, a1, a2⟩, ⟨b0, b1, b2⟩, d0, d1, d2⟩
    go_simp
    rfl
  try simp only [Act.put, List.setIfInBounds_toArray, List.set_cons_zero, List.set_cons_succ]
  refine onlyH (i := 18) (oi := ?oiu48) (by kernel_rfl) ?hiu48 (fun K hK => ?_)
  case hiu48 => simp only [List.getElem?_toArray, List.getElem?_cons_succ, List.getElem?_cons_zero]; rfl
  go_simp
  refine (HS12.out _ (HX1.out.below HBX.out) (HX2.out.below HBX.out)).mono ?_
  rintro e w' ⟨rfl, hb⟩
  have hS := st9_below hS hb
  have HBX := Lib.hid (bgo HBX.out hb)
  clear hb
  go_wp2_with fail
  refine hK.out _ _ (by with_reducible exact hS) (fun hHeld => ?_)
  clear hK K hHeld
  try simp only [Act.put, List.setIfInBounds_toArray, List.set_cons_zero, List.set_cons_succ]
  refine onlyH (i := 21) (oi := ?oiu49) (by kernel_rfl) ?hiu49 (fun K hK => ?_)
  case hiu49 => simp only [List.getElem?_toArray, List.getElem?_cons_succ, List.getElem?_cons_zero]; rfl
  go_simp
  refine (HS21.out _ (HX1.out.below HBX.out) (HX2.out.below HBX.out)).mono ?_
  rintro e w' ⟨rfl, hb⟩
  have hS := st9_below hS hb
  have HBX := Lib.hid (bgo HBX.out hb)
  clear hb
  go_wp2_with fail
  refine hK.out _ _ (by with_reducible exact hS) (fun hHeld => ?_)
  clear hK K hHeld
  try simp only [Act.put, List.setIfInBounds_toArray, List.set_cons_zero, List.set_cons_succ]
  refine takeH (i := 22) (oi := ?oiu50) ?vu50 (by kernel_rfl) (by with_reducible exact hS) ?hiu50 ?hQu50 ?hyu50 ?_
  case hiu50 => simp only [List.getElem?_toArray, List.getElem?_cons_succ, List.getElem?_cons_zero]; rfl
  case hQu50 => exact fun _ _ _ h => h
  case hyu50 =>
    refine Or.inl ⟨by rfl, ?_⟩
    rintro W9 ⟨⟨a0, a1, a2⟩, ⟨b0, b1, b2⟩, d0, d1, d2⟩
    go_simp
    rfl
  try simp only [Act.put, List.setIfInBounds_toArray, List.set_cons_zero, List.set_cons_succ]
  refine takeH (i := 23) (oi := ?oiu51) ?vu51 (by kernel_rfl) (by with_reducible exact hS) ?hiu51 ?hQu51 ?hyu51 ?_
  case hiu51 => simp only [List.getElem?_toArray, List.getElem?_cons_succ, List.getElem?_cons_zero]; rfl
  case hQu51 => exact fun _ _ _ h => h
  case hyu51 =>
    refine Or.inl ⟨by rfl, ?_⟩
    rintro W9 ⟨⟨a0, a1, a2⟩, ⟨b0, b1, b2⟩, d0, d1, d2⟩
    go_simp
    rfl
  try simp only [Act.put, List.setIfInBounds_toArray, List.set_cons_zero, List.set_cons_succ]
  refine wpAnyH_done (by kernel_rfl) ?_ _
  have HS9 := Lib.hid hS
  obtain ⟨⟨a0, a1, a2⟩, ⟨b0, b1, b2⟩, d0, d1, d2⟩ := hS
  have hS := HS9.out
  clear HS9
  rcases Q1.out with q1 | ⟨q1, q2⟩ | ⟨q1, q2, q3⟩
  all_goals
    go_wp2_with ((go_at_call 15; go_must ((first | (with_reducible refine (HC12.out _).mono ?_) | (with_reducible refine (HC21.out _).mono ?_) | (with_reducible refine (HC23.out _).mono ?_) | (with_reducible refine (HC13.out _).mono ?_)); rintro e w' ⟨rfl, hb⟩; have hS := st9_below hS hb; obtain ⟨⟨a0, a1, a2⟩, ⟨b0, b1, b2⟩, d0, d1, d2⟩ := hS; have hS : ST9 w' w.heap.size (w.heap.size + 1) (w.heap.size + 2) e1 r1 (.slice A1 n1 c1) e2 r2 (.slice A2 n2 c2) e3 r3 (.slice A3 n3 c3) := ⟨⟨a0, a1, a2⟩, ⟨b0, b1, b2⟩, d0, d1, d2⟩; have HBX := Lib.hid (bgo HBX.out hb); clear hb)))
    go_ret
    exact ⟨by simp, HBX.out⟩
end Go.Proofs.Ytmkmndgdakpojaa
