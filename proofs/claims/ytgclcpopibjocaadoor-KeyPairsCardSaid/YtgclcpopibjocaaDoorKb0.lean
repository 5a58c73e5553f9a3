/- Contracts of the reference's Check and of the small functions of both packages. -/
import Derived.Test.YtgclcpopibjocaaDoorKa
import Derived.BigQuiet
import Derived.Lib.Hide
import Derived.Deep.QuietTactic
import Derived.Deep.RegionHeld3
namespace Go.Proofs.YtgclcpopibjocaaDoor
open Go.RowKit
set_option linter.unusedSimpArgs false
set_option linter.unusedVariables false

set_option maxHeartbeats 2000000 in
theorem rcheck_any (a : Option Addr) (n c : Nat) (ch st cl qu clo lo ag wi ro se : Int) (w : World) :
    Calls Tryd.prog 15 #[cfgV (.slice a n c) ch st cl qu clo lo ag wi ro se] w (CheckEnds (okC n ch st cl qu clo lo ag wi ro se) w) := by
  go_enter Tryd.func15, Tryd.ntmps15
  go_wp2_with (go_at_call 46; refine (rwithin_any _ _ _ _).mono ?_; rintro e w' ⟨rfl, rfl⟩)
  all_goals
    go_ret
    refine ⟨?_, (Below.refl _ _).alloc (Nat.le_refl _) _⟩
    simp only [Bool.not_eq_true', Bool.not_eq_false', decide_eq_true_eq, decide_eq_false_iff_not, Bool.and_eq_true, Bool.or_eq_true, Bool.and_eq_false_iff, Bool.or_eq_false_iff] at *
    first
      | exact .inl ⟨by unfold okC; omega, rfl⟩
      | exact .inr ⟨by unfold okC; omega, rfl⟩
      | (exfalso; omega)

theorem servers_any (s : Value) (ch st cl qu clo lo ag wi ro se : Int) (w : World) (h : -9223372036854775808 ≤ ch + st) (h' : ch + st ≤ 9223372036854775807) :
    Calls Tryd.prog 67 #[cfgV s ch st cl qu clo lo ag wi ro se] w fun e w' => e = .returned (.int .i64 (ch + st)) ∧ Below w.heap.size w w' := by
  go_enter Tryd.func67, Tryd.ntmps67
  go_wp2
  go_ret
  exact ⟨rfl, (Below.refl _ _).alloc (Nat.le_refl _) _⟩

/-- A configuration lies in block b. -/
abbrev cfgAt (x : World) (b : Nat) (s : Value) (ch st cl qu clo lo ag wi ro se : Int) : Prop :=
  x.cell? ⟨b, 0, none⟩ = some s ∧ x.cell? ⟨b, 1, none⟩ = some (.int .i64 ch) ∧ x.cell? ⟨b, 2, none⟩ = some (.int .i64 st) ∧ x.cell? ⟨b, 3, none⟩ = some (.int .i64 cl) ∧ x.cell? ⟨b, 4, none⟩ = some (.int .i64 qu) ∧ x.cell? ⟨b, 5, none⟩ = some (.int .i64 clo) ∧
  x.cell? ⟨b, 6, none⟩ = some (.int .i64 lo) ∧ x.cell? ⟨b, 7, none⟩ = some (.int .i64 ag) ∧ x.cell? ⟨b, 8, none⟩ = some (.int .i64 wi) ∧ x.cell? ⟨b, 9, none⟩ = some (.int .u64 ro) ∧ x.cell? ⟨b, 10, none⟩ = some (.int .u64 se)

theorem cfgAt_below {x y : World} {B b : Nat} {s : Value} {ch st cl qu clo lo ag wi ro se : Int} (h : cfgAt x b s ch st cl qu clo lo ag wi ro se) (hb : Below B x y) (hlt : b < B) : cfgAt y b s ch st cl qu clo lo ag wi ro se := by
  obtain ⟨h0, h1, h2, h3, h4, h5, h6, h7, h8, h9, h10⟩ := h
  exact ⟨(hb.cell (p := ⟨b, 0, none⟩) hlt).trans h0, (hb.cell (p := ⟨b, 1, none⟩) hlt).trans h1, (hb.cell (p := ⟨b, 2, none⟩) hlt).trans h2, (hb.cell (p := ⟨b, 3, none⟩) hlt).trans h3, (hb.cell (p := ⟨b, 4, none⟩) hlt).trans h4, (hb.cell (p := ⟨b, 5, none⟩) hlt).trans h5,
    (hb.cell (p := ⟨b, 6, none⟩) hlt).trans h6, (hb.cell (p := ⟨b, 7, none⟩) hlt).trans h7, (hb.cell (p := ⟨b, 8, none⟩) hlt).trans h8, (hb.cell (p := ⟨b, 9, none⟩) hlt).trans h9, (hb.cell (p := ⟨b, 10, none⟩) hlt).trans h10⟩

/-- A configuration's box, laid behind world w, and all that lay in w. -/
abbrev cfgHeld (w x : World) (s : Value) (ch st cl qu clo lo ag wi ro se : Int) : Prop :=
  Below w.heap.size w x ∧ w.heap.size < x.heap.size ∧ cfgAt x w.heap.size s ch st cl qu clo lo ag wi ro se

theorem cfgHeld_start {w : World} {s : Value} {ch st cl qu clo lo ag wi ro se : Int} :
    cfgHeld w (w.alloc (Obj.cells #[s, .int .i64 ch, .int .i64 st, .int .i64 cl, .int .i64 qu, .int .i64 clo, .int .i64 lo, .int .i64 ag, .int .i64 wi, .int .u64 ro, .int .u64 se] 25)).drew s ch st cl qu clo lo ag wi ro se :=
  ⟨((Below.refl _ _).alloc (Nat.le_refl _) _).drew, by simp, by unfold cfgAt; simp⟩

theorem cfgHeld_start0 {w : World} {s : Value} {ch st cl qu clo lo ag wi ro se : Int} :
    cfgHeld w (w.alloc (Obj.cells #[s, .int .i64 ch, .int .i64 st, .int .i64 cl, .int .i64 qu, .int .i64 clo, .int .i64 lo, .int .i64 ag, .int .i64 wi, .int .u64 ro, .int .u64 se] 25)) s ch st cl qu clo lo ag wi ro se :=
  ⟨(Below.refl _ _).alloc (Nat.le_refl _) _, by simp, by unfold cfgAt; simp⟩

theorem cfgHeld_next {w x y : World} {s : Value} {ch st cl qu clo lo ag wi ro se : Int} (h : cfgHeld w x s ch st cl qu clo lo ag wi ro se) (hy : Below x.heap.size x y) : cfgHeld w y s ch st cl qu clo lo ag wi ro se :=
  ⟨h.1.trans (hy.mono (Nat.le_of_lt h.2.1)), Nat.lt_of_lt_of_le h.2.1 hy.size, cfgAt_below h.2.2 hy h.2.1⟩

end Go.Proofs.YtgclcpopibjocaaDoor
