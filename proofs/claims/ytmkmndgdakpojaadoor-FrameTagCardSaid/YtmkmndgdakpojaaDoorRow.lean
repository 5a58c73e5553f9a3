/- Rows of values, from a block's head on, that may be stored to; rows that a make gives. -/
import Derived.Test.YtmkmndgdakpojaaDoorOwn
import Derived.OwnWalkIn
import Derived.RangeFuncLeaves
import Derived.RangeFuncBox
namespace Go.Proofs.YtmkmndgdakpojaaDoor
open Go.RowKit
set_option linter.unusedSimpArgs false
set_option linter.unusedVariables false
set_option maxRecDepth 100000

/-- The cells of block B, from its head on, are the values vs, and may be stored to. -/
def VRow (w : World) (B : Nat) (vs : List Value) : Prop := ∀ j v, vs[j]? = some v → w.cell? ⟨B, j, none⟩ = some v ∧ w.frozen? ⟨B, j, none⟩ = false

theorem VRow.below {w w' : World} {B b : Nat} {vs : List Value} (h : VRow w B vs) (hb : Below b w w') (hlt : B < b) : VRow w' B vs :=
  fun j v hj => ⟨(hb.cell (p := ⟨B, j, none⟩) hlt).trans (h j v hj).1, (hb.frozen (p := ⟨B, j, none⟩) hlt).trans (h j v hj).2⟩
theorem VRow.nil {w : World} {B : Nat} : VRow w B [] := fun j v h => by simp at h
theorem VRow.set {w : World} {B k : Nat} {vs : List Value} (h : VRow w B vs) (u : Value) : VRow (w.setCell ⟨B, k, none⟩ u) B (vs.set k u) := by
  intro j v hj
  rw [World.frozen?_setCell]
  by_cases hjk : j = k
  · subst hjk
    rw [List.getElem?_set_self' ] at hj
    cases hx : vs[j]? with
    | none => rw [hx] at hj; cases hj
    | some x =>
      rw [hx] at hj
      have : u = v := by simpa using hj
      subst this
      exact ⟨cell_setCell_eq (h j x hx).1, (h j x hx).2⟩
  · rw [List.getElem?_set_ne (Ne.symm hjk)] at hj
    exact ⟨(cell_setCell_off (Ne.symm hjk)).trans (h j v hj).1, (h j v hj).2⟩
theorem VRow.far {w : World} {B c i : Nat} {vs : List Value} (h : VRow w B vs) (hne : c ≠ B) (u : Value) : VRow (w.setCell ⟨c, i, none⟩ u) B vs :=
  fun j v hj => ⟨(cell_setCell_far hne).trans (h j v hj).1, (World.frozen?_setCell _ _ _ _).trans (h j v hj).2⟩
theorem VRow.rd {w : World} {B : Nat} {vs : List Value} (h : VRow w B vs) (hB : B < w.heap.size) : Rd w (some ⟨B, 0, none⟩) vs :=
  .inr ⟨B, 0, rfl, hB, fun i v hv => by rw [Nat.zero_add]; exact (h i v hv).1⟩
theorem VRow.kept {W W' : World} {row : Option Nat} {B : Nat} {vs : List Value} (hg : W.grownBy W' row) (hr : ∀ r, row = some r → ∃ o : Obj, W.heap[r]? = some o ∧ o.isCells = false) (h : VRow W B vs) : VRow W' B vs := by
  intro j v hj
  obtain ⟨o, ho, hc⟩ := cells_of_cell (h j v hj).1
  have hk : W'.heap[B]? = W.heap[B]? := grownBy_keeps_cells hg hr ho hc
  exact ⟨(World.cell?_of_block (a := ⟨B, j, none⟩) hk).trans (h j v hj).1, (World.frozen?_of_block (a := ⟨B, j, none⟩) hk).trans (h j v hj).2⟩

theorem vrow_make {w w1 : World} {e : TypeId} {m c : Nat} {z : Value} (hz : z.cells = #[z]) (hown : w1.ownsRow w.heap.size e 1 (.slice (some ⟨w.heap.size, 0, none⟩) m c) m (madeCells z.cells (m * 1)).toList) (hg : w.grownBy w1 none) :
    VRow w1 w.heap.size (List.replicate m z) ∧ Below w.heap.size w w1 ∧ w.heap.size < w1.heap.size := by
  have hb : Below w.heap.size w w1 := brf.grown hg (Nat.le_refl _) (fun k e => by cases e)
  refine ⟨fun j v hj => ?_, hb, (hown.lt w.heap.size rfl).2⟩
  have hj2 := hj
  rw [List.getElem?_replicate] at hj2
  split at hj2
  case isFalse => cases hj2
  rename_i hjm
  obtain rfl : z = v := by simpa using hj2
  refine ⟨?_, ?_⟩
  · have := hown.cells (g := w.heap.size) rfl j z (by
      rw [hz]
      simp [madeCells, hjm, Nat.mod_one])
    have hadd : (Addr.mk w.heap.size 0 none).add j = ⟨w.heap.size, 0 + j, none⟩ := by
      unfold Addr.add
      by_cases h : j = 0 <;> simp [h]
    rw [hadd, Nat.zero_add] at this
    exact this
  · rcases hown.2 with ⟨h1, _⟩ | ⟨g, cap, cur, h1, _, hg, _⟩
    · cases h1
    · simp only [Value.slice.injEq, Option.some.injEq, Addr.mk.injEq] at h1
      obtain ⟨⟨rfl, _⟩, _⟩ := h1
      simp [World.frozen?, hg]

theorem wpListIn_make_full {F : Fence} {n : Nat} {P : Program} (w : World) {ops : Array Oper} {rest : List Oper} {o : Oper} {a : Act} {Q : Exit → Act → World → Prop}
    (hg : o.guard = none) (l c : Operand) (t : TypeId) (hop : o.op = Op.makeSlice t l c)
    (base : Nat) (e : TypeId) (i : TypeInfo) (z : Value) (size : Nat) (h1 : P.underlying t = some (.slice e)) (h2 : P.info? e = some i) (h3 : i.zero = some z) (h4 : i.size = size)
    (kl kc : IntKind) (L C : Int) (m : Nat) (hl : a.eval l = .int kl L) (hc : a.eval c = .int kc C) (hL : L = (m : Int)) (hC : C = (m : Int)) (b2 : i.bytes * m ≤ 281474976710656) (b3 : m ≤ maxLen) (b4 : base ≤ w.heap.size)
    (hK : ∀ w', w'.ownsRow base e size (.slice (some ⟨w.heap.size, 0, none⟩) m m) m (madeCells z.cells (m * size)).toList → w.grownBy w' none → wpListIn F n P ops Q rest (a.put o.dst (.slice (some ⟨w.heap.size, 0, none⟩) m m)) w') :
    wpListIn F n P ops Q (o :: rest) a w := by
  refine wpListIn_plain hg fun K hK' => ?_
  obtain ⟨w', hrun, r1, r2⟩ := run_make_full (P := P) w base t e i z size h1 h2 h3 h4 kl kc m b2 b3 b4
  subst hL
  subst hC
  unfold Oper.wpIn
  refine ⟨?_, ?_⟩
  · simp [Oper.about, hop]
  · rw [Oper.semAt_plain F _ _ (by rw [hop]; intro c hc'; cases hc')]
    simp [execOp, hop, hl, hc, hrun, Result.andThen]
    exact hK' _ _ (hK w' r1 r2)

/-- A box: one cell, that may be stored to. -/
def Box (w : World) (B : Nat) (v : Value) : Prop := w.cell? ⟨B, 0, none⟩ = some v ∧ w.frozen? ⟨B, 0, none⟩ = false
theorem Box.below {w w' : World} {B b : Nat} {v : Value} (h : Box w B v) (hb : Below b w w') (hlt : B < b) : Box w' B v :=
  ⟨(hb.cell (p := ⟨B, 0, none⟩) hlt).trans h.1, (hb.frozen (p := ⟨B, 0, none⟩) hlt).trans h.2⟩
theorem Box.far {w : World} {B c i : Nat} {v : Value} (h : Box w B v) (hne : c ≠ B) (u : Value) : Box (w.setCell ⟨c, i, none⟩ u) B v :=
  ⟨(cell_setCell_far hne).trans h.1, (World.frozen?_setCell _ _ _ _).trans h.2⟩
theorem Box.set {w : World} {B : Nat} {v : Value} (h : Box w B v) (u : Value) : Box (w.setCell ⟨B, 0, none⟩ u) B u :=
  ⟨cell_setCell_eq h.1, (World.frozen?_setCell _ _ _ _).trans h.2⟩
theorem Box.kept {W W' : World} {row : Option Nat} {B : Nat} {v : Value} (hg : W.grownBy W' row) (hr : ∀ r, row = some r → ∃ o : Obj, W.heap[r]? = some o ∧ o.isCells = false) (h : Box W B v) : Box W' B v := by
  obtain ⟨o, ho, hc⟩ := cells_of_cell h.1
  have hk : W'.heap[B]? = W.heap[B]? := grownBy_keeps_cells hg hr ho hc
  exact ⟨(World.cell?_of_block (a := ⟨B, 0, none⟩) hk).trans h.1, (World.frozen?_of_block (a := ⟨B, 0, none⟩) hk).trans h.2⟩
theorem Box.alloc {w : World} {v : Value} {t : TypeId} : Box (w.alloc (.cells #[v] t)) w.heap.size v :=
  ⟨by rw [World.cell?_alloc_at _ _ _ _ rfl]; rfl, by simp [go_sem]⟩
end Go.Proofs.YtmkmndgdakpojaaDoor
