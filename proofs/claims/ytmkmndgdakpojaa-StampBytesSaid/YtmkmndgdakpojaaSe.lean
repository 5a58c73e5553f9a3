/- Where a hash begins; bytes padded. -/
import Derived.Test.YtmkmndgdakpojaaSc
import Derived.Test.YtmkmndgdakpojaaBytes
import Derived.Laws.CopyOwn
import Derived.Deep.Cut
namespace Go.Proofs.Ytmkmndgdakpojaa
open Go.RowKit
set_option linter.unusedSimpArgs false
set_option linter.unusedVariables false

/-- A row of bytes, from a block's head on, that may be stored to. -/
def Brow (w : World) (B : Nat) (l : List Int) : Prop := (∀ j, j < l.length → w.cell? ⟨B, j, none⟩ = some (.int .u8 (l.getD j 0))) ∧ ∀ j, w.frozen? ⟨B, j, none⟩ = false

theorem infoByte : (Try.prog.info? 5).map (fun i => (i.zero, i.size, i.bytes)) = some (some (.int .u8 0), 1, 1) := by kernel_rfl
theorem infoByte1 : (Try.prog.info? 5).map (·.size) = some 1 := by kernel_rfl
/-- How many bytes the padded ones are. -/
def padLen (n : Nat) : Nat := n + 9 + (64 - (n + 9) % 64) % 64

theorem Brow.below {w w' : World} {B b : Nat} {l : List Int} (h : Brow w B l) (hb : Below b w w') (hlt : B < b) : Brow w' B l :=
  ⟨fun j hj => (hb.cell (p := ⟨B, j, none⟩) hlt).trans (h.1 j hj), fun j => (hb.frozen (p := ⟨B, j, none⟩) hlt).trans (h.2 j)⟩
theorem Brow.set {w : World} {B k : Nat} {l : List Int} (h : Brow w B l) (x : Int) (hk : k < l.length) : Brow (w.setCell ⟨B, k, none⟩ (.int .u8 x)) B (l.set k x) := by
  refine ⟨fun j hj => ?_, fun j => by rw [World.frozen?_setCell]; exact h.2 j⟩
  rw [List.length_set] at hj
  by_cases hjk : j = k
  · subst hjk
    rw [cell_setCell_eq (h.1 j hj)]
    simp [List.getD, hj]
  · rw [cell_setCell_off (Ne.symm hjk), h.1 j hj]
    simp [List.getD, List.getElem?_set_ne (Ne.symm hjk)]

theorem brow_make {w w1 : World} {m c : Nat} (hown : w1.ownsRow w.heap.size 5 1 (.slice (some ⟨w.heap.size, 0, none⟩) m c) m (madeCells (Value.int .u8 0).cells (m * 1)).toList) (hg : w.grownBy w1 none) (h0 : 0 < m) :
    Brow w1 w.heap.size (List.replicate m 0) ∧ Below w.heap.size w w1 ∧ w.heap.size < w1.heap.size := by
  have hb : Below w.heap.size w w1 := brf.grown hg (Nat.le_refl _) (fun k e => by cases e)
  have hl := hown.lt w.heap.size rfl
  refine ⟨⟨fun j hj => ?_, fun j => ?_⟩, hb, hl.2⟩
  · have := hown.cells (g := w.heap.size) rfl j (.int .u8 ((List.replicate m 0).getD j 0)) (by
      simp at hj
      simp [madeCells, Value.cells, hj, List.getD, Nat.mod_one])
    have hadd : (Addr.mk w.heap.size 0 none).add j = ⟨w.heap.size, 0 + j, none⟩ := by
      unfold Addr.add
      by_cases h : j = 0 <;> simp [h]
    rw [hadd, Nat.zero_add] at this
    exact this
  · rcases hown.2 with ⟨h1, _⟩ | ⟨g, cap, cur, h1, _, hg, _⟩
    · cases h1
    · simp only [Value.slice.injEq, Option.some.injEq, Addr.mk.injEq] at h1
      obtain ⟨⟨rfl, _⟩, _⟩ := h1
      simp [World.frozen?, hg]

theorem copy_rd {P : Program} {ops : Array Oper} {rest : List Oper} {op : Oper} {act : Act} {w : World} {Q : Exit → Act → World → Prop} (hgd : op.guard = none) (d s : Operand) (dT sT elem : TypeId)
    (ho : op.op = .call { callee := .builtin .copy, args := #[d, s], argTypes := #[dT, sT] }) (hu : P.underlying dT = some (.slice elem)) (hi : (P.info? elem).map (·.size) = some 1)
    (B m dCap : Nat) (A : Option Addr) (n sCap : Nat) (xs l : List Int) (hd : act.eval d = .slice (some ⟨B, 0, none⟩) m dCap) (hs : act.eval s = .slice A n sCap)
    (hn : xs.length = n) (hle : n ≤ m) (hx : Rd w A (nums .u8 xs)) (hB : Brow w B l) (hl : l.length = m)
    (h : ∀ w2, Brow w2 B (xs ++ l.drop n) → Below B w w2 → w2.heap.size = w.heap.size → wpList P ops Q rest (act.put op.dst (goInt n)) w2) : wpList P ops Q (op :: rest) act w := by
  rcases Nat.eq_zero_or_pos n with h0 | h0
  · subst h0
    have : xs = [] := List.eq_nil_of_length_eq_zero hn
    subst this
    exact wpList_copy_nothing hgd d s dT sT ho elem hu hi _ _ _ _ _ _ hd hs (by simp) (h w (by simpa using hB) (Below.refl _ _) rfl)
  · obtain ⟨b, off, rfl, hlt, hc⟩ := hx.at_ (by simp; omega)
    have hmin : Nat.min n m = n := Nat.min_eq_left hle
    refine copy_named hgd d s dT sT elem ho B 0 m dCap ⟨b, off, none⟩ n sCap (nums .u8 xs) hd hs hu hi (by simp [hn, hmin]) ?_ ?_ ?_ ?_ ?_
    · intro j v hv
      have := hc j v hv
      have hadd : (Addr.mk b off none).add j = ⟨b, off + j, none⟩ := by
        unfold Addr.add
        by_cases h : j = 0 <;> simp [h]
      rwa [hadd]
    · intro j hj
      rw [Nat.zero_add, hB.1 j (by simp at hj; omega)]
      rfl
    · intro j _
      exact hB.2 _
    · intro v hv
      obtain ⟨x, _, rfl⟩ := List.mem_map.1 hv
      rfl
    · intro w2 hw2
      have e : (nums .u8 xs).length = n := by simp [hn]
      rw [e]
      refine h w2 ?_ ?_ ?_
      · subst hw2
        refine ⟨fun j hj => ?_, fun j => by rw [World.frozen?_setCells]; exact hB.2 j⟩
        have hj : j < n + (m - n) := by simpa [hn, hl] using hj
        by_cases hjn : j < n
        · have := World.cell?_setCells_in B (nums .u8 xs) 0 w (fun j hj => by
            rw [Nat.zero_add, hB.1 j (by simp at hj; omega)]; rfl) j (by simpa [hn] using hjn)
          rw [Nat.zero_add] at this
          rw [this]
          simp [List.getD, List.getElem?_append_left (show j < xs.length by omega), List.getElem?_eq_getElem (show j < xs.length by omega)]
        · rw [World.cell?_setCells_out _ _ _ _ _ (fun _ _ => .inr (by simp [hn]; omega)), hB.1 j (by omega)]
          simp [List.getD, List.getElem?_append_right (show xs.length ≤ j by omega), hn]
          rw [show n + (j - n) = j by omega]
      · subst hw2; exact below_cells (Nat.le_refl _) _ _ (Below.refl _ _)
      · subst hw2; rw [size_cells]

/-- The last k bytes of a row of m, those of a number. -/
def tailN (m v : Nat) (l : List Int) : Nat → List Int
  | 0 => l
  | k + 1 => (tailN m v l k).set (m - 1 - k) (((v / 2 ^ (8 * k)) % 256 : Nat) : Int)
theorem tailN_len (m v : Nat) (l : List Int) (k : Nat) : (tailN m v l k).length = l.length := by
  induction k with
  | zero => rfl
  | succ k ih => simp [tailN, ih]

/-- What bytes are padded to. -/
def padded (xs : List Int) : List Int := tailN (padLen xs.length) (8 * xs.length) ((xs ++ List.replicate (padLen xs.length - xs.length) 0).set xs.length 128) 8

def IsPadded (w : World) (xs : List Int) (e : Ending) (w' : World) : Prop :=
  e = .returned (.slice (some ⟨w.heap.size, 0, none⟩) (padLen xs.length) (padLen xs.length)) ∧ Brow w' w.heap.size (padded xs) ∧ Below w.heap.size w w' ∧ w.heap.size < w'.heap.size

/-- Where a hash begins. -/
def h0l : List Int := [1779033703, 3144134277, 1013904242, 2773480762, 1359893119, 2600822924, 528734635, 1541459225]
def IsStart (w : World) (e : Ending) (w' : World) : Prop := e = .returned (.agg (h0l.map (Value.int .u32)).toArray) ∧ Below w.heap.size w w'
end Go.Proofs.Ytmkmndgdakpojaa
