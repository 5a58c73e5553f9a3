/- sha.Sum: its contract. -/
import Derived.Test.YtmkmndgdakpojaaSf
namespace Go.Proofs.Ytmkmndgdakpojaa
open Go.RowKit Go.Shelf
set_option linter.unusedSimpArgs false
set_option linter.unusedVariables false
attribute [local go_sem] Oper.semAt_some

/-- A row's block k. -/
def chunk (ps : List Int) (k : Nat) : List Int := (ps.drop (64 * k)).take 64
/-- What these blocks come to, from the start on. -/
def foldB (ps : List Int) (ks : List Nat) : List Int := ks.foldl (fun l k => blk l (chunk ps k)) h0l
theorem foldB_snoc (ps : List Int) (ks : List Nat) (k : Nat) : foldB ps (ks ++ [k]) = blk (foldB ps ks) (chunk ps k) := by simp [foldB]
theorem foldB_len (ps : List Int) (ks : List Nat) : (foldB ps ks).length = 8 := by
  have h : ∀ (ks : List Nat) (l : List Int), l.length = 8 → (ks.foldl (fun l k => blk l (chunk ps k)) l).length = 8 := by
    intro ks
    induction ks with
    | nil => intro l h; exact h
    | cons k ks ih => intro l h; exact ih _ (blk_len h _)
  exact h ks h0l rfl
theorem h0a : (h0l.map (Value.int .u32)).toArray = #[.int .u32 1779033703, .int .u32 3144134277, .int .u32 1013904242, .int .u32 2773480762, .int .u32 1359893119, .int .u32 2600822924, .int .u32 528734635, .int .u32 1541459225] := rfl
/-- How many blocks bytes have when they are padded. -/
def many (n : Nat) : Nat := padLen n / 64
theorem padLen_many (n : Nat) : padLen n = 64 * many n := by unfold many padLen; omega
theorem padded_len (xs : List Int) : (padded xs).length = padLen xs.length := by
  unfold padded
  rw [tailN_len]
  simp
  unfold padLen; omega
def hashL (xs : List Int) : List Int := foldB (padded xs) (upto (many xs.length))
/-- Words' bytes. -/
def wordB (x : Int) : List Int := [x / 16777216, x / 65536 % 256, x / 256 % 256, x % 256]
def bytesL (l : List Int) : List Int := l.flatMap wordB
def sumL (xs : List Int) : List Int := bytesL (hashL xs)

section
variable {W W' : World} {row : Option Nat} (hg : W.grownBy W' row) (hr : ∀ r, row = some r → ∃ o : Obj, W.heap[r]? = some o ∧ o.isCells = false)
include hg hr
theorem Arr.kept {B : Nat} {l : List Int} (hl : 0 < l.length) (h : Arr W B l) : Arr W' B l := by
  obtain ⟨o, ho, hc⟩ := cells_of_cell (h.1 0 hl)
  have hk : W'.heap[B]? = W.heap[B]? := grownBy_keeps_cells hg hr ho hc
  exact ⟨fun j hj => (World.cell?_of_block (a := ⟨B, j, none⟩) hk).trans (h.1 j hj), fun j => (World.frozen?_of_block (a := ⟨B, j, none⟩) hk).trans (h.2 j)⟩
theorem Brow.kept {B : Nat} {l : List Int} (hl : 0 < l.length) (h : Brow W B l) : Brow W' B l := by
  obtain ⟨o, ho, hc⟩ := cells_of_cell (h.1 0 hl)
  have hk : W'.heap[B]? = W.heap[B]? := grownBy_keeps_cells hg hr ho hc
  exact ⟨fun j hj => (World.cell?_of_block (a := ⟨B, j, none⟩) hk).trans (h.1 j hj), fun j => (World.frozen?_of_block (a := ⟨B, j, none⟩) hk).trans (h.2 j)⟩
end
theorem Brow.rd {w : World} {B k : Nat} {l : List Int} (h : Brow w B l) (hB : B < w.heap.size) (hk : 64 * k + 64 ≤ l.length) : Rd w (some ⟨B, 64 * k, none⟩) (nums .u8 (chunk l k)) := by
  refine .inr ⟨B, 64 * k, rfl, hB, fun i v hv => ?_⟩
  have hi : i < 64 := by
    have := (List.getElem?_eq_some_iff.1 hv).1
    simp [chunk] at this
    omega
  rw [h.1 (64 * k + i) (by omega), ← hv]
  simp [nums, chunk, List.getD, List.getElem?_take, hi, List.getElem?_drop, List.getElem?_eq_getElem (show 64 * k + i < l.length by omega)]
theorem chunk_len {l : List Int} {k : Nat} (hk : 64 * k + 64 ≤ l.length) : (chunk l k).length = 64 := by simp [chunk]; omega

theorem Arr.eight {w : World} {B : Nat} {a b c d e f g i : Int} (h : Arr w B [a, b, c, d, e, f, g, i]) :
    w.cell? ⟨B, 0, none⟩ = some (.int .u32 a) ∧ w.cell? ⟨B, 1, none⟩ = some (.int .u32 b) ∧ w.cell? ⟨B, 2, none⟩ = some (.int .u32 c) ∧ w.cell? ⟨B, 3, none⟩ = some (.int .u32 d) ∧ w.cell? ⟨B, 4, none⟩ = some (.int .u32 e) ∧ w.cell? ⟨B, 5, none⟩ = some (.int .u32 f) ∧ w.cell? ⟨B, 6, none⟩ = some (.int .u32 g) ∧ w.cell? ⟨B, 7, none⟩ = some (.int .u32 i) ∧
    (w.frozen? ⟨B, 0, none⟩ = false ∧ w.frozen? ⟨B, 1, none⟩ = false ∧ w.frozen? ⟨B, 2, none⟩ = false ∧ w.frozen? ⟨B, 3, none⟩ = false ∧ w.frozen? ⟨B, 4, none⟩ = false ∧ w.frozen? ⟨B, 5, none⟩ = false ∧ w.frozen? ⟨B, 6, none⟩ = false ∧ w.frozen? ⟨B, 7, none⟩ = false) :=
  ⟨h.1 0 (by simp), h.1 1 (by simp), h.1 2 (by simp), h.1 3 (by simp), h.1 4 (by simp), h.1 5 (by simp), h.1 6 (by simp), h.1 7 (by simp), h.2 0, h.2 1, h.2 2, h.2 3, h.2 4, h.2 5, h.2 6, h.2 7⟩
theorem keepsOthers_cells (b : Nat) : ∀ (vs : List Value) (o : Nat) (w : World), KeepsOthers w (w.setCells b o vs)
  | [], _, w => KeepsOthers.refl w
  | v :: r, o, w => (KeepsOthers.setCell w ⟨b, o, none⟩ v).trans (keepsOthers_cells b r (o + 1) _)
theorem keepsOthers_below {w w' : World} (h : Below w.heap.size w w') : KeepsOthers w w' :=
  ⟨h.size, fun k o hk _ => (h.block k (Array.getElem?_eq_some_iff.1 hk).1).trans hk⟩
theorem Arr.stored {w : World} {B : Nat} {l l' : List Int} (h : Arr w B l) (hl : l'.length = l.length) : Arr (w.setCells B 0 (l'.map (Value.int .u32))) B l' := by
  refine ⟨fun j hj => ?_, fun j => by rw [World.frozen?_setCells]; exact h.2 j⟩
  have := World.cell?_setCells_in B (l'.map (Value.int .u32)) 0 w (fun j hj => by
    rw [Nat.zero_add, h.1 j (by simpa [hl] using hj)]; rfl) j (by simpa using hj)
  rw [Nat.zero_add] at this
  rw [this]
  simp [List.getD, hj]

def Words (l : List Int) : Prop := ∀ x ∈ l, 0 ≤ x ∧ x < 4294967296

/-- A row of its own that reads as bytes. -/
def IsBytes (w : World) (ys : List Int) (e : Ending) (w' : World) : Prop :=
  ∃ B c, e = .returned (.slice (some ⟨B, 0, none⟩) ys.length c) ∧ ys.length ≤ c ∧ w.heap.size ≤ B ∧ Rd w' (some ⟨B, 0, none⟩) (nums .u8 ys) ∧ Below w.heap.size w w'

theorem addN_words (l v : List Int) (n : Nat) : ∀ i, i < n → i < l.length → 0 ≤ (addN l v n).getD i 0 ∧ (addN l v n).getD i 0 < 4294967296 := by
  induction n with
  | zero => intro i hi; omega
  | succ n ih =>
    intro i hi hl
    rw [addN]
    by_cases h : i = n
    · subst h
      have hl2 : i < (addN l v i).length := by rw [addN_len]; exact hl
      simp [List.getD, hl2]
      omega
    · have := ih i (by omega) hl
      simpa [List.getD, List.getElem?_set_ne (Ne.symm h)] using this
theorem blk_words {l : List Int} (h : l.length = 8) (bs : List Int) : Words (blk l bs) := by
  intro x hx
  obtain ⟨i, hi, rfl⟩ := List.mem_iff_getElem.1 hx
  have hi8 : i < 8 := by rw [blk_len h] at hi; exact hi
  have := addN_words l (runN (sched bs) l 64) 8 i hi8 (by omega)
  rw [← blk] at this
  simpa [List.getD, List.getElem?_eq_getElem hi] using this
theorem foldB_words (ps : List Int) (ks : List Nat) : Words (foldB ps ks) := by
  have h : ∀ (ks : List Nat) (l : List Int), l.length = 8 → Words l → Words (ks.foldl (fun l k => blk l (chunk ps k)) l) := by
    intro ks
    induction ks with
    | nil => intro l _ h; exact h
    | cons k ks ih => intro l h _; exact ih _ (blk_len h _) (blk_words h _)
  exact h ks h0l rfl (fun x hx => by simp [h0l] at hx; omega)
theorem pc_upto (q : Nat) : (upto q).map (pc q) = upto q := by
  have : ∀ k ∈ upto q, pc q k = k := fun k hk => by
    have := List.mem_range.1 hk
    simp [pc, this]
  exact (List.map_congr_left this).trans (List.map_id' _)
theorem add_off (b o j : Nat) : (Addr.mk b o none).add j = ⟨b, o + j, none⟩ := by
  unfold Addr.add
  by_cases h : j = 0 <;> simp [h]
theorem four_there (w : World) (a b c d : Value) (t : TypeId) (j : Nat) (u : Value) (h : [a, b, c, d][j]? = some u) : (w.alloc (.cells #[a, b, c, d] t)).cell? ((Addr.mk w.heap.size 0 none).add j) = some u := by
  rw [add_off, Nat.zero_add, World.cell?_alloc_at _ _ _ _ rfl]
  simpa using h
theorem word_take (v : List Int) (k : Nat) (x : Int) (h : v[k]? = some x) : bytesL (v.take (k + 1)) = bytesL (v.take k) ++ wordB x := by
  rw [List.take_add_one, h]
  simp [bytesL]
theorem nums_app (k : IntKind) (a b : List Int) : nums k (a ++ b) = nums k a ++ nums k b := by simp [nums]

end Go.Proofs.Ytmkmndgdakpojaa
