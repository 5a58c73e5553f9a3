/- sha.Sum: its contract. -/
import Derived.Test.YtmkmndgdakpojaaDoorSf
namespace Go.Proofs.YtmkmndgdakpojaaDoor
open Go.RowKit Go.Shelf
set_option linter.unusedSimpArgs false
set_option linter.unusedVariables false
attribute [local go_sem] Oper.semAt_some

/-- A row's block k. -/
def chunk (ps : List Int) (k : Nat) : List Int := (ps.drop (64 * k)).take 64
/-- What these blocks come to, from the start on. -/
def foldB (ps : List Int) (ks : List Nat) : List Int := ks.foldl (fun l k => blk l (chunk ps k)) h0l
theorem foldB_snoc (ps : List Int) (ks : List Nat) (k : Nat) : foldB ps (ks ++ [k]) = blk (foldB ps ks) (chunk ps k) := by simp [foldB]
theorem foldB_len (ps : List Int) (ks : List Nat) : (foldB ps ks).length = 8 := by
  have h : ∀ (ks : List Nat) (l : List Int), l.length = 8 → (ks.foldl (fun l k => blk l (chunk ps k)) l).length = 8 := by
    intro ks
    induction ks with
    | nil => intro l h; exact h
    | cons k ks ih => intro l h; exact ih _ (blk_len h _)
  exact h ks h0l rfl
theorem h0a : (h0l.map (Value.int .u32)).toArray = #[.int .u32 1779033703, .int .u32 3144134277, .int .u32 1013904242, .int .u32 2773480762, .int .u32 1359893119, .int .u32 2600822924, .int .u32 528734635, .int .u32 1541459225] := rfl
/-- How many blocks bytes have when they are padded. -/
def many (n : Nat) : Nat := padLen n / 64
theorem padLen_many (n : Nat) : padLen n = 64 * many n := by unfold many padLen; omega
theorem padded_len (xs : List Int) : (padded xs).length = padLen xs.length := by
  unfold padded
  rw [tailN_len]
  simp
  unfold padLen; omega
def hashL (xs : List Int) : List Int := foldB (padded xs) (upto (many xs.length))
/-- Words' bytes. -/
def wordB (x : Int) : List Int := [x / 16777216, x / 65536 % 256, x / 256 % 256, x % 256]
def bytesL (l : List Int) : List Int := l.flatMap wordB
def sumL (xs : List Int) : List Int := bytesL (hashL xs)

section
variable {W W' : World} {row : Option Nat} (hg : W.grownBy W' row) (hr : ∀ r, row = some r → ∃ o : Obj, W.heap[r]? = some o ∧ o.isCells = false)
include hg hr
theorem Arr.kept {B : Nat} {l : List Int} (hl : 0 < l.length) (h : Arr W B l) : Arr W' B l := by
  obtain ⟨o, ho, hc⟩ := cells_of_cell (h.1 0 hl)
  have hk : W'.heap[B]? = W.heap[B]? := grownBy_keeps_cells hg hr ho hc
  exact ⟨fun j hj => (World.cell?_of_block (a := ⟨B, j, none⟩) hk).trans (h.1 j hj), fun j => (World.frozen?_of_block (a := ⟨B, j, none⟩) hk).trans (h.2 j)⟩
theorem Brow.kept {B : Nat} {l : List Int} (hl : 0 < l.length) (h : Brow W B l) : Brow W' B l := by
  obtain ⟨o, ho, hc⟩ := cells_of_cell (h.1 0 hl)
  have hk : W'.heap[B]? = W.heap[B]? := grownBy_keeps_cells hg hr ho hc
  exact ⟨fun j hj => (World.cell?_of_block (a := ⟨B, j, none⟩) hk).trans (h.1 j hj), fun j => (World.frozen?_of_block (a := ⟨B, j, none⟩) hk).trans (h.2 j)⟩
theorem Konst.kept (h : Konst W) : Konst W' := fun j hj => cell_kept (h j hj) hg hr
end
theorem Brow.rd {w : World} {B k : Nat} {l : List Int} (h : Brow w B l) (hB : B < w.heap.size) (hk : 64 * k + 64 ≤ l.length) : Rd w (some ⟨B, 64 * k, none⟩) (nums .u8 (chunk l k)) := by
  refine .inr ⟨B, 64 * k, rfl, hB, fun i v hv => ?_⟩
  have hi : i < 64 := by
    have := (List.getElem?_eq_some_iff.1 hv).1
    simp [chunk] at this
    omega
  rw [h.1 (64 * k + i) (by omega), ← hv]
  simp [nums, chunk, List.getD, List.getElem?_take, hi, List.getElem?_drop, List.getElem?_eq_getElem (show 64 * k + i < l.length by omega)]
theorem chunk_len {l : List Int} {k : Nat} (hk : 64 * k + 64 ≤ l.length) : (chunk l k).length = 64 := by simp [chunk]; omega

theorem Arr.eight {w : World} {B : Nat} {a b c d e f g i : Int} (h : Arr w B [a, b, c, d, e, f, g, i]) :
    w.cell? ⟨B, 0, none⟩ = some (.int .u32 a) ∧ w.cell? ⟨B, 1, none⟩ = some (.int .u32 b) ∧ w.cell? ⟨B, 2, none⟩ = some (.int .u32 c) ∧ w.cell? ⟨B, 3, none⟩ = some (.int .u32 d) ∧ w.cell? ⟨B, 4, none⟩ = some (.int .u32 e) ∧ w.cell? ⟨B, 5, none⟩ = some (.int .u32 f) ∧ w.cell? ⟨B, 6, none⟩ = some (.int .u32 g) ∧ w.cell? ⟨B, 7, none⟩ = some (.int .u32 i) ∧
    (w.frozen? ⟨B, 0, none⟩ = false ∧ w.frozen? ⟨B, 1, none⟩ = false ∧ w.frozen? ⟨B, 2, none⟩ = false ∧ w.frozen? ⟨B, 3, none⟩ = false ∧ w.frozen? ⟨B, 4, none⟩ = false ∧ w.frozen? ⟨B, 5, none⟩ = false ∧ w.frozen? ⟨B, 6, none⟩ = false ∧ w.frozen? ⟨B, 7, none⟩ = false) :=
  ⟨h.1 0 (by simp), h.1 1 (by simp), h.1 2 (by simp), h.1 3 (by simp), h.1 4 (by simp), h.1 5 (by simp), h.1 6 (by simp), h.1 7 (by simp), h.2 0, h.2 1, h.2 2, h.2 3, h.2 4, h.2 5, h.2 6, h.2 7⟩
theorem keepsOthers_cells (b : Nat) : ∀ (vs : List Value) (o : Nat) (w : World), KeepsOthers w (w.setCells b o vs)
  | [], _, w => KeepsOthers.refl w
  | v :: r, o, w => (KeepsOthers.setCell w ⟨b, o, none⟩ v).trans (keepsOthers_cells b r (o + 1) _)
theorem keepsOthers_below {w w' : World} (h : Below w.heap.size w w') : KeepsOthers w w' :=
  ⟨h.size, fun k o hk _ => (h.block k (Array.getElem?_eq_some_iff.1 hk).1).trans hk⟩
theorem Arr.stored {w : World} {B : Nat} {l l' : List Int} (h : Arr w B l) (hl : l'.length = l.length) : Arr (w.setCells B 0 (l'.map (Value.int .u32))) B l' := by
  refine ⟨fun j hj => ?_, fun j => by rw [World.frozen?_setCells]; exact h.2 j⟩
  have := World.cell?_setCells_in B (l'.map (Value.int .u32)) 0 w (fun j hj => by
    rw [Nat.zero_add, h.1 j (by simpa [hl] using hj)]; rfl) j (by simpa using hj)
  rw [Nat.zero_add] at this
  rw [this]
  simp [List.getD, hj]

def Words (l : List Int) : Prop := ∀ x ∈ l, 0 ≤ x ∧ x < 4294967296

/-- A row of its own that reads as bytes. -/
def IsBytes (w : World) (ys : List Int) (e : Ending) (w' : World) : Prop :=
  ∃ B c, e = .returned (.slice (some ⟨B, 0, none⟩) ys.length c) ∧ ys.length ≤ c ∧ w.heap.size ≤ B ∧ Rd w' (some ⟨B, 0, none⟩) (nums .u8 ys) ∧ Below w.heap.size w w'

theorem index8_0 (a b c d e f g i : Int) (w : World) : (Instr.index 69 (.agg #[.int .u32 a, .int .u32 b, .int .u32 c, .int .u32 d, .int .u32 e, .int .u32 f, .int .u32 g, .int .u32 i]) (.int .i64 (0 : Nat))).run Tryd.prog w = .ok (.int .u32 a) w := by kernel_rfl
theorem index8_1 (a b c d e f g i : Int) (w : World) : (Instr.index 69 (.agg #[.int .u32 a, .int .u32 b, .int .u32 c, .int .u32 d, .int .u32 e, .int .u32 f, .int .u32 g, .int .u32 i]) (.int .i64 (1 : Nat))).run Tryd.prog w = .ok (.int .u32 b) w := by kernel_rfl
theorem index8_2 (a b c d e f g i : Int) (w : World) : (Instr.index 69 (.agg #[.int .u32 a, .int .u32 b, .int .u32 c, .int .u32 d, .int .u32 e, .int .u32 f, .int .u32 g, .int .u32 i]) (.int .i64 (2 : Nat))).run Tryd.prog w = .ok (.int .u32 c) w := by kernel_rfl
theorem index8_3 (a b c d e f g i : Int) (w : World) : (Instr.index 69 (.agg #[.int .u32 a, .int .u32 b, .int .u32 c, .int .u32 d, .int .u32 e, .int .u32 f, .int .u32 g, .int .u32 i]) (.int .i64 (3 : Nat))).run Tryd.prog w = .ok (.int .u32 d) w := by kernel_rfl
theorem index8_4 (a b c d e f g i : Int) (w : World) : (Instr.index 69 (.agg #[.int .u32 a, .int .u32 b, .int .u32 c, .int .u32 d, .int .u32 e, .int .u32 f, .int .u32 g, .int .u32 i]) (.int .i64 (4 : Nat))).run Tryd.prog w = .ok (.int .u32 e) w := by kernel_rfl
theorem index8_5 (a b c d e f g i : Int) (w : World) : (Instr.index 69 (.agg #[.int .u32 a, .int .u32 b, .int .u32 c, .int .u32 d, .int .u32 e, .int .u32 f, .int .u32 g, .int .u32 i]) (.int .i64 (5 : Nat))).run Tryd.prog w = .ok (.int .u32 f) w := by kernel_rfl
theorem index8_6 (a b c d e f g i : Int) (w : World) : (Instr.index 69 (.agg #[.int .u32 a, .int .u32 b, .int .u32 c, .int .u32 d, .int .u32 e, .int .u32 f, .int .u32 g, .int .u32 i]) (.int .i64 (6 : Nat))).run Tryd.prog w = .ok (.int .u32 g) w := by kernel_rfl
theorem index8_7 (a b c d e f g i : Int) (w : World) : (Instr.index 69 (.agg #[.int .u32 a, .int .u32 b, .int .u32 c, .int .u32 d, .int .u32 e, .int .u32 f, .int .u32 g, .int .u32 i]) (.int .i64 (7 : Nat))).run Tryd.prog w = .ok (.int .u32 i) w := by kernel_rfl
theorem index8 (a b c d e f g i : Int) (w : World) (k : Nat) (h : k < 8) :
    (Instr.index 69 (.agg #[.int .u32 a, .int .u32 b, .int .u32 c, .int .u32 d, .int .u32 e, .int .u32 f, .int .u32 g, .int .u32 i]) (.int .i64 (k : Int))).run Tryd.prog w = .ok (.int .u32 ([a, b, c, d, e, f, g, i].getD k 0)) w := by
  have hk : k = 0 ∨ k = 1 ∨ k = 2 ∨ k = 3 ∨ k = 4 ∨ k = 5 ∨ k = 6 ∨ k = 7 := by omega
  rcases hk with rfl | rfl | rfl | rfl | rfl | rfl | rfl | rfl
  · exact index8_0 a b c d e f g i w
  · exact index8_1 a b c d e f g i w
  · exact index8_2 a b c d e f g i w
  · exact index8_3 a b c d e f g i w
  · exact index8_4 a b c d e f g i w
  · exact index8_5 a b c d e f g i w
  · exact index8_6 a b c d e f g i w
  · exact index8_7 a b c d e f g i w
theorem addN_words (l v : List Int) (n : Nat) : ∀ i, i < n → i < l.length → 0 ≤ (addN l v n).getD i 0 ∧ (addN l v n).getD i 0 < 4294967296 := by
  induction n with
  | zero => intro i hi; omega
  | succ n ih =>
    intro i hi hl
    rw [addN]
    by_cases h : i = n
    · subst h
      have hl2 : i < (addN l v i).length := by rw [addN_len]; exact hl
      simp [List.getD, hl2]
      omega
    · have := ih i (by omega) hl
      simpa [List.getD, List.getElem?_set_ne (Ne.symm h)] using this
theorem blk_words {l : List Int} (h : l.length = 8) (bs : List Int) : Words (blk l bs) := by
  intro x hx
  obtain ⟨i, hi, rfl⟩ := List.mem_iff_getElem.1 hx
  have hi8 : i < 8 := by rw [blk_len h] at hi; exact hi
  have := addN_words l (runN (sched bs) l 64) 8 i hi8 (by omega)
  rw [← blk] at this
  simpa [List.getD, List.getElem?_eq_getElem hi] using this
theorem foldB_words (ps : List Int) (ks : List Nat) : Words (foldB ps ks) := by
  have h : ∀ (ks : List Nat) (l : List Int), l.length = 8 → Words l → Words (ks.foldl (fun l k => blk l (chunk ps k)) l) := by
    intro ks
    induction ks with
    | nil => intro l _ h; exact h
    | cons k ks ih => intro l h _; exact ih _ (blk_len h _) (blk_words h _)
  exact h ks h0l rfl (fun x hx => by simp [h0l] at hx; omega)
theorem pc_upto (q : Nat) : (upto q).map (pc q) = upto q := by
  have : ∀ k ∈ upto q, pc q k = k := fun k hk => by
    have := List.mem_range.1 hk
    simp [pc, this]
  exact (List.map_congr_left this).trans (List.map_id' _)
theorem add_off (b o j : Nat) : (Addr.mk b o none).add j = ⟨b, o + j, none⟩ := by
  unfold Addr.add
  by_cases h : j = 0 <;> simp [h]
theorem four_there (w : World) (a b c d : Value) (t : TypeId) (j : Nat) (u : Value) (h : [a, b, c, d][j]? = some u) : (w.alloc (.cells #[a, b, c, d] t)).cell? ((Addr.mk w.heap.size 0 none).add j) = some u := by
  rw [add_off, Nat.zero_add, World.cell?_alloc_at _ _ _ _ rfl]
  simpa using h
theorem word_take (v : List Int) (k : Nat) (x : Int) (h : v[k]? = some x) : bytesL (v.take (k + 1)) = bytesL (v.take k) ++ wordB x := by
  rw [List.take_add_one, h]
  simp [bytesL]
theorem nums_app (k : IntKind) (a b : List Int) : nums k (a ++ b) = nums k a ++ nums k b := by simp [nums]

set_option maxRecDepth 100000 in
set_option maxHeartbeats 4000000 in
theorem sum_any (A : Option Addr) (n c : Nat) (xs : List Int) (w : World) (hn : xs.length = n) (hb : n ≤ 4000) (hx : Rd w A (nums .u8 xs)) (hK : Konst w) :
    Calls Tryd.prog 44 #[.slice A n c] w (IsBytes w (sumL xs)) := by
  have HN := Lib.hid hn
  have HK := Lib.hid hK
  have HX := Lib.hid hx
  have hw0 : 0 < w.heap.size := cell_lt (hK 0 (by omega))
  clear hn hK hx
  refine (callsIn_wide (n := 8)).1 ?_
  refine callsIn_of_wp_marks Tryd.func44 rfl trivial ?_ rfl
  simp only [Tryd.ntmps44, List.size_toArray, List.length_cons, List.length_nil, Nat.reduceAdd, Nat.reduceSub, Array.replicate_succ, Array.replicate_zero, List.push_toArray, List.append_toArray, List.nil_append, List.cons_append]
  have d1 : 1 ≤ 7 := by omega
  gi_wp2_with (refine ⟨trivial, ?_⟩; first
    | (gi_at_call 51; refine (callsIn_wide.2 (start_any _)).mono ?_; rintro e w1 ⟨he, hb1⟩; rw [h0a] at he; subst he)
    | (gi_at_call 53; refine (callsIn_wide.2 (pad_any A n c xs _ HN.out hb (HX.out.below (hb1.trans ((bal brf _).mono hb1.size))))).mono ?_; rintro e w2 ⟨he, hp2, hb2, hl2⟩; rw [HN.out] at he; subst he)
    | (gi_at_call 52; refine (callsIn_wide.2 (blocks_any _ _ _ _)).mono ?_; rintro e w3 ⟨rfl, rfl⟩))
  have q1 : 0 < many n := by unfold many padLen; omega
  have q2 : many n ≤ 1000 := by unfold many padLen; omega
  have hpl : (padded xs).length = 64 * many n := by rw [padded_len, padLen_many, HN.out]
  obtain ⟨ps, hps⟩ : ∃ ps, ps = padded xs := ⟨_, rfl⟩
  rw [← hps] at hp2 hpl
  obtain ⟨m, hm⟩ : ∃ m, m = padLen n := ⟨_, rfl⟩
  rw [← hm]
  have hA0 : Arr (w1.alloc (.cells #[.int .u32 1779033703, .int .u32 3144134277, .int .u32 1013904242, .int .u32 2773480762, .int .u32 1359893119, .int .u32 2600822924, .int .u32 528734635, .int .u32 1541459225] 69)) w1.heap.size h0l := ⟨fun j hj => (by
      rw [World.cell?_alloc_at _ _ _ _ rfl]
      match j, hj with
      | 0, _ | 1, _ | 2, _ | 3, _ | 4, _ | 5, _ | 6, _ | 7, _ => rfl), fun j => by simp [go_sem]⟩
  have hB1 := hb1.trans ((bal brf (.cells #[.int .u32 1779033703, .int .u32 3144134277, .int .u32 1013904242, .int .u32 2773480762, .int .u32 1359893119, .int .u32 2600822924, .int .u32 528734635, .int .u32 1541459225] 69)).mono hb1.size)
  have hz1 := hb1.size
  rw [World.size_alloc] at hb2 hp2 hl2
  generalize w1.alloc (.cells #[.int .u32 1779033703, .int .u32 3144134277, .int .u32 1013904242, .int .u32 2773480762, .int .u32 1359893119, .int .u32 2600822924, .int .u32 528734635, .int .u32 1541459225] 69) = w1' at hA0 hB1 hb2
  have hA2 : Arr w2 w1.heap.size h0l := hA0.below hb2 (Nat.lt_succ_self _)
  have hB2 : Below w.heap.size w w2 := hB1.trans (hb2.mono (by omega))
  have hK2 : Konst w2 := HK.out.below hB2 (by have := cell_lt (HK.out 0 (by omega)); simp at this; omega)
  have hA3 : Arr (w2.alloc (.cells #[.slice (some ⟨w1.heap.size + 1, 0, none⟩) m m] 22)) w1.heap.size h0l := hA2.below (bal brf _) (by omega)
  have hP3 : Brow (w2.alloc (.cells #[.slice (some ⟨w1.heap.size + 1, 0, none⟩) m m] 22)) (w1.heap.size + 1) ps := hp2.below (bal brf _) (by omega)
  have hK3 : Konst (w2.alloc (.cells #[.slice (some ⟨w1.heap.size + 1, 0, none⟩) m m] 22)) := hK2.below (bal brf _) (by omega)
  have hB3 : Below w.heap.size w (w2.alloc (.cells #[.slice (some ⟨w1.heap.size + 1, 0, none⟩) m m] 22)) := hB2.trans ((bal brf _).mono hB2.size)
  have hc3 : (w2.alloc (.cells #[.slice (some ⟨w1.heap.size + 1, 0, none⟩) m m] 22)).cell? ⟨w2.heap.size, 0, none⟩ = some (.slice (some ⟨w1.heap.size + 1, 0, none⟩) m m) := by
    rw [World.cell?_alloc_at _ _ _ _ rfl]; rfl
  have hz3 : (w2.alloc (.cells #[.slice (some ⟨w1.heap.size + 1, 0, none⟩) m m] 22)).heap.size = w2.heap.size + 1 := World.size_alloc _ _
  generalize w2.alloc (.cells #[.slice (some ⟨w1.heap.size + 1, 0, none⟩) m m] 22) = w3 at hA3 hP3 hK3 hB3 hc3 hz3 ⊢
  obtain ⟨bh, hbh⟩ : ∃ bh, bh = w1.heap.size := ⟨_, rfl⟩
  obtain ⟨Bs, hBs⟩ : ∃ Bs, Bs = w2.heap.size := ⟨_, rfl⟩
  rw [← hbh] at hA3 hP3 hc3 hl2 hz1 ⊢
  rw [← hBs] at hc3 hz3 hl2 ⊢
  have HM := Lib.hid (show m = 64 * many n by rw [hm, padLen_many])
  have HPS := Lib.hid hps
  have HPL := Lib.hid hpl
  clear hbh hBs hA2 hK2 hB2 hA0 hB1 hb2 hp2 hb1 hm hps hpl w2 w1 w1'
  refine wpIn_rangeFunc_ownF rfl (by omega) (gf := 59) (lb := #[.pointer (some ⟨Bs, 0, none⟩)]) rfl trivial (enters_of Tryd.func59 (by kernel_rfl) rfl)
    (blocks_stops Fence.wide 7 trivial rfl (by omega) Bs (bh + 1) m (many n) HM.out (by omega) w3 (by omega) hc3) keepsAt_t (keepsAt_b (by omega)) (Below.refl _ _) (fun _ => rfl)
    (fun pre W => (Arr W bh (foldB ps (pre.map (pc (many n)))) ∧ Brow W (bh + 1) ps ∧ Konst W ∧ w3.heap.size ≤ W.heap.size) ∧ Below w.heap.size w W)
    (fun _ _ _ => False)
    (OwnFrom.and (Own.from (fun s A B row hs hg hr => ⟨hs.1.kept hg hr (by rw [foldB_len]; omega), hs.2.1.kept hg hr (by have := HPL.out; omega), hs.2.2.1.kept hg hr, Nat.le_trans hs.2.2.2 hg.size⟩) _) (ownFrom_below (Nat.le_refl _) (by have := hB3.size; omega)))
    (fun _ _ _ _ _ hs _ _ => hs)
    ⟨⟨hA3, hP3, hK3, Nat.le_refl _⟩, hB3⟩
    (fun x => { tmps := #[.slice A n c, undef, .slice none 0 0, .pointer (some ⟨bh, 0, none⟩), .slice (some ⟨bh + 1, 64 * pc (many n) x, none⟩) 64 (m - 64 * pc (many n) x), undef, undef, undef, .agg #[.int .u32 1779033703, .int .u32 3144134277, .int .u32 1013904242, .int .u32 2773480762, .int .u32 1359893119, .int .u32 2600822924, .int .u32 528734635, .int .u32 1541459225], .slice A n c, .slice (some ⟨bh + 1, 0, none⟩) m m, .func (.func 59) #[] #[.pointer (some ⟨Bs, 0, none⟩)], .slice (some ⟨bh + 1, 64 * pc (many n) x, none⟩) 64 (m - 64 * pc (many n) x), undef, undef, undef, undef, undef, undef, undef, undef, undef, undef, undef, undef, undef, undef, undef, undef, undef, undef, undef, undef, undef, undef, undef, undef, undef, undef, undef], defers := [] }) ?assign ?body ?done ?stop
  case assign =>
    intro l x W K hK
    unfold piece
    gi_wp2
    exact hK
  case body =>
    rintro l pre x W ⟨⟨hA, hP, hK, hsz⟩, hB⟩ _
    obtain ⟨v0, v1, v2, v3, v4, v5, v6, v7, hv⟩ := len8 (foldB_len ps (pre.map (pc (many n))))
    have hlt := pc_lt (k := x) q1
    obtain ⟨k, hk⟩ : ∃ k, k = pc (many n) x := ⟨_, rfl⟩
    rw [← hk] at hlt ⊢
    have hkl : 64 * k + 64 ≤ ps.length := by have := HPL.out; omega
    have hrd := hP.rd (k := k) (by omega) hkl
    have hcl := chunk_len hkl
    have hstep : foldB ps ((pre ++ [x]).map (pc (many n))) = blk [v0, v1, v2, v3, v4, v5, v6, v7] (chunk ps k) := by
      rw [List.map_append, List.map_cons, List.map_nil, foldB_snoc, hv, hk]
    obtain ⟨u0, u1, u2, u3, u4, u5, u6, u7, hu⟩ := len8 (blk_len (l := [v0, v1, v2, v3, v4, v5, v6, v7]) rfl (chunk ps k))
    rw [hv] at hA
    have c0 := hA.1 0 (by simp)
    have c1 := hA.1 1 (by simp)
    have c2 := hA.1 2 (by simp)
    have c3 := hA.1 3 (by simp)
    have c4 := hA.1 4 (by simp)
    have c5 := hA.1 5 (by simp)
    have c6 := hA.1 6 (by simp)
    have c7 := hA.1 7 (by simp)
    simp at c0 c1 c2 c3 c4 c5 c6 c7
    have HA := Lib.hid hA
    have HP1 := Lib.hid hP
    have HK1 := Lib.hid hK
    have HST := Lib.hid hstep
    have HRD := Lib.hid hrd
    have HCL := Lib.hid hcl
    have HU := Lib.hid hu
    have HV := Lib.hid hv
    clear hA hP hK hstep hrd hcl hu hv hk
    have d2 : 1 ≤ 8 - 1 - 1 := by omega
    have hbW : bh < W.heap.size := by omega
    have f0 := HA.out.2
    gi_wp2_with (refine ⟨trivial, ?_⟩; gi_at_call 54; refine (CallsIn.inRound l (callsIn_wide.2 (block_any _ _ v0 v1 v2 v3 v4 v5 v6 v7 (chunk ps k) W HCL.out HRD.out HK1.out))).mono ?_; rintro e w4 ⟨he, hb4⟩; rw [HU.out] at he; simp only [List.map_cons, List.map_nil] at he; subst he; clear c0 c1 c2 c3 c4 c5 c6 c7 f0; obtain ⟨c0, c1, c2, c3, c4, c5, c6, c7, f0⟩ := (HA.out.below hb4 hbW).eight; obtain ⟨g0, g1, g2, g3, g4, g5, g6, g7⟩ := f0)
    have key : ∀ w5, w5 = w4.setCells bh 0 ([u0, u1, u2, u3, u4, u5, u6, u7].map (Value.int .u32)) → (KeepsOthers W w5 ∧ KeepsAt Bs W w5 ∧ ((Arr w5 bh (foldB ps ((pre ++ [x]).map (pc (many n)))) ∧ Brow w5 (bh + 1) ps ∧ Konst w5 ∧ w3.heap.size ≤ w5.heap.size) ∧ Below w.heap.size w w5)) := by
      intro w5 h5
      have z4 := hb4.size
      have z5 : w5.heap.size = w4.heap.size := by rw [h5, size_cells]
      have b5 : Below bh W w5 := by rw [h5]; exact below_cells (Nat.le_refl _) _ _ (hb4.mono (by omega))
      have hwb := hB3.size
      refine ⟨?_, ?_, ⟨⟨?_, ?_, ?_, ?_⟩, ?_⟩⟩
      · rw [h5]
        exact (keepsOthers_below hb4).trans (keepsOthers_cells _ _ _ _)
      · rw [h5]
        exact (World.cell?_setCells_out _ _ _ _ _ (fun h _ => absurd h (by show Bs ≠ bh; omega))).trans (hb4.cell (p := ⟨Bs, 0, none⟩) (by show Bs < W.heap.size; omega))
      · rw [h5, HST.out, HU.out]
        exact (HA.out.below hb4 hbW).stored rfl
      · rw [h5]
        have := HP1.out.below hb4 (by omega)
        exact ⟨fun j hj => (World.cell?_setCells_out _ _ _ _ _ (fun h _ => absurd h (by show bh + 1 ≠ bh; omega))).trans (this.1 j hj), fun j => by rw [World.frozen?_setCells]; exact this.2 j⟩
      · exact HK1.out.below b5 (by omega)
      · omega
      · exact hB.trans (b5.mono (by omega))
    exact key _ rfl
  case done =>
    rintro D ys W hD rfl ⟨⟨hA, hP, hK, hsz⟩, hB⟩ hDD
    obtain ⟨v0, v1, v2, v3, v4, v5, v6, v7, hv⟩ := len8 (foldB_len ps ((upto (many n)).map (pc (many n))))
    rw [hv] at hA
    obtain ⟨c0, c1, c2, c3, c4, c5, c6, c7, f0⟩ := hA.eight
    have HV := Lib.hid hv
    have hzw := hB.size
    clear hv hA hP hK f0
    obtain ⟨i0, hi, hz0, hz1', hz2⟩ := info_parts infoByte
    gi_wp2_with (gi_at_make; refine wpListIn_make_own _ rfl _ _ 22 rfl w.heap.size 5 i0 (.int .u8 0) 1 Tryd.underlying22 hi hz0 hz1' .i64 .i64 _ 32 rfl rfl rfl (by rw [hz2]; omega) (by unfold maxLen; omega) (by omega) ?_; intro w5 hown5 hgrow5; have c0 := cell_kept c0 hgrow5 (fun r e => by cases e); have c1 := cell_kept c1 hgrow5 (fun r e => by cases e); have c2 := cell_kept c2 hgrow5 (fun r e => by cases e); have c3 := cell_kept c3 hgrow5 (fun r e => by cases e); have c4 := cell_kept c4 hgrow5 (fun r e => by cases e); have c5 := cell_kept c5 hgrow5 (fun r e => by cases e); have c6 := cell_kept c6 hgrow5 (fun r e => by cases e); have c7 := cell_kept c7 hgrow5 (fun r e => by cases e))
    have hb5 : Below w.heap.size w w5 := hB.grown hgrow5 (by omega) (fun k e => by cases e)
    have hD5 : w5.heap[D]? = some (.deferred (some [])) := (hgrow5.block D (Array.getElem?_eq_some_iff.1 hDD).1 (by simp)).trans hDD
    have hDw : D < W.heap.size := (Array.getElem?_eq_some_iff.1 hDD).1
    clear c0 c1 c2 c3 c4 c5 c6 c7
    gi_loopw [5, 7, 21] (fun s5 _ i wr => ∃ k : Nat, k ≤ 8 ∧ i = .int .i64 k ∧ s5 = .slice (some ⟨W.heap.size, 0, none⟩) (4 * k) 32 ∧ wr.ownsRow w.heap.size 5 1 (.slice (some ⟨W.heap.size, 0, none⟩) (4 * k) 32) (4 * k) (nums .u8 (bytesL ([v0, v1, v2, v3, v4, v5, v6, v7].take k))) ∧ wr.heap[D]? = some (.deferred (some [])) ∧ Below w.heap.size w wr) (fun _ _ i _ => 8 - (intOf i).toNat)
    case atStart =>
      exact ⟨0, Nat.zero_le _, rfl, rfl, hown5, hD5, hb5⟩
    case round =>
      obtain ⟨k, hk, rfl, rfl, hown, hD6, hb6⟩ := hrel
      have r0 : (0 : Int) ≤ (k : Int) := by omega
      by_cases hlt : k < 8
      · have r1 : (k : Int) < 8 := by omega
        have hidx := index8 v0 v1 v2 v3 v4 v5 v6 v7 wr k hlt
        obtain ⟨x, hx⟩ : ∃ x, x = [v0, v1, v2, v3, v4, v5, v6, v7].getD k 0 := ⟨_, rfl⟩
        rw [← hx] at hidx
        have HX1 := Lib.hid hx
        obtain ⟨x0, x1⟩ : 0 ≤ x ∧ x < 4294967296 := by
          have hw := foldB_words ps ((upto (many n)).map (pc (many n)))
          rw [HV.out] at hw
          rw [hx]
          exact hw _ (by simp [List.getD, List.getElem?_eq_getElem (show k < [v0, v1, v2, v3, v4, v5, v6, v7].length from hlt), -List.mem_cons, List.getElem_mem])
        clear hx
        gi_wp2_with (gi_at_builtin; refine wpListIn_append_fits _ rfl _ _ 22 rfl w.heap.size 5 i0 1 Tryd.underlying22 hi hz1' W.heap.size (4 * k) 32 _ rfl (hown.alloc _) ⟨wr.heap.size, 0, none⟩ 4 4 [.int .u8 (x / 16777216), .int .u8 (x / 65536 % 256), .int .u8 (x / 256 % 256), .int .u8 (x % 256)] rfl rfl (four_there _ _ _ _ _ _) ?c2 (by omega) ?_; rotate_left; intro w6 hown6 hgrow6)
        refine ⟨⟨k + 1, by omega, by congr 1, by congr 1, ?_, ?_, ?_⟩, by show 8 - ((k : Int) + 1).toNat < 8 - (k : Int).toNat; omega⟩
        · rw [word_take _ k x (by rw [HX1.out]; simp [List.getD, List.getElem?_eq_getElem (show k < [v0, v1, v2, v3, v4, v5, v6, v7].length from hlt)]), nums_app]
          exact hown6
        · have hne : D ≠ W.heap.size := by omega
          have hD7 : D < wr.heap.size := (Array.getElem?_eq_some_iff.1 hD6).1
          exact (hgrow6.block D (by rw [World.size_alloc]; omega) (by simpa using hne)).trans ((Below.heap_alloc _ _ D hD7).trans hD6)
        · exact (hb6.alloc hb6.size _).grown hgrow6 (by rw [World.size_alloc]; have := hb6.size; omega) (fun r e => by cases e; exact hB.size)
        case c2 =>
          intro u hu
          simp at hu
          rcases hu with rfl | rfl | rfl | rfl <;> rfl
      · have r1 : (8 : Int) ≤ (k : Int) := by omega
        have hk8 : k = 8 := by omega
        have HK8 := Lib.hid hk8
        clear hk8
        gi_wp2
        refine ⟨by simp, .inl ⟨_, _, rfl, run_takeDeferred hD6, ?_⟩⟩
        have hkk := HK8.out
        subst hkk
        have hs : sumL xs = bytesL [v0, v1, v2, v3, v4, v5, v6, v7] := by
          rw [sumL, hashL, HN.out, ← HPS.out, ← HV.out, pc_upto]
        refine ⟨_, results_tmp rfl _ _ _, ?_⟩
        rw [hs]
        refine ⟨W.heap.size, 32, rfl, by simp [bytesL, wordB], hB.size, ?_, hb6.trans (belowK_b (w := w) (Nat.le_refl _) wr D _ _ (by have := hB3.size; omega) hD6 rfl rfl)⟩
        exact Rd.of_own (ownsRow_putObj hown _ hD6 rfl)
  case stop =>
    rintro D c pre W _ _ h _
    exact h.elim
end Go.Proofs.YtmkmndgdakpojaaDoor
