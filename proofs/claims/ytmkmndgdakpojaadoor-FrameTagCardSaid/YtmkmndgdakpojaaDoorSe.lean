/- Where a hash begins; bytes padded. -/
import Derived.Test.YtmkmndgdakpojaaDoorSc
import Derived.Test.YtmkmndgdakpojaaDoorBytes
import Derived.Laws.CopyOwn
import Derived.Deep.Cut
namespace Go.Proofs.YtmkmndgdakpojaaDoor
open Go.RowKit
set_option linter.unusedSimpArgs false
set_option linter.unusedVariables false

/-- A row of bytes, from a block's head on, that may be stored to. -/
def Brow (w : World) (B : Nat) (l : List Int) : Prop := (∀ j, j < l.length → w.cell? ⟨B, j, none⟩ = some (.int .u8 (l.getD j 0))) ∧ ∀ j, w.frozen? ⟨B, j, none⟩ = false

theorem infoByte : (Tryd.prog.info? 5).map (fun i => (i.zero, i.size, i.bytes)) = some (some (.int .u8 0), 1, 1) := by kernel_rfl
theorem infoByte1 : (Tryd.prog.info? 5).map (·.size) = some 1 := by kernel_rfl
/-- How many bytes the padded ones are. -/
def padLen (n : Nat) : Nat := n + 9 + (64 - (n + 9) % 64) % 64

theorem Brow.below {w w' : World} {B b : Nat} {l : List Int} (h : Brow w B l) (hb : Below b w w') (hlt : B < b) : Brow w' B l :=
  ⟨fun j hj => (hb.cell (p := ⟨B, j, none⟩) hlt).trans (h.1 j hj), fun j => (hb.frozen (p := ⟨B, j, none⟩) hlt).trans (h.2 j)⟩
theorem Brow.set {w : World} {B k : Nat} {l : List Int} (h : Brow w B l) (x : Int) (hk : k < l.length) : Brow (w.setCell ⟨B, k, none⟩ (.int .u8 x)) B (l.set k x) := by
  refine ⟨fun j hj => ?_, fun j => by rw [World.frozen?_setCell]; exact h.2 j⟩
  rw [List.length_set] at hj
  by_cases hjk : j = k
  · subst hjk
    rw [cell_setCell_eq (h.1 j hj)]
    simp [List.getD, hj]
  · rw [cell_setCell_off (Ne.symm hjk), h.1 j hj]
    simp [List.getD, List.getElem?_set_ne (Ne.symm hjk)]

theorem brow_make {w w1 : World} {m c : Nat} (hown : w1.ownsRow w.heap.size 5 1 (.slice (some ⟨w.heap.size, 0, none⟩) m c) m (madeCells (Value.int .u8 0).cells (m * 1)).toList) (hg : w.grownBy w1 none) (h0 : 0 < m) :
    Brow w1 w.heap.size (List.replicate m 0) ∧ Below w.heap.size w w1 ∧ w.heap.size < w1.heap.size := by
  have hb : Below w.heap.size w w1 := brf.grown hg (Nat.le_refl _) (fun k e => by cases e)
  have hl := hown.lt w.heap.size rfl
  refine ⟨⟨fun j hj => ?_, fun j => ?_⟩, hb, hl.2⟩
  · have := hown.cells (g := w.heap.size) rfl j (.int .u8 ((List.replicate m 0).getD j 0)) (by
      simp at hj
      simp [madeCells, Value.cells, hj, List.getD, Nat.mod_one])
    have hadd : (Addr.mk w.heap.size 0 none).add j = ⟨w.heap.size, 0 + j, none⟩ := by
      unfold Addr.add
      by_cases h : j = 0 <;> simp [h]
    rw [hadd, Nat.zero_add] at this
    exact this
  · rcases hown.2 with ⟨h1, _⟩ | ⟨g, cap, cur, h1, _, hg, _⟩
    · cases h1
    · simp only [Value.slice.injEq, Option.some.injEq, Addr.mk.injEq] at h1
      obtain ⟨⟨rfl, _⟩, _⟩ := h1
      simp [World.frozen?, hg]

theorem copy_rd {P : Program} {ops : Array Oper} {rest : List Oper} {op : Oper} {act : Act} {w : World} {Q : Exit → Act → World → Prop} (hgd : op.guard = none) (d s : Operand) (dT sT elem : TypeId)
    (ho : op.op = .call { callee := .builtin .copy, args := #[d, s], argTypes := #[dT, sT] }) (hu : P.underlying dT = some (.slice elem)) (hi : (P.info? elem).map (·.size) = some 1)
    (B m dCap : Nat) (A : Option Addr) (n sCap : Nat) (xs l : List Int) (hd : act.eval d = .slice (some ⟨B, 0, none⟩) m dCap) (hs : act.eval s = .slice A n sCap)
    (hn : xs.length = n) (hle : n ≤ m) (hx : Rd w A (nums .u8 xs)) (hB : Brow w B l) (hl : l.length = m)
    (h : ∀ w2, Brow w2 B (xs ++ l.drop n) → Below B w w2 → w2.heap.size = w.heap.size → wpList P ops Q rest (act.put op.dst (goInt n)) w2) : wpList P ops Q (op :: rest) act w := by
  rcases Nat.eq_zero_or_pos n with h0 | h0
  · subst h0
    have : xs = [] := List.eq_nil_of_length_eq_zero hn
    subst this
    exact wpList_copy_nothing hgd d s dT sT ho elem hu hi _ _ _ _ _ _ hd hs (by simp) (h w (by simpa using hB) (Below.refl _ _) rfl)
  · obtain ⟨b, off, rfl, hlt, hc⟩ := hx.at_ (by simp; omega)
    have hmin : Nat.min n m = n := Nat.min_eq_left hle
    refine copy_named hgd d s dT sT elem ho B 0 m dCap ⟨b, off, none⟩ n sCap (nums .u8 xs) hd hs hu hi (by simp [hn, hmin]) ?_ ?_ ?_ ?_ ?_
    · intro j v hv
      have := hc j v hv
      have hadd : (Addr.mk b off none).add j = ⟨b, off + j, none⟩ := by
        unfold Addr.add
        by_cases h : j = 0 <;> simp [h]
      rwa [hadd]
    · intro j hj
      rw [Nat.zero_add, hB.1 j (by simp at hj; omega)]
      rfl
    · intro j _
      exact hB.2 _
    · intro v hv
      obtain ⟨x, _, rfl⟩ := List.mem_map.1 hv
      rfl
    · intro w2 hw2
      have e : (nums .u8 xs).length = n := by simp [hn]
      rw [e]
      refine h w2 ?_ ?_ ?_
      · subst hw2
        refine ⟨fun j hj => ?_, fun j => by rw [World.frozen?_setCells]; exact hB.2 j⟩
        have hj : j < n + (m - n) := by simpa [hn, hl] using hj
        by_cases hjn : j < n
        · have := World.cell?_setCells_in B (nums .u8 xs) 0 w (fun j hj => by
            rw [Nat.zero_add, hB.1 j (by simp at hj; omega)]; rfl) j (by simpa [hn] using hjn)
          rw [Nat.zero_add] at this
          rw [this]
          simp [List.getD, List.getElem?_append_left (show j < xs.length by omega), List.getElem?_eq_getElem (show j < xs.length by omega)]
        · rw [World.cell?_setCells_out _ _ _ _ _ (fun _ _ => .inr (by simp [hn]; omega)), hB.1 j (by omega)]
          simp [List.getD, List.getElem?_append_right (show xs.length ≤ j by omega), hn]
          rw [show n + (j - n) = j by omega]
      · subst hw2; exact below_cells (Nat.le_refl _) _ _ (Below.refl _ _)
      · subst hw2; rw [size_cells]

/-- The last k bytes of a row of m, those of a number. -/
def tailN (m v : Nat) (l : List Int) : Nat → List Int
  | 0 => l
  | k + 1 => (tailN m v l k).set (m - 1 - k) (((v / 2 ^ (8 * k)) % 256 : Nat) : Int)
theorem tailN_len (m v : Nat) (l : List Int) (k : Nat) : (tailN m v l k).length = l.length := by
  induction k with
  | zero => rfl
  | succ k ih => simp [tailN, ih]

/-- What bytes are padded to. -/
def padded (xs : List Int) : List Int := tailN (padLen xs.length) (8 * xs.length) ((xs ++ List.replicate (padLen xs.length - xs.length) 0).set xs.length 128) 8

def IsPadded (w : World) (xs : List Int) (e : Ending) (w' : World) : Prop :=
  e = .returned (.slice (some ⟨w.heap.size, 0, none⟩) (padLen xs.length) (padLen xs.length)) ∧ Brow w' w.heap.size (padded xs) ∧ Below w.heap.size w w' ∧ w.heap.size < w'.heap.size

set_option maxHeartbeats 1000000 in
theorem pad_any (A : Option Addr) (n c : Nat) (xs : List Int) (w : World) (hn : xs.length = n) (hb : n ≤ 4000) (hx : Rd w A (nums .u8 xs)) :
    Calls Tryd.prog 53 #[.slice A n c] w (IsPadded w xs) := by
  have HX := Lib.hid hx
  have HN := Lib.hid hn
  clear hx hn
  obtain ⟨m, hm⟩ : ∃ m, m = padLen n := ⟨_, rfl⟩
  have hm1 : n + 9 ≤ m := by rw [hm]; unfold padLen; omega
  have hm2 : m ≤ 4100 := by rw [hm]; unfold padLen; omega
  have HM := Lib.hid hm
  clear hm
  go_enter Tryd.func53, Tryd.ntmps53
  obtain ⟨i0, hi, hz0, hz1, hz2⟩ := info_parts infoByte
  go_upto_region 4 with (at_make; refine wpList_make_full _ rfl _ _ 22 rfl w.heap.size 5 i0 (.int .u8 0) 1 Tryd.underlying22 hi hz0 hz1 .i64 .i64 _ _ m rfl rfl (by have := HM.out; unfold padLen at this; omega) (by have := HM.out; unfold padLen at this; omega) (by rw [hz2]; omega) (by unfold maxLen; omega) (Nat.le_refl _) ?_; intro w1 hown1 hgrow1)
  obtain ⟨hB1, hb1, hl1⟩ := brow_make hown1 hgrow1 (by omega)
  have HB1 := Lib.hid hB1
  have HX1 := Lib.hid (HX.out.below hb1)
  clear hown1 hgrow1 hB1 HX hi hz0 hz1 hz2
  iterate 7 go_step
  refine copy_rd rfl _ _ 22 22 5 rfl Tryd.underlying22 infoByte1 w.heap.size m m A n c xs _ rfl rfl HN.out (by omega) HX1.out HB1.out (by simp) ?_
  intro w2 hB2 hb2 hz2
  have HB2 := Lib.hid hB2
  have hle2 : xs.length + (m - n) = m := by have := HN.out; omega
  have hlen2 : (xs ++ (List.replicate m (0 : Int)).drop n).length = m := by simp; omega
  have c1 : w2.cell? ⟨w.heap.size, n, none⟩ = some (.int .u8 _) := hB2.1 n (by omega)
  have f1 : w2.frozen? ⟨w.heap.size, n, none⟩ = false := hB2.2 n
  have l1 : w.heap.size < w2.heap.size := by omega
  have hb3 : Below w.heap.size w w2 := hb1.trans hb2
  clear hb1 hb2 HX1 HB1 hB2
  go_wp2_with fail
  go_loopw [7, 31] (fun _ i wr => ∃ k : Nat, k ≤ 8 ∧ i = .int .i64 k ∧ Brow wr w.heap.size (tailN m (8 * n) ((xs ++ (List.replicate m (0 : Int)).drop n).set n 128) k) ∧ w.heap.size < wr.heap.size ∧ Below w.heap.size w wr) (fun _ i _ => 8 - (intOf i).toNat)
  case atStart =>
    exact ⟨0, Nat.zero_le _, rfl, HB2.out.set 128 (by omega), by rw [size_setCell]; exact l1, hb3.setCell (p := ⟨w.heap.size, n, none⟩) (Nat.le_refl _) _⟩
  case round =>
    obtain ⟨k, hk, rfl, hB, hl, hb4⟩ := hrel
    have r0 : (0 : Int) ≤ (k : Int) := by omega
    by_cases hlt : k < 8
    · have r1 : (k : Int) < 8 := by omega
      have c1 : wr.cell? ⟨w.heap.size, m - 1 - k, none⟩ = some (.int .u8 _) := hB.1 (m - 1 - k) (by rw [tailN_len]; simp; omega)
      have f1 : wr.frozen? ⟨w.heap.size, m - 1 - k, none⟩ = false := hB.2 _
      have HB := Lib.hid hB
      clear hB
      go_wp2_with fail
      refine ⟨⟨k + 1, by omega, by congr 1, ?_, by rw [size_setCell]; exact hl, hb4.setCell (p := ⟨w.heap.size, m - 1 - k, none⟩) (Nat.le_refl _) _⟩, by show 8 - ((k : Int) + 1).toNat < 8 - (k : Int).toNat; omega⟩
      have e : ((n : Int) * 8 / 2 ^ (8 * k) % 256) = ((((8 * n) / 2 ^ (8 * k)) % 256 : Nat) : Int) := by
        rw [Nat.mul_comm 8 n, Int.natCast_emod, Int.natCast_ediv, Int.natCast_mul, Int.natCast_pow]; rfl
      rw [e]
      exact HB.out.set _ (by rw [tailN_len]; simp; omega)
    · have hk8 : k = 8 := by omega
      have r1 : (8 : Int) ≤ (k : Int) := by omega
      have HK8 := Lib.hid hk8
      clear hk8
      have HB := Lib.hid hB
      clear hB
      go_wp2_with fail
      go_ret
      have hk8 := HK8.out
      have hn := HN.out
      have hm := HM.out
      have hB := HB.out
      subst hk8
      subst hn
      subst hm
      refine ⟨rfl, ?_, hb4, hl⟩
      have e : (List.replicate (padLen xs.length) (0 : Int)).drop xs.length = List.replicate (padLen xs.length - xs.length) 0 := by simp
      rw [e] at hB
      exact hB

/-- Where a hash begins. -/
def h0l : List Int := [1779033703, 3144134277, 1013904242, 2773480762, 1359893119, 2600822924, 528734635, 1541459225]
theorem info8a : (Tryd.prog.info? 69).map (·.size) = some (h0l.map (Value.int .u32)).length := by kernel_rfl
def IsStart (w : World) (e : Ending) (w' : World) : Prop := e = .returned (.agg (h0l.map (Value.int .u32)).toArray) ∧ Below w.heap.size w w'
theorem start_any (w : World) : Calls Tryd.prog 51 #[] w (IsStart w) := by
  go_enter Tryd.func51, Tryd.ntmps51
  go_wp2_with fail
  refine bodyPost_ret (results_cell_mid rfl _ _ w.heap.size 0 (h0l.map (Value.int .u32)) _ rfl ?hc Tryd.underlying69 rfl info8a) rfl ?_
  case hc =>
    intro j v hv
    rw [World.cell?_alloc_at _ _ _ _ rfl]
    simpa [h0l] using hv
  exact ⟨rfl, bal brf _⟩
theorem rstart_any (w : World) : Calls Tryd.prog 56 #[] w (IsStart w) := by
  go_enter Tryd.func56, Tryd.ntmps56
  go_wp2_with fail
  refine bodyPost_ret (results_cell_mid rfl _ _ w.heap.size 0 (h0l.map (Value.int .u32)) _ rfl ?hc Tryd.underlying69 rfl info8a) rfl ?_
  case hc =>
    intro j v hv
    rw [World.cell?_alloc_at _ _ _ _ rfl]
    simpa [h0l] using hv
  exact ⟨rfl, bal brf _⟩
end Go.Proofs.YtmkmndgdakpojaaDoor
