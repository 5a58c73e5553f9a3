/- A hash of two rows, one behind the other; a key's block, changed. -/
import Derived.Test.YtmkmndgdakpojaaDoorMa
namespace Go.Proofs.YtmkmndgdakpojaaDoor
open Go.RowKit
set_option linter.unusedSimpArgs false
set_option linter.unusedVariables false
set_option maxRecDepth 100000

set_option maxHeartbeats 1000000 in
theorem hash_any (P0 : Nat) (A B : Option Addr) (n c m d : Nat) (xs ys : List Int) (w : World) (hp0 : w.cell? ⟨P0, 0, none⟩ = some (.slice A n c)) (hp1 : w.cell? ⟨P0, 1, none⟩ = some (.slice B m d)) (hn : xs.length = n) (hm : ys.length = m) (hx : Rd w A (nums .u8 xs)) (hy : Rd w B (nums .u8 ys)) (hb : n + m ≤ 4000) (hK : Konst w) :
    Calls Tryd.prog 31 #[.slice (some ⟨P0, 0, none⟩) 2 2] w (IsBytes w (sumL (xs ++ ys))) := by
  have hw0 : 0 < w.heap.size := cell_lt (hK 0 (by omega))
  have HX := Lib.hid hx
  have HY := Lib.hid hy
  have HK := Lib.hid hK
  clear hx hy hK
  have HN := Lib.hid hn
  have HM := Lib.hid hm
  clear hn hm
  go_enter Tryd.func31, Tryd.ntmps31
  go_wp2_with (first
    | (go_at_call 43; go_must (refine (concat_any P0 A B n c m d xs ys _ hp0 hp1 HN.out HM.out HX.out HY.out (by omega)).mono ?_; rintro e w1 ⟨A1, c1, rfl, hL, hown, hb1⟩; have HL := Lib.hid hL; clear hL; have HR1 := Lib.hid (Rd.of_own hown); clear hown))
    | (go_at_call 44; go_must (refine (sum_any A1 (n + m) c1 (xs ++ ys) _ HL.out hb HR1.out (HK.out.below hb1 hw0)).mono ?_; rintro e w2 ⟨B2, c2, rfl, hc2, hB2, hr2, hb2⟩)))
  go_ret
  have := hb1.size
  exact ⟨B2, c2, rfl, hc2, by omega, hr2, bgo hb1 hb2⟩

theorem Rd.get {w : World} {B o k : Nat} {l : List Int} (h : Rd w (some ⟨B, o, none⟩) (nums .u8 l)) (hk : k < l.length) : w.cell? ⟨B, o + k, none⟩ = some (.int .u8 (l.getD k 0)) := by
  obtain ⟨b, off, he, _, hc⟩ := h.at_ (by simp; omega)
  cases he
  exact hc k _ (nums_at hk)

/-- A row of n numbers of which the first k are filled. -/
def fillL (f : Nat → Int) (n k : Nat) : List Int := (List.range n).map fun j => if j < k then f j else 0
theorem fill_len (f : Nat → Int) (n k : Nat) : (fillL f n k).length = n := by simp [fillL]
theorem fill_zero (f : Nat → Int) (n : Nat) : fillL f n 0 = List.replicate n 0 := by
  refine List.eq_replicate_iff.2 ⟨by simp [fillL], fun b hb => ?_⟩
  obtain ⟨j, _, rfl⟩ := List.mem_map.1 hb
  simp
theorem fill_set (f : Nat → Int) (n k : Nat) : (fillL f n k).set k (f k) = fillL f n (k + 1) := by
  apply List.ext_getElem?
  intro i
  rw [List.getElem?_set, fill_len]
  simp only [fillL, List.getElem?_map]
  by_cases hi : i < n
  · rw [List.getElem?_range hi]
    by_cases h : k = i
    · subst h
      simp [hi]
    · rw [if_neg h]
      simp only [Option.map_some]
      by_cases h2 : i < k
      · rw [if_pos h2, if_pos (by omega)]
      · rw [if_neg h2, if_neg (by omega)]
  · rw [List.getElem?_eq_none (by simp; omega)]
    by_cases h : k = i
    · rw [if_pos h, if_neg (by omega)]; rfl
    · rw [if_neg h]; rfl
theorem fill_full (f : Nat → Int) (n : Nat) : fillL f n n = (List.range n).map f := by
  apply List.map_congr_left
  intro j hj
  rw [if_pos (List.mem_range.1 hj)]

/-- Two bytes, each bit that is in one alone. -/
def xor8 (a b : Int) : Int := bits .xor .u8 a b
/-- A row's bytes, each changed by one. -/
def maskL (l : List Int) (x : Int) : List Int := l.map fun b => xor8 b x

set_option maxHeartbeats 1000000 in
theorem masked_any (ys : List Int) (x : Int) (w : World) (hy : ys.length = 64) :
    Calls Tryd.prog 32 #[.agg (nums .u8 ys).toArray, .int .u8 x] w (IsBytes w (maskL ys x)) := by
  have HR0 := Lib.hid (rd_new w ys 56)
  have HY := Lib.hid hy
  obtain ⟨cs, hcs⟩ : ∃ cs, cs = (nums .u8 ys).toArray := ⟨_, rfl⟩
  have hsz : cs.size = 64 := by rw [hcs]; simp [HY.out]
  rw [← hcs] at HR0 ⊢
  clear hcs hy
  obtain ⟨i0, hi, hz0, hz1, hz2⟩ := info_parts infoByte
  go_enter Tryd.func32, Tryd.ntmps32
  go_wp2_with (at_make; refine wpList_make_full _ rfl _ _ 22 rfl (w.heap.size + 1) 5 i0 (.int .u8 0) 1 Tryd.underlying22 hi hz0 hz1 .i64 .i64 _ _ 64 rfl rfl (by omega) (by omega) (by rw [hz2]; omega) (by unfold maxLen; omega) (by simp) ?_; intro w1 hown1 hgrow1)
  have hX : (w.alloc (.cells cs 56)).heap.size = w.heap.size + 1 := by simp
  rw [← hX] at hown1
  obtain ⟨hB1, hb1, hl1⟩ := brow_make hown1 hgrow1 (by omega)
  rw [hX] at hB1 hb1 hl1
  have HR1 := Lib.hid (HR0.out.below (by rw [hX]; exact hb1))
  have hbw : Below w.heap.size w w1 := by
    have := bal (brf (w := w)) (.cells cs 56)
    exact this.trans (hb1.mono (by omega))
  have HB1 := Lib.hid hB1
  clear hown1 hgrow1 hB1 HR0 hi hz0 hz1 hz2 hb1
  go_loopw [6, 10] (fun _ i wr => ∃ k : Nat, k ≤ 64 ∧ i = .int .i64 k ∧ Brow wr (w.heap.size + 1) (fillL (fun j => xor8 (ys.getD j 0) x) 64 k) ∧ w.heap.size + 1 < wr.heap.size ∧ Below (w.heap.size + 1) w1 wr) (fun _ i _ => 64 - (intOf i).toNat)
  case atStart => exact ⟨0, Nat.zero_le _, rfl, by rw [fill_zero]; exact HB1.out, hl1, Below.refl _ _⟩
  case round =>
    obtain ⟨k, hk, rfl, hB, hl, hb4⟩ := hrel
    have r0 : (0 : Int) ≤ (k : Int) := by omega
    by_cases hlt : k < 64
    · have r1 : (k : Int) < 64 := by omega
      have c1 : wr.cell? ⟨w.heap.size + 1, k, none⟩ = some (.int .u8 _) := hB.1 k (by rw [fill_len]; exact hlt)
      have f1 : wr.frozen? ⟨w.heap.size + 1, k, none⟩ = false := hB.2 _
      have c2 := (hb4.cell (p := ⟨w.heap.size, 0 + k, none⟩) (by show w.heap.size < _; omega)).trans (HR1.out.get (k := k) (by rw [HY.out]; exact hlt))
      rw [Nat.zero_add] at c2
      have HB := Lib.hid hB
      clear hB
      go_wp2_with fail
      refine ⟨⟨k + 1, by omega, by congr 1, ?_, by rw [size_setCell]; exact hl, hb4.setCell (p := ⟨w.heap.size + 1, k, none⟩) (Nat.le_refl _) _⟩, by show 64 - ((k : Int) + 1).toNat < 64 - (k : Int).toNat; omega⟩
      have := HB.out.set (k := k) (xor8 (ys.getD k 0) x) (by rw [fill_len]; exact hlt)
      rw [fill_set (fun j => xor8 (ys.getD j 0) x)] at this
      exact this
    · have hk8 : k = 64 := by omega
      have r1 : ¬ (k : Int) < 64 := by omega
      rw [hk8, fill_full] at hB
      have e : (List.range 64).map (fun j => xor8 (ys.getD j 0) x) = maskL ys x := by
        apply List.ext_getElem?
        intro i
        by_cases hi : i < 64
        · simp [maskL, List.getElem?_range hi, List.getElem?_eq_getElem (show i < ys.length by rw [HY.out]; exact hi), List.getD]
        · rw [List.getElem?_eq_none (by simp; omega), List.getElem?_eq_none (by simp [maskL, HY.out]; omega)]
      rw [e] at hB
      have HR := Lib.hid (hB.whole hl)
      have hlen : (maskL ys x).length = 64 := by simp [maskL, HY.out]
      have HL := Lib.hid hlen
      clear hB e hk8 hlen
      go_wp2_with fail
      go_ret
      exact ⟨w.heap.size + 1, 64, by rw [HL.out]; rfl, by rw [HL.out]; omega, by omega, HR.out, hbw.trans (hb4.mono (by omega))⟩
end Go.Proofs.YtmkmndgdakpojaaDoor
