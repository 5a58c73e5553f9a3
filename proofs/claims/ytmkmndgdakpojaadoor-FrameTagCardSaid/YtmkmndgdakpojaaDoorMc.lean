/- A key's block. -/
import Derived.Test.YtmkmndgdakpojaaDoorMb
namespace Go.Proofs.YtmkmndgdakpojaaDoor
open Go.RowKit
set_option linter.unusedSimpArgs false
set_option linter.unusedVariables false
set_option maxRecDepth 100000

/-- A key's block: the key, or its hash, noughts behind. -/
def shortL (key : List Int) : List Int := if 64 < key.length then sumL key else key
def blockL (key : List Int) : List Int := shortL key ++ List.replicate (64 - (shortL key).length) 0
theorem short_len (key : List Int) : (shortL key).length ≤ 64 := by
  unfold shortL
  split
  · rw [sumL_len]; omega
  · omega
theorem block_len (key : List Int) : (blockL key).length = 64 := by
  have := short_len key
  simp [blockL]; omega
theorem short_byt {key : List Int} (h : Byt key) : Byt (shortL key) := by
  unfold shortL
  split
  · exact sumL_byt _
  · exact h
theorem block_byt {key : List Int} (h : Byt key) : Byt (blockL key) := by
  intro x hx
  rcases List.mem_append.1 hx with hx | hx
  · exact short_byt h x hx
  · have := List.eq_of_mem_replicate hx
    omega

theorem Brow.range {w : World} {B : Nat} {l : List Int} (h : Brow w B l) : w.rangeAt B 0 (nums .u8 l) := by
  intro j v hv
  rw [Nat.zero_add]
  have hj : j < l.length := by
    have := (List.getElem?_eq_some_iff.1 hv).1
    simpa using this
  rw [h.1 j hj, ← hv, nums_at hj]
theorem Brow.there {w : World} {B : Nat} {l : List Int} (h : Brow w B l) (n : Nat) (hn : n = l.length) : w.there B 0 n := by
  intro j hj
  rw [Nat.zero_add]
  exact ⟨by rw [h.1 j (by omega)]; rfl, h.2 j⟩
theorem bytes_oneCell (l : List Int) : (nums .u8 l).toArray.all (·.oneCell') = true := by
  simp [nums, Value.oneCell']
theorem info64b {l : List Int} (h : l.length = 64) : (Tryd.prog.info? 56).map (·.size) = some (nums .u8 l).length := by
  rw [nums, List.length_map, h]; kernel_rfl
theorem info64c {l : List Int} (h : l.length = 64) : (Tryd.prog.info? 56).map (·.size) = some (nums .u8 l).toArray.size := by
  rw [List.size_toArray, nums, List.length_map, h]; kernel_rfl
theorem brow_new (w : World) (l : List Int) (t : TypeId) : Brow (w.alloc (.cells (nums .u8 l).toArray t)) w.heap.size l := by
  refine ⟨fun j hj => ?_, fun j => by simp [go_sem]⟩
  rw [World.cell?_alloc_at _ _ _ _ rfl]
  have := nums_at (k := .u8) hj
  rw [← this, List.getElem?_toArray]

/-- An array of 64 bytes is returned. -/
def IsArr64 (w : World) (l : List Int) (e : Ending) (w' : World) : Prop := e = .returned (.agg (nums .u8 l).toArray) ∧ Below w.heap.size w w'

theorem zeros_eq : (nums .u8 (List.replicate 64 0)).toArray = #[.int .u8 0, .int .u8 0, .int .u8 0, .int .u8 0, .int .u8 0, .int .u8 0, .int .u8 0, .int .u8 0, .int .u8 0, .int .u8 0, .int .u8 0, .int .u8 0, .int .u8 0, .int .u8 0, .int .u8 0, .int .u8 0, .int .u8 0, .int .u8 0, .int .u8 0, .int .u8 0, .int .u8 0, .int .u8 0, .int .u8 0, .int .u8 0, .int .u8 0, .int .u8 0, .int .u8 0, .int .u8 0, .int .u8 0, .int .u8 0, .int .u8 0, .int .u8 0, .int .u8 0, .int .u8 0, .int .u8 0, .int .u8 0, .int .u8 0, .int .u8 0, .int .u8 0, .int .u8 0, .int .u8 0, .int .u8 0, .int .u8 0, .int .u8 0, .int .u8 0, .int .u8 0, .int .u8 0, .int .u8 0, .int .u8 0, .int .u8 0, .int .u8 0, .int .u8 0, .int .u8 0, .int .u8 0, .int .u8 0, .int .u8 0, .int .u8 0, .int .u8 0, .int .u8 0, .int .u8 0, .int .u8 0, .int .u8 0, .int .u8 0, .int .u8 0] := by kernel_rfl
theorem two_new (w : World) (o1 o2 : Array Value) (h1 : o1 = (nums .u8 (List.replicate 64 0)).toArray) (h2 : o2 = (nums .u8 (List.replicate 64 0)).toArray) :
    Brow ((w.alloc (.cells o1 56)).alloc (.cells o2 56)) w.heap.size (List.replicate 64 0) ∧ Brow ((w.alloc (.cells o1 56)).alloc (.cells o2 56)) (w.heap.size + 1) (List.replicate 64 0) ∧ Below w.heap.size w ((w.alloc (.cells o1 56)).alloc (.cells o2 56)) ∧ ((w.alloc (.cells o1 56)).alloc (.cells o2 56)).heap.size = w.heap.size + 2 := by
  have hz1 : (w.alloc (.cells o1 56)).heap.size = w.heap.size + 1 := World.size_alloc ..
  have hz2 : ((w.alloc (.cells o1 56)).alloc (.cells o2 56)).heap.size = w.heap.size + 2 := by rw [World.size_alloc, hz1]
  have hA : Brow (w.alloc (.cells o1 56)) w.heap.size (List.replicate 64 0) := by rw [h1]; exact brow_new w _ _
  have hB : Brow ((w.alloc (.cells o1 56)).alloc (.cells o2 56)) (w.alloc (.cells o1 56)).heap.size (List.replicate 64 0) := by rw [h2]; exact brow_new _ _ _
  rw [hz1] at hB
  exact ⟨hA.below (bal brf _) (by rw [hz1]; omega), hB, bal (bal brf _) _, hz2⟩
theorem one_new (w w1 : World) (o1 o2 : Array Value) {B : Nat} {l : List Int} (h1 : o1 = (nums .u8 (List.replicate 64 0)).toArray) (h2 : o2 = (nums .u8 (List.replicate 64 0)).toArray) (hb : Below (w.alloc (.cells o1 56)).heap.size (w.alloc (.cells o1 56)) w1) (hr : Rd w1 (some ⟨B, 0, none⟩) (nums .u8 l)) :
    w.heap.size < w1.heap.size ∧ Brow (w1.alloc (.cells o2 56)) w.heap.size (List.replicate 64 0) ∧ Brow (w1.alloc (.cells o2 56)) w1.heap.size (List.replicate 64 0) ∧ Below w.heap.size w (w1.alloc (.cells o2 56)) ∧ (w1.alloc (.cells o2 56)).heap.size = w1.heap.size + 1 ∧ Rd (w1.alloc (.cells o2 56)) (some ⟨B, 0, none⟩) (nums .u8 l) := by
  have hz1 : (w.alloc (.cells o1 56)).heap.size = w.heap.size + 1 := World.size_alloc ..
  have hA : Brow (w.alloc (.cells o1 56)) w.heap.size (List.replicate 64 0) := by rw [h1]; exact brow_new w _ _
  have hs := hb.size
  have hlw : w.heap.size < w1.heap.size := by omega
  have hA1 := hA.below hb (by rw [hz1]; omega)
  refine ⟨hlw, hA1.below (bal brf _) hlw, by rw [h2]; exact brow_new _ _ _, (bgo (bal brf _) hb).trans ((bal brf _).mono (by omega)), World.size_alloc .., hr.below (bal brf _)⟩

set_option maxRecDepth 100000 in
set_option maxHeartbeats 1000000 in
theorem mblock_short (A : Option Addr) (n c : Nat) (xs : List Int) (w : World) (hn : xs.length = n) (hb : n ≤ 64) (hx : Rd w A (nums .u8 xs)) :
    Calls Tryd.prog 30 #[.slice A n c] w (IsArr64 w (blockL xs)) := by
  have eb : xs ++ (List.replicate 64 (0 : Int)).drop n = blockL xs := by
    have : shortL xs = xs := if_neg (by omega)
    rw [blockL, this, hn, List.drop_replicate]
  have EB := Lib.hid eb
  have HX := Lib.hid hx
  have HN := Lib.hid hn
  clear hx hn eb
  have r1 : ¬ (64 : Int) < n := by omega
  go_enter Tryd.func30, Tryd.ntmps30
  go_upto_region 4 with fail
  have F := two_new w #[.int .u8 0, .int .u8 0, .int .u8 0, .int .u8 0, .int .u8 0, .int .u8 0, .int .u8 0, .int .u8 0, .int .u8 0, .int .u8 0, .int .u8 0, .int .u8 0, .int .u8 0, .int .u8 0, .int .u8 0, .int .u8 0, .int .u8 0, .int .u8 0, .int .u8 0, .int .u8 0, .int .u8 0, .int .u8 0, .int .u8 0, .int .u8 0, .int .u8 0, .int .u8 0, .int .u8 0, .int .u8 0, .int .u8 0, .int .u8 0, .int .u8 0, .int .u8 0, .int .u8 0, .int .u8 0, .int .u8 0, .int .u8 0, .int .u8 0, .int .u8 0, .int .u8 0, .int .u8 0, .int .u8 0, .int .u8 0, .int .u8 0, .int .u8 0, .int .u8 0, .int .u8 0, .int .u8 0, .int .u8 0, .int .u8 0, .int .u8 0, .int .u8 0, .int .u8 0, .int .u8 0, .int .u8 0, .int .u8 0, .int .u8 0, .int .u8 0, .int .u8 0, .int .u8 0, .int .u8 0, .int .u8 0, .int .u8 0, .int .u8 0, .int .u8 0] #[.int .u8 0, .int .u8 0, .int .u8 0, .int .u8 0, .int .u8 0, .int .u8 0, .int .u8 0, .int .u8 0, .int .u8 0, .int .u8 0, .int .u8 0, .int .u8 0, .int .u8 0, .int .u8 0, .int .u8 0, .int .u8 0, .int .u8 0, .int .u8 0, .int .u8 0, .int .u8 0, .int .u8 0, .int .u8 0, .int .u8 0, .int .u8 0, .int .u8 0, .int .u8 0, .int .u8 0, .int .u8 0, .int .u8 0, .int .u8 0, .int .u8 0, .int .u8 0, .int .u8 0, .int .u8 0, .int .u8 0, .int .u8 0, .int .u8 0, .int .u8 0, .int .u8 0, .int .u8 0, .int .u8 0, .int .u8 0, .int .u8 0, .int .u8 0, .int .u8 0, .int .u8 0, .int .u8 0, .int .u8 0, .int .u8 0, .int .u8 0, .int .u8 0, .int .u8 0, .int .u8 0, .int .u8 0, .int .u8 0, .int .u8 0, .int .u8 0, .int .u8 0, .int .u8 0, .int .u8 0, .int .u8 0, .int .u8 0, .int .u8 0, .int .u8 0] zeros_eq.symm zeros_eq.symm
  generalize ((w.alloc (.cells #[.int .u8 0, .int .u8 0, .int .u8 0, .int .u8 0, .int .u8 0, .int .u8 0, .int .u8 0, .int .u8 0, .int .u8 0, .int .u8 0, .int .u8 0, .int .u8 0, .int .u8 0, .int .u8 0, .int .u8 0, .int .u8 0, .int .u8 0, .int .u8 0, .int .u8 0, .int .u8 0, .int .u8 0, .int .u8 0, .int .u8 0, .int .u8 0, .int .u8 0, .int .u8 0, .int .u8 0, .int .u8 0, .int .u8 0, .int .u8 0, .int .u8 0, .int .u8 0, .int .u8 0, .int .u8 0, .int .u8 0, .int .u8 0, .int .u8 0, .int .u8 0, .int .u8 0, .int .u8 0, .int .u8 0, .int .u8 0, .int .u8 0, .int .u8 0, .int .u8 0, .int .u8 0, .int .u8 0, .int .u8 0, .int .u8 0, .int .u8 0, .int .u8 0, .int .u8 0, .int .u8 0, .int .u8 0, .int .u8 0, .int .u8 0, .int .u8 0, .int .u8 0, .int .u8 0, .int .u8 0, .int .u8 0, .int .u8 0, .int .u8 0, .int .u8 0] 56)).alloc (.cells #[.int .u8 0, .int .u8 0, .int .u8 0, .int .u8 0, .int .u8 0, .int .u8 0, .int .u8 0, .int .u8 0, .int .u8 0, .int .u8 0, .int .u8 0, .int .u8 0, .int .u8 0, .int .u8 0, .int .u8 0, .int .u8 0, .int .u8 0, .int .u8 0, .int .u8 0, .int .u8 0, .int .u8 0, .int .u8 0, .int .u8 0, .int .u8 0, .int .u8 0, .int .u8 0, .int .u8 0, .int .u8 0, .int .u8 0, .int .u8 0, .int .u8 0, .int .u8 0, .int .u8 0, .int .u8 0, .int .u8 0, .int .u8 0, .int .u8 0, .int .u8 0, .int .u8 0, .int .u8 0, .int .u8 0, .int .u8 0, .int .u8 0, .int .u8 0, .int .u8 0, .int .u8 0, .int .u8 0, .int .u8 0, .int .u8 0, .int .u8 0, .int .u8 0, .int .u8 0, .int .u8 0, .int .u8 0, .int .u8 0, .int .u8 0, .int .u8 0, .int .u8 0, .int .u8 0, .int .u8 0, .int .u8 0, .int .u8 0, .int .u8 0, .int .u8 0] 56)) = W2 at F ⊢
  obtain ⟨hB2, hB3, hBW, hz2⟩ := F
  have HB2 := Lib.hid hB2
  have HB3 := Lib.hid hB3
  have HBW := Lib.hid hBW
  have HX2 := Lib.hid (HX.out.below hBW)
  clear hB2 hB3 hBW
  iterate 7 go_step
  refine copy_rd rfl _ _ 22 22 5 rfl Tryd.underlying22 infoByte1 (w.heap.size + 1) 64 64 A n c xs (List.replicate 64 0) rfl rfl HN.out (by omega) HX2.out HB3.out (by simp) ?_
  intro w3 hB3 hb3 hz3
  have e : xs ++ (List.replicate 64 (0 : Int)).drop n = blockL xs := EB.out
  rw [e] at hB3
  have HG := Lib.hid hB3.range
  have HT := Lib.hid ((HB2.out.below hb3 (by omega)).there (nums .u8 (blockL xs)).toArray.size (by simp [block_len]))
  clear hB3 e
  go_wp2_with (first
    | (with_reducible show wpList _ _ _ ({ dst := _, op := Op.load 56 _, type := _, pos := _, after := _, guard := _ } :: _) _ _; refine wpList_load_mid rfl 56 _ rfl (w.heap.size + 1) 0 rfl _ _ HG.out Tryd.underlying56 rfl (info64b (block_len xs)) ?_)
    | (with_reducible show wpList _ _ _ ({ dst := _, op := Op.store 56 _ _, type := _, pos := _, after := _, guard := _ } :: _) _ _; refine wpList_store_mid rfl 56 _ _ rfl (w.heap.size) 0 _ rfl rfl HT.out (info64c (block_len xs)) (bytes_oneCell (blockL xs)) ?_))
  refine bodyPost_ret (v := .agg (nums .u8 (blockL xs)).toArray) (results_cell_mid rfl _ _ (w.heap.size) 0 _ _ rfl (World.rangeAt_setCells_same _ _ _ _ (by simpa using HT.out)) Tryd.underlying56 rfl (info64b (block_len xs))) rfl ⟨rfl, ?_⟩
  exact below_cells (Nat.le_refl _) _ _ (HBW.out.trans (hb3.mono (by omega)))

set_option maxRecDepth 100000 in
set_option maxHeartbeats 1000000 in
theorem mblock_long (A : Option Addr) (n c : Nat) (xs : List Int) (w : World) (hn : xs.length = n) (h64 : 64 < n) (hb : n ≤ 4000) (hx : Rd w A (nums .u8 xs)) (hK : Konst w) :
    Calls Tryd.prog 30 #[.slice A n c] w (IsArr64 w (blockL xs)) := by
  have hw0 : 0 < w.heap.size := cell_lt (hK 0 (by omega))
  have eb : sumL xs ++ (List.replicate 64 (0 : Int)).drop 32 = blockL xs := by
    have : shortL xs = sumL xs := if_pos (by omega)
    rw [blockL, this, sumL_len]
    rfl
  have EB := Lib.hid eb
  have HX := Lib.hid hx
  have HN := Lib.hid hn
  have HK := Lib.hid hK
  clear hx hn eb hK
  have r1 : (64 : Int) < n := by omega
  go_enter Tryd.func30, Tryd.ntmps30
  go_upto_region 4 with (go_at_call 44; go_must (refine (sum_any A n c xs _ HN.out hb (HX.out.below (bal brf _)) (HK.out.below (bal brf _) hw0)).mono ?_; rintro e w1 ⟨BS, cS, rfl, hcS, hlS, RS, hb1⟩; rw [sumL_len] at hcS ⊢))
  have F := one_new w w1 #[.int .u8 0, .int .u8 0, .int .u8 0, .int .u8 0, .int .u8 0, .int .u8 0, .int .u8 0, .int .u8 0, .int .u8 0, .int .u8 0, .int .u8 0, .int .u8 0, .int .u8 0, .int .u8 0, .int .u8 0, .int .u8 0, .int .u8 0, .int .u8 0, .int .u8 0, .int .u8 0, .int .u8 0, .int .u8 0, .int .u8 0, .int .u8 0, .int .u8 0, .int .u8 0, .int .u8 0, .int .u8 0, .int .u8 0, .int .u8 0, .int .u8 0, .int .u8 0, .int .u8 0, .int .u8 0, .int .u8 0, .int .u8 0, .int .u8 0, .int .u8 0, .int .u8 0, .int .u8 0, .int .u8 0, .int .u8 0, .int .u8 0, .int .u8 0, .int .u8 0, .int .u8 0, .int .u8 0, .int .u8 0, .int .u8 0, .int .u8 0, .int .u8 0, .int .u8 0, .int .u8 0, .int .u8 0, .int .u8 0, .int .u8 0, .int .u8 0, .int .u8 0, .int .u8 0, .int .u8 0, .int .u8 0, .int .u8 0, .int .u8 0, .int .u8 0] #[.int .u8 0, .int .u8 0, .int .u8 0, .int .u8 0, .int .u8 0, .int .u8 0, .int .u8 0, .int .u8 0, .int .u8 0, .int .u8 0, .int .u8 0, .int .u8 0, .int .u8 0, .int .u8 0, .int .u8 0, .int .u8 0, .int .u8 0, .int .u8 0, .int .u8 0, .int .u8 0, .int .u8 0, .int .u8 0, .int .u8 0, .int .u8 0, .int .u8 0, .int .u8 0, .int .u8 0, .int .u8 0, .int .u8 0, .int .u8 0, .int .u8 0, .int .u8 0, .int .u8 0, .int .u8 0, .int .u8 0, .int .u8 0, .int .u8 0, .int .u8 0, .int .u8 0, .int .u8 0, .int .u8 0, .int .u8 0, .int .u8 0, .int .u8 0, .int .u8 0, .int .u8 0, .int .u8 0, .int .u8 0, .int .u8 0, .int .u8 0, .int .u8 0, .int .u8 0, .int .u8 0, .int .u8 0, .int .u8 0, .int .u8 0, .int .u8 0, .int .u8 0, .int .u8 0, .int .u8 0, .int .u8 0, .int .u8 0, .int .u8 0, .int .u8 0] zeros_eq.symm zeros_eq.symm hb1 RS
  generalize (w1.alloc (.cells #[.int .u8 0, .int .u8 0, .int .u8 0, .int .u8 0, .int .u8 0, .int .u8 0, .int .u8 0, .int .u8 0, .int .u8 0, .int .u8 0, .int .u8 0, .int .u8 0, .int .u8 0, .int .u8 0, .int .u8 0, .int .u8 0, .int .u8 0, .int .u8 0, .int .u8 0, .int .u8 0, .int .u8 0, .int .u8 0, .int .u8 0, .int .u8 0, .int .u8 0, .int .u8 0, .int .u8 0, .int .u8 0, .int .u8 0, .int .u8 0, .int .u8 0, .int .u8 0, .int .u8 0, .int .u8 0, .int .u8 0, .int .u8 0, .int .u8 0, .int .u8 0, .int .u8 0, .int .u8 0, .int .u8 0, .int .u8 0, .int .u8 0, .int .u8 0, .int .u8 0, .int .u8 0, .int .u8 0, .int .u8 0, .int .u8 0, .int .u8 0, .int .u8 0, .int .u8 0, .int .u8 0, .int .u8 0, .int .u8 0, .int .u8 0, .int .u8 0, .int .u8 0, .int .u8 0, .int .u8 0, .int .u8 0, .int .u8 0, .int .u8 0, .int .u8 0] 56)) = W2 at F ⊢
  obtain ⟨hlw, hB2, hB3, hBW, hz2, hX2⟩ := F
  have HB2 := Lib.hid hB2
  have HB3 := Lib.hid hB3
  have HBW := Lib.hid hBW
  have HX2 := Lib.hid hX2
  clear hB2 hB3 hBW hX2 RS hb1
  iterate 7 go_step
  refine copy_rd rfl _ _ 22 22 5 rfl Tryd.underlying22 infoByte1 (w1.heap.size) 64 64 (some ⟨BS, 0, none⟩) 32 cS (sumL xs) (List.replicate 64 0) rfl rfl (sumL_len xs) (by omega) HX2.out HB3.out (by simp) ?_
  intro w3 hB3 hb3 hz3
  have e : (sumL xs) ++ (List.replicate 64 (0 : Int)).drop 32 = blockL xs := EB.out
  rw [e] at hB3
  have HG := Lib.hid hB3.range
  have HT := Lib.hid ((HB2.out.below hb3 (by omega)).there (nums .u8 (blockL xs)).toArray.size (by simp [block_len]))
  clear hB3 e
  go_wp2_with (first
    | (with_reducible show wpList _ _ _ ({ dst := _, op := Op.load 56 _, type := _, pos := _, after := _, guard := _ } :: _) _ _; refine wpList_load_mid rfl 56 _ rfl (w1.heap.size) 0 rfl _ _ HG.out Tryd.underlying56 rfl (info64b (block_len xs)) ?_)
    | (with_reducible show wpList _ _ _ ({ dst := _, op := Op.store 56 _ _, type := _, pos := _, after := _, guard := _ } :: _) _ _; refine wpList_store_mid rfl 56 _ _ rfl (w.heap.size) 0 _ rfl rfl HT.out (info64c (block_len xs)) (bytes_oneCell (blockL xs)) ?_))
  refine bodyPost_ret (v := .agg (nums .u8 (blockL xs)).toArray) (results_cell_mid rfl _ _ (w.heap.size) 0 _ _ rfl (World.rangeAt_setCells_same _ _ _ _ (by simpa using HT.out)) Tryd.underlying56 rfl (info64b (block_len xs))) rfl ⟨rfl, ?_⟩
  exact below_cells (Nat.le_refl _) _ _ (HBW.out.trans (hb3.mono (by omega)))

theorem mblock_any (A : Option Addr) (n c : Nat) (xs : List Int) (w : World) (hn : xs.length = n) (hb : n ≤ 4000) (hx : Rd w A (nums .u8 xs)) (hK : Konst w) :
    Calls Tryd.prog 30 #[.slice A n c] w (IsArr64 w (blockL xs)) := by
  by_cases h : 64 < n
  · exact mblock_long A n c xs w hn h hb hx hK
  · exact mblock_short A n c xs w hn (by omega) hx
end Go.Proofs.YtmkmndgdakpojaaDoor
