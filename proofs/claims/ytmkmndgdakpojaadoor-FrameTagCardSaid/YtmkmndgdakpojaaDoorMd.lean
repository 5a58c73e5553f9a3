/- A tag. -/
import Derived.Test.YtmkmndgdakpojaaDoorMc
import Derived.Deep.RegionWith
import Derived.Deep.RegionHeld3
namespace Go.Proofs.YtmkmndgdakpojaaDoor
open Go.RowKit
set_option linter.unusedSimpArgs false
set_option linter.unusedVariables false
set_option maxRecDepth 100000

/-- Bytes' tag by a key. -/
def tagL (key b : List Int) : List Int := sumL (maskL (blockL key) 92 ++ sumL (maskL (blockL key) 54 ++ b))
theorem mask_len (l : List Int) (x : Int) : (maskL l x).length = l.length := by simp [maskL]
theorem new_0 (w : World) (a b : Value) (t : TypeId) : (w.alloc (.cells #[a, b] t)).cell? ⟨w.heap.size, 0, none⟩ = some a := by
  rw [World.cell?_alloc_at _ _ _ _ rfl]; rfl
theorem new_1 (w : World) (a b : Value) (t : TypeId) : (w.alloc (.cells #[a, b] t)).cell? ⟨w.heap.size, 1, none⟩ = some b := by
  rw [World.cell?_alloc_at _ _ _ _ rfl]; rfl
theorem brow_lit (w : World) (l : List Int) (cs : Array Value) (t : TypeId) (h : cs = (nums .u8 l).toArray) : Brow (w.alloc (.cells cs t)) w.heap.size l := by
  rw [h]; exact brow_new w l t
/-- A whole array, laid into a new block. -/
theorem laid_new (w : World) (cs : Array Value) (t : TypeId) (l : List Int) (hc : cs = (nums .u8 (List.replicate 64 0)).toArray) (hl : l.length = 64) :
    (w.alloc (.cells cs t)).there w.heap.size 0 64 ∧ Brow ((w.alloc (.cells cs t)).setCells w.heap.size 0 (nums .u8 l)) w.heap.size l ∧ Below w.heap.size w ((w.alloc (.cells cs t)).setCells w.heap.size 0 (nums .u8 l)) ∧ ((w.alloc (.cells cs t)).setCells w.heap.size 0 (nums .u8 l)).heap.size = w.heap.size + 1 := by
  have h0 := brow_lit w _ cs t hc
  have h1 : (w.alloc (.cells cs t)).there w.heap.size 0 64 := h0.there 64 (by simp)
  refine ⟨h1, ⟨fun j hj => ?_, fun j => by rw [World.frozen?_setCells]; exact h0.2 j⟩, below_cells (Nat.le_refl _) _ _ (bal brf _), by rw [size_cells, World.size_alloc]⟩
  have := World.rangeAt_setCells_same (w.alloc (.cells cs t)) w.heap.size 0 (nums .u8 l) (fun j hj => h1 j (by simpa [nums, hl] using hj))
  have := this j _ (nums_at hj)
  rwa [Nat.zero_add] at this

set_option maxRecDepth 100000 in
set_option maxHeartbeats 400000 in
theorem tag_any (A B : Option Addr) (n c m d : Nat) (key b : List Int) (w : World) (hn : key.length = n) (hm : b.length = m) (hbn : n ≤ 4000) (hbm : m ≤ 3000) (hx : Rd w A (nums .u8 key)) (hy : Rd w B (nums .u8 b)) (hK : Konst w) :
    Calls Tryd.prog 16 #[.slice A n c, .slice B m d] w (IsBytes w (tagL key b)) := by
  have hw0 : 0 < w.heap.size := cell_lt (hK 0 (by omega))
  have CB := (mblock_any A n c key w hn hbn hx hK)
  have hbl := block_len key
  have ht : tagL key b = sumL (maskL (blockL key) 92 ++ sumL (maskL (blockL key) 54 ++ b)) := rfl
  obtain ⟨l, hl⟩ : ∃ l, l = blockL key := ⟨_, rfl⟩
  rw [ht]
  rw [← hl] at CB hbl ⊢
  obtain ⟨cl, hcs⟩ : ∃ cl, cl = nums .u8 l := ⟨_, rfl⟩
  have CM := fun (W : World) (x : Int) => masked_any l x W hbl
  rw [← hcs] at CM
  have hl2 : (maskL l 54).length = 64 := by rw [mask_len]; exact hbl
  have hl1 : (maskL l 92).length = 64 := by rw [mask_len]; exact hbl
  obtain ⟨k1, hk1⟩ : ∃ k, k = maskL l 92 := ⟨_, rfl⟩
  obtain ⟨k2, hk2⟩ : ∃ k, k = maskL l 54 := ⟨_, rfl⟩
  have CM1 := fun (W : World) => CM W 92
  have CM2 := fun (W : World) => CM W 54
  rw [← hk1] at CM1 hl1 ⊢
  rw [← hk2] at CM2 hl2 ⊢
  have hsl : (sumL (k2 ++ b)).length = 32 := sumL_len _
  obtain ⟨s1, hs1⟩ : ∃ s, s = sumL (k2 ++ b) := ⟨_, rfl⟩
  rw [← hs1] at hsl ⊢
  have hone : ∀ v ∈ cl, v.oneCell' = true := by
    rw [hcs]
    intro v hv
    obtain ⟨x, _, rfl⟩ := List.mem_map.1 hv
    rfl
  have hcl : cl.length = 64 := by rw [hcs]; simp [hbl]
  have hic : (Tryd.prog.info? 56).map (·.size) = some cl.length := by rw [hcs]; exact info64b hbl
  have hic2 : (Tryd.prog.info? 56).map (·.size) = some cl.toArray.size := by rw [List.size_toArray]; exact hic
  have h1c : cl.toArray.all (·.oneCell') = true := by rw [hcs]; exact bytes_oneCell l
  have HCSZ := Lib.hid (show cl.toArray.size = 64 by rw [List.size_toArray]; exact hcl)
  have HIC2 := Lib.hid hic2
  have H1C := Lib.hid h1c
  have hur := Tryd.underlying56
  have HCS := Lib.hid hcs
  have HL1 := Lib.hid hl1
  have HL2 := Lib.hid hl2
  have HSL := Lib.hid hsl
  have HS1 := Lib.hid hs1
  have HY := Lib.hid hy
  have HK := Lib.hid hK
  have HM := Lib.hid hm
  have HBL := Lib.hid hbl
  clear hic2 h1c CM hl1 hl2 hk1 hk2 hy hK hn hm hx ht hsl hs1 hl hbl hcs
  go_enter Tryd.func16, Tryd.ntmps16
  go_wp2_with (first
    | (go_at_call 30; go_must (refine CB.mono ?_; rintro e w1 ⟨he, hb1⟩; rw [← HCS.out] at he; subst he))
    | (with_reducible show wpList _ _ _ ({ dst := _, op := Op.store 56 _ _, type := _, pos := _, after := _, guard := _ } :: _) _ _; go_must (refine wpList_store_mid rfl 56 _ _ rfl w1.heap.size 0 cl.toArray rfl rfl (by rw [HCSZ.out]; exact (laid_new w1 _ 56 l zeros_eq.symm HBL.out).1) HIC2.out H1C.out ?_)))
  have F := laid_new w1 #[.int .u8 0, .int .u8 0, .int .u8 0, .int .u8 0, .int .u8 0, .int .u8 0, .int .u8 0, .int .u8 0, .int .u8 0, .int .u8 0, .int .u8 0, .int .u8 0, .int .u8 0, .int .u8 0, .int .u8 0, .int .u8 0, .int .u8 0, .int .u8 0, .int .u8 0, .int .u8 0, .int .u8 0, .int .u8 0, .int .u8 0, .int .u8 0, .int .u8 0, .int .u8 0, .int .u8 0, .int .u8 0, .int .u8 0, .int .u8 0, .int .u8 0, .int .u8 0, .int .u8 0, .int .u8 0, .int .u8 0, .int .u8 0, .int .u8 0, .int .u8 0, .int .u8 0, .int .u8 0, .int .u8 0, .int .u8 0, .int .u8 0, .int .u8 0, .int .u8 0, .int .u8 0, .int .u8 0, .int .u8 0, .int .u8 0, .int .u8 0, .int .u8 0, .int .u8 0, .int .u8 0, .int .u8 0, .int .u8 0, .int .u8 0, .int .u8 0, .int .u8 0, .int .u8 0, .int .u8 0, .int .u8 0, .int .u8 0, .int .u8 0, .int .u8 0] 56 l zeros_eq.symm HBL.out
  rw [← HCS.out] at F
  generalize ((w1.alloc (.cells #[.int .u8 0, .int .u8 0, .int .u8 0, .int .u8 0, .int .u8 0, .int .u8 0, .int .u8 0, .int .u8 0, .int .u8 0, .int .u8 0, .int .u8 0, .int .u8 0, .int .u8 0, .int .u8 0, .int .u8 0, .int .u8 0, .int .u8 0, .int .u8 0, .int .u8 0, .int .u8 0, .int .u8 0, .int .u8 0, .int .u8 0, .int .u8 0, .int .u8 0, .int .u8 0, .int .u8 0, .int .u8 0, .int .u8 0, .int .u8 0, .int .u8 0, .int .u8 0, .int .u8 0, .int .u8 0, .int .u8 0, .int .u8 0, .int .u8 0, .int .u8 0, .int .u8 0, .int .u8 0, .int .u8 0, .int .u8 0, .int .u8 0, .int .u8 0, .int .u8 0, .int .u8 0, .int .u8 0, .int .u8 0, .int .u8 0, .int .u8 0, .int .u8 0, .int .u8 0, .int .u8 0, .int .u8 0, .int .u8 0, .int .u8 0, .int .u8 0, .int .u8 0, .int .u8 0, .int .u8 0, .int .u8 0, .int .u8 0, .int .u8 0, .int .u8 0] 56)).setCells w1.heap.size 0 cl.toArray.toList) = W2 at F ⊢
  obtain ⟨_, hBR, hb2, hz2⟩ := F
  have hz1 := hb1.size
  have hBW : Below w.heap.size w W2 := hb1.trans (hb2.mono hz1)
  have hlp : w1.heap.size < W2.heap.size := by omega
  have HBR := Lib.hid hBR
  have HBW := Lib.hid hBW
  have HK2 := Lib.hid (HK.out.below hBW hw0)
  have HY2 := Lib.hid (HY.out.below hBW)
  have CH := fun (W : World) (P0 B1 c1 : Nat) (hW : Below W2.heap.size W2 W) (h0 : W.cell? ⟨P0, 0, none⟩ = some (.slice (some ⟨B1, 0, none⟩) 64 c1)) (h1 : W.cell? ⟨P0, 1, none⟩ = some (.slice B m d)) (hr : Rd W (some ⟨B1, 0, none⟩) (nums .u8 k2)) => hash_any P0 (some ⟨B1, 0, none⟩) B 64 c1 m d k2 b W h0 h1 HL2.out HM.out hr (HY2.out.below hW) (by omega) (HK2.out.below hW (by omega))
  have CG := fun (W : World) (P0 B1 c1 B2 c2 : Nat) (hW : Below W2.heap.size W2 W) (h0 : W.cell? ⟨P0, 0, none⟩ = some (.slice (some ⟨B1, 0, none⟩) 64 c1)) (h1 : W.cell? ⟨P0, 1, none⟩ = some (.slice (some ⟨B2, 0, none⟩) 32 c2)) (hr : Rd W (some ⟨B1, 0, none⟩) (nums .u8 k1)) (hs : Rd W (some ⟨B2, 0, none⟩) (nums .u8 s1)) => hash_any P0 (some ⟨B1, 0, none⟩) (some ⟨B2, 0, none⟩) 64 c1 32 c2 k1 s1 W h0 h1 HL1.out HSL.out hr hs (by omega) (HK2.out.below hW (by omega))
  rw [← HS1.out] at CH
  have HCH := Lib.hid CH
  have HCG := Lib.hid CG
  have HBX := bdr (brf (w := W2))
  have HRG := Lib.hid (fun (W : World) (hW : Below W2.heap.size W2 W) => (show W.rangeAt w1.heap.size 0 cl by rw [HCS.out]; exact (hBR.below hW hlp).range))
  have HBR0 := Lib.hid (HRG.out W2 brf)
  clear hBR hBW hb1 hb2 CB CH CG
  refine wp_region_held_drew (S := fun W => W.rangeAt w1.heap.size 0 cl ∧ Below W2.heap.size W2 W) (by kernel_rfl) ⟨HRG.out _ HBX, HBX⟩ (fun hHeld => ?_)
  refine wpAnyH_take (i := 0) (v := _) rfl (by kernel_rfl) (by kernel_rfl) (by kernel_rfl) (fun _ _ _ h => h) (yieldsIf_load_mid (by rfl) _ _ rfl _ _ rfl cl _ (fun W h => h.1) hur rfl hic) (by assumption) ?_
  simp only [Act.put, List.setIfInBounds_toArray, List.set_cons_zero, List.set_cons_succ]
  refine wpAnyH_take (i := 2) (v := _) rfl (by kernel_rfl) (by kernel_rfl) (by kernel_rfl) (fun _ _ _ h => h) (yieldsIf_load_mid (by rfl) _ _ rfl _ _ rfl cl _ (fun W h => h.1) hur rfl hic) (by assumption) ?_
  simp only [Act.put, List.setIfInBounds_toArray, List.set_cons_zero, List.set_cons_succ]
  refine wpAnyH_take (i := 4) (v := ?_) rfl (by kernel_rfl) (by kernel_rfl) (by kernel_rfl) (fun _ _ _ h => h) (Or.inl ⟨by rfl, ?_⟩) (by assumption) ?_
  rotate_left
  · intro W hSw
    go_simp
    rfl
  simp only [Act.put, List.setIfInBounds_toArray, List.set_cons_zero, List.set_cons_succ]
  refine wpAnyH_ready (rs := [1]) (by kernel_rfl) (by simp) ?_
  refine AllReadyH.cons rfl (fun K hK => ?_) AllReadyH.nil
  go_simp
  refine (CM1 _).mono ?_
  rintro e w3 ⟨B1, c1, rfl, hc1, hl1, R1, hb3⟩
  have HBX := bgo HBX hb3
  rw [HL1.out] at hc1 ⊢
  go_wp2_with fail
  refine hK.out _ _ ?_ (fun hHeld => ?_)
  · exact ⟨HRG.out _ HBX, HBX⟩
  clear hK K
  try simp only [Act.put, List.setIfInBounds_toArray, List.set_cons_zero, List.set_cons_succ]
  refine wpAnyH_ready (rs := [3]) (by kernel_rfl) (by simp) ?_
  refine AllReadyH.cons rfl (fun K hK => ?_) AllReadyH.nil
  go_simp
  refine (CM2 _).mono ?_
  rintro e w4 ⟨B2, c2, rfl, hc2, hl2, R2, hb4⟩
  have HBX := bgo HBX hb4
  rw [HL2.out] at hc2 ⊢
  have R1 := R1.below hb4
  go_wp2_with fail
  refine hK.out _ _ ?_ (fun hHeld => ?_)
  · exact ⟨HRG.out _ HBX, HBX⟩
  clear hK K
  try simp only [Act.put, List.setIfInBounds_toArray, List.set_cons_zero, List.set_cons_succ]
  refine wpAnyH_ready (rs := [5]) (by kernel_rfl) (by simp) ?_
  refine AllReadyH.cons rfl (fun K hK => ?_) AllReadyH.nil
  go_simp
  have HBX := bal HBX (.cells #[.slice (some ⟨B2, 0, none⟩) 64 c2, .slice B m d] 22)
  refine hK.out _ _ ?_ (fun hHeld => ?_)
  · exact ⟨HRG.out _ HBX, HBX⟩
  clear hK K
  try simp only [Act.put, List.setIfInBounds_toArray, List.set_cons_zero, List.set_cons_succ]
  refine wpAnyH_ready (rs := [6]) (by kernel_rfl) (by simp) ?_
  refine AllReadyH.cons rfl (fun K hK => ?_) AllReadyH.nil
  go_simp
  refine (HCH.out _ _ B2 c2 HBX (new_0 _ _ _ _) (new_1 _ _ _ _) (R2.below (bal brf _))).mono ?_
  rintro e w5 ⟨B3, c3, rfl, hc3, hl3, R3, hb5⟩
  have R1 := (R1.below (bal brf _)).below hb5
  have HBX := bgo HBX hb5
  have hz5 := HBX.size
  rw [HSL.out] at hc3 ⊢
  go_wp2_with fail
  refine hK.out _ _ ?_ (fun hHeld => ?_)
  · exact ⟨HRG.out _ HBX, HBX⟩
  clear hK K
  try simp only [Act.put, List.setIfInBounds_toArray, List.set_cons_zero, List.set_cons_succ]
  refine wpAnyH_ready (rs := [7]) (by kernel_rfl) (by simp) ?_
  refine AllReadyH.cons rfl (fun K hK => ?_) AllReadyH.nil
  go_simp
  have HBX := bal HBX (.cells #[.slice (some ⟨B1, 0, none⟩) 64 c1, .slice (some ⟨B3, 0, none⟩) 32 c3] 22)
  refine hK.out _ _ ?_ (fun hHeld => ?_)
  · exact ⟨HRG.out _ HBX, HBX⟩
  clear hK K
  try simp only [Act.put, List.setIfInBounds_toArray, List.set_cons_zero, List.set_cons_succ]
  refine wpAnyH_ready (rs := [8]) (by kernel_rfl) (by simp) ?_
  refine AllReadyH.cons rfl (fun K hK => ?_) AllReadyH.nil
  go_simp
  refine (HCG.out _ _ B1 c1 B3 c3 HBX (new_0 _ _ _ _) (new_1 _ _ _ _) (R1.below (bal brf _)) (R3.below (bal brf _))).mono ?_
  rintro e w6 ⟨B4, c4, rfl, hc4, hl4, R4, hb6⟩
  have HBX := bgo HBX hb6
  go_wp2_with fail
  refine hK.out _ _ ?_ (fun hHeld => ?_)
  · exact ⟨HRG.out _ HBX, HBX⟩
  clear hK K
  try simp only [Act.put, List.setIfInBounds_toArray, List.set_cons_zero, List.set_cons_succ]
  refine wpAnyH_take (i := 9) (v := ?_) rfl (by kernel_rfl) (by kernel_rfl) (by kernel_rfl) (fun _ _ _ h => h) (Or.inl ⟨by rfl, ?_⟩) (by assumption) ?_
  rotate_left
  · intro W hSw
    go_simp
    rfl
  refine wpAnyH_done (by kernel_rfl) ?_ _
  go_simp
  go_wp2_with fail
  go_ret
  simp only [World.size_alloc] at hl4
  exact ⟨B4, c4, rfl, hc4, by omega, R4, HBW.out.trans (HBX.mono (by omega))⟩
end Go.Proofs.YtmkmndgdakpojaaDoor
