/- The law that a tag is a hash of the key, and of a hash. -/
import Derived.Test.YtklamgdgdamcgaaDoorMj
import Derived.Test.YtklamgdgdamcgaaDoorApart
import Derived.Deep.MidRow
namespace Go.Proofs.YtklamgdgdamcgaaDoor
open Go.RowKit Go.ChangeShapes Go.WideShapes Go.ChangeAt
set_option linter.unusedSimpArgs false
set_option linter.unusedVariables false

theorem okWide_arr {P : Program} {w : World} {r : Reach} {base n : Nat} {t e : TypeId} {v : Value} (ht : P.underlying t = some (.array n e)) (h : Value.okWide P w r base t v) : ∃ cs, v = .agg cs ∧ cs.size = P.cellsOf t := by
  simp only [Value.okWide, ht] at h
  obtain ⟨cs, h1, h2, _⟩ := h
  exact ⟨cs, h1, h2⟩

/-- Eight words, read as data. -/
theorem open_bytes64 {H : Type} {enc : TypeId × Value → H} {W : World} {base b0 : Nat} {sp : Nat → Bool} {held : Bool} {v : Value} {d : DataW H} {p : List MemPlace} (hv : Value.okWide Tryd.prog W .any base 22 v) (h : DataW.Trod enc Tryd.prog W b0 sp held 22 v d p) :
    ∃ l : List Int, v = .agg (nums .u8 l).toArray ∧ l.length = 64 ∧ Byt l := by
  obtain ⟨cs, rfl, hsz⟩ := okWide_arr Tryd.underlying22 hv
  rw [show Tryd.prog.cellsOf _ = 64 from by kernel_rfl] at hsz
  obtain ⟨l⟩ := cs
  obtain ⟨fuel, hf⟩ := h
  obtain ⟨xs, m1, rfl, hx1, hlen, hn3, hel⟩ := DataW.trod_array Tryd.underlying22 hf
  have hsz : l.length = 64 := hsz
  have get : ∀ i, i < 64 → ∃ z : Int, l[i]? = some (.int .u8 z) ∧ 0 ≤ z ∧ z ≤ 255 := by
    intro i hi
    have h0 := hel i hi
    rw [List.getElem?_eq_getElem (show i < xs.length by omega), show Tryd.prog.cellsOf 5 = 1 from by kernel_rfl, Nat.mul_one] at h0
    obtain ⟨k, e1, e2, e3⟩ := DataW.trod_int Tryd.underlying5 h0
    have e4 := congrArg (fun l => l[0]?) e1
    have e5 : (decide ((0 : Int) ≤ k) && decide (k ≤ (255 : Int))) = true := e3
    exact ⟨k, by simpa [Value.cells] using e4, by simpa using e5⟩
  obtain ⟨f, hf⟩ := Deep.choose_lt get
  refine ⟨(List.range 64).map f, ?_, by simp, ?_⟩
  · congr 2
    apply List.ext_getElem?
    intro i
    by_cases hi : i < 64
    · rw [(hf i hi).1]
      simp [nums, List.getElem?_range hi]
    · rw [List.getElem?_eq_none (by omega), List.getElem?_eq_none (by simp [nums]; omega)]
  · intro x hx
    obtain ⟨i, hi, rfl⟩ := List.mem_map.1 hx
    exact (hf i (List.mem_range.1 hi)).2

theorem RdB {w w' : World} {b B : Nat} {vs : List Value} (h : Rd w (some ⟨b, 0, none⟩) vs) (hb : Below B w w') (hlt : b < B) (hs : w.heap.size ≤ w'.heap.size) : Rd w' (some ⟨b, 0, none⟩) vs := by
  rcases h with h | ⟨b', o, he, hl, hc⟩
  · exact .inl h
  · cases he
    exact .inr ⟨b, 0, rfl, Nat.lt_of_lt_of_le hl hs, fun i v hv => (hb.cell (p := ⟨b, 0 + i, none⟩) hlt).trans (hc i v hv)⟩
theorem RdG {w w' : World} {b : Nat} {vs : List Value} {row : Option Nat} (h : Rd w (some ⟨b, 0, none⟩) vs) (hg : w.grownBy w' row) (hne : ∀ g, row = some g → g < b) : Rd w' (some ⟨b, 0, none⟩) vs := by
  rcases h with h | ⟨b', o, he, hl, hc⟩
  · exact .inl h
  · cases he
    exact .inr ⟨b, 0, rfl, Nat.lt_of_lt_of_le hl hg.size, fun i v hv => (World.cell?_of_block (a := ⟨b, 0 + i, none⟩) (hg.block b hl (fun e => by have := hne b e.symm; omega))).trans (hc i v hv)⟩

set_option maxRecDepth 100000 in
set_option maxHeartbeats 2000000 in
theorem macHashes_walk (l : List Int) (B : Option Addr) (m d : Nat) (b : List Int) (w : World) (hl : l.length = 64) (hm : b.length = m) (hy : Rd w B (nums .u8 b)) (hK : Konst w) :
    Calls Tryd.prog 3 #[.agg (nums .u8 l).toArray, .slice B m d] w (Yes w) := by
  obtain ⟨i0, hi, hz0, hz1, hz2⟩ := info_parts infoByte
  have HY := Lib.hid hy
  have HM := Lib.hid hm
  have HK := Lib.hid hK
  have HL := Lib.hid hl
  obtain ⟨cs, hcs⟩ : ∃ cs, cs = (nums .u8 l).toArray := ⟨_, rfl⟩
  have hsz : cs.size = 64 := by rw [hcs]; simp [hl]
  have HCS := Lib.hid hcs
  rw [← hcs]
  clear hy hm hK hl hcs
  by_cases h2 : 1000 < m
  · have q : (1000 : Int) < m := by omega
    go_enter Tryd.func3, Tryd.ntmps3
    go_wp2_with (go_at_call 16; refine (live2_any _ (HK.out.go (bal brf _))).mono ?_; rintro e w1 ⟨rfl, hb1⟩)
    go_ret
    exact ⟨rfl, bgo (bal brf _) hb1⟩
  have q2 : ¬ (1000 : Int) < m := by omega
  have hu := Tryd.underlying22
  have hsc : (Tryd.prog.info? 22).map (·.size) = some cs.size := by rw [hsz]; kernel_rfl
  go_enter Tryd.func3, Tryd.ntmps3
  go_wp2_with (first
    | (go_at_call 16; refine (live2_any _ (HK.out.go (bal brf _))).mono ?_; rintro e w1 ⟨rfl, hb1⟩; have hk0 : w1.heap[w.heap.size]? = some (.cells cs 22) := (hb1.block w.heap.size (by rw [World.size_alloc]; omega)).trans (World.alloc_heap_new w _))
    | (refine wpList_load_row rfl _ _ rfl w.heap.size rfl 22 cs (0, 0) _ hk0 hu rfl hsc ?_))
  have hz1' := hb1.size
  rw [World.size_alloc] at hz1'
  obtain ⟨B0, hB0⟩ : ∃ B0, B0 = w1.heap.size := ⟨_, rfl⟩
  have hwB : w.heap.size < B0 := by omega
  have hb1' : Below w.heap.size w w1 := bgo (bal brf _) hb1
  go_loopw [5, 6, 16] (fun v u i wr => ∃ k : Nat, k ≤ 64 ∧ i = .int .i64 k ∧ (∃ A c, v = .slice A k c) ∧ (∃ A c, u = .slice A k c) ∧ wr.ownsRow B0 5 1 v k (nums .u8 ((maskL l 54).take k)) ∧ wr.ownsRow B0 5 1 u k (nums .u8 ((maskL l 92).take k)) ∧ Apart v u ∧ B0 ≤ wr.heap.size ∧ Below B0 w1 wr) (fun _ _ i _ => 64 - (intOf i).toNat)
  case atStart => exact ⟨0, Nat.zero_le _, rfl, ⟨_, _, rfl⟩, ⟨_, _, rfl⟩, ⟨rfl, .inl ⟨rfl, rfl⟩⟩, ⟨rfl, .inl ⟨rfl, rfl⟩⟩, Apart.none_, by omega, Below.refl _ _⟩
  case round =>
    obtain ⟨k, hk, rfl, ⟨A5, c5, rfl⟩, ⟨A6, c6, rfl⟩, hown5, hown6, hap, hzz, hb⟩ := hrel
    by_cases hlt : k < 64
    · have r1 : (k : Int) < 64 := by omega
      have r0 : (0 : Int) ≤ k := by omega
      obtain ⟨y, hyv⟩ : ∃ y, y = l.getD k 0 := ⟨_, rfl⟩
      have hidx := fun W : World => run_index_arr (P := Tryd.prog) W 22 5 64 cs k .u8 y hu infoByte1 (by kernel_rfl) hlt (by rw [HCS.out, hyv]; have := nums_at (k := .u8) (xs := l) (i := k) (by rw [HL.out]; exact hlt); simpa using this)
      have htk : ∀ x, (maskL l x).take (k + 1) = (maskL l x).take k ++ [xor8 y x] := fun x => by
        rw [List.take_add_one, maskL, List.getElem?_map, List.getElem?_eq_getElem (show k < l.length by rw [HL.out]; exact hlt), hyv]
        simp [List.getD, HL.out, hlt]
      have HTK := Lib.hid htk
      clear htk hyv
      go_wp2_with (at_builtin; first
        | (refine append_one_at rfl (.tmp 19) _ 23 rfl B0 5 i0 (.int .u8 0) 1 Tryd.underlying23 hi hz0 hz1 hz2 rfl _ _ _ rfl hown5 _ _ rfl rfl (by unfold maxLen; omega) (by omega) hzz ?_; intro v7 w7 hown7 hgrow7 hat7; have hown6a := own_keep_apart (hown6.alloc _) hgrow7 hap; have hap7 : Apart v7 (.slice A6 k c6) := hap.step hat7 (fun g hg => by have := own_lt hown6 g hg; omega); have hb7 : Below B0 w1 w7 := keep_below hown5 hgrow7 hb hzz (Nat.le_refl _); have hz7 : B0 ≤ w7.heap.size := (by have := hgrow7.size; rw [World.size_alloc] at this; omega); obtain ⟨A7, c7, rfl⟩ := own_slice hown7)
        | (refine append_one_at rfl (.tmp 24) _ 23 rfl B0 5 i0 (.int .u8 0) 1 Tryd.underlying23 hi hz0 hz1 hz2 rfl _ _ _ rfl hown6a _ _ rfl rfl (by unfold maxLen; omega) (by omega) hz7 ?_; intro v8 w8 hown8 hgrow8 hat8; have hown7a := own_keep_apart (hown7.alloc _) hgrow8 hap7.symm; have hap8 : Apart v8 (.slice A7 (k + 1) c7) := hap7.symm.step hat8 (fun g hg => by have := own_lt hown7 g hg; omega); have hb8 : Below B0 w1 w8 := keep_below hown6a hgrow8 hb7 hz7 (Nat.le_refl _); have hz8 : B0 ≤ w8.heap.size := (by have := hgrow8.size; rw [World.size_alloc] at this; omega); obtain ⟨A8, c8, rfl⟩ := own_slice hown8))
      refine ⟨⟨k + 1, by omega, by congr 1, ⟨A7, c7, by congr 1⟩, ⟨A8, c8, by congr 1⟩, ?_, ?_, hap8.symm, hz8, hb8⟩, by show 64 - ((k : Int) + 1).toNat < 64 - (k : Int).toNat; omega⟩
      · rw [HTK.out, nums, List.map_append]; exact hown7a
      · rw [HTK.out, nums, List.map_append]; exact hown8
    · have hk64 : k = 64 := by omega
      subst hk64
      rw [List.take_of_length_le (by rw [mask_len, HL.out]; exact Nat.le_refl _)] at hown5 hown6
      have hbl : blockL l = l := by
        have h1 : shortL l = l := by unfold shortL; rw [if_neg (by rw [HL.out]; omega)]
        unfold blockL; rw [h1, HL.out]; simp
      have htg : tagL l b = sumL (maskL l 92 ++ sumL (maskL l 54 ++ b)) := by rw [tagL, hbl]
      have hbx : Below w.heap.size w wr := hb1'.trans (hb.mono (by omega))
      have hkr : wr.heap[w.heap.size]? = some (.cells cs 22) := (hb.block w.heap.size hwB).trans hk0
      have hl5 : (maskL l 54).length = 64 := by rw [mask_len]; exact HL.out
      have hl6 : (maskL l 92).length = 64 := by rw [mask_len]; exact HL.out
      obtain ⟨k5, hk5⟩ : ∃ k5, k5 = maskL l 54 := ⟨_, rfl⟩
      obtain ⟨k6, hk6⟩ : ∃ k6, k6 = maskL l 92 := ⟨_, rfl⟩
      rw [← hk5] at hown5 hl5 htg
      rw [← hk6] at hown6 hl6 htg
      have hli : (k5 ++ b).length = 64 + m := by simp [hl5, HM.out]
      have CU := fun A1 c1 W h1 hK => sum_any A1 (64 + m) c1 (k5 ++ b) W hli (by omega) h1 hK
      have hsl := sumL_len (k5 ++ b)
      obtain ⟨s, hs⟩ : ∃ s, s = sumL (k5 ++ b) := ⟨_, rfl⟩
      rw [← hs] at CU hsl htg
      have hlo : (k6 ++ s).length = 64 + 32 := by simp [hl6, hsl]
      have CV := fun A1 c1 W h1 hK => sum_any A1 (64 + 32) c1 (k6 ++ s) W hlo (by omega) h1 hK
      rw [← htg] at CV
      have CT := fun W h1 h2 hK => tag_any (some ⟨w.heap.size, 0, none⟩) B 64 64 m d l b W HL.out HM.out (by omega) (by omega) h1 h2 hK
      have CS := fun A1 A2 c1 c2 W h1 h2 => same_true A1 A2 32 c1 32 c2 (tagL l b) (tagL l b) W rfl (tag_len _ _) (tag_len _ _) h1 h2 (tag_byt _ _)
      have hnb : (nums .u8 b).length = m := by simp [HM.out]
      have hns : (nums .u8 s).length = 32 := by simp [hsl]
      have HNB := Lib.hid hnb
      have HNS := Lib.hid hns
      have HSL := Lib.hid hsl
      have hrk : Rd wr (some ⟨w.heap.size, 0, none⟩) (nums .u8 l) := .inr ⟨_, 0, rfl, by omega, fun i v hv => by
        rw [Nat.zero_add, cell_of_row wr w.heap.size i cs _ (0, 0) hkr, HCS.out]; simpa using hv⟩
      have HRK := Lib.hid hrk
      clear hk5 hk6 hl5 hl6 hli hs hsl hlo htg hbl hnb hns hrk
      go_wp2_with (first
        | (at_builtin; first
            | (refine append_vs rfl (.tmp 30) _ 23 rfl B0 5 i0 (.int .u8 0) 1 Tryd.underlying23 hi hz0 hz1 hz2 rfl (.slice A5 64 c5) 64 (nums .u8 k5) rfl hown5 B m d (nums .u8 b) rfl HNB.out (HY.out.below hbx) nums_u8_one (by unfold maxLen; omega) (by omega) hzz ?_; intro v9 w9 hown9 hgrow9; have hown6b := own_keep_apart hown6 hgrow9 hap; obtain ⟨A9, c9, rfl⟩ := own_slice hown9; rw [← List.map_append] at hown9; have HR9 := Lib.hid (Rd.of_own hown9); have hb9 : Below w.heap.size w w9 := hbx.grown hgrow9 (by omega) (fun g e => by have := (hown5.lt g e).1; omega); have hb9' : Below B0 wr w9 := (Below.refl _ _).grown hgrow9 hzz (fun g e => (hown5.lt g e).1); have HRK := Lib.hid (RdB HRK.out hb9' hwB hgrow9.size); have HBX := hb9; clear hown5 hown9)
            | (refine append_vs rfl (.tmp 37) _ 23 rfl B0 5 i0 (.int .u8 0) 1 Tryd.underlying23 hi hz0 hz1 hz2 rfl (.slice A6 64 c6) 64 (nums .u8 k6) rfl hown6b (some ⟨B10, 0, none⟩) 32 c10 (nums .u8 s) rfl HNS.out HR10.out nums_u8_one (by unfold maxLen; omega) (by omega) (by have h1 := hb9'.size; have h2 := hb10.size; have h3 := hb11.size; omega) ?_; intro v12 w12 hown12 hgrow12; obtain ⟨A12, c12, rfl⟩ := own_slice hown12; rw [← List.map_append] at hown12; have HR12 := Lib.hid (Rd.of_own hown12); have HRT := Lib.hid (RdG HRT.out hgrow12 (by intro g e; have := own_lt hown6c g e; omega)); have HBX : Below w.heap.size w w12 := HBX.grown hgrow12 HBX.size (fun g e => by have := (hown6b.lt g e).1; omega)))
        | (go_at_call 17; first
            | ((with_reducible refine (CU A9 c9 _ HR9.out (HK.out.go HBX)).mono ?_); rintro e w10 ⟨B10, c10, rfl, hc10, hl10, hr10, hb10⟩; rw [HSL.out] at hc10 ⊢; have HR10 := Lib.hid hr10; have hown6b := own_below hown6b hb10; have HRK := Lib.hid (HRK.out.below hb10); have HBX := bgo HBX hb10)
            | ((with_reducible refine (CV A12 c12 _ HR12.out (HK.out.go HBX)).mono ?_); rintro e w13 ⟨B13, c13, rfl, hc13, hl13, hr13, hb13⟩; rw [tag_len] at hc13 ⊢; have HRT := Lib.hid (HRT.out.below hb13); have HBX := bgo HBX hb13))
        | (go_at_call 19; refine (CT _ HRK.out (HY.out.below HBX) (HK.out.go HBX)).mono ?_; rintro e w11 ⟨B11, c11, rfl, hc11, hl11, hr11, hb11⟩; rw [tag_len] at hc11 ⊢; have HRT := Lib.hid hr11; have hown6c := hown6b; have hown6b := own_below hown6b hb11; have HR10 := Lib.hid (HR10.out.below hb11); have HBX := bgo HBX hb11)
        | (go_at_call 18; refine (CS _ _ _ _ _ HRT.out hr13).mono ?_; rintro e w14 ⟨rfl, rfl⟩))
      go_ret
      exact ⟨rfl, HBX⟩

theorem macHashes_of {H : Type} {enc : TypeId × Value → H} (W : World) (base : Nat) (args : Array Value) (ds : List (DataW H)) (p : List MemPlace)
    (hval : ∀ (j : Nat) t v, Tryd.f3.params[j]? = some t → args[j]? = some v → Value.okWide Tryd.prog W .any base t v)
    (hA : DataW.TrodAll enc Tryd.prog W 0 (fun _ => true) true Tryd.f3.params.toList args.toList ds p) (hlt : ∀ x ∈ p, x.block < W.heap.size)
    (hz : (DataW.weightsEach Tryd.prog Tryd.f3.params.toList ds).all (· ≤ reachBytes) = true) (hK : Konst W) : Calls Tryd.prog 3 args W (Yes W) := by
  rw [Tryd.params3] at hA hval hz
  obtain ⟨v0, vs0, d0, ds0, p0, q0, hargs, rfl, rfl, h0, r0⟩ := trodAll_cons hA
  obtain ⟨v1, vs1, d1, ds1, p1, q1, rfl, rfl, rfl, h1, r1⟩ := trodAll_cons r0
  obtain ⟨rfl, rfl, rfl⟩ := trodAll_nil r1
  obtain rfl : args = #[v0, v1] := by cases args; simp_all
  obtain ⟨l, rfl, hl, hbl⟩ := open_bytes64 (hval 0 _ _ rfl rfl) h0
  obtain ⟨B, m, d, ys, rfl, hm, hs, hc⟩ := open_bytes h1 (hval 1 _ _ rfl rfl)
  exact macHashes_walk l B m d ys W hl hm hs hK
end Go.Proofs.YtklamgdgdamcgaaDoor
