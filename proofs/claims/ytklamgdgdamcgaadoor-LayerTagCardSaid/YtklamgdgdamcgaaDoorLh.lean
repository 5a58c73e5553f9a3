/- Layers of one nonce differ as their texts do. -/
import Derived.Test.YtklamgdgdamcgaaDoorLg
import Derived.Test.YtklamgdgdamcgaaDoorMk
import Derived.Deep.RegionWith
import Derived.Deep.DeepMust
namespace Go.Proofs.YtklamgdgdamcgaaDoor
open Go.RowKit Go.ChangeShapes Go.WideShapes Go.ChangeAt
set_option linter.unusedSimpArgs false
set_option linter.unusedVariables false

theorem open_arr {H : Type} {enc : TypeId × Value → H} {W : World} {base b0 : Nat} {sp : Nat → Bool} {held : Bool} {v : Value} {d : DataW H} {p : List MemPlace} {t : TypeId} {N : Nat} (ht : Tryd.prog.underlying t = some (.array N 5)) (hC : Tryd.prog.cellsOf t = N) (hv : Value.okWide Tryd.prog W .any base t v) (h : DataW.Trod enc Tryd.prog W b0 sp held t v d p) :
    ∃ l : List Int, v = .agg (nums .u8 l).toArray ∧ l.length = N ∧ Byt l := by
  obtain ⟨cs, rfl, hsz⟩ := okWide_arr ht hv
  rw [hC] at hsz
  obtain ⟨l⟩ := cs
  obtain ⟨fuel, hf⟩ := h
  obtain ⟨xs, m1, rfl, hx1, hlen, hn3, hel⟩ := DataW.trod_array ht hf
  have hsz : l.length = N := hsz
  have get : ∀ i, i < N → ∃ z : Int, l[i]? = some (.int .u8 z) ∧ 0 ≤ z ∧ z ≤ 255 := by
    intro i hi
    have h0 := hel i hi
    rw [List.getElem?_eq_getElem (show i < xs.length by omega), show Tryd.prog.cellsOf 5 = 1 from by kernel_rfl, Nat.mul_one] at h0
    obtain ⟨k, e1, e2, e3⟩ := DataW.trod_int Tryd.underlying5 h0
    have e4 := congrArg (fun l => l[0]?) e1
    have e5 : (decide ((0 : Int) ≤ k) && decide (k ≤ (255 : Int))) = true := e3
    exact ⟨k, by simpa [Value.cells] using e4, by simpa using e5⟩
  obtain ⟨f, hf⟩ := Deep.choose_lt get
  refine ⟨(List.range N).map f, ?_, by simp, ?_⟩
  · congr 2
    apply List.ext_getElem?
    intro i
    by_cases hi : i < N
    · rw [(hf i hi).1]
      simp [nums, List.getElem?_range hi]
    · rw [List.getElem?_eq_none (by omega), List.getElem?_eq_none (by simp [nums]; omega)]
  · intro x hx
    obtain ⟨i, hi, rfl⟩ := List.mem_map.1 hx
    exact (hf i (List.mem_range.1 hi)).2

theorem xor8_strip (x y z : Int) (hx : 0 ≤ x ∧ x ≤ 255) (hy : 0 ≤ y ∧ y ≤ 255) (hz : 0 ≤ z ∧ z ≤ 255) : xor8 (xor8 x z) (xor8 y z) = xor8 x y := by
  obtain ⟨X, rfl⟩ := Int.eq_ofNat_of_zero_le hx.1
  obtain ⟨Y, rfl⟩ := Int.eq_ofNat_of_zero_le hy.1
  obtain ⟨Z, rfl⟩ := Int.eq_ofNat_of_zero_le hz.1
  have h1 : X < 256 := by omega
  have h2 : Y < 256 := by omega
  have h3 : Z < 256 := by omega
  rw [xor8_nat X Z h1 h3, xor8_nat Y Z h2 h3, xor8_nat X Y h1 h2, xor8_nat _ _ (Nat.xor_lt_two_pow (n := 8) h1 h3) (Nat.xor_lt_two_pow (n := 8) h2 h3)]
  congr 1
  apply Nat.eq_of_testBit_eq
  intro i
  simp only [Nat.testBit_xor]
  cases X.testBit i <;> cases Y.testBit i <;> cases Z.testBit i <;> rfl
theorem xorL_strip {a b s : List Int} (hl : a.length = b.length) (ha : Byt a) (hb : Byt b) (hs : Byt s) : xorL (xorL a s) (xorL b s) = xorL a b := by
  apply List.ext_getElem
  · simp [xor_len]
  · intro j h1 h2
    have h3 : j < a.length := by rw [xor_len] at h2; exact h2
    have e1 := xorL_at (a := xorL a s) (b := xorL b s) j (by rw [xor_len]; exact h3)
    have e2 := xorL_at (a := a) (b := b) j h3
    have f1 := xorL_at (a := a) (b := s) j h3
    have f2 := xorL_at (a := b) (b := s) j (by omega)
    rw [f1, f2, xor8_strip _ _ _ (byt_at ha j) (byt_at hb j) (byt_at hs j), ← e2] at e1
    simpa [List.getD, h1, h2] using e1
theorem hide_strip {k a b : List Int} (hl : a.length = b.length) (ha : Byt a) (hb : Byt b) : xorL (hideL k a) (hideL k b) = xorL a b := by
  rw [hideL, hideL, ← hl]
  exact xorL_strip hl ha hb (streamL_byt _ _)
theorem sealL_mid {server nonce plain : List Int} (hn : nonce.length = 16) : ((sealL server nonce plain).drop 16).take plain.length = hideL (tagL server nonce) plain := by
  have h1 : (sealL server nonce plain).drop 16 = hideL (tagL server nonce) plain ++ tagL (tagL (tagL server nonce) [3]) (outL server nonce plain) := by
    rw [sealL]
    conv => lhs; rw [outL, List.append_assoc, ← hn, List.drop_left]
    rfl
  rw [h1, List.take_append_of_le_length (by rw [hide_len]; omega), List.take_of_length_le (by rw [hide_len]; omega)]

set_option maxHeartbeats 2000000 in
theorem layerStream_walk (A B C : Option Addr) (n c m d t f : Nat) (server l a b : List Int) (w : World) (hn : server.length = n) (hl : l.length = 16) (hm : a.length = m) (ht : b.length = t) (hx : Rd w A (nums .u8 server)) (hy : Rd w B (nums .u8 a)) (hz : Rd w C (nums .u8 b)) (bl : Byt l) (ba : Byt a) (bb : Byt b) (hK : Konst w) :
    Calls Tryd.prog 10 #[.slice A n c, .agg (nums .u8 l).toArray, .slice B m d, .slice C t f] w (Yes w) := by
  have HK := Lib.hid hK
  obtain ⟨cs, hcs⟩ : ∃ cs, cs = (nums .u8 l).toArray := ⟨_, rfl⟩
  have hsz : cs.size = 16 := by rw [hcs]; simp [hl]
  have HR0 := Lib.hid (show Rd (w.alloc (.cells cs 45)) (some ⟨w.heap.size, 0, none⟩) (nums .u8 l) by rw [hcs]; exact rd_new w l _)
  rw [← hcs]
  have HX := Lib.hid (hx.below (bal brf (.cells cs 45)))
  have HY := Lib.hid (hy.below (bal brf (.cells cs 45)))
  have HZ := Lib.hid (hz.below (bal brf (.cells cs 45)))
  have HK0 := Lib.hid (hK.go (bal brf (.cells cs 45)))
  have HN := Lib.hid hn
  have HL := Lib.hid hl
  have HM := Lib.hid hm
  have HT := Lib.hid ht
  have HBA := Lib.hid ba
  have HBB := Lib.hid bb
  clear hx hy hz hn hl hm ht hK bl ba bb hcs
  by_cases h1 : 200 < n
  · skip
    have q : (200 : Int) < n := by omega
    go_enter Tryd.func10, Tryd.ntmps10
    go_wp2_with (go_at_call 36; refine (live8_any _ HK0.out).mono ?_; rintro e w1 ⟨rfl, hb1⟩; have HBX := bgo (bal brf _) hb1)
    go_ret
    exact ⟨rfl, HBX⟩
  have q1 : ¬ (200 : Int) < n := by omega
  by_cases h2 : 700 < m
  · skip
    have q : (700 : Int) < m := by omega
    go_enter Tryd.func10, Tryd.ntmps10
    go_wp2_with (go_at_call 36; refine (live8_any _ HK0.out).mono ?_; rintro e w1 ⟨rfl, hb1⟩; have HBX := bgo (bal brf _) hb1)
    go_ret
    exact ⟨rfl, HBX⟩
  have q2 : ¬ (700 : Int) < m := by omega
  by_cases h3 : m ≠ t
  · skip
    have q : ¬ (m : Int) = t := by omega
    have qb : ((m : Int) != (t : Int)) = true := by simp; omega
    go_enter Tryd.func10, Tryd.ntmps10
    go_wp2_with (go_at_call 36; refine (live8_any _ HK0.out).mono ?_; rintro e w1 ⟨rfl, hb1⟩; have HBX := bgo (bal brf _) hb1)
    go_ret
    exact ⟨rfl, HBX⟩
  obtain rfl : m = t := by omega
  obtain ⟨M, hM⟩ : ∃ M, M = 16 + m + 32 := ⟨_, rfl⟩
  obtain ⟨Q, hQ⟩ : ∃ Q, Q = 16 + m := ⟨_, rfl⟩
  have w1_ : IntKind.i64.wrap ((48 : Int) + m) = (M : Int) := by rw [show (48 : Int) + m = M by omega]; exact IntWalk.i64_in _ (by omega)
  have w2_ : IntKind.i64.wrap ((16 : Int) + m) = (Q : Int) := by rw [show (16 : Int) + m = Q by omega]; exact IntWalk.i64_in _ (by omega)
  have w3_ : (16 : Int) ≤ Q := by omega
  have w4_ : Q - 16 = m := by omega
  have w5_ : (0 : Int) ≤ Q := by omega
  have CA := fun W h1 h2 h3 hK => seal_any A (some ⟨w.heap.size, 0, none⟩) B n c 16 m d server l a W HN.out HL.out HM.out (by omega) (by omega) h1 h2 h3 hK
  have CB := fun W h1 h2 h3 hK => seal_any A (some ⟨w.heap.size, 0, none⟩) C n c 16 m f server l b W HN.out HL.out HT.out (by omega) (by omega) h1 h2 h3 hK
  have hsa : (sealL server l a).length = M := by rw [sealL_len, HL.out, HM.out, hM]
  have hsb : (sealL server l b).length = M := by rw [sealL_len, HL.out, HT.out, hM]
  have hma := sealL_mid (server := server) (plain := a) HL.out
  have hmb := sealL_mid (server := server) (plain := b) HL.out
  rw [HM.out] at hma
  rw [HT.out] at hmb
  have hxs := hide_strip (k := tagL server l) (HM.out.trans HT.out.symm) HBA.out HBB.out
  have CX := fun A1 A2 c1 c2 W h1 h2 => xor_same A1 A2 m c1 c2 (hideL (tagL server l) a) (hideL (tagL server l) b) W (by rw [hide_len, HM.out]) (by rw [hide_len, HT.out]) (by omega) h1 h2
  have CY := fun W h1 h2 => xor_same B C m d f a b W HM.out HT.out (by omega) h1 h2
  rw [hxs] at CX
  have S1 := fun A1 A2 c1 c2 W h1 h2 => same_true A1 A2 m c1 m c2 (xorL a b) (xorL a b) W rfl (by rw [xor_len, HM.out]) (by rw [xor_len, HM.out]) h1 h2 (xorL_byt HBA.out HBB.out)
  have HSA := Lib.hid hsa
  have HSB := Lib.hid hsb
  have HMA := Lib.hid hma
  have HMB := Lib.hid hmb
  have w6_ : Q < M := by omega
  have w7_ : 16 < M := by omega
  clear hsa hsb hma hmb hxs hM hQ
  go_enter Tryd.func10, Tryd.ntmps10
  go_upto_region 9 with (first
    | (go_at_call 36; refine (live8_any _ HK0.out).mono ?_; rintro e w1 ⟨rfl, hb1⟩; have HBX := hb1)
    | (go_at_call 37; first
        | ((with_reducible refine (CA _ (HX.out.below HBX) (HR0.out.below HBX) (HY.out.below HBX) (HK0.out.go HBX)).mono ?_); rintro e w2 ⟨A2, c2, he, hc2, hr2, hb2⟩; rw [HSA.out] at he hc2; subst he; obtain ⟨x2, y2, rfl, _, _⟩ := hr2.at_ (by simp [HSA.out]; omega); have HBX := bgo HBX hb2; have hr4 := hr2.part 16 m; rw [HMA.out] at hr4; have HRx := Lib.hid hr4; clear hr2 hr4)
        | ((with_reducible refine (CB _ (HX.out.below HBX) (HR0.out.below HBX) (HZ.out.below HBX) (HK0.out.go HBX)).mono ?_); rintro e w3 ⟨A3, c3, he, hc3, hr3, hb3⟩; rw [HSB.out] at he hc3; subst he; obtain ⟨x3, y3, rfl, _, _⟩ := hr3.at_ (by simp [HSB.out]; omega); (try have HRx := Lib.hid (HRx.out.below hb3)); (try have HRy := Lib.hid (HRy.out.below hb3)); (try have HRu := Lib.hid (HRu.out.below hb3)); (try have HRv := Lib.hid (HRv.out.below hb3)); have HBX := bgo HBX hb3; have hr4 := hr3.part 16 m; rw [HMB.out] at hr4; have HRy := Lib.hid hr4; clear hr3 hr4)))
  have v1 : (Q : Int) ≤ c2 := by omega
  have v2 : (Q : Int) ≤ c3 := by omega
  have v3 : ¬ c2 = 16 := by omega
  have v4 : ¬ c3 = 16 := by omega
  have v5 : ¬ c2 = Q := by omega
  have v6 : ¬ c3 = Q := by omega
  have HRx := Lib.hid (HRx.out.below (bdr (brf (w := w3))))
  have HRy := Lib.hid (HRy.out.below (bdr (brf (w := w3))))
  have HBX := bdr HBX
  go_region_with (go_at_call 25; go_must (refine (CX _ _ _ _ _ HRx.out HRy.out).mono ?_; rintro e w4 ⟨A4, c4, rfl, hr4, hb4⟩; have HBY := bgo HBX hb4; have HRu := Lib.hid hr4; clear hr4))
  go_wp2_with (first
    | (go_at_call 25; refine (CY _ (HY.out.below HBY) (HZ.out.below HBY)).mono ?_; rintro e w5 ⟨A5, c5, rfl, hr5, hb5⟩; have HBZ := bgo HBY hb5; have HRv := Lib.hid hr5; have HRu := Lib.hid (HRu.out.below hb5); clear hr5)
    | (go_at_call 18; refine (S1 _ _ _ _ _ HRu.out HRv.out).mono ?_; rintro e w6 ⟨rfl, rfl⟩))
  go_ret
  exact ⟨rfl, bgo (bal brf _) HBZ⟩

theorem layerStream_of {H : Type} {enc : TypeId × Value → H} (W : World) (base : Nat) (args : Array Value) (ds : List (DataW H)) (p : List MemPlace)
    (hval : ∀ (j : Nat) t v, Tryd.f10.params[j]? = some t → args[j]? = some v → Value.okWide Tryd.prog W .any base t v)
    (hA : DataW.TrodAll enc Tryd.prog W 0 (fun _ => true) true Tryd.f10.params.toList args.toList ds p) (hlt : ∀ x ∈ p, x.block < W.heap.size)
    (hz : (DataW.weightsEach Tryd.prog Tryd.f10.params.toList ds).all (· ≤ reachBytes) = true) (hK : Konst W) : Calls Tryd.prog 10 args W (Yes W) := by
  rw [Tryd.params10] at hA hval hz
  obtain ⟨v0, vs0, d0, ds0, p0, q0, hargs, rfl, rfl, h0, r0⟩ := trodAll_cons hA
  obtain ⟨v1, vs1, d1, ds1, p1, q1, rfl, rfl, rfl, h1, r1⟩ := trodAll_cons r0
  obtain ⟨v2, vs2, d2, ds2, p2, q2, rfl, rfl, rfl, h2, r2⟩ := trodAll_cons r1
  obtain ⟨v3, vs3, d3, ds3, p3, q3, rfl, rfl, rfl, h3, r3⟩ := trodAll_cons r2
  obtain ⟨rfl, rfl, rfl⟩ := trodAll_nil r3
  obtain rfl : args = #[v0, v1, v2, v3] := by cases args; simp_all
  obtain ⟨A, n, c, xs, rfl, hn0, hr0, hb0, hc0, hd0⟩ := open_bytes2 h0 (hval 0 _ _ rfl rfl)
  obtain ⟨l, rfl, hl, bl⟩ := open_arr Tryd.underlying45 (by kernel_rfl) (hval 1 _ _ rfl rfl) h1
  obtain ⟨B, m, d, us, rfl, hn2, hr2, hb2, hc2, hd2⟩ := open_bytes2 h2 (hval 2 _ _ rfl rfl)
  obtain ⟨C, t, f, bs, rfl, hn3, hr3, hb3, hc3, hd3⟩ := open_bytes2 h3 (hval 3 _ _ rfl rfl)
  exact layerStream_walk A B C n c m d t f xs l us bs W hn0 hl hn2 hn3 hr0 hr2 hr3 bl hb2 hb3 hK
end Go.Proofs.YtklamgdgdamcgaaDoor
