/- The law of a block. -/
import Derived.Test.YtkclfhkaopimoaaDoorLaid
import Derived.Test.YtkclfhkaopimoaaDoorSi
import Derived.Test.YtkclfhkaopimoaaDoorEq8
namespace Go.Proofs.YtkclfhkaopimoaaDoor
open Go.RowKit
set_option linter.unusedSimpArgs false
set_option linter.unusedVariables false

theorem arr_new (w : World) (h0 h1 h2 h3 h4 h5 h6 h7 : Int) : Arr (w.alloc (.cells #[.int .u32 h0, .int .u32 h1, .int .u32 h2, .int .u32 h3, .int .u32 h4, .int .u32 h5, .int .u32 h6, .int .u32 h7] 27)) w.heap.size [h0, h1, h2, h3, h4, h5, h6, h7] := ⟨fun j hj => (by
      rw [World.cell?_alloc_at _ _ _ _ rfl]
      match j, hj with
      | 0, _ | 1, _ | 2, _ | 3, _ | 4, _ | 5, _ | 6, _ | 7, _ => rfl), fun j => by simp [go_sem]⟩

set_option maxRecDepth 100000 in
set_option maxHeartbeats 2000000 in
theorem shaBlocks_walk (h0 h1 h2 h3 h4 h5 h6 h7 : Int) (A : Option Addr) (n c : Nat) (xs : List Int) (w : World) (hn : xs.length = n) (hx : Rd w A (nums .u8 xs)) (hK : Konst w) :
    Calls Tryd.prog 4 #[.agg #[.int .u32 h0, .int .u32 h1, .int .u32 h2, .int .u32 h3, .int .u32 h4, .int .u32 h5, .int .u32 h6, .int .u32 h7], .slice A n c] w (Yes w) := by
  have hw0 : 0 < w.heap.size := cell_lt (hK 0 (by omega))
  have HN := Lib.hid hn
  have HX := Lib.hid hx
  have HK := Lib.hid hK
  clear hn hx hK
  by_cases hbig : 1000 < n
  · have r1 : (1000 : Int) < n := by omega
    go_enter Tryd.func4, Tryd.ntmps4
    go_wp2_with (go_at_call 15; refine (live_any _ (HK.out.below (bal brf _) hw0)).mono ?_; rintro e w1 ⟨rfl, hb1⟩)
    go_ret
    exact ⟨rfl, bgo (bal brf _) hb1⟩
  have r1 : ¬ (1000 : Int) < n := by omega
  have hA0 : Arr (w.alloc (.cells #[.int .u32 h0, .int .u32 h1, .int .u32 h2, .int .u32 h3, .int .u32 h4, .int .u32 h5, .int .u32 h6, .int .u32 h7] 27)) w.heap.size [h0, h1, h2, h3, h4, h5, h6, h7] := ⟨fun j hj => (by
      rw [World.cell?_alloc_at _ _ _ _ rfl]
      match j, hj with
      | 0, _ | 1, _ | 2, _ | 3, _ | 4, _ | 5, _ | 6, _ | 7, _ => rfl), fun j => by simp [go_sem]⟩
  have HA0 := Lib.hid hA0
  clear hA0
  by_cases h64 : n = 64
  · have HE := Lib.hid h64
    obtain ⟨u0, u1, u2, u3, u4, u5, u6, u7, hu⟩ := len8 (blk_len (l := [h0, h1, h2, h3, h4, h5, h6, h7]) rfl xs)
    have hw := blk_words (l := [h0, h1, h2, h3, h4, h5, h6, h7]) rfl xs
    rw [hu] at hw
    have heq := fun w => eq8 u0 u1 u2 u3 u4 u5 u6 u7 w hw
    have HU := Lib.hid hu
    clear hu hw
    subst h64
    go_enter Tryd.func4, Tryd.ntmps4
    go_wp2_with (first
      | (go_at_call 15; refine (live_any _ (HK.out.below (bal brf _) hw0)).mono ?_; rintro e w1 ⟨rfl, hb1⟩; have hz1 := hb1.size; rw [World.size_alloc] at hz1; have hB1 := bgo (bal brf _) hb1; obtain ⟨c0, c1, c2, c3, c4, c5, c6, c7, f0⟩ := (HA0.out.below hb1 (by simp)).eight; have HA1 := Lib.hid (HA0.out.below hb1 (by simp)); clear hb1)
      | (go_at_call 21; refine (block_any _ _ _ _ _ _ _ _ _ _ xs _ HN.out (HX.out.below hB1) (HK.out.below hB1 hw0)).mono ?_; rintro e w2 ⟨he, hb2⟩; rw [HU.out] at he; simp only [List.map_cons, List.map_nil] at he; subst he; have hz2 := hb2.size; have hl2 : w.heap.size < w2.heap.size := (by omega); clear c0 c1 c2 c3 c4 c5 c6 c7 f0; obtain ⟨c0, c1, c2, c3, c4, c5, c6, c7, f0⟩ := (HA1.out.below hb2 (by omega)).eight; have hB2 := hB1.trans (hb2.mono (by omega)))
      | (go_at_call 22; refine (rblock_any _ _ _ _ _ _ _ _ _ _ xs _ HN.out (HX.out.below (hB2.trans ((bal brf _).mono (by omega))))).mono ?_; rintro e w3 ⟨he, hb3⟩; rw [HU.out] at he; simp only [List.map_cons, List.map_nil] at he; subst he; have hz3 := hb3.size; rw [World.size_alloc] at hz3; have hl3 : w2.heap.size < w3.heap.size := (by omega); obtain ⟨d0, d1, d2, d3, d4, d5, d6, d7, _⟩ := ((arr_new w2 u0 u1 u2 u3 u4 u5 u6 u7).below hb3 (by simp)).eight; have hB3 := hB2.trans ((bgo (bal brf _) hb3).mono (by omega))))
    go_ret
    exact ⟨rfl, hB3.trans ((bal brf _).mono (by omega))⟩
  · have hne : ¬ ((n : Int) = 64) := by omega
    have heq := fun w => eq8 0 0 0 0 0 0 0 0 w (by simp [Words])
    go_enter Tryd.func4, Tryd.ntmps4
    go_wp2_with (first
      | (go_at_call 15; refine (live_any _ (HK.out.below (bal brf _) hw0)).mono ?_; rintro e w1 ⟨rfl, hb1⟩; have hz1 := hb1.size; rw [World.size_alloc] at hz1; have hB1 := bgo (bal brf _) hb1; obtain ⟨c0, c1, c2, c3, c4, c5, c6, c7, f0⟩ := (HA0.out.below hb1 (by simp)).eight; have HA1 := Lib.hid (HA0.out.below hb1 (by simp)); clear hb1)
      | (go_at_call 21; refine (block_short _ _ _ _ _ _ _ _ _ _ _ _ h64).mono ?_; rintro e w2 ⟨rfl, hb2⟩; have hz2 := hb2.size; have hl2 : w.heap.size < w2.heap.size := (by omega); clear c0 c1 c2 c3 c4 c5 c6 c7 f0; obtain ⟨c0, c1, c2, c3, c4, c5, c6, c7, f0⟩ := (HA1.out.below hb2 (by omega)).eight; have hB2 := hB1.trans (hb2.mono (by omega)))
      | (go_at_call 22; refine (rblock_short _ _ _ _ _ _ _ _ _ _ _ _ h64).mono ?_; rintro e w3 ⟨rfl, hb3⟩; have hz3 := hb3.size; rw [World.size_alloc] at hz3; have hl3 : w2.heap.size < w3.heap.size := (by omega); obtain ⟨d0, d1, d2, d3, d4, d5, d6, d7, _⟩ := ((arr_new w2 0 0 0 0 0 0 0 0).below hb3 (by simp)).eight; have hB3 := hB2.trans ((bgo (bal brf _) hb3).mono (by omega))))
    go_ret
    exact ⟨rfl, hB3.trans ((bal brf _).mono (by omega))⟩


open Go.ChangeShapes Go.WideShapes Go.ChangeAt

theorem okWide_array {P : Program} {w : World} {r : Reach} {base n : Nat} {t e : TypeId} {v : Value} (ht : P.underlying t = some (.array n e)) (h : Value.okWide P w r base t v) : ∃ cs, v = .agg cs ∧ cs.size = P.cellsOf t := by
  simp only [Value.okWide, ht] at h
  obtain ⟨cs, h1, h2, _⟩ := h
  exact ⟨cs, h1, h2⟩

/-- Eight words, read as data. -/
theorem open_words {H : Type} {enc : TypeId × Value → H} {W : World} {base b0 : Nat} {sp : Nat → Bool} {held : Bool} {v : Value} {d : DataW H} {p : List MemPlace} (hv : Value.okWide Tryd.prog W .any base 27 v) (h : DataW.Trod enc Tryd.prog W b0 sp held 27 v d p) :
    ∃ a b c d e f g i : Int, v = .agg #[.int .u32 a, .int .u32 b, .int .u32 c, .int .u32 d, .int .u32 e, .int .u32 f, .int .u32 g, .int .u32 i] := by
  obtain ⟨cs, rfl, hsz⟩ := okWide_array Tryd.underlying27 hv
  rw [c27] at hsz
  obtain ⟨l⟩ := cs
  obtain ⟨fuel, hf⟩ := h
  obtain ⟨xs, m1, rfl, hx1, hlen, hn3, hel⟩ := DataW.trod_array Tryd.underlying27 hf
  match l, hsz with
  | [x0, x1, x2, x3, x4, x5, x6, x7], _ =>
    have get : ∀ i (hi : i < 8), ∃ z, [x0, x1, x2, x3, x4, x5, x6, x7][i]? = some (.int .u32 z) := by
      intro i hi
      have h0 := hel i hi
      rw [List.getElem?_eq_getElem (show i < xs.length by omega), c26, Nat.mul_one] at h0
      obtain ⟨k, e1, _, _⟩ := DataW.trod_int Tryd.underlying26 h0
      have := congrArg (fun l => l[0]?) e1
      exact ⟨k, by simpa [Value.cells] using this⟩
    obtain ⟨z0, e0⟩ := get 0 (by omega)
    obtain ⟨z1, e1⟩ := get 1 (by omega)
    obtain ⟨z2, e2⟩ := get 2 (by omega)
    obtain ⟨z3, e3⟩ := get 3 (by omega)
    obtain ⟨z4, e4⟩ := get 4 (by omega)
    obtain ⟨z5, e5⟩ := get 5 (by omega)
    obtain ⟨z6, e6⟩ := get 6 (by omega)
    obtain ⟨z7, e7⟩ := get 7 (by omega)
    simp at e0 e1 e2 e3 e4 e5 e6 e7
    subst e0 e1 e2 e3 e4 e5 e6 e7
    exact ⟨z0, z1, z2, z3, z4, z5, z6, z7, rfl⟩

theorem open_bytes {H : Type} {enc : TypeId × Value → H} {W : World} {base b0 : Nat} {sp : Nat → Bool} {held : Bool} {v : Value} {d : DataW H} {p : List MemPlace} (h : DataW.Trod enc Tryd.prog W b0 sp held 22 v d p) (hv : Value.okWide Tryd.prog W .any base 22 v) :
    ∃ A n c xs, v = .slice A n c ∧ xs.length = n ∧ Rd W A (nums .u8 xs) ∧ Byt xs := by
  obtain ⟨A, n, c, rfl⟩ := okWide_slice Tryd.underlying22 hv
  obtain ⟨fuel, hf⟩ := h
  obtain ⟨A', l, c', xs, he, _, _, hl, hr, hw, _⟩ := open_row Tryd.underlying22 Tryd.underlying5 (by kernel_rfl) hf
  cases he
  refine ⟨A, n, c, xs, rfl, hl, hr, fun x hx => ?_⟩
  have : (decide ((0 : Int) ≤ x) && decide (x ≤ (255 : Int))) = true := hw x hx
  simpa using this

theorem shaBlocks_of {H : Type} {enc : TypeId × Value → H} (W : World) (base : Nat) (args : Array Value) (ds : List (DataW H)) (p : List MemPlace)
    (hval : ∀ (j : Nat) t v, Tryd.f4.params[j]? = some t → args[j]? = some v → Value.okWide Tryd.prog W .any base t v)
    (hA : DataW.TrodAll enc Tryd.prog W 0 (fun _ => true) true Tryd.f4.params.toList args.toList ds p) (hlt : ∀ x ∈ p, x.block < W.heap.size)
    (hz : (DataW.weightsEach Tryd.prog Tryd.f4.params.toList ds).all (· ≤ reachBytes) = true) (hK : Konst W) : Calls Tryd.prog 4 args W (Yes W) := by
  rw [Tryd.params4] at hA hval hz
  obtain ⟨v0, vs0, d0, ds0, p0, q0, hargs, rfl, rfl, h0, r0⟩ := trodAll_cons hA
  obtain ⟨v1, vs1, d1, ds1, p1, q1, rfl, rfl, rfl, h1, r1⟩ := trodAll_cons r0
  obtain ⟨rfl, rfl, rfl⟩ := trodAll_nil r1
  obtain rfl : args = #[v0, v1] := by cases args; simp_all

  obtain ⟨k0, k1, k2, k3, k4, k5, k6, k7, rfl⟩ := open_words (hval 0 _ _ rfl rfl) h0
  obtain ⟨A, n, c, xs, rfl, hn, hr, _⟩ := open_bytes h1 (hval 1 _ _ rfl rfl)
  exact shaBlocks_walk _ _ _ _ _ _ _ _ A n c xs W hn hr hK
end Go.Proofs.YtkclfhkaopimoaaDoor
