/- The law that each shuffle comes of some draws. -/
import Derived.Test.YtmepcpklnpjebaaPj
import Derived.Deep.Cut
namespace Go.Proofs.Ytmepcpklnpjebaa
open Go.RowKit Go.ChangeShapes Go.WideShapes Go.ChangeAt
set_option linter.unusedSimpArgs false
set_option linter.unusedVariables false

/-- So far as the draws go, from the last place on, the numbers stand as they shall. -/
def Good (xs : List Int) (D : List Int) : Prop := ∀ j, xs.length - 1 - D.length < j → j < xs.length → (shufN xs.length D D.length).getD j 0 = xs.getD j 0
theorem leftN_small {a m : Nat} (h : a < m) : leftN (a : Int) m = a := by
  unfold leftN
  rw [Int.emod_eq_of_lt (by omega) (by omega)]
  omega
theorem good_nil (xs : List Int) : Good xs [] := fun j h1 h2 => by simp at h1; omega
theorem good_step {xs D : List Int} (hs : Sh xs) (hg : Good xs D) (i : Nat) (hi : i + 1 + D.length = xs.length) (h1 : 1 ≤ i) :
    ∃ a, a ≤ i ∧ (shufN xs.length D D.length).getD a 0 = xs.getD i 0 ∧ (∀ k, k ≤ i → (shufN xs.length D D.length).getD k 0 = xs.getD i 0 → k = a) ∧
      shufN xs.length (D ++ [(a : Int)]) (D.length + 1) = swapL (shufN xs.length D D.length) i a ∧ Good xs (D ++ [(a : Int)]) := by
  have hsh := shufN_sh xs.length D D.length (by omega)
  have hl := shufN_len xs.length D D.length
  have hx := hs.1 i (by omega)
  obtain ⟨a, ha, hae⟩ := hsh.onto (xs.getD i 0).toNat (by omega)
  have hae : (shufN xs.length D D.length).getD a 0 = xs.getD i 0 := by omega
  have hai : a ≤ i := by
    rcases Nat.lt_or_ge i a with h | h
    · have := hg a (by omega) (by omega)
      have := hs.2 a i (by omega) (by omega) (by omega)
      omega
    · exact h
  have hsw : shufN xs.length (D ++ [(a : Int)]) (D.length + 1) = swapL (shufN xs.length D D.length) i a := by
    rw [shufN]
    have e1 : shufN xs.length (D ++ [(a : Int)]) D.length = shufN xs.length D D.length := shufN_congr _ _ _ _ (by omega) fun j hj => by
      simp [List.getD, List.getElem?_append_left hj]
    have e2 : (D ++ [(a : Int)]).getD D.length 0 = (a : Int) := by simp [List.getD]
    rw [e1, e2, leftN_small (by omega), show xs.length - 1 - D.length = i by omega]
  refine ⟨a, hai, hae, fun k hk hke => hsh.2 k a (by omega) ha (by omega), hsw, fun j h2 h3 => ?_⟩
  rw [List.length_append, List.length_cons, List.length_nil] at h2 ⊢
  rw [hsw, swapL_at (by omega) (by omega)]
  unfold turn
  by_cases hja : j = a
  · rw [if_pos hja]
    have : i = a := by omega
    subst this
    rw [hja, hae]
  · rw [if_neg hja]
    by_cases hji : j = i
    · rw [if_pos hji, hji, hae]
    · rw [if_neg hji]
      exact hg j (by omega) h3
theorem good_end {xs D : List Int} (hs : Sh xs) (hg : Good xs D) (hl : D.length = xs.length - 1) : shufL xs.length D = xs := by
  have h : shufL xs.length D = shufN xs.length D D.length := by rw [shufL, hl]
  rw [h]
  refine sh_eq (shufN_sh _ _ _ (by omega)) hs (shufN_len _ _ _) fun j h1 h2 => ?_
  rw [shufN_len] at h2
  exact hg j (by omega) h2

theorem own_drew {w : World} {base : Nat} {e : TypeId} {size n : Nat} {v : Value} {xs : List Value} (h : w.ownsRow base e size v n xs) : w.drew.ownsRow base e size v n xs := h

set_option maxRecDepth 100000 in
set_option maxHeartbeats 3000000 in
theorem permAll_yes (A : Option Addr) (n c : Nat) (xs : List Int) (w : World) (hn : xs.length = n) (h60 : n ≤ 60) (hx : Rd w A (nums .i64 xs)) (hs : Sh xs) :
    Calls Try.prog 7 #[.slice A n c] w (Yes w) := by
  obtain ⟨i0, hi, hz0, hz1, hz2⟩ := info_parts infoInt
  have h1 : ¬ (60 : Int) < n := by omega
  have CK := fun W (hr : Rd W A (nums .i64 xs)) => check_yes A n c xs W hn (by omega) hr hs
  have HN := Lib.hid hn
  have HX := Lib.hid hx
  have HS := Lib.hid hs
  clear hn hx hs
  go_enter Try.func7, Try.ntmps7
  go_wp2_with (first
    | (go_at_call 15; refine (live11_any _).mono ?_; rintro e w1 ⟨rfl, hb1⟩; have HX1 := Lib.hid (HX.out.below hb1))
    | (go_at_call 23; refine (CK _ HX1.out).mono ?_; rintro e w2 ⟨rfl, hb2⟩)
    | (at_make; refine wpList_make_full _ rfl _ _ 22 rfl w2.heap.size 3 i0 (.int .i64 0) 1 Try.underlying22 hi hz0 hz1 .i64 .i64 _ _ n rfl rfl (by omega) (by omega) (by rw [hz2]; omega) (by unfold maxLen; omega) (Nat.le_refl _) ?_; intro w3 hown1 hgrow1))
  obtain ⟨hrow1, hb3, hl1⟩ := vrow_make rfl hown1 hgrow1
  have hbw := bgo (bgo hb1 hb2) hb3
  obtain ⟨g, hg⟩ : ∃ g, g = w2.heap.size := ⟨_, rfl⟩
  have hgw : w.heap.size ≤ g := by rw [hg]; exact (bgo hb1 hb2).size
  rw [← hg] at hrow1 hl1 ⊢
  have HR := Lib.hid hrow1
  clear hown1 hgrow1 hrow1 hg hb3
  go_loopw [27] (fun i wr => ∃ k : Nat, k ≤ n ∧ i = .int .i64 k ∧ VRow wr g (nums .i64 (fillI n k)) ∧ g < wr.heap.size ∧ Below w.heap.size w wr) (fun i _ => n - (intOf i).toNat)
  case atStart => exact ⟨0, Nat.zero_le _, rfl, by rw [fillI_zero, nums, List.map_replicate]; exact HR.out, hl1, hbw⟩
  case round =>
    obtain ⟨k, hk, rfl, hrow, hl, hb⟩ := hrel
    by_cases hlt : k < n
    · have r2 : (k : Int) < n := by omega
      obtain ⟨ck, fk⟩ := hrow k _ (nums_at (by rw [fillI_len]; exact hlt))
      have hst := hrow.set (k := k) (.int .i64 (k : Int))
      rw [nums_set, fillI_set n k hlt] at hst
      have HST := Lib.hid hst
      clear hst hrow
      go_wp2_with fail
      refine ⟨⟨k + 1, by omega, by congr 1, HST.out, by rw [size_setCell]; exact hl, hb.setCell (p := ⟨g, k, none⟩) hgw _⟩, by show n - ((k : Int) + 1).toNat < n - (k : Int).toNat; omega⟩
    · have hkn : n = k := by omega
      subst hkn
      rw [fillI_full] at hrow
      have HROW := Lib.hid hrow
      have HB := Lib.hid hb
      obtain ⟨B0, hB0⟩ : ∃ B0, B0 = wr.heap.size := ⟨_, rfl⟩
      have hgB : g < B0 := by omega
      have hB0' : B0 ≤ wr.heap.size := by omega
      have hB0w : w.heap.size ≤ B0 := by omega
      clear hlt hk hrow HR hl1 hbw hb hB0
      go_wp2_with fail
      go_loopw [5, 6] (fun v5 i wr => ∃ (t : Nat) (D : List Int) (z : Int), t ≤ n - 1 ∧ Hid (D.length = t) ∧ z ≤ (n : Int) - 1 - t ∧ (n : Int) - 1 - t ≤ z ∧ i = .int .i64 z ∧ (∃ A c, v5 = .slice A t c) ∧ wr.ownsRow B0 3 1 v5 t (nums .i64 D) ∧ Hid (Good xs D) ∧ VRow wr g (nums .i64 (shufN n D t)) ∧ B0 ≤ wr.heap.size ∧ Below w.heap.size w wr) (fun _ i _ => (intOf i).toNat)
      case atStart => exact ⟨0, [], (n : Int) - 1, Nat.zero_le _, Lib.hid rfl, by omega, by omega, rfl, ⟨_, _, rfl⟩, ⟨rfl, .inl ⟨rfl, rfl⟩⟩, Lib.hid (good_nil xs), HROW.out, hB0', HB.out⟩
      case round =>
        obtain ⟨t, D, z, ht, HD, hz1', hz2', rfl, ⟨A5, c5, rfl⟩, hown, HG, hrow, hBs, hb⟩ := hrel
        by_cases hz : 1 ≤ z
        · obtain ⟨i, rfl⟩ := Int.eq_ofNat_of_zero_le (show 0 ≤ z by omega)
          have hin : i < n := by omega
          obtain ⟨a, hai, hae, hau, hsw, hgn⟩ := good_step HS.out HG.out i (by rw [HD.out, HN.out]; omega) (by omega)
          rw [HD.out, HN.out] at hae hau hsw
          obtain ⟨L, hL⟩ : ∃ L, L = shufN n D t := ⟨_, rfl⟩
          have hLl : L.length = n := by rw [hL]; exact shufN_len _ _ _
          rw [← hL] at hae hau hsw hrow
          obtain ⟨x, hx⟩ : ∃ x, x = xs.getD i 0 := ⟨_, rfl⟩
          rw [← hx] at hae hau
          have HAU := Lib.hid hau
          have HAE := Lib.hid hae
          have HSW := Lib.hid hsw
          have HGN := Lib.hid hgn
          have HLL := Lib.hid hLl
          have HROW := Lib.hid hrow
          have HOWN := Lib.hid hown
          have HB := Lib.hid hb
          have HXE := Lib.hid hx
          clear hau hae hsw hgn hLl hrow hown hb hL hx
          obtain ⟨wo, rfl⟩ : ∃ wo : World, wo = wr := ⟨_, rfl⟩
          go_wp2_with fail
          go_loopw [7, 44] (fun v7 j wr => ∃ (k q : Nat), k ≤ i + 1 ∧ q ≤ i ∧ j = .int .i64 k ∧ v7 = .int .i64 q ∧ Hid ((a < k → q = a)) ∧ VRow wr g (nums .i64 L) ∧ wr.ownsRow B0 3 1 (.slice A5 t c5) t (nums .i64 D) ∧ B0 ≤ wr.heap.size ∧ Below w.heap.size w wr) (fun _ j _ => n + 1 - (intOf j).toNat)
          case atStart => exact ⟨0, 0, Nat.zero_le _, Nat.zero_le _, rfl, rfl, Lib.hid (fun h => absurd h (Nat.not_lt_zero _)), HROW.out, HOWN.out, hBs, HB.out⟩
          case round =>
            obtain ⟨k, q, hk, hq, rfl, rfl, HQ, hrow, hown, hBs2, hb⟩ := hrel
            by_cases hki : k < i + 1
            · have r2 : (k : Int) < (i : Int) + 1 := by omega
              have r3 : (k : Int) < n := by omega
              have r4 : (i : Int) < n := by omega
              have r5 : (0 : Int) ≤ k := by omega
              have r6 : (0 : Int) ≤ i := by omega
              have ck := (hrow k _ (nums_at (by rw [HLL.out]; omega))).1
              obtain ⟨y, hy⟩ : ∃ y, y = L.getD k 0 := ⟨_, rfl⟩
              rw [← hy] at ck
              have HY := Lib.hid hy
              obtain ⟨b, o, rfl, hlb, hc⟩ := (HX.out.below hb).at_ (by simp [HN.out]; omega)
              have ci := hc i _ (nums_at (by rw [HN.out]; exact hin))
              rw [← HXE.out] at ci
              have HROW2 := Lib.hid hrow
              have HOWN2 := Lib.hid hown
              clear hy hc hrow hown
              by_cases hka : k = a
              · subst hka
                have hyx : y = x := by rw [HY.out]; exact HAE.out
                have hbe : (y == x) = true := by simp [hyx]
                clear hyx
                go_wp2_with fail
                go_quiet (fail)
                go_wp2_with fail
                exact ⟨⟨k + 1, k, by omega, by omega, by congr 1, rfl, Lib.hid (fun _ => rfl), HROW2.out, HOWN2.out, hBs2, bdrN hb _⟩, by show n + 1 - ((k : Int) + 1).toNat < n + 1 - (k : Int).toNat; omega⟩
              · have hbe : (y == x) = false := by
                  have : y ≠ x := fun e => hka (HAU.out k (by omega) (by rw [← HY.out, e]))
                  simpa using this
                go_wp2_with fail
                go_quiet (fail)
                go_wp2_with fail
                exact ⟨⟨k + 1, q, by omega, by omega, by congr 1, rfl, Lib.hid (fun h => HQ.out (by omega)), HROW2.out, HOWN2.out, hBs2, bdrN hb _⟩, by show n + 1 - ((k : Int) + 1).toNat < n + 1 - (k : Int).toNat; omega⟩
            · have hqa : q = a := HQ.out (by omega)
              subst hqa
              have r2 : ¬ (k : Int) < (i : Int) + 1 := by omega
              have r4 : (i : Int) < n := by omega
              have r6 : (0 : Int) ≤ i := by omega
              have r7 : (q : Int) < n := by omega
              have r8 : (0 : Int) ≤ q := by omega
              have HROW2 := Lib.hid hrow
              clear hrow HQ
              obtain ⟨y, hy⟩ : ∃ y, y = L.getD i 0 := ⟨_, rfl⟩
              obtain ⟨u, hu⟩ : ∃ u, u = L.getD q 0 := ⟨_, rfl⟩
              have HY := Lib.hid hy
              have HU := Lib.hid hu
              clear hy hu
              have hzz := hBs2
              go_upto_region 23 with (at_builtin; refine append_one rfl _ _ 22 rfl B0 3 i0 (.int .i64 0) 8 Try.underlying22 hi hz0 hz1 hz2 rfl _ _ _ rfl hown _ _ rfl rfl (by unfold maxLen; omega) (by omega) hBs2 ?_; intro v6 w6 hown6 hgrow6; obtain ⟨A6, c6, rfl⟩ := own_slice hown6)
              have hb6 : Below w.heap.size w w6 := keep_below hown hgrow6 hb (by omega) (by omega)
              have hb06 : Below B0 wr w6 := keep_below hown hgrow6 (Below.refl _ _) (by omega) (Nat.le_refl _)
              have hrow6 := HROW2.out.below hb06 hgB
              have hBs6 : B0 ≤ w6.heap.size := Nat.le_trans hBs2 hb06.size
              obtain ⟨ci, fi⟩ := hrow6 i _ (nums_at (by rw [HLL.out]; exact hin))
              obtain ⟨cq, fq⟩ := hrow6 q _ (nums_at (by rw [HLL.out]; omega))
              rw [← HY.out] at ci
              rw [← HU.out] at cq
              have hst := (hrow6.set (k := i) (.int .i64 u)).set (k := q) (.int .i64 y)
              have hnsw : ((nums .i64 L).set i (.int .i64 u)).set q (.int .i64 y) = nums .i64 (swapL L i q) := by
                rw [HY.out, HU.out]; exact nums_swap (by rw [HLL.out]; exact hin) (by rw [HLL.out]; omega)
              rw [hnsw, ← HSW.out] at hst
              have HST := Lib.hid hst
              rw [show nums .i64 D ++ [.int .i64 (q : Int)] = nums .i64 (D ++ [(q : Int)]) by simp [nums]] at hown6
              have hown7 := own_setCell (own_setCell hown6 (a := ⟨g, i, none⟩) (u := .int .i64 u) hgB) (a := ⟨g, q, none⟩) (u := .int .i64 y) hgB
              have HOWN7 := Lib.hid (own_drew hown7)
              have HB7 := Lib.hid (bdr ((hb6.setCell (p := ⟨g, i, none⟩) hgw (.int .i64 u)).setCell (p := ⟨g, q, none⟩) hgw (.int .i64 y)))
              have HZ7 := Lib.hid (show B0 ≤ ((w6.setCell ⟨g, i, none⟩ (.int .i64 u)).setCell ⟨g, q, none⟩ (.int .i64 y)).drew.heap.size by
                show B0 ≤ ((w6.setCell _ _).setCell _ _).heap.size
                rw [size_setCell, size_setCell]; exact hBs6)
              have HGN2 := Lib.hid (show (D ++ [(q : Int)]).length = t + 1 by rw [List.length_append, HD.out]; rfl)
              clear hown hgrow6 hrow6 hst hnsw hown6 hown7 hb hb6 hb06
              by_cases hij : i = q
              · subst hij
                obtain rfl : y = u := by have := ci.symm.trans cq; simpa using this
                clear cq fq
                go_region
                go_wp2_with fail
                refine ⟨⟨t + 1, D ++ [(i : Int)], (i : Int) - 1, by omega, Lib.hid HGN2.out, by omega, by omega, rfl, ⟨A6, c6, by congr 1⟩, HOWN7.out, HGN, ?_, HZ7.out, HB7.out⟩, by show ((i : Int) - 1).toNat < (i : Int).toNat; omega⟩
                exact HST.out
              · go_region
                go_wp2_with fail
                refine ⟨⟨t + 1, D ++ [(q : Int)], (i : Int) - 1, by omega, Lib.hid HGN2.out, by omega, by omega, rfl, ⟨A6, c6, by congr 1⟩, HOWN7.out, HGN, ?_, HZ7.out, HB7.out⟩, by show ((i : Int) - 1).toNat < (i : Int).toNat; omega⟩
                exact HST.out
        · have htn : t = n - 1 := by omega
          have hfin := good_end HS.out HG.out (by rw [HD.out, HN.out, htn])
          rw [HN.out] at hfin
          have HF := Lib.hid hfin
          have hrd := Rd.of_own hown
          have hlD : D.length = t := HD.out
          have CS := fun W (hr : Rd W A5 (nums .i64 D)) => shuf_any n A5 t c5 D W (by omega) hlD (by omega) hr
          have CE := fun A1 c1 W (h1 : Rd W A1 (nums .i64 (shufL n D))) h2 => sameInts_true A1 A n c1 n c (shufL n D) xs W HF.out (shufL_len _ _) HN.out h1 h2 (by unfold maxLen; omega)
          have hmin : min (n - 1) D.length = t := by omega
          have HM := Lib.hid hmin
          have HTN := Lib.hid htn
          clear hfin hlD hmin htn hown hrow
          go_wp2_with (first
            | (go_at_call 16; refine (CS _ hrd).mono ?_; rintro e w5 ⟨A2, c2, he, hc2, hr2, hb5⟩; rw [HM.out] at he; subst he)
            | (go_at_call 18; refine (CE A2 c2 _ hr2 ((HX.out.below hb).below hb5)).mono ?_; rintro e w6 ⟨rfl, hb6⟩))
          go_ret
          exact ⟨rfl, bgo (bgo hb hb5) hb6⟩

theorem permAll_walk (A : Option Addr) (n c : Nat) (xs : List Int) (w : World) (hn : xs.length = n) (hx : Rd w A (nums .i64 xs)) :
    Calls Try.prog 7 #[.slice A n c] w (Yes w) := by
  have HX := Lib.hid hx
  by_cases hbig : 60 < n
  · have h1 : (60 : Int) < n := by omega
    clear hx hn
    go_enter Try.func7, Try.ntmps7
    go_wp2_with (go_at_call 15; refine (live11_any _).mono ?_; rintro e w1 ⟨rfl, hb1⟩)
    go_ret
    exact ⟨rfl, hb1⟩
  by_cases hs : Sh xs
  · exact permAll_yes A n c xs w hn (by omega) hx hs
  · have h1 : ¬ (60 : Int) < n := by omega
    have CK := fun W (hr : Rd W A (nums .i64 xs)) => check_no A n c xs W hn (by omega) hr hs
    clear hx hn
    go_enter Try.func7, Try.ntmps7
    go_wp2_with (first
      | (go_at_call 15; refine (live11_any _).mono ?_; rintro e w1 ⟨rfl, hb1⟩; have HX1 := Lib.hid (HX.out.below hb1))
      | (go_at_call 23; refine (CK _ HX1.out).mono ?_; rintro e w2 ⟨rfl, hb2⟩))
    go_ret
    exact ⟨rfl, bgo hb1 hb2⟩

theorem permAll_of {H : Type} {enc : TypeId × Value → H} (W : World) (base : Nat) (args : Array Value) (ds : List (DataW H)) (p : List MemPlace)
    (hval : ∀ (j : Nat) t v, Try.f7.params[j]? = some t → args[j]? = some v → Value.okWide Try.prog W .any base t v)
    (hA : DataW.TrodAll enc Try.prog W 0 (fun _ => true) true Try.f7.params.toList args.toList ds p) (hlt : ∀ x ∈ p, x.block < W.heap.size)
    (hz : (DataW.weightsEach Try.prog Try.f7.params.toList ds).all (· ≤ reachBytes) = true) : Calls Try.prog 7 args W (Yes W) := by
  rw [Try.params7] at hA hval hz
  obtain ⟨v0, vs0, d0, ds0, p0, q0, hargs, rfl, rfl, h0, r0⟩ := trodAll_cons hA
  obtain ⟨rfl, rfl, rfl⟩ := trodAll_nil r0
  obtain rfl : args = #[v0] := by cases args; simp_all
  obtain ⟨A, n, c, xs, rfl, hlen, hmx, hrd, hwf⟩ := open_intRow h0 (hval 0 _ _ rfl rfl)
  exact permAll_walk A n c xs W hlen hrd
end Go.Proofs.Ytmepcpklnpjebaa
