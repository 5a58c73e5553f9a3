/- The laws of shuffles and parts. -/
import Derived.Test.YtmepcpklnpjebaaPq
namespace Go.Proofs.Ytmepcpklnpjebaa
open Go.RowKit Go.ChangeShapes Go.WideShapes Go.ChangeAt
set_option linter.unusedSimpArgs false
set_option linter.unusedVariables false

theorem permTurns_walk (A B : Option Addr) (n c m d : Nat) (xs : List Int) (ws : List Value) (L : List (List Int)) (w : World) (hn : xs.length = n) (hx : Rd w A (nums .i64 xs)) (hm : L.length = m) (hmx : m ≤ maxLen) (hy : Rd w B ws) (hp : Parts w ws L) (hB : ∀ xs ∈ L, Byt xs) :
    Calls Try.prog 13 #[.slice A n c, .slice B m d] w (Yes w) := by
  by_cases h60 : 60 < n
  · exact permTurns_out A B n c m d xs ws L w hm hmx hy hp (.inl h60)
  cases hf : fewB L with
  | false => exact permTurns_out A B n c m d xs ws L w hm hmx hy hp (.inr hf)
  | true =>
    by_cases hs : Sh xs
    · by_cases hnm : n = m
      · subst hnm
        exact permTurns_a A B n c d xs ws L w hn hx hm hmx hy hp hB (by omega) hf hs
      · exact permTurns_b A B n c m d xs ws L w hn hx hm hmx hy hp hB (by omega) hf hs hnm
    · exact permTurns_c A B n c m d xs ws L w hn hx hm hmx hy hp hB (by omega) hf hs

theorem permTurns_of {H : Type} {enc : TypeId × Value → H} (W : World) (base : Nat) (args : Array Value) (ds : List (DataW H)) (p : List MemPlace)
    (hval : ∀ (j : Nat) t v, Try.f13.params[j]? = some t → args[j]? = some v → Value.okWide Try.prog W .any base t v)
    (hA : DataW.TrodAll enc Try.prog W 0 (fun _ => true) true Try.f13.params.toList args.toList ds p) (hlt : ∀ x ∈ p, x.block < W.heap.size)
    (hz : (DataW.weightsEach Try.prog Try.f13.params.toList ds).all (· ≤ reachBytes) = true) : Calls Try.prog 13 args W (Yes W) := by
  rw [Try.params13] at hA hval hz
  obtain ⟨v0, vs0, d0, ds0, p0, q0, hargs, rfl, rfl, h0, r0⟩ := trodAll_cons hA
  obtain ⟨v1, vs1, d1, ds1, p1, q1, rfl, rfl, rfl, h1, r1⟩ := trodAll_cons r0
  obtain ⟨rfl, rfl, rfl⟩ := trodAll_nil r1
  obtain rfl : args = #[v0, v1] := by cases args; simp_all
  obtain ⟨A, n, c, xs, rfl, hlen, hmx, hrd, hwf⟩ := open_intRow h0 (hval 0 _ _ rfl rfl)
  obtain ⟨B, m, d, ws, L, rfl, h1', h2', hw, hrd2, hp, hB⟩ := open_parts h1 (hval 1 _ _ rfl rfl)
  exact permTurns_walk A B n c m d xs ws L W hlen hrd (by rw [← hp.1]; exact hw) (by omega) hrd2 hp hB

theorem ret_nb {a b : Int} (h : ¬ a = b) : Ending.returned (.bool (a != b)) = .returned (.bool true) := by rw [bne_iff_ne.2 h]

theorem permBack_out (A B : Option Addr) (n c m d : Nat) (xs : List Int) (ws : List Value) (L : List (List Int)) (w : World) (hm : L.length = m) (hmx : m ≤ maxLen) (hy : Rd w B ws) (hp : Parts w ws L) (h : 60 < n ∨ fewB L = false) :
    Calls Try.prog 14 #[.slice A n c, .slice B m d] w (Yes w) := by
  have HM := Lib.hid hm
  have HY := Lib.hid hy
  have HP := Lib.hid hp
  have CF := fun W (h1 : Rd W B ws) (h2 : Parts W ws L) => few_any B m d ws L W (by rw [h2.1]; exact HM.out) hmx h1 h2
  clear hm hy hp
  by_cases h1 : 60 < n
  · have q : (60 : Int) < n := by omega
    go_enter Try.func14, Try.ntmps14
    go_wp2_with (go_at_call 15; refine (live11_any _).mono ?_; rintro e w1 ⟨rfl, hb1⟩)
    go_ret
    exact ⟨rfl, hb1⟩
  · have q : ¬ (60 : Int) < n := by omega
    have hf : fewB L = false := by
      rcases h with h | h
      · omega
      · exact h
    have HF := Lib.hid hf
    clear hf h
    go_enter Try.func14, Try.ntmps14
    go_wp2_with (first
      | (go_at_call 15; refine (live11_any _).mono ?_; rintro e w1 ⟨rfl, hb1⟩)
      | (go_at_call 35; refine (CF _ (HY.out.below hb1) (HP.out.below hb1)).mono ?_; rintro e w2 ⟨b, rfl, hbe, rfl⟩; rw [HF.out] at hbe; subst hbe))
    go_ret
    exact ⟨rfl, hb1⟩

set_option maxRecDepth 100000 in
set_option maxHeartbeats 4000000 in
theorem permBack_c (A B : Option Addr) (n c m d : Nat) (xs : List Int) (ws : List Value) (L : List (List Int)) (w : World) (hn : xs.length = n) (hx : Rd w A (nums .i64 xs)) (hm : L.length = m) (hmx : m ≤ maxLen) (hy : Rd w B ws) (hp : Parts w ws L) (hB : ∀ xs ∈ L, Byt xs)
    (h60 : n ≤ 60) (hf : fewB L = true) (hs : ¬ Sh xs) : Calls Try.prog 14 #[.slice A n c, .slice B m d] w (Yes w) := by
  obtain ⟨hs100, hl60⟩ := few_spec hf
  have q60 : ¬ (60 : Int) < n := by omega
  have CF := fun W (h1 : Rd W B ws) (h2 : Parts W ws L) => few_any B m d ws L W (by rw [h2.1]; exact hm) hmx h1 h2
  have hlen5 : ∀ xs ∈ L, xs.length ≤ 100000 := fun xs hxs => Nat.le_trans (hs100 xs hxs) (by omega)
  have CI := fun W (hr : Rd W A (nums .i64 xs)) => inv_no A n c xs W hn (by omega) hr hs
  have CK := fun W (hr : Rd W A (nums .i64 xs)) => check_no A n c xs W hn (by omega) hr hs
  have HX := Lib.hid hx
  have HN := Lib.hid hn
  have HY := Lib.hid hy
  have HP := Lib.hid hp
  have HF := Lib.hid hf
  clear hx hn hm hy hp hf hB hs100 hlen5 hs
  go_enter Try.func14, Try.ntmps14
  go_wp2_with (first
    | (go_at_call 15; refine (live11_any _).mono ?_; rintro e w1 ⟨rfl, hb1⟩; have HBX := hb1)
    | (go_at_call 35; refine (CF _ (HY.out.below HBX) (HP.out.below HBX)).mono ?_; rintro e w2 ⟨b, rfl, hbe, rfl⟩; rw [HF.out] at hbe; subst hbe)
    | (go_at_call 34; refine (CI _ (HX.out.below HBX)).mono ?_; rintro e w6 ⟨rfl, hb6⟩; have HBX := bgo HBX hb6)
    | (go_at_call 23; refine (CK _ (HX.out.below HBX)).mono ?_; rintro e w7 ⟨rfl, hb7⟩; have HBX := bgo HBX hb7))
  go_ret
  exact ⟨rfl, HBX⟩

set_option maxRecDepth 100000 in
set_option maxHeartbeats 4000000 in
theorem permBack_b (A B : Option Addr) (n c m d : Nat) (xs : List Int) (ws : List Value) (L : List (List Int)) (w : World) (hn : xs.length = n) (hx : Rd w A (nums .i64 xs)) (hm : L.length = m) (hmx : m ≤ maxLen) (hy : Rd w B ws) (hp : Parts w ws L) (hB : ∀ xs ∈ L, Byt xs)
    (h60 : n ≤ 60) (hf : fewB L = true) (hs : Sh xs) (hnm : n ≠ m) : Calls Try.prog 14 #[.slice A n c, .slice B m d] w (Yes w) := by
  obtain ⟨hs100, hl60⟩ := few_spec hf
  have q60 : ¬ (60 : Int) < n := by omega
  have CF := fun W (h1 : Rd W B ws) (h2 : Parts W ws L) => few_any B m d ws L W (by rw [h2.1]; exact hm) hmx h1 h2
  have hlen5 : ∀ xs ∈ L, xs.length ≤ 100000 := fun xs hxs => Nat.le_trans (hs100 xs hxs) (by omega)
  have CI := fun W (hr : Rd W A (nums .i64 xs)) => inv_yes A n c xs W hn (by omega) hr hs
  have hil : (invL xs).length = n := by rw [invL_len]; exact hn
  have CJ := fun g W (hr : Rd W (some ⟨g, 0, none⟩) (nums .i64 (invL xs))) => inv_yes (some ⟨g, 0, none⟩) n n (invL xs) W hil (by omega) hr hs.inv
  have CSI := fun A1 c1 W (h1 : Rd W A1 (nums .i64 (invL (invL xs)))) h2 => sameInts_true A1 A n c1 n c (invL (invL xs)) xs W (inv_inv hs) (by rw [invL_len]; exact hil) hn h1 h2 (by unfold maxLen; omega)
  have HIL := Lib.hid hil
  have CA := fun W (hr : Rd W A (nums .i64 xs)) => app_no A B n c m d xs W hn (by omega) hr (.inr hnm)
  have hnm2 : ¬ ((m : Int) = n) := by omega
  have HX := Lib.hid hx
  have HN := Lib.hid hn
  have HY := Lib.hid hy
  have HP := Lib.hid hp
  have HF := Lib.hid hf
  clear hx hn hm hy hp hf hB hs100 hlen5 hs hil
  go_enter Try.func14, Try.ntmps14
  go_wp2_with (first
    | (go_at_call 15; refine (live11_any _).mono ?_; rintro e w1 ⟨rfl, hb1⟩; have HBX := hb1)
    | (go_at_call 35; refine (CF _ (HY.out.below HBX) (HP.out.below HBX)).mono ?_; rintro e w2 ⟨b, rfl, hbe, rfl⟩; rw [HF.out] at hbe; subst hbe)
    | (go_at_call 34; first
        | ((with_reducible refine (CI _ (HX.out.below HBX)).mono ?_); rintro e w6 ⟨g6, he, hg6, hl6, hr6, hb6⟩; rw [HN.out] at he; subst he; have HBX := bgo HBX hb6)
        | ((with_reducible refine (CJ g6 _ (hr6.rd hl6)).mono ?_); rintro e w7 ⟨g7, he, hg7, hl7, hr7, hb7⟩; rw [HIL.out] at he; subst he; have HBX := bgo HBX hb7; have hr6 := hr6.below hb7 hl6; have hl6 := Nat.lt_of_lt_of_le hl6 hb7.size))
    | (go_at_call 18; refine (CSI _ n _ (hr7.rd hl7) (HX.out.below HBX)).mono ?_; rintro e w8 ⟨rfl, hb8⟩; have HBX := bgo HBX hb8; have hr6 := hr6.below hb8 hl6; have hl6 := Nat.lt_of_lt_of_le hl6 hb8.size)
    | (go_at_call 37; refine (CA _ (HX.out.below HBX)).mono ?_; rintro e w9 ⟨rfl, hb9⟩; have HBX := bgo HBX hb9))
  go_ret
  exact ⟨ret_nb hnm2, HBX⟩

set_option maxRecDepth 100000 in
set_option maxHeartbeats 4000000 in
theorem permBack_a (A B : Option Addr) (n c d : Nat) (xs : List Int) (ws : List Value) (L : List (List Int)) (w : World) (hn : xs.length = n) (hx : Rd w A (nums .i64 xs)) (hm : L.length = n) (hmx : n ≤ maxLen) (hy : Rd w B ws) (hp : Parts w ws L) (hB : ∀ xs ∈ L, Byt xs)
    (h60 : n ≤ 60) (hf : fewB L = true) (hs : Sh xs) : Calls Try.prog 14 #[.slice A n c, .slice B n d] w (Yes w) := by
  obtain ⟨hs100, hl60⟩ := few_spec hf
  have q60 : ¬ (60 : Int) < n := by omega
  have CF := fun W (h1 : Rd W B ws) (h2 : Parts W ws L) => few_any B n d ws L W (by rw [h2.1]; exact hm) hmx h1 h2
  have hlen5 : ∀ xs ∈ L, xs.length ≤ 100000 := fun xs hxs => Nat.le_trans (hs100 xs hxs) (by omega)
  have CI := fun W (hr : Rd W A (nums .i64 xs)) => inv_yes A n c xs W hn (by omega) hr hs
  have hil : (invL xs).length = n := by rw [invL_len]; exact hn
  have CJ := fun g W (hr : Rd W (some ⟨g, 0, none⟩) (nums .i64 (invL xs))) => inv_yes (some ⟨g, 0, none⟩) n n (invL xs) W hil (by omega) hr hs.inv
  have CSI := fun A1 c1 W (h1 : Rd W A1 (nums .i64 (invL (invL xs)))) h2 => sameInts_true A1 A n c1 n c (invL (invL xs)) xs W (inv_inv hs) (by rw [invL_len]; exact hil) hn h1 h2 (by unfold maxLen; omega)
  have HIL := Lib.hid hil
  have CA := fun W (hr : Rd W A (nums .i64 xs)) (h1 : Rd W B ws) (h2 : Parts W ws L) => app_yes A B n c d xs ws L W hn (by omega) hr hs hm h1 h2 hlen5
  have hal : (appL xs L).length = n := by rw [appL_len]; exact hn
  have hlA : ∀ ps ∈ appL xs L, ps.length ≤ 100000 := fun ps hps => by
    obtain ⟨x, hx, rfl⟩ := List.mem_map.1 hps
    obtain ⟨i, hi', rfl⟩ := List.mem_iff_getElem.1 hx
    have := hs.1 i hi'
    have h3 : xs.getD i 0 = xs[i] := by simp [List.getD, hi']
    rw [h3] at this
    rw [List.getD, List.getElem?_eq_getElem (show xs[i].toNat < L.length by omega)]
    exact hlen5 _ (List.getElem_mem _)
  have CB := fun g A1 c1 us W (hr : Rd W (some ⟨g, 0, none⟩) (nums .i64 (invL xs))) (h1 : Rd W A1 us) (h2 : Parts W us (appL xs L)) => app_yes (some ⟨g, 0, none⟩) A1 n n c1 (invL xs) us (appL xs L) W hil (by omega) hr hs.inv hal h1 h2 hlA
  have hback : appL (invL xs) (appL xs L) = L := appL_back hs L (by omega)
  have CSP := fun A1 c1 us W (h1 : Rd W A1 us) (h2 : Parts W us L) (h3 : Rd W B ws) (h4 : Parts W ws L) => sameParts_true A1 B n c1 d us ws L W hm hmx h1 h2 h3 h4 hB
  have HBK := Lib.hid hback
  have HX := Lib.hid hx
  have HN := Lib.hid hn
  have HY := Lib.hid hy
  have HP := Lib.hid hp
  have HF := Lib.hid hf
  clear hx hn hm hy hp hf hB hs100 hlen5 hs hil hal hlA hback
  go_enter Try.func14, Try.ntmps14
  go_wp2_with (first
    | (go_at_call 15; refine (live11_any _).mono ?_; rintro e w1 ⟨rfl, hb1⟩; have HBX := hb1)
    | (go_at_call 35; refine (CF _ (HY.out.below HBX) (HP.out.below HBX)).mono ?_; rintro e w2 ⟨b, rfl, hbe, rfl⟩; rw [HF.out] at hbe; subst hbe)
    | (go_at_call 34; first
        | ((with_reducible refine (CI _ (HX.out.below HBX)).mono ?_); rintro e w6 ⟨g6, he, hg6, hl6, hr6, hb6⟩; rw [HN.out] at he; subst he; have HBX := bgo HBX hb6)
        | ((with_reducible refine (CJ g6 _ (hr6.rd hl6)).mono ?_); rintro e w7 ⟨g7, he, hg7, hl7, hr7, hb7⟩; rw [HIL.out] at he; subst he; have HBX := bgo HBX hb7; have hr6 := hr6.below hb7 hl6; have hl6 := Nat.lt_of_lt_of_le hl6 hb7.size))
    | (go_at_call 18; refine (CSI _ n _ (hr7.rd hl7) (HX.out.below HBX)).mono ?_; rintro e w8 ⟨rfl, hb8⟩; have HBX := bgo HBX hb8; have hr6 := hr6.below hb8 hl6; have hl6 := Nat.lt_of_lt_of_le hl6 hb8.size)
    | (go_at_call 37; first
        | ((with_reducible refine (CA _ (HX.out.below HBX) (HY.out.below HBX) (HP.out.below HBX)).mono ?_); rintro e w9 ⟨A9, c9, vs9, he, hc9, hr9, hp9, hb9⟩; rw [HN.out] at he; subst he; have HBX := bgo HBX hb9; have hr6 := hr6.below hb9 hl6; have hl6 := Nat.lt_of_lt_of_le hl6 hb9.size)
        | ((with_reducible refine (CB g6 A9 c9 vs9 _ (hr6.rd hl6) hr9 hp9).mono ?_); rintro e w10 ⟨A10, c10, vs10, he, hc10, hr10, hp10, hb10⟩; rw [HIL.out] at he; subst he; rw [HBK.out] at hp10; have HBX := bgo HBX hb10))
    | (go_at_call 40; refine (CSP _ _ _ _ hr10 hp10 (HY.out.below HBX) (HP.out.below HBX)).mono ?_; rintro e w11 ⟨rfl, hb11⟩; have HBX := bgo HBX hb11))
  go_ret
  exact ⟨rfl, HBX⟩

theorem permBack_walk (A B : Option Addr) (n c m d : Nat) (xs : List Int) (ws : List Value) (L : List (List Int)) (w : World) (hn : xs.length = n) (hx : Rd w A (nums .i64 xs)) (hm : L.length = m) (hmx : m ≤ maxLen) (hy : Rd w B ws) (hp : Parts w ws L) (hB : ∀ xs ∈ L, Byt xs) :
    Calls Try.prog 14 #[.slice A n c, .slice B m d] w (Yes w) := by
  by_cases h60 : 60 < n
  · exact permBack_out A B n c m d xs ws L w hm hmx hy hp (.inl h60)
  cases hf : fewB L with
  | false => exact permBack_out A B n c m d xs ws L w hm hmx hy hp (.inr hf)
  | true =>
    by_cases hs : Sh xs
    · by_cases hnm : n = m
      · subst hnm
        exact permBack_a A B n c d xs ws L w hn hx hm hmx hy hp hB (by omega) hf hs
      · exact permBack_b A B n c m d xs ws L w hn hx hm hmx hy hp hB (by omega) hf hs hnm
    · exact permBack_c A B n c m d xs ws L w hn hx hm hmx hy hp hB (by omega) hf hs

theorem permBack_of {H : Type} {enc : TypeId × Value → H} (W : World) (base : Nat) (args : Array Value) (ds : List (DataW H)) (p : List MemPlace)
    (hval : ∀ (j : Nat) t v, Try.f14.params[j]? = some t → args[j]? = some v → Value.okWide Try.prog W .any base t v)
    (hA : DataW.TrodAll enc Try.prog W 0 (fun _ => true) true Try.f14.params.toList args.toList ds p) (hlt : ∀ x ∈ p, x.block < W.heap.size)
    (hz : (DataW.weightsEach Try.prog Try.f14.params.toList ds).all (· ≤ reachBytes) = true) : Calls Try.prog 14 args W (Yes W) := by
  rw [Try.params14] at hA hval hz
  obtain ⟨v0, vs0, d0, ds0, p0, q0, hargs, rfl, rfl, h0, r0⟩ := trodAll_cons hA
  obtain ⟨v1, vs1, d1, ds1, p1, q1, rfl, rfl, rfl, h1, r1⟩ := trodAll_cons r0
  obtain ⟨rfl, rfl, rfl⟩ := trodAll_nil r1
  obtain rfl : args = #[v0, v1] := by cases args; simp_all
  obtain ⟨A, n, c, xs, rfl, hlen, hmx, hrd, hwf⟩ := open_intRow h0 (hval 0 _ _ rfl rfl)
  obtain ⟨B, m, d, ws, L, rfl, h1', h2', hw, hrd2, hp, hB⟩ := open_parts h1 (hval 1 _ _ rfl rfl)
  exact permBack_walk A B n c m d xs ws L W hlen hrd (by rw [← hp.1]; exact hw) (by omega) hrd2 hp hB
end Go.Proofs.Ytmepcpklnpjebaa
