/- The law of whether any list is a shuffle, it turned round, and parts shuffled by it. -/
import Derived.Test.YtmepcpklnpjebaaPo
namespace Go.Proofs.Ytmepcpklnpjebaa
open Go.RowKit Go.ChangeShapes Go.WideShapes Go.ChangeAt
set_option linter.unusedSimpArgs false
set_option linter.unusedVariables false

/-- As Rd, of a block below B. -/
def RdU (w : World) (B : Nat) (A : Option Addr) (vs : List Value) : Prop := vs = [] ∨ ∃ b off, A = some ⟨b, off, none⟩ ∧ b < B ∧ b < w.heap.size ∧ ∀ i v, vs[i]? = some v → w.cell? ⟨b, off + i, none⟩ = some v
theorem Rd.u {w : World} {A : Option Addr} {vs : List Value} (h : Rd w A vs) : RdU w w.heap.size A vs := by
  rcases h with h | ⟨b, o, hA, hlt, hc⟩
  · exact .inl h
  · exact .inr ⟨b, o, hA, hlt, hlt, hc⟩
theorem RdU.below {w w' : World} {B : Nat} {A : Option Addr} {vs : List Value} (h : RdU w B A vs) (hb : Below B w w') (hs : w.heap.size ≤ w'.heap.size) : RdU w' B A vs := by
  rcases h with h | ⟨b, off, hA, hlt, hl, hc⟩
  · exact .inl h
  · exact .inr ⟨b, off, hA, hlt, Nat.lt_of_lt_of_le hl hs, fun i v hv => (hb.cell (p := ⟨b, off + i, none⟩) hlt).trans (hc i v hv)⟩
theorem RdU.rd {w : World} {B : Nat} {A : Option Addr} {vs : List Value} (h : RdU w B A vs) : Rd w A vs := by
  rcases h with h | ⟨b, off, hA, hlt, hl, hc⟩
  · exact .inl h
  · exact .inr ⟨b, off, hA, hl, hc⟩
theorem few_spec {L : List (List Int)} (h : fewB L = true) : (∀ xs ∈ L, xs.length ≤ 100) ∧ L.length ≤ 60 := of_decide_eq_true h

theorem permTurns_out (A B : Option Addr) (n c m d : Nat) (xs : List Int) (ws : List Value) (L : List (List Int)) (w : World) (hm : L.length = m) (hmx : m ≤ maxLen) (hy : Rd w B ws) (hp : Parts w ws L) (h : 60 < n ∨ fewB L = false) :
    Calls Try.prog 13 #[.slice A n c, .slice B m d] w (Yes w) := by
  have HM := Lib.hid hm
  have HY := Lib.hid hy
  have HP := Lib.hid hp
  have CF := fun W (h1 : Rd W B ws) (h2 : Parts W ws L) => few_any B m d ws L W (by rw [h2.1]; exact HM.out) hmx h1 h2
  clear hm hy hp
  by_cases h1 : 60 < n
  · have q : (60 : Int) < n := by omega
    go_enter Try.func13, Try.ntmps13
    go_wp2_with (go_at_call 15; refine (live11_any _).mono ?_; rintro e w1 ⟨rfl, hb1⟩)
    go_ret
    exact ⟨rfl, hb1⟩
  · have q : ¬ (60 : Int) < n := by omega
    have hf : fewB L = false := by
      rcases h with h | h
      · omega
      · exact h
    have HF := Lib.hid hf
    clear hf h
    go_enter Try.func13, Try.ntmps13
    go_wp2_with (first
      | (go_at_call 15; refine (live11_any _).mono ?_; rintro e w1 ⟨rfl, hb1⟩)
      | (go_at_call 35; refine (CF _ (HY.out.below hb1) (HP.out.below hb1)).mono ?_; rintro e w2 ⟨b, rfl, hbe, rfl⟩; rw [HF.out] at hbe; subst hbe))
    go_ret
    exact ⟨rfl, hb1⟩

set_option maxRecDepth 100000 in
set_option maxHeartbeats 4000000 in
theorem permTurns_a (A B : Option Addr) (n c d : Nat) (xs : List Int) (ws : List Value) (L : List (List Int)) (w : World) (hn : xs.length = n) (hx : Rd w A (nums .i64 xs)) (hnm : L.length = n) (hmx : n ≤ maxLen) (hy : Rd w B ws) (hp : Parts w ws L) (hB : ∀ xs ∈ L, Byt xs)
    (h60 : n ≤ 60) (hf : fewB L = true) (hs : Sh xs) : Calls Try.prog 13 #[.slice A n c, .slice B n d] w (Yes w) := by
  obtain ⟨i0, hi, hz0, hz1, hz2⟩ := info_parts infoInt
  obtain ⟨hs100, hl60⟩ := few_spec hf
  have q60 : ¬ (60 : Int) < n := by omega
  have CF := fun W (h1 : Rd W B ws) (h2 : Parts W ws L) => few_any B n d ws L W (by rw [h2.1]; exact hnm) hmx h1 h2
  have hlen5 : ∀ xs ∈ L, xs.length ≤ 100000 := fun xs hxs => Nat.le_trans (hs100 xs hxs) (by omega)
  have CI := fun W (hr : Rd W A (nums .i64 xs)) => inv_yes A n c xs W hn (by omega) hr hs
  have CJ := fun W (hr : Rd W A (nums .i64 xs)) => rinv_yes A n c xs W hn (by omega) hr hs
  have CK := fun W (hr : Rd W A (nums .i64 xs)) => check_yes A n c xs W hn (by omega) hr hs
  have CL := fun W (hr : Rd W A (nums .i64 xs)) => rcheck_yes A n c xs W hn (by omega) hr hs
  have CA := fun W (hr : Rd W A (nums .i64 xs)) (h1 : Rd W B ws) (h2 : Parts W ws L) => app_yes A B n c d xs ws L W hn (by omega) hr hs hnm h1 h2 hlen5
  have CB := fun W (hr : Rd W A (nums .i64 xs)) (h1 : Rd W B ws) (h2 : Parts W ws L) => rapp_yes A B n c d xs ws L W hn (by omega) hr hs hnm h1 h2 hlen5
  have hbA : ∀ ps ∈ appL xs L, Byt ps := fun ps hps => by
    obtain ⟨x, hx, rfl⟩ := List.mem_map.1 hps
    obtain ⟨i, hi', rfl⟩ := List.mem_iff_getElem.1 hx
    have := hs.1 i hi'
    have h3 : xs.getD i 0 = xs[i] := by simp [List.getD, hi']
    rw [h3] at this
    rw [List.getD, List.getElem?_eq_getElem (show xs[i].toNat < L.length by omega)]
    exact hB _ (List.getElem_mem _)
  have CSP := fun A1 A2 c1 c2 us vs W (h1 : Rd W A1 us) (h2 : Parts W us (appL xs L)) (h3 : Rd W A2 vs) (h4 : Parts W vs (appL xs L)) => sameParts_true A1 A2 n c1 c2 us vs (appL xs L) W (by rw [appL_len]; exact hn) (by unfold maxLen; omega) h1 h2 h3 h4 hbA
  have HX := Lib.hid hx
  have HN := Lib.hid hn
  have HM := Lib.hid hnm
  have HY := Lib.hid hy
  have HP := Lib.hid hp
  have HF := Lib.hid hf
  have HB := Lib.hid hB
  have hnl : (nums .i64 xs).length = n := by simp [hn]
  have HNL := Lib.hid hnl
  have CSI := fun A1 A2 c1 c2 (ys : List Int) W (hl : ys.length = n) h1 h2 => sameInts_true A1 A2 n c1 n c2 ys ys W rfl hl hl h1 h2 (by unfold maxLen; omega)
  have CS0 := fun W => sameInts_true none none 0 0 0 0 [] [] W rfl rfl rfl Rd.nil Rd.nil (Nat.zero_le _)
  have CP0 := fun W => sameParts_true none none 0 0 0 [] [] [] W rfl (Nat.zero_le _) Rd.nil Parts.nil Rd.nil Parts.nil (by simp)
  clear hx hn hnm hy hp hf hB hnl hs100 hlen5 hs hbA
  go_enter Try.func13, Try.ntmps13
  go_wp2_with (first
    | (go_at_call 15; refine (live11_any _).mono ?_; rintro e w1 ⟨rfl, hb1⟩; have HBX := hb1)
    | (go_at_call 35; refine (CF _ (HY.out.below HBX) (HP.out.below HBX)).mono ?_; rintro e w2 ⟨b, rfl, hbe, rfl⟩; rw [HF.out] at hbe; subst hbe)
    | (at_builtin; refine append_vs rfl _ _ 22 rfl w1.heap.size 3 i0 (.int .i64 0) 8 Try.underlying22 hi hz0 hz1 hz2 rfl (.slice none 0 0) 0 [] rfl ⟨rfl, .inl ⟨rfl, rfl⟩⟩ A n c (nums .i64 xs) rfl HNL.out (HX.out.below HBX) nums_one (by unfold maxLen; omega) (by omega) (Nat.le_refl _) ?_; intro v5 w5 hown5 hgrow5; rw [Nat.zero_add, List.nil_append] at hown5; obtain ⟨A5, c5, rfl⟩ := own_slice hown5; have hb5 : Below w1.heap.size w1 w5 := brf.grown hgrow5 (Nat.le_refl _) (fun k e => by simp [Value.ownBlock] at e); have HBX := bgo HBX hb5; have HU5 := Lib.hid (Rd.of_own hown5).u; have BW := brf (w := w5); have HW5 := Lib.hid HBX.size; clear hown5 hgrow5 hb5)
    | (go_at_call 34; refine (CI _ (HX.out.below HBX)).mono ?_; rintro e w6 ⟨g6, he, hg6, hl6, hr6, hb6⟩; rw [HN.out] at he; subst he; have HBX := bgo HBX hb6; have BW := bgo BW hb6)
    | (go_at_call 36; refine (CJ _ (HX.out.below HBX)).mono ?_; rintro e w7 ⟨g7, he, hg7, hl7, hr7, hb7⟩; rw [HN.out] at he; subst he; have HBX := bgo HBX hb7; have BW := bgo BW hb7; have hr6 := hr6.below hb7 hl6; have hl6 := Nat.lt_of_lt_of_le hl6 hb7.size)
    | (go_at_call 37; refine (CA _ (HX.out.below HBX) (HY.out.below HBX) (HP.out.below HBX)).mono ?_; rintro e w8 ⟨A8, c8, vs8, he, hc8, hr8, hp8, hb8⟩; rw [HN.out] at he; subst he; have HBX := bgo HBX hb8; have BW := bgo BW hb8; have hr6 := hr6.below hb8 hl6; have hl6 := Nat.lt_of_lt_of_le hl6 hb8.size; have hr7 := hr7.below hb8 hl7; have hl7 := Nat.lt_of_lt_of_le hl7 hb8.size)
    | (go_at_call 38; refine (CB _ (HX.out.below HBX) (HY.out.below HBX) (HP.out.below HBX)).mono ?_; rintro e w9 ⟨A9, c9, vs9, he, hc9, hr9, hp9, hb9⟩; rw [HN.out] at he; subst he; have HBX := bgo HBX hb9; have BW := bgo BW hb9; have hr8 := hr8.below hb9; have hp8 := hp8.below hb9; have hr6 := hr6.below hb9 hl6; have hl6 := Nat.lt_of_lt_of_le hl6 hb9.size; have hr7 := hr7.below hb9 hl7; have hl7 := Nat.lt_of_lt_of_le hl7 hb9.size)
    | (go_at_call 23; refine (CK _ (HX.out.below HBX)).mono ?_; rintro e w10 ⟨rfl, hb10⟩; have HBX := bgo HBX hb10; have BW := bgo BW hb10; have hr6 := hr6.below hb10 hl6; have hl6 := Nat.lt_of_lt_of_le hl6 hb10.size; have hr7 := hr7.below hb10 hl7; have hl7 := Nat.lt_of_lt_of_le hl7 hb10.size; have hr8 := hr8.below hb10; have hp8 := hp8.below hb10; have hr9 := hr9.below hb10; have hp9 := hp9.below hb10)
    | (go_at_call 39; refine (CL _ (HX.out.below HBX)).mono ?_; rintro e w11 ⟨rfl, hb11⟩; have HBX := bgo HBX hb11; have BW := bgo BW hb11; have hr6 := hr6.below hb11 hl6; have hl6 := Nat.lt_of_lt_of_le hl6 hb11.size; have hr7 := hr7.below hb11 hl7; have hl7 := Nat.lt_of_lt_of_le hl7 hb11.size; have hr8 := hr8.below hb11; have hp8 := hp8.below hb11; have hr9 := hr9.below hb11; have hp9 := hp9.below hb11)
    | (go_at_call 18; refine (CSI _ _ n n (invL xs) _ (by rw [invL_len]; exact HN.out) (hr6.rd hl6) (hr7.rd hl7)).mono ?_; rintro e w12 ⟨rfl, hb12⟩; have HBX := bgo HBX hb12; have BW := bgo BW hb12; have hr6 := hr6.below hb12 hl6; have hl6 := Nat.lt_of_lt_of_le hl6 hb12.size; have hr7 := hr7.below hb12 hl7; have hl7 := Nat.lt_of_lt_of_le hl7 hb12.size; have hr8 := hr8.below hb12; have hp8 := hp8.below hb12; have hr9 := hr9.below hb12; have hp9 := hp9.below hb12)
    | (go_at_call 40; refine (CSP _ _ _ _ _ _ _ hr8 hp8 hr9 hp9).mono ?_; rintro e w13 ⟨rfl, hb13⟩; have HBX := bgo HBX hb13; have BW := bgo BW hb13; have hr6 := hr6.below hb13 hl6; have hl6 := Nat.lt_of_lt_of_le hl6 hb13.size; have hr7 := hr7.below hb13 hl7; have hl7 := Nat.lt_of_lt_of_le hl7 hb13.size))
  have HU13 := Lib.hid (HU5.out.below BW BW.size)
  have HB13 := Lib.hid HBX
  have hg65 : w5.heap.size ≤ g6 := hg6
  obtain ⟨B5, hB5⟩ : ∃ B5, B5 = w5.heap.size := ⟨_, rfl⟩
  rw [← hB5] at HU13 hg65
  have hw5 : w.heap.size ≤ B5 := by rw [hB5]; exact HW5.out
  have HR6 := Lib.hid hr6
  clear hr6 hr7
  go_loopw [77] (fun i wr => ∃ (k : Nat) (ys : List Int), k ≤ n ∧ i = .int .i64 k ∧ Hid (ys.length = n) ∧ VRow wr g6 (nums .i64 ys) ∧ g6 < wr.heap.size ∧ Below B5 w13 wr) (fun i _ => n - (intOf i).toNat)
  case atStart => exact ⟨0, invL xs, Nat.zero_le _, rfl, Lib.hid (by rw [invL_len]; exact HN.out), HR6.out, hl6, Below.refl _ _⟩
  case round =>
    obtain ⟨k, ys, hk, rfl, HYL, hrow, hl, hb⟩ := hrel
    by_cases hlt : k < n
    · have r1 : (k : Int) < n := by omega
      obtain ⟨ck, fk⟩ := hrow k _ (nums_at (by rw [HYL.out]; exact hlt))
      obtain ⟨y, hy⟩ : ∃ y, y = ys.getD k 0 := ⟨_, rfl⟩
      rw [← hy] at ck
      have hst := hrow.set (k := k) (.int .i64 (wrap64 (y + 1)))
      rw [nums_set] at hst
      have HST := Lib.hid hst
      clear hst hrow hy
      go_wp2_with fail
      exact ⟨⟨k + 1, _, by omega, by congr 1, Lib.hid (by rw [List.length_set]; exact HYL.out), HST.out, by rw [size_setCell]; exact hl, hb.setCell (p := ⟨g6, k, none⟩) hg65 _⟩, by show n - ((k : Int) + 1).toNat < n - (k : Int).toNat; omega⟩
    · have hkn : n = k := by omega
      subst hkn
      have hBW : Below w.heap.size w wr := HB13.out.trans (hb.mono hw5)
      have hR5 := (HU13.out.below hb hb.size).rd
      have CEND := CSI A A5 c c5 xs wr HN.out (HX.out.below hBW) hR5
      clear hrow
      go_wp2_with (go_at_call 18; refine CEND.mono ?_; rintro e w14 ⟨rfl, hb14⟩)
      go_ret
      exact ⟨rfl, bgo hBW hb14⟩

set_option maxRecDepth 100000 in
set_option maxHeartbeats 4000000 in
theorem permTurns_b (A B : Option Addr) (n c m d : Nat) (xs : List Int) (ws : List Value) (L : List (List Int)) (w : World) (hn : xs.length = n) (hx : Rd w A (nums .i64 xs)) (hm : L.length = m) (hmx : m ≤ maxLen) (hy : Rd w B ws) (hp : Parts w ws L) (hB : ∀ xs ∈ L, Byt xs)
    (h60 : n ≤ 60) (hf : fewB L = true) (hs : Sh xs) (hnm : n ≠ m) : Calls Try.prog 13 #[.slice A n c, .slice B m d] w (Yes w) := by
  obtain ⟨i0, hi, hz0, hz1, hz2⟩ := info_parts infoInt
  obtain ⟨hs100, hl60⟩ := few_spec hf
  have q60 : ¬ (60 : Int) < n := by omega
  have CF := fun W (h1 : Rd W B ws) (h2 : Parts W ws L) => few_any B m d ws L W (by rw [h2.1]; exact hm) hmx h1 h2
  have hlen5 : ∀ xs ∈ L, xs.length ≤ 100000 := fun xs hxs => Nat.le_trans (hs100 xs hxs) (by omega)
  have CI := fun W (hr : Rd W A (nums .i64 xs)) => inv_yes A n c xs W hn (by omega) hr hs
  have CJ := fun W (hr : Rd W A (nums .i64 xs)) => rinv_yes A n c xs W hn (by omega) hr hs
  have CK := fun W (hr : Rd W A (nums .i64 xs)) => check_yes A n c xs W hn (by omega) hr hs
  have CL := fun W (hr : Rd W A (nums .i64 xs)) => rcheck_yes A n c xs W hn (by omega) hr hs
  have CA := fun W (hr : Rd W A (nums .i64 xs)) => app_no A B n c m d xs W hn (by omega) hr (.inr hnm)
  have CB := fun W (hr : Rd W A (nums .i64 xs)) => rapp_no A B n c m d xs W hn (by omega) hr (.inr hnm)
  have HX := Lib.hid hx
  have HN := Lib.hid hn
  have HM := Lib.hid hm
  have HY := Lib.hid hy
  have HP := Lib.hid hp
  have HF := Lib.hid hf
  have HB := Lib.hid hB
  have hnl : (nums .i64 xs).length = n := by simp [hn]
  have HNL := Lib.hid hnl
  have CSI := fun A1 A2 c1 c2 (ys : List Int) W (hl : ys.length = n) h1 h2 => sameInts_true A1 A2 n c1 n c2 ys ys W rfl hl hl h1 h2 (by unfold maxLen; omega)
  have CS0 := fun W => sameInts_true none none 0 0 0 0 [] [] W rfl rfl rfl Rd.nil Rd.nil (Nat.zero_le _)
  have CP0 := fun W => sameParts_true none none 0 0 0 [] [] [] W rfl (Nat.zero_le _) Rd.nil Parts.nil Rd.nil Parts.nil (by simp)
  clear hx hn hm hy hp hf hB hnl hs100 hlen5 hs hnm
  go_enter Try.func13, Try.ntmps13
  go_wp2_with (first
    | (go_at_call 15; refine (live11_any _).mono ?_; rintro e w1 ⟨rfl, hb1⟩; have HBX := hb1)
    | (go_at_call 35; refine (CF _ (HY.out.below HBX) (HP.out.below HBX)).mono ?_; rintro e w2 ⟨b, rfl, hbe, rfl⟩; rw [HF.out] at hbe; subst hbe)
    | (at_builtin; refine append_vs rfl _ _ 22 rfl w1.heap.size 3 i0 (.int .i64 0) 8 Try.underlying22 hi hz0 hz1 hz2 rfl (.slice none 0 0) 0 [] rfl ⟨rfl, .inl ⟨rfl, rfl⟩⟩ A n c (nums .i64 xs) rfl HNL.out (HX.out.below HBX) nums_one (by unfold maxLen; omega) (by omega) (Nat.le_refl _) ?_; intro v5 w5 hown5 hgrow5; rw [Nat.zero_add, List.nil_append] at hown5; obtain ⟨A5, c5, rfl⟩ := own_slice hown5; have hb5 : Below w1.heap.size w1 w5 := brf.grown hgrow5 (Nat.le_refl _) (fun k e => by simp [Value.ownBlock] at e); have HBX := bgo HBX hb5; have HU5 := Lib.hid (Rd.of_own hown5).u; have BW := brf (w := w5); have HW5 := Lib.hid HBX.size; clear hown5 hgrow5 hb5)
    | (go_at_call 34; refine (CI _ (HX.out.below HBX)).mono ?_; rintro e w6 ⟨g6, he, hg6, hl6, hr6, hb6⟩; rw [HN.out] at he; subst he; have HBX := bgo HBX hb6; have BW := bgo BW hb6)
    | (go_at_call 36; refine (CJ _ (HX.out.below HBX)).mono ?_; rintro e w7 ⟨g7, he, hg7, hl7, hr7, hb7⟩; rw [HN.out] at he; subst he; have HBX := bgo HBX hb7; have BW := bgo BW hb7; have hr6 := hr6.below hb7 hl6; have hl6 := Nat.lt_of_lt_of_le hl6 hb7.size)
    | (go_at_call 37; refine (CA _ (HX.out.below HBX)).mono ?_; rintro e w8 ⟨rfl, hb8⟩; have HBX := bgo HBX hb8; have BW := bgo BW hb8; have hr6 := hr6.below hb8 hl6; have hl6 := Nat.lt_of_lt_of_le hl6 hb8.size; have hr7 := hr7.below hb8 hl7; have hl7 := Nat.lt_of_lt_of_le hl7 hb8.size)
    | (go_at_call 38; refine (CB _ (HX.out.below HBX)).mono ?_; rintro e w9 ⟨rfl, hb9⟩; have HBX := bgo HBX hb9; have BW := bgo BW hb9; have hr6 := hr6.below hb9 hl6; have hl6 := Nat.lt_of_lt_of_le hl6 hb9.size; have hr7 := hr7.below hb9 hl7; have hl7 := Nat.lt_of_lt_of_le hl7 hb9.size)
    | (go_at_call 23; refine (CK _ (HX.out.below HBX)).mono ?_; rintro e w10 ⟨rfl, hb10⟩; have HBX := bgo HBX hb10; have BW := bgo BW hb10; have hr6 := hr6.below hb10 hl6; have hl6 := Nat.lt_of_lt_of_le hl6 hb10.size; have hr7 := hr7.below hb10 hl7; have hl7 := Nat.lt_of_lt_of_le hl7 hb10.size)
    | (go_at_call 39; refine (CL _ (HX.out.below HBX)).mono ?_; rintro e w11 ⟨rfl, hb11⟩; have HBX := bgo HBX hb11; have BW := bgo BW hb11; have hr6 := hr6.below hb11 hl6; have hl6 := Nat.lt_of_lt_of_le hl6 hb11.size; have hr7 := hr7.below hb11 hl7; have hl7 := Nat.lt_of_lt_of_le hl7 hb11.size)
    | (go_at_call 18; refine (CSI _ _ n n (invL xs) _ (by rw [invL_len]; exact HN.out) (hr6.rd hl6) (hr7.rd hl7)).mono ?_; rintro e w12 ⟨rfl, hb12⟩; have HBX := bgo HBX hb12; have BW := bgo BW hb12; have hr6 := hr6.below hb12 hl6; have hl6 := Nat.lt_of_lt_of_le hl6 hb12.size; have hr7 := hr7.below hb12 hl7; have hl7 := Nat.lt_of_lt_of_le hl7 hb12.size)
    | (go_at_call 40; refine (CP0 _).mono ?_; rintro e w13 ⟨rfl, hb13⟩; have HBX := bgo HBX hb13; have BW := bgo BW hb13; have hr6 := hr6.below hb13 hl6; have hl6 := Nat.lt_of_lt_of_le hl6 hb13.size; have hr7 := hr7.below hb13 hl7; have hl7 := Nat.lt_of_lt_of_le hl7 hb13.size))
  have HU13 := Lib.hid (HU5.out.below BW BW.size)
  have HB13 := Lib.hid HBX
  have hg65 : w5.heap.size ≤ g6 := hg6
  obtain ⟨B5, hB5⟩ : ∃ B5, B5 = w5.heap.size := ⟨_, rfl⟩
  rw [← hB5] at HU13 hg65
  have hw5 : w.heap.size ≤ B5 := by rw [hB5]; exact HW5.out
  have HR6 := Lib.hid hr6
  clear hr6 hr7
  go_loopw [77] (fun i wr => ∃ (k : Nat) (ys : List Int), k ≤ n ∧ i = .int .i64 k ∧ Hid (ys.length = n) ∧ VRow wr g6 (nums .i64 ys) ∧ g6 < wr.heap.size ∧ Below B5 w13 wr) (fun i _ => n - (intOf i).toNat)
  case atStart => exact ⟨0, invL xs, Nat.zero_le _, rfl, Lib.hid (by rw [invL_len]; exact HN.out), HR6.out, hl6, Below.refl _ _⟩
  case round =>
    obtain ⟨k, ys, hk, rfl, HYL, hrow, hl, hb⟩ := hrel
    by_cases hlt : k < n
    · have r1 : (k : Int) < n := by omega
      obtain ⟨ck, fk⟩ := hrow k _ (nums_at (by rw [HYL.out]; exact hlt))
      obtain ⟨y, hy⟩ : ∃ y, y = ys.getD k 0 := ⟨_, rfl⟩
      rw [← hy] at ck
      have hst := hrow.set (k := k) (.int .i64 (wrap64 (y + 1)))
      rw [nums_set] at hst
      have HST := Lib.hid hst
      clear hst hrow hy
      go_wp2_with fail
      exact ⟨⟨k + 1, _, by omega, by congr 1, Lib.hid (by rw [List.length_set]; exact HYL.out), HST.out, by rw [size_setCell]; exact hl, hb.setCell (p := ⟨g6, k, none⟩) hg65 _⟩, by show n - ((k : Int) + 1).toNat < n - (k : Int).toNat; omega⟩
    · have hkn : n = k := by omega
      subst hkn
      have hBW : Below w.heap.size w wr := HB13.out.trans (hb.mono hw5)
      have hR5 := (HU13.out.below hb hb.size).rd
      have CEND := CSI A A5 c c5 xs wr HN.out (HX.out.below hBW) hR5
      clear hrow
      go_wp2_with (go_at_call 18; refine CEND.mono ?_; rintro e w14 ⟨rfl, hb14⟩)
      go_ret
      exact ⟨rfl, bgo hBW hb14⟩

set_option maxRecDepth 100000 in
set_option maxHeartbeats 4000000 in
theorem permTurns_c (A B : Option Addr) (n c m d : Nat) (xs : List Int) (ws : List Value) (L : List (List Int)) (w : World) (hn : xs.length = n) (hx : Rd w A (nums .i64 xs)) (hm : L.length = m) (hmx : m ≤ maxLen) (hy : Rd w B ws) (hp : Parts w ws L) (hB : ∀ xs ∈ L, Byt xs)
    (h60 : n ≤ 60) (hf : fewB L = true) (hs : ¬ Sh xs) : Calls Try.prog 13 #[.slice A n c, .slice B m d] w (Yes w) := by
  obtain ⟨i0, hi, hz0, hz1, hz2⟩ := info_parts infoInt
  obtain ⟨hs100, hl60⟩ := few_spec hf
  have q60 : ¬ (60 : Int) < n := by omega
  have CF := fun W (h1 : Rd W B ws) (h2 : Parts W ws L) => few_any B m d ws L W (by rw [h2.1]; exact hm) hmx h1 h2
  have hlen5 : ∀ xs ∈ L, xs.length ≤ 100000 := fun xs hxs => Nat.le_trans (hs100 xs hxs) (by omega)
  have CI := fun W (hr : Rd W A (nums .i64 xs)) => inv_no A n c xs W hn (by omega) hr hs
  have CJ := fun W (hr : Rd W A (nums .i64 xs)) => rinv_no A n c xs W hn (by omega) hr hs
  have CK := fun W (hr : Rd W A (nums .i64 xs)) => check_no A n c xs W hn (by omega) hr hs
  have CL := fun W (hr : Rd W A (nums .i64 xs)) => rcheck_no A n c xs W hn (by omega) hr hs
  have CA := fun W (hr : Rd W A (nums .i64 xs)) => app_no A B n c m d xs W hn (by omega) hr (.inl hs)
  have CB := fun W (hr : Rd W A (nums .i64 xs)) => rapp_no A B n c m d xs W hn (by omega) hr (.inl hs)
  have HX := Lib.hid hx
  have HN := Lib.hid hn
  have HM := Lib.hid hm
  have HY := Lib.hid hy
  have HP := Lib.hid hp
  have HF := Lib.hid hf
  have HB := Lib.hid hB
  have hnl : (nums .i64 xs).length = n := by simp [hn]
  have HNL := Lib.hid hnl
  have CSI := fun A1 A2 c1 c2 (ys : List Int) W (hl : ys.length = n) h1 h2 => sameInts_true A1 A2 n c1 n c2 ys ys W rfl hl hl h1 h2 (by unfold maxLen; omega)
  have CS0 := fun W => sameInts_true none none 0 0 0 0 [] [] W rfl rfl rfl Rd.nil Rd.nil (Nat.zero_le _)
  have CP0 := fun W => sameParts_true none none 0 0 0 [] [] [] W rfl (Nat.zero_le _) Rd.nil Parts.nil Rd.nil Parts.nil (by simp)
  clear hx hn hm hy hp hf hB hnl hs100 hlen5 hs
  go_enter Try.func13, Try.ntmps13
  go_wp2_with (first
    | (go_at_call 15; refine (live11_any _).mono ?_; rintro e w1 ⟨rfl, hb1⟩; have HBX := hb1)
    | (go_at_call 35; refine (CF _ (HY.out.below HBX) (HP.out.below HBX)).mono ?_; rintro e w2 ⟨b, rfl, hbe, rfl⟩; rw [HF.out] at hbe; subst hbe)
    | (at_builtin; refine append_vs rfl _ _ 22 rfl w1.heap.size 3 i0 (.int .i64 0) 8 Try.underlying22 hi hz0 hz1 hz2 rfl (.slice none 0 0) 0 [] rfl ⟨rfl, .inl ⟨rfl, rfl⟩⟩ A n c (nums .i64 xs) rfl HNL.out (HX.out.below HBX) nums_one (by unfold maxLen; omega) (by omega) (Nat.le_refl _) ?_; intro v5 w5 hown5 hgrow5; rw [Nat.zero_add, List.nil_append] at hown5; obtain ⟨A5, c5, rfl⟩ := own_slice hown5; have hb5 : Below w1.heap.size w1 w5 := brf.grown hgrow5 (Nat.le_refl _) (fun k e => by simp [Value.ownBlock] at e); have HBX := bgo HBX hb5; have HU5 := Lib.hid (Rd.of_own hown5).u; have BW := brf (w := w5); have HW5 := Lib.hid HBX.size; clear hown5 hgrow5 hb5)
    | (go_at_call 34; refine (CI _ (HX.out.below HBX)).mono ?_; rintro e w6 ⟨rfl, hb6⟩; have HBX := bgo HBX hb6; have BW := bgo BW hb6)
    | (go_at_call 36; refine (CJ _ (HX.out.below HBX)).mono ?_; rintro e w7 ⟨rfl, hb7⟩; have HBX := bgo HBX hb7; have BW := bgo BW hb7)
    | (go_at_call 37; refine (CA _ (HX.out.below HBX)).mono ?_; rintro e w8 ⟨rfl, hb8⟩; have HBX := bgo HBX hb8; have BW := bgo BW hb8)
    | (go_at_call 38; refine (CB _ (HX.out.below HBX)).mono ?_; rintro e w9 ⟨rfl, hb9⟩; have HBX := bgo HBX hb9; have BW := bgo BW hb9)
    | (go_at_call 23; refine (CK _ (HX.out.below HBX)).mono ?_; rintro e w10 ⟨rfl, hb10⟩; have HBX := bgo HBX hb10; have BW := bgo BW hb10)
    | (go_at_call 39; refine (CL _ (HX.out.below HBX)).mono ?_; rintro e w11 ⟨rfl, hb11⟩; have HBX := bgo HBX hb11; have BW := bgo BW hb11)
    | (go_at_call 18; refine (CS0 _).mono ?_; rintro e w12 ⟨rfl, hb12⟩; have HBX := bgo HBX hb12; have BW := bgo BW hb12)
    | (go_at_call 40; refine (CP0 _).mono ?_; rintro e w13 ⟨rfl, hb13⟩; have HBX := bgo HBX hb13; have BW := bgo BW hb13))
  have hR5 := (HU5.out.below BW BW.size).rd
  have CEND := CSI A A5 c c5 xs w13 HN.out (HX.out.below HBX) hR5
  refine wp_loop_rounds 1 ?_
  rw [rounds_succ]
  go_wp2_with (go_at_call 18; refine CEND.mono ?_; rintro e w14 ⟨rfl, hb14⟩)
  go_ret
  exact ⟨rfl, bgo HBX hb14⟩
end Go.Proofs.Ytmepcpklnpjebaa
