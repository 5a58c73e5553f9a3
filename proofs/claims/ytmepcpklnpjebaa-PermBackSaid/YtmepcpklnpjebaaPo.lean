/- Parts in the order of a shuffle: both answers' contracts. -/
import Derived.Test.YtmepcpklnpjebaaPn
namespace Go.Proofs.Ytmepcpklnpjebaa
open Go.RowKit
set_option linter.unusedSimpArgs false
set_option linter.unusedVariables false

/-- Parts in the order of a shuffle. -/
def IsApp (w : World) (xs : List Int) (L : List (List Int)) (e : Ending) (w' : World) : Prop :=
  ∃ A c vs, e = .returned (.tuple #[.slice A xs.length c, .int .i64 0]) ∧ xs.length ≤ c ∧ Rd w' A vs ∧ Parts w' vs (appL xs L) ∧ Below w.heap.size w w'
theorem appL_take {L : List (List Int)} {xs : List Int} {k v : Nat} (h : k < xs.length) (hv : xs.getD k 0 = (v : Int)) : (appL xs L).take (k + 1) = (appL xs L).take k ++ [L.getD v []] := by
  have hv : xs[k] = (v : Int) := by simpa [List.getD, h] using hv
  rw [List.take_add_one, appL, List.getElem?_map, List.getElem?_eq_getElem h]
  simp [hv]
theorem fill_vs {us : List Value} {z v : Value} {n k : Nat} (hu : us.length = k) (hk : k < n) : (us ++ List.replicate (n - k) z).set k v = (us ++ [v]) ++ List.replicate (n - (k + 1)) z := by
  obtain ⟨m, hm⟩ : ∃ m, n - k = m + 1 := ⟨n - k - 1, by omega⟩
  rw [hm, show n - (k + 1) = m by omega, List.replicate_succ, List.set_append_right _ _ (by omega), hu, Nat.sub_self]
  simp

theorem app_no (A B : Option Addr) (n c m d : Nat) (xs : List Int) (w : World) (hn : xs.length = n) (hle : n ≤ 1024) (hx : Rd w A (nums .i64 xs)) (h : ¬ Sh xs ∨ n ≠ m) :
    Calls Try.prog 37 #[.slice A n c, .slice B m d] w fun e w' => e = .returned (.tuple #[.slice none 0 0, .int .i64 1]) ∧ Below w.heap.size w w' := by
  by_cases hs : Sh xs
  · have C := fun W (hr : Rd W A (nums .i64 xs)) => check_yes A n c xs W hn hle hr hs
    have hnm : ¬ ((m : Int) = n) := by
      rcases h with h | h
      · exact absurd hs h
      · omega
    have HX := Lib.hid hx
    clear hx hn h
    go_enter Try.func37, Try.ntmps37
    go_wp2_with (go_at_call 23; refine (C _ HX.out).mono ?_; rintro e w1 ⟨rfl, hb⟩)
    go_ret2
    exact ⟨rfl, hb⟩
  · have C := fun W (hr : Rd W A (nums .i64 xs)) => check_no A n c xs W hn hle hr hs
    have HX := Lib.hid hx
    clear hx hn h
    go_enter Try.func37, Try.ntmps37
    go_wp2_with (go_at_call 23; refine (C _ HX.out).mono ?_; rintro e w1 ⟨rfl, hb⟩)
    go_ret2
    exact ⟨rfl, hb⟩
theorem rapp_no (A B : Option Addr) (n c m d : Nat) (xs : List Int) (w : World) (hn : xs.length = n) (hle : n ≤ 1024) (hx : Rd w A (nums .i64 xs)) (h : ¬ Sh xs ∨ n ≠ m) :
    Calls Try.prog 38 #[.slice A n c, .slice B m d] w fun e w' => e = .returned (.tuple #[.slice none 0 0, .int .i64 1]) ∧ Below w.heap.size w w' := by
  by_cases hs : Sh xs
  · have C := fun W (hr : Rd W A (nums .i64 xs)) => rcheck_yes A n c xs W hn hle hr hs
    have hnm : ¬ ((m : Int) = n) := by
      rcases h with h | h
      · exact absurd hs h
      · omega
    have HX := Lib.hid hx
    clear hx hn h
    go_enter Try.func38, Try.ntmps38
    go_wp2_with (go_at_call 39; refine (C _ HX.out).mono ?_; rintro e w1 ⟨rfl, hb⟩)
    go_ret2
    exact ⟨rfl, hb⟩
  · have C := fun W (hr : Rd W A (nums .i64 xs)) => rcheck_no A n c xs W hn hle hr hs
    have HX := Lib.hid hx
    clear hx hn h
    go_enter Try.func38, Try.ntmps38
    go_wp2_with (go_at_call 39; refine (C _ HX.out).mono ?_; rintro e w1 ⟨rfl, hb⟩)
    go_ret2
    exact ⟨rfl, hb⟩

set_option maxHeartbeats 1000000 in
theorem app_yes (A B : Option Addr) (n c d : Nat) (xs : List Int) (ws : List Value) (L : List (List Int)) (w : World) (hn : xs.length = n) (hle : n ≤ 1024) (hx : Rd w A (nums .i64 xs)) (hs : Sh xs)
    (hl : L.length = n) (hy : Rd w B ws) (hp : Parts w ws L) (hlen : ∀ xs ∈ L, xs.length ≤ 100000) :
    Calls Try.prog 37 #[.slice A n c, .slice B n d] w (IsApp w xs L) := by
  obtain ⟨i0, hi, hz0, hz1, hz2⟩ := info_parts infoBytes
  have C := fun W (hr : Rd W A (nums .i64 xs)) => check_yes A n c xs W hn hle hr hs
  have HX := Lib.hid hx
  have HN := Lib.hid hn
  have HS := Lib.hid hs
  have HL := Lib.hid hl
  have HY := Lib.hid hy
  have HP := Lib.hid hp
  have HLE := Lib.hid hlen
  clear hx hn hs hl hy hp hlen
  go_enter Try.func37, Try.ntmps37
  go_wp2_with (first
    | (go_at_call 23; refine (C _ HX.out).mono ?_; rintro e w0 ⟨rfl, hb0⟩)
    | (at_make; refine wpList_make_full _ rfl _ _ 53 rfl w0.heap.size 30 i0 (.slice none 0 0) 1 Try.underlying53 hi hz0 hz1 .i64 .i64 _ _ n rfl rfl (by omega) (by omega) (by rw [hz2]; omega) (by unfold maxLen; omega) (Nat.le_refl _) ?_; intro w1 hown1 hgrow1))
  obtain ⟨hrow1, hb1, hl1⟩ := vrow_make rfl hown1 hgrow1
  have hbw := bgo hb0 hb1
  obtain ⟨g, hg⟩ : ∃ g, g = w0.heap.size := ⟨_, rfl⟩
  have hgw : w.heap.size ≤ g := by rw [hg]; exact hb0.size
  rw [← hg] at hrow1 hl1 ⊢
  have HR := Lib.hid hrow1
  obtain ⟨B0, hB0⟩ : ∃ B0, B0 = w1.heap.size := ⟨_, rfl⟩
  have hgB : g < B0 := by omega
  have hB0' : B0 ≤ w1.heap.size := by omega
  have hwB : w.heap.size ≤ B0 := by omega
  clear hown1 hgrow1 hrow1 hi hz0 hz1 hz2 hg hb0 hb1 hl1 hB0
  go_loopw [25] (fun i wr => ∃ (k : Nat) (us : List Value), k ≤ n ∧ i = .int .i64 k ∧ Hid (us.length = k) ∧ VRow wr g (us ++ List.replicate (n - k) (.slice none 0 0)) ∧ OwnParts wr B0 us ((appL xs L).take k) ∧ B0 ≤ wr.heap.size ∧ Below w.heap.size w wr) (fun i _ => n - (intOf i).toNat)
  case atStart => exact ⟨0, [], Nat.zero_le _, rfl, Lib.hid rfl, HR.out, OwnParts.nil, hB0', hbw⟩
  case round =>
    obtain ⟨k, us, hk, rfl, HU, hrow, hop, hl, hb⟩ := hrel
    by_cases hlt : k < n
    · have r1 : (k : Int) < n := by omega
      obtain ⟨b, o, rfl, hlb, hc⟩ := (HX.out.below hb).at_ (by simp [HN.out]; omega)
      have ck := hc k _ (nums_at (by rw [HN.out]; exact hlt))
      obtain ⟨x, hx⟩ : ∃ x, x = xs.getD k 0 := ⟨_, rfl⟩
      have hx1 := HS.out.1 k (by rw [HN.out]; exact hlt)
      rw [HN.out, ← hx] at hx1
      rw [← hx] at ck
      obtain ⟨v, rfl⟩ := Int.eq_ofNat_of_zero_le hx1.1
      have r2 : (v : Int) < n := hx1.2
      have htk := appL_take (L := L) (k := k) (v := v) (by rw [HN.out]; exact hlt) hx.symm
      obtain ⟨b2, o2, rfl, hlb2, hc2⟩ := (HY.out.below hb).at_ (by rw [HP.out.1, HL.out]; omega)
      have cv := hc2 v _ (vs_at (by rw [HP.out.1, HL.out]; omega))
      obtain ⟨A1, c1, hv1, _, _, hr1⟩ := (HP.out.below hb).2 v (by rw [HL.out]; omega)
      rw [hv1] at cv
      have hml : (L.getD v []).length ≤ 100000 := by
        rw [List.getD, List.getElem?_eq_getElem (show v < L.length by rw [HL.out]; omega)]
        exact HLE.out _ (List.getElem_mem _)
      obtain ⟨ps, hps⟩ : ∃ ps, ps = L.getD v [] := ⟨_, rfl⟩
      rw [← hps] at htk cv hr1 hml
      obtain ⟨m, hm⟩ : ∃ m, ps.length = m := ⟨_, rfl⟩
      rw [hm] at cv hml
      have CC := clone_any A1 m c1 ps wr hm hml hr1
      have HTK := Lib.hid htk
      have HM := Lib.hid hm
      have hkk : (us ++ List.replicate (n - k) (Value.slice none 0 0))[k]? = some (.slice none 0 0) := by
        rw [List.getElem?_append_right (by rw [HU.out]; exact Nat.le_refl _), HU.out, Nat.sub_self, List.getElem?_replicate, if_pos (by omega)]
      have HKK := Lib.hid hkk
      have HROW := Lib.hid hrow
      clear hx hc hc2 hv1 hps hm htk hx1 hr1 hkk hrow
      go_wp2_with (go_at_call 45; refine CC.mono ?_; rintro e w5 ⟨v5, rfl, hown5, hg5⟩; obtain ⟨A5, c5, rfl⟩ := own_slice hown5; have hb5 : Below wr.heap.size wr w5 := brf.grown hg5 (Nat.le_refl _) (fun k e => by cases e); have hrow5 := HROW.out.below hb5 (by omega); obtain ⟨ck5, fk5⟩ := hrow5 k _ HKK.out; have HROW5 := Lib.hid hrow5; clear hrow5)
      refine ⟨⟨k + 1, us ++ [.slice A5 ps.length c5], by omega, by congr 1, Lib.hid (by simp [HU.out]), ?_, ?_, by rw [size_setCell]; exact Nat.le_trans hl hb5.size, (bgo hb hb5).setCell (p := ⟨g, k, none⟩) hgw _⟩, by show n - ((k : Int) + 1).toNat < n - (k : Int).toNat; omega⟩
      · rw [← fill_vs HU.out hlt]
        exact HROW5.out.set _
      · rw [HTK.out]
        have hop5 := hop.keep hg5 (fun _ e => by cases e)
        have hown6 : w5.ownsRow B0 5 1 (.slice A5 ps.length c5) ps.length (nums .u8 ps) := by
          refine ⟨hown5.1, ?_⟩
          rcases hown5.2 with h1 | ⟨g', cap, cur, h1, hb', hh, hc⟩
          · exact .inl h1
          · exact .inr ⟨g', cap, cur, h1, Nat.le_trans hl hb', hh, hc⟩
        have := hop5.snoc hown6
        exact ⟨this.1, fun i hi => own_setCell (this.2 i hi) hgB⟩
    · have hkn : n = k := by omega
      subst hkn
      have HROW := Lib.hid (hrow.rd (by omega))
      have HOP := Lib.hid hop
      clear hrow hop
      go_wp2_with fail
      go_ret2
      have hn := HN.out
      subst hn
      have h1 := HOP.out.parts
      rw [List.take_of_length_le (by rw [appL_len]; exact Nat.le_refl _)] at h1
      have h2 := HROW.out
      rw [Nat.sub_self, List.replicate_zero, List.append_nil] at h2
      exact ⟨_, _, us, rfl, Nat.le_refl _, h2, h1, hb⟩

set_option maxHeartbeats 1000000 in
theorem rapp_yes (A B : Option Addr) (n c d : Nat) (xs : List Int) (ws : List Value) (L : List (List Int)) (w : World) (hn : xs.length = n) (hle : n ≤ 1024) (hx : Rd w A (nums .i64 xs)) (hs : Sh xs)
    (hl : L.length = n) (hy : Rd w B ws) (hp : Parts w ws L) (hlen : ∀ xs ∈ L, xs.length ≤ 100000) :
    Calls Try.prog 38 #[.slice A n c, .slice B n d] w (IsApp w xs L) := by
  obtain ⟨i0, hi, hz0, hz1, hz2⟩ := info_parts infoBytes
  obtain ⟨j0, ji, jz0, jz1, jz2⟩ := info_parts infoByte
  have C := fun W (hr : Rd W A (nums .i64 xs)) => rcheck_yes A n c xs W hn hle hr hs
  have HX := Lib.hid hx
  have HN := Lib.hid hn
  have HS := Lib.hid hs
  have HL := Lib.hid hl
  have HY := Lib.hid hy
  have HP := Lib.hid hp
  have HLE := Lib.hid hlen
  clear hx hn hs hl hy hp hlen
  go_enter Try.func38, Try.ntmps38
  go_wp2_with (go_at_call 39; refine (C _ HX.out).mono ?_; rintro e w0 ⟨rfl, hb0⟩)
  have hB0 := hb0.size
  go_loopw [7, 22] (fun v7 i wr => ∃ (k : Nat) (us : List Value), k ≤ n ∧ i = .int .i64 k ∧ (∃ A c, v7 = .slice A k c) ∧ wr.ownsRow w0.heap.size 30 1 v7 k us ∧ OwnParts wr w0.heap.size us ((appL xs L).take k) ∧ w0.heap.size ≤ wr.heap.size ∧ Below w.heap.size w wr) (fun _ i _ => n - (intOf i).toNat)
  case atStart => exact ⟨0, [], Nat.zero_le _, rfl, ⟨_, _, rfl⟩, ⟨rfl, .inl ⟨rfl, rfl⟩⟩, OwnParts.nil, Nat.le_refl _, hb0⟩
  case round =>
    obtain ⟨k, us, hk, rfl, ⟨A7, c7, rfl⟩, hown, hop, hl, hb⟩ := hrel
    by_cases hlt : k < n
    · have r1 : (k : Int) < n := by omega
      obtain ⟨b, o, rfl, hlb, hc⟩ := (HX.out.below hb).at_ (by simp [HN.out]; omega)
      have ck := hc k _ (nums_at (by rw [HN.out]; exact hlt))
      obtain ⟨x, hx⟩ : ∃ x, x = xs.getD k 0 := ⟨_, rfl⟩
      have hx1 := HS.out.1 k (by rw [HN.out]; exact hlt)
      rw [HN.out, ← hx] at hx1
      rw [← hx] at ck
      obtain ⟨v, rfl⟩ := Int.eq_ofNat_of_zero_le hx1.1
      have r2 : (v : Int) < n := hx1.2
      have htk := appL_take (L := L) (k := k) (v := v) (by rw [HN.out]; exact hlt) hx.symm
      obtain ⟨b2, o2, rfl, hlb2, hc2⟩ := (HY.out.below hb).at_ (by rw [HP.out.1, HL.out]; omega)
      have cv := hc2 v _ (vs_at (by rw [HP.out.1, HL.out]; omega))
      obtain ⟨A1, c1, hv1, _, _, hr1⟩ := (HP.out.below hb).2 v (by rw [HL.out]; omega)
      rw [hv1] at cv
      have hml : (L.getD v []).length ≤ 100000 := by
        rw [List.getD, List.getElem?_eq_getElem (show v < L.length by rw [HL.out]; omega)]
        exact HLE.out _ (List.getElem_mem _)
      obtain ⟨ps, hps⟩ : ∃ ps, ps = L.getD v [] := ⟨_, rfl⟩
      rw [← hps] at htk cv hr1 hml
      obtain ⟨m, hm⟩ : ∃ m, ps.length = m := ⟨_, rfl⟩
      rw [hm] at cv hml
      have HTK := Lib.hid htk
      have HM := Lib.hid hm
      have HR1 := Lib.hid hr1
      have HOWN := Lib.hid hown
      have HOP := Lib.hid hop
      have hnl : (nums .u8 ps).length = m := by simp [HM.out]
      have HNL := Lib.hid hnl
      clear hx hc hc2 hv1 hps hm htk hx1 hr1 hown hop hnl
      go_wp2_with (at_builtin; first
        | (refine append_vs rfl _ _ 30 rfl w0.heap.size 5 j0 (.int .u8 0) 1 Try.underlying30 ji jz0 jz1 jz2 rfl (.slice none 0 0) 0 [] rfl ⟨rfl, .inl ⟨rfl, rfl⟩⟩ A1 m c1 (nums .u8 ps) rfl HNL.out HR1.out nums_oneCell (by unfold maxLen; omega) (by omega) hl ?_; intro v6 w6 hown6 hgrow6; rw [Nat.zero_add, List.nil_append] at hown6; have HOWN6 := Lib.hid (own_keep HOWN.out hgrow6 (fun g e => by simp [Value.ownBlock] at e)); have HOP6 := Lib.hid ((HOP.out.keep hgrow6 (fun g e => by simp [Value.ownBlock] at e)).snoc (by rw [HM.out]; exact hown6)); have hb6 : Below w.heap.size w w6 := hb.grown hgrow6 (by omega) (fun k e => by simp [Value.ownBlock] at e); have hl6 : w0.heap.size ≤ w6.heap.size := Nat.le_trans hl hgrow6.size; obtain ⟨A6, c6, rfl⟩ := own_slice hown6; clear hown6 hgrow6)
        | (refine append_one rfl _ _ 53 rfl w0.heap.size 30 i0 (.slice none 0 0) 24 Try.underlying53 hi hz0 hz1 hz2 rfl _ _ _ rfl HOWN6.out (.slice A6 m c6) _ rfl rfl (by unfold maxLen; omega) (by omega) hl6 ?_; intro v8 w8 hown8 hgrow8; obtain ⟨A8, c8, rfl⟩ := own_slice hown8))
      refine ⟨⟨k + 1, us ++ [.slice A6 m c6], by omega, by congr 1, ⟨A8, c8, by congr 1⟩, hown8, ?_, ?_, keep_below HOWN6.out hgrow8 hb6 (by omega) (by omega)⟩, by show n - ((k : Int) + 1).toNat < n - (k : Int).toNat; omega⟩
      · rw [HTK.out]
        exact (HOP6.out.alloc _).keep hgrow8 (own_elemNot (HOWN6.out.alloc _) (by decide))
      · have := hgrow8.size
        rw [World.size_alloc] at this
        omega
    · have hkn : n = k := by omega
      subst hkn
      have hcap := own_cap hown
      have HROW := Lib.hid (Rd.of_own hown)
      have HOP := Lib.hid hop
      have HCAP := Lib.hid hcap
      clear hown hop hcap
      go_wp2_with fail
      go_ret2
      have hn := HN.out
      subst hn
      have h1 := HOP.out.parts
      rw [List.take_of_length_le (by rw [appL_len]; exact Nat.le_refl _)] at h1
      exact ⟨_, _, us, rfl, HCAP.out.1, HROW.out, h1, hb⟩
end Go.Proofs.Ytmepcpklnpjebaa
