/- Whether a list is a shuffle: the document's answer; shuffles turned round. -/
import Derived.Test.YtmepcpklnpjebaaPh
namespace Go.Proofs.Ytmepcpklnpjebaa
open Go.RowKit
set_option linter.unusedSimpArgs false
set_option linter.unusedVariables false

set_option maxHeartbeats 1000000 in
theorem rcheck_any (A : Option Addr) (n c : Nat) (xs : List Int) (w : World) (hn : xs.length = n) (hle : n ≤ 1024) (hx : Rd w A (nums .i64 xs)) :
    Calls Try.prog 39 #[.slice A n c] w (IsCheck w xs) := by
  have h1 : ¬ (1024 : Int) < n := by omega
  have HN := Lib.hid hn
  have HX := Lib.hid hx
  clear hn hx
  go_enter Try.func39, Try.ntmps39
  go_wp2_with fail
  go_loop [12] (fun i => ∃ k : Nat, k ≤ n ∧ i = .int .i64 k ∧ ∀ i : Nat, i < k → cnt xs i n = 1) (fun i => n - (intOf i).toNat)
  case atStart => exact ⟨0, Nat.zero_le _, rfl, fun i hi => by omega⟩
  case round =>
    obtain ⟨k, hk, rfl, hall⟩ := hrel
    have HA := Lib.hid hall
    clear hall
    by_cases hlt : k < n
    · have r1 : (k : Int) < n := by omega
      go_wp2_with fail
      go_loop [4, 17] (fun q i => ∃ (j : Nat), j ≤ n ∧ i = .int .i64 j ∧ ∃ q' : Nat, q' ≤ j ∧ q = .int .i64 q' ∧ Hid (q' = cnt xs k j)) (fun _ i => n - (intOf i).toNat)
      case atStart => exact ⟨0, Nat.zero_le _, rfl, 0, Nat.le_refl _, rfl, Lib.hid rfl⟩
      case round =>
        obtain ⟨j, hj, rfl, q, hqj, rfl, HQ⟩ := hrel
        by_cases hjn : j < n
        · have r2 : (j : Int) < n := by omega
          obtain ⟨b, o, rfl, hlb, hc⟩ := HX.out.at_ (by simp [HN.out]; omega)
          have cj := hc j _ (nums_at (by rw [HN.out]; exact hjn))
          obtain ⟨x, hx⟩ : ∃ x, x = xs.getD j 0 := ⟨_, rfl⟩
          rw [← hx] at cj
          have HE := Lib.hid hx
          clear hc hx
          by_cases hxk : x = k
          · have HX2 := Lib.hid hxk
            subst hxk
            go_wp2_with fail
            refine ⟨⟨j + 1, by omega, by congr 1, q + 1, by omega, by congr 1, Lib.hid (by rw [cnt, ← HE.out, if_pos rfl, ← HQ.out])⟩, by show n - ((j : Int) + 1).toNat < n - (j : Int).toNat; omega⟩
          · have hb : (x == (k : Int)) = false := by simpa using hxk
            go_wp2_with fail
            refine ⟨⟨j + 1, by omega, by congr 1, q, by omega, rfl, Lib.hid (by rw [cnt, ← HE.out, if_neg hxk, ← HQ.out, Nat.add_zero])⟩, by show n - ((j : Int) + 1).toNat < n - (j : Int).toNat; omega⟩
        · have hjn2 : n = j := by omega
          subst hjn2
          by_cases hq1 : q = 1
          · subst hq1
            go_wp2_with fail
            refine ⟨⟨k + 1, by omega, by congr 1, fun i hi => ?_⟩, by show n - ((k : Int) + 1).toNat < n - (k : Int).toNat; omega⟩
            by_cases hik : i = k
            · subst hik; exact HQ.out.symm
            · exact HA.out i (by omega)
          · have hq2 : ((q : Int) != 1) = true := by simp; omega
            go_wp2_with fail
            go_ret
            exact ⟨1, rfl, .inr ⟨rfl, fun hs => hq1 (by rw [HQ.out]; have := cnt_of_sh hs k (by rw [HN.out]; exact hlt); rwa [HN.out] at this)⟩, brf⟩
    · have hkn : n = k := by omega
      subst hkn
      go_wp2_with fail
      go_ret
      exact ⟨0, rfl, .inl ⟨rfl, sh_of_cnt fun i hi => by rw [HN.out] at hi ⊢; exact HA.out i hi⟩, brf⟩

theorem rcheck_yes (A : Option Addr) (n c : Nat) (xs : List Int) (w : World) (hn : xs.length = n) (hle : n ≤ 1024) (hx : Rd w A (nums .i64 xs)) (h : Sh xs) :
    Calls Try.prog 39 #[.slice A n c] w fun e w' => e = .returned (.int .i64 0) ∧ Below w.heap.size w w' :=
  (rcheck_any A n c xs w hn hle hx).mono fun e w' ⟨r, he, hr, hb⟩ => by
    rcases hr with ⟨rfl, _⟩ | ⟨_, hno⟩
    · exact ⟨he, hb⟩
    · exact absurd h hno
theorem rcheck_no (A : Option Addr) (n c : Nat) (xs : List Int) (w : World) (hn : xs.length = n) (hle : n ≤ 1024) (hx : Rd w A (nums .i64 xs)) (h : ¬ Sh xs) :
    Calls Try.prog 39 #[.slice A n c] w fun e w' => e = .returned (.int .i64 1) ∧ Below w.heap.size w w' :=
  (rcheck_any A n c xs w hn hle hx).mono fun e w' ⟨r, he, hr, hb⟩ => by
    rcases hr with ⟨_, hyes⟩ | ⟨rfl, _⟩
    · exact absurd hyes h
    · exact ⟨he, hb⟩

/-- A shuffle turned round, in a row of its own. -/
def IsInv (w : World) (xs : List Int) (e : Ending) (w' : World) : Prop :=
  ∃ g, e = .returned (.tuple #[.slice (some ⟨g, 0, none⟩) xs.length xs.length, .int .i64 0]) ∧ w.heap.size ≤ g ∧ g < w'.heap.size ∧ VRow w' g (nums .i64 (invL xs)) ∧ Below w.heap.size w w'
theorem nums_set {l : List Int} {i : Nat} {x : Int} : (nums .i64 l).set i (.int .i64 x) = nums .i64 (l.set i x) := by simp [nums, List.map_set]

theorem inv_no (A : Option Addr) (n c : Nat) (xs : List Int) (w : World) (hn : xs.length = n) (hle : n ≤ 1024) (hx : Rd w A (nums .i64 xs)) (h : ¬ Sh xs) :
    Calls Try.prog 34 #[.slice A n c] w fun e w' => e = .returned (.tuple #[.slice none 0 0, .int .i64 1]) ∧ Below w.heap.size w w' := by
  have C := fun W (hr : Rd W A (nums .i64 xs)) => check_no A n c xs W hn hle hr h
  have HX := Lib.hid hx
  clear hx hn
  go_enter Try.func34, Try.ntmps34
  go_wp2_with (go_at_call 23; refine (C _ HX.out).mono ?_; rintro e w1 ⟨rfl, hb⟩)
  go_ret2
  exact ⟨rfl, hb⟩

set_option maxHeartbeats 1000000 in
theorem inv_yes (A : Option Addr) (n c : Nat) (xs : List Int) (w : World) (hn : xs.length = n) (hle : n ≤ 1024) (hx : Rd w A (nums .i64 xs)) (h : Sh xs) :
    Calls Try.prog 34 #[.slice A n c] w (IsInv w xs) := by
  obtain ⟨i0, hi, hz0, hz1, hz2⟩ := info_parts infoInt
  have C := fun W (hr : Rd W A (nums .i64 xs)) => check_yes A n c xs W hn hle hr h
  have HX := Lib.hid hx
  have HN := Lib.hid hn
  have HS := Lib.hid h
  clear hx hn h
  go_enter Try.func34, Try.ntmps34
  go_wp2_with (first
    | (go_at_call 23; refine (C _ HX.out).mono ?_; rintro e w0 ⟨rfl, hb0⟩)
    | (at_make; refine wpList_make_full _ rfl _ _ 22 rfl w0.heap.size 3 i0 (.int .i64 0) 1 Try.underlying22 hi hz0 hz1 .i64 .i64 _ _ n rfl rfl (by omega) (by omega) (by rw [hz2]; omega) (by unfold maxLen; omega) (Nat.le_refl _) ?_; intro w1 hown1 hgrow1))
  obtain ⟨hrow1, hb1, hl1⟩ := vrow_make rfl hown1 hgrow1
  have hbw := bgo hb0 hb1
  obtain ⟨g, hg⟩ : ∃ g, g = w0.heap.size := ⟨_, rfl⟩
  have hgw : w.heap.size ≤ g := by rw [hg]; exact hb0.size
  rw [← hg] at hrow1 hl1 ⊢
  have HR := Lib.hid hrow1
  have HZ := Lib.hid (And.intro hz0 hz1)
  clear hown1 hgrow1 hrow1 hi hz0 hz1 hz2 hg hb0 hb1
  go_loopw [18] (fun i wr => ∃ k : Nat, k ≤ n ∧ i = .int .i64 k ∧ VRow wr g (nums .i64 (invN xs k)) ∧ g < wr.heap.size ∧ Below w.heap.size w wr) (fun i _ => n - (intOf i).toNat)
  case atStart => exact ⟨0, Nat.zero_le _, rfl, by rw [invN, nums, List.map_replicate, HN.out]; exact HR.out, hl1, hbw⟩
  case round =>
    obtain ⟨k, hk, rfl, hrow, hl, hb⟩ := hrel
    by_cases hlt : k < n
    · have r1 : (k : Int) < n := by omega
      obtain ⟨b, o, rfl, hlb, hc⟩ := (HX.out.below hb).at_ (by simp [HN.out]; omega)
      have ck := hc k _ (nums_at (by rw [HN.out]; exact hlt))
      obtain ⟨x, hx⟩ : ∃ x, x = xs.getD k 0 := ⟨_, rfl⟩
      have hx1 := HS.out.1 k (by rw [HN.out]; exact hlt)
      rw [HN.out, ← hx] at hx1
      rw [← hx] at ck
      obtain ⟨v, rfl⟩ := Int.eq_ofNat_of_zero_le hx1.1
      have r2 : (v : Int) < n := hx1.2
      obtain ⟨cv, fv⟩ := hrow v _ (nums_at (by rw [invN_len, HN.out]; omega))
      have hst := hrow.set (k := v) (.int .i64 (k : Int))
      have hsw : (invN xs k).set v (k : Int) = invN xs (k + 1) := by rw [invN, ← hx]; rfl
      rw [nums_set, hsw] at hst
      have HST := Lib.hid hst
      clear hc hx hx1 hst hsw hrow
      go_wp2_with fail
      refine ⟨⟨k + 1, by omega, by congr 1, HST.out, by rw [size_setCell]; exact hl, hb.setCell (p := ⟨g, v, none⟩) hgw _⟩, by show n - ((k : Int) + 1).toNat < n - (k : Int).toNat; omega⟩
    · have hkn : n = k := by omega
      subst hkn
      have HROW := Lib.hid hrow
      clear hrow
      go_wp2_with fail
      go_ret2
      have hn := HN.out
      subst hn
      exact ⟨g, rfl, hgw, hl, HROW.out, hb⟩

theorem rinv_no (A : Option Addr) (n c : Nat) (xs : List Int) (w : World) (hn : xs.length = n) (hle : n ≤ 1024) (hx : Rd w A (nums .i64 xs)) (h : ¬ Sh xs) :
    Calls Try.prog 36 #[.slice A n c] w fun e w' => e = .returned (.tuple #[.slice none 0 0, .int .i64 1]) ∧ Below w.heap.size w w' := by
  have C := fun W (hr : Rd W A (nums .i64 xs)) => rcheck_no A n c xs W hn hle hr h
  have HX := Lib.hid hx
  clear hx hn
  go_enter Try.func36, Try.ntmps36
  go_wp2_with (go_at_call 39; refine (C _ HX.out).mono ?_; rintro e w1 ⟨rfl, hb⟩)
  go_ret2
  exact ⟨rfl, hb⟩

set_option maxHeartbeats 1000000 in
theorem rinv_yes (A : Option Addr) (n c : Nat) (xs : List Int) (w : World) (hn : xs.length = n) (hle : n ≤ 1024) (hx : Rd w A (nums .i64 xs)) (h : Sh xs) :
    Calls Try.prog 36 #[.slice A n c] w (IsInv w xs) := by
  obtain ⟨i0, hi, hz0, hz1, hz2⟩ := info_parts infoInt
  have C := fun W (hr : Rd W A (nums .i64 xs)) => rcheck_yes A n c xs W hn hle hr h
  have HX := Lib.hid hx
  have HN := Lib.hid hn
  have HS := Lib.hid h
  clear hx hn h
  go_enter Try.func36, Try.ntmps36
  go_wp2_with (first
    | (go_at_call 39; refine (C _ HX.out).mono ?_; rintro e w0 ⟨rfl, hb0⟩)
    | (at_make; refine wpList_make_full _ rfl _ _ 22 rfl w0.heap.size 3 i0 (.int .i64 0) 1 Try.underlying22 hi hz0 hz1 .i64 .i64 _ _ n rfl rfl (by omega) (by omega) (by rw [hz2]; omega) (by unfold maxLen; omega) (Nat.le_refl _) ?_; intro w1 hown1 hgrow1))
  obtain ⟨hrow1, hb1, hl1⟩ := vrow_make rfl hown1 hgrow1
  have hbw := bgo hb0 hb1
  obtain ⟨g, hg⟩ : ∃ g, g = w0.heap.size := ⟨_, rfl⟩
  have hgw : w.heap.size ≤ g := by rw [hg]; exact hb0.size
  rw [← hg] at hrow1 hl1 ⊢
  have HR := Lib.hid hrow1
  have HZ := Lib.hid (And.intro hz0 hz1)
  clear hown1 hgrow1 hrow1 hi hz0 hz1 hz2 hg hb0 hb1
  go_loopw [18] (fun i wr => ∃ k : Nat, k ≤ n ∧ i = .int .i64 k ∧ VRow wr g (nums .i64 (invN xs k)) ∧ g < wr.heap.size ∧ Below w.heap.size w wr) (fun i _ => n - (intOf i).toNat)
  case atStart => exact ⟨0, Nat.zero_le _, rfl, by rw [invN, nums, List.map_replicate, HN.out]; exact HR.out, hl1, hbw⟩
  case round =>
    obtain ⟨k, hk, rfl, hrow, hl, hb⟩ := hrel
    by_cases hlt : k < n
    · have r1 : (k : Int) < n := by omega
      obtain ⟨b, o, rfl, hlb, hc⟩ := (HX.out.below hb).at_ (by simp [HN.out]; omega)
      have ck := hc k _ (nums_at (by rw [HN.out]; exact hlt))
      obtain ⟨x, hx⟩ : ∃ x, x = xs.getD k 0 := ⟨_, rfl⟩
      have hx1 := HS.out.1 k (by rw [HN.out]; exact hlt)
      rw [HN.out, ← hx] at hx1
      rw [← hx] at ck
      obtain ⟨v, rfl⟩ := Int.eq_ofNat_of_zero_le hx1.1
      have r2 : (v : Int) < n := hx1.2
      obtain ⟨cv, fv⟩ := hrow v _ (nums_at (by rw [invN_len, HN.out]; omega))
      have hst := hrow.set (k := v) (.int .i64 (k : Int))
      have hsw : (invN xs k).set v (k : Int) = invN xs (k + 1) := by rw [invN, ← hx]; rfl
      rw [nums_set, hsw] at hst
      have HST := Lib.hid hst
      clear hc hx hx1 hst hsw hrow
      go_wp2_with fail
      refine ⟨⟨k + 1, by omega, by congr 1, HST.out, by rw [size_setCell]; exact hl, hb.setCell (p := ⟨g, v, none⟩) hgw _⟩, by show n - ((k : Int) + 1).toNat < n - (k : Int).toNat; omega⟩
    · have hkn : n = k := by omega
      subst hkn
      have HROW := Lib.hid hrow
      clear hrow
      go_wp2_with fail
      go_ret2
      have hn := HN.out
      subst hn
      exact ⟨g, rfl, hgw, hl, HROW.out, hb⟩
end Go.Proofs.Ytmepcpklnpjebaa
