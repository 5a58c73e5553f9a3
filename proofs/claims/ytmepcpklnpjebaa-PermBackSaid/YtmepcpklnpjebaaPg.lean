/- Whether a list is a shuffle: the program's answer. -/
import Derived.Test.YtmepcpklnpjebaaPf
namespace Go.Proofs.Ytmepcpklnpjebaa
open Go.RowKit
set_option linter.unusedSimpArgs false
set_option linter.unusedVariables false

theorem infoBool : (Try.prog.info? 4).map (fun i => (i.zero, i.size, i.bytes)) = some (some (.bool false), 1, 1) := by kernel_rfl

/-- The first k numbers are places of n, and none is there twice. -/
def Pre (xs : List Int) (k : Nat) : Prop := (∀ i, i < k → 0 ≤ xs.getD i 0 ∧ xs.getD i 0 < xs.length) ∧ ∀ i j, i < k → j < k → xs.getD i 0 = xs.getD j 0 → i = j
/-- Which places were met among the first k. -/
def metL (xs : List Int) (k : Nat) : List Value := (List.range xs.length).map fun (v : Nat) => .bool (cnt xs v k != 0)
theorem metL_zero (xs : List Int) : metL xs 0 = List.replicate xs.length (.bool false) := by
  apply List.ext_getElem <;> simp [metL, cnt]
theorem metL_at {xs : List Int} {k v : Nat} (h : v < xs.length) : (metL xs k)[v]? = some (.bool (cnt xs v k != 0)) := by simp [metL, List.getElem?_range h]
theorem metL_set {xs : List Int} {k v : Nat} (h : xs.getD k 0 = (v : Int)) : (metL xs k).set v (.bool true) = metL xs (k + 1) := by
  apply List.ext_getElem
  · simp [metL]
  · intro i h1 h2
    simp only [metL, List.getElem_set, List.getElem_map, List.getElem_range]
    by_cases e : v = i
    · subst e
      rw [if_pos rfl, cnt, if_pos h]
      simp
    · rw [if_neg e, cnt, h, if_neg (by omega)]
      rfl
theorem met_no {xs : List Int} {k : Nat} {v : Int} (h : (cnt xs v k != 0) = false) : ∀ i, i < k → xs.getD i 0 ≠ v := cnt_zero k (by simpa using h)
theorem met_yes {xs : List Int} {k : Nat} {v : Int} (h : (cnt xs v k != 0) = true) : ∃ i, i < k ∧ xs.getD i 0 = v := by
  by_cases hh : ∃ i, i < k ∧ xs.getD i 0 = v
  · exact hh
  · have := cnt_none (l := xs) (v := v) k fun i hi e => hh ⟨i, hi, e⟩
    rw [this] at h
    simp at h
theorem Pre.step {xs : List Int} {k : Nat} (h : Pre xs k) (h0 : 0 ≤ xs.getD k 0) (h1 : xs.getD k 0 < xs.length) (h2 : ∀ i, i < k → xs.getD i 0 ≠ xs.getD k 0) : Pre xs (k + 1) := by
  refine ⟨fun i hi => ?_, fun i j hi hj e => ?_⟩
  · by_cases e : i = k
    · subst e; exact ⟨h0, h1⟩
    · exact h.1 i (by omega)
  · by_cases e1 : i = k
    · by_cases e2 : j = k
      · omega
      · subst e1; exact absurd e.symm (h2 j (by omega))
    · by_cases e2 : j = k
      · subst e2; exact absurd e (h2 i (by omega))
      · exact h.2 i j (by omega) (by omega) e

/-- It tells whether a list is a shuffle. -/
def IsCheck (w : World) (xs : List Int) (e : Ending) (w' : World) : Prop :=
  ∃ r : Int, e = .returned (.int .i64 r) ∧ (r = 0 ∧ Sh xs ∨ r = 1 ∧ ¬ Sh xs) ∧ Below w.heap.size w w'

theorem check_long (A : Option Addr) (n c : Nat) (w : World) (h : 1024 < n) :
    Calls Try.prog 23 #[.slice A n c] w fun e w' => e = .returned (.int .i64 1) ∧ w = w' := by
  have h1 : (1024 : Int) < n := by omega
  go_enter Try.func23, Try.ntmps23
  go_wp2_with fail
  go_ret
  exact ⟨rfl, rfl⟩

set_option maxHeartbeats 1000000 in
theorem check_any (A : Option Addr) (n c : Nat) (xs : List Int) (w : World) (hn : xs.length = n) (hle : n ≤ 1024) (hx : Rd w A (nums .i64 xs)) :
    Calls Try.prog 23 #[.slice A n c] w (IsCheck w xs) := by
  obtain ⟨i0, hi, hz0, hz1, hz2⟩ := info_parts infoBool
  have h1 : ¬ (1024 : Int) < n := by omega
  have HN := Lib.hid hn
  have HX := Lib.hid hx
  clear hn hx
  go_enter Try.func23, Try.ntmps23
  go_wp2_with (at_make; refine wpList_make_full _ rfl _ _ 54 rfl w.heap.size 4 i0 (.bool false) 1 Try.underlying54 hi hz0 hz1 .i64 .i64 _ _ n rfl rfl (by omega) (by omega) (by rw [hz2]; omega) (by unfold maxLen; omega) (Nat.le_refl _) ?_; intro w1 hown1 hgrow1)
  obtain ⟨hrow1, hb1, hl1⟩ := vrow_make rfl hown1 hgrow1
  have HR := Lib.hid hrow1
  have HZ := Lib.hid (And.intro hz0 hz1)
  clear hown1 hgrow1 hrow1 hi hz0 hz1 hz2
  go_loopw [14] (fun i wr => ∃ k : Nat, k ≤ n ∧ i = .int .i64 k ∧ Pre xs k ∧ VRow wr w.heap.size (metL xs k) ∧ w.heap.size < wr.heap.size ∧ Below w.heap.size w wr) (fun i _ => n - (intOf i).toNat)
  case atStart => exact ⟨0, Nat.zero_le _, rfl, ⟨fun i hi => by omega, fun i j hi => by omega⟩, by rw [metL_zero, HN.out]; exact HR.out, hl1, hb1⟩
  case round =>
    obtain ⟨k, hk, rfl, hpre, hrow, hl, hb⟩ := hrel
    have HP := Lib.hid hpre
    have HROW := Lib.hid hrow
    clear hpre hrow
    by_cases hlt : k < n
    · have r1 : (k : Int) < n := by omega
      obtain ⟨b, o, rfl, hlb, hc⟩ := (HX.out.below hb).at_ (by simp [HN.out]; omega)
      have ck := hc k _ (nums_at (by rw [HN.out]; exact hlt))
      obtain ⟨x, hx⟩ : ∃ x, x = xs.getD k 0 := ⟨_, rfl⟩
      rw [← hx] at ck
      have HE := Lib.hid hx
      clear hc hx
      by_cases hneg : x < 0
      · go_wp2_with fail
        go_ret
        exact ⟨1, rfl, .inr ⟨rfl, fun hs => by have := hs.1 k (by rw [HN.out]; exact hlt); rw [← HE.out] at this; omega⟩, hb⟩
      obtain ⟨v, rfl⟩ := Int.eq_ofNat_of_zero_le (show 0 ≤ x by omega)
      by_cases hvn : v < n
      · have r2 : (v : Int) < n := by omega
        have r3 : ¬ (n : Int) ≤ v := by omega
        obtain ⟨cv, fv⟩ := HROW.out v _ (metL_at (by rw [HN.out]; exact hvn))
        have hst := HROW.out.set (k := v) (.bool true)
        rw [metL_set HE.out.symm] at hst
        have HST := Lib.hid hst
        clear hst
        obtain ⟨q, hq⟩ : ∃ q, q = (cnt xs (v : Int) k != 0) := ⟨_, rfl⟩
        rw [← hq] at cv
        have HQ := Lib.hid hq
        clear hq
        cases q with
        | true =>
          go_wp2_with fail
          go_ret
          refine ⟨1, rfl, .inr ⟨rfl, fun hs => ?_⟩, hb⟩
          obtain ⟨i, hik, hie⟩ := met_yes HQ.out.symm
          have := hs.2 i k (by rw [HN.out]; omega) (by rw [HN.out]; exact hlt) (by rw [hie]; exact HE.out)
          omega
        | false =>
          go_wp2_with fail
          refine ⟨⟨k + 1, by omega, by congr 1, HP.out.step (by rw [← HE.out]; omega) (by rw [← HE.out, HN.out]; exact r2) (fun i hik => by rw [← HE.out]; exact met_no HQ.out.symm i hik), HST.out, by rw [size_setCell]; exact hl, hb.setCell (p := ⟨w.heap.size, v, none⟩) (Nat.le_refl _) _⟩, by show n - ((k : Int) + 1).toNat < n - (k : Int).toNat; omega⟩
      · have r3 : (n : Int) ≤ v := by omega
        go_wp2_with fail
        go_ret
        exact ⟨1, rfl, .inr ⟨rfl, fun hs => by have := hs.1 k (by rw [HN.out]; exact hlt); rw [← HE.out, HN.out] at this; omega⟩, hb⟩
    · have hkn : n = k := by omega
      subst hkn
      go_wp2_with fail
      go_ret
      refine ⟨0, rfl, .inl ⟨rfl, ?_⟩, hb⟩
      have := HP.out
      unfold Sh
      rw [HN.out]
      exact ⟨fun i hi => by have := this.1 i hi; rw [HN.out] at this; exact this, this.2⟩

theorem check_yes (A : Option Addr) (n c : Nat) (xs : List Int) (w : World) (hn : xs.length = n) (hle : n ≤ 1024) (hx : Rd w A (nums .i64 xs)) (h : Sh xs) :
    Calls Try.prog 23 #[.slice A n c] w fun e w' => e = .returned (.int .i64 0) ∧ Below w.heap.size w w' :=
  (check_any A n c xs w hn hle hx).mono fun e w' ⟨r, he, hr, hb⟩ => by
    rcases hr with ⟨rfl, _⟩ | ⟨_, hno⟩
    · exact ⟨he, hb⟩
    · exact absurd h hno
theorem check_no (A : Option Addr) (n c : Nat) (xs : List Int) (w : World) (hn : xs.length = n) (hle : n ≤ 1024) (hx : Rd w A (nums .i64 xs)) (h : ¬ Sh xs) :
    Calls Try.prog 23 #[.slice A n c] w fun e w' => e = .returned (.int .i64 1) ∧ Below w.heap.size w w' :=
  (check_any A n c xs w hn hle hx).mono fun e w' ⟨r, he, hr, hb⟩ => by
    rcases hr with ⟨_, hyes⟩ | ⟨rfl, _⟩
    · exact absurd hyes h
    · exact ⟨he, hb⟩
end Go.Proofs.Ytmepcpklnpjebaa
