/- Parts shuffled; whether parts are the same, and few. -/
import Derived.Test.YtmepcpklnpjebaaPl
import Derived.Test.YtmepcpklnpjebaaPart
namespace Go.Proofs.Ytmepcpklnpjebaa
open Go.RowKit
set_option linter.unusedSimpArgs false
set_option linter.unusedVariables false

/-- Parts are few, and short. -/
def fewB (L : List (List Int)) : Bool := decide ((∀ xs ∈ L, xs.length ≤ 100) ∧ L.length ≤ 60)
def IsFew (w : World) (L : List (List Int)) (e : Ending) (w' : World) : Prop := ∃ b, e = .returned (.bool b) ∧ b = fewB L ∧ w = w'

set_option maxHeartbeats 600000 in
theorem few_any (A : Option Addr) (n c : Nat) (vs : List Value) (L : List (List Int)) (w : World) (hn : vs.length = n) (hmx : n ≤ maxLen) (hx : Rd w A vs) (hp : Parts w vs L) :
    Calls Try.prog 35 #[.slice A n c] w (IsFew w L) := by
  unfold maxLen at hmx
  have HN := Lib.hid hn
  have HX := Lib.hid hx
  have HP := Lib.hid hp
  have hL : L.length = n := by rw [← hp.1]; exact hn
  have HL := Lib.hid hL
  clear hn hx hp hL
  go_enter Try.func35, Try.ntmps35
  go_wp2_with fail
  go_loop [7] (fun i => ∃ k : Nat, k ≤ n ∧ i = .int .i64 k ∧ ∀ j, j < k → (L.getD j []).length ≤ 100) (fun i => n - (intOf i).toNat)
  case atStart => exact ⟨0, Nat.zero_le _, rfl, fun j hj => by omega⟩
  case round =>
    obtain ⟨k, hk, rfl, hall⟩ := hrel
    have HA := Lib.hid hall
    clear hall
    by_cases hlt : k < n
    · have r1 : (k : Int) < n := by omega
      obtain ⟨b, o, rfl, hlb, hc⟩ := HX.out.at_ (by rw [HN.out]; omega)
      have ck := hc k _ (vs_at (by rw [HN.out]; exact hlt))
      obtain ⟨A1, c1, hv, h1, h2, hr⟩ := HP.out.2 k (by rw [HL.out]; exact hlt)
      rw [hv] at ck
      obtain ⟨m, hm⟩ : ∃ m, m = (L.getD k []).length := ⟨_, rfl⟩
      rw [← hm] at ck h1
      have HM := Lib.hid hm
      unfold maxLen at h2
      clear hc hv hm hr
      by_cases hbig : 100 < m
      · have r2 : (100 : Int) < m := by omega
        go_wp2_with fail
        go_ret
        refine ⟨false, rfl, ?_, rfl⟩
        symm
        rw [fewB, decide_eq_false_iff_not]
        rintro ⟨hh, _⟩
        have := hh (L.getD k []) (by rw [List.getD, List.getElem?_eq_getElem (show k < L.length by rw [HL.out]; exact hlt)]; exact List.getElem_mem _)
        rw [← HM.out] at this
        omega
      · have r2 : ¬ (100 : Int) < m := by omega
        go_wp2_with fail
        refine ⟨⟨k + 1, by omega, by congr 1, fun j hj => ?_⟩, by show n - ((k : Int) + 1).toNat < n - (k : Int).toNat; omega⟩
        by_cases e : j = k
        · subst e; rw [← HM.out]; omega
        · exact HA.out j (by omega)
    · have hkn : n = k := by omega
      subst hkn
      go_wp2_with fail
      go_ret
      refine ⟨_, rfl, ?_, rfl⟩
      have h1 : ∀ xs ∈ L, xs.length ≤ 100 := fun xs hxs => by
        obtain ⟨i, hi, rfl⟩ := List.mem_iff_getElem.1 hxs
        have := HA.out i (by rw [← HL.out]; exact hi)
        simpa [List.getD, hi] using this
      rw [fewB, HL.out]
      by_cases h : n ≤ 60
      · rw [decide_eq_true (show (n : Int) ≤ 60 by omega), decide_eq_true ⟨h1, h⟩]
      · rw [decide_eq_false (show ¬ (n : Int) ≤ 60 by omega), decide_eq_false (fun hh => h hh.2)]

set_option maxHeartbeats 600000 in
theorem sameParts_true (A B : Option Addr) (n c d : Nat) (vs us : List Value) (L : List (List Int)) (w : World) (hn : L.length = n) (hmx : n ≤ maxLen) (hx : Rd w A vs) (hp : Parts w vs L) (hy : Rd w B us) (hq : Parts w us L) (hB : ∀ xs ∈ L, Byt xs) :
    Calls Try.prog 40 #[.slice A n c, .slice B n d] w fun e w' => e = .returned (.bool true) ∧ Below w.heap.size w w' := by
  unfold maxLen at hmx
  have HN := Lib.hid hn
  have HX := Lib.hid hx
  have HY := Lib.hid hy
  have HP := Lib.hid hp
  have HQ := Lib.hid hq
  have HB := Lib.hid hB
  clear hn hx hp hy hq hB
  go_enter Try.func40, Try.ntmps40
  go_wp2_with fail
  go_loopw [13] (fun i wr => ∃ k : Nat, k ≤ n ∧ i = .int .i64 k ∧ Below w.heap.size w wr) (fun i _ => n - (intOf i).toNat)
  case atStart => exact ⟨0, Nat.zero_le _, rfl, brf⟩
  case round =>
    obtain ⟨k, hk, rfl, hb⟩ := hrel
    by_cases hlt : k < n
    · have r1 : (k : Int) < n := by omega
      have r0 : (0 : Int) ≤ k := by omega
      obtain ⟨b1, o1, rfl, hlb1, hc1⟩ := (HX.out.below hb).at_ (by rw [HP.out.1, HN.out]; omega)
      obtain ⟨b2, o2, rfl, hlb2, hc2⟩ := (HY.out.below hb).at_ (by rw [HQ.out.1, HN.out]; omega)
      have ck1 := hc1 k _ (vs_at (by rw [HP.out.1, HN.out]; exact hlt))
      have ck2 := hc2 k _ (vs_at (by rw [HQ.out.1, HN.out]; exact hlt))
      obtain ⟨A1, c1, hv1, _, _, hr1⟩ := (HP.out.below hb).2 k (by rw [HN.out]; exact hlt)
      obtain ⟨A2, c2, hv2, _, _, hr2⟩ := (HQ.out.below hb).2 k (by rw [HN.out]; exact hlt)
      rw [hv1] at ck1
      rw [hv2] at ck2
      obtain ⟨xs, hxs⟩ : ∃ xs, xs = L.getD k [] := ⟨_, rfl⟩
      have hby : Byt xs := by
        rw [hxs, List.getD, List.getElem?_eq_getElem (show k < L.length by rw [HN.out]; exact hlt)]
        exact HB.out _ (List.getElem_mem _)
      rw [← hxs] at ck1 ck2 hr1 hr2
      obtain ⟨m, hm⟩ : ∃ m, xs.length = m := ⟨_, rfl⟩
      rw [hm] at ck1 ck2
      have HM := Lib.hid hm
      have CQ : ∀ w', Rd w' A1 (nums .u8 xs) → Rd w' A2 (nums .u8 xs) → Calls Try.prog 32 #[.slice A1 m c1, .slice A2 m c2] w' fun e w'' => e = .returned (.bool true) ∧ w'' = w' :=
        fun w' h1 h2 => (same_any A1 A2 m c1 m c2 xs xs w' HM.out HM.out h1 h2 hby hby).mono fun e w'' ⟨he, hw⟩ => ⟨by rw [he, decide_eq_true rfl], hw.symm⟩
      have HR1 := Lib.hid hr1
      have HR2 := Lib.hid hr2
      clear hc1 hc2 hv1 hv2 hxs hm hr1 hr2
      go_wp2_with fail
      go_quiet ((go_at_call 32; exact Calls.quiet_of_same (CQ _ HR1.out HR2.out)))
      go_wp2_with fail
      exact ⟨⟨k + 1, by omega, by congr 1, bdrN hb _⟩, by show n - ((k : Int) + 1).toNat < n - (k : Int).toNat; omega⟩
    · have hkn : n = k := by omega
      subst hkn
      go_wp2_with fail
      go_ret
      exact ⟨rfl, hb⟩
end Go.Proofs.Ytmepcpklnpjebaa
