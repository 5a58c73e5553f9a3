/- A number of at most eight bytes, told: contracts of both answers. -/
import Derived.Test.YtmkmndgdakpojaaTb0
import Derived.Laws.BitsLemmas
namespace Go.Proofs.Ytmkmndgdakpojaa
open Go.RowKit
set_option linter.unusedSimpArgs false
set_option linter.unusedVariables false
set_option maxRecDepth 100000

theorem u64_in (n : Int) (h0 : 0 ≤ n) (h1 : n < 2 ^ 64) : IntKind.u64.wrap n = n := by
  have : IntKind.u64.wrap n = n % 18446744073709551616 := by simp [IntKind.wrap, IntKind.bits, IntKind.signed]
  rw [this]; omega
theorem shl_or {v : Nat} {x : Int} (hv : v < 72057594037927936) (h0 : 0 ≤ x) (h1 : x ≤ 255) : bits BinOp.or IntKind.u64 ((v : Int) * 256) x = ((v * 256 + x.toNat : Nat) : Int) := by
  rw [bits_join .u64 64 (by decide) u64_in 8 ((v : Int) * 256) x (by omega) (by omega) (by omega) h0 (by omega) (by omega)]
  omega

theorem val_take {xs : List Int} {k : Nat} (hb : Byt xs) (hk : k < xs.length) (h8 : xs.length ≤ 8) : valB (xs.take k) < 72057594037927936 ∧ valB (xs.take (k + 1)) = valB (xs.take k) * 256 + (xs.getD k 0).toNat ∧ 0 ≤ xs.getD k 0 ∧ xs.getD k 0 ≤ 255 := by
  have hlt := valB_lt (l := xs.take k) (fun x hx => hb x (List.mem_of_mem_take hx))
  have h2 : (xs.take k).length ≤ 7 := by rw [List.length_take]; omega
  have h3 : 2 ^ (8 * (xs.take k).length) ≤ 2 ^ 56 := Nat.pow_le_pow_right (by omega) (by omega)
  have h4 : (2 : Nat) ^ 56 = 72057594037927936 := by decide
  refine ⟨by rw [h4] at h3; exact Nat.lt_of_lt_of_le hlt h3, ?_, hb _ ?_⟩
  · rw [take_snoc hk, valB_snoc]
  · simp [List.getD, List.getElem?_eq_getElem hk]

set_option maxHeartbeats 1000000 in
theorem wget_any (A : Option Addr) (n c : Nat) (xs : List Int) (w : World) (hn : xs.length = n) (hx : Rd w A (nums .u8 xs)) (hb : Byt xs) (h1 : 1 ≤ n) (h8 : n ≤ 8) :
    Calls Try.prog 22 #[.slice A n c] w fun e w' => e = .returned (.tuple #[.int .u64 ((valB xs : Nat) : Int), .int .i64 0]) ∧ w = w' := by
  obtain ⟨b, o, rfl, hl, hc⟩ := hx.at_ (by simp; omega)
  have HV : Hid (∀ k, k < n → _) := Lib.hid (fun k (hk : k < n) => val_take hb (by rw [hn]; exact hk) (by rw [hn]; exact h8))
  have HC : Hid (∀ k, k < n → _) := Lib.hid (fun k (hk : k < n) => hc k _ (nums_at (by rw [hn]; exact hk)))
  have HF : Hid (xs.take n = xs) := Lib.hid (List.take_of_length_le (by omega))
  clear hx hb hc hn
  go_enter Try.func22, Try.ntmps22
  go_wp2_with fail
  go_loop [4, 17] (fun v i => ∃ k : Nat, k ≤ n ∧ i = .int .i64 k ∧ v = .int .u64 ((valB (xs.take k) : Nat) : Int)) (fun _ i => n - (intOf i).toNat)
  case atStart => exact ⟨0, Nat.zero_le _, rfl, rfl⟩
  case round =>
    obtain ⟨k, hk, rfl, rfl⟩ := hrel
    have r0 : (0 : Int) ≤ k := by omega
    by_cases hlt : k < n
    · have r1 : (k : Int) < n := by omega
      have g1 := HC.out k hlt
      obtain ⟨v1, v2, v3, v4⟩ := HV.out k hlt
      obtain ⟨v, hv⟩ : ∃ v, v = valB (xs.take k) := ⟨_, rfl⟩
      obtain ⟨x, hx⟩ : ∃ x, x = xs.getD k 0 := ⟨_, rfl⟩
      rw [← hv] at v1 v2 ⊢
      rw [← hx] at v2 v3 v4 g1
      have HQ := Lib.hid (shl_or v1 v3 v4)
      have HV2 := Lib.hid v2
      clear v2 hv hx
      go_wp2_with fail
      rw [HQ.out]
      exact ⟨⟨k + 1, by omega, by congr 1, by rw [HV2.out]⟩, by show n - ((k : Int) + 1).toNat < n - (k : Int).toNat; omega⟩
    · have hkn : k = n := by omega
      subst hkn
      rw [HF.out]
      go_wp2_with fail
      go_ret2
      exact ⟨rfl, rfl⟩
set_option maxHeartbeats 1000000 in
theorem rget_any (A : Option Addr) (n c : Nat) (xs : List Int) (w : World) (hn : xs.length = n) (hx : Rd w A (nums .u8 xs)) (hb : Byt xs) (h1 : 1 ≤ n) (h8 : n ≤ 8) :
    Calls Try.prog 23 #[.slice A n c] w fun e w' => e = .returned (.tuple #[.int .u64 ((valB xs : Nat) : Int), .int .i64 0]) ∧ w = w' := by
  obtain ⟨b, o, rfl, hl, hc⟩ := hx.at_ (by simp; omega)
  have HV : Hid (∀ k, k < n → _) := Lib.hid (fun k (hk : k < n) => val_take hb (by rw [hn]; exact hk) (by rw [hn]; exact h8))
  have HC : Hid (∀ k, k < n → _) := Lib.hid (fun k (hk : k < n) => hc k _ (nums_at (by rw [hn]; exact hk)))
  have HF : Hid (xs.take n = xs) := Lib.hid (List.take_of_length_le (by omega))
  clear hx hb hc hn
  go_enter Try.func23, Try.ntmps23
  go_wp2_with fail
  go_loop [4, 17] (fun v i => ∃ k : Nat, k ≤ n ∧ i = .int .i64 k ∧ v = .int .u64 ((valB (xs.take k) : Nat) : Int)) (fun _ i => n - (intOf i).toNat)
  case atStart => exact ⟨0, Nat.zero_le _, rfl, rfl⟩
  case round =>
    obtain ⟨k, hk, rfl, rfl⟩ := hrel
    have r0 : (0 : Int) ≤ k := by omega
    by_cases hlt : k < n
    · have r1 : (k : Int) < n := by omega
      have g1 := HC.out k hlt
      obtain ⟨v1, v2, v3, v4⟩ := HV.out k hlt
      obtain ⟨v, hv⟩ : ∃ v, v = valB (xs.take k) := ⟨_, rfl⟩
      obtain ⟨x, hx⟩ : ∃ x, x = xs.getD k 0 := ⟨_, rfl⟩
      rw [← hv] at v1 v2 ⊢
      rw [← hx] at v2 v3 v4 g1
      have HQ := Lib.hid (shl_or v1 v3 v4)
      have HV2 := Lib.hid v2
      clear v2 hv hx
      go_wp2_with fail
      exact ⟨⟨k + 1, by omega, by congr 1, by rw [HV2.out]; congr 1; omega⟩, by show n - ((k : Int) + 1).toNat < n - (k : Int).toNat; omega⟩
    · have hkn : k = n := by omega
      subst hkn
      rw [HF.out]
      go_wp2_with fail
      go_ret2
      exact ⟨rfl, rfl⟩
end Go.Proofs.Ytmkmndgdakpojaa
