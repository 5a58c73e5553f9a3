/- The law of the padded bytes' shape. -/
import Derived.Test.YtkclfhkaopimoaaDoorMore
import Derived.Deep.DeepMust
namespace Go.Proofs.YtkclfhkaopimoaaDoor
open Go.RowKit Go.ChangeShapes Go.WideShapes Go.ChangeAt
set_option linter.unusedSimpArgs false
set_option linter.unusedVariables false

theorem padded_take (xs : List Int) : (padded xs).take xs.length = xs := by
  rw [padded_eq]
  simp [headP]
theorem padded_mid (xs : List Int) : (padded xs).getD xs.length 0 = 128 := by
  rw [padded_eq]
  simp [headP]
theorem padded_nought (xs : List Int) (k : Nat) (hk : k + 9 + xs.length < padLen xs.length) : (padded xs).getD (xs.length + 1 + k) 0 = 0 := by
  rw [padded_eq]
  have hh := headP_len xs (padLen xs.length - xs.length - 9)
  rw [List.getD, List.getElem?_append_left (by omega)]
  unfold headP
  rw [List.getElem?_append_right (by omega), show xs.length + 1 + k - xs.length = k + 1 by omega, List.getElem?_cons_succ, List.getElem?_replicate, if_pos (by omega)]
  rfl
theorem padded_tail (xs : List Int) (i : Nat) (h1 : padLen xs.length - 8 ≤ i) (h2 : i < padLen xs.length) : (padded xs).getD i 0 = (((8 * xs.length / 2 ^ (8 * (padLen xs.length - 1 - i))) % 256 : Nat) : Int) := by
  have hm9 : xs.length + 9 ≤ padLen xs.length := by unfold padLen; omega
  unfold padded
  rw [List.getD, tailN_get (padLen xs.length) _ _ (by simp; omega) i 8 (by omega), if_pos ⟨h1, h2⟩]
  rfl
/-- What has been met of the number at the end, k bytes ahead of its end. -/
def rest (v k : Nat) : Nat := v / 2 ^ (8 * k)
theorem rest_step (v k : Nat) : rest v k = rest v (k + 1) * 256 + rest v k % 256 := by
  unfold rest
  rw [show 8 * (k + 1) = 8 * k + 8 by omega, Nat.pow_add, ← Nat.div_div_eq_div_mul]
  omega
theorem rest_zero (v : Nat) : rest v 0 = v := by simp [rest]
theorem rest_none (v k : Nat) (hv : v < 65536) (hk : 8 ≤ k) : rest v k = 0 := by
  unfold rest
  apply Nat.div_eq_of_lt
  refine Nat.lt_of_lt_of_le hv ?_
  exact Nat.le_trans (by decide : 65536 ≤ 2 ^ 64) (Nat.pow_le_pow_right (by omega) (by omega))
theorem rest_le (v k : Nat) : rest v k ≤ v := Nat.div_le_self _ _

theorem acc_one (a b d : Nat) (hs : b = a * 256 + d) (hle : b ≤ 8000) : wrap64 ((a : Int) * 256) = (a : Int) * 256 := by
  apply IntWalk.wrap64_in
  omega
theorem acc_d (a b d : Nat) (hs : b = a * 256 + d) (hle : b ≤ 8000) : wrap64 (d : Int) = (d : Int) := by
  apply IntWalk.wrap64_in
  omega
theorem acc_two (a b d : Nat) (hs : b = a * 256 + d) (hle : b ≤ 8000) : wrap64 ((a : Int) * 256 + (d : Int)) = (b : Int) := by
  have h : (a : Int) * 256 + (d : Int) = (b : Int) := by omega
  rw [h]
  apply IntWalk.wrap64_in
  omega

set_option maxHeartbeats 600000 in
theorem shaShape_walk (A : Option Addr) (n c : Nat) (xs : List Int) (w : World) (hn : xs.length = n) (hx : Rd w A (nums .u8 xs)) (hby : Byt xs) (hK : Konst w) :
    Calls Tryd.prog 7 #[.slice A n c] w (Yes w) := by
  have HN := Lib.hid hn
  have HX := Lib.hid hx
  have HK := Lib.hid hK
  clear hn hx hK
  by_cases hbig : 1000 < n
  · have r1 : (1000 : Int) < n := by omega
    go_enter Tryd.func7, Tryd.ntmps7
    go_wp2_with (go_at_call 15; refine (live_any _ HK.out).mono ?_; rintro e w1 ⟨rfl, hb1⟩)
    go_ret
    exact ⟨rfl, hb1⟩
  have r1 : ¬ (1000 : Int) < n := by omega
  have hq : padLen n % 64 = 0 ∧ n + 9 ≤ padLen n ∧ padLen n ≤ n + 72 := by unfold padLen; omega
  obtain ⟨m, hm⟩ : ∃ m, m = padLen xs.length := ⟨_, rfl⟩
  rw [HN.out] at hm
  rw [← hm] at hq
  obtain ⟨hq1, hq2, hq3⟩ := hq
  have HM := Lib.hid hm
  clear hm
  have hm0 : (m : Int) % 64 = 0 := by omega
  have hm1 : ¬ (m : Int) < (n : Int) + 9 := by omega
  have hm2 : ¬ (n : Int) + 72 < (m : Int) := by omega
  have x1 : IntKind.i64.wrap ((n : Int) + 9) = (n : Int) + 9 := IntWalk.i64_in _ (by omega)
  have x2 : IntKind.i64.wrap ((n : Int) + 72) = (n : Int) + 72 := IntWalk.i64_in _ (by omega)
  have x3 : IntKind.i64.wrap ((n : Int) + 1) = (n : Int) + 1 := IntWalk.i64_in _ (by omega)
  have x4 : ((n : Int) + 1).toNat = n + 1 := by omega
  have b0 : (n : Int) ≤ m := by omega
  have b1 : (n : Int) + 1 ≤ m := by omega
  have b2 : 0 ≤ (n : Int) + 1 := by omega
  have b3 : (n : Int) < m := by omega
  have b4 : n < m := by omega
  have b5 : ¬ m = n + 1 := by omega
  go_enter Tryd.func7, Tryd.ntmps7
  go_wp2_with (first
    | (go_at_call 15; refine (live_any _ HK.out).mono ?_; rintro e w1 ⟨rfl, hb1⟩; have hz1 := hb1.size; have HX1 := Lib.hid (HX.out.below hb1))
    | (go_at_call 16; refine (pad_any A n c xs _ HN.out (by omega) HX1.out).mono ?_; rintro e w2 ⟨he, hp2, hb2, hl2⟩; rw [HN.out, ← HM.out] at he; subst he; have HP2 := Lib.hid hp2; have HX2 := Lib.hid (HX1.out.below hb2); have HT := Lib.hid (hp2.whole hl2); have hc0 := hp2.1 n (by rw [padded_len, HN.out, ← HM.out]; exact b4); have hmid := padded_mid xs; rw [HN.out] at hmid; rw [hmid] at hc0; clear hp2 hmid)
    | (go_at_call 17; go_must (refine (same_true _ _ _ _ _ _ ((padded xs).take xs.length) xs _ (padded_take xs) (by rw [padded_take]; exact HN.out) HN.out (HT.out.take _) HX2.out (by rw [padded_take]; exact hby)).mono ?_; rintro e w3 ⟨rfl, rfl⟩)))
  go_wp2_with fail
  clear hm0 hm1 hm2 x1 x2 hc0
  have HB2 := Lib.hid (hb1.trans (hb2.mono hz1))
  go_loopw [4, 57] (fun a i wr => ∃ k : Nat, k ≤ m - (n + 1) ∧ i = .int .i64 k ∧ a = .int .i64 (rest (8 * n) (m - (n + 1) - k) : Nat) ∧ wr = w2) (fun a i _ => m - (intOf i).toNat)
  case atStart => exact ⟨0, Nat.zero_le _, rfl, by rw [Nat.sub_zero, rest_none _ _ (by omega) (by omega)]; rfl, rfl⟩
  case round =>
    obtain ⟨k, hk, rfl, rfl, rfl⟩ := hrel
    by_cases hlt : k < m - (n + 1)
    · have r0 : (k : Int) < ((m - (n + 1) : Nat) : Int) := by omega
      have hcell := HP2.out.1 (n + 1 + k) (by rw [padded_len, HN.out, ← HM.out]; omega)
      have y1 : IntKind.i64.wrap ((k : Int) + 1) = (k : Int) + 1 := IntWalk.i64_in _ (by omega)
      have y2 : IntKind.i64.wrap ((m : Int) - n) = (m : Int) - n := IntWalk.i64_in _ (by omega)
      have y3 : IntKind.i64.wrap ((m : Int) - n - 9) = (m : Int) - n - 9 := IntWalk.i64_in _ (by omega)
      by_cases hz : k + 9 + n < m
      · have r2 : (k : Int) < (m : Int) - n - 9 := by omega
        have hv := padded_nought xs k (by rw [HN.out, ← HM.out]; exact hz)
        rw [HN.out] at hv
        rw [hv] at hcell
        clear hv
        go_wp2_with fail
        exact ⟨⟨k + 1, by omega, by congr 1, by rw [rest_none _ _ (by omega) (by omega), rest_none _ _ (by omega) (by omega)], trivial⟩, by show m - ((k : Int) + 1).toNat < m - (k : Int).toNat; omega⟩
      · have r2 : ¬ (k : Int) < (m : Int) - n - 9 := by omega
        have hv := padded_tail xs (n + 1 + k) (by rw [HN.out, ← HM.out]; omega) (by rw [HN.out, ← HM.out]; omega)
        rw [HN.out, ← HM.out, show m - 1 - (n + 1 + k) = m - (n + 1) - (k + 1) by omega] at hv
        have hs := rest_step (8 * n) (m - (n + 1) - (k + 1))
        rw [show m - (n + 1) - (k + 1) + 1 = m - (n + 1) - k by omega] at hs
        have hle := rest_le (8 * n) (m - (n + 1) - (k + 1))
        change (padded xs).getD (n + 1 + k) 0 = ((rest (8 * n) (m - (n + 1) - (k + 1)) % 256 : Nat) : Int) at hv
        obtain ⟨a, ha⟩ : ∃ a, a = rest (8 * n) (m - (n + 1) - k) := ⟨_, rfl⟩
        obtain ⟨b, hb⟩ : ∃ b, b = rest (8 * n) (m - (n + 1) - (k + 1)) := ⟨_, rfl⟩
        obtain ⟨d, hd⟩ : ∃ d, d = b % 256 := ⟨_, rfl⟩
        rw [← ha, ← hb, ← hd] at hs
        rw [← hb, ← hd] at hv
        rw [← hb] at hle
        rw [hv] at hcell
        rw [← ha]
        have HBQ := Lib.hid hb
        clear ha hb hv
        have hle8 : b ≤ 8000 := Nat.le_trans hle (by omega)
        have Z1 := Lib.hid (acc_one a b d hs hle8)
        have Z0 := Lib.hid (acc_d a b d hs hle8)
        have Z2 := Lib.hid (acc_two a b d hs hle8)
        clear hs hd hle hle8
        go_wp2_with fail
        refine ⟨⟨k + 1, by omega, by congr 1, ?_, trivial⟩, by show m - ((k : Int) + 1).toNat < m - (k : Int).toNat; omega⟩
        rw [← HBQ.out]
        have e1 := Z1.out
        have e0 := Z0.out
        have e2 := Z2.out
        simp only [e1, e0, e2]
    · have r0 : ¬ (k : Int) < ((m - (n + 1) : Nat) : Int) := by omega
      have y4 : wrap64 (8 * (n : Int)) = 8 * n := IntWalk.wrap64_in (8 * (n : Int)) (by omega)
      have hk0 : m - (n + 1) - k = 0 := by omega
      rw [hk0, rest_zero]
      clear hk0
      go_wp2_with fail
      go_ret
      exact ⟨by simp, HB2.out⟩

theorem shaShape_of {H : Type} {enc : TypeId × Value → H} (W : World) (base : Nat) (args : Array Value) (ds : List (DataW H)) (p : List MemPlace)
    (hval : ∀ (j : Nat) t v, Tryd.f7.params[j]? = some t → args[j]? = some v → Value.okWide Tryd.prog W .any base t v)
    (hA : DataW.TrodAll enc Tryd.prog W 0 (fun _ => true) true Tryd.f7.params.toList args.toList ds p) (hlt : ∀ x ∈ p, x.block < W.heap.size)
    (hz : (DataW.weightsEach Tryd.prog Tryd.f7.params.toList ds).all (· ≤ reachBytes) = true) (hK : Konst W) : Calls Tryd.prog 7 args W (Yes W) := by
  rw [Tryd.params7] at hA hval hz
  obtain ⟨v0, vs0, d0, ds0, p0, q0, hargs, rfl, rfl, h0, r0⟩ := trodAll_cons hA
  obtain ⟨rfl, rfl, rfl⟩ := trodAll_nil r0
  obtain rfl : args = #[v0] := by cases args; simp_all

  obtain ⟨A, n, c, xs, rfl, hn, hr, hb⟩ := open_bytes h0 (hval 0 _ _ rfl rfl)
  exact shaShape_walk A n c xs W hn hr hb hK
end Go.Proofs.YtkclfhkaopimoaaDoor
