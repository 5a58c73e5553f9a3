/- The document's stream, and its xor: their contracts. -/
import Derived.Test.YtgclcpopibjocaaDoorMm
import Derived.Test.YtgclcpopibjocaaDoorApart
namespace Go.Proofs.YtgclcpopibjocaaDoor
open Go.RowKit
set_option linter.unusedSimpArgs false
set_option linter.unusedVariables false
set_option maxRecDepth 100000

theorem Rd.takeK {w : World} {A : Option Addr} {k : IntKind} {xs : List Int} (h : Rd w A (nums k xs)) (m : Nat) : Rd w A (nums k (xs.take m)) := by
  rcases h with h | ⟨b, o, hA, hlt, hc⟩
  · left
    have : xs = [] := by simpa using h
    subst this
    simp [nums]
  · refine .inr ⟨b, o, hA, hlt, fun i v hv => hc i v ?_⟩
    rw [nums, List.map_take, List.getElem?_take] at hv
    split at hv
    · exact hv
    · cases hv

theorem own_cap6 {w : World} {base : Nat} {e : TypeId} {n c : Nat} {A : Option Addr} {vs : List Value} (h : w.ownsRow base e 1 (.slice A n c) n vs) : n ≤ c ∧ c ≤ maxLen := by
  rcases h.2 with ⟨h1, h2⟩ | ⟨g, cap, cur, h1, hb, hg, hc⟩
  · cases h1; exact ⟨Nat.le_refl _, Nat.zero_le _⟩
  · simp only [Value.slice.injEq] at h1
    obtain ⟨_, _, rfl⟩ := h1
    exact ⟨hc.1, hc.2.1⟩

theorem rstream_bad (A : Option Addr) (kn c : Nat) (z : Int) (w : World) (h : z < 0 ∨ 1048576 < z) :
    Calls Tryd.prog 80 #[.slice A kn c, .int .i64 z] w fun e w' => e = .returned (.tuple #[.slice none 0 0, .int .i64 1]) ∧ w = w' := by
  by_cases h1 : z < 0
  · go_enter Tryd.func80, Tryd.ntmps80
    go_wp2_with fail
    go_ret2
    exact ⟨rfl, rfl⟩
  · have h2 : 1048576 < z := by omega
    go_enter Tryd.func80, Tryd.ntmps80
    go_wp2_with fail
    go_ret2
    exact ⟨rfl, rfl⟩

/-- A row, and no error. -/
def IsRow2 (w : World) (ys : List Int) (e : Ending) (w' : World) : Prop :=
  ∃ A c, e = .returned (.tuple #[.slice A ys.length c, .int .i64 0]) ∧ ys.length ≤ c ∧ Rd w' A (nums .u8 ys) ∧ Below w.heap.size w w'

set_option maxRecDepth 100000 in
set_option maxHeartbeats 2000000 in
theorem rstream_any (A : Option Addr) (kn c N : Nat) (key : List Int) (w : World) (hkn : key.length = kn) (hk : kn ≤ 3000) (hN : N ≤ 1048576) (hx : Rd w A (nums .u8 key)) :
    Calls Tryd.prog 80 #[.slice A kn c, .int .i64 N] w (IsRow2 w (streamL key N)) := by
  obtain ⟨i0, hi, hz0, hz1, hz2⟩ := info_parts infoByte
  have r0 : ¬ (N : Int) < 0 := by omega
  have r1 : ¬ (1048576 : Int) < N := by omega
  obtain ⟨q, hq⟩ : ∃ q, q = (N + 31) / 32 := ⟨_, rfl⟩
  have hq1 : 32 * q < N + 32 := by omega
  have hq2 : N ≤ 32 * q := by omega
  have HQ := Lib.hid hq
  have HX := Lib.hid hx
  have HKN := Lib.hid hkn
  have hnl : (nums .u8 key).length = kn := by simp [hkn]
  have HNL := Lib.hid hnl
  clear hx hkn hq hnl
  go_enter Tryd.func80, Tryd.ntmps80
  go_wp2_with fail
  go_loopw [6, 7] (fun v i wr => ∃ k : Nat, k ≤ q ∧ i = .int .u64 k ∧ (∃ A c, v = .slice A (32 * k) c) ∧ wr.ownsRow w.heap.size 5 1 v (32 * k) (nums .u8 (flatK key (List.range k))) ∧ Below w.heap.size w wr) (fun _ i _ => q - (intOf i).toNat)
  case atStart => exact ⟨0, Nat.zero_le _, rfl, ⟨_, _, rfl⟩, ⟨rfl, .inl ⟨rfl, rfl⟩⟩, brf⟩
  case round =>
    obtain ⟨k, hkq, rfl, ⟨A6, c6, rfl⟩, hown, hb⟩ := hrel
    have hzz := hb.size
    have k0 : (0 : Int) ≤ k := by omega
    have k1 : (k : Int) ≤ 40000 := by omega
    by_cases hlt : k < q
    · have q1 : (32 : Int) * k < N := by omega
      obtain ⟨wo, hwo⟩ : ∃ wo : World, wo = wr := ⟨_, rfl⟩
      rw [← hwo] at hown hb hzz ⊢
      have HOWN := Lib.hid hown
      have HB := Lib.hid hb
      clear hown hb hwo
      go_wp2_with (at_builtin; refine append_vs rfl _ _ 22 rfl wo.heap.size 5 i0 (.int .u8 0) 1 Tryd.underlying22 hi hz0 hz1 hz2 rfl (.slice none 0 0) 0 [] rfl ⟨rfl, .inl ⟨rfl, rfl⟩⟩ A kn c (nums .u8 key) rfl HNL.out (HX.out.below HB.out) nums_u8_one (by unfold maxLen; omega) (by omega) (Nat.le_refl _) ?_; intro v8 w8 hown8 hgrow8; rw [Nat.zero_add, List.nil_append] at hown8; have hb8 : Below wo.heap.size wo w8 := brf.grown hgrow8 (Nat.le_refl _) (fun k e => by simp [Value.ownBlock] at e); obtain ⟨A8, c8, rfl⟩ := own_slice hown8; clear hgrow8)
      go_loopw [8, 24] (fun v i wq => ∃ j : Nat, j ≤ 8 ∧ i = .int .i64 j ∧ (∃ A c, v = .slice A (kn + j) c) ∧ wq.ownsRow wo.heap.size 5 1 v (kn + j) (nums .u8 (key ++ tail8 k j)) ∧ Below wo.heap.size wo wq) (fun _ i _ => 8 - (intOf i).toNat)
      case atStart => exact ⟨0, Nat.zero_le _, rfl, ⟨_, _, rfl⟩, by simpa [tail8] using hown8, hb8⟩
      case round =>
        obtain ⟨j, hj, rfl, ⟨A9, c9, rfl⟩, hown9, hb9⟩ := hrel
        have hz9 := hb9.size
        have j0 : (0 : Int) ≤ j := by omega
        by_cases hj8 : j < 8
        · have q2 : (j : Int) < 8 := by omega
          have he : ((k : Int) / 2 ^ (56 - 8 * j) % 256) = ((k / 2 ^ (56 - 8 * j) % 256 : Nat) : Int) := by rw [Int.natCast_emod, Int.natCast_ediv, Int.natCast_pow]; rfl
          have HE := Lib.hid he
          clear he
          go_wp2_with (at_builtin; refine append_one rfl _ _ 22 rfl wo.heap.size 5 i0 (.int .u8 0) 1 Tryd.underlying22 hi hz0 hz1 hz2 rfl _ _ _ rfl hown9 _ _ rfl rfl (by unfold maxLen; omega) (by omega) hz9 ?_; intro v7 w7 hown7 hgrow7; obtain ⟨A7, c7, rfl⟩ := own_slice hown7)
          refine ⟨⟨j + 1, by omega, by congr 1, ⟨A7, c7, by congr 1⟩, ?_, keep_below hown9 hgrow7 hb9 hz9 (Nat.le_refl _)⟩, by show 8 - ((j : Int) + 1).toNat < 8 - (j : Int).toNat; omega⟩
          rw [tail8_succ, ← List.append_assoc, nums, List.map_append]
          rw [HE.out] at hown7
          exact hown7
        · have hj8' : j = 8 := by omega
          subst hj8'
          have hown6 := own_below HOWN.out hb9
          have hrd := Rd.of_own hown9
          have hln : (key ++ tail8 k 8).length = kn + 8 := by rw [List.length_append, HKN.out]; simp [tail8]
          have CS := rsum_any A9 (kn + 8) c9 (key ++ tail8 k 8) wr hln (by omega) hrd
          have hflat : flatK key (List.range (k + 1)) = flatK key (List.range k) ++ sumL (key ++ tail8 k 8) := by rw [List.range_succ, flatK_snoc]; rfl
          have HFL := Lib.hid hflat
          have hsl := sumL_len (key ++ tail8 k 8)
          obtain ⟨s, hs⟩ : ∃ s, s = sumL (key ++ tail8 k 8) := ⟨_, rfl⟩
          rw [← hs] at CS hsl hflat
          have hns : (nums .u8 s).length = 32 := by simp [hsl]
          have HNS := Lib.hid hns
          have HSL := Lib.hid hsl
          have HFL := Lib.hid hflat
          clear hown9 hrd hln hflat hsl hs hns
          go_wp2_with (first
            | (go_at_call 69; refine CS.mono ?_; rintro e w10 ⟨B10, c10, rfl, hc10, hl10, hr10, hb10⟩; rw [HSL.out] at hc10 ⊢; have hown10 := own_below hown6 hb10; have hbb := bgo (bgo HB.out hb9) hb10)
            | (at_builtin; refine append_vs rfl _ _ 22 rfl w.heap.size 5 i0 (.int .u8 0) 1 Tryd.underlying22 hi hz0 hz1 hz2 rfl (.slice A6 (32 * k) c6) (32 * k) (nums .u8 (flatK key (List.range k))) rfl hown10 (some ⟨B10, 0, none⟩) 32 c10 (nums .u8 s) rfl HNS.out hr10 nums_u8_one (by unfold maxLen; omega) (by omega) hbb.size ?_; intro v11 w11 hown11 hgrow11; have hb11 : Below w.heap.size w w11 := keep_below0 hown10 hgrow11 hbb hbb.size (Nat.le_refl _); obtain ⟨A11, c11, rfl⟩ := own_slice hown11))
          refine ⟨⟨k + 1, by omega, by congr 1, ⟨A11, c11, by congr 1⟩, ?_, hb11⟩, by show q - ((k : Int) + 1).toNat < q - (k : Int).toNat; omega⟩
          rw [HFL.out, nums, List.map_append]
          exact hown11
    · have hkq2 : q = k := by omega
      subst hkq2
      have q1 : ¬ (32 : Int) * q < N := by omega
      have hcap := own_cap6 hown
      have q3 : (N : Int) ≤ c6 := by omega
      have q4 : (0 : Int) ≤ N := by omega
      have hrd := (Rd.of_own hown).takeK N
      have HR := Lib.hid hrd
      clear hown hrd
      go_wp2_with fail
      go_ret2
      have hst : (flatK key (List.range q)).take N = streamL key N := by rw [HQ.out, streamL]
      have h1 := HR.out
      rw [hst] at h1
      have hres : ∀ (A' : Option Addr) (c' : Nat), N ≤ c' → Rd wr A' (nums .u8 (streamL key N)) → IsRow2 w (streamL key N) (.returned (.tuple #[.slice A' N c', .int .i64 0])) wr := fun A' c' hc h2 => ⟨A', c', by rw [streamL_len], by rw [streamL_len]; exact hc, h2, hb⟩
      exact hres _ _ (by omega) h1
end Go.Proofs.YtgclcpopibjocaaDoor
