/- The reference's hash. -/
import Derived.Test.YtmkmndgdakpojaaDoorSj
import Derived.Deep.RegionWith
namespace Go.Proofs.YtmkmndgdakpojaaDoor
open Go.RowKit
set_option linter.unusedSimpArgs false
set_option linter.unusedVariables false
set_option maxRecDepth 100000

theorem Rd.chunk {w : World} {B k : Nat} {l : List Int} (h : Rd w (some ⟨B, 0, none⟩) (nums .u8 l)) (hk : 64 * k + 64 ≤ l.length) : Rd w (some ⟨B, 64 * k, none⟩) (nums .u8 (chunk l k)) := by
  obtain ⟨b, off, he, hlt, hc⟩ := h.at_ (by simp; omega)
  cases he
  refine .inr ⟨B, 64 * k, rfl, hlt, fun i v hv => ?_⟩
  have hi : i < 64 := by
    have := (List.getElem?_eq_some_iff.1 hv).1
    simp [Go.Proofs.YtmkmndgdakpojaaDoor.chunk] at this
    omega
  have := hc (64 * k + i) v (by
    rw [← hv]
    simp [nums, Go.Proofs.YtmkmndgdakpojaaDoor.chunk, List.getElem?_take, hi, List.getElem?_drop])
  rwa [Nat.zero_add] at this

set_option maxHeartbeats 2000000 in
set_option maxRecDepth 100000 in
theorem rsumO_any (A : Option Addr) (n c : Nat) (xs : List Int) (w : World) (hn : xs.length = n) (hb : n ≤ 4000) (hx : Rd w A (nums .u8 xs)) :
    Calls Tryd.prog 47 #[.slice A n c] w (IsBytesO w (sumL xs)) := by
  have hpl : (padded xs).length = 64 * many n := by rw [padded_len, padLen_many, hn]
  have q2 : many n ≤ 1000 := by unfold many padLen; omega
  have HX := Lib.hid hx
  have HN := Lib.hid hn
  clear hx hn
  obtain ⟨m, hm⟩ : ∃ m, m = (padded xs).length := ⟨_, rfl⟩
  have hle0 : 64 * many n ≤ m := by omega
  have hle1 : m ≤ 64 * many n := by omega
  have HM := Lib.hid hm
  clear hm hpl
  go_enter Tryd.func47, Tryd.ntmps47
  go_wp2_with (first
    | (go_at_call 55; refine (rpad_any A n c xs _ HN.out hb HX.out).mono ?_; rintro e w1 ⟨B, cp, rfl, hcp, hlB, hrd, hb1⟩; rw [← HM.out] at hcp ⊢)
    | (go_at_call 56; refine (rstart_any _).mono ?_; rintro e w2 ⟨he, hb2⟩; rw [h0a] at he; subst he))
  have hRd2 : Rd w2 (some ⟨B, 0, none⟩) (nums .u8 (padded xs)) := hrd.below hb2
  have hz2 := hb2.size
  have hz1 := hb1.size
  have hB2 : Below w.heap.size w w2 := hb1.trans (hb2.mono hz1)
  have HR := Lib.hid hRd2
  clear hrd hb1 hb2 hRd2
  go_loopw [5] (fun i wr => ∃ k : Nat, k ≤ many n ∧ i = .int .i64 (64 * k) ∧ Arr wr w2.heap.size (foldB (padded xs) (upto k)) ∧ w2.heap.size < wr.heap.size ∧ Below w2.heap.size w2 wr) (fun i _ => m - (intOf i).toNat)
  case atStart =>
    refine ⟨0, Nat.zero_le _, rfl, ⟨fun j hj => ?_, fun j => by simp [go_sem]⟩, by simp, bal brf _⟩
    rw [World.cell?_alloc_at _ _ _ _ rfl]
    match j, hj with
    | 0, _ | 1, _ | 2, _ | 3, _ | 4, _ | 5, _ | 6, _ | 7, _ => rfl
  case round =>
    obtain ⟨k, hk, rfl, hA, hl, hB⟩ := hrel
    by_cases hlt : k < many n
    · have hle : 64 * k + 64 ≤ m := by omega
      have hlt1 : 64 * (k : Int) < m := by omega
      obtain ⟨v0, v1, v2, v3, v4, v5, v6, v7, hv⟩ := len8 (foldB_len (padded xs) (upto k))
      rw [hv] at hA
      obtain ⟨c0, c1, c2, c3, c4, c5, c6, c7, f0⟩ := hA.eight
      obtain ⟨g0, g1, g2, g3, g4, g5, g6, g7⟩ := f0
      have HA := Lib.hid hA
      have HV := Lib.hid hv
      clear hA hv
      go_wp2_with fail
      have hkl : 64 * k + 64 ≤ (padded xs).length := by rw [← HM.out]; exact hle
      obtain ⟨u0, u1, u2, u3, u4, u5, u6, u7, hu⟩ := len8 (blk_len (l := [v0, v1, v2, v3, v4, v5, v6, v7]) rfl (chunk (padded xs) k))
      have HU := Lib.hid hu
      have HK2 := Lib.hid hkl
      clear hu hkl
      have x1 : IntKind.i64.wrap (64 * (k : Int) + 64) = 64 * (k : Int) + 64 := IntWalk.i64_in _ (by omega)
      have x2 : (64 * (k : Int) + 64).toNat = 64 * k + 64 := by omega
      have x3 : (64 * (k : Int)).toNat = 64 * k := by omega
      have b0 : 0 ≤ 64 * (k : Int) := by omega
      have b1 : 64 * (k : Int) ≤ 64 * (k : Int) + 64 := by omega
      have b2 : 64 * (k : Int) + 64 ≤ (cp : Int) := by omega
      have b3 : 0 ≤ 64 * (k : Int) + 64 := by omega
      have x4 : 64 * k + 64 - 64 * k = 64 := by omega
      have HRD := Lib.hid ((HR.out.below (hB.drew)).chunk HK2.out)
      have HCL := Lib.hid (chunk_len HK2.out)
      go_region_with (go_at_call 57; refine (rblock_any _ _ v0 v1 v2 v3 v4 v5 v6 v7 (chunk (padded xs) k) _ ?hcl ?hrd).mono ?_; exact HCL.out; exact HRD.out; rintro e w4 ⟨he, hb4⟩; rw [HU.out] at he; simp only [List.map_cons, List.map_nil] at he; subst he; clear c0 c1 c2 c3 c4 c5 c6 c7 g0 g1 g2 g3 g4 g5 g6 g7; obtain ⟨c0, c1, c2, c3, c4, c5, c6, c7, f0⟩ := (HA.out.drew.below hb4 (by simpa using hl)).eight; obtain ⟨g0, g1, g2, g3, g4, g5, g6, g7⟩ := f0)
      all_goals go_wp2_with fail
      all_goals
        clear x1 x2 x3 x4 b0 b1 b2 b3 c0 c1 c2 c3 c4 c5 c6 c7 g0 g1 g2 g3 g4 g5 g6 g7
        have key : ∀ w5, w5 = w4.setCells w2.heap.size 0 ([u0, u1, u2, u3, u4, u5, u6, u7].map (Value.int .u32)) → (Arr w5 w2.heap.size (foldB (padded xs) (upto (k + 1))) ∧ w2.heap.size < w5.heap.size ∧ Below w2.heap.size w2 w5) := by
          intro w5 h5
          have z4 := hb4.size
          have z5 : w5.heap.size = w4.heap.size := by rw [h5, size_cells]
          have zd : wr.drew.heap.size = wr.heap.size := rfl
          refine ⟨?_, by omega, ?_⟩
          · rw [h5, upto_succ, foldB_snoc, HV.out, HU.out]
            exact (HA.out.drew.below hb4 (by simpa using hl)).stored rfl
          · rw [h5]
            exact below_cells (Nat.le_refl _) _ _ (hB.drew.trans (hb4.mono (by omega)))
        exact ⟨⟨k + 1, by omega, by congr 1, key _ rfl⟩, by show m - (64 * (k : Int) + 64).toNat < m - (64 * (k : Int)).toNat; omega⟩
    · have hkq : k = many n := by omega
      have hge : (m : Int) ≤ 64 * (k : Int) := by omega
      have HKQ := Lib.hid hkq
      obtain ⟨v0, v1, v2, v3, v4, v5, v6, v7, hv⟩ := len8 (foldB_len (padded xs) (upto k))
      rw [hv] at hA
      obtain ⟨c0, c1, c2, c3, c4, c5, c6, c7, f0⟩ := hA.eight
      have HV := Lib.hid hv
      have hw := foldB_words (padded xs) (upto k)
      rw [hv] at hw
      have HW := Lib.hid hw
      clear hA hv hw hkq f0
      go_wp2_with (go_at_call 58; refine (rbytesO_any v0 v1 v2 v3 v4 v5 v6 v7 _ HW.out).mono ?_; rintro e w5 ⟨B5, c5, rfl, hown5, hb5⟩)
      go_ret
      have hzz := hB.size
      have e : sumL xs = bytesL [v0, v1, v2, v3, v4, v5, v6, v7] := by
        rw [sumL, hashL, HN.out, ← HKQ.out, HV.out]
      rw [e]
      exact ⟨B5, c5, rfl, own_base hown5 (by omega), hB2.trans ((hB.mono (by omega)).trans (hb5.mono (by omega)))⟩
theorem rsum_any (A : Option Addr) (n c : Nat) (xs : List Int) (w : World) (hn : xs.length = n) (hb : n ≤ 4000) (hx : Rd w A (nums .u8 xs)) :
    Calls Tryd.prog 47 #[.slice A n c] w (IsBytes w (sumL xs)) :=
  (rsumO_any A n c xs w hn hb hx).mono fun e w' h => h.bytes (by rw [sumL_len]; omega)
end Go.Proofs.YtmkmndgdakpojaaDoor
