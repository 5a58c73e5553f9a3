/- StampCuts: the walk. -/
import Derived.Test.YtmkmndgdakpojaaTk
namespace Go.Proofs.Ytmkmndgdakpojaa
open Go.RowKit Go.ChangeShapes Go.WideShapes Go.ChangeAt
set_option linter.unusedSimpArgs false
set_option linter.unusedVariables false
set_option maxRecDepth 100000

theorem own_max {w : World} {base n c : Nat} {e : TypeId} {A : Option Addr} {vs : List Value} (h : w.ownsRow base e 1 (.slice A n c) n vs) : c ≤ maxLen := by
  rcases h.2 with ⟨h1, h2⟩ | ⟨g, cap, cur, h1, hb, hg, hc, hm, _⟩
  · cases h1; exact Nat.zero_le _
  · cases h1; exact hm
theorem stRow1 (W : World) (t : TypeId) (e1 r1 : Int) (A1 : Option Addr) (n1 c1 : Nat) : StRow (W.alloc (.cells #[.int .u64 e1, .int .u64 r1, .slice A1 n1 c1] t)) W.heap.size [n1] :=
  ⟨by simp, fun k hk => by
    have h3 : k < 1 := hk
    match k, h3 with
    | 0, _ => exact ⟨e1, r1, A1, c1, by simp [go_sem], by simp [go_sem], by simp [go_sem]⟩⟩
theorem stRow2 (W : World) (t : TypeId) (e1 r1 e2 r2 : Int) (A1 A2 : Option Addr) (n1 c1 n2 c2 : Nat) : StRow (W.alloc (.cells #[.int .u64 e1, .int .u64 r1, .slice A1 n1 c1, .int .u64 e2, .int .u64 r2, .slice A2 n2 c2] t)) W.heap.size [n1, n2] :=
  ⟨by simp, fun k hk => by
    have h3 : k < 2 := hk
    match k, h3 with
    | 0, _ => exact ⟨e1, r1, A1, c1, by simp [go_sem], by simp [go_sem], by simp [go_sem]⟩
    | 1, _ => exact ⟨e2, r2, A2, c2, by simp [go_sem], by simp [go_sem], by simp [go_sem]⟩⟩

set_option maxHeartbeats 1000000 in
theorem stampCuts_walk (ep ro : Nat) (A : Option Addr) (n c : Nat) (xs : List Int) (k : Int) (w : World) (hn : xs.length = n) (hx : Rd w A (nums .i64 xs)) (hep : ep < 18446744073709551616) (hro : ro < 18446744073709551616) :
    Calls Try.prog 4 #[.agg #[.int .u64 ep, .int .u64 ro, .slice A n c], .int .i64 k] w (Yes w) := by
  have HX := Lib.hid hx
  have HBOX := Lib.hid (stBox_new w ep ro (.slice A n c) 27)
  by_cases hg : goodSt xs
  · have CP := fun (W : World) h0 => stPut_any ep ro A n c xs W hn h0 hg hep hro
    have hs8 : decide (∀ x ∈ [n], x ≤ 60) = true := by have := hg.2.1; simp; omega
    have HS := Lib.hid hs8
    have h8 : n ≤ 8 := by rw [← hn]; exact hg.2.1
    have hl := stB_len ep ro xs
    rw [hn] at hl
    have hbt : Byt (stB ep ro xs) := stB_byt hg
    have hcut : ∀ K, K < 17 + n → ¬ stOk ((stB ep ro xs).take K) := fun K hK => stB_cut (by rw [hl]; exact hK)
    have CT := fun (K B c' : Nat) (W : World) (hK : K < 17 + n) (hc : 17 + n ≤ c') (hm : c' ≤ maxLen) h0 => tk_no (A := some ⟨B, 0, none⟩) (n := K) (c := c') (xs := (stB ep ro xs).take K) W (by rw [List.length_take, hl]; omega) (by omega) hm h0 (fun x hx => hbt x (List.mem_of_mem_take hx)) (hcut K hK)
    have CS := fun A B c d (W : World) h0 h1 => rsame_refl 0 0 A B 0 c d [] W rfl (by unfold maxLen; omega) h0 h1
    obtain ⟨st, hst⟩ : ∃ st, st = stB ep ro xs := ⟨_, rfl⟩
    rw [← hst] at CP hl CT
    have HL := Lib.hid hl
    clear hx hn hg hs8 hl hbt hcut hst
    by_cases k0 : k < 0
    rotate_left
    by_cases k1 : 17 + (n : Int) ≤ k
    rotate_left
    · obtain ⟨K, rfl⟩ := Int.eq_ofNat_of_zero_le (show 0 ≤ k by omega)
      have hK : K < 17 + n := by omega
      go_enter Try.func4, Try.ntmps4
      go_wp2_with (first
        | (go_at_call 9; refine (live4_any _).mono ?_; rintro e w1 ⟨rfl, hb1⟩; have HX := Lib.hid ((HX.out.below (bal brf _)).below hb1); have HBOX := Lib.hid (HBOX.out.below hb1); obtain ⟨s1, k10, k11, k12⟩ := HBOX.out; have HBX := bgo (bal brf _) hb1)
        | (go_at_call 13; refine (CP _ HX.out).mono ?_; rintro e w2 ⟨B, c2, he, hc2, hown2, hb2⟩; rw [HL.out] at he hc2 hown2; subst he; have HBOX := Lib.hid (HBOX.out.below hb2); obtain ⟨s2, k20, k21, k22⟩ := HBOX.out; have HBX := bgo HBX hb2; have HM := Lib.hid (own_max hown2); have HR2 := Lib.hid (Rd.of_own hown2); clear hown2)
        | (go_at_call 14; refine (short_any _ 1 _ [n] _ rfl (stRow1 _ _ _ _ _ _ _) (by omega)).mono ?_; rintro e w3 ⟨he, hb3⟩; rw [HS.out] at he; subst he; have HBX := bgo (bal HBX _) hb3; have HR2 := Lib.hid ((HR2.out.below (bal brf _)).below hb3))
        | (go_at_call 10; refine (CT K B c2 _ hK hc2 HM.out (HR2.out.take K)).mono ?_; rintro e w4 ⟨rfl, hb4⟩; have HBX := bgo HBX hb4)
        | (go_at_call 12; refine (CS _ _ _ _ _ (.inl rfl) (.inl rfl)).mono ?_; rintro e w5 ⟨rfl, hb5⟩; have HBX := bgo (bal HBX _) hb5))
      go_ret
      exact ⟨by simp, HBX⟩
    all_goals
      go_enter Try.func4, Try.ntmps4
      go_wp2_with (first
        | (go_at_call 9; refine (live4_any _).mono ?_; rintro e w1 ⟨rfl, hb1⟩; have HX := Lib.hid ((HX.out.below (bal brf _)).below hb1); have HBOX := Lib.hid (HBOX.out.below hb1); obtain ⟨s1, k10, k11, k12⟩ := HBOX.out; have HBX := bgo (bal brf _) hb1)
        | (go_at_call 13; refine (CP _ HX.out).mono ?_; rintro e w2 ⟨B, c2, he, hc2, hown2, hb2⟩; rw [HL.out] at he hc2 hown2; subst he; have HBOX := Lib.hid (HBOX.out.below hb2); obtain ⟨s2, k20, k21, k22⟩ := HBOX.out; have HBX := bgo HBX hb2; clear hown2)
        | (go_at_call 14; refine (short_any _ 1 _ [n] _ rfl (stRow1 _ _ _ _ _ _ _) (by omega)).mono ?_; rintro e w3 ⟨he, hb3⟩; rw [HS.out] at he; subst he; have HBX := bgo (bal HBX _) hb3))
      go_ret
      exact ⟨rfl, HBX⟩
  · have CP := fun (W : World) h0 => stPut_bad ep ro A n c xs W hn h0 hg
    clear hx hn hg
    by_cases h60 : n ≤ 60
    all_goals
      go_enter Try.func4, Try.ntmps4
      go_wp2_with (first
        | (go_at_call 9; refine (live4_any _).mono ?_; rintro e w1 ⟨rfl, hb1⟩; have HX := Lib.hid ((HX.out.below (bal brf _)).below hb1); have HBOX := Lib.hid (HBOX.out.below hb1); obtain ⟨s1, k10, k11, k12⟩ := HBOX.out; have HBX := bgo (bal brf _) hb1)
        | (go_at_call 13; refine (CP _ HX.out).mono ?_; rintro e w2 ⟨rfl, hb2⟩; have HBOX := Lib.hid (HBOX.out.below hb2); obtain ⟨s2, k20, k21, k22⟩ := HBOX.out; have HBX := bgo HBX hb2)
        | (go_at_call 14; refine (short_any _ 1 _ [n] _ rfl (stRow1 _ _ _ _ _ _ _) (by omega)).mono ?_; rintro e w3 ⟨he, hb3⟩; (first | (rw [decide_eq_true (show ∀ x ∈ [n], x ≤ 60 by simp; omega)] at he; subst he) | (rw [decide_eq_false (show ¬ ∀ x ∈ [n], x ≤ 60 by simp; omega)] at he; subst he)); have HBX := bgo (bal HBX _) hb3))
      go_ret
      exact ⟨by simp, HBX⟩

open Go.Joins Go.Deep in
theorem stampCuts_of {H : Type} {enc : TypeId × Value → H} (W : World) (base : Nat) (args : Array Value) (ds : List (DataW H)) (p : List MemPlace)
    (hval : ∀ (j : Nat) t v, Try.f4.params[j]? = some t → args[j]? = some v → Value.okWide Try.prog W .any base t v)
    (hA : DataW.TrodAll enc Try.prog W 0 (fun _ => true) true Try.f4.params.toList args.toList ds p) (hlt : ∀ x ∈ p, x.block < W.heap.size)
    (hz : (DataW.weightsEach Try.prog Try.f4.params.toList ds).all (· ≤ reachBytes) = true) : Calls Try.prog 4 args W (Yes W) := by
  rw [Try.params4] at hA hval hz
  obtain ⟨v0, vs0, d0, ds0, p0, q0, hargs, rfl, rfl, h0, r0⟩ := trodAll_cons hA
  obtain ⟨v1, vs1, d1, ds1, p1, q1, rfl, rfl, rfl, h1, r1⟩ := trodAll_cons r0
  obtain ⟨rfl, rfl, rfl⟩ := trodAll_nil r1
  obtain rfl : args = #[v0, v1] := by cases args; simp_all
  obtain ⟨ep, ro, A, n, c, xs, rfl, g1, g2, g3, g4, g5, g6, g7⟩ := open_stamp (hval 0 _ _ rfl rfl) h0
  obtain ⟨k, rfl⟩ := okWide_int Try.underlying3 (hval 1 _ _ rfl rfl)
  exact stampCuts_walk ep ro A n c xs k W g3 g4 g5 g6
end Go.Proofs.Ytmkmndgdakpojaa
