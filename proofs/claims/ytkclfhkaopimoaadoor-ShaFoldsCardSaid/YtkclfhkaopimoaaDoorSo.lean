/- The law of folding. -/
import Derived.Test.YtkclfhkaopimoaaDoorMore
import Derived.Deep.DeepMust
import Derived.Deep.DeepCutAuto
namespace Go.Proofs.YtkclfhkaopimoaaDoor
open Go.RowKit Go.ChangeShapes Go.WideShapes Go.ChangeAt
set_option linter.unusedSimpArgs false
set_option linter.unusedVariables false

theorem Brow.rd0 {w : World} {B k : Nat} {l : List Int} (h : Brow w B l) (hB : B < w.heap.size) (hk : 64 * k + 64 ≤ l.length) : Rd w (some ⟨B, 64 * k, none⟩) (nums .u8 (chunk l k)) := h.rd hB hk

set_option maxRecDepth 100000 in
set_option maxHeartbeats 2000000 in
theorem shaFolds_walk (A : Option Addr) (n c : Nat) (xs : List Int) (w : World) (hn : xs.length = n) (hx : Rd w A (nums .u8 xs)) (hby : Byt xs) (hK : Konst w) :
    Calls Tryd.prog 6 #[.slice A n c] w (Yes w) := by
  have hw0 : 0 < w.heap.size := cell_lt (hK 0 (by omega))
  have HN := Lib.hid hn
  have HX := Lib.hid hx
  have HK := Lib.hid hK
  clear hn hx hK
  by_cases hbig : 1000 < n
  · have r1 : (1000 : Int) < n := by omega
    go_enter Tryd.func6, Tryd.ntmps6
    go_wp2_with (go_at_call 15; refine (live_any _ HK.out).mono ?_; rintro e w1 ⟨rfl, hb1⟩)
    go_ret
    exact ⟨rfl, hb1⟩
  have r1 : ¬ (1000 : Int) < n := by omega
  have hpl : (padded xs).length = 64 * many n := by rw [padded_len, padLen_many, HN.out]
  have q2 : many n ≤ 17 := by unfold many padLen; omega
  obtain ⟨m, hm⟩ : ∃ m, m = padLen xs.length := ⟨_, rfl⟩
  have hle0 : 64 * many n ≤ m := by rw [hm, ← padded_len]; omega
  have hle1 : m ≤ 64 * many n := by rw [hm, ← padded_len]; omega
  have hm0 : (m : Int) % 64 = 0 := by omega
  have hm1 : ¬ (1100 : Int) < m := by omega
  have HM := Lib.hid hm
  have HPL := Lib.hid hpl
  clear hm hpl
  go_enter Tryd.func6, Tryd.ntmps6
  go_wp2_with (first
    | (go_at_call 15; refine (live_any _ HK.out).mono ?_; rintro e w1 ⟨rfl, hb1⟩; have hz1 := hb1.size; have HX1 := Lib.hid (HX.out.below hb1))
    | (go_at_call 16; refine (pad_any A n c xs _ HN.out (by omega) HX1.out).mono ?_; rintro e w2 ⟨he, hp2, hb2, hl2⟩; rw [← HM.out] at he; subst he; have HP2 := Lib.hid hp2; clear hp2)
    | (go_at_call 19; refine (start_any _).mono ?_; rintro e w3 ⟨he, hb3⟩; rw [h0a] at he; subst he))
  have z2 := hb2.size
  have z3 := hb3.size
  have hB3 : Below w1.heap.size w1 w3 := hb2.trans (hb3.mono (by omega))
  have HP3 := Lib.hid (HP2.out.below hb3 hl2)
  have HX3 := Lib.hid (HX1.out.below hB3)
  have hBw : Below w.heap.size w w3 := hb1.trans (hB3.mono (by omega))
  have HK3 := Lib.hid (HK.out.below hBw hw0)
  have hl3 : w1.heap.size < w3.heap.size := by omega
  clear hb2 hb3
  go_wp2_with fail
  clear hm0
  go_loopw [5, 6, 7] (fun i _ _ wr => ∃ k : Nat, k ≤ many n ∧ i = .int .i64 (64 * k) ∧ Arr wr w3.heap.size (foldB (padded xs) (upto k)) ∧ w3.heap.size < wr.heap.size ∧ Below w3.heap.size w3 wr) (fun i _ _ _ => m - (intOf i).toNat)
  case atStart =>
    refine ⟨0, Nat.zero_le _, rfl, ⟨fun j hj => ?_, fun j => by simp [go_sem]⟩, by simp, bal brf _⟩
    rw [World.cell?_alloc_at _ _ _ _ rfl]
    match j, hj with
    | 0, _ | 1, _ | 2, _ | 3, _ | 4, _ | 5, _ | 6, _ | 7, _ => rfl
  case round =>
    obtain ⟨k, hk, rfl, hA, hl, hB⟩ := hrel
    by_cases hlt : k < many n
    · have hle : 64 * k + 64 ≤ m := by omega
      have hlt1 : 64 * (k : Int) < m := by omega
      obtain ⟨v0, v1, v2, v3, v4, v5, v6, v7, hv⟩ := len8 (foldB_len (padded xs) (upto k))
      rw [hv] at hA
      obtain ⟨c0, c1, c2, c3, c4, c5, c6, c7, f0⟩ := hA.eight
      obtain ⟨g0, g1, g2, g3, g4, g5, g6, g7⟩ := f0
      have HA := Lib.hid hA
      have HV := Lib.hid hv
      clear hA hv
      have hkl : 64 * k + 64 ≤ (padded xs).length := by rw [padded_len, ← HM.out]; exact hle
      obtain ⟨u0, u1, u2, u3, u4, u5, u6, u7, hu⟩ := len8 (blk_len (l := [v0, v1, v2, v3, v4, v5, v6, v7]) rfl (chunk (padded xs) k))
      have HU := Lib.hid hu
      have HK2 := Lib.hid hkl
      clear hu hkl
      have HRD := Lib.hid ((HP3.out.below hB hl3).rd (k := k) (by have := hB.size; omega) HK2.out)
      have HCL := Lib.hid (chunk_len HK2.out)
      have HKW := Lib.hid (HK3.out.below hB (by omega))
      have x1 : IntKind.i64.wrap (64 * (k : Int) + 64) = 64 * (k : Int) + 64 := IntWalk.i64_in _ (by omega)
      have x2 : (64 * (k : Int) + 64).toNat = 64 * k + 64 := by omega
      have x3 : (64 * (k : Int)).toNat = 64 * k := by omega
      have b0 : 0 ≤ 64 * (k : Int) := by omega
      have b1 : 64 * (k : Int) ≤ 64 * (k : Int) + 64 := by omega
      have b2 : 64 * (k : Int) + 64 ≤ (m : Int) := by omega
      have b3 : 0 ≤ 64 * (k : Int) + 64 := by omega
      have x4 : 64 * k + 64 - 64 * k = 64 := by omega
      have x5 : ¬ m = 64 * k := by omega
      have C := fun (W : World) (cc : Nat) (hW : Below wr.heap.size wr W) => (block_any (some ⟨w1.heap.size, 64 * k, none⟩) cc v0 v1 v2 v3 v4 v5 v6 v7 (chunk (padded xs) k) W HCL.out (HRD.out.below hW) (HKW.out.below hW (by omega)))
      rw [HU.out] at C
      go_wp2_with fail
      go_cut [6, 7] (fun a b wx => ∃ B6, a = .pointer (some ⟨B6, 0, none⟩) ∧ b = .int .i64 0 ∧ B6 ≠ w3.heap.size ∧ Arr wx B6 [u0, u1, u2, u3, u4, u5, u6, u7] ∧ Arr wx w3.heap.size [v0, v1, v2, v3, v4, v5, v6, v7] ∧ w3.heap.size < wx.heap.size ∧ Below w3.heap.size w3 wx)
      case first =>
        go_region_with (go_at_call 21; go_must (refine (C _ _ (by first | exact bdr brf | exact bdr (bal brf _))).mono ?_; rintro e w4 ⟨he, hb4⟩; simp only [List.map_cons, List.map_nil] at he; subst he); clear c0 c1 c2 c3 c4 c5 c6 c7 g0 g1 g2 g3 g4 g5 g6 g7; first | (obtain ⟨d0, d1, d2, d3, d4, d5, d6, d7, f1⟩ := ((arr_new wr 0 0 0 0 0 0 0 0).drew.below hb4 (by simp)).eight; obtain ⟨k0, k1, k2, k3, k4, k5, k6, k7⟩ := f1) | skip)
        all_goals (go_simp; go_step; go_meet)
        all_goals clear x1 x2 x3 x4 x5 b0 b1 b2 b3
        all_goals
          have z4 := hb4.size
          simp only [World.size_drew, World.size_alloc] at z4
          first
          | (have hz : wr.heap.size < w4.heap.size := by omega
             have key : ∀ w5, w5 = w4.setCells wr.heap.size 0 ([u0, u1, u2, u3, u4, u5, u6, u7].map (Value.int .u32)) → (Arr w5 wr.heap.size [u0, u1, u2, u3, u4, u5, u6, u7] ∧ Arr w5 w3.heap.size [v0, v1, v2, v3, v4, v5, v6, v7] ∧ w3.heap.size < w5.heap.size ∧ Below w3.heap.size w3 w5) := by
               intro w5 h5
               have z5 : w5.heap.size = w4.heap.size := by rw [h5, size_cells]
               have hbb : Below wr.heap.size wr w5 := by rw [h5]; exact below_cells (Nat.le_refl _) _ _ (bgo (bdr (bal (brf (w := wr)) _)) hb4)
               refine ⟨?_, HA.out.below hbb hl, by omega, hB.trans (hbb.mono (by omega))⟩
               rw [h5]
               exact ((arr_new wr 0 0 0 0 0 0 0 0).drew.below hb4 (by simp)).stored rfl
             exact ⟨wr.heap.size, rfl, rfl, by omega, key _ rfl⟩)
          | (have hbb : ∀ o, Below wr.heap.size wr (w4.alloc o) := fun o => bal (bgo (bdr (brf (w := wr))) hb4) o
             exact ⟨w4.heap.size, rfl, rfl, by omega, arr_new w4 u0 u1 u2 u3 u4 u5 u6 u7, HA.out.below (hbb _) hl, by simp only [World.size_alloc]; omega, hB.trans ((hbb _).mono (by omega))⟩)
      case rest =>
        obtain ⟨B6, rfl, rfl, hne, ha6, ha4, hl5, hb5⟩ := hcut
        obtain ⟨c0, c1, c2, c3, c4, c5, c6, c7, f0⟩ := ha4.eight
        obtain ⟨g0, g1, g2, g3, g4, g5, g6, g7⟩ := f0
        obtain ⟨d0, d1, d2, d3, d4, d5, d6, d7, f1⟩ := ha6.eight
        have HA4 := Lib.hid ha4
        clear ha6 ha4 f1
        go_wp2_with fail
        have key : ∀ w5, w5 = wc.setCells w3.heap.size 0 ([u0, u1, u2, u3, u4, u5, u6, u7].map (Value.int .u32)) → (Arr w5 w3.heap.size (foldB (padded xs) (upto (k + 1))) ∧ w3.heap.size < w5.heap.size ∧ Below w3.heap.size w3 w5) := by
          intro w5 h5
          have z5 : w5.heap.size = wc.heap.size := by rw [h5, size_cells]
          refine ⟨?_, by omega, ?_⟩
          · rw [h5, upto_succ, foldB_snoc, HV.out, HU.out]
            exact HA4.out.stored rfl
          · rw [h5]
            exact below_cells (Nat.le_refl _) _ _ hb5
        exact ⟨⟨k + 1, by omega, by congr 1, key _ rfl⟩, by show m - (64 * (k : Int) + 64).toNat < m - (64 * (k : Int)).toNat; omega⟩
    · have hkq : k = many n := by omega
      have hge : (m : Int) ≤ 64 * (k : Int) := by omega
      have HKQ := Lib.hid hkq
      obtain ⟨v0, v1, v2, v3, v4, v5, v6, v7, hv⟩ := len8 (foldB_len (padded xs) (upto k))
      rw [hv] at hA
      obtain ⟨c0, c1, c2, c3, c4, c5, c6, c7, f0⟩ := hA.eight
      have hw := foldB_words (padded xs) (upto k)
      rw [hv] at hw
      have e : sumL xs = bytesL [v0, v1, v2, v3, v4, v5, v6, v7] := by
        rw [sumL, hashL, HN.out, ← hkq, hv]
      have E := Lib.hid e
      have HA := Lib.hid hA
      have HW := Lib.hid hw
      have HBw := hBw.trans (hB.mono (by omega))
      have CS := fun (W : World) (hW : Below wr.heap.size wr W) => sum_any A n c xs W HN.out (by omega) ((HX3.out.below hB).below hW) ((HK.out.below HBw hw0).below hW (by omega))
      have CB := fun (W : World) => rbytes_any v0 v1 v2 v3 v4 v5 v6 v7 W HW.out
      have HB := bdr (brf (w := wr))
      clear hA hv hw hkq f0 e
      go_wp2_with fail
      go_region_with (first
        | (go_at_call 23; (refine (CS _ HB).mono ?_; rintro e w6 ⟨BS, cS, rfl, hcS, hlS, RS, hb6⟩; have HB := bgo HB hb6; (try have RB := RB.below hb6); clear c0 c1 c2 c3 c4 c5 c6 c7; obtain ⟨c0, c1, c2, c3, c4, c5, c6, c7, f0⟩ := (HA.out.below HB hl).eight))
        | (go_at_call 25; (refine (CB _).mono ?_; rintro e w7 ⟨BR, cR, rfl, hcR, hlR, RB, hb7⟩; have HB := bgo HB hb7; (try have RS := RS.below hb7)))
        | (go_at_call 17; go_must (refine (same_true _ _ _ _ _ _ (sumL xs) (bytesL [v0, v1, v2, v3, v4, v5, v6, v7]) _ E.out rfl rfl RS RB (sumL_byt _)).mono ?_; rintro e w8 ⟨rfl, rfl⟩)))
      all_goals go_wp2_with fail
      all_goals go_ret
      all_goals exact ⟨rfl, HBw.trans (HB.mono (by have := hB.size; have := HBw.size; omega))⟩

theorem shaFolds_of {H : Type} {enc : TypeId × Value → H} (W : World) (base : Nat) (args : Array Value) (ds : List (DataW H)) (p : List MemPlace)
    (hval : ∀ (j : Nat) t v, Tryd.f6.params[j]? = some t → args[j]? = some v → Value.okWide Tryd.prog W .any base t v)
    (hA : DataW.TrodAll enc Tryd.prog W 0 (fun _ => true) true Tryd.f6.params.toList args.toList ds p) (hlt : ∀ x ∈ p, x.block < W.heap.size)
    (hz : (DataW.weightsEach Tryd.prog Tryd.f6.params.toList ds).all (· ≤ reachBytes) = true) (hK : Konst W) : Calls Tryd.prog 6 args W (Yes W) := by
  rw [Tryd.params6] at hA hval hz
  obtain ⟨v0, vs0, d0, ds0, p0, q0, hargs, rfl, rfl, h0, r0⟩ := trodAll_cons hA
  obtain ⟨rfl, rfl, rfl⟩ := trodAll_nil r0
  obtain rfl : args = #[v0] := by cases args; simp_all

  obtain ⟨A, n, c, xs, rfl, hn, hr, hb⟩ := open_bytes h0 (hval 0 _ _ rfl rfl)
  exact shaFolds_walk A n c xs W hn hr hb hK
end Go.Proofs.YtkclfhkaopimoaaDoor
