/- The law of what stands behind whole blocks. -/
import Derived.Test.YtkclfhkaopimoaaDoorSp
import Derived.Deep.DeepMust
import Derived.Deep.DeepCutAuto
import Derived.Deep.RegionWith
namespace Go.Proofs.YtkclfhkaopimoaaDoor
open Go.RowKit Go.ChangeShapes Go.WideShapes Go.ChangeAt
set_option linter.unusedSimpArgs false
set_option linter.unusedVariables false

theorem put8 {w W : World} {B b : Nat} {l us : List Int} (hA : Arr w B l) (hl : us.length = l.length) (hB : B < w.heap.size) (hb : Below b W w) (hbB : b ≤ B) : ∀ w5, w5 = w.setCells B 0 (us.map (Value.int .u32)) → Arr w5 B us ∧ B < w5.heap.size ∧ Below b W w5 := by
  intro w5 h5
  have z5 : w5.heap.size = w.heap.size := by rw [h5, size_cells]
  refine ⟨?_, by omega, ?_⟩
  · rw [h5]; exact hA.stored hl
  · rw [h5]; exact below_cells hbB _ _ hb
theorem new8 {w W : World} {b : Nat} (u0 u1 u2 u3 u4 u5 u6 u7 : Int) (hb : Below b W w) (hw : b ≤ w.heap.size) : ∀ w5, w5 = w.alloc (.cells #[.int .u32 u0, .int .u32 u1, .int .u32 u2, .int .u32 u3, .int .u32 u4, .int .u32 u5, .int .u32 u6, .int .u32 u7] 27) → Arr w5 w.heap.size [u0, u1, u2, u3, u4, u5, u6, u7] ∧ w.heap.size < w5.heap.size ∧ Below b W w5 := by
  rintro w5 rfl
  exact ⟨arr_new _ _ _ _ _ _ _ _ _, by simp, hb.alloc hw _⟩

/-- Bytes in a new block. -/
theorem rd_new (w : World) (l : List Int) (t : TypeId) : Rd (w.alloc (.cells (nums .u8 l).toArray t)) (some ⟨w.heap.size, 0, none⟩) (nums .u8 l) := by
  refine .inr ⟨_, _, rfl, by simp, fun i v hv => ?_⟩
  rw [World.cell?_alloc_at _ _ _ _ rfl]
  simpa using hv

set_option maxRecDepth 100000 in
set_option maxHeartbeats 2000000 in
theorem shaAhead_walk (ys : List Int) (A : Option Addr) (n c : Nat) (xs : List Int) (w : World) (ha : ys.length = 64) (hn : xs.length = n) (hx : Rd w A (nums .u8 xs)) (hba : Byt ys) (hby : Byt xs) (hK : Konst w) :
    Calls Tryd.prog 8 #[.agg (nums .u8 ys).toArray, .slice A n c] w (Yes w) := by
  have hw0 : 0 < w.heap.size := cell_lt (hK 0 (by omega))
  have HA := Lib.hid ha
  have HN := Lib.hid hn
  have HX := Lib.hid hx
  have HK := Lib.hid hK
  clear hn hx hK ha
  have HR0 := Lib.hid (rd_new w ys 35)
  obtain ⟨cs, hcs⟩ : ∃ cs, cs = (nums .u8 ys).toArray := ⟨_, rfl⟩
  have hsz : cs.size = 64 := by rw [hcs]; simp [HA.out]
  have HCS := Lib.hid hcs
  rw [← hcs] at HR0 ⊢
  clear hcs
  by_cases hbig : 800 < n
  · have r1 : (800 : Int) < n := by omega
    go_enter Tryd.func8, Tryd.ntmps8
    go_wp2_with (go_at_call 15; refine (live_any _ (HK.out.below (bal brf _) hw0)).mono ?_; rintro e w1 ⟨rfl, hb1⟩)
    go_ret
    exact ⟨rfl, bgo (bal brf _) hb1⟩
  have r1 : ¬ (800 : Int) < n := by omega
  have hl0 : (ys ++ xs).length = 64 + n := by rw [List.length_append, HA.out, HN.out]
  have hpl : (padded (ys ++ xs)).length = 64 * many (64 + n) := by rw [padded_len, padLen_many, hl0]
  have q2 : many (64 + n) ≤ 16 := by unfold many padLen; omega
  have q1 : 2 ≤ many (64 + n) := by unfold many padLen; omega
  obtain ⟨m, hm⟩ : ∃ m, m = padLen (ys ++ xs).length := ⟨_, rfl⟩
  have hle0 : 64 * many (64 + n) ≤ m := by rw [hm, ← padded_len]; omega
  have hle1 : m ≤ 64 * many (64 + n) := by rw [hm, ← padded_len]; omega
  have hm0 : (m : Int) % 64 = 0 := by omega
  have hm1 : ¬ (1100 : Int) < m := by omega
  have hm2 : ¬ (m : Int) < 128 := by omega
  obtain ⟨l, hl⟩ : ∃ l, l = ys ++ xs := ⟨_, rfl⟩
  have hch : chunk (padded l) 0 = ys := by
    have h1 := padded_take l
    have h2 : (padded l).take 64 = ((padded l).take l.length).take 64 := by rw [List.take_take, Nat.min_eq_left]; rw [hl, hl0]; omega
    rw [h1] at h2
    unfold chunk
    rw [Nat.mul_zero, List.drop_zero, h2, hl, List.take_append_of_le_length (by rw [HA.out]; omega), List.take_of_length_le (by rw [HA.out]; omega)]
  have hone : foldB (padded l) (upto 1) = blk h0l ys := by
    rw [show upto 1 = upto 0 ++ [0] from rfl, foldB_snoc, hch]
    rfl
  obtain ⟨u0, u1, u2, u3, u4, u5, u6, u7, hu⟩ := len8 (blk_len (l := h0l) rfl ys)
  rw [hu] at hone
  rw [← hl] at hl0 hm hpl
  have HL := Lib.hid hl
  have HL0 := Lib.hid hl0
  have HM := Lib.hid hm
  have HPL := Lib.hid hpl
  have HONE := Lib.hid hone
  have HU := Lib.hid hu
  clear hl hl0 hm hpl hone hu hch
  go_enter Tryd.func8, Tryd.ntmps8
  go_wp2_with (first
    | (at_builtin; refine append_rd rfl _ _ rfl w1.heap.size _ 64 (nums .u8 ys) rfl hown2.out A n c xs rfl HN.out HX2.out (by omega) (by omega) ?_; intro v3 w3 hown3 hgrow3; have hown2' := hown2.out; clear hown2; have hown2 := hown2'; clear hown2'; have hB13 : Below w1.heap.size w1 w3 := keep_below0 hown2 hgrow3 hB12 (by have := hB12.size; omega) (Nat.le_refl _); rw [← List.map_append, ← HL.out] at hown3; obtain ⟨A3, cp3, rfl⟩ := own_slice hown3; have HR3 := Lib.hid (Rd.of_own hown3); have HB3 := bgo HB hB13; have hz13 := hB13.size; clear hown2 hown3 hgrow3 hB12 HX2)
    | (at_builtin; refine append_rd rfl _ _ rfl w1.heap.size (.slice none 0 0) 0 [] rfl ⟨rfl, .inl ⟨rfl, rfl⟩⟩ (some ⟨w.heap.size, 0, none⟩) 64 64 ys rfl HA.out HR1.out (by omega) (Nat.le_refl _) ?_; intro v2 w2 hown2 hgrow2; rw [Nat.zero_add, List.nil_append] at hown2; have hB12 : Below w1.heap.size w1 w2 := keep_below0 (base := w1.heap.size) (w := w1) (s := 1) (e := 5) (n := 0) (v := .slice none 0 0) (xs := []) ⟨rfl, .inl ⟨rfl, rfl⟩⟩ hgrow2 brf (Nat.le_refl _) (Nat.le_refl _); obtain ⟨A2, c2, rfl⟩ := own_slice hown2; have HX2 := Lib.hid (HX1.out.below hB12); have hz12 := hB12.size; have hown2' := Lib.hid hown2; clear hown2; have hown2 := hown2'; clear hown2' hgrow2)
    | (go_at_call 15; refine (live_any _ (HK.out.below (bal brf _) hw0)).mono ?_; rintro e w1 ⟨rfl, hb1⟩; have HX1 := Lib.hid (HX.out.below (bgo (bal brf _) hb1)); have HR1 := Lib.hid (HR0.out.below hb1); have hz1 := hb1.size; rw [World.size_alloc] at hz1; have HB := bgo (bal (brf (w := w)) _) hb1)
    | (go_at_call 16; go_must (refine (pad_any A3 (64 + n) cp3 l _ HL0.out (by omega) HR3.out).mono ?_; rintro e w4 ⟨he, hp4, hb4, hl4⟩; rw [← HM.out] at he; subst he; have HP4 := Lib.hid hp4; clear hp4)))
  have hz4 := hb4.size
  have hB14 : Below w1.heap.size w1 w4 := hB13.trans (hb4.mono hz13)
  have HR4 := Lib.hid (HR1.out.below (hB14.mono (by first | exact Nat.le_refl _ | omega)))
  have HB4 := bgo HB hB14
  have HK4 := Lib.hid (HK.out.below HB4 hw0)
  have HL4 := Lib.hid (HR3.out.below hb4)
  have hw4 : w.heap.size < w4.heap.size := by omega
  clear HB3 HX1 HR1 HR0
  clear hm0 hm2
  have CB := fun (W : World) (hW : Below w4.heap.size w4 W) => block_any (some ⟨w.heap.size, 0, none⟩) 64 1779033703 3144134277 1013904242 2773480762 1359893119 2600822924 528734635 1541459225 ys W HA.out (HR4.out.below hW) (HK4.out.below hW (by omega))
  have hu := HU.out
  unfold h0l at hu
  rw [hu] at CB
  clear hu
  have HBX := bdr (brf (w := w4))
  go_cut [7, 8] (fun a b wx => ∃ B7, a = .pointer (some ⟨B7, 0, none⟩) ∧ b = .int .i64 0 ∧ w4.heap.size ≤ B7 ∧ Arr wx B7 [u0, u1, u2, u3, u4, u5, u6, u7] ∧ B7 < wx.heap.size ∧ Below w4.heap.size w4 wx)
  case first =>
    go_region_with (first
      | (go_at_call 19; go_must (refine (start_any _).mono ?_; rintro e w5 ⟨he, hb5⟩; rw [h0a] at he; subst he; first | (have HBX := bgo HBX hb5) | (have HBX := bgo (bdr (bal (brf (w := w4)) _)) hb5; have HAN := Lib.hid ((arr_new w4 0 0 0 0 0 0 0 0).drew.below hb5 (by simp)); have hz5 := hb5.size; simp only [World.size_drew, World.size_alloc] at hz5; have hlN : w4.heap.size < w5.heap.size := (by omega); have hgN : w4.heap.size ≤ w4.heap.size := Nat.le_refl _)))
      | (go_at_call 21; go_must (first | (refine (CB _ HBX).mono ?_; rintro e w6 ⟨he, hb6⟩; have HBX := bgo HBX hb6; have hz6 := hb6.size; try (have hlN' := Nat.lt_of_lt_of_le hlN hz6; have HAN := Lib.hid (HAN.out.below hb6 hlN))) | (refine (CB _ (bal HBX _)).mono ?_; rintro e w6 ⟨he, hb6⟩; have HAN := Lib.hid ((arr_new w5 0 0 0 0 0 0 0 0).below hb6 (by simp)); have hgN : w4.heap.size ≤ w5.heap.size := HBX.size; have HBX := bgo (bal HBX _) hb6; have hz6 := hb6.size; simp only [World.size_alloc] at hz6; have hlN' : w5.heap.size < w6.heap.size := (by omega))); simp only [List.map_cons, List.map_nil] at he; subst he; try (obtain ⟨d0, d1, d2, d3, d4, d5, d6, d7, f1⟩ := HAN.out.eight; obtain ⟨k0, k1, k2, k3, k4, k5, k6, k7⟩ := f1)))
    all_goals (go_simp; go_step; go_meet)
    all_goals first
      | (have key := put8 (us := [u0, u1, u2, u3, u4, u5, u6, u7]) HAN.out rfl hlN' HBX hgN; exact ⟨_, rfl, rfl, hgN, key _ rfl⟩)
      | (have key := new8 u0 u1 u2 u3 u4 u5 u6 u7 HBX HBX.size; exact ⟨_, rfl, rfl, HBX.size, key _ rfl⟩)
  case rest =>
    obtain ⟨B7, rfl, rfl, hle7, hA7, hl7, hb7⟩ := hcut
    obtain ⟨wm, hwm⟩ : ∃ x, x = wc := ⟨_, rfl⟩
    subst hwm
    have HA7 := Lib.hid hA7
    have HP7 := Lib.hid (HP4.out.below hb7 hl4)
    have HL7 := Lib.hid (HL4.out.below hb7)
    have HK7 := Lib.hid (HK4.out.below hb7 (by omega))
    have HB7 := HB4.trans (hb7.mono (by omega))
    have hz7 := hb7.size
    have hP7 : w3.heap.size < wm.heap.size := by omega
    obtain ⟨B3, hB3⟩ : ∃ B3, B3 = w3.heap.size := ⟨_, rfl⟩
    have hl3 : B3 < B7 := by omega
    rw [← hB3] at HP7 hP7 ⊢
    clear HP4 HL4 HK4 CB HBX hA7 hB3
    go_wp2_with fail
    go_loopw [9, 10, 11] (fun i _ _ wr => ∃ k : Nat, 1 ≤ k ∧ k ≤ many (64 + n) ∧ i = .int .i64 (64 * k) ∧ Arr wr B7 (foldB (padded l) (upto k)) ∧ B7 < wr.heap.size ∧ Below B7 wm wr) (fun i _ _ _ => m - (intOf i).toNat)
    case atStart => exact ⟨1, Nat.le_refl _, by omega, rfl, by rw [HONE.out]; exact HA7.out, hl7, Below.refl _ _⟩
    case round =>
      obtain ⟨k, hk1, hk, rfl, hA, hl, hB⟩ := hrel
      by_cases hlt : k < many (64 + n)
      · have hle : 64 * k + 64 ≤ m := by omega
        have hlt1 : 64 * (k : Int) < m := by omega
        obtain ⟨v0, v1, v2, v3, v4, v5, v6, v7, hv⟩ := len8 (foldB_len (padded l) (upto k))
        rw [hv] at hA
        obtain ⟨c0, c1, c2, c3, c4, c5, c6, c7, f0⟩ := hA.eight
        obtain ⟨g0, g1, g2, g3, g4, g5, g6, g7⟩ := f0
        have HAR := Lib.hid hA
        have HV := Lib.hid hv
        clear hA hv
        have hkl : 64 * k + 64 ≤ (padded l).length := by rw [padded_len, ← HM.out]; exact hle
        obtain ⟨t0, t1, t2, t3, t4, t5, t6, t7, ht⟩ := len8 (blk_len (l := [v0, v1, v2, v3, v4, v5, v6, v7]) rfl (chunk (padded l) k))
        have HTU := Lib.hid ht
        have HK2 := Lib.hid hkl
        clear ht hkl
        have hlr := hB.size
        have HRD := Lib.hid ((HP7.out.below hB hl3).rd (k := k) (by omega) HK2.out)
        have HCL := Lib.hid (chunk_len HK2.out)
        have HKW := Lib.hid (HK7.out.below hB (by omega))
        have x1 : IntKind.i64.wrap (64 * (k : Int) + 64) = 64 * (k : Int) + 64 := IntWalk.i64_in _ (by omega)
        have x2 : (64 * (k : Int) + 64).toNat = 64 * k + 64 := by omega
        have x3 : (64 * (k : Int)).toNat = 64 * k := by omega
        have b0 : 0 ≤ 64 * (k : Int) := by omega
        have b1 : 64 * (k : Int) ≤ 64 * (k : Int) + 64 := by omega
        have b2 : 64 * (k : Int) + 64 ≤ (m : Int) := by omega
        have b3 : 0 ≤ 64 * (k : Int) + 64 := by omega
        have x4 : 64 * k + 64 - 64 * k = 64 := by omega
        have x5 : ¬ m = 64 * k := by omega
        have C := fun (W : World) (cc : Nat) (hW : Below wr.heap.size wr W) => (block_any (some ⟨B3, 64 * k, none⟩) cc v0 v1 v2 v3 v4 v5 v6 v7 (chunk (padded l) k) W HCL.out (HRD.out.below hW) (HKW.out.below hW (by omega)))
        rw [HTU.out] at C
        go_wp2_with fail
        go_cut [10, 11] (fun a b wx => ∃ B6, a = .pointer (some ⟨B6, 0, none⟩) ∧ b = .int .i64 0 ∧ wr.heap.size ≤ B6 ∧ Arr wx B6 [t0, t1, t2, t3, t4, t5, t6, t7] ∧ B6 < wx.heap.size ∧ Below wr.heap.size wr wx)
        case first =>
          go_region_with (go_at_call 21; go_must (refine (C _ _ (by first | exact bdr brf | exact bdr (bal brf _))).mono ?_; rintro e w4 ⟨he, hb4⟩; simp only [List.map_cons, List.map_nil] at he; subst he); clear c0 c1 c2 c3 c4 c5 c6 c7 g0 g1 g2 g3 g4 g5 g6 g7; first | (have HAN := Lib.hid ((arr_new wr 0 0 0 0 0 0 0 0).drew.below hb4 (by simp)); have hz9 := hb4.size; simp only [World.size_drew, World.size_alloc] at hz9; have hlN : wr.heap.size < w4.heap.size := (by omega); have hgN : wr.heap.size ≤ wr.heap.size := Nat.le_refl _; have HBX : Below wr.heap.size wr w4 := bgo (bdr (bal (brf (w := wr)) _)) hb4; obtain ⟨d0, d1, d2, d3, d4, d5, d6, d7, f1⟩ := HAN.out.eight; obtain ⟨k0, k1, k2, k3, k4, k5, k6, k7⟩ := f1) | (have HBX : Below wr.heap.size wr w4 := bgo (bdr (brf (w := wr))) hb4))
          all_goals (go_simp; go_step; go_meet)
          all_goals clear x1 x2 x3 x4 x5 b0 b1 b2 b3
          all_goals first
            | (have key := put8 (us := [t0, t1, t2, t3, t4, t5, t6, t7]) HAN.out rfl hlN HBX hgN; exact ⟨_, rfl, rfl, hgN, key _ rfl⟩)
            | (have key := new8 t0 t1 t2 t3 t4 t5 t6 t7 HBX HBX.size; exact ⟨_, rfl, rfl, HBX.size, key _ rfl⟩)
        case rest =>
          obtain ⟨B6, rfl, rfl, hne, ha6, hl6, hb6⟩ := hcut
          have ha4 := HAR.out.below hb6 hl
          have hz6 := hb6.size
          obtain ⟨c0, c1, c2, c3, c4, c5, c6, c7, f0⟩ := ha4.eight
          obtain ⟨g0, g1, g2, g3, g4, g5, g6, g7⟩ := f0
          obtain ⟨d0, d1, d2, d3, d4, d5, d6, d7, f1⟩ := ha6.eight
          have HA4 := Lib.hid ha4
          clear ha6 ha4 f1
          have hup : foldB (padded l) (upto (k + 1)) = [t0, t1, t2, t3, t4, t5, t6, t7] := by rw [upto_succ, foldB_snoc, HV.out, HTU.out]
          have HUP := Lib.hid hup
          clear hup
          have hkey := put8 (us := [t0, t1, t2, t3, t4, t5, t6, t7]) HA4.out rfl (by omega) (hB.trans (hb6.mono (by omega))) (Nat.le_refl _)
          have KEY := Lib.hid hkey
          clear hkey
          go_wp2_with fail
          exact ⟨⟨k + 1, by omega, by omega, by congr 1, by rw [HUP.out]; exact KEY.out _ rfl⟩, by show m - (64 * (k : Int) + 64).toNat < m - (64 * (k : Int)).toNat; omega⟩
      · have hkq : k = many (64 + n) := by omega
        have hge : (m : Int) ≤ 64 * (k : Int) := by omega
        obtain ⟨v0, v1, v2, v3, v4, v5, v6, v7, hv⟩ := len8 (foldB_len (padded l) (upto k))
        rw [hv] at hA
        obtain ⟨c0, c1, c2, c3, c4, c5, c6, c7, f0⟩ := hA.eight
        have hw := foldB_words (padded l) (upto k)
        rw [hv] at hw
        have e : sumL l = bytesL [v0, v1, v2, v3, v4, v5, v6, v7] := by
          rw [sumL, hashL, HL0.out, ← hkq, hv]
        have E := Lib.hid e
        have HAR := Lib.hid hA
        have HW := Lib.hid hw
        have hlr := hB.size
        have HBw := HB7.trans (hB.mono (by omega))
        have CS := fun (W : World) (hW : Below wr.heap.size wr W) => sum_any A3 (64 + n) cp3 l W HL0.out (by omega) ((HR3.out.below (hb4.trans ((hb7.trans (hB.mono hle7)).mono hz4))).below hW) ((HK7.out.below hB (by omega)).below hW (by omega))
        have CBy := fun (W : World) => rbytes_any v0 v1 v2 v3 v4 v5 v6 v7 W HW.out
        have HBX := bdr (brf (w := wr))
        clear hA hv hw hkq f0 e
        go_wp2_with fail
        go_region_with (first
          | (go_at_call 23; go_must (refine (CS _ HBX).mono ?_; rintro e w6 ⟨BS, cS, rfl, hcS, hlS, RS, hb6⟩; have HBX := bgo HBX hb6; (try have RB := RB.below hb6); clear c0 c1 c2 c3 c4 c5 c6 c7; obtain ⟨c0, c1, c2, c3, c4, c5, c6, c7, f0⟩ := (HAR.out.below HBX hl).eight))
          | (go_at_call 25; go_must (refine (CBy _).mono ?_; rintro e w7 ⟨BR, cR, rfl, hcR, hlR, RB, hb7⟩; have HBX := bgo HBX hb7; (try have RS := RS.below hb7)))
          | (go_at_call 17; go_must (refine (same_true _ _ _ _ _ _ (sumL l) (bytesL [v0, v1, v2, v3, v4, v5, v6, v7]) _ E.out rfl rfl RS RB (sumL_byt _)).mono ?_; rintro e w8 ⟨rfl, rfl⟩)))
        all_goals go_wp2_with fail
        all_goals go_ret
        all_goals exact ⟨rfl, HBw.trans (HBX.mono (by have := HBX.size; have := HBw.size; omega))⟩

/-- Bytes of an array, read as data. -/
theorem open_arr64 {H : Type} {enc : TypeId × Value → H} {W : World} {base b0 : Nat} {sp : Nat → Bool} {held : Bool} {v : Value} {d : DataW H} {p : List MemPlace} (hv : Value.okWide Tryd.prog W .any base 35 v) (h : DataW.Trod enc Tryd.prog W b0 sp held 35 v d p) :
    ∃ l : List Int, v = .agg (nums .u8 l).toArray ∧ l.length = 64 ∧ Byt l := by
  obtain ⟨cs, rfl, hsz⟩ := okWide_array Tryd.underlying35 hv
  rw [show Tryd.prog.cellsOf _ = 64 from by kernel_rfl] at hsz
  obtain ⟨l⟩ := cs
  obtain ⟨fuel, hf⟩ := h
  obtain ⟨xs, m1, rfl, hx1, hlen, hn3, hel⟩ := DataW.trod_array Tryd.underlying35 hf
  have hsz : l.length = 64 := hsz
  have get : ∀ i, i < 64 → ∃ z : Int, l[i]? = some (.int .u8 z) ∧ 0 ≤ z ∧ z ≤ 255 := by
    intro i hi
    have h0 := hel i hi
    rw [List.getElem?_eq_getElem (show i < xs.length by omega), show Tryd.prog.cellsOf 5 = 1 from by kernel_rfl, Nat.mul_one] at h0
    obtain ⟨k, e1, e2, e3⟩ := DataW.trod_int Tryd.underlying5 h0
    have e4 := congrArg (fun l => l[0]?) e1
    have e5 : (decide ((0 : Int) ≤ k) && decide (k ≤ (255 : Int))) = true := e3
    exact ⟨k, by simpa [Value.cells] using e4, by simpa using e5⟩
  obtain ⟨f, hf⟩ := Deep.choose_lt get
  refine ⟨(List.range 64).map f, ?_, by simp, ?_⟩
  · congr 2
    apply List.ext_getElem?
    intro i
    by_cases hi : i < 64
    · rw [(hf i hi).1]
      simp [nums, List.getElem?_range hi]
    · rw [List.getElem?_eq_none (by omega), List.getElem?_eq_none (by simp [nums]; omega)]
  · intro x hx
    obtain ⟨i, hi, rfl⟩ := List.mem_map.1 hx
    exact (hf i (List.mem_range.1 hi)).2

theorem shaAhead_of {H : Type} {enc : TypeId × Value → H} (W : World) (base : Nat) (args : Array Value) (ds : List (DataW H)) (p : List MemPlace)
    (hval : ∀ (j : Nat) t v, Tryd.f8.params[j]? = some t → args[j]? = some v → Value.okWide Tryd.prog W .any base t v)
    (hA : DataW.TrodAll enc Tryd.prog W 0 (fun _ => true) true Tryd.f8.params.toList args.toList ds p) (hlt : ∀ x ∈ p, x.block < W.heap.size)
    (hz : (DataW.weightsEach Tryd.prog Tryd.f8.params.toList ds).all (· ≤ reachBytes) = true) (hK : Konst W) : Calls Tryd.prog 8 args W (Yes W) := by
  rw [Tryd.params8] at hA hval hz
  obtain ⟨v0, vs0, d0, ds0, p0, q0, hargs, rfl, rfl, h0, r0⟩ := trodAll_cons hA
  obtain ⟨v1, vs1, d1, ds1, p1, q1, rfl, rfl, rfl, h1, r1⟩ := trodAll_cons r0
  obtain ⟨rfl, rfl, rfl⟩ := trodAll_nil r1
  obtain rfl : args = #[v0, v1] := by cases args; simp_all

  obtain ⟨ys, rfl, hy, hyb⟩ := open_arr64 (hval 0 _ _ rfl rfl) h0
  obtain ⟨A, n, c, xs, rfl, hn, hr, hb⟩ := open_bytes h1 (hval 1 _ _ rfl rfl)
  exact shaAhead_walk ys A n c xs W hy hn hr hyb hb hK
end Go.Proofs.YtkclfhkaopimoaaDoor
