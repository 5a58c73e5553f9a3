/- A layer's key is a tag of its nonce; replies, padding and the stream are by tags of other bytes of it. -/
import Derived.Test.YtgclcpopibjocaaDoorLh0
import Derived.Deep.RegionHeld3
import Derived.Test.YtgclcpopibjocaaDoorTb0
import Derived.Laws.MakeOwn
import Derived.Deep.DeepMust
namespace Go.Proofs.YtgclcpopibjocaaDoor
open Go.RowKit Go.ChangeShapes Go.WideShapes Go.ChangeAt
set_option linter.unusedSimpArgs false
set_option linter.unusedVariables false
set_option maxRecDepth 100000

theorem xorL_zero {s : List Int} (h : Byt s) : xorL (List.replicate s.length 0) s = s := by
  have hl : (xorL (List.replicate s.length 0) s).length = s.length := by rw [xor_len]; simp
  apply List.ext_getElem hl
  intro j h1 h2
  have e1 := xorL_at (a := List.replicate s.length 0) (b := s) j (by simpa using h2)
  have e2 := byt_at h j
  obtain ⟨x, hx⟩ := Int.eq_ofNat_of_zero_le e2.1
  have e3 : (List.replicate s.length (0 : Int)).getD j 0 = ((0 : Nat) : Int) := by simp [List.getD, h2]
  rw [e3, hx, xor8_nat 0 x (by omega) (by omega), Nat.zero_xor, ← hx] at e1
  simpa [List.getD, h1, h2] using e1
theorem hide_zero (k : List Int) (N : Nat) : hideL k (List.replicate N 0) = streamL (tagL k [1]) N := by
  have h := xorL_zero (s := streamL (tagL k [1]) N) (streamL_byt _ _)
  rw [streamL_len] at h
  rw [hideL, List.length_replicate]
  exact h
theorem run_make_bytes (N : Nat) (h : N ≤ 100000) : ∃ zc : Array Value, (∀ W : World, (Instr.makeSlice 22 (.int .i64 (N : Int)) (.int .i64 (N : Int))).run Tryd.prog W = .ok (.slice (some ⟨W.heap.size, 0, none⟩) N N) (W.alloc (.cells zc 5))) ∧
    ∀ W : World, Rd (W.alloc (.cells zc 5)) (some ⟨W.heap.size, 0, none⟩) (nums .u8 (List.replicate N 0)) := by
  obtain ⟨i0, hi, hz0, hz1, hz2⟩ := info_parts infoByteT
  refine ⟨madeCells (Value.int .u8 0).cells (N * i0.size), fun W => ?_, fun W => ?_⟩
  · have hr := run_make (P := Tryd.prog) W 22 5 i0 (.int .u8 0) Tryd.underlying22 hi hz0 .i64 .i64 N N (by omega) (by omega) (by rw [hz2]; omega) (by omega)
    simp only [Int.toNat_natCast] at hr
    exact hr
  · rw [hz1, Nat.mul_one]
    refine .inr ⟨W.heap.size, 0, rfl, by simp, fun i v hv => ?_⟩
    rw [Nat.zero_add, World.cell?_alloc_at _ _ _ _ rfl]
    simp [nums, List.getElem?_replicate] at hv
    simp [madeCells, Value.cells, Nat.mod_one, hv.1, hv.2]

set_option maxHeartbeats 4000000 in
theorem layerKeys_walk (A : Option Addr) (n c : Nat) (server l : List Int) (z code : Int) (w : World) (hn : server.length = n) (hl : l.length = 16) (hx : Rd w A (nums .u8 server)) (bl : Byt l) (hK : Konst w) :
    Calls Tryd.prog 5 #[.slice A n c, .agg (nums .u8 l).toArray, .int .i64 z, .int .u8 code] w (Yes w) := by
  obtain ⟨cs, hcs⟩ : ∃ cs, cs = (nums .u8 l).toArray := ⟨_, rfl⟩
  have hsz : cs.size = 16 := by rw [hcs]; simp [hl]
  have HR0 := Lib.hid (show Rd (w.alloc (.cells cs 35)) (some ⟨w.heap.size, 0, none⟩) (nums .u8 l) by rw [hcs]; exact rd_new w l _)
  rw [← hcs]
  have HX := Lib.hid (hx.below (bal brf (.cells cs 35)))
  have HK0 := Lib.hid (hK.go (bal brf (.cells cs 35)))
  have HN := Lib.hid hn
  have HL := Lib.hid hl
  clear hx hn hl hK bl hcs
  by_cases h1 : 200 < n
  · skip
    have q : (200 : Int) < n := by omega
    go_enter Tryd.func5, Tryd.ntmps5
    go_wp2_with (go_at_call 25; refine (live8_any _ HK0.out).mono ?_; rintro e w1 ⟨rfl, hb1⟩; have HBX := bgo (bal brf _) hb1)
    go_ret
    exact ⟨rfl, HBX⟩
  have q1 : ¬ (200 : Int) < n := by omega
  by_cases h2 : z < 0
  · skip
    go_enter Tryd.func5, Tryd.ntmps5
    go_wp2_with (go_at_call 25; refine (live8_any _ HK0.out).mono ?_; rintro e w1 ⟨rfl, hb1⟩; have HBX := bgo (bal brf _) hb1)
    go_ret
    exact ⟨rfl, HBX⟩
  by_cases h3 : 700 < z
  · skip
    go_enter Tryd.func5, Tryd.ntmps5
    go_wp2_with (go_at_call 25; refine (live8_any _ HK0.out).mono ?_; rintro e w1 ⟨rfl, hb1⟩; have HBX := bgo (bal brf _) hb1)
    go_ret
    exact ⟨rfl, HBX⟩
  obtain ⟨N, rfl⟩ := Int.eq_ofNat_of_zero_le (show 0 ≤ z by omega)
  have hN : N ≤ 700 := by omega
  obtain ⟨zc, hmk, hrz⟩ := run_make_bytes N (by omega)
  obtain ⟨M, hM⟩ : ∃ M, M = 16 + N + 32 := ⟨_, rfl⟩
  obtain ⟨Q, hQ⟩ : ∃ Q, Q = 16 + N := ⟨_, rfl⟩
  have w1_ : IntKind.i64.wrap ((N : Int) + 48) = (M : Int) := by rw [show (N : Int) + 48 = M by omega]; exact IntWalk.i64_in _ (by omega)
  have w2_ : IntKind.i64.wrap ((16 : Int) + N) = (Q : Int) := by rw [show (16 : Int) + N = Q by omega]; exact IntWalk.i64_in _ (by omega)
  have w3_ : (16 : Int) ≤ Q := by omega
  have w4_ : Q - 16 = N := by omega
  have w5_ : (0 : Int) ≤ Q := by omega
  have C1 := fun W h1 h2 hK => tag_any A (some ⟨w.heap.size, 0, none⟩) n c 16 16 server l W HN.out HL.out (by omega) (by omega) h1 h2 hK
  have CJ := fun W h1 h2 hK => lkey_any A (some ⟨w.heap.size, 0, none⟩) n c 16 16 server l W HN.out HL.out (by omega) (by omega) h1 h2 hK
  have CA := fun D W h1 h2 h3 hK => seal_any A (some ⟨w.heap.size, 0, none⟩) (some ⟨D, 0, none⟩) n c 16 N N server l (List.replicate N 0) W HN.out HL.out (by simp) (by omega) (by omega) h1 h2 h3 hK
  have hsa : (sealL server l (List.replicate N 0)).length = M := by rw [sealL_len, HL.out, hM]; simp
  have hma := sealL_mid (server := server) (plain := List.replicate N 0) HL.out
  rw [List.length_replicate, hide_zero] at hma
  obtain ⟨k, hk⟩ : ∃ k, k = tagL server l := ⟨_, rfl⟩
  have lk : k.length = 32 := by rw [hk, tag_len]
  have bk : Byt k := by rw [hk]; exact tag_byt _ _
  rw [← hk] at C1 CJ hma
  have CP := fun A1 c1 W h1 hK => pad8_any A1 32 c1 N k W lk (by omega) (by omega) h1 hK
  have CR := fun A1 c1 W h1 hK => reply_any A1 32 c1 k code W lk (by omega) h1 hK
  have C2 : ∀ A1 c1 (W : World), Rd W A1 (nums .u8 k) → Konst (W.alloc (.cells #[.int .u8 2] 5)) → Calls Tryd.prog 24 #[.slice A1 32 c1, .slice (some ⟨W.heap.size, 0, none⟩) 1 1] (W.alloc (.cells #[.int .u8 2] 5)) (IsBytes (W.alloc (.cells #[.int .u8 2] 5)) (tagL k [2])) := fun A1 c1 (W : World) h1 hK => tag_any A1 (some ⟨W.heap.size, 0, none⟩) 32 c1 1 1 k [2] (W.alloc (.cells (nums .u8 [2]).toArray 5)) lk rfl (by omega) (by omega) (Rd.below h1 (bal brf _)) (rd_new W [2] 5) hK
  have C3 : ∀ A1 c1 (W : World), Rd W A1 (nums .u8 k) → Konst (W.alloc (.cells #[.int .u8 1] 5)) → Calls Tryd.prog 24 #[.slice A1 32 c1, .slice (some ⟨W.heap.size, 0, none⟩) 1 1] (W.alloc (.cells #[.int .u8 1] 5)) (IsBytes (W.alloc (.cells #[.int .u8 1] 5)) (tagL k [1])) := fun A1 c1 (W : World) h1 hK => tag_any A1 (some ⟨W.heap.size, 0, none⟩) 32 c1 1 1 k [1] (W.alloc (.cells (nums .u8 [1]).toArray 5)) lk rfl (by omega) (by omega) (Rd.below h1 (bal brf _)) (rd_new W [1] 5) hK
  have C4 : ∀ A1 c1 (W : World), Rd W A1 (nums .u8 k) → Konst (W.alloc (.cells #[.int .u8 4, .int .u8 code] 5)) → Calls Tryd.prog 24 #[.slice A1 32 c1, .slice (some ⟨W.heap.size, 0, none⟩) 2 2] (W.alloc (.cells #[.int .u8 4, .int .u8 code] 5)) (IsBytes (W.alloc (.cells #[.int .u8 4, .int .u8 code] 5)) (tagL k [4, code])) := fun A1 c1 (W : World) h1 hK => tag_any A1 (some ⟨W.heap.size, 0, none⟩) 32 c1 2 2 k [4, code] (W.alloc (.cells (nums .u8 [4, code]).toArray 5)) lk rfl (by omega) (by omega) (Rd.below h1 (bal brf _)) (rd_new W [4, code] 5) hK
  have CM2 := fun A1 c1 W h1 hK => stream_any A1 32 c1 N (tagL k [2]) W (tag_len _ _) (by omega) (by omega) h1 hK
  have CM1 := fun A1 c1 W h1 hK => stream_any A1 32 c1 N (tagL k [1]) W (tag_len _ _) (by omega) (by omega) h1 hK
  have S1 := fun A1 A2 c1 c2 W h1 h2 => same_true A1 A2 32 c1 32 c2 k k W rfl lk lk h1 h2 bk
  have S2 := fun A1 A2 c1 c2 W h1 h2 => same_true A1 A2 N c1 N c2 (streamL (tagL k [2]) N) (streamL (tagL k [2]) N) W rfl (streamL_len _ _) (streamL_len _ _) h1 h2 (streamL_byt _ _)
  have S3 := fun A1 A2 c1 c2 W h1 h2 => same_true A1 A2 N c1 N c2 (streamL (tagL k [1]) N) (streamL (tagL k [1]) N) W rfl (streamL_len _ _) (streamL_len _ _) h1 h2 (streamL_byt _ _)
  have S4 := fun A1 A2 c1 c2 W h1 h2 => same_true A1 A2 32 c1 32 c2 (tagL k [4, code]) (tagL k [4, code]) W rfl (tag_len _ _) (tag_len _ _) h1 h2 (tag_byt _ _)
  have HSA := Lib.hid hsa
  have HMA := Lib.hid hma
  have HLK := Lib.hid lk
  have HRZ := Lib.hid hrz
  have w6_ : Q < M := by omega
  have w7_ : 16 < M := by omega
  clear hsa hma hM hQ hk lk bk hrz
  go_enter Tryd.func5, Tryd.ntmps5
  go_upto_region 8 with (first
    | (go_at_call 25; refine (live8_any _ HK0.out).mono ?_; rintro e w1 ⟨rfl, hb1⟩; have HBX := hb1)
    | (go_at_call 24; first
        | ((with_reducible refine (C1 _ (HX.out.below HBX) (HR0.out.below HBX) (HK0.out.go HBX)).mono ?_); rintro e w2 ⟨B2, c2, he, hc2, hl2, hr2, hb2⟩; rw [HLK.out] at he; subst he; have HBX := bgo HBX hb2; have HRk := Lib.hid hr2; clear hr2)
        | ((with_reducible refine (C2 _ _ _ HRk.out (HK0.out.go (bal HBX _))).mono ?_); rintro e w4 ⟨B4, c4, he, hc4, hl4, hr4, hb4⟩; rw [tag_len] at he; subst he; have HRk := Lib.hid ((HRk.out.below (bal brf _)).below hb4); have HRp := Lib.hid ((HRp.out.below (bal brf _)).below hb4); have HBX := bgo (bal HBX _) hb4; have HR4 := Lib.hid hr4; clear hr4))
    | (go_at_call 26; refine (CP _ _ _ HRk.out (HK0.out.go HBX)).mono ?_; rintro e w3 ⟨B3, c3, he, hc3, hl3, ho3, hb3⟩; rw [streamL_len] at he ho3; subst he; (try have HRk := Lib.hid (HRk.out.below hb3)); (try have HRp := Lib.hid (HRp.out.below hb3)); (try have HRq := Lib.hid (HRq.out.below hb3)); (try have HRx := Lib.hid (HRx.out.below hb3)); (try have HRs := Lib.hid (HRs.out.below hb3)); (try have HRj := Lib.hid (HRj.out.below hb3)); (try have HRr := Lib.hid (HRr.out.below hb3)); have HBX := bgo HBX hb3; have HRp := Lib.hid (Rd.of_own ho3); clear ho3)
    | (go_at_call 27; refine (CM2 _ _ _ HR4.out (HK0.out.go HBX)).mono ?_; rintro e w5 ⟨B5, c5, he, hc5, hl5, ho5, hb5⟩; rw [streamL_len] at he ho5; subst he; (try have HRk := Lib.hid (HRk.out.below hb5)); (try have HRp := Lib.hid (HRp.out.below hb5)); (try have HRq := Lib.hid (HRq.out.below hb5)); (try have HRx := Lib.hid (HRx.out.below hb5)); (try have HRs := Lib.hid (HRs.out.below hb5)); (try have HRj := Lib.hid (HRj.out.below hb5)); (try have HRr := Lib.hid (HRr.out.below hb5)); have HBX := bgo HBX hb5; have HRq := Lib.hid (Rd.of_own ho5); clear ho5))
  go_region_held3 (fun x => Below w5.heap.size w5 x) (first | assumption | exact bdr brf | exact bal (by assumption) _)
    ((go_at_call 28; go_must (refine (CA _ _ (HX.out.below (bgo HBX (by assumption))) (HR0.out.below (bgo HBX (by assumption))) ((HRZ.out w5).below (bdr brf)) (HK0.out.go (bgo HBX (by assumption)))).mono ?_; rintro e w6 ⟨A6, c6, he, hc6, hr6, hb6⟩; rw [HSA.out] at he hc6; subst he; obtain ⟨x6, y6, rfl, _, _⟩ := hr6.at_ (by simp [HSA.out]; omega); have hb7 : Below w5.heap.size w5 w6 := bgo (bdr (bal brf _)) hb6; have hr7 := hr6.part 16 N; rw [HMA.out] at hr7; have HRx := Lib.hid hr7; clear hr6 hr7)))
  have HRk := Lib.hid (HRk.out.below hb7)
  have HRp := Lib.hid (HRp.out.below hb7)
  have HRq := Lib.hid (HRq.out.below hb7)
  have HBX := bgo HBX hb7
  have v1 : (Q : Int) ≤ c6 := by omega
  have v3 : ¬ c6 = 16 := by omega
  have v5 : ¬ c6 = Q := by omega
  have g0 : (16 : Int) ≤ c6 := by omega
  go_wp2_with (first
    | (go_at_call 24; first
        | ((with_reducible refine (C3 _ _ _ HRk.out (HK0.out.go (bal HBX _))).mono ?_); rintro e w7 ⟨B7, c7, he, hc7, hl7, hr7, hb7⟩; rw [tag_len] at he; subst he; have HRk := Lib.hid ((HRk.out.below (bal brf _)).below hb7); have HRp := Lib.hid ((HRp.out.below (bal brf _)).below hb7); have HRq := Lib.hid ((HRq.out.below (bal brf _)).below hb7); have HRx := Lib.hid ((HRx.out.below (bal brf _)).below hb7); have HBX := bgo (bal HBX _) hb7; have HR7 := Lib.hid hr7; clear hr7)
        | ((with_reducible refine (C4 _ _ _ HRk.out (HK0.out.go (bal HBX _))).mono ?_); rintro e w11 ⟨B11, c11, he, hc11, hl11, hr11, hb11⟩; rw [tag_len] at he; subst he; have HRr := Lib.hid ((HRr.out.below (bal brf _)).below hb11); have HBX := bgo (bal HBX _) hb11; have HRt := Lib.hid hr11; clear hr11))
    | (go_at_call 27; refine (CM1 _ _ _ HR7.out (HK0.out.go HBX)).mono ?_; rintro e w8 ⟨B8, c8, he, hc8, hl8, ho8, hb8⟩; rw [streamL_len] at he ho8; subst he; (try have HRk := Lib.hid (HRk.out.below hb8)); (try have HRp := Lib.hid (HRp.out.below hb8)); (try have HRq := Lib.hid (HRq.out.below hb8)); (try have HRx := Lib.hid (HRx.out.below hb8)); (try have HRs := Lib.hid (HRs.out.below hb8)); (try have HRj := Lib.hid (HRj.out.below hb8)); (try have HRr := Lib.hid (HRr.out.below hb8)); have HBX := bgo HBX hb8; have HRs := Lib.hid (Rd.of_own ho8); clear ho8)
    | (go_at_call 29; refine (CJ _ (HX.out.below HBX) (HR0.out.below HBX) (HK0.out.go HBX)).mono ?_; rintro e w9 ⟨B9, c9, he, hc9, hl9, hr9, hb9⟩; rw [HLK.out] at he; subst he; (try have HRk := Lib.hid (HRk.out.below hb9)); (try have HRp := Lib.hid (HRp.out.below hb9)); (try have HRq := Lib.hid (HRq.out.below hb9)); (try have HRx := Lib.hid (HRx.out.below hb9)); (try have HRs := Lib.hid (HRs.out.below hb9)); (try have HRj := Lib.hid (HRj.out.below hb9)); (try have HRr := Lib.hid (HRr.out.below hb9)); have HBX := bgo HBX hb9; have HRj := Lib.hid hr9; clear hr9)
    | (go_at_call 30; refine (CR _ _ _ HRk.out (HK0.out.go HBX)).mono ?_; rintro e w10 ⟨B10, c10, he, hc10, hl10, hr10, hb10⟩; rw [tag_len] at he; subst he; (try have HRk := Lib.hid (HRk.out.below hb10)); (try have HRp := Lib.hid (HRp.out.below hb10)); (try have HRq := Lib.hid (HRq.out.below hb10)); (try have HRx := Lib.hid (HRx.out.below hb10)); (try have HRs := Lib.hid (HRs.out.below hb10)); (try have HRj := Lib.hid (HRj.out.below hb10)); (try have HRr := Lib.hid (HRr.out.below hb10)); have HBX := bgo HBX hb10; have HRr := Lib.hid hr10; clear hr10)
    | (go_at_call 16; first
        | ((with_reducible refine (S4 _ _ _ _ _ HRr.out HRt.out).mono ?_); rintro e w12 ⟨rfl, rfl⟩)
        | ((with_reducible refine (S3 _ _ _ _ _ HRx.out HRs.out).mono ?_); rintro e w12 ⟨rfl, rfl⟩)
        | ((with_reducible refine (S2 _ _ _ _ _ HRp.out HRq.out).mono ?_); rintro e w12 ⟨rfl, rfl⟩)
        | ((with_reducible refine (S1 _ _ _ _ _ HRj.out HRk.out).mono ?_); rintro e w12 ⟨rfl, rfl⟩)))
  go_ret
  exact ⟨rfl, bgo (bal brf _) HBX⟩

theorem layerKeys_of {H : Type} {enc : TypeId × Value → H} (W : World) (base : Nat) (args : Array Value) (ds : List (DataW H)) (p : List MemPlace)
    (hval : ∀ (j : Nat) t v, Tryd.f5.params[j]? = some t → args[j]? = some v → Value.okWide Tryd.prog W .any base t v)
    (hA : DataW.TrodAll enc Tryd.prog W 0 (fun _ => true) true Tryd.f5.params.toList args.toList ds p) (hlt : ∀ x ∈ p, x.block < W.heap.size)
    (hz : (DataW.weightsEach Tryd.prog Tryd.f5.params.toList ds).all (· ≤ reachBytes) = true) (hK : Konst W) : Calls Tryd.prog 5 args W (Yes W) := by
  rw [Tryd.params5] at hA hval hz
  obtain ⟨v0, vs0, d0, ds0, p0, q0, hargs, rfl, rfl, h0, r0⟩ := trodAll_cons hA
  obtain ⟨v1, vs1, d1, ds1, p1, q1, rfl, rfl, rfl, h1, r1⟩ := trodAll_cons r0
  obtain ⟨v2, vs2, d2, ds2, p2, q2, rfl, rfl, rfl, h2, r2⟩ := trodAll_cons r1
  obtain ⟨v3, vs3, d3, ds3, p3, q3, rfl, rfl, rfl, h3, r3⟩ := trodAll_cons r2
  obtain ⟨rfl, rfl, rfl⟩ := trodAll_nil r3
  obtain rfl : args = #[v0, v1, v2, v3] := by cases args; simp_all
  obtain ⟨A, n, c, xs, rfl, hn0, hr0, hb0, hc0, hd0⟩ := open_bytes2 h0 (hval 0 _ _ rfl rfl)
  obtain ⟨l, rfl, hl, bl⟩ := open_arr Tryd.underlying35 (by kernel_rfl) (hval 1 _ _ rfl rfl) h1
  obtain ⟨z, rfl, rfl, rfl, wz2⟩ := open_int Tryd.underlying3 (hval 2 _ _ rfl rfl) h2
  obtain ⟨code, rfl, rfl, rfl, wz3⟩ := open_int Tryd.underlying5 (hval 3 _ _ rfl rfl) h3
  exact layerKeys_walk A n c xs l z code W hn0 hl hr0 bl hK
end Go.Proofs.YtgclcpopibjocaaDoor
