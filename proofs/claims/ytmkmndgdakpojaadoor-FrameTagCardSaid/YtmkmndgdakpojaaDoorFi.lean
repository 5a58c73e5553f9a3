/- The document's Take of frames: a length, a frame that may not be. -/
import Derived.Test.YtmkmndgdakpojaaDoorFh
namespace Go.Proofs.YtmkmndgdakpojaaDoor
open Go.RowKit
set_option linter.unusedSimpArgs false
set_option linter.unusedVariables false
set_option maxRecDepth 100000


set_option maxHeartbeats 4000000 in
theorem rtake_size (P : Option Addr) (pn pc : Nat) (key : List Int) (B o n t c : Nat) (b : List Int) (w : World) (hp : key.length = pn) (hp4 : pn ≤ 4000) (hpx : Rd w P (nums .u8 key)) (hn : b.length = n) (hnc : n ≤ c) (hcm : c ≤ maxLen) (ht : n = t + 32) (ht2 : 2 ≤ t) (h2k : n ≤ 2000) (hx : Rd w (some ⟨B, o, none⟩) (nums .u8 b)) (hb : Byt b) (hs : stOk ((b.take t).drop 2)) (hl : 28 + paM (b.take t) ≤ t) (hz : paS (b.take t) ≠ t - (28 + paM (b.take t))) :
    Calls Tryd.prog 12 #[.slice P pn pc, .slice (some ⟨B, o, none⟩) n c] w (NoFr 3 w) := by
  have hil : (b.take t).length = t := by rw [List.length_take]; omega
  have bi : Byt (b.take t) := fun x hx => hb x (List.mem_of_mem_take hx)
  have hd : ((b.take t).drop 2).length = t - 2 := by rw [List.length_drop, hil]
  have e1 : (n : Int) - 32 = (t : Int) := by omega
  have HX := Lib.hid ((hx.take t).below (bal brf (.cells #[.int .i64 0, .int .i64 0, .int .u64 0, .int .u64 0, .slice none 0 0, .int .i64 0, .int .i64 0, .slice none 0 0] 30)))
  have HX2 := Lib.hid ((rd_dropF (hx.take t) 2).below (bal brf (.cells #[.int .i64 0, .int .i64 0, .int .u64 0, .int .u64 0, .slice none 0 0, .int .i64 0, .int .i64 0, .slice none 0 0] 30)))
  have HT := Lib.hid ((rd_dropF hx t).below (bal brf (.cells #[.int .i64 0, .int .i64 0, .int .u64 0, .int .u64 0, .slice none 0 0, .int .i64 0, .int .i64 0, .slice none 0 0] 30)))
  have HP := Lib.hid (hpx.below (bal brf (.cells #[.int .i64 0, .int .i64 0, .int .u64 0, .int .u64 0, .slice none 0 0, .int .i64 0, .int .i64 0, .slice none 0 0] 30)))
  have HOUT := Lib.hid (frOut_new w 30)
  have HBW0 : Hid (t ≠ 0 → B < w.heap.size) := Lib.hid (fun h => by
    obtain ⟨b', o', he, hl, _⟩ := hx.at_ (by simp; omega)
    cases he
    exact hl)
  unfold maxLen at hcm
  have t0_ : (0 : Int) ≤ t := by omega
  have t1_ : t ≤ c := by omega
  have t2_ : (t : Int) ≤ c := by omega
  have t3_ : n - t = 32 := by omega
  have t4_ : ¬ c = t := by omega
  have t5_ : (t : Int) ≤ n := by omega
  have t6_ : t ≤ n := by omega
  have t7_ : ¬ c = 2 := by omega
  have CT0 := fun (W : World) h0 => rtk_yes (A := some ⟨B, o + 2, none⟩) (n := t - 2) (c := c - 2) (xs := (b.take t).drop 2) W hd (by omega) (by unfold maxLen; omega) h0 (fun x hx => bi x (List.mem_of_mem_drop hx)) hs
  have hd2 : 19 + paM (b.take t) ≤ t := by have := hs.2.1; rw [hd] at this; show 19 + tkM ((b.take t).drop 2) ≤ t; omega
  obtain ⟨cc, hcc⟩ : ∃ cc, cc = b.take t := ⟨_, rfl⟩
  have hcl : cc.length = t := by rw [hcc]; exact hil
  rw [← hcc] at CT0 hs hd2 hl HX HX2 hz
  obtain ⟨m, hm⟩ : ∃ m, m = paM cc := ⟨_, rfl⟩
  have CT : ∀ W : World, Rd W (some ⟨B, o + 2, none⟩) (nums .u8 (cc.drop 2)) → Calls Tryd.prog 24 #[.slice (some ⟨B, o + 2, none⟩) (t - 2) (c - 2)] W fun e w' => ∃ A c, e = .returned (.tuple #[.agg #[.int .u64 ((paE cc : Nat) : Int), .int .u64 ((paO cc : Nat) : Int), .slice A m c], .int .i64 (17 + (m : Int)), .int .i64 0]) ∧ m ≤ c ∧ w'.ownsRow W.heap.size 3 1 (.slice A m c) m (nums .i64 (paX cc)) ∧ Below W.heap.size W w' := fun W h0 => (CT0 W h0).mono fun e w' ⟨A, c, he, hc, ho, hbw⟩ => ⟨A, c, by rw [hm]; exact he, by rw [hm]; exact hc, by rw [hm]; exact ho, hbw⟩
  have hm19 : 19 + m ≤ t := by rw [hm]; exact hd2
  clear CT0
  obtain ⟨i0, hi, hz0, hz1, hz2⟩ := info_parts infoByteT
  have hl2 : 28 + m ≤ t := by rw [hm]; exact hl
  have bi : Byt cc := by rw [hcc]; exact bi
  obtain ⟨r, hr⟩ : ∃ r, r = t - (28 + m) := ⟨_, rfl⟩
  obtain ⟨rc, hrc⟩ : ∃ rc, rc = c - (2 + (17 + m)) := ⟨_, rfl⟩
  have lR : (paR cc).length = 9 + r := by rw [paR, List.length_drop, ← hm, hcl]; omega
  have e19 : paR cc = cc.drop (2 + (17 + m)) := by rw [paR, ← hm]; congr 1; omega
  have bR : Byt (paR cc) := fun x hx => bi x (List.mem_of_mem_drop hx)
  have CG1 := fun (W : World) (h0 : Rd W (some ⟨B, o, none⟩) (nums .u8 cc)) => rget_any (some ⟨B, o + (2 + (17 + m)) + 1, none⟩) 4 (rc - 1) (((paR cc).drop 1).take 4) W (by rw [List.length_take, List.length_drop, lR]; omega) (by have := (rd_dropF h0 (2 + (17 + m))).part 1 4; rwa [← e19] at this) (fun x hx => bR x (List.mem_of_mem_drop (List.mem_of_mem_take hx))) (by omega) (by omega)
  have CG2 := fun (W : World) (h0 : Rd W (some ⟨B, o, none⟩) (nums .u8 cc)) => rget_any (some ⟨B, o + (2 + (17 + m)) + 5, none⟩) 4 (rc - 5) (((paR cc).drop 5).take 4) W (by rw [List.length_take, List.length_drop, lR]; omega) (by have := (rd_dropF h0 (2 + (17 + m))).part 5 4; rwa [← e19] at this) (fun x hx => bR x (List.mem_of_mem_drop (List.mem_of_mem_take hx))) (by omega) (by omega)
  have hQ : valB (((paR cc).drop 1).take 4) = paQ cc := rfl
  have hS : valB (((paR cc).drop 5).take 4) = paS cc := rfl
  rw [hQ] at CG1
  rw [hS] at CG2
  have q32 : paQ cc < 4294967296 := paQ_lt bi
  have s32 : paS cc < 4294967296 := by
    have h := valB_lt (l := ((paR cc).drop 5).take 4) (fun x hx => bR x (List.mem_of_mem_drop (List.mem_of_mem_take hx)))
    have h2 : (((paR cc).drop 5).take 4).length ≤ 4 := List.length_take_le _ _
    have h3 : 2 ^ (8 * (((paR cc).drop 5).take 4).length) ≤ 2 ^ 32 := Nat.pow_le_pow_right (by omega) (by omega)
    have h4 : (2 : Nat) ^ 32 = 4294967296 := by decide
    unfold paS
    omega
  have lB : (paB cc).length = r := by rw [paB, List.length_drop, lR]; omega
  have RB := Lib.hid (fun (W : World) (h0 : Rd W (some ⟨B, o, none⟩) (nums .u8 cc)) => (show Rd W (some ⟨B, o + (2 + (17 + m)) + 9, none⟩) (nums .u8 (paB cc)) from by
    have := rd_dropF (rd_dropF h0 (2 + (17 + m))) 9
    rwa [← e19] at this))
  have k9 : cc.getD (19 + m) 0 = paK cc := by
    rw [paK, paR, ← hm]; simp [List.getD, List.getElem?_drop]
  have hcs : ∀ W : World, Rd W (some ⟨B, o, none⟩) (nums .u8 cc) → W.cell? ⟨B, o, none⟩ = some (.int .u8 (cc.getD 0 0)) ∧ W.cell? ⟨B, o + 1, none⟩ = some (.int .u8 (cc.getD 1 0)) ∧ W.cell? ⟨B, o + (2 + (17 + m)), none⟩ = some (.int .u8 (paK cc)) := fun W h0 => by
    obtain ⟨b', o', he, _, hc⟩ := h0.at_ (by simp; omega)
    cases he
    have a0 := hc 0 _ (nums_at (by omega))
    have a1 := hc 1 _ (nums_at (by omega))
    have a2 := hc (19 + m) _ (nums_at (by omega))
    rw [k9] at a2
    exact ⟨by simpa using a0, a1, by rw [show 2 + (17 + m) = 19 + m by omega]; exact a2⟩
  have HCS := Lib.hid hcs
  have bb : ∀ i, i < t → 0 ≤ cc.getD i 0 ∧ cc.getD i 0 ≤ 255 := fun i hi => bi _ (by simp [List.getD, List.getElem?_eq_getElem (show i < cc.length by omega)])
  obtain ⟨g0, g1⟩ := bb 0 (by omega)
  obtain ⟨g2, g3⟩ := bb 1 (by omega)
  obtain ⟨g4, g5⟩ := bb (19 + m) (by omega)
  rw [k9] at g4 g5
  have mX : (paX cc).length = m := by rw [hm]; exact tkX_len hs
  have c1 : ¬ rc = 1 := by omega
  have c5 : ¬ rc = 5 := by omega
  have c9 : ¬ rc = 9 := by omega
  have c0 : 41 + r ≤ rc := by omega
  have hrr : t - (2 + (17 + m)) = 9 + r := by omega
  have hrc2 := hrc.symm
  have nM : 28 + m + r ≤ t := by omega
  have r2k : r ≤ 2000 := by omega
  clear hcs
  rw [← hm, ← hr] at hz
  obtain ⟨f0, hf0⟩ : ∃ f, f = cc.getD 0 0 := ⟨_, rfl⟩
  obtain ⟨t0, ht0⟩ : ∃ f, f = cc.getD 1 0 := ⟨_, rfl⟩
  obtain ⟨k0, hk0⟩ : ∃ f, f = paK cc := ⟨_, rfl⟩
  obtain ⟨q0, hq0⟩ : ∃ f, f = paQ cc := ⟨_, rfl⟩
  obtain ⟨s0, hs0⟩ : ∃ f, f = paS cc := ⟨_, rfl⟩
  rw [← hf0] at g0 g1 HCS
  rw [← ht0] at g2 g3 HCS
  rw [← hk0] at g4 g5 HCS
  rw [← hq0] at q32 CG1
  rw [← hs0] at s32 CG2 hz
  have hzb : ((s0 : Int) != (r : Int)) = true := by simp; omega
  clear hz
  have w1_ : IntKind.i64.wrap f0 = f0 := IntWalk.i64_in _ (by omega)
  have w2_ : IntKind.i64.wrap t0 = t0 := IntWalk.i64_in _ (by omega)
  have w3_ : IntKind.i64.wrap k0 = k0 := IntWalk.i64_in _ (by omega)
  have w4_ : IntKind.i64.wrap (q0 : Int) = (q0 : Int) := IntWalk.i64_in _ (by omega)
  have HW := Lib.hid (And.intro w1_ (And.intro w2_ (And.intro w3_ w4_)))
  have HM := Lib.hid hm
  have HLB := Lib.hid lB
  have z1 : 0 < t := by omega
  have z2 : 1 < t := by omega
  have z3 : (1 : Int) < t := by omega
  have z4 : (0 : Int) < t := by omega
  have z5 : 0 < 9 + r := by omega
  have z6 : (0 : Int) < 9 + r := by omega
  have z7 : (9 : Int) ≤ 9 + r := by omega
  have hBlt := HBW0.out (by omega)
  clear hp hpx hn hx hb hil bi hd ht hs hl hd2 hcc hm hr hrc lR e19 bR hQ hS lB k9 bb mX hf0 ht0 hk0 hq0 hs0 w1_ w2_ w3_ w4_ hl2 hcl HBW0 hBlt
  go_enter Tryd.func12, Tryd.ntmps12
  go_upto_region 10 with (first
    | (go_at_call 24; go_must (refine (CT _ HX2.out).mono ?_; rintro e w1 ⟨A1, c1, rfl, hc1, ho1, hb1⟩; have HB1 := Lib.hid (bal (bgo (bal brf _) hb1) (.cells #[.int .u64 ((paE cc : Nat) : Int), .int .u64 ((paO cc : Nat) : Int), .slice A1 m c1] 28)); have HX := Lib.hid ((HX.out.below hb1).below (bal brf (.cells #[.int .u64 ((paE cc : Nat) : Int), .int .u64 ((paO cc : Nat) : Int), .slice A1 m c1] 28))); have HT := Lib.hid ((HT.out.below hb1).below (bal brf (.cells #[.int .u64 ((paE cc : Nat) : Int), .int .u64 ((paO cc : Nat) : Int), .slice A1 m c1] 28))); have HP := Lib.hid ((HP.out.below hb1).below (bal brf (.cells #[.int .u64 ((paE cc : Nat) : Int), .int .u64 ((paO cc : Nat) : Int), .slice A1 m c1] 28))); have HOUT := Lib.hid ((HOUT.out.below hb1).below (bal brf (.cells #[.int .u64 ((paE cc : Nat) : Int), .int .u64 ((paO cc : Nat) : Int), .slice A1 m c1] 28))); have HO1 := Lib.hid (ho1.alloc (.cells #[.int .u64 ((paE cc : Nat) : Int), .int .u64 ((paO cc : Nat) : Int), .slice A1 m c1] 28)); have HSZ := Lib.hid hb1.size; clear ho1))
    | (go_at_call 25; first
    | ((with_reducible refine (CG1 _ HX.out).mono ?_); rintro e w2 ⟨rfl, rfl⟩)
    | ((with_reducible refine (CG2 _ HX.out).mono ?_); rintro e w2 ⟨rfl, rfl⟩)))
  obtain ⟨w1_, w2_, w3_, w4_⟩ := HW.out
  have HQW : Hid (w.heap.size < (w1.alloc (.cells #[.int .u64 ((paE cc : Nat) : Int), .int .u64 ((paO cc : Nat) : Int), .slice A1 m c1] 28)).heap.size) := Lib.hid (by have := HSZ.out; simp only [World.size_alloc] at this ⊢; omega)
  have HCELLS := Lib.hid (fun (W : World) (hW : Below (w1.alloc (.cells #[.int .u64 ((paE cc : Nat) : Int), .int .u64 ((paO cc : Nat) : Int), .slice A1 m c1] 28)).heap.size (w1.alloc (.cells #[.int .u64 ((paE cc : Nat) : Int), .int .u64 ((paO cc : Nat) : Int), .slice A1 m c1] 28)) W) => (show (W.cell? ⟨B, o, none⟩ = some (.int .u8 f0) ∧ W.cell? ⟨B, o + 1, none⟩ = some (.int .u8 t0) ∧ W.cell? ⟨B, o + (2 + (17 + m)), none⟩ = some (.int .u8 k0)) ∧ W.cell? ⟨w1.heap.size, 0, none⟩ = some (.int .u64 ((paE cc : Nat) : Int)) ∧ W.cell? ⟨w1.heap.size, 1, none⟩ = some (.int .u64 ((paO cc : Nat) : Int)) ∧ W.cell? ⟨w1.heap.size, 2, none⟩ = some (.slice A1 m c1) from ⟨HCS.out W (HX.out.below hW), (hW.cell (p := ⟨w1.heap.size, 0, none⟩) (by simp)).trans (new3_0 _ _ _ _ _), (hW.cell (p := ⟨w1.heap.size, 1, none⟩) (by simp)).trans (new3_1 _ _ _ _ _), (hW.cell (p := ⟨w1.heap.size, 2, none⟩) (by simp)).trans (new3_2 _ _ _ _ _)⟩))
  have hS : Below (w1.alloc (.cells #[.int .u64 ((paE cc : Nat) : Int), .int .u64 ((paO cc : Nat) : Int), .slice A1 m c1] 28)).heap.size (w1.alloc (.cells #[.int .u64 ((paE cc : Nat) : Int), .int .u64 ((paO cc : Nat) : Int), .slice A1 m c1] 28)) (w1.alloc (.cells #[.int .u64 ((paE cc : Nat) : Int), .int .u64 ((paO cc : Nat) : Int), .slice A1 m c1] 28)).drew := bdr brf
  refine wp_region_held_drew (S := fun x => Below (w1.alloc (.cells #[.int .u64 ((paE cc : Nat) : Int), .int .u64 ((paO cc : Nat) : Int), .slice A1 m c1] 28)).heap.size (w1.alloc (.cells #[.int .u64 ((paE cc : Nat) : Int), .int .u64 ((paO cc : Nat) : Int), .slice A1 m c1] 28)) x) (by kernel_rfl) hS (fun hHeld => ?_)
  clear hHeld
  refine takeH (i := 0) (oi := ?oiu1) ?vu1 (by kernel_rfl) (by with_reducible exact hS) ?hiu1 ?hQu1 ?hyu1 ?_
  case hiu1 => simp only [List.getElem?_toArray, List.getElem?_cons_succ, List.getElem?_cons_zero]; rfl
  case hQu1 => exact fun _ _ _ h => h
  case hyu1 =>
    refine Or.inl ⟨by rfl, ?_⟩
    rintro W9 hSw
    obtain ⟨⟨y0, y1, y2⟩, y3, y4, y5⟩ := HCELLS.out W9 hSw
    go_simp
    rfl
  try simp only [Act.put, List.setIfInBounds_toArray, List.set_cons_zero, List.set_cons_succ]
  refine takeH (i := 1) (oi := ?oiu2) ?vu2 (by kernel_rfl) (by with_reducible exact hS) ?hiu2 ?hQu2 ?hyu2 ?_
  case hiu2 => simp only [List.getElem?_toArray, List.getElem?_cons_succ, List.getElem?_cons_zero]; rfl
  case hQu2 => exact fun _ _ _ h => h
  case hyu2 =>
    refine Or.inl ⟨by rfl, ?_⟩
    rintro W9 hSw
    obtain ⟨⟨y0, y1, y2⟩, y3, y4, y5⟩ := HCELLS.out W9 hSw
    go_simp
    rfl
  try simp only [Act.put, List.setIfInBounds_toArray, List.set_cons_zero, List.set_cons_succ]
  refine takeH (i := 2) (oi := ?oiu3) ?vu3 (by kernel_rfl) (by with_reducible exact hS) ?hiu3 ?hQu3 ?hyu3 ?_
  case hiu3 => simp only [List.getElem?_toArray, List.getElem?_cons_succ, List.getElem?_cons_zero]; rfl
  case hQu3 => exact fun _ _ _ h => h
  case hyu3 =>
    refine Or.inl ⟨by rfl, ?_⟩
    rintro W9 hSw
    obtain ⟨⟨y0, y1, y2⟩, y3, y4, y5⟩ := HCELLS.out W9 hSw
    go_simp
    rfl
  try simp only [Act.put, List.setIfInBounds_toArray, List.set_cons_zero, List.set_cons_succ]
  refine takeH (i := 3) (oi := ?oiu4) ?vu4 (by kernel_rfl) (by with_reducible exact hS) ?hiu4 ?hQu4 ?hyu4 ?_
  case hiu4 => simp only [List.getElem?_toArray, List.getElem?_cons_succ, List.getElem?_cons_zero]; rfl
  case hQu4 => exact fun _ _ _ h => h
  case hyu4 =>
    refine Or.inl ⟨by rfl, ?_⟩
    rintro W9 hSw
    obtain ⟨⟨y0, y1, y2⟩, y3, y4, y5⟩ := HCELLS.out W9 hSw
    go_simp
    rfl
  try simp only [Act.put, List.setIfInBounds_toArray, List.set_cons_zero, List.set_cons_succ]
  refine takeH (i := 4) (oi := ?oiu5) ?vu5 (by kernel_rfl) (by with_reducible exact hS) ?hiu5 ?hQu5 ?hyu5 ?_
  case hiu5 => simp only [List.getElem?_toArray, List.getElem?_cons_succ, List.getElem?_cons_zero]; rfl
  case hQu5 => exact fun _ _ _ h => h
  case hyu5 =>
    refine Or.inl ⟨by rfl, ?_⟩
    rintro W9 hSw
    obtain ⟨⟨y0, y1, y2⟩, y3, y4, y5⟩ := HCELLS.out W9 hSw
    go_simp
    rfl
  try simp only [Act.put, List.setIfInBounds_toArray, List.set_cons_zero, List.set_cons_succ]
  refine takeH (i := 5) (oi := ?oiu6) ?vu6 (by kernel_rfl) (by with_reducible exact hS) ?hiu6 ?hQu6 ?hyu6 ?_
  case hiu6 => simp only [List.getElem?_toArray, List.getElem?_cons_succ, List.getElem?_cons_zero]; rfl
  case hQu6 => exact fun _ _ _ h => h
  case hyu6 =>
    refine Or.inl ⟨by rfl, ?_⟩
    rintro W9 hSw
    obtain ⟨⟨y0, y1, y2⟩, y3, y4, y5⟩ := HCELLS.out W9 hSw
    go_simp
    rfl
  try simp only [Act.put, List.setIfInBounds_toArray, List.set_cons_zero, List.set_cons_succ]
  refine takeH (i := 6) (oi := ?oiu7) ?vu7 (by kernel_rfl) (by with_reducible exact hS) ?hiu7 ?hQu7 ?hyu7 ?_
  case hiu7 => simp only [List.getElem?_toArray, List.getElem?_cons_succ, List.getElem?_cons_zero]; rfl
  case hQu7 => exact fun _ _ _ h => h
  case hyu7 =>
    refine Or.inl ⟨by rfl, ?_⟩
    rintro W9 hSw
    obtain ⟨⟨y0, y1, y2⟩, y3, y4, y5⟩ := HCELLS.out W9 hSw
    go_simp
    rfl
  try simp only [Act.put, List.setIfInBounds_toArray, List.set_cons_zero, List.set_cons_succ]
  refine takeH (i := 7) (oi := ?oiu8) ?vu8 (by kernel_rfl) (by with_reducible exact hS) ?hiu8 ?hQu8 ?hyu8 ?_
  case hiu8 => simp only [List.getElem?_toArray, List.getElem?_cons_succ, List.getElem?_cons_zero]; rfl
  case hQu8 => exact fun _ _ _ h => h
  case hyu8 =>
    refine Or.inl ⟨by rfl, ?_⟩
    rintro W9 hSw
    obtain ⟨⟨y0, y1, y2⟩, y3, y4, y5⟩ := HCELLS.out W9 hSw
    go_simp
    rfl
  try simp only [Act.put, List.setIfInBounds_toArray, List.set_cons_zero, List.set_cons_succ]
  refine takeH (i := 8) (oi := ?oiu9) ?vu9 (by kernel_rfl) (by with_reducible exact hS) ?hiu9 ?hQu9 ?hyu9 ?_
  case hiu9 => simp only [List.getElem?_toArray, List.getElem?_cons_succ, List.getElem?_cons_zero]; rfl
  case hQu9 => exact fun _ _ _ h => h
  case hyu9 =>
    refine Or.inl ⟨by rfl, ?_⟩
    rintro W9 hSw
    obtain ⟨⟨y0, y1, y2⟩, y3, y4, y5⟩ := HCELLS.out W9 hSw
    go_simp
    rfl
  try simp only [Act.put, List.setIfInBounds_toArray, List.set_cons_zero, List.set_cons_succ]
  refine takeH (i := 9) (oi := ?oiu10) ?vu10 (by kernel_rfl) (by with_reducible exact hS) ?hiu10 ?hQu10 ?hyu10 ?_
  case hiu10 => simp only [List.getElem?_toArray, List.getElem?_cons_succ, List.getElem?_cons_zero]; rfl
  case hQu10 => exact fun _ _ _ h => h
  case hyu10 =>
    refine Or.inl ⟨by rfl, ?_⟩
    rintro W9 hSw
    obtain ⟨⟨y0, y1, y2⟩, y3, y4, y5⟩ := HCELLS.out W9 hSw
    go_simp
    rfl
  try simp only [Act.put, List.setIfInBounds_toArray, List.set_cons_zero, List.set_cons_succ]
  refine takeH (i := 10) (oi := ?oiu11) ?vu11 (by kernel_rfl) (by with_reducible exact hS) ?hiu11 ?hQu11 ?hyu11 ?_
  case hiu11 => simp only [List.getElem?_toArray, List.getElem?_cons_succ, List.getElem?_cons_zero]; rfl
  case hQu11 => exact fun _ _ _ h => h
  case hyu11 =>
    refine Or.inl ⟨by rfl, ?_⟩
    rintro W9 hSw
    obtain ⟨⟨y0, y1, y2⟩, y3, y4, y5⟩ := HCELLS.out W9 hSw
    go_simp
    rfl
  try simp only [Act.put, List.setIfInBounds_toArray, List.set_cons_zero, List.set_cons_succ]
  refine takeH (i := 11) (oi := ?oiu12) ?vu12 (by kernel_rfl) (by with_reducible exact hS) ?hiu12 ?hQu12 ?hyu12 ?_
  case hiu12 => simp only [List.getElem?_toArray, List.getElem?_cons_succ, List.getElem?_cons_zero]; rfl
  case hQu12 => exact fun _ _ _ h => h
  case hyu12 =>
    refine Or.inl ⟨by rfl, ?_⟩
    rintro W9 hSw
    obtain ⟨⟨y0, y1, y2⟩, y3, y4, y5⟩ := HCELLS.out W9 hSw
    go_simp
    rfl
  try simp only [Act.put, List.setIfInBounds_toArray, List.set_cons_zero, List.set_cons_succ]
  refine takeH (i := 12) (oi := ?oiu13) ?vu13 (by kernel_rfl) (by with_reducible exact hS) ?hiu13 ?hQu13 ?hyu13 ?_
  case hiu13 => simp only [List.getElem?_toArray, List.getElem?_cons_succ, List.getElem?_cons_zero]; rfl
  case hQu13 => exact fun _ _ _ h => h
  case hyu13 =>
    refine Or.inl ⟨by rfl, ?_⟩
    rintro W9 hSw
    obtain ⟨⟨y0, y1, y2⟩, y3, y4, y5⟩ := HCELLS.out W9 hSw
    go_simp
    rfl
  try simp only [Act.put, List.setIfInBounds_toArray, List.set_cons_zero, List.set_cons_succ]
  refine takeH (i := 13) (oi := ?oiu14) ?vu14 (by kernel_rfl) (by with_reducible exact hS) ?hiu14 ?hQu14 ?hyu14 ?_
  case hiu14 => simp only [List.getElem?_toArray, List.getElem?_cons_succ, List.getElem?_cons_zero]; rfl
  case hQu14 => exact fun _ _ _ h => h
  case hyu14 =>
    refine Or.inl ⟨by rfl, ?_⟩
    rintro W9 hSw
    obtain ⟨⟨y0, y1, y2⟩, y3, y4, y5⟩ := HCELLS.out W9 hSw
    go_simp
    rfl
  try simp only [Act.put, List.setIfInBounds_toArray, List.set_cons_zero, List.set_cons_succ]
  refine takeH (i := 14) (oi := ?oiu15) ?vu15 (by kernel_rfl) (by with_reducible exact hS) ?hiu15 ?hQu15 ?hyu15 ?_
  case hiu15 => simp only [List.getElem?_toArray, List.getElem?_cons_succ, List.getElem?_cons_zero]; rfl
  case hQu15 => exact fun _ _ _ h => h
  case hyu15 =>
    refine Or.inl ⟨by rfl, ?_⟩
    rintro W9 hSw
    obtain ⟨⟨y0, y1, y2⟩, y3, y4, y5⟩ := HCELLS.out W9 hSw
    go_simp
    rfl
  try simp only [Act.put, List.setIfInBounds_toArray, List.set_cons_zero, List.set_cons_succ]
  refine takeH (i := 15) (oi := ?oiu16) ?vu16 (by kernel_rfl) (by with_reducible exact hS) ?hiu16 ?hQu16 ?hyu16 ?_
  case hiu16 => simp only [List.getElem?_toArray, List.getElem?_cons_succ, List.getElem?_cons_zero]; rfl
  case hQu16 => exact fun _ _ _ h => h
  case hyu16 =>
    refine Or.inl ⟨by rfl, ?_⟩
    rintro W9 hSw
    obtain ⟨⟨y0, y1, y2⟩, y3, y4, y5⟩ := HCELLS.out W9 hSw
    go_simp
    rfl
  try simp only [Act.put, List.setIfInBounds_toArray, List.set_cons_zero, List.set_cons_succ]
  refine takeH (i := 16) (oi := ?oiu17) ?vu17 (by kernel_rfl) (by with_reducible exact hS) ?hiu17 ?hQu17 ?hyu17 ?_
  case hiu17 => simp only [List.getElem?_toArray, List.getElem?_cons_succ, List.getElem?_cons_zero]; rfl
  case hQu17 => exact fun _ _ _ h => h
  case hyu17 =>
    refine Or.inl ⟨by rfl, ?_⟩
    rintro W9 hSw
    obtain ⟨⟨y0, y1, y2⟩, y3, y4, y5⟩ := HCELLS.out W9 hSw
    go_simp
    rfl
  try simp only [Act.put, List.setIfInBounds_toArray, List.set_cons_zero, List.set_cons_succ]
  refine wpAnyH_ready (rs := [17, 19]) (by kernel_rfl) (by simp) (AllReadyH.cons (o := ?oau18) ?hau18 (fun K hK => ?_) (AllReadyH.cons (o := ?obu18) ?hbu18 (fun K hK => ?_) AllReadyH.nil))
  case hau18 => simp only [List.getElem?_toArray, List.getElem?_cons_succ, List.getElem?_cons_zero]; rfl
  case hbu18 => simp only [List.getElem?_toArray, List.getElem?_cons_succ, List.getElem?_cons_zero]; rfl
  · skip
    refine step_append_vs rfl _ _ 22 (by rfl) (w1.alloc (.cells #[.int .u64 ((paE cc : Nat) : Int), .int .u64 ((paO cc : Nat) : Int), .slice A1 m c1] 28)).heap.size 5 i0 (.int .u8 0) 1 Tryd.underlying22 hi hz0 hz1 hz2 rfl (.slice none 0 0) 0 [] (by rfl) ⟨rfl, .inl ⟨rfl, rfl⟩⟩ (some ⟨B, o + (2 + (17 + m)) + 9, none⟩) r (rc - 9) (nums .u8 (paB cc)) (by rfl) (by simp [HLB.out]) (RB.out _ (HX.out.below (bdr brf))) nums_u8_one (by unfold maxLen; omega) (by omega) (by simp) ?_
    intro v4 w4 hown4 hgrow4
    rw [Nat.zero_add, List.nil_append] at hown4
    have hb4x := (brf (w := (w1.alloc (.cells #[.int .u64 ((paE cc : Nat) : Int), .int .u64 ((paO cc : Nat) : Int), .slice A1 m c1] 28)).drew)).grown hgrow4 (Nat.le_refl _) (fun k e => by simp [Value.ownBlock] at e)
    have hb4 : Below (w1.alloc (.cells #[.int .u64 ((paE cc : Nat) : Int), .int .u64 ((paO cc : Nat) : Int), .slice A1 m c1] 28)).heap.size (w1.alloc (.cells #[.int .u64 ((paE cc : Nat) : Int), .int .u64 ((paO cc : Nat) : Int), .slice A1 m c1] 28)) w4 := bgo (bdr brf) hb4x
    obtain ⟨A4, d4, rfl⟩ := own_slice hown4
    clear hgrow4
    have hS := hb4
    refine hK.out _ _ (by with_reducible exact hS) (fun hHeld => ?_)
    clear hK K hHeld
    try simp only [Act.put, List.setIfInBounds_toArray, List.set_cons_zero, List.set_cons_succ]
    refine takeH (i := 18) (oi := ?oiu19) ?vu19 (by kernel_rfl) (by with_reducible exact hS) ?hiu19 ?hQu19 ?hyu19 ?_
    case hiu19 => simp only [List.getElem?_toArray, List.getElem?_cons_succ, List.getElem?_cons_zero]; rfl
    case hQu19 => exact fun _ _ _ h => h
    case hyu19 =>
      refine Or.inl ⟨by rfl, ?_⟩
      rintro W9 hSw
      obtain ⟨⟨y0, y1, y2⟩, y3, y4, y5⟩ := HCELLS.out W9 hSw
      go_simp
      rfl
    try simp only [Act.put, List.setIfInBounds_toArray, List.set_cons_zero, List.set_cons_succ]
    refine onlyH (i := 19) (oi := ?oiu20) (by kernel_rfl) ?hiu20 (fun K hK => ?_)
    case hiu20 => simp only [List.getElem?_toArray, List.getElem?_cons_succ, List.getElem?_cons_zero]; rfl
    go_simp
    have hS := bal hb4 (.cells #[.int .i64 0, .int .i64 0, .int .u64 0, .int .u64 0, .slice none 0 0, .int .i64 0, .int .i64 0, .slice none 0 0] 30)
    refine hK.out _ _ (by with_reducible exact hS) (fun hHeld => ?_)
    clear hK K hHeld
    try simp only [Act.put, List.setIfInBounds_toArray, List.set_cons_zero, List.set_cons_succ]
    refine onlyH (i := 20) (oi := ?oiu21) (by kernel_rfl) ?hiu21 (fun K hK => ?_)
    case hiu21 => simp only [List.getElem?_toArray, List.getElem?_cons_succ, List.getElem?_cons_zero]; rfl
    rw [if_pos (by rfl)]
    refine store8op _ _ rfl w4.heap.size #[.int .i64 f0, .int .i64 t0, .int .u64 ((paE cc : Nat) : Int), .int .u64 ((paO cc : Nat) : Int), .slice A1 m c1, .int .i64 k0, .int .i64 (q0 : Int), .slice A4 r d4] rfl rfl (frOut_new w4 _) rfl (by kernel_rfl) ?_
    intro W5 hT5
    have hS0 := hS
    have hS : Below (w1.alloc (.cells #[.int .u64 ((paE cc : Nat) : Int), .int .u64 ((paO cc : Nat) : Int), .slice A1 m c1] 28)).heap.size (w1.alloc (.cells #[.int .u64 ((paE cc : Nat) : Int), .int .u64 ((paO cc : Nat) : Int), .slice A1 m c1] 28)) W5 := hT5.below (w1.alloc (.cells #[.int .u64 ((paE cc : Nat) : Int), .int .u64 ((paO cc : Nat) : Int), .slice A1 m c1] 28)) (hb4.size) hS0
    refine hK.out _ _ (by with_reducible exact hS) (fun hHeld => ?_)
    clear hK K hHeld
    try simp only [Act.put, List.setIfInBounds_toArray, List.set_cons_zero, List.set_cons_succ]
    refine wpAnyH_done (by kernel_rfl) ?_ _
    have hown5 := hT5.ownN (hown4.alloc (.cells #[.int .i64 0, .int .i64 0, .int .u64 0, .int .u64 0, .slice none 0 0, .int .i64 0, .int .i64 0, .slice none 0 0] 30)) (fun g hg => Nat.ne_of_lt (hown4.lt g hg).2)
    have hbx5 := frBox_row hT5.row (by rw [hT5.size]; simp)
    clear hown4 hb4 hS0 hT5
    have HO5 := Lib.hid hown5
    have HBOX := Lib.hid hbx5
    have HX1 := Lib.hid (Rd.of_own (own_below HO1.out hS))
    have HO1 := Lib.hid (own_below HO1.out hS)
    have HOUT := Lib.hid (HOUT.out.below hS)
    have HP := Lib.hid (HP.out.below hS)
    have HX := Lib.hid (HX.out.below hS)
    have HT := Lib.hid (HT.out.below hS)
    have HB1 := Lib.hid (bgo HB1.out hS)
    obtain ⟨s_, b0, b1, b2, b3, b4, b5, b6, b7⟩ := HBOX.out
    clear hown5 hbx5
    go_upto_region 12 with fail
    iterate 4 go_step
    refine store8 rfl _ _ rfl w.heap.size #[.int .i64 0, .int .i64 0, .int .u64 0, .int .u64 0, .slice none 0 0, .int .i64 0, .int .i64 0, .slice none 0 0] rfl rfl HOUT.out rfl (by kernel_rfl) ?_
    intro W5 hT5
    have HT5 := Lib.hid hT5
    clear hT5
    go_wp2_with fail
    refine bodyPost_ret (v := .tuple #[.agg #[.int .i64 0, .int .i64 0, .int .u64 0, .int .u64 0, .slice none 0 0, .int .i64 0, .int .i64 0, .slice none 0 0], .int .i64 3]) ?_ rfl ⟨rfl, HT5.out.below w (Nat.le_refl _) HB1.out⟩
    exact results_cell_tmp (p := 4) (t := 5) (by rfl) _ _ w.heap.size 0 _ _ (by rfl) HT5.out.row Tryd.underlying30 rfl infoFr8
  · skip
    go_simp
    have hS : Below (w1.alloc (.cells #[.int .u64 ((paE cc : Nat) : Int), .int .u64 ((paO cc : Nat) : Int), .slice A1 m c1] 28)).heap.size (w1.alloc (.cells #[.int .u64 ((paE cc : Nat) : Int), .int .u64 ((paO cc : Nat) : Int), .slice A1 m c1] 28)) ((w1.alloc (.cells #[.int .u64 ((paE cc : Nat) : Int), .int .u64 ((paO cc : Nat) : Int), .slice A1 m c1] 28)).alloc (.cells #[.int .i64 0, .int .i64 0, .int .u64 0, .int .u64 0, .slice none 0 0, .int .i64 0, .int .i64 0, .slice none 0 0] 30)).drew := bdr (bal brf _)
    refine hK.out _ _ (by with_reducible exact hS) (fun hHeld => ?_)
    clear hK K hHeld
    try simp only [Act.put, List.setIfInBounds_toArray, List.set_cons_zero, List.set_cons_succ]
    refine onlyH (i := 17) (oi := ?oiu22) (by kernel_rfl) ?hiu22 (fun K hK => ?_)
    case hiu22 => simp only [List.getElem?_toArray, List.getElem?_cons_succ, List.getElem?_cons_zero]; rfl
    refine step_append_vs rfl _ _ 22 (by rfl) (w1.heap.size + 1 + 1) 5 i0 (.int .u8 0) 1 Tryd.underlying22 hi hz0 hz1 hz2 rfl (.slice none 0 0) 0 [] (by rfl) ⟨rfl, .inl ⟨rfl, rfl⟩⟩ (some ⟨B, o + (2 + (17 + m)) + 9, none⟩) r (rc - 9) (nums .u8 (paB cc)) (by rfl) (by simp [HLB.out]) (RB.out _ (HX.out.below hS)) nums_u8_one (by unfold maxLen; omega) (by omega) (by simp) ?_
    intro v4 w4 hown4 hgrow4
    rw [Nat.zero_add, List.nil_append] at hown4
    have hb4x := (brf (w := ((w1.alloc (.cells #[.int .u64 ((paE cc : Nat) : Int), .int .u64 ((paO cc : Nat) : Int), .slice A1 m c1] 28)).alloc (.cells #[.int .i64 0, .int .i64 0, .int .u64 0, .int .u64 0, .slice none 0 0, .int .i64 0, .int .i64 0, .slice none 0 0] 30)).drew)).grown hgrow4 (Nat.le_refl _) (fun k e => by simp [Value.ownBlock] at e)
    have hb4 : Below (w1.alloc (.cells #[.int .u64 ((paE cc : Nat) : Int), .int .u64 ((paO cc : Nat) : Int), .slice A1 m c1] 28)).heap.size (w1.alloc (.cells #[.int .u64 ((paE cc : Nat) : Int), .int .u64 ((paO cc : Nat) : Int), .slice A1 m c1] 28)) w4 := bgo hS hb4x
    obtain ⟨A4, d4, rfl⟩ := own_slice hown4
    clear hgrow4
    have hfo : FrOut (w1.alloc (.cells #[.int .u64 ((paE cc : Nat) : Int), .int .u64 ((paO cc : Nat) : Int), .slice A1 m c1] 28)).heap.size w4 := FrOut.below (x := ((w1.alloc (.cells #[.int .u64 ((paE cc : Nat) : Int), .int .u64 ((paO cc : Nat) : Int), .slice A1 m c1] 28)).alloc (.cells #[.int .i64 0, .int .i64 0, .int .u64 0, .int .u64 0, .slice none 0 0, .int .i64 0, .int .i64 0, .slice none 0 0] 30)).drew) (show FrOut (w1.alloc (.cells #[.int .u64 ((paE cc : Nat) : Int), .int .u64 ((paO cc : Nat) : Int), .slice A1 m c1] 28)).heap.size ((w1.alloc (.cells #[.int .u64 ((paE cc : Nat) : Int), .int .u64 ((paO cc : Nat) : Int), .slice A1 m c1] 28)).alloc (.cells #[.int .i64 0, .int .i64 0, .int .u64 0, .int .u64 0, .slice none 0 0, .int .i64 0, .int .i64 0, .slice none 0 0] 30)).drew from frOut_new (w1.alloc (.cells #[.int .u64 ((paE cc : Nat) : Int), .int .u64 ((paO cc : Nat) : Int), .slice A1 m c1] 28)) 30) hb4x
    rw [World.size_alloc] at hfo
    have hS := hb4
    refine hK.out _ _ (by with_reducible exact hS) (fun hHeld => ?_)
    clear hK K hHeld
    try simp only [Act.put, List.setIfInBounds_toArray, List.set_cons_zero, List.set_cons_succ]
    refine takeH (i := 18) (oi := ?oiu23) ?vu23 (by kernel_rfl) (by with_reducible exact hS) ?hiu23 ?hQu23 ?hyu23 ?_
    case hiu23 => simp only [List.getElem?_toArray, List.getElem?_cons_succ, List.getElem?_cons_zero]; rfl
    case hQu23 => exact fun _ _ _ h => h
    case hyu23 =>
      refine Or.inl ⟨by rfl, ?_⟩
      rintro W9 hSw
      obtain ⟨⟨y0, y1, y2⟩, y3, y4, y5⟩ := HCELLS.out W9 hSw
      go_simp
      rfl
    try simp only [Act.put, List.setIfInBounds_toArray, List.set_cons_zero, List.set_cons_succ]
    refine onlyH (i := 20) (oi := ?oiu24) (by kernel_rfl) ?hiu24 (fun K hK => ?_)
    case hiu24 => simp only [List.getElem?_toArray, List.getElem?_cons_succ, List.getElem?_cons_zero]; rfl
    rw [if_pos (by rfl)]
    refine store8op _ _ rfl (w1.heap.size + 1) #[.int .i64 f0, .int .i64 t0, .int .u64 ((paE cc : Nat) : Int), .int .u64 ((paO cc : Nat) : Int), .slice A1 m c1, .int .i64 k0, .int .i64 (q0 : Int), .slice A4 r d4] rfl rfl hfo rfl (by kernel_rfl) ?_
    intro W5 hT5
    have hS0 := hS
    have hS : Below (w1.alloc (.cells #[.int .u64 ((paE cc : Nat) : Int), .int .u64 ((paO cc : Nat) : Int), .slice A1 m c1] 28)).heap.size (w1.alloc (.cells #[.int .u64 ((paE cc : Nat) : Int), .int .u64 ((paO cc : Nat) : Int), .slice A1 m c1] 28)) W5 := hT5.below (w1.alloc (.cells #[.int .u64 ((paE cc : Nat) : Int), .int .u64 ((paO cc : Nat) : Int), .slice A1 m c1] 28)) (by simp) hS0
    refine hK.out _ _ (by with_reducible exact hS) (fun hHeld => ?_)
    clear hK K hHeld
    try simp only [Act.put, List.setIfInBounds_toArray, List.set_cons_zero, List.set_cons_succ]
    refine wpAnyH_done (by kernel_rfl) ?_ _
    have hown5 : W5.ownsRow (w1.alloc (.cells #[.int .u64 ((paE cc : Nat) : Int), .int .u64 ((paO cc : Nat) : Int), .slice A1 m c1] 28)).heap.size 5 1 (.slice A4 r d4) r (nums .u8 (paB cc)) := own_baseT (hT5.own hown4 (by omega)) (by simp)
    have hbx5 := frBox_row hT5.row (by rw [hT5.size]; exact hfo.1)
    clear hown4 hb4 hS0 hT5 hfo
    have HO5 := Lib.hid hown5
    have HBOX := Lib.hid hbx5
    have HX1 := Lib.hid (Rd.of_own (own_below HO1.out hS))
    have HO1 := Lib.hid (own_below HO1.out hS)
    have HOUT := Lib.hid (HOUT.out.below hS)
    have HP := Lib.hid (HP.out.below hS)
    have HX := Lib.hid (HX.out.below hS)
    have HT := Lib.hid (HT.out.below hS)
    have HB1 := Lib.hid (bgo HB1.out hS)
    obtain ⟨s_, b0, b1, b2, b3, b4, b5, b6, b7⟩ := HBOX.out
    clear hown5 hbx5
    go_upto_region 12 with fail
    iterate 4 go_step
    refine store8 rfl _ _ rfl w.heap.size #[.int .i64 0, .int .i64 0, .int .u64 0, .int .u64 0, .slice none 0 0, .int .i64 0, .int .i64 0, .slice none 0 0] rfl rfl HOUT.out rfl (by kernel_rfl) ?_
    intro W5 hT5
    have HT5 := Lib.hid hT5
    clear hT5
    go_wp2_with fail
    refine bodyPost_ret (v := .tuple #[.agg #[.int .i64 0, .int .i64 0, .int .u64 0, .int .u64 0, .slice none 0 0, .int .i64 0, .int .i64 0, .slice none 0 0], .int .i64 3]) ?_ rfl ⟨rfl, HT5.out.below w (Nat.le_refl _) HB1.out⟩
    exact results_cell_tmp (p := 4) (t := 5) (by rfl) _ _ w.heap.size 0 _ _ (by rfl) HT5.out.row Tryd.underlying30 rfl infoFr8

set_option maxHeartbeats 4000000 in
theorem rtake_bad (P : Option Addr) (pn pc : Nat) (key : List Int) (B o n t c : Nat) (b : List Int) (w : World) (hp : key.length = pn) (hp4 : pn ≤ 4000) (hpx : Rd w P (nums .u8 key)) (hn : b.length = n) (hnc : n ≤ c) (hcm : c ≤ maxLen) (ht : n = t + 32) (ht2 : 2 ≤ t) (h2k : n ≤ 2000) (hx : Rd w (some ⟨B, o, none⟩) (nums .u8 b)) (hb : Byt b) (hs : stOk ((b.take t).drop 2)) (hl : 28 + paM (b.take t) ≤ t) (hz : paS (b.take t) = t - (28 + paM (b.take t))) (hg : ¬ paGood (b.take t)) :
    Calls Tryd.prog 12 #[.slice P pn pc, .slice (some ⟨B, o, none⟩) n c] w (NoFr 3 w) := by
  have hil : (b.take t).length = t := by rw [List.length_take]; omega
  have bi : Byt (b.take t) := fun x hx => hb x (List.mem_of_mem_take hx)
  have hd : ((b.take t).drop 2).length = t - 2 := by rw [List.length_drop, hil]
  have e1 : (n : Int) - 32 = (t : Int) := by omega
  have HX := Lib.hid ((hx.take t).below (bal brf (.cells #[.int .i64 0, .int .i64 0, .int .u64 0, .int .u64 0, .slice none 0 0, .int .i64 0, .int .i64 0, .slice none 0 0] 30)))
  have HX2 := Lib.hid ((rd_dropF (hx.take t) 2).below (bal brf (.cells #[.int .i64 0, .int .i64 0, .int .u64 0, .int .u64 0, .slice none 0 0, .int .i64 0, .int .i64 0, .slice none 0 0] 30)))
  have HT := Lib.hid ((rd_dropF hx t).below (bal brf (.cells #[.int .i64 0, .int .i64 0, .int .u64 0, .int .u64 0, .slice none 0 0, .int .i64 0, .int .i64 0, .slice none 0 0] 30)))
  have HP := Lib.hid (hpx.below (bal brf (.cells #[.int .i64 0, .int .i64 0, .int .u64 0, .int .u64 0, .slice none 0 0, .int .i64 0, .int .i64 0, .slice none 0 0] 30)))
  have HOUT := Lib.hid (frOut_new w 30)
  have HBW0 : Hid (t ≠ 0 → B < w.heap.size) := Lib.hid (fun h => by
    obtain ⟨b', o', he, hl, _⟩ := hx.at_ (by simp; omega)
    cases he
    exact hl)
  unfold maxLen at hcm
  have t0_ : (0 : Int) ≤ t := by omega
  have t1_ : t ≤ c := by omega
  have t2_ : (t : Int) ≤ c := by omega
  have t3_ : n - t = 32 := by omega
  have t4_ : ¬ c = t := by omega
  have t5_ : (t : Int) ≤ n := by omega
  have t6_ : t ≤ n := by omega
  have t7_ : ¬ c = 2 := by omega
  have CT0 := fun (W : World) h0 => rtk_yes (A := some ⟨B, o + 2, none⟩) (n := t - 2) (c := c - 2) (xs := (b.take t).drop 2) W hd (by omega) (by unfold maxLen; omega) h0 (fun x hx => bi x (List.mem_of_mem_drop hx)) hs
  have hd2 : 19 + paM (b.take t) ≤ t := by have := hs.2.1; rw [hd] at this; show 19 + tkM ((b.take t).drop 2) ≤ t; omega
  obtain ⟨cc, hcc⟩ : ∃ cc, cc = b.take t := ⟨_, rfl⟩
  have hcl : cc.length = t := by rw [hcc]; exact hil
  rw [← hcc] at CT0 hs hd2 hl HX HX2 hz hg
  obtain ⟨m, hm⟩ : ∃ m, m = paM cc := ⟨_, rfl⟩
  have CT : ∀ W : World, Rd W (some ⟨B, o + 2, none⟩) (nums .u8 (cc.drop 2)) → Calls Tryd.prog 24 #[.slice (some ⟨B, o + 2, none⟩) (t - 2) (c - 2)] W fun e w' => ∃ A c, e = .returned (.tuple #[.agg #[.int .u64 ((paE cc : Nat) : Int), .int .u64 ((paO cc : Nat) : Int), .slice A m c], .int .i64 (17 + (m : Int)), .int .i64 0]) ∧ m ≤ c ∧ w'.ownsRow W.heap.size 3 1 (.slice A m c) m (nums .i64 (paX cc)) ∧ Below W.heap.size W w' := fun W h0 => (CT0 W h0).mono fun e w' ⟨A, c, he, hc, ho, hbw⟩ => ⟨A, c, by rw [hm]; exact he, by rw [hm]; exact hc, by rw [hm]; exact ho, hbw⟩
  have hm19 : 19 + m ≤ t := by rw [hm]; exact hd2
  clear CT0
  obtain ⟨i0, hi, hz0, hz1, hz2⟩ := info_parts infoByteT
  have hl2 : 28 + m ≤ t := by rw [hm]; exact hl
  have bi : Byt cc := by rw [hcc]; exact bi
  obtain ⟨r, hr⟩ : ∃ r, r = t - (28 + m) := ⟨_, rfl⟩
  obtain ⟨rc, hrc⟩ : ∃ rc, rc = c - (2 + (17 + m)) := ⟨_, rfl⟩
  have lR : (paR cc).length = 9 + r := by rw [paR, List.length_drop, ← hm, hcl]; omega
  have e19 : paR cc = cc.drop (2 + (17 + m)) := by rw [paR, ← hm]; congr 1; omega
  have bR : Byt (paR cc) := fun x hx => bi x (List.mem_of_mem_drop hx)
  have CG1 := fun (W : World) (h0 : Rd W (some ⟨B, o, none⟩) (nums .u8 cc)) => rget_any (some ⟨B, o + (2 + (17 + m)) + 1, none⟩) 4 (rc - 1) (((paR cc).drop 1).take 4) W (by rw [List.length_take, List.length_drop, lR]; omega) (by have := (rd_dropF h0 (2 + (17 + m))).part 1 4; rwa [← e19] at this) (fun x hx => bR x (List.mem_of_mem_drop (List.mem_of_mem_take hx))) (by omega) (by omega)
  have CG2 := fun (W : World) (h0 : Rd W (some ⟨B, o, none⟩) (nums .u8 cc)) => rget_any (some ⟨B, o + (2 + (17 + m)) + 5, none⟩) 4 (rc - 5) (((paR cc).drop 5).take 4) W (by rw [List.length_take, List.length_drop, lR]; omega) (by have := (rd_dropF h0 (2 + (17 + m))).part 5 4; rwa [← e19] at this) (fun x hx => bR x (List.mem_of_mem_drop (List.mem_of_mem_take hx))) (by omega) (by omega)
  have hQ : valB (((paR cc).drop 1).take 4) = paQ cc := rfl
  have hS : valB (((paR cc).drop 5).take 4) = paS cc := rfl
  rw [hQ] at CG1
  rw [hS] at CG2
  have q32 : paQ cc < 4294967296 := paQ_lt bi
  have s32 : paS cc < 4294967296 := by
    have h := valB_lt (l := ((paR cc).drop 5).take 4) (fun x hx => bR x (List.mem_of_mem_drop (List.mem_of_mem_take hx)))
    have h2 : (((paR cc).drop 5).take 4).length ≤ 4 := List.length_take_le _ _
    have h3 : 2 ^ (8 * (((paR cc).drop 5).take 4).length) ≤ 2 ^ 32 := Nat.pow_le_pow_right (by omega) (by omega)
    have h4 : (2 : Nat) ^ 32 = 4294967296 := by decide
    unfold paS
    omega
  have lB : (paB cc).length = r := by rw [paB, List.length_drop, lR]; omega
  have RB := Lib.hid (fun (W : World) (h0 : Rd W (some ⟨B, o, none⟩) (nums .u8 cc)) => (show Rd W (some ⟨B, o + (2 + (17 + m)) + 9, none⟩) (nums .u8 (paB cc)) from by
    have := rd_dropF (rd_dropF h0 (2 + (17 + m))) 9
    rwa [← e19] at this))
  have k9 : cc.getD (19 + m) 0 = paK cc := by
    rw [paK, paR, ← hm]; simp [List.getD, List.getElem?_drop]
  have hcs : ∀ W : World, Rd W (some ⟨B, o, none⟩) (nums .u8 cc) → W.cell? ⟨B, o, none⟩ = some (.int .u8 (cc.getD 0 0)) ∧ W.cell? ⟨B, o + 1, none⟩ = some (.int .u8 (cc.getD 1 0)) ∧ W.cell? ⟨B, o + (2 + (17 + m)), none⟩ = some (.int .u8 (paK cc)) := fun W h0 => by
    obtain ⟨b', o', he, _, hc⟩ := h0.at_ (by simp; omega)
    cases he
    have a0 := hc 0 _ (nums_at (by omega))
    have a1 := hc 1 _ (nums_at (by omega))
    have a2 := hc (19 + m) _ (nums_at (by omega))
    rw [k9] at a2
    exact ⟨by simpa using a0, a1, by rw [show 2 + (17 + m) = 19 + m by omega]; exact a2⟩
  have HCS := Lib.hid hcs
  have bb : ∀ i, i < t → 0 ≤ cc.getD i 0 ∧ cc.getD i 0 ≤ 255 := fun i hi => bi _ (by simp [List.getD, List.getElem?_eq_getElem (show i < cc.length by omega)])
  obtain ⟨g0, g1⟩ := bb 0 (by omega)
  obtain ⟨g2, g3⟩ := bb 1 (by omega)
  obtain ⟨g4, g5⟩ := bb (19 + m) (by omega)
  rw [k9] at g4 g5
  have mX : (paX cc).length = m := by rw [hm]; exact tkX_len hs
  have c1 : ¬ rc = 1 := by omega
  have c5 : ¬ rc = 5 := by omega
  have c9 : ¬ rc = 9 := by omega
  have c0 : 41 + r ≤ rc := by omega
  have hrr : t - (2 + (17 + m)) = 9 + r := by omega
  have hrc2 := hrc.symm
  have nM : 28 + m + r ≤ t := by omega
  have r2k : r ≤ 2000 := by omega
  clear hcs
  rw [← hm, ← hr] at hz
  unfold paGood at hg
  rw [lB] at hg
  obtain ⟨f0, hf0⟩ : ∃ f, f = cc.getD 0 0 := ⟨_, rfl⟩
  obtain ⟨t0, ht0⟩ : ∃ f, f = cc.getD 1 0 := ⟨_, rfl⟩
  obtain ⟨k0, hk0⟩ : ∃ f, f = paK cc := ⟨_, rfl⟩
  obtain ⟨q0, hq0⟩ : ∃ f, f = paQ cc := ⟨_, rfl⟩
  obtain ⟨s0, hs0⟩ : ∃ f, f = paS cc := ⟨_, rfl⟩
  rw [← hf0] at g0 g1 HCS hg
  rw [← ht0] at g2 g3 HCS hg
  rw [← hk0] at g4 g5 HCS hg
  rw [← hq0] at q32 CG1 hg
  rw [← hs0] at s32 CG2 hz
  rw [hz] at CG2
  clear hz
  have CK := fun (A : Option Addr) (c' : Nat) (D : Option Addr) (d : Nat) (W : World) h0 h1 => rfCheck_bad f0 t0 (paE cc) (paO cc) A m c' (paX cc) k0 q0 D r d W mX h0 h1 (by omega) hg
  have w1_ : IntKind.i64.wrap f0 = f0 := IntWalk.i64_in _ (by omega)
  have w2_ : IntKind.i64.wrap t0 = t0 := IntWalk.i64_in _ (by omega)
  have w3_ : IntKind.i64.wrap k0 = k0 := IntWalk.i64_in _ (by omega)
  have w4_ : IntKind.i64.wrap (q0 : Int) = (q0 : Int) := IntWalk.i64_in _ (by omega)
  have HW := Lib.hid (And.intro w1_ (And.intro w2_ (And.intro w3_ w4_)))
  have HM := Lib.hid hm
  have HLB := Lib.hid lB
  have z1 : 0 < t := by omega
  have z2 : 1 < t := by omega
  have z3 : (1 : Int) < t := by omega
  have z4 : (0 : Int) < t := by omega
  have z5 : 0 < 9 + r := by omega
  have z6 : (0 : Int) < 9 + r := by omega
  have z7 : (9 : Int) ≤ 9 + r := by omega
  have hBlt := HBW0.out (by omega)
  clear hp hpx hn hx hb hil bi hd ht hs hl hd2 hcc hm hr hrc lR e19 bR hQ hS lB k9 bb mX hf0 ht0 hk0 hq0 hs0 w1_ w2_ w3_ w4_ hl2 hcl HBW0 hBlt hg
  go_enter Tryd.func12, Tryd.ntmps12
  go_upto_region 10 with (first
    | (go_at_call 24; go_must (refine (CT _ HX2.out).mono ?_; rintro e w1 ⟨A1, c1, rfl, hc1, ho1, hb1⟩; have HB1 := Lib.hid (bal (bgo (bal brf _) hb1) (.cells #[.int .u64 ((paE cc : Nat) : Int), .int .u64 ((paO cc : Nat) : Int), .slice A1 m c1] 28)); have HX := Lib.hid ((HX.out.below hb1).below (bal brf (.cells #[.int .u64 ((paE cc : Nat) : Int), .int .u64 ((paO cc : Nat) : Int), .slice A1 m c1] 28))); have HT := Lib.hid ((HT.out.below hb1).below (bal brf (.cells #[.int .u64 ((paE cc : Nat) : Int), .int .u64 ((paO cc : Nat) : Int), .slice A1 m c1] 28))); have HP := Lib.hid ((HP.out.below hb1).below (bal brf (.cells #[.int .u64 ((paE cc : Nat) : Int), .int .u64 ((paO cc : Nat) : Int), .slice A1 m c1] 28))); have HOUT := Lib.hid ((HOUT.out.below hb1).below (bal brf (.cells #[.int .u64 ((paE cc : Nat) : Int), .int .u64 ((paO cc : Nat) : Int), .slice A1 m c1] 28))); have HO1 := Lib.hid (ho1.alloc (.cells #[.int .u64 ((paE cc : Nat) : Int), .int .u64 ((paO cc : Nat) : Int), .slice A1 m c1] 28)); have HSZ := Lib.hid hb1.size; clear ho1))
    | (go_at_call 25; first
    | ((with_reducible refine (CG1 _ HX.out).mono ?_); rintro e w2 ⟨rfl, rfl⟩)
    | ((with_reducible refine (CG2 _ HX.out).mono ?_); rintro e w2 ⟨rfl, rfl⟩)))
  obtain ⟨w1_, w2_, w3_, w4_⟩ := HW.out
  have HQW : Hid (w.heap.size < (w1.alloc (.cells #[.int .u64 ((paE cc : Nat) : Int), .int .u64 ((paO cc : Nat) : Int), .slice A1 m c1] 28)).heap.size) := Lib.hid (by have := HSZ.out; simp only [World.size_alloc] at this ⊢; omega)
  have HCELLS := Lib.hid (fun (W : World) (hW : Below (w1.alloc (.cells #[.int .u64 ((paE cc : Nat) : Int), .int .u64 ((paO cc : Nat) : Int), .slice A1 m c1] 28)).heap.size (w1.alloc (.cells #[.int .u64 ((paE cc : Nat) : Int), .int .u64 ((paO cc : Nat) : Int), .slice A1 m c1] 28)) W) => (show (W.cell? ⟨B, o, none⟩ = some (.int .u8 f0) ∧ W.cell? ⟨B, o + 1, none⟩ = some (.int .u8 t0) ∧ W.cell? ⟨B, o + (2 + (17 + m)), none⟩ = some (.int .u8 k0)) ∧ W.cell? ⟨w1.heap.size, 0, none⟩ = some (.int .u64 ((paE cc : Nat) : Int)) ∧ W.cell? ⟨w1.heap.size, 1, none⟩ = some (.int .u64 ((paO cc : Nat) : Int)) ∧ W.cell? ⟨w1.heap.size, 2, none⟩ = some (.slice A1 m c1) from ⟨HCS.out W (HX.out.below hW), (hW.cell (p := ⟨w1.heap.size, 0, none⟩) (by simp)).trans (new3_0 _ _ _ _ _), (hW.cell (p := ⟨w1.heap.size, 1, none⟩) (by simp)).trans (new3_1 _ _ _ _ _), (hW.cell (p := ⟨w1.heap.size, 2, none⟩) (by simp)).trans (new3_2 _ _ _ _ _)⟩))
  have hS : Below (w1.alloc (.cells #[.int .u64 ((paE cc : Nat) : Int), .int .u64 ((paO cc : Nat) : Int), .slice A1 m c1] 28)).heap.size (w1.alloc (.cells #[.int .u64 ((paE cc : Nat) : Int), .int .u64 ((paO cc : Nat) : Int), .slice A1 m c1] 28)) (w1.alloc (.cells #[.int .u64 ((paE cc : Nat) : Int), .int .u64 ((paO cc : Nat) : Int), .slice A1 m c1] 28)).drew := bdr brf
  refine wp_region_held_drew (S := fun x => Below (w1.alloc (.cells #[.int .u64 ((paE cc : Nat) : Int), .int .u64 ((paO cc : Nat) : Int), .slice A1 m c1] 28)).heap.size (w1.alloc (.cells #[.int .u64 ((paE cc : Nat) : Int), .int .u64 ((paO cc : Nat) : Int), .slice A1 m c1] 28)) x) (by kernel_rfl) hS (fun hHeld => ?_)
  clear hHeld
  refine takeH (i := 0) (oi := ?oiu25) ?vu25 (by kernel_rfl) (by with_reducible exact hS) ?hiu25 ?hQu25 ?hyu25 ?_
  case hiu25 => simp only [List.getElem?_toArray, List.getElem?_cons_succ, List.getElem?_cons_zero]; rfl
  case hQu25 => exact fun _ _ _ h => h
  case hyu25 =>
    refine Or.inl ⟨by rfl, ?_⟩
    rintro W9 hSw
    obtain ⟨⟨y0, y1, y2⟩, y3, y4, y5⟩ := HCELLS.out W9 hSw
    go_simp
    rfl
  try simp only [Act.put, List.setIfInBounds_toArray, List.set_cons_zero, List.set_cons_succ]
  refine takeH (i := 1) (oi := ?oiu26) ?vu26 (by kernel_rfl) (by with_reducible exact hS) ?hiu26 ?hQu26 ?hyu26 ?_
  case hiu26 => simp only [List.getElem?_toArray, List.getElem?_cons_succ, List.getElem?_cons_zero]; rfl
  case hQu26 => exact fun _ _ _ h => h
  case hyu26 =>
    refine Or.inl ⟨by rfl, ?_⟩
    rintro W9 hSw
    obtain ⟨⟨y0, y1, y2⟩, y3, y4, y5⟩ := HCELLS.out W9 hSw
    go_simp
    rfl
  try simp only [Act.put, List.setIfInBounds_toArray, List.set_cons_zero, List.set_cons_succ]
  refine takeH (i := 2) (oi := ?oiu27) ?vu27 (by kernel_rfl) (by with_reducible exact hS) ?hiu27 ?hQu27 ?hyu27 ?_
  case hiu27 => simp only [List.getElem?_toArray, List.getElem?_cons_succ, List.getElem?_cons_zero]; rfl
  case hQu27 => exact fun _ _ _ h => h
  case hyu27 =>
    refine Or.inl ⟨by rfl, ?_⟩
    rintro W9 hSw
    obtain ⟨⟨y0, y1, y2⟩, y3, y4, y5⟩ := HCELLS.out W9 hSw
    go_simp
    rfl
  try simp only [Act.put, List.setIfInBounds_toArray, List.set_cons_zero, List.set_cons_succ]
  refine takeH (i := 3) (oi := ?oiu28) ?vu28 (by kernel_rfl) (by with_reducible exact hS) ?hiu28 ?hQu28 ?hyu28 ?_
  case hiu28 => simp only [List.getElem?_toArray, List.getElem?_cons_succ, List.getElem?_cons_zero]; rfl
  case hQu28 => exact fun _ _ _ h => h
  case hyu28 =>
    refine Or.inl ⟨by rfl, ?_⟩
    rintro W9 hSw
    obtain ⟨⟨y0, y1, y2⟩, y3, y4, y5⟩ := HCELLS.out W9 hSw
    go_simp
    rfl
  try simp only [Act.put, List.setIfInBounds_toArray, List.set_cons_zero, List.set_cons_succ]
  refine takeH (i := 4) (oi := ?oiu29) ?vu29 (by kernel_rfl) (by with_reducible exact hS) ?hiu29 ?hQu29 ?hyu29 ?_
  case hiu29 => simp only [List.getElem?_toArray, List.getElem?_cons_succ, List.getElem?_cons_zero]; rfl
  case hQu29 => exact fun _ _ _ h => h
  case hyu29 =>
    refine Or.inl ⟨by rfl, ?_⟩
    rintro W9 hSw
    obtain ⟨⟨y0, y1, y2⟩, y3, y4, y5⟩ := HCELLS.out W9 hSw
    go_simp
    rfl
  try simp only [Act.put, List.setIfInBounds_toArray, List.set_cons_zero, List.set_cons_succ]
  refine takeH (i := 5) (oi := ?oiu30) ?vu30 (by kernel_rfl) (by with_reducible exact hS) ?hiu30 ?hQu30 ?hyu30 ?_
  case hiu30 => simp only [List.getElem?_toArray, List.getElem?_cons_succ, List.getElem?_cons_zero]; rfl
  case hQu30 => exact fun _ _ _ h => h
  case hyu30 =>
    refine Or.inl ⟨by rfl, ?_⟩
    rintro W9 hSw
    obtain ⟨⟨y0, y1, y2⟩, y3, y4, y5⟩ := HCELLS.out W9 hSw
    go_simp
    rfl
  try simp only [Act.put, List.setIfInBounds_toArray, List.set_cons_zero, List.set_cons_succ]
  refine takeH (i := 6) (oi := ?oiu31) ?vu31 (by kernel_rfl) (by with_reducible exact hS) ?hiu31 ?hQu31 ?hyu31 ?_
  case hiu31 => simp only [List.getElem?_toArray, List.getElem?_cons_succ, List.getElem?_cons_zero]; rfl
  case hQu31 => exact fun _ _ _ h => h
  case hyu31 =>
    refine Or.inl ⟨by rfl, ?_⟩
    rintro W9 hSw
    obtain ⟨⟨y0, y1, y2⟩, y3, y4, y5⟩ := HCELLS.out W9 hSw
    go_simp
    rfl
  try simp only [Act.put, List.setIfInBounds_toArray, List.set_cons_zero, List.set_cons_succ]
  refine takeH (i := 7) (oi := ?oiu32) ?vu32 (by kernel_rfl) (by with_reducible exact hS) ?hiu32 ?hQu32 ?hyu32 ?_
  case hiu32 => simp only [List.getElem?_toArray, List.getElem?_cons_succ, List.getElem?_cons_zero]; rfl
  case hQu32 => exact fun _ _ _ h => h
  case hyu32 =>
    refine Or.inl ⟨by rfl, ?_⟩
    rintro W9 hSw
    obtain ⟨⟨y0, y1, y2⟩, y3, y4, y5⟩ := HCELLS.out W9 hSw
    go_simp
    rfl
  try simp only [Act.put, List.setIfInBounds_toArray, List.set_cons_zero, List.set_cons_succ]
  refine takeH (i := 8) (oi := ?oiu33) ?vu33 (by kernel_rfl) (by with_reducible exact hS) ?hiu33 ?hQu33 ?hyu33 ?_
  case hiu33 => simp only [List.getElem?_toArray, List.getElem?_cons_succ, List.getElem?_cons_zero]; rfl
  case hQu33 => exact fun _ _ _ h => h
  case hyu33 =>
    refine Or.inl ⟨by rfl, ?_⟩
    rintro W9 hSw
    obtain ⟨⟨y0, y1, y2⟩, y3, y4, y5⟩ := HCELLS.out W9 hSw
    go_simp
    rfl
  try simp only [Act.put, List.setIfInBounds_toArray, List.set_cons_zero, List.set_cons_succ]
  refine takeH (i := 9) (oi := ?oiu34) ?vu34 (by kernel_rfl) (by with_reducible exact hS) ?hiu34 ?hQu34 ?hyu34 ?_
  case hiu34 => simp only [List.getElem?_toArray, List.getElem?_cons_succ, List.getElem?_cons_zero]; rfl
  case hQu34 => exact fun _ _ _ h => h
  case hyu34 =>
    refine Or.inl ⟨by rfl, ?_⟩
    rintro W9 hSw
    obtain ⟨⟨y0, y1, y2⟩, y3, y4, y5⟩ := HCELLS.out W9 hSw
    go_simp
    rfl
  try simp only [Act.put, List.setIfInBounds_toArray, List.set_cons_zero, List.set_cons_succ]
  refine takeH (i := 10) (oi := ?oiu35) ?vu35 (by kernel_rfl) (by with_reducible exact hS) ?hiu35 ?hQu35 ?hyu35 ?_
  case hiu35 => simp only [List.getElem?_toArray, List.getElem?_cons_succ, List.getElem?_cons_zero]; rfl
  case hQu35 => exact fun _ _ _ h => h
  case hyu35 =>
    refine Or.inl ⟨by rfl, ?_⟩
    rintro W9 hSw
    obtain ⟨⟨y0, y1, y2⟩, y3, y4, y5⟩ := HCELLS.out W9 hSw
    go_simp
    rfl
  try simp only [Act.put, List.setIfInBounds_toArray, List.set_cons_zero, List.set_cons_succ]
  refine takeH (i := 11) (oi := ?oiu36) ?vu36 (by kernel_rfl) (by with_reducible exact hS) ?hiu36 ?hQu36 ?hyu36 ?_
  case hiu36 => simp only [List.getElem?_toArray, List.getElem?_cons_succ, List.getElem?_cons_zero]; rfl
  case hQu36 => exact fun _ _ _ h => h
  case hyu36 =>
    refine Or.inl ⟨by rfl, ?_⟩
    rintro W9 hSw
    obtain ⟨⟨y0, y1, y2⟩, y3, y4, y5⟩ := HCELLS.out W9 hSw
    go_simp
    rfl
  try simp only [Act.put, List.setIfInBounds_toArray, List.set_cons_zero, List.set_cons_succ]
  refine takeH (i := 12) (oi := ?oiu37) ?vu37 (by kernel_rfl) (by with_reducible exact hS) ?hiu37 ?hQu37 ?hyu37 ?_
  case hiu37 => simp only [List.getElem?_toArray, List.getElem?_cons_succ, List.getElem?_cons_zero]; rfl
  case hQu37 => exact fun _ _ _ h => h
  case hyu37 =>
    refine Or.inl ⟨by rfl, ?_⟩
    rintro W9 hSw
    obtain ⟨⟨y0, y1, y2⟩, y3, y4, y5⟩ := HCELLS.out W9 hSw
    go_simp
    rfl
  try simp only [Act.put, List.setIfInBounds_toArray, List.set_cons_zero, List.set_cons_succ]
  refine takeH (i := 13) (oi := ?oiu38) ?vu38 (by kernel_rfl) (by with_reducible exact hS) ?hiu38 ?hQu38 ?hyu38 ?_
  case hiu38 => simp only [List.getElem?_toArray, List.getElem?_cons_succ, List.getElem?_cons_zero]; rfl
  case hQu38 => exact fun _ _ _ h => h
  case hyu38 =>
    refine Or.inl ⟨by rfl, ?_⟩
    rintro W9 hSw
    obtain ⟨⟨y0, y1, y2⟩, y3, y4, y5⟩ := HCELLS.out W9 hSw
    go_simp
    rfl
  try simp only [Act.put, List.setIfInBounds_toArray, List.set_cons_zero, List.set_cons_succ]
  refine takeH (i := 14) (oi := ?oiu39) ?vu39 (by kernel_rfl) (by with_reducible exact hS) ?hiu39 ?hQu39 ?hyu39 ?_
  case hiu39 => simp only [List.getElem?_toArray, List.getElem?_cons_succ, List.getElem?_cons_zero]; rfl
  case hQu39 => exact fun _ _ _ h => h
  case hyu39 =>
    refine Or.inl ⟨by rfl, ?_⟩
    rintro W9 hSw
    obtain ⟨⟨y0, y1, y2⟩, y3, y4, y5⟩ := HCELLS.out W9 hSw
    go_simp
    rfl
  try simp only [Act.put, List.setIfInBounds_toArray, List.set_cons_zero, List.set_cons_succ]
  refine takeH (i := 15) (oi := ?oiu40) ?vu40 (by kernel_rfl) (by with_reducible exact hS) ?hiu40 ?hQu40 ?hyu40 ?_
  case hiu40 => simp only [List.getElem?_toArray, List.getElem?_cons_succ, List.getElem?_cons_zero]; rfl
  case hQu40 => exact fun _ _ _ h => h
  case hyu40 =>
    refine Or.inl ⟨by rfl, ?_⟩
    rintro W9 hSw
    obtain ⟨⟨y0, y1, y2⟩, y3, y4, y5⟩ := HCELLS.out W9 hSw
    go_simp
    rfl
  try simp only [Act.put, List.setIfInBounds_toArray, List.set_cons_zero, List.set_cons_succ]
  refine takeH (i := 16) (oi := ?oiu41) ?vu41 (by kernel_rfl) (by with_reducible exact hS) ?hiu41 ?hQu41 ?hyu41 ?_
  case hiu41 => simp only [List.getElem?_toArray, List.getElem?_cons_succ, List.getElem?_cons_zero]; rfl
  case hQu41 => exact fun _ _ _ h => h
  case hyu41 =>
    refine Or.inl ⟨by rfl, ?_⟩
    rintro W9 hSw
    obtain ⟨⟨y0, y1, y2⟩, y3, y4, y5⟩ := HCELLS.out W9 hSw
    go_simp
    rfl
  try simp only [Act.put, List.setIfInBounds_toArray, List.set_cons_zero, List.set_cons_succ]
  refine wpAnyH_ready (rs := [17, 19]) (by kernel_rfl) (by simp) (AllReadyH.cons (o := ?oau42) ?hau42 (fun K hK => ?_) (AllReadyH.cons (o := ?obu42) ?hbu42 (fun K hK => ?_) AllReadyH.nil))
  case hau42 => simp only [List.getElem?_toArray, List.getElem?_cons_succ, List.getElem?_cons_zero]; rfl
  case hbu42 => simp only [List.getElem?_toArray, List.getElem?_cons_succ, List.getElem?_cons_zero]; rfl
  · skip
    refine step_append_vs rfl _ _ 22 (by rfl) (w1.alloc (.cells #[.int .u64 ((paE cc : Nat) : Int), .int .u64 ((paO cc : Nat) : Int), .slice A1 m c1] 28)).heap.size 5 i0 (.int .u8 0) 1 Tryd.underlying22 hi hz0 hz1 hz2 rfl (.slice none 0 0) 0 [] (by rfl) ⟨rfl, .inl ⟨rfl, rfl⟩⟩ (some ⟨B, o + (2 + (17 + m)) + 9, none⟩) r (rc - 9) (nums .u8 (paB cc)) (by rfl) (by simp [HLB.out]) (RB.out _ (HX.out.below (bdr brf))) nums_u8_one (by unfold maxLen; omega) (by omega) (by simp) ?_
    intro v4 w4 hown4 hgrow4
    rw [Nat.zero_add, List.nil_append] at hown4
    have hb4x := (brf (w := (w1.alloc (.cells #[.int .u64 ((paE cc : Nat) : Int), .int .u64 ((paO cc : Nat) : Int), .slice A1 m c1] 28)).drew)).grown hgrow4 (Nat.le_refl _) (fun k e => by simp [Value.ownBlock] at e)
    have hb4 : Below (w1.alloc (.cells #[.int .u64 ((paE cc : Nat) : Int), .int .u64 ((paO cc : Nat) : Int), .slice A1 m c1] 28)).heap.size (w1.alloc (.cells #[.int .u64 ((paE cc : Nat) : Int), .int .u64 ((paO cc : Nat) : Int), .slice A1 m c1] 28)) w4 := bgo (bdr brf) hb4x
    obtain ⟨A4, d4, rfl⟩ := own_slice hown4
    clear hgrow4
    have hS := hb4
    refine hK.out _ _ (by with_reducible exact hS) (fun hHeld => ?_)
    clear hK K hHeld
    try simp only [Act.put, List.setIfInBounds_toArray, List.set_cons_zero, List.set_cons_succ]
    refine takeH (i := 18) (oi := ?oiu43) ?vu43 (by kernel_rfl) (by with_reducible exact hS) ?hiu43 ?hQu43 ?hyu43 ?_
    case hiu43 => simp only [List.getElem?_toArray, List.getElem?_cons_succ, List.getElem?_cons_zero]; rfl
    case hQu43 => exact fun _ _ _ h => h
    case hyu43 =>
      refine Or.inl ⟨by rfl, ?_⟩
      rintro W9 hSw
      obtain ⟨⟨y0, y1, y2⟩, y3, y4, y5⟩ := HCELLS.out W9 hSw
      go_simp
      rfl
    try simp only [Act.put, List.setIfInBounds_toArray, List.set_cons_zero, List.set_cons_succ]
    refine onlyH (i := 19) (oi := ?oiu44) (by kernel_rfl) ?hiu44 (fun K hK => ?_)
    case hiu44 => simp only [List.getElem?_toArray, List.getElem?_cons_succ, List.getElem?_cons_zero]; rfl
    go_simp
    have hS := bal hb4 (.cells #[.int .i64 0, .int .i64 0, .int .u64 0, .int .u64 0, .slice none 0 0, .int .i64 0, .int .i64 0, .slice none 0 0] 30)
    refine hK.out _ _ (by with_reducible exact hS) (fun hHeld => ?_)
    clear hK K hHeld
    try simp only [Act.put, List.setIfInBounds_toArray, List.set_cons_zero, List.set_cons_succ]
    refine onlyH (i := 20) (oi := ?oiu45) (by kernel_rfl) ?hiu45 (fun K hK => ?_)
    case hiu45 => simp only [List.getElem?_toArray, List.getElem?_cons_succ, List.getElem?_cons_zero]; rfl
    rw [if_pos (by rfl)]
    refine store8op _ _ rfl w4.heap.size #[.int .i64 f0, .int .i64 t0, .int .u64 ((paE cc : Nat) : Int), .int .u64 ((paO cc : Nat) : Int), .slice A1 m c1, .int .i64 k0, .int .i64 (q0 : Int), .slice A4 r d4] rfl rfl (frOut_new w4 _) rfl (by kernel_rfl) ?_
    intro W5 hT5
    have hS0 := hS
    have hS : Below (w1.alloc (.cells #[.int .u64 ((paE cc : Nat) : Int), .int .u64 ((paO cc : Nat) : Int), .slice A1 m c1] 28)).heap.size (w1.alloc (.cells #[.int .u64 ((paE cc : Nat) : Int), .int .u64 ((paO cc : Nat) : Int), .slice A1 m c1] 28)) W5 := hT5.below (w1.alloc (.cells #[.int .u64 ((paE cc : Nat) : Int), .int .u64 ((paO cc : Nat) : Int), .slice A1 m c1] 28)) (hb4.size) hS0
    refine hK.out _ _ (by with_reducible exact hS) (fun hHeld => ?_)
    clear hK K hHeld
    try simp only [Act.put, List.setIfInBounds_toArray, List.set_cons_zero, List.set_cons_succ]
    refine wpAnyH_done (by kernel_rfl) ?_ _
    have hown5 := hT5.ownN (hown4.alloc (.cells #[.int .i64 0, .int .i64 0, .int .u64 0, .int .u64 0, .slice none 0 0, .int .i64 0, .int .i64 0, .slice none 0 0] 30)) (fun g hg => Nat.ne_of_lt (hown4.lt g hg).2)
    have hbx5 := frBox_row hT5.row (by rw [hT5.size]; simp)
    clear hown4 hb4 hS0 hT5
    have HO5 := Lib.hid hown5
    have HBOX := Lib.hid hbx5
    have HX1 := Lib.hid (Rd.of_own (own_below HO1.out hS))
    have HO1 := Lib.hid (own_below HO1.out hS)
    have HOUT := Lib.hid (HOUT.out.below hS)
    have HP := Lib.hid (HP.out.below hS)
    have HX := Lib.hid (HX.out.below hS)
    have HT := Lib.hid (HT.out.below hS)
    have HB1 := Lib.hid (bgo HB1.out hS)
    obtain ⟨s_, b0, b1, b2, b3, b4, b5, b6, b7⟩ := HBOX.out
    clear hown5 hbx5
    go_upto_region 12 with (go_at_call 19; go_must (refine (CK _ _ _ _ _ hc1 HX1.out).mono ?_; rintro e w6 ⟨rfl, hb6⟩; have HOUT := Lib.hid (HOUT.out.below hb6); have HP := Lib.hid (HP.out.below hb6); have HX := Lib.hid (HX.out.below hb6); have HT := Lib.hid (HT.out.below hb6); have HB1 := Lib.hid (bgo HB1.out hb6); have HO1 := Lib.hid (own_below HO1.out hb6); have HO5 := Lib.hid (own_below HO5.out hb6); have HBOX := Lib.hid (HBOX.out.below hb6); obtain ⟨s_, b0, b1, b2, b3, b4, b5, b6, b7⟩ := HBOX.out))
    iterate 4 go_step
    refine store8 rfl _ _ rfl w.heap.size #[.int .i64 0, .int .i64 0, .int .u64 0, .int .u64 0, .slice none 0 0, .int .i64 0, .int .i64 0, .slice none 0 0] rfl rfl HOUT.out rfl (by kernel_rfl) ?_
    intro W5 hT5
    have HT5 := Lib.hid hT5
    clear hT5
    go_wp2_with fail
    refine bodyPost_ret (v := .tuple #[.agg #[.int .i64 0, .int .i64 0, .int .u64 0, .int .u64 0, .slice none 0 0, .int .i64 0, .int .i64 0, .slice none 0 0], .int .i64 3]) ?_ rfl ⟨rfl, HT5.out.below w (Nat.le_refl _) HB1.out⟩
    exact results_cell_tmp (p := 4) (t := 5) (by rfl) _ _ w.heap.size 0 _ _ (by rfl) HT5.out.row Tryd.underlying30 rfl infoFr8
  · skip
    go_simp
    have hS : Below (w1.alloc (.cells #[.int .u64 ((paE cc : Nat) : Int), .int .u64 ((paO cc : Nat) : Int), .slice A1 m c1] 28)).heap.size (w1.alloc (.cells #[.int .u64 ((paE cc : Nat) : Int), .int .u64 ((paO cc : Nat) : Int), .slice A1 m c1] 28)) ((w1.alloc (.cells #[.int .u64 ((paE cc : Nat) : Int), .int .u64 ((paO cc : Nat) : Int), .slice A1 m c1] 28)).alloc (.cells #[.int .i64 0, .int .i64 0, .int .u64 0, .int .u64 0, .slice none 0 0, .int .i64 0, .int .i64 0, .slice none 0 0] 30)).drew := bdr (bal brf _)
    refine hK.out _ _ (by with_reducible exact hS) (fun hHeld => ?_)
    clear hK K hHeld
    try simp only [Act.put, List.setIfInBounds_toArray, List.set_cons_zero, List.set_cons_succ]
    refine onlyH (i := 17) (oi := ?oiu46) (by kernel_rfl) ?hiu46 (fun K hK => ?_)
    case hiu46 => simp only [List.getElem?_toArray, List.getElem?_cons_succ, List.getElem?_cons_zero]; rfl
    refine step_append_vs rfl _ _ 22 (by rfl) (w1.heap.size + 1 + 1) 5 i0 (.int .u8 0) 1 Tryd.underlying22 hi hz0 hz1 hz2 rfl (.slice none 0 0) 0 [] (by rfl) ⟨rfl, .inl ⟨rfl, rfl⟩⟩ (some ⟨B, o + (2 + (17 + m)) + 9, none⟩) r (rc - 9) (nums .u8 (paB cc)) (by rfl) (by simp [HLB.out]) (RB.out _ (HX.out.below hS)) nums_u8_one (by unfold maxLen; omega) (by omega) (by simp) ?_
    intro v4 w4 hown4 hgrow4
    rw [Nat.zero_add, List.nil_append] at hown4
    have hb4x := (brf (w := ((w1.alloc (.cells #[.int .u64 ((paE cc : Nat) : Int), .int .u64 ((paO cc : Nat) : Int), .slice A1 m c1] 28)).alloc (.cells #[.int .i64 0, .int .i64 0, .int .u64 0, .int .u64 0, .slice none 0 0, .int .i64 0, .int .i64 0, .slice none 0 0] 30)).drew)).grown hgrow4 (Nat.le_refl _) (fun k e => by simp [Value.ownBlock] at e)
    have hb4 : Below (w1.alloc (.cells #[.int .u64 ((paE cc : Nat) : Int), .int .u64 ((paO cc : Nat) : Int), .slice A1 m c1] 28)).heap.size (w1.alloc (.cells #[.int .u64 ((paE cc : Nat) : Int), .int .u64 ((paO cc : Nat) : Int), .slice A1 m c1] 28)) w4 := bgo hS hb4x
    obtain ⟨A4, d4, rfl⟩ := own_slice hown4
    clear hgrow4
    have hfo : FrOut (w1.alloc (.cells #[.int .u64 ((paE cc : Nat) : Int), .int .u64 ((paO cc : Nat) : Int), .slice A1 m c1] 28)).heap.size w4 := FrOut.below (x := ((w1.alloc (.cells #[.int .u64 ((paE cc : Nat) : Int), .int .u64 ((paO cc : Nat) : Int), .slice A1 m c1] 28)).alloc (.cells #[.int .i64 0, .int .i64 0, .int .u64 0, .int .u64 0, .slice none 0 0, .int .i64 0, .int .i64 0, .slice none 0 0] 30)).drew) (show FrOut (w1.alloc (.cells #[.int .u64 ((paE cc : Nat) : Int), .int .u64 ((paO cc : Nat) : Int), .slice A1 m c1] 28)).heap.size ((w1.alloc (.cells #[.int .u64 ((paE cc : Nat) : Int), .int .u64 ((paO cc : Nat) : Int), .slice A1 m c1] 28)).alloc (.cells #[.int .i64 0, .int .i64 0, .int .u64 0, .int .u64 0, .slice none 0 0, .int .i64 0, .int .i64 0, .slice none 0 0] 30)).drew from frOut_new (w1.alloc (.cells #[.int .u64 ((paE cc : Nat) : Int), .int .u64 ((paO cc : Nat) : Int), .slice A1 m c1] 28)) 30) hb4x
    rw [World.size_alloc] at hfo
    have hS := hb4
    refine hK.out _ _ (by with_reducible exact hS) (fun hHeld => ?_)
    clear hK K hHeld
    try simp only [Act.put, List.setIfInBounds_toArray, List.set_cons_zero, List.set_cons_succ]
    refine takeH (i := 18) (oi := ?oiu47) ?vu47 (by kernel_rfl) (by with_reducible exact hS) ?hiu47 ?hQu47 ?hyu47 ?_
    case hiu47 => simp only [List.getElem?_toArray, List.getElem?_cons_succ, List.getElem?_cons_zero]; rfl
    case hQu47 => exact fun _ _ _ h => h
    case hyu47 =>
      refine Or.inl ⟨by rfl, ?_⟩
      rintro W9 hSw
      obtain ⟨⟨y0, y1, y2⟩, y3, y4, y5⟩ := HCELLS.out W9 hSw
      go_simp
      rfl
    try simp only [Act.put, List.setIfInBounds_toArray, List.set_cons_zero, List.set_cons_succ]
    refine onlyH (i := 20) (oi := ?oiu48) (by kernel_rfl) ?hiu48 (fun K hK => ?_)
    case hiu48 => simp only [List.getElem?_toArray, List.getElem?_cons_succ, List.getElem?_cons_zero]; rfl
    rw [if_pos (by rfl)]
    refine store8op _ _ rfl (w1.heap.size + 1) #[.int .i64 f0, .int .i64 t0, .int .u64 ((paE cc : Nat) : Int), .int .u64 ((paO cc : Nat) : Int), .slice A1 m c1, .int .i64 k0, .int .i64 (q0 : Int), .slice A4 r d4] rfl rfl hfo rfl (by kernel_rfl) ?_
    intro W5 hT5
    have hS0 := hS
    have hS : Below (w1.alloc (.cells #[.int .u64 ((paE cc : Nat) : Int), .int .u64 ((paO cc : Nat) : Int), .slice A1 m c1] 28)).heap.size (w1.alloc (.cells #[.int .u64 ((paE cc : Nat) : Int), .int .u64 ((paO cc : Nat) : Int), .slice A1 m c1] 28)) W5 := hT5.below (w1.alloc (.cells #[.int .u64 ((paE cc : Nat) : Int), .int .u64 ((paO cc : Nat) : Int), .slice A1 m c1] 28)) (by simp) hS0
    refine hK.out _ _ (by with_reducible exact hS) (fun hHeld => ?_)
    clear hK K hHeld
    try simp only [Act.put, List.setIfInBounds_toArray, List.set_cons_zero, List.set_cons_succ]
    refine wpAnyH_done (by kernel_rfl) ?_ _
    have hown5 : W5.ownsRow (w1.alloc (.cells #[.int .u64 ((paE cc : Nat) : Int), .int .u64 ((paO cc : Nat) : Int), .slice A1 m c1] 28)).heap.size 5 1 (.slice A4 r d4) r (nums .u8 (paB cc)) := own_baseT (hT5.own hown4 (by omega)) (by simp)
    have hbx5 := frBox_row hT5.row (by rw [hT5.size]; exact hfo.1)
    clear hown4 hb4 hS0 hT5 hfo
    have HO5 := Lib.hid hown5
    have HBOX := Lib.hid hbx5
    have HX1 := Lib.hid (Rd.of_own (own_below HO1.out hS))
    have HO1 := Lib.hid (own_below HO1.out hS)
    have HOUT := Lib.hid (HOUT.out.below hS)
    have HP := Lib.hid (HP.out.below hS)
    have HX := Lib.hid (HX.out.below hS)
    have HT := Lib.hid (HT.out.below hS)
    have HB1 := Lib.hid (bgo HB1.out hS)
    obtain ⟨s_, b0, b1, b2, b3, b4, b5, b6, b7⟩ := HBOX.out
    clear hown5 hbx5
    go_upto_region 12 with (go_at_call 19; go_must (refine (CK _ _ _ _ _ hc1 HX1.out).mono ?_; rintro e w6 ⟨rfl, hb6⟩; have HOUT := Lib.hid (HOUT.out.below hb6); have HP := Lib.hid (HP.out.below hb6); have HX := Lib.hid (HX.out.below hb6); have HT := Lib.hid (HT.out.below hb6); have HB1 := Lib.hid (bgo HB1.out hb6); have HO1 := Lib.hid (own_below HO1.out hb6); have HO5 := Lib.hid (own_below HO5.out hb6); have HBOX := Lib.hid (HBOX.out.below hb6); obtain ⟨s_, b0, b1, b2, b3, b4, b5, b6, b7⟩ := HBOX.out))
    iterate 4 go_step
    refine store8 rfl _ _ rfl w.heap.size #[.int .i64 0, .int .i64 0, .int .u64 0, .int .u64 0, .slice none 0 0, .int .i64 0, .int .i64 0, .slice none 0 0] rfl rfl HOUT.out rfl (by kernel_rfl) ?_
    intro W5 hT5
    have HT5 := Lib.hid hT5
    clear hT5
    go_wp2_with fail
    refine bodyPost_ret (v := .tuple #[.agg #[.int .i64 0, .int .i64 0, .int .u64 0, .int .u64 0, .slice none 0 0, .int .i64 0, .int .i64 0, .slice none 0 0], .int .i64 3]) ?_ rfl ⟨rfl, HT5.out.below w (Nat.le_refl _) HB1.out⟩
    exact results_cell_tmp (p := 4) (t := 5) (by rfl) _ _ w.heap.size 0 _ _ (by rfl) HT5.out.row Tryd.underlying30 rfl infoFr8
end Go.Proofs.YtmkmndgdakpojaaDoor
