/- FrameTakes: the walk. -/
import Derived.Test.YtmkmndgdakpojaaDoorFm
namespace Go.Proofs.YtmkmndgdakpojaaDoor
open Go.RowKit Go.ChangeShapes Go.WideShapes Go.ChangeAt
set_option linter.unusedSimpArgs false
set_option linter.unusedVariables false
set_option maxRecDepth 100000

set_option maxHeartbeats 1000000 in
theorem frameTakes_long (P : Option Addr) (pn pc : Nat) (Z : Option Addr) (m d : Nat) (w : World) (hK : Konst w) (h : ¬ (pn ≤ 200 ∧ m ≤ 800)) : Calls Tryd.prog 3 #[.slice P pn pc, .slice Z m d] w (Yes w) := by
  have HK := Lib.hid hK
  have HBX := Lib.hid (brf (w := w))
  clear hK
  go_enter Tryd.func3, Tryd.ntmps3
  go_wp2_with (first
    | (go_at_call 9; go_must (refine (live5_any _ (HK.out.go HBX.out)).mono ?_; rintro e w1 ⟨rfl, hb1⟩; have HBX := Lib.hid (bgo HBX.out hb1)))
    | (go_at_call 10; go_must ((refine (few_no P pn pc 0 0 0 0 none 0 0 0 0 none 0 0 Z m d _ (by omega)).mono ?_); rintro e w2 ⟨rfl, hb2⟩; have HBX := Lib.hid (bgo HBX.out hb2))))
  go_ret
  exact ⟨by first | (simp; done) | (simp; omega), by first | exact HBX.out | exact bal HBX.out _⟩

theorem vrow_some {w : World} {base : Nat} {e : TypeId} {n c : Nat} {A : Option Addr} {vs : List Value} (h : w.ownsRow base e 1 (.slice A n c) n vs) :
    ∃ g, 0 < n → A = some ⟨g, 0, none⟩ ∧ VRow w g vs ∧ base ≤ g ∧ g < w.heap.size := by
  by_cases h0 : 0 < n
  · obtain ⟨g, c', he, _, hv, hb, hl, _⟩ := vrow_of_own h h0
    simp only [Value.slice.injEq] at he
    exact ⟨g, fun _ => ⟨he.1, hv, hb, hl⟩⟩
  · exact ⟨0, fun h => absurd h h0⟩
theorem nums_set (us : List Int) (k : Nat) (x : Int) : nums .u8 (us.set k x) = (nums .u8 us).set k (.int .u8 x) := by
  simp [nums, List.map_set]

set_option maxHeartbeats 4000000 in
theorem frameTakes_c3 (P : Option Addr) (pn pc : Nat) (Z : Option Addr) (m d : Nat) (w : World) (hK : Konst w) (key zs : List Int) (h : pn ≤ 200 ∧ m ≤ 800) (hp : key.length = pn) (hpx : Rd w P (nums .u8 key)) (hm : zs.length = m) (hmd : m ≤ d) (hdm : d ≤ maxLen) (hz : Rd w Z (nums .u8 zs)) (hbz : Byt zs) (ht : ¬ tF zs) : Calls Tryd.prog 3 #[.slice P pn pc, .slice Z m d] w (Yes w) := by
  have HCSB := Lib.hid (fun (B : Option Addr) (d' : Nat) (W : World) h0 h1 => sameB_refl Z B m d d' zs zs W hm hm rfl hbz h0 h1)
  have HCZ := Lib.hid (fun (W : World) h0 h1 h2 => fTake_3 (P := P) (A := Z) (pc := pc) (c := d) (w := W) hp (by omega) h0 hm hmd hdm (by omega) h1 hbz h2 ht)
  have HRZ := Lib.hid (fun (W : World) h0 h1 => rfTake_3 (P := P) (A := Z) (pc := pc) (c := d) (w := W) hp (by omega) h0 hm hmd hdm (by omega) h1 hbz ht)
  have HCE := Lib.hid (fun (W : World) => rfSame_refl 0 0 0 0 none 0 0 [] 0 0 none 0 0 [] none 0 none 0 W rfl (.inl rfl) (.inl rfl) (by unfold maxLen; omega) rfl (.inl rfl) (fun x hx => by cases hx) (.inl rfl))
  have HP := Lib.hid hpx
  have HZ := Lib.hid hz
  have HZL := Lib.hid hm
  have HK := Lib.hid hK
  have HBX := Lib.hid (brf (w := w))
  clear hK
  clear hp hpx hm hz hbz ht
  go_enter Tryd.func3, Tryd.ntmps3
  go_wp2_with (first
    | (go_at_call 9; go_must (refine (live5_any _ (HK.out.go HBX.out)).mono ?_; rintro e w1 ⟨rfl, hb1⟩; have HBX := Lib.hid (bgo HBX.out hb1)))
    | (go_at_call 10; go_must ((refine (few_yes P pn pc 0 0 0 0 none 0 0 0 0 none 0 0 Z m d _ (by omega) (by omega) (by omega) (by omega)).mono ?_); rintro e w2 ⟨rfl, hb2⟩; have HBX := Lib.hid (bgo HBX.out hb2)))
    | (at_builtin; refine append_rd rfl _ _ rfl w2.heap.size (.slice none 0 0) 0 [] rfl (World.ownsRow_nil _ _ _ _) Z m d zs rfl HZL.out (HZ.out.below HBX.out) (by omega) (Nat.le_refl _) ?_; intro v3 w3 hown3 hgrow3; rw [Nat.zero_add, List.nil_append] at hown3; have hb3 : Below w2.heap.size w2 w3 := keep_below0 (World.ownsRow_nil w2 w2.heap.size 5 1) hgrow3 brf (Nat.le_refl _) (Nat.le_refl _); obtain ⟨A3, c3, rfl⟩ := own_slice hown3; have HBX := Lib.hid (bgo HBX.out hb3); have HW := Lib.hid (Rd.of_own hown3); clear hown3 hgrow3)
    | (go_at_call 11; (with_reducible refine (HCZ.out _ (HP.out.below HBX.out) (HZ.out.below HBX.out) (HK.out.go HBX.out)).mono ?_); rintro e w6 ⟨rfl, hb6⟩; have HBX := Lib.hid (bgo HBX.out hb6); have HW := Lib.hid (HW.out.below hb6))
    | (go_at_call 12; (with_reducible refine (HRZ.out _ (HP.out.below (bal HBX.out _)) (HZ.out.below (bal HBX.out _))).mono ?_); rintro e w7 ⟨rfl, hb7⟩; have hb67 := bgo (bal brf _) hb7; have HBX := Lib.hid (bgo HBX.out hb67); have HW := Lib.hid (HW.out.below hb67); have HF := Lib.hid ((frBox_new w6 0 0 0 0 (.slice none 0 0) 0 0 (.slice none 0 0) 30).below hb7); obtain ⟨s0, a0, a1, a2, a3, a4, a5, a6, a7⟩ := HF.out)
    | (go_at_call 13; (refine (HCE.out _).mono ?_); rintro e w8 ⟨rfl, hb8⟩; have HF := Lib.hid ((HF.out.below (bal brf _)).below hb8); obtain ⟨s0, a0, a1, a2, a3, a4, a5, a6, a7⟩ := HF.out; have hb78 := bgo (bal brf _) hb8; have HBX := Lib.hid (bgo HBX.out hb78); have HW := Lib.hid (HW.out.below hb78)))
  go_loopw [44] (fun i wr => i = .int .i64 0 ∧ wr = w8) (fun _ _ => 0)
  case atStart => exact ⟨rfl, rfl⟩
  case round =>
    obtain ⟨rfl, rfl⟩ := hrel
    go_wp2_with (go_at_call 14; (with_reducible refine (HCSB.out _ _ _ (HZ.out.below HBX.out) HW.out).mono ?_); rintro e w9 ⟨rfl, rfl⟩)
    go_ret
    exact ⟨by first | (simp; done) | (simp; omega), HBX.out⟩

set_option maxHeartbeats 4000000 in
theorem frameTakes_c4 (P : Option Addr) (pn pc : Nat) (Z : Option Addr) (m d : Nat) (w : World) (hK : Konst w) (key zs : List Int) (h : pn ≤ 200 ∧ m ≤ 800) (hp : key.length = pn) (hpx : Rd w P (nums .u8 key)) (hm : zs.length = m) (hmd : m ≤ d) (hdm : d ≤ maxLen) (hz : Rd w Z (nums .u8 zs)) (hbz : Byt zs) (ht : tF zs) (ht2 : ¬ tT key zs) : Calls Tryd.prog 3 #[.slice P pn pc, .slice Z m d] w (Yes w) := by
  have HCSB := Lib.hid (fun (B : Option Addr) (d' : Nat) (W : World) h0 h1 => sameB_refl Z B m d d' zs zs W hm hm rfl hbz h0 h1)
  have HCZ := Lib.hid (fun (W : World) h0 h1 h2 => fTake_4 (P := P) (A := Z) (pc := pc) (c := d) (w := W) hp (by omega) h0 hm hmd hdm (by omega) h1 hbz h2 ht ht2)
  have HRZ := Lib.hid (fun (W : World) h0 h1 => rfTake_4 (P := P) (A := Z) (pc := pc) (c := d) (w := W) hp (by omega) h0 hm hmd hdm (by omega) h1 hbz ht ht2)
  have HCE := Lib.hid (fun (W : World) => rfSame_refl 0 0 0 0 none 0 0 [] 0 0 none 0 0 [] none 0 none 0 W rfl (.inl rfl) (.inl rfl) (by unfold maxLen; omega) rfl (.inl rfl) (fun x hx => by cases hx) (.inl rfl))
  have HP := Lib.hid hpx
  have HZ := Lib.hid hz
  have HZL := Lib.hid hm
  have HK := Lib.hid hK
  have HBX := Lib.hid (brf (w := w))
  clear hK
  clear hp hpx hm hz hbz ht ht2
  go_enter Tryd.func3, Tryd.ntmps3
  go_wp2_with (first
    | (go_at_call 9; go_must (refine (live5_any _ (HK.out.go HBX.out)).mono ?_; rintro e w1 ⟨rfl, hb1⟩; have HBX := Lib.hid (bgo HBX.out hb1)))
    | (go_at_call 10; go_must ((refine (few_yes P pn pc 0 0 0 0 none 0 0 0 0 none 0 0 Z m d _ (by omega) (by omega) (by omega) (by omega)).mono ?_); rintro e w2 ⟨rfl, hb2⟩; have HBX := Lib.hid (bgo HBX.out hb2)))
    | (at_builtin; refine append_rd rfl _ _ rfl w2.heap.size (.slice none 0 0) 0 [] rfl (World.ownsRow_nil _ _ _ _) Z m d zs rfl HZL.out (HZ.out.below HBX.out) (by omega) (Nat.le_refl _) ?_; intro v3 w3 hown3 hgrow3; rw [Nat.zero_add, List.nil_append] at hown3; have hb3 : Below w2.heap.size w2 w3 := keep_below0 (World.ownsRow_nil w2 w2.heap.size 5 1) hgrow3 brf (Nat.le_refl _) (Nat.le_refl _); obtain ⟨A3, c3, rfl⟩ := own_slice hown3; have HBX := Lib.hid (bgo HBX.out hb3); have HW := Lib.hid (Rd.of_own hown3); clear hown3 hgrow3)
    | (go_at_call 11; (with_reducible refine (HCZ.out _ (HP.out.below HBX.out) (HZ.out.below HBX.out) (HK.out.go HBX.out)).mono ?_); rintro e w6 ⟨rfl, hb6⟩; have HBX := Lib.hid (bgo HBX.out hb6); have HW := Lib.hid (HW.out.below hb6))
    | (go_at_call 12; (with_reducible refine (HRZ.out _ (HP.out.below (bal HBX.out _)) (HZ.out.below (bal HBX.out _))).mono ?_); rintro e w7 ⟨rfl, hb7⟩; have hb67 := bgo (bal brf _) hb7; have HBX := Lib.hid (bgo HBX.out hb67); have HW := Lib.hid (HW.out.below hb67); have HF := Lib.hid ((frBox_new w6 0 0 0 0 (.slice none 0 0) 0 0 (.slice none 0 0) 30).below hb7); obtain ⟨s0, a0, a1, a2, a3, a4, a5, a6, a7⟩ := HF.out)
    | (go_at_call 13; (refine (HCE.out _).mono ?_); rintro e w8 ⟨rfl, hb8⟩; have HF := Lib.hid ((HF.out.below (bal brf _)).below hb8); obtain ⟨s0, a0, a1, a2, a3, a4, a5, a6, a7⟩ := HF.out; have hb78 := bgo (bal brf _) hb8; have HBX := Lib.hid (bgo HBX.out hb78); have HW := Lib.hid (HW.out.below hb78)))
  go_loopw [44] (fun i wr => i = .int .i64 0 ∧ wr = w8) (fun _ _ => 0)
  case atStart => exact ⟨rfl, rfl⟩
  case round =>
    obtain ⟨rfl, rfl⟩ := hrel
    go_wp2_with (go_at_call 14; (with_reducible refine (HCSB.out _ _ _ (HZ.out.below HBX.out) HW.out).mono ?_); rintro e w9 ⟨rfl, rfl⟩)
    go_ret
    exact ⟨by first | (simp; done) | (simp; omega), HBX.out⟩

set_option maxHeartbeats 4000000 in
theorem frameTakes_c0 (P : Option Addr) (pn pc : Nat) (Z : Option Addr) (m d : Nat) (w : World) (hK : Konst w) (key zs : List Int) (h : pn ≤ 200 ∧ m ≤ 800) (hp : key.length = pn) (hpx : Rd w P (nums .u8 key)) (hm : zs.length = m) (hmd : m ≤ d) (hdm : d ≤ maxLen) (hz : Rd w Z (nums .u8 zs)) (hbz : Byt zs) (ht : tF zs) (ht2 : tT key zs) : Calls Tryd.prog 3 #[.slice P pn pc, .slice Z m d] w (Yes w) := by
  have HCSB := Lib.hid (fun (B : Option Addr) (d' : Nat) (W : World) h0 h1 => sameB_refl Z B m d d' zs zs W hm hm rfl hbz h0 h1)
  have hXl := tkX_len2 ht.2.1
  have hBl := paB_len ht.2.1
  have hcl : (zs.take (zs.length - 32)).length ≤ 800 := Nat.le_trans (List.length_take_le' _ _) (by omega)
  have CZ := fun (W : World) h0 h1 h2 => fTake_0 (P := P) (A := Z) (pc := pc) (c := d) (w := W) hp (by omega) h0 hm hmd hdm (by omega) h1 hbz h2 ht ht2
  have RZ := fun (W : World) h0 h1 => rfTake_0 (P := P) (A := Z) (pc := pc) (c := d) (w := W) hp (by omega) h0 hm hmd hdm (by omega) h1 hbz ht ht2
  have bB : Byt (paB (zs.take (zs.length - 32))) := fun x hx => hbz x (List.mem_of_mem_take (List.mem_of_mem_drop (List.mem_of_mem_drop hx)))
  have hgg := ht.2.2
  unfold paGood at hgg
  have n8 := hgg.2.2.2.2.2.1.2.1
  rw [hXl] at n8
  rw [← hm] at CZ RZ
  simp only [IsFr] at CZ RZ
  obtain ⟨cc, hcc⟩ : ∃ cc, cc = zs.take (zs.length - 32) := ⟨_, rfl⟩
  rw [← hcc] at hXl hBl hcl CZ RZ bB n8
  obtain ⟨f0, hf0⟩ : ∃ f, f = cc.getD 0 0 := ⟨_, rfl⟩
  obtain ⟨t0, ht0⟩ : ∃ f, f = cc.getD 1 0 := ⟨_, rfl⟩
  obtain ⟨r, hr⟩ : ∃ r, r = (paB cc).length := ⟨_, rfl⟩
  rw [← hf0, ← ht0] at CZ RZ
  rw [← hr] at CZ RZ hBl
  have r8 : r ≤ 800 := by omega
  have HCE := Lib.hid (fun (A : Option Addr) (c : Nat) (D : Option Addr) (dd : Nat) (B : Option Addr) (d' : Nat) (E2 : Option Addr) (dc2 : Nat) (W : World) h0 h1 h2 h3 => rfSame_refl f0 t0 ((paE cc : Nat) : Int) ((paO cc : Nat) : Int) A (paM cc) c (paX cc) (paK cc) ((paQ cc : Nat) : Int) D r dd (paB cc) B d' E2 dc2 W hXl h0 h1 (by unfold maxLen; omega) hr.symm h2 bB h3)
  have HCZ := Lib.hid CZ
  have HRZ := Lib.hid RZ
  rw [hm] at HCZ HRZ
  have HRL := Lib.hid hr
  clear CZ RZ hXl hBl hcl bB hcc hf0 ht0 hr hgg n8
  have HP := Lib.hid hpx
  have HZ := Lib.hid hz
  have HZL := Lib.hid hm
  have HK := Lib.hid hK
  have HBX := Lib.hid (brf (w := w))
  clear hK
  clear hp hpx hm hz hbz ht ht2
  go_enter Tryd.func3, Tryd.ntmps3
  go_wp2_with (first
    | (go_at_call 9; go_must (refine (live5_any _ (HK.out.go HBX.out)).mono ?_; rintro e w1 ⟨rfl, hb1⟩; have HBX := Lib.hid (bgo HBX.out hb1)))
    | (go_at_call 10; go_must ((refine (few_yes P pn pc 0 0 0 0 none 0 0 0 0 none 0 0 Z m d _ (by omega) (by omega) (by omega) (by omega)).mono ?_); rintro e w2 ⟨rfl, hb2⟩; have HBX := Lib.hid (bgo HBX.out hb2)))
    | (at_builtin; refine append_rd rfl _ _ rfl w2.heap.size (.slice none 0 0) 0 [] rfl (World.ownsRow_nil _ _ _ _) Z m d zs rfl HZL.out (HZ.out.below HBX.out) (by omega) (Nat.le_refl _) ?_; intro v3 w3 hown3 hgrow3; rw [Nat.zero_add, List.nil_append] at hown3; have hb3 : Below w2.heap.size w2 w3 := keep_below0 (World.ownsRow_nil w2 w2.heap.size 5 1) hgrow3 brf (Nat.le_refl _) (Nat.le_refl _); obtain ⟨A3, c3, rfl⟩ := own_slice hown3; have HBX := Lib.hid (bgo HBX.out hb3); have HW := Lib.hid (Rd.of_own hown3); clear hown3 hgrow3)
    | (go_at_call 11; (with_reducible refine (HCZ.out _ (HP.out.below HBX.out) (HZ.out.below HBX.out) (HK.out.go HBX.out)).mono ?_); rintro e w6 ⟨A6, c6, D6, d6, rfl, hc6, hx6, ho6, hb6⟩; have HB3 := HBX; have HBX := Lib.hid (bgo HBX.out hb6); have HX6 := Lib.hid hx6; have HO6 := Lib.hid (Rd.of_own ho6); obtain ⟨g, hg⟩ := vrow_some ho6; have HG := Lib.hid hg; have H36 := Lib.hid hb6; have HSZ6 : Hid (∃ n, n = w6.heap.size) := Lib.hid ⟨_, rfl⟩; have HF := Lib.hid (frBox_new w6 f0 t0 ((paE cc : Nat) : Int) ((paO cc : Nat) : Int) (.slice A6 (paM cc) c6) (paK cc) ((paQ cc : Nat) : Int) (.slice D6 r d6) 30); clear hx6 ho6 hg hb6)
    | (go_at_call 12; (with_reducible refine (HRZ.out _ (HP.out.below (bal HBX.out _)) (HZ.out.below (bal HBX.out _))).mono ?_); rintro e w7 ⟨A7, c7, D7, d7, rfl, hc7, hx7, ho7, hb7⟩; have hb67 : Below w6.heap.size w6 w7 := bgo (bal brf _) hb7; have HBX := Lib.hid (bgo HBX.out hb67); have HX6 := Lib.hid (HX6.out.below hb67); have HO6 := Lib.hid (HO6.out.below hb67); have H67 := Lib.hid hb67; have HX7 := Lib.hid hx7; have HO7 := Lib.hid (Rd.of_own ho7); have HF := Lib.hid (HF.out.below hb7); obtain ⟨s0, a0, a1, a2, a3, a4, a5, a6, a7⟩ := HF.out; clear hx7 ho7)
    | (go_at_call 13; (with_reducible refine (HCE.out _ _ _ _ _ _ _ _ _ (HX6.out.below (bal brf _)) (HX7.out.below (bal brf _)) (HO6.out.below (bal brf _)) (HO7.out.below (bal brf _))).mono ?_); rintro e w8 ⟨rfl, hb8⟩; have HF := Lib.hid ((HF.out.below (bal brf _)).below hb8); obtain ⟨s0, a0, a1, a2, a3, a4, a5, a6, a7⟩ := HF.out; have hb78 : Below w7.heap.size w7 w8 := bgo (bal brf _) hb8; have HBX := Lib.hid (bgo HBX.out hb78); have H68 := Lib.hid (bgo H67.out hb78)))
  have HV8 : Hid (0 < r → VRow w8 g (nums .u8 (paB cc))) := Lib.hid fun h0 => (HG.out h0).2.1.below H68.out (HG.out h0).2.2.2
  have HW8 := Lib.hid (bgo H36.out H68.out)
  have HC7 := Lib.hid a7
  obtain ⟨bx, hbx⟩ : ∃ x, x = w6.heap.size := ⟨_, rfl⟩
  have HGB : Hid (0 < r → D6 = some ⟨g, 0, none⟩ ∧ w3.heap.size ≤ g ∧ g < bx) := Lib.hid fun h0 => ⟨(HG.out h0).1, (HG.out h0).2.2.1, by rw [hbx]; exact (HG.out h0).2.2.2⟩
  rw [← hbx] at HC7
  rw [← hbx]
  clear hbx HF s0 a0 a1 a2 a3 a4 a5 a6 a7 hb8 hb78 hb67 hb7
  go_loopw [44] (fun i wr => ∃ (k : Nat) (us : List Int), k ≤ r ∧ i = .int .i64 k ∧ Hid (us.length = r) ∧ Hid (0 < r → VRow wr g (nums .u8 us)) ∧ Hid (wr.cell? ⟨bx, 7, none⟩ = some (.slice D6 r d6)) ∧ Hid (Below w3.heap.size w3 wr)) (fun i _ => r - (intOf i).toNat)
  case atStart => exact ⟨0, paB cc, Nat.zero_le _, rfl, Lib.hid HRL.out.symm, HV8, HC7, HW8⟩
  case round =>
    obtain ⟨k, us, hk, rfl, HUL, HV, HC, HBL⟩ := hrel
    have c7_ := HC.out
    by_cases hlt : k < r
    · have r1 : (k : Int) < r := by omega
      have r0 : 0 < r := by omega
      obtain ⟨he, hg1, hg2⟩ := HGB.out r0
      subst he
      have hv := HV.out r0
      obtain ⟨x, hx⟩ : ∃ x, x = us.getD k 0 := ⟨_, rfl⟩
      obtain ⟨ck, fk⟩ := hv k _ (nums_at (by rw [HUL.out]; exact hlt))
      rw [← hx] at ck
      have HVV := Lib.hid hv
      clear hv hx
      go_wp2_with fail
      refine ⟨⟨k + 1, us.set k (IntKind.u8.wrap (x + 1)), by omega, by congr 1, Lib.hid (by rw [List.length_set]; exact HUL.out), Lib.hid fun _ => ?_, Lib.hid ?_, Lib.hid ?_⟩, by show r - ((k : Int) + 1).toNat < r - (k : Int).toNat; omega⟩
      · rw [nums_set]; exact HVV.out.set _
      · rw [cell_setCell_far (by omega)]; exact HC.out
      · exact HBL.out.setCell (p := ⟨g, k, none⟩) hg1 _
    · have hkr : k = r := by omega
      subst hkr
      have HBW := Lib.hid (bgo HB3.out HBL.out)
      go_wp2_with (go_at_call 14; (with_reducible refine (HCSB.out _ _ _ (HZ.out.below HBW.out) (HW.out.below HBL.out)).mono ?_); rintro e w9 ⟨rfl, rfl⟩)
      go_ret
      exact ⟨by first | (simp; done) | (simp; omega), HBW.out⟩

set_option maxHeartbeats 1000000 in
open Go.Joins Go.Deep in
theorem frameTakes_of {H : Type} {enc : TypeId × Value → H} (W : World) (base : Nat) (args : Array Value) (ds : List (DataW H)) (p : List MemPlace)
    (hval : ∀ (j : Nat) t v, Tryd.f3.params[j]? = some t → args[j]? = some v → Value.okWide Tryd.prog W .any base t v)
    (hA : DataW.TrodAll enc Tryd.prog W 0 (fun _ => true) true Tryd.f3.params.toList args.toList ds p) (hlt : ∀ x ∈ p, x.block < W.heap.size)
    (hz : (DataW.weightsEach Tryd.prog Tryd.f3.params.toList ds).all (· ≤ reachBytes) = true) (hK : Konst W) : Calls Tryd.prog 3 args W (Yes W) := by
  rw [Tryd.params3] at hA hval hz
  obtain ⟨v0, vs0, d0, ds0, p0, q0, hargs, rfl, rfl, h0, r0⟩ := trodAll_cons hA
  obtain ⟨v1, vs1, d1, ds1, p1, q1, rfl, rfl, rfl, h1, r1⟩ := trodAll_cons r0
  obtain ⟨rfl, rfl, rfl⟩ := trodAll_nil r1
  obtain rfl : args = #[v0, v1] := by cases args; simp_all
  obtain ⟨P, pn, pc, key, rfl, p1, p2, p3, p4, p5⟩ := open_bytesT h0 (hval 0 _ _ rfl rfl)
  obtain ⟨Z, m, d, zs, rfl, z1, z2, z3, z4, z5⟩ := open_bytesT h1 (hval 1 _ _ rfl rfl)
  by_cases hs : pn ≤ 200 ∧ m ≤ 800
  · by_cases ht : tF zs
    · by_cases ht2 : tT key zs
      · exact frameTakes_c0 P pn pc Z m d W hK key zs hs p3 p4 z3 z1 z2 z4 z5 ht ht2
      · exact frameTakes_c4 P pn pc Z m d W hK key zs hs p3 p4 z3 z1 z2 z4 z5 ht ht2
    · exact frameTakes_c3 P pn pc Z m d W hK key zs hs p3 p4 z3 z1 z2 z4 z5 ht
  · exact frameTakes_long P pn pc Z m d W hK hs
end Go.Proofs.YtmkmndgdakpojaaDoor
