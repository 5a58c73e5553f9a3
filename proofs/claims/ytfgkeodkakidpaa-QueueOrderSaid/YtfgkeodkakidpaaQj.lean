/- A contract of the document's Put: a letter is accepted. -/
import Derived.Test.YtfgkeodkakidpaaQi
namespace Go.Proofs.Ytfgkeodkakidpaa
open Go.RowKit
set_option linter.unusedSimpArgs false
set_option linter.unusedVariables false
set_option maxRecDepth 100000

theorem racc_done {w X0 w8 : World} {L n c8 c4 : Nat} {nx fr to : Int} {v : Value} {E4 A8 : Option Addr} {xs : List Int} {ps : List (Ltr × Value)} (hP : PR w X0 L nx v fr to E4 c4 xs) (hb8 : Below X0.heap.size X0 w8) (hown8 : w8.ownsRow X0.heap.size 36 5 (.slice A8 (n + 1) c8) (n + 1) (flat ps ++ cells5 (false, fr, to, nx, xs) (.slice E4 xs.length c4))) (hT : Texts w ps) (u0 u1 : Value) :
    QAt ((w8.setCell ⟨w.heap.size + 1 + 1, 0, none⟩ u0).setCell ⟨w.heap.size + 1 + 1, 1, none⟩ u1) A8 (n + 1) c8 (ps ++ [((false, fr, to, nx, xs), .slice E4 xs.length c4)]) ∧ Below w.heap.size w ((w8.setCell ⟨w.heap.size + 1 + 1, 0, none⟩ u0).setCell ⟨w.heap.size + 1 + 1, 1, none⟩ u1) := by
  obtain ⟨⟨h1, h2⟩, _, _, _, ho, hb⟩ := hP
  have hF := put_below (bgo hb hb8) u0 u1
  rw [← flat_snoc] at hown8
  have hl : (ps ++ [(((false, fr, to, nx, xs) : Ltr), Value.slice E4 xs.length c4)]).length = n + 1 := by
    have := hown8.1
    rw [flat_len] at this
    omega
  have hr := own_setCell (a := ⟨w.heap.size + 1 + 1, 1, none⟩) (u := u1) (own_setCell (a := ⟨w.heap.size + 1 + 1, 0, none⟩) (u := u0) hown8 (by show _ < X0.heap.size; simp; omega)) (by show _ < X0.heap.size; simp; omega)
  have ht := own_setCell (a := ⟨w.heap.size + 1 + 1, 1, none⟩) (u := u1) (own_setCell (a := ⟨w.heap.size + 1 + 1, 0, none⟩) (u := u0) (own_keepB ho hb8) (by show w.heap.size + 1 + 1 < w.heap.size + 3; omega)) (by show w.heap.size + 1 + 1 < w.heap.size + 3; omega)
  exact ⟨⟨hl, (own_capN hr).1, (own_capN hr).2, Rd.of_ownN hr, (hT.below hF).snoc (Part.of_own ht)⟩, hF⟩

set_option maxHeartbeats 400000 in
theorem rput_accepts (D : Option Addr) (dn dc : Nat) (ch st cl qu clo lo ag wi ro se : Int) (nx fr to : Int) (A : Option Addr) (n c : Nat) (ps : List (Ltr × Value)) (E : Option Addr) (m mc : Nat) (w : World) (hq : QAt w A n c ps) (hby : n * 56 ≤ 140737488351232) (h1 : cliB cl fr = true) (h2 : cliB cl to = true) (h3 : ¬ (64 : Int) < m) (h4 : (nx == 18446744073709551615) = false) (h5 : ¬ qu ≤ (n : Int)) (h6 : 0 ≤ nx) (h7 : nx ≤ 18446744073709551614) (xs : List Int) (hE : Rd w E (nums .u8 xs)) (hm : xs.length = m) :
    Calls Try.prog 12 #[cfgV (.slice D dn dc) ch st cl qu clo lo ag wi ro se, .agg #[.int .u64 nx, .slice A n c], .int .i64 fr, .int .i64 to, .slice E m mc] w (IsQ w (nx + 1) (ps.map (·.1) ++ [(false, fr, to, nx, xs)]) (.int .i64 1)) := by
  obtain ⟨hn, hc, hmx, hx⟩ := hq
  obtain ⟨i0, hi, hz0, hz1, hz2⟩ := info_parts infoLetter
  obtain ⟨j0, ji, jz0, jz1, jz2⟩ := info_parts infoByteP
  have hnm : (n : Int) ≤ 9223372036854775807 := by omega
  obtain ⟨a1, a2⟩ := cli_yes h1
  obtain ⟨a3, a4⟩ := cli_yes h2
  have HX := Lib.hid hx
  have HN := Lib.hid hn
  have HBY := Lib.hid hby
  have HE := Lib.hid hE
  have HM := Lib.hid hm
  have hnl : (nums .u8 xs).length = m * 1 := by simp [hm]
  have HNL := Lib.hid hnl
  have hfl : (flat ps).length = n * 5 := by rw [flat_len, hn]
  have HFL := Lib.hid hfl
  have HONE := Lib.hid (flat_one hx.2)
  have HTX : Hid (Texts w ps) := Lib.hid hx.2
  have hq1 := (At2.new (w.alloc (.cells #[.slice D dn dc, .int .i64 ch, .int .i64 st, .int .i64 cl, .int .i64 qu, .int .i64 clo, .int .i64 lo, .int .i64 ag, .int .i64 wi, .int .u64 ro, .int .u64 se] 25)) (.int .u64 nx) (.slice A n c) 28).alloc (.cells #[.int .u64 0, .slice none 0 0] 28)
  have hr2 := At2.new ((w.alloc (.cells #[.slice D dn dc, .int .i64 ch, .int .i64 st, .int .i64 cl, .int .i64 qu, .int .i64 clo, .int .i64 lo, .int .i64 ag, .int .i64 wi, .int .u64 ro, .int .u64 se] 25)).alloc (.cells #[.int .u64 nx, .slice A n c] 28)) (.int .u64 0) (.slice none 0 0) 28
  simp only [World.size_alloc] at hq1 hr2
  have HQ1 := Lib.hid hq1
  have HR2 := Lib.hid hr2
  clear hq1 hr2 hx hn hby hmx hE hm hnl hfl h1 h2
  go_enter Try.func12, Try.ntmps12
  go_wp2_with fail
  have hstart : ((((w.alloc (.cells #[.slice D dn dc, .int .i64 ch, .int .i64 st, .int .i64 cl, .int .i64 qu, .int .i64 clo, .int .i64 lo, .int .i64 ag, .int .i64 wi, .int .u64 ro, .int .u64 se] 25)).alloc (.cells #[.int .u64 nx, .slice A n c] 28)).alloc (.cells #[.int .u64 0, .slice none 0 0] 28)).drew).cell? ⟨w.heap.size + 1, 0, none⟩ = some (.int .u64 nx) ∧ ((((w.alloc (.cells #[.slice D dn dc, .int .i64 ch, .int .i64 st, .int .i64 cl, .int .i64 qu, .int .i64 clo, .int .i64 lo, .int .i64 ag, .int .i64 wi, .int .u64 ro, .int .u64 se] 25)).alloc (.cells #[.int .u64 nx, .slice A n c] 28)).alloc (.cells #[.int .u64 0, .slice none 0 0] 28)).drew).cell? ⟨w.heap.size + 1, 1, none⟩ = some (.slice A n c) := ⟨HQ1.out.1, HQ1.out.2.1⟩
  have hl0 := At5.new (((w.alloc (.cells #[.slice D dn dc, .int .i64 ch, .int .i64 st, .int .i64 cl, .int .i64 qu, .int .i64 clo, .int .i64 lo, .int .i64 ag, .int .i64 wi, .int .u64 ro, .int .u64 se] 25)).alloc (.cells #[.int .u64 nx, .slice A n c] 28)).alloc (.cells #[.int .u64 0, .slice none 0 0] 28)) (.bool false) (.int .i64 0) (.int .i64 0) (.int .u64 0) (.slice none 0 0) 36
  simp only [World.size_alloc] at hl0
  have HL0 := Lib.hid hl0
  clear hl0
  have hne1 : w.heap.size + 1 + 1 + 1 ≠ w.heap.size + 1 := by omega
  go_region_held3 (fun x => x.cell? ⟨w.heap.size + 1, 0, none⟩ = some (.int .u64 nx) ∧ x.cell? ⟨w.heap.size + 1, 1, none⟩ = some (.slice A n c)) (first | with_reducible exact hS4 | with_reducible exact held2_alloc hS4 | with_reducible exact held2_set5 hS4 hne1 | with_reducible exact hstart | exact held2_alloc hstart)
    (first
      | (refine step_append_sz rfl _ _ 22 (by rfl) (w.heap.size + 3) 5 j0 _ 1 1 Try.underlying22 ji jz0 jz1 jz2 rfl (by decide) (.slice none 0 0) 0 [] (by rfl) ⟨rfl, .inl ⟨rfl, rfl⟩⟩ E m mc (nums .u8 xs) (by rfl) HNL.out (HE.out.below (bdr (bal (bal (bal brf _) _) _))) nums_oneCell (by unfold maxLen; omega) (by omega) (by simp) ?_; intro v4 w4 hown4 hgrow4; rw [Nat.zero_add, List.nil_append] at hown4; have hb4 : Below (w.heap.size + 3) _ w4 := (Below.drew (Below.refl (w.heap.size + 3) _)).grown hgrow4 (by simp) (fun k e => by simp [Value.ownBlock] at e); have hQ4 := HQ1.out.below hb4 (by omega); have hR4 := HR2.out.below hb4 (by omega); have HQ4 := Lib.hid hQ4; have HR4 := Lib.hid hR4; have hS4 : w4.cell? ⟨w.heap.size + 1, 0, none⟩ = some (.int .u64 nx) ∧ w4.cell? ⟨w.heap.size + 1, 1, none⟩ = some (.slice A n c) := ⟨hQ4.1, hQ4.2.1⟩; have HB4 := Lib.hid (((bal (bal (bal brf _) _) _) : Below w.heap.size w _).trans (hb4.mono (by omega))); have z4 : w.heap.size + 3 ≤ w4.heap.size := (by have := hb4.size; simp at this; omega); have hm4 := HM.out; subst hm4; obtain ⟨E4, c4, rfl⟩ := own_slice hown4; have HO4 := Lib.hid hown4; clear hown4 hgrow4 hb4 hQ4 hR4)
      | (refine step_append_sz rfl _ _ 22 (by rfl) (w.heap.size + 4) 5 j0 _ 1 1 Try.underlying22 ji jz0 jz1 jz2 rfl (by decide) (.slice none 0 0) 0 [] (by rfl) ⟨rfl, .inl ⟨rfl, rfl⟩⟩ E m mc (nums .u8 xs) (by rfl) HNL.out (HE.out.below (bdr (bal (bal (bal (bal brf _) _) _) _))) nums_oneCell (by unfold maxLen; omega) (by omega) (by simp) ?_; intro v4 w4 hown4 hgrow4; rw [Nat.zero_add, List.nil_append] at hown4; have hb4 : Below (w.heap.size + 4) _ w4 := (Below.drew (Below.refl (w.heap.size + 4) _)).grown hgrow4 (by simp) (fun k e => by simp [Value.ownBlock] at e); have hQ4 := (HQ1.out.alloc _).below hb4 (by omega); have hR4 := (HR2.out.alloc _).below hb4 (by omega); have HQ4 := Lib.hid hQ4; have HR4 := Lib.hid hR4; have hS4 : w4.cell? ⟨w.heap.size + 1, 0, none⟩ = some (.int .u64 nx) ∧ w4.cell? ⟨w.heap.size + 1, 1, none⟩ = some (.slice A n c) := ⟨hQ4.1, hQ4.2.1⟩; have HB4 := Lib.hid (((bal (bal (bal (bal brf _) _) _) _) : Below w.heap.size w _).trans (hb4.mono (by omega))); have z4 : w.heap.size + 4 ≤ w4.heap.size := (by have := hb4.size; simp at this; omega); have hm4 := HM.out; subst hm4; obtain ⟨E4, c4, rfl⟩ := own_slice hown4; have HO4 := Lib.hid hown4; have HL4 := Lib.hid (HL0.out.below hb4 (by omega)); obtain ⟨⟨l0, l1, l2, l3, l4⟩, f0, f1, f2, f3, f4⟩ := HL4.out; clear hown4 hgrow4 hb4 hQ4 hR4))
  · go_wp2_with fail
    have hP : PR w (w4.alloc (.cells #[.bool false, .int .i64 fr, .int .i64 to, .int .u64 nx, .slice E4 xs.length c4] 36)) w4.heap.size nx (.slice A n c) fr to E4 c4 xs :=
      ⟨⟨by omega, by simp⟩, HQ4.out.alloc _, HR4.out.alloc _, At5.new _ _ _ _ _ _ _, HO4.out.alloc _, bal HB4.out _⟩
    have HP := Lib.hid hP
    clear hP hS4 HQ4 HR4 HO4 HB4
    obtain ⟨X0, hX0⟩ : ∃ X0, X0 = (w4.alloc (.cells #[.bool false, .int .i64 fr, .int .i64 to, .int .u64 nx, .slice E4 xs.length c4] 36)) := ⟨_, rfl⟩
    obtain ⟨L, hL⟩ : ∃ L, L = w4.heap.size := ⟨_, rfl⟩
    rw [← hX0] at HP ⊢
    rw [← hL] at HP ⊢
    clear hX0 hL
    have HXX : Hid (Rd X0 A (flat ps)) := Lib.hid (HX.out.1.below HP.out.2.2.2.2.2)
    have hne2 : w.heap.size + 1 + 1 ≠ w.heap.size + 1 := by omega
    have hwr : IntKind.u64.wrap (nx + 1) = nx + 1 := IntWalk.u64_in _ (by omega)
    have hne3 : w.heap.size + 1 + 1 ≠ L := by have := HP.out.1; omega
    have hS0 : QLA X0.drew (w.heap.size + 1) L nx (.slice A n c) fr to (.slice E4 xs.length c4) := qla_of HP.out.2.1 HP.out.2.2.2.1
    go_region_held3 (fun x => QLA x (w.heap.size + 1) L nx (.slice A n c) fr to (.slice E4 xs.length c4)) (first | with_reducible exact hS8 | with_reducible exact qla_set hS8 hne2 hne3 | with_reducible exact hS7 | with_reducible exact qla_alloc hS7 | with_reducible exact hS0 | exact qla_alloc hS0)
      (first
        | (refine step_append_sz rfl _ _ 26 (by rfl) X0.heap.size 36 i0 _ 5 56 Try.underlying26 hi hz0 hz1 hz2 rfl (by decide) v7 n (flat ps) (by rfl) (by first | exact hown7 | exact hown7.alloc _) _ 1 1 (cells5 (false, fr, to, nx, xs) (.slice E4 xs.length c4)) (by rfl) rfl (by first | exact HRn.out | exact rd5_new w7 _ _ _ _ _ _) (by simp [cells5]; exact ⟨rfl, rfl, rfl, rfl, rfl⟩) (by have := HBY.out; unfold maxLen; omega) (by have := HBY.out; omega) (by have := hb7.size; simp; omega) ?_; intro v8 w8 hown8 hgrow8; have hb8 : Below X0.heap.size X0 w8 := keep_below0 (by first | exact hown7 | exact hown7.alloc _) hgrow8 (by first | exact hb7 | exact bal hb7 _) (by have := hb7.size; simp; omega) (Nat.le_refl _); have hS8 : QLA w8 (w.heap.size + 1) L nx (.slice A n c) fr to (.slice E4 xs.length c4) := (qla_of (HP.out.2.1.below hb8 (by have := HP.out.1; omega)) (HP.out.2.2.2.1.below hb8 HP.out.1.2)); obtain ⟨r0, r1, r2, r3⟩ := HP.out.2.2.1.below hb8 (by have := HP.out.1; omega); obtain ⟨A8, c8, rfl⟩ := own_slice hown8)
        | (refine step_append_sz rfl _ _ 26 (by rfl) X0.heap.size 36 i0 _ 5 56 Try.underlying26 hi hz0 hz1 hz2 rfl (by decide) (.slice none 0 0) 0 [] (by rfl) ⟨rfl, .inl ⟨rfl, rfl⟩⟩ A n c (flat ps) (by rfl) HFL.out (by first | exact HXX.out.below (bdr brf) | exact HXX.out.below (bdr (bal brf _))) HONE.out (by have := HBY.out; unfold maxLen; omega) (by have := HBY.out; omega) (by simp) ?_; intro v7 w7 hown7 hgrow7; rw [Nat.zero_add, List.nil_append] at hown7; have hb7 : Below X0.heap.size X0 w7 := (by first | exact (bdr brf : Below X0.heap.size X0 _).grown hgrow7 (by simp) (fun k e => by simp [Value.ownBlock] at e) | exact (bdr (bal brf _) : Below X0.heap.size X0 _).grown hgrow7 (by simp) (fun k e => by simp [Value.ownBlock] at e)); have hS7 : QLA w7 (w.heap.size + 1) L nx (.slice A n c) fr to (.slice E4 xs.length c4) := (qla_of (HP.out.2.1.below hb7 (by have := HP.out.1; omega)) (HP.out.2.2.2.1.below hb7 HP.out.1.2)); (try have HRn := Lib.hid ((rd5_new X0.drew (.bool false) (.int .i64 fr) (.int .i64 to) (.int .u64 nx) (.slice E4 xs.length c4) 36).below (brf.grown hgrow7 (Nat.le_refl _) (fun k e => by simp [Value.ownBlock] at e))))))
    all_goals
      go_wp2_with fail
      have hF := racc_done HP.out hb8 hown8 HTX.out (.int .u64 (nx + 1)) (.slice A8 (n + 1) c8)
      refine bodyPost_ret (v := .tuple #[.agg #[.int .u64 (nx + 1), .slice A8 (n + 1) c8], .int .i64 1]) (by simp [results, Try.results12, go_sem, r0, r1, r2, r3]) rfl ⟨A8, n + 1, c8, ps ++ [((false, fr, to, nx, xs), .slice E4 xs.length c4)], rfl, by simp, hF.1, hF.2⟩
  · go_wp2_with fail
    have hP : PR w (((((w4.setCell ⟨w.heap.size + 1 + 1 + 1, 0, none⟩ (.bool false)).setCell ⟨w.heap.size + 1 + 1 + 1, 1, none⟩ (.int .i64 fr)).setCell ⟨w.heap.size + 1 + 1 + 1, 2, none⟩ (.int .i64 to)).setCell ⟨w.heap.size + 1 + 1 + 1, 3, none⟩ (.int .u64 nx)).setCell ⟨w.heap.size + 1 + 1 + 1, 4, none⟩ (.slice E4 xs.length c4)) (w.heap.size + 1 + 1 + 1) nx (.slice A n c) fr to E4 c4 xs :=
      pr_set z4 HQ4.out HR4.out HL4.out HO4.out HB4.out
    have HP := Lib.hid hP
    clear hP hS4 HQ4 HR4 HO4 HB4
    obtain ⟨X0, hX0⟩ : ∃ X0, X0 = (((((w4.setCell ⟨w.heap.size + 1 + 1 + 1, 0, none⟩ (.bool false)).setCell ⟨w.heap.size + 1 + 1 + 1, 1, none⟩ (.int .i64 fr)).setCell ⟨w.heap.size + 1 + 1 + 1, 2, none⟩ (.int .i64 to)).setCell ⟨w.heap.size + 1 + 1 + 1, 3, none⟩ (.int .u64 nx)).setCell ⟨w.heap.size + 1 + 1 + 1, 4, none⟩ (.slice E4 xs.length c4)) := ⟨_, rfl⟩
    obtain ⟨L, hL⟩ : ∃ L, L = w.heap.size + 1 + 1 + 1 := ⟨_, rfl⟩
    rw [← hX0] at HP ⊢
    rw [← hL] at HP ⊢
    clear hX0 hL
    have HXX : Hid (Rd X0 A (flat ps)) := Lib.hid (HX.out.1.below HP.out.2.2.2.2.2)
    have hne2 : w.heap.size + 1 + 1 ≠ w.heap.size + 1 := by omega
    have hwr : IntKind.u64.wrap (nx + 1) = nx + 1 := IntWalk.u64_in _ (by omega)
    have hne3 : w.heap.size + 1 + 1 ≠ L := by have := HP.out.1; omega
    have hS0 : QLA X0.drew (w.heap.size + 1) L nx (.slice A n c) fr to (.slice E4 xs.length c4) := qla_of HP.out.2.1 HP.out.2.2.2.1
    go_region_held3 (fun x => QLA x (w.heap.size + 1) L nx (.slice A n c) fr to (.slice E4 xs.length c4)) (first | with_reducible exact hS8 | with_reducible exact qla_set hS8 hne2 hne3 | with_reducible exact hS7 | with_reducible exact qla_alloc hS7 | with_reducible exact hS0 | exact qla_alloc hS0)
      (first
        | (refine step_append_sz rfl _ _ 26 (by rfl) X0.heap.size 36 i0 _ 5 56 Try.underlying26 hi hz0 hz1 hz2 rfl (by decide) v7 n (flat ps) (by rfl) (by first | exact hown7 | exact hown7.alloc _) _ 1 1 (cells5 (false, fr, to, nx, xs) (.slice E4 xs.length c4)) (by rfl) rfl (by first | exact HRn.out | exact rd5_new w7 _ _ _ _ _ _) (by simp [cells5]; exact ⟨rfl, rfl, rfl, rfl, rfl⟩) (by have := HBY.out; unfold maxLen; omega) (by have := HBY.out; omega) (by have := hb7.size; simp; omega) ?_; intro v8 w8 hown8 hgrow8; have hb8 : Below X0.heap.size X0 w8 := keep_below0 (by first | exact hown7 | exact hown7.alloc _) hgrow8 (by first | exact hb7 | exact bal hb7 _) (by have := hb7.size; simp; omega) (Nat.le_refl _); have hS8 : QLA w8 (w.heap.size + 1) L nx (.slice A n c) fr to (.slice E4 xs.length c4) := (qla_of (HP.out.2.1.below hb8 (by have := HP.out.1; omega)) (HP.out.2.2.2.1.below hb8 HP.out.1.2)); obtain ⟨r0, r1, r2, r3⟩ := HP.out.2.2.1.below hb8 (by have := HP.out.1; omega); obtain ⟨A8, c8, rfl⟩ := own_slice hown8)
        | (refine step_append_sz rfl _ _ 26 (by rfl) X0.heap.size 36 i0 _ 5 56 Try.underlying26 hi hz0 hz1 hz2 rfl (by decide) (.slice none 0 0) 0 [] (by rfl) ⟨rfl, .inl ⟨rfl, rfl⟩⟩ A n c (flat ps) (by rfl) HFL.out (by first | exact HXX.out.below (bdr brf) | exact HXX.out.below (bdr (bal brf _))) HONE.out (by have := HBY.out; unfold maxLen; omega) (by have := HBY.out; omega) (by simp) ?_; intro v7 w7 hown7 hgrow7; rw [Nat.zero_add, List.nil_append] at hown7; have hb7 : Below X0.heap.size X0 w7 := (by first | exact (bdr brf : Below X0.heap.size X0 _).grown hgrow7 (by simp) (fun k e => by simp [Value.ownBlock] at e) | exact (bdr (bal brf _) : Below X0.heap.size X0 _).grown hgrow7 (by simp) (fun k e => by simp [Value.ownBlock] at e)); have hS7 : QLA w7 (w.heap.size + 1) L nx (.slice A n c) fr to (.slice E4 xs.length c4) := (qla_of (HP.out.2.1.below hb7 (by have := HP.out.1; omega)) (HP.out.2.2.2.1.below hb7 HP.out.1.2)); (try have HRn := Lib.hid ((rd5_new X0.drew (.bool false) (.int .i64 fr) (.int .i64 to) (.int .u64 nx) (.slice E4 xs.length c4) 36).below (brf.grown hgrow7 (Nat.le_refl _) (fun k e => by simp [Value.ownBlock] at e))))))
    all_goals
      go_wp2_with fail
      have hF := racc_done HP.out hb8 hown8 HTX.out (.int .u64 (nx + 1)) (.slice A8 (n + 1) c8)
      refine bodyPost_ret (v := .tuple #[.agg #[.int .u64 (nx + 1), .slice A8 (n + 1) c8], .int .i64 1]) (by simp [results, Try.results12, go_sem, r0, r1, r2, r3]) rfl ⟨A8, n + 1, c8, ps ++ [((false, fr, to, nx, xs), .slice E4 xs.length c4)], rfl, by simp, hF.1, hF.2⟩
end Go.Proofs.Ytfgkeodkakidpaa
