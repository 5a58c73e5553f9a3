/- The law of letters that come out in the order in which they were put in: the walk. -/
import Derived.Test.YtfgkeodkakidpaaQu
namespace Go.Proofs.Ytfgkeodkakidpaa
open Go.RowKit Go.ChangeShapes Go.WideShapes Go.ChangeAt
set_option linter.unusedSimpArgs false
set_option linter.unusedVariables false
set_option maxRecDepth 100000

section
variable (cl sz seq : Int) (AT : Option Addr) (nt ct : Nat) (vs : List Value) (Lt : List (List Int)) (AP : Option Addr) (np cp : Nat) (bs : List Bool) (w : World)
set_option maxHeartbeats 8000000 in
theorem queueOrder_in (h1 : 1 ≤ cl) (h2 : cl ≤ 8) (h3 : 1 ≤ sz) (h4 : sz ≤ 64) (h5 : 1 ≤ seq) (h6 : seq ≤ 9223372036854775807) (h7 : nt ≤ 60) (h8 : np ≤ 60) (hx : Rd w AT vs) (hp : Parts w vs Lt) (hn : Lt.length = nt) (hB : ∀ y ∈ Lt, Byt y) (hy : Rd w AP (bs.map Value.bool)) (hbn : bs.length = np) :
    Calls Try.prog 5 #[.int .i64 cl, .int .i64 sz, .int .i64 seq, .slice AT nt ct, .slice AP np cp] w (Yes w) := by
  have q1 : ¬ cl < 1 := by omega
  have q2 : ¬ (8 : Int) < cl := by omega
  have q3 : ¬ sz < 1 := by omega
  have q4 : ¬ (64 : Int) < sz := by omega
  have q5 : ¬ seq < 1 := by omega
  have q6 : ¬ (60 : Int) < nt := by omega
  have q7 : ¬ (60 : Int) < np := by omega
  have hw0 : IntKind.u64.wrap seq = seq := IntWalk.u64_in _ (by omega)
  obtain ⟨i0, hi, hz0, hz1, hz2⟩ := info_parts infoBytes
  have HX := Lib.hid hx
  have HP := Lib.hid hp
  have HN := Lib.hid hn
  have HBY := Lib.hid hB
  have HY := Lib.hid hy
  have HBN := Lib.hid hbn
  clear hx hp hn hB hy hbn
  go_enter Try.func5, Try.ntmps5
  go_wp2_with fail
  refine (live_any _).mono ?_
  rintro e w1 ⟨rfl, hb⟩
  have HB1 := Lib.hid hb
  clear hb
  go_wp2_with fail
  refine (new_any seq _).mono ?_
  rintro e w2 ⟨rfl, hb⟩
  have hb2 : Below w1.heap.size w1 w2 := (bal brf _ : Below w1.heap.size w1 _).trans (hb.mono (by simp))
  have HC2 := Lib.hid ((CfgAt.new w1 (.slice none 0 0) 0 0 cl sz 0 0 0 0 0 0 25).below hb (by simp))
  have hlt12 : w1.heap.size < w2.heap.size := by have := hb.size; simp at this; omega
  have HB2 := Lib.hid (bgo HB1.out hb2)
  clear hb hb2
  go_wp2_with fail
  have hstart : ORD w (w2.alloc (.cells #[.int .u64 seq, .slice none 0 0] 28)) w1.heap.size w2.heap.size (w2.heap.size + 1) cl sz seq none 0 [] [] 0 none 0 0 [] := by
    refine ⟨⟨bal HB2.out _, HB1.out.size, hlt12, Nat.lt_succ_self _, by simp⟩, HC2.out.alloc _, ⟨?_, rfl, Nat.le_refl _, Nat.zero_le _, LRow.nil⟩, ⟨⟨rfl, .inl ⟨rfl, rfl⟩⟩, Parts.nil⟩, ⟨Nat.le_refl _, by simp; omega, fun y hy => by cases hy⟩, fun l hl => by simp at hl, rfl⟩
    have := At2.new w2 (.int .u64 seq) (.slice none 0 0) 28
    simpa using this
  have HSTART := Lib.hid hstart
  clear hstart HC2
  obtain ⟨C, hC⟩ : ∃ C, C = w1.heap.size := ⟨_, rfl⟩
  obtain ⟨K, hK⟩ : ∃ K, K = w2.heap.size := ⟨_, rfl⟩
  obtain ⟨wl, hwl⟩ : ∃ x, x = w2.alloc (.cells #[.int .u64 seq, .slice none 0 0] 28) := ⟨_, rfl⟩
  rw [← hC, ← hK] at HSTART
  rw [← hwl] at HSTART
  rw [← hwl, ← hC, ← hK]
  clear hC hK hwl HB1 HB2 hlt12
  go_loopw [13, 14, 62] (fun a b i wr => ∃ (k p o : Nat) (I : Option Addr) (ci : Nat) (us : List Value) (L : List (List Int)) (D : Option Addr) (m d : Nat) (qs : List (Ltr × Value)), k ≤ nt ∧ p ≤ k ∧ i = .int .i64 k ∧ a = .slice I p ci ∧ b = .int .i64 o ∧ Hid (L.length = p) ∧ Hid (ORD w wr C K (K + 1) cl sz seq I ci us L o D m d qs)) (fun _ _ i _ => nt - (intOf i).toNat)
  case atStart => exact ⟨0, 0, 0, none, 0, [], [], none, 0, 0, [], Nat.zero_le _, Nat.le_refl _, rfl, rfl, rfl, Lib.hid rfl, HSTART⟩
  case round =>
    obtain ⟨k, p, o, I, ci, us, L, D, m, d, qs, hk, hpk, rfl, rfl, rfl, HL, HO⟩ := hrel
    have hlen := HO.out.len
    rw [HL.out] at hlen
    have hop : o ≤ p := by have := HO.out.2.2.2.2.1.1; rw [HL.out] at this; exact this
    have hsub : (p : Int) - (o : Int) = (m : Int) := by omega
    have hmsz : (m : Int) ≤ sz := by have := HO.out.2.2.2.2.1.2.1; rw [HL.out] at this; rw [hlen]; exact this
    have HLEN := Lib.hid hlen
    clear hlen
    by_cases hlt : k < nt
    · have r1 : (k : Int) < nt := by omega
      obtain ⟨bt, ot, rfl, hlbt, hct⟩ := (HX.out.below HO.out.1.1).at_ (by rw [HP.out.1, HN.out]; omega)
      have ck := hct k _ (vs_at (by rw [HP.out.1, HN.out]; exact hlt))
      have hpt := HP.out.2 k (by rw [HN.out]; exact hlt)
      obtain ⟨x, hx⟩ : ∃ x, x = Lt.getD k [] := ⟨_, rfl⟩
      have hbx : Byt x := by
        rw [hx, List.getD, List.getElem?_eq_getElem (show k < Lt.length by rw [HN.out]; exact hlt)]
        exact HBY.out _ (List.getElem_mem _)
      rw [← hx] at hpt
      obtain ⟨E, mc, hv, hm1, hm2, hE⟩ := hpt
      rw [hv] at ck
      obtain ⟨m1, hM⟩ : ∃ m1, x.length = m1 := ⟨_, rfl⟩
      rw [hM] at ck hm1
      have HM := Lib.hid hM
      have HE := Lib.hid hE
      have HBX := Lib.hid hbx
      have HV : Hid (Part w (.slice E m1 mc) x) := Lib.hid ⟨E, mc, by rw [HM.out], by rw [HM.out]; exact hm1, hm2, hE⟩
      have hmc : (m1 : Int) ≤ 9223372036854775807 := by unfold maxLen at hm2; omega
      clear hct hv hx hbx hM hE hm1 hm2
      by_cases hbig : (100 : Int) < m1
      · go_wp2_with fail
        go_ret
        exact ⟨rfl, HO.out.1.1⟩
      have hf0 : 0 ≤ (k : Int).tmod cl := Int.tmod_nonneg _ (by omega)
      have hf1 : (k : Int).tmod cl < cl := Int.tmod_lt_of_pos _ (by omega)
      have hfe : (k : Int) % cl = (k : Int).tmod cl := (Int.tmod_eq_emod_of_nonneg (by omega)).symm
      obtain ⟨f, hf⟩ : ∃ f, (k : Int).tmod cl = f := ⟨_, rfl⟩
      rw [hf] at hf0 hf1 hfe
      have hc0 : ¬ cl = 0 := by omega
      have hc1 : (cl == 0) = false := by simp; omega
      have hfw : IntKind.i64.wrap f = f := IntWalk.i64_in _ (by omega)
      have HCF : Hid (cliB cl f = true) := Lib.hid (by simp [cliB]; omega)
      have HCT : Hid (cliB cl 0 = true) := Lib.hid (by simp [cliB]; omega)
      have hqa := HO.out.2.2.1.1
      rw [HL.out] at hqa
      have HQA := Lib.hid hqa
      have hS0 : CQA wr.drew C K cl sz (seq + (p : Int)) (.slice D m d) := cqa_of HO.out.2.1 hqa
      have HCK : Hid (C < wr.heap.size ∧ K < wr.heap.size ∧ wr.heap.size ≠ C ∧ wr.heap.size ≠ K ∧ C < K) := Lib.hid (by have h1 := HO.out.1; omega)
      have HMB : Hid (m * 56 ≤ 140737488351232) := Lib.hid (by omega)
      have hnx : ((seq + (p : Int)) == 18446744073709551615) = false := by simp; omega
      have HNX := Lib.hid hnx
      clear hqa hnx
      by_cases hlong : (64 : Int) < m1
      · have tok1 : True := trivial
        have C1 := fun (W : World) (hq : QAt W D m d qs) (hE : Rd W E (nums .u8 x)) => put_long none 0 0 0 0 cl sz 0 0 0 0 0 0 (seq + (p : Int)) f 0 D m d qs E m1 mc W hq HMB.out HO.out.2.2.2.2.2.1 HCF.out HCT.out hlong
        have HC := Lib.hid C1
        clear C1
        go_wp2_with fail
        go_cut [17, 18] (fun a b wx => ∃ (P : Nat) (D3 : Option Addr) (m3 d3 : Nat) (qs3 : List (Ltr × Value)), a = .pointer (some ⟨P, 0, none⟩) ∧ b = .int .i64 3 ∧ Hid (PUTS wr wx P (seq + (p : Int)) D3 m3 d3 qs3 (qs.map (·.1))))
        case first =>
          go_region_held3 (fun x => CQA x C K cl sz (seq + (p : Int)) (.slice D m d)) (first | with_reducible exact hS3 | with_reducible exact cqa_alloc hS3 | with_reducible exact cqa_set hS3 HCK.out.2.2.1 HCK.out.2.2.2.1 | with_reducible exact hS0 | exact cqa_alloc hS0)
            ((go_at_call 10; go_must (first | (refine (HC.out wr.drew (HO.out.2.2.1.2.below (bdr brf)) (HE.out.below (bdr HO.out.1.1))).mono ?_; rintro e w3 ⟨D3, m3, d3, qs3, rfl, hm3, hq3, hb3⟩; have HB3 := Lib.hid (bgo (bdr brf : Below wr.heap.size wr _) hb3); have HQ3 := Lib.hid hq3; have HM3 := Lib.hid hm3; have hS3 : CQA w3 C K cl sz (seq + (p : Int)) (.slice D m d) := cqa_of (HO.out.2.1.below HB3.out HCK.out.1) (HQA.out.below HB3.out HCK.out.2.1)) | (refine (HC.out (wr.alloc (.cells #[.int .u64 0, .slice none 0 0] 28)).drew (HO.out.2.2.1.2.below (bdr (bal brf _))) (HE.out.below (bdr (bal HO.out.1.1 _)))).mono ?_; rintro e w3 ⟨D3, m3, d3, qs3, rfl, hm3, hq3, hb3⟩; have HB3 := Lib.hid (bgo (bdr (bal brf _) : Below wr.heap.size wr _) hb3); have HK3 := Lib.hid ((At2.new wr (.int .u64 0) (.slice none 0 0) 28).below (Below.trans (Below.drew (Below.refl _ _)) hb3) (by simp)); obtain ⟨k30, k31, k32, k33⟩ := HK3.out; have HQ3 := Lib.hid hq3; have HM3 := Lib.hid hm3; have hS3 : CQA w3 C K cl sz (seq + (p : Int)) (.slice D m d) := cqa_of (HO.out.2.1.below HB3.out HCK.out.1) (HQA.out.below HB3.out HCK.out.2.1)))))
          all_goals (first | (go_simp; go_step; go_meet) | (go_step; go_meet) | go_meet)
          all_goals first
            | exact ⟨_, D3, m3, d3, qs3, rfl, rfl, Lib.hid (puts_new HB3.out HQ3.out (by simp) HM3.out)⟩
            | exact ⟨_, D3, m3, d3, qs3, rfl, rfl, Lib.hid (puts_set HB3.out (Nat.le_refl _) HK3.out HQ3.out (by simp) HM3.out)⟩
        case rest =>
          obtain ⟨P, D3, m3, d3, qs3, rfl, rfl, HPS⟩ := hcut
          obtain ⟨wm, hwm⟩ : ∃ x, x = wc := ⟨_, rfl⟩
          subst hwm
          have HOm := Lib.hid (HO.out.later HPS.out.1)
          have hqm := HOm.out.2.2.1.1
          rw [HL.out] at hqm
          obtain ⟨qb0, qb1, qf0, qf1⟩ := hqm
          obtain ⟨pb0, pb1, pf0, pf1⟩ := HPS.out.2.2.1
          have HMm := Lib.hid HPS.out.2.2.2.2
          have HQm := Lib.hid HPS.out.2.2.2.1
          have HKb : Hid (K < wr.heap.size) := Lib.hid HCK.out.2.1
          have zK : K < wm.heap.size := cell_lt qb0
          have zP : P < wm.heap.size := cell_lt pb0
          clear hS0 HC
          have hm3 : m3 = m := by rw [← HQm.out.at_.len, HMm.out]; exact HO.out.2.2.1.2.len
          subst hm3
          go_step
          go_upto_region 25 with (go_at_call 11; go_must (refine (same17_true _ D3 D m3 d3 d qs3 qs _ HQm.out.at_ HOm.out.2.2.1.2 HMm.out (by rw [HMm.out]; exact HO.out.2.2.2.2.2.1)).mono ?_; rintro e w4 ⟨rfl, hb4⟩; have HB4 := Lib.hid hb4; obtain ⟨pc0, pc1, pg0, pg1⟩ := HPS.out.2.2.1.below hb4 zP; have hq4 := HOm.out.2.2.1.1.below hb4 zK; rw [HL.out] at hq4; obtain ⟨qc0, qc1, qg0, qg1⟩ := hq4; clear hb4))
          have hoy := (HOm.out.later HB4.out).store (Below.refl _ _) (HOm.out.later HB4.out).1.2.2.2.2 (HOm.out.later HB4.out).2.2.2.1.1 HO.out.2.2.2.1.2 (HQm.out.keepB HB4.out) HKb.out HO.out.2.2.2.2.1.1 HO.out.2.2.2.2.1.2.1 HO.out.2.2.2.2.1.2.2 (by rw [HMm.out]; exact HO.out.2.2.2.2.2.1) (by rw [HMm.out]; exact HO.out.2.2.2.2.2.2)
          rw [HL.out] at hoy
          obtain ⟨wy, hwy⟩ : ∃ y, y = (w4.setCell ⟨K, 0, none⟩ (.int .u64 (seq + (p : Int)))).setCell ⟨K, 1, none⟩ (.slice D3 m3 d3) := ⟨_, rfl⟩
          rw [← hwy] at hoy ⊢
          have HOY := Lib.hid hoy
          have hqy := hoy.2.2.1.1
          rw [HL.out] at hqy
          have HQY := Lib.hid hqy
          have HL2 := Lib.hid HL.out
          clear hwy hoy hqy qb0 qb1 qf0 qf1 pb0 pb1 pf0 pf1 zK zP pc0 pc1 pg0 pg1 qc0 qc1 qg0 qg1
          have hlen2 := HOY.out.len
          rw [HL2.out] at hlen2
          have hop2 : o ≤ p := by have h := HOY.out.2.2.2.2.1.1; rw [HL2.out] at h; exact h
          have hle1 : m3 + o ≤ p := by omega
          have hle2 : p ≤ m3 + o := by omega
          clear hlen2
          obtain ⟨yb0, yb1, yf0, yf1⟩ : At2 wy K (.int .u64 (seq + (p : Int))) (.slice (D3) (m3) (d3)) := HQY.out
          have zy : K < wy.heap.size := cell_lt yb0
          by_cases hnp : k < np
          · have r2 : (k : Int) < np := by omega
            obtain ⟨bp, op, rfl, hlbp, hcp⟩ := (HY.out.below HOY.out.1.1).at_ (by rw [List.length_map, HBN.out]; omega)
            have hbk : k < bs.length := by rw [HBN.out]; exact hnp
            have cpk := hcp k (.bool bs[k]) (by rw [List.getElem?_map, List.getElem?_eq_getElem hbk]; rfl)
            obtain ⟨bk, hbk2⟩ : ∃ bk, bk = bs[k] := ⟨_, rfl⟩
            rw [← hbk2] at cpk
            clear hcp hbk2
            cases bk with
            | false =>
              go_wp2_with fail
              refine ⟨⟨k + 1, p, o, I, ci, us, L, D3, m3, d3, qs3, by omega, by omega, by congr 1, rfl, rfl, HL2, HOY⟩, by show nt - ((k : Int) + 1).toNat < nt - (k : Int).toNat; omega⟩
            | true =>
              by_cases hom : o < p
              · have r3 : (o : Int) < p := by omega
                have hoL : o < (L).length := by rw [HL2.out]; exact hom
                obtain ⟨l, v, qs9, hqs9, hsq, htx, hkey⟩ := HOY.out.head hoL
                have hqa9 := HOY.out.2.2.1.2
                have htt9 := HOY.out.2.2.2.2.2.1
                rw [hqs9] at hqa9 htt9
                have HQA9 := Lib.hid hqa9
                have HTT9 := Lib.hid htt9
                have HBl : Hid (Byt (txt l)) := Lib.hid (htt9 l (by simp)).1
                have HKEY := Lib.hid hkey
                have HTX := Lib.hid htx
                obtain ⟨Eo, co, hvo, _, _, hro⟩ := HOY.out.2.2.2.1.2.2 o hoL
                rw [← htx] at hvo hro
                obtain ⟨gI, oI, hI, hlI, hcI⟩ := (Rd.of_own (by have h := HOY.out.2.2.2.1.1; rw [HL2.out] at h; exact h)).at_ (by rw [HOY.out.2.2.2.1.2.1, HL2.out]; omega)
                have cio := hcI o _ (vs_at (by rw [HOY.out.2.2.2.1.2.1]; exact hoL))
                rw [hvo] at cio
                have HRo := Lib.hid hro
                have HII := Lib.hid hI
                have hI2 := hI
                subst hI2
                have HBw : Hid (Below w.heap.size w wy) := Lib.hid HOY.out.1.1
                have hwo : IntKind.u64.wrap (o : Int) = (o : Int) := IntWalk.u64_in _ (by omega)
                have hws : IntKind.u64.wrap (seq + (o : Int)) = seq + (o : Int) := IntWalk.u64_in _ (by omega)
                have ro0 : (0 : Int) ≤ o := by omega
                clear hqa9 htt9 hkey hvo hro hcI hI htx
                go_wp2_with fail
                refine (head_some (seq + (p : Int)) (D3) (m3) (d3) l v qs9 _ HQA9.out (HTT9.out l (by simp)).2).mono ?_
                rintro e w9 ⟨E9, c9, rfl, h91, h92, h93, hb9⟩
                have HR9 := Lib.hid h93
                have HB9 := Lib.hid hb9
                have HBw9 : Hid (Below w.heap.size w w9) := Lib.hid (bgo HBw.out hb9)
                have HRB := Lib.hid (bgo HBw.out hb9)
                have cio9 : w9.cell? ⟨gI, oI + o, none⟩ = some (.slice Eo (txt l).length co) := (hb9.cell (p := ⟨gI, oI + o, none⟩) hlI).trans cio
                obtain ⟨yc0, yc1, yg0, yg1⟩ := HQY.out.below hb9 zy
                have zI9 : gI < w9.heap.size := cell_lt cio9
                have zK9 : K < w9.heap.size := cell_lt yc0
                have HL5 := Lib.hid (At5.new w9 (.bool l.1) (.int .i64 l.2.1) (.int .i64 l.2.2.1) (.int .u64 (seq + (o : Int))) (.slice E9 (txt l).length c9) 36)
                have HZI := Lib.hid (And.intro zI9 zK9)
                clear h91 h92 h93 hb9 yb0 yb1 yf0 yf1 cpk
                go_wp2_with fail
                have hS0 : QLS (w9.alloc (.cells #[.bool l.1, .int .i64 l.2.1, .int .i64 l.2.2.1, .int .u64 (seq + (o : Int)), .slice E9 (txt l).length c9] 36)).drew w9.heap.size gI (oI + o) (seq + (o : Int)) (.slice E9 (txt l).length c9) (.slice Eo (txt l).length co) := ⟨HL5.out.1.2.2.2.1, HL5.out.1.2.2.2.2, (World.cell?_alloc_lt _ _ _ HZI.out.1).trans cio9⟩
                go_region_held3 (fun x => QLS x w9.heap.size gI (oI + o) (seq + (o : Int)) (.slice E9 (txt l).length c9) (.slice Eo (txt l).length co)) (first | with_reducible exact hS0)
                  ((go_at_call 20; go_must (refine (same_any E9 Eo (txt l).length c9 (txt l).length co (txt l) (txt l) _ rfl rfl (HR9.out.below (bdr (bal brf _))) (HRo.out.below (bdr (bal HBw9.out _))) HBl.out HBl.out).mono ?_; rintro e w10 ⟨rfl, rfl⟩)))
                go_wp2_with fail
                refine (pop_first (seq + (p : Int)) (seq + (o : Int)) (D3) (m3) (d3) l v qs9 _ (HQA9.out.below (bdr (bal HB9.out _))) (by omega) HTT9.out hsq).mono ?_
                rintro e w11 ⟨D11, m11, d11, qs11, rfl, hm11, hq11, hb11⟩
                have HB11 := Lib.hid (bgo (bdr (bal HB9.out _) : Below wy.heap.size wy _) hb11)
                have HQ11 := Lib.hid hq11
                have HM11 := Lib.hid hm11
                obtain ⟨yd0, yd1, yh0, yh1⟩ := HQY.out.below HB11.out zy
                have zK11 : K < w11.heap.size := cell_lt yd0
                clear hb11 hq11 hm11 hS0
                go_wp2_with fail
                have hO11 := HOY.out.later HB11.out
                have hfin := hO11.store (o' := o + 1) (Below.refl _ _) hO11.1.2.2.2.2 hO11.2.2.2.1.1 hO11.2.2.2.1.2 HQ11.out (by have := HZI.out.2; simp; omega) (by rw [HL2.out]; omega) (by rw [HL2.out]; omega) HOY.out.2.2.2.2.1.2.2 (by rw [HM11.out]; exact fun y hy => HTT9.out y (List.mem_cons_of_mem _ hy)) (by rw [HM11.out, show seq + ((o + 1 : Nat) : Int) = seq + (o : Int) + 1 by omega]; exact HKEY.out)
                rw [HL2.out] at hfin
                refine ⟨⟨k + 1, p, o + 1, some ⟨gI, oI, none⟩, ci, us, L, D11, m11, d11, qs11, by omega, by omega, by congr 1, rfl, by congr 1, HL2, Lib.hid (hfin.later (bal brf _))⟩, by show nt - ((k : Int) + 1).toNat < nt - (k : Int).toNat; omega⟩
              · have r3 : ¬ (o : Int) < p := by omega
                have hm0 : m3 = 0 := by omega
                subst hm0
                go_wp2_with fail
                refine (head_none (seq + (p : Int)) (D3) (d3) _).mono ?_
                rintro e w9 ⟨rfl, hb9⟩
                have HB9 := Lib.hid hb9
                clear hb9
                go_wp2_with fail
                refine ⟨⟨k + 1, p, o, I, ci, us, L, D3, 0, d3, qs3, by omega, by omega, by congr 1, rfl, rfl, HL2, Lib.hid ((HOY.out.later HB9.out).later (bal brf _))⟩, by show nt - ((k : Int) + 1).toNat < nt - (k : Int).toNat; omega⟩
          · have r2 : ¬ (k : Int) < np := by omega
            go_wp2_with fail
            refine ⟨⟨k + 1, p, o, I, ci, us, L, D3, m3, d3, qs3, by omega, by omega, by congr 1, rfl, rfl, HL2, HOY⟩, by show nt - ((k : Int) + 1).toNat < nt - (k : Int).toNat; omega⟩
      by_cases hfull : sz ≤ (m : Int)
      · have tok1 : True := trivial
        have C1 := fun (W : World) (hq : QAt W D m d qs) (hE : Rd W E (nums .u8 x)) => put_full none 0 0 0 0 cl sz 0 0 0 0 0 0 (seq + (p : Int)) f 0 D m d qs E m1 mc W hq HMB.out HO.out.2.2.2.2.2.1 HCF.out HCT.out (by omega) HNX.out hfull
        have HC := Lib.hid C1
        clear C1
        go_wp2_with fail
        go_cut [17, 18] (fun a b wx => ∃ (P : Nat) (D3 : Option Addr) (m3 d3 : Nat) (qs3 : List (Ltr × Value)), a = .pointer (some ⟨P, 0, none⟩) ∧ b = .int .i64 2 ∧ Hid (PUTS wr wx P (seq + (p : Int)) D3 m3 d3 qs3 (qs.map (·.1))))
        case first =>
          go_region_held3 (fun x => CQA x C K cl sz (seq + (p : Int)) (.slice D m d)) (first | with_reducible exact hS3 | with_reducible exact cqa_alloc hS3 | with_reducible exact cqa_set hS3 HCK.out.2.2.1 HCK.out.2.2.2.1 | with_reducible exact hS0 | exact cqa_alloc hS0)
            ((go_at_call 10; go_must (first | (refine (HC.out wr.drew (HO.out.2.2.1.2.below (bdr brf)) (HE.out.below (bdr HO.out.1.1))).mono ?_; rintro e w3 ⟨D3, m3, d3, qs3, rfl, hm3, hq3, hb3⟩; have HB3 := Lib.hid (bgo (bdr brf : Below wr.heap.size wr _) hb3); have HQ3 := Lib.hid hq3; have HM3 := Lib.hid hm3; have hS3 : CQA w3 C K cl sz (seq + (p : Int)) (.slice D m d) := cqa_of (HO.out.2.1.below HB3.out HCK.out.1) (HQA.out.below HB3.out HCK.out.2.1)) | (refine (HC.out (wr.alloc (.cells #[.int .u64 0, .slice none 0 0] 28)).drew (HO.out.2.2.1.2.below (bdr (bal brf _))) (HE.out.below (bdr (bal HO.out.1.1 _)))).mono ?_; rintro e w3 ⟨D3, m3, d3, qs3, rfl, hm3, hq3, hb3⟩; have HB3 := Lib.hid (bgo (bdr (bal brf _) : Below wr.heap.size wr _) hb3); have HK3 := Lib.hid ((At2.new wr (.int .u64 0) (.slice none 0 0) 28).below (Below.trans (Below.drew (Below.refl _ _)) hb3) (by simp)); obtain ⟨k30, k31, k32, k33⟩ := HK3.out; have HQ3 := Lib.hid hq3; have HM3 := Lib.hid hm3; have hS3 : CQA w3 C K cl sz (seq + (p : Int)) (.slice D m d) := cqa_of (HO.out.2.1.below HB3.out HCK.out.1) (HQA.out.below HB3.out HCK.out.2.1)))))
          all_goals (first | (go_simp; go_step; go_meet) | (go_step; go_meet) | go_meet)
          all_goals first
            | exact ⟨_, D3, m3, d3, qs3, rfl, rfl, Lib.hid (puts_new HB3.out HQ3.out (by simp) HM3.out)⟩
            | exact ⟨_, D3, m3, d3, qs3, rfl, rfl, Lib.hid (puts_set HB3.out (Nat.le_refl _) HK3.out HQ3.out (by simp) HM3.out)⟩
        case rest =>
          obtain ⟨P, D3, m3, d3, qs3, rfl, rfl, HPS⟩ := hcut
          obtain ⟨wm, hwm⟩ : ∃ x, x = wc := ⟨_, rfl⟩
          subst hwm
          have HOm := Lib.hid (HO.out.later HPS.out.1)
          have hqm := HOm.out.2.2.1.1
          rw [HL.out] at hqm
          obtain ⟨qb0, qb1, qf0, qf1⟩ := hqm
          obtain ⟨pb0, pb1, pf0, pf1⟩ := HPS.out.2.2.1
          have HMm := Lib.hid HPS.out.2.2.2.2
          have HQm := Lib.hid HPS.out.2.2.2.1
          have HKb : Hid (K < wr.heap.size) := Lib.hid HCK.out.2.1
          have zK : K < wm.heap.size := cell_lt qb0
          have zP : P < wm.heap.size := cell_lt pb0
          clear hS0 HC
          have hm3 : m3 = m := by rw [← HQm.out.at_.len, HMm.out]; exact HO.out.2.2.1.2.len
          subst hm3
          go_step
          go_upto_region 25 with (go_at_call 11; go_must (refine (same17_true _ D3 D m3 d3 d qs3 qs _ HQm.out.at_ HOm.out.2.2.1.2 HMm.out (by rw [HMm.out]; exact HO.out.2.2.2.2.2.1)).mono ?_; rintro e w4 ⟨rfl, hb4⟩; have HB4 := Lib.hid hb4; obtain ⟨pc0, pc1, pg0, pg1⟩ := HPS.out.2.2.1.below hb4 zP; have hq4 := HOm.out.2.2.1.1.below hb4 zK; rw [HL.out] at hq4; obtain ⟨qc0, qc1, qg0, qg1⟩ := hq4; clear hb4))
          have hoy := (HOm.out.later HB4.out).store (Below.refl _ _) (HOm.out.later HB4.out).1.2.2.2.2 (HOm.out.later HB4.out).2.2.2.1.1 HO.out.2.2.2.1.2 (HQm.out.keepB HB4.out) HKb.out HO.out.2.2.2.2.1.1 HO.out.2.2.2.2.1.2.1 HO.out.2.2.2.2.1.2.2 (by rw [HMm.out]; exact HO.out.2.2.2.2.2.1) (by rw [HMm.out]; exact HO.out.2.2.2.2.2.2)
          rw [HL.out] at hoy
          obtain ⟨wy, hwy⟩ : ∃ y, y = (w4.setCell ⟨K, 0, none⟩ (.int .u64 (seq + (p : Int)))).setCell ⟨K, 1, none⟩ (.slice D3 m3 d3) := ⟨_, rfl⟩
          rw [← hwy] at hoy ⊢
          have HOY := Lib.hid hoy
          have hqy := hoy.2.2.1.1
          rw [HL.out] at hqy
          have HQY := Lib.hid hqy
          have HL2 := Lib.hid HL.out
          clear hwy hoy hqy qb0 qb1 qf0 qf1 pb0 pb1 pf0 pf1 zK zP pc0 pc1 pg0 pg1 qc0 qc1 qg0 qg1
          have hlen2 := HOY.out.len
          rw [HL2.out] at hlen2
          have hop2 : o ≤ p := by have h := HOY.out.2.2.2.2.1.1; rw [HL2.out] at h; exact h
          have hle1 : m3 + o ≤ p := by omega
          have hle2 : p ≤ m3 + o := by omega
          clear hlen2
          obtain ⟨yb0, yb1, yf0, yf1⟩ : At2 wy K (.int .u64 (seq + (p : Int))) (.slice (D3) (m3) (d3)) := HQY.out
          have zy : K < wy.heap.size := cell_lt yb0
          by_cases hnp : k < np
          · have r2 : (k : Int) < np := by omega
            obtain ⟨bp, op, rfl, hlbp, hcp⟩ := (HY.out.below HOY.out.1.1).at_ (by rw [List.length_map, HBN.out]; omega)
            have hbk : k < bs.length := by rw [HBN.out]; exact hnp
            have cpk := hcp k (.bool bs[k]) (by rw [List.getElem?_map, List.getElem?_eq_getElem hbk]; rfl)
            obtain ⟨bk, hbk2⟩ : ∃ bk, bk = bs[k] := ⟨_, rfl⟩
            rw [← hbk2] at cpk
            clear hcp hbk2
            cases bk with
            | false =>
              go_wp2_with fail
              refine ⟨⟨k + 1, p, o, I, ci, us, L, D3, m3, d3, qs3, by omega, by omega, by congr 1, rfl, rfl, HL2, HOY⟩, by show nt - ((k : Int) + 1).toNat < nt - (k : Int).toNat; omega⟩
            | true =>
              by_cases hom : o < p
              · have r3 : (o : Int) < p := by omega
                have hoL : o < (L).length := by rw [HL2.out]; exact hom
                obtain ⟨l, v, qs9, hqs9, hsq, htx, hkey⟩ := HOY.out.head hoL
                have hqa9 := HOY.out.2.2.1.2
                have htt9 := HOY.out.2.2.2.2.2.1
                rw [hqs9] at hqa9 htt9
                have HQA9 := Lib.hid hqa9
                have HTT9 := Lib.hid htt9
                have HBl : Hid (Byt (txt l)) := Lib.hid (htt9 l (by simp)).1
                have HKEY := Lib.hid hkey
                have HTX := Lib.hid htx
                obtain ⟨Eo, co, hvo, _, _, hro⟩ := HOY.out.2.2.2.1.2.2 o hoL
                rw [← htx] at hvo hro
                obtain ⟨gI, oI, hI, hlI, hcI⟩ := (Rd.of_own (by have h := HOY.out.2.2.2.1.1; rw [HL2.out] at h; exact h)).at_ (by rw [HOY.out.2.2.2.1.2.1, HL2.out]; omega)
                have cio := hcI o _ (vs_at (by rw [HOY.out.2.2.2.1.2.1]; exact hoL))
                rw [hvo] at cio
                have HRo := Lib.hid hro
                have HII := Lib.hid hI
                have hI2 := hI
                subst hI2
                have HBw : Hid (Below w.heap.size w wy) := Lib.hid HOY.out.1.1
                have hwo : IntKind.u64.wrap (o : Int) = (o : Int) := IntWalk.u64_in _ (by omega)
                have hws : IntKind.u64.wrap (seq + (o : Int)) = seq + (o : Int) := IntWalk.u64_in _ (by omega)
                have ro0 : (0 : Int) ≤ o := by omega
                clear hqa9 htt9 hkey hvo hro hcI hI htx
                go_wp2_with fail
                refine (head_some (seq + (p : Int)) (D3) (m3) (d3) l v qs9 _ HQA9.out (HTT9.out l (by simp)).2).mono ?_
                rintro e w9 ⟨E9, c9, rfl, h91, h92, h93, hb9⟩
                have HR9 := Lib.hid h93
                have HB9 := Lib.hid hb9
                have HBw9 : Hid (Below w.heap.size w w9) := Lib.hid (bgo HBw.out hb9)
                have HRB := Lib.hid (bgo HBw.out hb9)
                have cio9 : w9.cell? ⟨gI, oI + o, none⟩ = some (.slice Eo (txt l).length co) := (hb9.cell (p := ⟨gI, oI + o, none⟩) hlI).trans cio
                obtain ⟨yc0, yc1, yg0, yg1⟩ := HQY.out.below hb9 zy
                have zI9 : gI < w9.heap.size := cell_lt cio9
                have zK9 : K < w9.heap.size := cell_lt yc0
                have HL5 := Lib.hid (At5.new w9 (.bool l.1) (.int .i64 l.2.1) (.int .i64 l.2.2.1) (.int .u64 (seq + (o : Int))) (.slice E9 (txt l).length c9) 36)
                have HZI := Lib.hid (And.intro zI9 zK9)
                clear h91 h92 h93 hb9 yb0 yb1 yf0 yf1 cpk
                go_wp2_with fail
                have hS0 : QLS (w9.alloc (.cells #[.bool l.1, .int .i64 l.2.1, .int .i64 l.2.2.1, .int .u64 (seq + (o : Int)), .slice E9 (txt l).length c9] 36)).drew w9.heap.size gI (oI + o) (seq + (o : Int)) (.slice E9 (txt l).length c9) (.slice Eo (txt l).length co) := ⟨HL5.out.1.2.2.2.1, HL5.out.1.2.2.2.2, (World.cell?_alloc_lt _ _ _ HZI.out.1).trans cio9⟩
                go_region_held3 (fun x => QLS x w9.heap.size gI (oI + o) (seq + (o : Int)) (.slice E9 (txt l).length c9) (.slice Eo (txt l).length co)) (first | with_reducible exact hS0)
                  ((go_at_call 20; go_must (refine (same_any E9 Eo (txt l).length c9 (txt l).length co (txt l) (txt l) _ rfl rfl (HR9.out.below (bdr (bal brf _))) (HRo.out.below (bdr (bal HBw9.out _))) HBl.out HBl.out).mono ?_; rintro e w10 ⟨rfl, rfl⟩)))
                go_wp2_with fail
                refine (pop_first (seq + (p : Int)) (seq + (o : Int)) (D3) (m3) (d3) l v qs9 _ (HQA9.out.below (bdr (bal HB9.out _))) (by omega) HTT9.out hsq).mono ?_
                rintro e w11 ⟨D11, m11, d11, qs11, rfl, hm11, hq11, hb11⟩
                have HB11 := Lib.hid (bgo (bdr (bal HB9.out _) : Below wy.heap.size wy _) hb11)
                have HQ11 := Lib.hid hq11
                have HM11 := Lib.hid hm11
                obtain ⟨yd0, yd1, yh0, yh1⟩ := HQY.out.below HB11.out zy
                have zK11 : K < w11.heap.size := cell_lt yd0
                clear hb11 hq11 hm11 hS0
                go_wp2_with fail
                have hO11 := HOY.out.later HB11.out
                have hfin := hO11.store (o' := o + 1) (Below.refl _ _) hO11.1.2.2.2.2 hO11.2.2.2.1.1 hO11.2.2.2.1.2 HQ11.out (by have := HZI.out.2; simp; omega) (by rw [HL2.out]; omega) (by rw [HL2.out]; omega) HOY.out.2.2.2.2.1.2.2 (by rw [HM11.out]; exact fun y hy => HTT9.out y (List.mem_cons_of_mem _ hy)) (by rw [HM11.out, show seq + ((o + 1 : Nat) : Int) = seq + (o : Int) + 1 by omega]; exact HKEY.out)
                rw [HL2.out] at hfin
                refine ⟨⟨k + 1, p, o + 1, some ⟨gI, oI, none⟩, ci, us, L, D11, m11, d11, qs11, by omega, by omega, by congr 1, rfl, by congr 1, HL2, Lib.hid (hfin.later (bal brf _))⟩, by show nt - ((k : Int) + 1).toNat < nt - (k : Int).toNat; omega⟩
              · exfalso; omega
          · have r2 : ¬ (k : Int) < np := by omega
            go_wp2_with fail
            refine ⟨⟨k + 1, p, o, I, ci, us, L, D3, m3, d3, qs3, by omega, by omega, by congr 1, rfl, rfl, HL2, HOY⟩, by show nt - ((k : Int) + 1).toNat < nt - (k : Int).toNat; omega⟩
      have tok1 : True := trivial
      have C1 := fun (W : World) (hq : QAt W D m d qs) (hE : Rd W E (nums .u8 x)) => put_accepts none 0 0 0 0 cl sz 0 0 0 0 0 0 (seq + (p : Int)) f 0 D m d qs E m1 mc W hq HMB.out HO.out.2.2.2.2.2.1 HCF.out HCT.out (by omega) HNX.out (by omega) (by omega) (by omega) x hE HM.out
      have HC := Lib.hid C1
      clear C1
      go_wp2_with fail
      go_cut [17, 18] (fun a b wx => ∃ (P : Nat) (D3 : Option Addr) (m3 d3 : Nat) (qs3 : List (Ltr × Value)), a = .pointer (some ⟨P, 0, none⟩) ∧ b = .int .i64 1 ∧ Hid (PUTS wr wx P (seq + (p : Int) + 1) D3 m3 d3 qs3 (qs.map (·.1) ++ [(false, f, 0, seq + (p : Int), x)])))
      case first =>
        go_region_held3 (fun x => CQA x C K cl sz (seq + (p : Int)) (.slice D m d)) (first | with_reducible exact hS3 | with_reducible exact cqa_alloc hS3 | with_reducible exact cqa_set hS3 HCK.out.2.2.1 HCK.out.2.2.2.1 | with_reducible exact hS0 | exact cqa_alloc hS0)
          ((go_at_call 10; go_must (first | (refine (HC.out wr.drew (HO.out.2.2.1.2.below (bdr brf)) (HE.out.below (bdr HO.out.1.1))).mono ?_; rintro e w3 ⟨D3, m3, d3, qs3, rfl, hm3, hq3, hb3⟩; have HB3 := Lib.hid (bgo (bdr brf : Below wr.heap.size wr _) hb3); have HQ3 := Lib.hid hq3; have HM3 := Lib.hid hm3; have hS3 : CQA w3 C K cl sz (seq + (p : Int)) (.slice D m d) := cqa_of (HO.out.2.1.below HB3.out HCK.out.1) (HQA.out.below HB3.out HCK.out.2.1)) | (refine (HC.out (wr.alloc (.cells #[.int .u64 0, .slice none 0 0] 28)).drew (HO.out.2.2.1.2.below (bdr (bal brf _))) (HE.out.below (bdr (bal HO.out.1.1 _)))).mono ?_; rintro e w3 ⟨D3, m3, d3, qs3, rfl, hm3, hq3, hb3⟩; have HB3 := Lib.hid (bgo (bdr (bal brf _) : Below wr.heap.size wr _) hb3); have HK3 := Lib.hid ((At2.new wr (.int .u64 0) (.slice none 0 0) 28).below (Below.trans (Below.drew (Below.refl _ _)) hb3) (by simp)); obtain ⟨k30, k31, k32, k33⟩ := HK3.out; have HQ3 := Lib.hid hq3; have HM3 := Lib.hid hm3; have hS3 : CQA w3 C K cl sz (seq + (p : Int)) (.slice D m d) := cqa_of (HO.out.2.1.below HB3.out HCK.out.1) (HQA.out.below HB3.out HCK.out.2.1)))))
        all_goals (first | (go_simp; go_step; go_meet) | (go_step; go_meet) | go_meet)
        all_goals first
          | exact ⟨_, D3, m3, d3, qs3, rfl, rfl, Lib.hid (puts_new HB3.out HQ3.out (by simp) HM3.out)⟩
          | exact ⟨_, D3, m3, d3, qs3, rfl, rfl, Lib.hid (puts_set HB3.out (Nat.le_refl _) HK3.out HQ3.out (by simp) HM3.out)⟩
      case rest =>
        obtain ⟨P, D3, m3, d3, qs3, rfl, rfl, HPS⟩ := hcut
        obtain ⟨wm, hwm⟩ : ∃ x, x = wc := ⟨_, rfl⟩
        subst hwm
        have HOm := Lib.hid (HO.out.later HPS.out.1)
        have hqm := HOm.out.2.2.1.1
        rw [HL.out] at hqm
        obtain ⟨qb0, qb1, qf0, qf1⟩ := hqm
        obtain ⟨pb0, pb1, pf0, pf1⟩ := HPS.out.2.2.1
        have HMm := Lib.hid HPS.out.2.2.2.2
        have HQm := Lib.hid HPS.out.2.2.2.1
        have HKb : Hid (K < wr.heap.size) := Lib.hid HCK.out.2.1
        have zK : K < wm.heap.size := cell_lt qb0
        have zP : P < wm.heap.size := cell_lt pb0
        clear hS0 HC
        have hown := HOm.out.2.2.2.1.1
        rw [HL.out] at hown
        have HOWN := Lib.hid hown
        have hnP : ∀ g, (Value.slice I p ci).ownBlock = some g → g ≠ P := fun g hg => by
          have h1 := HO.out.2.2.2.1.1
          rw [HL.out] at h1
          have h2 := (h1.lt g hg).2
          have h3 := HPS.out.2.1.1
          omega
        have HNP := Lib.hid hnP
        have hLL : (L ++ [x]).length = p + 1 := by rw [List.length_append, HL.out]; rfl
        have HLL := Lib.hid hLL
        clear hown hnP hLL
        go_step
        go_upto_region 25 with (at_builtin; go_must (refine append_one rfl _ _ 44 rfl (K + 1) 22 i0 (.slice none 0 0) 24 Try.underlying44 hi hz0 hz1 hz2 rfl _ p us rfl HOWN.out (.slice E m1 mc) _ rfl rfl (by unfold maxLen; omega) (by omega) HOm.out.1.2.2.2.2 ?_; intro v8 w8 hown8 hgrow8; have hb8 : Below (K + 1) wm w8 := keep_below HOWN.out hgrow8 (Below.refl _ _) HOm.out.1.2.2.2.2 (Nat.le_refl _); have HB8 := Lib.hid hb8; obtain ⟨pc0, pc1, pg0, pg1⟩ := (HPS.out.2.2.1.alloc _).grown hgrow8 HNP.out; have hq8 := HOm.out.2.2.1.1.below hb8 (Nat.lt_succ_self _); rw [HL.out] at hq8; obtain ⟨qc0, qc1, qg0, qg1⟩ := hq8; obtain ⟨I8, c8, rfl⟩ := own_slice hown8; have HO8 := Lib.hid hown8; have HQ8 := Lib.hid (qown_grown HQm.out hgrow8 (own_elemNot (HOWN.out.alloc _) (by decide)) (own_elemNot (HOWN.out.alloc _) (by decide))); have HZ8 : Hid (K + 1 ≤ w8.heap.size) := Lib.hid (by have h1 := hgrow8.size; have h2 := HOm.out.1.2.2.2.2; rw [World.size_alloc] at h1; omega); clear hown8 hgrow8 hb8))
        have hoy := HOm.out.store (o' := o) (L' := L ++ [x]) (I' := I8) (ci' := c8) (us' := us ++ [.slice E m1 mc]) HB8.out HZ8.out (by rw [HLL.out]; exact HO8.out) (HO.out.2.2.2.1.2.snoc HV.out) HQ8.out HKb.out (by rw [HLL.out]; omega) (by rw [HLL.out]; omega) (all64_snoc HO.out.2.2.2.2.1.2.2 HBX.out (by have := HM.out; omega)) (by rw [HMm.out]; exact txt_snoc HO.out.2.2.2.2.2.1 HBX.out (by have := HM.out; omega)) (by rw [HMm.out]; exact key_snoc HO.out.2.2.2.2.2.2 HO.out.2.2.2.2.1.1 HL.out)
        rw [HLL.out, show seq + ((p + 1 : Nat) : Int) = seq + (p : Int) + 1 by omega] at hoy
        obtain ⟨wy, hwy⟩ : ∃ y, y = (w8.setCell ⟨K, 0, none⟩ (.int .u64 (seq + (p : Int) + 1))).setCell ⟨K, 1, none⟩ (.slice D3 m3 d3) := ⟨_, rfl⟩
        rw [← hwy] at hoy ⊢
        have HOY := Lib.hid hoy
        have hqy := hoy.2.2.1.1
        rw [HLL.out, show seq + ((p + 1 : Nat) : Int) = seq + (p : Int) + 1 by omega] at hqy
        have HQY := Lib.hid hqy
        have HL2 := HLL
        clear hwy hoy hqy qb0 qb1 qf0 qf1 pb0 pb1 pf0 pf1 zK zP pc0 pc1 pg0 pg1 qc0 qc1 qg0 qg1
        have hlen2 := HOY.out.len
        rw [HL2.out] at hlen2
        have hop2 : o ≤ p + 1 := by have h := HOY.out.2.2.2.2.1.1; rw [HL2.out] at h; exact h
        have hle1 : m3 + o ≤ p + 1 := by omega
        have hle2 : p + 1 ≤ m3 + o := by omega
        clear hlen2
        obtain ⟨yb0, yb1, yf0, yf1⟩ : At2 wy K (.int .u64 (seq + (p : Int) + 1)) (.slice (D3) (m3) (d3)) := HQY.out
        have zy : K < wy.heap.size := cell_lt yb0
        by_cases hnp : k < np
        · have r2 : (k : Int) < np := by omega
          obtain ⟨bp, op, rfl, hlbp, hcp⟩ := (HY.out.below HOY.out.1.1).at_ (by rw [List.length_map, HBN.out]; omega)
          have hbk : k < bs.length := by rw [HBN.out]; exact hnp
          have cpk := hcp k (.bool bs[k]) (by rw [List.getElem?_map, List.getElem?_eq_getElem hbk]; rfl)
          obtain ⟨bk, hbk2⟩ : ∃ bk, bk = bs[k] := ⟨_, rfl⟩
          rw [← hbk2] at cpk
          clear hcp hbk2
          cases bk with
          | false =>
            go_wp2_with fail
            refine ⟨⟨k + 1, p + 1, o, I8, c8, us ++ [.slice E m1 mc], L ++ [x], D3, m3, d3, qs3, by omega, by omega, by congr 1, rfl, rfl, HL2, HOY⟩, by show nt - ((k : Int) + 1).toNat < nt - (k : Int).toNat; omega⟩
          | true =>
            by_cases hom : o < p + 1
            · have r3 : (o : Int) < p + 1 := by omega
              have hoL : o < (L ++ [x]).length := by rw [HL2.out]; exact hom
              obtain ⟨l, v, qs9, hqs9, hsq, htx, hkey⟩ := HOY.out.head hoL
              have hqa9 := HOY.out.2.2.1.2
              have htt9 := HOY.out.2.2.2.2.2.1
              rw [hqs9] at hqa9 htt9
              have HQA9 := Lib.hid hqa9
              have HTT9 := Lib.hid htt9
              have HBl : Hid (Byt (txt l)) := Lib.hid (htt9 l (by simp)).1
              have HKEY := Lib.hid hkey
              have HTX := Lib.hid htx
              obtain ⟨Eo, co, hvo, _, _, hro⟩ := HOY.out.2.2.2.1.2.2 o hoL
              rw [← htx] at hvo hro
              obtain ⟨gI, oI, hI, hlI, hcI⟩ := (Rd.of_own (by have h := HOY.out.2.2.2.1.1; rw [HL2.out] at h; exact h)).at_ (by rw [HOY.out.2.2.2.1.2.1, HL2.out]; omega)
              have cio := hcI o _ (vs_at (by rw [HOY.out.2.2.2.1.2.1]; exact hoL))
              rw [hvo] at cio
              have HRo := Lib.hid hro
              have HII := Lib.hid hI
              have hI2 := hI
              subst hI2
              have HBw : Hid (Below w.heap.size w wy) := Lib.hid HOY.out.1.1
              have hwo : IntKind.u64.wrap (o : Int) = (o : Int) := IntWalk.u64_in _ (by omega)
              have hws : IntKind.u64.wrap (seq + (o : Int)) = seq + (o : Int) := IntWalk.u64_in _ (by omega)
              have ro0 : (0 : Int) ≤ o := by omega
              clear hqa9 htt9 hkey hvo hro hcI hI htx
              go_wp2_with fail
              refine (head_some (seq + (p : Int) + 1) (D3) (m3) (d3) l v qs9 _ HQA9.out (HTT9.out l (by simp)).2).mono ?_
              rintro e w9 ⟨E9, c9, rfl, h91, h92, h93, hb9⟩
              have HR9 := Lib.hid h93
              have HB9 := Lib.hid hb9
              have HBw9 : Hid (Below w.heap.size w w9) := Lib.hid (bgo HBw.out hb9)
              have HRB := Lib.hid (bgo HBw.out hb9)
              have cio9 : w9.cell? ⟨gI, oI + o, none⟩ = some (.slice Eo (txt l).length co) := (hb9.cell (p := ⟨gI, oI + o, none⟩) hlI).trans cio
              obtain ⟨yc0, yc1, yg0, yg1⟩ := HQY.out.below hb9 zy
              have zI9 : gI < w9.heap.size := cell_lt cio9
              have zK9 : K < w9.heap.size := cell_lt yc0
              have HL5 := Lib.hid (At5.new w9 (.bool l.1) (.int .i64 l.2.1) (.int .i64 l.2.2.1) (.int .u64 (seq + (o : Int))) (.slice E9 (txt l).length c9) 36)
              have HZI := Lib.hid (And.intro zI9 zK9)
              clear h91 h92 h93 hb9 yb0 yb1 yf0 yf1 cpk
              go_wp2_with fail
              have hS0 : QLS (w9.alloc (.cells #[.bool l.1, .int .i64 l.2.1, .int .i64 l.2.2.1, .int .u64 (seq + (o : Int)), .slice E9 (txt l).length c9] 36)).drew w9.heap.size gI (oI + o) (seq + (o : Int)) (.slice E9 (txt l).length c9) (.slice Eo (txt l).length co) := ⟨HL5.out.1.2.2.2.1, HL5.out.1.2.2.2.2, (World.cell?_alloc_lt _ _ _ HZI.out.1).trans cio9⟩
              go_region_held3 (fun x => QLS x w9.heap.size gI (oI + o) (seq + (o : Int)) (.slice E9 (txt l).length c9) (.slice Eo (txt l).length co)) (first | with_reducible exact hS0)
                ((go_at_call 20; go_must (refine (same_any E9 Eo (txt l).length c9 (txt l).length co (txt l) (txt l) _ rfl rfl (HR9.out.below (bdr (bal brf _))) (HRo.out.below (bdr (bal HBw9.out _))) HBl.out HBl.out).mono ?_; rintro e w10 ⟨rfl, rfl⟩)))
              go_wp2_with fail
              refine (pop_first (seq + (p : Int) + 1) (seq + (o : Int)) (D3) (m3) (d3) l v qs9 _ (HQA9.out.below (bdr (bal HB9.out _))) (by omega) HTT9.out hsq).mono ?_
              rintro e w11 ⟨D11, m11, d11, qs11, rfl, hm11, hq11, hb11⟩
              have HB11 := Lib.hid (bgo (bdr (bal HB9.out _) : Below wy.heap.size wy _) hb11)
              have HQ11 := Lib.hid hq11
              have HM11 := Lib.hid hm11
              obtain ⟨yd0, yd1, yh0, yh1⟩ := HQY.out.below HB11.out zy
              have zK11 : K < w11.heap.size := cell_lt yd0
              clear hb11 hq11 hm11 hS0
              go_wp2_with fail
              have hO11 := HOY.out.later HB11.out
              have hfin := hO11.store (o' := o + 1) (Below.refl _ _) hO11.1.2.2.2.2 hO11.2.2.2.1.1 hO11.2.2.2.1.2 HQ11.out (by have := HZI.out.2; simp; omega) (by rw [HL2.out]; omega) (by rw [HL2.out]; omega) HOY.out.2.2.2.2.1.2.2 (by rw [HM11.out]; exact fun y hy => HTT9.out y (List.mem_cons_of_mem _ hy)) (by rw [HM11.out, show seq + ((o + 1 : Nat) : Int) = seq + (o : Int) + 1 by omega]; exact HKEY.out)
              rw [HL2.out] at hfin
              rw [show seq + ((p + 1 : Nat) : Int) = seq + (p : Int) + 1 by omega] at hfin
              refine ⟨⟨k + 1, p + 1, o + 1, some ⟨gI, oI, none⟩, c8, us ++ [.slice E m1 mc], L ++ [x], D11, m11, d11, qs11, by omega, by omega, by congr 1, rfl, by congr 1, HL2, Lib.hid (hfin.later (bal brf _))⟩, by show nt - ((k : Int) + 1).toNat < nt - (k : Int).toNat; omega⟩
            · exfalso; omega
        · have r2 : ¬ (k : Int) < np := by omega
          go_wp2_with fail
          refine ⟨⟨k + 1, p + 1, o, I8, c8, us ++ [.slice E m1 mc], L ++ [x], D3, m3, d3, qs3, by omega, by omega, by congr 1, rfl, rfl, HL2, HOY⟩, by show nt - ((k : Int) + 1).toNat < nt - (k : Int).toNat; omega⟩
    · have hkn : nt = k := by omega
      subst hkn
      obtain ⟨b0, b1, _, _⟩ := HO.out.2.2.1.1
      rw [HL.out] at b0
      have hw1 : IntKind.u64.wrap (p : Int) = (p : Int) := IntWalk.u64_in _ (by omega)
      have hw2 : IntKind.u64.wrap (seq + (p : Int)) = seq + (p : Int) := IntWalk.u64_in _ (by omega)
      go_wp2_with fail
      go_ret
      exact ⟨by simp, HO.out.1.1⟩
end
end Go.Proofs.Ytfgkeodkakidpaa
