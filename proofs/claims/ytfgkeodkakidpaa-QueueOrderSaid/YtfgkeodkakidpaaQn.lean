/- The law of what is refused. -/
import Derived.Test.YtfgkeodkakidpaaQm
namespace Go.Proofs.Ytfgkeodkakidpaa
open Go.RowKit Go.ChangeShapes Go.WideShapes Go.ChangeAt
set_option linter.unusedSimpArgs false
set_option linter.unusedVariables false
set_option maxRecDepth 100000

theorem open_bytesQ {H : Type} {enc : TypeId × Value → H} {W : World} {base b0 : Nat} {sp : Nat → Bool} {held : Bool} {v : Value} {d : DataW H} {p : List MemPlace} (h : DataW.Trod enc Try.prog W b0 sp held 22 v d p) (hv : Value.okWide Try.prog W .any base 22 v) :
    ∃ A n c xs, v = .slice A n c ∧ xs.length = n ∧ n ≤ c ∧ c ≤ maxLen ∧ Rd W A (nums .u8 xs) ∧ Byt xs := by
  obtain ⟨A, n, c, rfl⟩ := okWide_slice Try.underlying22 hv
  obtain ⟨fuel, hf⟩ := h
  obtain ⟨A', l, c', xs, he, h1, h2, hl, hr, hw, _⟩ := open_row Try.underlying22 Try.underlying5 (by kernel_rfl) hf
  cases he
  refine ⟨A, n, c, xs, rfl, hl, h1, h2, hr, fun x hx => ?_⟩
  have : (decide ((0 : Int) ≤ x) && decide (x ≤ (255 : Int))) = true := hw x hx
  simpa using this
theorem open_cfg {H : Type} {enc : TypeId × Value → H} {W : World} {base b : Nat} {r : Reach} {v : Value} {d : DataW H} {p : List MemPlace} {spare : Nat → Bool} {held : Bool}
    (hv : Value.okWide Try.prog W r base 25 v) (h : DataW.Trod enc Try.prog W b spare held 25 v d p) :
    ∃ (a : Option Addr) (m c : Nat) (ch st cl qu clo lo ag wi ro se : Int), v = cfgV (.slice a m c) ch st cl qu clo lo ag wi ro se := by
  obtain ⟨v0, v1, v2, v3, v4, v5, v6, v7, v8, v9, v10, y0, y1, y2, y3, y4, y5, y6, y7, y8, y9, y10, n, rfl, rfl, rfl, h0, h1, h2, h3, h4, h5, h6, h7, h8, h9, h10⟩ :=
    open_aggN11 Try.underlying25 (by kernel_rfl) (by kernel_rfl) hv h
  obtain ⟨a, m, c, rfl⟩ := slice_of_trod Try.underlying22 h0
  obtain ⟨ch, rfl, _⟩ := int_of_trod Try.underlying3 h1
  obtain ⟨st, rfl, _⟩ := int_of_trod Try.underlying3 h2
  obtain ⟨cl, rfl, _⟩ := int_of_trod Try.underlying3 h3
  obtain ⟨qu, rfl, _⟩ := int_of_trod Try.underlying3 h4
  obtain ⟨clo, rfl, _⟩ := int_of_trod Try.underlying3 h5
  obtain ⟨lo, rfl, _⟩ := int_of_trod Try.underlying3 h6
  obtain ⟨ag, rfl, _⟩ := int_of_trod Try.underlying3 h7
  obtain ⟨wi, rfl, _⟩ := int_of_trod Try.underlying3 h8
  obtain ⟨ro, rfl, _⟩ := int_of_trod Try.underlying23 h9
  obtain ⟨se, rfl, _⟩ := int_of_trod Try.underlying23 h10
  exact ⟨a, m, c, ch, st, cl, qu, clo, lo, ag, wi, ro, se, rfl⟩

section
variable (D : Option Addr) (dn dc : Nat) (ch st cl qu clo lo ag wi ro se : Int) (nx fr tu : Int) (A : Option Addr) (n c : Nat) (ps : List (Ltr × Value)) (E : Option Addr) (m mc : Nat) (w : World)
set_option maxHeartbeats 600000 in
theorem queueRefuses_out (hq : QAt w A n c ps) (hby : n * 56 ≤ 140737488351232) (ht : TxtOk (ps.map (·.1))) (hl : (300 : Int) < m) :
    Calls Try.prog 3 #[cfgV (.slice D dn dc) ch st cl qu clo lo ag wi ro se, .agg #[.int .u64 nx, .slice A n c], .int .i64 fr, .int .i64 tu, .slice E m mc] w (Yes w) := by
  have hnb : (n : Int) ≤ 100000000000000 := by omega
  have HQ0 := Lib.hid hq
  have HT := Lib.hid ht
  have HBY := Lib.hid hby
  have HXc0 := Lib.hid ((CfgAt.new w (.slice D dn dc) ch st cl qu clo lo ag wi ro se 25).alloc (.cells #[.int .u64 nx, .slice A n c] 28))
  have HXq0 := Lib.hid (At2.newH (K := w.heap.size + 1) (w.alloc (.cells #[.slice D dn dc, .int .i64 ch, .int .i64 st, .int .i64 cl, .int .i64 qu, .int .i64 clo, .int .i64 lo, .int .i64 ag, .int .i64 wi, .int .u64 ro, .int .u64 se] 25)) (.int .u64 nx) (.slice A n c) 28 (by simp))
  have HB0 := Lib.hid (brf (w := w))
  clear hq ht hby
  go_enter Try.func3, Try.ntmps3
  go_wp2_with fail
  refine (live_any _).mono ?_
  rintro e w1 ⟨rfl, hb⟩
  have HB1 : Hid (Below w.heap.size w w1) := Lib.hid (by first | exact bgo HB0.out hb | exact bgo (bal HB0.out _) hb | exact bgo (bal (bal HB0.out _) _) hb | exact bgo (bdr HB0.out) hb)
  have HXc1 := Lib.hid (cfg_later (w1 := w1) HXc0.out (by first | exact hb | exact (bal brf _ : Below _ _ _).trans (hb.mono (by simp)) | exact (bal (bal brf _) _ : Below _ _ _).trans (hb.mono (by simp)) | exact (bdr brf : Below _ _ _).trans hb))
  have HXq1 := Lib.hid (at2_later (w1 := w1) HXq0.out (by first | exact hb | exact (bal brf _ : Below _ _ _).trans (hb.mono (by simp)) | exact (bal (bal brf _) _ : Below _ _ _).trans (hb.mono (by simp)) | exact (bdr brf : Below _ _ _).trans hb))
  clear hb
  obtain ⟨bc0, bc1, bc2, bc3, bc4, bc5, bc6, bc7, bc8, bc9, bcx⟩ := HXc1.out
  have zc := cell_lt bc0
  obtain ⟨bq0, bq1, fq0, fq1⟩ := HXq1.out
  have zq := cell_lt bq0
  go_wp2_with fail
  refine (few_any nx A n c _ _ HQ0.out.1 HQ0.out.2.1 HQ0.out.2.2.1 (HQ0.out.below HB1.out).2.2.2).mono ?_
  rintro e w2 ⟨b, rfl, hb⟩
  clear bc0 bc1 bc2 bc3 bc4 bc5 bc6 bc7 bc8 bc9 bcx zc bq0 bq1 fq0 fq1 zq
  have HB2 : Hid (Below w.heap.size w w2) := Lib.hid (by first | exact bgo HB1.out hb | exact bgo (bal HB1.out _) hb | exact bgo (bal (bal HB1.out _) _) hb | exact bgo (bdr HB1.out) hb)
  have HXc2 := Lib.hid (cfg_later (w1 := w2) HXc1.out (by first | exact hb | exact (bal brf _ : Below _ _ _).trans (hb.mono (by simp)) | exact (bal (bal brf _) _ : Below _ _ _).trans (hb.mono (by simp)) | exact (bdr brf : Below _ _ _).trans hb))
  have HXq2 := Lib.hid (at2_later (w1 := w2) HXq1.out (by first | exact hb | exact (bal brf _ : Below _ _ _).trans (hb.mono (by simp)) | exact (bal (bal brf _) _ : Below _ _ _).trans (hb.mono (by simp)) | exact (bdr brf : Below _ _ _).trans hb))
  clear hb
  obtain ⟨bc0, bc1, bc2, bc3, bc4, bc5, bc6, bc7, bc8, bc9, bcx⟩ := HXc2.out
  have zc := cell_lt bc0
  obtain ⟨bq0, bq1, fq0, fq1⟩ := HXq2.out
  have zq := cell_lt bq0
  cases b
  · go_wp2_with fail
    go_ret
    exact ⟨rfl, HB2.out⟩
  go_wp2_with fail
  go_ret
  exact ⟨rfl, HB2.out⟩

set_option maxHeartbeats 600000 in
theorem queueRefuses_fromA (hq : QAt w A n c ps) (hby : n * 56 ≤ 140737488351232) (ht : TxtOk (ps.map (·.1))) (hl : ¬ (300 : Int) < m) (h0 : fr < 0) (hc : cliB cl fr = false) :
    Calls Try.prog 3 #[cfgV (.slice D dn dc) ch st cl qu clo lo ag wi ro se, .agg #[.int .u64 nx, .slice A n c], .int .i64 fr, .int .i64 tu, .slice E m mc] w (Yes w) := by
  have h1 : ¬ 0 ≤ fr := by omega
  have hnb : (n : Int) ≤ 100000000000000 := by omega
  have HQ0 := Lib.hid hq
  have HT := Lib.hid ht
  have HBY := Lib.hid hby
  have HXc0 := Lib.hid ((CfgAt.new w (.slice D dn dc) ch st cl qu clo lo ag wi ro se 25).alloc (.cells #[.int .u64 nx, .slice A n c] 28))
  have HXq0 := Lib.hid (At2.newH (K := w.heap.size + 1) (w.alloc (.cells #[.slice D dn dc, .int .i64 ch, .int .i64 st, .int .i64 cl, .int .i64 qu, .int .i64 clo, .int .i64 lo, .int .i64 ag, .int .i64 wi, .int .u64 ro, .int .u64 se] 25)) (.int .u64 nx) (.slice A n c) 28 (by simp))
  have HB0 := Lib.hid (brf (w := w))
  clear hq ht hby
  go_enter Try.func3, Try.ntmps3
  go_wp2_with fail
  refine (live_any _).mono ?_
  rintro e w1 ⟨rfl, hb⟩
  have HB1 : Hid (Below w.heap.size w w1) := Lib.hid (by first | exact bgo HB0.out hb | exact bgo (bal HB0.out _) hb | exact bgo (bal (bal HB0.out _) _) hb | exact bgo (bdr HB0.out) hb)
  have HXc1 := Lib.hid (cfg_later (w1 := w1) HXc0.out (by first | exact hb | exact (bal brf _ : Below _ _ _).trans (hb.mono (by simp)) | exact (bal (bal brf _) _ : Below _ _ _).trans (hb.mono (by simp)) | exact (bdr brf : Below _ _ _).trans hb))
  have HXq1 := Lib.hid (at2_later (w1 := w1) HXq0.out (by first | exact hb | exact (bal brf _ : Below _ _ _).trans (hb.mono (by simp)) | exact (bal (bal brf _) _ : Below _ _ _).trans (hb.mono (by simp)) | exact (bdr brf : Below _ _ _).trans hb))
  clear hb
  obtain ⟨bc0, bc1, bc2, bc3, bc4, bc5, bc6, bc7, bc8, bc9, bcx⟩ := HXc1.out
  have zc := cell_lt bc0
  obtain ⟨bq0, bq1, fq0, fq1⟩ := HXq1.out
  have zq := cell_lt bq0
  go_wp2_with fail
  refine (few_any nx A n c _ _ HQ0.out.1 HQ0.out.2.1 HQ0.out.2.2.1 (HQ0.out.below HB1.out).2.2.2).mono ?_
  rintro e w2 ⟨b, rfl, hb⟩
  clear bc0 bc1 bc2 bc3 bc4 bc5 bc6 bc7 bc8 bc9 bcx zc bq0 bq1 fq0 fq1 zq
  have HB2 : Hid (Below w.heap.size w w2) := Lib.hid (by first | exact bgo HB1.out hb | exact bgo (bal HB1.out _) hb | exact bgo (bal (bal HB1.out _) _) hb | exact bgo (bdr HB1.out) hb)
  have HXc2 := Lib.hid (cfg_later (w1 := w2) HXc1.out (by first | exact hb | exact (bal brf _ : Below _ _ _).trans (hb.mono (by simp)) | exact (bal (bal brf _) _ : Below _ _ _).trans (hb.mono (by simp)) | exact (bdr brf : Below _ _ _).trans hb))
  have HXq2 := Lib.hid (at2_later (w1 := w2) HXq1.out (by first | exact hb | exact (bal brf _ : Below _ _ _).trans (hb.mono (by simp)) | exact (bal (bal brf _) _ : Below _ _ _).trans (hb.mono (by simp)) | exact (bdr brf : Below _ _ _).trans hb))
  clear hb
  obtain ⟨bc0, bc1, bc2, bc3, bc4, bc5, bc6, bc7, bc8, bc9, bcx⟩ := HXc2.out
  have zc := cell_lt bc0
  obtain ⟨bq0, bq1, fq0, fq1⟩ := HXq2.out
  have zq := cell_lt bq0
  cases b
  · go_wp2_with fail
    go_ret
    exact ⟨rfl, HB2.out⟩
  go_wp2_with fail
  refine (put_from D dn dc ch st cl qu clo lo ag wi ro se nx fr tu A n c ps E m mc _ (HQ0.out.below HB2.out) HBY.out HT.out hc).mono ?_
  rintro e w3 ⟨A3, n3, c3, qs3, rfl, hm3, hq3, hb⟩
  clear bc0 bc1 bc2 bc3 bc4 bc5 bc6 bc7 bc8 bc9 bcx zc bq0 bq1 fq0 fq1 zq
  have HB3 : Hid (Below w.heap.size w w3) := Lib.hid (by first | exact bgo HB2.out hb | exact bgo (bal HB2.out _) hb | exact bgo (bal (bal HB2.out _) _) hb | exact bgo (bdr HB2.out) hb)
  have HXc3 := Lib.hid (cfg_later (w1 := w3) HXc2.out (by first | exact hb | exact (bal brf _ : Below _ _ _).trans (hb.mono (by simp)) | exact (bal (bal brf _) _ : Below _ _ _).trans (hb.mono (by simp)) | exact (bdr brf : Below _ _ _).trans hb))
  have HXq3 := Lib.hid (at2_later (w1 := w3) HXq2.out (by first | exact hb | exact (bal brf _ : Below _ _ _).trans (hb.mono (by simp)) | exact (bal (bal brf _) _ : Below _ _ _).trans (hb.mono (by simp)) | exact (bdr brf : Below _ _ _).trans hb))
  have hq3 := hq3.at_
  have hn3 : n3 = n := by rw [← hq3.len, hm3]; exact HQ0.out.len
  subst hn3
  have HM3 := Lib.hid hm3
  have HQ3 := Lib.hid hq3
  clear hm3 hq3
  clear hb
  obtain ⟨bc0, bc1, bc2, bc3, bc4, bc5, bc6, bc7, bc8, bc9, bcx⟩ := HXc3.out
  have zc := cell_lt bc0
  obtain ⟨bq0, bq1, fq0, fq1⟩ := HXq3.out
  have zq := cell_lt bq0
  go_wp2_with fail
  refine (same17_true nx A3 A n3 c3 c qs3 ps _ (HQ3.out.below (bal brf _)) (HQ0.out.below (bal HB3.out _)) HM3.out (by rw [HM3.out]; exact HT.out)).mono ?_
  rintro e w4 ⟨rfl, hb⟩
  clear bc0 bc1 bc2 bc3 bc4 bc5 bc6 bc7 bc8 bc9 bcx zc bq0 bq1 fq0 fq1 zq
  have HB4 : Hid (Below w.heap.size w w4) := Lib.hid (by first | exact bgo HB3.out hb | exact bgo (bal HB3.out _) hb | exact bgo (bal (bal HB3.out _) _) hb | exact bgo (bdr HB3.out) hb)
  have HXc4 := Lib.hid (cfg_later (w1 := w4) HXc3.out (by first | exact hb | exact (bal brf _ : Below _ _ _).trans (hb.mono (by simp)) | exact (bal (bal brf _) _ : Below _ _ _).trans (hb.mono (by simp)) | exact (bdr brf : Below _ _ _).trans hb))
  have HXq4 := Lib.hid (at2_later (w1 := w4) HXq3.out (by first | exact hb | exact (bal brf _ : Below _ _ _).trans (hb.mono (by simp)) | exact (bal (bal brf _) _ : Below _ _ _).trans (hb.mono (by simp)) | exact (bdr brf : Below _ _ _).trans hb))
  clear hb
  go_wp2_with fail
  go_ret
  exact ⟨rfl, HB4.out⟩

set_option maxHeartbeats 600000 in
theorem queueRefuses_fromB (hq : QAt w A n c ps) (hby : n * 56 ≤ 140737488351232) (ht : TxtOk (ps.map (·.1))) (hl : ¬ (300 : Int) < m) (h0 : 0 ≤ fr) (h1 : cl ≤ fr) (hc : cliB cl fr = false) :
    Calls Try.prog 3 #[cfgV (.slice D dn dc) ch st cl qu clo lo ag wi ro se, .agg #[.int .u64 nx, .slice A n c], .int .i64 fr, .int .i64 tu, .slice E m mc] w (Yes w) := by
  have h2 : ¬ fr < cl := by omega
  have hnb : (n : Int) ≤ 100000000000000 := by omega
  have HQ0 := Lib.hid hq
  have HT := Lib.hid ht
  have HBY := Lib.hid hby
  have HXc0 := Lib.hid ((CfgAt.new w (.slice D dn dc) ch st cl qu clo lo ag wi ro se 25).alloc (.cells #[.int .u64 nx, .slice A n c] 28))
  have HXq0 := Lib.hid (At2.newH (K := w.heap.size + 1) (w.alloc (.cells #[.slice D dn dc, .int .i64 ch, .int .i64 st, .int .i64 cl, .int .i64 qu, .int .i64 clo, .int .i64 lo, .int .i64 ag, .int .i64 wi, .int .u64 ro, .int .u64 se] 25)) (.int .u64 nx) (.slice A n c) 28 (by simp))
  have HB0 := Lib.hid (brf (w := w))
  clear hq ht hby
  go_enter Try.func3, Try.ntmps3
  go_wp2_with fail
  refine (live_any _).mono ?_
  rintro e w1 ⟨rfl, hb⟩
  have HB1 : Hid (Below w.heap.size w w1) := Lib.hid (by first | exact bgo HB0.out hb | exact bgo (bal HB0.out _) hb | exact bgo (bal (bal HB0.out _) _) hb | exact bgo (bdr HB0.out) hb)
  have HXc1 := Lib.hid (cfg_later (w1 := w1) HXc0.out (by first | exact hb | exact (bal brf _ : Below _ _ _).trans (hb.mono (by simp)) | exact (bal (bal brf _) _ : Below _ _ _).trans (hb.mono (by simp)) | exact (bdr brf : Below _ _ _).trans hb))
  have HXq1 := Lib.hid (at2_later (w1 := w1) HXq0.out (by first | exact hb | exact (bal brf _ : Below _ _ _).trans (hb.mono (by simp)) | exact (bal (bal brf _) _ : Below _ _ _).trans (hb.mono (by simp)) | exact (bdr brf : Below _ _ _).trans hb))
  clear hb
  obtain ⟨bc0, bc1, bc2, bc3, bc4, bc5, bc6, bc7, bc8, bc9, bcx⟩ := HXc1.out
  have zc := cell_lt bc0
  obtain ⟨bq0, bq1, fq0, fq1⟩ := HXq1.out
  have zq := cell_lt bq0
  go_wp2_with fail
  refine (few_any nx A n c _ _ HQ0.out.1 HQ0.out.2.1 HQ0.out.2.2.1 (HQ0.out.below HB1.out).2.2.2).mono ?_
  rintro e w2 ⟨b, rfl, hb⟩
  clear bc0 bc1 bc2 bc3 bc4 bc5 bc6 bc7 bc8 bc9 bcx zc bq0 bq1 fq0 fq1 zq
  have HB2 : Hid (Below w.heap.size w w2) := Lib.hid (by first | exact bgo HB1.out hb | exact bgo (bal HB1.out _) hb | exact bgo (bal (bal HB1.out _) _) hb | exact bgo (bdr HB1.out) hb)
  have HXc2 := Lib.hid (cfg_later (w1 := w2) HXc1.out (by first | exact hb | exact (bal brf _ : Below _ _ _).trans (hb.mono (by simp)) | exact (bal (bal brf _) _ : Below _ _ _).trans (hb.mono (by simp)) | exact (bdr brf : Below _ _ _).trans hb))
  have HXq2 := Lib.hid (at2_later (w1 := w2) HXq1.out (by first | exact hb | exact (bal brf _ : Below _ _ _).trans (hb.mono (by simp)) | exact (bal (bal brf _) _ : Below _ _ _).trans (hb.mono (by simp)) | exact (bdr brf : Below _ _ _).trans hb))
  clear hb
  obtain ⟨bc0, bc1, bc2, bc3, bc4, bc5, bc6, bc7, bc8, bc9, bcx⟩ := HXc2.out
  have zc := cell_lt bc0
  obtain ⟨bq0, bq1, fq0, fq1⟩ := HXq2.out
  have zq := cell_lt bq0
  cases b
  · go_wp2_with fail
    go_ret
    exact ⟨rfl, HB2.out⟩
  go_wp2_with fail
  refine (put_from D dn dc ch st cl qu clo lo ag wi ro se nx fr tu A n c ps E m mc _ (HQ0.out.below HB2.out) HBY.out HT.out hc).mono ?_
  rintro e w3 ⟨A3, n3, c3, qs3, rfl, hm3, hq3, hb⟩
  clear bc0 bc1 bc2 bc3 bc4 bc5 bc6 bc7 bc8 bc9 bcx zc bq0 bq1 fq0 fq1 zq
  have HB3 : Hid (Below w.heap.size w w3) := Lib.hid (by first | exact bgo HB2.out hb | exact bgo (bal HB2.out _) hb | exact bgo (bal (bal HB2.out _) _) hb | exact bgo (bdr HB2.out) hb)
  have HXc3 := Lib.hid (cfg_later (w1 := w3) HXc2.out (by first | exact hb | exact (bal brf _ : Below _ _ _).trans (hb.mono (by simp)) | exact (bal (bal brf _) _ : Below _ _ _).trans (hb.mono (by simp)) | exact (bdr brf : Below _ _ _).trans hb))
  have HXq3 := Lib.hid (at2_later (w1 := w3) HXq2.out (by first | exact hb | exact (bal brf _ : Below _ _ _).trans (hb.mono (by simp)) | exact (bal (bal brf _) _ : Below _ _ _).trans (hb.mono (by simp)) | exact (bdr brf : Below _ _ _).trans hb))
  have hq3 := hq3.at_
  have hn3 : n3 = n := by rw [← hq3.len, hm3]; exact HQ0.out.len
  subst hn3
  have HM3 := Lib.hid hm3
  have HQ3 := Lib.hid hq3
  clear hm3 hq3
  clear hb
  obtain ⟨bc0, bc1, bc2, bc3, bc4, bc5, bc6, bc7, bc8, bc9, bcx⟩ := HXc3.out
  have zc := cell_lt bc0
  obtain ⟨bq0, bq1, fq0, fq1⟩ := HXq3.out
  have zq := cell_lt bq0
  go_wp2_with fail
  refine (same17_true nx A3 A n3 c3 c qs3 ps _ (HQ3.out.below (bal brf _)) (HQ0.out.below (bal HB3.out _)) HM3.out (by rw [HM3.out]; exact HT.out)).mono ?_
  rintro e w4 ⟨rfl, hb⟩
  clear bc0 bc1 bc2 bc3 bc4 bc5 bc6 bc7 bc8 bc9 bcx zc bq0 bq1 fq0 fq1 zq
  have HB4 : Hid (Below w.heap.size w w4) := Lib.hid (by first | exact bgo HB3.out hb | exact bgo (bal HB3.out _) hb | exact bgo (bal (bal HB3.out _) _) hb | exact bgo (bdr HB3.out) hb)
  have HXc4 := Lib.hid (cfg_later (w1 := w4) HXc3.out (by first | exact hb | exact (bal brf _ : Below _ _ _).trans (hb.mono (by simp)) | exact (bal (bal brf _) _ : Below _ _ _).trans (hb.mono (by simp)) | exact (bdr brf : Below _ _ _).trans hb))
  have HXq4 := Lib.hid (at2_later (w1 := w4) HXq3.out (by first | exact hb | exact (bal brf _ : Below _ _ _).trans (hb.mono (by simp)) | exact (bal (bal brf _) _ : Below _ _ _).trans (hb.mono (by simp)) | exact (bdr brf : Below _ _ _).trans hb))
  clear hb
  go_wp2_with fail
  go_ret
  exact ⟨rfl, HB4.out⟩

set_option maxHeartbeats 600000 in
theorem queueRefuses_toA (hq : QAt w A n c ps) (hby : n * 56 ≤ 140737488351232) (ht : TxtOk (ps.map (·.1))) (hl : ¬ (300 : Int) < m) (h0 : 0 ≤ fr) (h1 : fr < cl) (h2 : tu < 0) (hc : cliB cl fr = true) (hd : cliB cl tu = false) :
    Calls Try.prog 3 #[cfgV (.slice D dn dc) ch st cl qu clo lo ag wi ro se, .agg #[.int .u64 nx, .slice A n c], .int .i64 fr, .int .i64 tu, .slice E m mc] w (Yes w) := by
  have h3 : ¬ 0 ≤ tu := by omega
  have hnb : (n : Int) ≤ 100000000000000 := by omega
  have HQ0 := Lib.hid hq
  have HT := Lib.hid ht
  have HBY := Lib.hid hby
  have HXc0 := Lib.hid ((CfgAt.new w (.slice D dn dc) ch st cl qu clo lo ag wi ro se 25).alloc (.cells #[.int .u64 nx, .slice A n c] 28))
  have HXq0 := Lib.hid (At2.newH (K := w.heap.size + 1) (w.alloc (.cells #[.slice D dn dc, .int .i64 ch, .int .i64 st, .int .i64 cl, .int .i64 qu, .int .i64 clo, .int .i64 lo, .int .i64 ag, .int .i64 wi, .int .u64 ro, .int .u64 se] 25)) (.int .u64 nx) (.slice A n c) 28 (by simp))
  have HB0 := Lib.hid (brf (w := w))
  clear hq ht hby
  go_enter Try.func3, Try.ntmps3
  go_wp2_with fail
  refine (live_any _).mono ?_
  rintro e w1 ⟨rfl, hb⟩
  have HB1 : Hid (Below w.heap.size w w1) := Lib.hid (by first | exact bgo HB0.out hb | exact bgo (bal HB0.out _) hb | exact bgo (bal (bal HB0.out _) _) hb | exact bgo (bdr HB0.out) hb)
  have HXc1 := Lib.hid (cfg_later (w1 := w1) HXc0.out (by first | exact hb | exact (bal brf _ : Below _ _ _).trans (hb.mono (by simp)) | exact (bal (bal brf _) _ : Below _ _ _).trans (hb.mono (by simp)) | exact (bdr brf : Below _ _ _).trans hb))
  have HXq1 := Lib.hid (at2_later (w1 := w1) HXq0.out (by first | exact hb | exact (bal brf _ : Below _ _ _).trans (hb.mono (by simp)) | exact (bal (bal brf _) _ : Below _ _ _).trans (hb.mono (by simp)) | exact (bdr brf : Below _ _ _).trans hb))
  clear hb
  obtain ⟨bc0, bc1, bc2, bc3, bc4, bc5, bc6, bc7, bc8, bc9, bcx⟩ := HXc1.out
  have zc := cell_lt bc0
  obtain ⟨bq0, bq1, fq0, fq1⟩ := HXq1.out
  have zq := cell_lt bq0
  go_wp2_with fail
  refine (few_any nx A n c _ _ HQ0.out.1 HQ0.out.2.1 HQ0.out.2.2.1 (HQ0.out.below HB1.out).2.2.2).mono ?_
  rintro e w2 ⟨b, rfl, hb⟩
  clear bc0 bc1 bc2 bc3 bc4 bc5 bc6 bc7 bc8 bc9 bcx zc bq0 bq1 fq0 fq1 zq
  have HB2 : Hid (Below w.heap.size w w2) := Lib.hid (by first | exact bgo HB1.out hb | exact bgo (bal HB1.out _) hb | exact bgo (bal (bal HB1.out _) _) hb | exact bgo (bdr HB1.out) hb)
  have HXc2 := Lib.hid (cfg_later (w1 := w2) HXc1.out (by first | exact hb | exact (bal brf _ : Below _ _ _).trans (hb.mono (by simp)) | exact (bal (bal brf _) _ : Below _ _ _).trans (hb.mono (by simp)) | exact (bdr brf : Below _ _ _).trans hb))
  have HXq2 := Lib.hid (at2_later (w1 := w2) HXq1.out (by first | exact hb | exact (bal brf _ : Below _ _ _).trans (hb.mono (by simp)) | exact (bal (bal brf _) _ : Below _ _ _).trans (hb.mono (by simp)) | exact (bdr brf : Below _ _ _).trans hb))
  clear hb
  obtain ⟨bc0, bc1, bc2, bc3, bc4, bc5, bc6, bc7, bc8, bc9, bcx⟩ := HXc2.out
  have zc := cell_lt bc0
  obtain ⟨bq0, bq1, fq0, fq1⟩ := HXq2.out
  have zq := cell_lt bq0
  cases b
  · go_wp2_with fail
    go_ret
    exact ⟨rfl, HB2.out⟩
  go_wp2_with fail
  refine (put_to D dn dc ch st cl qu clo lo ag wi ro se nx fr tu A n c ps E m mc _ (HQ0.out.below HB2.out) HBY.out HT.out hc hd).mono ?_
  rintro e w3 ⟨A3, n3, c3, qs3, rfl, hm3, hq3, hb⟩
  clear bc0 bc1 bc2 bc3 bc4 bc5 bc6 bc7 bc8 bc9 bcx zc bq0 bq1 fq0 fq1 zq
  have HB3 : Hid (Below w.heap.size w w3) := Lib.hid (by first | exact bgo HB2.out hb | exact bgo (bal HB2.out _) hb | exact bgo (bal (bal HB2.out _) _) hb | exact bgo (bdr HB2.out) hb)
  have HXc3 := Lib.hid (cfg_later (w1 := w3) HXc2.out (by first | exact hb | exact (bal brf _ : Below _ _ _).trans (hb.mono (by simp)) | exact (bal (bal brf _) _ : Below _ _ _).trans (hb.mono (by simp)) | exact (bdr brf : Below _ _ _).trans hb))
  have HXq3 := Lib.hid (at2_later (w1 := w3) HXq2.out (by first | exact hb | exact (bal brf _ : Below _ _ _).trans (hb.mono (by simp)) | exact (bal (bal brf _) _ : Below _ _ _).trans (hb.mono (by simp)) | exact (bdr brf : Below _ _ _).trans hb))
  have hq3 := hq3.at_
  have hn3 : n3 = n := by rw [← hq3.len, hm3]; exact HQ0.out.len
  subst hn3
  have HM3 := Lib.hid hm3
  have HQ3 := Lib.hid hq3
  clear hm3 hq3
  clear hb
  obtain ⟨bc0, bc1, bc2, bc3, bc4, bc5, bc6, bc7, bc8, bc9, bcx⟩ := HXc3.out
  have zc := cell_lt bc0
  obtain ⟨bq0, bq1, fq0, fq1⟩ := HXq3.out
  have zq := cell_lt bq0
  go_wp2_with fail
  refine (same17_true nx A3 A n3 c3 c qs3 ps _ (HQ3.out.below (bal brf _)) (HQ0.out.below (bal HB3.out _)) HM3.out (by rw [HM3.out]; exact HT.out)).mono ?_
  rintro e w4 ⟨rfl, hb⟩
  clear bc0 bc1 bc2 bc3 bc4 bc5 bc6 bc7 bc8 bc9 bcx zc bq0 bq1 fq0 fq1 zq
  have HB4 : Hid (Below w.heap.size w w4) := Lib.hid (by first | exact bgo HB3.out hb | exact bgo (bal HB3.out _) hb | exact bgo (bal (bal HB3.out _) _) hb | exact bgo (bdr HB3.out) hb)
  have HXc4 := Lib.hid (cfg_later (w1 := w4) HXc3.out (by first | exact hb | exact (bal brf _ : Below _ _ _).trans (hb.mono (by simp)) | exact (bal (bal brf _) _ : Below _ _ _).trans (hb.mono (by simp)) | exact (bdr brf : Below _ _ _).trans hb))
  have HXq4 := Lib.hid (at2_later (w1 := w4) HXq3.out (by first | exact hb | exact (bal brf _ : Below _ _ _).trans (hb.mono (by simp)) | exact (bal (bal brf _) _ : Below _ _ _).trans (hb.mono (by simp)) | exact (bdr brf : Below _ _ _).trans hb))
  clear hb
  go_wp2_with fail
  go_ret
  exact ⟨rfl, HB4.out⟩

set_option maxHeartbeats 600000 in
theorem queueRefuses_toB (hq : QAt w A n c ps) (hby : n * 56 ≤ 140737488351232) (ht : TxtOk (ps.map (·.1))) (hl : ¬ (300 : Int) < m) (h0 : 0 ≤ fr) (h1 : fr < cl) (h2 : 0 ≤ tu) (h3 : cl ≤ tu) (hc : cliB cl fr = true) (hd : cliB cl tu = false) :
    Calls Try.prog 3 #[cfgV (.slice D dn dc) ch st cl qu clo lo ag wi ro se, .agg #[.int .u64 nx, .slice A n c], .int .i64 fr, .int .i64 tu, .slice E m mc] w (Yes w) := by
  have h4 : ¬ tu < cl := by omega
  have hnb : (n : Int) ≤ 100000000000000 := by omega
  have HQ0 := Lib.hid hq
  have HT := Lib.hid ht
  have HBY := Lib.hid hby
  have HXc0 := Lib.hid ((CfgAt.new w (.slice D dn dc) ch st cl qu clo lo ag wi ro se 25).alloc (.cells #[.int .u64 nx, .slice A n c] 28))
  have HXq0 := Lib.hid (At2.newH (K := w.heap.size + 1) (w.alloc (.cells #[.slice D dn dc, .int .i64 ch, .int .i64 st, .int .i64 cl, .int .i64 qu, .int .i64 clo, .int .i64 lo, .int .i64 ag, .int .i64 wi, .int .u64 ro, .int .u64 se] 25)) (.int .u64 nx) (.slice A n c) 28 (by simp))
  have HB0 := Lib.hid (brf (w := w))
  clear hq ht hby
  go_enter Try.func3, Try.ntmps3
  go_wp2_with fail
  refine (live_any _).mono ?_
  rintro e w1 ⟨rfl, hb⟩
  have HB1 : Hid (Below w.heap.size w w1) := Lib.hid (by first | exact bgo HB0.out hb | exact bgo (bal HB0.out _) hb | exact bgo (bal (bal HB0.out _) _) hb | exact bgo (bdr HB0.out) hb)
  have HXc1 := Lib.hid (cfg_later (w1 := w1) HXc0.out (by first | exact hb | exact (bal brf _ : Below _ _ _).trans (hb.mono (by simp)) | exact (bal (bal brf _) _ : Below _ _ _).trans (hb.mono (by simp)) | exact (bdr brf : Below _ _ _).trans hb))
  have HXq1 := Lib.hid (at2_later (w1 := w1) HXq0.out (by first | exact hb | exact (bal brf _ : Below _ _ _).trans (hb.mono (by simp)) | exact (bal (bal brf _) _ : Below _ _ _).trans (hb.mono (by simp)) | exact (bdr brf : Below _ _ _).trans hb))
  clear hb
  obtain ⟨bc0, bc1, bc2, bc3, bc4, bc5, bc6, bc7, bc8, bc9, bcx⟩ := HXc1.out
  have zc := cell_lt bc0
  obtain ⟨bq0, bq1, fq0, fq1⟩ := HXq1.out
  have zq := cell_lt bq0
  go_wp2_with fail
  refine (few_any nx A n c _ _ HQ0.out.1 HQ0.out.2.1 HQ0.out.2.2.1 (HQ0.out.below HB1.out).2.2.2).mono ?_
  rintro e w2 ⟨b, rfl, hb⟩
  clear bc0 bc1 bc2 bc3 bc4 bc5 bc6 bc7 bc8 bc9 bcx zc bq0 bq1 fq0 fq1 zq
  have HB2 : Hid (Below w.heap.size w w2) := Lib.hid (by first | exact bgo HB1.out hb | exact bgo (bal HB1.out _) hb | exact bgo (bal (bal HB1.out _) _) hb | exact bgo (bdr HB1.out) hb)
  have HXc2 := Lib.hid (cfg_later (w1 := w2) HXc1.out (by first | exact hb | exact (bal brf _ : Below _ _ _).trans (hb.mono (by simp)) | exact (bal (bal brf _) _ : Below _ _ _).trans (hb.mono (by simp)) | exact (bdr brf : Below _ _ _).trans hb))
  have HXq2 := Lib.hid (at2_later (w1 := w2) HXq1.out (by first | exact hb | exact (bal brf _ : Below _ _ _).trans (hb.mono (by simp)) | exact (bal (bal brf _) _ : Below _ _ _).trans (hb.mono (by simp)) | exact (bdr brf : Below _ _ _).trans hb))
  clear hb
  obtain ⟨bc0, bc1, bc2, bc3, bc4, bc5, bc6, bc7, bc8, bc9, bcx⟩ := HXc2.out
  have zc := cell_lt bc0
  obtain ⟨bq0, bq1, fq0, fq1⟩ := HXq2.out
  have zq := cell_lt bq0
  cases b
  · go_wp2_with fail
    go_ret
    exact ⟨rfl, HB2.out⟩
  go_wp2_with fail
  refine (put_to D dn dc ch st cl qu clo lo ag wi ro se nx fr tu A n c ps E m mc _ (HQ0.out.below HB2.out) HBY.out HT.out hc hd).mono ?_
  rintro e w3 ⟨A3, n3, c3, qs3, rfl, hm3, hq3, hb⟩
  clear bc0 bc1 bc2 bc3 bc4 bc5 bc6 bc7 bc8 bc9 bcx zc bq0 bq1 fq0 fq1 zq
  have HB3 : Hid (Below w.heap.size w w3) := Lib.hid (by first | exact bgo HB2.out hb | exact bgo (bal HB2.out _) hb | exact bgo (bal (bal HB2.out _) _) hb | exact bgo (bdr HB2.out) hb)
  have HXc3 := Lib.hid (cfg_later (w1 := w3) HXc2.out (by first | exact hb | exact (bal brf _ : Below _ _ _).trans (hb.mono (by simp)) | exact (bal (bal brf _) _ : Below _ _ _).trans (hb.mono (by simp)) | exact (bdr brf : Below _ _ _).trans hb))
  have HXq3 := Lib.hid (at2_later (w1 := w3) HXq2.out (by first | exact hb | exact (bal brf _ : Below _ _ _).trans (hb.mono (by simp)) | exact (bal (bal brf _) _ : Below _ _ _).trans (hb.mono (by simp)) | exact (bdr brf : Below _ _ _).trans hb))
  have hq3 := hq3.at_
  have hn3 : n3 = n := by rw [← hq3.len, hm3]; exact HQ0.out.len
  subst hn3
  have HM3 := Lib.hid hm3
  have HQ3 := Lib.hid hq3
  clear hm3 hq3
  clear hb
  obtain ⟨bc0, bc1, bc2, bc3, bc4, bc5, bc6, bc7, bc8, bc9, bcx⟩ := HXc3.out
  have zc := cell_lt bc0
  obtain ⟨bq0, bq1, fq0, fq1⟩ := HXq3.out
  have zq := cell_lt bq0
  go_wp2_with fail
  refine (same17_true nx A3 A n3 c3 c qs3 ps _ (HQ3.out.below (bal brf _)) (HQ0.out.below (bal HB3.out _)) HM3.out (by rw [HM3.out]; exact HT.out)).mono ?_
  rintro e w4 ⟨rfl, hb⟩
  clear bc0 bc1 bc2 bc3 bc4 bc5 bc6 bc7 bc8 bc9 bcx zc bq0 bq1 fq0 fq1 zq
  have HB4 : Hid (Below w.heap.size w w4) := Lib.hid (by first | exact bgo HB3.out hb | exact bgo (bal HB3.out _) hb | exact bgo (bal (bal HB3.out _) _) hb | exact bgo (bdr HB3.out) hb)
  have HXc4 := Lib.hid (cfg_later (w1 := w4) HXc3.out (by first | exact hb | exact (bal brf _ : Below _ _ _).trans (hb.mono (by simp)) | exact (bal (bal brf _) _ : Below _ _ _).trans (hb.mono (by simp)) | exact (bdr brf : Below _ _ _).trans hb))
  have HXq4 := Lib.hid (at2_later (w1 := w4) HXq3.out (by first | exact hb | exact (bal brf _ : Below _ _ _).trans (hb.mono (by simp)) | exact (bal (bal brf _) _ : Below _ _ _).trans (hb.mono (by simp)) | exact (bdr brf : Below _ _ _).trans hb))
  clear hb
  go_wp2_with fail
  go_ret
  exact ⟨rfl, HB4.out⟩

set_option maxHeartbeats 600000 in
theorem queueRefuses_long (hq : QAt w A n c ps) (hby : n * 56 ≤ 140737488351232) (ht : TxtOk (ps.map (·.1))) (hl : ¬ (300 : Int) < m) (h0 : 0 ≤ fr) (h1 : fr < cl) (h2 : 0 ≤ tu) (h3 : tu < cl) (hc : cliB cl fr = true) (hd : cliB cl tu = true) (h4 : (64 : Int) < m) :
    Calls Try.prog 3 #[cfgV (.slice D dn dc) ch st cl qu clo lo ag wi ro se, .agg #[.int .u64 nx, .slice A n c], .int .i64 fr, .int .i64 tu, .slice E m mc] w (Yes w) := by
  have hnb : (n : Int) ≤ 100000000000000 := by omega
  have HQ0 := Lib.hid hq
  have HT := Lib.hid ht
  have HBY := Lib.hid hby
  have HXc0 := Lib.hid ((CfgAt.new w (.slice D dn dc) ch st cl qu clo lo ag wi ro se 25).alloc (.cells #[.int .u64 nx, .slice A n c] 28))
  have HXq0 := Lib.hid (At2.newH (K := w.heap.size + 1) (w.alloc (.cells #[.slice D dn dc, .int .i64 ch, .int .i64 st, .int .i64 cl, .int .i64 qu, .int .i64 clo, .int .i64 lo, .int .i64 ag, .int .i64 wi, .int .u64 ro, .int .u64 se] 25)) (.int .u64 nx) (.slice A n c) 28 (by simp))
  have HB0 := Lib.hid (brf (w := w))
  clear hq ht hby
  go_enter Try.func3, Try.ntmps3
  go_wp2_with fail
  refine (live_any _).mono ?_
  rintro e w1 ⟨rfl, hb⟩
  have HB1 : Hid (Below w.heap.size w w1) := Lib.hid (by first | exact bgo HB0.out hb | exact bgo (bal HB0.out _) hb | exact bgo (bal (bal HB0.out _) _) hb | exact bgo (bdr HB0.out) hb)
  have HXc1 := Lib.hid (cfg_later (w1 := w1) HXc0.out (by first | exact hb | exact (bal brf _ : Below _ _ _).trans (hb.mono (by simp)) | exact (bal (bal brf _) _ : Below _ _ _).trans (hb.mono (by simp)) | exact (bdr brf : Below _ _ _).trans hb))
  have HXq1 := Lib.hid (at2_later (w1 := w1) HXq0.out (by first | exact hb | exact (bal brf _ : Below _ _ _).trans (hb.mono (by simp)) | exact (bal (bal brf _) _ : Below _ _ _).trans (hb.mono (by simp)) | exact (bdr brf : Below _ _ _).trans hb))
  clear hb
  obtain ⟨bc0, bc1, bc2, bc3, bc4, bc5, bc6, bc7, bc8, bc9, bcx⟩ := HXc1.out
  have zc := cell_lt bc0
  obtain ⟨bq0, bq1, fq0, fq1⟩ := HXq1.out
  have zq := cell_lt bq0
  go_wp2_with fail
  refine (few_any nx A n c _ _ HQ0.out.1 HQ0.out.2.1 HQ0.out.2.2.1 (HQ0.out.below HB1.out).2.2.2).mono ?_
  rintro e w2 ⟨b, rfl, hb⟩
  clear bc0 bc1 bc2 bc3 bc4 bc5 bc6 bc7 bc8 bc9 bcx zc bq0 bq1 fq0 fq1 zq
  have HB2 : Hid (Below w.heap.size w w2) := Lib.hid (by first | exact bgo HB1.out hb | exact bgo (bal HB1.out _) hb | exact bgo (bal (bal HB1.out _) _) hb | exact bgo (bdr HB1.out) hb)
  have HXc2 := Lib.hid (cfg_later (w1 := w2) HXc1.out (by first | exact hb | exact (bal brf _ : Below _ _ _).trans (hb.mono (by simp)) | exact (bal (bal brf _) _ : Below _ _ _).trans (hb.mono (by simp)) | exact (bdr brf : Below _ _ _).trans hb))
  have HXq2 := Lib.hid (at2_later (w1 := w2) HXq1.out (by first | exact hb | exact (bal brf _ : Below _ _ _).trans (hb.mono (by simp)) | exact (bal (bal brf _) _ : Below _ _ _).trans (hb.mono (by simp)) | exact (bdr brf : Below _ _ _).trans hb))
  clear hb
  obtain ⟨bc0, bc1, bc2, bc3, bc4, bc5, bc6, bc7, bc8, bc9, bcx⟩ := HXc2.out
  have zc := cell_lt bc0
  obtain ⟨bq0, bq1, fq0, fq1⟩ := HXq2.out
  have zq := cell_lt bq0
  cases b
  · go_wp2_with fail
    go_ret
    exact ⟨rfl, HB2.out⟩
  go_wp2_with fail
  refine (put_long D dn dc ch st cl qu clo lo ag wi ro se nx fr tu A n c ps E m mc _ (HQ0.out.below HB2.out) HBY.out HT.out hc hd h4).mono ?_
  rintro e w3 ⟨A3, n3, c3, qs3, rfl, hm3, hq3, hb⟩
  clear bc0 bc1 bc2 bc3 bc4 bc5 bc6 bc7 bc8 bc9 bcx zc bq0 bq1 fq0 fq1 zq
  have HB3 : Hid (Below w.heap.size w w3) := Lib.hid (by first | exact bgo HB2.out hb | exact bgo (bal HB2.out _) hb | exact bgo (bal (bal HB2.out _) _) hb | exact bgo (bdr HB2.out) hb)
  have HXc3 := Lib.hid (cfg_later (w1 := w3) HXc2.out (by first | exact hb | exact (bal brf _ : Below _ _ _).trans (hb.mono (by simp)) | exact (bal (bal brf _) _ : Below _ _ _).trans (hb.mono (by simp)) | exact (bdr brf : Below _ _ _).trans hb))
  have HXq3 := Lib.hid (at2_later (w1 := w3) HXq2.out (by first | exact hb | exact (bal brf _ : Below _ _ _).trans (hb.mono (by simp)) | exact (bal (bal brf _) _ : Below _ _ _).trans (hb.mono (by simp)) | exact (bdr brf : Below _ _ _).trans hb))
  have hq3 := hq3.at_
  have hn3 : n3 = n := by rw [← hq3.len, hm3]; exact HQ0.out.len
  subst hn3
  have HM3 := Lib.hid hm3
  have HQ3 := Lib.hid hq3
  clear hm3 hq3
  clear hb
  obtain ⟨bc0, bc1, bc2, bc3, bc4, bc5, bc6, bc7, bc8, bc9, bcx⟩ := HXc3.out
  have zc := cell_lt bc0
  obtain ⟨bq0, bq1, fq0, fq1⟩ := HXq3.out
  have zq := cell_lt bq0
  go_wp2_with fail
  refine (same17_true nx A3 A n3 c3 c qs3 ps _ (HQ3.out.below (bal brf _)) (HQ0.out.below (bal HB3.out _)) HM3.out (by rw [HM3.out]; exact HT.out)).mono ?_
  rintro e w4 ⟨rfl, hb⟩
  clear bc0 bc1 bc2 bc3 bc4 bc5 bc6 bc7 bc8 bc9 bcx zc bq0 bq1 fq0 fq1 zq
  have HB4 : Hid (Below w.heap.size w w4) := Lib.hid (by first | exact bgo HB3.out hb | exact bgo (bal HB3.out _) hb | exact bgo (bal (bal HB3.out _) _) hb | exact bgo (bdr HB3.out) hb)
  have HXc4 := Lib.hid (cfg_later (w1 := w4) HXc3.out (by first | exact hb | exact (bal brf _ : Below _ _ _).trans (hb.mono (by simp)) | exact (bal (bal brf _) _ : Below _ _ _).trans (hb.mono (by simp)) | exact (bdr brf : Below _ _ _).trans hb))
  have HXq4 := Lib.hid (at2_later (w1 := w4) HXq3.out (by first | exact hb | exact (bal brf _ : Below _ _ _).trans (hb.mono (by simp)) | exact (bal (bal brf _) _ : Below _ _ _).trans (hb.mono (by simp)) | exact (bdr brf : Below _ _ _).trans hb))
  clear hb
  go_wp2_with fail
  go_ret
  exact ⟨rfl, HB4.out⟩

set_option maxHeartbeats 600000 in
theorem queueRefuses_halts (hq : QAt w A n c ps) (hby : n * 56 ≤ 140737488351232) (ht : TxtOk (ps.map (·.1))) (hl : ¬ (300 : Int) < m) (h0 : 0 ≤ fr) (h1 : fr < cl) (h2 : 0 ≤ tu) (h3 : tu < cl) (hc : cliB cl fr = true) (hd : cliB cl tu = true) (h4 : ¬ (64 : Int) < m) (h5 : (nx == 18446744073709551615) = true) :
    Calls Try.prog 3 #[cfgV (.slice D dn dc) ch st cl qu clo lo ag wi ro se, .agg #[.int .u64 nx, .slice A n c], .int .i64 fr, .int .i64 tu, .slice E m mc] w (Yes w) := by
  have h6 : (nx != 18446744073709551615) = false := by simp only [bne, h5]; rfl
  have hnb : (n : Int) ≤ 100000000000000 := by omega
  have HQ0 := Lib.hid hq
  have HT := Lib.hid ht
  have HBY := Lib.hid hby
  have HXc0 := Lib.hid ((CfgAt.new w (.slice D dn dc) ch st cl qu clo lo ag wi ro se 25).alloc (.cells #[.int .u64 nx, .slice A n c] 28))
  have HXq0 := Lib.hid (At2.newH (K := w.heap.size + 1) (w.alloc (.cells #[.slice D dn dc, .int .i64 ch, .int .i64 st, .int .i64 cl, .int .i64 qu, .int .i64 clo, .int .i64 lo, .int .i64 ag, .int .i64 wi, .int .u64 ro, .int .u64 se] 25)) (.int .u64 nx) (.slice A n c) 28 (by simp))
  have HB0 := Lib.hid (brf (w := w))
  clear hq ht hby
  go_enter Try.func3, Try.ntmps3
  go_wp2_with fail
  refine (live_any _).mono ?_
  rintro e w1 ⟨rfl, hb⟩
  have HB1 : Hid (Below w.heap.size w w1) := Lib.hid (by first | exact bgo HB0.out hb | exact bgo (bal HB0.out _) hb | exact bgo (bal (bal HB0.out _) _) hb | exact bgo (bdr HB0.out) hb)
  have HXc1 := Lib.hid (cfg_later (w1 := w1) HXc0.out (by first | exact hb | exact (bal brf _ : Below _ _ _).trans (hb.mono (by simp)) | exact (bal (bal brf _) _ : Below _ _ _).trans (hb.mono (by simp)) | exact (bdr brf : Below _ _ _).trans hb))
  have HXq1 := Lib.hid (at2_later (w1 := w1) HXq0.out (by first | exact hb | exact (bal brf _ : Below _ _ _).trans (hb.mono (by simp)) | exact (bal (bal brf _) _ : Below _ _ _).trans (hb.mono (by simp)) | exact (bdr brf : Below _ _ _).trans hb))
  clear hb
  obtain ⟨bc0, bc1, bc2, bc3, bc4, bc5, bc6, bc7, bc8, bc9, bcx⟩ := HXc1.out
  have zc := cell_lt bc0
  obtain ⟨bq0, bq1, fq0, fq1⟩ := HXq1.out
  have zq := cell_lt bq0
  go_wp2_with fail
  refine (few_any nx A n c _ _ HQ0.out.1 HQ0.out.2.1 HQ0.out.2.2.1 (HQ0.out.below HB1.out).2.2.2).mono ?_
  rintro e w2 ⟨b, rfl, hb⟩
  clear bc0 bc1 bc2 bc3 bc4 bc5 bc6 bc7 bc8 bc9 bcx zc bq0 bq1 fq0 fq1 zq
  have HB2 : Hid (Below w.heap.size w w2) := Lib.hid (by first | exact bgo HB1.out hb | exact bgo (bal HB1.out _) hb | exact bgo (bal (bal HB1.out _) _) hb | exact bgo (bdr HB1.out) hb)
  have HXc2 := Lib.hid (cfg_later (w1 := w2) HXc1.out (by first | exact hb | exact (bal brf _ : Below _ _ _).trans (hb.mono (by simp)) | exact (bal (bal brf _) _ : Below _ _ _).trans (hb.mono (by simp)) | exact (bdr brf : Below _ _ _).trans hb))
  have HXq2 := Lib.hid (at2_later (w1 := w2) HXq1.out (by first | exact hb | exact (bal brf _ : Below _ _ _).trans (hb.mono (by simp)) | exact (bal (bal brf _) _ : Below _ _ _).trans (hb.mono (by simp)) | exact (bdr brf : Below _ _ _).trans hb))
  clear hb
  obtain ⟨bc0, bc1, bc2, bc3, bc4, bc5, bc6, bc7, bc8, bc9, bcx⟩ := HXc2.out
  have zc := cell_lt bc0
  obtain ⟨bq0, bq1, fq0, fq1⟩ := HXq2.out
  have zq := cell_lt bq0
  cases b
  · go_wp2_with fail
    go_ret
    exact ⟨rfl, HB2.out⟩
  go_wp2_with fail
  refine (put_halts D dn dc ch st cl qu clo lo ag wi ro se nx fr tu A n c ps E m mc _ (HQ0.out.below HB2.out) HBY.out HT.out hc hd (by omega) h5).mono ?_
  rintro e w3 ⟨A3, n3, c3, qs3, rfl, hm3, hq3, hb⟩
  clear bc0 bc1 bc2 bc3 bc4 bc5 bc6 bc7 bc8 bc9 bcx zc bq0 bq1 fq0 fq1 zq
  have HB3 : Hid (Below w.heap.size w w3) := Lib.hid (by first | exact bgo HB2.out hb | exact bgo (bal HB2.out _) hb | exact bgo (bal (bal HB2.out _) _) hb | exact bgo (bdr HB2.out) hb)
  have HXc3 := Lib.hid (cfg_later (w1 := w3) HXc2.out (by first | exact hb | exact (bal brf _ : Below _ _ _).trans (hb.mono (by simp)) | exact (bal (bal brf _) _ : Below _ _ _).trans (hb.mono (by simp)) | exact (bdr brf : Below _ _ _).trans hb))
  have HXq3 := Lib.hid (at2_later (w1 := w3) HXq2.out (by first | exact hb | exact (bal brf _ : Below _ _ _).trans (hb.mono (by simp)) | exact (bal (bal brf _) _ : Below _ _ _).trans (hb.mono (by simp)) | exact (bdr brf : Below _ _ _).trans hb))
  have hq3 := hq3.at_
  have hn3 : n3 = n := by rw [← hq3.len, hm3]; exact HQ0.out.len
  subst hn3
  have HM3 := Lib.hid hm3
  have HQ3 := Lib.hid hq3
  clear hm3 hq3
  clear hb
  obtain ⟨bc0, bc1, bc2, bc3, bc4, bc5, bc6, bc7, bc8, bc9, bcx⟩ := HXc3.out
  have zc := cell_lt bc0
  obtain ⟨bq0, bq1, fq0, fq1⟩ := HXq3.out
  have zq := cell_lt bq0
  go_wp2_with fail
  refine (same17_true nx A3 A n3 c3 c qs3 ps _ (HQ3.out.below (bal brf _)) (HQ0.out.below (bal HB3.out _)) HM3.out (by rw [HM3.out]; exact HT.out)).mono ?_
  rintro e w4 ⟨rfl, hb⟩
  clear bc0 bc1 bc2 bc3 bc4 bc5 bc6 bc7 bc8 bc9 bcx zc bq0 bq1 fq0 fq1 zq
  have HB4 : Hid (Below w.heap.size w w4) := Lib.hid (by first | exact bgo HB3.out hb | exact bgo (bal HB3.out _) hb | exact bgo (bal (bal HB3.out _) _) hb | exact bgo (bdr HB3.out) hb)
  have HXc4 := Lib.hid (cfg_later (w1 := w4) HXc3.out (by first | exact hb | exact (bal brf _ : Below _ _ _).trans (hb.mono (by simp)) | exact (bal (bal brf _) _ : Below _ _ _).trans (hb.mono (by simp)) | exact (bdr brf : Below _ _ _).trans hb))
  have HXq4 := Lib.hid (at2_later (w1 := w4) HXq3.out (by first | exact hb | exact (bal brf _ : Below _ _ _).trans (hb.mono (by simp)) | exact (bal (bal brf _) _ : Below _ _ _).trans (hb.mono (by simp)) | exact (bdr brf : Below _ _ _).trans hb))
  clear hb
  go_wp2_with fail
  go_ret
  exact ⟨rfl, HB4.out⟩

set_option maxHeartbeats 600000 in
theorem queueRefuses_full (hq : QAt w A n c ps) (hby : n * 56 ≤ 140737488351232) (ht : TxtOk (ps.map (·.1))) (hl : ¬ (300 : Int) < m) (h0 : 0 ≤ fr) (h1 : fr < cl) (h2 : 0 ≤ tu) (h3 : tu < cl) (hc : cliB cl fr = true) (hd : cliB cl tu = true) (h4 : ¬ (64 : Int) < m) (h5 : (nx == 18446744073709551615) = false) (h7 : qu ≤ (n : Int)) :
    Calls Try.prog 3 #[cfgV (.slice D dn dc) ch st cl qu clo lo ag wi ro se, .agg #[.int .u64 nx, .slice A n c], .int .i64 fr, .int .i64 tu, .slice E m mc] w (Yes w) := by
  have hnb : (n : Int) ≤ 100000000000000 := by omega
  have HQ0 := Lib.hid hq
  have HT := Lib.hid ht
  have HBY := Lib.hid hby
  have HXc0 := Lib.hid ((CfgAt.new w (.slice D dn dc) ch st cl qu clo lo ag wi ro se 25).alloc (.cells #[.int .u64 nx, .slice A n c] 28))
  have HXq0 := Lib.hid (At2.newH (K := w.heap.size + 1) (w.alloc (.cells #[.slice D dn dc, .int .i64 ch, .int .i64 st, .int .i64 cl, .int .i64 qu, .int .i64 clo, .int .i64 lo, .int .i64 ag, .int .i64 wi, .int .u64 ro, .int .u64 se] 25)) (.int .u64 nx) (.slice A n c) 28 (by simp))
  have HB0 := Lib.hid (brf (w := w))
  clear hq ht hby
  go_enter Try.func3, Try.ntmps3
  go_wp2_with fail
  refine (live_any _).mono ?_
  rintro e w1 ⟨rfl, hb⟩
  have HB1 : Hid (Below w.heap.size w w1) := Lib.hid (by first | exact bgo HB0.out hb | exact bgo (bal HB0.out _) hb | exact bgo (bal (bal HB0.out _) _) hb | exact bgo (bdr HB0.out) hb)
  have HXc1 := Lib.hid (cfg_later (w1 := w1) HXc0.out (by first | exact hb | exact (bal brf _ : Below _ _ _).trans (hb.mono (by simp)) | exact (bal (bal brf _) _ : Below _ _ _).trans (hb.mono (by simp)) | exact (bdr brf : Below _ _ _).trans hb))
  have HXq1 := Lib.hid (at2_later (w1 := w1) HXq0.out (by first | exact hb | exact (bal brf _ : Below _ _ _).trans (hb.mono (by simp)) | exact (bal (bal brf _) _ : Below _ _ _).trans (hb.mono (by simp)) | exact (bdr brf : Below _ _ _).trans hb))
  clear hb
  obtain ⟨bc0, bc1, bc2, bc3, bc4, bc5, bc6, bc7, bc8, bc9, bcx⟩ := HXc1.out
  have zc := cell_lt bc0
  obtain ⟨bq0, bq1, fq0, fq1⟩ := HXq1.out
  have zq := cell_lt bq0
  go_wp2_with fail
  refine (few_any nx A n c _ _ HQ0.out.1 HQ0.out.2.1 HQ0.out.2.2.1 (HQ0.out.below HB1.out).2.2.2).mono ?_
  rintro e w2 ⟨b, rfl, hb⟩
  clear bc0 bc1 bc2 bc3 bc4 bc5 bc6 bc7 bc8 bc9 bcx zc bq0 bq1 fq0 fq1 zq
  have HB2 : Hid (Below w.heap.size w w2) := Lib.hid (by first | exact bgo HB1.out hb | exact bgo (bal HB1.out _) hb | exact bgo (bal (bal HB1.out _) _) hb | exact bgo (bdr HB1.out) hb)
  have HXc2 := Lib.hid (cfg_later (w1 := w2) HXc1.out (by first | exact hb | exact (bal brf _ : Below _ _ _).trans (hb.mono (by simp)) | exact (bal (bal brf _) _ : Below _ _ _).trans (hb.mono (by simp)) | exact (bdr brf : Below _ _ _).trans hb))
  have HXq2 := Lib.hid (at2_later (w1 := w2) HXq1.out (by first | exact hb | exact (bal brf _ : Below _ _ _).trans (hb.mono (by simp)) | exact (bal (bal brf _) _ : Below _ _ _).trans (hb.mono (by simp)) | exact (bdr brf : Below _ _ _).trans hb))
  clear hb
  obtain ⟨bc0, bc1, bc2, bc3, bc4, bc5, bc6, bc7, bc8, bc9, bcx⟩ := HXc2.out
  have zc := cell_lt bc0
  obtain ⟨bq0, bq1, fq0, fq1⟩ := HXq2.out
  have zq := cell_lt bq0
  cases b
  · go_wp2_with fail
    go_ret
    exact ⟨rfl, HB2.out⟩
  go_wp2_with fail
  refine (put_full D dn dc ch st cl qu clo lo ag wi ro se nx fr tu A n c ps E m mc _ (HQ0.out.below HB2.out) HBY.out HT.out hc hd (by omega) h5 (by omega)).mono ?_
  rintro e w3 ⟨A3, n3, c3, qs3, rfl, hm3, hq3, hb⟩
  clear bc0 bc1 bc2 bc3 bc4 bc5 bc6 bc7 bc8 bc9 bcx zc bq0 bq1 fq0 fq1 zq
  have HB3 : Hid (Below w.heap.size w w3) := Lib.hid (by first | exact bgo HB2.out hb | exact bgo (bal HB2.out _) hb | exact bgo (bal (bal HB2.out _) _) hb | exact bgo (bdr HB2.out) hb)
  have HXc3 := Lib.hid (cfg_later (w1 := w3) HXc2.out (by first | exact hb | exact (bal brf _ : Below _ _ _).trans (hb.mono (by simp)) | exact (bal (bal brf _) _ : Below _ _ _).trans (hb.mono (by simp)) | exact (bdr brf : Below _ _ _).trans hb))
  have HXq3 := Lib.hid (at2_later (w1 := w3) HXq2.out (by first | exact hb | exact (bal brf _ : Below _ _ _).trans (hb.mono (by simp)) | exact (bal (bal brf _) _ : Below _ _ _).trans (hb.mono (by simp)) | exact (bdr brf : Below _ _ _).trans hb))
  have hq3 := hq3.at_
  have hn3 : n3 = n := by rw [← hq3.len, hm3]; exact HQ0.out.len
  subst hn3
  have HM3 := Lib.hid hm3
  have HQ3 := Lib.hid hq3
  clear hm3 hq3
  clear hb
  obtain ⟨bc0, bc1, bc2, bc3, bc4, bc5, bc6, bc7, bc8, bc9, bcx⟩ := HXc3.out
  have zc := cell_lt bc0
  obtain ⟨bq0, bq1, fq0, fq1⟩ := HXq3.out
  have zq := cell_lt bq0
  go_wp2_with fail
  refine (same17_true nx A3 A n3 c3 c qs3 ps _ (HQ3.out.below (bal brf _)) (HQ0.out.below (bal HB3.out _)) HM3.out (by rw [HM3.out]; exact HT.out)).mono ?_
  rintro e w4 ⟨rfl, hb⟩
  clear bc0 bc1 bc2 bc3 bc4 bc5 bc6 bc7 bc8 bc9 bcx zc bq0 bq1 fq0 fq1 zq
  have HB4 : Hid (Below w.heap.size w w4) := Lib.hid (by first | exact bgo HB3.out hb | exact bgo (bal HB3.out _) hb | exact bgo (bal (bal HB3.out _) _) hb | exact bgo (bdr HB3.out) hb)
  have HXc4 := Lib.hid (cfg_later (w1 := w4) HXc3.out (by first | exact hb | exact (bal brf _ : Below _ _ _).trans (hb.mono (by simp)) | exact (bal (bal brf _) _ : Below _ _ _).trans (hb.mono (by simp)) | exact (bdr brf : Below _ _ _).trans hb))
  have HXq4 := Lib.hid (at2_later (w1 := w4) HXq3.out (by first | exact hb | exact (bal brf _ : Below _ _ _).trans (hb.mono (by simp)) | exact (bal (bal brf _) _ : Below _ _ _).trans (hb.mono (by simp)) | exact (bdr brf : Below _ _ _).trans hb))
  clear hb
  go_wp2_with fail
  go_ret
  exact ⟨rfl, HB4.out⟩

set_option maxHeartbeats 600000 in
theorem queueRefuses_accepts (hq : QAt w A n c ps) (hby : n * 56 ≤ 140737488351232) (ht : TxtOk (ps.map (·.1))) (hl : ¬ (300 : Int) < m) (h0 : 0 ≤ fr) (h1 : fr < cl) (h2 : 0 ≤ tu) (h3 : tu < cl) (hc : cliB cl fr = true) (hd : cliB cl tu = true) (h4 : ¬ (64 : Int) < m) (h5 : (nx == 18446744073709551615) = false) (h7 : ¬ qu ≤ (n : Int)) (h8 : 0 ≤ nx) (h9 : nx ≤ 18446744073709551614) (xs : List Int) (hE : Rd w E (nums .u8 xs)) (hm : xs.length = m) :
    Calls Try.prog 3 #[cfgV (.slice D dn dc) ch st cl qu clo lo ag wi ro se, .agg #[.int .u64 nx, .slice A n c], .int .i64 fr, .int .i64 tu, .slice E m mc] w (Yes w) := by
  have HE := Lib.hid hE
  have HM := Lib.hid hm
  clear hE hm
  have hnb : (n : Int) ≤ 100000000000000 := by omega
  have HQ0 := Lib.hid hq
  have HT := Lib.hid ht
  have HBY := Lib.hid hby
  have HXc0 := Lib.hid ((CfgAt.new w (.slice D dn dc) ch st cl qu clo lo ag wi ro se 25).alloc (.cells #[.int .u64 nx, .slice A n c] 28))
  have HXq0 := Lib.hid (At2.newH (K := w.heap.size + 1) (w.alloc (.cells #[.slice D dn dc, .int .i64 ch, .int .i64 st, .int .i64 cl, .int .i64 qu, .int .i64 clo, .int .i64 lo, .int .i64 ag, .int .i64 wi, .int .u64 ro, .int .u64 se] 25)) (.int .u64 nx) (.slice A n c) 28 (by simp))
  have HB0 := Lib.hid (brf (w := w))
  clear hq ht hby
  go_enter Try.func3, Try.ntmps3
  go_wp2_with fail
  refine (live_any _).mono ?_
  rintro e w1 ⟨rfl, hb⟩
  have HB1 : Hid (Below w.heap.size w w1) := Lib.hid (by first | exact bgo HB0.out hb | exact bgo (bal HB0.out _) hb | exact bgo (bal (bal HB0.out _) _) hb | exact bgo (bdr HB0.out) hb)
  have HXc1 := Lib.hid (cfg_later (w1 := w1) HXc0.out (by first | exact hb | exact (bal brf _ : Below _ _ _).trans (hb.mono (by simp)) | exact (bal (bal brf _) _ : Below _ _ _).trans (hb.mono (by simp)) | exact (bdr brf : Below _ _ _).trans hb))
  have HXq1 := Lib.hid (at2_later (w1 := w1) HXq0.out (by first | exact hb | exact (bal brf _ : Below _ _ _).trans (hb.mono (by simp)) | exact (bal (bal brf _) _ : Below _ _ _).trans (hb.mono (by simp)) | exact (bdr brf : Below _ _ _).trans hb))
  clear hb
  obtain ⟨bc0, bc1, bc2, bc3, bc4, bc5, bc6, bc7, bc8, bc9, bcx⟩ := HXc1.out
  have zc := cell_lt bc0
  obtain ⟨bq0, bq1, fq0, fq1⟩ := HXq1.out
  have zq := cell_lt bq0
  go_wp2_with fail
  refine (few_any nx A n c _ _ HQ0.out.1 HQ0.out.2.1 HQ0.out.2.2.1 (HQ0.out.below HB1.out).2.2.2).mono ?_
  rintro e w2 ⟨b, rfl, hb⟩
  clear bc0 bc1 bc2 bc3 bc4 bc5 bc6 bc7 bc8 bc9 bcx zc bq0 bq1 fq0 fq1 zq
  have HB2 : Hid (Below w.heap.size w w2) := Lib.hid (by first | exact bgo HB1.out hb | exact bgo (bal HB1.out _) hb | exact bgo (bal (bal HB1.out _) _) hb | exact bgo (bdr HB1.out) hb)
  have HXc2 := Lib.hid (cfg_later (w1 := w2) HXc1.out (by first | exact hb | exact (bal brf _ : Below _ _ _).trans (hb.mono (by simp)) | exact (bal (bal brf _) _ : Below _ _ _).trans (hb.mono (by simp)) | exact (bdr brf : Below _ _ _).trans hb))
  have HXq2 := Lib.hid (at2_later (w1 := w2) HXq1.out (by first | exact hb | exact (bal brf _ : Below _ _ _).trans (hb.mono (by simp)) | exact (bal (bal brf _) _ : Below _ _ _).trans (hb.mono (by simp)) | exact (bdr brf : Below _ _ _).trans hb))
  clear hb
  obtain ⟨bc0, bc1, bc2, bc3, bc4, bc5, bc6, bc7, bc8, bc9, bcx⟩ := HXc2.out
  have zc := cell_lt bc0
  obtain ⟨bq0, bq1, fq0, fq1⟩ := HXq2.out
  have zq := cell_lt bq0
  cases b
  · go_wp2_with fail
    go_ret
    exact ⟨rfl, HB2.out⟩
  go_wp2_with fail
  refine (put_accepts D dn dc ch st cl qu clo lo ag wi ro se nx fr tu A n c ps E m mc _ (HQ0.out.below HB2.out) HBY.out HT.out hc hd (by omega) h5 (by omega) h8 h9 xs (HE.out.below HB2.out) HM.out).mono ?_
  rintro e w3 ⟨A3, n3, c3, qs3, rfl, hm3, hq3, hb⟩
  clear bc0 bc1 bc2 bc3 bc4 bc5 bc6 bc7 bc8 bc9 bcx zc bq0 bq1 fq0 fq1 zq
  have HB3 : Hid (Below w.heap.size w w3) := Lib.hid (by first | exact bgo HB2.out hb | exact bgo (bal HB2.out _) hb | exact bgo (bal (bal HB2.out _) _) hb | exact bgo (bdr HB2.out) hb)
  have HXc3 := Lib.hid (cfg_later (w1 := w3) HXc2.out (by first | exact hb | exact (bal brf _ : Below _ _ _).trans (hb.mono (by simp)) | exact (bal (bal brf _) _ : Below _ _ _).trans (hb.mono (by simp)) | exact (bdr brf : Below _ _ _).trans hb))
  have HXq3 := Lib.hid (at2_later (w1 := w3) HXq2.out (by first | exact hb | exact (bal brf _ : Below _ _ _).trans (hb.mono (by simp)) | exact (bal (bal brf _) _ : Below _ _ _).trans (hb.mono (by simp)) | exact (bdr brf : Below _ _ _).trans hb))
  have hq3 := hq3.at_
  have hn3 : n3 = n + 1 := by rw [← hq3.len, hm3, List.length_append]; rw [HQ0.out.len]; rfl
  subst hn3
  clear hm3 hq3
  clear hb
  obtain ⟨bc0, bc1, bc2, bc3, bc4, bc5, bc6, bc7, bc8, bc9, bcx⟩ := HXc3.out
  have zc := cell_lt bc0
  obtain ⟨bq0, bq1, fq0, fq1⟩ := HXq3.out
  have zq := cell_lt bq0
  go_wp2_with fail
  go_ret
  exact ⟨rfl, bal HB3.out _⟩

end

theorem queueRefuses_walk (D : Option Addr) (dn dc : Nat) (ch st cl qu clo lo ag wi ro se : Int) (nx fr tu : Int) (A : Option Addr) (n c : Nat) (ps : List (Ltr × Value)) (E : Option Addr) (m mc : Nat) (w : World) (hq : QAt w A n c ps) (hby : n * 56 ≤ 140737488351232) (ht : TxtOk (ps.map (·.1))) (hn0 : 0 ≤ nx) (hn1 : nx ≤ 18446744073709551615) (xs : List Int) (hE : Rd w E (nums .u8 xs)) (hm : xs.length = m) :
    Calls Try.prog 3 #[cfgV (.slice D dn dc) ch st cl qu clo lo ag wi ro se, .agg #[.int .u64 nx, .slice A n c], .int .i64 fr, .int .i64 tu, .slice E m mc] w (Yes w) := by
  by_cases hl : (300 : Int) < m
  · exact queueRefuses_out D dn dc ch st cl qu clo lo ag wi ro se nx fr tu A n c ps E m mc w hq hby ht hl
  cases hc : cliB cl fr with
  | false =>
    rcases cli_no hc with a | ⟨a, b⟩
    · exact queueRefuses_fromA D dn dc ch st cl qu clo lo ag wi ro se nx fr tu A n c ps E m mc w hq hby ht hl a hc
    · exact queueRefuses_fromB D dn dc ch st cl qu clo lo ag wi ro se nx fr tu A n c ps E m mc w hq hby ht hl (by omega) b hc
  | true =>
    obtain ⟨a1, a2⟩ := cli_yes hc
    cases hd : cliB cl tu with
    | false =>
      rcases cli_no hd with a | ⟨a, b⟩
      · exact queueRefuses_toA D dn dc ch st cl qu clo lo ag wi ro se nx fr tu A n c ps E m mc w hq hby ht hl (by omega) (by omega) a hc hd
      · exact queueRefuses_toB D dn dc ch st cl qu clo lo ag wi ro se nx fr tu A n c ps E m mc w hq hby ht hl (by omega) (by omega) (by omega) b hc hd
    | true =>
      obtain ⟨a3, a4⟩ := cli_yes hd
      by_cases h4 : (64 : Int) < m
      · exact queueRefuses_long D dn dc ch st cl qu clo lo ag wi ro se nx fr tu A n c ps E m mc w hq hby ht hl (by omega) (by omega) (by omega) (by omega) hc hd h4
      cases h5 : (nx == 18446744073709551615) with
      | true => exact queueRefuses_halts D dn dc ch st cl qu clo lo ag wi ro se nx fr tu A n c ps E m mc w hq hby ht hl (by omega) (by omega) (by omega) (by omega) hc hd h4 h5
      | false =>
        by_cases h7 : qu ≤ (n : Int)
        · exact queueRefuses_full D dn dc ch st cl qu clo lo ag wi ro se nx fr tu A n c ps E m mc w hq hby ht hl (by omega) (by omega) (by omega) (by omega) hc hd h4 h5 h7
        · have h9 : nx ≤ 18446744073709551614 := by
            have : ¬ nx = 18446744073709551615 := by simpa using h5
            omega
          exact queueRefuses_accepts D dn dc ch st cl qu clo lo ag wi ro se nx fr tu A n c ps E m mc w hq hby ht hl (by omega) (by omega) (by omega) (by omega) hc hd h4 h5 h7 hn0 h9 xs hE hm

theorem queueRefuses_of {H : Type} {enc : TypeId × Value → H} (W : World) (base : Nat) (args : Array Value) (ds : List (DataW H)) (p : List MemPlace)
    (hval : ∀ (j : Nat) t v, Try.f3.params[j]? = some t → args[j]? = some v → Value.okWide Try.prog W .any base t v)
    (hA : DataW.TrodAll enc Try.prog W 0 (fun _ => true) true Try.f3.params.toList args.toList ds p) (hlt : ∀ x ∈ p, x.block < W.heap.size)
    (hz : (DataW.weightsEach Try.prog Try.f3.params.toList ds).all (· ≤ reachBytes) = true) : Calls Try.prog 3 args W (Yes W) := by
  rw [Try.params3] at hA hval hz
  obtain ⟨v0, vs0, d0, ds0, p0, q0, hargs, rfl, rfl, h0, r0⟩ := trodAll_cons hA
  obtain ⟨v1, vs1, d1, ds1, p1, q1, rfl, rfl, rfl, h1, r1⟩ := trodAll_cons r0
  obtain ⟨v2, vs2, d2, ds2, p2, q2, rfl, rfl, rfl, h2, r2⟩ := trodAll_cons r1
  obtain ⟨v3, vs3, d3, ds3, p3, q3, rfl, rfl, rfl, h3, r3⟩ := trodAll_cons r2
  obtain ⟨v4, vs4, d4, ds4, p4, q4, rfl, rfl, rfl, h4, r4⟩ := trodAll_cons r3
  obtain ⟨rfl, rfl, rfl⟩ := trodAll_nil r4
  obtain rfl : args = #[v0, v1, v2, v3, v4] := by cases args; simp_all
  obtain ⟨D, dn, dc, ch, st, cl, qu, clo, lo, ag, wi, ro, se, rfl⟩ := open_cfg (hval 0 _ _ rfl rfl) h0
  obtain ⟨nx, A, n, c, ps, rfl, g1, g2, hq, hby, ht⟩ := open_queue (hval 1 _ _ rfl rfl) h1 (fun m hm => of_decide_eq_true (List.all_eq_true.1 hz m (DataW.weights_mem_each (j := 1) rfl rfl m hm)))
  obtain ⟨fr, rfl, rfl, rfl, _⟩ := open_int Try.underlying3 (hval 2 _ _ rfl rfl) h2
  obtain ⟨tu, rfl, rfl, rfl, _⟩ := open_int Try.underlying3 (hval 3 _ _ rfl rfl) h3
  obtain ⟨E, m, mc, xs, rfl, hm, _, _, hE, _⟩ := open_bytesQ h4 (hval 4 _ _ rfl rfl)
  exact queueRefuses_walk D dn dc ch st cl qu clo lo ag wi ro se nx fr tu A n c ps E m mc W hq hby ht g1 g2 xs hE hm
end Go.Proofs.Ytfgkeodkakidpaa
