/- The law of what any queue does. -/
import Derived.Test.YtfgkeodkakidpaaQr
namespace Go.Proofs.Ytfgkeodkakidpaa
open Go.RowKit Go.ChangeShapes Go.WideShapes Go.ChangeAt
set_option linter.unusedSimpArgs false
set_option linter.unusedVariables false
set_option maxRecDepth 100000

/-- What stands behind the copy of the queue that is kept. -/
def WAS (w x : World) (L : Nat) (D : Option Addr) (dn dc : Nat) (ch st cl qu clo lo ag wi ro se : Int) (nx : Int) (A A5 : Option Addr) (n c c5 : Nat) (ps : List (Ltr × Value)) : Prop :=
  Below w.heap.size w x ∧ CfgAt x w.heap.size (.slice D dn dc) ch st cl qu clo lo ag wi ro se ∧ At2 x (w.heap.size + 1) (.int .u64 nx) (.slice A n c) ∧ At2 x L (.int .u64 nx) (.slice A5 n c5) ∧ QAt x A5 n c5 ps
theorem was_new {w w4 : World} {D : Option Addr} {dn dc : Nat} {ch st cl qu clo lo ag wi ro se nx : Int} {A A5 : Option Addr} {n c c5 : Nat} {ps : List (Ltr × Value)} (hb : Below w.heap.size w w4) (hc : CfgAt w4 w.heap.size (.slice D dn dc) ch st cl qu clo lo ag wi ro se) (hq : At2 w4 (w.heap.size + 1) (.int .u64 nx) (.slice A n c)) (hr : QAt w4 A5 n c5 ps) :
    WAS w (w4.alloc (.cells #[.int .u64 nx, .slice A5 n c5] 28)) w4.heap.size D dn dc ch st cl qu clo lo ag wi ro se nx A A5 n c c5 ps :=
  ⟨bal hb _, hc.alloc _, hq.alloc _, At2.new _ _ _ _, hr.below (bal brf _)⟩
theorem cfg_set2 {x : World} {K b : Nat} {u v s : Value} {ch st cl qu clo lo ag wi ro se : Int} (h : CfgAt x b s ch st cl qu clo lo ag wi ro se) (hne : K ≠ b) : CfgAt ((x.setCell ⟨K, 0, none⟩ u).setCell ⟨K, 1, none⟩ v) b s ch st cl qu clo lo ag wi ro se := cfgA_set2 h hne
theorem was_set {w w4 : World} {D : Option Addr} {dn dc K : Nat} {ch st cl qu clo lo ag wi ro se nx : Int} {A A5 : Option Addr} {n c c5 : Nat} {ps : List (Ltr × Value)} {u v : Value} (hK : w.heap.size + 1 < K) (hb : Below w.heap.size w w4) (hc : CfgAt w4 w.heap.size (.slice D dn dc) ch st cl qu clo lo ag wi ro se) (hq : At2 w4 (w.heap.size + 1) (.int .u64 nx) (.slice A n c)) (hk : At2 w4 K u v)
    (ho : w4.ownsRow (K + 1) 36 5 (.slice A5 n c5) n (flat ps)) (ht : Texts w ps) :
    WAS w ((w4.setCell ⟨K, 0, none⟩ (.int .u64 nx)).setCell ⟨K, 1, none⟩ (.slice A5 n c5)) K D dn dc ch st cl qu clo lo ag wi ro se nx A A5 n c c5 ps := by
  have hF := below_set2 (a := .int .u64 nx) (b := .slice A5 n c5) hb (show w.heap.size ≤ K by omega)
  have hl : ps.length = n := by
    have := ho.1
    rw [flat_len] at this
    omega
  refine ⟨hF, cfg_set2 hc (by omega), hq.far2 (by omega), hk.set2, hl, (own_capN ho).1, (own_capN ho).2, Rd.of_ownN (own_setCell (own_setCell ho (by show K < K + 1; omega)) (by show K < K + 1; omega)), ht.below hF⟩

set_option maxHeartbeats 600000 in
theorem queueDoes_out (D : Option Addr) (dn dc : Nat) (ch st cl qu clo lo ag wi ro se : Int) (nx fr tu : Int) (A : Option Addr) (n c : Nat) (ps : List (Ltr × Value)) (E : Option Addr) (m mc : Nat) (seq : Int) (xs : List Int) (w : World) (hq : QAt w A n c ps) (hby : n * 56 ≤ 140737488351232) (ht : TxtOk (ps.map (·.1))) (hl : (300 : Int) < m) :
    Calls Try.prog 4 #[cfgV (.slice D dn dc) ch st cl qu clo lo ag wi ro se, .agg #[.int .u64 nx, .slice A n c], .int .i64 fr, .int .i64 tu, .slice E m mc, .int .u64 seq] w (Yes w) := by
  have hnb : (n : Int) ≤ 100000000000000 := by omega
  have HQ0 := Lib.hid hq
  have HT := Lib.hid ht
  have HBY := Lib.hid hby
  have HXc0 := Lib.hid ((CfgAt.new w (.slice D dn dc) ch st cl qu clo lo ag wi ro se 25).alloc (.cells #[.int .u64 nx, .slice A n c] 28))
  have HXq0 := Lib.hid (At2.newH (K := w.heap.size + 1) (w.alloc (.cells #[.slice D dn dc, .int .i64 ch, .int .i64 st, .int .i64 cl, .int .i64 qu, .int .i64 clo, .int .i64 lo, .int .i64 ag, .int .i64 wi, .int .u64 ro, .int .u64 se] 25)) (.int .u64 nx) (.slice A n c) 28 (by simp))
  have HB0 := Lib.hid (brf (w := w))
  clear hq ht hby
  go_enter Try.func4, Try.ntmps4
  go_wp2_with fail
  refine (live_any _).mono ?_
  rintro e w1 ⟨rfl, hb⟩
  have HB1 : Hid (Below w.heap.size w w1) := Lib.hid (by first | exact bgo HB0.out hb | exact bgo (bal HB0.out _) hb | exact bgo (bal (bal HB0.out _) _) hb | exact bgo (bdr HB0.out) hb)
  have HXc1 := Lib.hid (cfg_later (w1 := w1) HXc0.out (by first | exact hb | exact (bal brf _ : Below _ _ _).trans (hb.mono (by simp)) | exact (bal (bal brf _) _ : Below _ _ _).trans (hb.mono (by simp)) | exact (bdr brf : Below _ _ _).trans hb))
  have HXq1 := Lib.hid (at2_later (w1 := w1) HXq0.out (by first | exact hb | exact (bal brf _ : Below _ _ _).trans (hb.mono (by simp)) | exact (bal (bal brf _) _ : Below _ _ _).trans (hb.mono (by simp)) | exact (bdr brf : Below _ _ _).trans hb))
  clear hb
  obtain ⟨bc0, bc1, bc2, bc3, bc4, bc5, bc6, bc7, bc8, bc9, bcx⟩ := HXc1.out
  have zc := cell_lt bc0
  obtain ⟨bq0, bq1, fq0, fq1⟩ := HXq1.out
  have zq := cell_lt bq0
  go_wp2_with fail
  refine (few_any nx A n c _ _ HQ0.out.1 HQ0.out.2.1 HQ0.out.2.2.1 (HQ0.out.below HB1.out).2.2.2).mono ?_
  rintro e w2 ⟨b, rfl, hb⟩
  clear bc0 bc1 bc2 bc3 bc4 bc5 bc6 bc7 bc8 bc9 bcx zc bq0 bq1 fq0 fq1 zq
  have HB2 : Hid (Below w.heap.size w w2) := Lib.hid (by first | exact bgo HB1.out hb | exact bgo (bal HB1.out _) hb | exact bgo (bal (bal HB1.out _) _) hb | exact bgo (bdr HB1.out) hb)
  have HXc2 := Lib.hid (cfg_later (w1 := w2) HXc1.out (by first | exact hb | exact (bal brf _ : Below _ _ _).trans (hb.mono (by simp)) | exact (bal (bal brf _) _ : Below _ _ _).trans (hb.mono (by simp)) | exact (bdr brf : Below _ _ _).trans hb))
  have HXq2 := Lib.hid (at2_later (w1 := w2) HXq1.out (by first | exact hb | exact (bal brf _ : Below _ _ _).trans (hb.mono (by simp)) | exact (bal (bal brf _) _ : Below _ _ _).trans (hb.mono (by simp)) | exact (bdr brf : Below _ _ _).trans hb))
  clear hb
  obtain ⟨bc0, bc1, bc2, bc3, bc4, bc5, bc6, bc7, bc8, bc9, bcx⟩ := HXc2.out
  have zc := cell_lt bc0
  obtain ⟨bq0, bq1, fq0, fq1⟩ := HXq2.out
  have zq := cell_lt bq0
  cases b
  · go_wp2_with fail
    go_ret
    exact ⟨rfl, HB2.out⟩
  go_wp2_with fail
  go_ret
  exact ⟨rfl, HB2.out⟩

theorem held2_set2 {x : World} {Q L : Nat} {u v u0 u1 : Value} (h : x.cell? ⟨Q, 0, none⟩ = some u ∧ x.cell? ⟨Q, 1, none⟩ = some v) (hb : L ≠ Q) :
    ((x.setCell ⟨L, 0, none⟩ u0).setCell ⟨L, 1, none⟩ u1).cell? ⟨Q, 0, none⟩ = some u ∧ ((x.setCell ⟨L, 0, none⟩ u0).setCell ⟨L, 1, none⟩ u1).cell? ⟨Q, 1, none⟩ = some v :=
  ⟨(cell_setCell_far hb).trans ((cell_setCell_far hb).trans h.1), (cell_setCell_far hb).trans ((cell_setCell_far hb).trans h.2)⟩

set_option maxHeartbeats 2000000 in
theorem queueDoes_in (D : Option Addr) (dn dc : Nat) (ch st cl qu clo lo ag wi ro se : Int) (nx fr tu : Int) (A : Option Addr) (n c : Nat) (ps : List (Ltr × Value)) (E : Option Addr) (m mc : Nat) (seq : Int) (xs : List Int) (w : World) (hq : QAt w A n c ps) (hby : n * 56 ≤ 140737488351232) (ht : TxtOk (ps.map (·.1))) (hl : ¬ (300 : Int) < m) (hE : Rd w E (nums .u8 xs)) (nx' k : Int) (ls' : List Ltr) (hput : PutBoth D dn dc ch st cl qu clo lo ag wi ro se nx fr tu A n c ps E m mc xs nx' ls' k) (hl2 : Ltr) (bh : Bool) (hhead : HeadBoth nx A n c ps hl2 bh) (lsp : List Ltr) (bp : Bool) (hpop : PopBoth nx seq A n c ps lsp bp) :
    Calls Try.prog 4 #[cfgV (.slice D dn dc) ch st cl qu clo lo ag wi ro se, .agg #[.int .u64 nx, .slice A n c], .int .i64 fr, .int .i64 tu, .slice E m mc, .int .u64 seq] w (Yes w) := by
  obtain ⟨i0, hi, hz0, hz1, hz2⟩ := info_parts infoLetter
  have hfl : (flat ps).length = n * 5 := by rw [flat_len, hq.1]
  have HFL := Lib.hid hfl
  have HONE := Lib.hid (flat_one hq.2.2.2.2)
  have HE := Lib.hid hE
  have HPUT := Lib.hid hput
  have HHEAD := Lib.hid hhead
  have HPOP := Lib.hid hpop
  clear hfl hE hput hhead hpop
  have hnb : (n : Int) ≤ 100000000000000 := by omega
  have HQ0 := Lib.hid hq
  have HT := Lib.hid ht
  have HBY := Lib.hid hby
  have HXc0 := Lib.hid ((CfgAt.new w (.slice D dn dc) ch st cl qu clo lo ag wi ro se 25).alloc (.cells #[.int .u64 nx, .slice A n c] 28))
  have HXq0 := Lib.hid (At2.newH (K := w.heap.size + 1) (w.alloc (.cells #[.slice D dn dc, .int .i64 ch, .int .i64 st, .int .i64 cl, .int .i64 qu, .int .i64 clo, .int .i64 lo, .int .i64 ag, .int .i64 wi, .int .u64 ro, .int .u64 se] 25)) (.int .u64 nx) (.slice A n c) 28 (by simp))
  have HB0 := Lib.hid (brf (w := w))
  clear hq ht hby
  go_enter Try.func4, Try.ntmps4
  go_wp2_with fail
  refine (live_any _).mono ?_
  rintro e w1 ⟨rfl, hb⟩
  have HB1 : Hid (Below w.heap.size w w1) := Lib.hid (by first | exact bgo HB0.out hb | exact bgo (bal HB0.out _) hb | exact bgo (bal (bal HB0.out _) _) hb | exact bgo (bdr HB0.out) hb)
  have HXc1 := Lib.hid (cfg_later (w1 := w1) HXc0.out (by first | exact hb | exact (bal brf _ : Below _ _ _).trans (hb.mono (by simp)) | exact (bal (bal brf _) _ : Below _ _ _).trans (hb.mono (by simp)) | exact (bdr brf : Below _ _ _).trans hb))
  have HXq1 := Lib.hid (at2_later (w1 := w1) HXq0.out (by first | exact hb | exact (bal brf _ : Below _ _ _).trans (hb.mono (by simp)) | exact (bal (bal brf _) _ : Below _ _ _).trans (hb.mono (by simp)) | exact (bdr brf : Below _ _ _).trans hb))
  clear hb
  obtain ⟨bc0, bc1, bc2, bc3, bc4, bc5, bc6, bc7, bc8, bc9, bcx⟩ := HXc1.out
  have zc := cell_lt bc0
  obtain ⟨bq0, bq1, fq0, fq1⟩ := HXq1.out
  have zq := cell_lt bq0
  go_wp2_with fail
  refine (few_any nx A n c _ _ HQ0.out.1 HQ0.out.2.1 HQ0.out.2.2.1 (HQ0.out.below HB1.out).2.2.2).mono ?_
  rintro e w2 ⟨b, rfl, hb⟩
  clear bc0 bc1 bc2 bc3 bc4 bc5 bc6 bc7 bc8 bc9 bcx zc bq0 bq1 fq0 fq1 zq
  have HB2 : Hid (Below w.heap.size w w2) := Lib.hid (by first | exact bgo HB1.out hb | exact bgo (bal HB1.out _) hb | exact bgo (bal (bal HB1.out _) _) hb | exact bgo (bdr HB1.out) hb)
  have HXc2 := Lib.hid (cfg_later (w1 := w2) HXc1.out (by first | exact hb | exact (bal brf _ : Below _ _ _).trans (hb.mono (by simp)) | exact (bal (bal brf _) _ : Below _ _ _).trans (hb.mono (by simp)) | exact (bdr brf : Below _ _ _).trans hb))
  have HXq2 := Lib.hid (at2_later (w1 := w2) HXq1.out (by first | exact hb | exact (bal brf _ : Below _ _ _).trans (hb.mono (by simp)) | exact (bal (bal brf _) _ : Below _ _ _).trans (hb.mono (by simp)) | exact (bdr brf : Below _ _ _).trans hb))
  clear hb
  obtain ⟨bc0, bc1, bc2, bc3, bc4, bc5, bc6, bc7, bc8, bc9, bcx⟩ := HXc2.out
  have zc := cell_lt bc0
  obtain ⟨bq0, bq1, fq0, fq1⟩ := HXq2.out
  have zq := cell_lt bq0
  cases b
  · go_wp2_with fail
    go_ret
    exact ⟨rfl, HB2.out⟩
  go_wp2_with fail
  have hz2l : w.heap.size + 1 < w2.heap.size := cell_lt HXq2.out.1
  have HZ2 := Lib.hid hz2l
  clear bc0 bc1 bc2 bc3 bc4 bc5 bc6 bc7 bc8 bc9 bcx zc bq0 bq1 fq0 fq1 zq
  have hS0 : w2.drew.cell? ⟨w.heap.size + 1, 0, none⟩ = some (.int .u64 nx) ∧ w2.drew.cell? ⟨w.heap.size + 1, 1, none⟩ = some (.slice A n c) := ⟨HXq2.out.1, HXq2.out.2.1⟩
  have HK0 := Lib.hid (At2.new w2 (.int .u64 0) (.slice none 0 0) 28)
  have hne1 : w2.heap.size ≠ w.heap.size + 1 := by omega
  go_region_held3 (fun x => x.cell? ⟨w.heap.size + 1, 0, none⟩ = some (.int .u64 nx) ∧ x.cell? ⟨w.heap.size + 1, 1, none⟩ = some (.slice A n c)) (first | with_reducible exact hS4 | with_reducible exact held2_alloc hS4 | with_reducible exact held2_set2 hS4 hne1 | with_reducible exact hS0 | exact held2_alloc hS0)
    (first
      | (refine step_append_sz rfl _ _ 26 (by rfl) (w2.heap.size) 36 i0 _ 5 56 Try.underlying26 hi hz0 hz1 hz2 rfl (by decide) (.slice none 0 0) 0 [] (by rfl) ⟨rfl, .inl ⟨rfl, rfl⟩⟩ A n c (flat ps) (by rfl) HFL.out (HQ0.out.2.2.2.1.below (bdr HB2.out)) HONE.out (by have := HBY.out; unfold maxLen; omega) (by have := HBY.out; omega) (by simp) ?_; intro v4 w4 hown4 hgrow4; rw [Nat.zero_add, List.nil_append] at hown4; have hb4 : Below (w2.heap.size) _ w4 := (Below.drew (Below.refl (w2.heap.size) w2)).grown hgrow4 (by simp) (fun k e => by simp [Value.ownBlock] at e); have HB4 := Lib.hid (Below.trans (HB2.out : Below w.heap.size w w2) (hb4.mono (by omega))); have HC4 := Lib.hid ((HXc2.out).below hb4 (by omega)); have HQ4 := Lib.hid ((HXq2.out).below hb4 (by omega)); have hS4 : w4.cell? ⟨w.heap.size + 1, 0, none⟩ = some (.int .u64 nx) ∧ w4.cell? ⟨w.heap.size + 1, 1, none⟩ = some (.slice A n c) := ⟨HQ4.out.1, HQ4.out.2.1⟩; obtain ⟨A5, c5, rfl⟩ := own_slice hown4; have HO4 := Lib.hid hown4; clear hown4 hgrow4 hb4)
      | (refine step_append_sz rfl _ _ 26 (by rfl) (w2.heap.size + 1) 36 i0 _ 5 56 Try.underlying26 hi hz0 hz1 hz2 rfl (by decide) (.slice none 0 0) 0 [] (by rfl) ⟨rfl, .inl ⟨rfl, rfl⟩⟩ A n c (flat ps) (by rfl) HFL.out (HQ0.out.2.2.2.1.below (bdr (bal HB2.out _))) HONE.out (by have := HBY.out; unfold maxLen; omega) (by have := HBY.out; omega) (by simp) ?_; intro v4 w4 hown4 hgrow4; rw [Nat.zero_add, List.nil_append] at hown4; have hb4 : Below (w2.heap.size + 1) _ w4 := (Below.drew (Below.refl (w2.heap.size + 1) (w2.alloc (.cells #[.int .u64 0, .slice none 0 0] 28)))).grown hgrow4 (by simp) (fun k e => by simp [Value.ownBlock] at e); have HB4 := Lib.hid (Below.trans ((bal HB2.out _) : Below w.heap.size w (w2.alloc (.cells #[.int .u64 0, .slice none 0 0] 28))) (hb4.mono (by omega))); have HC4 := Lib.hid ((HXc2.out.alloc _).below hb4 (by omega)); have HQ4 := Lib.hid ((HXq2.out.alloc _).below hb4 (by omega)); have hS4 : w4.cell? ⟨w.heap.size + 1, 0, none⟩ = some (.int .u64 nx) ∧ w4.cell? ⟨w.heap.size + 1, 1, none⟩ = some (.slice A n c) := ⟨HQ4.out.1, HQ4.out.2.1⟩; obtain ⟨A5, c5, rfl⟩ := own_slice hown4; have HO4 := Lib.hid hown4; have HK4 := Lib.hid (HK0.out.below hb4 (by omega)); obtain ⟨k40, k41, k42, k43⟩ := HK4.out; clear hown4 hgrow4 hb4))
  · have hstart : True := trivial
    have hW : WAS w (w4.alloc (.cells #[.int .u64 nx, .slice A5 n c5] 28)) w4.heap.size D dn dc ch st cl qu clo lo ag wi ro se nx A A5 n c c5 ps := was_new HB4.out HC4.out HQ4.out ⟨HQ0.out.1, (own_capN HO4.out).1, (own_capN HO4.out).2, Rd.of_ownN HO4.out, HQ0.out.2.2.2.2.below HB4.out⟩
    have HW := Lib.hid hW
    clear hW hS4 HC4 HQ4 HB4 HO4 hS0 HK0 hne1
    obtain ⟨X, hX⟩ : ∃ X, X = (w4.alloc (.cells #[.int .u64 nx, .slice A5 n c5] 28)) := ⟨_, rfl⟩
    obtain ⟨L, hL⟩ : ∃ L, L = w4.heap.size := ⟨_, rfl⟩
    rw [← hX] at HW ⊢
    rw [← hL] at HW ⊢
    clear hX hL
    have HB2 := Lib.hid HW.out.1
    have HXc2 := Lib.hid HW.out.2.1
    have HXq2 := Lib.hid HW.out.2.2.1
    have HXs2 := Lib.hid HW.out.2.2.2.1
    have HQS2 := Lib.hid HW.out.2.2.2.2
    clear HW
    obtain ⟨bc0, bc1, bc2, bc3, bc4, bc5, bc6, bc7, bc8, bc9, bcx⟩ := HXc2.out
    have zc := cell_lt bc0
    obtain ⟨bq0, bq1, fq0, fq1⟩ := HXq2.out
    have zq := cell_lt bq0
    go_wp2_with fail
    refine (HPUT.out.1 _ (HQ0.out.below HB2.out) (HE.out.below HB2.out)).mono ?_
    rintro e w3 ⟨A6, n6, c6, qs6, rfl, hm6, hq6, hb⟩
    clear bc0 bc1 bc2 bc3 bc4 bc5 bc6 bc7 bc8 bc9 bcx zc bq0 bq1 fq0 fq1 zq
    have HB3 : Hid (Below w.heap.size w w3) := Lib.hid (by first | exact bgo HB2.out hb | exact bgo (bal HB2.out _) hb | exact bgo (bal (bal HB2.out _) _) hb | exact bgo (bdr HB2.out) hb)
    have HXc3 := Lib.hid (cfg_later (w1 := w3) HXc2.out (by first | exact hb | exact (bal brf _ : Below _ _ _).trans (hb.mono (by simp)) | exact (bal (bal brf _) _ : Below _ _ _).trans (hb.mono (by simp)) | exact (bdr brf : Below _ _ _).trans hb))
    have HXq3 := Lib.hid (at2_later (w1 := w3) HXq2.out (by first | exact hb | exact (bal brf _ : Below _ _ _).trans (hb.mono (by simp)) | exact (bal (bal brf _) _ : Below _ _ _).trans (hb.mono (by simp)) | exact (bdr brf : Below _ _ _).trans hb))
    have HXs3 := Lib.hid (at2_later (w1 := w3) HXs2.out (by first | exact hb | exact (bal brf _ : Below _ _ _).trans (hb.mono (by simp)) | exact (bal (bal brf _) _ : Below _ _ _).trans (hb.mono (by simp)) | exact (bdr brf : Below _ _ _).trans hb))
    have HM6 := Lib.hid hm6
    have HQ6 := Lib.hid hq6
    clear hm6 hq6
    have HQS2 := Lib.hid (HQS2.out.below (by first | exact hb | exact (bal brf _ : Below _ _ _).trans (hb.mono (by simp)) | exact (bal (bal brf _) _ : Below _ _ _).trans (hb.mono (by simp))))
    have HXa3 := Lib.hid (At2.new w3 (.int .u64 nx') (.slice A6 n6 c6) 28)
    clear hb
    obtain ⟨bc0, bc1, bc2, bc3, bc4, bc5, bc6, bc7, bc8, bc9, bcx⟩ := HXc3.out
    have zc := cell_lt bc0
    obtain ⟨bq0, bq1, fq0, fq1⟩ := HXq3.out
    have zq := cell_lt bq0
    go_wp2_with fail
    refine (HPUT.out.2.1 _ (HQ0.out.below (bal HB3.out _)) (HE.out.below (bal HB3.out _))).mono ?_
    rintro e w4 ⟨A7, n7, c7, qs7, rfl, hm7, hq7, hb⟩
    clear bc0 bc1 bc2 bc3 bc4 bc5 bc6 bc7 bc8 bc9 bcx zc bq0 bq1 fq0 fq1 zq
    have HB4 : Hid (Below w.heap.size w w4) := Lib.hid (by first | exact bgo HB3.out hb | exact bgo (bal HB3.out _) hb | exact bgo (bal (bal HB3.out _) _) hb | exact bgo (bdr HB3.out) hb)
    have HXc4 := Lib.hid (cfg_later (w1 := w4) HXc3.out (by first | exact hb | exact (bal brf _ : Below _ _ _).trans (hb.mono (by simp)) | exact (bal (bal brf _) _ : Below _ _ _).trans (hb.mono (by simp)) | exact (bdr brf : Below _ _ _).trans hb))
    have HXq4 := Lib.hid (at2_later (w1 := w4) HXq3.out (by first | exact hb | exact (bal brf _ : Below _ _ _).trans (hb.mono (by simp)) | exact (bal (bal brf _) _ : Below _ _ _).trans (hb.mono (by simp)) | exact (bdr brf : Below _ _ _).trans hb))
    have HXs4 := Lib.hid (at2_later (w1 := w4) HXs3.out (by first | exact hb | exact (bal brf _ : Below _ _ _).trans (hb.mono (by simp)) | exact (bal (bal brf _) _ : Below _ _ _).trans (hb.mono (by simp)) | exact (bdr brf : Below _ _ _).trans hb))
    have HXa4 := Lib.hid (at2_later (w1 := w4) HXa3.out (by first | exact hb | exact (bal brf _ : Below _ _ _).trans (hb.mono (by simp)) | exact (bal (bal brf _) _ : Below _ _ _).trans (hb.mono (by simp)) | exact (bdr brf : Below _ _ _).trans hb))
    have HM7 := Lib.hid hm7
    have HQ7 := Lib.hid hq7
    have hn7 : n7 = n6 := by rw [← HQ7.out.len, ← HQ6.out.len, HM7.out, HM6.out]
    subst hn7
    clear hm7 hq7
    have HQS2 := Lib.hid (HQS2.out.below (by first | exact hb | exact (bal brf _ : Below _ _ _).trans (hb.mono (by simp)) | exact (bal (bal brf _) _ : Below _ _ _).trans (hb.mono (by simp))))
    have HQ6 := Lib.hid (HQ6.out.below (by first | exact hb | exact (bal brf _ : Below _ _ _).trans (hb.mono (by simp)) | exact (bal (bal brf _) _ : Below _ _ _).trans (hb.mono (by simp))))
    have HXb4 := Lib.hid (At2.new w4 (.int .u64 nx') (.slice A7 n7 c7) 28)
    clear hb
    obtain ⟨bc0, bc1, bc2, bc3, bc4, bc5, bc6, bc7, bc8, bc9, bcx⟩ := HXc4.out
    have zc := cell_lt bc0
    obtain ⟨bq0, bq1, fq0, fq1⟩ := HXq4.out
    have zq := cell_lt bq0
    go_wp2_with fail
    refine (HHEAD.out.1 _ (HQ0.out.below (bal HB4.out _))).mono ?_
    rintro e w5 ⟨A8, c8, rfl, h8, hb⟩
    clear bc0 bc1 bc2 bc3 bc4 bc5 bc6 bc7 bc8 bc9 bcx zc bq0 bq1 fq0 fq1 zq
    have HB5 : Hid (Below w.heap.size w w5) := Lib.hid (by first | exact bgo HB4.out hb | exact bgo (bal HB4.out _) hb | exact bgo (bal (bal HB4.out _) _) hb | exact bgo (bdr HB4.out) hb)
    have HXc5 := Lib.hid (cfg_later (w1 := w5) HXc4.out (by first | exact hb | exact (bal brf _ : Below _ _ _).trans (hb.mono (by simp)) | exact (bal (bal brf _) _ : Below _ _ _).trans (hb.mono (by simp)) | exact (bdr brf : Below _ _ _).trans hb))
    have HXq5 := Lib.hid (at2_later (w1 := w5) HXq4.out (by first | exact hb | exact (bal brf _ : Below _ _ _).trans (hb.mono (by simp)) | exact (bal (bal brf _) _ : Below _ _ _).trans (hb.mono (by simp)) | exact (bdr brf : Below _ _ _).trans hb))
    have HXs5 := Lib.hid (at2_later (w1 := w5) HXs4.out (by first | exact hb | exact (bal brf _ : Below _ _ _).trans (hb.mono (by simp)) | exact (bal (bal brf _) _ : Below _ _ _).trans (hb.mono (by simp)) | exact (bdr brf : Below _ _ _).trans hb))
    have HXa5 := Lib.hid (at2_later (w1 := w5) HXa4.out (by first | exact hb | exact (bal brf _ : Below _ _ _).trans (hb.mono (by simp)) | exact (bal (bal brf _) _ : Below _ _ _).trans (hb.mono (by simp)) | exact (bdr brf : Below _ _ _).trans hb))
    have HXb5 := Lib.hid (at2_later (w1 := w5) HXb4.out (by first | exact hb | exact (bal brf _ : Below _ _ _).trans (hb.mono (by simp)) | exact (bal (bal brf _) _ : Below _ _ _).trans (hb.mono (by simp)) | exact (bdr brf : Below _ _ _).trans hb))
    have HR8 := Lib.hid h8
    clear h8
    have HQS2 := Lib.hid (HQS2.out.below (by first | exact hb | exact (bal brf _ : Below _ _ _).trans (hb.mono (by simp)) | exact (bal (bal brf _) _ : Below _ _ _).trans (hb.mono (by simp))))
    have HQ6 := Lib.hid (HQ6.out.below (by first | exact hb | exact (bal brf _ : Below _ _ _).trans (hb.mono (by simp)) | exact (bal (bal brf _) _ : Below _ _ _).trans (hb.mono (by simp))))
    have HQ7 := Lib.hid (HQ7.out.below (by first | exact hb | exact (bal brf _ : Below _ _ _).trans (hb.mono (by simp)) | exact (bal (bal brf _) _ : Below _ _ _).trans (hb.mono (by simp))))
    have HXx5 := Lib.hid (At5.new w5 (.bool hl2.1) (.int .i64 hl2.2.1) (.int .i64 hl2.2.2.1) (.int .u64 hl2.2.2.2.1) (.slice A8 (txt hl2).length c8) 36)
    clear hb
    obtain ⟨bq0, bq1, fq0, fq1⟩ := HXq5.out
    have zq := cell_lt bq0
    go_wp2_with fail
    refine (HHEAD.out.2.1 _ (HQ0.out.below (bal HB5.out _))).mono ?_
    rintro e w6 ⟨A9, c9, rfl, h9, hb⟩
    clear bq0 bq1 fq0 fq1 zq
    have HB6 : Hid (Below w.heap.size w w6) := Lib.hid (by first | exact bgo HB5.out hb | exact bgo (bal HB5.out _) hb | exact bgo (bal (bal HB5.out _) _) hb | exact bgo (bdr HB5.out) hb)
    have HXc6 := Lib.hid (cfg_later (w1 := w6) HXc5.out (by first | exact hb | exact (bal brf _ : Below _ _ _).trans (hb.mono (by simp)) | exact (bal (bal brf _) _ : Below _ _ _).trans (hb.mono (by simp)) | exact (bdr brf : Below _ _ _).trans hb))
    have HXq6 := Lib.hid (at2_later (w1 := w6) HXq5.out (by first | exact hb | exact (bal brf _ : Below _ _ _).trans (hb.mono (by simp)) | exact (bal (bal brf _) _ : Below _ _ _).trans (hb.mono (by simp)) | exact (bdr brf : Below _ _ _).trans hb))
    have HXs6 := Lib.hid (at2_later (w1 := w6) HXs5.out (by first | exact hb | exact (bal brf _ : Below _ _ _).trans (hb.mono (by simp)) | exact (bal (bal brf _) _ : Below _ _ _).trans (hb.mono (by simp)) | exact (bdr brf : Below _ _ _).trans hb))
    have HXa6 := Lib.hid (at2_later (w1 := w6) HXa5.out (by first | exact hb | exact (bal brf _ : Below _ _ _).trans (hb.mono (by simp)) | exact (bal (bal brf _) _ : Below _ _ _).trans (hb.mono (by simp)) | exact (bdr brf : Below _ _ _).trans hb))
    have HXb6 := Lib.hid (at2_later (w1 := w6) HXb5.out (by first | exact hb | exact (bal brf _ : Below _ _ _).trans (hb.mono (by simp)) | exact (bal (bal brf _) _ : Below _ _ _).trans (hb.mono (by simp)) | exact (bdr brf : Below _ _ _).trans hb))
    have HXx6 := Lib.hid (at5_later (w1 := w6) HXx5.out (by first | exact hb | exact (bal brf _ : Below _ _ _).trans (hb.mono (by simp)) | exact (bal (bal brf _) _ : Below _ _ _).trans (hb.mono (by simp)) | exact (bdr brf : Below _ _ _).trans hb))
    have HR9 := Lib.hid h9
    clear h9
    have HQS2 := Lib.hid (HQS2.out.below (by first | exact hb | exact (bal brf _ : Below _ _ _).trans (hb.mono (by simp)) | exact (bal (bal brf _) _ : Below _ _ _).trans (hb.mono (by simp))))
    have HQ6 := Lib.hid (HQ6.out.below (by first | exact hb | exact (bal brf _ : Below _ _ _).trans (hb.mono (by simp)) | exact (bal (bal brf _) _ : Below _ _ _).trans (hb.mono (by simp))))
    have HQ7 := Lib.hid (HQ7.out.below (by first | exact hb | exact (bal brf _ : Below _ _ _).trans (hb.mono (by simp)) | exact (bal (bal brf _) _ : Below _ _ _).trans (hb.mono (by simp))))
    have HR8 := Lib.hid (HR8.out.below (by first | exact hb | exact (bal brf _ : Below _ _ _).trans (hb.mono (by simp)) | exact (bal (bal brf _) _ : Below _ _ _).trans (hb.mono (by simp))))
    have HXy6 := Lib.hid (At5.new w6 (.bool hl2.1) (.int .i64 hl2.2.1) (.int .i64 hl2.2.2.1) (.int .u64 hl2.2.2.2.1) (.slice A9 (txt hl2).length c9) 36)
    clear hb
    obtain ⟨bq0, bq1, fq0, fq1⟩ := HXq6.out
    have zq := cell_lt bq0
    go_wp2_with fail
    refine (HPOP.out.1 _ (HQ0.out.below (bal HB6.out _))).mono ?_
    rintro e w7 ⟨A10, n10, c10, qs10, rfl, hm10, hq10, hb⟩
    clear bq0 bq1 fq0 fq1 zq
    have HB7 : Hid (Below w.heap.size w w7) := Lib.hid (by first | exact bgo HB6.out hb | exact bgo (bal HB6.out _) hb | exact bgo (bal (bal HB6.out _) _) hb | exact bgo (bdr HB6.out) hb)
    have HXc7 := Lib.hid (cfg_later (w1 := w7) HXc6.out (by first | exact hb | exact (bal brf _ : Below _ _ _).trans (hb.mono (by simp)) | exact (bal (bal brf _) _ : Below _ _ _).trans (hb.mono (by simp)) | exact (bdr brf : Below _ _ _).trans hb))
    have HXq7 := Lib.hid (at2_later (w1 := w7) HXq6.out (by first | exact hb | exact (bal brf _ : Below _ _ _).trans (hb.mono (by simp)) | exact (bal (bal brf _) _ : Below _ _ _).trans (hb.mono (by simp)) | exact (bdr brf : Below _ _ _).trans hb))
    have HXs7 := Lib.hid (at2_later (w1 := w7) HXs6.out (by first | exact hb | exact (bal brf _ : Below _ _ _).trans (hb.mono (by simp)) | exact (bal (bal brf _) _ : Below _ _ _).trans (hb.mono (by simp)) | exact (bdr brf : Below _ _ _).trans hb))
    have HXa7 := Lib.hid (at2_later (w1 := w7) HXa6.out (by first | exact hb | exact (bal brf _ : Below _ _ _).trans (hb.mono (by simp)) | exact (bal (bal brf _) _ : Below _ _ _).trans (hb.mono (by simp)) | exact (bdr brf : Below _ _ _).trans hb))
    have HXb7 := Lib.hid (at2_later (w1 := w7) HXb6.out (by first | exact hb | exact (bal brf _ : Below _ _ _).trans (hb.mono (by simp)) | exact (bal (bal brf _) _ : Below _ _ _).trans (hb.mono (by simp)) | exact (bdr brf : Below _ _ _).trans hb))
    have HXx7 := Lib.hid (at5_later (w1 := w7) HXx6.out (by first | exact hb | exact (bal brf _ : Below _ _ _).trans (hb.mono (by simp)) | exact (bal (bal brf _) _ : Below _ _ _).trans (hb.mono (by simp)) | exact (bdr brf : Below _ _ _).trans hb))
    have HXy7 := Lib.hid (at5_later (w1 := w7) HXy6.out (by first | exact hb | exact (bal brf _ : Below _ _ _).trans (hb.mono (by simp)) | exact (bal (bal brf _) _ : Below _ _ _).trans (hb.mono (by simp)) | exact (bdr brf : Below _ _ _).trans hb))
    have HM10 := Lib.hid hm10
    have HQ10 := Lib.hid hq10
    clear hm10 hq10
    have HQS2 := Lib.hid (HQS2.out.below (by first | exact hb | exact (bal brf _ : Below _ _ _).trans (hb.mono (by simp)) | exact (bal (bal brf _) _ : Below _ _ _).trans (hb.mono (by simp))))
    have HQ6 := Lib.hid (HQ6.out.below (by first | exact hb | exact (bal brf _ : Below _ _ _).trans (hb.mono (by simp)) | exact (bal (bal brf _) _ : Below _ _ _).trans (hb.mono (by simp))))
    have HQ7 := Lib.hid (HQ7.out.below (by first | exact hb | exact (bal brf _ : Below _ _ _).trans (hb.mono (by simp)) | exact (bal (bal brf _) _ : Below _ _ _).trans (hb.mono (by simp))))
    have HR8 := Lib.hid (HR8.out.below (by first | exact hb | exact (bal brf _ : Below _ _ _).trans (hb.mono (by simp)) | exact (bal (bal brf _) _ : Below _ _ _).trans (hb.mono (by simp))))
    have HR9 := Lib.hid (HR9.out.below (by first | exact hb | exact (bal brf _ : Below _ _ _).trans (hb.mono (by simp)) | exact (bal (bal brf _) _ : Below _ _ _).trans (hb.mono (by simp))))
    have HXd7 := Lib.hid (At2.new w7 (.int .u64 nx) (.slice A10 n10 c10) 28)
    clear hb
    obtain ⟨bq0, bq1, fq0, fq1⟩ := HXq7.out
    have zq := cell_lt bq0
    go_wp2_with fail
    refine (HPOP.out.2.1 _ (HQ0.out.below (bal HB7.out _))).mono ?_
    rintro e w8 ⟨A11, n11, c11, qs11, rfl, hm11, hq11, hb⟩
    clear bq0 bq1 fq0 fq1 zq
    have HB8 : Hid (Below w.heap.size w w8) := Lib.hid (by first | exact bgo HB7.out hb | exact bgo (bal HB7.out _) hb | exact bgo (bal (bal HB7.out _) _) hb | exact bgo (bdr HB7.out) hb)
    have HXc8 := Lib.hid (cfg_later (w1 := w8) HXc7.out (by first | exact hb | exact (bal brf _ : Below _ _ _).trans (hb.mono (by simp)) | exact (bal (bal brf _) _ : Below _ _ _).trans (hb.mono (by simp)) | exact (bdr brf : Below _ _ _).trans hb))
    have HXq8 := Lib.hid (at2_later (w1 := w8) HXq7.out (by first | exact hb | exact (bal brf _ : Below _ _ _).trans (hb.mono (by simp)) | exact (bal (bal brf _) _ : Below _ _ _).trans (hb.mono (by simp)) | exact (bdr brf : Below _ _ _).trans hb))
    have HXs8 := Lib.hid (at2_later (w1 := w8) HXs7.out (by first | exact hb | exact (bal brf _ : Below _ _ _).trans (hb.mono (by simp)) | exact (bal (bal brf _) _ : Below _ _ _).trans (hb.mono (by simp)) | exact (bdr brf : Below _ _ _).trans hb))
    have HXa8 := Lib.hid (at2_later (w1 := w8) HXa7.out (by first | exact hb | exact (bal brf _ : Below _ _ _).trans (hb.mono (by simp)) | exact (bal (bal brf _) _ : Below _ _ _).trans (hb.mono (by simp)) | exact (bdr brf : Below _ _ _).trans hb))
    have HXb8 := Lib.hid (at2_later (w1 := w8) HXb7.out (by first | exact hb | exact (bal brf _ : Below _ _ _).trans (hb.mono (by simp)) | exact (bal (bal brf _) _ : Below _ _ _).trans (hb.mono (by simp)) | exact (bdr brf : Below _ _ _).trans hb))
    have HXx8 := Lib.hid (at5_later (w1 := w8) HXx7.out (by first | exact hb | exact (bal brf _ : Below _ _ _).trans (hb.mono (by simp)) | exact (bal (bal brf _) _ : Below _ _ _).trans (hb.mono (by simp)) | exact (bdr brf : Below _ _ _).trans hb))
    have HXy8 := Lib.hid (at5_later (w1 := w8) HXy7.out (by first | exact hb | exact (bal brf _ : Below _ _ _).trans (hb.mono (by simp)) | exact (bal (bal brf _) _ : Below _ _ _).trans (hb.mono (by simp)) | exact (bdr brf : Below _ _ _).trans hb))
    have HXd8 := Lib.hid (at2_later (w1 := w8) HXd7.out (by first | exact hb | exact (bal brf _ : Below _ _ _).trans (hb.mono (by simp)) | exact (bal (bal brf _) _ : Below _ _ _).trans (hb.mono (by simp)) | exact (bdr brf : Below _ _ _).trans hb))
    have HM11 := Lib.hid hm11
    have HQ11 := Lib.hid hq11
    have hn11 : n11 = n10 := by rw [← HQ11.out.len, ← HQ10.out.len, HM11.out, HM10.out]
    subst hn11
    clear hm11 hq11
    have HQS2 := Lib.hid (HQS2.out.below (by first | exact hb | exact (bal brf _ : Below _ _ _).trans (hb.mono (by simp)) | exact (bal (bal brf _) _ : Below _ _ _).trans (hb.mono (by simp))))
    have HQ6 := Lib.hid (HQ6.out.below (by first | exact hb | exact (bal brf _ : Below _ _ _).trans (hb.mono (by simp)) | exact (bal (bal brf _) _ : Below _ _ _).trans (hb.mono (by simp))))
    have HQ7 := Lib.hid (HQ7.out.below (by first | exact hb | exact (bal brf _ : Below _ _ _).trans (hb.mono (by simp)) | exact (bal (bal brf _) _ : Below _ _ _).trans (hb.mono (by simp))))
    have HR8 := Lib.hid (HR8.out.below (by first | exact hb | exact (bal brf _ : Below _ _ _).trans (hb.mono (by simp)) | exact (bal (bal brf _) _ : Below _ _ _).trans (hb.mono (by simp))))
    have HR9 := Lib.hid (HR9.out.below (by first | exact hb | exact (bal brf _ : Below _ _ _).trans (hb.mono (by simp)) | exact (bal (bal brf _) _ : Below _ _ _).trans (hb.mono (by simp))))
    have HQ10 := Lib.hid (HQ10.out.below (by first | exact hb | exact (bal brf _ : Below _ _ _).trans (hb.mono (by simp)) | exact (bal (bal brf _) _ : Below _ _ _).trans (hb.mono (by simp))))
    have HXe8 := Lib.hid (At2.new w8 (.int .u64 nx) (.slice A11 n11 c11) 28)
    clear hb
    go_wp2_with fail
    refine (new_any seq _).mono ?_
    rintro e w9 ⟨rfl, hb⟩
    have HB9 : Hid (Below w.heap.size w w9) := Lib.hid (by first | exact bgo HB8.out hb | exact bgo (bal HB8.out _) hb | exact bgo (bal (bal HB8.out _) _) hb | exact bgo (bdr HB8.out) hb)
    have HXc9 := Lib.hid (cfg_later (w1 := w9) HXc8.out (by first | exact hb | exact (bal brf _ : Below _ _ _).trans (hb.mono (by simp)) | exact (bal (bal brf _) _ : Below _ _ _).trans (hb.mono (by simp)) | exact (bdr brf : Below _ _ _).trans hb))
    have HXq9 := Lib.hid (at2_later (w1 := w9) HXq8.out (by first | exact hb | exact (bal brf _ : Below _ _ _).trans (hb.mono (by simp)) | exact (bal (bal brf _) _ : Below _ _ _).trans (hb.mono (by simp)) | exact (bdr brf : Below _ _ _).trans hb))
    have HXs9 := Lib.hid (at2_later (w1 := w9) HXs8.out (by first | exact hb | exact (bal brf _ : Below _ _ _).trans (hb.mono (by simp)) | exact (bal (bal brf _) _ : Below _ _ _).trans (hb.mono (by simp)) | exact (bdr brf : Below _ _ _).trans hb))
    have HXa9 := Lib.hid (at2_later (w1 := w9) HXa8.out (by first | exact hb | exact (bal brf _ : Below _ _ _).trans (hb.mono (by simp)) | exact (bal (bal brf _) _ : Below _ _ _).trans (hb.mono (by simp)) | exact (bdr brf : Below _ _ _).trans hb))
    have HXb9 := Lib.hid (at2_later (w1 := w9) HXb8.out (by first | exact hb | exact (bal brf _ : Below _ _ _).trans (hb.mono (by simp)) | exact (bal (bal brf _) _ : Below _ _ _).trans (hb.mono (by simp)) | exact (bdr brf : Below _ _ _).trans hb))
    have HXx9 := Lib.hid (at5_later (w1 := w9) HXx8.out (by first | exact hb | exact (bal brf _ : Below _ _ _).trans (hb.mono (by simp)) | exact (bal (bal brf _) _ : Below _ _ _).trans (hb.mono (by simp)) | exact (bdr brf : Below _ _ _).trans hb))
    have HXy9 := Lib.hid (at5_later (w1 := w9) HXy8.out (by first | exact hb | exact (bal brf _ : Below _ _ _).trans (hb.mono (by simp)) | exact (bal (bal brf _) _ : Below _ _ _).trans (hb.mono (by simp)) | exact (bdr brf : Below _ _ _).trans hb))
    have HXd9 := Lib.hid (at2_later (w1 := w9) HXd8.out (by first | exact hb | exact (bal brf _ : Below _ _ _).trans (hb.mono (by simp)) | exact (bal (bal brf _) _ : Below _ _ _).trans (hb.mono (by simp)) | exact (bdr brf : Below _ _ _).trans hb))
    have HXe9 := Lib.hid (at2_later (w1 := w9) HXe8.out (by first | exact hb | exact (bal brf _ : Below _ _ _).trans (hb.mono (by simp)) | exact (bal (bal brf _) _ : Below _ _ _).trans (hb.mono (by simp)) | exact (bdr brf : Below _ _ _).trans hb))
    have HQS2 := Lib.hid (HQS2.out.below (by first | exact hb | exact (bal brf _ : Below _ _ _).trans (hb.mono (by simp)) | exact (bal (bal brf _) _ : Below _ _ _).trans (hb.mono (by simp))))
    have HQ6 := Lib.hid (HQ6.out.below (by first | exact hb | exact (bal brf _ : Below _ _ _).trans (hb.mono (by simp)) | exact (bal (bal brf _) _ : Below _ _ _).trans (hb.mono (by simp))))
    have HQ7 := Lib.hid (HQ7.out.below (by first | exact hb | exact (bal brf _ : Below _ _ _).trans (hb.mono (by simp)) | exact (bal (bal brf _) _ : Below _ _ _).trans (hb.mono (by simp))))
    have HR8 := Lib.hid (HR8.out.below (by first | exact hb | exact (bal brf _ : Below _ _ _).trans (hb.mono (by simp)) | exact (bal (bal brf _) _ : Below _ _ _).trans (hb.mono (by simp))))
    have HR9 := Lib.hid (HR9.out.below (by first | exact hb | exact (bal brf _ : Below _ _ _).trans (hb.mono (by simp)) | exact (bal (bal brf _) _ : Below _ _ _).trans (hb.mono (by simp))))
    have HQ10 := Lib.hid (HQ10.out.below (by first | exact hb | exact (bal brf _ : Below _ _ _).trans (hb.mono (by simp)) | exact (bal (bal brf _) _ : Below _ _ _).trans (hb.mono (by simp))))
    have HQ11 := Lib.hid (HQ11.out.below (by first | exact hb | exact (bal brf _ : Below _ _ _).trans (hb.mono (by simp)) | exact (bal (bal brf _) _ : Below _ _ _).trans (hb.mono (by simp))))
    clear hb
    go_wp2_with fail
    refine (rnew_any seq _).mono ?_
    rintro e w10 ⟨rfl, hb⟩
    have HB10 : Hid (Below w.heap.size w w10) := Lib.hid (by first | exact bgo HB9.out hb | exact bgo (bal HB9.out _) hb | exact bgo (bal (bal HB9.out _) _) hb | exact bgo (bdr HB9.out) hb)
    have HXc10 := Lib.hid (cfg_later (w1 := w10) HXc9.out (by first | exact hb | exact (bal brf _ : Below _ _ _).trans (hb.mono (by simp)) | exact (bal (bal brf _) _ : Below _ _ _).trans (hb.mono (by simp)) | exact (bdr brf : Below _ _ _).trans hb))
    have HXq10 := Lib.hid (at2_later (w1 := w10) HXq9.out (by first | exact hb | exact (bal brf _ : Below _ _ _).trans (hb.mono (by simp)) | exact (bal (bal brf _) _ : Below _ _ _).trans (hb.mono (by simp)) | exact (bdr brf : Below _ _ _).trans hb))
    have HXs10 := Lib.hid (at2_later (w1 := w10) HXs9.out (by first | exact hb | exact (bal brf _ : Below _ _ _).trans (hb.mono (by simp)) | exact (bal (bal brf _) _ : Below _ _ _).trans (hb.mono (by simp)) | exact (bdr brf : Below _ _ _).trans hb))
    have HXa10 := Lib.hid (at2_later (w1 := w10) HXa9.out (by first | exact hb | exact (bal brf _ : Below _ _ _).trans (hb.mono (by simp)) | exact (bal (bal brf _) _ : Below _ _ _).trans (hb.mono (by simp)) | exact (bdr brf : Below _ _ _).trans hb))
    have HXb10 := Lib.hid (at2_later (w1 := w10) HXb9.out (by first | exact hb | exact (bal brf _ : Below _ _ _).trans (hb.mono (by simp)) | exact (bal (bal brf _) _ : Below _ _ _).trans (hb.mono (by simp)) | exact (bdr brf : Below _ _ _).trans hb))
    have HXx10 := Lib.hid (at5_later (w1 := w10) HXx9.out (by first | exact hb | exact (bal brf _ : Below _ _ _).trans (hb.mono (by simp)) | exact (bal (bal brf _) _ : Below _ _ _).trans (hb.mono (by simp)) | exact (bdr brf : Below _ _ _).trans hb))
    have HXy10 := Lib.hid (at5_later (w1 := w10) HXy9.out (by first | exact hb | exact (bal brf _ : Below _ _ _).trans (hb.mono (by simp)) | exact (bal (bal brf _) _ : Below _ _ _).trans (hb.mono (by simp)) | exact (bdr brf : Below _ _ _).trans hb))
    have HXd10 := Lib.hid (at2_later (w1 := w10) HXd9.out (by first | exact hb | exact (bal brf _ : Below _ _ _).trans (hb.mono (by simp)) | exact (bal (bal brf _) _ : Below _ _ _).trans (hb.mono (by simp)) | exact (bdr brf : Below _ _ _).trans hb))
    have HXe10 := Lib.hid (at2_later (w1 := w10) HXe9.out (by first | exact hb | exact (bal brf _ : Below _ _ _).trans (hb.mono (by simp)) | exact (bal (bal brf _) _ : Below _ _ _).trans (hb.mono (by simp)) | exact (bdr brf : Below _ _ _).trans hb))
    have HQS2 := Lib.hid (HQS2.out.below (by first | exact hb | exact (bal brf _ : Below _ _ _).trans (hb.mono (by simp)) | exact (bal (bal brf _) _ : Below _ _ _).trans (hb.mono (by simp))))
    have HQ6 := Lib.hid (HQ6.out.below (by first | exact hb | exact (bal brf _ : Below _ _ _).trans (hb.mono (by simp)) | exact (bal (bal brf _) _ : Below _ _ _).trans (hb.mono (by simp))))
    have HQ7 := Lib.hid (HQ7.out.below (by first | exact hb | exact (bal brf _ : Below _ _ _).trans (hb.mono (by simp)) | exact (bal (bal brf _) _ : Below _ _ _).trans (hb.mono (by simp))))
    have HR8 := Lib.hid (HR8.out.below (by first | exact hb | exact (bal brf _ : Below _ _ _).trans (hb.mono (by simp)) | exact (bal (bal brf _) _ : Below _ _ _).trans (hb.mono (by simp))))
    have HR9 := Lib.hid (HR9.out.below (by first | exact hb | exact (bal brf _ : Below _ _ _).trans (hb.mono (by simp)) | exact (bal (bal brf _) _ : Below _ _ _).trans (hb.mono (by simp))))
    have HQ10 := Lib.hid (HQ10.out.below (by first | exact hb | exact (bal brf _ : Below _ _ _).trans (hb.mono (by simp)) | exact (bal (bal brf _) _ : Below _ _ _).trans (hb.mono (by simp))))
    have HQ11 := Lib.hid (HQ11.out.below (by first | exact hb | exact (bal brf _ : Below _ _ _).trans (hb.mono (by simp)) | exact (bal (bal brf _) _ : Below _ _ _).trans (hb.mono (by simp))))
    clear hb
    go_wp2_with fail
    refine (same17_true seq none none 0 0 0 [] [] _ ⟨rfl, Nat.le_refl _, Nat.zero_le _, LRow.nil⟩ ⟨rfl, Nat.le_refl _, Nat.zero_le _, LRow.nil⟩ rfl (fun l hl => by simp at hl)).mono ?_
    rintro e w11 ⟨rfl, hb⟩
    have HB11 : Hid (Below w.heap.size w w11) := Lib.hid (by first | exact bgo HB10.out hb | exact bgo (bal HB10.out _) hb | exact bgo (bal (bal HB10.out _) _) hb | exact bgo (bdr HB10.out) hb)
    have HXc11 := Lib.hid (cfg_later (w1 := w11) HXc10.out (by first | exact hb | exact (bal brf _ : Below _ _ _).trans (hb.mono (by simp)) | exact (bal (bal brf _) _ : Below _ _ _).trans (hb.mono (by simp)) | exact (bdr brf : Below _ _ _).trans hb))
    have HXq11 := Lib.hid (at2_later (w1 := w11) HXq10.out (by first | exact hb | exact (bal brf _ : Below _ _ _).trans (hb.mono (by simp)) | exact (bal (bal brf _) _ : Below _ _ _).trans (hb.mono (by simp)) | exact (bdr brf : Below _ _ _).trans hb))
    have HXs11 := Lib.hid (at2_later (w1 := w11) HXs10.out (by first | exact hb | exact (bal brf _ : Below _ _ _).trans (hb.mono (by simp)) | exact (bal (bal brf _) _ : Below _ _ _).trans (hb.mono (by simp)) | exact (bdr brf : Below _ _ _).trans hb))
    have HXa11 := Lib.hid (at2_later (w1 := w11) HXa10.out (by first | exact hb | exact (bal brf _ : Below _ _ _).trans (hb.mono (by simp)) | exact (bal (bal brf _) _ : Below _ _ _).trans (hb.mono (by simp)) | exact (bdr brf : Below _ _ _).trans hb))
    have HXb11 := Lib.hid (at2_later (w1 := w11) HXb10.out (by first | exact hb | exact (bal brf _ : Below _ _ _).trans (hb.mono (by simp)) | exact (bal (bal brf _) _ : Below _ _ _).trans (hb.mono (by simp)) | exact (bdr brf : Below _ _ _).trans hb))
    have HXx11 := Lib.hid (at5_later (w1 := w11) HXx10.out (by first | exact hb | exact (bal brf _ : Below _ _ _).trans (hb.mono (by simp)) | exact (bal (bal brf _) _ : Below _ _ _).trans (hb.mono (by simp)) | exact (bdr brf : Below _ _ _).trans hb))
    have HXy11 := Lib.hid (at5_later (w1 := w11) HXy10.out (by first | exact hb | exact (bal brf _ : Below _ _ _).trans (hb.mono (by simp)) | exact (bal (bal brf _) _ : Below _ _ _).trans (hb.mono (by simp)) | exact (bdr brf : Below _ _ _).trans hb))
    have HXd11 := Lib.hid (at2_later (w1 := w11) HXd10.out (by first | exact hb | exact (bal brf _ : Below _ _ _).trans (hb.mono (by simp)) | exact (bal (bal brf _) _ : Below _ _ _).trans (hb.mono (by simp)) | exact (bdr brf : Below _ _ _).trans hb))
    have HXe11 := Lib.hid (at2_later (w1 := w11) HXe10.out (by first | exact hb | exact (bal brf _ : Below _ _ _).trans (hb.mono (by simp)) | exact (bal (bal brf _) _ : Below _ _ _).trans (hb.mono (by simp)) | exact (bdr brf : Below _ _ _).trans hb))
    have HQS2 := Lib.hid (HQS2.out.below (by first | exact hb | exact (bal brf _ : Below _ _ _).trans (hb.mono (by simp)) | exact (bal (bal brf _) _ : Below _ _ _).trans (hb.mono (by simp))))
    have HQ6 := Lib.hid (HQ6.out.below (by first | exact hb | exact (bal brf _ : Below _ _ _).trans (hb.mono (by simp)) | exact (bal (bal brf _) _ : Below _ _ _).trans (hb.mono (by simp))))
    have HQ7 := Lib.hid (HQ7.out.below (by first | exact hb | exact (bal brf _ : Below _ _ _).trans (hb.mono (by simp)) | exact (bal (bal brf _) _ : Below _ _ _).trans (hb.mono (by simp))))
    have HR8 := Lib.hid (HR8.out.below (by first | exact hb | exact (bal brf _ : Below _ _ _).trans (hb.mono (by simp)) | exact (bal (bal brf _) _ : Below _ _ _).trans (hb.mono (by simp))))
    have HR9 := Lib.hid (HR9.out.below (by first | exact hb | exact (bal brf _ : Below _ _ _).trans (hb.mono (by simp)) | exact (bal (bal brf _) _ : Below _ _ _).trans (hb.mono (by simp))))
    have HQ10 := Lib.hid (HQ10.out.below (by first | exact hb | exact (bal brf _ : Below _ _ _).trans (hb.mono (by simp)) | exact (bal (bal brf _) _ : Below _ _ _).trans (hb.mono (by simp))))
    have HQ11 := Lib.hid (HQ11.out.below (by first | exact hb | exact (bal brf _ : Below _ _ _).trans (hb.mono (by simp)) | exact (bal (bal brf _) _ : Below _ _ _).trans (hb.mono (by simp))))
    clear hb
    obtain ⟨ba0, ba1, fa0, fa1⟩ := HXa11.out
    have za := cell_lt ba0
    obtain ⟨bb0, bb1, fb0, fb1⟩ := HXb11.out
    have zb := cell_lt bb0
    go_wp2_with fail
    refine (same17_true nx' A6 A7 n7 c6 c7 qs6 qs7 _ HQ6.out HQ7.out (HM6.out.trans HM7.out.symm) (by rw [HM6.out]; exact HPUT.out.2.2)).mono ?_
    rintro e w12 ⟨rfl, hb⟩
    clear ba0 ba1 fa0 fa1 za bb0 bb1 fb0 fb1 zb
    have HB12 : Hid (Below w.heap.size w w12) := Lib.hid (by first | exact bgo HB11.out hb | exact bgo (bal HB11.out _) hb | exact bgo (bal (bal HB11.out _) _) hb | exact bgo (bdr HB11.out) hb)
    have HXc12 := Lib.hid (cfg_later (w1 := w12) HXc11.out (by first | exact hb | exact (bal brf _ : Below _ _ _).trans (hb.mono (by simp)) | exact (bal (bal brf _) _ : Below _ _ _).trans (hb.mono (by simp)) | exact (bdr brf : Below _ _ _).trans hb))
    have HXq12 := Lib.hid (at2_later (w1 := w12) HXq11.out (by first | exact hb | exact (bal brf _ : Below _ _ _).trans (hb.mono (by simp)) | exact (bal (bal brf _) _ : Below _ _ _).trans (hb.mono (by simp)) | exact (bdr brf : Below _ _ _).trans hb))
    have HXs12 := Lib.hid (at2_later (w1 := w12) HXs11.out (by first | exact hb | exact (bal brf _ : Below _ _ _).trans (hb.mono (by simp)) | exact (bal (bal brf _) _ : Below _ _ _).trans (hb.mono (by simp)) | exact (bdr brf : Below _ _ _).trans hb))
    have HXa12 := Lib.hid (at2_later (w1 := w12) HXa11.out (by first | exact hb | exact (bal brf _ : Below _ _ _).trans (hb.mono (by simp)) | exact (bal (bal brf _) _ : Below _ _ _).trans (hb.mono (by simp)) | exact (bdr brf : Below _ _ _).trans hb))
    have HXb12 := Lib.hid (at2_later (w1 := w12) HXb11.out (by first | exact hb | exact (bal brf _ : Below _ _ _).trans (hb.mono (by simp)) | exact (bal (bal brf _) _ : Below _ _ _).trans (hb.mono (by simp)) | exact (bdr brf : Below _ _ _).trans hb))
    have HXx12 := Lib.hid (at5_later (w1 := w12) HXx11.out (by first | exact hb | exact (bal brf _ : Below _ _ _).trans (hb.mono (by simp)) | exact (bal (bal brf _) _ : Below _ _ _).trans (hb.mono (by simp)) | exact (bdr brf : Below _ _ _).trans hb))
    have HXy12 := Lib.hid (at5_later (w1 := w12) HXy11.out (by first | exact hb | exact (bal brf _ : Below _ _ _).trans (hb.mono (by simp)) | exact (bal (bal brf _) _ : Below _ _ _).trans (hb.mono (by simp)) | exact (bdr brf : Below _ _ _).trans hb))
    have HXd12 := Lib.hid (at2_later (w1 := w12) HXd11.out (by first | exact hb | exact (bal brf _ : Below _ _ _).trans (hb.mono (by simp)) | exact (bal (bal brf _) _ : Below _ _ _).trans (hb.mono (by simp)) | exact (bdr brf : Below _ _ _).trans hb))
    have HXe12 := Lib.hid (at2_later (w1 := w12) HXe11.out (by first | exact hb | exact (bal brf _ : Below _ _ _).trans (hb.mono (by simp)) | exact (bal (bal brf _) _ : Below _ _ _).trans (hb.mono (by simp)) | exact (bdr brf : Below _ _ _).trans hb))
    have HQS2 := Lib.hid (HQS2.out.below (by first | exact hb | exact (bal brf _ : Below _ _ _).trans (hb.mono (by simp)) | exact (bal (bal brf _) _ : Below _ _ _).trans (hb.mono (by simp))))
    have HQ6 := Lib.hid (HQ6.out.below (by first | exact hb | exact (bal brf _ : Below _ _ _).trans (hb.mono (by simp)) | exact (bal (bal brf _) _ : Below _ _ _).trans (hb.mono (by simp))))
    have HQ7 := Lib.hid (HQ7.out.below (by first | exact hb | exact (bal brf _ : Below _ _ _).trans (hb.mono (by simp)) | exact (bal (bal brf _) _ : Below _ _ _).trans (hb.mono (by simp))))
    have HR8 := Lib.hid (HR8.out.below (by first | exact hb | exact (bal brf _ : Below _ _ _).trans (hb.mono (by simp)) | exact (bal (bal brf _) _ : Below _ _ _).trans (hb.mono (by simp))))
    have HR9 := Lib.hid (HR9.out.below (by first | exact hb | exact (bal brf _ : Below _ _ _).trans (hb.mono (by simp)) | exact (bal (bal brf _) _ : Below _ _ _).trans (hb.mono (by simp))))
    have HQ10 := Lib.hid (HQ10.out.below (by first | exact hb | exact (bal brf _ : Below _ _ _).trans (hb.mono (by simp)) | exact (bal (bal brf _) _ : Below _ _ _).trans (hb.mono (by simp))))
    have HQ11 := Lib.hid (HQ11.out.below (by first | exact hb | exact (bal brf _ : Below _ _ _).trans (hb.mono (by simp)) | exact (bal (bal brf _) _ : Below _ _ _).trans (hb.mono (by simp))))
    clear hb
    obtain ⟨⟨bx0, bx1, bx2, bx3, bx4⟩, fx0, fx1, fx2, fx3, fx4⟩ := HXx12.out
    have zx := cell_lt bx0
    obtain ⟨⟨by0, by1, by2, by3, by4⟩, fy0, fy1, fy2, fy3, fy4⟩ := HXy12.out
    have zy := cell_lt by0
    go_wp2_with fail
    refine (same_letter hl2 A8 A9 _ _ c8 c9 _ rfl rfl HR8.out HR9.out HHEAD.out.2.2).mono ?_
    rintro e w13 ⟨rfl, hb⟩
    clear bx0 bx1 bx2 bx3 bx4 fx0 fx1 fx2 fx3 fx4 zx by0 by1 by2 by3 by4 fy0 fy1 fy2 fy3 fy4 zy
    have HB13 : Hid (Below w.heap.size w w13) := Lib.hid (by first | exact bgo HB12.out hb | exact bgo (bal HB12.out _) hb | exact bgo (bal (bal HB12.out _) _) hb | exact bgo (bdr HB12.out) hb)
    have HXc13 := Lib.hid (cfg_later (w1 := w13) HXc12.out (by first | exact hb | exact (bal brf _ : Below _ _ _).trans (hb.mono (by simp)) | exact (bal (bal brf _) _ : Below _ _ _).trans (hb.mono (by simp)) | exact (bdr brf : Below _ _ _).trans hb))
    have HXq13 := Lib.hid (at2_later (w1 := w13) HXq12.out (by first | exact hb | exact (bal brf _ : Below _ _ _).trans (hb.mono (by simp)) | exact (bal (bal brf _) _ : Below _ _ _).trans (hb.mono (by simp)) | exact (bdr brf : Below _ _ _).trans hb))
    have HXs13 := Lib.hid (at2_later (w1 := w13) HXs12.out (by first | exact hb | exact (bal brf _ : Below _ _ _).trans (hb.mono (by simp)) | exact (bal (bal brf _) _ : Below _ _ _).trans (hb.mono (by simp)) | exact (bdr brf : Below _ _ _).trans hb))
    have HXa13 := Lib.hid (at2_later (w1 := w13) HXa12.out (by first | exact hb | exact (bal brf _ : Below _ _ _).trans (hb.mono (by simp)) | exact (bal (bal brf _) _ : Below _ _ _).trans (hb.mono (by simp)) | exact (bdr brf : Below _ _ _).trans hb))
    have HXb13 := Lib.hid (at2_later (w1 := w13) HXb12.out (by first | exact hb | exact (bal brf _ : Below _ _ _).trans (hb.mono (by simp)) | exact (bal (bal brf _) _ : Below _ _ _).trans (hb.mono (by simp)) | exact (bdr brf : Below _ _ _).trans hb))
    have HXx13 := Lib.hid (at5_later (w1 := w13) HXx12.out (by first | exact hb | exact (bal brf _ : Below _ _ _).trans (hb.mono (by simp)) | exact (bal (bal brf _) _ : Below _ _ _).trans (hb.mono (by simp)) | exact (bdr brf : Below _ _ _).trans hb))
    have HXy13 := Lib.hid (at5_later (w1 := w13) HXy12.out (by first | exact hb | exact (bal brf _ : Below _ _ _).trans (hb.mono (by simp)) | exact (bal (bal brf _) _ : Below _ _ _).trans (hb.mono (by simp)) | exact (bdr brf : Below _ _ _).trans hb))
    have HXd13 := Lib.hid (at2_later (w1 := w13) HXd12.out (by first | exact hb | exact (bal brf _ : Below _ _ _).trans (hb.mono (by simp)) | exact (bal (bal brf _) _ : Below _ _ _).trans (hb.mono (by simp)) | exact (bdr brf : Below _ _ _).trans hb))
    have HXe13 := Lib.hid (at2_later (w1 := w13) HXe12.out (by first | exact hb | exact (bal brf _ : Below _ _ _).trans (hb.mono (by simp)) | exact (bal (bal brf _) _ : Below _ _ _).trans (hb.mono (by simp)) | exact (bdr brf : Below _ _ _).trans hb))
    have HQS2 := Lib.hid (HQS2.out.below (by first | exact hb | exact (bal brf _ : Below _ _ _).trans (hb.mono (by simp)) | exact (bal (bal brf _) _ : Below _ _ _).trans (hb.mono (by simp))))
    have HQ6 := Lib.hid (HQ6.out.below (by first | exact hb | exact (bal brf _ : Below _ _ _).trans (hb.mono (by simp)) | exact (bal (bal brf _) _ : Below _ _ _).trans (hb.mono (by simp))))
    have HQ7 := Lib.hid (HQ7.out.below (by first | exact hb | exact (bal brf _ : Below _ _ _).trans (hb.mono (by simp)) | exact (bal (bal brf _) _ : Below _ _ _).trans (hb.mono (by simp))))
    have HR8 := Lib.hid (HR8.out.below (by first | exact hb | exact (bal brf _ : Below _ _ _).trans (hb.mono (by simp)) | exact (bal (bal brf _) _ : Below _ _ _).trans (hb.mono (by simp))))
    have HR9 := Lib.hid (HR9.out.below (by first | exact hb | exact (bal brf _ : Below _ _ _).trans (hb.mono (by simp)) | exact (bal (bal brf _) _ : Below _ _ _).trans (hb.mono (by simp))))
    have HQ10 := Lib.hid (HQ10.out.below (by first | exact hb | exact (bal brf _ : Below _ _ _).trans (hb.mono (by simp)) | exact (bal (bal brf _) _ : Below _ _ _).trans (hb.mono (by simp))))
    have HQ11 := Lib.hid (HQ11.out.below (by first | exact hb | exact (bal brf _ : Below _ _ _).trans (hb.mono (by simp)) | exact (bal (bal brf _) _ : Below _ _ _).trans (hb.mono (by simp))))
    clear hb
    obtain ⟨bd0, bd1, fd0, fd1⟩ := HXd13.out
    have zd := cell_lt bd0
    obtain ⟨be0, be1, fe0, fe1⟩ := HXe13.out
    have ze := cell_lt be0
    go_wp2_with fail
    refine (same17_true nx A10 A11 n11 c10 c11 qs10 qs11 _ HQ10.out HQ11.out (HM10.out.trans HM11.out.symm) (by rw [HM10.out]; exact HPOP.out.2.2)).mono ?_
    rintro e w14 ⟨rfl, hb⟩
    clear bd0 bd1 fd0 fd1 zd be0 be1 fe0 fe1 ze
    have HB14 : Hid (Below w.heap.size w w14) := Lib.hid (by first | exact bgo HB13.out hb | exact bgo (bal HB13.out _) hb | exact bgo (bal (bal HB13.out _) _) hb | exact bgo (bdr HB13.out) hb)
    have HXc14 := Lib.hid (cfg_later (w1 := w14) HXc13.out (by first | exact hb | exact (bal brf _ : Below _ _ _).trans (hb.mono (by simp)) | exact (bal (bal brf _) _ : Below _ _ _).trans (hb.mono (by simp)) | exact (bdr brf : Below _ _ _).trans hb))
    have HXq14 := Lib.hid (at2_later (w1 := w14) HXq13.out (by first | exact hb | exact (bal brf _ : Below _ _ _).trans (hb.mono (by simp)) | exact (bal (bal brf _) _ : Below _ _ _).trans (hb.mono (by simp)) | exact (bdr brf : Below _ _ _).trans hb))
    have HXs14 := Lib.hid (at2_later (w1 := w14) HXs13.out (by first | exact hb | exact (bal brf _ : Below _ _ _).trans (hb.mono (by simp)) | exact (bal (bal brf _) _ : Below _ _ _).trans (hb.mono (by simp)) | exact (bdr brf : Below _ _ _).trans hb))
    have HXa14 := Lib.hid (at2_later (w1 := w14) HXa13.out (by first | exact hb | exact (bal brf _ : Below _ _ _).trans (hb.mono (by simp)) | exact (bal (bal brf _) _ : Below _ _ _).trans (hb.mono (by simp)) | exact (bdr brf : Below _ _ _).trans hb))
    have HXb14 := Lib.hid (at2_later (w1 := w14) HXb13.out (by first | exact hb | exact (bal brf _ : Below _ _ _).trans (hb.mono (by simp)) | exact (bal (bal brf _) _ : Below _ _ _).trans (hb.mono (by simp)) | exact (bdr brf : Below _ _ _).trans hb))
    have HXx14 := Lib.hid (at5_later (w1 := w14) HXx13.out (by first | exact hb | exact (bal brf _ : Below _ _ _).trans (hb.mono (by simp)) | exact (bal (bal brf _) _ : Below _ _ _).trans (hb.mono (by simp)) | exact (bdr brf : Below _ _ _).trans hb))
    have HXy14 := Lib.hid (at5_later (w1 := w14) HXy13.out (by first | exact hb | exact (bal brf _ : Below _ _ _).trans (hb.mono (by simp)) | exact (bal (bal brf _) _ : Below _ _ _).trans (hb.mono (by simp)) | exact (bdr brf : Below _ _ _).trans hb))
    have HXd14 := Lib.hid (at2_later (w1 := w14) HXd13.out (by first | exact hb | exact (bal brf _ : Below _ _ _).trans (hb.mono (by simp)) | exact (bal (bal brf _) _ : Below _ _ _).trans (hb.mono (by simp)) | exact (bdr brf : Below _ _ _).trans hb))
    have HXe14 := Lib.hid (at2_later (w1 := w14) HXe13.out (by first | exact hb | exact (bal brf _ : Below _ _ _).trans (hb.mono (by simp)) | exact (bal (bal brf _) _ : Below _ _ _).trans (hb.mono (by simp)) | exact (bdr brf : Below _ _ _).trans hb))
    have HQS2 := Lib.hid (HQS2.out.below (by first | exact hb | exact (bal brf _ : Below _ _ _).trans (hb.mono (by simp)) | exact (bal (bal brf _) _ : Below _ _ _).trans (hb.mono (by simp))))
    have HQ6 := Lib.hid (HQ6.out.below (by first | exact hb | exact (bal brf _ : Below _ _ _).trans (hb.mono (by simp)) | exact (bal (bal brf _) _ : Below _ _ _).trans (hb.mono (by simp))))
    have HQ7 := Lib.hid (HQ7.out.below (by first | exact hb | exact (bal brf _ : Below _ _ _).trans (hb.mono (by simp)) | exact (bal (bal brf _) _ : Below _ _ _).trans (hb.mono (by simp))))
    have HR8 := Lib.hid (HR8.out.below (by first | exact hb | exact (bal brf _ : Below _ _ _).trans (hb.mono (by simp)) | exact (bal (bal brf _) _ : Below _ _ _).trans (hb.mono (by simp))))
    have HR9 := Lib.hid (HR9.out.below (by first | exact hb | exact (bal brf _ : Below _ _ _).trans (hb.mono (by simp)) | exact (bal (bal brf _) _ : Below _ _ _).trans (hb.mono (by simp))))
    have HQ10 := Lib.hid (HQ10.out.below (by first | exact hb | exact (bal brf _ : Below _ _ _).trans (hb.mono (by simp)) | exact (bal (bal brf _) _ : Below _ _ _).trans (hb.mono (by simp))))
    have HQ11 := Lib.hid (HQ11.out.below (by first | exact hb | exact (bal brf _ : Below _ _ _).trans (hb.mono (by simp)) | exact (bal (bal brf _) _ : Below _ _ _).trans (hb.mono (by simp))))
    clear hb
    obtain ⟨bq0, bq1, fq0, fq1⟩ := HXq14.out
    have zq := cell_lt bq0
    obtain ⟨bs0, bs1, fs0, fs1⟩ := HXs14.out
    have zs := cell_lt bs0
    go_wp2_with fail
    refine (same17_true nx A A5 n c c5 ps ps _ (HQ0.out.below HB14.out) HQS2.out rfl HT.out).mono ?_
    rintro e w15 ⟨rfl, hb⟩
    clear bq0 bq1 fq0 fq1 zq bs0 bs1 fs0 fs1 zs
    have HB15 : Hid (Below w.heap.size w w15) := Lib.hid (by first | exact bgo HB14.out hb | exact bgo (bal HB14.out _) hb | exact bgo (bal (bal HB14.out _) _) hb | exact bgo (bdr HB14.out) hb)
    have HXc15 := Lib.hid (cfg_later (w1 := w15) HXc14.out (by first | exact hb | exact (bal brf _ : Below _ _ _).trans (hb.mono (by simp)) | exact (bal (bal brf _) _ : Below _ _ _).trans (hb.mono (by simp)) | exact (bdr brf : Below _ _ _).trans hb))
    have HXq15 := Lib.hid (at2_later (w1 := w15) HXq14.out (by first | exact hb | exact (bal brf _ : Below _ _ _).trans (hb.mono (by simp)) | exact (bal (bal brf _) _ : Below _ _ _).trans (hb.mono (by simp)) | exact (bdr brf : Below _ _ _).trans hb))
    have HXs15 := Lib.hid (at2_later (w1 := w15) HXs14.out (by first | exact hb | exact (bal brf _ : Below _ _ _).trans (hb.mono (by simp)) | exact (bal (bal brf _) _ : Below _ _ _).trans (hb.mono (by simp)) | exact (bdr brf : Below _ _ _).trans hb))
    have HXa15 := Lib.hid (at2_later (w1 := w15) HXa14.out (by first | exact hb | exact (bal brf _ : Below _ _ _).trans (hb.mono (by simp)) | exact (bal (bal brf _) _ : Below _ _ _).trans (hb.mono (by simp)) | exact (bdr brf : Below _ _ _).trans hb))
    have HXb15 := Lib.hid (at2_later (w1 := w15) HXb14.out (by first | exact hb | exact (bal brf _ : Below _ _ _).trans (hb.mono (by simp)) | exact (bal (bal brf _) _ : Below _ _ _).trans (hb.mono (by simp)) | exact (bdr brf : Below _ _ _).trans hb))
    have HXx15 := Lib.hid (at5_later (w1 := w15) HXx14.out (by first | exact hb | exact (bal brf _ : Below _ _ _).trans (hb.mono (by simp)) | exact (bal (bal brf _) _ : Below _ _ _).trans (hb.mono (by simp)) | exact (bdr brf : Below _ _ _).trans hb))
    have HXy15 := Lib.hid (at5_later (w1 := w15) HXy14.out (by first | exact hb | exact (bal brf _ : Below _ _ _).trans (hb.mono (by simp)) | exact (bal (bal brf _) _ : Below _ _ _).trans (hb.mono (by simp)) | exact (bdr brf : Below _ _ _).trans hb))
    have HXd15 := Lib.hid (at2_later (w1 := w15) HXd14.out (by first | exact hb | exact (bal brf _ : Below _ _ _).trans (hb.mono (by simp)) | exact (bal (bal brf _) _ : Below _ _ _).trans (hb.mono (by simp)) | exact (bdr brf : Below _ _ _).trans hb))
    have HXe15 := Lib.hid (at2_later (w1 := w15) HXe14.out (by first | exact hb | exact (bal brf _ : Below _ _ _).trans (hb.mono (by simp)) | exact (bal (bal brf _) _ : Below _ _ _).trans (hb.mono (by simp)) | exact (bdr brf : Below _ _ _).trans hb))
    clear hb
    go_wp2_with fail
    go_ret
    exact ⟨rfl, HB15.out⟩
  · have hstart : True := trivial
    have hW : WAS w ((w4.setCell ⟨w2.heap.size, 0, none⟩ (.int .u64 nx)).setCell ⟨w2.heap.size, 1, none⟩ (.slice A5 n c5)) w2.heap.size D dn dc ch st cl qu clo lo ag wi ro se nx A A5 n c c5 ps := was_set HZ2.out HB4.out HC4.out HQ4.out HK4.out HO4.out HQ0.out.2.2.2.2
    have HW := Lib.hid hW
    clear hW hS4 HC4 HQ4 HB4 HO4 hS0 HK0 hne1
    obtain ⟨X, hX⟩ : ∃ X, X = ((w4.setCell ⟨w2.heap.size, 0, none⟩ (.int .u64 nx)).setCell ⟨w2.heap.size, 1, none⟩ (.slice A5 n c5)) := ⟨_, rfl⟩
    obtain ⟨L, hL⟩ : ∃ L, L = w2.heap.size := ⟨_, rfl⟩
    rw [← hX] at HW ⊢
    rw [← hL] at HW ⊢
    clear hX hL
    have HB2 := Lib.hid HW.out.1
    have HXc2 := Lib.hid HW.out.2.1
    have HXq2 := Lib.hid HW.out.2.2.1
    have HXs2 := Lib.hid HW.out.2.2.2.1
    have HQS2 := Lib.hid HW.out.2.2.2.2
    clear HW
    obtain ⟨bc0, bc1, bc2, bc3, bc4, bc5, bc6, bc7, bc8, bc9, bcx⟩ := HXc2.out
    have zc := cell_lt bc0
    obtain ⟨bq0, bq1, fq0, fq1⟩ := HXq2.out
    have zq := cell_lt bq0
    go_wp2_with fail
    refine (HPUT.out.1 _ (HQ0.out.below HB2.out) (HE.out.below HB2.out)).mono ?_
    rintro e w3 ⟨A6, n6, c6, qs6, rfl, hm6, hq6, hb⟩
    clear bc0 bc1 bc2 bc3 bc4 bc5 bc6 bc7 bc8 bc9 bcx zc bq0 bq1 fq0 fq1 zq
    have HB3 : Hid (Below w.heap.size w w3) := Lib.hid (by first | exact bgo HB2.out hb | exact bgo (bal HB2.out _) hb | exact bgo (bal (bal HB2.out _) _) hb | exact bgo (bdr HB2.out) hb)
    have HXc3 := Lib.hid (cfg_later (w1 := w3) HXc2.out (by first | exact hb | exact (bal brf _ : Below _ _ _).trans (hb.mono (by simp)) | exact (bal (bal brf _) _ : Below _ _ _).trans (hb.mono (by simp)) | exact (bdr brf : Below _ _ _).trans hb))
    have HXq3 := Lib.hid (at2_later (w1 := w3) HXq2.out (by first | exact hb | exact (bal brf _ : Below _ _ _).trans (hb.mono (by simp)) | exact (bal (bal brf _) _ : Below _ _ _).trans (hb.mono (by simp)) | exact (bdr brf : Below _ _ _).trans hb))
    have HXs3 := Lib.hid (at2_later (w1 := w3) HXs2.out (by first | exact hb | exact (bal brf _ : Below _ _ _).trans (hb.mono (by simp)) | exact (bal (bal brf _) _ : Below _ _ _).trans (hb.mono (by simp)) | exact (bdr brf : Below _ _ _).trans hb))
    have HM6 := Lib.hid hm6
    have HQ6 := Lib.hid hq6
    clear hm6 hq6
    have HQS2 := Lib.hid (HQS2.out.below (by first | exact hb | exact (bal brf _ : Below _ _ _).trans (hb.mono (by simp)) | exact (bal (bal brf _) _ : Below _ _ _).trans (hb.mono (by simp))))
    have HXa3 := Lib.hid (At2.new w3 (.int .u64 nx') (.slice A6 n6 c6) 28)
    clear hb
    obtain ⟨bc0, bc1, bc2, bc3, bc4, bc5, bc6, bc7, bc8, bc9, bcx⟩ := HXc3.out
    have zc := cell_lt bc0
    obtain ⟨bq0, bq1, fq0, fq1⟩ := HXq3.out
    have zq := cell_lt bq0
    go_wp2_with fail
    refine (HPUT.out.2.1 _ (HQ0.out.below (bal HB3.out _)) (HE.out.below (bal HB3.out _))).mono ?_
    rintro e w4 ⟨A7, n7, c7, qs7, rfl, hm7, hq7, hb⟩
    clear bc0 bc1 bc2 bc3 bc4 bc5 bc6 bc7 bc8 bc9 bcx zc bq0 bq1 fq0 fq1 zq
    have HB4 : Hid (Below w.heap.size w w4) := Lib.hid (by first | exact bgo HB3.out hb | exact bgo (bal HB3.out _) hb | exact bgo (bal (bal HB3.out _) _) hb | exact bgo (bdr HB3.out) hb)
    have HXc4 := Lib.hid (cfg_later (w1 := w4) HXc3.out (by first | exact hb | exact (bal brf _ : Below _ _ _).trans (hb.mono (by simp)) | exact (bal (bal brf _) _ : Below _ _ _).trans (hb.mono (by simp)) | exact (bdr brf : Below _ _ _).trans hb))
    have HXq4 := Lib.hid (at2_later (w1 := w4) HXq3.out (by first | exact hb | exact (bal brf _ : Below _ _ _).trans (hb.mono (by simp)) | exact (bal (bal brf _) _ : Below _ _ _).trans (hb.mono (by simp)) | exact (bdr brf : Below _ _ _).trans hb))
    have HXs4 := Lib.hid (at2_later (w1 := w4) HXs3.out (by first | exact hb | exact (bal brf _ : Below _ _ _).trans (hb.mono (by simp)) | exact (bal (bal brf _) _ : Below _ _ _).trans (hb.mono (by simp)) | exact (bdr brf : Below _ _ _).trans hb))
    have HXa4 := Lib.hid (at2_later (w1 := w4) HXa3.out (by first | exact hb | exact (bal brf _ : Below _ _ _).trans (hb.mono (by simp)) | exact (bal (bal brf _) _ : Below _ _ _).trans (hb.mono (by simp)) | exact (bdr brf : Below _ _ _).trans hb))
    have HM7 := Lib.hid hm7
    have HQ7 := Lib.hid hq7
    have hn7 : n7 = n6 := by rw [← HQ7.out.len, ← HQ6.out.len, HM7.out, HM6.out]
    subst hn7
    clear hm7 hq7
    have HQS2 := Lib.hid (HQS2.out.below (by first | exact hb | exact (bal brf _ : Below _ _ _).trans (hb.mono (by simp)) | exact (bal (bal brf _) _ : Below _ _ _).trans (hb.mono (by simp))))
    have HQ6 := Lib.hid (HQ6.out.below (by first | exact hb | exact (bal brf _ : Below _ _ _).trans (hb.mono (by simp)) | exact (bal (bal brf _) _ : Below _ _ _).trans (hb.mono (by simp))))
    have HXb4 := Lib.hid (At2.new w4 (.int .u64 nx') (.slice A7 n7 c7) 28)
    clear hb
    obtain ⟨bc0, bc1, bc2, bc3, bc4, bc5, bc6, bc7, bc8, bc9, bcx⟩ := HXc4.out
    have zc := cell_lt bc0
    obtain ⟨bq0, bq1, fq0, fq1⟩ := HXq4.out
    have zq := cell_lt bq0
    go_wp2_with fail
    refine (HHEAD.out.1 _ (HQ0.out.below (bal HB4.out _))).mono ?_
    rintro e w5 ⟨A8, c8, rfl, h8, hb⟩
    clear bc0 bc1 bc2 bc3 bc4 bc5 bc6 bc7 bc8 bc9 bcx zc bq0 bq1 fq0 fq1 zq
    have HB5 : Hid (Below w.heap.size w w5) := Lib.hid (by first | exact bgo HB4.out hb | exact bgo (bal HB4.out _) hb | exact bgo (bal (bal HB4.out _) _) hb | exact bgo (bdr HB4.out) hb)
    have HXc5 := Lib.hid (cfg_later (w1 := w5) HXc4.out (by first | exact hb | exact (bal brf _ : Below _ _ _).trans (hb.mono (by simp)) | exact (bal (bal brf _) _ : Below _ _ _).trans (hb.mono (by simp)) | exact (bdr brf : Below _ _ _).trans hb))
    have HXq5 := Lib.hid (at2_later (w1 := w5) HXq4.out (by first | exact hb | exact (bal brf _ : Below _ _ _).trans (hb.mono (by simp)) | exact (bal (bal brf _) _ : Below _ _ _).trans (hb.mono (by simp)) | exact (bdr brf : Below _ _ _).trans hb))
    have HXs5 := Lib.hid (at2_later (w1 := w5) HXs4.out (by first | exact hb | exact (bal brf _ : Below _ _ _).trans (hb.mono (by simp)) | exact (bal (bal brf _) _ : Below _ _ _).trans (hb.mono (by simp)) | exact (bdr brf : Below _ _ _).trans hb))
    have HXa5 := Lib.hid (at2_later (w1 := w5) HXa4.out (by first | exact hb | exact (bal brf _ : Below _ _ _).trans (hb.mono (by simp)) | exact (bal (bal brf _) _ : Below _ _ _).trans (hb.mono (by simp)) | exact (bdr brf : Below _ _ _).trans hb))
    have HXb5 := Lib.hid (at2_later (w1 := w5) HXb4.out (by first | exact hb | exact (bal brf _ : Below _ _ _).trans (hb.mono (by simp)) | exact (bal (bal brf _) _ : Below _ _ _).trans (hb.mono (by simp)) | exact (bdr brf : Below _ _ _).trans hb))
    have HR8 := Lib.hid h8
    clear h8
    have HQS2 := Lib.hid (HQS2.out.below (by first | exact hb | exact (bal brf _ : Below _ _ _).trans (hb.mono (by simp)) | exact (bal (bal brf _) _ : Below _ _ _).trans (hb.mono (by simp))))
    have HQ6 := Lib.hid (HQ6.out.below (by first | exact hb | exact (bal brf _ : Below _ _ _).trans (hb.mono (by simp)) | exact (bal (bal brf _) _ : Below _ _ _).trans (hb.mono (by simp))))
    have HQ7 := Lib.hid (HQ7.out.below (by first | exact hb | exact (bal brf _ : Below _ _ _).trans (hb.mono (by simp)) | exact (bal (bal brf _) _ : Below _ _ _).trans (hb.mono (by simp))))
    have HXx5 := Lib.hid (At5.new w5 (.bool hl2.1) (.int .i64 hl2.2.1) (.int .i64 hl2.2.2.1) (.int .u64 hl2.2.2.2.1) (.slice A8 (txt hl2).length c8) 36)
    clear hb
    obtain ⟨bq0, bq1, fq0, fq1⟩ := HXq5.out
    have zq := cell_lt bq0
    go_wp2_with fail
    refine (HHEAD.out.2.1 _ (HQ0.out.below (bal HB5.out _))).mono ?_
    rintro e w6 ⟨A9, c9, rfl, h9, hb⟩
    clear bq0 bq1 fq0 fq1 zq
    have HB6 : Hid (Below w.heap.size w w6) := Lib.hid (by first | exact bgo HB5.out hb | exact bgo (bal HB5.out _) hb | exact bgo (bal (bal HB5.out _) _) hb | exact bgo (bdr HB5.out) hb)
    have HXc6 := Lib.hid (cfg_later (w1 := w6) HXc5.out (by first | exact hb | exact (bal brf _ : Below _ _ _).trans (hb.mono (by simp)) | exact (bal (bal brf _) _ : Below _ _ _).trans (hb.mono (by simp)) | exact (bdr brf : Below _ _ _).trans hb))
    have HXq6 := Lib.hid (at2_later (w1 := w6) HXq5.out (by first | exact hb | exact (bal brf _ : Below _ _ _).trans (hb.mono (by simp)) | exact (bal (bal brf _) _ : Below _ _ _).trans (hb.mono (by simp)) | exact (bdr brf : Below _ _ _).trans hb))
    have HXs6 := Lib.hid (at2_later (w1 := w6) HXs5.out (by first | exact hb | exact (bal brf _ : Below _ _ _).trans (hb.mono (by simp)) | exact (bal (bal brf _) _ : Below _ _ _).trans (hb.mono (by simp)) | exact (bdr brf : Below _ _ _).trans hb))
    have HXa6 := Lib.hid (at2_later (w1 := w6) HXa5.out (by first | exact hb | exact (bal brf _ : Below _ _ _).trans (hb.mono (by simp)) | exact (bal (bal brf _) _ : Below _ _ _).trans (hb.mono (by simp)) | exact (bdr brf : Below _ _ _).trans hb))
    have HXb6 := Lib.hid (at2_later (w1 := w6) HXb5.out (by first | exact hb | exact (bal brf _ : Below _ _ _).trans (hb.mono (by simp)) | exact (bal (bal brf _) _ : Below _ _ _).trans (hb.mono (by simp)) | exact (bdr brf : Below _ _ _).trans hb))
    have HXx6 := Lib.hid (at5_later (w1 := w6) HXx5.out (by first | exact hb | exact (bal brf _ : Below _ _ _).trans (hb.mono (by simp)) | exact (bal (bal brf _) _ : Below _ _ _).trans (hb.mono (by simp)) | exact (bdr brf : Below _ _ _).trans hb))
    have HR9 := Lib.hid h9
    clear h9
    have HQS2 := Lib.hid (HQS2.out.below (by first | exact hb | exact (bal brf _ : Below _ _ _).trans (hb.mono (by simp)) | exact (bal (bal brf _) _ : Below _ _ _).trans (hb.mono (by simp))))
    have HQ6 := Lib.hid (HQ6.out.below (by first | exact hb | exact (bal brf _ : Below _ _ _).trans (hb.mono (by simp)) | exact (bal (bal brf _) _ : Below _ _ _).trans (hb.mono (by simp))))
    have HQ7 := Lib.hid (HQ7.out.below (by first | exact hb | exact (bal brf _ : Below _ _ _).trans (hb.mono (by simp)) | exact (bal (bal brf _) _ : Below _ _ _).trans (hb.mono (by simp))))
    have HR8 := Lib.hid (HR8.out.below (by first | exact hb | exact (bal brf _ : Below _ _ _).trans (hb.mono (by simp)) | exact (bal (bal brf _) _ : Below _ _ _).trans (hb.mono (by simp))))
    have HXy6 := Lib.hid (At5.new w6 (.bool hl2.1) (.int .i64 hl2.2.1) (.int .i64 hl2.2.2.1) (.int .u64 hl2.2.2.2.1) (.slice A9 (txt hl2).length c9) 36)
    clear hb
    obtain ⟨bq0, bq1, fq0, fq1⟩ := HXq6.out
    have zq := cell_lt bq0
    go_wp2_with fail
    refine (HPOP.out.1 _ (HQ0.out.below (bal HB6.out _))).mono ?_
    rintro e w7 ⟨A10, n10, c10, qs10, rfl, hm10, hq10, hb⟩
    clear bq0 bq1 fq0 fq1 zq
    have HB7 : Hid (Below w.heap.size w w7) := Lib.hid (by first | exact bgo HB6.out hb | exact bgo (bal HB6.out _) hb | exact bgo (bal (bal HB6.out _) _) hb | exact bgo (bdr HB6.out) hb)
    have HXc7 := Lib.hid (cfg_later (w1 := w7) HXc6.out (by first | exact hb | exact (bal brf _ : Below _ _ _).trans (hb.mono (by simp)) | exact (bal (bal brf _) _ : Below _ _ _).trans (hb.mono (by simp)) | exact (bdr brf : Below _ _ _).trans hb))
    have HXq7 := Lib.hid (at2_later (w1 := w7) HXq6.out (by first | exact hb | exact (bal brf _ : Below _ _ _).trans (hb.mono (by simp)) | exact (bal (bal brf _) _ : Below _ _ _).trans (hb.mono (by simp)) | exact (bdr brf : Below _ _ _).trans hb))
    have HXs7 := Lib.hid (at2_later (w1 := w7) HXs6.out (by first | exact hb | exact (bal brf _ : Below _ _ _).trans (hb.mono (by simp)) | exact (bal (bal brf _) _ : Below _ _ _).trans (hb.mono (by simp)) | exact (bdr brf : Below _ _ _).trans hb))
    have HXa7 := Lib.hid (at2_later (w1 := w7) HXa6.out (by first | exact hb | exact (bal brf _ : Below _ _ _).trans (hb.mono (by simp)) | exact (bal (bal brf _) _ : Below _ _ _).trans (hb.mono (by simp)) | exact (bdr brf : Below _ _ _).trans hb))
    have HXb7 := Lib.hid (at2_later (w1 := w7) HXb6.out (by first | exact hb | exact (bal brf _ : Below _ _ _).trans (hb.mono (by simp)) | exact (bal (bal brf _) _ : Below _ _ _).trans (hb.mono (by simp)) | exact (bdr brf : Below _ _ _).trans hb))
    have HXx7 := Lib.hid (at5_later (w1 := w7) HXx6.out (by first | exact hb | exact (bal brf _ : Below _ _ _).trans (hb.mono (by simp)) | exact (bal (bal brf _) _ : Below _ _ _).trans (hb.mono (by simp)) | exact (bdr brf : Below _ _ _).trans hb))
    have HXy7 := Lib.hid (at5_later (w1 := w7) HXy6.out (by first | exact hb | exact (bal brf _ : Below _ _ _).trans (hb.mono (by simp)) | exact (bal (bal brf _) _ : Below _ _ _).trans (hb.mono (by simp)) | exact (bdr brf : Below _ _ _).trans hb))
    have HM10 := Lib.hid hm10
    have HQ10 := Lib.hid hq10
    clear hm10 hq10
    have HQS2 := Lib.hid (HQS2.out.below (by first | exact hb | exact (bal brf _ : Below _ _ _).trans (hb.mono (by simp)) | exact (bal (bal brf _) _ : Below _ _ _).trans (hb.mono (by simp))))
    have HQ6 := Lib.hid (HQ6.out.below (by first | exact hb | exact (bal brf _ : Below _ _ _).trans (hb.mono (by simp)) | exact (bal (bal brf _) _ : Below _ _ _).trans (hb.mono (by simp))))
    have HQ7 := Lib.hid (HQ7.out.below (by first | exact hb | exact (bal brf _ : Below _ _ _).trans (hb.mono (by simp)) | exact (bal (bal brf _) _ : Below _ _ _).trans (hb.mono (by simp))))
    have HR8 := Lib.hid (HR8.out.below (by first | exact hb | exact (bal brf _ : Below _ _ _).trans (hb.mono (by simp)) | exact (bal (bal brf _) _ : Below _ _ _).trans (hb.mono (by simp))))
    have HR9 := Lib.hid (HR9.out.below (by first | exact hb | exact (bal brf _ : Below _ _ _).trans (hb.mono (by simp)) | exact (bal (bal brf _) _ : Below _ _ _).trans (hb.mono (by simp))))
    have HXd7 := Lib.hid (At2.new w7 (.int .u64 nx) (.slice A10 n10 c10) 28)
    clear hb
    obtain ⟨bq0, bq1, fq0, fq1⟩ := HXq7.out
    have zq := cell_lt bq0
    go_wp2_with fail
    refine (HPOP.out.2.1 _ (HQ0.out.below (bal HB7.out _))).mono ?_
    rintro e w8 ⟨A11, n11, c11, qs11, rfl, hm11, hq11, hb⟩
    clear bq0 bq1 fq0 fq1 zq
    have HB8 : Hid (Below w.heap.size w w8) := Lib.hid (by first | exact bgo HB7.out hb | exact bgo (bal HB7.out _) hb | exact bgo (bal (bal HB7.out _) _) hb | exact bgo (bdr HB7.out) hb)
    have HXc8 := Lib.hid (cfg_later (w1 := w8) HXc7.out (by first | exact hb | exact (bal brf _ : Below _ _ _).trans (hb.mono (by simp)) | exact (bal (bal brf _) _ : Below _ _ _).trans (hb.mono (by simp)) | exact (bdr brf : Below _ _ _).trans hb))
    have HXq8 := Lib.hid (at2_later (w1 := w8) HXq7.out (by first | exact hb | exact (bal brf _ : Below _ _ _).trans (hb.mono (by simp)) | exact (bal (bal brf _) _ : Below _ _ _).trans (hb.mono (by simp)) | exact (bdr brf : Below _ _ _).trans hb))
    have HXs8 := Lib.hid (at2_later (w1 := w8) HXs7.out (by first | exact hb | exact (bal brf _ : Below _ _ _).trans (hb.mono (by simp)) | exact (bal (bal brf _) _ : Below _ _ _).trans (hb.mono (by simp)) | exact (bdr brf : Below _ _ _).trans hb))
    have HXa8 := Lib.hid (at2_later (w1 := w8) HXa7.out (by first | exact hb | exact (bal brf _ : Below _ _ _).trans (hb.mono (by simp)) | exact (bal (bal brf _) _ : Below _ _ _).trans (hb.mono (by simp)) | exact (bdr brf : Below _ _ _).trans hb))
    have HXb8 := Lib.hid (at2_later (w1 := w8) HXb7.out (by first | exact hb | exact (bal brf _ : Below _ _ _).trans (hb.mono (by simp)) | exact (bal (bal brf _) _ : Below _ _ _).trans (hb.mono (by simp)) | exact (bdr brf : Below _ _ _).trans hb))
    have HXx8 := Lib.hid (at5_later (w1 := w8) HXx7.out (by first | exact hb | exact (bal brf _ : Below _ _ _).trans (hb.mono (by simp)) | exact (bal (bal brf _) _ : Below _ _ _).trans (hb.mono (by simp)) | exact (bdr brf : Below _ _ _).trans hb))
    have HXy8 := Lib.hid (at5_later (w1 := w8) HXy7.out (by first | exact hb | exact (bal brf _ : Below _ _ _).trans (hb.mono (by simp)) | exact (bal (bal brf _) _ : Below _ _ _).trans (hb.mono (by simp)) | exact (bdr brf : Below _ _ _).trans hb))
    have HXd8 := Lib.hid (at2_later (w1 := w8) HXd7.out (by first | exact hb | exact (bal brf _ : Below _ _ _).trans (hb.mono (by simp)) | exact (bal (bal brf _) _ : Below _ _ _).trans (hb.mono (by simp)) | exact (bdr brf : Below _ _ _).trans hb))
    have HM11 := Lib.hid hm11
    have HQ11 := Lib.hid hq11
    have hn11 : n11 = n10 := by rw [← HQ11.out.len, ← HQ10.out.len, HM11.out, HM10.out]
    subst hn11
    clear hm11 hq11
    have HQS2 := Lib.hid (HQS2.out.below (by first | exact hb | exact (bal brf _ : Below _ _ _).trans (hb.mono (by simp)) | exact (bal (bal brf _) _ : Below _ _ _).trans (hb.mono (by simp))))
    have HQ6 := Lib.hid (HQ6.out.below (by first | exact hb | exact (bal brf _ : Below _ _ _).trans (hb.mono (by simp)) | exact (bal (bal brf _) _ : Below _ _ _).trans (hb.mono (by simp))))
    have HQ7 := Lib.hid (HQ7.out.below (by first | exact hb | exact (bal brf _ : Below _ _ _).trans (hb.mono (by simp)) | exact (bal (bal brf _) _ : Below _ _ _).trans (hb.mono (by simp))))
    have HR8 := Lib.hid (HR8.out.below (by first | exact hb | exact (bal brf _ : Below _ _ _).trans (hb.mono (by simp)) | exact (bal (bal brf _) _ : Below _ _ _).trans (hb.mono (by simp))))
    have HR9 := Lib.hid (HR9.out.below (by first | exact hb | exact (bal brf _ : Below _ _ _).trans (hb.mono (by simp)) | exact (bal (bal brf _) _ : Below _ _ _).trans (hb.mono (by simp))))
    have HQ10 := Lib.hid (HQ10.out.below (by first | exact hb | exact (bal brf _ : Below _ _ _).trans (hb.mono (by simp)) | exact (bal (bal brf _) _ : Below _ _ _).trans (hb.mono (by simp))))
    have HXe8 := Lib.hid (At2.new w8 (.int .u64 nx) (.slice A11 n11 c11) 28)
    clear hb
    go_wp2_with fail
    refine (new_any seq _).mono ?_
    rintro e w9 ⟨rfl, hb⟩
    have HB9 : Hid (Below w.heap.size w w9) := Lib.hid (by first | exact bgo HB8.out hb | exact bgo (bal HB8.out _) hb | exact bgo (bal (bal HB8.out _) _) hb | exact bgo (bdr HB8.out) hb)
    have HXc9 := Lib.hid (cfg_later (w1 := w9) HXc8.out (by first | exact hb | exact (bal brf _ : Below _ _ _).trans (hb.mono (by simp)) | exact (bal (bal brf _) _ : Below _ _ _).trans (hb.mono (by simp)) | exact (bdr brf : Below _ _ _).trans hb))
    have HXq9 := Lib.hid (at2_later (w1 := w9) HXq8.out (by first | exact hb | exact (bal brf _ : Below _ _ _).trans (hb.mono (by simp)) | exact (bal (bal brf _) _ : Below _ _ _).trans (hb.mono (by simp)) | exact (bdr brf : Below _ _ _).trans hb))
    have HXs9 := Lib.hid (at2_later (w1 := w9) HXs8.out (by first | exact hb | exact (bal brf _ : Below _ _ _).trans (hb.mono (by simp)) | exact (bal (bal brf _) _ : Below _ _ _).trans (hb.mono (by simp)) | exact (bdr brf : Below _ _ _).trans hb))
    have HXa9 := Lib.hid (at2_later (w1 := w9) HXa8.out (by first | exact hb | exact (bal brf _ : Below _ _ _).trans (hb.mono (by simp)) | exact (bal (bal brf _) _ : Below _ _ _).trans (hb.mono (by simp)) | exact (bdr brf : Below _ _ _).trans hb))
    have HXb9 := Lib.hid (at2_later (w1 := w9) HXb8.out (by first | exact hb | exact (bal brf _ : Below _ _ _).trans (hb.mono (by simp)) | exact (bal (bal brf _) _ : Below _ _ _).trans (hb.mono (by simp)) | exact (bdr brf : Below _ _ _).trans hb))
    have HXx9 := Lib.hid (at5_later (w1 := w9) HXx8.out (by first | exact hb | exact (bal brf _ : Below _ _ _).trans (hb.mono (by simp)) | exact (bal (bal brf _) _ : Below _ _ _).trans (hb.mono (by simp)) | exact (bdr brf : Below _ _ _).trans hb))
    have HXy9 := Lib.hid (at5_later (w1 := w9) HXy8.out (by first | exact hb | exact (bal brf _ : Below _ _ _).trans (hb.mono (by simp)) | exact (bal (bal brf _) _ : Below _ _ _).trans (hb.mono (by simp)) | exact (bdr brf : Below _ _ _).trans hb))
    have HXd9 := Lib.hid (at2_later (w1 := w9) HXd8.out (by first | exact hb | exact (bal brf _ : Below _ _ _).trans (hb.mono (by simp)) | exact (bal (bal brf _) _ : Below _ _ _).trans (hb.mono (by simp)) | exact (bdr brf : Below _ _ _).trans hb))
    have HXe9 := Lib.hid (at2_later (w1 := w9) HXe8.out (by first | exact hb | exact (bal brf _ : Below _ _ _).trans (hb.mono (by simp)) | exact (bal (bal brf _) _ : Below _ _ _).trans (hb.mono (by simp)) | exact (bdr brf : Below _ _ _).trans hb))
    have HQS2 := Lib.hid (HQS2.out.below (by first | exact hb | exact (bal brf _ : Below _ _ _).trans (hb.mono (by simp)) | exact (bal (bal brf _) _ : Below _ _ _).trans (hb.mono (by simp))))
    have HQ6 := Lib.hid (HQ6.out.below (by first | exact hb | exact (bal brf _ : Below _ _ _).trans (hb.mono (by simp)) | exact (bal (bal brf _) _ : Below _ _ _).trans (hb.mono (by simp))))
    have HQ7 := Lib.hid (HQ7.out.below (by first | exact hb | exact (bal brf _ : Below _ _ _).trans (hb.mono (by simp)) | exact (bal (bal brf _) _ : Below _ _ _).trans (hb.mono (by simp))))
    have HR8 := Lib.hid (HR8.out.below (by first | exact hb | exact (bal brf _ : Below _ _ _).trans (hb.mono (by simp)) | exact (bal (bal brf _) _ : Below _ _ _).trans (hb.mono (by simp))))
    have HR9 := Lib.hid (HR9.out.below (by first | exact hb | exact (bal brf _ : Below _ _ _).trans (hb.mono (by simp)) | exact (bal (bal brf _) _ : Below _ _ _).trans (hb.mono (by simp))))
    have HQ10 := Lib.hid (HQ10.out.below (by first | exact hb | exact (bal brf _ : Below _ _ _).trans (hb.mono (by simp)) | exact (bal (bal brf _) _ : Below _ _ _).trans (hb.mono (by simp))))
    have HQ11 := Lib.hid (HQ11.out.below (by first | exact hb | exact (bal brf _ : Below _ _ _).trans (hb.mono (by simp)) | exact (bal (bal brf _) _ : Below _ _ _).trans (hb.mono (by simp))))
    clear hb
    go_wp2_with fail
    refine (rnew_any seq _).mono ?_
    rintro e w10 ⟨rfl, hb⟩
    have HB10 : Hid (Below w.heap.size w w10) := Lib.hid (by first | exact bgo HB9.out hb | exact bgo (bal HB9.out _) hb | exact bgo (bal (bal HB9.out _) _) hb | exact bgo (bdr HB9.out) hb)
    have HXc10 := Lib.hid (cfg_later (w1 := w10) HXc9.out (by first | exact hb | exact (bal brf _ : Below _ _ _).trans (hb.mono (by simp)) | exact (bal (bal brf _) _ : Below _ _ _).trans (hb.mono (by simp)) | exact (bdr brf : Below _ _ _).trans hb))
    have HXq10 := Lib.hid (at2_later (w1 := w10) HXq9.out (by first | exact hb | exact (bal brf _ : Below _ _ _).trans (hb.mono (by simp)) | exact (bal (bal brf _) _ : Below _ _ _).trans (hb.mono (by simp)) | exact (bdr brf : Below _ _ _).trans hb))
    have HXs10 := Lib.hid (at2_later (w1 := w10) HXs9.out (by first | exact hb | exact (bal brf _ : Below _ _ _).trans (hb.mono (by simp)) | exact (bal (bal brf _) _ : Below _ _ _).trans (hb.mono (by simp)) | exact (bdr brf : Below _ _ _).trans hb))
    have HXa10 := Lib.hid (at2_later (w1 := w10) HXa9.out (by first | exact hb | exact (bal brf _ : Below _ _ _).trans (hb.mono (by simp)) | exact (bal (bal brf _) _ : Below _ _ _).trans (hb.mono (by simp)) | exact (bdr brf : Below _ _ _).trans hb))
    have HXb10 := Lib.hid (at2_later (w1 := w10) HXb9.out (by first | exact hb | exact (bal brf _ : Below _ _ _).trans (hb.mono (by simp)) | exact (bal (bal brf _) _ : Below _ _ _).trans (hb.mono (by simp)) | exact (bdr brf : Below _ _ _).trans hb))
    have HXx10 := Lib.hid (at5_later (w1 := w10) HXx9.out (by first | exact hb | exact (bal brf _ : Below _ _ _).trans (hb.mono (by simp)) | exact (bal (bal brf _) _ : Below _ _ _).trans (hb.mono (by simp)) | exact (bdr brf : Below _ _ _).trans hb))
    have HXy10 := Lib.hid (at5_later (w1 := w10) HXy9.out (by first | exact hb | exact (bal brf _ : Below _ _ _).trans (hb.mono (by simp)) | exact (bal (bal brf _) _ : Below _ _ _).trans (hb.mono (by simp)) | exact (bdr brf : Below _ _ _).trans hb))
    have HXd10 := Lib.hid (at2_later (w1 := w10) HXd9.out (by first | exact hb | exact (bal brf _ : Below _ _ _).trans (hb.mono (by simp)) | exact (bal (bal brf _) _ : Below _ _ _).trans (hb.mono (by simp)) | exact (bdr brf : Below _ _ _).trans hb))
    have HXe10 := Lib.hid (at2_later (w1 := w10) HXe9.out (by first | exact hb | exact (bal brf _ : Below _ _ _).trans (hb.mono (by simp)) | exact (bal (bal brf _) _ : Below _ _ _).trans (hb.mono (by simp)) | exact (bdr brf : Below _ _ _).trans hb))
    have HQS2 := Lib.hid (HQS2.out.below (by first | exact hb | exact (bal brf _ : Below _ _ _).trans (hb.mono (by simp)) | exact (bal (bal brf _) _ : Below _ _ _).trans (hb.mono (by simp))))
    have HQ6 := Lib.hid (HQ6.out.below (by first | exact hb | exact (bal brf _ : Below _ _ _).trans (hb.mono (by simp)) | exact (bal (bal brf _) _ : Below _ _ _).trans (hb.mono (by simp))))
    have HQ7 := Lib.hid (HQ7.out.below (by first | exact hb | exact (bal brf _ : Below _ _ _).trans (hb.mono (by simp)) | exact (bal (bal brf _) _ : Below _ _ _).trans (hb.mono (by simp))))
    have HR8 := Lib.hid (HR8.out.below (by first | exact hb | exact (bal brf _ : Below _ _ _).trans (hb.mono (by simp)) | exact (bal (bal brf _) _ : Below _ _ _).trans (hb.mono (by simp))))
    have HR9 := Lib.hid (HR9.out.below (by first | exact hb | exact (bal brf _ : Below _ _ _).trans (hb.mono (by simp)) | exact (bal (bal brf _) _ : Below _ _ _).trans (hb.mono (by simp))))
    have HQ10 := Lib.hid (HQ10.out.below (by first | exact hb | exact (bal brf _ : Below _ _ _).trans (hb.mono (by simp)) | exact (bal (bal brf _) _ : Below _ _ _).trans (hb.mono (by simp))))
    have HQ11 := Lib.hid (HQ11.out.below (by first | exact hb | exact (bal brf _ : Below _ _ _).trans (hb.mono (by simp)) | exact (bal (bal brf _) _ : Below _ _ _).trans (hb.mono (by simp))))
    clear hb
    go_wp2_with fail
    refine (same17_true seq none none 0 0 0 [] [] _ ⟨rfl, Nat.le_refl _, Nat.zero_le _, LRow.nil⟩ ⟨rfl, Nat.le_refl _, Nat.zero_le _, LRow.nil⟩ rfl (fun l hl => by simp at hl)).mono ?_
    rintro e w11 ⟨rfl, hb⟩
    have HB11 : Hid (Below w.heap.size w w11) := Lib.hid (by first | exact bgo HB10.out hb | exact bgo (bal HB10.out _) hb | exact bgo (bal (bal HB10.out _) _) hb | exact bgo (bdr HB10.out) hb)
    have HXc11 := Lib.hid (cfg_later (w1 := w11) HXc10.out (by first | exact hb | exact (bal brf _ : Below _ _ _).trans (hb.mono (by simp)) | exact (bal (bal brf _) _ : Below _ _ _).trans (hb.mono (by simp)) | exact (bdr brf : Below _ _ _).trans hb))
    have HXq11 := Lib.hid (at2_later (w1 := w11) HXq10.out (by first | exact hb | exact (bal brf _ : Below _ _ _).trans (hb.mono (by simp)) | exact (bal (bal brf _) _ : Below _ _ _).trans (hb.mono (by simp)) | exact (bdr brf : Below _ _ _).trans hb))
    have HXs11 := Lib.hid (at2_later (w1 := w11) HXs10.out (by first | exact hb | exact (bal brf _ : Below _ _ _).trans (hb.mono (by simp)) | exact (bal (bal brf _) _ : Below _ _ _).trans (hb.mono (by simp)) | exact (bdr brf : Below _ _ _).trans hb))
    have HXa11 := Lib.hid (at2_later (w1 := w11) HXa10.out (by first | exact hb | exact (bal brf _ : Below _ _ _).trans (hb.mono (by simp)) | exact (bal (bal brf _) _ : Below _ _ _).trans (hb.mono (by simp)) | exact (bdr brf : Below _ _ _).trans hb))
    have HXb11 := Lib.hid (at2_later (w1 := w11) HXb10.out (by first | exact hb | exact (bal brf _ : Below _ _ _).trans (hb.mono (by simp)) | exact (bal (bal brf _) _ : Below _ _ _).trans (hb.mono (by simp)) | exact (bdr brf : Below _ _ _).trans hb))
    have HXx11 := Lib.hid (at5_later (w1 := w11) HXx10.out (by first | exact hb | exact (bal brf _ : Below _ _ _).trans (hb.mono (by simp)) | exact (bal (bal brf _) _ : Below _ _ _).trans (hb.mono (by simp)) | exact (bdr brf : Below _ _ _).trans hb))
    have HXy11 := Lib.hid (at5_later (w1 := w11) HXy10.out (by first | exact hb | exact (bal brf _ : Below _ _ _).trans (hb.mono (by simp)) | exact (bal (bal brf _) _ : Below _ _ _).trans (hb.mono (by simp)) | exact (bdr brf : Below _ _ _).trans hb))
    have HXd11 := Lib.hid (at2_later (w1 := w11) HXd10.out (by first | exact hb | exact (bal brf _ : Below _ _ _).trans (hb.mono (by simp)) | exact (bal (bal brf _) _ : Below _ _ _).trans (hb.mono (by simp)) | exact (bdr brf : Below _ _ _).trans hb))
    have HXe11 := Lib.hid (at2_later (w1 := w11) HXe10.out (by first | exact hb | exact (bal brf _ : Below _ _ _).trans (hb.mono (by simp)) | exact (bal (bal brf _) _ : Below _ _ _).trans (hb.mono (by simp)) | exact (bdr brf : Below _ _ _).trans hb))
    have HQS2 := Lib.hid (HQS2.out.below (by first | exact hb | exact (bal brf _ : Below _ _ _).trans (hb.mono (by simp)) | exact (bal (bal brf _) _ : Below _ _ _).trans (hb.mono (by simp))))
    have HQ6 := Lib.hid (HQ6.out.below (by first | exact hb | exact (bal brf _ : Below _ _ _).trans (hb.mono (by simp)) | exact (bal (bal brf _) _ : Below _ _ _).trans (hb.mono (by simp))))
    have HQ7 := Lib.hid (HQ7.out.below (by first | exact hb | exact (bal brf _ : Below _ _ _).trans (hb.mono (by simp)) | exact (bal (bal brf _) _ : Below _ _ _).trans (hb.mono (by simp))))
    have HR8 := Lib.hid (HR8.out.below (by first | exact hb | exact (bal brf _ : Below _ _ _).trans (hb.mono (by simp)) | exact (bal (bal brf _) _ : Below _ _ _).trans (hb.mono (by simp))))
    have HR9 := Lib.hid (HR9.out.below (by first | exact hb | exact (bal brf _ : Below _ _ _).trans (hb.mono (by simp)) | exact (bal (bal brf _) _ : Below _ _ _).trans (hb.mono (by simp))))
    have HQ10 := Lib.hid (HQ10.out.below (by first | exact hb | exact (bal brf _ : Below _ _ _).trans (hb.mono (by simp)) | exact (bal (bal brf _) _ : Below _ _ _).trans (hb.mono (by simp))))
    have HQ11 := Lib.hid (HQ11.out.below (by first | exact hb | exact (bal brf _ : Below _ _ _).trans (hb.mono (by simp)) | exact (bal (bal brf _) _ : Below _ _ _).trans (hb.mono (by simp))))
    clear hb
    obtain ⟨ba0, ba1, fa0, fa1⟩ := HXa11.out
    have za := cell_lt ba0
    obtain ⟨bb0, bb1, fb0, fb1⟩ := HXb11.out
    have zb := cell_lt bb0
    go_wp2_with fail
    refine (same17_true nx' A6 A7 n7 c6 c7 qs6 qs7 _ HQ6.out HQ7.out (HM6.out.trans HM7.out.symm) (by rw [HM6.out]; exact HPUT.out.2.2)).mono ?_
    rintro e w12 ⟨rfl, hb⟩
    clear ba0 ba1 fa0 fa1 za bb0 bb1 fb0 fb1 zb
    have HB12 : Hid (Below w.heap.size w w12) := Lib.hid (by first | exact bgo HB11.out hb | exact bgo (bal HB11.out _) hb | exact bgo (bal (bal HB11.out _) _) hb | exact bgo (bdr HB11.out) hb)
    have HXc12 := Lib.hid (cfg_later (w1 := w12) HXc11.out (by first | exact hb | exact (bal brf _ : Below _ _ _).trans (hb.mono (by simp)) | exact (bal (bal brf _) _ : Below _ _ _).trans (hb.mono (by simp)) | exact (bdr brf : Below _ _ _).trans hb))
    have HXq12 := Lib.hid (at2_later (w1 := w12) HXq11.out (by first | exact hb | exact (bal brf _ : Below _ _ _).trans (hb.mono (by simp)) | exact (bal (bal brf _) _ : Below _ _ _).trans (hb.mono (by simp)) | exact (bdr brf : Below _ _ _).trans hb))
    have HXs12 := Lib.hid (at2_later (w1 := w12) HXs11.out (by first | exact hb | exact (bal brf _ : Below _ _ _).trans (hb.mono (by simp)) | exact (bal (bal brf _) _ : Below _ _ _).trans (hb.mono (by simp)) | exact (bdr brf : Below _ _ _).trans hb))
    have HXa12 := Lib.hid (at2_later (w1 := w12) HXa11.out (by first | exact hb | exact (bal brf _ : Below _ _ _).trans (hb.mono (by simp)) | exact (bal (bal brf _) _ : Below _ _ _).trans (hb.mono (by simp)) | exact (bdr brf : Below _ _ _).trans hb))
    have HXb12 := Lib.hid (at2_later (w1 := w12) HXb11.out (by first | exact hb | exact (bal brf _ : Below _ _ _).trans (hb.mono (by simp)) | exact (bal (bal brf _) _ : Below _ _ _).trans (hb.mono (by simp)) | exact (bdr brf : Below _ _ _).trans hb))
    have HXx12 := Lib.hid (at5_later (w1 := w12) HXx11.out (by first | exact hb | exact (bal brf _ : Below _ _ _).trans (hb.mono (by simp)) | exact (bal (bal brf _) _ : Below _ _ _).trans (hb.mono (by simp)) | exact (bdr brf : Below _ _ _).trans hb))
    have HXy12 := Lib.hid (at5_later (w1 := w12) HXy11.out (by first | exact hb | exact (bal brf _ : Below _ _ _).trans (hb.mono (by simp)) | exact (bal (bal brf _) _ : Below _ _ _).trans (hb.mono (by simp)) | exact (bdr brf : Below _ _ _).trans hb))
    have HXd12 := Lib.hid (at2_later (w1 := w12) HXd11.out (by first | exact hb | exact (bal brf _ : Below _ _ _).trans (hb.mono (by simp)) | exact (bal (bal brf _) _ : Below _ _ _).trans (hb.mono (by simp)) | exact (bdr brf : Below _ _ _).trans hb))
    have HXe12 := Lib.hid (at2_later (w1 := w12) HXe11.out (by first | exact hb | exact (bal brf _ : Below _ _ _).trans (hb.mono (by simp)) | exact (bal (bal brf _) _ : Below _ _ _).trans (hb.mono (by simp)) | exact (bdr brf : Below _ _ _).trans hb))
    have HQS2 := Lib.hid (HQS2.out.below (by first | exact hb | exact (bal brf _ : Below _ _ _).trans (hb.mono (by simp)) | exact (bal (bal brf _) _ : Below _ _ _).trans (hb.mono (by simp))))
    have HQ6 := Lib.hid (HQ6.out.below (by first | exact hb | exact (bal brf _ : Below _ _ _).trans (hb.mono (by simp)) | exact (bal (bal brf _) _ : Below _ _ _).trans (hb.mono (by simp))))
    have HQ7 := Lib.hid (HQ7.out.below (by first | exact hb | exact (bal brf _ : Below _ _ _).trans (hb.mono (by simp)) | exact (bal (bal brf _) _ : Below _ _ _).trans (hb.mono (by simp))))
    have HR8 := Lib.hid (HR8.out.below (by first | exact hb | exact (bal brf _ : Below _ _ _).trans (hb.mono (by simp)) | exact (bal (bal brf _) _ : Below _ _ _).trans (hb.mono (by simp))))
    have HR9 := Lib.hid (HR9.out.below (by first | exact hb | exact (bal brf _ : Below _ _ _).trans (hb.mono (by simp)) | exact (bal (bal brf _) _ : Below _ _ _).trans (hb.mono (by simp))))
    have HQ10 := Lib.hid (HQ10.out.below (by first | exact hb | exact (bal brf _ : Below _ _ _).trans (hb.mono (by simp)) | exact (bal (bal brf _) _ : Below _ _ _).trans (hb.mono (by simp))))
    have HQ11 := Lib.hid (HQ11.out.below (by first | exact hb | exact (bal brf _ : Below _ _ _).trans (hb.mono (by simp)) | exact (bal (bal brf _) _ : Below _ _ _).trans (hb.mono (by simp))))
    clear hb
    obtain ⟨⟨bx0, bx1, bx2, bx3, bx4⟩, fx0, fx1, fx2, fx3, fx4⟩ := HXx12.out
    have zx := cell_lt bx0
    obtain ⟨⟨by0, by1, by2, by3, by4⟩, fy0, fy1, fy2, fy3, fy4⟩ := HXy12.out
    have zy := cell_lt by0
    go_wp2_with fail
    refine (same_letter hl2 A8 A9 _ _ c8 c9 _ rfl rfl HR8.out HR9.out HHEAD.out.2.2).mono ?_
    rintro e w13 ⟨rfl, hb⟩
    clear bx0 bx1 bx2 bx3 bx4 fx0 fx1 fx2 fx3 fx4 zx by0 by1 by2 by3 by4 fy0 fy1 fy2 fy3 fy4 zy
    have HB13 : Hid (Below w.heap.size w w13) := Lib.hid (by first | exact bgo HB12.out hb | exact bgo (bal HB12.out _) hb | exact bgo (bal (bal HB12.out _) _) hb | exact bgo (bdr HB12.out) hb)
    have HXc13 := Lib.hid (cfg_later (w1 := w13) HXc12.out (by first | exact hb | exact (bal brf _ : Below _ _ _).trans (hb.mono (by simp)) | exact (bal (bal brf _) _ : Below _ _ _).trans (hb.mono (by simp)) | exact (bdr brf : Below _ _ _).trans hb))
    have HXq13 := Lib.hid (at2_later (w1 := w13) HXq12.out (by first | exact hb | exact (bal brf _ : Below _ _ _).trans (hb.mono (by simp)) | exact (bal (bal brf _) _ : Below _ _ _).trans (hb.mono (by simp)) | exact (bdr brf : Below _ _ _).trans hb))
    have HXs13 := Lib.hid (at2_later (w1 := w13) HXs12.out (by first | exact hb | exact (bal brf _ : Below _ _ _).trans (hb.mono (by simp)) | exact (bal (bal brf _) _ : Below _ _ _).trans (hb.mono (by simp)) | exact (bdr brf : Below _ _ _).trans hb))
    have HXa13 := Lib.hid (at2_later (w1 := w13) HXa12.out (by first | exact hb | exact (bal brf _ : Below _ _ _).trans (hb.mono (by simp)) | exact (bal (bal brf _) _ : Below _ _ _).trans (hb.mono (by simp)) | exact (bdr brf : Below _ _ _).trans hb))
    have HXb13 := Lib.hid (at2_later (w1 := w13) HXb12.out (by first | exact hb | exact (bal brf _ : Below _ _ _).trans (hb.mono (by simp)) | exact (bal (bal brf _) _ : Below _ _ _).trans (hb.mono (by simp)) | exact (bdr brf : Below _ _ _).trans hb))
    have HXx13 := Lib.hid (at5_later (w1 := w13) HXx12.out (by first | exact hb | exact (bal brf _ : Below _ _ _).trans (hb.mono (by simp)) | exact (bal (bal brf _) _ : Below _ _ _).trans (hb.mono (by simp)) | exact (bdr brf : Below _ _ _).trans hb))
    have HXy13 := Lib.hid (at5_later (w1 := w13) HXy12.out (by first | exact hb | exact (bal brf _ : Below _ _ _).trans (hb.mono (by simp)) | exact (bal (bal brf _) _ : Below _ _ _).trans (hb.mono (by simp)) | exact (bdr brf : Below _ _ _).trans hb))
    have HXd13 := Lib.hid (at2_later (w1 := w13) HXd12.out (by first | exact hb | exact (bal brf _ : Below _ _ _).trans (hb.mono (by simp)) | exact (bal (bal brf _) _ : Below _ _ _).trans (hb.mono (by simp)) | exact (bdr brf : Below _ _ _).trans hb))
    have HXe13 := Lib.hid (at2_later (w1 := w13) HXe12.out (by first | exact hb | exact (bal brf _ : Below _ _ _).trans (hb.mono (by simp)) | exact (bal (bal brf _) _ : Below _ _ _).trans (hb.mono (by simp)) | exact (bdr brf : Below _ _ _).trans hb))
    have HQS2 := Lib.hid (HQS2.out.below (by first | exact hb | exact (bal brf _ : Below _ _ _).trans (hb.mono (by simp)) | exact (bal (bal brf _) _ : Below _ _ _).trans (hb.mono (by simp))))
    have HQ6 := Lib.hid (HQ6.out.below (by first | exact hb | exact (bal brf _ : Below _ _ _).trans (hb.mono (by simp)) | exact (bal (bal brf _) _ : Below _ _ _).trans (hb.mono (by simp))))
    have HQ7 := Lib.hid (HQ7.out.below (by first | exact hb | exact (bal brf _ : Below _ _ _).trans (hb.mono (by simp)) | exact (bal (bal brf _) _ : Below _ _ _).trans (hb.mono (by simp))))
    have HR8 := Lib.hid (HR8.out.below (by first | exact hb | exact (bal brf _ : Below _ _ _).trans (hb.mono (by simp)) | exact (bal (bal brf _) _ : Below _ _ _).trans (hb.mono (by simp))))
    have HR9 := Lib.hid (HR9.out.below (by first | exact hb | exact (bal brf _ : Below _ _ _).trans (hb.mono (by simp)) | exact (bal (bal brf _) _ : Below _ _ _).trans (hb.mono (by simp))))
    have HQ10 := Lib.hid (HQ10.out.below (by first | exact hb | exact (bal brf _ : Below _ _ _).trans (hb.mono (by simp)) | exact (bal (bal brf _) _ : Below _ _ _).trans (hb.mono (by simp))))
    have HQ11 := Lib.hid (HQ11.out.below (by first | exact hb | exact (bal brf _ : Below _ _ _).trans (hb.mono (by simp)) | exact (bal (bal brf _) _ : Below _ _ _).trans (hb.mono (by simp))))
    clear hb
    obtain ⟨bd0, bd1, fd0, fd1⟩ := HXd13.out
    have zd := cell_lt bd0
    obtain ⟨be0, be1, fe0, fe1⟩ := HXe13.out
    have ze := cell_lt be0
    go_wp2_with fail
    refine (same17_true nx A10 A11 n11 c10 c11 qs10 qs11 _ HQ10.out HQ11.out (HM10.out.trans HM11.out.symm) (by rw [HM10.out]; exact HPOP.out.2.2)).mono ?_
    rintro e w14 ⟨rfl, hb⟩
    clear bd0 bd1 fd0 fd1 zd be0 be1 fe0 fe1 ze
    have HB14 : Hid (Below w.heap.size w w14) := Lib.hid (by first | exact bgo HB13.out hb | exact bgo (bal HB13.out _) hb | exact bgo (bal (bal HB13.out _) _) hb | exact bgo (bdr HB13.out) hb)
    have HXc14 := Lib.hid (cfg_later (w1 := w14) HXc13.out (by first | exact hb | exact (bal brf _ : Below _ _ _).trans (hb.mono (by simp)) | exact (bal (bal brf _) _ : Below _ _ _).trans (hb.mono (by simp)) | exact (bdr brf : Below _ _ _).trans hb))
    have HXq14 := Lib.hid (at2_later (w1 := w14) HXq13.out (by first | exact hb | exact (bal brf _ : Below _ _ _).trans (hb.mono (by simp)) | exact (bal (bal brf _) _ : Below _ _ _).trans (hb.mono (by simp)) | exact (bdr brf : Below _ _ _).trans hb))
    have HXs14 := Lib.hid (at2_later (w1 := w14) HXs13.out (by first | exact hb | exact (bal brf _ : Below _ _ _).trans (hb.mono (by simp)) | exact (bal (bal brf _) _ : Below _ _ _).trans (hb.mono (by simp)) | exact (bdr brf : Below _ _ _).trans hb))
    have HXa14 := Lib.hid (at2_later (w1 := w14) HXa13.out (by first | exact hb | exact (bal brf _ : Below _ _ _).trans (hb.mono (by simp)) | exact (bal (bal brf _) _ : Below _ _ _).trans (hb.mono (by simp)) | exact (bdr brf : Below _ _ _).trans hb))
    have HXb14 := Lib.hid (at2_later (w1 := w14) HXb13.out (by first | exact hb | exact (bal brf _ : Below _ _ _).trans (hb.mono (by simp)) | exact (bal (bal brf _) _ : Below _ _ _).trans (hb.mono (by simp)) | exact (bdr brf : Below _ _ _).trans hb))
    have HXx14 := Lib.hid (at5_later (w1 := w14) HXx13.out (by first | exact hb | exact (bal brf _ : Below _ _ _).trans (hb.mono (by simp)) | exact (bal (bal brf _) _ : Below _ _ _).trans (hb.mono (by simp)) | exact (bdr brf : Below _ _ _).trans hb))
    have HXy14 := Lib.hid (at5_later (w1 := w14) HXy13.out (by first | exact hb | exact (bal brf _ : Below _ _ _).trans (hb.mono (by simp)) | exact (bal (bal brf _) _ : Below _ _ _).trans (hb.mono (by simp)) | exact (bdr brf : Below _ _ _).trans hb))
    have HXd14 := Lib.hid (at2_later (w1 := w14) HXd13.out (by first | exact hb | exact (bal brf _ : Below _ _ _).trans (hb.mono (by simp)) | exact (bal (bal brf _) _ : Below _ _ _).trans (hb.mono (by simp)) | exact (bdr brf : Below _ _ _).trans hb))
    have HXe14 := Lib.hid (at2_later (w1 := w14) HXe13.out (by first | exact hb | exact (bal brf _ : Below _ _ _).trans (hb.mono (by simp)) | exact (bal (bal brf _) _ : Below _ _ _).trans (hb.mono (by simp)) | exact (bdr brf : Below _ _ _).trans hb))
    have HQS2 := Lib.hid (HQS2.out.below (by first | exact hb | exact (bal brf _ : Below _ _ _).trans (hb.mono (by simp)) | exact (bal (bal brf _) _ : Below _ _ _).trans (hb.mono (by simp))))
    have HQ6 := Lib.hid (HQ6.out.below (by first | exact hb | exact (bal brf _ : Below _ _ _).trans (hb.mono (by simp)) | exact (bal (bal brf _) _ : Below _ _ _).trans (hb.mono (by simp))))
    have HQ7 := Lib.hid (HQ7.out.below (by first | exact hb | exact (bal brf _ : Below _ _ _).trans (hb.mono (by simp)) | exact (bal (bal brf _) _ : Below _ _ _).trans (hb.mono (by simp))))
    have HR8 := Lib.hid (HR8.out.below (by first | exact hb | exact (bal brf _ : Below _ _ _).trans (hb.mono (by simp)) | exact (bal (bal brf _) _ : Below _ _ _).trans (hb.mono (by simp))))
    have HR9 := Lib.hid (HR9.out.below (by first | exact hb | exact (bal brf _ : Below _ _ _).trans (hb.mono (by simp)) | exact (bal (bal brf _) _ : Below _ _ _).trans (hb.mono (by simp))))
    have HQ10 := Lib.hid (HQ10.out.below (by first | exact hb | exact (bal brf _ : Below _ _ _).trans (hb.mono (by simp)) | exact (bal (bal brf _) _ : Below _ _ _).trans (hb.mono (by simp))))
    have HQ11 := Lib.hid (HQ11.out.below (by first | exact hb | exact (bal brf _ : Below _ _ _).trans (hb.mono (by simp)) | exact (bal (bal brf _) _ : Below _ _ _).trans (hb.mono (by simp))))
    clear hb
    obtain ⟨bq0, bq1, fq0, fq1⟩ := HXq14.out
    have zq := cell_lt bq0
    obtain ⟨bs0, bs1, fs0, fs1⟩ := HXs14.out
    have zs := cell_lt bs0
    go_wp2_with fail
    refine (same17_true nx A A5 n c c5 ps ps _ (HQ0.out.below HB14.out) HQS2.out rfl HT.out).mono ?_
    rintro e w15 ⟨rfl, hb⟩
    clear bq0 bq1 fq0 fq1 zq bs0 bs1 fs0 fs1 zs
    have HB15 : Hid (Below w.heap.size w w15) := Lib.hid (by first | exact bgo HB14.out hb | exact bgo (bal HB14.out _) hb | exact bgo (bal (bal HB14.out _) _) hb | exact bgo (bdr HB14.out) hb)
    have HXc15 := Lib.hid (cfg_later (w1 := w15) HXc14.out (by first | exact hb | exact (bal brf _ : Below _ _ _).trans (hb.mono (by simp)) | exact (bal (bal brf _) _ : Below _ _ _).trans (hb.mono (by simp)) | exact (bdr brf : Below _ _ _).trans hb))
    have HXq15 := Lib.hid (at2_later (w1 := w15) HXq14.out (by first | exact hb | exact (bal brf _ : Below _ _ _).trans (hb.mono (by simp)) | exact (bal (bal brf _) _ : Below _ _ _).trans (hb.mono (by simp)) | exact (bdr brf : Below _ _ _).trans hb))
    have HXs15 := Lib.hid (at2_later (w1 := w15) HXs14.out (by first | exact hb | exact (bal brf _ : Below _ _ _).trans (hb.mono (by simp)) | exact (bal (bal brf _) _ : Below _ _ _).trans (hb.mono (by simp)) | exact (bdr brf : Below _ _ _).trans hb))
    have HXa15 := Lib.hid (at2_later (w1 := w15) HXa14.out (by first | exact hb | exact (bal brf _ : Below _ _ _).trans (hb.mono (by simp)) | exact (bal (bal brf _) _ : Below _ _ _).trans (hb.mono (by simp)) | exact (bdr brf : Below _ _ _).trans hb))
    have HXb15 := Lib.hid (at2_later (w1 := w15) HXb14.out (by first | exact hb | exact (bal brf _ : Below _ _ _).trans (hb.mono (by simp)) | exact (bal (bal brf _) _ : Below _ _ _).trans (hb.mono (by simp)) | exact (bdr brf : Below _ _ _).trans hb))
    have HXx15 := Lib.hid (at5_later (w1 := w15) HXx14.out (by first | exact hb | exact (bal brf _ : Below _ _ _).trans (hb.mono (by simp)) | exact (bal (bal brf _) _ : Below _ _ _).trans (hb.mono (by simp)) | exact (bdr brf : Below _ _ _).trans hb))
    have HXy15 := Lib.hid (at5_later (w1 := w15) HXy14.out (by first | exact hb | exact (bal brf _ : Below _ _ _).trans (hb.mono (by simp)) | exact (bal (bal brf _) _ : Below _ _ _).trans (hb.mono (by simp)) | exact (bdr brf : Below _ _ _).trans hb))
    have HXd15 := Lib.hid (at2_later (w1 := w15) HXd14.out (by first | exact hb | exact (bal brf _ : Below _ _ _).trans (hb.mono (by simp)) | exact (bal (bal brf _) _ : Below _ _ _).trans (hb.mono (by simp)) | exact (bdr brf : Below _ _ _).trans hb))
    have HXe15 := Lib.hid (at2_later (w1 := w15) HXe14.out (by first | exact hb | exact (bal brf _ : Below _ _ _).trans (hb.mono (by simp)) | exact (bal (bal brf _) _ : Below _ _ _).trans (hb.mono (by simp)) | exact (bdr brf : Below _ _ _).trans hb))
    clear hb
    go_wp2_with fail
    go_ret
    exact ⟨rfl, HB15.out⟩

theorem queueDoes_walk (D : Option Addr) (dn dc : Nat) (ch st cl qu clo lo ag wi ro se : Int) (nx fr tu : Int) (A : Option Addr) (n c : Nat) (ps : List (Ltr × Value)) (E : Option Addr) (m mc : Nat) (seq : Int) (xs : List Int) (w : World) (hq : QAt w A n c ps) (hby : n * 56 ≤ 140737488351232) (ht : TxtOk (ps.map (·.1))) (hn0 : 0 ≤ nx) (hn1 : nx ≤ 18446744073709551615) (hE : Rd w E (nums .u8 xs)) (hm : xs.length = m) (hb : Byt xs) :
    Calls Try.prog 4 #[cfgV (.slice D dn dc) ch st cl qu clo lo ag wi ro se, .agg #[.int .u64 nx, .slice A n c], .int .i64 fr, .int .i64 tu, .slice E m mc, .int .u64 seq] w (Yes w) := by
  by_cases hl : (300 : Int) < m
  · exact queueDoes_out D dn dc ch st cl qu clo lo ag wi ro se nx fr tu A n c ps E m mc seq xs w hq hby ht hl
  obtain ⟨nx', ls', k, hput⟩ := put_both D dn dc ch st cl qu clo lo ag wi ro se nx fr tu A n c ps E m mc xs hby ht hn0 hn1 hm (by omega) hb
  obtain ⟨l, b, hhead⟩ := head_both nx A n c ps hq.1 ht
  obtain ⟨lsp, bp, hpop⟩ := pop_both nx seq A n c ps hq.1 hby ht
  exact queueDoes_in D dn dc ch st cl qu clo lo ag wi ro se nx fr tu A n c ps E m mc seq xs w hq hby ht hl hE nx' k ls' hput l b hhead lsp bp hpop

theorem queueDoes_of {H : Type} {enc : TypeId × Value → H} (W : World) (base : Nat) (args : Array Value) (ds : List (DataW H)) (p : List MemPlace)
    (hval : ∀ (j : Nat) t v, Try.f4.params[j]? = some t → args[j]? = some v → Value.okWide Try.prog W .any base t v)
    (hA : DataW.TrodAll enc Try.prog W 0 (fun _ => true) true Try.f4.params.toList args.toList ds p) (hlt : ∀ x ∈ p, x.block < W.heap.size)
    (hz : (DataW.weightsEach Try.prog Try.f4.params.toList ds).all (· ≤ reachBytes) = true) : Calls Try.prog 4 args W (Yes W) := by
  rw [Try.params4] at hA hval hz
  obtain ⟨v0, vs0, d0, ds0, p0, q0, hargs, rfl, rfl, h0, r0⟩ := trodAll_cons hA
  obtain ⟨v1, vs1, d1, ds1, p1, q1, rfl, rfl, rfl, h1, r1⟩ := trodAll_cons r0
  obtain ⟨v2, vs2, d2, ds2, p2, q2, rfl, rfl, rfl, h2, r2⟩ := trodAll_cons r1
  obtain ⟨v3, vs3, d3, ds3, p3, q3, rfl, rfl, rfl, h3, r3⟩ := trodAll_cons r2
  obtain ⟨v4, vs4, d4, ds4, p4, q4, rfl, rfl, rfl, h4, r4⟩ := trodAll_cons r3
  obtain ⟨v5, vs5, d5, ds5, p5, q5, rfl, rfl, rfl, h5, r5⟩ := trodAll_cons r4
  obtain ⟨rfl, rfl, rfl⟩ := trodAll_nil r5
  obtain rfl : args = #[v0, v1, v2, v3, v4, v5] := by cases args; simp_all
  obtain ⟨D, dn, dc, ch, st, cl, qu, clo, lo, ag, wi, ro, se, rfl⟩ := open_cfg (hval 0 _ _ rfl rfl) h0
  obtain ⟨nx, A, n, c, ps, rfl, g1, g2, hq, hby, ht⟩ := open_queue (hval 1 _ _ rfl rfl) h1 (fun m hm => of_decide_eq_true (List.all_eq_true.1 hz m (DataW.weights_mem_each (j := 1) rfl rfl m hm)))
  obtain ⟨fr, rfl, rfl, rfl, _⟩ := open_int Try.underlying3 (hval 2 _ _ rfl rfl) h2
  obtain ⟨tu, rfl, rfl, rfl, _⟩ := open_int Try.underlying3 (hval 3 _ _ rfl rfl) h3
  obtain ⟨E, m, mc, xs, rfl, hm, _, _, hE, hb⟩ := open_bytesQ h4 (hval 4 _ _ rfl rfl)
  obtain ⟨seq, rfl, rfl, rfl, _⟩ := open_int Try.underlying23 (hval 5 _ _ rfl rfl) h5
  exact queueDoes_walk D dn dc ch st cl qu clo lo ag wi ro se nx fr tu A n c ps E m mc seq xs W hq hby ht g1 g2 hE hm hb
end Go.Proofs.Ytfgkeodkakidpaa
