/- The chapter's example. -/
import Derived.Test.YtfgkeodkakidpaaQj
import Derived.Deep.DeepCutAuto
namespace Go.Proofs.Ytfgkeodkakidpaa
open Go.RowKit
set_option linter.unusedSimpArgs false
set_option linter.unusedVariables false
set_option maxRecDepth 100000

theorem map_nil_of {qs : List (Ltr × Value)} (h : qs.map (·.1) = []) : qs = [] := by simpa using h
theorem map_one_of {qs : List (Ltr × Value)} {l : Ltr} (h : qs.map (·.1) = [l]) : ∃ v, qs = [(l, v)] := by
  match qs, h with
  | [(l', v)], h => simp at h; subst h; exact ⟨v, rfl⟩
theorem map_cons_of {qs : List (Ltr × Value)} {l : Ltr} {ls : List Ltr} (h : qs.map (·.1) = l :: ls) : ∃ v qs', qs = (l, v) :: qs' ∧ qs'.map (·.1) = ls := by
  match qs, h with
  | (l', v) :: qs', h =>
    rw [List.map_cons, List.cons.injEq] at h
    obtain ⟨h1, h2⟩ := h
    subst h1
    exact ⟨v, qs', rfl, h2⟩

/-- The configuration's box, cell by cell. -/
abbrev CfgA (x : World) (b : Nat) (s : Value) (ch st cl qu clo lo ag wi ro se : Int) : Prop :=
  x.cell? ⟨b, 0, none⟩ = some s ∧ x.cell? ⟨b, 1, none⟩ = some (.int .i64 ch) ∧ x.cell? ⟨b, 2, none⟩ = some (.int .i64 st) ∧ x.cell? ⟨b, 3, none⟩ = some (.int .i64 cl) ∧ x.cell? ⟨b, 4, none⟩ = some (.int .i64 qu) ∧ x.cell? ⟨b, 5, none⟩ = some (.int .i64 clo) ∧
  x.cell? ⟨b, 6, none⟩ = some (.int .i64 lo) ∧ x.cell? ⟨b, 7, none⟩ = some (.int .i64 ag) ∧ x.cell? ⟨b, 8, none⟩ = some (.int .i64 wi) ∧ x.cell? ⟨b, 9, none⟩ = some (.int .u64 ro) ∧ x.cell? ⟨b, 10, none⟩ = some (.int .u64 se)
theorem cfgA_of {x : World} {b : Nat} {s : Value} {ch st cl qu clo lo ag wi ro se : Int} (h : CfgAt x b s ch st cl qu clo lo ag wi ro se) : CfgA x b s ch st cl qu clo lo ag wi ro se := h
theorem cfgA_alloc {x : World} {o : Obj} {b : Nat} {s : Value} {ch st cl qu clo lo ag wi ro se : Int} (h : CfgA x b s ch st cl qu clo lo ag wi ro se) : CfgA (x.alloc o) b s ch st cl qu clo lo ag wi ro se := CfgAt.alloc h o

theorem rd_new17 (w : World) (x : Int) (t : TypeId) : Rd (w.alloc (.cells #[.int .u8 x] t)) (some ⟨w.heap.size, 0, none⟩) (nums .u8 [x]) :=
  .inr ⟨_, _, rfl, by simp, fun i v hv => by
    have := app_there w #[.int .u8 x] t i v hv
    rwa [addr_off] at this⟩
theorem cfgA_set2 {x : World} {K b : Nat} {u v s : Value} {ch st cl qu clo lo ag wi ro se : Int} (h : CfgA x b s ch st cl qu clo lo ag wi ro se) (hne : K ≠ b) : CfgA ((x.setCell ⟨K, 0, none⟩ u).setCell ⟨K, 1, none⟩ v) b s ch st cl qu clo lo ag wi ro se := by
  obtain ⟨h0, h1, h2, h3, h4, h5, h6, h7, h8, h9, h10⟩ := h
  have k : ∀ {i : Nat} {y : Value}, x.cell? ⟨b, i, none⟩ = some y → ((x.setCell ⟨K, 0, none⟩ u).setCell ⟨K, 1, none⟩ v).cell? ⟨b, i, none⟩ = some y := fun hy => (cell_setCell_far hne).trans ((cell_setCell_far hne).trans hy)
  exact ⟨k h0, k h1, k h2, k h3, k h4, k h5, k h6, k h7, k h8, k h9, k h10⟩
theorem byt_one (x : Int) (h : 0 ≤ x) (h' : x ≤ 255) : Byt [x] := fun y hy => by
  simp at hy; subst hy; exact ⟨h, h'⟩

theorem rd_new17H {K : Nat} (w : World) (x : Int) (t : TypeId) (h : w.heap.size = K) : Rd (w.alloc (.cells #[.int .u8 x] t)) (some ⟨K, 0, none⟩) (nums .u8 [x]) := by
  subst h; exact rd_new17 w x t
theorem At2.newH {K : Nat} (w : World) (v0 v1 : Value) (t : TypeId) (h : w.heap.size = K) : At2 (w.alloc (.cells #[v0, v1] t)) K v0 v1 := by
  subst h; exact At2.new w v0 v1 t
theorem At2.later {w w' : World} {b : Nat} {v0 v1 : Value} (h : At2 w b v0 v1) (hb : Below w.heap.size w w') : At2 w' b v0 v1 := h.below hb (cell_lt h.1)

theorem at_put {x y : World} {K : Nat} {u v : Value} (h : At2 x K u v) (hb : Below x.heap.size x y) : K < x.heap.size ∧ At2 y K u v := ⟨cell_lt h.1, h.later hb⟩
abbrev l57 : Ltr := (false, 0, 1, 5, [7])
abbrev cfgL : Obj := .cells #[.slice none 0 0, .int .i64 0, .int .i64 0, .int .i64 2, .int .i64 1, .int .i64 0, .int .i64 0, .int .i64 0, .int .i64 0, .int .u64 0, .int .u64 0] 25
/-- What stands behind the example's first letter. -/
def LIV (W x : World) (B2 : Nat) (A : Option Addr) (n c : Nat) (qs : List (Ltr × Value)) : Prop :=
  Below W.heap.size W x ∧ At2 x B2 (.int .u64 6) (.slice A n c) ∧ QAt x A n c qs ∧ qs.map (·.1) = [l57]
theorem liv_new {W x : World} {b n c : Nat} {A : Option Addr} {qs : List (Ltr × Value)} (hb : Below W.heap.size W x) (hq : QOwn x b A n c qs) (hm : qs.map (·.1) = [l57]) : LIV W (x.alloc (.cells #[.int .u64 6, .slice A n c] 28)) x.heap.size A n c qs :=
  ⟨bal hb _, At2.new _ _ _ _, hq.at_.below (bal brf _), hm⟩
theorem liv_set {W x : World} {b n c K : Nat} {A : Option Addr} {qs : List (Ltr × Value)} {u v : Value} (hb : Below W.heap.size W x) (hat : At2 x K u v) (hK : W.heap.size ≤ K) (hq : QOwn x b A n c qs) (hKb : K < b) (hm : qs.map (·.1) = [l57]) :
    LIV W ((x.setCell ⟨K, 0, none⟩ (.int .u64 6)).setCell ⟨K, 1, none⟩ (.slice A n c)) K A n c qs := by
  obtain ⟨h0, h1, f0, f1⟩ := hat
  refine ⟨(hb.setCell (p := ⟨K, 0, none⟩) hK _).setCell (p := ⟨K, 1, none⟩) hK _, ⟨(cell_setCell_off (by omega)).trans (cell_setCell_eq h0), cell_setCell_eq ((cell_setCell_off (by omega)).trans h1), ?_, ?_⟩, ((hq.set hKb).set hKb).at_, hm⟩
  · simpa only [World.frozen?_setCell] using f0
  · simpa only [World.frozen?_setCell] using f1

set_option maxHeartbeats 1000000 in
theorem live_any (w : World) : Calls Try.prog 8 #[] w fun e w' => e = .returned (.bool true) ∧ Below w.heap.size w w' := by
  have C1 := fun (W : World) (E : Option Addr) (h : Rd W E (nums .u8 [7])) => (show Calls Try.prog 10 #[cfgV (.slice none 0 0) 0 0 2 1 0 0 0 0 0 0, .agg #[.int .u64 5, .slice none 0 0], .int .i64 0, .int .i64 1, .slice E 1 1] W (IsQO W 6 [l57] (.int .i64 1)) from
    put_accepts none 0 0 0 0 2 1 0 0 0 0 0 0 5 0 1 none 0 0 [] E 1 1 W ⟨rfl, Nat.le_refl _, Nat.zero_le _, LRow.nil⟩ (by decide) (fun l hl => by simp at hl) (by decide) (by decide) (by decide) (by decide) (by decide) (by decide) (by decide) [7] h rfl)
  have HC1 := Lib.hid C1
  clear C1
  obtain ⟨W, hW⟩ : ∃ W, W = w.alloc cfgL := ⟨_, rfl⟩
  have hcf : CfgAt W w.heap.size (.slice none 0 0) 0 0 2 1 0 0 0 0 0 0 := by rw [hW]; exact CfgAt.new w _ _ _ _ _ _ _ _ _ _ _ _
  have HCF := Lib.hid hcf
  have HBW : Hid (Below w.heap.size w W) := Lib.hid (by rw [hW]; exact bal brf _)
  have HSW : Hid (W.heap.size = w.heap.size + 1) := Lib.hid (by rw [hW]; simp)
  clear hcf
  go_enter Try.func8, Try.ntmps8
  go_wp2_with fail
  rw [← hW]
  clear hW
  obtain ⟨k0, k1, k2, k3, k4, k5, k6, k7, k8, k9, kx⟩ := HCF.out
  have HBX : Hid (Below W.heap.size W W.drew) := Lib.hid (bdr brf)
  go_cut [2, 3] (fun a b wx => ∃ (B2 : Nat) (A : Option Addr) (n c : Nat) (qs : List (Ltr × Value)), a = .pointer (some ⟨B2, 0, none⟩) ∧ b = .int .i64 1 ∧ Hid (LIV W wx B2 A n c qs))
  case first =>
    have hS0 : CfgA W.drew w.heap.size (.slice none 0 0) 0 0 2 1 0 0 0 0 0 0 := HCF.out
    have hlt0 : w.heap.size < W.heap.size := by rw [HSW.out]; omega
    have HLT := Lib.hid hlt0
    go_region_held3 (fun x => CfgA x w.heap.size (.slice none 0 0) 0 0 2 1 0 0 0 0 0 0) (first | with_reducible exact hS2 | with_reducible exact cfgA_alloc hS2 | with_reducible exact cfgA_set2 hS2 (by have := HLT.out; omega) | with_reducible exact hS1 | with_reducible exact cfgA_alloc hS1 | with_reducible exact cfgA_alloc (cfgA_alloc hS1) | exact hS0 | exact cfgA_alloc hS0 | exact cfgA_alloc (cfgA_alloc hS0))
     (first
      | (go_at_call 17; go_must (refine (new_any 5 _).mono ?_; rintro e w1 ⟨rfl, hb1⟩; (first
          | (have HBX := Lib.hid (bgo HBX.out hb1))
          | (have HRb := Lib.hid ((rd_new17 W.drew 7 5).below hb1); have HBX := Lib.hid (bgo (bal HBX.out _) hb1))
          | (have HAt := Lib.hid ((At2.newH (K := W.heap.size) W.drew (.int .u64 0) (.slice none 0 0) 28 rfl).later hb1); have hK : W.heap.size ≤ W.heap.size := Nat.le_refl _; have HBX := Lib.hid (bgo (bal HBX.out _) hb1))
          | (have HRb := Lib.hid (((rd_new17 W.drew 7 5).below (bal brf _)).below hb1); have HAt := Lib.hid ((At2.newH (K := W.heap.size + 1) (W.drew.alloc (.cells #[.int .u8 7] 5)) (.int .u64 0) (.slice none 0 0) 28 (by simp)).later hb1); have hK : W.heap.size ≤ W.heap.size + 1 := Nat.le_succ _; have HBX := Lib.hid (bgo (bal (bal HBX.out _) _) hb1))
          | (have HRb := Lib.hid ((rd_new17H (K := W.heap.size + 1) (W.drew.alloc (.cells #[.int .u64 0, .slice none 0 0] 28)) 7 5 (by simp)).below hb1); have HAt := Lib.hid (((At2.newH (K := W.heap.size) W.drew (.int .u64 0) (.slice none 0 0) 28 rfl).alloc _).later hb1); have hK : W.heap.size ≤ W.heap.size := Nat.le_refl _; have HBX := Lib.hid (bgo (bal (bal HBX.out _) _) hb1))); have hS1 : CfgA w1 w.heap.size (.slice none 0 0) 0 0 2 1 0 0 0 0 0 0 := HCF.out.below HBX.out HLT.out))
      | (go_at_call 10; go_must (refine (HC1.out _ _ (by first | exact HRb.out | exact HRb.out.below (bal brf _) | exact rd_new17 w1 7 _ | exact (rd_new17 w1 7 _).below (bal brf _) | exact rd_new17H _ 7 _ (by simp))).mono ?_; rintro e w2 ⟨A2, n2, c2, qs2, rfl, hqs2, hq2, hb2⟩; have HQ2 := Lib.hid hq2; have HM2 := Lib.hid hqs2; (try ((first | (have HP := Lib.hid (at_put HAt.out hb2); have hK2 := hK) | (have HP := Lib.hid (at_put (HAt.out.alloc _) hb2); have hK2 := hK) | (have HP := Lib.hid (at_put (At2.new w1 (.int .u64 0) (.slice none 0 0) 28) hb2); have hK2 := HBX.out.size) | (have HP := Lib.hid (at_put ((At2.new w1 (.int .u64 0) (.slice none 0 0) 28).alloc _) hb2); have hK2 := HBX.out.size) | (have HP := Lib.hid (at_put (At2.newH (K := w1.heap.size + 1) (w1.alloc _) (.int .u64 0) (.slice none 0 0) 28 (by simp)) hb2); have hK2 := Nat.le_succ_of_le HBX.out.size)); obtain ⟨_, s0, s1, t0, t1⟩ := HP.out)); (first | (have HBX2 := Lib.hid (bgo HBX.out hb2)) | (have HBX2 := Lib.hid (bgo (bal HBX.out _) hb2)) | (have HBX2 := Lib.hid (bgo (bal (bal HBX.out _) _) hb2))); have hS2 : CfgA w2 w.heap.size (.slice none 0 0) 0 0 2 1 0 0 0 0 0 0 := HCF.out.below HBX2.out HLT.out)))
    all_goals (first | (go_simp; go_step; go_meet) | (go_step; go_meet) | go_meet)
    all_goals first
      | exact ⟨_, A2, n2, c2, qs2, rfl, rfl, Lib.hid (liv_new HBX2.out HQ2.out HM2.out)⟩
      | exact ⟨_, A2, n2, c2, qs2, rfl, rfl, Lib.hid (liv_set HBX2.out HP.out.2 hK2 HQ2.out HP.out.1 HM2.out)⟩
  case rest =>
    obtain ⟨B2, A, n, c, qs, rfl, rfl, HL⟩ := hcut
    obtain ⟨wm, hwm⟩ : ∃ x, x = wc := ⟨_, rfl⟩
    subst hwm
    obtain ⟨hb, hat, hq, hm⟩ := HL.out
    obtain ⟨v, rfl⟩ := map_one_of hm
    obtain rfl : n = 1 := hq.1.symm
    have hlt : w.heap.size < W.heap.size := by rw [HSW.out]; omega
    have HCm := Lib.hid (HCF.out.below hb hlt)
    have HBm := Lib.hid (bgo HBW.out hb)
    have HQm := Lib.hid hq
    obtain ⟨c0, c1, c2, c3, c4, c5, c6, c7, c8, c9, cx⟩ := HCm.out
    obtain ⟨a0, a1, _, _⟩ := hat
    clear hb hq hm HL HCF HBX HBW HSW k0 k1 k2 k3 k4 k5 k6 k7 k8 k9 kx
    go_wp2_with fail
    refine (put_full none 0 0 0 0 2 1 0 0 0 0 0 0 6 0 1 A 1 c _ _ 1 1 _ (HQm.out.below (bal brf _)) (by decide) (fun l hl => by simp at hl; subst hl; exact ⟨byt_one 7 (by decide) (by decide), by decide⟩) (by decide) (by decide) (by decide) (by decide) (by decide)).mono ?_
    rintro e w3 ⟨A3, n3, d3, qs3, rfl, hm3, hq3, hb3⟩
    have hq3 := hq3.at_
    obtain ⟨v3, rfl⟩ := map_one_of hm3
    obtain rfl : n3 = 1 := hq3.1.symm
    have hb3 := (bal brf _ : Below wm.heap.size wm _).trans (hb3.mono (by simp))
    have HC3 := Lib.hid (HCm.out.below hb3 (cell_lt HCm.out.1))
    have HB3 := Lib.hid (bgo HBm.out hb3)
    have HQ3 := Lib.hid hq3
    obtain ⟨c0, c1, c2, c3, c4, c5, c6, c7, c8, c9, cx⟩ := HC3.out
    clear hb3 hq3 hm3
    go_wp2_with fail
    refine (pop_first 6 5 A3 1 d3 _ v3 [] _ (HQ3.out.below (bal brf _)) (by decide) (fun l hl => by simp at hl; subst hl; exact ⟨byt_one 7 (by decide) (by decide), by decide⟩) rfl).mono ?_
    rintro e w4 ⟨A4, n4, d4, qs4, rfl, hm4, hq4, hb4⟩
    have hq4 := hq4.at_
    obtain rfl := map_nil_of hm4
    obtain rfl : n4 = 0 := hq4.1.symm
    have hb4 := (bal brf _ : Below w3.heap.size w3 _).trans (hb4.mono (by simp))
    have HC4 := Lib.hid (HC3.out.below hb4 (cell_lt HC3.out.1))
    have HB4 := Lib.hid (bgo HB3.out hb4)
    have HQ4 := Lib.hid hq4
    obtain ⟨c0, c1, c2, c3, c4, c5, c6, c7, c8, c9, cx⟩ := HC4.out
    have z4 : w.heap.size < w4.heap.size := cell_lt c0
    have HAt4 := Lib.hid (At2.new w4 (.int .u64 6) (.slice A4 0 d4) 28)
    clear hb4 hq4 hm4
    go_wp2_with fail
    refine (put_accepts none 0 0 0 0 2 1 0 0 0 0 0 0 6 0 1 A4 0 d4 [] _ 1 1 _ (HQ4.out.below (bal (bal brf _) _)) (by decide) (fun l hl => by simp at hl) (by decide) (by decide) (by decide) (by decide) (by decide) (by decide) (by decide) [8] (rd_new17H _ 8 _ (by simp)) rfl).mono ?_
    rintro e w5 ⟨A5, n5, d5, qs5, rfl, hm5, hq5, hb5⟩
    have HB5 := Lib.hid (bgo (bal (bal HB4.out _) _) hb5)
    obtain ⟨b0, b1, _, _⟩ := (HAt4.out.alloc _).later hb5
    have z5 : w4.heap.size < w5.heap.size := cell_lt b0
    clear hb5 hq5 hm5
    go_wp2_with fail
    go_ret
    exact ⟨rfl, bal HB5.out _⟩
end Go.Proofs.Ytfgkeodkakidpaa
