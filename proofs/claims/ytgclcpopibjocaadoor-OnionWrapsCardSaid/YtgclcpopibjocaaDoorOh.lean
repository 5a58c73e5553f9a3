/- Onions: whether keys are few, and what may not be wrapped; an onion is longer by a layer for each hop more. -/
import Derived.Test.YtgclcpopibjocaaDoorOf
import Derived.Test.YtgclcpopibjocaaDoorLh0
import Derived.Deep.RegionHeld3
import Derived.Deep.DeepMust
namespace Go.Proofs.YtgclcpopibjocaaDoor
open Go.RowKit Go.ChangeShapes Go.WideShapes Go.ChangeAt
set_option linter.unusedSimpArgs false
set_option linter.unusedVariables false
set_option maxRecDepth 100000

def fewL (Ls : List (List Int)) : Prop := (∀ i, i < Ls.length → (Ls.getD i []).length ≤ 200) ∧ Ls.length ≤ 20
set_option maxHeartbeats 1000000 in
theorem few_yes (A : Option Addr) (n c : Nat) (vs : List Value) (Ls : List (List Int)) (w : World) (hn : Ls.length = n) (hy : Rd w A vs) (hq : Parts w vs Ls) (h : fewL Ls) :
    Calls Tryd.prog 37 #[.slice A n c] w (IsMay true w) := by
  have HN := Lib.hid hn
  have H := Lib.hid h
  have hn20 : n ≤ 20 := by rw [← hn]; exact h.2
  have H2 : Hid (∀ i, i < n → (Ls.getD i []).length ≤ 200) := Lib.hid (by rw [← hn]; exact h.1)
  clear hn h
  go_enter Tryd.func37, Tryd.ntmps37
  go_wp2
  go_loopw [7] (fun i wr => ∃ k : Nat, k ≤ n ∧ i = .int .i64 k ∧ wr = w ∧ Hid (∀ j, j < k → (Ls.getD j []).length ≤ 200)) (fun i _ => n - (intOf i).toNat)
  case atStart => exact ⟨0, Nat.zero_le _, rfl, rfl, Lib.hid (fun j hj => by omega)⟩
  case round =>
    obtain ⟨k, hk, rfl, rfl, HK⟩ := hrel
    have r0 : (0 : Int) ≤ k := by omega
    by_cases hlt : k < n
    · have r5 : (k : Int) < n := by omega
      obtain ⟨b, o, A', c', rfl, hb, hc, _, _⟩ := part_at hy hq HN.out hlt
      obtain ⟨t, ht⟩ : ∃ t, t = (Ls.getD k []).length := ⟨_, rfl⟩
      rw [← ht] at hc
      have HT := Lib.hid ht
      have ht2 : t ≤ 200 := by rw [ht]; exact H2.out k hlt
      clear hy hq ht
      have r6 : ¬ (200 : Int) < t := by omega
      go_wp2
      exact ⟨⟨k + 1, by omega, by go_num, trivial, Lib.hid (fun j hj => by
        by_cases e : j = k
        · subst e; rw [← HT.out]; exact ht2
        · exact HK.out j (by omega))⟩, by show n - ((k : Int) + 1).toNat < n - (k : Int).toNat; omega⟩
    · have hkm : n = k := by omega
      subst hkm
      clear hlt hk hy hq
      have r7 : (n : Int) ≤ 20 := by omega
      go_wp2
      go_ret
      exact ⟨by simp, rfl⟩

set_option maxHeartbeats 1000000 in
theorem few_no (A : Option Addr) (n c : Nat) (vs : List Value) (Ls : List (List Int)) (w : World) (hn : Ls.length = n) (hy : Rd w A vs) (hq : Parts w vs Ls) (h : ¬ fewL Ls) (hmax : n ≤ maxLen) :
    Calls Tryd.prog 37 #[.slice A n c] w (IsMay false w) := by
  have HN := Lib.hid hn
  have H := Lib.hid h
  unfold maxLen at hmax
  have HF : Hid ((∀ i, i < n → (Ls.getD i []).length ≤ 200) → 20 < n) := Lib.hid (fun h2 => by
    apply Classical.byContradiction
    intro h3
    exact h ⟨by rw [hn]; exact h2, by omega⟩)
  clear hn h
  go_enter Tryd.func37, Tryd.ntmps37
  go_wp2
  go_loopw [7] (fun i wr => ∃ k : Nat, k ≤ n ∧ i = .int .i64 k ∧ wr = w ∧ Hid (∀ j, j < k → (Ls.getD j []).length ≤ 200)) (fun i _ => n - (intOf i).toNat)
  case atStart => exact ⟨0, Nat.zero_le _, rfl, rfl, Lib.hid (fun j hj => by omega)⟩
  case round =>
    obtain ⟨k, hk, rfl, rfl, HK⟩ := hrel
    have r0 : (0 : Int) ≤ k := by omega
    by_cases hlt : k < n
    · have r5 : (k : Int) < n := by omega
      obtain ⟨b, o, A', c', rfl, hb, hc, _, _⟩ := part_at hy hq HN.out hlt
      obtain ⟨t, ht⟩ : ∃ t, t = (Ls.getD k []).length := ⟨_, rfl⟩
      rw [← ht] at hc
      have HT := Lib.hid ht
      clear hy hq ht
      by_cases ht2 : t ≤ 200
      · have r6 : ¬ (200 : Int) < t := by omega
        go_wp2
        exact ⟨⟨k + 1, by omega, by go_num, trivial, Lib.hid (fun j hj => by
          by_cases e : j = k
          · subst e; rw [← HT.out]; exact ht2
          · exact HK.out j (by omega))⟩, by show n - ((k : Int) + 1).toNat < n - (k : Int).toNat; omega⟩
      · have r6 : (200 : Int) < t := by omega
        go_wp2
        go_ret
        exact ⟨rfl, rfl⟩
    · have hkm : n = k := by omega
      subst hkm
      have h20 := HF.out HK.out
      clear hlt hk hy hq
      have r7 : ¬ (n : Int) ≤ 20 := by omega
      go_wp2
      go_ret
      exact ⟨by simp, rfl⟩

def IsWrapNo (w : World) (e : Ending) (w' : World) : Prop := e = .returned (.tuple #[.slice none 0 0, .int .i64 1]) ∧ Below w.heap.size w w'
set_option maxHeartbeats 1000000 in
theorem wrap_no (A B C : Option Addr) (n c m d p f : Nat) (vs us : List Value) (Ls Ns : List (List Int)) (body : List Int) (w : World) (hn : Ls.length = n) (hm : Ns.length = m) (hp : body.length = p) (hy : Rd w B us) (hq : Parts w us Ns) (h : ¬ mayWr Ls Ns body) (hbig : ∀ i, i < m → (Ns.getD i []).length ≤ 100000) :
    Calls Tryd.prog 38 #[.slice A n c, .slice B m d, .slice C p f] w (IsWrapNo w) := by
  have CM := fun W h1 h2 => mayWrap_no A B C n c m d p f vs us Ls Ns body W hn hm hp h1 h2 h hbig
  have hb4 : ∀ o1 o2 o3 o4, Below w.heap.size w ((((w.alloc o1).alloc o2).alloc o3).alloc o4) := fun _ _ _ _ => bal (bal (bal (bal brf _) _) _) _
  have HB4 := Lib.hid hb4
  have HY := Lib.hid hy
  have HQ := Lib.hid hq
  clear hn hm hp hy hq h hbig hb4
  go_enter Tryd.func38, Tryd.ntmps38
  go_wp2_with (go_at_call 63; refine (CM _ (HY.out.below (HB4.out _ _ _ _)) (HQ.out.below (HB4.out _ _ _ _))).mono ?_; rintro e w1 ⟨rfl, rfl⟩)
  refine bodyPost_ret (v := .tuple #[.slice none 0 0, .int .i64 1]) (by simp [results, Tryd.results38, go_sem]) rfl ⟨rfl, ?_⟩
  exact HB4.out _ _ _ _

set_option maxHeartbeats 1000000 in
theorem onionSize_y0 (A B : Option Addr) (n c d : Nat) (vs us : List Value) (Ls Ns : List (List Int)) (l : List Int) (z : Int) (w : World) (hn : Ls.length = n) (hm : Ns.length = n) (hl : l.length = 78) (hx : Rd w A vs) (hp : Parts w vs Ls) (hy : Rd w B us) (hq : Parts w us Ns) (hK : Konst w) (f1 : fewL Ls) (f2 : fewL Ns) (h : mayWr Ls Ns l) (hz : z < 1) : Calls Tryd.prog 11 #[.slice A n c, .slice B n d, .agg (nums .u8 l).toArray, .int .i64 z] w (Yes w) := by
  obtain ⟨cs, hcs⟩ : ∃ cs, cs = (nums .u8 l).toArray := ⟨_, rfl⟩
  have hsz : cs.size = 78 := by rw [hcs]; simp [hl]
  have HR0 := Lib.hid (show Rd (w.alloc (.cells cs 59)) (some ⟨w.heap.size, 0, none⟩) (nums .u8 l) by rw [hcs]; exact rd_new w l _)
  rw [← hcs]
  have HX := Lib.hid (hx.below (bal brf (.cells cs 59)))
  have HP := Lib.hid (hp.below (bal brf (.cells cs 59)))
  have HY := Lib.hid (hy.below (bal brf (.cells cs 59)))
  have HQ := Lib.hid (hq.below (bal brf (.cells cs 59)))
  have F1 := fun W h1 h2 => few_yes A n c vs Ls W hn h1 h2 f1
  have F2 := fun W h1 h2 => few_yes B n d us Ns W hm h1 h2 f2
  have e1 : lenO z = 0 := if_neg (by omega)
  have hK1 := hK.go (bal brf (.cells cs 59))
  have CW := fun W h1 h2 h3 h4 h5 hK => wrap_yes A B (some ⟨w.heap.size, 0, none⟩) n c d 78 vs us Ls Ns l W hn h (fun i hi => by have := f1.1 i (by omega); omega) (by omega) h1 h2 h3 h4 h5 hK
  have n1 : 1 ≤ n := by rw [← hn]; exact h.1
  have n8 : n ≤ 8 := by rw [← hn]; exact h.2.1
  have hwl : (wrapL Ls Ns l).length = 78 + 48 * n := by rw [wrapL_len Ls Ns l h.2.2.1 h.2.2.2.1, hl, hn]
  have e2 : lenO n = ((78 + 48 * n : Nat) : Int) := lenO_nat n1 n8
  obtain ⟨M, hM⟩ : ∃ M, M = 78 + 48 * n := ⟨_, rfl⟩
  rw [← hM] at hwl e2
  have E2 := Lib.hid e2
  have HWL := Lib.hid hwl
  have HK := Lib.hid hK1
  clear hK hK1 e2 hwl hM
  have E1 := Lib.hid e1
  clear hx hp hy hq hn hm hl f1 f2 h hcs e1
  go_enter Tryd.func11, Tryd.ntmps11
  go_wp2_with (first
    | (go_at_call 31; refine (live9_any _).mono ?_; rintro e w1 ⟨rfl, rfl⟩)
    | (go_at_call 37; first | ((with_reducible refine (F1 _ HX.out HP.out).mono ?_); rintro e w2 ⟨rfl, rfl⟩) | ((with_reducible refine (F2 _ HY.out HQ.out).mono ?_); rintro e w2 ⟨rfl, rfl⟩))
    | (go_at_call 38; refine (CW _ HX.out HP.out HY.out HQ.out HR0.out HK.out).mono ?_; rintro e w3 ⟨A3, c3, he, hc3, hr3, hb3⟩; rw [HWL.out] at he; subst he; have HBX := bgo (bal brf _) hb3)
    | (go_at_call 39; first | ((with_reducible refine (olen_any (n : Int) _).mono ?_); rintro e w4 ⟨he, rfl⟩; rw [E2.out] at he; subst he) | (refine (olen_any z _).mono ?_; rintro e w4 ⟨he, rfl⟩; rw [E1.out] at he; subst he)))
  go_ret
  exact ⟨by simp, HBX⟩

set_option maxHeartbeats 1000000 in
theorem onionSize_y1 (A B : Option Addr) (n c d : Nat) (vs us : List Value) (Ls Ns : List (List Int)) (l : List Int) (z : Int) (w : World) (hn : Ls.length = n) (hm : Ns.length = n) (hl : l.length = 78) (hx : Rd w A vs) (hp : Parts w vs Ls) (hy : Rd w B us) (hq : Parts w us Ns) (hK : Konst w) (f1 : fewL Ls) (f2 : fewL Ns) (h : mayWr Ls Ns l) (hz : 8 < z) : Calls Tryd.prog 11 #[.slice A n c, .slice B n d, .agg (nums .u8 l).toArray, .int .i64 z] w (Yes w) := by
  obtain ⟨cs, hcs⟩ : ∃ cs, cs = (nums .u8 l).toArray := ⟨_, rfl⟩
  have hsz : cs.size = 78 := by rw [hcs]; simp [hl]
  have HR0 := Lib.hid (show Rd (w.alloc (.cells cs 59)) (some ⟨w.heap.size, 0, none⟩) (nums .u8 l) by rw [hcs]; exact rd_new w l _)
  rw [← hcs]
  have HX := Lib.hid (hx.below (bal brf (.cells cs 59)))
  have HP := Lib.hid (hp.below (bal brf (.cells cs 59)))
  have HY := Lib.hid (hy.below (bal brf (.cells cs 59)))
  have HQ := Lib.hid (hq.below (bal brf (.cells cs 59)))
  have F1 := fun W h1 h2 => few_yes A n c vs Ls W hn h1 h2 f1
  have F2 := fun W h1 h2 => few_yes B n d us Ns W hm h1 h2 f2
  have e1 : lenO z = 0 := if_neg (by omega)
  have hK1 := hK.go (bal brf (.cells cs 59))
  have CW := fun W h1 h2 h3 h4 h5 hK => wrap_yes A B (some ⟨w.heap.size, 0, none⟩) n c d 78 vs us Ls Ns l W hn h (fun i hi => by have := f1.1 i (by omega); omega) (by omega) h1 h2 h3 h4 h5 hK
  have n1 : 1 ≤ n := by rw [← hn]; exact h.1
  have n8 : n ≤ 8 := by rw [← hn]; exact h.2.1
  have hwl : (wrapL Ls Ns l).length = 78 + 48 * n := by rw [wrapL_len Ls Ns l h.2.2.1 h.2.2.2.1, hl, hn]
  have e2 : lenO n = ((78 + 48 * n : Nat) : Int) := lenO_nat n1 n8
  obtain ⟨M, hM⟩ : ∃ M, M = 78 + 48 * n := ⟨_, rfl⟩
  rw [← hM] at hwl e2
  have E2 := Lib.hid e2
  have HWL := Lib.hid hwl
  have HK := Lib.hid hK1
  clear hK hK1 e2 hwl hM
  have E1 := Lib.hid e1
  clear hx hp hy hq hn hm hl f1 f2 h hcs e1
  go_enter Tryd.func11, Tryd.ntmps11
  go_wp2_with (first
    | (go_at_call 31; refine (live9_any _).mono ?_; rintro e w1 ⟨rfl, rfl⟩)
    | (go_at_call 37; first | ((with_reducible refine (F1 _ HX.out HP.out).mono ?_); rintro e w2 ⟨rfl, rfl⟩) | ((with_reducible refine (F2 _ HY.out HQ.out).mono ?_); rintro e w2 ⟨rfl, rfl⟩))
    | (go_at_call 38; refine (CW _ HX.out HP.out HY.out HQ.out HR0.out HK.out).mono ?_; rintro e w3 ⟨A3, c3, he, hc3, hr3, hb3⟩; rw [HWL.out] at he; subst he; have HBX := bgo (bal brf _) hb3)
    | (go_at_call 39; first | ((with_reducible refine (olen_any (n : Int) _).mono ?_); rintro e w4 ⟨he, rfl⟩; rw [E2.out] at he; subst he) | (refine (olen_any z _).mono ?_; rintro e w4 ⟨he, rfl⟩; rw [E1.out] at he; subst he)))
  go_ret
  exact ⟨by simp, HBX⟩

set_option maxHeartbeats 1000000 in
theorem onionSize_y2 (A B : Option Addr) (n c d : Nat) (vs us : List Value) (Ls Ns : List (List Int)) (l : List Int) (z : Int) (w : World) (hn : Ls.length = n) (hm : Ns.length = n) (hl : l.length = 78) (hx : Rd w A vs) (hp : Parts w vs Ls) (hy : Rd w B us) (hq : Parts w us Ns) (hK : Konst w) (f1 : fewL Ls) (f2 : fewL Ns) (h : mayWr Ls Ns l) (h1 : 1 ≤ z) (h8 : z ≤ 8) : Calls Tryd.prog 11 #[.slice A n c, .slice B n d, .agg (nums .u8 l).toArray, .int .i64 z] w (Yes w) := by
  obtain ⟨cs, hcs⟩ : ∃ cs, cs = (nums .u8 l).toArray := ⟨_, rfl⟩
  have hsz : cs.size = 78 := by rw [hcs]; simp [hl]
  have HR0 := Lib.hid (show Rd (w.alloc (.cells cs 59)) (some ⟨w.heap.size, 0, none⟩) (nums .u8 l) by rw [hcs]; exact rd_new w l _)
  rw [← hcs]
  have HX := Lib.hid (hx.below (bal brf (.cells cs 59)))
  have HP := Lib.hid (hp.below (bal brf (.cells cs 59)))
  have HY := Lib.hid (hy.below (bal brf (.cells cs 59)))
  have HQ := Lib.hid (hq.below (bal brf (.cells cs 59)))
  have F1 := fun W h1 h2 => few_yes A n c vs Ls W hn h1 h2 f1
  have F2 := fun W h1 h2 => few_yes B n d us Ns W hm h1 h2 f2
  have e1 : lenO z = 78 + 48 * z := if_pos ⟨h1, h8⟩
  have hK1 := hK.go (bal brf (.cells cs 59))
  have CW := fun W h1 h2 h3 h4 h5 hK => wrap_yes A B (some ⟨w.heap.size, 0, none⟩) n c d 78 vs us Ls Ns l W hn h (fun i hi => by have := f1.1 i (by omega); omega) (by omega) h1 h2 h3 h4 h5 hK
  have n1 : 1 ≤ n := by rw [← hn]; exact h.1
  have n8 : n ≤ 8 := by rw [← hn]; exact h.2.1
  have hwl : (wrapL Ls Ns l).length = 78 + 48 * n := by rw [wrapL_len Ls Ns l h.2.2.1 h.2.2.2.1, hl, hn]
  have e2 : lenO n = ((78 + 48 * n : Nat) : Int) := lenO_nat n1 n8
  obtain ⟨M, hM⟩ : ∃ M, M = 78 + 48 * n := ⟨_, rfl⟩
  rw [← hM] at hwl e2
  have E2 := Lib.hid e2
  have HWL := Lib.hid hwl
  have HK := Lib.hid hK1
  clear hK hK1 e2 hwl hM
  have E1 := Lib.hid e1
  clear hx hp hy hq hn hm hl f1 f2 h hcs e1
  go_enter Tryd.func11, Tryd.ntmps11
  go_wp2_with (first
    | (go_at_call 31; refine (live9_any _).mono ?_; rintro e w1 ⟨rfl, rfl⟩)
    | (go_at_call 37; first | ((with_reducible refine (F1 _ HX.out HP.out).mono ?_); rintro e w2 ⟨rfl, rfl⟩) | ((with_reducible refine (F2 _ HY.out HQ.out).mono ?_); rintro e w2 ⟨rfl, rfl⟩))
    | (go_at_call 38; refine (CW _ HX.out HP.out HY.out HQ.out HR0.out HK.out).mono ?_; rintro e w3 ⟨A3, c3, he, hc3, hr3, hb3⟩; rw [HWL.out] at he; subst he; have HBX := bgo (bal brf _) hb3)
    | (go_at_call 39; first | ((with_reducible refine (olen_any (n : Int) _).mono ?_); rintro e w4 ⟨he, rfl⟩; rw [E2.out] at he; subst he) | (refine (olen_any z _).mono ?_; rintro e w4 ⟨he, rfl⟩; rw [E1.out] at he; subst he)))
  go_ret
  exact ⟨by simp, HBX⟩

set_option maxHeartbeats 1000000 in
theorem onionSize_n0 (A B : Option Addr) (n c m d : Nat) (vs us : List Value) (Ls Ns : List (List Int)) (l : List Int) (z : Int) (w : World) (hn : Ls.length = n) (hm : Ns.length = m) (hl : l.length = 78) (hx : Rd w A vs) (hp : Parts w vs Ls) (hy : Rd w B us) (hq : Parts w us Ns) (f1 : fewL Ls) (f2 : fewL Ns) (h : ¬ mayWr Ls Ns l) (hz : z < 1) : Calls Tryd.prog 11 #[.slice A n c, .slice B m d, .agg (nums .u8 l).toArray, .int .i64 z] w (Yes w) := by
  obtain ⟨cs, hcs⟩ : ∃ cs, cs = (nums .u8 l).toArray := ⟨_, rfl⟩
  have hsz : cs.size = 78 := by rw [hcs]; simp [hl]
  have HR0 := Lib.hid (show Rd (w.alloc (.cells cs 59)) (some ⟨w.heap.size, 0, none⟩) (nums .u8 l) by rw [hcs]; exact rd_new w l _)
  rw [← hcs]
  have HX := Lib.hid (hx.below (bal brf (.cells cs 59)))
  have HP := Lib.hid (hp.below (bal brf (.cells cs 59)))
  have HY := Lib.hid (hy.below (bal brf (.cells cs 59)))
  have HQ := Lib.hid (hq.below (bal brf (.cells cs 59)))
  have F1 := fun W h1 h2 => few_yes A n c vs Ls W hn h1 h2 f1
  have F2 := fun W h1 h2 => few_yes B m d us Ns W hm h1 h2 f2
  have e1 : lenO z = 0 := if_neg (by omega)
  have CW := fun W h1 h2 => wrap_no A B (some ⟨w.heap.size, 0, none⟩) n c m d 78 78 vs us Ls Ns l W hn hm hl h1 h2 h (fun i hi => by have := f2.1 i (by omega); omega)
  have E1 := Lib.hid e1
  clear hx hp hy hq hn hm hl f1 f2 h hcs e1
  go_enter Tryd.func11, Tryd.ntmps11
  go_wp2_with (first
    | (go_at_call 31; refine (live9_any _).mono ?_; rintro e w1 ⟨rfl, rfl⟩)
    | (go_at_call 37; first | ((with_reducible refine (F1 _ HX.out HP.out).mono ?_); rintro e w2 ⟨rfl, rfl⟩) | ((with_reducible refine (F2 _ HY.out HQ.out).mono ?_); rintro e w2 ⟨rfl, rfl⟩))
    | (go_at_call 38; refine (CW _ HY.out HQ.out).mono ?_; rintro e w3 ⟨rfl, hb3⟩; have HBX := bgo (bal brf _) hb3)
    | (go_at_call 39; refine (olen_any z _).mono ?_; rintro e w4 ⟨he, rfl⟩; rw [E1.out] at he; subst he))
  go_ret
  exact ⟨by simp, HBX⟩

set_option maxHeartbeats 1000000 in
theorem onionSize_n1 (A B : Option Addr) (n c m d : Nat) (vs us : List Value) (Ls Ns : List (List Int)) (l : List Int) (z : Int) (w : World) (hn : Ls.length = n) (hm : Ns.length = m) (hl : l.length = 78) (hx : Rd w A vs) (hp : Parts w vs Ls) (hy : Rd w B us) (hq : Parts w us Ns) (f1 : fewL Ls) (f2 : fewL Ns) (h : ¬ mayWr Ls Ns l) (hz : 8 < z) : Calls Tryd.prog 11 #[.slice A n c, .slice B m d, .agg (nums .u8 l).toArray, .int .i64 z] w (Yes w) := by
  obtain ⟨cs, hcs⟩ : ∃ cs, cs = (nums .u8 l).toArray := ⟨_, rfl⟩
  have hsz : cs.size = 78 := by rw [hcs]; simp [hl]
  have HR0 := Lib.hid (show Rd (w.alloc (.cells cs 59)) (some ⟨w.heap.size, 0, none⟩) (nums .u8 l) by rw [hcs]; exact rd_new w l _)
  rw [← hcs]
  have HX := Lib.hid (hx.below (bal brf (.cells cs 59)))
  have HP := Lib.hid (hp.below (bal brf (.cells cs 59)))
  have HY := Lib.hid (hy.below (bal brf (.cells cs 59)))
  have HQ := Lib.hid (hq.below (bal brf (.cells cs 59)))
  have F1 := fun W h1 h2 => few_yes A n c vs Ls W hn h1 h2 f1
  have F2 := fun W h1 h2 => few_yes B m d us Ns W hm h1 h2 f2
  have e1 : lenO z = 0 := if_neg (by omega)
  have CW := fun W h1 h2 => wrap_no A B (some ⟨w.heap.size, 0, none⟩) n c m d 78 78 vs us Ls Ns l W hn hm hl h1 h2 h (fun i hi => by have := f2.1 i (by omega); omega)
  have E1 := Lib.hid e1
  clear hx hp hy hq hn hm hl f1 f2 h hcs e1
  go_enter Tryd.func11, Tryd.ntmps11
  go_wp2_with (first
    | (go_at_call 31; refine (live9_any _).mono ?_; rintro e w1 ⟨rfl, rfl⟩)
    | (go_at_call 37; first | ((with_reducible refine (F1 _ HX.out HP.out).mono ?_); rintro e w2 ⟨rfl, rfl⟩) | ((with_reducible refine (F2 _ HY.out HQ.out).mono ?_); rintro e w2 ⟨rfl, rfl⟩))
    | (go_at_call 38; refine (CW _ HY.out HQ.out).mono ?_; rintro e w3 ⟨rfl, hb3⟩; have HBX := bgo (bal brf _) hb3)
    | (go_at_call 39; refine (olen_any z _).mono ?_; rintro e w4 ⟨he, rfl⟩; rw [E1.out] at he; subst he))
  go_ret
  exact ⟨by simp, HBX⟩

set_option maxHeartbeats 1000000 in
theorem onionSize_n2 (A B : Option Addr) (n c m d : Nat) (vs us : List Value) (Ls Ns : List (List Int)) (l : List Int) (z : Int) (w : World) (hn : Ls.length = n) (hm : Ns.length = m) (hl : l.length = 78) (hx : Rd w A vs) (hp : Parts w vs Ls) (hy : Rd w B us) (hq : Parts w us Ns) (f1 : fewL Ls) (f2 : fewL Ns) (h : ¬ mayWr Ls Ns l) (h1 : 1 ≤ z) (h8 : z ≤ 8) : Calls Tryd.prog 11 #[.slice A n c, .slice B m d, .agg (nums .u8 l).toArray, .int .i64 z] w (Yes w) := by
  obtain ⟨cs, hcs⟩ : ∃ cs, cs = (nums .u8 l).toArray := ⟨_, rfl⟩
  have hsz : cs.size = 78 := by rw [hcs]; simp [hl]
  have HR0 := Lib.hid (show Rd (w.alloc (.cells cs 59)) (some ⟨w.heap.size, 0, none⟩) (nums .u8 l) by rw [hcs]; exact rd_new w l _)
  rw [← hcs]
  have HX := Lib.hid (hx.below (bal brf (.cells cs 59)))
  have HP := Lib.hid (hp.below (bal brf (.cells cs 59)))
  have HY := Lib.hid (hy.below (bal brf (.cells cs 59)))
  have HQ := Lib.hid (hq.below (bal brf (.cells cs 59)))
  have F1 := fun W h1 h2 => few_yes A n c vs Ls W hn h1 h2 f1
  have F2 := fun W h1 h2 => few_yes B m d us Ns W hm h1 h2 f2
  have e1 : lenO z = 78 + 48 * z := if_pos ⟨h1, h8⟩
  have CW := fun W h1 h2 => wrap_no A B (some ⟨w.heap.size, 0, none⟩) n c m d 78 78 vs us Ls Ns l W hn hm hl h1 h2 h (fun i hi => by have := f2.1 i (by omega); omega)
  have E1 := Lib.hid e1
  clear hx hp hy hq hn hm hl f1 f2 h hcs e1
  go_enter Tryd.func11, Tryd.ntmps11
  go_wp2_with (first
    | (go_at_call 31; refine (live9_any _).mono ?_; rintro e w1 ⟨rfl, rfl⟩)
    | (go_at_call 37; first | ((with_reducible refine (F1 _ HX.out HP.out).mono ?_); rintro e w2 ⟨rfl, rfl⟩) | ((with_reducible refine (F2 _ HY.out HQ.out).mono ?_); rintro e w2 ⟨rfl, rfl⟩))
    | (go_at_call 38; refine (CW _ HY.out HQ.out).mono ?_; rintro e w3 ⟨rfl, hb3⟩; have HBX := bgo (bal brf _) hb3)
    | (go_at_call 39; refine (olen_any z _).mono ?_; rintro e w4 ⟨he, rfl⟩; rw [E1.out] at he; subst he))
  go_ret
  exact ⟨by simp, HBX⟩

theorem onionSize_f1 (A B : Option Addr) (n c m d : Nat) (vs us : List Value) (Ls Ns : List (List Int)) (l : List Int) (z : Int) (w : World) (hn : Ls.length = n) (hm : Ns.length = m) (hl : l.length = 78) (hx : Rd w A vs) (hp : Parts w vs Ls) (hy : Rd w B us) (hq : Parts w us Ns) (f1 : ¬ fewL Ls) (hmax : n ≤ maxLen) : Calls Tryd.prog 11 #[.slice A n c, .slice B m d, .agg (nums .u8 l).toArray, .int .i64 z] w (Yes w) := by
  obtain ⟨cs, hcs⟩ : ∃ cs, cs = (nums .u8 l).toArray := ⟨_, rfl⟩
  have hsz : cs.size = 78 := by rw [hcs]; simp [hl]
  have HR0 := Lib.hid (show Rd (w.alloc (.cells cs 59)) (some ⟨w.heap.size, 0, none⟩) (nums .u8 l) by rw [hcs]; exact rd_new w l _)
  rw [← hcs]
  have HX := Lib.hid (hx.below (bal brf (.cells cs 59)))
  have HP := Lib.hid (hp.below (bal brf (.cells cs 59)))
  have HY := Lib.hid (hy.below (bal brf (.cells cs 59)))
  have HQ := Lib.hid (hq.below (bal brf (.cells cs 59)))
  have F1 := fun W h1 h2 => few_no A n c vs Ls W hn h1 h2 f1 hmax
  clear hx hp hy hq hn hm hl hcs hmax
  go_enter Tryd.func11, Tryd.ntmps11
  go_wp2_with (first
    | (go_at_call 31; refine (live9_any _).mono ?_; rintro e w1 ⟨rfl, rfl⟩)
    | (go_at_call 37; first | ((with_reducible refine (F1 _ HX.out HP.out).mono ?_); rintro e w2 ⟨rfl, rfl⟩)))
  go_ret
  exact ⟨rfl, bal brf _⟩

theorem onionSize_f2 (A B : Option Addr) (n c m d : Nat) (vs us : List Value) (Ls Ns : List (List Int)) (l : List Int) (z : Int) (w : World) (hn : Ls.length = n) (hm : Ns.length = m) (hl : l.length = 78) (hx : Rd w A vs) (hp : Parts w vs Ls) (hy : Rd w B us) (hq : Parts w us Ns) (f1 : fewL Ls) (f2 : ¬ fewL Ns) (hmax : m ≤ maxLen) : Calls Tryd.prog 11 #[.slice A n c, .slice B m d, .agg (nums .u8 l).toArray, .int .i64 z] w (Yes w) := by
  obtain ⟨cs, hcs⟩ : ∃ cs, cs = (nums .u8 l).toArray := ⟨_, rfl⟩
  have hsz : cs.size = 78 := by rw [hcs]; simp [hl]
  have HR0 := Lib.hid (show Rd (w.alloc (.cells cs 59)) (some ⟨w.heap.size, 0, none⟩) (nums .u8 l) by rw [hcs]; exact rd_new w l _)
  rw [← hcs]
  have HX := Lib.hid (hx.below (bal brf (.cells cs 59)))
  have HP := Lib.hid (hp.below (bal brf (.cells cs 59)))
  have HY := Lib.hid (hy.below (bal brf (.cells cs 59)))
  have HQ := Lib.hid (hq.below (bal brf (.cells cs 59)))
  have F1 := fun W h1 h2 => few_yes A n c vs Ls W hn h1 h2 f1
  have F2 := fun W h1 h2 => few_no B m d us Ns W hm h1 h2 f2 hmax
  clear hx hp hy hq hn hm hl hcs hmax
  go_enter Tryd.func11, Tryd.ntmps11
  go_wp2_with (first
    | (go_at_call 31; refine (live9_any _).mono ?_; rintro e w1 ⟨rfl, rfl⟩)
    | (go_at_call 37; first | ((with_reducible refine (F1 _ HX.out HP.out).mono ?_); rintro e w2 ⟨rfl, rfl⟩) | ((with_reducible refine (F2 _ HY.out HQ.out).mono ?_); rintro e w2 ⟨rfl, rfl⟩)))
  go_ret
  exact ⟨rfl, bal brf _⟩

theorem onionSize_walk (A B : Option Addr) (n c m d : Nat) (vs us : List Value) (Ls Ns : List (List Int)) (l : List Int) (z : Int) (w : World) (hn : Ls.length = n) (hm : Ns.length = m) (hl : l.length = 78) (hx : Rd w A vs) (hp : Parts w vs Ls) (hy : Rd w B us) (hq : Parts w us Ns) (hK : Konst w) (x1 : n ≤ maxLen) (x2 : m ≤ maxLen) : Calls Tryd.prog 11 #[.slice A n c, .slice B m d, .agg (nums .u8 l).toArray, .int .i64 z] w (Yes w) := by
  by_cases f1 : fewL Ls
  · by_cases f2 : fewL Ns
    · by_cases h : mayWr Ls Ns l
      · obtain rfl : m = n := by rw [← hm, ← hn]; exact h.2.2.1
        by_cases z1 : z < 1
        · exact onionSize_y0 A B m c d vs us Ls Ns l z w hn hm hl hx hp hy hq hK f1 f2 h z1
        by_cases z8 : 8 < z
        · exact onionSize_y1 A B m c d vs us Ls Ns l z w hn hm hl hx hp hy hq hK f1 f2 h z8
        exact onionSize_y2 A B m c d vs us Ls Ns l z w hn hm hl hx hp hy hq hK f1 f2 h (by omega) (by omega)
      · by_cases z1 : z < 1
        · exact onionSize_n0 A B n c m d vs us Ls Ns l z w hn hm hl hx hp hy hq f1 f2 h z1
        by_cases z8 : 8 < z
        · exact onionSize_n1 A B n c m d vs us Ls Ns l z w hn hm hl hx hp hy hq f1 f2 h z8
        exact onionSize_n2 A B n c m d vs us Ls Ns l z w hn hm hl hx hp hy hq f1 f2 h (by omega) (by omega)
    · exact onionSize_f2 A B n c m d vs us Ls Ns l z w hn hm hl hx hp hy hq f1 f2 x2
  · exact onionSize_f1 A B n c m d vs us Ls Ns l z w hn hm hl hx hp hy hq f1 x1

theorem onionSize_of {H : Type} {enc : TypeId × Value → H} (W : World) (base : Nat) (args : Array Value) (ds : List (DataW H)) (p : List MemPlace)
    (hval : ∀ (j : Nat) t v, Tryd.f11.params[j]? = some t → args[j]? = some v → Value.okWide Tryd.prog W .any base t v)
    (hA : DataW.TrodAll enc Tryd.prog W 0 (fun _ => true) true Tryd.f11.params.toList args.toList ds p) (hlt : ∀ x ∈ p, x.block < W.heap.size)
    (hz : (DataW.weightsEach Tryd.prog Tryd.f11.params.toList ds).all (· ≤ reachBytes) = true) (hK : Konst W) : Calls Tryd.prog 11 args W (Yes W) := by
  rw [Tryd.params11] at hA hval hz
  obtain ⟨v0, vs0, d0, ds0, p0, q0, hargs, rfl, rfl, h0, r0⟩ := trodAll_cons hA
  obtain ⟨v1, vs1, d1, ds1, p1, q1, rfl, rfl, rfl, h1, r1⟩ := trodAll_cons r0
  obtain ⟨v2, vs2, d2, ds2, p2, q2, rfl, rfl, rfl, h2, r2⟩ := trodAll_cons r1
  obtain ⟨v3, vs3, d3, ds3, p3, q3, rfl, rfl, rfl, h3, r3⟩ := trodAll_cons r2
  obtain ⟨rfl, rfl, rfl⟩ := trodAll_nil r3
  obtain rfl : args = #[v0, v1, v2, v3] := by cases args; simp_all
  obtain ⟨A, n, c, vs, Ls, rfl, hc0, hd0, hv0, hr0, hp0, hb0⟩ := open_parts h0 (hval 0 _ _ rfl rfl)
  obtain ⟨B, m, d, us, Ns, rfl, hc1, hd1, hv1, hr1, hp1, hb1⟩ := open_parts h1 (hval 1 _ _ rfl rfl)
  obtain ⟨l, rfl, hl, bl⟩ := open_arr Tryd.underlying59 (by kernel_rfl) (hval 2 _ _ rfl rfl) h2
  obtain ⟨z, rfl, rfl, rfl, wz3⟩ := open_int Tryd.underlying3 (hval 3 _ _ rfl rfl) h3
  exact onionSize_walk A B n c m d vs us Ls Ns l z W (by rw [← hp0.1, hv0]) (by rw [← hp1.1, hv1]) hl hr0 hp0 hr1 hp1 hK (by omega) (by omega)
end Go.Proofs.YtgclcpopibjocaaDoor
/- An onion is a layer around the onion for the servers behind the first one. -/
namespace Go.Proofs.YtgclcpopibjocaaDoor
open Go.RowKit Go.ChangeShapes Go.WideShapes Go.ChangeAt
set_option linter.unusedSimpArgs false
set_option linter.unusedVariables false
set_option maxRecDepth 100000

theorem wrapL_byt : ∀ (Ls Ns : List (List Int)) (body : List Int), (∀ xs ∈ Ns, Byt xs) → Byt body → Byt (wrapL Ls Ns body)
  | s :: Ls, n :: Ns, body, h, hb => sealL_byt (h n (List.mem_cons_self ..)) (wrapL_byt Ls Ns body (fun xs hxs => h xs (List.mem_cons_of_mem _ hxs)) hb)
  | [], _, _, _, hb => by simpa [wrapL] using hb
  | _ :: _, [], _, _, hb => by simpa [wrapL] using hb
theorem wrapL_cons {Ls Ns : List (List Int)} (h1 : 0 < Ls.length) (h2 : 0 < Ns.length) (body : List Int) : wrapL Ls Ns body = sealL (Ls.getD 0 []) (Ns.getD 0 []) (wrapL (Ls.drop 1) (Ns.drop 1) body) := by
  match Ls, Ns, h1, h2 with
  | _ :: _, _ :: _, _, _ => rfl
theorem rd_drop {w : World} {b o : Nat} {vs : List Value} (h : Rd w (some ⟨b, o, none⟩) vs) (k : Nat) : Rd w (some ⟨b, o + k, none⟩) (vs.drop k) := by
  rcases h with h | ⟨b', o', he, hl, hc⟩
  · exact .inl (by rw [h]; simp)
  · cases he
    exact .inr ⟨b, o + k, rfl, hl, fun i v hv => by rw [Nat.add_assoc]; exact hc (k + i) v (by rw [List.getElem?_drop] at hv; exact hv)⟩
theorem parts_drop {w : World} {vs : List Value} {L : List (List Int)} (h : Parts w vs L) (k : Nat) : Parts w (vs.drop k) (L.drop k) := by
  refine ⟨by simp [h.1], fun i hi => ?_⟩
  rw [List.length_drop] at hi
  have := h.2 (k + i) (by omega)
  simpa [List.getD, List.getElem?_drop] using this
theorem getD_drop1 (L : List (List Int)) (i : Nat) : (L.drop 1).getD i [] = L.getD (1 + i) [] := by simp [List.getD, List.getElem?_drop, Nat.add_comm]
theorem mayWr_tail {Ls Ns : List (List Int)} {body : List Int} (h : mayWr Ls Ns body) (h2 : 2 ≤ Ls.length) : mayWr (Ls.drop 1) (Ns.drop 1) body := by
  obtain ⟨q1, q2, q3, q4, q5⟩ := h
  refine ⟨by simp; omega, by simp; omega, by simp [q3], fun i hi => ?_, q5⟩
  rw [List.length_drop] at hi
  rw [getD_drop1]
  exact q4 _ (by omega)

theorem onionOuter_f1 (A B C : Option Addr) (n c m d p f : Nat) (vs us : List Value) (Ls Ns : List (List Int)) (body : List Int) (w : World) (hn : Ls.length = n) (hm : Ns.length = m) (hl : body.length = p) (hnc : n ≤ c) (hmd : m ≤ d) (hpf : p ≤ f) (hx : Rd w A vs) (hp : Parts w vs Ls) (hy : Rd w B us) (hq : Parts w us Ns) (hz : Rd w C (nums .u8 body)) (bN : ∀ xs ∈ Ns, Byt xs) (bb : Byt body) (hK : Konst w) (f1 : ¬ fewL Ls) (hmax : n ≤ maxLen) : Calls Tryd.prog 10 #[.slice A n c, .slice B m d, .slice C p f] w (Yes w) := by
  have F1 := fun W h1 h2 => few_no A n c vs Ls W hn h1 h2 f1 hmax
  have HX := Lib.hid hx
  have HP := Lib.hid hp
  have HY := Lib.hid hy
  have HQ := Lib.hid hq
  have HZ := Lib.hid hz
  have HK := Lib.hid hK
  clear hx hp hy hq hz hn hm hl bN bb hK hmax
  go_enter Tryd.func10, Tryd.ntmps10
  go_wp2_with (first
    | (go_at_call 31; refine (live9_any _).mono ?_; rintro e w1 ⟨rfl, rfl⟩)
    | (go_at_call 37; refine (F1 _ HX.out HP.out).mono ?_; rintro e w2 ⟨rfl, rfl⟩))
  go_ret
  exact ⟨rfl, brf⟩
theorem onionOuter_f2 (A B C : Option Addr) (n c m d p f : Nat) (vs us : List Value) (Ls Ns : List (List Int)) (body : List Int) (w : World) (hn : Ls.length = n) (hm : Ns.length = m) (hl : body.length = p) (hnc : n ≤ c) (hmd : m ≤ d) (hpf : p ≤ f) (hx : Rd w A vs) (hp : Parts w vs Ls) (hy : Rd w B us) (hq : Parts w us Ns) (hz : Rd w C (nums .u8 body)) (bN : ∀ xs ∈ Ns, Byt xs) (bb : Byt body) (hK : Konst w) (f1 : fewL Ls) (f2 : ¬ fewL Ns) (hmax : m ≤ maxLen) : Calls Tryd.prog 10 #[.slice A n c, .slice B m d, .slice C p f] w (Yes w) := by
  have F1 := fun W h1 h2 => few_yes A n c vs Ls W hn h1 h2 f1
  have F2 := fun W h1 h2 => few_no B m d us Ns W hm h1 h2 f2 hmax
  have HX := Lib.hid hx
  have HP := Lib.hid hp
  have HY := Lib.hid hy
  have HQ := Lib.hid hq
  have HZ := Lib.hid hz
  have HK := Lib.hid hK
  clear hx hp hy hq hz hn hm hl bN bb hK hmax
  go_enter Tryd.func10, Tryd.ntmps10
  go_wp2_with (first
    | (go_at_call 31; refine (live9_any _).mono ?_; rintro e w1 ⟨rfl, rfl⟩)
    | (go_at_call 37; first | ((with_reducible refine (F1 _ HX.out HP.out).mono ?_); rintro e w2 ⟨rfl, rfl⟩) | ((with_reducible refine (F2 _ HY.out HQ.out).mono ?_); rintro e w2 ⟨rfl, rfl⟩)))
  go_ret
  exact ⟨rfl, brf⟩
theorem onionOuter_long (A B C : Option Addr) (n c m d p f : Nat) (vs us : List Value) (Ls Ns : List (List Int)) (body : List Int) (w : World) (hn : Ls.length = n) (hm : Ns.length = m) (hl : body.length = p) (hnc : n ≤ c) (hmd : m ≤ d) (hpf : p ≤ f) (hx : Rd w A vs) (hp : Parts w vs Ls) (hy : Rd w B us) (hq : Parts w us Ns) (hz : Rd w C (nums .u8 body)) (bN : ∀ xs ∈ Ns, Byt xs) (bb : Byt body) (hK : Konst w) (f1 : fewL Ls) (f2 : fewL Ns) (hb : 300 < p) : Calls Tryd.prog 10 #[.slice A n c, .slice B m d, .slice C p f] w (Yes w) := by
  have q : (300 : Int) < p := by omega
  have F1 := fun W h1 h2 => few_yes A n c vs Ls W hn h1 h2 f1
  have F2 := fun W h1 h2 => few_yes B m d us Ns W hm h1 h2 f2
  have HX := Lib.hid hx
  have HP := Lib.hid hp
  have HY := Lib.hid hy
  have HQ := Lib.hid hq
  have HZ := Lib.hid hz
  have HK := Lib.hid hK
  clear hx hp hy hq hz hn hm hl bN bb hK
  go_enter Tryd.func10, Tryd.ntmps10
  go_wp2_with (first
    | (go_at_call 31; refine (live9_any _).mono ?_; rintro e w1 ⟨rfl, rfl⟩)
    | (go_at_call 37; first | ((with_reducible refine (F1 _ HX.out HP.out).mono ?_); rintro e w2 ⟨rfl, rfl⟩) | ((with_reducible refine (F2 _ HY.out HQ.out).mono ?_); rintro e w2 ⟨rfl, rfl⟩)))
  go_ret
  exact ⟨rfl, brf⟩
theorem onionOuter_no (A B C : Option Addr) (n c m d p f : Nat) (vs us : List Value) (Ls Ns : List (List Int)) (body : List Int) (w : World) (hn : Ls.length = n) (hm : Ns.length = m) (hl : body.length = p) (hnc : n ≤ c) (hmd : m ≤ d) (hpf : p ≤ f) (hx : Rd w A vs) (hp : Parts w vs Ls) (hy : Rd w B us) (hq : Parts w us Ns) (hz : Rd w C (nums .u8 body)) (bN : ∀ xs ∈ Ns, Byt xs) (bb : Byt body) (hK : Konst w) (f1 : fewL Ls) (f2 : fewL Ns) (hb : p ≤ 300) (h : ¬ mayWr Ls Ns body) : Calls Tryd.prog 10 #[.slice A n c, .slice B m d, .slice C p f] w (Yes w) := by
  have q : ¬ (300 : Int) < p := by omega
  have CW := fun W h1 h2 => wrap_no A B C n c m d p f vs us Ls Ns body W hn hm hl h1 h2 h (fun i hi => by have := f2.1 i (by omega); omega)
  have F1 := fun W h1 h2 => few_yes A n c vs Ls W hn h1 h2 f1
  have F2 := fun W h1 h2 => few_yes B m d us Ns W hm h1 h2 f2
  have HX := Lib.hid hx
  have HP := Lib.hid hp
  have HY := Lib.hid hy
  have HQ := Lib.hid hq
  have HZ := Lib.hid hz
  have HK := Lib.hid hK
  clear hx hp hy hq hz hn hm hl bN bb hK f1 f2 h
  go_enter Tryd.func10, Tryd.ntmps10
  go_wp2_with (first
    | (go_at_call 31; refine (live9_any _).mono ?_; rintro e w1 ⟨rfl, rfl⟩)
    | (go_at_call 37; first | ((with_reducible refine (F1 _ HX.out HP.out).mono ?_); rintro e w2 ⟨rfl, rfl⟩) | ((with_reducible refine (F2 _ HY.out HQ.out).mono ?_); rintro e w2 ⟨rfl, rfl⟩))
    | (go_at_call 38; refine (CW _ HY.out HQ.out).mono ?_; rintro e w3 ⟨rfl, hb3⟩))
  go_ret
  exact ⟨by simp, hb3⟩
set_option maxHeartbeats 1000000 in
theorem onionOuter_one (A B C : Option Addr) (c d f : Nat) (vs us : List Value) (Ls Ns : List (List Int)) (body : List Int) (w : World) (hn : Ls.length = 1) (hm : Ns.length = 1) (hl : body.length = 78) (hnc : 1 ≤ c) (hmd : 1 ≤ d) (hpf : 78 ≤ f) (hx : Rd w A vs) (hp : Parts w vs Ls) (hy : Rd w B us) (hq : Parts w us Ns) (hz : Rd w C (nums .u8 body)) (bN : ∀ xs ∈ Ns, Byt xs) (bb : Byt body) (hK : Konst w) (f1 : fewL Ls) (f2 : fewL Ns) (h : mayWr Ls Ns body) : Calls Tryd.prog 10 #[.slice A 1 c, .slice B 1 d, .slice C 78 f] w (Yes w) := by
  have CW := fun W h1 h2 h3 h4 h5 hK => wrap_yes A B C 1 c d f vs us Ls Ns body W hn h (fun i hi => by have := f1.1 i (by omega); omega) hpf h1 h2 h3 h4 h5 hK
  have n8 : 1 ≤ 8 := by rw [← hn]; exact h.2.1
  obtain ⟨bv, ov, A', c', rfl, hbv, cv, hcv, hrv⟩ := part_at hx hp hn (show 0 < 1 by omega)
  obtain ⟨bu, ou, B', c'', rfl, hbu, cu, hcu, hru⟩ := part_at hy hq hm (show 0 < 1 by omega)
  rw [Nat.add_zero] at cv cu
  have h16 := h.2.2.2.1 0 (by omega)
  rw [h16] at cu
  have hwc := wrapL_cons (Ls := Ls) (Ns := Ns) (by omega) (by omega) body
  have hs200 := f1.1 0 (by omega)
  obtain ⟨s, hs⟩ : ∃ s, s = Ls.getD 0 [] := ⟨_, rfl⟩
  obtain ⟨nn, hnn⟩ : ∃ nn, nn = Ns.getD 0 [] := ⟨_, rfl⟩
  rw [← hs] at cv hcv hrv hwc hs200
  rw [← hnn] at hcu hru h16 hwc
  obtain ⟨ls, hlse⟩ : ∃ ls, ls = s.length := ⟨_, rfl⟩
  rw [← hlse] at cv hs200
  have hwl : (wrapL Ls Ns body).length = 78 + 48 * 1 := by rw [wrapL_len Ls Ns body h.2.2.1 h.2.2.2.1, hl, hn]
  have hwb : Byt (wrapL Ls Ns body) := wrapL_byt Ls Ns body bN bb
  have ht : wrapL (Ls.drop 1) (Ns.drop 1) body = body := by rw [List.drop_of_length_le (by omega)]; rfl
  rw [ht] at hwc
  have CS := fun W h1 h2 h3 hK => seal_any A' B' C ls c' c'' 78 f s nn body W hlse.symm h16 hl (by omega) (by omega) h1 h2 h3 hK
  rw [← hwc] at CS
  obtain ⟨ww, hww⟩ : ∃ ww, ww = wrapL Ls Ns body := ⟨_, rfl⟩
  rw [← hww] at CW CS hwl hwb
  obtain ⟨M, hM⟩ : ∃ M, M = 78 + 48 * 1 := ⟨_, rfl⟩
  rw [← hM] at hwl
  have S1 := fun A1 A2 c1 c2 W h1 h2 => same_true A1 A2 M c1 M c2 ww ww W rfl hwl hwl h1 h2 hwb
  have HWL := Lib.hid hwl
  have F1 := fun W h1 h2 => few_yes (some ⟨bv, ov, none⟩) 1 c vs Ls W hn h1 h2 f1
  have F2 := fun W h1 h2 => few_yes (some ⟨bu, ou, none⟩) 1 d us Ns W hm h1 h2 f2
  have HX := Lib.hid hx
  have HP := Lib.hid hp
  have HY := Lib.hid hy
  have HQ := Lib.hid hq
  have HZ := Lib.hid hz
  have HK := Lib.hid hK
  have HRV := Lib.hid hrv
  have HRU := Lib.hid hru
  clear hx hp hy hq hz hn hm hl bN bb hK f1 f2 h hwl hwb hww hM hwc hs hnn hlse h16 hrv hru ht
  have z0 : (0 : Int) < 1 := by omega
  have z1 : 0 < 1 := by omega
  go_enter Tryd.func10, Tryd.ntmps10
  go_upto_region 14 with (first
    | (go_at_call 31; refine (live9_any _).mono ?_; rintro e w1 ⟨rfl, rfl⟩)
    | (go_at_call 37; first | ((with_reducible refine (F1 _ HX.out HP.out).mono ?_); rintro e w2 ⟨rfl, rfl⟩) | ((with_reducible refine (F2 _ HY.out HQ.out).mono ?_); rintro e w2 ⟨rfl, rfl⟩))
    | (go_at_call 38; refine (CW _ HX.out HP.out HY.out HQ.out HZ.out HK.out).mono ?_; rintro e w3 ⟨A3, c3, he, hc3, hr3, hb3⟩; rw [HWL.out] at he; subst he; have HBX := hb3; have HRw := Lib.hid hr3; clear hr3))
  have v1 := (HBX.cell (p := ⟨bv, ov, none⟩) hbv).trans cv
  have v2 := (HBX.cell (p := ⟨bu, ou, none⟩) hbu).trans cu
  have HBL : Below w3.heap.size w3 w3.drew := bdr brf
  go_region_held3 (fun x => x.cell? ⟨bv, ov, none⟩ = some (.slice A' ls c') ∧ x.cell? ⟨bu, ou, none⟩ = some (.slice B' 16 c'')) (first | assumption | exact ⟨v1, v2⟩)
    ((go_at_call 28; go_must (refine (CS _ (HRV.out.below (bgo HBX HBL)) (HRU.out.below (bgo HBX HBL)) (HZ.out.below (bgo HBX HBL)) (HK.out.go (bgo HBX HBL))).mono ?_; rintro e w6 ⟨A6, c6, he, hc6, hr6, hb6⟩; rw [HWL.out] at he; subst he; have hb7 : Below w3.heap.size w3 w6 := bgo (bdr brf) hb6; have hS : w6.cell? ⟨bv, ov, none⟩ = some (.slice A' ls c') ∧ w6.cell? ⟨bu, ou, none⟩ = some (.slice B' 16 c'') := ⟨(hb7.cell (p := ⟨bv, ov, none⟩) (Nat.lt_of_lt_of_le hbv HBX.size)).trans v1, (hb7.cell (p := ⟨bu, ou, none⟩) (Nat.lt_of_lt_of_le hbu HBX.size)).trans v2⟩; have HRx := Lib.hid hr6; clear hr6)))
  have HRw := Lib.hid (HRw.out.below hb7)
  have HBX := bgo HBX hb7
  go_wp2_with (go_at_call 16; refine (S1 _ _ _ _ _ HRx.out HRw.out).mono ?_; rintro e w8 ⟨rfl, rfl⟩)
  go_ret
  exact ⟨rfl, HBX⟩

set_option maxHeartbeats 1000000 in
theorem onionOuter_more (A B C : Option Addr) (n c d f : Nat) (vs us : List Value) (Ls Ns : List (List Int)) (body : List Int) (w : World) (hn : Ls.length = n) (hm : Ns.length = n) (hl : body.length = 78) (hnc : n ≤ c) (hmd : n ≤ d) (hpf : 78 ≤ f) (hx : Rd w A vs) (hp : Parts w vs Ls) (hy : Rd w B us) (hq : Parts w us Ns) (hz : Rd w C (nums .u8 body)) (bN : ∀ xs ∈ Ns, Byt xs) (bb : Byt body) (hK : Konst w) (f1 : fewL Ls) (f2 : fewL Ns) (h : mayWr Ls Ns body) (h2 : 2 ≤ n) : Calls Tryd.prog 10 #[.slice A n c, .slice B n d, .slice C 78 f] w (Yes w) := by
  have CW := fun W h1 h2 h3 h4 h5 hK => wrap_yes A B C n c d f vs us Ls Ns body W hn h (fun i hi => by have := f1.1 i (by omega); omega) hpf h1 h2 h3 h4 h5 hK
  have n8 : n ≤ 8 := by rw [← hn]; exact h.2.1
  obtain ⟨bv, ov, A', c', rfl, hbv, cv, hcv, hrv⟩ := part_at hx hp hn (show 0 < n by omega)
  obtain ⟨bu, ou, B', c'', rfl, hbu, cu, hcu, hru⟩ := part_at hy hq hm (show 0 < n by omega)
  rw [Nat.add_zero] at cv cu
  have h16 := h.2.2.2.1 0 (by omega)
  rw [h16] at cu
  have hwc := wrapL_cons (Ls := Ls) (Ns := Ns) (by omega) (by omega) body
  have hs200 := f1.1 0 (by omega)
  obtain ⟨s, hs⟩ : ∃ s, s = Ls.getD 0 [] := ⟨_, rfl⟩
  obtain ⟨nn, hnn⟩ : ∃ nn, nn = Ns.getD 0 [] := ⟨_, rfl⟩
  rw [← hs] at cv hcv hrv hwc hs200
  rw [← hnn] at hcu hru h16 hwc
  obtain ⟨ls, hlse⟩ : ∃ ls, ls = s.length := ⟨_, rfl⟩
  rw [← hlse] at cv hs200
  have hwl : (wrapL Ls Ns body).length = 78 + 48 * n := by rw [wrapL_len Ls Ns body h.2.2.1 h.2.2.2.1, hl, hn]
  have hwb : Byt (wrapL Ls Ns body) := wrapL_byt Ls Ns body bN bb
  have htl : mayWr (Ls.drop 1) (Ns.drop 1) body := mayWr_tail h (by omega)
  have hnl : (Ls.drop 1).length = n - 1 := by simp [hn]
  have CT := fun W h1 h2 h3 h4 h5 hK => wrap_yes (some ⟨bv, ov + 1, none⟩) (some ⟨bu, ou + 1, none⟩) C (n - 1) (c - 1) (d - 1) f (vs.drop 1) (us.drop 1) (Ls.drop 1) (Ns.drop 1) body W hnl htl (fun i hi => by rw [getD_drop1]; have := f1.1 (1 + i) (by omega); omega) hpf h1 h2 h3 h4 h5 hK
  have htlen : (wrapL (Ls.drop 1) (Ns.drop 1) body).length = 78 + 48 * (n - 1) := by rw [wrapL_len _ _ body htl.2.2.1 htl.2.2.2.1, hl, hnl]
  obtain ⟨tt, htt⟩ : ∃ tt, tt = wrapL (Ls.drop 1) (Ns.drop 1) body := ⟨_, rfl⟩
  rw [← htt] at CT htlen hwc
  obtain ⟨P, hP⟩ : ∃ P, P = 78 + 48 * (n - 1) := ⟨_, rfl⟩
  rw [← hP] at htlen
  have CS := fun X cX W h1 h2 h3 hK => seal_any A' B' X ls c' c'' P cX s nn tt W hlse.symm h16 htlen (by omega) (by omega) h1 h2 h3 hK
  rw [← hwc] at CS
  have HTL := Lib.hid htlen
  have HX1 := Lib.hid (rd_drop hx 1)
  have HP1 := Lib.hid (parts_drop hp 1)
  have HY1 := Lib.hid (rd_drop hy 1)
  have HQ1 := Lib.hid (parts_drop hq 1)
  have g1 : (1 : Int) ≤ n := by omega
  have g2 : (1 : Int) < n := by omega
  have g3 : (n : Int) ≤ c := by omega
  have g4 : (n : Int) ≤ d := by omega
  have g5 : ¬ c = 1 := by omega
  have g6 : ¬ d = 1 := by omega
  have g7 : (1 : Int) ≤ c := by omega
  have g8 : (1 : Int) ≤ d := by omega
  obtain ⟨ww, hww⟩ : ∃ ww, ww = wrapL Ls Ns body := ⟨_, rfl⟩
  rw [← hww] at CW CS hwl hwb
  obtain ⟨M, hM⟩ : ∃ M, M = 78 + 48 * n := ⟨_, rfl⟩
  rw [← hM] at hwl
  have S1 := fun A1 A2 c1 c2 W h1 h2 => same_true A1 A2 M c1 M c2 ww ww W rfl hwl hwl h1 h2 hwb
  have HWL := Lib.hid hwl
  have F1 := fun W h1 h2 => few_yes (some ⟨bv, ov, none⟩) n c vs Ls W hn h1 h2 f1
  have F2 := fun W h1 h2 => few_yes (some ⟨bu, ou, none⟩) n d us Ns W hm h1 h2 f2
  have HX := Lib.hid hx
  have HP := Lib.hid hp
  have HY := Lib.hid hy
  have HQ := Lib.hid hq
  have HZ := Lib.hid hz
  have HK := Lib.hid hK
  have HRV := Lib.hid hrv
  have HRU := Lib.hid hru
  clear hx hp hy hq hz hn hm hl bN bb hK f1 f2 h hwl hwb hww hM hwc hs hnn hlse h16 hrv hru htl hnl htlen htt hP
  have z0 : (0 : Int) < n := by omega
  have z1 : 0 < n := by omega
  go_enter Tryd.func10, Tryd.ntmps10
  go_upto_region 10 with (first
    | (go_at_call 31; refine (live9_any _).mono ?_; rintro e w1 ⟨rfl, rfl⟩)
    | (go_at_call 37; first | ((with_reducible refine (F1 _ HX.out HP.out).mono ?_); rintro e w2 ⟨rfl, rfl⟩) | ((with_reducible refine (F2 _ HY.out HQ.out).mono ?_); rintro e w2 ⟨rfl, rfl⟩))
    | (go_at_call 38; refine (CW _ HX.out HP.out HY.out HQ.out HZ.out HK.out).mono ?_; rintro e w3 ⟨A3, c3, he, hc3, hr3, hb3⟩; rw [HWL.out] at he; subst he; have HBX := hb3; have HRw := Lib.hid hr3; clear hr3))
  go_region_held3 (fun x => Below w3.heap.size w3 x) (first | assumption | exact bdr brf)
    ((go_at_call 38; go_must (refine (CT _ (HX1.out.below (bgo HBX (by assumption))) (HP1.out.below (bgo HBX (by assumption))) (HY1.out.below (bgo HBX (by assumption))) (HQ1.out.below (bgo HBX (by assumption))) (HZ.out.below (bgo HBX (by assumption))) (HK.out.go (bgo HBX (by assumption)))).mono ?_; rintro e w4 ⟨A4, c4, he, hc4, hr4, hb4⟩; rw [HTL.out] at he; subst he; have hb5 : Below w3.heap.size w3 w4 := bgo (bdr brf) hb4; have HRt := Lib.hid hr4; clear hr4)))
  have HRw := Lib.hid (HRw.out.below hb5)
  have HBX := bgo HBX hb5
  go_upto_region 14 with fail
  have v1 := (HBX.cell (p := ⟨bv, ov, none⟩) hbv).trans cv
  have v2 := (HBX.cell (p := ⟨bu, ou, none⟩) hbu).trans cu
  have HBL : Below w4.heap.size w4 w4.drew := bdr brf
  go_region_held3 (fun x => x.cell? ⟨bv, ov, none⟩ = some (.slice A' ls c') ∧ x.cell? ⟨bu, ou, none⟩ = some (.slice B' 16 c'')) (first | assumption | exact ⟨v1, v2⟩)
    ((go_at_call 28; go_must (refine (CS _ _ _ (HRV.out.below (bgo HBX HBL)) (HRU.out.below (bgo HBX HBL)) (HRt.out.below HBL) (HK.out.go (bgo HBX HBL))).mono ?_; rintro e w6 ⟨A6, c6, he, hc6, hr6, hb6⟩; rw [HWL.out] at he; subst he; have hb7 : Below w4.heap.size w4 w6 := bgo (bdr brf) hb6; have hS : w6.cell? ⟨bv, ov, none⟩ = some (.slice A' ls c') ∧ w6.cell? ⟨bu, ou, none⟩ = some (.slice B' 16 c'') := ⟨(hb7.cell (p := ⟨bv, ov, none⟩) (Nat.lt_of_lt_of_le hbv HBX.size)).trans v1, (hb7.cell (p := ⟨bu, ou, none⟩) (Nat.lt_of_lt_of_le hbu HBX.size)).trans v2⟩; have HRx := Lib.hid hr6; clear hr6)))
  have HRw := Lib.hid (HRw.out.below hb7)
  have HBX := bgo HBX hb7
  go_wp2_with (go_at_call 16; refine (S1 _ _ _ _ _ HRx.out HRw.out).mono ?_; rintro e w8 ⟨rfl, rfl⟩)
  go_ret
  exact ⟨rfl, HBX⟩

theorem onionOuter_walk (A B C : Option Addr) (n c m d p f : Nat) (vs us : List Value) (Ls Ns : List (List Int)) (body : List Int) (w : World) (hn : Ls.length = n) (hm : Ns.length = m) (hl : body.length = p) (hnc : n ≤ c) (hmd : m ≤ d) (hpf : p ≤ f) (hx : Rd w A vs) (hp : Parts w vs Ls) (hy : Rd w B us) (hq : Parts w us Ns) (hz : Rd w C (nums .u8 body)) (bN : ∀ xs ∈ Ns, Byt xs) (bb : Byt body) (hK : Konst w) (x1 : n ≤ maxLen) (x2 : m ≤ maxLen) : Calls Tryd.prog 10 #[.slice A n c, .slice B m d, .slice C p f] w (Yes w) := by
  by_cases f1 : fewL Ls
  · by_cases f2 : fewL Ns
    · by_cases hb : p ≤ 300
      · by_cases h : mayWr Ls Ns body
        · have hmn : m = n := by rw [← hm, ← hn]; exact h.2.2.1
          subst hmn
          have hp78 : p = 78 := by rw [← hl]; exact h.2.2.2.2
          subst hp78
          by_cases h2 : 2 ≤ m
          · exact onionOuter_more A B C m c d f vs us Ls Ns body w hn hm hl hnc hmd hpf hx hp hy hq hz bN bb hK f1 f2 h h2
          · have h1 : m = 1 := by have := h.1; omega
            subst h1
            exact onionOuter_one A B C c d f vs us Ls Ns body w hn hm hl hnc hmd hpf hx hp hy hq hz bN bb hK f1 f2 h
        · exact onionOuter_no A B C n c m d p f vs us Ls Ns body w hn hm hl hnc hmd hpf hx hp hy hq hz bN bb hK f1 f2 hb h
      · exact onionOuter_long A B C n c m d p f vs us Ls Ns body w hn hm hl hnc hmd hpf hx hp hy hq hz bN bb hK f1 f2 (by omega)
    · exact onionOuter_f2 A B C n c m d p f vs us Ls Ns body w hn hm hl hnc hmd hpf hx hp hy hq hz bN bb hK f1 f2 x2
  · exact onionOuter_f1 A B C n c m d p f vs us Ls Ns body w hn hm hl hnc hmd hpf hx hp hy hq hz bN bb hK f1 x1

theorem onionOuter_of {H : Type} {enc : TypeId × Value → H} (W : World) (base : Nat) (args : Array Value) (ds : List (DataW H)) (p : List MemPlace)
    (hval : ∀ (j : Nat) t v, Tryd.f10.params[j]? = some t → args[j]? = some v → Value.okWide Tryd.prog W .any base t v)
    (hA : DataW.TrodAll enc Tryd.prog W 0 (fun _ => true) true Tryd.f10.params.toList args.toList ds p) (hlt : ∀ x ∈ p, x.block < W.heap.size)
    (hz : (DataW.weightsEach Tryd.prog Tryd.f10.params.toList ds).all (· ≤ reachBytes) = true) (hK : Konst W) : Calls Tryd.prog 10 args W (Yes W) := by
  rw [Tryd.params10] at hA hval hz
  obtain ⟨v0, vs0, d0, ds0, p0, q0, hargs, rfl, rfl, h0, r0⟩ := trodAll_cons hA
  obtain ⟨v1, vs1, d1, ds1, p1, q1, rfl, rfl, rfl, h1, r1⟩ := trodAll_cons r0
  obtain ⟨v2, vs2, d2, ds2, p2, q2, rfl, rfl, rfl, h2, r2⟩ := trodAll_cons r1
  obtain ⟨rfl, rfl, rfl⟩ := trodAll_nil r2
  obtain rfl : args = #[v0, v1, v2] := by cases args; simp_all
  obtain ⟨A, n, c, vs, Ls, rfl, hc0, hd0, hv0, hr0, hp0, hb0⟩ := open_parts h0 (hval 0 _ _ rfl rfl)
  obtain ⟨B, m, d, us, Ns, rfl, hc1, hd1, hv1, hr1, hp1, hb1⟩ := open_parts h1 (hval 1 _ _ rfl rfl)
  obtain ⟨C, p, f, bs, rfl, hn2, hr2, hb2, hc2, hd2⟩ := open_bytes2 h2 (hval 2 _ _ rfl rfl)
  exact onionOuter_walk A B C n c m d p f vs us Ls Ns bs W (by rw [← hp0.1, hv0]) (by rw [← hp1.1, hv1]) hn2 hc0 hc1 hc2 hr0 hp0 hr1 hp1 hr2 hb1 hb2 hK (by omega) (by omega)
end Go.Proofs.YtgclcpopibjocaaDoor
