/- The document's Take of frames. -/
import Derived.Test.YtmkmndgdakpojaaDoorFg
namespace Go.Proofs.YtmkmndgdakpojaaDoor
open Go.RowKit
set_option linter.unusedSimpArgs false
set_option linter.unusedVariables false
set_option maxRecDepth 100000

theorem Turned.ownN {q : Nat} {cs : List Value} {w W5 : World} (h : Turned q cs w W5) {base n : Nat} {e : TypeId} {v : Value} {xs : List Value} (ho : w.ownsRow base e 1 v n xs) (hne : ∀ g, v.ownBlock = some g → g ≠ q) : W5.ownsRow base e 1 v n xs := by
  refine ⟨ho.1, ?_⟩
  rcases ho.2 with h1 | ⟨g, cap, cur, h1, hbg, hg, hc⟩
  · exact .inl h1
  · exact .inr ⟨g, cap, cur, h1, hbg, (h.blocks g (hne g (by rw [h1]; rfl))).trans hg, hc⟩
theorem frBox_row {W5 : World} {q : Nat} {F T ep ro : Int} {s : Value} {K Q : Int} {d : Value} (h : W5.rangeAt q 0 [.int .i64 F, .int .i64 T, .int .u64 ep, .int .u64 ro, s, .int .i64 K, .int .i64 Q, d]) (hq : q < W5.heap.size) : FrBox q F T ep ro s K Q d W5 :=
  ⟨hq, by have := h 0 _ rfl; simpa using this, by have := h 1 _ rfl; simpa using this, by have := h 2 _ rfl; simpa using this, by have := h 3 _ rfl; simpa using this, by have := h 4 _ rfl; simpa using this, by have := h 5 _ rfl; simpa using this, by have := h 6 _ rfl; simpa using this, by have := h 7 _ rfl; simpa using this⟩

set_option maxHeartbeats 1000000 in
theorem rtake_short (P : Option Addr) (pn pc : Nat) (A : Option Addr) (n c : Nat) (w : World) (h : n < 34) : Calls Tryd.prog 12 #[.slice P pn pc, .slice A n c] w (NoFr 3 w) := by
  go_enter Tryd.func12, Tryd.ntmps12
  go_wp2_with fail
  refine bodyPost_ret (v := .tuple #[.agg #[.int .i64 0, .int .i64 0, .int .u64 0, .int .u64 0, .slice none 0 0, .int .i64 0, .int .i64 0, .slice none 0 0], .int .i64 3]) (by simp [results, Tryd.results12, go_sem]) rfl ⟨rfl, ?_⟩
  exact bal brf _

set_option maxHeartbeats 4000000 in
theorem rtake_stamp (P : Option Addr) (pn pc : Nat) (key : List Int) (B o n t c : Nat) (b : List Int) (w : World) (hp : key.length = pn) (hp4 : pn ≤ 4000) (hpx : Rd w P (nums .u8 key)) (hn : b.length = n) (hnc : n ≤ c) (hcm : c ≤ maxLen) (ht : n = t + 32) (ht2 : 2 ≤ t) (h2k : n ≤ 2000) (hx : Rd w (some ⟨B, o, none⟩) (nums .u8 b)) (hb : Byt b) (hf : ¬ stOk ((b.take t).drop 2)) :
    Calls Tryd.prog 12 #[.slice P pn pc, .slice (some ⟨B, o, none⟩) n c] w (NoFr 3 w) := by
  have hil : (b.take t).length = t := by rw [List.length_take]; omega
  have bi : Byt (b.take t) := fun x hx => hb x (List.mem_of_mem_take hx)
  have hd : ((b.take t).drop 2).length = t - 2 := by rw [List.length_drop, hil]
  have e1 : (n : Int) - 32 = (t : Int) := by omega
  have HX := Lib.hid ((hx.take t).below (bal brf (.cells #[.int .i64 0, .int .i64 0, .int .u64 0, .int .u64 0, .slice none 0 0, .int .i64 0, .int .i64 0, .slice none 0 0] 30)))
  have HX2 := Lib.hid ((rd_dropF (hx.take t) 2).below (bal brf (.cells #[.int .i64 0, .int .i64 0, .int .u64 0, .int .u64 0, .slice none 0 0, .int .i64 0, .int .i64 0, .slice none 0 0] 30)))
  have HT := Lib.hid ((rd_dropF hx t).below (bal brf (.cells #[.int .i64 0, .int .i64 0, .int .u64 0, .int .u64 0, .slice none 0 0, .int .i64 0, .int .i64 0, .slice none 0 0] 30)))
  have HP := Lib.hid (hpx.below (bal brf (.cells #[.int .i64 0, .int .i64 0, .int .u64 0, .int .u64 0, .slice none 0 0, .int .i64 0, .int .i64 0, .slice none 0 0] 30)))
  have HOUT := Lib.hid (frOut_new w 30)
  have HBW0 : Hid (t ≠ 0 → B < w.heap.size) := Lib.hid (fun h => by
    obtain ⟨b', o', he, hl, _⟩ := hx.at_ (by simp; omega)
    cases he
    exact hl)
  unfold maxLen at hcm
  have t0_ : (0 : Int) ≤ t := by omega
  have t1_ : t ≤ c := by omega
  have t2_ : (t : Int) ≤ c := by omega
  have t3_ : n - t = 32 := by omega
  have t4_ : ¬ c = t := by omega
  have t5_ : (t : Int) ≤ n := by omega
  have t6_ : t ≤ n := by omega
  have t7_ : ¬ c = 2 := by omega
  have CT := fun (W : World) h0 => rtk_no (A := some ⟨B, o + 2, none⟩) (n := t - 2) (c := c - 2) (xs := (b.take t).drop 2) W hd (by omega) (by unfold maxLen; omega) h0 (fun x hx => bi x (List.mem_of_mem_drop hx)) hf
  clear hp hpx hn hx hb hil bi hd ht hf
  go_enter Tryd.func12, Tryd.ntmps12
  go_upto_region 6 with (go_at_call 24; go_must (refine (CT _ HX2.out).mono ?_; rintro e w1 ⟨rfl, hb1⟩; have HB1 := Lib.hid (bgo (bal brf _) hb1); have HOUT := Lib.hid (HOUT.out.below hb1)))
  iterate 4 go_step
  refine store8 rfl _ _ rfl w.heap.size #[.int .i64 0, .int .i64 0, .int .u64 0, .int .u64 0, .slice none 0 0, .int .i64 0, .int .i64 0, .slice none 0 0] rfl rfl (HOUT.out.below (bal brf _)) rfl (by kernel_rfl) ?_
  intro W5 hT5
  have HT5 := Lib.hid hT5
  clear hT5
  go_wp2_with fail
  refine bodyPost_ret (v := .tuple #[.agg #[.int .i64 0, .int .i64 0, .int .u64 0, .int .u64 0, .slice none 0 0, .int .i64 0, .int .i64 0, .slice none 0 0], .int .i64 3]) ?_ rfl ⟨rfl, HT5.out.below w (Nat.le_refl _) (bal HB1.out _)⟩
  exact results_cell_tmp (p := 4) (t := 5) (by rfl) _ _ w.heap.size 0 _ _ (by rfl) HT5.out.row Tryd.underlying30 rfl infoFr8

set_option maxHeartbeats 4000000 in
theorem rtake_len (P : Option Addr) (pn pc : Nat) (key : List Int) (B o n t c : Nat) (b : List Int) (w : World) (hp : key.length = pn) (hp4 : pn ≤ 4000) (hpx : Rd w P (nums .u8 key)) (hn : b.length = n) (hnc : n ≤ c) (hcm : c ≤ maxLen) (ht : n = t + 32) (ht2 : 2 ≤ t) (h2k : n ≤ 2000) (hx : Rd w (some ⟨B, o, none⟩) (nums .u8 b)) (hb : Byt b) (hs : stOk ((b.take t).drop 2)) (hl : t < 28 + paM (b.take t)) :
    Calls Tryd.prog 12 #[.slice P pn pc, .slice (some ⟨B, o, none⟩) n c] w (NoFr 3 w) := by
  have hil : (b.take t).length = t := by rw [List.length_take]; omega
  have bi : Byt (b.take t) := fun x hx => hb x (List.mem_of_mem_take hx)
  have hd : ((b.take t).drop 2).length = t - 2 := by rw [List.length_drop, hil]
  have e1 : (n : Int) - 32 = (t : Int) := by omega
  have HX := Lib.hid ((hx.take t).below (bal brf (.cells #[.int .i64 0, .int .i64 0, .int .u64 0, .int .u64 0, .slice none 0 0, .int .i64 0, .int .i64 0, .slice none 0 0] 30)))
  have HX2 := Lib.hid ((rd_dropF (hx.take t) 2).below (bal brf (.cells #[.int .i64 0, .int .i64 0, .int .u64 0, .int .u64 0, .slice none 0 0, .int .i64 0, .int .i64 0, .slice none 0 0] 30)))
  have HT := Lib.hid ((rd_dropF hx t).below (bal brf (.cells #[.int .i64 0, .int .i64 0, .int .u64 0, .int .u64 0, .slice none 0 0, .int .i64 0, .int .i64 0, .slice none 0 0] 30)))
  have HP := Lib.hid (hpx.below (bal brf (.cells #[.int .i64 0, .int .i64 0, .int .u64 0, .int .u64 0, .slice none 0 0, .int .i64 0, .int .i64 0, .slice none 0 0] 30)))
  have HOUT := Lib.hid (frOut_new w 30)
  have HBW0 : Hid (t ≠ 0 → B < w.heap.size) := Lib.hid (fun h => by
    obtain ⟨b', o', he, hl, _⟩ := hx.at_ (by simp; omega)
    cases he
    exact hl)
  unfold maxLen at hcm
  have t0_ : (0 : Int) ≤ t := by omega
  have t1_ : t ≤ c := by omega
  have t2_ : (t : Int) ≤ c := by omega
  have t3_ : n - t = 32 := by omega
  have t4_ : ¬ c = t := by omega
  have t5_ : (t : Int) ≤ n := by omega
  have t6_ : t ≤ n := by omega
  have t7_ : ¬ c = 2 := by omega
  have CT0 := fun (W : World) h0 => rtk_yes (A := some ⟨B, o + 2, none⟩) (n := t - 2) (c := c - 2) (xs := (b.take t).drop 2) W hd (by omega) (by unfold maxLen; omega) h0 (fun x hx => bi x (List.mem_of_mem_drop hx)) hs
  have hd2 : 19 + paM (b.take t) ≤ t := by have := hs.2.1; rw [hd] at this; show 19 + tkM ((b.take t).drop 2) ≤ t; omega
  obtain ⟨cc, hcc⟩ : ∃ cc, cc = b.take t := ⟨_, rfl⟩
  have hcl : cc.length = t := by rw [hcc]; exact hil
  rw [← hcc] at CT0 hd2 hl HX2
  obtain ⟨m, hm⟩ : ∃ m, m = paM cc := ⟨_, rfl⟩
  have CT : ∀ W : World, Rd W (some ⟨B, o + 2, none⟩) (nums .u8 (cc.drop 2)) → Calls Tryd.prog 24 #[.slice (some ⟨B, o + 2, none⟩) (t - 2) (c - 2)] W fun e w' => ∃ A c, e = .returned (.tuple #[.agg #[.int .u64 ((paE cc : Nat) : Int), .int .u64 ((paO cc : Nat) : Int), .slice A m c], .int .i64 (17 + (m : Int)), .int .i64 0]) ∧ m ≤ c ∧ w'.ownsRow W.heap.size 3 1 (.slice A m c) m (nums .i64 (paX cc)) ∧ Below W.heap.size W w' := fun W h0 => (CT0 W h0).mono fun e w' ⟨A, c, he, hc, ho, hbw⟩ => ⟨A, c, by rw [hm]; exact he, by rw [hm]; exact hc, by rw [hm]; exact ho, hbw⟩
  have hm19 : 19 + m ≤ t := by rw [hm]; exact hd2
  clear CT0
  have hl2 : t < 28 + m := by rw [hm]; exact hl
  have HM := Lib.hid hm
  clear hp hpx hn hx hb hil bi hd ht hs hl hm hd2 hcc
  go_enter Tryd.func12, Tryd.ntmps12
  go_upto_region 6 with (go_at_call 24; go_must (refine (CT _ HX2.out).mono ?_; rintro e w1 ⟨A1, c1, rfl, hc1, ho1, hb1⟩; have HB1 := Lib.hid (bal (bgo (bal brf _) hb1) (.cells #[.int .u64 ((paE cc : Nat) : Int), .int .u64 ((paO cc : Nat) : Int), .slice A1 m c1] 28)); have HX := Lib.hid ((HX.out.below hb1).below (bal brf (.cells #[.int .u64 ((paE cc : Nat) : Int), .int .u64 ((paO cc : Nat) : Int), .slice A1 m c1] 28))); have HT := Lib.hid ((HT.out.below hb1).below (bal brf (.cells #[.int .u64 ((paE cc : Nat) : Int), .int .u64 ((paO cc : Nat) : Int), .slice A1 m c1] 28))); have HP := Lib.hid ((HP.out.below hb1).below (bal brf (.cells #[.int .u64 ((paE cc : Nat) : Int), .int .u64 ((paO cc : Nat) : Int), .slice A1 m c1] 28))); have HOUT := Lib.hid ((HOUT.out.below hb1).below (bal brf (.cells #[.int .u64 ((paE cc : Nat) : Int), .int .u64 ((paO cc : Nat) : Int), .slice A1 m c1] 28))); have HO1 := Lib.hid (ho1.alloc (.cells #[.int .u64 ((paE cc : Nat) : Int), .int .u64 ((paO cc : Nat) : Int), .slice A1 m c1] 28)); have HSZ := Lib.hid hb1.size; clear ho1))
  iterate 4 go_step
  refine store8 rfl _ _ rfl w.heap.size #[.int .i64 0, .int .i64 0, .int .u64 0, .int .u64 0, .slice none 0 0, .int .i64 0, .int .i64 0, .slice none 0 0] rfl rfl HOUT.out rfl (by kernel_rfl) ?_
  intro W5 hT5
  have HT5 := Lib.hid hT5
  clear hT5
  go_wp2_with fail
  refine bodyPost_ret (v := .tuple #[.agg #[.int .i64 0, .int .i64 0, .int .u64 0, .int .u64 0, .slice none 0 0, .int .i64 0, .int .i64 0, .slice none 0 0], .int .i64 3]) ?_ rfl ⟨rfl, HT5.out.below w (Nat.le_refl _) HB1.out⟩
  exact results_cell_tmp (p := 4) (t := 5) (by rfl) _ _ w.heap.size 0 _ _ (by rfl) HT5.out.row Tryd.underlying30 rfl infoFr8
end Go.Proofs.YtmkmndgdakpojaaDoor
