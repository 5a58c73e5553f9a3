/- bytes.Clone; frames taken. -/
import Derived.Test.YtmkmndgdakpojaaDoorFf
import Derived.Test.YtmkmndgdakpojaaDoorFe
import Derived.Lib.SlBytesConst
namespace Go.Proofs.YtmkmndgdakpojaaDoor
open Go.RowKit
set_option linter.unusedSimpArgs false
set_option linter.unusedVariables false
set_option maxRecDepth 100000

theorem bclone_any (a : Addr) (n c : Nat) (xs : List Int) (w : World) (hn : xs.length = n) (hb : n ≤ 100000) (hx : Rd w (some a) (nums .u8 xs)) :
    Calls Tryd.prog 23 #[.slice (some a) n c] w fun e w' => ∃ A d, e = .returned (.slice A n d) ∧ w'.ownsRow w.heap.size 5 1 (.slice A n d) n (nums .u8 xs) ∧ Below w.heap.size w w' := by
  obtain ⟨i0, hi, hz0, hz1, hz2⟩ := info_parts infoByteT
  have hrun := fun W => Lib.run_eql_slice_nil (P := Tryd.prog) W 22 5 (some a) n c 0 0 Tryd.underlying22
  have HX := Lib.hid hx
  have HN := Lib.hid hn
  clear hx hn
  go_enter Tryd.func23, Tryd.ntmps23
  go_wp2_with (at_builtin; refine append_rd rfl _ _ rfl w.heap.size (.slice (some ⟨w.heap.size, 0, none⟩) 0 0) 0 [] rfl ?c1 (some a) n c xs rfl HN.out (HX.out.below (bal brf _)) (by omega) (by simp) ?_; rotate_left; intro v6 w6 hown6 hgrow6; rw [Nat.zero_add, List.nil_append] at hown6; obtain ⟨A6, c6, rfl⟩ := own_slice hown6)
  case c1 => exact ⟨rfl, .inr ⟨w.heap.size, 0, [].toArray, rfl, Nat.le_refl _, World.alloc_heap_new w _, Nat.le_refl _, Nat.zero_le _, rfl, rfl⟩⟩
  go_ret
  exact ⟨A6, c6, rfl, hown6, (bal brf _).grown hgrow6 (by simp) (fun g hg => by simp [Value.ownBlock] at hg; omega)⟩
/-- No frame, and why. -/
def NoFr (k : Int) (w : World) (e : Ending) (w' : World) : Prop := e = .returned (.tuple #[.agg #[.int .i64 0, .int .i64 0, .int .u64 0, .int .u64 0, .slice none 0 0, .int .i64 0, .int .i64 0, .slice none 0 0], .int .i64 k]) ∧ Below w.heap.size w w'
/-- A frame taken, its body a row of one's own. -/
def IsFrL (w : World) (m r : Nat) (f t : Int) (E O : Nat) (k : Int) (q : Nat) (X body : List Int) (e : Ending) (w' : World) : Prop :=
  ∃ A c D d, e = .returned (.tuple #[.agg #[.int .i64 f, .int .i64 t, .int .u64 (E : Int), .int .u64 (O : Int), .slice A m c, .int .i64 k, .int .i64 (q : Int), .slice D r d], .int .i64 0]) ∧ m ≤ c ∧ Rd w' A (nums .i64 X) ∧ w'.ownsRow w.heap.size 5 1 (.slice D r d) r (nums .u8 body) ∧ Below w.heap.size w w'
def IsFr (w : World) (xs : List Int) : Ending → World → Prop := IsFrL w (paM xs) (paB xs).length (xs.getD 0 0) (xs.getD 1 0) (paE xs) (paO xs) (paK xs) (paQ xs) (paX xs) (paB xs)
/-- Whether the frame that bytes say may be. -/
def paGood (xs : List Int) : Prop := goodF (xs.getD 0 0) (xs.getD 1 0) (paK xs) (paQ xs) (paX xs) (paB xs).length

set_option maxHeartbeats 1000000 in
theorem take_short (P : Option Addr) (pn pc : Nat) (A : Option Addr) (n c : Nat) (w : World) (h : n < 32) : Calls Tryd.prog 11 #[.slice P pn pc, .slice A n c] w (NoFr 3 w) := by
  go_enter Tryd.func11, Tryd.ntmps11
  go_wp2_with fail
  refine bodyPost_ret (v := .tuple #[.agg #[.int .i64 0, .int .i64 0, .int .u64 0, .int .u64 0, .slice none 0 0, .int .i64 0, .int .i64 0, .slice none 0 0], .int .i64 3]) (by simp [results, Tryd.results11, go_sem]) rfl ⟨rfl, ?_⟩
  exact bal brf _
theorem frOut_newv (w : World) (vs : List Value) (t : TypeId) (h : vs.length = 8) : FrOut w.heap.size (w.alloc (.cells vs.toArray t)) :=
  ⟨by simp, fun j hj => ⟨by rw [World.cell?_alloc_at _ _ _ _ rfl]; simp [h]; omega, by simp [go_sem]⟩⟩
theorem FrOut.setCell {q : Nat} {x : World} (h : FrOut q x) (a : Addr) (u : Value) : FrOut q (x.setCell a u) :=
  ⟨by rw [size_setCell]; exact h.1, fun j hj => ⟨by
    by_cases e : a = ⟨q, 0 + j, none⟩
    · subst e; rw [World.cell?_setCell_same' _ _ _ (h.2 j hj).1]; rfl
    · rw [World.cell?_setCell_other _ _ _ _ e]; exact (h.2 j hj).1, by rw [World.frozen?_setCell]; exact (h.2 j hj).2⟩⟩

set_option maxHeartbeats 4000000 in
theorem take_noread (P : Option Addr) (pn pc : Nat) (key : List Int) (B o n t c : Nat) (b : List Int) (w : World) (hp : key.length = pn) (hp4 : pn ≤ 4000) (hpx : Rd w P (nums .u8 key)) (hn : b.length = n) (hnc : n ≤ c) (hcm : c ≤ maxLen) (ht : n = t + 32) (h2k : n ≤ 2000) (hx : Rd w (some ⟨B, o, none⟩) (nums .u8 b)) (hb : Byt b) (hK : Konst w) (hf : ¬ paOk (b.take t)) :
    Calls Tryd.prog 11 #[.slice P pn pc, .slice (some ⟨B, o, none⟩) n c] w (NoFr 3 w) := by
  have hil : (b.take t).length = t := by rw [List.length_take]; omega
  have bi : Byt (b.take t) := fun x hx => hb x (List.mem_of_mem_take hx)
  have e1 : (n : Int) - 32 = (t : Int) := by omega
  have HX := Lib.hid ((hx.take t).below (bal brf (.cells #[.int .i64 0, .int .i64 0, .int .u64 0, .int .u64 0, .slice none 0 0, .int .i64 0, .int .i64 0, .slice none 0 0] 30)))
  have HT := Lib.hid ((rd_dropF hx t).below (bal brf (.cells #[.int .i64 0, .int .i64 0, .int .u64 0, .int .u64 0, .slice none 0 0, .int .i64 0, .int .i64 0, .slice none 0 0] 30)))
  have HP := Lib.hid (hpx.below (bal brf (.cells #[.int .i64 0, .int .i64 0, .int .u64 0, .int .u64 0, .slice none 0 0, .int .i64 0, .int .i64 0, .slice none 0 0] 30)))
  have HK := Lib.hid (hK.go (bal brf (.cells #[.int .i64 0, .int .i64 0, .int .u64 0, .int .u64 0, .slice none 0 0, .int .i64 0, .int .i64 0, .slice none 0 0] 30)))
  have HOUT := Lib.hid (frOut_new w 30)
  have t0_ : (0 : Int) ≤ t := by omega
  have t1_ : t ≤ c := by omega
  have t2_ : (t : Int) ≤ c := by omega
  have t3_ : n - t = 32 := by omega
  have t4_ : ¬ c = t := by omega
  have t5_ : (t : Int) ≤ n := by omega
  have t6_ : t ≤ n := by omega
  have CR := fun (W : World) h0 => read_no (B := B) (o := o) (n := t) (c := c) (xs := b.take t) W hil (by omega) hcm h0 bi hf
  clear hp hpx hn hx hb hK hil bi hf ht
  go_enter Tryd.func11, Tryd.ntmps11
  go_upto_region 6 with (go_at_call 21; refine (CR _ HX.out).mono ?_; rintro e w1 ⟨rfl, hb1⟩; have HB1 := Lib.hid (bgo (bal brf _) hb1); have HOUT := Lib.hid (HOUT.out.below hb1))
  iterate 4 go_step
  refine store8 rfl _ _ rfl w.heap.size #[.int .i64 0, .int .i64 0, .int .u64 0, .int .u64 0, .slice none 0 0, .int .i64 0, .int .i64 0, .slice none 0 0] rfl rfl (HOUT.out.below (bal brf _)) rfl (by kernel_rfl) ?_
  intro W5 hT5
  have HT5 := Lib.hid hT5
  clear hT5
  go_wp2_with fail
  refine bodyPost_ret (v := .tuple #[.agg #[.int .i64 0, .int .i64 0, .int .u64 0, .int .u64 0, .slice none 0 0, .int .i64 0, .int .i64 0, .slice none 0 0], .int .i64 3]) ?_ rfl ⟨rfl, HT5.out.below w (Nat.le_refl _) (bal HB1.out _)⟩
  exact results_cell_tmp (p := 4) (t := 5) (by rfl) _ _ w.heap.size 0 _ _ (by rfl) HT5.out.row Tryd.underlying30 rfl infoFr8

set_option maxHeartbeats 4000000 in
theorem take_bad (P : Option Addr) (pn pc : Nat) (key : List Int) (B o n t c : Nat) (b : List Int) (w : World) (hp : key.length = pn) (hp4 : pn ≤ 4000) (hpx : Rd w P (nums .u8 key)) (hn : b.length = n) (hnc : n ≤ c) (hcm : c ≤ maxLen) (ht : n = t + 32) (h2k : n ≤ 2000) (hx : Rd w (some ⟨B, o, none⟩) (nums .u8 b)) (hb : Byt b) (hK : Konst w) (hf : paOk (b.take t)) (hg : ¬ paGood (b.take t)) :
    Calls Tryd.prog 11 #[.slice P pn pc, .slice (some ⟨B, o, none⟩) n c] w (NoFr 3 w) := by
  have hil : (b.take t).length = t := by rw [List.length_take]; omega
  have bi : Byt (b.take t) := fun x hx => hb x (List.mem_of_mem_take hx)
  have e1 : (n : Int) - 32 = (t : Int) := by omega
  have HX := Lib.hid ((hx.take t).below (bal brf (.cells #[.int .i64 0, .int .i64 0, .int .u64 0, .int .u64 0, .slice none 0 0, .int .i64 0, .int .i64 0, .slice none 0 0] 30)))
  have HT := Lib.hid ((rd_dropF hx t).below (bal brf (.cells #[.int .i64 0, .int .i64 0, .int .u64 0, .int .u64 0, .slice none 0 0, .int .i64 0, .int .i64 0, .slice none 0 0] 30)))
  have HP := Lib.hid (hpx.below (bal brf (.cells #[.int .i64 0, .int .i64 0, .int .u64 0, .int .u64 0, .slice none 0 0, .int .i64 0, .int .i64 0, .slice none 0 0] 30)))
  have HK := Lib.hid (hK.go (bal brf (.cells #[.int .i64 0, .int .i64 0, .int .u64 0, .int .u64 0, .slice none 0 0, .int .i64 0, .int .i64 0, .slice none 0 0] 30)))
  have HOUT := Lib.hid (frOut_new w 30)
  have t0_ : (0 : Int) ≤ t := by omega
  have t1_ : t ≤ c := by omega
  have t2_ : (t : Int) ≤ c := by omega
  have t3_ : n - t = 32 := by omega
  have t4_ : ¬ c = t := by omega
  have t5_ : (t : Int) ≤ n := by omega
  have t6_ : t ≤ n := by omega
  have CR := fun (W : World) h0 => read_yes (B := B) (o := o) (n := t) (c := c) (xs := b.take t) W hil (by omega) hcm h0 bi hf
  have hXl := tkX_len2 hf
  have hBl := paB_len hf
  rw [hil] at hBl
  simp only [IsRead] at CR
  unfold paGood at hg
  obtain ⟨cc, hcc⟩ : ∃ cc, cc = b.take t := ⟨_, rfl⟩
  have hcl : cc.length = t := by rw [hcc]; exact hil
  rw [← hcc] at CR HX hXl hBl hg
  obtain ⟨f0, hf0⟩ : ∃ f, f = cc.getD 0 0 := ⟨_, rfl⟩
  obtain ⟨t0, ht0⟩ : ∃ f, f = cc.getD 1 0 := ⟨_, rfl⟩
  obtain ⟨r, hr⟩ : ∃ r, r = (paB cc).length := ⟨_, rfl⟩
  rw [← hf0, ← ht0, ← hr] at CR hg
  rw [← hr] at hBl
  have hB2 : r ≤ t := by omega
  clear hBl
  have HXL := Lib.hid hXl
  have CK := fun (A : Option Addr) (c' : Nat) (Of d : Nat) (W : World) h0 h1 => fCheck_bad f0 t0 (paE cc) (paO cc) A (paM cc) c' (paX cc) (paK cc) (paQ cc) (some ⟨B, Of, none⟩) r d W hXl h0 h1 (by omega) hg
  clear hp hpx hn hx hb hK hil bi hf ht hg hcc hf0 ht0 hr hXl
  go_enter Tryd.func11, Tryd.ntmps11
  go_upto_region 6 with (first
    | (go_at_call 21; go_must ((with_reducible refine (CR _ HX.out).mono ?_); rintro e w1 ⟨A1, c1, Of, d1, rfl, hc1, hA1, hx1, hy1, hb1⟩; have HA1 := Lib.hid hA1; have HX0 := Lib.hid hx1; have HBW := Lib.hid (bal (brf (w := w1)) (.cells #[.int .i64 f0, .int .i64 t0, .int .u64 ((paE cc : Nat) : Int), .int .u64 ((paO cc : Nat) : Int), .slice A1 (paM cc) c1, .int .i64 (paK cc), .int .i64 ((paQ cc : Nat) : Int), .slice (some ⟨B, Of, none⟩) r d1] 30)); have HB1 := Lib.hid (bgo (bal brf _) hb1); have HX1 := Lib.hid (hx1.below (bal brf (.cells #[.int .i64 f0, .int .i64 t0, .int .u64 ((paE cc : Nat) : Int), .int .u64 ((paO cc : Nat) : Int), .slice A1 (paM cc) c1, .int .i64 (paK cc), .int .i64 ((paQ cc : Nat) : Int), .slice (some ⟨B, Of, none⟩) r d1] 30))); have HY1 := Lib.hid (hy1.below (bal brf (.cells #[.int .i64 f0, .int .i64 t0, .int .u64 ((paE cc : Nat) : Int), .int .u64 ((paO cc : Nat) : Int), .slice A1 (paM cc) c1, .int .i64 (paK cc), .int .i64 ((paQ cc : Nat) : Int), .slice (some ⟨B, Of, none⟩) r d1] 30))); have HX := Lib.hid ((HX.out.below hb1).below (bal brf (.cells #[.int .i64 f0, .int .i64 t0, .int .u64 ((paE cc : Nat) : Int), .int .u64 ((paO cc : Nat) : Int), .slice A1 (paM cc) c1, .int .i64 (paK cc), .int .i64 ((paQ cc : Nat) : Int), .slice (some ⟨B, Of, none⟩) r d1] 30))); have HT := Lib.hid ((HT.out.below hb1).below (bal brf (.cells #[.int .i64 f0, .int .i64 t0, .int .u64 ((paE cc : Nat) : Int), .int .u64 ((paO cc : Nat) : Int), .slice A1 (paM cc) c1, .int .i64 (paK cc), .int .i64 ((paQ cc : Nat) : Int), .slice (some ⟨B, Of, none⟩) r d1] 30))); have HP := Lib.hid ((HP.out.below hb1).below (bal brf (.cells #[.int .i64 f0, .int .i64 t0, .int .u64 ((paE cc : Nat) : Int), .int .u64 ((paO cc : Nat) : Int), .slice A1 (paM cc) c1, .int .i64 (paK cc), .int .i64 ((paQ cc : Nat) : Int), .slice (some ⟨B, Of, none⟩) r d1] 30))); have HK := Lib.hid ((HK.out.go hb1).go (bal brf (.cells #[.int .i64 f0, .int .i64 t0, .int .u64 ((paE cc : Nat) : Int), .int .u64 ((paO cc : Nat) : Int), .slice A1 (paM cc) c1, .int .i64 (paK cc), .int .i64 ((paQ cc : Nat) : Int), .slice (some ⟨B, Of, none⟩) r d1] 30))); have HOUT := Lib.hid ((HOUT.out.below hb1).below (bal brf (.cells #[.int .i64 f0, .int .i64 t0, .int .u64 ((paE cc : Nat) : Int), .int .u64 ((paO cc : Nat) : Int), .slice A1 (paM cc) c1, .int .i64 (paK cc), .int .i64 ((paQ cc : Nat) : Int), .slice (some ⟨B, Of, none⟩) r d1] 30))); have HQ1 : Hid (w.heap.size ≤ w1.heap.size) := Lib.hid (by have := hb1.size; simp only [World.size_alloc] at this; omega); have HBOX := Lib.hid (frBox_new w1 f0 t0 ((paE cc : Nat) : Int) ((paO cc : Nat) : Int) (.slice A1 (paM cc) c1) (paK cc) ((paQ cc : Nat) : Int) (.slice (some ⟨B, Of, none⟩) r d1) 30); have HBO := Lib.hid (frOut_newv w1 (Array.toList #[.int .i64 f0, .int .i64 t0, .int .u64 ((paE cc : Nat) : Int), .int .u64 ((paO cc : Nat) : Int), .slice A1 (paM cc) c1, .int .i64 (paK cc), .int .i64 ((paQ cc : Nat) : Int), .slice (some ⟨B, Of, none⟩) r d1]) 30 rfl); clear hx1 hy1 hA1))
    | (go_at_call 18; go_must ((with_reducible refine (CK _ _ _ _ _ hc1 HX1.out).mono ?_); rintro e w2 ⟨rfl, hb2⟩; have HBW := Lib.hid (bgo HBW.out hb2); have HB1 := Lib.hid (bgo (bal HB1.out _) hb2); have HX1 := Lib.hid (HX1.out.below hb2); have HY1 := Lib.hid (HY1.out.below hb2); have HX := Lib.hid (HX.out.below hb2); have HT := Lib.hid (HT.out.below hb2); have HP := Lib.hid (HP.out.below hb2); have HK := Lib.hid (HK.out.go hb2); have HOUT := Lib.hid (HOUT.out.below hb2); have HBOX := Lib.hid (HBOX.out.below hb2); have HBO := Lib.hid (HBO.out.below hb2))))
  iterate 4 go_step
  refine store8 rfl _ _ rfl w.heap.size #[.int .i64 0, .int .i64 0, .int .u64 0, .int .u64 0, .slice none 0 0, .int .i64 0, .int .i64 0, .slice none 0 0] rfl rfl HOUT.out rfl (by kernel_rfl) ?_
  intro W5 hT5
  have HT5 := Lib.hid hT5
  clear hT5
  go_wp2_with fail
  refine bodyPost_ret (v := .tuple #[.agg #[.int .i64 0, .int .i64 0, .int .u64 0, .int .u64 0, .slice none 0 0, .int .i64 0, .int .i64 0, .slice none 0 0], .int .i64 3]) ?_ rfl ⟨rfl, HT5.out.below w (Nat.le_refl _) HB1.out⟩
  exact results_cell_tmp (p := 4) (t := 5) (by rfl) _ _ w.heap.size 0 _ _ (by rfl) HT5.out.row Tryd.underlying30 rfl infoFr8

set_option maxHeartbeats 4000000 in
theorem take_tag (P : Option Addr) (pn pc : Nat) (key : List Int) (B o n t c : Nat) (b : List Int) (w : World) (hp : key.length = pn) (hp4 : pn ≤ 4000) (hpx : Rd w P (nums .u8 key)) (hn : b.length = n) (hnc : n ≤ c) (hcm : c ≤ maxLen) (ht : n = t + 32) (h2k : n ≤ 2000) (hx : Rd w (some ⟨B, o, none⟩) (nums .u8 b)) (hb : Byt b) (hK : Konst w) (hf : paOk (b.take t)) (hg : paGood (b.take t)) (hg2 : ¬ b.drop t = tagL key (b.take t)) :
    Calls Tryd.prog 11 #[.slice P pn pc, .slice (some ⟨B, o, none⟩) n c] w (NoFr 4 w) := by
  have hil : (b.take t).length = t := by rw [List.length_take]; omega
  have bi : Byt (b.take t) := fun x hx => hb x (List.mem_of_mem_take hx)
  have e1 : (n : Int) - 32 = (t : Int) := by omega
  have HX := Lib.hid ((hx.take t).below (bal brf (.cells #[.int .i64 0, .int .i64 0, .int .u64 0, .int .u64 0, .slice none 0 0, .int .i64 0, .int .i64 0, .slice none 0 0] 30)))
  have HT := Lib.hid ((rd_dropF hx t).below (bal brf (.cells #[.int .i64 0, .int .i64 0, .int .u64 0, .int .u64 0, .slice none 0 0, .int .i64 0, .int .i64 0, .slice none 0 0] 30)))
  have HP := Lib.hid (hpx.below (bal brf (.cells #[.int .i64 0, .int .i64 0, .int .u64 0, .int .u64 0, .slice none 0 0, .int .i64 0, .int .i64 0, .slice none 0 0] 30)))
  have HK := Lib.hid (hK.go (bal brf (.cells #[.int .i64 0, .int .i64 0, .int .u64 0, .int .u64 0, .slice none 0 0, .int .i64 0, .int .i64 0, .slice none 0 0] 30)))
  have HOUT := Lib.hid (frOut_new w 30)
  have t0_ : (0 : Int) ≤ t := by omega
  have t1_ : t ≤ c := by omega
  have t2_ : (t : Int) ≤ c := by omega
  have t3_ : n - t = 32 := by omega
  have t4_ : ¬ c = t := by omega
  have t5_ : (t : Int) ≤ n := by omega
  have t6_ : t ≤ n := by omega
  have CR := fun (W : World) h0 => read_yes (B := B) (o := o) (n := t) (c := c) (xs := b.take t) W hil (by omega) hcm h0 bi hf
  have hXl := tkX_len2 hf
  have hBl := paB_len hf
  rw [hil] at hBl
  simp only [IsRead] at CR
  unfold paGood at hg
  obtain ⟨cc, hcc⟩ : ∃ cc, cc = b.take t := ⟨_, rfl⟩
  have hcl : cc.length = t := by rw [hcc]; exact hil
  rw [← hcc] at CR HX hXl hBl hg
  obtain ⟨f0, hf0⟩ : ∃ f, f = cc.getD 0 0 := ⟨_, rfl⟩
  obtain ⟨t0, ht0⟩ : ∃ f, f = cc.getD 1 0 := ⟨_, rfl⟩
  obtain ⟨r, hr⟩ : ∃ r, r = (paB cc).length := ⟨_, rfl⟩
  rw [← hf0, ← ht0, ← hr] at CR hg
  rw [← hr] at hBl
  have hB2 : r ≤ t := by omega
  clear hBl
  have HXL := Lib.hid hXl
  have CK := fun (A : Option Addr) (c' : Nat) (Of d : Nat) (W : World) h0 h1 => fCheck_ok f0 t0 (paE cc) (paO cc) A (paM cc) c' (paX cc) (paK cc) (paQ cc) (some ⟨B, Of, none⟩) r d W hXl h0 h1 (by omega) hg
  have CM := fun (W : World) h0 h1 h2 h3 => check_tag P (some ⟨B, o, none⟩) (some ⟨B, o + t, none⟩) pn pc t c 32 (c - t) key cc (b.drop t) W hp hcl (by rw [List.length_drop]; omega) hp4 (by omega) h0 h1 h2 (fun x hx => hb x (List.mem_of_mem_drop hx)) h3
  have hbt : badTag key cc (b.drop t) = 4 := by rw [badTag, if_neg (by rw [hcc]; exact hg2)]
  rw [hbt] at CM
  clear hp hpx hn hx hb hK hil bi hf ht hg hg2 hcc hf0 ht0 hr hXl hbt
  go_enter Tryd.func11, Tryd.ntmps11
  go_upto_region 7 with (first
    | (go_at_call 21; go_must ((with_reducible refine (CR _ HX.out).mono ?_); rintro e w1 ⟨A1, c1, Of, d1, rfl, hc1, hA1, hx1, hy1, hb1⟩; have HA1 := Lib.hid hA1; have HX0 := Lib.hid hx1; have HBW := Lib.hid (bal (brf (w := w1)) (.cells #[.int .i64 f0, .int .i64 t0, .int .u64 ((paE cc : Nat) : Int), .int .u64 ((paO cc : Nat) : Int), .slice A1 (paM cc) c1, .int .i64 (paK cc), .int .i64 ((paQ cc : Nat) : Int), .slice (some ⟨B, Of, none⟩) r d1] 30)); have HB1 := Lib.hid (bgo (bal brf _) hb1); have HX1 := Lib.hid (hx1.below (bal brf (.cells #[.int .i64 f0, .int .i64 t0, .int .u64 ((paE cc : Nat) : Int), .int .u64 ((paO cc : Nat) : Int), .slice A1 (paM cc) c1, .int .i64 (paK cc), .int .i64 ((paQ cc : Nat) : Int), .slice (some ⟨B, Of, none⟩) r d1] 30))); have HY1 := Lib.hid (hy1.below (bal brf (.cells #[.int .i64 f0, .int .i64 t0, .int .u64 ((paE cc : Nat) : Int), .int .u64 ((paO cc : Nat) : Int), .slice A1 (paM cc) c1, .int .i64 (paK cc), .int .i64 ((paQ cc : Nat) : Int), .slice (some ⟨B, Of, none⟩) r d1] 30))); have HX := Lib.hid ((HX.out.below hb1).below (bal brf (.cells #[.int .i64 f0, .int .i64 t0, .int .u64 ((paE cc : Nat) : Int), .int .u64 ((paO cc : Nat) : Int), .slice A1 (paM cc) c1, .int .i64 (paK cc), .int .i64 ((paQ cc : Nat) : Int), .slice (some ⟨B, Of, none⟩) r d1] 30))); have HT := Lib.hid ((HT.out.below hb1).below (bal brf (.cells #[.int .i64 f0, .int .i64 t0, .int .u64 ((paE cc : Nat) : Int), .int .u64 ((paO cc : Nat) : Int), .slice A1 (paM cc) c1, .int .i64 (paK cc), .int .i64 ((paQ cc : Nat) : Int), .slice (some ⟨B, Of, none⟩) r d1] 30))); have HP := Lib.hid ((HP.out.below hb1).below (bal brf (.cells #[.int .i64 f0, .int .i64 t0, .int .u64 ((paE cc : Nat) : Int), .int .u64 ((paO cc : Nat) : Int), .slice A1 (paM cc) c1, .int .i64 (paK cc), .int .i64 ((paQ cc : Nat) : Int), .slice (some ⟨B, Of, none⟩) r d1] 30))); have HK := Lib.hid ((HK.out.go hb1).go (bal brf (.cells #[.int .i64 f0, .int .i64 t0, .int .u64 ((paE cc : Nat) : Int), .int .u64 ((paO cc : Nat) : Int), .slice A1 (paM cc) c1, .int .i64 (paK cc), .int .i64 ((paQ cc : Nat) : Int), .slice (some ⟨B, Of, none⟩) r d1] 30))); have HOUT := Lib.hid ((HOUT.out.below hb1).below (bal brf (.cells #[.int .i64 f0, .int .i64 t0, .int .u64 ((paE cc : Nat) : Int), .int .u64 ((paO cc : Nat) : Int), .slice A1 (paM cc) c1, .int .i64 (paK cc), .int .i64 ((paQ cc : Nat) : Int), .slice (some ⟨B, Of, none⟩) r d1] 30))); have HQ1 : Hid (w.heap.size ≤ w1.heap.size) := Lib.hid (by have := hb1.size; simp only [World.size_alloc] at this; omega); have HBOX := Lib.hid (frBox_new w1 f0 t0 ((paE cc : Nat) : Int) ((paO cc : Nat) : Int) (.slice A1 (paM cc) c1) (paK cc) ((paQ cc : Nat) : Int) (.slice (some ⟨B, Of, none⟩) r d1) 30); have HBO := Lib.hid (frOut_newv w1 (Array.toList #[.int .i64 f0, .int .i64 t0, .int .u64 ((paE cc : Nat) : Int), .int .u64 ((paO cc : Nat) : Int), .slice A1 (paM cc) c1, .int .i64 (paK cc), .int .i64 ((paQ cc : Nat) : Int), .slice (some ⟨B, Of, none⟩) r d1]) 30 rfl); clear hx1 hy1 hA1))
    | (go_at_call 18; go_must ((with_reducible refine (CK _ _ _ _ _ hc1 HX1.out).mono ?_); rintro e w2 ⟨rfl, hb2⟩; have HBW := Lib.hid (bgo HBW.out hb2); have HB1 := Lib.hid (bgo (bal HB1.out _) hb2); have HX1 := Lib.hid (HX1.out.below hb2); have HY1 := Lib.hid (HY1.out.below hb2); have HX := Lib.hid (HX.out.below hb2); have HT := Lib.hid (HT.out.below hb2); have HP := Lib.hid (HP.out.below hb2); have HK := Lib.hid (HK.out.go hb2); have HOUT := Lib.hid (HOUT.out.below hb2); have HBOX := Lib.hid (HBOX.out.below hb2); have HBO := Lib.hid (HBO.out.below hb2))))
  have hS : Below w2.heap.size w2 w2.drew := bdr brf
  refine wp_region_held_drew (S := fun x => Below w2.heap.size w2 x) (by kernel_rfl) hS (fun hHeld => ?_)
  clear hHeld
  refine takeH (i := 0) (oi := ?oiu1) ?vu1 (by kernel_rfl) (by with_reducible exact hS) ?hiu1 ?hQu1 ?hyu1 ?_
  case hiu1 => simp only [List.getElem?_toArray, List.getElem?_cons_succ, List.getElem?_cons_zero]; rfl
  case hQu1 => exact fun _ _ _ h => h
  case hyu1 =>
    refine Or.inl ⟨by rfl, ?_⟩
    rintro W9 hSw
    go_simp
    rfl
  try simp only [Act.put, List.setIfInBounds_toArray, List.set_cons_zero, List.set_cons_succ]
  refine takeH (i := 1) (oi := ?oiu2) ?vu2 (by kernel_rfl) (by with_reducible exact hS) ?hiu2 ?hQu2 ?hyu2 ?_
  case hiu2 => simp only [List.getElem?_toArray, List.getElem?_cons_succ, List.getElem?_cons_zero]; rfl
  case hQu2 => exact fun _ _ _ h => h
  case hyu2 =>
    refine Or.inl ⟨by rfl, ?_⟩
    rintro W9 hSw
    go_simp
    rfl
  try simp only [Act.put, List.setIfInBounds_toArray, List.set_cons_zero, List.set_cons_succ]
  refine takeH (i := 2) (oi := ?oiu3) ?vu3 (by kernel_rfl) (by with_reducible exact hS) ?hiu3 ?hQu3 ?hyu3 ?_
  case hiu3 => simp only [List.getElem?_toArray, List.getElem?_cons_succ, List.getElem?_cons_zero]; rfl
  case hQu3 => exact fun _ _ _ h => h
  case hyu3 =>
    refine Or.inl ⟨by rfl, ?_⟩
    rintro W9 hSw
    go_simp
    rfl
  try simp only [Act.put, List.setIfInBounds_toArray, List.set_cons_zero, List.set_cons_succ]
  refine takeH (i := 3) (oi := ?oiu4) ?vu4 (by kernel_rfl) (by with_reducible exact hS) ?hiu4 ?hQu4 ?hyu4 ?_
  case hiu4 => simp only [List.getElem?_toArray, List.getElem?_cons_succ, List.getElem?_cons_zero]; rfl
  case hQu4 => exact fun _ _ _ h => h
  case hyu4 =>
    refine Or.inl ⟨by rfl, ?_⟩
    rintro W9 hSw
    go_simp
    rfl
  try simp only [Act.put, List.setIfInBounds_toArray, List.set_cons_zero, List.set_cons_succ]
  refine takeH (i := 4) (oi := ?oiu5) ?vu5 (by kernel_rfl) (by with_reducible exact hS) ?hiu5 ?hQu5 ?hyu5 ?_
  case hiu5 => simp only [List.getElem?_toArray, List.getElem?_cons_succ, List.getElem?_cons_zero]; rfl
  case hQu5 => exact fun _ _ _ h => h
  case hyu5 =>
    refine Or.inl ⟨by rfl, ?_⟩
    rintro W9 hSw
    go_simp
    rfl
  try simp only [Act.put, List.setIfInBounds_toArray, List.set_cons_zero, List.set_cons_succ]
  refine takeH (i := 5) (oi := ?oiu6) ?vu6 (by kernel_rfl) (by with_reducible exact hS) ?hiu6 ?hQu6 ?hyu6 ?_
  case hiu6 => simp only [List.getElem?_toArray, List.getElem?_cons_succ, List.getElem?_cons_zero]; rfl
  case hQu6 => exact fun _ _ _ h => h
  case hyu6 =>
    refine Or.inl ⟨by rfl, ?_⟩
    rintro W9 hSw
    go_simp
    rfl
  try simp only [Act.put, List.setIfInBounds_toArray, List.set_cons_zero, List.set_cons_succ]
  refine takeH (i := 6) (oi := ?oiu7) ?vu7 (by kernel_rfl) (by with_reducible exact hS) ?hiu7 ?hQu7 ?hyu7 ?_
  case hiu7 => simp only [List.getElem?_toArray, List.getElem?_cons_succ, List.getElem?_cons_zero]; rfl
  case hQu7 => exact fun _ _ _ h => h
  case hyu7 =>
    refine Or.inl ⟨by rfl, ?_⟩
    rintro W9 hSw
    go_simp
    rfl
  try simp only [Act.put, List.setIfInBounds_toArray, List.set_cons_zero, List.set_cons_succ]
  refine onlyH (i := 7) (oi := ?oiu8) (by kernel_rfl) ?hiu8 (fun K hK => ?_)
  case hiu8 => simp only [List.getElem?_toArray, List.getElem?_cons_succ, List.getElem?_cons_zero]; rfl
  go_simp
  refine (CM _ (HP.out.below (bdr brf)) (HX.out.below (bdr brf)) (HT.out.below (bdr brf)) (HK.out.go (bdr brf))).mono ?_
  rintro e w3 ⟨rfl, hb3⟩
  have hS := bgo (bdr (brf (w := w2))) hb3
  go_wp2_with fail
  refine hK.out _ _ (by with_reducible exact hS) (fun hHeld => ?_)
  clear hK K hHeld hb3
  try simp only [Act.put, List.setIfInBounds_toArray, List.set_cons_zero, List.set_cons_succ]
  refine takeH (i := 8) (oi := ?oiu9) ?vu9 (by kernel_rfl) (by with_reducible exact hS) ?hiu9 ?hQu9 ?hyu9 ?_
  case hiu9 => simp only [List.getElem?_toArray, List.getElem?_cons_succ, List.getElem?_cons_zero]; rfl
  case hQu9 => exact fun _ _ _ h => h
  case hyu9 =>
    refine Or.inl ⟨by rfl, ?_⟩
    rintro W9 hSw
    go_simp
    rfl
  try simp only [Act.put, List.setIfInBounds_toArray, List.set_cons_zero, List.set_cons_succ]
  refine wpAnyH_done (by kernel_rfl) ?_ _
  go_upto_region 8 with fail
  iterate 4 go_step
  refine store8 rfl _ _ rfl w.heap.size #[.int .i64 0, .int .i64 0, .int .u64 0, .int .u64 0, .slice none 0 0, .int .i64 0, .int .i64 0, .slice none 0 0] rfl rfl (HOUT.out.below hS) rfl (by kernel_rfl) ?_
  intro W5 hT5
  have HT5 := Lib.hid hT5
  clear hT5
  go_wp2_with fail
  refine bodyPost_ret (v := .tuple #[.agg #[.int .i64 0, .int .i64 0, .int .u64 0, .int .u64 0, .slice none 0 0, .int .i64 0, .int .i64 0, .slice none 0 0], .int .i64 4]) ?_ rfl ⟨rfl, HT5.out.below w (Nat.le_refl _) (bgo HB1.out hS)⟩
  exact results_cell_tmp (p := 4) (t := 5) (by rfl) _ _ w.heap.size 0 _ _ (by rfl) HT5.out.row Tryd.underlying30 rfl infoFr8

set_option maxHeartbeats 4000000 in
theorem take_yes (P : Option Addr) (pn pc : Nat) (key : List Int) (B o n t c : Nat) (b : List Int) (w : World) (hp : key.length = pn) (hp4 : pn ≤ 4000) (hpx : Rd w P (nums .u8 key)) (hn : b.length = n) (hnc : n ≤ c) (hcm : c ≤ maxLen) (ht : n = t + 32) (h2k : n ≤ 2000) (hx : Rd w (some ⟨B, o, none⟩) (nums .u8 b)) (hb : Byt b) (hK : Konst w) (hf : paOk (b.take t)) (hg : paGood (b.take t)) (hg2 : b.drop t = tagL key (b.take t)) :
    Calls Tryd.prog 11 #[.slice P pn pc, .slice (some ⟨B, o, none⟩) n c] w (IsFr w (b.take t)) := by
  have hil : (b.take t).length = t := by rw [List.length_take]; omega
  have bi : Byt (b.take t) := fun x hx => hb x (List.mem_of_mem_take hx)
  have e1 : (n : Int) - 32 = (t : Int) := by omega
  have HX := Lib.hid ((hx.take t).below (bal brf (.cells #[.int .i64 0, .int .i64 0, .int .u64 0, .int .u64 0, .slice none 0 0, .int .i64 0, .int .i64 0, .slice none 0 0] 30)))
  have HT := Lib.hid ((rd_dropF hx t).below (bal brf (.cells #[.int .i64 0, .int .i64 0, .int .u64 0, .int .u64 0, .slice none 0 0, .int .i64 0, .int .i64 0, .slice none 0 0] 30)))
  have HP := Lib.hid (hpx.below (bal brf (.cells #[.int .i64 0, .int .i64 0, .int .u64 0, .int .u64 0, .slice none 0 0, .int .i64 0, .int .i64 0, .slice none 0 0] 30)))
  have HK := Lib.hid (hK.go (bal brf (.cells #[.int .i64 0, .int .i64 0, .int .u64 0, .int .u64 0, .slice none 0 0, .int .i64 0, .int .i64 0, .slice none 0 0] 30)))
  have HOUT := Lib.hid (frOut_new w 30)
  have t0_ : (0 : Int) ≤ t := by omega
  have t1_ : t ≤ c := by omega
  have t2_ : (t : Int) ≤ c := by omega
  have t3_ : n - t = 32 := by omega
  have t4_ : ¬ c = t := by omega
  have t5_ : (t : Int) ≤ n := by omega
  have t6_ : t ≤ n := by omega
  have CR := fun (W : World) h0 => read_yes (B := B) (o := o) (n := t) (c := c) (xs := b.take t) W hil (by omega) hcm h0 bi hf
  have hXl := tkX_len2 hf
  have hBl := paB_len hf
  rw [hil] at hBl
  simp only [IsRead] at CR
  unfold paGood at hg
  obtain ⟨cc, hcc⟩ : ∃ cc, cc = b.take t := ⟨_, rfl⟩
  have hcl : cc.length = t := by rw [hcc]; exact hil
  rw [← hcc] at CR HX hXl hBl hg
  obtain ⟨f0, hf0⟩ : ∃ f, f = cc.getD 0 0 := ⟨_, rfl⟩
  obtain ⟨t0, ht0⟩ : ∃ f, f = cc.getD 1 0 := ⟨_, rfl⟩
  obtain ⟨r, hr⟩ : ∃ r, r = (paB cc).length := ⟨_, rfl⟩
  rw [← hf0, ← ht0, ← hr] at CR hg
  rw [← hr] at hBl
  have hB2 : r ≤ t := by omega
  clear hBl
  have HXL := Lib.hid hXl
  have CK := fun (A : Option Addr) (c' : Nat) (Of d : Nat) (W : World) h0 h1 => fCheck_ok f0 t0 (paE cc) (paO cc) A (paM cc) c' (paX cc) (paK cc) (paQ cc) (some ⟨B, Of, none⟩) r d W hXl h0 h1 (by omega) hg
  have CM := fun (W : World) h0 h1 h2 h3 => check_tag P (some ⟨B, o, none⟩) (some ⟨B, o + t, none⟩) pn pc t c 32 (c - t) key cc (b.drop t) W hp hcl (by rw [List.length_drop]; omega) hp4 (by omega) h0 h1 h2 (fun x hx => hb x (List.mem_of_mem_drop hx)) h3
  have hbt : badTag key cc (b.drop t) = 0 := by rw [badTag, if_pos (by rw [hcc]; exact hg2)]
  rw [hbt] at CM
  have CC := fun (Of d : Nat) (W : World) h0 => bclone_any ⟨B, Of, none⟩ r d (paB cc) W hr.symm (by omega) h0
  have hfin : IsFr w (b.take t) = IsFrL w (paM cc) r f0 t0 (paE cc) (paO cc) (paK cc) (paQ cc) (paX cc) (paB cc) := by rw [hr, hf0, ht0, hcc]; rfl
  rw [hfin]
  clear hp hpx hn hx hb hK hil bi hf ht hg hg2 hcc hf0 ht0 hr hXl hbt hfin
  go_enter Tryd.func11, Tryd.ntmps11
  go_upto_region 7 with (first
    | (go_at_call 21; go_must ((with_reducible refine (CR _ HX.out).mono ?_); rintro e w1 ⟨A1, c1, Of, d1, rfl, hc1, hA1, hx1, hy1, hb1⟩; have HA1 := Lib.hid hA1; have HX0 := Lib.hid hx1; have HBW := Lib.hid (bal (brf (w := w1)) (.cells #[.int .i64 f0, .int .i64 t0, .int .u64 ((paE cc : Nat) : Int), .int .u64 ((paO cc : Nat) : Int), .slice A1 (paM cc) c1, .int .i64 (paK cc), .int .i64 ((paQ cc : Nat) : Int), .slice (some ⟨B, Of, none⟩) r d1] 30)); have HB1 := Lib.hid (bgo (bal brf _) hb1); have HX1 := Lib.hid (hx1.below (bal brf (.cells #[.int .i64 f0, .int .i64 t0, .int .u64 ((paE cc : Nat) : Int), .int .u64 ((paO cc : Nat) : Int), .slice A1 (paM cc) c1, .int .i64 (paK cc), .int .i64 ((paQ cc : Nat) : Int), .slice (some ⟨B, Of, none⟩) r d1] 30))); have HY1 := Lib.hid (hy1.below (bal brf (.cells #[.int .i64 f0, .int .i64 t0, .int .u64 ((paE cc : Nat) : Int), .int .u64 ((paO cc : Nat) : Int), .slice A1 (paM cc) c1, .int .i64 (paK cc), .int .i64 ((paQ cc : Nat) : Int), .slice (some ⟨B, Of, none⟩) r d1] 30))); have HX := Lib.hid ((HX.out.below hb1).below (bal brf (.cells #[.int .i64 f0, .int .i64 t0, .int .u64 ((paE cc : Nat) : Int), .int .u64 ((paO cc : Nat) : Int), .slice A1 (paM cc) c1, .int .i64 (paK cc), .int .i64 ((paQ cc : Nat) : Int), .slice (some ⟨B, Of, none⟩) r d1] 30))); have HT := Lib.hid ((HT.out.below hb1).below (bal brf (.cells #[.int .i64 f0, .int .i64 t0, .int .u64 ((paE cc : Nat) : Int), .int .u64 ((paO cc : Nat) : Int), .slice A1 (paM cc) c1, .int .i64 (paK cc), .int .i64 ((paQ cc : Nat) : Int), .slice (some ⟨B, Of, none⟩) r d1] 30))); have HP := Lib.hid ((HP.out.below hb1).below (bal brf (.cells #[.int .i64 f0, .int .i64 t0, .int .u64 ((paE cc : Nat) : Int), .int .u64 ((paO cc : Nat) : Int), .slice A1 (paM cc) c1, .int .i64 (paK cc), .int .i64 ((paQ cc : Nat) : Int), .slice (some ⟨B, Of, none⟩) r d1] 30))); have HK := Lib.hid ((HK.out.go hb1).go (bal brf (.cells #[.int .i64 f0, .int .i64 t0, .int .u64 ((paE cc : Nat) : Int), .int .u64 ((paO cc : Nat) : Int), .slice A1 (paM cc) c1, .int .i64 (paK cc), .int .i64 ((paQ cc : Nat) : Int), .slice (some ⟨B, Of, none⟩) r d1] 30))); have HOUT := Lib.hid ((HOUT.out.below hb1).below (bal brf (.cells #[.int .i64 f0, .int .i64 t0, .int .u64 ((paE cc : Nat) : Int), .int .u64 ((paO cc : Nat) : Int), .slice A1 (paM cc) c1, .int .i64 (paK cc), .int .i64 ((paQ cc : Nat) : Int), .slice (some ⟨B, Of, none⟩) r d1] 30))); have HQ1 : Hid (w.heap.size ≤ w1.heap.size) := Lib.hid (by have := hb1.size; simp only [World.size_alloc] at this; omega); have HBOX := Lib.hid (frBox_new w1 f0 t0 ((paE cc : Nat) : Int) ((paO cc : Nat) : Int) (.slice A1 (paM cc) c1) (paK cc) ((paQ cc : Nat) : Int) (.slice (some ⟨B, Of, none⟩) r d1) 30); have HBO := Lib.hid (frOut_newv w1 (Array.toList #[.int .i64 f0, .int .i64 t0, .int .u64 ((paE cc : Nat) : Int), .int .u64 ((paO cc : Nat) : Int), .slice A1 (paM cc) c1, .int .i64 (paK cc), .int .i64 ((paQ cc : Nat) : Int), .slice (some ⟨B, Of, none⟩) r d1]) 30 rfl); clear hx1 hy1 hA1))
    | (go_at_call 18; go_must ((with_reducible refine (CK _ _ _ _ _ hc1 HX1.out).mono ?_); rintro e w2 ⟨rfl, hb2⟩; have HBW := Lib.hid (bgo HBW.out hb2); have HB1 := Lib.hid (bgo (bal HB1.out _) hb2); have HX1 := Lib.hid (HX1.out.below hb2); have HY1 := Lib.hid (HY1.out.below hb2); have HX := Lib.hid (HX.out.below hb2); have HT := Lib.hid (HT.out.below hb2); have HP := Lib.hid (HP.out.below hb2); have HK := Lib.hid (HK.out.go hb2); have HOUT := Lib.hid (HOUT.out.below hb2); have HBOX := Lib.hid (HBOX.out.below hb2); have HBO := Lib.hid (HBO.out.below hb2))))
  have hS : Below w2.heap.size w2 w2.drew := bdr brf
  refine wp_region_held_drew (S := fun x => Below w2.heap.size w2 x) (by kernel_rfl) hS (fun hHeld => ?_)
  clear hHeld
  refine takeH (i := 0) (oi := ?oiu10) ?vu10 (by kernel_rfl) (by with_reducible exact hS) ?hiu10 ?hQu10 ?hyu10 ?_
  case hiu10 => simp only [List.getElem?_toArray, List.getElem?_cons_succ, List.getElem?_cons_zero]; rfl
  case hQu10 => exact fun _ _ _ h => h
  case hyu10 =>
    refine Or.inl ⟨by rfl, ?_⟩
    rintro W9 hSw
    go_simp
    rfl
  try simp only [Act.put, List.setIfInBounds_toArray, List.set_cons_zero, List.set_cons_succ]
  refine takeH (i := 1) (oi := ?oiu11) ?vu11 (by kernel_rfl) (by with_reducible exact hS) ?hiu11 ?hQu11 ?hyu11 ?_
  case hiu11 => simp only [List.getElem?_toArray, List.getElem?_cons_succ, List.getElem?_cons_zero]; rfl
  case hQu11 => exact fun _ _ _ h => h
  case hyu11 =>
    refine Or.inl ⟨by rfl, ?_⟩
    rintro W9 hSw
    go_simp
    rfl
  try simp only [Act.put, List.setIfInBounds_toArray, List.set_cons_zero, List.set_cons_succ]
  refine takeH (i := 2) (oi := ?oiu12) ?vu12 (by kernel_rfl) (by with_reducible exact hS) ?hiu12 ?hQu12 ?hyu12 ?_
  case hiu12 => simp only [List.getElem?_toArray, List.getElem?_cons_succ, List.getElem?_cons_zero]; rfl
  case hQu12 => exact fun _ _ _ h => h
  case hyu12 =>
    refine Or.inl ⟨by rfl, ?_⟩
    rintro W9 hSw
    go_simp
    rfl
  try simp only [Act.put, List.setIfInBounds_toArray, List.set_cons_zero, List.set_cons_succ]
  refine takeH (i := 3) (oi := ?oiu13) ?vu13 (by kernel_rfl) (by with_reducible exact hS) ?hiu13 ?hQu13 ?hyu13 ?_
  case hiu13 => simp only [List.getElem?_toArray, List.getElem?_cons_succ, List.getElem?_cons_zero]; rfl
  case hQu13 => exact fun _ _ _ h => h
  case hyu13 =>
    refine Or.inl ⟨by rfl, ?_⟩
    rintro W9 hSw
    go_simp
    rfl
  try simp only [Act.put, List.setIfInBounds_toArray, List.set_cons_zero, List.set_cons_succ]
  refine takeH (i := 4) (oi := ?oiu14) ?vu14 (by kernel_rfl) (by with_reducible exact hS) ?hiu14 ?hQu14 ?hyu14 ?_
  case hiu14 => simp only [List.getElem?_toArray, List.getElem?_cons_succ, List.getElem?_cons_zero]; rfl
  case hQu14 => exact fun _ _ _ h => h
  case hyu14 =>
    refine Or.inl ⟨by rfl, ?_⟩
    rintro W9 hSw
    go_simp
    rfl
  try simp only [Act.put, List.setIfInBounds_toArray, List.set_cons_zero, List.set_cons_succ]
  refine takeH (i := 5) (oi := ?oiu15) ?vu15 (by kernel_rfl) (by with_reducible exact hS) ?hiu15 ?hQu15 ?hyu15 ?_
  case hiu15 => simp only [List.getElem?_toArray, List.getElem?_cons_succ, List.getElem?_cons_zero]; rfl
  case hQu15 => exact fun _ _ _ h => h
  case hyu15 =>
    refine Or.inl ⟨by rfl, ?_⟩
    rintro W9 hSw
    go_simp
    rfl
  try simp only [Act.put, List.setIfInBounds_toArray, List.set_cons_zero, List.set_cons_succ]
  refine takeH (i := 6) (oi := ?oiu16) ?vu16 (by kernel_rfl) (by with_reducible exact hS) ?hiu16 ?hQu16 ?hyu16 ?_
  case hiu16 => simp only [List.getElem?_toArray, List.getElem?_cons_succ, List.getElem?_cons_zero]; rfl
  case hQu16 => exact fun _ _ _ h => h
  case hyu16 =>
    refine Or.inl ⟨by rfl, ?_⟩
    rintro W9 hSw
    go_simp
    rfl
  try simp only [Act.put, List.setIfInBounds_toArray, List.set_cons_zero, List.set_cons_succ]
  refine onlyH (i := 7) (oi := ?oiu17) (by kernel_rfl) ?hiu17 (fun K hK => ?_)
  case hiu17 => simp only [List.getElem?_toArray, List.getElem?_cons_succ, List.getElem?_cons_zero]; rfl
  go_simp
  refine (CM _ (HP.out.below (bdr brf)) (HX.out.below (bdr brf)) (HT.out.below (bdr brf)) (HK.out.go (bdr brf))).mono ?_
  rintro e w3 ⟨rfl, hb3⟩
  have hS := bgo (bdr (brf (w := w2))) hb3
  go_wp2_with fail
  refine hK.out _ _ (by with_reducible exact hS) (fun hHeld => ?_)
  clear hK K hHeld hb3
  try simp only [Act.put, List.setIfInBounds_toArray, List.set_cons_zero, List.set_cons_succ]
  refine takeH (i := 8) (oi := ?oiu18) ?vu18 (by kernel_rfl) (by with_reducible exact hS) ?hiu18 ?hQu18 ?hyu18 ?_
  case hiu18 => simp only [List.getElem?_toArray, List.getElem?_cons_succ, List.getElem?_cons_zero]; rfl
  case hQu18 => exact fun _ _ _ h => h
  case hyu18 =>
    refine Or.inl ⟨by rfl, ?_⟩
    rintro W9 hSw
    go_simp
    rfl
  try simp only [Act.put, List.setIfInBounds_toArray, List.set_cons_zero, List.set_cons_succ]
  refine wpAnyH_done (by kernel_rfl) ?_ _
  have HBOX := Lib.hid (HBOX.out.below hS)
  have HBO := Lib.hid (HBO.out.below hS)
  have HOUT := Lib.hid (HOUT.out.below hS)
  obtain ⟨s0, b0, b1, b2, b3, b4, b5, b6, b7⟩ := HBOX.out
  have HS1 := Lib.hid s0
  have HS2 := Lib.hid HOUT.out.1
  go_upto_region 10 with (go_at_call 23; refine (CC _ _ _ (HY1.out.below hS)).mono ?_; rintro e w4 ⟨A4, d4, rfl, ho4, hb4⟩; have HO4 := Lib.hid ho4; have HBOX := Lib.hid (HBOX.out.below hb4); have HBO := Lib.hid (HBO.out.below hb4); have HOUT := Lib.hid (HOUT.out.below hb4); obtain ⟨s0, b0, b1, b2, b3, b4, b5, b6, b7⟩ := HBOX.out; have f7 : w4.frozen? ⟨w1.heap.size, 7, none⟩ = false := (HBO.out.2 7 (by omega)).2; clear ho4)
  iterate 4 go_step
  refine store8 rfl _ _ rfl w.heap.size #[.int .i64 f0, .int .i64 t0, .int .u64 ((paE cc : Nat) : Int), .int .u64 ((paO cc : Nat) : Int), .slice A1 (paM cc) c1, .int .i64 (paK cc), .int .i64 ((paQ cc : Nat) : Int), .slice A4 r d4] rfl rfl (HOUT.out.setCell _ _) rfl (by kernel_rfl) ?_
  intro W5 hT5
  have HT5 := Lib.hid hT5
  clear hT5
  go_wp2_with fail
  refine bodyPost_ret (v := .tuple #[.agg #[.int .i64 f0, .int .i64 t0, .int .u64 ((paE cc : Nat) : Int), .int .u64 ((paO cc : Nat) : Int), .slice A1 (paM cc) c1, .int .i64 (paK cc), .int .i64 ((paQ cc : Nat) : Int), .slice A4 r d4], .int .i64 0]) ?_ rfl ⟨A1, c1, A4, d4, rfl, hc1, ?_, ?_, ?_⟩
  exact results_cell_tmp (p := 4) (t := 5) (by rfl) _ _ w.heap.size 0 _ _ (by rfl) HT5.out.row Tryd.underlying30 rfl infoFr8
  · exact HT5.out.rdA (fun a ha => by have := HA1.out a ha; simp only [World.size_alloc] at this; omega) (rd_box HX0.out (bgo (bgo HBW.out hS) hb4) (Nat.le_refl _) _)
  · exact own_baseT (HT5.out.own (own_setCell (a := ⟨w1.heap.size, 7, none⟩) HO4.out HS1.out) HS2.out) (Nat.le_of_lt HS2.out)
  · exact HT5.out.below w (Nat.le_refl _) ((bgo (bgo HB1.out hS) hb4).setCell (p := ⟨w1.heap.size, 7, none⟩) (by have := HQ1.out; omega) _)
end Go.Proofs.YtmkmndgdakpojaaDoor
