/- FrameTag: the walk. -/
import Derived.Test.YtmkmndgdakpojaaDoorFm
namespace Go.Proofs.YtmkmndgdakpojaaDoor
open Go.RowKit Go.ChangeShapes Go.WideShapes Go.ChangeAt
set_option linter.unusedSimpArgs false
set_option linter.unusedVariables false
set_option maxRecDepth 100000

theorem FrOut.grown {q : Nat} {x y : World} {row : Option Nat} (h : FrOut q x) (hg : x.grownBy y row) (hr : ∀ g, row = some g → g ≠ q) : FrOut q y := by
  refine ⟨Nat.lt_of_lt_of_le h.1 hg.size, fun j hj => ⟨?_, ?_⟩⟩
  · obtain ⟨v, hv⟩ := Option.isSome_iff_exists.1 (h.2 j hj).1
    rw [hg.cell hv (fun e => hr q e.symm rfl)]
    rfl
  · exact (hg.frozen_far _ h.1 (fun e => hr q e.symm rfl)).trans (h.2 j hj).2
theorem okWide_arr {P : Program} {w : World} {r : Reach} {base n : Nat} {t e : TypeId} {v : Value} (ht : P.underlying t = some (.array n e)) (h : Value.okWide P w r base t v) : ∃ cs, v = .agg cs ∧ cs.size = P.cellsOf t := by
  simp only [Value.okWide, ht] at h
  obtain ⟨cs, h1, h2, _⟩ := h
  exact ⟨cs, h1, h2⟩

/-- Eight words, read as data. -/
theorem open_arr {H : Type} {enc : TypeId × Value → H} {W : World} {base b0 : Nat} {sp : Nat → Bool} {held : Bool} {v : Value} {d : DataW H} {p : List MemPlace} {t : TypeId} {N : Nat} (ht : Tryd.prog.underlying t = some (.array N 5)) (hC : Tryd.prog.cellsOf t = N) (hv : Value.okWide Tryd.prog W .any base t v) (h : DataW.Trod enc Tryd.prog W b0 sp held t v d p) :
    ∃ l : List Int, v = .agg (nums .u8 l).toArray ∧ l.length = N ∧ Byt l := by
  obtain ⟨cs, rfl, hsz⟩ := okWide_arr ht hv
  rw [hC] at hsz
  obtain ⟨l⟩ := cs
  obtain ⟨fuel, hf⟩ := h
  obtain ⟨xs, m1, rfl, hx1, hlen, hn3, hel⟩ := DataW.trod_array ht hf
  have hsz : l.length = N := hsz
  have get : ∀ i, i < N → ∃ z : Int, l[i]? = some (.int .u8 z) ∧ 0 ≤ z ∧ z ≤ 255 := by
    intro i hi
    have h0 := hel i hi
    rw [List.getElem?_eq_getElem (show i < xs.length by omega), show Tryd.prog.cellsOf 5 = 1 from by kernel_rfl, Nat.mul_one] at h0
    obtain ⟨k, e1, e2, e3⟩ := DataW.trod_int Tryd.underlying5 h0
    have e4 := congrArg (fun l => l[0]?) e1
    have e5 : (decide ((0 : Int) ≤ k) && decide (k ≤ (255 : Int))) = true := e3
    exact ⟨k, by simpa [Value.cells] using e4, by simpa using e5⟩
  obtain ⟨f, hf⟩ := Deep.choose_lt get
  refine ⟨(List.range N).map f, ?_, by simp, ?_⟩
  · congr 2
    apply List.ext_getElem?
    intro i
    by_cases hi : i < N
    · rw [(hf i hi).1]
      simp [nums, List.getElem?_range hi]
    · rw [List.getElem?_eq_none (by omega), List.getElem?_eq_none (by simp [nums]; omega)]
  · intro x hx
    obtain ⟨i, hi, rfl⟩ := List.mem_map.1 hx
    exact (hf i (List.mem_range.1 hi)).2

/-- Bytes with a tag behind are a frame's as they were, and bear the tag if it is it. -/
theorem tF_tag {key inn tg tv : List Int} (ht : tg.length = 32) (hv : tv.length = 32) (h : tF (inn ++ tg)) : tF (inn ++ tv) := by
  have e1 : (inn ++ tg).length - 32 = inn.length := by rw [List.length_append, ht]; omega
  have e2 : (inn ++ tv).length - 32 = inn.length := by rw [List.length_append, hv]; omega
  obtain ⟨h0, h1, h2⟩ := h
  rw [e1, List.take_left' rfl] at h1 h2
  refine ⟨by rw [List.length_append, hv]; omega, ?_, ?_⟩
  · rw [e2, List.take_left' rfl]; exact h1
  · rw [e2, List.take_left' rfl]; exact h2
theorem tT_tag {key inn tv : List Int} (hv : tv.length = 32) : tT key (inn ++ tv) ↔ tv = tagL key inn := by
  have e2 : (inn ++ tv).length - 32 = inn.length := by rw [List.length_append, hv]; omega
  unfold tT
  rw [e2, List.drop_left' rfl, List.take_left' rfl]

set_option maxHeartbeats 1000000 in
theorem frameTag_long (P : Option Addr) (pn pc : Nat) (F T : Int) (ep ro : Nat) (A : Option Addr) (n c : Nat) (K Q : Int) (D : Option Addr) (l dc : Nat) (tv : List Int) (w : World) (hK : Konst w) (htv : tv.length = 32) (h : ¬ (pn ≤ 200 ∧ l ≤ 600 ∧ n ≤ 60)) : Calls Tryd.prog 5 #[.slice P pn pc, .agg #[.int .i64 F, .int .i64 T, .int .u64 (ep : Nat), .int .u64 (ro : Nat), .slice A n c, .int .i64 K, .int .i64 Q, .slice D l dc], .agg (nums .u8 tv).toArray] w (Yes w) := by
  obtain ⟨cs, hcs⟩ : ∃ cs, cs = (nums .u8 tv).toArray := ⟨_, rfl⟩
  have hsz : cs.size = 32 := by rw [hcs]; simp [htv]
  have hf := (frBox_new w F T ep ro (.slice A n c) K Q (.slice D l dc) 30).below (bal brf (.cells cs 40))
  have htd := rdX (w.alloc (.cells #[.int .i64 F, .int .i64 T, .int .u64 ep, .int .u64 ro, .slice A n c, .int .i64 K, .int .i64 Q, .slice D l dc] 30)) cs 40 (0, 0) rfl
  rw [World.size_alloc, show cs.toList = nums .u8 tv by rw [hcs]] at htd
  have HTV := Lib.hid (show Rd ((w.alloc (.cells #[.int .i64 F, .int .i64 T, .int .u64 ep, .int .u64 ro, .slice A n c, .int .i64 K, .int .i64 Q, .slice D l dc] 30)).alloc (.cells cs 40)) (some ⟨w.heap.size + 1, 0, none⟩) (nums .u8 tv) from htd)
  rw [← hcs]
  have HF := Lib.hid hf
  have HK := Lib.hid hK
  have HBX := Lib.hid (bal (bal (brf (w := w)) (.cells #[.int .i64 F, .int .i64 T, .int .u64 ep, .int .u64 ro, .slice A n c, .int .i64 K, .int .i64 Q, .slice D l dc] 30)) (.cells cs 40))
  have HSZ := Lib.hid hsz
  clear hK hf htd hcs
  go_enter Tryd.func5, Tryd.ntmps5
  go_wp2_with (first
    | (go_at_call 9; go_must (refine (live5_any _ (HK.out.go HBX.out)).mono ?_; rintro e w1 ⟨rfl, hb1⟩; have HBX := Lib.hid (bgo HBX.out hb1); have HF := Lib.hid (HF.out.below hb1); obtain ⟨s0, a0, a1, a2, a3, a4, a5, a6, a7⟩ := HF.out; have HTV := Lib.hid (HTV.out.below hb1)))
    | (go_at_call 10; go_must ((refine (few_no P pn pc F T ep ro A n c K Q D l dc none 0 0 _ (by omega)).mono ?_); rintro e w2 ⟨rfl, hb2⟩; have HBX := Lib.hid (bgo HBX.out hb2); have HF := Lib.hid (HF.out.below hb2); obtain ⟨s0, a0, a1, a2, a3, a4, a5, a6, a7⟩ := HF.out; have HTV := Lib.hid (HTV.out.below hb2))))
  go_ret
  exact ⟨by first | (simp; done) | (simp; omega), HBX.out⟩

set_option maxHeartbeats 2000000 in
theorem frameTag_bad (P : Option Addr) (pn pc : Nat) (F T : Int) (ep ro : Nat) (A : Option Addr) (n c : Nat) (K Q : Int) (D : Option Addr) (l dc : Nat) (tv : List Int) (w : World) (hK : Konst w) (key xs bs : List Int) (htv : tv.length = 32) (h : pn ≤ 200 ∧ l ≤ 600 ∧ n ≤ 60) (hp : key.length = pn) (hpx : Rd w P (nums .u8 key)) (hn : xs.length = n) (hnc : n ≤ c) (hx : Rd w A (nums .i64 xs)) (hep : ep < 18446744073709551616) (hro : ro < 18446744073709551616) (hl : bs.length = l) (hb : Rd w D (nums .u8 bs)) (hbb : Byt bs) (htb : Byt tv) (hg : ¬ goodF F T K Q xs l) : Calls Tryd.prog 5 #[.slice P pn pc, .agg #[.int .i64 F, .int .i64 T, .int .u64 (ep : Nat), .int .u64 (ro : Nat), .slice A n c, .int .i64 K, .int .i64 Q, .slice D l dc], .agg (nums .u8 tv).toArray] w (Yes w) := by
  have HCP := Lib.hid (fun (W : World) h0 => fPut_bad P pn pc F T ep ro A n c xs K Q D l dc W hn hnc h0 (by omega) hg)
  have HX := Lib.hid hx
  obtain ⟨cs, hcs⟩ : ∃ cs, cs = (nums .u8 tv).toArray := ⟨_, rfl⟩
  have hsz : cs.size = 32 := by rw [hcs]; simp [htv]
  have hf := (frBox_new w F T ep ro (.slice A n c) K Q (.slice D l dc) 30).below (bal brf (.cells cs 40))
  have htd := rdX (w.alloc (.cells #[.int .i64 F, .int .i64 T, .int .u64 ep, .int .u64 ro, .slice A n c, .int .i64 K, .int .i64 Q, .slice D l dc] 30)) cs 40 (0, 0) rfl
  rw [World.size_alloc, show cs.toList = nums .u8 tv by rw [hcs]] at htd
  have HTV := Lib.hid (show Rd ((w.alloc (.cells #[.int .i64 F, .int .i64 T, .int .u64 ep, .int .u64 ro, .slice A n c, .int .i64 K, .int .i64 Q, .slice D l dc] 30)).alloc (.cells cs 40)) (some ⟨w.heap.size + 1, 0, none⟩) (nums .u8 tv) from htd)
  rw [← hcs]
  have HF := Lib.hid hf
  have HK := Lib.hid hK
  have HBX := Lib.hid (bal (bal (brf (w := w)) (.cells #[.int .i64 F, .int .i64 T, .int .u64 ep, .int .u64 ro, .slice A n c, .int .i64 K, .int .i64 Q, .slice D l dc] 30)) (.cells cs 40))
  have HSZ := Lib.hid hsz
  clear hK hf htd hcs
  clear hp hpx hn hx hep hro hl hb hbb hg htb
  go_enter Tryd.func5, Tryd.ntmps5
  go_wp2_with (first
    | (go_at_call 9; go_must (refine (live5_any _ (HK.out.go HBX.out)).mono ?_; rintro e w1 ⟨rfl, hb1⟩; have HBX := Lib.hid (bgo HBX.out hb1); have HF := Lib.hid (HF.out.below hb1); obtain ⟨s0, a0, a1, a2, a3, a4, a5, a6, a7⟩ := HF.out; have HTV := Lib.hid (HTV.out.below hb1)))
    | (go_at_call 10; go_must ((refine (few_yes P pn pc F T ep ro A n c K Q D l dc none 0 0 _ (by omega) (by omega) (by omega) (by omega)).mono ?_); rintro e w2 ⟨rfl, hb2⟩; have HBX := Lib.hid (bgo HBX.out hb2); have HF := Lib.hid (HF.out.below hb2); obtain ⟨s0, a0, a1, a2, a3, a4, a5, a6, a7⟩ := HF.out; have HTV := Lib.hid (HTV.out.below hb2)))
    | (go_at_call 15; (with_reducible refine (HCP.out _ (HX.out.below HBX.out)).mono ?_); rintro e w3 ⟨rfl, hb3⟩; have HBX := Lib.hid (bgo HBX.out hb3); have HF := Lib.hid (HF.out.below hb3); obtain ⟨s0, a0, a1, a2, a3, a4, a5, a6, a7⟩ := HF.out; have HTV := Lib.hid (HTV.out.below hb3)))
  go_ret
  exact ⟨by first | (simp; done) | (simp; omega), HBX.out⟩

set_option maxHeartbeats 8000000 in
theorem frameTag_other (P : Option Addr) (pn pc : Nat) (F T : Int) (ep ro : Nat) (A : Option Addr) (n c : Nat) (K Q : Int) (D : Option Addr) (l dc : Nat) (tv : List Int) (w : World) (hK : Konst w) (key xs bs : List Int) (htv : tv.length = 32) (h : pn ≤ 200 ∧ l ≤ 600 ∧ n ≤ 60) (hp : key.length = pn) (hpx : Rd w P (nums .u8 key)) (hn : xs.length = n) (hnc : n ≤ c) (hx : Rd w A (nums .i64 xs)) (hep : ep < 18446744073709551616) (hro : ro < 18446744073709551616) (hl : bs.length = l) (hb : Rd w D (nums .u8 bs)) (hbb : Byt bs) (htb : Byt tv) (hg : goodF F T K Q xs l) (heq : tv ≠ tagL key (inB F T ep ro xs K Q.toNat bs)) : Calls Tryd.prog 5 #[.slice P pn pc, .agg #[.int .i64 F, .int .i64 T, .int .u64 (ep : Nat), .int .u64 (ro : Nat), .slice A n c, .int .i64 K, .int .i64 Q, .slice D l dc], .agg (nums .u8 tv).toArray] w (Yes w) := by
  obtain ⟨i0, hi, hz0, hz1, hz2⟩ := info_parts infoByteT
  obtain ⟨q, rfl⟩ := Int.eq_ofNat_of_zero_le hg.2.2.2.2.2.2.1
  rw [Int.toNat_natCast] at heq
  have hl60 := frB_len key F T ep ro xs K q bs
  have hil := inB_len F T ep ro xs K q bs
  rw [hn, hl] at hl60 hil
  have hft := frB_take (key := key) (F := F) (T := T) (K := K) (ep := ep) (ro := ro) (q := q) (xs := xs) (bs := bs)
  have hfd := frB_drop (key := key) (F := F) (T := T) (K := K) (ep := ep) (ro := ro) (q := q) (xs := xs) (bs := bs)
  rw [hl60] at hft hfd
  have bi : Byt (inB F T ep ro xs K q bs) := inB_byt (by rw [hl]; exact hg) hbb q
  have htf := (frB_tF (key := key) (F := F) (T := T) (K := K) (ep := ep) (ro := ro) (q := q) (xs := xs) (bs := bs) (by rw [hl]; exact hg) hep hro (by omega)).1
  have HCP := Lib.hid (fun (W : World) h0 h1 h2 h3 => fPut_any P pn pc key F T ep ro A n c xs K q D l dc bs W hp (by omega) h0 hn hnc h1 hl (by omega) h2 hep hro h3 hg)
  have hfr0 : frB key F T ep ro xs K q bs = inB F T ep ro xs K q bs ++ tagL key (inB F T ep ro xs K q bs) := rfl
  have htF2 := tF_tag (key := key) (tg := tagL key (inB F T ep ro xs K q bs)) (tag_len _ _) htv htf
  obtain ⟨fr, hfr⟩ : ∃ fr, fr = frB key F T ep ro xs K q bs := ⟨_, rfl⟩
  obtain ⟨inn, hinn⟩ : ∃ x, x = inB F T ep ro xs K q bs := ⟨_, rfl⟩
  rw [← hfr] at HCP hl60 hft hfd
  rw [← hinn] at hil hft hfd bi htF2 heq
  obtain ⟨t, ht⟩ : ∃ t, t = 28 + n + l := ⟨_, rfl⟩
  obtain ⟨N, hN⟩ : ∃ N, N = 60 + n + l := ⟨_, rfl⟩
  rw [← hN] at hl60 hft hfd
  rw [← ht] at hil
  have eN : N - 32 = t := by omega
  rw [eN] at hft hfd
  have e1 : (N : Int) - 32 = (t : Int) := by omega
  have e2 : t ≤ 700 := by omega
  have e3 : t + 32 = N := by omega
  have e4 : N - t = 32 := by omega
  have i1 : (33 : Int) ≤ N := by omega
  have i2 : ¬ (N : Int) < 33 := by omega
  have i3 : (0 : Int) ≤ t := by omega
  have i4 : (t : Int) ≤ N := by omega
  have hlv : (inn ++ tv).length = N := by rw [List.length_append, hil, htv]; exact e3
  have bv : Byt (inn ++ tv) := fun x hx => by
    rcases List.mem_append.1 hx with h | h
    · exact bi x h
    · exact htb x h
  have CTG := fun (B : Option Addr) (d' : Nat) (W : World) h0 h1 h2 => tag_any P B pn pc t d' key inn W hp hil (by omega) (by omega) h0 h1 h2
  have htT := fun h => heq ((tT_tag (key := key) (inn := inn) htv).1 h)
  have CTK := fun (B : Option Addr) (d' : Nat) (W : World) h0 h1 (h2 : N ≤ d') (h3 : d' ≤ maxLen) h4 => fTake_4 (P := P) (A := B) (pc := pc) (c := d') (n := N) (b := inn ++ tv) (w := W) hp (by omega) h0 hlv h2 h3 (by omega) h1 bv h4 htF2 htT
  have tl := tag_len key inn
  have tb := tag_byt key inn
  obtain ⟨tg, htg⟩ : ∃ x, x = tagL key inn := ⟨_, rfl⟩
  rw [← htg] at CTG tl tb hfd heq
  have HCTG := Lib.hid CTG
  have HCTK := Lib.hid CTK
  have HTL := Lib.hid tl
  have HCS1 := Lib.hid (fun (B C : Option Addr) (c d : Nat) (W : World) h0 h1 => sameB_refl B C 32 c d tg tg W tl tl rfl tb h0 h1)
  have HCS2 := Lib.hid (fun (B C : Option Addr) (c d : Nat) (W : World) h0 h1 => same_any B C 32 c 32 d tv tg W htv tl h0 h1 htb tb)
  have HDC := Lib.hid (show decide (tv = tg) = false by simp [heq])
  have HFT := Lib.hid hft
  have HFD := Lib.hid (fun (B : Nat) (W : World) (h : Rd W (some ⟨B, 0, none⟩) (nums .u8 fr)) => (show Rd W (some ⟨B, t, none⟩) (nums .u8 tg) from by
    have := rd_dropF h t
    rwa [hfd, Nat.zero_add] at this))
  have HIL := Lib.hid hil
  have HILN := Lib.hid (show (nums .u8 inn).length = t by simp [hil])
  have HTVN := Lib.hid (show (nums .u8 tv).length = 32 by simp [htv])
  have HL := Lib.hid hl60
  have HLV := Lib.hid hlv
  have HP := Lib.hid hpx
  have HX := Lib.hid hx
  have HB := Lib.hid hb
  obtain ⟨cs, hcs⟩ : ∃ cs, cs = (nums .u8 tv).toArray := ⟨_, rfl⟩
  have hsz : cs.size = 32 := by rw [hcs]; simp [htv]
  have hf := (frBox_new w F T ep ro (.slice A n c) K q (.slice D l dc) 30).below (bal brf (.cells cs 40))
  have htd := rdX (w.alloc (.cells #[.int .i64 F, .int .i64 T, .int .u64 ep, .int .u64 ro, .slice A n c, .int .i64 K, .int .i64 q, .slice D l dc] 30)) cs 40 (0, 0) rfl
  rw [World.size_alloc, show cs.toList = nums .u8 tv by rw [hcs]] at htd
  have HTV := Lib.hid (show Rd ((w.alloc (.cells #[.int .i64 F, .int .i64 T, .int .u64 ep, .int .u64 ro, .slice A n c, .int .i64 K, .int .i64 q, .slice D l dc] 30)).alloc (.cells cs 40)) (some ⟨w.heap.size + 1, 0, none⟩) (nums .u8 tv) from htd)
  rw [← hcs]
  have HF := Lib.hid hf
  have HK := Lib.hid hK
  have HBX := Lib.hid (bal (bal (brf (w := w)) (.cells #[.int .i64 F, .int .i64 T, .int .u64 ep, .int .u64 ro, .slice A n c, .int .i64 K, .int .i64 q, .slice D l dc] 30)) (.cells cs 40))
  have HSZ := Lib.hid hsz
  clear hK hf htd hcs
  clear hp hpx hn hx hep hro hl hb hbb hg hl60 hil hft hfd bi htf hfr hfr0 hinn ht hN CTG CTK tl tb htg eN htF2 htT hlv bv heq htb hsz
  go_enter Tryd.func5, Tryd.ntmps5
  go_upto_region 10 with (first
    | (go_at_call 9; go_must (refine (live5_any _ (HK.out.go HBX.out)).mono ?_; rintro e w1 ⟨rfl, hb1⟩; have HBX := Lib.hid (bgo HBX.out hb1); have HF := Lib.hid (HF.out.below hb1); obtain ⟨s0, a0, a1, a2, a3, a4, a5, a6, a7⟩ := HF.out; have HTV := Lib.hid (HTV.out.below hb1)))
    | (go_at_call 10; go_must ((refine (few_yes P pn pc F T ep ro A n c K q D l dc none 0 0 _ (by omega) (by omega) (by omega) (by omega)).mono ?_); rintro e w2 ⟨rfl, hb2⟩; have HBX := Lib.hid (bgo HBX.out hb2); have HF := Lib.hid (HF.out.below hb2); obtain ⟨s0, a0, a1, a2, a3, a4, a5, a6, a7⟩ := HF.out; have HTV := Lib.hid (HTV.out.below hb2)))
    | (go_at_call 15; (with_reducible refine (HCP.out _ (HP.out.below HBX.out) (HX.out.below HBX.out) (HB.out.below HBX.out) (HK.out.go HBX.out)).mono ?_); rintro e w3 ⟨B3, c3, he3, hc3, hown3, hb3⟩; rw [HL.out] at he3 hc3 hown3; subst he3; have HBX := Lib.hid (bgo HBX.out hb3); have HF := Lib.hid (HF.out.below hb3); obtain ⟨s0, a0, a1, a2, a3, a4, a5, a6, a7⟩ := HF.out; have HTV := Lib.hid (HTV.out.below hb3); have HR3 := Lib.hid (Rd.of_own hown3); have HRI := Lib.hid (show Rd w3 (some ⟨B3, 0, none⟩) (nums .u8 inn) from by have := HR3.out.take t; rwa [HFT.out] at this); have hc3n : ¬ c3 = t := (by omega); have hc3i : (t : Int) ≤ c3 := (by omega); have hc3m : t ≤ c3 := (by omega); clear hown3)
    | (go_at_call 16; (with_reducible refine (HCTG.out _ _ _ (HP.out.below HBX.out) HRI.out (HK.out.go HBX.out)).mono ?_); rintro e w4 ⟨B6, c6, het, hct, hlt, hrt, hb4⟩; rw [HTL.out] at het; subst het; have HRT := Lib.hid hrt; have HRI := Lib.hid (HRI.out.below hb4); have HR3 := Lib.hid (HR3.out.below hb4); have HBX := Lib.hid (bgo HBX.out hb4); have HF := Lib.hid (HF.out.below hb4); obtain ⟨s0, a0, a1, a2, a3, a4, a5, a6, a7⟩ := HF.out; have HTV := Lib.hid (HTV.out.below hb4); clear hrt))
  have hS : Below w4.heap.size w4 w4.drew := bdr brf
  refine wp_region_held_drew (S := fun x => Below w4.heap.size w4 x) (by kernel_rfl) hS (fun hHeld => ?_)
  clear hHeld
  refine takeH (i := 0) (oi := ?oiu20) ?vu20 (by kernel_rfl) (by with_reducible exact hS) ?hiu20 ?hQu20 ?hyu20 ?_
  case hiu20 => simp only [List.getElem?_toArray, List.getElem?_cons_succ, List.getElem?_cons_zero]; rfl
  case hQu20 => exact fun _ _ _ h => h
  case hyu20 =>
    refine Or.inl ⟨by rfl, ?_⟩
    rintro W9 hSw
    go_simp
    rfl
  try simp only [Act.put, List.setIfInBounds_toArray, List.set_cons_zero, List.set_cons_succ]
  refine takeH (i := 1) (oi := ?oiu21) ?vu21 (by kernel_rfl) (by with_reducible exact hS) ?hiu21 ?hQu21 ?hyu21 ?_
  case hiu21 => simp only [List.getElem?_toArray, List.getElem?_cons_succ, List.getElem?_cons_zero]; rfl
  case hQu21 => exact fun _ _ _ h => h
  case hyu21 =>
    refine Or.inl ⟨by rfl, ?_⟩
    rintro W9 hSw
    go_simp
    rfl
  try simp only [Act.put, List.setIfInBounds_toArray, List.set_cons_zero, List.set_cons_succ]
  refine takeH (i := 3) (oi := ?oiu22) ?vu22 (by kernel_rfl) (by with_reducible exact hS) ?hiu22 ?hQu22 ?hyu22 ?_
  case hiu22 => simp only [List.getElem?_toArray, List.getElem?_cons_succ, List.getElem?_cons_zero]; rfl
  case hQu22 => exact fun _ _ _ h => h
  case hyu22 =>
    refine Or.inl ⟨by rfl, ?_⟩
    rintro W9 hSw
    go_simp
    rfl
  try simp only [Act.put, List.setIfInBounds_toArray, List.set_cons_zero, List.set_cons_succ]
  refine wpAnyH_ready (rs := [2, 9]) (by kernel_rfl) (by simp) (AllReadyH.cons (o := ?oau23) ?hau23 (fun K hK => ?_) (AllReadyH.cons (o := ?obu23) ?hbu23 (fun K hK => ?_) AllReadyH.nil))
  case hau23 => simp only [List.getElem?_toArray, List.getElem?_cons_succ, List.getElem?_cons_zero]; rfl
  case hbu23 => simp only [List.getElem?_toArray, List.getElem?_cons_succ, List.getElem?_cons_zero]; rfl
  · skip
    refine step_append_vs rfl _ _ 22 (by rfl) w4.heap.size 5 i0 (.int .u8 0) 1 Tryd.underlying22 hi hz0 hz1 hz2 rfl (.slice none 0 0) 0 [] (by rfl) ⟨rfl, .inl ⟨rfl, rfl⟩⟩ (some ⟨B3, 0, none⟩) t c3 (nums .u8 inn) (by rfl) HILN.out (HRI.out.below hS) nums_u8_one (by unfold maxLen; omega) (by omega) (by simp) ?_
    intro vA wA hown hgrow
    rw [Nat.zero_add, List.nil_append] at hown
    have hbx := (brf (w := w4.drew)).grown hgrow (Nat.le_refl _) (fun k e => by simp [Value.ownBlock] at e)
    have hS : Below w4.heap.size w4 wA := bgo hS hbx
    obtain ⟨A8, c8, rfl⟩ := own_slice hown
    clear hgrow hbx
    refine hK.out _ _ (by with_reducible exact hS) (fun hHeld => ?_)
    clear hK K hHeld
    try simp only [Act.put, List.setIfInBounds_toArray, List.set_cons_zero, List.set_cons_succ]
    refine wpAnyH_ready (rs := [4, 9]) (by kernel_rfl) (by simp) (AllReadyH.cons (o := ?oau24) ?hau24 (fun K hK => ?_) (AllReadyH.cons (o := ?obu24) ?hbu24 (fun K hK => ?_) AllReadyH.nil))
    case hau24 => simp only [List.getElem?_toArray, List.getElem?_cons_succ, List.getElem?_cons_zero]; rfl
    case hbu24 => simp only [List.getElem?_toArray, List.getElem?_cons_succ, List.getElem?_cons_zero]; rfl
    · skip
      refine step_append_vs rfl _ _ 22 (by rfl) w4.heap.size 5 i0 (.int .u8 0) 1 Tryd.underlying22 hi hz0 hz1 hz2 rfl (.slice A8 t c8) t (nums .u8 inn) (by rfl) hown (some ⟨w.heap.size + 1, 0, none⟩) 32 32 (nums .u8 tv) (by rfl) HTVN.out (HTV.out.below hS) nums_u8_one (by unfold maxLen; omega) (by omega) (hS.size) ?_
      intro vB wB hownB hgrow
      rw [← List.map_append] at hownB
      have hS : Below w4.heap.size w4 wB := keep_below0 hown hgrow hS hS.size (Nat.le_refl _)
      obtain ⟨A9, c9, rfl⟩ := own_slice hownB
      have HM9 := Lib.hid (And.intro (own_le hownB) (own_max hownB))
      have HR9 := Lib.hid (Rd.of_own hownB)
      clear hgrow hown hownB
      refine hK.out _ _ (by with_reducible exact hS) (fun hHeld => ?_)
      clear hK K hHeld
      try simp only [Act.put, List.setIfInBounds_toArray, List.set_cons_zero, List.set_cons_succ]
      refine wpAnyH_ready (rs := [5, 9]) (by kernel_rfl) (by simp) (AllReadyH.cons (o := ?oau25) ?hau25 (fun K hK => ?_) (AllReadyH.cons (o := ?obu25) ?hbu25 (fun K hK => ?_) AllReadyH.nil))
      case hau25 => simp only [List.getElem?_toArray, List.getElem?_cons_succ, List.getElem?_cons_zero]; rfl
      case hbu25 => simp only [List.getElem?_toArray, List.getElem?_cons_succ, List.getElem?_cons_zero]; rfl
      · skip
        go_simp
        refine (HCTK.out _ _ _ (HP.out.below (bgo HBX.out hS)) HR9.out (by have := HM9.out.1; omega) HM9.out.2 (HK.out.go (bgo HBX.out hS))).mono ?_
        rintro e wC ⟨rfl, hbC⟩
        have hS : Below w4.heap.size w4 wC := bgo hS hbC
        clear hbC HR9 HM9
        go_wp2_with fail
        refine hK.out _ _ (by with_reducible exact hS) (fun hHeld => ?_)
        clear hK K hHeld
        try simp only [Act.put, List.setIfInBounds_toArray, List.set_cons_zero, List.set_cons_succ]
        refine takeH (i := 6) (oi := ?oiu26) ?vu26 (by kernel_rfl) (by with_reducible exact hS) ?hiu26 ?hQu26 ?hyu26 ?_
        case hiu26 => simp only [List.getElem?_toArray, List.getElem?_cons_succ, List.getElem?_cons_zero]; rfl
        case hQu26 => exact fun _ _ _ h => h
        case hyu26 =>
          refine Or.inl ⟨by rfl, ?_⟩
          rintro W9 hSw
          go_simp
          rfl
        try simp only [Act.put, List.setIfInBounds_toArray, List.set_cons_zero, List.set_cons_succ]
        refine takeH (i := 7) (oi := ?oiu27) ?vu27 (by kernel_rfl) (by with_reducible exact hS) ?hiu27 ?hQu27 ?hyu27 ?_
        case hiu27 => simp only [List.getElem?_toArray, List.getElem?_cons_succ, List.getElem?_cons_zero]; rfl
        case hQu27 => exact fun _ _ _ h => h
        case hyu27 =>
          refine Or.inl ⟨by rfl, ?_⟩
          rintro W9 hSw
          go_simp
          rfl
        try simp only [Act.put, List.setIfInBounds_toArray, List.set_cons_zero, List.set_cons_succ]
        refine takeH (i := 8) (oi := ?oiu28) ?vu28 (by kernel_rfl) (by with_reducible exact hS) ?hiu28 ?hQu28 ?hyu28 ?_
        case hiu28 => simp only [List.getElem?_toArray, List.getElem?_cons_succ, List.getElem?_cons_zero]; rfl
        case hQu28 => exact fun _ _ _ h => h
        case hyu28 =>
          refine Or.inl ⟨by rfl, ?_⟩
          rintro W9 hSw
          go_simp
          rfl
        try simp only [Act.put, List.setIfInBounds_toArray, List.set_cons_zero, List.set_cons_succ]
        refine onlyH (i := 9) (oi := ?oiu29) (by kernel_rfl) ?hiu29 (fun K hK => ?_)
        case hiu29 => simp only [List.getElem?_toArray, List.getElem?_cons_succ, List.getElem?_cons_zero]; rfl
        go_simp
        have hS0 := hS
        have hq := hS0.size
        have hS := bal hS (.cells #[.int .i64 0, .int .i64 0, .int .u64 0, .int .u64 0, .slice none 0 0, .int .i64 0, .int .i64 0, .slice none 0 0] 30)
        refine hK.out _ _ (by with_reducible exact hS) (fun hHeld => ?_)
        clear hK K hHeld
        try simp only [Act.put, List.setIfInBounds_toArray, List.set_cons_zero, List.set_cons_succ]
        have hfo := frOut_new wC 30
        refine onlyH (i := 10) (oi := ?oiu30) (by kernel_rfl) ?hiu30 (fun K hK => ?_)
        case hiu30 => simp only [List.getElem?_toArray, List.getElem?_cons_succ, List.getElem?_cons_zero]; rfl
        rw [if_pos (by rfl)]
        refine store8op _ _ rfl wC.heap.size #[.int .i64 0, .int .i64 0, .int .u64 0, .int .u64 0, .slice none 0 0, .int .i64 0, .int .i64 0, .slice none 0 0] rfl rfl hfo rfl (by kernel_rfl) ?_
        intro W5 hT5
        have hS0 := hS
        have hS : Below w4.heap.size w4 W5 := hT5.below w4 (by assumption) hS0
        refine hK.out _ _ (by with_reducible exact hS) (fun hHeld => ?_)
        clear hK K hHeld
        try simp only [Act.put, List.setIfInBounds_toArray, List.set_cons_zero, List.set_cons_succ]
        refine takeH (i := 11) (oi := ?oiu31) ?vu31 (by kernel_rfl) (by with_reducible exact hS) ?hiu31 ?hQu31 ?hyu31 ?_
        case hiu31 => simp only [List.getElem?_toArray, List.getElem?_cons_succ, List.getElem?_cons_zero]; rfl
        case hQu31 => exact fun _ _ _ h => h
        case hyu31 =>
          refine Or.inl ⟨by rfl, ?_⟩
          rintro W9 hSw
          go_simp
          rfl
        try simp only [Act.put, List.setIfInBounds_toArray, List.set_cons_zero, List.set_cons_succ]
        refine wpAnyH_done (by kernel_rfl) ?_ _
        have HR3 := Lib.hid (HR3.out.below hS)
        have HTV := Lib.hid (HTV.out.below hS)
        have HRT := Lib.hid (HRT.out.below hS)
        have HBX := Lib.hid (bgo HBX.out hS)
        have HF := Lib.hid (HF.out.below hS)
        obtain ⟨s0, a0, a1, a2, a3, a4, a5, a6, a7⟩ := HF.out
        have HRD := Lib.hid (HFD.out _ _ HR3.out)
        clear hS hS0 hT5 hfo
        go_wp2_with (go_at_call 14; first
          | ((with_reducible refine (HCS1.out _ _ _ _ _ HRD.out HRT.out).mono ?_); rintro e w8 ⟨rfl, rfl⟩)
          | ((with_reducible refine (HCS2.out _ _ _ _ _ HTV.out HRT.out).mono ?_); rintro e w9 ⟨he, rfl⟩; rw [HDC.out] at he; subst he))
        go_ret
        exact ⟨by first | (simp; done) | (simp; omega), HBX.out⟩
      · skip
        go_simp
        have hq := hS.size
        have hS := bal hS (.cells #[.int .i64 0, .int .i64 0, .int .u64 0, .int .u64 0, .slice none 0 0, .int .i64 0, .int .i64 0, .slice none 0 0] 30)
        refine hK.out _ _ (by with_reducible exact hS) (fun hHeld => ?_)
        clear hK K hHeld
        try simp only [Act.put, List.setIfInBounds_toArray, List.set_cons_zero, List.set_cons_succ]
        have hfo := frOut_new wB 30
        refine onlyH (i := 5) (oi := ?oiu32) (by kernel_rfl) ?hiu32 (fun K hK => ?_)
        case hiu32 => simp only [List.getElem?_toArray, List.getElem?_cons_succ, List.getElem?_cons_zero]; rfl
        go_simp
        refine (HCTK.out _ _ _ (HP.out.below (bgo HBX.out hS)) (HR9.out.below (bal brf _)) (by have := HM9.out.1; omega) HM9.out.2 (HK.out.go (bgo HBX.out hS))).mono ?_
        rintro e wC ⟨rfl, hbC⟩
        have hfo := hfo.below hbC
        have hS : Below w4.heap.size w4 wC := bgo hS hbC
        clear hbC HR9 HM9
        go_wp2_with fail
        refine hK.out _ _ (by with_reducible exact hS) (fun hHeld => ?_)
        clear hK K hHeld
        try simp only [Act.put, List.setIfInBounds_toArray, List.set_cons_zero, List.set_cons_succ]
        refine takeH (i := 6) (oi := ?oiu33) ?vu33 (by kernel_rfl) (by with_reducible exact hS) ?hiu33 ?hQu33 ?hyu33 ?_
        case hiu33 => simp only [List.getElem?_toArray, List.getElem?_cons_succ, List.getElem?_cons_zero]; rfl
        case hQu33 => exact fun _ _ _ h => h
        case hyu33 =>
          refine Or.inl ⟨by rfl, ?_⟩
          rintro W9 hSw
          go_simp
          rfl
        try simp only [Act.put, List.setIfInBounds_toArray, List.set_cons_zero, List.set_cons_succ]
        refine takeH (i := 7) (oi := ?oiu34) ?vu34 (by kernel_rfl) (by with_reducible exact hS) ?hiu34 ?hQu34 ?hyu34 ?_
        case hiu34 => simp only [List.getElem?_toArray, List.getElem?_cons_succ, List.getElem?_cons_zero]; rfl
        case hQu34 => exact fun _ _ _ h => h
        case hyu34 =>
          refine Or.inl ⟨by rfl, ?_⟩
          rintro W9 hSw
          go_simp
          rfl
        try simp only [Act.put, List.setIfInBounds_toArray, List.set_cons_zero, List.set_cons_succ]
        refine takeH (i := 8) (oi := ?oiu35) ?vu35 (by kernel_rfl) (by with_reducible exact hS) ?hiu35 ?hQu35 ?hyu35 ?_
        case hiu35 => simp only [List.getElem?_toArray, List.getElem?_cons_succ, List.getElem?_cons_zero]; rfl
        case hQu35 => exact fun _ _ _ h => h
        case hyu35 =>
          refine Or.inl ⟨by rfl, ?_⟩
          rintro W9 hSw
          go_simp
          rfl
        try simp only [Act.put, List.setIfInBounds_toArray, List.set_cons_zero, List.set_cons_succ]
        refine onlyH (i := 10) (oi := ?oiu36) (by kernel_rfl) ?hiu36 (fun K hK => ?_)
        case hiu36 => simp only [List.getElem?_toArray, List.getElem?_cons_succ, List.getElem?_cons_zero]; rfl
        rw [if_pos (by rfl)]
        refine store8op _ _ rfl wB.heap.size #[.int .i64 0, .int .i64 0, .int .u64 0, .int .u64 0, .slice none 0 0, .int .i64 0, .int .i64 0, .slice none 0 0] rfl rfl hfo rfl (by kernel_rfl) ?_
        intro W5 hT5
        have hS0 := hS
        have hS : Below w4.heap.size w4 W5 := hT5.below w4 (by assumption) hS0
        refine hK.out _ _ (by with_reducible exact hS) (fun hHeld => ?_)
        clear hK K hHeld
        try simp only [Act.put, List.setIfInBounds_toArray, List.set_cons_zero, List.set_cons_succ]
        refine takeH (i := 11) (oi := ?oiu37) ?vu37 (by kernel_rfl) (by with_reducible exact hS) ?hiu37 ?hQu37 ?hyu37 ?_
        case hiu37 => simp only [List.getElem?_toArray, List.getElem?_cons_succ, List.getElem?_cons_zero]; rfl
        case hQu37 => exact fun _ _ _ h => h
        case hyu37 =>
          refine Or.inl ⟨by rfl, ?_⟩
          rintro W9 hSw
          go_simp
          rfl
        try simp only [Act.put, List.setIfInBounds_toArray, List.set_cons_zero, List.set_cons_succ]
        refine wpAnyH_done (by kernel_rfl) ?_ _
        have HR3 := Lib.hid (HR3.out.below hS)
        have HTV := Lib.hid (HTV.out.below hS)
        have HRT := Lib.hid (HRT.out.below hS)
        have HBX := Lib.hid (bgo HBX.out hS)
        have HF := Lib.hid (HF.out.below hS)
        obtain ⟨s0, a0, a1, a2, a3, a4, a5, a6, a7⟩ := HF.out
        have HRD := Lib.hid (HFD.out _ _ HR3.out)
        clear hS hS0 hT5 hfo
        go_wp2_with (go_at_call 14; first
          | ((with_reducible refine (HCS1.out _ _ _ _ _ HRD.out HRT.out).mono ?_); rintro e w8 ⟨rfl, rfl⟩)
          | ((with_reducible refine (HCS2.out _ _ _ _ _ HTV.out HRT.out).mono ?_); rintro e w9 ⟨he, rfl⟩; rw [HDC.out] at he; subst he))
        go_ret
        exact ⟨by first | (simp; done) | (simp; omega), HBX.out⟩
    · skip
      go_simp
      have hq := hS.size
      have hS := bal hS (.cells #[.int .i64 0, .int .i64 0, .int .u64 0, .int .u64 0, .slice none 0 0, .int .i64 0, .int .i64 0, .slice none 0 0] 30)
      refine hK.out _ _ (by with_reducible exact hS) (fun hHeld => ?_)
      clear hK K hHeld
      try simp only [Act.put, List.setIfInBounds_toArray, List.set_cons_zero, List.set_cons_succ]
      have hfo := frOut_new wA 30
      have hlt := fun g e => (hown.lt g e).2
      have hown := hown.alloc (.cells #[.int .i64 0, .int .i64 0, .int .u64 0, .int .u64 0, .slice none 0 0, .int .i64 0, .int .i64 0, .slice none 0 0] 30)
      refine onlyH (i := 4) (oi := ?oiu38) (by kernel_rfl) ?hiu38 (fun K hK => ?_)
      case hiu38 => simp only [List.getElem?_toArray, List.getElem?_cons_succ, List.getElem?_cons_zero]; rfl
      refine step_append_vs rfl _ _ 22 (by rfl) w4.heap.size 5 i0 (.int .u8 0) 1 Tryd.underlying22 hi hz0 hz1 hz2 rfl (.slice A8 t c8) t (nums .u8 inn) (by rfl) hown (some ⟨w.heap.size + 1, 0, none⟩) 32 32 (nums .u8 tv) (by rfl) HTVN.out (HTV.out.below hS) nums_u8_one (by unfold maxLen; omega) (by omega) (hS.size) ?_
      intro vB wB hownB hgrow
      rw [← List.map_append] at hownB
      have hfo := hfo.grown hgrow (fun g e => by have := hlt g e; omega)
      have hS : Below w4.heap.size w4 wB := keep_below0 hown hgrow hS hS.size (Nat.le_refl _)
      obtain ⟨A9, c9, rfl⟩ := own_slice hownB
      have HM9 := Lib.hid (And.intro (own_le hownB) (own_max hownB))
      have HR9 := Lib.hid (Rd.of_own hownB)
      clear hgrow hown hownB
      refine hK.out _ _ (by with_reducible exact hS) (fun hHeld => ?_)
      clear hK K hHeld
      try simp only [Act.put, List.setIfInBounds_toArray, List.set_cons_zero, List.set_cons_succ]
      refine onlyH (i := 5) (oi := ?oiu39) (by kernel_rfl) ?hiu39 (fun K hK => ?_)
      case hiu39 => simp only [List.getElem?_toArray, List.getElem?_cons_succ, List.getElem?_cons_zero]; rfl
      go_simp
      refine (HCTK.out _ _ _ (HP.out.below (bgo HBX.out hS)) HR9.out (by have := HM9.out.1; omega) HM9.out.2 (HK.out.go (bgo HBX.out hS))).mono ?_
      rintro e wC ⟨rfl, hbC⟩
      have hfo := hfo.below hbC
      have hS : Below w4.heap.size w4 wC := bgo hS hbC
      clear hbC HR9 HM9
      go_wp2_with fail
      refine hK.out _ _ (by with_reducible exact hS) (fun hHeld => ?_)
      clear hK K hHeld
      try simp only [Act.put, List.setIfInBounds_toArray, List.set_cons_zero, List.set_cons_succ]
      refine takeH (i := 6) (oi := ?oiu40) ?vu40 (by kernel_rfl) (by with_reducible exact hS) ?hiu40 ?hQu40 ?hyu40 ?_
      case hiu40 => simp only [List.getElem?_toArray, List.getElem?_cons_succ, List.getElem?_cons_zero]; rfl
      case hQu40 => exact fun _ _ _ h => h
      case hyu40 =>
        refine Or.inl ⟨by rfl, ?_⟩
        rintro W9 hSw
        go_simp
        rfl
      try simp only [Act.put, List.setIfInBounds_toArray, List.set_cons_zero, List.set_cons_succ]
      refine takeH (i := 7) (oi := ?oiu41) ?vu41 (by kernel_rfl) (by with_reducible exact hS) ?hiu41 ?hQu41 ?hyu41 ?_
      case hiu41 => simp only [List.getElem?_toArray, List.getElem?_cons_succ, List.getElem?_cons_zero]; rfl
      case hQu41 => exact fun _ _ _ h => h
      case hyu41 =>
        refine Or.inl ⟨by rfl, ?_⟩
        rintro W9 hSw
        go_simp
        rfl
      try simp only [Act.put, List.setIfInBounds_toArray, List.set_cons_zero, List.set_cons_succ]
      refine takeH (i := 8) (oi := ?oiu42) ?vu42 (by kernel_rfl) (by with_reducible exact hS) ?hiu42 ?hQu42 ?hyu42 ?_
      case hiu42 => simp only [List.getElem?_toArray, List.getElem?_cons_succ, List.getElem?_cons_zero]; rfl
      case hQu42 => exact fun _ _ _ h => h
      case hyu42 =>
        refine Or.inl ⟨by rfl, ?_⟩
        rintro W9 hSw
        go_simp
        rfl
      try simp only [Act.put, List.setIfInBounds_toArray, List.set_cons_zero, List.set_cons_succ]
      refine onlyH (i := 10) (oi := ?oiu43) (by kernel_rfl) ?hiu43 (fun K hK => ?_)
      case hiu43 => simp only [List.getElem?_toArray, List.getElem?_cons_succ, List.getElem?_cons_zero]; rfl
      rw [if_pos (by rfl)]
      refine store8op _ _ rfl wA.heap.size #[.int .i64 0, .int .i64 0, .int .u64 0, .int .u64 0, .slice none 0 0, .int .i64 0, .int .i64 0, .slice none 0 0] rfl rfl hfo rfl (by kernel_rfl) ?_
      intro W5 hT5
      have hS0 := hS
      have hS : Below w4.heap.size w4 W5 := hT5.below w4 (by assumption) hS0
      refine hK.out _ _ (by with_reducible exact hS) (fun hHeld => ?_)
      clear hK K hHeld
      try simp only [Act.put, List.setIfInBounds_toArray, List.set_cons_zero, List.set_cons_succ]
      refine takeH (i := 11) (oi := ?oiu44) ?vu44 (by kernel_rfl) (by with_reducible exact hS) ?hiu44 ?hQu44 ?hyu44 ?_
      case hiu44 => simp only [List.getElem?_toArray, List.getElem?_cons_succ, List.getElem?_cons_zero]; rfl
      case hQu44 => exact fun _ _ _ h => h
      case hyu44 =>
        refine Or.inl ⟨by rfl, ?_⟩
        rintro W9 hSw
        go_simp
        rfl
      try simp only [Act.put, List.setIfInBounds_toArray, List.set_cons_zero, List.set_cons_succ]
      refine wpAnyH_done (by kernel_rfl) ?_ _
      have HR3 := Lib.hid (HR3.out.below hS)
      have HTV := Lib.hid (HTV.out.below hS)
      have HRT := Lib.hid (HRT.out.below hS)
      have HBX := Lib.hid (bgo HBX.out hS)
      have HF := Lib.hid (HF.out.below hS)
      obtain ⟨s0, a0, a1, a2, a3, a4, a5, a6, a7⟩ := HF.out
      have HRD := Lib.hid (HFD.out _ _ HR3.out)
      clear hS hS0 hT5 hfo
      go_wp2_with (go_at_call 14; first
        | ((with_reducible refine (HCS1.out _ _ _ _ _ HRD.out HRT.out).mono ?_); rintro e w8 ⟨rfl, rfl⟩)
        | ((with_reducible refine (HCS2.out _ _ _ _ _ HTV.out HRT.out).mono ?_); rintro e w9 ⟨he, rfl⟩; rw [HDC.out] at he; subst he))
      go_ret
      exact ⟨by first | (simp; done) | (simp; omega), HBX.out⟩
  · skip
    go_simp
    have hS : Below w4.heap.size w4 (w4.alloc (.cells #[.int .i64 0, .int .i64 0, .int .u64 0, .int .u64 0, .slice none 0 0, .int .i64 0, .int .i64 0, .slice none 0 0] 30)).drew := bdr (bal brf _)
    refine hK.out _ _ (by with_reducible exact hS) (fun hHeld => ?_)
    clear hK K hHeld
    try simp only [Act.put, List.setIfInBounds_toArray, List.set_cons_zero, List.set_cons_succ]
    have hfo : FrOut w4.heap.size (w4.alloc (.cells #[.int .i64 0, .int .i64 0, .int .u64 0, .int .u64 0, .slice none 0 0, .int .i64 0, .int .i64 0, .slice none 0 0] 30)).drew := frOut_new w4 30
    refine onlyH (i := 2) (oi := ?oiu45) (by kernel_rfl) ?hiu45 (fun K hK => ?_)
    case hiu45 => simp only [List.getElem?_toArray, List.getElem?_cons_succ, List.getElem?_cons_zero]; rfl
    refine step_append_vs rfl _ _ 22 (by rfl) (w4.heap.size + 1) 5 i0 (.int .u8 0) 1 Tryd.underlying22 hi hz0 hz1 hz2 rfl (.slice none 0 0) 0 [] (by rfl) ⟨rfl, .inl ⟨rfl, rfl⟩⟩ (some ⟨B3, 0, none⟩) t c3 (nums .u8 inn) (by rfl) HILN.out (HRI.out.below hS) nums_u8_one (by unfold maxLen; omega) (by omega) (by simp) ?_
    intro vA wA hown hgrow
    rw [Nat.zero_add, List.nil_append] at hown
    have hbx := (brf (w := (w4.alloc (.cells #[.int .i64 0, .int .i64 0, .int .u64 0, .int .u64 0, .slice none 0 0, .int .i64 0, .int .i64 0, .slice none 0 0] 30)).drew)).grown hgrow (Nat.le_refl _) (fun k e => by simp [Value.ownBlock] at e)
    have hfo := hfo.below hbx
    have hq1 : w4.heap.size + 1 ≤ wA.heap.size := by have := hbx.size; simpa using this
    have hS : Below w4.heap.size w4 wA := bgo hS hbx
    obtain ⟨A8, c8, rfl⟩ := own_slice hown
    clear hgrow hbx
    refine hK.out _ _ (by with_reducible exact hS) (fun hHeld => ?_)
    clear hK K hHeld
    try simp only [Act.put, List.setIfInBounds_toArray, List.set_cons_zero, List.set_cons_succ]
    refine onlyH (i := 4) (oi := ?oiu46) (by kernel_rfl) ?hiu46 (fun K hK => ?_)
    case hiu46 => simp only [List.getElem?_toArray, List.getElem?_cons_succ, List.getElem?_cons_zero]; rfl
    refine step_append_vs rfl _ _ 22 (by rfl) (w4.heap.size + 1) 5 i0 (.int .u8 0) 1 Tryd.underlying22 hi hz0 hz1 hz2 rfl (.slice A8 t c8) t (nums .u8 inn) (by rfl) hown (some ⟨w.heap.size + 1, 0, none⟩) 32 32 (nums .u8 tv) (by rfl) HTVN.out (HTV.out.below hS) nums_u8_one (by unfold maxLen; omega) (by omega) (hq1) ?_
    intro vB wB hownB hgrow
    rw [← List.map_append] at hownB
    have hfo := hfo.grown hgrow (fun g e => by have := (hown.lt g e).1; omega)
    have hS : Below w4.heap.size w4 wB := keep_below0 hown hgrow hS hS.size (by omega)
    obtain ⟨A9, c9, rfl⟩ := own_slice hownB
    have HM9 := Lib.hid (And.intro (own_le hownB) (own_max hownB))
    have HR9 := Lib.hid (Rd.of_own hownB)
    clear hgrow hown hownB
    refine hK.out _ _ (by with_reducible exact hS) (fun hHeld => ?_)
    clear hK K hHeld
    try simp only [Act.put, List.setIfInBounds_toArray, List.set_cons_zero, List.set_cons_succ]
    refine onlyH (i := 5) (oi := ?oiu47) (by kernel_rfl) ?hiu47 (fun K hK => ?_)
    case hiu47 => simp only [List.getElem?_toArray, List.getElem?_cons_succ, List.getElem?_cons_zero]; rfl
    go_simp
    refine (HCTK.out _ _ _ (HP.out.below (bgo HBX.out hS)) HR9.out (by have := HM9.out.1; omega) HM9.out.2 (HK.out.go (bgo HBX.out hS))).mono ?_
    rintro e wC ⟨rfl, hbC⟩
    have hfo := hfo.below hbC
    have hS : Below w4.heap.size w4 wC := bgo hS hbC
    clear hbC HR9 HM9
    go_wp2_with fail
    refine hK.out _ _ (by with_reducible exact hS) (fun hHeld => ?_)
    clear hK K hHeld
    try simp only [Act.put, List.setIfInBounds_toArray, List.set_cons_zero, List.set_cons_succ]
    refine takeH (i := 6) (oi := ?oiu48) ?vu48 (by kernel_rfl) (by with_reducible exact hS) ?hiu48 ?hQu48 ?hyu48 ?_
    case hiu48 => simp only [List.getElem?_toArray, List.getElem?_cons_succ, List.getElem?_cons_zero]; rfl
    case hQu48 => exact fun _ _ _ h => h
    case hyu48 =>
      refine Or.inl ⟨by rfl, ?_⟩
      rintro W9 hSw
      go_simp
      rfl
    try simp only [Act.put, List.setIfInBounds_toArray, List.set_cons_zero, List.set_cons_succ]
    refine takeH (i := 7) (oi := ?oiu49) ?vu49 (by kernel_rfl) (by with_reducible exact hS) ?hiu49 ?hQu49 ?hyu49 ?_
    case hiu49 => simp only [List.getElem?_toArray, List.getElem?_cons_succ, List.getElem?_cons_zero]; rfl
    case hQu49 => exact fun _ _ _ h => h
    case hyu49 =>
      refine Or.inl ⟨by rfl, ?_⟩
      rintro W9 hSw
      go_simp
      rfl
    try simp only [Act.put, List.setIfInBounds_toArray, List.set_cons_zero, List.set_cons_succ]
    refine takeH (i := 8) (oi := ?oiu50) ?vu50 (by kernel_rfl) (by with_reducible exact hS) ?hiu50 ?hQu50 ?hyu50 ?_
    case hiu50 => simp only [List.getElem?_toArray, List.getElem?_cons_succ, List.getElem?_cons_zero]; rfl
    case hQu50 => exact fun _ _ _ h => h
    case hyu50 =>
      refine Or.inl ⟨by rfl, ?_⟩
      rintro W9 hSw
      go_simp
      rfl
    try simp only [Act.put, List.setIfInBounds_toArray, List.set_cons_zero, List.set_cons_succ]
    refine onlyH (i := 10) (oi := ?oiu51) (by kernel_rfl) ?hiu51 (fun K hK => ?_)
    case hiu51 => simp only [List.getElem?_toArray, List.getElem?_cons_succ, List.getElem?_cons_zero]; rfl
    rw [if_pos (by rfl)]
    refine store8op _ _ rfl w4.heap.size #[.int .i64 0, .int .i64 0, .int .u64 0, .int .u64 0, .slice none 0 0, .int .i64 0, .int .i64 0, .slice none 0 0] rfl rfl hfo rfl (by kernel_rfl) ?_
    intro W5 hT5
    have hS0 := hS
    have hS : Below w4.heap.size w4 W5 := hT5.below w4 (by exact Nat.le_refl _) hS0
    refine hK.out _ _ (by with_reducible exact hS) (fun hHeld => ?_)
    clear hK K hHeld
    try simp only [Act.put, List.setIfInBounds_toArray, List.set_cons_zero, List.set_cons_succ]
    refine takeH (i := 11) (oi := ?oiu52) ?vu52 (by kernel_rfl) (by with_reducible exact hS) ?hiu52 ?hQu52 ?hyu52 ?_
    case hiu52 => simp only [List.getElem?_toArray, List.getElem?_cons_succ, List.getElem?_cons_zero]; rfl
    case hQu52 => exact fun _ _ _ h => h
    case hyu52 =>
      refine Or.inl ⟨by rfl, ?_⟩
      rintro W9 hSw
      go_simp
      rfl
    try simp only [Act.put, List.setIfInBounds_toArray, List.set_cons_zero, List.set_cons_succ]
    refine wpAnyH_done (by kernel_rfl) ?_ _
    have HR3 := Lib.hid (HR3.out.below hS)
    have HTV := Lib.hid (HTV.out.below hS)
    have HRT := Lib.hid (HRT.out.below hS)
    have HBX := Lib.hid (bgo HBX.out hS)
    have HF := Lib.hid (HF.out.below hS)
    obtain ⟨s0, a0, a1, a2, a3, a4, a5, a6, a7⟩ := HF.out
    have HRD := Lib.hid (HFD.out _ _ HR3.out)
    clear hS hS0 hT5 hfo
    go_wp2_with (go_at_call 14; first
      | ((with_reducible refine (HCS1.out _ _ _ _ _ HRD.out HRT.out).mono ?_); rintro e w8 ⟨rfl, rfl⟩)
      | ((with_reducible refine (HCS2.out _ _ _ _ _ HTV.out HRT.out).mono ?_); rintro e w9 ⟨he, rfl⟩; rw [HDC.out] at he; subst he))
    go_ret
    exact ⟨by first | (simp; done) | (simp; omega), HBX.out⟩

set_option maxHeartbeats 8000000 in
theorem frameTag_right (P : Option Addr) (pn pc : Nat) (F T : Int) (ep ro : Nat) (A : Option Addr) (n c : Nat) (K Q : Int) (D : Option Addr) (l dc : Nat) (tv : List Int) (w : World) (hK : Konst w) (key xs bs : List Int) (htv : tv.length = 32) (h : pn ≤ 200 ∧ l ≤ 600 ∧ n ≤ 60) (hp : key.length = pn) (hpx : Rd w P (nums .u8 key)) (hn : xs.length = n) (hnc : n ≤ c) (hx : Rd w A (nums .i64 xs)) (hep : ep < 18446744073709551616) (hro : ro < 18446744073709551616) (hl : bs.length = l) (hb : Rd w D (nums .u8 bs)) (hbb : Byt bs) (htb : Byt tv) (hg : goodF F T K Q xs l) (heq : tv = tagL key (inB F T ep ro xs K Q.toNat bs)) : Calls Tryd.prog 5 #[.slice P pn pc, .agg #[.int .i64 F, .int .i64 T, .int .u64 (ep : Nat), .int .u64 (ro : Nat), .slice A n c, .int .i64 K, .int .i64 Q, .slice D l dc], .agg (nums .u8 tv).toArray] w (Yes w) := by
  obtain ⟨i0, hi, hz0, hz1, hz2⟩ := info_parts infoByteT
  obtain ⟨q, rfl⟩ := Int.eq_ofNat_of_zero_le hg.2.2.2.2.2.2.1
  rw [Int.toNat_natCast] at heq
  have hl60 := frB_len key F T ep ro xs K q bs
  have hil := inB_len F T ep ro xs K q bs
  rw [hn, hl] at hl60 hil
  have hft := frB_take (key := key) (F := F) (T := T) (K := K) (ep := ep) (ro := ro) (q := q) (xs := xs) (bs := bs)
  have hfd := frB_drop (key := key) (F := F) (T := T) (K := K) (ep := ep) (ro := ro) (q := q) (xs := xs) (bs := bs)
  rw [hl60] at hft hfd
  have bi : Byt (inB F T ep ro xs K q bs) := inB_byt (by rw [hl]; exact hg) hbb q
  have htf := (frB_tF (key := key) (F := F) (T := T) (K := K) (ep := ep) (ro := ro) (q := q) (xs := xs) (bs := bs) (by rw [hl]; exact hg) hep hro (by omega)).1
  have HCP := Lib.hid (fun (W : World) h0 h1 h2 h3 => fPut_any P pn pc key F T ep ro A n c xs K q D l dc bs W hp (by omega) h0 hn hnc h1 hl (by omega) h2 hep hro h3 hg)
  have hfr0 : frB key F T ep ro xs K q bs = inB F T ep ro xs K q bs ++ tagL key (inB F T ep ro xs K q bs) := rfl
  have htF2 := tF_tag (key := key) (tg := tagL key (inB F T ep ro xs K q bs)) (tag_len _ _) htv htf
  obtain ⟨fr, hfr⟩ : ∃ fr, fr = frB key F T ep ro xs K q bs := ⟨_, rfl⟩
  obtain ⟨inn, hinn⟩ : ∃ x, x = inB F T ep ro xs K q bs := ⟨_, rfl⟩
  rw [← hfr] at HCP hl60 hft hfd
  rw [← hinn] at hil hft hfd bi htF2 heq
  obtain ⟨t, ht⟩ : ∃ t, t = 28 + n + l := ⟨_, rfl⟩
  obtain ⟨N, hN⟩ : ∃ N, N = 60 + n + l := ⟨_, rfl⟩
  rw [← hN] at hl60 hft hfd
  rw [← ht] at hil
  have eN : N - 32 = t := by omega
  rw [eN] at hft hfd
  have e1 : (N : Int) - 32 = (t : Int) := by omega
  have e2 : t ≤ 700 := by omega
  have e3 : t + 32 = N := by omega
  have e4 : N - t = 32 := by omega
  have i1 : (33 : Int) ≤ N := by omega
  have i2 : ¬ (N : Int) < 33 := by omega
  have i3 : (0 : Int) ≤ t := by omega
  have i4 : (t : Int) ≤ N := by omega
  have hlv : (inn ++ tv).length = N := by rw [List.length_append, hil, htv]; exact e3
  have bv : Byt (inn ++ tv) := fun x hx => by
    rcases List.mem_append.1 hx with h | h
    · exact bi x h
    · exact htb x h
  have CTG := fun (B : Option Addr) (d' : Nat) (W : World) h0 h1 h2 => tag_any P B pn pc t d' key inn W hp hil (by omega) (by omega) h0 h1 h2
  have htT := (tT_tag (key := key) (inn := inn) htv).2 heq
  have CTK := fun (B : Option Addr) (d' : Nat) (W : World) h0 h1 (h2 : N ≤ d') (h3 : d' ≤ maxLen) h4 => fTake_0 (P := P) (A := B) (pc := pc) (c := d') (n := N) (b := inn ++ tv) (w := W) hp (by omega) h0 hlv h2 h3 (by omega) h1 bv h4 htF2 htT
  simp only [IsFr] at CTK
  obtain ⟨cc, hcc⟩ : ∃ cc, cc = (inn ++ tv).take (N - 32) := ⟨_, rfl⟩
  rw [← hcc] at CTK
  obtain ⟨f0, hf0⟩ : ∃ f, f = cc.getD 0 0 := ⟨_, rfl⟩
  obtain ⟨t0, ht0⟩ : ∃ f, f = cc.getD 1 0 := ⟨_, rfl⟩
  obtain ⟨r0, hr0⟩ : ∃ f, f = (paB cc).length := ⟨_, rfl⟩
  rw [← hf0, ← ht0, ← hr0] at CTK
  clear hcc hf0 ht0 hr0
  have tl := tag_len key inn
  have tb := tag_byt key inn
  obtain ⟨tg, htg⟩ : ∃ x, x = tagL key inn := ⟨_, rfl⟩
  rw [← htg] at CTG tl tb hfd heq
  have HCTG := Lib.hid CTG
  have HCTK := Lib.hid CTK
  have HTL := Lib.hid tl
  have HCS1 := Lib.hid (fun (B C : Option Addr) (c d : Nat) (W : World) h0 h1 => sameB_refl B C 32 c d tg tg W tl tl rfl tb h0 h1)
  have HCS2 := Lib.hid (fun (B C : Option Addr) (c d : Nat) (W : World) h0 h1 => same_any B C 32 c 32 d tv tg W htv tl h0 h1 htb tb)
  have HDC := Lib.hid (show decide (tv = tg) = true by simp [heq])
  have HFT := Lib.hid hft
  have HFD := Lib.hid (fun (B : Nat) (W : World) (h : Rd W (some ⟨B, 0, none⟩) (nums .u8 fr)) => (show Rd W (some ⟨B, t, none⟩) (nums .u8 tg) from by
    have := rd_dropF h t
    rwa [hfd, Nat.zero_add] at this))
  have HIL := Lib.hid hil
  have HILN := Lib.hid (show (nums .u8 inn).length = t by simp [hil])
  have HTVN := Lib.hid (show (nums .u8 tv).length = 32 by simp [htv])
  have HL := Lib.hid hl60
  have HLV := Lib.hid hlv
  have HP := Lib.hid hpx
  have HX := Lib.hid hx
  have HB := Lib.hid hb
  obtain ⟨cs, hcs⟩ : ∃ cs, cs = (nums .u8 tv).toArray := ⟨_, rfl⟩
  have hsz : cs.size = 32 := by rw [hcs]; simp [htv]
  have hf := (frBox_new w F T ep ro (.slice A n c) K q (.slice D l dc) 30).below (bal brf (.cells cs 40))
  have htd := rdX (w.alloc (.cells #[.int .i64 F, .int .i64 T, .int .u64 ep, .int .u64 ro, .slice A n c, .int .i64 K, .int .i64 q, .slice D l dc] 30)) cs 40 (0, 0) rfl
  rw [World.size_alloc, show cs.toList = nums .u8 tv by rw [hcs]] at htd
  have HTV := Lib.hid (show Rd ((w.alloc (.cells #[.int .i64 F, .int .i64 T, .int .u64 ep, .int .u64 ro, .slice A n c, .int .i64 K, .int .i64 q, .slice D l dc] 30)).alloc (.cells cs 40)) (some ⟨w.heap.size + 1, 0, none⟩) (nums .u8 tv) from htd)
  rw [← hcs]
  have HF := Lib.hid hf
  have HK := Lib.hid hK
  have HBX := Lib.hid (bal (bal (brf (w := w)) (.cells #[.int .i64 F, .int .i64 T, .int .u64 ep, .int .u64 ro, .slice A n c, .int .i64 K, .int .i64 q, .slice D l dc] 30)) (.cells cs 40))
  have HSZ := Lib.hid hsz
  clear hK hf htd hcs
  clear hp hpx hn hx hep hro hl hb hbb hg hl60 hil hft hfd bi htf hfr hfr0 hinn ht hN CTG CTK tl tb htg eN htF2 htT hlv bv heq htb hsz
  go_enter Tryd.func5, Tryd.ntmps5
  go_upto_region 10 with (first
    | (go_at_call 9; go_must (refine (live5_any _ (HK.out.go HBX.out)).mono ?_; rintro e w1 ⟨rfl, hb1⟩; have HBX := Lib.hid (bgo HBX.out hb1); have HF := Lib.hid (HF.out.below hb1); obtain ⟨s0, a0, a1, a2, a3, a4, a5, a6, a7⟩ := HF.out; have HTV := Lib.hid (HTV.out.below hb1)))
    | (go_at_call 10; go_must ((refine (few_yes P pn pc F T ep ro A n c K q D l dc none 0 0 _ (by omega) (by omega) (by omega) (by omega)).mono ?_); rintro e w2 ⟨rfl, hb2⟩; have HBX := Lib.hid (bgo HBX.out hb2); have HF := Lib.hid (HF.out.below hb2); obtain ⟨s0, a0, a1, a2, a3, a4, a5, a6, a7⟩ := HF.out; have HTV := Lib.hid (HTV.out.below hb2)))
    | (go_at_call 15; (with_reducible refine (HCP.out _ (HP.out.below HBX.out) (HX.out.below HBX.out) (HB.out.below HBX.out) (HK.out.go HBX.out)).mono ?_); rintro e w3 ⟨B3, c3, he3, hc3, hown3, hb3⟩; rw [HL.out] at he3 hc3 hown3; subst he3; have HBX := Lib.hid (bgo HBX.out hb3); have HF := Lib.hid (HF.out.below hb3); obtain ⟨s0, a0, a1, a2, a3, a4, a5, a6, a7⟩ := HF.out; have HTV := Lib.hid (HTV.out.below hb3); have HR3 := Lib.hid (Rd.of_own hown3); have HRI := Lib.hid (show Rd w3 (some ⟨B3, 0, none⟩) (nums .u8 inn) from by have := HR3.out.take t; rwa [HFT.out] at this); have hc3n : ¬ c3 = t := (by omega); have hc3i : (t : Int) ≤ c3 := (by omega); have hc3m : t ≤ c3 := (by omega); clear hown3)
    | (go_at_call 16; (with_reducible refine (HCTG.out _ _ _ (HP.out.below HBX.out) HRI.out (HK.out.go HBX.out)).mono ?_); rintro e w4 ⟨B6, c6, het, hct, hlt, hrt, hb4⟩; rw [HTL.out] at het; subst het; have HRT := Lib.hid hrt; have HRI := Lib.hid (HRI.out.below hb4); have HR3 := Lib.hid (HR3.out.below hb4); have HBX := Lib.hid (bgo HBX.out hb4); have HF := Lib.hid (HF.out.below hb4); obtain ⟨s0, a0, a1, a2, a3, a4, a5, a6, a7⟩ := HF.out; have HTV := Lib.hid (HTV.out.below hb4); clear hrt))
  have hS : Below w4.heap.size w4 w4.drew := bdr brf
  refine wp_region_held_drew (S := fun x => Below w4.heap.size w4 x) (by kernel_rfl) hS (fun hHeld => ?_)
  clear hHeld
  refine takeH (i := 0) (oi := ?oiu53) ?vu53 (by kernel_rfl) (by with_reducible exact hS) ?hiu53 ?hQu53 ?hyu53 ?_
  case hiu53 => simp only [List.getElem?_toArray, List.getElem?_cons_succ, List.getElem?_cons_zero]; rfl
  case hQu53 => exact fun _ _ _ h => h
  case hyu53 =>
    refine Or.inl ⟨by rfl, ?_⟩
    rintro W9 hSw
    go_simp
    rfl
  try simp only [Act.put, List.setIfInBounds_toArray, List.set_cons_zero, List.set_cons_succ]
  refine takeH (i := 1) (oi := ?oiu54) ?vu54 (by kernel_rfl) (by with_reducible exact hS) ?hiu54 ?hQu54 ?hyu54 ?_
  case hiu54 => simp only [List.getElem?_toArray, List.getElem?_cons_succ, List.getElem?_cons_zero]; rfl
  case hQu54 => exact fun _ _ _ h => h
  case hyu54 =>
    refine Or.inl ⟨by rfl, ?_⟩
    rintro W9 hSw
    go_simp
    rfl
  try simp only [Act.put, List.setIfInBounds_toArray, List.set_cons_zero, List.set_cons_succ]
  refine takeH (i := 3) (oi := ?oiu55) ?vu55 (by kernel_rfl) (by with_reducible exact hS) ?hiu55 ?hQu55 ?hyu55 ?_
  case hiu55 => simp only [List.getElem?_toArray, List.getElem?_cons_succ, List.getElem?_cons_zero]; rfl
  case hQu55 => exact fun _ _ _ h => h
  case hyu55 =>
    refine Or.inl ⟨by rfl, ?_⟩
    rintro W9 hSw
    go_simp
    rfl
  try simp only [Act.put, List.setIfInBounds_toArray, List.set_cons_zero, List.set_cons_succ]
  refine wpAnyH_ready (rs := [2, 9]) (by kernel_rfl) (by simp) (AllReadyH.cons (o := ?oau56) ?hau56 (fun K hK => ?_) (AllReadyH.cons (o := ?obu56) ?hbu56 (fun K hK => ?_) AllReadyH.nil))
  case hau56 => simp only [List.getElem?_toArray, List.getElem?_cons_succ, List.getElem?_cons_zero]; rfl
  case hbu56 => simp only [List.getElem?_toArray, List.getElem?_cons_succ, List.getElem?_cons_zero]; rfl
  · skip
    refine step_append_vs rfl _ _ 22 (by rfl) w4.heap.size 5 i0 (.int .u8 0) 1 Tryd.underlying22 hi hz0 hz1 hz2 rfl (.slice none 0 0) 0 [] (by rfl) ⟨rfl, .inl ⟨rfl, rfl⟩⟩ (some ⟨B3, 0, none⟩) t c3 (nums .u8 inn) (by rfl) HILN.out (HRI.out.below hS) nums_u8_one (by unfold maxLen; omega) (by omega) (by simp) ?_
    intro vA wA hown hgrow
    rw [Nat.zero_add, List.nil_append] at hown
    have hbx := (brf (w := w4.drew)).grown hgrow (Nat.le_refl _) (fun k e => by simp [Value.ownBlock] at e)
    have hS : Below w4.heap.size w4 wA := bgo hS hbx
    obtain ⟨A8, c8, rfl⟩ := own_slice hown
    clear hgrow hbx
    refine hK.out _ _ (by with_reducible exact hS) (fun hHeld => ?_)
    clear hK K hHeld
    try simp only [Act.put, List.setIfInBounds_toArray, List.set_cons_zero, List.set_cons_succ]
    refine wpAnyH_ready (rs := [4, 9]) (by kernel_rfl) (by simp) (AllReadyH.cons (o := ?oau57) ?hau57 (fun K hK => ?_) (AllReadyH.cons (o := ?obu57) ?hbu57 (fun K hK => ?_) AllReadyH.nil))
    case hau57 => simp only [List.getElem?_toArray, List.getElem?_cons_succ, List.getElem?_cons_zero]; rfl
    case hbu57 => simp only [List.getElem?_toArray, List.getElem?_cons_succ, List.getElem?_cons_zero]; rfl
    · skip
      refine step_append_vs rfl _ _ 22 (by rfl) w4.heap.size 5 i0 (.int .u8 0) 1 Tryd.underlying22 hi hz0 hz1 hz2 rfl (.slice A8 t c8) t (nums .u8 inn) (by rfl) hown (some ⟨w.heap.size + 1, 0, none⟩) 32 32 (nums .u8 tv) (by rfl) HTVN.out (HTV.out.below hS) nums_u8_one (by unfold maxLen; omega) (by omega) (hS.size) ?_
      intro vB wB hownB hgrow
      rw [← List.map_append] at hownB
      have hS : Below w4.heap.size w4 wB := keep_below0 hown hgrow hS hS.size (Nat.le_refl _)
      obtain ⟨A9, c9, rfl⟩ := own_slice hownB
      have HM9 := Lib.hid (And.intro (own_le hownB) (own_max hownB))
      have HR9 := Lib.hid (Rd.of_own hownB)
      clear hgrow hown hownB
      refine hK.out _ _ (by with_reducible exact hS) (fun hHeld => ?_)
      clear hK K hHeld
      try simp only [Act.put, List.setIfInBounds_toArray, List.set_cons_zero, List.set_cons_succ]
      refine wpAnyH_ready (rs := [5, 9]) (by kernel_rfl) (by simp) (AllReadyH.cons (o := ?oau58) ?hau58 (fun K hK => ?_) (AllReadyH.cons (o := ?obu58) ?hbu58 (fun K hK => ?_) AllReadyH.nil))
      case hau58 => simp only [List.getElem?_toArray, List.getElem?_cons_succ, List.getElem?_cons_zero]; rfl
      case hbu58 => simp only [List.getElem?_toArray, List.getElem?_cons_succ, List.getElem?_cons_zero]; rfl
      · skip
        go_simp
        refine (HCTK.out _ _ _ (HP.out.below (bgo HBX.out hS)) HR9.out (by have := HM9.out.1; omega) HM9.out.2 (HK.out.go (bgo HBX.out hS))).mono ?_
        rintro e wC ⟨A7, c7, D7, d7, rfl, hc7, hx7, ho7, hbC⟩
        clear hc7 hx7 ho7
        have hS : Below w4.heap.size w4 wC := bgo hS hbC
        clear hbC HR9 HM9
        go_wp2_with fail
        refine hK.out _ _ (by with_reducible exact hS) (fun hHeld => ?_)
        clear hK K hHeld
        try simp only [Act.put, List.setIfInBounds_toArray, List.set_cons_zero, List.set_cons_succ]
        refine takeH (i := 6) (oi := ?oiu59) ?vu59 (by kernel_rfl) (by with_reducible exact hS) ?hiu59 ?hQu59 ?hyu59 ?_
        case hiu59 => simp only [List.getElem?_toArray, List.getElem?_cons_succ, List.getElem?_cons_zero]; rfl
        case hQu59 => exact fun _ _ _ h => h
        case hyu59 =>
          refine Or.inl ⟨by rfl, ?_⟩
          rintro W9 hSw
          go_simp
          rfl
        try simp only [Act.put, List.setIfInBounds_toArray, List.set_cons_zero, List.set_cons_succ]
        refine takeH (i := 7) (oi := ?oiu60) ?vu60 (by kernel_rfl) (by with_reducible exact hS) ?hiu60 ?hQu60 ?hyu60 ?_
        case hiu60 => simp only [List.getElem?_toArray, List.getElem?_cons_succ, List.getElem?_cons_zero]; rfl
        case hQu60 => exact fun _ _ _ h => h
        case hyu60 =>
          refine Or.inl ⟨by rfl, ?_⟩
          rintro W9 hSw
          go_simp
          rfl
        try simp only [Act.put, List.setIfInBounds_toArray, List.set_cons_zero, List.set_cons_succ]
        refine takeH (i := 8) (oi := ?oiu61) ?vu61 (by kernel_rfl) (by with_reducible exact hS) ?hiu61 ?hQu61 ?hyu61 ?_
        case hiu61 => simp only [List.getElem?_toArray, List.getElem?_cons_succ, List.getElem?_cons_zero]; rfl
        case hQu61 => exact fun _ _ _ h => h
        case hyu61 =>
          refine Or.inl ⟨by rfl, ?_⟩
          rintro W9 hSw
          go_simp
          rfl
        try simp only [Act.put, List.setIfInBounds_toArray, List.set_cons_zero, List.set_cons_succ]
        refine onlyH (i := 9) (oi := ?oiu62) (by kernel_rfl) ?hiu62 (fun K hK => ?_)
        case hiu62 => simp only [List.getElem?_toArray, List.getElem?_cons_succ, List.getElem?_cons_zero]; rfl
        go_simp
        have hS0 := hS
        have hq := hS0.size
        have hS := bal hS (.cells #[.int .i64 0, .int .i64 0, .int .u64 0, .int .u64 0, .slice none 0 0, .int .i64 0, .int .i64 0, .slice none 0 0] 30)
        refine hK.out _ _ (by with_reducible exact hS) (fun hHeld => ?_)
        clear hK K hHeld
        try simp only [Act.put, List.setIfInBounds_toArray, List.set_cons_zero, List.set_cons_succ]
        have hfo := frOut_new wC 30
        refine onlyH (i := 10) (oi := ?oiu63) (by kernel_rfl) ?hiu63 (fun K hK => ?_)
        case hiu63 => simp only [List.getElem?_toArray, List.getElem?_cons_succ, List.getElem?_cons_zero]; rfl
        rw [if_pos (by rfl)]
        refine store8op _ _ rfl wC.heap.size #[.int .i64 f0, .int .i64 t0, .int .u64 ((paE cc : Nat) : Int), .int .u64 ((paO cc : Nat) : Int), .slice A7 (paM cc) c7, .int .i64 (paK cc), .int .i64 ((paQ cc : Nat) : Int), .slice D7 r0 d7] rfl rfl hfo rfl (by kernel_rfl) ?_
        intro W5 hT5
        have hS0 := hS
        have hS : Below w4.heap.size w4 W5 := hT5.below w4 (by assumption) hS0
        refine hK.out _ _ (by with_reducible exact hS) (fun hHeld => ?_)
        clear hK K hHeld
        try simp only [Act.put, List.setIfInBounds_toArray, List.set_cons_zero, List.set_cons_succ]
        refine takeH (i := 11) (oi := ?oiu64) ?vu64 (by kernel_rfl) (by with_reducible exact hS) ?hiu64 ?hQu64 ?hyu64 ?_
        case hiu64 => simp only [List.getElem?_toArray, List.getElem?_cons_succ, List.getElem?_cons_zero]; rfl
        case hQu64 => exact fun _ _ _ h => h
        case hyu64 =>
          refine Or.inl ⟨by rfl, ?_⟩
          rintro W9 hSw
          go_simp
          rfl
        try simp only [Act.put, List.setIfInBounds_toArray, List.set_cons_zero, List.set_cons_succ]
        refine wpAnyH_done (by kernel_rfl) ?_ _
        have HR3 := Lib.hid (HR3.out.below hS)
        have HTV := Lib.hid (HTV.out.below hS)
        have HRT := Lib.hid (HRT.out.below hS)
        have HBX := Lib.hid (bgo HBX.out hS)
        have HF := Lib.hid (HF.out.below hS)
        obtain ⟨s0, a0, a1, a2, a3, a4, a5, a6, a7⟩ := HF.out
        have HRD := Lib.hid (HFD.out _ _ HR3.out)
        clear hS hS0 hT5 hfo
        go_wp2_with (go_at_call 14; first
          | ((with_reducible refine (HCS1.out _ _ _ _ _ HRD.out HRT.out).mono ?_); rintro e w8 ⟨rfl, rfl⟩)
          | ((with_reducible refine (HCS2.out _ _ _ _ _ HTV.out HRT.out).mono ?_); rintro e w9 ⟨he, rfl⟩; rw [HDC.out] at he; subst he))
        go_ret
        exact ⟨by first | (simp; done) | (simp; omega), HBX.out⟩
      · skip
        go_simp
        have hq := hS.size
        have hS := bal hS (.cells #[.int .i64 0, .int .i64 0, .int .u64 0, .int .u64 0, .slice none 0 0, .int .i64 0, .int .i64 0, .slice none 0 0] 30)
        refine hK.out _ _ (by with_reducible exact hS) (fun hHeld => ?_)
        clear hK K hHeld
        try simp only [Act.put, List.setIfInBounds_toArray, List.set_cons_zero, List.set_cons_succ]
        have hfo := frOut_new wB 30
        refine onlyH (i := 5) (oi := ?oiu65) (by kernel_rfl) ?hiu65 (fun K hK => ?_)
        case hiu65 => simp only [List.getElem?_toArray, List.getElem?_cons_succ, List.getElem?_cons_zero]; rfl
        go_simp
        refine (HCTK.out _ _ _ (HP.out.below (bgo HBX.out hS)) (HR9.out.below (bal brf _)) (by have := HM9.out.1; omega) HM9.out.2 (HK.out.go (bgo HBX.out hS))).mono ?_
        rintro e wC ⟨A7, c7, D7, d7, rfl, hc7, hx7, ho7, hbC⟩
        clear hc7 hx7 ho7
        have hfo := hfo.below hbC
        have hS : Below w4.heap.size w4 wC := bgo hS hbC
        clear hbC HR9 HM9
        go_wp2_with fail
        refine hK.out _ _ (by with_reducible exact hS) (fun hHeld => ?_)
        clear hK K hHeld
        try simp only [Act.put, List.setIfInBounds_toArray, List.set_cons_zero, List.set_cons_succ]
        refine takeH (i := 6) (oi := ?oiu66) ?vu66 (by kernel_rfl) (by with_reducible exact hS) ?hiu66 ?hQu66 ?hyu66 ?_
        case hiu66 => simp only [List.getElem?_toArray, List.getElem?_cons_succ, List.getElem?_cons_zero]; rfl
        case hQu66 => exact fun _ _ _ h => h
        case hyu66 =>
          refine Or.inl ⟨by rfl, ?_⟩
          rintro W9 hSw
          go_simp
          rfl
        try simp only [Act.put, List.setIfInBounds_toArray, List.set_cons_zero, List.set_cons_succ]
        refine takeH (i := 7) (oi := ?oiu67) ?vu67 (by kernel_rfl) (by with_reducible exact hS) ?hiu67 ?hQu67 ?hyu67 ?_
        case hiu67 => simp only [List.getElem?_toArray, List.getElem?_cons_succ, List.getElem?_cons_zero]; rfl
        case hQu67 => exact fun _ _ _ h => h
        case hyu67 =>
          refine Or.inl ⟨by rfl, ?_⟩
          rintro W9 hSw
          go_simp
          rfl
        try simp only [Act.put, List.setIfInBounds_toArray, List.set_cons_zero, List.set_cons_succ]
        refine takeH (i := 8) (oi := ?oiu68) ?vu68 (by kernel_rfl) (by with_reducible exact hS) ?hiu68 ?hQu68 ?hyu68 ?_
        case hiu68 => simp only [List.getElem?_toArray, List.getElem?_cons_succ, List.getElem?_cons_zero]; rfl
        case hQu68 => exact fun _ _ _ h => h
        case hyu68 =>
          refine Or.inl ⟨by rfl, ?_⟩
          rintro W9 hSw
          go_simp
          rfl
        try simp only [Act.put, List.setIfInBounds_toArray, List.set_cons_zero, List.set_cons_succ]
        refine onlyH (i := 10) (oi := ?oiu69) (by kernel_rfl) ?hiu69 (fun K hK => ?_)
        case hiu69 => simp only [List.getElem?_toArray, List.getElem?_cons_succ, List.getElem?_cons_zero]; rfl
        rw [if_pos (by rfl)]
        refine store8op _ _ rfl wB.heap.size #[.int .i64 f0, .int .i64 t0, .int .u64 ((paE cc : Nat) : Int), .int .u64 ((paO cc : Nat) : Int), .slice A7 (paM cc) c7, .int .i64 (paK cc), .int .i64 ((paQ cc : Nat) : Int), .slice D7 r0 d7] rfl rfl hfo rfl (by kernel_rfl) ?_
        intro W5 hT5
        have hS0 := hS
        have hS : Below w4.heap.size w4 W5 := hT5.below w4 (by assumption) hS0
        refine hK.out _ _ (by with_reducible exact hS) (fun hHeld => ?_)
        clear hK K hHeld
        try simp only [Act.put, List.setIfInBounds_toArray, List.set_cons_zero, List.set_cons_succ]
        refine takeH (i := 11) (oi := ?oiu70) ?vu70 (by kernel_rfl) (by with_reducible exact hS) ?hiu70 ?hQu70 ?hyu70 ?_
        case hiu70 => simp only [List.getElem?_toArray, List.getElem?_cons_succ, List.getElem?_cons_zero]; rfl
        case hQu70 => exact fun _ _ _ h => h
        case hyu70 =>
          refine Or.inl ⟨by rfl, ?_⟩
          rintro W9 hSw
          go_simp
          rfl
        try simp only [Act.put, List.setIfInBounds_toArray, List.set_cons_zero, List.set_cons_succ]
        refine wpAnyH_done (by kernel_rfl) ?_ _
        have HR3 := Lib.hid (HR3.out.below hS)
        have HTV := Lib.hid (HTV.out.below hS)
        have HRT := Lib.hid (HRT.out.below hS)
        have HBX := Lib.hid (bgo HBX.out hS)
        have HF := Lib.hid (HF.out.below hS)
        obtain ⟨s0, a0, a1, a2, a3, a4, a5, a6, a7⟩ := HF.out
        have HRD := Lib.hid (HFD.out _ _ HR3.out)
        clear hS hS0 hT5 hfo
        go_wp2_with (go_at_call 14; first
          | ((with_reducible refine (HCS1.out _ _ _ _ _ HRD.out HRT.out).mono ?_); rintro e w8 ⟨rfl, rfl⟩)
          | ((with_reducible refine (HCS2.out _ _ _ _ _ HTV.out HRT.out).mono ?_); rintro e w9 ⟨he, rfl⟩; rw [HDC.out] at he; subst he))
        go_ret
        exact ⟨by first | (simp; done) | (simp; omega), HBX.out⟩
    · skip
      go_simp
      have hq := hS.size
      have hS := bal hS (.cells #[.int .i64 0, .int .i64 0, .int .u64 0, .int .u64 0, .slice none 0 0, .int .i64 0, .int .i64 0, .slice none 0 0] 30)
      refine hK.out _ _ (by with_reducible exact hS) (fun hHeld => ?_)
      clear hK K hHeld
      try simp only [Act.put, List.setIfInBounds_toArray, List.set_cons_zero, List.set_cons_succ]
      have hfo := frOut_new wA 30
      have hlt := fun g e => (hown.lt g e).2
      have hown := hown.alloc (.cells #[.int .i64 0, .int .i64 0, .int .u64 0, .int .u64 0, .slice none 0 0, .int .i64 0, .int .i64 0, .slice none 0 0] 30)
      refine onlyH (i := 4) (oi := ?oiu71) (by kernel_rfl) ?hiu71 (fun K hK => ?_)
      case hiu71 => simp only [List.getElem?_toArray, List.getElem?_cons_succ, List.getElem?_cons_zero]; rfl
      refine step_append_vs rfl _ _ 22 (by rfl) w4.heap.size 5 i0 (.int .u8 0) 1 Tryd.underlying22 hi hz0 hz1 hz2 rfl (.slice A8 t c8) t (nums .u8 inn) (by rfl) hown (some ⟨w.heap.size + 1, 0, none⟩) 32 32 (nums .u8 tv) (by rfl) HTVN.out (HTV.out.below hS) nums_u8_one (by unfold maxLen; omega) (by omega) (hS.size) ?_
      intro vB wB hownB hgrow
      rw [← List.map_append] at hownB
      have hfo := hfo.grown hgrow (fun g e => by have := hlt g e; omega)
      have hS : Below w4.heap.size w4 wB := keep_below0 hown hgrow hS hS.size (Nat.le_refl _)
      obtain ⟨A9, c9, rfl⟩ := own_slice hownB
      have HM9 := Lib.hid (And.intro (own_le hownB) (own_max hownB))
      have HR9 := Lib.hid (Rd.of_own hownB)
      clear hgrow hown hownB
      refine hK.out _ _ (by with_reducible exact hS) (fun hHeld => ?_)
      clear hK K hHeld
      try simp only [Act.put, List.setIfInBounds_toArray, List.set_cons_zero, List.set_cons_succ]
      refine onlyH (i := 5) (oi := ?oiu72) (by kernel_rfl) ?hiu72 (fun K hK => ?_)
      case hiu72 => simp only [List.getElem?_toArray, List.getElem?_cons_succ, List.getElem?_cons_zero]; rfl
      go_simp
      refine (HCTK.out _ _ _ (HP.out.below (bgo HBX.out hS)) HR9.out (by have := HM9.out.1; omega) HM9.out.2 (HK.out.go (bgo HBX.out hS))).mono ?_
      rintro e wC ⟨A7, c7, D7, d7, rfl, hc7, hx7, ho7, hbC⟩
      clear hc7 hx7 ho7
      have hfo := hfo.below hbC
      have hS : Below w4.heap.size w4 wC := bgo hS hbC
      clear hbC HR9 HM9
      go_wp2_with fail
      refine hK.out _ _ (by with_reducible exact hS) (fun hHeld => ?_)
      clear hK K hHeld
      try simp only [Act.put, List.setIfInBounds_toArray, List.set_cons_zero, List.set_cons_succ]
      refine takeH (i := 6) (oi := ?oiu73) ?vu73 (by kernel_rfl) (by with_reducible exact hS) ?hiu73 ?hQu73 ?hyu73 ?_
      case hiu73 => simp only [List.getElem?_toArray, List.getElem?_cons_succ, List.getElem?_cons_zero]; rfl
      case hQu73 => exact fun _ _ _ h => h
      case hyu73 =>
        refine Or.inl ⟨by rfl, ?_⟩
        rintro W9 hSw
        go_simp
        rfl
      try simp only [Act.put, List.setIfInBounds_toArray, List.set_cons_zero, List.set_cons_succ]
      refine takeH (i := 7) (oi := ?oiu74) ?vu74 (by kernel_rfl) (by with_reducible exact hS) ?hiu74 ?hQu74 ?hyu74 ?_
      case hiu74 => simp only [List.getElem?_toArray, List.getElem?_cons_succ, List.getElem?_cons_zero]; rfl
      case hQu74 => exact fun _ _ _ h => h
      case hyu74 =>
        refine Or.inl ⟨by rfl, ?_⟩
        rintro W9 hSw
        go_simp
        rfl
      try simp only [Act.put, List.setIfInBounds_toArray, List.set_cons_zero, List.set_cons_succ]
      refine takeH (i := 8) (oi := ?oiu75) ?vu75 (by kernel_rfl) (by with_reducible exact hS) ?hiu75 ?hQu75 ?hyu75 ?_
      case hiu75 => simp only [List.getElem?_toArray, List.getElem?_cons_succ, List.getElem?_cons_zero]; rfl
      case hQu75 => exact fun _ _ _ h => h
      case hyu75 =>
        refine Or.inl ⟨by rfl, ?_⟩
        rintro W9 hSw
        go_simp
        rfl
      try simp only [Act.put, List.setIfInBounds_toArray, List.set_cons_zero, List.set_cons_succ]
      refine onlyH (i := 10) (oi := ?oiu76) (by kernel_rfl) ?hiu76 (fun K hK => ?_)
      case hiu76 => simp only [List.getElem?_toArray, List.getElem?_cons_succ, List.getElem?_cons_zero]; rfl
      rw [if_pos (by rfl)]
      refine store8op _ _ rfl wA.heap.size #[.int .i64 f0, .int .i64 t0, .int .u64 ((paE cc : Nat) : Int), .int .u64 ((paO cc : Nat) : Int), .slice A7 (paM cc) c7, .int .i64 (paK cc), .int .i64 ((paQ cc : Nat) : Int), .slice D7 r0 d7] rfl rfl hfo rfl (by kernel_rfl) ?_
      intro W5 hT5
      have hS0 := hS
      have hS : Below w4.heap.size w4 W5 := hT5.below w4 (by assumption) hS0
      refine hK.out _ _ (by with_reducible exact hS) (fun hHeld => ?_)
      clear hK K hHeld
      try simp only [Act.put, List.setIfInBounds_toArray, List.set_cons_zero, List.set_cons_succ]
      refine takeH (i := 11) (oi := ?oiu77) ?vu77 (by kernel_rfl) (by with_reducible exact hS) ?hiu77 ?hQu77 ?hyu77 ?_
      case hiu77 => simp only [List.getElem?_toArray, List.getElem?_cons_succ, List.getElem?_cons_zero]; rfl
      case hQu77 => exact fun _ _ _ h => h
      case hyu77 =>
        refine Or.inl ⟨by rfl, ?_⟩
        rintro W9 hSw
        go_simp
        rfl
      try simp only [Act.put, List.setIfInBounds_toArray, List.set_cons_zero, List.set_cons_succ]
      refine wpAnyH_done (by kernel_rfl) ?_ _
      have HR3 := Lib.hid (HR3.out.below hS)
      have HTV := Lib.hid (HTV.out.below hS)
      have HRT := Lib.hid (HRT.out.below hS)
      have HBX := Lib.hid (bgo HBX.out hS)
      have HF := Lib.hid (HF.out.below hS)
      obtain ⟨s0, a0, a1, a2, a3, a4, a5, a6, a7⟩ := HF.out
      have HRD := Lib.hid (HFD.out _ _ HR3.out)
      clear hS hS0 hT5 hfo
      go_wp2_with (go_at_call 14; first
        | ((with_reducible refine (HCS1.out _ _ _ _ _ HRD.out HRT.out).mono ?_); rintro e w8 ⟨rfl, rfl⟩)
        | ((with_reducible refine (HCS2.out _ _ _ _ _ HTV.out HRT.out).mono ?_); rintro e w9 ⟨he, rfl⟩; rw [HDC.out] at he; subst he))
      go_ret
      exact ⟨by first | (simp; done) | (simp; omega), HBX.out⟩
  · skip
    go_simp
    have hS : Below w4.heap.size w4 (w4.alloc (.cells #[.int .i64 0, .int .i64 0, .int .u64 0, .int .u64 0, .slice none 0 0, .int .i64 0, .int .i64 0, .slice none 0 0] 30)).drew := bdr (bal brf _)
    refine hK.out _ _ (by with_reducible exact hS) (fun hHeld => ?_)
    clear hK K hHeld
    try simp only [Act.put, List.setIfInBounds_toArray, List.set_cons_zero, List.set_cons_succ]
    have hfo : FrOut w4.heap.size (w4.alloc (.cells #[.int .i64 0, .int .i64 0, .int .u64 0, .int .u64 0, .slice none 0 0, .int .i64 0, .int .i64 0, .slice none 0 0] 30)).drew := frOut_new w4 30
    refine onlyH (i := 2) (oi := ?oiu78) (by kernel_rfl) ?hiu78 (fun K hK => ?_)
    case hiu78 => simp only [List.getElem?_toArray, List.getElem?_cons_succ, List.getElem?_cons_zero]; rfl
    refine step_append_vs rfl _ _ 22 (by rfl) (w4.heap.size + 1) 5 i0 (.int .u8 0) 1 Tryd.underlying22 hi hz0 hz1 hz2 rfl (.slice none 0 0) 0 [] (by rfl) ⟨rfl, .inl ⟨rfl, rfl⟩⟩ (some ⟨B3, 0, none⟩) t c3 (nums .u8 inn) (by rfl) HILN.out (HRI.out.below hS) nums_u8_one (by unfold maxLen; omega) (by omega) (by simp) ?_
    intro vA wA hown hgrow
    rw [Nat.zero_add, List.nil_append] at hown
    have hbx := (brf (w := (w4.alloc (.cells #[.int .i64 0, .int .i64 0, .int .u64 0, .int .u64 0, .slice none 0 0, .int .i64 0, .int .i64 0, .slice none 0 0] 30)).drew)).grown hgrow (Nat.le_refl _) (fun k e => by simp [Value.ownBlock] at e)
    have hfo := hfo.below hbx
    have hq1 : w4.heap.size + 1 ≤ wA.heap.size := by have := hbx.size; simpa using this
    have hS : Below w4.heap.size w4 wA := bgo hS hbx
    obtain ⟨A8, c8, rfl⟩ := own_slice hown
    clear hgrow hbx
    refine hK.out _ _ (by with_reducible exact hS) (fun hHeld => ?_)
    clear hK K hHeld
    try simp only [Act.put, List.setIfInBounds_toArray, List.set_cons_zero, List.set_cons_succ]
    refine onlyH (i := 4) (oi := ?oiu79) (by kernel_rfl) ?hiu79 (fun K hK => ?_)
    case hiu79 => simp only [List.getElem?_toArray, List.getElem?_cons_succ, List.getElem?_cons_zero]; rfl
    refine step_append_vs rfl _ _ 22 (by rfl) (w4.heap.size + 1) 5 i0 (.int .u8 0) 1 Tryd.underlying22 hi hz0 hz1 hz2 rfl (.slice A8 t c8) t (nums .u8 inn) (by rfl) hown (some ⟨w.heap.size + 1, 0, none⟩) 32 32 (nums .u8 tv) (by rfl) HTVN.out (HTV.out.below hS) nums_u8_one (by unfold maxLen; omega) (by omega) (hq1) ?_
    intro vB wB hownB hgrow
    rw [← List.map_append] at hownB
    have hfo := hfo.grown hgrow (fun g e => by have := (hown.lt g e).1; omega)
    have hS : Below w4.heap.size w4 wB := keep_below0 hown hgrow hS hS.size (by omega)
    obtain ⟨A9, c9, rfl⟩ := own_slice hownB
    have HM9 := Lib.hid (And.intro (own_le hownB) (own_max hownB))
    have HR9 := Lib.hid (Rd.of_own hownB)
    clear hgrow hown hownB
    refine hK.out _ _ (by with_reducible exact hS) (fun hHeld => ?_)
    clear hK K hHeld
    try simp only [Act.put, List.setIfInBounds_toArray, List.set_cons_zero, List.set_cons_succ]
    refine onlyH (i := 5) (oi := ?oiu80) (by kernel_rfl) ?hiu80 (fun K hK => ?_)
    case hiu80 => simp only [List.getElem?_toArray, List.getElem?_cons_succ, List.getElem?_cons_zero]; rfl
    go_simp
    refine (HCTK.out _ _ _ (HP.out.below (bgo HBX.out hS)) HR9.out (by have := HM9.out.1; omega) HM9.out.2 (HK.out.go (bgo HBX.out hS))).mono ?_
    rintro e wC ⟨A7, c7, D7, d7, rfl, hc7, hx7, ho7, hbC⟩
    clear hc7 hx7 ho7
    have hfo := hfo.below hbC
    have hS : Below w4.heap.size w4 wC := bgo hS hbC
    clear hbC HR9 HM9
    go_wp2_with fail
    refine hK.out _ _ (by with_reducible exact hS) (fun hHeld => ?_)
    clear hK K hHeld
    try simp only [Act.put, List.setIfInBounds_toArray, List.set_cons_zero, List.set_cons_succ]
    refine takeH (i := 6) (oi := ?oiu81) ?vu81 (by kernel_rfl) (by with_reducible exact hS) ?hiu81 ?hQu81 ?hyu81 ?_
    case hiu81 => simp only [List.getElem?_toArray, List.getElem?_cons_succ, List.getElem?_cons_zero]; rfl
    case hQu81 => exact fun _ _ _ h => h
    case hyu81 =>
      refine Or.inl ⟨by rfl, ?_⟩
      rintro W9 hSw
      go_simp
      rfl
    try simp only [Act.put, List.setIfInBounds_toArray, List.set_cons_zero, List.set_cons_succ]
    refine takeH (i := 7) (oi := ?oiu82) ?vu82 (by kernel_rfl) (by with_reducible exact hS) ?hiu82 ?hQu82 ?hyu82 ?_
    case hiu82 => simp only [List.getElem?_toArray, List.getElem?_cons_succ, List.getElem?_cons_zero]; rfl
    case hQu82 => exact fun _ _ _ h => h
    case hyu82 =>
      refine Or.inl ⟨by rfl, ?_⟩
      rintro W9 hSw
      go_simp
      rfl
    try simp only [Act.put, List.setIfInBounds_toArray, List.set_cons_zero, List.set_cons_succ]
    refine takeH (i := 8) (oi := ?oiu83) ?vu83 (by kernel_rfl) (by with_reducible exact hS) ?hiu83 ?hQu83 ?hyu83 ?_
    case hiu83 => simp only [List.getElem?_toArray, List.getElem?_cons_succ, List.getElem?_cons_zero]; rfl
    case hQu83 => exact fun _ _ _ h => h
    case hyu83 =>
      refine Or.inl ⟨by rfl, ?_⟩
      rintro W9 hSw
      go_simp
      rfl
    try simp only [Act.put, List.setIfInBounds_toArray, List.set_cons_zero, List.set_cons_succ]
    refine onlyH (i := 10) (oi := ?oiu84) (by kernel_rfl) ?hiu84 (fun K hK => ?_)
    case hiu84 => simp only [List.getElem?_toArray, List.getElem?_cons_succ, List.getElem?_cons_zero]; rfl
    rw [if_pos (by rfl)]
    refine store8op _ _ rfl w4.heap.size #[.int .i64 f0, .int .i64 t0, .int .u64 ((paE cc : Nat) : Int), .int .u64 ((paO cc : Nat) : Int), .slice A7 (paM cc) c7, .int .i64 (paK cc), .int .i64 ((paQ cc : Nat) : Int), .slice D7 r0 d7] rfl rfl hfo rfl (by kernel_rfl) ?_
    intro W5 hT5
    have hS0 := hS
    have hS : Below w4.heap.size w4 W5 := hT5.below w4 (by exact Nat.le_refl _) hS0
    refine hK.out _ _ (by with_reducible exact hS) (fun hHeld => ?_)
    clear hK K hHeld
    try simp only [Act.put, List.setIfInBounds_toArray, List.set_cons_zero, List.set_cons_succ]
    refine takeH (i := 11) (oi := ?oiu85) ?vu85 (by kernel_rfl) (by with_reducible exact hS) ?hiu85 ?hQu85 ?hyu85 ?_
    case hiu85 => simp only [List.getElem?_toArray, List.getElem?_cons_succ, List.getElem?_cons_zero]; rfl
    case hQu85 => exact fun _ _ _ h => h
    case hyu85 =>
      refine Or.inl ⟨by rfl, ?_⟩
      rintro W9 hSw
      go_simp
      rfl
    try simp only [Act.put, List.setIfInBounds_toArray, List.set_cons_zero, List.set_cons_succ]
    refine wpAnyH_done (by kernel_rfl) ?_ _
    have HR3 := Lib.hid (HR3.out.below hS)
    have HTV := Lib.hid (HTV.out.below hS)
    have HRT := Lib.hid (HRT.out.below hS)
    have HBX := Lib.hid (bgo HBX.out hS)
    have HF := Lib.hid (HF.out.below hS)
    obtain ⟨s0, a0, a1, a2, a3, a4, a5, a6, a7⟩ := HF.out
    have HRD := Lib.hid (HFD.out _ _ HR3.out)
    clear hS hS0 hT5 hfo
    go_wp2_with (go_at_call 14; first
      | ((with_reducible refine (HCS1.out _ _ _ _ _ HRD.out HRT.out).mono ?_); rintro e w8 ⟨rfl, rfl⟩)
      | ((with_reducible refine (HCS2.out _ _ _ _ _ HTV.out HRT.out).mono ?_); rintro e w9 ⟨he, rfl⟩; rw [HDC.out] at he; subst he))
    go_ret
    exact ⟨by first | (simp; done) | (simp; omega), HBX.out⟩

set_option maxHeartbeats 1000000 in
open Go.Joins Go.Deep in
theorem frameTag_of {H : Type} {enc : TypeId × Value → H} (W : World) (base : Nat) (args : Array Value) (ds : List (DataW H)) (p : List MemPlace)
    (hval : ∀ (j : Nat) t v, Tryd.f5.params[j]? = some t → args[j]? = some v → Value.okWide Tryd.prog W .any base t v)
    (hA : DataW.TrodAll enc Tryd.prog W 0 (fun _ => true) true Tryd.f5.params.toList args.toList ds p) (hlt : ∀ x ∈ p, x.block < W.heap.size)
    (hz : (DataW.weightsEach Tryd.prog Tryd.f5.params.toList ds).all (· ≤ reachBytes) = true) (hK : Konst W) : Calls Tryd.prog 5 args W (Yes W) := by
  rw [Tryd.params5] at hA hval hz
  obtain ⟨v0, vs0, d0, ds0, p0, q0, hargs, rfl, rfl, h0, r0⟩ := trodAll_cons hA
  obtain ⟨v1, vs1, d1, ds1, p1, q1, rfl, rfl, rfl, h1, r1⟩ := trodAll_cons r0
  obtain ⟨v2, vs2, d2, ds2, p2, q2, rfl, rfl, rfl, h2, r2⟩ := trodAll_cons r1
  obtain ⟨rfl, rfl, rfl⟩ := trodAll_nil r2
  obtain rfl : args = #[v0, v1, v2] := by cases args; simp_all
  obtain ⟨P, pn, pc, key, rfl, p1, p2, p3, p4, p5⟩ := open_bytesT h0 (hval 0 _ _ rfl rfl)
  obtain ⟨F, T, ep, ro, A, n, c, xs, K, Q, D, l, dc, bs, rfl, a1, a2, a3, a4, a5, a6, a7, a8, a9⟩ := open_frame (hval 1 _ _ rfl rfl) h1
  obtain ⟨tv, rfl, htv, bt⟩ := open_arr Tryd.underlying40 (by kernel_rfl) (hval 2 _ _ rfl rfl) h2
  by_cases hs : pn ≤ 200 ∧ l ≤ 600 ∧ n ≤ 60
  · by_cases hg : goodF F T K Q xs l
    · by_cases heq : tv = tagL key (inB F T ep ro xs K Q.toNat bs)
      · exact frameTag_right P pn pc F T ep ro A n c K Q D l dc tv W hK key xs bs htv hs p3 p4 a2 a1 a3 a4 a5 a6 a8 a9 bt hg heq
      · exact frameTag_other P pn pc F T ep ro A n c K Q D l dc tv W hK key xs bs htv hs p3 p4 a2 a1 a3 a4 a5 a6 a8 a9 bt hg heq
    · exact frameTag_bad P pn pc F T ep ro A n c K Q D l dc tv W hK key xs bs htv hs p3 p4 a2 a1 a3 a4 a5 a6 a8 a9 bt hg
  · exact frameTag_long P pn pc F T ep ro A n c K Q D l dc tv W hK htv hs
end Go.Proofs.YtmkmndgdakpojaaDoor
