/- The law of letters taken out one by one. -/
import Derived.Test.YtfgkeodkakidpaaQo
namespace Go.Proofs.Ytfgkeodkakidpaa
open Go.RowKit Go.ChangeShapes Go.WideShapes Go.ChangeAt
set_option linter.unusedSimpArgs false
set_option linter.unusedVariables false
set_option maxRecDepth 100000

theorem At2.set2 {x : World} {K : Nat} {u v a b : Value} (h : At2 x K u v) : At2 ((x.setCell ⟨K, 0, none⟩ a).setCell ⟨K, 1, none⟩ b) K a b := by
  obtain ⟨h0, h1, f0, f1⟩ := h
  refine ⟨(cell_setCell_off (by omega)).trans (cell_setCell_eq h0), cell_setCell_eq ((cell_setCell_off (by omega)).trans h1), ?_, ?_⟩
  · simpa only [World.frozen?_setCell] using f0
  · simpa only [World.frozen?_setCell] using f1
theorem At2.far2 {x : World} {K q : Nat} {u v a b : Value} (h : At2 x q u v) (hne : K ≠ q) : At2 ((x.setCell ⟨K, 0, none⟩ a).setCell ⟨K, 1, none⟩ b) q u v := by
  obtain ⟨h0, h1, f0, f1⟩ := h
  refine ⟨(cell_setCell_far hne).trans ((cell_setCell_far hne).trans h0), (cell_setCell_far hne).trans ((cell_setCell_far hne).trans h1), ?_, ?_⟩
  · simpa only [World.frozen?_setCell] using f0
  · simpa only [World.frozen?_setCell] using f1
theorem below_set2 {w x : World} {K : Nat} {a b : Value} (h : Below w.heap.size w x) (hK : w.heap.size ≤ K) : Below w.heap.size w ((x.setCell ⟨K, 0, none⟩ a).setCell ⟨K, 1, none⟩ b) :=
  (h.setCell (p := ⟨K, 0, none⟩) hK _).setCell (p := ⟨K, 1, none⟩) hK _
theorem TxtOk.drop {ps : List (Ltr × Value)} (h : TxtOk (ps.map (·.1))) (k : Nat) : TxtOk ((ps.drop k).map (·.1)) := fun l hl => by
  rw [List.map_drop] at hl
  exact h l (List.mem_of_mem_drop hl)

set_option maxHeartbeats 2000000 in
theorem queueEmpties_walk (nx : Int) (A : Option Addr) (n c : Nat) (ps : List (Ltr × Value)) (w : World) (hq : QAt w A n c ps) (hby : n * 56 ≤ 140737488351232) (ht : TxtOk (ps.map (·.1))) :
    Calls Try.prog 7 #[.agg #[.int .u64 nx, .slice A n c]] w (Yes w) := by
  have hnb : (n : Int) ≤ 100000000000000 := by omega
  have hlen := hq.1
  have HN := Lib.hid hlen
  have HQ0 := Lib.hid hq
  have HT := Lib.hid ht
  have HBY := Lib.hid hby
  have HXq0 := Lib.hid (At2.new w (.int .u64 nx) (.slice A n c) 28)
  have HB0 := Lib.hid (brf (w := w))
  clear hq ht hby hlen
  go_enter Try.func7, Try.ntmps7
  go_wp2_with fail
  refine (live_any _).mono ?_
  rintro e w1 ⟨rfl, hb⟩
  have HB1 : Hid (Below w.heap.size w w1) := Lib.hid (by first | exact bgo HB0.out hb | exact bgo (bal HB0.out _) hb | exact bgo (bal (bal HB0.out _) _) hb | exact bgo (bdr HB0.out) hb)
  have HXq1 := Lib.hid (at2_later (w1 := w1) HXq0.out (by first | exact hb | exact (bal brf _ : Below _ _ _).trans (hb.mono (by simp)) | exact (bal (bal brf _) _ : Below _ _ _).trans (hb.mono (by simp)) | exact (bdr brf : Below _ _ _).trans hb))
  clear hb
  obtain ⟨bq0, bq1, fq0, fq1⟩ := HXq1.out
  have zq := cell_lt bq0
  go_wp2_with fail
  refine (few_any nx A n c _ _ HQ0.out.1 HQ0.out.2.1 HQ0.out.2.2.1 (HQ0.out.below HB1.out).2.2.2).mono ?_
  rintro e w2 ⟨b, rfl, hb⟩
  clear bq0 bq1 fq0 fq1 zq
  have HB2 : Hid (Below w.heap.size w w2) := Lib.hid (by first | exact bgo HB1.out hb | exact bgo (bal HB1.out _) hb | exact bgo (bal (bal HB1.out _) _) hb | exact bgo (bdr HB1.out) hb)
  have HXq2 := Lib.hid (at2_later (w1 := w2) HXq1.out (by first | exact hb | exact (bal brf _ : Below _ _ _).trans (hb.mono (by simp)) | exact (bal (bal brf _) _ : Below _ _ _).trans (hb.mono (by simp)) | exact (bdr brf : Below _ _ _).trans hb))
  clear hb
  obtain ⟨bq0, bq1, fq0, fq1⟩ := HXq2.out
  have zq := cell_lt bq0
  cases b
  · go_wp2_with fail
    go_ret
    exact ⟨rfl, HB2.out⟩
  go_wp2_with fail
  have HXn2 := Lib.hid (At2.new w2 (.int .u64 nx) (.slice A n c) 28)
  have HXq2a := Lib.hid (HXq2.out.alloc (.cells #[.int .u64 nx, .slice A n c] 28))
  have HB2a := Lib.hid (bal HB2.out (.cells #[.int .u64 nx, .slice A n c] 28))
  have hKw : w.heap.size ≤ w2.heap.size := HB2.out.size
  have hKl : w.heap.size < w2.heap.size := cell_lt HXq2.out.1
  clear bq0 bq1 fq0 fq1 zq
  obtain ⟨K, hK⟩ : ∃ K, K = w2.heap.size := ⟨_, rfl⟩
  obtain ⟨wl, hwl⟩ : ∃ x, x = w2.alloc (.cells #[.int .u64 nx, .slice A n c] 28) := ⟨_, rfl⟩
  rw [← hK] at HXn2 hKw hKl ⊢
  rw [← hwl] at HXn2 HXq2a HB2a ⊢
  clear hK hwl HXq2 HB2 HXq1 HXq0 HB1 HB0
  go_loopw [23] (fun i wr => ∃ (k : Nat) (D : Option Addr) (m d : Nat) (qs : List (Ltr × Value)), k ≤ n ∧ i = .int .i64 k ∧ Hid (At2 wr K (.int .u64 nx) (.slice D m d)) ∧ Hid (QAt wr D m d qs) ∧ Hid (qs.map (·.1) = (ps.drop k).map (·.1)) ∧ Hid (Below w.heap.size w wr) ∧ Hid (At2 wr w.heap.size (.int .u64 nx) (.slice A n c))) (fun i _ => n - (intOf i).toNat)
  case atStart => exact ⟨0, A, n, c, ps, Nat.zero_le _, rfl, HXn2, Lib.hid (HQ0.out.below HB2a.out), Lib.hid rfl, HB2a, HXq2a⟩
  case round =>
    obtain ⟨k, D, m, d, qs, hk, rfl, HXn10, HQD, HM, HB10, HXq10⟩ := hrel
    by_cases hlt : k < n
    · have r1 : (k : Int) < n := by omega
      obtain ⟨⟨l, v⟩, hp⟩ : ∃ p, ps[k]? = some p := ⟨_, List.getElem?_eq_getElem (by rw [HN.out]; exact hlt)⟩
      have hdr : ps.drop k = (l, v) :: ps.drop (k + 1) := by
        have hk2 : k < ps.length := by rw [HN.out]; exact hlt
        rw [List.drop_eq_getElem_cons hk2]
        rw [List.getElem?_eq_getElem hk2] at hp
        rw [Option.some.inj hp]
      obtain ⟨v', qs', rfl, hqs'⟩ := map_cons_of (l := l) (ls := (ps.drop (k + 1)).map (·.1)) (HM.out.trans (by rw [hdr]; rfl))
      have hmn : m ≤ n := by
        have h1 := HQD.out.len
        have h2 := congrArg List.length HM.out
        simp only [List.length_map, List.length_drop] at h1 h2
        have h3 := HN.out
        omega
      have HT1 : Hid (TxtOk (((l, v') :: qs').map (·.1))) := Lib.hid (by rw [HM.out]; exact HT.out.drop k)
      have hml : (m : Int) ≤ 100000000000000 := by omega
      have hm0 : 0 < m := by have := HQD.out.1; simp at this; omega
      have HM1 := Lib.hid hqs'
      obtain ⟨b, off, rfl, hlb, ⟨q0, q1, q2, q3, q4⟩, ⟨E1, c1, rfl, m1, m2, hr⟩⟩ := (HQ0.out.below HB10.out).2.2.2.at_ hp
      have HR1 := Lib.hid hr
      have HXw10 := Lib.hid (At5.new wr (.bool l.1) (.int .i64 l.2.1) (.int .i64 l.2.2.1) (.int .u64 l.2.2.2.1) (.slice E1 (txt l).length c1) 36)
      have HBR10 := Lib.hid (brf (w := wr))
      clear hp hdr hqs' hr m1 m2 HM
      obtain ⟨bn0, bn1, fn0, fn1⟩ := HXn10.out
      have zn := cell_lt bn0
      go_wp2_with fail
      refine (head_some nx D m d l v' qs' _ (HQD.out.below (bal brf _)) (HT1.out l (by simp)).2).mono ?_
      rintro e w11 ⟨E3, c3, rfl, h31, h32, h33, hb⟩
      clear bn0 bn1 fn0 fn1 zn q0 q1 q2 q3 q4 hlb
      have HB11 : Hid (Below w.heap.size w w11) := Lib.hid (by first | exact bgo HB10.out hb | exact bgo (bal HB10.out _) hb | exact bgo (bal (bal HB10.out _) _) hb | exact bgo (bdr HB10.out) hb)
      have HXq11 := Lib.hid (at2_later (w1 := w11) HXq10.out (by first | exact hb | exact (bal brf _ : Below _ _ _).trans (hb.mono (by simp)) | exact (bal (bal brf _) _ : Below _ _ _).trans (hb.mono (by simp)) | exact (bdr brf : Below _ _ _).trans hb))
      have HXn11 := Lib.hid (at2_later (w1 := w11) HXn10.out (by first | exact hb | exact (bal brf _ : Below _ _ _).trans (hb.mono (by simp)) | exact (bal (bal brf _) _ : Below _ _ _).trans (hb.mono (by simp)) | exact (bdr brf : Below _ _ _).trans hb))
      have HXw11 := Lib.hid (at5_later (w1 := w11) HXw10.out (by first | exact hb | exact (bal brf _ : Below _ _ _).trans (hb.mono (by simp)) | exact (bal (bal brf _) _ : Below _ _ _).trans (hb.mono (by simp)) | exact (bdr brf : Below _ _ _).trans hb))
      have HR3 := Lib.hid h33
      have HC3 := Lib.hid (And.intro h31 h32)
      clear h31 h32 h33
      have HXh11 := Lib.hid (At5.new w11 (.bool l.1) (.int .i64 l.2.1) (.int .i64 l.2.2.1) (.int .u64 l.2.2.2.1) (.slice E3 (txt l).length c3) 36)
      have HBR11 := Lib.hid ((bal brf _ : Below wr.heap.size wr _).trans (hb.mono (by simp)))
      clear hb
      obtain ⟨bq0, bq1, fq0, fq1⟩ := HXq11.out
      have zq := cell_lt bq0
      obtain ⟨bn0, bn1, fn0, fn1⟩ := HXn11.out
      have zn := cell_lt bn0
      obtain ⟨⟨bw0, bw1, bw2, bw3, bw4⟩, fw0, fw1, fw2, fw3, fw4⟩ := HXw11.out
      have zw := cell_lt bw0
      go_wp2_with fail
      refine (pop_first nx _ D m d l v' qs' _ (HQD.out.below (bal HBR11.out _)) (by have := HBY.out; omega) HT1.out rfl).mono ?_
      rintro e w12 ⟨A4, m4, c4, qs4, rfl, hm4, hq4, hb⟩
      clear bq0 bq1 fq0 fq1 zq bn0 bn1 fn0 fn1 zn bw0 bw1 bw2 bw3 bw4 fw0 fw1 fw2 fw3 fw4 zw
      have HB12 : Hid (Below w.heap.size w w12) := Lib.hid (by first | exact bgo HB11.out hb | exact bgo (bal HB11.out _) hb | exact bgo (bal (bal HB11.out _) _) hb | exact bgo (bdr HB11.out) hb)
      have HXq12 := Lib.hid (at2_later (w1 := w12) HXq11.out (by first | exact hb | exact (bal brf _ : Below _ _ _).trans (hb.mono (by simp)) | exact (bal (bal brf _) _ : Below _ _ _).trans (hb.mono (by simp)) | exact (bdr brf : Below _ _ _).trans hb))
      have HXn12 := Lib.hid (at2_later (w1 := w12) HXn11.out (by first | exact hb | exact (bal brf _ : Below _ _ _).trans (hb.mono (by simp)) | exact (bal (bal brf _) _ : Below _ _ _).trans (hb.mono (by simp)) | exact (bdr brf : Below _ _ _).trans hb))
      have HXw12 := Lib.hid (at5_later (w1 := w12) HXw11.out (by first | exact hb | exact (bal brf _ : Below _ _ _).trans (hb.mono (by simp)) | exact (bal (bal brf _) _ : Below _ _ _).trans (hb.mono (by simp)) | exact (bdr brf : Below _ _ _).trans hb))
      have HXh12 := Lib.hid (at5_later (w1 := w12) HXh11.out (by first | exact hb | exact (bal brf _ : Below _ _ _).trans (hb.mono (by simp)) | exact (bal (bal brf _) _ : Below _ _ _).trans (hb.mono (by simp)) | exact (bdr brf : Below _ _ _).trans hb))
      have HM4 := Lib.hid hm4
      have hKb : K < (w11.alloc (.cells #[.bool l.1, .int .i64 l.2.1, .int .i64 l.2.2.1, .int .u64 l.2.2.2.1, .slice E3 (txt l).length c3] 36)).heap.size := cell_lt (HXn11.out.alloc _).1
      have HKB := Lib.hid hKb
      have HQ4 := Lib.hid hq4
      have HXp12 := Lib.hid (At2.new w12 (.int .u64 nx) (.slice A4 m4 c4) 28)
      have HBR12 := Lib.hid (bgo (bal HBR11.out _) hb)
      have HR312 := Lib.hid (HR3.out.below ((bal brf _ : Below w11.heap.size w11 _).trans (hb.mono (by simp))))
      clear hm4 hq4 hKb
      clear hb
      obtain ⟨bq0, bq1, fq0, fq1⟩ := HXq12.out
      have zq := cell_lt bq0
      obtain ⟨bn0, bn1, fn0, fn1⟩ := HXn12.out
      have zn := cell_lt bn0
      obtain ⟨⟨bw0, bw1, bw2, bw3, bw4⟩, fw0, fw1, fw2, fw3, fw4⟩ := HXw12.out
      have zw := cell_lt bw0
      obtain ⟨⟨bh0, bh1, bh2, bh3, bh4⟩, fh0, fh1, fh2, fh3, fh4⟩ := HXh12.out
      have zh := cell_lt bh0
      go_wp2_with fail
      refine (same_letter l E3 E1 _ _ c3 c1 _ rfl rfl (HR312.out.below (bal brf _)) (HR1.out.below (bal HBR12.out _)) (HT1.out l (by simp)).1).mono ?_
      rintro e w13 ⟨rfl, hb⟩
      clear bq0 bq1 fq0 fq1 zq bn0 bn1 fn0 fn1 zn bw0 bw1 bw2 bw3 bw4 fw0 fw1 fw2 fw3 fw4 zw bh0 bh1 bh2 bh3 bh4 fh0 fh1 fh2 fh3 fh4 zh
      have HB13 : Hid (Below w.heap.size w w13) := Lib.hid (by first | exact bgo HB12.out hb | exact bgo (bal HB12.out _) hb | exact bgo (bal (bal HB12.out _) _) hb | exact bgo (bdr HB12.out) hb)
      have HXq13 := Lib.hid (at2_later (w1 := w13) HXq12.out (by first | exact hb | exact (bal brf _ : Below _ _ _).trans (hb.mono (by simp)) | exact (bal (bal brf _) _ : Below _ _ _).trans (hb.mono (by simp)) | exact (bdr brf : Below _ _ _).trans hb))
      have HXn13 := Lib.hid (at2_later (w1 := w13) HXn12.out (by first | exact hb | exact (bal brf _ : Below _ _ _).trans (hb.mono (by simp)) | exact (bal (bal brf _) _ : Below _ _ _).trans (hb.mono (by simp)) | exact (bdr brf : Below _ _ _).trans hb))
      have HXw13 := Lib.hid (at5_later (w1 := w13) HXw12.out (by first | exact hb | exact (bal brf _ : Below _ _ _).trans (hb.mono (by simp)) | exact (bal (bal brf _) _ : Below _ _ _).trans (hb.mono (by simp)) | exact (bdr brf : Below _ _ _).trans hb))
      have HXh13 := Lib.hid (at5_later (w1 := w13) HXh12.out (by first | exact hb | exact (bal brf _ : Below _ _ _).trans (hb.mono (by simp)) | exact (bal (bal brf _) _ : Below _ _ _).trans (hb.mono (by simp)) | exact (bdr brf : Below _ _ _).trans hb))
      have HXp13 := Lib.hid (at2_later (w1 := w13) HXp12.out (by first | exact hb | exact (bal brf _ : Below _ _ _).trans (hb.mono (by simp)) | exact (bal (bal brf _) _ : Below _ _ _).trans (hb.mono (by simp)) | exact (bdr brf : Below _ _ _).trans hb))
      have HQ5 := Lib.hid ((HQ4.out.keepB ((bal brf _ : Below w12.heap.size w12 _).trans (hb.mono (by simp)))))
      clear hb
      obtain ⟨bq0, bq1, fq0, fq1⟩ := HXq13.out
      have zq := cell_lt bq0
      obtain ⟨bn0, bn1, fn0, fn1⟩ := HXn13.out
      have zn := cell_lt bn0
      obtain ⟨⟨bw0, bw1, bw2, bw3, bw4⟩, fw0, fw1, fw2, fw3, fw4⟩ := HXw13.out
      have zw := cell_lt bw0
      obtain ⟨⟨bh0, bh1, bh2, bh3, bh4⟩, fh0, fh1, fh2, fh3, fh4⟩ := HXh13.out
      have zh := cell_lt bh0
      obtain ⟨bp0, bp1, fp0, fp1⟩ := HXp13.out
      have zp := cell_lt bp0
      go_wp2_with fail
      refine ⟨⟨k + 1, A4, m4, c4, qs4, by omega, by congr 1, Lib.hid HXn13.out.set2, Lib.hid ((HQ5.out.set HKB.out).set HKB.out).at_, Lib.hid (HM4.out.trans HM1.out), Lib.hid (below_set2 HB13.out hKw), Lib.hid (HXq13.out.far2 (by omega))⟩, by show n - ((k : Int) + 1).toNat < n - (k : Int).toNat; omega⟩
    · have hkn : n = k := by omega
      subst hkn
      have hqs : qs = [] := map_nil_of (HM.out.trans (by rw [List.drop_of_length_le (by rw [HN.out]; exact Nat.le_refl _)]; rfl))
      subst hqs
      obtain rfl : m = 0 := HQD.out.1.symm
      have HBR10 := Lib.hid (brf (w := wr))
      obtain ⟨bn0, bn1, fn0, fn1⟩ := HXn10.out
      have zn := cell_lt bn0
      go_wp2_with fail
      refine (head_none nx D d _).mono ?_
      rintro e w11 ⟨rfl, hb⟩
      clear bn0 bn1 fn0 fn1 zn
      have HB11 : Hid (Below w.heap.size w w11) := Lib.hid (by first | exact bgo HB10.out hb | exact bgo (bal HB10.out _) hb | exact bgo (bal (bal HB10.out _) _) hb | exact bgo (bdr HB10.out) hb)
      have HXq11 := Lib.hid (at2_later (w1 := w11) HXq10.out (by first | exact hb | exact (bal brf _ : Below _ _ _).trans (hb.mono (by simp)) | exact (bal (bal brf _) _ : Below _ _ _).trans (hb.mono (by simp)) | exact (bdr brf : Below _ _ _).trans hb))
      have HXn11 := Lib.hid (at2_later (w1 := w11) HXn10.out (by first | exact hb | exact (bal brf _ : Below _ _ _).trans (hb.mono (by simp)) | exact (bal (bal brf _) _ : Below _ _ _).trans (hb.mono (by simp)) | exact (bdr brf : Below _ _ _).trans hb))
      clear hb
      obtain ⟨bq0, bq1, fq0, fq1⟩ := HXq11.out
      have zq := cell_lt bq0
      obtain ⟨bn0, bn1, fn0, fn1⟩ := HXn11.out
      have zn := cell_lt bn0
      go_wp2_with fail
      refine (pop_none nx 0 D d _).mono ?_
      rintro e w12 ⟨A4, m4, c4, qs4, rfl, hm4, hq4, hb⟩
      clear bq0 bq1 fq0 fq1 zq bn0 bn1 fn0 fn1 zn
      have HB12 : Hid (Below w.heap.size w w12) := Lib.hid (by first | exact bgo HB11.out hb | exact bgo (bal HB11.out _) hb | exact bgo (bal (bal HB11.out _) _) hb | exact bgo (bdr HB11.out) hb)
      have HXq12 := Lib.hid (at2_later (w1 := w12) HXq11.out (by first | exact hb | exact (bal brf _ : Below _ _ _).trans (hb.mono (by simp)) | exact (bal (bal brf _) _ : Below _ _ _).trans (hb.mono (by simp)) | exact (bdr brf : Below _ _ _).trans hb))
      have HXn12 := Lib.hid (at2_later (w1 := w12) HXn11.out (by first | exact hb | exact (bal brf _ : Below _ _ _).trans (hb.mono (by simp)) | exact (bal (bal brf _) _ : Below _ _ _).trans (hb.mono (by simp)) | exact (bdr brf : Below _ _ _).trans hb))
      clear hb
      obtain ⟨bq0, bq1, fq0, fq1⟩ := HXq12.out
      have zq := cell_lt bq0
      obtain ⟨bn0, bn1, fn0, fn1⟩ := HXn12.out
      have zn := cell_lt bn0
      go_wp2_with fail
      go_ret
      exact ⟨rfl, bal HB12.out _⟩

theorem queueEmpties_of {H : Type} {enc : TypeId × Value → H} (W : World) (base : Nat) (args : Array Value) (ds : List (DataW H)) (p : List MemPlace)
    (hval : ∀ (j : Nat) t v, Try.f7.params[j]? = some t → args[j]? = some v → Value.okWide Try.prog W .any base t v)
    (hA : DataW.TrodAll enc Try.prog W 0 (fun _ => true) true Try.f7.params.toList args.toList ds p) (hlt : ∀ x ∈ p, x.block < W.heap.size)
    (hz : (DataW.weightsEach Try.prog Try.f7.params.toList ds).all (· ≤ reachBytes) = true) : Calls Try.prog 7 args W (Yes W) := by
  rw [Try.params7] at hA hval hz
  obtain ⟨v0, vs0, d0, ds0, p0, q0, hargs, rfl, rfl, h0, r0⟩ := trodAll_cons hA
  obtain ⟨rfl, rfl, rfl⟩ := trodAll_nil r0
  obtain rfl : args = #[v0] := by cases args; simp_all
  obtain ⟨nx, A, n, c, ps, rfl, g1, g2, hq, hby, ht⟩ := open_queue (hval 0 _ _ rfl rfl) h0 (fun m hm => of_decide_eq_true (List.all_eq_true.1 hz m (DataW.weights_mem_each (j := 0) rfl rfl m hm)))
  exact queueEmpties_walk nx A n c ps W hq hby ht
end Go.Proofs.Ytfgkeodkakidpaa
