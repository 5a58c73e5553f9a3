/- Whether letters, and queues, are the same: where they are. -/
import Derived.Test.YtfgkeodkakidpaaQe
namespace Go.Proofs.Ytfgkeodkakidpaa
open Go.RowKit
set_option linter.unusedSimpArgs false
set_option linter.unusedVariables false
set_option maxRecDepth 100000

abbrev LAtA (w : World) (b o : Nat) (l : Ltr) (v : Value) : Prop :=
  w.cell? ⟨b, o, none⟩ = some (.bool l.1) ∧ w.cell? ⟨b, o + 1, none⟩ = some (.int .i64 l.2.1) ∧ w.cell? ⟨b, o + 2, none⟩ = some (.int .i64 l.2.2.1) ∧ w.cell? ⟨b, o + 3, none⟩ = some (.int .u64 l.2.2.2.1) ∧ w.cell? ⟨b, o + 4, none⟩ = some v
theorem LAtA.below {w w' : World} {b o : Nat} {l : Ltr} {v : Value} (h : LAtA w b o l v) (hb : Below w.heap.size w w') (hlt : b < w.heap.size) : LAtA w' b o l v :=
  ⟨(hb.cell (p := ⟨b, o, none⟩) hlt).trans h.1, (hb.cell (p := ⟨b, o + 1, none⟩) hlt).trans h.2.1, (hb.cell (p := ⟨b, o + 2, none⟩) hlt).trans h.2.2.1, (hb.cell (p := ⟨b, o + 3, none⟩) hlt).trans h.2.2.2.1, (hb.cell (p := ⟨b, o + 4, none⟩) hlt).trans h.2.2.2.2⟩

set_option maxHeartbeats 1000000 in
theorem same_letter (l : Ltr) (A1 A2 : Option Addr) (m1 m2 c1 c2 : Nat) (w : World) (hm1 : (txt l).length = m1) (hm2 : (txt l).length = m2) (h1 : Rd w A1 (nums .u8 (txt l))) (h2 : Rd w A2 (nums .u8 (txt l))) (hb : Byt (txt l)) :
    Calls Try.prog 19 #[lv l (.slice A1 m1 c1), lv l (.slice A2 m2 c2)] w fun e w' => e = .returned (.bool true) ∧ Below w.heap.size w w' := by
  have C := fun W (r1 : Rd W A1 (nums .u8 (txt l))) (r2 : Rd W A2 (nums .u8 (txt l))) => same_any A1 A2 m1 c1 m2 c2 (txt l) (txt l) W hm1 hm2 r1 r2 hb hb
  have HC := Lib.hid C
  have HR1 := Lib.hid h1
  have HR2 := Lib.hid h2
  clear C h1 h2 hm1 hm2 hb
  go_enter Try.func19, Try.ntmps19
  go_wp2_with (go_at_call 20; go_must (refine (HC.out _ (HR1.out.below (bal (bal brf _) _)) (HR2.out.below (bal (bal brf _) _))).mono ?_; rintro e w1 ⟨rfl, rfl⟩))
  go_ret
  exact ⟨by simp, bal (bal brf _) _⟩

set_option maxHeartbeats 2000000 in
theorem sameAll_true (A B : Option Addr) (n c d : Nat) (ps qs : List (Ltr × Value)) (w : World) (hp : QAt w A n c ps) (hq : QAt w B n d qs) (he : ps.map (·.1) = qs.map (·.1)) (ht : TxtOk (ps.map (·.1))) :
    Calls Try.prog 21 #[.slice A n c, .slice B n d] w fun e w' => e = .returned (.bool true) ∧ Below w.heap.size w w' := by
  obtain ⟨hn, hc, hm, hx⟩ := hp
  obtain ⟨hn', hd, hm', hy⟩ := hq
  have hnm : (n : Int) ≤ 9223372036854775807 := by unfold maxLen at hm; omega
  have HN := Lib.hid hn
  have HN' := Lib.hid hn'
  have HX := Lib.hid hx
  have HY := Lib.hid hy
  have HE := Lib.hid he
  have HT := Lib.hid ht
  clear hn hn' hx hy he ht hm hm'
  go_enter Try.func21, Try.ntmps21
  go_wp2_with fail
  go_loopw [13] (fun i wr => ∃ k : Nat, k ≤ n ∧ i = .int .i64 k ∧ Hid (Below w.heap.size w wr)) (fun i _ => n - (intOf i).toNat)
  case atStart => exact ⟨0, Nat.zero_le _, rfl, Lib.hid brf⟩
  case round =>
    obtain ⟨k, hk, rfl, HB⟩ := hrel
    by_cases hlt : k < n
    · have r1 : (k : Int) < n := by omega
      have r0 : (0 : Int) ≤ k := by omega
      obtain ⟨⟨l, v⟩, hp⟩ : ∃ p, ps[k]? = some p := ⟨_, List.getElem?_eq_getElem (by rw [HN.out]; exact hlt)⟩
      obtain ⟨⟨l', v'⟩, hp'⟩ : ∃ p, qs[k]? = some p := ⟨_, List.getElem?_eq_getElem (by rw [HN'.out]; exact hlt)⟩
      have hll : l = l' := by
        have := congrArg (fun L => L[k]?) HE.out
        simpa [hp, hp'] using this
      subst hll
      have hbt := HT.out l (List.mem_map.2 ⟨_, List.mem_of_getElem? hp, rfl⟩)
      obtain ⟨b1, o1, rfl, hl1, q1, ⟨E1, c1, rfl, m1, m2, g1⟩⟩ := (HX.out.below HB.out).at_ hp
      obtain ⟨b2, o2, rfl, hl2, q2, ⟨E2, c2, rfl, m3, m4, g2⟩⟩ := (HY.out.below HB.out).at_ hp'
      have hq1 : LAtA wr b1 (o1 + k * 5) l (.slice E1 (txt l).length c1) := q1
      have hq2 : LAtA wr b2 (o2 + k * 5) l (.slice E2 (txt l).length c2) := q2
      have HS : Hid (LAtA wr b1 (o1 + k * 5) l (.slice E1 (txt l).length c1) ∧ LAtA wr b2 (o2 + k * 5) l (.slice E2 (txt l).length c2)) := Lib.hid ⟨hq1, hq2⟩
      have HG1 := Lib.hid g1
      have HG2 := Lib.hid g2
      have HBT := Lib.hid hbt
      clear hp hp' hbt q1 q2 g1 g2 m1 m2 m3 m4 hq1 hq2
      go_wp2_with fail
      have hstart : LAtA wr.drew b1 (o1 + k * 5) l (.slice E1 (txt l).length c1) ∧ LAtA wr.drew b2 (o2 + k * 5) l (.slice E2 (txt l).length c2) := ⟨HS.out.1.below (bdr brf) hl1, HS.out.2.below (bdr brf) hl2⟩
      go_region_held3 (fun x => LAtA x b1 (o1 + k * 5) l (.slice E1 (txt l).length c1) ∧ LAtA x b2 (o2 + k * 5) l (.slice E2 (txt l).length c2)) (first | assumption)
        ((go_at_call 19; go_must (refine (same_letter l E1 E2 _ _ c1 c2 _ rfl rfl (HG1.out.below (bdr brf)) (HG2.out.below (bdr brf)) HBT.out.1).mono ?_; rintro e w1 ⟨rfl, hb1⟩; have hB := Below.trans (bdr brf : Below wr.heap.size wr _) hb1; have hS1 : LAtA w1 b1 (o1 + k * 5) l (.slice E1 (txt l).length c1) ∧ LAtA w1 b2 (o2 + k * 5) l (.slice E2 (txt l).length c2) := ⟨HS.out.1.below hB hl1, HS.out.2.below hB hl2⟩; have HB1 := Lib.hid hB; clear hb1 hB)))
      go_wp2_with fail
      exact ⟨⟨k + 1, by omega, by congr 1, Lib.hid (bgo HB.out HB1.out)⟩, by show n - ((k : Int) + 1).toNat < n - (k : Int).toNat; omega⟩
    · have hkn : n = k := by omega
      subst hkn
      go_wp2_with fail
      go_ret
      exact ⟨rfl, HB.out⟩

set_option maxHeartbeats 1000000 in
theorem same17_true (nx : Int) (A B : Option Addr) (n c d : Nat) (ps qs : List (Ltr × Value)) (w : World) (hp : QAt w A n c ps) (hq : QAt w B n d qs) (he : ps.map (·.1) = qs.map (·.1)) (ht : TxtOk (ps.map (·.1))) :
    Calls Try.prog 11 #[.agg #[.int .u64 nx, .slice A n c], .agg #[.int .u64 nx, .slice B n d]] w fun e w' => e = .returned (.bool true) ∧ Below w.heap.size w w' := by
  have HP := Lib.hid hp
  have HQ := Lib.hid hq
  have HE := Lib.hid he
  have HT := Lib.hid ht
  clear hp hq he ht
  go_enter Try.func11, Try.ntmps11
  go_wp2_with (go_at_call 21; go_must (refine (sameAll_true A B n c d ps qs _ (HP.out.below (bal (bal brf _) _)) (HQ.out.below (bal (bal brf _) _)) HE.out HT.out).mono ?_; rintro e w1 ⟨rfl, hb1⟩; have HB1 := Lib.hid (bgo (bal (bal brf _) _ : Below w.heap.size w _) hb1); clear hb1))
  go_ret
  exact ⟨rfl, HB1.out⟩
end Go.Proofs.Ytfgkeodkakidpaa
