/- Contracts of the document's Pop; whether letters, and queues, are the same. -/
import Derived.Test.YtfgkeodkakidpaaQd
import Derived.Deep.RegionHeld3
namespace Go.Proofs.Ytfgkeodkakidpaa
open Go.RowKit
set_option linter.unusedSimpArgs false
set_option linter.unusedVariables false
set_option maxRecDepth 100000

set_option maxHeartbeats 1000000 in
theorem rpop_none (nx seq : Int) (A : Option Addr) (c : Nat) (w : World) (hc : c ≤ maxLen) :
    Calls Try.prog 16 #[.agg #[.int .u64 nx, .slice A 0 c], .int .u64 seq] w (IsQ w nx [] (.bool false)) := by
  go_enter Try.func16, Try.ntmps16
  go_wp2_with fail
  exact bodyPost_ret (v := .tuple #[.agg #[.int .u64 nx, .slice A 0 c], .bool false]) (by simp [results, Try.results16, go_sem]) rfl ⟨A, 0, c, [], rfl, rfl, ⟨rfl, Nat.zero_le _, hc, LRow.nil⟩, bal (bal brf _) _⟩

set_option maxHeartbeats 1000000 in
theorem rpop_other (nx seq : Int) (A : Option Addr) (n c : Nat) (l : Ltr) (v : Value) (ps : List (Ltr × Value)) (w : World) (hq : QAt w A n c ((l, v) :: ps)) (hne : ¬ l.2.2.2.1 = seq) :
    Calls Try.prog 16 #[.agg #[.int .u64 nx, .slice A n c], .int .u64 seq] w (IsQ w nx (((l, v) :: ps).map (·.1)) (.bool false)) := by
  have HQ := Lib.hid hq
  obtain ⟨hn, hc, hm, hx⟩ := hq
  have h0 : 0 < n := by rw [← hn]; simp
  have h1 : ((n : Int) == 0) = false := by simp; omega
  have h2 : (l.2.2.2.1 != seq) = true := by simpa using hne
  have h3 : (l.2.2.2.1 == seq) = false := by simpa using hne
  obtain ⟨b, off, rfl, hlb, ⟨q0, q1, q2, q3, q4⟩, ⟨E1, c1, rfl, m1, m2, hr⟩⟩ := hx.at_ (k := 0) (l := l) (v := v) rfl
  simp only [Nat.zero_mul, Nat.add_zero] at q0 q1 q2 q3 q4
  clear hx hn hr m2
  go_enter Try.func16, Try.ntmps16
  go_wp2_with fail
  exact bodyPost_ret (v := .tuple #[.agg #[.int .u64 nx, .slice (some ⟨b, off, none⟩) n c], .bool false]) (by simp [results, Try.results16, go_sem]) rfl ⟨_, n, c, _, rfl, rfl, HQ.out.below (bal (bal brf _) _), bal (bal brf _) _⟩

theorem keep2 {w : World} {B : Nat} {x y u0 u1 : Value} (h : w.cell? ⟨B, 0, none⟩ = some x ∧ w.cell? ⟨B, 1, none⟩ = some y) :
    ((w.setCell ⟨B + 1, 0, none⟩ u0).setCell ⟨B + 1, 1, none⟩ u1).cell? ⟨B, 0, none⟩ = some x ∧ ((w.setCell ⟨B + 1, 0, none⟩ u0).setCell ⟨B + 1, 1, none⟩ u1).cell? ⟨B, 1, none⟩ = some y :=
  ⟨(cell_setCell_far (by omega)).trans ((cell_setCell_far (by omega)).trans h.1), (cell_setCell_far (by omega)).trans ((cell_setCell_far (by omega)).trans h.2)⟩
theorem q_below {w W5 : World} (hb : Below w.heap.size w W5) (u0 u1 : Value) : Below w.heap.size w ((W5.setCell ⟨w.heap.size + 1, 0, none⟩ u0).setCell ⟨w.heap.size + 1, 1, none⟩ u1) :=
  (hb.setCell (p := ⟨w.heap.size + 1, 0, none⟩) (by show _ ≤ w.heap.size + 1; omega) _).setCell (p := ⟨w.heap.size + 1, 1, none⟩) (by show _ ≤ w.heap.size + 1; omega) _
theorem q_done' {w W5 : World} {n c5 : Nat} {A5 : Option Addr} {qs : List (Ltr × Value)} (HO : W5.ownsRow (w.heap.size + 2) 36 5 (.slice A5 n c5) n (flat qs)) (HT : Texts w qs) (hb : Below w.heap.size w W5) (u0 u1 : Value) :
    QAt ((W5.setCell ⟨w.heap.size + 1, 0, none⟩ u0).setCell ⟨w.heap.size + 1, 1, none⟩ u1) A5 n c5 qs := by
  have hl : qs.length = n := by
    have := HO.1
    rw [flat_len] at this
    omega
  exact ⟨hl, (own_capN HO).1, (own_capN HO).2, Rd.of_ownN (own_setCell (own_setCell HO (by show w.heap.size + 1 < w.heap.size + 2; omega)) (by show w.heap.size + 1 < w.heap.size + 2; omega)), HT.below (q_below hb u0 u1)⟩

set_option maxHeartbeats 2000000 in
theorem rpop_first (nx seq : Int) (A : Option Addr) (n c : Nat) (l : Ltr) (v : Value) (ps : List (Ltr × Value)) (w : World) (hq : QAt w A n c ((l, v) :: ps)) (hby : n * 56 ≤ 140737488351232) (hne : l.2.2.2.1 = seq) :
    Calls Try.prog 16 #[.agg #[.int .u64 nx, .slice A n c], .int .u64 seq] w (IsQ w nx (ps.map (·.1)) (.bool true)) := by
  obtain ⟨i0, hi, hz0, hz1, hz2⟩ := info_parts infoLetter
  obtain ⟨hn, hc, hm, hx⟩ := hq
  have h0 : 0 < n := by rw [← hn]; simp
  have h0' : (1 : Int) ≤ n := by omega
  have h0'' : (1 : Int) ≤ c := by omega
  have h1 : ((n : Int) == 0) = false := by simp; omega
  subst hne
  have hcm : (n : Int) ≤ c := by omega
  have hcx : (c : Int) ≤ 9223372036854775807 := by unfold maxLen at hm; omega
  obtain ⟨b, off, rfl, hlb, ⟨q0, q1, q2, q3, q4⟩, ⟨E1, c1, rfl, m1, m2, hr⟩⟩ := hx.at_ (k := 0) (l := l) (v := v) rfl
  simp only [Nat.zero_mul, Nat.add_zero] at q0 q1 q2 q3 q4
  have hn' : ps.length = n - 1 := by rw [← hn]; simp
  have hx1 := hx.tail
  have hx2 : LRow w (if c = 1 then some ⟨b, off, none⟩ else some ⟨b, off + 5, none⟩) ps := by
    by_cases hc1 : c = 1
    · obtain rfl : ps = [] := List.eq_nil_of_length_eq_zero (by omega)
      exact LRow.nil
    · rw [if_neg hc1]; exact hx1
  have HTL := Lib.hid hx2
  have hfl : (flat ps).length = (n - 1) * 5 := by rw [flat_len, hn']
  have HFL := Lib.hid hfl
  have HONE := Lib.hid (flat_one hx1.2)
  have hby' : n - 1 ≤ 2513169434843 := by omega
  have HBY := Lib.hid hby'
  have HBL : Hid (Texts w ps) := Lib.hid hx1.2
  clear hx hn hr m2 hby hn' hm hx1 hx2 hfl hby'
  have hA1 := (At2.new w (.int .u64 nx) (.slice (some ⟨b, off, none⟩) n c) 28).alloc (.cells #[.int .u64 0, .slice none 0 0] 28)
  have hA2 := At2.new (w.alloc (.cells #[.int .u64 nx, .slice (some ⟨b, off, none⟩) n c] 28)) (.int .u64 0) (.slice none 0 0) 28
  simp only [World.size_alloc] at hA1 hA2
  have HA1 := Lib.hid hA1
  have HA2 := Lib.hid hA2
  clear hA1 hA2
  by_cases hc1 : c = 1
  · subst hc1
    obtain rfl : n = 1 := by omega
    simp only [if_true] at HTL
    clear hc hcm hcx h0 h0' h0'' h1
    go_enter Try.func16, Try.ntmps16
    go_wp2_with fail
    have hstart : ((w.alloc (.cells #[.int .u64 nx, .slice (some ⟨b, off, none⟩) 1 1] 28)).alloc (.cells #[.int .u64 0, .slice none 0 0] 28)).drew.cell? ⟨w.heap.size, 0, none⟩ = some (.int .u64 nx) ∧ ((w.alloc (.cells #[.int .u64 nx, .slice (some ⟨b, off, none⟩) 1 1] 28)).alloc (.cells #[.int .u64 0, .slice none 0 0] 28)).drew.cell? ⟨w.heap.size, 1, none⟩ = some (.slice (some ⟨b, off, none⟩) 1 1) := ⟨HA1.out.1, HA1.out.2.1⟩
    go_region_held3 (fun x => x.cell? ⟨w.heap.size, 0, none⟩ = some (.int .u64 nx) ∧ x.cell? ⟨w.heap.size, 1, none⟩ = some (.slice (some ⟨b, off, none⟩) 1 1)) (first | assumption | exact keep2 (by assumption))
      ((refine step_append_sz rfl _ _ 26 (by rfl) (w.heap.size + 2) 36 i0 _ 5 56 Try.underlying26 hi hz0 hz1 hz2 rfl (by decide) (.slice none 0 0) 0 [] (by rfl) ⟨rfl, .inl ⟨rfl, rfl⟩⟩ (some ⟨b, off, none⟩) (0) (0) (flat ps) (by rfl) HFL.out (HTL.out.1.below (bdr (bal (bal brf _) _))) HONE.out (by have := HBY.out; unfold maxLen; omega) (by have := HBY.out; omega) (by simp) ?_; intro v4 w4 hown4 hgrow4; rw [Nat.zero_add, List.nil_append] at hown4; have hb4 : Below (w.heap.size + 2) _ w4 := (Below.drew (Below.refl (w.heap.size + 2) _)).grown hgrow4 (by simp) (fun k e => by simp [Value.ownBlock] at e); have hA1 := HA1.out.below hb4 (by omega); have hS4 : w4.cell? ⟨w.heap.size, 0, none⟩ = some (.int .u64 nx) ∧ w4.cell? ⟨w.heap.size, 1, none⟩ = some (.slice (some ⟨b, off, none⟩) 1 1) := ⟨hA1.1, hA1.2.1⟩; have HB4 := Lib.hid ((bal (bal brf _) _ : Below w.heap.size w _).trans (hb4.mono (by omega))); obtain ⟨a0, a1, f0, f1⟩ := HA2.out.below hb4 (by omega); obtain ⟨A5, c5, rfl⟩ := own_slice hown4; have HO5 := Lib.hid hown4; clear hown4 hgrow4 hb4 hA1))
    all_goals
      go_wp2_with fail
      refine bodyPost_ret (v := .tuple #[.agg #[.int .u64 nx, .slice A5 (0) c5], .bool true]) (by simp [results, Try.results16, go_sem, a0, a1, f0, f1]) rfl ⟨A5, 0, c5, ps, rfl, rfl, q_done' HO5.out HBL.out HB4.out _ _, q_below HB4.out _ _⟩
  · rw [if_neg hc1] at HTL
    go_enter Try.func16, Try.ntmps16
    go_wp2_with fail
    have hstart : ((w.alloc (.cells #[.int .u64 nx, .slice (some ⟨b, off, none⟩) n c] 28)).alloc (.cells #[.int .u64 0, .slice none 0 0] 28)).drew.cell? ⟨w.heap.size, 0, none⟩ = some (.int .u64 nx) ∧ ((w.alloc (.cells #[.int .u64 nx, .slice (some ⟨b, off, none⟩) n c] 28)).alloc (.cells #[.int .u64 0, .slice none 0 0] 28)).drew.cell? ⟨w.heap.size, 1, none⟩ = some (.slice (some ⟨b, off, none⟩) n c) := ⟨HA1.out.1, HA1.out.2.1⟩
    go_region_held3 (fun x => x.cell? ⟨w.heap.size, 0, none⟩ = some (.int .u64 nx) ∧ x.cell? ⟨w.heap.size, 1, none⟩ = some (.slice (some ⟨b, off, none⟩) n c)) (first | assumption | exact keep2 (by assumption))
      ((refine step_append_sz rfl _ _ 26 (by rfl) (w.heap.size + 2) 36 i0 _ 5 56 Try.underlying26 hi hz0 hz1 hz2 rfl (by decide) (.slice none 0 0) 0 [] (by rfl) ⟨rfl, .inl ⟨rfl, rfl⟩⟩ (some ⟨b, off + 5, none⟩) (n - 1) (c - 1) (flat ps) (by rfl) HFL.out (HTL.out.1.below (bdr (bal (bal brf _) _))) HONE.out (by have := HBY.out; unfold maxLen; omega) (by have := HBY.out; omega) (by simp) ?_; intro v4 w4 hown4 hgrow4; rw [Nat.zero_add, List.nil_append] at hown4; have hb4 : Below (w.heap.size + 2) _ w4 := (Below.drew (Below.refl (w.heap.size + 2) _)).grown hgrow4 (by simp) (fun k e => by simp [Value.ownBlock] at e); have hA1 := HA1.out.below hb4 (by omega); have hS4 : w4.cell? ⟨w.heap.size, 0, none⟩ = some (.int .u64 nx) ∧ w4.cell? ⟨w.heap.size, 1, none⟩ = some (.slice (some ⟨b, off, none⟩) n c) := ⟨hA1.1, hA1.2.1⟩; have HB4 := Lib.hid ((bal (bal brf _) _ : Below w.heap.size w _).trans (hb4.mono (by omega))); obtain ⟨a0, a1, f0, f1⟩ := HA2.out.below hb4 (by omega); obtain ⟨A5, c5, rfl⟩ := own_slice hown4; have HO5 := Lib.hid hown4; clear hown4 hgrow4 hb4 hA1))
    all_goals
      go_wp2_with fail
      refine bodyPost_ret (v := .tuple #[.agg #[.int .u64 nx, .slice A5 (n - 1) c5], .bool true]) (by simp [results, Try.results16, go_sem, a0, a1, f0, f1]) rfl ⟨A5, n - 1, c5, ps, rfl, rfl, q_done' HO5.out HBL.out HB4.out _ _, q_below HB4.out _ _⟩
end Go.Proofs.Ytfgkeodkakidpaa
