/- Contracts: Pop of both answers. -/
import Derived.Test.YtfgkeodkakidpaaQc
namespace Go.Proofs.Ytfgkeodkakidpaa
open Go.RowKit
set_option linter.unusedSimpArgs false
set_option linter.unusedVariables false
set_option maxRecDepth 100000

theorem LRow.tail {w : World} {b off : Nat} {p : Ltr × Value} {ps : List (Ltr × Value)} (h : LRow w (some ⟨b, off, none⟩) (p :: ps)) : LRow w (some ⟨b, off + 5, none⟩) ps := by
  refine ⟨?_, fun q hq => h.2 q (List.mem_cons_of_mem _ hq)⟩
  obtain ⟨b', off', hA, hb, hc⟩ := h.1.at_ (by rw [flat_len]; simp)
  cases hA
  refine .inr ⟨b, off + 5, rfl, hb, fun i v hv => ?_⟩
  have := hc (5 + i) v (by
    rw [flat, List.getElem?_append_right (by simp [cells5])]
    rw [← hv]; congr 1; simp [cells5])
  rwa [Nat.add_assoc]

theorem q_done {W5 : World} {B n c5 : Nat} {A5 : Option Addr} {qs : List (Ltr × Value)} (HO : W5.ownsRow (B + 2) 36 5 (.slice A5 n c5) n (flat qs)) (HOT : OwnTexts W5 (B + 2) qs) (u0 u1 : Value) :
    QOwn ((W5.setCell ⟨B + 1, 0, none⟩ u0).setCell ⟨B + 1, 1, none⟩ u1) B A5 n c5 qs :=
  ⟨own_mono (own_setCell (own_setCell HO (by show B + 1 < B + 2; omega)) (by show B + 1 < B + 2; omega)) (by omega), fun p hp => own_mono (own_setCell (own_setCell (HOT p hp) (by show B + 1 < B + 2; omega)) (by show B + 1 < B + 2; omega)) (by omega)⟩

set_option maxHeartbeats 1000000 in
theorem pop_none (nx seq : Int) (A : Option Addr) (c : Nat) (w : World) :
    Calls Try.prog 15 #[.agg #[.int .u64 nx, .slice A 0 c], .int .u64 seq] w (IsQO w nx [] (.bool false)) := by
  have hA2 := At2.new (w.alloc (.cells #[.int .u64 nx, .slice A 0 c] 28)) (.int .u64 0) (.slice none 0 0) 28
  simp only [World.size_alloc] at hA2
  have HA2 := Lib.hid hA2
  clear hA2
  go_enter Try.func15, Try.ntmps15
  go_wp2_with (go_at_call 22; go_must (refine (copied_any nx A 0 c [] _ rfl (Nat.zero_le _) (by omega) ((LRow.nil (w := w)).below (bal (bal brf _) _)) (by simp)).mono ?_; rintro e w5 ⟨A5, c5, qs, rfl, hqs, hown5, hot5, hb5⟩; have HQS := Lib.hid hqs; have HO5 := Lib.hid (own_mono (b' := w.heap.size + 2) hown5 (by simp)); have HOT5 := Lib.hid (hot5.mono (b' := w.heap.size + 2) (by simp)); simp only [World.size_alloc] at hb5; have HB5 := Lib.hid (((bal (bal brf _) _) : Below w.heap.size w _).trans (hb5.mono (by omega))); obtain ⟨a0, a1, f0, f1⟩ := HA2.out.below hb5 (by omega); clear hown5 hot5 hb5 hqs))
  refine bodyPost_ret (v := .tuple #[.agg #[.int .u64 nx, .slice A5 0 c5], .bool false]) (by simp [results, Try.results15, go_sem, a0, a1, f0, f1]) rfl ⟨A5, 0, c5, qs, rfl, HQS.out, q_done HO5.out HOT5.out _ _, ?_⟩
  exact (HB5.out.setCell (p := ⟨w.heap.size + 1, 0, none⟩) (by show _ ≤ w.heap.size + 1; omega) _).setCell (p := ⟨w.heap.size + 1, 1, none⟩) (by show _ ≤ w.heap.size + 1; omega) _

set_option maxHeartbeats 1000000 in
theorem pop_other (nx seq : Int) (A : Option Addr) (n c : Nat) (l : Ltr) (v : Value) (ps : List (Ltr × Value)) (w : World) (hq : QAt w A n c ((l, v) :: ps)) (hby : n * 56 ≤ 140737488351232) (ht : TxtOk (((l, v) :: ps).map (·.1))) (hne : ¬ l.2.2.2.1 = seq) :
    Calls Try.prog 15 #[.agg #[.int .u64 nx, .slice A n c], .int .u64 seq] w (IsQO w nx (((l, v) :: ps).map (·.1)) (.bool false)) := by
  obtain ⟨hn, hc, hm, hx⟩ := hq
  have h0 : 0 < n := by rw [← hn]; simp
  have h1 : ((n : Int) == 0) = false := by simp; omega
  have h2 : (l.2.2.2.1 != seq) = true := by simpa using hne
  have h3 : (l.2.2.2.1 == seq) = false := by simpa using hne
  obtain ⟨b, off, rfl, hlb, ⟨q0, q1, q2, q3, q4⟩, ⟨E1, c1, rfl, m1, m2, hr⟩⟩ := hx.at_ (k := 0) (l := l) (v := v) rfl
  simp only [Nat.zero_mul, Nat.add_zero] at q0 q1 q2 q3 q4
  have HX := Lib.hid hx
  have HN := Lib.hid hn
  have HT := Lib.hid ht
  have HBY := Lib.hid hby
  have hA2 := At2.new (w.alloc (.cells #[.int .u64 nx, .slice (some ⟨b, off, none⟩) n c] 28)) (.int .u64 0) (.slice none 0 0) 28
  simp only [World.size_alloc] at hA2
  have HA2 := Lib.hid hA2
  clear hA2 hx hn ht hr m2 hby
  go_enter Try.func15, Try.ntmps15
  go_wp2_with (go_at_call 22; go_must (refine (copied_any nx (some ⟨b, off, none⟩) n c _ _ HN.out hc HBY.out (HX.out.below (bal (bal brf _) _)) HT.out.of).mono ?_; rintro e w5 ⟨A5, c5, qs, rfl, hqs, hown5, hot5, hb5⟩; have HQS := Lib.hid hqs; have HO5 := Lib.hid (own_mono (b' := w.heap.size + 2) hown5 (by simp)); have HOT5 := Lib.hid (hot5.mono (b' := w.heap.size + 2) (by simp)); simp only [World.size_alloc] at hb5; have HB5 := Lib.hid (((bal (bal brf _) _) : Below w.heap.size w _).trans (hb5.mono (by omega))); obtain ⟨a0, a1, f0, f1⟩ := HA2.out.below hb5 (by omega); clear hown5 hot5 hb5 hqs))
  refine bodyPost_ret (v := .tuple #[.agg #[.int .u64 nx, .slice A5 n c5], .bool false]) (by simp [results, Try.results15, go_sem, a0, a1, f0, f1]) rfl ⟨A5, n, c5, qs, rfl, HQS.out, q_done HO5.out HOT5.out _ _, ?_⟩
  exact (HB5.out.setCell (p := ⟨w.heap.size + 1, 0, none⟩) (by show _ ≤ w.heap.size + 1; omega) _).setCell (p := ⟨w.heap.size + 1, 1, none⟩) (by show _ ≤ w.heap.size + 1; omega) _

set_option maxHeartbeats 1000000 in
theorem pop_first (nx seq : Int) (A : Option Addr) (n c : Nat) (l : Ltr) (v : Value) (ps : List (Ltr × Value)) (w : World) (hq : QAt w A n c ((l, v) :: ps)) (hby : n * 56 ≤ 140737488351232) (ht : TxtOk (((l, v) :: ps).map (·.1))) (hne : l.2.2.2.1 = seq) :
    Calls Try.prog 15 #[.agg #[.int .u64 nx, .slice A n c], .int .u64 seq] w (IsQO w nx (ps.map (·.1)) (.bool true)) := by
  obtain ⟨hn, hc, hm, hx⟩ := hq
  have h0 : 0 < n := by rw [← hn]; simp
  have h0' : (1 : Int) ≤ n := by omega
  have h0'' : (1 : Int) ≤ c := by omega
  have h1 : ((n : Int) == 0) = false := by simp; omega
  subst hne
  have hcm : (n : Int) ≤ c := by omega
  have hcx : (c : Int) ≤ 9223372036854775807 := by unfold maxLen at hm; omega
  obtain ⟨b, off, rfl, hlb, ⟨q0, q1, q2, q3, q4⟩, ⟨E1, c1, rfl, m1, m2, hr⟩⟩ := hx.at_ (k := 0) (l := l) (v := v) rfl
  simp only [Nat.zero_mul, Nat.add_zero] at q0 q1 q2 q3 q4
  have hn' : ps.length = n - 1 := by rw [← hn]; simp
  have HTL := Lib.hid hx.tail
  have HT : Hid (TxtOk (ps.map (·.1))) := Lib.hid (fun x hx => ht x (List.mem_cons_of_mem _ hx))
  by_cases hc1 : c = 1
  · obtain rfl : n = 1 := by omega
    subst hc1
    obtain rfl : ps = [] := List.eq_nil_of_length_eq_zero (by simpa using hn')
    have hA2 := At2.new (w.alloc (.cells #[.int .u64 nx, .slice (some ⟨b, off, none⟩) 0 0] 28)) (.int .u64 0) (.slice none 0 0) 28
    simp only [World.size_alloc] at hA2
    have HA2 := Lib.hid hA2
    clear hA2 hx hn ht hr m2 hby hn' hm hc hcm hcx h0 h0' h0'' h1
    go_enter Try.func15, Try.ntmps15
    go_wp2_with (go_at_call 22; go_must (refine (copied_any nx (some ⟨b, off, none⟩) 0 0 [] _ rfl (Nat.zero_le _) (by omega) ((LRow.nil (w := w)).below (bal (bal brf _) _)) (by simp)).mono ?_; rintro e w5 ⟨A5, c5, qs, rfl, hqs, hown5, hot5, hb5⟩; have HQS := Lib.hid hqs; have HO5 := Lib.hid (own_mono (b' := w.heap.size + 2) hown5 (by simp)); have HOT5 := Lib.hid (hot5.mono (b' := w.heap.size + 2) (by simp)); simp only [World.size_alloc] at hb5; have HB5 := Lib.hid (((bal (bal brf _) _) : Below w.heap.size w _).trans (hb5.mono (by omega))); obtain ⟨a0, a1, f0, f1⟩ := HA2.out.below hb5 (by omega); clear hown5 hot5 hb5 hqs))
    refine bodyPost_ret (v := .tuple #[.agg #[.int .u64 nx, .slice A5 0 c5], .bool true]) (by simp [results, Try.results15, go_sem, a0, a1, f0, f1]) rfl ⟨A5, 0, c5, qs, rfl, HQS.out, q_done HO5.out HOT5.out _ _, ?_⟩
    exact (HB5.out.setCell (p := ⟨w.heap.size + 1, 0, none⟩) (by show _ ≤ w.heap.size + 1; omega) _).setCell (p := ⟨w.heap.size + 1, 1, none⟩) (by show _ ≤ w.heap.size + 1; omega) _

  · have hc2 : ¬ c = 1 := hc1
    have HN := Lib.hid hn'
    have hby' : (n - 1) * 56 ≤ 140737488351232 := by omega
    have HBY := Lib.hid hby'
    have hcc : n - 1 ≤ c - 1 := by omega
    have HCC := Lib.hid hcc
    have hA2 := At2.new (w.alloc (.cells #[.int .u64 nx, .slice (some ⟨b, off + 5, none⟩) (n - 1) (c - 1)] 28)) (.int .u64 0) (.slice none 0 0) 28
    simp only [World.size_alloc] at hA2
    have HA2 := Lib.hid hA2
    clear hA2 hx hn ht hr m2 hby hn' hm hby' hcc
    go_enter Try.func15, Try.ntmps15
    go_wp2_with (go_at_call 22; go_must (refine (copied_any nx (some ⟨b, off + 5, none⟩) (n - 1) (c - 1) ps _ HN.out HCC.out HBY.out (HTL.out.below (bal (bal brf _) _)) HT.out.of).mono ?_; rintro e w5 ⟨A5, c5, qs, rfl, hqs, hown5, hot5, hb5⟩; have HQS := Lib.hid hqs; have HO5 := Lib.hid (own_mono (b' := w.heap.size + 2) hown5 (by simp)); have HOT5 := Lib.hid (hot5.mono (b' := w.heap.size + 2) (by simp)); simp only [World.size_alloc] at hb5; have HB5 := Lib.hid (((bal (bal brf _) _) : Below w.heap.size w _).trans (hb5.mono (by omega))); obtain ⟨a0, a1, f0, f1⟩ := HA2.out.below hb5 (by omega); clear hown5 hot5 hb5 hqs))
    refine bodyPost_ret (v := .tuple #[.agg #[.int .u64 nx, .slice A5 (n - 1) c5], .bool true]) (by simp [results, Try.results15, go_sem, a0, a1, f0, f1]) rfl ⟨A5, (n - 1), c5, qs, rfl, HQS.out, q_done HO5.out HOT5.out _ _, ?_⟩
    exact (HB5.out.setCell (p := ⟨w.heap.size + 1, 0, none⟩) (by show _ ≤ w.heap.size + 1; omega) _).setCell (p := ⟨w.heap.size + 1, 1, none⟩) (by show _ ≤ w.heap.size + 1; omega) _

end Go.Proofs.Ytfgkeodkakidpaa
