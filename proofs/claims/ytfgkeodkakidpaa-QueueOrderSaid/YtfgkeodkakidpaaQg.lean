/- Contracts of Put: what is refused; the last number; the queue is full. -/
import Derived.Test.YtfgkeodkakidpaaQf
namespace Go.Proofs.Ytfgkeodkakidpaa
open Go.RowKit
set_option linter.unusedSimpArgs false
set_option linter.unusedVariables false
set_option maxRecDepth 100000

/-- A configuration lies in block b. -/
def CfgAt (x : World) (b : Nat) (s : Value) (ch st cl qu clo lo ag wi ro se : Int) : Prop :=
  x.cell? ⟨b, 0, none⟩ = some s ∧ x.cell? ⟨b, 1, none⟩ = some (.int .i64 ch) ∧ x.cell? ⟨b, 2, none⟩ = some (.int .i64 st) ∧ x.cell? ⟨b, 3, none⟩ = some (.int .i64 cl) ∧ x.cell? ⟨b, 4, none⟩ = some (.int .i64 qu) ∧ x.cell? ⟨b, 5, none⟩ = some (.int .i64 clo) ∧
  x.cell? ⟨b, 6, none⟩ = some (.int .i64 lo) ∧ x.cell? ⟨b, 7, none⟩ = some (.int .i64 ag) ∧ x.cell? ⟨b, 8, none⟩ = some (.int .i64 wi) ∧ x.cell? ⟨b, 9, none⟩ = some (.int .u64 ro) ∧ x.cell? ⟨b, 10, none⟩ = some (.int .u64 se)
theorem CfgAt.below {x y : World} {B b : Nat} {s : Value} {ch st cl qu clo lo ag wi ro se : Int} (h : CfgAt x b s ch st cl qu clo lo ag wi ro se) (hb : Below B x y) (hlt : b < B) : CfgAt y b s ch st cl qu clo lo ag wi ro se := by
  obtain ⟨h0, h1, h2, h3, h4, h5, h6, h7, h8, h9, h10⟩ := h
  exact ⟨(hb.cell (p := ⟨b, 0, none⟩) hlt).trans h0, (hb.cell (p := ⟨b, 1, none⟩) hlt).trans h1, (hb.cell (p := ⟨b, 2, none⟩) hlt).trans h2, (hb.cell (p := ⟨b, 3, none⟩) hlt).trans h3, (hb.cell (p := ⟨b, 4, none⟩) hlt).trans h4, (hb.cell (p := ⟨b, 5, none⟩) hlt).trans h5,
    (hb.cell (p := ⟨b, 6, none⟩) hlt).trans h6, (hb.cell (p := ⟨b, 7, none⟩) hlt).trans h7, (hb.cell (p := ⟨b, 8, none⟩) hlt).trans h8, (hb.cell (p := ⟨b, 9, none⟩) hlt).trans h9, (hb.cell (p := ⟨b, 10, none⟩) hlt).trans h10⟩
theorem CfgAt.alloc {x : World} {b : Nat} {s : Value} {ch st cl qu clo lo ag wi ro se : Int} (h : CfgAt x b s ch st cl qu clo lo ag wi ro se) (o : Obj) : CfgAt (x.alloc o) b s ch st cl qu clo lo ag wi ro se :=
  h.below ((Below.refl _ _).alloc (Nat.le_refl _) o) (cell_lt h.1)
theorem CfgAt.new (w : World) (s : Value) (ch st cl qu clo lo ag wi ro se : Int) (t : TypeId) : CfgAt (w.alloc (.cells #[s, .int .i64 ch, .int .i64 st, .int .i64 cl, .int .i64 qu, .int .i64 clo, .int .i64 lo, .int .i64 ag, .int .i64 wi, .int .u64 ro, .int .u64 se] t)) w.heap.size s ch st cl qu clo lo ag wi ro se := by
  unfold CfgAt; simp

/-- What stands while Put runs: the configuration's box, the result's, the copied queue's; the letters, copied. -/
def PB (x : World) (B R : Nat) (s : Value) (ch st cl qu clo lo ag wi ro se : Int) (nx : Int) (v5 : Value) (n : Nat) (qs : List (Ltr × Value)) : Prop :=
  (B + 1 + 1 < R ∧ R < x.heap.size) ∧ CfgAt x B s ch st cl qu clo lo ag wi ro se ∧ At2 x (B + 1 + 1) (.int .u64 0) (.slice none 0 0) ∧ At2 x R (.int .u64 nx) v5 ∧
  (x.ownsRow (B + 3) 36 5 v5 n (flat qs) ∧ OwnTexts x (B + 3) qs ∧ x.heap[R]? = some (.cells #[.int .u64 nx, v5] 28 (0, 0)))
theorem PB.below {x y : World} {B R : Nat} {s : Value} {ch st cl qu clo lo ag wi ro se nx : Int} {v5 : Value} {n : Nat} {qs : List (Ltr × Value)} (h : PB x B R s ch st cl qu clo lo ag wi ro se nx v5 n qs) (hb : Below x.heap.size x y) : PB y B R s ch st cl qu clo lo ag wi ro se nx v5 n qs := by
  obtain ⟨⟨h1, h2⟩, h3, h4, h5, h6, h7, h8⟩ := h
  exact ⟨⟨h1, Nat.lt_of_lt_of_le h2 hb.size⟩, h3.below hb (by omega), h4.below hb (by omega), h5.below hb h2, own_keepB h6 hb, h7.keepB hb, (hb.block R h2).trans h8⟩
theorem PB.start {w5 : World} {B : Nat} {s : Value} {ch st cl qu clo lo ag wi ro se nx : Int} {v5 : Value} {n : Nat} {qs : List (Ltr × Value)} (hlt : B + 1 + 1 < w5.heap.size) (h1 : CfgAt w5 B s ch st cl qu clo lo ag wi ro se) (h2 : At2 w5 (B + 1 + 1) (.int .u64 0) (.slice none 0 0))
    (ho : w5.ownsRow (B + 3) 36 5 v5 n (flat qs)) (hot : OwnTexts w5 (B + 3) qs) : PB (w5.alloc (.cells #[.int .u64 nx, v5] 28)) B w5.heap.size s ch st cl qu clo lo ag wi ro se nx v5 n qs :=
  ⟨⟨hlt, by simp⟩, h1.alloc _, h2.alloc _, At2.new _ _ _ _, ho.alloc _, hot.alloc _, World.alloc_heap_new w5 _⟩
theorem put_done {x : World} {B R : Nat} {s : Value} {ch st cl qu clo lo ag wi ro se nx : Int} {A5 : Option Addr} {n c5 : Nat} {qs : List (Ltr × Value)} (h : PB x B R s ch st cl qu clo lo ag wi ro se nx (.slice A5 n c5) n qs) (u0 u1 : Value) :
    QOwn ((x.setCell ⟨B + 1 + 1, 0, none⟩ u0).setCell ⟨B + 1 + 1, 1, none⟩ u1) B A5 n c5 qs := by
  obtain ⟨_, _, _, _, HO, HOT, _⟩ := h
  exact ⟨own_mono (own_setCell (own_setCell HO (by show B + 1 + 1 < B + 3; omega)) (by show B + 1 + 1 < B + 3; omega)) (by omega), fun p hp => own_mono (own_setCell (own_setCell (HOT p hp) (by show B + 1 + 1 < B + 3; omega)) (by show B + 1 + 1 < B + 3; omega)) (by omega)⟩
theorem put_below {w x : World} (hb : Below w.heap.size w x) (u0 u1 : Value) : Below w.heap.size w ((x.setCell ⟨w.heap.size + 1 + 1, 0, none⟩ u0).setCell ⟨w.heap.size + 1 + 1, 1, none⟩ u1) :=
  (hb.setCell (p := ⟨w.heap.size + 1 + 1, 0, none⟩) (by show _ ≤ w.heap.size + 1 + 1; omega) _).setCell (p := ⟨w.heap.size + 1 + 1, 1, none⟩) (by show _ ≤ w.heap.size + 1 + 1; omega) _
set_option maxHeartbeats 600000 in
theorem put_from (D : Option Addr) (dn dc : Nat) (ch st cl qu clo lo ag wi ro se : Int) (nx fr to : Int) (A : Option Addr) (n c : Nat) (ps : List (Ltr × Value)) (E : Option Addr) (m mc : Nat) (w : World) (hq : QAt w A n c ps) (hby : n * 56 ≤ 140737488351232) (ht : TxtOk (ps.map (·.1))) (h1 : cliB cl fr = false) :
    Calls Try.prog 10 #[cfgV (.slice D dn dc) ch st cl qu clo lo ag wi ro se, .agg #[.int .u64 nx, .slice A n c], .int .i64 fr, .int .i64 to, .slice E m mc] w (IsQO w nx (ps.map (·.1)) (.int .i64 3)) := by
  obtain ⟨hn, hc, hm, hx⟩ := hq
  have hnm : (n : Int) ≤ 9223372036854775807 := by omega
  have HX := Lib.hid hx
  have HN := Lib.hid hn
  have HT := Lib.hid ht
  have HBY := Lib.hid hby
  have hcf := ((CfgAt.new w (.slice D dn dc) ch st cl qu clo lo ag wi ro se 25).alloc (.cells #[.int .u64 nx, .slice A n c] 28)).alloc (.cells #[.int .u64 0, .slice none 0 0] 28)
  have hr2 := At2.new ((w.alloc (.cells #[.slice D dn dc, .int .i64 ch, .int .i64 st, .int .i64 cl, .int .i64 qu, .int .i64 clo, .int .i64 lo, .int .i64 ag, .int .i64 wi, .int .u64 ro, .int .u64 se] 25)).alloc (.cells #[.int .u64 nx, .slice A n c] 28)) (.int .u64 0) (.slice none 0 0) 28
  simp only [World.size_alloc] at hr2
  have HCF := Lib.hid hcf
  have HR2 := Lib.hid hr2
  clear hcf hr2 hx hn ht hby hm
  go_enter Try.func10, Try.ntmps10
  go_wp2_with (first
    | (go_at_call 22; go_must (refine (copied_any nx A n c ps _ HN.out hc HBY.out (HX.out.below (bal (bal (bal brf _) _) _)) HT.out.of).mono ?_; rintro e w5 ⟨A5, c5, qs, rfl, hqs, hown5, hot5, hb5⟩; simp only [World.size_alloc] at hown5 hot5 hb5; have HQS := Lib.hid hqs; have HB5 := Lib.hid ((bal (bal (bal brf _) _) _ : Below w.heap.size w _).trans (hb5.mono (by omega))); have z5 : w.heap.size + 1 + 1 < w5.heap.size := by { have := hb5.size; simp only [World.size_alloc] at this; omega }; have z50 : w.heap.size < w5.heap.size := (by omega); have hk := HCF.out.below hb5 (by omega); have hr2 := HR2.out.below hb5 (by omega); have HP5 := Lib.hid (PB.start (nx := nx) z5 hk hr2 hown5 hot5); obtain ⟨k50, k51, k52, k53, k54, k55, k56, k57, k58, k59, k5x⟩ := hk; obtain ⟨a50, a51, e50, e51⟩ := hr2; have HBA := Lib.hid (bal HB5.out (.cells #[.int .u64 nx, .slice A5 n c5] 28)); clear hown5 hot5 hb5 hqs))
    | (go_at_call 23; go_must (refine (client_any _ _ _ _ _ _ _ _ _ _ _ _ _).mono ?_; rintro e w6 ⟨rfl, hb6⟩; have HP5 := Lib.hid (HP5.out.below hb6); have HBA := Lib.hid (bgo HBA.out hb6); clear hb6; obtain ⟨⟨z6a, z6b⟩, ⟨k60, k61, k62, k63, k64, k65, k66, k67, k68, k69, k6x⟩, ⟨a60, a61, e60, e61⟩, ⟨p60, p61, g60, g61⟩, _⟩ := HP5.out)))
  refine bodyPost_ret (v := .tuple #[.agg #[.int .u64 nx, .slice A5 n c5], .int .i64 3]) (by simp [results, Try.results10, go_sem, a60, a61, e60, e61]) rfl ⟨A5, n, c5, qs, rfl, HQS.out, put_done HP5.out _ _, put_below HBA.out _ _⟩

set_option maxHeartbeats 600000 in
theorem put_to (D : Option Addr) (dn dc : Nat) (ch st cl qu clo lo ag wi ro se : Int) (nx fr to : Int) (A : Option Addr) (n c : Nat) (ps : List (Ltr × Value)) (E : Option Addr) (m mc : Nat) (w : World) (hq : QAt w A n c ps) (hby : n * 56 ≤ 140737488351232) (ht : TxtOk (ps.map (·.1))) (h1 : cliB cl fr = true) (h2 : cliB cl to = false) :
    Calls Try.prog 10 #[cfgV (.slice D dn dc) ch st cl qu clo lo ag wi ro se, .agg #[.int .u64 nx, .slice A n c], .int .i64 fr, .int .i64 to, .slice E m mc] w (IsQO w nx (ps.map (·.1)) (.int .i64 3)) := by
  obtain ⟨hn, hc, hm, hx⟩ := hq
  have hnm : (n : Int) ≤ 9223372036854775807 := by omega
  have HX := Lib.hid hx
  have HN := Lib.hid hn
  have HT := Lib.hid ht
  have HBY := Lib.hid hby
  have hcf := ((CfgAt.new w (.slice D dn dc) ch st cl qu clo lo ag wi ro se 25).alloc (.cells #[.int .u64 nx, .slice A n c] 28)).alloc (.cells #[.int .u64 0, .slice none 0 0] 28)
  have hr2 := At2.new ((w.alloc (.cells #[.slice D dn dc, .int .i64 ch, .int .i64 st, .int .i64 cl, .int .i64 qu, .int .i64 clo, .int .i64 lo, .int .i64 ag, .int .i64 wi, .int .u64 ro, .int .u64 se] 25)).alloc (.cells #[.int .u64 nx, .slice A n c] 28)) (.int .u64 0) (.slice none 0 0) 28
  simp only [World.size_alloc] at hr2
  have HCF := Lib.hid hcf
  have HR2 := Lib.hid hr2
  clear hcf hr2 hx hn ht hby hm
  go_enter Try.func10, Try.ntmps10
  go_wp2_with (first
    | (go_at_call 22; go_must (refine (copied_any nx A n c ps _ HN.out hc HBY.out (HX.out.below (bal (bal (bal brf _) _) _)) HT.out.of).mono ?_; rintro e w5 ⟨A5, c5, qs, rfl, hqs, hown5, hot5, hb5⟩; simp only [World.size_alloc] at hown5 hot5 hb5; have HQS := Lib.hid hqs; have HB5 := Lib.hid ((bal (bal (bal brf _) _) _ : Below w.heap.size w _).trans (hb5.mono (by omega))); have z5 : w.heap.size + 1 + 1 < w5.heap.size := by { have := hb5.size; simp only [World.size_alloc] at this; omega }; have z50 : w.heap.size < w5.heap.size := (by omega); have hk := HCF.out.below hb5 (by omega); have hr2 := HR2.out.below hb5 (by omega); have HP5 := Lib.hid (PB.start (nx := nx) z5 hk hr2 hown5 hot5); obtain ⟨k50, k51, k52, k53, k54, k55, k56, k57, k58, k59, k5x⟩ := hk; obtain ⟨a50, a51, e50, e51⟩ := hr2; have HBA := Lib.hid (bal HB5.out (.cells #[.int .u64 nx, .slice A5 n c5] 28)); clear hown5 hot5 hb5 hqs))
    | (go_at_call 23; go_must (refine (client_any _ _ _ _ _ _ _ _ _ _ _ _ _).mono ?_; rintro e w6 ⟨rfl, hb6⟩; have HP5 := Lib.hid (HP5.out.below hb6); have HBA := Lib.hid (bgo HBA.out hb6); clear hb6; obtain ⟨⟨z6a, z6b⟩, ⟨k60, k61, k62, k63, k64, k65, k66, k67, k68, k69, k6x⟩, ⟨a60, a61, e60, e61⟩, ⟨p60, p61, g60, g61⟩, _⟩ := HP5.out)))
  refine bodyPost_ret (v := .tuple #[.agg #[.int .u64 nx, .slice A5 n c5], .int .i64 3]) (by simp [results, Try.results10, go_sem, a60, a61, e60, e61]) rfl ⟨A5, n, c5, qs, rfl, HQS.out, put_done HP5.out _ _, put_below HBA.out _ _⟩

set_option maxHeartbeats 600000 in
theorem put_long (D : Option Addr) (dn dc : Nat) (ch st cl qu clo lo ag wi ro se : Int) (nx fr to : Int) (A : Option Addr) (n c : Nat) (ps : List (Ltr × Value)) (E : Option Addr) (m mc : Nat) (w : World) (hq : QAt w A n c ps) (hby : n * 56 ≤ 140737488351232) (ht : TxtOk (ps.map (·.1))) (h1 : cliB cl fr = true) (h2 : cliB cl to = true) (h3 : (64 : Int) < m) :
    Calls Try.prog 10 #[cfgV (.slice D dn dc) ch st cl qu clo lo ag wi ro se, .agg #[.int .u64 nx, .slice A n c], .int .i64 fr, .int .i64 to, .slice E m mc] w (IsQO w nx (ps.map (·.1)) (.int .i64 3)) := by
  obtain ⟨hn, hc, hm, hx⟩ := hq
  have hnm : (n : Int) ≤ 9223372036854775807 := by omega
  have HX := Lib.hid hx
  have HN := Lib.hid hn
  have HT := Lib.hid ht
  have HBY := Lib.hid hby
  have hcf := ((CfgAt.new w (.slice D dn dc) ch st cl qu clo lo ag wi ro se 25).alloc (.cells #[.int .u64 nx, .slice A n c] 28)).alloc (.cells #[.int .u64 0, .slice none 0 0] 28)
  have hr2 := At2.new ((w.alloc (.cells #[.slice D dn dc, .int .i64 ch, .int .i64 st, .int .i64 cl, .int .i64 qu, .int .i64 clo, .int .i64 lo, .int .i64 ag, .int .i64 wi, .int .u64 ro, .int .u64 se] 25)).alloc (.cells #[.int .u64 nx, .slice A n c] 28)) (.int .u64 0) (.slice none 0 0) 28
  simp only [World.size_alloc] at hr2
  have HCF := Lib.hid hcf
  have HR2 := Lib.hid hr2
  clear hcf hr2 hx hn ht hby hm
  go_enter Try.func10, Try.ntmps10
  go_wp2_with (first
    | (go_at_call 22; go_must (refine (copied_any nx A n c ps _ HN.out hc HBY.out (HX.out.below (bal (bal (bal brf _) _) _)) HT.out.of).mono ?_; rintro e w5 ⟨A5, c5, qs, rfl, hqs, hown5, hot5, hb5⟩; simp only [World.size_alloc] at hown5 hot5 hb5; have HQS := Lib.hid hqs; have HB5 := Lib.hid ((bal (bal (bal brf _) _) _ : Below w.heap.size w _).trans (hb5.mono (by omega))); have z5 : w.heap.size + 1 + 1 < w5.heap.size := by { have := hb5.size; simp only [World.size_alloc] at this; omega }; have z50 : w.heap.size < w5.heap.size := (by omega); have hk := HCF.out.below hb5 (by omega); have hr2 := HR2.out.below hb5 (by omega); have HP5 := Lib.hid (PB.start (nx := nx) z5 hk hr2 hown5 hot5); obtain ⟨k50, k51, k52, k53, k54, k55, k56, k57, k58, k59, k5x⟩ := hk; obtain ⟨a50, a51, e50, e51⟩ := hr2; have HBA := Lib.hid (bal HB5.out (.cells #[.int .u64 nx, .slice A5 n c5] 28)); clear hown5 hot5 hb5 hqs))
    | (go_at_call 23; go_must (refine (client_any _ _ _ _ _ _ _ _ _ _ _ _ _).mono ?_; rintro e w6 ⟨rfl, hb6⟩; have HP5 := Lib.hid (HP5.out.below hb6); have HBA := Lib.hid (bgo HBA.out hb6); clear hb6; obtain ⟨⟨z6a, z6b⟩, ⟨k60, k61, k62, k63, k64, k65, k66, k67, k68, k69, k6x⟩, ⟨a60, a61, e60, e61⟩, ⟨p60, p61, g60, g61⟩, _⟩ := HP5.out)))
  refine bodyPost_ret (v := .tuple #[.agg #[.int .u64 nx, .slice A5 n c5], .int .i64 3]) (by simp [results, Try.results10, go_sem, a60, a61, e60, e61]) rfl ⟨A5, n, c5, qs, rfl, HQS.out, put_done HP5.out _ _, put_below HBA.out _ _⟩

set_option maxHeartbeats 600000 in
theorem put_halts (D : Option Addr) (dn dc : Nat) (ch st cl qu clo lo ag wi ro se : Int) (nx fr to : Int) (A : Option Addr) (n c : Nat) (ps : List (Ltr × Value)) (E : Option Addr) (m mc : Nat) (w : World) (hq : QAt w A n c ps) (hby : n * 56 ≤ 140737488351232) (ht : TxtOk (ps.map (·.1))) (h1 : cliB cl fr = true) (h2 : cliB cl to = true) (h3 : ¬ (64 : Int) < m) (h4 : (nx == 18446744073709551615) = true) :
    Calls Try.prog 10 #[cfgV (.slice D dn dc) ch st cl qu clo lo ag wi ro se, .agg #[.int .u64 nx, .slice A n c], .int .i64 fr, .int .i64 to, .slice E m mc] w (IsQO w nx (ps.map (·.1)) (.int .i64 4)) := by
  obtain ⟨hn, hc, hm, hx⟩ := hq
  have hnm : (n : Int) ≤ 9223372036854775807 := by omega
  have HX := Lib.hid hx
  have HN := Lib.hid hn
  have HT := Lib.hid ht
  have HBY := Lib.hid hby
  have hcf := ((CfgAt.new w (.slice D dn dc) ch st cl qu clo lo ag wi ro se 25).alloc (.cells #[.int .u64 nx, .slice A n c] 28)).alloc (.cells #[.int .u64 0, .slice none 0 0] 28)
  have hr2 := At2.new ((w.alloc (.cells #[.slice D dn dc, .int .i64 ch, .int .i64 st, .int .i64 cl, .int .i64 qu, .int .i64 clo, .int .i64 lo, .int .i64 ag, .int .i64 wi, .int .u64 ro, .int .u64 se] 25)).alloc (.cells #[.int .u64 nx, .slice A n c] 28)) (.int .u64 0) (.slice none 0 0) 28
  simp only [World.size_alloc] at hr2
  have HCF := Lib.hid hcf
  have HR2 := Lib.hid hr2
  clear hcf hr2 hx hn ht hby hm
  go_enter Try.func10, Try.ntmps10
  go_wp2_with (first
    | (go_at_call 22; go_must (refine (copied_any nx A n c ps _ HN.out hc HBY.out (HX.out.below (bal (bal (bal brf _) _) _)) HT.out.of).mono ?_; rintro e w5 ⟨A5, c5, qs, rfl, hqs, hown5, hot5, hb5⟩; simp only [World.size_alloc] at hown5 hot5 hb5; have HQS := Lib.hid hqs; have HB5 := Lib.hid ((bal (bal (bal brf _) _) _ : Below w.heap.size w _).trans (hb5.mono (by omega))); have z5 : w.heap.size + 1 + 1 < w5.heap.size := by { have := hb5.size; simp only [World.size_alloc] at this; omega }; have z50 : w.heap.size < w5.heap.size := (by omega); have hk := HCF.out.below hb5 (by omega); have hr2 := HR2.out.below hb5 (by omega); have HP5 := Lib.hid (PB.start (nx := nx) z5 hk hr2 hown5 hot5); obtain ⟨k50, k51, k52, k53, k54, k55, k56, k57, k58, k59, k5x⟩ := hk; obtain ⟨a50, a51, e50, e51⟩ := hr2; have HBA := Lib.hid (bal HB5.out (.cells #[.int .u64 nx, .slice A5 n c5] 28)); clear hown5 hot5 hb5 hqs))
    | (go_at_call 23; go_must (refine (client_any _ _ _ _ _ _ _ _ _ _ _ _ _).mono ?_; rintro e w6 ⟨rfl, hb6⟩; have HP5 := Lib.hid (HP5.out.below hb6); have HBA := Lib.hid (bgo HBA.out hb6); clear hb6; obtain ⟨⟨z6a, z6b⟩, ⟨k60, k61, k62, k63, k64, k65, k66, k67, k68, k69, k6x⟩, ⟨a60, a61, e60, e61⟩, ⟨p60, p61, g60, g61⟩, _⟩ := HP5.out)))
  refine bodyPost_ret (v := .tuple #[.agg #[.int .u64 nx, .slice A5 n c5], .int .i64 4]) (by simp [results, Try.results10, go_sem, a60, a61, e60, e61]) rfl ⟨A5, n, c5, qs, rfl, HQS.out, put_done HP5.out _ _, put_below HBA.out _ _⟩

set_option maxHeartbeats 600000 in
theorem put_full (D : Option Addr) (dn dc : Nat) (ch st cl qu clo lo ag wi ro se : Int) (nx fr to : Int) (A : Option Addr) (n c : Nat) (ps : List (Ltr × Value)) (E : Option Addr) (m mc : Nat) (w : World) (hq : QAt w A n c ps) (hby : n * 56 ≤ 140737488351232) (ht : TxtOk (ps.map (·.1))) (h1 : cliB cl fr = true) (h2 : cliB cl to = true) (h3 : ¬ (64 : Int) < m) (h4 : (nx == 18446744073709551615) = false) (h5 : qu ≤ (n : Int)) :
    Calls Try.prog 10 #[cfgV (.slice D dn dc) ch st cl qu clo lo ag wi ro se, .agg #[.int .u64 nx, .slice A n c], .int .i64 fr, .int .i64 to, .slice E m mc] w (IsQO w nx (ps.map (·.1)) (.int .i64 2)) := by
  obtain ⟨hn, hc, hm, hx⟩ := hq
  have hnm : (n : Int) ≤ 9223372036854775807 := by omega
  have HX := Lib.hid hx
  have HN := Lib.hid hn
  have HT := Lib.hid ht
  have HBY := Lib.hid hby
  have hcf := ((CfgAt.new w (.slice D dn dc) ch st cl qu clo lo ag wi ro se 25).alloc (.cells #[.int .u64 nx, .slice A n c] 28)).alloc (.cells #[.int .u64 0, .slice none 0 0] 28)
  have hr2 := At2.new ((w.alloc (.cells #[.slice D dn dc, .int .i64 ch, .int .i64 st, .int .i64 cl, .int .i64 qu, .int .i64 clo, .int .i64 lo, .int .i64 ag, .int .i64 wi, .int .u64 ro, .int .u64 se] 25)).alloc (.cells #[.int .u64 nx, .slice A n c] 28)) (.int .u64 0) (.slice none 0 0) 28
  simp only [World.size_alloc] at hr2
  have HCF := Lib.hid hcf
  have HR2 := Lib.hid hr2
  clear hcf hr2 hx hn ht hby hm
  go_enter Try.func10, Try.ntmps10
  go_wp2_with (first
    | (go_at_call 22; go_must (refine (copied_any nx A n c ps _ HN.out hc HBY.out (HX.out.below (bal (bal (bal brf _) _) _)) HT.out.of).mono ?_; rintro e w5 ⟨A5, c5, qs, rfl, hqs, hown5, hot5, hb5⟩; simp only [World.size_alloc] at hown5 hot5 hb5; have HQS := Lib.hid hqs; have HB5 := Lib.hid ((bal (bal (bal brf _) _) _ : Below w.heap.size w _).trans (hb5.mono (by omega))); have z5 : w.heap.size + 1 + 1 < w5.heap.size := by { have := hb5.size; simp only [World.size_alloc] at this; omega }; have z50 : w.heap.size < w5.heap.size := (by omega); have hk := HCF.out.below hb5 (by omega); have hr2 := HR2.out.below hb5 (by omega); have HP5 := Lib.hid (PB.start (nx := nx) z5 hk hr2 hown5 hot5); obtain ⟨k50, k51, k52, k53, k54, k55, k56, k57, k58, k59, k5x⟩ := hk; obtain ⟨a50, a51, e50, e51⟩ := hr2; have HBA := Lib.hid (bal HB5.out (.cells #[.int .u64 nx, .slice A5 n c5] 28)); clear hown5 hot5 hb5 hqs))
    | (go_at_call 23; go_must (refine (client_any _ _ _ _ _ _ _ _ _ _ _ _ _).mono ?_; rintro e w6 ⟨rfl, hb6⟩; have HP5 := Lib.hid (HP5.out.below hb6); have HBA := Lib.hid (bgo HBA.out hb6); clear hb6; obtain ⟨⟨z6a, z6b⟩, ⟨k60, k61, k62, k63, k64, k65, k66, k67, k68, k69, k6x⟩, ⟨a60, a61, e60, e61⟩, ⟨p60, p61, g60, g61⟩, _⟩ := HP5.out)))
  refine bodyPost_ret (v := .tuple #[.agg #[.int .u64 nx, .slice A5 n c5], .int .i64 2]) (by simp [results, Try.results10, go_sem, a60, a61, e60, e61]) rfl ⟨A5, n, c5, qs, rfl, HQS.out, put_done HP5.out _ _, put_below HBA.out _ _⟩

end Go.Proofs.Ytfgkeodkakidpaa
