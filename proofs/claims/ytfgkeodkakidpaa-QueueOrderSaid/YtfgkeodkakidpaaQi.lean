/- Contracts of the document's Put. -/
import Derived.Test.YtfgkeodkakidpaaQh
namespace Go.Proofs.Ytfgkeodkakidpaa
open Go.RowKit
set_option linter.unusedSimpArgs false
set_option linter.unusedVariables false
set_option maxRecDepth 100000

theorem cli_yes {cl n : Int} (h : cliB cl n = true) : ¬ n < 0 ∧ ¬ cl ≤ n := by
  simp [cliB] at h; omega
theorem cli_no {cl n : Int} (h : cliB cl n = false) : n < 0 ∨ (¬ n < 0 ∧ cl ≤ n) := by
  simp [cliB] at h
  by_cases h0 : n < 0
  · exact .inl h0
  · exact .inr ⟨h0, h (by omega)⟩

section
variable (D : Option Addr) (dn dc : Nat) (ch st cl qu clo lo ag wi ro se : Int) (nx fr to : Int) (A : Option Addr) (n c : Nat) (ps : List (Ltr × Value)) (E : Option Addr) (m mc : Nat) (w : World)
set_option maxHeartbeats 1000000 in
theorem rput_rejects (hq : QAt w A n c ps) (h : cliB cl fr = false ∨ (cliB cl fr = true ∧ cliB cl to = false) ∨ (cliB cl fr = true ∧ cliB cl to = true ∧ (64 : Int) < m)) :
    Calls Try.prog 12 #[cfgV (.slice D dn dc) ch st cl qu clo lo ag wi ro se, .agg #[.int .u64 nx, .slice A n c], .int .i64 fr, .int .i64 to, .slice E m mc] w (IsQ w nx (ps.map (·.1)) (.int .i64 3)) := by
  have HQ := Lib.hid (hq.below (bal (bal (bal brf (.cells #[.slice D dn dc, .int .i64 ch, .int .i64 st, .int .i64 cl, .int .i64 qu, .int .i64 clo, .int .i64 lo, .int .i64 ag, .int .i64 wi, .int .u64 ro, .int .u64 se] 25)) (.cells #[.int .u64 nx, .slice A n c] 28)) (.cells #[.int .u64 nx, .slice A n c] 28)))
  clear hq
  rcases h with h | ⟨h, h'⟩ | ⟨h, h', h''⟩
  · rcases cli_no h with a | ⟨a, b⟩
    all_goals
      go_enter Try.func12, Try.ntmps12
      go_wp2_with fail
      exact bodyPost_ret (v := .tuple #[.agg #[.int .u64 nx, .slice A n c], .int .i64 3]) (by simp [results, Try.results12, go_sem]) rfl ⟨A, n, c, ps, rfl, rfl, HQ.out, bal (bal (bal brf _) _) _⟩
  · obtain ⟨a1, a2⟩ := cli_yes h
    rcases cli_no h' with a | ⟨a, b⟩
    all_goals
      go_enter Try.func12, Try.ntmps12
      go_wp2_with fail
      exact bodyPost_ret (v := .tuple #[.agg #[.int .u64 nx, .slice A n c], .int .i64 3]) (by simp [results, Try.results12, go_sem]) rfl ⟨A, n, c, ps, rfl, rfl, HQ.out, bal (bal (bal brf _) _) _⟩
  · obtain ⟨a1, a2⟩ := cli_yes h
    obtain ⟨a3, a4⟩ := cli_yes h'
    go_enter Try.func12, Try.ntmps12
    go_wp2_with fail
    exact bodyPost_ret (v := .tuple #[.agg #[.int .u64 nx, .slice A n c], .int .i64 3]) (by simp [results, Try.results12, go_sem]) rfl ⟨A, n, c, ps, rfl, rfl, HQ.out, bal (bal (bal brf _) _) _⟩

set_option maxHeartbeats 1000000 in
theorem rput_halts (hq : QAt w A n c ps) (h1 : cliB cl fr = true) (h2 : cliB cl to = true) (h3 : ¬ (64 : Int) < m) (h4 : (nx == 18446744073709551615) = true) :
    Calls Try.prog 12 #[cfgV (.slice D dn dc) ch st cl qu clo lo ag wi ro se, .agg #[.int .u64 nx, .slice A n c], .int .i64 fr, .int .i64 to, .slice E m mc] w (IsQ w nx (ps.map (·.1)) (.int .i64 4)) := by
  have HQ := Lib.hid (hq.below (bal (bal (bal brf (.cells #[.slice D dn dc, .int .i64 ch, .int .i64 st, .int .i64 cl, .int .i64 qu, .int .i64 clo, .int .i64 lo, .int .i64 ag, .int .i64 wi, .int .u64 ro, .int .u64 se] 25)) (.cells #[.int .u64 nx, .slice A n c] 28)) (.cells #[.int .u64 nx, .slice A n c] 28)))
  clear hq
  obtain ⟨a1, a2⟩ := cli_yes h1
  obtain ⟨a3, a4⟩ := cli_yes h2
  go_enter Try.func12, Try.ntmps12
  go_wp2_with fail
  exact bodyPost_ret (v := .tuple #[.agg #[.int .u64 nx, .slice A n c], .int .i64 4]) (by simp [results, Try.results12, go_sem]) rfl ⟨A, n, c, ps, rfl, rfl, HQ.out, bal (bal (bal brf _) _) _⟩

set_option maxHeartbeats 1000000 in
theorem rput_full (hq : QAt w A n c ps) (hby : n * 56 ≤ 140737488351232) (h1 : cliB cl fr = true) (h2 : cliB cl to = true) (h3 : ¬ (64 : Int) < m) (h4 : (nx == 18446744073709551615) = false) (h5 : qu ≤ (n : Int)) :
    Calls Try.prog 12 #[cfgV (.slice D dn dc) ch st cl qu clo lo ag wi ro se, .agg #[.int .u64 nx, .slice A n c], .int .i64 fr, .int .i64 to, .slice E m mc] w (IsQ w nx (ps.map (·.1)) (.int .i64 2)) := by
  have HQ := Lib.hid (hq.below (bal (bal (bal brf (.cells #[.slice D dn dc, .int .i64 ch, .int .i64 st, .int .i64 cl, .int .i64 qu, .int .i64 clo, .int .i64 lo, .int .i64 ag, .int .i64 wi, .int .u64 ro, .int .u64 se] 25)) (.cells #[.int .u64 nx, .slice A n c] 28)) (.cells #[.int .u64 nx, .slice A n c] 28)))
  have hnm : (n : Int) ≤ 9223372036854775807 := by omega
  clear hq hby
  obtain ⟨a1, a2⟩ := cli_yes h1
  obtain ⟨a3, a4⟩ := cli_yes h2
  go_enter Try.func12, Try.ntmps12
  go_wp2_with fail
  exact bodyPost_ret (v := .tuple #[.agg #[.int .u64 nx, .slice A n c], .int .i64 2]) (by simp [results, Try.results12, go_sem]) rfl ⟨A, n, c, ps, rfl, rfl, HQ.out, bal (bal (bal brf _) _) _⟩
end

/-- The queue's box and the letter's, as they stand. -/
abbrev QLA (x : World) (Q L : Nat) (nx : Int) (v : Value) (fr to : Int) (u : Value) : Prop :=
  (x.cell? ⟨Q, 0, none⟩ = some (.int .u64 nx) ∧ x.cell? ⟨Q, 1, none⟩ = some v) ∧
  x.cell? ⟨L, 0, none⟩ = some (.bool false) ∧ x.cell? ⟨L, 1, none⟩ = some (.int .i64 fr) ∧ x.cell? ⟨L, 2, none⟩ = some (.int .i64 to) ∧ x.cell? ⟨L, 3, none⟩ = some (.int .u64 nx) ∧ x.cell? ⟨L, 4, none⟩ = some u
theorem qla_of {x : World} {Q L : Nat} {nx fr to : Int} {v u : Value} (h1 : At2 x Q (.int .u64 nx) v) (h2 : At5 x L (.bool false) (.int .i64 fr) (.int .i64 to) (.int .u64 nx) u) : QLA x Q L nx v fr to u :=
  ⟨⟨h1.1, h1.2.1⟩, h2.1⟩
theorem qla_alloc {x : World} {o : Obj} {Q L : Nat} {nx fr to : Int} {v u : Value} (h : QLA x Q L nx v fr to u) : QLA (x.alloc o) Q L nx v fr to u := by
  obtain ⟨⟨h0, h1⟩, h2, h3, h4, h5, h6⟩ := h
  exact ⟨⟨(World.cell?_alloc_lt _ _ _ (cell_lt h0)).trans h0, (World.cell?_alloc_lt _ _ _ (cell_lt h1)).trans h1⟩, (World.cell?_alloc_lt _ _ _ (cell_lt h2)).trans h2, (World.cell?_alloc_lt _ _ _ (cell_lt h3)).trans h3, (World.cell?_alloc_lt _ _ _ (cell_lt h4)).trans h4, (World.cell?_alloc_lt _ _ _ (cell_lt h5)).trans h5, (World.cell?_alloc_lt _ _ _ (cell_lt h6)).trans h6⟩
theorem qla_set {x : World} {Q L R : Nat} {nx fr to : Int} {v u u0 u1 : Value} (h : QLA x Q L nx v fr to u) (hQ : R ≠ Q) (hL : R ≠ L) : QLA ((x.setCell ⟨R, 0, none⟩ u0).setCell ⟨R, 1, none⟩ u1) Q L nx v fr to u := by
  obtain ⟨⟨h0, h1⟩, h2, h3, h4, h5, h6⟩ := h
  have k : ∀ {i j b : Nat} {y : Value}, R ≠ b → x.cell? ⟨b, i, none⟩ = some y → ((x.setCell ⟨R, 0, none⟩ u0).setCell ⟨R, 1, none⟩ u1).cell? ⟨b, i, none⟩ = some y := fun hb hy => (cell_setCell_far hb).trans ((cell_setCell_far hb).trans hy)
  exact ⟨⟨k (j := 0) hQ h0, k (j := 0) hQ h1⟩, k (j := 0) hL h2, k (j := 0) hL h3, k (j := 0) hL h4, k (j := 0) hL h5, k (j := 0) hL h6⟩
theorem held2_alloc {x : World} {o : Obj} {Q : Nat} {u v : Value} (h : x.cell? ⟨Q, 0, none⟩ = some u ∧ x.cell? ⟨Q, 1, none⟩ = some v) : (x.alloc o).cell? ⟨Q, 0, none⟩ = some u ∧ (x.alloc o).cell? ⟨Q, 1, none⟩ = some v :=
  ⟨(World.cell?_alloc_lt _ _ _ (cell_lt h.1)).trans h.1, (World.cell?_alloc_lt _ _ _ (cell_lt h.2)).trans h.2⟩

theorem set5 {x : World} {L : Nat} {u0 u1 u2 u3 u4 : Value} {b i : Nat} (hb : L ≠ b) : (((((x.setCell ⟨L, 0, none⟩ u0).setCell ⟨L, 1, none⟩ u1).setCell ⟨L, 2, none⟩ u2).setCell ⟨L, 3, none⟩ u3).setCell ⟨L, 4, none⟩ u4).cell? ⟨b, i, none⟩ = x.cell? ⟨b, i, none⟩ :=
  (cell_setCell_far hb).trans ((cell_setCell_far hb).trans ((cell_setCell_far hb).trans ((cell_setCell_far hb).trans (cell_setCell_far hb))))
theorem held2_set5 {x : World} {Q L : Nat} {u v u0 u1 u2 u3 u4 : Value} (h : x.cell? ⟨Q, 0, none⟩ = some u ∧ x.cell? ⟨Q, 1, none⟩ = some v) (hb : L ≠ Q) :
    (((((x.setCell ⟨L, 0, none⟩ u0).setCell ⟨L, 1, none⟩ u1).setCell ⟨L, 2, none⟩ u2).setCell ⟨L, 3, none⟩ u3).setCell ⟨L, 4, none⟩ u4).cell? ⟨Q, 0, none⟩ = some u ∧ (((((x.setCell ⟨L, 0, none⟩ u0).setCell ⟨L, 1, none⟩ u1).setCell ⟨L, 2, none⟩ u2).setCell ⟨L, 3, none⟩ u3).setCell ⟨L, 4, none⟩ u4).cell? ⟨Q, 1, none⟩ = some v :=
  ⟨(set5 hb).trans h.1, (set5 hb).trans h.2⟩
/-- What stands ahead of the second statement. -/
def PR (w x : World) (L : Nat) (nx : Int) (v : Value) (fr to : Int) (E4 : Option Addr) (c4 : Nat) (xs : List Int) : Prop :=
  (w.heap.size + 1 + 1 < L ∧ L < x.heap.size) ∧ At2 x (w.heap.size + 1) (.int .u64 nx) v ∧ At2 x (w.heap.size + 1 + 1) (.int .u64 0) (.slice none 0 0) ∧ At5 x L (.bool false) (.int .i64 fr) (.int .i64 to) (.int .u64 nx) (.slice E4 xs.length c4) ∧
  x.ownsRow (w.heap.size + 3) 5 1 (.slice E4 xs.length c4) xs.length (nums .u8 xs) ∧ Below w.heap.size w x
theorem pr_set {w w4 : World} {nx fr to : Int} {v : Value} {E4 : Option Addr} {c4 : Nat} {xs : List Int} (z : w.heap.size + 4 ≤ w4.heap.size) (hq : At2 w4 (w.heap.size + 1) (.int .u64 nx) v) (hr : At2 w4 (w.heap.size + 1 + 1) (.int .u64 0) (.slice none 0 0))
    (hl : At5 w4 (w.heap.size + 1 + 1 + 1) (.bool false) (.int .i64 0) (.int .i64 0) (.int .u64 0) (.slice none 0 0)) (ho : w4.ownsRow (w.heap.size + 4) 5 1 (.slice E4 xs.length c4) xs.length (nums .u8 xs)) (hb : Below w.heap.size w w4) :
    PR w (((((w4.setCell ⟨w.heap.size + 1 + 1 + 1, 0, none⟩ (.bool false)).setCell ⟨w.heap.size + 1 + 1 + 1, 1, none⟩ (.int .i64 fr)).setCell ⟨w.heap.size + 1 + 1 + 1, 2, none⟩ (.int .i64 to)).setCell ⟨w.heap.size + 1 + 1 + 1, 3, none⟩ (.int .u64 nx)).setCell ⟨w.heap.size + 1 + 1 + 1, 4, none⟩ (.slice E4 xs.length c4)) (w.heap.size + 1 + 1 + 1) nx v fr to E4 c4 xs := by
  obtain ⟨⟨l0, l1, l2, l3, l4⟩, f0, f1, f2, f3, f4⟩ := hl
  refine ⟨⟨by omega, by simp only [size_setCell]; omega⟩, ⟨?_, ?_, ?_, ?_⟩, ⟨?_, ?_, ?_, ?_⟩, ⟨⟨?_, ?_, ?_, ?_, ?_⟩, ?_, ?_, ?_, ?_, ?_⟩, ?_, ?_⟩
  · exact (set5 (by omega)).trans hq.1
  · exact (set5 (by omega)).trans hq.2.1
  · simpa only [World.frozen?_setCell] using hq.2.2.1
  · simpa only [World.frozen?_setCell] using hq.2.2.2
  · exact (set5 (by omega)).trans hr.1
  · exact (set5 (by omega)).trans hr.2.1
  · simpa only [World.frozen?_setCell] using hr.2.2.1
  · simpa only [World.frozen?_setCell] using hr.2.2.2
  · exact (cell_setCell_off (by omega)).trans ((cell_setCell_off (by omega)).trans ((cell_setCell_off (by omega)).trans ((cell_setCell_off (by omega)).trans (cell_setCell_eq l0))))
  · exact (cell_setCell_off (by omega)).trans ((cell_setCell_off (by omega)).trans ((cell_setCell_off (by omega)).trans (cell_setCell_eq ((cell_setCell_off (by omega)).trans l1))))
  · exact (cell_setCell_off (by omega)).trans ((cell_setCell_off (by omega)).trans (cell_setCell_eq ((cell_setCell_off (by omega)).trans ((cell_setCell_off (by omega)).trans l2))))
  · exact (cell_setCell_off (by omega)).trans (cell_setCell_eq ((cell_setCell_off (by omega)).trans ((cell_setCell_off (by omega)).trans ((cell_setCell_off (by omega)).trans l3))))
  · exact cell_setCell_eq ((cell_setCell_off (by omega)).trans ((cell_setCell_off (by omega)).trans ((cell_setCell_off (by omega)).trans ((cell_setCell_off (by omega)).trans l4))))
  · simpa only [World.frozen?_setCell] using f0
  · simpa only [World.frozen?_setCell] using f1
  · simpa only [World.frozen?_setCell] using f2
  · simpa only [World.frozen?_setCell] using f3
  · simpa only [World.frozen?_setCell] using f4
  · refine own_mono (b := w.heap.size + 4) ?_ (by omega)
    iterate 5 refine own_setCell ?_ (by show w.heap.size + 1 + 1 + 1 < w.heap.size + 4; omega)
    exact ho
  · iterate 5 refine Below.setCell ?_ (by show w.heap.size ≤ w.heap.size + 1 + 1 + 1; omega) _
    exact hb

end Go.Proofs.Ytfgkeodkakidpaa
