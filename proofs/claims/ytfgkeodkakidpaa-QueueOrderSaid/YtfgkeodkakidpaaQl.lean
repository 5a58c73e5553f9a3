/- The law of what is taken out. -/
import Derived.Test.YtfgkeodkakidpaaQk
import Derived.IntWalk
namespace Go.Proofs.Ytfgkeodkakidpaa
open Go.RowKit
set_option linter.unusedSimpArgs false
set_option linter.unusedVariables false
set_option maxRecDepth 100000

theorem at2_later {x w1 : World} {b : Nat} {u v : Value} (h : At2 x b u v) (hb : Below x.heap.size x w1) : At2 w1 b u v := h.later hb
theorem at5_later {x w1 : World} {b : Nat} {v0 v1 v2 v3 v4 : Value} (h : At5 x b v0 v1 v2 v3 v4) (hb : Below x.heap.size x w1) : At5 w1 b v0 v1 v2 v3 v4 := h.below hb (cell_lt h.1.1)
theorem cfg_later {x w1 : World} {b : Nat} {s : Value} {ch st cl qu clo lo ag wi ro se : Int} (h : CfgAt x b s ch st cl qu clo lo ag wi ro se) (hb : Below x.heap.size x w1) : CfgAt w1 b s ch st cl qu clo lo ag wi ro se := h.below hb (cell_lt h.1)
theorem QAt.len {w : World} {A : Option Addr} {n c : Nat} {ps : List (Ltr × Value)} (h : QAt w A n c ps) : (ps.map (·.1)).length = n := by rw [List.length_map]; exact h.1
theorem own5_new (w : World) (v0 v1 v2 v3 v4 : Value) : (w.alloc (.cells #[v0, v1, v2, v3, v4] 36)).ownsRow w.heap.size 36 5 (.slice (some ⟨w.heap.size, 0, none⟩) 1 1) 1 [v0, v1, v2, v3, v4] :=
  ⟨rfl, .inr ⟨w.heap.size, 1, #[v0, v1, v2, v3, v4], rfl, Nat.le_refl _, World.alloc_heap_new w _, Nat.le_refl _, by unfold maxLen; omega, rfl, rfl⟩⟩

/-- The same, behind a guard that lets it by. -/
theorem step_append_szg {P : Program} {ops : Array Oper} {o : Oper} {a : Act} {w : World} {K : Act → World → Prop} {Q : Exit → Act → World → Prop} {E : Prop} (hgd : Region.wanted o (yielded ops a.tmps) = true) (s x : Operand) (t : TypeId)
    (ho : o.op = .call { callee := .builtin .append, args := #[s, x], argTypes := #[t, t] })
    (base : Nat) (e : TypeId) (i : TypeInfo) (z : Value) (size bytes : Nat) (ht : P.underlying t = some (.slice e)) (hi : P.info? e = some i) (hz : i.zero = some z)
    (hsize : i.size = size) (hby : i.bytes = bytes) (hzs : z.cells.size = size) (hsz : 0 < size)
    (v : Value) (k : Nat) (xs : List Value) (hs : a.eval s = v) (hown : w.ownsRow base e size v k xs)
    (A : Option Addr) (n c : Nat) (ys : List Value) (hx : a.eval x = .slice A n c) (hn : ys.length = n * size) (hr : Rd w A ys) (hy : ∀ u ∈ ys, u.oneCell' = true)
    (h63 : k + n ≤ maxLen) (hbytes : (k + n) * bytes ≤ 140737488355328) (hbase : base ≤ w.heap.size)
    (h : ∀ v' w', w'.ownsRow base e size v' (k + n) (xs ++ ys) → w.grownBy w' v.ownBlock → K (a.put o.dst v') w') :
    if Region.wanted o (yielded ops a.tmps) = true then Oper.wp P o a w K Q else E := by
  rw [if_pos hgd]
  obtain ⟨v', w', hrun, h2, h3⟩ := run_append_sz (P := P) w t o.type base e i z size bytes ht hi hz hsize hby hzs hsz v k xs hown A n c ys hn hr hy h63 hbytes hbase
  unfold Oper.wp execOp
  simp only [ho, resolve, invoke, builtin, Sem.run_bind, Sem.run_pure, Result.andThen_ok, List.map_toArray, List.map_cons, List.map_nil, hs, hx, hrun]
  exact h v' w' h2 h3
theorem own5_newH {K : Nat} (w : World) (v0 v1 v2 v3 v4 : Value) (h : w.heap.size = K) : (w.alloc (.cells #[v0, v1, v2, v3, v4] 36)).ownsRow K 36 5 (.slice (some ⟨K, 0, none⟩) 1 1) 1 [v0, v1, v2, v3, v4] := by
  subst h; exact own5_new w v0 v1 v2 v3 v4
/-- Two queues' boxes, and a letter's. -/
abbrev PLQ (x : World) (q l p : Nat) (nx : Int) (qv : Value) (t : Ltr) (tv pv : Value) : Prop :=
  (x.cell? ⟨q, 0, none⟩ = some (.int .u64 nx) ∧ x.cell? ⟨q, 1, none⟩ = some qv) ∧
  (x.cell? ⟨l, 0, none⟩ = some (.bool t.1) ∧ x.cell? ⟨l, 1, none⟩ = some (.int .i64 t.2.1) ∧ x.cell? ⟨l, 2, none⟩ = some (.int .i64 t.2.2.1) ∧ x.cell? ⟨l, 3, none⟩ = some (.int .u64 t.2.2.2.1) ∧ x.cell? ⟨l, 4, none⟩ = some tv) ∧
  (x.cell? ⟨p, 0, none⟩ = some (.int .u64 nx) ∧ x.cell? ⟨p, 1, none⟩ = some pv)
theorem plq_of {x : World} {q l p : Nat} {nx : Int} {qv tv pv : Value} {t : Ltr} (h1 : At2 x q (.int .u64 nx) qv) (h2 : At5 x l (.bool t.1) (.int .i64 t.2.1) (.int .i64 t.2.2.1) (.int .u64 t.2.2.2.1) tv) (h3 : At2 x p (.int .u64 nx) pv) : PLQ x q l p nx qv t tv pv :=
  ⟨⟨h1.1, h1.2.1⟩, h2.1, h3.1, h3.2.1⟩
theorem plq_below {x y : World} {B q l p : Nat} {nx : Int} {qv tv pv : Value} {t : Ltr} (h : PLQ x q l p nx qv t tv pv) (hb : Below B x y) (hq : q < B) (hl : l < B) (hp : p < B) : PLQ y q l p nx qv t tv pv := by
  obtain ⟨⟨a, b⟩, ⟨c, d, e, f, g⟩, i, j⟩ := h
  have k : ∀ {b i : Nat} {v : Value}, b < B → x.cell? ⟨b, i, none⟩ = some v → y.cell? ⟨b, i, none⟩ = some v := fun hl hv => (hb.cell (p := ⟨_, _, none⟩) hl).trans hv
  exact ⟨⟨k hq a, k hq b⟩, ⟨k hl c, k hl d, k hl e, k hl f, k hl g⟩, k hp i, k hp j⟩
theorem plq_alloc {x : World} {o : Obj} {q l p : Nat} {nx : Int} {qv tv pv : Value} {t : Ltr} (h : PLQ x q l p nx qv t tv pv) : PLQ (x.alloc o) q l p nx qv t tv pv :=
  plq_below h (bal brf o) (cell_lt h.1.1) (cell_lt h.2.1.1) (cell_lt h.2.2.1)
theorem cons_at {w4 w7 : World} {base n c4 c7 : Nat} {A4 A7 : Option Addr} {l : Ltr} {v : Value} {qs : List (Ltr × Value)} (h : w7.ownsRow base 36 5 (.slice A7 (n + 1) c7) (n + 1) ([.bool l.1, .int .i64 l.2.1, .int .i64 l.2.2.1, .int .u64 l.2.2.2.1, v] ++ flat qs)) (hq : QAt w4 A4 n c4 qs) (hb : Below w4.heap.size w4 w7) (hp : Part w7 v (txt l)) : QAt w7 A7 (n + 1) c7 ((l, v) :: qs) := by
  refine ⟨by simp [hq.1], (own_capN h).1, (own_capN h).2, Rd.of_ownN h, fun p hp' => ?_⟩
  rcases List.mem_cons.1 hp' with rfl | hp'
  · exact hp
  · exact (hq.2.2.2.2 p hp').below hb

set_option maxHeartbeats 600000 in
theorem queuePops_none (nx seq : Int) (A : Option Addr) (n c : Nat) (w : World) (hq : QAt w A n c ([] : List (Ltr × Value))) (hby : n * 56 ≤ 140737488351232) (ht : TxtOk (([] : List (Ltr × Value)).map (·.1))) :
    Calls Try.prog 6 #[.agg #[.int .u64 nx, .slice A n c], .int .u64 seq] w (Yes w) := by
  obtain rfl : n = 0 := hq.1.symm
  have HQ0 := Lib.hid hq
  have HT := Lib.hid ht
  have HBY := Lib.hid hby
  have HXq0 := Lib.hid (At2.new w (.int .u64 nx) (.slice A (0) c) 28)
  have HB0 := Lib.hid (brf (w := w))
  clear hq ht hby
  go_enter Try.func6, Try.ntmps6
  go_wp2_with fail
  refine (live_any _).mono ?_
  rintro e w1 ⟨rfl, hb⟩
  have HB1 : Hid (Below w.heap.size w w1) := Lib.hid (by first | exact bgo HB0.out hb | exact bgo (bal HB0.out _) hb | exact bgo (bal (bal HB0.out _) _) hb | exact bgo (bdr HB0.out) hb)
  have HXq1 := Lib.hid (at2_later (w1 := w1) HXq0.out (by first | exact hb | exact (bal brf _ : Below _ _ _).trans (hb.mono (by simp)) | exact (bal (bal brf _) _ : Below _ _ _).trans (hb.mono (by simp)) | exact (bdr brf : Below _ _ _).trans hb))
  clear hb
  obtain ⟨bq0, bq1, fq0, fq1⟩ := HXq1.out
  have zq := cell_lt bq0
  go_wp2_with fail
  refine (few_any nx A (0) c _ _ HQ0.out.1 HQ0.out.2.1 HQ0.out.2.2.1 (HQ0.out.below HB1.out).2.2.2).mono ?_
  rintro e w2 ⟨b, rfl, hb⟩
  clear bq0 bq1 fq0 fq1 zq
  have HB2 : Hid (Below w.heap.size w w2) := Lib.hid (by first | exact bgo HB1.out hb | exact bgo (bal HB1.out _) hb | exact bgo (bal (bal HB1.out _) _) hb | exact bgo (bdr HB1.out) hb)
  have HXq2 := Lib.hid (at2_later (w1 := w2) HXq1.out (by first | exact hb | exact (bal brf _ : Below _ _ _).trans (hb.mono (by simp)) | exact (bal (bal brf _) _ : Below _ _ _).trans (hb.mono (by simp)) | exact (bdr brf : Below _ _ _).trans hb))
  clear hb
  obtain ⟨bq0, bq1, fq0, fq1⟩ := HXq2.out
  have zq := cell_lt bq0
  cases b
  · go_wp2_with fail
    go_ret
    exact ⟨rfl, HB2.out⟩
  go_wp2_with fail
  refine (head_none nx A c _).mono ?_
  rintro e w3 ⟨rfl, hb⟩
  clear bq0 bq1 fq0 fq1 zq
  have HB3 : Hid (Below w.heap.size w w3) := Lib.hid (by first | exact bgo HB2.out hb | exact bgo (bal HB2.out _) hb | exact bgo (bal (bal HB2.out _) _) hb | exact bgo (bdr HB2.out) hb)
  have HXq3 := Lib.hid (at2_later (w1 := w3) HXq2.out (by first | exact hb | exact (bal brf _ : Below _ _ _).trans (hb.mono (by simp)) | exact (bal (bal brf _) _ : Below _ _ _).trans (hb.mono (by simp)) | exact (bdr brf : Below _ _ _).trans hb))
  clear hb
  obtain ⟨bq0, bq1, fq0, fq1⟩ := HXq3.out
  have zq := cell_lt bq0
  go_wp2_with fail
  refine (pop_none nx seq A c _).mono ?_
  rintro e w4 ⟨A4, n4, c4, qs4, rfl, hm4, hq4, hb⟩
  clear bq0 bq1 fq0 fq1 zq
  have HB4 : Hid (Below w.heap.size w w4) := Lib.hid (by first | exact bgo HB3.out hb | exact bgo (bal HB3.out _) hb | exact bgo (bal (bal HB3.out _) _) hb | exact bgo (bdr HB3.out) hb)
  have HXq4 := Lib.hid (at2_later (w1 := w4) HXq3.out (by first | exact hb | exact (bal brf _ : Below _ _ _).trans (hb.mono (by simp)) | exact (bal (bal brf _) _ : Below _ _ _).trans (hb.mono (by simp)) | exact (bdr brf : Below _ _ _).trans hb))
  have hq4 := hq4.at_
  obtain rfl := map_nil_of hm4
  obtain rfl : n4 = 0 := hq4.1.symm
  have HQ4 := Lib.hid hq4
  clear hm4 hq4
  clear hb
  obtain ⟨bq0, bq1, fq0, fq1⟩ := HXq4.out
  have zq := cell_lt bq0
  go_wp2_with fail
  refine (same17_true nx A4 A 0 c4 c [] [] _ (HQ4.out.below (bal brf _)) (HQ0.out.below (bal HB4.out _)) rfl HT.out).mono ?_
  rintro e w5 ⟨rfl, hb⟩
  clear bq0 bq1 fq0 fq1 zq
  have HB5 : Hid (Below w.heap.size w w5) := Lib.hid (by first | exact bgo HB4.out hb | exact bgo (bal HB4.out _) hb | exact bgo (bal (bal HB4.out _) _) hb | exact bgo (bdr HB4.out) hb)
  have HXq5 := Lib.hid (at2_later (w1 := w5) HXq4.out (by first | exact hb | exact (bal brf _ : Below _ _ _).trans (hb.mono (by simp)) | exact (bal (bal brf _) _ : Below _ _ _).trans (hb.mono (by simp)) | exact (bdr brf : Below _ _ _).trans hb))
  clear hb
  go_wp2_with fail
  go_ret
  exact ⟨rfl, HB5.out⟩

set_option maxHeartbeats 600000 in
theorem queuePops_other (nx seq : Int) (A : Option Addr) (n c : Nat) (l : Ltr) (v : Value) (ps : List (Ltr × Value)) (w : World) (hq : QAt w A n c ((l, v) :: ps)) (hby : n * 56 ≤ 140737488351232) (ht : TxtOk (((l, v) :: ps).map (·.1))) (hne : ¬ l.2.2.2.1 = seq) :
    Calls Try.prog 6 #[.agg #[.int .u64 nx, .slice A n c], .int .u64 seq] w (Yes w) := by
  have h0 : (0 : Int) < n := by have := hq.1; simp at this; omega
  have h0n : 0 < n := by omega
  have h2 : (l.2.2.2.1 == seq) = false := by simpa using hne
  have HQ0 := Lib.hid hq
  have HT := Lib.hid ht
  have HBY := Lib.hid hby
  have HXq0 := Lib.hid (At2.new w (.int .u64 nx) (.slice A (n) c) 28)
  have HB0 := Lib.hid (brf (w := w))
  clear hq ht hby
  go_enter Try.func6, Try.ntmps6
  go_wp2_with fail
  refine (live_any _).mono ?_
  rintro e w1 ⟨rfl, hb⟩
  have HB1 : Hid (Below w.heap.size w w1) := Lib.hid (by first | exact bgo HB0.out hb | exact bgo (bal HB0.out _) hb | exact bgo (bal (bal HB0.out _) _) hb | exact bgo (bdr HB0.out) hb)
  have HXq1 := Lib.hid (at2_later (w1 := w1) HXq0.out (by first | exact hb | exact (bal brf _ : Below _ _ _).trans (hb.mono (by simp)) | exact (bal (bal brf _) _ : Below _ _ _).trans (hb.mono (by simp)) | exact (bdr brf : Below _ _ _).trans hb))
  clear hb
  obtain ⟨bq0, bq1, fq0, fq1⟩ := HXq1.out
  have zq := cell_lt bq0
  go_wp2_with fail
  refine (few_any nx A (n) c _ _ HQ0.out.1 HQ0.out.2.1 HQ0.out.2.2.1 (HQ0.out.below HB1.out).2.2.2).mono ?_
  rintro e w2 ⟨b, rfl, hb⟩
  clear bq0 bq1 fq0 fq1 zq
  have HB2 : Hid (Below w.heap.size w w2) := Lib.hid (by first | exact bgo HB1.out hb | exact bgo (bal HB1.out _) hb | exact bgo (bal (bal HB1.out _) _) hb | exact bgo (bdr HB1.out) hb)
  have HXq2 := Lib.hid (at2_later (w1 := w2) HXq1.out (by first | exact hb | exact (bal brf _ : Below _ _ _).trans (hb.mono (by simp)) | exact (bal (bal brf _) _ : Below _ _ _).trans (hb.mono (by simp)) | exact (bdr brf : Below _ _ _).trans hb))
  clear hb
  obtain ⟨bq0, bq1, fq0, fq1⟩ := HXq2.out
  have zq := cell_lt bq0
  cases b
  · go_wp2_with fail
    go_ret
    exact ⟨rfl, HB2.out⟩
  go_wp2_with fail
  refine (head_some nx A n c l v ps _ (HQ0.out.below HB2.out) (HT.out l (by simp)).2).mono ?_
  rintro e w3 ⟨E3, c3, rfl, h31, h32, h33, hb⟩
  clear bq0 bq1 fq0 fq1 zq
  have HB3 : Hid (Below w.heap.size w w3) := Lib.hid (by first | exact bgo HB2.out hb | exact bgo (bal HB2.out _) hb | exact bgo (bal (bal HB2.out _) _) hb | exact bgo (bdr HB2.out) hb)
  have HXq3 := Lib.hid (at2_later (w1 := w3) HXq2.out (by first | exact hb | exact (bal brf _ : Below _ _ _).trans (hb.mono (by simp)) | exact (bal (bal brf _) _ : Below _ _ _).trans (hb.mono (by simp)) | exact (bdr brf : Below _ _ _).trans hb))
  have HR3 := Lib.hid h33
  have HC3 := Lib.hid (And.intro h31 h32)
  clear h31 h32 h33
  have HXl3 := Lib.hid (At5.new w3 (.bool l.1) (.int .i64 l.2.1) (.int .i64 l.2.2.1) (.int .u64 l.2.2.2.1) (.slice E3 (txt l).length c3) 36)
  clear hb
  obtain ⟨bq0, bq1, fq0, fq1⟩ := HXq3.out
  have zq := cell_lt bq0
  go_wp2_with fail
  refine (pop_other nx seq A n c l v ps _ (HQ0.out.below (bal HB3.out _)) HBY.out HT.out hne).mono ?_
  rintro e w4 ⟨A4, n4, c4, qs4, rfl, hm4, hq4, hb⟩
  clear bq0 bq1 fq0 fq1 zq
  have HB4 : Hid (Below w.heap.size w w4) := Lib.hid (by first | exact bgo HB3.out hb | exact bgo (bal HB3.out _) hb | exact bgo (bal (bal HB3.out _) _) hb | exact bgo (bdr HB3.out) hb)
  have HXq4 := Lib.hid (at2_later (w1 := w4) HXq3.out (by first | exact hb | exact (bal brf _ : Below _ _ _).trans (hb.mono (by simp)) | exact (bal (bal brf _) _ : Below _ _ _).trans (hb.mono (by simp)) | exact (bdr brf : Below _ _ _).trans hb))
  have HXl4 := Lib.hid (at5_later (w1 := w4) HXl3.out (by first | exact hb | exact (bal brf _ : Below _ _ _).trans (hb.mono (by simp)) | exact (bal (bal brf _) _ : Below _ _ _).trans (hb.mono (by simp)) | exact (bdr brf : Below _ _ _).trans hb))
  have hq4 := hq4.at_
  have hn4 : n4 = n := by rw [← hq4.len, hm4]; exact HQ0.out.len
  subst hn4
  have HM4 := Lib.hid hm4
  have HQ4 := Lib.hid hq4
  clear hm4 hq4
  clear hb
  obtain ⟨bq0, bq1, fq0, fq1⟩ := HXq4.out
  have zq := cell_lt bq0
  obtain ⟨⟨bl0, bl1, bl2, bl3, bl4⟩, fl0, fl1, fl2, fl3, fl4⟩ := HXl4.out
  have zl := cell_lt bl0
  go_wp2_with fail
  refine (same17_true nx A4 A n4 c4 c qs4 ((l, v) :: ps) _ (HQ4.out.below (bal brf _)) (HQ0.out.below (bal HB4.out _)) HM4.out (by rw [HM4.out]; exact HT.out)).mono ?_
  rintro e w5 ⟨rfl, hb⟩
  clear bq0 bq1 fq0 fq1 zq bl0 bl1 bl2 bl3 bl4 fl0 fl1 fl2 fl3 fl4 zl
  have HB5 : Hid (Below w.heap.size w w5) := Lib.hid (by first | exact bgo HB4.out hb | exact bgo (bal HB4.out _) hb | exact bgo (bal (bal HB4.out _) _) hb | exact bgo (bdr HB4.out) hb)
  have HXq5 := Lib.hid (at2_later (w1 := w5) HXq4.out (by first | exact hb | exact (bal brf _ : Below _ _ _).trans (hb.mono (by simp)) | exact (bal (bal brf _) _ : Below _ _ _).trans (hb.mono (by simp)) | exact (bdr brf : Below _ _ _).trans hb))
  have HXl5 := Lib.hid (at5_later (w1 := w5) HXl4.out (by first | exact hb | exact (bal brf _ : Below _ _ _).trans (hb.mono (by simp)) | exact (bal (bal brf _) _ : Below _ _ _).trans (hb.mono (by simp)) | exact (bdr brf : Below _ _ _).trans hb))
  clear hb
  go_wp2_with fail
  go_ret
  exact ⟨rfl, HB5.out⟩

set_option maxHeartbeats 1000000 in
theorem queuePops_first (nx seq : Int) (A : Option Addr) (n c : Nat) (l : Ltr) (v : Value) (ps : List (Ltr × Value)) (w : World) (hq : QAt w A n c ((l, v) :: ps)) (hby : n * 56 ≤ 140737488351232) (ht : TxtOk (((l, v) :: ps).map (·.1))) (hne : l.2.2.2.1 = seq) :
    Calls Try.prog 6 #[.agg #[.int .u64 nx, .slice A n c], .int .u64 seq] w (Yes w) := by
  obtain ⟨m, rfl⟩ : ∃ m, n = m + 1 := ⟨ps.length, by have := hq.1; simp at this; omega⟩
  have h0 : (0 : Int) < (m : Int) + 1 := by omega
  have hmb : (m : Int) ≤ 100000000000000 := by omega
  subst hne
  obtain ⟨i0, hi, hz0, hz1, hz2⟩ := info_parts infoLetter
  have HQ0 := Lib.hid hq
  have HT := Lib.hid ht
  have HBY := Lib.hid hby
  have HXq0 := Lib.hid (At2.new w (.int .u64 nx) (.slice A (m + 1) c) 28)
  have HB0 := Lib.hid (brf (w := w))
  clear hq ht hby
  go_enter Try.func6, Try.ntmps6
  go_wp2_with fail
  refine (live_any _).mono ?_
  rintro e w1 ⟨rfl, hb⟩
  have HB1 : Hid (Below w.heap.size w w1) := Lib.hid (by first | exact bgo HB0.out hb | exact bgo (bal HB0.out _) hb | exact bgo (bal (bal HB0.out _) _) hb | exact bgo (bdr HB0.out) hb)
  have HXq1 := Lib.hid (at2_later (w1 := w1) HXq0.out (by first | exact hb | exact (bal brf _ : Below _ _ _).trans (hb.mono (by simp)) | exact (bal (bal brf _) _ : Below _ _ _).trans (hb.mono (by simp)) | exact (bdr brf : Below _ _ _).trans hb))
  clear hb
  obtain ⟨bq0, bq1, fq0, fq1⟩ := HXq1.out
  have zq := cell_lt bq0
  go_wp2_with fail
  refine (few_any nx A (m + 1) c _ _ HQ0.out.1 HQ0.out.2.1 HQ0.out.2.2.1 (HQ0.out.below HB1.out).2.2.2).mono ?_
  rintro e w2 ⟨b, rfl, hb⟩
  clear bq0 bq1 fq0 fq1 zq
  have HB2 : Hid (Below w.heap.size w w2) := Lib.hid (by first | exact bgo HB1.out hb | exact bgo (bal HB1.out _) hb | exact bgo (bal (bal HB1.out _) _) hb | exact bgo (bdr HB1.out) hb)
  have HXq2 := Lib.hid (at2_later (w1 := w2) HXq1.out (by first | exact hb | exact (bal brf _ : Below _ _ _).trans (hb.mono (by simp)) | exact (bal (bal brf _) _ : Below _ _ _).trans (hb.mono (by simp)) | exact (bdr brf : Below _ _ _).trans hb))
  clear hb
  obtain ⟨bq0, bq1, fq0, fq1⟩ := HXq2.out
  have zq := cell_lt bq0
  cases b
  · go_wp2_with fail
    go_ret
    exact ⟨rfl, HB2.out⟩
  go_wp2_with fail
  refine (head_some nx A (m + 1) c l v ps _ (HQ0.out.below HB2.out) (HT.out l (by simp)).2).mono ?_
  rintro e w3 ⟨E3, c3, rfl, h31, h32, h33, hb⟩
  clear bq0 bq1 fq0 fq1 zq
  have HB3 : Hid (Below w.heap.size w w3) := Lib.hid (by first | exact bgo HB2.out hb | exact bgo (bal HB2.out _) hb | exact bgo (bal (bal HB2.out _) _) hb | exact bgo (bdr HB2.out) hb)
  have HXq3 := Lib.hid (at2_later (w1 := w3) HXq2.out (by first | exact hb | exact (bal brf _ : Below _ _ _).trans (hb.mono (by simp)) | exact (bal (bal brf _) _ : Below _ _ _).trans (hb.mono (by simp)) | exact (bdr brf : Below _ _ _).trans hb))
  have HR3 := Lib.hid h33
  have HC3 := Lib.hid (And.intro h31 h32)
  clear h31 h32 h33
  have HXl3 := Lib.hid (At5.new w3 (.bool l.1) (.int .i64 l.2.1) (.int .i64 l.2.2.1) (.int .u64 l.2.2.2.1) (.slice E3 (txt l).length c3) 36)
  clear hb
  obtain ⟨bq0, bq1, fq0, fq1⟩ := HXq3.out
  have zq := cell_lt bq0
  go_wp2_with fail
  refine (pop_first nx _ A (m + 1) c l v ps _ (HQ0.out.below (bal HB3.out _)) HBY.out HT.out rfl).mono ?_
  rintro e w4 ⟨A4, n4, c4, qs4, rfl, hm4, hq4, hb⟩
  clear bq0 bq1 fq0 fq1 zq
  have HB4 : Hid (Below w.heap.size w w4) := Lib.hid (by first | exact bgo HB3.out hb | exact bgo (bal HB3.out _) hb | exact bgo (bal (bal HB3.out _) _) hb | exact bgo (bdr HB3.out) hb)
  have HXq4 := Lib.hid (at2_later (w1 := w4) HXq3.out (by first | exact hb | exact (bal brf _ : Below _ _ _).trans (hb.mono (by simp)) | exact (bal (bal brf _) _ : Below _ _ _).trans (hb.mono (by simp)) | exact (bdr brf : Below _ _ _).trans hb))
  have HXl4 := Lib.hid (at5_later (w1 := w4) HXl3.out (by first | exact hb | exact (bal brf _ : Below _ _ _).trans (hb.mono (by simp)) | exact (bal (bal brf _) _ : Below _ _ _).trans (hb.mono (by simp)) | exact (bdr brf : Below _ _ _).trans hb))
  have hq4 := hq4.at_
  have hn4 : n4 = m := by { rw [← hq4.len, hm4]; have := HQ0.out.len; simpa using this }
  subst hn4
  have HM4 := Lib.hid hm4
  have HQ4 := Lib.hid hq4
  have HXp4 := Lib.hid (At2.new w4 (.int .u64 nx) (.slice A4 n4 c4) 28)
  have HB34 : Hid (Below w3.heap.size w3 w4) := Lib.hid ((bal brf _ : Below w3.heap.size w3 _).trans (hb.mono (by simp)))
  clear hm4 hq4
  clear hb
  obtain ⟨bq0, bq1, fq0, fq1⟩ := HXq4.out
  have zq := cell_lt bq0
  obtain ⟨⟨bl0, bl1, bl2, bl3, bl4⟩, fl0, fl1, fl2, fl3, fl4⟩ := HXl4.out
  have zl := cell_lt bl0
  go_wp2_with fail
  have hz7 : w.heap.size < w4.heap.size := cell_lt HXq4.out.1
  have hz8 : w3.heap.size < w4.heap.size := cell_lt HXl4.out.1.1
  have HS := Lib.hid (plq_of (HXq4.out.alloc (.cells #[.int .u64 nx, .slice A4 n4 c4] 28)) (HXl4.out.alloc _) HXp4.out)
  have hw1 : IntKind.i64.wrap ((n4 : Int) + 1 - 1) = (n4 : Int) := by { rw [show (n4 : Int) + 1 - 1 = n4 by omega]; exact IntWalk.i64_in _ (by omega) }
  have hw2 : IntKind.i64.wrap (n4 : Int) = (n4 : Int) := IntWalk.i64_in _ (by omega)
  have hS0 : PLQ (w4.alloc (.cells #[.int .u64 nx, .slice A4 n4 c4] 28)).drew w.heap.size w3.heap.size w4.heap.size nx (.slice A (n4 + 1) c) l (.slice E3 (txt l).length c3) (.slice A4 n4 c4) := HS.out
  go_region_held3 (fun x => PLQ x w.heap.size w3.heap.size w4.heap.size nx (.slice A (n4 + 1) c) l (.slice E3 (txt l).length c3) (.slice A4 n4 c4)) (first | with_reducible exact hS8 | with_reducible exact hS7 | with_reducible exact hS0 | exact plq_alloc hS0)
    (first
      | (refine step_append_szg (by rfl) _ _ 26 (by rfl) (w4.heap.size + 1) 36 i0 _ 5 56 Try.underlying26 hi hz0 hz1 hz2 rfl (by decide) (.slice (some ⟨w4.heap.size + 1, 0, none⟩) 1 1) 1 [.bool l.1, .int .i64 l.2.1, .int .i64 l.2.2.1, .int .u64 l.2.2.2.1, .slice E3 (txt l).length c3] (by rfl) ((own5_newH (w4.alloc (.cells #[.int .u64 nx, .slice A4 n4 c4] 28)) (.bool l.1) (.int .i64 l.2.1) (.int .i64 l.2.2.1) (.int .u64 l.2.2.2.1) (.slice E3 (txt l).length c3) (by simp)).drew) A4 n4 c4 (flat qs4) (by rfl) (by rw [flat_len, HQ4.out.1]) (HQ4.out.2.2.2.1.below (bdr (bal (bal brf _) _))) (flat_one HQ4.out.2.2.2.2) (by have := HBY.out; unfold maxLen; omega) (by have := HBY.out; omega) (by simp) ?_; intro v7 w7 hown7 hgrow7; have hb7 : Below (w4.heap.size + 1) (w4.alloc (.cells #[.int .u64 nx, .slice A4 n4 c4] 28)) w7 := keep_below0 ((own5_newH (w4.alloc (.cells #[.int .u64 nx, .slice A4 n4 c4] 28)) (.bool l.1) (.int .i64 l.2.1) (.int .i64 l.2.2.1) (.int .u64 l.2.2.2.1) (.slice E3 (txt l).length c3) (by simp)).drew) hgrow7 (((Below.refl (w4.heap.size + 1) (w4.alloc (.cells #[.int .u64 nx, .slice A4 n4 c4] 28))).alloc (by simp) _).drew) (by simp) (Nat.le_refl _); rw [Nat.add_comm 1 n4] at hown7; obtain ⟨A7, c7, rfl⟩ := own_slice hown7; have hS7 : PLQ w7 w.heap.size w3.heap.size w4.heap.size nx (.slice A (n4 + 1) c) l (.slice E3 (txt l).length c3) (.slice A4 n4 c4) := plq_below HS.out hb7 (by omega) (by omega) (by omega); have HB7 := Lib.hid ((bal brf _ : Below w4.heap.size w4 _).trans (hb7.mono (by omega))); have HQ7 : Hid (QAt w7 A7 (n4 + 1) c7 ((l, .slice E3 (txt l).length c3) :: qs4)) := Lib.hid (cons_at hown7 HQ4.out HB7.out ⟨E3, c3, rfl, HC3.out.1, HC3.out.2, (HR3.out.below (by exact HB34.out)).below HB7.out⟩))
      | (go_at_call 21; go_must (refine (sameAll_true A7 A (n4 + 1) c7 c ((l, .slice E3 (txt l).length c3) :: qs4) ((l, v) :: ps) _ HQ7.out (HQ0.out.below (bgo HB4.out HB7.out)) (by rw [List.map_cons, List.map_cons, HM4.out]) (by rw [List.map_cons, HM4.out]; exact HT.out)).mono ?_; rintro e w8 ⟨rfl, hb8⟩; have hS8 : PLQ w8 w.heap.size w3.heap.size w4.heap.size nx (.slice A (n4 + 1) c) l (.slice E3 (txt l).length c3) (.slice A4 n4 c4) := plq_below hS7 hb8 (cell_lt hS7.1.1) (cell_lt hS7.2.1.1) (cell_lt hS7.2.2.1))))
  all_goals
    go_wp2_with fail
    go_ret
    exact ⟨rfl, bgo (bgo HB4.out HB7.out) hb8⟩

end Go.Proofs.Ytfgkeodkakidpaa
