/- A contract of Put: a letter is accepted. -/
import Derived.Test.YtfgkeodkakidpaaQg
import Derived.Deep.RegionLaw
namespace Go.Proofs.Ytfgkeodkakidpaa
open Go.RowKit
set_option linter.unusedSimpArgs false
set_option linter.unusedVariables false
set_option maxRecDepth 100000

theorem own_setNe {w : World} {base : Nat} {e : TypeId} {s n : Nat} {v u : Value} {xs : List Value} {a : Addr} (h : w.ownsRow base e s v n xs) (hne : ∀ g, v.ownBlock = some g → g ≠ a.block) : (w.setCell a u).ownsRow base e s v n xs := by
  refine ⟨h.1, ?_⟩
  rcases h.2 with h1 | ⟨g, cap, cur, h1, hbg, hr, hc⟩
  · exact .inl h1
  · exact .inr ⟨g, cap, cur, h1, hbg, (heap_setCell_ne w (hne g (by rw [h1]; rfl))).trans hr, hc⟩
theorem own_neBox {w : World} {base R : Nat} {e t : TypeId} {s n : Nat} {v : Value} {xs : List Value} {cs : Array Value} {z : Nat × Nat} (h : w.ownsRow base e s v n xs) (hq : w.heap[R]? = some (.cells cs t z)) (hne : e ≠ t) : ∀ g, v.ownBlock = some g → g ≠ R := fun g hg hgr => by
  subst hgr
  rcases h.2 with ⟨h1, _⟩ | ⟨g', cap, cur, h1, hbg, hr, hc⟩
  · rw [h1] at hg; simp [Value.ownBlock] at hg
  · rw [h1] at hg
    have : g' = g := by simpa [Value.ownBlock] using hg
    subst this
    rw [hr] at hq
    injection hq with hq
    injection hq with _ ht
    exact hne ht
theorem acc_done {x : World} {B R n c : Nat} {A : Option Addr} {qs : List (Ltr × Value)} {cs : Array Value} {z : Nat × Nat} (HO : x.ownsRow (B + 3) 36 5 (.slice A n c) n (flat qs)) (HOT : OwnTexts x (B + 3) qs) (hq : x.heap[R]? = some (.cells cs 28 z)) (u1 u2 u3 u4 : Value) :
    QOwn ((((x.setCell ⟨R, 1, none⟩ u1).setCell ⟨R, 0, none⟩ u2).setCell ⟨B + 1 + 1, 0, none⟩ u3).setCell ⟨B + 1 + 1, 1, none⟩ u4) B A n c qs := by
  have k1 := own_neBox HO hq (by decide)
  have k2 := fun p hp => own_neBox (HOT p hp) hq (by decide)
  exact ⟨own_mono (own_setCell (own_setCell (own_setNe (own_setNe HO k1) k1) (by show B + 1 + 1 < B + 3; omega)) (by show B + 1 + 1 < B + 3; omega)) (by omega),
    fun p hp => own_mono (own_setCell (own_setCell (own_setNe (own_setNe (HOT p hp) (k2 p hp)) (k2 p hp)) (by show B + 1 + 1 < B + 3; omega)) (by show B + 1 + 1 < B + 3; omega)) (by omega)⟩
theorem acc_below {w x : World} {R : Nat} (hb : Below w.heap.size w x) (hR : w.heap.size ≤ R) (u1 u2 u3 u4 : Value) : Below w.heap.size w ((((x.setCell ⟨R, 1, none⟩ u1).setCell ⟨R, 0, none⟩ u2).setCell ⟨w.heap.size + 1 + 1, 0, none⟩ u3).setCell ⟨w.heap.size + 1 + 1, 1, none⟩ u4) :=
  put_below ((hb.setCell (p := ⟨R, 1, none⟩) hR _).setCell (p := ⟨R, 0, none⟩) hR _) _ _
theorem rd5_new (w : World) (v0 v1 v2 v3 v4 : Value) (t : TypeId) : Rd (w.alloc (.cells #[v0, v1, v2, v3, v4] t)) (some ⟨w.heap.size, 0, none⟩) [v0, v1, v2, v3, v4] :=
  .inr ⟨_, _, rfl, by simp, fun i v hv => by
    have := app_there w #[v0, v1, v2, v3, v4] t i v hv
    rwa [addr_off] at this⟩
theorem At2.grown {w w' : World} {b : Nat} {v0 v1 : Value} {row : Option Nat} (h : At2 w b v0 v1) (hg : w.grownBy w' row) (hne : ∀ g, row = some g → g ≠ b) : At2 w' b v0 v1 := by
  have hlt := cell_lt h.1
  have hk := hg.block b hlt (fun e => hne b e.symm rfl)
  exact ⟨(World.cell?_of_block (a := ⟨b, 0, none⟩) hk).trans h.1, (World.cell?_of_block (a := ⟨b, 1, none⟩) hk).trans h.2.1, (World.frozen?_of_block (a := ⟨b, 0, none⟩) hk).trans h.2.2.1, (World.frozen?_of_block (a := ⟨b, 1, none⟩) hk).trans h.2.2.2⟩
/-- What stands behind the append. -/
theorem acc_grown {x y : World} {B R : Nat} {s : Value} {ch st cl qu clo lo ag wi ro se nx : Int} {v5 : Value} {n : Nat} {qs : List (Ltr × Value)} (h : PB x B R s ch st cl qu clo lo ag wi ro se nx v5 n qs) {o : Obj} (hg : (x.alloc o).grownBy y v5.ownBlock) :
    At2 y (B + 1 + 1) (.int .u64 0) (.slice none 0 0) ∧ At2 y R (.int .u64 nx) v5 ∧ y.heap[R]? = some (.cells #[.int .u64 nx, v5] 28 (0, 0)) ∧ OwnTexts y (B + 3) qs := by
  obtain ⟨⟨h1, h2⟩, h3, h4, h5, h6, h7, h8⟩ := h
  have k := own_neBox h6 h8 (by decide)
  refine ⟨(h4.alloc o).grown hg (fun g hg => ?_), (h5.alloc o).grown hg k, (hg.block R (by rw [World.size_alloc]; omega) (fun e => k R e.symm rfl)).trans ((Below.heap_alloc x o R h2).trans h8), (h7.alloc o).keep hg (own_elemNot (h6.alloc o) (by decide))⟩
  have := (h6.lt g hg).1
  omega

set_option maxHeartbeats 1000000 in
theorem put_accepts (D : Option Addr) (dn dc : Nat) (ch st cl qu clo lo ag wi ro se : Int) (nx fr to : Int) (A : Option Addr) (n c : Nat) (ps : List (Ltr × Value)) (E : Option Addr) (m mc : Nat) (w : World) (hq : QAt w A n c ps) (hby : n * 56 ≤ 140737488351232) (ht : TxtOk (ps.map (·.1))) (h1 : cliB cl fr = true) (h2 : cliB cl to = true) (h3 : ¬ (64 : Int) < m) (h4 : (nx == 18446744073709551615) = false) (h5 : ¬ qu ≤ (n : Int)) (h6 : 0 ≤ nx) (h7 : nx ≤ 18446744073709551614) (xs : List Int) (hE : Rd w E (nums .u8 xs)) (hm : xs.length = m) :
    Calls Try.prog 10 #[cfgV (.slice D dn dc) ch st cl qu clo lo ag wi ro se, .agg #[.int .u64 nx, .slice A n c], .int .i64 fr, .int .i64 to, .slice E m mc] w (IsQO w (nx + 1) (ps.map (·.1) ++ [(false, fr, to, nx, xs)]) (.int .i64 1)) := by
  obtain ⟨hn, hc, hmx, hx⟩ := hq
  obtain ⟨i0, hi, hz0, hz1, hz2⟩ := info_parts infoLetter
  have HE := Lib.hid hE
  have HM := Lib.hid hm
  have hnm : (n : Int) ≤ 9223372036854775807 := by omega
  have HX := Lib.hid hx
  have HN := Lib.hid hn
  have HT := Lib.hid ht
  have HBY := Lib.hid hby
  have hcf := ((CfgAt.new w (.slice D dn dc) ch st cl qu clo lo ag wi ro se 25).alloc (.cells #[.int .u64 nx, .slice A n c] 28)).alloc (.cells #[.int .u64 0, .slice none 0 0] 28)
  have hr2 := At2.new ((w.alloc (.cells #[.slice D dn dc, .int .i64 ch, .int .i64 st, .int .i64 cl, .int .i64 qu, .int .i64 clo, .int .i64 lo, .int .i64 ag, .int .i64 wi, .int .u64 ro, .int .u64 se] 25)).alloc (.cells #[.int .u64 nx, .slice A n c] 28)) (.int .u64 0) (.slice none 0 0) 28
  simp only [World.size_alloc] at hr2
  have HCF := Lib.hid hcf
  have HR2 := Lib.hid hr2
  clear hcf hr2 hx hn ht hby hmx hE hm
  go_enter Try.func10, Try.ntmps10
  go_wp2_with (first
    | (go_at_call 22; go_must (refine (copied_any nx A n c ps _ HN.out hc HBY.out (HX.out.below (bal (bal (bal brf _) _) _)) HT.out.of).mono ?_; rintro e w5 ⟨A5, c5, qs, rfl, hqs, hown5, hot5, hb5⟩; simp only [World.size_alloc] at hown5 hot5 hb5; have HQS := Lib.hid hqs; have HB5 := Lib.hid ((bal (bal (bal brf _) _) _ : Below w.heap.size w _).trans (hb5.mono (by omega))); have z5 : w.heap.size + 1 + 1 < w5.heap.size := by { have := hb5.size; simp only [World.size_alloc] at this; omega }; have z50 : w.heap.size < w5.heap.size := (by omega); have hk := HCF.out.below hb5 (by omega); have hr2 := HR2.out.below hb5 (by omega); have HP5 := Lib.hid (PB.start (nx := nx) z5 hk hr2 hown5 hot5); obtain ⟨k50, k51, k52, k53, k54, k55, k56, k57, k58, k59, k5x⟩ := hk; obtain ⟨a50, a51, e50, e51⟩ := hr2; have HBA := Lib.hid (bal HB5.out (.cells #[.int .u64 nx, .slice A5 n c5] 28)); clear hown5 hot5 hb5 hqs))
    | (go_at_call 23; go_must (refine (client_any _ _ _ _ _ _ _ _ _ _ _ _ _).mono ?_; rintro e w6 ⟨rfl, hb6⟩; have HP5 := Lib.hid (HP5.out.below hb6); have HBA := Lib.hid (bgo HBA.out hb6); clear hb6; obtain ⟨⟨z6a, z6b⟩, ⟨k60, k61, k62, k63, k64, k65, k66, k67, k68, k69, k6x⟩, ⟨a60, a61, e60, e61⟩, ⟨p60, p61, g60, g61⟩, _⟩ := HP5.out)))
  have y1 : ¬ w5.heap.size = w.heap.size + 1 + 1 := by omega
  have y2 : ¬ w.heap.size + 1 + 1 = w5.heap.size := by omega
  have HZ5 := Lib.hid z5
  go_region_law (first
    | (refine step_append_sz rfl _ _ 26 (by rfl) (w.heap.size + 3) 36 i0 _ 5 56 Try.underlying26 hi hz0 hz1 hz2 rfl (by decide) (.slice A5 n c5) n (flat qs) (by rfl) (HP9.out.2.2.2.2.1.alloc _) (some ⟨w9.heap.size, 0, none⟩) 1 1 (cells5 (false, fr, to, nx, xs) (.slice E9 xs.length c9)) (by rfl) rfl (rd5_new w9 _ _ _ _ _ _) (by simp [cells5]; exact ⟨rfl, rfl, rfl, rfl, rfl⟩) (by have := HBY.out; unfold maxLen; omega) (by have := HBY.out; omega) (by have h1 := HP9.out.1; simp; omega) ?_; intro v10 w10 hown10 hgrow10; have hG := acc_grown HP9.out hgrow10; obtain ⟨hr10, hR10, hheap10, hot10⟩ := hG; have HT10 := Lib.hid (OwnTexts.snoc (l := (false, fr, to, nx, xs)) hot10 (own_keep (HT9.out.alloc _) hgrow10 (own_elemNot (HP9.out.2.2.2.2.1.alloc _) (by decide)))); have HB10 := Lib.hid (keep_below HP9.out.2.2.2.2.1 hgrow10 HB9.out HB9.out.size (by omega)); obtain ⟨A10, c10, rfl⟩ := own_slice hown10; have hown10' := hown10; rw [← flat_snoc] at hown10'; have HO10 := Lib.hid hown10'; have HH10 := Lib.hid hheap10; obtain ⟨r10, r11, r12, r13⟩ := hr10; obtain ⟨s10, s11, s12, s13⟩ := hR10; clear hown10 hown10' hgrow10 hot10 hheap10)
    | (go_simp; go_at_call 24; go_must (refine (cloneW_any E m mc xs _ HM.out (by omega) (HE.out.below (bdr HBA.out))).mono ?_; rintro e w9 ⟨v9, rfl, hown9, hg9⟩; obtain ⟨E9, c9, rfl⟩ := own_slice hown9; have hb9 : Below w6.heap.size w6 w9 := ((bdr brf : Below w6.heap.size w6 _).grown hg9 (Nat.le_refl _) (fun k e => by cases e)); have HP9 := Lib.hid (HP5.out.below hb9); have HB9 := Lib.hid (bgo HBA.out hb9); have HT9 := Lib.hid (own_mono (b' := w.heap.size + 3) hown9 (by have h1 := HP5.out.1; simp; omega)); obtain ⟨⟨z9a, z9b⟩, ⟨k90, k91, k92, k93, k94, k95, k96, k97, k98, k99, k9x⟩, ⟨a90, a91, e90, e91⟩, ⟨p90, p91, g90, g91⟩, _⟩ := HP9.out; clear hown9 hg9 hb9)))
  all_goals
    go_wp2_with fail
    refine bodyPost_ret (v := .tuple #[.agg #[.int .u64 (nx + 1), .slice A10 (n + 1) c10], .int .i64 1]) (by simp [results, Try.results10, go_sem, r10, r11, r12, r13, s10, s11, s12, s13, y1, y2]) rfl ⟨A10, n + 1, c10, qs ++ [((false, fr, to, nx, xs), .slice E9 xs.length c9)], rfl, by rw [List.map_append, HQS.out]; rfl, acc_done HO10.out HT10.out HH10.out _ _ _ _, acc_below HB10.out (by have := HZ5.out; omega) _ _ _ _⟩
end Go.Proofs.Ytfgkeodkakidpaa
