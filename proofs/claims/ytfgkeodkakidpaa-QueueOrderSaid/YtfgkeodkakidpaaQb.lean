/- Contracts: a copy of any bytes, whether a number is a client's, a new queue, a queue that shares nothing with another one; what is few. -/
import Derived.Test.YtfgkeodkakidpaaQa
import Derived.BigQuiet
import Derived.Deep.QuietTactic
import Derived.Outline
import Derived.Deep.DeepMust
namespace Go.Proofs.Ytfgkeodkakidpaa
open Go.RowKit
set_option linter.unusedSimpArgs false
set_option linter.unusedVariables false
set_option maxRecDepth 100000

theorem reach_eq : reachBytes = 140737488351232 := by decide
theorem infoLetter : (Try.prog.info? 36).map (fun i => (i.zero, i.size, i.bytes)) = some (some (.agg #[.bool false, .int .i64 0, .int .i64 0, .int .u64 0, .slice none 0 0]), 5, 56) := by kernel_rfl

theorem cloneW_any (A : Option Addr) (n c : Nat) (xs : List Int) (w : World) (hn : xs.length = n) (hb : n ≤ 140737488351232) (hx : Rd w A (nums .u8 xs)) :
    Calls Try.prog 24 #[.slice A n c] w (IsCopy w xs) := by
  obtain ⟨i0, hi, hz0, hz1, hz2⟩ := info_parts infoByteP
  cases A with
  | none =>
    have h0 : xs = [] := by
      rcases hx with h | ⟨_, _, h, _⟩
      · simpa using h
      · cases h
    subst h0
    obtain rfl : n = 0 := by simpa using hn.symm
    have hrun := fun W => Lib.run_eql_slice_nil (P := Try.prog) W 22 5 none 0 c 0 0 Try.underlying22
    go_enter Try.func24, Try.ntmps24
    go_wp2_with fail
    go_ret
    exact ⟨_, rfl, ⟨rfl, .inl ⟨rfl, rfl⟩⟩, World.grownBy.refl _ _⟩
  | some a =>
    have hrun := fun W => Lib.run_eql_slice_nil (P := Try.prog) W 22 5 (some a) n c 0 0 Try.underlying22
    subst hn
    have HX := Lib.hid hx
    have HB := Lib.hid hb
    clear hx hb
    go_enter Try.func24, Try.ntmps24
    go_wp2_with (at_builtin; refine append_vs rfl _ _ 22 rfl w.heap.size 5 i0 (.int .u8 0) 1 Try.underlying22 hi hz0 hz1 hz2 rfl (.slice (some ⟨w.heap.size, 0, none⟩) 0 0) 0 [] rfl ?c1 (some a) xs.length c (nums .u8 xs) rfl (by simp) (HX.out.below (bal brf _)) nums_oneCell (by have := HB.out; unfold maxLen; omega) (by have := HB.out; omega) (by rw [World.size_alloc]; omega) ?_; rotate_left; intro v6 w6 hown6 hgrow6)
    case c1 => exact ⟨rfl, .inr ⟨w.heap.size, 0, [].toArray, rfl, Nat.le_refl _, World.alloc_heap_new w _, Nat.le_refl _, Nat.zero_le _, rfl, rfl⟩⟩
    go_ret
    rw [Nat.zero_add, List.nil_append] at hown6
    refine ⟨v6, rfl, hown6, ?_⟩
    refine ⟨hgrow6.os, hgrow6.tape, hgrow6.output, ?_, fun k hk _ => ?_⟩
    · have := hgrow6.size
      rw [World.size_alloc] at this
      omega
    · refine (hgrow6.block k (by rw [World.size_alloc]; omega) ?_).trans (Below.heap_alloc _ _ k hk)
      simp [Value.ownBlock]
      omega

/-- A configuration's value. -/
abbrev cfgV (s : Value) (ch st cl qu clo lo ag wi ro se : Int) : Value :=
  .agg #[s, .int .i64 ch, .int .i64 st, .int .i64 cl, .int .i64 qu, .int .i64 clo, .int .i64 lo, .int .i64 ag, .int .i64 wi, .int .u64 ro, .int .u64 se]
/-- Whether n is a client's number. -/
def cliB (cl n : Int) : Bool := decide (0 ≤ n) && decide (n < cl)
theorem client_any (s : Value) (ch st cl qu clo lo ag wi ro se : Int) (n : Int) (w : World) :
    Calls Try.prog 23 #[cfgV s ch st cl qu clo lo ag wi ro se, .int .i64 n] w fun e w' => e = .returned (.bool (cliB cl n)) ∧ Below w.heap.size w w' := by
  have hC : Hid (cliB cl n = (decide (0 ≤ n) && decide (n < cl))) := Lib.hid rfl
  by_cases h1 : 0 ≤ n <;> by_cases h2 : n < cl
  all_goals
    go_enter Try.func23, Try.ntmps23
    go_wp2
    go_ret
    exact ⟨by rw [hC.out]; simp [h1, h2], bal brf _⟩

theorem new_any (n : Int) (w : World) :
    Calls Try.prog 17 #[.int .u64 n] w fun e w' => e = .returned (.agg #[.int .u64 n, .slice none 0 0]) ∧ Below w.heap.size w w' := by
  go_enter Try.func17, Try.ntmps17
  go_wp2
  exact bodyPost_ret (v := .agg #[.int .u64 n, .slice none 0 0]) (by simp [results, Try.results17, go_sem]) rfl ⟨rfl, bal brf _⟩
theorem rnew_any (n : Int) (w : World) :
    Calls Try.prog 18 #[.int .u64 n] w fun e w' => e = .returned (.agg #[.int .u64 n, .slice none 0 0]) ∧ Below w.heap.size w w' := by
  go_enter Try.func18, Try.ntmps18
  go_wp2
  exact bodyPost_ret (v := .agg #[.int .u64 n, .slice none 0 0]) (by simp [results, Try.results18, go_sem]) rfl ⟨rfl, bal brf _⟩

/-- It tells something, and turns nothing that was there. -/
def Tells (w : World) (e : Ending) (w' : World) : Prop := ∃ b, e = .returned (.bool b) ∧ Below w.heap.size w w'
set_option maxHeartbeats 1000000 in
theorem few_any (nx : Int) (A : Option Addr) (n c : Nat) (ps : List (Ltr × Value)) (w : World) (hn : ps.length = n) (hc : n ≤ c) (hmx : c ≤ maxLen) (hx : LRow w A ps) :
    Calls Try.prog 9 #[.agg #[.int .u64 nx, .slice A n c]] w (Tells w) := by
  unfold maxLen at hmx
  have HN := Lib.hid hn
  have HX := Lib.hid hx
  clear hn hx
  go_enter Try.func9, Try.ntmps9
  go_wp2_with fail
  have hb0 : Below w.heap.size w (w.alloc (.cells #[.int .u64 nx, .slice A n c] 28)) := bal brf _
  go_loopw [3, 9] (fun s i wr => ∃ (k : Nat) (z : Int), k ≤ n ∧ i = .int .i64 k ∧ s = .int .i64 z ∧ Below w.heap.size w wr) (fun _ i _ => n - (intOf i).toNat)
  case atStart => exact ⟨0, 0, Nat.zero_le _, rfl, rfl, hb0⟩
  case round =>
    obtain ⟨k, z, hk, rfl, rfl, hb⟩ := hrel
    by_cases hlt : k < n
    · have r1 : (k : Int) < n := by omega
      obtain ⟨⟨l, v⟩, hp⟩ : ∃ p, ps[k]? = some p := ⟨_, List.getElem?_eq_getElem (by rw [HN.out]; exact hlt)⟩
      obtain ⟨b, off, rfl, hlb, ⟨q0, q1, q2, q3, q4⟩, ⟨A1, c1, rfl, m1, m2, hr⟩⟩ := (HX.out.below hb).at_ hp
      have HB := Lib.hid hb
      clear hp hr hb
      go_wp2_with fail
      exact ⟨⟨k + 1, _, by omega, by congr 1, rfl, bal HB.out _⟩, by show n - ((k : Int) + 1).toNat < n - (k : Int).toNat; omega⟩
    · have hkn : n = k := by omega
      subst hkn
      go_wp2_with fail
      go_ret
      exact ⟨_, rfl, hb⟩

/-- A queue that shares nothing with another one, with the same letters. -/
def IsCop (w : World) (nx : Int) (n : Nat) (ps : List (Ltr × Value)) (e : Ending) (w' : World) : Prop :=
  ∃ A c qs, e = .returned (.agg #[.int .u64 nx, .slice A n c]) ∧ qs.map (·.1) = ps.map (·.1) ∧ w'.ownsRow w.heap.size 36 5 (.slice A n c) n (flat qs) ∧ OwnTexts w' w.heap.size qs ∧ Below w.heap.size w w'

theorem map_take_snoc {ps qs : List (Ltr × Value)} {k : Nat} {l : Ltr} {v u : Value} (h : qs.map (·.1) = (ps.take k).map (·.1)) (hk : ps[k]? = some (l, v)) : (qs ++ [(l, u)]).map (·.1) = (ps.take (k + 1)).map (·.1) := by
  rw [List.take_add_one, hk]
  simp [h]

theorem app_thereH {H : Nat} (w : World) (vs : Array Value) (t : TypeId) (j : Nat) (u : Value) (hH : w.heap.size = H) (h : vs.toList[j]? = some u) : (w.alloc (.cells vs t)).cell? ((Addr.mk H 0 none).add j) = some u := by
  subst hH; exact app_there w vs t j u h
theorem own_boxed {w w5 : World} {o : Obj} {B : Nat} {e : TypeId} {s n j : Nat} {v u : Value} {xs : List Value} (h : w.ownsRow B e s v n xs) (hg : (w.alloc o).grownBy w5 none) : (w5.setCell ⟨w.heap.size, j, none⟩ u).ownsRow B e s v n xs := by
  refine ⟨h.1, ?_⟩
  rcases h.2 with h1 | ⟨g, cap, cur, h1, hb, hh, hr⟩
  · exact .inl h1
  · have hlt : g < w.heap.size := (Array.getElem?_eq_some_iff.1 hh).1
    exact .inr ⟨g, cap, cur, h1, hb, (heap_setCell_ne w5 (by show g ≠ w.heap.size; omega)).trans ((hg.block g (by rw [World.size_alloc]; omega) (by simp)).trans ((Below.heap_alloc w o g hlt).trans hh)), hr⟩
/-- Two cells lie at the head of block b, and may be stored to. -/
def At2 (w : World) (b : Nat) (v0 v1 : Value) : Prop := w.cell? ⟨b, 0, none⟩ = some v0 ∧ w.cell? ⟨b, 1, none⟩ = some v1 ∧ w.frozen? ⟨b, 0, none⟩ = false ∧ w.frozen? ⟨b, 1, none⟩ = false
theorem At2.below {w w' : World} {B b : Nat} {v0 v1 : Value} (h : At2 w b v0 v1) (hb : Below B w w') (hlt : b < B) : At2 w' b v0 v1 :=
  ⟨(hb.cell (p := ⟨b, 0, none⟩) hlt).trans h.1, (hb.cell (p := ⟨b, 1, none⟩) hlt).trans h.2.1, (hb.frozen (p := ⟨b, 0, none⟩) hlt).trans h.2.2.1, (hb.frozen (p := ⟨b, 1, none⟩) hlt).trans h.2.2.2⟩
theorem At2.new (w : World) (v0 v1 : Value) (t : TypeId) : At2 (w.alloc (.cells #[v0, v1] t)) w.heap.size v0 v1 := by
  refine ⟨?_, ?_, ?_, ?_⟩ <;> simp [go_sem]
theorem At2.alloc {w : World} {b : Nat} {v0 v1 : Value} (h : At2 w b v0 v1) (o : Obj) : At2 (w.alloc o) b v0 v1 :=
  h.below ((Below.refl _ _).alloc (Nat.le_refl _) o) (cell_lt h.1)
/-- A letter's five cells lie at the head of block b, and may be stored to. -/
def At5 (w : World) (b : Nat) (v0 v1 v2 v3 v4 : Value) : Prop :=
  (w.cell? ⟨b, 0, none⟩ = some v0 ∧ w.cell? ⟨b, 1, none⟩ = some v1 ∧ w.cell? ⟨b, 2, none⟩ = some v2 ∧ w.cell? ⟨b, 3, none⟩ = some v3 ∧ w.cell? ⟨b, 4, none⟩ = some v4) ∧
  w.frozen? ⟨b, 0, none⟩ = false ∧ w.frozen? ⟨b, 1, none⟩ = false ∧ w.frozen? ⟨b, 2, none⟩ = false ∧ w.frozen? ⟨b, 3, none⟩ = false ∧ w.frozen? ⟨b, 4, none⟩ = false
theorem At5.below {w w' : World} {B b : Nat} {v0 v1 v2 v3 v4 : Value} (h : At5 w b v0 v1 v2 v3 v4) (hb : Below B w w') (hlt : b < B) : At5 w' b v0 v1 v2 v3 v4 := by
  obtain ⟨⟨h0, h1, h2, h3, h4⟩, f0, f1, f2, f3, f4⟩ := h
  exact ⟨⟨(hb.cell (p := ⟨b, 0, none⟩) hlt).trans h0, (hb.cell (p := ⟨b, 1, none⟩) hlt).trans h1, (hb.cell (p := ⟨b, 2, none⟩) hlt).trans h2, (hb.cell (p := ⟨b, 3, none⟩) hlt).trans h3, (hb.cell (p := ⟨b, 4, none⟩) hlt).trans h4⟩,
    (hb.frozen (p := ⟨b, 0, none⟩) hlt).trans f0, (hb.frozen (p := ⟨b, 1, none⟩) hlt).trans f1, (hb.frozen (p := ⟨b, 2, none⟩) hlt).trans f2, (hb.frozen (p := ⟨b, 3, none⟩) hlt).trans f3, (hb.frozen (p := ⟨b, 4, none⟩) hlt).trans f4⟩
theorem At5.new (w : World) (v0 v1 v2 v3 v4 : Value) (t : TypeId) : At5 (w.alloc (.cells #[v0, v1, v2, v3, v4] t)) w.heap.size v0 v1 v2 v3 v4 := by
  refine ⟨⟨?_, ?_, ?_, ?_, ?_⟩, ?_, ?_, ?_, ?_, ?_⟩ <;> simp [go_sem]

set_option maxHeartbeats 1000000 in
theorem copied_any (nx : Int) (A : Option Addr) (n c : Nat) (ps : List (Ltr × Value)) (w : World) (hn : ps.length = n) (hc : n ≤ c) (hby : n * 56 ≤ 140737488351232) (hx : LRow w A ps) (hT : ∀ p ∈ ps, (txt p.1).length ≤ 140737488351232) :
    Calls Try.prog 22 #[.agg #[.int .u64 nx, .slice A n c]] w (IsCop w nx n ps) := by
  obtain ⟨i0, hi, hz0, hz1, hz2⟩ := info_parts infoLetter
  have hnm : (n : Int) ≤ 100000000000000 := by omega
  have HN := Lib.hid hn
  have HX := Lib.hid hx
  have HT := Lib.hid hT
  have HBY := Lib.hid hby
  clear hn hx hT hby
  go_enter Try.func22, Try.ntmps22
  have hA1 := (At2.new w (.int .u64 nx) (.slice A n c) 28).alloc (.cells #[.int .u64 0, .slice none 0 0] 28)
  have hA2 := At2.new (w.alloc (.cells #[.int .u64 nx, .slice A n c] 28)) (.int .u64 0) (.slice none 0 0) 28
  have HA1 := Lib.hid hA1
  have HA2 := Lib.hid hA2
  have hb0 : Below w.heap.size w ((w.alloc (.cells #[.int .u64 nx, .slice A n c] 28)).alloc (.cells #[.int .u64 0, .slice none 0 0] 28)) := bal (bal brf _) _
  have HB0 := Lib.hid hb0
  clear hA1 hA2 hb0
  obtain ⟨B2, hB2⟩ : ∃ B2, B2 = w.heap.size + 2 := ⟨_, rfl⟩
  have HB2 := Lib.hid hB2
  clear hB2
  go_wp2_with (at_make; refine wpList_make_own _ rfl _ _ 26 rfl B2 36 i0 _ 5 Try.underlying26 hi hz0 hz1 _ _ _ (n + 1) rfl rfl (by omega) (by have := HBY.out; rw [hz2]; omega) (by have := HBY.out; unfold maxLen; omega) (by rw [HB2.out]; simp) ?_; intro w1 hown1 hgrow1; have HB1 := Lib.hid ((Below.refl B2 _).grown hgrow1 (by rw [HB2.out]; simp) (fun k e => by cases e)); have HB1' := Lib.hid (HB0.out.grown hgrow1 (by simp; omega) (fun k e => by cases e)); obtain ⟨q0, q1, f0, f1⟩ := HA1.out.below HB1.out (by rw [HB2.out]; omega))
  have HA1' := Lib.hid (HA1.out.below HB1.out (by rw [HB2.out]; omega))
  have HA2' := Lib.hid (HA2.out.below HB1.out (by rw [HB2.out]; simp))
  clear q0 q1 f0 f1 HA1 HA2 HB0
  have hs1 : B2 ≤ w1.heap.size := by
    have := hgrow1.size
    rw [HB2.out]
    simpa using this
  have HS1 := Lib.hid hs1
  simp only [World.size_alloc] at hown1
  have HO1 := Lib.hid hown1
  clear hown1 hgrow1 hs1
  go_loopw [3, 14] (fun v3 i wr => ∃ (k : Nat) (qs : List (Ltr × Value)) (D : Option Addr) (d : Nat), k ≤ n ∧ i = .int .i64 k ∧ v3 = .slice D k d ∧ Hid (qs.map (·.1) = (ps.take k).map (·.1)) ∧ Hid (wr.ownsRow B2 36 5 (.slice D k d) k (flat qs)) ∧ Hid (OwnTexts wr B2 qs) ∧ Hid (B2 ≤ wr.heap.size) ∧ Hid (Below B2 w1 wr)) (fun _ i _ => n - (intOf i).toNat)
  case atStart => exact ⟨0, [], _, _, Nat.zero_le _, rfl, rfl, Lib.hid rfl, HO1, Lib.hid OwnTexts.nil, HS1, Lib.hid (Below.refl _ _)⟩
  case round =>
    obtain ⟨k, qs, D, d, hk, rfl, rfl, HQ, HO, HOT, HS, HBR⟩ := hrel
    have HBW : Hid (Below w.heap.size w wr) := Lib.hid (HB1'.out.trans (HBR.out.mono (by rw [HB2.out]; omega)))
    by_cases hlt : k < n
    · have r1 : (k : Int) < n := by omega
      obtain ⟨⟨l, v⟩, hp⟩ : ∃ p, ps[k]? = some p := ⟨_, List.getElem?_eq_getElem (by rw [HN.out]; exact hlt)⟩
      obtain ⟨b, off, rfl, hlb, ⟨q0, q1, q2, q3, q4⟩, ⟨E1, c1, rfl, m1, m2, hr⟩⟩ := (HX.out.below HBW.out).at_ hp
      have HR := Lib.hid hr
      have HP := Lib.hid hp
      have HL5 := Lib.hid (At5.new wr (.bool l.1) (.int .i64 l.2.1) (.int .i64 l.2.2.1) (.int .u64 l.2.2.2.1) (.slice E1 (txt l).length c1) 36)
      clear hp hr
      go_wp2_with (first
        | (go_at_call 24; refine (cloneW_any E1 _ c1 (txt l) _ rfl (HT.out _ (List.mem_of_getElem? HP.out)) (HR.out.below (bal brf _))).mono ?_; rintro e w5 ⟨v5, rfl, hown5, hg5⟩; obtain ⟨E5, c5, rfl⟩ := own_slice hown5; have HW5 := Lib.hid hown5; have HG5 := Lib.hid hg5; have HB5 := Lib.hid ((Below.refl (wr.heap.size + 1) _).grown hg5 (by simp) (fun k e => by cases e)); obtain ⟨⟨p0, p1, p2, p3, p4⟩, g0, g1, g2, g3, g4⟩ := HL5.out.below HB5.out (by omega); have HO6 := Lib.hid (own_boxed (u := .slice E5 (txt l).length c5) (j := 4) HO.out HG5.out); have HOT6 := Lib.hid (OwnTexts.snoc (l := l) (v := .slice E5 (txt l).length c5) (fun p hp => own_boxed (u := .slice E5 (txt l).length c5) (j := 4) (HOT.out p hp) HG5.out) (own_mono (own_setCell hown5 (by simp)) (by have := HS.out; simp; omega))); have HB6 := Lib.hid ((((HBR.out).alloc HS.out _).grown HG5.out (by have := HS.out; simp; omega) (fun k e => by cases e)).setCell (p := ⟨wr.heap.size, 4, none⟩) HS.out (.slice E5 (txt l).length c5)); have HS6 : Hid (B2 ≤ w5.heap.size) := Lib.hid (by have h1 := HS.out; have h2 := HG5.out.size; rw [World.size_alloc] at h2; omega); clear hown5 hg5)
        | (at_builtin; go_must (refine wpList_append_own _ rfl _ _ 26 rfl B2 36 i0 _ 5 56 Try.underlying26 hi hz0 hz1 hz2 rfl (by decide) _ _ _ rfl (HO6.out.alloc _) ⟨w5.heap.size, 0, none⟩ 1 1 (cells5 l (.slice E5 (txt l).length c5)) rfl rfl (fun j y hy => app_thereH (w5.setCell ⟨wr.heap.size, 4, none⟩ (.slice E5 (txt l).length c5)) _ _ j y (size_setCell _ _ _) hy) (by simp [cells5]; exact ⟨rfl, rfl, rfl, rfl, rfl⟩) (by have := HBY.out; unfold maxLen; omega) (by have := HBY.out; omega) (by have := HS6.out; simp; omega) ?_); intro v8 w8 hown8 hgrow8 _; obtain ⟨A8, c8, rfl⟩ := own_slice hown8))
      refine ⟨⟨k + 1, qs ++ [(l, .slice E5 (txt l).length c5)], A8, c8, by omega, by congr 1, rfl, Lib.hid (map_take_snoc HQ.out HP.out), Lib.hid (by rw [flat_snoc]; exact hown8), Lib.hid ((HOT6.out.alloc _).keep hgrow8 (own_elemNot (HO6.out.alloc _) (by decide))), Lib.hid ?_, Lib.hid (keep_below HO6.out hgrow8 HB6.out (by rw [size_setCell]; exact HS6.out) (Nat.le_refl _))⟩, by show n - ((k : Int) + 1).toNat < n - (k : Int).toNat; omega⟩
      have h1 := hgrow8.size
      have h2 := HS6.out
      rw [World.size_alloc, size_setCell] at h1
      omega
    · have hkn : n = k := by omega
      subst hkn
      obtain ⟨q0, q1, f0, f1⟩ := HA1'.out.below HBR.out (by rw [HB2.out]; omega)
      obtain ⟨s0, s1, t0, t1⟩ := HA2'.out.below HBR.out (by rw [HB2.out]; simp)
      simp only [World.size_alloc] at s0 s1 t0 t1
      go_wp2_with fail
      refine bodyPost_ret (v := .agg #[.int .u64 nx, .slice D n d]) (by simp [results, Try.results22, go_sem, q0, q1, s0, s1, f0, f1, t0, t1]) rfl ⟨D, d, qs, rfl, ?_, ?_, ?_, ?_⟩
      · have := HQ.out
        rw [List.take_of_length_le (by rw [HN.out]; exact Nat.le_refl _)] at this
        exact this
      · exact own_mono (own_setCell (own_setCell (own_setCell HO.out (show w.heap.size < B2 by rw [HB2.out]; omega)) (show w.heap.size + 1 < B2 by rw [HB2.out]; omega)) (show w.heap.size + 1 < B2 by rw [HB2.out]; omega)) (by rw [HB2.out]; omega)
      · exact fun p hp => own_mono (own_setCell (own_setCell (own_setCell (HOT.out p hp) (show w.heap.size < B2 by rw [HB2.out]; omega)) (show w.heap.size + 1 < B2 by rw [HB2.out]; omega)) (show w.heap.size + 1 < B2 by rw [HB2.out]; omega)) (by rw [HB2.out]; omega)
      · exact ((HBW.out.setCell (p := ⟨w.heap.size, 1, none⟩) (Nat.le_refl _) _).setCell (p := ⟨w.heap.size + 1, 0, none⟩) (by show _ ≤ _ + 1; omega) _).setCell (p := ⟨w.heap.size + 1, 1, none⟩) (by show _ ≤ _ + 1; omega) _
end Go.Proofs.Ytfgkeodkakidpaa
