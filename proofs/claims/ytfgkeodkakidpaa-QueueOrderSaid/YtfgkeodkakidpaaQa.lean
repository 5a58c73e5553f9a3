/- Letters in rows: how they lie in memory, how they were read, how rows of one's own of them grow. -/
import Derived.Test.YtfgkeodkakidpaaPart
import Derived.Test.YtfgkeodkakidpaaOpen
import Derived.SizedLaws
namespace Go.Proofs.Ytfgkeodkakidpaa
open Go.RowKit Go.ChangeShapes Go.WideShapes Go.Deep
set_option linter.unusedSimpArgs false
set_option linter.unusedVariables false
set_option maxRecDepth 100000

/-- A letter: whether it is cover, from whom, to whom, its number, its text. -/
abbrev Ltr := Bool × Int × Int × Int × List Int
abbrev txt (l : Ltr) : List Int := l.2.2.2.2
def cells5 (l : Ltr) (v : Value) : List Value := [.bool l.1, .int .i64 l.2.1, .int .i64 l.2.2.1, .int .u64 l.2.2.2.1, v]
/-- The cells of letters, one behind the other; each with its text's value. -/
def flat : List (Ltr × Value) → List Value
  | [] => []
  | p :: ps => cells5 p.1 p.2 ++ flat ps
theorem flat_len (ps : List (Ltr × Value)) : (flat ps).length = ps.length * 5 := by
  induction ps with
  | nil => rfl
  | cons p ps ih => simp [flat, cells5, ih]; omega
theorem flat_append (ps qs : List (Ltr × Value)) : flat (ps ++ qs) = flat ps ++ flat qs := by
  induction ps with
  | nil => rfl
  | cons p ps ih => simp [flat, ih]
theorem flat_snoc (ps : List (Ltr × Value)) (l : Ltr) (v : Value) : flat (ps ++ [(l, v)]) = flat ps ++ cells5 l v := by
  rw [flat_append]; simp [flat]
theorem flat_at {ps : List (Ltr × Value)} {k : Nat} {p : Ltr × Value} (h : ps[k]? = some p) (j : Nat) (hj : j < 5) : (flat ps)[k * 5 + j]? = (cells5 p.1 p.2)[j]? := by
  induction ps generalizing k with
  | nil => simp at h
  | cons q ps ih =>
    cases k with
    | zero =>
      simp at h; subst h
      rw [flat, List.getElem?_append_left (by simp [cells5]; omega)]; simp
    | succ k =>
      rw [flat, List.getElem?_append_right (by simp [cells5]; omega)]
      rw [← ih (by simpa using h)]
      congr 1
      simp [cells5]; omega
theorem flat_one {w : World} {ps : List (Ltr × Value)} (h : ∀ p ∈ ps, Part w p.2 (txt p.1)) : ∀ u ∈ flat ps, u.oneCell' = true := by
  induction ps with
  | nil => simp [flat]
  | cons p ps ih =>
    intro u hu
    rw [flat, List.mem_append] at hu
    rcases hu with hu | hu
    · simp only [cells5, List.mem_cons, List.not_mem_nil, or_false] at hu
      rcases hu with rfl | rfl | rfl | rfl | rfl
      · rfl
      · rfl
      · rfl
      · rfl
      · exact (h p (by simp)).one
    · exact ih (fun q hq => h q (by simp [hq])) u hu

/-- Letters' texts read as they say. -/
def Texts (w : World) (ps : List (Ltr × Value)) : Prop := ∀ p ∈ ps, Part w p.2 (txt p.1)
theorem Texts.below {w w' : World} {ps : List (Ltr × Value)} (h : Texts w ps) (hb : Below w.heap.size w w') : Texts w' ps := fun p hp => (h p hp).below hb
theorem Texts.nil {w : World} : Texts w [] := fun p hp => by cases hp
theorem Texts.drop {w : World} {ps : List (Ltr × Value)} (h : Texts w ps) (k : Nat) : Texts w (ps.drop k) := fun p hp => h p (List.mem_of_mem_drop hp)
theorem Texts.append {w : World} {ps qs : List (Ltr × Value)} (h : Texts w ps) (h' : Texts w qs) : Texts w (ps ++ qs) := fun p hp => by
  rcases List.mem_append.1 hp with hp | hp
  · exact h p hp
  · exact h' p hp
theorem Texts.snoc {w : World} {ps : List (Ltr × Value)} {l : Ltr} {v : Value} (h : Texts w ps) (h' : Part w v (txt l)) : Texts w (ps ++ [(l, v)]) :=
  h.append (fun p hp => by simp at hp; subst hp; exact h')
/-- The letters lie at the slice's address, and their texts read as they say. -/
def LRow (w : World) (A : Option Addr) (ps : List (Ltr × Value)) : Prop := Rd w A (flat ps) ∧ Texts w ps
theorem LRow.below {w w' : World} {A : Option Addr} {ps : List (Ltr × Value)} (h : LRow w A ps) (hb : Below w.heap.size w w') : LRow w' A ps := ⟨h.1.below hb, h.2.below hb⟩
theorem LRow.nil {w : World} {A : Option Addr} : LRow w A [] := ⟨.inl rfl, Texts.nil⟩

/-- The letter l lies in block b from offset o on; its text has the value v. -/
def LAt (w : World) (b o : Nat) (l : Ltr) (v : Value) : Prop :=
  w.cell? ⟨b, o, none⟩ = some (.bool l.1) ∧ w.cell? ⟨b, o + 1, none⟩ = some (.int .i64 l.2.1) ∧ w.cell? ⟨b, o + 2, none⟩ = some (.int .i64 l.2.2.1) ∧ w.cell? ⟨b, o + 3, none⟩ = some (.int .u64 l.2.2.2.1) ∧ w.cell? ⟨b, o + 4, none⟩ = some v
theorem LRow.at_ {w : World} {A : Option Addr} {ps : List (Ltr × Value)} (h : LRow w A ps) {k : Nat} {l : Ltr} {v : Value} (hk : ps[k]? = some (l, v)) :
    ∃ b off, A = some ⟨b, off, none⟩ ∧ b < w.heap.size ∧ LAt w b (off + k * 5) l v ∧ Part w v (txt l) := by
  have hlt : k < ps.length := (List.getElem?_eq_some_iff.1 hk).1
  obtain ⟨b, off, hA, hb, hc⟩ := h.1.at_ (by rw [flat_len]; omega)
  refine ⟨b, off, hA, hb, ?_, h.2 (l, v) (List.mem_of_getElem? hk)⟩
  have g := fun j hj u (e : (cells5 l v)[j]? = some u) => hc (k * 5 + j) u ((flat_at hk j hj).trans e)
  refine ⟨?_, ?_, ?_, ?_, ?_⟩
  · simpa using g 0 (by omega) _ rfl
  · simpa [Nat.add_assoc] using g 1 (by omega) _ rfl
  · simpa [Nat.add_assoc] using g 2 (by omega) _ rfl
  · simpa [Nat.add_assoc] using g 3 (by omega) _ rfl
  · simpa [Nat.add_assoc] using g 4 (by omega) _ rfl

/-- Letters' texts lie in rows of one's own. -/
def OwnTexts (w : World) (base : Nat) (ps : List (Ltr × Value)) : Prop := ∀ p ∈ ps, w.ownsRow base 5 1 p.2 (txt p.1).length (nums .u8 (txt p.1))
theorem OwnTexts.texts {w : World} {base : Nat} {ps : List (Ltr × Value)} (h : OwnTexts w base ps) : Texts w ps := fun p hp => Part.of_own (h p hp)
theorem OwnTexts.keep {w w' : World} {base : Nat} {ps : List (Ltr × Value)} {row : Option Nat} (h : OwnTexts w base ps) (hg : w.grownBy w' row) (hr : ElemNot w row 5) : OwnTexts w' base ps := fun p hp => own_keep (h p hp) hg hr
theorem OwnTexts.alloc {w : World} {base : Nat} {ps : List (Ltr × Value)} (h : OwnTexts w base ps) (o : Obj) : OwnTexts (w.alloc o) base ps := fun p hp => (h p hp).alloc _
theorem OwnTexts.nil {w : World} {base : Nat} : OwnTexts w base [] := fun p hp => by cases hp
theorem OwnTexts.snoc {w : World} {base : Nat} {ps : List (Ltr × Value)} {l : Ltr} {v : Value} (h : OwnTexts w base ps) (hp : w.ownsRow base 5 1 v (txt l).length (nums .u8 (txt l))) : OwnTexts w base (ps ++ [(l, v)]) := fun p hp' => by
  rcases List.mem_append.1 hp' with hp' | hp'
  · exact h p hp'
  · simp at hp'; subst hp'; exact hp
theorem own_mono {w : World} {b b' : Nat} {e : TypeId} {s n : Nat} {v : Value} {xs : List Value} (h : w.ownsRow b e s v n xs) (hb : b' ≤ b) : w.ownsRow b' e s v n xs := by
  refine ⟨h.1, ?_⟩
  rcases h.2 with h1 | ⟨g, cap, cur, h1, hbg, hr⟩
  · exact .inl h1
  · exact .inr ⟨g, cap, cur, h1, Nat.le_trans hb hbg, hr⟩
theorem OwnTexts.mono {w : World} {b b' : Nat} {ps : List (Ltr × Value)} (h : OwnTexts w b ps) (hb : b' ≤ b) : OwnTexts w b' ps := fun p hp => own_mono (h p hp) hb
theorem own_setFar {w : World} {base : Nat} {e : TypeId} {s n : Nat} {v : Value} {xs : List Value} {a : Addr} {u : Value} (h : w.ownsRow base e s v n xs) (hb : a.block < base) : (w.setCell a u).ownsRow base e s v n xs := own_setCell h hb
theorem Rd.of_ownN {w : World} {base : Nat} {e : TypeId} {A : Option Addr} {n c s : Nat} {vs : List Value} (h : w.ownsRow base e s (.slice A n c) n vs) : Rd w A vs := by
  rcases h.2 with ⟨h1, h2⟩ | ⟨g, cap, cur, h1, hb, hg, hc⟩
  · have hl := h.1
    rw [h2, Nat.zero_mul] at hl
    exact .inl (List.eq_nil_of_length_eq_zero hl)
  · have hcells := h.cells (g := g) (by rw [h1]; rfl)
    simp only [Value.slice.injEq] at h1
    obtain ⟨rfl, _, rfl⟩ := h1
    refine .inr ⟨g, 0, rfl, (Array.getElem?_eq_some_iff.1 hg).1, fun i v hv => ?_⟩
    have := hcells i v hv
    rwa [addr_off] at this
theorem own_capN {w : World} {base : Nat} {e : TypeId} {s n c : Nat} {A : Option Addr} {vs : List Value} (h : w.ownsRow base e s (.slice A n c) n vs) : n ≤ c ∧ c ≤ maxLen := by
  rcases h.2 with ⟨h1, h2⟩ | ⟨g, cap, cur, h1, hb, hg, hc⟩
  · cases h1; exact ⟨Nat.le_refl _, Nat.zero_le _⟩
  · simp only [Value.slice.injEq] at h1
    obtain ⟨_, _, rfl⟩ := h1
    exact ⟨hc.1, hc.2.1⟩
theorem LRow.of_own {w : World} {base base' : Nat} {A : Option Addr} {n c : Nat} {ps : List (Ltr × Value)} (h : w.ownsRow base 36 5 (.slice A n c) n (flat ps)) (ht : OwnTexts w base' ps) : LRow w A ps := ⟨Rd.of_ownN h, ht.texts⟩

theorem bytesLetter : Try.prog.bytesOf 36 = 56 := by kernel_rfl
theorem bytesU8 : Try.prog.bytesOf 5 = 1 := by kernel_rfl
theorem weights_all {H : Type} {P : Program} {e : TypeId} {n : Nat} : ∀ {ds : List (DataW H)} {d : DataW H}, d ∈ ds → n ∈ DataW.weights P e d → n ∈ DataW.weightsAll P e ds
  | d' :: r, d, hd, hn => by
    rw [DataW.weightsAll, List.mem_append]
    rcases List.mem_cons.1 hd with rfl | hd
    · exact .inl hn
    · exact .inr (weights_all hd hn)

theorem open_five {H : Type} {enc : TypeId × Value → H} {P : Program} {w : World} {base : Nat} {spare : Nat → Bool} {held : Bool} {n : Nat} {t : TypeId} {f0 f1 f2 f3 f4 : Field} {cs : List Value} {x : DataW H × List MemPlace} (hs : P.underlying t = some (.struct #[f0, f1, f2, f3, f4]))
    (hone : oneCellFields P #[f0, f1, f2, f3, f4] = true) (hl : cs.length = 5) (h : DataW.trod enc P w base spare held n t cs = some x) :
    ∃ (v0 v1 v2 v3 v4 : Value) (y0 y1 y2 y3 y4 : DataW H × List MemPlace) (n : Nat), cs = [v0, v1, v2, v3, v4] ∧ x.1 = .agg [y0.1, y1.1, y2.1, y3.1, y4.1] ∧
      DataW.trod enc P w base spare held n f0.type [v0] = some y0 ∧ DataW.trod enc P w base spare held n f1.type [v1] = some y1 ∧ DataW.trod enc P w base spare held n f2.type [v2] = some y2 ∧ DataW.trod enc P w base spare held n f3.type [v3] = some y3 ∧ DataW.trod enc P w base spare held n f4.type [v4] = some y4 := by
  match cs, hl with
  | [c0, c1, c2, c3, c4], _ =>
    obtain ⟨xs, n, _, hx, _, hlen, hg⟩ := DataW.trod_struct hs h
    obtain ⟨o0, k0⟩ := hone_of hone 0 f0 rfl
    obtain ⟨o1, k1⟩ := hone_of hone 1 f1 rfl
    obtain ⟨o2, k2⟩ := hone_of hone 2 f2 rfl
    obtain ⟨o3, k3⟩ := hone_of hone 3 f3 rfl
    obtain ⟨o4, k4⟩ := hone_of hone 4 f4 rfl
    match xs, hlen with
    | [y0, y1, y2, y3, y4], _ =>
      subst hx
      exact ⟨c0, c1, c2, c3, c4, y0, y1, y2, y3, y4, n, rfl, by simp, by simpa [Value.cells, o0, k0] using hg 0 f0 rfl, by simpa [Value.cells, o1, k1] using hg 1 f1 rfl, by simpa [Value.cells, o2, k2] using hg 2 f2 rfl, by simpa [Value.cells, o3, k3] using hg 3 f3 rfl, by simpa [Value.cells, o4, k4] using hg 4 f4 rfl⟩

theorem open_letters {H : Type} {enc : TypeId × Value → H} {W : World} {b0 : Nat} {sp : Nat → Bool} {held : Bool} {fuel : Nat} {v : Value} {y : DataW H × List MemPlace}
    (h : DataW.trod enc Try.prog W b0 sp held fuel 26 [v] = some y) (hw : ∀ m ∈ DataW.weights Try.prog 26 y.1, m ≤ reachBytes) :
    ∃ A n c ps, v = .slice A n c ∧ ps.length = n ∧ n ≤ c ∧ c ≤ maxLen ∧ n * 56 ≤ reachBytes ∧ LRow W A ps ∧ ∀ p ∈ ps, Byt (txt p.1) ∧ (txt p.1).length ≤ reachBytes := by
  rcases open_slice Try.underlying26 h with ⟨hv, hy⟩ | ⟨a, len, cap, m, n, D, Pl, hv, hb, hl, hm, hmm, hx, hi⟩
  · simp at hv
    exact ⟨none, 0, 0, [], hv, rfl, Nat.le_refl _, Nat.zero_le _, by simp [reachBytes], LRow.nil, by simp⟩
  · simp at hv
    subst hx
    have hml : len ≤ m := by rw [hmm]; split <;> omega
    have hz : ∀ i, i < len → ∃ p : Ltr × Value, (∀ j u, (cells5 p.1 p.2)[j]? = some u → W.cell? ((a.add (i * 5)).add j) = some u) ∧ Part W p.2 (txt p.1) ∧ Byt (txt p.1) ∧ (txt p.1).length ≤ reachBytes := fun i hi' => by
      obtain ⟨cs', hc, ht'⟩ := hi i (by omega)
      rw [show Try.prog.cellsOf 36 = 5 from by kernel_rfl] at hc
      obtain ⟨_, hcl, hat⟩ := World.cells?_some hc
      obtain ⟨v0, v1, v2, v3, v4, y0, y1, y2, y3, y4, n', rfl, hy, g0, g1, g2, g3, g4⟩ := open_five Try.underlying36 (by kernel_rfl) hcl ht'
      obtain ⟨b, e0, _, _⟩ := DataW.trod_bool Try.underlying4 g0
      obtain ⟨z1, e1, _, w1⟩ := DataW.trod_int Try.underlying3 g1
      obtain ⟨z2, e2, _, w2⟩ := DataW.trod_int Try.underlying3 g2
      obtain ⟨z3, e3, _, w3⟩ := DataW.trod_int Try.underlying23 g3
      obtain ⟨A', l, c', xs, e4, h1, h2, hl', hr, hw', hd⟩ := open_row Try.underlying22 Try.underlying5 (by kernel_rfl) g4
      simp only [List.cons.injEq, and_true] at e0 e1 e2 e3
      subst e0 e1 e2 e3 e4
      refine ⟨((b, z1, z2, z3, xs), .slice A' l c'), fun j u hu => ?_, ⟨A', c', by rw [← hl'], by rw [hl']; exact h1, h2, hr⟩, fun x hx => ?_, ?_⟩
      · have hj : j < 5 := by
          have := (List.getElem?_eq_some_iff.1 hu).1
          simpa [cells5] using this
        rw [hat j hj]
        exact hu
      · have : (decide ((0 : Int) ≤ x) && decide (x ≤ (255 : Int))) = true := hw' x hx
        simpa using this
      · rcases hd with ⟨spr, hd | ⟨hd, h0⟩⟩
        · have hin : D i ∈ (List.range len).map D := List.mem_map.2 ⟨i, List.mem_range.2 hi', rfl⟩
          have := hw ((xs.length + spr.length) * 1) (by
            rw [DataW.weights, Try.underlying26]
            refine List.mem_cons_of_mem _ (List.mem_append_left _ (weights_all hin ?_))
            have hy' : D i = _ := hy
            rw [hy', hd]
            simp [DataW.weights, DataW.weightsEach, Try.underlying36, Try.underlying22, bytesU8])
          have h5 : xs.length ≤ reachBytes := by omega
          exact h5
        · have h5 : xs.length ≤ reachBytes := by rw [hl', h0]; exact Nat.zero_le _
          exact h5
    obtain ⟨f, hf⟩ := Deep.choose_lt hz
    refine ⟨some a, len, cap, (List.range len).map f, hv, by simp, hl, hm, ?_, ⟨?_, ?_⟩, ?_⟩
    · have := hw ((len + (m - len)) * 56) (by
        rw [DataW.weights, Try.underlying26]
        simp [bytesLetter])
      have h2 : len * 56 ≤ (len + (m - len)) * 56 := Nat.mul_le_mul_right _ (by omega)
      omega
    · by_cases h0 : len = 0
      · subst h0; exact .inl rfl
      · obtain ⟨b, off, spot⟩ := a
        have c0 := (hf 0 (by omega)).1 0 _ rfl
        have hs : spot = none := by simpa [Addr.add] using World.cell?_spot c0
        subst hs
        have hlt : b < W.heap.size := by
          have := cell_lt c0
          simpa [Addr.add] using this
        refine .inr ⟨b, off, rfl, hlt, fun k u hu => ?_⟩
        have hk : k < len * 5 := by
          have := (List.getElem?_eq_some_iff.1 hu).1
          rw [flat_len] at this
          simpa using this
        have hq : ((List.range len).map f)[k / 5]? = some (f (k / 5)) := by
          rw [List.getElem?_map, List.getElem?_range (by omega)]; rfl
        have h5 := flat_at hq (k % 5) (Nat.mod_lt _ (by omega))
        rw [show k / 5 * 5 + k % 5 = k by omega, hu] at h5
        have := (hf (k / 5) (by omega)).1 (k % 5) u h5.symm
        rw [addr_off, addr_off] at this
        rw [show off + k = off + k / 5 * 5 + k % 5 by omega]
        exact this
    · intro p hp
      obtain ⟨i, hi', rfl⟩ := List.mem_map.1 hp
      exact (hf i (List.mem_range.1 hi')).2.1
    · intro p hp
      obtain ⟨i, hi', rfl⟩ := List.mem_map.1 hp
      exact (hf i (List.mem_range.1 hi')).2.2
end Go.Proofs.Ytfgkeodkakidpaa
