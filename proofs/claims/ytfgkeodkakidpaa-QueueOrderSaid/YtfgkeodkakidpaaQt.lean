/- What is said of a queue whose letters came one behind the other; how truth values were read. -/
import Derived.Test.YtfgkeodkakidpaaQs
namespace Go.Proofs.Ytfgkeodkakidpaa
open Go.RowKit Go.ChangeShapes Go.WideShapes Go.ChangeAt
set_option linter.unusedSimpArgs false
set_option linter.unusedVariables false
set_option maxRecDepth 100000

/-- Numbers that count on, with texts. -/
def ords : Int → List (List Int) → List (Int × List Int)
  | _, [] => []
  | z, x :: r => (z, x) :: ords (z + 1) r
theorem ords_snoc (z : Int) (L : List (List Int)) (x : List Int) : ords z (L ++ [x]) = ords z L ++ [(z + L.length, x)] := by
  induction L generalizing z with
  | nil => simp [ords]
  | cons y r ih => simp [ords, ih, Int.add_assoc, Int.add_comm 1]
theorem ords_len (z : Int) (L : List (List Int)) : (ords z L).length = L.length := by
  induction L generalizing z with
  | nil => rfl
  | cons y r ih => simp [ords, ih]
abbrev keyL (l : Ltr) : Int × List Int := (l.2.2.2.1, txt l)
theorem ords_cons {ls : List Ltr} {z : Int} {x : List Int} {r : List (List Int)} (h : ls.map keyL = ords z (x :: r)) : ∃ l ls', ls = l :: ls' ∧ l.2.2.2.1 = z ∧ txt l = x ∧ ls'.map keyL = ords (z + 1) r := by
  match ls, h with
  | l :: ls', h =>
    rw [List.map_cons, ords, List.cons.injEq, Prod.mk.injEq] at h
    exact ⟨l, ls', rfl, h.1.1, h.1.2, h.2⟩
theorem drop_at {L : List (List Int)} {o : Nat} (h : o < L.length) : L.drop o = L.getD o [] :: L.drop (o + 1) := by
  rw [List.drop_eq_getElem_cons h]
  simp [List.getD, h]

/-- A slice of truth values that was read. -/
theorem open_bools {H : Type} {enc : TypeId × Value → H} {W : World} {base b0 : Nat} {sp : Nat → Bool} {held : Bool} {v : Value} {d : DataW H} {p : List MemPlace} (h : DataW.Trod enc Try.prog W b0 sp held 45 v d p) (hv : Value.okWide Try.prog W .any base 45 v) :
    ∃ A n c, ∃ bs : List Bool, v = .slice A n c ∧ bs.length = n ∧ n ≤ c ∧ c ≤ maxLen ∧ Rd W A (bs.map Value.bool) := by
  obtain ⟨A, n, c, rfl⟩ := okWide_slice Try.underlying45 hv
  obtain ⟨fuel, hf⟩ := h
  rcases Deep.open_slice1 Try.underlying45 (by kernel_rfl) hf with ⟨hv, hy⟩ | ⟨a, len, cap, m, n', V, D, Pl, hv, hb, hl, hm, hmm, hy, hi⟩
  · simp [Value.cells] at hv
    obtain ⟨rfl, rfl, rfl⟩ := hv
    exact ⟨none, 0, 0, [], rfl, rfl, Nat.le_refl _, Nat.zero_le _, .inl rfl⟩
  · simp [Value.cells] at hv
    obtain ⟨rfl, rfl, rfl⟩ := hv
    have hml : n ≤ m := by rw [hmm]; split <;> omega
    have hz : ∀ i, i < n → ∃ z : Bool, V i = .bool z := fun i hi' => by
      obtain ⟨z, e1, _⟩ := DataW.trod_bool Try.underlying4 (hi i (by omega)).2
      simp at e1
      exact ⟨z, e1⟩
    obtain ⟨f, hf2⟩ := Deep.choose_lt hz
    refine ⟨some a, n, c, (List.range n).map f, rfl, by simp, hl, hm, ?_⟩
    by_cases h0 : n = 0
    · subst h0; exact .inl rfl
    · obtain ⟨b, off, spot⟩ := a
      have c0 := (hi 0 (by omega)).1
      have hs : spot = none := by simpa [Addr.add] using World.cell?_spot c0
      subst hs
      have hlt : b < W.heap.size := by
        have := cell_lt c0
        simpa [Addr.add] using this
      refine .inr ⟨b, off, rfl, hlt, fun i v hv => ?_⟩
      have hil : i < n := by
        have := (List.getElem?_eq_some_iff.1 hv).1
        simpa using this
      have := (hi i (by omega)).1
      rw [addr_off, hf2 i hil] at this
      rw [this]
      simp [List.getElem?_map, List.getElem?_range hil] at hv
      rw [← hv]

/-- What holds at the head of each round. -/
def ORD (w x : World) (C K B : Nat) (cl sz seq : Int) (I : Option Addr) (ci : Nat) (us : List Value) (L : List (List Int)) (o : Nat) (D : Option Addr) (m d : Nat) (qs : List (Ltr × Value)) : Prop :=
  (Below w.heap.size w x ∧ w.heap.size ≤ C ∧ C < K ∧ K < B ∧ B ≤ x.heap.size) ∧
  CfgAt x C (.slice none 0 0) 0 0 cl sz 0 0 0 0 0 0 ∧ (At2 x K (.int .u64 (seq + (L.length : Int))) (.slice D m d) ∧ QAt x D m d qs) ∧
  (x.ownsRow B 22 1 (.slice I L.length ci) L.length us ∧ Parts w us L) ∧
  (o ≤ L.length ∧ ((L.length - o : Nat) : Int) ≤ sz ∧ (∀ y ∈ L, Byt y ∧ y.length ≤ 64)) ∧ TxtOk (qs.map (·.1)) ∧ (qs.map (·.1)).map keyL = ords (seq + (o : Int)) (L.drop o)
theorem ORD.len {w x : World} {C K B : Nat} {cl sz seq : Int} {I : Option Addr} {ci : Nat} {us : List Value} {L : List (List Int)} {o : Nat} {D : Option Addr} {m d : Nat} {qs : List (Ltr × Value)} (h : ORD w x C K B cl sz seq I ci us L o D m d qs) : m = L.length - o := by
  obtain ⟨_, _, ⟨_, hq⟩, _, _, _, ho⟩ := h
  have := congrArg List.length ho
  rw [List.length_map, ords_len, List.length_drop, hq.len] at this
  exact this
theorem ORD.later {w x y : World} {C K B : Nat} {cl sz seq : Int} {I : Option Addr} {ci : Nat} {us : List Value} {L : List (List Int)} {o : Nat} {D : Option Addr} {m d : Nat} {qs : List (Ltr × Value)} (h : ORD w x C K B cl sz seq I ci us L o D m d qs) (hb : Below x.heap.size x y) : ORD w y C K B cl sz seq I ci us L o D m d qs := by
  obtain ⟨⟨h1, h2, h3, h4, h5⟩, h6, ⟨h7, h8⟩, ⟨h9, h10⟩, h11, h12, h13⟩ := h
  exact ⟨⟨bgo h1 hb, h2, h3, h4, Nat.le_trans h5 hb.size⟩, h6.below hb (by omega), ⟨h7.below hb (by omega), h8.below hb⟩, ⟨own_keepB h9 hb, h10⟩, h11, h12, h13⟩
/-- A new queue is stored. -/
theorem ORD.store {w x y : World} {C K B : Nat} {cl sz seq : Int} {I I' : Option Addr} {ci ci' : Nat} {us us' : List Value} {L L' : List (List Int)} {o o' : Nat} {D D' : Option Addr} {m d m' d' b : Nat} {qs qs' : List (Ltr × Value)} (h : ORD w x C K B cl sz seq I ci us L o D m d qs)
    (hb : Below B x y) (hB : B ≤ y.heap.size) (hin : y.ownsRow B 22 1 (.slice I' L'.length ci') L'.length us') (hP : Parts w us' L') (hq : QOwn y b D' m' d' qs') (hK : K < b)
    (ho : o' ≤ L'.length) (hs : ((L'.length - o' : Nat) : Int) ≤ sz) (hL : ∀ y ∈ L', Byt y ∧ y.length ≤ 64) (ht : TxtOk (qs'.map (·.1))) (hk : (qs'.map (·.1)).map keyL = ords (seq + (o' : Int)) (L'.drop o')) :
    ORD w ((y.setCell ⟨K, 0, none⟩ (.int .u64 (seq + (L'.length : Int)))).setCell ⟨K, 1, none⟩ (.slice D' m' d')) C K B cl sz seq I' ci' us' L' o' D' m' d' qs' := by
  obtain ⟨⟨h1, h2, h3, h4, h5⟩, h6, ⟨h7, h8⟩, ⟨h9, h10⟩, h11, h12, h13⟩ := h
  exact ⟨⟨below_set2 (h1.trans (hb.mono (by omega))) (by omega), h2, h3, h4, by rw [size_setCell, size_setCell]; exact hB⟩, cfg_set2 (h6.below hb (by omega)) (by omega), ⟨(h7.below hb h4).set2, ((hq.set hK).set hK).at_⟩,
    ⟨own_setCell (own_setCell hin h4) h4, hP⟩, ⟨ho, hs, hL⟩, ht, hk⟩
end Go.Proofs.Ytfgkeodkakidpaa
