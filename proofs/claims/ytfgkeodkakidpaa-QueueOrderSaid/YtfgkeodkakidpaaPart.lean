/- Slices of bytes within slices: parts; copies of them; how they were read. -/
import Derived.Test.YtfgkeodkakidpaaApp
import Derived.Test.YtfgkeodkakidpaaBytes
import Derived.Deep.Slices
namespace Go.Proofs.Ytfgkeodkakidpaa
open Go.RowKit Go.ChangeShapes Go.WideShapes
set_option linter.unusedSimpArgs false
set_option linter.unusedVariables false
set_option maxRecDepth 100000

theorem infoByteP : (Try.prog.info? 5).map (fun i => (i.zero, i.size, i.bytes)) = some (some (.int .u8 0), 1, 1) := by kernel_rfl
theorem infoBytes : (Try.prog.info? 22).map (fun i => (i.zero, i.size, i.bytes)) = some (some (.slice none 0 0), 1, 24) := by kernel_rfl
theorem nums_oneCell {k : IntKind} {xs : List Int} : ∀ u ∈ nums k xs, u.oneCell' = true := fun u hu => by
  obtain ⟨x, _, rfl⟩ := List.mem_map.1 hu; rfl

/-- A slice value that reads as bytes. -/
def Part (w : World) (v : Value) (xs : List Int) : Prop := ∃ A c, v = .slice A xs.length c ∧ xs.length ≤ c ∧ c ≤ maxLen ∧ Rd w A (nums .u8 xs)
theorem Part.below {w w' : World} {v : Value} {xs : List Int} (h : Part w v xs) (hb : Below w.heap.size w w') : Part w' v xs := by
  obtain ⟨A, c, rfl, h1, h2, hr⟩ := h
  exact ⟨A, c, rfl, h1, h2, hr.below hb⟩
theorem Part.one {w : World} {v : Value} {xs : List Int} (h : Part w v xs) : v.oneCell' = true := by
  obtain ⟨A, c, rfl, _⟩ := h; rfl
/-- The values vs read as the rows of bytes L, one by one. -/
def Parts (w : World) (vs : List Value) (L : List (List Int)) : Prop := vs.length = L.length ∧ ∀ i, i < L.length → Part w (vs.getD i undef) (L.getD i [])
theorem Parts.below {w w' : World} {vs : List Value} {L : List (List Int)} (h : Parts w vs L) (hb : Below w.heap.size w w') : Parts w' vs L :=
  ⟨h.1, fun i hi => (h.2 i hi).below hb⟩
theorem Parts.nil {w : World} : Parts w [] [] := ⟨rfl, fun i hi => by simp at hi⟩
theorem Parts.snoc {w : World} {vs : List Value} {L : List (List Int)} {v : Value} {xs : List Int} (h : Parts w vs L) (hp : Part w v xs) : Parts w (vs ++ [v]) (L ++ [xs]) := by
  refine ⟨by simp [h.1], fun i hi => ?_⟩
  have hl := h.1
  by_cases e : i < L.length
  · have := h.2 i e
    simpa [List.getD, List.getElem?_append_left (show i < vs.length by omega), List.getElem?_append_left e] using this
  · have e2 : i = L.length := by simp at hi; omega
    subst e2
    have h1 : (vs ++ [v]).getD L.length undef = v := by rw [← hl]; simp [List.getD]
    have h2 : (L ++ [xs]).getD L.length [] = xs := by simp [List.getD]
    rw [h1, h2]; exact hp
theorem Parts.one {w : World} {vs : List Value} {L : List (List Int)} (h : Parts w vs L) : ∀ u ∈ vs, u.oneCell' = true := fun u hu => by
  obtain ⟨i, hi, rfl⟩ := List.mem_iff_getElem.1 hu
  have := (h.2 i (by rw [← h.1]; exact hi)).one
  simpa [List.getD, hi] using this
theorem vs_at {vs : List Value} {i : Nat} (h : i < vs.length) : vs[i]? = some (vs.getD i undef) := by simp [List.getD, h]

/-- Rows of one's own of other elements, through what a row grows by. -/
def ElemNot (w : World) (row : Option Nat) (e : TypeId) : Prop := ∀ g, row = some g → ∃ cs t m, w.heap[g]? = some (.cells cs t m) ∧ t ≠ e
theorem own_elemNot {w : World} {base : Nat} {e t : TypeId} {s n : Nat} {v : Value} {xs : List Value} (h : w.ownsRow base t s v n xs) (hne : t ≠ e) : ElemNot w v.ownBlock e := fun g hg => by
  rcases h.2 with ⟨rfl, _⟩ | ⟨g', cap, cur, rfl, _, hh, _⟩
  · simp [Value.ownBlock] at hg
  · have : g' = g := by simpa [Value.ownBlock] using hg
    subst this
    exact ⟨_, _, _, hh, hne⟩
theorem own_keep {w w' : World} {base : Nat} {e : TypeId} {s n : Nat} {v : Value} {xs : List Value} {row : Option Nat} (h : w.ownsRow base e s v n xs) (hg : w.grownBy w' row) (hr : ElemNot w row e) : w'.ownsRow base e s v n xs := by
  refine ⟨h.1, ?_⟩
  rcases h.2 with h1 | ⟨g, cap, cur, h1, hb, hh, hc⟩
  · exact .inl h1
  · refine .inr ⟨g, cap, cur, h1, hb, (hg.block g (Array.getElem?_eq_some_iff.1 hh).1 fun e' => ?_).trans hh, hc⟩
    obtain ⟨cs, t, m, h2, h3⟩ := hr g e'.symm
    rw [h2] at hh
    injection hh with hh
    injection hh with _ ht
    exact h3 ht
theorem own_cap {w : World} {base : Nat} {e : TypeId} {n c : Nat} {A : Option Addr} {vs : List Value} (h : w.ownsRow base e 1 (.slice A n c) n vs) : n ≤ c ∧ c ≤ maxLen := by
  rcases h.2 with ⟨h1, h2⟩ | ⟨g, cap, cur, h1, hb, hg, hc⟩
  · cases h1; exact ⟨Nat.le_refl _, Nat.zero_le _⟩
  · simp only [Value.slice.injEq] at h1
    obtain ⟨_, _, rfl⟩ := h1
    exact ⟨hc.1, hc.2.1⟩
theorem Part.of_own {w : World} {base : Nat} {v : Value} {xs : List Int} (h : w.ownsRow base 5 1 v xs.length (nums .u8 xs)) : Part w v xs := by
  obtain ⟨A, c, rfl⟩ := own_slice h
  exact ⟨A, c, rfl, (own_cap h).1, (own_cap h).2, Rd.of_own h⟩

/-- Rows of one's own, one by one. -/
def OwnParts (w : World) (base : Nat) (vs : List Value) (L : List (List Int)) : Prop := vs.length = L.length ∧ ∀ i, i < L.length → w.ownsRow base 5 1 (vs.getD i undef) (L.getD i []).length (nums .u8 (L.getD i []))
theorem OwnParts.parts {w : World} {base : Nat} {vs : List Value} {L : List (List Int)} (h : OwnParts w base vs L) : Parts w vs L := ⟨h.1, fun i hi => Part.of_own (h.2 i hi)⟩
theorem OwnParts.keep {w w' : World} {base : Nat} {vs : List Value} {L : List (List Int)} {row : Option Nat} (h : OwnParts w base vs L) (hg : w.grownBy w' row) (hr : ElemNot w row 5) : OwnParts w' base vs L := ⟨h.1, fun i hi => own_keep (h.2 i hi) hg hr⟩
theorem OwnParts.alloc {w : World} {base : Nat} {vs : List Value} {L : List (List Int)} (h : OwnParts w base vs L) (o : Obj) : OwnParts (w.alloc o) base vs L := ⟨h.1, fun i hi => (h.2 i hi).alloc _⟩
theorem OwnParts.nil {w : World} {base : Nat} : OwnParts w base [] [] := ⟨rfl, fun i hi => by simp at hi⟩
theorem OwnParts.snoc {w : World} {base : Nat} {vs : List Value} {L : List (List Int)} {v : Value} {xs : List Int} (h : OwnParts w base vs L) (hp : w.ownsRow base 5 1 v xs.length (nums .u8 xs)) : OwnParts w base (vs ++ [v]) (L ++ [xs]) := by
  refine ⟨by simp [h.1], fun i hi => ?_⟩
  have hl := h.1
  by_cases e : i < L.length
  · have := h.2 i e
    simpa [List.getD, List.getElem?_append_left (show i < vs.length by omega), List.getElem?_append_left e] using this
  · have e2 : i = L.length := by simp at hi; omega
    subst e2
    have h1 : (vs ++ [v]).getD L.length undef = v := by rw [← hl]; simp [List.getD]
    have h2 : (L ++ [xs]).getD L.length [] = xs := by simp [List.getD]
    rw [h1, h2]; exact hp

/-- A slice of bytes' slices that was read: its form. -/
theorem open_parts {H : Type} {enc : TypeId × Value → H} {W : World} {base b0 : Nat} {sp : Nat → Bool} {held : Bool} {v : Value} {d : DataW H} {p : List MemPlace} (h : DataW.Trod enc Try.prog W b0 sp held 44 v d p) (hv : Value.okWide Try.prog W .any base 44 v) :
    ∃ A n c vs L, v = .slice A n c ∧ n ≤ c ∧ c ≤ maxLen ∧ vs.length = n ∧ Rd W A vs ∧ Parts W vs L ∧ ∀ xs ∈ L, Byt xs := by
  obtain ⟨A, n, c, rfl⟩ := okWide_slice Try.underlying44 hv
  obtain ⟨fuel, hf⟩ := h
  rcases Deep.open_slice1 Try.underlying44 (by kernel_rfl) hf with ⟨hv, hy⟩ | ⟨a, len, cap, m, n', V, D, Pl, hv, hb, hl, hm, hmm, hy, hi⟩
  · simp [Value.cells] at hv
    obtain ⟨rfl, rfl, rfl⟩ := hv
    exact ⟨none, 0, 0, [], [], rfl, Nat.le_refl _, Nat.zero_le _, rfl, .inl rfl, Parts.nil, by simp⟩
  · simp [Value.cells] at hv
    obtain ⟨rfl, rfl, rfl⟩ := hv
    have hml : n ≤ m := by rw [hmm]; split <;> omega
    have hz : ∀ i, i < n → ∃ xs : List Int, Part W (V i) xs ∧ Byt xs := fun i hi' => by
      obtain ⟨A', l, c', xs, he, h1, h2, hl', hr, hw, _⟩ := open_row Try.underlying22 Try.underlying5 (by kernel_rfl) (hi i (by omega)).2
      refine ⟨xs, ⟨A', c', by rw [he, hl'], by omega, h2, hr⟩, fun x hx => ?_⟩
      have : (decide ((0 : Int) ≤ x) && decide (x ≤ (255 : Int))) = true := hw x hx
      simpa using this
    obtain ⟨f, hf2⟩ := Deep.choose_lt hz
    refine ⟨some a, n, c, (List.range n).map V, (List.range n).map f, rfl, hl, hm, by simp, ?_, ⟨by simp, fun i hi' => ?_⟩, ?_⟩
    · by_cases h0 : n = 0
      · subst h0; exact .inl rfl
      · obtain ⟨b, off, spot⟩ := a
        have c0 := (hi 0 (by omega)).1
        have hs : spot = none := by simpa [Addr.add] using World.cell?_spot c0
        subst hs
        have hlt : b < W.heap.size := by
          have := cell_lt c0
          simpa [Addr.add] using this
        refine .inr ⟨b, off, rfl, hlt, fun i v hv => ?_⟩
        have hil : i < n := by
          have := (List.getElem?_eq_some_iff.1 hv).1
          simpa using this
        have := (hi i (by omega)).1
        rw [addr_off] at this
        rw [this]
        simp [List.getElem?_map, List.getElem?_range hil] at hv
        rw [← hv]
    · have hin : i < n := by simpa using hi'
      have h1 : ((List.range n).map V).getD i undef = V i := by simp [List.getD, List.getElem?_range hin]
      have h2 : ((List.range n).map f).getD i [] = f i := by simp [List.getD, List.getElem?_range hin]
      rw [h1, h2]
      exact (hf2 i hin).1
    · intro xs hxs
      obtain ⟨i, hi', rfl⟩ := List.mem_map.1 hxs
      exact (hf2 i (List.mem_range.1 hi')).2

/-- A copy, in a row of its own. -/
def IsCopy (w : World) (xs : List Int) (e : Ending) (w' : World) : Prop := ∃ v, e = .returned v ∧ w'.ownsRow w.heap.size 5 1 v xs.length (nums .u8 xs) ∧ w.grownBy w' none
theorem clone_any (A : Option Addr) (n c : Nat) (xs : List Int) (w : World) (hn : xs.length = n) (hb : n ≤ 100000) (hx : Rd w A (nums .u8 xs)) :
    Calls Try.prog 24 #[.slice A n c] w (IsCopy w xs) := by
  obtain ⟨i0, hi, hz0, hz1, hz2⟩ := info_parts infoByteP
  cases A with
  | none =>
    have h0 : xs = [] := by
      rcases hx with h | ⟨_, _, h, _⟩
      · simpa using h
      · cases h
    subst h0
    obtain rfl : n = 0 := by simpa using hn.symm
    have hrun := fun W => Lib.run_eql_slice_nil (P := Try.prog) W 22 5 none 0 c 0 0 Try.underlying22
    go_enter Try.func24, Try.ntmps24
    go_wp2_with fail
    go_ret
    exact ⟨_, rfl, ⟨rfl, .inl ⟨rfl, rfl⟩⟩, World.grownBy.refl _ _⟩
  | some a =>
    have hrun := fun W => Lib.run_eql_slice_nil (P := Try.prog) W 22 5 (some a) n c 0 0 Try.underlying22
    subst hn
    have HX := Lib.hid hx
    clear hx
    go_enter Try.func24, Try.ntmps24
    go_wp2_with (at_builtin; refine append_vs rfl _ _ 22 rfl w.heap.size 5 i0 (.int .u8 0) 1 Try.underlying22 hi hz0 hz1 hz2 rfl (.slice (some ⟨w.heap.size, 0, none⟩) 0 0) 0 [] rfl ?c1 (some a) xs.length c (nums .u8 xs) rfl (by simp) (HX.out.below (bal brf _)) nums_oneCell (by unfold maxLen; omega) (by omega) (by rw [World.size_alloc]; omega) ?_; rotate_left; intro v6 w6 hown6 hgrow6)
    case c1 => exact ⟨rfl, .inr ⟨w.heap.size, 0, [].toArray, rfl, Nat.le_refl _, World.alloc_heap_new w _, Nat.le_refl _, Nat.zero_le _, rfl, rfl⟩⟩
    go_ret
    rw [Nat.zero_add, List.nil_append] at hown6
    refine ⟨v6, rfl, hown6, ?_⟩
    refine ⟨hgrow6.os, hgrow6.tape, hgrow6.output, ?_, fun k hk _ => ?_⟩
    · have := hgrow6.size
      rw [World.size_alloc] at this
      omega
    · refine (hgrow6.block k (by rw [World.size_alloc]; omega) ?_).trans (Below.heap_alloc _ _ k hk)
      simp [Value.ownBlock]
      omega
end Go.Proofs.Ytfgkeodkakidpaa
