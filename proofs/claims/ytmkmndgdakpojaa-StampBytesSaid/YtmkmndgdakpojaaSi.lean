/- What is no block; the reference's padding, bytes and hash. -/
import Derived.Test.YtmkmndgdakpojaaSd
import Derived.Test.YtmkmndgdakpojaaSh0
namespace Go.Proofs.Ytmkmndgdakpojaa
open Go.RowKit
set_option linter.unusedSimpArgs false
set_option linter.unusedVariables false
set_option maxRecDepth 100000

theorem wordB_len (x : Int) : (wordB x).length = 4 := rfl
theorem bytesL_len (l : List Int) : (bytesL l).length = 4 * l.length := by
  unfold bytesL
  induction l with
  | nil => rfl
  | cons a r ih => simp [List.flatMap_cons, wordB_len] at ih ⊢; omega
theorem sumL_len (xs : List Int) : (sumL xs).length = 32 := by
  unfold sumL
  rw [bytesL_len]
  unfold hashL
  rw [foldB_len]

def IsNoBlk (w : World) (e : Ending) (w' : World) : Prop := e = .returned (.tuple #[.agg #[.int .u32 0, .int .u32 0, .int .u32 0, .int .u32 0, .int .u32 0, .int .u32 0, .int .u32 0, .int .u32 0], .int .i64 1]) ∧ Below w.heap.size w w'
theorem isBytes_of_own {w wr : World} {A : Option Addr} {c n : Nat} {ys : List Int} (hown : wr.ownsRow w.heap.size 5 1 (.slice A n c) n (nums .u8 ys)) (hn : n = ys.length) (h0 : 0 < n) (hb : Below w.heap.size w wr) : IsBytes w ys (.returned (.slice A n c)) wr := by
  obtain ⟨g, cap, he, hg, hlt⟩ := hown.form h0
  simp only [Value.slice.injEq] at he
  obtain ⟨rfl, _, rfl⟩ := he
  subst hn
  have hc : ys.length ≤ c := by
    rcases hown.2 with ⟨h1, _⟩ | ⟨_, _, _, h1, _, _, h2, _⟩
    · cases h1
    · simp only [Value.slice.injEq] at h1
      rw [h1.2.2]; exact h2
  exact ⟨g, c, rfl, hc, hg, Rd.of_own hown, hb⟩

/-- A row of its own that reads as bytes, and may be appended to. -/
def IsBytesO (w : World) (ys : List Int) (e : Ending) (w' : World) : Prop :=
  ∃ B c, e = .returned (.slice (some ⟨B, 0, none⟩) ys.length c) ∧ w'.ownsRow w.heap.size 5 1 (.slice (some ⟨B, 0, none⟩) ys.length c) ys.length (nums .u8 ys) ∧ Below w.heap.size w w'
theorem isBytesO_of_own {w wr : World} {A : Option Addr} {c n : Nat} {ys : List Int} (hown : wr.ownsRow w.heap.size 5 1 (.slice A n c) n (nums .u8 ys)) (hn : n = ys.length) (h0 : 0 < n) (hb : Below w.heap.size w wr) : IsBytesO w ys (.returned (.slice A n c)) wr := by
  obtain ⟨g, cap, he, hg, hlt⟩ := hown.form h0
  have he2 := he
  simp only [Value.slice.injEq] at he
  obtain ⟨rfl, _, rfl⟩ := he
  subst hn
  exact ⟨g, c, rfl, hown, hb⟩
theorem IsBytesO.bytes {w : World} {ys : List Int} {e : Ending} {w' : World} (h0 : 0 < ys.length) (h : IsBytesO w ys e w') : IsBytes w ys e w' := by
  obtain ⟨B, c, rfl, hown, hb⟩ := h
  exact isBytes_of_own hown rfl h0 hb
theorem own_base {w : World} {b base : Nat} {e : TypeId} {s n : Nat} {v : Value} {xs : List Value} (h : w.ownsRow base e s v n xs) (hb : b ≤ base) : w.ownsRow b e s v n xs := by
  refine ⟨h.1, ?_⟩
  rcases h.2 with h1 | ⟨g, cap, cur, h1, h2, hh, hc⟩
  · exact .inl h1
  · exact .inr ⟨g, cap, cur, h1, Nat.le_trans hb h2, hh, hc⟩

theorem append_none {P : Program} (w : World) (t ty e : TypeId) (i : TypeInfo) (ht : P.underlying t = some (.slice e)) (hi : P.info? e = some i) (base size c : Nat)
    (v : Value) (n : Nat) (xs : List Value) (hown : w.ownsRow base e size v n xs) :
    (Builtin.append_ #[t, t] ty #[v, .slice none 0 c]).run P w = .ok v w := by
  rcases hown.2 with ⟨rfl, rfl⟩ | ⟨g, cap, cur, rfl, _, _, hnc, _⟩
  · simp [Builtin.append_, run_underlying ht, sizeOf, typeInfo, hi, Builtin.lenOf, Builtin.firstCells]
  · simp [Builtin.append_, run_underlying ht, sizeOf, typeInfo, hi, Builtin.lenOf, Builtin.firstCells, hnc, storeCells]

/-- Bytes, appended to a row of one's own: nil let in. -/
theorem append_rd {ops : Array Oper} {rest : List Oper} {o : Oper} {a : Act} {w : World} {Q : Exit → Act → World → Prop} (hgd : o.guard = none) (s x : Operand)
    (ho : o.op = .call { callee := .builtin .append, args := #[s, x], argTypes := #[22, 22] }) (base : Nat)
    (v : Value) (k : Nat) (xs : List Value) (hs : a.eval s = v) (hown : w.ownsRow base 5 1 v k xs)
    (A : Option Addr) (n c : Nat) (ys : List Int) (hx : a.eval x = .slice A n c) (hn : ys.length = n) (hr : Rd w A (nums .u8 ys)) (hb1 : k + n ≤ 100000) (hbase : base ≤ w.heap.size)
    (h : ∀ v' w', w'.ownsRow base 5 1 v' (k + n) (xs ++ nums .u8 ys) → w.grownBy w' v.ownBlock → wpList Try.prog ops Q rest (a.put o.dst v') w') : wpList Try.prog ops Q (o :: rest) a w := by
  obtain ⟨i0, hi, hz0, hz1, hz2⟩ := info_parts infoByte
  have hsome : ∀ ad : Addr, A = some ad → (∀ j u, (nums .u8 ys)[j]? = some u → w.cell? (ad.add j) = some u) → wpList Try.prog ops Q (o :: rest) a w := by
    intro ad hA hc
    subst hA
    exact wpList_append_own _ hgd s x 22 ho base 5 i0 (.int .u8 0) 1 1 Try.underlying22 hi hz0 hz1 hz2 rfl (by decide) v k xs hs hown ad n c (nums .u8 ys) hx (by simp [hn]) hc
      (fun u hu => by obtain ⟨x, _, rfl⟩ := List.mem_map.1 hu; rfl) (by unfold maxLen; omega) (by omega) hbase (fun v' w' h1 h2 _ => h v' w' h1 h2)
  cases A with
  | some ad =>
    rcases Nat.eq_zero_or_pos n with h0 | h0
    · have : ys = [] := List.eq_nil_of_length_eq_zero (by omega)
      subst this
      exact hsome ad rfl (fun j u hu => by simp at hu)
    · obtain ⟨b, off, he, hlt, hc⟩ := hr.at_ (by simp; omega)
      cases he
      exact hsome _ rfl (fun j u hu => by rw [add_off]; exact hc j u hu)
  | none =>
    have h0 : ys = [] := by
      rcases hr with h | ⟨_, _, h, _⟩
      · simpa using h
      · cases h
    subst h0
    have h0 : n = 0 := by simpa using hn.symm
    subst h0
    refine wpList_plain hgd fun K hK => ?_
    have hr := append_none (P := Try.prog) w 22 o.type 5 i0 Try.underlying22 hi base 1 c v k xs hown
    unfold Oper.wp execOp
    simp only [ho, resolve, invoke, builtin, Sem.run_bind, Sem.run_pure, Result.andThen_ok, List.map_toArray, List.map_cons, List.map_nil, hs, hx, hr]
    exact hK _ _ (h v w (by simpa using hown) (World.grownBy.refl _ _))

end Go.Proofs.Ytmkmndgdakpojaa
