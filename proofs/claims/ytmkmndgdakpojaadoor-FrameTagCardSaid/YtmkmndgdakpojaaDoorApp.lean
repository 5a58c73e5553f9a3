/- append on a row of one's own: of one value, of what a slice reads as; contracts of copies. -/
import Derived.Test.YtmkmndgdakpojaaDoorRow
namespace Go.Proofs.YtmkmndgdakpojaaDoor
open Go.RowKit
set_option linter.unusedSimpArgs false
set_option linter.unusedVariables false
set_option maxRecDepth 100000

theorem addr_off (b o j : Nat) : (Addr.mk b o none).add j = ⟨b, o + j, none⟩ := by
  unfold Addr.add
  by_cases h : j = 0 <;> simp [h]
theorem app_there (w : World) (vs : Array Value) (t : TypeId) (j : Nat) (u : Value) (h : vs.toList[j]? = some u) : (w.alloc (.cells vs t)).cell? ((Addr.mk w.heap.size 0 none).add j) = some u := by
  rw [addr_off, Nat.zero_add, World.cell?_alloc_at _ _ _ _ rfl]
  simpa using h

/-- A row of one's own, not empty, lies in a block that may be stored to. -/
theorem vrow_of_own {w : World} {base : Nat} {e : TypeId} {n : Nat} {v : Value} {vs : List Value} (h : w.ownsRow base e 1 v n vs) (h0 : 0 < n) :
    ∃ g c, v = .slice (some ⟨g, 0, none⟩) n c ∧ n ≤ c ∧ VRow w g vs ∧ base ≤ g ∧ g < w.heap.size ∧ vs.length = n := by
  have hl := h.1
  rcases h.2 with ⟨h1, h2⟩ | ⟨g, cap, cur, h1, hb, hg, hc⟩
  · rw [h2] at hl; simp at hl; omega
  · have hcells := h.cells (g := g) (by rw [h1]; rfl)
    have hlt : g < w.heap.size := (Array.getElem?_eq_some_iff.1 hg).1
    subst h1
    refine ⟨g, cap, rfl, by omega, fun j v hj => ⟨?_, by simp [World.frozen?, hg]⟩, hb, hlt, by omega⟩
    have := hcells j v hj
    rwa [addr_off, Nat.zero_add] at this

theorem append_one {P : Program} {ops : Array Oper} {rest : List Oper} {o : Oper} {a : Act} {w : World} {Q : Exit → Act → World → Prop} (hgd : o.guard = none) (s x : Operand) (t : TypeId)
    (ho : o.op = .call { callee := .builtin .append, args := #[s, x], argTypes := #[t, t] })
    (base : Nat) (e : TypeId) (i : TypeInfo) (z : Value) (bytes : Nat) (ht : P.underlying t = some (.slice e)) (hi : P.info? e = some i) (hz : i.zero = some z)
    (hsize : i.size = 1) (hby : i.bytes = bytes) (hzs : z.cells.size = 1)
    (v : Value) (k : Nat) (xs : List Value) (hs : a.eval s = v) (hown : w.ownsRow base e 1 v k xs) (u : Value) (te : TypeId) (hu : u.oneCell' = true) (hx : a.eval x = .slice (some ⟨w.heap.size, 0, none⟩) 1 1)
    (h63 : k + 1 ≤ maxLen) (hbytes : (k + 1) * bytes ≤ 140737488355328) (hbase : base ≤ w.heap.size)
    (h : ∀ v' w', w'.ownsRow base e 1 v' (k + 1) (xs ++ [u]) → (w.alloc (.cells #[u] te)).grownBy w' v.ownBlock → wpList P ops Q rest (a.put o.dst v') w') : wpList P ops Q (o :: rest) a (w.alloc (.cells #[u] te)) :=
  wpList_append_own _ hgd s x t ho base e i z 1 bytes ht hi hz hsize hby hzs (by decide) v k xs hs (hown.alloc _) ⟨w.heap.size, 0, none⟩ 1 1 [u] hx rfl (fun j y hy => app_there w #[u] te j y hy) (fun y hy => by simp at hy; rw [hy]; exact hu)
    h63 hbytes (by rw [World.size_alloc]; omega) (fun v' w' h1 h2 _ => h v' w' h1 h2)

theorem append_none' {P : Program} (w : World) (t ty e : TypeId) (i : TypeInfo) (ht : P.underlying t = some (.slice e)) (hi : P.info? e = some i) (base size c : Nat)
    (v : Value) (n : Nat) (xs : List Value) (hown : w.ownsRow base e size v n xs) :
    (Builtin.append_ #[t, t] ty #[v, .slice none 0 c]).run P w = .ok v w := by
  rcases hown.2 with ⟨rfl, rfl⟩ | ⟨g, cap, cur, rfl, _, _, hnc, _⟩
  · simp [Builtin.append_, run_underlying ht, sizeOf, typeInfo, hi, Builtin.lenOf, Builtin.firstCells]
  · simp [Builtin.append_, run_underlying ht, sizeOf, typeInfo, hi, Builtin.lenOf, Builtin.firstCells, hnc, storeCells]

/-- What a slice reads as, nil let in, behind a row of one's own. -/
theorem append_vs {P : Program} {ops : Array Oper} {rest : List Oper} {o : Oper} {a : Act} {w : World} {Q : Exit → Act → World → Prop} (hgd : o.guard = none) (s x : Operand) (t : TypeId)
    (ho : o.op = .call { callee := .builtin .append, args := #[s, x], argTypes := #[t, t] })
    (base : Nat) (e : TypeId) (i : TypeInfo) (z : Value) (bytes : Nat) (ht : P.underlying t = some (.slice e)) (hi : P.info? e = some i) (hz : i.zero = some z)
    (hsize : i.size = 1) (hby : i.bytes = bytes) (hzs : z.cells.size = 1)
    (v : Value) (k : Nat) (xs : List Value) (hs : a.eval s = v) (hown : w.ownsRow base e 1 v k xs)
    (A : Option Addr) (n c : Nat) (ys : List Value) (hx : a.eval x = .slice A n c) (hn : ys.length = n) (hr : Rd w A ys) (hy : ∀ u ∈ ys, u.oneCell' = true)
    (h63 : k + n ≤ maxLen) (hbytes : (k + n) * bytes ≤ 140737488355328) (hbase : base ≤ w.heap.size)
    (h : ∀ v' w', w'.ownsRow base e 1 v' (k + n) (xs ++ ys) → w.grownBy w' v.ownBlock → wpList P ops Q rest (a.put o.dst v') w') : wpList P ops Q (o :: rest) a w := by
  have hsome : ∀ ad : Addr, A = some ad → (∀ j u, ys[j]? = some u → w.cell? (ad.add j) = some u) → wpList P ops Q (o :: rest) a w := by
    intro ad hA hc
    subst hA
    exact wpList_append_own _ hgd s x t ho base e i z 1 bytes ht hi hz hsize hby hzs (by decide) v k xs hs hown ad n c ys hx (by simp [hn]) hc hy h63 hbytes hbase (fun v' w' h1 h2 _ => h v' w' h1 h2)
  cases A with
  | some ad =>
    rcases Nat.eq_zero_or_pos n with h0 | h0
    · have : ys = [] := List.eq_nil_of_length_eq_zero (by omega)
      subst this
      exact hsome ad rfl (fun j u hu => by simp at hu)
    · obtain ⟨b, off, he, hlt, hc⟩ := hr.at_ (by omega)
      cases he
      exact hsome _ rfl (fun j u hu => by rw [addr_off]; exact hc j u hu)
  | none =>
    have h0 : ys = [] := by
      rcases hr with h | ⟨_, _, h, _⟩
      · exact h
      · cases h
    subst h0
    have h0 : n = 0 := by simpa using hn.symm
    subst h0
    refine wpList_plain hgd fun K hK => ?_
    have hr := append_none' (P := P) w t o.type e i ht hi base 1 c v k xs hown
    unfold Oper.wp execOp
    simp only [ho, resolve, invoke, builtin, Sem.run_bind, Sem.run_pure, Result.andThen_ok, List.map_toArray, List.map_cons, List.map_nil, hs, hx, hr]
    exact hK _ _ (h v w (by simpa using hown) (World.grownBy.refl _ _))
end Go.Proofs.YtmkmndgdakpojaaDoor
