/- Two rows of one's own of the same elements: they stay apart through appends; an array by value, an element of it. -/
import Derived.Test.YtmkmndgdakpojaaDoorApp
import Derived.Maps.AppendAt
import Derived.Laws.PanicsMore
namespace Go.Proofs.YtmkmndgdakpojaaDoor
open Go.RowKit
set_option linter.unusedSimpArgs false
set_option linter.unusedVariables false
set_option maxRecDepth 100000

/-- Two slices lie in no block together. -/
def Apart (u v : Value) : Prop := ∀ g, u.ownBlock = some g → v.ownBlock ≠ some g
theorem Apart.symm {u v : Value} (h : Apart u v) : Apart v u := fun g h1 h2 => h g h2 h1
theorem Apart.none_ {v : Value} : Apart (.slice none 0 0) v := fun g h => by simp [Value.ownBlock] at h
/-- An append moves a row to a new block at the most. -/
theorem Apart.step {u u' v : Value} {m : Nat} (h : Apart u v) (hu : u'.ownBlock = u.ownBlock ∨ u'.ownBlock = some m) (hm : ∀ g, v.ownBlock = some g → g < m) : Apart u' v := fun g hg hv => by
  rcases hu with e | e
  · exact h g (e ▸ hg) hv
  · rw [e] at hg
    have := hm g hv
    injection hg with hg
    omega
theorem own_keep_apart {w w' : World} {base : Nat} {e : TypeId} {s n : Nat} {u v : Value} {xs : List Value} (h : w.ownsRow base e s v n xs) (hg : w.grownBy w' u.ownBlock) (ha : Apart u v) : w'.ownsRow base e s v n xs := by
  refine ⟨h.1, ?_⟩
  rcases h.2 with h1 | ⟨g, cap, cur, h1, hb, hh, hc⟩
  · exact .inl h1
  · refine .inr ⟨g, cap, cur, h1, hb, (hg.block g (Array.getElem?_eq_some_iff.1 hh).1 fun e' => ?_).trans hh, hc⟩
    exact ha g e'.symm (by rw [h1]; rfl)
theorem own_below {w w' : World} {base : Nat} {e : TypeId} {s n : Nat} {v : Value} {xs : List Value} (h : w.ownsRow base e s v n xs) (hb : Below w.heap.size w w') : w'.ownsRow base e s v n xs := by
  refine ⟨h.1, ?_⟩
  rcases h.2 with h1 | ⟨g, cap, cur, h1, hbg, hh, hc⟩
  · exact .inl h1
  · exact .inr ⟨g, cap, cur, h1, hbg, (hb.block g (Array.getElem?_eq_some_iff.1 hh).1).trans hh, hc⟩
theorem own_lt {w : World} {base : Nat} {e : TypeId} {s n : Nat} {v : Value} {xs : List Value} (h : w.ownsRow base e s v n xs) : ∀ g, v.ownBlock = some g → g < w.heap.size := fun g hg => (h.lt g hg).2

theorem append_one_at {P : Program} {ops : Array Oper} {rest : List Oper} {o : Oper} {a : Act} {w : World} {Q : Exit → Act → World → Prop} (hgd : o.guard = none) (s x : Operand) (t : TypeId)
    (ho : o.op = .call { callee := .builtin .append, args := #[s, x], argTypes := #[t, t] })
    (base : Nat) (e : TypeId) (i : TypeInfo) (z : Value) (bytes : Nat) (ht : P.underlying t = some (.slice e)) (hi : P.info? e = some i) (hz : i.zero = some z)
    (hsize : i.size = 1) (hby : i.bytes = bytes) (hzs : z.cells.size = 1)
    (v : Value) (k : Nat) (xs : List Value) (hs : a.eval s = v) (hown : w.ownsRow base e 1 v k xs) (u : Value) (te : TypeId) (hu : u.oneCell' = true) (hx : a.eval x = .slice (some ⟨w.heap.size, 0, none⟩) 1 1)
    (h63 : k + 1 ≤ maxLen) (hbytes : (k + 1) * bytes ≤ 140737488355328) (hbase : base ≤ w.heap.size)
    (h : ∀ v' w', w'.ownsRow base e 1 v' (k + 1) (xs ++ [u]) → (w.alloc (.cells #[u] te)).grownBy w' v.ownBlock → (v'.ownBlock = v.ownBlock ∨ v'.ownBlock = some (w.heap.size + 1)) → wpList P ops Q rest (a.put o.dst v') w') : wpList P ops Q (o :: rest) a (w.alloc (.cells #[u] te)) := by
  refine wpList_plain hgd fun K hK => ?_
  obtain ⟨v', w', hrun, h2, h3, _, h5⟩ := run_append_own_at (P := P) (w.alloc (.cells #[u] te)) base t o.type e i z 1 bytes ht hi hz hsize hby hzs (by decide) v k xs (hown.alloc _) ⟨w.heap.size, 0, none⟩ 1 1 [u] rfl (fun j y hy => app_there w #[u] te j y hy) (fun y hy => by simp at hy; rw [hy]; exact hu) h63 hbytes (by rw [World.size_alloc]; omega)
  rw [World.size_alloc] at h5
  unfold Oper.wp execOp
  simp only [ho, resolve, invoke, builtin, Sem.run_bind, Sem.run_pure, Result.andThen_ok, List.map_toArray, List.map_cons, List.map_nil, hs, hx, hrun]
  exact hK _ _ (h v' w' h2 h3 h5)

/-- 'a[i]' of an array by value. -/
theorem run_index_arr {P : Program} (w : World) (t e : TypeId) (n : Nat) (cs : Array Value) (i : Nat) (k : IntKind) (z : Int) (h : P.underlying t = some (.array n e)) (he : (P.info? e).map (·.size) = some 1) (hagg : (isAgg e).run P w = .ok false w) (hi : i < n) (hz : cs[i]? = some (.int k z)) :
    (Instr.index t (.agg cs) (.int .i64 i)).run P w = .ok (.int k z) w := by
  have h1 : (0 : Int) ≤ i ∧ (i : Int) < n := by omega
  obtain ⟨inf, hinf, hs⟩ := Option.map_eq_some_iff.1 he
  simp [Instr.index, run_underlying h, asIntOf, h1, go_sem, sizeOf, typeInfo, hinf, hs, hz, hi, hagg]
end Go.Proofs.YtmkmndgdakpojaaDoor
