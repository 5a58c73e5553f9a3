/- append of noughts onto a row of bytes of one's own. -/
import Derived.Test.YtklamgdgdamcgaaDoorApp
import Derived.Lib.AppendZeros
import Derived.Lib.AppendZerosOnto
namespace Go.Proofs.YtklamgdgdamcgaaDoor
open Go.RowKit
set_option linter.unusedSimpArgs false
set_option linter.unusedVariables false

theorem zeroCells_nums (n : Nat) : Builtin.zeroCells #[Value.int .u8 0] n = (nums .u8 (List.replicate n 0)).toArray := by
  apply Array.ext'
  simp [Builtin.zeroCells, nums]
  apply List.ext_getElem <;> simp [Nat.mod_one]

theorem take_app2 {a c : List Value} {m : Nat} (h : m = a.length) : (a ++ c).take m = a := by rw [h, List.take_left]

theorem run_append_zeros {P : Program} (w : World) (t tn ty e : TypeId) (i : TypeInfo) (kn : IntKind) (ht : P.underlying t = some (.slice e)) (htn : P.underlying tn = some (.int kn)) (hi : P.info? e = some i) (hz : i.zero = some (.int .u8 0)) (hsz : i.size = 1) (hby : i.bytes = 1)
    (base : Nat) (v : Value) (k n : Nat) (xs : List Value) (hown : w.ownsRow base e 1 v k xs) (hb : k + n ≤ 100000) (hbase : base ≤ w.heap.size) :
    ∃ v' w', (Builtin.append_ #[t, tn] ty #[v, .int .i64 n]).run P w = .ok v' w' ∧ w'.ownsRow base e 1 v' (k + n) (xs ++ nums .u8 (List.replicate n 0)) ∧ w.grownBy w' v.ownBlock := by
  have hw : IntKind.i64.wrap (n : Int) = n := by rw [IntKind.wrap_i64]; omega
  have hneg : ¬ ((n : Int) < 0) := by omega
  have h48 : ¬ (281474976710656 < (n : Int)) := by omega
  have hw0 : IntKind.i64.wrap 0 = 0 := by rw [IntKind.wrap_i64]; omega
  have hlen := hown.1
  rcases hown.2 with ⟨rfl, rfl⟩ | ⟨g, cap, cur, rfl, hbg, hg, hnc, hcm, hcs, htake⟩
  · have hx : xs = [] := List.eq_nil_of_length_eq_zero (by simpa using hlen)
    subst hx
    rcases Nat.eq_zero_or_pos n with h0 | h0
    · subst h0
      refine ⟨.slice none 0 0, w, ?_, ⟨rfl, .inl ⟨rfl, rfl⟩⟩, World.grownBy.refl _ _⟩
      simp [Builtin.append_, run_underlying ht, run_underlying htn, sizeOf, typeInfo, hi, asInt, asIntOf, hw0]
    · refine ⟨_, _, Lib.run_append_nil_zeros w t tn ty e i (.int .u8 0) .i64 kn ht htn hi hz n h0 (by omega) (by omega) (by rw [hby]; omega), ⟨by simp, .inr ⟨w.heap.size, grownCap w n 0 e, _, by simp, hbase, World.alloc_heap_new _ _, ?_, ?_, ?_, ?_⟩⟩, ⟨rfl, rfl, rfl, by simp, fun j hj _ => Below.heap_alloc _ _ j hj⟩⟩
      · have := grownCap_ge w n 0 e; omega
      · exact grownCap_le_maxLen w n 0 e (by unfold maxLen; omega)
      · have := grownCap_ge w n 0 e
        simp [Value.cells, size_zeroCells]
        omega
      · simp only [Value.cells, zeroCells_nums]
        simp [nums]
  · have hcur : k ≤ cur.size := by omega
    by_cases hfit : k + n ≤ cap
    · have hst := run_storeCells_at P g k e (nums .u8 (List.replicate n 0)) 0 cur w hg (by simp; omega) (fun u hu => by obtain ⟨x, _, rfl⟩ := List.mem_map.1 hu; rfl)
      refine ⟨.slice (some ⟨g, 0, none⟩) (k + n) cap, w.setRow g (cur.toList.take k ++ nums .u8 (List.replicate n 0) ++ cur.toList.drop (k + n)).toArray, ?_, ?_, ?_⟩
      · rcases Nat.eq_zero_or_pos n with h0 | h0
        · subst h0
          have hs : w.setRow g (cur.toList.take k ++ nums .u8 (List.replicate 0 0) ++ cur.toList.drop (k + 0)).toArray = w := by
            simp [nums]
            exact setRow_self w g cur e (0, 0) hg
          rw [hs]
          simp [Builtin.append_, run_underlying ht, run_underlying htn, sizeOf, typeInfo, hi, asInt, asIntOf, hw0, hsz, hnc, storeCells, Addr.add_lit]
        · have hn0 : n ≠ 0 := by omega
          simp at hst
          simp [Builtin.append_, run_underlying ht, run_underlying htn, sizeOf, typeInfo, zeroValue, hi, hz, asInt, asIntOf, hw, hneg, h48, hsz, hby, hfit, hn0, Addr.add_lit, Value.cells, zeroCells_nums, hst]
      · refine ⟨by simp at hlen ⊢; omega, .inr ⟨g, cap, _, rfl, hbg, setRow_heap w g cur _ e _ hg, hfit, hcm, ?_, ?_⟩⟩
        · simp; omega
        · have e1 : cur.toList.take k = xs := by simpa using htake
          show List.take ((k + n) * 1) (cur.toList.take k ++ nums .u8 (List.replicate n 0) ++ cur.toList.drop (k + n)) = _
          rw [e1]
          exact take_app2 (by simp at hlen ⊢; omega)
      · exact ⟨rfl, rfl, rfl, by simp [World.setRow], fun j _ hj => setRow_other w g j _ (fun e => hj (by simp [e, Value.ownBlock]))⟩
    · have hf := run_firstCells_some (P := P) w.drew i.size k ⟨g, 0, none⟩ k cap xs (by rw [hsz]; exact hlen) (fun j u hu => by
        have := hown.cells (g := g) rfl j u hu
        exact this)
      have hcap2 : cap < k + n := by omega
      have hnc2 : Builtin.nextslicecap (k + n) cap * i.bytes ≤ 281474976710656 := by
        rw [hby]
        have := nextslicecap_le (need := k + n) (old := cap) hcap2
        omega
      refine ⟨_, _, Lib.run_append_grow_zeros w t tn ty e i (.int .u8 0) .i64 kn ht htn hi hz (some ⟨g, 0, none⟩) k cap xs hf n (by omega) (by omega) hcap2 (by omega) (by rw [hby]; omega) hnc2, ⟨by simp at hlen ⊢; omega, .inr ⟨w.heap.size, grownCap w (k + n) cap e, _, rfl, hbase, World.alloc_heap_new _ _, grownCap_ge w _ _ _, grownCap_le_maxLen w _ _ _ (by unfold maxLen; omega), ?_, ?_⟩⟩, ⟨rfl, rfl, rfl, by simp, fun j hj _ => Below.heap_alloc _ _ j hj⟩⟩
      · have := grownCap_ge w (k + n) cap e
        simp [Value.cells, size_zeroCells] at hlen ⊢
        omega
      · simp only [Value.cells, zeroCells_nums]
        rw [Array.toList_append, Array.toList_append]
        exact take_app2 (by simp at hlen ⊢; omega)
end Go.Proofs.YtklamgdgdamcgaaDoor
