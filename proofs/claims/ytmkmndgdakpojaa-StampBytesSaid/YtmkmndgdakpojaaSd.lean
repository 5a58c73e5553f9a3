/- The reference's Block: its contract: the same words. -/
import Derived.Test.YtmkmndgdakpojaaSc
import Derived.Deep.Cut
namespace Go.Proofs.Ytmkmndgdakpojaa
open Go.RowKit
set_option linter.unusedSimpArgs false
set_option linter.unusedVariables false

theorem kc_len : kc.length = 64 := rfl

/-- An operation that yields a value that is known. -/
theorem op_named {P : Program} {ops : Array Oper} {rest : List Oper} {o : Oper} {a : Act} {w : World} {Q : Exit → Act → World → Prop} (hgd : o.guard = none) (v : Value) (hr : (execOp a.eval o).run P w = .ok (.value v) w)
    (h : wpList P ops Q rest (a.put o.dst v) w) : wpList P ops Q (o :: rest) a w :=
  wpList_plain hgd fun K hK => by
    unfold Oper.wp
    rw [hr]
    exact hK _ _ h

theorem range_of_arr {w : World} {B : Nat} {l : List Int} (h : Arr w B l) : w.rangeAt B 0 (l.map (Value.int .u32)) := fun j v hv => by
  have hj : j < l.length := by
    have := (List.getElem?_eq_some_iff.1 hv).1
    simpa using this
  rw [Nat.zero_add, h.1 j hj]
  rw [List.getElem?_map, List.getElem?_eq_getElem hj] at hv
  simpa [List.getD, List.getElem?_eq_getElem hj] using hv

theorem addN_swap {l v : List Int} (hl : l.length = 8) (hv : v.length = 8) : addN v l 8 = addN l v 8 := by
  obtain ⟨a, b, c, d, e, f, g, i, rfl⟩ := len8 hl
  obtain ⟨a', b', c', d', e', f', g', i', rfl⟩ := len8 hv
  simp [addN, Int.add_comm]

def zeros64 : List Int := List.replicate 64 0
theorem zeros64_len : zeros64.length = 64 := rfl
theorem pad_zeros {w : World} {B : Nat} (h : Arr w B zeros64) : Pad64 w B [] :=
  ⟨fun j hj => by
    have hj' : j < zeros64.length := by rw [zeros64_len]; exact hj
    rw [h.1 j hj']
    have e : zeros64.getD j 0 = 0 := by rw [show zeros64 = List.replicate 64 0 from rfl, List.getD, List.getElem?_replicate, if_pos hj]; rfl
    rw [e]
    rfl, h.2⟩

end Go.Proofs.Ytmkmndgdakpojaa
