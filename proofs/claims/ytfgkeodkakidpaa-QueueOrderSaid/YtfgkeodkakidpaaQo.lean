/- How a queue was read; the law of what is taken out, at its row's arguments. -/
import Derived.Test.YtfgkeodkakidpaaQl
import Derived.ProofKit
import Derived.OpenShut
namespace Go.Proofs.Ytfgkeodkakidpaa
open Go.RowKit Go.ChangeShapes Go.WideShapes Go.ChangeAt
set_option linter.unusedSimpArgs false
set_option linter.unusedVariables false

theorem open_queue {H : Type} {enc : TypeId × Value → H} {W : World} {base b : Nat} {r : Reach} {v : Value} {d : DataW H} {p : List MemPlace} {spare : Nat → Bool} {held : Bool}
    (hv : Value.okWide Try.prog W r base 28 v) (h : DataW.Trod enc Try.prog W b spare held 28 v d p) (hw : ∀ m ∈ DataW.weights Try.prog 28 d, m ≤ reachBytes) :
    ∃ (nx : Int) (A : Option Addr) (n c : Nat) (ps : List (Ltr × Value)), v = .agg #[.int .u64 nx, .slice A n c] ∧ 0 ≤ nx ∧ nx ≤ 18446744073709551615 ∧ QAt W A n c ps ∧ n * 56 ≤ 140737488351232 ∧ TxtOk (ps.map (·.1)) := by
  obtain ⟨v0, v1, y0, y1, n, rfl, rfl, rfl, h0, h1⟩ := open_aggN2 Try.underlying28 (by kernel_rfl) (by kernel_rfl) hv h
  obtain ⟨z, e0, _, w0⟩ := DataW.trod_int Try.underlying23 h0
  simp at e0
  subst e0
  have hw1 : ∀ m ∈ DataW.weights Try.prog 26 y1.1, m ≤ reachBytes := fun m hm => hw m (by
    rw [DataW.weights, Try.underlying28]
    simp only [DataW.weightsEach, List.map_cons, List.map_nil, List.append_nil, List.mem_append]
    exact .inr hm)
  obtain ⟨A, n, c, ps, rfl, hl, hnc, hmx, hby, hr, ht⟩ := open_letters h1 hw1
  have hb : (decide ((0 : Int) ≤ z) && decide (z ≤ (18446744073709551615 : Int))) = true := w0
  simp only [Bool.and_eq_true, decide_eq_true_eq] at hb
  refine ⟨z, A, n, c, ps, rfl, hb.1, hb.2, ⟨hl, hnc, hmx, hr⟩, by rw [← reach_eq]; exact hby, fun l hl => ?_⟩
  obtain ⟨q, hq, rfl⟩ := List.mem_map.1 hl
  exact ⟨(ht q hq).1, by rw [← reach_eq]; exact (ht q hq).2⟩

theorem queuePops_walk (nx seq : Int) (A : Option Addr) (n c : Nat) (ps : List (Ltr × Value)) (w : World) (hq : QAt w A n c ps) (hby : n * 56 ≤ 140737488351232) (ht : TxtOk (ps.map (·.1))) :
    Calls Try.prog 6 #[.agg #[.int .u64 nx, .slice A n c], .int .u64 seq] w (Yes w) := by
  match ps with
  | [] => exact queuePops_none nx seq A n c w hq hby ht
  | (l, v) :: ps =>
    by_cases h : l.2.2.2.1 = seq
    · exact queuePops_first nx seq A n c l v ps w hq hby ht h
    · exact queuePops_other nx seq A n c l v ps w hq hby ht h

theorem queuePops_of {H : Type} {enc : TypeId × Value → H} (W : World) (base : Nat) (args : Array Value) (ds : List (DataW H)) (p : List MemPlace)
    (hval : ∀ (j : Nat) t v, Try.f6.params[j]? = some t → args[j]? = some v → Value.okWide Try.prog W .any base t v)
    (hA : DataW.TrodAll enc Try.prog W 0 (fun _ => true) true Try.f6.params.toList args.toList ds p) (hlt : ∀ x ∈ p, x.block < W.heap.size)
    (hz : (DataW.weightsEach Try.prog Try.f6.params.toList ds).all (· ≤ reachBytes) = true) : Calls Try.prog 6 args W (Yes W) := by
  rw [Try.params6] at hA hval hz
  obtain ⟨v0, vs0, d0, ds0, p0, q0, hargs, rfl, rfl, h0, r0⟩ := trodAll_cons hA
  obtain ⟨v1, vs1, d1, ds1, p1, q1, rfl, rfl, rfl, h1, r1⟩ := trodAll_cons r0
  obtain ⟨rfl, rfl, rfl⟩ := trodAll_nil r1
  obtain rfl : args = #[v0, v1] := by cases args; simp_all
  obtain ⟨nx, A, n, c, ps, rfl, g1, g2, hq, hby, ht⟩ := open_queue (hval 0 _ _ rfl rfl) h0 (fun m hm => of_decide_eq_true (List.all_eq_true.1 hz m (DataW.weights_mem_each (j := 0) rfl rfl m hm)))
  obtain ⟨seq, rfl, rfl, rfl, wn⟩ := open_int Try.underlying23 (hval 1 _ _ rfl rfl) h1
  exact queuePops_walk nx seq A n c ps W hq hby ht
end Go.Proofs.Ytfgkeodkakidpaa
