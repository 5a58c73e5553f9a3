/- The law of letters that come out in the order in which they were put in, at its row's arguments. -/
import Derived.Test.YtfgkeodkakidpaaQv
namespace Go.Proofs.Ytfgkeodkakidpaa
open Go.RowKit Go.ChangeShapes Go.WideShapes Go.ChangeAt
set_option linter.unusedSimpArgs false
set_option linter.unusedVariables false

theorem queueOrder_walk (cl sz seq : Int) (AT : Option Addr) (nt ct : Nat) (vs : List Value) (Lt : List (List Int)) (AP : Option Addr) (np cp : Nat) (bs : List Bool) (w : World) (h6 : seq ≤ 9223372036854775807) (hx : Rd w AT vs) (hp : Parts w vs Lt) (hn : Lt.length = nt) (hB : ∀ y ∈ Lt, Byt y) (hy : Rd w AP (bs.map Value.bool)) (hbn : bs.length = np) :
    Calls Try.prog 5 #[.int .i64 cl, .int .i64 sz, .int .i64 seq, .slice AT nt ct, .slice AP np cp] w (Yes w) := by
  by_cases h : cl < 1 ∨ (8 : Int) < cl ∨ sz < 1 ∨ (64 : Int) < sz ∨ seq < 1 ∨ (60 : Int) < nt ∨ (60 : Int) < np
  · exact queueOrder_out cl sz seq AT nt ct AP np cp w h
  · exact queueOrder_in cl sz seq AT nt ct vs Lt AP np cp bs w (by omega) (by omega) (by omega) (by omega) (by omega) h6 (by omega) (by omega) hx hp hn hB hy hbn

theorem queueOrder_of {H : Type} {enc : TypeId × Value → H} (W : World) (base : Nat) (args : Array Value) (ds : List (DataW H)) (p : List MemPlace)
    (hval : ∀ (j : Nat) t v, Try.f5.params[j]? = some t → args[j]? = some v → Value.okWide Try.prog W .any base t v)
    (hA : DataW.TrodAll enc Try.prog W 0 (fun _ => true) true Try.f5.params.toList args.toList ds p) (hlt : ∀ x ∈ p, x.block < W.heap.size)
    (hz : (DataW.weightsEach Try.prog Try.f5.params.toList ds).all (· ≤ reachBytes) = true) : Calls Try.prog 5 args W (Yes W) := by
  rw [Try.params5] at hA hval hz
  obtain ⟨v0, vs0, d0, ds0, p0, q0, hargs, rfl, rfl, h0, r0⟩ := trodAll_cons hA
  obtain ⟨v1, vs1, d1, ds1, p1, q1, rfl, rfl, rfl, h1, r1⟩ := trodAll_cons r0
  obtain ⟨v2, vs2, d2, ds2, p2, q2, rfl, rfl, rfl, h2, r2⟩ := trodAll_cons r1
  obtain ⟨v3, vs3, d3, ds3, p3, q3, rfl, rfl, rfl, h3, r3⟩ := trodAll_cons r2
  obtain ⟨v4, vs4, d4, ds4, p4, q4, rfl, rfl, rfl, h4, r4⟩ := trodAll_cons r3
  obtain ⟨rfl, rfl, rfl⟩ := trodAll_nil r4
  obtain rfl : args = #[v0, v1, v2, v3, v4] := by cases args; simp_all
  obtain ⟨cl, rfl, rfl, rfl, _⟩ := open_int Try.underlying3 (hval 0 _ _ rfl rfl) h0
  obtain ⟨sz, rfl, rfl, rfl, _⟩ := open_int Try.underlying3 (hval 1 _ _ rfl rfl) h1
  obtain ⟨seq, rfl, rfl, rfl, ws⟩ := open_int Try.underlying3 (hval 2 _ _ rfl rfl) h2
  obtain ⟨AT, nt, ct, vs, Lt, rfl, _, _, hl, hx, hp, hB⟩ := open_parts h3 (hval 3 _ _ rfl rfl)
  obtain ⟨AP, np, cp, bs, rfl, hbn, _, _, hy⟩ := open_bools h4 (hval 4 _ _ rfl rfl)
  have hs : (decide ((-9223372036854775808 : Int) ≤ seq) && decide (seq ≤ (9223372036854775807 : Int))) = true := ws
  simp only [Bool.and_eq_true, decide_eq_true_eq] at hs
  exact queueOrder_walk cl sz seq AT nt ct vs Lt AP np cp bs W hs.2 hx hp (by rw [← hp.1]; exact hl) hB hy hbn
end Go.Proofs.Ytfgkeodkakidpaa
