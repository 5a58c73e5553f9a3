/- The frame of every law's proof of this seat: from a walk ('it returns true, and turns nothing that was there') to the row's step. -/
import Derived.Test.YtmkmndgdakpojaaBase
import Derived.ProofKit
import Derived.OpenShut
import Derived.ShutString
import Derived.ChangeOld
import Derived.Below
import Derived.SizedLaws
namespace Go.Proofs.Ytmkmndgdakpojaa
open Go.ChangeShapes Go.WideShapes Go.ChangeAt Go.RowKit

theorem own : ownKnob Try.prog.godebug = none := by kernel_rfl
theorem laidOut : laidOutB Try.prog = true := by kernel_rfl

section
variable {H : Type} {enc : TypeId × Value → H}

theorem trodAll_below {P : Program} (hl : laidOutB P = true) {W W' : World} (hb : Below W.heap.size W W') : ∀ {ts : List TypeId} {vs : List Value} {ds : List (DataW H)} {p : List MemPlace},
    (ts.all fun t => P.readableRec t && decide (t < P.types.size)) = true → DataW.TrodAll enc P W 0 (fun _ => true) true ts vs ds p → (∀ x ∈ p, x.block < W.heap.size) →
    DataW.TrodAll enc P W' 0 (fun b => decide (b < W.heap.size)) true ts vs ds p
  | [], [], [], _, _, h, _ => h
  | t :: ts, v :: vs, d :: ds, _, hr, ⟨p, q, h1, h2, e⟩, hlt => by
    subst e
    simp only [List.all_cons, Bool.and_eq_true, decide_eq_true_eq] at hr
    exact ⟨p, q, Below.trod hl hr.1.1 hr.1.2 h1 hb (fun x hx => hlt x (List.mem_append_left _ hx)), trodAll_below hl hb hr.2 h2 (fun x hx => hlt x (List.mem_append_right _ hx)), rfl⟩
  | [], _ :: _, _, _, _, h, _ => h.elim
  | [], [], _ :: _, _, _, h, _ => h.elim
  | _ :: _, [], _, _, _, h, _ => h.elim
  | _ :: _, _ :: _, [], _, _, h, _ => h.elim

theorem trodAll_len {P : Program} {W : World} {b : Nat} {sp : Nat → Bool} {hd : Bool} : ∀ {ts : List TypeId} {vs : List Value} {ds : List (DataW H)} {p : List MemPlace},
    DataW.TrodAll enc P W b sp hd ts vs ds p → ds.length = ts.length
  | [], [], [], _, _ => rfl
  | _ :: _, _ :: _, _ :: _, _, ⟨_, _, _, h2, _⟩ => by simp [trodAll_len h2]
  | [], _ :: _, _, _, h => h.elim
  | [], [], _ :: _, _, h => h.elim
  | _ :: _, [], _, _, h => h.elim
  | _ :: _, _ :: _, [], _, h => h.elim

/-- THE STEP: what the row asks, out of the walk. -/
theorem lift_yes {os : Os} {f : FuncId} {fn : Func} {s : ChangeSpec} (started : os.Started) (noInit : Try.prog.inits.idxOf? f = none) (hfn : Try.prog.funcs[f]? = some fn)
    (witness : ∃ (w : World) (tape : Tape) (i : Input), w.os = os ∧ (w.forCall tape i).Shaped Try.prog ∧ i.vars = [] ∧ Input.okWide Try.prog (w.forCall tape i) .any w.heap.size f i ∧
      s.pre6 enc Try.prog fn [] false (w.forCall tape i).memory i.args ∧ ({} : Assume).holds Try.prog (lone (Frame.enter Try.prog f i.args .normal) [] (w.forCall tape i)))
    (hv : s.vars = []) (hres : fn.resultTypes = #[4]) (hpar : (fn.params.toList.all fun t => Try.prog.readableRec t && decide (t < Try.prog.types.size)) = true)
    (hspec : ∀ ds : List (DataW H), ds.length = fn.params.toList.length → s.fn H (ds ++ []) = { results := [.lit (.bool true)], args := ds })
    (walk : ∀ (W : World) (base : Nat) (args : Array Value) (ds : List (DataW H)) (p : List MemPlace), (∀ (j : Nat) t v, fn.params[j]? = some t → args[j]? = some v → Value.okWide Try.prog W .any base t v) →
      DataW.TrodAll enc Try.prog W 0 (fun _ => true) true fn.params.toList args.toList ds p → (∀ x ∈ p, x.block < W.heap.size) →
      (DataW.weightsEach Try.prog fn.params.toList ds).all (· ≤ reachBytes) = true → Calls Try.prog f args W (Yes W)) :
    ReturnsInHanded {} Try.checked os f .any (s.pre6 enc Try.prog fn [] false) (s.post enc Try.prog fn false true false false) := by
  refine returnsInHanded_of_change_sized (C := Try.checked) own started noInit hfn witness ?_
  intro W base args ds gs before hval hW _ hz _
  change ((DataW.weightsEach Try.prog (fn.params.toList ++ s.plain.varTypes Try.prog) (ds ++ gs)).all _) = true at hz
  have hW' := hW
  have hlt : ∀ x ∈ before, x.block < W.heap.size := fun x hx => hW.lt x hx
  obtain ⟨p, q, hA, hV, rfl, hfz, hnd⟩ := hW
  rw [hv] at hV
  have hgs : gs = [] ∧ q = [] := by
    cases gs with
    | nil => exact ⟨rfl, hV⟩
    | cons _ _ => exact hV.elim
  obtain ⟨rfl, rfl⟩ := hgs
  have hvt : s.plain.varTypes Try.prog = [] := by simp [ChangeSpec.plain, DataSpec.varTypes, hv]
  rw [hvt, List.append_nil, List.append_nil] at hz
  rw [List.append_nil] at hlt
  refine (walk W base args ds p hval hA hlt hz).mono fun e W' ⟨he, hb⟩ => ?_
  have hlen : ds.length = fn.params.toList.length := trodAll_len hA
  have hsp := hspec ds hlen
  refine ⟨_, he, ds, [], _, [], p, [], hW', ?_, ?_, ?_, hb.frame _, fun h => by cases h⟩
  · rw [hsp, hres]
    exact trodAll_mk1 (shut_bool Try.underlying4 _)
  · rw [hsp]
    exact trodAll_below laidOut hb hpar hA hlt
  · rw [hsp, hv]
    rfl
end
end Go.Proofs.Ytmkmndgdakpojaa
