/-
  No cell of these rows narrows 'for every input' (looked for: loops, veiled, ifaces, maps, wideKeys, modest, calm, conditions, laid).
  DERIVED. THE GIVEN ROWS OF THIS SEAT. 5 by the template 'for every input the law returns true; each argument reads behind the call as it read before'; 0 by the template 'total and deterministic' (their statements: YtfgkeodkakidpaaTotals.lean).
  GIVEN WITH THE SEED: the statements are not yours to turn. If you find one false, say at which input.
  Laid BY PROGRAM, IN A SANDBOX (cutbox-rows.mjs): the forced cells as the released guide's own fill.sh prints them over the translation 5a5b8a3dec51b32b… (all of the seat's roots in one cut). By AI agents, Wed Nov 11 2026. No macro, syntax, notation, axiom, sorry.
-/
import Derived.Test.YtfgkeodkakidpaaChecked
import GoSem.Claim
import GoSem.ClaimJoined
import GoSem.ClaimMapViews
import Derived.JoinedTies
import Derived.KernelRfl
namespace Go.Proofs.Ytfgkeodkakidpaa
/- THE CELL 'sum', in the pinned program and in every row, IS THE sha256 OF THE DUMP (.gsa) THAT YtfgkeodkakidpaaProg.lean LOADS. Nothing in Lean hashes anything: it is a label: what it is worth is what the hold of that sum in a sandbox is worth. -/
noncomputable def Try.pinned : Pinned := { name := "ytfgkeodkakidpaa", sum := "5a5b8a3dec51b32bb0bc94f479db56116168bf8061412021b17f1aaf63932b65", checked := Try.checked }
namespace Rows
def none {H : Type} : Left H := { results := [], args := [] }

/-- 'shallotlaw17.QueueRefuses': WHATEVER THE INPUT: true; the input reads as it did. -/
def queueRefusesSpec : ChangeSpec := { name := "queueRefuses", fn := fun _ => fun
  | [d1, d2, d3, d4, d5] => { results := [.lit (.bool true)], args := [d1, d2, d3, d4, d5] }
  | _ => none }
def queueRefusesRow : OpenClaim := { program := "ytfgkeodkakidpaa", sum := "5a5b8a3dec51b32bb0bc94f479db56116168bf8061412021b17f1aaf63932b65", func := "shallot/shallotlaw17.QueueRefuses", spec := "queueRefuses", apart := false }
def QueueRefusesSaid : Prop := queueRefusesRow.holds Try.pinned (OpenSpec.ofChange queueRefusesSpec)

/-- ITS FALSE NEIGHBOUR: 'it returns false'. Refute it at one input. -/
def queueRefusesWrong : ChangeSpec := { name := "queueRefuses", fn := fun _ => fun
  | [d1, d2, d3, d4, d5] => { results := [.lit (.bool false)], args := [d1, d2, d3, d4, d5] }
  | _ => none }
def QueueRefusesWrongFalsely : Prop := queueRefusesRow.holds Try.pinned (OpenSpec.ofChange queueRefusesWrong)

/-- 'shallotlaw17.QueueDoes': WHATEVER THE INPUT: true; the input reads as it did. -/
def queueDoesSpec : ChangeSpec := { name := "queueDoes", fn := fun _ => fun
  | [d1, d2, d3, d4, d5, d6] => { results := [.lit (.bool true)], args := [d1, d2, d3, d4, d5, d6] }
  | _ => none }
def queueDoesRow : OpenClaim := { program := "ytfgkeodkakidpaa", sum := "5a5b8a3dec51b32bb0bc94f479db56116168bf8061412021b17f1aaf63932b65", func := "shallot/shallotlaw17.QueueDoes", spec := "queueDoes", apart := false }
def QueueDoesSaid : Prop := queueDoesRow.holds Try.pinned (OpenSpec.ofChange queueDoesSpec)

/-- ITS FALSE NEIGHBOUR: 'it returns false'. Refute it at one input. -/
def queueDoesWrong : ChangeSpec := { name := "queueDoes", fn := fun _ => fun
  | [d1, d2, d3, d4, d5, d6] => { results := [.lit (.bool false)], args := [d1, d2, d3, d4, d5, d6] }
  | _ => none }
def QueueDoesWrongFalsely : Prop := queueDoesRow.holds Try.pinned (OpenSpec.ofChange queueDoesWrong)

/-- 'shallotlaw17.QueueOrder': WHATEVER THE INPUT: true; the input reads as it did. -/
def queueOrderSpec : ChangeSpec := { name := "queueOrder", fn := fun _ => fun
  | [d1, d2, d3, d4, d5] => { results := [.lit (.bool true)], args := [d1, d2, d3, d4, d5] }
  | _ => none }
def queueOrderRow : OpenClaim := { program := "ytfgkeodkakidpaa", sum := "5a5b8a3dec51b32bb0bc94f479db56116168bf8061412021b17f1aaf63932b65", func := "shallot/shallotlaw17.QueueOrder", spec := "queueOrder", apart := false }
def QueueOrderSaid : Prop := queueOrderRow.holds Try.pinned (OpenSpec.ofChange queueOrderSpec)

/-- ITS FALSE NEIGHBOUR: 'it returns false'. Refute it at one input. -/
def queueOrderWrong : ChangeSpec := { name := "queueOrder", fn := fun _ => fun
  | [d1, d2, d3, d4, d5] => { results := [.lit (.bool false)], args := [d1, d2, d3, d4, d5] }
  | _ => none }
def QueueOrderWrongFalsely : Prop := queueOrderRow.holds Try.pinned (OpenSpec.ofChange queueOrderWrong)

/-- 'shallotlaw17.QueuePops': WHATEVER THE INPUT: true; the input reads as it did. -/
def queuePopsSpec : ChangeSpec := { name := "queuePops", fn := fun _ => fun
  | [d1, d2] => { results := [.lit (.bool true)], args := [d1, d2] }
  | _ => none }
def queuePopsRow : OpenClaim := { program := "ytfgkeodkakidpaa", sum := "5a5b8a3dec51b32bb0bc94f479db56116168bf8061412021b17f1aaf63932b65", func := "shallot/shallotlaw17.QueuePops", spec := "queuePops", apart := false }
def QueuePopsSaid : Prop := queuePopsRow.holds Try.pinned (OpenSpec.ofChange queuePopsSpec)

/-- ITS FALSE NEIGHBOUR: 'it returns false'. Refute it at one input. -/
def queuePopsWrong : ChangeSpec := { name := "queuePops", fn := fun _ => fun
  | [d1, d2] => { results := [.lit (.bool false)], args := [d1, d2] }
  | _ => none }
def QueuePopsWrongFalsely : Prop := queuePopsRow.holds Try.pinned (OpenSpec.ofChange queuePopsWrong)

/-- 'shallotlaw17.QueueEmpties': WHATEVER THE INPUT: true; the input reads as it did. -/
def queueEmptiesSpec : ChangeSpec := { name := "queueEmpties", fn := fun _ => fun
  | [d] => { results := [.lit (.bool true)], args := [d] }
  | _ => none }
def queueEmptiesRow : OpenClaim := { program := "ytfgkeodkakidpaa", sum := "5a5b8a3dec51b32bb0bc94f479db56116168bf8061412021b17f1aaf63932b65", func := "shallot/shallotlaw17.QueueEmpties", spec := "queueEmpties", apart := false }
def QueueEmptiesSaid : Prop := queueEmptiesRow.holds Try.pinned (OpenSpec.ofChange queueEmptiesSpec)

/-- ITS FALSE NEIGHBOUR: 'it returns false'. Refute it at one input. -/
def queueEmptiesWrong : ChangeSpec := { name := "queueEmpties", fn := fun _ => fun
  | [d] => { results := [.lit (.bool false)], args := [d] }
  | _ => none }
def QueueEmptiesWrongFalsely : Prop := queueEmptiesRow.holds Try.pinned (OpenSpec.ofChange queueEmptiesWrong)

/- THE SECOND FORM. 'bulk': how many values and letters a reading holds, each counted each time it is reached (what is shared counts as often as it is met; a slice's spare places count too). A statement '..UptoSaid' is the law's where the arguments, and the package variables that the reading takes, are together of bulk at most 1048576: NARROWER than '..Said'. Prove '..Said' where nothing that the law and all that it calls make is longer than what came in: it says more and counts as full. Else prove '..UptoSaid'. A law counts once. -/
mutual
def uptoBulk {H : Type} : DataW H → Nat
  | .lit (.string bytes) => bytes.length + 1
  | .lit _ => 1
  | .nil => 1
  | .ptr d => uptoBulk d + 1
  | .slice elems spare => uptoBulkAll elems + uptoBulkAll spare + 1
  | .agg parts => uptoBulkAll parts + 1
  | .iface _ d => uptoBulk d + 1
  | .map entries => uptoBulkEntries entries + 1
  | .held _ => 1
def uptoBulkAll {H : Type} : List (DataW H) → Nat
  | [] => 0
  | d :: r => uptoBulk d + uptoBulkAll r
def uptoBulkEntries {H : Type} : List (Lit × DataW H) → Nat
  | [] => 0
  | x :: r => uptoBulkEntry x + uptoBulkEntries r
def uptoBulkEntry {H : Type} : Lit × DataW H → Nat
  | (.string bytes, d) => bytes.length + uptoBulk d + 1
  | (_, d) => uptoBulk d + 1
 end
def uptoSmall : (H : Type) → List (DataW H) → Bool := fun _ ds => decide (uptoBulkAll ds ≤ 1048576)
def OpenSpec.upto (s : _root_.Go.ChangeSpec) : _root_.Go.OpenSpec := { _root_.Go.OpenSpec.ofChange s with cond := some uptoSmall }

/-- 'shallotlaw17.QueueRefuses', WHERE WHAT IT READS IS OF BULK AT MOST 1048576: true; the input reads as it did. -/
def queueRefusesUptoRow : OpenClaim := { program := "ytfgkeodkakidpaa", sum := "5a5b8a3dec51b32bb0bc94f479db56116168bf8061412021b17f1aaf63932b65", func := "shallot/shallotlaw17.QueueRefuses", spec := "queueRefuses", apart := false, narrowed := true }
def QueueRefusesUptoSaid : Prop := queueRefusesUptoRow.holds Try.pinned (OpenSpec.upto queueRefusesSpec)

/-- 'shallotlaw17.QueueDoes', WHERE WHAT IT READS IS OF BULK AT MOST 1048576: true; the input reads as it did. -/
def queueDoesUptoRow : OpenClaim := { program := "ytfgkeodkakidpaa", sum := "5a5b8a3dec51b32bb0bc94f479db56116168bf8061412021b17f1aaf63932b65", func := "shallot/shallotlaw17.QueueDoes", spec := "queueDoes", apart := false, narrowed := true }
def QueueDoesUptoSaid : Prop := queueDoesUptoRow.holds Try.pinned (OpenSpec.upto queueDoesSpec)

/-- 'shallotlaw17.QueueOrder', WHERE WHAT IT READS IS OF BULK AT MOST 1048576: true; the input reads as it did. -/
def queueOrderUptoRow : OpenClaim := { program := "ytfgkeodkakidpaa", sum := "5a5b8a3dec51b32bb0bc94f479db56116168bf8061412021b17f1aaf63932b65", func := "shallot/shallotlaw17.QueueOrder", spec := "queueOrder", apart := false, narrowed := true }
def QueueOrderUptoSaid : Prop := queueOrderUptoRow.holds Try.pinned (OpenSpec.upto queueOrderSpec)

/-- 'shallotlaw17.QueuePops', WHERE WHAT IT READS IS OF BULK AT MOST 1048576: true; the input reads as it did. -/
def queuePopsUptoRow : OpenClaim := { program := "ytfgkeodkakidpaa", sum := "5a5b8a3dec51b32bb0bc94f479db56116168bf8061412021b17f1aaf63932b65", func := "shallot/shallotlaw17.QueuePops", spec := "queuePops", apart := false, narrowed := true }
def QueuePopsUptoSaid : Prop := queuePopsUptoRow.holds Try.pinned (OpenSpec.upto queuePopsSpec)

/-- 'shallotlaw17.QueueEmpties', WHERE WHAT IT READS IS OF BULK AT MOST 1048576: true; the input reads as it did. -/
def queueEmptiesUptoRow : OpenClaim := { program := "ytfgkeodkakidpaa", sum := "5a5b8a3dec51b32bb0bc94f479db56116168bf8061412021b17f1aaf63932b65", func := "shallot/shallotlaw17.QueueEmpties", spec := "queueEmpties", apart := false, narrowed := true }
def QueueEmptiesUptoSaid : Prop := queueEmptiesUptoRow.holds Try.pinned (OpenSpec.upto queueEmptiesSpec)

end Rows
end Go.Proofs.Ytfgkeodkakidpaa
