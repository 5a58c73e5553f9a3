/-
  No cell of these rows narrows 'for every input' (looked for: loops, veiled, ifaces, maps, wideKeys, modest, calm, conditions, laid).
  DERIVED. THE GIVEN ROWS OF THIS SEAT. 9 by the template 'for every input the law returns true; each argument reads behind the call as it read before'; 0 by the template 'total and deterministic' (their statements: YtmacimnabcjljaaTotals.lean).
  GIVEN WITH THE SEED: the statements are not yours to turn. If you find one false, say at which input.
  Laid BY PROGRAM, IN A SANDBOX (cutbox-rows.mjs): the forced cells as the released guide's own fill.sh prints them over the translation f1803c5e9ac9d3a3… (all of the seat's roots in one cut). By AI agents, Wed Nov 11 2026. No macro, syntax, notation, axiom, sorry.
-/
import Derived.Test.YtmacimnabcjljaaChecked
import GoSem.Claim
import GoSem.ClaimJoined
import GoSem.ClaimMapViews
import Derived.JoinedTies
import Derived.KernelRfl
namespace Go.Proofs.Ytmacimnabcjljaa
/- THE CELL 'sum', in the pinned program and in every row, IS THE sha256 OF THE DUMP (.gsa) THAT YtmacimnabcjljaaProg.lean LOADS. Nothing in Lean hashes anything: it is a label: what it is worth is what the hold of that sum in a sandbox is worth. -/
noncomputable def Try.pinned : Pinned := { name := "ytmacimnabcjljaa", sum := "f1803c5e9ac9d3a3a55a52d7d01e6bd9865f72edf4fbcea73466e20f8269ae9d", checked := Try.checked }
namespace Rows
def none {H : Type} : Left H := { results := [], args := [] }

/-- 'shallotlaw07.KeyNodes': WHATEVER THE INPUT: true; the input reads as it did. -/
def keyNodesSpec : ChangeSpec := { name := "keyNodes", fn := fun _ => fun
  | [d1, d2] => { results := [.lit (.bool true)], args := [d1, d2] }
  | _ => none }
def keyNodesRow : OpenClaim := { program := "ytmacimnabcjljaa", sum := "f1803c5e9ac9d3a3a55a52d7d01e6bd9865f72edf4fbcea73466e20f8269ae9d", func := "shallot/shallotlaw07.KeyNodes", spec := "keyNodes", apart := false }
def KeyNodesSaid : Prop := keyNodesRow.holds Try.pinned (OpenSpec.ofChange keyNodesSpec)

/-- ITS FALSE NEIGHBOUR: 'it returns false'. Refute it at one input. -/
def keyNodesWrong : ChangeSpec := { name := "keyNodes", fn := fun _ => fun
  | [d1, d2] => { results := [.lit (.bool false)], args := [d1, d2] }
  | _ => none }
def KeyNodesWrongFalsely : Prop := keyNodesRow.holds Try.pinned (OpenSpec.ofChange keyNodesWrong)

/-- 'shallotlaw07.KeyBack': WHATEVER THE INPUT: true; the input reads as it did. -/
def keyBackSpec : ChangeSpec := { name := "keyBack", fn := fun _ => fun
  | [d1, d2] => { results := [.lit (.bool true)], args := [d1, d2] }
  | _ => none }
def keyBackRow : OpenClaim := { program := "ytmacimnabcjljaa", sum := "f1803c5e9ac9d3a3a55a52d7d01e6bd9865f72edf4fbcea73466e20f8269ae9d", func := "shallot/shallotlaw07.KeyBack", spec := "keyBack", apart := false }
def KeyBackSaid : Prop := keyBackRow.holds Try.pinned (OpenSpec.ofChange keyBackSpec)

/-- ITS FALSE NEIGHBOUR: 'it returns false'. Refute it at one input. -/
def keyBackWrong : ChangeSpec := { name := "keyBack", fn := fun _ => fun
  | [d1, d2] => { results := [.lit (.bool false)], args := [d1, d2] }
  | _ => none }
def KeyBackWrongFalsely : Prop := keyBackRow.holds Try.pinned (OpenSpec.ofChange keyBackWrong)

/-- 'shallotlaw07.KeyChecks': WHATEVER THE INPUT: true; the input reads as it did. -/
def keyChecksSpec : ChangeSpec := { name := "keyChecks", fn := fun _ => fun
  | [d] => { results := [.lit (.bool true)], args := [d] }
  | _ => none }
def keyChecksRow : OpenClaim := { program := "ytmacimnabcjljaa", sum := "f1803c5e9ac9d3a3a55a52d7d01e6bd9865f72edf4fbcea73466e20f8269ae9d", func := "shallot/shallotlaw07.KeyChecks", spec := "keyChecks", apart := false }
def KeyChecksSaid : Prop := keyChecksRow.holds Try.pinned (OpenSpec.ofChange keyChecksSpec)

/-- ITS FALSE NEIGHBOUR: 'it returns false'. Refute it at one input. -/
def keyChecksWrong : ChangeSpec := { name := "keyChecks", fn := fun _ => fun
  | [d] => { results := [.lit (.bool false)], args := [d] }
  | _ => none }
def KeyChecksWrongFalsely : Prop := keyChecksRow.holds Try.pinned (OpenSpec.ofChange keyChecksWrong)

/-- 'shallotlaw17.QueueRefuses': WHATEVER THE INPUT: true; the input reads as it did. -/
def queueRefusesSpec : ChangeSpec := { name := "queueRefuses", fn := fun _ => fun
  | [d1, d2, d3, d4, d5] => { results := [.lit (.bool true)], args := [d1, d2, d3, d4, d5] }
  | _ => none }
def queueRefusesRow : OpenClaim := { program := "ytmacimnabcjljaa", sum := "f1803c5e9ac9d3a3a55a52d7d01e6bd9865f72edf4fbcea73466e20f8269ae9d", func := "shallot/shallotlaw17.QueueRefuses", spec := "queueRefuses", apart := false }
def QueueRefusesSaid : Prop := queueRefusesRow.holds Try.pinned (OpenSpec.ofChange queueRefusesSpec)

/-- ITS FALSE NEIGHBOUR: 'it returns false'. Refute it at one input. -/
def queueRefusesWrong : ChangeSpec := { name := "queueRefuses", fn := fun _ => fun
  | [d1, d2, d3, d4, d5] => { results := [.lit (.bool false)], args := [d1, d2, d3, d4, d5] }
  | _ => none }
def QueueRefusesWrongFalsely : Prop := queueRefusesRow.holds Try.pinned (OpenSpec.ofChange queueRefusesWrong)

/-- 'shallotlaw07.KeyFirst': WHATEVER THE INPUT: true; the input reads as it did. -/
def keyFirstSpec : ChangeSpec := { name := "keyFirst", fn := fun _ => fun
  | [d] => { results := [.lit (.bool true)], args := [d] }
  | _ => none }
def keyFirstRow : OpenClaim := { program := "ytmacimnabcjljaa", sum := "f1803c5e9ac9d3a3a55a52d7d01e6bd9865f72edf4fbcea73466e20f8269ae9d", func := "shallot/shallotlaw07.KeyFirst", spec := "keyFirst", apart := false }
def KeyFirstSaid : Prop := keyFirstRow.holds Try.pinned (OpenSpec.ofChange keyFirstSpec)

/-- ITS FALSE NEIGHBOUR: 'it returns false'. Refute it at one input. -/
def keyFirstWrong : ChangeSpec := { name := "keyFirst", fn := fun _ => fun
  | [d] => { results := [.lit (.bool false)], args := [d] }
  | _ => none }
def KeyFirstWrongFalsely : Prop := keyFirstRow.holds Try.pinned (OpenSpec.ofChange keyFirstWrong)

/-- 'shallotlaw17.QueueDoes': WHATEVER THE INPUT: true; the input reads as it did. -/
def queueDoesSpec : ChangeSpec := { name := "queueDoes", fn := fun _ => fun
  | [d1, d2, d3, d4, d5, d6] => { results := [.lit (.bool true)], args := [d1, d2, d3, d4, d5, d6] }
  | _ => none }
def queueDoesRow : OpenClaim := { program := "ytmacimnabcjljaa", sum := "f1803c5e9ac9d3a3a55a52d7d01e6bd9865f72edf4fbcea73466e20f8269ae9d", func := "shallot/shallotlaw17.QueueDoes", spec := "queueDoes", apart := false }
def QueueDoesSaid : Prop := queueDoesRow.holds Try.pinned (OpenSpec.ofChange queueDoesSpec)

/-- ITS FALSE NEIGHBOUR: 'it returns false'. Refute it at one input. -/
def queueDoesWrong : ChangeSpec := { name := "queueDoes", fn := fun _ => fun
  | [d1, d2, d3, d4, d5, d6] => { results := [.lit (.bool false)], args := [d1, d2, d3, d4, d5, d6] }
  | _ => none }
def QueueDoesWrongFalsely : Prop := queueDoesRow.holds Try.pinned (OpenSpec.ofChange queueDoesWrong)

/-- 'shallotlaw17.QueueOrder': WHATEVER THE INPUT: true; the input reads as it did. -/
def queueOrderSpec : ChangeSpec := { name := "queueOrder", fn := fun _ => fun
  | [d1, d2, d3, d4, d5] => { results := [.lit (.bool true)], args := [d1, d2, d3, d4, d5] }
  | _ => none }
def queueOrderRow : OpenClaim := { program := "ytmacimnabcjljaa", sum := "f1803c5e9ac9d3a3a55a52d7d01e6bd9865f72edf4fbcea73466e20f8269ae9d", func := "shallot/shallotlaw17.QueueOrder", spec := "queueOrder", apart := false }
def QueueOrderSaid : Prop := queueOrderRow.holds Try.pinned (OpenSpec.ofChange queueOrderSpec)

/-- ITS FALSE NEIGHBOUR: 'it returns false'. Refute it at one input. -/
def queueOrderWrong : ChangeSpec := { name := "queueOrder", fn := fun _ => fun
  | [d1, d2, d3, d4, d5] => { results := [.lit (.bool false)], args := [d1, d2, d3, d4, d5] }
  | _ => none }
def QueueOrderWrongFalsely : Prop := queueOrderRow.holds Try.pinned (OpenSpec.ofChange queueOrderWrong)

/-- 'shallotlaw17.QueuePops': WHATEVER THE INPUT: true; the input reads as it did. -/
def queuePopsSpec : ChangeSpec := { name := "queuePops", fn := fun _ => fun
  | [d1, d2] => { results := [.lit (.bool true)], args := [d1, d2] }
  | _ => none }
def queuePopsRow : OpenClaim := { program := "ytmacimnabcjljaa", sum := "f1803c5e9ac9d3a3a55a52d7d01e6bd9865f72edf4fbcea73466e20f8269ae9d", func := "shallot/shallotlaw17.QueuePops", spec := "queuePops", apart := false }
def QueuePopsSaid : Prop := queuePopsRow.holds Try.pinned (OpenSpec.ofChange queuePopsSpec)

/-- ITS FALSE NEIGHBOUR: 'it returns false'. Refute it at one input. -/
def queuePopsWrong : ChangeSpec := { name := "queuePops", fn := fun _ => fun
  | [d1, d2] => { results := [.lit (.bool false)], args := [d1, d2] }
  | _ => none }
def QueuePopsWrongFalsely : Prop := queuePopsRow.holds Try.pinned (OpenSpec.ofChange queuePopsWrong)

/-- 'shallotlaw17.QueueEmpties': WHATEVER THE INPUT: true; the input reads as it did. -/
def queueEmptiesSpec : ChangeSpec := { name := "queueEmpties", fn := fun _ => fun
  | [d] => { results := [.lit (.bool true)], args := [d] }
  | _ => none }
def queueEmptiesRow : OpenClaim := { program := "ytmacimnabcjljaa", sum := "f1803c5e9ac9d3a3a55a52d7d01e6bd9865f72edf4fbcea73466e20f8269ae9d", func := "shallot/shallotlaw17.QueueEmpties", spec := "queueEmpties", apart := false }
def QueueEmptiesSaid : Prop := queueEmptiesRow.holds Try.pinned (OpenSpec.ofChange queueEmptiesSpec)

/-- ITS FALSE NEIGHBOUR: 'it returns false'. Refute it at one input. -/
def queueEmptiesWrong : ChangeSpec := { name := "queueEmpties", fn := fun _ => fun
  | [d] => { results := [.lit (.bool false)], args := [d] }
  | _ => none }
def QueueEmptiesWrongFalsely : Prop := queueEmptiesRow.holds Try.pinned (OpenSpec.ofChange queueEmptiesWrong)

/- THE SECOND FORM. 'bulk': how many values and letters a reading holds, each counted each time it is reached (what is shared counts as often as it is met; a slice's spare places count too). A statement '..UptoSaid' is the law's where the arguments, and the package variables that the reading takes, are together of bulk at most 1048576: NARROWER than '..Said'. Prove '..Said' where nothing that the law and all that it calls make is longer than what came in: it says more and counts as full. Else prove '..UptoSaid'. A law counts once. -/
mutual
def uptoBulk {H : Type} : DataW H → Nat
  | .lit (.string bytes) => bytes.length + 1
  | .lit _ => 1
  | .nil => 1
  | .ptr d => uptoBulk d + 1
  | .slice elems spare => uptoBulkAll elems + uptoBulkAll spare + 1
  | .agg parts => uptoBulkAll parts + 1
  | .iface _ d => uptoBulk d + 1
  | .map entries => uptoBulkEntries entries + 1
  | .held _ => 1
def uptoBulkAll {H : Type} : List (DataW H) → Nat
  | [] => 0
  | d :: r => uptoBulk d + uptoBulkAll r
def uptoBulkEntries {H : Type} : List (Lit × DataW H) → Nat
  | [] => 0
  | x :: r => uptoBulkEntry x + uptoBulkEntries r
def uptoBulkEntry {H : Type} : Lit × DataW H → Nat
  | (.string bytes, d) => bytes.length + uptoBulk d + 1
  | (_, d) => uptoBulk d + 1
 end
def uptoSmall : (H : Type) → List (DataW H) → Bool := fun _ ds => decide (uptoBulkAll ds ≤ 1048576)
def OpenSpec.upto (s : _root_.Go.ChangeSpec) : _root_.Go.OpenSpec := { _root_.Go.OpenSpec.ofChange s with cond := some uptoSmall }

/-- 'shallotlaw07.KeyNodes', WHERE WHAT IT READS IS OF BULK AT MOST 1048576: true; the input reads as it did. -/
def keyNodesUptoRow : OpenClaim := { program := "ytmacimnabcjljaa", sum := "f1803c5e9ac9d3a3a55a52d7d01e6bd9865f72edf4fbcea73466e20f8269ae9d", func := "shallot/shallotlaw07.KeyNodes", spec := "keyNodes", apart := false, narrowed := true }
def KeyNodesUptoSaid : Prop := keyNodesUptoRow.holds Try.pinned (OpenSpec.upto keyNodesSpec)

/-- 'shallotlaw07.KeyBack', WHERE WHAT IT READS IS OF BULK AT MOST 1048576: true; the input reads as it did. -/
def keyBackUptoRow : OpenClaim := { program := "ytmacimnabcjljaa", sum := "f1803c5e9ac9d3a3a55a52d7d01e6bd9865f72edf4fbcea73466e20f8269ae9d", func := "shallot/shallotlaw07.KeyBack", spec := "keyBack", apart := false, narrowed := true }
def KeyBackUptoSaid : Prop := keyBackUptoRow.holds Try.pinned (OpenSpec.upto keyBackSpec)

/-- 'shallotlaw07.KeyChecks', WHERE WHAT IT READS IS OF BULK AT MOST 1048576: true; the input reads as it did. -/
def keyChecksUptoRow : OpenClaim := { program := "ytmacimnabcjljaa", sum := "f1803c5e9ac9d3a3a55a52d7d01e6bd9865f72edf4fbcea73466e20f8269ae9d", func := "shallot/shallotlaw07.KeyChecks", spec := "keyChecks", apart := false, narrowed := true }
def KeyChecksUptoSaid : Prop := keyChecksUptoRow.holds Try.pinned (OpenSpec.upto keyChecksSpec)

/-- 'shallotlaw17.QueueRefuses', WHERE WHAT IT READS IS OF BULK AT MOST 1048576: true; the input reads as it did. -/
def queueRefusesUptoRow : OpenClaim := { program := "ytmacimnabcjljaa", sum := "f1803c5e9ac9d3a3a55a52d7d01e6bd9865f72edf4fbcea73466e20f8269ae9d", func := "shallot/shallotlaw17.QueueRefuses", spec := "queueRefuses", apart := false, narrowed := true }
def QueueRefusesUptoSaid : Prop := queueRefusesUptoRow.holds Try.pinned (OpenSpec.upto queueRefusesSpec)

/-- 'shallotlaw07.KeyFirst', WHERE WHAT IT READS IS OF BULK AT MOST 1048576: true; the input reads as it did. -/
def keyFirstUptoRow : OpenClaim := { program := "ytmacimnabcjljaa", sum := "f1803c5e9ac9d3a3a55a52d7d01e6bd9865f72edf4fbcea73466e20f8269ae9d", func := "shallot/shallotlaw07.KeyFirst", spec := "keyFirst", apart := false, narrowed := true }
def KeyFirstUptoSaid : Prop := keyFirstUptoRow.holds Try.pinned (OpenSpec.upto keyFirstSpec)

/-- 'shallotlaw17.QueueDoes', WHERE WHAT IT READS IS OF BULK AT MOST 1048576: true; the input reads as it did. -/
def queueDoesUptoRow : OpenClaim := { program := "ytmacimnabcjljaa", sum := "f1803c5e9ac9d3a3a55a52d7d01e6bd9865f72edf4fbcea73466e20f8269ae9d", func := "shallot/shallotlaw17.QueueDoes", spec := "queueDoes", apart := false, narrowed := true }
def QueueDoesUptoSaid : Prop := queueDoesUptoRow.holds Try.pinned (OpenSpec.upto queueDoesSpec)

/-- 'shallotlaw17.QueueOrder', WHERE WHAT IT READS IS OF BULK AT MOST 1048576: true; the input reads as it did. -/
def queueOrderUptoRow : OpenClaim := { program := "ytmacimnabcjljaa", sum := "f1803c5e9ac9d3a3a55a52d7d01e6bd9865f72edf4fbcea73466e20f8269ae9d", func := "shallot/shallotlaw17.QueueOrder", spec := "queueOrder", apart := false, narrowed := true }
def QueueOrderUptoSaid : Prop := queueOrderUptoRow.holds Try.pinned (OpenSpec.upto queueOrderSpec)

/-- 'shallotlaw17.QueuePops', WHERE WHAT IT READS IS OF BULK AT MOST 1048576: true; the input reads as it did. -/
def queuePopsUptoRow : OpenClaim := { program := "ytmacimnabcjljaa", sum := "f1803c5e9ac9d3a3a55a52d7d01e6bd9865f72edf4fbcea73466e20f8269ae9d", func := "shallot/shallotlaw17.QueuePops", spec := "queuePops", apart := false, narrowed := true }
def QueuePopsUptoSaid : Prop := queuePopsUptoRow.holds Try.pinned (OpenSpec.upto queuePopsSpec)

/-- 'shallotlaw17.QueueEmpties', WHERE WHAT IT READS IS OF BULK AT MOST 1048576: true; the input reads as it did. -/
def queueEmptiesUptoRow : OpenClaim := { program := "ytmacimnabcjljaa", sum := "f1803c5e9ac9d3a3a55a52d7d01e6bd9865f72edf4fbcea73466e20f8269ae9d", func := "shallot/shallotlaw17.QueueEmpties", spec := "queueEmpties", apart := false, narrowed := true }
def QueueEmptiesUptoSaid : Prop := queueEmptiesUptoRow.holds Try.pinned (OpenSpec.upto queueEmptiesSpec)

end Rows
end Go.Proofs.Ytmacimnabcjljaa
