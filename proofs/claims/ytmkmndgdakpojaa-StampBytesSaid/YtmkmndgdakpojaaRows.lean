/-
  No cell of these rows narrows 'for every input' (looked for: loops, veiled, ifaces, maps, wideKeys, modest, calm, conditions, laid).
  DERIVED. THE GIVEN ROWS OF THIS SEAT. 6 by the template 'for every input the law returns true; each argument reads behind the call as it read before'; 0 by the template 'total and deterministic' (their statements: YtmkmndgdakpojaaTotals.lean).
  GIVEN WITH THE SEED: the statements are not yours to turn. If you find one false, say at which input.
  Laid BY PROGRAM, IN A SANDBOX (cutbox-rows.mjs): the forced cells as the released guide's own fill.sh prints them over the translation ea8fab2a540d9f53… (all of the seat's roots in one cut). By AI agents, Wed Nov 11 2026. No macro, syntax, notation, axiom, sorry.
-/
import Derived.Test.YtmkmndgdakpojaaChecked
import GoSem.Claim
import GoSem.ClaimJoined
import GoSem.ClaimMapViews
import Derived.JoinedTies
import Derived.KernelRfl
namespace Go.Proofs.Ytmkmndgdakpojaa
/- THE CELL 'sum', in the pinned program and in every row, IS THE sha256 OF THE DUMP (.gsa) THAT YtmkmndgdakpojaaProg.lean LOADS. Nothing in Lean hashes anything: it is a label: what it is worth is what the hold of that sum in a sandbox is worth. -/
noncomputable def Try.pinned : Pinned := { name := "ytmkmndgdakpojaa", sum := "ea8fab2a540d9f53dc841b6a34dd52b986608f2d73c02af0ef5272e32bf51d23", checked := Try.checked }
namespace Rows
def none {H : Type} : Left H := { results := [], args := [] }

/-- 'shallotlaw04.StampTakes': WHATEVER THE INPUT: true; the input reads as it did. -/
def stampTakesSpec : ChangeSpec := { name := "stampTakes", fn := fun _ => fun
  | [d] => { results := [.lit (.bool true)], args := [d] }
  | _ => none }
def stampTakesRow : OpenClaim := { program := "ytmkmndgdakpojaa", sum := "ea8fab2a540d9f53dc841b6a34dd52b986608f2d73c02af0ef5272e32bf51d23", func := "shallot/shallotlaw04.StampTakes", spec := "stampTakes", apart := false }
def StampTakesSaid : Prop := stampTakesRow.holds Try.pinned (OpenSpec.ofChange stampTakesSpec)

/-- ITS FALSE NEIGHBOUR: 'it returns false'. Refute it at one input. -/
def stampTakesWrong : ChangeSpec := { name := "stampTakes", fn := fun _ => fun
  | [d] => { results := [.lit (.bool false)], args := [d] }
  | _ => none }
def StampTakesWrongFalsely : Prop := stampTakesRow.holds Try.pinned (OpenSpec.ofChange stampTakesWrong)

/-- 'shallotlaw04.StampCuts': WHATEVER THE INPUT: true; the input reads as it did. -/
def stampCutsSpec : ChangeSpec := { name := "stampCuts", fn := fun _ => fun
  | [d1, d2] => { results := [.lit (.bool true)], args := [d1, d2] }
  | _ => none }
def stampCutsRow : OpenClaim := { program := "ytmkmndgdakpojaa", sum := "ea8fab2a540d9f53dc841b6a34dd52b986608f2d73c02af0ef5272e32bf51d23", func := "shallot/shallotlaw04.StampCuts", spec := "stampCuts", apart := false }
def StampCutsSaid : Prop := stampCutsRow.holds Try.pinned (OpenSpec.ofChange stampCutsSpec)

/-- ITS FALSE NEIGHBOUR: 'it returns false'. Refute it at one input. -/
def stampCutsWrong : ChangeSpec := { name := "stampCuts", fn := fun _ => fun
  | [d1, d2] => { results := [.lit (.bool false)], args := [d1, d2] }
  | _ => none }
def StampCutsWrongFalsely : Prop := stampCutsRow.holds Try.pinned (OpenSpec.ofChange stampCutsWrong)

/-- 'shallotlaw04.StampBytes': WHATEVER THE INPUT: true; the input reads as it did. -/
def stampBytesSpec : ChangeSpec := { name := "stampBytes", fn := fun _ => fun
  | [d1, d2] => { results := [.lit (.bool true)], args := [d1, d2] }
  | _ => none }
def stampBytesRow : OpenClaim := { program := "ytmkmndgdakpojaa", sum := "ea8fab2a540d9f53dc841b6a34dd52b986608f2d73c02af0ef5272e32bf51d23", func := "shallot/shallotlaw04.StampBytes", spec := "stampBytes", apart := false }
def StampBytesSaid : Prop := stampBytesRow.holds Try.pinned (OpenSpec.ofChange stampBytesSpec)

/-- ITS FALSE NEIGHBOUR: 'it returns false'. Refute it at one input. -/
def stampBytesWrong : ChangeSpec := { name := "stampBytes", fn := fun _ => fun
  | [d1, d2] => { results := [.lit (.bool false)], args := [d1, d2] }
  | _ => none }
def StampBytesWrongFalsely : Prop := stampBytesRow.holds Try.pinned (OpenSpec.ofChange stampBytesWrong)

/-- 'shallotlaw04.StampTells': WHATEVER THE INPUT: true; the input reads as it did. -/
def stampTellsSpec : ChangeSpec := { name := "stampTells", fn := fun _ => fun
  | [d1, d2] => { results := [.lit (.bool true)], args := [d1, d2] }
  | _ => none }
def stampTellsRow : OpenClaim := { program := "ytmkmndgdakpojaa", sum := "ea8fab2a540d9f53dc841b6a34dd52b986608f2d73c02af0ef5272e32bf51d23", func := "shallot/shallotlaw04.StampTells", spec := "stampTells", apart := false }
def StampTellsSaid : Prop := stampTellsRow.holds Try.pinned (OpenSpec.ofChange stampTellsSpec)

/-- ITS FALSE NEIGHBOUR: 'it returns false'. Refute it at one input. -/
def stampTellsWrong : ChangeSpec := { name := "stampTells", fn := fun _ => fun
  | [d1, d2] => { results := [.lit (.bool false)], args := [d1, d2] }
  | _ => none }
def StampTellsWrongFalsely : Prop := stampTellsRow.holds Try.pinned (OpenSpec.ofChange stampTellsWrong)

/-- 'shallotlaw04.StampBack': WHATEVER THE INPUT: true; the input reads as it did. -/
def stampBackSpec : ChangeSpec := { name := "stampBack", fn := fun _ => fun
  | [d1, d2, d3] => { results := [.lit (.bool true)], args := [d1, d2, d3] }
  | _ => none }
def stampBackRow : OpenClaim := { program := "ytmkmndgdakpojaa", sum := "ea8fab2a540d9f53dc841b6a34dd52b986608f2d73c02af0ef5272e32bf51d23", func := "shallot/shallotlaw04.StampBack", spec := "stampBack", apart := false }
def StampBackSaid : Prop := stampBackRow.holds Try.pinned (OpenSpec.ofChange stampBackSpec)

/-- ITS FALSE NEIGHBOUR: 'it returns false'. Refute it at one input. -/
def stampBackWrong : ChangeSpec := { name := "stampBack", fn := fun _ => fun
  | [d1, d2, d3] => { results := [.lit (.bool false)], args := [d1, d2, d3] }
  | _ => none }
def StampBackWrongFalsely : Prop := stampBackRow.holds Try.pinned (OpenSpec.ofChange stampBackWrong)

/-- 'shallotlaw04.StampOrder': WHATEVER THE INPUT: true; the input reads as it did. -/
def stampOrderSpec : ChangeSpec := { name := "stampOrder", fn := fun _ => fun
  | [d1, d2, d3] => { results := [.lit (.bool true)], args := [d1, d2, d3] }
  | _ => none }
def stampOrderRow : OpenClaim := { program := "ytmkmndgdakpojaa", sum := "ea8fab2a540d9f53dc841b6a34dd52b986608f2d73c02af0ef5272e32bf51d23", func := "shallot/shallotlaw04.StampOrder", spec := "stampOrder", apart := false }
def StampOrderSaid : Prop := stampOrderRow.holds Try.pinned (OpenSpec.ofChange stampOrderSpec)

/-- ITS FALSE NEIGHBOUR: 'it returns false'. Refute it at one input. -/
def stampOrderWrong : ChangeSpec := { name := "stampOrder", fn := fun _ => fun
  | [d1, d2, d3] => { results := [.lit (.bool false)], args := [d1, d2, d3] }
  | _ => none }
def StampOrderWrongFalsely : Prop := stampOrderRow.holds Try.pinned (OpenSpec.ofChange stampOrderWrong)

/- THE SECOND FORM. 'bulk': how many values and letters a reading holds, each counted each time it is reached (what is shared counts as often as it is met; a slice's spare places count too). A statement '..UptoSaid' is the law's where the arguments, and the package variables that the reading takes, are together of bulk at most 1048576: NARROWER than '..Said'. Prove '..Said' where nothing that the law and all that it calls make is longer than what came in: it says more and counts as full. Else prove '..UptoSaid'. A law counts once. -/
mutual
def uptoBulk {H : Type} : DataW H → Nat
  | .lit (.string bytes) => bytes.length + 1
  | .lit _ => 1
  | .nil => 1
  | .ptr d => uptoBulk d + 1
  | .slice elems spare => uptoBulkAll elems + uptoBulkAll spare + 1
  | .agg parts => uptoBulkAll parts + 1
  | .iface _ d => uptoBulk d + 1
  | .map entries => uptoBulkEntries entries + 1
  | .held _ => 1
def uptoBulkAll {H : Type} : List (DataW H) → Nat
  | [] => 0
  | d :: r => uptoBulk d + uptoBulkAll r
def uptoBulkEntries {H : Type} : List (Lit × DataW H) → Nat
  | [] => 0
  | x :: r => uptoBulkEntry x + uptoBulkEntries r
def uptoBulkEntry {H : Type} : Lit × DataW H → Nat
  | (.string bytes, d) => bytes.length + uptoBulk d + 1
  | (_, d) => uptoBulk d + 1
 end
def uptoSmall : (H : Type) → List (DataW H) → Bool := fun _ ds => decide (uptoBulkAll ds ≤ 1048576)
def OpenSpec.upto (s : _root_.Go.ChangeSpec) : _root_.Go.OpenSpec := { _root_.Go.OpenSpec.ofChange s with cond := some uptoSmall }

/-- 'shallotlaw04.StampTakes', WHERE WHAT IT READS IS OF BULK AT MOST 1048576: true; the input reads as it did. -/
def stampTakesUptoRow : OpenClaim := { program := "ytmkmndgdakpojaa", sum := "ea8fab2a540d9f53dc841b6a34dd52b986608f2d73c02af0ef5272e32bf51d23", func := "shallot/shallotlaw04.StampTakes", spec := "stampTakes", apart := false, narrowed := true }
def StampTakesUptoSaid : Prop := stampTakesUptoRow.holds Try.pinned (OpenSpec.upto stampTakesSpec)

/-- 'shallotlaw04.StampCuts', WHERE WHAT IT READS IS OF BULK AT MOST 1048576: true; the input reads as it did. -/
def stampCutsUptoRow : OpenClaim := { program := "ytmkmndgdakpojaa", sum := "ea8fab2a540d9f53dc841b6a34dd52b986608f2d73c02af0ef5272e32bf51d23", func := "shallot/shallotlaw04.StampCuts", spec := "stampCuts", apart := false, narrowed := true }
def StampCutsUptoSaid : Prop := stampCutsUptoRow.holds Try.pinned (OpenSpec.upto stampCutsSpec)

/-- 'shallotlaw04.StampBytes', WHERE WHAT IT READS IS OF BULK AT MOST 1048576: true; the input reads as it did. -/
def stampBytesUptoRow : OpenClaim := { program := "ytmkmndgdakpojaa", sum := "ea8fab2a540d9f53dc841b6a34dd52b986608f2d73c02af0ef5272e32bf51d23", func := "shallot/shallotlaw04.StampBytes", spec := "stampBytes", apart := false, narrowed := true }
def StampBytesUptoSaid : Prop := stampBytesUptoRow.holds Try.pinned (OpenSpec.upto stampBytesSpec)

/-- 'shallotlaw04.StampTells', WHERE WHAT IT READS IS OF BULK AT MOST 1048576: true; the input reads as it did. -/
def stampTellsUptoRow : OpenClaim := { program := "ytmkmndgdakpojaa", sum := "ea8fab2a540d9f53dc841b6a34dd52b986608f2d73c02af0ef5272e32bf51d23", func := "shallot/shallotlaw04.StampTells", spec := "stampTells", apart := false, narrowed := true }
def StampTellsUptoSaid : Prop := stampTellsUptoRow.holds Try.pinned (OpenSpec.upto stampTellsSpec)

/-- 'shallotlaw04.StampBack', WHERE WHAT IT READS IS OF BULK AT MOST 1048576: true; the input reads as it did. -/
def stampBackUptoRow : OpenClaim := { program := "ytmkmndgdakpojaa", sum := "ea8fab2a540d9f53dc841b6a34dd52b986608f2d73c02af0ef5272e32bf51d23", func := "shallot/shallotlaw04.StampBack", spec := "stampBack", apart := false, narrowed := true }
def StampBackUptoSaid : Prop := stampBackUptoRow.holds Try.pinned (OpenSpec.upto stampBackSpec)

/-- 'shallotlaw04.StampOrder', WHERE WHAT IT READS IS OF BULK AT MOST 1048576: true; the input reads as it did. -/
def stampOrderUptoRow : OpenClaim := { program := "ytmkmndgdakpojaa", sum := "ea8fab2a540d9f53dc841b6a34dd52b986608f2d73c02af0ef5272e32bf51d23", func := "shallot/shallotlaw04.StampOrder", spec := "stampOrder", apart := false, narrowed := true }
def StampOrderUptoSaid : Prop := stampOrderUptoRow.holds Try.pinned (OpenSpec.upto stampOrderSpec)

end Rows
end Go.Proofs.Ytmkmndgdakpojaa
