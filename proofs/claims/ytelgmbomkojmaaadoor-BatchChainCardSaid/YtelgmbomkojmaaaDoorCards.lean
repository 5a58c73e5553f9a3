/-
  DERIVED. GIVEN WITH THE SEED: THE CARDS: each row of YtelgmbomkojmaaaDoorRows.lean that lists a variable, with what it lists TIED to the program's text (the seventh form; the later family's looks); each row that meets fmt, with fmt's text TOLD by the authors' own Lean function (tested against real Go, not proved from fmt's source: count such statements apart). THE CARD IS WHAT COUNTS. Prove the row's statement (the work); the ties are given (YtelgmbomkojmaaaDoorTie.lean); close each card by the builder's one call (the guide's Derived/Test/ToyasCard.lean, 'card_holds'). Laid BY PROGRAM, IN A SANDBOX (cutbox-door.mjs). By AI agents, Wed Nov 11 2026. No macro, syntax, notation, axiom, sorry.
-/
import Derived.Test.YtelgmbomkojmaaaDoorRows
import GoSem.ClaimSeven
namespace Go.Proofs.YtelgmbomkojmaaaDoor
namespace Rows

/-- THE TIED CARD OF 'shallotlaw12.BatchBacks'. -/
def batchBacksCard : Claim7 := { stood := { row := batchBacksRow, standIns := [], harness := (true, "fd2a73f1ee9aeb70e659e922ecc724942c5168cf4f8065518491f35013a5df84"), looks := false }, kinds := [], alts := [], goes := true, laidByText := true, laidKinds := [.data], laidTests := true, laidLooks := .later }
def BatchBacksCardSaid : Prop := Claim7.holds Tryd.pinned (.plain (OpenSpec.ofChange batchBacksSpec)) batchBacksCard

/-- THE TIED CARD OF 'shallotlaw12.BatchOnce'. -/
def batchOnceCard : Claim7 := { stood := { row := batchOnceRow, standIns := [], harness := (true, "fd2a73f1ee9aeb70e659e922ecc724942c5168cf4f8065518491f35013a5df84"), looks := false }, kinds := [], alts := [], goes := true, laidByText := true, laidKinds := [.data], laidTests := true, laidLooks := .later }
def BatchOnceCardSaid : Prop := Claim7.holds Tryd.pinned (.plain (OpenSpec.ofChange batchOnceSpec)) batchOnceCard

/-- THE TIED CARD OF 'shallotlaw12.BatchReply'. -/
def batchReplyCard : Claim7 := { stood := { row := batchReplyRow, standIns := [], harness := (true, "fd2a73f1ee9aeb70e659e922ecc724942c5168cf4f8065518491f35013a5df84"), looks := false }, kinds := [], alts := [], goes := true, laidByText := true, laidKinds := [.data], laidTests := true, laidLooks := .later }
def BatchReplyCardSaid : Prop := Claim7.holds Tryd.pinned (.plain (OpenSpec.ofChange batchReplySpec)) batchReplyCard

/-- THE TIED CARD OF 'shallotlaw12.BatchChain'. -/
def batchChainCard : Claim7 := { stood := { row := batchChainRow, standIns := [], harness := (true, "fd2a73f1ee9aeb70e659e922ecc724942c5168cf4f8065518491f35013a5df84"), looks := false }, kinds := [], alts := [], goes := true, laidByText := true, laidKinds := [.data], laidTests := true, laidLooks := .later }
def BatchChainCardSaid : Prop := Claim7.holds Tryd.pinned (.plain (OpenSpec.ofChange batchChainSpec)) batchChainCard

/-- THE TIED CARD OF 'shallotlaw12.BatchDraws'. -/
def batchDrawsCard : Claim7 := { stood := { row := batchDrawsRow, standIns := [], harness := (true, "fd2a73f1ee9aeb70e659e922ecc724942c5168cf4f8065518491f35013a5df84"), looks := false }, kinds := [], alts := [], goes := true, laidByText := true, laidKinds := [.data], laidTests := true, laidLooks := .later }
def BatchDrawsCardSaid : Prop := Claim7.holds Tryd.pinned (.plain (OpenSpec.ofChange batchDrawsSpec)) batchDrawsCard

/-- THE SECOND FORM's CARD OF 'shallotlaw12.BatchBacks'. -/
def batchBacksUptoCard : Claim7 := { stood := { row := batchBacksUptoRow, standIns := [], harness := (true, "fd2a73f1ee9aeb70e659e922ecc724942c5168cf4f8065518491f35013a5df84"), looks := false }, kinds := [], alts := [], goes := true, laidByText := true, laidKinds := [.data], laidTests := true, laidLooks := .later }
def BatchBacksUptoCardSaid : Prop := Claim7.holds Tryd.pinned (.plain (OpenSpec.upto batchBacksSpec)) batchBacksUptoCard

/-- THE SECOND FORM's CARD OF 'shallotlaw12.BatchOnce'. -/
def batchOnceUptoCard : Claim7 := { stood := { row := batchOnceUptoRow, standIns := [], harness := (true, "fd2a73f1ee9aeb70e659e922ecc724942c5168cf4f8065518491f35013a5df84"), looks := false }, kinds := [], alts := [], goes := true, laidByText := true, laidKinds := [.data], laidTests := true, laidLooks := .later }
def BatchOnceUptoCardSaid : Prop := Claim7.holds Tryd.pinned (.plain (OpenSpec.upto batchOnceSpec)) batchOnceUptoCard

/-- THE SECOND FORM's CARD OF 'shallotlaw12.BatchReply'. -/
def batchReplyUptoCard : Claim7 := { stood := { row := batchReplyUptoRow, standIns := [], harness := (true, "fd2a73f1ee9aeb70e659e922ecc724942c5168cf4f8065518491f35013a5df84"), looks := false }, kinds := [], alts := [], goes := true, laidByText := true, laidKinds := [.data], laidTests := true, laidLooks := .later }
def BatchReplyUptoCardSaid : Prop := Claim7.holds Tryd.pinned (.plain (OpenSpec.upto batchReplySpec)) batchReplyUptoCard

/-- THE SECOND FORM's CARD OF 'shallotlaw12.BatchChain'. -/
def batchChainUptoCard : Claim7 := { stood := { row := batchChainUptoRow, standIns := [], harness := (true, "fd2a73f1ee9aeb70e659e922ecc724942c5168cf4f8065518491f35013a5df84"), looks := false }, kinds := [], alts := [], goes := true, laidByText := true, laidKinds := [.data], laidTests := true, laidLooks := .later }
def BatchChainUptoCardSaid : Prop := Claim7.holds Tryd.pinned (.plain (OpenSpec.upto batchChainSpec)) batchChainUptoCard

/-- THE SECOND FORM's CARD OF 'shallotlaw12.BatchDraws'. -/
def batchDrawsUptoCard : Claim7 := { stood := { row := batchDrawsUptoRow, standIns := [], harness := (true, "fd2a73f1ee9aeb70e659e922ecc724942c5168cf4f8065518491f35013a5df84"), looks := false }, kinds := [], alts := [], goes := true, laidByText := true, laidKinds := [.data], laidTests := true, laidLooks := .later }
def BatchDrawsUptoCardSaid : Prop := Claim7.holds Tryd.pinned (.plain (OpenSpec.upto batchDrawsSpec)) batchDrawsUptoCard
end Rows
end Go.Proofs.YtelgmbomkojmaaaDoor
