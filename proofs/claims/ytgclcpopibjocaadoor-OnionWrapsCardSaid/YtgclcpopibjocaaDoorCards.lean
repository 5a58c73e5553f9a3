/-
  DERIVED. GIVEN WITH THE SEED: THE CARDS: each row of YtgclcpopibjocaaDoorRows.lean that lists a variable, with what it lists TIED to the program's text (the seventh form; the later family's looks); each row that meets fmt, with fmt's text TOLD by the authors' own Lean function (tested against real Go, not proved from fmt's source: count such statements apart). THE CARD IS WHAT COUNTS. Prove the row's statement (the work); the ties are given (YtgclcpopibjocaaDoorTie.lean); close each card by the builder's one call (the guide's Derived/Test/ToyasCard.lean, 'card_holds'). Laid BY PROGRAM, IN A SANDBOX (cutbox-door.mjs). By AI agents, Wed Nov 11 2026. No macro, syntax, notation, axiom, sorry.
-/
import Derived.Test.YtgclcpopibjocaaDoorRows
import GoSem.ClaimSeven
namespace Go.Proofs.YtgclcpopibjocaaDoor
namespace Rows

/-- THE TIED CARD OF 'shallotlaw07.KeyKeys'. -/
def keyKeysCard : Claim7 := { stood := { row := keyKeysRow, standIns := [], harness := (true, "604c203bac5c13bd54bd7ff5890ba24e52ca0012d4c213f0b50fc9d47d778c78"), looks := false }, kinds := [], alts := [], laidByText := true, laidKinds := [.data], laidTests := true, laidLooks := .later }
def KeyKeysCardSaid : Prop := Claim7.holds Tryd.pinned (.plain (OpenSpec.ofChange keyKeysSpec)) keyKeysCard

/-- THE TIED CARD OF 'shallotlaw07.KeyPairs'. -/
def keyPairsCard : Claim7 := { stood := { row := keyPairsRow, standIns := [], harness := (true, "604c203bac5c13bd54bd7ff5890ba24e52ca0012d4c213f0b50fc9d47d778c78"), looks := false }, kinds := [], alts := [], laidByText := true, laidKinds := [.data], laidTests := true, laidLooks := .later }
def KeyPairsCardSaid : Prop := Claim7.holds Tryd.pinned (.plain (OpenSpec.ofChange keyPairsSpec)) keyPairsCard

/-- THE TIED CARD OF 'shallotlaw08.LayerKeys'. -/
def layerKeysCard : Claim7 := { stood := { row := layerKeysRow, standIns := [], harness := (true, "604c203bac5c13bd54bd7ff5890ba24e52ca0012d4c213f0b50fc9d47d778c78"), looks := false }, kinds := [], alts := [], laidByText := true, laidKinds := [.data], laidTests := true, laidLooks := .later }
def LayerKeysCardSaid : Prop := Claim7.holds Tryd.pinned (.plain (OpenSpec.ofChange layerKeysSpec)) layerKeysCard

/-- THE TIED CARD OF 'shallotlaw09.OnionNonces'. -/
def onionNoncesCard : Claim7 := { stood := { row := onionNoncesRow, standIns := [], harness := (true, "604c203bac5c13bd54bd7ff5890ba24e52ca0012d4c213f0b50fc9d47d778c78"), looks := false }, kinds := [], alts := [], laidByText := true, laidKinds := [.data], laidTests := true, laidLooks := .later }
def OnionNoncesCardSaid : Prop := Claim7.holds Tryd.pinned (.plain (OpenSpec.ofChange onionNoncesSpec)) onionNoncesCard

/-- THE TIED CARD OF 'shallotlaw08.LayerTag'. -/
def layerTagCard : Claim7 := { stood := { row := layerTagRow, standIns := [], harness := (true, "604c203bac5c13bd54bd7ff5890ba24e52ca0012d4c213f0b50fc9d47d778c78"), looks := false }, kinds := [], alts := [], laidByText := true, laidKinds := [.data], laidTests := true, laidLooks := .later }
def LayerTagCardSaid : Prop := Claim7.holds Tryd.pinned (.plain (OpenSpec.ofChange layerTagSpec)) layerTagCard

/-- THE TIED CARD OF 'shallotlaw09.OnionPeels'. -/
def onionPeelsCard : Claim7 := { stood := { row := onionPeelsRow, standIns := [], harness := (true, "604c203bac5c13bd54bd7ff5890ba24e52ca0012d4c213f0b50fc9d47d778c78"), looks := false }, kinds := [], alts := [], laidByText := true, laidKinds := [.data], laidTests := true, laidLooks := .later }
def OnionPeelsCardSaid : Prop := Claim7.holds Tryd.pinned (.plain (OpenSpec.ofChange onionPeelsSpec)) onionPeelsCard

/-- THE TIED CARD OF 'shallotlaw09.OnionPadding'. -/
def onionPaddingCard : Claim7 := { stood := { row := onionPaddingRow, standIns := [], harness := (true, "604c203bac5c13bd54bd7ff5890ba24e52ca0012d4c213f0b50fc9d47d778c78"), looks := false }, kinds := [], alts := [], laidByText := true, laidKinds := [.data], laidTests := true, laidLooks := .later }
def OnionPaddingCardSaid : Prop := Claim7.holds Tryd.pinned (.plain (OpenSpec.ofChange onionPaddingSpec)) onionPaddingCard

/-- THE TIED CARD OF 'shallotlaw09.OnionOuter'. -/
def onionOuterCard : Claim7 := { stood := { row := onionOuterRow, standIns := [], harness := (true, "604c203bac5c13bd54bd7ff5890ba24e52ca0012d4c213f0b50fc9d47d778c78"), looks := false }, kinds := [], alts := [], laidByText := true, laidKinds := [.data], laidTests := true, laidLooks := .later }
def OnionOuterCardSaid : Prop := Claim7.holds Tryd.pinned (.plain (OpenSpec.ofChange onionOuterSpec)) onionOuterCard

/-- THE TIED CARD OF 'shallotlaw09.OnionSize'. -/
def onionSizeCard : Claim7 := { stood := { row := onionSizeRow, standIns := [], harness := (true, "604c203bac5c13bd54bd7ff5890ba24e52ca0012d4c213f0b50fc9d47d778c78"), looks := false }, kinds := [], alts := [], laidByText := true, laidKinds := [.data], laidTests := true, laidLooks := .later }
def OnionSizeCardSaid : Prop := Claim7.holds Tryd.pinned (.plain (OpenSpec.ofChange onionSizeSpec)) onionSizeCard

/-- THE TIED CARD OF 'shallotlaw09.OnionBody'. -/
def onionBodyCard : Claim7 := { stood := { row := onionBodyRow, standIns := [], harness := (true, "604c203bac5c13bd54bd7ff5890ba24e52ca0012d4c213f0b50fc9d47d778c78"), looks := false }, kinds := [], alts := [], laidByText := true, laidKinds := [.data], laidTests := true, laidLooks := .later }
def OnionBodyCardSaid : Prop := Claim7.holds Tryd.pinned (.plain (OpenSpec.ofChange onionBodySpec)) onionBodyCard

/-- THE TIED CARD OF 'shallotlaw09.OnionWraps'. -/
def onionWrapsCard : Claim7 := { stood := { row := onionWrapsRow, standIns := [], harness := (true, "604c203bac5c13bd54bd7ff5890ba24e52ca0012d4c213f0b50fc9d47d778c78"), looks := false }, kinds := [], alts := [], laidByText := true, laidKinds := [.data], laidTests := true, laidLooks := .later }
def OnionWrapsCardSaid : Prop := Claim7.holds Tryd.pinned (.plain (OpenSpec.ofChange onionWrapsSpec)) onionWrapsCard

/-- THE SECOND FORM's CARD OF 'shallotlaw07.KeyKeys'. -/
def keyKeysUptoCard : Claim7 := { stood := { row := keyKeysUptoRow, standIns := [], harness := (true, "604c203bac5c13bd54bd7ff5890ba24e52ca0012d4c213f0b50fc9d47d778c78"), looks := false }, kinds := [], alts := [], laidByText := true, laidKinds := [.data], laidTests := true, laidLooks := .later }
def KeyKeysUptoCardSaid : Prop := Claim7.holds Tryd.pinned (.plain (OpenSpec.upto keyKeysSpec)) keyKeysUptoCard

/-- THE SECOND FORM's CARD OF 'shallotlaw07.KeyPairs'. -/
def keyPairsUptoCard : Claim7 := { stood := { row := keyPairsUptoRow, standIns := [], harness := (true, "604c203bac5c13bd54bd7ff5890ba24e52ca0012d4c213f0b50fc9d47d778c78"), looks := false }, kinds := [], alts := [], laidByText := true, laidKinds := [.data], laidTests := true, laidLooks := .later }
def KeyPairsUptoCardSaid : Prop := Claim7.holds Tryd.pinned (.plain (OpenSpec.upto keyPairsSpec)) keyPairsUptoCard

/-- THE SECOND FORM's CARD OF 'shallotlaw08.LayerKeys'. -/
def layerKeysUptoCard : Claim7 := { stood := { row := layerKeysUptoRow, standIns := [], harness := (true, "604c203bac5c13bd54bd7ff5890ba24e52ca0012d4c213f0b50fc9d47d778c78"), looks := false }, kinds := [], alts := [], laidByText := true, laidKinds := [.data], laidTests := true, laidLooks := .later }
def LayerKeysUptoCardSaid : Prop := Claim7.holds Tryd.pinned (.plain (OpenSpec.upto layerKeysSpec)) layerKeysUptoCard

/-- THE SECOND FORM's CARD OF 'shallotlaw09.OnionNonces'. -/
def onionNoncesUptoCard : Claim7 := { stood := { row := onionNoncesUptoRow, standIns := [], harness := (true, "604c203bac5c13bd54bd7ff5890ba24e52ca0012d4c213f0b50fc9d47d778c78"), looks := false }, kinds := [], alts := [], laidByText := true, laidKinds := [.data], laidTests := true, laidLooks := .later }
def OnionNoncesUptoCardSaid : Prop := Claim7.holds Tryd.pinned (.plain (OpenSpec.upto onionNoncesSpec)) onionNoncesUptoCard

/-- THE SECOND FORM's CARD OF 'shallotlaw08.LayerTag'. -/
def layerTagUptoCard : Claim7 := { stood := { row := layerTagUptoRow, standIns := [], harness := (true, "604c203bac5c13bd54bd7ff5890ba24e52ca0012d4c213f0b50fc9d47d778c78"), looks := false }, kinds := [], alts := [], laidByText := true, laidKinds := [.data], laidTests := true, laidLooks := .later }
def LayerTagUptoCardSaid : Prop := Claim7.holds Tryd.pinned (.plain (OpenSpec.upto layerTagSpec)) layerTagUptoCard

/-- THE SECOND FORM's CARD OF 'shallotlaw09.OnionPeels'. -/
def onionPeelsUptoCard : Claim7 := { stood := { row := onionPeelsUptoRow, standIns := [], harness := (true, "604c203bac5c13bd54bd7ff5890ba24e52ca0012d4c213f0b50fc9d47d778c78"), looks := false }, kinds := [], alts := [], laidByText := true, laidKinds := [.data], laidTests := true, laidLooks := .later }
def OnionPeelsUptoCardSaid : Prop := Claim7.holds Tryd.pinned (.plain (OpenSpec.upto onionPeelsSpec)) onionPeelsUptoCard

/-- THE SECOND FORM's CARD OF 'shallotlaw09.OnionPadding'. -/
def onionPaddingUptoCard : Claim7 := { stood := { row := onionPaddingUptoRow, standIns := [], harness := (true, "604c203bac5c13bd54bd7ff5890ba24e52ca0012d4c213f0b50fc9d47d778c78"), looks := false }, kinds := [], alts := [], laidByText := true, laidKinds := [.data], laidTests := true, laidLooks := .later }
def OnionPaddingUptoCardSaid : Prop := Claim7.holds Tryd.pinned (.plain (OpenSpec.upto onionPaddingSpec)) onionPaddingUptoCard

/-- THE SECOND FORM's CARD OF 'shallotlaw09.OnionOuter'. -/
def onionOuterUptoCard : Claim7 := { stood := { row := onionOuterUptoRow, standIns := [], harness := (true, "604c203bac5c13bd54bd7ff5890ba24e52ca0012d4c213f0b50fc9d47d778c78"), looks := false }, kinds := [], alts := [], laidByText := true, laidKinds := [.data], laidTests := true, laidLooks := .later }
def OnionOuterUptoCardSaid : Prop := Claim7.holds Tryd.pinned (.plain (OpenSpec.upto onionOuterSpec)) onionOuterUptoCard

/-- THE SECOND FORM's CARD OF 'shallotlaw09.OnionSize'. -/
def onionSizeUptoCard : Claim7 := { stood := { row := onionSizeUptoRow, standIns := [], harness := (true, "604c203bac5c13bd54bd7ff5890ba24e52ca0012d4c213f0b50fc9d47d778c78"), looks := false }, kinds := [], alts := [], laidByText := true, laidKinds := [.data], laidTests := true, laidLooks := .later }
def OnionSizeUptoCardSaid : Prop := Claim7.holds Tryd.pinned (.plain (OpenSpec.upto onionSizeSpec)) onionSizeUptoCard

/-- THE SECOND FORM's CARD OF 'shallotlaw09.OnionBody'. -/
def onionBodyUptoCard : Claim7 := { stood := { row := onionBodyUptoRow, standIns := [], harness := (true, "604c203bac5c13bd54bd7ff5890ba24e52ca0012d4c213f0b50fc9d47d778c78"), looks := false }, kinds := [], alts := [], laidByText := true, laidKinds := [.data], laidTests := true, laidLooks := .later }
def OnionBodyUptoCardSaid : Prop := Claim7.holds Tryd.pinned (.plain (OpenSpec.upto onionBodySpec)) onionBodyUptoCard

/-- THE SECOND FORM's CARD OF 'shallotlaw09.OnionWraps'. -/
def onionWrapsUptoCard : Claim7 := { stood := { row := onionWrapsUptoRow, standIns := [], harness := (true, "604c203bac5c13bd54bd7ff5890ba24e52ca0012d4c213f0b50fc9d47d778c78"), looks := false }, kinds := [], alts := [], laidByText := true, laidKinds := [.data], laidTests := true, laidLooks := .later }
def OnionWrapsUptoCardSaid : Prop := Claim7.holds Tryd.pinned (.plain (OpenSpec.upto onionWrapsSpec)) onionWrapsUptoCard
end Rows
end Go.Proofs.YtgclcpopibjocaaDoor
